/- Trees, printed by gen/k3.py: a nil disk. -/
import Derived.Test.YtnhhaidlpbkmjaaDn1
import Derived.Test.YtnhhaidlpbkmjaaDr1b
set_option linter.unusedVariables false
set_option linter.unusedSimpArgs false
set_option linter.unusedSectionVars false
namespace Go.Ax
open Go.Proofs Go.RowKit
set_option maxRecDepth 100000

noncomputable def TNCreate (nm : ByteArray) : Tree :=
.leaf ⟨[0], []⟩ [] .ret (some ([(0, vi 1)], []))

theorem TNCreate_chk (nm : ByteArray) : fnC DP ΓF ΔN Try.f11 [.p (.v (.pointer none)), vs nm] [] (TNCreate nm) = TNCreate nm := by kernel_rfl

noncomputable def TNAppend (nm : ByteArray) : Tree :=
.callr (some 13) (ΔN 33 [.p (.v (.pointer none)), vs nm] [] (.tup [.p (.v (.pointer none)), vi 1]) []) (.tup [.p (.v (.pointer none)), vi 1]) [] (.leaf ⟨[0], []⟩ [] .ret (some ([(0, vi 1)], [])))

theorem TNAppend_chk (nm : ByteArray) : fnC DP ΓF ΔN Try.f12 [.p (.v (.pointer none)), vs nm, nilS] [] (TNAppend nm) = TNAppend nm := by kernel_rfl

noncomputable def TNSync (nm : ByteArray) : Tree :=
.callr (some 11) (ΔN 33 [.p (.v (.pointer none)), vs nm] [] (.tup [.p (.v (.pointer none)), vi 1]) []) (.tup [.p (.v (.pointer none)), vi 1]) [] (.leaf ⟨[0], []⟩ [] .ret (some ([(0, vi 1)], [])))

theorem TNSync_chk (nm : ByteArray) : fnC DP ΓF ΔN Try.f13 [.p (.v (.pointer none)), vs nm] [] (TNSync nm) = TNSync nm := by kernel_rfl

noncomputable def TNRename (nm : ByteArray) (nn : ByteArray) : Tree :=
.leaf ⟨[0], []⟩ [] .ret (some ([(0, vi 1)], []))

theorem TNRename_chk (nm : ByteArray) (nn : ByteArray) : fnC DP ΓF ΔN Try.f20 [.p (.v (.pointer none)), vs nm, vs nn] [] (TNRename nm nn) = TNRename nm nn := by kernel_rfl

noncomputable def TNRemove (nm : ByteArray) : Tree :=
.callr (some 11) (ΔN 33 [.p (.v (.pointer none)), vs nm] [] (.tup [.p (.v (.pointer none)), vi 1]) []) (.tup [.p (.v (.pointer none)), vi 1]) [] (.leaf ⟨[0], []⟩ [] .ret (some ([(0, vi 1)], [])))

theorem TNRemove_chk (nm : ByteArray) : fnC DP ΓF ΔN Try.f21 [.p (.v (.pointer none)), vs nm] [] (TNRemove nm) = TNRemove nm := by kernel_rfl

noncomputable def TNRead (nm : ByteArray) (ofs : Int) (n : Int) : Tree :=
.callr (some 15) (ΔN 33 [.p (.v (.pointer none)), vs nm] [] (.tup [.p (.v (.pointer none)), vi 1]) []) (.tup [.p (.v (.pointer none)), vi 1]) [] (.leaf ⟨[0], []⟩ [] .ret (some ([(0, .tup [nilS, vi 1])], [])))

theorem TNRead_chk (nm : ByteArray) (ofs : Int) (n : Int) : fnC DP ΓF ΔN Try.f15 [.p (.v (.pointer none)), vs nm, vi ofs, vi n] [] (TNRead nm ofs n) = TNRead nm ofs n := by kernel_rfl

noncomputable def TNSize (nm : ByteArray) : Tree :=
.callr (some 11) (ΔN 33 [.p (.v (.pointer none)), vs nm] [] (.tup [.p (.v (.pointer none)), vi 1]) []) (.tup [.p (.v (.pointer none)), vi 1]) [] (.leaf ⟨[0], []⟩ [] .ret (some ([(0, .tup [vi 0, vi 1])], [])))

theorem TNSize_chk (nm : ByteArray) : fnC DP ΓF ΔN Try.f22 [.p (.v (.pointer none)), vs nm] [] (TNSize nm) = TNSize nm := by kernel_rfl

noncomputable def TNList : Tree :=
.leaf ⟨[0], []⟩ [] .ret (some ([(0, nilS)], []))

theorem TNList_chk : fnC DP ΓF ΔN Try.f18 [.p (.v (.pointer none))] [] (TNList) = TNList := by kernel_rfl

noncomputable def TNUsed : Tree :=
.leaf ⟨[0], []⟩ [] .ret (some ([(0, vi 0)], []))

theorem TNUsed_chk : fnC DP ΓF ΔN Try.f19 [.p (.v (.pointer none))] [] (TNUsed) = TNUsed := by kernel_rfl

noncomputable def TNRoom : Tree :=
.leaf ⟨[0], []⟩ [] .ret (some ([(0, vi 0)], []))

theorem TNRoom_chk : fnC DP ΓF ΔN Try.f32 [.p (.v (.pointer none))] [] (TNRoom) = TNRoom := by kernel_rfl

noncomputable def TNDown : Tree :=
.leaf ⟨[0], []⟩ [] .ret (some ([(0, vb false)], []))

theorem TNDown_chk : fnC DP ΓF ΔN Try.f17 [.p (.v (.pointer none))] [] (TNDown) = TNDown := by kernel_rfl

noncomputable def TNFuse (n : Int) : Tree :=
.leaf ⟨[0], []⟩ [] .ret (some ([(0, .tup [])], []))

theorem TNFuse_chk (n : Int) : fnC DP ΓF ΔN Try.f16 [.p (.v (.pointer none)), vi n] [] (TNFuse n) = TNFuse n := by kernel_rfl

noncomputable def TNCrash : Tree :=
.leaf ⟨[0], []⟩ [] .ret (some ([(0, .tup [])], []))

theorem TNCrash_chk : fnC DP ΓF ΔN Try.f14 [.p (.v (.pointer none)), nilS] [] (TNCrash) = TNCrash := by kernel_rfl

noncomputable def TNSpoil (nm : ByteArray) (ofs : Int) (bits : UInt8) : Tree :=
.callr (some 14) (ΔN 33 [.p (.v (.pointer none)), vs nm] [] (.tup [.p (.v (.pointer none)), vi 1]) []) (.tup [.p (.v (.pointer none)), vi 1]) [] (.leaf ⟨[0], []⟩ [] .ret (some ([(0, vi 1)], [])))

theorem TNSpoil_chk (nm : ByteArray) (ofs : Int) (bits : UInt8) : fnC DP ΓF ΔN Try.f24 [.p (.v (.pointer none)), vs nm, vi ofs, vn .u8 (bits.toNat : Int)] [] (TNSpoil nm ofs bits) = TNSpoil nm ofs bits := by kernel_rfl

noncomputable def TNClone : Tree :=
.leaf ⟨[0], []⟩ [] .ret (some ([(0, .p (.v (.pointer none)))], []))

theorem TNClone_chk : fnC DP ΓF ΔN Try.f27 [.p (.v (.pointer none))] [] (TNClone) = TNClone := by kernel_rfl

abbrev iNamedL : Nat := 30
noncomputable abbrev nNamedL : Func := Try.f30
theorem hfNamedL : DP.funcs[iNamedL]? = some nNamedL := by kernel_rfl
theorem heNamedL : enters DP iNamedL = true := by kernel_rfl
theorem hbNamedL : nNamedL.body.isSome = true := by kernel_rfl
theorem hnNamedL : nNamedL.ntmps = 41 := by kernel_rfl

noncomputable def TNamedL_l1_e (nm : ByteArray) (s1 : Int) : St := ([(0, vs nm), (3, vi s1)], [])
noncomputable def TNamedL_l1_x (x1 : Unit) : AE × St := (.ret, ([(2, vb false)], []))
noncomputable def TNamedL_l1_x' (y1 : Unit) : AE × St := ((.exit 0), ([], []))
noncomputable def TNamedL_l1_b (nm : ByteArray) (s1 : Int) : Tree :=
.sp 16 (decide (s1 < (nm.size : Int))) (
.sidx 21 nm s1 (fun c1 => .sp 23 (decide ((c1.toNat : Int) ≥ (97 : Int))) (
.sp 26 (decide ((c1.toNat : Int) ≤ (122 : Int))) (
.int 18 (IntKind.i64.wrap (s1 + 1)) (s1 + 1) (.leaf ⟨[0, 3], []⟩ [] .normal (some (TNamedL_l1_e nm (s1 + 1))))) (
.sp 30 (decide ((c1.toNat : Int) ≥ (48 : Int))) (
.sp 33 (decide ((c1.toNat : Int) ≤ (57 : Int))) (
.int 18 (IntKind.i64.wrap (s1 + 1)) (s1 + 1) (.leaf ⟨[0, 3], []⟩ [] .normal (some (TNamedL_l1_e nm (s1 + 1))))) (
.sp 38 ((c1.toNat : Int) == (46 : Int)) (
.int 18 (IntKind.i64.wrap (s1 + 1)) (s1 + 1) (.leaf ⟨[0, 3], []⟩ [] .normal (some (TNamedL_l1_e nm (s1 + 1))))) (
.leaf ⟨[2], []⟩ [] .ret (some (TNamedL_l1_x ()).2)))) (
.sp 38 ((c1.toNat : Int) == (46 : Int)) (
.int 18 (IntKind.i64.wrap (s1 + 1)) (s1 + 1) (.leaf ⟨[0, 3], []⟩ [] .normal (some (TNamedL_l1_e nm (s1 + 1))))) (
.leaf ⟨[2], []⟩ [] .ret (some (TNamedL_l1_x ()).2))))) (
.sp 30 (decide ((c1.toNat : Int) ≥ (48 : Int))) (
.sp 33 (decide ((c1.toNat : Int) ≤ (57 : Int))) (
.int 18 (IntKind.i64.wrap (s1 + 1)) (s1 + 1) (.leaf ⟨[0, 3], []⟩ [] .normal (some (TNamedL_l1_e nm (s1 + 1))))) (
.sp 38 ((c1.toNat : Int) == (46 : Int)) (
.int 18 (IntKind.i64.wrap (s1 + 1)) (s1 + 1) (.leaf ⟨[0, 3], []⟩ [] .normal (some (TNamedL_l1_e nm (s1 + 1))))) (
.leaf ⟨[2], []⟩ [] .ret (some (TNamedL_l1_x ()).2)))) (
.sp 38 ((c1.toNat : Int) == (46 : Int)) (
.int 18 (IntKind.i64.wrap (s1 + 1)) (s1 + 1) (.leaf ⟨[0, 3], []⟩ [] .normal (some (TNamedL_l1_e nm (s1 + 1))))) (
.leaf ⟨[2], []⟩ [] .ret (some (TNamedL_l1_x ()).2)))))) (
.leaf ⟨[], []⟩ [] (.exit 0) (some (TNamedL_l1_x' ()).2))
noncomputable def TNamedL (nm : ByteArray) : Tree :=
.sp 7 ((nm.size : Int) == (0 : Int)) (
.leaf ⟨[0], []⟩ [] .ret (some ([(0, vb false)], []))) (
.sp 11 (decide ((nm.size : Int) > (40 : Int))) (
.leaf ⟨[0], []⟩ [] .ret (some ([(0, vb false)], []))) (
.loop ⟨[0, 3], []⟩ [] (some (TNamedL_l1_e nm 0)) (TNamedL_l1_e nm) (TNamedL_l1_x) (TNamedL_l1_x') 0 (TNamedL_l1_b nm) (fun (x1 : Unit) => .leaf ⟨[0], []⟩ [] .ret (some ([(0, vb false)], []))) (fun (y1 : Unit) => .leaf ⟨[0], []⟩ [] .ret (some ([(0, vb true)], [])))))

theorem TNamedL_chk (nm : ByteArray) : fnC DP Γ0 Δ0 Try.f30 [vs nm] [] (TNamedL nm) = TNamedL nm := by kernel_rfl

end Go.Ax

namespace Go.Ax
open Go.Proofs Go.RowKit
set_option maxRecDepth 100000

/-- No boxes, this answer. -/
def nilR (al : List AV → Prop) (y : AV) : RSpec := fun args B r B' => ∃ l, al l ∧ args = nilP :: l ∧ B = [] ∧ r = y ∧ B' = []

section
variable {fn : Func} {i : Nat}
theorem nil_ok (hf : DP.funcs[i]? = some fn) (he : enters DP i = true) (hb : fn.body.isSome = true) {al : List AV → Prop} {y : AV} (h : ∀ l, al l → GenT DP ΓF ΔN fn (nilP :: l) [] (y, [])) : SoundR DP i (nilR al y) :=
  sound_genT mixedD ΓF_ok ΔN_ok hf he hb (by rintro args B r B' ⟨l, hl, rfl, rfl, rfl, rfl⟩; exact h l hl)
end

def aNm : List AV → Prop := fun l => ∃ nm : ByteArray, l = [vs nm]
def aN0 : List AV → Prop := fun l => l = []

theorem NCreate : SoundR DP iCreate (nilR aNm (vi 1)) := nil_ok hfCreate heCreate hbCreate (by
  rintro l ⟨nm, rfl⟩; exact ⟨by rw [hnCreate]; rfl, _, TNCreate_chk nm, by unfold TNCreate; exact wp_leaf rfl ⟨rfl, rfl⟩⟩)
theorem NAppend : SoundR DP iAppend (nilR (fun l => ∃ nm : ByteArray, l = [vs nm, nilS]) (vi 1)) := nil_ok hfAppend heAppend hbAppend (by
  rintro l ⟨nm, rfl⟩; exact ⟨by rw [hnAppend]; rfl, _, TNAppend_chk nm, by unfold TNAppend; exact wp_callr (dNFind nm) (wp_leaf rfl ⟨rfl, rfl⟩)⟩)
theorem NSync : SoundR DP iSync (nilR aNm (vi 1)) := nil_ok hfSync heSync hbSync (by
  rintro l ⟨nm, rfl⟩; exact ⟨by rw [hnSync]; rfl, _, TNSync_chk nm, by unfold TNSync; exact wp_callr (dNFind nm) (wp_leaf rfl ⟨rfl, rfl⟩)⟩)
theorem NRename : SoundR DP iRename (nilR (fun l => ∃ nm nn : ByteArray, l = [vs nm, vs nn]) (vi 1)) := nil_ok hfRename heRename hbRename (by
  rintro l ⟨nm, nn, rfl⟩; exact ⟨by rw [hnRename]; rfl, _, TNRename_chk nm nn, by unfold TNRename; exact wp_leaf rfl ⟨rfl, rfl⟩⟩)
theorem NRemove : SoundR DP iRemove (nilR aNm (vi 1)) := nil_ok hfRemove heRemove hbRemove (by
  rintro l ⟨nm, rfl⟩; exact ⟨by rw [hnRemove]; rfl, _, TNRemove_chk nm, by unfold TNRemove; exact wp_callr (dNFind nm) (wp_leaf rfl ⟨rfl, rfl⟩)⟩)
theorem NRead : SoundR DP iRead (nilR (fun l => ∃ (nm : ByteArray) (o n : Int), l = [vs nm, vi o, vi n]) (.tup [nilS, vi 1])) := nil_ok hfRead heRead hbRead (by
  rintro l ⟨nm, o, n, rfl⟩; exact ⟨by rw [hnRead]; rfl, _, TNRead_chk nm o n, by unfold TNRead; exact wp_callr (dNFind nm) (wp_leaf rfl ⟨rfl, rfl⟩)⟩)
theorem NSize : SoundR DP iSize (nilR aNm (.tup [vi 0, vi 1])) := nil_ok hfSize heSize hbSize (by
  rintro l ⟨nm, rfl⟩; exact ⟨by rw [hnSize]; rfl, _, TNSize_chk nm, by unfold TNSize; exact wp_callr (dNFind nm) (wp_leaf rfl ⟨rfl, rfl⟩)⟩)
theorem NList : SoundR DP iList (nilR aN0 nilS) := nil_ok hfList heList hbList (by
  rintro l rfl; exact ⟨by rw [hnList]; rfl, _, TNList_chk, by unfold TNList; exact wp_leaf rfl ⟨rfl, rfl⟩⟩)
theorem NUsed : SoundR DP iUsed (nilR aN0 (vi 0)) := nil_ok hfUsed heUsed hbUsed (by
  rintro l rfl; exact ⟨by rw [hnUsed]; rfl, _, TNUsed_chk, by unfold TNUsed; exact wp_leaf rfl ⟨rfl, rfl⟩⟩)
theorem NRoom : SoundR DP iRoom (nilR aN0 (vi 0)) := nil_ok hfRoom heRoom hbRoom (by
  rintro l rfl; exact ⟨by rw [hnRoom]; rfl, _, TNRoom_chk, by unfold TNRoom; exact wp_leaf rfl ⟨rfl, rfl⟩⟩)
theorem NDown : SoundR DP iDown (nilR aN0 (vb false)) := nil_ok hfDown heDown hbDown (by
  rintro l rfl; exact ⟨by rw [hnDown]; rfl, _, TNDown_chk, by unfold TNDown; exact wp_leaf rfl ⟨rfl, rfl⟩⟩)
theorem NFuse : SoundR DP iFuse (nilR (fun l => ∃ n : Int, l = [vi n]) (.tup [])) := nil_ok hfFuse heFuse hbFuse (by
  rintro l ⟨n, rfl⟩; exact ⟨by rw [hnFuse]; rfl, _, TNFuse_chk n, by unfold TNFuse; exact wp_leaf rfl ⟨rfl, rfl⟩⟩)
theorem NCrash : SoundR DP iCrash (nilR (fun l => l = [nilS]) (.tup [])) := nil_ok hfCrash heCrash hbCrash (by
  rintro l rfl; exact ⟨by rw [hnCrash]; rfl, _, TNCrash_chk, by unfold TNCrash; exact wp_leaf rfl ⟨rfl, rfl⟩⟩)
theorem NSpoil : SoundR DP iSpoil (nilR (fun l => ∃ (nm : ByteArray) (o : Int) (bits : UInt8), l = [vs nm, vi o, vn .u8 (bits.toNat : Int)]) (vi 1)) := nil_ok hfSpoil heSpoil hbSpoil (by
  rintro l ⟨nm, o, bits, rfl⟩; exact ⟨by rw [hnSpoil]; rfl, _, TNSpoil_chk nm o bits, by unfold TNSpoil; exact wp_callr (dNFind nm) (wp_leaf rfl ⟨rfl, rfl⟩)⟩)
theorem NClone : SoundR DP iClone (nilR aN0 nilP) := nil_ok hfClone heClone hbClone (by
  rintro l rfl; exact ⟨by rw [hnClone]; rfl, _, TNClone_chk, by unfold TNClone; exact wp_leaf rfl ⟨rfl, rfl⟩⟩)

/-- .. whatever boxes there are. -/
theorem lift_nil {al : List AV → Prop} {y : AV} {l : List AV} (h : al l) (hl : l.all isPl = true) (hy : y.low 0 = true) (B : List Box) : liftR (nilR al y) (nilP :: l) B y B := by
  have hy' : ∀ f d, y.rv f d = y := fun f d => rv_low (n := 0) (fun j hj => by omega) (fun j hj => by omega) hy
  refine ⟨_, _, _, _, ⟨l, h, rfl, rfl, rfl, rfl⟩, ⟨[], [], [], [], [], rfl, rfl, ?_, ?_, trivial, trivial, ?_, (hy' _ _).symm, hy⟩⟩
  · rw [AV.rv.rvL, isPl_id hl]; rfl
  · rw [AV.low.allLow, isPl_low hl]; rfl
  · simp [outB]

/-! ### The law's own word on names -/
theorem ok_of {c : UInt8} (h : (97 ≤ c.toNat ∧ c.toNat ≤ 122) ∨ (48 ≤ c.toNat ∧ c.toNat ≤ 57) ∨ c.toNat = 46) : okChar c = true := by
  unfold okChar
  simp only [Bool.or_eq_true, Bool.and_eq_true, decide_eq_true_eq, beq_iff_eq]
  omega
theorem no_of {c : UInt8} (h : ¬ ((97 ≤ c.toNat ∧ c.toNat ≤ 122) ∨ (48 ≤ c.toNat ∧ c.toNat ≤ 57) ∨ c.toNat = 46)) : okChar c = false := by
  rw [Bool.eq_false_iff]
  intro h'
  unfold okChar at h'
  simp only [Bool.or_eq_true, Bool.and_eq_true, decide_eq_true_eq, beq_iff_eq] at h'
  omega

theorem namedL_body (nm : ByteArray) (i : Nat) (c : UInt8) (hc : nm[i]? = some c) (hi : i < nm.size) (hs : nm.size ≤ 40) {K : AE → St → Prop} (h1 : okChar c = true → K .normal (TNamedL_l1_e nm ((i : Int) + 1))) (h2 : okChar c = false → K .ret (TNamedL_l1_x ()).2) : (TNamedL_l1_b nm (i : Int)).wp K := by
  unfold TNamedL_l1_b
  refine wp_sp (fun _ => ⟨by omega, c, by simpa using hc, ?_⟩) (fun h => absurd (of_decide_eq_false h) (by omega))
  have yes : ∀ (_ : okChar c = true), (Tree.int 18 (IntKind.i64.wrap ((i : Int) + 1)) ((i : Int) + 1) (.leaf ⟨[0, 3], []⟩ [] .normal (some (TNamedL_l1_e nm ((i : Int) + 1))))).wp K := fun h => wp_i64 (by omega) (wp_leaf rfl (h1 h))
  have no : ∀ (_ : okChar c = false), (Tree.leaf ⟨[2], []⟩ [] .ret (some (TNamedL_l1_x ()).2)).wp K := fun h => wp_leaf rfl (h2 h)
  refine wp_sp (fun a => wp_sp (fun b => yes ?_) (fun b => wp_sp (fun d => wp_sp (fun e => yes ?_) (fun e => wp_sp (fun f => yes ?_) (fun f => no ?_))) (fun d => wp_sp (fun f => yes ?_) (fun f => no ?_)))) (fun a => wp_sp (fun d => wp_sp (fun e => yes ?_) (fun e => wp_sp (fun f => yes ?_) (fun f => no ?_))) (fun d => wp_sp (fun f => yes ?_) (fun f => no ?_)))
  all_goals (simp only [decide_eq_true_eq, decide_eq_false_iff_not, beq_iff_eq, beq_eq_false_iff_ne, ne_eq] at *)
  all_goals first
    | exact ok_of (by omega)
    | exact no_of (by omega)

theorem namedL_loop (nm : ByteArray) (hs : nm.size ≤ 40) : ∀ (suf pre : List UInt8), nm.data.toList = pre ++ suf → pre.all okChar = true →
    Rounds (TNamedL_l1_e nm) TNamedL_l1_x TNamedL_l1_x' (fun s => (TNamedL_l1_b nm s).wp) (pre.length : Int) (if suf.all okChar then .inr () else .inl ())
  | [], pre, h, _ => by
    have e : nm.size = pre.length := by
      have := nlen nm
      rw [h] at this
      simpa using this.symm
    refine .done' (by simp [TNamedL_l1_x']) ?_
    unfold TNamedL_l1_b
    exact wp_sp (fun h => absurd (of_decide_eq_true h) (by omega)) (fun _ => wp_leaf rfl ⟨rfl, rfl⟩)
  | c :: suf, pre, h, hp => by
    have e : nm.size = pre.length + suf.length + 1 := by
      have := nlen nm
      rw [h, List.length_append, List.length_cons] at this
      omega
    have hc : nm[pre.length]? = some c := by
      have h1 : nm.data.toList[pre.length]? = some c := by rw [h]; simp
      rw [Array.getElem?_toList] at h1
      exact h1
    cases hok : okChar c with
    | true =>
      rw [List.all_cons, hok, Bool.true_and]
      refine .next (s' := ((pre ++ [c]).length : Int)) (namedL_body nm pre.length c hc (by omega) hs (fun _ => ⟨rfl, by rw [List.length_append]; rfl⟩) (fun h => by rw [hok] at h; cases h)) (namedL_loop nm hs suf (pre ++ [c]) (by rw [h]; simp) (by rw [List.all_append, hp]; simp [hok]))
    | false =>
      rw [List.all_cons, hok, Bool.false_and]
      exact .done (by simp [TNamedL_l1_x]) (namedL_body nm pre.length c hc (by omega) hs (fun h => by rw [hok] at h; cases h) (fun _ => ⟨rfl, rfl⟩))

theorem SNamedL : SoundF DP iNamedL (.pure gNamed) := sound_pureT mixedD Γ0_ok Δ0_ok hfNamedL heNamedL hbNamedL (by
  rintro args r ⟨nm, hN, rfl, rfl⟩
  refine ⟨by rw [hnNamedL]; rfl, rfl, _, TNamedL_chk nm, ?_⟩
  unfold TNamedL
  refine wp_sp (fun h => wp_leaf rfl ?_) (fun h => wp_sp (fun h1 => wp_leaf rfl ?_) (fun h1 => ?_))
  · have h : nm.size = 0 := by simpa using h
    have : isName nm = false := by unfold isName; simp [h]
    rw [this]; exact .p _
  · have h1 := of_decide_eq_true h1
    have : isName nm = false := by unfold isName; rw [Bool.and_eq_false_iff]; right; exact decide_eq_false (by omega)
    rw [this]; exact .p _
  · have h : nm.size ≠ 0 := by simpa using h
    have h1 := of_decide_eq_false h1
    have hn : isName nm = nm.data.toList.all okChar := by unfold isName; rw [decide_eq_true (by omega), decide_eq_true (by omega), Bool.and_true, Bool.and_true]
    have hl := namedL_loop nm (by omega) nm.data.toList [] rfl rfl
    rw [hn]
    cases ha : nm.data.toList.all okChar with
    | true => rw [ha] at hl; exact wp_loop' () rfl hl (wp_leaf rfl (.p _))
    | false => rw [ha] at hl; exact wp_loop () rfl hl (wp_leaf rfl (.p _)))

end Go.Ax

namespace Go.Ax
open Go.Proofs Go.RowKit
set_option maxRecDepth 100000

def LM : List (Nat × RSpec) := [(iFuse, liftR (nilR (fun l => ∃ n : Int, l = [vi n]) (.tup []))), (iCrash, liftR (nilR (fun l => l = [nilS]) (.tup []))), (iRead, liftR (nilR (fun l => ∃ (nm : ByteArray) (o n : Int), l = [vs nm, vi o, vi n]) (.tup [nilS, vi 1]))),
  (iSize, liftR (nilR aNm (.tup [vi 0, vi 1]))), (iCreate, liftR (nilR aNm (vi 1))), (iAppend, liftR (nilR (fun l => ∃ nm : ByteArray, l = [vs nm, nilS]) (vi 1))), (iSync, liftR (nilR aNm (vi 1))), (iRename, liftR (nilR (fun l => ∃ nm nn : ByteArray, l = [vs nm, vs nn]) (vi 1))),
  (iRemove, liftR (nilR aNm (vi 1))), (iSpoil, liftR (nilR (fun l => ∃ (nm : ByteArray) (o : Int) (bits : UInt8), l = [vs nm, vi o, vn .u8 (bits.toNat : Int)]) (vi 1))), (iList, liftR (nilR aN0 nilS)), (iUsed, liftR (nilR aN0 (vi 0))), (iRoom, liftR (nilR aN0 (vi 0))),
  (iDown, liftR (nilR aN0 (vb false))), (iClone, liftR (nilR aN0 nilP))]
theorem LM_ok : ∀ p ∈ LM, SoundR DP p.1 p.2 := by
  intro p hp
  simp only [LM, List.mem_cons, List.not_mem_nil, or_false] at hp
  rcases hp with rfl | rfl | rfl | rfl | rfl | rfl | rfl | rfl | rfl | rfl | rfl | rfl | rfl | rfl | rfl
  · exact lift_sound NFuse
  · exact lift_sound NCrash
  · exact lift_sound NRead
  · exact lift_sound NSize
  · exact lift_sound NCreate
  · exact lift_sound NAppend
  · exact lift_sound NSync
  · exact lift_sound NRename
  · exact lift_sound NRemove
  · exact lift_sound NSpoil
  · exact lift_sound NList
  · exact lift_sound NUsed
  · exact lift_sound NRoom
  · exact lift_sound NDown
  · exact lift_sound NClone
def ΔM : REnv := fun f => orR (ΔD f) (envD LM f)
theorem ΔM_ok : ∀ f, SoundR DP f (ΔM f) := fun f => (ΔD_ok f).or (envD_ok LM_ok f)

section
variable {B : List Box}
theorem nFuse_ (n : Int) : ΔM iFuse [nilP, vi n] B (.tup []) B := .inr (lift_nil ⟨n, rfl⟩ rfl rfl B)
theorem nCrash_ : ΔM iCrash [nilP, nilS] B (.tup []) B := .inr (lift_nil (al := fun l => l = [nilS]) rfl rfl rfl B)
theorem nRead_ (nm : ByteArray) (o n : Int) : ΔM iRead [nilP, vs nm, vi o, vi n] B (.tup [nilS, vi 1]) B := .inr (lift_nil ⟨nm, o, n, rfl⟩ rfl rfl B)
theorem nSize_ (nm : ByteArray) : ΔM iSize [nilP, vs nm] B (.tup [vi 0, vi 1]) B := .inr (lift_nil (al := aNm) ⟨nm, rfl⟩ rfl rfl B)
theorem nCreate_ (nm : ByteArray) : ΔM iCreate [nilP, vs nm] B (vi 1) B := .inr (lift_nil (al := aNm) ⟨nm, rfl⟩ rfl rfl B)
theorem nAppend_ (nm : ByteArray) : ΔM iAppend [nilP, vs nm, nilS] B (vi 1) B := .inr (lift_nil ⟨nm, rfl⟩ rfl rfl B)
theorem nSync_ (nm : ByteArray) : ΔM iSync [nilP, vs nm] B (vi 1) B := .inr (lift_nil (al := aNm) ⟨nm, rfl⟩ rfl rfl B)
theorem nRename_ (nm nn : ByteArray) : ΔM iRename [nilP, vs nm, vs nn] B (vi 1) B := .inr (lift_nil ⟨nm, nn, rfl⟩ rfl rfl B)
theorem nRemove_ (nm : ByteArray) : ΔM iRemove [nilP, vs nm] B (vi 1) B := .inr (lift_nil (al := aNm) ⟨nm, rfl⟩ rfl rfl B)
theorem nSpoil_ (nm : ByteArray) (o : Int) (bits : UInt8) : ΔM iSpoil [nilP, vs nm, vi o, vn .u8 (bits.toNat : Int)] B (vi 1) B := .inr (lift_nil ⟨nm, o, bits, rfl⟩ rfl rfl B)
theorem nList_ : ΔM iList [nilP] B nilS B := .inr (lift_nil (al := aN0) rfl rfl rfl B)
theorem nUsed_ : ΔM iUsed [nilP] B (vi 0) B := .inr (lift_nil (al := aN0) rfl rfl rfl B)
theorem nRoom_ : ΔM iRoom [nilP] B (vi 0) B := .inr (lift_nil (al := aN0) rfl rfl rfl B)
theorem nDown_ : ΔM iDown [nilP] B (vb false) B := .inr (lift_nil (al := aN0) rfl rfl rfl B)
theorem nClone_ : ΔM iClone [nilP] B nilP B := .inr (lift_nil (al := aN0) rfl rfl rfl B)
end

noncomputable def ΓM : Env := fun f => if f = iHead then .pure gHead else if f = iNamed then .pure gNamed else if f = iNamedL then .pure gNamed else .none
theorem ΓM_ok : ∀ f, SoundF DP f (ΓM f) := fun f => by
  unfold ΓM
  split
  · rename_i e; rw [e]; exact SHead
  split
  · rename_i e; rw [e]; exact SNamed
  split
  · rename_i e; rw [e]; exact SNamedL
  · exact sound_none f

end Go.Ax
