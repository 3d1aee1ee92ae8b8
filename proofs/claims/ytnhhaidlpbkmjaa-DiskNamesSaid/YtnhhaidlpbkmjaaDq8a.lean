/- Crash: a contract of the disk as an object. -/
import Derived.Test.YtnhhaidlpbkmjaaDq8
set_option linter.unusedVariables false
set_option linter.unusedSimpArgs false
set_option linter.unusedSectionVars false
namespace Go.Ax
open Go.Proofs Go.RowKit
set_option maxRecDepth 100000

theorem wp_frag {r : Option Nat} {W : Wd} {olds : List (List AV)} {E0 : St} {p : Prop} {e : AE} {c : St} {k : Tree} {K : AE → St → Prop} (ho : oldsOk W olds) (hp : p) (h : k.wp K) : (Tree.frag r W olds (some E0) E0 p e c k).wp K := ⟨ho, rfl, hp, h⟩
theorem wp_rcut3 {α : Type} {d : Nat} {len : Nat} {E : Enc α} {L : List α} {h m : Int} {k : Tree} {K : AE → St → Prop} (hl : len = L.length) (h0 : 0 ≤ h) (h1 : h ≤ m) (h2 : m ≤ (len : Int)) (hk : k.wp K) : (Tree.rcut3 d len (rowC (L.map E.f)) E L h m k).wp K := ⟨rfl, hl, h0, h1, h2, hk⟩

/-- Slots by slots. -/
inductive Sl2 (R : AV → AV → Prop) : List (Nat × AV) → List (Nat × AV) → Prop
  | nil : Sl2 R [] []
  | cons {a b : Nat × AV} {l l' : List (Nat × AV)} : (a.1 = b.1 ∧ R a.2 b.2) → Sl2 R l l' → Sl2 R (a :: l) (b :: l')

theorem tk_rel {R : AV → AV → Prop} (h0 : R .u .u) : ∀ {l l' : List (Nat × AV)}, Sl2 R l l' → ∀ i, R (tk l i) (tk l' i)
  | _, _, .nil, i => h0
  | a :: l, b :: l', .cons h hr, i => by
    obtain ⟨h1, h2⟩ := h
    unfold tk
    rw [List.find?_cons, List.find?_cons, ← h1]
    cases hb : Nat.beq a.1 i with
    | true => exact h2
    | false => exact tk_rel h0 hr i

theorem codeD {c : Code} {n m0 : Nat} {s : AS} {T : Tree} {K : AE → St → Prop} (hc : codeC DP ΓF ΔF n m0 c s T (leafC m0) = T) (h : T.wp K) : Tri DP n m0 false c s (fun e s2 => ∃ c : St, s2 = c.as ∧ K e c) :=
  codeC_tri mixedD ΓF_ok ΔF_ok c (by rw [hc]; exact h)

theorem crash1 (D : Dsk) (ks : List Int) : Tri DP 95 1 false cCr1 (St.as ([(0, .op 0), (1, vl (ks.map intE.f))], [.obj [] (diskP D)])) fun e' s' => e' = .normal ∧ s' = St.as ([(0, .op 0), (1, vl (ks.map intE.f))], [.obj [] (diskP (riseD D))]) := by
  refine Tri.disk (X := []) (Y := D.files) (Bx := []) (tf := tk [(0, .ptr 0 0 0), (1, vl (ks.map intE.f))]) rfl (.refl _) (tk_rel (.u _) (.cons ⟨rfl, .d⟩ (.cons ⟨rfl, .p _⟩ .nil))) (fun hid hh => ?_)
  have : Tri DP 95 2 false cCr1 (St.as ([(0, .ptr 0 0 0), (1, vl (ks.map intE.f))], flatB D [] hid)) (fun e s2 => ∃ c : St, s2 = c.as ∧ (e = .normal ∧ c = ([(0, .ptr 0 0 0), (1, vl (ks.map intE.f))], flatB (riseD D) [] hid))) := by
    obtain ⟨ro, us, fs, dn, fu⟩ := D
    cases dn with
    | true => exact codeD (TCr1_t_chk ro us fu hid ks) (by unfold TCr1_t; exact wp_leaf rfl ⟨rfl, rfl⟩)
    | false => exact codeD (TCr1_f_chk ro us fu hid ks) (by unfold TCr1_f; exact wp_leaf rfl ⟨rfl, rfl⟩)
  refine this.conseq fun e s' hk => ?_
  obtain ⟨c, rfl, rfl, rfl⟩ := hk
  exact ⟨riseD D, [], [], tk [(0, .op 0), (1, vl (ks.map intE.f))], shut0 rfl rfl, .refl _, tk_rel (.u _) (.cons ⟨rfl, .d⟩ (.cons ⟨rfl, .p _⟩ .nil)), rfl, rfl⟩

/-- The disk, so many files of it done. -/
abbrev midD (ro : Int) (ks : List Int) (p q : List Fil) : Dsk := ⟨ro, lens (crashF p ks ++ q), crashF p ks ++ q, false, 0⟩
abbrev midS (d : AV) (ks : List Int) (names : List ByteArray) (i j : Int) : List (Nat × AV) := [(0, d), (1, vl (ks.map intE.f)), (4, vi i), (19, vl (names.map nameE.f)), (20, vi ((names.length : Nat) : Int)), (21, vi j)]

theorem lens_app (p q : List Fil) : lens (p ++ q) = lens p + lens q := by
  induction p with
  | nil => simp [lens]
  | cons x p ih => rw [List.cons_append, lens_cons, lens_cons, ih]; omega

theorem midS_rel (ks : List Int) (names : List ByteArray) (i j : Int) (n0 : Nat) : ∀ k, SlotO 0 n0 (tk (midS (.op 0) ks names i j) k) (tk (midS (.ptr 0 0 0) ks names i j) k) :=
  tk_rel (.u _) (.cons ⟨rfl, .d⟩ (.cons ⟨rfl, .p _⟩ (.cons ⟨rfl, .p _⟩ (.cons ⟨rfl, .p _⟩ (.cons ⟨rfl, .p _⟩ (.cons ⟨rfl, .p _⟩ .nil))))))
theorem midS_rel' (ks : List Int) (names : List ByteArray) (i j : Int) : ∀ k, SlotC [] (tk (midS (.ptr 0 0 0) ks names i j) k) (tk (midS (.op 0) ks names i j) k) :=
  tk_rel (.u _) (.cons ⟨rfl, .d⟩ (.cons ⟨rfl, .p _⟩ (.cons ⟨rfl, .p _⟩ (.cons ⟨rfl, .p _⟩ (.cons ⟨rfl, .p _⟩ (.cons ⟨rfl, .p _⟩ .nil))))))

theorem crashEnd (ro : Int) (ks : List Int) (p : List Fil) (names : List ByteArray) (i j : Int) (hj : ¬ j < (names.length : Int)) :
    Tri DP 95 1 false cCrB (St.as (midS (.op 0) ks names i j, [.obj [] (diskP (midD ro ks p []))])) fun e' s' => e' = .exit 0 ∧ s' = St.as ([], [.obj [] (diskP (midD ro ks p []))]) := by
  refine Tri.disk (X := []) (Y := crashF p ks ++ []) (Bx := []) (tf := tk (midS (.ptr 0 0 0) ks names i j)) rfl (.refl _) (midS_rel _ _ _ _ _) (fun hid hh => ?_)
  have : Tri DP 95 2 false cCrB (St.as (midS (.ptr 0 0 0) ks names i j, flatB (midD ro ks p []) [] hid)) (fun e s2 => ∃ c : St, s2 = c.as ∧ (e = .exit 0 ∧ c = ([], flatB (midD ro ks p []) [] hid))) :=
    codeD (TCrB_e_chk ro (lens (crashF p ks ++ [])) 0 hid ks i names j) (by unfold TCrB_e; exact wp_sp (fun h => absurd (of_decide_eq_true h) hj) (fun _ => wp_leaf rfl ⟨rfl, rfl⟩))
  refine this.conseq fun e s' hk => ?_
  obtain ⟨c, rfl, rfl, rfl⟩ := hk
  exact ⟨midD ro ks p [], [], [], tk [], shut0 rfl rfl, .refl _, tk_rel (.u _) .nil, rfl, rfl⟩

theorem keepK_some {x : Fil} {ks : List Int} {i : Nat} {k : Int} (h : ks[i]? = some k) : keepK x (ks.drop i) = if 0 < (if (x.b.length : Int) - x.sure < k then (x.b.length : Int) - x.sure else k) then (if (x.b.length : Int) - x.sure < k then (x.b.length : Int) - x.sure else k) else 0 := by
  obtain ⟨hi, rfl⟩ := List.getElem?_eq_some_iff.1 h
  rw [List.drop_eq_getElem_cons hi]
  rfl
theorem keepK_none {x : Fil} {ks : List Int} {i : Nat} (h : ks.length ≤ i) : keepK x (ks.drop i) = 0 := by
  rw [List.drop_eq_nil_of_le h]; rfl

theorem crashRound (ro : Int) (ks : List Int) (p q : List Fil) (x : Fil) (names : List ByteArray) (hx : 0 ≤ x.sure ∧ x.sure ≤ x.b.length) (hn : names[p.length]? = some x.name) (hp : p.length ≤ 1000000) (hl : lens (crashF p ks ++ x :: q) ≤ 67108864) :
    Tri DP 95 1 false cCrB (St.as (midS (.op 0) ks names (lookF p) p.length, [.obj [] (diskP (midD ro ks p (x :: q)))])) fun e' s' => e' = .normal ∧ s' = St.as (midS (.op 0) ks names (lookF (p ++ [x])) (p ++ [x]).length, [.obj [] (diskP (midD ro ks (p ++ [x]) q))]) := by
  have hpl : (lookF p : Int) ≤ 1000000 := by
    have : lookF p ≤ p.length := List.length_filter_le _ _
    omega
  have hnl : (p.length : Int) < (names.length : Int) := by
    have := (List.getElem?_eq_some_iff.1 hn).1
    omega
  have hmid : lens (crashF p ks ++ x :: q) = lens (crashF p ks) + x.b.length + lens q := by rw [lens_app, lens_cons]; omega
  have h0p : 0 ≤ lens (crashF p ks) := sum_nonneg _
  have h0q : 0 ≤ lens q := sum_nonneg _
  have hperm : (crashF p ks ++ x :: q).Perm ([x] ++ (crashF p ks ++ q)) := List.perm_middle
  refine Tri.disk (X := [x]) (Y := crashF p ks ++ q) (Bx := []) (tf := tk (midS (.ptr 0 0 0) ks names (lookF p) p.length)) rfl hperm (midS_rel _ _ _ _ _) (fun hid hh => ?_)
  have hh' : hid.map (·.1) = strsV ((crashF p ks ++ q).map (·.name)) := by rw [hh, keysOf, strsV, List.map_map]; rfl
  by_cases h0 : (x.b.length : Int) - x.sure = 0
  · have hlk : lookF (p ++ [x]) = lookF p := by unfold lookF; rw [List.filter_append, List.filter_cons_of_neg (by simpa using h0)]; simp
    have hfs : crashF (p ++ [x]) ks ++ q = crashF p ks ++ x :: q := by
      rw [crashF_append]
      unfold crashF
      rw [if_pos h0]
      unfold crashF
      simp
    have : Tri DP 95 4 false cCrB (St.as (midS (.ptr 0 0 0) ks names (lookF p) p.length, flatB (midD ro ks p (x :: q)) [x] hid)) (fun e s2 => ∃ c : St, s2 = c.as ∧ (e = .normal ∧ c = (midS (.ptr 0 0 0) ks names (lookF p) ((p.length : Int) + 1), flatB (midD ro ks p (x :: q)) [x] hid))) :=
      codeD (TCrB_p_chk ro (lens (crashF p ks ++ x :: q)) 0 hid x.b x.sure x.name ks (lookF p) names p.length) (by
        unfold TCrB_p
        refine wp_sp (fun _ => wp_elemk (by omega) (by simpa using hn) (wp_val ?_ (wp_i64 (by omega) (wp_sp (fun _ => wp_i64 (by omega) (wp_leaf rfl ⟨rfl, rfl⟩)) (fun h => absurd h0 (by simpa using h)))))) (fun h => absurd hnl (of_decide_eq_false h))
        exact look0_v0 htMap htKey (ns := []) rfl hh')
    refine this.conseq fun e s' hk => ?_
    obtain ⟨c, rfl, rfl, rfl⟩ := hk
    refine ⟨midD ro ks (p ++ [x]) q, [⟨x, 2, 3, 0⟩], [], tk (midS (.op 0) ks names (lookF p) ((p.length : Int) + 1)), shut1 ?_ rfl rfl rfl, ?_, midS_rel' _ _ _ _, rfl, ?_⟩
    · show some (Box.cells false 0 [vi ro, vi (lens (crashF p ks ++ x :: q)), .mp 1, vb false, vi 0]) = some (Box.cells false 0 [vi ro, vi (lens (crashF (p ++ [x]) ks ++ q)), .mp 1, vb false, vi 0])
      rw [hfs]
    · show ([x] ++ (crashF p ks ++ q)).Perm (crashF (p ++ [x]) ks ++ q)
      rw [hfs]; exact hperm.symm
    · rw [hlk, List.length_append]; rfl
  · have hlk : lookF (p ++ [x]) = lookF p + 1 := by unfold lookF; rw [List.filter_append, List.filter_cons_of_pos (by simpa using h0)]; simp
    have hfs : crashF (p ++ [x]) ks ++ q = crashF p ks ++ cutF x (keepK x (ks.drop (lookF p))) :: q := by
      rw [crashF_append]
      rw [show crashF [x] (ks.drop (lookF p)) = [cutF x (keepK x (ks.drop (lookF p)))] by unfold crashF; rw [if_neg h0]; unfold crashF; rfl]
      simp
    have hk := keepK_le hx (ks.drop (lookF p))
    have hcl := cutF_len hx.1 hk
    have hmid' : lens (crashF (p ++ [x]) ks ++ q) = lens (crashF p ks) + (x.sure + keepK x (ks.drop (lookF p))) + lens q := by rw [hfs, lens_app, lens_cons, hcl]; omega
    let cend : Int → St := fun k => (midS (.ptr 0 0 0) ks names ((lookF p : Int) + 1) ((p.length : Int) + 1), [.cells false 0 ([vi ro, vi (lens (crashF p ks ++ x :: q) - (((x.b.length : Nat) : Int) - x.sure - k)), .mp 1, vb false, vi 0]), .obj [.ptr 2 0 0] (mapP [.string x.name] hid), .cells false 0 ([.rs 3 1 1 0 (Int.toNat (x.sure + k)), vi ((Int.toNat (x.sure + k) : Nat) : Int)]), byteE.bx 1 (x.b.take (Int.toNat (x.sure + k)))])
    have : Tri DP 95 4 false cCrB (St.as (midS (.ptr 0 0 0) ks names (lookF p) p.length, flatB (midD ro ks p (x :: q)) [x] hid)) (fun e s2 => ∃ c : St, s2 = c.as ∧ (e = .normal ∧ ∃ k, k = keepK x (ks.drop (lookF p)) ∧ c = cend k)) :=
      codeD (TCrB_p_chk ro (lens (crashF p ks ++ x :: q)) 0 hid x.b x.sure x.name ks (lookF p) names p.length) (by
        unfold TCrB_p
        refine wp_sp (fun _ => wp_elemk (by omega) (by simpa using hn) (wp_val ?_ (wp_i64 (by omega) (wp_sp (fun h => absurd (by simpa using h) h0) (fun _ => wp_len (wp_sp (fun hi => ?_) (fun hi => ?_))))))) (fun h => absurd hnl (of_decide_eq_false h))
        · exact look0_v0 htMap htKey (ns := []) rfl hh'
        · have hi := of_decide_eq_true hi
          have hi' : lookF p < ks.length := by omega
          have hks := keepK_some (x := x) (List.getElem?_eq_getElem hi')
          refine wp_elem ks[lookF p] (by omega) (by simp) (wp_i64 (by omega) ?_)
          generalize ks[lookF p] = e1 at hks
          rw [hks] at hk
          refine wp_i64 (by omega) (wp_i64 (by omega) (wp_i64 (by omega) (wp_i64 (by omega) (wp_rcut3 rfl (by omega) (by omega) (by omega) (wp_i64 (by omega) (wp_leaf rfl ⟨rfl, _, hks.symm, rfl⟩))))))
        · have hi := of_decide_eq_false hi
          have hks := keepK_none (x := x) (ks := ks) (i := lookF p) (by omega)
          rw [hks] at hk
          refine wp_i64 (by omega) (wp_i64 (by omega) (wp_i64 (by omega) (wp_i64 (by omega) (wp_i64 (by omega) (wp_rcut3 rfl (by omega) (by omega) (by omega) (wp_i64 (by omega) (wp_leaf rfl ⟨rfl, _, hks.symm, rfl⟩)))))))
        )
    refine this.conseq fun e s' hkk => ?_
    obtain ⟨c, rfl, rfl, k, rfl, rfl⟩ := hkk
    have hlen : (x.b.take (Int.toNat (x.sure + keepK x (ks.drop (lookF p))))).length = Int.toNat (x.sure + keepK x (ks.drop (lookF p))) := by rw [List.length_take]; omega
    refine ⟨midD ro ks (p ++ [x]) q, [⟨cutF x (keepK x (ks.drop (lookF p))), 2, 3, 1⟩], [], tk (midS (.op 0) ks names ((lookF p : Int) + 1) ((p.length : Int) + 1)), shut1 ?_ rfl ?_ rfl, ?_, midS_rel' _ _ _ _, rfl, ?_⟩
    · show some (Box.cells false 0 [vi ro, vi (lens (crashF p ks ++ x :: q) - (((x.b.length : Nat) : Int) - x.sure - keepK x (ks.drop (lookF p)))), .mp 1, vb false, vi 0]) = some (headC (midD ro ks (p ++ [x]) q))
      rw [show lens (crashF p ks ++ x :: q) - (((x.b.length : Nat) : Int) - x.sure - keepK x (ks.drop (lookF p))) = lens (crashF (p ++ [x]) ks ++ q) by rw [hmid']; omega]
    · show some (Box.cells false 0 [.rs 3 1 1 0 (Int.toNat (x.sure + keepK x (ks.drop (lookF p)))), vi ((Int.toNat (x.sure + keepK x (ks.drop (lookF p))) : Nat) : Int)]) = some (Box.cells false 0 [.rs 3 1 1 0 (x.b.take (Int.toNat (x.sure + keepK x (ks.drop (lookF p))))).length, vi (x.sure + keepK x (ks.drop (lookF p)))])
      rw [hlen, show ((Int.toNat (x.sure + keepK x (ks.drop (lookF p))) : Nat) : Int) = x.sure + keepK x (ks.drop (lookF p)) by omega]
    · show ([cutF x (keepK x (ks.drop (lookF p)))] ++ (crashF p ks ++ q)).Perm (crashF (p ++ [x]) ks ++ q)
      rw [hfs, List.singleton_append]; exact List.perm_middle.symm
    · rw [hlk, List.length_append]
      simp only [Int.natCast_add]
      rfl

theorem crashLoop (D : Dsk) (ks : List Int) (ok : D.Ok) (hlen : D.files.length ≤ 1000000) : ∀ (q p : List Fil), D.files = p ++ q →
    Tri DP 95 1 true cCrB (St.as (midS (.op 0) ks (D.files.map (·.name)) (lookF p) p.length, [.obj [] (diskP (midD D.room ks p q))])) fun e' s' => e' = .exit 0 ∧ s' = St.as ([], [.obj [] (diskP (crashD D ks))])
  | [], p, h => by
    rw [List.append_nil] at h
    refine Tri.round ((crashEnd D.room ks p (D.files.map (·.name)) (lookF p) p.length (by rw [h]; simp)).conseq fun e s' hk => ?_)
    obtain ⟨rfl, rfl⟩ := hk
    refine ⟨rfl, ?_⟩
    unfold crashD midD
    rw [List.append_nil, h]
  | x :: q, p, h => by
    have hx : x ∈ D.files := by rw [h]; simp
    have hle : p.length ≤ 1000000 := by rw [h, List.length_append] at hlen; omega
    have hn : (D.files.map (·.name))[p.length]? = some x.name := by rw [h]; simp
    have hu := ok.used
    change D.used = lens D.files at hu
    have h1 := ok.le
    have h2 := ok.room
    have hc := (crashF_sure p ks (fun y hy => ok.sure y (by rw [h]; simp [hy]))).1
    have hl : lens (crashF p ks ++ x :: q) ≤ 67108864 := by
      rw [h, lens_app] at hu
      rw [lens_app]
      omega
    refine Tri.round ((crashRound D.room ks p q x (D.files.map (·.name)) (ok.sure x hx) hn hle hl).conseq fun e s' hk => ?_)
    obtain ⟨rfl, rfl⟩ := hk
    exact crashLoop D ks ok hlen q (p ++ [x]) (by rw [h]; simp)

theorem cCrL_eq : cCrL = .loop cCrB := by kernel_rfl

def OCrash : RSpec := fun args B r B' => ∃ (D : Dsk) (ks : List Int), D.Ok ∧ D.files.length ≤ 1000000 ∧ args = [.op 0, vl (ks.map intE.f)] ∧ B = [.obj [] (diskP D)] ∧ r = .tup [] ∧ B' = [.obj [] (diskP (crashD D ks))]

theorem SCrash : SoundR DP iCrash OCrash := sound_genT mixedD ΓF_ok ΔC_ok hfCrash heCrash hbCrash (by
  rintro args B r B' ⟨D, ks, ok, hlen, rfl, rfl, rfl, rfl⟩
  refine ⟨by rw [hnCrash]; rfl, _, TCrash_chk D ks, ?_⟩
  unfold TCrash
  refine wp_frag rfl (crash1 D ks) (wp_callr ?_ (wp_len (wp_frag rfl ?_ (wp_leaf rfl ⟨rfl, rfl⟩))))
  · show ΔC iList _ _ _ _
    rw [ΔC_list]
    exact ⟨_, _, _, _, ⟨riseD D, riseD_ok ok, hlen, rfl, rfl, rfl, rfl⟩, ⟨[0], [0], [.obj [] (diskP (riseD D))], [.obj [] (diskP (riseD D))], [], rfl, rfl, rfl, rfl, ⟨.objs rfl rfl, trivial⟩, ⟨.objs rfl rfl, trivial⟩, rfl, rfl, rfl⟩⟩
  · rw [cCrL_eq]
    have hu := ok.used
    change D.used = lens D.files at hu
    have he : riseD D = midD D.room ks [] D.files := by
      unfold riseD
      rw [hu]
      rfl
    have hl : listD (riseD D) = D.files.map (·.name) := rfl
    rw [hl, he]
    refine .loop ?_
    have := crashLoop D ks ok hlen D.files [] rfl
    exact this)

end Go.Ax
