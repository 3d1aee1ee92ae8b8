/- A disk in memory: a new one. -/
import Derived.Test.YtjlipmcdnigfcaaDoorG21
import Derived.Shelf.SlIter.Nil
import Derived.Shelf.SortM.Plain
import Derived.Shelf.SortM.SortNone
set_option linter.unusedVariables false
set_option linter.unusedSimpArgs false
set_option linter.unusedSectionVars false
namespace Go.Ax
open Go.RowKit
section
variable [Glob] {F : Nat → Prop}

theorem disk_new {ρ ρ2 : Loc} {w w' : World} {D : Dsk} (hI : Inv F [headC D, .obj [] (mapP [] [])] ρ2 w') (hE : Ext F [] ρ w [headC D, .obj [] (mapP [] [])] ρ2 w') (hf : D.files = []) :
    ∃ k o ρ3, ρ2 0 = some (k, 0) ∧ ρ3 0 = some (k, o) ∧ Inv F [.obj [] (diskP D)] ρ3 w' ∧ Ext F [] ρ w [.obj [] (diskP D)] ρ3 w' := by
  obtain ⟨k, hk⟩ : ∃ k, ρ2 0 = some (k, 0) := by
    rcases hI.box 0 _ _ _ rfl with ⟨_, h, _⟩ | ⟨k2, o2, us, e, fr, q1, _⟩
    · cases h
    · have := hI.off0 0 _ _ _ _ rfl q1
      subst this
      exact ⟨k2, q1⟩
  let S : Nat → Prop := Own noF [headC D, .obj [] (mapP [] [])] ρ2
  have hS : ∀ j, S j → Own F [headC D, .obj [] (mapP [] [])] ρ2 j := fun j hj => hj.elim (fun h => h.elim) .inr
  have hSF : ∀ j, S j → ¬ F j := fun j hj => by
    obtain ⟨b, x, l, h1, h2, h3⟩ := own_congr.1 hj
    exact hI.farx b x l j h1 h2 h3
  have hbit : ∀ j, (codeOf S w'.heap.size).testBit j = true ↔ S j := fun j => (codeOf_bit S _ j).trans ⟨fun h => h.1, fun h => ⟨h, hI.ownlt j (hS j h)⟩⟩
  have hD : DiskAt D (fun j => (codeOf S w'.heap.size).testBit j = true) k w' [] ρ2 :=
    ⟨by rw [hf]; exact .refl _, hI.bare, hk, fun x hx => (nomatch hx), .nil, fun x hx => (nomatch hx), fun j => (hbit j).trans ⟨.inl, fun h => h.elim id (fun ⟨x, hx, _⟩ => (nomatch hx))⟩⟩
  have hO : @Inv noG noF [.obj [] (diskP D)] (fun _ => some (k, codeOf S w'.heap.size)) w' := by
    letI : Glob := noG
    refine @Inv.mk noG noF _ _ w' (fun b row v cs hb => ?_) (fun b row v cs hb => ?_) (fun b cs Φ hb => ?_) (fun b b' x x' l l' j h1 h2 _ _ _ _ => ?_) (fun k hk => hk.elim) (fun _ _ _ _ _ _ _ h => h) (fun g hg => absurd rfl hg) (fun b v cs k o hb => ?_)
    · cases b <;> simp at hb
    · cases b <;> simp at hb
    · cases b with
      | zero => cases hb; exact ⟨k, _, [], rfl, ⟨rfl, [], ρ2, hD⟩, rfl, fun i c u hc => by simp at hc⟩
      | succ b => simp at hb
    · cases b with
      | zero => cases b' with
        | zero => rfl
        | succ b' => simp at h2
      | succ b => simp at h1
    · cases b <;> simp at hb
  have hOo : ∀ j, Own noF [.obj [] (diskP D)] (fun _ => some (k, codeOf S w'.heap.size)) j → S j := fun j hj => by
    obtain ⟨b, x, l, h1, h2, h3⟩ := own_congr.1 hj
    cases b with
    | zero => cases h1; cases h2; exact (hbit j).1 h3
    | succ b => simp at h1
  have hsubF : ∀ j, Own F [.obj [] (diskP D)] (fun _ => some (k, codeOf S w'.heap.size)) j → Own F [headC D, .obj [] (mapP [] [])] ρ2 j := fun j hj => by
    rcases hj with h0 | h0
    · exact .inl h0
    · exact hS j (hOo j (.inr h0))
  refine ⟨k, _, _, hk, rfl, Inv.raise hO (fun y hy => ?_) (fun j hF ho => hSF j (hOo j ho) hF) hI.bound (fun g hg => ?_), ⟨hE.size, hE.os, hE.tape, hE.output, fun j hj ho => ?_, hE.shape, Nat.zero_le _, fun b row v cs hb => absurd hb (by simp), fun b cs Φ hb => absurd hb (by simp), hE.far⟩⟩
  · rcases List.mem_cons.1 hy with rfl | hy
    · exact ⟨rfl, rfl⟩
    · cases hy
  · refine ⟨?_, (hI.glob g hg).sz⟩
    cases (hI.glob g hg).v with
    | rp cs a us h1 h2 h3 h4 h5 h6 =>
      exact .rp _ _ us h1 (fun h => h2 (hsubF _ h)) h3 h4 h5 (fun j p u hp hu => (h6 j p u hp hu).mono (fun k _ ho => ⟨rfl, fun h => ho (hsubF _ h)⟩) (Nat.le_refl _))
  · obtain ⟨g1, g2⟩ := hE.keep j hj ho
    exact ⟨g1, fun h => g2 (hsubF j h)⟩

variable {P : Program}

/-- A new disk is answered: as an object. -/
theorem SoundR.newD {f : Nat} {R : RSpec} (h : SoundR P f R) : SoundR P f (fun args B r B' => ∃ D : Dsk, D.files = [] ∧ R args [] (.ptr 0 0 0) [headC D, .obj [] (mapP [] [])] ∧ B = [] ∧ r = .op 0 ∧ B' = [.obj [] (diskP D)]) := by
  rintro args B r B' ⟨D, hf, h1, rfl, rfl, rfl⟩ F ρ w us hI hA
  refine (h args [] _ _ h1 F ρ w us hI hA).mono fun e w' hp => ?_
  obtain ⟨x, ρ2, rfl, hI2, hE2, hv⟩ := hp
  obtain ⟨k, o, ρ3, g1, g2, g3, g4⟩ := disk_new hI2 hE2 hf
  refine ⟨x, ρ3, rfl, g3, g4, ?_⟩
  cases hv with
  | ptr _ _ _ a hp0 =>
    obtain ⟨k', o', e1, e2⟩ := (hp0.2 _ _ _ rfl).2 rfl
    rw [g1] at e1
    cases e1
    rw [e2]
    exact .op _ _ ⟨by simp, fun cs Φ hb => ⟨o, g2⟩⟩
end
end Go.Ax

namespace Go.Ax
open Go.RowKit
section
variable [Glob] {P : Program}

/-- A slot, the disk closed and open. -/
inductive SlotO (m n0 : Nat) : AV → AV → Prop
  | u (x : AV) : SlotO m n0 x .u
  | d : SlotO m n0 (.op 0) (.ptr 0 0 0)
  | a (a : AV) : okArg m a = true → SlotO m n0 (a.rv (fun j => 1 + j) fun _ => 0) (a.rv (fun j => n0 + j) fun _ => 0)

/-- A slot, the disk open and closed again. -/
inductive SlotC (Z : List (Nat × Nat × List UInt8)) : AV → AV → Prop
  | u (x : AV) : SlotC Z x .u
  | d : SlotC Z (.ptr 0 0 0) (.op 0)
  | a (y : AV) : y.pl2 = true → y.low Z.length = true → SlotC Z (y.rv (fun j => ((Z[j]?).map (·.1)).getD 0) fun _ => 0) (y.rv (fun j => 1 + j) fun _ => 0)

theorem SlotO.p {m n0 : Nat} (x : PV) : SlotO m n0 (.p x) (.p x) := .a (.p x) rfl
theorem SlotC.p {Z : List (Nat × Nat × List UInt8)} (x : PV) : SlotC Z (.p x) (.p x) := .a (.p x) rfl rfl

theorem Tri.disk {n m0 : Nat} {cd : Code} {s : AS} {K : AE → AS → Prop} {D : Dsk} {X Y : List Fil} {Bx : List (Nat × List UInt8)} {tf : T} (hB : s.B = .obj [] (diskP D) :: rowsB Bx) (hXY : D.files.Perm (X ++ Y))
    (ht : ∀ i, SlotO Bx.length (2 + 2 * X.length) (s.t i) (tf i))
    (h : ∀ hid, hid.map (·.1) = keysOf Y → Tri P n (2 + 2 * X.length + Bx.length) false cd ⟨tf, flatB D X hid ++ rowsB Bx⟩ (fun e s' => ∃ D1 I Z t', Shut (2 + 2 * X.length) Bx hid D1 I Z s'.B ∧ (I.map (·.x) ++ Y).Perm D1.files ∧
      (∀ i, SlotC Z (s'.t i) (t' i)) ∧ K e ⟨t', .obj [] (diskP D1) :: rowsB (zB Z)⟩)) : Tri P n m0 false cd s K := by
  intro F B0 ρ0 w0 h0 ρ w a hR hE Q hQ
  obtain ⟨t, B⟩ := s
  simp only at hB
  subst hB
  obtain ⟨k, o, LY, F', ρ', hY, O⟩ := disk_open hR.inv hXY
  have hl := flatB_length D X (LY.map hidOf)
  have hlen : (flatB D X (LY.map hidOf) ++ rowsB Bx).length = 2 + 2 * X.length + Bx.length := by rw [List.length_append, hl]; simp
  have hRf : Rel F' (flatB D X (LY.map hidOf) ++ rowsB Bx) ρ' w n tf a := by
    refine ⟨O.inv, fun i => ?_, hR.df, hR.size⟩
    have hv := hR.tm i
    have hs := ht i
    simp only at hv hs
    generalize t i = x at hv hs
    generalize tf i = y at hs
    generalize a.tmps.getD i undef = u at hv
    cases hs with
    | u => exact .u _
    | d =>
      cases hv with
      | op _ r0 hp0 =>
        obtain ⟨o2, e2⟩ := hp0.2 _ _ rfl
        rw [O.at0] at e2
        cases e2
        refine .ptr _ _ _ _ ⟨by rw [List.length_append, hl]; omega, fun row v cs hb => ?_⟩
        rw [List.cons_append, List.getElem?_cons_zero] at hb
        cases hb
        exact ⟨Nat.le_refl _, fun _ => ⟨_, 0, O.at0', rfl⟩⟩
    | a a hok =>
      cases a with
      | p x =>
        cases hv with
        | p _ _ hp0 => exact .p _ _ (hp0.mono (fun k _ ho => ⟨rfl, fun h => ho ((O.own k).1 h)⟩) (Nat.le_refl _))
      | rs b v z off len =>
        have hb : b < Bx.length := by simpa [okArg, Nat.blt_eq] using hok
        cases hv with
        | rs _ _ _ _ _ a cap hp0 =>
          refine .rs _ _ _ _ _ a cap ⟨by show 2 + 2 * X.length + b < _; rw [hlen]; omega, hp0.2.1, hp0.2.2.1, fun row v' cs hb' => ?_⟩
          change (flatB D X (LY.map hidOf) ++ rowsB Bx)[2 + 2 * X.length + b]? = _ at hb'
          rw [List.getElem?_append_right (by omega), hl, show 2 + 2 * X.length + b - (2 + 2 * X.length) = b by omega] at hb'
          obtain ⟨q1, q2⟩ := hp0.2.2.2 row v' cs (by show (Box.obj [] (diskP D) :: rowsB Bx)[1 + b]? = _; rw [show 1 + b = b + 1 by omega, List.getElem?_cons_succ]; exact hb')
          refine ⟨q1, fun e => ?_⟩
          show _ ∧ (_ ∨ ∃ k o', ρ' (2 + 2 * X.length + b) = _ ∧ _)
          rw [O.rest b hb]
          exact q2 e
      | _ => cases hok
  refine h (LY.map hidOf) (by rw [List.map_map, ← hY, keysOf, List.map_map]; rfl) F' _ ρ' w hlen ρ' w a hRf (Ext.refl _ _ _) Q (fun e s' a' w' ρ2 hk hR' hE' => ?_)
  obtain ⟨D1, I, Z, t', hS, hf, ht', hK⟩ := hk
  obtain ⟨ρ3, g1, g2, g3⟩ := disk_shut O hR'.inv hE' hS (by rw [hY]; exact hf)
  refine hQ e _ a' w' ρ3 hK ⟨g1, fun i => ?_, hR'.df, hR'.size⟩ (hE.trans g2)
  have hv := hR'.tm i
  have hs := ht' i
  show VRel F _ ρ3 w' (t' i) _
  generalize s'.t i = x at hv hs
  generalize t' i = y at hs
  generalize a'.tmps.getD i undef = u at hv
  cases hs with
  | u => exact .u _
  | d =>
    cases hv with
    | ptr _ _ _ a hp0 =>
      obtain ⟨v0, cs0, e1, _, e3⟩ := hE'.box 0 _ _ _ (by rw [hlen]; omega) hS.h0
      cases e1
      have hroot : ρ2 0 = some (k, 0) := by rw [(e3 rfl).1]; exact O.at0'
      obtain ⟨k', o', q1, q2⟩ := (hp0.2 _ _ _ hS.h0).2 rfl
      rw [hroot] at q1
      cases q1
      rw [q2]
      refine .op _ _ ⟨by simp, fun cs Φ hc => ?_⟩
      obtain ⟨_, _, _, e4⟩ := g2.obj 0 cs Φ (by simp) hc
      rw [O.at0] at e4
      cases h3 : ρ3 0 with
      | none => rw [h3] at e4; cases e4
      | some l =>
        rw [h3] at e4
        simp only [Option.map_some, Option.some.injEq] at e4
        exact ⟨l.2, by rw [← e4]⟩
  | a y hp hlw => exact g3 y u hv hp hlw
end
end Go.Ax

namespace Go.Ax
open Go.Proofs Go.RowKit Go.Maps Go.WideMaps Go.WideShapes

def nameE : Enc ByteArray := ⟨fun s => .v (.string s), 1, fun _ => rfl, fun _ => rfl⟩
def intE : Enc Int := ⟨fun e => .v (.int .i64 e), 1, fun _ => rfl, fun _ => rfl⟩
def sortB (l : List (List UInt8)) : List (List UInt8) := l.mergeSort fun x y => decide (x ≤ y)
def sortN (ns : List ByteArray) : List ByteArray := (sortB (ns.map fun n => n.data.toList)).map fun l => ⟨l.toArray⟩

section
variable {P : Program}

theorem map_owns {k : TypeId} (hk : P.underlying k = some .string) {w : World} {b : Nat} {es : Array MapEntry} {clock : Nat} {hid : List (Value × Value)} {ns : List ByteArray} (h1 : w.heap[b]? = some (.map es clock)) (h2 : MapKept.Stamped es clock)
    (h3 : (es.toList.map fun e => (e.key, e.val)).Perm hid) (h4 : hid.map (·.1) = strsV ns) (hn : ns.length ≤ 1000000) (hs : ∀ n ∈ ns, n.size ≤ 1000000000) :
    ∃ D0 : DataW Unit, w.ownsMap P k (fun _ => some (.nil, [])) b ns.length D0 ∧ (strKeys D0).Perm (ns.map fun n => n.data.toList) ∧ Maps.size D0 ≤ ns.length := by
  have hkeys : (es.toList.map (·.key)).Perm (strsV ns) := by
    have := h3.map (·.1)
    rw [h4, List.map_map] at this
    exact this
  have hlen : es.size = ns.length := by
    have := hkeys.length_eq
    simpa using this
  have hml : (1000000000 : Nat) ≤ maxLen := by unfold maxLen; omega
  have hrd : ∀ x ∈ es.toList, ∃ n ∈ ns, x.key = .string n ∧ WideElems.rd P k (fun _ => some ((.nil : DataW Unit), ([] : List MemPlace))) x = some (.string n.data.toList, .nil) := fun x hx => by
    have : x.key ∈ strsV ns := hkeys.subset (List.mem_map.2 ⟨x, hx, rfl⟩)
    obtain ⟨n, hn, e⟩ := List.mem_map.1 this
    obtain ⟨key, val, born⟩ := x
    simp only at e
    subst e
    exact ⟨n, hn, rfl, WideElems.rd_mk (R := fun _ => some ((.nil : DataW Unit), ([] : List MemPlace))) (yv := ((.nil : DataW Unit), ([] : List MemPlace))) (keyOf_string_mk hk (Nat.le_trans (hs n hn) hml)) rfl⟩
  have F : WideElems.Fit P k (fun _ => some ((.nil : DataW Unit), ([] : List MemPlace))) es clock := ⟨by omega, h2, fun x hx => by obtain ⟨n, _, _, e⟩ := hrd x hx; exact ⟨_, e⟩⟩
  have hown : w.ownsMap P k (fun _ => some ((.nil : DataW Unit), ([] : List MemPlace))) b ns.length (.map ((es.toList.map (WideElems.rg P k (fun _ => some ((.nil : DataW Unit), ([] : List MemPlace))))).foldr DataW.insert [])) := ⟨es, clock, h1, F, by omega, rfl⟩
  refine ⟨_, hown, ?_, hown.size_le⟩
  show (((es.toList.map _).foldr DataW.insert []).map fun p => strOf p.1).Perm _
  refine ((sorted_perm _).map _).trans ?_
  have e : (es.toList.map (WideElems.rg P k (fun _ => some ((.nil : DataW Unit), ([] : List MemPlace))))).map (fun p => strOf p.1) = (es.toList.map (·.key)).map fun v => match v with | .string n => n.data.toList | _ => [] := by
    rw [List.map_map, List.map_map]
    refine List.map_congr_left fun x hx => ?_
    obtain ⟨n, _, e1, e2⟩ := hrd x hx
    simp only [Function.comp, WideElems.rg_of e2, e1]
    rfl
  rw [e]
  refine (hkeys.map _).trans ?_
  rw [List.map_map]
  exact .refl _

end
end Go.Ax

namespace Go.Ax
open Go.Proofs Go.RowKit

/-! ### Names in order -/
theorem LtN.tr {a b c : List UInt8} (h1 : a < b) (h2 : b < c) : a < c := List.lt_trans h1 h2

theorem sortN_eq {ns : List ByteArray} (h : ns.Pairwise fun a b => a.data.toList < b.data.toList) : sortN ns = ns := by
  unfold sortN sortB
  rw [List.mergeSort_of_pairwise (by
    rw [List.pairwise_map]
    exact h.imp fun hlt => decide_eq_true (List.le_of_lt hlt)), List.map_map]
  refine (List.map_congr_left fun n _ => ?_).trans (List.map_id _)
  simp

theorem sortN_perm {ns ns' : List ByteArray} (h : ns.Perm ns') : sortN ns = sortN ns' := by
  unfold sortN
  congr 1
  exact mergeSort_of_perm (h.map _)

theorem insF_mem {x y : Fil} {fs : List Fil} : y ∈ insF x fs ↔ y = x ∨ y ∈ fs := by
  rw [← (insF_perm x fs).mem_iff, List.mem_cons]

theorem ltB_iff (a b : ByteArray) : Op.bytesLess a.toList b.toList = true ↔ a.data.toList < b.data.toList := by
  rw [bytesLess_eq, ByteArray.toList_eq, ByteArray.toList_eq, decide_eq_true_iff]

theorem name_tri {a b : ByteArray} (h1 : ¬ a.data.toList < b.data.toList) (h2 : a ≠ b) : b.data.toList < a.data.toList := by
  rcases List.le_iff_lt_or_eq.1 (List.not_lt.1 h1) with h | h
  · exact h
  · exact absurd (ByteArray.ext (Array.toList_inj.mp h)).symm h2

theorem insF_srt {x : Fil} : ∀ {fs : List Fil}, (fs.Pairwise fun x y => x.name.data.toList < y.name.data.toList) → x.name ∉ fs.map (·.name) → (insF x fs).Pairwise fun x y => x.name.data.toList < y.name.data.toList
  | [], _, _ => by simp [insF]
  | y :: r, h, hn => by
    rw [List.pairwise_cons] at h
    rw [List.map_cons, List.mem_cons, not_or] at hn
    unfold insF
    split
    · rename_i hlt
      rw [ltB_iff] at hlt
      refine List.pairwise_cons.2 ⟨fun z hz => ?_, List.pairwise_cons.2 h⟩
      rcases List.mem_cons.1 hz with rfl | hz
      · exact hlt
      · exact LtN.tr hlt (h.1 z hz)
    · rename_i hlt
      rw [ltB_iff] at hlt
      have hyx := name_tri hlt hn.1
      refine List.pairwise_cons.2 ⟨fun z hz => ?_, insF_srt h.2 hn.2⟩
      rcases insF_mem.1 hz with rfl | hz
      · exact hyx
      · exact h.1 z hz

/-! ### What a disk may be -/
abbrev lens (fs : List Fil) : Int := (fs.map fun x => (x.b.length : Int)).sum

theorem lens_perm {fs gs : List Fil} (h : fs.Perm gs) : lens fs = lens gs := by
  induction h with
  | nil => rfl
  | cons x _ ih => simp only [lens, List.map_cons, List.sum_cons] at ih ⊢; omega
  | swap x y l => simp only [lens, List.map_cons, List.sum_cons]; omega
  | trans _ _ ih1 ih2 => exact ih1.trans ih2

theorem lens_cons (x : Fil) (fs : List Fil) : lens (x :: fs) = x.b.length + lens fs := by simp [lens]

theorem isName_size {nm : ByteArray} (h : isName nm = true) : nm.size ≤ 40 := by
  unfold isName at h
  simp only [Bool.and_eq_true, decide_eq_true_eq] at h
  exact h.2

theorem srt_nod {fs : List Fil} (h : fs.Pairwise fun x y => x.name.data.toList < y.name.data.toList) : (fs.map (·.name)).Nodup := by
  unfold List.Nodup
  rw [List.pairwise_map]
  refine h.imp fun hlt e => ?_
  rw [e] at hlt
  exact List.lt_irrefl _ hlt

theorem repF_names (fs : List Fil) (x : Fil) : (repF fs x).map (·.name) = fs.map (·.name) := by
  unfold repF
  rw [List.map_map]
  refine List.map_congr_left fun y _ => ?_
  simp only [Function.comp]
  split
  · rename_i e; exact e.symm
  · rfl

theorem srt_names {fs gs : List Fil} (h : fs.map (·.name) = gs.map (·.name)) : (fs.Pairwise fun x y => x.name.data.toList < y.name.data.toList) ↔ gs.Pairwise fun x y => x.name.data.toList < y.name.data.toList := by
  have key : ∀ l : List Fil, (l.Pairwise fun x y => x.name.data.toList < y.name.data.toList) ↔ (l.map (·.name)).Pairwise fun a b => a.data.toList < b.data.toList := fun l => by rw [List.pairwise_map]
  rw [key, key, h]

theorem delF_srt {fs : List Fil} (h : fs.Pairwise fun x y => x.name.data.toList < y.name.data.toList) (nm : ByteArray) : (delF fs nm).Pairwise fun x y => x.name.data.toList < y.name.data.toList := h.sublist List.filter_sublist

theorem step_ok {fu : Int} (h : 0 ≤ fu ∧ fu < 9223372036854775808) : 0 ≤ stF fu ∧ stF fu < 9223372036854775808 := by
  unfold stF; split <;> omega

/-- Another list of files. -/
theorem Dsk.Ok.files {D : Dsk} (ok : D.Ok) {fs : List Fil} {us : Int} {dn : Bool} {fu : Int} (hu : us = lens fs) (hle : us ≤ D.room) (hf : 0 ≤ fu ∧ fu < 9223372036854775808)
    (hs : ∀ x ∈ fs, 0 ≤ x.sure ∧ x.sure ≤ x.b.length) (hn : ∀ x ∈ fs, x.name.size ≤ 40) (ho : fs.Pairwise fun x y => x.name.data.toList < y.name.data.toList) : Dsk.Ok ⟨D.room, us, fs, dn, fu⟩ :=
  ⟨srt_nod ho, ok.room, hu, hle, hf, hs, hn, ho⟩

theorem newD_ok (n : Int) : (newD n).Ok := by
  refine ⟨.nil, ?_, rfl, ?_, ⟨Int.le_refl _, by show (0 : Int) < _; decide⟩, fun x hx => (nomatch hx), fun x hx => (nomatch hx), .nil⟩
  · simp only [newD]; split <;> split <;> omega
  · simp only [newD]; split <;> split <;> omega

theorem Dsk.Ok.stepped {D : Dsk} (ok : D.Ok) : D.stepped.Ok := ⟨ok.nod, ok.room, ok.used, ok.le, step_ok ok.fuse, ok.sure, ok.nam, ok.srt⟩

theorem Dsk.Ok.rep {D : Dsk} (ok : D.Ok) {x x' : Fil} (hx : x ∈ D.files) (he : x'.name = x.name) (hs : 0 ≤ x'.sure ∧ x'.sure ≤ x'.b.length) {us : Int} (hu : us = D.used - x.b.length + x'.b.length) (hle : us ≤ D.room) {dn : Bool} {fu : Int}
    (hf : 0 ≤ fu ∧ fu < 9223372036854775808) : Dsk.Ok ⟨D.room, us, repF D.files x', dn, fu⟩ := by
  have hm : ∀ y ∈ repF D.files x', y = x' ∨ y ∈ D.files := fun y hy => by
    obtain ⟨z, hz, e⟩ := List.mem_map.1 hy
    split at e
    · exact .inl e.symm
    · exact .inr (e ▸ hz)
  refine ok.files ?_ hle hf (fun y hy => ?_) (fun y hy => ?_) ((srt_names (repF_names _ _)).2 ok.srt)
  · have h1 := lens_perm (repF_perm ok.nod hx he)
    have h2 := lens_perm (delF_perm ok.nod hx)
    rw [lens_cons] at h1 h2
    have := ok.used
    rw [hu, ← h1]
    change D.used = lens D.files at this
    omega
  · rcases hm y hy with rfl | h
    · exact hs
    · exact ok.sure y h
  · rcases hm y hy with rfl | h
    · rw [he]; exact ok.nam x hx
    · exact ok.nam y h

theorem createD_ok {D : Dsk} (ok : D.Ok) (nm : ByteArray) : (createD D nm).1.Ok := by
  unfold createD
  split
  · exact ok
  rename_i hn
  split
  · exact ok
  split
  · exact ok
  rename_i hg
  split
  · exact ok.stepped
  · have hno := get_none hg
    have hsz : nm.size ≤ 40 := isName_size (by simpa using hn)
    refine ok.files ?_ ok.le (step_ok ok.fuse) (fun y hy => ?_) (fun y hy => ?_) (insF_srt ok.srt hno)
    · have h1 := lens_perm (insF_perm ⟨nm, [], 0⟩ D.files)
      rw [lens_cons] at h1
      have := ok.used
      change D.used = lens D.files at this
      show D.used = _
      rw [← h1, this]
      simp
    · rcases insF_mem.1 hy with rfl | h
      · exact ⟨Int.le_refl _, by simp⟩
      · exact ok.sure y h
    · rcases insF_mem.1 hy with rfl | h
      · exact hsz
      · exact ok.nam y h

theorem appendD_ok {D : Dsk} (ok : D.Ok) (nm : ByteArray) (bs : List UInt8) : (appendD D nm bs).1.Ok := by
  unfold appendD
  split
  · exact ok
  split
  · exact ok
  rename_i x hg
  obtain ⟨hx, rfl⟩ := get_some hg
  split
  · exact ok
  rename_i hfull
  split
  · exact ok.stepped
  · have := ok.sure x hx
    exact ok.rep (x' := { x with b := x.b ++ bs }) hx rfl ⟨this.1, by simp only [List.length_append]; omega⟩ (by simp only [List.length_append]; omega) (by omega) (step_ok ok.fuse)

theorem syncD_ok {D : Dsk} (ok : D.Ok) (nm : ByteArray) : (syncD D nm).1.Ok := by
  unfold syncD
  split
  · exact ok
  split
  · exact ok
  rename_i x hg
  obtain ⟨hx, rfl⟩ := get_some hg
  split
  · exact ok.stepped
  · exact ok.rep (x' := { x with sure := (x.b.length : Int) }) hx rfl ⟨by show (0 : Int) ≤ (x.b.length : Int); omega, Int.le_refl _⟩ (by simp only [Dsk.stepped]; omega) ok.le (step_ok ok.fuse)

theorem Dsk.Ok.del {D : Dsk} (ok : D.Ok) {x : Fil} (hx : x ∈ D.files) {dn : Bool} {fu : Int} (hf : 0 ≤ fu ∧ fu < 9223372036854775808) : Dsk.Ok ⟨D.room, D.used - x.b.length, delF D.files x.name, dn, fu⟩ := by
  have h2 := lens_perm (delF_perm ok.nod hx)
  rw [lens_cons] at h2
  have hu := ok.used
  change D.used = lens D.files at hu
  have hle := ok.le
  exact ok.files (by omega) (by omega) hf (fun y hy => ok.sure y (delF_mem.1 hy).1) (fun y hy => ok.nam y (delF_mem.1 hy).1) (delF_srt ok.srt _)

theorem removeD_ok {D : Dsk} (ok : D.Ok) (nm : ByteArray) : (removeD D nm).1.Ok := by
  unfold removeD
  split
  · exact ok
  split
  · exact ok
  rename_i x hg
  obtain ⟨hx, rfl⟩ := get_some hg
  split
  · exact ok.stepped
  · exact ok.del hx (step_ok ok.fuse)

theorem fuseD_ok {D : Dsk} (ok : D.Ok) {n : Int} (hn : n < 9223372036854775808) : (fuseD D n).Ok := by
  unfold fuseD
  split
  · exact ok
  · exact ⟨ok.nod, ok.room, ok.used, ok.le, by show 0 ≤ (if 0 < n then n else 0) ∧ (if 0 < n then n else 0) < (9223372036854775808 : Int); split <;> omega, ok.sure, ok.nam, ok.srt⟩

theorem spoilD_ok {D : Dsk} (ok : D.Ok) (nm : ByteArray) (at_ : Int) (bits : UInt8) : (spoilD D nm at_ bits).1.Ok := by
  unfold spoilD
  split
  · exact ok
  split
  · exact ok
  rename_i x hg
  obtain ⟨hx, rfl⟩ := get_some hg
  split
  · exact ok
  · have := ok.sure x hx
    exact ok.rep (x' := { x with b := x.b.modify at_.toNat (· ^^^ bits) }) hx rfl ⟨this.1, by simp only [List.length_modify]; exact this.2⟩ (by simp only [List.length_modify]; omega) ok.le ok.fuse

/-! ### A crash -/
def keepK (x : Fil) (ks : List Int) : Int := match ks with
  | [] => 0
  | k :: _ => if 0 < (if (x.b.length : Int) - x.sure < k then (x.b.length : Int) - x.sure else k) then (if (x.b.length : Int) - x.sure < k then (x.b.length : Int) - x.sure else k) else 0
def cutF (x : Fil) (k : Int) : Fil := ⟨x.name, x.b.take (x.sure + k).toNat, x.sure + k⟩
def crashF : List Fil → List Int → List Fil
  | [], _ => []
  | x :: r, ks => if (x.b.length : Int) - x.sure = 0 then x :: crashF r ks else cutF x (keepK x ks) :: crashF r ks.tail
def crashD (D : Dsk) (ks : List Int) : Dsk := ⟨D.room, lens (crashF D.files ks), crashF D.files ks, false, 0⟩
/-- So many numbers were looked at. -/
def lookF (fs : List Fil) : Nat := (fs.filter fun x => decide ((x.b.length : Int) - x.sure ≠ 0)).length

theorem crashF_names : ∀ (fs : List Fil) (ks : List Int), (crashF fs ks).map (·.name) = fs.map (·.name)
  | [], _ => rfl
  | x :: r, ks => by unfold crashF; split <;> simp [crashF_names r, cutF]

theorem crashF_append : ∀ (p q : List Fil) (ks : List Int), crashF (p ++ q) ks = crashF p ks ++ crashF q (ks.drop (lookF p))
  | [], q, ks => by simp [crashF, lookF]
  | x :: p, q, ks => by
    rw [List.cons_append, crashF, crashF]
    unfold lookF
    split
    · rename_i h
      rw [List.filter_cons_of_neg (by simpa using h), crashF_append p q ks]; rfl
    · rename_i h
      rw [List.filter_cons_of_pos (by simpa using h), List.length_cons, crashF_append p q ks.tail]
      simp only [List.cons_append]
      rw [← List.drop_one, List.drop_drop, Nat.add_comm 1]
      rfl

theorem keepK_le {x : Fil} (h : 0 ≤ x.sure ∧ x.sure ≤ x.b.length) (ks : List Int) : 0 ≤ keepK x ks ∧ x.sure + keepK x ks ≤ x.b.length := by
  unfold keepK
  split
  · omega
  · split <;> split <;> omega

theorem cutF_len {x : Fil} {k : Int} (h : 0 ≤ x.sure) (hk : 0 ≤ k ∧ x.sure + k ≤ x.b.length) : ((cutF x k).b.length : Int) = x.sure + k := by
  simp only [cutF, List.length_take]; omega

theorem crashF_sure : ∀ (fs : List Fil) (ks : List Int), (∀ x ∈ fs, 0 ≤ x.sure ∧ x.sure ≤ x.b.length) → lens (crashF fs ks) ≤ lens fs ∧ ∀ x ∈ crashF fs ks, 0 ≤ x.sure ∧ x.sure = x.b.length
  | [], _, _ => ⟨Int.le_refl _, fun x hx => (nomatch hx)⟩
  | x :: r, ks, h => by
    have hx := h x (by simp)
    have hr := fun y hy => h y (List.mem_cons_of_mem _ hy)
    unfold crashF
    split
    · obtain ⟨g1, g2⟩ := crashF_sure r ks hr
      refine ⟨by rw [lens_cons, lens_cons]; omega, fun y hy => ?_⟩
      rcases List.mem_cons.1 hy with rfl | hy
      · exact ⟨hx.1, by omega⟩
      · exact g2 y hy
    · obtain ⟨g1, g2⟩ := crashF_sure r ks.tail hr
      have hk := keepK_le hx ks
      have hl := cutF_len hx.1 hk
      refine ⟨by rw [lens_cons, lens_cons]; omega, fun y hy => ?_⟩
      rcases List.mem_cons.1 hy with rfl | hy
      · exact ⟨by show 0 ≤ x.sure + _; omega, by rw [hl]; rfl⟩
      · exact g2 y hy

theorem crashD_ok {D : Dsk} (ok : D.Ok) (ks : List Int) : (crashD D ks).Ok := by
  obtain ⟨g1, g2⟩ := crashF_sure D.files ks ok.sure
  have hu := ok.used
  change D.used = lens D.files at hu
  have hle := ok.le
  refine ok.files rfl (by omega) ⟨Int.le_refl _, by decide⟩ (fun y hy => ?_) (fun y hy => ?_) ((srt_names (crashF_names _ _)).2 ok.srt)
  · obtain ⟨a, b⟩ := g2 y hy
    omega
  · have : y.name ∈ (crashF D.files ks).map (·.name) := List.mem_map.2 ⟨y, hy, rfl⟩
    rw [crashF_names] at this
    obtain ⟨z, hz, e⟩ := List.mem_map.1 this
    rw [← e]
    exact ok.nam z hz

theorem renameD_ok {D : Dsk} (ok : D.Ok) (nm nn : ByteArray) : (renameD D nm nn).1.Ok := by
  unfold renameD
  split
  · exact ok
  rename_i hn
  split
  · exact ok
  split
  · exact ok
  rename_i x hg
  obtain ⟨hx, rfl⟩ := get_some hg
  split
  · exact ok.stepped
  split
  · exact ok.stepped
  rename_i hne
  have hsz : nn.size ≤ 40 := isName_size (by simpa using hn)
  have hu := ok.used
  change D.used = lens D.files at hu
  have hle := ok.le
  have h2 := lens_perm (delF_perm ok.nod hx)
  rw [lens_cons] at h2
  have nod2 : ((delF D.files x.name).map (·.name)).Nodup := (List.filter_sublist.map _).nodup ok.nod
  have hlen : (D.used - match D.get nn with | some y => (y.b.length : Int) | none => 0) = lens (insF { x with name := nn } (delF (delF D.files x.name) nn)) := by
    have h1 := lens_perm (insF_perm { x with name := nn } (delF (delF D.files x.name) nn))
    rw [lens_cons] at h1
    rw [← h1]
    cases hg2 : D.get nn with
    | none =>
      have hno := get_none hg2
      have : delF (delF D.files x.name) nn = delF D.files x.name := List.filter_eq_self.2 fun z hz => decide_eq_true fun e => hno (by rw [← e]; exact List.mem_map.2 ⟨z, (delF_mem.1 hz).1, rfl⟩)
      rw [this]
      simp only
      omega
    | some y =>
      obtain ⟨hy, rfl⟩ := get_some hg2
      have h3 := lens_perm (delF_perm nod2 (delF_mem.2 ⟨hy, fun e => hne e.symm⟩))
      rw [lens_cons] at h3
      simp only
      omega
  refine ok.files hlen (Int.le_trans (by show D.used - _ ≤ D.used; split; exact Int.sub_le_self _ (Int.natCast_nonneg _); exact Int.sub_le_self _ (Int.le_refl _)) hle) (step_ok ok.fuse) (fun y hy => ?_) (fun y hy => ?_) (insF_srt (delF_srt (delF_srt ok.srt _) _) (fun h => ?_))
  · rcases insF_mem.1 hy with rfl | h
    · exact ok.sure x hx
    · exact ok.sure y (delF_mem.1 (delF_mem.1 h).1).1
  · rcases insF_mem.1 hy with rfl | h
    · exact hsz
    · exact ok.nam y (delF_mem.1 (delF_mem.1 h).1).1
  · obtain ⟨z, hz, e⟩ := List.mem_map.1 h
    exact (delF_mem.1 hz).2 e

def riseD (D : Dsk) : Dsk := { D with down := false, fuse := 0 }
theorem riseD_ok {D : Dsk} (ok : D.Ok) : (riseD D).Ok := ⟨ok.nod, ok.room, ok.used, ok.le, ⟨Int.le_refl _, by show (0 : Int) < _; decide⟩, ok.sure, ok.nam, ok.srt⟩

def listD (D : Dsk) : List ByteArray := if D.down then [] else D.files.map (·.name)


/-! ### A part of a function's code -/
theorem codeC_tri [Glob] {P : Program} {Γ : Env} {Δ : REnv} (hm : P.follows .mixedOrders = true) (hΓ : ∀ f, SoundF P f (Γ f)) (hΔ : ∀ f, SoundR P f (Δ f)) {n m0 : Nat} (c : Code) {s : AS} {T : Tree} {K : AE → St → Prop} (h : (codeC P Γ Δ n m0 c s T (leafC m0)).wp K) :
    Tri P n m0 false c s (fun e s2 => ∃ c : St, s2 = c.as ∧ K e c) := by
  refine (codeC_sound hm hΓ hΔ c h).weakr fun e s2 hk => ?_
  obtain ⟨T', hT⟩ := hk
  obtain ⟨c, ⟨f, d, q1, q2, q3⟩, q4⟩ := leafC_wp hT
  exact ⟨c.as, f, d, q1, q2, q3, c, rfl, q4⟩

end Go.Ax

namespace Go.Ax
open Go.RowKit
section
variable [Glob] {P : Program}

/-- A call may take a list's place by a row that nobody asks for any more. -/
def sealR (R : RSpec) : RSpec := fun args B r B' => ∃ (i k v : Nat) (α : Type) (E : Enc α) (L : List α), B[k]? = some (.cells true v (rowC (L.map E.f))) ∧ args[i]? = some (.rs k v E.sz 0 L.length) ∧ R (args.set i (vl (L.map E.f))) (B.set k .dead) r B'

theorem SoundR.shutRow {f : Nat} {R : RSpec} (h : SoundR P f R) : SoundR P f (sealR R) := by
  rintro args B r B' ⟨i, b, v, α, E, L, hb, hi, hR⟩ F ρ w us hI hA
  have hget : ∀ (b' : Nat) (row : Bool) (v' : Nat) (cs' : List AV), (B.set b Box.dead)[b']? = some (.cells row v' cs') → b' ≠ b ∧ B[b']? = some (.cells row v' cs') := by
    intro b' row v' cs' hc
    rw [List.getElem?_set] at hc
    split at hc
    · split at hc <;> cases hc
    · rename_i e'
      exact ⟨fun h => e' h.symm, hc⟩
  obtain ⟨hown, hE2⟩ := retell_ext (F := F) (B := B) (B' := B.set b Box.dead) (ρ := ρ) (w := w) (by simp) (fun b' row' v' cs' hc => ⟨cs', (hget b' row' v' cs' hc).2, rfl⟩) (fun j cs Φ h => obj_set (fun _ _ e => by cases e) h)
  have hI2 := retell (B' := B.set b Box.dead) hI (fun b' row' v' cs' hc => by
    obtain ⟨_, h3⟩ := hget b' row' v' cs' hc
    exact ⟨cs', h3, rfl, hI.leaf _ _ _ _ h3, fun j c' hc' => ⟨c', hc', fun u hu => hu.ext hE2⟩⟩) (fun j cs Φ h => obj_set (fun _ _ e => by cases e) h) hE2
  have hA2 : ArgsRel F (B.set b Box.dead) ρ w (args.set i (vl (L.map E.f))) us := by
    refine ⟨by rw [List.length_set]; exact hA.1, fun j p u hp hu => ?_⟩
    rw [List.getElem?_set] at hp
    split at hp
    · rename_i e
      subst e
      split at hp
      · cases hp
        have hv := hA.2 i _ u hi hu
        refine Sealed.vrel (S := fun k => k = b) hI (E.elt.sealed (S := fun k => k = b) rfl hb) hv hown fun b0 row0 v0 cs0 k o hS hB hρ => ?_
        subst hS
        rintro (hF | ⟨b3, x3, l3, g1, g2, g3⟩)
        · exact hI.farb b0 row0 v0 cs0 k o hB hρ hF
        · rw [List.getElem?_set] at g1
          split at g1
          · split at g1
            · cases g1; exact g3.elim
            · cases g1
          · rename_i e2
            exact e2 (hI.injx b0 b3 _ _ (k, o) l3 k hB g1 hρ g2 rfl g3)
      · cases hp
    · exact (hA.2 j p u hp hu).ext hE2
  exact (h _ _ _ _ hR F ρ w us hI2 hA2).mono fun e w' hp => by
    obtain ⟨x, ρ2, rfl, q1, q2, q3⟩ := hp
    exact ⟨x, ρ2, rfl, q1, hE2.trans q2, q3⟩

def isPl : AV → Bool
  | .p _ => true
  | _ => false
theorem isPl_id : ∀ {al : List AV}, al.all isPl = true → ∀ f d, AV.rv.rvL f d al = al
  | [], _, _, _ => rfl
  | a :: al, h, f, d => by
    simp only [List.all_cons, Bool.and_eq_true] at h
    rw [AV.rv.rvL, isPl_id h.2]
    cases a <;> first | rfl | cases h.1
theorem isPl_low : ∀ {al : List AV}, al.all isPl = true → ∀ n, AV.low.allLow n al = true
  | [], _, _ => rfl
  | a :: al, h, n => by
    simp only [List.all_cons, Bool.and_eq_true] at h
    rw [AV.low.allLow, isPl_low h.2]
    cases a <;> first | rfl | cases h.1

/-- A call that turns one object. -/
theorem lift_obj {R : RSpec} {al : List AV} {y : AV} {Φ Φ1 : ObjP} {B : List Box} {b : Nat} (h : R (.op 0 :: al) [.obj [] Φ] y [.obj [] Φ1]) (hb : B[b]? = some (.obj [] Φ)) (hal : al.all isPl = true) (hl : y.low 0 = true) :
    liftR R (.op b :: al) B y (B.set b (.obj [] Φ1)) := by
  have hlt : b < B.length := (List.getElem?_eq_some_iff.1 hb).1
  have hy : ∀ f d, y.rv f d = y := fun f d => rv_low (n := 0) (fun j hj => by omega) (fun j hj => by omega) hl
  have hy1 : ∀ {y : AV}, y.low 0 = true → y.low 1 = true := fun {y} h => low_mono h
  refine ⟨_, _, _, _, h, ⟨[b], [0], [.obj [] Φ], [.obj [] Φ1], [], ?_, ?_, ?_, ?_, ⟨.objs rfl rfl, trivial⟩, ⟨.objs rfl rfl, trivial⟩, ?_, (hy _ _).symm, hy1 hl⟩⟩
  · simp [noDup, Nat.blt_eq, hlt]
  · simp [hb]
  · rw [AV.rv.rvL, isPl_id hal]; rfl
  · rw [AV.low.allLow, isPl_low hal]; rfl
  · simp [outB]

/-- A call that turns one object, and answers with a new row. -/
theorem lift_objrow {R : RSpec} {al : List AV} {sz n : Nat} {e : PV} {Φ Φ1 : ObjP} {B : List Box} {b : Nat} {xs : List PV} (h : R (.op 0 :: al) [.obj [] Φ] (.tup [.rs 1 0 sz 0 n, .p e]) [.obj [] Φ1, .cells true 0 (rowC xs)]) (hb : B[b]? = some (.obj [] Φ)) (hal : al.all isPl = true) :
    liftR R (.op b :: al) B (.tup [.rs B.length 0 sz 0 n, .p e]) (B.set b (.obj [] Φ1) ++ [.cells true 0 (rowC xs)]) := by
  have hlt : b < B.length := (List.getElem?_eq_some_iff.1 hb).1
  refine ⟨_, _, _, _, h, ⟨[b], [0], [.obj [] Φ], [.obj [] Φ1], [.cells true 0 (rowC xs)], ?_, ?_, ?_, ?_, ⟨.objs rfl rfl, trivial⟩, ⟨.objs rfl rfl, .row true 0 xs, trivial⟩, ?_, rfl, rfl⟩⟩
  · simp [noDup, Nat.blt_eq, hlt]
  · simp [hb]
  · rw [AV.rv.rvL, isPl_id hal]; rfl
  · rw [AV.low.allLow, isPl_low hal]; rfl
  · simp [outB]

/-- A call that makes one object. -/
theorem lift_new {R : RSpec} {al : List AV} {Φ : ObjP} {B : List Box} (h : R al [] (.op 0) [.obj [] Φ]) (hal : al.all isPl = true) : liftR R al B (.op B.length) (B ++ [.obj [] Φ]) := by
  refine ⟨_, _, _, _, h, ⟨[], [], [], [], [.obj [] Φ], rfl, rfl, (isPl_id hal _ _).symm, isPl_low hal _, trivial, ⟨.objs rfl rfl, trivial⟩, ?_, ?_, rfl⟩⟩
  · simp [outB]
  · simp [AV.rv, fNew]
end
end Go.Ax

namespace Go.Ax
open Go.Proofs Go.RowKit
set_option maxRecDepth 100000

abbrev iNamed : Nat := 64
noncomputable abbrev nNamed : Func := Tryd.f64
theorem hfNamed : DP.funcs[iNamed]? = some nNamed := by kernel_rfl
theorem heNamed : enters DP iNamed = true := by kernel_rfl
theorem hbNamed : nNamed.body.isSome = true := by kernel_rfl
theorem hnNamed : nNamed.ntmps = 39 := by kernel_rfl
abbrev iFind : Nat := 62
noncomputable abbrev nFind : Func := Tryd.f62
theorem hfFind : DP.funcs[iFind]? = some nFind := by kernel_rfl
theorem heFind : enters DP iFind = true := by kernel_rfl
theorem hbFind : nFind.body.isSome = true := by kernel_rfl
theorem hnFind : nFind.ntmps = 28 := by kernel_rfl
abbrev iStep : Nat := 65
noncomputable abbrev nStep : Func := Tryd.f65
theorem hfStep : DP.funcs[iStep]? = some nStep := by kernel_rfl
theorem heStep : enters DP iStep = true := by kernel_rfl
theorem hbStep : nStep.body.isSome = true := by kernel_rfl
theorem hnStep : nStep.ntmps = 27 := by kernel_rfl
abbrev iNew : Nat := 15
noncomputable abbrev nNew : Func := Tryd.f15
theorem hfNew : DP.funcs[iNew]? = some nNew := by kernel_rfl
theorem heNew : enters DP iNew = true := by kernel_rfl
theorem hbNew : nNew.body.isSome = true := by kernel_rfl
theorem hnNew : nNew.ntmps = 9 := by kernel_rfl
abbrev iCreate : Nat := 24
noncomputable abbrev nCreate : Func := Tryd.f24
theorem hfCreate : DP.funcs[iCreate]? = some nCreate := by kernel_rfl
theorem heCreate : enters DP iCreate = true := by kernel_rfl
theorem hbCreate : nCreate.body.isSome = true := by kernel_rfl
theorem hnCreate : nCreate.ntmps = 38 := by kernel_rfl
abbrev iAppend : Nat := 47
noncomputable abbrev nAppend : Func := Tryd.f47
theorem hfAppend : DP.funcs[iAppend]? = some nAppend := by kernel_rfl
theorem heAppend : enters DP iAppend = true := by kernel_rfl
theorem hbAppend : nAppend.body.isSome = true := by kernel_rfl
theorem hnAppend : nAppend.ntmps = 54 := by kernel_rfl
abbrev iSync : Nat := 54
noncomputable abbrev nSync : Func := Tryd.f54
theorem hfSync : DP.funcs[iSync]? = some nSync := by kernel_rfl
theorem heSync : enters DP iSync = true := by kernel_rfl
theorem hbSync : nSync.body.isSome = true := by kernel_rfl
theorem hnSync : nSync.ntmps = 30 := by kernel_rfl
abbrev iRemove : Nat := 61
noncomputable abbrev nRemove : Func := Tryd.f61
theorem hfRemove : DP.funcs[iRemove]? = some nRemove := by kernel_rfl
theorem heRemove : enters DP iRemove = true := by kernel_rfl
theorem hbRemove : nRemove.body.isSome = true := by kernel_rfl
theorem hnRemove : nRemove.ntmps = 39 := by kernel_rfl
abbrev iRead : Nat := 48
noncomputable abbrev nRead : Func := Tryd.f48
theorem hfRead : DP.funcs[iRead]? = some nRead := by kernel_rfl
theorem heRead : enters DP iRead = true := by kernel_rfl
theorem hbRead : nRead.body.isSome = true := by kernel_rfl
theorem hnRead : nRead.ntmps = 54 := by kernel_rfl
abbrev iSize : Nat := 60
noncomputable abbrev nSize : Func := Tryd.f60
theorem hfSize : DP.funcs[iSize]? = some nSize := by kernel_rfl
theorem heSize : enters DP iSize = true := by kernel_rfl
theorem hbSize : nSize.body.isSome = true := by kernel_rfl
theorem hnSize : nSize.ntmps = 22 := by kernel_rfl
abbrev iRoom : Nat := 25
noncomputable abbrev nRoom : Func := Tryd.f25
theorem hfRoom : DP.funcs[iRoom]? = some nRoom := by kernel_rfl
theorem heRoom : enters DP iRoom = true := by kernel_rfl
theorem hbRoom : nRoom.body.isSome = true := by kernel_rfl
theorem hnRoom : nRoom.ntmps = 14 := by kernel_rfl
abbrev iDown : Nat := 55
noncomputable abbrev nDown : Func := Tryd.f55
theorem hfDown : DP.funcs[iDown]? = some nDown := by kernel_rfl
theorem heDown : enters DP iDown = true := by kernel_rfl
theorem hbDown : nDown.body.isSome = true := by kernel_rfl
theorem hnDown : nDown.ntmps = 11 := by kernel_rfl
abbrev iRename : Nat := 99
noncomputable abbrev nRename : Func := Tryd.f99
theorem hfRename : DP.funcs[iRename]? = some nRename := by kernel_rfl
theorem heRename : enters DP iRename = true := by kernel_rfl
theorem hbRename : nRename.body.isSome = true := by kernel_rfl
theorem hnRename : nRename.ntmps = 69 := by kernel_rfl
abbrev iSpoil : Nat := 22
noncomputable abbrev nSpoil : Func := Tryd.f22
theorem hfSpoil : DP.funcs[iSpoil]? = some nSpoil := by kernel_rfl
theorem heSpoil : enters DP iSpoil = true := by kernel_rfl
theorem hbSpoil : nSpoil.body.isSome = true := by kernel_rfl
theorem hnSpoil : nSpoil.ntmps = 41 := by kernel_rfl
abbrev iList : Nat := 49
noncomputable abbrev nList : Func := Tryd.f49
theorem hfList : DP.funcs[iList]? = some nList := by kernel_rfl
theorem heList : enters DP iList = true := by kernel_rfl
theorem hbList : nList.body.isSome = true := by kernel_rfl
theorem hnList : nList.ntmps = 17 := by kernel_rfl

abbrev tMap : Nat := 88
abbrev tKey : Nat := 9
abbrev tVal : Nat := 100
theorem htMap : DP.underlying tMap = some (.map tKey tVal) := by kernel_rfl
theorem htKey : DP.underlying tKey = some .string := by kernel_rfl
theorem htVal : zeroV DP tVal = some (.p (.v (.pointer none))) := by kernel_rfl

noncomputable def TNamed_l1_e (nm : ByteArray) (s1 : Int) : St := ([(0, vs nm), (6, .rs 0 0 1 0 nm.data.toList.length), (7, vi ((nm.data.toList.length : Nat) : Int)), (8, vi s1)], [byteE.bx 0 nm.data.toList])
noncomputable def TNamed_l1_x (x1 : Unit) : AE × St := (.ret, ([(2, vb false)], []))
noncomputable def TNamed_l1_x' (nm : ByteArray) (y1 : Unit) : AE × St := ((.exit 0), ([(0, vs nm)], []))
noncomputable def TNamed_l1_b (nm : ByteArray) (s1 : Int) : Tree :=
.sp 9 (decide (s1 < ((nm.data.toList.length : Nat) : Int))) (
.ridx 10 nm.data.toList.length s1 (.rload 11 (rowC (nm.data.toList.map byteE.f)) (0 + Int.toNat s1 * 1) byteE nm.data.toList s1 0 (fun e1 => .sp 13 (decide ((e1.toNat : Int) < (97 : Int))) (
.sp 20 (decide ((e1.toNat : Int) < (48 : Int))) (
.sp 28 ((e1.toNat : Int) != (46 : Int)) (
.leaf ⟨[2], []⟩ [] .ret (some (TNamed_l1_x ()).2)) (
.int 30 (IntKind.i64.wrap (s1 + 1)) (s1 + 1) (.leaf ⟨[0, 6, 7, 8], [(0, 0, some (nm.data.toList.map byteE.f))]⟩ [rowC (nm.data.toList.map byteE.f)] .normal (some (TNamed_l1_e nm (s1 + 1)))))) (
.sp 23 (decide ((e1.toNat : Int) > (57 : Int))) (
.sp 28 ((e1.toNat : Int) != (46 : Int)) (
.leaf ⟨[2], []⟩ [] .ret (some (TNamed_l1_x ()).2)) (
.int 30 (IntKind.i64.wrap (s1 + 1)) (s1 + 1) (.leaf ⟨[0, 6, 7, 8], [(0, 0, some (nm.data.toList.map byteE.f))]⟩ [rowC (nm.data.toList.map byteE.f)] .normal (some (TNamed_l1_e nm (s1 + 1)))))) (
.int 30 (IntKind.i64.wrap (s1 + 1)) (s1 + 1) (.leaf ⟨[0, 6, 7, 8], [(0, 0, some (nm.data.toList.map byteE.f))]⟩ [rowC (nm.data.toList.map byteE.f)] .normal (some (TNamed_l1_e nm (s1 + 1))))))) (
.sp 16 (decide ((e1.toNat : Int) > (122 : Int))) (
.sp 20 (decide ((e1.toNat : Int) < (48 : Int))) (
.sp 28 ((e1.toNat : Int) != (46 : Int)) (
.leaf ⟨[2], []⟩ [] .ret (some (TNamed_l1_x ()).2)) (
.int 30 (IntKind.i64.wrap (s1 + 1)) (s1 + 1) (.leaf ⟨[0, 6, 7, 8], [(0, 0, some (nm.data.toList.map byteE.f))]⟩ [rowC (nm.data.toList.map byteE.f)] .normal (some (TNamed_l1_e nm (s1 + 1)))))) (
.sp 23 (decide ((e1.toNat : Int) > (57 : Int))) (
.sp 28 ((e1.toNat : Int) != (46 : Int)) (
.leaf ⟨[2], []⟩ [] .ret (some (TNamed_l1_x ()).2)) (
.int 30 (IntKind.i64.wrap (s1 + 1)) (s1 + 1) (.leaf ⟨[0, 6, 7, 8], [(0, 0, some (nm.data.toList.map byteE.f))]⟩ [rowC (nm.data.toList.map byteE.f)] .normal (some (TNamed_l1_e nm (s1 + 1)))))) (
.int 30 (IntKind.i64.wrap (s1 + 1)) (s1 + 1) (.leaf ⟨[0, 6, 7, 8], [(0, 0, some (nm.data.toList.map byteE.f))]⟩ [rowC (nm.data.toList.map byteE.f)] .normal (some (TNamed_l1_e nm (s1 + 1))))))) (
.int 30 (IntKind.i64.wrap (s1 + 1)) (s1 + 1) (.leaf ⟨[0, 6, 7, 8], [(0, 0, some (nm.data.toList.map byteE.f))]⟩ [rowC (nm.data.toList.map byteE.f)] .normal (some (TNamed_l1_e nm (s1 + 1))))))))) (
.leaf ⟨[0], []⟩ [] (.exit 0) (some (TNamed_l1_x' nm ()).2))
noncomputable def TNamed (nm : ByteArray) : Tree :=
.sbyte 6 (.loop ⟨[0, 6, 7, 8], [(0, 0, some (nm.data.toList.map byteE.f))]⟩ [rowC (nm.data.toList.map byteE.f)] (some (TNamed_l1_e nm 0)) (TNamed_l1_e nm) (TNamed_l1_x) (TNamed_l1_x' nm) 0 (TNamed_l1_b nm) (fun (x1 : Unit) => .leaf ⟨[0], []⟩ [] .ret (some ([(0, vb false)], []))) (fun (y1 : Unit) => .sp 33 (decide ((nm.size : Int) > (0 : Int))) (
.leaf ⟨[0], []⟩ [] .ret (some ([(0, vb (decide ((nm.size : Int) ≤ (40 : Int))))], []))) (
.leaf ⟨[0], []⟩ [] .ret (some ([(0, vb false)], [])))))

theorem TNamed_chk (nm : ByteArray) : fnC DP Γ0 Δ0 Tryd.f64 [vs nm] [] (TNamed nm) = TNamed nm := by kernel_rfl

end Go.Ax
