/- What one operation does in a world is what the second reading says: slices, lengths, conversions; then any operation. -/
import Derived.Test.YtnhhaidlpbkmjaaBx8
import Derived.Lib.ConvBytes
set_option linter.unusedVariables false
set_option linter.unusedSimpArgs false
set_option linter.unusedSectionVars false
namespace Go.Ax
open Go.RowKit

variable [Glob] {P : Program} {F : Nat → Prop}

theorem bounds_run {B : List Box} {ρ : Loc} {w : World} {isSlice : Bool} {len cap l h : Nat} {lo hi : Option AV} {ulo uhi : Option Value} (hcap : len ≤ cap)
    (h1 : ∀ x, lo = some x → ∃ u, ulo = some u ∧ VRel F B ρ w x u) (h1n : lo = none → ulo = none) (h2 : ∀ x, hi = some x → ∃ u, uhi = some u ∧ VRel F B ρ w x u) (h2n : hi = none → uhi = none)
    (hm : boundsA len lo hi = some (l, h)) : (Instr.sliceBounds isSlice len cap ulo uhi none).run P w = .ok (l, h, cap) w ∧ l ≤ h ∧ h ≤ len := by
  unfold boundsA at hm
  cases hh : boundA len len hi with
  | none => rw [hh] at hm; cases hm
  | some h' =>
  rw [hh] at hm
  simp only [Option.bind_some] at hm
  cases hl : boundA h' 0 lo with
  | none => rw [hl] at hm; cases hm
  | some l' =>
  rw [hl] at hm
  simp only [Option.bind_some, Option.some.injEq, Prod.mk.injEq] at hm
  obtain ⟨rfl, rfl⟩ := hm
  have hhi : h' ≤ len ∧ ((uhi = none ∧ h' = len) ∨ ∃ k n, uhi = some (.int k n) ∧ 0 ≤ n ∧ n.toNat = h') := by
    cases hi with
    | none => cases hh; exact ⟨Nat.le_refl _, .inl ⟨h2n rfl, rfl⟩⟩
    | some x =>
      obtain ⟨u, rfl, hv⟩ := h2 x rfl
      simp only [boundA] at hh
      cases hi' : intA x with
      | none => rw [hi'] at hh; cases hh
      | some n =>
        obtain ⟨k, rfl⟩ := intA_some hi'
        obtain rfl := hv.val
        rw [hi'] at hh
        simp only [Option.bind_some] at hh
        split at hh
        · rename_i hc
          cases hh
          exact ⟨by omega, .inr ⟨k, n, rfl, hc.1, rfl⟩⟩
        · cases hh
  have hlo : l' ≤ h' ∧ ((ulo = none ∧ l' = 0) ∨ ∃ k n, ulo = some (.int k n) ∧ 0 ≤ n ∧ n.toNat = l') := by
    cases lo with
    | none => cases hl; exact ⟨Nat.zero_le _, .inl ⟨h1n rfl, rfl⟩⟩
    | some x =>
      obtain ⟨u, rfl, hv⟩ := h1 x rfl
      simp only [boundA] at hl
      cases hi' : intA x with
      | none => rw [hi'] at hl; cases hl
      | some n =>
        obtain ⟨k, rfl⟩ := intA_some hi'
        obtain rfl := hv.val
        rw [hi'] at hl
        simp only [Option.bind_some] at hl
        split at hl
        · rename_i hc
          cases hl
          exact ⟨by omega, .inr ⟨k, n, rfl, hc.1, rfl⟩⟩
        · cases hl
  refine ⟨?_, hlo.1, hhi.1⟩
  obtain ⟨q1, q2⟩ := hhi
  obtain ⟨q3, q4⟩ := hlo
  rcases q2 with ⟨rfl, rfl⟩ | ⟨k, n, rfl, n0, rfl⟩ <;> rcases q4 with ⟨rfl, rfl⟩ | ⟨k', n', rfl, m0, rfl⟩
  · simp [Instr.sliceBounds]
  · have : n' ≤ (h' : Int) := by omega
    simp [Instr.sliceBounds, Instr.sliceBound, asIntOf, m0, this]
  · have : n ≤ (cap : Int) := by omega
    simp [Instr.sliceBounds, Instr.sliceBound, asIntOf, n0, this]
  · have e1 : n ≤ (cap : Int) := by omega
    have e2 : n' ≤ n := by omega
    have e3 : max n 0 = n := by omega
    simp [Instr.sliceBounds, Instr.sliceBound, asIntOf, n0, m0, e1, e2, e3]

theorem slice_run {B : List Box} {ρ : Loc} {w : World} (hI : Inv F B ρ w) {t : TypeId} {x v : AV} {lo hi : Option AV} {ux : Value} {ulo uhi : Option Value} (hx : VRel F B ρ w x ux)
    (h1 : ∀ x, lo = some x → ∃ u, ulo = some u ∧ VRel F B ρ w x u) (h1n : lo = none → ulo = none) (h2 : ∀ x, hi = some x → ∃ u, uhi = some u ∧ VRel F B ρ w x u) (h2n : hi = none → uhi = none)
    (hm : sliceA P t B x lo hi = some v) : ∃ z, (Instr.sliceAt t ux ulo uhi none).run P w = .ok z w ∧ VRel F B ρ w v z := by
  unfold sliceA at hm
  split at hm
  · rename_i s hu
    obtain rfl := hx.val
    cases hb : boundsA s.size lo hi with
    | none => rw [hb] at hm; cases hm
    | some q =>
      obtain ⟨l, h⟩ := q
      rw [hb] at hm
      cases hm
      obtain ⟨e1, e2, e3⟩ := bounds_run (P := P) (isSlice := false) (Nat.le_refl _) h1 h1n h2 h2n hb
      exact ⟨.string (s.extract l h), by simp [Instr.sliceAt, Instr.slice, run_underlying hu, e1], .p _ _ (.v _)⟩
  · rename_i e xs hu
    cases hs : sizeT P e with
    | none => rw [hs] at hm; cases hm
    | some sz =>
    rw [hs] at hm
    simp only [Option.bind_some] at hm
    cases hb : boundsA xs.length lo hi with
    | none => rw [hb] at hm; cases hm
    | some q =>
    obtain ⟨l, h⟩ := q
    rw [hb] at hm
    simp only [Option.bind_some] at hm
    split at hm
    · rename_i hall
      rw [List.all_eq_true] at hall
      have hall' : ∀ y ∈ xs, y.cells.length = sz := fun y hy => by simpa using hall y hy
      cases hm
      rcases ls_inv hx with ⟨a, cap, rfl, rfl, hac⟩ | ⟨a, cap, us, rfl, g1, g2, g3, g4, g5, g6, g7⟩
      · obtain ⟨e1, e2, e3⟩ := bounds_run (P := P) (len := 0) (cap := cap) (isSlice := true) (Nat.zero_le _) h1 h1n h2 h2n hb
        have hl0 : l = 0 := by omega
        have hh0 : h = 0 := by omega
        subst hl0
        subst hh0
        refine ⟨.slice a 0 cap, ?_, .p _ _ (.nil a cap hac)⟩
        have hadd : a.map (fun x => x.add (0 * sz)) = a := by cases a <;> simp [Addr.add]
        simp [Instr.sliceAt, Instr.slice, run_underlying hu, e1, sizeOf_run w hs]
        intro _
        simpa using hadd
      · obtain ⟨e1, e2, e3⟩ := bounds_run (P := P) (cap := cap) (isSlice := true) g4 h1 h1n h2 h2n hb
        have hlen : ((xs.take h).drop l).length = h - l := by simp; omega
        have hfl := flat_length xs sz hall'
        have hsub : ∀ y ∈ (xs.take h).drop l, y.cells.length = sz := fun y hy => hall' y (List.mem_of_mem_take (List.mem_of_mem_drop hy))
        have hrun : (Instr.sliceAt t (.slice (some a) xs.length cap) ulo uhi none).run P w = .ok (.slice (if cap = l then some a else some (a.add (l * sz))) (h - l) (cap - l)) w := by
          simp [Instr.sliceAt, Instr.slice, run_underlying hu, e1, sizeOf_run w hs]
        by_cases hc : cap = l
        · have hz : h - l = 0 := by omega
          have hnil : (xs.take h).drop l = [] := List.eq_nil_of_length_eq_zero (by omega)
          refine ⟨_, by rw [hrun, if_pos hc], ?_⟩
          rw [hnil, hz]
          exact .p _ _ (.ls [] a _ [] g1 g2 g3 (by simp) rfl (fun j u h => by simp at h) (fun j p u h => by simp at h))
        · refine ⟨_, by rw [hrun, if_neg hc], ?_⟩
          obtain ⟨f1, f2⟩ := add_plain a (l * sz) g1
          have hmul : h * sz ≤ xs.length * sz := Nat.mul_le_mul_right _ e3
          have hmul2 : l * sz ≤ h * sz := Nat.mul_le_mul_right _ e2
          rw [← hlen]
          have hfs := flat_length _ sz hsub
          rw [hlen, Nat.sub_mul] at hfs
          refine .p _ _ (.ls _ (a.add (l * sz)) _ ((us.drop (l * sz)).take ((h - l) * sz)) f1 (by rw [f2]; exact g2) (by rw [f2]; exact g3) (by rw [hlen]; omega) (by rw [hfs, Nat.sub_mul]; simp; omega) (fun j u hj => ?_) (fun j p u hp hu => ?_))
          · rw [List.getElem?_take] at hj
            split at hj
            · rw [List.getElem?_drop] at hj
              rw [add_add _ _ _ g1]
              exact g6 _ u hj
            · cases hj
          · rw [List.getElem?_take] at hu
            split at hu
            · rename_i hjl
              rw [List.getElem?_drop] at hu
              refine g7 _ p u ?_ hu
              have hsz0 : 0 < sz := by
                rcases Nat.eq_zero_or_pos sz with h0 | h0
                · subst h0; simp at hjl
                · exact h0
              have hdiv : j / sz < h - l := Nat.div_lt_of_lt_mul (by rw [Nat.mul_comm]; exact hjl)
              have hmod : j % sz < sz := Nat.mod_lt _ hsz0
              have hje : j = j / sz * sz + j % sz := by rw [Nat.mul_comm]; exact (Nat.div_add_mod j sz).symm
              have hy1 : j / sz < ((xs.take h).drop l).length := by omega
              have hget : ((xs.take h).drop l)[j / sz]? = some (((xs.take h).drop l)[j / sz]) := List.getElem?_eq_getElem hy1
              have hp' := flat_at _ sz hsub (j / sz) _ hget (j % sz) hmod
              rw [← hje] at hp'
              have hget2 : xs[l + j / sz]? = some (((xs.take h).drop l)[j / sz]) := by
                rw [List.getElem?_drop, List.getElem?_take] at hget
                split at hget
                · exact hget
                · cases hget
              have hp2 := flat_at xs sz hall' (l + j / sz) _ hget2 (j % sz) hmod
              rw [show (l + j / sz) * sz + j % sz = l * sz + j by rw [Nat.add_mul]; omega] at hp2
              rw [hp2, ← hp']
              exact hp
            · cases hu
    · cases hm
  · rename_i e b ver sz' off len hu
    cases hs : sizeT P e with
    | none => rw [hs] at hm; cases hm
    | some sz =>
    rw [hs] at hm
    simp only [Option.bind_some] at hm
    cases hb : boundsA len lo hi with
    | none => rw [hb] at hm; cases hm
    | some q =>
    obtain ⟨l, h⟩ := q
    rw [hb] at hm
    simp only [Option.bind_some] at hm
    split at hm
    · rename_i hsz
      have hsz' : sz = sz' := by simpa using hsz
      subst hsz'
      cases hm
      cases hx with
      | rs _ _ _ _ _ a cap hok =>
        obtain ⟨g1, g2, g3, g4⟩ := hok
        obtain ⟨e1, e2, e3⟩ := bounds_run (P := P) (cap := cap) (isSlice := true) g2 h1 h1n h2 h2n hb
        refine ⟨.slice (if cap = l then a else a.map (·.add (l * sz))) (h - l) (cap - l), by simp [Instr.sliceAt, Instr.slice, run_underlying hu, e1, sizeOf_run w hs], .rs _ _ _ _ _ _ _ ⟨g1, by omega, fun hc => ?_, fun row v cs hb => ?_⟩⟩
        · have hne : ¬ cap = l := by omega
          rw [if_neg hne]
          have := g3 (by omega)
          cases a with
          | none => simp at this
          | some a => rfl
        · obtain ⟨l1, l2⟩ := g4 row v cs hb
          refine ⟨l1, fun e => ?_⟩
          obtain ⟨l3, l4⟩ := l2 e
          have hmul : h * sz ≤ len * sz := Nat.mul_le_mul_right _ e3
          have hmul2 : l * sz ≤ h * sz := Nat.mul_le_mul_right _ e2
          refine ⟨by rw [Nat.sub_mul]; omega, ?_⟩
          by_cases hc : cap = l
          · exact .inl (by omega)
          · rcases l4 with h0 | ⟨k, o', hr, ha, e', n, hsh, hle⟩
            · omega
            · subst ha
              have hmul3 : l * sz ≤ cap * sz := Nat.mul_le_mul_right _ (by omega)
              refine .inr ⟨k, o', hr, by rw [if_neg hc, Option.map_some, Addr.add_lit, Nat.add_assoc], e', n, hsh, by rw [Nat.sub_mul]; omega⟩
    · cases hm
  · rename_i e hu
    obtain rfl := hx.val
    cases hm2 : sizeT P e with
    | none => rw [hm2] at hm; cases hm
    | some sz =>
    rw [hm2] at hm
    simp only [Option.bind_some] at hm
    cases hb : boundsA 0 lo hi with
    | none => rw [hb] at hm; cases hm
    | some q =>
      obtain ⟨l, h⟩ := q
      rw [hb] at hm
      cases hm
      obtain ⟨e1, e2, e3⟩ := bounds_run (P := P) (cap := 0) (isSlice := true) (Nat.le_refl 0) h1 h1n h2 h2n hb
      have hl0 : l = 0 := by omega
      have hh0 : h = 0 := by omega
      subst hl0
      subst hh0
      exact ⟨.slice none 0 0, by simp [Instr.sliceAt, Instr.slice, run_underlying hu, e1, sizeOf_run w hm2], .p _ _ (.v _)⟩
  · rename_i n e b ver o hu
    cases hs : sizeT P e with
    | none => rw [hs] at hm; cases hm
    | some sz =>
    rw [hs] at hm
    simp only [Option.bind_some] at hm
    cases hb : boundsA n lo hi with
    | none => rw [hb] at hm; cases hm
    | some q =>
    obtain ⟨l, h⟩ := q
    rw [hb] at hm
    simp only [Option.bind_some] at hm
    split at hm
    · rename_i row vv cs hbx
      split at hm
      · rename_i hc
        simp only [Bool.and_eq_true, Nat.ble_eq] at hc
        obtain ⟨hv, hle⟩ := hc
        have hv' : ver = vv := Nat.eq_of_beq_eq_true hv
        subst hv'
        cases hm
        cases hx with
        | ptr _ _ _ a hp =>
          obtain ⟨k, o', hr, rfl⟩ := (hp.2 _ _ _ hbx).2 rfl
          obtain ⟨us, e2, fr, q1, q2, q3, q4⟩ := hI.cell hbx hr
          obtain ⟨e1, e3, e4⟩ := bounds_run (P := P) (cap := n) (isSlice := false) (Nat.le_refl n) h1 h1n h2 h2n hb
          have hmul : h * sz ≤ n * sz := Nat.mul_le_mul_right _ e4
          have hmul2 : l * sz ≤ h * sz := Nat.mul_le_mul_right _ e3
          refine ⟨.slice (some (if n = l then ⟨k, o' + o, none⟩ else (⟨k, o' + o, none⟩ : Addr).add (l * sz))) (h - l) (n - l), by simp [Instr.sliceAt, run_underlying hu, Instr.sureAddr, e1, sizeOf_run w hs], .rs _ _ _ _ _ _ _ ⟨hp.1, by omega, fun _ => rfl, fun row' v cs' hb => ?_⟩⟩
          rw [hbx] at hb
          cases hb
          refine ⟨Nat.le_refl _, fun _ => ⟨by rw [Nat.sub_mul]; omega, ?_⟩⟩
          by_cases hc : n = l
          · exact .inl (by omega)
          · refine .inr ⟨k, o', hr, by rw [if_neg hc, Addr.add_lit, Nat.add_assoc], e2, us.size, by simp [World.shape?, q1], by rw [Nat.sub_mul]; omega⟩
      · cases hm
    · cases hm
  · cases hm

end Go.Ax
