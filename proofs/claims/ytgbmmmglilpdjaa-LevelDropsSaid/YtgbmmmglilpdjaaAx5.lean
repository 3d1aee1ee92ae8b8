/- What one operation does in a world is what the second reading says: literals, append. -/
import Derived.Test.YtgbmmmglilpdjaaAx4
import Derived.Laws.Tables
import Derived.Great.BuildSlice
set_option linter.unusedVariables false
set_option linter.unusedSimpArgs false
namespace Go.Ax
open Go.RowKit

variable {P : Program} {F : Nat → Prop}

theorem fieldsT_some {t : TypeId} {fs : Array Field} (h : fieldsT P t = some fs) : P.underlying t = some (.struct fs) := by
  unfold fieldsT at h
  split at h
  · cases h; assumption
  · cases h

theorem build_run {B : List Box} {ρ : Loc} {w : World} {t : TypeId} {parts : List (Nat × AV)} {vs : Array (Nat × Value)} {v : AV} (hl : parts.length = vs.size)
    (hp : ∀ (i : Nat) (p : Nat × AV) (v : Nat × Value), parts[i]? = some p → vs[i]? = some v → p.1 = v.1 ∧ VRel F B ρ w p.2 v.2) (hm : buildA P t parts = some v) :
    ∃ x, (Instr.build t vs).run P w = .ok x w ∧ VRel F B ρ w v x := by
  unfold buildA at hm
  cases hz : zeroA P t with
  | none => rw [hz] at hm; cases hm
  | some z =>
    rw [hz] at hm
    simp only [Option.bind_some] at hm
    split at hm
    · rename_i hlf
      obtain ⟨u, h1, h2⟩ := zero_run hz w hlf
      have hfin : ∀ (place : Nat → Option (Nat × Nat)), (fillA place z parts).map .agg = some v → ∃ us, Instr.fill place u.cells vs.toList = some us ∧ VRel F B ρ w v (.agg us) := by
        intro place hf
        cases hff : fillA place z parts with
        | none => rw [hff] at hf; cases hf
        | some cs =>
          rw [hff] at hf
          cases hf
          obtain ⟨us, e1, e2, _⟩ := fill_run parts vs.toList z cs u.cells (by simpa using hl) (fun i p v h1 h2 => hp i p v h1 (by simpa using h2)) (h2 F B ρ w) hlf hff
          refine ⟨us, e1, ?_⟩
          have : Value.agg us = .agg us.toList.toArray := by simp
          rw [this]
          exact .agg _ _ (by simpa using e2.1) (fun j p u h3 h4 => e2.2 j p u h3 (by simpa using h4))
      split at hm
      · rename_i places hpl
        unfold placesT at hpl
        cases hfs : fieldsT P t with
        | none => rw [hfs] at hpl; cases hpl
        | some fs =>
          rw [hfs] at hpl
          simp only [Option.bind_some] at hpl
          obtain ⟨us, e1, e2⟩ := hfin _ hm
          refine ⟨.agg us, ?_, e2⟩
          have hu := fieldsT_some hfs
          simp [Instr.build, h1, run_underlying hu, Array.mapM_eq_mapM_toList, run_places w _ _ hpl, e1]
      · cases ha : arrayT P t with
        | none => rw [ha] at hm; cases hm
        | some q =>
          obtain ⟨n, sz⟩ := q
          rw [ha] at hm
          simp only [Option.bind_some] at hm
          obtain ⟨us, e1, e2⟩ := hfin _ hm
          unfold arrayT at ha
          split at ha
          · rename_i len e hu
            cases hsz : sizeT P e with
            | none => rw [hsz] at ha; cases ha
            | some s =>
              rw [hsz] at ha
              cases ha
              refine ⟨.agg us, ?_, e2⟩
              simp [Instr.build, h1, run_underlying hu, sizeOf_run w hsz, e1]
          · cases ha
    · cases hm

theorem elemT_some {t e : TypeId} (h : elemT P t = some e) : P.underlying t = some (.slice e) := by
  unfold elemT at h
  split at h
  · cases h; assumption
  · cases h

theorem repeatL_length (z : List AV) (n : Nat) : (repeatL z n).length = n * z.length := by
  induction n with
  | zero => simp [repeatL]
  | succ n ih => simp [repeatL, ih, Nat.succ_mul]; omega

theorem repeatL_get (z : List AV) (n i : Nat) (hi : i < n * z.length) : (repeatL z n)[i]? = z[i % z.length]? := by
  induction n generalizing i with
  | zero => simp at hi
  | succ n ih =>
    rw [repeatL, List.getElem?_append]
    split
    · rename_i h; rw [Nat.mod_eq_of_lt h]
    · rename_i h
      rw [ih _ (by rw [Nat.succ_mul] at hi; omega)]
      congr 1
      rw [← Nat.mod_eq_sub_mod (by omega)]

theorem repeatL_leaf (z : List AV) (n : Nat) (h : z.all AV.leaf = true) : (repeatL z n).all AV.leaf = true := by
  induction n with
  | zero => rfl
  | succ n ih => rw [repeatL, List.all_append, h, ih]; rfl

theorem buildSlice_run {B B' : List Box} {ρ : Loc} {w : World} (hI : Inv F B ρ w) {t : TypeId} {len : Nat} {parts : List (Nat × AV)} {vs : Array (Nat × Value)} {v : AV} (hl : parts.length = vs.size)
    (hp : ∀ (i : Nat) (p : Nat × AV) (v : Nat × Value), parts[i]? = some p → vs[i]? = some v → p.1 = v.1 ∧ VRel F B ρ w p.2 v.2) (hm : buildSliceA P t len parts B = some (v, B')) :
    ∃ x w' ρ', (Instr.buildSlice t len vs).run P w = .ok x w' ∧ Inv F B' ρ' w' ∧ Ext F B ρ w B' ρ' w' ∧ VRel F B' ρ' w' v x := by
  unfold buildSliceA at hm
  cases he : elemT P t with
  | none => rw [he] at hm; cases hm
  | some e =>
    rw [he] at hm
    simp only [Option.bind_some] at hm
    cases hsz : sizeT P e with
    | none => rw [hsz] at hm; cases hm
    | some n =>
      rw [hsz] at hm
      simp only [Option.bind_some] at hm
      cases hz : zeroA P e with
      | none => rw [hz] at hm; cases hm
      | some z =>
        rw [hz] at hm
        simp only [Option.bind_some] at hm
        split at hm
        · rename_i hc
          simp only [Bool.and_eq_true, beq_iff_eq, Nat.ble_eq] at hc
          obtain ⟨⟨c1, c2⟩, c3⟩ := hc
          cases hf : fillA (fun i => some (i * n, n)) (repeatL z len) parts with
          | none => rw [hf] at hm; cases hm
          | some cs =>
            rw [hf] at hm
            simp only [Option.bind_some, Option.some.injEq, Prod.mk.injEq] at hm
            obtain ⟨rfl, rfl⟩ := hm
            obtain ⟨u, h1, h2⟩ := zero_run hz w c3
            have hu := elemT_some he
            obtain ⟨ie, hie, hies⟩ := sizeT_info hsz
            have hzi : ie.zero = some u := by
              have := h1
              simp only [zeroValue, typeInfo, Sem.run_bind, run_program, Result.andThen_ok, hie, Sem.run_pure] at this
              cases hh : ie.zero with
              | none => rw [hh] at this; simp [unsupported] at this
              | some y => rw [hh] at this; simp at this; rw [this]
            have hbase : CellsRel F B ρ w (repeatL z len) ((Array.range (len * n)).map (u.cells[· % u.cells.size]!)) := by
              have hzs := (h2 F B ρ w).1
              refine ⟨by rw [repeatL_length]; simp [c1], fun i c y hi hy => ?_⟩
              have hlt : i < len * n := by
                have := (List.getElem?_eq_some_iff.1 hi).1
                rw [repeatL_length] at this; rw [c1]; exact this
              rw [repeatL_get _ _ _ (by rw [← c1]; exact hlt)] at hi
              have hpos : 0 < z.length := by
                rcases Nat.eq_zero_or_pos z.length with h0 | h0
                · rw [c1, h0] at hlt; simp at hlt
                · exact h0
              have hm : i % z.length < u.cells.size := by rw [← hzs]; exact Nat.mod_lt _ hpos
              refine (h2 F B ρ w).2 (i % z.length) c y hi ?_
              simp only [Array.getElem?_map, Array.getElem?_range] at hy
              rw [if_pos hlt] at hy
              simp only [Option.map_some, Option.some.injEq] at hy
              rw [← hy, ← hzs]
              rw [getElem!_pos u.cells (i % z.length) hm]
              exact Array.getElem?_eq_getElem hm
            obtain ⟨us, e1, e2, e3⟩ := fill_run parts vs.toList _ cs _ (by simpa using hl) (fun i p v h1 h2 => hp i p v h1 (by simpa using h2)) hbase (repeatL_leaf _ _ c3) hf
            obtain ⟨g1, g2⟩ := new_box (w' := w.alloc (.cells us e)) hI true (e := e) (fr := (0, 0)) e3 (Nat.le_of_eq e2.1) (fun i c h => e2.get i c h) (fun i _ h => by omega) rfl rfl rfl rfl
            have hcl : cs.length = len * n := by
              have : ∀ (parts : List (Nat × AV)) (a b : List AV), fillA (fun i => some (i * n, n)) a parts = some b → b.length = a.length := by
                intro parts
                induction parts with
                | nil => intro a b h; simp only [fillA, Option.some.injEq] at h; rw [h]
                | cons p r ih =>
                  intro a b h
                  obtain ⟨i, x⟩ := p
                  simp only [fillA] at h
                  split at h
                  · rename_i hcond
                    simp only [Bool.and_eq_true, beq_iff_eq, Nat.ble_eq] at hcond
                    rw [ih _ _ h, splice_length _ _ _ (by rw [hcond.1.1]; exact hcond.1.2)]
                  · cases h
              rw [this _ _ _ hf, repeatL_length, c1]
            refine ⟨.slice (some ⟨w.heap.size, 0, none⟩) len len, w.alloc (.cells us e), _, ?_, g1, g2, .rs _ _ _ _ _ _ _ ⟨by simp, Nat.le_refl _, fun _ => rfl, fun row v cs' h => ?_⟩⟩
            · have hsmall : ¬ len * ie.size > 2 ^ 24 := by rw [hies]; omega
              by_cases hpos : len * ie.size = 0
              · have r0 : Array.range 0 = #[] := Array.ext' (by simp)
                have e1' : Instr.fill (fun i => some (i * ie.size, ie.size)) #[] vs.toList = some us := by
                  have e0 : len * n = 0 := by rw [← hies]; exact hpos
                  rw [hies]
                  rw [e0, r0] at e1
                  rw [Array.map_empty] at e1
                  exact e1
                simp only [Instr.buildSlice, Sem.run_bind, run_underlying hu, Result.andThen_ok, sizeOf, typeInfo, run_program, hie, Sem.run_pure, hsmall, if_false, hpos, if_true]
                simp [hpos, r0, e1', newRow]
              · exact run_buildSlice (P := P) w t e len vs us ie u hu hie hzi hsmall hpos (by rw [hies]; exact e1)
            · simp at h
              obtain ⟨rfl, rfl, rfl⟩ := h
              refine ⟨Nat.le_refl _, fun _ => ⟨by omega, .inr ⟨w.heap.size, 0, by simp, rfl, e, us.size, by unfold World.shape?; rw [heap_alloc_new], by have := e2.1; omega⟩⟩⟩
        · cases hm

end Go.Ax
