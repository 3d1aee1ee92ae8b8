/- What one operation does in a world is what the second reading says: new memory, slices, append. -/
import Derived.Test.YtnhhaidlpbkmjaaBx3
set_option linter.unusedVariables false
set_option linter.unusedSimpArgs false
set_option linter.unusedSectionVars false
namespace Go.Ax
open Go.RowKit

variable [Glob] {P : Program} {F : Nat → Prop}

theorem new_box' {B : List Box} {ρ : Loc} {w w' : World} (hI : Inv F B ρ w) (row : Bool) {cs : List AV} {us : Array Value} {e : TypeId} {fr : Nat × Nat} (hlf : cs.all AV.leaf = true) (hl : cs.length ≤ us.size)
    (hc : ∀ (i : Nat) (c : AV), cs[i]? = some c → ∃ u, us[i]? = some u ∧ VRel F B ρ w c u) (hfr : Fz us fr)
    (hk : ∀ k, k < w.heap.size → w'.heap[k]? = w.heap[k]?) (hnew : w'.heap[w.heap.size]? = some (.cells us e fr)) (ho : w'.os = w.os) (ht : w'.tape = w.tape) (hp : w'.output = w.output) :
    Inv F (B ++ [.cells row 0 cs]) (fun b => if b = B.length then some (w.heap.size, 0) else ρ b) w' ∧ Ext F B ρ w (B ++ [.cells row 0 cs]) (fun b => if b = B.length then some (w.heap.size, 0) else ρ b) w' := by
  have hl1 : ∀ k o, some (w.heap.size, 0) = some (k, o) → w.heap.size ≤ k := fun k o h => by cases h; exact Nat.le_refl _
  have hsz : w.heap.size ≤ w'.heap.size := Nat.le_of_lt (Array.getElem?_eq_some_iff.1 hnew).1
  have hE : Ext F B ρ w (B ++ [.cells row 0 cs]) (fun b => if b = B.length then some (w.heap.size, 0) else ρ b) w' :=
    ext_new row cs (some (w.heap.size, 0)) hl1 hsz ho ht hp hk (fun _ _ => trivial)
  refine ⟨hI.new hE hlf hl1 (fun k o _ h => by cases h; rfl) hk (.inr ⟨w.heap.size, 0, us, e, fr, rfl, hnew, by omega, hfr, fun i c hci => ?_⟩), hE⟩
  obtain ⟨u, h1, h2⟩ := hc i c hci
  exact ⟨u, by simpa using h1, h2.ext hE⟩

theorem new_box {B : List Box} {ρ : Loc} {w w' : World} (hI : Inv F B ρ w) (row : Bool) {cs : List AV} {us : Array Value} {e : TypeId} {fr : Nat × Nat} (hlf : cs.all AV.leaf = true) (hl : cs.length ≤ us.size)
    (hc : ∀ (i : Nat) (c : AV), cs[i]? = some c → ∃ u, us[i]? = some u ∧ VRel F B ρ w c u) (hfr : Fz us fr)
    (hh : w'.heap = w.heap.push (.cells us e fr)) (ho : w'.os = w.os) (ht : w'.tape = w.tape) (hp : w'.output = w.output) :
    Inv F (B ++ [.cells row 0 cs]) (fun b => if b = B.length then some (w.heap.size, 0) else ρ b) w' ∧ Ext F B ρ w (B ++ [.cells row 0 cs]) (fun b => if b = B.length then some (w.heap.size, 0) else ρ b) w' :=
  new_box' (us := us) (e := e) (fr := fr) hI row hlf hl hc hfr (fun k hk => by rw [hh, Array.getElem?_push, if_neg (by omega)]) (by rw [hh]; simp) ho ht hp

/-- The row that is nil: nothing in memory. -/
theorem new_nil {B : List Box} {ρ : Loc} {w : World} (hI : Inv F B ρ w) : Inv F (B ++ [.cells true 0 []]) (fun b => if b = B.length then none else ρ b) w ∧ Ext F B ρ w (B ++ [.cells true 0 []]) (fun b => if b = B.length then none else ρ b) w := by
  have hE : Ext F B ρ w (B ++ [.cells true 0 []]) (fun b => if b = B.length then none else ρ b) w := ext_new true [] none (fun _ _ h => by cases h) (Nat.le_refl _) rfl rfl rfl (fun _ _ => rfl) (fun _ _ => trivial)
  exact ⟨hI.new hE rfl (fun _ _ h => by cases h) (fun _ _ h => by cases h) (fun _ _ => rfl) (.inl ⟨rfl, rfl, rfl⟩), hE⟩

/-- Cells of related values. -/
def CellsRel (F : Nat → Prop) (B : List Box) (ρ : Loc) (w : World) (cs : List AV) (us : Array Value) : Prop :=
  cs.length = us.size ∧ ∀ (i : Nat) (c : AV) (u : Value), cs[i]? = some c → us[i]? = some u → VRel F B ρ w c u

theorem CellsRel.get {B : List Box} {ρ : Loc} {w : World} {cs : List AV} {us : Array Value} (h : CellsRel F B ρ w cs us) (i : Nat) (c : AV) (hc : cs[i]? = some c) : ∃ u, us[i]? = some u ∧ VRel F B ρ w c u := by
  have hi : i < us.size := by rw [← h.1]; exact (List.getElem?_eq_some_iff.1 hc).1
  exact ⟨us[i], Array.getElem?_eq_getElem hi, h.2 i c _ hc (Array.getElem?_eq_getElem hi)⟩

theorem zero_run {t : TypeId} {z : List AV} (h : zeroA P t = some z) (w : World) (hlf : z.all AV.leaf = true) :
    ∃ u, (zeroValue t).run P w = .ok u w ∧ ∀ (F : Nat → Prop) (B : List Box) (ρ : Loc) (w' : World), CellsRel F B ρ w' z u.cells := by
  unfold zeroA at h
  cases hi : P.info? t with
  | none => rw [hi] at h; cases h
  | some i =>
    rw [hi] at h
    simp only [Option.bind_some] at h
    cases hz : i.zero with
    | none => rw [hz] at h; cases h
    | some u =>
      rw [hz] at h
      cases h
      refine ⟨u, by simp [zeroValue, typeInfo, hi, hz], fun F B ρ w' => ?_⟩
      exact (vrel_ofV B ρ w' u).cells hlf

/-- A new variable. -/
theorem newVar_run {B : List Box} {ρ : Loc} {w : World} (hI : Inv F B ρ w) (t : TypeId) {u : Value} {cs : List AV} (hlf : cs.all AV.leaf = true) (hc : CellsRel F B ρ w cs u.cells) :
    ∃ x w' ρ', (do pure (Value.pointer (some (← newVar t u))) : Sem Value).run P w = .ok x w' ∧ Inv F (B ++ [.cells false 0 cs]) ρ' w' ∧ Ext F B ρ w (B ++ [.cells false 0 cs]) ρ' w' ∧ VRel F (B ++ [.cells false 0 cs]) ρ' w' (.ptr B.length 0 0) x := by
  obtain ⟨h1, h2⟩ := new_box (w' := w.alloc (.cells u.cells t)) hI false (e := t) (fr := (0, 0)) hlf (Nat.le_of_eq hc.1) (fun i c h => hc.get i c h) (.zero _) rfl rfl rfl rfl
  refine ⟨.pointer (some ⟨w.heap.size, 0, none⟩), w.alloc (.cells u.cells t), _, ?_, h1, h2, .ptr _ _ _ _ ⟨by simp, fun row v cs' h => ?_⟩⟩
  · simp [newVar, newRow]
  · simp at h
    obtain ⟨rfl, rfl, rfl⟩ := h
    exact ⟨Nat.le_refl _, fun _ => ⟨w.heap.size, 0, by simp, rfl⟩⟩

/-! ### Parts laid into cells -/
theorem zipIdx_arrSet (l : List Value) : ∀ (k off : Nat) (us : Array Value), (l.zipIdx k).foldl (fun cs (x : Value × Nat) => cs.setIfInBounds (off + x.2) x.1) us = arrSet us (off + k) l := by
  induction l with
  | nil => intro k off us; rfl
  | cons v r ih =>
    intro k off us
    rw [List.zipIdx_cons, List.foldl_cons, ih, arrSet]
    rfl

theorem fill_run {B : List Box} {ρ : Loc} {w : World} {place : Nat → Option (Nat × Nat)} : ∀ (parts : List (Nat × AV)) (vs : List (Nat × Value)) (cs cs' : List AV) (us : Array Value),
    parts.length = vs.length → (∀ (i : Nat) (p : Nat × AV) (v : Nat × Value), parts[i]? = some p → vs[i]? = some v → p.1 = v.1 ∧ VRel F B ρ w p.2 v.2) →
    CellsRel F B ρ w cs us → cs.all AV.leaf = true → fillA place cs parts = some cs' → ∃ us', Instr.fill place us vs = some us' ∧ CellsRel F B ρ w cs' us' ∧ cs'.all AV.leaf = true
  | [], vs, cs, cs', us, hl, _, hc, hlf, hf => by
    cases vs with
    | cons v vs => simp at hl
    | nil => simp only [fillA, Option.some.injEq] at hf; subst hf; exact ⟨us, rfl, hc, hlf⟩
  | (i, x) :: rest, vs, cs, cs', us, hl, hp, hc, hlf, hf => by
    cases vs with
    | nil => simp at hl
    | cons v vs =>
      obtain ⟨h1, h2⟩ := hp 0 (i, x) v rfl rfl
      obtain ⟨j, u⟩ := v
      simp only at h1 h2
      subst h1
      simp only [fillA] at hf
      split at hf
      · cases hf
      · rename_i off size hpl
        split at hf
        · rename_i hcond
          simp only [Bool.and_eq_true, beq_iff_eq, Nat.ble_eq] at hcond
          obtain ⟨⟨c1, c2⟩, c3⟩ := hcond
          obtain ⟨d1, d2⟩ := h2.cells c3
          have hle : off + x.cells.length ≤ cs.length := by omega
          have hcs' : CellsRel F B ρ w (splice cs off x.cells) (arrSet us off u.cells.toList) := by
            refine ⟨by rw [splice_length _ _ _ hle, arrSet_size, hc.1], fun q c y hq hy => ?_⟩
            rw [splice_get _ _ _ hle] at hq
            have out : (q < off ∨ off + x.cells.length ≤ q) → cs[q]? = some c → VRel F B ρ w c y := fun ho hcq => by
              rw [arrSet_out _ _ _ _ (by simp; omega)] at hy
              exact hc.2 q c y hcq hy
            split at hq
            · exact out (.inl (by assumption)) hq
            · split at hq
              · rename_i n1 n2
                have := arrSet_in us off u.cells.toList (q - off) (by simp; omega) (by have := hc.1; simp; omega)
                rw [show off + (q - off) = q by omega] at this
                rw [this] at hy
                exact d2 (q - off) c y hq (by simpa using hy)
              · exact out (.inr (by omega)) hq
          have hlf' : (splice cs off x.cells).all AV.leaf = true := by
            rw [List.all_eq_true] at hlf c3 ⊢
            intro q hq
            unfold splice at hq
            rcases List.mem_append.1 hq with hq | hq
            · exact hlf q (List.mem_of_mem_take hq)
            · rcases List.mem_append.1 hq with hq | hq
              · exact c3 q hq
              · exact hlf q (List.mem_of_mem_drop hq)
          obtain ⟨us', e1, e2, e3⟩ := fill_run rest vs _ cs' _ (by simpa using hl) (fun q p v hp' hv => hp (q + 1) p v (by simpa using hp') (by simpa using hv)) hcs' hlf' hf
          refine ⟨us', ?_, e2, e3⟩
          rw [Instr.fill, hpl]
          have n1 : ¬ ((u.cells.size ≠ size || off + u.cells.size > us.size) = true) := by
            have := hc.1
            simp only [Bool.or_eq_true, decide_eq_true_eq, ne_eq, not_or]
            omega
          simp only [n1]
          have hz : (u.cells.zipIdx.foldl (fun cs (c, j) => cs.setIfInBounds (off + j) c) us) = arrSet us off u.cells.toList := by
            have := zipIdx_arrSet u.cells.toList 0 off us
            rw [Nat.add_zero] at this
            rw [← this, ← Array.foldl_toList]
            simp
          rw [if_neg (by simp)]
          rw [hz]
          exact e1
        · cases hf

end Go.Ax
