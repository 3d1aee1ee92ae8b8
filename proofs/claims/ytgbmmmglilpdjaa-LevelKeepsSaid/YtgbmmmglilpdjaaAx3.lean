/- What one operation does in a world is what the second reading says: memory. -/
import Derived.Test.YtgbmmmglilpdjaaAx2
import Derived.Laws.IdiomCopy
import Derived.Deep.AppendSrc
import Derived.Laws.AppendOwn
import Derived.WalkKit
set_option linter.unusedVariables false
set_option linter.unusedSimpArgs false
namespace Go.Ax
open Go.RowKit

variable {P : Program} {F : Nat → Prop}

/-! ### Cells of a block -/
def arrSet (us : Array Value) (o : Nat) : List Value → Array Value
  | [] => us
  | v :: r => arrSet (us.setIfInBounds o v) (o + 1) r

@[simp] theorem arrSet_size (us : Array Value) (o : Nat) (vs : List Value) : (arrSet us o vs).size = us.size := by
  induction vs generalizing us o with
  | nil => rfl
  | cons v r ih => simp [arrSet, ih]

theorem arrSet_out (us : Array Value) (o : Nat) (vs : List Value) (i : Nat) (h : i < o ∨ o + vs.length ≤ i) : (arrSet us o vs)[i]? = us[i]? := by
  induction vs generalizing us o with
  | nil => rfl
  | cons v r ih =>
    rw [arrSet, ih _ _ (by simp at h; omega), Array.getElem?_setIfInBounds_ne (by simp at h; omega)]

theorem arrSet_in (us : Array Value) (o : Nat) (vs : List Value) (j : Nat) (hj : j < vs.length) (hs : o + vs.length ≤ us.size) : (arrSet us o vs)[o + j]? = vs[j]? := by
  induction vs generalizing us o j with
  | nil => simp at hj
  | cons v r ih =>
    rw [arrSet]
    cases j with
    | zero =>
      rw [arrSet_out _ _ _ _ (by omega)]
      have hlt : o < us.size := by simp at hs; omega
      simp [hlt]
    | succ j =>
      have := ih (us.setIfInBounds o v) (o + 1) j (by simpa using hj) (by simp at hs ⊢; omega)
      rw [show o + (j + 1) = o + 1 + j by omega, this]
      rfl

theorem heap_setCells {w : World} {k : Nat} {us : Array Value} {e : TypeId} {fr : Nat × Nat} (o : Nat) (vs : List Value) (h : w.heap[k]? = some (.cells us e fr)) :
    (w.setCells k o vs).heap[k]? = some (.cells (arrSet us o vs) e fr) := by
  induction vs generalizing w us o with
  | nil => exact h
  | cons v r ih =>
    rw [World.setCells, arrSet]
    refine ih (o + 1) ?_
    simp [World.setCell, Array.getElem?_modify, h]

theorem heap_setCells_other {w : World} {k i : Nat} (o : Nat) (vs : List Value) (h : i ≠ k) : (w.setCells k o vs).heap[i]? = w.heap[i]? := by
  induction vs generalizing w o with
  | nil => rfl
  | cons v r ih =>
    rw [World.setCells, ih]
    exact Below.heap_setCell w _ _ _ h

theorem setCells_rest {w : World} {k : Nat} (o : Nat) (vs : List Value) : (w.setCells k o vs).heap.size = w.heap.size ∧ (w.setCells k o vs).os = w.os ∧ (w.setCells k o vs).tape = w.tape ∧ (w.setCells k o vs).output = w.output := by
  induction vs generalizing w o with
  | nil => exact ⟨rfl, rfl, rfl, rfl⟩
  | cons v r ih =>
    rw [World.setCells]
    obtain ⟨h1, h2, h3, h4⟩ := ih (w := w.setCell ⟨k, o, none⟩ v) (o + 1)
    exact ⟨by rw [h1]; simp [World.setCell], h2, h3, h4⟩

theorem shape_setCells {w : World} {k : Nat} (o : Nat) (vs : List Value) (i : Nat) {e : TypeId} {n : Nat} (h : w.shape? i = some (e, n)) : (w.setCells k o vs).shape? i = some (e, n) := by
  by_cases hi : i = k
  · subst hi
    unfold World.shape? at h ⊢
    split at h
    · rename_i us e' fr hh
      rw [heap_setCells o vs hh]
      simpa using h
    · cases h
  · unfold World.shape? at h ⊢
    rw [heap_setCells_other o vs hi]
    exact h

theorem cell_of {w : World} {k : Nat} {us : Array Value} {e : TypeId} {fr : Nat × Nat} (h : w.heap[k]? = some (.cells us e fr)) (i : Nat) : w.cell? ⟨k, i, none⟩ = us[i]? := by
  simp [World.cell?, h]

theorem vleaf_one (u : Value) : vleaf u = u.oneCell' := by cases u <;> rfl

/-! ### Loads -/
theorem isAgg_run (t : TypeId) (w : World) {d : TypeDesc} (h : P.underlying t = some d) : (isAgg t).run P w = .ok (isAggT P t) w := by
  unfold isAgg isAggT
  simp only [Sem.run_bind, run_underlying h, Result.andThen_ok, h]
  cases d <;> rfl

theorem sizeT_info {t : TypeId} {n : Nat} (h : sizeT P t = some n) : ∃ i, P.info? t = some i ∧ i.size = n := by
  unfold sizeT at h
  cases hi : P.info? t with
  | none => rw [hi] at h; cases h
  | some i => rw [hi] at h; exact ⟨i, rfl, by simpa using h⟩

theorem sizeOf_run {t : TypeId} {n : Nat} (w : World) (h : sizeT P t = some n) : (sizeOf t).run P w = .ok n w := by
  obtain ⟨i, hi, rfl⟩ := sizeT_info h
  simp [sizeOf, typeInfo, hi]

theorem exists_list {α : Type} (n : Nat) (p : Nat → α → Prop) (h : ∀ i, i < n → ∃ u, p i u) : ∃ us : List α, us.length = n ∧ ∀ i u, us[i]? = some u → p i u := by
  induction n with
  | zero => exact ⟨[], rfl, fun i u hu => by simp at hu⟩
  | succ n ih =>
    obtain ⟨us, hl, hp⟩ := ih (fun i hi => h i (by omega))
    obtain ⟨u, hu⟩ := h n (by omega)
    refine ⟨us ++ [u], by simp [hl], fun i v hv => ?_⟩
    rw [List.getElem?_append] at hv
    split at hv
    · exact hp i v hv
    · rename_i hge
      have hi : i = n := by
        have := (List.getElem?_eq_some_iff.1 hv).1
        simp at this; omega
      subst hi
      simp [hl] at hv
      subst hv
      exact hu

def HasUnd (P : Program) (t : TypeId) : Prop := ∃ d, P.underlying t = some d

theorem undT_some {t : TypeId} (h : undT P t = true) : HasUnd P t := by
  unfold undT at h
  cases hd : P.underlying t with
  | none => rw [hd] at h; cases h
  | some d => exact ⟨d, hd⟩

theorem loadVar_run {B : List Box} {ρ : Loc} {w : World} {t : TypeId} {a : Addr} {cs : List AV} {v : AV} (h : ∀ (i : Nat) (c : AV), cs[i]? = some c → ∃ u, w.cell? (a.add i) = some u ∧ VRel F B ρ w c u)
    (hm : mkA P t cs = some v) : ∃ x, (loadVar t a).run P w = .ok x w ∧ VRel F B ρ w v x := by
  unfold mkA at hm
  split at hm
  · cases hm
  rename_i hu
  obtain ⟨d, hd⟩ := undT_some (P := P) (t := t) (by simpa using hu)
  unfold loadVar
  simp only [Sem.run_bind, isAgg_run t w hd, Result.andThen_ok]
  split at hm
  · rename_i hagg
    rw [if_pos hagg]
    cases hn : sizeT P t with
    | none => rw [hn] at hm; cases hm
    | some n =>
      rw [hn] at hm
      simp only [Option.bind_some] at hm
      split at hm
      · rename_i hle
        cases hm
        obtain ⟨us, hl, hp⟩ := exists_list n (fun i u => w.cell? (a.add i) = some u ∧ ∀ c, cs[i]? = some c → VRel F B ρ w c u) (fun i hi => by
          have hi' : i < cs.length := by omega
          obtain ⟨u, h1, h2⟩ := h i cs[i] (List.getElem?_eq_getElem hi')
          exact ⟨u, h1, fun c hc => by rw [List.getElem?_eq_getElem hi'] at hc; cases hc; exact h2⟩)
        refine ⟨.agg us.toArray, ?_, .agg _ _ (by simp; omega) (fun j p u hj hu => ?_)⟩
        · have := run_loadCells_list (P := P) w a us (fun j u hj => (hp j u hj).1)
          simp only [Sem.run_bind, sizeOf_run w hn, Result.andThen_ok]
          rw [← hl, this]
          rfl
        · rw [List.getElem?_take] at hj
          split at hj
          · exact (hp j u hu).2 p hj
          · cases hj
      · cases hm
  · rename_i hagg
    rw [if_neg hagg]
    cases cs with
    | nil => cases hm
    | cons c cs =>
      cases hm
      obtain ⟨u, h1, h2⟩ := h 0 v rfl
      refine ⟨u, ?_, h2⟩
      have : a.add 0 = a := rfl
      rw [this] at h1
      simp [h1]

theorem Inv.cell {B : List Box} {ρ : Loc} {w : World} (h : Inv F B ρ w) {b : Nat} {row : Bool} {v : Nat} {cs : List AV} {k o : Nat} (hb : B[b]? = some (.cells row v cs)) (hr : ρ b = some (k, o)) :
    ∃ us e fr, w.heap[k]? = some (.cells us e fr) ∧ o + cs.length ≤ us.size ∧ (∀ i, i < us.size → w.frozen? ⟨k, i, none⟩ = false) ∧ ∀ (i : Nat) (c : AV), cs[i]? = some c → ∃ u, us[o + i]? = some u ∧ VRel F B ρ w c u := by
  rcases h.box b row v cs hb with ⟨h0, _⟩ | ⟨k', o', us, e, fr, h1, h2⟩
  · rw [hr] at h0; cases h0
  · rw [hr] at h1; cases h1; exact ⟨us, e, fr, h2⟩

theorem loadAt_run {B : List Box} {ρ : Loc} {w : World} (hI : Inv F B ρ w) {t : TypeId} {x : AV} {u : Value} {v : AV} (hx : VRel F B ρ w x u) (hm : loadA P t B x = some v) :
    ∃ y, (Instr.loadAt t u).run P w = .ok y w ∧ VRel F B ρ w v y := by
  cases hx <;> simp only [loadA] at hm <;> try (cases hm; done)
  · rename_i b ver o a hp
    split at hm
    · rename_i row vv cs hb
      split at hm
      · rename_i hv
        have hv' : ver = vv := Nat.eq_of_beq_eq_true hv
        obtain ⟨k, o', hr, rfl⟩ := (hp.2 row vv cs hb).2 hv'
        obtain ⟨us, e, fr, h1, h2, h3, h4⟩ := hI.cell hb hr
        have := loadVar_run (P := P) (a := ⟨k, o' + o, none⟩) (fun i c hc => by
          rw [List.getElem?_drop] at hc
          obtain ⟨u, e1, e2⟩ := h4 _ c hc
          refine ⟨u, ?_, e2⟩
          rw [Addr.add_lit, cell_of h1]
          rw [show o' + o + i = o' + (o + i) by omega]
          exact e1) hm
        simpa [Instr.loadAt, Instr.sureAddr] using this
      · cases hm
    · cases hm
  · rename_i cs a us h1 h2 h3 h4 h5 h6
    have := loadVar_run (P := P) (a := a) (fun i c hc => by
      rw [List.getElem?_map] at hc
      cases hcs : cs[i]? with
      | none => rw [hcs] at hc; cases hc
      | some q =>
        rw [hcs] at hc
        cases hc
        have hi : i < us.length := by rw [← h4]; exact (List.getElem?_eq_some_iff.1 hcs).1
        exact ⟨us[i], h5 i _ (List.getElem?_eq_getElem hi), .p _ _ (h6 i q _ hcs (List.getElem?_eq_getElem hi))⟩) hm
    simpa [Instr.loadAt, Instr.sureAddr] using this

/-! ### A box whose cells are other -/
theorem own_set {B : List Box} {ρ : Loc} {b : Nat} {row : Bool} {v v' : Nat} {cs cs' : List AV} (hb : B[b]? = some (.cells row v cs)) (k : Nat) : Own F (B.set b (.cells row v' cs')) ρ k ↔ Own F B ρ k := by
  have hlt : b < B.length := (List.getElem?_eq_some_iff.1 hb).1
  constructor
  · rintro (hF | ⟨c, row', v', cs', o, h1, h2⟩)
    · exact .inl hF
    rw [List.getElem?_set] at h1
    split at h1
    · rename_i e; subst e; exact .inr ⟨_, _, _, _, _, hb, h2⟩
    · exact .inr ⟨c, _, _, _, _, h1, h2⟩
  · rintro (hF | ⟨c, row', v'', cs'', o, h1, h2⟩)
    · exact .inl hF
    by_cases e : b = c
    · subst e
      exact .inr ⟨b, row, v', cs', o, by rw [List.getElem?_set]; simp [hlt], h2⟩
    · exact .inr ⟨c, row', v'', cs'', o, by rw [List.getElem?_set, if_neg e]; exact h1, h2⟩

theorem splice_get (cs : List AV) (o : Nat) (new : List AV) (h : o + new.length ≤ cs.length) (i : Nat) :
    (splice cs o new)[i]? = if i < o then cs[i]? else if i < o + new.length then new[i - o]? else cs[i]? := by
  unfold splice
  have h1 : (cs.take o).length = o := by simp; omega
  rw [List.getElem?_append, h1]
  split
  · rw [List.getElem?_take, if_pos (by assumption)]
  · rename_i h2
    rw [List.getElem?_append]
    split
    · rw [if_pos (by omega)]
    · rw [if_neg (by omega), List.getElem?_drop]
      congr 1
      omega

theorem splice_length (cs : List AV) (o : Nat) (new : List AV) (h : o + new.length ≤ cs.length) : (splice cs o new).length = cs.length := by
  simp [splice]; omega

/-- The box's block is written; all else is as it was. -/
theorem ext_set {B : List Box} {ρ : Loc} {w : World} {b k o : Nat} {row : Bool} {v : Nat} {cs cs' : List AV} (hb : B[b]? = some (.cells row v cs)) (hr : ρ b = some (k, o)) (hl : cs'.length = cs.length) (hF : ¬ F k) (q : Nat) (vs : List Value) :
    Ext F B ρ w (B.set b (.cells row v cs')) ρ (w.setCells k q vs) := by
  have hlt : b < B.length := (List.getElem?_eq_some_iff.1 hb).1
  obtain ⟨r1, r2, r3, r4⟩ := setCells_rest (w := w) (k := k) q vs
  refine ⟨Nat.le_of_eq r1.symm, r2, r3, r4, fun i hi ho => ⟨?_, fun h => ho ((own_set hb i).1 h)⟩, fun i e n h => shape_setCells q vs i h, by simp, fun c row' v' cs'' hc h => ?_, fun i hi _ => heap_setCells_other q vs (fun e => hF (e ▸ hi))⟩
  · refine heap_setCells_other q vs (fun e => ho ?_)
    subst e
    exact .inr ⟨b, row, v, cs, o, hb, hr⟩
  · rw [List.getElem?_set] at h
    split at h
    · rename_i e
      subst e
      simp only [hlt, if_true, Option.some.injEq, Box.cells.injEq] at h
      obtain ⟨rfl, rfl, rfl⟩ := h
      exact ⟨v, cs, hb, Nat.le_refl _, fun _ => ⟨rfl, hl⟩⟩
    · exact ⟨v', cs'', h, Nat.le_refl _, fun _ => ⟨rfl, rfl⟩⟩

/-- One box is other; the others lie as they did. -/
theorem Inv.other {B : List Box} {ρ ρ' : Loc} {w w' : World} (hI : Inv F B ρ w) {b : Nat} {row row' : Bool} {v v' : Nat} {cs cs' : List AV} (hb : B[b]? = some (.cells row v cs))
    (hE : Ext F B ρ w (B.set b (.cells row' v' cs')) ρ' w') (hρ : ∀ c, c ≠ b → ρ' c = ρ c) (hlf : cs'.all AV.leaf = true)
    (hheap : ∀ c row v cs k o, c ≠ b → B[c]? = some (.cells row v cs) → ρ c = some (k, o) → w'.heap[k]? = w.heap[k]?)
    (hinj : ∀ c row v cs k o o', c ≠ b → B[c]? = some (.cells row v cs) → ρ c = some (k, o) → ρ' b = some (k, o') → False)
    (hFb : ∀ k o, ρ' b = some (k, o) → ¬ F k)
    (hnew : (ρ' b = none ∧ row' = true ∧ cs' = []) ∨ ∃ k o us e fr, ρ' b = some (k, o) ∧ w'.heap[k]? = some (.cells us e fr) ∧ o + cs'.length ≤ us.size ∧ (∀ i, i < us.size → w'.frozen? ⟨k, i, none⟩ = false) ∧
      ∀ (i : Nat) (c : AV), cs'[i]? = some c → ∃ u, us[o + i]? = some u ∧ VRel F (B.set b (.cells row' v' cs')) ρ' w' c u) : Inv F (B.set b (.cells row' v' cs')) ρ' w' := by
  have hlt : b < B.length := (List.getElem?_eq_some_iff.1 hb).1
  have at_ : ∀ {c : Nat} {row1 : Bool} {v1 : Nat} {cs1 : List AV}, (B.set b (.cells row' v' cs'))[c]? = some (.cells row1 v1 cs1) → (c = b ∧ row1 = row' ∧ v1 = v' ∧ cs1 = cs') ∨ (c ≠ b ∧ B[c]? = some (.cells row1 v1 cs1)) := by
    intro c row1 v1 cs1 h
    rw [List.getElem?_set] at h
    split at h
    · rename_i e
      subst e
      simp only [hlt, if_true, Option.some.injEq, Box.cells.injEq] at h
      exact .inl ⟨rfl, h.1.symm, h.2.1.symm, h.2.2.symm⟩
    · rename_i e
      exact .inr ⟨fun h => e h.symm, h⟩
  refine ⟨fun c row1 v1 cs1 hc => ?_, fun c row1 v1 cs1 hc => ?_, fun c c' row1 v1 cs1 row2 v2 cs2 k o1 o2 q1 q2 q3 q4 => ?_, fun k hF => Nat.lt_of_lt_of_le (hI.bound k hF) hE.size, fun c row1 v1 cs1 k o hc hr => ?_⟩
  · rcases at_ hc with ⟨rfl, rfl, rfl, rfl⟩ | ⟨hne, hc⟩
    · exact hnew
    · rcases hI.box c row1 v1 cs1 hc with ⟨g1, g2, g3⟩ | ⟨k2, o2, us2, e2, fr2, g1, g2, g3, g4, g5⟩
      · exact .inl ⟨(hρ c hne).trans g1, g2, g3⟩
      · have hk := hheap c _ _ _ _ _ hne hc g1
        refine .inr ⟨k2, o2, us2, e2, fr2, (hρ c hne).trans g1, hk.trans g2, g3, fun i hi => ?_, fun i c hc => ?_⟩
        · rw [World.frozen?_of_block (w := w) (a := ⟨k2, i, none⟩) hk]
          exact g4 i hi
        · obtain ⟨u, f1, f2⟩ := g5 i c hc
          exact ⟨u, f1, f2.ext hE⟩
  · rcases at_ hc with ⟨rfl, rfl, rfl, rfl⟩ | ⟨_, hc⟩
    · exact hlf
    · exact hI.leaf _ _ _ _ hc
  · rcases at_ q1 with ⟨rfl, rfl, rfl, rfl⟩ | ⟨n1, p1⟩ <;> rcases at_ q2 with ⟨rfl, rfl, rfl, rfl⟩ | ⟨n2, p2⟩
    · rfl
    · exact (hinj c' _ _ _ k o2 o1 n2 p2 ((hρ c' n2).symm.trans q4) q3).elim
    · exact (hinj c _ _ _ k o1 o2 n1 p1 ((hρ c n1).symm.trans q3) q4).elim
    · exact hI.inj c c' _ _ _ _ _ _ k o1 o2 p1 p2 ((hρ c n1).symm.trans q3) ((hρ c' n2).symm.trans q4)
  · rcases at_ hc with ⟨rfl, rfl, rfl, rfl⟩ | ⟨hne, hc⟩
    · exact hFb k o hr
    · exact hI.farb c _ _ _ k o hc ((hρ c hne).symm.trans hr)

theorem storeAt_run {B B' : List Box} {ρ : Loc} {w : World} (hI : Inv F B ρ w) {t : TypeId} {x y : AV} {u z : Value} (hx : VRel F B ρ w x u) (hy : VRel F B ρ w y z) (hm : storeA P t B y x = some B') :
    ∃ w', (Instr.storeAt t u z).run P w = .ok () w' ∧ Inv F B' ρ w' ∧ Ext F B ρ w B' ρ w' := by
  cases hx <;> simp only [storeA] at hm <;> try (cases hm; done)
  rename_i b ver o a hp
  split at hm
  · rename_i row vv cs hb
    split at hm
    · rename_i hc
      cases hm
      simp only [Bool.and_eq_true, beq_iff_eq, Nat.ble_eq] at hc
      obtain ⟨⟨⟨hv, hsz⟩, hle⟩, hlf⟩ := hc
      have hv' : ver = vv := Nat.eq_of_beq_eq_true hv
      subst hv'
      obtain ⟨k, o', hr, rfl⟩ := (hp.2 row ver cs hb).2 rfl
      obtain ⟨us, e, fr, h1, h2, h3, h4⟩ := hI.cell hb hr
      obtain ⟨hcl, hcr⟩ := hy.cells hlf
      have hlt : b < B.length := hp.1
      have hlf' : ∀ q ∈ z.cells.toList, q.oneCell' = true := fun q hq => by
        obtain ⟨j, hj⟩ := List.getElem?_of_mem hq
        have hj' : z.cells[j]? = some q := by simpa using hj
        have hjl : j < y.cells.length := by rw [hcl]; exact (Array.getElem?_eq_some_iff.1 hj').1
        have := hcr j y.cells[j] q (List.getElem?_eq_getElem hjl) hj'
        rw [← vleaf_one]
        exact leaf_of_vrel this (List.all_eq_true.1 hlf _ (List.getElem_mem hjl))
      have hE : Ext F B ρ w (B.set b (.cells row ver (splice cs o y.cells))) ρ (w.setCells k (o' + o) z.cells.toList) := ext_set hb hr (splice_length _ _ _ hle) (hI.farb _ _ _ _ _ _ hb hr) _ _
      refine ⟨w.setCells k (o' + o) z.cells.toList, ?_, ?_, hE⟩
      · have hst := run_storeCells_cells (P := P) k (o' + o) z.cells.toList 0 w (fun j hj => by
          rw [Nat.add_zero, cell_of h1]
          have hj2 : j < z.cells.size := by simpa using hj
          have : o' + o + j < us.size := by omega
          rw [Array.getElem?_eq_getElem this]; rfl) (fun j hj => by
          rw [Nat.add_zero]
          have hj2 : j < z.cells.size := by simpa using hj
          exact h3 _ (by omega)) hlf'
        obtain ⟨i, hi, hisz⟩ := sizeT_info hsz
        have hne : ¬ (z.cells.size ≠ i.size) := by rw [hisz, hcl]; simp
        simp only [Instr.storeAt, Instr.sureAddr, storeVar, Sem.run_bind, Sem.run_pure, Result.andThen_ok, sizeOf, typeInfo, run_program, hi]
        simp only [Sem.run_pure, Result.andThen_ok, hne, if_false]
        simpa using hst
      · refine hI.other hb hE (fun _ _ => rfl) ?_ (fun c row1 v1 cs1 k2 o2 hne hc hk => heap_setCells_other _ _ (fun e => hne (hI.inj _ _ _ _ _ _ _ _ k o2 o' hc hb (e ▸ hk) hr)))
          (fun c row1 v1 cs1 k2 o2 o3 hne hc hk hk' => hne (hI.inj _ _ _ _ _ _ _ _ k2 o2 o3 hc hb hk hk')) (fun k2 o2 h2 => hI.farb _ _ _ _ _ _ hb h2) (.inr ⟨k, o', _, e, fr, hr, heap_setCells _ _ h1, by rw [arrSet_size, splice_length _ _ _ hle]; exact h2, fun i hi => ?_, fun i c hc => ?_⟩)
        · have hcs := hI.leaf _ _ _ _ hb
          rw [List.all_eq_true] at hcs hlf ⊢
          intro q hq
          unfold splice at hq
          rcases List.mem_append.1 hq with hq | hq
          · exact hcs q (List.mem_of_mem_take hq)
          · rcases List.mem_append.1 hq with hq | hq
            · exact hlf q hq
            · exact hcs q (List.mem_of_mem_drop hq)
        · rw [World.frozen?_setCells]
          exact h3 i (by simpa using hi)
        · rw [splice_get _ _ _ hle] at hc
          have out : cs[i]? = some c → (i < o ∨ o + y.cells.length ≤ i) → ∃ u, (arrSet us (o' + o) z.cells.toList)[o' + i]? = some u ∧ VRel F (B.set b (.cells row ver (splice cs o y.cells))) ρ (w.setCells k (o' + o) z.cells.toList) c u := by
            intro hci hio
            obtain ⟨u, e1, e2⟩ := h4 i c hci
            refine ⟨u, ?_, e2.ext hE⟩
            rw [arrSet_out _ _ _ _ (by simp; omega)]
            exact e1
          split at hc
          · exact out hc (.inl (by assumption))
          · split at hc
            · rename_i n1 n2
              have hj : i - o < z.cells.size := by omega
              refine ⟨z.cells[i - o], ?_, (hcr (i - o) c _ hc (Array.getElem?_eq_getElem hj)).ext hE⟩
              have := arrSet_in us (o' + o) z.cells.toList (i - o) (by simpa using hj) (by simp; omega)
              rw [show o' + o + (i - o) = o' + i by omega] at this
              rw [this]
              simp [hj]
            · exact out hc (.inr (by omega))
    · cases hm
  · cases hm

/-! ### A new box -/
theorem ext_new {B : List Box} {ρ : Loc} {w w' : World} (row : Bool) (cs : List AV) (l : Option (Nat × Nat)) (hl : ∀ k o, l = some (k, o) → w.heap.size ≤ k)
    (hs : w.heap.size ≤ w'.heap.size) (ho : w'.os = w.os) (ht : w'.tape = w.tape) (hp : w'.output = w.output) (hk : ∀ k, k < w.heap.size → w'.heap[k]? = w.heap[k]?) (hdom : ∀ b, B.length ≤ b → True) :
    Ext F B ρ w (B ++ [.cells row 0 cs]) (fun b => if b = B.length then l else ρ b) w' := by
  refine ⟨hs, ho, ht, hp, fun k hlt hno => ⟨hk k hlt, ?_⟩, fun k e n h => ?_, by simp, fun b row' v cs' hb h => ?_, fun k _ hlt => hk k hlt⟩
  · rintro (hF | ⟨b, row', v, cs', o, h1, h2⟩)
    · exact hno (.inl hF)
    by_cases e : b = B.length
    · simp only [e, if_true] at h2
      have := hl k o h2
      omega
    · simp only [e, if_false] at h2
      have hb : b < B.length := by
        have := (List.getElem?_eq_some_iff.1 h1).1
        simp at this; omega
      rw [List.getElem?_append_left hb] at h1
      exact hno (.inr ⟨b, row', v, cs', o, h1, h2⟩)
  · have hlt : k < w.heap.size := by
      unfold World.shape? at h
      split at h
      · rename_i hh; exact (Array.getElem?_eq_some_iff.1 hh).1
      · cases h
    unfold World.shape? at h ⊢
    rw [hk k hlt]
    exact h
  · rw [List.getElem?_append_left hb] at h
    refine ⟨v, cs', h, Nat.le_refl _, fun _ => ⟨?_, rfl⟩⟩
    have : b ≠ B.length := by omega
    simp [this]

theorem Inv.new {B : List Box} {ρ : Loc} {w w' : World} (hI : Inv F B ρ w) {row : Bool} {cs : List AV} {l : Option (Nat × Nat)}
    (hE : Ext F B ρ w (B ++ [.cells row 0 cs]) (fun b => if b = B.length then l else ρ b) w') (hlf : cs.all AV.leaf = true) (hl : ∀ k o, l = some (k, o) → w.heap.size ≤ k)
    (hk : ∀ k, k < w.heap.size → w'.heap[k]? = w.heap[k]?)
    (hnew : (l = none ∧ row = true ∧ cs = []) ∨ ∃ k o us e fr, l = some (k, o) ∧ w'.heap[k]? = some (.cells us e fr) ∧ o + cs.length ≤ us.size ∧ (∀ i, i < us.size → w'.frozen? ⟨k, i, none⟩ = false) ∧
      ∀ (i : Nat) (c : AV), cs[i]? = some c → ∃ u, us[o + i]? = some u ∧ VRel F (B ++ [.cells row 0 cs]) (fun b => if b = B.length then l else ρ b) w' c u) :
    Inv F (B ++ [.cells row 0 cs]) (fun b => if b = B.length then l else ρ b) w' := by
  have at_ : ∀ {c : Nat} {row1 : Bool} {v1 : Nat} {cs1 : List AV}, (B ++ [Box.cells row 0 cs])[c]? = some (.cells row1 v1 cs1) → (c = B.length ∧ row1 = row ∧ cs1 = cs) ∨ (c ≠ B.length ∧ B[c]? = some (.cells row1 v1 cs1)) := by
    intro c row1 v1 cs1 h
    by_cases e : c < B.length
    · rw [List.getElem?_append_left e] at h
      exact .inr ⟨by omega, h⟩
    · have hc : c = B.length := by
        have := (List.getElem?_eq_some_iff.1 h).1
        simp at this; omega
      subst hc
      simp at h
      exact .inl ⟨rfl, h.1.symm, h.2.2.symm⟩
  refine ⟨fun c row1 v1 cs1 hc => ?_, fun c row1 v1 cs1 hc => ?_, fun c c' row1 v1 cs1 row2 v2 cs2 k o1 o2 q1 q2 q3 q4 => ?_, fun k hF => Nat.lt_of_lt_of_le (hI.bound k hF) hE.size, fun c row1 v1 cs1 k o hc hr hF => ?_⟩
  · rcases at_ hc with ⟨rfl, rfl, rfl⟩ | ⟨hne, hc⟩
    · simpa using hnew
    · rcases hI.box c row1 v1 cs1 hc with ⟨g1, g2, g3⟩ | ⟨k2, o2, us2, e2, fr2, g1, g2, g3, g4, g5⟩
      · exact .inl ⟨by simpa [hne] using g1, g2, g3⟩
      · have hlt : k2 < w.heap.size := (Array.getElem?_eq_some_iff.1 g2).1
        refine .inr ⟨k2, o2, us2, e2, fr2, by simpa [hne] using g1, (hk _ hlt).trans g2, g3, fun i hi => ?_, fun i c hc => ?_⟩
        · rw [World.frozen?_of_block (w := w) (a := ⟨k2, i, none⟩) (hk _ hlt)]
          exact g4 i hi
        · obtain ⟨u, f1, f2⟩ := g5 i c hc
          exact ⟨u, f1, f2.ext hE⟩
  · rcases at_ hc with ⟨rfl, rfl, rfl⟩ | ⟨_, hc⟩
    · exact hlf
    · exact hI.leaf _ _ _ _ hc
  · have low : ∀ {c row1 v1 cs1 o}, c ≠ B.length → B[c]? = some (.cells row1 v1 cs1) → (if c = B.length then l else ρ c) = some (k, o) → k < w.heap.size ∧ ρ c = some (k, o) := by
      intro c row1 v1 cs1 o hne hc hr
      rw [if_neg hne] at hr
      obtain ⟨us, e, fr, h, _⟩ := hI.cell hc hr
      exact ⟨(Array.getElem?_eq_some_iff.1 h).1, hr⟩
    rcases at_ q1 with ⟨rfl, rfl, rfl⟩ | ⟨n1, p1⟩ <;> rcases at_ q2 with ⟨rfl, rfl, rfl⟩ | ⟨n2, p2⟩
    · rfl
    · have := (low n2 p2 q4).1
      simp at q3
      have := hl _ _ q3
      omega
    · have := (low n1 p1 q3).1
      simp at q4
      have := hl _ _ q4
      omega
    · exact hI.inj c c' _ _ _ _ _ _ k o1 o2 p1 p2 (low n1 p1 q3).2 (low n2 p2 q4).2
  · rcases at_ hc with ⟨rfl, rfl, rfl⟩ | ⟨hne, hc⟩
    · simp at hr
      have h1 := hl _ _ hr
      have h2 := hI.bound k hF
      omega
    · exact hI.farb c _ _ _ k o hc (by simpa [hne] using hr) hF

end Go.Ax
