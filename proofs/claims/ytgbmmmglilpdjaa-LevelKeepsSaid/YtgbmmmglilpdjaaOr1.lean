/- The order of entries; 'order' sorts. -/
import Derived.Test.YtgbmmmglilpdjaaLv4
set_option linter.unusedVariables false
set_option linter.unusedSimpArgs false
namespace Go.Ax
open Go.Proofs Go.RowKit Go.Lib

theorem cb_refl : ∀ a : List UInt8, compareBytes a a = 0
  | [] => rfl
  | x :: a => by
    have : ¬ x < x := UInt8.lt_irrefl x
    simp only [compareBytes, this, if_false]
    exact cb_refl a

theorem cb_eq : ∀ {a b : List UInt8}, compareBytes a b = 0 → a = b
  | [], [], _ => rfl
  | [], _ :: _, h => by simp [compareBytes] at h
  | _ :: _, [], h => by simp [compareBytes] at h
  | x :: a, y :: b, h => by
    unfold compareBytes at h
    split at h
    · cases h
    · split at h
      · cases h
      · rename_i h1 h2
        have : x = y := UInt8.le_antisymm (UInt8.not_lt.1 h2) (UInt8.not_lt.1 h1)
        rw [this, cb_eq h]

theorem cb_anti : ∀ (a b : List UInt8), compareBytes b a = - compareBytes a b
  | [], [] => rfl
  | [], _ :: _ => rfl
  | _ :: _, [] => rfl
  | x :: a, y :: b => by
    unfold compareBytes
    by_cases h1 : x < y
    · have h2 : ¬ y < x := UInt8.lt_asymm h1
      simp [h1, h2]
    · by_cases h2 : y < x
      · simp [h1, h2]
      · simp [h1, h2]
        exact cb_anti a b

theorem cb_trans : ∀ {a b c : List UInt8}, compareBytes a b < 0 → compareBytes b c < 0 → compareBytes a c < 0
  | [], [], c, h, _ => by simp [compareBytes] at h
  | [], _ :: _, [], _, h => by simp [compareBytes] at h
  | [], _ :: _, _ :: _, _, _ => by simp [compareBytes]
  | _ :: _, [], _, h, _ => by simp [compareBytes] at h
  | _ :: _, _ :: _, [], _, h => by simp [compareBytes] at h
  | x :: a, y :: b, z :: c, h, g => by
    unfold compareBytes at h g ⊢
    by_cases h1 : x < y
    · by_cases g1 : y < z
      · simp [UInt8.lt_trans h1 g1]
      · by_cases g2 : z < y
        · simp [g1, g2] at g
        · have : y = z := UInt8.le_antisymm (UInt8.not_lt.1 g2) (UInt8.not_lt.1 g1)
          subst this
          simp [h1]
    · by_cases h2 : y < x
      · simp [h1, h2] at h
      · have : x = y := UInt8.le_antisymm (UInt8.not_lt.1 h2) (UInt8.not_lt.1 h1)
        subst this
        simp [UInt8.lt_irrefl] at h
        by_cases g1 : x < z
        · simp [g1]
        · by_cases g2 : z < x
          · simp [g1, g2] at g
          · simp [g1, g2] at g ⊢
            exact cb_trans h g

def kb (x : Ent) : List UInt8 := x.key.data.toList

theorem key_eq {x y : Ent} : (x.key.toList == y.key.toList) = true ↔ kb x = kb y := by
  rw [ByteArray.toList_eq, ByteArray.toList_eq]
  simp [kb]

theorem cmp_def (x y : Ent) : x.cmp y = if compareBytes (kb x) (kb y) ≠ 0 then compareBytes (kb x) (kb y) else if x.seq > y.seq then -1 else if x.seq < y.seq then 1 else 0 := by
  unfold Ent.cmp kb
  simp only [bne_iff_ne, ne_eq, decide_eq_true_eq]

theorem cmp_anti (x y : Ent) : y.cmp x = - x.cmp y := by
  rw [cmp_def, cmp_def, cb_anti (kb x) (kb y)]
  by_cases h : compareBytes (kb x) (kb y) = 0
  · simp only [h, Int.neg_zero, ne_eq, not_true, if_false]
    by_cases h1 : x.seq > y.seq
    · have : ¬ y.seq > x.seq := by omega
      simp [h1, this]
    · by_cases h2 : x.seq < y.seq
      · have : y.seq > x.seq := h2
        simp [h1, h2]
      · have e1 : ¬ y.seq > x.seq := h2
        have e2 : ¬ y.seq < x.seq := h1
        simp [h1, h2]
  · have h' : - compareBytes (kb x) (kb y) ≠ 0 := by omega
    rw [if_pos h', if_pos h]

theorem cmp_lt {x y : Ent} : x.cmp y < 0 ↔ compareBytes (kb x) (kb y) < 0 ∨ (kb x = kb y ∧ y.seq < x.seq) := by
  rw [cmp_def]
  by_cases h : compareBytes (kb x) (kb y) = 0
  · have hk := cb_eq h
    simp only [h, ne_eq, not_true, if_false]
    constructor
    · intro hl
      split at hl
      · exact .inr ⟨hk, by omega⟩
      · split at hl <;> omega
    · rintro (h1 | ⟨_, h2⟩)
      · omega
      · rw [if_pos h2]; omega
  · rw [if_pos h]
    constructor
    · exact fun h1 => .inl h1
    · rintro (h1 | ⟨h2, _⟩)
      · exact h1
      · exact absurd (by rw [h2]; exact cb_refl _) h

theorem cmp_trans {x y z : Ent} (h : x.cmp y < 0) (g : y.cmp z < 0) : x.cmp z < 0 := by
  rw [cmp_lt] at h g ⊢
  rcases h with h | ⟨h1, h2⟩
  · rcases g with g | ⟨g1, g2⟩
    · exact .inl (cb_trans h g)
    · rw [← g1]; exact .inl h
  · rcases g with g | ⟨g1, g2⟩
    · rw [h1]; exact .inl g
    · exact .inr ⟨h1.trans g1, by omega⟩

def Sorted (L : List Ent) : Prop := L.Pairwise fun x y => x.cmp y < 0

theorem pos_before (x : Ent) : ∀ (L : List Ent), ∀ y ∈ L.take (pos x L), y.cmp x < 0
  | [], y, h => by simp at h
  | a :: L, y, h => by
    rw [pos] at h
    split at h
    · rename_i hc
      rw [List.take_succ_cons] at h
      rcases List.mem_cons.1 h with rfl | h
      · exact of_decide_eq_true hc
      · exact pos_before x L y h
    · simp at h

theorem pos_at (x : Ent) : ∀ (L : List Ent) (y : Ent), L[pos x L]? = some y → ¬ y.cmp x < 0
  | [], y, h => by simp at h
  | a :: L, y, h => by
    rw [pos] at h
    split at h
    · exact pos_at x L y (by simpa using h)
    · rename_i hc
      cases h
      intro hl
      exact hc (decide_eq_true hl)

theorem insAt_sorted {L : List Ent} {x : Ent} (hL : Sorted L) (hne : ∀ y, L[pos x L]? = some y → ¬ (y.cmp x == (0 : Int)) = true) : Sorted (insAt L x (pos x L)) := by
  have hsp : L.take (pos x L) ++ L.drop (pos x L) = L := List.take_append_drop _ _
  have hpw := hL
  unfold Sorted at hpw
  rw [← hsp, List.pairwise_append] at hpw
  obtain ⟨p1, p2, p3⟩ := hpw
  have after : ∀ z ∈ L.drop (pos x L), x.cmp z < 0 := by
    intro z hz
    cases hd : L.drop (pos x L) with
    | nil => rw [hd] at hz; cases hz
    | cons y r =>
      have hy : L[pos x L]? = some y := by
        have := List.getElem?_drop (xs := L) (i := pos x L) (j := 0)
        rw [hd] at this
        simpa using this.symm
      have h1 := pos_at x L y hy
      have h2 : y.cmp x ≠ 0 := by simpa using hne y hy
      have h3 : x.cmp y < 0 := by rw [cmp_anti y x]; omega
      rw [hd] at hz p2
      rcases List.mem_cons.1 hz with rfl | hz
      · exact h3
      · exact cmp_trans h3 (List.rel_of_pairwise_cons p2 hz)
  unfold Sorted insAt
  rw [List.pairwise_append, List.pairwise_append]
  refine ⟨⟨p1, List.pairwise_singleton _ _, fun a ha b hb => ?_⟩, p2, fun a ha b hb => ?_⟩
  · rw [List.mem_singleton] at hb
    subst hb
    exact pos_before _ L a ha
  · rcases List.mem_append.1 ha with ha | ha
    · exact p3 a ha b hb
    · rw [List.mem_singleton] at ha
      subst ha
      exact after b hb

theorem insL_sorted {L : List Ent} (x : Ent) (hL : Sorted L) : Sorted (insL L x) := by
  unfold insL
  split
  · exact hL
  · split
    · rename_i y hy
      split
      · exact hL
      · rename_i hc
        exact insAt_sorted hL (fun z hz => by rw [hy] at hz; cases hz; exact hc)
    · rename_i hn
      exact insAt_sorted hL (fun z hz => by rw [hn] at hz; cases hz)

theorem insL_ok {L : List Ent} {x : Ent} (hL : ∀ y ∈ L, y.check = 0) : ∀ y ∈ insL L x, y.check = 0 := by
  intro y hy
  by_cases hc : (x.check != (0 : Int)) = true
  · rw [insL, if_pos hc] at hy; exact hL y hy
  · rcases mem_insL' hy with h | rfl
    · exact hL y h
    · simpa using hc
  where
  mem_insL' {L : List Ent} {x y : Ent} (h : y ∈ insL L x) : y ∈ L ∨ y = x := by
    have hi : ∀ p, y ∈ insAt L x p → y ∈ L ∨ y = x := by
      intro p h
      simp only [insAt, List.mem_append, List.mem_singleton] at h
      rcases h with (h | h) | h
      · exact .inl (List.mem_of_mem_take h)
      · exact .inr h
      · exact .inl (List.mem_of_mem_drop h)
    unfold insL at h
    split at h
    · exact .inl h
    · split at h
      · split at h
        · exact .inl h
        · exact hi _ h
      · exact hi _ h

theorem order_ok (es : List Ent) : Sorted (orderL es) ∧ ∀ y ∈ orderL es, y.check = 0 := by
  have : ∀ (es L : List Ent), Sorted L → (∀ y ∈ L, y.check = 0) → Sorted (es.foldl insL L) ∧ ∀ y ∈ es.foldl insL L, y.check = 0 := by
    intro es
    induction es with
    | nil => exact fun L h1 h2 => ⟨h1, h2⟩
    | cons x es ih => exact fun L h1 h2 => ih _ (insL_sorted x h1) (insL_ok h2)
  exact this es [] List.Pairwise.nil (fun y h => by simp at h)

theorem check_key {x : Ent} (h : x.check = 0) : kb x ≠ [] := by
  intro hk
  have : x.key.size = 0 := by
    have : x.key.data.toList.length = 0 := by rw [show x.key.data.toList = [] from hk]; rfl
    simpa using this
  unfold Ent.check at h
  rw [if_pos (by simp [this])] at h
  cases h

end Go.Ax
