/- Lists by index; what a sort's steps turn. -/
import Derived.Test.YtgbmmmglilpdjaaTl0
set_option linter.unusedVariables false
set_option linter.unusedSimpArgs false
namespace Go.Ax
open Go.Proofs Go.RowKit

def dM : Meta := ⟨0, 0, ⟨#[]⟩, ⟨#[]⟩, 0⟩
def at' (L : List Meta) (i : Nat) : Meta := L.getD i dM

theorem at_get {L : List Meta} {i : Nat} (h : i < L.length) : L[i]? = some (at' L i) := by
  unfold at'
  rw [List.getD_eq_getElem?_getD, List.getElem?_eq_getElem h]
  rfl

theorem at_set {L : List Meta} {i j : Nat} {x : Meta} : at' (L.set i x) j = if i = j ∧ j < L.length then x else at' L j := by
  unfold at'
  rw [List.getD_eq_getElem?_getD, List.getD_eq_getElem?_getD, List.getElem?_set]
  by_cases h : i = j
  · subst h
    by_cases h2 : i < L.length
    · simp [h2]
    · simp [h2]
  · simp [h]

theorem at_ext {L M : List Meta} (hl : L.length = M.length) (h : ∀ i, i < L.length → at' L i = at' M i) : L = M := by
  apply List.ext_getElem?
  intro i
  rcases Nat.lt_or_ge i L.length with hi | hi
  · rw [at_get hi, at_get (by omega), h i hi]
  · rw [List.getElem?_eq_none hi, List.getElem?_eq_none (by omega)]

def swapA (L : List Meta) (i j : Nat) : List Meta := (L.set i (at' L j)).set j (at' L i)

theorem swap_len (L : List Meta) (i j : Nat) : (swapA L i j).length = L.length := by simp [swapA]
theorem swap_at {L : List Meta} {i j k : Nat} (hi : i < L.length) (hj : j < L.length) : at' (swapA L i j) k = if k = j then at' L i else if k = i then at' L j else at' L k := by
  unfold swapA
  rw [at_set, at_set, List.length_set]
  by_cases h1 : k = j
  · subst h1; simp [hj]
  · rw [if_neg (by omega), if_neg h1]
    by_cases h2 : k = i
    · subst h2; simp [hi]
    · rw [if_neg (by omega), if_neg h2]

theorem swap_perm {L : List Meta} {i j : Nat} (hi : i < L.length) (hj : j < L.length) : (swapA L i j).Perm L := by
  unfold swapA
  have e1 : at' L j = L[j] := by unfold at'; rw [List.getD_eq_getElem?_getD, List.getElem?_eq_getElem hj]; rfl
  have e2 : at' L i = L[i] := by unfold at'; rw [List.getD_eq_getElem?_getD, List.getElem?_eq_getElem hi]; rfl
  rw [e1, e2]
  exact List.set_set_perm hi hj

/-- L' is L, turned between a and b. -/
structure Turn (L L' : List Meta) (a b : Nat) : Prop where
  perm : L'.Perm L
  out : ∀ i, i < a ∨ b ≤ i → at' L' i = at' L i
  ins : ∀ i, a ≤ i → i < b → ∃ j, a ≤ j ∧ j < b ∧ at' L' i = at' L j

theorem Turn.refl (L : List Meta) (a b : Nat) : Turn L L a b := ⟨.refl _, fun _ _ => rfl, fun i h1 h2 => ⟨i, h1, h2, rfl⟩⟩
theorem Turn.trans {L L1 L2 : List Meta} {a b : Nat} (h : Turn L L1 a b) (g : Turn L1 L2 a b) : Turn L L2 a b :=
  ⟨g.perm.trans h.perm, fun i hi => (g.out i hi).trans (h.out i hi), fun i h1 h2 => by
    obtain ⟨j, q1, q2, q3⟩ := g.ins i h1 h2
    obtain ⟨k, p1, p2, p3⟩ := h.ins j q1 q2
    exact ⟨k, p1, p2, q3.trans p3⟩⟩
theorem Turn.wide {L L' : List Meta} {a b a' b' : Nat} (h : Turn L L' a b) (ha : a' ≤ a) (hb : b ≤ b') : Turn L L' a' b' :=
  ⟨h.perm, fun i hi => h.out i (by omega), fun i h1 h2 => by
    by_cases hi : a ≤ i ∧ i < b
    · obtain ⟨j, q1, q2, q3⟩ := h.ins i hi.1 hi.2
      exact ⟨j, by omega, by omega, q3⟩
    · exact ⟨i, h1, h2, h.out i (by omega)⟩⟩
theorem Turn.swap {L : List Meta} {i j a b : Nat} (hi : i < L.length) (hj : j < L.length) (h1 : a ≤ i) (h2 : i < b) (h3 : a ≤ j) (h4 : j < b) : Turn L (swapA L i j) a b :=
  ⟨swap_perm hi hj, fun k hk => by rw [swap_at hi hj, if_neg (by omega), if_neg (by omega)], fun k h5 h6 => by
    rw [swap_at hi hj]
    by_cases e1 : k = j
    · exact ⟨i, h1, h2, by rw [if_pos e1]⟩
    · by_cases e2 : k = i
      · exact ⟨j, h3, h4, by rw [if_neg e1, if_pos e2]⟩
      · exact ⟨k, h5, h6, by rw [if_neg e1, if_neg e2]⟩⟩
theorem Turn.len {L L' : List Meta} {a b : Nat} (h : Turn L L' a b) : L'.length = L.length := h.perm.length_eq

/-- An order: 'x before y' is 'c x y < 0'. -/
structure Ordr (c : Meta → Meta → Int) (Q : Meta → Prop) : Prop where
  asym : ∀ x y, Q x → Q y → c x y < 0 → ¬ c y x < 0
  trans : ∀ x y z, Q x → Q y → Q z → ¬ c y x < 0 → ¬ c z y < 0 → ¬ c z x < 0

def Sorted (c : Meta → Meta → Int) (L : List Meta) (a b : Nat) : Prop := ∀ p q, a ≤ p → p < q → q < b → ¬ c (at' L q) (at' L p) < 0

theorem Sorted.sub {c : Meta → Meta → Int} {L : List Meta} {a b a' b' : Nat} (h : Sorted c L a b) (ha : a ≤ a') (hb : b' ≤ b) : Sorted c L a' b' := fun p q h1 h2 h3 => h p q (by omega) h2 (by omega)
theorem Sorted.congr {c : Meta → Meta → Int} {L L' : List Meta} {a b : Nat} (h : Sorted c L a b) (e : ∀ i, a ≤ i → i < b → at' L' i = at' L i) : Sorted c L' a b := fun p q h1 h2 h3 => by
  rw [e p h1 (by omega), e q (by omega) h3]; exact h p q h1 h2 h3

def AllQ (Q : Meta → Prop) (L : List Meta) : Prop := ∀ i, i < L.length → Q (at' L i)
theorem AllQ.turn {Q : Meta → Prop} {L L' : List Meta} {a b : Nat} (h : AllQ Q L) (t : Turn L L' a b) (hb : b ≤ L.length) : AllQ Q L' := fun i hi => by
  rw [t.len] at hi
  by_cases hh : a ≤ i ∧ i < b
  · obtain ⟨j, q1, q2, q3⟩ := t.ins i hh.1 hh.2
    rw [q3]; exact h j (by omega)
  · rw [t.out i (by omega)]; exact h i hi

end Go.Ax
