/- What comes in as an argument; what a law's proof ends with. -/
import Derived.Test.YtgbmmmglilpdjaaAx20
import Derived.Lib.SmallJoins
import Derived.ChangeOld
import Derived.Carry
import Derived.ShutString
set_option linter.unusedVariables false
set_option linter.unusedSimpArgs false
namespace Go.Ax
open Go.RowKit

variable {P : Program}

def noF : Nat → Prop := fun _ => False

theorem not_own {ρ : Loc} {k : Nat} : ¬ Own noF [] ρ k := fun h => own_nil h

theorem inv0 (ρ : Loc) (w : World) : Inv noF [] ρ w :=
  ⟨fun b row v cs h => by simp at h, fun b row v cs h => by simp at h, fun b b' row v cs row' v' cs' k o o' h => by simp at h, fun k h => h.elim, fun b row v cs k o h => by simp at h⟩

/-- A function whose arguments are told is called, and what it came to. -/
theorem calls_of {f : Nat} {g : List AV → Option AV} (hs : SoundF P f (.pure g)) (he : enters P f = true) {args : List AV} {r : AV} (hg : g args = some r) {us : List Value} {W : World} (hA : ArgsRel noF [] (fun _ => none) W args us) :
    Calls P f us.toArray W fun e w' => ∃ v ρ, e = .returned v ∧ Below W.heap.size W w' ∧ VRel noF [] ρ w' r v := by
  have hrun : (FSpec.pure g).run args [] = some (r, []) := by simp [FSpec.run, hg]
  have fin : ∀ e w', Post noF [] (fun _ => none) W r [] e w' → ∃ v ρ, e = .returned v ∧ Below W.heap.size W w' ∧ VRel noF [] ρ w' r v := by
    rintro e w' ⟨v, ρ, rfl, _, hE, hv⟩
    exact ⟨v, ρ, rfl, ⟨hE.os, hE.tape, hE.output, hE.size, fun k hk => (hE.keep k hk not_own).1⟩, hv⟩
  rcases hs args [] r [] hrun noF (fun _ => none) W us (inv0 _ _) hA with ⟨_, h⟩ | ⟨v, w', h, hp⟩
  · exact h.mono fin
  · have := enter_run he us.toArray W
    rw [this] at h
    cases h

/-- The cells of a list's elements, one by one. -/
theorem flat_rel {α : Type} {f : α → PV} {sz : Nat} (he : Elt α f sz) {R : PV → Value → Prop} : ∀ (L : List α) (css : List (List Value)), L.length = css.length →
    (∀ (i : Nat) (a : α) (cs : List Value), L[i]? = some a → css[i]? = some cs → cs.length = sz ∧ ∀ (r : Nat) (p : PV) (u : Value), (f a).cells[r]? = some p → cs[r]? = some u → R p u) →
    ((L.map f).flatMap PV.cells).length = css.flatten.length ∧ (∀ (j : Nat) (p : PV) (u : Value), ((L.map f).flatMap PV.cells)[j]? = some p → css.flatten[j]? = some u → R p u)
  | [], css, hl, h => by
    have : css = [] := List.eq_nil_of_length_eq_zero (by simpa using hl.symm)
    subst this
    exact ⟨rfl, fun j p u hp => by simp at hp⟩
  | a :: L, css, hl, h => by
    cases css with
    | nil => simp at hl
    | cons cs css =>
      obtain ⟨g1, g2⟩ := h 0 a cs rfl rfl
      obtain ⟨i1, i2⟩ := flat_rel he L css (by simpa using hl) (fun i b ds hb hd => h (i + 1) b ds (by simpa using hb) (by simpa using hd))
      have hs := he.size a
      refine ⟨by rw [List.map_cons, List.flatMap_cons, List.flatten_cons, List.length_append, List.length_append, i1]; omega, fun j p u hp hu => ?_⟩
      rw [List.map_cons, List.flatMap_cons, List.getElem?_append] at hp
      rw [List.flatten_cons, List.getElem?_append] at hu
      split at hp
      · rw [if_pos (by omega)] at hu
        exact g2 j p u hp hu
      · rw [if_neg (by omega)] at hu
        rw [hs] at hp
        rw [g1] at hu
        exact i2 _ p u hp hu

theorem flat_cell {w : World} {a : Addr} {sz : Nat} : ∀ (css : List (List Value)) (k : Nat), (∀ (i : Nat) (cs : List Value), css[i]? = some cs → cs.length = sz ∧ ∀ (r : Nat) (u : Value), cs[r]? = some u → w.cell? (a.add ((k + i) * sz + r)) = some u) →
    ∀ (j : Nat) (u : Value), css.flatten[j]? = some u → w.cell? (a.add (k * sz + j)) = some u
  | [], _, _, j, u, h => by simp at h
  | cs :: css, k, h, j, u, hu => by
    obtain ⟨g1, g2⟩ := h 0 cs rfl
    rw [List.flatten_cons, List.getElem?_append] at hu
    split at hu
    · have := g2 j u hu
      simpa using this
    · have := flat_cell css (k + 1) (fun i ds hd => by
        have := h (i + 1) ds (by simpa using hd)
        rw [show k + 1 + i = k + (i + 1) by omega]
        exact this) _ u hu
      rw [show k * sz + j = (k + 1) * sz + (j - cs.length) by rw [Nat.succ_mul]; omega]
      exact this

/-- A slice that came in, its elements told by f. -/
theorem open_list {H : Type} {enc : TypeId × Value → H} {w : World} {base : Nat} {spare : Nat → Bool} {held : Bool} {O : Nat → Prop} (hO : ∀ k, ¬ O k) {t e : TypeId} (ht : P.underlying t = some (.slice e)) {α : Type} {f : α → PV} {sz : Nat} (he : Elt α f sz) (hpos : 0 < sz) (hc : P.cellsOf e = sz) {Q : α → Prop}
    (hel : ∀ n cs' y, DataW.trod enc P w base spare held n e cs' = some y → ∃ a : α, Q a ∧ cs'.length = sz ∧ ∀ (r : Nat) (p : PV) (u : Value), (f a).cells[r]? = some p → cs'[r]? = some u → PRel O w p u)
    {fuel : Nat} {v : Value} {x : DataW H × List MemPlace} (h : DataW.trod enc P w base spare held fuel t [v] = some x) : ∃ L : List α, (∀ a ∈ L, Q a) ∧ PRel O w (.ls (L.map f)) v := by
  rcases Deep.open_slice ht h with ⟨h1, _⟩ | ⟨a, len, cap, m, n, D, Pl, h1, hb, hl, hm, hmm, _, hx⟩
  · cases h1
    exact ⟨[], fun a ha => by simp at ha, .nil none 0 (.inr rfl)⟩
  · cases h1
    rw [hc] at hx
    have hlm : len ≤ m := by rw [hmm]; split <;> omega
    have hx2 : ∀ i, i < len → ∃ q : List Value × α, w.cells? base (a.add (i * sz)) sz = some q.1 ∧ Q q.2 ∧ q.1.length = sz ∧ ∀ (r : Nat) (p : PV) (u : Value), (f q.2).cells[r]? = some p → q.1[r]? = some u → PRel O w p u := by
      intro i hi
      obtain ⟨cs', g1, g2⟩ := hx i (by omega)
      obtain ⟨b, g3, g4⟩ := hel _ _ _ g2
      exact ⟨(cs', b), g1, g3, g4⟩
    obtain ⟨qs, q1, q2⟩ := exists_list len (fun i (q : List Value × α) => w.cells? base (a.add (i * sz)) sz = some q.1 ∧ Q q.2 ∧ q.1.length = sz ∧ ∀ (r : Nat) (p : PV) (u : Value), (f q.2).cells[r]? = some p → q.1[r]? = some u → PRel O w p u) hx2
    refine ⟨qs.map (·.2), fun b hb => ?_, ?_⟩
    · obtain ⟨q, hq, rfl⟩ := List.mem_map.1 hb
      obtain ⟨i, hi⟩ := List.getElem?_of_mem hq
      exact (q2 i q hi).2.1
    · obtain ⟨f1, f2⟩ := flat_rel he (R := PRel O w) (qs.map (·.2)) (qs.map (·.1)) (by simp) (fun i b cs hb' hcs => by
        rw [List.getElem?_map] at hb' hcs
        cases hq : qs[i]? with
        | none => rw [hq] at hb'; cases hb'
        | some q =>
          rw [hq] at hb' hcs
          cases hb'
          cases hcs
          exact (q2 i q hq).2.2)
      have hcell : ∀ (j : Nat) (u : Value), ((qs.map (·.1)).flatten)[j]? = some u → w.cell? (a.add j) = some u := by
        intro j u hu
        have := flat_cell (w := w) (a := a) (sz := sz) (qs.map (·.1)) 0 (fun i cs hcs => by
          rw [List.getElem?_map] at hcs
          cases hq : qs[i]? with
          | none => rw [hq] at hcs; cases hcs
          | some q =>
            rw [hq] at hcs
            cases hcs
            obtain ⟨g1, _, g3, _⟩ := q2 i q hq
            obtain ⟨_, _, g5⟩ := World.cells?_some g1
            refine ⟨g3, fun r u hr => ?_⟩
            have hr' : r < sz := by rw [← g3]; exact (List.getElem?_eq_some_iff.1 hr).1
            have := g5 r hr'
            rw [Deep.add_add] at this
            rw [Nat.zero_add, this]
            exact hr) j u hu
        simpa using this
      by_cases h0 : len = 0
      · have : qs = [] := List.eq_nil_of_length_eq_zero (by omega)
        subst this
        subst h0
        exact .nil (some a) cap (.inl rfl)
      · have hfl : 0 < ((qs.map (·.1)).flatten).length := by
          rw [← f1, he.flat]
          exact Nat.mul_pos (by simp; omega) hpos
        have hc0 := hcell 0 _ (List.getElem?_eq_getElem hfl)
        have hsp : a.spot = none := by
          have := World.cell?_spot hc0
          simpa [Addr.add] using this
        have hlt : a.block < w.heap.size := by
          unfold World.cell? at hc0
          simp only [Addr.add, if_true] at hc0
          split at hc0
          · rename_i hh; exact (Array.getElem?_eq_some_iff.1 hh).1
          · cases hc0
        have hlen : (List.map f (qs.map (·.2))).length = len := by simp [q1]
        rw [← hlen]
        exact .ls _ a cap _ hsp (hO _) hlt (by omega) f1 hcell f2

end Go.Ax
