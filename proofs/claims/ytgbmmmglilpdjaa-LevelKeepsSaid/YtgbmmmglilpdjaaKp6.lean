/- Keep's closure that ends a key: its contract. Printed by gen/g8.py. -/
import Derived.Test.YtgbmmmglilpdjaaKp5
set_option linter.unusedVariables false
set_option linter.unusedSimpArgs false
namespace Go.Ax
open Go.Proofs Go.RowKit
set_option maxRecDepth 100000

def entCs (a : Ent) : List AV := a.cs.map .p

theorem rowC_inj : ∀ {x y : List Ent}, rowC (ents x) = rowC (ents y) → x = y
  | [], [], _ => rfl
  | [], b :: y, h => by simp [rowC, ents, Ent.pv, Ent.cs, PV.cells] at h
  | a :: x, [], h => by simp [rowC, ents, Ent.pv, Ent.cs, PV.cells] at h
  | a :: x, b :: y, h => by
    have h' : (entCs a) ++ rowC (ents x) = (entCs b) ++ rowC (ents y) := h
    have h1 := List.append_inj h' rfl
    rw [rowC_inj h1.2]
    rw [cs_inj (x := a) (y := b) h1.1]

def baseB (S : List Int) (bot : Bool) (o : Option (Nat × List Ent)) (O : List Ent) (x : Option Ent) : List Box :=
  match o, x with
  | none, none => [Box.cells false 0 [vl (ints S)], Box.cells false 0 [vb bot], Box.cells false 0 [nilS], Box.cells false 0 [vl (ents O)]]
  | none, some X => [Box.cells false 0 [vl (ints S)], Box.cells false 0 [vb bot], Box.cells false 0 [nilS], Box.cells false 0 [vl (ents O)], Box.cells false 0 [vs X.key, vn .u64 X.seq, vb X.del, vs X.val]]
  | some (v, R), none => [Box.cells false 0 [vl (ints S)], Box.cells false 0 [vb bot], Box.cells false 0 [.rs 4 v 4 0 R.length], Box.cells false 0 [vl (ents O)], Box.cells true v (rowC (ents R))]
  | some (v, R), some X => [Box.cells false 0 [vl (ints S)], Box.cells false 0 [vb bot], Box.cells false 0 [.rs 4 v 4 0 R.length], Box.cells false 0 [vl (ents O)], Box.cells true v (rowC (ents R)), Box.cells false 0 [vs X.key, vn .u64 X.seq, vb X.del, vs X.val]]

def doneB (S : List Int) (bot : Bool) (o : Option (Nat × List Ent)) (O : List Ent) (x : Option Ent) : List Box :=
  match o, x with
  | none, none => [Box.cells false 0 [vl (ints S)], Box.cells false 0 [vb bot], Box.cells false 0 [.rs 4 0 4 0 ((doneL S bot O).length)], Box.cells false 0 [nilS], Box.cells true 0 (rowC (ents (doneL S bot O)))]
  | none, some X => [Box.cells false 0 [vl (ints S)], Box.cells false 0 [vb bot], Box.cells false 0 [.rs 5 0 4 0 ((doneL S bot O).length)], Box.cells false 0 [nilS], Box.cells false 0 [vs X.key, vn .u64 X.seq, vb X.del, vs X.val], Box.cells true 0 (rowC (ents (doneL S bot O)))]
  | some (v, R), none => [Box.cells false 0 [vl (ints S)], Box.cells false 0 [vb bot], Box.cells false 0 [.rs 4 (v + 1) 4 0 ((R ++ (doneL S bot O)).length)], Box.cells false 0 [nilS], Box.cells true (v + 1) (rowC (ents (R ++ (doneL S bot O))))]
  | some (v, R), some X => [Box.cells false 0 [vl (ints S)], Box.cells false 0 [vb bot], Box.cells false 0 [.rs 4 (v + 1) 4 0 ((R ++ (doneL S bot O)).length)], Box.cells false 0 [nilS], Box.cells true (v + 1) (rowC (ents (R ++ (doneL S bot O)))), Box.cells false 0 [vs X.key, vn .u64 X.seq, vb X.del, vs X.val]]

def capsD : List AV := [.ptr 3 0 0, .ptr 0 0 0, .ptr 1 0 0, .ptr 2 0 0]

def RDone : List AV → List Box → AV × List Box → Prop := fun args B r => ∃ (S : List Int) (bot : Bool) (o : Option (Nat × List Ent)) (O : List Ent) (x : Option Ent), S.length ≤ 1000000 ∧ O.length ≤ 1000000 ∧ (∀ v R, o = some (v, R) → R.length ≤ 1000000) ∧
  args = capsD ∧ B = baseB S bot o O x ∧ r = (.tup [], doneB S bot o O x)
noncomputable def gDone := relG2 RDone

theorem base_inj {S S' : List Int} {bot bot' : Bool} {o o' : Option (Nat × List Ent)} {O O' : List Ent} {x x' : Option Ent} (h : baseB S bot o O x = baseB S' bot' o' O' x') : S = S' ∧ bot = bot' ∧ o = o' ∧ O = O' ∧ x = x' := by
  have ei : ∀ {a b : Ent}, a.key = b.key → a.seq = b.seq → a.del = b.del → a.val = b.val → a = b := by
    intro a b h1 h2 h3 h4; cases a; cases b; simp_all
  rcases o with _ | ⟨v, R⟩ <;> rcases o' with _ | ⟨v', R'⟩ <;> rcases x with _ | X <;> rcases x' with _ | X' <;> simp [baseB] at h
  · exact ⟨ints_inj h.1, h.2.1, rfl, ents_inj h.2.2, rfl⟩
  · exact ⟨ints_inj h.1, h.2.1, rfl, ents_inj h.2.2.1, by rw [ei h.2.2.2.1 h.2.2.2.2.1 h.2.2.2.2.2.1 h.2.2.2.2.2.2]⟩
  · obtain ⟨h1, h2, h3, h4, h5, h6⟩ := h
    exact ⟨ints_inj h1, h2, by rw [h3.1, rowC_inj h6], ents_inj h4, rfl⟩
  · obtain ⟨h1, h2, h3, h4, h5, h6⟩ := h
    exact ⟨ints_inj h1, h2, by rw [h3.1, rowC_inj h5.2], ents_inj h4, by rw [ei h6.1 h6.2.1 h6.2.2.1 h6.2.2.2]⟩

theorem dDone (args : List AV) (B : List Box) (r r' : AV × List Box) (h : RDone args B r) (h' : RDone args B r') : r = r' := by
  obtain ⟨S, bot, o, O, x, _, _, _, _, e, rfl⟩ := h
  obtain ⟨S', bot', o', O', x', _, _, _, _, e', rfl⟩ := h'
  rw [e] at e'
  obtain ⟨rfl, rfl, rfl, rfl, rfl⟩ := base_inj e'
  rfl

theorem sound23 : SoundF LP 23 (.gen gDone) := fn_gen (fn := Try.f23) mixedL ΓK24_ok (by kernel_rfl) (by kernel_rfl) (by kernel_rfl) (by
  rintro args B r ⟨S, bot, o, O, x, hS, hO, hR, rfl, rfl, rfl⟩
  rcases o with _ | ⟨v, R⟩ <;> rcases x with _ | X
  · exact ⟨rfl, rfl, by simp [baseB, Box.low, AV.low, AV.low.allLow], .normal, [], [], .inr rfl, kdno_run S bot O hS hO, rfl, rfl⟩
  · exact ⟨rfl, rfl, by simp [baseB, Box.low, AV.low, AV.low.allLow], .normal, [], [], .inr rfl, kdnx_run S bot O X hS hO, rfl, rfl⟩
  · exact ⟨rfl, rfl, by simp [baseB, Box.low, AV.low, AV.low.allLow, row_low, Nat.blt_eq], .normal, [], [], .inr rfl, kdro_run S bot O v R hS hO (hR v R rfl), rfl, rfl⟩
  · exact ⟨rfl, rfl, by simp [baseB, Box.low, AV.low, AV.low.allLow, row_low, Nat.blt_eq], .normal, [], [], .inr rfl, kdrx_run S bot O v R X hS hO (hR v R rfl), rfl, rfl⟩)

theorem gDone_no {S : List Int} {bot : Bool} {O : List Ent} (hS : S.length ≤ 1000000) (hO : O.length ≤ 1000000) : gDone capsD [Box.cells false 0 [vl (ints S)], Box.cells false 0 [vb bot], Box.cells false 0 [nilS], Box.cells false 0 [vl (ents O)]] = some (.tup [], [Box.cells false 0 [vl (ints S)], Box.cells false 0 [vb bot], Box.cells false 0 [.rs 4 0 4 0 ((doneL S bot O).length)], Box.cells false 0 [nilS], Box.cells true 0 (rowC (ents (doneL S bot O)))]) := relG2_eq dDone ⟨S, bot, none, O, none, hS, hO, by simp, rfl, rfl, rfl⟩
theorem gDone_nx {S : List Int} {bot : Bool} {O : List Ent} {X : Ent} (hS : S.length ≤ 1000000) (hO : O.length ≤ 1000000) : gDone capsD [Box.cells false 0 [vl (ints S)], Box.cells false 0 [vb bot], Box.cells false 0 [nilS], Box.cells false 0 [vl (ents O)], Box.cells false 0 [vs X.key, vn .u64 X.seq, vb X.del, vs X.val]] = some (.tup [], [Box.cells false 0 [vl (ints S)], Box.cells false 0 [vb bot], Box.cells false 0 [.rs 5 0 4 0 ((doneL S bot O).length)], Box.cells false 0 [nilS], Box.cells false 0 [vs X.key, vn .u64 X.seq, vb X.del, vs X.val], Box.cells true 0 (rowC (ents (doneL S bot O)))]) := relG2_eq dDone ⟨S, bot, none, O, some X, hS, hO, by simp, rfl, rfl, rfl⟩
theorem gDone_ro {S : List Int} {bot : Bool} {O : List Ent} {v : Nat} {R : List Ent} (hS : S.length ≤ 1000000) (hO : O.length ≤ 1000000) (hR : R.length ≤ 1000000) : gDone capsD [Box.cells false 0 [vl (ints S)], Box.cells false 0 [vb bot], Box.cells false 0 [.rs 4 v 4 0 R.length], Box.cells false 0 [vl (ents O)], Box.cells true v (rowC (ents R))] = some (.tup [], [Box.cells false 0 [vl (ints S)], Box.cells false 0 [vb bot], Box.cells false 0 [.rs 4 (v + 1) 4 0 ((R ++ (doneL S bot O)).length)], Box.cells false 0 [nilS], Box.cells true (v + 1) (rowC (ents (R ++ (doneL S bot O))))]) := relG2_eq dDone ⟨S, bot, some (v, R), O, none, hS, hO, by rintro v' R' h; cases h; exact hR, rfl, rfl, rfl⟩
theorem gDone_rx {S : List Int} {bot : Bool} {O : List Ent} {v : Nat} {R : List Ent} {X : Ent} (hS : S.length ≤ 1000000) (hO : O.length ≤ 1000000) (hR : R.length ≤ 1000000) : gDone capsD [Box.cells false 0 [vl (ints S)], Box.cells false 0 [vb bot], Box.cells false 0 [.rs 4 v 4 0 R.length], Box.cells false 0 [vl (ents O)], Box.cells true v (rowC (ents R)), Box.cells false 0 [vs X.key, vn .u64 X.seq, vb X.del, vs X.val]] = some (.tup [], [Box.cells false 0 [vl (ints S)], Box.cells false 0 [vb bot], Box.cells false 0 [.rs 4 (v + 1) 4 0 ((R ++ (doneL S bot O)).length)], Box.cells false 0 [nilS], Box.cells true (v + 1) (rowC (ents (R ++ (doneL S bot O)))), Box.cells false 0 [vs X.key, vn .u64 X.seq, vb X.del, vs X.val]]) := relG2_eq dDone ⟨S, bot, some (v, R), O, some X, hS, hO, by rintro v' R' h; cases h; exact hR, rfl, rfl, rfl⟩

noncomputable def ΓD : Env := envOf [(23, .gen gDone)]
theorem ΓD_ok : ∀ f, SoundF LP f (ΓD f) := env_sound (by simp [sound23])

end Go.Ax
