/- Keep: what it comes to. -/
import Derived.Test.YtgbmmmglilpdjaaKp8
set_option linter.unusedVariables false
set_option linter.unusedSimpArgs false
namespace Go.Ax
open Go.Proofs Go.RowKit
set_option maxRecDepth 100000

def sameHead : List Ent → Ent → Bool
  | [], _ => true
  | o :: _, x => o.key.toList == x.key.toList

def keepGo (S : List Int) (bot : Bool) : List Ent → List Ent → List Ent → List Ent
  | R, O, [] => R ++ doneL S bot O
  | R, O, x :: r => if sameHead O x = true then keepGo S bot R (O ++ [x]) r else keepGo S bot (R ++ doneL S bot O) [x] r

def keepL (A : List Ent) (S : List Int) (bot : Bool) : List Ent := keepGo S bot [] [] A

abbrev capsK : List AV := [.ptr 3 0 0, .ptr 0 0 0, .ptr 1 0 0, .ptr 2 0 0]
abbrev kpB0 (S : List Int) (bot : Bool) : List Box := [Box.cells false 0 [vl (ints S)], Box.cells false 0 [vb bot], Box.cells false 0 [nilS], Box.cells false 0 [nilS]]
abbrev kpB1 (S : List Int) (bot : Bool) (w : Nat) (O : List Ent) : List Box := [Box.cells false 0 [vl (ints S)], Box.cells false 0 [vb bot], Box.cells false 0 [nilS], Box.cells false 0 [.rs 4 w 4 0 O.length], Box.cells true w (rowC (ents O))]
abbrev kpB2 (S : List Int) (bot : Bool) (v : Nat) (R : List Ent) (w : Nat) (O : List Ent) : List Box := [Box.cells false 0 [vl (ints S)], Box.cells false 0 [vb bot], Box.cells false 0 [.rs 4 v 4 0 R.length], Box.cells false 0 [.rs 5 w 4 0 O.length], Box.cells true v (rowC (ents R)), Box.cells true w (rowC (ents O))]
abbrev kpH (A : List Ent) (i : Nat) (B : List Box) : AS := ⟨tk [(7, .ptr 2 0 0), (8, .ptr 3 0 0), (9, .fn 23 capsK), (13, vl (ents A)), (14, vi (A.length : Int)), (15, vi (i : Int))], B⟩
abbrev kpX (B : List Box) : AS := ⟨tk [(7, .ptr 2 0 0), (9, .fn 23 capsK)], B⟩
noncomputable abbrev kpBody : Code := nav [true, true, true, true, false, true, false, false] (bodyOf Try.f11)

theorem done_len (S : List Int) (bot : Bool) (O : List Ent) : (doneL S bot O).length ≤ O.length := Nat.le_trans (strip_len _ _) (left_len S none O)

theorem kp_loop2 (A : List Ent) (S : List Int) (bot : Bool) (hS : S.length ≤ 1000000) (hA : A.length ≤ 1000000) : ∀ (k i v : Nat) (R : List Ent) (w : Nat) (O : List Ent), i + k = A.length → O ≠ [] → R.length + O.length ≤ i →
    ∃ v' R' w' O', EvL LP ΓD 41 0 kpBody (kpH A i (kpB2 S bot v R w O)) (.exit 0) (kpX (kpB2 S bot v' R' w' O')) ∧ R' ++ doneL S bot O' = keepGo S bot R O (A.drop i) ∧ R'.length + O'.length ≤ A.length
  | 0, i, v, R, w, O, h, hO, hl => by
    have e0 : A.drop i = [] := List.drop_eq_nil_of_le (by omega)
    rw [e0]
    exact ⟨v, R, w, O, .leave (kp2_w4 S bot A A.length i v R w O (decide_eq_false (by omega))) (by simp), rfl, by omega⟩
  | k + 1, i, v, R, w, O, h, hO, hl => by
    have hi : i < A.length := by omega
    have he : A[i]? = some A[i] := List.getElem?_eq_getElem hi
    have h0 : decide ((i : Int) < (A.length : Int)) = true := decide_eq_true (by omega)
    have hw : IntKind.i64.wrap ((i : Int) + 1) = (i : Int) + 1 := wrapN (by omega) (by omega)
    rw [List.drop_eq_getElem_cons hi, keepGo]
    cases O with
    | nil => exact absurd rfl hO
    | cons o O =>
      have hp : decide (((o :: O).length : Int) > (0 : Int)) = true := decide_eq_true (by simp)
      have hlt : (0 : Int) < ((o :: O).length : Int) := by simp
      have hd := done_len S bot (o :: O)
      by_cases hk : (o.key.toList == A[i].key.toList) = true
      · rw [if_pos (show sameHead (o :: O) A[i] = true from hk)]
        obtain ⟨v', R', w', O', g1, g2, g3⟩ := kp_loop2 A S bot hS hA k (i + 1) v R (w + 1) ((o :: O) ++ [A[i]]) (by omega) (by simp) (by simp at hl ⊢; omega)
        exact ⟨v', R', w', O', .next (kp2_w2 S bot A A.length i v R w (o :: O) A[i] o h0 (by omega) he hp (Int.le_refl _) hlt rfl (by rw [hk]; rfl) (by simp at hl ⊢; omega) hw) g1, g2, g3⟩
      · rw [if_neg (show ¬ sameHead (o :: O) A[i] = true from hk)]
        obtain ⟨v', R', w', O', g1, g2, g3⟩ := kp_loop2 A S bot hS hA k (i + 1) (v + 1) (R ++ doneL S bot (o :: O)) 0 [A[i]] (by omega) (by simp) (by rw [List.length_append, List.length_singleton]; omega)
        exact ⟨v', R', w', O', .next (kp2_w1 S bot A A.length i v R w (o :: O) A[i] o h0 (by omega) he hp (Int.le_refl _) hlt rfl (by rw [bfalse hk]; rfl) hS (by omega) (by omega) (by simp) hw) g1, g2, g3⟩

theorem kp_loop1 (A : List Ent) (S : List Int) (bot : Bool) (hS : S.length ≤ 1000000) (hA : A.length ≤ 1000000) : ∀ (k i w : Nat) (O : List Ent), i + k = A.length → O ≠ [] → O.length ≤ i →
    (∃ w' O', EvL LP ΓD 41 0 kpBody (kpH A i (kpB1 S bot w O)) (.exit 0) (kpX (kpB1 S bot w' O')) ∧ doneL S bot O' = keepGo S bot [] O (A.drop i) ∧ O'.length ≤ A.length) ∨
    (∃ v' R' w' O', EvL LP ΓD 41 0 kpBody (kpH A i (kpB1 S bot w O)) (.exit 0) (kpX (kpB2 S bot v' R' w' O')) ∧ R' ++ doneL S bot O' = keepGo S bot [] O (A.drop i) ∧ R'.length + O'.length ≤ A.length)
  | 0, i, w, O, h, hO, hl => by
    have e0 : A.drop i = [] := List.drop_eq_nil_of_le (by omega)
    rw [e0]
    exact .inl ⟨w, O, .leave (kp1_w4 S bot A A.length i w O (decide_eq_false (by omega))) (by simp), rfl, by omega⟩
  | k + 1, i, w, O, h, hO, hl => by
    have hi : i < A.length := by omega
    have he : A[i]? = some A[i] := List.getElem?_eq_getElem hi
    have h0 : decide ((i : Int) < (A.length : Int)) = true := decide_eq_true (by omega)
    have hw : IntKind.i64.wrap ((i : Int) + 1) = (i : Int) + 1 := wrapN (by omega) (by omega)
    rw [List.drop_eq_getElem_cons hi, keepGo]
    cases O with
    | nil => exact absurd rfl hO
    | cons o O =>
      have hp : decide (((o :: O).length : Int) > (0 : Int)) = true := decide_eq_true (by simp)
      have hlt : (0 : Int) < ((o :: O).length : Int) := by simp
      have hd := done_len S bot (o :: O)
      by_cases hk : (o.key.toList == A[i].key.toList) = true
      · rw [if_pos (show sameHead (o :: O) A[i] = true from hk)]
        have step := kp1_w2 S bot A A.length i w (o :: O) A[i] o h0 (by omega) he hp (Int.le_refl _) hlt rfl (by rw [hk]; rfl) (by simp at hl ⊢; omega) hw
        rcases kp_loop1 A S bot hS hA k (i + 1) (w + 1) ((o :: O) ++ [A[i]]) (by omega) (by simp) (by simp at hl ⊢; omega) with ⟨w', O', g1, g2, g3⟩ | ⟨v', R', w', O', g1, g2, g3⟩
        · exact .inl ⟨w', O', .next step g1, g2, g3⟩
        · exact .inr ⟨v', R', w', O', .next step g1, g2, g3⟩
      · rw [if_neg (show ¬ sameHead (o :: O) A[i] = true from hk), List.nil_append]
        obtain ⟨v', R', w', O', g1, g2, g3⟩ := kp_loop2 A S bot hS hA k (i + 1) 0 (doneL S bot (o :: O)) 0 [A[i]] (by omega) (by simp) (by rw [List.length_singleton]; omega)
        exact .inr ⟨v', R', w', O', .next (kp1_w1 S bot A A.length i w (o :: O) A[i] o h0 (by omega) he hp (Int.le_refl _) hlt rfl (by rw [bfalse hk]; rfl) hS (by omega) (by simp) hw) g1, g2, g3⟩

def RKeep : List AV → AV → Prop := fun args r => ∃ (A : List Ent) (S : List Int) (bot : Bool), A.length ≤ 1000000 ∧ S.length ≤ 1000000 ∧ args = [vl (ents A), vl (ints S), vb bot] ∧ r = vl (ents (keepL A S bot))
noncomputable def gKeep := relG RKeep
theorem gKeep_eq {A : List Ent} {S : List Int} {bot : Bool} (hA : A.length ≤ 1000000) (hS : S.length ≤ 1000000) : gKeep [vl (ents A), vl (ints S), vb bot] = some (vl (ents (keepL A S bot))) :=
  relG_eq (by
    rintro args r r' ⟨a, s, b, _, _, rfl, rfl⟩ ⟨a', s', b', _, _, h, rfl⟩
    simp only [List.cons.injEq, and_true, AV.p.injEq, PV.ls.injEq, PV.v.injEq, Value.bool.injEq] at h
    rw [ents_inj h.1, ints_inj h.2.1, h.2.2]) ⟨A, S, bot, hA, hS, rfl, rfl⟩

theorem sound11 : SoundF LP 11 (.pure gKeep) := fn_pure (fn := Try.f11) mixedL ΓD_ok (by kernel_rfl) (by kernel_rfl) (by kernel_rfl) (by
  rintro args r ⟨A, S, bot, hA, hS, rfl, rfl⟩
  refine ⟨rfl, rfl, ?_⟩
  cases A with
  | nil => exact ⟨.ret, _, _, _, .inl rfl, kpf_w1 [] S bot (.leave (kp0_w2 S bot [] 0 0 rfl) (by simp)) hS (by simp), rfl, .p _⟩
  | cons x A =>
    have st := kp0_w1 S bot (x :: A) ((x :: A).length : Nat) 0 x (decide_eq_true (by simp)) (by omega) rfl (by simp) (wrapN (by omega) (by omega))
    have ek : keepL (x :: A) S bot = keepGo S bot [] [x] ((x :: A).drop 1) := rfl
    rw [ek]
    rcases kp_loop1 (x :: A) S bot hS hA A.length 1 0 [x] (by simp; omega) (by simp) (by simp) with ⟨w', O', g1, g2, g3⟩ | ⟨v', R', w', O', g1, g2, g3⟩
    · rw [← g2]
      exact ⟨.ret, _, _, _, .inl rfl, kpf_w2 (x :: A) S bot w' O' (.next st g1) hS (by omega), rfl, .p _⟩
    · rw [← g2]
      exact ⟨.ret, _, _, _, .inl rfl, kpf_w3 (x :: A) S bot v' R' w' O' (.next st g1) hS (by omega) (by omega), rfl, .p _⟩)

end Go.Ax
