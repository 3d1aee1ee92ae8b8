/- Keep's closure that ends a key: what it comes to. Printed by gen/g7.py: four shapes of memory, one proof. -/
import Derived.Test.YtgbmmmglilpdjaaKp4
set_option linter.unusedVariables false
set_option linter.unusedSimpArgs false
namespace Go.Ax
open Go.Proofs Go.RowKit
set_option maxRecDepth 100000

/-- Is x kept, the newer change of its key being told? -/
def keepB (S : List Int) : Option Ent → Ent → Bool
  | none, _ => true
  | some o, x => S.any (between x o)

def leftF (S : List Int) : Option Ent → List Ent → List Ent
  | _, [] => []
  | pr, x :: r => if keepB S pr x = true then x :: leftF S (some x) r else leftF S (some x) r

def stripL (bot : Bool) (L : List Ent) : List Ent := if bot = true then (L.reverse.dropWhile Ent.del).reverse else L

def doneL (S : List Int) (bot : Bool) (O : List Ent) : List Ent := stripL bot (leftF S none O)

theorem strip_del {bot : Bool} (A : List Ent) {e : Ent} (hb : bot = true) (h : e.del = true) : stripL bot (A ++ [e]) = stripL bot A := by
  unfold stripL
  rw [if_pos hb, if_pos hb, List.reverse_append]
  simp [h]

theorem strip_keep {bot : Bool} (A : List Ent) {e : Ent} (h : e.del = false) : stripL bot (A ++ [e]) = A ++ [e] := by
  unfold stripL
  split
  · rw [List.reverse_append]
    simp [h]
  · rfl

theorem strip_off {bot : Bool} (A : List Ent) (hb : ¬ bot = true) : stripL bot A = A := if_neg hb

theorem strip_len (bot : Bool) (A : List Ent) : (stripL bot A).length ≤ A.length := by
  unfold stripL
  split
  · have := (List.dropWhile_sublist Ent.del (l := A.reverse)).length_le
    simpa using this
  · exact Nat.le_refl _

theorem left_len (S : List Int) : ∀ (pr : Option Ent) (O : List Ent), (leftF S pr O).length ≤ O.length
  | _, [] => by simp [leftF]
  | pr, x :: r => by
    have := left_len S (some x) r
    rw [leftF]
    split <;> simp <;> omega

noncomputable abbrev kd1Body : Code := nav [true, false, true, false, false] (bodyOf Try.f23)
noncomputable abbrev kd2Body : Code := nav [true, true, false, true, false, false] (bodyOf Try.f23)

/-! ### kdno -/
abbrev kdno_H0 (S : List Int) (bot : Bool) (O : List Ent) (i : Nat) : AS := ⟨tk [(0, .ptr 3 0 0), (1, .ptr 0 0 0), (2, .ptr 1 0 0), (3, .ptr 2 0 0), (4, nilS), (8, vl (ents O)), (9, vi (O.length : Int)), (10, vi (i : Int))], [Box.cells false 0 [vl (ints S)], Box.cells false 0 [vb bot], Box.cells false 0 [nilS], Box.cells false 0 [vl (ents O)]]⟩
abbrev kdno_H1 (S : List Int) (bot : Bool) (O : List Ent) (i w : Nat) (Lf : List Ent) : AS := ⟨tk [(0, .ptr 3 0 0), (1, .ptr 0 0 0), (2, .ptr 1 0 0), (3, .ptr 2 0 0), (4, .rs 4 w 4 0 Lf.length), (8, vl (ents O)), (9, vi (O.length : Int)), (10, vi (i : Int))], [Box.cells false 0 [vl (ints S)], Box.cells false 0 [vb bot], Box.cells false 0 [nilS], Box.cells false 0 [vl (ents O)], Box.cells true w (rowC (ents Lf))]⟩
abbrev kdno_X1 (S : List Int) (bot : Bool) (O : List Ent) (w : Nat) (Lf : List Ent) : AS := ⟨tk [(0, .ptr 3 0 0), (1, .ptr 0 0 0), (2, .ptr 1 0 0), (3, .ptr 2 0 0), (4, .rs 4 w 4 0 Lf.length)], [Box.cells false 0 [vl (ints S)], Box.cells false 0 [vb bot], Box.cells false 0 [nilS], Box.cells false 0 [vl (ents O)], Box.cells true w (rowC (ents Lf))]⟩
abbrev kdno_H2 (S : List Int) (bot : Bool) (O : List Ent) (Lf : List Ent) : AS := ⟨tk [(0, .ptr 3 0 0), (1, .ptr 0 0 0), (2, .ptr 1 0 0), (3, .ptr 2 0 0), (4, vl (ents Lf)), (7, vi (Lf.length : Int))], [Box.cells false 0 [vl (ints S)], Box.cells false 0 [vb bot], Box.cells false 0 [nilS], Box.cells false 0 [vl (ents O)]]⟩
abbrev kdno_X2 (S : List Int) (bot : Bool) (O : List Ent) (Lf : List Ent) : AS := ⟨tk [(0, .ptr 3 0 0), (3, .ptr 2 0 0), (4, vl (ents Lf))], [Box.cells false 0 [vl (ints S)], Box.cells false 0 [vb bot], Box.cells false 0 [nilS], Box.cells false 0 [vl (ents O)]]⟩
abbrev kdno_Z (S : List Int) (bot : Bool) (O : List Ent) (L2 : List Ent) : AS := ⟨tk [], [Box.cells false 0 [vl (ints S)], Box.cells false 0 [vb bot], Box.cells false 0 [.rs 4 0 4 0 L2.length], Box.cells false 0 [nilS], Box.cells true 0 (rowC (ents L2))]⟩

theorem kdno_loop1 (S : List Int) (bot : Bool) (O : List Ent) (hS : S.length ≤ 1000000) (hO : O.length ≤ 1000000) : ∀ (k i w : Nat) (Lf : List Ent) (o : Ent), i + k = O.length → 1 ≤ i → O[i - 1]? = some o → Lf.length ≤ i →
    ∃ w', EvL LP ΓK24 51 4 kd1Body (kdno_H1 S bot O i w Lf) (.exit 0) (kdno_X1 S bot O w' (Lf ++ leftF S (some o) (O.drop i)))
  | 0, i, w, Lf, o, h, h1, ho, hL => by
    have e0 : O.drop i = [] := List.drop_eq_nil_of_le (by omega)
    rw [e0, leftF, List.append_nil]
    exact ⟨w, .leave (kdno1_w4 S bot O O.length i w Lf (decide_eq_false (by omega))) (by simp)⟩
  | k + 1, i, w, Lf, o, h, h1, ho, hL => by
    have hi : i < O.length := by omega
    have he : O[i]? = some O[i] := List.getElem?_eq_getElem hi
    have h0 : decide ((i : Int) < (O.length : Int)) = true := decide_eq_true (by omega)
    have c0 : ((i : Int) == (0 : Int)) = false := by simp; omega
    have hw : IntKind.i64.wrap ((i : Int) + 1) = (i : Int) + 1 := wrapN (by omega) (by omega)
    have ho' : O[Int.toNat ((i : Int) - 1)]? = some o := by rw [show Int.toNat ((i : Int) - 1) = i - 1 by omega]; exact ho
    rw [List.drop_eq_getElem_cons hi, leftF]
    by_cases hq : S.any (between O[i] o) = true
    · obtain ⟨w', ih⟩ := kdno_loop1 S bot O hS hO k (i + 1) (w + 1) (Lf ++ [O[i]]) O[i] (by omega) (by omega) he (by simp; omega)
      rw [List.append_assoc, List.singleton_append] at ih
      rw [if_pos (show keepB S (some o) O[i] = true from hq)]
      exact ⟨w', .next (kdno1_w2 S bot O O.length i w Lf O[i] o h0 (by omega) he c0 hS ⟨by omega, by omega⟩ ho' hq (by simp; omega) hw) ih⟩
    · obtain ⟨w', ih⟩ := kdno_loop1 S bot O hS hO k (i + 1) w Lf O[i] (by omega) (by omega) he (by omega)
      rw [if_neg (show ¬ keepB S (some o) O[i] = true from hq)]
      exact ⟨w', .next (kdno1_w3 S bot O O.length i w Lf O[i] o h0 (by omega) he c0 hS ⟨by omega, by omega⟩ ho' (bfalse hq) hw) ih⟩

theorem kdno_loop2 (S : List Int) (bot : Bool) (O : List Ent) : ∀ (k : Nat) (L : List Ent), L.length = k → k ≤ 1000000 → EvL LP ΓK24 51 4 kd2Body (kdno_H2 S bot O L) (.exit 2) (kdno_X2 S bot O (stripL bot L))
  | 0, L, h, _ => by
    have : L = [] := List.eq_nil_of_length_eq_zero h
    subst this
    by_cases hb : bot = true
    · have e : stripL bot [] = [] := by unfold stripL; rw [if_pos hb]; rfl
      rw [e]
      exact .leave (kdno2_w3 S bot O [] 0 hb (decide_eq_false (by omega))) (by simp)
    · rw [strip_off [] hb]
      exact .leave (kdno2_w4 S bot O [] 0 (bfalse hb)) (by simp)
  | k + 1, L, h, hk => by
    by_cases hb : bot = true
    · have hlt : k < L.length := by omega
      have he : L[k]? = some L[k] := List.getElem?_eq_getElem hlt
      have hsp : L = L.take k ++ [L[k]] := by
        have := List.take_succ_eq_append_getElem hlt
        rw [show k + 1 = L.length by omega, List.take_length] at this
        exact this
      have hn : Int.toNat ((L.length : Int) - 1) = k := by omega
      have hw : IntKind.i64.wrap ((L.length : Int) - 1) = (L.length : Int) - 1 := wrapN (by omega) (by omega)
      have he' : L[Int.toNat ((L.length : Int) - 1)]? = some L[k] := by rw [hn]; exact he
      by_cases hd : L[k].del = true
      · have ih := kdno_loop2 S bot O k (L.take k) (by simp; omega) (by omega)
        have hs : stripL bot L = stripL bot (L.take k) := by
          have := strip_del (L.take k) (e := L[k]) hb hd
          rw [← hsp] at this
          exact this
        rw [hs]
        have step := kdno2_w1 S bot O L L.length L[k] hb (decide_eq_true (by omega)) hw (by omega) he' hd ⟨by omega, by omega⟩
        rw [hn] at step
        exact .next step ih
      · have hs : stripL bot L = L := by
          have := strip_keep (bot := bot) (L.take k) (e := L[k]) (bfalse hd)
          rw [← hsp] at this
          exact this
        rw [hs]
        exact .leave (kdno2_w2 S bot O L L.length L[k] hb (decide_eq_true (by omega)) hw (by omega) he' (bfalse hd)) (by simp)
    · rw [strip_off L hb]
      exact .leave (kdno2_w4 S bot O L L.length (bfalse hb)) (by simp)

theorem kdno_run (S : List Int) (bot : Bool) (O : List Ent) (hS : S.length ≤ 1000000) (hO : O.length ≤ 1000000) : EvC LP ΓK24 51 4 (bodyOf Try.f23) ⟨tk [(0, .ptr 3 0 0), (1, .ptr 0 0 0), (2, .ptr 1 0 0), (3, .ptr 2 0 0)], [Box.cells false 0 [vl (ints S)], Box.cells false 0 [vb bot], Box.cells false 0 [nilS], Box.cells false 0 [vl (ents O)]]⟩ .normal (kdno_Z S bot O (doneL S bot O)) := by
  have hl : (doneL S bot O).length ≤ O.length := Nat.le_trans (strip_len _ _) (left_len S none O)
  cases O with
  | nil =>
    have e1 : doneL S bot [] = stripL bot [] := rfl
    rw [e1] at hl ⊢
    have hz : (stripL bot ([] : List Ent)).length ≤ 0 := hl
    have hbd : ((stripL bot ([] : List Ent)).length : Int) ≤ 1000000000 := by
      have h9 : (stripL bot ([] : List Ent)).length ≤ 0 + (stripL bot ([] : List Ent)).length := by simp
      omega
    exact kdnof_w1 S bot [] _ (.leave (kdno0_w4 S bot [] 0 0 rfl) (by simp)) (kdno_loop2 S bot [] 0 [] rfl (by omega)) hbd
  | cons x O =>
    have st := kdno0_w1 S bot (x :: O) (O.length + 1 : Nat) 0 x (decide_eq_true (by omega)) (by omega) rfl rfl (by simp) (wrapN (by omega) (by omega))
    obtain ⟨w', l1⟩ := kdno_loop1 S bot (x :: O) hS hO O.length 1 0 [x] x (by simp; omega) (by omega) rfl (by simp)
    have e1 : doneL S bot (x :: O) = stripL bot ([x] ++ leftF S (some x) ((x :: O).drop 1)) := rfl
    have ll : ([x] ++ leftF S (some x) ((x :: O).drop 1)).length ≤ 1000000 := by
      have := left_len S (some x) O
      simp at hO ⊢; omega
    rw [e1] at hl ⊢
    exact kdnof_w2 S bot (x :: O) w' _ _ (.next st l1) (kdno_loop2 S bot (x :: O) _ _ rfl ll) (by simp at hl hO ⊢; omega)

/-! ### kdnx -/
abbrev kdnx_H0 (S : List Int) (bot : Bool) (O : List Ent) (X : Ent) (i : Nat) : AS := ⟨tk [(0, .ptr 3 0 0), (1, .ptr 0 0 0), (2, .ptr 1 0 0), (3, .ptr 2 0 0), (4, nilS), (8, vl (ents O)), (9, vi (O.length : Int)), (10, vi (i : Int))], [Box.cells false 0 [vl (ints S)], Box.cells false 0 [vb bot], Box.cells false 0 [nilS], Box.cells false 0 [vl (ents O)], Box.cells false 0 [vs X.key, vn .u64 X.seq, vb X.del, vs X.val]]⟩
abbrev kdnx_H1 (S : List Int) (bot : Bool) (O : List Ent) (X : Ent) (i w : Nat) (Lf : List Ent) : AS := ⟨tk [(0, .ptr 3 0 0), (1, .ptr 0 0 0), (2, .ptr 1 0 0), (3, .ptr 2 0 0), (4, .rs 5 w 4 0 Lf.length), (8, vl (ents O)), (9, vi (O.length : Int)), (10, vi (i : Int))], [Box.cells false 0 [vl (ints S)], Box.cells false 0 [vb bot], Box.cells false 0 [nilS], Box.cells false 0 [vl (ents O)], Box.cells false 0 [vs X.key, vn .u64 X.seq, vb X.del, vs X.val], Box.cells true w (rowC (ents Lf))]⟩
abbrev kdnx_X1 (S : List Int) (bot : Bool) (O : List Ent) (X : Ent) (w : Nat) (Lf : List Ent) : AS := ⟨tk [(0, .ptr 3 0 0), (1, .ptr 0 0 0), (2, .ptr 1 0 0), (3, .ptr 2 0 0), (4, .rs 5 w 4 0 Lf.length)], [Box.cells false 0 [vl (ints S)], Box.cells false 0 [vb bot], Box.cells false 0 [nilS], Box.cells false 0 [vl (ents O)], Box.cells false 0 [vs X.key, vn .u64 X.seq, vb X.del, vs X.val], Box.cells true w (rowC (ents Lf))]⟩
abbrev kdnx_H2 (S : List Int) (bot : Bool) (O : List Ent) (X : Ent) (Lf : List Ent) : AS := ⟨tk [(0, .ptr 3 0 0), (1, .ptr 0 0 0), (2, .ptr 1 0 0), (3, .ptr 2 0 0), (4, vl (ents Lf)), (7, vi (Lf.length : Int))], [Box.cells false 0 [vl (ints S)], Box.cells false 0 [vb bot], Box.cells false 0 [nilS], Box.cells false 0 [vl (ents O)], Box.cells false 0 [vs X.key, vn .u64 X.seq, vb X.del, vs X.val]]⟩
abbrev kdnx_X2 (S : List Int) (bot : Bool) (O : List Ent) (X : Ent) (Lf : List Ent) : AS := ⟨tk [(0, .ptr 3 0 0), (3, .ptr 2 0 0), (4, vl (ents Lf))], [Box.cells false 0 [vl (ints S)], Box.cells false 0 [vb bot], Box.cells false 0 [nilS], Box.cells false 0 [vl (ents O)], Box.cells false 0 [vs X.key, vn .u64 X.seq, vb X.del, vs X.val]]⟩
abbrev kdnx_Z (S : List Int) (bot : Bool) (O : List Ent) (X : Ent) (L2 : List Ent) : AS := ⟨tk [], [Box.cells false 0 [vl (ints S)], Box.cells false 0 [vb bot], Box.cells false 0 [.rs 5 0 4 0 L2.length], Box.cells false 0 [nilS], Box.cells false 0 [vs X.key, vn .u64 X.seq, vb X.del, vs X.val], Box.cells true 0 (rowC (ents L2))]⟩

theorem kdnx_loop1 (S : List Int) (bot : Bool) (O : List Ent) (X : Ent) (hS : S.length ≤ 1000000) (hO : O.length ≤ 1000000) : ∀ (k i w : Nat) (Lf : List Ent) (o : Ent), i + k = O.length → 1 ≤ i → O[i - 1]? = some o → Lf.length ≤ i →
    ∃ w', EvL LP ΓK24 51 5 kd1Body (kdnx_H1 S bot O X i w Lf) (.exit 0) (kdnx_X1 S bot O X w' (Lf ++ leftF S (some o) (O.drop i)))
  | 0, i, w, Lf, o, h, h1, ho, hL => by
    have e0 : O.drop i = [] := List.drop_eq_nil_of_le (by omega)
    rw [e0, leftF, List.append_nil]
    exact ⟨w, .leave (kdnx1_w4 S bot O X O.length i w Lf (decide_eq_false (by omega))) (by simp)⟩
  | k + 1, i, w, Lf, o, h, h1, ho, hL => by
    have hi : i < O.length := by omega
    have he : O[i]? = some O[i] := List.getElem?_eq_getElem hi
    have h0 : decide ((i : Int) < (O.length : Int)) = true := decide_eq_true (by omega)
    have c0 : ((i : Int) == (0 : Int)) = false := by simp; omega
    have hw : IntKind.i64.wrap ((i : Int) + 1) = (i : Int) + 1 := wrapN (by omega) (by omega)
    have ho' : O[Int.toNat ((i : Int) - 1)]? = some o := by rw [show Int.toNat ((i : Int) - 1) = i - 1 by omega]; exact ho
    rw [List.drop_eq_getElem_cons hi, leftF]
    by_cases hq : S.any (between O[i] o) = true
    · obtain ⟨w', ih⟩ := kdnx_loop1 S bot O X hS hO k (i + 1) (w + 1) (Lf ++ [O[i]]) O[i] (by omega) (by omega) he (by simp; omega)
      rw [List.append_assoc, List.singleton_append] at ih
      rw [if_pos (show keepB S (some o) O[i] = true from hq)]
      exact ⟨w', .next (kdnx1_w2 S bot O X O.length i w Lf O[i] o h0 (by omega) he c0 hS ⟨by omega, by omega⟩ ho' hq (by simp; omega) hw) ih⟩
    · obtain ⟨w', ih⟩ := kdnx_loop1 S bot O X hS hO k (i + 1) w Lf O[i] (by omega) (by omega) he (by omega)
      rw [if_neg (show ¬ keepB S (some o) O[i] = true from hq)]
      exact ⟨w', .next (kdnx1_w3 S bot O X O.length i w Lf O[i] o h0 (by omega) he c0 hS ⟨by omega, by omega⟩ ho' (bfalse hq) hw) ih⟩

theorem kdnx_loop2 (S : List Int) (bot : Bool) (O : List Ent) (X : Ent) : ∀ (k : Nat) (L : List Ent), L.length = k → k ≤ 1000000 → EvL LP ΓK24 51 5 kd2Body (kdnx_H2 S bot O X L) (.exit 2) (kdnx_X2 S bot O X (stripL bot L))
  | 0, L, h, _ => by
    have : L = [] := List.eq_nil_of_length_eq_zero h
    subst this
    by_cases hb : bot = true
    · have e : stripL bot [] = [] := by unfold stripL; rw [if_pos hb]; rfl
      rw [e]
      exact .leave (kdnx2_w3 S bot O X [] 0 hb (decide_eq_false (by omega))) (by simp)
    · rw [strip_off [] hb]
      exact .leave (kdnx2_w4 S bot O X [] 0 (bfalse hb)) (by simp)
  | k + 1, L, h, hk => by
    by_cases hb : bot = true
    · have hlt : k < L.length := by omega
      have he : L[k]? = some L[k] := List.getElem?_eq_getElem hlt
      have hsp : L = L.take k ++ [L[k]] := by
        have := List.take_succ_eq_append_getElem hlt
        rw [show k + 1 = L.length by omega, List.take_length] at this
        exact this
      have hn : Int.toNat ((L.length : Int) - 1) = k := by omega
      have hw : IntKind.i64.wrap ((L.length : Int) - 1) = (L.length : Int) - 1 := wrapN (by omega) (by omega)
      have he' : L[Int.toNat ((L.length : Int) - 1)]? = some L[k] := by rw [hn]; exact he
      by_cases hd : L[k].del = true
      · have ih := kdnx_loop2 S bot O X k (L.take k) (by simp; omega) (by omega)
        have hs : stripL bot L = stripL bot (L.take k) := by
          have := strip_del (L.take k) (e := L[k]) hb hd
          rw [← hsp] at this
          exact this
        rw [hs]
        have step := kdnx2_w1 S bot O X L L.length L[k] hb (decide_eq_true (by omega)) hw (by omega) he' hd ⟨by omega, by omega⟩
        rw [hn] at step
        exact .next step ih
      · have hs : stripL bot L = L := by
          have := strip_keep (bot := bot) (L.take k) (e := L[k]) (bfalse hd)
          rw [← hsp] at this
          exact this
        rw [hs]
        exact .leave (kdnx2_w2 S bot O X L L.length L[k] hb (decide_eq_true (by omega)) hw (by omega) he' (bfalse hd)) (by simp)
    · rw [strip_off L hb]
      exact .leave (kdnx2_w4 S bot O X L L.length (bfalse hb)) (by simp)

theorem kdnx_run (S : List Int) (bot : Bool) (O : List Ent) (X : Ent) (hS : S.length ≤ 1000000) (hO : O.length ≤ 1000000) : EvC LP ΓK24 51 5 (bodyOf Try.f23) ⟨tk [(0, .ptr 3 0 0), (1, .ptr 0 0 0), (2, .ptr 1 0 0), (3, .ptr 2 0 0)], [Box.cells false 0 [vl (ints S)], Box.cells false 0 [vb bot], Box.cells false 0 [nilS], Box.cells false 0 [vl (ents O)], Box.cells false 0 [vs X.key, vn .u64 X.seq, vb X.del, vs X.val]]⟩ .normal (kdnx_Z S bot O X (doneL S bot O)) := by
  have hl : (doneL S bot O).length ≤ O.length := Nat.le_trans (strip_len _ _) (left_len S none O)
  cases O with
  | nil =>
    have e1 : doneL S bot [] = stripL bot [] := rfl
    rw [e1] at hl ⊢
    have hz : (stripL bot ([] : List Ent)).length ≤ 0 := hl
    have hbd : ((stripL bot ([] : List Ent)).length : Int) ≤ 1000000000 := by
      have h9 : (stripL bot ([] : List Ent)).length ≤ 0 + (stripL bot ([] : List Ent)).length := by simp
      omega
    exact kdnxf_w1 S bot [] X _ (.leave (kdnx0_w4 S bot [] X 0 0 rfl) (by simp)) (kdnx_loop2 S bot [] X 0 [] rfl (by omega)) hbd
  | cons x O =>
    have st := kdnx0_w1 S bot (x :: O) X (O.length + 1 : Nat) 0 x (decide_eq_true (by omega)) (by omega) rfl rfl (by simp) (wrapN (by omega) (by omega))
    obtain ⟨w', l1⟩ := kdnx_loop1 S bot (x :: O) X hS hO O.length 1 0 [x] x (by simp; omega) (by omega) rfl (by simp)
    have e1 : doneL S bot (x :: O) = stripL bot ([x] ++ leftF S (some x) ((x :: O).drop 1)) := rfl
    have ll : ([x] ++ leftF S (some x) ((x :: O).drop 1)).length ≤ 1000000 := by
      have := left_len S (some x) O
      simp at hO ⊢; omega
    rw [e1] at hl ⊢
    exact kdnxf_w2 S bot (x :: O) X w' _ _ (.next st l1) (kdnx_loop2 S bot (x :: O) X _ _ rfl ll) (by simp at hl hO ⊢; omega)

/-! ### kdro -/
abbrev kdro_H0 (S : List Int) (bot : Bool) (O : List Ent) (v : Nat) (R : List Ent) (i : Nat) : AS := ⟨tk [(0, .ptr 3 0 0), (1, .ptr 0 0 0), (2, .ptr 1 0 0), (3, .ptr 2 0 0), (4, nilS), (8, vl (ents O)), (9, vi (O.length : Int)), (10, vi (i : Int))], [Box.cells false 0 [vl (ints S)], Box.cells false 0 [vb bot], Box.cells false 0 [.rs 4 v 4 0 R.length], Box.cells false 0 [vl (ents O)], Box.cells true v (rowC (ents R))]⟩
abbrev kdro_H1 (S : List Int) (bot : Bool) (O : List Ent) (v : Nat) (R : List Ent) (i w : Nat) (Lf : List Ent) : AS := ⟨tk [(0, .ptr 3 0 0), (1, .ptr 0 0 0), (2, .ptr 1 0 0), (3, .ptr 2 0 0), (4, .rs 5 w 4 0 Lf.length), (8, vl (ents O)), (9, vi (O.length : Int)), (10, vi (i : Int))], [Box.cells false 0 [vl (ints S)], Box.cells false 0 [vb bot], Box.cells false 0 [.rs 4 v 4 0 R.length], Box.cells false 0 [vl (ents O)], Box.cells true v (rowC (ents R)), Box.cells true w (rowC (ents Lf))]⟩
abbrev kdro_X1 (S : List Int) (bot : Bool) (O : List Ent) (v : Nat) (R : List Ent) (w : Nat) (Lf : List Ent) : AS := ⟨tk [(0, .ptr 3 0 0), (1, .ptr 0 0 0), (2, .ptr 1 0 0), (3, .ptr 2 0 0), (4, .rs 5 w 4 0 Lf.length)], [Box.cells false 0 [vl (ints S)], Box.cells false 0 [vb bot], Box.cells false 0 [.rs 4 v 4 0 R.length], Box.cells false 0 [vl (ents O)], Box.cells true v (rowC (ents R)), Box.cells true w (rowC (ents Lf))]⟩
abbrev kdro_H2 (S : List Int) (bot : Bool) (O : List Ent) (v : Nat) (R : List Ent) (Lf : List Ent) : AS := ⟨tk [(0, .ptr 3 0 0), (1, .ptr 0 0 0), (2, .ptr 1 0 0), (3, .ptr 2 0 0), (4, vl (ents Lf)), (7, vi (Lf.length : Int))], [Box.cells false 0 [vl (ints S)], Box.cells false 0 [vb bot], Box.cells false 0 [.rs 4 v 4 0 R.length], Box.cells false 0 [vl (ents O)], Box.cells true v (rowC (ents R))]⟩
abbrev kdro_X2 (S : List Int) (bot : Bool) (O : List Ent) (v : Nat) (R : List Ent) (Lf : List Ent) : AS := ⟨tk [(0, .ptr 3 0 0), (3, .ptr 2 0 0), (4, vl (ents Lf))], [Box.cells false 0 [vl (ints S)], Box.cells false 0 [vb bot], Box.cells false 0 [.rs 4 v 4 0 R.length], Box.cells false 0 [vl (ents O)], Box.cells true v (rowC (ents R))]⟩
abbrev kdro_Z (S : List Int) (bot : Bool) (O : List Ent) (v : Nat) (R : List Ent) (L2 : List Ent) : AS := ⟨tk [], [Box.cells false 0 [vl (ints S)], Box.cells false 0 [vb bot], Box.cells false 0 [.rs 4 (v + 1) 4 0 ((R ++ L2).length)], Box.cells false 0 [nilS], Box.cells true (v + 1) (rowC (ents (R ++ L2)))]⟩

theorem kdro_loop1 (S : List Int) (bot : Bool) (O : List Ent) (v : Nat) (R : List Ent) (hS : S.length ≤ 1000000) (hO : O.length ≤ 1000000) : ∀ (k i w : Nat) (Lf : List Ent) (o : Ent), i + k = O.length → 1 ≤ i → O[i - 1]? = some o → Lf.length ≤ i →
    ∃ w', EvL LP ΓK24 51 5 kd1Body (kdro_H1 S bot O v R i w Lf) (.exit 0) (kdro_X1 S bot O v R w' (Lf ++ leftF S (some o) (O.drop i)))
  | 0, i, w, Lf, o, h, h1, ho, hL => by
    have e0 : O.drop i = [] := List.drop_eq_nil_of_le (by omega)
    rw [e0, leftF, List.append_nil]
    exact ⟨w, .leave (kdro1_w4 S bot O v R O.length i w Lf (decide_eq_false (by omega))) (by simp)⟩
  | k + 1, i, w, Lf, o, h, h1, ho, hL => by
    have hi : i < O.length := by omega
    have he : O[i]? = some O[i] := List.getElem?_eq_getElem hi
    have h0 : decide ((i : Int) < (O.length : Int)) = true := decide_eq_true (by omega)
    have c0 : ((i : Int) == (0 : Int)) = false := by simp; omega
    have hw : IntKind.i64.wrap ((i : Int) + 1) = (i : Int) + 1 := wrapN (by omega) (by omega)
    have ho' : O[Int.toNat ((i : Int) - 1)]? = some o := by rw [show Int.toNat ((i : Int) - 1) = i - 1 by omega]; exact ho
    rw [List.drop_eq_getElem_cons hi, leftF]
    by_cases hq : S.any (between O[i] o) = true
    · obtain ⟨w', ih⟩ := kdro_loop1 S bot O v R hS hO k (i + 1) (w + 1) (Lf ++ [O[i]]) O[i] (by omega) (by omega) he (by simp; omega)
      rw [List.append_assoc, List.singleton_append] at ih
      rw [if_pos (show keepB S (some o) O[i] = true from hq)]
      exact ⟨w', .next (kdro1_w2 S bot O v R O.length i w Lf O[i] o h0 (by omega) he c0 hS ⟨by omega, by omega⟩ ho' hq (by simp; omega) hw) ih⟩
    · obtain ⟨w', ih⟩ := kdro_loop1 S bot O v R hS hO k (i + 1) w Lf O[i] (by omega) (by omega) he (by omega)
      rw [if_neg (show ¬ keepB S (some o) O[i] = true from hq)]
      exact ⟨w', .next (kdro1_w3 S bot O v R O.length i w Lf O[i] o h0 (by omega) he c0 hS ⟨by omega, by omega⟩ ho' (bfalse hq) hw) ih⟩

theorem kdro_loop2 (S : List Int) (bot : Bool) (O : List Ent) (v : Nat) (R : List Ent) : ∀ (k : Nat) (L : List Ent), L.length = k → k ≤ 1000000 → EvL LP ΓK24 51 5 kd2Body (kdro_H2 S bot O v R L) (.exit 2) (kdro_X2 S bot O v R (stripL bot L))
  | 0, L, h, _ => by
    have : L = [] := List.eq_nil_of_length_eq_zero h
    subst this
    by_cases hb : bot = true
    · have e : stripL bot [] = [] := by unfold stripL; rw [if_pos hb]; rfl
      rw [e]
      exact .leave (kdro2_w3 S bot O v R [] 0 hb (decide_eq_false (by omega))) (by simp)
    · rw [strip_off [] hb]
      exact .leave (kdro2_w4 S bot O v R [] 0 (bfalse hb)) (by simp)
  | k + 1, L, h, hk => by
    by_cases hb : bot = true
    · have hlt : k < L.length := by omega
      have he : L[k]? = some L[k] := List.getElem?_eq_getElem hlt
      have hsp : L = L.take k ++ [L[k]] := by
        have := List.take_succ_eq_append_getElem hlt
        rw [show k + 1 = L.length by omega, List.take_length] at this
        exact this
      have hn : Int.toNat ((L.length : Int) - 1) = k := by omega
      have hw : IntKind.i64.wrap ((L.length : Int) - 1) = (L.length : Int) - 1 := wrapN (by omega) (by omega)
      have he' : L[Int.toNat ((L.length : Int) - 1)]? = some L[k] := by rw [hn]; exact he
      by_cases hd : L[k].del = true
      · have ih := kdro_loop2 S bot O v R k (L.take k) (by simp; omega) (by omega)
        have hs : stripL bot L = stripL bot (L.take k) := by
          have := strip_del (L.take k) (e := L[k]) hb hd
          rw [← hsp] at this
          exact this
        rw [hs]
        have step := kdro2_w1 S bot O v R L L.length L[k] hb (decide_eq_true (by omega)) hw (by omega) he' hd ⟨by omega, by omega⟩
        rw [hn] at step
        exact .next step ih
      · have hs : stripL bot L = L := by
          have := strip_keep (bot := bot) (L.take k) (e := L[k]) (bfalse hd)
          rw [← hsp] at this
          exact this
        rw [hs]
        exact .leave (kdro2_w2 S bot O v R L L.length L[k] hb (decide_eq_true (by omega)) hw (by omega) he' (bfalse hd)) (by simp)
    · rw [strip_off L hb]
      exact .leave (kdro2_w4 S bot O v R L L.length (bfalse hb)) (by simp)

theorem kdro_run (S : List Int) (bot : Bool) (O : List Ent) (v : Nat) (R : List Ent) (hS : S.length ≤ 1000000) (hO : O.length ≤ 1000000) (hR : R.length ≤ 1000000) : EvC LP ΓK24 51 5 (bodyOf Try.f23) ⟨tk [(0, .ptr 3 0 0), (1, .ptr 0 0 0), (2, .ptr 1 0 0), (3, .ptr 2 0 0)], [Box.cells false 0 [vl (ints S)], Box.cells false 0 [vb bot], Box.cells false 0 [.rs 4 v 4 0 R.length], Box.cells false 0 [vl (ents O)], Box.cells true v (rowC (ents R))]⟩ .normal (kdro_Z S bot O v R (doneL S bot O)) := by
  have hl : (doneL S bot O).length ≤ O.length := Nat.le_trans (strip_len _ _) (left_len S none O)
  cases O with
  | nil =>
    have e1 : doneL S bot [] = stripL bot [] := rfl
    rw [e1] at hl ⊢
    have hz : (stripL bot ([] : List Ent)).length ≤ 0 := hl
    have hbd : ((R ++ stripL bot ([] : List Ent)).length : Int) ≤ 1000000000 := by
      have h9 : (R ++ stripL bot ([] : List Ent)).length ≤ R.length + (stripL bot ([] : List Ent)).length := by simp
      omega
    exact kdrof_w1 S bot [] v R _ (.leave (kdro0_w4 S bot [] v R 0 0 rfl) (by simp)) (kdro_loop2 S bot [] v R 0 [] rfl (by omega)) hbd
  | cons x O =>
    have st := kdro0_w1 S bot (x :: O) v R (O.length + 1 : Nat) 0 x (decide_eq_true (by omega)) (by omega) rfl rfl (by simp) (wrapN (by omega) (by omega))
    obtain ⟨w', l1⟩ := kdro_loop1 S bot (x :: O) v R hS hO O.length 1 0 [x] x (by simp; omega) (by omega) rfl (by simp)
    have e1 : doneL S bot (x :: O) = stripL bot ([x] ++ leftF S (some x) ((x :: O).drop 1)) := rfl
    have ll : ([x] ++ leftF S (some x) ((x :: O).drop 1)).length ≤ 1000000 := by
      have := left_len S (some x) O
      simp at hO ⊢; omega
    rw [e1] at hl ⊢
    exact kdrof_w2 S bot (x :: O) v R w' _ _ (.next st l1) (kdro_loop2 S bot (x :: O) v R _ _ rfl ll) (by simp at hl hO ⊢; omega)

/-! ### kdrx -/
abbrev kdrx_H0 (S : List Int) (bot : Bool) (O : List Ent) (v : Nat) (R : List Ent) (X : Ent) (i : Nat) : AS := ⟨tk [(0, .ptr 3 0 0), (1, .ptr 0 0 0), (2, .ptr 1 0 0), (3, .ptr 2 0 0), (4, nilS), (8, vl (ents O)), (9, vi (O.length : Int)), (10, vi (i : Int))], [Box.cells false 0 [vl (ints S)], Box.cells false 0 [vb bot], Box.cells false 0 [.rs 4 v 4 0 R.length], Box.cells false 0 [vl (ents O)], Box.cells true v (rowC (ents R)), Box.cells false 0 [vs X.key, vn .u64 X.seq, vb X.del, vs X.val]]⟩
abbrev kdrx_H1 (S : List Int) (bot : Bool) (O : List Ent) (v : Nat) (R : List Ent) (X : Ent) (i w : Nat) (Lf : List Ent) : AS := ⟨tk [(0, .ptr 3 0 0), (1, .ptr 0 0 0), (2, .ptr 1 0 0), (3, .ptr 2 0 0), (4, .rs 6 w 4 0 Lf.length), (8, vl (ents O)), (9, vi (O.length : Int)), (10, vi (i : Int))], [Box.cells false 0 [vl (ints S)], Box.cells false 0 [vb bot], Box.cells false 0 [.rs 4 v 4 0 R.length], Box.cells false 0 [vl (ents O)], Box.cells true v (rowC (ents R)), Box.cells false 0 [vs X.key, vn .u64 X.seq, vb X.del, vs X.val], Box.cells true w (rowC (ents Lf))]⟩
abbrev kdrx_X1 (S : List Int) (bot : Bool) (O : List Ent) (v : Nat) (R : List Ent) (X : Ent) (w : Nat) (Lf : List Ent) : AS := ⟨tk [(0, .ptr 3 0 0), (1, .ptr 0 0 0), (2, .ptr 1 0 0), (3, .ptr 2 0 0), (4, .rs 6 w 4 0 Lf.length)], [Box.cells false 0 [vl (ints S)], Box.cells false 0 [vb bot], Box.cells false 0 [.rs 4 v 4 0 R.length], Box.cells false 0 [vl (ents O)], Box.cells true v (rowC (ents R)), Box.cells false 0 [vs X.key, vn .u64 X.seq, vb X.del, vs X.val], Box.cells true w (rowC (ents Lf))]⟩
abbrev kdrx_H2 (S : List Int) (bot : Bool) (O : List Ent) (v : Nat) (R : List Ent) (X : Ent) (Lf : List Ent) : AS := ⟨tk [(0, .ptr 3 0 0), (1, .ptr 0 0 0), (2, .ptr 1 0 0), (3, .ptr 2 0 0), (4, vl (ents Lf)), (7, vi (Lf.length : Int))], [Box.cells false 0 [vl (ints S)], Box.cells false 0 [vb bot], Box.cells false 0 [.rs 4 v 4 0 R.length], Box.cells false 0 [vl (ents O)], Box.cells true v (rowC (ents R)), Box.cells false 0 [vs X.key, vn .u64 X.seq, vb X.del, vs X.val]]⟩
abbrev kdrx_X2 (S : List Int) (bot : Bool) (O : List Ent) (v : Nat) (R : List Ent) (X : Ent) (Lf : List Ent) : AS := ⟨tk [(0, .ptr 3 0 0), (3, .ptr 2 0 0), (4, vl (ents Lf))], [Box.cells false 0 [vl (ints S)], Box.cells false 0 [vb bot], Box.cells false 0 [.rs 4 v 4 0 R.length], Box.cells false 0 [vl (ents O)], Box.cells true v (rowC (ents R)), Box.cells false 0 [vs X.key, vn .u64 X.seq, vb X.del, vs X.val]]⟩
abbrev kdrx_Z (S : List Int) (bot : Bool) (O : List Ent) (v : Nat) (R : List Ent) (X : Ent) (L2 : List Ent) : AS := ⟨tk [], [Box.cells false 0 [vl (ints S)], Box.cells false 0 [vb bot], Box.cells false 0 [.rs 4 (v + 1) 4 0 ((R ++ L2).length)], Box.cells false 0 [nilS], Box.cells true (v + 1) (rowC (ents (R ++ L2))), Box.cells false 0 [vs X.key, vn .u64 X.seq, vb X.del, vs X.val]]⟩

theorem kdrx_loop1 (S : List Int) (bot : Bool) (O : List Ent) (v : Nat) (R : List Ent) (X : Ent) (hS : S.length ≤ 1000000) (hO : O.length ≤ 1000000) : ∀ (k i w : Nat) (Lf : List Ent) (o : Ent), i + k = O.length → 1 ≤ i → O[i - 1]? = some o → Lf.length ≤ i →
    ∃ w', EvL LP ΓK24 51 6 kd1Body (kdrx_H1 S bot O v R X i w Lf) (.exit 0) (kdrx_X1 S bot O v R X w' (Lf ++ leftF S (some o) (O.drop i)))
  | 0, i, w, Lf, o, h, h1, ho, hL => by
    have e0 : O.drop i = [] := List.drop_eq_nil_of_le (by omega)
    rw [e0, leftF, List.append_nil]
    exact ⟨w, .leave (kdrx1_w4 S bot O v R X O.length i w Lf (decide_eq_false (by omega))) (by simp)⟩
  | k + 1, i, w, Lf, o, h, h1, ho, hL => by
    have hi : i < O.length := by omega
    have he : O[i]? = some O[i] := List.getElem?_eq_getElem hi
    have h0 : decide ((i : Int) < (O.length : Int)) = true := decide_eq_true (by omega)
    have c0 : ((i : Int) == (0 : Int)) = false := by simp; omega
    have hw : IntKind.i64.wrap ((i : Int) + 1) = (i : Int) + 1 := wrapN (by omega) (by omega)
    have ho' : O[Int.toNat ((i : Int) - 1)]? = some o := by rw [show Int.toNat ((i : Int) - 1) = i - 1 by omega]; exact ho
    rw [List.drop_eq_getElem_cons hi, leftF]
    by_cases hq : S.any (between O[i] o) = true
    · obtain ⟨w', ih⟩ := kdrx_loop1 S bot O v R X hS hO k (i + 1) (w + 1) (Lf ++ [O[i]]) O[i] (by omega) (by omega) he (by simp; omega)
      rw [List.append_assoc, List.singleton_append] at ih
      rw [if_pos (show keepB S (some o) O[i] = true from hq)]
      exact ⟨w', .next (kdrx1_w2 S bot O v R X O.length i w Lf O[i] o h0 (by omega) he c0 hS ⟨by omega, by omega⟩ ho' hq (by simp; omega) hw) ih⟩
    · obtain ⟨w', ih⟩ := kdrx_loop1 S bot O v R X hS hO k (i + 1) w Lf O[i] (by omega) (by omega) he (by omega)
      rw [if_neg (show ¬ keepB S (some o) O[i] = true from hq)]
      exact ⟨w', .next (kdrx1_w3 S bot O v R X O.length i w Lf O[i] o h0 (by omega) he c0 hS ⟨by omega, by omega⟩ ho' (bfalse hq) hw) ih⟩

theorem kdrx_loop2 (S : List Int) (bot : Bool) (O : List Ent) (v : Nat) (R : List Ent) (X : Ent) : ∀ (k : Nat) (L : List Ent), L.length = k → k ≤ 1000000 → EvL LP ΓK24 51 6 kd2Body (kdrx_H2 S bot O v R X L) (.exit 2) (kdrx_X2 S bot O v R X (stripL bot L))
  | 0, L, h, _ => by
    have : L = [] := List.eq_nil_of_length_eq_zero h
    subst this
    by_cases hb : bot = true
    · have e : stripL bot [] = [] := by unfold stripL; rw [if_pos hb]; rfl
      rw [e]
      exact .leave (kdrx2_w3 S bot O v R X [] 0 hb (decide_eq_false (by omega))) (by simp)
    · rw [strip_off [] hb]
      exact .leave (kdrx2_w4 S bot O v R X [] 0 (bfalse hb)) (by simp)
  | k + 1, L, h, hk => by
    by_cases hb : bot = true
    · have hlt : k < L.length := by omega
      have he : L[k]? = some L[k] := List.getElem?_eq_getElem hlt
      have hsp : L = L.take k ++ [L[k]] := by
        have := List.take_succ_eq_append_getElem hlt
        rw [show k + 1 = L.length by omega, List.take_length] at this
        exact this
      have hn : Int.toNat ((L.length : Int) - 1) = k := by omega
      have hw : IntKind.i64.wrap ((L.length : Int) - 1) = (L.length : Int) - 1 := wrapN (by omega) (by omega)
      have he' : L[Int.toNat ((L.length : Int) - 1)]? = some L[k] := by rw [hn]; exact he
      by_cases hd : L[k].del = true
      · have ih := kdrx_loop2 S bot O v R X k (L.take k) (by simp; omega) (by omega)
        have hs : stripL bot L = stripL bot (L.take k) := by
          have := strip_del (L.take k) (e := L[k]) hb hd
          rw [← hsp] at this
          exact this
        rw [hs]
        have step := kdrx2_w1 S bot O v R X L L.length L[k] hb (decide_eq_true (by omega)) hw (by omega) he' hd ⟨by omega, by omega⟩
        rw [hn] at step
        exact .next step ih
      · have hs : stripL bot L = L := by
          have := strip_keep (bot := bot) (L.take k) (e := L[k]) (bfalse hd)
          rw [← hsp] at this
          exact this
        rw [hs]
        exact .leave (kdrx2_w2 S bot O v R X L L.length L[k] hb (decide_eq_true (by omega)) hw (by omega) he' (bfalse hd)) (by simp)
    · rw [strip_off L hb]
      exact .leave (kdrx2_w4 S bot O v R X L L.length (bfalse hb)) (by simp)

theorem kdrx_run (S : List Int) (bot : Bool) (O : List Ent) (v : Nat) (R : List Ent) (X : Ent) (hS : S.length ≤ 1000000) (hO : O.length ≤ 1000000) (hR : R.length ≤ 1000000) : EvC LP ΓK24 51 6 (bodyOf Try.f23) ⟨tk [(0, .ptr 3 0 0), (1, .ptr 0 0 0), (2, .ptr 1 0 0), (3, .ptr 2 0 0)], [Box.cells false 0 [vl (ints S)], Box.cells false 0 [vb bot], Box.cells false 0 [.rs 4 v 4 0 R.length], Box.cells false 0 [vl (ents O)], Box.cells true v (rowC (ents R)), Box.cells false 0 [vs X.key, vn .u64 X.seq, vb X.del, vs X.val]]⟩ .normal (kdrx_Z S bot O v R X (doneL S bot O)) := by
  have hl : (doneL S bot O).length ≤ O.length := Nat.le_trans (strip_len _ _) (left_len S none O)
  cases O with
  | nil =>
    have e1 : doneL S bot [] = stripL bot [] := rfl
    rw [e1] at hl ⊢
    have hz : (stripL bot ([] : List Ent)).length ≤ 0 := hl
    have hbd : ((R ++ stripL bot ([] : List Ent)).length : Int) ≤ 1000000000 := by
      have h9 : (R ++ stripL bot ([] : List Ent)).length ≤ R.length + (stripL bot ([] : List Ent)).length := by simp
      omega
    exact kdrxf_w1 S bot [] v R X _ (.leave (kdrx0_w4 S bot [] v R X 0 0 rfl) (by simp)) (kdrx_loop2 S bot [] v R X 0 [] rfl (by omega)) hbd
  | cons x O =>
    have st := kdrx0_w1 S bot (x :: O) v R X (O.length + 1 : Nat) 0 x (decide_eq_true (by omega)) (by omega) rfl rfl (by simp) (wrapN (by omega) (by omega))
    obtain ⟨w', l1⟩ := kdrx_loop1 S bot (x :: O) v R X hS hO O.length 1 0 [x] x (by simp; omega) (by omega) rfl (by simp)
    have e1 : doneL S bot (x :: O) = stripL bot ([x] ++ leftF S (some x) ((x :: O).drop 1)) := rfl
    have ll : ([x] ++ leftF S (some x) ((x :: O).drop 1)).length ≤ 1000000 := by
      have := left_len S (some x) O
      simp at hO ⊢; omega
    rw [e1] at hl ⊢
    exact kdrxf_w2 S bot (x :: O) v R X w' _ _ (.next st l1) (kdrx_loop2 S bot (x :: O) v R X _ _ rfl ll) (by simp at hl hO ⊢; omega)


end Go.Ax
