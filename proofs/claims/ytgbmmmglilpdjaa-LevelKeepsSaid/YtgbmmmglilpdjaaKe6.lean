/- The law of LevelKeeps answers true: its loops. -/
import Derived.Test.YtgbmmmglilpdjaaKe3
import Derived.Test.YtgbmmmglilpdjaaKe4
set_option linter.unusedVariables false
set_option linter.unusedSimpArgs false
namespace Go.Ax
open Go.Proofs Go.RowKit
set_option maxRecDepth 100000

theorem ent_eq {a b : Ent} : ((a.key : ByteArray).toList == (b.key : ByteArray).toList && (((a.seq : Int) == (b.seq : Int)) && ((a.del == b.del) && (((a.val : ByteArray).toList == (b.val : ByteArray).toList) && true)))) = true ↔ a = b := by
  constructor
  · intro h
    simp only [Bool.and_eq_true, and_true, beq_iff_eq] at h
    obtain ⟨h1, h2, h3, h4⟩ := h
    cases a; cases b
    simp only at h1 h2 h3 h4
    rw [ByteArray.toList_eq, ByteArray.toList_eq] at h1 h4
    simp only [Ent.mk.injEq]
    refine ⟨?_, h2, h3, ?_⟩
    · exact ByteArray.ext (Array.toList_inj.mp h1)
    · exact ByteArray.ext (Array.toList_inj.mp h4)
  · rintro rfl; simp
theorem ent_ne {a b : Ent} (h : a ≠ b) : ((a.key : ByteArray).toList == (b.key : ByteArray).toList && (((a.seq : Int) == (b.seq : Int)) && ((a.del == b.del) && (((a.val : ByteArray).toList == (b.val : ByteArray).toList) && true)))) = false := by
  rw [Bool.eq_false_iff]
  exact fun h' => h (ent_eq.mp h')

theorem T3_l2 (es us : List Ent) (S : List Int) (bot : Bool) (hA : (orderL es).length ≤ 1000000) : ∀ (suf pre : List Ent), orderL es = pre ++ suf →
    Rounds (T3_l2_e es us S bot) T3_l2_x (T3_l2_x' es us S bot) (fun s => (T3_l2_b es us S bot s).wp) (pre.length : Int) (.inr ())
  | [], pre, h => by
    have e : (orderL es).length = pre.length := by rw [h]; simp
    refine .done' (by simp [T3_l2_x']) ?_
    unfold T3_l2_b
    exact wp_sp (fun h => by have h : decide ((pre.length : Int) < ((orderL es).length : Int)) = true := h; have := of_decide_eq_true h; omega) (fun _ => wp_leaf rfl ⟨rfl, rfl⟩)
  | m :: suf, pre, h => by
    have e : (orderL es).length = pre.length + (suf.length + 1) := by rw [h]; simp
    have hm : (orderL es)[Int.toNat (pre.length : Int)]? = some m := by rw [h]; simp
    have ih := T3_l2 es us S bot hA suf (pre ++ [m]) (by rw [h]; simp)
    have hlen : ((pre ++ [m]).length : Int) = (pre.length : Int) + 1 := by simp
    rw [hlen] at ih
    refine .next ?_ ih
    unfold T3_l2_b
    exact wp_sp (fun _ => wp_elem m (by omega) hm (wp_elem m (by omega) hm (wp_sp (fun h => by rw [ent_eq.mpr rfl] at h; cases h) (fun _ => wp_i64 (by omega) (wp_leaf rfl ⟨rfl, rfl⟩))))) (fun h => by have h : decide ((pre.length : Int) < ((orderL es).length : Int)) = false := h; have := of_decide_eq_false h; omega)

theorem T3_l4 (es us : List Ent) (S : List Int) (bot : Bool) (s3 : Int × Int) (e3 : Ent) (hA : (orderL es).length ≤ 1000000) {R : List Ent} : ∀ (suf pre : List Ent), orderL es = pre ++ suf → (e3 :: R).Sublist suf →
    ∃ (k' : Nat), Rounds (T3_l4_e es us S bot s3 e3) (T3_l4_x es us S bot s3) noX (fun s => (T3_l4_b es us S bot s3 e3 s).wp) (pre.length : Int) (.inl (k' : Int)) ∧ k' < (orderL es).length ∧ R.Sublist ((orderL es).drop (k' + 1))
  | [], pre, h, hs => by cases hs
  | m :: suf, pre, h, hs => by
    have e : (orderL es).length = pre.length + (suf.length + 1) := by rw [h]; simp
    have hm : (orderL es)[Int.toNat (pre.length : Int)]? = some m := by rw [h]; simp
    by_cases hme : m = e3
    · subst hme
      refine ⟨pre.length, .done (by simp [T3_l4_x]) ?_, by omega, ?_⟩
      · unfold T3_l4_b
        exact wp_len (wp_sp (fun _ => wp_elem m (by omega) hm (wp_sp (fun h => by rw [ent_eq.mpr rfl] at h; cases h) (fun _ => wp_leaf rfl ⟨rfl, rfl⟩))) (fun h => by have := of_decide_eq_false h; omega))
      · rw [h, show pre ++ m :: suf = (pre ++ [m]) ++ suf by simp, List.drop_left' (by simp)]
        exact List.cons_sublist_cons.mp hs
    · have hs2 : (e3 :: R).Sublist suf := by
        cases hs with
        | cons _ h => exact h
        | cons_cons _ h => exact absurd rfl hme
      obtain ⟨k', q1, q2, q3⟩ := T3_l4 es us S bot s3 e3 hA suf (pre ++ [m]) (by rw [h]; simp) hs2
      have hlen : ((pre ++ [m]).length : Int) = (pre.length : Int) + 1 := by simp
      rw [hlen] at q1
      refine ⟨k', .next ?_ q1, q2, q3⟩
      unfold T3_l4_b
      exact wp_len (wp_sp (fun _ => wp_elem m (by omega) hm (wp_sp (fun _ => wp_i64 (by omega) (wp_leaf rfl ⟨rfl, rfl⟩)) (fun h => by rw [ent_ne hme] at h; cases h))) (fun h => by have := of_decide_eq_false h; omega))

theorem T3_l3 (es us : List Ent) (S : List Int) (bot : Bool) (hA : (orderL es).length ≤ 1000000) (hK : (keepL (orderL es) S bot).length ≤ 1000000) : ∀ (suf pre : List Ent) (k : Nat), keepL (orderL es) S bot = pre ++ suf → k ≤ (orderL es).length → suf.Sublist ((orderL es).drop k) →
    Rounds (T3_l3_e es us S bot) T3_l3_x (T3_l3_x' es us S bot) (fun s => (T3_l3_b es us S bot s).wp) ((k : Int), (pre.length : Int)) (.inr ())
  | [], pre, k, h, hk, hs => by
    have e : (keepL (orderL es) S bot).length = pre.length := by rw [h]; simp
    refine .done' (by simp [T3_l3_x']) ?_
    unfold T3_l3_b
    exact wp_sp (fun h => by have h : decide ((pre.length : Int) < ((keepL (orderL es) S bot).length : Int)) = true := h; have := of_decide_eq_true h; omega) (fun _ => wp_leaf rfl ⟨rfl, rfl⟩)
  | m :: suf, pre, k, h, hk, hs => by
    have e : (keepL (orderL es) S bot).length = pre.length + (suf.length + 1) := by rw [h]; simp
    have hm : (keepL (orderL es) S bot)[Int.toNat (pre.length : Int)]? = some m := by rw [h]; simp
    obtain ⟨k', q1, q2, q3⟩ := T3_l4 es us S bot ((k : Int), (pre.length : Int)) m hA ((orderL es).drop k) ((orderL es).take k) (List.take_append_drop k _).symm hs
    rw [List.length_take, Nat.min_eq_left hk] at q1
    have ih := T3_l3 es us S bot hA hK suf (pre ++ [m]) (k' + 1) (by rw [h]; simp) (by omega) q3
    have hlen : ((pre ++ [m]).length : Int) = (pre.length : Int) + 1 := by simp
    rw [hlen] at ih
    refine .next ?_ ih
    unfold T3_l3_b
    exact wp_sp (fun _ => wp_elem m (by dsimp only; omega) hm (wp_loop _ rfl q1 (wp_len (wp_sp (fun h => by have h : ((k' : Int) == ((orderL es).length : Int)) = true := h; simp at h; omega) (fun _ => wp_i64 (by omega) (wp_i64 (by dsimp only; omega) (wp_leaf rfl ⟨rfl, rfl⟩))))))) (fun h => by have h : decide ((pre.length : Int) < ((keepL (orderL es) S bot).length : Int)) = false := h; have := of_decide_eq_false h; omega)

theorem T3_l11 (es us : List Ent) (S : List Int) (bot : Bool) (s10 : List Ent × Int) (e7 : Ent) (hA : (orderL es).length ≤ 1000000) : ∀ (suf pre : List Ent) (low : Int), orderL es = pre ++ suf →
    ∃ x, Rounds (T3_l11_e es us S bot s10 e7) (T3_l11_x es us S bot s10 e7) noX (fun s => (T3_l11_b es us S bot s10 e7 s).wp) ((pre.length : Int), low) (.inl x)
  | [], pre, low, h => by
    have e : (orderL es).length = pre.length := by rw [h]; simp
    refine ⟨low, .done (by simp [T3_l11_x]) ?_⟩
    unfold T3_l11_b
    exact wp_sp (fun h => by have := of_decide_eq_true h; dsimp only at this; omega) (fun _ => wp_leaf rfl ⟨rfl, rfl⟩)
  | m :: suf, pre, low, h => by
    have e : (orderL es).length = pre.length + (suf.length + 1) := by rw [h]; simp
    have hm : (orderL es)[Int.toNat (pre.length : Int)]? = some m := by rw [h]; simp
    obtain ⟨x, ih⟩ := T3_l11 es us S bot s10 e7 hA suf (pre ++ [m]) (if m.key.toList == e7.key.toList then if m.seq < low then m.seq else low else low) (by rw [h]; simp)
    have hlen : ((pre ++ [m]).length : Int) = (pre.length : Int) + 1 := by simp
    rw [hlen] at ih
    refine ⟨x, .next ?_ ih⟩
    unfold T3_l11_b
    dsimp only
    refine wp_sp (fun _ => wp_elem m (by omega) hm (wp_sp (fun a => ?_) (fun a => ?_))) (fun h => by have := of_decide_eq_false h; omega)
    · rw [if_pos a]
      refine wp_sp (fun b => ?_) (fun b => ?_)
      · rw [if_pos (of_decide_eq_true b)]
        exact wp_i64 (by omega) (wp_leaf rfl ⟨rfl, rfl⟩)
      · rw [if_neg (of_decide_eq_false b)]
        exact wp_i64 (by omega) (wp_leaf rfl ⟨rfl, rfl⟩)
    · rw [if_neg (by rw [a]; simp)]
      exact wp_i64 (by omega) (wp_leaf rfl ⟨rfl, rfl⟩)

theorem T3_l10 (es us : List Ent) (S : List Int) (bot : Bool) (hA : (orderL es).length ≤ 1000000) (hU : (orderL us).length ≤ 1000000) : ∀ (suf pre O : List Ent), orderL us = pre ++ suf → O.length ≤ pre.length →
    ∃ O', Rounds (T3_l10_e es us S bot) (T3_l10_x es S bot) noX (fun s => (T3_l10_b es us S bot s).wp) (O, (pre.length : Int)) (.inl O') ∧ O'.length ≤ (orderL us).length
  | [], pre, O, h, hO => by
    have e : (orderL us).length = pre.length := by rw [h]; simp
    refine ⟨O, .done (by simp [T3_l10_x]) ?_, by omega⟩
    unfold T3_l10_b
    exact wp_sp (fun h => by have := of_decide_eq_true h; dsimp only at this; omega) (fun _ => wp_leaf rfl ⟨rfl, rfl⟩)
  | m :: suf, pre, O, h, hO => by
    have e : (orderL us).length = pre.length + (suf.length + 1) := by rw [h]; simp
    have hm : (orderL us)[Int.toNat (pre.length : Int)]? = some m := by rw [h]; simp
    obtain ⟨x, l⟩ := T3_l11 es us S bot (O, (pre.length : Int)) m hA (orderL es) [] 72057594037927935 rfl
    have hlen : ((pre ++ [m]).length : Int) = (pre.length : Int) + 1 := by simp
    by_cases hx : x > 0
    · obtain ⟨O', ih, hO'⟩ := T3_l10 es us S bot hA hU suf (pre ++ [m]) (O ++ [⟨m.key, 0, m.del, m.val⟩]) (by rw [h]; simp) (by simp; omega)
      rw [hlen] at ih
      refine ⟨O', .next ?_ ih, hO'⟩
      unfold T3_l10_b
      dsimp only
      exact wp_sp (fun _ => wp_elem m (by omega) hm (wp_len (wp_loop _ rfl l (wp_sp (fun _ => wp_app ⟨rfl, rfl⟩ rfl (by simp; omega) (wp_i64 (by omega) (wp_leaf rfl ⟨rfl, rfl⟩))) (fun h => by have := of_decide_eq_false h; omega))))) (fun h => by have := of_decide_eq_false h; omega)
    · obtain ⟨O', ih, hO'⟩ := T3_l10 es us S bot hA hU suf (pre ++ [m]) O (by rw [h]; simp) (by simp; omega)
      rw [hlen] at ih
      refine ⟨O', .next ?_ ih, hO'⟩
      unfold T3_l10_b
      dsimp only
      exact wp_sp (fun _ => wp_elem m (by omega) hm (wp_len (wp_loop _ rfl l (wp_sp (fun h => by have := of_decide_eq_true h; omega) (fun _ => wp_i64 (by omega) (wp_leaf rfl ⟨rfl, rfl⟩)))))) (fun h => by have := of_decide_eq_false h; omega)

end Go.Ax

namespace Go.Ax
open Go.Proofs Go.RowKit
set_option maxRecDepth 100000

theorem L12a {L : List Ent} {key : ByteArray} {sq : Int} (hL : L.length ≤ 1000000) (b0 b1 b2 : Box) : liftR R12 [.rs 3 2 4 0 L.length, vs key, vn .u64 sq] [b0, b1, b2, entE.bx 2 L] (.tup [entE.av (seenL L key sq).1, vb (seenL L key sq).2]) [b0, b1, b2, entE.bx 2 L] :=
  ⟨_, _, _, _, ⟨L, key, sq, hL, rfl, rfl, rfl, rfl⟩, ⟨[3], [2], [entE.bx 2 L], [entE.bx 2 L], [], rfl, rfl, rfl, rfl, ⟨.row true 0 _, trivial⟩, ⟨.row true 0 _, trivial⟩, rfl, rfl, rfl⟩⟩
theorem L12b {L : List Ent} {key : ByteArray} {sq : Int} (hL : L.length ≤ 1000000) (b0 b1 b2 b4 : Box) : liftR R12 [.rs 3 2 4 0 L.length, vs key, vn .u64 sq] [b0, b1, b2, entE.bx 2 L, b4] (.tup [entE.av (seenL L key sq).1, vb (seenL L key sq).2]) [b0, b1, b2, entE.bx 2 L, b4] :=
  ⟨_, _, _, _, ⟨L, key, sq, hL, rfl, rfl, rfl, rfl⟩, ⟨[3], [2], [entE.bx 2 L], [entE.bx 2 L], [], rfl, rfl, rfl, rfl, ⟨.row true 0 _, trivial⟩, ⟨.row true 0 _, trivial⟩, rfl, rfl, rfl⟩⟩
theorem L12c {L : List Ent} {key : ByteArray} {sq : Int} (hL : L.length ≤ 1000000) (b0 b1 b2 b3 : Box) : liftR R12 [.rs 4 2 4 0 L.length, vs key, vn .u64 sq] [b0, b1, b2, b3, entE.bx 2 L] (.tup [entE.av (seenL L key sq).1, vb (seenL L key sq).2]) [b0, b1, b2, b3, entE.bx 2 L] :=
  ⟨_, _, _, _, ⟨L, key, sq, hL, rfl, rfl, rfl, rfl⟩, ⟨[4], [2], [entE.bx 2 L], [entE.bx 2 L], [], rfl, rfl, rfl, rfl, ⟨.row true 0 _, trivial⟩, ⟨.row true 0 _, trivial⟩, rfl, rfl, rfl⟩⟩

theorem L12d {L : List Ent} {key : ByteArray} {sq : Int} (hL : L.length ≤ 1000000) (b0 b1 b2 b3 b5 : Box) : liftR R12 [.rs 4 2 4 0 L.length, vs key, vn .u64 sq] [b0, b1, b2, b3, entE.bx 2 L, b5] (.tup [entE.av (seenL L key sq).1, vb (seenL L key sq).2]) [b0, b1, b2, b3, entE.bx 2 L, b5] :=
  ⟨_, _, _, _, ⟨L, key, sq, hL, rfl, rfl, rfl, rfl⟩, ⟨[4], [2], [entE.bx 2 L], [entE.bx 2 L], [], rfl, rfl, rfl, rfl, ⟨.row true 0 _, trivial⟩, ⟨.row true 0 _, trivial⟩, rfl, rfl, rfl⟩⟩
theorem L12e {L : List Ent} {key : ByteArray} {sq : Int} (hL : L.length ≤ 1000000) (b0 b1 b2 b3 b4 : Box) : liftR R12 [.rs 5 2 4 0 L.length, vs key, vn .u64 sq] [b0, b1, b2, b3, b4, entE.bx 2 L] (.tup [entE.av (seenL L key sq).1, vb (seenL L key sq).2]) [b0, b1, b2, b3, b4, entE.bx 2 L] :=
  ⟨_, _, _, _, ⟨L, key, sq, hL, rfl, rfl, rfl, rfl⟩, ⟨[5], [2], [entE.bx 2 L], [entE.bx 2 L], [], rfl, rfl, rfl, rfl, ⟨.row true 0 _, trivial⟩, ⟨.row true 0 _, trivial⟩, rfl, rfl, rfl⟩⟩

theorem T3_j9_wp (es : List Ent) (S : List Int) (bot : Bool) (O : List Ent) (s6 e5 : Int) (i : Nat) (e6 : Ent) (j8 : Bool) (hi : i ≤ 1000000)
    (hk : seenL (keepL (orderL es) S bot ++ O) e6.key e5 = seenL (orderL es ++ O) e6.key e5 ∨ ((seenL (keepL (orderL es) S bot ++ O) e6.key e5).2 = false ∧ (seenL (orderL es ++ O) e6.key e5).2 = false))
    (hj : (seenL (orderL es ++ O) e6.key e5).2 = j8) : (T3_j9 es S bot O s6 e5 (i : Int) e6 j8 ()).wp (fun e c => e = .normal ∧ c = T3_l7_e es S bot O s6 e5 ((i : Int) + 1)) := by
  have h2 : (j8 == (seenL (keepL (orderL es) S bot ++ O) e6.key e5).2) = true := by
    rcases hk with h | ⟨h, h'⟩
    · rw [h, hj]; simp
    · rw [h, ← hj, h']; rfl
  unfold T3_j9
  refine wp_sp (fun h => ?_) (fun _ => wp_sp (fun h8 => wp_sp (fun h => ?_) (fun _ => wp_i64 (by omega) (wp_leaf rfl ⟨rfl, rfl⟩))) (fun _ => wp_i64 (by omega) (wp_leaf rfl ⟨rfl, rfl⟩)))
  · have h : (!(j8 == (seenL (keepL (orderL es) S bot ++ O) e6.key e5).2)) = true := h
    rw [h2] at h
    cases h
  · have hs : seenL (keepL (orderL es) S bot ++ O) e6.key e5 = seenL (orderL es ++ O) e6.key e5 := hk.resolve_right (fun hh => by rw [hh.2] at hj; rw [← hj] at h8; cases h8)
    have hs1 : (seenL (([] ++ keepL ([] ++ orderL es) S bot) ++ O) e6.key e5).1 = (seenL (([] ++ orderL es) ++ O) e6.key e5).1 := congrArg Prod.fst hs
    rw [hs1, ent_eq.mpr rfl] at h
    cases h

theorem T3_j8_wp (es : List Ent) (S : List Int) (bot : Bool) (O : List Ent) (s6 e5 : Int) (i : Nat) (e6 : Ent) (j8 : Bool) (hi : i ≤ 1000000) (hA : (orderL es).length ≤ 1000) (hK : (keepL (orderL es) S bot).length ≤ 1000) (hO : O.length ≤ 900000)
    (hk : seenL (keepL (orderL es) S bot ++ O) e6.key e5 = seenL (orderL es ++ O) e6.key e5 ∨ ((seenL (keepL (orderL es) S bot ++ O) e6.key e5).2 = false ∧ (seenL (orderL es ++ O) e6.key e5).2 = false))
    (hj : (seenL (orderL es ++ O) e6.key e5).2 = j8) : (T3_j8 es S bot O s6 e5 (i : Int) e6 j8).wp (fun e c => e = .normal ∧ c = T3_l7_e es S bot O s6 e5 ((i : Int) + 1)) := by
  have h9 := T3_j9_wp es S bot O s6 e5 i e6 j8 hi hk hj
  have l1 : (([] ++ keepL ([] ++ orderL es) S bot) ++ O : List Ent).length ≤ 1000000 := by
    show (keepL (orderL es) S bot ++ O).length ≤ 1000000
    rw [List.length_append]; omega
  have l0 : (([] : List Ent) ++ keepL ([] ++ orderL es) S bot).length ≤ 1000000 := by
    show (keepL (orderL es) S bot).length ≤ 1000000
    omega
  unfold T3_j8
  repeat' first
    | refine wp_fork ?_ ?_
    | refine wp_app rfl rfl (by omega) ?_
    | refine wp_app ⟨rfl, rfl⟩ rfl (by omega) ?_
    | refine wp_callr (L12a l1 _ _ _) ?_
    | refine wp_callr (L12b l1 _ _ _ _) ?_
    | refine wp_callr (L12c l1 _ _ _ _) ?_
    | refine wp_callr (L12d l1 _ _ _ _ _) ?_
    | refine wp_callr (L12e l1 _ _ _ _ _) ?_
    | exact wp_join rfl h9
    | refine wp_sp (fun _ => ?_) (fun _ => ?_)

theorem T3_l7 (es : List Ent) (S : List Int) (bot : Bool) (O : List Ent) (s6 e5 : Int) (hA : (orderL es).length ≤ 1000) (hK : (keepL (orderL es) S bot).length ≤ 1000) (hO : O.length ≤ 900000)
    (hk : ∀ x ∈ orderL es, seenL (keepL (orderL es) S bot ++ O) x.key e5 = seenL (orderL es ++ O) x.key e5 ∨ ((seenL (keepL (orderL es) S bot ++ O) x.key e5).2 = false ∧ (seenL (orderL es ++ O) x.key e5).2 = false)) : ∀ (suf pre : List Ent), orderL es = pre ++ suf →
    Rounds (T3_l7_e es S bot O s6 e5) T3_l7_x (T3_l7_x' es S bot O s6) (fun s => (T3_l7_b es S bot O s6 e5 s).wp) (pre.length : Int) (.inr ())
  | [], pre, h => by
    have e : (orderL es).length = pre.length := by rw [h]; simp
    refine .done' (by simp [T3_l7_x']) ?_
    unfold T3_l7_b
    exact wp_sp (fun h => by have := of_decide_eq_true h; omega) (fun _ => wp_leaf rfl ⟨rfl, rfl⟩)
  | m :: suf, pre, h => by
    have e : (orderL es).length = pre.length + (suf.length + 1) := by rw [h]; simp
    have hm : (orderL es)[Int.toNat (pre.length : Int)]? = some m := by rw [h]; simp
    have hmem : m ∈ orderL es := by rw [h]; simp
    have ih := T3_l7 es S bot O s6 e5 hA hK hO hk suf (pre ++ [m]) (by rw [h]; simp)
    have hlen : ((pre ++ [m]).length : Int) = (pre.length : Int) + 1 := by simp
    rw [hlen] at ih
    refine .next ?_ ih
    have l1 : (([] ++ orderL es) ++ O : List Ent).length ≤ 1000000 := by
      show (orderL es ++ O).length ≤ 1000000
      rw [List.length_append]; omega
    have l0 : (([] : List Ent) ++ orderL es).length ≤ 1000000 := by
      show (orderL es).length ≤ 1000000
      omega
    have ht : (seenL (orderL es ++ O) m.key e5).2 = true → (T3_j8 es S bot O s6 e5 (pre.length : Int) m true).wp _ := fun hj => T3_j8_wp es S bot O s6 e5 pre.length m true (by omega) hA hK hO (hk m hmem) hj
    have hf : (seenL (orderL es ++ O) m.key e5).2 = false → (T3_j8 es S bot O s6 e5 (pre.length : Int) m false).wp _ := fun hj => T3_j8_wp es S bot O s6 e5 pre.length m false (by omega) hA hK hO (hk m hmem) hj
    unfold T3_l7_b
    refine wp_sp (fun _ => wp_elem m (by omega) hm ?_) (fun h => by have := of_decide_eq_false h; omega)
    repeat' first
      | refine wp_fork ?_ ?_
      | refine wp_app rfl rfl (by omega) ?_
      | refine wp_app ⟨rfl, rfl⟩ rfl (by omega) ?_
      | refine wp_callr (L12a l1 _ _ _) ?_
      | refine wp_callr (L12b l1 _ _ _ _) ?_
      | refine wp_callr (L12c l1 _ _ _ _) ?_
      | exact wp_sp (fun h => wp_join rfl (ht h)) (fun h => wp_join rfl (hf h))

theorem T3_l6 (es : List Ent) (S : List Int) (bot : Bool) (O : List Ent) (hA : (orderL es).length ≤ 1000) (hK : (keepL (orderL es) S bot).length ≤ 1000) (hO : O.length ≤ 900000) (hS : S.length ≤ 1000) (hb : bot = true → O = []) : ∀ (suf pre : List Int), [72057594037927935] ++ S = pre ++ suf →
    Rounds (T3_l6_e es S bot O) T3_l6_x T3_l6_x' (fun s => (T3_l6_b es S bot O s).wp) (pre.length : Int) (.inr ())
  | [], pre, h => by
    have e : ([72057594037927935] ++ S).length = pre.length := by rw [h]; simp
    refine .done' (by simp [T3_l6_x']) ?_
    unfold T3_l6_b
    exact wp_sp (fun h => by have := of_decide_eq_true h; omega) (fun _ => wp_leaf rfl ⟨rfl, rfl⟩)
  | m :: suf, pre, h => by
    have e : ([72057594037927935] ++ S).length = pre.length + (suf.length + 1) := by rw [h]; simp
    have e2 : ([72057594037927935] ++ S).length = S.length + 1 := by simp
    have hm : ([72057594037927935] ++ S)[Int.toNat (pre.length : Int)]? = some m := by rw [h]; simp
    have hmem : m ∈ [72057594037927935] ++ S := by rw [h]; simp
    have ih := T3_l6 es S bot O hA hK hO hS hb suf (pre ++ [m]) (by rw [h]; simp)
    have hlen : ((pre ++ [m]).length : Int) = (pre.length : Int) + 1 := by simp
    rw [hlen] at ih
    have ho := order_ok es
    have hs : m ∈ S ∨ ∀ y ∈ orderL es, y.seq ≤ m := by
      rcases List.mem_append.mp hmem with hh | hh
      · rw [List.mem_singleton] at hh
        exact .inr fun y hy => by rw [hh]; exact check_seq (ho.2 y hy)
      · exact .inl hh
    have l := T3_l7 es S bot O (pre.length : Int) m hA hK hO (fun x hx => keeps S bot ho.1 hx m hs O hb) (orderL es) [] rfl
    refine .next ?_ ih
    unfold T3_l6_b
    exact wp_sp (fun _ => wp_ridx (by omega) (by omega) (wp_rload m (by omega) rfl hm (wp_len (wp_loop' _ rfl l (wp_i64 (by omega) (wp_leaf rfl ⟨rfl, rfl⟩)))))) (fun h => by have := of_decide_eq_false h; omega)

theorem T3_j5_wp (es : List Ent) (S : List Int) (bot : Bool) (O : List Ent) (hA : (orderL es).length ≤ 1000) (hK : (keepL (orderL es) S bot).length ≤ 1000) (hO : O.length ≤ 900000) (hS : S.length ≤ 1000) (hb : bot = true → O = []) {K : AE → St → Prop} (h : K .ret ([(0, vb true)], [])) : (T3_j5 es S bot O).wp K := by
  unfold T3_j5
  exact wp_app rfl rfl (by simp; omega) (wp_loop' _ rfl (T3_l6 es S bot O hA hK hO hS hb _ [] rfl) (wp_leaf rfl h))

end Go.Ax
