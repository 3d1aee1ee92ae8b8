/- Trees of the level, gone through. -/
import Derived.Test.YtgbmmmglilpdjaaTl1
import Derived.Test.YtgbmmmglilpdjaaTx8
set_option linter.unusedVariables false
set_option linter.unusedSimpArgs false
namespace Go.Ax
open Go.Proofs Go.RowKit
set_option maxRecDepth 100000

def Meta.ok (m : Meta) : Bool := decide (m.num ≥ 1) && decide (m.num ≤ 1073741824) && decide (m.level ≥ 0) && decide (m.level < 6) && !(m.low.toList == (⟨#[]⟩ : ByteArray).toList) && (Op.bytesLess m.low.toList m.high.toList || (m.low.toList == m.high.toList)) && decide ((m.low.size : Int) ≤ 128) && decide ((m.high.size : Int) ≤ 128) && decide (m.size ≥ 0) && decide (m.size ≤ 67108864)

theorem T27_wp (m : Meta) {K : AE → St → Prop} (h : K .ret ([(0, vb m.ok)], [])) : (T27 m).wp K := by
  unfold Meta.ok at h
  unfold T27
  repeat' first | refine wp_leaf rfl ?_ | refine wp_sp (fun _ => ?_) (fun _ => ?_)
  all_goals (simp only [*, Bool.true_and, Bool.and_true, Bool.false_and, Bool.and_false] at h; exact h)

def lowS (a b : ByteArray) : ByteArray := if (Op.bytesLess a.toList b.toList || a.toList == b.toList) then a else b
def highS (a b : ByteArray) : ByteArray := if !(Op.bytesLess a.toList b.toList) then a else b
def spanL : List Meta → ByteArray × ByteArray
  | [] => (⟨#[]⟩, ⟨#[]⟩)
  | m :: L => L.foldl (fun p x => (lowS p.1 x.low, highS p.2 x.high)) (m.low, m.high)

theorem T28_l1 (L : List Meta) (hL : L.length ≤ 1000000) : ∀ (m i : Nat) (p : ByteArray × ByteArray), i + m = (L.drop 1).length →
    Rounds (T28_l1_e L) T28_l1_x noX (fun s => (T28_l1_b L s).wp) ((i : Int), p) (.inl (((L.drop 1).drop i).foldl (fun p x => (lowS p.1 x.low, highS p.2 x.high)) p))
  | 0, i, p, h => by
    have hi : i = (L.drop 1).length := by omega
    subst hi
    rw [List.drop_length]
    refine .done (by simp [T28_l1_x]) ?_
    unfold T28_l1_b
    refine wp_sp (fun h => ?_) (fun _ => wp_leaf rfl ⟨rfl, rfl⟩)
    have h := of_decide_eq_true h
    simp [cutL] at h
  | m + 1, i, p, h => by
    have hi : i < (L.drop 1).length := by omega
    have ih := T28_l1 L hL m (i + 1) (lowS p.1 (L.drop 1)[i].low, highS p.2 (L.drop 1)[i].high) (by omega)
    rw [List.drop_eq_getElem_cons hi, List.foldl_cons]
    refine .next ?_ ih
    unfold T28_l1_b
    refine wp_sp (fun _ => ?_) (fun h => ?_)
    · refine wp_elem (L.drop 1)[i] (by omega) (List.getElem?_eq_getElem hi) (wp_i64 (by simp at hi; omega) (wp_leaf rfl ⟨rfl, rfl⟩))
    · have h := of_decide_eq_false h
      simp [cutL] at h hi
      omega

theorem T28_wp (L : List Meta) (h0 : L ≠ []) (hL : L.length ≤ 1000000) {K : AE → St → Prop} (h : K .ret ([(0, .tup [vs (spanL L).1, vs (spanL L).2])], [])) : (T28 L).wp K := by
  cases L with
  | nil => exact absurd rfl h0
  | cons x L =>
    unfold T28
    refine wp_elem x (by omega) rfl (wp_elemk (by omega) rfl (wp_cut (by simp [cutOk]; omega) (wp_len (wp_loop _ rfl (T28_l1 (x :: L) hL L.length 0 (x.low, x.high) (by simp)) (wp_leaf rfl h)))))

end Go.Ax
