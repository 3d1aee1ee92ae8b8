/- The law of LevelWorks answers true. -/
import Derived.Test.YtgbmmmglilpdjaaWk5
import Derived.Test.YtgbmmmglilpdjaaWk7
set_option linter.unusedVariables false
set_option linter.unusedSimpArgs false
namespace Go.Ax
open Go.Proofs Go.RowKit
set_option maxRecDepth 100000

theorem T7_l2 (v : Vers) (c : Conf) (hl : (pickL v c).1.length ≤ 1000000) : ∀ (suf pre : List Meta) (m : Meta), (pickL v c).1 = pre ++ suf →
    Rounds (T7_l2_e v c) (T7_l2_x v c) noX (fun s => (T7_l2_b v c s).wp) (m, pre.map (·.num), (pre.length : Int)) (.inl (⟨m.num, m.level, (suf.foldl spF (m.low, m.high)).1, (suf.foldl spF (m.low, m.high)).2, m.size⟩, (pickL v c).1.map (·.num)))
  | [], pre, m, h => by
    have e : (pickL v c).1.length = pre.length := by rw [h]; simp
    rw [h, List.append_nil]
    refine .done (by simp [T7_l2_x]) ?_
    unfold T7_l2_b
    exact wp_sp (fun h => by have := of_decide_eq_true h; dsimp only at this; omega) (fun _ => wp_leaf rfl ⟨rfl, rfl⟩)
  | x :: suf, pre, m, h => by
    have e : (pickL v c).1.length = pre.length + (suf.length + 1) := by rw [h]; simp
    have hm : (pickL v c).1[Int.toNat (pre.length : Int)]? = some x := by rw [h]; simp
    have hlen : (pre ++ [x]).length = pre.length + 1 := by simp
    have ih := T7_l2 v c hl suf (pre ++ [x]) ⟨m.num, m.level, lowS m.low x.low, highS m.high x.high, m.size⟩ (by rw [h]; simp)
    rw [hlen, List.map_append] at ih
    refine .next ?_ ih
    unfold T7_l2_b
    dsimp only
    rw [lowS_eq, highS_eq]
    refine wp_sp (fun _ => wp_elem x (by omega) hm (wp_app ⟨rfl, rfl⟩ rfl (by simp; omega) (wp_sp (fun a => wp_sp (fun b => ?_) (fun b => ?_)) (fun a => wp_sp (fun b => ?_) (fun b => ?_))))) (fun h => by have := of_decide_eq_false h; omega)
    all_goals rw [a, b]
    all_goals exact wp_i64 (by omega) (wp_leaf rfl ⟨rfl, rfl⟩)

theorem T7_j1_wp (v : Vers) (c : Conf) (b : Bool) (hb : b = false → Right v ∧ FineC c ∧ v.files.length ≤ 40 ∧ v.next ≤ 536870912) {K : AE → St → Prop} (h : K .ret ([(0, vb true)], [])) : (T7_j1 v c b).wp K := by
  unfold T7_j1
  refine wp_br (fun _ => wp_leaf rfl h) (fun eb => ?_)
  obtain ⟨R, gc, h40, hn⟩ := hb eb
  have g : Fine v := fine_of (of_right R)
  have hnx := R.next
  have hpl := pickL_len g c
  refine wp_call (g16_eq g gc) (wp_sp (fun hp => ?_) (fun hp => ?_))
  · have hp := of_decide_eq_true hp
    obtain ⟨B, pB, out, e, h0, h1, h5, hB, hlv⟩ := pick_spec R gc hp
    obtain ⟨w1, w2⟩ := works R h40 hn h0 h1 h5 hB hlv (pickL v c).1 (by rw [e])
    have ho : out = (pickL v c).2 := by rw [e]
    rw [ho] at w1 w2
    cases hL : (pickL v c).1 with
    | nil => rw [e] at hL; simp [h0] at hL
    | cons x L =>
      have hx : (pickL v c).1[Int.toNat 0]? = some x := by rw [hL]; rfl
      have l := T7_l2 v c hpl (pickL v c).1 [] ⟨v.next, (pickL v c).2, x.low, x.high, 0⟩ rfl
      have es : (pickL v c).1.foldl spF (x.low, x.high) = spanL (pickL v c).1 := by
        rw [hL]
        show L.foldl spF (lowS x.low x.low, highS x.high x.high) = _
        rw [lowS_self, highS_self]
        rfl
      dsimp only at l
      rw [es] at l
      rw [← hL]
      have hlen : ((applyW v ⟨[⟨v.next, (pickL v c).2, (spanL (pickL v c).1).1, (spanL (pickL v c).1).2, 0⟩], (pickL v c).1.map (·.num), 0, v.next + 1, 0⟩).files.length : Int) + ((pickL v c).1.length : Int) = (v.files.length : Int) + 1 := by exact_mod_cast w2
      have hdl : ((pickL v c).1.map (·.num)).length ≤ 500000 := by
        rw [List.length_map]
        omega
      have hE : EdtOk v ⟨[⟨v.next, (pickL v c).2, (spanL (pickL v c).1).1, (spanL (pickL v c).1).2, 0⟩], (pickL v c).1.map (·.num), 0, v.next + 1, 0⟩ := ⟨by omega, hdl, by show 1 ≤ 500000; omega⟩
      refine wp_i64 (by omega) (wp_elem x (by omega) hx (wp_elemk (by omega) hx (wp_len (show Tree.wp _ _ from wp_loop _ rfl l (show Tree.wp _ _ from ⟨rfl, rfl, rfl, rfl, ?_⟩)))))
      refine wp_call (g20_eq hE) (wp_sp (fun _ => wp_len (wp_len (wp_len (wp_i64 (by omega) (wp_i64 (by omega) (wp_leaf rfl ?_)))))) (fun hf => ?_))
      · dsimp only
        rw [w1]
        have : (((applyW v ⟨[⟨v.next, (pickL v c).2, (spanL (pickL v c).1).1, (spanL (pickL v c).1).2, 0⟩], (pickL v c).1.map (·.num), 0, v.next + 1, 0⟩).files.length : Int) == (v.files.length : Int) - ((pickL v c).1.length : Int) + 1) = true := by
          rw [beq_iff_eq]; omega
        rw [this]
        exact h
      · dsimp only at hf
        rw [w1] at hf
        simp at hf
  · have hp := of_decide_eq_false hp
    have e : (pickL v c).1 = [] := by
      unfold pickL at hp ⊢
      by_cases hh : ((ofL 0 v.files).length : Int) ≥ (if (1 : Int) < c.files then c.files else 1)
      · rw [if_pos hh] at hp; exact absurd (by show (1 : Int) > 0; omega) hp
      · rw [if_neg hh] at hp ⊢
        rw [(pickN_pos v 4 1 c.size (by omega)).resolve_right hp]
    refine wp_len (wp_leaf rfl ?_)
    rw [e]
    exact h

theorem fineC_of {c : Conf} (h : c.check = 0) : FineC c := by
  unfold Conf.check at h
  split at h
  · cases h
  · unfold FineC; omega

theorem T7_wp (v : Vers) (c : Conf) {K : AE → St → Prop} (h : K .ret ([(0, vb true)], [])) : (T7 v c).wp K := by
  have ht : (T7_j1 v c true).wp K := T7_j1_wp v c true (fun e => by cases e) h
  unfold T7
  refine wp_call gHead_eq (wp_len (wp_sp (fun _ => wp_join rfl ht) (fun a => wp_call (g15_eq v) (wp_sp (fun _ => wp_join rfl ht) (fun b => wp_call (g14_eq c) (wp_sp (fun _ => wp_join rfl ht) (fun d => wp_sp (fun _ => wp_join rfl ht) (fun f => wp_join rfl ?_))))))))
  refine T7_j1_wp v c false (fun _ => ⟨right_of (by simpa using b), fineC_of (by simpa using d), ?_, ?_⟩) h
  · have := of_decide_eq_false a; omega
  · have := of_decide_eq_false f; omega

def R7 : List AV → AV → Prop := fun args r => ∃ (v : Vers) (c : Conf), args = [.agg [vl (v.files.map metaE.f), vi v.log, vi v.next, vn .u64 v.seq], .agg [vi c.files, vi c.size, vi c.cut]] ∧ r = vb true
noncomputable def g7 := relG R7
theorem R7_det (args : List AV) (r r' : AV) (h : R7 args r) (h' : R7 args r') : r = r' := by
  obtain ⟨_, _, _, rfl⟩ := h
  obtain ⟨_, _, _, rfl⟩ := h'
  rfl
theorem sound7 : SoundF LP 7 (.pure g7) := sound_pureT (Γ := ΓW) (Δ := Δ0) (fn := Try.f7) mixedL ΓW_ok Δ0_ok (by kernel_rfl) (by kernel_rfl) (by kernel_rfl) (by
  rintro args r ⟨v, c, rfl, rfl⟩
  exact ⟨rfl, rfl, _, T7_chk v c, T7_wp v c (.p _)⟩)

end Go.Ax
