/- The law of LevelKeeps answers true, its end. -/
import Derived.Test.YtgbmmmglilpdjaaKe6
set_option linter.unusedVariables false
set_option linter.unusedSimpArgs false
namespace Go.Ax
open Go.Proofs Go.RowKit
set_option maxRecDepth 100000

theorem big_len {es : List Ent} (h : bigL es = false) : (es.length : Int) ≤ 30 := by
  simp only [bigL, Bool.or_eq_false_iff, decide_eq_false_iff_not] at h
  omega

theorem T3_j1_wp (es us : List Ent) (S : List Int) (bot b : Bool) (hb : b = false → (es.length : Int) ≤ 30 ∧ (us.length : Int) ≤ 30 ∧ S.length ≤ 10) {K : AE → St → Prop} (h : K .ret ([(0, vb true)], [])) : (T3_j1 es us S bot b).wp K := by
  unfold T3_j1
  refine wp_br (fun _ => wp_leaf rfl h) (fun e => ?_)
  obtain ⟨h1, h2, h3⟩ := hb e
  have a1 := order_leq es
  have a2 := order_leq us
  have ho := order_ok es
  have hsub := keep_sub S bot ho.1
  have hkl := hsub.length_le
  have k1 : gKeep [vl ((([] : List Ent) ++ orderL es).map entE.f), vl (S.map u64E.f), vb bot] = some (vl ((keepL ([] ++ orderL es) S bot).map entE.f)) := gKeep_eq (A := orderL es) (S := S) (bot := bot) (by omega) (by omega)
  have l2 := T3_l2 es us S bot (by omega) (orderL es) [] rfl
  have l3 := T3_l3 es us S bot (by omega) (by omega) (keepL (orderL es) S bot) [] 0 rfl (Nat.zero_le _) hsub
  refine wp_call (gOrder_eq h1) (wp_app rfl rfl (by simp; omega) (show Tree.wp _ _ from ⟨rfl, rfl, wp_call k1 (wp_len (wp_loop' _ rfl l2 (wp_len (wp_loop' _ rfl l3 (wp_sp (fun hb => ?_) (fun hb => ?_))))))⟩))
  · exact wp_go (wp_join rfl (T3_j5_wp es S bot [] (by omega) (by omega) (by simp) (by omega) (fun _ => rfl) h))
  · obtain ⟨O, q1, q2⟩ := T3_l10 es us S bot (by omega) (by omega) (orderL us) [] [] rfl (Nat.le_refl _)
    have hO : O.length ≤ 900000 := by omega
    exact wp_call (gOrder_eq h2) (wp_len (wp_loop _ rfl q1 (wp_join rfl (T3_j5_wp es S bot O (by omega) (by omega) hO (by omega) (fun hh => by rw [hb] at hh; cases hh) h))))

theorem T3_wp (es us : List Ent) (S : List Int) (bot : Bool) {K : AE → St → Prop} (h : K .ret ([(0, vb true)], [])) : (T3 es us S bot).wp K := by
  have ht : (T3_j1 es us S bot true).wp K := T3_j1_wp es us S bot true (fun e => by cases e) h
  unfold T3
  refine wp_call gHead_eq (wp_call (gBig_eq es) (wp_sp (fun _ => wp_join rfl ht) (fun a => wp_call (gBig_eq us) (wp_sp (fun _ => wp_join rfl ht) (fun b => wp_len (wp_sp (fun _ => wp_join rfl ht) (fun c => wp_join rfl ?_)))))))
  exact T3_j1_wp es us S bot false (fun _ => ⟨big_len a, big_len b, by have := of_decide_eq_false c; omega⟩) h

def R3 : List AV → AV → Prop := fun args r => ∃ (es us : List Ent) (S : List Int) (bot : Bool), args = [vl (ents es), vl (ents us), vl (ints S), vb bot] ∧ r = vb true
theorem R3_det (args : List AV) (r r' : AV) (h : R3 args r) (h' : R3 args r') : r = r' := by
  obtain ⟨_, _, _, _, _, rfl⟩ := h
  obtain ⟨_, _, _, _, _, rfl⟩ := h'
  rfl
theorem sound3 : SoundF LP 3 (.pure (relG R3)) := sound_pureT (Γ := Γ3) (Δ := Δ3) (fn := Try.f3) mixedL Γ3_ok Δ3_ok (by kernel_rfl) (by kernel_rfl) (by kernel_rfl) (by
  rintro args r ⟨es, us, S, bot, rfl, rfl⟩
  exact ⟨rfl, rfl, _, T3_chk es us S bot, T3_wp es us S bot (.p _)⟩)

end Go.Ax
