/- A file is looked for; a step more: what they come to. -/
import Derived.Test.YtnhhaidlpbkmjaaDq2
set_option linter.unusedVariables false
set_option linter.unusedSimpArgs false
set_option linter.unusedSectionVars false
namespace Go.Ax
open Go.Proofs Go.RowKit
set_option maxRecDepth 100000

theorem SFind : SoundR DP iFind RFind :=
  sound_genT mixedD Γ0_ok Δ0_ok hfFind heFind hbFind (fun args B r B' h => by
    cases h with
    | d ro us fu hid nm => exact ⟨by rw [hnFind]; rfl, _, TFind_d_chk ro us fu hid nm, wp_leaf rfl ⟨rfl, rfl⟩⟩
    | a ro us fu hid hs nm hh hn => exact ⟨by rw [hnFind]; rfl, _, TFind_a_chk ro us fu hid nm, wp_val (look_no htMap htKey htVal (ns := []) rfl hh (by simp) hn) (wp_leaf rfl ⟨rfl, rfl⟩)⟩
    | p ro us fu hid hs x hh => exact ⟨by rw [hnFind]; rfl, _, TFind_p_chk ro us fu hid x.b x.sure x.name, wp_val (look_v0 htMap htKey (ns := []) rfl hh) (wp_leaf rfl ⟨rfl, rfl⟩)⟩
    | q ro us fu hid hs x y hh => exact ⟨by rw [hnFind]; rfl, _, TFind_q_chk ro us fu hid x.b x.sure y.b y.sure y.name x.name, wp_val (look_v0 htMap htKey (ns := [y.name]) rfl hh) (wp_leaf rfl ⟨rfl, rfl⟩)⟩)

theorem step_wp {fu : Int} (hfu : fu < 9223372036854775808) {T : Int → Bool → Int → Tree} {K : AE → St → Prop}
    (hT : ∀ f d e, f = stF fu → d = stD fu → e = stE fu → (T f d e).wp K) :
    (Tree.sp 7 (decide (fu > (0 : Int))) (.int 12 (IntKind.i64.wrap (fu - 1)) (fu - 1) (.sp 26 ((fu - 1) == (0 : Int)) (T (fu - 1) ((fu - 1) == (0 : Int)) 10) (T (fu - 1) ((fu - 1) == (0 : Int)) 0))) (T fu false 0)).wp K := by
  refine wp_sp (fun h => wp_i64 (by have := of_decide_eq_true h; omega) (wp_sp (fun h2 => ?_) (fun h2 => ?_))) (fun h => ?_)
  · have h := of_decide_eq_true h
    exact hT _ _ _ (by rw [stF, if_pos h]) (by rw [stD, decide_eq_true h, Bool.true_and]) (by rw [stE, stD, decide_eq_true h, Bool.true_and, h2]; rfl)
  · have h := of_decide_eq_true h
    exact hT _ _ _ (by rw [stF, if_pos h]) (by rw [stD, decide_eq_true h, Bool.true_and]) (by rw [stE, stD, decide_eq_true h, Bool.true_and, h2]; rfl)
  · have h := of_decide_eq_false h
    exact hT _ _ _ (by rw [stF, if_neg h]) (by rw [stD, decide_eq_false h, Bool.false_and]) (by rw [stE, stD, decide_eq_false h, Bool.false_and]; rfl)

theorem SStep : SoundR DP iStep RStep :=
  sound_genT mixedD Γ0_ok Δ0_ok hfStep heStep hbStep (fun args B r B' h => by
    cases h with
    | mk ro us fu hid X hX hfu =>
      match X, hX with
      | [], _ => exact ⟨by rw [hnStep]; rfl, _, TStep_a_chk ro us fu hid, step_wp (T := fun f d e => .leaf _ [] .ret (some ([(0, vi e)], flatB (dsk ro us f d) [] hid))) hfu (fun f d e h1 h2 h3 => by subst h1 h2 h3; exact wp_leaf rfl ⟨rfl, rfl⟩)⟩
      | [x], _ => exact ⟨by rw [hnStep]; rfl, _, TStep_p_chk ro us fu hid x.b x.sure x.name, step_wp (T := fun f d e => .leaf ⟨[0], [(0, 0, none), (1, 0, none), (2, 0, none), (3, 0, some (x.b.map byteE.f))]⟩ [rowC (x.b.map byteE.f)] .ret (some ([(0, vi e)], flatB (dsk ro us f d) [x] hid))) hfu (fun f d e h1 h2 h3 => by subst h1 h2 h3; exact wp_leaf rfl ⟨rfl, rfl⟩)⟩
      | [x, y], _ => exact ⟨by rw [hnStep]; rfl, _, TStep_q_chk ro us fu hid x.b x.sure y.b y.sure x.name y.name, step_wp (T := fun f d e => .leaf ⟨[0], [(0, 0, none), (1, 0, none), (2, 0, none), (3, 0, some (x.b.map byteE.f)), (4, 0, none), (5, 0, some (y.b.map byteE.f))]⟩ [rowC (x.b.map byteE.f), rowC (y.b.map byteE.f)] .ret (some ([(0, vi e)], flatB (dsk ro us f d) [x, y] hid))) hfu (fun f d e h1 h2 h3 => by subst h1 h2 h3; exact wp_leaf rfl ⟨rfl, rfl⟩)⟩
      | _ :: _ :: _ :: _, h => exact absurd h (by simp))

noncomputable def ΓF : Env := fun f => if f = iNamed then .pure gNamed else .none
theorem ΓF_ok : ∀ f, SoundF DP f (ΓF f) := fun f => by
  unfold ΓF
  split
  · rename_i e; rw [e]; exact SNamed
  · exact sound_none f
def ΔF : REnv := fun f => if f = iFind then liftR RFind else if f = iStep then liftR RStep else fun _ _ _ _ => False
theorem ΔF_ok : ∀ f, SoundR DP f (ΔF f) := fun f => by
  unfold ΔF
  split
  · rename_i e; rw [e]; exact lift_sound SFind
  split
  · rename_i e; rw [e]; exact lift_sound SStep
  · exact .none f

end Go.Ax
