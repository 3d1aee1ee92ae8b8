/- The document's example of the level, reckoned; what the law of Pick calls. -/
import Derived.Test.YtgbmmmglilpdjaaTld
import Derived.Test.YtgbmmmglilpdjaaAx20
set_option linter.unusedVariables false
set_option linter.unusedSimpArgs false
namespace Go.Ax
open Go.Proofs Go.RowKit
set_option maxRecDepth 100000

def envG (l : List (Nat × FSpec)) : Env := fun f => match l with
  | [] => .none
  | (g, S) :: r => bif Nat.beq f g then S else envG r f
theorem envG_ok {P : Program} : ∀ {l : List (Nat × FSpec)}, (∀ p ∈ l, SoundF P p.1 p.2) → ∀ f, SoundF P f (envG l f)
  | [], _, f => sound_none f
  | (g, S) :: r, h, f => by
    unfold envG
    cases hb : Nat.beq f g with
    | true => have := Nat.eq_of_beq_eq_true hb; subst this; exact h (f, S) (by simp)
    | false => exact envG_ok (fun p hp => h p (by simp [hp])) f

noncomputable def ΓH1 : Env := envG [(25, .gen (fnF LP Γ0 8 Try.f25))]
noncomputable def ΓH2 : Env := envG [(37, .gen (fnF LP ΓH1 8 Try.f37))]
noncomputable def ΓH3 : Env := envG [(24, .gen (fnF LP ΓH2 8 Try.f24))]
noncomputable def ΓH4 : Env := envG [(23, .gen (fnF LP ΓH3 8 Try.f23))]
noncomputable def ΓH5 : Env := envG [(11, .gen (fnF LP ΓH4 8 Try.f11))]
theorem ΓH1_ok : ∀ f, SoundF LP f (ΓH1 f) := envG_ok (by simp; exact sound_fuel mixedL (fun f => sound_none f) (by kernel_rfl) (by kernel_rfl) 8)
theorem ΓH2_ok : ∀ f, SoundF LP f (ΓH2 f) := envG_ok (by simp; exact sound_fuel mixedL ΓH1_ok (by kernel_rfl) (by kernel_rfl) 8)
theorem ΓH3_ok : ∀ f, SoundF LP f (ΓH3 f) := envG_ok (by simp; exact sound_fuel mixedL ΓH2_ok (by kernel_rfl) (by kernel_rfl) 8)
theorem ΓH4_ok : ∀ f, SoundF LP f (ΓH4 f) := envG_ok (by simp; exact sound_fuel mixedL ΓH3_ok (by kernel_rfl) (by kernel_rfl) 8)
theorem ΓH5_ok : ∀ f, SoundF LP f (ΓH5 f) := envG_ok (by simp; exact sound_fuel mixedL ΓH4_ok (by kernel_rfl) (by kernel_rfl) 8)

def RHead : List AV → AV → Prop := fun args r => args = [] ∧ r = vb true
noncomputable def gHead := relG RHead
theorem gHead_eq : gHead [] = some (vb true) := relG_eq (by rintro args r r' ⟨_, rfl⟩ ⟨_, rfl⟩; rfl) ⟨rfl, rfl⟩

theorem head_run : (codeF LP ΓH5 8 25 (bodyOf Try.f8) ⟨tk [], []⟩).map (fun r => (r.1, r.2.t 0)) = some (.ret, vb true) := by kernel_rfl

theorem sound8 : SoundF LP 8 (.pure gHead) := fn_pure (fn := Try.f8) mixedL ΓH5_ok (by kernel_rfl) (by kernel_rfl) (by kernel_rfl) (by
  rintro args r ⟨rfl, rfl⟩
  exact ⟨rfl, rfl, .ret, _, _, _, .inl rfl, reckoned rfl rfl head_run, rfl, .p _⟩)

open Classical in
/-- Whether two lists hold the same. -/
noncomputable def sameL (A B : List Meta) : Bool := decide (A = B)
theorem sameL_refl (A : List Meta) : sameL A A = true := by unfold sameL; simp

noncomputable def ΓP : Env := envP [(8, gHead), (14, g14), (15, g15), (16, g16), (17, gOf), (18, g18)]
theorem ΓP_ok : ∀ f, SoundF LP f (ΓP f) := envP_ok (by simp; exact ⟨sound8, sound14, sound15, sound16, sound17, sound18⟩)
def ΔP : REnv := envR [(17, liftR R17), (19, liftR R19)]
theorem ΔP_ok : ∀ f, SoundR LP f (ΔP f) := envR_ok (by simp; exact ⟨lift_sound R17_ok, lift_sound R19_ok⟩)

end Go.Ax
