/- The document's example: Keep, reckoned. -/
import Derived.Test.YtgbmmmglilpdjaaAx20
import Derived.Test.YtgbmmmglilpdjaaLv2
set_option linter.unusedVariables false
set_option linter.unusedSimpArgs false
namespace Go.Ax
open Go.Proofs Go.RowKit
set_option maxRecDepth 100000

noncomputable def ΓH1 : Env := envOf [(25, .gen (fnF LP Γ0 8 Try.f25))]
noncomputable def ΓH2 : Env := envOf [(37, .gen (fnF LP ΓH1 8 Try.f37))]
noncomputable def ΓH3 : Env := envOf [(24, .gen (fnF LP ΓH2 8 Try.f24))]
noncomputable def ΓH4 : Env := envOf [(23, .gen (fnF LP ΓH3 8 Try.f23))]
noncomputable def ΓH5 : Env := envOf [(11, .gen (fnF LP ΓH4 8 Try.f11))]
theorem ΓH1_ok : ∀ f, SoundF LP f (ΓH1 f) := env_sound (by simp; exact sound_fuel mixedL (fun f => sound_none f) (by kernel_rfl) (by kernel_rfl) 8)
theorem ΓH2_ok : ∀ f, SoundF LP f (ΓH2 f) := env_sound (by simp; exact sound_fuel mixedL ΓH1_ok (by kernel_rfl) (by kernel_rfl) 8)
theorem ΓH3_ok : ∀ f, SoundF LP f (ΓH3 f) := env_sound (by simp; exact sound_fuel mixedL ΓH2_ok (by kernel_rfl) (by kernel_rfl) 8)
theorem ΓH4_ok : ∀ f, SoundF LP f (ΓH4 f) := env_sound (by simp; exact sound_fuel mixedL ΓH3_ok (by kernel_rfl) (by kernel_rfl) 8)
theorem ΓH5_ok : ∀ f, SoundF LP f (ΓH5 f) := env_sound (by simp; exact sound_fuel mixedL ΓH4_ok (by kernel_rfl) (by kernel_rfl) 8)

def RHead : List AV → AV → Prop := fun args r => args = [] ∧ r = vb true
noncomputable def gHead := relG RHead
theorem gHead_eq : gHead [] = some (vb true) := relG_eq (by rintro args r r' ⟨_, rfl⟩ ⟨_, rfl⟩; rfl) ⟨rfl, rfl⟩

theorem head_run : (codeF LP ΓH5 8 25 (bodyOf Try.f8) ⟨tk [], []⟩).map (fun r => (r.1, r.2.t 0)) = some (.ret, vb true) := by kernel_rfl

theorem sound8 : SoundF LP 8 (.pure gHead) := fn_pure (fn := Try.f8) mixedL ΓH5_ok (by kernel_rfl) (by kernel_rfl) (by kernel_rfl) (by
  rintro args r ⟨rfl, rfl⟩
  exact ⟨rfl, rfl, .ret, _, _, _, .inl rfl, reckoned rfl rfl head_run, rfl, .p _⟩)

end Go.Ax
