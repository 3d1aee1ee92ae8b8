/- The seat's program; what the texts behind it lean on. -/
import Derived.Test.YtnhhaidlpbkmjaaDk6
import Derived.Test.YtnhhaidlpbkmjaaProg
set_option linter.unusedVariables false
set_option linter.unusedSimpArgs false
set_option linter.unusedSectionVars false
namespace Go.Ax
open Go.Proofs Go.RowKit
set_option maxRecDepth 100000

instance : Glob := noG
noncomputable abbrev DP : Program := Try.prog
theorem mixedD : DP.follows .mixedOrders = true := by kernel_rfl

def Δ0 : REnv := fun _ _ _ _ _ => False
theorem Δ0_ok {P : Program} : ∀ f, SoundR P f (Δ0 f) := fun f => .none f
def Γ0 : Env := fun _ => .none
theorem Γ0_ok {P : Program} : ∀ f, SoundF P f (Γ0 f) := fun f => sound_none f

end Go.Ax
