/- Trees, printed by gen/k3.py: a nil disk. -/
import Derived.Test.YtnhhaidlpbkmjaaDq9
set_option linter.unusedVariables false
set_option linter.unusedSimpArgs false
set_option linter.unusedSectionVars false
namespace Go.Ax
open Go.Proofs Go.RowKit
set_option maxRecDepth 100000

noncomputable def TNFind (nm : ByteArray) : Tree :=
.leaf ⟨[0], []⟩ [] .ret (some ([(0, .tup [.p (.v (.pointer none)), vi 1])], []))

theorem TNFind_chk (nm : ByteArray) : fnC DP Γ0 Δ0 Try.f33 [.p (.v (.pointer none)), vs nm] [] (TNFind nm) = TNFind nm := by kernel_rfl



end Go.Ax

namespace Go.Ax
open Go.Proofs Go.RowKit
set_option maxRecDepth 100000

def RNFind : RSpec := fun args B r B' => ∃ nm : ByteArray, args = [nilP, vs nm] ∧ B = [] ∧ r = .tup [nilP, vi 1] ∧ B' = []
theorem SNFind : SoundR DP iFind RNFind := sound_genT mixedD Γ0_ok Δ0_ok hfFind heFind hbFind (by
  rintro args B r B' ⟨nm, rfl, rfl, rfl, rfl⟩
  exact ⟨by rw [hnFind]; rfl, _, TNFind_chk nm, by unfold TNFind; exact wp_leaf rfl ⟨rfl, rfl⟩⟩)
def ΔN : REnv := fun f => if f = iFind then RNFind else fun _ _ _ _ => False
theorem ΔN_ok : ∀ f, SoundR DP f (ΔN f) := fun f => by
  unfold ΔN
  split
  · rename_i e; rw [e]; exact SNFind
  · exact .none f
theorem dNFind (nm : ByteArray) : ΔN iFind [nilP, vs nm] [] (.tup [nilP, vi 1]) [] := by
  unfold ΔN
  rw [if_pos rfl]
  exact ⟨nm, rfl, rfl, rfl, rfl⟩

end Go.Ax
