/- Trees, printed by gen/k1.py: the disk's functions, the disk laid open. -/
import Derived.Test.YtnhhaidlpbkmjaaDq2a
set_option linter.unusedVariables false
set_option linter.unusedSimpArgs false
set_option linter.unusedSectionVars false
namespace Go.Ax
open Go.Proofs Go.RowKit
set_option maxRecDepth 100000

abbrev iKeys : Nat := 36
abbrev iKeys1 : Nat := 44
abbrev iSorted : Nat := 35
noncomputable abbrev nKeys : Func := Try.f36
theorem hfKeys : DP.funcs[iKeys]? = some nKeys := by kernel_rfl
theorem heKeys : enters DP iKeys = true := by kernel_rfl
theorem hbKeys : nKeys.body.isSome = true := by kernel_rfl
theorem hnKeys : nKeys.ntmps = 4 := by kernel_rfl
theorem heSorted : enters DP iSorted = true := by kernel_rfl

noncomputable def TKeys (hid : List (Value × Value)) : Tree :=
.leaf ⟨[0], [(0, 0, none), (1, 0, none)]⟩ [] .ret (some ([(0, .fn 44 [.ptr 1 0 0])], [.obj [] (mapP [] hid), .cells false 0 ([.mp 0])]))

theorem TKeys_chk (hid : List (Value × Value)) : fnC DP Γ0 Δ0 Try.f36 [.mp 0] [.obj [] (mapP [] hid)] (TKeys hid) = TKeys hid := by kernel_rfl

end Go.Ax
