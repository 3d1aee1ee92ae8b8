/- Trees, printed by gen/k1.py: the disk's functions, the disk laid open. -/
import Derived.Test.YtnhhaidlpbkmjaaDq6b
set_option linter.unusedVariables false
set_option linter.unusedSimpArgs false
set_option linter.unusedSectionVars false
namespace Go.Ax
open Go.Proofs Go.RowKit
set_option maxRecDepth 100000

noncomputable def TList_d (ro : Int) (us : Int) (fu : Int) (hid : List (Value × Value)) : Tree :=
.leaf ⟨[0], [(0, 0, none), (1, 0, none)]⟩ [] .ret (some ([(0, nilS)], [.cells false 0 ([vi ro, vi us, .mp 1, vb true, vi fu]), .obj [] (mapP [] hid)]))

theorem TList_d_chk (ro : Int) (us : Int) (fu : Int) (hid : List (Value × Value)) : fnC DP ΓF ΔL Try.f18 [.ptr 0 0 0] [.cells false 0 ([vi ro, vi us, .mp 1, vb true, vi fu]), .obj [] (mapP [] hid)] (TList_d ro us fu hid) = TList_d ro us fu hid := by kernel_rfl

noncomputable def TList_a (ro : Int) (us : Int) (fu : Int) (hid : List (Value × Value)) (ns : List ByteArray) : Tree :=
.callr (some 15) (ΔL 36 [.mp 1] [.cells false 0 ([vi ro, vi us, .mp 1, vb false, vi fu]), .obj [] (mapP [] hid)] (.fn 44 [.ptr 2 0 0]) [.cells false 0 ([vi ro, vi us, .mp 1, vb false, vi fu]), .obj [] (mapP [] hid), .cells false 0 ([.mp 1])]) (.fn 44 [.ptr 2 0 0]) [.cells false 0 ([vi ro, vi us, .mp 1, vb false, vi fu]), .obj [] (mapP [] hid), .cells false 0 ([.mp 1])] (.callr (some 16) (ΔL 35 [.fn 44 [.ptr 2 0 0]] [.cells false 0 ([vi ro, vi us, .mp 1, vb false, vi fu]), .obj [] (mapP [] hid), .cells false 0 ([.mp 1])] (vl ((sortN ns).map nameE.f)) [.cells false 0 ([vi ro, vi us, .mp 1, vb false, vi fu]), .obj [] (mapP [] hid), .cells false 0 ([.mp 1])]) (vl ((sortN ns).map nameE.f)) [.cells false 0 ([vi ro, vi us, .mp 1, vb false, vi fu]), .obj [] (mapP [] hid), .cells false 0 ([.mp 1])] (.leaf ⟨[0], [(0, 0, none), (1, 0, none)]⟩ [] .ret (some ([(0, vl ((sortN ns).map nameE.f))], [.cells false 0 ([vi ro, vi us, .mp 1, vb false, vi fu]), .obj [] (mapP [] hid)]))))

theorem TList_a_chk (ro : Int) (us : Int) (fu : Int) (hid : List (Value × Value)) (ns : List ByteArray) : fnC DP ΓF ΔL Try.f18 [.ptr 0 0 0] [.cells false 0 ([vi ro, vi us, .mp 1, vb false, vi fu]), .obj [] (mapP [] hid)] (TList_a ro us fu hid ns) = TList_a ro us fu hid ns := by kernel_rfl

end Go.Ax
