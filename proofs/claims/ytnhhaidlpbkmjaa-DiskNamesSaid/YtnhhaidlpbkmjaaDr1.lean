/- Trees, printed by gen/k2.py: the laws of the disk. -/
import Derived.Test.YtnhhaidlpbkmjaaDq9
set_option linter.unusedVariables false
set_option linter.unusedSimpArgs false
set_option linter.unusedSectionVars false
namespace Go.Ax
open Go.Proofs Go.RowKit
set_option maxRecDepth 100000

abbrev iHead : Nat := 9
noncomputable abbrev nHead : Func := Try.f9
theorem hfHead : DP.funcs[iHead]? = some nHead := by kernel_rfl
theorem heHead : enters DP iHead = true := by kernel_rfl
theorem hbHead : nHead.body.isSome = true := by kernel_rfl
theorem hnHead : nHead.ntmps = 51 := by kernel_rfl

noncomputable def THead (D0 : Dsk) (D1 : Dsk) (D2 : Dsk) (D3 : Dsk) (D4 : Dsk) (D5 : Dsk) (out : List UInt8) : Tree :=
.callr (some 4) (ΔD 10 [vi 100] [] (.op 0) [.obj [] (diskP D0)]) (.op 0) [.obj [] (diskP D0)] (.callr (some 9) (ΔD 11 [.op 0, vs (⟨#[97]⟩)] [.obj [] (diskP D0)] (vi 0) [.obj [] (diskP D1)]) (vi 0) [.obj [] (diskP D1)] (.callr (some 16) (ΔD 12 [.op 0, vs (⟨#[97]⟩), .rs 1 0 1 0 2] [.obj [] (diskP D1), .cells true 0 ([vn .u8 97, vn .u8 98])] (vi 0) [.obj [] (diskP D2), .dead]) (vi 0) [.obj [] (diskP D2), .dead] (.callr (some 21) (ΔD 13 [.op 0, vs (⟨#[97]⟩)] [.obj [] (diskP D2), .dead] (vi 0) [.obj [] (diskP D3), .dead]) (vi 0) [.obj [] (diskP D3), .dead] (.callr (some 28) (ΔD 12 [.op 0, vs (⟨#[97]⟩), .rs 2 0 1 0 2] [.obj [] (diskP D3), .dead, .cells true 0 ([vn .u8 99, vn .u8 100])] (vi 0) [.obj [] (diskP D4), .dead, .dead]) (vi 0) [.obj [] (diskP D4), .dead, .dead] (.callr (some 33) (ΔD 14 [.op 0, .rs 3 0 1 0 1] [.obj [] (diskP D4), .dead, .dead, .cells true 0 ([vi 1])] (.tup []) [.obj [] (diskP D5), .dead, .dead, .dead]) (.tup []) [.obj [] (diskP D5), .dead, .dead, .dead] (.callr (some 36) (ΔD 15 [.op 0, vs (⟨#[97]⟩), vi 0, vi 9] [.obj [] (diskP D5), .dead, .dead, .dead] (.tup [.rs 4 0 1 0 out.length, vi 0]) [.obj [] (diskP D5), .dead, .dead, .dead, byteE.bx 0 out]) (.tup [.rs 4 0 1 0 out.length, vi 0]) [.obj [] (diskP D5), .dead, .dead, .dead, byteE.bx 0 out] (.bstr 43 out.length (rowC (out.map byteE.f)) out (.sp 44 ((⟨out.toArray⟩ : ByteArray).toList == (⟨#[97, 98, 99]⟩ : ByteArray).toList) (
.callr (some 48) (ΔD 19 [.op 0] [.obj [] (diskP D5), .dead, .dead, .dead, byteE.bx 0 out] (vi 3) [.obj [] (diskP D5), .dead, .dead, .dead, byteE.bx 0 out]) (vi 3) [.obj [] (diskP D5), .dead, .dead, .dead, byteE.bx 0 out] (.leaf ⟨[0], []⟩ [] .ret (some ([(0, vb true)], [])))) (
.leaf ⟨[0], []⟩ [] .ret (some ([(0, vb false)], [])))))))))))

theorem THead_chk (D0 : Dsk) (D1 : Dsk) (D2 : Dsk) (D3 : Dsk) (D4 : Dsk) (D5 : Dsk) (out : List UInt8) : fnC DP Γ0 ΔD Try.f9 [] [] (THead D0 D1 D2 D3 D4 D5 out) = THead D0 D1 D2 D3 D4 D5 out := by kernel_rfl

end Go.Ax
