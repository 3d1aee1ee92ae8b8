/- Trees, printed by gen/k2.py: the laws of the disk. -/
import Derived.Test.YtnhhaidlpbkmjaaDr1b
set_option linter.unusedVariables false
set_option linter.unusedSimpArgs false
set_option linter.unusedSectionVars false
namespace Go.Ax
open Go.Proofs Go.RowKit
set_option maxRecDepth 100000

abbrev iNone : Nat := 5
noncomputable abbrev nNone : Func := Try.f5
theorem hfNone : DP.funcs[iNone]? = some nNone := by kernel_rfl
theorem heNone : enters DP iNone = true := by kernel_rfl
theorem hbNone : nNone.body.isSome = true := by kernel_rfl
theorem hnNone : nNone.ntmps = 101 := by kernel_rfl

noncomputable def TNone (a : List UInt8) (b : List UInt8) (q : Bool) (D0 : Dsk) (D1 : Dsk) (D2 : Dsk) (D3 : Dsk) (D4 : Dsk) (D5 : Dsk) (D6 : Dsk) : Tree :=
.call 12 (gHead [] = some (vb true)) (vb true) (.int 15 ((a.map byteE.f).length : Int) (a.length : Int) (.sp 16 (decide ((a.length : Int) > (200 : Int))) (
.leaf ⟨[0], []⟩ [] .ret (some ([(0, vb true)], []))) (
.int 19 ((b.map byteE.f).length : Int) (b.length : Int) (.sp 20 (decide ((b.length : Int) > (200 : Int))) (
.leaf ⟨[0], []⟩ [] .ret (some ([(0, vb true)], []))) (
.callr (some 22) (ΔD 10 [vi 1000] [] (.op 0) [.obj [] (diskP D0)]) (.op 0) [.obj [] (diskP D0)] (.callr (some 24) (ΔD 11 [.op 0, vs (⟨#[120]⟩)] [.obj [] (diskP D0)] (vi 0) [.obj [] (diskP D1)]) (vi 0) [.obj [] (diskP D1)] (.callr (some 29) (ΔD 12 [.op 0, vs (⟨#[120]⟩), vl (a.map byteE.f)] [.obj [] (diskP D1)] (vi 0) [.obj [] (diskP D2)]) (vi 0) [.obj [] (diskP D2)] (.callr (some 34) (ΔD 11 [.op 0, vs (⟨#[121]⟩)] [.obj [] (diskP D2)] (vi 0) [.obj [] (diskP D3)]) (vi 0) [.obj [] (diskP D3)] (.callr (some 40) (ΔD 12 [.op 0, vs (⟨#[121]⟩), vl (b.map byteE.f)] [.obj [] (diskP D3)] (vi 0) [.obj [] (diskP D4)]) (vi 0) [.obj [] (diskP D4)] (.callr (some 45) (ΔD 19 [.op 0] [.obj [] (diskP D4)] (vi ((a.length : Int) + (b.length : Int))) [.obj [] (diskP D4)]) (vi ((a.length : Int) + (b.length : Int))) [.obj [] (diskP D4)] (.int 47 ((a.map byteE.f).length : Int) (a.length : Int) (.int 49 ((b.map byteE.f).length : Int) (b.length : Int) (.int 50 (IntKind.i64.wrap ((a.length : Int) + (b.length : Int))) ((a.length : Int) + (b.length : Int)) (.sp 51 (((a.length : Int) + (b.length : Int)) != ((a.length : Int) + (b.length : Int))) (
.leaf ⟨[0], []⟩ [] .ret (some ([(0, vb false)], []))) (
.sp 53 q (
.callr (some 55) (ΔD 20 [.op 0, vs (⟨#[120]⟩), vs (⟨#[121]⟩)] [.obj [] (diskP D4)] (vi 0) [.obj [] (diskP D5)]) (vi 0) [.obj [] (diskP D5)] (.callr (some 67) (ΔD 15 [.op 0, vs (⟨#[121]⟩), vi 0, vi 500] [.obj [] (diskP D5)] (.tup [.rs 1 0 1 0 a.length, vi 0]) [.obj [] (diskP D5), byteE.bx 0 a]) (.tup [.rs 1 0 1 0 a.length, vi 0]) [.obj [] (diskP D5), byteE.bx 0 a] (.callr (some 72) (ΔD 22 [.op 0, vs (⟨#[120]⟩)] [.obj [] (diskP D5), byteE.bx 0 a] (.tup [vi 0, vi 4]) [.obj [] (diskP D5), byteE.bx 0 a]) (.tup [vi 0, vi 4]) [.obj [] (diskP D5), byteE.bx 0 a] (.bstr 79 a.length (rowC (a.map byteE.f)) a (.bstrl 81 (a.map byteE.f) a (.sp 82 ((⟨a.toArray⟩ : ByteArray).toList == (⟨a.toArray⟩ : ByteArray).toList) (
.callr (some 90) (ΔD 19 [.op 0] [.obj [] (diskP D5), byteE.bx 0 a] (vi (a.length : Int)) [.obj [] (diskP D5), byteE.bx 0 a]) (vi (a.length : Int)) [.obj [] (diskP D5), byteE.bx 0 a] (.int 92 ((a.map byteE.f).length : Int) (a.length : Int) (.sp 93 ((a.length : Int) == (a.length : Int)) (
.callr (some 97) (ΔD 18 [.op 0] [.obj [] (diskP D5), byteE.bx 0 a] (vl (([⟨#[121]⟩] : List ByteArray).map nameE.f)) [.obj [] (diskP D5), byteE.bx 0 a]) (vl (([⟨#[121]⟩] : List ByteArray).map nameE.f)) [.obj [] (diskP D5), byteE.bx 0 a] (.int 98 ((([⟨#[121]⟩] : List ByteArray).map nameE.f).length : Int) (([⟨#[121]⟩] : List ByteArray).length : Int) (.leaf ⟨[0], []⟩ [] .ret (some ([(0, vb ((([⟨#[121]⟩] : List ByteArray).length : Int) == (1 : Int)))], []))))) (
.leaf ⟨[0], []⟩ [] .ret (some ([(0, vb false)], [])))))) (
.leaf ⟨[0], []⟩ [] .ret (some ([(0, vb false)], []))))))))) (
.callr (some 58) (ΔD 21 [.op 0, vs (⟨#[121]⟩)] [.obj [] (diskP D4)] (vi 0) [.obj [] (diskP D6)]) (vi 0) [.obj [] (diskP D6)] (.callr (some 62) (ΔD 20 [.op 0, vs (⟨#[120]⟩), vs (⟨#[121]⟩)] [.obj [] (diskP D6)] (vi 0) [.obj [] (diskP D5)]) (vi 0) [.obj [] (diskP D5)] (.callr (some 67) (ΔD 15 [.op 0, vs (⟨#[121]⟩), vi 0, vi 500] [.obj [] (diskP D5)] (.tup [.rs 1 0 1 0 a.length, vi 0]) [.obj [] (diskP D5), byteE.bx 0 a]) (.tup [.rs 1 0 1 0 a.length, vi 0]) [.obj [] (diskP D5), byteE.bx 0 a] (.callr (some 72) (ΔD 22 [.op 0, vs (⟨#[120]⟩)] [.obj [] (diskP D5), byteE.bx 0 a] (.tup [vi 0, vi 4]) [.obj [] (diskP D5), byteE.bx 0 a]) (.tup [vi 0, vi 4]) [.obj [] (diskP D5), byteE.bx 0 a] (.bstr 79 a.length (rowC (a.map byteE.f)) a (.bstrl 81 (a.map byteE.f) a (.sp 82 ((⟨a.toArray⟩ : ByteArray).toList == (⟨a.toArray⟩ : ByteArray).toList) (
.callr (some 90) (ΔD 19 [.op 0] [.obj [] (diskP D5), byteE.bx 0 a] (vi (a.length : Int)) [.obj [] (diskP D5), byteE.bx 0 a]) (vi (a.length : Int)) [.obj [] (diskP D5), byteE.bx 0 a] (.int 92 ((a.map byteE.f).length : Int) (a.length : Int) (.sp 93 ((a.length : Int) == (a.length : Int)) (
.callr (some 97) (ΔD 18 [.op 0] [.obj [] (diskP D5), byteE.bx 0 a] (vl (([⟨#[121]⟩] : List ByteArray).map nameE.f)) [.obj [] (diskP D5), byteE.bx 0 a]) (vl (([⟨#[121]⟩] : List ByteArray).map nameE.f)) [.obj [] (diskP D5), byteE.bx 0 a] (.int 98 ((([⟨#[121]⟩] : List ByteArray).map nameE.f).length : Int) (([⟨#[121]⟩] : List ByteArray).length : Int) (.leaf ⟨[0], []⟩ [] .ret (some ([(0, vb ((([⟨#[121]⟩] : List ByteArray).length : Int) == (1 : Int)))], []))))) (
.leaf ⟨[0], []⟩ [] .ret (some ([(0, vb false)], [])))))) (
.leaf ⟨[0], []⟩ [] .ret (some ([(0, vb false)], [])))))))))))))))))))))))))

theorem TNone_chk (a : List UInt8) (b : List UInt8) (q : Bool) (D0 : Dsk) (D1 : Dsk) (D2 : Dsk) (D3 : Dsk) (D4 : Dsk) (D5 : Dsk) (D6 : Dsk) : fnC DP ΓH ΔD Try.f5 [vl (a.map byteE.f), vl (b.map byteE.f), vb q] [] (TNone a b q D0 D1 D2 D3 D4 D5 D6) = TNone a b q D0 D1 D2 D3 D4 D5 D6 := by kernel_rfl

end Go.Ax
