/- Trees, printed by gen/k2.py: the laws of the disk. -/
import Derived.Test.YtnhhaidlpbkmjaaDr1b
set_option linter.unusedVariables false
set_option linter.unusedSimpArgs false
set_option linter.unusedSectionVars false
namespace Go.Ax
open Go.Proofs Go.RowKit
set_option maxRecDepth 100000

abbrev iSure : Nat := 3
noncomputable abbrev nSure : Func := Try.f3
theorem hfSure : DP.funcs[iSure]? = some nSure := by kernel_rfl
theorem heSure : enters DP iSure = true := by kernel_rfl
theorem hbSure : nSure.body.isSome = true := by kernel_rfl
theorem hnSure : nSure.ntmps = 98 := by kernel_rfl

noncomputable def TSure_l1_e (b : List UInt8) (more : List UInt8) (keeps : List (List Int)) (s1 : Dsk × Int × Int) : St := ([(0, vl (b.map byteE.f)), (7, .op 0), (8, vs ((⟨b.toArray⟩ : ByteArray) ++ (⟨more.toArray⟩ : ByteArray))), (9, vi s1.2.2), (57, vl (keeps.map ilsE.f)), (58, vi (keeps.length : Int)), (59, vi s1.2.1)], [.obj [] (diskP s1.1)])
noncomputable def TSure_l1_x (x1 : Unit) : AE × St := (.ret, ([(6, vb false)], []))
noncomputable def TSure_l1_x' (y1 : Unit) : AE × St := ((.exit 0), ([], []))
noncomputable def TSure_l1_b (b : List UInt8) (more : List UInt8) (keeps : List (List Int)) (s1 : Dsk × Int × Int) : Tree :=
.sp 60 (decide (s1.2.1 < (keeps.length : Int))) (
.elem 61 (keeps.map ilsE.f) ilsE keeps s1.2.1 (fun e1 => .callr (some 65) (ΔD 14 [.op 0, vl (e1.map intE.f)] [.obj [] (diskP s1.1)] (.tup []) [.obj [] (diskP (crashD s1.1 e1))]) (.tup []) [.obj [] (diskP (crashD s1.1 e1))] (.callr (some 68) (ΔD 15 [.op 0, vs (⟨#[102]⟩), vi 0, vi 2000] [.obj [] (diskP (crashD s1.1 e1))] (.tup [.rs 1 0 1 0 (((readD (crashD s1.1 e1) ⟨#[102]⟩ 0 2000).1).length), vi 0]) [.obj [] (diskP (crashD s1.1 e1)), byteE.bx 0 ((readD (crashD s1.1 e1) ⟨#[102]⟩ 0 2000).1)]) (.tup [.rs 1 0 1 0 (((readD (crashD s1.1 e1) ⟨#[102]⟩ 0 2000).1).length), vi 0]) [.obj [] (diskP (crashD s1.1 e1)), byteE.bx 0 ((readD (crashD s1.1 e1) ⟨#[102]⟩ 0 2000).1)] (.int 77 ((b.map byteE.f).length : Int) (b.length : Int) (.sp 78 (decide (((((readD (crashD s1.1 e1) ⟨#[102]⟩ 0 2000).1).length : Nat) : Int) < (b.length : Int))) (
.leaf ⟨[6], []⟩ [] .ret (some (TSure_l1_x ()).2)) (
.sp 84 (decide (((((readD (crashD s1.1 e1) ⟨#[102]⟩ 0 2000).1).length : Nat) : Int) > s1.2.2)) (
.leaf ⟨[6], []⟩ [] .ret (some (TSure_l1_x ()).2)) (
.bstr 88 (((readD (crashD s1.1 e1) ⟨#[102]⟩ 0 2000).1).length) (rowC (((readD (crashD s1.1 e1) ⟨#[102]⟩ 0 2000).1).map byteE.f)) ((readD (crashD s1.1 e1) ⟨#[102]⟩ 0 2000).1) (.scut 92 ((⟨b.toArray⟩ : ByteArray) ++ (⟨more.toArray⟩ : ByteArray)) none (some ((((readD (crashD s1.1 e1) ⟨#[102]⟩ 0 2000).1).length : Nat) : Int)) (.sp 93 (!((⟨((readD (crashD s1.1 e1) ⟨#[102]⟩ 0 2000).1).toArray⟩ : ByteArray).toList == (((⟨b.toArray⟩ : ByteArray) ++ (⟨more.toArray⟩ : ByteArray)).extract (loN none) (hiN (some ((((readD (crashD s1.1 e1) ⟨#[102]⟩ 0 2000).1).length : Nat) : Int)) ((⟨b.toArray⟩ : ByteArray) ++ (⟨more.toArray⟩ : ByteArray)).size)).toList)) (
.leaf ⟨[6], []⟩ [] .ret (some (TSure_l1_x ()).2)) (
.int 97 (IntKind.i64.wrap (s1.2.1 + 1)) (s1.2.1 + 1) (.leaf ⟨[0, 7, 8, 9, 57, 58, 59], [(0, 0, none)]⟩ [] .normal (some (TSure_l1_e b more keeps ((crashD s1.1 e1), s1.2.1 + 1, ((((readD (crashD s1.1 e1) ⟨#[102]⟩ 0 2000).1).length : Nat) : Int))))))))))))))) (
.leaf ⟨[], []⟩ [] (.exit 0) (some (TSure_l1_x' ()).2))
noncomputable def TSure (b : List UInt8) (more : List UInt8) (keeps : List (List Int)) (D0 : Dsk) (D1 : Dsk) (D2 : Dsk) (D3 : Dsk) (D4 : Dsk) : Tree :=
.call 14 (gHead [] = some (vb true)) (vb true) (.int 17 ((b.map byteE.f).length : Int) (b.length : Int) (.sp 18 (decide ((b.length : Int) > (500 : Int))) (
.leaf ⟨[0], []⟩ [] .ret (some ([(0, vb true)], []))) (
.int 21 ((more.map byteE.f).length : Int) (more.length : Int) (.sp 22 (decide ((more.length : Int) > (500 : Int))) (
.leaf ⟨[0], []⟩ [] .ret (some ([(0, vb true)], []))) (
.int 26 ((keeps.map ilsE.f).length : Int) (keeps.length : Int) (.sp 27 (decide ((keeps.length : Int) > (10 : Int))) (
.leaf ⟨[0], []⟩ [] .ret (some ([(0, vb true)], []))) (
.callr (some 29) (ΔD 10 [vi 5000] [] (.op 0) [.obj [] (diskP D0)]) (.op 0) [.obj [] (diskP D0)] (.callr (some 31) (ΔD 11 [.op 0, vs (⟨#[102]⟩)] [.obj [] (diskP D0)] (vi 0) [.obj [] (diskP D1)]) (vi 0) [.obj [] (diskP D1)] (.callr (some 36) (ΔD 12 [.op 0, vs (⟨#[102]⟩), vl (b.map byteE.f)] [.obj [] (diskP D1)] (vi 0) [.obj [] (diskP D2)]) (vi 0) [.obj [] (diskP D2)] (.callr (some 41) (ΔD 13 [.op 0, vs (⟨#[102]⟩)] [.obj [] (diskP D2)] (vi 0) [.obj [] (diskP D3)]) (vi 0) [.obj [] (diskP D3)] (.callr (some 47) (ΔD 12 [.op 0, vs (⟨#[102]⟩), vl (more.map byteE.f)] [.obj [] (diskP D3)] (vi 0) [.obj [] (diskP D4)]) (vi 0) [.obj [] (diskP D4)] (.bstrl 51 (b.map byteE.f) b (.bstrl 53 (more.map byteE.f) more (.val (some 54) ((binA DP .add 9 (vs (⟨b.toArray⟩)) (vs (⟨more.toArray⟩))).map (fun v => (v, ([.obj [] (diskP D4)] : List Box))) = some (vs ((⟨b.toArray⟩ : ByteArray) ++ (⟨more.toArray⟩ : ByteArray)), [.obj [] (diskP D4)])) (vs ((⟨b.toArray⟩ : ByteArray) ++ (⟨more.toArray⟩ : ByteArray))) [.obj [] (diskP D4)] (.int 58 ((keeps.map ilsE.f).length : Int) (keeps.length : Int) (.loop ⟨[0, 7, 8, 9, 57, 58, 59], [(0, 0, none)]⟩ [] (some (TSure_l1_e b more keeps (D4, 0, (((⟨b.toArray⟩ : ByteArray) ++ (⟨more.toArray⟩ : ByteArray)).size : Int)))) (TSure_l1_e b more keeps) (TSure_l1_x) (TSure_l1_x') (D4, 0, (((⟨b.toArray⟩ : ByteArray) ++ (⟨more.toArray⟩ : ByteArray)).size : Int)) (TSure_l1_b b more keeps) (fun (x1 : Unit) => .leaf ⟨[0], []⟩ [] .ret (some ([(0, vb false)], []))) (fun (y1 : Unit) => .leaf ⟨[0], []⟩ [] .ret (some ([(0, vb true)], [])))))))))))))))))))

theorem TSure_chk (b : List UInt8) (more : List UInt8) (keeps : List (List Int)) (D0 : Dsk) (D1 : Dsk) (D2 : Dsk) (D3 : Dsk) (D4 : Dsk) : fnC DP ΓH ΔD Try.f3 [vl (b.map byteE.f), vl (more.map byteE.f), vl (keeps.map ilsE.f)] [] (TSure b more keeps D0 D1 D2 D3 D4) = TSure b more keeps D0 D1 D2 D3 D4 := by kernel_rfl

end Go.Ax
