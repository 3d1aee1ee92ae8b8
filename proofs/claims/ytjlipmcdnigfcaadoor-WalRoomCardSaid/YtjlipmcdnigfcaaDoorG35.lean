/- Trees, printed by gen/w1.py. -/
import Derived.Test.YtjlipmcdnigfcaaDoorG34
import Derived.Test.YtjlipmcdnigfcaaDoorG32
import Derived.Test.YtjlipmcdnigfcaaDoorTie
import Derived.Test.YtjlipmcdnigfcaaDoorG12
import Derived.OpenShut
import Derived.WalkKit
import Derived.ProofKit
import Derived.LaidMore
import Derived.LaidLaws
import Derived.LaidHandle
import Derived.Lib.LaidTab
import Derived.Stop.Joined
set_option linter.unusedVariables false
set_option linter.unusedSimpArgs false
set_option linter.unusedSectionVars false
namespace Go.Ax
open Go.Proofs Go.RowKit
set_option maxRecDepth 100000

abbrev iWalRoom : Nat := 5
noncomputable abbrev nWalRoom : Func := Tryd.f5
theorem hfWalRoom : DP.funcs[iWalRoom]? = some nWalRoom := by kernel_rfl
theorem heWalRoom : enters DP iWalRoom = true := by kernel_rfl
theorem hbWalRoom : nWalRoom.body.isSome = true := by kernel_rfl
theorem hnWalRoom : nWalRoom.ntmps = 140 := by kernel_rfl

noncomputable def TRoom_l1_e (texts : List ByteArray) (s1 : Int × Dsk × (List ByteArray) × Int) : St := ([(5, .op 0), (6, .ptr 1 0 0), (9, .rs 2 0 1 0 s1.2.2.1.length), (49, vl (texts.map nameE.f)), (50, vi (texts.length : Int)), (51, vi s1.2.2.2)], [.obj [] (diskP s1.2.1), .cells false 0 ([.op 0, vi 1, vi s1.1, vb true]), nameE.bx 0 s1.2.2.1])
noncomputable def TRoom_l1_x (x1 : Bool) : AE × St := (.ret, ([(4, vb x1)], []))
noncomputable def TRoom_l1_x' (y1 : Int × Dsk) : AE × St := ((.exit 0), ([(6, .ptr 0 0 0)], [.cells false 0 ([.op 1, vi 1, vi y1.1, vb true]), .obj [] (diskP y1.2)]))
noncomputable def TRoom_l1_b (room : Int) (texts : List ByteArray) (s1 : Int × Dsk × (List ByteArray) × Int) : Tree :=
.sp 52 (decide (s1.2.2.2 < (texts.length : Int))) (
.elem 53 (texts.map nameE.f) nameE texts s1.2.2.2 (fun e1 => .sp 57 (decide ((e1.size : Int) > (100 : Int))) (
.leaf ⟨[4], []⟩ [] .ret (some (TRoom_l1_x true).2)) (
.callr (some 60) (Δ7 19 [.ptr 1 0 0, vs e1] [.obj [] (diskP s1.2.1), .cells false 0 ([.op 0, vi 1, vi s1.1, vb true]), nameE.bx 0 s1.2.2.1] (vi ((appendD s1.2.1 (wname 1) (recB e1.data.toList)).2)) [.obj [] (diskP ((appendD s1.2.1 (wname 1) (recB e1.data.toList)).1)), .cells false 0 ([.op 0, vi 1, vi (addG s1.2.1 1 s1.1 e1), vb true]), nameE.bx 0 s1.2.2.1]) (vi ((appendD s1.2.1 (wname 1) (recB e1.data.toList)).2)) [.obj [] (diskP ((appendD s1.2.1 (wname 1) (recB e1.data.toList)).1)), .cells false 0 ([.op 0, vi 1, vi (addG s1.2.1 1 s1.1 e1), vb true]), nameE.bx 0 s1.2.2.1] (.callr (some 62) (Δ7 25 [.op 0] [.obj [] (diskP ((appendD s1.2.1 (wname 1) (recB e1.data.toList)).1)), .cells false 0 ([.op 0, vi 1, vi (addG s1.2.1 1 s1.1 e1), vb true]), nameE.bx 0 s1.2.2.1] (vi ((((appendD s1.2.1 (wname 1) (recB e1.data.toList)).1)).room - (((appendD s1.2.1 (wname 1) (recB e1.data.toList)).1)).used)) [.obj [] (diskP ((appendD s1.2.1 (wname 1) (recB e1.data.toList)).1)), .cells false 0 ([.op 0, vi 1, vi (addG s1.2.1 1 s1.1 e1), vb true]), nameE.bx 0 s1.2.2.1]) (vi ((((appendD s1.2.1 (wname 1) (recB e1.data.toList)).1)).room - (((appendD s1.2.1 (wname 1) (recB e1.data.toList)).1)).used)) [.obj [] (diskP ((appendD s1.2.1 (wname 1) (recB e1.data.toList)).1)), .cells false 0 ([.op 0, vi 1, vi (addG s1.2.1 1 s1.1 e1), vb true]), nameE.bx 0 s1.2.2.1] (.sp 63 (decide (((((appendD s1.2.1 (wname 1) (recB e1.data.toList)).1)).room - (((appendD s1.2.1 (wname 1) (recB e1.data.toList)).1)).used) ≥ (0 : Int))) (
.sp 65 (((appendD s1.2.1 (wname 1) (recB e1.data.toList)).2) == (0 : Int)) (
.app 69 (.row 1 ([vs e1])) s1.2.2.1.length (rowC (s1.2.2.1.map nameE.f)) nameE s1.2.2.1 ([e1]) (.callr (some 78) (Δ7 16 [.op 0, vi 1] [.obj [] (diskP ((appendD s1.2.1 (wname 1) (recB e1.data.toList)).1)), .cells false 0 ([.op 0, vi 1, vi (addG s1.2.1 1 s1.1 e1), vb true]), nameE.bx 1 (s1.2.2.1 ++ ([e1])), .cells true 0 ([vs e1])] (.tup [.ptr 4 0 0, .rs 5 0 1 0 ((s1.2.2.1 ++ ([e1])).length), vi 0]) [.obj [] (diskP ((appendD s1.2.1 (wname 1) (recB e1.data.toList)).1)), .cells false 0 ([.op 0, vi 1, vi (addG s1.2.1 1 s1.1 e1), vb true]), nameE.bx 1 (s1.2.2.1 ++ ([e1])), .cells true 0 ([vs e1]), .cells false 0 ([.op 0, vi 1, vi (addG s1.2.1 1 s1.1 e1), vb false]), nameE.bx 0 (s1.2.2.1 ++ ([e1]))]) (.tup [.ptr 4 0 0, .rs 5 0 1 0 ((s1.2.2.1 ++ ([e1])).length), vi 0]) [.obj [] (diskP ((appendD s1.2.1 (wname 1) (recB e1.data.toList)).1)), .cells false 0 ([.op 0, vi 1, vi (addG s1.2.1 1 s1.1 e1), vb true]), nameE.bx 1 (s1.2.2.1 ++ ([e1])), .cells true 0 ([vs e1]), .cells false 0 ([.op 0, vi 1, vi (addG s1.2.1 1 s1.1 e1), vb false]), nameE.bx 0 (s1.2.2.1 ++ ([e1]))] (.callr (some 89) (Δ7 20 [.rs 5 0 1 0 ((s1.2.2.1 ++ ([e1])).length), .rs 2 1 1 0 ((s1.2.2.1 ++ ([e1])).length), vi (((s1.2.2.1 ++ ([e1])).length : Nat) : Int)] [.obj [] (diskP ((appendD s1.2.1 (wname 1) (recB e1.data.toList)).1)), .cells false 0 ([.op 0, vi 1, vi (addG s1.2.1 1 s1.1 e1), vb true]), nameE.bx 1 (s1.2.2.1 ++ ([e1])), .cells true 0 ([vs e1]), .cells false 0 ([.op 0, vi 1, vi (addG s1.2.1 1 s1.1 e1), vb false]), nameE.bx 0 (s1.2.2.1 ++ ([e1]))] (vb true) [.obj [] (diskP ((appendD s1.2.1 (wname 1) (recB e1.data.toList)).1)), .cells false 0 ([.op 0, vi 1, vi (addG s1.2.1 1 s1.1 e1), vb true]), nameE.bx 1 (s1.2.2.1 ++ ([e1])), .cells true 0 ([vs e1]), .cells false 0 ([.op 0, vi 1, vi (addG s1.2.1 1 s1.1 e1), vb false]), .dead]) (vb true) [.obj [] (diskP ((appendD s1.2.1 (wname 1) (recB e1.data.toList)).1)), .cells false 0 ([.op 0, vi 1, vi (addG s1.2.1 1 s1.1 e1), vb true]), nameE.bx 1 (s1.2.2.1 ++ ([e1])), .cells true 0 ([vs e1]), .cells false 0 ([.op 0, vi 1, vi (addG s1.2.1 1 s1.1 e1), vb false]), .dead] (.int 92 (IntKind.i64.wrap (s1.2.2.2 + 1)) (s1.2.2.2 + 1) (.leaf ⟨[5, 6, 9, 49, 50, 51], [(0, 0, none), (1, 0, none), (2, 1, some ((s1.2.2.1 ++ ([e1])).map nameE.f))]⟩ [rowC ((s1.2.2.1 ++ ([e1])).map nameE.f)] .normal (some (TRoom_l1_e texts (addG s1.2.1 1 s1.1 e1, ((appendD s1.2.1 (wname 1) (recB e1.data.toList)).1), s1.2.2.1 ++ ([e1]), s1.2.2.2 + 1)))))))) (
.sp 71 (((appendD s1.2.1 (wname 1) (recB e1.data.toList)).2) != (11 : Int)) (
.leaf ⟨[4], []⟩ [] .ret (some (TRoom_l1_x false).2)) (
.callr (some 78) (Δ7 16 [.op 0, vi 1] [.obj [] (diskP ((appendD s1.2.1 (wname 1) (recB e1.data.toList)).1)), .cells false 0 ([.op 0, vi 1, vi (addG s1.2.1 1 s1.1 e1), vb true]), nameE.bx 0 s1.2.2.1] (.tup [.ptr 3 0 0, .rs 4 0 1 0 s1.2.2.1.length, vi 0]) [.obj [] (diskP ((appendD s1.2.1 (wname 1) (recB e1.data.toList)).1)), .cells false 0 ([.op 0, vi 1, vi (addG s1.2.1 1 s1.1 e1), vb true]), nameE.bx 0 s1.2.2.1, .cells false 0 ([.op 0, vi 1, vi (addG s1.2.1 1 s1.1 e1), vb false]), nameE.bx 0 s1.2.2.1]) (.tup [.ptr 3 0 0, .rs 4 0 1 0 s1.2.2.1.length, vi 0]) [.obj [] (diskP ((appendD s1.2.1 (wname 1) (recB e1.data.toList)).1)), .cells false 0 ([.op 0, vi 1, vi (addG s1.2.1 1 s1.1 e1), vb true]), nameE.bx 0 s1.2.2.1, .cells false 0 ([.op 0, vi 1, vi (addG s1.2.1 1 s1.1 e1), vb false]), nameE.bx 0 s1.2.2.1] (.callr (some 89) (Δ7 20 [.rs 4 0 1 0 s1.2.2.1.length, .rs 2 0 1 0 s1.2.2.1.length, vi ((s1.2.2.1.length : Nat) : Int)] [.obj [] (diskP ((appendD s1.2.1 (wname 1) (recB e1.data.toList)).1)), .cells false 0 ([.op 0, vi 1, vi (addG s1.2.1 1 s1.1 e1), vb true]), nameE.bx 0 s1.2.2.1, .cells false 0 ([.op 0, vi 1, vi (addG s1.2.1 1 s1.1 e1), vb false]), nameE.bx 0 s1.2.2.1] (vb true) [.obj [] (diskP ((appendD s1.2.1 (wname 1) (recB e1.data.toList)).1)), .cells false 0 ([.op 0, vi 1, vi (addG s1.2.1 1 s1.1 e1), vb true]), nameE.bx 0 s1.2.2.1, .cells false 0 ([.op 0, vi 1, vi (addG s1.2.1 1 s1.1 e1), vb false]), .dead]) (vb true) [.obj [] (diskP ((appendD s1.2.1 (wname 1) (recB e1.data.toList)).1)), .cells false 0 ([.op 0, vi 1, vi (addG s1.2.1 1 s1.1 e1), vb true]), nameE.bx 0 s1.2.2.1, .cells false 0 ([.op 0, vi 1, vi (addG s1.2.1 1 s1.1 e1), vb false]), .dead] (.int 92 (IntKind.i64.wrap (s1.2.2.2 + 1)) (s1.2.2.2 + 1) (.leaf ⟨[5, 6, 9, 49, 50, 51], [(0, 0, none), (1, 0, none), (2, 0, some (s1.2.2.1.map nameE.f))]⟩ [rowC (s1.2.2.1.map nameE.f)] .normal (some (TRoom_l1_e texts (addG s1.2.1 1 s1.1 e1, ((appendD s1.2.1 (wname 1) (recB e1.data.toList)).1), s1.2.2.1, s1.2.2.2 + 1))))))))) (
.sp 65 (((appendD s1.2.1 (wname 1) (recB e1.data.toList)).2) == (0 : Int)) (
.app 69 (.row 1 ([vs e1])) s1.2.2.1.length (rowC (s1.2.2.1.map nameE.f)) nameE s1.2.2.1 ([e1]) (.callr (some 78) (Δ7 16 [.op 0, vi 1] [.obj [] (diskP ((appendD s1.2.1 (wname 1) (recB e1.data.toList)).1)), .cells false 0 ([.op 0, vi 1, vi (addG s1.2.1 1 s1.1 e1), vb true]), nameE.bx 1 (s1.2.2.1 ++ ([e1])), .cells true 0 ([vs e1])] (.tup [.ptr 4 0 0, .rs 5 0 1 0 ((s1.2.2.1 ++ ([e1])).length), vi 0]) [.obj [] (diskP ((appendD s1.2.1 (wname 1) (recB e1.data.toList)).1)), .cells false 0 ([.op 0, vi 1, vi (addG s1.2.1 1 s1.1 e1), vb true]), nameE.bx 1 (s1.2.2.1 ++ ([e1])), .cells true 0 ([vs e1]), .cells false 0 ([.op 0, vi 1, vi (addG s1.2.1 1 s1.1 e1), vb false]), nameE.bx 0 (s1.2.2.1 ++ ([e1]))]) (.tup [.ptr 4 0 0, .rs 5 0 1 0 ((s1.2.2.1 ++ ([e1])).length), vi 0]) [.obj [] (diskP ((appendD s1.2.1 (wname 1) (recB e1.data.toList)).1)), .cells false 0 ([.op 0, vi 1, vi (addG s1.2.1 1 s1.1 e1), vb true]), nameE.bx 1 (s1.2.2.1 ++ ([e1])), .cells true 0 ([vs e1]), .cells false 0 ([.op 0, vi 1, vi (addG s1.2.1 1 s1.1 e1), vb false]), nameE.bx 0 (s1.2.2.1 ++ ([e1]))] (.callr (some 89) (Δ7 20 [.rs 5 0 1 0 ((s1.2.2.1 ++ ([e1])).length), .rs 2 1 1 0 ((s1.2.2.1 ++ ([e1])).length), vi (((s1.2.2.1 ++ ([e1])).length : Nat) : Int)] [.obj [] (diskP ((appendD s1.2.1 (wname 1) (recB e1.data.toList)).1)), .cells false 0 ([.op 0, vi 1, vi (addG s1.2.1 1 s1.1 e1), vb true]), nameE.bx 1 (s1.2.2.1 ++ ([e1])), .cells true 0 ([vs e1]), .cells false 0 ([.op 0, vi 1, vi (addG s1.2.1 1 s1.1 e1), vb false]), nameE.bx 0 (s1.2.2.1 ++ ([e1]))] (vb true) [.obj [] (diskP ((appendD s1.2.1 (wname 1) (recB e1.data.toList)).1)), .cells false 0 ([.op 0, vi 1, vi (addG s1.2.1 1 s1.1 e1), vb true]), nameE.bx 1 (s1.2.2.1 ++ ([e1])), .cells true 0 ([vs e1]), .cells false 0 ([.op 0, vi 1, vi (addG s1.2.1 1 s1.1 e1), vb false]), .dead]) (vb true) [.obj [] (diskP ((appendD s1.2.1 (wname 1) (recB e1.data.toList)).1)), .cells false 0 ([.op 0, vi 1, vi (addG s1.2.1 1 s1.1 e1), vb true]), nameE.bx 1 (s1.2.2.1 ++ ([e1])), .cells true 0 ([vs e1]), .cells false 0 ([.op 0, vi 1, vi (addG s1.2.1 1 s1.1 e1), vb false]), .dead] (.int 92 (IntKind.i64.wrap (s1.2.2.2 + 1)) (s1.2.2.2 + 1) (.leaf ⟨[5, 6, 9, 49, 50, 51], [(0, 0, none), (1, 0, none), (2, 1, some ((s1.2.2.1 ++ ([e1])).map nameE.f))]⟩ [rowC ((s1.2.2.1 ++ ([e1])).map nameE.f)] .normal (some (TRoom_l1_e texts (addG s1.2.1 1 s1.1 e1, ((appendD s1.2.1 (wname 1) (recB e1.data.toList)).1), s1.2.2.1 ++ ([e1]), s1.2.2.2 + 1)))))))) (
.sp 71 (((appendD s1.2.1 (wname 1) (recB e1.data.toList)).2) != (11 : Int)) (
.leaf ⟨[4], []⟩ [] .ret (some (TRoom_l1_x false).2)) (
.leaf ⟨[4], []⟩ [] .ret (some (TRoom_l1_x false).2))))))))) (
.leaf ⟨[6], [(1, 0, none), (0, 0, none)]⟩ [] (.exit 0) (some (TRoom_l1_x' (s1.1, s1.2.1)).2))
noncomputable def TRoom (room : Int) (texts : List ByteArray) (D0 : Dsk) (D1 : Dsk) (D2 : Dsk) (g1 : Int) : Tree :=
.call 21 (gHeadL [] = some (vb true)) (vb true) (.int 24 ((texts.map nameE.f).length : Int) (texts.length : Int) (.sp 25 (decide ((texts.length : Int) > (20 : Int))) (
.leaf ⟨[0], []⟩ [] .ret (some ([(0, vb true)], []))) (
.int 27 (IntKind.i64.wrap ((BitVec.ofInt IntKind.i64.bits room &&& BitVec.ofInt IntKind.i64.bits 511).toNat)) (room % 512) (.int 28 (IntKind.i64.wrap (50 + (room % 512))) (50 + (room % 512)) (.callr (some 29) (Δ7 15 [vi (50 + (room % 512))] [] (.op 0) [.obj [] (diskP D0)]) (.op 0) [.obj [] (diskP D0)] (.callr (some 32) (Δ7 16 [.op 0, vi 1] [.obj [] (diskP D0)] (.tup [.ptr 1 0 0, .rs 2 0 1 0 (([] : List ByteArray).length), vi 0]) [.obj [] (diskP D0), .cells false 0 ([.op 0, vi 0, vi 0, vb false]), nameE.bx 0 ([] : List ByteArray)]) (.tup [.ptr 1 0 0, .rs 2 0 1 0 (([] : List ByteArray).length), vi 0]) [.obj [] (diskP D0), .cells false 0 ([.op 0, vi 0, vi 0, vb false]), nameE.bx 0 ([] : List ByteArray)] (.callr (some 40) (Δ7 17 [.ptr 1 0 0, vi 1] [.obj [] (diskP D0), .cells false 0 ([.op 0, vi 0, vi 0, vb false]), nameE.bx 0 ([] : List ByteArray)] (vi 0) [.obj [] (diskP D1), .cells false 0 ([.op 0, vi 1, vi g1, vb true]), nameE.bx 0 ([] : List ByteArray)]) (vi 0) [.obj [] (diskP D1), .cells false 0 ([.op 0, vi 1, vi g1, vb true]), nameE.bx 0 ([] : List ByteArray)] (.callr (some 45) (Δ7 24 [.op 0, vs (⟨#[111, 116, 104, 101, 114]⟩)] [.obj [] (diskP D1), .cells false 0 ([.op 0, vi 1, vi g1, vb true]), nameE.bx 0 ([] : List ByteArray)] (vi 0) [.obj [] (diskP D2), .cells false 0 ([.op 0, vi 1, vi g1, vb true]), nameE.bx 0 ([] : List ByteArray)]) (vi 0) [.obj [] (diskP D2), .cells false 0 ([.op 0, vi 1, vi g1, vb true]), nameE.bx 0 ([] : List ByteArray)] (.int 50 ((texts.map nameE.f).length : Int) (texts.length : Int) (.loop ⟨[5, 6, 9, 49, 50, 51], [(0, 0, none), (1, 0, none), (3, 0, none)]⟩ [] (some (TRoom_l1_e texts (g1, D2, ([] : List ByteArray), 0))) (TRoom_l1_e texts) (TRoom_l1_x) (TRoom_l1_x') (g1, D2, ([] : List ByteArray), 0) (TRoom_l1_b room texts) (fun (x1 : Bool) => .leaf ⟨[0], []⟩ [] .ret (some ([(0, vb x1)], []))) (fun (y1 : Int × Dsk) => .callr (some 94) (Δ7 16 [.p (.v (.pointer none)), vi 1] [.cells false 0 ([.op 1, vi 1, vi y1.1, vb true]), .obj [] (diskP y1.2)] (.tup [.p (.v (.pointer none)), nilS, vi 1]) [.cells false 0 ([.op 1, vi 1, vi y1.1, vb true]), .obj [] (diskP y1.2)]) (.tup [.p (.v (.pointer none)), nilS, vi 1]) [.cells false 0 ([.op 1, vi 1, vi y1.1, vb true]), .obj [] (diskP y1.2)] (.callr (some 99) (Δ7 17 [.p (.v (.pointer none)), vi 1] [.cells false 0 ([.op 1, vi 1, vi y1.1, vb true]), .obj [] (diskP y1.2)] (vi 1) [.cells false 0 ([.op 1, vi 1, vi y1.1, vb true]), .obj [] (diskP y1.2)]) (vi 1) [.cells false 0 ([.op 1, vi 1, vi y1.1, vb true]), .obj [] (diskP y1.2)] (.callr (some 103) (Δ7 19 [.p (.v (.pointer none)), vs (⟨#[]⟩)] [.cells false 0 ([.op 1, vi 1, vi y1.1, vb true]), .obj [] (diskP y1.2)] (vi 1) [.cells false 0 ([.op 1, vi 1, vi y1.1, vb true]), .obj [] (diskP y1.2)]) (vi 1) [.cells false 0 ([.op 1, vi 1, vi y1.1, vb true]), .obj [] (diskP y1.2)] (.callr (some 108) (Δ7 26 [.p (.v (.pointer none))] [.cells false 0 ([.op 1, vi 1, vi y1.1, vb true]), .obj [] (diskP y1.2)] (vi 1) [.cells false 0 ([.op 1, vi 1, vi y1.1, vb true]), .obj [] (diskP y1.2)]) (vi 1) [.cells false 0 ([.op 1, vi 1, vi y1.1, vb true]), .obj [] (diskP y1.2)] (.callr (some 113) (Δ7 18 [.p (.v (.pointer none))] [.cells false 0 ([.op 1, vi 1, vi y1.1, vb true]), .obj [] (diskP y1.2)] (vi 0) [.cells false 0 ([.op 1, vi 1, vi y1.1, vb true]), .obj [] (diskP y1.2)]) (vi 0) [.cells false 0 ([.op 1, vi 1, vi y1.1, vb true]), .obj [] (diskP y1.2)] (.callr (some 118) (Δ7 21 [.p (.v (.pointer none))] [.cells false 0 ([.op 1, vi 1, vi y1.1, vb true]), .obj [] (diskP y1.2)] (vi 0) [.cells false 0 ([.op 1, vi 1, vi y1.1, vb true]), .obj [] (diskP y1.2)]) (vi 0) [.cells false 0 ([.op 1, vi 1, vi y1.1, vb true]), .obj [] (diskP y1.2)] (.callr (some 123) (Δ7 27 [.p (.v (.pointer none))] [.cells false 0 ([.op 1, vi 1, vi y1.1, vb true]), .obj [] (diskP y1.2)] (vb false) [.cells false 0 ([.op 1, vi 1, vi y1.1, vb true]), .obj [] (diskP y1.2)]) (vb false) [.cells false 0 ([.op 1, vi 1, vi y1.1, vb true]), .obj [] (diskP y1.2)] (.callr (some 132) (Δ7 17 [.ptr 0 0 0, vi 1] [.cells false 0 ([.op 1, vi 1, vi y1.1, vb true]), .obj [] (diskP y1.2)] (vi 1) [.cells false 0 ([.op 1, vi 1, vi y1.1, vb true]), .obj [] (diskP y1.2)]) (vi 1) [.cells false 0 ([.op 1, vi 1, vi y1.1, vb true]), .obj [] (diskP y1.2)] (.callr (some 137) (Δ7 17 [.ptr 0 0 0, vi 0] [.cells false 0 ([.op 1, vi 1, vi y1.1, vb true]), .obj [] (diskP y1.2)] (vi 1) [.cells false 0 ([.op 1, vi 1, vi y1.1, vb true]), .obj [] (diskP y1.2)]) (vi 1) [.cells false 0 ([.op 1, vi 1, vi y1.1, vb true]), .obj [] (diskP y1.2)] (.leaf ⟨[0], []⟩ [] .ret (some ([(0, vb true)], []))))))))))))))))))))))

theorem TRoom_chk (room : Int) (texts : List ByteArray) (D0 : Dsk) (D1 : Dsk) (D2 : Dsk) (g1 : Int) : fnC DP Γ7 Δ7 Tryd.f5 [vi room, vl (texts.map nameE.f)] [] (TRoom room texts D0 D1 D2 g1) = TRoom room texts D0 D1 D2 g1 := by kernel_rfl

end Go.Ax

namespace Go.Ax
open Go.Proofs Go.RowKit
set_option maxRecDepth 100000

theorem andI64 {a : Int} (m : Nat) (hm : m ≤ 32) : IntKind.i64.wrap ((BitVec.ofInt IntKind.i64.bits a &&& BitVec.ofInt IntKind.i64.bits ((2 ^ m - 1 : Nat) : Int)).toNat) = a % ((2 ^ m : Nat) : Int) := by
  have h2 : 2 ^ m - 1 < 2 ^ 64 := Nat.lt_of_lt_of_le (Nat.sub_lt (Nat.two_pow_pos m) Nat.one_pos) (Nat.pow_le_pow_right (by decide) (by omega))
  have hp : (2 : Nat) ^ m ≤ 2 ^ 32 := Nat.pow_le_pow_right (by decide) hm
  show IntKind.i64.wrap (((BitVec.ofInt 64 a &&& BitVec.ofInt 64 ((2 ^ m - 1 : Nat) : Int)).toNat : Nat) : Int) = _
  rw [BitVec.toNat_and, BitVec.ofInt_natCast, BitVec.toNat_ofNat, Nat.mod_eq_of_lt h2, Nat.and_two_pow_sub_one_eq_mod, BitVec.toNat_ofInt]
  have hpos : 0 < (2 : Nat) ^ m := Nat.two_pow_pos m
  have hd : ((2 ^ m : Nat) : Int) ∣ ((2 ^ 64 : Nat) : Int) := Int.natCast_dvd_natCast.2 (Nat.pow_dvd_pow 2 (by omega))
  have hnn : 0 ≤ a % ((2 ^ 64 : Nat) : Int) := Int.emod_nonneg _ (by decide)
  have e : (((a % ((2 ^ 64 : Nat) : Int)).toNat % 2 ^ m : Nat) : Int) = a % ((2 ^ m : Nat) : Int) := by
    rw [Int.natCast_emod, Int.toNat_of_nonneg hnn, Int.emod_emod_of_dvd _ hd]
  rw [e]
  have h3 := Int.emod_lt_of_pos a (b := ((2 ^ m : Nat) : Int)) (by omega)
  have h4 := Int.emod_nonneg a (b := ((2 ^ m : Nat) : Int)) (by omega)
  have h5 : ((2 ^ m : Nat) : Int) ≤ 4294967296 := by
    have : (2 : Nat) ^ 32 = 4294967296 := by decide
    omega
  exact wrap_i64 (by omega)
theorem and7 (a : Int) : IntKind.i64.wrap ((BitVec.ofInt IntKind.i64.bits a &&& BitVec.ofInt IntKind.i64.bits 7).toNat) = a % 8 := andI64 3 (by decide)
theorem rem_val {a b : Int} {B : List Box} {t : TypeId} (hb : b ≠ 0) : (binA DP .rem t (vi a) (vi b)).map (fun v => (v, B)) = some (vi (Int.tmod a b), B) := by
  show (((if b = 0 then none else some _ : Option Value)).map _).map _ = _
  rw [if_neg hb]
  rfl

def RWalParts : List AV → AV → Prop := fun args r => ∃ (parts : List (List ByteArray)) (frm : Int), args = [vl (parts.map namesE.f), vi frm] ∧ r = vb true
theorem SWalParts : SoundF DP iWalParts (.pure (relG RWalParts)) := sound_pureT mixedD Γ7_ok Δ7_ok hfWalParts heWalParts hbWalParts (by
  rintro args r ⟨parts, frm, rfl, rfl⟩
  refine ⟨rfl, rfl, _, TParts_chk parts frm parts.flatten (lateOf parts (1 + Int.tmod (frm % 8) (parts.length : Int)) parts.length) (lastG 0 (parts.map cv)) (lastG 0 (parts.map cv)), ?_⟩
  unfold TParts
  refine wp_call gHeadL_eq (wp_len (wp_sp (fun _ => wp_leaf rfl (.p _)) (fun h0 => wp_len (wp_sp (fun _ => wp_leaf rfl (.p _)) (fun h5 => ?_)))))
  have h0 : (parts.length : Int) ≠ 0 := by simpa using h0
  have h5 := of_decide_eq_false h5
  have ht1 : 0 ≤ Int.tmod (frm % 8) (parts.length : Int) := Int.tmod_nonneg _ (by omega)
  have ht2 : Int.tmod (frm % 8) (parts.length : Int) < (parts.length : Int) := Int.tmod_lt_of_pos _ (by omega)
  refine wp_callr (oNew 1048576) (wp_callr (oOpenNew rfl) (wp_int (and7 frm) (wp_len (wp_val (rem_val h0) (wp_i64 (by omega) (wp_len ?_))))))
  have hm := parts1 (parts := parts) (frm := frm) (by omega) (by omega) parts.length 0 (newD 1048576) 0 false (by omega) .new rfl (by decide) (by decide) (by simp)
  have e0 : lateOf parts (1 + Int.tmod (frm % 8) (parts.length : Int)) 0 = [] := by simp [lateOf]
  rw [e0] at hm
  rcases hm with h | ⟨D1, o1, w, hs, h⟩
  · exact wp_loop _ rfl h (wp_leaf rfl (.p _))
  · refine wp_loop' _ rfl h ?_
    clear h
    have hsm : Small (parts.map cv) := by
      intro ts hts d hd
      obtain ⟨l, hl, rfl⟩ := List.mem_map.1 hts
      obtain ⟨s, hsl, rfl⟩ := List.mem_map.1 hd
      have := (hs l hl).2 s hsl
      show s.size ≤ _
      omega
    have hfl : ∀ L : List (List ByteArray), (∀ x ∈ L, x.length ≤ 8) → L.flatten.length ≤ L.length * 8 := fun L => by
      induction L with
      | nil => intro _; simp
      | cons a l ih =>
        intro h
        have h1 := h a (by simp)
        have h2 := ih (fun x hx => h x (by simp [hx]))
        simp only [List.flatten_cons, List.length_append, List.length_cons]; omega
    have hall := hfl parts (fun x hx => (hs x hx).1)
    have elate : lateOf parts (1 + Int.tmod (frm % 8) (parts.length : Int)) parts.length = (parts.drop (Int.tmod (frm % 8) (parts.length : Int)).toNat).flatten := by
      unfold lateOf
      rw [List.take_of_length_le (Nat.le_refl _), show (1 + Int.tmod (frm % 8) (parts.length : Int) - 1) = Int.tmod (frm % 8) (parts.length : Int) by omega]
    have hlate := hfl (parts.drop (Int.tmod (frm % 8) (parts.length : Int)).toNat) (fun x hx => (hs x (List.mem_of_mem_drop hx)).1)
    rw [List.length_drop] at hlate
    rw [elate]
    have hpl : ((parts.map cv).length : Int) = (parts.length : Int) := by simp
    have c1 := fun (B : List Box) (hb : B[0]? = some (dkB D1)) => w.oOpen (B := B) (b := 0) hsm (by simp; omega) (j := 0) (by simp; omega) (n := 1) rfl hb
    have c2 := fun (B : List Box) (hb : B[0]? = some (dkB D1)) => w.oOpen (B := B) (b := 0) hsm (by simp; omega) (j := (Int.tmod (frm % 8) (parts.length : Int)).toNat) (by simp; omega) (n := 1 + Int.tmod (frm % 8) (parts.length : Int)) (by omega) hb
    simp only [List.drop_zero, flat_back, hpl, ← List.map_drop] at c1 c2
    refine wp_callr (c1 _ rfl) (wp_callr (c2 _ rfl) ?_)
    have b1 := fun (B : List Box) (k kb : Nat) (hk : B[k]? = some (nameE.bx 0 parts.flatten)) (ha : B[kb]? = some (nameE.bx 0 parts.flatten)) (hne : k ≠ kb) => oBegS (m := (parts.flatten.length : Int)) (by omega) hk ha hne
    have b2 := fun (B : List Box) (k kb : Nat) (hk : B[k]? = some (nameE.bx 0 (parts.drop (Int.tmod (frm % 8) (parts.length : Int)).toNat).flatten)) (ha : B[kb]? = some (nameE.bx 0 (parts.drop (Int.tmod (frm % 8) (parts.length : Int)).toNat).flatten)) (hne : k ≠ kb) => oBegS (m := ((parts.drop (Int.tmod (frm % 8) (parts.length : Int)).toNat).flatten.length : Int)) (by omega) hk ha hne
    simp only [begB_self] at b1 b2
    refine wp_callr (b1 _ 5 2 rfl rfl (by decide)) (wp_callr (b2 _ 7 3 rfl rfl (by decide)) ?_)
    refine wp_callr (.inl (oPart rfl rfl)) (wp_len (wp_sp (fun _ => wp_callr (.inl (oPart rfl rfl)) (wp_len (wp_sp (fun _ => wp_callr (.inl (oSizeW rfl rfl)) (wp_callr (.inl (oSizeW rfl rfl)) (wp_leaf rfl ?_))) (fun h => absurd h (by simp))))) (fun h => absurd h (by simp))))
    rw [beq_self_eq_true]
    exact .p _)
end Go.Ax

namespace Go.Ax
open Go.Proofs Go.RowKit
set_option maxRecDepth 100000

def otherN : ByteArray := ⟨#[111, 116, 104, 101, 114]⟩
theorem other_ne {n : Int} (h : 0 ≤ n) : otherN ≠ wname n := by
  intro e
  have : otherN.data.toList = (wname n).data.toList := by rw [e]
  rw [wname_list h] at this
  exact absurd (congrArg List.head? this) (by simp [otherN])

/-- A file beside the log is made. -/
theorem Wr.other {D : Dsk} {P : List (List (List UInt8))} (w : Wr D P) (hp : P.length < 1000) (hno : D.cont otherN = Option.none) : (createD D otherN).2 = 0 ∧ Wr (createD D otherN).1 P ∧ (createD D otherN).1.used = D.used ∧ (createD D otherN).1.room = D.room := by
  obtain ⟨c1, c2, c3, c4, c5⟩ := cont_create w.live (nm := otherN) (by decide) hno
  refine ⟨c1, ⟨c2, w.holds.mono fun i _ => ?_, fun n hn hm => ?_, w.sg⟩, c4, c5⟩
  · rw [c3, if_neg (other_ne (by omega))]
  · rw [c3, if_neg (other_ne (by omega))]
    exact w.none n hn hm

theorem small_cv {got : List ByteArray} (h : ∀ s ∈ got, s.size ≤ 100) : Small [cv got] := by
  intro ts hts d hd
  rw [List.mem_singleton.1 hts] at hd
  obtain ⟨s, hs, rfl⟩ := List.mem_map.1 hd
  have := h s hs
  show s.size ≤ _
  omega

/-- Texts are written until there is no room. -/
theorem room1 {room : Int} {texts : List ByteArray} (h20 : texts.length ≤ 20) : ∀ (j i : Nat) (D : Dsk) (g : Int) (got : List ByteArray), i + j = texts.length →
    Wr D [cv got] → g = lastG 0 [cv got] → got.length ≤ i → (∀ s ∈ got, s.size ≤ 100) →
    Rounds (TRoom_l1_e texts) TRoom_l1_x TRoom_l1_x' (fun s => (TRoom_l1_b room texts s).wp) (g, D, got, (i : Int)) (.inl true) ∨
    ∃ D1 g1 ts, Wr D1 [ts] ∧ g1 = lastG 0 [ts] ∧ Rounds (TRoom_l1_e texts) TRoom_l1_x TRoom_l1_x' (fun s => (TRoom_l1_b room texts s).wp) (g, D, got, (i : Int)) (.inr (g1, D1)) := by
  intro j
  induction j with
  | zero =>
    intro i D g got hi w hg hl hs
    refine .inr ⟨D, g, cv got, w, hg, .done' (by intro e; cases e) ?_⟩
    unfold TRoom_l1_b
    exact wp_sp (fun h => absurd (of_decide_eq_true h) (by simp only; omega)) (fun _ => wp_leaf rfl ⟨rfl, rfl⟩)
  | succ j ih =>
    intro i D g got hi w hg hl hs
    obtain ⟨e1, he, ht⟩ := get_snoc (l := texts) (i := i) (by omega)
    by_cases hsz : e1.size > 100
    · refine .inl (.done (by intro e; cases e) ?_)
      unfold TRoom_l1_b
      exact wp_sp (fun _ => wp_elem e1 (by simp only; omega) (by simpa using he) (wp_sp (fun _ => wp_leaf rfl ⟨rfl, rfl⟩) (fun h => absurd (of_decide_eq_false h) (by omega)))) (fun h => absurd (of_decide_eq_false h) (by simp only; omega))
    · have hgb : 0 ≤ g ∧ g ≤ 67108864 := by rw [hg]; exact w.sg
      have ei : ((i + 1 : Nat) : Int) = (i : Int) + 1 := by omega
      have call := fun (B : List Box) (h0 : B[0]? = some (dkB D)) (h1 : B[1]? = some (logC 0 1 g true)) => Go.Ax.oAdd (D := D) (s := e1) (p := 1) w.live.ok (by decide) (g := g) (by omega) (by omega) h0 h1
      by_cases fit : ((recB e1.data.toList).length : Int) ≤ D.room - D.used
      · obtain ⟨a1, a2, a3, a4, a5⟩ := Wr.add (P := []) (ts := cv got) (d := e1.data.toList) w (by decide) fit
        change (appendD D (wname 1) (recB e1.data.toList)).2 = 0 at a1
        change Wr (appendD D (wname 1) (recB e1.data.toList)).1 _ at a2
        have ag : addG D 1 g e1 = g + (recB e1.data.toList).length := by unfold addG; rw [a1, if_pos rfl]
        have hcv : cv (got ++ [e1]) = cv got ++ [e1.data.toList] := by simp [cv]
        have hl2 : g + (recB e1.data.toList).length = lastG 0 [cv (got ++ [e1])] := by rw [hcv, hg]; exact a5.symm
        have w2 : Wr (appendD D (wname 1) (recB e1.data.toList)).1 [cv (got ++ [e1])] := by rw [hcv]; exact a2
        have hs2 : ∀ s ∈ got ++ [e1], s.size ≤ 100 := fun s hx => by
          rcases List.mem_append.1 hx with hx | hx
          · exact hs s hx
          · rw [List.mem_singleton.1 hx]; omega
        have hback : ([cv (got ++ [e1])].flatten).map toB = got ++ [e1] := by simpa using cv_back (got ++ [e1])
        have c2 := fun (B : List Box) (h0 : B[0]? = some (dkB (appendD D (wname 1) (recB e1.data.toList)).1)) => w2.oOpen (B := B) (b := 0) (small_cv hs2) (by simp) (j := 0) (by simp) (n := 1) rfl h0
        simp only [List.drop_zero, hback, ← hl2] at c2
        have b1 := fun (B : List Box) (k kb va : Nat) (hk : B[k]? = some (nameE.bx 0 (got ++ [e1]))) (ha : B[kb]? = some (nameE.bx va (got ++ [e1]))) (hne : k ≠ kb) => oBegS (vb' := va) (m := ((got ++ [e1]).length : Int)) (by simp only [List.length_append, List.length_singleton]; omega) hk ha hne
        simp only [begB_self] at b1
        have hle := w2.live.ok.le
        have hbody : (TRoom_l1_b room texts (g, D, got, (i : Int))).wp (fun e c => e = .normal ∧ c = TRoom_l1_e texts (g + (recB e1.data.toList).length, (appendD D (wname 1) (recB e1.data.toList)).1, got ++ [e1], ((i + 1 : Nat) : Int))) := by
          unfold TRoom_l1_b
          refine wp_sp (fun _ => wp_elem e1 (by simp only; omega) (by simpa using he) (wp_sp (fun h => absurd (of_decide_eq_true h) (by omega)) (fun _ => wp_callr (.inl (call _ rfl rfl)) ?_))) (fun h => absurd (of_decide_eq_false h) (by simp only; omega))
          dsimp only
          rw [a1, ag]
          refine wp_callr (oRoom w2.live.ok rfl) (wp_sp (fun _ => wp_sp (fun _ => wp_app ⟨rfl, rfl⟩ rfl (by simp only [List.length_append, List.length_singleton]; omega) (wp_callr (c2 _ rfl) (wp_callr (b1 _ 5 2 1 rfl rfl (by decide)) (wp_i64 (by omega) (wp_leaf rfl ⟨rfl, by rw [ei]⟩))))) (fun h => absurd h (by simp))) (fun h => absurd (of_decide_eq_false h) (by omega)))
        rcases ih (i + 1) _ _ _ (by omega) w2 hl2 (by simp; omega) hs2 with h | ⟨D1, g1, ts, z1, z2, z3⟩
        · exact .inl (.next hbody h)
        · exact .inr ⟨D1, g1, ts, z1, z2, .next hbody z3⟩
      · obtain ⟨a1, ag⟩ := Wr.oAddFull (P := []) (ts := cv got) (s := e1) (B := [dkB D, logC 0 1 g true]) (b := 0) (l := 1) (p := 1) w rfl hg (by decide) (by omega) fit rfl rfl
        have hback : ([cv got].flatten).map toB = got := by simpa using cv_back got
        have c2 := fun (B : List Box) (h0 : B[0]? = some (dkB D)) => w.oOpen (B := B) (b := 0) (small_cv hs) (by simp) (j := 0) (by simp) (n := 1) rfl h0
        simp only [List.drop_zero, hback, ← hg] at c2
        have b1 := fun (B : List Box) (k kb va : Nat) (hk : B[k]? = some (nameE.bx 0 got)) (ha : B[kb]? = some (nameE.bx va got)) (hne : k ≠ kb) => oBegS (vb' := va) (m := (got.length : Int)) (by omega) hk ha hne
        simp only [begB_self] at b1
        have hle := w.live.ok.le
        have hbody : (TRoom_l1_b room texts (g, D, got, (i : Int))).wp (fun e c => e = .normal ∧ c = TRoom_l1_e texts (g, D, got, ((i + 1 : Nat) : Int))) := by
          unfold TRoom_l1_b
          refine wp_sp (fun _ => wp_elem e1 (by simp only; omega) (by simpa using he) (wp_sp (fun h => absurd (of_decide_eq_true h) (by omega)) (fun _ => wp_callr (.inl (call _ rfl rfl)) ?_))) (fun h => absurd (of_decide_eq_false h) (by simp only; omega))
          dsimp only
          rw [a1, ag]
          refine wp_callr (oRoom w.live.ok rfl) (wp_sp (fun _ => wp_sp (fun h => absurd h (by simp)) (fun _ => wp_sp (fun h => absurd h (by simp)) (fun _ => wp_callr (c2 _ rfl) (wp_callr (b1 _ 4 2 0 rfl rfl (by decide)) (wp_i64 (by omega) (wp_leaf rfl ⟨rfl, by rw [ei]⟩)))))) (fun h => absurd (of_decide_eq_false h) (by dsimp only; omega)))
        rcases ih (i + 1) D g got (by omega) w hg (by omega) hs with h | ⟨D1, g1, ts, z1, z2, z3⟩
        · exact .inl (.next hbody h)
        · exact .inr ⟨D1, g1, ts, z1, z2, .next hbody z3⟩

def RWalRoom : List AV → AV → Prop := fun args r => ∃ (room : Int) (texts : List ByteArray), args = [vi room, vl (texts.map nameE.f)] ∧ r = vb true
theorem SWalRoom : SoundF DP iWalRoom (.pure (relG RWalRoom)) := sound_pureT mixedD Γ7_ok Δ7_ok hfWalRoom heWalRoom hbWalRoom (by
  rintro args r ⟨room, texts, rfl, rfl⟩
  refine ⟨rfl, rfl, _, TRoom_chk room texts (newD (50 + room % 512)) (startD (newD (50 + room % 512)) 0 0 1) (createD (startD (newD (50 + room % 512)) 0 0 1) otherN).1 (recB (putI 0)).length, ?_⟩
  have hr0 : (newD (50 + room % 512)).room = 50 + room % 512 := by
    have h1 : ¬ 67108864 < 50 + room % 512 := by omega
    have h2 : 0 < 50 + room % 512 := by omega
    simp only [newD, if_neg h1, if_pos h2]
  have hu0 : (newD (50 + room % 512)).used = 0 := rfl
  obtain ⟨c1, w1, u1, r1, l1⟩ := Wr.oStart (D := newD (50 + room % 512)) (P := []) .new (B := [dkB (newD (50 + room % 512)), logC 0 0 0 false, nameE.bx 0 []]) (b := 0) (l := 1) (p := 0) (g := 0) (n := 1) (o := false) rfl rfl rfl (by decide) (by rw [hr0, hu0]; omega) rfl rfl
  have hc : (startD (newD (50 + room % 512)) 0 0 1).cont otherN = none := by
    obtain ⟨d1, d2, d3, d4, d5⟩ := cont_create (D := newD (50 + room % 512)) live_new (wname_is (n := 1) (by decide)) (cont_new _ _)
    have hcc : (createD (newD (50 + room % 512)) (wname 1)).1.cont (wname 1) = some [] := by rw [d3, if_pos rfl]
    have hh := recB_head (g := 0) (by decide)
    obtain ⟨a1, a2, a3, a4, a5⟩ := cont_append d2 (bs := recB (putI 0)) hcc (by omega)
    show ((appendD (createD (newD (50 + room % 512)) (wname 1)).1 (wname 1) (recB (putI 0))).1).cont otherN = none
    rw [a3, if_neg (fun e => other_ne (n := 1) (by decide) e.symm), d3, if_neg (fun e => other_ne (n := 1) (by decide) e.symm)]
    rfl
  obtain ⟨o1, w2, u2, r2⟩ := w1.other (by decide) hc
  have hsz : otherN.size ≤ 1000000000 := by decide
  have cc := fun (B : List Box) (h0 : B[0]? = some (dkB (startD (newD (50 + room % 512)) 0 0 1))) => oCreate (nm := otherN) (b := 0) w1.live.ok hsz h0
  rw [o1] at cc
  unfold TRoom
  refine wp_call gHeadL_eq (wp_len (wp_sp (fun _ => wp_leaf rfl (.p _)) (fun h20 => wp_int (andI64 9 (by decide)) (wp_i64 (by omega) (wp_callr (oNew _) (wp_callr (oOpenNew rfl) (wp_callr c1 (wp_callr (cc _ rfl) (wp_len ?_)))))))))
  have h20 := of_decide_eq_false h20
  rcases room1 (room := room) (texts := texts) (by omega) texts.length 0 _ (recB (putI 0)).length [] (by omega) w2 l1.symm (by simp) (by simp) with h | ⟨D1, g1, ts, w, hg, h⟩
  · exact wp_loop _ rfl h (wp_leaf rfl (.p _))
  · refine wp_loop' _ rfl h ?_
    clear h
    refine wp_callr (.inr (lift_nil ⟨1, rfl, rfl⟩ rfl rfl)) (wp_callr (.inr (lift_nil ⟨1, rfl, rfl⟩ rfl rfl)) (wp_callr (.inr (lift_nil ⟨_, rfl, rfl⟩ rfl rfl)) (wp_callr (lift_nil ⟨rfl, rfl⟩ rfl rfl) (wp_callr (.inr (lift_nil ⟨rfl, rfl⟩ rfl rfl)) (wp_callr (.inr (lift_nil ⟨rfl, rfl⟩ rfl rfl)) (wp_callr (.inr (lift_nil ⟨rfl, rfl⟩ rfl rfl)) ?_))))))
    exact wp_callr (w.oStartF (p := 1) (b := 1) (l := 0) rfl (by simp) hg (by decide) (.inr (by decide)) rfl rfl) (wp_callr (w.oStartF (p := 1) (b := 1) (l := 0) rfl (by simp) hg (by decide) (.inl (by decide)) rfl rfl) (wp_leaf rfl (.p _))))
end Go.Ax

namespace Go.Ax
open Go.Proofs Go.ChangeShapes Go.WideShapes Go.ChangeAt Go.RowKit
set_option maxRecDepth 100000

theorem tabRel {W : World} {g : Nat} {us : Array Value} {e : TypeId} {fr : Nat × Nat} (hh : W.heap[g]? = some (.cells us e fr)) (hu : us.toList.map PV.v = Glob.tab g) : ∀ ρ, GRel noF [] ρ W g := fun ρ => by
  have hl : (Glob.tab g).length = us.toList.length := by rw [← hu]; simp
  refine ⟨.rp _ ⟨g, 0, none⟩ us.toList rfl not_own (Array.getElem?_eq_some_iff.1 hh).1 hl (fun j u hj => ?_) (fun j p u hp hv => ?_), us, e, fr, hh, by rw [hl]; simp⟩
  · rw [Addr.add_lit, Nat.zero_add, cell_of hh]
    simpa using hj
  · rw [← hu, List.getElem?_map, hv] at hp
    cases hp
    exact .v _

theorem var_block {P : Program} {W : World} {n : String} {g : Nat} {cs : Array Value} (hg : P.globalNamed n = some g) (h : W.var? P n = some cs) : ∃ e fr, W.heap[g]? = some (.cells cs e fr) := by
  unfold World.var? at h
  rw [hg, Option.bind_some] at h
  split at h
  · rename_i cs' e fr hc
    cases h
    exact ⟨e, fr, hc⟩
  · cases h

abbrev laid4 : List (String × DataW Unit) := [("math/bits.deBruijn32tab", YtjlipmcdnigfcaaDoor.Rows.laid_math_bits_deBruijn32tab), ("math/bits.deBruijn64tab", YtjlipmcdnigfcaaDoor.Rows.laid_math_bits_deBruijn64tab), ("internal/strconv.uint64pow10", YtjlipmcdnigfcaaDoor.Rows.laid_internal_strconv_uint64pow10), ("tailrace/crc.halves", YtjlipmcdnigfcaaDoor.Rows.laid_tailrace_crc_halves)]

theorem gHalves : DP.globalNamed "tailrace/crc.halves" = some 0 := by kernel_rfl
theorem gPow : DP.globalNamed "internal/strconv.uint64pow10" = some 3 := by kernel_rfl
theorem tHalves : (DP.globals[0]?).map (·.type) = some 169 := by kernel_rfl

theorem tPow : (DP.globals[3]?).map (·.type) = some 188 := by kernel_rfl

theorem globW_of {W : World} (h : laidMetH DP laid4 W) : GlobW W := by
  rw [MakeChecks.laidMetH_plain _ _ _ (by kernel_rfl)] at h
  obtain ⟨ps, ⟨g0, t0, cs0, f0, p0, q0, hg0, ht0, hv0, hd0, ⟨g1, t1, cs1, f1, p1, q1, hg1, ht1, hv1, hd1, ⟨g2, t2, cs2, f2, p2, q2, hg2, ht2, hv2, hd2, ⟨g3, t3, cs3, f3, p3, q3, hg3, ht3, hv3, hd3, _, _⟩, _⟩, _⟩, _⟩, _, _⟩ := h
  obtain rfl := Option.some.inj (gPow.symm.trans hg2)
  obtain rfl := Option.some.inj (gHalves.symm.trans hg3)
  obtain rfl := Option.some.inj (tPow.symm.trans ht2)
  obtain rfl := Option.some.inj (tHalves.symm.trans ht3)
  have c2 := Lib.cells_of_tab (k := .u64) (zs := Lib.pow10Tab) (n := 20) (e := 46) (by kernel_rfl) (by kernel_rfl) (by kernel_rfl) (by kernel_rfl) hd2
  have c3 := Lib.cells_of_tab (k := .u32) (zs := halvesL) (n := 16) (e := 137) (by kernel_rfl) (by kernel_rfl) (by kernel_rfl) (by kernel_rfl) hd3
  obtain ⟨e2, r2, b2⟩ := var_block hg2 hv2
  obtain ⟨e3, r3, b3⟩ := var_block hg3 hv3
  intro g hg
  match g with
  | 0 => exact tabRel b3 (by rw [c3]; rfl)
  | 3 => exact tabRel b2 (by rw [c2]; rfl)
  | 1 => exact absurd rfl hg
  | 2 => exact absurd rfl hg
  | g + 4 => exact absurd rfl hg

/-- The heap that the program's own start leaves meets the condition. -/
theorem door4 (os : Os) (args : Array Value) : laidMetH DP laid4 ((World.doorLaid DP 67 os).forCall (fun _ _ => 0) ⟨#[], args, []⟩).memory :=
  laidMetH_of_parts3 (fuel := 8) (laidMet_of_run' 8 (by kernel_rfl) (by kernel_rfl)) (by kernel_rfl) (by kernel_rfl)

section
variable {H : Type} {enc : TypeId × Value → H} {w : World} {base : Nat} {spare : Nat → Bool} {held : Bool} {O : Nat → Prop}
theorem in_u8 (n : Nat) (cs' : List Value) (y : DataW H × List MemPlace) {t : TypeId} (ht : DP.underlying t = some (.int .u8)) (h : DataW.trod enc DP w base spare held n t cs' = some y) :
    ∃ a : UInt8, True ∧ cs'.length = 1 ∧ ∀ (r : Nat) (p : PV) (u : Value), (byteE.f a).cells[r]? = some p → cs'[r]? = some u → PRel O w p u := by
  obtain ⟨s, rfl, _, hw⟩ := DataW.trod_int ht h
  have hb : 0 ≤ s ∧ s < 256 := by
    simp only [Lit.wf, Bool.and_eq_true, decide_eq_true_eq] at hw
    have h1 : IntKind.u8.min = 0 := by decide
    have h2 : IntKind.u8.max = 255 := by decide
    omega
  refine ⟨UInt8.ofNat s.toNat, trivial, rfl, fun r p u hp hu => ?_⟩
  match r with
  | 0 =>
    cases hu
    have : ((UInt8.ofNat s.toNat).toNat : Int) = s := by
      rw [UInt8.toNat_ofNat']
      omega
    change some (PV.v (.int .u8 ((UInt8.ofNat s.toNat).toNat : Int))) = some p at hp
    rw [this] at hp
    cases hp
    exact .v _
  | r + 1 => simp [byteE, PV.cells] at hp
theorem in_str (n : Nat) (cs' : List Value) (y : DataW H × List MemPlace) {t : TypeId} (ht : DP.underlying t = some .string) (h : DataW.trod enc DP w base spare held n t cs' = some y) :
    ∃ a : ByteArray, True ∧ cs'.length = 1 ∧ ∀ (r : Nat) (p : PV) (u : Value), (nameE.f a).cells[r]? = some p → cs'[r]? = some u → PRel O w p u := by
  obtain ⟨s, rfl, _, _⟩ := DataW.trod_string ht h
  refine ⟨s, trivial, rfl, fun r p u hp hu => ?_⟩
  match r with
  | 0 => cases hp; cases hu; exact .v _
  | r + 1 => simp [nameE, PV.cells] at hp
theorem in_bytes (hO : ∀ k, ¬ O k) {fuel : Nat} {v : Value} {x : DataW H × List MemPlace} (h : DataW.trod enc DP w base spare held fuel 65 [v] = some x) :
    ∃ L : List UInt8, (∀ a ∈ L, True) ∧ PRel O w (.ls (L.map byteE.f)) v := open_list hO (Tryd.underlying65) byteE.elt (by decide) (by kernel_rfl) (fun n cs' y hy => in_u8 n cs' y Tryd.underlying5 hy) h
theorem in_strs (hO : ∀ k, ¬ O k) {fuel : Nat} {v : Value} {x : DataW H × List MemPlace} (h : DataW.trod enc DP w base spare held fuel 27 [v] = some x) :
    ∃ L : List ByteArray, (∀ a ∈ L, True) ∧ PRel O w (.ls (L.map nameE.f)) v := open_list hO (Tryd.underlying27) nameE.elt (by decide) (by kernel_rfl) (fun n cs' y hy => in_str n cs' y Tryd.underlying9 hy) h
theorem in_strss (hO : ∀ k, ¬ O k) {fuel : Nat} {v : Value} {x : DataW H × List MemPlace} (h : DataW.trod enc DP w base spare held fuel 22 [v] = some x) :
    ∃ L : List (List ByteArray), (∀ a ∈ L, True) ∧ PRel O w (.ls (L.map namesE.f)) v :=
  open_list hO (Tryd.underlying22) namesE.elt (by decide) (by kernel_rfl) (fun n cs' y hy => by
    obtain ⟨v', rfl⟩ : ∃ v', cs' = [v'] := by
      rcases Deep.open_slice Tryd.underlying27 hy with ⟨h1, _⟩ | ⟨a, len, cap, _, _, _, _, h1, _⟩
      · exact ⟨_, h1⟩
      · exact ⟨_, h1⟩
    obtain ⟨L, _, hp0⟩ := in_strs hO hy
    refine ⟨L, trivial, rfl, fun r p u hp hu => ?_⟩
    match r with
    | 0 => cases hu; change some (PV.ls (L.map nameE.f)) = some p at hp; cases hp; exact hp0
    | r + 1 => simp [namesE, PV.cells] at hp) h
end
end Go.Ax
