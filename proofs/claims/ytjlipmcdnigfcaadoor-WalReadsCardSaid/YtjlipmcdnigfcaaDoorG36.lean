/- Trees, printed by gen/w1.py. -/
import Derived.Test.YtjlipmcdnigfcaaDoorG33
set_option linter.unusedVariables false
set_option linter.unusedSimpArgs false
set_option linter.unusedSectionVars false
namespace Go.Ax
open Go.Proofs Go.RowKit
set_option maxRecDepth 100000

abbrev iWalParts : Nat := 3
noncomputable abbrev nWalParts : Func := Tryd.f3
theorem hfWalParts : DP.funcs[iWalParts]? = some nWalParts := by kernel_rfl
theorem heWalParts : enters DP iWalParts = true := by kernel_rfl
theorem hbWalParts : nWalParts.body.isSome = true := by kernel_rfl
theorem hnWalParts : nWalParts.ntmps = 156 := by kernel_rfl

noncomputable def TParts_l1_e (parts : List (List ByteArray)) (frm : Int) (s1 : Int × Int × Bool × Dsk × (List ByteArray) × (List ByteArray) × Int) : St := ([(0, vl (parts.map namesE.f)), (1, vi (1 + (Int.tmod (frm % 8) (parts.length : Int)))), (5, .op 0), (6, .ptr 1 0 0), (9, .rs 2 0 1 0 s1.2.2.2.2.1.length), (10, .rs 3 0 1 0 s1.2.2.2.2.2.1.length), (48, vl (parts.map namesE.f)), (49, vi (parts.length : Int)), (50, vi s1.2.2.2.2.2.2)], [.obj [] (diskP s1.2.2.2.1), .cells false 0 ([.op 0, vi s1.1, vi s1.2.1, vb s1.2.2.1]), nameE.bx 0 s1.2.2.2.2.1, nameE.bx 0 s1.2.2.2.2.2.1])
noncomputable def TParts_l1_x (x1 : Bool) : AE × St := (.ret, ([(4, vb x1)], []))
noncomputable def TParts_l1_x' (parts : List (List ByteArray)) (frm : Int) (y1 : Dsk × Int × Int × Bool × (List ByteArray) × (List ByteArray)) : AE × St := ((.exit 0), ([(0, vl (parts.map namesE.f)), (1, vi (1 + (Int.tmod (frm % 8) (parts.length : Int)))), (5, .op 0), (6, .ptr 1 0 0), (9, .rs 2 0 1 0 y1.2.2.2.2.1.length), (10, .rs 3 0 1 0 y1.2.2.2.2.2.length)], [.obj [] (diskP y1.1), .cells false 0 ([.op 0, vi y1.2.1, vi y1.2.2.1, vb y1.2.2.2.1]), nameE.bx 0 y1.2.2.2.2.1, nameE.bx 0 y1.2.2.2.2.2]))
noncomputable def TParts_l2_e (parts : List (List ByteArray)) (frm : Int) (s1 : Int × Int × Bool × Dsk × (List ByteArray) × (List ByteArray) × Int) (e1 : (List ByteArray)) (s2 : Int × Dsk × (List ByteArray) × (List ByteArray) × Int) : St := ([(0, vl (parts.map namesE.f)), (1, vi (1 + (Int.tmod (frm % 8) (parts.length : Int)))), (5, .op 0), (6, .ptr 1 0 0), (9, .rs 2 0 1 0 s2.2.2.1.length), (10, .rs 3 0 1 0 s2.2.2.2.1.length), (11, vi s1.2.2.2.2.2.2), (48, vl (parts.map namesE.f)), (49, vi (parts.length : Int)), (50, vi s1.2.2.2.2.2.2), (75, vl (e1.map nameE.f)), (76, vi (e1.length : Int)), (77, vi s2.2.2.2.2)], [.obj [] (diskP s2.2.1), .cells false 0 ([.op 0, vi (1 + s1.2.2.2.2.2.2), vi s2.1, vb true]), nameE.bx 0 s2.2.2.1, nameE.bx 0 s2.2.2.2.1])
noncomputable def TParts_l2_x (x2 : Unit) : AE × St := (.ret, ([(4, vb true)], []))
noncomputable def TParts_l2_x' (parts : List (List ByteArray)) (frm : Int) (s1 : Int × Int × Bool × Dsk × (List ByteArray) × (List ByteArray) × Int) (y2 : Dsk × Int × (List ByteArray) × (List ByteArray)) : AE × St := ((.exit 2), ([(0, vl (parts.map namesE.f)), (1, vi (1 + (Int.tmod (frm % 8) (parts.length : Int)))), (5, .op 0), (6, .ptr 1 0 0), (9, .rs 2 0 1 0 y2.2.2.1.length), (10, .rs 3 0 1 0 y2.2.2.2.length), (48, vl (parts.map namesE.f)), (49, vi (parts.length : Int)), (50, vi s1.2.2.2.2.2.2)], [.obj [] (diskP y2.1), .cells false 0 ([.op 0, vi (1 + s1.2.2.2.2.2.2), vi y2.2.1, vb true]), nameE.bx 0 y2.2.2.1, nameE.bx 0 y2.2.2.2]))
noncomputable def TParts_l2_b (parts : List (List ByteArray)) (frm : Int) (s1 : Int × Int × Bool × Dsk × (List ByteArray) × (List ByteArray) × Int) (e1 : (List ByteArray)) (s2 : Int × Dsk × (List ByteArray) × (List ByteArray) × Int) : Tree :=
.sp 78 (decide (s2.2.2.2.2 < (e1.length : Int))) (
.elem 79 (e1.map nameE.f) nameE e1 s2.2.2.2.2 (fun e2 => .sp 83 (decide ((e2.size : Int) > (200 : Int))) (
.leaf ⟨[4], []⟩ [] .ret (some (TParts_l2_x ()).2)) (
.callr (some 86) (Δ7 19 [.ptr 1 0 0, vs e2] [.obj [] (diskP s2.2.1), .cells false 0 ([.op 0, vi (1 + s1.2.2.2.2.2.2), vi s2.1, vb true]), nameE.bx 0 s2.2.2.1, nameE.bx 0 s2.2.2.2.1] (vi 0) [.obj [] (diskP ((appendD s2.2.1 (wname (1 + s1.2.2.2.2.2.2)) (recB e2.data.toList)).1)), .cells false 0 ([.op 0, vi (1 + s1.2.2.2.2.2.2), vi (s2.1 + ((recB e2.data.toList).length : Int)), vb true]), nameE.bx 0 s2.2.2.1, nameE.bx 0 s2.2.2.2.1]) (vi 0) [.obj [] (diskP ((appendD s2.2.1 (wname (1 + s1.2.2.2.2.2.2)) (recB e2.data.toList)).1)), .cells false 0 ([.op 0, vi (1 + s1.2.2.2.2.2.2), vi (s2.1 + ((recB e2.data.toList).length : Int)), vb true]), nameE.bx 0 s2.2.2.1, nameE.bx 0 s2.2.2.2.1] (.app 91 (.row 1 ([vs e2])) s2.2.2.1.length (rowC (s2.2.2.1.map nameE.f)) nameE s2.2.2.1 ([e2]) (.int 93 (IntKind.i64.wrap (1 + s1.2.2.2.2.2.2)) (1 + s1.2.2.2.2.2.2) (.sp 95 (decide ((1 + s1.2.2.2.2.2.2) ≥ (1 + (Int.tmod (frm % 8) (parts.length : Int))))) (
.app 99 (.row 1 ([vs e2])) s2.2.2.2.1.length (rowC (s2.2.2.2.1.map nameE.f)) nameE s2.2.2.2.1 ([e2]) (.int 100 (IntKind.i64.wrap (s2.2.2.2.2 + 1)) (s2.2.2.2.2 + 1) (.leaf ⟨[0, 1, 5, 6, 9, 10, 11, 48, 49, 50, 75, 76, 77], [(0, 0, none), (1, 0, none), (2, 1, some ((s2.2.2.1 ++ ([e2])).map nameE.f)), (3, 1, some ((s2.2.2.2.1 ++ ([e2])).map nameE.f))]⟩ [rowC ((s2.2.2.1 ++ ([e2])).map nameE.f), rowC ((s2.2.2.2.1 ++ ([e2])).map nameE.f)] .normal (some (TParts_l2_e parts frm s1 e1 (s2.1 + ((recB e2.data.toList).length : Int), ((appendD s2.2.1 (wname (1 + s1.2.2.2.2.2.2)) (recB e2.data.toList)).1), s2.2.2.1 ++ ([e2]), s2.2.2.2.1 ++ ([e2]), s2.2.2.2.2 + 1)))))) (
.int 100 (IntKind.i64.wrap (s2.2.2.2.2 + 1)) (s2.2.2.2.2 + 1) (.leaf ⟨[0, 1, 5, 6, 9, 10, 11, 48, 49, 50, 75, 76, 77], [(0, 0, none), (1, 0, none), (2, 1, some ((s2.2.2.1 ++ ([e2])).map nameE.f)), (3, 0, some (s2.2.2.2.1.map nameE.f))]⟩ [rowC ((s2.2.2.1 ++ ([e2])).map nameE.f), rowC (s2.2.2.2.1.map nameE.f)] .normal (some (TParts_l2_e parts frm s1 e1 (s2.1 + ((recB e2.data.toList).length : Int), ((appendD s2.2.1 (wname (1 + s1.2.2.2.2.2.2)) (recB e2.data.toList)).1), s2.2.2.1 ++ ([e2]), s2.2.2.2.1, s2.2.2.2.2 + 1))))))))))) (
.leaf ⟨[0, 1, 5, 6, 9, 10, 48, 49, 50], [(0, 0, none), (1, 0, none), (2, 0, some (s2.2.2.1.map nameE.f)), (3, 0, some (s2.2.2.2.1.map nameE.f))]⟩ [rowC (s2.2.2.1.map nameE.f), rowC (s2.2.2.2.1.map nameE.f)] (.exit 2) (some (TParts_l2_x' parts frm s1 (s2.2.1, s2.1, s2.2.2.1, s2.2.2.2.1)).2))
noncomputable def TParts_l1_b (parts : List (List ByteArray)) (frm : Int) (s1 : Int × Int × Bool × Dsk × (List ByteArray) × (List ByteArray) × Int) : Tree :=
.sp 51 (decide (s1.2.2.2.2.2.2 < (parts.length : Int))) (
.elem 53 (parts.map namesE.f) namesE parts s1.2.2.2.2.2.2 (fun e1 => .int 56 ((e1.map nameE.f).length : Int) (e1.length : Int) (.sp 57 (decide ((e1.length : Int) > (8 : Int))) (
.int 73 ((e1.map nameE.f).length : Int) (e1.length : Int) (.leaf ⟨[4], []⟩ [] .ret (some (TParts_l1_x (decide ((e1.length : Int) > (8 : Int)))).2))) (
.int 61 (IntKind.i64.wrap (1 + s1.2.2.2.2.2.2)) (1 + s1.2.2.2.2.2.2) (.callr (some 62) (Δ7 17 [.ptr 1 0 0, vi (1 + s1.2.2.2.2.2.2)] [.obj [] (diskP s1.2.2.2.1), .cells false 0 ([.op 0, vi s1.1, vi s1.2.1, vb s1.2.2.1]), nameE.bx 0 s1.2.2.2.2.1, nameE.bx 0 s1.2.2.2.2.2.1] (vi 0) [.obj [] (diskP (startD s1.2.2.2.1 s1.1 s1.2.1 (1 + s1.2.2.2.2.2.2))), .cells false 0 ([.op 0, vi (1 + s1.2.2.2.2.2.2), vi ((recB (putI s1.2.1)).length : Int), vb true]), nameE.bx 0 s1.2.2.2.2.1, nameE.bx 0 s1.2.2.2.2.2.1]) (vi 0) [.obj [] (diskP (startD s1.2.2.2.1 s1.1 s1.2.1 (1 + s1.2.2.2.2.2.2))), .cells false 0 ([.op 0, vi (1 + s1.2.2.2.2.2.2), vi ((recB (putI s1.2.1)).length : Int), vb true]), nameE.bx 0 s1.2.2.2.2.1, nameE.bx 0 s1.2.2.2.2.2.1] (.callr (some 67) (Δ7 18 [.ptr 1 0 0] [.obj [] (diskP (startD s1.2.2.2.1 s1.1 s1.2.1 (1 + s1.2.2.2.2.2.2))), .cells false 0 ([.op 0, vi (1 + s1.2.2.2.2.2.2), vi ((recB (putI s1.2.1)).length : Int), vb true]), nameE.bx 0 s1.2.2.2.2.1, nameE.bx 0 s1.2.2.2.2.2.1] (vi (1 + s1.2.2.2.2.2.2)) [.obj [] (diskP (startD s1.2.2.2.1 s1.1 s1.2.1 (1 + s1.2.2.2.2.2.2))), .cells false 0 ([.op 0, vi (1 + s1.2.2.2.2.2.2), vi ((recB (putI s1.2.1)).length : Int), vb true]), nameE.bx 0 s1.2.2.2.2.1, nameE.bx 0 s1.2.2.2.2.2.1]) (vi (1 + s1.2.2.2.2.2.2)) [.obj [] (diskP (startD s1.2.2.2.1 s1.1 s1.2.1 (1 + s1.2.2.2.2.2.2))), .cells false 0 ([.op 0, vi (1 + s1.2.2.2.2.2.2), vi ((recB (putI s1.2.1)).length : Int), vb true]), nameE.bx 0 s1.2.2.2.2.1, nameE.bx 0 s1.2.2.2.2.2.1] (.int 69 (IntKind.i64.wrap (1 + s1.2.2.2.2.2.2)) (1 + s1.2.2.2.2.2.2) (.sp 70 ((1 + s1.2.2.2.2.2.2) != (1 + s1.2.2.2.2.2.2)) (
.int 73 ((e1.map nameE.f).length : Int) (e1.length : Int) (.leaf ⟨[4], []⟩ [] .ret (some (TParts_l1_x (decide ((e1.length : Int) > (8 : Int)))).2))) (
.int 76 ((e1.map nameE.f).length : Int) (e1.length : Int) (.loop ⟨[0, 1, 5, 6, 9, 10, 11, 48, 49, 50, 75, 76, 77], [(0, 0, none), (1, 0, none), (2, 0, some (s1.2.2.2.2.1.map nameE.f)), (3, 0, some (s1.2.2.2.2.2.1.map nameE.f))]⟩ [rowC (s1.2.2.2.2.1.map nameE.f), rowC (s1.2.2.2.2.2.1.map nameE.f)] (some (TParts_l2_e parts frm s1 e1 (((recB (putI s1.2.1)).length : Int), (startD s1.2.2.2.1 s1.1 s1.2.1 (1 + s1.2.2.2.2.2.2)), s1.2.2.2.2.1, s1.2.2.2.2.2.1, 0))) (TParts_l2_e parts frm s1 e1) (TParts_l2_x) (TParts_l2_x' parts frm s1) (((recB (putI s1.2.1)).length : Int), (startD s1.2.2.2.1 s1.1 s1.2.1 (1 + s1.2.2.2.2.2.2)), s1.2.2.2.2.1, s1.2.2.2.2.2.1, 0) (TParts_l2_b parts frm s1 e1) (fun (x2 : Unit) => .leaf ⟨[4], []⟩ [] .ret (some (TParts_l1_x true).2)) (fun (y2 : Dsk × Int × (List ByteArray) × (List ByteArray)) => .int 101 (IntKind.i64.wrap (s1.2.2.2.2.2.2 + 1)) (s1.2.2.2.2.2.2 + 1) (.leaf ⟨[0, 1, 5, 6, 9, 10, 48, 49, 50], [(0, 0, none), (1, 0, none), (2, 0, some (y2.2.2.1.map nameE.f)), (3, 0, some (y2.2.2.2.map nameE.f))]⟩ [rowC (y2.2.2.1.map nameE.f), rowC (y2.2.2.2.map nameE.f)] .normal (some (TParts_l1_e parts frm (1 + s1.2.2.2.2.2.2, y2.2.1, true, y2.1, y2.2.2.1, y2.2.2.2, s1.2.2.2.2.2.2 + 1))))))))))))))) (
.leaf ⟨[0, 1, 5, 6, 9, 10], [(0, 0, none), (1, 0, none), (2, 0, some (s1.2.2.2.2.1.map nameE.f)), (3, 0, some (s1.2.2.2.2.2.1.map nameE.f))]⟩ [rowC (s1.2.2.2.2.1.map nameE.f), rowC (s1.2.2.2.2.2.1.map nameE.f)] (.exit 0) (some (TParts_l1_x' parts frm (s1.2.2.2.1, s1.1, s1.2.1, s1.2.2.1, s1.2.2.2.2.1, s1.2.2.2.2.2.1)).2))
noncomputable def TParts (parts : List (List ByteArray)) (frm : Int) (allP : List ByteArray) (lateP : List ByteArray) (sz : Int) (sz2 : Int) : Tree :=
.call 21 (gHeadL [] = some (vb true)) (vb true) (.int 24 ((parts.map namesE.f).length : Int) (parts.length : Int) (.sp 25 ((parts.length : Int) == (0 : Int)) (
.leaf ⟨[0], []⟩ [] .ret (some ([(0, vb true)], []))) (
.int 28 ((parts.map namesE.f).length : Int) (parts.length : Int) (.sp 29 (decide ((parts.length : Int) > (5 : Int))) (
.leaf ⟨[0], []⟩ [] .ret (some ([(0, vb true)], []))) (
.callr (some 31) (Δ7 15 [vi 1048576] [] (.op 0) [.obj [] (diskP (newD 1048576))]) (.op 0) [.obj [] (diskP (newD 1048576))] (.callr (some 34) (Δ7 16 [.op 0, vi 1] [.obj [] (diskP (newD 1048576))] (.tup [.ptr 1 0 0, .rs 2 0 1 0 (([] : List ByteArray).length), vi 0]) [.obj [] (diskP (newD 1048576)), .cells false 0 ([.op 0, vi 0, vi 0, vb false]), nameE.bx 0 ([] : List ByteArray)]) (.tup [.ptr 1 0 0, .rs 2 0 1 0 (([] : List ByteArray).length), vi 0]) [.obj [] (diskP (newD 1048576)), .cells false 0 ([.op 0, vi 0, vi 0, vb false]), nameE.bx 0 ([] : List ByteArray)] (.int 41 (IntKind.i64.wrap ((BitVec.ofInt IntKind.i64.bits frm &&& BitVec.ofInt IntKind.i64.bits 7).toNat)) (frm % 8) (.int 43 ((parts.map namesE.f).length : Int) (parts.length : Int) (.val (some 44) ((binA DP .rem 3 (vi (frm % 8)) (vi (parts.length : Int))).map (fun v => (v, ([.obj [] (diskP (newD 1048576)), .cells false 0 ([.op 0, vi 0, vi 0, vb false]), nameE.bx 0 ([] : List ByteArray)] : List Box))) = some (vi (Int.tmod (frm % 8) (parts.length : Int)), [.obj [] (diskP (newD 1048576)), .cells false 0 ([.op 0, vi 0, vi 0, vb false]), nameE.bx 0 ([] : List ByteArray)])) (vi (Int.tmod (frm % 8) (parts.length : Int))) [.obj [] (diskP (newD 1048576)), .cells false 0 ([.op 0, vi 0, vi 0, vb false]), nameE.bx 0 ([] : List ByteArray)] (.int 45 (IntKind.i64.wrap (1 + (Int.tmod (frm % 8) (parts.length : Int)))) (1 + (Int.tmod (frm % 8) (parts.length : Int))) (.int 49 ((parts.map namesE.f).length : Int) (parts.length : Int) (.loop ⟨[0, 1, 5, 6, 9, 10, 48, 49, 50], [(0, 0, none), (1, 0, none), (3, 0, none), (4, 0, none)]⟩ [] (some (TParts_l1_e parts frm (0, 0, false, (newD 1048576), ([] : List ByteArray), ([] : List ByteArray), 0))) (TParts_l1_e parts frm) (TParts_l1_x) (TParts_l1_x' parts frm) (0, 0, false, (newD 1048576), ([] : List ByteArray), ([] : List ByteArray), 0) (TParts_l1_b parts frm) (fun (x1 : Bool) => .leaf ⟨[0], []⟩ [] .ret (some ([(0, vb x1)], []))) (fun (y1 : Dsk × Int × Int × Bool × (List ByteArray) × (List ByteArray)) => .callr (some 104) (Δ7 16 [.op 0, vi 1] [.obj [] (diskP y1.1), .cells false 0 ([.op 0, vi y1.2.1, vi y1.2.2.1, vb y1.2.2.2.1]), nameE.bx 0 y1.2.2.2.2.1, nameE.bx 0 y1.2.2.2.2.2] (.tup [.ptr 4 0 0, .rs 5 0 1 0 allP.length, vi 0]) [.obj [] (diskP y1.1), .cells false 0 ([.op 0, vi y1.2.1, vi y1.2.2.1, vb y1.2.2.2.1]), nameE.bx 0 y1.2.2.2.2.1, nameE.bx 0 y1.2.2.2.2.2, .cells false 0 ([.op 0, vi (parts.length : Int), vi sz, vb false]), nameE.bx 0 allP]) (.tup [.ptr 4 0 0, .rs 5 0 1 0 allP.length, vi 0]) [.obj [] (diskP y1.1), .cells false 0 ([.op 0, vi y1.2.1, vi y1.2.2.1, vb y1.2.2.2.1]), nameE.bx 0 y1.2.2.2.2.1, nameE.bx 0 y1.2.2.2.2.2, .cells false 0 ([.op 0, vi (parts.length : Int), vi sz, vb false]), nameE.bx 0 allP] (.callr (some 111) (Δ7 16 [.op 0, vi (1 + (Int.tmod (frm % 8) (parts.length : Int)))] [.obj [] (diskP y1.1), .cells false 0 ([.op 0, vi y1.2.1, vi y1.2.2.1, vb y1.2.2.2.1]), nameE.bx 0 y1.2.2.2.2.1, nameE.bx 0 y1.2.2.2.2.2, .cells false 0 ([.op 0, vi (parts.length : Int), vi sz, vb false]), nameE.bx 0 allP] (.tup [.ptr 6 0 0, .rs 7 0 1 0 lateP.length, vi 0]) [.obj [] (diskP y1.1), .cells false 0 ([.op 0, vi y1.2.1, vi y1.2.2.1, vb y1.2.2.2.1]), nameE.bx 0 y1.2.2.2.2.1, nameE.bx 0 y1.2.2.2.2.2, .cells false 0 ([.op 0, vi (parts.length : Int), vi sz, vb false]), nameE.bx 0 allP, .cells false 0 ([.op 0, vi (parts.length : Int), vi sz2, vb false]), nameE.bx 0 lateP]) (.tup [.ptr 6 0 0, .rs 7 0 1 0 lateP.length, vi 0]) [.obj [] (diskP y1.1), .cells false 0 ([.op 0, vi y1.2.1, vi y1.2.2.1, vb y1.2.2.2.1]), nameE.bx 0 y1.2.2.2.2.1, nameE.bx 0 y1.2.2.2.2.2, .cells false 0 ([.op 0, vi (parts.length : Int), vi sz, vb false]), nameE.bx 0 allP, .cells false 0 ([.op 0, vi (parts.length : Int), vi sz2, vb false]), nameE.bx 0 lateP] (.callr (some 126) (Δ7 20 [.rs 5 0 1 0 allP.length, .rs 2 0 1 0 y1.2.2.2.2.1.length, vi ((y1.2.2.2.2.1.length : Nat) : Int)] [.obj [] (diskP y1.1), .cells false 0 ([.op 0, vi y1.2.1, vi y1.2.2.1, vb y1.2.2.2.1]), nameE.bx 0 y1.2.2.2.2.1, nameE.bx 0 y1.2.2.2.2.2, .cells false 0 ([.op 0, vi (parts.length : Int), vi sz, vb false]), nameE.bx 0 allP, .cells false 0 ([.op 0, vi (parts.length : Int), vi sz2, vb false]), nameE.bx 0 lateP] (vb true) [.obj [] (diskP y1.1), .cells false 0 ([.op 0, vi y1.2.1, vi y1.2.2.1, vb y1.2.2.2.1]), nameE.bx 0 y1.2.2.2.2.1, nameE.bx 0 y1.2.2.2.2.2, .cells false 0 ([.op 0, vi (parts.length : Int), vi sz, vb false]), .dead, .cells false 0 ([.op 0, vi (parts.length : Int), vi sz2, vb false]), nameE.bx 0 lateP]) (vb true) [.obj [] (diskP y1.1), .cells false 0 ([.op 0, vi y1.2.1, vi y1.2.2.1, vb y1.2.2.2.1]), nameE.bx 0 y1.2.2.2.2.1, nameE.bx 0 y1.2.2.2.2.2, .cells false 0 ([.op 0, vi (parts.length : Int), vi sz, vb false]), .dead, .cells false 0 ([.op 0, vi (parts.length : Int), vi sz2, vb false]), nameE.bx 0 lateP] (.callr (some 133) (Δ7 20 [.rs 7 0 1 0 lateP.length, .rs 3 0 1 0 y1.2.2.2.2.2.length, vi ((y1.2.2.2.2.2.length : Nat) : Int)] [.obj [] (diskP y1.1), .cells false 0 ([.op 0, vi y1.2.1, vi y1.2.2.1, vb y1.2.2.2.1]), nameE.bx 0 y1.2.2.2.2.1, nameE.bx 0 y1.2.2.2.2.2, .cells false 0 ([.op 0, vi (parts.length : Int), vi sz, vb false]), .dead, .cells false 0 ([.op 0, vi (parts.length : Int), vi sz2, vb false]), nameE.bx 0 lateP] (vb true) [.obj [] (diskP y1.1), .cells false 0 ([.op 0, vi y1.2.1, vi y1.2.2.1, vb y1.2.2.2.1]), nameE.bx 0 y1.2.2.2.2.1, nameE.bx 0 y1.2.2.2.2.2, .cells false 0 ([.op 0, vi (parts.length : Int), vi sz, vb false]), .dead, .cells false 0 ([.op 0, vi (parts.length : Int), vi sz2, vb false]), .dead]) (vb true) [.obj [] (diskP y1.1), .cells false 0 ([.op 0, vi y1.2.1, vi y1.2.2.1, vb y1.2.2.2.1]), nameE.bx 0 y1.2.2.2.2.1, nameE.bx 0 y1.2.2.2.2.2, .cells false 0 ([.op 0, vi (parts.length : Int), vi sz, vb false]), .dead, .cells false 0 ([.op 0, vi (parts.length : Int), vi sz2, vb false]), .dead] (.callr (some 137) (Δ7 18 [.ptr 4 0 0] [.obj [] (diskP y1.1), .cells false 0 ([.op 0, vi y1.2.1, vi y1.2.2.1, vb y1.2.2.2.1]), nameE.bx 0 y1.2.2.2.2.1, nameE.bx 0 y1.2.2.2.2.2, .cells false 0 ([.op 0, vi (parts.length : Int), vi sz, vb false]), .dead, .cells false 0 ([.op 0, vi (parts.length : Int), vi sz2, vb false]), .dead] (vi (parts.length : Int)) [.obj [] (diskP y1.1), .cells false 0 ([.op 0, vi y1.2.1, vi y1.2.2.1, vb y1.2.2.2.1]), nameE.bx 0 y1.2.2.2.2.1, nameE.bx 0 y1.2.2.2.2.2, .cells false 0 ([.op 0, vi (parts.length : Int), vi sz, vb false]), .dead, .cells false 0 ([.op 0, vi (parts.length : Int), vi sz2, vb false]), .dead]) (vi (parts.length : Int)) [.obj [] (diskP y1.1), .cells false 0 ([.op 0, vi y1.2.1, vi y1.2.2.1, vb y1.2.2.2.1]), nameE.bx 0 y1.2.2.2.2.1, nameE.bx 0 y1.2.2.2.2.2, .cells false 0 ([.op 0, vi (parts.length : Int), vi sz, vb false]), .dead, .cells false 0 ([.op 0, vi (parts.length : Int), vi sz2, vb false]), .dead] (.int 139 ((parts.map namesE.f).length : Int) (parts.length : Int) (.sp 140 ((parts.length : Int) == (parts.length : Int)) (
.callr (some 144) (Δ7 18 [.ptr 6 0 0] [.obj [] (diskP y1.1), .cells false 0 ([.op 0, vi y1.2.1, vi y1.2.2.1, vb y1.2.2.2.1]), nameE.bx 0 y1.2.2.2.2.1, nameE.bx 0 y1.2.2.2.2.2, .cells false 0 ([.op 0, vi (parts.length : Int), vi sz, vb false]), .dead, .cells false 0 ([.op 0, vi (parts.length : Int), vi sz2, vb false]), .dead] (vi (parts.length : Int)) [.obj [] (diskP y1.1), .cells false 0 ([.op 0, vi y1.2.1, vi y1.2.2.1, vb y1.2.2.2.1]), nameE.bx 0 y1.2.2.2.2.1, nameE.bx 0 y1.2.2.2.2.2, .cells false 0 ([.op 0, vi (parts.length : Int), vi sz, vb false]), .dead, .cells false 0 ([.op 0, vi (parts.length : Int), vi sz2, vb false]), .dead]) (vi (parts.length : Int)) [.obj [] (diskP y1.1), .cells false 0 ([.op 0, vi y1.2.1, vi y1.2.2.1, vb y1.2.2.2.1]), nameE.bx 0 y1.2.2.2.2.1, nameE.bx 0 y1.2.2.2.2.2, .cells false 0 ([.op 0, vi (parts.length : Int), vi sz, vb false]), .dead, .cells false 0 ([.op 0, vi (parts.length : Int), vi sz2, vb false]), .dead] (.int 146 ((parts.map namesE.f).length : Int) (parts.length : Int) (.sp 147 ((parts.length : Int) == (parts.length : Int)) (.callr (some 151) (Δ7 21 [.ptr 4 0 0] [.obj [] (diskP y1.1), .cells false 0 ([.op 0, vi y1.2.1, vi y1.2.2.1, vb y1.2.2.2.1]), nameE.bx 0 y1.2.2.2.2.1, nameE.bx 0 y1.2.2.2.2.2, .cells false 0 ([.op 0, vi (parts.length : Int), vi sz, vb false]), .dead, .cells false 0 ([.op 0, vi (parts.length : Int), vi sz2, vb false]), .dead] (vi sz) [.obj [] (diskP y1.1), .cells false 0 ([.op 0, vi y1.2.1, vi y1.2.2.1, vb y1.2.2.2.1]), nameE.bx 0 y1.2.2.2.2.1, nameE.bx 0 y1.2.2.2.2.2, .cells false 0 ([.op 0, vi (parts.length : Int), vi sz, vb false]), .dead, .cells false 0 ([.op 0, vi (parts.length : Int), vi sz2, vb false]), .dead]) (vi sz) [.obj [] (diskP y1.1), .cells false 0 ([.op 0, vi y1.2.1, vi y1.2.2.1, vb y1.2.2.2.1]), nameE.bx 0 y1.2.2.2.2.1, nameE.bx 0 y1.2.2.2.2.2, .cells false 0 ([.op 0, vi (parts.length : Int), vi sz, vb false]), .dead, .cells false 0 ([.op 0, vi (parts.length : Int), vi sz2, vb false]), .dead] (.callr (some 153) (Δ7 21 [.ptr 1 0 0] [.obj [] (diskP y1.1), .cells false 0 ([.op 0, vi y1.2.1, vi y1.2.2.1, vb y1.2.2.2.1]), nameE.bx 0 y1.2.2.2.2.1, nameE.bx 0 y1.2.2.2.2.2, .cells false 0 ([.op 0, vi (parts.length : Int), vi sz, vb false]), .dead, .cells false 0 ([.op 0, vi (parts.length : Int), vi sz2, vb false]), .dead] (vi y1.2.2.1) [.obj [] (diskP y1.1), .cells false 0 ([.op 0, vi y1.2.1, vi y1.2.2.1, vb y1.2.2.2.1]), nameE.bx 0 y1.2.2.2.2.1, nameE.bx 0 y1.2.2.2.2.2, .cells false 0 ([.op 0, vi (parts.length : Int), vi sz, vb false]), .dead, .cells false 0 ([.op 0, vi (parts.length : Int), vi sz2, vb false]), .dead]) (vi y1.2.2.1) [.obj [] (diskP y1.1), .cells false 0 ([.op 0, vi y1.2.1, vi y1.2.2.1, vb y1.2.2.2.1]), nameE.bx 0 y1.2.2.2.2.1, nameE.bx 0 y1.2.2.2.2.2, .cells false 0 ([.op 0, vi (parts.length : Int), vi sz, vb false]), .dead, .cells false 0 ([.op 0, vi (parts.length : Int), vi sz2, vb false]), .dead] (.leaf ⟨[0], []⟩ [] .ret (some ([(0, vb (sz == y1.2.2.1))], []))))) .stuck))) (
.leaf ⟨[0], []⟩ [] .ret (some ([(0, vb false)], []))))))))))))))))))))))

theorem TParts_chk (parts : List (List ByteArray)) (frm : Int) (allP : List ByteArray) (lateP : List ByteArray) (sz : Int) (sz2 : Int) : fnC DP Γ7 Δ7 Tryd.f3 [vl (parts.map namesE.f), vi frm] [] (TParts parts frm allP lateP sz sz2) = TParts parts frm allP lateP sz sz2 := by kernel_rfl

end Go.Ax

namespace Go.Ax
open Go.Proofs Go.RowKit
set_option maxRecDepth 100000

def cv (l : List ByteArray) : List (List UInt8) := l.map fun s => s.data.toList
theorem cv_back (l : List ByteArray) : (cv l).map toB = l := by
  unfold cv
  rw [List.map_map]
  refine (List.map_congr_left fun s _ => ?_).trans (List.map_id l)
  exact ByteArray.ext rfl
theorem flat_back (L : List (List ByteArray)) : ((L.map cv).flatten).map toB = L.flatten := by
  induction L with
  | nil => rfl
  | cons a L ih => rw [List.map_cons, List.flatten_cons, List.map_append, cv_back, ih, List.flatten_cons]

section
variable {parts : List (List ByteArray)} {frm : Int} {s1 : Int × Int × Bool × Dsk × List ByteArray × List ByteArray × Int} {e1 : List ByteArray}

/-- A part's texts are written. -/
theorem parts2 {P : List (List (List UInt8))} (hP : P.length ≤ 5) (hi : s1.2.2.2.2.2.2 = P.length) (hfb : 1 ≤ 1 + Int.tmod (frm % 8) (parts.length : Int) ∧ 1 + Int.tmod (frm % 8) (parts.length : Int) ≤ 100) (he : e1.length ≤ 8) (A0 L0 : List ByteArray) (hA : A0.length ≤ 1000) (hL : L0.length ≤ 1000) (D0 : Dsk) (hr0 : D0.room = 1048576) (hu0 : D0.used ≤ 900000) : ∀ (j m : Nat) (D : Dsk) (g : Int), m + j = e1.length →
    Wr D (P ++ [cv (e1.take m)]) → g = lastG 0 (P ++ [cv (e1.take m)]) → D.room = D0.room → D.used ≤ D0.used + m * 212 → (∀ s ∈ e1.take m, s.size ≤ 200) →
    Rounds (TParts_l2_e parts frm s1 e1) TParts_l2_x (TParts_l2_x' parts frm s1) (fun s => (TParts_l2_b parts frm s1 e1 s).wp) (g, D, A0 ++ e1.take m, (if 1 + (P.length : Int) ≥ 1 + Int.tmod (frm % 8) (parts.length : Int) then L0 ++ e1.take m else L0), (m : Int)) (.inl ()) ∨
    ∃ D1 g1, Wr D1 (P ++ [cv e1]) ∧ g1 = lastG 0 (P ++ [cv e1]) ∧ D1.room = D0.room ∧ D1.used ≤ D0.used + 8 * 212 ∧ (∀ s ∈ e1, s.size ≤ 200) ∧
      Rounds (TParts_l2_e parts frm s1 e1) TParts_l2_x (TParts_l2_x' parts frm s1) (fun s => (TParts_l2_b parts frm s1 e1 s).wp) (g, D, A0 ++ e1.take m, (if 1 + (P.length : Int) ≥ 1 + Int.tmod (frm % 8) (parts.length : Int) then L0 ++ e1.take m else L0), (m : Int)) (.inr (D1, g1, A0 ++ e1, (if 1 + (P.length : Int) ≥ 1 + Int.tmod (frm % 8) (parts.length : Int) then L0 ++ e1 else L0))) := by
  intro j
  induction j with
  | zero =>
    intro m D g hm w hg hr hu hs
    rw [List.take_of_length_le (by omega)] at *
    refine .inr ⟨D, g, w, hg, hr, by omega, hs, .done' (by intro e; cases e) ?_⟩
    unfold TParts_l2_b
    exact wp_sp (fun h => absurd (of_decide_eq_true h) (by simp only; omega)) (fun _ => wp_leaf rfl ⟨rfl, rfl⟩)
  | succ j ih =>
    intro m D g hm w hg hr hu hs
    obtain ⟨a, ha, ht⟩ := get_snoc (l := e1) (i := m) (by omega)
    by_cases hsz : a.size > 200
    · refine .inl (.done (by intro e; cases e) ?_)
      unfold TParts_l2_b
      exact wp_sp (fun _ => wp_elem a (by simp only; omega) (by simpa using ha) (wp_sp (fun _ => wp_leaf rfl ⟨rfl, rfl⟩) (fun h => absurd (of_decide_eq_false h) (by omega)))) (fun h => absurd (of_decide_eq_false h) (by simp only; omega))
    · have hrl : (recB a.data.toList).length = a.size + 12 := recB_len _
      have hpl : (1 + s1.2.2.2.2.2.2) = 1 + (P.length : Int) := by rw [hi]
      have hbody : ∀ K : AE → St → Prop, (Wr (appendD D (wname (1 + P.length)) (recB a.data.toList)).1 (P ++ [cv (e1.take (m + 1))]) → g + (recB a.data.toList).length = lastG 0 (P ++ [cv (e1.take (m + 1))]) → (appendD D (wname (1 + P.length)) (recB a.data.toList)).1.room = D0.room → (appendD D (wname (1 + P.length)) (recB a.data.toList)).1.used ≤ D0.used + (m + 1 : Nat) * 212 →
          K .normal (TParts_l2_e parts frm s1 e1 (g + (recB a.data.toList).length, (appendD D (wname (1 + P.length)) (recB a.data.toList)).1, A0 ++ e1.take (m + 1), (if 1 + (P.length : Int) ≥ 1 + Int.tmod (frm % 8) (parts.length : Int) then L0 ++ e1.take (m + 1) else L0), ((m + 1 : Nat) : Int)))) →
          (TParts_l2_b parts frm s1 e1 (g, D, A0 ++ e1.take m, (if 1 + (P.length : Int) ≥ 1 + Int.tmod (frm % 8) (parts.length : Int) then L0 ++ e1.take m else L0), (m : Int))).wp K := by
        intro K hK
        unfold TParts_l2_b
        rw [hpl]
        have htl : (e1.take m).length ≤ 8 := by rw [List.length_take]; omega
        obtain ⟨c, w2, u2, r2, l2⟩ := w.oAdd (s := a) (B := [dkB D, logC 0 (1 + P.length) g true, nameE.bx 0 (A0 ++ e1.take m), nameE.bx 0 (if 1 + (P.length : Int) ≥ 1 + Int.tmod (frm % 8) (parts.length : Int) then L0 ++ e1.take m else L0)]) (b := 0) (l := 1) rfl hg (by omega) (by omega) (by omega) rfl rfl
        have hcv : cv (e1.take (m + 1)) = cv (e1.take m) ++ [a.data.toList] := by rw [ht]; simp [cv]
        have em : ((m + 1 : Nat) : Int) = (m : Int) + 1 := by omega
        have hK2 := hK (by rw [hcv]; exact w2) (by rw [hcv]; exact l2.symm) (r2.trans hr) (by rw [u2]; omega)
        refine wp_sp (fun _ => wp_elem a (by simp only; omega) (by simpa using ha) (wp_sp (fun h => absurd (of_decide_eq_true h) (by omega)) (fun _ => wp_callr c (wp_app ⟨rfl, rfl⟩ rfl (by simp only [List.length_append, List.length_singleton]; omega) (wp_i64 (by omega) (wp_sp (fun hge => wp_app ⟨rfl, rfl⟩ rfl (by rw [if_pos (of_decide_eq_true hge)]; simp only [List.length_append, List.length_singleton]; omega) (wp_i64 (by simp only; omega) (wp_leaf rfl ?_))) (fun hlt => wp_i64 (by simp only; omega) (wp_leaf rfl ?_)))))))) (fun h => absurd (of_decide_eq_false h) (by simp only; omega))
        · have hge := of_decide_eq_true hge
          rw [if_pos hge] at hK2 ⊢
          rw [ht, em] at hK2
          simpa only [List.append_assoc] using hK2
        · have hlt := of_decide_eq_false hlt
          rw [if_neg hlt] at hK2 ⊢
          rw [ht, em] at hK2
          simpa only [List.append_assoc] using hK2
      obtain ⟨cw, cg, cr, cu⟩ : Wr (appendD D (wname (1 + P.length)) (recB a.data.toList)).1 (P ++ [cv (e1.take (m + 1))]) ∧ g + (recB a.data.toList).length = lastG 0 (P ++ [cv (e1.take (m + 1))]) ∧ (appendD D (wname (1 + P.length)) (recB a.data.toList)).1.room = D0.room ∧ (appendD D (wname (1 + P.length)) (recB a.data.toList)).1.used ≤ D0.used + (m + 1 : Nat) * 212 := by
        obtain ⟨c, w2, u2, r2, l2⟩ := w.oAdd (s := a) (B := [dkB D, logC 0 (1 + P.length) g true]) (b := 0) (l := 1) rfl hg (by omega) (by omega) (by omega) rfl rfl
        have hcv : cv (e1.take (m + 1)) = cv (e1.take m) ++ [a.data.toList] := by rw [ht]; simp [cv]
        exact ⟨by rw [hcv]; exact w2, by rw [hcv]; exact l2.symm, r2.trans hr, by rw [u2]; omega⟩
      have hs2 : ∀ s ∈ e1.take (m + 1), s.size ≤ 200 := fun s hx => by
        rw [ht] at hx
        rcases List.mem_append.1 hx with hx | hx
        · exact hs s hx
        · rw [List.mem_singleton.1 hx]; omega
      rcases ih (m + 1) _ _ (by omega) cw cg cr cu hs2 with h | ⟨D1, g1, q1, q2, q3, q4, q5, q6⟩
      · exact .inl (.next (hbody _ (fun _ _ _ _ => ⟨rfl, rfl⟩)) h)
      · exact .inr ⟨D1, g1, q1, q2, q3, q4, q5, .next (hbody _ (fun _ _ _ _ => ⟨rfl, rfl⟩)) q6⟩
end

def lateOf (parts : List (List ByteArray)) (f : Int) (i : Nat) : List ByteArray := ((parts.take i).drop (f - 1).toNat).flatten

/-- All parts are written. -/
theorem parts1 {parts : List (List ByteArray)} {frm : Int} (hp : parts.length ≤ 5) (hfb : 1 ≤ 1 + Int.tmod (frm % 8) (parts.length : Int) ∧ 1 + Int.tmod (frm % 8) (parts.length : Int) ≤ 100) : ∀ (j i : Nat) (D : Dsk) (g : Int) (o : Bool), i + j = parts.length →
    Wr D ((parts.take i).map cv) → g = lastG 0 ((parts.take i).map cv) → D.room = 1048576 → D.used ≤ i * 2000 → (∀ l ∈ parts.take i, l.length ≤ 8 ∧ ∀ s ∈ l, s.size ≤ 200) →
    Rounds (TParts_l1_e parts frm) TParts_l1_x (TParts_l1_x' parts frm) (fun s => (TParts_l1_b parts frm s).wp) ((i : Int), g, o, D, (parts.take i).flatten, lateOf parts (1 + Int.tmod (frm % 8) (parts.length : Int)) i, (i : Int)) (.inl true) ∨
    ∃ D1 o1, Wr D1 (parts.map cv) ∧ (∀ l ∈ parts, l.length ≤ 8 ∧ ∀ s ∈ l, s.size ≤ 200) ∧
      Rounds (TParts_l1_e parts frm) TParts_l1_x (TParts_l1_x' parts frm) (fun s => (TParts_l1_b parts frm s).wp) ((i : Int), g, o, D, (parts.take i).flatten, lateOf parts (1 + Int.tmod (frm % 8) (parts.length : Int)) i, (i : Int)) (.inr (D1, (parts.length : Int), lastG 0 (parts.map cv), o1, parts.flatten, lateOf parts (1 + Int.tmod (frm % 8) (parts.length : Int)) parts.length)) := by
  intro j
  induction j with
  | zero =>
    intro i D g o hi w hg hr hu hs
    obtain rfl : i = parts.length := by omega
    rw [List.take_of_length_le (Nat.le_refl _)] at *
    refine .inr ⟨D, o, w, hs, .done' (by intro e; cases e) ?_⟩
    unfold TParts_l1_b
    exact wp_sp (fun h => absurd (of_decide_eq_true h) (by simp only; omega)) (fun _ => wp_leaf rfl ⟨rfl, by rw [hg]⟩)
  | succ j ih =>
    intro i D g o hi w hg hr hu hs
    obtain ⟨e1, he, ht⟩ := get_snoc (l := parts) (i := i) (by omega)
    by_cases h8 : e1.length > 8
    · refine .inl (.done (by intro e; cases e) ?_)
      unfold TParts_l1_b
      refine wp_sp (fun _ => wp_elem e1 (by simp only; omega) (by simpa using he) (wp_len (wp_sp (fun _ => wp_len (wp_leaf rfl ⟨rfl, ?_⟩)) (fun h => absurd (of_decide_eq_false h) (by omega))))) (fun h => absurd (of_decide_eq_false h) (by simp only; omega))
      rw [decide_eq_true (by omega : (e1.length : Int) > 8)]
    · have hlen : ((parts.take i).map cv).length = i := by simp; omega
      have hfl : ((parts.take i).flatten).length ≤ i * 8 := by
        rw [List.length_flatten]
        have : ∀ l : List (List ByteArray), (∀ x ∈ l, x.length ≤ 8) → (l.map List.length).sum ≤ l.length * 8 := fun l => by
          induction l with
          | nil => intro _; simp
          | cons a l ih =>
            intro h
            have h1 := h a (by simp)
            have h2 := ih (fun x hx => h x (by simp [hx]))
            simp only [List.map_cons, List.sum_cons, List.length_cons]; omega
        have := this (parts.take i) (fun x hx => (hs x hx).1)
        rw [List.length_take] at this
        omega
      have hll : (lateOf parts (1 + Int.tmod (frm % 8) (parts.length : Int)) i).length ≤ i * 8 := by
        refine Nat.le_trans ?_ hfl
        unfold lateOf
        have := congrArg (fun l => l.flatten.length) (List.take_append_drop (1 + Int.tmod (frm % 8) (parts.length : Int) - 1).toNat (parts.take i))
        simp only [List.flatten_append, List.length_append] at this
        omega
      obtain ⟨c, w2, u2, r2, l2⟩ := w.oStart (B := [dkB D, logC 0 (i : Int) g o, nameE.bx 0 (parts.take i).flatten, nameE.bx 0 (lateOf parts (1 + Int.tmod (frm % 8) (parts.length : Int)) i)]) (b := 0) (l := 1) (p := (i : Int)) (n := 1 + (i : Int)) (by rw [hlen]) hg rfl (by omega) (by omega) rfl rfl
      have hh := recB_head (g := g) (by rw [hg]; exact w.sg)
      have hstep : lateOf parts (1 + Int.tmod (frm % 8) (parts.length : Int)) (i + 1) = if 1 + ((((parts.take i).map cv).length : Nat) : Int) ≥ 1 + Int.tmod (frm % 8) (parts.length : Int) then lateOf parts (1 + Int.tmod (frm % 8) (parts.length : Int)) i ++ e1 else lateOf parts (1 + Int.tmod (frm % 8) (parts.length : Int)) i := by
        unfold lateOf
        rw [hlen, ht]
        have htl : (parts.take i).length = i := by rw [List.length_take]; omega
        split
        · rw [List.drop_append_of_le_length (by omega)]; simp
        · rw [List.drop_of_length_le (by rw [List.length_append, htl, List.length_singleton]; omega), List.drop_of_length_le (by omega)]
      have hin := parts2 (parts := parts) (frm := frm) (s1 := ((i : Int), g, o, D, (parts.take i).flatten, lateOf parts (1 + Int.tmod (frm % 8) (parts.length : Int)) i, (i : Int))) (e1 := e1) (P := (parts.take i).map cv) (by omega) (by rw [hlen]) hfb (by omega) (parts.take i).flatten (lateOf parts (1 + Int.tmod (frm % 8) (parts.length : Int)) i) (by omega) (by omega) (startD D i g (1 + i)) (r2.trans hr) (by rw [u2]; omega) e1.length 0 (startD D i g (1 + i)) (recB (putI g)).length (by omega) (by simpa [cv] using w2) (by simpa [cv] using l2.symm) rfl (by omega) (by simp)
      simp only [List.take_zero, List.append_nil, ite_self] at hin
      have hK : ∀ (K : AE → St → Prop), K .ret (TParts_l1_x true).2 → (Rounds (TParts_l2_e parts frm ((i : Int), g, o, D, (parts.take i).flatten, lateOf parts (1 + Int.tmod (frm % 8) (parts.length : Int)) i, (i : Int)) e1) TParts_l2_x (TParts_l2_x' parts frm ((i : Int), g, o, D, (parts.take i).flatten, lateOf parts (1 + Int.tmod (frm % 8) (parts.length : Int)) i, (i : Int))) (fun s => (TParts_l2_b parts frm ((i : Int), g, o, D, (parts.take i).flatten, lateOf parts (1 + Int.tmod (frm % 8) (parts.length : Int)) i, (i : Int)) e1 s).wp) ((recB (putI g)).length, startD D i g (1 + i), (parts.take i).flatten, lateOf parts (1 + Int.tmod (frm % 8) (parts.length : Int)) i, 0) (.inl ())) →
          (TParts_l1_b parts frm ((i : Int), g, o, D, (parts.take i).flatten, lateOf parts (1 + Int.tmod (frm % 8) (parts.length : Int)) i, (i : Int))).wp K := by
        intro K hK hr
        unfold TParts_l1_b
        refine wp_sp (fun _ => wp_elem e1 (by simp only; omega) (by simpa using he) (wp_len (wp_sp (fun h => absurd (of_decide_eq_true h) (by omega)) (fun _ => wp_i64 (by simp only; omega) (wp_callr c (wp_callr (.inl (oPart rfl rfl)) (wp_i64 (by simp only; omega) (wp_sp (fun h => absurd h (by simp)) (fun _ => wp_len (wp_loop _ rfl hr (wp_leaf rfl hK))))))))))) (fun h => absurd (of_decide_eq_false h) (by simp only; omega))
      have hK' : ∀ (K : AE → St → Prop) (D1 : Dsk) (g1 : Int) (A L : List ByteArray), K .normal (TParts_l1_e parts frm (1 + (i : Int), g1, true, D1, A, L, (i : Int) + 1)) → (Rounds (TParts_l2_e parts frm ((i : Int), g, o, D, (parts.take i).flatten, lateOf parts (1 + Int.tmod (frm % 8) (parts.length : Int)) i, (i : Int)) e1) TParts_l2_x (TParts_l2_x' parts frm ((i : Int), g, o, D, (parts.take i).flatten, lateOf parts (1 + Int.tmod (frm % 8) (parts.length : Int)) i, (i : Int))) (fun s => (TParts_l2_b parts frm ((i : Int), g, o, D, (parts.take i).flatten, lateOf parts (1 + Int.tmod (frm % 8) (parts.length : Int)) i, (i : Int)) e1 s).wp) ((recB (putI g)).length, startD D i g (1 + i), (parts.take i).flatten, lateOf parts (1 + Int.tmod (frm % 8) (parts.length : Int)) i, 0) (.inr (D1, g1, A, L))) →
          (TParts_l1_b parts frm ((i : Int), g, o, D, (parts.take i).flatten, lateOf parts (1 + Int.tmod (frm % 8) (parts.length : Int)) i, (i : Int))).wp K := by
        intro K D1 g1 A L hK hr
        unfold TParts_l1_b
        refine wp_sp (fun _ => wp_elem e1 (by simp only; omega) (by simpa using he) (wp_len (wp_sp (fun h => absurd (of_decide_eq_true h) (by omega)) (fun _ => wp_i64 (by simp only; omega) (wp_callr c (wp_callr (.inl (oPart rfl rfl)) (wp_i64 (by simp only; omega) (wp_sp (fun h => absurd h (by simp)) (fun _ => wp_len (wp_loop' _ rfl hr (wp_i64 (by simp only; omega) (wp_leaf rfl hK)))))))))))) (fun h => absurd (of_decide_eq_false h) (by simp only; omega))
      rcases hin with h | ⟨D1, g1, q1, q2, q3, q4, q5, q6⟩
      · exact .inl (.done (by intro e; cases e) (hK _ ⟨rfl, rfl⟩ h))
      · have hP2 : (parts.take (i + 1)).map cv = (parts.take i).map cv ++ [cv e1] := by rw [ht]; simp
        have hA2 : (parts.take (i + 1)).flatten = (parts.take i).flatten ++ e1 := by rw [ht]; simp
        rw [← hP2] at q1 q2
        rw [← hstep, ← hA2] at q6
        have hnx := hK' (fun e c => e = .normal ∧ c = TParts_l1_e parts frm (((i + 1 : Nat) : Int), g1, true, D1, (parts.take (i + 1)).flatten, lateOf parts (1 + Int.tmod (frm % 8) (parts.length : Int)) (i + 1), ((i + 1 : Nat) : Int))) D1 g1 _ _ ⟨rfl, by
          have e1 : 1 + (i : Int) = ((i + 1 : Nat) : Int) := by omega
          have e2 : (i : Int) + 1 = ((i + 1 : Nat) : Int) := by omega
          rw [e1, e2]⟩ q6
        have hs2 : ∀ l ∈ parts.take (i + 1), l.length ≤ 8 ∧ ∀ s ∈ l, s.size ≤ 200 := fun l hx => by
          rw [ht] at hx
          rcases List.mem_append.1 hx with hx | hx
          · exact hs l hx
          · rw [List.mem_singleton.1 hx]; exact ⟨by omega, q5⟩
        rcases ih (i + 1) D1 g1 true (by omega) q1 q2 (q3.trans (r2.trans hr)) (by omega) hs2 with h | ⟨D2, o2, z1, z2, z3⟩
        · exact .inl (.next hnx h)
        · exact .inr ⟨D2, o2, z1, z2, .next hnx z3⟩

end Go.Ax

namespace Go.Ax
open Go.Proofs Go.RowKit
set_option maxRecDepth 100000

theorem andI64 {a : Int} (m : Nat) (hm : m ≤ 32) : IntKind.i64.wrap ((BitVec.ofInt IntKind.i64.bits a &&& BitVec.ofInt IntKind.i64.bits ((2 ^ m - 1 : Nat) : Int)).toNat) = a % ((2 ^ m : Nat) : Int) := by
  have h2 : 2 ^ m - 1 < 2 ^ 64 := Nat.lt_of_lt_of_le (Nat.sub_lt (Nat.two_pow_pos m) Nat.one_pos) (Nat.pow_le_pow_right (by decide) (by omega))
  have hp : (2 : Nat) ^ m ≤ 2 ^ 32 := Nat.pow_le_pow_right (by decide) hm
  show IntKind.i64.wrap (((BitVec.ofInt 64 a &&& BitVec.ofInt 64 ((2 ^ m - 1 : Nat) : Int)).toNat : Nat) : Int) = _
  rw [BitVec.toNat_and, BitVec.ofInt_natCast, BitVec.toNat_ofNat, Nat.mod_eq_of_lt h2, Nat.and_two_pow_sub_one_eq_mod, BitVec.toNat_ofInt]
  have hpos : 0 < (2 : Nat) ^ m := Nat.two_pow_pos m
  have hd : ((2 ^ m : Nat) : Int) ∣ ((2 ^ 64 : Nat) : Int) := Int.natCast_dvd_natCast.2 (Nat.pow_dvd_pow 2 (by omega))
  have hnn : 0 ≤ a % ((2 ^ 64 : Nat) : Int) := Int.emod_nonneg _ (by decide)
  have e : (((a % ((2 ^ 64 : Nat) : Int)).toNat % 2 ^ m : Nat) : Int) = a % ((2 ^ m : Nat) : Int) := by
    rw [Int.natCast_emod, Int.toNat_of_nonneg hnn, Int.emod_emod_of_dvd _ hd]
  rw [e]
  have h3 := Int.emod_lt_of_pos a (b := ((2 ^ m : Nat) : Int)) (by omega)
  have h4 := Int.emod_nonneg a (b := ((2 ^ m : Nat) : Int)) (by omega)
  have h5 : ((2 ^ m : Nat) : Int) ≤ 4294967296 := by
    have : (2 : Nat) ^ 32 = 4294967296 := by decide
    omega
  exact wrap_i64 (by omega)
theorem and7 (a : Int) : IntKind.i64.wrap ((BitVec.ofInt IntKind.i64.bits a &&& BitVec.ofInt IntKind.i64.bits 7).toNat) = a % 8 := andI64 3 (by decide)
theorem rem_val {a b : Int} {B : List Box} {t : TypeId} (hb : b ≠ 0) : (binA DP .rem t (vi a) (vi b)).map (fun v => (v, B)) = some (vi (Int.tmod a b), B) := by
  show (((if b = 0 then none else some _ : Option Value)).map _).map _ = _
  rw [if_neg hb]
  rfl

def RWalParts : List AV → AV → Prop := fun args r => ∃ (parts : List (List ByteArray)) (frm : Int), args = [vl (parts.map namesE.f), vi frm] ∧ r = vb true
theorem SWalParts : SoundF DP iWalParts (.pure (relG RWalParts)) := sound_pureT mixedD Γ7_ok Δ7_ok hfWalParts heWalParts hbWalParts (by
  rintro args r ⟨parts, frm, rfl, rfl⟩
  refine ⟨rfl, rfl, _, TParts_chk parts frm parts.flatten (lateOf parts (1 + Int.tmod (frm % 8) (parts.length : Int)) parts.length) (lastG 0 (parts.map cv)) (lastG 0 (parts.map cv)), ?_⟩
  unfold TParts
  refine wp_call gHeadL_eq (wp_len (wp_sp (fun _ => wp_leaf rfl (.p _)) (fun h0 => wp_len (wp_sp (fun _ => wp_leaf rfl (.p _)) (fun h5 => ?_)))))
  have h0 : (parts.length : Int) ≠ 0 := by simpa using h0
  have h5 := of_decide_eq_false h5
  have ht1 : 0 ≤ Int.tmod (frm % 8) (parts.length : Int) := Int.tmod_nonneg _ (by omega)
  have ht2 : Int.tmod (frm % 8) (parts.length : Int) < (parts.length : Int) := Int.tmod_lt_of_pos _ (by omega)
  refine wp_callr (oNew 1048576) (wp_callr (oOpenNew rfl) (wp_int (and7 frm) (wp_len (wp_val (rem_val h0) (wp_i64 (by omega) (wp_len ?_))))))
  have hm := parts1 (parts := parts) (frm := frm) (by omega) (by omega) parts.length 0 (newD 1048576) 0 false (by omega) .new rfl (by decide) (by decide) (by simp)
  have e0 : lateOf parts (1 + Int.tmod (frm % 8) (parts.length : Int)) 0 = [] := by simp [lateOf]
  rw [e0] at hm
  rcases hm with h | ⟨D1, o1, w, hs, h⟩
  · exact wp_loop _ rfl h (wp_leaf rfl (.p _))
  · refine wp_loop' _ rfl h ?_
    clear h
    have hsm : Small (parts.map cv) := by
      intro ts hts d hd
      obtain ⟨l, hl, rfl⟩ := List.mem_map.1 hts
      obtain ⟨s, hsl, rfl⟩ := List.mem_map.1 hd
      have := (hs l hl).2 s hsl
      show s.size ≤ _
      omega
    have hfl : ∀ L : List (List ByteArray), (∀ x ∈ L, x.length ≤ 8) → L.flatten.length ≤ L.length * 8 := fun L => by
      induction L with
      | nil => intro _; simp
      | cons a l ih =>
        intro h
        have h1 := h a (by simp)
        have h2 := ih (fun x hx => h x (by simp [hx]))
        simp only [List.flatten_cons, List.length_append, List.length_cons]; omega
    have hall := hfl parts (fun x hx => (hs x hx).1)
    have elate : lateOf parts (1 + Int.tmod (frm % 8) (parts.length : Int)) parts.length = (parts.drop (Int.tmod (frm % 8) (parts.length : Int)).toNat).flatten := by
      unfold lateOf
      rw [List.take_of_length_le (Nat.le_refl _), show (1 + Int.tmod (frm % 8) (parts.length : Int) - 1) = Int.tmod (frm % 8) (parts.length : Int) by omega]
    have hlate := hfl (parts.drop (Int.tmod (frm % 8) (parts.length : Int)).toNat) (fun x hx => (hs x (List.mem_of_mem_drop hx)).1)
    rw [List.length_drop] at hlate
    rw [elate]
    have hpl : ((parts.map cv).length : Int) = (parts.length : Int) := by simp
    have c1 := fun (B : List Box) (hb : B[0]? = some (dkB D1)) => w.oOpen (B := B) (b := 0) hsm (by simp; omega) (j := 0) (by simp; omega) (n := 1) rfl hb
    have c2 := fun (B : List Box) (hb : B[0]? = some (dkB D1)) => w.oOpen (B := B) (b := 0) hsm (by simp; omega) (j := (Int.tmod (frm % 8) (parts.length : Int)).toNat) (by simp; omega) (n := 1 + Int.tmod (frm % 8) (parts.length : Int)) (by omega) hb
    simp only [List.drop_zero, flat_back, hpl, ← List.map_drop] at c1 c2
    refine wp_callr (c1 _ rfl) (wp_callr (c2 _ rfl) ?_)
    have b1 := fun (B : List Box) (k kb : Nat) (hk : B[k]? = some (nameE.bx 0 parts.flatten)) (ha : B[kb]? = some (nameE.bx 0 parts.flatten)) (hne : k ≠ kb) => oBegS (m := (parts.flatten.length : Int)) (by omega) hk ha hne
    have b2 := fun (B : List Box) (k kb : Nat) (hk : B[k]? = some (nameE.bx 0 (parts.drop (Int.tmod (frm % 8) (parts.length : Int)).toNat).flatten)) (ha : B[kb]? = some (nameE.bx 0 (parts.drop (Int.tmod (frm % 8) (parts.length : Int)).toNat).flatten)) (hne : k ≠ kb) => oBegS (m := ((parts.drop (Int.tmod (frm % 8) (parts.length : Int)).toNat).flatten.length : Int)) (by omega) hk ha hne
    simp only [begB_self] at b1 b2
    refine wp_callr (b1 _ 5 2 rfl rfl (by decide)) (wp_callr (b2 _ 7 3 rfl rfl (by decide)) ?_)
    refine wp_callr (.inl (oPart rfl rfl)) (wp_len (wp_sp (fun _ => wp_callr (.inl (oPart rfl rfl)) (wp_len (wp_sp (fun _ => wp_callr (.inl (oSizeW rfl rfl)) (wp_callr (.inl (oSizeW rfl rfl)) (wp_leaf rfl ?_))) (fun h => absurd h (by simp))))) (fun h => absurd h (by simp))))
    rw [beq_self_eq_true]
    exact .p _)
end Go.Ax
