/- Trees, printed by gen/h4.py: Meets, MinFunc, Check, Pick, the law. -/
import Derived.Test.YtgbmmmglilpdjaaTlds
set_option linter.unusedVariables false
set_option linter.unusedSimpArgs false
namespace Go.Ax
open Go.Proofs Go.RowKit
set_option maxRecDepth 100000

noncomputable def T6_j1_e (v : Vers) (c : Conf) (j1 : Bool) : St := ([(2, .ptr 0 0 0), (3, .ptr 1 0 0), (5, vb j1)], [.cells false 0 ([vl (v.files.map metaE.f), vi v.log, vi v.next, vn .u64 v.seq]), .cells false 0 ([vi c.files, vi c.size, vi c.cut])])
noncomputable def T6_j2_e (v : Vers) (c : Conf) (j1 : Bool) (j2 : Bool) : St := ([(2, .ptr 0 0 0), (3, .ptr 1 0 0), (5, vb j1), (63, vb j2)], [.cells false 0 ([vl (v.files.map metaE.f), vi v.log, vi v.next, vn .u64 v.seq]), .cells false 0 ([vi c.files, vi c.size, vi c.cut])])
noncomputable def T6_j3_e (v : Vers) (c : Conf) (j3 : Bool) : St := ([(2, .ptr 0 0 0), (3, .ptr 1 0 0), (76, vb j3)], [.cells false 0 ([vl (v.files.map metaE.f), vi v.log, vi v.next, vn .u64 v.seq]), .cells false 0 ([vi c.files, vi c.size, vi c.cut])])
noncomputable def T6_j4_e (v : Vers) (c : Conf) (j4 : Int × (List Meta)) : St := ([(2, .ptr 0 0 0), (3, .ptr 1 0 0), (6, .ptr 2 0 0), (7, vb (decide ((pickL v c).2 > 0))), (8, .rs 3 0 5 0 j4.2.length), (9, vi j4.1)], [.cells false 0 ([vl (v.files.map metaE.f), vi v.log, vi v.next, vn .u64 v.seq]), .cells false 0 ([vi c.files, vi c.size, vi c.cut]), .cells false 0 ([vl (((pickL v c).1).map metaE.f), vi ((pickL v c).2)]), metaE.bx 0 j4.2])
noncomputable def T6_l5_e (v : Vers) (c : Conf) (s5 : (List Meta) × Int × Int × Int) : St := ([(2, .ptr 0 0 0), (6, .ptr 1 0 0), (7, vb (decide ((pickL v c).2 > 0))), (8, .rs 2 0 5 0 s5.1.length), (9, vi s5.2.2.2), (14, vi s5.2.1), (15, vi s5.2.2.1)], [.cells false 0 ([vl (v.files.map metaE.f), vi v.log, vi v.next, vn .u64 v.seq]), .cells false 0 ([vl (((pickL v c).1).map metaE.f), vi ((pickL v c).2)]), metaE.bx 0 s5.1])
noncomputable def T6_l5_x (v : Vers) (c : Conf) (x5 : Int × (List Meta)) : AE × St := ((.exit 2), ([(6, .ptr 0 0 0), (7, vb (decide ((pickL v c).2 > 0))), (8, .rs 1 0 5 0 x5.2.length), (9, vi x5.1)], [.cells false 0 ([vl (((pickL v c).1).map metaE.f), vi ((pickL v c).2)]), metaE.bx 0 x5.2]))
noncomputable def T6_j6_e (v : Vers) (c : Conf) (s5 : (List Meta) × Int × Int × Int) (j6 : Bool) : St := ([(2, .ptr 0 0 0), (6, .ptr 1 0 0), (7, vb (decide ((pickL v c).2 > 0))), (8, .rs 2 0 5 0 s5.1.length), (9, vi s5.2.2.2), (14, vi s5.2.1), (15, vi s5.2.2.1), (132, vb j6)], [.cells false 0 ([vl (v.files.map metaE.f), vi v.log, vi v.next, vn .u64 v.seq]), .cells false 0 ([vl (((pickL v c).1).map metaE.f), vi ((pickL v c).2)]), metaE.bx 0 s5.1])
noncomputable def T6_l7_e (v : Vers) (c : Conf) (s5 : (List Meta) × Int × Int × Int) (s7 : Meta × Int × Int) : St := ([(2, .ptr 0 0 0), (6, .ptr 1 0 0), (7, vb (decide ((pickL v c).2 > 0))), (8, .rs 2 0 5 0 s5.1.length), (9, vi s5.2.2.2), (14, vi s5.2.1), (15, vi s5.2.2.1), (16, vi s7.2.2), (17, .ptr 3 0 0), (138, vl ((ofL s5.2.2.1 v.files).map metaE.f)), (139, vi ((ofL s5.2.2.1 v.files).length : Int)), (140, vi s7.2.1)], [.cells false 0 ([vl (v.files.map metaE.f), vi v.log, vi v.next, vn .u64 v.seq]), .cells false 0 ([vl (((pickL v c).1).map metaE.f), vi ((pickL v c).2)]), metaE.bx 0 s5.1, .cells false 0 ([vi s7.1.num, vi s7.1.level, vs s7.1.low, vs s7.1.high, vi s7.1.size])])
noncomputable def T6_l7_x (v : Vers) (c : Conf) (s5 : (List Meta) × Int × Int × Int) (x7 : Int × Meta) : AE × St := ((.exit 4), ([(2, .ptr 0 0 0), (6, .ptr 1 0 0), (7, vb (decide ((pickL v c).2 > 0))), (8, .rs 2 0 5 0 s5.1.length), (9, vi s5.2.2.2), (14, vi s5.2.1), (15, vi s5.2.2.1), (16, vi x7.1), (17, .ptr 3 0 0)], [.cells false 0 ([vl (v.files.map metaE.f), vi v.log, vi v.next, vn .u64 v.seq]), .cells false 0 ([vl (((pickL v c).1).map metaE.f), vi ((pickL v c).2)]), metaE.bx 0 s5.1, .cells false 0 ([vi x7.2.num, vi x7.2.level, vs x7.2.low, vs x7.2.high, vi x7.2.size])]))
noncomputable def T6_l7_b (v : Vers) (c : Conf) (s5 : (List Meta) × Int × Int × Int) (s7 : Meta × Int × Int) : Tree :=
.sp 141 (decide (s7.2.1 < ((ofL s5.2.2.1 v.files).length : Int))) (
.elem 142 ((ofL s5.2.2.1 v.files).map metaE.f) metaE (ofL s5.2.2.1 v.files) s7.2.1 (fun e1 => .int 147 (IntKind.i64.wrap (s7.2.2 + e1.size)) (s7.2.2 + e1.size) (.sp 150 (s7.1.num == (0 : Int)) (
.int 159 (IntKind.i64.wrap (s7.2.1 + 1)) (s7.2.1 + 1) (.leaf ⟨[2, 6, 7, 8, 9, 14, 15, 16, 17, 138, 139, 140], [(0, 0, none), (1, 0, none), (2, 0, some (s5.1.map metaE.f)), (3, 0, none)]⟩ [rowC (s5.1.map metaE.f)] .normal (some (T6_l7_e v c s5 (e1, s7.2.1 + 1, s7.2.2 + e1.size))))) (
.sp 156 (decide (e1.num < s7.1.num)) (
.int 159 (IntKind.i64.wrap (s7.2.1 + 1)) (s7.2.1 + 1) (.leaf ⟨[2, 6, 7, 8, 9, 14, 15, 16, 17, 138, 139, 140], [(0, 0, none), (1, 0, none), (2, 0, some (s5.1.map metaE.f)), (3, 0, none)]⟩ [rowC (s5.1.map metaE.f)] .normal (some (T6_l7_e v c s5 (e1, s7.2.1 + 1, s7.2.2 + e1.size))))) (
.int 159 (IntKind.i64.wrap (s7.2.1 + 1)) (s7.2.1 + 1) (.leaf ⟨[2, 6, 7, 8, 9, 14, 15, 16, 17, 138, 139, 140], [(0, 0, none), (1, 0, none), (2, 0, some (s5.1.map metaE.f)), (3, 0, none)]⟩ [rowC (s5.1.map metaE.f)] .normal (some (T6_l7_e v c s5 (s7.1, s7.2.1 + 1, s7.2.2 + e1.size))))))))) (
.leaf ⟨[2, 6, 7, 8, 9, 14, 15, 16, 17], [(0, 0, none), (1, 0, none), (2, 0, some (s5.1.map metaE.f)), (3, 0, none)]⟩ [rowC (s5.1.map metaE.f)] (.exit 4) (some (T6_l7_x v c s5 (s7.2.2, s7.1)).2))
noncomputable def T6_j6 (v : Vers) (c : Conf) (s5 : (List Meta) × Int × Int × Int) (j6 : Bool) : Tree :=
.br j6 (
.call 138 (gOf [.agg [vl (v.files.map metaE.f), vi v.log, vi v.next, vn .u64 v.seq], vi s5.2.2.1] = some (vl ((ofL s5.2.2.1 v.files).map metaE.f))) (vl ((ofL s5.2.2.1 v.files).map metaE.f)) (.int 139 (((ofL s5.2.2.1 v.files).map metaE.f).length : Int) ((ofL s5.2.2.1 v.files).length : Int) (.loop ⟨[2, 6, 7, 8, 9, 14, 15, 16, 17, 138, 139, 140], [(0, 0, none), (1, 0, none), (2, 0, some (s5.1.map metaE.f)), (3, 0, none)]⟩ [rowC (s5.1.map metaE.f)] (some (T6_l7_e v c s5 (⟨0, 0, ⟨#[]⟩, ⟨#[]⟩, 0⟩, 0, 0))) (T6_l7_e v c s5) (T6_l7_x v c s5) noX (⟨0, 0, ⟨#[]⟩, ⟨#[]⟩, 0⟩, 0, 0) (T6_l7_b v c s5) (fun (x7 : Int × Meta) => .sp 162 (decide (x7.1 > s5.2.1)) (
.int 167 (IntKind.i64.wrap (s5.2.2.1 + 1)) (s5.2.2.1 + 1) (.call 172 (g18 [.agg [vl (v.files.map metaE.f), vi v.log, vi v.next, vn .u64 v.seq], vi (s5.2.2.1 + 1), vs x7.2.low, vs x7.2.high] = some (vl ((meetsL (s5.2.2.1 + 1) v.files x7.2.low x7.2.high).map metaE.f))) (vl ((meetsL (s5.2.2.1 + 1) v.files x7.2.low x7.2.high).map metaE.f)) (.app 173 (.ls ((meetsL (s5.2.2.1 + 1) v.files x7.2.low x7.2.high).map metaE.f)) 1 ([vi x7.2.num, vi x7.2.level, vs x7.2.low, vs x7.2.high, vi x7.2.size]) metaE ([x7.2]) (meetsL (s5.2.2.1 + 1) v.files x7.2.low x7.2.high) (.int 175 (IntKind.i64.wrap (s5.2.2.1 + 1)) (s5.2.2.1 + 1) (.int 177 (IntKind.i64.wrap (s5.2.1 * 4)) (s5.2.1 * 4) (.int 134 (IntKind.i64.wrap (s5.2.2.1 + 1)) (s5.2.2.1 + 1) (.leaf ⟨[2, 6, 7, 8, 9, 14, 15], [(0, 0, none), (1, 0, none), (4, 1, some ((([x7.2]) ++ (meetsL (s5.2.2.1 + 1) v.files x7.2.low x7.2.high)).map metaE.f))]⟩ [rowC ((([x7.2]) ++ (meetsL (s5.2.2.1 + 1) v.files x7.2.low x7.2.high)).map metaE.f)] .normal (some (T6_l5_e v c (([x7.2]) ++ (meetsL (s5.2.2.1 + 1) v.files x7.2.low x7.2.high), s5.2.1 * 4, s5.2.2.1 + 1, s5.2.2.1 + 1)))))))))) (
.int 177 (IntKind.i64.wrap (s5.2.1 * 4)) (s5.2.1 * 4) (.int 134 (IntKind.i64.wrap (s5.2.2.1 + 1)) (s5.2.2.1 + 1) (.leaf ⟨[2, 6, 7, 8, 9, 14, 15], [(0, 0, none), (1, 0, none), (2, 0, some (s5.1.map metaE.f))]⟩ [rowC (s5.1.map metaE.f)] .normal (some (T6_l5_e v c (s5.1, s5.2.1 * 4, s5.2.2.1 + 1, s5.2.2.2))))))) (fun _ => .stuck)))) (
.leaf ⟨[6, 7, 8, 9], [(1, 0, none), (2, 0, some (s5.1.map metaE.f))]⟩ [rowC (s5.1.map metaE.f)] (.exit 2) (some (T6_l5_x v c (s5.2.2.2, s5.1)).2))
noncomputable def T6_l5_b (v : Vers) (c : Conf) (s5 : (List Meta) × Int × Int × Int) : Tree :=
.sp 128 (decide (s5.2.2.1 ≤ (4 : Int))) (
.sp 131 (s5.2.2.2 == (0 : Int)) (
.join ⟨[2, 6, 7, 8, 9, 14, 15, 132], [(0, 0, none), (1, 0, none), (2, 0, some (s5.1.map metaE.f))]⟩ [rowC (s5.1.map metaE.f)] (some (T6_j6_e v c s5 true)) (T6_j6_e v c s5) true (T6_j6 v c s5)) (
.join ⟨[2, 6, 7, 8, 9, 14, 15, 132], [(0, 0, none), (1, 0, none), (2, 0, some (s5.1.map metaE.f))]⟩ [rowC (s5.1.map metaE.f)] (some (T6_j6_e v c s5 false)) (T6_j6_e v c s5) false (T6_j6 v c s5))) (
.join ⟨[2, 6, 7, 8, 9, 14, 15, 132], [(0, 0, none), (1, 0, none), (2, 0, some (s5.1.map metaE.f))]⟩ [rowC (s5.1.map metaE.f)] (some (T6_j6_e v c s5 false)) (T6_j6_e v c s5) false (T6_j6 v c s5))
noncomputable def T6_j4 (v : Vers) (c : Conf) (j4 : Int × (List Meta)) : Tree :=
.loop ⟨[2, 6, 7, 8, 9, 14, 15], [(0, 0, none), (2, 0, none), (3, 0, some (j4.2.map metaE.f))]⟩ [rowC (j4.2.map metaE.f)] (some (T6_l5_e v c (j4.2, c.size, 1, j4.1))) (T6_l5_e v c) (T6_l5_x v c) noX (j4.2, c.size, 1, j4.1) (T6_l5_b v c) (fun (x5 : Int × (List Meta)) => .sp 181 ((decide ((pickL v c).2 > 0)) == (decide (x5.1 > (0 : Int)))) (
.sp 186 (((pickL v c).2) == x5.1) (
.callr (some 192) (ΔP 19 [vl (((pickL v c).1).map metaE.f), .rs 1 0 5 0 x5.2.length] [.cells false 0 ([vl (((pickL v c).1).map metaE.f), vi ((pickL v c).2)]), metaE.bx 0 x5.2] (vb (sameL ((pickL v c).1) x5.2)) [.cells false 0 ([vl (((pickL v c).1).map metaE.f), vi ((pickL v c).2)]), metaE.bx 0 x5.2]) (vb (sameL ((pickL v c).1) x5.2)) [.cells false 0 ([vl (((pickL v c).1).map metaE.f), vi ((pickL v c).2)]), metaE.bx 0 x5.2] (.leaf ⟨[0], []⟩ [] .ret (some ([(0, vb (sameL ((pickL v c).1) x5.2))], [])))) (
.leaf ⟨[0], []⟩ [] .ret (some ([(0, vb false)], [])))) (
.leaf ⟨[0], []⟩ [] .ret (some ([(0, vb false)], [])))) (fun _ => .stuck)
noncomputable def T6_l8_e (v : Vers) (c : Conf) (s8 : ByteArray × Int × ByteArray) : St := ([(2, .ptr 0 0 0), (3, .ptr 1 0 0), (6, .ptr 2 0 0), (7, vb (decide ((pickL v c).2 > 0))), (8, .rs 3 0 5 0 ((ofL 0 v.files).length)), (10, vs s8.1), (11, vs s8.2.2), (100, .rs 3 0 5 0 ((ofL 0 v.files).length)), (101, vi (((ofL 0 v.files).length : Nat) : Int)), (102, vi s8.2.1)], [.cells false 0 ([vl (v.files.map metaE.f), vi v.log, vi v.next, vn .u64 v.seq]), .cells false 0 ([vi c.files, vi c.size, vi c.cut]), .cells false 0 ([vl (((pickL v c).1).map metaE.f), vi ((pickL v c).2)]), metaE.bx 0 (ofL 0 v.files)])
noncomputable def T6_l8_x (v : Vers) (c : Conf) (x8 : ByteArray × ByteArray) : AE × St := ((.exit 0), ([(2, .ptr 0 0 0), (3, .ptr 1 0 0), (6, .ptr 2 0 0), (7, vb (decide ((pickL v c).2 > 0))), (8, .rs 3 0 5 0 ((ofL 0 v.files).length)), (10, vs x8.1), (11, vs x8.2)], [.cells false 0 ([vl (v.files.map metaE.f), vi v.log, vi v.next, vn .u64 v.seq]), .cells false 0 ([vi c.files, vi c.size, vi c.cut]), .cells false 0 ([vl (((pickL v c).1).map metaE.f), vi ((pickL v c).2)]), metaE.bx 0 (ofL 0 v.files)]))
noncomputable def T6_l8_b (v : Vers) (c : Conf) (s8 : ByteArray × Int × ByteArray) : Tree :=
.sp 103 (decide (s8.2.1 < (((ofL 0 v.files).length : Nat) : Int))) (
.ridx 104 ((ofL 0 v.files).length) s8.2.1 (.rload 105 (rowC ((ofL 0 v.files).map metaE.f)) (0 + Int.toNat s8.2.1 * 5) metaE (ofL 0 v.files) s8.2.1 0 (fun e4 => .sp 109 (Op.bytesLess e4.low.toList s8.1.toList) (
.sp 115 (!(Op.bytesLess e4.high.toList s8.2.2.toList || (e4.high.toList == s8.2.2.toList))) (
.int 118 (IntKind.i64.wrap (s8.2.1 + 1)) (s8.2.1 + 1) (.leaf ⟨[2, 3, 6, 7, 8, 10, 11, 100, 101, 102], [(0, 0, none), (1, 0, none), (2, 0, none), (3, 0, some ((ofL 0 v.files).map metaE.f))]⟩ [rowC ((ofL 0 v.files).map metaE.f)] .normal (some (T6_l8_e v c (e4.low, s8.2.1 + 1, e4.high))))) (
.int 118 (IntKind.i64.wrap (s8.2.1 + 1)) (s8.2.1 + 1) (.leaf ⟨[2, 3, 6, 7, 8, 10, 11, 100, 101, 102], [(0, 0, none), (1, 0, none), (2, 0, none), (3, 0, some ((ofL 0 v.files).map metaE.f))]⟩ [rowC ((ofL 0 v.files).map metaE.f)] .normal (some (T6_l8_e v c (e4.low, s8.2.1 + 1, s8.2.2)))))) (
.sp 115 (!(Op.bytesLess e4.high.toList s8.2.2.toList || (e4.high.toList == s8.2.2.toList))) (
.int 118 (IntKind.i64.wrap (s8.2.1 + 1)) (s8.2.1 + 1) (.leaf ⟨[2, 3, 6, 7, 8, 10, 11, 100, 101, 102], [(0, 0, none), (1, 0, none), (2, 0, none), (3, 0, some ((ofL 0 v.files).map metaE.f))]⟩ [rowC ((ofL 0 v.files).map metaE.f)] .normal (some (T6_l8_e v c (s8.1, s8.2.1 + 1, e4.high))))) (
.int 118 (IntKind.i64.wrap (s8.2.1 + 1)) (s8.2.1 + 1) (.leaf ⟨[2, 3, 6, 7, 8, 10, 11, 100, 101, 102], [(0, 0, none), (1, 0, none), (2, 0, none), (3, 0, some ((ofL 0 v.files).map metaE.f))]⟩ [rowC ((ofL 0 v.files).map metaE.f)] .normal (some (T6_l8_e v c (s8.1, s8.2.1 + 1, s8.2.2))))))))) (
.leaf ⟨[2, 3, 6, 7, 8, 10, 11], [(0, 0, none), (1, 0, none), (2, 0, none), (3, 0, some ((ofL 0 v.files).map metaE.f))]⟩ [rowC ((ofL 0 v.files).map metaE.f)] (.exit 0) (some (T6_l8_x v c (s8.1, s8.2.2)).2))
noncomputable def T6_j3 (v : Vers) (c : Conf) (j3 : Bool) : Tree :=
.br j3 (
.leaf ⟨[0], []⟩ [] .ret (some ([(0, vb true)], []))) (
.call 80 (g16 [.agg [vl (v.files.map metaE.f), vi v.log, vi v.next, vn .u64 v.seq], .agg [vi c.files, vi c.size, vi c.cut]] = some (.tup [.agg [vl (((pickL v c).1).map metaE.f), vi ((pickL v c).2)], vb (decide ((pickL v c).2 > 0))])) (.tup [.agg [vl (((pickL v c).1).map metaE.f), vi ((pickL v c).2)], vb (decide ((pickL v c).2 > 0))]) (.call 85 (gOf [.agg [vl (v.files.map metaE.f), vi v.log, vi v.next, vn .u64 v.seq], vi 0] = some (vl ((ofL 0 v.files).map metaE.f))) (vl ((ofL 0 v.files).map metaE.f)) (.int 86 (((ofL 0 v.files).map metaE.f).length : Int) ((ofL 0 v.files).length : Int) (.sp 89 (decide (((ofL 0 v.files).length : Int) ≥ c.files)) (
.callr (some 91) (ΔP 17 [.agg [vl (v.files.map metaE.f), vi v.log, vi v.next, vn .u64 v.seq], vi 0] [.cells false 0 ([vl (v.files.map metaE.f), vi v.log, vi v.next, vn .u64 v.seq]), .cells false 0 ([vi c.files, vi c.size, vi c.cut]), .cells false 0 ([vl (((pickL v c).1).map metaE.f), vi ((pickL v c).2)]), .cells true 0 ([])] (.rs 4 0 5 0 ((ofL 0 v.files).length)) [.cells false 0 ([vl (v.files.map metaE.f), vi v.log, vi v.next, vn .u64 v.seq]), .cells false 0 ([vi c.files, vi c.size, vi c.cut]), .cells false 0 ([vl (((pickL v c).1).map metaE.f), vi ((pickL v c).2)]), .cells true 0 ([]), metaE.bx 0 (ofL 0 v.files)]) (.rs 4 0 5 0 ((ofL 0 v.files).length)) [.cells false 0 ([vl (v.files.map metaE.f), vi v.log, vi v.next, vn .u64 v.seq]), .cells false 0 ([vi c.files, vi c.size, vi c.cut]), .cells false 0 ([vl (((pickL v c).1).map metaE.f), vi ((pickL v c).2)]), .cells true 0 ([]), metaE.bx 0 (ofL 0 v.files)] (.ridx 93 ((ofL 0 v.files).length) 0 (.rload 95 (rowC ((ofL 0 v.files).map metaE.f)) (0 + Int.toNat 0 * 5 + 2) metaE (ofL 0 v.files) 0 2 (fun e2 => .ridx 97 ((ofL 0 v.files).length) 0 (.rload 99 (rowC ((ofL 0 v.files).map metaE.f)) (0 + Int.toNat 0 * 5 + 3) metaE (ofL 0 v.files) 0 3 (fun e3 => .loop ⟨[2, 3, 6, 7, 8, 10, 11, 100, 101, 102], [(0, 0, none), (1, 0, none), (2, 0, none), (4, 0, some ((ofL 0 v.files).map metaE.f))]⟩ [rowC ((ofL 0 v.files).map metaE.f)] (some (T6_l8_e v c (e2.low, 0, e3.high))) (T6_l8_e v c) (T6_l8_x v c) noX (e2.low, 0, e3.high) (T6_l8_b v c) (fun (x8 : ByteArray × ByteArray) => .call 123 (g18 [.agg [vl (v.files.map metaE.f), vi v.log, vi v.next, vn .u64 v.seq], vi 1, vs x8.1, vs x8.2] = some (vl ((meetsL 1 v.files x8.1 x8.2).map metaE.f))) (vl ((meetsL 1 v.files x8.1 x8.2).map metaE.f)) (.app 124 (.ls ((meetsL 1 v.files x8.1 x8.2).map metaE.f)) ((ofL 0 v.files).length) (rowC ((ofL 0 v.files).map metaE.f)) metaE (ofL 0 v.files) (meetsL 1 v.files x8.1 x8.2) (.go (.join ⟨[2, 3, 6, 7, 8, 9], [(0, 0, none), (1, 0, none), (2, 0, none), (3, 1, some (((ofL 0 v.files) ++ (meetsL 1 v.files x8.1 x8.2)).map metaE.f))]⟩ [rowC (((ofL 0 v.files) ++ (meetsL 1 v.files x8.1 x8.2)).map metaE.f)] (some (T6_j4_e v c (1, (ofL 0 v.files) ++ (meetsL 1 v.files x8.1 x8.2)))) (T6_j4_e v c) (1, (ofL 0 v.files) ++ (meetsL 1 v.files x8.1 x8.2)) (T6_j4 v c))))) (fun _ => .stuck))))))) (
.go (.join ⟨[2, 3, 6, 7, 8, 9], [(0, 0, none), (1, 0, none), (2, 0, none), (3, 0, none)]⟩ [] (some (T6_j4_e v c (0, ([] : List Meta)))) (T6_j4_e v c) (0, ([] : List Meta)) (T6_j4 v c)))))))
noncomputable def T6_j2 (v : Vers) (c : Conf) (j1 : Bool) (j2 : Bool) : Tree :=
.br j2 (
.leaf ⟨[0], []⟩ [] .ret (some ([(0, vb false)], []))) (
.sp 64 j1 (
.int 69 ((v.files.map metaE.f).length : Int) (v.files.length : Int) (.sp 70 (decide ((v.files.length : Int) > (40 : Int))) (
.join ⟨[2, 3, 76], [(0, 0, none), (1, 0, none)]⟩ [] (some (T6_j3_e v c true)) (T6_j3_e v c) true (T6_j3 v c)) (
.call 74 (g15 [.agg [vl (v.files.map metaE.f), vi v.log, vi v.next, vn .u64 v.seq]] = some (vi (Vers.check v))) (vi (Vers.check v)) (.sp 75 ((Vers.check v) != (0 : Int)) (
.join ⟨[2, 3, 76], [(0, 0, none), (1, 0, none)]⟩ [] (some (T6_j3_e v c true)) (T6_j3_e v c) true (T6_j3 v c)) (
.join ⟨[2, 3, 76], [(0, 0, none), (1, 0, none)]⟩ [] (some (T6_j3_e v c false)) (T6_j3_e v c) false (T6_j3 v c)))))) (
.join ⟨[2, 3, 76], [(0, 0, none), (1, 0, none)]⟩ [] (some (T6_j3_e v c true)) (T6_j3_e v c) true (T6_j3 v c)))
noncomputable def T6_j1 (v : Vers) (c : Conf) (j1 : Bool) : Tree :=
.call 51 (g14 [.agg [vi c.files, vi c.size, vi c.cut]] = some (vi c.check)) (vi c.check) (.sp 54 (!((c.check == (0 : Int)) == j1)) (
.join ⟨[2, 3, 5, 63], [(0, 0, none), (1, 0, none)]⟩ [] (some (T6_j2_e v c j1 true)) (T6_j2_e v c j1) true (T6_j2 v c j1)) (
.sp 56 j1 (
.join ⟨[2, 3, 5, 63], [(0, 0, none), (1, 0, none)]⟩ [] (some (T6_j2_e v c j1 false)) (T6_j2_e v c j1) false (T6_j2 v c j1)) (
.call 60 (g14 [.agg [vi c.files, vi c.size, vi c.cut]] = some (vi c.check)) (vi c.check) (.sp 61 (c.check != (1 : Int)) (
.join ⟨[2, 3, 5, 63], [(0, 0, none), (1, 0, none)]⟩ [] (some (T6_j2_e v c j1 true)) (T6_j2_e v c j1) true (T6_j2 v c j1)) (
.join ⟨[2, 3, 5, 63], [(0, 0, none), (1, 0, none)]⟩ [] (some (T6_j2_e v c j1 false)) (T6_j2_e v c j1) false (T6_j2 v c j1))))))
noncomputable def T6 (v : Vers) (c : Conf) : Tree :=
.call 20 (gHead [] = some (vb true)) (vb true) (.sp 24 (decide (c.files ≥ (1 : Int))) (
.sp 28 (decide (c.files ≤ (100 : Int))) (
.sp 33 (decide (c.size ≥ (1 : Int))) (
.sp 38 (decide (c.size ≤ (67108864 : Int))) (
.sp 43 (decide (c.cut ≥ (1 : Int))) (
.sp 48 (decide (c.cut ≤ (1048576 : Int))) (
.join ⟨[2, 3, 5], [(0, 0, none), (1, 0, none)]⟩ [] (some (T6_j1_e v c true)) (T6_j1_e v c) true (T6_j1 v c)) (
.join ⟨[2, 3, 5], [(0, 0, none), (1, 0, none)]⟩ [] (some (T6_j1_e v c false)) (T6_j1_e v c) false (T6_j1 v c))) (
.join ⟨[2, 3, 5], [(0, 0, none), (1, 0, none)]⟩ [] (some (T6_j1_e v c false)) (T6_j1_e v c) false (T6_j1 v c))) (
.join ⟨[2, 3, 5], [(0, 0, none), (1, 0, none)]⟩ [] (some (T6_j1_e v c false)) (T6_j1_e v c) false (T6_j1 v c))) (
.join ⟨[2, 3, 5], [(0, 0, none), (1, 0, none)]⟩ [] (some (T6_j1_e v c false)) (T6_j1_e v c) false (T6_j1 v c))) (
.join ⟨[2, 3, 5], [(0, 0, none), (1, 0, none)]⟩ [] (some (T6_j1_e v c false)) (T6_j1_e v c) false (T6_j1 v c))) (
.join ⟨[2, 3, 5], [(0, 0, none), (1, 0, none)]⟩ [] (some (T6_j1_e v c false)) (T6_j1_e v c) false (T6_j1 v c)))

theorem T6_chk (v : Vers) (c : Conf) : fnC LP ΓP ΔP Try.f6 [.agg [vl (v.files.map metaE.f), vi v.log, vi v.next, vn .u64 v.seq], .agg [vi c.files, vi c.size, vi c.cut]] [] (T6 v c) = T6 v c := by kernel_rfl

end Go.Ax
