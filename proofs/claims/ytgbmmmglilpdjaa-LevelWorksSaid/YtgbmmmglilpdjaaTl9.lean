/- Trees, printed by gen/h4.py: Meets, MinFunc, Check, Pick, the law. -/
import Derived.Test.YtgbmmmglilpdjaaTla
set_option linter.unusedVariables false
set_option linter.unusedSimpArgs false
namespace Go.Ax
open Go.Proofs Go.RowKit
set_option maxRecDepth 100000

noncomputable def T29 (v : Vers) (lv : Int) (lo : ByteArray) (hi : ByteArray) : Tree :=
.callr (some 11) (ΔM 17 [.agg [vl (v.files.map metaE.f), vi v.log, vi v.next, vn .u64 v.seq], vi lv] [.cells false 0 ([vl (v.files.map metaE.f), vi v.log, vi v.next, vn .u64 v.seq]), .cells false 0 ([vs lo]), .cells false 0 ([vs hi])] (.rs 3 0 5 0 ((ofL lv v.files).length)) [.cells false 0 ([vl (v.files.map metaE.f), vi v.log, vi v.next, vn .u64 v.seq]), .cells false 0 ([vs lo]), .cells false 0 ([vs hi]), metaE.bx 0 (ofL lv v.files)]) (.rs 3 0 5 0 ((ofL lv v.files).length)) [.cells false 0 ([vl (v.files.map metaE.f), vi v.log, vi v.next, vn .u64 v.seq]), .cells false 0 ([vs lo]), .cells false 0 ([vs hi]), metaE.bx 0 (ofL lv v.files)] (.callr (some 13) (ΔM 38 [.rs 3 0 5 0 ((ofL lv v.files).length), .fn 39 [.ptr 1 0 0, .ptr 2 0 0]] [.cells false 0 ([vl (v.files.map metaE.f), vi v.log, vi v.next, vn .u64 v.seq]), .cells false 0 ([vs lo]), .cells false 0 ([vs hi]), metaE.bx 0 (ofL lv v.files)] (.rs 3 0 5 0 ((keepL (ofL lv v.files) lo hi).length)) [.cells false 0 ([vl (v.files.map metaE.f), vi v.log, vi v.next, vn .u64 v.seq]), .cells false 0 ([vs lo]), .cells false 0 ([vs hi]), metaE.bx 0 ((keepL (ofL lv v.files) lo hi) ++ List.replicate ((ofL lv v.files).length - (keepL (ofL lv v.files) lo hi).length) dM)]) (.rs 3 0 5 0 ((keepL (ofL lv v.files) lo hi).length)) [.cells false 0 ([vl (v.files.map metaE.f), vi v.log, vi v.next, vn .u64 v.seq]), .cells false 0 ([vs lo]), .cells false 0 ([vs hi]), metaE.bx 0 ((keepL (ofL lv v.files) lo hi) ++ List.replicate ((ofL lv v.files).length - (keepL (ofL lv v.files) lo hi).length) dM)] (.leaf ⟨[0], [(3, 0, some (((keepL (ofL lv v.files) lo hi) ++ List.replicate ((ofL lv v.files).length - (keepL (ofL lv v.files) lo hi).length) dM).map metaE.f))]⟩ [rowC (((keepL (ofL lv v.files) lo hi) ++ List.replicate ((ofL lv v.files).length - (keepL (ofL lv v.files) lo hi).length) dM).map metaE.f)] .ret (some ([(0, .rs 0 0 5 0 ((keepL (ofL lv v.files) lo hi).length))], [metaE.bx 0 ((keepL (ofL lv v.files) lo hi) ++ List.replicate ((ofL lv v.files).length - (keepL (ofL lv v.files) lo hi).length) dM)]))))

theorem T29_chk (v : Vers) (lv : Int) (lo : ByteArray) (hi : ByteArray) : fnC LP Γ0 ΔM Try.f29 [.agg [vl (v.files.map metaE.f), vi v.log, vi v.next, vn .u64 v.seq], vi lv, vs lo, vs hi] [] (T29 v lv lo hi) = T29 v lv lo hi := by kernel_rfl

noncomputable def T30_l1_e (L : List Meta) (s1 : Meta × Int) : St := ([(0, vl (L.map metaE.f)), (1, .fn 31 []), (4, .ptr 0 0 0), (5, .ptr 1 0 0), (6, vi s1.2)], [.cells false 0 ([vi 0, vi 0, vs (⟨#[]⟩), vs (⟨#[]⟩), vi 0]), .cells false 0 ([vi s1.1.num, vi s1.1.level, vs s1.1.low, vs s1.1.high, vi s1.1.size])])
noncomputable def T30_l1_x (x1 : Meta) : AE × St := ((.exit 0), ([(4, .ptr 0 0 0), (5, .ptr 1 0 0)], [.cells false 0 ([vi 0, vi 0, vs (⟨#[]⟩), vs (⟨#[]⟩), vi 0]), .cells false 0 ([vi x1.num, vi x1.level, vs x1.low, vs x1.high, vi x1.size])]))
noncomputable def T30_l1_b (L : List Meta) (s1 : Meta × Int) : Tree :=
.int 16 ((L.map metaE.f).length : Int) (L.length : Int) (.sp 17 (decide (s1.2 < (L.length : Int))) (
.elem 23 (L.map metaE.f) metaE L s1.2 (fun e2 => .call 26 (g31 [(metaE.av e2), (metaE.av s1.1)] = some (vi (c31 e2 s1.1))) (vi (c31 e2 s1.1)) (.sp 27 (decide ((c31 e2 s1.1) < (0 : Int))) (
.elemk 30 (L.map metaE.f) metaE L s1.2 e2 (.int 19 (IntKind.i64.wrap (s1.2 + 1)) (s1.2 + 1) (.leaf ⟨[0, 1, 4, 5, 6], [(0, 0, none), (1, 0, none)]⟩ [] .normal (some (T30_l1_e L (e2, s1.2 + 1)))))) (
.int 19 (IntKind.i64.wrap (s1.2 + 1)) (s1.2 + 1) (.leaf ⟨[0, 1, 4, 5, 6], [(0, 0, none), (1, 0, none)]⟩ [] .normal (some (T30_l1_e L (s1.1, s1.2 + 1)))))))) (
.leaf ⟨[4, 5], [(0, 0, none), (1, 0, none)]⟩ [] (.exit 0) (some (T30_l1_x s1.1).2)))
noncomputable def T30 (L : List Meta) : Tree :=
.int 8 ((L.map metaE.f).length : Int) (L.length : Int) (.sp 9 (decide ((L.length : Int) < (1 : Int))) (
.stuck) (
.elem 12 (L.map metaE.f) metaE L 0 (fun e1 => .loop ⟨[0, 1, 4, 5, 6], [(0, 0, none), (1, 0, none)]⟩ [] (some (T30_l1_e L (e1, 1))) (T30_l1_e L) (T30_l1_x) noX (e1, 1) (T30_l1_b L) (fun (x1 : Meta) => .leaf ⟨[0], []⟩ [] .ret (some ([(0, (metaE.av x1))], []))) (fun _ => .stuck))))

theorem T30_chk (L : List Meta) : fnC LP Γ31 Δ0 Try.f30 [vl (L.map metaE.f), .fn 31 []] [] (T30 L) = T30 L := by kernel_rfl

noncomputable def T15_j1_e (v : Vers) (j1 : Bool) : St := ([(1, .ptr 0 0 0), (30, vb j1)], [.cells false 0 ([vl (v.files.map metaE.f), vi v.log, vi v.next, vn .u64 v.seq])])
noncomputable def T15_l2_e (v : Vers) (s2 : Int) : St := ([(1, .ptr 0 0 0), (36, vl (v.files.map metaE.f)), (37, vi (v.files.length : Int)), (38, vi s2)], [.cells false 0 ([vl (v.files.map metaE.f), vi v.log, vi v.next, vn .u64 v.seq])])
noncomputable def T15_l2_x (x2 : Unit) : AE × St := (.ret, ([(2, vi 1)], []))
noncomputable def T15_l2_x' (v : Vers) (y2 : Unit) : AE × St := ((.exit 0), ([(1, .ptr 0 0 0)], [.cells false 0 ([vl (v.files.map metaE.f), vi v.log, vi v.next, vn .u64 v.seq])]))
noncomputable def T15_l2_b (v : Vers) (s2 : Int) : Tree :=
.sp 39 (decide (s2 < (v.files.length : Int))) (
.elem 41 (v.files.map metaE.f) metaE v.files s2 (fun e1 => .call 44 (g27 [(metaE.av e1)] = some (vb e1.ok)) (vb e1.ok) (.sp 44 e1.ok (
.sp 51 (decide (e1.num ≥ v.next)) (
.leaf ⟨[2], []⟩ [] .ret (some (T15_l2_x ()).2)) (
.sp 55 (decide (s2 > (0 : Int))) (
.int 60 (IntKind.i64.wrap (s2 - 1)) (s2 - 1) (.elem 61 (v.files.map metaE.f) metaE v.files (s2 - 1) (fun e2 => .sp 66 (decide (e2.num ≥ e1.num)) (
.leaf ⟨[2], []⟩ [] .ret (some (T15_l2_x ()).2)) (
.int 69 (IntKind.i64.wrap (s2 + 1)) (s2 + 1) (.leaf ⟨[1, 36, 37, 38], [(0, 0, none)]⟩ [] .normal (some (T15_l2_e v (s2 + 1)))))))) (
.int 69 (IntKind.i64.wrap (s2 + 1)) (s2 + 1) (.leaf ⟨[1, 36, 37, 38], [(0, 0, none)]⟩ [] .normal (some (T15_l2_e v (s2 + 1))))))) (
.leaf ⟨[2], []⟩ [] .ret (some (T15_l2_x ()).2))))) (
.leaf ⟨[1], [(0, 0, none)]⟩ [] (.exit 0) (some (T15_l2_x' v ()).2))
noncomputable def T15_l3_e (v : Vers) (s3 : Int) : St := ([(1, .ptr 0 0 0), (5, vi s3)], [.cells false 0 ([vl (v.files.map metaE.f), vi v.log, vi v.next, vn .u64 v.seq])])
noncomputable def T15_l3_x (x3 : Unit) : AE × St := (.ret, ([(2, vi 1)], []))
noncomputable def T15_l3_x' (y3 : Unit) : AE × St := ((.exit 2), ([], []))
noncomputable def T15_l4_e (v : Vers) (s3 : Int) (s4 : Int) : St := ([(1, .ptr 0 0 0), (5, vi s3), (6, vl ((ofL s3 v.files).map metaE.f)), (7, vi s4)], [.cells false 0 ([vl (v.files.map metaE.f), vi v.log, vi v.next, vn .u64 v.seq])])
noncomputable def T15_l4_x (x4 : Unit) : AE × St := (.ret, ([(2, vi 1)], []))
noncomputable def T15_l4_x' (v : Vers) (s3 : Int) (y4 : Unit) : AE × St := ((.exit 4), ([(1, .ptr 0 0 0), (5, vi s3)], [.cells false 0 ([vl (v.files.map metaE.f), vi v.log, vi v.next, vn .u64 v.seq])]))
noncomputable def T15_l4_b (v : Vers) (s3 : Int) (s4 : Int) : Tree :=
.int 79 (((ofL s3 v.files).map metaE.f).length : Int) ((ofL s3 v.files).length : Int) (.sp 80 (decide (s4 < ((ofL s3 v.files).length : Int))) (
.int 85 (IntKind.i64.wrap (s4 - 1)) (s4 - 1) (.elem 86 ((ofL s3 v.files).map metaE.f) metaE (ofL s3 v.files) (s4 - 1) (fun e3 => .elem 91 ((ofL s3 v.files).map metaE.f) metaE (ofL s3 v.files) s4 (fun e4 => .sp 94 (!(Op.bytesLess e3.high.toList e4.low.toList)) (
.leaf ⟨[2], []⟩ [] .ret (some (T15_l4_x ()).2)) (
.int 82 (IntKind.i64.wrap (s4 + 1)) (s4 + 1) (.leaf ⟨[1, 5, 6, 7], [(0, 0, none)]⟩ [] .normal (some (T15_l4_e v s3 (s4 + 1))))))))) (
.leaf ⟨[1, 5], [(0, 0, none)]⟩ [] (.exit 4) (some (T15_l4_x' v s3 ()).2)))
noncomputable def T15_l3_b (v : Vers) (s3 : Int) : Tree :=
.sp 71 (decide (s3 < (6 : Int))) (
.call 76 (gOf [.agg [vl (v.files.map metaE.f), vi v.log, vi v.next, vn .u64 v.seq], vi s3] = some (vl ((ofL s3 v.files).map metaE.f))) (vl ((ofL s3 v.files).map metaE.f)) (.loop ⟨[1, 5, 6, 7], [(0, 0, none)]⟩ [] (some (T15_l4_e v s3 1)) (T15_l4_e v s3) (T15_l4_x) (T15_l4_x' v s3) 1 (T15_l4_b v s3) (fun (x4 : Unit) => .leaf ⟨[2], []⟩ [] .ret (some (T15_l3_x ()).2)) (fun (y4 : Unit) => .int 73 (IntKind.i64.wrap (s3 + 1)) (s3 + 1) (.leaf ⟨[1, 5], [(0, 0, none)]⟩ [] .normal (some (T15_l3_e v (s3 + 1))))))) (
.leaf ⟨[], []⟩ [] (.exit 2) (some (T15_l3_x' ()).2))
noncomputable def T15_j1 (v : Vers) (j1 : Bool) : Tree :=
.br j1 (
.leaf ⟨[0], []⟩ [] .ret (some ([(0, vi 1)], []))) (
.int 33 ((v.files.map metaE.f).length : Int) (v.files.length : Int) (.sp 34 (decide ((v.files.length : Int) > (1000 : Int))) (
.leaf ⟨[0], []⟩ [] .ret (some ([(0, vi 3)], []))) (
.int 37 ((v.files.map metaE.f).length : Int) (v.files.length : Int) (.loop ⟨[1, 36, 37, 38], [(0, 0, none)]⟩ [] (some (T15_l2_e v 0)) (T15_l2_e v) (T15_l2_x) (T15_l2_x' v) 0 (T15_l2_b v) (fun (x2 : Unit) => .leaf ⟨[0], []⟩ [] .ret (some ([(0, vi 1)], []))) (fun (y2 : Unit) => .loop ⟨[1, 5], [(0, 0, none)]⟩ [] (some (T15_l3_e v 1)) (T15_l3_e v) (T15_l3_x) (T15_l3_x') 1 (T15_l3_b v) (fun (x3 : Unit) => .leaf ⟨[0], []⟩ [] .ret (some ([(0, vi 1)], []))) (fun (y3 : Unit) => .leaf ⟨[0], []⟩ [] .ret (some ([(0, vi 0)], []))))))))
noncomputable def T15 (v : Vers) : Tree :=
.sp 10 (decide (v.log < (1 : Int))) (
.join ⟨[1, 30], [(0, 0, none)]⟩ [] (some (T15_j1_e v true)) (T15_j1_e v) true (T15_j1 v)) (
.sp 14 (decide (v.log > (1073741824 : Int))) (
.join ⟨[1, 30], [(0, 0, none)]⟩ [] (some (T15_j1_e v true)) (T15_j1_e v) true (T15_j1 v)) (
.sp 19 (decide (v.next < (1 : Int))) (
.join ⟨[1, 30], [(0, 0, none)]⟩ [] (some (T15_j1_e v true)) (T15_j1_e v) true (T15_j1 v)) (
.sp 24 (decide (v.next > (1073741824 : Int))) (
.join ⟨[1, 30], [(0, 0, none)]⟩ [] (some (T15_j1_e v true)) (T15_j1_e v) true (T15_j1 v)) (
.sp 29 (decide (v.seq > (72057594037927935 : Int))) (
.join ⟨[1, 30], [(0, 0, none)]⟩ [] (some (T15_j1_e v true)) (T15_j1_e v) true (T15_j1 v)) (
.join ⟨[1, 30], [(0, 0, none)]⟩ [] (some (T15_j1_e v false)) (T15_j1_e v) false (T15_j1 v))))))

theorem T15_chk (v : Vers) : fnC LP Γ15 Δ0 Try.f15 [.agg [vl (v.files.map metaE.f), vi v.log, vi v.next, vn .u64 v.seq]] [] (T15 v) = T15 v := by kernel_rfl

noncomputable def T18_l1_e (v : Vers) (lv : Int) (lo : ByteArray) (hi : ByteArray) (s1 : (List Meta) × Int) : St := ([(2, vs lo), (3, vs hi), (9, .rs 0 0 5 0 s1.1.length), (15, vl ((ofL lv v.files).map metaE.f)), (16, vi ((ofL lv v.files).length : Int)), (17, vi s1.2)], [metaE.bx 0 s1.1])
noncomputable def T18_l1_x (x1 : (List Meta)) : AE × St := ((.exit 0), ([(9, .rs 0 0 5 0 x1.length)], [metaE.bx 0 x1]))
noncomputable def T18_l1_b (v : Vers) (lv : Int) (lo : ByteArray) (hi : ByteArray) (s1 : (List Meta) × Int) : Tree :=
.sp 18 (decide (s1.2 < ((ofL lv v.files).length : Int))) (
.elem 19 ((ofL lv v.files).map metaE.f) metaE (ofL lv v.files) s1.2 (fun e1 => .sp 24 (!(Op.bytesLess e1.high.toList lo.toList)) (
.sp 29 (Op.bytesLess e1.low.toList hi.toList || (e1.low.toList == hi.toList)) (
.app 34 (.row 1 ([vi e1.num, vi e1.level, vs e1.low, vs e1.high, vi e1.size])) s1.1.length (rowC (s1.1.map metaE.f)) metaE s1.1 ([e1]) (.int 35 (IntKind.i64.wrap (s1.2 + 1)) (s1.2 + 1) (.leaf ⟨[2, 3, 9, 15, 16, 17], [(0, 1, some ((s1.1 ++ ([e1])).map metaE.f))]⟩ [rowC ((s1.1 ++ ([e1])).map metaE.f)] .normal (some (T18_l1_e v lv lo hi (s1.1 ++ ([e1]), s1.2 + 1)))))) (
.int 35 (IntKind.i64.wrap (s1.2 + 1)) (s1.2 + 1) (.leaf ⟨[2, 3, 9, 15, 16, 17], [(0, 0, some (s1.1.map metaE.f))]⟩ [rowC (s1.1.map metaE.f)] .normal (some (T18_l1_e v lv lo hi (s1.1, s1.2 + 1)))))) (
.int 35 (IntKind.i64.wrap (s1.2 + 1)) (s1.2 + 1) (.leaf ⟨[2, 3, 9, 15, 16, 17], [(0, 0, some (s1.1.map metaE.f))]⟩ [rowC (s1.1.map metaE.f)] .normal (some (T18_l1_e v lv lo hi (s1.1, s1.2 + 1))))))) (
.leaf ⟨[9], [(0, 0, some (s1.1.map metaE.f))]⟩ [rowC (s1.1.map metaE.f)] (.exit 0) (some (T18_l1_x s1.1).2))
noncomputable def T18 (v : Vers) (lv : Int) (lo : ByteArray) (hi : ByteArray) : Tree :=
.call 15 (gOf [.agg [vl (v.files.map metaE.f), vi v.log, vi v.next, vn .u64 v.seq], vi lv] = some (vl ((ofL lv v.files).map metaE.f))) (vl ((ofL lv v.files).map metaE.f)) (.int 16 (((ofL lv v.files).map metaE.f).length : Int) ((ofL lv v.files).length : Int) (.loop ⟨[2, 3, 9, 15, 16, 17], [(1, 0, none)]⟩ [] (some (T18_l1_e v lv lo hi (([] : List Meta), 0))) (T18_l1_e v lv lo hi) (T18_l1_x) noX (([] : List Meta), 0) (T18_l1_b v lv lo hi) (fun (x1 : (List Meta)) => .leaf ⟨[0], [(0, 0, some (x1.map metaE.f))]⟩ [rowC (x1.map metaE.f)] .ret (some ([(0, .rs 0 0 5 0 x1.length)], [metaE.bx 0 x1]))) (fun _ => .stuck)))

theorem T18_chk (v : Vers) (lv : Int) (lo : ByteArray) (hi : ByteArray) : fnC LP Γ18 Δ0 Try.f18 [.agg [vl (v.files.map metaE.f), vi v.log, vi v.next, vn .u64 v.seq], vi lv, vs lo, vs hi] [] (T18 v lv lo hi) = T18 v lv lo hi := by kernel_rfl

end Go.Ax
