/- Trees, printed by gen/h6.py: the law of LevelWorks. -/
import Derived.Test.YtgbmmmglilpdjaaWk4
set_option linter.unusedVariables false
set_option linter.unusedSimpArgs false
namespace Go.Ax
open Go.Proofs Go.RowKit
set_option maxRecDepth 100000

noncomputable def ΓW : Env := envP [(8, gHead), (14, g14), (15, g15), (16, g16), (20, g20)]
theorem ΓW_ok : ∀ f, SoundF LP f (ΓW f) := envP_ok (by simp; exact ⟨sound8, sound14, sound15, sound16, sound20⟩)

noncomputable def T7_j1_e (v : Vers) (c : Conf) (j1 : Bool) : St := ([(2, .ptr 0 0 0), (3, .ptr 1 0 0), (33, vb j1)], [.cells false 0 ([vl (v.files.map metaE.f), vi v.log, vi v.next, vn .u64 v.seq]), .cells false 0 ([vi c.files, vi c.size, vi c.cut])])
noncomputable def T7_l2_e (v : Vers) (c : Conf) (s2 : Meta × (List Int) × Int) : St := ([(2, .ptr 0 0 0), (5, .ptr 1 0 0), (7, .ptr 2 0 0), (8, .ptr 3 0 0), (66, vl (((pickL v c).1).map metaE.f)), (67, vi (((pickL v c).1).length : Int)), (68, vi s2.2.2)], [.cells false 0 ([vl (v.files.map metaE.f), vi v.log, vi v.next, vn .u64 v.seq]), .cells false 0 ([vl (((pickL v c).1).map metaE.f), vi ((pickL v c).2)]), .cells false 0 ([nilS, .rs 4 0 1 0 s2.2.1.length, vi 0, vi (v.next + 1), vn .u64 0]), .cells false 0 ([vi s2.1.num, vi s2.1.level, vs s2.1.low, vs s2.1.high, vi s2.1.size]), intE.bx 0 s2.2.1])
noncomputable def T7_l2_x (v : Vers) (c : Conf) (x2 : Meta × (List Int)) : AE × St := ((.exit 0), ([(2, .ptr 0 0 0), (5, .ptr 1 0 0), (7, .ptr 2 0 0), (8, .ptr 3 0 0)], [.cells false 0 ([vl (v.files.map metaE.f), vi v.log, vi v.next, vn .u64 v.seq]), .cells false 0 ([vl (((pickL v c).1).map metaE.f), vi ((pickL v c).2)]), .cells false 0 ([nilS, .rs 4 0 1 0 x2.2.length, vi 0, vi (v.next + 1), vn .u64 0]), .cells false 0 ([vi x2.1.num, vi x2.1.level, vs x2.1.low, vs x2.1.high, vi x2.1.size]), intE.bx 0 x2.2]))
noncomputable def T7_l2_b (v : Vers) (c : Conf) (s2 : Meta × (List Int) × Int) : Tree :=
.sp 69 (decide (s2.2.2 < (((pickL v c).1).length : Int))) (
.elem 70 (((pickL v c).1).map metaE.f) metaE ((pickL v c).1) s2.2.2 (fun e2 => .app 77 (.row 1 ([vi e2.num])) s2.2.1.length (rowC (s2.2.1.map intE.f)) intE s2.2.1 ([e2.num]) (.sp 83 (Op.bytesLess e2.low.toList s2.1.low.toList) (
.sp 91 (!(Op.bytesLess e2.high.toList s2.1.high.toList || (e2.high.toList == s2.1.high.toList))) (
.int 95 (IntKind.i64.wrap (s2.2.2 + 1)) (s2.2.2 + 1) (.leaf ⟨[2, 5, 7, 8, 66, 67, 68], [(0, 0, none), (1, 0, none), (2, 0, none), (3, 0, none), (4, 1, some ((s2.2.1 ++ ([e2.num])).map intE.f))]⟩ [rowC ((s2.2.1 ++ ([e2.num])).map intE.f)] .normal (some (T7_l2_e v c (⟨s2.1.num, s2.1.level, e2.low, e2.high, s2.1.size⟩, s2.2.1 ++ ([e2.num]), s2.2.2 + 1))))) (
.int 95 (IntKind.i64.wrap (s2.2.2 + 1)) (s2.2.2 + 1) (.leaf ⟨[2, 5, 7, 8, 66, 67, 68], [(0, 0, none), (1, 0, none), (2, 0, none), (3, 0, none), (4, 1, some ((s2.2.1 ++ ([e2.num])).map intE.f))]⟩ [rowC ((s2.2.1 ++ ([e2.num])).map intE.f)] .normal (some (T7_l2_e v c (⟨s2.1.num, s2.1.level, e2.low, s2.1.high, s2.1.size⟩, s2.2.1 ++ ([e2.num]), s2.2.2 + 1)))))) (
.sp 91 (!(Op.bytesLess e2.high.toList s2.1.high.toList || (e2.high.toList == s2.1.high.toList))) (
.int 95 (IntKind.i64.wrap (s2.2.2 + 1)) (s2.2.2 + 1) (.leaf ⟨[2, 5, 7, 8, 66, 67, 68], [(0, 0, none), (1, 0, none), (2, 0, none), (3, 0, none), (4, 1, some ((s2.2.1 ++ ([e2.num])).map intE.f))]⟩ [rowC ((s2.2.1 ++ ([e2.num])).map intE.f)] .normal (some (T7_l2_e v c (⟨s2.1.num, s2.1.level, s2.1.low, e2.high, s2.1.size⟩, s2.2.1 ++ ([e2.num]), s2.2.2 + 1))))) (
.int 95 (IntKind.i64.wrap (s2.2.2 + 1)) (s2.2.2 + 1) (.leaf ⟨[2, 5, 7, 8, 66, 67, 68], [(0, 0, none), (1, 0, none), (2, 0, none), (3, 0, none), (4, 1, some ((s2.2.1 ++ ([e2.num])).map intE.f))]⟩ [rowC ((s2.2.1 ++ ([e2.num])).map intE.f)] .normal (some (T7_l2_e v c (s2.1, s2.2.1 ++ ([e2.num]), s2.2.2 + 1))))))))) (
.leaf ⟨[2, 5, 7, 8], [(0, 0, none), (1, 0, none), (2, 0, none), (3, 0, none), (4, 0, some (s2.2.1.map intE.f))]⟩ [rowC (s2.2.1.map intE.f)] (.exit 0) (some (T7_l2_x v c (s2.1, s2.2.1)).2))
noncomputable def T7_j1 (v : Vers) (c : Conf) (j1 : Bool) : Tree :=
.br j1 (
.leaf ⟨[0], []⟩ [] .ret (some ([(0, vb true)], []))) (
.call 37 (g16 [.agg [vl (v.files.map metaE.f), vi v.log, vi v.next, vn .u64 v.seq], .agg [vi c.files, vi c.size, vi c.cut]] = some (.tup [.agg [vl (((pickL v c).1).map metaE.f), vi ((pickL v c).2)], vb (decide ((pickL v c).2 > 0))])) (.tup [.agg [vl (((pickL v c).1).map metaE.f), vi ((pickL v c).2)], vb (decide ((pickL v c).2 > 0))]) (.sp 39 (decide ((pickL v c).2 > 0)) (
.int 48 (IntKind.i64.wrap (v.next + 1)) (v.next + 1) (.elem 56 (((pickL v c).1).map metaE.f) metaE ((pickL v c).1) 0 (fun e1 => .elemk 61 (((pickL v c).1).map metaE.f) metaE ((pickL v c).1) 0 e1 (.int 67 ((((pickL v c).1).map metaE.f).length : Int) (((pickL v c).1).length : Int) (.nilcell 3 1 1 (.loop ⟨[2, 5, 7, 8, 66, 67, 68], [(0, 0, none), (2, 0, none), (3, 0, none), (4, 0, none), (5, 0, some (([] : List Int).map intE.f))]⟩ [rowC (([] : List Int).map intE.f)] (some (T7_l2_e v c (⟨v.next, (pickL v c).2, e1.low, e1.high, 0⟩, ([] : List Int), 0))) (T7_l2_e v c) (T7_l2_x v c) noX (⟨v.next, (pickL v c).2, e1.low, e1.high, 0⟩, ([] : List Int), 0) (T7_l2_b v c) (fun (x2 : Meta × (List Int)) => .sealcell 20 2 0 ([vi x2.1.num, vi x2.1.level, vs x2.1.low, vs x2.1.high, vi x2.1.size]) 1 metaE ([x2.1]) (.sealcell 20 2 1 (rowC (x2.2.map intE.f)) x2.2.length intE x2.2 (.call 102 (g20 [.agg [vl (v.files.map metaE.f), vi v.log, vi v.next, vn .u64 v.seq], .agg [vl (([x2.1]).map metaE.f), vl (x2.2.map intE.f), vi 0, vi (v.next + 1), vn .u64 0]] = some (.tup [.agg [vl (((applyL v (⟨[x2.1], x2.2, 0, v.next + 1, 0⟩ : Edt)).1.files).map metaE.f), vi ((applyL v (⟨[x2.1], x2.2, 0, v.next + 1, 0⟩ : Edt)).1.log), vi ((applyL v (⟨[x2.1], x2.2, 0, v.next + 1, 0⟩ : Edt)).1.next), vn .u64 ((applyL v (⟨[x2.1], x2.2, 0, v.next + 1, 0⟩ : Edt)).1.seq)], vi ((applyL v (⟨[x2.1], x2.2, 0, v.next + 1, 0⟩ : Edt)).2)])) (.tup [.agg [vl (((applyL v (⟨[x2.1], x2.2, 0, v.next + 1, 0⟩ : Edt)).1.files).map metaE.f), vi ((applyL v (⟨[x2.1], x2.2, 0, v.next + 1, 0⟩ : Edt)).1.log), vi ((applyL v (⟨[x2.1], x2.2, 0, v.next + 1, 0⟩ : Edt)).1.next), vn .u64 ((applyL v (⟨[x2.1], x2.2, 0, v.next + 1, 0⟩ : Edt)).1.seq)], vi ((applyL v (⟨[x2.1], x2.2, 0, v.next + 1, 0⟩ : Edt)).2)]) (.sp 106 (((applyL v (⟨[x2.1], x2.2, 0, v.next + 1, 0⟩ : Edt)).2) == (0 : Int)) (
.int 110 ((((applyL v (⟨[x2.1], x2.2, 0, v.next + 1, 0⟩ : Edt)).1.files).map metaE.f).length : Int) (((applyL v (⟨[x2.1], x2.2, 0, v.next + 1, 0⟩ : Edt)).1.files).length : Int) (.int 113 ((v.files.map metaE.f).length : Int) (v.files.length : Int) (.int 116 ((((pickL v c).1).map metaE.f).length : Int) (((pickL v c).1).length : Int) (.int 117 (IntKind.i64.wrap ((v.files.length : Int) - (((pickL v c).1).length : Int))) ((v.files.length : Int) - (((pickL v c).1).length : Int)) (.int 118 (IntKind.i64.wrap (((v.files.length : Int) - (((pickL v c).1).length : Int)) + 1)) (((v.files.length : Int) - (((pickL v c).1).length : Int)) + 1) (.leaf ⟨[0], []⟩ [] .ret (some ([(0, vb ((((applyL v (⟨[x2.1], x2.2, 0, v.next + 1, 0⟩ : Edt)).1.files).length : Int) == (((v.files.length : Int) - (((pickL v c).1).length : Int)) + 1)))], [])))))))) (
.leaf ⟨[0], []⟩ [] .ret (some ([(0, vb false)], []))))))) (fun _ => .stuck))))))) (
.int 44 ((((pickL v c).1).map metaE.f).length : Int) (((pickL v c).1).length : Int) (.leaf ⟨[0], []⟩ [] .ret (some ([(0, vb ((((pickL v c).1).length : Int) == (0 : Int)))], []))))))
noncomputable def T7 (v : Vers) (c : Conf) : Tree :=
.call 13 (gHead [] = some (vb true)) (vb true) (.int 17 ((v.files.map metaE.f).length : Int) (v.files.length : Int) (.sp 18 (decide ((v.files.length : Int) > (40 : Int))) (
.join ⟨[2, 3, 33], [(0, 0, none), (1, 0, none)]⟩ [] (some (T7_j1_e v c true)) (T7_j1_e v c) true (T7_j1 v c)) (
.call 21 (g15 [.agg [vl (v.files.map metaE.f), vi v.log, vi v.next, vn .u64 v.seq]] = some (vi (Vers.check v))) (vi (Vers.check v)) (.sp 22 ((Vers.check v) != (0 : Int)) (
.join ⟨[2, 3, 33], [(0, 0, none), (1, 0, none)]⟩ [] (some (T7_j1_e v c true)) (T7_j1_e v c) true (T7_j1 v c)) (
.call 26 (g14 [.agg [vi c.files, vi c.size, vi c.cut]] = some (vi c.check)) (vi c.check) (.sp 27 (c.check != (0 : Int)) (
.join ⟨[2, 3, 33], [(0, 0, none), (1, 0, none)]⟩ [] (some (T7_j1_e v c true)) (T7_j1_e v c) true (T7_j1 v c)) (
.sp 32 (decide (v.next > (536870912 : Int))) (
.join ⟨[2, 3, 33], [(0, 0, none), (1, 0, none)]⟩ [] (some (T7_j1_e v c true)) (T7_j1_e v c) true (T7_j1 v c)) (
.join ⟨[2, 3, 33], [(0, 0, none), (1, 0, none)]⟩ [] (some (T7_j1_e v c false)) (T7_j1_e v c) false (T7_j1 v c)))))))))

theorem T7_chk (v : Vers) (c : Conf) : fnC LP ΓW Δ0 Try.f7 [.agg [vl (v.files.map metaE.f), vi v.log, vi v.next, vn .u64 v.seq], .agg [vi c.files, vi c.size, vi c.cut]] [] (T7 v c) = T7 v c := by kernel_rfl

end Go.Ax
