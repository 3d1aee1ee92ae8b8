/- Trees, printed by gen/h1.py. -/
import Derived.Test.YtgbmmmglilpdjaaTl0
set_option linter.unusedVariables false
set_option linter.unusedSimpArgs false
namespace Go.Ax
open Go.Proofs Go.RowKit
set_option maxRecDepth 100000

noncomputable def T14 (c : Conf) : Tree :=
.sp 5 (decide (c.files < (1 : Int))) (
.leaf ⟨[0], []⟩ [] .ret (some ([(0, vi 1)], []))) (
.sp 9 (decide (c.files > (100 : Int))) (
.leaf ⟨[0], []⟩ [] .ret (some ([(0, vi 1)], []))) (
.sp 14 (decide (c.size < (1 : Int))) (
.leaf ⟨[0], []⟩ [] .ret (some ([(0, vi 1)], []))) (
.sp 19 (decide (c.size > (67108864 : Int))) (
.leaf ⟨[0], []⟩ [] .ret (some ([(0, vi 1)], []))) (
.sp 24 (decide (c.cut < (1 : Int))) (
.leaf ⟨[0], []⟩ [] .ret (some ([(0, vi 1)], []))) (
.sp 29 (decide (c.cut > (1048576 : Int))) (
.leaf ⟨[0], []⟩ [] .ret (some ([(0, vi 1)], []))) (
.leaf ⟨[0], []⟩ [] .ret (some ([(0, vi 0)], []))))))))

theorem T14_chk (c : Conf) : fnC LP Γ0 Δ0 Try.f14 [.agg [vi c.files, vi c.size, vi c.cut]] [] (T14 c) = T14 c := by kernel_rfl

noncomputable def T27 (m : Meta) : Tree :=
.sp 5 (decide (m.num ≥ (1 : Int))) (
.sp 9 (decide (m.num ≤ (1073741824 : Int))) (
.sp 14 (decide (m.level ≥ (0 : Int))) (
.sp 19 (decide (m.level < (6 : Int))) (
.sp 24 (!(m.low.toList == (⟨#[]⟩ : ByteArray).toList)) (
.sp 31 (Op.bytesLess m.low.toList m.high.toList || (m.low.toList == m.high.toList)) (
.sp 37 (decide ((m.low.size : Int) ≤ (128 : Int))) (
.sp 43 (decide ((m.high.size : Int) ≤ (128 : Int))) (
.sp 48 (decide (m.size ≥ (0 : Int))) (
.leaf ⟨[0], []⟩ [] .ret (some ([(0, vb (decide (m.size ≤ (67108864 : Int))))], []))) (
.leaf ⟨[0], []⟩ [] .ret (some ([(0, vb false)], [])))) (
.leaf ⟨[0], []⟩ [] .ret (some ([(0, vb false)], [])))) (
.leaf ⟨[0], []⟩ [] .ret (some ([(0, vb false)], [])))) (
.leaf ⟨[0], []⟩ [] .ret (some ([(0, vb false)], [])))) (
.leaf ⟨[0], []⟩ [] .ret (some ([(0, vb false)], [])))) (
.leaf ⟨[0], []⟩ [] .ret (some ([(0, vb false)], [])))) (
.leaf ⟨[0], []⟩ [] .ret (some ([(0, vb false)], [])))) (
.leaf ⟨[0], []⟩ [] .ret (some ([(0, vb false)], [])))) (
.leaf ⟨[0], []⟩ [] .ret (some ([(0, vb false)], [])))

theorem T27_chk (m : Meta) : fnC LP Γ0 Δ0 Try.f27 [(metaE.av m)] [] (T27 m) = T27 m := by kernel_rfl

noncomputable def T28_l1_e (L : List Meta) (s1 : Int × ByteArray × ByteArray) : St := ([(4, vs s1.2.1), (5, vs s1.2.2), (17, vl ((cutL (some 1) none L).map metaE.f)), (18, vi ((cutL (some 1) none L).length : Int)), (19, vi s1.1)], [])
noncomputable def T28_l1_x (x1 : ByteArray × ByteArray) : AE × St := ((.exit 0), ([(4, vs x1.1), (5, vs x1.2)], []))
noncomputable def T28_l1_b (L : List Meta) (s1 : Int × ByteArray × ByteArray) : Tree :=
.sp 20 (decide (s1.1 < ((cutL (some 1) none L).length : Int))) (
.elem 21 ((cutL (some 1) none L).map metaE.f) metaE (cutL (some 1) none L) s1.1 (fun e2 => .int 31 (IntKind.i64.wrap (s1.1 + 1)) (s1.1 + 1) (.leaf ⟨[4, 5, 17, 18, 19], []⟩ [] .normal (some (T28_l1_e L (s1.1 + 1, (if (Op.bytesLess s1.2.1.toList e2.low.toList || s1.2.1.toList == e2.low.toList) then s1.2.1 else e2.low), (if !(Op.bytesLess s1.2.2.toList e2.high.toList) then s1.2.2 else e2.high))))))) (
.leaf ⟨[4, 5], []⟩ [] (.exit 0) (some (T28_l1_x (s1.2.1, s1.2.2)).2))
noncomputable def T28 (L : List Meta) : Tree :=
.elem 9 (L.map metaE.f) metaE L 0 (fun e1 => .elemk 13 (L.map metaE.f) metaE L 0 e1 (.cut 17 (L.map metaE.f) (some 1) none metaE L (.int 18 (((cutL (some 1) none L).map metaE.f).length : Int) ((cutL (some 1) none L).length : Int) (.loop ⟨[4, 5, 17, 18, 19], []⟩ [] (some (T28_l1_e L (0, e1.low, e1.high))) (T28_l1_e L) (T28_l1_x) noX (0, e1.low, e1.high) (T28_l1_b L) (fun (x1 : ByteArray × ByteArray) => .leaf ⟨[0], []⟩ [] .ret (some ([(0, .tup [vs x1.1, vs x1.2])], []))) (fun _ => .stuck)))))

theorem T28_chk (L : List Meta) : fnC LP Γ0 Δ0 Try.f28 [vl (L.map metaE.f)] [] (T28 L) = T28 L := by kernel_rfl

noncomputable def T19_l1_e (A : List Meta) (B : List Meta) (s1 : Int) : St := ([(0, vl (A.map metaE.f)), (1, vl (B.map metaE.f)), (12, vi (A.length : Int)), (13, vi s1)], [])
noncomputable def T19_l1_x (x1 : Unit) : AE × St := (.ret, ([(4, vb false)], []))
noncomputable def T19_l1_x' (y1 : Unit) : AE × St := ((.exit 0), ([], []))
noncomputable def T19_l1_b (A : List Meta) (B : List Meta) (s1 : Int) : Tree :=
.sp 14 (decide (s1 < (A.length : Int))) (
.elem 18 (A.map metaE.f) metaE A s1 (fun e1 => .elem 22 (B.map metaE.f) metaE B s1 (fun e2 => .sp 24 (!(((e1.num : Int) == (e2.num : Int)) && (((e1.level : Int) == (e2.level : Int)) && (((e1.low : ByteArray).toList == (e2.low : ByteArray).toList) && (((e1.high : ByteArray).toList == (e2.high : ByteArray).toList) && (((e1.size : Int) == (e2.size : Int)) && true)))))) (
.leaf ⟨[4], []⟩ [] .ret (some (T19_l1_x ()).2)) (
.int 25 (IntKind.i64.wrap (s1 + 1)) (s1 + 1) (.leaf ⟨[0, 1, 12, 13], []⟩ [] .normal (some (T19_l1_e A B (s1 + 1)))))))) (
.leaf ⟨[], []⟩ [] (.exit 0) (some (T19_l1_x' ()).2))
noncomputable def T19 (A : List Meta) (B : List Meta) : Tree :=
.int 7 ((A.map metaE.f).length : Int) (A.length : Int) (.int 9 ((B.map metaE.f).length : Int) (B.length : Int) (.sp 10 ((A.length : Int) != (B.length : Int)) (
.leaf ⟨[0], []⟩ [] .ret (some ([(0, vb false)], []))) (
.int 12 ((A.map metaE.f).length : Int) (A.length : Int) (.loop ⟨[0, 1, 12, 13], []⟩ [] (some (T19_l1_e A B 0)) (T19_l1_e A B) (T19_l1_x) (T19_l1_x') 0 (T19_l1_b A B) (fun (x1 : Unit) => .leaf ⟨[0], []⟩ [] .ret (some ([(0, vb false)], []))) (fun (y1 : Unit) => .leaf ⟨[0], []⟩ [] .ret (some ([(0, vb true)], [])))))))

theorem T19_chk (A : List Meta) (B : List Meta) : fnC LP Γ0 Δ0 Try.f19 [vl (A.map metaE.f), vl (B.map metaE.f)] [] (T19 A B) = T19 A B := by kernel_rfl

end Go.Ax
