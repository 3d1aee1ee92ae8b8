/- Trees, printed by gen/h3.py: Of, Meets and what they call. -/
import Derived.Test.YtgbmmmglilpdjaaTl6
set_option linter.unusedVariables false
set_option linter.unusedSimpArgs false
namespace Go.Ax
open Go.Proofs Go.RowKit
set_option maxRecDepth 100000

/-- How files of a level stand: those of the first the newest first, others by their keys. -/
def cOf (lv : Int) (x y : Meta) : Int :=
  if lv == 0 then IntKind.i64.wrap (y.num - x.num) else if Op.bytesLess x.low.toList y.low.toList then -1 else if !(Op.bytesLess x.low.toList y.low.toList || (x.low.toList == y.low.toList)) then 1 else 0
def c31 (x y : Meta) : Int := IntKind.i64.wrap (x.num - y.num)
def missB (m : Meta) (lo hi : ByteArray) : Bool := Op.bytesLess m.high.toList lo.toList || !(Op.bytesLess m.low.toList hi.toList || (m.low.toList == hi.toList))

/-- The first of a list that misses. -/
def idxN (lo hi : ByteArray) : List Meta → Nat
  | [] => 0
  | m :: L => if missB m lo hi then 0 else idxN lo hi L + 1
def idxL (L : List Meta) (lo hi : ByteArray) : Int := if idxN lo hi L < L.length then (idxN lo hi L : Int) else -1

def keepL (L : List Meta) (lo hi : ByteArray) : List Meta := L.filter fun m => !missB m lo hi
open Classical in
/-- A list in the order of 'c': some order that a stable sort comes to. -/
noncomputable def sortF (R : List Meta → List Meta → Prop) (L : List Meta) : List Meta := if h : ∃ L', R L L' then Classical.choose h else L
noncomputable def T33 (x : Meta) (y : Meta) (L : List Meta) (lv : Int) : Tree :=
.sp 8 (lv == (0 : Int)) (
.leaf ⟨[0], [(0, 0, some (L.map metaE.f)), (1, 0, none)]⟩ [rowC (L.map metaE.f)] .ret (some ([(0, vi (IntKind.i64.wrap (y.num - x.num)))], [metaE.bx 0 L, .cells false 0 ([vi lv])]))) (
.sp 19 (Op.bytesLess x.low.toList y.low.toList) (
.leaf ⟨[0], [(0, 0, some (L.map metaE.f)), (1, 0, none)]⟩ [rowC (L.map metaE.f)] .ret (some ([(0, vi (-1))], [metaE.bx 0 L, .cells false 0 ([vi lv])]))) (
.sp 25 (!(Op.bytesLess x.low.toList y.low.toList || (x.low.toList == y.low.toList))) (
.leaf ⟨[0], [(0, 0, some (L.map metaE.f)), (1, 0, none)]⟩ [rowC (L.map metaE.f)] .ret (some ([(0, vi 1)], [metaE.bx 0 L, .cells false 0 ([vi lv])]))) (
.leaf ⟨[0], [(0, 0, some (L.map metaE.f)), (1, 0, none)]⟩ [rowC (L.map metaE.f)] .ret (some ([(0, vi 0)], [metaE.bx 0 L, .cells false 0 ([vi lv])])))))

theorem T33_chk (x : Meta) (y : Meta) (L : List Meta) (lv : Int) : fnC LP Γ0 Δ0 Try.f33 [(metaE.av x), (metaE.av y), .ptr 1 0 0] [metaE.bx 0 L, .cells false 0 ([vi lv])] (T33 x y L lv) = T33 x y L lv := by kernel_rfl

noncomputable def T31 (x : Meta) (y : Meta) : Tree :=
.leaf ⟨[0], []⟩ [] .ret (some ([(0, vi (IntKind.i64.wrap (x.num - y.num)))], []))

theorem T31_chk (x : Meta) (y : Meta) : fnC LP Γ0 Δ0 Try.f31 [(metaE.av x), (metaE.av y)] [] (T31 x y) = T31 x y := by kernel_rfl

noncomputable def T39 (m : Meta) (lo : ByteArray) (hi : ByteArray) : Tree :=
.sp 8 (Op.bytesLess m.high.toList lo.toList) (
.leaf ⟨[0], [(0, 0, none), (1, 0, none)]⟩ [] .ret (some ([(0, vb true)], [.cells false 0 ([vs lo]), .cells false 0 ([vs hi])]))) (
.leaf ⟨[0], [(0, 0, none), (1, 0, none)]⟩ [] .ret (some ([(0, vb (!(Op.bytesLess m.low.toList hi.toList || (m.low.toList == hi.toList))))], [.cells false 0 ([vs lo]), .cells false 0 ([vs hi])])))

theorem T39_chk (m : Meta) (lo : ByteArray) (hi : ByteArray) : fnC LP Γ0 Δ0 Try.f39 [(metaE.av m), .ptr 0 0 0, .ptr 1 0 0] [.cells false 0 ([vs lo]), .cells false 0 ([vs hi])] (T39 m lo hi) = T39 m lo hi := by kernel_rfl

noncomputable def T28r_l1_e (n : Nat) (L : List Meta) (s1 : Int × ByteArray × ByteArray) : St := ([(4, vs s1.2.1), (5, vs s1.2.2), (17, .rs 0 0 5 (0 + loN (some 1) * 5) (hiN none n - loN (some 1))), (18, vi ((hiN none n - loN (some 1) : Nat) : Int)), (19, vi s1.1)], [metaE.bx 0 L])
noncomputable def T28r_l1_x (L : List Meta) (x1 : ByteArray × ByteArray) : AE × St := ((.exit 0), ([(4, vs x1.1), (5, vs x1.2)], [metaE.bx 0 L]))
noncomputable def T28r_l1_b (n : Nat) (L : List Meta) (s1 : Int × ByteArray × ByteArray) : Tree :=
.sp 20 (decide (s1.1 < ((hiN none n - loN (some 1) : Nat) : Int))) (
.ridx 21 (hiN none n - loN (some 1)) s1.1 (.rload 22 (rowC (L.map metaE.f)) ((0 + loN (some 1) * 5) + Int.toNat s1.1 * 5) metaE L (((loN (some 1) : Nat) : Int) + s1.1) 0 (fun e3 => .int 31 (IntKind.i64.wrap (s1.1 + 1)) (s1.1 + 1) (.leaf ⟨[4, 5, 17, 18, 19], [(0, 0, some (L.map metaE.f))]⟩ [rowC (L.map metaE.f)] .normal (some (T28r_l1_e n L (s1.1 + 1, (if (Op.bytesLess s1.2.1.toList e3.low.toList || s1.2.1.toList == e3.low.toList) then s1.2.1 else e3.low), (if !(Op.bytesLess s1.2.2.toList e3.high.toList) then s1.2.2 else e3.high)))))))) (
.leaf ⟨[4, 5], [(0, 0, some (L.map metaE.f))]⟩ [rowC (L.map metaE.f)] (.exit 0) (some (T28r_l1_x L (s1.2.1, s1.2.2)).2))
noncomputable def T28r (n : Nat) (L : List Meta) : Tree :=
.ridx 9 n 0 (.rload 11 (rowC (L.map metaE.f)) (0 + Int.toNat 0 * 5 + 2) metaE L 0 2 (fun e1 => .ridx 13 n 0 (.rload 15 (rowC (L.map metaE.f)) (0 + Int.toNat 0 * 5 + 3) metaE L 0 3 (fun e2 => .rcut 17 n (some 1) none (.loop ⟨[4, 5, 17, 18, 19], [(0, 0, some (L.map metaE.f))]⟩ [rowC (L.map metaE.f)] (some (T28r_l1_e n L (0, e1.low, e2.high))) (T28r_l1_e n L) (T28r_l1_x L) noX (0, e1.low, e2.high) (T28r_l1_b n L) (fun (x1 : ByteArray × ByteArray) => .leaf ⟨[0], [(0, 0, some (L.map metaE.f))]⟩ [rowC (L.map metaE.f)] .ret (some ([(0, .tup [vs x1.1, vs x1.2])], [metaE.bx 0 L]))) (fun _ => .stuck))))))

theorem T28r_chk (n : Nat) (L : List Meta) : fnC LP Γ0 Δ0 Try.f28 [.rs 0 0 5 0 n] [metaE.bx 0 L] (T28r n L) = T28r n L := by kernel_rfl

noncomputable def T19r_l1_e (A : List Meta) (n : Nat) (L : List Meta) (s1 : Int) : St := ([(0, vl (A.map metaE.f)), (1, .rs 0 0 5 0 n), (12, vi (A.length : Int)), (13, vi s1)], [metaE.bx 0 L])
noncomputable def T19r_l1_x (L : List Meta) (x1 : Unit) : AE × St := (.ret, ([(4, vb false)], [metaE.bx 0 L]))
noncomputable def T19r_l1_x' (L : List Meta) (y1 : Unit) : AE × St := ((.exit 0), ([], [metaE.bx 0 L]))
noncomputable def T19r_l1_b (A : List Meta) (n : Nat) (L : List Meta) (s1 : Int) : Tree :=
.sp 14 (decide (s1 < (A.length : Int))) (
.elem 18 (A.map metaE.f) metaE A s1 (fun e1 => .ridx 22 n s1 (.rload 23 (rowC (L.map metaE.f)) (0 + Int.toNat s1 * 5) metaE L s1 0 (fun e2 => .sp 24 (!(((e1.num : Int) == (e2.num : Int)) && (((e1.level : Int) == (e2.level : Int)) && (((e1.low : ByteArray).toList == (e2.low : ByteArray).toList) && (((e1.high : ByteArray).toList == (e2.high : ByteArray).toList) && (((e1.size : Int) == (e2.size : Int)) && true)))))) (
.leaf ⟨[4], [(0, 0, some (L.map metaE.f))]⟩ [rowC (L.map metaE.f)] .ret (some (T19r_l1_x L ()).2)) (
.int 25 (IntKind.i64.wrap (s1 + 1)) (s1 + 1) (.leaf ⟨[0, 1, 12, 13], [(0, 0, some (L.map metaE.f))]⟩ [rowC (L.map metaE.f)] .normal (some (T19r_l1_e A n L (s1 + 1))))))))) (
.leaf ⟨[], [(0, 0, some (L.map metaE.f))]⟩ [rowC (L.map metaE.f)] (.exit 0) (some (T19r_l1_x' L ()).2))
noncomputable def T19r (A : List Meta) (n : Nat) (L : List Meta) : Tree :=
.int 7 ((A.map metaE.f).length : Int) (A.length : Int) (.sp 10 ((A.length : Int) != ((n : Nat) : Int)) (
.leaf ⟨[0], [(0, 0, some (L.map metaE.f))]⟩ [rowC (L.map metaE.f)] .ret (some ([(0, vb false)], [metaE.bx 0 L]))) (
.int 12 ((A.map metaE.f).length : Int) (A.length : Int) (.loop ⟨[0, 1, 12, 13], [(0, 0, some (L.map metaE.f))]⟩ [rowC (L.map metaE.f)] (some (T19r_l1_e A n L 0)) (T19r_l1_e A n L) (T19r_l1_x L) (T19r_l1_x' L) 0 (T19r_l1_b A n L) (fun (x1 : Unit) => .leaf ⟨[0], [(0, 0, some (L.map metaE.f))]⟩ [rowC (L.map metaE.f)] .ret (some ([(0, vb false)], [metaE.bx 0 L]))) (fun (y1 : Unit) => .leaf ⟨[0], [(0, 0, some (L.map metaE.f))]⟩ [rowC (L.map metaE.f)] .ret (some ([(0, vb true)], [metaE.bx 0 L]))))))

theorem T19r_chk (A : List Meta) (n : Nat) (L : List Meta) : fnC LP Γ0 Δ0 Try.f19 [vl (A.map metaE.f), .rs 0 0 5 0 n] [metaE.bx 0 L] (T19r A n L) = T19r A n L := by kernel_rfl

noncomputable def T17_l1_e (v : Vers) (lv : Int) (s1 : (List Meta) × Int) : St := ([(3, .ptr 0 0 0), (5, .rs 1 0 5 0 s1.1.length), (9, vl (v.files.map metaE.f)), (10, vi (v.files.length : Int)), (11, vi s1.2)], [.cells false 0 ([vi lv]), metaE.bx 0 s1.1])
noncomputable def T17_l1_x (lv : Int) (x1 : (List Meta)) : AE × St := ((.exit 0), ([(3, .ptr 0 0 0), (5, .rs 1 0 5 0 x1.length)], [.cells false 0 ([vi lv]), metaE.bx 0 x1]))
noncomputable def T17_l1_b (v : Vers) (lv : Int) (s1 : (List Meta) × Int) : Tree :=
.sp 12 (decide (s1.2 < (v.files.length : Int))) (
.elem 13 (v.files.map metaE.f) metaE v.files s1.2 (fun e1 => .sp 18 (e1.level == lv) (
.app 22 (.row 1 ([vi e1.num, vi e1.level, vs e1.low, vs e1.high, vi e1.size])) s1.1.length (rowC (s1.1.map metaE.f)) metaE s1.1 ([e1]) (.int 23 (IntKind.i64.wrap (s1.2 + 1)) (s1.2 + 1) (.leaf ⟨[3, 5, 9, 10, 11], [(0, 0, none), (1, 1, some ((s1.1 ++ ([e1])).map metaE.f))]⟩ [rowC ((s1.1 ++ ([e1])).map metaE.f)] .normal (some (T17_l1_e v lv (s1.1 ++ ([e1]), s1.2 + 1)))))) (
.int 23 (IntKind.i64.wrap (s1.2 + 1)) (s1.2 + 1) (.leaf ⟨[3, 5, 9, 10, 11], [(0, 0, none), (1, 0, some (s1.1.map metaE.f))]⟩ [rowC (s1.1.map metaE.f)] .normal (some (T17_l1_e v lv (s1.1, s1.2 + 1))))))) (
.leaf ⟨[3, 5], [(0, 0, none), (1, 0, some (s1.1.map metaE.f))]⟩ [rowC (s1.1.map metaE.f)] (.exit 0) (some (T17_l1_x lv s1.1).2))
noncomputable def T17 (Δ : REnv) (v : Vers) (lv : Int) : Tree :=
.int 10 ((v.files.map metaE.f).length : Int) (v.files.length : Int) (.nilrow 5 5 (.loop ⟨[3, 5, 9, 10, 11], [(1, 0, none), (2, 0, some (([] : List Meta).map metaE.f))]⟩ [rowC (([] : List Meta).map metaE.f)] (some (T17_l1_e v lv (([] : List Meta), 0))) (T17_l1_e v lv) (T17_l1_x lv) noX (([] : List Meta), 0) (T17_l1_b v lv) (fun (x1 : (List Meta)) => .callx (some 26) (fun (R2 : List Meta) => Δ 32 [.rs 1 0 5 0 x1.length, .fn 33 [.ptr 0 0 0]] [.cells false 0 ([vi lv]), metaE.bx 0 x1] (.tup []) [.cells false 0 ([vi lv]), metaE.bx 0 R2]) (fun (R2 : List Meta) => .tup []) (fun (R2 : List Meta) => [.cells false 0 ([vi lv]), metaE.bx 0 R2]) (fun (R2 : List Meta) => .leaf ⟨[0], [(1, 0, some (R2.map metaE.f))]⟩ [rowC (R2.map metaE.f)] .ret (some ([(0, .rs 0 0 5 0 x1.length)], [metaE.bx 0 R2])))) (fun _ => .stuck)))

theorem T17_chk (Δ : REnv) (v : Vers) (lv : Int) : fnC LP Γ0 Δ Try.f17 [.agg [vl (v.files.map metaE.f), vi v.log, vi v.next, vn .u64 v.seq], vi lv] [] (T17 Δ v lv) = T17 Δ v lv := by kernel_rfl

noncomputable def T43_l1_e (n : Nat) (L : List Meta) (lo : ByteArray) (hi : ByteArray) (s1 : Int) : St := ([(0, .rs 0 0 5 0 n), (1, .fn 39 [.ptr 1 0 0, .ptr 2 0 0]), (7, vi ((n : Nat) : Int)), (8, vi s1)], [metaE.bx 0 L, .cells false 0 ([vs lo]), .cells false 0 ([vs hi])])
noncomputable def T43_l1_x (L : List Meta) (lo : ByteArray) (hi : ByteArray) (x1 : Int) : AE × St := (.ret, ([(4, vi x1)], [metaE.bx 0 L, .cells false 0 ([vs lo]), .cells false 0 ([vs hi])]))
noncomputable def T43_l1_x' (L : List Meta) (lo : ByteArray) (hi : ByteArray) (y1 : Unit) : AE × St := ((.exit 0), ([], [metaE.bx 0 L, .cells false 0 ([vs lo]), .cells false 0 ([vs hi])]))
noncomputable def T43_l1_b (Δ : REnv) (n : Nat) (L : List Meta) (lo : ByteArray) (hi : ByteArray) (s1 : Int) : Tree :=
.sp 9 (decide (s1 < ((n : Nat) : Int))) (
.ridx 14 n s1 (.rload 15 (rowC (L.map metaE.f)) (0 + Int.toNat s1 * 5) metaE L s1 0 (fun e1 => .callr (some 16) (Δ 39 [(metaE.av e1), .ptr 1 0 0, .ptr 2 0 0] [metaE.bx 0 L, .cells false 0 ([vs lo]), .cells false 0 ([vs hi])] (vb (missB e1 lo hi)) [metaE.bx 0 L, .cells false 0 ([vs lo]), .cells false 0 ([vs hi])]) (vb (missB e1 lo hi)) [metaE.bx 0 L, .cells false 0 ([vs lo]), .cells false 0 ([vs hi])] (.sp 16 (missB e1 lo hi) (
.leaf ⟨[4], [(0, 0, some (L.map metaE.f)), (1, 0, none), (2, 0, none)]⟩ [rowC (L.map metaE.f)] .ret (some (T43_l1_x L lo hi s1).2)) (
.int 18 (IntKind.i64.wrap (s1 + 1)) (s1 + 1) (.leaf ⟨[0, 1, 7, 8], [(0, 0, some (L.map metaE.f)), (1, 0, none), (2, 0, none)]⟩ [rowC (L.map metaE.f)] .normal (some (T43_l1_e n L lo hi (s1 + 1))))))))) (
.leaf ⟨[], [(0, 0, some (L.map metaE.f)), (1, 0, none), (2, 0, none)]⟩ [rowC (L.map metaE.f)] (.exit 0) (some (T43_l1_x' L lo hi ()).2))
noncomputable def T43 (Δ : REnv) (n : Nat) (L : List Meta) (lo : ByteArray) (hi : ByteArray) : Tree :=
.loop ⟨[0, 1, 7, 8], [(0, 0, some (L.map metaE.f)), (1, 0, none), (2, 0, none)]⟩ [rowC (L.map metaE.f)] (some (T43_l1_e n L lo hi 0)) (T43_l1_e n L lo hi) (T43_l1_x L lo hi) (T43_l1_x' L lo hi) 0 (T43_l1_b Δ n L lo hi) (fun (x1 : Int) => .leaf ⟨[0], [(0, 0, some (L.map metaE.f)), (1, 0, none), (2, 0, none)]⟩ [rowC (L.map metaE.f)] .ret (some ([(0, vi x1)], [metaE.bx 0 L, .cells false 0 ([vs lo]), .cells false 0 ([vs hi])]))) (fun (y1 : Unit) => .leaf ⟨[0], [(0, 0, some (L.map metaE.f)), (1, 0, none), (2, 0, none)]⟩ [rowC (L.map metaE.f)] .ret (some ([(0, vi (-1))], [metaE.bx 0 L, .cells false 0 ([vs lo]), .cells false 0 ([vs hi])])))

theorem T43_chk (Δ : REnv) (n : Nat) (L : List Meta) (lo : ByteArray) (hi : ByteArray) : fnC LP Γ0 Δ Try.f43 [.rs 0 0 5 0 n, .fn 39 [.ptr 1 0 0, .ptr 2 0 0]] [metaE.bx 0 L, .cells false 0 ([vs lo]), .cells false 0 ([vs hi])] (T43 Δ n L lo hi) = T43 Δ n L lo hi := by kernel_rfl

noncomputable def T38_l1_e (n : Nat) (lo : ByteArray) (hi : ByteArray) (s1 : (List Meta) × Int × Int) : St := ([(0, .rs 0 0 5 0 n), (1, .fn 39 [.ptr 1 0 0, .ptr 2 0 0]), (5, vi s1.2.1), (6, vi s1.2.2)], [metaE.bx 0 s1.1, .cells false 0 ([vs lo]), .cells false 0 ([vs hi])])
noncomputable def T38_l1_x (n : Nat) (lo : ByteArray) (hi : ByteArray) (x1 : Int × (List Meta)) : AE × St := ((.exit 0), ([(0, .rs 0 0 5 0 n), (5, vi x1.1)], [metaE.bx 0 x1.2, .cells false 0 ([vs lo]), .cells false 0 ([vs hi])]))
noncomputable def T38_l1_b (Δ : REnv) (n : Nat) (lo : ByteArray) (hi : ByteArray) (s1 : (List Meta) × Int × Int) : Tree :=
.sp 19 (decide (s1.2.2 < ((n : Nat) : Int))) (
.ridx 24 n s1.2.2 (.rload 25 (rowC (s1.1.map metaE.f)) (0 + Int.toNat s1.2.2 * 5) metaE s1.1 s1.2.2 0 (fun e1 => .callr (some 28) (Δ 39 [(metaE.av e1), .ptr 1 0 0, .ptr 2 0 0] [metaE.bx 0 s1.1, .cells false 0 ([vs lo]), .cells false 0 ([vs hi]), .cells false 0 ([vi e1.num, vi e1.level, vs e1.low, vs e1.high, vi e1.size])] (vb (missB e1 lo hi)) [metaE.bx 0 s1.1, .cells false 0 ([vs lo]), .cells false 0 ([vs hi]), .cells false 0 ([vi e1.num, vi e1.level, vs e1.low, vs e1.high, vi e1.size])]) (vb (missB e1 lo hi)) [metaE.bx 0 s1.1, .cells false 0 ([vs lo]), .cells false 0 ([vs hi]), .cells false 0 ([vi e1.num, vi e1.level, vs e1.low, vs e1.high, vi e1.size])] (.sp 28 (missB e1 lo hi) (
.int 21 (IntKind.i64.wrap (s1.2.2 + 1)) (s1.2.2 + 1) (.leaf ⟨[0, 1, 5, 6], [(0, 0, some (s1.1.map metaE.f)), (1, 0, none), (2, 0, none)]⟩ [rowC (s1.1.map metaE.f)] .normal (some (T38_l1_e n lo hi (s1.1, s1.2.1, s1.2.2 + 1))))) (
.ridx 33 n s1.2.1 (.rstore none (rowC (s1.1.map metaE.f)) (0 + Int.toNat s1.2.1 * 5) [vi e1.num, vi e1.level, vs e1.low, vs e1.high, vi e1.size] metaE s1.1 s1.2.1 e1 (.int 35 (IntKind.i64.wrap (s1.2.1 + 1)) (s1.2.1 + 1) (.int 21 (IntKind.i64.wrap (s1.2.2 + 1)) (s1.2.2 + 1) (.leaf ⟨[0, 1, 5, 6], [(0, 0, some ((s1.1.set (Int.toNat s1.2.1) e1).map metaE.f)), (1, 0, none), (2, 0, none)]⟩ [rowC ((s1.1.set (Int.toNat s1.2.1) e1).map metaE.f)] .normal (some (T38_l1_e n lo hi (s1.1.set (Int.toNat s1.2.1) e1, s1.2.1 + 1, s1.2.2 + 1)))))))))))) (
.leaf ⟨[0, 5], [(0, 0, some (s1.1.map metaE.f)), (1, 0, none), (2, 0, none)]⟩ [rowC (s1.1.map metaE.f)] (.exit 0) (some (T38_l1_x n lo hi (s1.2.1, s1.1)).2))
noncomputable def T38 (Δ : REnv) (n : Nat) (L : List Meta) (lo : ByteArray) (hi : ByteArray) : Tree :=
.callr (some 10) (Δ 43 [.rs 0 0 5 0 n, .fn 39 [.ptr 1 0 0, .ptr 2 0 0]] [metaE.bx 0 L, .cells false 0 ([vs lo]), .cells false 0 ([vs hi])] (vi (idxL L lo hi)) [metaE.bx 0 L, .cells false 0 ([vs lo]), .cells false 0 ([vs hi])]) (vi (idxL L lo hi)) [metaE.bx 0 L, .cells false 0 ([vs lo]), .cells false 0 ([vs hi])] (.sp 12 ((idxL L lo hi) == ((-1) : Int)) (
.leaf ⟨[0], [(0, 0, some (L.map metaE.f)), (1, 0, none), (2, 0, none)]⟩ [rowC (L.map metaE.f)] .ret (some ([(0, .rs 0 0 5 0 n)], [metaE.bx 0 L, .cells false 0 ([vs lo]), .cells false 0 ([vs hi])]))) (
.int 15 (IntKind.i64.wrap ((idxL L lo hi) + 1)) ((idxL L lo hi) + 1) (.loop ⟨[0, 1, 5, 6], [(0, 0, some (L.map metaE.f)), (1, 0, none), (2, 0, none)]⟩ [rowC (L.map metaE.f)] (some (T38_l1_e n lo hi (L, (idxL L lo hi), (idxL L lo hi) + 1))) (T38_l1_e n lo hi) (T38_l1_x n lo hi) noX (L, (idxL L lo hi), (idxL L lo hi) + 1) (T38_l1_b Δ n lo hi) (fun (x1 : Int × (List Meta)) => .rcut 38 n (some x1.1) none (.rclr none (0 + loN (some x1.1) * 5) (hiN none n - loN (some x1.1)) (rowC (x1.2.map metaE.f)) [vi 0, vi 0, vs (⟨#[]⟩), vs (⟨#[]⟩), vi 0] metaE x1.2 (loN (some x1.1)) dM (.rcut 41 n none (some x1.1) (.leaf ⟨[0], [(0, 0, some ((x1.2.take (loN (some x1.1)) ++ List.replicate (hiN none n - loN (some x1.1)) dM).map metaE.f)), (1, 0, none), (2, 0, none)]⟩ [rowC ((x1.2.take (loN (some x1.1)) ++ List.replicate (hiN none n - loN (some x1.1)) dM).map metaE.f)] .ret (some ([(0, .rs 0 0 5 (0 + loN none * 5) (hiN (some x1.1) n - loN none))], [metaE.bx 0 (x1.2.take (loN (some x1.1)) ++ List.replicate (hiN none n - loN (some x1.1)) dM), .cells false 0 ([vs lo]), .cells false 0 ([vs hi])])))))) (fun _ => .stuck))))

theorem T38_chk (Δ : REnv) (n : Nat) (L : List Meta) (lo : ByteArray) (hi : ByteArray) : fnC LP Γ0 Δ Try.f38 [.rs 0 0 5 0 n, .fn 39 [.ptr 1 0 0, .ptr 2 0 0]] [metaE.bx 0 L, .cells false 0 ([vs lo]), .cells false 0 ([vs hi])] (T38 Δ n L lo hi) = T38 Δ n L lo hi := by kernel_rfl

end Go.Ax
