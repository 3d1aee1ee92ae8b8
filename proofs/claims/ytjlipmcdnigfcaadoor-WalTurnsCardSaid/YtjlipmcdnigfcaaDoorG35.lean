/- Trees, printed by gen/w1.py. -/
import Derived.Test.YtjlipmcdnigfcaaDoorG34
import Derived.Test.YtjlipmcdnigfcaaDoorG33
set_option linter.unusedVariables false
set_option linter.unusedSimpArgs false
set_option linter.unusedSectionVars false
namespace Go.Ax
open Go.Proofs Go.RowKit
set_option maxRecDepth 100000

abbrev iWalTurns : Nat := 4
noncomputable abbrev nWalTurns : Func := Tryd.f4
theorem hfWalTurns : DP.funcs[iWalTurns]? = some nWalTurns := by kernel_rfl
theorem heWalTurns : enters DP iWalTurns = true := by kernel_rfl
theorem hbWalTurns : nWalTurns.body.isSome = true := by kernel_rfl
theorem hnWalTurns : nWalTurns.ntmps = 133 := by kernel_rfl

noncomputable def TTurns_l1_e (parts : List (List ByteArray)) (at_ : Int) (bits : UInt8) (s1 : Int × Int × Bool × Dsk × (List Int) × Int × Int) : St := ([(1, vi at_), (2, vn .u8 (bits.toNat : Int)), (7, .op 0), (8, .ptr 1 0 0), (11, .rs 2 0 1 0 s1.2.2.2.2.1.length), (12, vi s1.2.2.2.2.2.1), (46, vl (parts.map namesE.f)), (47, vi (parts.length : Int)), (48, vi s1.2.2.2.2.2.2)], [.obj [] (diskP s1.2.2.2.1), .cells false 0 ([.op 0, vi s1.1, vi s1.2.1, vb s1.2.2.1]), intE.bx 0 s1.2.2.2.2.1])
noncomputable def TTurns_l1_x (x1 : Bool) : AE × St := (.ret, ([(6, vb x1)], []))
noncomputable def TTurns_l1_x' (at_ : Int) (bits : UInt8) (y1 : Int × Dsk × (List Int)) : AE × St := ((.exit 0), ([(1, vi at_), (2, vn .u8 (bits.toNat : Int)), (7, .op 0), (11, .rs 1 0 1 0 y1.2.2.length), (12, vi y1.1)], [.obj [] (diskP y1.2.1), intE.bx 0 y1.2.2]))
noncomputable def TTurns_l2_e (parts : List (List ByteArray)) (at_ : Int) (bits : UInt8) (s1 : Int × Int × Bool × Dsk × (List Int) × Int × Int) (e1 : (List ByteArray)) (s2 : Int × Dsk × Int) : St := ([(1, vi at_), (2, vn .u8 (bits.toNat : Int)), (7, .op 0), (8, .ptr 1 0 0), (11, .rs 2 0 1 0 s1.2.2.2.2.1.length), (12, vi s1.2.2.2.2.2.1), (46, vl (parts.map namesE.f)), (47, vi (parts.length : Int)), (48, vi s1.2.2.2.2.2.2), (66, vl (e1.map nameE.f)), (67, vi (e1.length : Int)), (68, vi s2.2.2)], [.obj [] (diskP s2.2.1), .cells false 0 ([.op 0, vi (1 + s1.2.2.2.2.2.2), vi s2.1, vb true]), intE.bx 0 s1.2.2.2.2.1])
noncomputable def TTurns_l2_x (x2 : Unit) : AE × St := (.ret, ([(6, vb true)], []))
noncomputable def TTurns_l2_x' (parts : List (List ByteArray)) (at_ : Int) (bits : UInt8) (s1 : Int × Int × Bool × Dsk × (List Int) × Int × Int) (y2 : Dsk × Int) : AE × St := ((.exit 2), ([(1, vi at_), (2, vn .u8 (bits.toNat : Int)), (7, .op 0), (8, .ptr 1 0 0), (11, .rs 2 0 1 0 s1.2.2.2.2.1.length), (12, vi s1.2.2.2.2.2.1), (46, vl (parts.map namesE.f)), (47, vi (parts.length : Int)), (48, vi s1.2.2.2.2.2.2)], [.obj [] (diskP y2.1), .cells false 0 ([.op 0, vi (1 + s1.2.2.2.2.2.2), vi y2.2, vb true]), intE.bx 0 s1.2.2.2.2.1]))
noncomputable def TTurns_l2_b (parts : List (List ByteArray)) (at_ : Int) (bits : UInt8) (s1 : Int × Int × Bool × Dsk × (List Int) × Int × Int) (e1 : (List ByteArray)) (s2 : Int × Dsk × Int) : Tree :=
.sp 69 (decide (s2.2.2 < (e1.length : Int))) (
.elem 70 (e1.map nameE.f) nameE e1 s2.2.2 (fun e2 => .sp 74 (decide ((e2.size : Int) > (200 : Int))) (
.leaf ⟨[6], []⟩ [] .ret (some (TTurns_l2_x ()).2)) (
.callr (some 77) (Δ7 19 [.ptr 1 0 0, vs e2] [.obj [] (diskP s2.2.1), .cells false 0 ([.op 0, vi (1 + s1.2.2.2.2.2.2), vi s2.1, vb true]), intE.bx 0 s1.2.2.2.2.1] (vi 0) [.obj [] (diskP ((appendD s2.2.1 (wname (1 + s1.2.2.2.2.2.2)) (recB e2.data.toList)).1)), .cells false 0 ([.op 0, vi (1 + s1.2.2.2.2.2.2), vi (s2.1 + ((recB e2.data.toList).length : Int)), vb true]), intE.bx 0 s1.2.2.2.2.1]) (vi 0) [.obj [] (diskP ((appendD s2.2.1 (wname (1 + s1.2.2.2.2.2.2)) (recB e2.data.toList)).1)), .cells false 0 ([.op 0, vi (1 + s1.2.2.2.2.2.2), vi (s2.1 + ((recB e2.data.toList).length : Int)), vb true]), intE.bx 0 s1.2.2.2.2.1] (.int 79 (IntKind.i64.wrap (s2.2.2 + 1)) (s2.2.2 + 1) (.leaf ⟨[1, 2, 7, 8, 11, 12, 46, 47, 48, 66, 67, 68], [(0, 0, none), (1, 0, none), (2, 0, some (s1.2.2.2.2.1.map intE.f))]⟩ [rowC (s1.2.2.2.2.1.map intE.f)] .normal (some (TTurns_l2_e parts at_ bits s1 e1 (s2.1 + ((recB e2.data.toList).length : Int), ((appendD s2.2.1 (wname (1 + s1.2.2.2.2.2.2)) (recB e2.data.toList)).1), s2.2.2 + 1)))))))) (
.leaf ⟨[1, 2, 7, 8, 11, 12, 46, 47, 48], [(0, 0, none), (1, 0, none), (2, 0, some (s1.2.2.2.2.1.map intE.f))]⟩ [rowC (s1.2.2.2.2.1.map intE.f)] (.exit 2) (some (TTurns_l2_x' parts at_ bits s1 (s2.2.1, s2.1)).2))
noncomputable def TTurns_l1_b (parts : List (List ByteArray)) (at_ : Int) (bits : UInt8) (s1 : Int × Int × Bool × Dsk × (List Int) × Int × Int) : Tree :=
.sp 49 (decide (s1.2.2.2.2.2.2 < (parts.length : Int))) (
.elem 51 (parts.map namesE.f) namesE parts s1.2.2.2.2.2.2 (fun e1 => .int 54 ((e1.map nameE.f).length : Int) (e1.length : Int) (.sp 55 (decide ((e1.length : Int) > (8 : Int))) (
.int 64 ((e1.map nameE.f).length : Int) (e1.length : Int) (.leaf ⟨[6], []⟩ [] .ret (some (TTurns_l1_x (decide ((e1.length : Int) > (8 : Int)))).2))) (
.int 59 (IntKind.i64.wrap (1 + s1.2.2.2.2.2.2)) (1 + s1.2.2.2.2.2.2) (.callr (some 60) (Δ7 17 [.ptr 1 0 0, vi (1 + s1.2.2.2.2.2.2)] [.obj [] (diskP s1.2.2.2.1), .cells false 0 ([.op 0, vi s1.1, vi s1.2.1, vb s1.2.2.1]), intE.bx 0 s1.2.2.2.2.1] (vi 0) [.obj [] (diskP (startD s1.2.2.2.1 s1.1 s1.2.1 (1 + s1.2.2.2.2.2.2))), .cells false 0 ([.op 0, vi (1 + s1.2.2.2.2.2.2), vi ((recB (putI s1.2.1)).length : Int), vb true]), intE.bx 0 s1.2.2.2.2.1]) (vi 0) [.obj [] (diskP (startD s1.2.2.2.1 s1.1 s1.2.1 (1 + s1.2.2.2.2.2.2))), .cells false 0 ([.op 0, vi (1 + s1.2.2.2.2.2.2), vi ((recB (putI s1.2.1)).length : Int), vb true]), intE.bx 0 s1.2.2.2.2.1] (.int 67 ((e1.map nameE.f).length : Int) (e1.length : Int) (.loop ⟨[1, 2, 7, 8, 11, 12, 46, 47, 48, 66, 67, 68], [(0, 0, none), (1, 0, none), (2, 0, some (s1.2.2.2.2.1.map intE.f))]⟩ [rowC (s1.2.2.2.2.1.map intE.f)] (some (TTurns_l2_e parts at_ bits s1 e1 (((recB (putI s1.2.1)).length : Int), (startD s1.2.2.2.1 s1.1 s1.2.1 (1 + s1.2.2.2.2.2.2)), 0))) (TTurns_l2_e parts at_ bits s1 e1) (TTurns_l2_x) (TTurns_l2_x' parts at_ bits s1) (((recB (putI s1.2.1)).length : Int), (startD s1.2.2.2.1 s1.1 s1.2.1 (1 + s1.2.2.2.2.2.2)), 0) (TTurns_l2_b parts at_ bits s1 e1) (fun (x2 : Unit) => .leaf ⟨[6], []⟩ [] .ret (some (TTurns_l1_x true).2)) (fun (y2 : Dsk × Int) => .callr (some 82) (Δ7 21 [.ptr 1 0 0] [.obj [] (diskP y2.1), .cells false 0 ([.op 0, vi (1 + s1.2.2.2.2.2.2), vi y2.2, vb true]), intE.bx 0 s1.2.2.2.2.1] (vi y2.2) [.obj [] (diskP y2.1), .cells false 0 ([.op 0, vi (1 + s1.2.2.2.2.2.2), vi y2.2, vb true]), intE.bx 0 s1.2.2.2.2.1]) (vi y2.2) [.obj [] (diskP y2.1), .cells false 0 ([.op 0, vi (1 + s1.2.2.2.2.2.2), vi y2.2, vb true]), intE.bx 0 s1.2.2.2.2.1] (.app 84 (.row 1 ([vi y2.2])) s1.2.2.2.2.1.length (rowC (s1.2.2.2.2.1.map intE.f)) intE s1.2.2.2.2.1 ([y2.2]) (.callr (some 87) (Δ7 21 [.ptr 1 0 0] [.obj [] (diskP y2.1), .cells false 0 ([.op 0, vi (1 + s1.2.2.2.2.2.2), vi y2.2, vb true]), intE.bx 1 (s1.2.2.2.2.1 ++ ([y2.2])), .cells true 0 ([vi y2.2])] (vi y2.2) [.obj [] (diskP y2.1), .cells false 0 ([.op 0, vi (1 + s1.2.2.2.2.2.2), vi y2.2, vb true]), intE.bx 1 (s1.2.2.2.2.1 ++ ([y2.2])), .cells true 0 ([vi y2.2])]) (vi y2.2) [.obj [] (diskP y2.1), .cells false 0 ([.op 0, vi (1 + s1.2.2.2.2.2.2), vi y2.2, vb true]), intE.bx 1 (s1.2.2.2.2.1 ++ ([y2.2])), .cells true 0 ([vi y2.2])] (.int 88 (IntKind.i64.wrap (s1.2.2.2.2.2.1 + y2.2)) (s1.2.2.2.2.2.1 + y2.2) (.int 89 (IntKind.i64.wrap (s1.2.2.2.2.2.2 + 1)) (s1.2.2.2.2.2.2 + 1) (.leaf ⟨[1, 2, 7, 8, 11, 12, 46, 47, 48], [(0, 0, none), (1, 0, none), (2, 1, some ((s1.2.2.2.2.1 ++ ([y2.2])).map intE.f))]⟩ [rowC ((s1.2.2.2.2.1 ++ ([y2.2])).map intE.f)] .normal (some (TTurns_l1_e parts at_ bits (1 + s1.2.2.2.2.2.2, y2.2, true, y2.1, s1.2.2.2.2.1 ++ ([y2.2]), s1.2.2.2.2.2.1 + y2.2, s1.2.2.2.2.2.2 + 1)))))))))))))))) (
.leaf ⟨[1, 2, 7, 11, 12], [(0, 0, none), (2, 0, some (s1.2.2.2.2.1.map intE.f))]⟩ [rowC (s1.2.2.2.2.1.map intE.f)] (.exit 0) (some (TTurns_l1_x' at_ bits (s1.2.2.2.2.2.1, s1.2.2.2.1, s1.2.2.2.2.1)).2))
noncomputable def TTurns_l3_e (bits : UInt8) (y1 : Int × Dsk × (List Int)) (s3 : Int × Int) : St := ([(1, vi s3.1), (2, vn .u8 (bits.toNat : Int)), (7, .op 0), (94, .rs 1 0 1 0 y1.2.2.length), (95, vi ((y1.2.2.length : Nat) : Int)), (96, vi s3.2)], [.obj [] (diskP y1.2.1), intE.bx 0 y1.2.2])
noncomputable def TTurns_l3_x (x3 : Dsk) : AE × St := ((.exit 4), ([(7, .op 0)], [.obj [] (diskP x3)]))
noncomputable def TTurns_l3_b (bits : UInt8) (y1 : Int × Dsk × (List Int)) (s3 : Int × Int) : Tree :=
.sp 97 (decide (s3.2 < ((y1.2.2.length : Nat) : Int))) (
.ridx 99 y1.2.2.length s3.2 (.rload 100 (rowC (y1.2.2.map intE.f)) (0 + Int.toNat s3.2 * 1) intE y1.2.2 s3.2 0 (fun e3 => .sp 103 (decide (s3.1 ≥ e3)) (
.int 106 (IntKind.i64.wrap (s3.1 - e3)) (s3.1 - e3) (.int 115 (IntKind.i64.wrap (s3.2 + 1)) (s3.2 + 1) (.leaf ⟨[1, 2, 7, 94, 95, 96], [(0, 0, none), (1, 0, some (y1.2.2.map intE.f))]⟩ [rowC (y1.2.2.map intE.f)] .normal (some (TTurns_l3_e bits y1 (s3.1 - e3, s3.2 + 1)))))) (
.int 109 (IntKind.i64.wrap (1 + s3.2)) (1 + s3.2) (.call 110 (gNameW [vi (1 + s3.2)] = some (vs (wname (1 + s3.2)))) (vs (wname (1 + s3.2))) (.callr (some 113) (Δ7 22 [.op 0, vs (wname (1 + s3.2)), vi s3.1, vn .u8 (bits.toNat : Int)] [.obj [] (diskP y1.2.1), intE.bx 0 y1.2.2] (vi 0) [.obj [] (diskP ((spoilD y1.2.1 (wname (1 + s3.2)) s3.1 bits).1)), intE.bx 0 y1.2.2]) (vi 0) [.obj [] (diskP ((spoilD y1.2.1 (wname (1 + s3.2)) s3.1 bits).1)), intE.bx 0 y1.2.2] (.leaf ⟨[7], [(0, 0, none)]⟩ [] (.exit 4) (some (TTurns_l3_x ((spoilD y1.2.1 (wname (1 + s3.2)) s3.1 bits).1)).2)))))))) (
.leaf ⟨[7], [(0, 0, none)]⟩ [] (.exit 4) (some (TTurns_l3_x y1.2.1).2))
noncomputable def TTurns (parts : List (List ByteArray)) (at_ : Int) (bits : UInt8) : Tree :=
.call 22 (gHeadL [] = some (vb true)) (vb true) (.int 25 ((parts.map namesE.f).length : Int) (parts.length : Int) (.sp 26 ((parts.length : Int) == (0 : Int)) (
.leaf ⟨[0], []⟩ [] .ret (some ([(0, vb true)], []))) (
.int 29 ((parts.map namesE.f).length : Int) (parts.length : Int) (.sp 30 (decide ((parts.length : Int) > (4 : Int))) (
.leaf ⟨[0], []⟩ [] .ret (some ([(0, vb true)], []))) (
.sp 34 ((bits.toNat : Int) == (0 : Int)) (
.leaf ⟨[0], []⟩ [] .ret (some ([(0, vb true)], []))) (
.callr (some 36) (Δ7 15 [vi 1048576] [] (.op 0) [.obj [] (diskP (newD 1048576))]) (.op 0) [.obj [] (diskP (newD 1048576))] (.callr (some 39) (Δ7 16 [.op 0, vi 1] [.obj [] (diskP (newD 1048576))] (.tup [.ptr 1 0 0, .rs 2 0 1 0 (([] : List ByteArray).length), vi 0]) [.obj [] (diskP (newD 1048576)), .cells false 0 ([.op 0, vi 0, vi 0, vb false]), nameE.bx 0 ([] : List ByteArray)]) (.tup [.ptr 1 0 0, .rs 2 0 1 0 (([] : List ByteArray).length), vi 0]) [.obj [] (diskP (newD 1048576)), .cells false 0 ([.op 0, vi 0, vi 0, vb false]), nameE.bx 0 ([] : List ByteArray)] (.int 47 ((parts.map namesE.f).length : Int) (parts.length : Int) (.loop ⟨[1, 2, 7, 8, 11, 12, 46, 47, 48], [(0, 0, none), (1, 0, none), (3, 0, none)]⟩ [] (some (TTurns_l1_e parts at_ bits (0, 0, false, (newD 1048576), ([] : List Int), 0, 0))) (TTurns_l1_e parts at_ bits) (TTurns_l1_x) (TTurns_l1_x' at_ bits) (0, 0, false, (newD 1048576), ([] : List Int), 0, 0) (TTurns_l1_b parts at_ bits) (fun (x1 : Bool) => .leaf ⟨[0], []⟩ [] .ret (some ([(0, vb x1)], []))) (fun (y1 : Int × Dsk × (List Int)) => .int 91 (IntKind.i64.wrap ((BitVec.ofInt IntKind.i64.bits at_ &&& BitVec.ofInt IntKind.i64.bits 1048575).toNat)) (at_ % 1048576) (.val (some 93) ((binA DP .rem 3 (vi (at_ % 1048576)) (vi y1.1)).map (fun v => (v, ([.obj [] (diskP y1.2.1), intE.bx 0 y1.2.2] : List Box))) = some (vi (Int.tmod (at_ % 1048576) y1.1), [.obj [] (diskP y1.2.1), intE.bx 0 y1.2.2])) (vi (Int.tmod (at_ % 1048576) y1.1)) [.obj [] (diskP y1.2.1), intE.bx 0 y1.2.2] (.loop ⟨[1, 2, 7, 94, 95, 96], [(0, 0, none), (1, 0, some (y1.2.2.map intE.f))]⟩ [rowC (y1.2.2.map intE.f)] (some (TTurns_l3_e bits y1 (Int.tmod (at_ % 1048576) y1.1, 0))) (TTurns_l3_e bits y1) (TTurns_l3_x) noX (Int.tmod (at_ % 1048576) y1.1, 0) (TTurns_l3_b bits y1) (fun (x3 : Dsk) => .callr (some 118) (Δ7 16 [.op 0, vi 1] [.obj [] (diskP x3)] (.tup [.p (.v (.pointer none)), nilS, vi 12]) [.obj [] (diskP x3)]) (.tup [.p (.v (.pointer none)), nilS, vi 12]) [.obj [] (diskP x3)] (.leaf ⟨[0], []⟩ [] .ret (some ([(0, vb true)], [])))) (fun _ => .stuck)))))))))))))

theorem TTurns_chk (parts : List (List ByteArray)) (at_ : Int) (bits : UInt8) : fnC DP Γ7 Δ7 Tryd.f4 [vl (parts.map namesE.f), vi at_, vn .u8 (bits.toNat : Int)] [] (TTurns parts at_ bits) = TTurns parts at_ bits := by kernel_rfl

end Go.Ax

namespace Go.Ax
open Go.Proofs Go.RowKit
set_option maxRecDepth 100000

/-! ### The check tells a turned byte -/
theorem nxor_cancel {a b c : Nat} (h : a ^^^ c = b ^^^ c) : a = b := by
  have := congrArg (· ^^^ c) h
  simpa [Nat.xor_assoc] using this
theorem xorI_l {a b c : Int} (ha : 0 ≤ a) (hb : 0 ≤ b) (h : xorI a c = xorI b c) : a = b := by
  unfold xorI at h
  have h1 : a.toNat ^^^ c.toNat = b.toNat ^^^ c.toNat := by omega
  have := nxor_cancel h1
  omega
theorem xorI_r {a b c : Int} (ha : 0 ≤ a) (hb : 0 ≤ b) (h : xorI c a = xorI c b) : a = b := by
  unfold xorI at h
  rw [Nat.xor_comm c.toNat a.toNat, Nat.xor_comm c.toNat b.toNat] at h
  exact xorI_l ha hb h
theorem hA_top : ∀ i j : Fin 16, (hA (i.val : Int)).toNat / 268435456 = (hA (j.val : Int)).toNat / 268435456 → i = j := by decide
theorem xor_div {a b n : Nat} (ha : a < 2 ^ n) : (a ^^^ b) / 2 ^ n = b / 2 ^ n := by
  rw [← Nat.shiftRight_eq_div_pow, Nat.shiftRight_xor_distrib, Nat.shiftRight_eq_div_pow, Nat.shiftRight_eq_div_pow, Nat.div_eq_of_lt ha, Nat.zero_xor]
theorem halfI_inj {x y : Int} (hx : 0 ≤ x ∧ x < 4294967296) (hy : 0 ≤ y ∧ y < 4294967296) (h : halfI x = halfI y) : x = y := by
  have hxm : x % 16 = (((x % 16).toNat : Nat) : Int) := by omega
  have hym : y % 16 = (((y % 16).toNat : Nat) : Int) := by omega
  have e : x % 16 = y % 16 := by
    have h1 : (halfI x).toNat / 2 ^ 28 = (halfI y).toNat / 2 ^ 28 := by rw [h]
    unfold halfI xorI at h1
    rw [Int.toNat_natCast, Int.toNat_natCast, xor_div (by show (x / 16).toNat < 268435456; omega), xor_div (by show (y / 16).toNat < 268435456; omega)] at h1
    have := hA_top ⟨(x % 16).toNat, by omega⟩ ⟨(y % 16).toNat, by omega⟩ (by simp only; rw [← hxm, ← hym]; exact h1)
    have := congrArg Fin.val this
    simp only at this
    omega
  unfold halfI at h
  rw [e] at h
  have := xorI_l (by omega) (by omega) h
  omega
theorem xb {r : Int} (h : 0 ≤ r ∧ r < 4294967296) (c : UInt8) : 0 ≤ xorI r (c.toNat : Int) ∧ xorI r (c.toNat : Int) < 4294967296 := xorI_32 h (by have := u8_b c; omega)
theorem stepI_l {r s : Int} {c : UInt8} (hr : 0 ≤ r ∧ r < 4294967296) (hs : 0 ≤ s ∧ s < 4294967296) (h : stepI r c = stepI s c) : r = s :=
  xorI_l hr.1 hs.1 (halfI_inj (xb hr c) (xb hs c) (halfI_inj (halfI_b (xb hr c)) (halfI_b (xb hs c)) h))
theorem stepI_r {r : Int} {c d : UInt8} (hr : 0 ≤ r ∧ r < 4294967296) (h : stepI r c = stepI r d) : c = d := by
  have := xorI_r (u8_b c).1 (u8_b d).1 (halfI_inj (xb hr c) (xb hr d) (halfI_inj (halfI_b (xb hr c)) (halfI_b (xb hr d)) h))
  exact UInt8.toNat_inj.1 (by omega)
theorem fold_l (b : List UInt8) : ∀ {r s : Int}, (0 ≤ r ∧ r < 4294967296) → (0 ≤ s ∧ s < 4294967296) → b.foldl stepI r = b.foldl stepI s → r = s := by
  induction b with
  | nil => intro r s _ _ h; exact h
  | cons c b ih => intro r s hr hs h; exact stepI_l hr hs (ih (stepI_b hr c) (stepI_b hs c) h)
theorem xor8_ne {c bits : UInt8} (h : bits ≠ 0) : c ^^^ bits ≠ c := by
  intro e
  apply h
  have h2 : c.toNat ^^^ bits.toNat = c.toNat := by rw [← UInt8.toNat_xor, e]
  have h3 : bits.toNat ^^^ c.toNat = 0 ^^^ c.toNat := by rw [Nat.xor_comm, h2, Nat.zero_xor]
  exact UInt8.toNat_inj.1 (nxor_cancel h3)
theorem crcI_turn {b : List UInt8} {k : Nat} {bits : UInt8} (hk : k < b.length) (hb : bits ≠ 0) : crcI (b.modify k (· ^^^ bits)) ≠ crcI b := by
  have hsplit : b = b.take k ++ b[k] :: b.drop (k + 1) := by rw [← List.drop_eq_getElem_cons hk, List.take_append_drop]
  have hm : b.modify k (· ^^^ bits) = b.take k ++ (b[k] ^^^ bits) :: b.drop (k + 1) := by
    rw [List.modify_eq_take_cons_drop hk]
  intro h
  unfold crcI moreI at h
  have h1 : (b.modify k (· ^^^ bits)).foldl stepI (4294967295 - 0) = b.foldl stepI (4294967295 - 0) := by omega
  rw [hm] at h1
  rw [show b.foldl stepI (4294967295 - 0) = (b.take k ++ b[k] :: b.drop (k + 1)).foldl stepI (4294967295 - 0) by rw [← hsplit]] at h1
  simp only [List.foldl_append, List.foldl_cons] at h1
  have hr := fold_b (r := 4294967295 - 0) (by decide) (b.take k)
  have := fold_l _ (stepI_b hr _) (stepI_b hr _) h1
  exact xor8_ne hb (stepI_r hr this)
theorem maskI_inj {a b : Int} (ha : 0 ≤ a ∧ a < 4294967296) (hb : 0 ≤ b ∧ b < 4294967296) (h : maskI a = maskI b) : a = b := by
  have key : ∀ s : Int, 0 ≤ s ∧ s < 4294967296 → orI (s / 32768) ((s * 131072) % 4294967296) = s / 32768 + s % 32768 * 131072 := fun s hs => by
    have e : (s * 131072) % 4294967296 = (((s % 32768).toNat * 2 ^ 17 : Nat) : Int) := by omega
    have e2 : s / 32768 = (((s / 32768).toNat : Nat) : Int) := by omega
    rw [e, e2, orI_comm, orI_shift (by show (s / 32768).toNat < 131072; omega)]
    omega
  unfold maskI at h
  rw [key a ha, key b hb] at h
  have e : a / 32768 + a % 32768 * 131072 = b / 32768 + b % 32768 * 131072 := by
    have := ha.2; have := hb.2
    omega
  have e1 : a / 32768 = b / 32768 := by omega
  have e2 : a % 32768 = b % 32768 := by omega
  omega
theorem mask_turn {b : List UInt8} {k : Nat} {bits : UInt8} (hk : k < b.length) (hb : bits ≠ 0) : maskI (crcI (b.modify k (· ^^^ bits))) ≠ maskI (crcI b) := fun h => crcI_turn hk hb (maskI_inj (crcI_b _) (crcI_b _) h)

theorem numN_inj : ∀ {a b : List UInt8}, a.length = b.length → numN a = numN b → a = b
  | [], [], _, _ => rfl
  | c :: a, d :: b, hl, h => by
    rw [numN, numN] at h
    have hc := c.toNat_lt
    have hd := d.toNat_lt
    have h1 : c.toNat = d.toNat := by omega
    have h2 : numN a = numN b := by omega
    rw [UInt8.toNat_inj.1 h1, numN_inj (by simpa using hl) h2]
  | [], _ :: _, hl, _ => by simp at hl
  | _ :: _, [], hl, _ => by simp at hl
theorem modify_ne {b : List UInt8} {k : Nat} {bits : UInt8} (hk : k < b.length) (hb : bits ≠ 0) : b.modify k (· ^^^ bits) ≠ b := by
  intro h
  have := congrArg (·[k]?) h
  simp [List.getElem?_modify, hk] at this
  exact xor8_ne hb this
theorem little_turn {b : List UInt8} {k : Nat} {bits : UInt8} (h4 : b.length = 4) (hk : k < 4) (hb : bits ≠ 0) : littleI (b.modify k (· ^^^ bits)) % 4294967296 ≠ littleI b % 4294967296 := by
  intro h
  have hl : (b.modify k (· ^^^ bits)).length = 4 := by simp [h4]
  unfold littleI at h
  rw [List.take_of_length_le (by omega), List.take_of_length_le (by omega)] at h
  have h1 := numN_lt (b.modify k (· ^^^ bits))
  have h2 := numN_lt b
  rw [hl] at h1
  rw [h4] at h2
  have h3 : (256 : Nat) ^ 4 = 4294967296 := by decide
  exact modify_ne (h4 ▸ hk) hb (numN_inj (by omega) (by omega))

/-! ### A record with a turned byte -/
theorem mod_app_l {a b : List UInt8} {k : Nat} {f : UInt8 → UInt8} (h : k < a.length) : (a ++ b).modify k f = a.modify k f ++ b := by
  apply List.ext_getElem?
  intro i
  rw [List.getElem?_modify]
  rcases Nat.lt_or_ge i a.length with h1 | h1
  · rw [List.getElem?_append_left h1, List.getElem?_append_left (by simpa using h1), List.getElem?_modify]
  · rw [List.getElem?_append_right h1, List.getElem?_append_right (by simpa using h1), List.length_modify]
    simp only [show ¬ (k = i) from by omega, if_false]; exact id_map _
theorem mod_app_r {a b : List UInt8} {k : Nat} {f : UInt8 → UInt8} : (a ++ b).modify (a.length + k) f = a ++ b.modify k f := by
  apply List.ext_getElem?
  intro i
  rw [List.getElem?_modify]
  rcases Nat.lt_or_ge i a.length with h1 | h1
  · rw [List.getElem?_append_left h1, List.getElem?_append_left h1]
    simp only [show ¬ (a.length + k = i) from by omega, if_false]; exact id_map _
  · rw [List.getElem?_append_right h1, List.getElem?_append_right h1, List.getElem?_modify]
    have e : (a.length + k = i) = (k = i - a.length) := propext ⟨fun h => by omega, fun h => by omega⟩
    simp only [e]
theorem next_of {A B C X : List UInt8} (hA : A.length = 4) (hB : B.length = 4) (hC : C.length = 4) (rest : List UInt8) (n : Nat) (hX : X.length = n) (hn : littleI A = n → True) :
    (littleI B % 4294967296 ≠ maskI (crcI A) → (nextI (A ++ (B ++ (C ++ (X ++ rest))))).2.2 = 12) ∧
    (littleI A = (n : Int) → n ≤ 1048576 → littleI B % 4294967296 = maskI (crcI A) → littleI C % 4294967296 ≠ maskI (crcI X) → (nextI (A ++ (B ++ (C ++ (X ++ rest))))).2.2 = 12) := by
  have t4 : (A ++ (B ++ (C ++ (X ++ rest)))).take 4 = A := take_app hA
  have t8 : ((A ++ (B ++ (C ++ (X ++ rest)))).take 8).drop 4 = B := by
    rw [← List.append_assoc, take_app (by rw [List.length_append, hA, hB])]
    rw [List.drop_append_of_le_length (by omega), List.drop_of_length_le (by omega), List.nil_append]
  have t12 : ((A ++ (B ++ (C ++ (X ++ rest)))).take 12).drop 8 = C := by
    rw [← List.append_assoc, ← List.append_assoc, take_app (by rw [List.length_append, List.length_append, hA, hB, hC])]
    rw [List.drop_append_of_le_length (by rw [List.length_append]; omega), List.drop_of_length_le (by rw [List.length_append]; omega), List.nil_append]
  have hlen : (A ++ (B ++ (C ++ (X ++ rest)))).length = 12 + n + rest.length := by simp only [List.length_append]; omega
  constructor
  · intro h
    unfold nextI
    rw [if_neg (by omega), t8, t4, if_pos (.inl h)]
  · intro h1 h2 h3 h4
    have tn : ((A ++ (B ++ (C ++ (X ++ rest)))).take (12 + littleI ((A ++ (B ++ (C ++ (X ++ rest)))).take 4)).toNat).drop 12 = X := by
      rw [t4, h1, ← List.append_assoc, ← List.append_assoc, ← List.append_assoc, take_app (by simp only [List.length_append]; omega)]
      rw [List.drop_append_of_le_length (by simp only [List.length_append]; omega), List.drop_of_length_le (by simp only [List.length_append]; omega), List.nil_append]
    unfold nextI
    rw [if_neg (by omega), if_neg (by rw [t8, t4, h1]; rintro (h | h); exact h h3; omega), if_neg (by rw [t4, h1]; omega), tn, t12, if_pos h4]
theorem turn_abc {A B C d : List UInt8} (hA : A.length = 4) (hB : B.length = 4) (hC : C.length = 4) (hd : d.length ≤ 1048576) (lA : littleI A = ((d.length : Nat) : Int)) (lB : littleI B % 4294967296 = maskI (crcI A)) (lC : littleI C % 4294967296 = maskI (crcI d)) {k : Nat} (hk : k < 12 + d.length) {bits : UInt8} (hb : bits ≠ 0) (rest : List UInt8) : (nextI ((A ++ (B ++ (C ++ d))).modify k (· ^^^ bits) ++ rest)).2.2 = 12 := by
  rcases Nat.lt_or_ge k 4 with h | h
  · rw [mod_app_l (by rw [hA]; exact h), List.append_assoc, List.append_assoc, List.append_assoc]
    refine (next_of (by rw [List.length_modify, hA]) hB hC rest d.length rfl (fun _ => trivial)).1 ?_
    rw [lB]
    exact (mask_turn (by rw [hA]; exact h) hb).symm
  obtain ⟨j, hj⟩ : ∃ j, k = A.length + j := ⟨k - 4, by rw [hA]; omega⟩
  rw [hj, mod_app_r]
  rw [hA] at hj
  rcases Nat.lt_or_ge j 4 with h | h
  · rw [mod_app_l (by rw [hB]; exact h), List.append_assoc, List.append_assoc, List.append_assoc]
    refine (next_of hA (by rw [List.length_modify, hB]) hC rest d.length rfl (fun _ => trivial)).1 ?_
    rw [← lB]
    exact little_turn hB h hb
  obtain ⟨i, hi⟩ : ∃ i, j = B.length + i := ⟨j - 4, by rw [hB]; omega⟩
  rw [hi, mod_app_r]
  rw [hB] at hi
  rcases Nat.lt_or_ge i 4 with h | h
  · rw [mod_app_l (by rw [hC]; exact h), List.append_assoc, List.append_assoc, List.append_assoc]
    refine (next_of hA hB (by rw [List.length_modify, hC]) rest d.length rfl (fun _ => trivial)).2 lA hd lB ?_
    rw [← lC]
    exact little_turn hC h hb
  obtain ⟨m, hm⟩ : ∃ m, i = C.length + m := ⟨i - 4, by rw [hC]; omega⟩
  rw [hm, mod_app_r]
  rw [hC] at hm
  rw [List.append_assoc, List.append_assoc, List.append_assoc]
  refine (next_of hA hB hC rest d.length (by rw [List.length_modify]) (fun _ => trivial)).2 lA hd lB ?_
  rw [lC]
  exact (mask_turn (by omega) hb).symm
theorem turn_rec {d : List UInt8} (hd : d.length ≤ 1048576) {k : Nat} (hk : k < (recB d).length) {bits : UInt8} (hb : bits ≠ 0) (rest : List UInt8) : (nextI ((recB d).modify k (· ^^^ bits) ++ rest)).2.2 = 12 := by
  have m1 := maskI_b (crcI (leI (d.length : Int) 4))
  have m2 := maskI_b (crcI d)
  rw [recB_len] at hk
  have e : recB d = leI (d.length : Int) 4 ++ (leI (maskI (crcI (leI (d.length : Int) 4))) 4 ++ (leI (maskI (crcI d)) 4 ++ d)) := by simp only [recB, List.append_assoc]
  rw [e]
  exact turn_abc (leI_len _ _) (leI_len _ _) (leI_len _ _) hd (little_le (by omega)) (by rw [little_le m1]; exact Int.emod_eq_of_lt m1.1 m1.2) (by rw [little_le m2]; exact Int.emod_eq_of_lt m2.1 m2.2) (by omega) hb rest

/-- Behind whole records comes one that is bad. -/
theorem allA_bad : ∀ (ds : List (List UInt8)) (pre t : List UInt8) (f : Nat) (out : List (List UInt8)), (∀ d ∈ ds, d.length ≤ 1048576) → t ≠ [] → (nextI t).2.2 = 12 → (pre ++ ((ds.map recB).flatten ++ t)).length ≤ pre.length + f →
    (allA f (pre ++ ((ds.map recB).flatten ++ t)) pre.length out).2.2 = 12
  | [], pre, t, f, out, _, ht, hn, hf => by
    have h0 : 0 < t.length := List.length_pos_iff.2 ht
    simp only [List.map_nil, List.flatten_nil, List.nil_append, List.length_append] at hf ⊢
    cases f with
    | zero => omega
    | succ f =>
      have hdrop : (pre ++ t).drop pre.length = t := by simp
      rw [allA, if_neg (by rw [List.length_append]; omega), hdrop, hn, if_neg (by decide), if_pos (by decide)]
  | d :: ds, pre, t, f, out, hd, ht, hn, hf => by
    have hdl := hd d (by simp)
    simp only [List.map_cons, List.flatten_cons, List.length_append, recB_len] at hf
    cases f with
    | zero => omega
    | succ f =>
      have hdrop : (pre ++ (((d :: ds).map recB).flatten ++ t)).drop pre.length = recB d ++ ((ds.map recB).flatten ++ t) := by simp
      have hnx := next_rec hdl ((ds.map recB).flatten ++ t)
      rw [allA, if_neg (by simp only [List.map_cons, List.flatten_cons, List.length_append, recB_len]; omega), hdrop, hnx]
      simp only
      rw [if_neg (by decide), if_neg (by decide)]
      have hpre : pre ++ (((d :: ds).map recB).flatten ++ t) = (pre ++ recB d) ++ ((ds.map recB).flatten ++ t) := by simp
      have hat : pre.length + ((d.length : Int) + 12).toNat = (pre ++ recB d).length := by rw [List.length_append, recB_len]; omega
      rw [hpre, hat]
      exact allA_bad ds (pre ++ recB d) t f (out ++ [d]) (fun x hx => hd x (by simp [hx])) ht hn (by simp only [List.length_append, recB_len]; omega)

/-- A byte of whole records is turned. -/
theorem recs_turn : ∀ (ds : List (List UInt8)) (k : Nat) (f : UInt8 → UInt8), k < (ds.map recB).flatten.length → ∃ (d1 : List (List UInt8)) (d : List UInt8) (d2 : List (List UInt8)) (j : Nat), ds = d1 ++ d :: d2 ∧ j < (recB d).length ∧ (ds.map recB).flatten.modify k f = (d1.map recB).flatten ++ ((recB d).modify j f ++ (d2.map recB).flatten)
  | [], k, f, h => by simp at h
  | d :: ds, k, f, h => by
    simp only [List.map_cons, List.flatten_cons] at h ⊢
    rcases Nat.lt_or_ge k (recB d).length with hk | hk
    · exact ⟨[], d, ds, k, rfl, hk, by rw [mod_app_l hk]; rfl⟩
    · obtain ⟨j, rfl⟩ : ∃ j, k = (recB d).length + j := ⟨k - (recB d).length, by omega⟩
      obtain ⟨d1, x, d2, i, e1, e2, e3⟩ := recs_turn ds j f (by rw [List.length_append] at h; omega)
      refine ⟨d :: d1, x, d2, i, by rw [e1]; rfl, e2, ?_⟩
      rw [mod_app_r, e3]
      simp
theorem part_turn {g : Int} (hg : 0 ≤ g ∧ g ≤ 67108864) {ts : List (List UInt8)} (hs : ∀ d ∈ ts, d.length ≤ 1048576) {k : Nat} (hk : k < (partB g ts).length) {bits : UInt8} (hb : bits ≠ 0) : (allI ((partB g ts).modify k (· ^^^ bits))).2.2 = 12 := by
  obtain ⟨d1, d, d2, j, e1, e2, e3⟩ := recs_turn (putI g :: ts) k (· ^^^ bits) hk
  have hall : ∀ x ∈ putI g :: ts, x.length ≤ 1048576 := fun x hx => by
    rcases List.mem_cons.1 hx with rfl | hx
    · have := putN_len64 (n := g.toNat) (by omega); unfold putI; omega
    · exact hs x hx
  rw [e1] at hall
  unfold partB allI
  rw [e3]
  have hd := hall d (by simp)
  have := allA_bad d1 [] ((recB d).modify j (· ^^^ bits) ++ (d2.map recB).flatten) ((d1.map recB).flatten ++ ((recB d).modify j (· ^^^ bits) ++ (d2.map recB).flatten)).length [] (fun x hx => hall x (by simp [hx])) (by
    intro h
    have := congrArg List.length h
    simp [recB_len] at this) (turn_rec hd e2 hb _) (by simp)
  simpa using this
end Go.Ax

namespace Go.Ax
open Go.Proofs Go.RowKit
set_option maxRecDepth 100000

theorem andI64 {a : Int} (m : Nat) (hm : m ≤ 32) : IntKind.i64.wrap ((BitVec.ofInt IntKind.i64.bits a &&& BitVec.ofInt IntKind.i64.bits ((2 ^ m - 1 : Nat) : Int)).toNat) = a % ((2 ^ m : Nat) : Int) := by
  have h2 : 2 ^ m - 1 < 2 ^ 64 := Nat.lt_of_lt_of_le (Nat.sub_lt (Nat.two_pow_pos m) Nat.one_pos) (Nat.pow_le_pow_right (by decide) (by omega))
  have hp : (2 : Nat) ^ m ≤ 2 ^ 32 := Nat.pow_le_pow_right (by decide) hm
  show IntKind.i64.wrap (((BitVec.ofInt 64 a &&& BitVec.ofInt 64 ((2 ^ m - 1 : Nat) : Int)).toNat : Nat) : Int) = _
  rw [BitVec.toNat_and, BitVec.ofInt_natCast, BitVec.toNat_ofNat, Nat.mod_eq_of_lt h2, Nat.and_two_pow_sub_one_eq_mod, BitVec.toNat_ofInt]
  have hpos : 0 < (2 : Nat) ^ m := Nat.two_pow_pos m
  have hd : ((2 ^ m : Nat) : Int) ∣ ((2 ^ 64 : Nat) : Int) := Int.natCast_dvd_natCast.2 (Nat.pow_dvd_pow 2 (by omega))
  have hnn : 0 ≤ a % ((2 ^ 64 : Nat) : Int) := Int.emod_nonneg _ (by decide)
  have e : (((a % ((2 ^ 64 : Nat) : Int)).toNat % 2 ^ m : Nat) : Int) = a % ((2 ^ m : Nat) : Int) := by
    rw [Int.natCast_emod, Int.toNat_of_nonneg hnn, Int.emod_emod_of_dvd _ hd]
  rw [e]
  have h3 := Int.emod_lt_of_pos a (b := ((2 ^ m : Nat) : Int)) (by omega)
  have h4 := Int.emod_nonneg a (b := ((2 ^ m : Nat) : Int)) (by omega)
  have h5 : ((2 ^ m : Nat) : Int) ≤ 4294967296 := by
    have : (2 : Nat) ^ 32 = 4294967296 := by decide
    omega
  exact wrap_i64 (by omega)
theorem and7 (a : Int) : IntKind.i64.wrap ((BitVec.ofInt IntKind.i64.bits a &&& BitVec.ofInt IntKind.i64.bits 7).toNat) = a % 8 := andI64 3 (by decide)
theorem rem_val {a b : Int} {B : List Box} {t : TypeId} (hb : b ≠ 0) : (binA DP .rem t (vi a) (vi b)).map (fun v => (v, B)) = some (vi (Int.tmod a b), B) := by
  show (((if b = 0 then none else some _ : Option Value)).map _).map _ = _
  rw [if_neg hb]
  rfl

def RWalParts : List AV → AV → Prop := fun args r => ∃ (parts : List (List ByteArray)) (frm : Int), args = [vl (parts.map namesE.f), vi frm] ∧ r = vb true
theorem SWalParts : SoundF DP iWalParts (.pure (relG RWalParts)) := sound_pureT mixedD Γ7_ok Δ7_ok hfWalParts heWalParts hbWalParts (by
  rintro args r ⟨parts, frm, rfl, rfl⟩
  refine ⟨rfl, rfl, _, TParts_chk parts frm parts.flatten (lateOf parts (1 + Int.tmod (frm % 8) (parts.length : Int)) parts.length) (lastG 0 (parts.map cv)) (lastG 0 (parts.map cv)), ?_⟩
  unfold TParts
  refine wp_call gHeadL_eq (wp_len (wp_sp (fun _ => wp_leaf rfl (.p _)) (fun h0 => wp_len (wp_sp (fun _ => wp_leaf rfl (.p _)) (fun h5 => ?_)))))
  have h0 : (parts.length : Int) ≠ 0 := by simpa using h0
  have h5 := of_decide_eq_false h5
  have ht1 : 0 ≤ Int.tmod (frm % 8) (parts.length : Int) := Int.tmod_nonneg _ (by omega)
  have ht2 : Int.tmod (frm % 8) (parts.length : Int) < (parts.length : Int) := Int.tmod_lt_of_pos _ (by omega)
  refine wp_callr (oNew 1048576) (wp_callr (oOpenNew rfl) (wp_int (and7 frm) (wp_len (wp_val (rem_val h0) (wp_i64 (by omega) (wp_len ?_))))))
  have hm := parts1 (parts := parts) (frm := frm) (by omega) (by omega) parts.length 0 (newD 1048576) 0 false (by omega) .new rfl (by decide) (by decide) (by simp)
  have e0 : lateOf parts (1 + Int.tmod (frm % 8) (parts.length : Int)) 0 = [] := by simp [lateOf]
  rw [e0] at hm
  rcases hm with h | ⟨D1, o1, w, hs, h⟩
  · exact wp_loop _ rfl h (wp_leaf rfl (.p _))
  · refine wp_loop' _ rfl h ?_
    clear h
    have hsm : Small (parts.map cv) := by
      intro ts hts d hd
      obtain ⟨l, hl, rfl⟩ := List.mem_map.1 hts
      obtain ⟨s, hsl, rfl⟩ := List.mem_map.1 hd
      have := (hs l hl).2 s hsl
      show s.size ≤ _
      omega
    have hfl : ∀ L : List (List ByteArray), (∀ x ∈ L, x.length ≤ 8) → L.flatten.length ≤ L.length * 8 := fun L => by
      induction L with
      | nil => intro _; simp
      | cons a l ih =>
        intro h
        have h1 := h a (by simp)
        have h2 := ih (fun x hx => h x (by simp [hx]))
        simp only [List.flatten_cons, List.length_append, List.length_cons]; omega
    have hall := hfl parts (fun x hx => (hs x hx).1)
    have elate : lateOf parts (1 + Int.tmod (frm % 8) (parts.length : Int)) parts.length = (parts.drop (Int.tmod (frm % 8) (parts.length : Int)).toNat).flatten := by
      unfold lateOf
      rw [List.take_of_length_le (Nat.le_refl _), show (1 + Int.tmod (frm % 8) (parts.length : Int) - 1) = Int.tmod (frm % 8) (parts.length : Int) by omega]
    have hlate := hfl (parts.drop (Int.tmod (frm % 8) (parts.length : Int)).toNat) (fun x hx => (hs x (List.mem_of_mem_drop hx)).1)
    rw [List.length_drop] at hlate
    rw [elate]
    have hpl : ((parts.map cv).length : Int) = (parts.length : Int) := by simp
    have c1 := fun (B : List Box) (hb : B[0]? = some (dkB D1)) => w.oOpen (B := B) (b := 0) hsm (by simp; omega) (j := 0) (by simp; omega) (n := 1) rfl hb
    have c2 := fun (B : List Box) (hb : B[0]? = some (dkB D1)) => w.oOpen (B := B) (b := 0) hsm (by simp; omega) (j := (Int.tmod (frm % 8) (parts.length : Int)).toNat) (by simp; omega) (n := 1 + Int.tmod (frm % 8) (parts.length : Int)) (by omega) hb
    simp only [List.drop_zero, flat_back, hpl, ← List.map_drop] at c1 c2
    refine wp_callr (c1 _ rfl) (wp_callr (c2 _ rfl) ?_)
    have b1 := fun (B : List Box) (k kb : Nat) (hk : B[k]? = some (nameE.bx 0 parts.flatten)) (ha : B[kb]? = some (nameE.bx 0 parts.flatten)) (hne : k ≠ kb) => oBegS (m := (parts.flatten.length : Int)) (by omega) hk ha hne
    have b2 := fun (B : List Box) (k kb : Nat) (hk : B[k]? = some (nameE.bx 0 (parts.drop (Int.tmod (frm % 8) (parts.length : Int)).toNat).flatten)) (ha : B[kb]? = some (nameE.bx 0 (parts.drop (Int.tmod (frm % 8) (parts.length : Int)).toNat).flatten)) (hne : k ≠ kb) => oBegS (m := ((parts.drop (Int.tmod (frm % 8) (parts.length : Int)).toNat).flatten.length : Int)) (by omega) hk ha hne
    simp only [begB_self] at b1 b2
    refine wp_callr (b1 _ 5 2 rfl rfl (by decide)) (wp_callr (b2 _ 7 3 rfl rfl (by decide)) ?_)
    refine wp_callr (.inl (oPart rfl rfl)) (wp_len (wp_sp (fun _ => wp_callr (.inl (oPart rfl rfl)) (wp_len (wp_sp (fun _ => wp_callr (.inl (oSizeW rfl rfl)) (wp_callr (.inl (oSizeW rfl rfl)) (wp_leaf rfl ?_))) (fun h => absurd h (by simp))))) (fun h => absurd h (by simp))))
    rw [beq_self_eq_true]
    exact .p _)
end Go.Ax
