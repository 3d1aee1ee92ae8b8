/- Trees, printed by gen/w1.py. -/
import Derived.Test.YtddkloofiknjdaaDoorG24
set_option linter.unusedVariables false
set_option linter.unusedSimpArgs false
set_option linter.unusedSectionVars false
namespace Go.Ax
open Go.Proofs Go.RowKit
set_option maxRecDepth 100000

noncomputable def ΔF1:REnv:=envR [(iPutB,liftR OPutB)]
noncomputable def ΓF1:Env:=envP [(iChkE,gChkE)]
noncomputable def ΔF2:REnv:=envR [(iBig,sealR (pureR gBigF))]

abbrev iInner:Nat:=55
noncomputable abbrev nInner:Func:=Tryd.f55
theorem hfInner:DP.funcs[iInner]? = some nInner:=by kernel_rfl
theorem heInner:enters DP iInner=true:=by kernel_rfl
theorem hbInner:nInner.body.isSome=true:=by kernel_rfl
abbrev iOuter:Nat:=46
noncomputable abbrev nOuter:Func:=Tryd.f46
theorem hfOuter:DP.funcs[iOuter]? = some nOuter:=by kernel_rfl
theorem heOuter:enters DP iOuter=true:=by kernel_rfl
theorem hbOuter:nOuter.body.isSome=true:=by kernel_rfl
abbrev iCommon:Nat:=83
noncomputable abbrev nCommon:Func:=Tryd.f83
theorem hfCommon:DP.funcs[iCommon]? = some nCommon:=by kernel_rfl
theorem heCommon:enters DP iCommon=true:=by kernel_rfl
theorem hbCommon:nCommon.body.isSome=true:=by kernel_rfl
noncomputable def TInner_l1_e (x:Ent) (s1:(List UInt8)×Int):St:=([(3,vn .u64 ((x.seq*2) % 18446744073709551616)),(4, .rs 0 0 1 0 s1.1.length),(17, .rs 1 0 1 0 x.key.data.toList.length),(18,vi ((x.key.data.toList.length:Nat):Int)),(19,vi s1.2)],[byteE.bx 0 s1.1,byteE.bx 0 x.key.data.toList])
noncomputable def TInner_l1_x (x:Ent) (x1:(List UInt8)):AE×St:=((.exit 0),([(3,vn .u64 ((x.seq*2) % 18446744073709551616)),(4, .rs 0 0 1 0 x1.length)],[byteE.bx 0 x1]))
noncomputable def TInner_l1_b (x:Ent) (s1:(List UInt8)×Int):Tree:=
.sp 20 (decide (s1.2<((x.key.data.toList.length:Nat):Int))) (
.ridx 21 x.key.data.toList.length s1.2 (.rload 22 (rowC (x.key.data.toList.map byteE.f)) (0+Int.toNat s1.2*1) byteE x.key.data.toList s1.2 0 (fun e1=> .app 26 (.row 1 ([vn .u8 (e1.toNat:Int)])) s1.1.length (rowC (s1.1.map byteE.f)) byteE s1.1 ([e1]) (.sp 28 ((e1.toNat:Int) == (0:Int)) (
.app 31 (.row 1 ([vn .u8 255])) ((s1.1++([e1])).length) (rowC ((s1.1++([e1])).map byteE.f)) byteE (s1.1++([e1])) ([255]) (.int 32 (IntKind.i64.wrap (s1.2+1)) (s1.2+1) (.leaf ⟨[3,4,17,18,19],[(0,2,some (((s1.1++([e1]))++([255])).map byteE.f)),(1,0,some (x.key.data.toList.map byteE.f))]⟩ [rowC (((s1.1++([e1]))++([255])).map byteE.f),rowC (x.key.data.toList.map byteE.f)] .normal (some (TInner_l1_e x ((s1.1++([e1]))++([255]),s1.2+1)))))) (
.int 32 (IntKind.i64.wrap (s1.2+1)) (s1.2+1) (.leaf ⟨[3,4,17,18,19],[(0,1,some ((s1.1++([e1])).map byteE.f)),(1,0,some (x.key.data.toList.map byteE.f))]⟩ [rowC ((s1.1++([e1])).map byteE.f),rowC (x.key.data.toList.map byteE.f)] .normal (some (TInner_l1_e x (s1.1++([e1]),s1.2+1))))))))) (
.leaf ⟨[3,4],[(0,0,some (s1.1.map byteE.f))]⟩ [rowC (s1.1.map byteE.f)] (.exit 0) (some (TInner_l1_x x s1.1).2))
noncomputable def TInner_l2_e (x:Ent) (s2:(List UInt8)×Int):St:=([(3,vn .u64 (orI ((x.seq*2) % 18446744073709551616) 1)),(4, .rs 0 0 1 0 s2.1.length),(17, .rs 1 0 1 0 x.key.data.toList.length),(18,vi ((x.key.data.toList.length:Nat):Int)),(19,vi s2.2)],[byteE.bx 0 s2.1,byteE.bx 0 x.key.data.toList])
noncomputable def TInner_l2_x (x:Ent) (x2:(List UInt8)):AE×St:=((.exit 0),([(3,vn .u64 (orI ((x.seq*2) % 18446744073709551616) 1)),(4, .rs 0 0 1 0 x2.length)],[byteE.bx 0 x2]))
noncomputable def TInner_l2_b (x:Ent) (s2:(List UInt8)×Int):Tree:=
.sp 20 (decide (s2.2<((x.key.data.toList.length:Nat):Int))) (
.ridx 21 x.key.data.toList.length s2.2 (.rload 22 (rowC (x.key.data.toList.map byteE.f)) (0+Int.toNat s2.2*1) byteE x.key.data.toList s2.2 0 (fun e2=> .app 26 (.row 1 ([vn .u8 (e2.toNat:Int)])) s2.1.length (rowC (s2.1.map byteE.f)) byteE s2.1 ([e2]) (.sp 28 ((e2.toNat:Int) == (0:Int)) (
.app 31 (.row 1 ([vn .u8 255])) ((s2.1++([e2])).length) (rowC ((s2.1++([e2])).map byteE.f)) byteE (s2.1++([e2])) ([255]) (.int 32 (IntKind.i64.wrap (s2.2+1)) (s2.2+1) (.leaf ⟨[3,4,17,18,19],[(0,2,some (((s2.1++([e2]))++([255])).map byteE.f)),(1,0,some (x.key.data.toList.map byteE.f))]⟩ [rowC (((s2.1++([e2]))++([255])).map byteE.f),rowC (x.key.data.toList.map byteE.f)] .normal (some (TInner_l2_e x ((s2.1++([e2]))++([255]),s2.2+1)))))) (
.int 32 (IntKind.i64.wrap (s2.2+1)) (s2.2+1) (.leaf ⟨[3,4,17,18,19],[(0,1,some ((s2.1++([e2])).map byteE.f)),(1,0,some (x.key.data.toList.map byteE.f))]⟩ [rowC ((s2.1++([e2])).map byteE.f),rowC (x.key.data.toList.map byteE.f)] .normal (some (TInner_l2_e x (s2.1++([e2]),s2.2+1))))))))) (
.leaf ⟨[3,4],[(0,0,some (s2.1.map byteE.f))]⟩ [rowC (s2.1.map byteE.f)] (.exit 0) (some (TInner_l2_x x s2.1).2))
noncomputable def TInner (x:Ent):Tree:=
.int 9 (IntKind.u64.wrap (x.seq*2 ^ 1)) ((x.seq*2) % 18446744073709551616) (.sp 11 x.del (
.sbyte 17 (.nilrow 4 1 (.loop ⟨[3,4,17,18,19],[(2,0,some (([]:List UInt8).map byteE.f)),(1,0,some (x.key.data.toList.map byteE.f))]⟩ [rowC (([]:List UInt8).map byteE.f),rowC (x.key.data.toList.map byteE.f)] (some (TInner_l1_e x (([]:List UInt8),0))) (TInner_l1_e x) (TInner_l1_x x) noX (([]:List UInt8),0) (TInner_l1_b x) (fun (x1:(List UInt8))=> .app 35 (.row 2 ([vn .u8 0,vn .u8 1])) x1.length (rowC (x1.map byteE.f)) byteE x1 ([0,1]) (.int 37 (IntKind.u64.wrap ((BitVec.ofInt IntKind.u64.bits IntKind.u64.max ^^^ BitVec.ofInt IntKind.u64.bits ((x.seq*2) % 18446744073709551616)).toNat)) (18446744073709551615 - ((x.seq*2) % 18446744073709551616)) (.callr (some 38) (ΔF1 81 [.rs 0 1 1 0 ((x1++([0,1])).length),vn .u64 (18446744073709551615 - ((x.seq*2) % 18446744073709551616)),vi 8] [byteE.bx 1 (x1++([0,1])), .cells true 0 ([vn .u8 0,vn .u8 1])] (.rs 2 0 1 0 (((x1++([0,1]))++beN (Int.toNat (18446744073709551615 - ((x.seq*2) % 18446744073709551616))) 8).length)) [byteE.bx 2 ([]:List UInt8), .cells true 0 ([vn .u8 0,vn .u8 1]),byteE.bx 0 ((x1++([0,1]))++beN (Int.toNat (18446744073709551615 - ((x.seq*2) % 18446744073709551616))) 8)]) (.rs 2 0 1 0 (((x1++([0,1]))++beN (Int.toNat (18446744073709551615 - ((x.seq*2) % 18446744073709551616))) 8).length)) [byteE.bx 2 ([]:List UInt8), .cells true 0 ([vn .u8 0,vn .u8 1]),byteE.bx 0 ((x1++([0,1]))++beN (Int.toNat (18446744073709551615 - ((x.seq*2) % 18446744073709551616))) 8)] (.bstr 39 (((x1++([0,1]))++beN (Int.toNat (18446744073709551615 - ((x.seq*2) % 18446744073709551616))) 8).length) (rowC (((x1++([0,1]))++beN (Int.toNat (18446744073709551615 - ((x.seq*2) % 18446744073709551616))) 8).map byteE.f)) ((x1++([0,1]))++beN (Int.toNat (18446744073709551615 - ((x.seq*2) % 18446744073709551616))) 8) (.leaf ⟨[0],[]⟩ [] .ret (some ([(0,vs (⟨((x1++([0,1]))++beN (Int.toNat (18446744073709551615 - ((x.seq*2) % 18446744073709551616))) 8).toArray⟩))],[]))))))) (fun _=> .stuck)))) (
.int 14 (IntKind.u64.wrap ((BitVec.ofInt IntKind.u64.bits ((x.seq*2) % 18446744073709551616) ||| BitVec.ofInt IntKind.u64.bits 1).toNat)) (orI ((x.seq*2) % 18446744073709551616) 1) (.sbyte 17 (.nilrow 4 1 (.loop ⟨[3,4,17,18,19],[(2,0,some (([]:List UInt8).map byteE.f)),(1,0,some (x.key.data.toList.map byteE.f))]⟩ [rowC (([]:List UInt8).map byteE.f),rowC (x.key.data.toList.map byteE.f)] (some (TInner_l2_e x (([]:List UInt8),0))) (TInner_l2_e x) (TInner_l2_x x) noX (([]:List UInt8),0) (TInner_l2_b x) (fun (x2:(List UInt8))=> .app 35 (.row 2 ([vn .u8 0,vn .u8 1])) x2.length (rowC (x2.map byteE.f)) byteE x2 ([0,1]) (.int 37 (IntKind.u64.wrap ((BitVec.ofInt IntKind.u64.bits IntKind.u64.max ^^^ BitVec.ofInt IntKind.u64.bits (orI ((x.seq*2) % 18446744073709551616) 1)).toNat)) (18446744073709551615 - (orI ((x.seq*2) % 18446744073709551616) 1)) (.callr (some 38) (ΔF1 81 [.rs 0 1 1 0 ((x2++([0,1])).length),vn .u64 (18446744073709551615 - (orI ((x.seq*2) % 18446744073709551616) 1)),vi 8] [byteE.bx 1 (x2++([0,1])), .cells true 0 ([vn .u8 0,vn .u8 1])] (.rs 2 0 1 0 (((x2++([0,1]))++beN (Int.toNat (18446744073709551615 - (orI ((x.seq*2) % 18446744073709551616) 1))) 8).length)) [byteE.bx 2 ([]:List UInt8), .cells true 0 ([vn .u8 0,vn .u8 1]),byteE.bx 0 ((x2++([0,1]))++beN (Int.toNat (18446744073709551615 - (orI ((x.seq*2) % 18446744073709551616) 1))) 8)]) (.rs 2 0 1 0 (((x2++([0,1]))++beN (Int.toNat (18446744073709551615 - (orI ((x.seq*2) % 18446744073709551616) 1))) 8).length)) [byteE.bx 2 ([]:List UInt8), .cells true 0 ([vn .u8 0,vn .u8 1]),byteE.bx 0 ((x2++([0,1]))++beN (Int.toNat (18446744073709551615 - (orI ((x.seq*2) % 18446744073709551616) 1))) 8)] (.bstr 39 (((x2++([0,1]))++beN (Int.toNat (18446744073709551615 - (orI ((x.seq*2) % 18446744073709551616) 1))) 8).length) (rowC (((x2++([0,1]))++beN (Int.toNat (18446744073709551615 - (orI ((x.seq*2) % 18446744073709551616) 1))) 8).map byteE.f)) ((x2++([0,1]))++beN (Int.toNat (18446744073709551615 - (orI ((x.seq*2) % 18446744073709551616) 1))) 8) (.leaf ⟨[0],[]⟩ [] .ret (some ([(0,vs (⟨((x2++([0,1]))++beN (Int.toNat (18446744073709551615 - (orI ((x.seq*2) % 18446744073709551616) 1))) 8).toArray⟩))],[]))))))) (fun _=> .stuck))))))

theorem TInner_chk (x:Ent):fnC DP Γ0 ΔF1 Tryd.f55 [(entE.av x)] [] (TInner x)=TInner x:=by kernel_rfl

noncomputable def TOuter_l1_e (s:ByteArray) (s1:(List UInt8)×Int):St:=([(0,vs s),(2, .ptr 0 0 0),(4, .rs 1 0 1 0 s1.1.length),(5,vi s1.2)],[.cells false 0 ([vs (⟨#[]⟩),vn .u64 0,vb false,vs (⟨#[]⟩)]),byteE.bx 0 s1.1])
noncomputable def TOuter_l1_x (x1:Unit):AE×St:=(.ret,([(2, .ptr 0 0 0),(3,vi 2)],[.cells false 0 ([vs (⟨#[]⟩),vn .u64 0,vb false,vs (⟨#[]⟩)])]))
noncomputable def TOuter_l1_x' (s:ByteArray) (y1:Int×(List UInt8)):AE×St:=((.exit 0),([(0,vs s),(2, .ptr 0 0 0),(4, .rs 1 0 1 0 y1.2.length),(5,vi y1.1)],[.cells false 0 ([vs (⟨#[]⟩),vn .u64 0,vb false,vs (⟨#[]⟩)]),byteE.bx 0 y1.2]))
noncomputable def TOuter_l1_b (s:ByteArray) (s1:(List UInt8)×Int):Tree:=
.sp 11 (decide (s1.2<(s.size:Int))) (
.int 16 (IntKind.i64.wrap (s1.2+2)) (s1.2+2) (.scut 20 s (some s1.2) (some (if ((s.size:Int):Int)<(s1.2+2:Int) then ((s.size:Int):Int) else (s1.2+2:Int))) (.sp 21 (!((s.extract (loN (some s1.2)) (hiN (some (if ((s.size:Int):Int)<(s1.2+2:Int) then ((s.size:Int):Int) else (s1.2+2:Int))) s.size)).toList == (⟨#[0,1]⟩:ByteArray).toList)) (
.sidx 28 s s1.2 (fun c1=> .app 30 (.row 1 ([vn .u8 (c1.toNat:Int)])) s1.1.length (rowC (s1.1.map byteE.f)) byteE s1.1 ([c1]) (.sidx 33 s s1.2 (fun c2=> .sp 34 ((c2.toNat:Int) == (0:Int)) (
.int 36 (IntKind.i64.wrap (s1.2+1)) (s1.2+1) (.sp 40 ((s1.2+1) == (s.size:Int)) (
.leaf ⟨[2,3],[(0,0,none)]⟩ [] .ret (some (TOuter_l1_x ()).2)) (
.sidx 44 s (s1.2+1) (fun c3=> .sp 45 ((c3.toNat:Int) != (255:Int)) (
.leaf ⟨[2,3],[(0,0,none)]⟩ [] .ret (some (TOuter_l1_x ()).2)) (
.int 24 (IntKind.i64.wrap ((s1.2+1)+1)) ((s1.2+1)+1) (.leaf ⟨[0,2,4,5],[(0,0,none),(1,1,some ((s1.1++([c1])).map byteE.f))]⟩ [rowC ((s1.1++([c1])).map byteE.f)] .normal (some (TOuter_l1_e s (s1.1++([c1]),(s1.2+1)+1))))))))) (
.int 24 (IntKind.i64.wrap (s1.2+1)) (s1.2+1) (.leaf ⟨[0,2,4,5],[(0,0,none),(1,1,some ((s1.1++([c1])).map byteE.f))]⟩ [rowC ((s1.1++([c1])).map byteE.f)] .normal (some (TOuter_l1_e s (s1.1++([c1]),s1.2+1))))))))) (
.leaf ⟨[0,2,4,5],[(0,0,none),(1,0,some (s1.1.map byteE.f))]⟩ [rowC (s1.1.map byteE.f)] (.exit 0) (some (TOuter_l1_x' s (s1.2,s1.1)).2))))) (
.leaf ⟨[0,2,4,5],[(0,0,none),(1,0,some (s1.1.map byteE.f))]⟩ [rowC (s1.1.map byteE.f)] (.exit 0) (some (TOuter_l1_x' s (s1.2,s1.1)).2))
noncomputable def TOuter (s:ByteArray):Tree:=
.nilrow 4 1 (.loop ⟨[0,2,4,5],[(0,0,none),(1,0,some (([]:List UInt8).map byteE.f))]⟩ [rowC (([]:List UInt8).map byteE.f)] (some (TOuter_l1_e s (([]:List UInt8),0))) (TOuter_l1_e s) (TOuter_l1_x) (TOuter_l1_x' s) (([]:List UInt8),0) (TOuter_l1_b s) (fun (x1:Unit)=> .leaf ⟨[0],[]⟩ [] .ret (some ([(0, .tup [.agg [vs (⟨#[]⟩),vn .u64 0,vb false,vs (⟨#[]⟩)],vi 2])],[]))) (fun (y1:Int×(List UInt8))=> .int 51 (IntKind.i64.wrap ((s.size:Int) - y1.1)) ((s.size:Int) - y1.1) (.sp 52 (((s.size:Int) - y1.1) != (10:Int)) (
.leaf ⟨[0],[]⟩ [] .ret (some ([(0, .tup [.agg [vs (⟨#[]⟩),vn .u64 0,vb false,vs (⟨#[]⟩)],vi 2])],[]))) (
.int 56 (IntKind.i64.wrap (y1.1+2)) (y1.1+2) (.scut 57 s (some (y1.1+2)) none (.sbyte 58 (.callr (some 59) (ΔF2 75 [.rs 2 0 1 0 ((s.extract (loN (some (y1.1+2))) (hiN none s.size)).data.toList.length)] [.cells false 0 ([vs (⟨#[]⟩),vn .u64 0,vb false,vs (⟨#[]⟩)]),byteE.bx 0 y1.2,byteE.bx 0 ((s.extract (loN (some (y1.1+2))) (hiN none s.size)).data.toList)] (vn .u64 (bigI ((s.extract (loN (some (y1.1+2))) (hiN none s.size)).data.toList))) [.cells false 0 ([vs (⟨#[]⟩),vn .u64 0,vb false,vs (⟨#[]⟩)]),byteE.bx 0 y1.2, .dead]) (vn .u64 (bigI ((s.extract (loN (some (y1.1+2))) (hiN none s.size)).data.toList))) [.cells false 0 ([vs (⟨#[]⟩),vn .u64 0,vb false,vs (⟨#[]⟩)]),byteE.bx 0 y1.2, .dead] (.int 60 (IntKind.u64.wrap ((BitVec.ofInt IntKind.u64.bits IntKind.u64.max ^^^ BitVec.ofInt IntKind.u64.bits (bigI ((s.extract (loN (some (y1.1+2))) (hiN none s.size)).data.toList))).toNat)) (18446744073709551615 - (bigI ((s.extract (loN (some (y1.1+2))) (hiN none s.size)).data.toList))) (.bstr 62 y1.2.length (rowC (y1.2.map byteE.f)) y1.2 (.int 64 (Int.fdiv (18446744073709551615 - (bigI ((s.extract (loN (some (y1.1+2))) (hiN none s.size)).data.toList))) (2 ^ 1)) ((18446744073709551615 - (bigI ((s.extract (loN (some (y1.1+2))) (hiN none s.size)).data.toList))) / 2) (.int 66 (IntKind.u64.wrap ((BitVec.ofInt IntKind.u64.bits (18446744073709551615 - (bigI ((s.extract (loN (some (y1.1+2))) (hiN none s.size)).data.toList))) &&& BitVec.ofInt IntKind.u64.bits 1).toNat)) ((18446744073709551615 - (bigI ((s.extract (loN (some (y1.1+2))) (hiN none s.size)).data.toList))) % 2) (.call 70 (gChkE [.agg [vs (⟨y1.2.toArray⟩),vn .u64 ((18446744073709551615 - (bigI ((s.extract (loN (some (y1.1+2))) (hiN none s.size)).data.toList))) / 2),vb (((18446744073709551615 - (bigI ((s.extract (loN (some (y1.1+2))) (hiN none s.size)).data.toList))) % 2) == (0:Int)),vs (⟨#[]⟩)]]=some (vi (chkE (⟨(⟨y1.2.toArray⟩:ByteArray),(18446744073709551615 - (bigI ((s.extract (loN (some (y1.1+2))) (hiN none s.size)).data.toList))) / 2,(((18446744073709551615 - (bigI ((s.extract (loN (some (y1.1+2))) (hiN none s.size)).data.toList))) % 2) == (0:Int)),(⟨#[]⟩:ByteArray)⟩:Ent)))) (vi (chkE (⟨(⟨y1.2.toArray⟩:ByteArray),(18446744073709551615 - (bigI ((s.extract (loN (some (y1.1+2))) (hiN none s.size)).data.toList))) / 2,(((18446744073709551615 - (bigI ((s.extract (loN (some (y1.1+2))) (hiN none s.size)).data.toList))) % 2) == (0:Int)),(⟨#[]⟩:ByteArray)⟩:Ent))) (.sp 71 ((chkE (⟨(⟨y1.2.toArray⟩:ByteArray),(18446744073709551615 - (bigI ((s.extract (loN (some (y1.1+2))) (hiN none s.size)).data.toList))) / 2,(((18446744073709551615 - (bigI ((s.extract (loN (some (y1.1+2))) (hiN none s.size)).data.toList))) % 2) == (0:Int)),(⟨#[]⟩:ByteArray)⟩:Ent)) != (0:Int)) (
.leaf ⟨[0],[]⟩ [] .ret (some ([(0, .tup [.agg [vs (⟨#[]⟩),vn .u64 0,vb false,vs (⟨#[]⟩)],vi 2])],[]))) (
.leaf ⟨[0],[]⟩ [] .ret (some ([(0, .tup [.agg [vs (⟨y1.2.toArray⟩),vn .u64 ((18446744073709551615 - (bigI ((s.extract (loN (some (y1.1+2))) (hiN none s.size)).data.toList))) / 2),vb (((18446744073709551615 - (bigI ((s.extract (loN (some (y1.1+2))) (hiN none s.size)).data.toList))) % 2) == (0:Int)),vs (⟨#[]⟩)],vi 0])],[]))))))))))))))))

theorem TOuter_chk (s:ByteArray):fnC DP ΓF1 ΔF2 Tryd.f46 [vs s] [] (TOuter s)=TOuter s:=by kernel_rfl

noncomputable def TCommon_l1_e (a:ByteArray) (b:ByteArray) (s1:Int):St:=([(0,vs a),(1,vs b),(5,vi s1)],[])
noncomputable def TCommon_l1_x (x1:Int):AE×St:=((.exit 0),([(5,vi x1)],[]))
noncomputable def TCommon_l1_b (a:ByteArray) (b:ByteArray) (s1:Int):Tree:=
.sp 9 (decide (s1<(a.size:Int))) (
.sp 14 (decide (s1<(b.size:Int))) (
.sidx 19 a s1 (fun c1=> .sidx 22 b s1 (fun c2=> .sp 23 ((c1.toNat:Int) == (c2.toNat:Int)) (
.int 26 (IntKind.i64.wrap (s1+1)) (s1+1) (.leaf ⟨[0,1,5],[]⟩ [] .normal (some (TCommon_l1_e a b (s1+1))))) (
.leaf ⟨[5],[]⟩ [] (.exit 0) (some (TCommon_l1_x s1).2))))) (
.leaf ⟨[5],[]⟩ [] (.exit 0) (some (TCommon_l1_x s1).2))) (
.leaf ⟨[5],[]⟩ [] (.exit 0) (some (TCommon_l1_x s1).2))
noncomputable def TCommon (a:ByteArray) (b:ByteArray):Tree:=
.loop ⟨[0,1,5],[]⟩ [] (some (TCommon_l1_e a b 0)) (TCommon_l1_e a b) (TCommon_l1_x) noX 0 (TCommon_l1_b a b) (fun (x1:Int)=> .leaf ⟨[0],[]⟩ [] .ret (some ([(0,vi x1)],[]))) (fun _=> .stuck)

theorem TCommon_chk (a:ByteArray) (b:ByteArray):fnC DP Γ0 Δ0 Tryd.f83 [vs a,vs b] [] (TCommon a b)=TCommon a b:=by kernel_rfl

end Go.Ax

namespace Go.Ax
open Go.Proofs Go.RowKit
set_option maxRecDepth 100000

theorem wp_sidx {d:Nat} {s:ByteArray} {i:Int} {k:UInt8→Tree} {K:AE→St→Prop} (c:UInt8) (h0:0≤i) (hc:s[i.toNat]? = some c) (h:(k c).wp K):(Tree.sidx d s i k).wp K:=⟨h0,c,hc,h⟩
theorem wp_scut {d:Nat} {s:ByteArray} {lo hi:Option Int} {k:Tree} {K:AE→St→Prop} (h0:cutOk lo hi s.size) (h:k.wp K):(Tree.scut d s lo hi k).wp K:=⟨h0,h⟩
theorem wp_bstr {d:Nat} {L:List UInt8} {k:Tree} {K:AE→St→Prop} (h:k.wp K):(Tree.bstr d L.length (rowC (L.map byteE.f)) L k).wp K:=⟨rfl,rfl,h⟩
theorem wp_nilrow {d n:Nat} {k:Tree} {K:AE→St→Prop} (h:k.wp K):(Tree.nilrow d n k).wp K:=h
theorem ba_get {s:ByteArray} {i:Nat} {c:UInt8} (h:s.data.toList[i]? = some c):s[i]? = some c:=by
 obtain ⟨hi,e⟩:=List.getElem?_eq_some_iff.1 h
 have hi':i<s.size:=hi
 rw[getElem?_pos s i hi',←e]
 rfl

theorem comN_nil (y:List UInt8):comN [] y=0:=by cases y <;> rfl
theorem comN_nil' (x:List UInt8):comN x []=0:=by cases x <;> rfl
theorem com_rounds (a b:ByteArray):∀ (x y:List UInt8) (i:Nat),a.data.toList.drop i=x→b.data.toList.drop i=y→a.size≤1000000000→Rounds (TCommon_l1_e a b) TCommon_l1_x noX (fun s=>(TCommon_l1_b a b s).wp) (i:Int) (.inl ((i+comN x y:Nat):Int)):=by
 intro x
 induction x with
 | nil=>
  intro y i hx hy hN
  have hi:a.size≤i:=List.drop_eq_nil_iff.1 hx
  refine .done (by intro e; cases e) ?_
  unfold TCommon_l1_b
  rw[comN_nil]
  exact wp_sp (fun h'=>absurd (of_decide_eq_true h') (by omega)) (fun _=>wp_leaf rfl ⟨rfl,rfl⟩)
 | cons c x ih=>
  intro y i hx hy hN
  have gc:a.data.toList[i]? = some c:=by rw[←List.head?_drop,hx]; rfl
  have hi:i<a.size:=(List.getElem?_eq_some_iff.1 gc).1
  have hx':a.data.toList.drop (i+1)=x:=by rw[←List.drop_drop,hx]; rfl
  cases y with
  | nil=>
   have hj:b.size≤i:=List.drop_eq_nil_iff.1 hy
   refine .done (by intro e; cases e) ?_
   unfold TCommon_l1_b
   rw[comN_nil']
   exact wp_sp (fun _=>wp_sp (fun h'=>absurd (of_decide_eq_true h') (by omega)) (fun _=>wp_leaf rfl ⟨rfl,rfl⟩)) (fun h'=>absurd (of_decide_eq_false h') (by omega))
  | cons d y=>
   have gd:b.data.toList[i]? = some d:=by rw[←List.head?_drop,hy]; rfl
   have hj:i<b.size:=(List.getElem?_eq_some_iff.1 gd).1
   have hy':b.data.toList.drop (i+1)=y:=by rw[←List.drop_drop,hy]; rfl
   have hc:a[Int.toNat (i:Int)]? = some c:=ba_get gc
   have hd:b[Int.toNat (i:Int)]? = some d:=ba_get gd
   rw[comN]
   by_cases e:c=d
   ·subst e
    rw[if_pos rfl]
    have hr:=ih y (i+1) hx' hy' hN
    rw[show i+1+comN x y=i+(comN x y+1) by omega] at hr
    refine .next ?_ hr
    unfold TCommon_l1_b
    refine wp_sp (fun _=>wp_sp (fun _=>wp_sidx c (by omega) hc (wp_sidx c (by omega) hd (wp_sp (fun _=>wp_i64 (by omega) (wp_leaf rfl ⟨rfl,?_⟩)) (fun h'=>absurd h' (by simp))))) (fun h'=>absurd (of_decide_eq_false h') (by omega))) (fun h'=>absurd (of_decide_eq_false h') (by omega))
    rfl
   ·rw[if_neg e]
    refine .done (by intro e; cases e) ?_
    unfold TCommon_l1_b
    refine wp_sp (fun _=>wp_sp (fun _=>wp_sidx c (by omega) hc (wp_sidx d (by omega) hd (wp_sp (fun h'=>absurd (beq_iff_eq.1 h') (fun h=>e (UInt8.toNat_inj.mp (by omega)))) (fun _=>wp_leaf rfl ⟨rfl,rfl⟩)))) (fun h'=>absurd (of_decide_eq_false h') (by omega))) (fun h'=>absurd (of_decide_eq_false h') (by omega))
def RCommon:List AV→AV→Prop:=fun args r=>∃ a b:ByteArray,a.size≤1000000000∧args= [vs a,vs b]∧r=vi ((comN a.data.toList b.data.toList:Nat):Int)
noncomputable def gCommon:=relG RCommon
theorem SCommon:SoundF DP iCommon (.pure gCommon):=sound_pureT mixedD Γ0_ok Δ0_ok hfCommon heCommon hbCommon (by
 rintro args r ⟨a,b,hN,rfl,rfl⟩
 refine ⟨rfl,rfl,_,TCommon_chk a b,?_⟩
 unfold TCommon
 have hr:=com_rounds a b _ _ 0 rfl rfl hN
 rw[List.drop_zero,List.drop_zero,Nat.zero_add] at hr
 exact wp_loop _ rfl hr (wp_leaf rfl (.p _)))
theorem gCommon_eq (a b:ByteArray) (h:a.size≤1000000000):gCommon [vs a,vs b]=some (vi ((comN a.data.toList b.data.toList:Nat):Int)):=relG_eq (by
 rintro args r r' ⟨a,b,_,h1,rfl⟩ ⟨a',b',_,h2,rfl⟩
 rw[h1] at h2
 simp at h2
 rw[h2.1,h2.2]) ⟨a,b,h,rfl,rfl⟩

theorem xor64 {a b:Int} (ha:0≤a∧a<18446744073709551616) (hb:0≤b∧b<18446744073709551616):IntKind.u64.wrap ((BitVec.ofInt IntKind.u64.bits a ^^^ BitVec.ofInt IntKind.u64.bits b).toNat)=xorI a b:=xorU rfl ⟨ha.1,by show a.toNat<18446744073709551616; omega⟩ ⟨hb.1,by show b.toNat<18446744073709551616; omega⟩
theorem comp64 {a:Int} (ha:0≤a∧a<18446744073709551616):IntKind.u64.wrap ((BitVec.ofInt IntKind.u64.bits IntKind.u64.max ^^^ BitVec.ofInt IntKind.u64.bits a).toNat)=18446744073709551615 - a:=by
 rw[xor64 (by decide) ha]
 obtain ⟨n,rfl⟩:=Int.eq_ofNat_of_zero_le ha.1
 unfold xorI
 have hm:(IntKind.u64.max).toNat=2 ^ 64 - 1:=by decide
 rw[hm,Int.toNat_natCast,Nat.xor_comm]
 have h1:n<2 ^ 64:=by omega
 have h2:(~~~ (BitVec.ofNat 64 n)).toNat=2 ^ 64 - 1 - n:=by
  rw[BitVec.toNat_not,BitVec.toNat_ofNat,Nat.mod_eq_of_lt h1]
 have h3:n ^^^ (2 ^ 64 - 1)=2 ^ 64 - 1 - n:=by
  rw[←h2,BitVec.toNat_not,BitVec.toNat_ofNat,Nat.mod_eq_of_lt h1]
  apply Nat.eq_of_testBit_eq
  intro i
  rw[Nat.testBit_xor,Nat.testBit_two_pow_sub_one]
  have h4:=Nat.testBit_two_pow_sub_succ (x:=n) (n:=64) h1 i
  have h5:2 ^ 64 - (n+1)=2 ^ 64 - 1 - n:=by omega
  rw[h5] at h4
  rw[h4]
  by_cases hi:i<64
  ·simp[hi]
  ·simp only[hi,decide_false,Bool.false_and,Bool.xor_false]
   exact Nat.testBit_lt_two_pow (Nat.lt_of_lt_of_le h1 (Nat.pow_le_pow_right (by decide) (by omega)))
 rw[h3]
 omega
theorem orI_even {m:Nat} (hm:m % 2=0):orI (m:Int) 1=((m+1:Nat):Int):=by
 have e:m=(m / 2)*2 ^ 1:=by omega
 have h:=orI_shift (m:=m / 2) (c:=1) (k:=1) (by decide)
 rw[←e] at h
 exact h
theorem src_u8 (c:UInt8):(ASrc.row 1 [vn .u8 (c.toNat:Int)]).ok byteE [c]:=⟨rfl,rfl⟩
theorem esc1_rounds (x:Ent):∀ (k:List UInt8) (i:Nat) (L:List UInt8),x.key.data.toList.drop i=k→L.length+2*k.length≤1000000000→i≤1000000000→x.key.data.toList.length≤1000000000→Rounds (TInner_l1_e x) (TInner_l1_x x) noX (fun s=>(TInner_l1_b x s).wp) (L,(i:Int)) (.inl (L++escL k)):=by
 intro k
 induction k with
 | nil=>
  intro i L hk hL hi hN
  have hj:x.key.data.toList.length≤i:=List.drop_eq_nil_iff.1 hk
  refine .done (by intro e; cases e) ?_
  unfold TInner_l1_b
  rw[escL,List.append_nil]
  exact wp_sp (fun h'=>absurd (of_decide_eq_true h') (by simp only; omega)) (fun _=>wp_leaf rfl ⟨rfl,rfl⟩)
 | cons c k ih=>
  intro i L hk hL hi hN
  have gc:x.key.data.toList[i]? = some c:=by rw[←List.head?_drop,hk]; rfl
  have hj:=(List.getElem?_eq_some_iff.1 gc).1
  have hk':x.key.data.toList.drop (i+1)=k:=by rw[←List.drop_drop,hk]; rfl
  simp only[List.length_cons] at hL
  have e1:((i+1:Nat):Int)=(i:Int)+1:=by omega
  rw[escL]
  by_cases hc:c=0
  ·subst hc
   rw[if_pos rfl]
   have hr:=ih (i+1) ((L++ [0])++ [255]) hk' (by simp only[List.length_append,List.length_singleton]; omega) (by omega) hN
   rw[e1,show L++ [0]++ [255]++escL k=L++0::255::escL k by simp] at hr
   refine .next ?_ hr
   unfold TInner_l1_b
   exact wp_sp (fun _=>wp_ridx (by simp only; omega) (by simp only; omega) (wp_rload 0 (by simp only; omega) rfl gc (wp_app (src_u8 0) rfl (by simp only[List.length_append,List.length_singleton]; omega) (wp_sp (fun _=>wp_app ⟨rfl,rfl⟩ rfl (by simp only[List.length_append,List.length_singleton]; omega) (wp_i64 (by simp only; omega) (wp_leaf rfl ⟨rfl,rfl⟩))) (fun h'=>absurd h' (by decide)))))) (fun h'=>absurd (of_decide_eq_false h') (by simp only; omega))
  ·rw[if_neg hc]
   have hr:=ih (i+1) (L++ [c]) hk' (by simp only[List.length_append,List.length_singleton]; omega) (by omega) hN
   rw[e1,show L++ [c]++escL k=L++c::escL k by simp] at hr
   refine .next ?_ hr
   unfold TInner_l1_b
   exact wp_sp (fun _=>wp_ridx (by simp only; omega) (by simp only; omega) (wp_rload c (by simp only; omega) rfl gc (wp_app (src_u8 c) rfl (by simp only[List.length_append,List.length_singleton]; omega) (wp_sp (fun h'=>absurd (beq_iff_eq.1 h') (fun h=>hc (UInt8.toNat_inj.mp (show c.toNat=0 by omega)))) (fun _=>wp_i64 (by simp only; omega) (wp_leaf rfl ⟨rfl,rfl⟩)))))) (fun h'=>absurd (of_decide_eq_false h') (by simp only; omega))
end Go.Ax

namespace Go.Ax
open Go.Proofs Go.RowKit
set_option maxRecDepth 100000

theorem wp_sbyte {d:Nat} {x:Tree} {K:AE→St→Prop} (h:x.wp K):(Tree.sbyte d x).wp K:=h

theorem esc2_rounds (x:Ent):∀ (k:List UInt8) (i:Nat) (L:List UInt8),x.key.data.toList.drop i=k→L.length+2*k.length≤1000000000→i≤1000000000→x.key.data.toList.length≤1000000000→Rounds (TInner_l2_e x) (TInner_l2_x x) noX (fun s=>(TInner_l2_b x s).wp) (L,(i:Int)) (.inl (L++escL k)):=by
 intro k
 induction k with
 | nil=>
  intro i L hk hL hi hN
  have hj:x.key.data.toList.length≤i:=List.drop_eq_nil_iff.1 hk
  refine .done (by intro e; cases e) ?_
  unfold TInner_l2_b
  rw[escL,List.append_nil]
  exact wp_sp (fun h'=>absurd (of_decide_eq_true h') (by simp only; omega)) (fun _=>wp_leaf rfl ⟨rfl,rfl⟩)
 | cons c k ih=>
  intro i L hk hL hi hN
  have gc:x.key.data.toList[i]? = some c:=by rw[←List.head?_drop,hk]; rfl
  have hj:=(List.getElem?_eq_some_iff.1 gc).1
  have hk':x.key.data.toList.drop (i+1)=k:=by rw[←List.drop_drop,hk]; rfl
  simp only[List.length_cons] at hL
  have e1:((i+1:Nat):Int)=(i:Int)+1:=by omega
  rw[escL]
  by_cases hc:c=0
  ·subst hc
   rw[if_pos rfl]
   have hr:=ih (i+1) ((L++ [0])++ [255]) hk' (by simp only[List.length_append,List.length_singleton]; omega) (by omega) hN
   rw[e1,show L++ [0]++ [255]++escL k=L++0::255::escL k by simp] at hr
   refine .next ?_ hr
   unfold TInner_l2_b
   exact wp_sp (fun _=>wp_ridx (by simp only; omega) (by simp only; omega) (wp_rload 0 (by simp only; omega) rfl gc (wp_app (src_u8 0) rfl (by simp only[List.length_append,List.length_singleton]; omega) (wp_sp (fun _=>wp_app ⟨rfl,rfl⟩ rfl (by simp only[List.length_append,List.length_singleton]; omega) (wp_i64 (by simp only; omega) (wp_leaf rfl ⟨rfl,rfl⟩))) (fun h'=>absurd h' (by decide)))))) (fun h'=>absurd (of_decide_eq_false h') (by simp only; omega))
  ·rw[if_neg hc]
   have hr:=ih (i+1) (L++ [c]) hk' (by simp only[List.length_append,List.length_singleton]; omega) (by omega) hN
   rw[e1,show L++ [c]++escL k=L++c::escL k by simp] at hr
   refine .next ?_ hr
   unfold TInner_l2_b
   exact wp_sp (fun _=>wp_ridx (by simp only; omega) (by simp only; omega) (wp_rload c (by simp only; omega) rfl gc (wp_app (src_u8 c) rfl (by simp only[List.length_append,List.length_singleton]; omega) (wp_sp (fun h'=>absurd (beq_iff_eq.1 h') (fun h=>hc (UInt8.toNat_inj.mp (show c.toNat=0 by omega)))) (fun _=>wp_i64 (by simp only; omega) (wp_leaf rfl ⟨rfl,rfl⟩)))))) (fun h'=>absurd (of_decide_eq_false h') (by simp only; omega))
theorem dPutB {n:Int} {L:List UInt8} {cs:Box} (hn:0≤n∧n<18446744073709551616) (hL:((L.length+8:Nat):Int)≤1000000000):
  ΔF1 81 [.rs 0 1 1 0 L.length,vn .u64 n,vi 8] [byteE.bx 1 L,cs] (.rs 2 0 1 0 (L++beN (Int.toNat n) 8).length) [byteE.bx 2 ([]:List UInt8),cs,byteE.bx 0 (L++beN (Int.toNat n) 8)]:=
 lift_row (R:=OPutB) (pre:= []) (b:=0) (v:=1) (B:= [byteE.bx 1 L,cs]) ⟨n,hn,L,hL,rfl,rfl,rfl,rfl⟩ rfl rfl rfl
def RInner:List AV→AV→Prop:=fun args r=>∃ x:Ent,(0≤x.seq∧x.seq<18446744073709551616)∧x.key.size≤400000000∧args= [entE.av x]∧r=vs ⟨(innB x).toArray⟩
noncomputable def gInner:=relG RInner
theorem ΔF1_ok:∀ f,SoundR DP f (ΔF1 f):=envR_cons (lift_sound SPutB) envR_nil
theorem inn_t {x:Ent} (hs:0≤x.seq∧x.seq<18446744073709551616) (h:x.del=true):innB x=escL x.key.data.toList++ [0,1]++beN (Int.toNat (18446744073709551615 - (x.seq*2) % 18446744073709551616)) 8:=by
 unfold innB innN
 rw[if_pos h,List.append_assoc]
 have e:18446744073709551615 - (2*x.seq.toNat % 18446744073709551616+0)=Int.toNat (18446744073709551615 - (x.seq*2) % 18446744073709551616):=by omega
 rw[e]
 rfl
theorem inn_f {x:Ent} (hs:0≤x.seq∧x.seq<18446744073709551616) (h:x.del=false):orI ((x.seq*2) % 18446744073709551616) 1=(x.seq*2) % 18446744073709551616+1∧innB x=escL x.key.data.toList++ [0,1]++beN (Int.toNat (18446744073709551615 - orI ((x.seq*2) % 18446744073709551616) 1)) 8:=by
 obtain ⟨m,hm⟩:=Int.eq_ofNat_of_zero_le hs.1
 have e0:(x.seq*2) % 18446744073709551616=((m*2 % 18446744073709551616:Nat):Int):=by omega
 have e1:orI ((x.seq*2) % 18446744073709551616) 1=(x.seq*2) % 18446744073709551616+1:=by
  rw[e0,orI_even (by omega)]
  omega
 refine ⟨e1,?_⟩
 rw[e1]
 unfold innB innN
 rw[if_neg (by rw[h]; decide),List.append_assoc]
 have e:18446744073709551615 - (2*x.seq.toNat % 18446744073709551616+1)=Int.toNat (18446744073709551615 - ((x.seq*2) % 18446744073709551616+1)):=by omega
 rw[e]
 rfl
theorem SInner:SoundF DP iInner (.pure gInner):=sound_pureT mixedD Γ0_ok ΔF1_ok hfInner heInner hbInner (by
 rintro args r ⟨x,hs,hN,rfl,rfl⟩
 refine ⟨rfl,rfl,_,TInner_chk x,?_⟩
 have hl:=esc_len x.key.data.toList
 have hz:x.key.data.toList.length≤400000000:=hN
 have hr1:=esc1_rounds x _ 0 [] (List.drop_zero) (by simp only[List.length_nil]; omega) (by decide) (by omega)
 have hr2:=esc2_rounds x _ 0 [] (List.drop_zero) (by simp only[List.length_nil]; omega) (by decide) (by omega)
 rw[List.nil_append] at hr1 hr2
 have hlen:(escL x.key.data.toList++ [0,1]).length=(escL x.key.data.toList).length+2:=by simp
 unfold TInner
 refine wp_int (by rw[wrap64]; rfl) (wp_sp (fun hd=>?_) (fun hd=>?_))
 ·have hi:=inn_t hs hd
  refine wp_sbyte (wp_nilrow (wp_loop _ rfl hr1 (wp_app ⟨rfl,rfl⟩ rfl (by rw[hlen]; omega) (wp_int (comp64 (by omega)) (wp_callr (dPutB (by omega) (by rw[hlen]; omega)) (wp_bstr (wp_leaf rfl ?_)))))))
  rw[hi]
  exact .p _
 ·obtain ⟨h1,hi⟩:=inn_f hs hd
  refine wp_int (or64 (by omega) (by decide)) (wp_sbyte (wp_nilrow (wp_loop _ rfl hr2 (wp_app ⟨rfl,rfl⟩ rfl (by rw[hlen]; omega) (wp_int (comp64 (by rw[h1]; omega)) (wp_callr (dPutB (by rw[h1]; omega) (by rw[hlen]; omega)) (wp_bstr (wp_leaf rfl ?_))))))))
  rw[hi]
  exact .p _)
theorem gInner_eq (x:Ent) (hs:0≤x.seq∧x.seq<18446744073709551616) (h:x.key.size≤400000000):gInner [entE.av x]=some (vs ⟨(innB x).toArray⟩):=relG_eq (by
 rintro args r r' ⟨a,_,_,h1,rfl⟩ ⟨b,_,_,h2,rfl⟩
 rw[ent_inj (one_arg' (h1.symm.trans h2))]) ⟨x,hs,h,rfl,rfl⟩
end Go.Ax

namespace Go.Ax
open Go.Proofs Go.RowKit
set_option maxRecDepth 100000

theorem gBigF_eq (b:List UInt8):gBigF [vl (b.map byteE.f)]=some (vn .u64 (bigI b)):=relG_eq (by
 rintro args r r' ⟨a,h1,rfl⟩ ⟨c,h2,rfl⟩
 rw[vl_inj' (one_arg (h1.symm.trans h2))]) ⟨b,rfl,rfl⟩
theorem ΓF1_ok:∀ f,SoundF DP f (ΓF1 f):=envP_cons SChkE envP_nil
theorem ΔF2_ok:∀ f,SoundR DP f (ΔF2 f):=envR_cons (SBigF.rel).shutRow envR_nil
theorem dBig {B:List Box} {k v:Nat} {b:List UInt8} (hk:B[k]? = some (byteE.bx v b)):
  ΔF2 75 [.rs k v 1 0 b.length] B (vn .u64 (bigI b)) (B.set k .dead):=⟨0,k,v,UInt8,byteE,b,hk,rfl,gBigF_eq b,rfl⟩
theorem outA_suf:∀ (k p r:List UInt8),outA k=some (p,r)→r.length≤k.length∧k.drop (k.length - r.length)=r∧p.length≤k.length
 | [],p,r,h=>by
  rw[outA] at h
  cases h
  exact ⟨Nat.le_refl _,rfl,Nat.le_refl _⟩
 | [c],p,r,h=>by
  rw[outA] at h
  split at h
  ·cases h
  ·cases h
   exact ⟨by simp,rfl,by simp⟩
 | c::d::k,p,r,h=>by
  rw[outA] at h
  split at h
  ·split at h
   ·cases h
    exact ⟨Nat.le_refl _,by simp,by simp⟩
   ·split at h
    ·cases h1:outA k with
     | none=>rw[h1] at h; cases h
     | some q=>
      rw[h1] at h
      cases h
      obtain ⟨g1,g2,g3⟩:=outA_suf k q.1 q.2 h1
      refine ⟨by simp only[List.length_cons]; omega,?_,by simp only[List.length_cons]; omega⟩
      have e:(c::d::k).length - q.2.length=(k.length - q.2.length)+2:=by simp only[List.length_cons]; omega
      rw[e,List.drop_succ_cons,List.drop_succ_cons,g2]
    ·cases h
  ·cases h1:outA (d::k) with
   | none=>rw[h1] at h; cases h
   | some q=>
    rw[h1] at h
    cases h
    obtain ⟨g1,g2,g3⟩:=outA_suf (d::k) q.1 q.2 h1
    refine ⟨by simp only[List.length_cons] at g1 ⊢; omega,?_,by simp only[List.length_cons] at g3 ⊢; omega⟩
    have e:(c::d::k).length - q.2.length=((d::k).length - q.2.length)+1:=by simp only[List.length_cons] at g1 ⊢; omega
    rw[e,List.drop_succ_cons,g2]
theorem cut2 {s:ByteArray} {i:Nat} {k:List UInt8} (hk:s.data.toList.drop i=k) (hl:i+k.length=s.size):
  (s.extract (loN (some (i:Int))) (hiN (some (if ((s.size:Int):Int)<((i:Int)+2:Int) then ((s.size:Int):Int) else ((i:Int)+2:Int))) s.size)).toList=k.take 2:=by
 rw[ByteArray.toList_eq,ByteArray.data_extract,Array.toList_extract,List.extract_eq_take_drop]
 show List.take (_ - Int.toNat (i:Int)) (s.data.toList.drop (Int.toNat (i:Int)))=_
 rw[Int.toNat_natCast,hk]
 show List.take (Int.toNat (if ((s.size:Int):Int)<((i:Int)+2:Int) then ((s.size:Int):Int) else ((i:Int)+2:Int)) - i) k=_
 split
 ·rw[List.take_of_length_le (by omega),List.take_of_length_le (by omega)]
 ·rw[show Int.toNat ((i:Int)+2) - i=2 by omega]
theorem l01:(⟨#[0,1]⟩:ByteArray).toList= [0,1]:=by rw[ByteArray.toList_eq]
def outX (s:ByteArray) (L:List UInt8):Option (List UInt8×List UInt8)→Unit ⊕ (Int×List UInt8)
 | none=> .inl ()
 | some (p,r)=> .inr ((s.size:Int) - r.length,L++p)
theorem out_rounds (s:ByteArray) (hN:s.size≤1000000000):∀ (n:Nat) (k:List UInt8) (i:Nat) (L:List UInt8),k.length≤n→s.data.toList.drop i=k→i+k.length=s.size→L.length≤i→Rounds (TOuter_l1_e s) TOuter_l1_x (TOuter_l1_x' s) (fun z=>(TOuter_l1_b s z).wp) (L,(i:Int)) (outX s L (outA k)):=by
 intro n
 have stop:∀ (k:List UInt8) (i:Nat) (L:List UInt8),i+k.length=s.size→outX s L (some ([],k))= .inr ((i:Int),L):=fun k i L hl=>by
  show Sum.inr ((s.size:Int) - k.length,L++ [])=_
  rw[List.append_nil,show (s.size:Int) - k.length=(i:Int) by omega]
 induction n with
 | zero=>
  intro k i L hn hk hl hL
  have:k= []:=List.eq_nil_of_length_eq_zero (by omega)
  subst this
  rw[outA,stop [] i L hl]
  simp only[List.length_nil] at hl
  refine .done' (by intro e; cases e) ?_
  unfold TOuter_l1_b
  exact wp_sp (fun h'=>absurd (of_decide_eq_true h') (by simp only; omega)) (fun _=>wp_leaf rfl ⟨rfl,rfl⟩)
 | succ n ih=>
  intro k i L hn hk hl hL
  cases k with
  | nil=>
   rw[outA,stop [] i L hl]
   simp only[List.length_nil] at hl
   refine .done' (by intro e; cases e) ?_
   unfold TOuter_l1_b
   exact wp_sp (fun h'=>absurd (of_decide_eq_true h') (by simp only; omega)) (fun _=>wp_leaf rfl ⟨rfl,rfl⟩)
  | cons c k=>
   have gc:s[Int.toNat (i:Int)]? = some c:=ba_get (by rw[Int.toNat_natCast,←List.head?_drop,hk]; rfl)
   have hk':s.data.toList.drop (i+1)=k:=by rw[←List.drop_drop,hk]; rfl
   have e1:((i+1:Nat):Int)=(i:Int)+1:=by omega
   have hc2:=cut2 hk hl
   simp only[List.length_cons] at hl hn
   have hok:cutOk (some (i:Int)) (some (if ((s.size:Int):Int)<((i:Int)+2:Int) then ((s.size:Int):Int) else ((i:Int)+2:Int))) s.size:=by simp only[cutOk]; split <;> omega
   have hin:(decide ((i:Int)<(s.size:Int)))=false→False:=fun h'=>absurd (of_decide_eq_false h') (by omega)
   have hz:((c.toNat:Int) == (0:Int))=decide (c=0):=by
    by_cases h:c=0
    ·subst h; rfl
    ·rw[decide_eq_false h,beq_eq_false_iff_ne]
     exact fun e=>h (UInt8.toNat_inj.mp (show c.toNat=0 by omega))
   by_cases h01:(c::k).take 2= [0,1]
   ·-- the end of the name
    have:∃ k',c=0∧k=1::k':=by
     cases k with
     | nil=>simp at h01
     | cons d k'=>simp at h01; exact ⟨k',h01.1,by rw[h01.2]⟩
    obtain ⟨k',rfl,rfl⟩:=this
    rw[show outA (0::1::k')=some ([],0::1::k') by rw[outA]; rfl,stop (0::1::k') i L (by simp only[List.length_cons] at hl ⊢; omega)]
    refine .done' (by intro e; cases e) ?_
    unfold TOuter_l1_b
    exact wp_sp (fun _=>wp_i64 (by simp only; omega) (wp_scut hok (wp_sp (fun h'=>by rw[hc2,l01,h01] at h'; cases h') (fun _=>wp_leaf rfl ⟨rfl,rfl⟩)))) (fun h'=>(hin h').elim)
   ·have hgo:(!((s.extract (loN (some (i:Int))) (hiN (some (if ((s.size:Int):Int)<((i:Int)+2:Int) then ((s.size:Int):Int) else ((i:Int)+2:Int))) s.size)).toList == (⟨#[0,1]⟩:ByteArray).toList))=false→False:=fun h'=>by
     rw[hc2,l01] at h'
     simp only[Bool.not_eq_false',beq_iff_eq] at h'
     exact h01 h'
    have hlen:(((L++ [c]).length:Nat):Int)≤1000000000:=by simp only[List.length_append,List.length_singleton]; omega
    by_cases h0:c=0
    ·subst h0
     cases k with
     | nil=>
      rw[show outA [0]=none from rfl]
      refine .done (by intro e; cases e) ?_
      simp only[List.length_nil] at hl
      unfold TOuter_l1_b
      exact wp_sp (fun _=>wp_i64 (by simp only; omega) (wp_scut hok (wp_sp (fun _=>wp_sidx 0 (by simp only; omega) gc (wp_app (src_u8 0) rfl hlen (wp_sidx 0 (by simp only; omega) gc (wp_sp (fun _=>wp_i64 (by simp only; omega) (wp_sp (fun _=>wp_leaf rfl ⟨rfl,rfl⟩) (fun h'=>absurd (beq_eq_false_iff_ne.1 h') (fun g=>g (by simp only; omega))))) (fun h'=>absurd h' (by decide)))))) (fun h'=>(hgo h').elim)))) (fun h'=>(hin h').elim)
     | cons d k=>
      have hd1:d≠1:=fun e=>h01 (by rw[e]; rfl)
      have gd:s[Int.toNat ((i:Int)+1)]? = some d:=ba_get (by rw[show Int.toNat ((i:Int)+1)=i+1 by omega,←List.head?_drop,hk']; rfl)
      simp only[List.length_cons] at hl hn
      by_cases h255:d=255
      ·subst h255
       have hk2:s.data.toList.drop (i+2)=k:=by rw[show i+2=(i+1)+1 by omega,←List.drop_drop,hk']; rfl
       have hr:=ih k (i+2) (L++ [0]) (by omega) hk2 (by omega) (by simp only[List.length_append,List.length_singleton]; omega)
       have eo:outX s (L++ [0]) (outA k)=outX s L (outA (0::255::k)):=by
        rw[outA]
        simp only[if_true]
        rw[if_neg (by decide)]
        cases outA k with
        | none=>rfl
        | some q=>show Sum.inr _=Sum.inr _; simp
       rw[eo,show ((i+2:Nat):Int)=(i:Int)+1+1 by omega] at hr
       refine .next ?_ hr
       unfold TOuter_l1_b
       exact wp_sp (fun _=>wp_i64 (by simp only; omega) (wp_scut hok (wp_sp (fun _=>wp_sidx 0 (by simp only; omega) gc (wp_app (src_u8 0) rfl hlen (wp_sidx 0 (by simp only; omega) gc (wp_sp (fun _=>wp_i64 (by simp only; omega) (wp_sp (fun h'=>absurd (beq_iff_eq.1 h') (by simp only; omega)) (fun _=>wp_sidx 255 (by simp only; omega) gd (wp_sp (fun h'=>absurd h' (by decide)) (fun _=>wp_i64 (by simp only; omega) (wp_leaf rfl ⟨rfl,rfl⟩)))))) (fun h'=>absurd h' (by decide)))))) (fun h'=>(hgo h').elim)))) (fun h'=>(hin h').elim)
      ·rw[show outA (0::d::k)=none by rw[outA]; simp only[if_true]; rw[if_neg hd1,if_neg h255]]
       refine .done (by intro e; cases e) ?_
       unfold TOuter_l1_b
       exact wp_sp (fun _=>wp_i64 (by simp only; omega) (wp_scut hok (wp_sp (fun _=>wp_sidx 0 (by simp only; omega) gc (wp_app (src_u8 0) rfl hlen (wp_sidx 0 (by simp only; omega) gc (wp_sp (fun _=>wp_i64 (by simp only; omega) (wp_sp (fun h'=>absurd (beq_iff_eq.1 h') (by simp only; omega)) (fun _=>wp_sidx d (by simp only; omega) gd (wp_sp (fun _=>wp_leaf rfl ⟨rfl,rfl⟩) (fun h'=>absurd h' (fun g=>h255 (UInt8.toNat_inj.mp (show d.toNat=255 by simp only[bne_eq_false_iff_eq] at g; omega)))))))) (fun h'=>absurd h' (by decide)))))) (fun h'=>(hgo h').elim)))) (fun h'=>(hin h').elim)
    ·have hr:=ih k (i+1) (L++ [c]) (by omega) hk' (by omega) (by simp only[List.length_append,List.length_singleton]; omega)
     have eo:outX s (L++ [c]) (outA k)=outX s L (outA (c::k)):=by
      have:outA (c::k)=(outA k).map fun p=>(c::p.1,p.2):=by
       cases k with
       | nil=>show (if c=0 then none else some ([c],[]))=_; rw[if_neg h0]; rfl
       | cons d k=>rw[outA,if_neg h0]
      rw[this]
      cases outA k with
      | none=>rfl
      | some q=>show Sum.inr _=Sum.inr _; simp
     rw[eo,e1] at hr
     refine .next ?_ hr
     unfold TOuter_l1_b
     exact wp_sp (fun _=>wp_i64 (by simp only; omega) (wp_scut hok (wp_sp (fun _=>wp_sidx c (by simp only; omega) gc (wp_app (src_u8 c) rfl hlen (wp_sidx c (by simp only; omega) gc (wp_sp (fun h'=>absurd h' (by rw[hz,decide_eq_true_eq]; exact h0)) (fun _=>wp_i64 (by simp only; omega) (wp_leaf rfl ⟨rfl,rfl⟩)))))) (fun h'=>(hgo h').elim)))) (fun h'=>(hin h').elim)
end Go.Ax
