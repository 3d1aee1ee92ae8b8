/- Trees, printed by gen/w1.py. -/
import Derived.Test.YtjlipmcdnigfcaaDoorG42
set_option linter.unusedVariables false
set_option linter.unusedSimpArgs false
set_option linter.unusedSectionVars false
namespace Go.Ax
open Go.Proofs Go.RowKit
set_option maxRecDepth 100000

noncomputable def ΓD:Env:=envP [(32,gLChk)]

abbrev iLApply:Nat:=35
noncomputable abbrev nLApply:Func:=Tryd.f35
theorem hfLApply:DP.funcs[iLApply]? = some nLApply:=by kernel_rfl
theorem heLApply:enters DP iLApply=true:=by kernel_rfl
theorem hbLApply:nLApply.body.isSome=true:=by kernel_rfl
noncomputable def TLAp_j1_e (v:Vers) (e:Edt) (j1:Int):St:=([(2, .ptr 0 0 0),(3, .ptr 1 0 0),(4, .ptr 2 0 0),(6, .ptr 3 0 0)],[veB v,edB e, .cells false 0 ([nilS,vi 0,vi 0,vn .u64 0]), .cells false 0 ([nilS,vi j1,vi v.next,vn .u64 v.seq])])
noncomputable def TLAp_j2_e (v:Vers) (e:Edt) (j1:Int) (j2:Int):St:=([(2, .ptr 0 0 0),(3, .ptr 1 0 0),(4, .ptr 2 0 0),(6, .ptr 3 0 0)],[veB v,edB e, .cells false 0 ([nilS,vi 0,vi 0,vn .u64 0]), .cells false 0 ([nilS,vi j1,vi j2,vn .u64 v.seq])])
noncomputable def TLAp_j3_e (v:Vers) (e:Edt) (j1:Int) (j2:Int) (j3:Int):St:=([(2, .ptr 0 0 0),(3, .ptr 1 0 0),(4, .ptr 2 0 0),(6, .ptr 3 0 0)],[veB v,edB e, .cells false 0 ([nilS,vi 0,vi 0,vn .u64 0]), .cells false 0 ([nilS,vi j1,vi j2,vn .u64 j3])])
noncomputable def TLAp_l4_e (v:Vers) (e:Edt) (j1:Int) (j2:Int) (j3:Int) (s4:(List Meta)×Int×Int):St:=([(2, .ptr 0 0 0),(3, .ptr 1 0 0),(4, .ptr 2 0 0),(6, .ptr 3 0 0),(7,vi s4.2.2),(44,vl (v.files.map metaE.f)),(45,vi (v.files.length:Int)),(46,vi s4.2.1)],[veB v,edB e, .cells false 0 ([nilS,vi 0,vi 0,vn .u64 0]), .cells false 0 ([.rs 4 0 5 0 s4.1.length,vi j1,vi j2,vn .u64 j3]),metaE.bx 0 s4.1])
noncomputable def TLAp_l4_x (v:Vers) (e:Edt) (j1:Int) (j2:Int) (j3:Int) (x4:Int×(List Meta)):AE×St:=((.exit 0),([(2, .ptr 0 0 0),(3, .ptr 1 0 0),(4, .ptr 2 0 0),(6, .ptr 3 0 0),(7,vi x4.1)],[veB v,edB e, .cells false 0 ([nilS,vi 0,vi 0,vn .u64 0]), .cells false 0 ([.rs 4 0 5 0 x4.2.length,vi j1,vi j2,vn .u64 j3]),metaE.bx 0 x4.2]))
noncomputable def TLAp_l5_e (v:Vers) (e:Edt) (j1:Int) (j2:Int) (j3:Int) (s4:(List Meta)×Int×Int) (e1:Meta) (s5:Bool×Int):St:=([(2, .ptr 0 0 0),(3, .ptr 1 0 0),(4, .ptr 2 0 0),(6, .ptr 3 0 0),(7,vi s4.2.2),(9, .ptr 4 0 0),(10,vb s5.1),(44,vl (v.files.map metaE.f)),(45,vi (v.files.length:Int)),(46,vi s4.2.1),(51,vl (e.del.map intE.f)),(52,vi (e.del.length:Int)),(53,vi s5.2)],[veB v,edB e, .cells false 0 ([nilS,vi 0,vi 0,vn .u64 0]), .cells false 0 ([.rs 5 0 5 0 s4.1.length,vi j1,vi j2,vn .u64 j3]), .cells false 0 ([vi e1.num,vi e1.level,vs e1.low,vs e1.high,vi e1.size]),metaE.bx 0 s4.1])
noncomputable def TLAp_l5_x (v:Vers) (e:Edt) (j1:Int) (j2:Int) (j3:Int) (s4:(List Meta)×Int×Int) (e1:Meta) (x5:Bool):AE×St:=((.exit 2),([(2, .ptr 0 0 0),(3, .ptr 1 0 0),(4, .ptr 2 0 0),(6, .ptr 3 0 0),(7,vi s4.2.2),(9, .ptr 4 0 0),(10,vb x5),(44,vl (v.files.map metaE.f)),(45,vi (v.files.length:Int)),(46,vi s4.2.1)],[veB v,edB e, .cells false 0 ([nilS,vi 0,vi 0,vn .u64 0]), .cells false 0 ([.rs 5 0 5 0 s4.1.length,vi j1,vi j2,vn .u64 j3]), .cells false 0 ([vi e1.num,vi e1.level,vs e1.low,vs e1.high,vi e1.size]),metaE.bx 0 s4.1]))
noncomputable def TLAp_l5_b (v:Vers) (e:Edt) (j1:Int) (j2:Int) (j3:Int) (s4:(List Meta)×Int×Int) (e1:Meta) (s5:Bool×Int):Tree:=
.sp 54 (decide (s5.2<(e.del.length:Int))) (
.elem 55 (e.del.map intE.f) intE e.del s5.2 (fun e2=> .sp 57 s5.1 (
.int 64 (IntKind.i64.wrap (s5.2+1)) (s5.2+1) (.leaf ⟨[2,3,4,6,7,9,10,44,45,46,51,52,53],[(0,0,none),(1,0,none),(2,0,none),(3,0,none),(4,0,none),(5,0,some (s4.1.map metaE.f))]⟩ [rowC (s4.1.map metaE.f)] .normal (some (TLAp_l5_e v e j1 j2 j3 s4 e1 (true,s5.2+1))))) (
.sp 62 (e2 == e1.num) (
.int 64 (IntKind.i64.wrap (s5.2+1)) (s5.2+1) (.leaf ⟨[2,3,4,6,7,9,10,44,45,46,51,52,53],[(0,0,none),(1,0,none),(2,0,none),(3,0,none),(4,0,none),(5,0,some (s4.1.map metaE.f))]⟩ [rowC (s4.1.map metaE.f)] .normal (some (TLAp_l5_e v e j1 j2 j3 s4 e1 (true,s5.2+1))))) (
.int 64 (IntKind.i64.wrap (s5.2+1)) (s5.2+1) (.leaf ⟨[2,3,4,6,7,9,10,44,45,46,51,52,53],[(0,0,none),(1,0,none),(2,0,none),(3,0,none),(4,0,none),(5,0,some (s4.1.map metaE.f))]⟩ [rowC (s4.1.map metaE.f)] .normal (some (TLAp_l5_e v e j1 j2 j3 s4 e1 (false,s5.2+1)))))))) (
.leaf ⟨[2,3,4,6,7,9,10,44,45,46],[(0,0,none),(1,0,none),(2,0,none),(3,0,none),(4,0,none),(5,0,some (s4.1.map metaE.f))]⟩ [rowC (s4.1.map metaE.f)] (.exit 2) (some (TLAp_l5_x v e j1 j2 j3 s4 e1 s5.1).2))
noncomputable def TLAp_l4_b (v:Vers) (e:Edt) (j1:Int) (j2:Int) (j3:Int) (s4:(List Meta)×Int×Int):Tree:=
.sp 47 (decide (s4.2.1<(v.files.length:Int))) (
.elem 48 (v.files.map metaE.f) metaE v.files s4.2.1 (fun e1=> .int 52 ((e.del.map intE.f).length:Int) (e.del.length:Int) (.loop ⟨[2,3,4,6,7,9,10,44,45,46,51,52,53],[(0,0,none),(1,0,none),(2,0,none),(3,0,none),(5,0,none),(4,0,some (s4.1.map metaE.f))]⟩ [rowC (s4.1.map metaE.f)] (some (TLAp_l5_e v e j1 j2 j3 s4 e1 (false,0))) (TLAp_l5_e v e j1 j2 j3 s4 e1) (TLAp_l5_x v e j1 j2 j3 s4 e1) noX (false,0) (TLAp_l5_b v e j1 j2 j3 s4 e1) (fun (x5:Bool)=> .sp 65 x5 (
.int 67 (IntKind.i64.wrap (s4.2.2+1)) (s4.2.2+1) (.int 74 (IntKind.i64.wrap (s4.2.1+1)) (s4.2.1+1) (.leaf ⟨[2,3,4,6,7,44,45,46],[(0,0,none),(1,0,none),(2,0,none),(3,0,none),(5,0,some (s4.1.map metaE.f))]⟩ [rowC (s4.1.map metaE.f)] .normal (some (TLAp_l4_e v e j1 j2 j3 (s4.1,s4.2.1+1,s4.2.2+1)))))) (
.app 72 (.row 1 ([vi e1.num,vi e1.level,vs e1.low,vs e1.high,vi e1.size])) s4.1.length (rowC (s4.1.map metaE.f)) metaE s4.1 ([e1]) (.int 74 (IntKind.i64.wrap (s4.2.1+1)) (s4.2.1+1) (.leaf ⟨[2,3,4,6,7,44,45,46],[(0,0,none),(1,0,none),(2,0,none),(3,0,none),(5,1,some ((s4.1++([e1])).map metaE.f))]⟩ [rowC ((s4.1++([e1])).map metaE.f)] .normal (some (TLAp_l4_e v e j1 j2 j3 (s4.1++([e1]),s4.2.1+1,s4.2.2))))))) (fun _=> .stuck)))) (
.leaf ⟨[2,3,4,6,7],[(0,0,none),(1,0,none),(2,0,none),(3,0,none),(4,0,some (s4.1.map metaE.f))]⟩ [rowC (s4.1.map metaE.f)] (.exit 0) (some (TLAp_l4_x v e j1 j2 j3 (s4.2.2,s4.1)).2))
noncomputable def TLAp_j6_e (e:Edt) (j1:Int) (j2:Int) (j3:Int) (x4:Int×(List Meta)) (j6:Bool):St:=([(3, .ptr 0 0 0),(4, .ptr 1 0 0),(6, .ptr 2 0 0),(100,vb j6)],[edB e, .cells false 0 ([nilS,vi 0,vi 0,vn .u64 0]), .cells false 0 ([.rs 3 0 5 0 x4.2.length,vi j1,vi j2,vn .u64 j3]),metaE.bx 0 x4.2])
noncomputable def TLAp_l7_e (e:Edt) (j1:Int) (j2:Int) (j3:Int) (s7:(List Meta)×Int):St:=([(4, .ptr 0 0 0),(6, .ptr 1 0 0),(103,vl (e.add.map metaE.f)),(104,vi (e.add.length:Int)),(105,vi s7.2)],[.cells false 0 ([nilS,vi 0,vi 0,vn .u64 0]), .cells false 0 ([.rs 2 0 5 0 s7.1.length,vi j1,vi j2,vn .u64 j3]),metaE.bx 0 s7.1])
noncomputable def TLAp_l7_x (j1:Int) (j2:Int) (j3:Int) (x7:(List Meta)):AE×St:=((.exit 4),([(4, .ptr 0 0 0),(6, .ptr 1 0 0)],[.cells false 0 ([nilS,vi 0,vi 0,vn .u64 0]), .cells false 0 ([.rs 2 0 5 0 x7.length,vi j1,vi j2,vn .u64 j3]),metaE.bx 0 x7]))
noncomputable def TLAp_l8_e (e:Edt) (j1:Int) (j2:Int) (j3:Int) (s7:(List Meta)×Int) (e3:Meta) (s8:Int):St:=([(4, .ptr 0 0 0),(6, .ptr 1 0 0),(14, .ptr 2 0 0),(15,vi s8),(103,vl (e.add.map metaE.f)),(104,vi (e.add.length:Int)),(105,vi s7.2)],[.cells false 0 ([nilS,vi 0,vi 0,vn .u64 0]), .cells false 0 ([.rs 3 0 5 0 s7.1.length,vi j1,vi j2,vn .u64 j3]), .cells false 0 ([vi e3.num,vi e3.level,vs e3.low,vs e3.high,vi e3.size]),metaE.bx 0 s7.1])
noncomputable def TLAp_l8_x (e:Edt) (j1:Int) (j2:Int) (j3:Int) (s7:(List Meta)×Int) (e3:Meta) (x8:Int):AE×St:=((.exit 6),([(4, .ptr 0 0 0),(6, .ptr 1 0 0),(14, .ptr 2 0 0),(15,vi x8),(103,vl (e.add.map metaE.f)),(104,vi (e.add.length:Int)),(105,vi s7.2)],[.cells false 0 ([nilS,vi 0,vi 0,vn .u64 0]), .cells false 0 ([.rs 3 0 5 0 s7.1.length,vi j1,vi j2,vn .u64 j3]), .cells false 0 ([vi e3.num,vi e3.level,vs e3.low,vs e3.high,vi e3.size]),metaE.bx 0 s7.1]))
noncomputable def TLAp_l8_b (e:Edt) (j1:Int) (j2:Int) (j3:Int) (s7:(List Meta)×Int) (e3:Meta) (s8:Int):Tree:=
.sp 113 (decide (s8<((s7.1.length:Nat):Int))) (
.ridx 118 s7.1.length s8 (.rload 120 (rowC (s7.1.map metaE.f)) (0+Int.toNat s8*5+0) metaE s7.1 s8 0 (fun e4=> .sp 123 (decide (e4.num≤e3.num)) (
.int 126 (IntKind.i64.wrap (s8+1)) (s8+1) (.leaf ⟨[4,6,14,15,103,104,105],[(0,0,none),(1,0,none),(2,0,none),(3,0,some (s7.1.map metaE.f))]⟩ [rowC (s7.1.map metaE.f)] .normal (some (TLAp_l8_e e j1 j2 j3 s7 e3 (s8+1))))) (
.leaf ⟨[4,6,14,15,103,104,105],[(0,0,none),(1,0,none),(2,0,none),(3,0,some (s7.1.map metaE.f))]⟩ [rowC (s7.1.map metaE.f)] (.exit 6) (some (TLAp_l8_x e j1 j2 j3 s7 e3 s8).2))))) (
.leaf ⟨[4,6,14,15,103,104,105],[(0,0,none),(1,0,none),(2,0,none),(3,0,some (s7.1.map metaE.f))]⟩ [rowC (s7.1.map metaE.f)] (.exit 6) (some (TLAp_l8_x e j1 j2 j3 s7 e3 s8).2))
noncomputable def TLAp_l7_b (e:Edt) (j1:Int) (j2:Int) (j3:Int) (s7:(List Meta)×Int):Tree:=
.sp 106 (decide (s7.2<(e.add.length:Int))) (
.elem 107 (e.add.map metaE.f) metaE e.add s7.2 (fun e3=> .loop ⟨[4,6,14,15,103,104,105],[(0,0,none),(1,0,none),(3,0,none),(2,0,some (s7.1.map metaE.f))]⟩ [rowC (s7.1.map metaE.f)] (some (TLAp_l8_e e j1 j2 j3 s7 e3 0)) (TLAp_l8_e e j1 j2 j3 s7 e3) (TLAp_l8_x e j1 j2 j3 s7 e3) noX 0 (TLAp_l8_b e j1 j2 j3 s7 e3) (fun (x8:Int)=> .rcut 131 s7.1.length none (some x8) (.app 132 (.part (0+loN none*5) (hiN (some x8) s7.1.length - loN none) (rowC (s7.1.map metaE.f))) 0 ([]) metaE ([]:List Meta) (cutL none (some x8) s7.1) (.app 136 (.row 1 ([vi e3.num,vi e3.level,vs e3.low,vs e3.high,vi e3.size])) ((([]:List Meta)++(cutL none (some x8) s7.1)).length) (rowC ((([]:List Meta)++(cutL none (some x8) s7.1)).map metaE.f)) metaE (([]:List Meta)++(cutL none (some x8) s7.1)) ([e3]) (.rcut 141 s7.1.length (some x8) none (.app 142 (.part (0+loN (some x8)*5) (hiN none s7.1.length - loN (some x8)) (rowC (s7.1.map metaE.f))) (((([]:List Meta)++(cutL none (some x8) s7.1))++([e3])).length) (rowC (((([]:List Meta)++(cutL none (some x8) s7.1))++([e3])).map metaE.f)) metaE ((([]:List Meta)++(cutL none (some x8) s7.1))++([e3])) (cutL (some x8) none s7.1) (.int 144 (IntKind.i64.wrap (s7.2+1)) (s7.2+1) (.leaf ⟨[4,6,103,104,105],[(0,0,none),(1,0,none),(4,3,some ((((([]:List Meta)++(cutL none (some x8) s7.1))++([e3]))++(cutL (some x8) none s7.1)).map metaE.f))]⟩ [rowC ((((([]:List Meta)++(cutL none (some x8) s7.1))++([e3]))++(cutL (some x8) none s7.1)).map metaE.f)] .normal (some (TLAp_l7_e e j1 j2 j3 (((([]:List Meta)++(cutL none (some x8) s7.1))++([e3]))++(cutL (some x8) none s7.1),s7.2+1)))))))))) (fun _=> .stuck))) (
.leaf ⟨[4,6],[(0,0,none),(1,0,none),(2,0,some (s7.1.map metaE.f))]⟩ [rowC (s7.1.map metaE.f)] (.exit 4) (some (TLAp_l7_x j1 j2 j3 s7.1).2))
noncomputable def TLAp_j6 (e:Edt) (j1:Int) (j2:Int) (j3:Int) (x4:Int×(List Meta)) (j6:Bool):Tree:=
.br j6 (
.leaf ⟨[0],[]⟩ [] .ret (some ([(0, .tup [.agg [nilS,vi 0,vi 0,vn .u64 0],vi 1])],[]))) (
.int 104 ((e.add.map metaE.f).length:Int) (e.add.length:Int) (.loop ⟨[4,6,103,104,105],[(1,0,none),(2,0,none),(3,0,some (x4.2.map metaE.f))]⟩ [rowC (x4.2.map metaE.f)] (some (TLAp_l7_e e j1 j2 j3 (x4.2,0))) (TLAp_l7_e e j1 j2 j3) (TLAp_l7_x j1 j2 j3) noX (x4.2,0) (TLAp_l7_b e j1 j2 j3) (fun (x7:(List Meta))=> .sealcell 34 1 0 (rowC (x7.map metaE.f)) x7.length metaE x7 (.call 146 (gLChk [.agg [vl (x7.map metaE.f),vi j1,vi j2,vn .u64 j3]]=some (vi (Vers.check (⟨x7,j1,j2,j3⟩:Vers)))) (vi (Vers.check (⟨x7,j1,j2,j3⟩:Vers))) (.sp 148 ((Vers.check (⟨x7,j1,j2,j3⟩:Vers)) != (0:Int)) (
.leaf ⟨[0],[]⟩ [] .ret (some ([(0, .tup [.agg [nilS,vi 0,vi 0,vn .u64 0],vi (Vers.check (⟨x7,j1,j2,j3⟩:Vers))])],[]))) (
.leaf ⟨[0],[]⟩ [] .ret (some ([(0, .tup [.agg [vl (x7.map metaE.f),vi j1,vi j2,vn .u64 j3],vi 0])],[])))))) (fun _=> .stuck)))
noncomputable def TLAp_j3 (v:Vers) (e:Edt) (j1:Int) (j2:Int) (j3:Int):Tree:=
.int 45 ((v.files.map metaE.f).length:Int) (v.files.length:Int) (.nilcell 3 0 5 (.loop ⟨[2,3,4,6,7,44,45,46],[(0,0,none),(1,0,none),(2,0,none),(3,0,none),(4,0,some (([]:List Meta).map metaE.f))]⟩ [rowC (([]:List Meta).map metaE.f)] (some (TLAp_l4_e v e j1 j2 j3 (([]:List Meta),0,0))) (TLAp_l4_e v e j1 j2 j3) (TLAp_l4_x v e j1 j2 j3) noX (([]:List Meta),0,0) (TLAp_l4_b v e j1 j2 j3) (fun (x4:Int×(List Meta))=> .int 78 ((e.del.map intE.f).length:Int) (e.del.length:Int) (.sp 79 (x4.1 != (e.del.length:Int)) (
.join ⟨[3,4,6,100],[(1,0,none),(2,0,none),(3,0,none),(4,0,some (x4.2.map metaE.f))]⟩ [rowC (x4.2.map metaE.f)] (some (TLAp_j6_e e j1 j2 j3 x4 true)) (TLAp_j6_e e j1 j2 j3 x4) true (TLAp_j6 e j1 j2 j3 x4)) (
.sp 85 (decide (j1<v.log)) (
.join ⟨[3,4,6,100],[(1,0,none),(2,0,none),(3,0,none),(4,0,some (x4.2.map metaE.f))]⟩ [rowC (x4.2.map metaE.f)] (some (TLAp_j6_e e j1 j2 j3 x4 true)) (TLAp_j6_e e j1 j2 j3 x4) true (TLAp_j6 e j1 j2 j3 x4)) (
.sp 92 (decide (j2<v.next)) (
.join ⟨[3,4,6,100],[(1,0,none),(2,0,none),(3,0,none),(4,0,some (x4.2.map metaE.f))]⟩ [rowC (x4.2.map metaE.f)] (some (TLAp_j6_e e j1 j2 j3 x4 true)) (TLAp_j6_e e j1 j2 j3 x4) true (TLAp_j6 e j1 j2 j3 x4)) (
.sp 99 (decide (j3<v.seq)) (
.join ⟨[3,4,6,100],[(1,0,none),(2,0,none),(3,0,none),(4,0,some (x4.2.map metaE.f))]⟩ [rowC (x4.2.map metaE.f)] (some (TLAp_j6_e e j1 j2 j3 x4 true)) (TLAp_j6_e e j1 j2 j3 x4) true (TLAp_j6 e j1 j2 j3 x4)) (
.join ⟨[3,4,6,100],[(1,0,none),(2,0,none),(3,0,none),(4,0,some (x4.2.map metaE.f))]⟩ [rowC (x4.2.map metaE.f)] (some (TLAp_j6_e e j1 j2 j3 x4 false)) (TLAp_j6_e e j1 j2 j3 x4) false (TLAp_j6 e j1 j2 j3 x4))))))) (fun _=> .stuck)))
noncomputable def TLAp_j2 (v:Vers) (e:Edt) (j1:Int) (j2:Int):Tree:=
.sp 39 (decide (e.seq>(0:Int))) (
.go (.join ⟨[2,3,4,6],[(0,0,none),(1,0,none),(2,0,none),(3,0,none)]⟩ [] (some (TLAp_j3_e v e j1 j2 e.seq)) (TLAp_j3_e v e j1 j2) e.seq (TLAp_j3 v e j1 j2))) (
.go (.join ⟨[2,3,4,6],[(0,0,none),(1,0,none),(2,0,none),(3,0,none)]⟩ [] (some (TLAp_j3_e v e j1 j2 v.seq)) (TLAp_j3_e v e j1 j2) v.seq (TLAp_j3 v e j1 j2)))
noncomputable def TLAp_j1 (v:Vers) (e:Edt) (j1:Int):Tree:=
.sp 33 (decide (e.next>(0:Int))) (
.go (.join ⟨[2,3,4,6],[(0,0,none),(1,0,none),(2,0,none),(3,0,none)]⟩ [] (some (TLAp_j2_e v e j1 e.next)) (TLAp_j2_e v e j1) e.next (TLAp_j2 v e j1))) (
.go (.join ⟨[2,3,4,6],[(0,0,none),(1,0,none),(2,0,none),(3,0,none)]⟩ [] (some (TLAp_j2_e v e j1 v.next)) (TLAp_j2_e v e j1) v.next (TLAp_j2 v e j1)))
noncomputable def TLAp (v:Vers) (e:Edt):Tree:=
.sp 27 (decide (e.log>(0:Int))) (
.go (.join ⟨[2,3,4,6],[(0,0,none),(1,0,none),(2,0,none),(3,0,none)]⟩ [] (some (TLAp_j1_e v e e.log)) (TLAp_j1_e v e) e.log (TLAp_j1 v e))) (
.go (.join ⟨[2,3,4,6],[(0,0,none),(1,0,none),(2,0,none),(3,0,none)]⟩ [] (some (TLAp_j1_e v e v.log)) (TLAp_j1_e v e) v.log (TLAp_j1 v e)))

theorem TLAp_chk (v:Vers) (e:Edt):fnC DP ΓD Δ0 Tryd.f35 [.agg [vl (v.files.map metaE.f),vi v.log,vi v.next,vn .u64 v.seq], .agg [vl (e.add.map metaE.f),vl (e.del.map intE.f),vi e.log,vi e.next,vn .u64 e.seq]] [] (TLAp v e)=TLAp v e:=by kernel_rfl

end Go.Ax

namespace Go.Ax
open Go.Proofs Go.RowKit
set_option maxRecDepth 100000

def atN (m:Meta):List Meta→Nat
 | []=>0
 | x::L=>if x.num≤m.num then atN m L+1 else 0
def insN (L:List Meta) (m:Meta):List Meta:=L.take (atN m L)++m::L.drop (atN m L)
theorem atN_le (m:Meta):∀ L:List Meta,atN m L≤L.length
 | []=>Nat.le_refl _
 | x::L=>by
  have:=atN_le m L
  unfold atN
  rw[List.length_cons]
  split <;> omega
theorem atN_take (m:Meta):∀ L:List Meta,∀ x∈L.take (atN m L),x.num≤m.num
 | [],x,h=>by simp at h
 | y::L,x,h=>by
  unfold atN at h
  split at h
  ·rw[List.take_succ_cons] at h
   rcases List.mem_cons.1 h with rfl | h
   ·assumption
   ·exact atN_take m L x h
  ·simp at h
theorem atN_drop (m:Meta):∀ L:List Meta,(L.Pairwise fun x y=>x.num≤y.num)→∀ x∈L.drop (atN m L),m.num≤x.num
 | [],_,x,h=>by simp at h
 | y::L,hp,x,h=>by
  unfold atN at h
  split at h
  ·rw[List.drop_succ_cons] at h
   exact atN_drop m L hp.of_cons x h
  ·rcases List.mem_cons.1 h with rfl | h
   ·omega
   ·have:=List.rel_of_pairwise_cons hp h
    omega
theorem insN_perm (L:List Meta) (m:Meta):(insN L m).Perm (m::L):=by
 unfold insN
 refine List.perm_middle.trans ?_
 rw[List.take_append_drop]
theorem insN_up {L:List Meta} (m:Meta) (h:L.Pairwise fun x y=>x.num≤y.num):(insN L m).Pairwise fun x y=>x.num≤y.num:=by
 unfold insN
 have ha:=atN_take m L
 have hd:=atN_drop m L h
 rw[List.pairwise_append]
 refine ⟨h.sublist (List.take_sublist _ _),List.pairwise_cons.2 ⟨hd,h.sublist (List.drop_sublist _ _)⟩,fun a h1 b h2=>?_⟩
 rcases List.mem_cons.1 h2 with rfl | h2
 ·exact ha a h1
 ·have:=ha a h1
  have:=hd b h2
  omega
def insAll (A L:List Meta):List Meta:=A.foldl insN L
theorem insAll_perm:∀ (A L:List Meta),(insAll A L).Perm (L++A)
 | [],L=>by simp[insAll]
 | m::A,L=>by
  refine (insAll_perm A (insN L m)).trans (((insN_perm L m).append_right A).trans ?_)
  exact List.perm_middle.symm
theorem insAll_up:∀ (A:List Meta) {L:List Meta},(L.Pairwise fun x y=>x.num≤y.num)→(insAll A L).Pairwise fun x y=>x.num≤y.num
 | [],_,h=>h
 | m::A,_,h=>insAll_up A (insN_up m h)
theorem insAll_snoc (A:List Meta) (m:Meta) (L:List Meta):insAll (A++ [m]) L=insN (insAll A L) m:=by simp[insAll]

theorem fileOk_up {v:Vers} (h:(List.range v.files.length).all (fileOk v)=true):v.files.Pairwise fun a b=>a.num<b.num:=by
 rw[List.all_eq_true] at h
 refine chain_pair (Q:=fun _=>True) (fun x y z _ h1 h2=>by omega) _ (fun _ _=>trivial) fun i hi=>?_
 have:=h (i+1) (by simpa using hi)
 simp only[fileOk,Bool.and_eq_true,decide_eq_true_eq,Bool.or_eq_true] at this
 rw[Nat.add_sub_cancel] at this
 exact this.2.resolve_left (by omega)
theorem fileOk_ok {v:Vers} (h:(List.range v.files.length).all (fileOk v)=true) {m:Meta} (hm:m∈v.files):m.ok=true:=by
 rw[List.all_eq_true] at h
 obtain ⟨i,hi,e⟩:=List.getElem_of_mem hm
 have:=h i (by simpa using hi)
 simp only[fileOk,Bool.and_eq_true] at this
 rw[at_eq hi,e] at this
 exact this.1.1
theorem check_same {A B:List Meta} (hp:A.Perm B) (hA:(∀ m∈A,m.ok=true)→A.Pairwise fun x y=>x.num≤y.num) (hB:B.Pairwise fun x y=>x.num≤y.num) (lg nx sq:Int):
  Vers.check ⟨A,lg,nx,sq⟩=Vers.check ⟨B,lg,nx,sq⟩∧(Vers.check ⟨A,lg,nx,sq⟩=0→A=B):=by
 by_cases he:A=B
 ·subst he
  exact ⟨rfl,fun _=>rfl⟩
 have hfA:¬(List.range A.length).all (fileOk ⟨A,lg,nx,sq⟩)=true:=fun h=>he (by
  have hok:∀ m∈A,m.ok=true:=fun m hm=>fileOk_ok (v:=⟨A,lg,nx,sq⟩) h hm
  have h1:=fileOk_up (v:=⟨A,lg,nx,sq⟩) h
  exact (perm_eq B A hp.symm hB h1).symm)
 have hfB:¬(List.range B.length).all (fileOk ⟨B,lg,nx,sq⟩)=true:=fun h=>he (by
  have hok:∀ m∈A,m.ok=true:=fun m hm=>fileOk_ok (v:=⟨B,lg,nx,sq⟩) h (hp.mem_iff.1 hm)
  have h1:=fileOk_up (v:=⟨B,lg,nx,sq⟩) h
  exact perm_eq A B hp (hA hok) h1)
 have hl:=hp.length_eq
 unfold Vers.check
 simp only
 rw[if_pos hfB,if_pos hfA,hl]
 refine ⟨rfl,fun h=>?_⟩
 exfalso
 split at h
 ·cases h
 ·split at h <;> cases h

section
variable {v : Vers} {e : Edt} {j1 j2 j3 : Int}
theorem la_del {s4:List Meta×Int×Int} {m:Meta} (hd:e.del.length≤1000000):∀ (suf pre:List Int) (b:Bool),e.del=pre++suf →
  Rounds (TLAp_l5_e v e j1 j2 j3 s4 m) (TLAp_l5_x v e j1 j2 j3 s4 m) noX (fun s=>(TLAp_l5_b v e j1 j2 j3 s4 m s).wp) (b,(pre.length:Int)) (.inl (b||hasI suf m.num))
 | [],pre,b,h=>by
  have en:e.del.length=pre.length:=by rw[h]; simp
  rw[show hasI [] m.num=false from rfl,Bool.or_false]
  refine .done (by simp[TLAp_l5_x]) ?_
  unfold TLAp_l5_b
  exact wp_sp (fun h'=>absurd (of_decide_eq_true h') (by simp only; omega)) (fun _=>wp_leaf rfl ⟨rfl,rfl⟩)
 | x::suf,pre,b,h=>by
  have en:e.del.length=pre.length+(suf.length+1):=by rw[h]; simp
  have hm:e.del[Int.toNat (pre.length:Int)]? = some x:=by rw[h]; simp
  have hnx:e.del=(pre++ [x])++suf:=by rw[h]; simp
  have hlen:((pre++ [x]).length:Int)=(pre.length:Int)+1:=by simp
  have hh:hasI (x::suf) m.num=(x == m.num||hasI suf m.num):=by
   unfold hasI
   rw[List.contains_cons]
   congr 1
   rw[Bool.eq_iff_iff]
   simp only[beq_iff_eq]
   exact ⟨fun h=>h.symm,fun h=>h.symm⟩
  have ih:=la_del (s4:=s4) (m:=m) hd suf (pre++ [x]) (b||x == m.num) hnx
  rw[hlen] at ih
  rw[hh,←Bool.or_assoc]
  refine .next ?_ ih
  unfold TLAp_l5_b
  refine wp_sp (fun _=>wp_elem x (by simp only; omega) hm (wp_sp (fun hb=>wp_i64 (by simp only; omega) (wp_leaf rfl ⟨rfl,?_⟩)) (fun hb=>wp_sp (fun hx=>wp_i64 (by simp only; omega) (wp_leaf rfl ⟨rfl,?_⟩)) (fun hx=>wp_i64 (by simp only; omega) (wp_leaf rfl ⟨rfl,?_⟩))))) (fun h'=>absurd (of_decide_eq_false h') (by simp only; omega))
  ·rw[show b=true from hb]; rfl
  ·rw[show b=false from hb,hx]; rfl
  ·rw[show b=false from hb,hx]; rfl
theorem la_left (hv:v.files.length≤1000000) (hd:e.del.length≤1000000):∀ (suf pre L:List Meta) (g:Nat),v.files=pre++suf→L.length≤pre.length→g≤pre.length →
  Rounds (TLAp_l4_e v e j1 j2 j3) (TLAp_l4_x v e j1 j2 j3) noX (fun s=>(TLAp_l4_b v e j1 j2 j3 s).wp) (L,(pre.length:Int),(g:Int)) (.inl (((g+goneN e.del suf:Nat):Int),L++leftL e.del suf))
 | [],pre,L,g,h,hL,hg=>by
  have en:v.files.length=pre.length:=by rw[h]; simp
  refine .done (by simp[TLAp_l4_x]) ?_
  unfold TLAp_l4_b
  simp only[leftL,goneN,List.filter_nil,List.append_nil,List.length_nil,Nat.add_zero]
  exact wp_sp (fun h=>by have:=of_decide_eq_true h; omega) (fun _=>wp_leaf rfl ⟨rfl,rfl⟩)
 | m::suf,pre,L,g,h,hL,hg=>by
  have en:v.files.length=pre.length+(suf.length+1):=by rw[h]; simp
  have hm:v.files[Int.toNat (pre.length:Int)]? = some m:=by rw[h]; simp
  have hnx:v.files=(pre++ [m])++suf:=by rw[h]; simp
  have hlen:(pre++ [m]).length=pre.length+1:=by simp
  have l5:=la_del (v:=v) (e:=e) (j1:=j1) (j2:=j2) (j3:=j3) (s4:=(L,(pre.length:Int),(g:Int))) (m:=m) hd e.del [] false rfl
  rw[Bool.false_or] at l5
  rw[left_cons,gone_cons]
  cases hh:hasI e.del m.num with
  | true=>
   have ih:=la_left hv hd suf (pre++ [m]) L (g+1) hnx (by omega) (by omega)
   rw[hh] at l5
   rw[if_pos rfl,if_pos rfl]
   rw[hlen,show g+1+goneN e.del suf=g+(goneN e.del suf+1) by omega] at ih
   refine .next ?_ ih
   unfold TLAp_l4_b
   dsimp only
   exact wp_sp (fun _=>wp_elem m (by omega) hm (wp_len (wp_loop _ rfl l5 (wp_sp (fun _=>wp_i64 (by omega) (wp_i64 (by omega) (wp_leaf rfl ⟨rfl,rfl⟩))) (fun h=>by cases h))))) (fun h=>by have:=of_decide_eq_false h; omega)
  | false=>
   have ih:=la_left hv hd suf (pre++ [m]) (L++ [m]) g hnx (by simp; omega) (by omega)
   rw[hh] at l5
   rw[if_neg (by simp),if_neg (by simp)]
   rw[hlen,List.append_assoc] at ih
   refine .next ?_ ih
   unfold TLAp_l4_b
   dsimp only
   exact wp_sp (fun _=>wp_elem m (by omega) hm (wp_len (wp_loop _ rfl l5 (wp_sp (fun h=>by cases h) (fun _=>wp_app ⟨rfl,rfl⟩ rfl (by simp; omega) (wp_i64 (by omega) (wp_leaf rfl ⟨rfl,rfl⟩))))))) (fun h=>by have:=of_decide_eq_false h; omega)
theorem la_at {s7:List Meta×Int} {m:Meta} (hl:s7.1.length≤1000000):∀ (suf pre:List Meta),s7.1=pre++suf →
  Rounds (TLAp_l8_e e j1 j2 j3 s7 m) (TLAp_l8_x e j1 j2 j3 s7 m) noX (fun s=>(TLAp_l8_b e j1 j2 j3 s7 m s).wp) (pre.length:Int) (.inl ((pre.length+atN m suf:Nat):Int))
 | [],pre,h=>by
  have en:s7.1.length=pre.length:=by rw[h]; simp
  refine .done (by simp[TLAp_l8_x]) ?_
  unfold TLAp_l8_b
  exact wp_sp (fun h'=>absurd (of_decide_eq_true h') (by omega)) (fun _=>wp_leaf rfl ⟨rfl,rfl⟩)
 | x::suf,pre,h=>by
  have en:s7.1.length=pre.length+(suf.length+1):=by rw[h]; simp
  have hm:s7.1[Int.toNat (pre.length:Int)]? = some x:=by rw[h]; simp
  have hnx:s7.1=(pre++ [x])++suf:=by rw[h]; simp
  have hlen:(pre++ [x]).length=pre.length+1:=by simp
  by_cases hx:x.num≤m.num
  ·have ih:=la_at (m:=m) hl suf (pre++ [x]) hnx
   have ha:atN m (x::suf)=atN m suf+1:=by
    rw[atN,if_pos hx]
   rw[ha]
   rw[hlen,show pre.length+1+atN m suf=pre.length+(atN m suf+1) by omega] at ih
   refine .next ?_ ih
   unfold TLAp_l8_b
   exact wp_sp (fun _=>wp_ridx (by omega) (by omega) (wp_rload x (by omega) rfl hm (wp_sp (fun _=>wp_i64 (by omega) (wp_leaf rfl ⟨rfl,rfl⟩)) (fun h'=>absurd hx (of_decide_eq_false h'))))) (fun h'=>absurd (of_decide_eq_false h') (by omega))
  ·have ha:atN m (x::suf)=0:=by
    rw[atN,if_neg hx]
   rw[ha]
   refine .done (by simp[TLAp_l8_x]) ?_
   unfold TLAp_l8_b
   exact wp_sp (fun _=>wp_ridx (by omega) (by omega) (wp_rload x (by omega) rfl hm (wp_sp (fun h'=>absurd (of_decide_eq_true h') hx) (fun _=>wp_leaf rfl ⟨rfl,rfl⟩)))) (fun h'=>absurd (of_decide_eq_false h') (by omega))
theorem drop_row {α:Type} (E:Enc α) (L:List α) (k:Nat) (hk:k≤L.length):(rowC (L.map E.f)).drop (k*E.sz)=rowC ((L.drop k).map E.f):=by
 conv=>lhs; rw[←List.take_append_drop k L,List.map_append,rowC_append]
 exact List.drop_left' (by rw[E.elt.rowLen,List.length_take,Nat.min_eq_left hk])
theorem part_row {L:List Meta} {off n k:Nat} {M:List Meta} (ho:off=k*5) (hk:k≤L.length) (hM:M=(L.drop k).take n):((rowC (L.map metaE.f)).drop off).take (n*metaE.sz)=rowC (M.map metaE.f):=by
 subst ho hM
 rw[show k*5=k*metaE.sz from rfl,drop_row metaE L k hk,take_row]
theorem la_add {L0:List Meta} (hl:L0.length+e.add.length≤1000000):∀ (suf pre:List Meta),e.add=pre++suf →
  Rounds (TLAp_l7_e e j1 j2 j3) (TLAp_l7_x j1 j2 j3) noX (fun s=>(TLAp_l7_b e j1 j2 j3 s).wp) (insAll pre L0,(pre.length:Int)) (.inl (insAll e.add L0))
 | [],pre,h=>by
  have en:e.add=pre:=by rw[h]; simp
  rw[en]
  refine .done (by simp[TLAp_l7_x]) ?_
  unfold TLAp_l7_b
  exact wp_sp (fun h'=>absurd (of_decide_eq_true h') (by simp only; rw[en]; omega)) (fun _=>wp_leaf rfl ⟨rfl,rfl⟩)
 | m::suf,pre,h=>by
  have en:e.add.length=pre.length+(suf.length+1):=by rw[h]; simp
  have hm:e.add[Int.toNat (pre.length:Int)]? = some m:=by rw[h]; simp
  have hnx:e.add=(pre++ [m])++suf:=by rw[h]; simp
  have hlen:((pre++ [m]).length:Int)=(pre.length:Int)+1:=by simp
  have hL:(insAll pre L0).length=L0.length+pre.length:=by rw[(insAll_perm _ _).length_eq,List.length_append]
  have ih:=la_add hl suf (pre++ [m]) hnx
  rw[insAll_snoc,hlen] at ih
  generalize insAll pre L0=L at ih hL
  have l8:=la_at (e:=e) (j1:=j1) (j2:=j2) (j3:=j3) (s7:=(L,(pre.length:Int))) (m:=m) (by simp only; omega) L [] rfl
  rw[List.length_nil,Nat.zero_add] at l8
  have hat:=atN_le m L
  have hin:insN L m=(([]++L.take (atN m L))++ [m])++L.drop (atN m L):=by simp[insN]
  rw[hin] at ih
  refine .next ?_ ih
  unfold TLAp_l7_b
  refine wp_sp (fun _=>wp_elem m (by simp only; omega) hm (wp_loop _ rfl l8 (wp_rcut (by simp only[cutOk]; omega) (wp_app ?_ rfl ?_ (wp_app ⟨rfl,rfl⟩ rfl ?_ (wp_rcut (by simp only[cutOk]; omega) (wp_app ?_ rfl ?_ (wp_i64 (by simp only; omega) (wp_leaf rfl ⟨rfl,rfl⟩))))))))) (fun h'=>absurd (of_decide_eq_false h') (by simp only; omega))
  ·exact ⟨by simp[cutL,hiN,loN]; omega,part_row (k:=0) (by simp[loN]) (by omega) (by simp[cutL,hiN,loN])⟩
  ·simp[cutL]; omega
  ·simp[cutL]; omega
  ·exact ⟨by simp[cutL,hiN,loN],part_row (k:=atN m L) (by simp[loN]) (by omega) (by simp only[cutL,hiN,loN,Int.toNat_natCast]; rw[List.take_of_length_le (by rw[List.length_drop]; exact Nat.le_refl _)])⟩
  ·simp[cutL]; omega

noncomputable def applyI (v:Vers) (e:Edt):Vers:=⟨insAll e.add (leftL e.del v.files),newI e.log v.log,newI e.next v.next,newI e.seq v.seq⟩
theorem left_up {v:Vers} (h:Right v) (del:List Int):(leftL del v.files).Pairwise fun x y=>x.num≤y.num:=(h.up.imp fun {a b} h=>(by omega:a.num≤b.num)).filter _
theorem applyI_check {v:Vers} (hr:Right v) (e:Edt) (ha:e.add.length≤500000):(applyW v e).check=(applyI v e).check∧((applyW v e).check=0→applyW v e=applyI v e):=by
 have hl:=left_len e.del v.files
 have:=hr.len
 have hlen:(leftL e.del v.files++e.add).length≤1000000:=by rw[List.length_append]; omega
 have hs:=byNum_spec hlen
 have hp:(byNum (leftL e.del v.files++e.add)).Perm (insAll e.add (leftL e.del v.files)):=hs.2.1.trans (insAll_perm _ _).symm
 obtain ⟨h1,h2⟩:=check_same hp (fun hok=>byNum_sorted hlen fun x hx=>by have:=ok_b (hok x (hs.2.1.mem_iff.2 hx)); omega) (insAll_up _ (left_up hr _)) (newI e.log v.log) (newI e.next v.next) (newI e.seq v.seq)
 exact ⟨h1,fun h=>by unfold applyW applyI; rw[h2 h]⟩

theorem la_j6 (hr:Right v) (ha:e.add.length≤500000) (hd:e.del.length≤500000) (b:Bool) (hb:b=decide ((goneN e.del v.files:Int)≠(e.del.length:Int)∨newI e.log v.log<v.log∨newI e.next v.next<v.next∨newI e.seq v.seq<v.seq)) {K:AE→St→Prop}
  (hz:(applyL v e).1=⟨[],0,0,0⟩→K .ret ([(0, .tup [.agg [nilS,vi 0,vi 0,vn .u64 0],vi (applyL v e).2])],[]))
  (hk:K .ret ([(0, .tup [.agg [vl ((applyL v e).1.files.map metaE.f),vi (applyL v e).1.log,vi (applyL v e).1.next,vn .u64 (applyL v e).1.seq],vi (applyL v e).2])],[])):
  (TLAp_j6 e (newI e.log v.log) (newI e.next v.next) (newI e.seq v.seq) ((goneN e.del v.files:Int),leftL e.del v.files) b).wp K:=by
 have hl:=left_len e.del v.files
 have hlen:=hr.len
 unfold applyL at hz hk
 unfold TLAp_j6
 refine wp_br (fun e1=>?_) (fun e1=>?_)
 ·rw[hb] at e1
  rw[if_pos (of_decide_eq_true e1)] at hz
  exact wp_leaf rfl (hz rfl)
 ·rw[hb] at e1
  rw[if_neg (of_decide_eq_false e1)] at hz hk
  obtain ⟨c1,c2⟩:=applyI_check hr e ha
  have ad:=la_add (e:=e) (j1:=newI e.log v.log) (j2:=newI e.next v.next) (j3:=newI e.seq v.seq) (L0:=leftL e.del v.files) (by omega) e.add [] rfl
  refine wp_len (wp_loop _ rfl ad ⟨rfl,rfl,wp_call (gLChk_eq (applyI v e)) (wp_sp (fun hc=>?_) (fun hc=>?_))⟩)
  ·have hc:¬(applyI v e).check=0:=by
    have hc:((applyI v e).check != 0)=true:=hc
    simpa using hc
   rw[c1,if_neg hc] at hz
   exact wp_leaf rfl (hz rfl)
  ·have hc:(applyI v e).check=0:=by
    have hc:((applyI v e).check != 0)=false:=hc
    simpa using hc
   rw[c1,if_pos hc,c2 (c1.trans hc)] at hk
   exact wp_leaf rfl hk

theorem la_wp (hr:Right v) (ha:e.add.length≤500000) (hd:e.del.length≤500000) {K:AE→St→Prop}
  (hz:(applyL v e).1=⟨[],0,0,0⟩→K .ret ([(0, .tup [.agg [nilS,vi 0,vi 0,vn .u64 0],vi (applyL v e).2])],[]))
  (hk:K .ret ([(0, .tup [.agg [vl ((applyL v e).1.files.map metaE.f),vi (applyL v e).1.log,vi (applyL v e).1.next,vn .u64 (applyL v e).1.seq],vi (applyL v e).2])],[])):(TLAp v e).wp K:=by
 have hlen:=hr.len
 have step3:(TLAp_j3 v e (newI e.log v.log) (newI e.next v.next) (newI e.seq v.seq)).wp K:=by
  have l:=la_left (v:=v) (e:=e) (j1:=newI e.log v.log) (j2:=newI e.next v.next) (j3:=newI e.seq v.seq) (by omega) (by omega) v.files [] [] 0 rfl (Nat.le_refl _) (Nat.le_refl _)
  rw[List.nil_append,Nat.zero_add] at l
  unfold TLAp_j3
  refine wp_len (show Tree.wp _ _ from wp_loop _ rfl l (wp_len (wp_sp (fun a=>wp_join rfl ?_) (fun a=>wp_sp (fun b=>wp_join rfl ?_) (fun b=>wp_sp (fun c=>wp_join rfl ?_) (fun c=>wp_sp (fun d=>wp_join rfl ?_) (fun d=>wp_join rfl ?_)))))))
  all_goals refine la_j6 hr ha hd _ ?_ hz hk
  all_goals symm
  all_goals dsimp only at *
  all_goals simp only[decide_eq_true_eq,decide_eq_false_iff_not,bne_iff_ne,ne_eq,bne_eq_false_iff_eq] at *
  ·exact .inl a
  ·exact .inr (.inl b)
  ·exact .inr (.inr (.inl c))
  ·exact .inr (.inr (.inr d))
  ·omega
 have step2:(TLAp_j2 v e (newI e.log v.log) (newI e.next v.next)).wp K:=by
  unfold TLAp_j2
  refine wp_sp (fun h=>wp_go (wp_join rfl ?_)) (fun h=>wp_go (wp_join rfl ?_))
  ·have:newI e.seq v.seq=e.seq:=if_pos (of_decide_eq_true h)
   rw[←this]; exact step3
  ·have:newI e.seq v.seq=v.seq:=if_neg (of_decide_eq_false h)
   rw[this] at step3; exact step3
 have step1:(TLAp_j1 v e (newI e.log v.log)).wp K:=by
  unfold TLAp_j1
  refine wp_sp (fun h=>wp_go (wp_join rfl ?_)) (fun h=>wp_go (wp_join rfl ?_))
  ·have:newI e.next v.next=e.next:=if_pos (of_decide_eq_true h)
   rw[this] at step2; exact step2
  ·have:newI e.next v.next=v.next:=if_neg (of_decide_eq_false h)
   rw[this] at step2; exact step2
 unfold TLAp
 refine wp_sp (fun h=>wp_go (wp_join rfl ?_)) (fun h=>wp_go (wp_join rfl ?_))
 ·have:newI e.log v.log=e.log:=if_pos (of_decide_eq_true h)
  rw[this] at step1; exact step1
 ·have:newI e.log v.log=v.log:=if_neg (of_decide_eq_false h)
  rw[this] at step1; exact step1
end
def RLAp:List AV→AV→Prop:=fun args r=>∃ (v:Vers) (e:Edt),(Right v∧e.add.length≤500000∧e.del.length≤500000)∧args= [versA v,edtA e]∧r= .tup [versA (applyL v e).1,vi (applyL v e).2]
noncomputable def gLAp:=relG RLAp
theorem gLAp_eq {v:Vers} {e:Edt} (h:Right v) (ha:e.add.length≤500000) (hd:e.del.length≤500000):gLAp [versA v,edtA e]=some (.tup [versA (applyL v e).1,vi (applyL v e).2]):=relG_eq (by
 rintro args r r' ⟨v1,x1,_,e1,rfl⟩ ⟨v2,x2,_,e2,rfl⟩
 rw[e1] at e2
 simp only[List.cons.injEq,and_true] at e2
 obtain ⟨h1,h2⟩:=e2
 rw[versA_inj h1,edt_inj h2]) ⟨v,e,⟨h,ha,hd⟩,rfl,rfl⟩
theorem ΓD_ok:∀ f,SoundF DP f (ΓD f):=envP_cons SLChk envP_nil
theorem SLAp:SoundF DP iLApply (.pure gLAp):=sound_pureT mixedD ΓD_ok Δ0_ok hfLApply heLApply hbLApply (by
 rintro args r ⟨v,e,⟨h,ha,hd⟩,rfl,rfl⟩
 refine ⟨rfl,rfl,_,TLAp_chk v e,la_wp h ha hd (fun hz=>?_) ?_⟩
 ·rw[hz]
  exact seal4 _ _ _ _ .nil
 ·exact seal4 _ _ _ _ (.p _))
end Go.Ax

namespace Go.Ax
open Go.Proofs Go.RowKit
set_option maxRecDepth 100000

noncomputable def ΓE:Env:=envP [(29,gHeadE),(30,gBig),(32,gLChk),(34,g20),(35,gLAp),(36,gSame),(37,gFirst),(38,gAllV)]

abbrev iEditApplies:Nat:=8
noncomputable abbrev nEditApplies:Func:=Tryd.f8
theorem hfEditApplies:DP.funcs[iEditApplies]? = some nEditApplies:=by kernel_rfl
theorem heEditApplies:enters DP iEditApplies=true:=by kernel_rfl
theorem hbEditApplies:nEditApplies.body.isSome=true:=by kernel_rfl
noncomputable def TEAp (v:Vers) (e:Edt):Tree:=
.call 11 (gHeadE []=some (vb true)) (vb true) (.call 14 (gBig [.agg [vl (v.files.map metaE.f),vi v.log,vi v.next,vn .u64 v.seq]]=some (vb (bigB v))) (vb (bigB v)) (.sp 14 (bigB v) (
.leaf ⟨[0],[]⟩ [] .ret (some ([(0,vb true)],[]))) (
.int 18 ((e.add.map metaE.f).length:Int) (e.add.length:Int) (.sp 19 (decide ((e.add.length:Int)>(20:Int))) (
.leaf ⟨[0],[]⟩ [] .ret (some ([(0,vb true)],[]))) (
.int 24 ((e.del.map intE.f).length:Int) (e.del.length:Int) (.sp 25 (decide ((e.del.length:Int)>(20:Int))) (
.leaf ⟨[0],[]⟩ [] .ret (some ([(0,vb true)],[]))) (
.call 29 (gLChk [.agg [vl (v.files.map metaE.f),vi v.log,vi v.next,vn .u64 v.seq]]=some (vi (Vers.check v))) (vi (Vers.check v)) (.sp 30 ((Vers.check v) != (0:Int)) (
.leaf ⟨[0],[]⟩ [] .ret (some ([(0,vb true)],[]))) (
.call 35 (g20 [.agg [vl (v.files.map metaE.f),vi v.log,vi v.next,vn .u64 v.seq], .agg [vl (e.add.map metaE.f),vl (e.del.map intE.f),vi e.log,vi e.next,vn .u64 e.seq]]=some (.tup [.agg [vl ((((applyL v e).1).files).map metaE.f),vi (((applyL v e).1).log),vi (((applyL v e).1).next),vn .u64 (((applyL v e).1).seq)],vi ((applyL v e).2)])) (.tup [.agg [vl ((((applyL v e).1).files).map metaE.f),vi (((applyL v e).1).log),vi (((applyL v e).1).next),vn .u64 (((applyL v e).1).seq)],vi ((applyL v e).2)]) (.call 41 (gLAp [.agg [vl (v.files.map metaE.f),vi v.log,vi v.next,vn .u64 v.seq], .agg [vl (e.add.map metaE.f),vl (e.del.map intE.f),vi e.log,vi e.next,vn .u64 e.seq]]=some (.tup [.agg [vl ((((applyL v e).1).files).map metaE.f),vi (((applyL v e).1).log),vi (((applyL v e).1).next),vn .u64 (((applyL v e).1).seq)],vi ((applyL v e).2)])) (.tup [.agg [vl ((((applyL v e).1).files).map metaE.f),vi (((applyL v e).1).log),vi (((applyL v e).1).next),vn .u64 (((applyL v e).1).seq)],vi ((applyL v e).2)]) (.sp 46 (((applyL v e).2) != ((applyL v e).2)) (
.leaf ⟨[0],[]⟩ [] .ret (some ([(0,vb false)],[]))) (
.call 50 (gSame [.agg [vl ((((applyL v e).1).files).map metaE.f),vi (((applyL v e).1).log),vi (((applyL v e).1).next),vn .u64 (((applyL v e).1).seq)], .agg [vl ((((applyL v e).1).files).map metaE.f),vi (((applyL v e).1).log),vi (((applyL v e).1).next),vn .u64 (((applyL v e).1).seq)]]=some (vb (sameB ((applyL v e).1) ((applyL v e).1)))) (vb (sameB ((applyL v e).1) ((applyL v e).1))) (.sp 50 (sameB ((applyL v e).1) ((applyL v e).1)) (
.call 54 (gFirst []=some (.agg [vl (firstV.files.map metaE.f),vi firstV.log,vi firstV.next,vn .u64 firstV.seq])) (.agg [vl (firstV.files.map metaE.f),vi firstV.log,vi firstV.next,vn .u64 firstV.seq]) (.call 56 (gAllV [.agg [vl (v.files.map metaE.f),vi v.log,vi v.next,vn .u64 v.seq]]=some (.agg [vl (v.files.map metaE.f),vl (([]:List Int).map intE.f),vi v.log,vi v.next,vn .u64 v.seq])) (.agg [vl (v.files.map metaE.f),vl (([]:List Int).map intE.f),vi v.log,vi v.next,vn .u64 v.seq]) (.call 57 (g20 [.agg [vl (firstV.files.map metaE.f),vi firstV.log,vi firstV.next,vn .u64 firstV.seq], .agg [vl (v.files.map metaE.f),vl (([]:List Int).map intE.f),vi v.log,vi v.next,vn .u64 v.seq]]=some (.tup [.agg [vl ((((applyL firstV (⟨v.files,([]:List Int),v.log,v.next,v.seq⟩:Edt)).1).files).map metaE.f),vi (((applyL firstV (⟨v.files,([]:List Int),v.log,v.next,v.seq⟩:Edt)).1).log),vi (((applyL firstV (⟨v.files,([]:List Int),v.log,v.next,v.seq⟩:Edt)).1).next),vn .u64 (((applyL firstV (⟨v.files,([]:List Int),v.log,v.next,v.seq⟩:Edt)).1).seq)],vi ((applyL firstV (⟨v.files,([]:List Int),v.log,v.next,v.seq⟩:Edt)).2)])) (.tup [.agg [vl ((((applyL firstV (⟨v.files,([]:List Int),v.log,v.next,v.seq⟩:Edt)).1).files).map metaE.f),vi (((applyL firstV (⟨v.files,([]:List Int),v.log,v.next,v.seq⟩:Edt)).1).log),vi (((applyL firstV (⟨v.files,([]:List Int),v.log,v.next,v.seq⟩:Edt)).1).next),vn .u64 (((applyL firstV (⟨v.files,([]:List Int),v.log,v.next,v.seq⟩:Edt)).1).seq)],vi ((applyL firstV (⟨v.files,([]:List Int),v.log,v.next,v.seq⟩:Edt)).2)]) (.sp 61 (((applyL firstV (⟨v.files,([]:List Int),v.log,v.next,v.seq⟩:Edt)).2) == (0:Int)) (
.call 65 (gSame [.agg [vl ((((applyL firstV (⟨v.files,([]:List Int),v.log,v.next,v.seq⟩:Edt)).1).files).map metaE.f),vi (((applyL firstV (⟨v.files,([]:List Int),v.log,v.next,v.seq⟩:Edt)).1).log),vi (((applyL firstV (⟨v.files,([]:List Int),v.log,v.next,v.seq⟩:Edt)).1).next),vn .u64 (((applyL firstV (⟨v.files,([]:List Int),v.log,v.next,v.seq⟩:Edt)).1).seq)], .agg [vl (v.files.map metaE.f),vi v.log,vi v.next,vn .u64 v.seq]]=some (vb (sameB ((applyL firstV (⟨v.files,([]:List Int),v.log,v.next,v.seq⟩:Edt)).1) v))) (vb (sameB ((applyL firstV (⟨v.files,([]:List Int),v.log,v.next,v.seq⟩:Edt)).1) v)) (.leaf ⟨[0],[]⟩ [] .ret (some ([(0,vb (sameB ((applyL firstV (⟨v.files,([]:List Int),v.log,v.next,v.seq⟩:Edt)).1) v))],[])))) (
.leaf ⟨[0],[]⟩ [] .ret (some ([(0,vb false)],[]))))))) (
.leaf ⟨[0],[]⟩ [] .ret (some ([(0,vb false)],[]))))))))))))))))

theorem TEAp_chk (v:Vers) (e:Edt):fnC DP ΓE Δ0 Tryd.f8 [.agg [vl (v.files.map metaE.f),vi v.log,vi v.next,vn .u64 v.seq], .agg [vl (e.add.map metaE.f),vl (e.del.map intE.f),vi e.log,vi e.next,vn .u64 e.seq]] [] (TEAp v e)=TEAp v e:=by kernel_rfl

end Go.Ax
