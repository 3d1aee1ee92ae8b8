/- Trees, printed by gen/w1.py. -/
import Derived.Test.YtjlipmcdnigfcaaDoorG26
set_option linter.unusedVariables false
set_option linter.unusedSimpArgs false
set_option linter.unusedSectionVars false
namespace Go.Ax
open Go.Proofs Go.RowKit
set_option maxRecDepth 100000

abbrev iOpen:Nat:=16
noncomputable abbrev nOpen:Func:=Tryd.f16
theorem hfOpen:DP.funcs[iOpen]? = some nOpen:=by kernel_rfl
theorem heOpen:enters DP iOpen=true:=by kernel_rfl
theorem hbOpen:nOpen.body.isSome=true:=by kernel_rfl
theorem hnOpen:nOpen.ntmps=94:=by kernel_rfl
abbrev iStart:Nat:=17
noncomputable abbrev nStart:Func:=Tryd.f17
theorem hfStart:DP.funcs[iStart]? = some nStart:=by kernel_rfl
theorem heStart:enters DP iStart=true:=by kernel_rfl
theorem hbStart:nStart.body.isSome=true:=by kernel_rfl
theorem hnStart:nStart.ntmps=136:=by kernel_rfl
abbrev iAdd:Nat:=19
noncomputable abbrev nAdd:Func:=Tryd.f19
theorem hfAdd:DP.funcs[iAdd]? = some nAdd:=by kernel_rfl
theorem heAdd:enters DP iAdd=true:=by kernel_rfl
theorem hbAdd:nAdd.body.isSome=true:=by kernel_rfl
theorem hnAdd:nAdd.ntmps=49:=by kernel_rfl
abbrev iSyncW:Nat:=26
noncomputable abbrev nSyncW:Func:=Tryd.f26
theorem hfSyncW:DP.funcs[iSyncW]? = some nSyncW:=by kernel_rfl
theorem heSyncW:enters DP iSyncW=true:=by kernel_rfl
theorem hbSyncW:nSyncW.body.isSome=true:=by kernel_rfl
theorem hnSyncW:nSyncW.ntmps=22:=by kernel_rfl
abbrev iPart:Nat:=18
noncomputable abbrev nPart:Func:=Tryd.f18
theorem hfPart:DP.funcs[iPart]? = some nPart:=by kernel_rfl
theorem hePart:enters DP iPart=true:=by kernel_rfl
theorem hbPart:nPart.body.isSome=true:=by kernel_rfl
theorem hnPart:nPart.ntmps=9:=by kernel_rfl
abbrev iSizeW:Nat:=21
noncomputable abbrev nSizeW:Func:=Tryd.f21
theorem hfSizeW:DP.funcs[iSizeW]? = some nSizeW:=by kernel_rfl
theorem heSizeW:enters DP iSizeW=true:=by kernel_rfl
theorem hbSizeW:nSizeW.body.isSome=true:=by kernel_rfl
theorem hnSizeW:nSizeW.ntmps=9:=by kernel_rfl
abbrev iOpened:Nat:=27
noncomputable abbrev nOpened:Func:=Tryd.f27
theorem hfOpened:DP.funcs[iOpened]? = some nOpened:=by kernel_rfl
theorem heOpened:enters DP iOpened=true:=by kernel_rfl
theorem hbOpened:nOpened.body.isSome=true:=by kernel_rfl
theorem hnOpened:nOpened.ntmps=11:=by kernel_rfl

noncomputable def TOpen_l1_e (D:Dsk) (frm:Int) (s1:Int×Int×(List ByteArray)×Int):St:=([(0, .op 0),(1,vi frm),(7, .ptr 1 0 0),(8, .rs 2 0 1 0 s1.2.2.1.length),(9,vi s1.2.2.2)],[.obj [] (diskP D), .cells false 0 ([.op 0,vi s1.1,vi s1.2.1,vb false]),nameE.bx 0 s1.2.2.1])
noncomputable def TOpen_l1_x (D:Dsk) (x1:Int×Int×(List ByteArray)):AE×St:=((.exit 0),([(7, .ptr 1 0 0),(8, .rs 2 0 1 0 x1.2.2.length)],[.obj [] (diskP D), .cells false 0 ([.op 0,vi x1.1,vi x1.2.1,vb false]),nameE.bx 0 x1.2.2]))
noncomputable def TOpen_l1_x' (D:Dsk) (y1:Int):AE×St:=(.ret,([(4, .p (.v (.pointer none))),(5,nilS),(6,vi y1)],[.obj [] (diskP D)]))
noncomputable def TOpen_l2_e (D:Dsk) (frm:Int) (s1:Int×Int×(List ByteArray)×Int) (s2:(List ByteArray)×Int):St:=([(0, .op 0),(1,vi frm),(7, .ptr 1 0 0),(8, .rs 2 0 1 0 s2.1.length),(9,vi s1.2.2.2),(11,vi ((readW D s1.2.2.2).2.1)),(72,vl ((cutL (some 1) none ((readW D s1.2.2.2).1)).map bytesE.f)),(73,vi ((cutL (some 1) none ((readW D s1.2.2.2).1)).length:Int)),(74,vi s2.2)],[.obj [] (diskP D), .cells false 0 ([.op 0,vi s1.1,vi s1.2.1,vb false]),nameE.bx 0 s2.1])
noncomputable def TOpen_l2_x (D:Dsk) (frm:Int) (s1:Int×Int×(List ByteArray)×Int) (x2:(List ByteArray)):AE×St:=((.exit 2),([(0, .op 0),(1,vi frm),(7, .ptr 1 0 0),(8, .rs 2 0 1 0 x2.length),(9,vi s1.2.2.2),(11,vi ((readW D s1.2.2.2).2.1))],[.obj [] (diskP D), .cells false 0 ([.op 0,vi s1.1,vi s1.2.1,vb false]),nameE.bx 0 x2]))
noncomputable def TOpen_l2_b (D:Dsk) (frm:Int) (s1:Int×Int×(List ByteArray)×Int) (s2:(List ByteArray)×Int):Tree:=
.sp 75 (decide (s2.2<((cutL (some 1) none ((readW D s1.2.2.2).1)).length:Int))) (
.elem 76 ((cutL (some 1) none ((readW D s1.2.2.2).1)).map bytesE.f) bytesE (cutL (some 1) none ((readW D s1.2.2.2).1)) s2.2 (fun e1=> .bstrl 80 (e1.map byteE.f) e1 (.app 82 (.row 1 ([vs (⟨e1.toArray⟩)])) s2.1.length (rowC (s2.1.map nameE.f)) nameE s2.1 ([(⟨e1.toArray⟩:ByteArray)]) (.int 83 (IntKind.i64.wrap (s2.2+1)) (s2.2+1) (.leaf ⟨[0,1,7,8,9,11,72,73,74],[(0,0,none),(1,0,none),(2,1,some ((s2.1++([(⟨e1.toArray⟩:ByteArray)])).map nameE.f))]⟩ [rowC ((s2.1++([(⟨e1.toArray⟩:ByteArray)])).map nameE.f)] .normal (some (TOpen_l2_e D frm s1 (s2.1++([(⟨e1.toArray⟩:ByteArray)]),s2.2+1)))))))) (
.leaf ⟨[0,1,7,8,9,11],[(0,0,none),(1,0,none),(2,0,some (s2.1.map nameE.f))]⟩ [rowC (s2.1.map nameE.f)] (.exit 2) (some (TOpen_l2_x D frm s1 s2.1).2))
noncomputable def TOpen_l3_e (D:Dsk) (frm:Int) (s1:Int×Int×(List ByteArray)×Int) (s3:(List ByteArray)×Int):St:=([(0, .op 0),(1,vi frm),(7, .ptr 1 0 0),(8, .rs 2 0 1 0 s3.1.length),(9,vi s1.2.2.2),(11,vi ((readW D s1.2.2.2).2.1)),(72,vl ((cutL (some 1) none ((readW D s1.2.2.2).1)).map bytesE.f)),(73,vi ((cutL (some 1) none ((readW D s1.2.2.2).1)).length:Int)),(74,vi s3.2)],[.obj [] (diskP D), .cells false 0 ([.op 0,vi s1.1,vi s1.2.1,vb false]),nameE.bx 0 s3.1])
noncomputable def TOpen_l3_x (D:Dsk) (frm:Int) (s1:Int×Int×(List ByteArray)×Int) (x3:(List ByteArray)):AE×St:=((.exit 2),([(0, .op 0),(1,vi frm),(7, .ptr 1 0 0),(8, .rs 2 0 1 0 x3.length),(9,vi s1.2.2.2),(11,vi ((readW D s1.2.2.2).2.1))],[.obj [] (diskP D), .cells false 0 ([.op 0,vi s1.1,vi s1.2.1,vb false]),nameE.bx 0 x3]))
noncomputable def TOpen_l3_b (D:Dsk) (frm:Int) (s1:Int×Int×(List ByteArray)×Int) (s3:(List ByteArray)×Int):Tree:=
.sp 75 (decide (s3.2<((cutL (some 1) none ((readW D s1.2.2.2).1)).length:Int))) (
.elem 76 ((cutL (some 1) none ((readW D s1.2.2.2).1)).map bytesE.f) bytesE (cutL (some 1) none ((readW D s1.2.2.2).1)) s3.2 (fun e2=> .bstrl 80 (e2.map byteE.f) e2 (.app 82 (.row 1 ([vs (⟨e2.toArray⟩)])) s3.1.length (rowC (s3.1.map nameE.f)) nameE s3.1 ([(⟨e2.toArray⟩:ByteArray)]) (.int 83 (IntKind.i64.wrap (s3.2+1)) (s3.2+1) (.leaf ⟨[0,1,7,8,9,11,72,73,74],[(0,0,none),(1,0,none),(2,1,some ((s3.1++([(⟨e2.toArray⟩:ByteArray)])).map nameE.f))]⟩ [rowC ((s3.1++([(⟨e2.toArray⟩:ByteArray)])).map nameE.f)] .normal (some (TOpen_l3_e D frm s1 (s3.1++([(⟨e2.toArray⟩:ByteArray)]),s3.2+1)))))))) (
.leaf ⟨[0,1,7,8,9,11],[(0,0,none),(1,0,none),(2,0,some (s3.1.map nameE.f))]⟩ [rowC (s3.1.map nameE.f)] (.exit 2) (some (TOpen_l3_x D frm s1 s3.1).2))
noncomputable def TOpen_l1_b (D:Dsk) (frm:Int) (s1:Int×Int×(List ByteArray)×Int):Tree:=
.sp 34 (decide (s1.2.2.2≤(1073741824:Int))) (
.callr (some 40) (Δ6 56 [.op 0,vi s1.2.2.2] [.obj [] (diskP D), .cells false 0 ([.op 0,vi s1.1,vi s1.2.1,vb false]),nameE.bx 0 s1.2.2.1] (.tup [vl (((readW D s1.2.2.2).1).map bytesE.f),vi ((readW D s1.2.2.2).2.1),vi ((readW D s1.2.2.2).2.2)]) [.obj [] (diskP D), .cells false 0 ([.op 0,vi s1.1,vi s1.2.1,vb false]),nameE.bx 0 s1.2.2.1]) (.tup [vl (((readW D s1.2.2.2).1).map bytesE.f),vi ((readW D s1.2.2.2).2.1),vi ((readW D s1.2.2.2).2.2)]) [.obj [] (diskP D), .cells false 0 ([.op 0,vi s1.1,vi s1.2.1,vb false]),nameE.bx 0 s1.2.2.1] (.sp 45 (((readW D s1.2.2.2).2.2) == (4:Int)) (
.leaf ⟨[7,8],[(0,0,none),(1,0,none),(2,0,some (s1.2.2.1.map nameE.f))]⟩ [rowC (s1.2.2.1.map nameE.f)] (.exit 0) (some (TOpen_l1_x D (s1.1,s1.2.1,s1.2.2.1)).2)) (
.sp 47 (((readW D s1.2.2.2).2.2) != (0:Int)) (
.leaf ⟨[4,5,6],[(0,0,none)]⟩ [] .ret (some (TOpen_l1_x' D ((readW D s1.2.2.2).2.2)).2)) (
.call 51 (gParse [vl (((readW D s1.2.2.2).1).map bytesE.f)]=some (.tup [vi ((parseI ((readW D s1.2.2.2).1)).1),vb ((parseI ((readW D s1.2.2.2).1)).2.1),vi ((parseI ((readW D s1.2.2.2).1)).2.2)])) (.tup [vi ((parseI ((readW D s1.2.2.2).1)).1),vb ((parseI ((readW D s1.2.2.2).1)).2.1),vi ((parseI ((readW D s1.2.2.2).1)).2.2)]) (.sp 53 ((parseI ((readW D s1.2.2.2).1)).2.1) (
.sp 56 (((parseI ((readW D s1.2.2.2).1)).2.2) != (0:Int)) (
.leaf ⟨[4,5,6],[(0,0,none)]⟩ [] .ret (some (TOpen_l1_x' D ((parseI ((readW D s1.2.2.2).1)).2.2)).2)) (
.sp 62 (decide (s1.2.2.2>frm)) (
.sp 69 (((parseI ((readW D s1.2.2.2).1)).1) != s1.2.1) (
.leaf ⟨[4,5,6],[(0,0,none)]⟩ [] .ret (some (TOpen_l1_x' D 12).2)) (
.cut 72 (((readW D s1.2.2.2).1).map bytesE.f) (some 1) none bytesE ((readW D s1.2.2.2).1) (.int 73 (((cutL (some 1) none ((readW D s1.2.2.2).1)).map bytesE.f).length:Int) ((cutL (some 1) none ((readW D s1.2.2.2).1)).length:Int) (.loop ⟨[0,1,7,8,9,11,72,73,74],[(0,0,none),(1,0,none),(2,0,some (s1.2.2.1.map nameE.f))]⟩ [rowC (s1.2.2.1.map nameE.f)] (some (TOpen_l2_e D frm s1 (s1.2.2.1,0))) (TOpen_l2_e D frm s1) (TOpen_l2_x D frm s1) noX (s1.2.2.1,0) (TOpen_l2_b D frm s1) (fun (x2:(List ByteArray))=> .int 36 (IntKind.i64.wrap (s1.2.2.2+1)) (s1.2.2.2+1) (.leaf ⟨[0,1,7,8,9],[(0,0,none),(1,0,none),(2,0,some (x2.map nameE.f))]⟩ [rowC (x2.map nameE.f)] .normal (some (TOpen_l1_e D frm (s1.2.2.2,(readW D s1.2.2.2).2.1,x2,s1.2.2.2+1))))) (fun _=> .stuck))))) (
.cut 72 (((readW D s1.2.2.2).1).map bytesE.f) (some 1) none bytesE ((readW D s1.2.2.2).1) (.int 73 (((cutL (some 1) none ((readW D s1.2.2.2).1)).map bytesE.f).length:Int) ((cutL (some 1) none ((readW D s1.2.2.2).1)).length:Int) (.loop ⟨[0,1,7,8,9,11,72,73,74],[(0,0,none),(1,0,none),(2,0,some (s1.2.2.1.map nameE.f))]⟩ [rowC (s1.2.2.1.map nameE.f)] (some (TOpen_l3_e D frm s1 (s1.2.2.1,0))) (TOpen_l3_e D frm s1) (TOpen_l3_x D frm s1) noX (s1.2.2.1,0) (TOpen_l3_b D frm s1) (fun (x3:(List ByteArray))=> .int 36 (IntKind.i64.wrap (s1.2.2.2+1)) (s1.2.2.2+1) (.leaf ⟨[0,1,7,8,9],[(0,0,none),(1,0,none),(2,0,some (x3.map nameE.f))]⟩ [rowC (x3.map nameE.f)] .normal (some (TOpen_l1_e D frm (s1.2.2.2,(readW D s1.2.2.2).2.1,x3,s1.2.2.2+1))))) (fun _=> .stuck)))))) (
.sp 56 (((parseI ((readW D s1.2.2.2).1)).2.2) != (0:Int)) (
.leaf ⟨[4,5,6],[(0,0,none)]⟩ [] .ret (some (TOpen_l1_x' D ((parseI ((readW D s1.2.2.2).1)).2.2)).2)) (
.leaf ⟨[7,8],[(0,0,none),(1,0,none),(2,0,some (s1.2.2.1.map nameE.f))]⟩ [rowC (s1.2.2.1.map nameE.f)] (.exit 0) (some (TOpen_l1_x D (s1.1,s1.2.1,s1.2.2.1)).2)))))))) (
.leaf ⟨[7,8],[(0,0,none),(1,0,none),(2,0,some (s1.2.2.1.map nameE.f))]⟩ [rowC (s1.2.2.1.map nameE.f)] (.exit 0) (some (TOpen_l1_x D (s1.1,s1.2.1,s1.2.2.1)).2))
noncomputable def TOpen (D:Dsk) (frm:Int):Tree:=
.sp 21 (decide (frm<(1:Int))) (
.leaf ⟨[0],[(0,0,none)]⟩ [] .ret (some ([(0, .tup [.p (.v (.pointer none)),nilS,vi 1])],[.obj [] (diskP D)]))) (
.sp 25 (decide (frm>(1073741824:Int))) (
.leaf ⟨[0],[(0,0,none)]⟩ [] .ret (some ([(0, .tup [.p (.v (.pointer none)),nilS,vi 1])],[.obj [] (diskP D)]))) (
.callr (some 28) (Δ6 55 [.op 0] [.obj [] (diskP D)] (vb ((D).down)) [.obj [] (diskP D)]) (vb ((D).down)) [.obj [] (diskP D)] (.sp 28 ((D).down) (
.leaf ⟨[0],[(0,0,none)]⟩ [] .ret (some ([(0, .tup [.p (.v (.pointer none)),nilS,vi 10])],[.obj [] (diskP D)]))) (
.nilrow 8 1 (.loop ⟨[0,1,7,8,9],[(0,0,none),(1,0,none),(2,0,some (([]:List ByteArray).map nameE.f))]⟩ [rowC (([]:List ByteArray).map nameE.f)] (some (TOpen_l1_e D frm (0,0,([]:List ByteArray),frm))) (TOpen_l1_e D frm) (TOpen_l1_x D) (TOpen_l1_x' D) (0,0,([]:List ByteArray),frm) (TOpen_l1_b D frm) (fun (x1:Int×Int×(List ByteArray))=> .leaf ⟨[0],[(0,0,none),(1,0,none),(2,0,some (x1.2.2.map nameE.f))]⟩ [rowC (x1.2.2.map nameE.f)] .ret (some ([(0, .tup [.ptr 1 0 0, .rs 2 0 1 0 x1.2.2.length,vi 0])],[.obj [] (diskP D), .cells false 0 ([.op 0,vi x1.1,vi x1.2.1,vb false]),nameE.bx 0 x1.2.2]))) (fun (y1:Int)=> .leaf ⟨[0],[(0,0,none)]⟩ [] .ret (some ([(0, .tup [.p (.v (.pointer none)),nilS,vi y1])],[.obj [] (diskP D)]))))))))

theorem TOpen_chk (D:Dsk) (frm:Int):fnC DP Γ6 Δ6 Tryd.f16 [.op 0,vi frm] [.obj [] (diskP D)] (TOpen D frm)=TOpen D frm:=by kernel_rfl

noncomputable def TStart (D:Dsk) (part:Int) (good:Int) (opn:Bool) (n:Int):Tree:=
.sp 17 (decide (n<(1:Int))) (
.leaf ⟨[0],[(0,0,none),(1,0,none)]⟩ [] .ret (some ([(0,vi 1)],[.obj [] (diskP D), .cells false 0 ([.op 0,vi part,vi good,vb opn])]))) (
.sp 21 (decide (n>(1073741824:Int))) (
.leaf ⟨[0],[(0,0,none),(1,0,none)]⟩ [] .ret (some ([(0,vi 1)],[.obj [] (diskP D), .cells false 0 ([.op 0,vi part,vi good,vb opn])]))) (
.sp 28 (decide (part>(0:Int))) (
.sp 35 (decide (n≤part)) (
.leaf ⟨[0],[(0,0,none),(1,0,none)]⟩ [] .ret (some ([(0,vi 1)],[.obj [] (diskP D), .cells false 0 ([.op 0,vi part,vi good,vb opn])]))) (
.callr (some 42) (Δ6 55 [.op 0] [.obj [] (diskP D), .cells false 0 ([.op 0,vi part,vi good,vb opn])] (vb ((D).down)) [.obj [] (diskP D), .cells false 0 ([.op 0,vi part,vi good,vb opn])]) (vb ((D).down)) [.obj [] (diskP D), .cells false 0 ([.op 0,vi part,vi good,vb opn])] (.sp 42 ((D).down) (
.leaf ⟨[0],[(0,0,none),(1,0,none)]⟩ [] .ret (some ([(0,vi 10)],[.obj [] (diskP D), .cells false 0 ([.op 0,vi part,vi good,vb opn])]))) (
.call 48 (gHeadW [vi good]=some (vl ((putI good).map byteE.f))) (vl ((putI good).map byteE.f)) (.callr (some 49) (Δ6 58 [nilS,vl ((putI good).map byteE.f)] [.obj [] (diskP D), .cells false 0 ([.op 0,vi part,vi good,vb opn])] (.tup [.rs 2 0 1 0 ((recB (putI good)).length),vi 0]) [.obj [] (diskP D), .cells false 0 ([.op 0,vi part,vi good,vb opn]),byteE.bx 0 (recB (putI good))]) (.tup [.rs 2 0 1 0 ((recB (putI good)).length),vi 0]) [.obj [] (diskP D), .cells false 0 ([.op 0,vi part,vi good,vb opn]),byteE.bx 0 (recB (putI good))] (.sp 59 (decide (part>(0:Int))) (.any (.call 68 (gNameW [vi part]=some (vs (wname part))) (vs (wname part)) (.callr (some 69) (Δ6 54 [.op 0,vs (wname part)] [.obj [] (diskP D), .cells false 0 ([.op 0,vi part,vi good,vb opn]),byteE.bx 0 (recB (putI good))] (vi ((syncD D (wname part)).2)) [.obj [] (diskP ((syncD D (wname part)).1)), .cells false 0 ([.op 0,vi part,vi good,vb opn]),byteE.bx 0 (recB (putI good))]) (vi ((syncD D (wname part)).2)) [.obj [] (diskP ((syncD D (wname part)).1)), .cells false 0 ([.op 0,vi part,vi good,vb opn]),byteE.bx 0 (recB (putI good))] (.sp 71 (((syncD D (wname part)).2) != (0:Int)) (
.leaf ⟨[0],[(0,0,none),(1,0,none)]⟩ [] .ret (some ([(0,vi ((syncD D (wname part)).2))],[.obj [] (diskP ((syncD D (wname part)).1)), .cells false 0 ([.op 0,vi part,vi good,vb opn])]))) (
.callr (some 79) (Δ6 25 [.op 0] [.obj [] (diskP ((syncD D (wname part)).1)), .cells false 0 ([.op 0,vi part,vi good,vb opn]),byteE.bx 0 (recB (putI good))] (vi ((((syncD D (wname part)).1)).room - (((syncD D (wname part)).1)).used)) [.obj [] (diskP ((syncD D (wname part)).1)), .cells false 0 ([.op 0,vi part,vi good,vb opn]),byteE.bx 0 (recB (putI good))]) (vi ((((syncD D (wname part)).1)).room - (((syncD D (wname part)).1)).used)) [.obj [] (diskP ((syncD D (wname part)).1)), .cells false 0 ([.op 0,vi part,vi good,vb opn]),byteE.bx 0 (recB (putI good))] (.sp 80 (decide ((((recB (putI good)).length:Nat):Int)>((((syncD D (wname part)).1)).room - (((syncD D (wname part)).1)).used))) (
.leaf ⟨[0],[(0,0,none),(1,0,none)]⟩ [] .ret (some ([(0,vi 11)],[.obj [] (diskP ((syncD D (wname part)).1)), .cells false 0 ([.op 0,vi part,vi good,vb opn])]))) (
.any (.call 87 (gNameW [vi n]=some (vs (wname n))) (vs (wname n)) (.callr (some 88) (Δ6 60 [.op 0,vs (wname n)] [.obj [] (diskP ((syncD D (wname part)).1)), .cells false 0 ([.op 0,vi part,vi good,vb opn]),byteE.bx 0 (recB (putI good))] (.tup [vi ((sizeD ((syncD D (wname part)).1) (wname n)).1),vi ((sizeD ((syncD D (wname part)).1) (wname n)).2)]) [.obj [] (diskP ((syncD D (wname part)).1)), .cells false 0 ([.op 0,vi part,vi good,vb opn]),byteE.bx 0 (recB (putI good))]) (.tup [vi ((sizeD ((syncD D (wname part)).1) (wname n)).1),vi ((sizeD ((syncD D (wname part)).1) (wname n)).2)]) [.obj [] (diskP ((syncD D (wname part)).1)), .cells false 0 ([.op 0,vi part,vi good,vb opn]),byteE.bx 0 (recB (putI good))] (.sp 92 (((sizeD ((syncD D (wname part)).1) (wname n)).2) == (0:Int)) (
.any (.call 98 (gNameW [vi n]=some (vs (wname n))) (vs (wname n)) (.callr (some 99) (Δ6 61 [.op 0,vs (wname n)] [.obj [] (diskP ((syncD D (wname part)).1)), .cells false 0 ([.op 0,vi part,vi good,vb opn]),byteE.bx 0 (recB (putI good))] (vi ((removeD ((syncD D (wname part)).1) (wname n)).2)) [.obj [] (diskP ((removeD ((syncD D (wname part)).1) (wname n)).1)), .cells false 0 ([.op 0,vi part,vi good,vb opn]),byteE.bx 0 (recB (putI good))]) (vi ((removeD ((syncD D (wname part)).1) (wname n)).2)) [.obj [] (diskP ((removeD ((syncD D (wname part)).1) (wname n)).1)), .cells false 0 ([.op 0,vi part,vi good,vb opn]),byteE.bx 0 (recB (putI good))] (.sp 101 (((removeD ((syncD D (wname part)).1) (wname n)).2) != (0:Int)) (
.leaf ⟨[0],[(0,0,none),(1,0,none)]⟩ [] .ret (some ([(0,vi ((removeD ((syncD D (wname part)).1) (wname n)).2))],[.obj [] (diskP ((removeD ((syncD D (wname part)).1) (wname n)).1)), .cells false 0 ([.op 0,vi part,vi good,vb opn])]))) (
.any (.call 108 (gNameW [vi n]=some (vs (wname n))) (vs (wname n)) (.callr (some 109) (Δ6 24 [.op 0,vs (wname n)] [.obj [] (diskP ((removeD ((syncD D (wname part)).1) (wname n)).1)), .cells false 0 ([.op 0,vi part,vi good,vb opn]),byteE.bx 0 (recB (putI good))] (vi ((createD ((removeD ((syncD D (wname part)).1) (wname n)).1) (wname n)).2)) [.obj [] (diskP ((createD ((removeD ((syncD D (wname part)).1) (wname n)).1) (wname n)).1)), .cells false 0 ([.op 0,vi part,vi good,vb opn]),byteE.bx 0 (recB (putI good))]) (vi ((createD ((removeD ((syncD D (wname part)).1) (wname n)).1) (wname n)).2)) [.obj [] (diskP ((createD ((removeD ((syncD D (wname part)).1) (wname n)).1) (wname n)).1)), .cells false 0 ([.op 0,vi part,vi good,vb opn]),byteE.bx 0 (recB (putI good))] (.sp 111 (((createD ((removeD ((syncD D (wname part)).1) (wname n)).1) (wname n)).2) != (0:Int)) (
.leaf ⟨[0],[(0,0,none),(1,0,none)]⟩ [] .ret (some ([(0,vi ((createD ((removeD ((syncD D (wname part)).1) (wname n)).1) (wname n)).2))],[.obj [] (diskP ((createD ((removeD ((syncD D (wname part)).1) (wname n)).1) (wname n)).1)), .cells false 0 ([.op 0,vi part,vi good,vb opn])]))) (
.any (.call 118 (gNameW [vi n]=some (vs (wname n))) (vs (wname n)) (.callr (some 120) (Δ6 47 [.op 0,vs (wname n), .rs 2 0 1 0 ((recB (putI good)).length)] [.obj [] (diskP ((createD ((removeD ((syncD D (wname part)).1) (wname n)).1) (wname n)).1)), .cells false 0 ([.op 0,vi part,vi good,vb opn]),byteE.bx 0 (recB (putI good))] (vi ((appendD ((createD ((removeD ((syncD D (wname part)).1) (wname n)).1) (wname n)).1) (wname n) (recB (putI good))).2)) [.obj [] (diskP ((appendD ((createD ((removeD ((syncD D (wname part)).1) (wname n)).1) (wname n)).1) (wname n) (recB (putI good))).1)), .cells false 0 ([.op 0,vi part,vi good,vb opn]), .dead]) (vi ((appendD ((createD ((removeD ((syncD D (wname part)).1) (wname n)).1) (wname n)).1) (wname n) (recB (putI good))).2)) [.obj [] (diskP ((appendD ((createD ((removeD ((syncD D (wname part)).1) (wname n)).1) (wname n)).1) (wname n) (recB (putI good))).1)), .cells false 0 ([.op 0,vi part,vi good,vb opn]), .dead] (.sp 122 (((appendD ((createD ((removeD ((syncD D (wname part)).1) (wname n)).1) (wname n)).1) (wname n) (recB (putI good))).2) != (0:Int)) (
.leaf ⟨[0],[(0,0,none),(1,0,none)]⟩ [] .ret (some ([(0,vi ((appendD ((createD ((removeD ((syncD D (wname part)).1) (wname n)).1) (wname n)).1) (wname n) (recB (putI good))).2))],[.obj [] (diskP ((appendD ((createD ((removeD ((syncD D (wname part)).1) (wname n)).1) (wname n)).1) (wname n) (recB (putI good))).1)), .cells false 0 ([.op 0,vi part,vi good,vb opn])]))) (
.leaf ⟨[0],[(0,0,none),(1,0,none)]⟩ [] .ret (some ([(0,vi 0)],[.obj [] (diskP ((appendD ((createD ((removeD ((syncD D (wname part)).1) (wname n)).1) (wname n)).1) (wname n) (recB (putI good))).1)), .cells false 0 ([.op 0,vi n,vi (((recB (putI good)).length:Nat):Int),vb true])]))))))))))))))) (
.any (.call 108 (gNameW [vi n]=some (vs (wname n))) (vs (wname n)) (.callr (some 109) (Δ6 24 [.op 0,vs (wname n)] [.obj [] (diskP ((syncD D (wname part)).1)), .cells false 0 ([.op 0,vi part,vi good,vb opn]),byteE.bx 0 (recB (putI good))] (vi ((createD ((syncD D (wname part)).1) (wname n)).2)) [.obj [] (diskP ((createD ((syncD D (wname part)).1) (wname n)).1)), .cells false 0 ([.op 0,vi part,vi good,vb opn]),byteE.bx 0 (recB (putI good))]) (vi ((createD ((syncD D (wname part)).1) (wname n)).2)) [.obj [] (diskP ((createD ((syncD D (wname part)).1) (wname n)).1)), .cells false 0 ([.op 0,vi part,vi good,vb opn]),byteE.bx 0 (recB (putI good))] (.sp 111 (((createD ((syncD D (wname part)).1) (wname n)).2) != (0:Int)) (
.leaf ⟨[0],[(0,0,none),(1,0,none)]⟩ [] .ret (some ([(0,vi ((createD ((syncD D (wname part)).1) (wname n)).2))],[.obj [] (diskP ((createD ((syncD D (wname part)).1) (wname n)).1)), .cells false 0 ([.op 0,vi part,vi good,vb opn])]))) (
.any (.call 118 (gNameW [vi n]=some (vs (wname n))) (vs (wname n)) (.callr (some 120) (Δ6 47 [.op 0,vs (wname n), .rs 2 0 1 0 ((recB (putI good)).length)] [.obj [] (diskP ((createD ((syncD D (wname part)).1) (wname n)).1)), .cells false 0 ([.op 0,vi part,vi good,vb opn]),byteE.bx 0 (recB (putI good))] (vi ((appendD ((createD ((syncD D (wname part)).1) (wname n)).1) (wname n) (recB (putI good))).2)) [.obj [] (diskP ((appendD ((createD ((syncD D (wname part)).1) (wname n)).1) (wname n) (recB (putI good))).1)), .cells false 0 ([.op 0,vi part,vi good,vb opn]), .dead]) (vi ((appendD ((createD ((syncD D (wname part)).1) (wname n)).1) (wname n) (recB (putI good))).2)) [.obj [] (diskP ((appendD ((createD ((syncD D (wname part)).1) (wname n)).1) (wname n) (recB (putI good))).1)), .cells false 0 ([.op 0,vi part,vi good,vb opn]), .dead] (.sp 122 (((appendD ((createD ((syncD D (wname part)).1) (wname n)).1) (wname n) (recB (putI good))).2) != (0:Int)) (
.leaf ⟨[0],[(0,0,none),(1,0,none)]⟩ [] .ret (some ([(0,vi ((appendD ((createD ((syncD D (wname part)).1) (wname n)).1) (wname n) (recB (putI good))).2))],[.obj [] (diskP ((appendD ((createD ((syncD D (wname part)).1) (wname n)).1) (wname n) (recB (putI good))).1)), .cells false 0 ([.op 0,vi part,vi good,vb opn])]))) (
.leaf ⟨[0],[(0,0,none),(1,0,none)]⟩ [] .ret (some ([(0,vi 0)],[.obj [] (diskP ((appendD ((createD ((syncD D (wname part)).1) (wname n)).1) (wname n) (recB (putI good))).1)), .cells false 0 ([.op 0,vi n,vi (((recB (putI good)).length:Nat):Int),vb true])]))))))))))))))))))))) .stuck)))))) (
.callr (some 42) (Δ6 55 [.op 0] [.obj [] (diskP D), .cells false 0 ([.op 0,vi part,vi good,vb opn])] (vb ((D).down)) [.obj [] (diskP D), .cells false 0 ([.op 0,vi part,vi good,vb opn])]) (vb ((D).down)) [.obj [] (diskP D), .cells false 0 ([.op 0,vi part,vi good,vb opn])] (.sp 42 ((D).down) (
.leaf ⟨[0],[(0,0,none),(1,0,none)]⟩ [] .ret (some ([(0,vi 10)],[.obj [] (diskP D), .cells false 0 ([.op 0,vi part,vi good,vb opn])]))) (
.call 48 (gHeadW [vi good]=some (vl ((putI good).map byteE.f))) (vl ((putI good).map byteE.f)) (.callr (some 49) (Δ6 58 [nilS,vl ((putI good).map byteE.f)] [.obj [] (diskP D), .cells false 0 ([.op 0,vi part,vi good,vb opn])] (.tup [.rs 2 0 1 0 ((recB (putI good)).length),vi 0]) [.obj [] (diskP D), .cells false 0 ([.op 0,vi part,vi good,vb opn]),byteE.bx 0 (recB (putI good))]) (.tup [.rs 2 0 1 0 ((recB (putI good)).length),vi 0]) [.obj [] (diskP D), .cells false 0 ([.op 0,vi part,vi good,vb opn]),byteE.bx 0 (recB (putI good))] (.sp 59 (decide (part>(0:Int))) .stuck (.callr (some 79) (Δ6 25 [.op 0] [.obj [] (diskP D), .cells false 0 ([.op 0,vi part,vi good,vb opn]),byteE.bx 0 (recB (putI good))] (vi ((D).room - (D).used)) [.obj [] (diskP D), .cells false 0 ([.op 0,vi part,vi good,vb opn]),byteE.bx 0 (recB (putI good))]) (vi ((D).room - (D).used)) [.obj [] (diskP D), .cells false 0 ([.op 0,vi part,vi good,vb opn]),byteE.bx 0 (recB (putI good))] (.sp 80 (decide ((((recB (putI good)).length:Nat):Int)>((D).room - (D).used))) (
.leaf ⟨[0],[(0,0,none),(1,0,none)]⟩ [] .ret (some ([(0,vi 11)],[.obj [] (diskP D), .cells false 0 ([.op 0,vi part,vi good,vb opn])]))) (
.any (.call 87 (gNameW [vi n]=some (vs (wname n))) (vs (wname n)) (.callr (some 88) (Δ6 60 [.op 0,vs (wname n)] [.obj [] (diskP D), .cells false 0 ([.op 0,vi part,vi good,vb opn]),byteE.bx 0 (recB (putI good))] (.tup [vi ((sizeD D (wname n)).1),vi ((sizeD D (wname n)).2)]) [.obj [] (diskP D), .cells false 0 ([.op 0,vi part,vi good,vb opn]),byteE.bx 0 (recB (putI good))]) (.tup [vi ((sizeD D (wname n)).1),vi ((sizeD D (wname n)).2)]) [.obj [] (diskP D), .cells false 0 ([.op 0,vi part,vi good,vb opn]),byteE.bx 0 (recB (putI good))] (.sp 92 (((sizeD D (wname n)).2) == (0:Int)) (
.any (.call 98 (gNameW [vi n]=some (vs (wname n))) (vs (wname n)) (.callr (some 99) (Δ6 61 [.op 0,vs (wname n)] [.obj [] (diskP D), .cells false 0 ([.op 0,vi part,vi good,vb opn]),byteE.bx 0 (recB (putI good))] (vi ((removeD D (wname n)).2)) [.obj [] (diskP ((removeD D (wname n)).1)), .cells false 0 ([.op 0,vi part,vi good,vb opn]),byteE.bx 0 (recB (putI good))]) (vi ((removeD D (wname n)).2)) [.obj [] (diskP ((removeD D (wname n)).1)), .cells false 0 ([.op 0,vi part,vi good,vb opn]),byteE.bx 0 (recB (putI good))] (.sp 101 (((removeD D (wname n)).2) != (0:Int)) (
.leaf ⟨[0],[(0,0,none),(1,0,none)]⟩ [] .ret (some ([(0,vi ((removeD D (wname n)).2))],[.obj [] (diskP ((removeD D (wname n)).1)), .cells false 0 ([.op 0,vi part,vi good,vb opn])]))) (
.any (.call 108 (gNameW [vi n]=some (vs (wname n))) (vs (wname n)) (.callr (some 109) (Δ6 24 [.op 0,vs (wname n)] [.obj [] (diskP ((removeD D (wname n)).1)), .cells false 0 ([.op 0,vi part,vi good,vb opn]),byteE.bx 0 (recB (putI good))] (vi ((createD ((removeD D (wname n)).1) (wname n)).2)) [.obj [] (diskP ((createD ((removeD D (wname n)).1) (wname n)).1)), .cells false 0 ([.op 0,vi part,vi good,vb opn]),byteE.bx 0 (recB (putI good))]) (vi ((createD ((removeD D (wname n)).1) (wname n)).2)) [.obj [] (diskP ((createD ((removeD D (wname n)).1) (wname n)).1)), .cells false 0 ([.op 0,vi part,vi good,vb opn]),byteE.bx 0 (recB (putI good))] (.sp 111 (((createD ((removeD D (wname n)).1) (wname n)).2) != (0:Int)) (
.leaf ⟨[0],[(0,0,none),(1,0,none)]⟩ [] .ret (some ([(0,vi ((createD ((removeD D (wname n)).1) (wname n)).2))],[.obj [] (diskP ((createD ((removeD D (wname n)).1) (wname n)).1)), .cells false 0 ([.op 0,vi part,vi good,vb opn])]))) (
.any (.call 118 (gNameW [vi n]=some (vs (wname n))) (vs (wname n)) (.callr (some 120) (Δ6 47 [.op 0,vs (wname n), .rs 2 0 1 0 ((recB (putI good)).length)] [.obj [] (diskP ((createD ((removeD D (wname n)).1) (wname n)).1)), .cells false 0 ([.op 0,vi part,vi good,vb opn]),byteE.bx 0 (recB (putI good))] (vi ((appendD ((createD ((removeD D (wname n)).1) (wname n)).1) (wname n) (recB (putI good))).2)) [.obj [] (diskP ((appendD ((createD ((removeD D (wname n)).1) (wname n)).1) (wname n) (recB (putI good))).1)), .cells false 0 ([.op 0,vi part,vi good,vb opn]), .dead]) (vi ((appendD ((createD ((removeD D (wname n)).1) (wname n)).1) (wname n) (recB (putI good))).2)) [.obj [] (diskP ((appendD ((createD ((removeD D (wname n)).1) (wname n)).1) (wname n) (recB (putI good))).1)), .cells false 0 ([.op 0,vi part,vi good,vb opn]), .dead] (.sp 122 (((appendD ((createD ((removeD D (wname n)).1) (wname n)).1) (wname n) (recB (putI good))).2) != (0:Int)) (
.leaf ⟨[0],[(0,0,none),(1,0,none)]⟩ [] .ret (some ([(0,vi ((appendD ((createD ((removeD D (wname n)).1) (wname n)).1) (wname n) (recB (putI good))).2))],[.obj [] (diskP ((appendD ((createD ((removeD D (wname n)).1) (wname n)).1) (wname n) (recB (putI good))).1)), .cells false 0 ([.op 0,vi part,vi good,vb opn])]))) (
.leaf ⟨[0],[(0,0,none),(1,0,none)]⟩ [] .ret (some ([(0,vi 0)],[.obj [] (diskP ((appendD ((createD ((removeD D (wname n)).1) (wname n)).1) (wname n) (recB (putI good))).1)), .cells false 0 ([.op 0,vi n,vi (((recB (putI good)).length:Nat):Int),vb true])]))))))))))))))) (
.any (.call 108 (gNameW [vi n]=some (vs (wname n))) (vs (wname n)) (.callr (some 109) (Δ6 24 [.op 0,vs (wname n)] [.obj [] (diskP D), .cells false 0 ([.op 0,vi part,vi good,vb opn]),byteE.bx 0 (recB (putI good))] (vi ((createD D (wname n)).2)) [.obj [] (diskP ((createD D (wname n)).1)), .cells false 0 ([.op 0,vi part,vi good,vb opn]),byteE.bx 0 (recB (putI good))]) (vi ((createD D (wname n)).2)) [.obj [] (diskP ((createD D (wname n)).1)), .cells false 0 ([.op 0,vi part,vi good,vb opn]),byteE.bx 0 (recB (putI good))] (.sp 111 (((createD D (wname n)).2) != (0:Int)) (
.leaf ⟨[0],[(0,0,none),(1,0,none)]⟩ [] .ret (some ([(0,vi ((createD D (wname n)).2))],[.obj [] (diskP ((createD D (wname n)).1)), .cells false 0 ([.op 0,vi part,vi good,vb opn])]))) (
.any (.call 118 (gNameW [vi n]=some (vs (wname n))) (vs (wname n)) (.callr (some 120) (Δ6 47 [.op 0,vs (wname n), .rs 2 0 1 0 ((recB (putI good)).length)] [.obj [] (diskP ((createD D (wname n)).1)), .cells false 0 ([.op 0,vi part,vi good,vb opn]),byteE.bx 0 (recB (putI good))] (vi ((appendD ((createD D (wname n)).1) (wname n) (recB (putI good))).2)) [.obj [] (diskP ((appendD ((createD D (wname n)).1) (wname n) (recB (putI good))).1)), .cells false 0 ([.op 0,vi part,vi good,vb opn]), .dead]) (vi ((appendD ((createD D (wname n)).1) (wname n) (recB (putI good))).2)) [.obj [] (diskP ((appendD ((createD D (wname n)).1) (wname n) (recB (putI good))).1)), .cells false 0 ([.op 0,vi part,vi good,vb opn]), .dead] (.sp 122 (((appendD ((createD D (wname n)).1) (wname n) (recB (putI good))).2) != (0:Int)) (
.leaf ⟨[0],[(0,0,none),(1,0,none)]⟩ [] .ret (some ([(0,vi ((appendD ((createD D (wname n)).1) (wname n) (recB (putI good))).2))],[.obj [] (diskP ((appendD ((createD D (wname n)).1) (wname n) (recB (putI good))).1)), .cells false 0 ([.op 0,vi part,vi good,vb opn])]))) (
.leaf ⟨[0],[(0,0,none),(1,0,none)]⟩ [] .ret (some ([(0,vi 0)],[.obj [] (diskP ((appendD ((createD D (wname n)).1) (wname n) (recB (putI good))).1)), .cells false 0 ([.op 0,vi n,vi (((recB (putI good)).length:Nat):Int),vb true])]))))))))))))))))))))))))

theorem TStart_chk (D:Dsk) (part:Int) (good:Int) (opn:Bool) (n:Int):fnC DP Γ6 Δ6 Tryd.f17 [.ptr 1 0 0,vi n] [.obj [] (diskP D), .cells false 0 ([.op 0,vi part,vi good,vb opn])] (TStart D part good opn n)=TStart D part good opn n:=by kernel_rfl

noncomputable def TAdd (D:Dsk) (part:Int) (good:Int) (opn:Bool) (s:ByteArray):Tree:=
.sp 15 opn (
.sbyte 19 (.callr (some 20) (Δ6 58 [nilS, .rs 2 0 1 0 s.data.toList.length] [.obj [] (diskP D), .cells false 0 ([.op 0,vi part,vi good,vb opn]),byteE.bx 0 s.data.toList] (.tup [.rs 3 0 1 0 ((recB s.data.toList).length),vi 0]) [.obj [] (diskP D), .cells false 0 ([.op 0,vi part,vi good,vb opn]), .dead,byteE.bx 0 (recB s.data.toList)]) (.tup [.rs 3 0 1 0 ((recB s.data.toList).length),vi 0]) [.obj [] (diskP D), .cells false 0 ([.op 0,vi part,vi good,vb opn]), .dead,byteE.bx 0 (recB s.data.toList)] (.any (.call 34 (gNameW [vi part]=some (vs (wname part))) (vs (wname part)) (.callr (some 36) (Δ6 47 [.op 0,vs (wname part), .rs 3 0 1 0 ((recB s.data.toList).length)] [.obj [] (diskP D), .cells false 0 ([.op 0,vi part,vi good,vb opn]), .dead,byteE.bx 0 (recB s.data.toList)] (vi ((appendD D (wname part) (recB s.data.toList)).2)) [.obj [] (diskP ((appendD D (wname part) (recB s.data.toList)).1)), .cells false 0 ([.op 0,vi part,vi good,vb opn]), .dead, .dead]) (vi ((appendD D (wname part) (recB s.data.toList)).2)) [.obj [] (diskP ((appendD D (wname part) (recB s.data.toList)).1)), .cells false 0 ([.op 0,vi part,vi good,vb opn]), .dead, .dead] (.sp 38 (((appendD D (wname part) (recB s.data.toList)).2) != (0:Int)) (
.leaf ⟨[0],[(0,0,none),(1,0,none)]⟩ [] .ret (some ([(0,vi ((appendD D (wname part) (recB s.data.toList)).2))],[.obj [] (diskP ((appendD D (wname part) (recB s.data.toList)).1)), .cells false 0 ([.op 0,vi part,vi good,vb opn])]))) (
.int 46 (IntKind.i64.wrap (good+(((recB s.data.toList).length:Nat):Int))) (good+(((recB s.data.toList).length:Nat):Int)) (.leaf ⟨[0],[(0,0,none),(1,0,none)]⟩ [] .ret (some ([(0,vi 0)],[.obj [] (diskP ((appendD D (wname part) (recB s.data.toList)).1)), .cells false 0 ([.op 0,vi part,vi (good+(((recB s.data.toList).length:Nat):Int)),vb opn])])))))))))) (
.leaf ⟨[0],[(0,0,none),(1,0,none)]⟩ [] .ret (some ([(0,vi 7)],[.obj [] (diskP D), .cells false 0 ([.op 0,vi part,vi good,vb opn])])))

theorem TAdd_chk (D:Dsk) (part:Int) (good:Int) (opn:Bool) (s:ByteArray):fnC DP Γ6 Δ6 Tryd.f19 [.ptr 1 0 0,vs s] [.obj [] (diskP D), .cells false 0 ([.op 0,vi part,vi good,vb opn])] (TAdd D part good opn s)=TAdd D part good opn s:=by kernel_rfl

noncomputable def TPart (D:Dsk) (part:Int) (good:Int) (opn:Bool):Tree:=
.leaf ⟨[0],[(0,0,none),(1,0,none)]⟩ [] .ret (some ([(0,vi part)],[.obj [] (diskP D), .cells false 0 ([.op 0,vi part,vi good,vb opn])]))

theorem TPart_chk (D:Dsk) (part:Int) (good:Int) (opn:Bool):fnC DP Γ6 Δ6 Tryd.f18 [.ptr 1 0 0] [.obj [] (diskP D), .cells false 0 ([.op 0,vi part,vi good,vb opn])] (TPart D part good opn)=TPart D part good opn:=by kernel_rfl

noncomputable def TSizeW (D:Dsk) (part:Int) (good:Int) (opn:Bool):Tree:=
.leaf ⟨[0],[(0,0,none),(1,0,none)]⟩ [] .ret (some ([(0,vi good)],[.obj [] (diskP D), .cells false 0 ([.op 0,vi part,vi good,vb opn])]))

theorem TSizeW_chk (D:Dsk) (part:Int) (good:Int) (opn:Bool):fnC DP Γ6 Δ6 Tryd.f21 [.ptr 1 0 0] [.obj [] (diskP D), .cells false 0 ([.op 0,vi part,vi good,vb opn])] (TSizeW D part good opn)=TSizeW D part good opn:=by kernel_rfl

noncomputable def TOpened (D:Dsk) (part:Int) (good:Int) (opn:Bool):Tree:=
.leaf ⟨[0],[(0,0,none),(1,0,none)]⟩ [] .ret (some ([(0,vb opn)],[.obj [] (diskP D), .cells false 0 ([.op 0,vi part,vi good,vb opn])]))

theorem TOpened_chk (D:Dsk) (part:Int) (good:Int) (opn:Bool):fnC DP Γ6 Δ6 Tryd.f27 [.ptr 1 0 0] [.obj [] (diskP D), .cells false 0 ([.op 0,vi part,vi good,vb opn])] (TOpened D part good opn)=TOpened D part good opn:=by kernel_rfl

noncomputable def TNStart (n:Int):Tree:=
.leaf ⟨[0],[]⟩ [] .ret (some ([(0,vi 1)],[]))

theorem TNStart_chk (n:Int):fnC DP Γ6 Δ6 Tryd.f17 [.p (.v (.pointer none)),vi n] [] (TNStart n)=TNStart n:=by kernel_rfl

noncomputable def TNAdd (s:ByteArray):Tree:=
.leaf ⟨[0],[]⟩ [] .ret (some ([(0,vi 1)],[]))

theorem TNAdd_chk (s:ByteArray):fnC DP Γ6 Δ6 Tryd.f19 [.p (.v (.pointer none)),vs s] [] (TNAdd s)=TNAdd s:=by kernel_rfl

noncomputable def TNSync:Tree:=
.leaf ⟨[0],[]⟩ [] .ret (some ([(0,vi 1)],[]))

theorem TNSync_chk:fnC DP Γ6 Δ6 Tryd.f26 [.p (.v (.pointer none))] [] (TNSync)=TNSync:=by kernel_rfl

noncomputable def TNPart:Tree:=
.leaf ⟨[0],[]⟩ [] .ret (some ([(0,vi 0)],[]))

theorem TNPart_chk:fnC DP Γ6 Δ6 Tryd.f18 [.p (.v (.pointer none))] [] (TNPart)=TNPart:=by kernel_rfl

noncomputable def TNSize:Tree:=
.leaf ⟨[0],[]⟩ [] .ret (some ([(0,vi 0)],[]))

theorem TNSize_chk:fnC DP Γ6 Δ6 Tryd.f21 [.p (.v (.pointer none))] [] (TNSize)=TNSize:=by kernel_rfl

noncomputable def TNOpened:Tree:=
.leaf ⟨[0],[]⟩ [] .ret (some ([(0,vb false)],[]))

theorem TNOpened_chk:fnC DP Γ6 Δ6 Tryd.f27 [.p (.v (.pointer none))] [] (TNOpened)=TNOpened:=by kernel_rfl

noncomputable def TNOpen (frm:Int):Tree:=
.leaf ⟨[0],[]⟩ [] .ret (some ([(0, .tup [.p (.v (.pointer none)),nilS,vi 1])],[]))

theorem TNOpen_chk (frm:Int):fnC DP Γ6 Δ6 Tryd.f16 [.p (.v (.pointer none)),vi frm] [] (TNOpen frm)=TNOpen frm:=by kernel_rfl

end Go.Ax
