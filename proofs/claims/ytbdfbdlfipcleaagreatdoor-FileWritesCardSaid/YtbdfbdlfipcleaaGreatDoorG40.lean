/- Trees, printed by gen/w1.py. -/
import Derived.Test.YtbdfbdlfipcleaaGreatDoorG39
set_option linter.unusedVariables false
set_option linter.unusedSimpArgs false
set_option linter.unusedSectionVars false
namespace Go.Ax
open Go.Proofs Go.RowKit
set_option maxRecDepth 100000

noncomputable def ΓO1:Env:=envP [(iLittle,gLittle),(iParP,gParP),(iAllP,gAllP),(iBParse,gBParse),(iOuter,gOuter)]
noncomputable def ΔO1:REnv:=envR [(iSize,liftR OSize),(iGetF,liftR OGetF),(iFPage,liftR OFPage)]
noncomputable def ΓO2:Env:=envP [(iFMake,gFMake)]
noncomputable def ΔO2:REnv:=envR [(iDown,liftR ODown),(iRoom,liftR ORoom),(iCreate,liftR OCreate),(iAppend,takeR OAppend),(iSync,liftR OSync)]

abbrev iFOpen:Nat:=13
noncomputable abbrev nFOpen:Func:=Tryz.f13
theorem hfFOpen:DP.funcs[iFOpen]? = some nFOpen:=by kernel_rfl
theorem heFOpen:enters DP iFOpen=true:=by kernel_rfl
theorem hbFOpen:nFOpen.body.isSome=true:=by kernel_rfl
theorem hnFOpen:nFOpen.ntmps=161:=by kernel_rfl
abbrev iFWrite:Nat:=10
noncomputable abbrev nFWrite:Func:=Tryz.f10
theorem hfFWrite:DP.funcs[iFWrite]? = some nFWrite:=by kernel_rfl
theorem heFWrite:enters DP iFWrite=true:=by kernel_rfl
theorem hbFWrite:nFWrite.body.isSome=true:=by kernel_rfl
theorem hnFWrite:nFWrite.ntmps=47:=by kernel_rfl

noncomputable def TFOpen_l2_e (D:Dsk) (nm:ByteArray) (s2:(List Int)×Int):St:=([(0, .op 0),(1,vs nm),(8,vl (((getF (contF D nm) (((sizeD D nm).1) - 52) 52).1).map byteE.f)),(9, .ptr 1 0 0),(41,vi s2.2)],[.obj [] (diskP D), .cells false 0 (rowC (s2.1.map intE.f))])
noncomputable def TFOpen_l2_x (D:Dsk) (x2:Unit):AE×St:=(.ret,([(4, .p (.v (.pointer none))),(5,vi 12)],[.obj [] (diskP D)]))
noncomputable def TFOpen_l2_x' (D:Dsk) (nm:ByteArray) (y2:(List Int)):AE×St:=((.exit 0),([(0, .op 0),(1,vs nm),(9, .ptr 1 0 0)],[.obj [] (diskP D), .cells false 0 (rowC (y2.map intE.f))]))
noncomputable def TFOpen_l2_b (D:Dsk) (nm:ByteArray) (s2:(List Int)×Int):Tree:=
.sp 42 (decide (s2.2<(5:Int))) (
.int 46 (IntKind.i64.wrap (8*s2.2)) (8*s2.2) (.int 48 (IntKind.i64.wrap (8*s2.2)) (8*s2.2) (.int 49 (IntKind.i64.wrap ((8*s2.2)+8)) ((8*s2.2)+8) (.cut 50 (((getF (contF D nm) (((sizeD D nm).1) - 52) 52).1).map byteE.f) (some (8*s2.2)) (some ((8*s2.2)+8)) byteE ((getF (contF D nm) (((sizeD D nm).1) - 52) 52).1) (.call 51 (gLittle [vl ((cutL (some (8*s2.2)) (some ((8*s2.2)+8)) ((getF (contF D nm) (((sizeD D nm).1) - 52) 52).1)).map byteE.f)]=some (vn .u64 (littleI (cutL (some (8*s2.2)) (some ((8*s2.2)+8)) ((getF (contF D nm) (((sizeD D nm).1) - 52) 52).1))))) (vn .u64 (littleI (cutL (some (8*s2.2)) (some ((8*s2.2)+8)) ((getF (contF D nm) (((sizeD D nm).1) - 52) 52).1)))) (.sp 53 (decide ((littleI (cutL (some (8*s2.2)) (some ((8*s2.2)+8)) ((getF (contF D nm) (((sizeD D nm).1) - 52) 52).1)))>(67108864:Int))) (
.leaf ⟨[4,5],[(0,0,none)]⟩ [] .ret (some (TFOpen_l2_x D ()).2)) (
.int 56 (IntKind.i64.wrap ((littleI (cutL (some (8*s2.2)) (some ((8*s2.2)+8)) ((getF (contF D nm) (((sizeD D nm).1) - 52) 52).1))))) ((littleI (cutL (some (8*s2.2)) (some ((8*s2.2)+8)) ((getF (contF D nm) (((sizeD D nm).1) - 52) 52).1)))) (.pidx 57 5 s2.2 (.rstore none (rowC (s2.1.map intE.f)) (0+Int.toNat s2.2*1) [vi (littleI (cutL (some (8*s2.2)) (some ((8*s2.2)+8)) ((getF (contF D nm) (((sizeD D nm).1) - 52) 52).1)))] intE s2.1 s2.2 (littleI (cutL (some (8*s2.2)) (some ((8*s2.2)+8)) ((getF (contF D nm) (((sizeD D nm).1) - 52) 52).1))) (.int 58 (IntKind.i64.wrap (s2.2+1)) (s2.2+1) (.leaf ⟨[0,1,8,9,41],[(0,0,none),(1,0,some ((s2.1.set (Int.toNat s2.2) (littleI (cutL (some (8*s2.2)) (some ((8*s2.2)+8)) ((getF (contF D nm) (((sizeD D nm).1) - 52) 52).1)))).map intE.f))]⟩ [rowC ((s2.1.set (Int.toNat s2.2) (littleI (cutL (some (8*s2.2)) (some ((8*s2.2)+8)) ((getF (contF D nm) (((sizeD D nm).1) - 52) 52).1)))).map intE.f)] .normal (some (TFOpen_l2_e D nm (s2.1.set (Int.toNat s2.2) (littleI (cutL (some (8*s2.2)) (some ((8*s2.2)+8)) ((getF (contF D nm) (((sizeD D nm).1) - 52) 52).1))),s2.2+1)))))))))))))) (
.leaf ⟨[0,1,9],[(0,0,none),(1,0,some (s2.1.map intE.f))]⟩ [rowC (s2.1.map intE.f)] (.exit 0) (some (TFOpen_l2_x' D nm s2.1).2))
noncomputable def TFOpen_j3_e (D:Dsk) (nm:ByteArray) (e1:Int) (e4:Int) (e5:Int) (e6:Par) (j3:(List Par)×ByteArray):St:=([(12, .ptr 1 0 0)],[.obj [] (diskP D), .cells false 0 ([.op 0,vs nm,vl (j3.1.map parE.f),vl (((bpI ((getF (contF D nm) e4 e5).1)).1).map byteE.f),vi e1,vs j3.2,vs (((outI e6.name.data.toList).1).key)])])
noncomputable def TFOpen_j3 (D:Dsk) (nm:ByteArray) (e1:Int) (e4:Int) (e5:Int) (e6:Par) (j3:(List Par)×ByteArray):Tree:=
.leaf ⟨[0],[(0,0,none),(1,0,none)]⟩ [] .ret (some ([(0, .tup [.ptr 1 0 0,vi 0])],[.obj [] (diskP D), .cells false 0 ([.op 0,vs nm,vl (j3.1.map parE.f),vl (((bpI ((getF (contF D nm) e4 e5).1)).1).map byteE.f),vi e1,vs j3.2,vs (((outI e6.name.data.toList).1).key)])]))
noncomputable def TFOpen (D:Dsk) (nm:ByteArray):Tree:=
.callr (some 20) (ΔO1 36 [.op 0,vs nm] [.obj [] (diskP D)] (.tup [vi ((sizeD D nm).1),vi ((sizeD D nm).2)]) [.obj [] (diskP D)]) (.tup [vi ((sizeD D nm).1),vi ((sizeD D nm).2)]) [.obj [] (diskP D)] (.sp 24 (((sizeD D nm).2) != (0:Int)) (
.leaf ⟨[0],[(0,0,none)]⟩ [] .ret (some ([(0, .tup [.p (.v (.pointer none)),vi ((sizeD D nm).2)])],[.obj [] (diskP D)]))) (
.int 30 (IntKind.i64.wrap (((sizeD D nm).1) - 52)) (((sizeD D nm).1) - 52) (.callr (some 32) (ΔO1 37 [.op 0,vs nm, .agg [vi (((sizeD D nm).1) - 52),vi 52]] [.obj [] (diskP D)] (.tup [vl (((getF (contF D nm) (((sizeD D nm).1) - 52) 52).1).map byteE.f),vi ((getF (contF D nm) (((sizeD D nm).1) - 52) 52).2)]) [.obj [] (diskP D)]) (.tup [vl (((getF (contF D nm) (((sizeD D nm).1) - 52) 52).1).map byteE.f),vi ((getF (contF D nm) (((sizeD D nm).1) - 52) 52).2)]) [.obj [] (diskP D)] (.sp 36 (((getF (contF D nm) (((sizeD D nm).1) - 52) 52).2) != (0:Int)) (
.leaf ⟨[0],[(0,0,none)]⟩ [] .ret (some ([(0, .tup [.p (.v (.pointer none)),vi ((getF (contF D nm) (((sizeD D nm).1) - 52) 52).2)])],[.obj [] (diskP D)]))) (
.int 39 ((((getF (contF D nm) (((sizeD D nm).1) - 52) 52).1).map byteE.f).length:Int) (((getF (contF D nm) (((sizeD D nm).1) - 52) 52).1).length:Int) (.sp 40 ((((getF (contF D nm) (((sizeD D nm).1) - 52) 52).1).length:Int) != (40:Int)) (
.leaf ⟨[0],[(0,0,none)]⟩ [] .ret (some ([(0, .tup [.p (.v (.pointer none)),vi 12])],[.obj [] (diskP D)]))) (
.loop ⟨[0,1,8,9,41],[(0,0,none),(1,0,none)]⟩ [] (some (TFOpen_l2_e D nm ([0,0,0,0,0],0))) (TFOpen_l2_e D nm) (TFOpen_l2_x D) (TFOpen_l2_x' D nm) ([0,0,0,0,0],0) (TFOpen_l2_b D nm) (fun (x2:Unit)=> .leaf ⟨[0],[(0,0,none)]⟩ [] .ret (some ([(0, .tup [.p (.v (.pointer none)),vi 12])],[.obj [] (diskP D)]))) (fun (y2:(List Int))=> .pidx 61 5 4 (.rload 62 (rowC (y2.map intE.f)) (0+Int.toNat 4*1) intE y2 4 0 (fun e1=> .pidx 68 5 0 (.rload 69 (rowC (y2.map intE.f)) (0+Int.toNat 0*1) intE y2 0 0 (fun e2=> .pidx 70 5 1 (.rload 71 (rowC (y2.map intE.f)) (0+Int.toNat 1*1) intE y2 1 0 (fun e3=> .callr (some 73) (ΔO1 37 [.op 0,vs nm, .agg [vi e2,vi e3]] [.obj [] (diskP D), .cells false 0 (rowC (y2.map intE.f)), .cells false 0 ([.op 0,vs nm,nilS,nilS,vi e1,vs (⟨#[]⟩),vs (⟨#[]⟩)])] (.tup [vl (((getF (contF D nm) e2 e3).1).map byteE.f),vi ((getF (contF D nm) e2 e3).2)]) [.obj [] (diskP D), .cells false 0 (rowC (y2.map intE.f)), .cells false 0 ([.op 0,vs nm,nilS,nilS,vi e1,vs (⟨#[]⟩),vs (⟨#[]⟩)])]) (.tup [vl (((getF (contF D nm) e2 e3).1).map byteE.f),vi ((getF (contF D nm) e2 e3).2)]) [.obj [] (diskP D), .cells false 0 (rowC (y2.map intE.f)), .cells false 0 ([.op 0,vs nm,nilS,nilS,vi e1,vs (⟨#[]⟩),vs (⟨#[]⟩)])] (.sp 77 (((getF (contF D nm) e2 e3).2) != (0:Int)) (
.leaf ⟨[0],[(0,0,none)]⟩ [] .ret (some ([(0, .tup [.p (.v (.pointer none)),vi ((getF (contF D nm) e2 e3).2)])],[.obj [] (diskP D)]))) (
.call 81 (gParP [vl (((getF (contF D nm) e2 e3).1).map byteE.f)]=some (.tup [.agg [vl ((pgB ((getF (contF D nm) e2 e3).1)).map byteE.f),vl ((pgW ((getF (contF D nm) e2 e3).1)).map intE.f)],vi (pgE ((getF (contF D nm) e2 e3).1))])) (.tup [.agg [vl ((pgB ((getF (contF D nm) e2 e3).1)).map byteE.f),vl ((pgW ((getF (contF D nm) e2 e3).1)).map intE.f)],vi (pgE ((getF (contF D nm) e2 e3).1))]) (.sp 85 ((pgE ((getF (contF D nm) e2 e3).1)) != (0:Int)) (
.leaf ⟨[0],[(0,0,none)]⟩ [] .ret (some ([(0, .tup [.p (.v (.pointer none)),vi 12])],[.obj [] (diskP D)]))) (
.call 88 (gAllP [.agg [vl ((pgB ((getF (contF D nm) e2 e3).1)).map byteE.f),vl ((pgW ((getF (contF D nm) e2 e3).1)).map intE.f)]]=some (vl (((readI (pgB ((getF (contF D nm) e2 e3).1))).1).map parE.f))) (vl (((readI (pgB ((getF (contF D nm) e2 e3).1))).1).map parE.f)) (.int 95 ((((readI (pgB ((getF (contF D nm) e2 e3).1))).1).map parE.f).length:Int) (((readI (pgB ((getF (contF D nm) e2 e3).1))).1).length:Int) (.sp 96 ((((readI (pgB ((getF (contF D nm) e2 e3).1))).1).length:Int) == (0:Int)) (
.leaf ⟨[0],[(0,0,none)]⟩ [] .ret (some ([(0, .tup [.p (.v (.pointer none)),vi 12])],[.obj [] (diskP D)]))) (
.pidx 100 5 2 (.rload 101 (rowC (y2.map intE.f)) (0+Int.toNat 2*1) intE y2 2 0 (fun e4=> .pidx 102 5 3 (.rload 103 (rowC (y2.map intE.f)) (0+Int.toNat 3*1) intE y2 3 0 (fun e5=> .callr (some 105) (ΔO1 37 [.op 0,vs nm, .agg [vi e4,vi e5]] [.obj [] (diskP D), .cells false 0 (rowC (y2.map intE.f)), .cells false 0 ([.op 0,vs nm,vl (((readI (pgB ((getF (contF D nm) e2 e3).1))).1).map parE.f),nilS,vi e1,vs (⟨#[]⟩),vs (⟨#[]⟩)]), .cells false 0 ([vl ((pgB ((getF (contF D nm) e2 e3).1)).map byteE.f),vl ((pgW ((getF (contF D nm) e2 e3).1)).map intE.f)])] (.tup [vl (((getF (contF D nm) e4 e5).1).map byteE.f),vi ((getF (contF D nm) e4 e5).2)]) [.obj [] (diskP D), .cells false 0 (rowC (y2.map intE.f)), .cells false 0 ([.op 0,vs nm,vl (((readI (pgB ((getF (contF D nm) e2 e3).1))).1).map parE.f),nilS,vi e1,vs (⟨#[]⟩),vs (⟨#[]⟩)]), .cells false 0 ([vl ((pgB ((getF (contF D nm) e2 e3).1)).map byteE.f),vl ((pgW ((getF (contF D nm) e2 e3).1)).map intE.f)])]) (.tup [vl (((getF (contF D nm) e4 e5).1).map byteE.f),vi ((getF (contF D nm) e4 e5).2)]) [.obj [] (diskP D), .cells false 0 (rowC (y2.map intE.f)), .cells false 0 ([.op 0,vs nm,vl (((readI (pgB ((getF (contF D nm) e2 e3).1))).1).map parE.f),nilS,vi e1,vs (⟨#[]⟩),vs (⟨#[]⟩)]), .cells false 0 ([vl ((pgB ((getF (contF D nm) e2 e3).1)).map byteE.f),vl ((pgW ((getF (contF D nm) e2 e3).1)).map intE.f)])] (.sp 109 (((getF (contF D nm) e4 e5).2) != (0:Int)) (
.leaf ⟨[0],[(0,0,none)]⟩ [] .ret (some ([(0, .tup [.p (.v (.pointer none)),vi ((getF (contF D nm) e4 e5).2)])],[.obj [] (diskP D)]))) (
.call 114 (gBParse [vl (((getF (contF D nm) e4 e5).1).map byteE.f)]=some (.tup [.agg [vl (((bpI ((getF (contF D nm) e4 e5).1)).1).map byteE.f)],vi ((bpI ((getF (contF D nm) e4 e5).1)).2)])) (.tup [.agg [vl (((bpI ((getF (contF D nm) e4 e5).1)).1).map byteE.f)],vi ((bpI ((getF (contF D nm) e4 e5).1)).2)]) (.sp 120 (((bpI ((getF (contF D nm) e4 e5).1)).2) != (0:Int)) (
.leaf ⟨[0],[(0,0,none)]⟩ [] .ret (some ([(0, .tup [.p (.v (.pointer none)),vi 12])],[.obj [] (diskP D)]))) (
.callr (some 123) (ΔO1 42 [.ptr 2 0 0,vi 0] [.obj [] (diskP D), .cells false 0 (rowC (y2.map intE.f)), .cells false 0 ([.op 0,vs nm,vl (((readI (pgB ((getF (contF D nm) e2 e3).1))).1).map parE.f),vl (((bpI ((getF (contF D nm) e4 e5).1)).1).map byteE.f),vi e1,vs (⟨#[]⟩),vs (⟨#[]⟩)]), .cells false 0 ([vl ((pgB ((getF (contF D nm) e2 e3).1)).map byteE.f),vl ((pgW ((getF (contF D nm) e2 e3).1)).map intE.f)])] (.tup [vl (((pageI (contF D nm) ((readI (pgB ((getF (contF D nm) e2 e3).1))).1) 0).1).map entE.f),vi ((pageI (contF D nm) ((readI (pgB ((getF (contF D nm) e2 e3).1))).1) 0).2)]) [.obj [] (diskP D), .cells false 0 (rowC (y2.map intE.f)), .cells false 0 ([.op 0,vs nm,vl (((readI (pgB ((getF (contF D nm) e2 e3).1))).1).map parE.f),vl (((bpI ((getF (contF D nm) e4 e5).1)).1).map byteE.f),vi e1,vs (⟨#[]⟩),vs (⟨#[]⟩)]), .cells false 0 ([vl ((pgB ((getF (contF D nm) e2 e3).1)).map byteE.f),vl ((pgW ((getF (contF D nm) e2 e3).1)).map intE.f)])]) (.tup [vl (((pageI (contF D nm) ((readI (pgB ((getF (contF D nm) e2 e3).1))).1) 0).1).map entE.f),vi ((pageI (contF D nm) ((readI (pgB ((getF (contF D nm) e2 e3).1))).1) 0).2)]) [.obj [] (diskP D), .cells false 0 (rowC (y2.map intE.f)), .cells false 0 ([.op 0,vs nm,vl (((readI (pgB ((getF (contF D nm) e2 e3).1))).1).map parE.f),vl (((bpI ((getF (contF D nm) e4 e5).1)).1).map byteE.f),vi e1,vs (⟨#[]⟩),vs (⟨#[]⟩)]), .cells false 0 ([vl ((pgB ((getF (contF D nm) e2 e3).1)).map byteE.f),vl ((pgW ((getF (contF D nm) e2 e3).1)).map intE.f)])] (.sp 127 (((pageI (contF D nm) ((readI (pgB ((getF (contF D nm) e2 e3).1))).1) 0).2) != (0:Int)) (
.leaf ⟨[0],[(0,0,none)]⟩ [] .ret (some ([(0, .tup [.p (.v (.pointer none)),vi ((pageI (contF D nm) ((readI (pgB ((getF (contF D nm) e2 e3).1))).1) 0).2)])],[.obj [] (diskP D)]))) (
.int 138 ((((readI (pgB ((getF (contF D nm) e2 e3).1))).1).map parE.f).length:Int) (((readI (pgB ((getF (contF D nm) e2 e3).1))).1).length:Int) (.int 139 (IntKind.i64.wrap ((((readI (pgB ((getF (contF D nm) e2 e3).1))).1).length:Int) - 1)) ((((readI (pgB ((getF (contF D nm) e2 e3).1))).1).length:Int) - 1) (.elem 140 (((readI (pgB ((getF (contF D nm) e2 e3).1))).1).map parE.f) parE ((readI (pgB ((getF (contF D nm) e2 e3).1))).1) ((((readI (pgB ((getF (contF D nm) e2 e3).1))).1).length:Int) - 1) (fun e6=> .call 143 (gOuter [vs e6.name]=some (.tup [(entE.av ((outI e6.name.data.toList).1)),vi ((outI e6.name.data.toList).2)])) (.tup [(entE.av ((outI e6.name.data.toList).1)),vi ((outI e6.name.data.toList).2)]) (.sp 147 (((outI e6.name.data.toList).2) != (0:Int)) (
.leaf ⟨[0],[(0,0,none)]⟩ [] .ret (some ([(0, .tup [.p (.v (.pointer none)),vi 12])],[.obj [] (diskP D)]))) (
.any (.elem 151 (((pageI (contF D nm) ((readI (pgB ((getF (contF D nm) e2 e3).1))).1) 0).1).map entE.f) entE ((pageI (contF D nm) ((readI (pgB ((getF (contF D nm) e2 e3).1))).1) 0).1) 0 (fun e7=> .fork (
.join ⟨[12],[(0,0,none),(2,0,none)]⟩ [] (some (TFOpen_j3_e D nm e1 e4 e5 e6 ((readI (pgB ((getF (contF D nm) e2 e3).1))).1,e7.key))) (TFOpen_j3_e D nm e1 e4 e5 e6) ((readI (pgB ((getF (contF D nm) e2 e3).1))).1,e7.key) (TFOpen_j3 D nm e1 e4 e5 e6)) (
.join ⟨[12],[(0,0,none),(2,0,none)]⟩ [] (some (TFOpen_j3_e D nm e1 e4 e5 e6 ((readI (pgB ((getF (contF D nm) e2 e3).1))).1,e7.key))) (TFOpen_j3_e D nm e1 e4 e5 e6) ((readI (pgB ((getF (contF D nm) e2 e3).1))).1,e7.key) (TFOpen_j3 D nm e1 e4 e5 e6))))))))))))))))))))))))))))))))))))))))

theorem TFOpen_chk (D:Dsk) (nm:ByteArray):fnC DP ΓO1 ΔO1 Tryz.f13 [.op 0,vs nm] [.obj [] (diskP D)] (TFOpen D nm)=TFOpen D nm:=by kernel_rfl

noncomputable def TFWrite (D:Dsk) (nm:ByteArray) (L:List Ent):Tree:=
.call 14 (gFMake [vl (L.map entE.f)]=some (.tup [vl ((fileY L).map byteE.f),vi 0])) (.tup [vl ((fileY L).map byteE.f),vi 0]) (.callr (some 23) (ΔO2 29 [.op 0] [.obj [] (diskP D)] (vb ((D).down)) [.obj [] (diskP D)]) (vb ((D).down)) [.obj [] (diskP D)] (.sp 23 ((D).down) (
.leaf ⟨[0],[(0,0,none)]⟩ [] .ret (some ([(0, .tup [vi 0,vi 10])],[.obj [] (diskP D)]))) (
.int 25 (((fileY L).map byteE.f).length:Int) ((fileY L).length:Int) (.callr (some 27) (ΔO2 30 [.op 0] [.obj [] (diskP D)] (vi ((D).room - (D).used)) [.obj [] (diskP D)]) (vi ((D).room - (D).used)) [.obj [] (diskP D)] (.sp 28 (decide (((fileY L).length:Int)>((D).room - (D).used))) (
.leaf ⟨[0],[(0,0,none)]⟩ [] .ret (some ([(0, .tup [vi 0,vi 11])],[.obj [] (diskP D)]))) (
.callr (some 31) (ΔO2 31 [.op 0,vs nm] [.obj [] (diskP D)] (vi ((createD D nm).2)) [.obj [] (diskP ((createD D nm).1))]) (vi ((createD D nm).2)) [.obj [] (diskP ((createD D nm).1))] (.sp 33 (((createD D nm).2) != (0:Int)) (
.leaf ⟨[0],[(0,0,none)]⟩ [] .ret (some ([(0, .tup [vi 0,vi ((createD D nm).2)])],[.obj [] (diskP ((createD D nm).1))]))) (
.callr (some 38) (ΔO2 32 [.op 0,vs nm,vl ((fileY L).map byteE.f)] [.obj [] (diskP ((createD D nm).1))] (vi ((appendD ((createD D nm).1) nm (fileY L)).2)) [.obj [] (diskP ((appendD ((createD D nm).1) nm (fileY L)).1))]) (vi ((appendD ((createD D nm).1) nm (fileY L)).2)) [.obj [] (diskP ((appendD ((createD D nm).1) nm (fileY L)).1))] (.sp 40 (((appendD ((createD D nm).1) nm (fileY L)).2) != (0:Int)) (
.leaf ⟨[0],[(0,0,none)]⟩ [] .ret (some ([(0, .tup [vi 0,vi ((appendD ((createD D nm).1) nm (fileY L)).2)])],[.obj [] (diskP ((appendD ((createD D nm).1) nm (fileY L)).1))]))) (
.int 43 (((fileY L).map byteE.f).length:Int) ((fileY L).length:Int) (.callr (some 46) (ΔO2 33 [.op 0,vs nm] [.obj [] (diskP ((appendD ((createD D nm).1) nm (fileY L)).1))] (vi ((syncD ((appendD ((createD D nm).1) nm (fileY L)).1) nm).2)) [.obj [] (diskP ((syncD ((appendD ((createD D nm).1) nm (fileY L)).1) nm).1))]) (vi ((syncD ((appendD ((createD D nm).1) nm (fileY L)).1) nm).2)) [.obj [] (diskP ((syncD ((appendD ((createD D nm).1) nm (fileY L)).1) nm).1))] (.leaf ⟨[0],[(0,0,none)]⟩ [] .ret (some ([(0, .tup [vi ((fileY L).length:Int),vi ((syncD ((appendD ((createD D nm).1) nm (fileY L)).1) nm).2)])],[.obj [] (diskP ((syncD ((appendD ((createD D nm).1) nm (fileY L)).1) nm).1))]))))))))))))))

theorem TFWrite_chk (D:Dsk) (nm:ByteArray) (L:List Ent):fnC DP ΓO2 ΔO2 Tryz.f10 [.op 0,vs nm,vl (L.map entE.f)] [.obj [] (diskP D)] (TFWrite D nm L)=TFWrite D nm L:=by kernel_rfl

end Go.Ax

namespace Go.Ax
open Go.Proofs Go.RowKit
set_option maxRecDepth 100000

theorem ΓO1_ok:∀ f,SoundF DP f (ΓO1 f):=envP_cons SLittle (envP_cons SParP (envP_cons SAllP (envP_cons SBParse (envP_cons SOuter envP_nil))))
theorem ΔO1_ok:∀ f,SoundR DP f (ΔO1 f):=envR_cons (lift_sound SSize) (envR_cons (lift_sound SGetF) (envR_cons (lift_sound SFPage) envR_nil))
theorem ΓO2_ok:∀ f,SoundF DP f (ΓO2 f):=envP_cons SFMake envP_nil
theorem ΔO2_ok:∀ f,SoundR DP f (ΔO2 f):=envR_cons (lift_sound SDown) (envR_cons (lift_sound SRoom) (envR_cons (lift_sound SCreate) (envR_cons (take_sound SAppend) (envR_cons (lift_sound SSync) envR_nil))))
def opQ (e:List UInt8):Nat→Nat→List Int→Unit ⊕ List Int
 | 0,_,ns=> .inr ns
 | j+1,i,ns=>if numF e i>67108864 then .inl () else opQ e j (i+1) (ns.set i (numF e i))
theorem opQ_5 (e:List UInt8):opQ e 5 0 [0,0,0,0,0]=if ((List.range 5).any fun i=>decide (numF e i>67108864))=true then .inl () else .inr [numF e 0,numF e 1,numF e 2,numF e 3,numF e 4]:=by
 have hr:List.range 5= [0,1,2,3,4]:=rfl
 rw[hr]
 by_cases h0:numF e 0>67108864
 ·simp[opQ,h0]
 by_cases h1:numF e 1>67108864
 ·simp[opQ,h0,h1]
 by_cases h2:numF e 2>67108864
 ·simp[opQ,h0,h1,h2]
 by_cases h3:numF e 3>67108864
 ·simp[opQ,h0,h1,h2,h3]
 by_cases h4:numF e 4>67108864
 ·simp[opQ,h0,h1,h2,h3,h4]
 ·simp[opQ,h0,h1,h2,h3,h4]
theorem numF_b (e:List UInt8) (i:Nat):0≤numF e i:=(littleI_b _).1
theorem cut_num (e:List UInt8) (i:Nat):littleI (cutL (some (8*(i:Int))) (some (8*(i:Int)+8)) e)=numF e i:=by
 show littleI ((e.take (Int.toNat (8*(i:Int)+8))).drop (Int.toNat (8*(i:Int))))=littleI ((e.drop (8*i)).take 8)
 rw[show Int.toNat (8*(i:Int)+8)=8*i+8 by omega,show Int.toNat (8*(i:Int))=8*i by omega,List.drop_take,show 8*i+8 - 8*i=8 by omega]
theorem op_rounds {D:Dsk} {nm:ByteArray} (h40:(getF (contF D nm) ((sizeD D nm).1 - 52) 52).1.length=40):∀ (j i:Nat) (ns:List Int),i+j=5→ns.length=5 →
  Rounds (TFOpen_l2_e D nm) (TFOpen_l2_x D) (TFOpen_l2_x' D nm) (fun s=>(TFOpen_l2_b D nm s).wp) (ns,(i:Int)) (opQ (getF (contF D nm) ((sizeD D nm).1 - 52) 52).1 j i ns):=by
 intro j
 induction j with
 | zero=>
  intro i ns hi hn
  rw[opQ]
  refine .done' (by intro e; cases e) ?_
  unfold TFOpen_l2_b
  exact wp_sp (fun h'=>absurd (of_decide_eq_true h') (by simp only; omega)) (fun _=>wp_leaf rfl ⟨rfl,rfl⟩)
 | succ j ih=>
  intro i ns hi hn
  have hc:=cut_num (getF (contF D nm) ((sizeD D nm).1 - 52) 52).1 i
  have hb:=numF_b (getF (contF D nm) ((sizeD D nm).1 - 52) 52).1 i
  have hg:=gLittle_eq (b:=cutL (some (8*(i:Int))) (some (8*(i:Int)+8)) (getF (contF D nm) ((sizeD D nm).1 - 52) 52).1) (by simp only[cutL,List.length_drop,List.length_take]; omega)
  rw[hc] at hg
  rw[opQ]
  by_cases h:numF (getF (contF D nm) ((sizeD D nm).1 - 52) 52).1 i>67108864
  ·rw[if_pos h]
   refine .done (by intro e; cases e) ?_
   unfold TFOpen_l2_b
   dsimp only
   rw[hc]
   exact wp_sp (fun _=>wp_i64 (by omega) (wp_i64 (by omega) (wp_i64 (by omega) (wp_cut (by simp only[cutOk]; omega) (wp_call hg (wp_sp (fun _=>wp_leaf rfl ⟨rfl,rfl⟩) (fun q=>absurd h (of_decide_eq_false q)))))))) (fun h'=>absurd (of_decide_eq_false h') (by omega))
  ·rw[if_neg h]
   have hr:=ih (i+1) (ns.set i (numF (getF (contF D nm) ((sizeD D nm).1 - 52) 52).1 i)) (by omega) (by rw[List.length_set]; exact hn)
   rw[show ((i+1:Nat):Int)=(i:Int)+1 by omega] at hr
   refine .next ?_ hr
   unfold TFOpen_l2_b
   dsimp only
   rw[hc]
   refine wp_sp (fun _=>wp_i64 (by omega) (wp_i64 (by omega) (wp_i64 (by omega) (wp_cut (by simp only[cutOk]; omega) (wp_call hg (wp_sp (fun q=>absurd (of_decide_eq_true q) h) (fun _=>wp_i64 (by omega) (wp_pidx (by omega) (by omega) (wp_rstore (by omega) (by omega) (by simp[intE]) rfl (wp_i64 (by omega) (wp_leaf rfl ⟨rfl,?_⟩))))))))))) (fun h'=>absurd (of_decide_eq_false h') (by omega))
   rw[Int.toNat_natCast]
theorem page0_e {c:List UInt8} {idx:List Par} (h:idx≠ []):((pageI c idx 0).2=0∧(pageI c idx 0).1≠ [])∨(pageI c idx 0).2=12:=by
 cases idx with
 | nil=>exact absurd rfl h
 | cons p idx=>
  rw[page_of (i:=0) (by decide) (p:=p) rfl]
  split
  ·exact .inr rfl
  ·split
   ·exact .inr rfl
   ·split
    ·exact .inr rfl
    ·rename_i h; exact .inl ⟨rfl,h⟩
theorem readI_okV {b:List UInt8} {L:List Par} (h:readI b=(L,0)) (hb:b.length≤100000000):(∀ p∈L,ParOk p)∧L.length≤b.length:=by
 unfold readI at h
 cases hA:readA b.length b.length b [] with
 | none=>rw[hA] at h; cases h
 | some M=>
  rw[hA] at h
  cases h
  obtain ⟨h1,h2⟩:=read_ok _ _ _ _ _ hA
  refine ⟨fun p hp=>?_,h2⟩
  have:=h1 p hp
  have e1:p.nl.length=p.name.size:=rfl
  have e2:p.vl.length=p.val.size:=rfl
  simp only[List.length_nil] at this
  exact ⟨by omega,by omega⟩
theorem bp_e (d:List UInt8):((bpI d).2=2)∨((bpI d).2=0∧(bpI d).1.length≤1048576):=by
 unfold bpI
 split
 ·exact .inl rfl
 ·split
  ·exact .inl rfl
  ·exact .inr ⟨rfl,by simp only; omega⟩
theorem openI_steps {c:List UInt8} {f:List UInt8} (hf:getF c (c.length - 52) 52=(f,0)) (h40:f.length=40):openI c =
  (if ((List.range 5).any fun i=>decide (numF f i>67108864))=true then (noFile,12) else
  if (getF c (numF f 0) (numF f 1)).2≠0 then (noFile,12) else
  match parI (getF c (numF f 0) (numF f 1)).1 with
  | none=>(noFile,12)
  | some idx=>if idx= [] then (noFile,12) else if (getF c (numF f 2) (numF f 3)).2≠0 then (noFile,12) else if (bpI (getF c (numF f 2) (numF f 3)).1).2≠0 then (noFile,12) else
   if (pageI c idx 0).2≠0 then (noFile,12) else if (outI (idx.getLastD ⟨⟨#[]⟩,⟨#[]⟩⟩).nl).2≠0 then (noFile,12) else
   (⟨idx,(bpI (getF c (numF f 2) (numF f 3)).1).1,numF f 4,((pageI c idx 0).1.headD noE).key,(outI (idx.getLastD ⟨⟨#[]⟩,⟨#[]⟩⟩).nl).1.key⟩,0):FileR×Int):=by
 unfold openI headI
 rw[hf,if_neg (by rintro (e | e); exact e rfl; exact e h40)]
 simp only
 by_cases h1:((List.range 5).any fun i=>decide (numF f i>67108864))=true
 ·rw[if_pos h1,if_pos h1]
 rw[if_neg h1,if_neg h1]
 by_cases h2:(getF c (numF f 0) (numF f 1)).2≠0
 ·rw[if_pos h2,if_pos h2]
 rw[if_neg h2,if_neg h2]
 cases parI (getF c (numF f 0) (numF f 1)).1 with
 | none=>rfl
 | some idx=>
  simp only
  by_cases h3:idx= []
  ·rw[if_pos h3,if_pos h3]
  rw[if_neg h3,if_neg h3]
  by_cases h4:(getF c (numF f 2) (numF f 3)).2≠0
  ·rw[if_pos h4,if_pos h4]
  rw[if_neg h4,if_neg h4]
  unfold bpI
  cases (getF c (numF f 2) (numF f 3)).1 with
  | nil=>rfl
  | cons b bits=>
   simp only
   by_cases h5:bits.length<8∨bits.length>1048576∨b≠6
   ·rw[if_pos h5,if_pos h5]; rfl
   ·rw[if_neg h5,if_neg h5]; rfl
theorem openI_bad {c:List UInt8} (h:(getF c (c.length - 52) 52).2≠0∨(getF c (c.length - 52) 52).1.length≠40):openI c=(noFile,12):=by
 unfold openI headI
 rw[if_pos h]
theorem par_parts {b:List UInt8} {L:List Par} (h:parI b=some L) (hb:b.length≤100000000):(∀ p∈L,ParOk p)∧L.length≤b.length:=by
 have h1:=par_all h
 have h2:=pgB_len b
 obtain ⟨g1,g2⟩:=readI_okV h1 (by omega)
 exact ⟨g1,by omega⟩
theorem open_ok {c:List UInt8} (hc:c.length≤67108864) (h:(openI c).2=0):FOk (openI c).1:=by
 by_cases hf:(getF c (c.length - 52) 52).2≠0∨(getF c (c.length - 52) 52).1.length≠40
 ·rw[openI_bad hf] at h; cases h
 ·have h1:getF c (c.length - 52) 52=((getF c (c.length - 52) 52).1,0):=by
   rw[Prod.ext_iff]
   exact ⟨rfl,Decidable.not_not.1 fun e=>hf (.inl e)⟩
  have h2:(getF c (c.length - 52) 52).1.length=40:=Decidable.not_not.1 fun e=>hf (.inr e)
  rw[openI_steps h1 h2] at h ⊢
  generalize (getF c (c.length - 52) 52).1=f at *
  split at h
  ·cases h
  ·split at h
   ·cases h
   ·cases hp:parI (getF c (numF f 0) (numF f 1)).1 with
    | none=>rw[hp] at h; cases h
    | some idx=>
     rw[hp] at h
     simp only at h
     have hl:=getF_len c (numF f 0) (numF f 1)
     obtain ⟨g1,g2⟩:=par_parts hp (by omega)
     split at h
     ·cases h
     ·split at h
      ·cases h
      ·split at h
       ·cases h
       ·split at h
        ·cases h
        ·split at h
         ·cases h
         ·rename_i a1 a2 a3 a4 a5 a6 a7
          rw[if_neg (by assumption),if_neg (by assumption)]
          simp only
          rw[if_neg (by assumption),if_neg (by assumption),if_neg (by assumption),if_neg (by assumption),if_neg (by assumption)]
          refine ⟨by simp only; omega,g1,?_⟩
          rcases bp_e (getF c (numF f 2) (numF f 3)).1 with e | e
          ·exact absurd a5 (by rw[e]; decide)
          ·exact Nat.le_trans e.2 (by decide)
end Go.Ax

namespace Go.Ax
open Go.Proofs Go.RowKit
set_option maxRecDepth 100000

def OFOpen:RSpec:=fun args B r B'=>∃ (D:Dsk) (nm:ByteArray),D.Ok∧D.down=false∧args= [.op 0,vs nm]∧B= [dskB D] ∧
 ((D.get nm=none∧r= .tup [nilQ,vi 4]∧B'=B)∨(D.get nm≠none∧(openI (contF D nm)).2≠0∧r= .tup [nilQ,vi 12]∧B'=B) ∨
  (D.get nm≠none∧(openI (contF D nm)).2=0∧r= .tup [.ptr 1 0 0,vi 0]∧B'= [dskB D,filC 0 nm (openI (contF D nm)).1]))
theorem last_get {L:List Par} (h:L≠ []):∃ p,L[L.length - 1]? = some p∧L.getLastD ⟨⟨#[]⟩,⟨#[]⟩⟩=p:=by
 have hp:=List.length_pos_iff.2 h
 refine ⟨L[L.length - 1],List.getElem?_eq_getElem (by omega),?_⟩
 rw[List.getLastD_eq_getLast?,List.getLast?_eq_getElem?,List.getElem?_eq_getElem (by omega)]
 rfl
theorem head_get {L:List Ent} (h:L≠ []):∃ e,L[0]? = some e∧L.headD noE=e:=by
 cases L with
 | nil=>exact absurd rfl h
 | cons e L=>exact ⟨e,rfl,rfl⟩
theorem SFOpen:SoundR DP iFOpen OFOpen:=sound_genT mixedD ΓO1_ok ΔO1_ok hfFOpen heFOpen hbFOpen (by
 rintro args B r B' ⟨D,nm,ok,hd,rfl,rfl,hcase⟩
 refine ⟨by rw[hnFOpen]; rfl,_,TFOpen_chk D nm,?_⟩
 have hS:sizeD D nm=match D.get nm with | none=>(0,4) | some x=>((x.b.length:Int),0):=by
  unfold sizeD
  rw[hd]
  rfl
 have hcl:=contF_len ok nm
 unfold TFOpen
 refine wp_callr (oSize ok rfl) ?_
 cases hg:D.get nm with
 | none=>
  rw[hg] at hS hcase
  simp only at hS
  rw[hS]
  rcases hcase with ⟨_,rfl,rfl⟩ | ⟨h,_⟩ | ⟨h,_⟩
  ·exact wp_sp (fun _=>wp_leaf rfl ⟨rfl,rfl⟩) (fun q=>by simp at q)
  ·exact absurd rfl h
  ·exact absurd rfl h
 | some x=>
  have hcont:contF D nm=x.b:=by unfold contF; rw[hg]
  rw[hg] at hS hcase
  simp only at hS
  have hR:=op_rounds (D:=D) (nm:=nm)
  rw[hS] at hR ⊢
  have hlen:((x.b.length:Nat):Int)=((contF D nm).length:Int):=by rw[hcont]
  dsimp only at hR ⊢
  rw[hlen] at hR ⊢
  have hcase:((openI (contF D nm)).2≠0∧r= .tup [nilQ,vi 12]∧B'= [dskB D])∨((openI (contF D nm)).2=0∧r= .tup [.ptr 1 0 0,vi 0]∧B'= [dskB D,filC 0 nm (openI (contF D nm)).1]):=by
   rcases hcase with ⟨h,_⟩ | ⟨_,h⟩ | ⟨_,h⟩
   ·cases h
   ·exact .inl h
   ·exact .inr h
  clear hS hg hcont hlen
  have bad:openI (contF D nm)=(noFile,12)→AV.tup [nilQ,vi 12]=r∧ [dskB D]=B':=fun h=>by
   rw[h] at hcase
   rcases hcase with ⟨_,h1,h2⟩ | ⟨h1,_⟩
   ·exact ⟨h1.symm,h2.symm⟩
   ·cases h1
  refine wp_sp (fun q=>by simp at q) (fun _=>wp_i64 (by omega) (wp_callr (oGetF ok hd rfl) (wp_sp (fun q=>?_) (fun q=>wp_len (wp_sp (fun q2=>?_) (fun q2=>?_))))))
  ·have q:(getF (contF D nm) ((contF D nm).length - 52) 52).2≠0:=by simpa using q
   have hb:=bad (openI_bad (.inl q))
   rw[(getF_e _ _ _).resolve_left q]
   exact wp_leaf rfl hb
  ·have q2:(getF (contF D nm) ((contF D nm).length - 52) 52).1.length≠40:=fun e=>by rw[e] at q2; simp at q2
   exact wp_leaf rfl (bad (openI_bad (.inr q2)))
  ·have q:(getF (contF D nm) ((contF D nm).length - 52) 52).2=0:=by simpa using q
   have q2:(getF (contF D nm) ((contF D nm).length - 52) 52).1.length=40:=by rw[bne_eq_false_iff_eq] at q2; omega
   have hf:getF (contF D nm) ((contF D nm).length - 52) 52=((getF (contF D nm) ((contF D nm).length - 52) 52).1,0):=by
    rw[Prod.ext_iff]; exact ⟨rfl,q⟩
   have hO:=openI_steps hf q2
   have hr:=hR q2 5 0 [0,0,0,0,0] rfl rfl
   rw[opQ_5] at hr
   have n0:=numF_b (getF (contF D nm) ((contF D nm).length - 52) 52).1
   generalize (getF (contF D nm) ((contF D nm).length - 52) 52).1=f at hO hr n0
   clear hf hR q q2
   by_cases h1:((List.range 5).any fun i=>decide (numF f i>67108864))=true
   ·rw[if_pos h1] at hO hr
    exact wp_loop _ rfl hr (wp_leaf rfl (bad hO))
   ·rw[if_neg h1] at hO hr
    refine wp_loop' _ rfl hr (wp_pidx (by decide) (by decide) (wp_rload _ (by decide) rfl rfl (wp_pidx (by decide) (by decide) (wp_rload _ (by decide) rfl rfl (wp_pidx (by decide) (by decide) (wp_rload _ (by decide) rfl rfl (wp_callr (oGetF ok hd rfl) (wp_sp (fun q=>?_) (fun q=>?_)))))))))
    ·have q:(getF (contF D nm) (numF f 0) (numF f 1)).2≠0:=by simpa using q
     rw[if_pos q] at hO
     rw[(getF_e _ _ _).resolve_left q]
     exact wp_leaf rfl (bad hO)
    ·have q:(getF (contF D nm) (numF f 0) (numF f 1)).2=0:=by simpa using q
     rw[if_neg (fun e=>e q)] at hO
     have hl1:=getF_len (contF D nm) (numF f 0) (numF f 1)
     have hpE:pgE (getF (contF D nm) (numF f 0) (numF f 1)).1=match parI (getF (contF D nm) (numF f 0) (numF f 1)).1 with | none=>2 | some _=>0:=rfl
     refine wp_call (gParP_eq (by omega)) ?_
     cases hp:parI (getF (contF D nm) (numF f 0) (numF f 1)).1 with
     | none=>
      rw[hp] at hO hpE
      rw[hpE]
      exact wp_sp (fun _=>wp_leaf rfl (bad hO)) (fun q=>by simp at q)
     | some idx=>
      rw[hp] at hO hpE
      simp only at hO hpE
      have hall:=par_all hp
      have hpl:=pgB_len (getF (contF D nm) (numF f 0) (numF f 1)).1
      obtain ⟨k1,k2⟩:=par_parts hp (by omega)
      rw[hpE]
      refine wp_sp (fun q=>by simp at q) (fun _=>wp_call (gAllP_eq (by omega)) ?_)
      rw[hall]
      dsimp only
      refine wp_len (wp_sp (fun q3=>?_) (fun q3=>?_))
      ·rw[if_pos (List.eq_nil_of_length_eq_zero (by rw[beq_iff_eq] at q3; omega))] at hO
       exact wp_leaf rfl (bad hO)
      ·have hne:idx≠ []:=fun e=>by rw[e] at q3; simp at q3
       rw[if_neg hne] at hO
       refine wp_pidx (by decide) (by decide) (wp_rload _ (by decide) rfl rfl (wp_pidx (by decide) (by decide) (wp_rload _ (by decide) rfl rfl (wp_callr (oGetF ok hd rfl) (wp_sp (fun q4=>?_) (fun q4=>?_))))))
       ·have q4:(getF (contF D nm) (numF f 2) (numF f 3)).2≠0:=by simpa using q4
        rw[if_pos q4] at hO
        rw[(getF_e _ _ _).resolve_left q4]
        exact wp_leaf rfl (bad hO)
       ·have q4:(getF (contF D nm) (numF f 2) (numF f 3)).2=0:=by simpa using q4
        rw[if_neg (fun e=>e q4)] at hO
        have hl2:=getF_len (contF D nm) (numF f 2) (numF f 3)
        have hbp:=bp_e (getF (contF D nm) (numF f 2) (numF f 3)).1
        refine wp_call (gBParse_eq (by omega)) (wp_sp (fun q5=>?_) (fun q5=>?_))
        ·rw[if_pos (by simpa using q5)] at hO
         exact wp_leaf rfl (bad hO)
        ·have q5:(bpI (getF (contF D nm) (numF f 2) (numF f 3)).1).2=0:=by simpa using q5
         rw[if_neg (fun e=>e q5)] at hO
         have hbl:(bpI (getF (contF D nm) (numF f 2) (numF f 3)).1).1.length≤10000000:=by
          rcases hbp with e | e
          ·rw[e] at q5; cases q5
          ·omega
         have hF:FOk (⟨idx,(bpI (getF (contF D nm) (numF f 2) (numF f 3)).1).1,numF f 4,⟨#[]⟩,⟨#[]⟩⟩:FileR):=⟨by simp only; omega,k1,hbl⟩
         refine wp_callr (oFPage (b:=0) (F:=(⟨idx,(bpI (getF (contF D nm) (numF f 2) (numF f 3)).1).1,numF f 4,⟨#[]⟩,⟨#[]⟩⟩:FileR)) ok hd hF rfl rfl) ?_
         rcases page0_e (c:=contF D nm) hne with ⟨e1,e2⟩ | e1
         ·rw[if_neg (fun e=>e e1)] at hO
          obtain ⟨p,p1,p2⟩:=last_get hne
          obtain ⟨e,g1,g2⟩:=head_get e2
          have hpos:=List.length_pos_iff.2 hne
          have hps:=(k1 p (List.mem_of_getElem? p1)).1
          rw[p2,g2] at hO
          refine wp_sp (fun q6=>by rw[e1] at q6; simp at q6) (fun _=>wp_len (wp_i64 (by omega) (wp_elem0 p (by omega) (by rw[show ((idx.length:Int) - 1).toNat=idx.length - 1 by omega]; exact p1) (wp_call (gOuter_eq p.name (by omega)) (wp_sp (fun q7=>?_) (fun q7=>?_))))))
          ·have q7:(outI p.nl).2≠0:=by simpa using q7
           rw[if_pos q7] at hO
           exact wp_leaf rfl (bad hO)
          ·have q7:(outI p.nl).2=0:=by simpa using q7
           rw[if_neg (fun e=>e q7)] at hO
           rw[hO] at hcase
           rcases hcase with ⟨h,_⟩ | ⟨_,rfl,rfl⟩
           ·exact absurd rfl h
           ·refine wp_any (wp_elem0 e (by decide) (by simpa using g1) (wp_fork ?_ ?_))
            all_goals
             refine wp_join rfl ?_
             unfold TFOpen_j3
             exact wp_leaf rfl ⟨rfl,rfl⟩
         ·rw[if_pos (by rw[e1]; decide)] at hO
          rw[e1]
          exact wp_sp (fun _=>wp_leaf rfl (bad hO)) (fun q=>by simp at q))
theorem oFOpen {B:List Box} {b:Nat} {D:Dsk} {nm:ByteArray} (ok:D.Ok) (hd:D.down=false) (hg:D.get nm≠none) (h:(openI (contF D nm)).2=0) (hb:B[b]? = some (dskB D)):
  liftR OFOpen [.op b,vs nm] B (.tup [.ptr B.length 0 0,vi 0]) (B++ [filC b nm (openI (contF D nm)).1]):=by
 have hlt:b<B.length:=(List.getElem?_eq_some_iff.1 hb).1
 refine ⟨_,_,_,_,⟨D,nm,ok,hd,rfl,rfl, .inr (.inr ⟨hg,h,rfl,rfl⟩)⟩,⟨[b],[0],[dskB D],[dskB D],[filC b nm (openI (contF D nm)).1],?_,?_,?_,rfl,⟨.objs rfl rfl,trivial⟩,⟨.objs rfl rfl, .cells ?_ ?_ rfl,trivial⟩,?_,?_,rfl⟩⟩
 ·simp[noDup,Nat.blt_eq,hlt]
 ·simp[hb]
 ·simp[AV.rv.rvL,AV.rv,fNew]
 ·simp[dNew]
 ·simp[AV.rv.rvL,AV.rv,fNew]
 ·rw[outB,outB,set_same hb]
 ·simp[AV.rv,AV.rv.rvL,fNew,dNew]
theorem oFOpenF {B:List Box} {b:Nat} {D:Dsk} {nm:ByteArray} (ok:D.Ok) (hd:D.down=false) (hg:D.get nm≠none) (h:(openI (contF D nm)).2≠0) (hb:B[b]? = some (dskB D)):
  liftR OFOpen [.op b,vs nm] B (.tup [nilQ,vi 12]) B:=
 lift_see (R:=OFOpen) ⟨D,nm,ok,hd,rfl,rfl, .inr (.inl ⟨hg,h,rfl,rfl⟩)⟩ hb (fun _ _=>rfl) (fun _=>rfl) rfl
theorem oFOpenN {B:List Box} {b:Nat} {D:Dsk} {nm:ByteArray} (ok:D.Ok) (hd:D.down=false) (hg:D.get nm=none) (hb:B[b]? = some (dskB D)):
  liftR OFOpen [.op b,vs nm] B (.tup [nilQ,vi 4]) B:=
 lift_see (R:=OFOpen) ⟨D,nm,ok,hd,rfl,rfl, .inl ⟨hg,rfl,rfl⟩⟩ hb (fun _ _=>rfl) (fun _=>rfl) rfl
end Go.Ax

namespace Go.Ax
open Go.Proofs Go.RowKit
set_option maxRecDepth 100000

def writeD (D:Dsk) (nm:ByteArray) (b:List UInt8):Dsk×Int×Int:=
 if D.down then (D,0,10) else if (b.length:Int)>D.room - D.used then (D,0,11) else
 if (createD D nm).2≠0 then ((createD D nm).1,0,(createD D nm).2) else
 if (appendD (createD D nm).1 nm b).2≠0 then ((appendD (createD D nm).1 nm b).1,0,(appendD (createD D nm).1 nm b).2) else
 ((syncD (appendD (createD D nm).1 nm b).1 nm).1,b.length,(syncD (appendD (createD D nm).1 nm b).1 nm).2)
def OFWrite:RSpec:=fun args B r B'=>∃ (D:Dsk) (nm:ByteArray) (L:List Ent),D.Ok∧Fits L∧nm.size≤1000000000∧args= [.op 0,vs nm,vl (L.map entE.f)]∧B= [dskB D] ∧
 r= .tup [vi (writeD D nm (fileY L)).2.1,vi (writeD D nm (fileY L)).2.2]∧B'= [dskB (writeD D nm (fileY L)).1]
theorem SFWrite:SoundR DP iFWrite OFWrite:=sound_genT mixedD ΓO2_ok ΔO2_ok hfFWrite heFWrite hbFWrite (by
 rintro args B r B' ⟨D,nm,L,ok,hf,hn,rfl,rfl,rfl,rfl⟩
 refine ⟨by rw[hnFWrite]; rfl,_,TFWrite_chk D nm L,?_⟩
 have hl:=fileY_len hf
 have ok1:=createD_ok ok nm
 have ok2:=appendD_ok ok1 nm (fileY L)
 unfold TFWrite writeD
 refine wp_call (gFMake_eq hf) (wp_callr (oDown ok rfl) (wp_sp (fun h=>?_) (fun h=>wp_len (wp_callr (oRoom ok rfl) (wp_sp (fun g=>?_) (fun g=>wp_callr (oCreate ok hn rfl) (wp_sp (fun k=>?_) (fun k=>wp_callr (oAppend ok1 (by omega) rfl) (wp_sp (fun m=>?_) (fun m=>wp_len (wp_callr (oSync ok2 rfl) (wp_leaf rfl ?_)))))))))))) 
 ·rw[if_pos h]; exact wp_leaf rfl ⟨rfl,rfl⟩
 ·rw[h,if_neg (by decide),if_pos (of_decide_eq_true g)]; exact wp_leaf rfl ⟨rfl,rfl⟩
 ·rw[h,if_neg (by decide),if_neg (of_decide_eq_false g),if_pos (by simpa using k)]; exact wp_leaf rfl ⟨rfl,rfl⟩
 ·rw[h,if_neg (by decide),if_neg (of_decide_eq_false g),if_neg (fun e=>e (by simpa using k)),if_pos (by simpa using m)]; exact wp_leaf rfl ⟨rfl,rfl⟩
 ·rw[h,if_neg (by decide),if_neg (of_decide_eq_false g),if_neg (fun e=>e (by simpa using k)),if_neg (fun e=>e (by simpa using m))]; exact ⟨rfl,rfl⟩)
theorem oFWrite {B:List Box} {b:Nat} {D:Dsk} {nm:ByteArray} {L:List Ent} (ok:D.Ok) (hf:Fits L) (hn:nm.size≤1000000000) (hb:B[b]? = some (dskB D)):
  liftR OFWrite [.op b,vs nm,vl (L.map entE.f)] B (.tup [vi (writeD D nm (fileY L)).2.1,vi (writeD D nm (fileY L)).2.2]) (B.set b (dskB (writeD D nm (fileY L)).1)):=
 lift_obj (R:=OFWrite) ⟨D,nm,L,ok,hf,hn,rfl,rfl,rfl,rfl⟩ hb rfl rfl
theorem write_live {D:Dsk} (h:Live D) {nm:ByteArray} (hn:isName nm=true) (hc:D.cont nm=none) {b:List UInt8} (hr:(b.length:Int)≤D.room - D.used):
  (writeD D nm b).2=((b.length:Int),0)∧Live (writeD D nm b).1∧(∀ m,(writeD D nm b).1.cont m=if nm=m then some b else D.cont m)∧(writeD D nm b).1.used=D.used+b.length∧(writeD D nm b).1.room=D.room:=by
 obtain ⟨a1,a2,a3,a4,a5⟩:=cont_create h hn hc
 obtain ⟨b1,b2,b3,b4,b5⟩:=cont_append a2 (nm:=nm) (c:= []) (bs:=b) (by rw[a3,if_pos rfl]) (by omega)
 obtain ⟨c1,c2,c3,c4,c5⟩:=cont_sync b2 (nm:=nm) (c:=b) (by rw[b3,if_pos rfl]; rfl)
 unfold writeD
 rw[h.up,if_neg (by decide),if_neg (by omega),if_neg (fun e=>e a1),if_neg (fun e=>e b1)]
 refine ⟨by rw[c1],c2,fun m=>?_,by simp only; omega,by simp only; omega⟩
 simp only
 rw[c3,b3,a3]
 split <;> rfl
theorem contF_some {D:Dsk} {nm:ByteArray} {c:List UInt8} (h:D.cont nm=some c):contF D nm=c∧D.get nm≠none:=by
 unfold Dsk.cont at h
 unfold contF
 cases hg:D.get nm with
 | none=>rw[hg] at h; cases h
 | some x=>rw[hg] at h; cases h; exact ⟨rfl,by simp⟩
section
abbrev OFil (f:Dsk→FileR→AV) (z:AV):RSpec:=fun args B r B'=>(∃ (D:Dsk) (nm:ByteArray) (F:FileR),args= [.ptr 1 0 0]∧B= [dskB D,filC 0 nm F]∧r=f D F∧B'=B)∨(args= [nilQ]∧B= []∧r=z∧B'=B)
theorem oFil {f:Dsk→FileR→AV} {z:AV} {B:List Box} {b l:Nat} {D:Dsk} {nm:ByteArray} {F:FileR} (hb:B[b]? = some (dskB D)) (hl:B[l]? = some (filC b nm F)) (hy:(f D F).low 0=true):liftR (OFil f z) [.ptr l 0 0] B (f D F) B:=
 lift_file (R:=OFil f z) (al:= []) (.inl ⟨D,nm,F,rfl,rfl,rfl,rfl⟩) hb hl (fun _ _=>rfl) (fun _=>rfl) hy
end
abbrev OFPages:RSpec:=OFil (fun _ F=>vi (F.idx.length:Int)) (vi 0)
abbrev OFCount:RSpec:=OFil (fun _ F=>vi F.cnt) (vi 0)
theorem SFPages:SoundR DP iFPages OFPages:=sound_genT mixedD Γ0_ok Δ0_ok hfFPages heFPages hbFPages (by
 rintro args B r B' (⟨D,nm,F,rfl,rfl,rfl,rfl⟩ | ⟨rfl,rfl,rfl,rfl⟩)
 ·exact ⟨by rw[hnFPages]; rfl,_,TFPages_chk D nm F,wp_len (wp_leaf rfl ⟨rfl,rfl⟩)⟩
 ·exact ⟨by rw[hnFPages]; rfl,_,TNPages_chk,wp_leaf rfl ⟨rfl,rfl⟩⟩)
theorem SFCount:SoundR DP iFCount OFCount:=sound_genT mixedD Γ0_ok Δ0_ok hfFCount heFCount hbFCount (by
 rintro args B r B' (⟨D,nm,F,rfl,rfl,rfl,rfl⟩ | ⟨rfl,rfl,rfl,rfl⟩)
 ·exact ⟨by rw[hnFCount]; rfl,_,TFCount_chk D nm F,wp_leaf rfl ⟨rfl,rfl⟩⟩
 ·exact ⟨by rw[hnFCount]; rfl,_,TNCount_chk,wp_leaf rfl ⟨rfl,rfl⟩⟩)
def OUsed:RSpec:=fun args B r B'=>∃ (D:Dsk),D.Ok∧args= [.op 0]∧B= [.obj [] (diskP D)]∧r=vi D.used∧B'=B
theorem SUsed:SoundR DP iUsed OUsed:=(SO hfUsed heUsed hbUsed).mono (by
 rintro args B r B' ⟨D,ok,rfl,rfl,rfl,rfl⟩
 obtain ⟨ro,us,fs,dn,fu⟩:=D
 cases dn with
 | true=>
  refine obA (al:= []) rfl rfl rfl (.refl _) (fun hid hh=> .inl ⟨by rw[hnUsed]; rfl,_,TUsed_t_chk ro us fu hid,?_⟩)
  unfold TUsed_t
  exact wp_leaf rfl ⟨rfl,rfl⟩
 | false=>
  refine obA (al:= []) rfl rfl rfl (.refl _) (fun hid hh=> .inl ⟨by rw[hnUsed]; rfl,_,TUsed_f_chk ro us fu hid,?_⟩)
  unfold TUsed_f
  exact wp_leaf rfl ⟨rfl,rfl⟩)
theorem oUsed {B:List Box} {b:Nat} {D:Dsk} (ok:D.Ok) (hb:B[b]? = some (dskB D)):liftR OUsed [.op b] B (vi D.used) B:=
 lift_see (R:=OUsed) (al:= []) ⟨D,ok,rfl,rfl,rfl,rfl⟩ hb (fun _ _=>rfl) (fun _=>rfl) rfl
end Go.Ax
