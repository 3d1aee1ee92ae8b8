/- Trees, printed by gen/w1.py. -/
import Derived.Test.YtjlipmcdnigfcaaDoorG39
set_option linter.unusedVariables false
set_option linter.unusedSimpArgs false
set_option linter.unusedSectionVars false
namespace Go.Ax
open Go.Proofs Go.RowKit
set_option maxRecDepth 100000

noncomputable def Γ14:Env:=envP [(51,gNameM),(38,gAllV),(41,gEnc),(42,gDec),(34,g20),(37,gFirst),(iNext,gNext),(iGet,gGet),(iAll,gAll)]
noncomputable def Δ14:REnv:=envR [(iStepE,liftR OStep83),(iRPut,takeR ORPut),(iFresh,liftR OFresh),(iDown,liftR ODown),(iSize,liftR OSize),(iRead,liftR ORead),(iAppend,takeR OAppend)]

abbrev iDo:Nat:=44
noncomputable abbrev nDo:Func:=Tryd.f44
theorem hfDo:DP.funcs[iDo]? = some nDo:=by kernel_rfl
theorem heDo:enters DP iDo=true:=by kernel_rfl
theorem hbDo:nDo.body.isSome=true:=by kernel_rfl
theorem hnDo:nDo.ntmps=65:=by kernel_rfl
abbrev iLoad:Nat:=43
noncomputable abbrev nLoad:Func:=Tryd.f43
theorem hfLoad:DP.funcs[iLoad]? = some nLoad:=by kernel_rfl
theorem heLoad:enters DP iLoad=true:=by kernel_rfl
theorem hbLoad:nLoad.body.isSome=true:=by kernel_rfl
theorem hnLoad:nLoad.ntmps=147:=by kernel_rfl
noncomputable def TDo (n:Int) (v:Vers) (o:Bool) (D:Dsk) (x:Edt):Tree:=
.any (.call 16 (g20 [.agg [vl (v.files.map metaE.f),vi v.log,vi v.next,vn .u64 v.seq], .agg [vl (x.add.map metaE.f),vl (x.del.map intE.f),vi x.log,vi x.next,vn .u64 x.seq]]=some (.tup [.agg [vl ((((applyL v x).1).files).map metaE.f),vi (((applyL v x).1).log),vi (((applyL v x).1).next),vn .u64 (((applyL v x).1).seq)],vi ((applyL v x).2)])) (.tup [.agg [vl ((((applyL v x).1).files).map metaE.f),vi (((applyL v x).1).log),vi (((applyL v x).1).next),vn .u64 (((applyL v x).1).seq)],vi ((applyL v x).2)]) (.sp 20 (((applyL v x).2) != (0:Int)) (
.leaf ⟨[0],[(0,0,none),(1,0,none)]⟩ [] .ret (some ([(0,vi ((applyL v x).2))],[manB 1 n v o, .obj [] (diskP D)]))) (
.callr (some 26) (Δ14 55 [.op 1] [manB 1 n v o, .obj [] (diskP D), .cells false 0 ([.ptr 0 0 0]),edB x,veB ((applyL v x).1)] (vb ((D).down)) [manB 1 n v o, .obj [] (diskP D), .cells false 0 ([.ptr 0 0 0]),edB x,veB ((applyL v x).1)]) (vb ((D).down)) [manB 1 n v o, .obj [] (diskP D), .cells false 0 ([.ptr 0 0 0]),edB x,veB ((applyL v x).1)] (.sp 26 ((D).down) (
.leaf ⟨[0],[(0,0,none),(1,0,none)]⟩ [] .ret (some ([(0,vi 10)],[manB 1 n v o, .obj [] (diskP D)]))) (
.sp 30 o (
.call 37 (gEnc [.agg [vl (x.add.map metaE.f),vl (x.del.map intE.f),vi x.log,vi x.next,vn .u64 x.seq]]=some (vl ((encI x).map byteE.f))) (vl ((encI x).map byteE.f)) (.callr (some 38) (Δ14 58 [nilS,vl ((encI x).map byteE.f)] [manB 1 n v o, .obj [] (diskP D), .cells false 0 ([.ptr 0 0 0]),edB x,veB ((applyL v x).1)] (.tup [.rs 5 0 1 0 ((recB (encI x)).length),vi 0]) [manB 1 n v o, .obj [] (diskP D), .cells false 0 ([.ptr 0 0 0]),edB x,veB ((applyL v x).1),byteE.bx 0 (recB (encI x))]) (.tup [.rs 5 0 1 0 ((recB (encI x)).length),vi 0]) [manB 1 n v o, .obj [] (diskP D), .cells false 0 ([.ptr 0 0 0]),edB x,veB ((applyL v x).1),byteE.bx 0 (recB (encI x))] (.sealslot 11 7 (rowC ((recB (encI x)).map byteE.f)) ((recB (encI x)).length) byteE (recB (encI x)) (.any (.call 52 (gNameM [vi n]=some (vs (manN n))) (vs (manN n)) (.callr (some 54) (Δ14 47 [.op 1,vs (manN n),vl ((recB (encI x)).map byteE.f)] [manB 1 n v o, .obj [] (diskP D), .cells false 0 ([.ptr 0 0 0]),edB x,veB ((applyL v x).1), .dead] (vi ((appendD D (manN n) (recB (encI x))).2)) [manB 1 n v o, .obj [] (diskP ((appendD D (manN n) (recB (encI x))).1)), .cells false 0 ([.ptr 0 0 0]),edB x,veB ((applyL v x).1), .dead]) (vi ((appendD D (manN n) (recB (encI x))).2)) [manB 1 n v o, .obj [] (diskP ((appendD D (manN n) (recB (encI x))).1)), .cells false 0 ([.ptr 0 0 0]),edB x,veB ((applyL v x).1), .dead] (.callr (some 57) (Δ14 82 [vi ((appendD D (manN n) (recB (encI x))).2), .fn 83 [.ptr 2 0 0]] [manB 1 n v o, .obj [] (diskP ((appendD D (manN n) (recB (encI x))).1)), .cells false 0 ([.ptr 0 0 0]),edB x,veB ((applyL v x).1), .dead] (vi ((thenS (appendD D (manN n) (recB (encI x))) (manN n)).2)) [manB 1 n v o, .obj [] (diskP ((thenS (appendD D (manN n) (recB (encI x))) (manN n)).1)), .cells false 0 ([.ptr 0 0 0]),edB x,veB ((applyL v x).1), .dead]) (vi ((thenS (appendD D (manN n) (recB (encI x))) (manN n)).2)) [manB 1 n v o, .obj [] (diskP ((thenS (appendD D (manN n) (recB (encI x))) (manN n)).1)), .cells false 0 ([.ptr 0 0 0]),edB x,veB ((applyL v x).1), .dead] (.sp 59 (((thenS (appendD D (manN n) (recB (encI x))) (manN n)).2) != (0:Int)) (
.leaf ⟨[0],[(0,0,none),(1,0,none)]⟩ [] .ret (some ([(0,vi ((thenS (appendD D (manN n) (recB (encI x))) (manN n)).2))],[manB 1 n v o, .obj [] (diskP ((thenS (appendD D (manN n) (recB (encI x))) (manN n)).1))]))) (
.leaf ⟨[0],[(0,0,none),(1,0,none)]⟩ [] .ret (some ([(0,vi 0)],[manB 1 n ((applyL v x).1) o, .obj [] (diskP ((thenS (appendD D (manN n) (recB (encI x))) (manN n)).1))]))))))))))) (
.callr (some 34) (Δ14 81 [.ptr 0 0 0, .agg [vl ((((applyL v x).1).files).map metaE.f),vi (((applyL v x).1).log),vi (((applyL v x).1).next),vn .u64 (((applyL v x).1).seq)]] [manB 1 n v o, .obj [] (diskP D), .cells false 0 ([.ptr 0 0 0]),edB x,veB ((applyL v x).1)] (vi ((freshD D n ((applyL v x).1)).2)) [manB 1 ((freshM D n v ((applyL v x).1) o).1) ((freshM D n v ((applyL v x).1) o).2.1) ((freshM D n v ((applyL v x).1) o).2.2), .obj [] (diskP ((freshD D n ((applyL v x).1)).1)), .cells false 0 ([.ptr 0 0 0]),edB x,veB ((applyL v x).1)]) (vi ((freshD D n ((applyL v x).1)).2)) [manB 1 ((freshM D n v ((applyL v x).1) o).1) ((freshM D n v ((applyL v x).1) o).2.1) ((freshM D n v ((applyL v x).1) o).2.2), .obj [] (diskP ((freshD D n ((applyL v x).1)).1)), .cells false 0 ([.ptr 0 0 0]),edB x,veB ((applyL v x).1)] (.leaf ⟨[0],[(0,0,none),(1,0,none)]⟩ [] .ret (some ([(0,vi ((freshD D n ((applyL v x).1)).2))],[manB 1 ((freshM D n v ((applyL v x).1) o).1) ((freshM D n v ((applyL v x).1) o).2.1) ((freshM D n v ((applyL v x).1) o).2.2), .obj [] (diskP ((freshD D n ((applyL v x).1)).1))])))))))))

theorem TDo_chk (n:Int) (v:Vers) (o:Bool) (D:Dsk) (x:Edt):fnC DP Γ14 Δ14 Tryd.f44 [.ptr 0 0 0, .agg [vl (x.add.map metaE.f),vl (x.del.map intE.f),vi x.log,vi x.next,vn .u64 x.seq]] [manB 1 n v o, .obj [] (diskP D)] (TDo n v o D x)=TDo n v o D x:=by kernel_rfl

noncomputable def TLoad_l1_e (D:Dsk) (s1:(List Meta)×Int×Int×Int×Int):St:=([(11, .ptr 1 0 0),(118,vl (((allI ((readD D (manN ((getI ((nextI ((readD D (⟨#[110,111,119]⟩:ByteArray) 0 ((sizeD D (⟨#[110,111,119]⟩:ByteArray)).1)).1)).1)).1)) 0 ((sizeD D (manN ((getI ((nextI ((readD D (⟨#[110,111,119]⟩:ByteArray) 0 ((sizeD D (⟨#[110,111,119]⟩:ByteArray)).1)).1)).1)).1))).1)).1)).1).map bytesE.f)),(119,vi (((allI ((readD D (manN ((getI ((nextI ((readD D (⟨#[110,111,119]⟩:ByteArray) 0 ((sizeD D (⟨#[110,111,119]⟩:ByteArray)).1)).1)).1)).1)) 0 ((sizeD D (manN ((getI ((nextI ((readD D (⟨#[110,111,119]⟩:ByteArray) 0 ((sizeD D (⟨#[110,111,119]⟩:ByteArray)).1)).1)).1)).1))).1)).1)).1).length:Int)),(120,vi s1.2.2.2.2)],[.obj [] (diskP D), .cells false 0 ([.op 0,vi ((getI ((nextI ((readD D (⟨#[110,111,119]⟩:ByteArray) 0 ((sizeD D (⟨#[110,111,119]⟩:ByteArray)).1)).1)).1)).1),vl (s1.1.map metaE.f),vi s1.2.1,vi s1.2.2.1,vn .u64 s1.2.2.2.1,vb false])])
noncomputable def TLoad_l1_x (D:Dsk) (x1:Unit):AE×St:=(.ret,([(2, .p (.v (.pointer none))),(3,vi 12)],[.obj [] (diskP D)]))
noncomputable def TLoad_l1_x' (D:Dsk) (y1:(List Meta)×Int×Int×Int):AE×St:=((.exit 0),([(11, .ptr 1 0 0)],[.obj [] (diskP D), .cells false 0 ([.op 0,vi ((getI ((nextI ((readD D (⟨#[110,111,119]⟩:ByteArray) 0 ((sizeD D (⟨#[110,111,119]⟩:ByteArray)).1)).1)).1)).1),vl (y1.1.map metaE.f),vi y1.2.1,vi y1.2.2.1,vn .u64 y1.2.2.2,vb false])]))
noncomputable def TLoad_l1_b (D:Dsk) (s1:(List Meta)×Int×Int×Int×Int):Tree:=
.sp 121 (decide (s1.2.2.2.2<(((allI ((readD D (manN ((getI ((nextI ((readD D (⟨#[110,111,119]⟩:ByteArray) 0 ((sizeD D (⟨#[110,111,119]⟩:ByteArray)).1)).1)).1)).1)) 0 ((sizeD D (manN ((getI ((nextI ((readD D (⟨#[110,111,119]⟩:ByteArray) 0 ((sizeD D (⟨#[110,111,119]⟩:ByteArray)).1)).1)).1)).1))).1)).1)).1).length:Int))) (
.elem 122 (((allI ((readD D (manN ((getI ((nextI ((readD D (⟨#[110,111,119]⟩:ByteArray) 0 ((sizeD D (⟨#[110,111,119]⟩:ByteArray)).1)).1)).1)).1)) 0 ((sizeD D (manN ((getI ((nextI ((readD D (⟨#[110,111,119]⟩:ByteArray) 0 ((sizeD D (⟨#[110,111,119]⟩:ByteArray)).1)).1)).1)).1))).1)).1)).1).map bytesE.f) bytesE ((allI ((readD D (manN ((getI ((nextI ((readD D (⟨#[110,111,119]⟩:ByteArray) 0 ((sizeD D (⟨#[110,111,119]⟩:ByteArray)).1)).1)).1)).1)) 0 ((sizeD D (manN ((getI ((nextI ((readD D (⟨#[110,111,119]⟩:ByteArray) 0 ((sizeD D (⟨#[110,111,119]⟩:ByteArray)).1)).1)).1)).1))).1)).1)).1) s1.2.2.2.2 (fun e1=> .call 126 (gDec [vl (e1.map byteE.f)]=some (.tup [.agg [vl ((((decI e1).1).add).map metaE.f),vl ((((decI e1).1).del).map intE.f),vi (((decI e1).1).log),vi (((decI e1).1).next),vn .u64 (((decI e1).1).seq)],vi ((decI e1).2)])) (.tup [.agg [vl ((((decI e1).1).add).map metaE.f),vl ((((decI e1).1).del).map intE.f),vi (((decI e1).1).log),vi (((decI e1).1).next),vn .u64 (((decI e1).1).seq)],vi ((decI e1).2)]) (.sp 130 (((decI e1).2) != (0:Int)) (
.leaf ⟨[2,3],[(0,0,none)]⟩ [] .ret (some (TLoad_l1_x D ()).2)) (
.any (.call 138 (g20 [.agg [vl (s1.1.map metaE.f),vi s1.2.1,vi s1.2.2.1,vn .u64 s1.2.2.2.1], .agg [vl ((((decI e1).1).add).map metaE.f),vl ((((decI e1).1).del).map intE.f),vi (((decI e1).1).log),vi (((decI e1).1).next),vn .u64 (((decI e1).1).seq)]]=some (.tup [.agg [vl ((((applyL (⟨s1.1,s1.2.1,s1.2.2.1,s1.2.2.2.1⟩:Vers) ((decI e1).1)).1).files).map metaE.f),vi (((applyL (⟨s1.1,s1.2.1,s1.2.2.1,s1.2.2.2.1⟩:Vers) ((decI e1).1)).1).log),vi (((applyL (⟨s1.1,s1.2.1,s1.2.2.1,s1.2.2.2.1⟩:Vers) ((decI e1).1)).1).next),vn .u64 (((applyL (⟨s1.1,s1.2.1,s1.2.2.1,s1.2.2.2.1⟩:Vers) ((decI e1).1)).1).seq)],vi ((applyL (⟨s1.1,s1.2.1,s1.2.2.1,s1.2.2.2.1⟩:Vers) ((decI e1).1)).2)])) (.tup [.agg [vl ((((applyL (⟨s1.1,s1.2.1,s1.2.2.1,s1.2.2.2.1⟩:Vers) ((decI e1).1)).1).files).map metaE.f),vi (((applyL (⟨s1.1,s1.2.1,s1.2.2.1,s1.2.2.2.1⟩:Vers) ((decI e1).1)).1).log),vi (((applyL (⟨s1.1,s1.2.1,s1.2.2.1,s1.2.2.2.1⟩:Vers) ((decI e1).1)).1).next),vn .u64 (((applyL (⟨s1.1,s1.2.1,s1.2.2.1,s1.2.2.2.1⟩:Vers) ((decI e1).1)).1).seq)],vi ((applyL (⟨s1.1,s1.2.1,s1.2.2.1,s1.2.2.2.1⟩:Vers) ((decI e1).1)).2)]) (.sp 144 (((applyL (⟨s1.1,s1.2.1,s1.2.2.1,s1.2.2.2.1⟩:Vers) ((decI e1).1)).2) != (0:Int)) (
.leaf ⟨[2,3],[(0,0,none)]⟩ [] .ret (some (TLoad_l1_x D ()).2)) (
.int 145 (IntKind.i64.wrap (s1.2.2.2.2+1)) (s1.2.2.2.2+1) (.leaf ⟨[11,118,119,120],[(0,0,none),(1,0,none)]⟩ [] .normal (some (TLoad_l1_e D (((applyL (⟨s1.1,s1.2.1,s1.2.2.1,s1.2.2.2.1⟩:Vers) ((decI e1).1)).1).files,((applyL (⟨s1.1,s1.2.1,s1.2.2.1,s1.2.2.2.1⟩:Vers) ((decI e1).1)).1).log,((applyL (⟨s1.1,s1.2.1,s1.2.2.1,s1.2.2.2.1⟩:Vers) ((decI e1).1)).1).next,((applyL (⟨s1.1,s1.2.1,s1.2.2.1,s1.2.2.2.1⟩:Vers) ((decI e1).1)).1).seq,s1.2.2.2.2+1))))))))))) (
.leaf ⟨[11],[(0,0,none),(1,0,none)]⟩ [] (.exit 0) (some (TLoad_l1_x' D (s1.1,s1.2.1,s1.2.2.1,s1.2.2.2.1)).2))
noncomputable def TLoad (D:Dsk):Tree:=
.callr (some 22) (Δ14 60 [.op 0,vs (⟨#[110,111,119]⟩)] [.obj [] (diskP D)] (.tup [vi ((sizeD D (⟨#[110,111,119]⟩:ByteArray)).1),vi ((sizeD D (⟨#[110,111,119]⟩:ByteArray)).2)]) [.obj [] (diskP D)]) (.tup [vi ((sizeD D (⟨#[110,111,119]⟩:ByteArray)).1),vi ((sizeD D (⟨#[110,111,119]⟩:ByteArray)).2)]) [.obj [] (diskP D)] (.sp 26 (((sizeD D (⟨#[110,111,119]⟩:ByteArray)).2) == (4:Int)) (
.call 28 (gFirst []=some (.agg [vl (firstV.files.map metaE.f),vi firstV.log,vi firstV.next,vn .u64 firstV.seq])) (.agg [vl (firstV.files.map metaE.f),vi firstV.log,vi firstV.next,vn .u64 firstV.seq]) (.leaf ⟨[0],[(0,0,none),(1,0,none)]⟩ [] .ret (some ([(0, .tup [.ptr 1 0 0,vi 0])],[.obj [] (diskP D),manB 0 0 firstV false])))) (
.sp 32 (((sizeD D (⟨#[110,111,119]⟩:ByteArray)).2) != (0:Int)) (
.leaf ⟨[0],[(0,0,none)]⟩ [] .ret (some ([(0, .tup [.p (.v (.pointer none)),vi ((sizeD D (⟨#[110,111,119]⟩:ByteArray)).2)])],[.obj [] (diskP D)]))) (
.callr (some 37) (Δ14 48 [.op 0,vs (⟨#[110,111,119]⟩),vi 0,vi ((sizeD D (⟨#[110,111,119]⟩:ByteArray)).1)] [.obj [] (diskP D)] (.tup [.rs 1 0 1 0 ((readD D (⟨#[110,111,119]⟩:ByteArray) 0 ((sizeD D (⟨#[110,111,119]⟩:ByteArray)).1)).1.length),vi ((readD D (⟨#[110,111,119]⟩:ByteArray) 0 ((sizeD D (⟨#[110,111,119]⟩:ByteArray)).1)).2)]) [.obj [] (diskP D),byteE.bx 0 ((readD D (⟨#[110,111,119]⟩:ByteArray) 0 ((sizeD D (⟨#[110,111,119]⟩:ByteArray)).1)).1)]) (.tup [.rs 1 0 1 0 ((readD D (⟨#[110,111,119]⟩:ByteArray) 0 ((sizeD D (⟨#[110,111,119]⟩:ByteArray)).1)).1.length),vi ((readD D (⟨#[110,111,119]⟩:ByteArray) 0 ((sizeD D (⟨#[110,111,119]⟩:ByteArray)).1)).2)]) [.obj [] (diskP D),byteE.bx 0 ((readD D (⟨#[110,111,119]⟩:ByteArray) 0 ((sizeD D (⟨#[110,111,119]⟩:ByteArray)).1)).1)] (.sealslot 9 6 (rowC (((readD D (⟨#[110,111,119]⟩:ByteArray) 0 ((sizeD D (⟨#[110,111,119]⟩:ByteArray)).1)).1).map byteE.f)) ((readD D (⟨#[110,111,119]⟩:ByteArray) 0 ((sizeD D (⟨#[110,111,119]⟩:ByteArray)).1)).1.length) byteE ((readD D (⟨#[110,111,119]⟩:ByteArray) 0 ((sizeD D (⟨#[110,111,119]⟩:ByteArray)).1)).1) (.call 42 (gNext [vl (((readD D (⟨#[110,111,119]⟩:ByteArray) 0 ((sizeD D (⟨#[110,111,119]⟩:ByteArray)).1)).1).map byteE.f)]=some (.tup [vl (((nextI ((readD D (⟨#[110,111,119]⟩:ByteArray) 0 ((sizeD D (⟨#[110,111,119]⟩:ByteArray)).1)).1)).1).map byteE.f),vi ((nextI ((readD D (⟨#[110,111,119]⟩:ByteArray) 0 ((sizeD D (⟨#[110,111,119]⟩:ByteArray)).1)).1)).2.1),vi ((nextI ((readD D (⟨#[110,111,119]⟩:ByteArray) 0 ((sizeD D (⟨#[110,111,119]⟩:ByteArray)).1)).1)).2.2)])) (.tup [vl (((nextI ((readD D (⟨#[110,111,119]⟩:ByteArray) 0 ((sizeD D (⟨#[110,111,119]⟩:ByteArray)).1)).1)).1).map byteE.f),vi ((nextI ((readD D (⟨#[110,111,119]⟩:ByteArray) 0 ((sizeD D (⟨#[110,111,119]⟩:ByteArray)).1)).1)).2.1),vi ((nextI ((readD D (⟨#[110,111,119]⟩:ByteArray) 0 ((sizeD D (⟨#[110,111,119]⟩:ByteArray)).1)).1)).2.2)]) (.sp 47 (((nextI ((readD D (⟨#[110,111,119]⟩:ByteArray) 0 ((sizeD D (⟨#[110,111,119]⟩:ByteArray)).1)).1)).2.2) != (0:Int)) (
.leaf ⟨[0],[(0,0,none)]⟩ [] .ret (some ([(0, .tup [.p (.v (.pointer none)),vi 12])],[.obj [] (diskP D)]))) (
.int 51 ((((readD D (⟨#[110,111,119]⟩:ByteArray) 0 ((sizeD D (⟨#[110,111,119]⟩:ByteArray)).1)).1).map byteE.f).length:Int) (((readD D (⟨#[110,111,119]⟩:ByteArray) 0 ((sizeD D (⟨#[110,111,119]⟩:ByteArray)).1)).1).length:Int) (.sp 52 (((nextI ((readD D (⟨#[110,111,119]⟩:ByteArray) 0 ((sizeD D (⟨#[110,111,119]⟩:ByteArray)).1)).1)).2.1) != (((readD D (⟨#[110,111,119]⟩:ByteArray) 0 ((sizeD D (⟨#[110,111,119]⟩:ByteArray)).1)).1).length:Int)) (
.leaf ⟨[0],[(0,0,none)]⟩ [] .ret (some ([(0, .tup [.p (.v (.pointer none)),vi 12])],[.obj [] (diskP D)]))) (
.call 56 (gGet [vl (((nextI ((readD D (⟨#[110,111,119]⟩:ByteArray) 0 ((sizeD D (⟨#[110,111,119]⟩:ByteArray)).1)).1)).1).map byteE.f)]=some (.tup [vn .u64 ((getI ((nextI ((readD D (⟨#[110,111,119]⟩:ByteArray) 0 ((sizeD D (⟨#[110,111,119]⟩:ByteArray)).1)).1)).1)).1),vi ((getI ((nextI ((readD D (⟨#[110,111,119]⟩:ByteArray) 0 ((sizeD D (⟨#[110,111,119]⟩:ByteArray)).1)).1)).1)).2.1),vi ((getI ((nextI ((readD D (⟨#[110,111,119]⟩:ByteArray) 0 ((sizeD D (⟨#[110,111,119]⟩:ByteArray)).1)).1)).1)).2.2)])) (.tup [vn .u64 ((getI ((nextI ((readD D (⟨#[110,111,119]⟩:ByteArray) 0 ((sizeD D (⟨#[110,111,119]⟩:ByteArray)).1)).1)).1)).1),vi ((getI ((nextI ((readD D (⟨#[110,111,119]⟩:ByteArray) 0 ((sizeD D (⟨#[110,111,119]⟩:ByteArray)).1)).1)).1)).2.1),vi ((getI ((nextI ((readD D (⟨#[110,111,119]⟩:ByteArray) 0 ((sizeD D (⟨#[110,111,119]⟩:ByteArray)).1)).1)).1)).2.2)]) (.sp 61 (((getI ((nextI ((readD D (⟨#[110,111,119]⟩:ByteArray) 0 ((sizeD D (⟨#[110,111,119]⟩:ByteArray)).1)).1)).1)).2.2) != (0:Int)) (
.leaf ⟨[0],[(0,0,none)]⟩ [] .ret (some ([(0, .tup [.p (.v (.pointer none)),vi 12])],[.obj [] (diskP D)]))) (
.int 65 ((((nextI ((readD D (⟨#[110,111,119]⟩:ByteArray) 0 ((sizeD D (⟨#[110,111,119]⟩:ByteArray)).1)).1)).1).map byteE.f).length:Int) (((nextI ((readD D (⟨#[110,111,119]⟩:ByteArray) 0 ((sizeD D (⟨#[110,111,119]⟩:ByteArray)).1)).1)).1).length:Int) (.sp 66 (((getI ((nextI ((readD D (⟨#[110,111,119]⟩:ByteArray) 0 ((sizeD D (⟨#[110,111,119]⟩:ByteArray)).1)).1)).1)).2.1) != (((nextI ((readD D (⟨#[110,111,119]⟩:ByteArray) 0 ((sizeD D (⟨#[110,111,119]⟩:ByteArray)).1)).1)).1).length:Int)) (
.leaf ⟨[0],[(0,0,none)]⟩ [] .ret (some ([(0, .tup [.p (.v (.pointer none)),vi 12])],[.obj [] (diskP D)]))) (
.sp 70 (decide (((getI ((nextI ((readD D (⟨#[110,111,119]⟩:ByteArray) 0 ((sizeD D (⟨#[110,111,119]⟩:ByteArray)).1)).1)).1)).1)<(1:Int))) (
.leaf ⟨[0],[(0,0,none)]⟩ [] .ret (some ([(0, .tup [.p (.v (.pointer none)),vi 12])],[.obj [] (diskP D)]))) (
.sp 74 (decide (((getI ((nextI ((readD D (⟨#[110,111,119]⟩:ByteArray) 0 ((sizeD D (⟨#[110,111,119]⟩:ByteArray)).1)).1)).1)).1)>(1073741824:Int))) (
.leaf ⟨[0],[(0,0,none)]⟩ [] .ret (some ([(0, .tup [.p (.v (.pointer none)),vi 12])],[.obj [] (diskP D)]))) (
.int 78 (IntKind.i64.wrap ((getI ((nextI ((readD D (⟨#[110,111,119]⟩:ByteArray) 0 ((sizeD D (⟨#[110,111,119]⟩:ByteArray)).1)).1)).1)).1)) ((getI ((nextI ((readD D (⟨#[110,111,119]⟩:ByteArray) 0 ((sizeD D (⟨#[110,111,119]⟩:ByteArray)).1)).1)).1)).1) (.call 79 (gFirst []=some (.agg [vl (firstV.files.map metaE.f),vi firstV.log,vi firstV.next,vn .u64 firstV.seq])) (.agg [vl (firstV.files.map metaE.f),vi firstV.log,vi firstV.next,vn .u64 firstV.seq]) (.call 88 (gNameM [vi ((getI ((nextI ((readD D (⟨#[110,111,119]⟩:ByteArray) 0 ((sizeD D (⟨#[110,111,119]⟩:ByteArray)).1)).1)).1)).1)]=some (vs (manN ((getI ((nextI ((readD D (⟨#[110,111,119]⟩:ByteArray) 0 ((sizeD D (⟨#[110,111,119]⟩:ByteArray)).1)).1)).1)).1)))) (vs (manN ((getI ((nextI ((readD D (⟨#[110,111,119]⟩:ByteArray) 0 ((sizeD D (⟨#[110,111,119]⟩:ByteArray)).1)).1)).1)).1))) (.callr (some 89) (Δ14 60 [.op 0,vs (manN ((getI ((nextI ((readD D (⟨#[110,111,119]⟩:ByteArray) 0 ((sizeD D (⟨#[110,111,119]⟩:ByteArray)).1)).1)).1)).1))] [.obj [] (diskP D), .dead,manB 0 ((getI ((nextI ((readD D (⟨#[110,111,119]⟩:ByteArray) 0 ((sizeD D (⟨#[110,111,119]⟩:ByteArray)).1)).1)).1)).1) firstV false] (.tup [vi ((sizeD D (manN ((getI ((nextI ((readD D (⟨#[110,111,119]⟩:ByteArray) 0 ((sizeD D (⟨#[110,111,119]⟩:ByteArray)).1)).1)).1)).1))).1),vi ((sizeD D (manN ((getI ((nextI ((readD D (⟨#[110,111,119]⟩:ByteArray) 0 ((sizeD D (⟨#[110,111,119]⟩:ByteArray)).1)).1)).1)).1))).2)]) [.obj [] (diskP D), .dead,manB 0 ((getI ((nextI ((readD D (⟨#[110,111,119]⟩:ByteArray) 0 ((sizeD D (⟨#[110,111,119]⟩:ByteArray)).1)).1)).1)).1) firstV false]) (.tup [vi ((sizeD D (manN ((getI ((nextI ((readD D (⟨#[110,111,119]⟩:ByteArray) 0 ((sizeD D (⟨#[110,111,119]⟩:ByteArray)).1)).1)).1)).1))).1),vi ((sizeD D (manN ((getI ((nextI ((readD D (⟨#[110,111,119]⟩:ByteArray) 0 ((sizeD D (⟨#[110,111,119]⟩:ByteArray)).1)).1)).1)).1))).2)]) [.obj [] (diskP D), .dead,manB 0 ((getI ((nextI ((readD D (⟨#[110,111,119]⟩:ByteArray) 0 ((sizeD D (⟨#[110,111,119]⟩:ByteArray)).1)).1)).1)).1) firstV false] (.sp 93 (((sizeD D (manN ((getI ((nextI ((readD D (⟨#[110,111,119]⟩:ByteArray) 0 ((sizeD D (⟨#[110,111,119]⟩:ByteArray)).1)).1)).1)).1))).2) != (0:Int)) (
.leaf ⟨[0],[(0,0,none)]⟩ [] .ret (some ([(0, .tup [.p (.v (.pointer none)),vi 12])],[.obj [] (diskP D)]))) (
.call 100 (gNameM [vi ((getI ((nextI ((readD D (⟨#[110,111,119]⟩:ByteArray) 0 ((sizeD D (⟨#[110,111,119]⟩:ByteArray)).1)).1)).1)).1)]=some (vs (manN ((getI ((nextI ((readD D (⟨#[110,111,119]⟩:ByteArray) 0 ((sizeD D (⟨#[110,111,119]⟩:ByteArray)).1)).1)).1)).1)))) (vs (manN ((getI ((nextI ((readD D (⟨#[110,111,119]⟩:ByteArray) 0 ((sizeD D (⟨#[110,111,119]⟩:ByteArray)).1)).1)).1)).1))) (.callr (some 102) (Δ14 48 [.op 0,vs (manN ((getI ((nextI ((readD D (⟨#[110,111,119]⟩:ByteArray) 0 ((sizeD D (⟨#[110,111,119]⟩:ByteArray)).1)).1)).1)).1)),vi 0,vi ((sizeD D (manN ((getI ((nextI ((readD D (⟨#[110,111,119]⟩:ByteArray) 0 ((sizeD D (⟨#[110,111,119]⟩:ByteArray)).1)).1)).1)).1))).1)] [.obj [] (diskP D), .dead,manB 0 ((getI ((nextI ((readD D (⟨#[110,111,119]⟩:ByteArray) 0 ((sizeD D (⟨#[110,111,119]⟩:ByteArray)).1)).1)).1)).1) firstV false] (.tup [.rs 3 0 1 0 ((readD D (manN ((getI ((nextI ((readD D (⟨#[110,111,119]⟩:ByteArray) 0 ((sizeD D (⟨#[110,111,119]⟩:ByteArray)).1)).1)).1)).1)) 0 ((sizeD D (manN ((getI ((nextI ((readD D (⟨#[110,111,119]⟩:ByteArray) 0 ((sizeD D (⟨#[110,111,119]⟩:ByteArray)).1)).1)).1)).1))).1)).1.length),vi ((readD D (manN ((getI ((nextI ((readD D (⟨#[110,111,119]⟩:ByteArray) 0 ((sizeD D (⟨#[110,111,119]⟩:ByteArray)).1)).1)).1)).1)) 0 ((sizeD D (manN ((getI ((nextI ((readD D (⟨#[110,111,119]⟩:ByteArray) 0 ((sizeD D (⟨#[110,111,119]⟩:ByteArray)).1)).1)).1)).1))).1)).2)]) [.obj [] (diskP D), .dead,manB 0 ((getI ((nextI ((readD D (⟨#[110,111,119]⟩:ByteArray) 0 ((sizeD D (⟨#[110,111,119]⟩:ByteArray)).1)).1)).1)).1) firstV false,byteE.bx 0 ((readD D (manN ((getI ((nextI ((readD D (⟨#[110,111,119]⟩:ByteArray) 0 ((sizeD D (⟨#[110,111,119]⟩:ByteArray)).1)).1)).1)).1)) 0 ((sizeD D (manN ((getI ((nextI ((readD D (⟨#[110,111,119]⟩:ByteArray) 0 ((sizeD D (⟨#[110,111,119]⟩:ByteArray)).1)).1)).1)).1))).1)).1)]) (.tup [.rs 3 0 1 0 ((readD D (manN ((getI ((nextI ((readD D (⟨#[110,111,119]⟩:ByteArray) 0 ((sizeD D (⟨#[110,111,119]⟩:ByteArray)).1)).1)).1)).1)) 0 ((sizeD D (manN ((getI ((nextI ((readD D (⟨#[110,111,119]⟩:ByteArray) 0 ((sizeD D (⟨#[110,111,119]⟩:ByteArray)).1)).1)).1)).1))).1)).1.length),vi ((readD D (manN ((getI ((nextI ((readD D (⟨#[110,111,119]⟩:ByteArray) 0 ((sizeD D (⟨#[110,111,119]⟩:ByteArray)).1)).1)).1)).1)) 0 ((sizeD D (manN ((getI ((nextI ((readD D (⟨#[110,111,119]⟩:ByteArray) 0 ((sizeD D (⟨#[110,111,119]⟩:ByteArray)).1)).1)).1)).1))).1)).2)]) [.obj [] (diskP D), .dead,manB 0 ((getI ((nextI ((readD D (⟨#[110,111,119]⟩:ByteArray) 0 ((sizeD D (⟨#[110,111,119]⟩:ByteArray)).1)).1)).1)).1) firstV false,byteE.bx 0 ((readD D (manN ((getI ((nextI ((readD D (⟨#[110,111,119]⟩:ByteArray) 0 ((sizeD D (⟨#[110,111,119]⟩:ByteArray)).1)).1)).1)).1)) 0 ((sizeD D (manN ((getI ((nextI ((readD D (⟨#[110,111,119]⟩:ByteArray) 0 ((sizeD D (⟨#[110,111,119]⟩:ByteArray)).1)).1)).1)).1))).1)).1)] (.sealslot 20 6 (rowC (((readD D (manN ((getI ((nextI ((readD D (⟨#[110,111,119]⟩:ByteArray) 0 ((sizeD D (⟨#[110,111,119]⟩:ByteArray)).1)).1)).1)).1)) 0 ((sizeD D (manN ((getI ((nextI ((readD D (⟨#[110,111,119]⟩:ByteArray) 0 ((sizeD D (⟨#[110,111,119]⟩:ByteArray)).1)).1)).1)).1))).1)).1).map byteE.f)) ((readD D (manN ((getI ((nextI ((readD D (⟨#[110,111,119]⟩:ByteArray) 0 ((sizeD D (⟨#[110,111,119]⟩:ByteArray)).1)).1)).1)).1)) 0 ((sizeD D (manN ((getI ((nextI ((readD D (⟨#[110,111,119]⟩:ByteArray) 0 ((sizeD D (⟨#[110,111,119]⟩:ByteArray)).1)).1)).1)).1))).1)).1.length) byteE ((readD D (manN ((getI ((nextI ((readD D (⟨#[110,111,119]⟩:ByteArray) 0 ((sizeD D (⟨#[110,111,119]⟩:ByteArray)).1)).1)).1)).1)) 0 ((sizeD D (manN ((getI ((nextI ((readD D (⟨#[110,111,119]⟩:ByteArray) 0 ((sizeD D (⟨#[110,111,119]⟩:ByteArray)).1)).1)).1)).1))).1)).1) (.call 107 (gAll [vl (((readD D (manN ((getI ((nextI ((readD D (⟨#[110,111,119]⟩:ByteArray) 0 ((sizeD D (⟨#[110,111,119]⟩:ByteArray)).1)).1)).1)).1)) 0 ((sizeD D (manN ((getI ((nextI ((readD D (⟨#[110,111,119]⟩:ByteArray) 0 ((sizeD D (⟨#[110,111,119]⟩:ByteArray)).1)).1)).1)).1))).1)).1).map byteE.f)]=some (.tup [vl (((allI ((readD D (manN ((getI ((nextI ((readD D (⟨#[110,111,119]⟩:ByteArray) 0 ((sizeD D (⟨#[110,111,119]⟩:ByteArray)).1)).1)).1)).1)) 0 ((sizeD D (manN ((getI ((nextI ((readD D (⟨#[110,111,119]⟩:ByteArray) 0 ((sizeD D (⟨#[110,111,119]⟩:ByteArray)).1)).1)).1)).1))).1)).1)).1).map bytesE.f),vi ((allI ((readD D (manN ((getI ((nextI ((readD D (⟨#[110,111,119]⟩:ByteArray) 0 ((sizeD D (⟨#[110,111,119]⟩:ByteArray)).1)).1)).1)).1)) 0 ((sizeD D (manN ((getI ((nextI ((readD D (⟨#[110,111,119]⟩:ByteArray) 0 ((sizeD D (⟨#[110,111,119]⟩:ByteArray)).1)).1)).1)).1))).1)).1)).2.1),vi ((allI ((readD D (manN ((getI ((nextI ((readD D (⟨#[110,111,119]⟩:ByteArray) 0 ((sizeD D (⟨#[110,111,119]⟩:ByteArray)).1)).1)).1)).1)) 0 ((sizeD D (manN ((getI ((nextI ((readD D (⟨#[110,111,119]⟩:ByteArray) 0 ((sizeD D (⟨#[110,111,119]⟩:ByteArray)).1)).1)).1)).1))).1)).1)).2.2)])) (.tup [vl (((allI ((readD D (manN ((getI ((nextI ((readD D (⟨#[110,111,119]⟩:ByteArray) 0 ((sizeD D (⟨#[110,111,119]⟩:ByteArray)).1)).1)).1)).1)) 0 ((sizeD D (manN ((getI ((nextI ((readD D (⟨#[110,111,119]⟩:ByteArray) 0 ((sizeD D (⟨#[110,111,119]⟩:ByteArray)).1)).1)).1)).1))).1)).1)).1).map bytesE.f),vi ((allI ((readD D (manN ((getI ((nextI ((readD D (⟨#[110,111,119]⟩:ByteArray) 0 ((sizeD D (⟨#[110,111,119]⟩:ByteArray)).1)).1)).1)).1)) 0 ((sizeD D (manN ((getI ((nextI ((readD D (⟨#[110,111,119]⟩:ByteArray) 0 ((sizeD D (⟨#[110,111,119]⟩:ByteArray)).1)).1)).1)).1))).1)).1)).2.1),vi ((allI ((readD D (manN ((getI ((nextI ((readD D (⟨#[110,111,119]⟩:ByteArray) 0 ((sizeD D (⟨#[110,111,119]⟩:ByteArray)).1)).1)).1)).1)) 0 ((sizeD D (manN ((getI ((nextI ((readD D (⟨#[110,111,119]⟩:ByteArray) 0 ((sizeD D (⟨#[110,111,119]⟩:ByteArray)).1)).1)).1)).1))).1)).1)).2.2)]) (.sp 112 (((allI ((readD D (manN ((getI ((nextI ((readD D (⟨#[110,111,119]⟩:ByteArray) 0 ((sizeD D (⟨#[110,111,119]⟩:ByteArray)).1)).1)).1)).1)) 0 ((sizeD D (manN ((getI ((nextI ((readD D (⟨#[110,111,119]⟩:ByteArray) 0 ((sizeD D (⟨#[110,111,119]⟩:ByteArray)).1)).1)).1)).1))).1)).1)).2.2) != (0:Int)) (
.leaf ⟨[0],[(0,0,none)]⟩ [] .ret (some ([(0, .tup [.p (.v (.pointer none)),vi 12])],[.obj [] (diskP D)]))) (
.int 115 ((((allI ((readD D (manN ((getI ((nextI ((readD D (⟨#[110,111,119]⟩:ByteArray) 0 ((sizeD D (⟨#[110,111,119]⟩:ByteArray)).1)).1)).1)).1)) 0 ((sizeD D (manN ((getI ((nextI ((readD D (⟨#[110,111,119]⟩:ByteArray) 0 ((sizeD D (⟨#[110,111,119]⟩:ByteArray)).1)).1)).1)).1))).1)).1)).1).map bytesE.f).length:Int) (((allI ((readD D (manN ((getI ((nextI ((readD D (⟨#[110,111,119]⟩:ByteArray) 0 ((sizeD D (⟨#[110,111,119]⟩:ByteArray)).1)).1)).1)).1)) 0 ((sizeD D (manN ((getI ((nextI ((readD D (⟨#[110,111,119]⟩:ByteArray) 0 ((sizeD D (⟨#[110,111,119]⟩:ByteArray)).1)).1)).1)).1))).1)).1)).1).length:Int) (.sp 116 ((((allI ((readD D (manN ((getI ((nextI ((readD D (⟨#[110,111,119]⟩:ByteArray) 0 ((sizeD D (⟨#[110,111,119]⟩:ByteArray)).1)).1)).1)).1)) 0 ((sizeD D (manN ((getI ((nextI ((readD D (⟨#[110,111,119]⟩:ByteArray) 0 ((sizeD D (⟨#[110,111,119]⟩:ByteArray)).1)).1)).1)).1))).1)).1)).1).length:Int) == (0:Int)) (
.leaf ⟨[0],[(0,0,none)]⟩ [] .ret (some ([(0, .tup [.p (.v (.pointer none)),vi 12])],[.obj [] (diskP D)]))) (
.int 119 ((((allI ((readD D (manN ((getI ((nextI ((readD D (⟨#[110,111,119]⟩:ByteArray) 0 ((sizeD D (⟨#[110,111,119]⟩:ByteArray)).1)).1)).1)).1)) 0 ((sizeD D (manN ((getI ((nextI ((readD D (⟨#[110,111,119]⟩:ByteArray) 0 ((sizeD D (⟨#[110,111,119]⟩:ByteArray)).1)).1)).1)).1))).1)).1)).1).map bytesE.f).length:Int) (((allI ((readD D (manN ((getI ((nextI ((readD D (⟨#[110,111,119]⟩:ByteArray) 0 ((sizeD D (⟨#[110,111,119]⟩:ByteArray)).1)).1)).1)).1)) 0 ((sizeD D (manN ((getI ((nextI ((readD D (⟨#[110,111,119]⟩:ByteArray) 0 ((sizeD D (⟨#[110,111,119]⟩:ByteArray)).1)).1)).1)).1))).1)).1)).1).length:Int) (.loop ⟨[11,118,119,120],[(0,0,none),(2,0,none)]⟩ [] (some (TLoad_l1_e D (firstV.files,firstV.log,firstV.next,firstV.seq,0))) (TLoad_l1_e D) (TLoad_l1_x D) (TLoad_l1_x' D) (firstV.files,firstV.log,firstV.next,firstV.seq,0) (TLoad_l1_b D) (fun (x1:Unit)=> .leaf ⟨[0],[(0,0,none)]⟩ [] .ret (some ([(0, .tup [.p (.v (.pointer none)),vi 12])],[.obj [] (diskP D)]))) (fun (y1:(List Meta)×Int×Int×Int)=> .leaf ⟨[0],[(0,0,none),(1,0,none)]⟩ [] .ret (some ([(0, .tup [.ptr 1 0 0,vi 0])],[.obj [] (diskP D), .cells false 0 ([.op 0,vi ((getI ((nextI ((readD D (⟨#[110,111,119]⟩:ByteArray) 0 ((sizeD D (⟨#[110,111,119]⟩:ByteArray)).1)).1)).1)).1),vl (y1.1.map metaE.f),vi y1.2.1,vi y1.2.2.1,vn .u64 y1.2.2.2,vb false])])))))))))))))))))))))))))))))))

theorem TLoad_chk (D:Dsk):fnC DP Γ14 Δ14 Tryd.f43 [.op 0] [.obj [] (diskP D)] (TLoad D)=TLoad D:=by kernel_rfl

end Go.Ax

namespace Go.Ax
open Go.Proofs Go.RowKit
set_option maxRecDepth 100000

noncomputable def doD (D:Dsk) (n:Int) (v:Vers) (o:Bool) (x:Edt):Dsk×Int:=
 if (applyL v x).2≠0 then (D,(applyL v x).2) else
 if D.down=true then (D,10) else
 if o=false then freshD D n (applyL v x).1 else thenS (appendD D (manN n) (recB (encI x))) (manN n)
noncomputable def doM (D:Dsk) (n:Int) (v:Vers) (o:Bool) (x:Edt):Int×Vers×Bool:=
 if (applyL v x).2≠0 then (n,v,o) else
 if D.down=true then (n,v,o) else
 if o=false then freshM D n v (applyL v x).1 o else if (thenS (appendD D (manN n) (recB (encI x))) (manN n)).2=0 then (n,(applyL v x).1,o) else (n,v,o)
theorem doD_ok {D:Dsk} (ok:D.Ok) (n:Int) (v:Vers) (o:Bool) (x:Edt):(doD D n v o x).1.Ok:=by
 unfold doD
 split
 ·exact ok
 split
 ·exact ok
 split
 ·exact freshD_ok ok _ _
 ·exact thenS_ok (appendD_ok ok _ _) _
theorem Γ14_ok:∀ f,SoundF DP f (Γ14 f):=envP_cons SNameM<|envP_cons SAllV<|envP_cons SEnc<|envP_cons SDec<|envP_cons sound20<|envP_cons SFirst<|envP_cons SNext<|envP_cons SGet<|envP_cons SAll envP_nil
theorem Δ14_ok:∀ f,SoundR DP f (Δ14 f):=envR_cons (lift_sound SStep83)<|envR_cons (take_sound SRPut)<|envR_cons (lift_sound SFresh)<|envR_cons (lift_sound SDown)<|envR_cons (lift_sound SSize)<|envR_cons (lift_sound SRead)<|envR_cons (take_sound SAppend) envR_nil

section
variable {n : Int} {v w : Vers} {o : Bool} {s : Dsk × Int} {D : Dsk} {X Y Z : Box}
theorem cStep83 (ok:s.1.Ok) (hn: -9223372036854775808≤n∧n≤9223372036854775807):Δ14 iStepE [vi s.2, .fn 83 [.ptr 2 0 0]] [manB 1 n v o, .obj [] (diskP s.1), .cells false 0 [.ptr 0 0 0],X,Y,Z] (vi (thenS s (manN n)).2)
  [manB 1 n v o, .obj [] (diskP (thenS s (manN n)).1), .cells false 0 [.ptr 0 0 0],X,Y,Z]:=
 ⟨_,_,_,_,⟨n,v,o,s,ok,hn,rfl,rfl,rfl,rfl⟩,⟨[2,0,1],[0,0,0],[.cells false 0 [.ptr 0 0 0],manB 1 n v o, .obj [] (diskP s.1)],[.cells false 0 [.ptr 0 0 0],manB 1 n v o, .obj [] (diskP (thenS s (manN n)).1)],[],rfl,rfl,rfl,rfl,
  ⟨.cells rfl rfl rfl, .cells rfl rfl rfl, .objs rfl rfl,trivial⟩,⟨.cells rfl rfl rfl, .cells rfl rfl rfl, .objs rfl rfl,trivial⟩,rfl,rfl,rfl⟩⟩
theorem cFresh (ok:D.Ok) (hn:0≤n∧n≤1073741824) (hf:w.files.length≤1000000000) (he:EncOk (allE w)) (hl:(encI (allE w)).length≤1048576):Δ14 iFresh [.ptr 0 0 0,versA w] [manB 1 n v o, .obj [] (diskP D),X,Y,Z] (vi (freshD D n w).2)
  [freshB D n v w o 1, .obj [] (diskP (freshD D n w).1),X,Y,Z]:=
 ⟨_,_,_,_,⟨n,v,w,o,D,ok,hn,hf,he,hl,rfl,rfl,rfl,rfl⟩,⟨[0,1],[0,0],[manB 1 n v o, .obj [] (diskP D)],[freshB D n v w o 1, .obj [] (diskP (freshD D n w).1)],[],rfl,rfl,rfl,rfl,
  ⟨.cells rfl rfl rfl, .objs rfl rfl,trivial⟩,⟨.cells rfl rfl rfl, .objs rfl rfl,trivial⟩,rfl,rfl,rfl⟩⟩
end

structure DoOk (v:Vers) (o:Bool) (x:Edt):Prop where
 ed:EdtOk v x
 fl:(applyL v x).2=0→(applyL v x).1.files.length≤1000000000
 fresh:(applyL v x).2=0→o=false→EncOk (allE (applyL v x).1)∧(encI (allE (applyL v x).1)).length≤1048576
 add:(applyL v x).2=0→o=true→EncOk x∧(encI x).length≤1048576
def ODo:RSpec:=fun args B r B'=>∃ (n:Int) (v:Vers) (o:Bool) (D:Dsk) (x:Edt),D.Ok∧(0≤n∧n≤1073741824)∧DoOk v o x∧args= [.ptr 0 0 0,edtA x]∧B= [manB 1 n v o, .obj [] (diskP D)] ∧
 r=vi (doD D n v o x).2∧B'= [manB 1 (doM D n v o x).1 (doM D n v o x).2.1 (doM D n v o x).2.2, .obj [] (diskP (doD D n v o x).1)]
theorem SDo:SoundR DP iDo ODo:=sound_genT mixedD Γ14_ok Δ14_ok hfDo heDo hbDo (by
 rintro args B r B' ⟨n,v,o,D,x,ok,hn,hx,rfl,rfl,rfl,rfl⟩
 refine ⟨by rw[hnDo]; rfl,_,TDo_chk n v o D x,?_⟩
 unfold TDo
 refine wp_any (wp_call (g20_eq hx.ed) (wp_sp (fun h1=>?_) (fun h1=>wp_callr (oDown (b:=1) ok rfl) (wp_sp (fun h2=>?_) (fun h2=>?_)))))
 ·have h1:=ne_of_bne h1
  have e1:doD D n v o x=(D,(applyL v x).2):=by unfold doD; rw[if_pos h1]
  have e2:doM D n v o x=(n,v,o):=by unfold doM; rw[if_pos h1]
  rw[e1,e2]
  exact wp_leaf rfl ⟨rfl,rfl⟩
 ·have h1:=eq_of_bne h1
  have e1:doD D n v o x=(D,10):=by unfold doD; rw[if_neg (by omega),if_pos h2]
  have e2:doM D n v o x=(n,v,o):=by unfold doM; rw[if_neg (by omega),if_pos h2]
  rw[e1,e2]
  exact wp_leaf rfl ⟨rfl,rfl⟩
 ·have h1:=eq_of_bne h1
  have h2':¬D.down=true:=by rw[h2]; decide
  refine wp_sp (fun h3=>?ca) (fun h3=>?cb)
  case cb=>
   have h3:o=false:=h3
   have e1:doD D n v o x=freshD D n (applyL v x).1:=by unfold doD; rw[if_neg (by omega),if_neg h2',if_pos h3]
   have e2:doM D n v o x=freshM D n v (applyL v x).1 o:=by unfold doM; rw[if_neg (by omega),if_neg h2',if_pos h3]
   rw[e1,e2]
   exact wp_callr (cFresh ok hn (hx.fl h1) (hx.fresh h1 h3).1 (hx.fresh h1 h3).2) (wp_leaf rfl ⟨rfl,rfl⟩)
  case ca=>
   have h3':o=true:=h3
   have h3:¬o=false:=by rw[h3']; decide
   obtain ⟨a1,a2⟩:=hx.add h1 h3'
   have hrl:(recB (encI x)).length=(encI x).length+12:=recB_len _
   have e1:doD D n v o x=thenS (appendD D (manN n) (recB (encI x))) (manN n):=by unfold doD; rw[if_neg (by omega),if_neg h2',if_neg h3]
   have e2:doM D n v o x=if (thenS (appendD D (manN n) (recB (encI x))) (manN n)).2=0 then (n,(applyL v x).1,o) else (n,v,o):=by unfold doM; rw[if_neg (by omega),if_neg h2',if_neg h3]
   rw[e1,e2]
   refine wp_call (gEnc_eq a1) (wp_callr (oRPut a2) ⟨rfl,rfl,wp_any (wp_call (gNameM_eq (by omega)) (wp_callr (oAppend (b:=1) ok (by omega) rfl) (wp_callr (cStep83 (appendD_ok ok _ _) (by omega)) (wp_sp (fun h4=>?_) (fun h4=>?_)))))⟩)
   ·rw[if_neg (ne_of_bne h4)]
    exact wp_leaf rfl ⟨rfl,rfl⟩
   ·rw[if_pos (eq_of_bne h4),eq_of_bne h4]
    exact wp_leaf rfl ⟨rfl,rfl⟩)
end Go.Ax

namespace Go.Ax
open Go.Proofs Go.RowKit
set_option maxRecDepth 100000

noncomputable def replay:List (List UInt8)→Vers→Option Vers
 | [],v=>some v
 | t::r,v=>if (decI t).2≠0 then none else if (applyL v (decI t).1).2≠0 then none else replay r (applyL v (decI t).1).1
def nowR (D:Dsk):List UInt8:=(readD D nowN 0 (sizeD D nowN).1).1
def listR (D:Dsk) (n:Int):List UInt8:=(readD D (manN n) 0 (sizeD D (manN n)).1).1
def numR (D:Dsk):Int×Int×Int:=getI (nextI (nowR D)).1
noncomputable def loadD (D:Dsk):Int×Int×Vers:=
 if (sizeD D nowN).2=4 then (0,0,firstV) else
 if (sizeD D nowN).2≠0 then ((sizeD D nowN).2,0,noV) else
 if (nextI (nowR D)).2.2≠0∨(nextI (nowR D)).2.1≠(nowR D).length then (12,0,noV) else
 if (numR D).2.2≠0∨(numR D).2.1≠(nextI (nowR D)).1.length∨(numR D).1<1∨(numR D).1>1073741824 then (12,0,noV) else
 if (sizeD D (manN (numR D).1)).2≠0 then (12,0,noV) else
 if (allI (listR D (numR D).1)).2.2≠0∨(allI (listR D (numR D).1)).1.length=0 then (12,0,noV) else
 match replay (allI (listR D (numR D).1)).1 firstV with
 | none=>(12,0,noV)
 | some v=>(0,(numR D).1,v)

theorem readD_len {D:Dsk} (ok:D.Ok) (nm:ByteArray) (a b:Int):(readD D nm a b).1.length≤67108864:=by
 unfold readD
 split
 ·simp
 cases hg:D.get nm with
 | none=>simp
 | some x=>
  have hl:=ok.len hg
  simp only
  split
  ·simp
  ·simp only[List.length_take,List.length_drop]; omega
theorem delR_len:∀ (k:Nat) (s:Rst) (L:List Int),(delR k s L).2.length=L.length+k
 | 0,_,_=>rfl
 | k+1,s,L=>by rw[delR,delR_len k]; simp; omega
theorem addR_len:∀ (k:Nat) (s:Rst) (L:List Meta),(addR k s L).2.length=L.length+k
 | 0,_,_=>rfl
 | k+1,s,L=>by rw[addR,addR_len k]; simp; omega
theorem decI_len (t:List UInt8):(decI t).1.add.length≤1000∧(decI t).1.del.length≤1000:=by
 have h1:=take_b (most:=1000) (s:=(decD t).1) (by decide)
 have h2:=take_b (most:=1000) (s:=decH t) (by decide)
 have h3:(decA t).2.length≤1000:=by
  rw[decA,addR_len]
  simp only[List.length_nil]
  omega
 have h4:(decD t).2.length≤1000:=by
  rw[decD,delR_len]
  simp only[List.length_nil]
  omega
 by_cases h:(decA t).1.2=true∨(decA t).1.1.length>0
 ·rw[decI,if_pos h]
  exact ⟨Nat.zero_le _,Nat.zero_le _⟩
 ·rw[decI,if_neg h]
  simp only[decE]
  exact ⟨h3,h4⟩
theorem apply_right {v:Vers} {e:Edt} (h:(applyL v e).2=0):Right (applyL v e).1:=by
 unfold applyL at h ⊢
 split at h
 ·cases h
 ·rename_i h1
  rw[if_neg h1]
  split at h
  ·rename_i h2
   rw[if_pos h2]
   exact right_of h2
  ·rename_i h2
   exact absurd h h2
section
variable {D : Dsk}
theorem load_rounds (hall:∀ t∈(allI (listR D (numR D).1)).1,t.length≤1000000000) (hlen:(allI (listR D (numR D).1)).1.length≤1000000000):∀ (j i:Nat) (v:Vers),i+j=(allI (listR D (numR D).1)).1.length→v.files.length≤1000 →
  Rounds (TLoad_l1_e D) (TLoad_l1_x D) (TLoad_l1_x' D) (fun s=>(TLoad_l1_b D s).wp) (v.files,v.log,v.next,v.seq,(i:Int))
   (match replay ((allI (listR D (numR D).1)).1.drop i) v with | none=> .inl () | some w=> .inr (w.files,w.log,w.next,w.seq)):=by
 intro j
 induction j with
 | zero=>
  intro i v hi hv
  rw[List.drop_of_length_le (by omega)]
  refine .done' (by intro e; cases e) ?_
  unfold TLoad_l1_b
  exact wp_sp (fun h'=>absurd (of_decide_eq_true h') (by show ¬(i:Int)<((allI (listR D (numR D).1)).1.length:Int); omega)) (fun _=>wp_leaf rfl ⟨rfl,rfl⟩)
 | succ j ih=>
  intro i v hi hv
  have hlt:i<(allI (listR D (numR D).1)).1.length:=by omega
  obtain ⟨t,ht⟩:∃ t,(allI (listR D (numR D).1)).1[i]? = some t:=⟨_,List.getElem?_eq_getElem hlt⟩
  have hd:(allI (listR D (numR D).1)).1.drop i=t::(allI (listR D (numR D).1)).1.drop (i+1):=by
   rw[List.drop_eq_getElem_cons hlt]
   congr 1
   rw[List.getElem?_eq_getElem hlt] at ht
   exact Option.some.inj ht
  have htl:=hall t (List.mem_of_getElem? ht)
  obtain ⟨d1,d2⟩:=decI_len t
  have hok:EdtOk v (decI t).1:=⟨by omega,by omega,by omega⟩
  have ei:((i+1:Nat):Int)=(i:Int)+1:=by omega
  rw[hd,replay]
  by_cases e1:(decI t).2≠0
  ·rw[if_pos e1]
   refine .done (by intro e; cases e) ?_
   unfold TLoad_l1_b
   exact wp_sp (fun _=>wp_elem t (by simp only; omega) ht (wp_call (gDec_eq htl) (wp_sp (fun _=>wp_leaf rfl ⟨rfl,rfl⟩) (fun h=>absurd (eq_of_bne h) e1)))) (fun h'=>absurd (of_decide_eq_false h') (by show ¬ ¬(i:Int)<((allI (listR D (numR D).1)).1.length:Int); omega))
  ·rw[if_neg e1]
   by_cases e2:(applyL v (decI t).1).2≠0
   ·rw[if_pos e2]
    refine .done (by intro e; cases e) ?_
    unfold TLoad_l1_b
    exact wp_sp (fun _=>wp_elem t (by simp only; omega) ht (wp_call (gDec_eq htl) (wp_sp (fun h=>absurd (ne_of_bne h) e1) (fun _=>wp_any (wp_call (g20_eq (v:=v) hok) (wp_sp (fun _=>wp_leaf rfl ⟨rfl,rfl⟩) (fun h=>absurd (eq_of_bne h) e2))))))) (fun h'=>absurd (of_decide_eq_false h') (by show ¬ ¬(i:Int)<((allI (listR D (numR D).1)).1.length:Int); omega))
   ·rw[if_neg e2]
    have hr:=ih (i+1) (applyL v (decI t).1).1 (by omega) (apply_right (by omega)).len
    rw[ei] at hr
    refine .next ?_ hr
    unfold TLoad_l1_b
    exact wp_sp (fun _=>wp_elem t (by simp only; omega) ht (wp_call (gDec_eq htl) (wp_sp (fun h=>absurd (ne_of_bne h) e1) (fun _=>wp_any (wp_call (g20_eq (v:=v) hok) (wp_sp (fun h=>absurd (ne_of_bne h) e2) (fun _=>wp_i64 (by simp only; omega) (wp_leaf rfl ⟨rfl,rfl⟩)))))))) (fun h'=>absurd (of_decide_eq_false h') (by show ¬ ¬(i:Int)<((allI (listR D (numR D).1)).1.length:Int); omega))
end
end Go.Ax
