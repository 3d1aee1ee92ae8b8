/- Trees, printed by gen/w1.py. -/
import Derived.Test.YtjlipmcdnigfcaaDoorG42
set_option linter.unusedVariables false
set_option linter.unusedSimpArgs false
set_option linter.unusedSectionVars false
namespace Go.Ax
open Go.Proofs Go.RowKit
set_option maxRecDepth 100000

noncomputable def ΓLn:Env:=envP [(29,gHeadE),(39,gNeg),(37,gFirst),(34,g20),(36,gSame)]
noncomputable def ΔLn:REnv:=envR [(iNew,liftR ONew),(iLoad,liftR OLoad),(iDo,liftR ODo),(iVer,liftR OVer),(iNumb,liftR ONumb)]

abbrev iEditLines:Nat:=11
noncomputable abbrev nEditLines:Func:=Tryd.f11
theorem hfEditLines:DP.funcs[iEditLines]? = some nEditLines:=by kernel_rfl
theorem heEditLines:enters DP iEditLines=true:=by kernel_rfl
theorem hbEditLines:nEditLines.body.isSome=true:=by kernel_rfl
noncomputable def TELn_l1_e (list:List Edt) (s1:Int×Bool×Vers×Vers×Dsk×Int):St:=([(3, .op 0),(4, .ptr 1 0 0),(6, .ptr 2 0 0),(27,vl (list.map edtE.f)),(28,vi (list.length:Int)),(29,vi s1.2.2.2.2.2)],[.obj [] (diskP s1.2.2.2.2.1),manB 0 s1.1 s1.2.2.2.1 s1.2.1,veB s1.2.2.1])
noncomputable def TELn_l1_x (x1:Unit):AE×St:=(.ret,([(2,vb false)],[]))
noncomputable def TELn_l1_x' (y1:Unit):AE×St:=((.exit 0),([],[]))
noncomputable def TELn_j2_e (list:List Edt) (s1:Int×Bool×Vers×Vers×Dsk×Int) (j2:Dsk×Int×Vers×Bool×Vers):St:=([(3, .op 0),(4, .ptr 1 0 0),(6, .ptr 2 0 0),(27,vl (list.map edtE.f)),(28,vi (list.length:Int)),(29,vi s1.2.2.2.2.2)],[.obj [] (diskP j2.1),manB 0 j2.2.1 j2.2.2.1 j2.2.2.2.1,veB j2.2.2.2.2])
noncomputable def TELn_j3_e (list:List Edt) (s1:Int×Bool×Vers×Vers×Dsk×Int) (j2:Dsk×Int×Vers×Bool×Vers) (j3:Bool×Vers×Vers):St:=([(3, .op 0),(4, .ptr 1 0 0),(6, .ptr 2 0 0),(27,vl (list.map edtE.f)),(28,vi (list.length:Int)),(29,vi s1.2.2.2.2.2),(76,vb j3.1)],[.obj [] (diskP j2.1),manB 0 j2.2.1 j3.2.1 j2.2.2.2.1,veB j3.2.2])
noncomputable def TELn_j3 (list:List Edt) (s1:Int×Bool×Vers×Vers×Dsk×Int) (j2:Dsk×Int×Vers×Bool×Vers) (j3:Bool×Vers×Vers):Tree:=
.br j3.1 (
.leaf ⟨[2],[]⟩ [] .ret (some (TELn_l1_x ()).2)) (
.int 77 (IntKind.i64.wrap (s1.2.2.2.2.2+1)) (s1.2.2.2.2.2+1) (.leaf ⟨[3,4,6,27,28,29],[(0,0,none),(1,0,none),(2,0,none)]⟩ [] .normal (some (TELn_l1_e list (j2.2.1,j2.2.2.2.1,j3.2.2,j3.2.1,j2.1,s1.2.2.2.2.2+1)))))
noncomputable def TELn_j2 (list:List Edt) (s1:Int×Bool×Vers×Vers×Dsk×Int) (j2:Dsk×Int×Vers×Bool×Vers):Tree:=
.callr (some 51) (ΔLn 43 [.op 0] [.obj [] (diskP j2.1),manB 0 j2.2.1 j2.2.2.1 j2.2.2.2.1,veB j2.2.2.2.2] (.tup [.ptr 3 0 0,vi 0]) [.obj [] (diskP j2.1),manB 0 j2.2.1 j2.2.2.1 j2.2.2.2.1,veB j2.2.2.2.2,manB 0 ((loadD j2.1).2.1) ((loadD j2.1).2.2) false]) (.tup [.ptr 3 0 0,vi 0]) [.obj [] (diskP j2.1),manB 0 j2.2.1 j2.2.2.1 j2.2.2.2.1,veB j2.2.2.2.2,manB 0 ((loadD j2.1).2.1) ((loadD j2.1).2.2) false] (.any (.fork (
.callr (some 58) (ΔLn 45 [.ptr 3 0 0] [.obj [] (diskP j2.1),manB 0 j2.2.1 j2.2.2.1 j2.2.2.2.1,veB j2.2.2.2.2,manB 0 ((loadD j2.1).2.1) ((loadD j2.1).2.2) false] ((versE.av ((loadD j2.1).2.2))) [.obj [] (diskP j2.1),manB 0 j2.2.1 j2.2.2.1 j2.2.2.2.1,veB j2.2.2.2.2,manB 0 ((loadD j2.1).2.1) ((loadD j2.1).2.2) false]) ((versE.av ((loadD j2.1).2.2))) [.obj [] (diskP j2.1),manB 0 j2.2.1 j2.2.2.1 j2.2.2.2.1,veB j2.2.2.2.2,manB 0 ((loadD j2.1).2.1) ((loadD j2.1).2.2) false] (.call 60 (gSame [(versE.av ((loadD j2.1).2.2)),(versE.av j2.2.2.2.2)]=some (vb (sameB ((loadD j2.1).2.2) j2.2.2.2.2))) (vb (sameB ((loadD j2.1).2.2) j2.2.2.2.2)) (.sp 60 (sameB ((loadD j2.1).2.2) j2.2.2.2.2) (
.fork (
.callr (some 65) (ΔLn 45 [.ptr 1 0 0] [.obj [] (diskP j2.1),manB 0 j2.2.1 j2.2.2.1 j2.2.2.2.1,veB j2.2.2.2.2,manB 0 ((loadD j2.1).2.1) ((loadD j2.1).2.2) false] ((versE.av j2.2.2.1)) [.obj [] (diskP j2.1),manB 0 j2.2.1 j2.2.2.1 j2.2.2.2.1,veB j2.2.2.2.2,manB 0 ((loadD j2.1).2.1) ((loadD j2.1).2.2) false]) ((versE.av j2.2.2.1)) [.obj [] (diskP j2.1),manB 0 j2.2.1 j2.2.2.1 j2.2.2.2.1,veB j2.2.2.2.2,manB 0 ((loadD j2.1).2.1) ((loadD j2.1).2.2) false] (.call 67 (gSame [(versE.av j2.2.2.1),(versE.av j2.2.2.2.2)]=some (vb (sameB j2.2.2.1 j2.2.2.2.2))) (vb (sameB j2.2.2.1 j2.2.2.2.2)) (.sp 67 (sameB j2.2.2.1 j2.2.2.2.2) (
.callr (some 72) (ΔLn 46 [.ptr 3 0 0] [.obj [] (diskP j2.1),manB 0 j2.2.1 j2.2.2.1 j2.2.2.2.1,veB j2.2.2.2.2,manB 0 ((loadD j2.1).2.1) ((loadD j2.1).2.2) false] (vi ((loadD j2.1).2.1)) [.obj [] (diskP j2.1),manB 0 j2.2.1 j2.2.2.1 j2.2.2.2.1,veB j2.2.2.2.2,manB 0 ((loadD j2.1).2.1) ((loadD j2.1).2.2) false]) (vi ((loadD j2.1).2.1)) [.obj [] (diskP j2.1),manB 0 j2.2.1 j2.2.2.1 j2.2.2.2.1,veB j2.2.2.2.2,manB 0 ((loadD j2.1).2.1) ((loadD j2.1).2.2) false] (.callr (some 74) (ΔLn 46 [.ptr 1 0 0] [.obj [] (diskP j2.1),manB 0 j2.2.1 j2.2.2.1 j2.2.2.2.1,veB j2.2.2.2.2,manB 0 ((loadD j2.1).2.1) ((loadD j2.1).2.2) false] (vi j2.2.1) [.obj [] (diskP j2.1),manB 0 j2.2.1 j2.2.2.1 j2.2.2.2.1,veB j2.2.2.2.2,manB 0 ((loadD j2.1).2.1) ((loadD j2.1).2.2) false]) (vi j2.2.1) [.obj [] (diskP j2.1),manB 0 j2.2.1 j2.2.2.1 j2.2.2.2.1,veB j2.2.2.2.2,manB 0 ((loadD j2.1).2.1) ((loadD j2.1).2.2) false] (.sp 75 (((loadD j2.1).2.1) != j2.2.1) (
.join ⟨[3,4,6,27,28,29,76],[(0,0,none),(1,0,none),(2,0,none)]⟩ [] (some (TELn_j3_e list s1 j2 (true,j2.2.2.1,j2.2.2.2.2))) (TELn_j3_e list s1 j2) (true,j2.2.2.1,j2.2.2.2.2) (TELn_j3 list s1 j2)) (
.join ⟨[3,4,6,27,28,29,76],[(0,0,none),(1,0,none),(2,0,none)]⟩ [] (some (TELn_j3_e list s1 j2 (false,j2.2.2.1,j2.2.2.2.2))) (TELn_j3_e list s1 j2) (false,j2.2.2.1,j2.2.2.2.2) (TELn_j3 list s1 j2))))) (
.join ⟨[3,4,6,27,28,29,76],[(0,0,none),(1,0,none),(2,0,none)]⟩ [] (some (TELn_j3_e list s1 j2 (true,j2.2.2.1,j2.2.2.2.2))) (TELn_j3_e list s1 j2) (true,j2.2.2.1,j2.2.2.2.2) (TELn_j3 list s1 j2))))) (
.callr (some 65) (ΔLn 45 [.ptr 1 0 0] [.obj [] (diskP j2.1),manB 0 j2.2.1 j2.2.2.1 j2.2.2.2.1,veB j2.2.2.2.2,manB 0 ((loadD j2.1).2.1) ((loadD j2.1).2.2) false] ((versE.av j2.2.2.1)) [.obj [] (diskP j2.1),manB 0 j2.2.1 j2.2.2.1 j2.2.2.2.1,veB j2.2.2.2.2,manB 0 ((loadD j2.1).2.1) ((loadD j2.1).2.2) false]) ((versE.av j2.2.2.1)) [.obj [] (diskP j2.1),manB 0 j2.2.1 j2.2.2.1 j2.2.2.2.1,veB j2.2.2.2.2,manB 0 ((loadD j2.1).2.1) ((loadD j2.1).2.2) false] (.call 67 (gSame [(versE.av j2.2.2.1),(versE.av j2.2.2.2.2)]=some (vb (sameB j2.2.2.1 j2.2.2.2.2))) (vb (sameB j2.2.2.1 j2.2.2.2.2)) (.sp 67 (sameB j2.2.2.1 j2.2.2.2.2) (
.callr (some 72) (ΔLn 46 [.ptr 3 0 0] [.obj [] (diskP j2.1),manB 0 j2.2.1 j2.2.2.1 j2.2.2.2.1,veB j2.2.2.2.2,manB 0 ((loadD j2.1).2.1) ((loadD j2.1).2.2) false] (vi ((loadD j2.1).2.1)) [.obj [] (diskP j2.1),manB 0 j2.2.1 j2.2.2.1 j2.2.2.2.1,veB j2.2.2.2.2,manB 0 ((loadD j2.1).2.1) ((loadD j2.1).2.2) false]) (vi ((loadD j2.1).2.1)) [.obj [] (diskP j2.1),manB 0 j2.2.1 j2.2.2.1 j2.2.2.2.1,veB j2.2.2.2.2,manB 0 ((loadD j2.1).2.1) ((loadD j2.1).2.2) false] (.callr (some 74) (ΔLn 46 [.ptr 1 0 0] [.obj [] (diskP j2.1),manB 0 j2.2.1 j2.2.2.1 j2.2.2.2.1,veB j2.2.2.2.2,manB 0 ((loadD j2.1).2.1) ((loadD j2.1).2.2) false] (vi j2.2.1) [.obj [] (diskP j2.1),manB 0 j2.2.1 j2.2.2.1 j2.2.2.2.1,veB j2.2.2.2.2,manB 0 ((loadD j2.1).2.1) ((loadD j2.1).2.2) false]) (vi j2.2.1) [.obj [] (diskP j2.1),manB 0 j2.2.1 j2.2.2.1 j2.2.2.2.1,veB j2.2.2.2.2,manB 0 ((loadD j2.1).2.1) ((loadD j2.1).2.2) false] (.sp 75 (((loadD j2.1).2.1) != j2.2.1) (
.join ⟨[3,4,6,27,28,29,76],[(0,0,none),(1,0,none),(2,0,none)]⟩ [] (some (TELn_j3_e list s1 j2 (true,j2.2.2.1,j2.2.2.2.2))) (TELn_j3_e list s1 j2) (true,j2.2.2.1,j2.2.2.2.2) (TELn_j3 list s1 j2)) (
.join ⟨[3,4,6,27,28,29,76],[(0,0,none),(1,0,none),(2,0,none)]⟩ [] (some (TELn_j3_e list s1 j2 (false,j2.2.2.1,j2.2.2.2.2))) (TELn_j3_e list s1 j2) (false,j2.2.2.1,j2.2.2.2.2) (TELn_j3 list s1 j2))))) (
.join ⟨[3,4,6,27,28,29,76],[(0,0,none),(1,0,none),(2,0,none)]⟩ [] (some (TELn_j3_e list s1 j2 (true,j2.2.2.1,j2.2.2.2.2))) (TELn_j3_e list s1 j2) (true,j2.2.2.1,j2.2.2.2.2) (TELn_j3 list s1 j2)))))) (
.fork (
.join ⟨[3,4,6,27,28,29,76],[(0,0,none),(1,0,none),(2,0,none)]⟩ [] (some (TELn_j3_e list s1 j2 (true,j2.2.2.1,j2.2.2.2.2))) (TELn_j3_e list s1 j2) (true,j2.2.2.1,j2.2.2.2.2) (TELn_j3 list s1 j2)) (
.join ⟨[3,4,6,27,28,29,76],[(0,0,none),(1,0,none),(2,0,none)]⟩ [] (some (TELn_j3_e list s1 j2 (true,j2.2.2.1,j2.2.2.2.2))) (TELn_j3_e list s1 j2) (true,j2.2.2.1,j2.2.2.2.2) (TELn_j3 list s1 j2)))))) (
.callr (some 58) (ΔLn 45 [.ptr 3 0 0] [.obj [] (diskP j2.1),manB 0 j2.2.1 j2.2.2.1 j2.2.2.2.1,veB j2.2.2.2.2,manB 0 ((loadD j2.1).2.1) ((loadD j2.1).2.2) false] ((versE.av ((loadD j2.1).2.2))) [.obj [] (diskP j2.1),manB 0 j2.2.1 j2.2.2.1 j2.2.2.2.1,veB j2.2.2.2.2,manB 0 ((loadD j2.1).2.1) ((loadD j2.1).2.2) false]) ((versE.av ((loadD j2.1).2.2))) [.obj [] (diskP j2.1),manB 0 j2.2.1 j2.2.2.1 j2.2.2.2.1,veB j2.2.2.2.2,manB 0 ((loadD j2.1).2.1) ((loadD j2.1).2.2) false] (.call 60 (gSame [(versE.av ((loadD j2.1).2.2)),(versE.av j2.2.2.2.2)]=some (vb (sameB ((loadD j2.1).2.2) j2.2.2.2.2))) (vb (sameB ((loadD j2.1).2.2) j2.2.2.2.2)) (.sp 60 (sameB ((loadD j2.1).2.2) j2.2.2.2.2) (
.fork (
.callr (some 65) (ΔLn 45 [.ptr 1 0 0] [.obj [] (diskP j2.1),manB 0 j2.2.1 j2.2.2.1 j2.2.2.2.1,veB j2.2.2.2.2,manB 0 ((loadD j2.1).2.1) ((loadD j2.1).2.2) false] ((versE.av j2.2.2.1)) [.obj [] (diskP j2.1),manB 0 j2.2.1 j2.2.2.1 j2.2.2.2.1,veB j2.2.2.2.2,manB 0 ((loadD j2.1).2.1) ((loadD j2.1).2.2) false]) ((versE.av j2.2.2.1)) [.obj [] (diskP j2.1),manB 0 j2.2.1 j2.2.2.1 j2.2.2.2.1,veB j2.2.2.2.2,manB 0 ((loadD j2.1).2.1) ((loadD j2.1).2.2) false] (.call 67 (gSame [(versE.av j2.2.2.1),(versE.av j2.2.2.2.2)]=some (vb (sameB j2.2.2.1 j2.2.2.2.2))) (vb (sameB j2.2.2.1 j2.2.2.2.2)) (.sp 67 (sameB j2.2.2.1 j2.2.2.2.2) (
.callr (some 72) (ΔLn 46 [.ptr 3 0 0] [.obj [] (diskP j2.1),manB 0 j2.2.1 j2.2.2.1 j2.2.2.2.1,veB j2.2.2.2.2,manB 0 ((loadD j2.1).2.1) ((loadD j2.1).2.2) false] (vi ((loadD j2.1).2.1)) [.obj [] (diskP j2.1),manB 0 j2.2.1 j2.2.2.1 j2.2.2.2.1,veB j2.2.2.2.2,manB 0 ((loadD j2.1).2.1) ((loadD j2.1).2.2) false]) (vi ((loadD j2.1).2.1)) [.obj [] (diskP j2.1),manB 0 j2.2.1 j2.2.2.1 j2.2.2.2.1,veB j2.2.2.2.2,manB 0 ((loadD j2.1).2.1) ((loadD j2.1).2.2) false] (.callr (some 74) (ΔLn 46 [.ptr 1 0 0] [.obj [] (diskP j2.1),manB 0 j2.2.1 j2.2.2.1 j2.2.2.2.1,veB j2.2.2.2.2,manB 0 ((loadD j2.1).2.1) ((loadD j2.1).2.2) false] (vi j2.2.1) [.obj [] (diskP j2.1),manB 0 j2.2.1 j2.2.2.1 j2.2.2.2.1,veB j2.2.2.2.2,manB 0 ((loadD j2.1).2.1) ((loadD j2.1).2.2) false]) (vi j2.2.1) [.obj [] (diskP j2.1),manB 0 j2.2.1 j2.2.2.1 j2.2.2.2.1,veB j2.2.2.2.2,manB 0 ((loadD j2.1).2.1) ((loadD j2.1).2.2) false] (.sp 75 (((loadD j2.1).2.1) != j2.2.1) (
.join ⟨[3,4,6,27,28,29,76],[(0,0,none),(1,0,none),(2,0,none)]⟩ [] (some (TELn_j3_e list s1 j2 (true,j2.2.2.1,j2.2.2.2.2))) (TELn_j3_e list s1 j2) (true,j2.2.2.1,j2.2.2.2.2) (TELn_j3 list s1 j2)) (
.join ⟨[3,4,6,27,28,29,76],[(0,0,none),(1,0,none),(2,0,none)]⟩ [] (some (TELn_j3_e list s1 j2 (false,j2.2.2.1,j2.2.2.2.2))) (TELn_j3_e list s1 j2) (false,j2.2.2.1,j2.2.2.2.2) (TELn_j3 list s1 j2))))) (
.join ⟨[3,4,6,27,28,29,76],[(0,0,none),(1,0,none),(2,0,none)]⟩ [] (some (TELn_j3_e list s1 j2 (true,j2.2.2.1,j2.2.2.2.2))) (TELn_j3_e list s1 j2) (true,j2.2.2.1,j2.2.2.2.2) (TELn_j3 list s1 j2))))) (
.callr (some 65) (ΔLn 45 [.ptr 1 0 0] [.obj [] (diskP j2.1),manB 0 j2.2.1 j2.2.2.1 j2.2.2.2.1,veB j2.2.2.2.2,manB 0 ((loadD j2.1).2.1) ((loadD j2.1).2.2) false] ((versE.av j2.2.2.1)) [.obj [] (diskP j2.1),manB 0 j2.2.1 j2.2.2.1 j2.2.2.2.1,veB j2.2.2.2.2,manB 0 ((loadD j2.1).2.1) ((loadD j2.1).2.2) false]) ((versE.av j2.2.2.1)) [.obj [] (diskP j2.1),manB 0 j2.2.1 j2.2.2.1 j2.2.2.2.1,veB j2.2.2.2.2,manB 0 ((loadD j2.1).2.1) ((loadD j2.1).2.2) false] (.call 67 (gSame [(versE.av j2.2.2.1),(versE.av j2.2.2.2.2)]=some (vb (sameB j2.2.2.1 j2.2.2.2.2))) (vb (sameB j2.2.2.1 j2.2.2.2.2)) (.sp 67 (sameB j2.2.2.1 j2.2.2.2.2) (
.callr (some 72) (ΔLn 46 [.ptr 3 0 0] [.obj [] (diskP j2.1),manB 0 j2.2.1 j2.2.2.1 j2.2.2.2.1,veB j2.2.2.2.2,manB 0 ((loadD j2.1).2.1) ((loadD j2.1).2.2) false] (vi ((loadD j2.1).2.1)) [.obj [] (diskP j2.1),manB 0 j2.2.1 j2.2.2.1 j2.2.2.2.1,veB j2.2.2.2.2,manB 0 ((loadD j2.1).2.1) ((loadD j2.1).2.2) false]) (vi ((loadD j2.1).2.1)) [.obj [] (diskP j2.1),manB 0 j2.2.1 j2.2.2.1 j2.2.2.2.1,veB j2.2.2.2.2,manB 0 ((loadD j2.1).2.1) ((loadD j2.1).2.2) false] (.callr (some 74) (ΔLn 46 [.ptr 1 0 0] [.obj [] (diskP j2.1),manB 0 j2.2.1 j2.2.2.1 j2.2.2.2.1,veB j2.2.2.2.2,manB 0 ((loadD j2.1).2.1) ((loadD j2.1).2.2) false] (vi j2.2.1) [.obj [] (diskP j2.1),manB 0 j2.2.1 j2.2.2.1 j2.2.2.2.1,veB j2.2.2.2.2,manB 0 ((loadD j2.1).2.1) ((loadD j2.1).2.2) false]) (vi j2.2.1) [.obj [] (diskP j2.1),manB 0 j2.2.1 j2.2.2.1 j2.2.2.2.1,veB j2.2.2.2.2,manB 0 ((loadD j2.1).2.1) ((loadD j2.1).2.2) false] (.sp 75 (((loadD j2.1).2.1) != j2.2.1) (
.join ⟨[3,4,6,27,28,29,76],[(0,0,none),(1,0,none),(2,0,none)]⟩ [] (some (TELn_j3_e list s1 j2 (true,j2.2.2.1,j2.2.2.2.2))) (TELn_j3_e list s1 j2) (true,j2.2.2.1,j2.2.2.2.2) (TELn_j3 list s1 j2)) (
.join ⟨[3,4,6,27,28,29,76],[(0,0,none),(1,0,none),(2,0,none)]⟩ [] (some (TELn_j3_e list s1 j2 (false,j2.2.2.1,j2.2.2.2.2))) (TELn_j3_e list s1 j2) (false,j2.2.2.1,j2.2.2.2.2) (TELn_j3 list s1 j2))))) (
.join ⟨[3,4,6,27,28,29,76],[(0,0,none),(1,0,none),(2,0,none)]⟩ [] (some (TELn_j3_e list s1 j2 (true,j2.2.2.1,j2.2.2.2.2))) (TELn_j3_e list s1 j2) (true,j2.2.2.1,j2.2.2.2.2) (TELn_j3 list s1 j2)))))) (
.fork (
.join ⟨[3,4,6,27,28,29,76],[(0,0,none),(1,0,none),(2,0,none)]⟩ [] (some (TELn_j3_e list s1 j2 (true,j2.2.2.1,j2.2.2.2.2))) (TELn_j3_e list s1 j2) (true,j2.2.2.1,j2.2.2.2.2) (TELn_j3 list s1 j2)) (
.join ⟨[3,4,6,27,28,29,76],[(0,0,none),(1,0,none),(2,0,none)]⟩ [] (some (TELn_j3_e list s1 j2 (true,j2.2.2.1,j2.2.2.2.2))) (TELn_j3_e list s1 j2) (true,j2.2.2.1,j2.2.2.2.2) (TELn_j3 list s1 j2))))))))
noncomputable def TELn_l1_b (list:List Edt) (s1:Int×Bool×Vers×Vers×Dsk×Int):Tree:=
.sp 30 (decide (s1.2.2.2.2.2<(list.length:Int))) (
.elem 31 (list.map edtE.f) edtE list s1.2.2.2.2.2 (fun e1=> .call 34 (gNeg [(edtE.av e1)]=some (vb (negB e1))) (vb (negB e1)) (.sp 34 (negB e1) (
.int 77 (IntKind.i64.wrap (s1.2.2.2.2.2+1)) (s1.2.2.2.2.2+1) (.leaf ⟨[3,4,6,27,28,29],[(0,0,none),(1,0,none),(2,0,none)]⟩ [] .normal (some (TELn_l1_e list (s1.1,s1.2.1,s1.2.2.1,s1.2.2.2.1,s1.2.2.2.2.1,s1.2.2.2.2.2+1))))) (
.call 38 (g20 [(versE.av s1.2.2.1),(edtE.av e1)]=some (.tup [(versE.av ((applyL s1.2.2.1 e1).1)),vi ((applyL s1.2.2.1 e1).2)])) (.tup [(versE.av ((applyL s1.2.2.1 e1).1)),vi ((applyL s1.2.2.1 e1).2)]) (.callr (some 43) (ΔLn 44 [.ptr 1 0 0,(edtE.av e1)] [.obj [] (diskP s1.2.2.2.2.1),manB 0 s1.1 s1.2.2.2.1 s1.2.1,veB s1.2.2.1,edB e1,veB ((applyL s1.2.2.1 e1).1)] (vi ((doD s1.2.2.2.2.1 s1.1 s1.2.2.2.1 s1.2.1 e1).2)) [.obj [] (diskP ((doD s1.2.2.2.2.1 s1.1 s1.2.2.2.1 s1.2.1 e1).1)),manB 0 ((doM s1.2.2.2.2.1 s1.1 s1.2.2.2.1 s1.2.1 e1).1) ((doM s1.2.2.2.2.1 s1.1 s1.2.2.2.1 s1.2.1 e1).2.1) ((doM s1.2.2.2.2.1 s1.1 s1.2.2.2.1 s1.2.1 e1).2.2),veB s1.2.2.1,edB e1,veB ((applyL s1.2.2.1 e1).1)]) (vi ((doD s1.2.2.2.2.1 s1.1 s1.2.2.2.1 s1.2.1 e1).2)) [.obj [] (diskP ((doD s1.2.2.2.2.1 s1.1 s1.2.2.2.1 s1.2.1 e1).1)),manB 0 ((doM s1.2.2.2.2.1 s1.1 s1.2.2.2.1 s1.2.1 e1).1) ((doM s1.2.2.2.2.1 s1.1 s1.2.2.2.1 s1.2.1 e1).2.1) ((doM s1.2.2.2.2.1 s1.1 s1.2.2.2.1 s1.2.1 e1).2.2),veB s1.2.2.1,edB e1,veB ((applyL s1.2.2.1 e1).1)] (.sp 45 (((doD s1.2.2.2.2.1 s1.1 s1.2.2.2.1 s1.2.1 e1).2) != ((applyL s1.2.2.1 e1).2)) (
.leaf ⟨[2],[]⟩ [] .ret (some (TELn_l1_x ()).2)) (
.sp 47 (((applyL s1.2.2.1 e1).2) == (0:Int)) (
.go (.join ⟨[3,4,6,27,28,29],[(0,0,none),(1,0,none),(2,0,none)]⟩ [] (some (TELn_j2_e list s1 (((doD s1.2.2.2.2.1 s1.1 s1.2.2.2.1 s1.2.1 e1).1),(doM s1.2.2.2.2.1 s1.1 s1.2.2.2.1 s1.2.1 e1).1,((doM s1.2.2.2.2.1 s1.1 s1.2.2.2.1 s1.2.1 e1).2.1),(doM s1.2.2.2.2.1 s1.1 s1.2.2.2.1 s1.2.1 e1).2.2,((applyL s1.2.2.1 e1).1)))) (TELn_j2_e list s1) (((doD s1.2.2.2.2.1 s1.1 s1.2.2.2.1 s1.2.1 e1).1),(doM s1.2.2.2.2.1 s1.1 s1.2.2.2.1 s1.2.1 e1).1,((doM s1.2.2.2.2.1 s1.1 s1.2.2.2.1 s1.2.1 e1).2.1),(doM s1.2.2.2.2.1 s1.1 s1.2.2.2.1 s1.2.1 e1).2.2,((applyL s1.2.2.1 e1).1)) (TELn_j2 list s1))) (
.go (.join ⟨[3,4,6,27,28,29],[(0,0,none),(1,0,none),(2,0,none)]⟩ [] (some (TELn_j2_e list s1 (((doD s1.2.2.2.2.1 s1.1 s1.2.2.2.1 s1.2.1 e1).1),(doM s1.2.2.2.2.1 s1.1 s1.2.2.2.1 s1.2.1 e1).1,((doM s1.2.2.2.2.1 s1.1 s1.2.2.2.1 s1.2.1 e1).2.1),(doM s1.2.2.2.2.1 s1.1 s1.2.2.2.1 s1.2.1 e1).2.2,s1.2.2.1))) (TELn_j2_e list s1) (((doD s1.2.2.2.2.1 s1.1 s1.2.2.2.1 s1.2.1 e1).1),(doM s1.2.2.2.2.1 s1.1 s1.2.2.2.1 s1.2.1 e1).1,((doM s1.2.2.2.2.1 s1.1 s1.2.2.2.1 s1.2.1 e1).2.1),(doM s1.2.2.2.2.1 s1.1 s1.2.2.2.1 s1.2.1 e1).2.2,s1.2.2.1) (TELn_j2 list s1)))))))))) (
.leaf ⟨[],[]⟩ [] (.exit 0) (some (TELn_l1_x' ()).2))
noncomputable def TELn (list:List Edt):Tree:=
.call 13 (gHeadE []=some (vb true)) (vb true) (.int 16 ((list.map edtE.f).length:Int) (list.length:Int) (.sp 17 (decide ((list.length:Int)>(10:Int))) (
.leaf ⟨[0],[]⟩ [] .ret (some ([(0,vb true)],[]))) (
.callr (some 18) (ΔLn 15 [vi 4194304] [] (.op 0) [.obj [] (diskP (newD 4194304))]) (.op 0) [.obj [] (diskP (newD 4194304))] (.callr (some 21) (ΔLn 43 [.op 0] [.obj [] (diskP (newD 4194304))] (.tup [.ptr 1 0 0,vi 0]) [.obj [] (diskP (newD 4194304)),manB 0 0 firstV false]) (.tup [.ptr 1 0 0,vi 0]) [.obj [] (diskP (newD 4194304)),manB 0 0 firstV false] (.call 26 (gFirst []=some ((versE.av firstV))) ((versE.av firstV)) (.int 28 ((list.map edtE.f).length:Int) (list.length:Int) (.loop ⟨[3,4,6,27,28,29],[(0,0,none),(1,0,none),(2,0,none)]⟩ [] (some (TELn_l1_e list (0,false,firstV,firstV,(newD 4194304),0))) (TELn_l1_e list) (TELn_l1_x) (TELn_l1_x') (0,false,firstV,firstV,(newD 4194304),0) (TELn_l1_b list) (fun (x1:Unit)=> .leaf ⟨[0],[]⟩ [] .ret (some ([(0,vb false)],[]))) (fun (y1:Unit)=> .leaf ⟨[0],[]⟩ [] .ret (some ([(0,vb true)],[]))))))))))

theorem TELn_chk (list:List Edt):fnC DP ΓLn ΔLn Tryd.f11 [vl (list.map edtE.f)] [] (TELn list)=TELn list:=by kernel_rfl

end Go.Ax

namespace Go.Ax
open Go.Proofs Go.RowKit
set_option maxRecDepth 100000

theorem replay_cons (t:List UInt8) (ts:List (List UInt8)) (a:Vers):replay (t::ts) a=if (decI t).2≠0 then none else if (applyL a (decI t).1).2≠0 then none else replay ts (applyL a (decI t).1).1:=by rw[replay]
theorem replay_snoc {v:Vers} {x:Edt} (hx:NumOk x) (h0:(applyL v x).2=0) (ts:List (List UInt8)):∀ a:Vers,replay ts a=some v→replay (ts++ [encI x]) a=some (applyL v x).1:=by
 induction ts with
 | nil=>
  intro a h
  have e:a=v:=by rw[replay] at h; exact Option.some.inj h
  subst e
  rw[List.nil_append,replay_cons,decI_enc hx,if_neg (fun h=>h rfl),if_neg (fun h=>h h0),replay]
 | cons t ts ih=>
  intro a h
  rw[replay_cons] at h
  rw[List.cons_append,replay_cons]
  by_cases h1:(decI t).2≠0
  ·rw[if_pos h1] at h; cases h
  ·rw[if_neg h1] at h ⊢
   by_cases h2:(applyL a (decI t).1).2≠0
   ·rw[if_pos h2] at h; cases h
   ·rw[if_neg h2] at h ⊢
    exact ih _ h
structure EInv (D:Dsk) (n:Int) (v:Vers) (o:Bool) (k:Nat):Prop where
 live:Live D
 room:D.room=4194304
 right:Right v
 seq:0≤v.seq
 few:v.files.length≤20*k
 st:(o=false∧n=0∧v=firstV∧D.cont nowN=none∧D.used=0) ∨
  (o=true∧n=1∧D.cont nowN=some (recB (putI 1))∧D.used≤62000+6500*k∧∃ ts:List (List UInt8),ts≠ []∧(∀ t∈ts,t.length≤1048576)∧D.cont (manN 1)=some (ts.map recB).flatten∧replay ts firstV=some v)
theorem EInv.num {D:Dsk} {n:Int} {v:Vers} {o:Bool} {k:Nat} (I:EInv D n v o k):0≤n∧n≤1:=by
 rcases I.st with ⟨_,h,_⟩ | ⟨_,h,_⟩ <;> omega
theorem right_first:Right firstV where
 log:=by decide
 next:=by decide
 seq:=by decide
 len:=by decide
 ok:=fun m hm=>by simp[firstV] at hm
 up:= .nil
 lev:=fun n h1 h2=>by
  have:(ofL n firstV.files).length=0:=by
   have:=ofL_len n (files:=firstV.files) (by decide)
   have e:firstV.files.length=0:=rfl
   omega
  unfold levelOk
  rw[this]
  rfl
theorem einv_new:EInv (newD 4194304) 0 firstV false 0:=⟨live_new,by decide,right_first,by decide,by decide, .inl ⟨rfl,rfl,rfl,cont_new _ _,rfl⟩⟩
theorem EInv.load {D:Dsk} {n:Int} {v:Vers} {o:Bool} {k:Nat} (I:EInv D n v o k):loadD D=(0,n,v):=by
 rcases I.st with ⟨_,rfl,rfl,h,_⟩ | ⟨_,rfl,h1,_,ts,h2,h3,h4,h5⟩
 ·unfold loadD
  rw[cont_sizeN I.live h,if_pos rfl]
 ·exact load_of I.live (by decide) h1 h4 (allI_recs h3) h2 h5
theorem apply_len (v:Vers) (e:Edt) (hv:v.files.length≤500000) (ha:e.add.length≤500000):(applyL v e).1.files.length≤v.files.length+e.add.length:=by
 unfold applyL
 split
 ·exact Nat.zero_le _
 split
 ·have hl:=left_len e.del v.files
  have hlen:(leftL e.del v.files++e.add).length≤1000000:=by rw[List.length_append]; omega
  show (byNum (leftL e.del v.files++e.add)).length≤_
  rw[(byNum_spec hlen).2.1.length_eq,List.length_append]
  omega
 ·exact Nat.zero_le _
theorem apply_seq {v:Vers} {e:Edt} (hv:0≤v.seq) (he:0≤e.seq):0≤(applyL v e).1.seq:=by
 unfold applyL
 split
 ·exact Int.le_refl _
 split
 ·show 0≤newI e.seq v.seq
  unfold newI
  split <;> omega
 ·exact Int.le_refl _
noncomputable def nextV (v:Vers) (x:Edt):Vers:=if (applyL v x).2=0 then (applyL v x).1 else v
theorem line_step {D:Dsk} {n:Int} {v:Vers} {o:Bool} {k:Nat} {x:Edt} (I:EInv D n v o k) (hk:k≤20) (hx:NumOk x) (ha:x.add.length≤20) (hd:x.del.length≤20):
  DoOk v o x∧(doD D n v o x).2=(applyL v x).2∧(doM D n v o x).2.1=nextV v x∧EInv (doD D n v o x).1 (doM D n v o x).1 (doM D n v o x).2.1 (doM D n v o x).2.2 (k+1):=by
 have hfew:=I.few
 have hal:=apply_len v x (by omega) (by omega)
 have hen:=enc_lenB hx
 have hasq:=apply_seq I.seq hx.seq.1
 have hok:DoOk v o x:=by
  refine ⟨⟨by omega,by omega,by omega⟩,fun _=>by omega,fun h0 _=>?_,fun _ _=>⟨hx.enc,by omega⟩⟩
  have hn:=right_num (apply_right h0) hasq
  have:=enc_len hn
  exact ⟨hn.enc,by omega⟩
 refine ⟨hok,?_⟩
 by_cases h0:(applyL v x).2=0
 ·have hr:=apply_right h0
  have hn:=right_num hr hasq
  have hwn:=enc_lenB hn
  have hrl:(recB (encI x)).length=(encI x).length+12:=recB_len _
  have hwl:(recB (encI (allE (applyL v x).1))).length=(encI (allE (applyL v x).1)).length+12:=recB_len _
  have hp:=putI_len 1 (by decide)
  have hpl:(recB (putI 1)).length=(putI 1).length+12:=recB_len _
  have hwa:(allE (applyL v x).1).add.length=(applyL v x).1.files.length:=rfl
  have hwd:(allE (applyL v x).1).del.length=0:=rfl
  have hroom:=I.room
  have hnx:nextV v x=(applyL v x).1:=if_pos h0
  rcases I.st with ⟨rfl,rfl,rfl,h1,h2⟩ | ⟨rfl,rfl,h1,h2,ts,h3,h4,h5,h6⟩
  ·obtain ⟨f1,f2,f3,f4,f5⟩:=fresh_live I.live (n:=0) (w:=(applyL firstV x).1) (by decide) (by show _+((recB (putI 1)).length:Int)≤_; omega)
   have ed:doD D 0 firstV false x=freshD D 0 (applyL firstV x).1:=by
    unfold doD
    rw[if_neg (by omega),if_neg (by rw[I.live.up]; decide),if_pos rfl]
   have em:doM D 0 firstV false x=(1,(applyL firstV x).1,true):=by
    unfold doM
    rw[if_neg (by omega),if_neg (by rw[I.live.up]; decide),if_pos rfl]
    unfold freshM
    rw[if_pos f1]
    rfl
   rw[ed,em,hnx]
   refine ⟨by rw[f1,h0],rfl,f2,by rw[f5,hroom],hr,hasq,by simp only; omega, .inr ⟨rfl,rfl,by rw[f3,if_pos rfl]; rfl,?_,[encI (allE (applyL firstV x).1)],by simp,fun t ht=>?_,?_,replay_all hr hasq⟩⟩
   ·have:(freshD D 0 (applyL firstV x).1).1.used≤D.used+((recB (encI (allE (applyL firstV x).1))).length+(recB (putI 1)).length):=f4
    omega
   ·rw[List.mem_singleton.1 ht]; have:=enc_len hn; omega
   ·rw[f3,if_neg (manN_nn (by decide)).symm,if_neg (manN_ne (by decide)).symm]
    simp only[List.map_cons,List.map_nil,List.flatten_cons,List.flatten_nil,List.append_nil]
    exact if_pos rfl
  ·obtain ⟨a1,a2,a3,a4,a5⟩:=cont_append I.live h5 (bs:=recB (encI x)) (by omega)
   have hca:(appendD D (manN 1) (recB (encI x))).1.cont (manN 1)=some ((ts.map recB).flatten++recB (encI x)):=by rw[a3,if_pos rfl]
   obtain ⟨s1,s2,s3,s4,s5⟩:=cont_sync a2 hca
   have et:thenS (appendD D (manN 1) (recB (encI x))) (manN 1)=syncD (appendD D (manN 1) (recB (encI x))).1 (manN 1):=by unfold thenS; rw[if_pos a1]
   have ed:doD D 1 v true x=syncD (appendD D (manN 1) (recB (encI x))).1 (manN 1):=by
    unfold doD
    rw[if_neg (by omega),if_neg (by rw[I.live.up]; decide),if_neg (by decide),et]
   have em:doM D 1 v true x=(1,(applyL v x).1,true):=by
    unfold doM
    rw[if_neg (by omega),if_neg (by rw[I.live.up]; decide),if_neg (by decide),et,if_pos s1]
   rw[ed,em,hnx]
   refine ⟨by rw[s1,h0],rfl,s2,by rw[s5,a5,hroom],hr,hasq,by simp only; omega, .inr ⟨rfl,rfl,by rw[s3,a3,if_neg (manN_nn (by decide)),h1],by rw[s4,a4]; omega,ts++ [encI x],by simp,fun t ht=>?_,?_,replay_snoc hx h0 ts _ h6⟩⟩
   ·rcases List.mem_append.1 ht with ht | ht
    ·exact h4 t ht
    ·rw[List.mem_singleton.1 ht]; have:=enc_len hx; omega
   ·rw[s3,hca]; simp
 ·have ed:doD D n v o x=(D,(applyL v x).2):=by unfold doD; rw[if_pos h0]
  have em:doM D n v o x=(n,v,o):=by unfold doM; rw[if_pos h0]
  have hnx:nextV v x=v:=if_neg h0
  rw[ed,em,hnx]
  refine ⟨rfl,rfl,I.live,I.room,I.right,I.seq,by simp only; omega,?_⟩
  rcases I.st with h | ⟨h1,h2,h3,h4,h5⟩
  ·exact .inl h
  ·exact .inr ⟨h1,h2,h3,by simp only; omega,h5⟩

theorem ΓLn_ok:∀ f,SoundF DP f (ΓLn f):=envP_cons SHeadE<|envP_cons SNeg<|envP_cons SFirst<|envP_cons sound20<|envP_cons SSame envP_nil
theorem ΔLn_ok:∀ f,SoundR DP f (ΔLn f):=envR_cons (lift_sound SNew)<|envR_cons (lift_sound SLoad)<|envR_cons (lift_sound SDo)<|envR_cons (lift_sound SVer)<|envR_cons (lift_sound SNumb) envR_nil
theorem lines_rounds {list:List Edt} (hl:list.length≤10) (hf:∀ e∈list,e.fits):∀ (j i:Nat) (D:Dsk) (n:Int) (v:Vers) (o:Bool),i+j=list.length→EInv D n v o i →
  Rounds (TELn_l1_e list) TELn_l1_x TELn_l1_x' (fun s=>(TELn_l1_b list s).wp) (n,o,v,v,D,(i:Int)) (.inr ()):=by
 intro j
 induction j with
 | zero=>
  intro i D n v o hi I
  refine .done' (by simp[TELn_l1_x']) ?_
  unfold TELn_l1_b
  exact wp_sp (fun h'=>absurd (of_decide_eq_true h') (by simp only; omega)) (fun _=>wp_leaf rfl ⟨rfl,rfl⟩)
 | succ j ih=>
  intro i D n v o hi I
  have hlt:i<list.length:=by omega
  have ha:list[i]? = some list[i]:=List.getElem?_eq_getElem hlt
  have hfe:=hf _ (List.getElem_mem hlt)
  generalize list[i]=x at ha hfe
  have ei:((i+1:Nat):Int)=(i:Int)+1:=by omega
  have hfx:x.add.length≤9223372036854775807∧x.del.length≤9223372036854775807:=⟨hfe.1,hfe.2.1⟩
  cases hn:negB x with
  | true=>
   have I2:EInv D n v o (i+1):=by
    refine ⟨I.live,I.room,I.right,I.seq,by have:=I.few; omega,?_⟩
    rcases I.st with h | ⟨h1,h2,h3,h4,h5⟩
    ·exact .inl h
    ·exact .inr ⟨h1,h2,h3,by omega,h5⟩
   have hr:=ih (i+1) D n v o (by omega) I2
   rw[ei] at hr
   refine .next ?_ hr
   unfold TELn_l1_b
   exact wp_sp (fun _=>wp_elem x (by simp only; omega) ha (wp_call (gNeg_eq hfx.1 hfx.2) (wp_sp (fun _=>wp_i64 (by simp only; omega) (wp_leaf rfl ⟨rfl,rfl⟩)) (fun h=>by rw[hn] at h; cases h)))) (fun h'=>absurd (of_decide_eq_false h') (by simp only; omega))
  | false=>
   obtain ⟨hnum,ha20,hd20⟩:=neg_num hn hfe.2.2
   obtain ⟨s1,s2,s3,s4⟩:=line_step I (by omega) hnum ha20 hd20
   have hload:=s4.load
   have hnn:=I.num
   have hfew:v.files.length≤200:=by have:=I.few; omega
   have hnf:(nextV v x).files.length≤1000000000:=by
    have:=s4.few
    rw[s3] at this
    omega
   have hr:=ih (i+1) _ _ _ _ (by omega) s4
   rw[ei,s3] at hr
   have ld:=fun (B:List Box) (hb:B[0]? = some (.obj [] (diskP (doD D n v o x).1)))=>oLoad (b:=0) (doD_ok I.live.ok n v o x) (by rw[hload]) hb
   refine .next ?_ hr
   unfold TELn_l1_b
   refine wp_sp (fun _=>wp_elem x (by simp only; omega) ha (wp_call (gNeg_eq hfx.1 hfx.2) (wp_sp (fun h=>by rw[hn] at h; cases h) (fun _=>wp_call (g20_eq s1.ed) (wp_callr (oDo (b:=0) (m:=1) I.live.ok (by omega) s1 rfl rfl) (wp_sp (fun h=>absurd s2 (by simpa using h)) (fun _=>?_))))))) (fun h'=>absurd (of_decide_eq_false h') (by simp only; omega))
   have hv2:(doM D n v o x).2.1=nextV v x:=s3
   have hv3:(loadD (doD D n v o x).1).2.2=nextV v x:=by rw[hload,hv2]
   have hv4:(loadD (doD D n v o x).1).2.1=(doM D n v o x).1:=by rw[hload]
   have j2:(TELn_j2 list (n,o,v,v,D,(i:Int)) ((doD D n v o x).1,(doM D n v o x).1,(doM D n v o x).2.1,(doM D n v o x).2.2,nextV v x)).wp (fun y c=>y= .normal∧c=TELn_l1_e list ((doM D n v o x).1,(doM D n v o x).2.2,nextV v x,nextV v x,(doD D n v o x).1,(i:Int)+1)):=by
    rw[hv2]
    generalize (doD D n v o x).1=D' at *
    generalize (doM D n v o x).1=n' at *
    generalize (doM D n v o x).2.2=o' at *
    generalize nextV v x=w at *
    have j3:(TELn_j3 list (n,o,v,v,D,(i:Int)) (D',n',w,o',w) (false,w,w)).wp (fun y c=>y= .normal∧c=TELn_l1_e list (n',o',w,w,D',(i:Int)+1)):=by
     unfold TELn_j3
     exact wp_br (fun h=>by cases h) (fun _=>wp_i64 (by simp only; omega) (wp_leaf rfl ⟨rfl,rfl⟩))
    unfold TELn_j2
    refine wp_callr (ld _ rfl) (wp_any ?_)
    simp only[hv3,hv4]
    repeat' first
     | exact wp_join rfl j3
     | refine wp_fork ?_ ?_
     | refine wp_callr (oVer (b:=0) hnf rfl rfl) ?_
     | refine wp_callr (oNumb (b:=0) rfl rfl) ?_
     | refine wp_call (gSame_eq (by omega)) ?_
     | refine wp_sp (fun _=>?_) (fun h=>Bool.noConfusion (h.symm.trans (sameB_t rfl)))
     | refine wp_sp (fun h=>absurd rfl (bne_iff_ne.1 h)) (fun _=>?_)
   refine wp_sp (fun h=>wp_go (wp_join rfl ?_)) (fun h=>wp_go (wp_join rfl ?_))
   ·have:nextV v x=(applyL v x).1:=if_pos (by simpa using h)
    rw[←this]
    exact j2
   ·have:nextV v x=v:=if_neg (by simpa using h)
    rw[this] at j2 ⊢
    exact j2
def REditLines:List AV→AV→Prop:=fun args r=>∃ (list:List Edt),(∀ e∈list,e.fits)∧args= [vl (list.map edtE.f)]∧r=vb true
theorem SEditLines:SoundF DP iEditLines (.pure (relG REditLines)):=sound_pureT mixedD ΓLn_ok ΔLn_ok hfEditLines heEditLines hbEditLines (by
 rintro args r ⟨list,hf,rfl,rfl⟩
 refine ⟨rfl,rfl,_,TELn_chk list,?_⟩
 unfold TELn
 refine wp_call gHeadE_eq (wp_len (wp_sp (fun _=>wp_leaf rfl (.p _)) (fun hl=>?_)))
 have hl:=of_decide_eq_false hl
 have l:=lines_rounds (list:=list) (by omega) hf list.length 0 (newD 4194304) 0 firstV false (by omega) einv_new
 have ld:=oLoad (B:= [.obj [] (diskP (newD 4194304))]) (b:=0) (newD_ok 4194304) (by rw[load_new]) rfl
 rw[load_new] at ld
 exact wp_callr (oNew 4194304) (wp_callr ld (wp_call gFirst_eq (wp_len (wp_loop' _ rfl l (wp_leaf rfl (.p _)))))))
end Go.Ax
