/- Trees, printed by gen/w1.py. -/
import Derived.Test.YtjlipmcdnigfcaaDoorG36
set_option linter.unusedVariables false
set_option linter.unusedSimpArgs false
set_option linter.unusedSectionVars false
namespace Go.Ax
open Go.Proofs Go.RowKit
set_option maxRecDepth 100000

noncomputable def Γ11:Env:=envP [(51,gNameM)]
noncomputable def Δ11:REnv:=envR [(iAppend,takeR OAppend),(iSync,liftR OSync)]
def O97:RSpec:=fun args B r B'=>∃ (n:Int) (v:Vers) (o:Bool) (D:Dsk) (nm:ByteArray) (bs:List UInt8),D.Ok∧bs.length≤1000000000∧args= [.ptr 0 0 0, .ptr 1 0 0, .ptr 2 0 0] ∧
 B= [.cells false 0 [.ptr 3 0 0], .cells false 0 [vs nm], .cells false 0 [vl (bs.map byteE.f)],manB 4 n v o, .obj [] (diskP D)]∧r=vi (appendD D nm bs).2∧B'= [.cells false 0 [.ptr 3 0 0], .cells false 0 [vs nm], .cells false 0 [vl (bs.map byteE.f)],manB 4 n v o, .obj [] (diskP (appendD D nm bs).1)]
def O98:RSpec:=fun args B r B'=>∃ (n:Int) (v:Vers) (o:Bool) (D:Dsk) (nm:ByteArray),D.Ok∧args= [.ptr 0 0 0, .ptr 1 0 0] ∧
 B= [.cells false 0 [.ptr 2 0 0], .cells false 0 [vs nm],manB 3 n v o, .obj [] (diskP D)]∧r=vi (syncD D nm).2∧B'= [.cells false 0 [.ptr 2 0 0], .cells false 0 [vs nm],manB 3 n v o, .obj [] (diskP (syncD D nm).1)]
def O83:RSpec:=fun args B r B'=>∃ (n:Int) (v:Vers) (o:Bool) (D:Dsk),D.Ok∧(-9223372036854775808≤n∧n≤9223372036854775807)∧args= [.ptr 0 0 0] ∧
 B= [.cells false 0 [.ptr 1 0 0],manB 2 n v o, .obj [] (diskP D)]∧r=vi (syncD D (manN n)).2∧B'= [.cells false 0 [.ptr 1 0 0],manB 2 n v o, .obj [] (diskP (syncD D (manN n)).1)]
noncomputable def Δ12:REnv:=envR [(97,O97),(98,O98),(83,O83)]

abbrev iFresh:Nat:=81
noncomputable abbrev nFresh:Func:=Tryd.f81
theorem hfFresh:DP.funcs[iFresh]? = some nFresh:=by kernel_rfl
theorem heFresh:enters DP iFresh=true:=by kernel_rfl
theorem hbFresh:nFresh.body.isSome=true:=by kernel_rfl
theorem hnFresh:nFresh.ntmps=135:=by kernel_rfl
abbrev iStepE:Nat:=82
noncomputable abbrev nStepE:Func:=Tryd.f82
theorem hfStepE:DP.funcs[iStepE]? = some nStepE:=by kernel_rfl
theorem heStepE:enters DP iStepE=true:=by kernel_rfl
theorem hbStepE:nStepE.body.isSome=true:=by kernel_rfl
theorem hnStepE:nStepE.ntmps=10:=by kernel_rfl
abbrev iC97:Nat:=97
noncomputable abbrev nC97:Func:=Tryd.f97
theorem hfC97:DP.funcs[iC97]? = some nC97:=by kernel_rfl
theorem heC97:enters DP iC97=true:=by kernel_rfl
theorem hbC97:nC97.body.isSome=true:=by kernel_rfl
theorem hnC97:nC97.ntmps=11:=by kernel_rfl
abbrev iC98:Nat:=98
noncomputable abbrev nC98:Func:=Tryd.f98
theorem hfC98:DP.funcs[iC98]? = some nC98:=by kernel_rfl
theorem heC98:enters DP iC98=true:=by kernel_rfl
theorem hbC98:nC98.body.isSome=true:=by kernel_rfl
theorem hnC98:nC98.ntmps=9:=by kernel_rfl
abbrev iC83:Nat:=83
noncomputable abbrev nC83:Func:=Tryd.f83
theorem hfC83:DP.funcs[iC83]? = some nC83:=by kernel_rfl
theorem heC83:enters DP iC83=true:=by kernel_rfl
theorem hbC83:nC83.body.isSome=true:=by kernel_rfl
theorem hnC83:nC83.ntmps=12:=by kernel_rfl

noncomputable def TC97 (n:Int) (v:Vers) (o:Bool) (D:Dsk) (nm:ByteArray) (bs:List UInt8):Tree:=
.any (.callr (some 10) (Δ11 47 [.op 4,vs nm,vl (bs.map byteE.f)] [.cells false 0 ([.ptr 3 0 0]), .cells false 0 ([vs nm]), .cells false 0 ([vl (bs.map byteE.f)]),manB 4 n v o, .obj [] (diskP D)] (vi ((appendD D nm bs).2)) [.cells false 0 ([.ptr 3 0 0]), .cells false 0 ([vs nm]), .cells false 0 ([vl (bs.map byteE.f)]),manB 4 n v o, .obj [] (diskP ((appendD D nm bs).1))]) (vi ((appendD D nm bs).2)) [.cells false 0 ([.ptr 3 0 0]), .cells false 0 ([vs nm]), .cells false 0 ([vl (bs.map byteE.f)]),manB 4 n v o, .obj [] (diskP ((appendD D nm bs).1))] (.leaf ⟨[0],[(0,0,none),(1,0,none),(2,0,none),(3,0,none),(4,0,none)]⟩ [] .ret (some ([(0,vi ((appendD D nm bs).2))],[.cells false 0 ([.ptr 3 0 0]), .cells false 0 ([vs nm]), .cells false 0 ([vl (bs.map byteE.f)]),manB 4 n v o, .obj [] (diskP ((appendD D nm bs).1))]))))

theorem TC97_chk (n:Int) (v:Vers) (o:Bool) (D:Dsk) (nm:ByteArray) (bs:List UInt8):fnC DP Γ11 Δ11 Tryd.f97 [.ptr 0 0 0, .ptr 1 0 0, .ptr 2 0 0] [.cells false 0 ([.ptr 3 0 0]), .cells false 0 ([vs nm]), .cells false 0 ([vl (bs.map byteE.f)]),manB 4 n v o, .obj [] (diskP D)] (TC97 n v o D nm bs)=TC97 n v o D nm bs:=by kernel_rfl

noncomputable def TC98 (n:Int) (v:Vers) (o:Bool) (D:Dsk) (nm:ByteArray):Tree:=
.any (.callr (some 8) (Δ11 54 [.op 3,vs nm] [.cells false 0 ([.ptr 2 0 0]), .cells false 0 ([vs nm]),manB 3 n v o, .obj [] (diskP D)] (vi ((syncD D nm).2)) [.cells false 0 ([.ptr 2 0 0]), .cells false 0 ([vs nm]),manB 3 n v o, .obj [] (diskP ((syncD D nm).1))]) (vi ((syncD D nm).2)) [.cells false 0 ([.ptr 2 0 0]), .cells false 0 ([vs nm]),manB 3 n v o, .obj [] (diskP ((syncD D nm).1))] (.leaf ⟨[0],[(0,0,none),(1,0,none),(2,0,none),(3,0,none)]⟩ [] .ret (some ([(0,vi ((syncD D nm).2))],[.cells false 0 ([.ptr 2 0 0]), .cells false 0 ([vs nm]),manB 3 n v o, .obj [] (diskP ((syncD D nm).1))]))))

theorem TC98_chk (n:Int) (v:Vers) (o:Bool) (D:Dsk) (nm:ByteArray):fnC DP Γ11 Δ11 Tryd.f98 [.ptr 0 0 0, .ptr 1 0 0] [.cells false 0 ([.ptr 2 0 0]), .cells false 0 ([vs nm]),manB 3 n v o, .obj [] (diskP D)] (TC98 n v o D nm)=TC98 n v o D nm:=by kernel_rfl

noncomputable def TC83 (n:Int) (v:Vers) (o:Bool) (D:Dsk):Tree:=
.any (.call 10 (gNameM [vi n]=some (vs (manN n))) (vs (manN n)) (.callr (some 11) (Δ11 54 [.op 2,vs (manN n)] [.cells false 0 ([.ptr 1 0 0]),manB 2 n v o, .obj [] (diskP D)] (vi ((syncD D (manN n)).2)) [.cells false 0 ([.ptr 1 0 0]),manB 2 n v o, .obj [] (diskP ((syncD D (manN n)).1))]) (vi ((syncD D (manN n)).2)) [.cells false 0 ([.ptr 1 0 0]),manB 2 n v o, .obj [] (diskP ((syncD D (manN n)).1))] (.leaf ⟨[0],[(0,0,none),(1,0,none),(2,0,none)]⟩ [] .ret (some ([(0,vi ((syncD D (manN n)).2))],[.cells false 0 ([.ptr 1 0 0]),manB 2 n v o, .obj [] (diskP ((syncD D (manN n)).1))])))))

theorem TC83_chk (n:Int) (v:Vers) (o:Bool) (D:Dsk):fnC DP Γ11 Δ11 Tryd.f83 [.ptr 0 0 0] [.cells false 0 ([.ptr 1 0 0]),manB 2 n v o, .obj [] (diskP D)] (TC83 n v o D)=TC83 n v o D:=by kernel_rfl

noncomputable def TStep97 (n:Int) (v:Vers) (o:Bool) (D:Dsk) (nm:ByteArray) (bs:List UInt8) (e:Int):Tree:=
.sp 6 (e != (0:Int)) (
.leaf ⟨[0],[(0,0,none),(1,0,none),(2,0,none),(3,0,none),(4,0,none)]⟩ [] .ret (some ([(0,vi e)],[.cells false 0 ([.ptr 3 0 0]), .cells false 0 ([vs nm]), .cells false 0 ([vl (bs.map byteE.f)]),manB 4 n v o, .obj [] (diskP D)]))) (
.callr (some 9) (Δ12 97 [.ptr 0 0 0, .ptr 1 0 0, .ptr 2 0 0] [.cells false 0 ([.ptr 3 0 0]), .cells false 0 ([vs nm]), .cells false 0 ([vl (bs.map byteE.f)]),manB 4 n v o, .obj [] (diskP D)] (vi ((appendD D nm bs).2)) [.cells false 0 ([.ptr 3 0 0]), .cells false 0 ([vs nm]), .cells false 0 ([vl (bs.map byteE.f)]),manB 4 n v o, .obj [] (diskP ((appendD D nm bs).1))]) (vi ((appendD D nm bs).2)) [.cells false 0 ([.ptr 3 0 0]), .cells false 0 ([vs nm]), .cells false 0 ([vl (bs.map byteE.f)]),manB 4 n v o, .obj [] (diskP ((appendD D nm bs).1))] (.leaf ⟨[0],[(0,0,none),(1,0,none),(2,0,none),(3,0,none),(4,0,none)]⟩ [] .ret (some ([(0,vi ((appendD D nm bs).2))],[.cells false 0 ([.ptr 3 0 0]), .cells false 0 ([vs nm]), .cells false 0 ([vl (bs.map byteE.f)]),manB 4 n v o, .obj [] (diskP ((appendD D nm bs).1))]))))

theorem TStep97_chk (n:Int) (v:Vers) (o:Bool) (D:Dsk) (nm:ByteArray) (bs:List UInt8) (e:Int):fnC DP Γ11 Δ12 Tryd.f82 [vi e, .fn 97 [.ptr 0 0 0, .ptr 1 0 0, .ptr 2 0 0]] [.cells false 0 ([.ptr 3 0 0]), .cells false 0 ([vs nm]), .cells false 0 ([vl (bs.map byteE.f)]),manB 4 n v o, .obj [] (diskP D)] (TStep97 n v o D nm bs e)=TStep97 n v o D nm bs e:=by kernel_rfl

noncomputable def TStep98 (n:Int) (v:Vers) (o:Bool) (D:Dsk) (nm:ByteArray) (e:Int):Tree:=
.sp 6 (e != (0:Int)) (
.leaf ⟨[0],[(0,0,none),(1,0,none),(2,0,none),(3,0,none)]⟩ [] .ret (some ([(0,vi e)],[.cells false 0 ([.ptr 2 0 0]), .cells false 0 ([vs nm]),manB 3 n v o, .obj [] (diskP D)]))) (
.callr (some 9) (Δ12 98 [.ptr 0 0 0, .ptr 1 0 0] [.cells false 0 ([.ptr 2 0 0]), .cells false 0 ([vs nm]),manB 3 n v o, .obj [] (diskP D)] (vi ((syncD D nm).2)) [.cells false 0 ([.ptr 2 0 0]), .cells false 0 ([vs nm]),manB 3 n v o, .obj [] (diskP ((syncD D nm).1))]) (vi ((syncD D nm).2)) [.cells false 0 ([.ptr 2 0 0]), .cells false 0 ([vs nm]),manB 3 n v o, .obj [] (diskP ((syncD D nm).1))] (.leaf ⟨[0],[(0,0,none),(1,0,none),(2,0,none),(3,0,none)]⟩ [] .ret (some ([(0,vi ((syncD D nm).2))],[.cells false 0 ([.ptr 2 0 0]), .cells false 0 ([vs nm]),manB 3 n v o, .obj [] (diskP ((syncD D nm).1))]))))

theorem TStep98_chk (n:Int) (v:Vers) (o:Bool) (D:Dsk) (nm:ByteArray) (e:Int):fnC DP Γ11 Δ12 Tryd.f82 [vi e, .fn 98 [.ptr 0 0 0, .ptr 1 0 0]] [.cells false 0 ([.ptr 2 0 0]), .cells false 0 ([vs nm]),manB 3 n v o, .obj [] (diskP D)] (TStep98 n v o D nm e)=TStep98 n v o D nm e:=by kernel_rfl

noncomputable def TStep83 (n:Int) (v:Vers) (o:Bool) (D:Dsk) (e:Int):Tree:=
.sp 6 (e != (0:Int)) (
.leaf ⟨[0],[(0,0,none),(1,0,none),(2,0,none)]⟩ [] .ret (some ([(0,vi e)],[.cells false 0 ([.ptr 1 0 0]),manB 2 n v o, .obj [] (diskP D)]))) (
.callr (some 9) (Δ12 83 [.ptr 0 0 0] [.cells false 0 ([.ptr 1 0 0]),manB 2 n v o, .obj [] (diskP D)] (vi ((syncD D (manN n)).2)) [.cells false 0 ([.ptr 1 0 0]),manB 2 n v o, .obj [] (diskP ((syncD D (manN n)).1))]) (vi ((syncD D (manN n)).2)) [.cells false 0 ([.ptr 1 0 0]),manB 2 n v o, .obj [] (diskP ((syncD D (manN n)).1))] (.leaf ⟨[0],[(0,0,none),(1,0,none),(2,0,none)]⟩ [] .ret (some ([(0,vi ((syncD D (manN n)).2))],[.cells false 0 ([.ptr 1 0 0]),manB 2 n v o, .obj [] (diskP ((syncD D (manN n)).1))]))))

theorem TStep83_chk (n:Int) (v:Vers) (o:Bool) (D:Dsk) (e:Int):fnC DP Γ11 Δ12 Tryd.f82 [vi e, .fn 83 [.ptr 0 0 0]] [.cells false 0 ([.ptr 1 0 0]),manB 2 n v o, .obj [] (diskP D)] (TStep83 n v o D e)=TStep83 n v o D e:=by kernel_rfl

end Go.Ax

namespace Go.Ax
open Go.Proofs Go.RowKit
set_option maxRecDepth 100000

theorem Γ11_ok:∀ f,SoundF DP f (Γ11 f):=envP_cons SNameM envP_nil
theorem Δ11_ok:∀ f,SoundR DP f (Δ11 f):=envR_cons (take_sound SAppend) (envR_cons (lift_sound SSync) envR_nil)
theorem S97:SoundR DP iC97 O97:=sound_genT mixedD Γ11_ok Δ11_ok hfC97 heC97 hbC97 (by
 rintro args B r B' ⟨n,v,o,D,nm,bs,ok,hl,rfl,rfl,rfl,rfl⟩
 exact ⟨by rw[hnC97]; rfl,_,TC97_chk n v o D nm bs,wp_any (wp_callr (oAppend (b:=4) ok hl rfl) (wp_leaf rfl ⟨rfl,rfl⟩))⟩)
theorem S98:SoundR DP iC98 O98:=sound_genT mixedD Γ11_ok Δ11_ok hfC98 heC98 hbC98 (by
 rintro args B r B' ⟨n,v,o,D,nm,ok,rfl,rfl,rfl,rfl⟩
 exact ⟨by rw[hnC98]; rfl,_,TC98_chk n v o D nm,wp_any (wp_callr (oSync (b:=3) ok rfl) (wp_leaf rfl ⟨rfl,rfl⟩))⟩)
theorem S83:SoundR DP iC83 O83:=sound_genT mixedD Γ11_ok Δ11_ok hfC83 heC83 hbC83 (by
 rintro args B r B' ⟨n,v,o,D,ok,hn,rfl,rfl,rfl,rfl⟩
 exact ⟨by rw[hnC83]; rfl,_,TC83_chk n v o D,wp_any (wp_call (gNameM_eq hn) (wp_callr (oSync (b:=2) ok rfl) (wp_leaf rfl ⟨rfl,rfl⟩)))⟩)
theorem Δ12_ok:∀ f,SoundR DP f (Δ12 f):=envR_cons S97 (envR_cons S98 (envR_cons S83 envR_nil))

def thenA (x:Dsk×Int) (nm:ByteArray) (bs:List UInt8):Dsk×Int:=if x.2=0 then appendD x.1 nm bs else x
def thenS (x:Dsk×Int) (nm:ByteArray):Dsk×Int:=if x.2=0 then syncD x.1 nm else x
def OStep97:RSpec:=fun args B r B'=>∃ (n:Int) (v:Vers) (o:Bool) (x:Dsk×Int) (nm:ByteArray) (bs:List UInt8),x.1.Ok∧bs.length≤1000000000∧args= [vi x.2, .fn 97 [.ptr 0 0 0, .ptr 1 0 0, .ptr 2 0 0]] ∧
 B= [.cells false 0 [.ptr 3 0 0], .cells false 0 [vs nm], .cells false 0 [vl (bs.map byteE.f)],manB 4 n v o, .obj [] (diskP x.1)]∧r=vi (thenA x nm bs).2∧B'= [.cells false 0 [.ptr 3 0 0], .cells false 0 [vs nm], .cells false 0 [vl (bs.map byteE.f)],manB 4 n v o, .obj [] (diskP (thenA x nm bs).1)]
def OStep98:RSpec:=fun args B r B'=>∃ (n:Int) (v:Vers) (o:Bool) (x:Dsk×Int) (nm:ByteArray),x.1.Ok∧args= [vi x.2, .fn 98 [.ptr 0 0 0, .ptr 1 0 0]] ∧
 B= [.cells false 0 [.ptr 2 0 0], .cells false 0 [vs nm],manB 3 n v o, .obj [] (diskP x.1)]∧r=vi (thenS x nm).2∧B'= [.cells false 0 [.ptr 2 0 0], .cells false 0 [vs nm],manB 3 n v o, .obj [] (diskP (thenS x nm).1)]
def OStep83:RSpec:=fun args B r B'=>∃ (n:Int) (v:Vers) (o:Bool) (x:Dsk×Int),x.1.Ok∧(-9223372036854775808≤n∧n≤9223372036854775807)∧args= [vi x.2, .fn 83 [.ptr 0 0 0]] ∧
 B= [.cells false 0 [.ptr 1 0 0],manB 2 n v o, .obj [] (diskP x.1)]∧r=vi (thenS x (manN n)).2∧B'= [.cells false 0 [.ptr 1 0 0],manB 2 n v o, .obj [] (diskP (thenS x (manN n)).1)]
theorem SStep97:SoundR DP iStepE OStep97:=sound_genT mixedD Γ11_ok Δ12_ok hfStepE heStepE hbStepE (by
 rintro args B r B' ⟨n,v,o,⟨D,e⟩,nm,bs,ok,hl,rfl,rfl,rfl,rfl⟩
 refine ⟨by rw[hnStepE]; rfl,_,TStep97_chk n v o D nm bs e,?_⟩
 unfold TStep97 thenA
 refine wp_sp (fun h=>?_) (fun h=>wp_callr ⟨n,v,o,D,nm,bs,ok,hl,rfl,rfl,rfl,rfl⟩ ?_)
 ·rw[if_neg (by simpa using h)]
  exact wp_leaf rfl ⟨rfl,rfl⟩
 ·rw[if_pos (by simpa using h)]
  exact wp_leaf rfl ⟨rfl,rfl⟩)
theorem SStep98:SoundR DP iStepE OStep98:=sound_genT mixedD Γ11_ok Δ12_ok hfStepE heStepE hbStepE (by
 rintro args B r B' ⟨n,v,o,⟨D,e⟩,nm,ok,rfl,rfl,rfl,rfl⟩
 refine ⟨by rw[hnStepE]; rfl,_,TStep98_chk n v o D nm e,?_⟩
 unfold TStep98 thenS
 refine wp_sp (fun h=>?_) (fun h=>wp_callr ⟨n,v,o,D,nm,ok,rfl,rfl,rfl,rfl⟩ ?_)
 ·rw[if_neg (by simpa using h)]
  exact wp_leaf rfl ⟨rfl,rfl⟩
 ·rw[if_pos (by simpa using h)]
  exact wp_leaf rfl ⟨rfl,rfl⟩)
theorem SStep83:SoundR DP iStepE OStep83:=sound_genT mixedD Γ11_ok Δ12_ok hfStepE heStepE hbStepE (by
 rintro args B r B' ⟨n,v,o,⟨D,e⟩,ok,hn,rfl,rfl,rfl,rfl⟩
 refine ⟨by rw[hnStepE]; rfl,_,TStep83_chk n v o D e,?_⟩
 unfold TStep83 thenS
 refine wp_sp (fun h=>?_) (fun h=>wp_callr ⟨n,v,o,D,ok,hn,rfl,rfl,rfl,rfl⟩ ?_)
 ·rw[if_neg (by simpa using h)]
  exact wp_leaf rfl ⟨rfl,rfl⟩
 ·rw[if_pos (by simpa using h)]
  exact wp_leaf rfl ⟨rfl,rfl⟩)
end Go.Ax
