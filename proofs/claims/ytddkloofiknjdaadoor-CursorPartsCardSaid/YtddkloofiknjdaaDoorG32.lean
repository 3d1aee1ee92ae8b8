/- Trees, printed by gen/w1.py. -/
import Derived.Test.YtddkloofiknjdaaDoorG31
set_option linter.unusedVariables false
set_option linter.unusedSimpArgs false
set_option linter.unusedSectionVars false
namespace Go.Ax
open Go.Proofs Go.RowKit
set_option maxRecDepth 100000

noncomputable def ΔV1:REnv:=envR [(iFPages,liftR OFPages),(iFPage,liftR OFPage),(31,liftR OFail)]

abbrev iFail:Nat:=31
noncomputable abbrev nFail:Func:=Tryd.f31
theorem hfFail:DP.funcs[iFail]? = some nFail:=by kernel_rfl
theorem heFail:enters DP iFail=true:=by kernel_rfl
theorem hbFail:nFail.body.isSome=true:=by kernel_rfl
theorem hnFail:nFail.ntmps=18:=by kernel_rfl
abbrev iFill:Nat:=29
noncomputable abbrev nFill:Func:=Tryd.f29
theorem hfFill:DP.funcs[iFill]? = some nFill:=by kernel_rfl
theorem heFill:enters DP iFill=true:=by kernel_rfl
theorem hbFill:nFill.body.isSome=true:=by kernel_rfl
theorem hnFill:nFill.ntmps=69:=by kernel_rfl
abbrev iPeek:Nat:=17
noncomputable abbrev nPeek:Func:=Tryd.f17
theorem hfPeek:DP.funcs[iPeek]? = some nPeek:=by kernel_rfl
theorem hePeek:enters DP iPeek=true:=by kernel_rfl
theorem hbPeek:nPeek.body.isSome=true:=by kernel_rfl
theorem hnPeek:nPeek.ntmps=59:=by kernel_rfl
abbrev iNextC:Nat:=13
noncomputable abbrev nNextC:Func:=Tryd.f13
theorem hfNextC:DP.funcs[iNextC]? = some nNextC:=by kernel_rfl
theorem heNextC:enters DP iNextC=true:=by kernel_rfl
theorem hbNextC:nNextC.body.isSome=true:=by kernel_rfl
theorem hnNextC:nNextC.ntmps=53:=by kernel_rfl
abbrev iSeek:Nat:=18
noncomputable abbrev nSeek:Func:=Tryd.f18
theorem hfSeek:DP.funcs[iSeek]? = some nSeek:=by kernel_rfl
theorem heSeek:enters DP iSeek=true:=by kernel_rfl
theorem hbSeek:nSeek.body.isSome=true:=by kernel_rfl
theorem hnSeek:nSeek.ntmps=121:=by kernel_rfl
abbrev iFirst:Nat:=28
noncomputable abbrev nFirst:Func:=Tryd.f28
theorem hfFirst:DP.funcs[iFirst]? = some nFirst:=by kernel_rfl
theorem heFirst:enters DP iFirst=true:=by kernel_rfl
theorem hbFirst:nFirst.body.isSome=true:=by kernel_rfl
theorem hnFirst:nFirst.ntmps=50:=by kernel_rfl
abbrev iListC:Nat:=11
noncomputable abbrev nListC:Func:=Tryd.f11
theorem hfListC:DP.funcs[iListC]? = some nListC:=by kernel_rfl
theorem heListC:enters DP iListC=true:=by kernel_rfl
theorem hbListC:nListC.body.isSome=true:=by kernel_rfl
theorem hnListC:nListC.ntmps=7:=by kernel_rfl
abbrev iManyC:Nat:=12
noncomputable abbrev nManyC:Func:=Tryd.f12
theorem hfManyC:DP.funcs[iManyC]? = some nManyC:=by kernel_rfl
theorem heManyC:enters DP iManyC=true:=by kernel_rfl
theorem hbManyC:nManyC.body.isSome=true:=by kernel_rfl
theorem hnManyC:nManyC.ntmps=7:=by kernel_rfl
abbrev iCloneP:Nat:=27
noncomputable abbrev nCloneP:Func:=Tryd.f27
theorem hfCloneP:DP.funcs[iCloneP]? = some nCloneP:=by kernel_rfl
theorem heCloneP:enters DP iCloneP=true:=by kernel_rfl
theorem hbCloneP:nCloneP.body.isSome=true:=by kernel_rfl
theorem hnCloneP:nCloneP.ntmps=8:=by kernel_rfl

noncomputable def TFailF (D:Dsk) (nm:ByteArray) (F:FileR) (c:Cur) (e:Int):Tree:=
.sp 9 (c.bad == (0:Int)) (
.leaf ⟨[0],[(0,0,none),(1,0,none),(2,0,none)]⟩ [] .ret (some ([(0,vi e)],[.obj [] (diskP D), .cells false 0 ([.op 0,vs nm,vl (F.idx.map parE.f),vl (F.bits.map byteE.f),vi F.cnt,vs F.low,vs F.high]), .cells false 0 ([vi 2,vl (c.L.map entE.f), .ptr 1 0 0,vi c.pg,nilS,vi e])]))) (
.leaf ⟨[0],[(0,0,none),(1,0,none),(2,0,none)]⟩ [] .ret (some ([(0,vi c.bad)],[.obj [] (diskP D), .cells false 0 ([.op 0,vs nm,vl (F.idx.map parE.f),vl (F.bits.map byteE.f),vi F.cnt,vs F.low,vs F.high]), .cells false 0 ([vi 2,vl (c.L.map entE.f), .ptr 1 0 0,vi c.pg,nilS,vi c.bad])])))

theorem TFailF_chk (D:Dsk) (nm:ByteArray) (F:FileR) (c:Cur) (e:Int):fnC DP Γ0 Δ0 Tryd.f31 [.ptr 2 0 0,vi e] [.obj [] (diskP D), .cells false 0 ([.op 0,vs nm,vl (F.idx.map parE.f),vl (F.bits.map byteE.f),vi F.cnt,vs F.low,vs F.high]), .cells false 0 ([vi 2,vl (c.L.map entE.f), .ptr 1 0 0,vi c.pg,nilS,vi c.bad])] (TFailF D nm F c e)=TFailF D nm F c e:=by kernel_rfl

noncomputable def TFillL_j1_e (c:Cur) (j1:Unit):St:=([(0, .ptr 0 0 0),(36,vb true)],[.cells false 0 ([vi 1,vl (c.L.map entE.f), .p (.v (.pointer none)),vi c.pg,nilS,vi c.bad])])
noncomputable def TFillL_j1 (c:Cur) (j1:Unit):Tree:=
.leaf ⟨[0],[(0,0,none)]⟩ [] .ret (some ([(0,vi c.bad)],[.cells false 0 ([vi 1,vl (c.L.map entE.f), .p (.v (.pointer none)),vi c.pg,nilS,vi c.bad])]))
noncomputable def TFillL (c:Cur):Tree:=
.any (.sp 9 (c.bad != (0:Int)) (
.fork (
.join ⟨[0,36],[(0,0,none)]⟩ [] (some (TFillL_j1_e c ())) (TFillL_j1_e c) () (TFillL_j1 c)) (
.join ⟨[0,36],[(0,0,none)]⟩ [] (some (TFillL_j1_e c ())) (TFillL_j1_e c) () (TFillL_j1 c))) (
.fork (
.join ⟨[0,36],[(0,0,none)]⟩ [] (some (TFillL_j1_e c ())) (TFillL_j1_e c) () (TFillL_j1 c)) (
.join ⟨[0,36],[(0,0,none)]⟩ [] (some (TFillL_j1_e c ())) (TFillL_j1_e c) () (TFillL_j1 c))))

theorem TFillL_chk (c:Cur):fnC DP Γ0 ΔV1 Tryd.f29 [.ptr 0 0 0] [.cells false 0 ([vi 1,vl (c.L.map entE.f), .p (.v (.pointer none)),vi c.pg,nilS,vi c.bad])] (TFillL c)=TFillL c:=by kernel_rfl

noncomputable def TFillF_j1_e (D:Dsk) (nm:ByteArray) (F:FileR) (c:Cur) (j1:Bool):St:=([(0, .ptr 2 0 0),(36,vb j1)],[.obj [] (diskP D), .cells false 0 ([.op 0,vs nm,vl (F.idx.map parE.f),vl (F.bits.map byteE.f),vi F.cnt,vs F.low,vs F.high]), .cells false 0 ([vi 2,vl (c.L.map entE.f), .ptr 1 0 0,vi c.pg,nilS,vi c.bad])])
noncomputable def TFillF_j1 (D:Dsk) (nm:ByteArray) (F:FileR) (c:Cur) (j1:Bool):Tree:=
.br j1 (
.leaf ⟨[0],[(0,0,none),(1,0,none),(2,0,none)]⟩ [] .ret (some ([(0,vi c.bad)],[.obj [] (diskP D), .cells false 0 ([.op 0,vs nm,vl (F.idx.map parE.f),vl (F.bits.map byteE.f),vi F.cnt,vs F.low,vs F.high]), .cells false 0 ([vi 2,vl (c.L.map entE.f), .ptr 1 0 0,vi c.pg,nilS,vi c.bad])]))) (
.any (.callr (some 50) (ΔV1 45 [.ptr 1 0 0,vi c.pg] [.obj [] (diskP D), .cells false 0 ([.op 0,vs nm,vl (F.idx.map parE.f),vl (F.bits.map byteE.f),vi F.cnt,vs F.low,vs F.high]), .cells false 0 ([vi 2,vl (c.L.map entE.f), .ptr 1 0 0,vi c.pg,nilS,vi c.bad])] (.tup [vl (((pageI (contF D nm) F.idx c.pg).1).map entE.f),vi ((pageI (contF D nm) F.idx c.pg).2)]) [.obj [] (diskP D), .cells false 0 ([.op 0,vs nm,vl (F.idx.map parE.f),vl (F.bits.map byteE.f),vi F.cnt,vs F.low,vs F.high]), .cells false 0 ([vi 2,vl (c.L.map entE.f), .ptr 1 0 0,vi c.pg,nilS,vi c.bad])]) (.tup [vl (((pageI (contF D nm) F.idx c.pg).1).map entE.f),vi ((pageI (contF D nm) F.idx c.pg).2)]) [.obj [] (diskP D), .cells false 0 ([.op 0,vs nm,vl (F.idx.map parE.f),vl (F.bits.map byteE.f),vi F.cnt,vs F.low,vs F.high]), .cells false 0 ([vi 2,vl (c.L.map entE.f), .ptr 1 0 0,vi c.pg,nilS,vi c.bad])] (.sp 54 (((pageI (contF D nm) F.idx c.pg).2) != (0:Int)) (
.callr (some 57) (ΔV1 31 [.ptr 2 0 0,vi ((pageI (contF D nm) F.idx c.pg).2)] [.obj [] (diskP D), .cells false 0 ([.op 0,vs nm,vl (F.idx.map parE.f),vl (F.bits.map byteE.f),vi F.cnt,vs F.low,vs F.high]), .cells false 0 ([vi 2,vl (c.L.map entE.f), .ptr 1 0 0,vi c.pg,nilS,vi c.bad])] (vi ((failC c ((pageI (contF D nm) F.idx c.pg).2)).bad)) [.obj [] (diskP D), .cells false 0 ([.op 0,vs nm,vl (F.idx.map parE.f),vl (F.bits.map byteE.f),vi F.cnt,vs F.low,vs F.high]), .cells false 0 ([vi 2,vl (((failC c ((pageI (contF D nm) F.idx c.pg).2)).L).map entE.f), .ptr 1 0 0,vi ((failC c ((pageI (contF D nm) F.idx c.pg).2)).pg),nilS,vi ((failC c ((pageI (contF D nm) F.idx c.pg).2)).bad)])]) (vi ((failC c ((pageI (contF D nm) F.idx c.pg).2)).bad)) [.obj [] (diskP D), .cells false 0 ([.op 0,vs nm,vl (F.idx.map parE.f),vl (F.bits.map byteE.f),vi F.cnt,vs F.low,vs F.high]), .cells false 0 ([vi 2,vl (((failC c ((pageI (contF D nm) F.idx c.pg).2)).L).map entE.f), .ptr 1 0 0,vi ((failC c ((pageI (contF D nm) F.idx c.pg).2)).pg),nilS,vi ((failC c ((pageI (contF D nm) F.idx c.pg).2)).bad)])] (.leaf ⟨[0],[(0,0,none),(1,0,none),(2,0,none)]⟩ [] .ret (some ([(0,vi ((failC c ((pageI (contF D nm) F.idx c.pg).2)).bad))],[.obj [] (diskP D), .cells false 0 ([.op 0,vs nm,vl (F.idx.map parE.f),vl (F.bits.map byteE.f),vi F.cnt,vs F.low,vs F.high]), .cells false 0 ([vi 2,vl (((failC c ((pageI (contF D nm) F.idx c.pg).2)).L).map entE.f), .ptr 1 0 0,vi ((failC c ((pageI (contF D nm) F.idx c.pg).2)).pg),nilS,vi ((failC c ((pageI (contF D nm) F.idx c.pg).2)).bad)])])))) (
.int 66 (IntKind.i64.wrap (c.pg+1)) (c.pg+1) (.leaf ⟨[0],[(0,0,none),(1,0,none),(2,0,none)]⟩ [] .ret (some ([(0,vi 0)],[.obj [] (diskP D), .cells false 0 ([.op 0,vs nm,vl (F.idx.map parE.f),vl (F.bits.map byteE.f),vi F.cnt,vs F.low,vs F.high]), .cells false 0 ([vi 2,vl (((pageI (contF D nm) F.idx c.pg).1).map entE.f), .ptr 1 0 0,vi (c.pg+1),nilS,vi c.bad])])))))))
noncomputable def TFillF (D:Dsk) (nm:ByteArray) (F:FileR) (c:Cur):Tree:=
.any (.sp 9 (c.bad != (0:Int)) (
.fork (
.join ⟨[0,36],[(0,0,none),(1,0,none),(2,0,none)]⟩ [] (some (TFillF_j1_e D nm F c true)) (TFillF_j1_e D nm F c) true (TFillF_j1 D nm F c)) (
.join ⟨[0,36],[(0,0,none),(1,0,none),(2,0,none)]⟩ [] (some (TFillF_j1_e D nm F c true)) (TFillF_j1_e D nm F c) true (TFillF_j1 D nm F c))) (
.int 22 ((c.L.map entE.f).length:Int) (c.L.length:Int) (.sp 23 (decide ((c.L.length:Int)>(0:Int))) (
.fork (
.join ⟨[0,36],[(0,0,none),(1,0,none),(2,0,none)]⟩ [] (some (TFillF_j1_e D nm F c true)) (TFillF_j1_e D nm F c) true (TFillF_j1 D nm F c)) (
.join ⟨[0,36],[(0,0,none),(1,0,none),(2,0,none)]⟩ [] (some (TFillF_j1_e D nm F c true)) (TFillF_j1_e D nm F c) true (TFillF_j1 D nm F c))) (
.fork (
.callr (some 34) (ΔV1 54 [.ptr 1 0 0] [.obj [] (diskP D), .cells false 0 ([.op 0,vs nm,vl (F.idx.map parE.f),vl (F.bits.map byteE.f),vi F.cnt,vs F.low,vs F.high]), .cells false 0 ([vi 2,vl (c.L.map entE.f), .ptr 1 0 0,vi c.pg,nilS,vi c.bad])] (vi (F.idx.length:Int)) [.obj [] (diskP D), .cells false 0 ([.op 0,vs nm,vl (F.idx.map parE.f),vl (F.bits.map byteE.f),vi F.cnt,vs F.low,vs F.high]), .cells false 0 ([vi 2,vl (c.L.map entE.f), .ptr 1 0 0,vi c.pg,nilS,vi c.bad])]) (vi (F.idx.length:Int)) [.obj [] (diskP D), .cells false 0 ([.op 0,vs nm,vl (F.idx.map parE.f),vl (F.bits.map byteE.f),vi F.cnt,vs F.low,vs F.high]), .cells false 0 ([vi 2,vl (c.L.map entE.f), .ptr 1 0 0,vi c.pg,nilS,vi c.bad])] (.sp 35 (decide (c.pg≥(F.idx.length:Int))) (
.join ⟨[0,36],[(0,0,none),(1,0,none),(2,0,none)]⟩ [] (some (TFillF_j1_e D nm F c true)) (TFillF_j1_e D nm F c) true (TFillF_j1 D nm F c)) (
.join ⟨[0,36],[(0,0,none),(1,0,none),(2,0,none)]⟩ [] (some (TFillF_j1_e D nm F c false)) (TFillF_j1_e D nm F c) false (TFillF_j1 D nm F c)))) (
.callr (some 34) (ΔV1 54 [.ptr 1 0 0] [.obj [] (diskP D), .cells false 0 ([.op 0,vs nm,vl (F.idx.map parE.f),vl (F.bits.map byteE.f),vi F.cnt,vs F.low,vs F.high]), .cells false 0 ([vi 2,vl (c.L.map entE.f), .ptr 1 0 0,vi c.pg,nilS,vi c.bad])] (vi (F.idx.length:Int)) [.obj [] (diskP D), .cells false 0 ([.op 0,vs nm,vl (F.idx.map parE.f),vl (F.bits.map byteE.f),vi F.cnt,vs F.low,vs F.high]), .cells false 0 ([vi 2,vl (c.L.map entE.f), .ptr 1 0 0,vi c.pg,nilS,vi c.bad])]) (vi (F.idx.length:Int)) [.obj [] (diskP D), .cells false 0 ([.op 0,vs nm,vl (F.idx.map parE.f),vl (F.bits.map byteE.f),vi F.cnt,vs F.low,vs F.high]), .cells false 0 ([vi 2,vl (c.L.map entE.f), .ptr 1 0 0,vi c.pg,nilS,vi c.bad])] (.sp 35 (decide (c.pg≥(F.idx.length:Int))) (
.join ⟨[0,36],[(0,0,none),(1,0,none),(2,0,none)]⟩ [] (some (TFillF_j1_e D nm F c true)) (TFillF_j1_e D nm F c) true (TFillF_j1 D nm F c)) (
.join ⟨[0,36],[(0,0,none),(1,0,none),(2,0,none)]⟩ [] (some (TFillF_j1_e D nm F c false)) (TFillF_j1_e D nm F c) false (TFillF_j1 D nm F c))))))))

theorem TFillF_chk (D:Dsk) (nm:ByteArray) (F:FileR) (c:Cur):fnC DP Γ0 ΔV1 Tryd.f29 [.ptr 2 0 0] [.obj [] (diskP D), .cells false 0 ([.op 0,vs nm,vl (F.idx.map parE.f),vl (F.bits.map byteE.f),vi F.cnt,vs F.low,vs F.high]), .cells false 0 ([vi 2,vl (c.L.map entE.f), .ptr 1 0 0,vi c.pg,nilS,vi c.bad])] (TFillF D nm F c)=TFillF D nm F c:=by kernel_rfl

end Go.Ax

namespace Go.Ax
open Go.Proofs Go.RowKit
set_option maxRecDepth 100000

theorem SFail:SoundR DP iFail OFail:=sound_genT mixedD Γ0_ok Δ0_ok hfFail heFail hbFail (by
 rintro args B r B' ⟨D,nm,F,c,e,rfl,rfl,rfl,rfl⟩
 refine ⟨by rw[hnFail]; rfl,_,TFailF_chk D nm F c e,?_⟩
 unfold TFailF failC
 refine wp_sp (fun q=>?_) (fun q=>?_)
 ·have q:c.bad=0:=by simpa using q
  simp only[if_pos q]
  exact wp_leaf rfl ⟨rfl,rfl⟩
 ·have q:¬c.bad=0:=by simpa using q
  simp only[if_neg q]
  exact wp_leaf rfl ⟨rfl,rfl⟩)
theorem ΔV1_ok:∀ f,SoundR DP f (ΔV1 f):=envR_cons (lift_sound SFPages)<|envR_cons (lift_sound SFPage)<|envR_cons (lift_sound SFail) envR_nil
theorem lift_fcB {R:RSpec} {al:List AV} {y:AV} {D:Dsk} {nm:ByteArray} {F:FileR} {c c':Cur} {B:List Box} {d f l:Nat} (hR:R (.ptr 2 0 0::al) (fcB D nm F c) y (fcB D nm F c'))
  (hd:B[d]? = some (dskB D)) (hf:B[f]? = some (filC d nm F)) (hl:B[l]? = some (curB 2 (.ptr f 0 0) c)) (h1:∀ f d,AV.rv.rvL f d al=al) (h2:∀ n,AV.low.allLow n al=true) (hy:y.low 0=true):
  liftR R (.ptr l 0 0::al) B y (B.set l (curB 2 (.ptr f 0 0) c')):=by
 have hdl:d<B.length:=(List.getElem?_eq_some_iff.1 hd).1
 have hfl:f<B.length:=(List.getElem?_eq_some_iff.1 hf).1
 have hll:l<B.length:=(List.getElem?_eq_some_iff.1 hl).1
 have n1:d≠f:=fun e=>by rw[e,hf] at hd; cases hd
 have n2:d≠l:=fun e=>by rw[e,hl] at hd; cases hd
 have n3:f≠l:=fun e=>by
  rw[e,hl] at hf
  have:=congrArg (fun o=>match o with | some (.cells _ _ cs)=>cs.length | _=>0) hf
  simp at this
 have bq:∀ {a b:Nat},a≠b→Nat.beq a b=false:=fun {a b} h=>by
  cases e:Nat.beq a b with
  | false=>rfl
  | true=>exact absurd (Nat.eq_of_beq_eq_true e) h
 refine ⟨_,_,_,_,hR,⟨[d,f,l],[0,0,0],[dskB D,filC d nm F,curB 2 (.ptr f 0 0) c],[dskB D,filC d nm F,curB 2 (.ptr f 0 0) c'],[],?_,?_,?_,?_,⟨.objs rfl rfl, .cells ?_ ?_ rfl, .cells ?_ ?_ rfl,trivial⟩,⟨.objs rfl rfl, .cells ?_ ?_ rfl, .cells ?_ ?_ rfl,trivial⟩,?_,(low_rv hy _ _).symm,low_mono hy⟩⟩
 ·simp[noDup,Nat.blt_eq,hdl,hfl,hll,bq n1,bq n2,bq n3,bq n1.symm,bq n2.symm,bq n3.symm]
 ·simp[hd,hf,hl]
 ·rw[AV.rv.rvL,h1]; simp[AV.rv,fNew,dNew]
 ·rw[AV.low.allLow,h2]; rfl
 all_goals first
  | (simp[dNew]; done)
  | (simp[AV.rv.rvL,AV.rv,fNew,dNew]; done)
  | (rw[outB,outB,outB,outB,set_same hd,set_same hf,List.append_nil])
theorem lift_lcB {R:RSpec} {al:List AV} {y:AV} {c c':Cur} {B:List Box} {l:Nat} (hR:R (.ptr 0 0 0::al) (lcB c) y (lcB c')) (hl:B[l]? = some (curB 1 nilQ c)) (h1:∀ f d,AV.rv.rvL f d al=al) (h2:∀ n,AV.low.allLow n al=true) (hy:y.low 0=true):
  liftR R (.ptr l 0 0::al) B y (B.set l (curB 1 nilQ c')):=by
 have hll:l<B.length:=(List.getElem?_eq_some_iff.1 hl).1
 refine ⟨_,_,_,_,hR,⟨[l],[0],[curB 1 nilQ c],[curB 1 nilQ c'],[],?_,?_,?_,?_,⟨.cells ?_ ?_ rfl,trivial⟩,⟨.cells ?_ ?_ rfl,trivial⟩,?_,(low_rv hy _ _).symm,low_mono hy⟩⟩
 ·simp[noDup,Nat.blt_eq,hll]
 ·simp[hl]
 ·rw[AV.rv.rvL,h1]; simp[AV.rv,fNew,dNew]
 ·rw[AV.low.allLow,h2]; rfl
 all_goals first
  | (simp[dNew]; done)
  | (simp[AV.rv.rvL,AV.rv,fNew,dNew]; done)
  | (rw[outB,outB,List.append_nil])
theorem oFPg {B:List Box} {d l:Nat} {D:Dsk} {nm:ByteArray} {F:FileR} (hb:B[d]? = some (dskB D)) (hl:B[l]? = some (filC d nm F)):liftR OFPages [.ptr l 0 0] B (vi (F.idx.length:Int)) B:=
 oFil (f:=fun _ F=>vi (F.idx.length:Int)) (z:=vi 0) hb hl rfl
theorem SFill:SoundR DP iFill OFill:=(sound_genT (R:=fun args B r B'=>∃ c:Cur,args= [.ptr 0 0 0]∧B=lcB c∧r=vi c.bad∧B'=lcB c) mixedD Γ0_ok ΔV1_ok hfFill heFill hbFill (by
 rintro args B r B' ⟨c,rfl,rfl,rfl,rfl⟩
 refine ⟨by rw[hnFill]; rfl,_,TFillL_chk c,?_⟩
 have h:(TFillL_j1 c ()).wp (fun _ x=>tk x.1 0=vi c.bad∧x.2=lcB c):=by
  unfold TFillL_j1
  exact wp_leaf rfl ⟨rfl,rfl⟩
 unfold TFillL
 exact wp_any (wp_sp (fun _=>wp_fork (wp_join rfl h) (wp_join rfl h)) (fun _=>wp_fork (wp_join rfl h) (wp_join rfl h))))).or (sound_genT mixedD Γ0_ok ΔV1_ok hfFill heFill hbFill (by
 rintro args B r B' ⟨D,nm,F,c,hr,hp,rfl,rfl,rfl,rfl⟩
 refine ⟨by rw[hnFill]; rfl,_,TFillF_chk D nm F c,?_⟩
 obtain ⟨R,hR⟩:∃ R,R=fillC (pfC D nm F) c:=⟨_,rfl⟩
 rw[←hR]
 unfold fillC at hR
 have jT:R=(c,c.bad)→(TFillF_j1 D nm F c true).wp (fun _ c=>tk c.1 0=(vi R.2,fcB D nm F R.1).1∧c.2=(vi R.2,fcB D nm F R.1).2):=fun e=>by
  rw[e]
  unfold TFillF_j1
  exact wp_br (fun _=>wp_leaf rfl ⟨rfl,rfl⟩) (fun q=>by cases q)
 unfold TFillF
 refine wp_any (wp_sp (fun q=>?_) (fun q=>wp_len (wp_sp (fun q2=>?_) (fun q2=>?_))))
 ·have q:c.bad≠0:=by simpa using q
  have:=jT (by rw[hR,if_pos (.inl q)])
  exact wp_fork (wp_join rfl this) (wp_join rfl this)
 ·have:=jT (by rw[hR,if_pos (.inr (.inl (by have:=of_decide_eq_true q2; omega)))])
  exact wp_fork (wp_join rfl this) (wp_join rfl this)
 refine (fun h=>wp_fork h h) (wp_callr (oFPg (d:=0) (l:=1) rfl rfl) (wp_sp (fun q3=>wp_join rfl (jT (by rw[hR,if_pos (.inr (.inr (of_decide_eq_true q3)))]))) (fun q3=>wp_join rfl ?_)))
 have q:c.bad=0:=by simpa using q
 have q2:=of_decide_eq_false q2
 have q3:¬(F.idx.length:Int)≤c.pg:=of_decide_eq_false q3
 rw[if_neg (show ¬(c.bad≠0∨0<c.L.length∨(pfC D nm F).np≤c.pg) from fun h=>by
  rcases h with h | h | h
  ·exact h q
  ·omega
  ·exact q3 h)] at hR
 unfold TFillF_j1
 refine wp_br (fun q=>by cases q) (fun _=>wp_any<|wp_callr (oFPage (b:=0) (l:=1) hr.ok hr.up hr.fok rfl rfl) (wp_sp (fun q4=>?_) (fun q4=>wp_i64 (by omega) ?_)))
 ·have q4:(pageI (contF D nm) F.idx c.pg).2≠0:=by simpa using q4
  rw[if_pos (show ((pfC D nm F).pf c.pg).2≠0 from q4)] at hR
  rw[hR]
  exact wp_callr (lift_fcB (R:=OFail) (d:=0) (f:=1) (l:=2) (B:=fcB D nm F c) ⟨D,nm,F,c,_,rfl,rfl,rfl,rfl⟩ rfl rfl rfl (fun _ _=>rfl) (fun _=>rfl) rfl) (wp_leaf rfl ⟨rfl,rfl⟩)
 ·have q4:(pageI (contF D nm) F.idx c.pg).2=0:=by simpa using q4
  rw[if_neg (show ¬((pfC D nm F).pf c.pg).2≠0 from fun h=>h q4)] at hR
  rw[hR]
  exact wp_leaf rfl ⟨rfl,rfl⟩))
section
variable {B : List Box} {D : Dsk} {nm : ByteArray} {F : FileR} {c : Cur} {d f l : Nat}
theorem oFillF (hr:RdOk D nm F) (hp:0≤c.pg∧c.pg≤100000000) (hd:B[d]? = some (dskB D)) (hf:B[f]? = some (filC d nm F)) (hl:B[l]? = some (curB 2 (.ptr f 0 0) c)):
  liftR OFill [.ptr l 0 0] B (vi (fillC (pfC D nm F) c).2) (B.set l (curB 2 (.ptr f 0 0) (fillC (pfC D nm F) c).1)):=
 lift_fcB (R:=OFill) (.inr ⟨D,nm,F,c,hr,hp,rfl,rfl,rfl,rfl⟩) hd hf hl (fun _ _=>rfl) (fun _=>rfl) rfl
theorem oFillL (hl:B[l]? = some (curB 1 nilQ c)):liftR OFill [.ptr l 0 0] B (vi c.bad) (B.set l (curB 1 nilQ c)):=
 lift_lcB (R:=OFill) (.inl ⟨c,rfl,rfl,rfl,rfl⟩) hl (fun _ _=>rfl) (fun _=>rfl) rfl
end
end Go.Ax

namespace Go.Ax
open Go.Proofs Go.RowKit
set_option maxRecDepth 100000

noncomputable def ΔV2:REnv:=envR [(iFill,liftR OFill)]
def OPeek:RSpec:=fun args B r B'=>(∃ c:Cur,args= [.ptr 0 0 0]∧B=lcB c∧r= .tup [entE.av (peekL c).1,vb (peekL c).2.1,vi (peekL c).2.2]∧B'=lcB c) ∨
 ∃ (D:Dsk) (nm:ByteArray) (F:FileR) (c:Cur),RdOk D nm F∧(0≤c.pg∧c.pg≤100000000)∧args= [.ptr 2 0 0]∧B=fcB D nm F c∧r= .tup [entE.av (peekC (pfC D nm F) c).2.1,vb (peekC (pfC D nm F) c).2.2.1,vi (peekC (pfC D nm F) c).2.2.2]∧B'=fcB D nm F (peekC (pfC D nm F) c).1
noncomputable def ΔV3:REnv:=envR [(iPeek,liftR OPeek)]

noncomputable def TPeekL_j1_e (c:Cur) (j1:Unit):St:=([(2, .ptr 1 0 0),(3,vb false),(4,vi c.bad)],[.cells false 0 ([vi 1,vl (c.L.map entE.f), .p (.v (.pointer none)),vi c.pg,nilS,vi c.bad]), .cells false 0 ([vs (⟨#[]⟩),vn .u64 0,vb false,vs (⟨#[]⟩)])])
noncomputable def TPeekL_j1 (c:Cur) (j1:Unit):Tree:=
.leaf ⟨[0],[(0,0,none)]⟩ [] .ret (some ([(0, .tup [.agg [vs (⟨#[]⟩),vn .u64 0,vb false,vs (⟨#[]⟩)],vb false,vi c.bad])],[.cells false 0 ([vi 1,vl (c.L.map entE.f), .p (.v (.pointer none)),vi c.pg,nilS,vi c.bad])]))
noncomputable def TPeekL (c:Cur):Tree:=
.sp 18 (c.bad != (0:Int)) (
.any (.fork (
.join ⟨[2,3,4],[(0,0,none),(1,0,none)]⟩ [] (some (TPeekL_j1_e c ())) (TPeekL_j1_e c) () (TPeekL_j1 c)) (
.join ⟨[2,3,4],[(0,0,none),(1,0,none)]⟩ [] (some (TPeekL_j1_e c ())) (TPeekL_j1_e c) () (TPeekL_j1 c)))) (
.callr (some 41) (ΔV2 29 [.ptr 0 0 0] [.cells false 0 ([vi 1,vl (c.L.map entE.f), .p (.v (.pointer none)),vi c.pg,nilS,vi c.bad]), .cells false 0 ([vs (⟨#[]⟩),vn .u64 0,vb false,vs (⟨#[]⟩)])] (vi c.bad) [.cells false 0 ([vi 1,vl (c.L.map entE.f), .p (.v (.pointer none)),vi c.pg,nilS,vi c.bad]), .cells false 0 ([vs (⟨#[]⟩),vn .u64 0,vb false,vs (⟨#[]⟩)])]) (vi c.bad) [.cells false 0 ([vi 1,vl (c.L.map entE.f), .p (.v (.pointer none)),vi c.pg,nilS,vi c.bad]), .cells false 0 ([vs (⟨#[]⟩),vn .u64 0,vb false,vs (⟨#[]⟩)])] (.sp 43 (c.bad != (0:Int)) .stuck (.int 50 ((c.L.map entE.f).length:Int) (c.L.length:Int) (.sp 51 ((c.L.length:Int) == (0:Int)) (
.leaf ⟨[0],[(0,0,none)]⟩ [] .ret (some ([(0, .tup [.agg [vs (⟨#[]⟩),vn .u64 0,vb false,vs (⟨#[]⟩)],vb false,vi 0])],[.cells false 0 ([vi 1,vl (c.L.map entE.f), .p (.v (.pointer none)),vi c.pg,nilS,vi c.bad])]))) (
.elem 57 (c.L.map entE.f) entE c.L 0 (fun e1=> .leaf ⟨[0],[(0,0,none)]⟩ [] .ret (some ([(0, .tup [(entE.av e1),vb true,vi 0])],[.cells false 0 ([vi 1,vl (c.L.map entE.f), .p (.v (.pointer none)),vi c.pg,nilS,vi c.bad])]))))))))

theorem TPeekL_chk (c:Cur):fnC DP Γ0 ΔV2 Tryd.f17 [.ptr 0 0 0] [.cells false 0 ([vi 1,vl (c.L.map entE.f), .p (.v (.pointer none)),vi c.pg,nilS,vi c.bad])] (TPeekL c)=TPeekL c:=by kernel_rfl

noncomputable def TPeekF_j1_e (D:Dsk) (nm:ByteArray) (F:FileR) (c:Cur) (j1:Unit):St:=([(2, .ptr 3 0 0),(3,vb false),(4,vi c.bad)],[.obj [] (diskP D), .cells false 0 ([.op 0,vs nm,vl (F.idx.map parE.f),vl (F.bits.map byteE.f),vi F.cnt,vs F.low,vs F.high]), .cells false 0 ([vi 2,vl (c.L.map entE.f), .ptr 1 0 0,vi c.pg,nilS,vi c.bad]), .cells false 0 ([vs (⟨#[]⟩),vn .u64 0,vb false,vs (⟨#[]⟩)])])
noncomputable def TPeekF_j1 (D:Dsk) (nm:ByteArray) (F:FileR) (c:Cur) (j1:Unit):Tree:=
.leaf ⟨[0],[(0,0,none),(1,0,none),(2,0,none)]⟩ [] .ret (some ([(0, .tup [.agg [vs (⟨#[]⟩),vn .u64 0,vb false,vs (⟨#[]⟩)],vb false,vi c.bad])],[.obj [] (diskP D), .cells false 0 ([.op 0,vs nm,vl (F.idx.map parE.f),vl (F.bits.map byteE.f),vi F.cnt,vs F.low,vs F.high]), .cells false 0 ([vi 2,vl (c.L.map entE.f), .ptr 1 0 0,vi c.pg,nilS,vi c.bad])]))
noncomputable def TPeekF (D:Dsk) (nm:ByteArray) (F:FileR) (c:Cur):Tree:=
.sp 18 (c.bad != (0:Int)) (
.any (.fork (
.join ⟨[2,3,4],[(0,0,none),(1,0,none),(2,0,none),(3,0,none)]⟩ [] (some (TPeekF_j1_e D nm F c ())) (TPeekF_j1_e D nm F c) () (TPeekF_j1 D nm F c)) (
.join ⟨[2,3,4],[(0,0,none),(1,0,none),(2,0,none),(3,0,none)]⟩ [] (some (TPeekF_j1_e D nm F c ())) (TPeekF_j1_e D nm F c) () (TPeekF_j1 D nm F c)))) (
.callr (some 41) (ΔV2 29 [.ptr 2 0 0] [.obj [] (diskP D), .cells false 0 ([.op 0,vs nm,vl (F.idx.map parE.f),vl (F.bits.map byteE.f),vi F.cnt,vs F.low,vs F.high]), .cells false 0 ([vi 2,vl (c.L.map entE.f), .ptr 1 0 0,vi c.pg,nilS,vi c.bad]), .cells false 0 ([vs (⟨#[]⟩),vn .u64 0,vb false,vs (⟨#[]⟩)])] (vi ((fillC (pfC D nm F) c).2)) [.obj [] (diskP D), .cells false 0 ([.op 0,vs nm,vl (F.idx.map parE.f),vl (F.bits.map byteE.f),vi F.cnt,vs F.low,vs F.high]), .cells false 0 ([vi 2,vl (((fillC (pfC D nm F) c).1.L).map entE.f), .ptr 1 0 0,vi ((fillC (pfC D nm F) c).1.pg),nilS,vi ((fillC (pfC D nm F) c).1.bad)]), .cells false 0 ([vs (⟨#[]⟩),vn .u64 0,vb false,vs (⟨#[]⟩)])]) (vi ((fillC (pfC D nm F) c).2)) [.obj [] (diskP D), .cells false 0 ([.op 0,vs nm,vl (F.idx.map parE.f),vl (F.bits.map byteE.f),vi F.cnt,vs F.low,vs F.high]), .cells false 0 ([vi 2,vl (((fillC (pfC D nm F) c).1.L).map entE.f), .ptr 1 0 0,vi ((fillC (pfC D nm F) c).1.pg),nilS,vi ((fillC (pfC D nm F) c).1.bad)]), .cells false 0 ([vs (⟨#[]⟩),vn .u64 0,vb false,vs (⟨#[]⟩)])] (.sp 43 (((fillC (pfC D nm F) c).2) != (0:Int)) (
.leaf ⟨[0],[(0,0,none),(1,0,none),(2,0,none)]⟩ [] .ret (some ([(0, .tup [.agg [vs (⟨#[]⟩),vn .u64 0,vb false,vs (⟨#[]⟩)],vb false,vi ((fillC (pfC D nm F) c).2)])],[.obj [] (diskP D), .cells false 0 ([.op 0,vs nm,vl (F.idx.map parE.f),vl (F.bits.map byteE.f),vi F.cnt,vs F.low,vs F.high]), .cells false 0 ([vi 2,vl (((fillC (pfC D nm F) c).1.L).map entE.f), .ptr 1 0 0,vi ((fillC (pfC D nm F) c).1.pg),nilS,vi ((fillC (pfC D nm F) c).1.bad)])]))) (
.int 50 ((((fillC (pfC D nm F) c).1.L).map entE.f).length:Int) (((fillC (pfC D nm F) c).1.L).length:Int) (.sp 51 ((((fillC (pfC D nm F) c).1.L).length:Int) == (0:Int)) (
.leaf ⟨[0],[(0,0,none),(1,0,none),(2,0,none)]⟩ [] .ret (some ([(0, .tup [.agg [vs (⟨#[]⟩),vn .u64 0,vb false,vs (⟨#[]⟩)],vb false,vi 0])],[.obj [] (diskP D), .cells false 0 ([.op 0,vs nm,vl (F.idx.map parE.f),vl (F.bits.map byteE.f),vi F.cnt,vs F.low,vs F.high]), .cells false 0 ([vi 2,vl (((fillC (pfC D nm F) c).1.L).map entE.f), .ptr 1 0 0,vi ((fillC (pfC D nm F) c).1.pg),nilS,vi ((fillC (pfC D nm F) c).1.bad)])]))) (
.elem 57 (((fillC (pfC D nm F) c).1.L).map entE.f) entE ((fillC (pfC D nm F) c).1.L) 0 (fun e1=> .leaf ⟨[0],[(0,0,none),(1,0,none),(2,0,none)]⟩ [] .ret (some ([(0, .tup [(entE.av e1),vb true,vi 0])],[.obj [] (diskP D), .cells false 0 ([.op 0,vs nm,vl (F.idx.map parE.f),vl (F.bits.map byteE.f),vi F.cnt,vs F.low,vs F.high]), .cells false 0 ([vi 2,vl (((fillC (pfC D nm F) c).1.L).map entE.f), .ptr 1 0 0,vi ((fillC (pfC D nm F) c).1.pg),nilS,vi ((fillC (pfC D nm F) c).1.bad)])]))))))))

theorem TPeekF_chk (D:Dsk) (nm:ByteArray) (F:FileR) (c:Cur):fnC DP Γ0 ΔV2 Tryd.f17 [.ptr 2 0 0] [.obj [] (diskP D), .cells false 0 ([.op 0,vs nm,vl (F.idx.map parE.f),vl (F.bits.map byteE.f),vi F.cnt,vs F.low,vs F.high]), .cells false 0 ([vi 2,vl (c.L.map entE.f), .ptr 1 0 0,vi c.pg,nilS,vi c.bad])] (TPeekF D nm F c)=TPeekF D nm F c:=by kernel_rfl

noncomputable def TNextL (c:Cur):Tree:=
.callr (some 13) (ΔV3 17 [.ptr 0 0 0] [.cells false 0 ([vi 1,vl (c.L.map entE.f), .p (.v (.pointer none)),vi c.pg,nilS,vi c.bad]), .cells false 0 ([vs (⟨#[]⟩),vn .u64 0,vb false,vs (⟨#[]⟩)])] (.tup [(entE.av ((peekL c).1)),vb ((peekL c).2.1),vi ((peekL c).2.2)]) [.cells false 0 ([vi 1,vl (c.L.map entE.f), .p (.v (.pointer none)),vi c.pg,nilS,vi c.bad]), .cells false 0 ([vs (⟨#[]⟩),vn .u64 0,vb false,vs (⟨#[]⟩)])]) (.tup [(entE.av ((peekL c).1)),vb ((peekL c).2.1),vi ((peekL c).2.2)]) [.cells false 0 ([vi 1,vl (c.L.map entE.f), .p (.v (.pointer none)),vi c.pg,nilS,vi c.bad]), .cells false 0 ([vs (⟨#[]⟩),vn .u64 0,vb false,vs (⟨#[]⟩)])] (.sp 15 ((peekL c).2.1) (
.cut 49 (c.L.map entE.f) (some 1) none entE c.L (.leaf ⟨[0],[(0,0,none)]⟩ [] .ret (some ([(0, .tup [(entE.av ((peekL c).1)),vb true,vi 0])],[.cells false 0 ([vi 1,vl ((cutL (some 1) none c.L).map entE.f), .p (.v (.pointer none)),vi c.pg,nilS,vi c.bad])])))) (
.leaf ⟨[0],[(0,0,none)]⟩ [] .ret (some ([(0, .tup [(entE.av ((peekL c).1)),vb false,vi ((peekL c).2.2)])],[.cells false 0 ([vi 1,vl (c.L.map entE.f), .p (.v (.pointer none)),vi c.pg,nilS,vi c.bad])]))))

theorem TNextL_chk (c:Cur):fnC DP Γ0 ΔV3 Tryd.f13 [.ptr 0 0 0] [.cells false 0 ([vi 1,vl (c.L.map entE.f), .p (.v (.pointer none)),vi c.pg,nilS,vi c.bad])] (TNextL c)=TNextL c:=by kernel_rfl

noncomputable def TNextF (D:Dsk) (nm:ByteArray) (F:FileR) (c:Cur):Tree:=
.callr (some 13) (ΔV3 17 [.ptr 2 0 0] [.obj [] (diskP D), .cells false 0 ([.op 0,vs nm,vl (F.idx.map parE.f),vl (F.bits.map byteE.f),vi F.cnt,vs F.low,vs F.high]), .cells false 0 ([vi 2,vl (c.L.map entE.f), .ptr 1 0 0,vi c.pg,nilS,vi c.bad]), .cells false 0 ([vs (⟨#[]⟩),vn .u64 0,vb false,vs (⟨#[]⟩)])] (.tup [(entE.av ((peekC (pfC D nm F) c).2.1)),vb ((peekC (pfC D nm F) c).2.2.1),vi ((peekC (pfC D nm F) c).2.2.2)]) [.obj [] (diskP D), .cells false 0 ([.op 0,vs nm,vl (F.idx.map parE.f),vl (F.bits.map byteE.f),vi F.cnt,vs F.low,vs F.high]), .cells false 0 ([vi 2,vl (((peekC (pfC D nm F) c).1.L).map entE.f), .ptr 1 0 0,vi ((peekC (pfC D nm F) c).1.pg),nilS,vi ((peekC (pfC D nm F) c).1.bad)]), .cells false 0 ([vs (⟨#[]⟩),vn .u64 0,vb false,vs (⟨#[]⟩)])]) (.tup [(entE.av ((peekC (pfC D nm F) c).2.1)),vb ((peekC (pfC D nm F) c).2.2.1),vi ((peekC (pfC D nm F) c).2.2.2)]) [.obj [] (diskP D), .cells false 0 ([.op 0,vs nm,vl (F.idx.map parE.f),vl (F.bits.map byteE.f),vi F.cnt,vs F.low,vs F.high]), .cells false 0 ([vi 2,vl (((peekC (pfC D nm F) c).1.L).map entE.f), .ptr 1 0 0,vi ((peekC (pfC D nm F) c).1.pg),nilS,vi ((peekC (pfC D nm F) c).1.bad)]), .cells false 0 ([vs (⟨#[]⟩),vn .u64 0,vb false,vs (⟨#[]⟩)])] (.sp 15 ((peekC (pfC D nm F) c).2.2.1) (
.cut 49 (((peekC (pfC D nm F) c).1.L).map entE.f) (some 1) none entE ((peekC (pfC D nm F) c).1.L) (.leaf ⟨[0],[(0,0,none),(1,0,none),(2,0,none)]⟩ [] .ret (some ([(0, .tup [(entE.av ((peekC (pfC D nm F) c).2.1)),vb true,vi 0])],[.obj [] (diskP D), .cells false 0 ([.op 0,vs nm,vl (F.idx.map parE.f),vl (F.bits.map byteE.f),vi F.cnt,vs F.low,vs F.high]), .cells false 0 ([vi 2,vl ((cutL (some 1) none ((peekC (pfC D nm F) c).1.L)).map entE.f), .ptr 1 0 0,vi ((peekC (pfC D nm F) c).1.pg),nilS,vi ((peekC (pfC D nm F) c).1.bad)])])))) (
.leaf ⟨[0],[(0,0,none),(1,0,none),(2,0,none)]⟩ [] .ret (some ([(0, .tup [(entE.av ((peekC (pfC D nm F) c).2.1)),vb false,vi ((peekC (pfC D nm F) c).2.2.2)])],[.obj [] (diskP D), .cells false 0 ([.op 0,vs nm,vl (F.idx.map parE.f),vl (F.bits.map byteE.f),vi F.cnt,vs F.low,vs F.high]), .cells false 0 ([vi 2,vl (((peekC (pfC D nm F) c).1.L).map entE.f), .ptr 1 0 0,vi ((peekC (pfC D nm F) c).1.pg),nilS,vi ((peekC (pfC D nm F) c).1.bad)])]))))

theorem TNextF_chk (D:Dsk) (nm:ByteArray) (F:FileR) (c:Cur):fnC DP Γ0 ΔV3 Tryd.f13 [.ptr 2 0 0] [.obj [] (diskP D), .cells false 0 ([.op 0,vs nm,vl (F.idx.map parE.f),vl (F.bits.map byteE.f),vi F.cnt,vs F.low,vs F.high]), .cells false 0 ([vi 2,vl (c.L.map entE.f), .ptr 1 0 0,vi c.pg,nilS,vi c.bad])] (TNextF D nm F c)=TNextF D nm F c:=by kernel_rfl

end Go.Ax

namespace Go.Ax
open Go.Proofs Go.RowKit
set_option maxRecDepth 100000

theorem ΔV2_ok:∀ f,SoundR DP f (ΔV2 f):=envR_cons (lift_sound SFill) envR_nil
theorem SPeekL:SoundR DP iPeek (fun args B r B'=>∃ c:Cur,args= [.ptr 0 0 0]∧B=lcB c∧r= .tup [entE.av (peekL c).1,vb (peekL c).2.1,vi (peekL c).2.2]∧B'=lcB c):=sound_genT mixedD Γ0_ok ΔV2_ok hfPeek hePeek hbPeek (by
 rintro args B r B' ⟨c,rfl,rfl,rfl,rfl⟩
 refine ⟨by rw[hnPeek]; rfl,_,TPeekL_chk c,?_⟩
 unfold TPeekL peekL
 refine wp_sp (fun q=>?_) (fun q=>wp_callr (oFillL (l:=0) rfl) (wp_sp (fun q2=>by rw[q] at q2; cases q2) (fun _=>wp_len ?_)))
 ·have q:c.bad≠0:=by simpa using q
  have h:(TPeekL_j1 c ()).wp (fun _ x=>tk x.1 0= .tup [entE.av noE,vb false,vi c.bad]∧x.2=lcB c):=by
   unfold TPeekL_j1
   exact wp_leaf rfl ⟨rfl,rfl⟩
  simp only[if_pos q]
  exact wp_any (wp_fork (wp_join rfl h) (wp_join rfl h))
 ·have q:c.bad=0:=by simpa using q
  rw[if_neg (fun h=>h q)]
  obtain ⟨L,pg,bad⟩:=c
  cases L with
  | nil=>exact wp_sp (fun _=>wp_leaf rfl ⟨rfl,rfl⟩) (fun q=>by simp at q)
  | cons x L=>exact wp_sp (fun q=>absurd q (by simp; omega)) (fun _=>wp_elem x (by decide) rfl (wp_leaf rfl ⟨rfl,rfl⟩)))
theorem SPeekF:SoundR DP iPeek (fun args B r B'=>∃ (D:Dsk) (nm:ByteArray) (F:FileR) (c:Cur),RdOk D nm F∧(0≤c.pg∧c.pg≤100000000)∧args= [.ptr 2 0 0]∧B=fcB D nm F c∧r= .tup [entE.av (peekC (pfC D nm F) c).2.1,vb (peekC (pfC D nm F) c).2.2.1,vi (peekC (pfC D nm F) c).2.2.2]∧B'=fcB D nm F (peekC (pfC D nm F) c).1):=sound_genT mixedD Γ0_ok ΔV2_ok hfPeek hePeek hbPeek (by
 rintro args B r B' ⟨D,nm,F,c,hr,hp,rfl,rfl,rfl,rfl⟩
 refine ⟨by rw[hnPeek]; rfl,_,TPeekF_chk D nm F c,?_⟩
 unfold TPeekF peekC
 refine wp_sp (fun q=>?_) (fun q=>wp_callr (oFillF (d:=0) (f:=1) (l:=2) hr hp rfl rfl rfl) (wp_sp (fun q2=>?_) (fun q2=>wp_len ?_)))
 ·have q:c.bad≠0:=by simpa using q
  have h:(TPeekF_j1 D nm F c ()).wp (fun _ x=>tk x.1 0= .tup [entE.av noE,vb false,vi c.bad]∧x.2=fcB D nm F c):=by
   unfold TPeekF_j1
   exact wp_leaf rfl ⟨rfl,rfl⟩
  simp only[if_pos q]
  exact wp_any (wp_fork (wp_join rfl h) (wp_join rfl h))
 ·have q:c.bad=0:=by simpa using q
  have q2:(fillC (pfC D nm F) c).2≠0:=by simpa using q2
  rw[if_neg (fun h=>h q),if_pos q2]
  exact wp_leaf rfl ⟨rfl,rfl⟩
 ·have q:c.bad=0:=by simpa using q
  have q2:(fillC (pfC D nm F) c).2=0:=by simpa using q2
  rw[if_neg (fun h=>h q),if_neg (fun h=>h q2)]
  generalize (fillC (pfC D nm F) c).1=c2
  obtain ⟨L,pg,bad⟩:=c2
  cases L with
  | nil=>exact wp_sp (fun _=>wp_leaf rfl ⟨rfl,rfl⟩) (fun q=>by simp at q)
  | cons x L=>exact wp_sp (fun q=>absurd q (by simp; omega)) (fun _=>wp_elem x (by decide) rfl (wp_leaf rfl ⟨rfl,rfl⟩)))
theorem SPeek:SoundR DP iPeek OPeek:=SPeekL.or SPeekF
section
variable {B : List Box} {D : Dsk} {nm : ByteArray} {F : FileR} {c : Cur} {d f l : Nat}
theorem oPeekF (hr:RdOk D nm F) (hp:0≤c.pg∧c.pg≤100000000) (hd:B[d]? = some (dskB D)) (hf:B[f]? = some (filC d nm F)) (hl:B[l]? = some (curB 2 (.ptr f 0 0) c)):
  liftR OPeek [.ptr l 0 0] B (.tup [entE.av (peekC (pfC D nm F) c).2.1,vb (peekC (pfC D nm F) c).2.2.1,vi (peekC (pfC D nm F) c).2.2.2]) (B.set l (curB 2 (.ptr f 0 0) (peekC (pfC D nm F) c).1)):=
 lift_fcB (R:=OPeek) (.inr ⟨D,nm,F,c,hr,hp,rfl,rfl,rfl,rfl⟩) hd hf hl (fun _ _=>rfl) (fun _=>rfl) rfl
theorem oPeekL (hl:B[l]? = some (curB 1 nilQ c)):liftR OPeek [.ptr l 0 0] B (.tup [entE.av (peekL c).1,vb (peekL c).2.1,vi (peekL c).2.2]) (B.set l (curB 1 nilQ c)):=
 lift_lcB (R:=OPeek) (.inl ⟨c,rfl,rfl,rfl,rfl⟩) hl (fun _ _=>rfl) (fun _=>rfl) rfl
end
theorem ΔV3_ok:∀ f,SoundR DP f (ΔV3 f):=envR_cons (lift_sound SPeek) envR_nil
theorem headE_ok {L:List Ent} (h:(headE L).2.1=true):1≤L.length:=by
 cases L with
 | nil=>cases h
 | cons x L=>simp
theorem peekC_pos {p:Pgs} {c:Cur} (h:(peekC p c).2.2.1=true):1≤(peekC p c).1.L.length:=by
 unfold peekC at h ⊢
 split at h
 ·cases h
 ·split at h
  ·cases h
  ·rename_i h1 h2
   rw[if_neg h1,if_neg h2]
   exact headE_ok h
theorem peekL_pos {c:Cur} (h:(peekL c).2.1=true):1≤c.L.length:=by
 unfold peekL at h
 split at h
 ·cases h
 ·exact headE_ok h
def ONext:RSpec:=fun args B r B'=>(∃ c:Cur,args= [.ptr 0 0 0]∧B=lcB c∧r= .tup [entE.av (nextL c).2.1,vb (nextL c).2.2.1,vi (nextL c).2.2.2]∧B'=lcB (nextL c).1) ∨
 ∃ (D:Dsk) (nm:ByteArray) (F:FileR) (c:Cur),RdOk D nm F∧(0≤c.pg∧c.pg≤100000000)∧args= [.ptr 2 0 0]∧B=fcB D nm F c∧r= .tup [entE.av (nextC (pfC D nm F) c).2.1,vb (nextC (pfC D nm F) c).2.2.1,vi (nextC (pfC D nm F) c).2.2.2]∧B'=fcB D nm F (nextC (pfC D nm F) c).1
theorem SNextK:SoundR DP iNextC ONext:=(sound_genT (R:=fun args B r B'=>∃ c:Cur,args= [.ptr 0 0 0]∧B=lcB c∧r= .tup [entE.av (nextL c).2.1,vb (nextL c).2.2.1,vi (nextL c).2.2.2]∧B'=lcB (nextL c).1) mixedD Γ0_ok ΔV3_ok hfNextC heNextC hbNextC (by
 rintro args B r B' ⟨c,rfl,rfl,rfl,rfl⟩
 refine ⟨by rw[hnNextC]; rfl,_,TNextL_chk c,?_⟩
 unfold TNextL nextL
 refine wp_callr (oPeekL (l:=0) rfl) (wp_sp (fun q=>?_) (fun q=>?_))
 ·have:=peekL_pos q
  rw[if_pos q]
  exact wp_cut (show 0≤(1:Int)∧(1:Int)≤c.L.length by omega) (wp_leaf rfl ⟨rfl,rfl⟩)
 ·rw[if_neg (by rw[q]; decide)]
  refine wp_leaf rfl ⟨?_,rfl⟩
  show AV.tup _=AV.tup _
  rw[q])).or (sound_genT mixedD Γ0_ok ΔV3_ok hfNextC heNextC hbNextC (by
 rintro args B r B' ⟨D,nm,F,c,hr,hp,rfl,rfl,rfl,rfl⟩
 refine ⟨by rw[hnNextC]; rfl,_,TNextF_chk D nm F c,?_⟩
 unfold TNextF nextC
 refine wp_callr (oPeekF (d:=0) (f:=1) (l:=2) hr hp rfl rfl rfl) (wp_sp (fun q=>?_) (fun q=>?_))
 ·have:=peekC_pos q
  rw[if_pos q]
  exact wp_cut (show 0≤(1:Int)∧(1:Int)≤(peekC (pfC D nm F) c).1.L.length by omega) (wp_leaf rfl ⟨rfl,rfl⟩)
 ·rw[if_neg (by rw[q]; decide)]
  refine wp_leaf rfl ⟨?_,rfl⟩
  show AV.tup _=AV.tup _
  rw[q]))
section
variable {B : List Box} {D : Dsk} {nm : ByteArray} {F : FileR} {c : Cur} {d f l : Nat}
theorem oNextF (hr:RdOk D nm F) (hp:0≤c.pg∧c.pg≤100000000) (hd:B[d]? = some (dskB D)) (hf:B[f]? = some (filC d nm F)) (hl:B[l]? = some (curB 2 (.ptr f 0 0) c)):
  liftR ONext [.ptr l 0 0] B (.tup [entE.av (nextC (pfC D nm F) c).2.1,vb (nextC (pfC D nm F) c).2.2.1,vi (nextC (pfC D nm F) c).2.2.2]) (B.set l (curB 2 (.ptr f 0 0) (nextC (pfC D nm F) c).1)):=
 lift_fcB (R:=ONext) (.inr ⟨D,nm,F,c,hr,hp,rfl,rfl,rfl,rfl⟩) hd hf hl (fun _ _=>rfl) (fun _=>rfl) rfl
theorem oNextL (hl:B[l]? = some (curB 1 nilQ c)):liftR ONext [.ptr l 0 0] B (.tup [entE.av (nextL c).2.1,vb (nextL c).2.2.1,vi (nextL c).2.2.2]) (B.set l (curB 1 nilQ (nextL c).1)):=
 lift_lcB (R:=ONext) (.inl ⟨c,rfl,rfl,rfl,rfl⟩) hl (fun _ _=>rfl) (fun _=>rfl) rfl
end
end Go.Ax
