/- Trees, printed by gen/w1.py. -/
import Derived.Test.YtddkloofiknjdaaDoorG29
set_option linter.unusedVariables false
set_option linter.unusedSimpArgs false
set_option linter.unusedSectionVars false
namespace Go.Ax
open Go.Proofs Go.RowKit
set_option maxRecDepth 100000

abbrev dskB (D:Dsk):Box:= .obj [] (diskP D)
abbrev filC (b:Nat) (nm:ByteArray) (F:FileR):Box:= .cells false 0 [.op b,vs nm,vl (F.idx.map parE.f),vl (F.bits.map byteE.f),vi F.cnt,vs F.low,vs F.high]
def OPairs:RSpec:=fun args B r B'=>∃ (D:Dsk) (nm:ByteArray) (F:FileR) (i:Int) (p:Par),D.Ok∧D.down=false∧0≤i∧F.idx[i.toNat]? = some p∧ParOk p∧args= [.ptr 1 0 0,vi i]∧B= [dskB D,filC 0 nm F] ∧
 r= .tup [.agg [vl ((pgOf (contF D nm) F.idx i).1.map byteE.f),vl ((pgOf (contF D nm) F.idx i).2.1.map intE.f)],vi (pgOf (contF D nm) F.idx i).2.2]∧B'=B
noncomputable def ΓL3:Env:=envP [(iGet,gGet),(iParP,gParP),(iBadF,gBadF)]
noncomputable def ΔL3:REnv:=envR [(iGetF,liftR OGetF)]
noncomputable def ΓL4:Env:=envP [(iAllP,gAllP),(iEnts,gEnts)]
noncomputable def ΔL4:REnv:=envR [(iPairs,liftR OPairs)]

noncomputable def TPairs (D:Dsk) (nm:ByteArray) (F:FileR) (i:Int):Tree:=
.elem 19 (F.idx.map parE.f) parE F.idx i (fun e1=> .sbyte 22 (.sealslot 2 6 (rowC (e1.val.data.toList.map byteE.f)) e1.val.data.toList.length byteE e1.val.data.toList (.call 25 (gGet [vl (e1.val.data.toList.map byteE.f)]=some (.tup [vn .u64 ((getI e1.val.data.toList).1),vi ((getI e1.val.data.toList).2.1),vi ((getI e1.val.data.toList).2.2)])) (.tup [vn .u64 ((getI e1.val.data.toList).1),vi ((getI e1.val.data.toList).2.1),vi ((getI e1.val.data.toList).2.2)]) (.sp 30 (((getI e1.val.data.toList).2.2) != (0:Int)) (
.leaf ⟨[0],[(0,0,none),(1,0,none)]⟩ [] .ret (some ([(0, .tup [.agg [nilS,nilS],vi 12])],[.obj [] (diskP D), .cells false 0 ([.op 0,vs nm,vl (F.idx.map parE.f),vl (F.bits.map byteE.f),vi F.cnt,vs F.low,vs F.high])]))) (
.sp 33 (decide (((getI e1.val.data.toList).1)>(67108864:Int))) (
.leaf ⟨[0],[(0,0,none),(1,0,none)]⟩ [] .ret (some ([(0, .tup [.agg [nilS,nilS],vi 12])],[.obj [] (diskP D), .cells false 0 ([.op 0,vs nm,vl (F.idx.map parE.f),vl (F.bits.map byteE.f),vi F.cnt,vs F.low,vs F.high])]))) (
.cut 39 (e1.val.data.toList.map byteE.f) (some ((getI e1.val.data.toList).2.1)) none byteE e1.val.data.toList (.call 40 (gGet [vl ((cutL (some ((getI e1.val.data.toList).2.1)) none e1.val.data.toList).map byteE.f)]=some (.tup [vn .u64 ((getI (cutL (some ((getI e1.val.data.toList).2.1)) none e1.val.data.toList)).1),vi ((getI (cutL (some ((getI e1.val.data.toList).2.1)) none e1.val.data.toList)).2.1),vi ((getI (cutL (some ((getI e1.val.data.toList).2.1)) none e1.val.data.toList)).2.2)])) (.tup [vn .u64 ((getI (cutL (some ((getI e1.val.data.toList).2.1)) none e1.val.data.toList)).1),vi ((getI (cutL (some ((getI e1.val.data.toList).2.1)) none e1.val.data.toList)).2.1),vi ((getI (cutL (some ((getI e1.val.data.toList).2.1)) none e1.val.data.toList)).2.2)]) (.sp 45 (((getI (cutL (some ((getI e1.val.data.toList).2.1)) none e1.val.data.toList)).2.2) != (0:Int)) (
.leaf ⟨[0],[(0,0,none),(1,0,none)]⟩ [] .ret (some ([(0, .tup [.agg [nilS,nilS],vi 12])],[.obj [] (diskP D), .cells false 0 ([.op 0,vs nm,vl (F.idx.map parE.f),vl (F.bits.map byteE.f),vi F.cnt,vs F.low,vs F.high])]))) (
.int 49 (IntKind.i64.wrap (((getI e1.val.data.toList).2.1)+((getI (cutL (some ((getI e1.val.data.toList).2.1)) none e1.val.data.toList)).2.1))) (((getI e1.val.data.toList).2.1)+((getI (cutL (some ((getI e1.val.data.toList).2.1)) none e1.val.data.toList)).2.1)) (.int 51 ((e1.val.data.toList.map byteE.f).length:Int) (e1.val.data.toList.length:Int) (.sp 52 ((((getI e1.val.data.toList).2.1)+((getI (cutL (some ((getI e1.val.data.toList).2.1)) none e1.val.data.toList)).2.1)) != (e1.val.data.toList.length:Int)) (
.leaf ⟨[0],[(0,0,none),(1,0,none)]⟩ [] .ret (some ([(0, .tup [.agg [nilS,nilS],vi 12])],[.obj [] (diskP D), .cells false 0 ([.op 0,vs nm,vl (F.idx.map parE.f),vl (F.bits.map byteE.f),vi F.cnt,vs F.low,vs F.high])]))) (
.sp 56 (decide (((getI (cutL (some ((getI e1.val.data.toList).2.1)) none e1.val.data.toList)).1)>(67108864:Int))) (
.leaf ⟨[0],[(0,0,none),(1,0,none)]⟩ [] .ret (some ([(0, .tup [.agg [nilS,nilS],vi 12])],[.obj [] (diskP D), .cells false 0 ([.op 0,vs nm,vl (F.idx.map parE.f),vl (F.bits.map byteE.f),vi F.cnt,vs F.low,vs F.high])]))) (
.any (.int 69 (IntKind.i64.wrap ((getI e1.val.data.toList).1)) ((getI e1.val.data.toList).1) (.int 71 (IntKind.i64.wrap ((getI (cutL (some ((getI e1.val.data.toList).2.1)) none e1.val.data.toList)).1)) ((getI (cutL (some ((getI e1.val.data.toList).2.1)) none e1.val.data.toList)).1) (.callr (some 73) (ΔL3 40 [.op 0,vs nm, .agg [vi ((getI e1.val.data.toList).1),vi ((getI (cutL (some ((getI e1.val.data.toList).2.1)) none e1.val.data.toList)).1)]] [.obj [] (diskP D), .cells false 0 ([.op 0,vs nm,vl (F.idx.map parE.f),vl (F.bits.map byteE.f),vi F.cnt,vs F.low,vs F.high]), .cells false 0 ([nilS,nilS]), .dead] (.tup [vl (((getF (contF D nm) ((getI e1.val.data.toList).1) ((getI (cutL (some ((getI e1.val.data.toList).2.1)) none e1.val.data.toList)).1)).1).map byteE.f),vi ((getF (contF D nm) ((getI e1.val.data.toList).1) ((getI (cutL (some ((getI e1.val.data.toList).2.1)) none e1.val.data.toList)).1)).2)]) [.obj [] (diskP D), .cells false 0 ([.op 0,vs nm,vl (F.idx.map parE.f),vl (F.bits.map byteE.f),vi F.cnt,vs F.low,vs F.high]), .cells false 0 ([nilS,nilS]), .dead]) (.tup [vl (((getF (contF D nm) ((getI e1.val.data.toList).1) ((getI (cutL (some ((getI e1.val.data.toList).2.1)) none e1.val.data.toList)).1)).1).map byteE.f),vi ((getF (contF D nm) ((getI e1.val.data.toList).1) ((getI (cutL (some ((getI e1.val.data.toList).2.1)) none e1.val.data.toList)).1)).2)]) [.obj [] (diskP D), .cells false 0 ([.op 0,vs nm,vl (F.idx.map parE.f),vl (F.bits.map byteE.f),vi F.cnt,vs F.low,vs F.high]), .cells false 0 ([nilS,nilS]), .dead] (.sp 77 (((getF (contF D nm) ((getI e1.val.data.toList).1) ((getI (cutL (some ((getI e1.val.data.toList).2.1)) none e1.val.data.toList)).1)).2) != (0:Int)) (
.leaf ⟨[0],[(0,0,none),(1,0,none)]⟩ [] .ret (some ([(0, .tup [.agg [nilS,nilS],vi ((getF (contF D nm) ((getI e1.val.data.toList).1) ((getI (cutL (some ((getI e1.val.data.toList).2.1)) none e1.val.data.toList)).1)).2)])],[.obj [] (diskP D), .cells false 0 ([.op 0,vs nm,vl (F.idx.map parE.f),vl (F.bits.map byteE.f),vi F.cnt,vs F.low,vs F.high])]))) (
.call 82 (gParP [vl (((getF (contF D nm) ((getI e1.val.data.toList).1) ((getI (cutL (some ((getI e1.val.data.toList).2.1)) none e1.val.data.toList)).1)).1).map byteE.f)]=some (.tup [.agg [vl ((pgB ((getF (contF D nm) ((getI e1.val.data.toList).1) ((getI (cutL (some ((getI e1.val.data.toList).2.1)) none e1.val.data.toList)).1)).1)).map byteE.f),vl ((pgW ((getF (contF D nm) ((getI e1.val.data.toList).1) ((getI (cutL (some ((getI e1.val.data.toList).2.1)) none e1.val.data.toList)).1)).1)).map intE.f)],vi (pgE ((getF (contF D nm) ((getI e1.val.data.toList).1) ((getI (cutL (some ((getI e1.val.data.toList).2.1)) none e1.val.data.toList)).1)).1))])) (.tup [.agg [vl ((pgB ((getF (contF D nm) ((getI e1.val.data.toList).1) ((getI (cutL (some ((getI e1.val.data.toList).2.1)) none e1.val.data.toList)).1)).1)).map byteE.f),vl ((pgW ((getF (contF D nm) ((getI e1.val.data.toList).1) ((getI (cutL (some ((getI e1.val.data.toList).2.1)) none e1.val.data.toList)).1)).1)).map intE.f)],vi (pgE ((getF (contF D nm) ((getI e1.val.data.toList).1) ((getI (cutL (some ((getI e1.val.data.toList).2.1)) none e1.val.data.toList)).1)).1))]) (.call 87 (gBadF [vi (pgE ((getF (contF D nm) ((getI e1.val.data.toList).1) ((getI (cutL (some ((getI e1.val.data.toList).2.1)) none e1.val.data.toList)).1)).1))]=some (vi (badI (pgE ((getF (contF D nm) ((getI e1.val.data.toList).1) ((getI (cutL (some ((getI e1.val.data.toList).2.1)) none e1.val.data.toList)).1)).1))))) (vi (badI (pgE ((getF (contF D nm) ((getI e1.val.data.toList).1) ((getI (cutL (some ((getI e1.val.data.toList).2.1)) none e1.val.data.toList)).1)).1)))) (.leaf ⟨[0],[(0,0,none),(1,0,none)]⟩ [] .ret (some ([(0, .tup [.agg [vl ((pgB ((getF (contF D nm) ((getI e1.val.data.toList).1) ((getI (cutL (some ((getI e1.val.data.toList).2.1)) none e1.val.data.toList)).1)).1)).map byteE.f),vl ((pgW ((getF (contF D nm) ((getI e1.val.data.toList).1) ((getI (cutL (some ((getI e1.val.data.toList).2.1)) none e1.val.data.toList)).1)).1)).map intE.f)],vi (badI (pgE ((getF (contF D nm) ((getI e1.val.data.toList).1) ((getI (cutL (some ((getI e1.val.data.toList).2.1)) none e1.val.data.toList)).1)).1)))])],[.obj [] (diskP D), .cells false 0 ([.op 0,vs nm,vl (F.idx.map parE.f),vl (F.bits.map byteE.f),vi F.cnt,vs F.low,vs F.high])]))))))))))))))))))))))

theorem TPairs_chk (D:Dsk) (nm:ByteArray) (F:FileR) (i:Int):fnC DP ΓL3 ΔL3 Tryd.f73 [.ptr 1 0 0,vi i] [.obj [] (diskP D), .cells false 0 ([.op 0,vs nm,vl (F.idx.map parE.f),vl (F.bits.map byteE.f),vi F.cnt,vs F.low,vs F.high])] (TPairs D nm F i)=TPairs D nm F i:=by kernel_rfl

noncomputable def TFPage (D:Dsk) (nm:ByteArray) (F:FileR) (i:Int):Tree:=
.sp 13 (decide (i<(0:Int))) (
.leaf ⟨[0],[(0,0,none),(1,0,none)]⟩ [] .ret (some ([(0, .tup [nilS,vi 1])],[.obj [] (diskP D), .cells false 0 ([.op 0,vs nm,vl (F.idx.map parE.f),vl (F.bits.map byteE.f),vi F.cnt,vs F.low,vs F.high])]))) (
.int 21 ((F.idx.map parE.f).length:Int) (F.idx.length:Int) (.sp 22 (decide (i≥(F.idx.length:Int))) (
.leaf ⟨[0],[(0,0,none),(1,0,none)]⟩ [] .ret (some ([(0, .tup [nilS,vi 1])],[.obj [] (diskP D), .cells false 0 ([.op 0,vs nm,vl (F.idx.map parE.f),vl (F.bits.map byteE.f),vi F.cnt,vs F.low,vs F.high])]))) (
.callr (some 27) (ΔL4 73 [.ptr 1 0 0,vi i] [.obj [] (diskP D), .cells false 0 ([.op 0,vs nm,vl (F.idx.map parE.f),vl (F.bits.map byteE.f),vi F.cnt,vs F.low,vs F.high])] (.tup [.agg [vl (((pgOf (contF D nm) F.idx i).1).map byteE.f),vl (((pgOf (contF D nm) F.idx i).2.1).map intE.f)],vi ((pgOf (contF D nm) F.idx i).2.2)]) [.obj [] (diskP D), .cells false 0 ([.op 0,vs nm,vl (F.idx.map parE.f),vl (F.bits.map byteE.f),vi F.cnt,vs F.low,vs F.high])]) (.tup [.agg [vl (((pgOf (contF D nm) F.idx i).1).map byteE.f),vl (((pgOf (contF D nm) F.idx i).2.1).map intE.f)],vi ((pgOf (contF D nm) F.idx i).2.2)]) [.obj [] (diskP D), .cells false 0 ([.op 0,vs nm,vl (F.idx.map parE.f),vl (F.bits.map byteE.f),vi F.cnt,vs F.low,vs F.high])] (.sp 31 (((pgOf (contF D nm) F.idx i).2.2) != (0:Int)) (
.leaf ⟨[0],[(0,0,none),(1,0,none)]⟩ [] .ret (some ([(0, .tup [nilS,vi ((pgOf (contF D nm) F.idx i).2.2)])],[.obj [] (diskP D), .cells false 0 ([.op 0,vs nm,vl (F.idx.map parE.f),vl (F.bits.map byteE.f),vi F.cnt,vs F.low,vs F.high])]))) (
.call 35 (gAllP [.agg [vl (((pgOf (contF D nm) F.idx i).1).map byteE.f),vl (((pgOf (contF D nm) F.idx i).2.1).map intE.f)]]=some (vl (((readI ((pgOf (contF D nm) F.idx i).1)).1).map parE.f))) (vl (((readI ((pgOf (contF D nm) F.idx i).1)).1).map parE.f)) (.call 36 (gEnts [vl (((readI ((pgOf (contF D nm) F.idx i).1)).1).map parE.f)]=some (.tup [vl (((entsX ((readI ((pgOf (contF D nm) F.idx i).1)).1)).1).map entE.f),vi ((entsX ((readI ((pgOf (contF D nm) F.idx i).1)).1)).2)])) (.tup [vl (((entsX ((readI ((pgOf (contF D nm) F.idx i).1)).1)).1).map entE.f),vi ((entsX ((readI ((pgOf (contF D nm) F.idx i).1)).1)).2)]) (.sp 40 (((entsX ((readI ((pgOf (contF D nm) F.idx i).1)).1)).2) == (0:Int)) (
.int 43 ((((entsX ((readI ((pgOf (contF D nm) F.idx i).1)).1)).1).map entE.f).length:Int) (((entsX ((readI ((pgOf (contF D nm) F.idx i).1)).1)).1).length:Int) (.sp 44 ((((entsX ((readI ((pgOf (contF D nm) F.idx i).1)).1)).1).length:Int) == (0:Int)) (
.leaf ⟨[0],[(0,0,none),(1,0,none)]⟩ [] .ret (some ([(0, .tup [nilS,vi 12])],[.obj [] (diskP D), .cells false 0 ([.op 0,vs nm,vl (F.idx.map parE.f),vl (F.bits.map byteE.f),vi F.cnt,vs F.low,vs F.high])]))) (
.leaf ⟨[0],[(0,0,none),(1,0,none)]⟩ [] .ret (some ([(0, .tup [vl (((entsX ((readI ((pgOf (contF D nm) F.idx i).1)).1)).1).map entE.f),vi ((entsX ((readI ((pgOf (contF D nm) F.idx i).1)).1)).2)])],[.obj [] (diskP D), .cells false 0 ([.op 0,vs nm,vl (F.idx.map parE.f),vl (F.bits.map byteE.f),vi F.cnt,vs F.low,vs F.high])]))))) (
.leaf ⟨[0],[(0,0,none),(1,0,none)]⟩ [] .ret (some ([(0, .tup [vl (((entsX ((readI ((pgOf (contF D nm) F.idx i).1)).1)).1).map entE.f),vi ((entsX ((readI ((pgOf (contF D nm) F.idx i).1)).1)).2)])],[.obj [] (diskP D), .cells false 0 ([.op 0,vs nm,vl (F.idx.map parE.f),vl (F.bits.map byteE.f),vi F.cnt,vs F.low,vs F.high])]))))))))))

theorem TFPage_chk (D:Dsk) (nm:ByteArray) (F:FileR) (i:Int):fnC DP ΓL4 ΔL4 Tryd.f45 [.ptr 1 0 0,vi i] [.obj [] (diskP D), .cells false 0 ([.op 0,vs nm,vl (F.idx.map parE.f),vl (F.bits.map byteE.f),vi F.cnt,vs F.low,vs F.high])] (TFPage D nm F i)=TFPage D nm F i:=by kernel_rfl

end Go.Ax

namespace Go.Ax
open Go.Proofs Go.RowKit
set_option maxRecDepth 100000

structure FOk (F:FileR):Prop where
 idx:F.idx.length≤100000000
 par:∀ p∈F.idx,ParOk p
 bits:F.bits.length≤10000000
section
variable {R : RSpec} {al : List AV} {B : List Box} {b l : Nat} {D : Dsk} {nm : ByteArray} {F : FileR} {y : AV}
theorem low_rv {y:AV} (hy:y.low 0=true) (f d:Nat→Nat):y.rv f d=y:=rv_low (n:=0) (fun j hj=>by omega) (fun j hj=>by omega) hy
theorem lift_see (hR:R (.op 0::al) [dskB D] y [dskB D]) (hb:B[b]? = some (dskB D)) (h1:∀ f d,AV.rv.rvL f d al=al) (h2:∀ n,AV.low.allLow n al=true) (hy:y.low 0=true):liftR R (.op b::al) B y B:=by
 have hlt:b<B.length:=(List.getElem?_eq_some_iff.1 hb).1
 refine ⟨_,_,_,_,hR,⟨[b],[0],[dskB D],[dskB D],[],?_,?_,?_,?_,⟨.objs rfl rfl,trivial⟩,⟨.objs rfl rfl,trivial⟩,?_,(low_rv hy _ _).symm,low_mono hy⟩⟩
 ·simp[noDup,Nat.blt_eq,hlt]
 ·simp[hb]
 ·rw[AV.rv.rvL,h1]; rfl
 ·rw[AV.low.allLow,h2]; rfl
 ·rw[outB,outB,set_same hb,List.append_nil]
theorem lift_file (hR:R (.ptr 1 0 0::al) [dskB D,filC 0 nm F] y [dskB D,filC 0 nm F]) (hb:B[b]? = some (dskB D)) (hl:B[l]? = some (filC b nm F)) (h1:∀ f d,AV.rv.rvL f d al=al) (h2:∀ n,AV.low.allLow n al=true) (hy:y.low 0=true):liftR R (.ptr l 0 0::al) B y B:=by
 have hbl:b<B.length:=(List.getElem?_eq_some_iff.1 hb).1
 have hll:l<B.length:=(List.getElem?_eq_some_iff.1 hl).1
 have hne:b≠l:=fun e=>by rw[e,hl] at hb; cases hb
 refine ⟨_,_,_,_,hR,⟨[b,l],[0,0],[dskB D,filC b nm F],[dskB D,filC b nm F],[],?_,?_,?_,?_,⟨.objs rfl rfl, .cells ?_ ?_ rfl,trivial⟩,⟨.objs rfl rfl, .cells ?_ ?_ rfl,trivial⟩,?_,(low_rv hy _ _).symm,low_mono hy⟩⟩
 ·have h1:Nat.beq l b=false:=by
   cases h:Nat.beq l b with
   | false=>rfl
   | true=>exact absurd (Nat.eq_of_beq_eq_true h).symm hne
  have h2:Nat.beq b l=false:=by
   cases h:Nat.beq b l with
   | false=>rfl
   | true=>exact absurd (Nat.eq_of_beq_eq_true h) hne
  simp[noDup,Nat.blt_eq,hbl,hll,h1,h2]
 ·simp[hb,hl]
 ·rw[AV.rv.rvL,h1]; simp[AV.rv,fNew,dNew]
 ·rw[AV.low.allLow,h2]; rfl
 ·simp[dNew]
 ·simp[AV.rv.rvL,AV.rv,fNew]
 ·simp[dNew]
 ·simp[AV.rv.rvL,AV.rv,fNew]
 ·rw[outB,outB,outB,set_same hb,set_same hl,List.append_nil]
theorem oGetF {a n:Int} (ok:D.Ok) (hd:D.down=false) (hb:B[b]? = some (dskB D)):liftR OGetF [.op b,vs nm, .agg [vi a,vi n]] B (.tup [vl ((getF (contF D nm) a n).1.map byteE.f),vi (getF (contF D nm) a n).2]) B:=
 lift_see (R:=OGetF) ⟨D,nm,a,n,ok,hd,rfl,rfl,rfl,rfl⟩ hb (fun _ _=>rfl) (fun _=>rfl) rfl
end
theorem ΓL3_ok:∀ f,SoundF DP f (ΓL3 f):=envP_cons SGet (envP_cons SParP (envP_cons bad_sound envP_nil))
theorem ΔL3_ok:∀ f,SoundR DP f (ΔL3 f):=envR_cons (lift_sound SGetF) envR_nil
theorem SPairs:SoundR DP iPairs OPairs:=sound_genW mixedD ΓL3_ok ΔL3_ok hfPairs hePairs hbPairs (by
 rintro args B r B' ⟨D,nm,F,i,p,ok,hd,h0,hp,hpo,rfl,rfl,rfl,rfl⟩
 refine ⟨by rw[hnPairs]; rfl,_,TPairs_chk D nm F i,?_⟩
 have hpg:pgOf (contF D nm) F.idx i=match atI p.vl with
  | none=>([],[],12)
  | some (a,n)=>if (getF (contF D nm) a n).2≠0 then ([],[],12) else (pgB (getF (contF D nm) a n).1,pgW (getF (contF D nm) a n).1,badI (pgE (getF (contF D nm) a n).1)):=by
  unfold pgOf
  rw[hp]
  simp only
  cases atI p.vl <;> rfl
 have hat:atI p.vl=if (getI p.vl).2.2≠0∨(getI p.vl).1>67108864 then none else
  if (getI (p.vl.drop (getI p.vl).2.1.toNat)).2.2≠0∨(getI p.vl).2.1+(getI (p.vl.drop (getI p.vl).2.1.toNat)).2.1≠p.vl.length∨(getI (p.vl.drop (getI p.vl).2.1.toNat)).1>67108864 then none else
  some ((getI p.vl).1,(getI (p.vl.drop (getI p.vl).2.1.toNat)).1):=rfl
 have hvl:p.vl.length=p.val.size:=rfl
 have hv:=hpo.2
 have g1:=gGet_eq (b:=p.vl) (by omega)
 have g2:=gGet_eq (b:=p.vl.drop (getI p.vl).2.1.toNat) (by rw[List.length_drop]; omega)
 have f1:=getI_b p.vl
 have f2:=getI_b (p.vl.drop (getI p.vl).2.1.toNat)
 rw[List.length_drop] at f2
 have hc:=contF_len ok nm
 have bad:atI p.vl=none→Lax (.tup [.agg [nilS,nilS],vi 12]) (.tup [.agg [vl ((pgOf (contF D nm) F.idx i).1.map byteE.f),vl ((pgOf (contF D nm) F.idx i).2.1.map intE.f)],vi (pgOf (contF D nm) F.idx i).2.2]):=fun h=>by
  rw[hpg,h]
  exact lax_page
 unfold TPairs
 refine wp_elem p h0 hp (wp_sbyte ⟨rfl,rfl,?_⟩)
 rw[show p.val.data.toList=p.vl from rfl]
 have hpv:p.vl.length≤100000000:=by omega
 clear hvl
 generalize p.vl=v at *
 refine wp_call g1 (wp_sp (fun h=>?_) (fun h=>wp_sp (fun g=>?_) (fun g=>wp_cut ?_ (wp_call g2 (wp_sp (fun k=>?_) (fun k=>wp_i64 ?_ (wp_len (wp_sp (fun m=>?_) (fun m=>wp_sp (fun q=>?_) (fun q=>?_))))))))))
 ·rw[if_pos (.inl (by simpa using h))] at hat
  exact wp_leaf rfl ⟨bad hat,rfl⟩
 ·rw[if_pos (.inr (of_decide_eq_true g))] at hat
  exact wp_leaf rfl ⟨bad hat,rfl⟩
 ·simp only[cutOk]; exact ⟨f1.2.1,f1.2.2⟩
 ·have h:=(bne_eq_false_iff_eq).1 h
  have g:=of_decide_eq_false g
  rw[if_neg (by rintro (e | e); exact e h; exact g e),if_pos (.inl (by simpa [cut_drop] using k))] at hat
  exact wp_leaf rfl ⟨bad hat,rfl⟩
 ·simp only[cut_drop]; omega
 ·have h:=(bne_eq_false_iff_eq).1 h
  have g:=of_decide_eq_false g
  rw[if_neg (by rintro (e | e); exact e h; exact g e),if_pos (.inr (.inl (by simpa [cut_drop] using m)))] at hat
  exact wp_leaf rfl ⟨bad hat,rfl⟩
 ·have h:=(bne_eq_false_iff_eq).1 h
  have g:=of_decide_eq_false g
  rw[if_neg (by rintro (e | e); exact e h; exact g e),if_pos (.inr (.inr (of_decide_eq_true q)))] at hat
  exact wp_leaf rfl ⟨bad hat,rfl⟩
 ·have h:=(bne_eq_false_iff_eq).1 h
  have g:=of_decide_eq_false g
  have k:=(bne_eq_false_iff_eq).1 k
  have m:=(bne_eq_false_iff_eq).1 m
  have q:=of_decide_eq_false q
  simp only[cut_drop] at k m q ⊢
  rw[if_neg (by rintro (e | e); exact e h; exact g e),if_neg (by
   rintro (e | e | e)
   ·exact e k
   ·exact e m
   ·exact q e)] at hat
  rw[hat] at hpg
  simp only at hpg
  have hl:=getF_len (contF D nm) (getI v).1 (getI (v.drop (getI v).2.1.toNat)).1
  refine wp_i64 (d:=0) (by omega) ?_
  refine wp_i64 (by omega) ?_
  refine wp_callr (oGetF ok hd rfl) ?_
  refine wp_sp (fun s=>?_) (fun s=>?_)
  ·rw[if_pos (by simpa using s)] at hpg
   rw[hpg]
   rcases getF_e (contF D nm) (getI v).1 (getI (v.drop (getI v).2.1.toNat)).1 with e | e
   ·exact absurd e (by simpa using s)
   ·rw[e]
    exact wp_leaf rfl ⟨lax_page,rfl⟩
  ·rw[if_neg (by simpa using s)] at hpg
   rw[hpg]
   exact wp_call (gParP_eq (by omega)) (wp_call (gBadF_eq _) (wp_leaf rfl ⟨.refl _,rfl⟩)))
theorem oPairs {B:List Box} {b l:Nat} {D:Dsk} {nm:ByteArray} {F:FileR} {i:Int} {p:Par} (ok:D.Ok) (hd:D.down=false) (h0:0≤i) (hp:F.idx[i.toNat]? = some p) (hpo:ParOk p) (hb:B[b]? = some (dskB D)) (hl:B[l]? = some (filC b nm F)):
  liftR OPairs [.ptr l 0 0,vi i] B (.tup [.agg [vl ((pgOf (contF D nm) F.idx i).1.map byteE.f),vl ((pgOf (contF D nm) F.idx i).2.1.map intE.f)],vi (pgOf (contF D nm) F.idx i).2.2]) B:=
 lift_file (R:=OPairs) ⟨D,nm,F,i,p,ok,hd,h0,hp,hpo,rfl,rfl,rfl,rfl⟩ hb hl (fun _ _=>rfl) (fun _=>rfl) rfl
theorem ΓL4_ok:∀ f,SoundF DP f (ΓL4 f):=envP_cons SAllP (envP_cons SEnts envP_nil)
theorem ΔL4_ok:∀ f,SoundR DP f (ΔL4 f):=envR_cons (lift_sound SPairs) envR_nil
theorem readI_ok {b:List UInt8} {L:List Par} (h:readI b=(L,0)):(∀ p∈L,p.name.size≤b.length)∧L.length≤b.length:=by
 unfold readI at h
 cases hA:readA b.length b.length b [] with
 | none=>rw[hA] at h; cases h
 | some M=>
  rw[hA] at h
  cases h
  obtain ⟨h1,h2⟩:=read_ok _ _ _ _ _ hA
  exact ⟨fun p hp=>by have:=(h1 p hp).1; simpa [Par.nl] using this,h2⟩
def OFPage:RSpec:=fun args B r B'=>∃ (D:Dsk) (nm:ByteArray) (F:FileR) (i:Int),D.Ok∧D.down=false∧FOk F∧args= [.ptr 1 0 0,vi i]∧B= [dskB D,filC 0 nm F] ∧
 r= .tup [vl ((pageI (contF D nm) F.idx i).1.map entE.f),vi (pageI (contF D nm) F.idx i).2]∧B'=B
theorem SFPage:SoundR DP iFPage OFPage:=sound_genW mixedD ΓL4_ok ΔL4_ok hfFPage heFPage hbFPage (by
 rintro args B r B' ⟨D,nm,F,i,ok,hd,hF,rfl,rfl,rfl,rfl⟩
 refine ⟨by rw[hnFPage]; rfl,_,TFPage_chk D nm F i,?_⟩
 have hc:=contF_len ok nm
 have hfi:=hF.idx
 unfold TFPage
 refine wp_sp (fun h=>?_) (fun h=>wp_len (wp_sp (fun g=>?_) (fun g=>?_)))
 ·have:pageI (contF D nm) F.idx i=([],1):=by unfold pageI; rw[if_pos (of_decide_eq_true h)]
  rw[this]
  exact wp_leaf rfl ⟨lax_nils,rfl⟩
 ·have h:=of_decide_eq_false h
  have g:=of_decide_eq_true g
  have:pageI (contF D nm) F.idx i=([],1):=by unfold pageI; rw[if_neg h,List.getElem?_eq_none (by omega)]
  rw[this]
  exact wp_leaf rfl ⟨lax_nils,rfl⟩
 ·have h:=of_decide_eq_false h
  have g:=of_decide_eq_false g
  obtain ⟨p,hp⟩:∃ p,F.idx[i.toNat]? = some p:=⟨_,List.getElem?_eq_getElem (by omega)⟩
  obtain ⟨q1,q2,q3⟩:=pgOf_pairs (c:=contF D nm) hp
  rw[page_of h hp]
  refine wp_callr (oPairs ok hd (by omega) hp (hF.par p (List.mem_of_getElem? hp)) rfl rfl) ?_
  rw[q1]
  refine wp_sp (fun k=>?_) (fun k=>?_)
  ·have k:(pairsI (contF D nm) p).2≠0:=by simpa using k
   rw[if_pos k]
   have:(pairsI (contF D nm) p).2=12:=(pairs_e (contF D nm) p).resolve_left k
   rw[this]
   exact wp_leaf rfl ⟨lax_nils,rfl⟩
  ·have k:(pairsI (contF D nm) p).2=0:=by simpa using k
   have hr:=q2 k
   obtain ⟨o1,o2⟩:=readI_ok hr
   rw[if_neg (fun e=>e k)]
   refine wp_call (gAllP_eq (by omega)) ?_
   rw[hr]
   refine wp_call (gEnts_eq (fun p hp=>by have:=o1 p hp; omega) (by simp only; omega)) (wp_sp (fun m=>wp_len (wp_sp (fun s=>?_) (fun s=>?_))) (fun m=>?_))
   ·have m:=beq_iff_eq.1 m
    have s':((entsX (pairsI (contF D nm) p).1).1.length:Int)=0:=beq_iff_eq.1 s
    rw[if_neg (fun e=>e m),if_pos (List.eq_nil_of_length_eq_zero (by omega))]
    exact wp_leaf rfl ⟨lax_nils,rfl⟩
   ·have m:=beq_iff_eq.1 m
    have s:=beq_eq_false_iff_ne.1 s
    rw[if_neg (fun e=>e m),if_neg (fun e=>by rw[e] at s; exact s rfl)]
    refine wp_leaf rfl ⟨?_,rfl⟩
    simp only[m]
    exact .refl _
   ·have m:=beq_eq_false_iff_ne.1 m
    rw[if_pos m]
    have:entsX (pairsI (contF D nm) p).1=([],12):=by
     unfold entsX at m ⊢
     cases he:entsI (pairsI (contF D nm) p).1 with
     | none=>rfl
     | some E=>rw[he] at m; exact absurd rfl m
    rw[this]
    exact wp_leaf rfl ⟨.refl _,rfl⟩)
theorem oFPage {B:List Box} {b l:Nat} {D:Dsk} {nm:ByteArray} {F:FileR} {i:Int} (ok:D.Ok) (hd:D.down=false) (hF:FOk F) (hb:B[b]? = some (dskB D)) (hl:B[l]? = some (filC b nm F)):
  liftR OFPage [.ptr l 0 0,vi i] B (.tup [vl ((pageI (contF D nm) F.idx i).1.map entE.f),vi (pageI (contF D nm) F.idx i).2]) B:=
 lift_file (R:=OFPage) ⟨D,nm,F,i,ok,hd,hF,rfl,rfl,rfl,rfl⟩ hb hl (fun _ _=>rfl) (fun _=>rfl) rfl
end Go.Ax

namespace Go.Ax
open Go.Proofs Go.RowKit
set_option maxRecDepth 100000

def geI (idx:List Par) (key:List UInt8) (m:Nat):Bool:= !decide (bl (idx.getD m ⟨⟨#[]⟩,⟨#[]⟩⟩).nl key)
def searchK (idx:List Par) (key:ByteArray):Int:=((searchI (geI idx key.data.toList) idx.length 0 idx.length:Nat):Int)
def OFind1:RSpec:=fun args B r B'=>∃ (D:Dsk) (nm:ByteArray) (F:FileR) (key:ByteArray) (i:Int),F.idx.length≤100000000∧(0≤i∧i<F.idx.length)∧args= [vi i, .ptr 2 0 0, .ptr 3 0 0]∧B= [dskB D,filC 0 nm F, .cells false 0 [.ptr 1 0 0], .cells false 0 [vs key]]∧r=vb (geI F.idx key.data.toList i.toNat)∧B'=B
def OSearch:RSpec:=fun args B r B'=>∃ (D:Dsk) (nm:ByteArray) (F:FileR) (key:ByteArray),F.idx.length≤100000000∧args= [vi (F.idx.length:Int), .fn 57 [.ptr 2 0 0, .ptr 3 0 0]]∧B= [dskB D,filC 0 nm F, .cells false 0 [.ptr 1 0 0], .cells false 0 [vs key]]∧r=vi (searchK F.idx key)∧B'=B
noncomputable def ΔM1:REnv:=envR [(57,liftR OFind1)]
noncomputable def ΓM2:Env:=envP [(iInner,gInner)]
noncomputable def ΔM2:REnv:=envR [(56,liftR OSearch)]
abbrev iFind1:Nat:=57
noncomputable abbrev nFind1:Func:=Tryd.f57
theorem hfFind1:DP.funcs[iFind1]? = some nFind1:=by kernel_rfl
theorem heFind1:enters DP iFind1=true:=by kernel_rfl
theorem hbFind1:nFind1.body.isSome=true:=by kernel_rfl
theorem hnFind1:nFind1.ntmps=15:=by kernel_rfl
abbrev iSearch:Nat:=56
noncomputable abbrev nSearch:Func:=Tryd.f56
theorem hfSearch:DP.funcs[iSearch]? = some nSearch:=by kernel_rfl
theorem heSearch:enters DP iSearch=true:=by kernel_rfl
theorem hbSearch:nSearch.body.isSome=true:=by kernel_rfl
theorem hnSearch:nSearch.ntmps=26:=by kernel_rfl
abbrev iFFind:Nat:=30
noncomputable abbrev nFFind:Func:=Tryd.f30
theorem hfFFind:DP.funcs[iFFind]? = some nFFind:=by kernel_rfl
theorem heFFind:enters DP iFFind=true:=by kernel_rfl
theorem hbFFind:nFFind.body.isSome=true:=by kernel_rfl
theorem hnFFind:nFFind.ntmps=18:=by kernel_rfl
noncomputable def TFind1 (i:Int) (D:Dsk) (nm:ByteArray) (F:FileR) (key:ByteArray):Tree:=
.elem 10 (F.idx.map parE.f) parE F.idx i (fun e1=> .leaf ⟨[0],[(0,0,none),(1,0,none),(2,0,none),(3,0,none)]⟩ [] .ret (some ([(0,vb (!(Op.bytesLess e1.name.toList key.toList)))],[.obj [] (diskP D), .cells false 0 ([.op 0,vs nm,vl (F.idx.map parE.f),vl (F.bits.map byteE.f),vi F.cnt,vs F.low,vs F.high]), .cells false 0 ([.ptr 1 0 0]), .cells false 0 ([vs key])])))

theorem TFind1_chk (i:Int) (D:Dsk) (nm:ByteArray) (F:FileR) (key:ByteArray):fnC DP Γ0 Δ0 Tryd.f57 [vi i, .ptr 2 0 0, .ptr 3 0 0] [.obj [] (diskP D), .cells false 0 ([.op 0,vs nm,vl (F.idx.map parE.f),vl (F.bits.map byteE.f),vi F.cnt,vs F.low,vs F.high]), .cells false 0 ([.ptr 1 0 0]), .cells false 0 ([vs key])] (TFind1 i D nm F key)=TFind1 i D nm F key:=by kernel_rfl

noncomputable def TSearch_l1_e (D:Dsk) (nm:ByteArray) (F:FileR) (key:ByteArray) (s1:Int×Int):St:=([(1, .fn 57 [.ptr 2 0 0, .ptr 3 0 0]),(5,vi s1.1),(6,vi s1.2)],[.obj [] (diskP D), .cells false 0 ([.op 0,vs nm,vl (F.idx.map parE.f),vl (F.bits.map byteE.f),vi F.cnt,vs F.low,vs F.high]), .cells false 0 ([.ptr 1 0 0]), .cells false 0 ([vs key])])
noncomputable def TSearch_l1_x (D:Dsk) (nm:ByteArray) (F:FileR) (key:ByteArray) (x1:Int):AE×St:=((.exit 0),([(5,vi x1)],[.obj [] (diskP D), .cells false 0 ([.op 0,vs nm,vl (F.idx.map parE.f),vl (F.bits.map byteE.f),vi F.cnt,vs F.low,vs F.high]), .cells false 0 ([.ptr 1 0 0]), .cells false 0 ([vs key])]))
noncomputable def TSearch_l1_b (D:Dsk) (nm:ByteArray) (F:FileR) (key:ByteArray) (s1:Int×Int):Tree:=
.sp 11 (decide (s1.1<s1.2)) (
.int 14 (IntKind.i64.wrap (s1.1+s1.2)) (s1.1+s1.2) (.int 15 (IntKind.u64.wrap (s1.1+s1.2)) (s1.1+s1.2) (.int 16 (Int.fdiv (s1.1+s1.2) (2 ^ 1)) ((s1.1+s1.2) / 2) (.int 17 (IntKind.i64.wrap ((s1.1+s1.2) / 2)) ((s1.1+s1.2) / 2) (.callr (some 20) (ΔM1 57 [vi ((s1.1+s1.2) / 2), .ptr 2 0 0, .ptr 3 0 0] [.obj [] (diskP D), .cells false 0 ([.op 0,vs nm,vl (F.idx.map parE.f),vl (F.bits.map byteE.f),vi F.cnt,vs F.low,vs F.high]), .cells false 0 ([.ptr 1 0 0]), .cells false 0 ([vs key])] (vb (geI F.idx key.data.toList (Int.toNat ((s1.1+s1.2) / 2)))) [.obj [] (diskP D), .cells false 0 ([.op 0,vs nm,vl (F.idx.map parE.f),vl (F.bits.map byteE.f),vi F.cnt,vs F.low,vs F.high]), .cells false 0 ([.ptr 1 0 0]), .cells false 0 ([vs key])]) (vb (geI F.idx key.data.toList (Int.toNat ((s1.1+s1.2) / 2)))) [.obj [] (diskP D), .cells false 0 ([.op 0,vs nm,vl (F.idx.map parE.f),vl (F.bits.map byteE.f),vi F.cnt,vs F.low,vs F.high]), .cells false 0 ([.ptr 1 0 0]), .cells false 0 ([vs key])] (.sp 20 (geI F.idx key.data.toList (Int.toNat ((s1.1+s1.2) / 2))) (
.leaf ⟨[1,5,6],[(0,0,none),(1,0,none),(2,0,none),(3,0,none)]⟩ [] .normal (some (TSearch_l1_e D nm F key (s1.1,(s1.1+s1.2) / 2)))) (
.int 23 (IntKind.i64.wrap (((s1.1+s1.2) / 2)+1)) (((s1.1+s1.2) / 2)+1) (.leaf ⟨[1,5,6],[(0,0,none),(1,0,none),(2,0,none),(3,0,none)]⟩ [] .normal (some (TSearch_l1_e D nm F key (((s1.1+s1.2) / 2)+1,s1.2))))))))))) (
.leaf ⟨[5],[(0,0,none),(1,0,none),(2,0,none),(3,0,none)]⟩ [] (.exit 0) (some (TSearch_l1_x D nm F key s1.1).2))
noncomputable def TSearch (n:Int) (D:Dsk) (nm:ByteArray) (F:FileR) (key:ByteArray):Tree:=
.loop ⟨[1,5,6],[(0,0,none),(1,0,none),(2,0,none),(3,0,none)]⟩ [] (some (TSearch_l1_e D nm F key (0,n))) (TSearch_l1_e D nm F key) (TSearch_l1_x D nm F key) noX (0,n) (TSearch_l1_b D nm F key) (fun (x1:Int)=> .leaf ⟨[0],[(0,0,none),(1,0,none),(2,0,none),(3,0,none)]⟩ [] .ret (some ([(0,vi x1)],[.obj [] (diskP D), .cells false 0 ([.op 0,vs nm,vl (F.idx.map parE.f),vl (F.bits.map byteE.f),vi F.cnt,vs F.low,vs F.high]), .cells false 0 ([.ptr 1 0 0]), .cells false 0 ([vs key])]))) (fun _=> .stuck)

theorem TSearch_chk (n:Int) (D:Dsk) (nm:ByteArray) (F:FileR) (key:ByteArray):fnC DP Γ0 ΔM1 Tryd.f56 [vi n, .fn 57 [.ptr 2 0 0, .ptr 3 0 0]] [.obj [] (diskP D), .cells false 0 ([.op 0,vs nm,vl (F.idx.map parE.f),vl (F.bits.map byteE.f),vi F.cnt,vs F.low,vs F.high]), .cells false 0 ([.ptr 1 0 0]), .cells false 0 ([vs key])] (TSearch n D nm F key)=TSearch n D nm F key:=by kernel_rfl

noncomputable def TFFind (D:Dsk) (nm:ByteArray) (F:FileR) (y:Ent):Tree:=
.call 10 (gInner [.agg [vs y.key,vn .u64 y.seq,vb false,vs y.val]]=some (vs (⟨(innB (⟨y.key,y.seq,false,y.val⟩:Ent)).toArray⟩:ByteArray))) (vs (⟨(innB (⟨y.key,y.seq,false,y.val⟩:Ent)).toArray⟩:ByteArray)) (.int 15 ((F.idx.map parE.f).length:Int) (F.idx.length:Int) (.callr (some 17) (ΔM2 56 [vi (F.idx.length:Int), .fn 57 [.ptr 2 0 0, .ptr 4 0 0]] [.obj [] (diskP D), .cells false 0 ([.op 0,vs nm,vl (F.idx.map parE.f),vl (F.bits.map byteE.f),vi F.cnt,vs F.low,vs F.high]), .cells false 0 ([.ptr 1 0 0]), .cells false 0 ([vs y.key,vn .u64 y.seq,vb false,vs y.val]), .cells false 0 ([vs (⟨(innB (⟨y.key,y.seq,false,y.val⟩:Ent)).toArray⟩:ByteArray)])] (vi (searchK F.idx (⟨(innB (⟨y.key,y.seq,false,y.val⟩:Ent)).toArray⟩:ByteArray))) [.obj [] (diskP D), .cells false 0 ([.op 0,vs nm,vl (F.idx.map parE.f),vl (F.bits.map byteE.f),vi F.cnt,vs F.low,vs F.high]), .cells false 0 ([.ptr 1 0 0]), .cells false 0 ([vs y.key,vn .u64 y.seq,vb false,vs y.val]), .cells false 0 ([vs (⟨(innB (⟨y.key,y.seq,false,y.val⟩:Ent)).toArray⟩:ByteArray)])]) (vi (searchK F.idx (⟨(innB (⟨y.key,y.seq,false,y.val⟩:Ent)).toArray⟩:ByteArray))) [.obj [] (diskP D), .cells false 0 ([.op 0,vs nm,vl (F.idx.map parE.f),vl (F.bits.map byteE.f),vi F.cnt,vs F.low,vs F.high]), .cells false 0 ([.ptr 1 0 0]), .cells false 0 ([vs y.key,vn .u64 y.seq,vb false,vs y.val]), .cells false 0 ([vs (⟨(innB (⟨y.key,y.seq,false,y.val⟩:Ent)).toArray⟩:ByteArray)])] (.leaf ⟨[0],[(0,0,none),(1,0,none)]⟩ [] .ret (some ([(0,vi (searchK F.idx (⟨(innB (⟨y.key,y.seq,false,y.val⟩:Ent)).toArray⟩:ByteArray)))],[.obj [] (diskP D), .cells false 0 ([.op 0,vs nm,vl (F.idx.map parE.f),vl (F.bits.map byteE.f),vi F.cnt,vs F.low,vs F.high])])))))

theorem TFFind_chk (D:Dsk) (nm:ByteArray) (F:FileR) (y:Ent):fnC DP ΓM2 ΔM2 Tryd.f30 [.ptr 1 0 0,(entE.av y)] [.obj [] (diskP D), .cells false 0 ([.op 0,vs nm,vl (F.idx.map parE.f),vl (F.bits.map byteE.f),vi F.cnt,vs F.low,vs F.high])] (TFFind D nm F y)=TFFind D nm F y:=by kernel_rfl

end Go.Ax

namespace Go.Ax
open Go.Proofs Go.RowKit
set_option maxRecDepth 100000

theorem wp_elem0 {α:Type} {d:Nat} {E:Enc α} {L:List α} {i:Int} {k:α→Tree} {K:AE→St→Prop} (a:α) (h0:0≤i) (ha:L[i.toNat]? = some a) (h:(k a).wp K):(Tree.elem d (L.map E.f) E L i k).wp K:=⟨rfl,h0,a,ha,h⟩
theorem SFind1:SoundR DP iFind1 OFind1:=sound_genT mixedD Γ0_ok Δ0_ok hfFind1 heFind1 hbFind1 (by
 rintro args B r B' ⟨D,nm,F,key,i,hn,hi,rfl,rfl,rfl,rfl⟩
 refine ⟨by rw[hnFind1]; rfl,_,TFind1_chk i D nm F key,?_⟩
 obtain ⟨p,hp⟩:∃ p,F.idx[i.toNat]? = some p:=⟨_,List.getElem?_eq_getElem (by omega)⟩
 have e:geI F.idx key.data.toList i.toNat= !(Op.bytesLess p.name.toList key.toList):=by
  unfold geI
  rw[List.getD_eq_getElem?_getD,hp,ByteArray.toList_eq,ByteArray.toList_eq]
  show (!decide (Op.bytesLess p.name.data.toList key.data.toList=true))=_
  cases Op.bytesLess p.name.data.toList key.data.toList <;> rfl
 unfold TFind1
 refine wp_elem0 p hi.1 hp (wp_leaf rfl ?_)
 rw[e]
 exact ⟨rfl,rfl⟩)
theorem Blow4 {n:Nat} {a b c d:Box} (h1:AV.low.allLow n a.cs=true) (h2:AV.low.allLow n b.cs=true) (h3:AV.low.allLow n c.cs=true) (h4:AV.low.allLow n d.cs=true):Blow n [a,b,c,d]:=fun z hz=>by
 simp only[List.mem_cons,List.mem_nil_iff,or_false] at hz
 rcases hz with rfl | rfl | rfl | rfl <;> assumption
theorem ΔM1_ok:∀ f,SoundR DP f (ΔM1 f):=envR_cons (lift_sound SFind1) envR_nil
section
variable {D : Dsk} {nm : ByteArray} {F : FileR} {key : ByteArray}
theorem oFind1 {i:Int} (hn:F.idx.length≤100000000) (hi:0≤i∧i<F.idx.length):
  liftR OFind1 [vi i, .ptr 2 0 0, .ptr 3 0 0] [dskB D,filC 0 nm F, .cells false 0 [.ptr 1 0 0], .cells false 0 [vs key]] (vb (geI F.idx key.data.toList i.toNat)) [dskB D,filC 0 nm F, .cells false 0 [.ptr 1 0 0], .cells false 0 [vs key]]:=
 lift_tail (R:=OFind1) ⟨D,nm,F,key,i,hn,hi,rfl,rfl,rfl,rfl⟩ rfl rfl (Blow4 rfl rfl rfl rfl) (Blow4 rfl rfl rfl rfl) rfl []
theorem search_rounds (hn:F.idx.length≤100000000):∀ (f i j:Nat),j≤i+f→i≤j→j≤F.idx.length→Rounds (TSearch_l1_e D nm F key) (TSearch_l1_x D nm F key) noX (fun s=>(TSearch_l1_b D nm F key s).wp) ((i:Int),(j:Int)) (.inl ((searchI (geI F.idx key.data.toList) f i j:Nat):Int)):=by
 have stop:∀ i j:Nat,¬i<j→Rounds (TSearch_l1_e D nm F key) (TSearch_l1_x D nm F key) noX (fun s=>(TSearch_l1_b D nm F key s).wp) ((i:Int),(j:Int)) (.inl (i:Int)):=fun i j h=>by
  refine .done (by intro e; cases e) ?_
  unfold TSearch_l1_b
  exact wp_sp (fun h'=>absurd (of_decide_eq_true h') (by simp only; omega)) (fun _=>wp_leaf rfl ⟨rfl,rfl⟩)
 intro f
 induction f with
 | zero=>
  intro i j h1 h2 h3
  rw[searchI]
  exact stop i j (by omega)
 | succ f ih=>
  intro i j h1 h2 h3
  rw[searchI]
  by_cases hij:i<j
  ·rw[if_pos hij]
   have em:((i:Int)+(j:Int)) / 2=(((i+j) / 2:Nat):Int):=by omega
   have hc:=oFind1 (D:=D) (nm:=nm) (F:=F) (key:=key) (i:=(((i+j) / 2:Nat):Int)) hn (by omega)
   rw[Int.toNat_natCast] at hc
   by_cases hp:geI F.idx key.data.toList ((i+j) / 2)=true
   ·rw[if_pos hp]
    refine .next ?_ (ih i ((i+j) / 2) (by omega) (by omega) (by omega))
    unfold TSearch_l1_b
    dsimp only
    rw[em]
    simp only[Int.toNat_natCast]
    refine wp_sp (fun _=>wp_i64 (by omega) (wp_u64 (by omega) (wp_int ?_ (wp_i64 (by omega) (wp_callr hc (wp_sp (fun _=>wp_leaf rfl ⟨rfl,rfl⟩) (fun q=>absurd hp (by rw[q]; decide)))))))) (fun h'=>absurd (of_decide_eq_false h') (by omega))
    rw[←em]; exact fdivP 2 (by decide)
   ·rw[if_neg hp]
    have hr:=ih ((i+j) / 2+1) j (by omega) (by omega) (by omega)
    rw[show (((i+j) / 2+1:Nat):Int)=(((i+j) / 2:Nat):Int)+1 by omega] at hr
    refine .next ?_ hr
    unfold TSearch_l1_b
    dsimp only
    rw[em]
    simp only[Int.toNat_natCast]
    refine wp_sp (fun _=>wp_i64 (by omega) (wp_u64 (by omega) (wp_int ?_ (wp_i64 (by omega) (wp_callr hc (wp_sp (fun q=>absurd q hp) (fun _=>wp_i64 (by omega) (wp_leaf rfl ⟨rfl,rfl⟩)))))))) (fun h'=>absurd (of_decide_eq_false h') (by omega))
    rw[←em]; exact fdivP 2 (by decide)
  ·rw[if_neg hij]
   exact stop i j hij
end
theorem SSearch:SoundR DP iSearch OSearch:=sound_genT mixedD Γ0_ok ΔM1_ok hfSearch heSearch hbSearch (by
 rintro args B r B' ⟨D,nm,F,key,hn,rfl,rfl,rfl,rfl⟩
 refine ⟨by rw[hnSearch]; rfl,_,TSearch_chk (F.idx.length:Int) D nm F key,?_⟩
 have hr:=search_rounds (D:=D) (nm:=nm) (F:=F) (key:=key) hn F.idx.length 0 F.idx.length (by omega) (by omega) (Nat.le_refl _)
 unfold TSearch
 exact wp_loop _ rfl hr (wp_leaf rfl ⟨rfl,rfl⟩))
theorem ΓM2_ok:∀ f,SoundF DP f (ΓM2 f):=envP_cons SInner envP_nil
theorem ΔM2_ok:∀ f,SoundR DP f (ΔM2 f):=envR_cons (lift_sound SSearch) envR_nil
def OFFind:RSpec:=fun args B r B'=>∃ (D:Dsk) (nm:ByteArray) (F:FileR) (y:Ent),F.idx.length≤100000000∧InOk y∧args= [.ptr 1 0 0,entE.av y]∧B= [dskB D,filC 0 nm F]∧r=vi ((findI F.idx y:Nat):Int)∧B'=B
theorem oSearch {D:Dsk} {nm:ByteArray} {F:FileR} {key:ByteArray} {x:Box} (hn:F.idx.length≤100000000):
  liftR OSearch [vi (F.idx.length:Int), .fn 57 [.ptr 2 0 0, .ptr 4 0 0]] [dskB D,filC 0 nm F, .cells false 0 [.ptr 1 0 0],x, .cells false 0 [vs key]] (vi (searchK F.idx key)) [dskB D,filC 0 nm F, .cells false 0 [.ptr 1 0 0],x, .cells false 0 [vs key]]:=by
 refine ⟨_,_,_,_,⟨D,nm,F,key,hn,rfl,rfl,rfl,rfl⟩,⟨[0,1,2,4],[0,0,0,0],[dskB D,filC 0 nm F, .cells false 0 [.ptr 1 0 0], .cells false 0 [vs key]],[dskB D,filC 0 nm F, .cells false 0 [.ptr 1 0 0], .cells false 0 [vs key]],[],?_,?_,?_,?_,⟨.objs rfl rfl, .cells ?_ ?_ rfl, .cells ?_ ?_ rfl, .cells ?_ ?_ rfl,trivial⟩,⟨.objs rfl rfl, .cells ?_ ?_ rfl, .cells ?_ ?_ rfl, .cells ?_ ?_ rfl,trivial⟩,?_,rfl,rfl⟩⟩
 ·rfl
 ·simp
 ·simp[AV.rv.rvL,AV.rv,fNew,dNew]
 ·rfl
 all_goals first
  | (simp[dNew]; done)
  | (simp[AV.rv.rvL,AV.rv,fNew,dNew]; done)
  | (simp[outB]; done)
theorem SFFind:SoundR DP iFFind OFFind:=sound_genT mixedD ΓM2_ok ΔM2_ok hfFFind heFFind hbFFind (by
 rintro args B r B' ⟨D,nm,F,y,hn,hy,rfl,rfl,rfl,rfl⟩
 refine ⟨by rw[hnFFind]; rfl,_,TFFind_chk D nm F y,?_⟩
 have hi:=gInner_eq (least y) hy.1 hy.2
 have e:searchK F.idx (⟨(innB (least y)).toArray⟩:ByteArray)=((findI F.idx y:Nat):Int):=by
  unfold searchK
  rw[show (⟨(innB (least y)).toArray⟩:ByteArray).data.toList=innB (least y) by simp]
  rfl
 unfold TFFind
 refine wp_call hi (wp_len (wp_callr (oSearch hn) (wp_leaf rfl ?_)))
 have e':searchK F.idx (⟨(innB (⟨y.key,y.seq,false,y.val⟩:Ent)).toArray⟩:ByteArray)=((findI F.idx y:Nat):Int):=e
 rw[e']
 exact ⟨rfl,rfl⟩)
end Go.Ax

namespace Go.Ax
open Go.Proofs Go.RowKit
set_option maxRecDepth 100000

abbrev iFPages:Nat:=54
noncomputable abbrev nFPages:Func:=Tryd.f54
theorem hfFPages:DP.funcs[iFPages]? = some nFPages:=by kernel_rfl
theorem heFPages:enters DP iFPages=true:=by kernel_rfl
theorem hbFPages:nFPages.body.isSome=true:=by kernel_rfl
theorem hnFPages:nFPages.ntmps=10:=by kernel_rfl
noncomputable def TFPages (D:Dsk) (nm:ByteArray) (F:FileR):Tree:=
.int 9 ((F.idx.map parE.f).length:Int) (F.idx.length:Int) (.leaf ⟨[0],[(0,0,none),(1,0,none)]⟩ [] .ret (some ([(0,vi (F.idx.length:Int))],[.obj [] (diskP D), .cells false 0 ([.op 0,vs nm,vl (F.idx.map parE.f),vl (F.bits.map byteE.f),vi F.cnt,vs F.low,vs F.high])])))

theorem TFPages_chk (D:Dsk) (nm:ByteArray) (F:FileR):fnC DP Γ0 Δ0 Tryd.f54 [.ptr 1 0 0] [.obj [] (diskP D), .cells false 0 ([.op 0,vs nm,vl (F.idx.map parE.f),vl (F.bits.map byteE.f),vi F.cnt,vs F.low,vs F.high])] (TFPages D nm F)=TFPages D nm F:=by kernel_rfl

noncomputable def TNPages:Tree:=
.leaf ⟨[0],[]⟩ [] .ret (some ([(0,vi 0)],[]))

theorem TNPages_chk:fnC DP Γ0 Δ0 Tryd.f54 [.p (.v (.pointer none))] [] (TNPages)=TNPages:=by kernel_rfl

noncomputable def TNFind (y:Ent):Tree:=
.leaf ⟨[0],[]⟩ [] .ret (some ([(0,vi 0)],[]))

theorem TNFind_chk (y:Ent):fnC DP Γ0 Δ0 Tryd.f30 [.p (.v (.pointer none)),(entE.av y)] [] (TNFind y)=TNFind y:=by kernel_rfl

end Go.Ax

namespace Go.Ax
open Go.Proofs Go.RowKit
set_option maxRecDepth 100000

abbrev nilQ:AV:= .p (.v (.pointer none))
theorem lift_none {R:RSpec} {al:List AV} {B:List Box} {y:AV} (hR:R al [] y []) (h1:∀ f d,AV.rv.rvL f d al=al) (h2:∀ n,AV.low.allLow n al=true) (hy:y.low 0=true):liftR R al B y B:=by
 refine ⟨_,_,_,_,hR,⟨[],[],[],[],[],rfl,rfl,(h1 _ _).symm,h2 _,trivial,trivial,?_,(low_rv hy _ _).symm,low_mono hy⟩⟩
 simp[outB]
section
variable {B : List Box} {b l : Nat} {D : Dsk} {nm : ByteArray} {F : FileR} {k : ByteArray} {seq : Int}
end
end Go.Ax

namespace Go.Ax
open Go.Proofs Go.RowKit
set_option maxRecDepth 100000

end Go.Ax

namespace Go.Ax
open Go.Proofs Go.RowKit
set_option maxRecDepth 100000

end Go.Ax

namespace Go.Ax
open Go.Proofs Go.RowKit
set_option maxRecDepth 100000

end Go.Ax
