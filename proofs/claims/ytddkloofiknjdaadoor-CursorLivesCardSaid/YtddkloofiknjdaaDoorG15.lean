/- Trees, printed by gen/w1.py. -/
import Derived.Test.YtddkloofiknjdaaDoorG14
set_option linter.unusedVariables false
set_option linter.unusedSimpArgs false
set_option linter.unusedSectionVars false
namespace Go.Ax
open Go.Proofs Go.RowKit
set_option maxRecDepth 100000

abbrev BD (D:Dsk):Box:= .obj [] (AH D)
abbrev filC (b:Nat) (nm:ByteArray) (F:FileR):Box:= .cells false 0 [.op b,vs nm,vl (F.idx.map AK.f),vl (F.bits.map AA.f),vi F.cnt,vs F.low,vs F.high]
def Rf:Ae:=fun args B r B'=>∃ (D:Dsk) (nm:ByteArray) (F:FileR) (i:Int) (p:Par),D.Ok∧D.down=false∧0≤i∧F.idx[i.toNat]? = some p∧GQ p∧args= [.ptr 1 0 0,vi i]∧B= [BD D,filC 0 nm F] ∧
 r= .tup [.agg [vl ((CT (AF D nm) F.idx i).1.map AA.f),vl ((CT (AF D nm) F.idx i).2.1.map Aa.f)],vi (CT (AF D nm) F.idx i).2.2]∧B'=B
noncomputable def ΓL3:BF:=DG [(Sh,Nd),(RR,O8),(Rb,PH)]
noncomputable def rO:CB:=CZ [(Rc,AX Re)]
noncomputable def ΓL4:BF:=DG [(RS,O9),(VA,VB)]
noncomputable def rP:CB:=CZ [(Rd,AX Rf)]

noncomputable def Wx (D:Dsk) (nm:ByteArray) (F:FileR) (i:Int):Tree:=
.elem 19 (F.idx.map AK.f) AK F.idx i (fun e1=> .sbyte 22 (.sealslot 2 6 (rowC (e1.val.data.toList.map AA.f)) e1.val.data.toList.length AA e1.val.data.toList (.call 25 (Nd [vl (e1.val.data.toList.map AA.f)]=some (.tup [vn .u64 ((AJ e1.val.data.toList).1),vi ((AJ e1.val.data.toList).2.1),vi ((AJ e1.val.data.toList).2.2)])) (.tup [vn .u64 ((AJ e1.val.data.toList).1),vi ((AJ e1.val.data.toList).2.1),vi ((AJ e1.val.data.toList).2.2)]) (.sp 30 (((AJ e1.val.data.toList).2.2) != (0:Int)) (
.leaf ⟨[0],[(0,0,none),(1,0,none)]⟩ [] .ret (some ([(0, .tup [.agg [AI,AI],vi 12])],[.obj [] (AH D), .cells false 0 ([.op 0,vs nm,vl (F.idx.map AK.f),vl (F.bits.map AA.f),vi F.cnt,vs F.low,vs F.high])]))) (
.sp 33 (decide (((AJ e1.val.data.toList).1)>(67108864:Int))) (
.leaf ⟨[0],[(0,0,none),(1,0,none)]⟩ [] .ret (some ([(0, .tup [.agg [AI,AI],vi 12])],[.obj [] (AH D), .cells false 0 ([.op 0,vs nm,vl (F.idx.map AK.f),vl (F.bits.map AA.f),vi F.cnt,vs F.low,vs F.high])]))) (
.cut 39 (e1.val.data.toList.map AA.f) (some ((AJ e1.val.data.toList).2.1)) none AA e1.val.data.toList (.call 40 (Nd [vl ((cutL (some ((AJ e1.val.data.toList).2.1)) none e1.val.data.toList).map AA.f)]=some (.tup [vn .u64 ((AJ (cutL (some ((AJ e1.val.data.toList).2.1)) none e1.val.data.toList)).1),vi ((AJ (cutL (some ((AJ e1.val.data.toList).2.1)) none e1.val.data.toList)).2.1),vi ((AJ (cutL (some ((AJ e1.val.data.toList).2.1)) none e1.val.data.toList)).2.2)])) (.tup [vn .u64 ((AJ (cutL (some ((AJ e1.val.data.toList).2.1)) none e1.val.data.toList)).1),vi ((AJ (cutL (some ((AJ e1.val.data.toList).2.1)) none e1.val.data.toList)).2.1),vi ((AJ (cutL (some ((AJ e1.val.data.toList).2.1)) none e1.val.data.toList)).2.2)]) (.sp 45 (((AJ (cutL (some ((AJ e1.val.data.toList).2.1)) none e1.val.data.toList)).2.2) != (0:Int)) (
.leaf ⟨[0],[(0,0,none),(1,0,none)]⟩ [] .ret (some ([(0, .tup [.agg [AI,AI],vi 12])],[.obj [] (AH D), .cells false 0 ([.op 0,vs nm,vl (F.idx.map AK.f),vl (F.bits.map AA.f),vi F.cnt,vs F.low,vs F.high])]))) (
.int 49 (IntKind.i64.wrap (((AJ e1.val.data.toList).2.1)+((AJ (cutL (some ((AJ e1.val.data.toList).2.1)) none e1.val.data.toList)).2.1))) (((AJ e1.val.data.toList).2.1)+((AJ (cutL (some ((AJ e1.val.data.toList).2.1)) none e1.val.data.toList)).2.1)) (.int 51 ((e1.val.data.toList.map AA.f).length:Int) (e1.val.data.toList.length:Int) (.sp 52 ((((AJ e1.val.data.toList).2.1)+((AJ (cutL (some ((AJ e1.val.data.toList).2.1)) none e1.val.data.toList)).2.1)) != (e1.val.data.toList.length:Int)) (
.leaf ⟨[0],[(0,0,none),(1,0,none)]⟩ [] .ret (some ([(0, .tup [.agg [AI,AI],vi 12])],[.obj [] (AH D), .cells false 0 ([.op 0,vs nm,vl (F.idx.map AK.f),vl (F.bits.map AA.f),vi F.cnt,vs F.low,vs F.high])]))) (
.sp 56 (decide (((AJ (cutL (some ((AJ e1.val.data.toList).2.1)) none e1.val.data.toList)).1)>(67108864:Int))) (
.leaf ⟨[0],[(0,0,none),(1,0,none)]⟩ [] .ret (some ([(0, .tup [.agg [AI,AI],vi 12])],[.obj [] (AH D), .cells false 0 ([.op 0,vs nm,vl (F.idx.map AK.f),vl (F.bits.map AA.f),vi F.cnt,vs F.low,vs F.high])]))) (
.any (.int 69 (IntKind.i64.wrap ((AJ e1.val.data.toList).1)) ((AJ e1.val.data.toList).1) (.int 71 (IntKind.i64.wrap ((AJ (cutL (some ((AJ e1.val.data.toList).2.1)) none e1.val.data.toList)).1)) ((AJ (cutL (some ((AJ e1.val.data.toList).2.1)) none e1.val.data.toList)).1) (.callr (some 73) (rO 40 [.op 0,vs nm, .agg [vi ((AJ e1.val.data.toList).1),vi ((AJ (cutL (some ((AJ e1.val.data.toList).2.1)) none e1.val.data.toList)).1)]] [.obj [] (AH D), .cells false 0 ([.op 0,vs nm,vl (F.idx.map AK.f),vl (F.bits.map AA.f),vi F.cnt,vs F.low,vs F.high]), .cells false 0 ([AI,AI]), .dead] (.tup [vl (((getF (AF D nm) ((AJ e1.val.data.toList).1) ((AJ (cutL (some ((AJ e1.val.data.toList).2.1)) none e1.val.data.toList)).1)).1).map AA.f),vi ((getF (AF D nm) ((AJ e1.val.data.toList).1) ((AJ (cutL (some ((AJ e1.val.data.toList).2.1)) none e1.val.data.toList)).1)).2)]) [.obj [] (AH D), .cells false 0 ([.op 0,vs nm,vl (F.idx.map AK.f),vl (F.bits.map AA.f),vi F.cnt,vs F.low,vs F.high]), .cells false 0 ([AI,AI]), .dead]) (.tup [vl (((getF (AF D nm) ((AJ e1.val.data.toList).1) ((AJ (cutL (some ((AJ e1.val.data.toList).2.1)) none e1.val.data.toList)).1)).1).map AA.f),vi ((getF (AF D nm) ((AJ e1.val.data.toList).1) ((AJ (cutL (some ((AJ e1.val.data.toList).2.1)) none e1.val.data.toList)).1)).2)]) [.obj [] (AH D), .cells false 0 ([.op 0,vs nm,vl (F.idx.map AK.f),vl (F.bits.map AA.f),vi F.cnt,vs F.low,vs F.high]), .cells false 0 ([AI,AI]), .dead] (.sp 77 (((getF (AF D nm) ((AJ e1.val.data.toList).1) ((AJ (cutL (some ((AJ e1.val.data.toList).2.1)) none e1.val.data.toList)).1)).2) != (0:Int)) (
.leaf ⟨[0],[(0,0,none),(1,0,none)]⟩ [] .ret (some ([(0, .tup [.agg [AI,AI],vi ((getF (AF D nm) ((AJ e1.val.data.toList).1) ((AJ (cutL (some ((AJ e1.val.data.toList).2.1)) none e1.val.data.toList)).1)).2)])],[.obj [] (AH D), .cells false 0 ([.op 0,vs nm,vl (F.idx.map AK.f),vl (F.bits.map AA.f),vi F.cnt,vs F.low,vs F.high])]))) (
.call 82 (O8 [vl (((getF (AF D nm) ((AJ e1.val.data.toList).1) ((AJ (cutL (some ((AJ e1.val.data.toList).2.1)) none e1.val.data.toList)).1)).1).map AA.f)]=some (.tup [.agg [vl ((CV ((getF (AF D nm) ((AJ e1.val.data.toList).1) ((AJ (cutL (some ((AJ e1.val.data.toList).2.1)) none e1.val.data.toList)).1)).1)).map AA.f),vl ((HG ((getF (AF D nm) ((AJ e1.val.data.toList).1) ((AJ (cutL (some ((AJ e1.val.data.toList).2.1)) none e1.val.data.toList)).1)).1)).map Aa.f)],vi (Gk ((getF (AF D nm) ((AJ e1.val.data.toList).1) ((AJ (cutL (some ((AJ e1.val.data.toList).2.1)) none e1.val.data.toList)).1)).1))])) (.tup [.agg [vl ((CV ((getF (AF D nm) ((AJ e1.val.data.toList).1) ((AJ (cutL (some ((AJ e1.val.data.toList).2.1)) none e1.val.data.toList)).1)).1)).map AA.f),vl ((HG ((getF (AF D nm) ((AJ e1.val.data.toList).1) ((AJ (cutL (some ((AJ e1.val.data.toList).2.1)) none e1.val.data.toList)).1)).1)).map Aa.f)],vi (Gk ((getF (AF D nm) ((AJ e1.val.data.toList).1) ((AJ (cutL (some ((AJ e1.val.data.toList).2.1)) none e1.val.data.toList)).1)).1))]) (.call 87 (PH [vi (Gk ((getF (AF D nm) ((AJ e1.val.data.toList).1) ((AJ (cutL (some ((AJ e1.val.data.toList).2.1)) none e1.val.data.toList)).1)).1))]=some (vi (F8 (Gk ((getF (AF D nm) ((AJ e1.val.data.toList).1) ((AJ (cutL (some ((AJ e1.val.data.toList).2.1)) none e1.val.data.toList)).1)).1))))) (vi (F8 (Gk ((getF (AF D nm) ((AJ e1.val.data.toList).1) ((AJ (cutL (some ((AJ e1.val.data.toList).2.1)) none e1.val.data.toList)).1)).1)))) (.leaf ⟨[0],[(0,0,none),(1,0,none)]⟩ [] .ret (some ([(0, .tup [.agg [vl ((CV ((getF (AF D nm) ((AJ e1.val.data.toList).1) ((AJ (cutL (some ((AJ e1.val.data.toList).2.1)) none e1.val.data.toList)).1)).1)).map AA.f),vl ((HG ((getF (AF D nm) ((AJ e1.val.data.toList).1) ((AJ (cutL (some ((AJ e1.val.data.toList).2.1)) none e1.val.data.toList)).1)).1)).map Aa.f)],vi (F8 (Gk ((getF (AF D nm) ((AJ e1.val.data.toList).1) ((AJ (cutL (some ((AJ e1.val.data.toList).2.1)) none e1.val.data.toList)).1)).1)))])],[.obj [] (AH D), .cells false 0 ([.op 0,vs nm,vl (F.idx.map AK.f),vl (F.bits.map AA.f),vi F.cnt,vs F.low,vs F.high])]))))))))))))))))))))))

theorem cO (D:Dsk) (nm:ByteArray) (F:FileR) (i:Int):Av DP ΓL3 rO Tryd.f73 [.ptr 1 0 0,vi i] [.obj [] (AH D), .cells false 0 ([.op 0,vs nm,vl (F.idx.map AK.f),vl (F.bits.map AA.f),vi F.cnt,vs F.low,vs F.high])] (Wx D nm F i)=Wx D nm F i:=by kernel_rfl

noncomputable def Wy (D:Dsk) (nm:ByteArray) (F:FileR) (i:Int):Tree:=
.sp 13 (decide (i<(0:Int))) (
.leaf ⟨[0],[(0,0,none),(1,0,none)]⟩ [] .ret (some ([(0, .tup [AI,vi 1])],[.obj [] (AH D), .cells false 0 ([.op 0,vs nm,vl (F.idx.map AK.f),vl (F.bits.map AA.f),vi F.cnt,vs F.low,vs F.high])]))) (
.int 21 ((F.idx.map AK.f).length:Int) (F.idx.length:Int) (.sp 22 (decide (i≥(F.idx.length:Int))) (
.leaf ⟨[0],[(0,0,none),(1,0,none)]⟩ [] .ret (some ([(0, .tup [AI,vi 1])],[.obj [] (AH D), .cells false 0 ([.op 0,vs nm,vl (F.idx.map AK.f),vl (F.bits.map AA.f),vi F.cnt,vs F.low,vs F.high])]))) (
.callr (some 27) (rP 73 [.ptr 1 0 0,vi i] [.obj [] (AH D), .cells false 0 ([.op 0,vs nm,vl (F.idx.map AK.f),vl (F.bits.map AA.f),vi F.cnt,vs F.low,vs F.high])] (.tup [.agg [vl (((CT (AF D nm) F.idx i).1).map AA.f),vl (((CT (AF D nm) F.idx i).2.1).map Aa.f)],vi ((CT (AF D nm) F.idx i).2.2)]) [.obj [] (AH D), .cells false 0 ([.op 0,vs nm,vl (F.idx.map AK.f),vl (F.bits.map AA.f),vi F.cnt,vs F.low,vs F.high])]) (.tup [.agg [vl (((CT (AF D nm) F.idx i).1).map AA.f),vl (((CT (AF D nm) F.idx i).2.1).map Aa.f)],vi ((CT (AF D nm) F.idx i).2.2)]) [.obj [] (AH D), .cells false 0 ([.op 0,vs nm,vl (F.idx.map AK.f),vl (F.bits.map AA.f),vi F.cnt,vs F.low,vs F.high])] (.sp 31 (((CT (AF D nm) F.idx i).2.2) != (0:Int)) (
.leaf ⟨[0],[(0,0,none),(1,0,none)]⟩ [] .ret (some ([(0, .tup [AI,vi ((CT (AF D nm) F.idx i).2.2)])],[.obj [] (AH D), .cells false 0 ([.op 0,vs nm,vl (F.idx.map AK.f),vl (F.bits.map AA.f),vi F.cnt,vs F.low,vs F.high])]))) (
.call 35 (O9 [.agg [vl (((CT (AF D nm) F.idx i).1).map AA.f),vl (((CT (AF D nm) F.idx i).2.1).map Aa.f)]]=some (vl (((Ar ((CT (AF D nm) F.idx i).1)).1).map AK.f))) (vl (((Ar ((CT (AF D nm) F.idx i).1)).1).map AK.f)) (.call 36 (VB [vl (((Ar ((CT (AF D nm) F.idx i).1)).1).map AK.f)]=some (.tup [vl (((DF ((Ar ((CT (AF D nm) F.idx i).1)).1)).1).map AB.f),vi ((DF ((Ar ((CT (AF D nm) F.idx i).1)).1)).2)])) (.tup [vl (((DF ((Ar ((CT (AF D nm) F.idx i).1)).1)).1).map AB.f),vi ((DF ((Ar ((CT (AF D nm) F.idx i).1)).1)).2)]) (.sp 40 (((DF ((Ar ((CT (AF D nm) F.idx i).1)).1)).2) == (0:Int)) (
.int 43 ((((DF ((Ar ((CT (AF D nm) F.idx i).1)).1)).1).map AB.f).length:Int) (((DF ((Ar ((CT (AF D nm) F.idx i).1)).1)).1).length:Int) (.sp 44 ((((DF ((Ar ((CT (AF D nm) F.idx i).1)).1)).1).length:Int) == (0:Int)) (
.leaf ⟨[0],[(0,0,none),(1,0,none)]⟩ [] .ret (some ([(0, .tup [AI,vi 12])],[.obj [] (AH D), .cells false 0 ([.op 0,vs nm,vl (F.idx.map AK.f),vl (F.bits.map AA.f),vi F.cnt,vs F.low,vs F.high])]))) (
.leaf ⟨[0],[(0,0,none),(1,0,none)]⟩ [] .ret (some ([(0, .tup [vl (((DF ((Ar ((CT (AF D nm) F.idx i).1)).1)).1).map AB.f),vi ((DF ((Ar ((CT (AF D nm) F.idx i).1)).1)).2)])],[.obj [] (AH D), .cells false 0 ([.op 0,vs nm,vl (F.idx.map AK.f),vl (F.bits.map AA.f),vi F.cnt,vs F.low,vs F.high])]))))) (
.leaf ⟨[0],[(0,0,none),(1,0,none)]⟩ [] .ret (some ([(0, .tup [vl (((DF ((Ar ((CT (AF D nm) F.idx i).1)).1)).1).map AB.f),vi ((DF ((Ar ((CT (AF D nm) F.idx i).1)).1)).2)])],[.obj [] (AH D), .cells false 0 ([.op 0,vs nm,vl (F.idx.map AK.f),vl (F.bits.map AA.f),vi F.cnt,vs F.low,vs F.high])]))))))))))

theorem cP (D:Dsk) (nm:ByteArray) (F:FileR) (i:Int):Av DP ΓL4 rP Tryd.f45 [.ptr 1 0 0,vi i] [.obj [] (AH D), .cells false 0 ([.op 0,vs nm,vl (F.idx.map AK.f),vl (F.bits.map AA.f),vi F.cnt,vs F.low,vs F.high])] (Wy D nm F i)=Wy D nm F i:=by kernel_rfl


structure FOk (F:FileR):Prop where
 idx:F.idx.length≤100000000
 par:∀ p∈F.idx,GQ p
 bits:F.bits.length≤10000000
section
variable {R : Ae} {al : List AV} {B : List Box} {b l : Nat} {D : Dsk} {nm : ByteArray} {F : FileR} {y : AV}
theorem Ny {y:AV} (hy:y.low 0=true) (f d:Nat→Nat):y.rv f d=y:=Jm (n:=0) (fun j hj=>by omega) (fun j hj=>by omega) hy
theorem jw (hR:R (.op 0::al) [BD D] y [BD D]) (hb:B[b]? = some (BD D)) (h1:∀ f d,AV.rv.rvL f d al=al) (h2:∀ n,AV.low.allLow n al=true) (hy:y.low 0=true):AX R (.op b::al) B y B:=by
 have hlt:b<B.length:=(List.getElem?_eq_some_iff.1 hb).1
 refine ⟨_,_,_,_,hR,⟨[b],[0],[BD D],[BD D],[],?_,?_,?_,?_,⟨.objs rfl rfl,trivial⟩,⟨.objs rfl rfl,trivial⟩,?_,(Ny hy _ _).symm,HV hy⟩⟩
 ·simp[DO,Nat.blt_eq,hlt]
 ·simp[hb]
 ·rw[AV.rv.rvL,h1]; rfl
 ·rw[AV.low.allLow,h2]; rfl
 ·rw[Bh,Bh,DT hb,List.append_nil]
theorem Kf (hR:R (.ptr 1 0 0::al) [BD D,filC 0 nm F] y [BD D,filC 0 nm F]) (hb:B[b]? = some (BD D)) (hl:B[l]? = some (filC b nm F)) (h1:∀ f d,AV.rv.rvL f d al=al) (h2:∀ n,AV.low.allLow n al=true) (hy:y.low 0=true):AX R (.ptr l 0 0::al) B y B:=by
 have hbl:b<B.length:=(List.getElem?_eq_some_iff.1 hb).1
 have hll:l<B.length:=(List.getElem?_eq_some_iff.1 hl).1
 have hne:b≠l:=fun e=>by rw[e,hl] at hb; cases hb
 refine ⟨_,_,_,_,hR,⟨[b,l],[0,0],[BD D,filC b nm F],[BD D,filC b nm F],[],?_,?_,?_,?_,⟨.objs rfl rfl, .cells ?_ ?_ rfl,trivial⟩,⟨.objs rfl rfl, .cells ?_ ?_ rfl,trivial⟩,?_,(Ny hy _ _).symm,HV hy⟩⟩
 ·have h1:Nat.beq l b=false:=by
   cases h:Nat.beq l b with
   | false=>rfl
   | true=>exact absurd (Nat.eq_of_beq_eq_true h).symm hne
  have h2:Nat.beq b l=false:=by
   cases h:Nat.beq b l with
   | false=>rfl
   | true=>exact absurd (Nat.eq_of_beq_eq_true h) hne
  simp[DO,Nat.blt_eq,hbl,hll,h1,h2]
 ·simp[hb,hl]
 ·rw[AV.rv.rvL,h1]; simp[AV.rv,Bc,BM]
 ·rw[AV.low.allLow,h2]; rfl
 ·simp[BM]
 ·simp[AV.rv.rvL,AV.rv,Bc]
 ·simp[BM]
 ·simp[AV.rv.rvL,AV.rv,Bc]
 ·rw[Bh,Bh,Bh,DT hb,DT hl,List.append_nil]
theorem VC {a n:Int} (ok:D.Ok) (hd:D.down=false) (hb:B[b]? = some (BD D)):AX Re [.op b,vs nm, .agg [vi a,vi n]] B (.tup [vl ((getF (AF D nm) a n).1.map AA.f),vi (getF (AF D nm) a n).2]) B:=
 jw (R:=Re) ⟨D,nm,a,n,ok,hd,rfl,rfl,rfl,rfl⟩ hb (fun _ _=>rfl) (fun _=>rfl) rfl
end
theorem ΓL3_ok:∀ f,SoundF DP f (ΓL3 f):=An il (An lP (An Tz Bu))
theorem rQ:∀ f,SoundR DP f (rO f):=AY (AU la) BJ
theorem rR:SoundR DP Rd Rf:=Mi AZ ΓL3_ok rQ nJ nL nM (by
 rintro args B r B' ⟨D,nm,F,i,p,ok,hd,h0,hp,hpo,rfl,rfl,rfl,rfl⟩
 refine ⟨by rw[nN]; rfl,_,cO D nm F i,?_⟩
 have hpg:CT (AF D nm) F.idx i=match Px p.vl with
  | none=>([],[],12)
  | some (a,n)=>if (getF (AF D nm) a n).2≠0 then ([],[],12) else (CV (getF (AF D nm) a n).1,HG (getF (AF D nm) a n).1,F8 (Gk (getF (AF D nm) a n).1)):=by
  unfold CT
  rw[hp]
  simp only
  cases Px p.vl <;> rfl
 have hat:Px p.vl=if (AJ p.vl).2.2≠0∨(AJ p.vl).1>67108864 then none else
  if (AJ (p.vl.drop (AJ p.vl).2.1.toNat)).2.2≠0∨(AJ p.vl).2.1+(AJ (p.vl.drop (AJ p.vl).2.1.toNat)).2.1≠p.vl.length∨(AJ (p.vl.drop (AJ p.vl).2.1.toNat)).1>67108864 then none else
  some ((AJ p.vl).1,(AJ (p.vl.drop (AJ p.vl).2.1.toNat)).1):=rfl
 have hvl:p.vl.length=p.val.size:=rfl
 have hv:=hpo.2
 have g1:=Sn (b:=p.vl) (by omega)
 have g2:=Sn (b:=p.vl.drop (AJ p.vl).2.1.toNat) (by rw[List.length_drop]; omega)
 have f1:=FI p.vl
 have f2:=FI (p.vl.drop (AJ p.vl).2.1.toNat)
 rw[List.length_drop] at f2
 have hc:=Ke ok nm
 have bad:Px p.vl=none→Lax (.tup [.agg [AI,AI],vi 12]) (.tup [.agg [vl ((CT (AF D nm) F.idx i).1.map AA.f),vl ((CT (AF D nm) F.idx i).2.1.map Aa.f)],vi (CT (AF D nm) F.idx i).2.2]):=fun h=>by
  rw[hpg,h]
  exact Wt
 unfold Wx
 refine Cm p h0 hp (Ju ⟨rfl,rfl,?_⟩)
 rw[show p.val.data.toList=p.vl from rfl]
 have hpv:p.vl.length≤100000000:=by omega
 clear hvl
 generalize p.vl=v at *
 refine Ac g1 (AC (fun h=>?_) (fun h=>AC (fun g=>?_) (fun g=>DB ?_ (Ac g2 (AC (fun k=>?_) (fun k=>AP ?_ (Aq (AC (fun m=>?_) (fun m=>AC (fun q=>?_) (fun q=>?_))))))))))
 ·rw[if_pos (.inl (by simpa using h))] at hat
  exact wp_leaf rfl ⟨bad hat,rfl⟩
 ·rw[if_pos (.inr (of_decide_eq_true g))] at hat
  exact wp_leaf rfl ⟨bad hat,rfl⟩
 ·simp only[CE]; exact ⟨f1.2.1,f1.2.2⟩
 ·have h:=(bne_eq_false_iff_eq).1 h
  have g:=of_decide_eq_false g
  rw[if_neg (by rintro (e | e); exact e h; exact g e),if_pos (.inl (by simpa [Jv] using k))] at hat
  exact wp_leaf rfl ⟨bad hat,rfl⟩
 ·simp only[Jv]; omega
 ·have h:=(bne_eq_false_iff_eq).1 h
  have g:=of_decide_eq_false g
  rw[if_neg (by rintro (e | e); exact e h; exact g e),if_pos (.inr (.inl (by simpa [Jv] using m)))] at hat
  exact wp_leaf rfl ⟨bad hat,rfl⟩
 ·have h:=(bne_eq_false_iff_eq).1 h
  have g:=of_decide_eq_false g
  rw[if_neg (by rintro (e | e); exact e h; exact g e),if_pos (.inr (.inr (of_decide_eq_true q)))] at hat
  exact wp_leaf rfl ⟨bad hat,rfl⟩
 ·have h:=(bne_eq_false_iff_eq).1 h
  have g:=of_decide_eq_false g
  have k:=(bne_eq_false_iff_eq).1 k
  have m:=(bne_eq_false_iff_eq).1 m
  have q:=of_decide_eq_false q
  simp only[Jv] at k m q ⊢
  rw[if_neg (by rintro (e | e); exact e h; exact g e),if_neg (by
   rintro (e | e | e)
   ·exact e k
   ·exact e m
   ·exact q e)] at hat
  rw[hat] at hpg
  simp only at hpg
  have hl:=Jz (AF D nm) (AJ v).1 (AJ (v.drop (AJ v).2.1.toNat)).1
  refine AP (d:=0) (by omega) ?_
  refine AP (by omega) ?_
  refine AM (VC ok hd rfl) ?_
  refine AC (fun s=>?_) (fun s=>?_)
  ·rw[if_pos (by simpa using s)] at hpg
   rw[hpg]
   rcases Ra (AF D nm) (AJ v).1 (AJ (v.drop (AJ v).2.1.toNat)).1 with e | e
   ·exact absurd e (by simpa using s)
   ·rw[e]
    exact wp_leaf rfl ⟨Wt,rfl⟩
  ·rw[if_neg (by simpa using s)] at hpg
   rw[hpg]
   exact Ac (Wb (by omega)) (Ac (Ww _) (wp_leaf rfl ⟨.refl _,rfl⟩)))
theorem rS {B:List Box} {b l:Nat} {D:Dsk} {nm:ByteArray} {F:FileR} {i:Int} {p:Par} (ok:D.Ok) (hd:D.down=false) (h0:0≤i) (hp:F.idx[i.toNat]? = some p) (hpo:GQ p) (hb:B[b]? = some (BD D)) (hl:B[l]? = some (filC b nm F)):
  AX Rf [.ptr l 0 0,vi i] B (.tup [.agg [vl ((CT (AF D nm) F.idx i).1.map AA.f),vl ((CT (AF D nm) F.idx i).2.1.map Aa.f)],vi (CT (AF D nm) F.idx i).2.2]) B:=
 Kf (R:=Rf) ⟨D,nm,F,i,p,ok,hd,h0,hp,hpo,rfl,rfl,rfl,rfl⟩ hb hl (fun _ _=>rfl) (fun _=>rfl) rfl
theorem ΓL4_ok:∀ f,SoundF DP f (ΓL4 f):=An lQ (An vL Bu)
theorem rT:∀ f,SoundR DP f (rP f):=AY (AU rR) BJ
theorem jx {b:List UInt8} {L:List Par} (h:Ar b=(L,0)):(∀ p∈L,p.name.size≤b.length)∧L.length≤b.length:=by
 unfold Ar at h
 cases hA:C4 b.length b.length b [] with
 | none=>rw[hA] at h; cases h
 | some M=>
  rw[hA] at h
  cases h
  obtain ⟨h1,h2⟩:=O7 _ _ _ _ _ hA
  exact ⟨fun p hp=>by have:=(h1 p hp).1; simpa [Par.nl] using this,h2⟩
def Nz:Ae:=fun args B r B'=>∃ (D:Dsk) (nm:ByteArray) (F:FileR) (i:Int),D.Ok∧D.down=false∧FOk F∧args= [.ptr 1 0 0,vi i]∧B= [BD D,filC 0 nm F] ∧
 r= .tup [vl ((BV (AF D nm) F.idx i).1.map AB.f),vi (BV (AF D nm) F.idx i).2]∧B'=B
theorem fV:SoundR DP Nx Nz:=Mi AZ ΓL4_ok rT nO nP nQ (by
 rintro args B r B' ⟨D,nm,F,i,ok,hd,hF,rfl,rfl,rfl,rfl⟩
 refine ⟨by rw[nR]; rfl,_,cP D nm F i,?_⟩
 have hc:=Ke ok nm
 have hfi:=hF.idx
 unfold Wy
 refine AC (fun h=>?_) (fun h=>Aq (AC (fun g=>?_) (fun g=>?_)))
 ·have:BV (AF D nm) F.idx i=([],1):=by unfold BV; rw[if_pos (of_decide_eq_true h)]
  rw[this]
  exact wp_leaf rfl ⟨FB,rfl⟩
 ·have h:=of_decide_eq_false h
  have g:=of_decide_eq_true g
  have:BV (AF D nm) F.idx i=([],1):=by unfold BV; rw[if_neg h,List.getElem?_eq_none (by omega)]
  rw[this]
  exact wp_leaf rfl ⟨FB,rfl⟩
 ·have h:=of_decide_eq_false h
  have g:=of_decide_eq_false g
  obtain ⟨p,hp⟩:∃ p,F.idx[i.toNat]? = some p:=⟨_,List.getElem?_eq_getElem (by omega)⟩
  obtain ⟨q1,q2,q3⟩:=cI (c:=AF D nm) hp
  rw[Zk h hp]
  refine AM (rS ok hd (by omega) hp (hF.par p (List.mem_of_getElem? hp)) rfl rfl) ?_
  rw[q1]
  refine AC (fun k=>?_) (fun k=>?_)
  ·have k:(Ct (AF D nm) p).2≠0:=by simpa using k
   rw[if_pos k]
   have:(Ct (AF D nm) p).2=12:=(nI (AF D nm) p).resolve_left k
   rw[this]
   exact wp_leaf rfl ⟨FB,rfl⟩
  ·have k:(Ct (AF D nm) p).2=0:=by simpa using k
   have hr:=q2 k
   obtain ⟨o1,o2⟩:=jx hr
   rw[if_neg (fun e=>e k)]
   refine Ac (Wc (by omega)) ?_
   rw[hr]
   refine Ac (jv (fun p hp=>by have:=o1 p hp; omega) (by simp only; omega)) (AC (fun m=>Aq (AC (fun s=>?_) (fun s=>?_))) (fun m=>?_))
   ·have m:=beq_iff_eq.1 m
    have s':((DF (Ct (AF D nm) p).1).1.length:Int)=0:=beq_iff_eq.1 s
    rw[if_neg (fun e=>e m),if_pos (List.eq_nil_of_length_eq_zero (by omega))]
    exact wp_leaf rfl ⟨FB,rfl⟩
   ·have m:=beq_iff_eq.1 m
    have s:=beq_eq_false_iff_ne.1 s
    rw[if_neg (fun e=>e m),if_neg (fun e=>by rw[e] at s; exact s rfl)]
    refine wp_leaf rfl ⟨?_,rfl⟩
    simp only[m]
    exact .refl _
   ·have m:=beq_eq_false_iff_ne.1 m
    rw[if_pos m]
    have:DF (Ct (AF D nm) p).1=([],12):=by
     unfold DF at m ⊢
     cases he:F1 (Ct (AF D nm) p).1 with
     | none=>rfl
     | some E=>rw[he] at m; exact absurd rfl m
    rw[this]
    exact wp_leaf rfl ⟨.refl _,rfl⟩)
theorem fW {B:List Box} {b l:Nat} {D:Dsk} {nm:ByteArray} {F:FileR} {i:Int} (ok:D.Ok) (hd:D.down=false) (hF:FOk F) (hb:B[b]? = some (BD D)) (hl:B[l]? = some (filC b nm F)):
  AX Nz [.ptr l 0 0,vi i] B (.tup [vl ((BV (AF D nm) F.idx i).1.map AB.f),vi (BV (AF D nm) F.idx i).2]) B:=
 Kf (R:=Nz) ⟨D,nm,F,i,ok,hd,hF,rfl,rfl,rfl,rfl⟩ hb hl (fun _ _=>rfl) (fun _=>rfl) rfl

def P1 (idx:List Par) (key:List UInt8) (m:Nat):Bool:= !decide (bl (idx.getD m ⟨⟨#[]⟩,⟨#[]⟩⟩).nl key)
def Gn (idx:List Par) (key:ByteArray):Int:=((FN (P1 idx key.data.toList) idx.length 0 idx.length:Nat):Int)
def Rg:Ae:=fun args B r B'=>∃ (D:Dsk) (nm:ByteArray) (F:FileR) (key:ByteArray) (i:Int),F.idx.length≤100000000∧(0≤i∧i<F.idx.length)∧args= [vi i, .ptr 2 0 0, .ptr 3 0 0]∧B= [BD D,filC 0 nm F, .cells false 0 [.ptr 1 0 0], .cells false 0 [vs key]]∧r=vb (P1 F.idx key.data.toList i.toNat)∧B'=B
def TH:Ae:=fun args B r B'=>∃ (D:Dsk) (nm:ByteArray) (F:FileR) (key:ByteArray),F.idx.length≤100000000∧args= [vi (F.idx.length:Int), .fn 57 [.ptr 2 0 0, .ptr 3 0 0]]∧B= [BD D,filC 0 nm F, .cells false 0 [.ptr 1 0 0], .cells false 0 [vs key]]∧r=vi (Gn F.idx key)∧B'=B
noncomputable def rU:CB:=CZ [(57,AX Rg)]
noncomputable def ΓM2:BF:=DG [(Ld,Ie)]
noncomputable def rV:CB:=CZ [(56,AX TH)]
abbrev Wz:Nat:=57
noncomputable abbrev W0:Func:=Tryd.f57
theorem nT:DP.funcs[Wz]? = some W0:=by kernel_rfl
theorem nU:Ak DP Wz=true:=by kernel_rfl
theorem nV:W0.body.isSome=true:=by kernel_rfl
theorem nW:W0.ntmps=15:=by kernel_rfl
abbrev TI:Nat:=56
noncomputable abbrev TJ:Func:=Tryd.f56
theorem jy:DP.funcs[TI]? = some TJ:=by kernel_rfl
theorem jz:Ak DP TI=true:=by kernel_rfl
theorem j8:TJ.body.isSome=true:=by kernel_rfl
theorem j9:TJ.ntmps=26:=by kernel_rfl
abbrev N1:Nat:=30
noncomputable abbrev W1:Func:=Tryd.f30
theorem Zl:DP.funcs[N1]? = some W1:=by kernel_rfl
theorem Zm:Ak DP N1=true:=by kernel_rfl
theorem Zn:W1.body.isSome=true:=by kernel_rfl
theorem Zo:W1.ntmps=18:=by kernel_rfl
noncomputable def W2 (i:Int) (D:Dsk) (nm:ByteArray) (F:FileR) (key:ByteArray):Tree:=
.elem 10 (F.idx.map AK.f) AK F.idx i (fun e1=> .leaf ⟨[0],[(0,0,none),(1,0,none),(2,0,none),(3,0,none)]⟩ [] .ret (some ([(0,vb (!(Op.bytesLess e1.name.toList key.toList)))],[.obj [] (AH D), .cells false 0 ([.op 0,vs nm,vl (F.idx.map AK.f),vl (F.bits.map AA.f),vi F.cnt,vs F.low,vs F.high]), .cells false 0 ([.ptr 1 0 0]), .cells false 0 ([vs key])])))

theorem cQ (i:Int) (D:Dsk) (nm:ByteArray) (F:FileR) (key:ByteArray):Av DP Γ0 Δ0 Tryd.f57 [vi i, .ptr 2 0 0, .ptr 3 0 0] [.obj [] (AH D), .cells false 0 ([.op 0,vs nm,vl (F.idx.map AK.f),vl (F.bits.map AA.f),vi F.cnt,vs F.low,vs F.high]), .cells false 0 ([.ptr 1 0 0]), .cells false 0 ([vs key])] (W2 i D nm F key)=W2 i D nm F key:=by kernel_rfl

noncomputable def Eq (D:Dsk) (nm:ByteArray) (F:FileR) (key:ByteArray) (s1:Int×Int):St:=([(1, .fn 57 [.ptr 2 0 0, .ptr 3 0 0]),(5,vi s1.1),(6,vi s1.2)],[.obj [] (AH D), .cells false 0 ([.op 0,vs nm,vl (F.idx.map AK.f),vl (F.bits.map AA.f),vi F.cnt,vs F.low,vs F.high]), .cells false 0 ([.ptr 1 0 0]), .cells false 0 ([vs key])])
noncomputable def HH (D:Dsk) (nm:ByteArray) (F:FileR) (key:ByteArray) (x1:Int):AE×St:=((.exit 0),([(5,vi x1)],[.obj [] (AH D), .cells false 0 ([.op 0,vs nm,vl (F.idx.map AK.f),vl (F.bits.map AA.f),vi F.cnt,vs F.low,vs F.high]), .cells false 0 ([.ptr 1 0 0]), .cells false 0 ([vs key])]))
noncomputable def Er (D:Dsk) (nm:ByteArray) (F:FileR) (key:ByteArray) (s1:Int×Int):Tree:=
.sp 11 (decide (s1.1<s1.2)) (
.int 14 (IntKind.i64.wrap (s1.1+s1.2)) (s1.1+s1.2) (.int 15 (IntKind.u64.wrap (s1.1+s1.2)) (s1.1+s1.2) (.int 16 (Int.fdiv (s1.1+s1.2) (2 ^ 1)) ((s1.1+s1.2) / 2) (.int 17 (IntKind.i64.wrap ((s1.1+s1.2) / 2)) ((s1.1+s1.2) / 2) (.callr (some 20) (rU 57 [vi ((s1.1+s1.2) / 2), .ptr 2 0 0, .ptr 3 0 0] [.obj [] (AH D), .cells false 0 ([.op 0,vs nm,vl (F.idx.map AK.f),vl (F.bits.map AA.f),vi F.cnt,vs F.low,vs F.high]), .cells false 0 ([.ptr 1 0 0]), .cells false 0 ([vs key])] (vb (P1 F.idx key.data.toList (Int.toNat ((s1.1+s1.2) / 2)))) [.obj [] (AH D), .cells false 0 ([.op 0,vs nm,vl (F.idx.map AK.f),vl (F.bits.map AA.f),vi F.cnt,vs F.low,vs F.high]), .cells false 0 ([.ptr 1 0 0]), .cells false 0 ([vs key])]) (vb (P1 F.idx key.data.toList (Int.toNat ((s1.1+s1.2) / 2)))) [.obj [] (AH D), .cells false 0 ([.op 0,vs nm,vl (F.idx.map AK.f),vl (F.bits.map AA.f),vi F.cnt,vs F.low,vs F.high]), .cells false 0 ([.ptr 1 0 0]), .cells false 0 ([vs key])] (.sp 20 (P1 F.idx key.data.toList (Int.toNat ((s1.1+s1.2) / 2))) (
.leaf ⟨[1,5,6],[(0,0,none),(1,0,none),(2,0,none),(3,0,none)]⟩ [] .normal (some (Eq D nm F key (s1.1,(s1.1+s1.2) / 2)))) (
.int 23 (IntKind.i64.wrap (((s1.1+s1.2) / 2)+1)) (((s1.1+s1.2) / 2)+1) (.leaf ⟨[1,5,6],[(0,0,none),(1,0,none),(2,0,none),(3,0,none)]⟩ [] .normal (some (Eq D nm F key (((s1.1+s1.2) / 2)+1,s1.2))))))))))) (
.leaf ⟨[5],[(0,0,none),(1,0,none),(2,0,none),(3,0,none)]⟩ [] (.exit 0) (some (HH D nm F key s1.1).2))
noncomputable def TK (n:Int) (D:Dsk) (nm:ByteArray) (F:FileR) (key:ByteArray):Tree:=
.loop ⟨[1,5,6],[(0,0,none),(1,0,none),(2,0,none),(3,0,none)]⟩ [] (some (Eq D nm F key (0,n))) (Eq D nm F key) (HH D nm F key) CN (0,n) (Er D nm F key) (fun (x1:Int)=> .leaf ⟨[0],[(0,0,none),(1,0,none),(2,0,none),(3,0,none)]⟩ [] .ret (some ([(0,vi x1)],[.obj [] (AH D), .cells false 0 ([.op 0,vs nm,vl (F.idx.map AK.f),vl (F.bits.map AA.f),vi F.cnt,vs F.low,vs F.high]), .cells false 0 ([.ptr 1 0 0]), .cells false 0 ([vs key])]))) (fun _=> .stuck)

theorem Yx (n:Int) (D:Dsk) (nm:ByteArray) (F:FileR) (key:ByteArray):Av DP Γ0 rU Tryd.f56 [vi n, .fn 57 [.ptr 2 0 0, .ptr 3 0 0]] [.obj [] (AH D), .cells false 0 ([.op 0,vs nm,vl (F.idx.map AK.f),vl (F.bits.map AA.f),vi F.cnt,vs F.low,vs F.high]), .cells false 0 ([.ptr 1 0 0]), .cells false 0 ([vs key])] (TK n D nm F key)=TK n D nm F key:=by kernel_rfl

noncomputable def W3 (D:Dsk) (nm:ByteArray) (F:FileR) (y:Ent):Tree:=
.call 10 (Ie [.agg [vs y.key,vn .u64 y.seq,vb false,vs y.val]]=some (vs (⟨(BC (⟨y.key,y.seq,false,y.val⟩:Ent)).toArray⟩:ByteArray))) (vs (⟨(BC (⟨y.key,y.seq,false,y.val⟩:Ent)).toArray⟩:ByteArray)) (.int 15 ((F.idx.map AK.f).length:Int) (F.idx.length:Int) (.callr (some 17) (rV 56 [vi (F.idx.length:Int), .fn 57 [.ptr 2 0 0, .ptr 4 0 0]] [.obj [] (AH D), .cells false 0 ([.op 0,vs nm,vl (F.idx.map AK.f),vl (F.bits.map AA.f),vi F.cnt,vs F.low,vs F.high]), .cells false 0 ([.ptr 1 0 0]), .cells false 0 ([vs y.key,vn .u64 y.seq,vb false,vs y.val]), .cells false 0 ([vs (⟨(BC (⟨y.key,y.seq,false,y.val⟩:Ent)).toArray⟩:ByteArray)])] (vi (Gn F.idx (⟨(BC (⟨y.key,y.seq,false,y.val⟩:Ent)).toArray⟩:ByteArray))) [.obj [] (AH D), .cells false 0 ([.op 0,vs nm,vl (F.idx.map AK.f),vl (F.bits.map AA.f),vi F.cnt,vs F.low,vs F.high]), .cells false 0 ([.ptr 1 0 0]), .cells false 0 ([vs y.key,vn .u64 y.seq,vb false,vs y.val]), .cells false 0 ([vs (⟨(BC (⟨y.key,y.seq,false,y.val⟩:Ent)).toArray⟩:ByteArray)])]) (vi (Gn F.idx (⟨(BC (⟨y.key,y.seq,false,y.val⟩:Ent)).toArray⟩:ByteArray))) [.obj [] (AH D), .cells false 0 ([.op 0,vs nm,vl (F.idx.map AK.f),vl (F.bits.map AA.f),vi F.cnt,vs F.low,vs F.high]), .cells false 0 ([.ptr 1 0 0]), .cells false 0 ([vs y.key,vn .u64 y.seq,vb false,vs y.val]), .cells false 0 ([vs (⟨(BC (⟨y.key,y.seq,false,y.val⟩:Ent)).toArray⟩:ByteArray)])] (.leaf ⟨[0],[(0,0,none),(1,0,none)]⟩ [] .ret (some ([(0,vi (Gn F.idx (⟨(BC (⟨y.key,y.seq,false,y.val⟩:Ent)).toArray⟩:ByteArray)))],[.obj [] (AH D), .cells false 0 ([.op 0,vs nm,vl (F.idx.map AK.f),vl (F.bits.map AA.f),vi F.cnt,vs F.low,vs F.high])])))))

theorem cR (D:Dsk) (nm:ByteArray) (F:FileR) (y:Ent):Av DP ΓM2 rV Tryd.f30 [.ptr 1 0 0,(AB.av y)] [.obj [] (AH D), .cells false 0 ([.op 0,vs nm,vl (F.idx.map AK.f),vl (F.bits.map AA.f),vi F.cnt,vs F.low,vs F.high])] (W3 D nm F y)=W3 D nm F y:=by kernel_rfl


theorem Ci {α:Type} {d:Nat} {E:Enc α} {L:List α} {i:Int} {k:α→Tree} {K:AE→St→Prop} (a:α) (h0:0≤i) (ha:L[i.toNat]? = some a) (h:(k a).wp K):(Tree.elem d (L.map E.f) E L i k).wp K:=⟨rfl,h0,a,ha,h⟩
theorem rW:SoundR DP Wz Rg:=Al AZ Γ0_ok Bq nT nU nV (by
 rintro args B r B' ⟨D,nm,F,key,i,hn,hi,rfl,rfl,rfl,rfl⟩
 refine ⟨by rw[nW]; rfl,_,cQ i D nm F key,?_⟩
 obtain ⟨p,hp⟩:∃ p,F.idx[i.toNat]? = some p:=⟨_,List.getElem?_eq_getElem (by omega)⟩
 have e:P1 F.idx key.data.toList i.toNat= !(Op.bytesLess p.name.toList key.toList):=by
  unfold P1
  rw[List.getD_eq_getElem?_getD,hp,ByteArray.toList_eq,ByteArray.toList_eq]
  show (!decide (Op.bytesLess p.name.data.toList key.data.toList=true))=_
  cases Op.bytesLess p.name.data.toList key.data.toList <;> rfl
 unfold W2
 refine Ci p hi.1 hp (wp_leaf rfl ?_)
 rw[e]
 exact ⟨rfl,rfl⟩)
theorem lb {n:Nat} {a b c d:Box} (h1:AV.low.allLow n a.cs=true) (h2:AV.low.allLow n b.cs=true) (h3:AV.low.allLow n c.cs=true) (h4:AV.low.allLow n d.cs=true):NQ n [a,b,c,d]:=fun z hz=>by
 simp only[List.mem_cons,List.mem_nil_iff,or_false] at hz
 rcases hz with rfl | rfl | rfl | rfl <;> assumption
theorem rX:∀ f,SoundR DP f (rU f):=AY (AU rW) BJ
section
variable {D : Dsk} {nm : ByteArray} {F : FileR} {key : ByteArray}
theorem rY {i:Int} (hn:F.idx.length≤100000000) (hi:0≤i∧i<F.idx.length):
  AX Rg [vi i, .ptr 2 0 0, .ptr 3 0 0] [BD D,filC 0 nm F, .cells false 0 [.ptr 1 0 0], .cells false 0 [vs key]] (vb (P1 F.idx key.data.toList i.toNat)) [BD D,filC 0 nm F, .cells false 0 [.ptr 1 0 0], .cells false 0 [vs key]]:=
 EQ (R:=Rg) ⟨D,nm,F,key,i,hn,hi,rfl,rfl,rfl,rfl⟩ rfl rfl (lb rfl rfl rfl rfl) (lb rfl rfl rfl rfl) rfl []
theorem Ub (hn:F.idx.length≤100000000):∀ (f i j:Nat),j≤i+f→i≤j→j≤F.idx.length→Rounds (Eq D nm F key) (HH D nm F key) CN (fun s=>(Er D nm F key s).wp) ((i:Int),(j:Int)) (.inl ((FN (P1 F.idx key.data.toList) f i j:Nat):Int)):=by
 have stop:∀ i j:Nat,¬i<j→Rounds (Eq D nm F key) (HH D nm F key) CN (fun s=>(Er D nm F key s).wp) ((i:Int),(j:Int)) (.inl (i:Int)):=fun i j h=>by
  refine .done (by intro e; cases e) ?_
  unfold Er
  exact AC (fun h'=>absurd (of_decide_eq_true h') (by simp only; omega)) (fun _=>wp_leaf rfl ⟨rfl,rfl⟩)
 intro f
 induction f with
 | zero=>
  intro i j h1 h2 h3
  rw[FN]
  exact stop i j (by omega)
 | succ f ih=>
  intro i j h1 h2 h3
  rw[FN]
  by_cases hij:i<j
  ·rw[if_pos hij]
   have em:((i:Int)+(j:Int)) / 2=(((i+j) / 2:Nat):Int):=by omega
   have hc:=rY (D:=D) (nm:=nm) (F:=F) (key:=key) (i:=(((i+j) / 2:Nat):Int)) hn (by omega)
   rw[Int.toNat_natCast] at hc
   by_cases hp:P1 F.idx key.data.toList ((i+j) / 2)=true
   ·rw[if_pos hp]
    refine .next ?_ (ih i ((i+j) / 2) (by omega) (by omega) (by omega))
    unfold Er
    dsimp only
    rw[em]
    simp only[Int.toNat_natCast]
    refine AC (fun _=>AP (by omega) (Ej (by omega) (Ai ?_ (AP (by omega) (AM hc (AC (fun _=>wp_leaf rfl ⟨rfl,rfl⟩) (fun q=>absurd hp (by rw[q]; decide)))))))) (fun h'=>absurd (of_decide_eq_false h') (by omega))
    rw[←em]; exact KN 2 (by decide)
   ·rw[if_neg hp]
    have hr:=ih ((i+j) / 2+1) j (by omega) (by omega) (by omega)
    rw[show (((i+j) / 2+1:Nat):Int)=(((i+j) / 2:Nat):Int)+1 by omega] at hr
    refine .next ?_ hr
    unfold Er
    dsimp only
    rw[em]
    simp only[Int.toNat_natCast]
    refine AC (fun _=>AP (by omega) (Ej (by omega) (Ai ?_ (AP (by omega) (AM hc (AC (fun q=>absurd q hp) (fun _=>AP (by omega) (wp_leaf rfl ⟨rfl,rfl⟩)))))))) (fun h'=>absurd (of_decide_eq_false h') (by omega))
    rw[←em]; exact KN 2 (by decide)
  ·rw[if_neg hij]
   exact stop i j hij
end
theorem nX:SoundR DP TI TH:=Al AZ Γ0_ok rX jy jz j8 (by
 rintro args B r B' ⟨D,nm,F,key,hn,rfl,rfl,rfl,rfl⟩
 refine ⟨by rw[j9]; rfl,_,Yx (F.idx.length:Int) D nm F key,?_⟩
 have hr:=Ub (D:=D) (nm:=nm) (F:=F) (key:=key) hn F.idx.length 0 F.idx.length (by omega) (by omega) (Nat.le_refl _)
 unfold TK
 exact BH _ rfl hr (wp_leaf rfl ⟨rfl,rfl⟩))
theorem ΓM2_ok:∀ f,SoundF DP f (ΓM2 f):=An WR Bu
theorem rZ:∀ f,SoundR DP f (rV f):=AY (AU nX) BJ
def fX:Ae:=fun args B r B'=>∃ (D:Dsk) (nm:ByteArray) (F:FileR) (y:Ent),F.idx.length≤100000000∧HE y∧args= [.ptr 1 0 0,AB.av y]∧B= [BD D,filC 0 nm F]∧r=vi ((BQ F.idx y:Nat):Int)∧B'=B
theorem nY {D:Dsk} {nm:ByteArray} {F:FileR} {key:ByteArray} {x:Box} (hn:F.idx.length≤100000000):
  AX TH [vi (F.idx.length:Int), .fn 57 [.ptr 2 0 0, .ptr 4 0 0]] [BD D,filC 0 nm F, .cells false 0 [.ptr 1 0 0],x, .cells false 0 [vs key]] (vi (Gn F.idx key)) [BD D,filC 0 nm F, .cells false 0 [.ptr 1 0 0],x, .cells false 0 [vs key]]:=by
 refine ⟨_,_,_,_,⟨D,nm,F,key,hn,rfl,rfl,rfl,rfl⟩,⟨[0,1,2,4],[0,0,0,0],[BD D,filC 0 nm F, .cells false 0 [.ptr 1 0 0], .cells false 0 [vs key]],[BD D,filC 0 nm F, .cells false 0 [.ptr 1 0 0], .cells false 0 [vs key]],[],?_,?_,?_,?_,⟨.objs rfl rfl, .cells ?_ ?_ rfl, .cells ?_ ?_ rfl, .cells ?_ ?_ rfl,trivial⟩,⟨.objs rfl rfl, .cells ?_ ?_ rfl, .cells ?_ ?_ rfl, .cells ?_ ?_ rfl,trivial⟩,?_,rfl,rfl⟩⟩
 ·rfl
 ·simp
 ·simp[AV.rv.rvL,AV.rv,Bc,BM]
 ·rfl
 all_goals first
  | (simp[BM]; done)
  | (simp[AV.rv.rvL,AV.rv,Bc,BM]; done)
  | (simp[Bh]; done)
theorem ra:SoundR DP N1 fX:=Al AZ ΓM2_ok rZ Zl Zm Zn (by
 rintro args B r B' ⟨D,nm,F,y,hn,hy,rfl,rfl,rfl,rfl⟩
 refine ⟨by rw[Zo]; rfl,_,cR D nm F y,?_⟩
 have hi:=Nm (KZ y) hy.1 hy.2
 have e:Gn F.idx (⟨(BC (KZ y)).toArray⟩:ByteArray)=((BQ F.idx y:Nat):Int):=by
  unfold Gn
  rw[show (⟨(BC (KZ y)).toArray⟩:ByteArray).data.toList=BC (KZ y) by simp]
  rfl
 unfold W3
 refine Ac hi (Aq (AM (nY hn) (wp_leaf rfl ?_)))
 have e':Gn F.idx (⟨(BC (⟨y.key,y.seq,false,y.val⟩:Ent)).toArray⟩:ByteArray)=((BQ F.idx y:Nat):Int):=e
 rw[e']
 exact ⟨rfl,rfl⟩)

abbrev PI:Nat:=54
noncomputable abbrev TL:Func:=Tryd.f54
theorem kA:DP.funcs[PI]? = some TL:=by kernel_rfl
theorem kB:Ak DP PI=true:=by kernel_rfl
theorem kC:TL.body.isSome=true:=by kernel_rfl
theorem W4:TL.ntmps=10:=by kernel_rfl
noncomputable def Zp (D:Dsk) (nm:ByteArray) (F:FileR):Tree:=
.int 9 ((F.idx.map AK.f).length:Int) (F.idx.length:Int) (.leaf ⟨[0],[(0,0,none),(1,0,none)]⟩ [] .ret (some ([(0,vi (F.idx.length:Int))],[.obj [] (AH D), .cells false 0 ([.op 0,vs nm,vl (F.idx.map AK.f),vl (F.bits.map AA.f),vi F.cnt,vs F.low,vs F.high])])))

theorem Yy (D:Dsk) (nm:ByteArray) (F:FileR):Av DP Γ0 Δ0 Tryd.f54 [.ptr 1 0 0] [.obj [] (AH D), .cells false 0 ([.op 0,vs nm,vl (F.idx.map AK.f),vl (F.bits.map AA.f),vi F.cnt,vs F.low,vs F.high])] (Zp D nm F)=Zp D nm F:=by kernel_rfl

noncomputable def Zq:Tree:=
.leaf ⟨[0],[]⟩ [] .ret (some ([(0,vi 0)],[]))

theorem Yz:Av DP Γ0 Δ0 Tryd.f54 [.p (.v (.pointer none))] [] (Zq)=Zq:=by kernel_rfl

noncomputable def fY (y:Ent):Tree:=
.leaf ⟨[0],[]⟩ [] .ret (some ([(0,vi 0)],[]))

theorem cS (y:Ent):Av DP Γ0 Δ0 Tryd.f30 [.p (.v (.pointer none)),(AB.av y)] [] (fY y)=fY y:=by kernel_rfl


abbrev nilQ:AV:= .p (.v (.pointer none))
theorem fZ {R:Ae} {al:List AV} {B:List Box} {y:AV} (hR:R al [] y []) (h1:∀ f d,AV.rv.rvL f d al=al) (h2:∀ n,AV.low.allLow n al=true) (hy:y.low 0=true):AX R al B y B:=by
 refine ⟨_,_,_,_,hR,⟨[],[],[],[],[],rfl,rfl,(h1 _ _).symm,h2 _,trivial,trivial,?_,(Ny hy _ _).symm,HV hy⟩⟩
 simp[Bh]
section
variable {B : List Box} {b l : Nat} {D : Dsk} {nm : ByteArray} {F : FileR} {k : ByteArray} {seq : Int}
end

noncomputable def ΓO1:BF:=DG [(JV,El),(RR,O8),(RS,O9),(PC,PE),(Nl,Le)]
noncomputable def W5:CB:=CZ [(Uq,AX U1),(Rc,AX Re),(Nx,AX Nz)]
noncomputable def ΓO2:BF:=DG [(RV,RZ)]
noncomputable def W6:CB:=CZ [(Us,AX U3),(Ur,AX U4),(Og,AX Om),(Oh,Oy Ow),(Uo,AX U0)]

abbrev N2:Nat:=22
noncomputable abbrev W7:Func:=Tryd.f22
theorem nZ:DP.funcs[N2]? = some W7:=by kernel_rfl
theorem na:Ak DP N2=true:=by kernel_rfl
theorem nb:W7.body.isSome=true:=by kernel_rfl
theorem nc:W7.ntmps=161:=by kernel_rfl
abbrev Lg:Nat:=21
noncomputable abbrev TM:Func:=Tryd.f21
theorem kD:DP.funcs[Lg]? = some TM:=by kernel_rfl
theorem kE:Ak DP Lg=true:=by kernel_rfl
theorem kF:TM.body.isSome=true:=by kernel_rfl
theorem kG:TM.ntmps=47:=by kernel_rfl

noncomputable def IF (D:Dsk) (nm:ByteArray) (s2:(List Int)×Int):St:=([(0, .op 0),(1,vs nm),(8,vl (((getF (AF D nm) (((BY D nm).1) - 52) 52).1).map AA.f)),(9, .ptr 1 0 0),(41,vi s2.2)],[.obj [] (AH D), .cells false 0 (rowC (s2.1.map Aa.f))])
noncomputable def LD (D:Dsk) (x2:Unit):AE×St:=(.ret,([(4, .p (.v (.pointer none))),(5,vi 12)],[.obj [] (AH D)]))
noncomputable def J0 (D:Dsk) (nm:ByteArray) (y2:(List Int)):AE×St:=((.exit 0),([(0, .op 0),(1,vs nm),(9, .ptr 1 0 0)],[.obj [] (AH D), .cells false 0 (rowC (y2.map Aa.f))]))
noncomputable def GK (D:Dsk) (nm:ByteArray) (s2:(List Int)×Int):Tree:=
.sp 42 (decide (s2.2<(5:Int))) (
.int 46 (IntKind.i64.wrap (8*s2.2)) (8*s2.2) (.int 48 (IntKind.i64.wrap (8*s2.2)) (8*s2.2) (.int 49 (IntKind.i64.wrap ((8*s2.2)+8)) ((8*s2.2)+8) (.cut 50 (((getF (AF D nm) (((BY D nm).1) - 52) 52).1).map AA.f) (some (8*s2.2)) (some ((8*s2.2)+8)) AA ((getF (AF D nm) (((BY D nm).1) - 52) 52).1) (.call 51 (El [vl ((cutL (some (8*s2.2)) (some ((8*s2.2)+8)) ((getF (AF D nm) (((BY D nm).1) - 52) 52).1)).map AA.f)]=some (vn .u64 (AO (cutL (some (8*s2.2)) (some ((8*s2.2)+8)) ((getF (AF D nm) (((BY D nm).1) - 52) 52).1))))) (vn .u64 (AO (cutL (some (8*s2.2)) (some ((8*s2.2)+8)) ((getF (AF D nm) (((BY D nm).1) - 52) 52).1)))) (.sp 53 (decide ((AO (cutL (some (8*s2.2)) (some ((8*s2.2)+8)) ((getF (AF D nm) (((BY D nm).1) - 52) 52).1)))>(67108864:Int))) (
.leaf ⟨[4,5],[(0,0,none)]⟩ [] .ret (some (LD D ()).2)) (
.int 56 (IntKind.i64.wrap ((AO (cutL (some (8*s2.2)) (some ((8*s2.2)+8)) ((getF (AF D nm) (((BY D nm).1) - 52) 52).1))))) ((AO (cutL (some (8*s2.2)) (some ((8*s2.2)+8)) ((getF (AF D nm) (((BY D nm).1) - 52) 52).1)))) (.pidx 57 5 s2.2 (.rstore none (rowC (s2.1.map Aa.f)) (0+Int.toNat s2.2*1) [vi (AO (cutL (some (8*s2.2)) (some ((8*s2.2)+8)) ((getF (AF D nm) (((BY D nm).1) - 52) 52).1)))] Aa s2.1 s2.2 (AO (cutL (some (8*s2.2)) (some ((8*s2.2)+8)) ((getF (AF D nm) (((BY D nm).1) - 52) 52).1))) (.int 58 (IntKind.i64.wrap (s2.2+1)) (s2.2+1) (.leaf ⟨[0,1,8,9,41],[(0,0,none),(1,0,some ((s2.1.set (Int.toNat s2.2) (AO (cutL (some (8*s2.2)) (some ((8*s2.2)+8)) ((getF (AF D nm) (((BY D nm).1) - 52) 52).1)))).map Aa.f))]⟩ [rowC ((s2.1.set (Int.toNat s2.2) (AO (cutL (some (8*s2.2)) (some ((8*s2.2)+8)) ((getF (AF D nm) (((BY D nm).1) - 52) 52).1)))).map Aa.f)] .normal (some (IF D nm (s2.1.set (Int.toNat s2.2) (AO (cutL (some (8*s2.2)) (some ((8*s2.2)+8)) ((getF (AF D nm) (((BY D nm).1) - 52) 52).1))),s2.2+1)))))))))))))) (
.leaf ⟨[0,1,9],[(0,0,none),(1,0,some (s2.1.map Aa.f))]⟩ [rowC (s2.1.map Aa.f)] (.exit 0) (some (J0 D nm s2.1).2))
noncomputable def IG (D:Dsk) (nm:ByteArray) (e1:Int) (e4:Int) (e5:Int) (e6:Par) (j3:(List Par)×ByteArray):St:=([(12, .ptr 1 0 0)],[.obj [] (AH D), .cells false 0 ([.op 0,vs nm,vl (j3.1.map AK.f),vl (((Ey ((getF (AF D nm) e4 e5).1)).1).map AA.f),vi e1,vs j3.2,vs (((BG e6.name.data.toList).1).key)])])
noncomputable def N3 (D:Dsk) (nm:ByteArray) (e1:Int) (e4:Int) (e5:Int) (e6:Par) (j3:(List Par)×ByteArray):Tree:=
.leaf ⟨[0],[(0,0,none),(1,0,none)]⟩ [] .ret (some ([(0, .tup [.ptr 1 0 0,vi 0])],[.obj [] (AH D), .cells false 0 ([.op 0,vs nm,vl (j3.1.map AK.f),vl (((Ey ((getF (AF D nm) e4 e5).1)).1).map AA.f),vi e1,vs j3.2,vs (((BG e6.name.data.toList).1).key)])]))
noncomputable def W8 (D:Dsk) (nm:ByteArray):Tree:=
.callr (some 20) (W5 39 [.op 0,vs nm] [.obj [] (AH D)] (.tup [vi ((BY D nm).1),vi ((BY D nm).2)]) [.obj [] (AH D)]) (.tup [vi ((BY D nm).1),vi ((BY D nm).2)]) [.obj [] (AH D)] (.sp 24 (((BY D nm).2) != (0:Int)) (
.leaf ⟨[0],[(0,0,none)]⟩ [] .ret (some ([(0, .tup [.p (.v (.pointer none)),vi ((BY D nm).2)])],[.obj [] (AH D)]))) (
.int 30 (IntKind.i64.wrap (((BY D nm).1) - 52)) (((BY D nm).1) - 52) (.callr (some 32) (W5 40 [.op 0,vs nm, .agg [vi (((BY D nm).1) - 52),vi 52]] [.obj [] (AH D)] (.tup [vl (((getF (AF D nm) (((BY D nm).1) - 52) 52).1).map AA.f),vi ((getF (AF D nm) (((BY D nm).1) - 52) 52).2)]) [.obj [] (AH D)]) (.tup [vl (((getF (AF D nm) (((BY D nm).1) - 52) 52).1).map AA.f),vi ((getF (AF D nm) (((BY D nm).1) - 52) 52).2)]) [.obj [] (AH D)] (.sp 36 (((getF (AF D nm) (((BY D nm).1) - 52) 52).2) != (0:Int)) (
.leaf ⟨[0],[(0,0,none)]⟩ [] .ret (some ([(0, .tup [.p (.v (.pointer none)),vi ((getF (AF D nm) (((BY D nm).1) - 52) 52).2)])],[.obj [] (AH D)]))) (
.int 39 ((((getF (AF D nm) (((BY D nm).1) - 52) 52).1).map AA.f).length:Int) (((getF (AF D nm) (((BY D nm).1) - 52) 52).1).length:Int) (.sp 40 ((((getF (AF D nm) (((BY D nm).1) - 52) 52).1).length:Int) != (40:Int)) (
.leaf ⟨[0],[(0,0,none)]⟩ [] .ret (some ([(0, .tup [.p (.v (.pointer none)),vi 12])],[.obj [] (AH D)]))) (
.loop ⟨[0,1,8,9,41],[(0,0,none),(1,0,none)]⟩ [] (some (IF D nm ([0,0,0,0,0],0))) (IF D nm) (LD D) (J0 D nm) ([0,0,0,0,0],0) (GK D nm) (fun (x2:Unit)=> .leaf ⟨[0],[(0,0,none)]⟩ [] .ret (some ([(0, .tup [.p (.v (.pointer none)),vi 12])],[.obj [] (AH D)]))) (fun (y2:(List Int))=> .pidx 61 5 4 (.rload 62 (rowC (y2.map Aa.f)) (0+Int.toNat 4*1) Aa y2 4 0 (fun e1=> .pidx 68 5 0 (.rload 69 (rowC (y2.map Aa.f)) (0+Int.toNat 0*1) Aa y2 0 0 (fun e2=> .pidx 70 5 1 (.rload 71 (rowC (y2.map Aa.f)) (0+Int.toNat 1*1) Aa y2 1 0 (fun e3=> .callr (some 73) (W5 40 [.op 0,vs nm, .agg [vi e2,vi e3]] [.obj [] (AH D), .cells false 0 (rowC (y2.map Aa.f)), .cells false 0 ([.op 0,vs nm,AI,AI,vi e1,vs (⟨#[]⟩),vs (⟨#[]⟩)])] (.tup [vl (((getF (AF D nm) e2 e3).1).map AA.f),vi ((getF (AF D nm) e2 e3).2)]) [.obj [] (AH D), .cells false 0 (rowC (y2.map Aa.f)), .cells false 0 ([.op 0,vs nm,AI,AI,vi e1,vs (⟨#[]⟩),vs (⟨#[]⟩)])]) (.tup [vl (((getF (AF D nm) e2 e3).1).map AA.f),vi ((getF (AF D nm) e2 e3).2)]) [.obj [] (AH D), .cells false 0 (rowC (y2.map Aa.f)), .cells false 0 ([.op 0,vs nm,AI,AI,vi e1,vs (⟨#[]⟩),vs (⟨#[]⟩)])] (.sp 77 (((getF (AF D nm) e2 e3).2) != (0:Int)) (
.leaf ⟨[0],[(0,0,none)]⟩ [] .ret (some ([(0, .tup [.p (.v (.pointer none)),vi ((getF (AF D nm) e2 e3).2)])],[.obj [] (AH D)]))) (
.call 81 (O8 [vl (((getF (AF D nm) e2 e3).1).map AA.f)]=some (.tup [.agg [vl ((CV ((getF (AF D nm) e2 e3).1)).map AA.f),vl ((HG ((getF (AF D nm) e2 e3).1)).map Aa.f)],vi (Gk ((getF (AF D nm) e2 e3).1))])) (.tup [.agg [vl ((CV ((getF (AF D nm) e2 e3).1)).map AA.f),vl ((HG ((getF (AF D nm) e2 e3).1)).map Aa.f)],vi (Gk ((getF (AF D nm) e2 e3).1))]) (.sp 85 ((Gk ((getF (AF D nm) e2 e3).1)) != (0:Int)) (
.leaf ⟨[0],[(0,0,none)]⟩ [] .ret (some ([(0, .tup [.p (.v (.pointer none)),vi 12])],[.obj [] (AH D)]))) (
.call 88 (O9 [.agg [vl ((CV ((getF (AF D nm) e2 e3).1)).map AA.f),vl ((HG ((getF (AF D nm) e2 e3).1)).map Aa.f)]]=some (vl (((Ar (CV ((getF (AF D nm) e2 e3).1))).1).map AK.f))) (vl (((Ar (CV ((getF (AF D nm) e2 e3).1))).1).map AK.f)) (.int 95 ((((Ar (CV ((getF (AF D nm) e2 e3).1))).1).map AK.f).length:Int) (((Ar (CV ((getF (AF D nm) e2 e3).1))).1).length:Int) (.sp 96 ((((Ar (CV ((getF (AF D nm) e2 e3).1))).1).length:Int) == (0:Int)) (
.leaf ⟨[0],[(0,0,none)]⟩ [] .ret (some ([(0, .tup [.p (.v (.pointer none)),vi 12])],[.obj [] (AH D)]))) (
.pidx 100 5 2 (.rload 101 (rowC (y2.map Aa.f)) (0+Int.toNat 2*1) Aa y2 2 0 (fun e4=> .pidx 102 5 3 (.rload 103 (rowC (y2.map Aa.f)) (0+Int.toNat 3*1) Aa y2 3 0 (fun e5=> .callr (some 105) (W5 40 [.op 0,vs nm, .agg [vi e4,vi e5]] [.obj [] (AH D), .cells false 0 (rowC (y2.map Aa.f)), .cells false 0 ([.op 0,vs nm,vl (((Ar (CV ((getF (AF D nm) e2 e3).1))).1).map AK.f),AI,vi e1,vs (⟨#[]⟩),vs (⟨#[]⟩)]), .cells false 0 ([vl ((CV ((getF (AF D nm) e2 e3).1)).map AA.f),vl ((HG ((getF (AF D nm) e2 e3).1)).map Aa.f)])] (.tup [vl (((getF (AF D nm) e4 e5).1).map AA.f),vi ((getF (AF D nm) e4 e5).2)]) [.obj [] (AH D), .cells false 0 (rowC (y2.map Aa.f)), .cells false 0 ([.op 0,vs nm,vl (((Ar (CV ((getF (AF D nm) e2 e3).1))).1).map AK.f),AI,vi e1,vs (⟨#[]⟩),vs (⟨#[]⟩)]), .cells false 0 ([vl ((CV ((getF (AF D nm) e2 e3).1)).map AA.f),vl ((HG ((getF (AF D nm) e2 e3).1)).map Aa.f)])]) (.tup [vl (((getF (AF D nm) e4 e5).1).map AA.f),vi ((getF (AF D nm) e4 e5).2)]) [.obj [] (AH D), .cells false 0 (rowC (y2.map Aa.f)), .cells false 0 ([.op 0,vs nm,vl (((Ar (CV ((getF (AF D nm) e2 e3).1))).1).map AK.f),AI,vi e1,vs (⟨#[]⟩),vs (⟨#[]⟩)]), .cells false 0 ([vl ((CV ((getF (AF D nm) e2 e3).1)).map AA.f),vl ((HG ((getF (AF D nm) e2 e3).1)).map Aa.f)])] (.sp 109 (((getF (AF D nm) e4 e5).2) != (0:Int)) (
.leaf ⟨[0],[(0,0,none)]⟩ [] .ret (some ([(0, .tup [.p (.v (.pointer none)),vi ((getF (AF D nm) e4 e5).2)])],[.obj [] (AH D)]))) (
.call 114 (PE [vl (((getF (AF D nm) e4 e5).1).map AA.f)]=some (.tup [.agg [vl (((Ey ((getF (AF D nm) e4 e5).1)).1).map AA.f)],vi ((Ey ((getF (AF D nm) e4 e5).1)).2)])) (.tup [.agg [vl (((Ey ((getF (AF D nm) e4 e5).1)).1).map AA.f)],vi ((Ey ((getF (AF D nm) e4 e5).1)).2)]) (.sp 120 (((Ey ((getF (AF D nm) e4 e5).1)).2) != (0:Int)) (
.leaf ⟨[0],[(0,0,none)]⟩ [] .ret (some ([(0, .tup [.p (.v (.pointer none)),vi 12])],[.obj [] (AH D)]))) (
.callr (some 123) (W5 45 [.ptr 2 0 0,vi 0] [.obj [] (AH D), .cells false 0 (rowC (y2.map Aa.f)), .cells false 0 ([.op 0,vs nm,vl (((Ar (CV ((getF (AF D nm) e2 e3).1))).1).map AK.f),vl (((Ey ((getF (AF D nm) e4 e5).1)).1).map AA.f),vi e1,vs (⟨#[]⟩),vs (⟨#[]⟩)]), .cells false 0 ([vl ((CV ((getF (AF D nm) e2 e3).1)).map AA.f),vl ((HG ((getF (AF D nm) e2 e3).1)).map Aa.f)])] (.tup [vl (((BV (AF D nm) ((Ar (CV ((getF (AF D nm) e2 e3).1))).1) 0).1).map AB.f),vi ((BV (AF D nm) ((Ar (CV ((getF (AF D nm) e2 e3).1))).1) 0).2)]) [.obj [] (AH D), .cells false 0 (rowC (y2.map Aa.f)), .cells false 0 ([.op 0,vs nm,vl (((Ar (CV ((getF (AF D nm) e2 e3).1))).1).map AK.f),vl (((Ey ((getF (AF D nm) e4 e5).1)).1).map AA.f),vi e1,vs (⟨#[]⟩),vs (⟨#[]⟩)]), .cells false 0 ([vl ((CV ((getF (AF D nm) e2 e3).1)).map AA.f),vl ((HG ((getF (AF D nm) e2 e3).1)).map Aa.f)])]) (.tup [vl (((BV (AF D nm) ((Ar (CV ((getF (AF D nm) e2 e3).1))).1) 0).1).map AB.f),vi ((BV (AF D nm) ((Ar (CV ((getF (AF D nm) e2 e3).1))).1) 0).2)]) [.obj [] (AH D), .cells false 0 (rowC (y2.map Aa.f)), .cells false 0 ([.op 0,vs nm,vl (((Ar (CV ((getF (AF D nm) e2 e3).1))).1).map AK.f),vl (((Ey ((getF (AF D nm) e4 e5).1)).1).map AA.f),vi e1,vs (⟨#[]⟩),vs (⟨#[]⟩)]), .cells false 0 ([vl ((CV ((getF (AF D nm) e2 e3).1)).map AA.f),vl ((HG ((getF (AF D nm) e2 e3).1)).map Aa.f)])] (.sp 127 (((BV (AF D nm) ((Ar (CV ((getF (AF D nm) e2 e3).1))).1) 0).2) != (0:Int)) (
.leaf ⟨[0],[(0,0,none)]⟩ [] .ret (some ([(0, .tup [.p (.v (.pointer none)),vi ((BV (AF D nm) ((Ar (CV ((getF (AF D nm) e2 e3).1))).1) 0).2)])],[.obj [] (AH D)]))) (
.int 138 ((((Ar (CV ((getF (AF D nm) e2 e3).1))).1).map AK.f).length:Int) (((Ar (CV ((getF (AF D nm) e2 e3).1))).1).length:Int) (.int 139 (IntKind.i64.wrap ((((Ar (CV ((getF (AF D nm) e2 e3).1))).1).length:Int) - 1)) ((((Ar (CV ((getF (AF D nm) e2 e3).1))).1).length:Int) - 1) (.elem 140 (((Ar (CV ((getF (AF D nm) e2 e3).1))).1).map AK.f) AK ((Ar (CV ((getF (AF D nm) e2 e3).1))).1) ((((Ar (CV ((getF (AF D nm) e2 e3).1))).1).length:Int) - 1) (fun e6=> .call 143 (Le [vs e6.name]=some (.tup [(AB.av ((BG e6.name.data.toList).1)),vi ((BG e6.name.data.toList).2)])) (.tup [(AB.av ((BG e6.name.data.toList).1)),vi ((BG e6.name.data.toList).2)]) (.sp 147 (((BG e6.name.data.toList).2) != (0:Int)) (
.leaf ⟨[0],[(0,0,none)]⟩ [] .ret (some ([(0, .tup [.p (.v (.pointer none)),vi 12])],[.obj [] (AH D)]))) (
.any (.elem 151 (((BV (AF D nm) ((Ar (CV ((getF (AF D nm) e2 e3).1))).1) 0).1).map AB.f) AB ((BV (AF D nm) ((Ar (CV ((getF (AF D nm) e2 e3).1))).1) 0).1) 0 (fun e7=> .fork (
.join ⟨[12],[(0,0,none),(2,0,none)]⟩ [] (some (IG D nm e1 e4 e5 e6 ((Ar (CV ((getF (AF D nm) e2 e3).1))).1,e7.key))) (IG D nm e1 e4 e5 e6) ((Ar (CV ((getF (AF D nm) e2 e3).1))).1,e7.key) (N3 D nm e1 e4 e5 e6)) (
.join ⟨[12],[(0,0,none),(2,0,none)]⟩ [] (some (IG D nm e1 e4 e5 e6 ((Ar (CV ((getF (AF D nm) e2 e3).1))).1,e7.key))) (IG D nm e1 e4 e5 e6) ((Ar (CV ((getF (AF D nm) e2 e3).1))).1,e7.key) (N3 D nm e1 e4 e5 e6))))))))))))))))))))))))))))))))))))))))

theorem cT (D:Dsk) (nm:ByteArray):Av DP ΓO1 W5 Tryd.f22 [.op 0,vs nm] [.obj [] (AH D)] (W8 D nm)=W8 D nm:=by kernel_rfl

noncomputable def TN (D:Dsk) (nm:ByteArray) (L:List Ent):Tree:=
.call 14 (RZ [vl (L.map AB.f)]=some (.tup [vl ((As L).map AA.f),vi 0])) (.tup [vl ((As L).map AA.f),vi 0]) (.callr (some 23) (W6 34 [.op 0] [.obj [] (AH D)] (vb ((D).down)) [.obj [] (AH D)]) (vb ((D).down)) [.obj [] (AH D)] (.sp 23 ((D).down) (
.leaf ⟨[0],[(0,0,none)]⟩ [] .ret (some ([(0, .tup [vi 0,vi 10])],[.obj [] (AH D)]))) (
.int 25 (((As L).map AA.f).length:Int) ((As L).length:Int) (.callr (some 27) (W6 35 [.op 0] [.obj [] (AH D)] (vi ((D).room - (D).used)) [.obj [] (AH D)]) (vi ((D).room - (D).used)) [.obj [] (AH D)] (.sp 28 (decide (((As L).length:Int)>((D).room - (D).used))) (
.leaf ⟨[0],[(0,0,none)]⟩ [] .ret (some ([(0, .tup [vi 0,vi 11])],[.obj [] (AH D)]))) (
.callr (some 31) (W6 36 [.op 0,vs nm] [.obj [] (AH D)] (vi ((Ay D nm).2)) [.obj [] (AH ((Ay D nm).1))]) (vi ((Ay D nm).2)) [.obj [] (AH ((Ay D nm).1))] (.sp 33 (((Ay D nm).2) != (0:Int)) (
.leaf ⟨[0],[(0,0,none)]⟩ [] .ret (some ([(0, .tup [vi 0,vi ((Ay D nm).2)])],[.obj [] (AH ((Ay D nm).1))]))) (
.callr (some 38) (W6 37 [.op 0,vs nm,vl ((As L).map AA.f)] [.obj [] (AH ((Ay D nm).1))] (vi ((BI ((Ay D nm).1) nm (As L)).2)) [.obj [] (AH ((BI ((Ay D nm).1) nm (As L)).1))]) (vi ((BI ((Ay D nm).1) nm (As L)).2)) [.obj [] (AH ((BI ((Ay D nm).1) nm (As L)).1))] (.sp 40 (((BI ((Ay D nm).1) nm (As L)).2) != (0:Int)) (
.leaf ⟨[0],[(0,0,none)]⟩ [] .ret (some ([(0, .tup [vi 0,vi ((BI ((Ay D nm).1) nm (As L)).2)])],[.obj [] (AH ((BI ((Ay D nm).1) nm (As L)).1))]))) (
.int 43 (((As L).map AA.f).length:Int) ((As L).length:Int) (.callr (some 46) (W6 38 [.op 0,vs nm] [.obj [] (AH ((BI ((Ay D nm).1) nm (As L)).1))] (vi ((Cn ((BI ((Ay D nm).1) nm (As L)).1) nm).2)) [.obj [] (AH ((Cn ((BI ((Ay D nm).1) nm (As L)).1) nm).1))]) (vi ((Cn ((BI ((Ay D nm).1) nm (As L)).1) nm).2)) [.obj [] (AH ((Cn ((BI ((Ay D nm).1) nm (As L)).1) nm).1))] (.leaf ⟨[0],[(0,0,none)]⟩ [] .ret (some ([(0, .tup [vi ((As L).length:Int),vi ((Cn ((BI ((Ay D nm).1) nm (As L)).1) nm).2)])],[.obj [] (AH ((Cn ((BI ((Ay D nm).1) nm (As L)).1) nm).1))]))))))))))))))

theorem Y0 (D:Dsk) (nm:ByteArray) (L:List Ent):Av DP ΓO2 W6 Tryd.f21 [.op 0,vs nm,vl (L.map AB.f)] [.obj [] (AH D)] (TN D nm L)=TN D nm L:=by kernel_rfl


theorem ΓO1_ok:∀ f,SoundF DP f (ΓO1 f):=An Sl (An lP (An lQ (An m9 (An eh Bu))))
theorem rc:∀ f,SoundR DP f (W5 f):=AY (AU uF) (AY (AU la) (AY (AU fV) BJ))
theorem ΓO2_ok:∀ f,SoundF DP f (ΓO2 f):=An rA Bu
theorem re:∀ f,SoundR DP f (W6 f):=AY (AU uH) (AY (AU uI) (AY (AU mL) (AY (RI mQ) (AY (AU uE) BJ))))
def N4 (e:List UInt8):Nat→Nat→List Int→Unit ⊕ List Int
 | 0,_,ns=> .inr ns
 | j+1,i,ns=>if Aw e i>67108864 then .inl () else N4 e j (i+1) (ns.set i (Aw e i))
theorem vM (e:List UInt8):N4 e 5 0 [0,0,0,0,0]=if ((List.range 5).any fun i=>decide (Aw e i>67108864))=true then .inl () else .inr [Aw e 0,Aw e 1,Aw e 2,Aw e 3,Aw e 4]:=by
 have hr:List.range 5= [0,1,2,3,4]:=rfl
 rw[hr]
 by_cases h0:Aw e 0>67108864
 ·simp[N4,h0]
 by_cases h1:Aw e 1>67108864
 ·simp[N4,h0,h1]
 by_cases h2:Aw e 2>67108864
 ·simp[N4,h0,h1,h2]
 by_cases h3:Aw e 3>67108864
 ·simp[N4,h0,h1,h2,h3]
 by_cases h4:Aw e 4>67108864
 ·simp[N4,h0,h1,h2,h3,h4]
 ·simp[N4,h0,h1,h2,h3,h4]
theorem fa (e:List UInt8) (i:Nat):0≤Aw e i:=(Nf _).1
theorem nd (e:List UInt8) (i:Nat):AO (cutL (some (8*(i:Int))) (some (8*(i:Int)+8)) e)=Aw e i:=by
 show AO ((e.take (Int.toNat (8*(i:Int)+8))).drop (Int.toNat (8*(i:Int))))=AO ((e.drop (8*i)).take 8)
 rw[show Int.toNat (8*(i:Int)+8)=8*i+8 by omega,show Int.toNat (8*(i:Int))=8*i by omega,List.drop_take,show 8*i+8 - 8*i=8 by omega]
theorem fc {D:Dsk} {nm:ByteArray} (h40:(getF (AF D nm) ((BY D nm).1 - 52) 52).1.length=40):∀ (j i:Nat) (ns:List Int),i+j=5→ns.length=5 →
  Rounds (IF D nm) (LD D) (J0 D nm) (fun s=>(GK D nm s).wp) (ns,(i:Int)) (N4 (getF (AF D nm) ((BY D nm).1 - 52) 52).1 j i ns):=by
 intro j
 induction j with
 | zero=>
  intro i ns hi hn
  rw[N4]
  refine .done' (by intro e; cases e) ?_
  unfold GK
  exact AC (fun h'=>absurd (of_decide_eq_true h') (by simp only; omega)) (fun _=>wp_leaf rfl ⟨rfl,rfl⟩)
 | succ j ih=>
  intro i ns hi hn
  have hc:=nd (getF (AF D nm) ((BY D nm).1 - 52) 52).1 i
  have hb:=fa (getF (AF D nm) ((BY D nm).1 - 52) 52).1 i
  have hg:=Fy (b:=cutL (some (8*(i:Int))) (some (8*(i:Int)+8)) (getF (AF D nm) ((BY D nm).1 - 52) 52).1) (by simp only[cutL,List.length_drop,List.length_take]; omega)
  rw[hc] at hg
  rw[N4]
  by_cases h:Aw (getF (AF D nm) ((BY D nm).1 - 52) 52).1 i>67108864
  ·rw[if_pos h]
   refine .done (by intro e; cases e) ?_
   unfold GK
   dsimp only
   rw[hc]
   exact AC (fun _=>AP (by omega) (AP (by omega) (AP (by omega) (DB (by simp only[CE]; omega) (Ac hg (AC (fun _=>wp_leaf rfl ⟨rfl,rfl⟩) (fun q=>absurd h (of_decide_eq_false q)))))))) (fun h'=>absurd (of_decide_eq_false h') (by omega))
  ·rw[if_neg h]
   have hr:=ih (i+1) (ns.set i (Aw (getF (AF D nm) ((BY D nm).1 - 52) 52).1 i)) (by omega) (by rw[List.length_set]; exact hn)
   rw[show ((i+1:Nat):Int)=(i:Int)+1 by omega] at hr
   refine .next ?_ hr
   unfold GK
   dsimp only
   rw[hc]
   refine AC (fun _=>AP (by omega) (AP (by omega) (AP (by omega) (DB (by simp only[CE]; omega) (Ac hg (AC (fun q=>absurd (of_decide_eq_true q) h) (fun _=>AP (by omega) (Eo (by omega) (by omega) (NP (by omega) (by omega) (by simp[Aa]) rfl (AP (by omega) (wp_leaf rfl ⟨rfl,?_⟩))))))))))) (fun h'=>absurd (of_decide_eq_false h') (by omega))
   rw[Int.toNat_natCast]
theorem page0_e {c:List UInt8} {idx:List Par} (h:idx≠ []):((BV c idx 0).2=0∧(BV c idx 0).1≠ [])∨(BV c idx 0).2=12:=by
 cases idx with
 | nil=>exact absurd rfl h
 | cons p idx=>
  rw[Zk (i:=0) (by decide) (p:=p) rfl]
  split
  ·exact .inr rfl
  ·split
   ·exact .inr rfl
   ·split
    ·exact .inr rfl
    ·rename_i h; exact .inl ⟨rfl,h⟩
theorem fd {b:List UInt8} {L:List Par} (h:Ar b=(L,0)) (hb:b.length≤100000000):(∀ p∈L,GQ p)∧L.length≤b.length:=by
 unfold Ar at h
 cases hA:C4 b.length b.length b [] with
 | none=>rw[hA] at h; cases h
 | some M=>
  rw[hA] at h
  cases h
  obtain ⟨h1,h2⟩:=O7 _ _ _ _ _ hA
  refine ⟨fun p hp=>?_,h2⟩
  have:=h1 p hp
  have e1:p.nl.length=p.name.size:=rfl
  have e2:p.vl.length=p.val.size:=rfl
  simp only[List.length_nil] at this
  exact ⟨by omega,by omega⟩
theorem rf (d:List UInt8):((Ey d).2=2)∨((Ey d).2=0∧(Ey d).1.length≤1048576):=by
 unfold Ey
 split
 ·exact .inl rfl
 ·split
  ·exact .inl rfl
  ·exact .inr ⟨rfl,by simp only; omega⟩
theorem P2 {c:List UInt8} {f:List UInt8} (hf:getF c (c.length - 52) 52=(f,0)) (h40:f.length=40):EH c =
  (if ((List.range 5).any fun i=>decide (Aw f i>67108864))=true then (Em,12) else
  if (getF c (Aw f 0) (Aw f 1)).2≠0 then (Em,12) else
  match EK (getF c (Aw f 0) (Aw f 1)).1 with
  | none=>(Em,12)
  | some idx=>if idx= [] then (Em,12) else if (getF c (Aw f 2) (Aw f 3)).2≠0 then (Em,12) else if (Ey (getF c (Aw f 2) (Aw f 3)).1).2≠0 then (Em,12) else
   if (BV c idx 0).2≠0 then (Em,12) else if (BG (idx.getLastD ⟨⟨#[]⟩,⟨#[]⟩⟩).nl).2≠0 then (Em,12) else
   (⟨idx,(Ey (getF c (Aw f 2) (Aw f 3)).1).1,Aw f 4,((BV c idx 0).1.headD Ag).key,(BG (idx.getLastD ⟨⟨#[]⟩,⟨#[]⟩⟩).nl).1.key⟩,0):FileR×Int):=by
 unfold EH RM
 rw[hf,if_neg (by rintro (e | e); exact e rfl; exact e h40)]
 simp only
 by_cases h1:((List.range 5).any fun i=>decide (Aw f i>67108864))=true
 ·rw[if_pos h1,if_pos h1]
 rw[if_neg h1,if_neg h1]
 by_cases h2:(getF c (Aw f 0) (Aw f 1)).2≠0
 ·rw[if_pos h2,if_pos h2]
 rw[if_neg h2,if_neg h2]
 cases EK (getF c (Aw f 0) (Aw f 1)).1 with
 | none=>rfl
 | some idx=>
  simp only
  by_cases h3:idx= []
  ·rw[if_pos h3,if_pos h3]
  rw[if_neg h3,if_neg h3]
  by_cases h4:(getF c (Aw f 2) (Aw f 3)).2≠0
  ·rw[if_pos h4,if_pos h4]
  rw[if_neg h4,if_neg h4]
  unfold Ey
  cases (getF c (Aw f 2) (Aw f 3)).1 with
  | nil=>rfl
  | cons b bits=>
   simp only
   by_cases h5:bits.length<8∨bits.length>1048576∨b≠6
   ·rw[if_pos h5,if_pos h5]; rfl
   ·rw[if_neg h5,if_neg h5]; rfl
theorem N5 {c:List UInt8} (h:(getF c (c.length - 52) 52).2≠0∨(getF c (c.length - 52) 52).1.length≠40):EH c=(Em,12):=by
 unfold EH RM
 rw[if_pos h]
theorem T0 {b:List UInt8} {L:List Par} (h:EK b=some L) (hb:b.length≤100000000):(∀ p∈L,GQ p)∧L.length≤b.length:=by
 have h1:=TC h
 have h2:=TD b
 obtain ⟨g1,g2⟩:=fd h1 (by omega)
 exact ⟨g1,by omega⟩
theorem nf {c:List UInt8} (hc:c.length≤67108864) (h:(EH c).2=0):FOk (EH c).1:=by
 by_cases hf:(getF c (c.length - 52) 52).2≠0∨(getF c (c.length - 52) 52).1.length≠40
 ·rw[N5 hf] at h; cases h
 ·have h1:getF c (c.length - 52) 52=((getF c (c.length - 52) 52).1,0):=by
   rw[Prod.ext_iff]
   exact ⟨rfl,Decidable.not_not.1 fun e=>hf (.inl e)⟩
  have h2:(getF c (c.length - 52) 52).1.length=40:=Decidable.not_not.1 fun e=>hf (.inr e)
  rw[P2 h1 h2] at h ⊢
  generalize (getF c (c.length - 52) 52).1=f at *
  split at h
  ·cases h
  ·split at h
   ·cases h
   ·cases hp:EK (getF c (Aw f 0) (Aw f 1)).1 with
    | none=>rw[hp] at h; cases h
    | some idx=>
     rw[hp] at h
     simp only at h
     have hl:=Jz c (Aw f 0) (Aw f 1)
     obtain ⟨g1,g2⟩:=T0 hp (by omega)
     split at h
     ·cases h
     ·split at h
      ·cases h
      ·split at h
       ·cases h
       ·split at h
        ·cases h
        ·split at h
         ·cases h
         ·rename_i a1 a2 a3 a4 a5 a6 a7
          rw[if_neg (by assumption),if_neg (by assumption)]
          simp only
          rw[if_neg (by assumption),if_neg (by assumption),if_neg (by assumption),if_neg (by assumption),if_neg (by assumption)]
          refine ⟨by simp only; omega,g1,?_⟩
          rcases rf (getF c (Aw f 2) (Aw f 3)).1 with e | e
          ·exact absurd a5 (by rw[e]; decide)
          ·exact Nat.le_trans e.2 (by decide)

def W9:Ae:=fun args B r B'=>∃ (D:Dsk) (nm:ByteArray),D.Ok∧D.down=false∧args= [.op 0,vs nm]∧B= [BD D] ∧
 ((D.get nm=none∧r= .tup [nilQ,vi 4]∧B'=B)∨(D.get nm≠none∧(EH (AF D nm)).2≠0∧r= .tup [nilQ,vi 12]∧B'=B) ∨
  (D.get nm≠none∧(EH (AF D nm)).2=0∧r= .tup [.ptr 1 0 0,vi 0]∧B'= [BD D,filC 0 nm (EH (AF D nm)).1]))
theorem kH {L:List Par} (h:L≠ []):∃ p,L[L.length - 1]? = some p∧L.getLastD ⟨⟨#[]⟩,⟨#[]⟩⟩=p:=by
 have hp:=List.length_pos_iff.2 h
 refine ⟨L[L.length - 1],List.getElem?_eq_getElem (by omega),?_⟩
 rw[List.getLastD_eq_getLast?,List.getLast?_eq_getElem?,List.getElem?_eq_getElem (by omega)]
 rfl
theorem kI {L:List Ent} (h:L≠ []):∃ e,L[0]? = some e∧L.headD Ag=e:=by
 cases L with
 | nil=>exact absurd rfl h
 | cons e L=>exact ⟨e,rfl,rfl⟩
theorem rg:SoundR DP N2 W9:=Al AZ ΓO1_ok rc nZ na nb (by
 rintro args B r B' ⟨D,nm,ok,hd,rfl,rfl,hcase⟩
 refine ⟨by rw[nc]; rfl,_,cT D nm,?_⟩
 have hS:BY D nm=match D.get nm with | none=>(0,4) | some x=>((x.b.length:Int),0):=by
  unfold BY
  rw[hd]
  rfl
 have hcl:=Ke ok nm
 unfold W8
 refine AM (uN ok rfl) ?_
 cases hg:D.get nm with
 | none=>
  rw[hg] at hS hcase
  simp only at hS
  rw[hS]
  rcases hcase with ⟨_,rfl,rfl⟩ | ⟨h,_⟩ | ⟨h,_⟩
  ·exact AC (fun _=>wp_leaf rfl ⟨rfl,rfl⟩) (fun q=>by simp at q)
  ·exact absurd rfl h
  ·exact absurd rfl h
 | some x=>
  have hcont:AF D nm=x.b:=by unfold AF; rw[hg]
  rw[hg] at hS hcase
  simp only at hS
  have hR:=fc (D:=D) (nm:=nm)
  rw[hS] at hR ⊢
  have hlen:((x.b.length:Nat):Int)=((AF D nm).length:Int):=by rw[hcont]
  dsimp only at hR ⊢
  rw[hlen] at hR ⊢
  have hcase:((EH (AF D nm)).2≠0∧r= .tup [nilQ,vi 12]∧B'= [BD D])∨((EH (AF D nm)).2=0∧r= .tup [.ptr 1 0 0,vi 0]∧B'= [BD D,filC 0 nm (EH (AF D nm)).1]):=by
   rcases hcase with ⟨h,_⟩ | ⟨_,h⟩ | ⟨_,h⟩
   ·cases h
   ·exact .inl h
   ·exact .inr h
  clear hS hg hcont hlen
  have bad:EH (AF D nm)=(Em,12)→AV.tup [nilQ,vi 12]=r∧ [BD D]=B':=fun h=>by
   rw[h] at hcase
   rcases hcase with ⟨_,h1,h2⟩ | ⟨h1,_⟩
   ·exact ⟨h1.symm,h2.symm⟩
   ·cases h1
  refine AC (fun q=>by simp at q) (fun _=>AP (by omega) (AM (VC ok hd rfl) (AC (fun q=>?_) (fun q=>Aq (AC (fun q2=>?_) (fun q2=>?_))))))
  ·have q:(getF (AF D nm) ((AF D nm).length - 52) 52).2≠0:=by simpa using q
   have hb:=bad (N5 (.inl q))
   rw[(Ra _ _ _).resolve_left q]
   exact wp_leaf rfl hb
  ·have q2:(getF (AF D nm) ((AF D nm).length - 52) 52).1.length≠40:=fun e=>by rw[e] at q2; simp at q2
   exact wp_leaf rfl (bad (N5 (.inr q2)))
  ·have q:(getF (AF D nm) ((AF D nm).length - 52) 52).2=0:=by simpa using q
   have q2:(getF (AF D nm) ((AF D nm).length - 52) 52).1.length=40:=by rw[bne_eq_false_iff_eq] at q2; omega
   have hf:getF (AF D nm) ((AF D nm).length - 52) 52=((getF (AF D nm) ((AF D nm).length - 52) 52).1,0):=by
    rw[Prod.ext_iff]; exact ⟨rfl,q⟩
   have hO:=P2 hf q2
   have hr:=hR q2 5 0 [0,0,0,0,0] rfl rfl
   rw[vM] at hr
   have n0:=fa (getF (AF D nm) ((AF D nm).length - 52) 52).1
   generalize (getF (AF D nm) ((AF D nm).length - 52) 52).1=f at hO hr n0
   clear hf hR q q2
   by_cases h1:((List.range 5).any fun i=>decide (Aw f i>67108864))=true
   ·rw[if_pos h1] at hO hr
    exact BH _ rfl hr (wp_leaf rfl (bad hO))
   ·rw[if_neg h1] at hO hr
    refine Dk _ rfl hr (Eo (by decide) (by decide) (Bb _ (by decide) rfl rfl (Eo (by decide) (by decide) (Bb _ (by decide) rfl rfl (Eo (by decide) (by decide) (Bb _ (by decide) rfl rfl (AM (VC ok hd rfl) (AC (fun q=>?_) (fun q=>?_)))))))))
    ·have q:(getF (AF D nm) (Aw f 0) (Aw f 1)).2≠0:=by simpa using q
     rw[if_pos q] at hO
     rw[(Ra _ _ _).resolve_left q]
     exact wp_leaf rfl (bad hO)
    ·have q:(getF (AF D nm) (Aw f 0) (Aw f 1)).2=0:=by simpa using q
     rw[if_neg (fun e=>e q)] at hO
     have hl1:=Jz (AF D nm) (Aw f 0) (Aw f 1)
     have hpE:Gk (getF (AF D nm) (Aw f 0) (Aw f 1)).1=match EK (getF (AF D nm) (Aw f 0) (Aw f 1)).1 with | none=>2 | some _=>0:=rfl
     refine Ac (Wb (by omega)) ?_
     cases hp:EK (getF (AF D nm) (Aw f 0) (Aw f 1)).1 with
     | none=>
      rw[hp] at hO hpE
      rw[hpE]
      exact AC (fun _=>wp_leaf rfl (bad hO)) (fun q=>by simp at q)
     | some idx=>
      rw[hp] at hO hpE
      simp only at hO hpE
      have hall:=TC hp
      have hpl:=TD (getF (AF D nm) (Aw f 0) (Aw f 1)).1
      obtain ⟨k1,k2⟩:=T0 hp (by omega)
      rw[hpE]
      refine AC (fun q=>by simp at q) (fun _=>Ac (Wc (by omega)) ?_)
      rw[hall]
      dsimp only
      refine Aq (AC (fun q3=>?_) (fun q3=>?_))
      ·rw[if_pos (List.eq_nil_of_length_eq_zero (by rw[beq_iff_eq] at q3; omega))] at hO
       exact wp_leaf rfl (bad hO)
      ·have hne:idx≠ []:=fun e=>by rw[e] at q3; simp at q3
       rw[if_neg hne] at hO
       refine Eo (by decide) (by decide) (Bb _ (by decide) rfl rfl (Eo (by decide) (by decide) (Bb _ (by decide) rfl rfl (AM (VC ok hd rfl) (AC (fun q4=>?_) (fun q4=>?_))))))
       ·have q4:(getF (AF D nm) (Aw f 2) (Aw f 3)).2≠0:=by simpa using q4
        rw[if_pos q4] at hO
        rw[(Ra _ _ _).resolve_left q4]
        exact wp_leaf rfl (bad hO)
       ·have q4:(getF (AF D nm) (Aw f 2) (Aw f 3)).2=0:=by simpa using q4
        rw[if_neg (fun e=>e q4)] at hO
        have hl2:=Jz (AF D nm) (Aw f 2) (Aw f 3)
        have hbp:=rf (getF (AF D nm) (Aw f 2) (Aw f 3)).1
        refine Ac (b6 (by omega)) (AC (fun q5=>?_) (fun q5=>?_))
        ·rw[if_pos (by simpa using q5)] at hO
         exact wp_leaf rfl (bad hO)
        ·have q5:(Ey (getF (AF D nm) (Aw f 2) (Aw f 3)).1).2=0:=by simpa using q5
         rw[if_neg (fun e=>e q5)] at hO
         have hbl:(Ey (getF (AF D nm) (Aw f 2) (Aw f 3)).1).1.length≤10000000:=by
          rcases hbp with e | e
          ·rw[e] at q5; cases q5
          ·omega
         have hF:FOk (⟨idx,(Ey (getF (AF D nm) (Aw f 2) (Aw f 3)).1).1,Aw f 4,⟨#[]⟩,⟨#[]⟩⟩:FileR):=⟨by simp only; omega,k1,hbl⟩
         refine AM (fW (b:=0) (F:=(⟨idx,(Ey (getF (AF D nm) (Aw f 2) (Aw f 3)).1).1,Aw f 4,⟨#[]⟩,⟨#[]⟩⟩:FileR)) ok hd hF rfl rfl) ?_
         rcases page0_e (c:=AF D nm) hne with ⟨e1,e2⟩ | e1
         ·rw[if_neg (fun e=>e e1)] at hO
          obtain ⟨p,p1,p2⟩:=kH hne
          obtain ⟨e,g1,g2⟩:=kI e2
          have hpos:=List.length_pos_iff.2 hne
          have hps:=(k1 p (List.mem_of_getElem? p1)).1
          rw[p2,g2] at hO
          refine AC (fun q6=>by rw[e1] at q6; simp at q6) (fun _=>Aq (AP (by omega) (Ci p (by omega) (by rw[show ((idx.length:Int) - 1).toNat=idx.length - 1 by omega]; exact p1) (Ac (Tr p.name (by omega)) (AC (fun q7=>?_) (fun q7=>?_))))))
          ·have q7:(BG p.nl).2≠0:=by simpa using q7
           rw[if_pos q7] at hO
           exact wp_leaf rfl (bad hO)
          ·have q7:(BG p.nl).2=0:=by simpa using q7
           rw[if_neg (fun e=>e q7)] at hO
           rw[hO] at hcase
           rcases hcase with ⟨h,_⟩ | ⟨_,rfl,rfl⟩
           ·exact absurd rfl h
           ·refine Cg (Ci e (by decide) (by simpa using g1) (DU ?_ ?_))
            all_goals
             refine Ab rfl ?_
             unfold N3
             exact wp_leaf rfl ⟨rfl,rfl⟩
         ·rw[if_pos (by rw[e1]; decide)] at hO
          rw[e1]
          exact AC (fun _=>wp_leaf rfl (bad hO)) (fun q=>by simp at q))
theorem rh {B:List Box} {b:Nat} {D:Dsk} {nm:ByteArray} (ok:D.Ok) (hd:D.down=false) (hg:D.get nm≠none) (h:(EH (AF D nm)).2=0) (hb:B[b]? = some (BD D)):
  AX W9 [.op b,vs nm] B (.tup [.ptr B.length 0 0,vi 0]) (B++ [filC b nm (EH (AF D nm)).1]):=by
 have hlt:b<B.length:=(List.getElem?_eq_some_iff.1 hb).1
 refine ⟨_,_,_,_,⟨D,nm,ok,hd,rfl,rfl, .inr (.inr ⟨hg,h,rfl,rfl⟩)⟩,⟨[b],[0],[BD D],[BD D],[filC b nm (EH (AF D nm)).1],?_,?_,?_,rfl,⟨.objs rfl rfl,trivial⟩,⟨.objs rfl rfl, .cells ?_ ?_ rfl,trivial⟩,?_,?_,rfl⟩⟩
 ·simp[DO,Nat.blt_eq,hlt]
 ·simp[hb]
 ·simp[AV.rv.rvL,AV.rv,Bc]
 ·simp[BM]
 ·simp[AV.rv.rvL,AV.rv,Bc]
 ·rw[Bh,Bh,DT hb]
 ·simp[AV.rv,AV.rv.rvL,Bc,BM]

def Cb (D:Dsk) (nm:ByteArray) (b:List UInt8):Dsk×Int×Int:=
 if D.down then (D,0,10) else if (b.length:Int)>D.room - D.used then (D,0,11) else
 if (Ay D nm).2≠0 then ((Ay D nm).1,0,(Ay D nm).2) else
 if (BI (Ay D nm).1 nm b).2≠0 then ((BI (Ay D nm).1 nm b).1,0,(BI (Ay D nm).1 nm b).2) else
 ((Cn (BI (Ay D nm).1 nm b).1 nm).1,b.length,(Cn (BI (Ay D nm).1 nm b).1 nm).2)
def PJ:Ae:=fun args B r B'=>∃ (D:Dsk) (nm:ByteArray) (L:List Ent),D.Ok∧Fits L∧nm.size≤1000000000∧args= [.op 0,vs nm,vl (L.map AB.f)]∧B= [BD D] ∧
 r= .tup [vi (Cb D nm (As L)).2.1,vi (Cb D nm (As L)).2.2]∧B'= [BD (Cb D nm (As L)).1]
theorem ng:SoundR DP Lg PJ:=Al AZ ΓO2_ok re kD kE kF (by
 rintro args B r B' ⟨D,nm,L,ok,hf,hn,rfl,rfl,rfl,rfl⟩
 refine ⟨by rw[kG]; rfl,_,Y0 D nm L,?_⟩
 have hl:=Tp hf
 have ok1:=Q5 ok nm
 have ok2:=Q6 ok1 nm (As L)
 unfold TN Cb
 refine Ac (fR hf) (AM (uL ok rfl) (AC (fun h=>?_) (fun h=>Aq (AM (uM ok rfl) (AC (fun g=>?_) (fun g=>AM (mR ok hn rfl) (AC (fun k=>?_) (fun k=>AM (mS ok1 (by omega) rfl) (AC (fun m=>?_) (fun m=>Aq (AM (uJ ok2 rfl) (wp_leaf rfl ?_)))))))))))) 
 ·rw[if_pos h]; exact wp_leaf rfl ⟨rfl,rfl⟩
 ·rw[h,if_neg (by decide),if_pos (of_decide_eq_true g)]; exact wp_leaf rfl ⟨rfl,rfl⟩
 ·rw[h,if_neg (by decide),if_neg (of_decide_eq_false g),if_pos (by simpa using k)]; exact wp_leaf rfl ⟨rfl,rfl⟩
 ·rw[h,if_neg (by decide),if_neg (of_decide_eq_false g),if_neg (fun e=>e (by simpa using k)),if_pos (by simpa using m)]; exact wp_leaf rfl ⟨rfl,rfl⟩
 ·rw[h,if_neg (by decide),if_neg (of_decide_eq_false g),if_neg (fun e=>e (by simpa using k)),if_neg (fun e=>e (by simpa using m))]; exact ⟨rfl,rfl⟩)
theorem nh {B:List Box} {b:Nat} {D:Dsk} {nm:ByteArray} {L:List Ent} (ok:D.Ok) (hf:Fits L) (hn:nm.size≤1000000000) (hb:B[b]? = some (BD D)):
  AX PJ [.op b,vs nm,vl (L.map AB.f)] B (.tup [vi (Cb D nm (As L)).2.1,vi (Cb D nm (As L)).2.2]) (B.set b (BD (Cb D nm (As L)).1)):=
 GY (R:=PJ) ⟨D,nm,L,ok,hf,hn,rfl,rfl,rfl,rfl⟩ hb rfl rfl
theorem Rh {D:Dsk} (h:Live D) {nm:ByteArray} (hn:CA nm=true) (hc:D.cont nm=none) {b:List UInt8} (hr:(b.length:Int)≤D.room - D.used):
  (Cb D nm b).2=((b.length:Int),0)∧Live (Cb D nm b).1∧(∀ m,(Cb D nm b).1.cont m=if nm=m then some b else D.cont m)∧(Cb D nm b).1.used=D.used+b.length∧(Cb D nm b).1.room=D.room:=by
 obtain ⟨a1,a2,a3,a4,a5⟩:=Yj h hn hc
 obtain ⟨b1,b2,b3,b4,b5⟩:=Yk a2 (nm:=nm) (c:= []) (bs:=b) (by rw[a3,if_pos rfl]) (by omega)
 obtain ⟨c1,c2,c3,c4,c5⟩:=eL b2 (nm:=nm) (c:=b) (by rw[b3,if_pos rfl]; rfl)
 unfold Cb
 rw[h.up,if_neg (by decide),if_neg (by omega),if_neg (fun e=>e a1),if_neg (fun e=>e b1)]
 refine ⟨by rw[c1],c2,fun m=>?_,by simp only; omega,by simp only; omega⟩
 simp only
 rw[c3,b3,a3]
 split <;> rfl
theorem Ri {D:Dsk} {nm:ByteArray} {c:List UInt8} (h:D.cont nm=some c):AF D nm=c∧D.get nm≠none:=by
 unfold Dsk.cont at h
 unfold AF
 cases hg:D.get nm with
 | none=>rw[hg] at h; cases h
 | some x=>rw[hg] at h; cases h; exact ⟨rfl,by simp⟩
section
abbrev kJ (f:Dsk→FileR→AV) (z:AV):Ae:=fun args B r B'=>(∃ (D:Dsk) (nm:ByteArray) (F:FileR),args= [.ptr 1 0 0]∧B= [BD D,filC 0 nm F]∧r=f D F∧B'=B)∨(args= [nilQ]∧B= []∧r=z∧B'=B)
theorem wz {f:Dsk→FileR→AV} {z:AV} {B:List Box} {b l:Nat} {D:Dsk} {nm:ByteArray} {F:FileR} (hb:B[b]? = some (BD D)) (hl:B[l]? = some (filC b nm F)) (hy:(f D F).low 0=true):AX (kJ f z) [.ptr l 0 0] B (f D F) B:=
 Kf (R:=kJ f z) (al:= []) (.inl ⟨D,nm,F,rfl,rfl,rfl,rfl⟩) hb hl (fun _ _=>rfl) (fun _=>rfl) hy
end
abbrev TO:Ae:=kJ (fun _ F=>vi (F.idx.length:Int)) (vi 0)
theorem ni:SoundR DP PI TO:=Al AZ Γ0_ok Bq kA kB kC (by
 rintro args B r B' (⟨D,nm,F,rfl,rfl,rfl,rfl⟩ | ⟨rfl,rfl,rfl,rfl⟩)
 ·exact ⟨by rw[W4]; rfl,_,Yy D nm F,Aq (wp_leaf rfl ⟨rfl,rfl⟩)⟩
 ·exact ⟨by rw[W4]; rfl,_,Yz,wp_leaf rfl ⟨rfl,rfl⟩⟩)
def Lh:Ae:=Pw fX (fun args B r B'=>∃ y:Ent,args= [nilQ,AB.av y]∧B= []∧r=vi 0∧B'=B)
theorem nj:SoundR DP N1 Lh:=ra.or (Al AZ Γ0_ok Bq Zl Zm Zn (by
 rintro args B r B' ⟨y,rfl,rfl,rfl,rfl⟩
 exact ⟨by rw[Zo]; rfl,_,cS y,wp_leaf rfl ⟨rfl,rfl⟩⟩))
theorem nk {B:List Box} {b l:Nat} {D:Dsk} {nm:ByteArray} {F:FileR} {y:Ent} (hn:F.idx.length≤100000000) (hy:HE y) (hb:B[b]? = some (BD D)) (hl:B[l]? = some (filC b nm F)):
  AX Lh [.ptr l 0 0,AB.av y] B (vi ((BQ F.idx y:Nat):Int)) B:=
 Kf (R:=Lh) (.inl ⟨D,nm,F,y,hn,hy,rfl,rfl,rfl,rfl⟩) hb hl (fun _ _=>rfl) (fun _=>rfl) rfl

noncomputable def ΓQ1:BF:=DG [(jV,bt),(MY,H6),(KQ,FA)]

abbrev Rj:Nat:=10
noncomputable abbrev fe:Func:=Tryd.f10
theorem nq:DP.funcs[Rj]? = some fe:=by kernel_rfl
theorem nr:Ak DP Rj=true:=by kernel_rfl
theorem nt:fe.body.isSome=true:=by kernel_rfl
noncomputable def DW (L:List Ent) (t:Int) (s1:(List Ent)×Int):St:=([(1,vi t),(5, .rs 0 0 4 0 s1.1.length),(11,vl (L.map AB.f)),(12,vi (L.length:Int)),(13,vi s1.2)],[AB.bx 0 s1.1])
noncomputable def LE (x1:(List Ent)):AE×St:=((.exit 0),([(5, .rs 0 0 4 0 x1.length)],[AB.bx 0 x1]))
noncomputable def IH (L:List Ent) (t:Int) (s1:(List Ent)×Int) (j2:Ent):St:=([(1,vi t),(5, .rs 0 0 4 0 s1.1.length),(7, .ptr 1 0 0),(11,vl (L.map AB.f)),(12,vi (L.length:Int)),(13,vi s1.2)],[AB.bx 0 s1.1, .cells false 0 ([vs j2.key,vn .u64 j2.seq,vb j2.del,vs j2.val])])
noncomputable def II (L:List Ent) (t:Int) (s1:(List Ent)×Int) (j2:Ent) (s3:Int):St:=([(1,vi t),(5, .rs 0 0 4 0 s1.1.length),(7, .ptr 1 0 0),(8,vi s3),(11,vl (L.map AB.f)),(12,vi (L.length:Int)),(13,vi s1.2)],[AB.bx 0 s1.1, .cells false 0 ([vs j2.key,vn .u64 j2.seq,vb j2.del,vs j2.val])])
noncomputable def IJ (L:List Ent) (t:Int) (s1:(List Ent)×Int) (j2:Ent) (x3:Int):AE×St:=((.exit 2),([(1,vi t),(5, .rs 0 0 4 0 s1.1.length),(7, .ptr 1 0 0),(8,vi x3),(11,vl (L.map AB.f)),(12,vi (L.length:Int)),(13,vi s1.2)],[AB.bx 0 s1.1, .cells false 0 ([vs j2.key,vn .u64 j2.seq,vb j2.del,vs j2.val])]))
noncomputable def IK (L:List Ent) (t:Int) (s1:(List Ent)×Int) (j2:Ent) (s3:Int):Tree:=
.sp 33 (decide (s3<((s1.1.length:Nat):Int))) (
.ridx 37 s1.1.length s3 (.rload 38 (rowC (s1.1.map AB.f)) (0+Int.toNat s3*4) AB s1.1 s3 0 (fun e2=> .call 40 (FA [(AB.av e2),(AB.av j2)]=some (vi (BK e2 j2))) (vi (BK e2 j2)) (.sp 41 (decide ((BK e2 j2)<(0:Int))) (
.int 44 (IntKind.i64.wrap (s3+1)) (s3+1) (.leaf ⟨[1,5,7,8,11,12,13],[(0,0,some (s1.1.map AB.f)),(1,0,none)]⟩ [rowC (s1.1.map AB.f)] .normal (some (II L t s1 j2 (s3+1))))) (
.leaf ⟨[1,5,7,8,11,12,13],[(0,0,some (s1.1.map AB.f)),(1,0,none)]⟩ [rowC (s1.1.map AB.f)] (.exit 2) (some (IJ L t s1 j2 s3).2)))))) (
.leaf ⟨[1,5,7,8,11,12,13],[(0,0,some (s1.1.map AB.f)),(1,0,none)]⟩ [rowC (s1.1.map AB.f)] (.exit 2) (some (IJ L t s1 j2 s3).2))
noncomputable def FR (L:List Ent) (t:Int) (s1:(List Ent)×Int) (j2:Ent) (x3:Int) (j4:Bool):St:=([(1,vi t),(5, .rs 0 0 4 0 s1.1.length),(7, .ptr 1 0 0),(8,vi x3),(11,vl (L.map AB.f)),(12,vi (L.length:Int)),(13,vi s1.2),(57,vb j4)],[AB.bx 0 s1.1, .cells false 0 ([vs j2.key,vn .u64 j2.seq,vb j2.del,vs j2.val])])
noncomputable def Fo (L:List Ent) (t:Int) (s1:(List Ent)×Int) (j2:Ent) (x3:Int) (j4:Bool):Tree:=
.br j4 (
.int 72 (IntKind.i64.wrap (s1.2+1)) (s1.2+1) (.leaf ⟨[1,5,11,12,13],[(0,0,some (s1.1.map AB.f))]⟩ [rowC (s1.1.map AB.f)] .normal (some (DW L t (s1.1,s1.2+1))))) (
.rcut 61 s1.1.length none (some x3) (.app 62 (.part (0+A8 none*4) (Be (some x3) s1.1.length - A8 none) (rowC (s1.1.map AB.f))) (([]:List Ent).length) (rowC (([]:List Ent).map AB.f)) AB ([]:List Ent) (cutL none (some x3) s1.1) (.app 66 (.row 1 ([vs j2.key,vn .u64 j2.seq,vb j2.del,vs j2.val])) ((([]:List Ent)++(cutL none (some x3) s1.1)).length) (rowC ((([]:List Ent)++(cutL none (some x3) s1.1)).map AB.f)) AB (([]:List Ent)++(cutL none (some x3) s1.1)) ([j2]) (.rcut 70 s1.1.length (some x3) none (.app 71 (.part (0+A8 (some x3)*4) (Be none s1.1.length - A8 (some x3)) (rowC (s1.1.map AB.f))) (((([]:List Ent)++(cutL none (some x3) s1.1))++([j2])).length) (rowC (((([]:List Ent)++(cutL none (some x3) s1.1))++([j2])).map AB.f)) AB ((([]:List Ent)++(cutL none (some x3) s1.1))++([j2])) (cutL (some x3) none s1.1) (.int 72 (IntKind.i64.wrap (s1.2+1)) (s1.2+1) (.leaf ⟨[1,5,11,12,13],[(2,3,some ((((([]:List Ent)++(cutL none (some x3) s1.1))++([j2]))++(cutL (some x3) none s1.1)).map AB.f))]⟩ [rowC ((((([]:List Ent)++(cutL none (some x3) s1.1))++([j2]))++(cutL (some x3) none s1.1)).map AB.f)] .normal (some (DW L t (((([]:List Ent)++(cutL none (some x3) s1.1))++([j2]))++(cutL (some x3) none s1.1),s1.2+1))))))))))
noncomputable def Kg (L:List Ent) (t:Int) (s1:(List Ent)×Int) (j2:Ent):Tree:=
.call 28 (H6 [(AB.av j2)]=some (vi (CS j2))) (vi (CS j2)) (.sp 29 ((CS j2) != (0:Int)) (
.int 72 (IntKind.i64.wrap (s1.2+1)) (s1.2+1) (.leaf ⟨[1,5,11,12,13],[(0,0,some (s1.1.map AB.f))]⟩ [rowC (s1.1.map AB.f)] .normal (some (DW L t (s1.1,s1.2+1))))) (
.loop ⟨[1,5,7,8,11,12,13],[(0,0,some (s1.1.map AB.f)),(1,0,none)]⟩ [rowC (s1.1.map AB.f)] (some (II L t s1 j2 0)) (II L t s1 j2) (IJ L t s1 j2) CN 0 (IK L t s1 j2) (fun (x3:Int)=> .sp 48 (decide (x3<((s1.1.length:Nat):Int))) (
.ridx 52 s1.1.length x3 (.rload 53 (rowC (s1.1.map AB.f)) (0+Int.toNat x3*4) AB s1.1 x3 0 (fun e3=> .call 55 (FA [(AB.av e3),(AB.av j2)]=some (vi (BK e3 j2))) (vi (BK e3 j2)) (.sp 56 ((BK e3 j2) == (0:Int)) (
.join ⟨[1,5,7,8,11,12,13,57],[(0,0,some (s1.1.map AB.f)),(1,0,none)]⟩ [rowC (s1.1.map AB.f)] (some (FR L t s1 j2 x3 true)) (FR L t s1 j2 x3) true (Fo L t s1 j2 x3)) (
.join ⟨[1,5,7,8,11,12,13,57],[(0,0,some (s1.1.map AB.f)),(1,0,none)]⟩ [rowC (s1.1.map AB.f)] (some (FR L t s1 j2 x3 false)) (FR L t s1 j2 x3) false (Fo L t s1 j2 x3)))))) (
.join ⟨[1,5,7,8,11,12,13,57],[(0,0,some (s1.1.map AB.f)),(1,0,none)]⟩ [rowC (s1.1.map AB.f)] (some (FR L t s1 j2 x3 false)) (FR L t s1 j2 x3) false (Fo L t s1 j2 x3))) (fun _=> .stuck)))
noncomputable def IL (L:List Ent) (t:Int) (s1:(List Ent)×Int):Tree:=
.sp 14 (decide (s1.2<(L.length:Int))) (
.elem 15 (L.map AB.f) AB L s1.2 (fun e1=> .sp 18 e1.del (
.go (.join ⟨[1,5,7,11,12,13],[(0,0,some (s1.1.map AB.f)),(1,0,none)]⟩ [rowC (s1.1.map AB.f)] (some (IH L t s1 e1)) (IH L t s1) e1 (Kg L t s1))) (
.int 23 (IntKind.i64.wrap ((BitVec.ofInt IntKind.i64.bits t &&& BitVec.ofInt IntKind.i64.bits 63).toNat)) (t % 64) (.int 24 (IntKind.i64.wrap (1+(t % 64))) (1+(t % 64)) (.call 25 (bt [vs e1.val,vi (1+(t % 64))]=some (vs (Jw e1.val (Int.toNat (1+(t % 64)))))) (vs (Jw e1.val (Int.toNat (1+(t % 64))))) (.join ⟨[1,5,7,11,12,13],[(0,0,some (s1.1.map AB.f)),(1,0,none)]⟩ [rowC (s1.1.map AB.f)] (some (IH L t s1 (⟨e1.key,e1.seq,e1.del,(Jw e1.val (Int.toNat (1+(t % 64))))⟩:Ent))) (IH L t s1) (⟨e1.key,e1.seq,e1.del,(Jw e1.val (Int.toNat (1+(t % 64))))⟩:Ent) (Kg L t s1))))))) (
.leaf ⟨[5],[(0,0,some (s1.1.map AB.f))]⟩ [rowC (s1.1.map AB.f)] (.exit 0) (some (LE s1.1).2))
noncomputable def XA (L:List Ent) (t:Int):Tree:=
.int 12 ((L.map AB.f).length:Int) (L.length:Int) (.loop ⟨[1,5,11,12,13],[(0,0,some (([]:List Ent).map AB.f))]⟩ [rowC (([]:List Ent).map AB.f)] (some (DW L t (([]:List Ent),0))) (DW L t) (LE) CN (([]:List Ent),0) (IL L t) (fun (x1:(List Ent))=> .leaf ⟨[0],[(0,0,some (x1.map AB.f))]⟩ [rowC (x1.map AB.f)] .ret (some ([(0, .rs 0 0 4 0 x1.length)],[AB.bx 0 x1]))) (fun _=> .stuck))

theorem cU (L:List Ent) (t:Int):Av DP ΓQ1 Δ0 Tryd.f10 [vl (L.map AB.f),vi t] [] (XA L t)=XA L t:=by kernel_rfl

end Go.Ax
