/- The newest change of a key: contracts. -/
import Derived.Test.YtbdfbdlfipcleaaDoorG39
set_option linter.unusedVariables false
set_option linter.unusedSimpArgs false
set_option linter.unusedSectionVars false
namespace Go.Ax
open Go.Proofs Go.RowKit
set_option maxRecDepth 100000

abbrev nilQ:AV:= .p (.v (.pointer none))
theorem find_idx {α:Type} (p:α→Bool):∀ L:List α,L.find? p=(L.findIdx? p).bind fun k=>L[k]?
 | []=>rfl
 | x::L=>by
  rw[List.find?_cons,List.findIdx?_cons,find_idx p L]
  cases hx:p x with
  | true=>rfl
  | false=>
   simp only[Bool.false_eq_true,if_false]
   cases L.findIdx? p with
   | none=>rfl
   | some k=>rfl
theorem ΓN1_ok:∀ f,SoundF DP f (ΓN1 f):=envP_cons SChkE (envP_cons SMay (envP_cons SAllP (envP_cons SEnts envP_nil)))
theorem ΔN1_ok:∀ f,SoundR DP f (ΔN1 f):=envR_cons (lift_sound SFFind) (envR_cons (lift_sound SPairs) (envR_cons (lift_sound SIdxF) envR_nil))
theorem oIdxF {L:List Ent} {w:Ent} {B:List Box} {b:Nat} (hN:L.length≤1000000000) (hb:B[b]? = some (wantB w)):liftR OIdxF [vl (L.map entE.f), .fn 74 [.ptr b 0 0]] B (vi (idxE L w)) B:=by
 have hlt:b<B.length:=(List.getElem?_eq_some_iff.1 hb).1
 refine ⟨_,_,_,_,⟨L,w,hN,rfl,rfl,rfl,rfl⟩,⟨[b],[0],[wantB w],[wantB w],[],?_,?_,?_,rfl,⟨.cells ?_ ?_ rfl,trivial⟩,⟨.cells ?_ ?_ rfl,trivial⟩,?_,rfl,rfl⟩⟩
 ·simp[noDup,Nat.blt_eq,hlt]
 ·simp[hb]
 ·simp[AV.rv.rvL,AV.rv,fNew,dNew]
 ·simp[dNew]
 ·simp[AV.rv.rvL,AV.rv]
 ·simp[dNew]
 ·simp[AV.rv.rvL,AV.rv]
 ·rw[outB,outB,set_same hb,List.append_nil]
def OFGet:RSpec:=fun args B r B'=>(∃ (D:Dsk) (nm:ByteArray) (F:FileR) (k:ByteArray) (seq:Int),D.Ok∧D.down=false∧FOk F∧k.size≤1000000∧(0≤seq∧seq<18446744073709551616)∧args= [.ptr 1 0 0,vs k,vn .u64 seq]∧B= [dskB D,filC 0 nm F] ∧
 r= .tup [entE.av (getE (contF D nm) F k seq).1,vb (getE (contF D nm) F k seq).2.1,vi (getE (contF D nm) F k seq).2.2]∧B'=B) ∨
 (∃ (k:ByteArray) (seq:Int),args= [nilQ,vs k,vn .u64 seq]∧B= []∧r= .tup [entE.av noE,vb false,vi 1]∧B'=B)
theorem SFGet:SoundR DP iFGet OFGet:=(SoundR.or (R1:=fun args B r B'=>(∃ (D:Dsk) (nm:ByteArray) (F:FileR) (k:ByteArray) (seq:Int),D.Ok∧D.down=false∧FOk F∧k.size≤1000000∧(0≤seq∧seq<18446744073709551616)∧args= [.ptr 1 0 0,vs k,vn .u64 seq]∧B= [dskB D,filC 0 nm F] ∧
 r= .tup [entE.av (getE (contF D nm) F k seq).1,vb (getE (contF D nm) F k seq).2.1,vi (getE (contF D nm) F k seq).2.2]∧B'=B))
 (R2:=fun args B r B'=>(∃ (k:ByteArray) (seq:Int),args= [nilQ,vs k,vn .u64 seq]∧B= []∧r= .tup [entE.av noE,vb false,vi 1]∧B'=B))
 (sound_genT mixedD ΓN1_ok ΔN1_ok hfFGet heFGet hbFGet (by
 rintro args B r B' ⟨D,nm,F,k,seq,ok,hd,hF,hk,hs,rfl,rfl,rfl,rfl⟩
 refine ⟨by rw[hnFGet]; rfl,_,TFGet_chk D nm F k seq,?_⟩
 have hc:=contF_len ok nm
 have hfi:=hF.idx
 have hE:getE (contF D nm) F k seq=(if chkE (⟨k,seq,false,⟨#[]⟩⟩:Ent)≠0∨mayI F.bits k=false then (noE,false,0) else
  match F.idx[findI F.idx (⟨k,seq,false,⟨#[]⟩⟩:Ent)]? with
  | none=>(noE,false,0)
  | some p=>if (pairsI (contF D nm) p).2≠0 then (noE,false,12) else
   match entsI (pairsI (contF D nm) p).1 with
   | none=>(noE,false,12)
   | some L=>match L.find? (fun y=>decide (0≤cmpE y (⟨k,seq,false,⟨#[]⟩⟩:Ent))) with
    | none=>(noE,false,0)
    | some y=>if y.key≠k then (noE,false,0) else (y,true,0):Ent×Bool×Int):=rfl
 have hin:InOk (⟨k,seq,false,⟨#[]⟩⟩:Ent):=⟨hs,by show k.size≤_; omega⟩
 have none0:getE (contF D nm) F k seq=(noE,false,0)→∀ i:Int,(TFGet_j1 D nm F k seq (i,true)).wp (fun _ c=>tk c.1 0=AV.tup [entE.av (getE (contF D nm) F k seq).1,vb (getE (contF D nm) F k seq).2.1,vi (getE (contF D nm) F k seq).2.2]∧c.2= [dskB D,filC 0 nm F]):=fun h i=>by
  rw[h]
  unfold TFGet_j1
  exact wp_br (fun _=>wp_leaf rfl ⟨rfl,rfl⟩) (fun q=>by cases q)
 generalize hw:findI F.idx (⟨k,seq,false,⟨#[]⟩⟩:Ent)=m at *
 unfold TFGet
 refine wp_callr (oFFind hfi hin rfl rfl) ?_
 rw[hw]
 refine wp_call (gChkE_eq (⟨k,seq,false,⟨#[]⟩⟩:Ent)) (wp_sp (fun a=>?_) (fun a=>wp_call (gMay_eq (by omega) hF.bits) (wp_sp (fun b=>wp_len (wp_sp (fun c=>?_) (fun c=>?_))) (fun b=>?_))))
 ·rw[if_pos (.inl (by simpa using a))] at hE
  exact wp_join rfl (none0 hE _)
 ·have a:chkE (⟨k,seq,false,⟨#[]⟩⟩:Ent)=0:=by simpa using a
  rw[if_neg (by rintro (e | e); exact e a; rw[b] at e; cases e),List.getElem?_eq_none (by have:=beq_iff_eq.1 c; omega)] at hE
  exact wp_join rfl (none0 hE _)
 ·have a:chkE (⟨k,seq,false,⟨#[]⟩⟩:Ent)=0:=by simpa using a
  have hm:m≤F.idx.length:=by
   rw[←hw]
   unfold findI
   exact (search_le _ _ _ _ (Nat.zero_le _)).2
  have c:=beq_eq_false_iff_ne.1 c
  obtain ⟨p,hp⟩:∃ p,F.idx[m]? = some p:=⟨_,List.getElem?_eq_getElem (by omega)⟩
  rw[if_neg (by rintro (e | e); exact e a; rw[b] at e; cases e),hp] at hE
  simp only at hE
  have hp':F.idx[((m:Nat):Int).toNat]? = some p:=by rw[Int.toNat_natCast]; exact hp
  obtain ⟨q1,q2,q3⟩:=pgOf_pairs (c:=contF D nm) hp'
  refine wp_join rfl ?_
  unfold TFGet_j1
  refine wp_br (fun q=>by cases q) (fun _=>wp_callr (oPairs ok hd (by simp only; omega) hp' (hF.par p (List.mem_of_getElem? hp)) rfl rfl) ?_)
  dsimp only
  rw[q1]
  refine wp_sp (fun x=>?_) (fun x=>?_)
  ·have x:(pairsI (contF D nm) p).2≠0:=by simpa using x
   rw[if_pos x] at hE
   rw[hE,(pairs_e (contF D nm) p).resolve_left x]
   exact wp_leaf rfl ⟨rfl,rfl⟩
  ·have x:(pairsI (contF D nm) p).2=0:=by simpa using x
   rw[if_neg (fun e=>e x)] at hE
   have hr:=q2 x
   obtain ⟨o1,o2⟩:=readI_ok hr
   refine wp_call (gAllP_eq (by omega)) ?_
   rw[hr]
   dsimp only
   refine wp_call (gEnts_eq (fun p hp=>by have:=o1 p hp; omega) (by omega)) ?_
   have hX:entsX (pairsI (contF D nm) p).1=match entsI (pairsI (contF D nm) p).1 with | none=>([],12) | some E=>(E,0):=rfl
   have hEl:∀ (L:List Par) (E:List Ent),entsI L=some E→E.length=L.length:=by
    intro L
    induction L with
    | nil=>intro E h; cases h; rfl
    | cons q L ih=>
     intro E h
     rw[entsI] at h
     split at h
     ·cases h
     ·cases he:entsI L with
      | none=>rw[he] at h; cases h
      | some G=>rw[he] at h; cases h; rw[List.length_cons,List.length_cons,ih G he]
   cases he:entsI (pairsI (contF D nm) p).1 with
   | none=>
    rw[he] at hE hX
    simp only at hE hX
    rw[hX,hE]
    exact wp_sp (fun _=>wp_leaf rfl ⟨rfl,rfl⟩) (fun q=>by simp at q)
   | some L=>
    have hll:=hEl _ _ he
    rw[he] at hE hX
    simp only at hE hX
    rw[hX]
    dsimp only
    rw[find_idx] at hE
    refine wp_sp (fun q=>by simp at q) (fun _=>wp_callr (oIdxF (b:=3) (w:=(⟨k,seq,false,⟨#[]⟩⟩:Ent)) (by omega) rfl) ?_)
    have hI:idxE L (⟨k,seq,false,⟨#[]⟩⟩:Ent)=match L.findIdx? (fun y=>decide (0≤cmpE y (⟨k,seq,false,⟨#[]⟩⟩:Ent))) with | none=> -1 | some k=>k:=rfl
    cases hf:L.findIdx? (fun y=>decide (0≤cmpE y (⟨k,seq,false,⟨#[]⟩⟩:Ent))) with
    | none=>
     rw[hf] at hE hI
     simp only[Option.bind_none] at hE hI
     rw[hI,hE]
     refine wp_sp (fun _=>wp_join rfl ?_) (fun q=>absurd (of_decide_eq_false q) (by decide))
     unfold TFGet_j2
     exact wp_br (fun _=>wp_leaf rfl ⟨rfl,rfl⟩) (fun q=>by cases q)
    | some t=>
     rw[hf] at hE hI
     simp only[Option.bind_some] at hE hI
     have htl:t<L.length:=by
      obtain ⟨h,_⟩:=List.findIdx?_eq_some_iff_getElem.1 hf
      exact h
     obtain ⟨y,hy⟩:∃ y,L[t]? = some y:=⟨_,List.getElem?_eq_getElem htl⟩
     rw[hy] at hE
     simp only at hE
     rw[hI]
     refine wp_sp (fun q=>absurd (of_decide_eq_true q) (by omega)) (fun _=>wp_elem0 y (by omega) (by rw[Int.toNat_natCast]; exact hy) (wp_sp (fun q=>wp_join rfl ?_) (fun q=>wp_join rfl ?_)))
     ·have hne:y.key≠k:=fun e=>by rw[e] at q; simp at q
      rw[if_pos hne] at hE
      rw[hE]
      unfold TFGet_j2
      exact wp_br (fun _=>wp_leaf rfl ⟨rfl,rfl⟩) (fun q=>by cases q)
     ·have heq:y.key=k:=by
       have q:(y.key.toList == k.toList)=true:=by simpa using q
       rw[ByteArray.toList_eq,ByteArray.toList_eq,beq_iff_eq] at q
       exact ByteArray.ext (Array.toList_inj.1 q)
      rw[if_neg (fun e=>e heq)] at hE
      rw[hE]
      unfold TFGet_j2
      exact wp_br (fun q=>by cases q) (fun _=>wp_elem0 y (by simp only; omega) (by simp only; rw[Int.toNat_natCast]; exact hy) (wp_leaf rfl ⟨rfl,rfl⟩))
 ·rw[if_pos (.inr b)] at hE
  exact wp_join rfl (none0 hE _)))
 (sound_genT mixedD Γ0_ok Δ0_ok hfFGet heFGet hbFGet (by
 rintro args B r B' ⟨k,seq,rfl,rfl,rfl,rfl⟩
 refine ⟨by rw[hnFGet]; rfl,_,TNGet_chk k seq,?_⟩
 unfold TNGet
 exact wp_leaf rfl ⟨rfl,rfl⟩))).mono (fun _ _ _ _ h=>h)
section
variable {B : List Box} {b l : Nat} {D : Dsk} {nm : ByteArray} {F : FileR} {k : ByteArray} {seq : Int}
theorem oFGet (ok:D.Ok) (hd:D.down=false) (hF:FOk F) (hk:k.size≤1000000) (hs:0≤seq∧seq<18446744073709551616) (hb:B[b]? = some (dskB D)) (hl:B[l]? = some (filC b nm F)):
  liftR OFGet [.ptr l 0 0,vs k,vn .u64 seq] B (.tup [entE.av (getE (contF D nm) F k seq).1,vb (getE (contF D nm) F k seq).2.1,vi (getE (contF D nm) F k seq).2.2]) B:=
 lift_file (R:=OFGet) (.inl ⟨D,nm,F,k,seq,ok,hd,hF,hk,hs,rfl,rfl,rfl,rfl⟩) hb hl (fun _ _=>rfl) (fun _=>rfl) rfl
end
end Go.Ax

namespace Go.Ax
open Go.Proofs Go.RowKit
set_option maxRecDepth 100000

noncomputable def ΓO1:Env:=envP [(iLittle,gLittle),(iParP,gParP),(iAllP,gAllP),(iBParse,gBParse),(iOuter,gOuter)]
noncomputable def ΔO1:REnv:=envR [(iSize,liftR OSize),(iGetF,liftR OGetF),(iFPage,liftR OFPage)]
noncomputable def ΓO2:Env:=envP [(iFMake,gFMake)]
noncomputable def ΔO2:REnv:=envR [(iDown,liftR ODown),(iRoom,liftR ORoom),(iCreate,liftR OCreate),(iAppend,takeR OAppend),(iSync,liftR OSync)]

abbrev iFOpen:Nat:=32
noncomputable abbrev nFOpen:Func:=Tryd.f32
theorem hfFOpen:DP.funcs[iFOpen]? = some nFOpen:=by kernel_rfl
theorem heFOpen:enters DP iFOpen=true:=by kernel_rfl
theorem hbFOpen:nFOpen.body.isSome=true:=by kernel_rfl
theorem hnFOpen:nFOpen.ntmps=161:=by kernel_rfl
abbrev iFWrite:Nat:=31
noncomputable abbrev nFWrite:Func:=Tryd.f31
theorem hfFWrite:DP.funcs[iFWrite]? = some nFWrite:=by kernel_rfl
theorem heFWrite:enters DP iFWrite=true:=by kernel_rfl
theorem hbFWrite:nFWrite.body.isSome=true:=by kernel_rfl
theorem hnFWrite:nFWrite.ntmps=47:=by kernel_rfl

noncomputable def TFOpen_l2_e (D:Dsk) (nm:ByteArray) (s2:(List Int)×Int):St:=([(0, .op 0),(1,vs nm),(8,vl (((getF (contF D nm) (((sizeD D nm).1) - 52) 52).1).map byteE.f)),(9, .ptr 1 0 0),(41,vi s2.2)],[.obj [] (diskP D), .cells false 0 (rowC (s2.1.map intE.f))])
noncomputable def TFOpen_l2_x (D:Dsk) (x2:Unit):AE×St:=(.ret,([(4, .p (.v (.pointer none))),(5,vi 12)],[.obj [] (diskP D)]))
noncomputable def TFOpen_l2_x' (D:Dsk) (nm:ByteArray) (y2:(List Int)):AE×St:=((.exit 0),([(0, .op 0),(1,vs nm),(9, .ptr 1 0 0)],[.obj [] (diskP D), .cells false 0 (rowC (y2.map intE.f))]))
noncomputable def TFOpen_l2_b (D:Dsk) (nm:ByteArray) (s2:(List Int)×Int):Tree:=
.sp 42 (decide (s2.2<(5:Int))) (
.int 46 (IntKind.i64.wrap (8*s2.2)) (8*s2.2) (.int 48 (IntKind.i64.wrap (8*s2.2)) (8*s2.2) (.int 49 (IntKind.i64.wrap ((8*s2.2)+8)) ((8*s2.2)+8) (.cut 50 (((getF (contF D nm) (((sizeD D nm).1) - 52) 52).1).map byteE.f) (some (8*s2.2)) (some ((8*s2.2)+8)) byteE ((getF (contF D nm) (((sizeD D nm).1) - 52) 52).1) (.call 51 (gLittle [vl ((cutL (some (8*s2.2)) (some ((8*s2.2)+8)) ((getF (contF D nm) (((sizeD D nm).1) - 52) 52).1)).map byteE.f)]=some (vn .u64 (littleI (cutL (some (8*s2.2)) (some ((8*s2.2)+8)) ((getF (contF D nm) (((sizeD D nm).1) - 52) 52).1))))) (vn .u64 (littleI (cutL (some (8*s2.2)) (some ((8*s2.2)+8)) ((getF (contF D nm) (((sizeD D nm).1) - 52) 52).1)))) (.sp 53 (decide ((littleI (cutL (some (8*s2.2)) (some ((8*s2.2)+8)) ((getF (contF D nm) (((sizeD D nm).1) - 52) 52).1)))>(67108864:Int))) (
.leaf ⟨[4,5],[(0,0,none)]⟩ [] .ret (some (TFOpen_l2_x D ()).2)) (
.int 56 (IntKind.i64.wrap ((littleI (cutL (some (8*s2.2)) (some ((8*s2.2)+8)) ((getF (contF D nm) (((sizeD D nm).1) - 52) 52).1))))) ((littleI (cutL (some (8*s2.2)) (some ((8*s2.2)+8)) ((getF (contF D nm) (((sizeD D nm).1) - 52) 52).1)))) (.pidx 57 5 s2.2 (.rstore none (rowC (s2.1.map intE.f)) (0+Int.toNat s2.2*1) [vi (littleI (cutL (some (8*s2.2)) (some ((8*s2.2)+8)) ((getF (contF D nm) (((sizeD D nm).1) - 52) 52).1)))] intE s2.1 s2.2 (littleI (cutL (some (8*s2.2)) (some ((8*s2.2)+8)) ((getF (contF D nm) (((sizeD D nm).1) - 52) 52).1))) (.int 58 (IntKind.i64.wrap (s2.2+1)) (s2.2+1) (.leaf ⟨[0,1,8,9,41],[(0,0,none),(1,0,some ((s2.1.set (Int.toNat s2.2) (littleI (cutL (some (8*s2.2)) (some ((8*s2.2)+8)) ((getF (contF D nm) (((sizeD D nm).1) - 52) 52).1)))).map intE.f))]⟩ [rowC ((s2.1.set (Int.toNat s2.2) (littleI (cutL (some (8*s2.2)) (some ((8*s2.2)+8)) ((getF (contF D nm) (((sizeD D nm).1) - 52) 52).1)))).map intE.f)] .normal (some (TFOpen_l2_e D nm (s2.1.set (Int.toNat s2.2) (littleI (cutL (some (8*s2.2)) (some ((8*s2.2)+8)) ((getF (contF D nm) (((sizeD D nm).1) - 52) 52).1))),s2.2+1)))))))))))))) (
.leaf ⟨[0,1,9],[(0,0,none),(1,0,some (s2.1.map intE.f))]⟩ [rowC (s2.1.map intE.f)] (.exit 0) (some (TFOpen_l2_x' D nm s2.1).2))
noncomputable def TFOpen_j3_e (D:Dsk) (nm:ByteArray) (e1:Int) (e4:Int) (e5:Int) (e6:Par) (j3:(List Par)×ByteArray):St:=([(12, .ptr 1 0 0)],[.obj [] (diskP D), .cells false 0 ([.op 0,vs nm,vl (j3.1.map parE.f),vl (((bpI ((getF (contF D nm) e4 e5).1)).1).map byteE.f),vi e1,vs j3.2,vs (((outI e6.name.data.toList).1).key)])])
noncomputable def TFOpen_j3 (D:Dsk) (nm:ByteArray) (e1:Int) (e4:Int) (e5:Int) (e6:Par) (j3:(List Par)×ByteArray):Tree:=
.leaf ⟨[0],[(0,0,none),(1,0,none)]⟩ [] .ret (some ([(0, .tup [.ptr 1 0 0,vi 0])],[.obj [] (diskP D), .cells false 0 ([.op 0,vs nm,vl (j3.1.map parE.f),vl (((bpI ((getF (contF D nm) e4 e5).1)).1).map byteE.f),vi e1,vs j3.2,vs (((outI e6.name.data.toList).1).key)])]))
noncomputable def TFOpen (D:Dsk) (nm:ByteArray):Tree:=
.callr (some 20) (ΔO1 63 [.op 0,vs nm] [.obj [] (diskP D)] (.tup [vi ((sizeD D nm).1),vi ((sizeD D nm).2)]) [.obj [] (diskP D)]) (.tup [vi ((sizeD D nm).1),vi ((sizeD D nm).2)]) [.obj [] (diskP D)] (.sp 24 (((sizeD D nm).2) != (0:Int)) (
.leaf ⟨[0],[(0,0,none)]⟩ [] .ret (some ([(0, .tup [.p (.v (.pointer none)),vi ((sizeD D nm).2)])],[.obj [] (diskP D)]))) (
.int 30 (IntKind.i64.wrap (((sizeD D nm).1) - 52)) (((sizeD D nm).1) - 52) (.callr (some 32) (ΔO1 64 [.op 0,vs nm, .agg [vi (((sizeD D nm).1) - 52),vi 52]] [.obj [] (diskP D)] (.tup [vl (((getF (contF D nm) (((sizeD D nm).1) - 52) 52).1).map byteE.f),vi ((getF (contF D nm) (((sizeD D nm).1) - 52) 52).2)]) [.obj [] (diskP D)]) (.tup [vl (((getF (contF D nm) (((sizeD D nm).1) - 52) 52).1).map byteE.f),vi ((getF (contF D nm) (((sizeD D nm).1) - 52) 52).2)]) [.obj [] (diskP D)] (.sp 36 (((getF (contF D nm) (((sizeD D nm).1) - 52) 52).2) != (0:Int)) (
.leaf ⟨[0],[(0,0,none)]⟩ [] .ret (some ([(0, .tup [.p (.v (.pointer none)),vi ((getF (contF D nm) (((sizeD D nm).1) - 52) 52).2)])],[.obj [] (diskP D)]))) (
.int 39 ((((getF (contF D nm) (((sizeD D nm).1) - 52) 52).1).map byteE.f).length:Int) (((getF (contF D nm) (((sizeD D nm).1) - 52) 52).1).length:Int) (.sp 40 ((((getF (contF D nm) (((sizeD D nm).1) - 52) 52).1).length:Int) != (40:Int)) (
.leaf ⟨[0],[(0,0,none)]⟩ [] .ret (some ([(0, .tup [.p (.v (.pointer none)),vi 12])],[.obj [] (diskP D)]))) (
.loop ⟨[0,1,8,9,41],[(0,0,none),(1,0,none)]⟩ [] (some (TFOpen_l2_e D nm ([0,0,0,0,0],0))) (TFOpen_l2_e D nm) (TFOpen_l2_x D) (TFOpen_l2_x' D nm) ([0,0,0,0,0],0) (TFOpen_l2_b D nm) (fun (x2:Unit)=> .leaf ⟨[0],[(0,0,none)]⟩ [] .ret (some ([(0, .tup [.p (.v (.pointer none)),vi 12])],[.obj [] (diskP D)]))) (fun (y2:(List Int))=> .pidx 61 5 4 (.rload 62 (rowC (y2.map intE.f)) (0+Int.toNat 4*1) intE y2 4 0 (fun e1=> .pidx 68 5 0 (.rload 69 (rowC (y2.map intE.f)) (0+Int.toNat 0*1) intE y2 0 0 (fun e2=> .pidx 70 5 1 (.rload 71 (rowC (y2.map intE.f)) (0+Int.toNat 1*1) intE y2 1 0 (fun e3=> .callr (some 73) (ΔO1 64 [.op 0,vs nm, .agg [vi e2,vi e3]] [.obj [] (diskP D), .cells false 0 (rowC (y2.map intE.f)), .cells false 0 ([.op 0,vs nm,nilS,nilS,vi e1,vs (⟨#[]⟩),vs (⟨#[]⟩)])] (.tup [vl (((getF (contF D nm) e2 e3).1).map byteE.f),vi ((getF (contF D nm) e2 e3).2)]) [.obj [] (diskP D), .cells false 0 (rowC (y2.map intE.f)), .cells false 0 ([.op 0,vs nm,nilS,nilS,vi e1,vs (⟨#[]⟩),vs (⟨#[]⟩)])]) (.tup [vl (((getF (contF D nm) e2 e3).1).map byteE.f),vi ((getF (contF D nm) e2 e3).2)]) [.obj [] (diskP D), .cells false 0 (rowC (y2.map intE.f)), .cells false 0 ([.op 0,vs nm,nilS,nilS,vi e1,vs (⟨#[]⟩),vs (⟨#[]⟩)])] (.sp 77 (((getF (contF D nm) e2 e3).2) != (0:Int)) (
.leaf ⟨[0],[(0,0,none)]⟩ [] .ret (some ([(0, .tup [.p (.v (.pointer none)),vi ((getF (contF D nm) e2 e3).2)])],[.obj [] (diskP D)]))) (
.call 81 (gParP [vl (((getF (contF D nm) e2 e3).1).map byteE.f)]=some (.tup [.agg [vl ((pgB ((getF (contF D nm) e2 e3).1)).map byteE.f),vl ((pgW ((getF (contF D nm) e2 e3).1)).map intE.f)],vi (pgE ((getF (contF D nm) e2 e3).1))])) (.tup [.agg [vl ((pgB ((getF (contF D nm) e2 e3).1)).map byteE.f),vl ((pgW ((getF (contF D nm) e2 e3).1)).map intE.f)],vi (pgE ((getF (contF D nm) e2 e3).1))]) (.sp 85 ((pgE ((getF (contF D nm) e2 e3).1)) != (0:Int)) (
.leaf ⟨[0],[(0,0,none)]⟩ [] .ret (some ([(0, .tup [.p (.v (.pointer none)),vi 12])],[.obj [] (diskP D)]))) (
.call 88 (gAllP [.agg [vl ((pgB ((getF (contF D nm) e2 e3).1)).map byteE.f),vl ((pgW ((getF (contF D nm) e2 e3).1)).map intE.f)]]=some (vl (((readI (pgB ((getF (contF D nm) e2 e3).1))).1).map parE.f))) (vl (((readI (pgB ((getF (contF D nm) e2 e3).1))).1).map parE.f)) (.int 95 ((((readI (pgB ((getF (contF D nm) e2 e3).1))).1).map parE.f).length:Int) (((readI (pgB ((getF (contF D nm) e2 e3).1))).1).length:Int) (.sp 96 ((((readI (pgB ((getF (contF D nm) e2 e3).1))).1).length:Int) == (0:Int)) (
.leaf ⟨[0],[(0,0,none)]⟩ [] .ret (some ([(0, .tup [.p (.v (.pointer none)),vi 12])],[.obj [] (diskP D)]))) (
.pidx 100 5 2 (.rload 101 (rowC (y2.map intE.f)) (0+Int.toNat 2*1) intE y2 2 0 (fun e4=> .pidx 102 5 3 (.rload 103 (rowC (y2.map intE.f)) (0+Int.toNat 3*1) intE y2 3 0 (fun e5=> .callr (some 105) (ΔO1 64 [.op 0,vs nm, .agg [vi e4,vi e5]] [.obj [] (diskP D), .cells false 0 (rowC (y2.map intE.f)), .cells false 0 ([.op 0,vs nm,vl (((readI (pgB ((getF (contF D nm) e2 e3).1))).1).map parE.f),nilS,vi e1,vs (⟨#[]⟩),vs (⟨#[]⟩)]), .cells false 0 ([vl ((pgB ((getF (contF D nm) e2 e3).1)).map byteE.f),vl ((pgW ((getF (contF D nm) e2 e3).1)).map intE.f)])] (.tup [vl (((getF (contF D nm) e4 e5).1).map byteE.f),vi ((getF (contF D nm) e4 e5).2)]) [.obj [] (diskP D), .cells false 0 (rowC (y2.map intE.f)), .cells false 0 ([.op 0,vs nm,vl (((readI (pgB ((getF (contF D nm) e2 e3).1))).1).map parE.f),nilS,vi e1,vs (⟨#[]⟩),vs (⟨#[]⟩)]), .cells false 0 ([vl ((pgB ((getF (contF D nm) e2 e3).1)).map byteE.f),vl ((pgW ((getF (contF D nm) e2 e3).1)).map intE.f)])]) (.tup [vl (((getF (contF D nm) e4 e5).1).map byteE.f),vi ((getF (contF D nm) e4 e5).2)]) [.obj [] (diskP D), .cells false 0 (rowC (y2.map intE.f)), .cells false 0 ([.op 0,vs nm,vl (((readI (pgB ((getF (contF D nm) e2 e3).1))).1).map parE.f),nilS,vi e1,vs (⟨#[]⟩),vs (⟨#[]⟩)]), .cells false 0 ([vl ((pgB ((getF (contF D nm) e2 e3).1)).map byteE.f),vl ((pgW ((getF (contF D nm) e2 e3).1)).map intE.f)])] (.sp 109 (((getF (contF D nm) e4 e5).2) != (0:Int)) (
.leaf ⟨[0],[(0,0,none)]⟩ [] .ret (some ([(0, .tup [.p (.v (.pointer none)),vi ((getF (contF D nm) e4 e5).2)])],[.obj [] (diskP D)]))) (
.call 114 (gBParse [vl (((getF (contF D nm) e4 e5).1).map byteE.f)]=some (.tup [.agg [vl (((bpI ((getF (contF D nm) e4 e5).1)).1).map byteE.f)],vi ((bpI ((getF (contF D nm) e4 e5).1)).2)])) (.tup [.agg [vl (((bpI ((getF (contF D nm) e4 e5).1)).1).map byteE.f)],vi ((bpI ((getF (contF D nm) e4 e5).1)).2)]) (.sp 120 (((bpI ((getF (contF D nm) e4 e5).1)).2) != (0:Int)) (
.leaf ⟨[0],[(0,0,none)]⟩ [] .ret (some ([(0, .tup [.p (.v (.pointer none)),vi 12])],[.obj [] (diskP D)]))) (
.callr (some 123) (ΔO1 37 [.ptr 2 0 0,vi 0] [.obj [] (diskP D), .cells false 0 (rowC (y2.map intE.f)), .cells false 0 ([.op 0,vs nm,vl (((readI (pgB ((getF (contF D nm) e2 e3).1))).1).map parE.f),vl (((bpI ((getF (contF D nm) e4 e5).1)).1).map byteE.f),vi e1,vs (⟨#[]⟩),vs (⟨#[]⟩)]), .cells false 0 ([vl ((pgB ((getF (contF D nm) e2 e3).1)).map byteE.f),vl ((pgW ((getF (contF D nm) e2 e3).1)).map intE.f)])] (.tup [vl (((pageI (contF D nm) ((readI (pgB ((getF (contF D nm) e2 e3).1))).1) 0).1).map entE.f),vi ((pageI (contF D nm) ((readI (pgB ((getF (contF D nm) e2 e3).1))).1) 0).2)]) [.obj [] (diskP D), .cells false 0 (rowC (y2.map intE.f)), .cells false 0 ([.op 0,vs nm,vl (((readI (pgB ((getF (contF D nm) e2 e3).1))).1).map parE.f),vl (((bpI ((getF (contF D nm) e4 e5).1)).1).map byteE.f),vi e1,vs (⟨#[]⟩),vs (⟨#[]⟩)]), .cells false 0 ([vl ((pgB ((getF (contF D nm) e2 e3).1)).map byteE.f),vl ((pgW ((getF (contF D nm) e2 e3).1)).map intE.f)])]) (.tup [vl (((pageI (contF D nm) ((readI (pgB ((getF (contF D nm) e2 e3).1))).1) 0).1).map entE.f),vi ((pageI (contF D nm) ((readI (pgB ((getF (contF D nm) e2 e3).1))).1) 0).2)]) [.obj [] (diskP D), .cells false 0 (rowC (y2.map intE.f)), .cells false 0 ([.op 0,vs nm,vl (((readI (pgB ((getF (contF D nm) e2 e3).1))).1).map parE.f),vl (((bpI ((getF (contF D nm) e4 e5).1)).1).map byteE.f),vi e1,vs (⟨#[]⟩),vs (⟨#[]⟩)]), .cells false 0 ([vl ((pgB ((getF (contF D nm) e2 e3).1)).map byteE.f),vl ((pgW ((getF (contF D nm) e2 e3).1)).map intE.f)])] (.sp 127 (((pageI (contF D nm) ((readI (pgB ((getF (contF D nm) e2 e3).1))).1) 0).2) != (0:Int)) (
.leaf ⟨[0],[(0,0,none)]⟩ [] .ret (some ([(0, .tup [.p (.v (.pointer none)),vi ((pageI (contF D nm) ((readI (pgB ((getF (contF D nm) e2 e3).1))).1) 0).2)])],[.obj [] (diskP D)]))) (
.int 138 ((((readI (pgB ((getF (contF D nm) e2 e3).1))).1).map parE.f).length:Int) (((readI (pgB ((getF (contF D nm) e2 e3).1))).1).length:Int) (.int 139 (IntKind.i64.wrap ((((readI (pgB ((getF (contF D nm) e2 e3).1))).1).length:Int) - 1)) ((((readI (pgB ((getF (contF D nm) e2 e3).1))).1).length:Int) - 1) (.elem 140 (((readI (pgB ((getF (contF D nm) e2 e3).1))).1).map parE.f) parE ((readI (pgB ((getF (contF D nm) e2 e3).1))).1) ((((readI (pgB ((getF (contF D nm) e2 e3).1))).1).length:Int) - 1) (fun e6=> .call 143 (gOuter [vs e6.name]=some (.tup [(entE.av ((outI e6.name.data.toList).1)),vi ((outI e6.name.data.toList).2)])) (.tup [(entE.av ((outI e6.name.data.toList).1)),vi ((outI e6.name.data.toList).2)]) (.sp 147 (((outI e6.name.data.toList).2) != (0:Int)) (
.leaf ⟨[0],[(0,0,none)]⟩ [] .ret (some ([(0, .tup [.p (.v (.pointer none)),vi 12])],[.obj [] (diskP D)]))) (
.any (.elem 151 (((pageI (contF D nm) ((readI (pgB ((getF (contF D nm) e2 e3).1))).1) 0).1).map entE.f) entE ((pageI (contF D nm) ((readI (pgB ((getF (contF D nm) e2 e3).1))).1) 0).1) 0 (fun e7=> .fork (
.join ⟨[12],[(0,0,none),(2,0,none)]⟩ [] (some (TFOpen_j3_e D nm e1 e4 e5 e6 ((readI (pgB ((getF (contF D nm) e2 e3).1))).1,e7.key))) (TFOpen_j3_e D nm e1 e4 e5 e6) ((readI (pgB ((getF (contF D nm) e2 e3).1))).1,e7.key) (TFOpen_j3 D nm e1 e4 e5 e6)) (
.join ⟨[12],[(0,0,none),(2,0,none)]⟩ [] (some (TFOpen_j3_e D nm e1 e4 e5 e6 ((readI (pgB ((getF (contF D nm) e2 e3).1))).1,e7.key))) (TFOpen_j3_e D nm e1 e4 e5 e6) ((readI (pgB ((getF (contF D nm) e2 e3).1))).1,e7.key) (TFOpen_j3 D nm e1 e4 e5 e6))))))))))))))))))))))))))))))))))))))))

theorem TFOpen_chk (D:Dsk) (nm:ByteArray):fnC DP ΓO1 ΔO1 Tryd.f32 [.op 0,vs nm] [.obj [] (diskP D)] (TFOpen D nm)=TFOpen D nm:=by kernel_rfl

noncomputable def TFWrite (D:Dsk) (nm:ByteArray) (L:List Ent):Tree:=
.call 14 (gFMake [vl (L.map entE.f)]=some (.tup [vl ((fileY L).map byteE.f),vi 0])) (.tup [vl ((fileY L).map byteE.f),vi 0]) (.callr (some 23) (ΔO2 58 [.op 0] [.obj [] (diskP D)] (vb ((D).down)) [.obj [] (diskP D)]) (vb ((D).down)) [.obj [] (diskP D)] (.sp 23 ((D).down) (
.leaf ⟨[0],[(0,0,none)]⟩ [] .ret (some ([(0, .tup [vi 0,vi 10])],[.obj [] (diskP D)]))) (
.int 25 (((fileY L).map byteE.f).length:Int) ((fileY L).length:Int) (.callr (some 27) (ΔO2 59 [.op 0] [.obj [] (diskP D)] (vi ((D).room - (D).used)) [.obj [] (diskP D)]) (vi ((D).room - (D).used)) [.obj [] (diskP D)] (.sp 28 (decide (((fileY L).length:Int)>((D).room - (D).used))) (
.leaf ⟨[0],[(0,0,none)]⟩ [] .ret (some ([(0, .tup [vi 0,vi 11])],[.obj [] (diskP D)]))) (
.callr (some 31) (ΔO2 60 [.op 0,vs nm] [.obj [] (diskP D)] (vi ((createD D nm).2)) [.obj [] (diskP ((createD D nm).1))]) (vi ((createD D nm).2)) [.obj [] (diskP ((createD D nm).1))] (.sp 33 (((createD D nm).2) != (0:Int)) (
.leaf ⟨[0],[(0,0,none)]⟩ [] .ret (some ([(0, .tup [vi 0,vi ((createD D nm).2)])],[.obj [] (diskP ((createD D nm).1))]))) (
.callr (some 38) (ΔO2 61 [.op 0,vs nm,vl ((fileY L).map byteE.f)] [.obj [] (diskP ((createD D nm).1))] (vi ((appendD ((createD D nm).1) nm (fileY L)).2)) [.obj [] (diskP ((appendD ((createD D nm).1) nm (fileY L)).1))]) (vi ((appendD ((createD D nm).1) nm (fileY L)).2)) [.obj [] (diskP ((appendD ((createD D nm).1) nm (fileY L)).1))] (.sp 40 (((appendD ((createD D nm).1) nm (fileY L)).2) != (0:Int)) (
.leaf ⟨[0],[(0,0,none)]⟩ [] .ret (some ([(0, .tup [vi 0,vi ((appendD ((createD D nm).1) nm (fileY L)).2)])],[.obj [] (diskP ((appendD ((createD D nm).1) nm (fileY L)).1))]))) (
.int 43 (((fileY L).map byteE.f).length:Int) ((fileY L).length:Int) (.callr (some 46) (ΔO2 62 [.op 0,vs nm] [.obj [] (diskP ((appendD ((createD D nm).1) nm (fileY L)).1))] (vi ((syncD ((appendD ((createD D nm).1) nm (fileY L)).1) nm).2)) [.obj [] (diskP ((syncD ((appendD ((createD D nm).1) nm (fileY L)).1) nm).1))]) (vi ((syncD ((appendD ((createD D nm).1) nm (fileY L)).1) nm).2)) [.obj [] (diskP ((syncD ((appendD ((createD D nm).1) nm (fileY L)).1) nm).1))] (.leaf ⟨[0],[(0,0,none)]⟩ [] .ret (some ([(0, .tup [vi ((fileY L).length:Int),vi ((syncD ((appendD ((createD D nm).1) nm (fileY L)).1) nm).2)])],[.obj [] (diskP ((syncD ((appendD ((createD D nm).1) nm (fileY L)).1) nm).1))]))))))))))))))

theorem TFWrite_chk (D:Dsk) (nm:ByteArray) (L:List Ent):fnC DP ΓO2 ΔO2 Tryd.f31 [.op 0,vs nm,vl (L.map entE.f)] [.obj [] (diskP D)] (TFWrite D nm L)=TFWrite D nm L:=by kernel_rfl

end Go.Ax

namespace Go.Ax
open Go.Proofs Go.RowKit
set_option maxRecDepth 100000

theorem ΓO1_ok:∀ f,SoundF DP f (ΓO1 f):=envP_cons SLittle (envP_cons SParP (envP_cons SAllP (envP_cons SBParse (envP_cons SOuter envP_nil))))
theorem ΔO1_ok:∀ f,SoundR DP f (ΔO1 f):=envR_cons (lift_sound SSize) (envR_cons (lift_sound SGetF) (envR_cons (lift_sound SFPage) envR_nil))
theorem ΓO2_ok:∀ f,SoundF DP f (ΓO2 f):=envP_cons SFMake envP_nil
theorem ΔO2_ok:∀ f,SoundR DP f (ΔO2 f):=envR_cons (lift_sound SDown) (envR_cons (lift_sound SRoom) (envR_cons (lift_sound SCreate) (envR_cons (take_sound SAppend) (envR_cons (lift_sound SSync) envR_nil))))
def opQ (e:List UInt8):Nat→Nat→List Int→Unit ⊕ List Int
 | 0,_,ns=> .inr ns
 | j+1,i,ns=>if numF e i>67108864 then .inl () else opQ e j (i+1) (ns.set i (numF e i))
theorem opQ_5 (e:List UInt8):opQ e 5 0 [0,0,0,0,0]=if ((List.range 5).any fun i=>decide (numF e i>67108864))=true then .inl () else .inr [numF e 0,numF e 1,numF e 2,numF e 3,numF e 4]:=by
 have hr:List.range 5= [0,1,2,3,4]:=rfl
 rw[hr]
 by_cases h0:numF e 0>67108864
 ·simp[opQ,h0]
 by_cases h1:numF e 1>67108864
 ·simp[opQ,h0,h1]
 by_cases h2:numF e 2>67108864
 ·simp[opQ,h0,h1,h2]
 by_cases h3:numF e 3>67108864
 ·simp[opQ,h0,h1,h2,h3]
 by_cases h4:numF e 4>67108864
 ·simp[opQ,h0,h1,h2,h3,h4]
 ·simp[opQ,h0,h1,h2,h3,h4]
theorem numF_b (e:List UInt8) (i:Nat):0≤numF e i:=(littleI_b _).1
theorem cut_num (e:List UInt8) (i:Nat):littleI (cutL (some (8*(i:Int))) (some (8*(i:Int)+8)) e)=numF e i:=by
 show littleI ((e.take (Int.toNat (8*(i:Int)+8))).drop (Int.toNat (8*(i:Int))))=littleI ((e.drop (8*i)).take 8)
 rw[show Int.toNat (8*(i:Int)+8)=8*i+8 by omega,show Int.toNat (8*(i:Int))=8*i by omega,List.drop_take,show 8*i+8 - 8*i=8 by omega]
theorem op_rounds {D:Dsk} {nm:ByteArray} (h40:(getF (contF D nm) ((sizeD D nm).1 - 52) 52).1.length=40):∀ (j i:Nat) (ns:List Int),i+j=5→ns.length=5 →
  Rounds (TFOpen_l2_e D nm) (TFOpen_l2_x D) (TFOpen_l2_x' D nm) (fun s=>(TFOpen_l2_b D nm s).wp) (ns,(i:Int)) (opQ (getF (contF D nm) ((sizeD D nm).1 - 52) 52).1 j i ns):=by
 intro j
 induction j with
 | zero=>
  intro i ns hi hn
  rw[opQ]
  refine .done' (by intro e; cases e) ?_
  unfold TFOpen_l2_b
  exact wp_sp (fun h'=>absurd (of_decide_eq_true h') (by simp only; omega)) (fun _=>wp_leaf rfl ⟨rfl,rfl⟩)
 | succ j ih=>
  intro i ns hi hn
  have hc:=cut_num (getF (contF D nm) ((sizeD D nm).1 - 52) 52).1 i
  have hb:=numF_b (getF (contF D nm) ((sizeD D nm).1 - 52) 52).1 i
  have hg:=gLittle_eq (b:=cutL (some (8*(i:Int))) (some (8*(i:Int)+8)) (getF (contF D nm) ((sizeD D nm).1 - 52) 52).1) (by simp only[cutL,List.length_drop,List.length_take]; omega)
  rw[hc] at hg
  rw[opQ]
  by_cases h:numF (getF (contF D nm) ((sizeD D nm).1 - 52) 52).1 i>67108864
  ·rw[if_pos h]
   refine .done (by intro e; cases e) ?_
   unfold TFOpen_l2_b
   dsimp only
   rw[hc]
   exact wp_sp (fun _=>wp_i64 (by omega) (wp_i64 (by omega) (wp_i64 (by omega) (wp_cut (by simp only[cutOk]; omega) (wp_call hg (wp_sp (fun _=>wp_leaf rfl ⟨rfl,rfl⟩) (fun q=>absurd h (of_decide_eq_false q)))))))) (fun h'=>absurd (of_decide_eq_false h') (by omega))
  ·rw[if_neg h]
   have hr:=ih (i+1) (ns.set i (numF (getF (contF D nm) ((sizeD D nm).1 - 52) 52).1 i)) (by omega) (by rw[List.length_set]; exact hn)
   rw[show ((i+1:Nat):Int)=(i:Int)+1 by omega] at hr
   refine .next ?_ hr
   unfold TFOpen_l2_b
   dsimp only
   rw[hc]
   refine wp_sp (fun _=>wp_i64 (by omega) (wp_i64 (by omega) (wp_i64 (by omega) (wp_cut (by simp only[cutOk]; omega) (wp_call hg (wp_sp (fun q=>absurd (of_decide_eq_true q) h) (fun _=>wp_i64 (by omega) (wp_pidx (by omega) (by omega) (wp_rstore (by omega) (by omega) (by simp[intE]) rfl (wp_i64 (by omega) (wp_leaf rfl ⟨rfl,?_⟩))))))))))) (fun h'=>absurd (of_decide_eq_false h') (by omega))
   rw[Int.toNat_natCast]
theorem page0_e {c:List UInt8} {idx:List Par} (h:idx≠ []):((pageI c idx 0).2=0∧(pageI c idx 0).1≠ [])∨(pageI c idx 0).2=12:=by
 cases idx with
 | nil=>exact absurd rfl h
 | cons p idx=>
  rw[page_of (i:=0) (by decide) (p:=p) rfl]
  split
  ·exact .inr rfl
  ·split
   ·exact .inr rfl
   ·split
    ·exact .inr rfl
    ·rename_i h; exact .inl ⟨rfl,h⟩
theorem readI_okV {b:List UInt8} {L:List Par} (h:readI b=(L,0)) (hb:b.length≤100000000):(∀ p∈L,ParOk p)∧L.length≤b.length:=by
 unfold readI at h
 cases hA:readA b.length b.length b [] with
 | none=>rw[hA] at h; cases h
 | some M=>
  rw[hA] at h
  cases h
  obtain ⟨h1,h2⟩:=read_ok _ _ _ _ _ hA
  refine ⟨fun p hp=>?_,h2⟩
  have:=h1 p hp
  have e1:p.nl.length=p.name.size:=rfl
  have e2:p.vl.length=p.val.size:=rfl
  simp only[List.length_nil] at this
  exact ⟨by omega,by omega⟩
theorem bp_e (d:List UInt8):((bpI d).2=2)∨((bpI d).2=0∧(bpI d).1.length≤1048576):=by
 unfold bpI
 split
 ·exact .inl rfl
 ·split
  ·exact .inl rfl
  ·exact .inr ⟨rfl,by simp only; omega⟩
theorem openI_steps {c:List UInt8} {f:List UInt8} (hf:getF c (c.length - 52) 52=(f,0)) (h40:f.length=40):openI c =
  (if ((List.range 5).any fun i=>decide (numF f i>67108864))=true then (noFile,12) else
  if (getF c (numF f 0) (numF f 1)).2≠0 then (noFile,12) else
  match parI (getF c (numF f 0) (numF f 1)).1 with
  | none=>(noFile,12)
  | some idx=>if idx= [] then (noFile,12) else if (getF c (numF f 2) (numF f 3)).2≠0 then (noFile,12) else if (bpI (getF c (numF f 2) (numF f 3)).1).2≠0 then (noFile,12) else
   if (pageI c idx 0).2≠0 then (noFile,12) else if (outI (idx.getLastD ⟨⟨#[]⟩,⟨#[]⟩⟩).nl).2≠0 then (noFile,12) else
   (⟨idx,(bpI (getF c (numF f 2) (numF f 3)).1).1,numF f 4,((pageI c idx 0).1.headD noE).key,(outI (idx.getLastD ⟨⟨#[]⟩,⟨#[]⟩⟩).nl).1.key⟩,0):FileR×Int):=by
 unfold openI headI
 rw[hf,if_neg (by rintro (e | e); exact e rfl; exact e h40)]
 simp only
 by_cases h1:((List.range 5).any fun i=>decide (numF f i>67108864))=true
 ·rw[if_pos h1,if_pos h1]
 rw[if_neg h1,if_neg h1]
 by_cases h2:(getF c (numF f 0) (numF f 1)).2≠0
 ·rw[if_pos h2,if_pos h2]
 rw[if_neg h2,if_neg h2]
 cases parI (getF c (numF f 0) (numF f 1)).1 with
 | none=>rfl
 | some idx=>
  simp only
  by_cases h3:idx= []
  ·rw[if_pos h3,if_pos h3]
  rw[if_neg h3,if_neg h3]
  by_cases h4:(getF c (numF f 2) (numF f 3)).2≠0
  ·rw[if_pos h4,if_pos h4]
  rw[if_neg h4,if_neg h4]
  unfold bpI
  cases (getF c (numF f 2) (numF f 3)).1 with
  | nil=>rfl
  | cons b bits=>
   simp only
   by_cases h5:bits.length<8∨bits.length>1048576∨b≠6
   ·rw[if_pos h5,if_pos h5]; rfl
   ·rw[if_neg h5,if_neg h5]; rfl
theorem openI_bad {c:List UInt8} (h:(getF c (c.length - 52) 52).2≠0∨(getF c (c.length - 52) 52).1.length≠40):openI c=(noFile,12):=by
 unfold openI headI
 rw[if_pos h]
theorem par_parts {b:List UInt8} {L:List Par} (h:parI b=some L) (hb:b.length≤100000000):(∀ p∈L,ParOk p)∧L.length≤b.length:=by
 have h1:=par_all h
 have h2:=pgB_len b
 obtain ⟨g1,g2⟩:=readI_okV h1 (by omega)
 exact ⟨g1,by omega⟩
theorem open_ok {c:List UInt8} (hc:c.length≤67108864) (h:(openI c).2=0):FOk (openI c).1:=by
 by_cases hf:(getF c (c.length - 52) 52).2≠0∨(getF c (c.length - 52) 52).1.length≠40
 ·rw[openI_bad hf] at h; cases h
 ·have h1:getF c (c.length - 52) 52=((getF c (c.length - 52) 52).1,0):=by
   rw[Prod.ext_iff]
   exact ⟨rfl,Decidable.not_not.1 fun e=>hf (.inl e)⟩
  have h2:(getF c (c.length - 52) 52).1.length=40:=Decidable.not_not.1 fun e=>hf (.inr e)
  rw[openI_steps h1 h2] at h ⊢
  generalize (getF c (c.length - 52) 52).1=f at *
  split at h
  ·cases h
  ·split at h
   ·cases h
   ·cases hp:parI (getF c (numF f 0) (numF f 1)).1 with
    | none=>rw[hp] at h; cases h
    | some idx=>
     rw[hp] at h
     simp only at h
     have hl:=getF_len c (numF f 0) (numF f 1)
     obtain ⟨g1,g2⟩:=par_parts hp (by omega)
     split at h
     ·cases h
     ·split at h
      ·cases h
      ·split at h
       ·cases h
       ·split at h
        ·cases h
        ·split at h
         ·cases h
         ·rename_i a1 a2 a3 a4 a5 a6 a7
          rw[if_neg (by assumption),if_neg (by assumption)]
          simp only
          rw[if_neg (by assumption),if_neg (by assumption),if_neg (by assumption),if_neg (by assumption),if_neg (by assumption)]
          refine ⟨by simp only; omega,g1,?_⟩
          rcases bp_e (getF c (numF f 2) (numF f 3)).1 with e | e
          ·exact absurd a5 (by rw[e]; decide)
          ·exact Nat.le_trans e.2 (by decide)
end Go.Ax
