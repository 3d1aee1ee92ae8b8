/- The document's example of edit holds. -/
import Derived.Test.YtjlipmcdnigfcaaDoorG41
import Derived.Test.YtjlipmcdnigfcaaDoorG26
set_option linter.unusedVariables false
set_option linter.unusedSimpArgs false
set_option linter.unusedSectionVars false
namespace Go.Ax
open Go.Proofs Go.RowKit
set_option maxRecDepth 100000

theorem Γ16_ok:∀ f,SoundF DP f (Γ16 f):=envP_cons SMetaL (envP_cons SNameF envP_nil)
theorem Δ16_ok:∀ f,SoundR DP f (Δ16 f):=envR_cons (lift_sound SNew)<|envR_cons (lift_sound SLoad)<|envR_cons (SoundR.shutX (lift_sound SDo))<|envR_cons (lift_sound SVer)<|envR_cons (lift_sound SNumb) envR_nil

theorem filN_3:filN 3=(⟨#[102,105,108,101,46,51]⟩:ByteArray):=by
 apply ByteArray.ext
 apply Array.toList_inj.mp
 rw[filN_list (by decide),dec_lt (by decide)]
 rfl
def meta1:Meta:=⟨1,0,⟨#[97]⟩,⟨#[98]⟩,5⟩
def edit1:Edt:=⟨[meta1],[],0,2,0⟩
def vers1:Vers:=⟨[meta1],1,2,0⟩
theorem meta1_ok:meta1.ok=true:=by
 simp[Meta.ok,meta1,ByteArray.toList_eq]
 decide
theorem right1:Right vers1:=right_one meta1_ok (by decide) (by decide) (by decide) (by decide)
theorem apply1:applyL firstV edit1=(vers1,0):=by
 have e4:byNum (leftL [] []++ [meta1])= [meta1]:=byNum_id (L:= [meta1]) (by simp) (fun x hx=>by rw[List.mem_singleton.1 hx]; decide) (List.pairwise_singleton _ _)
 have ew:applyW firstV edit1=vers1:=by
  show (⟨byNum (leftL [] []++ [meta1]),newI 0 1,newI 2 1,newI 0 0⟩:Vers)=vers1
  rw[e4]; rfl
 unfold applyL
 rw[if_neg,ew,if_pos (of_right right1)]
 rintro (h1 | h1 | h1 | h1)
 ·exact h1 rfl
 ·exact absurd h1 (by decide)
 ·exact absurd h1 (by decide)
 ·exact absurd h1 (by decide)
theorem enc1_len:(encI (allE vers1)).length≤200:=by
 have p:∀ n:Int,0≤n∧n<18446744073709551616→(putI n).length≤10:=fun n h=>putI_len n h
 have e:encI (allE vers1)=putI 1++putI 2++putI 0++putI 0++ []++putI 1++(putI 1++putI 0++putI 5++(putI 1++ [97])++(putI 1++ [98])):=by
  simp[encI,headE,allE,vers1,delI,addI,metaI,txtI,meta1,mxI]
  rfl
 rw[e]
 have p0:=p 0 (by decide)
 have p1:=p 1 (by decide)
 have p2:=p 2 (by decide)
 have p5:=p 5 (by decide)
 simp only[List.length_append,List.length_cons,List.length_nil]
 omega
theorem load_new {m:Int}:loadD (newD m)=(0,0,firstV):=by
 unfold loadD
 rw[cont_sizeN live_new (cont_new _ _),if_pos rfl]
theorem do1g {D:Dsk} (h:Live D) (hr:((recB (encI (allE vers1))).length:Int)+(recB (putI 1)).length≤D.room - D.used):
  DoOk firstV false edit1∧(doD D 0 firstV false edit1).2=0∧doM D 0 firstV false edit1=(1,vers1,true)∧Live (doD D 0 firstV false edit1).1∧loadD (doD D 0 firstV false edit1).1=(0,1,vers1):=by
 have hn:=right_num right1 (by decide)
 have he1:=enc1_len
 have hf1:(recB (encI (allE vers1))).length=(encI (allE vers1)).length+12:=recB_len _
 have hp:=putI_len 1 (by decide)
 have hf2:(recB (putI 1)).length=(putI 1).length+12:=recB_len _
 obtain ⟨f1,f2,f3,f4,f5⟩:=fresh_live h (n:=0) (w:=vers1) (by decide) hr
 have ed:doD D 0 firstV false edit1=freshD D 0 vers1:=by
  unfold doD
  rw[apply1,if_neg (by decide),if_neg (by rw[h.up]; decide),if_pos rfl]
 have em:doM D 0 firstV false edit1=(1,vers1,true):=by
  unfold doM
  rw[apply1,if_neg (by decide),if_neg (by rw[h.up]; decide),if_pos rfl]
  unfold freshM
  rw[if_pos f1]
  rfl
 refine ⟨⟨⟨by decide,by decide,by decide⟩,fun _=>by rw[apply1]; decide,fun _ _=>by rw[apply1]; exact ⟨hn.enc,by show (encI (allE vers1)).length≤_; omega⟩,fun _ ho=>by cases ho⟩,by rw[ed]; exact f1,em,by rw[ed]; exact f2,?_⟩
 rw[ed]
 refine load_of f2 (by decide) (by rw[f3,if_pos rfl]; rfl) (c:=recB (encI (allE vers1))) (by rw[f3,if_neg (manN_nn (by decide)).symm,if_neg (manN_ne (by decide)).symm]; exact if_pos rfl) (ts:= [encI (allE vers1)]) (z:=((recB (encI (allE vers1))).length:Int)) ?_ (by simp) (replay_all right1 (by decide))
 have:=allI_recs (ds:= [encI (allE vers1)]) (fun d hd=>by rw[List.mem_singleton.1 hd]; omega)
 simpa using this

theorem do1 {D:Dsk} (h:Live D) (hr:300≤D.room - D.used):
  DoOk firstV false edit1∧(doD D 0 firstV false edit1).2=0∧doM D 0 firstV false edit1=(1,vers1,true)∧Live (doD D 0 firstV false edit1).1∧loadD (doD D 0 firstV false edit1).1=(0,1,vers1):=
 do1g h (by
  have he1:=enc1_len
  have hf1:(recB (encI (allE vers1))).length=(encI (allE vers1)).length+12:=recB_len _
  have hp:=putI_len 1 (by decide)
  have hf2:(recB (putI 1)).length=(putI 1).length+12:=recB_len _
  omega)
theorem seal_edt {B:List Box} {k v:Nat} {L:List Meta} {a b c:PV} (hk:B[k]? = some (metaE.bx v L)):Sealed (fun j=>j=k) B (.agg [.rs k v 5 0 L.length,nilS, .p a, .p b, .p c]) (.agg [vl (L.map metaE.f),vl [], .p a, .p b, .p c]):=by
 refine .agg _ _ rfl fun j c d hc hd=>?_
 match j with
 | 0=>cases hc; cases hd; exact metaE.elt.sealed rfl hk
 | 1=>cases hc; cases hd; exact .nil
 | 2=>cases hc; cases hd; exact .p _
 | 3=>cases hc; cases hd; exact .p _
 | 4=>cases hc; cases hd; exact .p _
 | j+5=>simp at hc
theorem oDoX {B:List Box} {b m k ve:Nat} {D:Dsk} {n:Int} {v:Vers} {o:Bool} {L:List Meta} {lg nx sq:Int} (ok:D.Ok) (hn:0≤n∧n≤1073741824) (hx:DoOk v o ⟨L,[],lg,nx,sq⟩) (hm:B[m]? = some (manB b n v o)) (hb:B[b]? = some (.obj [] (diskP D))) (hk:B[k]? = some (metaE.bx ve L)) (h1:k≠m) (h2:k≠b):
  sealX (liftR ODo) [.ptr m 0 0, .agg [.rs k ve 5 0 L.length,nilS,vi lg,vi nx,vn .u64 sq]] B (vi (doD D n v o ⟨L,[],lg,nx,sq⟩).2) (((B.set k .dead).set m (manB b (doM D n v o ⟨L,[],lg,nx,sq⟩).1 (doM D n v o ⟨L,[],lg,nx,sq⟩).2.1 (doM D n v o ⟨L,[],lg,nx,sq⟩).2.2)).set b (.obj [] (diskP (doD D n v o ⟨L,[],lg,nx,sq⟩).1))):=
 ⟨1,k,_,_,seal_edt hk,rfl,oDo (x:=⟨L,[],lg,nx,sq⟩) ok hn hx (by rw[List.getElem?_set_ne h1]; exact hm) (by rw[List.getElem?_set_ne h2]; exact hb)⟩

def RHeadE:List AV→AV→Prop:=fun args r=>args= []∧r=vb true
noncomputable def gHeadE:=relG RHeadE
theorem gHeadE_eq:gHeadE []=some (vb true):=relG_eq (fun _ _ _ h1 h2=>h1.2.trans h2.2.symm) ⟨rfl,rfl⟩
theorem SHeadE:SoundF DP iHeadE (.pure gHeadE):=sound_pureT mixedD Γ16_ok Δ16_ok hfHeadE heHeadE hbHeadE (by
 rintro args r ⟨rfl,rfl⟩
 have hl:Live (newD 1000):=live_new
 obtain ⟨d1,d2,d3,d4,d5⟩:=do1 hl (by decide)
 have hload:=load_new (m:=1000)
 refine ⟨rfl,rfl,_,THeadE_chk (newD 1000) (doD (newD 1000) 0 firstV false edit1).1 vers1,?_⟩
 have cl:=fun (B:List Box) (hb:B[0]? = some (dkB (newD 1000)))=>oLoad (b:=0) hl.ok (by rw[hload]) hb
 have cl2:=fun (B:List Box) (hb:B[0]? = some (dkB (doD (newD 1000) 0 firstV false edit1).1))=>oLoad (b:=0) d4.ok (by rw[d5]) hb
 rw[hload] at cl
 rw[d5] at cl2
 have cd:=fun (B:List Box) (hm:B[1]? = some (manB 0 0 firstV false)) (hb:B[0]? = some (dkB (newD 1000))) (hk:B[2]? = some (metaE.bx 0 [meta1]))=>oDoX (L:= [meta1]) (lg:=0) (nx:=2) (sq:=0) hl.ok (by decide) d1 hm hb hk (by decide) (by decide)
 change ∀ B,_→_→_→sealX (liftR ODo) [.ptr 1 0 0, .agg [.rs 2 0 5 0 [meta1].length,nilS,vi 0,vi 2,vn .u64 0]] B (vi (doD (newD 1000) 0 firstV false edit1).2) (((B.set 2 .dead).set 1 (manB 0 (doM (newD 1000) 0 firstV false edit1).1 (doM (newD 1000) 0 firstV false edit1).2.1 (doM (newD 1000) 0 firstV false edit1).2.2)).set 0 (.obj [] (diskP (doD (newD 1000) 0 firstV false edit1).1))) at cd
 rw[d2,d3] at cd
 unfold THeadE
 exact wp_callr (oNew 1000) (wp_callr (cl _ rfl) (wp_callr (oNumb (b:=0) rfl rfl) (wp_callr (oVer (b:=0) (by decide) rfl rfl) (wp_sp (fun h=>absurd h (by decide)) (fun _=>wp_call gMetaL_eq (wp_callr (cd _ rfl rfl rfl) (wp_callr (cl2 _ rfl)
  (wp_callr (oNumb (b:=0) rfl rfl) (wp_callr (oNumb (b:=0) rfl rfl) (wp_callr (oVer (b:=0) (by decide) rfl rfl) (wp_len (wp_sp (fun _=>wp_call (gNameF_eq (by decide)) (wp_leaf rfl (by rw[filN_3,beq_self_eq_true]; exact .p _))) (fun h=>absurd h (by decide)))))))))))))))
end Go.Ax

namespace Go.Ax
open Go.Proofs Go.RowKit
set_option maxRecDepth 100000

noncomputable def Γ17:Env:=envP [(29,gHeadE),(42,gDec),(41,gEnc)]

end Go.Ax

namespace Go.Ax
open Go.Proofs Go.RowKit
set_option maxRecDepth 100000

theorem Γ17_ok:∀ f,SoundF DP f (Γ17 f):=envP_cons SHeadE (envP_cons SDec (envP_cons SEnc envP_nil))
end Go.Ax

namespace Go.Ax
open Go.Proofs Go.RowKit
set_option maxRecDepth 100000

end Go.Ax

namespace Go.Ax
open Go.Proofs Go.RowKit
set_option maxRecDepth 100000

section
variable {e : Edt}
end
end Go.Ax

namespace Go.Ax
open Go.Proofs Go.RowKit
set_option maxRecDepth 100000

def RRightL:List AV→AV→Prop:=fun args r=>∃ m:Meta,args= [metaE.av m]∧r=vb m.ok
noncomputable def gRight:=relG RRightL
noncomputable def Γ19:Env:=envP [(70,gRight)]

abbrev iBig:Nat:=30
noncomputable abbrev nBig:Func:=Tryd.f30
theorem hfBig:DP.funcs[iBig]? = some nBig:=by kernel_rfl
theorem heBig:enters DP iBig=true:=by kernel_rfl
theorem hbBig:nBig.body.isSome=true:=by kernel_rfl
abbrev iRightL:Nat:=70
noncomputable abbrev nRightL:Func:=Tryd.f70
theorem hfRightL:DP.funcs[iRightL]? = some nRightL:=by kernel_rfl
theorem heRightL:enters DP iRightL=true:=by kernel_rfl
theorem hbRightL:nRightL.body.isSome=true:=by kernel_rfl
abbrev iLChk:Nat:=32
noncomputable abbrev nLChk:Func:=Tryd.f32
theorem hfLChk:DP.funcs[iLChk]? = some nLChk:=by kernel_rfl
theorem heLChk:enters DP iLChk=true:=by kernel_rfl
theorem hbLChk:nLChk.body.isSome=true:=by kernel_rfl
noncomputable def TBig (v:Vers):Tree:=
.int 5 ((v.files.map metaE.f).length:Int) (v.files.length:Int) (.leaf ⟨[0],[]⟩ [] .ret (some ([(0,vb (decide ((v.files.length:Int)>(30:Int))))],[])))

theorem TBig_chk (v:Vers):fnC DP Γ17 Δ0 Tryd.f30 [.agg [vl (v.files.map metaE.f),vi v.log,vi v.next,vn .u64 v.seq]] [] (TBig v)=TBig v:=by kernel_rfl

noncomputable def TRight (m:Meta):Tree:=
.sp 5 (decide (m.num≥(1:Int))) (
.sp 9 (decide (m.num≤(1073741824:Int))) (
.sp 14 (decide (m.level≥(0:Int))) (
.sp 19 (decide (m.level≤(5:Int))) (
.sp 25 (decide ((m.low.size:Int)≥(1:Int))) (
.sp 31 (decide ((m.low.size:Int)≤(128:Int))) (
.sp 37 (decide ((m.high.size:Int)≤(128:Int))) (
.sp 44 (Op.bytesLess m.low.toList m.high.toList||(m.low.toList == m.high.toList)) (
.sp 49 (decide (m.size≥(0:Int))) (
.leaf ⟨[0],[]⟩ [] .ret (some ([(0,vb (decide (m.size≤(67108864:Int))))],[]))) (
.leaf ⟨[0],[]⟩ [] .ret (some ([(0,vb false)],[])))) (
.leaf ⟨[0],[]⟩ [] .ret (some ([(0,vb false)],[])))) (
.leaf ⟨[0],[]⟩ [] .ret (some ([(0,vb false)],[])))) (
.leaf ⟨[0],[]⟩ [] .ret (some ([(0,vb false)],[])))) (
.leaf ⟨[0],[]⟩ [] .ret (some ([(0,vb false)],[])))) (
.leaf ⟨[0],[]⟩ [] .ret (some ([(0,vb false)],[])))) (
.leaf ⟨[0],[]⟩ [] .ret (some ([(0,vb false)],[])))) (
.leaf ⟨[0],[]⟩ [] .ret (some ([(0,vb false)],[])))) (
.leaf ⟨[0],[]⟩ [] .ret (some ([(0,vb false)],[])))

theorem TRight_chk (m:Meta):fnC DP Γ17 Δ0 Tryd.f70 [(metaE.av m)] [] (TRight m)=TRight m:=by kernel_rfl

noncomputable def TLChk_l1_e (v:Vers) (s1:Int):St:=([(1, .ptr 0 0 0),(35,vl (v.files.map metaE.f)),(36,vi (v.files.length:Int)),(37,vi s1)],[.cells false 0 ([vl (v.files.map metaE.f),vi v.log,vi v.next,vn .u64 v.seq])])
noncomputable def TLChk_l1_x (x1:Unit):AE×St:=(.ret,([(2,vi 1)],[]))
noncomputable def TLChk_l1_x' (y1:Unit):AE×St:=((.exit 0),([],[]))
noncomputable def TLChk_l2_e (v:Vers) (s1:Int) (e1:Meta) (s2:Int):St:=([(1, .ptr 0 0 0),(4, .ptr 1 0 0),(35,vl (v.files.map metaE.f)),(36,vi (v.files.length:Int)),(37,vi s1),(71,vl ((cutL none (some s1) v.files).map metaE.f)),(72,vi ((cutL none (some s1) v.files).length:Int)),(73,vi s2)],[.cells false 0 ([vl (v.files.map metaE.f),vi v.log,vi v.next,vn .u64 v.seq]), .cells false 0 ([vi e1.num,vi e1.level,vs e1.low,vs e1.high,vi e1.size])])
noncomputable def TLChk_l2_x (x2:Unit):AE×St:=(.ret,([(2,vi 1)],[]))
noncomputable def TLChk_l2_x' (v:Vers) (s1:Int) (y2:Unit):AE×St:=((.exit 2),([(1, .ptr 0 0 0),(35,vl (v.files.map metaE.f)),(36,vi (v.files.length:Int)),(37,vi s1)],[.cells false 0 ([vl (v.files.map metaE.f),vi v.log,vi v.next,vn .u64 v.seq])]))
noncomputable def TLChk_l2_b (v:Vers) (s1:Int) (e1:Meta) (s2:Int):Tree:=
.sp 74 (decide (s2<((cutL none (some s1) v.files).length:Int))) (
.elem 75 ((cutL none (some s1) v.files).map metaE.f) metaE (cutL none (some s1) v.files) s2 (fun e3=> .sp 81 (e3.level == e1.level) (
.sp 85 (decide (e1.level>(0:Int))) (
.sp 92 (Op.bytesLess e3.low.toList e1.high.toList||(e3.low.toList == e1.high.toList)) (
.sp 99 (Op.bytesLess e1.low.toList e3.high.toList||(e1.low.toList == e3.high.toList)) (
.leaf ⟨[2],[]⟩ [] .ret (some (TLChk_l2_x ()).2)) (
.int 101 (IntKind.i64.wrap (s2+1)) (s2+1) (.leaf ⟨[1,4,35,36,37,71,72,73],[(0,0,none),(1,0,none)]⟩ [] .normal (some (TLChk_l2_e v s1 e1 (s2+1)))))) (
.int 101 (IntKind.i64.wrap (s2+1)) (s2+1) (.leaf ⟨[1,4,35,36,37,71,72,73],[(0,0,none),(1,0,none)]⟩ [] .normal (some (TLChk_l2_e v s1 e1 (s2+1)))))) (
.int 101 (IntKind.i64.wrap (s2+1)) (s2+1) (.leaf ⟨[1,4,35,36,37,71,72,73],[(0,0,none),(1,0,none)]⟩ [] .normal (some (TLChk_l2_e v s1 e1 (s2+1)))))) (
.int 101 (IntKind.i64.wrap (s2+1)) (s2+1) (.leaf ⟨[1,4,35,36,37,71,72,73],[(0,0,none),(1,0,none)]⟩ [] .normal (some (TLChk_l2_e v s1 e1 (s2+1))))))) (
.leaf ⟨[1,35,36,37],[(0,0,none)]⟩ [] (.exit 2) (some (TLChk_l2_x' v s1 ()).2))
noncomputable def TLChk_l3_e (v:Vers) (s1:Int) (e1:Meta) (s3:Int):St:=([(1, .ptr 0 0 0),(4, .ptr 1 0 0),(35,vl (v.files.map metaE.f)),(36,vi (v.files.length:Int)),(37,vi s1),(71,vl ((cutL none (some s1) v.files).map metaE.f)),(72,vi ((cutL none (some s1) v.files).length:Int)),(73,vi s3)],[.cells false 0 ([vl (v.files.map metaE.f),vi v.log,vi v.next,vn .u64 v.seq]), .cells false 0 ([vi e1.num,vi e1.level,vs e1.low,vs e1.high,vi e1.size])])
noncomputable def TLChk_l3_x (x3:Unit):AE×St:=(.ret,([(2,vi 1)],[]))
noncomputable def TLChk_l3_x' (v:Vers) (s1:Int) (y3:Unit):AE×St:=((.exit 2),([(1, .ptr 0 0 0),(35,vl (v.files.map metaE.f)),(36,vi (v.files.length:Int)),(37,vi s1)],[.cells false 0 ([vl (v.files.map metaE.f),vi v.log,vi v.next,vn .u64 v.seq])]))
noncomputable def TLChk_l3_b (v:Vers) (s1:Int) (e1:Meta) (s3:Int):Tree:=
.sp 74 (decide (s3<((cutL none (some s1) v.files).length:Int))) (
.elem 75 ((cutL none (some s1) v.files).map metaE.f) metaE (cutL none (some s1) v.files) s3 (fun e4=> .sp 81 (e4.level == e1.level) (
.sp 85 (decide (e1.level>(0:Int))) (
.sp 92 (Op.bytesLess e4.low.toList e1.high.toList||(e4.low.toList == e1.high.toList)) (
.sp 99 (Op.bytesLess e1.low.toList e4.high.toList||(e1.low.toList == e4.high.toList)) (
.leaf ⟨[2],[]⟩ [] .ret (some (TLChk_l3_x ()).2)) (
.int 101 (IntKind.i64.wrap (s3+1)) (s3+1) (.leaf ⟨[1,4,35,36,37,71,72,73],[(0,0,none),(1,0,none)]⟩ [] .normal (some (TLChk_l3_e v s1 e1 (s3+1)))))) (
.int 101 (IntKind.i64.wrap (s3+1)) (s3+1) (.leaf ⟨[1,4,35,36,37,71,72,73],[(0,0,none),(1,0,none)]⟩ [] .normal (some (TLChk_l3_e v s1 e1 (s3+1)))))) (
.int 101 (IntKind.i64.wrap (s3+1)) (s3+1) (.leaf ⟨[1,4,35,36,37,71,72,73],[(0,0,none),(1,0,none)]⟩ [] .normal (some (TLChk_l3_e v s1 e1 (s3+1)))))) (
.int 101 (IntKind.i64.wrap (s3+1)) (s3+1) (.leaf ⟨[1,4,35,36,37,71,72,73],[(0,0,none),(1,0,none)]⟩ [] .normal (some (TLChk_l3_e v s1 e1 (s3+1))))))) (
.leaf ⟨[1,35,36,37],[(0,0,none)]⟩ [] (.exit 2) (some (TLChk_l3_x' v s1 ()).2))
noncomputable def TLChk_l1_b (v:Vers) (s1:Int):Tree:=
.sp 38 (decide (s1<(v.files.length:Int))) (
.elem 40 (v.files.map metaE.f) metaE v.files s1 (fun e1=> .call 43 (gRight [(metaE.av e1)]=some (vb e1.ok)) (vb e1.ok) (.sp 43 e1.ok (
.sp 50 (decide (e1.num≥v.next)) (
.leaf ⟨[2],[]⟩ [] .ret (some (TLChk_l1_x ()).2)) (
.sp 54 (decide (s1>(0:Int))) (
.int 59 (IntKind.i64.wrap (s1 - 1)) (s1 - 1) (.elem 60 (v.files.map metaE.f) metaE v.files (s1 - 1) (fun e2=> .sp 65 (decide (e2.num≥e1.num)) (
.leaf ⟨[2],[]⟩ [] .ret (some (TLChk_l1_x ()).2)) (
.cut 71 (v.files.map metaE.f) none (some s1) metaE v.files (.int 72 (((cutL none (some s1) v.files).map metaE.f).length:Int) ((cutL none (some s1) v.files).length:Int) (.loop ⟨[1,4,35,36,37,71,72,73],[(0,0,none),(1,0,none)]⟩ [] (some (TLChk_l2_e v s1 e1 0)) (TLChk_l2_e v s1 e1) (TLChk_l2_x) (TLChk_l2_x' v s1) 0 (TLChk_l2_b v s1 e1) (fun (x2:Unit)=> .leaf ⟨[2],[]⟩ [] .ret (some (TLChk_l1_x ()).2)) (fun (y2:Unit)=> .int 102 (IntKind.i64.wrap (s1+1)) (s1+1) (.leaf ⟨[1,35,36,37],[(0,0,none)]⟩ [] .normal (some (TLChk_l1_e v (s1+1))))))))))) (
.cut 71 (v.files.map metaE.f) none (some s1) metaE v.files (.int 72 (((cutL none (some s1) v.files).map metaE.f).length:Int) ((cutL none (some s1) v.files).length:Int) (.loop ⟨[1,4,35,36,37,71,72,73],[(0,0,none),(1,0,none)]⟩ [] (some (TLChk_l3_e v s1 e1 0)) (TLChk_l3_e v s1 e1) (TLChk_l3_x) (TLChk_l3_x' v s1) 0 (TLChk_l3_b v s1 e1) (fun (x3:Unit)=> .leaf ⟨[2],[]⟩ [] .ret (some (TLChk_l1_x ()).2)) (fun (y3:Unit)=> .int 102 (IntKind.i64.wrap (s1+1)) (s1+1) (.leaf ⟨[1,35,36,37],[(0,0,none)]⟩ [] .normal (some (TLChk_l1_e v (s1+1)))))))))) (
.leaf ⟨[2],[]⟩ [] .ret (some (TLChk_l1_x ()).2))))) (
.leaf ⟨[],[]⟩ [] (.exit 0) (some (TLChk_l1_x' ()).2))
noncomputable def TLChk (v:Vers):Tree:=
.sp 9 (decide (v.log<(1:Int))) (
.leaf ⟨[0],[]⟩ [] .ret (some ([(0,vi 1)],[]))) (
.sp 13 (decide (v.log>(1073741824:Int))) (
.leaf ⟨[0],[]⟩ [] .ret (some ([(0,vi 1)],[]))) (
.sp 18 (decide (v.next<(1:Int))) (
.leaf ⟨[0],[]⟩ [] .ret (some ([(0,vi 1)],[]))) (
.sp 23 (decide (v.next>(1073741824:Int))) (
.leaf ⟨[0],[]⟩ [] .ret (some ([(0,vi 1)],[]))) (
.sp 28 (decide (v.seq≥(72057594037927936:Int))) (
.leaf ⟨[0],[]⟩ [] .ret (some ([(0,vi 1)],[]))) (
.int 32 ((v.files.map metaE.f).length:Int) (v.files.length:Int) (.sp 33 (decide ((v.files.length:Int)>(1000:Int))) (
.leaf ⟨[0],[]⟩ [] .ret (some ([(0,vi 3)],[]))) (
.int 36 ((v.files.map metaE.f).length:Int) (v.files.length:Int) (.loop ⟨[1,35,36,37],[(0,0,none)]⟩ [] (some (TLChk_l1_e v 0)) (TLChk_l1_e v) (TLChk_l1_x) (TLChk_l1_x') 0 (TLChk_l1_b v) (fun (x1:Unit)=> .leaf ⟨[0],[]⟩ [] .ret (some ([(0,vi 1)],[]))) (fun (y1:Unit)=> .leaf ⟨[0],[]⟩ [] .ret (some ([(0,vi 0)],[])))))))))))

theorem TLChk_chk (v:Vers):fnC DP Γ19 Δ0 Tryd.f32 [.agg [vl (v.files.map metaE.f),vi v.log,vi v.next,vn .u64 v.seq]] [] (TLChk v)=TLChk v:=by kernel_rfl

end Go.Ax

namespace Go.Ax
open Go.Proofs Go.RowKit
set_option maxRecDepth 100000

def bigB (v:Vers):Bool:=decide ((v.files.length:Int)>30)
theorem versA_inj {v w:Vers} (h:versA v=versA w):v=w:=vargs_inj h
def RBig:List AV→AV→Prop:=fun args r=>∃ v:Vers,args= [versA v]∧r=vb (bigB v)
noncomputable def gBig:=relG RBig
theorem gBig_eq (v:Vers):gBig [versA v]=some (vb (bigB v)):=relG_eq (by
 rintro args r r' ⟨x,h1,rfl⟩ ⟨y,h2,rfl⟩
 rw[versA_inj (one_arg (h1.symm.trans h2))]) ⟨v,rfl,rfl⟩
theorem SBig:SoundF DP iBig (.pure gBig):=sound_pureT mixedD Γ17_ok Δ0_ok hfBig heBig hbBig (by
 rintro args r ⟨v,rfl,rfl⟩
 exact ⟨rfl,rfl,_,TBig_chk v,wp_len (wp_leaf rfl (.p _))⟩)
theorem gRight_eq (m:Meta):gRight [metaE.av m]=some (vb m.ok):=relG_eq (by
 rintro args r r' ⟨x,h1,rfl⟩ ⟨y,h2,rfl⟩
 rw[av_inj (one_arg (h1.symm.trans h2))]) ⟨m,rfl,rfl⟩
theorem size_ne (s:ByteArray):(!(s.toList == (⟨#[]⟩:ByteArray).toList))=decide ((s.size:Int)≥1):=by
 have e:s.size=s.toList.length:=by rw[ByteArray.toList_eq]; rfl
 have e0:(⟨#[]⟩:ByteArray).toList= []:=by rw[ByteArray.toList_eq]
 rw[e,e0]
 cases s.toList with
 | nil=>rfl
 | cons a l=>symm; show decide _=true; rw[decide_eq_true_eq,List.length_cons]; omega
theorem SRightL:SoundF DP iRightL (.pure gRight):=sound_pureT mixedD Γ17_ok Δ0_ok hfRightL heRightL hbRightL (by
 rintro args r ⟨m,rfl,rfl⟩
 refine ⟨rfl,rfl,_,TRight_chk m,?_⟩
 have key:∀ b:Bool,b=m.ok→Sealed (fun _=>True) [] (vb b) (vb m.ok):=fun b h=>by rw[h]; exact .p _
 have l6:decide (m.level<6)=decide (m.level≤5):=by rw[decide_eq_decide]; omega
 unfold TRight
 refine wp_sp (fun h1=>?_) (fun h1=>wp_leaf rfl (key _ (by simp[Meta.ok,h1])))
 refine wp_sp (fun h2=>?_) (fun h2=>wp_leaf rfl (key _ (by simp[Meta.ok,h2])))
 refine wp_sp (fun h3=>?_) (fun h3=>wp_leaf rfl (key _ (by simp[Meta.ok,h3])))
 refine wp_sp (fun h4=>?_) (fun h4=>wp_leaf rfl (key _ (by unfold Meta.ok; rw[l6,h4]; simp)))
 refine wp_sp (fun h5=>?_) (fun h5=>wp_leaf rfl (key _ (by unfold Meta.ok; rw[size_ne,h5]; simp)))
 refine wp_sp (fun h6=>?_) (fun h6=>wp_leaf rfl (key _ (by simp[Meta.ok,h6])))
 refine wp_sp (fun h7=>?_) (fun h7=>wp_leaf rfl (key _ (by simp[Meta.ok,h7])))
 refine wp_sp (fun h8=>?_) (fun h8=>wp_leaf rfl (key _ (by unfold Meta.ok; rw[h8]; simp)))
 refine wp_sp (fun h9=>?_) (fun h9=>wp_leaf rfl (key _ (by simp[Meta.ok,h9])))
 exact wp_leaf rfl (key _ (by unfold Meta.ok; rw[l6,size_ne,h1,h2,h3,h4,h5,h6,h7,h8,h9]; simp)))

theorem meta_eq_of {a b:Meta} (h:(((a.num:Int) == (b.num:Int))&&(((a.level:Int) == (b.level:Int))&&(((a.low:ByteArray).toList == (b.low:ByteArray).toList)&&(((a.high:ByteArray).toList == (b.high:ByteArray).toList)&&(((a.size:Int) == (b.size:Int))&&true)))))=true):a=b:=by
 simp only[Bool.and_eq_true,beq_iff_eq,and_true] at h
 obtain ⟨h1,h2,h3,h4,h5⟩:=h
 have h3:=toList_eq (by simpa using h3)
 have h4:=toList_eq (by simpa using h4)
 cases a; cases b
 simp_all
def clashB (m x:Meta):Bool:=x.level == m.level&&(decide (m.level>0)&&((Op.bytesLess x.low.toList m.high.toList||(x.low.toList == m.high.toList))&&(Op.bytesLess m.low.toList x.high.toList||(m.low.toList == x.high.toList))))
def okL (v:Vers) (i:Nat):Bool:=fileOk v i&&(v.files.take i).all fun x=> !clashB (at' v.files i) x
section
variable {v : Vers} {m : Meta}
theorem lchk_in2 {i:Nat} (hi:i≤1000) (hil:i≤v.files.length):∀ (k j:Nat),j+k=i →
  Rounds (TLChk_l2_e v i m) TLChk_l2_x (TLChk_l2_x' v i) (fun s=>(TLChk_l2_b v i m s).wp) (j:Int) (if ((v.files.take i).drop j).all fun x=> !clashB m x then .inr () else .inl ()):=by
 have hlen:(cutL none (some (i:Int)) v.files).length=i:=by show (v.files.take _).length=_; rw[List.length_take]; omega
 intro k
 induction k with
 | zero=>
  intro j hj
  rw[List.drop_of_length_le (by rw[List.length_take]; omega),if_pos (by simp)]
  refine .done' (by simp[TLChk_l2_x']) ?_
  unfold TLChk_l2_b
  exact wp_sp (fun h'=>absurd (of_decide_eq_true h') (by omega)) (fun _=>wp_leaf rfl ⟨rfl,rfl⟩)
 | succ k ih=>
  intro j hj
  have hlt:j<(v.files.take i).length:=by rw[List.length_take]; omega
  have ha:(cutL none (some (i:Int)) v.files)[j]? = some (v.files.take i)[j]:=by show (v.files.take _)[j]? = _; exact List.getElem?_eq_getElem hlt
  rw[List.drop_eq_getElem_cons hlt,List.all_cons]
  generalize (v.files.take i)[j]=x at ha ⊢
  have hr:=ih (j+1) (by omega)
  cases hc:clashB m x with
  | true=>
   rw[if_neg (by simp)]
   simp only[clashB,Bool.and_eq_true] at hc
   obtain ⟨c1,c2,c3,c4⟩:=hc
   refine .done (by simp[TLChk_l2_x]) ?_
   unfold TLChk_l2_b
   exact wp_sp (fun _=>wp_elem x (by omega) (by simpa using ha) (wp_sp (fun _=>wp_sp (fun _=>wp_sp (fun _=>wp_sp (fun _=>wp_leaf rfl ⟨rfl,rfl⟩) (fun h=>by rw[c4] at h; cases h)) (fun h=>by rw[c3] at h; cases h)) (fun h=>by rw[c2] at h; cases h)) (fun h=>by rw[c1] at h; cases h))) (fun h'=>absurd (of_decide_eq_false h') (by omega))
  | false=>
   rw[Bool.not_false,Bool.true_and]
   refine .next ?_ hr
   unfold TLChk_l2_b
   refine wp_sp (fun _=>wp_elem x (by omega) (by simpa using ha) (wp_sp (fun c1=>wp_sp (fun c2=>wp_sp (fun c3=>wp_sp (fun c4=>?_) (fun _=>?_)) (fun _=>?_)) (fun _=>?_)) (fun _=>?_))) (fun h'=>absurd (of_decide_eq_false h') (by omega))
   ·rw[clashB,c1,c2,c3,c4] at hc; cases hc
   all_goals exact wp_i64 (by omega) (wp_leaf rfl ⟨rfl,rfl⟩)
theorem lchk_rounds (hv:v.files.length≤1000):∀ (k i:Nat),i+k=v.files.length →
  Rounds (TLChk_l1_e v) TLChk_l1_x TLChk_l1_x' (fun s=>(TLChk_l1_b v s).wp) (i:Int) (if (List.range' i k).all (okL v) then .inr () else .inl ()):=by
 intro k
 induction k with
 | zero=>
  intro i hi
  rw[if_pos (by simp)]
  refine .done' (by simp[TLChk_l1_x']) ?_
  unfold TLChk_l1_b
  exact wp_sp (fun h'=>absurd (of_decide_eq_true h') (by omega)) (fun _=>wp_leaf rfl ⟨rfl,rfl⟩)
 | succ k ih=>
  intro i hi
  have ih:=ih (i+1) (by omega)
  have hm:v.files[Int.toNat (i:Int)]? = some (at' v.files i):=at_get (by omega)
  have l2:=lchk_in2 (v:=v) (m:=at' v.files i) (i:=i) (by omega) (by omega) i 0 (by omega)
  rw[List.drop_zero] at l2
  rw[List.range'_succ,List.all_cons]
  have hd:∀ b:Bool,okL v i=b→b=false→Rounds (TLChk_l1_e v) TLChk_l1_x TLChk_l1_x' (fun s=>(TLChk_l1_b v s).wp) (i:Int) (.inl ())→Rounds (TLChk_l1_e v) TLChk_l1_x TLChk_l1_x' (fun s=>(TLChk_l1_b v s).wp) (i:Int) (if (okL v i&&(List.range' (i+1) k).all (okL v))=true then .inr () else .inl ()):=fun b h1 h2 h=>by
   rw[h1,h2,Bool.false_and,if_neg (by simp)]; exact h
  cases hf:fileOk v i with
  | true=>
   have hf':=hf
   simp only[fileOk,Bool.and_eq_true,decide_eq_true_eq,Bool.or_eq_true] at hf'
   obtain ⟨⟨f1,f2⟩,f3⟩:=hf'
   have hcl:(v.files.take i).all (fun x=> !clashB (at' v.files i) x)=okL v i:=by rw[okL,hf,Bool.true_and]
   rw[hcl] at l2
   cases ho:okL v i with
   | true=>
    rw[Bool.true_and]
    rw[ho,if_pos rfl] at l2
    refine .next ?_ ih
    unfold TLChk_l1_b
    refine wp_sp (fun _=>wp_elem (at' v.files i) (by omega) hm (wp_call (gRight_eq _) (wp_sp (fun _=>wp_sp (fun h=>by have:=of_decide_eq_true h; omega) (fun _=>wp_sp (fun h=>?_) (fun h=>?_))) (fun h=>by rw[f1] at h; cases h)))) (fun h=>by have:=of_decide_eq_false h; omega)
    ·have h:=of_decide_eq_true h
     refine wp_i64 (by omega) (wp_elem (at' v.files (i - 1)) (by omega) (by rw[toN1]; exact at_get (by omega)) (wp_sp (fun h=>by have:=of_decide_eq_true h; omega) (fun _=>wp_cut (by simp only[cutOk]; omega) (wp_len (wp_loop' _ rfl l2 (wp_i64 (by omega) (wp_leaf rfl ⟨rfl,rfl⟩)))))))
    ·have h:=of_decide_eq_false h
     have h0:i=0:=by omega
     subst h0
     refine wp_cut (by simp only[cutOk]; omega) (wp_len (wp_loop' () rfl (.done' (by simp[TLChk_l3_x']) ?_) (wp_i64 (by omega) (wp_leaf rfl ⟨rfl,rfl⟩))))
     unfold TLChk_l3_b
     exact wp_sp (fun h'=>absurd (of_decide_eq_true h') (by show ¬((0:Int)<((v.files.take 0).length:Int)); simp)) (fun _=>wp_leaf rfl ⟨rfl,rfl⟩)
   | false=>
    rw[Bool.false_and,if_neg (by simp)]
    rw[ho,if_neg (by simp)] at l2
    refine .done (by simp[TLChk_l1_x]) ?_
    have h0:0<i:=by
     rcases Nat.eq_zero_or_pos i with h | h
     ·subst h
      rw[okL,hf] at ho
      simp at ho
     ·exact h
    unfold TLChk_l1_b
    refine wp_sp (fun _=>wp_elem (at' v.files i) (by omega) hm (wp_call (gRight_eq _) (wp_sp (fun _=>wp_sp (fun h=>by have:=of_decide_eq_true h; omega) (fun _=>wp_sp (fun h=>?_) (fun h=>by have:=of_decide_eq_false h; omega))) (fun h=>by rw[f1] at h; cases h)))) (fun h=>by have:=of_decide_eq_false h; omega)
    exact wp_i64 (by omega) (wp_elem (at' v.files (i - 1)) (by omega) (by rw[toN1]; exact at_get (by omega)) (wp_sp (fun h=>by have:=of_decide_eq_true h; omega) (fun _=>wp_cut (by simp only[cutOk]; omega) (wp_len (wp_loop _ rfl l2 (wp_leaf rfl ⟨rfl,rfl⟩))))))
  | false=>
   refine hd (okL v i) rfl (by rw[okL,hf,Bool.false_and]) (.done (by simp[TLChk_l1_x]) ?_)
   unfold TLChk_l1_b
   refine wp_sp (fun _=>wp_elem (at' v.files i) (by omega) hm (wp_call (gRight_eq _) (wp_sp (fun h1=>wp_sp (fun h=>wp_leaf rfl ⟨rfl,rfl⟩) (fun h2=>wp_sp (fun h3=>?_) (fun h3=>?_))) (fun h=>wp_leaf rfl ⟨rfl,rfl⟩)))) (fun h=>by have:=of_decide_eq_false h; omega)
   ·have h3:=of_decide_eq_true h3
    refine wp_i64 (by omega) (wp_elem (at' v.files (i - 1)) (by omega) (by rw[toN1]; exact at_get (by omega)) (wp_sp (fun h=>wp_leaf rfl ⟨rfl,rfl⟩) (fun h4=>?_)))
    have h2:=of_decide_eq_false h2
    have h4:=of_decide_eq_false h4
    have:fileOk v i=true:=by
     simp only[fileOk,Bool.and_eq_true,decide_eq_true_eq,Bool.or_eq_true]
     exact ⟨⟨h1,by omega⟩, .inr (by omega)⟩
    rw[hf] at this; cases this
   ·have h2:=of_decide_eq_false h2
    have h3:=of_decide_eq_false h3
    have:fileOk v i=true:=by
     simp only[fileOk,Bool.and_eq_true,decide_eq_true_eq,Bool.or_eq_true]
     exact ⟨⟨h1,by omega⟩, .inl (by omega)⟩
    rw[hf] at this; cases this
end
theorem clash_iff {m x:Meta}:clashB m x=false↔(x.level=m.level→0<m.level→Disj x m):=by
 unfold clashB Disj
 rw[le_iff,le_iff]
 simp only[Bool.and_eq_false_iff,beq_eq_false_iff_ne,decide_eq_false_iff_not,Bool.not_eq_false',Lt]
 constructor
 ·rintro (h | h | h | h) e g
  ·exact absurd e h
  ·omega
  ·exact .inr h
  ·exact .inl h
 ·intro h
  by_cases e:x.level=m.level
  ·by_cases g:0<m.level
   ·rcases h e g with h | h
    ·exact .inr (.inr (.inr h))
    ·exact .inr (.inr (.inl h))
   ·exact .inr (.inl (by omega))
  ·exact .inl e
theorem okL_check {v:Vers} (hv:v.files.length≤1000) (h:¬(v.log<1∨v.log>1073741824∨v.next<1∨v.next>1073741824∨v.seq>72057594037927935)):
  v.check=if (List.range v.files.length).all (okL v) then 0 else 1:=by
 unfold Vers.check
 rw[if_neg h,if_neg (by omega)]
 have split:((List.range v.files.length).all (okL v)=true)↔((List.range v.files.length).all (fileOk v)=true∧v.files.Pairwise fun x m=>x.level=m.level→0<m.level→Disj x m):=by
  rw[List.all_eq_true,List.all_eq_true,List.pairwise_iff_getElem]
  constructor
  ·intro h
   refine ⟨fun i hi=>?_,fun j i hj hi hji=>?_⟩
   ·have:=h i hi
    rw[okL,Bool.and_eq_true] at this
    exact this.1
   ·have:=h i (by simpa using hi)
    rw[okL,Bool.and_eq_true,List.all_eq_true] at this
    have:=this.2 v.files[j] (by rw[List.mem_take_iff_getElem]; exact ⟨j,by omega,rfl⟩)
    rw[at_eq hi] at this
    exact clash_iff.1 (by simpa using this)
  ·rintro ⟨h1,h2⟩ i hi
   rw[okL,Bool.and_eq_true,List.all_eq_true]
   refine ⟨h1 i hi,fun x hx=>?_⟩
   have hi:i<v.files.length:=by simpa using hi
   rw[List.mem_take_iff_getElem] at hx
   obtain ⟨j,hj,rfl⟩:=hx
   rw[at_eq hi]
   simpa using clash_iff.2 (h2 j i (by omega) hi (by omega))
 by_cases hf:(List.range v.files.length).all (fileOk v)=true
 ·rw[if_neg (by simp[hf])]
  have hok:∀ m∈v.files,Le m.low m.high∧0≤m.level∧m.level<6:=fun m hm=>by
   obtain ⟨i,hi,e⟩:=List.getElem_of_mem hm
   have h3:=List.all_eq_true.1 hf i (by simpa using hi)
   rw[fileOk,at_eq hi,e] at h3
   simp only[Bool.and_eq_true] at h3
   have h4:=h3.1.1
   refine ⟨ok_le h4,?_⟩
   simp only[Meta.ok,Bool.and_eq_true,decide_eq_true_eq] at h4
   omega
  have hle:∀ m∈v.files,Le m.low m.high:=fun m hm=>(hok m hm).1
  by_cases hp:v.files.Pairwise fun x m=>x.level=m.level→0<m.level→Disj x m
  ·rw[if_pos (split.2 ⟨hf,hp⟩),if_pos]
   rw[List.all_eq_true]
   intro n hn
   have hn0:1≤n:=by simp at hn; omega
   refine pair_level (by omega) (by omega) hle ?_
   refine List.pairwise_filter.2 (hp.imp fun {a b} h ha hb=>?_)
   have ha:a.level=n:=by simpa using ha
   have hb:b.level=n:=by simpa using hb
   exact h (by omega) (by omega)
  ·rw[if_neg (fun e=>hp (split.1 e).2),if_neg]
   intro hall
   rw[List.all_eq_true] at hall
   refine hp (List.pairwise_iff_getElem.2 fun j i hj hi hji he hg=>?_)
   have h1:=hok _ (List.getElem_mem hi)
   have hl:=level_pair (n:=v.files[i].level) (by omega) hle (hall _ (by simp; omega))
   have hs:=List.pairwise_filter.1 hl
   exact List.pairwise_iff_getElem.1 hs j i hj hi hji (by simpa using he) (by simp)
 ·rw[if_pos hf,if_neg (fun e=>hf (split.1 e).1)]
def RLChk:List AV→AV→Prop:=fun args r=>∃ v:Vers,args= [versA v]∧r=vi v.check
noncomputable def gLChk:=relG RLChk
theorem gLChk_eq (v:Vers):gLChk [versA v]=some (vi v.check):=relG_eq (by
 rintro args r r' ⟨x,h1,rfl⟩ ⟨y,h2,rfl⟩
 rw[versA_inj (one_arg (h1.symm.trans h2))]) ⟨v,rfl,rfl⟩
theorem Γ19_ok:∀ f,SoundF DP f (Γ19 f):=envP_cons SRightL envP_nil
theorem SLChk:SoundF DP iLChk (.pure gLChk):=sound_pureT mixedD Γ19_ok Δ0_ok hfLChk heLChk hbLChk (by
 rintro args r ⟨v,rfl,rfl⟩
 refine ⟨rfl,rfl,_,TLChk_chk v,?_⟩
 have one:(v.log<1∨v.log>1073741824∨v.next<1∨v.next>1073741824∨v.seq>72057594037927935)→Sealed (fun _=>True) [] (vi 1) (vi v.check):=fun h=>by
  rw[Vers.check,if_pos h]; exact .p _
 unfold TLChk
 refine wp_sp (fun h=>wp_leaf rfl (one (.inl (of_decide_eq_true h)))) (fun h1=>wp_sp (fun h=>wp_leaf rfl (one (.inr (.inl (of_decide_eq_true h))))) (fun h2=>wp_sp (fun h=>wp_leaf rfl (one (.inr (.inr (.inl (of_decide_eq_true h)))))) (fun h3=>wp_sp (fun h=>wp_leaf rfl (one (.inr (.inr (.inr (.inl (of_decide_eq_true h))))))) (fun h4=>wp_sp (fun h=>wp_leaf rfl (one (.inr (.inr (.inr (.inr (by have:=of_decide_eq_true h; omega))))))) (fun h5=>wp_len ?_)))))
 have h1:=of_decide_eq_false h1
 have h2:=of_decide_eq_false h2
 have h3:=of_decide_eq_false h3
 have h4:=of_decide_eq_false h4
 have h5:=of_decide_eq_false h5
 refine wp_sp (fun h=>wp_leaf rfl ?_) (fun h6=>wp_len ?_)
 ·rw[Vers.check,if_neg (by omega),if_pos (by have:=of_decide_eq_true h; omega)]; exact .p _
 ·have h6:=of_decide_eq_false h6
  have l:=lchk_rounds (v:=v) (by omega) v.files.length 0 (by omega)
  rw[←List.range_eq_range'] at l
  have e:=okL_check (v:=v) (by omega) (by omega)
  cases ha:(List.range v.files.length).all (okL v) with
  | true=>
   rw[ha,if_pos rfl] at l e
   rw[e]
   exact wp_loop' _ rfl l (wp_leaf rfl (.p _))
  | false=>
   rw[ha,if_neg (by simp)] at l e
   rw[e]
   exact wp_loop _ rfl l (wp_leaf rfl (.p _)))
end Go.Ax
