/- FileMakes: the rounds. -/
import Derived.Test.YtbdfbdlfipcleaaDoorG41
import Derived.Test.YtbdfbdlfipcleaaDoorG40
import Derived.Test.YtbdfbdlfipcleaaDoorTie
import Derived.Test.YtbdfbdlfipcleaaDoorG11
import Derived.OpenShut
import Derived.WalkKit
import Derived.ProofKit
import Derived.LaidMore
import Derived.LaidLaws
import Derived.LaidHandle
import Derived.Lib.LaidTab
import Derived.Stop.Joined
set_option linter.unusedVariables false
set_option linter.unusedSimpArgs false
set_option linter.unusedSectionVars false
namespace Go.Ax
open Go.Proofs Go.RowKit
set_option maxRecDepth 100000

theorem ΓS5_ok:∀ f,SoundF DP f (ΓS5 f):=envP_cons SHeadF (envP_cons SBigL (envP_cons SSomeL (envP_cons SFMake (envP_cons SMkP (envP_cons SOfP (envP_cons SInner (envP_cons SFBytes envP_nil)))))))
theorem ΔS5_ok:∀ f,SoundR DP f (ΔS5 f):=envR_cons (take_sound SRPutR) (envR_cons (lift_sound SPut) (envR_cons (lift_sound SPutL8) (envR_cons (SMkP.rel).shutRow (envR_cons (SBMake.rel).shutRow envR_nil))))
theorem oRPutT {B:List Box} {b v:Nat} {L d:List UInt8} (hd:d.length≤1048576) (hL:L.length≤500000000) (hb:B[b]? = some (byteE.bx v L)):
  takeR ORPutR [.rs b v 1 0 L.length,vl (d.map byteE.f)] B (.tup [.rs B.length 0 1 0 (L++recB d).length,vi 0]) (B.set b (byteE.bx (v+1) [])++ [byteE.bx 0 (L++recB d)]):=
 .inl (lift_rowt (R:=ORPutR) (pre:= []) (post:= [vl (d.map byteE.f)]) ⟨L,d,hd,hL,rfl,rfl,rfl,rfl⟩ hb rfl rfl (fun f d=>rfl) rfl)
theorem oRPutS {B:List Box} {b v k u:Nat} {L d:List UInt8} (hd:d.length≤1048576) (hL:L.length≤500000000) (hb:B[b]? = some (byteE.bx v L)) (hk:B[k]? = some (byteE.bx u d)) (hne:k≠b):
  takeR ORPutR [.rs b v 1 0 L.length, .rs k u 1 0 d.length] B (.tup [.rs B.length 0 1 0 (L++recB d).length,vi 0]) ((B.set k .dead).set b (byteE.bx (v+1) [])++ [byteE.bx 0 (L++recB d)]):=by
 refine .inr ⟨1,k,u,UInt8,byteE,d,hk,rfl,?_⟩
 have h:(B.set k .dead)[b]? = some (byteE.bx v L):=by rw[List.getElem?_set_ne hne]; exact hb
 have:=lift_rowt (R:=ORPutR) (pre:= []) (post:= [vl (d.map byteE.f)]) ⟨L,d,hd,hL,rfl,rfl,rfl,rfl⟩ h rfl rfl (fun f d=>rfl) rfl
 rw[List.length_set] at this
 exact this
section
variable {L : List Ent} {Y b : List UInt8} {y : Int} {I : List Par} {N j3 : List ByteArray} {i fr : Nat} {sz sz' : Int} {e1 : Ent} {c : List Ent} {K : AE → St → Prop}
theorem fmk_j5 (hL:L.length≤100000) (hi:i<L.length) (hb:b.length≤500000000) (hcb:(pageB c).length≤200000) (hI:I.length≤100000) (he:InOk e1)
  (h:K .normal (TMakes_l2_e L Y y (b++pageB c,I++ [⟨⟨(innB e1).toArray⟩,⟨(putI (b.length:Int)++putI ((pageB c).length:Int)).toArray⟩⟩],j3,(i:Int)+1,0,(i:Int)+1))):
  (TMakes_j5 L Y y (b,I,N,(fr:Int),sz,(i:Int)) e1 j3 (false,b++pageB c)).wp K:=by
 have p1:=putI_len (b.length:Int) (by omega)
 have p2:=putI_len ((pageB c).length:Int) (by omega)
 have e:(((b++pageB c).length:Nat):Int) - ((b.length:Nat):Int)=((pageB c).length:Int):=by rw[List.length_append]; omega
 unfold TMakes_j5
 dsimp only
 rw[e]
 refine wp_br (fun h=>by cases h) (fun _=>wp_call (gInner_eq e1 he.1 he.2) (wp_u64 (by omega) (wp_callr (oPut_n (by omega)) (wp_i64 (by omega) (wp_u64 (by omega) (wp_callr (oPut_r (by omega) rfl (by omega)) (wp_bstr (wp_app ⟨rfl,rfl⟩ rfl (by simp only[List.length_append,List.length_singleton]; omega) (wp_i64 (by omega) (wp_i64 (by omega) (wp_leaf rfl ?_)))))))))))
 exact h
theorem fmk_j4 (hL:L.length≤100000) (hi:i<L.length) (hf:fr≤i) (hc:cutL (some (fr:Int)) (some ((i:Int)+1)) L=c) (hin:∀ x∈c,InOk x) (hpar:∀ p∈c.map ofE,ParOk p) (hm:(mkI (c.map ofE)).2=0) (hml:(mkI (c.map ofE)).1.length≤150000) (hb:b.length≤500000000) (hI:I.length≤100000) (he:InOk e1)
  (h:K .normal (TMakes_l2_e L Y y (b++pageB c,I++ [⟨⟨(innB e1).toArray⟩,⟨(putI (b.length:Int)++putI ((pageB c).length:Int)).toArray⟩⟩],j3,(i:Int)+1,0,(i:Int)+1))):
  (TMakes_j4 L Y y (b,I,N,(fr:Int),sz,(i:Int)) e1 j3 (sz',false)).wp K:=by
 have hcl:c.length≤L.length:=by rw[←hc]; simp only[cutL,List.length_drop,List.length_take]; omega
 have hr:=recB_len (mkI (c.map ofE)).1
 have hpl:(pageB c).length≤200000:=by unfold pageB; omega
 unfold TMakes_j4
 dsimp only
 rw[hc,hm]
 refine wp_br (fun h=>by cases h) (fun _=>wp_i64 (by omega) (wp_cut (by simp only[cutOk]; omega) (wp_call (gOfP_eq hin (by omega)) (wp_call ?_ (wp_callr (oRPutT (by omega) hb rfl) (wp_sp (fun h=>by simp at h) (fun _=>wp_join rfl (fmk_j5 hL hi hb hpl hI he h))))))))
 rw[gMkP_eq hpar (by rw[List.length_map]; omega),hm]
end
theorem names_last:∀ (M:List Ent) (N:List ByteArray) (x:Ent),(namesL (M++ [x]) N).getLast? = some x.key:=fun M N x=>by
 rw[namesL_snoc]
 split
 ·assumption
 ·simp
section
variable {L : List Ent} {Y b : List UInt8} {y : Int} {I : List Par} {N : List ByteArray} {i fr sz : Nat} {x : Ent} {K : AE → St → Prop}
theorem fmk_j6 (hN:N.length≤100000) (h:(TMakes_j3 L Y y (b,I,N,(fr:Int),(sz:Int),(i:Int)) x (nameX N x)).wp K) {q:Bool} (hq:q=true↔N.getLast? ≠ some x.key):(TMakes_j6 L Y y (b,I,N,(fr:Int),(sz:Int),(i:Int)) x q).wp K:=by
 unfold TMakes_j6
 unfold nameX at h
 refine wp_br (fun e=>?_) (fun e=>?_)
 ·rw[if_neg (hq.1 e)] at h
  exact wp_app ⟨rfl,rfl⟩ rfl (by simp only[List.length_append,List.length_singleton]; omega) (wp_join rfl h)
 ·rw[if_pos (Decidable.not_not.1 (fun z=>by have:=hq.2 z; rw[e] at this; cases this))] at h
  exact wp_join rfl h
theorem fmk_j3 (hL:L.length≤100000) (hi:i<L.length) (hs:sz≤100000) (hx:x.key.size≤100000∧x.val.size≤100000)
  (h1:(sz+szE x<1024∧i+1<L.length)→K .normal (TMakes_l2_e L Y y (b,I,N,(fr:Int),((sz+szE x:Nat):Int),(i:Int)+1)))
  (h2:¬(sz+szE x<1024∧i+1<L.length)→∀ N0 s,(TMakes_j4 L Y y (b,I,N0,(fr:Int),(sz:Int),(i:Int)) x N (s,false)).wp K) (N0:List ByteArray):(TMakes_j3 L Y y (b,I,N0,(fr:Int),(sz:Int),(i:Int)) x N).wp K:=by
 have ez:szE x=x.key.size+x.val.size:=rfl
 unfold TMakes_j3
 refine wp_i64 (by omega) (wp_i64 (by simp only; omega) (wp_sp (fun a=>wp_i64 (by simp only; omega) (wp_len (wp_sp (fun c=>wp_join rfl ?_) (fun c=>wp_join rfl (h2 ?_ _ _))))) (fun a=>wp_join rfl (h2 ?_ _ _))))
 ·have a:=of_decide_eq_true a
  have c:=of_decide_eq_true c
  simp only at a c
  have:=h1 (by omega)
  unfold TMakes_j4
  refine wp_br (fun _=>wp_i64 (by simp only; omega) (wp_leaf rfl ?_)) (fun h=>by cases h)
  rw[show ((sz+szE x:Nat):Int)=(sz:Int)+((x.key.size:Int)+(x.val.size:Int)) by omega] at this
  exact this
 ·have c:=of_decide_eq_false c
  simp only at c
  omega
 ·have a:=of_decide_eq_false a
  simp only at a
  omega
end
theorem fmk_rounds {L:List Ent} (Y:List UInt8) (y:Int) (h:Fits L):∀ (M:List Ent) (i fr:Nat) (D:List (List Ent)) (cur:List Ent),L.drop i=M→i+M.length=L.length→fr≤i→(L.take i).drop fr=cur→chunks L 0 []=D++chunks M (cur.map szE).sum cur→(cur.map szE).sum≤1024→(M= []→cur= []) →
  Rounds (TMakes_l2_e L Y y) TMakes_l2_x (TMakes_l2_x' L Y y) (fun s=>(TMakes_l2_b L Y y s).wp) (pagesB D,idxL 0 D,namesL (L.take i) [],(fr:Int),(((cur.map szE).sum:Nat):Int),(i:Int)) (.inr (pagesB (chunks L 0 []),idxL 0 (chunks L 0 []),namesL L [])):=by
 intro M
 have hfew:=h.few
 induction M with
 | nil=>
  intro i fr D cur hM hl hf hcur hD hs hz
  simp only[List.length_nil] at hl
  rw[hz rfl] at hD
  have hD:chunks L 0 []=D:=by rw[hD]; simp[chunks]
  rw[hD,List.take_of_length_le (by omega)]
  refine .done' (by intro e; cases e) ?_
  unfold TMakes_l2_b
  exact wp_sp (fun h'=>absurd (of_decide_eq_true h') (by simp only; omega)) (fun _=>wp_leaf rfl ⟨rfl,rfl⟩)
 | cons x M ih=>
  intro i fr D cur hM hl hf hcur hD hs hz
  simp only[List.length_cons] at hl
  have hi:i<L.length:=by omega
  have gx:L[i]? = some x:=by rw[←List.head?_drop,hM]; rfl
  have hx:x∈L:=List.mem_of_getElem? gx
  have hM':L.drop (i+1)=M:=by rw[←List.drop_drop,hM]; rfl
  have hk:=chk_key (h.good.chk x hx)
  have htk:L.take (i+1)=L.take i++ [x]:=by
   rw[List.take_add_one,gx]; rfl
  have hcur':(L.take (i+1)).drop fr=cur++ [x]:=by
   rw[htk,List.drop_append_of_le_length (by rw[List.length_take]; omega),hcur]
  have hnm:namesL (L.take (i+1)) []=nameX (namesL (L.take i) []) x:=by rw[htk,namesL_snoc]; rfl
  have hnl:=names_len (L.take i) []
  simp only[List.length_nil,List.length_take] at hnl
  have hsz:((cur++ [x]).map szE).sum=(cur.map szE).sum+szE x:=by simp
  have hDl:D.length≤(chunks L 0 []).length:=by rw[hD,List.length_append]; omega
  have hcl:=h.chunks_len
  have hDm:∀ d∈D,d∈chunks L 0 []:=fun d hd=>by rw[hD]; simp[hd]
  have hpl:=pagesB_le h D hDm
  have hil:=idxL_len D 0
  have body:∀ (K:AE→St→Prop),(TMakes_j3 L Y y (pagesB D,idxL 0 D,namesL (L.take i) [],(fr:Int),(((cur.map szE).sum:Nat):Int),(i:Int)) x (namesL (L.take (i+1)) [])).wp K→(TMakes_l2_b L Y y (pagesB D,idxL 0 D,namesL (L.take i) [],(fr:Int),(((cur.map szE).sum:Nat):Int),(i:Int))).wp K:=fun K hj=>by
   rw[hnm] at hj
   unfold TMakes_l2_b
   refine wp_sp (fun _=>wp_elem x (by simp only; omega) (by simpa using gx) (wp_sp (fun q=>?_) (fun q=>?_))) (fun h'=>absurd (of_decide_eq_false h') (by simp only; omega))
   ·have q:(i:Int)=0:=beq_iff_eq.1 q
    have i0:i=0:=by omega
    refine wp_join rfl (fmk_j6 (by omega) hj ⟨fun _=>?_,fun _=>rfl⟩)
    rw[i0,List.take_zero]
    simp[namesL]
   ·have q:(i:Int)≠0:=beq_eq_false_iff_ne.1 q
    obtain ⟨z,hz⟩:∃ z,L[i - 1]? = some z:=⟨_,List.getElem?_eq_getElem (by omega)⟩
    have hlast:(namesL (L.take i) []).getLast? = some z.key:=by
     have e:L.take ((i - 1)+1)=L.take (i - 1)++ [z]:=by
      rw[List.take_add_one,hz]; rfl
     rw[show (i - 1)+1=i by omega] at e
     rw[e]
     exact names_last _ _ _
    refine wp_i64 (by simp only; omega) (wp_elem z (by simp only; omega) (by simp only; rw[show ((i:Int) - 1).toNat=i - 1 by omega]; exact hz) (wp_sp (fun r=>wp_join rfl (fmk_j6 (by omega) hj ⟨fun _=>?_,fun _=>rfl⟩)) (fun r=>wp_join rfl (fmk_j6 (by omega) hj ⟨fun e=>(by cases e),fun e=>?_⟩))))
    ·rw[hlast,str_eq] at *
     intro e
     rw[Option.some.inj e] at r
     simp at r
    ·rw[hlast] at e
     rw[str_eq] at r
     have:z.key=x.key:=by simpa using r
     exact absurd (by rw[this]) e
  by_cases hc:(cur.map szE).sum+szE x<1024∧i+1<L.length
  ·have hMn:M≠ []:=fun e=>by rw[e,List.length_nil] at hl; omega
   have hD':chunks L 0 []=D++chunks M ((cur++ [x]).map szE).sum (cur++ [x]):=by
    rw[hD,chunks,if_pos ⟨hc.1,hMn⟩,hsz]
   have hr:=ih (i+1) fr D (cur++ [x]) hM' (by omega) (by omega) hcur' hD' (by omega) (fun e=>absurd e hMn)
   rw[hsz,show ((i+1:Nat):Int)=(i:Int)+1 by omega] at hr
   exact .next (body _ (fmk_j3 (by omega) hi (by omega) (by omega) (fun _=>⟨rfl,rfl⟩) (fun e=>absurd hc e) _)) hr
  ·have hD':chunks L 0 []=(D++ [cur++ [x]])++chunks M 0 []:=by
    rw[hD,chunks,if_neg (fun e=>hc ⟨e.1,by have:=List.length_pos_iff.2 e.2; omega⟩),List.append_assoc]
    rfl
   have hcm:cur++ [x]∈chunks L 0 []:=by rw[hD']; simp
   have hsub:∀ y∈cur++ [x],y∈L:=fun y hy=>(h.sub hcm).subset hy
   obtain ⟨p1,p2,p3⟩:=h.par hcm
   have hr:=ih (i+1) (i+1) (D++ [cur++ [x]]) [] hM' (by omega) (Nat.le_refl _) (by rw[List.drop_of_length_le (by rw[List.length_take]; omega)]) hD' (by decide) (fun _=>rfl)
   rw[pagesB_snoc,idxL_snoc,lastE_snoc,Nat.zero_add,show ((i+1:Nat):Int)=(i:Int)+1 by omega] at hr
   refine .next (body _ (fmk_j3 (by omega) hi (by omega) (by omega) (fun e=>absurd e hc) (fun _ N0 s=>?_) _)) hr
   have hcut:cutL (some (fr:Int)) (some ((i:Int)+1)) L=cur++ [x]:=by
    show (L.take (Int.toNat ((i:Int)+1))).drop (Int.toNat (fr:Int))=_
    rw[Int.toNat_natCast,show Int.toNat ((i:Int)+1)=i+1 by omega,hcur']
   exact fmk_j4 (by omega) hi hf hcut (fun y hy=>h.inOk (hsub y hy)) (fun p hp=>by
    obtain ⟨y,hy,rfl⟩:=List.mem_map.1 hp
    exact h.parOk (hsub y hy)) p2 (by omega) (by omega) (by omega) (h.inOk hx) ⟨rfl,rfl⟩
end Go.Ax

namespace Go.Ax
open Go.Proofs Go.RowKit
set_option maxRecDepth 100000

abbrev endsM (y2:List UInt8×List Par×List ByteArray) (A:List Ent) (e3:Int):List Int:=(([((y2.1.length:Nat):Int)])++([(((y2.1++recB ((mkI y2.2.1).1)).length:Nat):Int) - ((y2.1.length:Nat):Int),(((y2.1++recB ((mkI y2.2.1).1)).length:Nat):Int)]))++([((((y2.1++recB ((mkI y2.2.1).1))++recB (6::(bloomI y2.2.2))).length:Nat):Int) - e3,(A.length:Int)])
theorem mk_ends {A:List Ent} {Y:List UInt8} {y e3:Int} {y2:List UInt8×List Par×List ByteArray} {E:List Int} (hE:endsM y2 A e3=E) (hl:E.length=5) (hb:∀ x∈E,0≤x∧x<9223372036854775808):∀ (j i:Nat),i+j=5 →
  Rounds (TMakes_l8_e A Y y y2 e3) (TMakes_l8_x Y y y2) noX (fun s=>(TMakes_l8_b A Y y y2 e3 s).wp) (leL (E.take i),(i:Int)) (.inl (leL E)):=by
 unfold endsM at hE
 intro j
 induction j with
 | zero=>
  intro i hi
  rw[List.take_of_length_le (by omega)]
  refine .done (by intro e; cases e) ?_
  unfold TMakes_l8_b
  rw[hE]
  exact wp_sp (fun h'=>absurd (of_decide_eq_true h') (by simp only; omega)) (fun _=>wp_leaf rfl ⟨rfl,rfl⟩)
 | succ j ih=>
  intro i hi
  obtain ⟨a,ha,ht⟩:=get_snoc (l:=E) (i:=i) (by omega)
  have hab:=hb a (List.mem_of_getElem? ha)
  have hr:=ih (i+1) (by omega)
  have hll:=leL_len (E.take i)
  rw[List.length_take] at hll
  rw[ht,leL_snoc,show ((i+1:Nat):Int)=(i:Int)+1 by omega] at hr
  refine .next ?_ hr
  unfold TMakes_l8_b
  rw[hE]
  dsimp only
  refine wp_sp (fun _=>wp_ridx (by omega) (by omega) (wp_rload a (by omega) (by simp[intE]) (by simpa using ha) (wp_u64 hab (wp_callr ?_ (wp_i64 (by omega) (wp_leaf rfl ⟨rfl,rfl⟩)))))) (fun h'=>absurd (of_decide_eq_false h') (by omega))
  exact lift_row (R:=OPutL8) (pre:= []) ⟨a,_,by omega,by omega,rfl,rfl,rfl,rfl⟩ rfl rfl rfl
theorem fit_facts {L:List Ent} (h:Fits L):(∀ p∈idxL 0 (chunks L 0 []),ParOk p)∧(∀ s∈namesL L [],s.size≤1000000000):=by
 have hpl:=pagesB_le h (chunks L 0 []) (fun c hc=>hc)
 have hcl:=h.chunks_len
 refine ⟨fun p hp=>?_,fun s hs=>?_⟩
 ·obtain ⟨c,hc',e1,o',e2,e3⟩:=idx_mem _ _ p hp
  have hpb:=pageB_le h hc'
  have hm:=lastE_mem (chunks_ne L 0 [] c hc')
  have g1:=inn_len (h.good.chk _ ((h.sub hc').subset hm))
  have g2:=putI_len (o':Int) (by omega)
  have g3:=putI_len ((pageB c).length:Int) (by omega)
  have n1:p.nl.length=p.name.size:=rfl
  have n2:p.vl.length=p.val.size:=rfl
  rw[e1] at n1
  rw[e2,List.length_append] at n2
  exact ⟨by omega,by omega⟩
 ·have:∀ (M:List Ent) (N:List ByteArray),(∀ x∈M,x.key.size≤1000000000)→(∀ s∈N,s.size≤1000000000)→∀ s∈namesL M N,s.size≤1000000000:=by
   intro M
   induction M with
   | nil=>intro N _ hN s hs; exact hN s hs
   | cons x M ih=>
    intro N hM hN s hs
    unfold namesL at hs
    split at hs
    ·exact ih N (fun y hy=>hM y (by simp[hy])) hN s hs
    ·refine ih _ (fun y hy=>hM y (by simp[hy])) (fun t ht=>?_) s hs
     rcases List.mem_append.1 ht with ht | ht
     ·exact hN t ht
     ·rw[List.mem_singleton.1 ht]; exact hM x (by simp)
  exact this L [] (fun x hx=>by have:=chk_key (h.good.chk x hx); omega) (fun s hs=>by cases hs) s hs
def RMakes:List AV→AV→Prop:=fun args r=>∃ (L:List Ent) (t:Int),(∀ x∈L,seqIn x)∧(-(2 ^ 63:Int)≤t∧t<2 ^ 63)∧args= [vl (L.map entE.f),vi t]∧r=vb true
noncomputable def gMakes:=relG RMakes
theorem SMakes:SoundF DP iMakes (.pure gMakes):=sound_pureT mixedD ΓS5_ok ΔS5_ok hfMakes heMakes hbMakes (by
 rintro args r ⟨L0,t,hL1,hL2,rfl,rfl⟩
 have hL:LawL L0 t:=⟨hL1,hL2⟩
 obtain ⟨L,hA⟩:∃ A,A=someL t L0:=⟨_,rfl⟩
 have front:∀ hb:bigE L0=false,gSomeL [vl (L0.map entE.f),vi t]=some (vl (L.map entE.f))∧(L≠ []→Fits L∧(fileY L).length≤600000):=fun hb=>by
  have:=law_some hL hb
  rw[←hA] at this
  exact this
 by_cases hz:L= []
 ·subst hz
  refine ⟨rfl,rfl,_,TMakes_chk L0 t [] [] 1,?_⟩
  unfold TMakes
  refine wp_call gHeadF_eq (wp_call (gBigL_eq L0) (wp_sp (fun _=>wp_leaf rfl (.p _)) (fun hb=>wp_call (front hb).1 (wp_call gFMake_nil (wp_len (wp_sp (fun _=>wp_sp (fun _=>wp_len (wp_join rfl ?_)) (fun q=>by simp at q)) (fun q=>by simp at q)))))))
  unfold TMakes_j1
  exact wp_leaf rfl (.p _)
 ·refine ⟨rfl,rfl,_,TMakes_chk L0 t L (fileY L) 0,?_⟩
  unfold TMakes
  refine wp_call gHeadF_eq (wp_call (gBigL_eq L0) (wp_sp (fun _=>wp_leaf rfl (.p _)) (fun hb=>?_)))
  obtain ⟨s1,s2⟩:=front hb
  obtain ⟨h,hlen⟩:=s2 hz
  have hfew:=h.few
  have hne:0<L.length:=List.length_pos_iff.2 h.ne
  have hr:=fmk_rounds (fileY L) 0 h L 0 0 [] [] List.drop_zero (Nat.zero_add _) (Nat.le_refl _) rfl rfl (by decide) (fun _=>rfl)
  have hpl:=pagesB_le h (chunks L 0 []) (fun c hc=>hc)
  have hcl:=h.chunks_len
  obtain ⟨x1,x2,x3⟩:=h.idx
  have hbl:=bloom_le h
  have hnl:=names_len L []
  simp only[List.length_nil] at hnl
  have hyl:=idxY_len h
  have hfl:=filB_len h
  have hil:=idxL_len (chunks L 0 []) 0
  obtain ⟨hpar,hnm⟩:=fit_facts h
  have hmk:=gMkP_eq hpar (by omega)
  have hbm:=gBMake_eq hnm (by omega)
  have hlb:(6::bloomI (namesL L [])).length=(bloomI (namesL L [])).length+1:=rfl
  have hfb:(recB (6::bloomI (namesL L []))).length=(filB L).length:=rfl
  have hib:(recB (mkI (idxL 0 (chunks L 0 []))).1).length=(idxY (chunks L 0 [])).length:=rfl
  have e5:ends5 (pagesB (chunks L 0 [])) (idxL 0 (chunks L 0 [])) (namesL L []) L= [((pagesB (chunks L 0 [])).length:Int),((idxY (chunks L 0 [])).length:Int),((pagesB (chunks L 0 [])++idxY (chunks L 0 [])).length:Int),((filB L).length:Int),(L.length:Int)]:=rfl
  have hE:endsM (pagesB (chunks L 0 []),idxL 0 (chunks L 0 []),namesL L []) L (((pagesB (chunks L 0 [])++recB (mkI (idxL 0 (chunks L 0 []))).1).length:Nat):Int)=ends5 (pagesB (chunks L 0 [])) (idxL 0 (chunks L 0 [])) (namesL L []) L:=by
   have e1:(((pagesB (chunks L 0 [])++recB (mkI (idxL 0 (chunks L 0 []))).1).length:Nat):Int) - (((pagesB (chunks L 0 [])).length:Nat):Int)=((idxY (chunks L 0 [])).length:Int):=by rw[List.length_append]; omega
   have e2:((((pagesB (chunks L 0 [])++recB (mkI (idxL 0 (chunks L 0 []))).1)++recB (6::bloomI (namesL L []))).length:Nat):Int) - (((pagesB (chunks L 0 [])++recB (mkI (idxL 0 (chunks L 0 []))).1).length:Nat):Int)=((filB L).length:Int):=by simp only[List.length_append]; omega
   rw[e5]
   show [(((pagesB (chunks L 0 [])).length:Nat):Int),(((pagesB (chunks L 0 [])++recB (mkI (idxL 0 (chunks L 0 []))).1).length:Nat):Int) - (((pagesB (chunks L 0 [])).length:Nat):Int),(((pagesB (chunks L 0 [])++recB (mkI (idxL 0 (chunks L 0 []))).1).length:Nat):Int),((((pagesB (chunks L 0 [])++recB (mkI (idxL 0 (chunks L 0 []))).1)++recB (6::bloomI (namesL L []))).length:Nat):Int) - (((pagesB (chunks L 0 [])++recB (mkI (idxL 0 (chunks L 0 []))).1).length:Nat):Int),(L.length:Int)]=_
   rw[e1,e2]
   rfl
  have hr8:=mk_ends (Y:=fileY L) (y:=0) hE rfl (fun x hx=>by
   rw[e5] at hx
   simp only[List.mem_cons,List.mem_nil_iff,or_false,List.length_append] at hx
   rcases hx with rfl | rfl | rfl | rfl | rfl <;> omega) 5 0 rfl
  have hl5:=leL_len (ends5 (pagesB (chunks L 0 [])) (idxL 0 (chunks L 0 [])) (namesL L []) L)
  have hl5:(leL (ends5 (pagesB (chunks L 0 [])) (idxL 0 (chunks L 0 [])) (namesL L []) L)).length=40:=hl5
  have hfin:((pagesB (chunks L 0 [])++recB (mkI (idxL 0 (chunks L 0 []))).1)++recB (6::bloomI (namesL L [])))++recB (leL (ends5 (pagesB (chunks L 0 [])) (idxL 0 (chunks L 0 [])) (namesL L []) L))=fileY L:=by
   have:leL (ends5 (pagesB (chunks L 0 [])) (idxL 0 (chunks L 0 [])) (namesL L []) L)=fiveB (pagesB (chunks L 0 [])).length (idxY (chunks L 0 [])).length ((pagesB (chunks L 0 [])).length+(idxY (chunks L 0 [])).length) (filB L).length L.length:=by
    rw[e5]
    unfold fiveB leL
    simp only[List.map_cons,List.map_nil,List.flatten_cons,List.flatten_nil,List.append_nil,List.length_append,Int.natCast_add]
   rw[this]
   unfold fileY footB
   show ((pagesB (chunks L 0 [])++idxY (chunks L 0 []))++filB L)++_=_
   simp only[List.append_assoc]
  have hj7:(TMakes_j7 L (fileY L) 0 (pagesB (chunks L 0 []),idxL 0 (chunks L 0 []),namesL L []) false).wp (fun _ c=>Sealed (fun _=>True) c.2 (tk c.1 0) (vb true)):=by
   unfold TMakes_j7
   dsimp only
   refine wp_br (fun q=>by cases q) (fun _=>wp_callr (oRPutT (by omega) (by omega) rfl) (wp_i64 (by rw[List.length_append]; omega) (wp_app (L:= [(((pagesB (chunks L 0 [])).length:Nat):Int)]) ⟨rfl,rfl⟩ rfl (by simp) (wp_call (gFBytes_eq (by omega)) (wp_callr (oRPutT (by omega) (by rw[List.length_append]; omega) rfl) ?_)))))
   refine wp_ridx (by decide) (by simp) (wp_rload (((pagesB (chunks L 0 [])++recB (mkI (idxL 0 (chunks L 0 []))).1).length:Nat):Int) (by decide) (by simp[intE]) rfl (wp_i64 (by simp only[List.length_append]; omega) (wp_len (wp_app ⟨rfl,rfl⟩ rfl (by simp) (wp_loop _ rfl hr8 (wp_callr (oRPutS (b:=0) (k:=1) ?_ ?_ rfl rfl (by decide)) (wp_sp (fun _=>wp_bstrl (wp_bstr (wp_leaf rfl ?_))) (fun q=>by simp at q))))))))
   ·omega
   ·simp only[List.length_append]; omega
   ·show Sealed _ _ (vb _) (vb true)
    rw[hfin,beq_self_eq_true]
    exact .p _
  refine wp_call s1 (wp_call (gFMake_eq h) (wp_len (wp_sp (fun q=>absurd (beq_iff_eq.1 q) (by omega)) (fun _=>wp_len (wp_loop' _ rfl hr (wp_callr ?_ (wp_callr ?_ (wp_sp (fun q=>?_) (fun _=>wp_join rfl hj7)))))))))
  ·exact ⟨0,2,0,ByteArray,nameE,_,rfl,rfl,hbm,rfl⟩
  ·exact ⟨0,1,0,Par,parE,_,rfl,rfl,hmk,rfl⟩
  ·dsimp only at q
   rw[x2] at q
   cases q)
end Go.Ax

namespace Go.Ax
open Go.Proofs Go.ChangeShapes Go.WideShapes Go.ChangeAt Go.RowKit
set_option maxRecDepth 100000

theorem tabRel {W:World} {g:Nat} {us:Array Value} {e:TypeId} {fr:Nat×Nat} (hh:W.heap[g]? = some (.cells us e fr)) (hu:us.toList.map PV.v=Glob.tab g):∀ ρ,GRel noF [] ρ W g:=fun ρ=>by
 have hl:(Glob.tab g).length=us.toList.length:=by rw[←hu]; simp
 refine ⟨.rp _ ⟨g,0,none⟩ us.toList rfl not_own (Array.getElem?_eq_some_iff.1 hh).1 hl (fun j u hj=>?_) (fun j p u hp hv=>?_),us,e,fr,hh,by rw[hl]; simp⟩
 ·rw[Addr.add_lit,Nat.zero_add,cell_of hh]
  simpa using hj
 ·rw[←hu,List.getElem?_map,hv] at hp
  cases hp
  exact .v _

theorem var_block {P:Program} {W:World} {n:String} {g:Nat} {cs:Array Value} (hg:P.globalNamed n=some g) (h:W.var? P n=some cs):∃ e fr,W.heap[g]? = some (.cells cs e fr):=by
 unfold World.var? at h
 rw[hg,Option.bind_some] at h
 split at h
 ·rename_i cs' e fr hc
  cases h
  exact ⟨e,fr,hc⟩
 ·cases h

abbrev laid1 : List (String × DataW Unit) := [("tailrace/crc.halves", YtbdfbdlfipcleaaDoor.Rows.laid_tailrace_crc_halves)]

theorem gHalves : DP.globalNamed "tailrace/crc.halves" = some 2 := by kernel_rfl
theorem tHalves:(DP.globals[2]?).map (·.type)=some 140:=by kernel_rfl

theorem globW_of {W:World} (h:laidMetH DP laid1 W):GlobW W:=by
 rw[MakeChecks.laidMetH_plain _ _ _ (by kernel_rfl)] at h
 obtain ⟨ps,⟨g3,t3,cs3,f3,p3,q3,hg3,ht3,hv3,hd3,_,_⟩,_⟩:=h
 obtain rfl:=Option.some.inj (gHalves.symm.trans hg3)
 obtain rfl:=Option.some.inj (tHalves.symm.trans ht3)
 have c3:=Lib.cells_of_tab (k:= .u32) (zs:=halvesL) (n:=16) (e:=94) (by kernel_rfl) (by kernel_rfl) (by kernel_rfl) (by kernel_rfl) hd3
 obtain ⟨e3,r3,b3⟩:=var_block hg3 hv3
 intro g hg
 match g with
 | 2=>exact tabRel b3 (by rw[c3]; rfl)
 | 0=>exact absurd rfl hg
 | 1=>exact absurd rfl hg
 | g+3=>exact absurd rfl hg

theorem door1 (os:Os) (args:Array Value):laidMetH DP laid1 ((World.doorLaid DP 65 os).forCall (fun _ _=>0) ⟨#[],args,[]⟩).memory:=
 laidMetH_of_parts3 (fuel:=8) (laidMet_of_run' 8 (by kernel_rfl) (by kernel_rfl)) (by kernel_rfl) (by kernel_rfl)

theorem i64_in {n:Int} (h:(Lit.int .i64 n).wf=true): -(2 ^ 63:Int)≤n∧n<2 ^ 63:=by
 simp only[Lit.wf,Bool.and_eq_true,decide_eq_true_eq] at h
 have h1:IntKind.i64.min= -9223372036854775808:=by decide
 have h2:IntKind.i64.max=9223372036854775807:=by decide
 omega
theorem u64_in {n:Int} (h:(Lit.int .u64 n).wf=true):0≤n∧n<18446744073709551616:=by
 simp only[Lit.wf,Bool.and_eq_true,decide_eq_true_eq] at h
 have h1:IntKind.u64.min=0:=by decide
 have h2:IntKind.u64.max=18446744073709551615:=by decide
 omega
section
variable {H : Type} {enc : TypeId × Value → H} {w : World} {base : Nat} {spare : Nat → Bool} {held : Bool} {O : Nat → Prop}
theorem in_ent (n:Nat) (cs':List Value) (y:DataW H×List MemPlace) (h:DataW.trod enc DP w base spare held n 52 cs'=some y):
  ∃ a:Ent,seqIn a∧cs'.length=4∧∀ (r:Nat) (p:PV) (u:Value),(entE.f a).cells[r]? = some p→cs'[r]? = some u→PRel O w p u:=by
 obtain ⟨xs,n,_,rfl,hl,hlen,hf⟩:=DataW.trod_struct Tryd.underlying52 h
 have hc:DP.cellsOf 52=4:=by kernel_rfl
 have c9:DP.cellsOf 9=1:=by kernel_rfl
 have c50:DP.cellsOf 50=1:=by kernel_rfl
 have c4:DP.cellsOf 4=1:=by kernel_rfl
 rw[hc] at hl
 have h0:DataW.trod enc DP w base spare held n 9 ((cs'.drop 0).take (DP.cellsOf 9))=xs[0]? := hf 0 _ rfl
 have h1:DataW.trod enc DP w base spare held n 50 ((cs'.drop 1).take (DP.cellsOf 50))=xs[1]? := hf 1 _ rfl
 have h2:DataW.trod enc DP w base spare held n 4 ((cs'.drop 2).take (DP.cellsOf 4))=xs[2]? := hf 2 _ rfl
 have h3:DataW.trod enc DP w base spare held n 9 ((cs'.drop 3).take (DP.cellsOf 9))=xs[3]? := hf 3 _ rfl
 rw[c9] at h0 h3
 rw[c50] at h1
 rw[c4] at h2
 match cs',hl,xs,hlen with
 | [v0,v1,v2,v3],_,[x0,x1,x2,x3],_=>
  obtain ⟨a,e0,_,_⟩:=DataW.trod_string Tryd.underlying9 h0
  obtain ⟨b,e1,_,hw⟩:=DataW.trod_int Tryd.underlying50 h1
  obtain ⟨c,e2,_⟩:=DataW.trod_bool Tryd.underlying4 h2
  obtain ⟨d,e3,_,_⟩:=DataW.trod_string Tryd.underlying9 h3
  simp at e0 e1 e2 e3
  subst e0 e1 e2 e3
  refine ⟨⟨a,b,c,d⟩,u64_in hw,rfl,fun r p u hp hu=>?_⟩
  match r with
  | 0=>cases hp; cases hu; exact .v _
  | 1=>cases hp; cases hu; exact .v _
  | 2=>cases hp; cases hu; exact .v _
  | 3=>cases hp; cases hu; exact .v _
  | r+4=>simp[entE,PV.cells] at hp
theorem in_ents (hO:∀ k,¬O k) {fuel:Nat} {v:Value} {x:DataW H×List MemPlace} (h:DataW.trod enc DP w base spare held fuel 42 [v]=some x):
  ∃ L:List Ent,(∀ a∈L,seqIn a)∧PRel O w (.ls (L.map entE.f)) v:=open_list hO Tryd.underlying42 entE.elt (by decide) (by kernel_rfl) (fun n cs' y hy=>in_ent n cs' y hy) h
end
end Go.Ax
