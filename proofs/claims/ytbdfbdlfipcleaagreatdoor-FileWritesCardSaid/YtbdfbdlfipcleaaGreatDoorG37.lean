/- A file's bytes: the rounds. -/
import Derived.Test.YtbdfbdlfipcleaaGreatDoorG36
import Derived.Test.YtbdfbdlfipcleaaGreatDoorG33
set_option linter.unusedVariables false
set_option linter.unusedSimpArgs false
set_option linter.unusedSectionVars false
namespace Go.Ax
open Go.Proofs Go.RowKit
set_option maxRecDepth 100000

theorem namesL_snoc (x:Ent):∀ (M:List Ent) (N:List ByteArray),namesL (M++ [x]) N=if (namesL M N).getLast? = some x.key then namesL M N else namesL M N++ [x.key]
 | [],N=>by rw[List.nil_append,namesL,namesL,namesL]
 | y::M,N=>by rw[List.cons_append,namesL,namesL]; exact namesL_snoc x M _
theorem pagesB_snoc (c:List Ent):∀ D:List (List Ent),pagesB (D++ [c])=pagesB D++pageB c
 | []=>by simp[pagesB]
 | d::D=>by rw[List.cons_append,pagesB,pagesB,pagesB_snoc c D,List.append_assoc]
theorem idxL_snoc (c:List Ent):∀ (D:List (List Ent)) (o:Nat),idxL o (D++ [c])=idxL o D++ [⟨⟨(innB (lastE c)).toArray⟩,⟨(putI ((o+(pagesB D).length:Nat):Int)++putI (pageB c).length).toArray⟩⟩]
 | [],o=>by simp[idxL,pagesB]
 | d::D,o=>by
  rw[List.cons_append,idxL,idxL,idxL_snoc c D,pagesB,List.length_append,List.cons_append,show o+(pageB d).length+(pagesB D).length=o+((pageB d).length+(pagesB D).length) by omega]
theorem lastE_snoc (cur:List Ent) (x:Ent):lastE (cur++ [x])=x:=by simp[lastE]
theorem Fits.inOk {L:List Ent} (h:Fits L) {x:Ent} (hx:x∈L):InOk x:=by
 have h1:=h.seqOk hx
 have h2:=chk_key (h.good.chk x hx)
 exact ⟨⟨h1.1,by have:=h1.2; omega⟩,by omega⟩
theorem Fits.parOk {L:List Ent} (h:Fits L) {x:Ent} (hx:x∈L):ParOk (ofE x):=by
 have h1:=inn_len (h.good.chk x hx)
 have h2:=chk_key (h.good.chk x hx)
 have e1:(ofE x).name.size=(innB x).length:=by
  have:(ofE x).nl.length=(innB x).length:=by rw[ofE_nl]
  exact this
 exact ⟨by omega,by show x.val.size≤_; omega⟩
section
variable {L : List Ent} {b : List UInt8} {I : List Par} {N : List ByteArray} {i fr sz : Nat} {x : Ent} {K : AE → St → Prop}
def nameX (N:List ByteArray) (x:Ent):List ByteArray:=if N.getLast? = some x.key then N else N++ [x.key]
theorem fm_j2 (hN:N.length≤100000) (h:(TFMake_j3 L (b,I,N,(i:Int),(fr:Int),(sz:Int)) x (nameX N x)).wp K):(TFMake_j2 L (b,I,N,(i:Int),(fr:Int),(sz:Int)) x false).wp K:=by
 have j6t:N.getLast? ≠ some x.key→(TFMake_j6 L (b,I,N,(i:Int),(fr:Int),(sz:Int)) x true).wp K:=fun hn=>by
  unfold nameX at h
  rw[if_neg hn] at h
  unfold TFMake_j6
  exact wp_br (fun _=>wp_app ⟨rfl,rfl⟩ rfl (by simp only[List.length_append,List.length_singleton]; omega) (wp_join rfl h)) (fun h=>by cases h)
 unfold TFMake_j2
 refine wp_br (fun h=>by cases h) (fun _=>wp_sp (fun h0=>wp_join rfl (j6t ?_)) (fun h0=>?_))
 ·have:N= []:=List.eq_nil_of_length_eq_zero (by rw[beq_iff_eq] at h0; simp only at h0; omega)
  rw[this]; simp
 ·rw[beq_eq_false_iff_ne] at h0
  simp only at h0
  have hp:0<N.length:=by omega
  obtain ⟨y,hy⟩:∃ y,N[N.length - 1]? = some y:=⟨_,List.getElem?_eq_getElem (by omega)⟩
  have hl:N.getLast? = some y:=by rw[List.getLast?_eq_getElem?,hy]
  refine wp_i64 (by simp only; omega) (wp_ridx (by simp only; omega) (by simp only; omega) (wp_rload y (by simp only; omega) (by simp[nameE]) (by simp only; rw[show (((N.length:Nat):Int) - 1).toNat=N.length - 1 by omega]; exact hy) (wp_sp (fun hq=>wp_join rfl (j6t ?_)) (fun hq=>wp_join rfl ?_))))
  ·rw[hl]
   intro e
   cases e
   simp at hq
  ·have e:y=x.key:=by
    have hq:(y.toList == x.key.toList)=true:=by simpa using hq
    rw[ByteArray.toList_eq,ByteArray.toList_eq,beq_iff_eq] at hq
    exact ByteArray.ext (Array.toList_inj.1 hq)
   unfold nameX at h
   rw[hl,e,if_pos rfl] at h
   unfold TFMake_j6
   exact wp_br (fun h=>by cases h) (fun _=>wp_join rfl h)
theorem fm_j3 (hL:L.length≤100000) (hi:i<L.length) (hs:sz≤100000) (hx:x.key.size≤100000∧x.val.size≤100000)
  (h1:(sz+szE x<1024∧i+1<L.length)→K .normal (TFMake_l1_e L (b,I,N,(i:Int)+1,(fr:Int),((sz+szE x:Nat):Int))))
  (h2:¬(sz+szE x<1024∧i+1<L.length)→∀ N0 s,(TFMake_j4 L (b,I,N0,(i:Int),(fr:Int),(sz:Int)) x N (s,false)).wp K) (N0:List ByteArray):(TFMake_j3 L (b,I,N0,(i:Int),(fr:Int),(sz:Int)) x N).wp K:=by
 have ez:szE x=x.key.size+x.val.size:=rfl
 unfold TFMake_j3
 refine wp_i64 (by omega) (wp_i64 (by simp only; omega) (wp_sp (fun a=>wp_i64 (by simp only; omega) (wp_len (wp_sp (fun c=>wp_join rfl ?_) (fun c=>wp_join rfl (h2 ?_ _ _))))) (fun a=>wp_join rfl (h2 ?_ _ _))))
 ·have a:=of_decide_eq_true a
  have c:=of_decide_eq_true c
  simp only at a c
  have:=h1 (by omega)
  unfold TFMake_j4
  refine wp_br (fun _=>wp_i64 (by simp only; omega) (wp_leaf rfl ?_)) (fun h=>by cases h)
  rw[show ((sz+szE x:Nat):Int)=(sz:Int)+((x.key.size:Int)+(x.val.size:Int)) by omega] at this
  exact this
 ·have c:=of_decide_eq_false c
  simp only at c
  omega
 ·have a:=of_decide_eq_false a
  simp only at a
  omega
end
theorem fm_rounds {L:List Ent} (h:Fits L):∀ (M:List Ent) (i fr:Nat) (D:List (List Ent)) (cur:List Ent),L.drop i=M→i+M.length=L.length→fr≤i→(L.take i).drop fr=cur→chunks L 0 []=D++chunks M (cur.map szE).sum cur→(cur.map szE).sum≤1024→(M= []→cur= []) →
  Rounds (TFMake_l1_e L) TFMake_l1_x (TFMake_l1_x' L) (fun s=>(TFMake_l1_b L s).wp) (pagesB D,idxL 0 D,namesL (L.take i) [],(i:Int),(fr:Int),(((cur.map szE).sum:Nat):Int)) (.inr (pagesB (chunks L 0 []),idxL 0 (chunks L 0 []),namesL L [])):=by
 intro M
 have hfew:=h.few
 induction M with
 | nil=>
  intro i fr D cur hM hl hf hcur hD hs hz
  simp only[List.length_nil] at hl
  rw[hz rfl] at hD
  have hD:chunks L 0 []=D:=by rw[hD]; simp[chunks]
  rw[hD,List.take_of_length_le (by omega)]
  refine .done' (by intro e; cases e) ?_
  unfold TFMake_l1_b
  exact wp_sp (fun h'=>absurd (of_decide_eq_true h') (by simp only; omega)) (fun _=>wp_leaf rfl ⟨rfl,rfl⟩)
 | cons x M ih=>
  intro i fr D cur hM hl hf hcur hD hs hz
  simp only[List.length_cons] at hl
  have hi:i<L.length:=by omega
  have gx:L[i]? = some x:=by rw[←List.head?_drop,hM]; rfl
  have hx:x∈L:=List.mem_of_getElem? gx
  have hM':L.drop (i+1)=M:=by rw[←List.drop_drop,hM]; rfl
  have hk:=chk_key (h.good.chk x hx)
  have htk:L.take (i+1)=L.take i++ [x]:=by
   rw[List.take_add_one,gx]; rfl
  have hcur':(L.take (i+1)).drop fr=cur++ [x]:=by
   rw[htk,List.drop_append_of_le_length (by rw[List.length_take]; omega),hcur]
  have hnm:namesL (L.take (i+1)) []=nameX (namesL (L.take i) []) x:=by rw[htk,namesL_snoc]; rfl
  have hnl:=names_len (L.take i) []
  simp only[List.length_nil,List.length_take] at hnl
  have hsz:((cur++ [x]).map szE).sum=(cur.map szE).sum+szE x:=by simp
  have hDl:D.length≤(chunks L 0 []).length:=by rw[hD,List.length_append]; omega
  have hcl:=h.chunks_len
  have hDm:∀ d∈D,d∈chunks L 0 []:=fun d hd=>by rw[hD]; simp[hd]
  have hpl:=pagesB_le h D hDm
  have hil:=idxL_len D 0
  have body:∀ (K:AE→St→Prop),(TFMake_j3 L (pagesB D,idxL 0 D,namesL (L.take i) [],(i:Int),(fr:Int),(((cur.map szE).sum:Nat):Int)) x (namesL (L.take (i+1)) [])).wp K→(TFMake_l1_b L (pagesB D,idxL 0 D,namesL (L.take i) [],(i:Int),(fr:Int),(((cur.map szE).sum:Nat):Int))).wp K:=fun K hj=>by
   rw[hnm] at hj
   unfold TFMake_l1_b
   refine wp_sp (fun _=>wp_elem x (by simp only; omega) (by simpa using gx) (wp_call (gChkE_eq x) (wp_sp (fun q=>absurd q (by rw[h.good.chk x hx]; decide)) (fun _=>wp_sp (fun q=>?_) (fun _=>wp_join rfl (fm_j2 (by omega) hj)))))) (fun h'=>absurd (of_decide_eq_false h') (by simp only; omega))
   have q:=of_decide_eq_true q
   simp only at q
   obtain ⟨y,hy⟩:∃ y,L[i - 1]? = some y:=⟨_,List.getElem?_eq_getElem (by omega)⟩
   have hlt:ltE y x:=by
    obtain ⟨a1,a2⟩:=List.getElem?_eq_some_iff.1 hy
    obtain ⟨b1,b2⟩:=List.getElem?_eq_some_iff.1 gx
    rw[←a2,←b2]
    exact List.pairwise_iff_getElem.1 h.good.up (i - 1) i a1 b1 (by omega)
   have hc:=(cmp_neg y x).2 hlt
   refine wp_i64 (by simp only; omega) (wp_elem y (by simp only; omega) (by simp only; rw[show ((i:Int) - 1).toNat=i - 1 by omega]; exact hy) (wp_call (gCmpE_eq y x) (wp_sp (fun r=>absurd (of_decide_eq_true r) (by omega)) (fun _=>wp_join rfl (fm_j2 (by omega) hj)))))
  by_cases hc:(cur.map szE).sum+szE x<1024∧i+1<L.length
  ·have hMn:M≠ []:=fun e=>by rw[e,List.length_nil] at hl; omega
   have hD':chunks L 0 []=D++chunks M ((cur++ [x]).map szE).sum (cur++ [x]):=by
    rw[hD,chunks,if_pos ⟨hc.1,hMn⟩,hsz]
   have hr:=ih (i+1) fr D (cur++ [x]) hM' (by omega) (by omega) hcur' hD' (by omega) (fun e=>absurd e hMn)
   rw[hsz,show ((i+1:Nat):Int)=(i:Int)+1 by omega] at hr
   exact .next (body _ (fm_j3 (by omega) hi (by omega) (by omega) (fun _=>⟨rfl,rfl⟩) (fun e=>absurd hc e) _)) hr
  ·have hD':chunks L 0 []=(D++ [cur++ [x]])++chunks M 0 []:=by
    rw[hD,chunks,if_neg (fun e=>hc ⟨e.1,by have:=List.length_pos_iff.2 e.2; omega⟩),List.append_assoc]
    rfl
   have hcm:cur++ [x]∈chunks L 0 []:=by rw[hD']; simp
   have hsub:∀ y∈cur++ [x],y∈L:=fun y hy=>(h.sub hcm).subset hy
   obtain ⟨p1,p2,p3⟩:=h.par hcm
   have hr:=ih (i+1) (i+1) (D++ [cur++ [x]]) [] hM' (by omega) (Nat.le_refl _) (by rw[List.drop_of_length_le (by rw[List.length_take]; omega)]) hD' (by decide) (fun _=>rfl)
   rw[pagesB_snoc,idxL_snoc,lastE_snoc,Nat.zero_add,show ((i+1:Nat):Int)=(i:Int)+1 by omega] at hr
   refine .next (body _ (fm_j3 (by omega) hi (by omega) (by omega) (fun e=>absurd e hc) (fun _ N0 s=>?_) _)) hr
   have hcut:cutL (some (fr:Int)) (some ((i:Int)+1)) L=cur++ [x]:=by
    show (L.take (Int.toNat ((i:Int)+1))).drop (Int.toNat (fr:Int))=_
    rw[Int.toNat_natCast,show Int.toNat ((i:Int)+1)=i+1 by omega,hcur']
   exact fm_j4 (by omega) hi hf hcut (fun y hy=>h.inOk (hsub y hy)) (fun p hp=>by
    obtain ⟨y,hy,rfl⟩:=List.mem_map.1 hp
    exact h.parOk (hsub y hy)) p2 (by omega) (by omega) (by omega) (h.inOk hx) ⟨rfl,rfl⟩
end Go.Ax

namespace Go.Ax
open Go.Proofs Go.RowKit
set_option maxRecDepth 100000

def leL (l:List Int):List UInt8:=(l.map fun x=>leI x 8).flatten
theorem leL_snoc (l:List Int) (x:Int):leL (l++ [x])=leL l++leI x 8:=by simp[leL]
theorem leL_len (l:List Int):(leL l).length=8*l.length:=by
 induction l with
 | nil=>rfl
 | cons x l ih=>
  have:leL (x::l)=leI x 8++leL l:=rfl
  rw[this,List.length_append,ih,leI_len,List.length_cons]
  show 8+_=_
  omega
theorem fm_ends {L:List Ent} {y1:List UInt8×List Par×List ByteArray} (hl:(ends5 y1.1 y1.2.1 y1.2.2 L).length=5) (hb:∀ x∈ends5 y1.1 y1.2.1 y1.2.2 L,0≤x∧x<9223372036854775808):∀ (j i:Nat),i+j=5 →
  Rounds (TFMake_l7_e L y1) (TFMake_l7_x y1) noX (fun s=>(TFMake_l7_b L y1 s).wp) (leL ((ends5 y1.1 y1.2.1 y1.2.2 L).take i),(i:Int)) (.inl (leL (ends5 y1.1 y1.2.1 y1.2.2 L))):=by
 intro j
 induction j with
 | zero=>
  intro i hi
  rw[List.take_of_length_le (by omega)]
  refine .done (by intro e; cases e) ?_
  unfold TFMake_l7_b
  exact wp_sp (fun h'=>absurd (of_decide_eq_true h') (by simp only; omega)) (fun _=>wp_leaf rfl ⟨rfl,rfl⟩)
 | succ j ih=>
  intro i hi
  obtain ⟨a,ha,ht⟩:=get_snoc (l:=ends5 y1.1 y1.2.1 y1.2.2 L) (i:=i) (by omega)
  have hab:=hb a (List.mem_of_getElem? ha)
  have hr:=ih (i+1) (by omega)
  have hll:=leL_len ((ends5 y1.1 y1.2.1 y1.2.2 L).take i)
  rw[List.length_take] at hll
  rw[ht,leL_snoc,show ((i+1:Nat):Int)=(i:Int)+1 by omega] at hr
  refine .next ?_ hr
  unfold TFMake_l7_b
  dsimp only
  refine wp_sp (fun _=>wp_ridx (by omega) (by omega) (wp_rload a (by omega) (by simp[intE]) (by simpa using ha) (wp_u64 hab (wp_callr ?_ (wp_i64 (by omega) (wp_leaf rfl ⟨rfl,rfl⟩)))))) (fun h'=>absurd (of_decide_eq_false h') (by omega))
  exact lift_row (R:=OPutL8) (pre:= []) ⟨a,_,by omega,by omega,rfl,rfl,rfl,rfl⟩ rfl rfl rfl
theorem seal_bytes2 {L:List UInt8} {e:Int}:Sealed (fun _=>True) [byteE.bx 0 L] (.tup [.rs 0 0 1 0 L.length,vi e]) (.tup [vl (L.map byteE.f),vi e]):=seal_row2 (E:=byteE)
def RFMake:List AV→AV→Prop:=fun args r=>∃ L:List Ent,args= [vl (L.map entE.f)]∧((Fits L∧r= .tup [vl ((fileY L).map byteE.f),vi 0])∨(L= []∧r= .tup [vl (([]:List UInt8).map byteE.f),vi 1]))
noncomputable def gFMake:=relG RFMake
theorem SFMake:SoundF DP iFMake (.pure gFMake):=sound_pureT mixedD ΓK2_ok ΔK2_ok hfFMake heFMake hbFMake (by
 rintro args r ⟨L,rfl,⟨h,rfl⟩ | ⟨rfl,rfl⟩⟩
 ·refine ⟨rfl,rfl,_,TFMake_chk L,?_⟩
  have hfew:=h.few
  have hne:0<L.length:=List.length_pos_iff.2 h.ne
  have hr:=fm_rounds h L 0 0 [] [] List.drop_zero (Nat.zero_add _) (Nat.le_refl _) rfl rfl (by decide) (fun _=>rfl)
  have hpl:=pagesB_le h (chunks L 0 []) (fun c hc=>hc)
  have hcl:=h.chunks_len
  obtain ⟨x1,x2,x3⟩:=h.idx
  have hbl:=bloom_le h
  have hnl:=names_len L []
  simp only[List.length_nil] at hnl
  have hyl:=idxY_len h
  have hfl:=filB_len h
  have hil:=idxL_len (chunks L 0 []) 0
  have hpar:∀ p∈idxL 0 (chunks L 0 []),ParOk p:=fun p hp=>by
   obtain ⟨c,hc',e1,o',e2,e3⟩:=idx_mem _ _ p hp
   have hpb:=pageB_le h hc'
   have hm:=lastE_mem (chunks_ne L 0 [] c hc')
   have g1:=inn_len (h.good.chk _ ((h.sub hc').subset hm))
   have g2:=putI_len (o':Int) (by omega)
   have g3:=putI_len ((pageB c).length:Int) (by omega)
   have n1:p.nl.length=p.name.size:=rfl
   have n2:p.vl.length=p.val.size:=rfl
   rw[e1] at n1
   rw[e2,List.length_append] at n2
   exact ⟨by omega,by omega⟩
  have hnm:∀ s∈namesL L [],s.size≤1000000000:=fun s hs=>by
   have:∀ (M:List Ent) (N:List ByteArray),(∀ x∈M,x.key.size≤1000000000)→(∀ s∈N,s.size≤1000000000)→∀ s∈namesL M N,s.size≤1000000000:=by
    intro M
    induction M with
    | nil=>intro N _ hN s hs; exact hN s hs
    | cons x M ih=>
     intro N hM hN s hs
     unfold namesL at hs
     split at hs
     ·exact ih N (fun y hy=>hM y (by simp[hy])) hN s hs
     ·refine ih _ (fun y hy=>hM y (by simp[hy])) (fun t ht=>?_) s hs
      rcases List.mem_append.1 ht with ht | ht
      ·exact hN t ht
      ·rw[List.mem_singleton.1 ht]; exact hM x (by simp)
   exact this L [] (fun x hx=>by have:=chk_key (h.good.chk x hx); omega) (fun s hs=>by cases hs) s hs
  have hmk:=gMkP_eq hpar (by omega)
  have hbm:=gBMake_eq hnm (by omega)
  have e5:ends5 (pagesB (chunks L 0 [])) (idxL 0 (chunks L 0 [])) (namesL L []) L= [((pagesB (chunks L 0 [])).length:Int),((idxY (chunks L 0 [])).length:Int),((pagesB (chunks L 0 [])++idxY (chunks L 0 [])).length:Int),((filB L).length:Int),(L.length:Int)]:=rfl
  have hr7:=fm_ends (L:=L) (y1:=(pagesB (chunks L 0 []),idxL 0 (chunks L 0 []),namesL L [])) rfl (fun x hx=>by
   rw[show (pagesB (chunks L 0 []),idxL 0 (chunks L 0 []),namesL L []).1=pagesB (chunks L 0 []) from rfl,show (pagesB (chunks L 0 []),idxL 0 (chunks L 0 []),namesL L []).2.1=idxL 0 (chunks L 0 []) from rfl,show (pagesB (chunks L 0 []),idxL 0 (chunks L 0 []),namesL L []).2.2=namesL L [] from rfl,e5] at hx
   simp only[List.mem_cons,List.mem_nil_iff,or_false,List.length_append] at hx
   rcases hx with rfl | rfl | rfl | rfl | rfl <;> omega) 5 0 rfl
  have hl5:=leL_len (ends5 (pagesB (chunks L 0 [])) (idxL 0 (chunks L 0 [])) (namesL L []) L)
  have hl5:(leL (ends5 (pagesB (chunks L 0 [])) (idxL 0 (chunks L 0 [])) (namesL L []) L)).length=40:=hl5
  have hlb:(6::bloomI (namesL L [])).length=(bloomI (namesL L [])).length+1:=rfl
  have hfb:(recB (6::bloomI (namesL L []))).length=(filB L).length:=rfl
  have hib:(recB (mkI (idxL 0 (chunks L 0 []))).1).length=(idxY (chunks L 0 [])).length:=rfl
  have hfin:((pagesB (chunks L 0 [])++recB (mkI (idxL 0 (chunks L 0 []))).1)++recB (6::bloomI (namesL L [])))++recB (leL (ends5 (pagesB (chunks L 0 [])) (idxL 0 (chunks L 0 [])) (namesL L []) L))=fileY L:=by
   have:leL (ends5 (pagesB (chunks L 0 [])) (idxL 0 (chunks L 0 [])) (namesL L []) L)=fiveB (pagesB (chunks L 0 [])).length (idxY (chunks L 0 [])).length ((pagesB (chunks L 0 [])).length+(idxY (chunks L 0 [])).length) (filB L).length L.length:=by
    rw[e5]
    unfold fiveB leL
    simp only[List.map_cons,List.map_nil,List.flatten_cons,List.flatten_nil,List.append_nil,List.length_append,Int.natCast_add]
   rw[this]
   unfold fileY footB
   show ((pagesB (chunks L 0 [])++idxY (chunks L 0 []))++filB L)++_=_
   simp only[List.append_assoc]
  unfold TFMake
  refine wp_len (wp_sp (fun e=>?_) (fun _=>wp_len (wp_nilrow (wp_nilrow (wp_nilrow (wp_loop' _ rfl hr ?_))))))
  ·rw[beq_iff_eq] at e; omega
  ·dsimp only
   rw[x2] at hmk ⊢
   refine wp_callr ?_ (wp_sp (fun e=>by simp at e) (fun _=>wp_callr (oLayF (by omega) (by omega) rfl) (wp_callr ?_ (wp_call (gFBytes_eq (by omega)) (wp_callr (oLayF (by omega) (by rw[List.length_append]; omega) rfl) (wp_len (wp_nilrow (wp_loop _ rfl hr7 (wp_callr (oLayS (b:=0) (k:=1) ?_ ?_ rfl rfl (by decide)) ?_)))))))))
   ·exact ⟨0,1,0,Par,parE,_,rfl,rfl,hmk,rfl⟩
   ·exact ⟨0,2,0,ByteArray,nameE,_,rfl,rfl,hbm,rfl⟩
   ·dsimp only; omega
   ·simp only[List.length_append]; omega
   ·refine wp_leaf rfl ?_
    dsimp only
    rw[hfin]
    exact seal_bytes2
 ·refine ⟨rfl,rfl,_,TFMake_chk [],?_⟩
  unfold TFMake
  exact wp_len (wp_sp (fun _=>wp_leaf rfl seal_nilE) (fun e=>by simp at e)))
theorem gFMake_det {args:List AV} {r r':AV} (h:RFMake args r) (h':RFMake args r'):r=r':=by
 obtain ⟨L,h1,h2⟩:=h
 obtain ⟨M,g1,g2⟩:=h'
 have e:=one_arg' (h1.symm.trans g1)
 simp only[AV.p.injEq,PV.ls.injEq] at e
 have e:=ents_inj e
 subst e
 rcases h2 with ⟨h2,rfl⟩ | ⟨h2,rfl⟩ <;> rcases g2 with ⟨g2,rfl⟩ | ⟨g2,rfl⟩
 ·rfl
 ·exact absurd g2 h2.ne
 ·exact absurd h2 g2.ne
 ·rfl
theorem gFMake_eq {L:List Ent} (h:Fits L):gFMake [vl (L.map entE.f)]=some (.tup [vl ((fileY L).map byteE.f),vi 0]):=relG_eq (R:=RFMake) (fun _ _ _=>gFMake_det) ⟨L,rfl, .inl ⟨h,rfl⟩⟩
end Go.Ax

namespace Go.Ax
open Go.Proofs Go.RowKit
set_option maxRecDepth 100000

section
variable {L : List Ent} {c' : List UInt8}
end
end Go.Ax

namespace Go.Ax
open Go.Proofs Go.RowKit
set_option maxRecDepth 100000

inductive Lax:AV→AV→Prop
 | refl (x:AV):Lax x x
 | nil:Lax nilS (.p (.ls []))
 | agg (cs ds:List AV):cs.length=ds.length→(∀ (j:Nat) (c d:AV),cs[j]? = some c→ds[j]? = some d→Lax c d)→Lax (.agg cs) (.agg ds)
 | tup (cs ds:List AV):cs.length=ds.length→(∀ (j:Nat) (c d:AV),cs[j]? = some c→ds[j]? = some d→Lax c d)→Lax (.tup cs) (.tup ds)
theorem Lax.rel {F:Nat→Prop} {B:List Box} {ρ:Loc} {w:World} {x y:AV} (h:Lax x y):∀ {u:Value},VRel F B ρ w x u→VRel F B ρ w y u:=by
 induction h with
 | refl x=>exact fun h=>h
 | nil=>
  intro u hv
  have:=hv.val
  subst this
  exact .p _ _ (.nil Option.none 0 (.inr rfl))
 | agg cs ds hl hj ih=>
  intro u hv
  cases hv with
  | agg _ us h2 h3=>
   refine .agg _ us (by omega) (fun j p u hp hu=>?_)
   have hjl:j<cs.length:=by rw[hl]; exact (List.getElem?_eq_some_iff.1 hp).1
   exact ih j _ p (List.getElem?_eq_getElem hjl) hp (h3 j _ u (List.getElem?_eq_getElem hjl) hu)
 | tup cs ds hl hj ih=>
  intro u hv
  cases hv with
  | tup _ us h2 h3=>
   refine .tup _ us (by omega) (fun j p u hp hu=>?_)
   have hjl:j<cs.length:=by rw[hl]; exact (List.getElem?_eq_some_iff.1 hp).1
   exact ih j _ p (List.getElem?_eq_getElem hjl) hp (h3 j _ u (List.getElem?_eq_getElem hjl) hu)
theorem sound_genW {P:Program} {Γ:Env} {Δ:REnv} (hm:P.follows .mixedOrders=true) (hΓ:∀ f,SoundF P f (Γ f)) (hΔ:∀ f,SoundR P f (Δ f)) {f:FuncId} {fn:Func} (hf:P.funcs[f]? = some fn) (he:enters P f=true) (hb:fn.body.isSome=true) {R:RSpec}
  (h:∀ args B r B',R args B r B'→Nat.ble args.length fn.ntmps=true∧∃ T,fnC P Γ Δ fn args B T=T∧T.wp fun _ c=>Lax (tk c.1 0) r∧c.2=B'):SoundR P f R:=by
 intro args B r B' hs F ρ w us hI hA
 obtain ⟨hle,T,hT,hwp⟩:=h args B r B' hs
 rw[←hT] at hwp
 refine .inl ⟨enter_run he us.toArray w,(fnC_calls hm hΓ hΔ hf hb hle hwp hI hA).mono fun e w' hp=>?_⟩
 obtain ⟨x,c,ρ',rfl,⟨_,h1,h2⟩,hI',hE',hv⟩:=hp
 subst h2
 exact ⟨x,ρ',rfl,hI',hE',h1.rel hv⟩
theorem lax2 {x y z:AV} (h:Lax x y):Lax (.tup [x,z]) (.tup [y,z]):= .tup _ _ rfl (fun j c d h1 h2=>by
 match j,h1,h2 with
 | 0,h1,h2=>cases h1; cases h2; exact h
 | 1,h1,h2=>cases h1; cases h2; exact .refl _
 | j+2,h1,h2=>cases h1)
theorem lax_nils {z:AV}:Lax (.tup [nilS,z]) (.tup [.p (.ls []),z]):=lax2 .nil
theorem lax_page {z:AV}:Lax (.tup [.agg [nilS,nilS],z]) (.tup [.agg [.p (.ls []), .p (.ls [])],z]):=lax2 (.agg _ _ rfl (fun j c d h1 h2=>by
 match j,h1,h2 with
 | 0,h1,h2=>cases h1; cases h2; exact .nil
 | 1,h1,h2=>cases h1; cases h2; exact .nil
 | j+2,h1,h2=>cases h1))

def badI (e:Int):Int:=if e=10∨e=0 then e else 12
def contF (D:Dsk) (nm:ByteArray):List UInt8:=match D.get nm with
 | none=> []
 | some x=>x.b
theorem okLen {D:Dsk} (ok:D.Ok) {nm:ByteArray} {x:Fil} (h:D.get nm=some x):(x.b.length:Int)≤67108864:=by
 obtain ⟨hx,_⟩:=get_some h
 have h1:=lens_perm (delF_perm ok.nod hx)
 rw[lens_cons] at h1
 have h2:=ok.used
 change D.used=lens D.files at h2
 have h3:=ok.le
 have h4:=ok.room
 have h5:∀ fs:List Fil,0≤lens fs:=fun fs=>by
  induction fs with
  | nil=>exact Int.le_refl _
  | cons y fs ih=>rw[lens_cons]; omega
 have:=h5 (delF D.files x.name)
 omega
theorem contF_len {D:Dsk} (ok:D.Ok) (nm:ByteArray):(contF D nm).length≤67108864:=by
 unfold contF
 cases h:D.get nm with
 | none=>simp
 | some x=>have:=okLen ok h; simp only; omega
def entsX (L:List Par):List Ent×Int:=match entsI L with
 | none=>([],12)
 | some E=>(E,0)
def pgOf (c:List UInt8) (idx:List Par) (i:Int):List UInt8×List Int×Int:=match idx[i.toNat]? with
 | none=>([],[],12)
 | some p=>match atI p.vl with
  | none=>([],[],12)
  | some (a,n)=>if (getF c a n).2≠0 then ([],[],12) else (pgB (getF c a n).1,pgW (getF c a n).1,badI (pgE (getF c a n).1))
theorem getF_e (c:List UInt8) (a n:Int):(getF c a n).2=0∨getF c a n=([],12):=by
 unfold getF
 split
 ·exact .inr rfl
 ·split
  ·exact .inr rfl
  ·exact .inl rfl
theorem next_len (b:List UInt8):(nextI b).1.length≤b.length:=by
 unfold nextI
 repeat' split
 all_goals simp only[List.length_nil,List.length_drop,List.length_take]
 all_goals omega
theorem getF_len (c:List UInt8) (a n:Int):(getF c a n).1.length≤c.length:=by
 unfold getF
 split
 ·simp
 ·split
  ·simp
  ·have:=next_len ((c.drop a.toNat).take (min n (c.length - a)).toNat)
   simp only[List.length_take,List.length_drop] at this
   simp only
   omega
theorem getF_nil (a n:Int):getF [] a n=([],12):=by
 unfold getF
 split
 ·rfl
 ·rw[if_pos]
  left
  rw[show nextI ((([]:List UInt8).drop a.toNat).take (min n ((([]:List UInt8).length:Nat) - a)).toNat)=([],0,8) by simp[nextI]]
  decide
theorem pgE_or (d:List UInt8):(parI d=none∧badI (pgE d)=12)∨(∃ L,parI d=some L∧badI (pgE d)=0):=by
 unfold pgE
 cases h:parI d with
 | none=>exact .inl ⟨rfl,rfl⟩
 | some L=>exact .inr ⟨L,rfl,rfl⟩
theorem pgOf_pairs {c:List UInt8} {idx:List Par} {i:Int} {p:Par} (hp:idx[i.toNat]? = some p):(pgOf c idx i).2.2=(pairsI c p).2∧((pairsI c p).2=0→readI (pgOf c idx i).1=((pairsI c p).1,0))∧(pgOf c idx i).1.length≤c.length:=by
 unfold pgOf pairsI
 rw[hp]
 simp only
 cases atI p.vl with
 | none=>exact ⟨rfl,fun h=>(by cases h),Nat.zero_le _⟩
 | some q=>
  obtain ⟨a,n⟩:=q
  simp only
  have hl:=getF_len c a n
  split
  ·exact ⟨rfl,fun h=>(by cases h),Nat.zero_le _⟩
  ·have hb:=pgB_len (getF c a n).1
   rcases pgE_or (getF c a n).1 with ⟨h1,h2⟩ | ⟨L,h1,h2⟩
   ·rw[h1]
    exact ⟨h2,fun h=>(by cases h),by simp only; omega⟩
   ·rw[h1]
    exact ⟨h2,fun _=>par_all h1,by simp only; omega⟩
theorem pairs_e (c:List UInt8) (p:Par):(pairsI c p).2=0∨(pairsI c p).2=12:=by
 unfold pairsI
 split
 ·exact .inr rfl
 ·split
  ·exact .inr rfl
  ·split
   ·exact .inr rfl
   ·exact .inl rfl
theorem page_of {c:List UInt8} {idx:List Par} {i:Int} (h0:¬i<0) {p:Par} (hp:idx[i.toNat]? = some p):pageI c idx i=if (pairsI c p).2≠0 then ([],12) else if (entsX (pairsI c p).1).2≠0 then ([],12) else if (entsX (pairsI c p).1).1= [] then ([],12) else ((entsX (pairsI c p).1).1,0):=by
 unfold pageI entsX
 rw[if_neg h0,hp]
 simp only
 split
 ·rfl
 ·cases entsI (pairsI c p).1 with
  | none=>rfl
  | some E=>rfl
end Go.Ax

namespace Go.Ax
open Go.Proofs Go.RowKit
set_option maxRecDepth 100000

def RBadF:List AV→AV→Prop:=fun args r=>∃ e:Int,args= [vi e]∧r=vi (badI e)
noncomputable def gBadF:=relG RBadF
abbrev iBadF:Nat:=70
noncomputable def ΓL1:Env:=envP [(iBadF,gBadF)]
noncomputable def ΔL1:REnv:=envR [(iRead,liftR ORead),(iNext,sealR (pureR gNext))]
noncomputable def ΓL2:Env:=envP [(iOuter,gOuter),(iChkE,gChkE)]

noncomputable abbrev nBadF:Func:=Tryz.f70
theorem hfBadF:DP.funcs[iBadF]? = some nBadF:=by kernel_rfl
theorem heBadF:enters DP iBadF=true:=by kernel_rfl
theorem hbBadF:nBadF.body.isSome=true:=by kernel_rfl
abbrev iGetF:Nat:=37
noncomputable abbrev nGetF:Func:=Tryz.f37
theorem hfGetF:DP.funcs[iGetF]? = some nGetF:=by kernel_rfl
theorem heGetF:enters DP iGetF=true:=by kernel_rfl
theorem hbGetF:nGetF.body.isSome=true:=by kernel_rfl
theorem hnGetF:nGetF.ntmps=49:=by kernel_rfl
abbrev iPairs:Nat:=46
noncomputable abbrev nPairs:Func:=Tryz.f46
theorem hfPairs:DP.funcs[iPairs]? = some nPairs:=by kernel_rfl
theorem hePairs:enters DP iPairs=true:=by kernel_rfl
theorem hbPairs:nPairs.body.isSome=true:=by kernel_rfl
theorem hnPairs:nPairs.ntmps=88:=by kernel_rfl
abbrev iEnts:Nat:=47
noncomputable abbrev nEnts:Func:=Tryz.f47
theorem hfEnts:DP.funcs[iEnts]? = some nEnts:=by kernel_rfl
theorem heEnts:enters DP iEnts=true:=by kernel_rfl
theorem hbEnts:nEnts.body.isSome=true:=by kernel_rfl
abbrev iFPage:Nat:=42
noncomputable abbrev nFPage:Func:=Tryz.f42
theorem hfFPage:DP.funcs[iFPage]? = some nFPage:=by kernel_rfl
theorem heFPage:enters DP iFPage=true:=by kernel_rfl
theorem hbFPage:nFPage.body.isSome=true:=by kernel_rfl
theorem hnFPage:nFPage.ntmps=48:=by kernel_rfl

noncomputable def TBadF (e:Int):Tree:=
.sp 4 (e == (10:Int)) (
.leaf ⟨[0],[]⟩ [] .ret (some ([(0,vi e)],[]))) (
.sp 7 (e == (0:Int)) (
.leaf ⟨[0],[]⟩ [] .ret (some ([(0,vi e)],[]))) (
.leaf ⟨[0],[]⟩ [] .ret (some ([(0,vi 12)],[]))))

theorem TBadF_chk (e:Int):fnC DP Γ0 Δ0 Tryz.f70 [vi e] [] (TBadF e)=TBadF e:=by kernel_rfl

noncomputable def TGetF (D:Dsk) (nm:ByteArray) (a:Int) (n:Int):Tree:=
.sp 14 (decide (a<(0:Int))) (
.leaf ⟨[0],[(0,0,none)]⟩ [] .ret (some ([(0, .tup [nilS,vi 12])],[.obj [] (diskP D)]))) (
.sp 18 (decide (n<(0:Int))) (
.leaf ⟨[0],[(0,0,none)]⟩ [] .ret (some ([(0, .tup [nilS,vi 12])],[.obj [] (diskP D)]))) (
.callr (some 27) (ΔL1 69 [.op 0,vs nm,vi a,vi n] [.obj [] (diskP D), .cells false 0 ([vi a,vi n])] (.tup [.rs 2 0 1 0 ((readD D nm a n).1.length),vi ((readD D nm a n).2)]) [.obj [] (diskP D), .cells false 0 ([vi a,vi n]),byteE.bx 0 ((readD D nm a n).1)]) (.tup [.rs 2 0 1 0 ((readD D nm a n).1.length),vi ((readD D nm a n).2)]) [.obj [] (diskP D), .cells false 0 ([vi a,vi n]),byteE.bx 0 ((readD D nm a n).1)] (.sp 31 (((readD D nm a n).2) != (0:Int)) (
.call 33 (gBadF [vi ((readD D nm a n).2)]=some (vi (badI ((readD D nm a n).2)))) (vi (badI ((readD D nm a n).2))) (.leaf ⟨[0],[(0,0,none)]⟩ [] .ret (some ([(0, .tup [nilS,vi (badI ((readD D nm a n).2))])],[.obj [] (diskP D)])))) (
.callr (some 36) (ΔL1 71 [.rs 2 0 1 0 ((readD D nm a n).1.length)] [.obj [] (diskP D), .cells false 0 ([vi a,vi n]),byteE.bx 0 ((readD D nm a n).1)] (.tup [vl (((nextI ((readD D nm a n).1)).1).map byteE.f),vi ((nextI ((readD D nm a n).1)).2.1),vi ((nextI ((readD D nm a n).1)).2.2)]) [.obj [] (diskP D), .cells false 0 ([vi a,vi n]), .dead]) (.tup [vl (((nextI ((readD D nm a n).1)).1).map byteE.f),vi ((nextI ((readD D nm a n).1)).2.1),vi ((nextI ((readD D nm a n).1)).2.2)]) [.obj [] (diskP D), .cells false 0 ([vi a,vi n]), .dead] (.sp 41 (((nextI ((readD D nm a n).1)).2.2) != (0:Int)) (
.leaf ⟨[0],[(0,0,none)]⟩ [] .ret (some ([(0, .tup [nilS,vi 12])],[.obj [] (diskP D)]))) (
.sp 46 (((nextI ((readD D nm a n).1)).2.1) != n) (
.leaf ⟨[0],[(0,0,none)]⟩ [] .ret (some ([(0, .tup [nilS,vi 12])],[.obj [] (diskP D)]))) (
.leaf ⟨[0],[(0,0,none)]⟩ [] .ret (some ([(0, .tup [vl (((nextI ((readD D nm a n).1)).1).map byteE.f),vi 0])],[.obj [] (diskP D)])))))))))

theorem TGetF_chk (D:Dsk) (nm:ByteArray) (a:Int) (n:Int):fnC DP ΓL1 ΔL1 Tryz.f37 [.op 0,vs nm, .agg [vi a,vi n]] [.obj [] (diskP D)] (TGetF D nm a n)=TGetF D nm a n:=by kernel_rfl

noncomputable def TEnts_l1_e (L:List Par) (s1:(List Ent)×Int):St:=([(4, .rs 0 0 4 0 s1.1.length),(9,vl (L.map parE.f)),(10,vi (L.length:Int)),(11,vi s1.2)],[entE.bx 0 s1.1])
noncomputable def TEnts_l1_x (x1:Unit):AE×St:=(.ret,([(2,nilS),(3,vi 12)],[]))
noncomputable def TEnts_l1_x' (y1:(List Ent)):AE×St:=((.exit 0),([(4, .rs 0 0 4 0 y1.length)],[entE.bx 0 y1]))
noncomputable def TEnts_l1_b (L:List Par) (s1:(List Ent)×Int):Tree:=
.sp 12 (decide (s1.2<(L.length:Int))) (
.elem 13 (L.map parE.f) parE L s1.2 (fun e1=> .call 18 (gOuter [vs e1.name]=some (.tup [(entE.av ((outI e1.name.data.toList).1)),vi ((outI e1.name.data.toList).2)])) (.tup [(entE.av ((outI e1.name.data.toList).1)),vi ((outI e1.name.data.toList).2)]) (.sp 25 (((outI e1.name.data.toList).2) != (0:Int)) (
.leaf ⟨[2,3],[]⟩ [] .ret (some (TEnts_l1_x ()).2)) (
.call 28 (gChkE [.agg [vs (((outI e1.name.data.toList).1).key),vn .u64 (((outI e1.name.data.toList).1).seq),vb (((outI e1.name.data.toList).1).del),vs e1.val]]=some (vi (chkE (⟨((outI e1.name.data.toList).1).key,((outI e1.name.data.toList).1).seq,((outI e1.name.data.toList).1).del,e1.val⟩:Ent)))) (vi (chkE (⟨((outI e1.name.data.toList).1).key,((outI e1.name.data.toList).1).seq,((outI e1.name.data.toList).1).del,e1.val⟩:Ent))) (.sp 29 ((chkE (⟨((outI e1.name.data.toList).1).key,((outI e1.name.data.toList).1).seq,((outI e1.name.data.toList).1).del,e1.val⟩:Ent)) != (0:Int)) (
.leaf ⟨[2,3],[]⟩ [] .ret (some (TEnts_l1_x ()).2)) (
.app 34 (.row 1 ([vs (((outI e1.name.data.toList).1).key),vn .u64 (((outI e1.name.data.toList).1).seq),vb (((outI e1.name.data.toList).1).del),vs e1.val])) s1.1.length (rowC (s1.1.map entE.f)) entE s1.1 ([(⟨((outI e1.name.data.toList).1).key,((outI e1.name.data.toList).1).seq,((outI e1.name.data.toList).1).del,e1.val⟩:Ent)]) (.int 35 (IntKind.i64.wrap (s1.2+1)) (s1.2+1) (.leaf ⟨[4,9,10,11],[(0,1,some ((s1.1++([(⟨((outI e1.name.data.toList).1).key,((outI e1.name.data.toList).1).seq,((outI e1.name.data.toList).1).del,e1.val⟩:Ent)])).map entE.f))]⟩ [rowC ((s1.1++([(⟨((outI e1.name.data.toList).1).key,((outI e1.name.data.toList).1).seq,((outI e1.name.data.toList).1).del,e1.val⟩:Ent)])).map entE.f)] .normal (some (TEnts_l1_e L (s1.1++([(⟨((outI e1.name.data.toList).1).key,((outI e1.name.data.toList).1).seq,((outI e1.name.data.toList).1).del,e1.val⟩:Ent)]),s1.2+1))))))))))) (
.leaf ⟨[4],[(0,0,some (s1.1.map entE.f))]⟩ [rowC (s1.1.map entE.f)] (.exit 0) (some (TEnts_l1_x' s1.1).2))
noncomputable def TEnts (L:List Par):Tree:=
.int 10 ((L.map parE.f).length:Int) (L.length:Int) (.nilrow 4 4 (.loop ⟨[4,9,10,11],[(0,0,some (([]:List Ent).map entE.f))]⟩ [rowC (([]:List Ent).map entE.f)] (some (TEnts_l1_e L (([]:List Ent),0))) (TEnts_l1_e L) (TEnts_l1_x) (TEnts_l1_x') (([]:List Ent),0) (TEnts_l1_b L) (fun (x1:Unit)=> .leaf ⟨[0],[]⟩ [] .ret (some ([(0, .tup [nilS,vi 12])],[]))) (fun (y1:(List Ent))=> .leaf ⟨[0],[(0,0,some (y1.map entE.f))]⟩ [rowC (y1.map entE.f)] .ret (some ([(0, .tup [.rs 0 0 4 0 y1.length,vi 0])],[entE.bx 0 y1])))))

theorem TEnts_chk (L:List Par):fnC DP ΓL2 Δ0 Tryz.f47 [vl (L.map parE.f)] [] (TEnts L)=TEnts L:=by kernel_rfl

end Go.Ax

namespace Go.Ax
open Go.Proofs Go.RowKit
set_option maxRecDepth 100000

theorem bad_sound:SoundF DP iBadF (.pure gBadF):=sound_pureT mixedD Γ0_ok Δ0_ok hfBadF heBadF hbBadF (by
 rintro args r ⟨e,rfl,rfl⟩
 refine ⟨rfl,rfl,_,TBadF_chk e,?_⟩
 unfold TBadF badI
 refine wp_sp (fun h=>?_) (fun h=>wp_sp (fun g=>?_) (fun g=>?_))
 ·rw[if_pos (.inl (beq_iff_eq.1 h))]; exact wp_leaf rfl (.p _)
 ·rw[if_pos (.inr (beq_iff_eq.1 g))]; exact wp_leaf rfl (.p _)
 ·rw[if_neg (by rintro (k | k); exact beq_eq_false_iff_ne.1 h k; exact beq_eq_false_iff_ne.1 g k)]; exact wp_leaf rfl (.p _))
theorem gBadF_eq (e:Int):gBadF [vi e]=some (vi (badI e)):=relG_eq (by
 rintro args r r' ⟨a,h1,rfl⟩ ⟨b,h2,rfl⟩
 rw[h1] at h2
 simp at h2
 rw[h2]) ⟨e,rfl,rfl⟩
theorem ΓL1_ok:∀ f,SoundF DP f (ΓL1 f):=envP_cons bad_sound envP_nil
theorem ΔL1_ok:∀ f,SoundR DP f (ΔL1 f):=envR_cons (lift_sound SRead) (envR_cons (SNext.rel).shutRow envR_nil)
def OGetF:RSpec:=fun args B r B'=>∃ (D:Dsk) (nm:ByteArray) (a n:Int),D.Ok∧D.down=false∧args= [.op 0,vs nm, .agg [vi a,vi n]]∧B= [.obj [] (diskP D)]∧r= .tup [vl ((getF (contF D nm) a n).1.map byteE.f),vi (getF (contF D nm) a n).2]∧B'=B
theorem read_cont {D:Dsk} (hd:D.down=false) (nm:ByteArray) (a n:Int) (h:¬(a<0∨n<0)):((readD D nm a n).2≠0∧badI (readD D nm a n).2=12∧getF (contF D nm) a n=([],12))∨((readD D nm a n).2=0∧getF (contF D nm) a n=if (nextI (readD D nm a n).1).2.2≠0∨(nextI (readD D nm a n).1).2.1≠n then ([],12) else ((nextI (readD D nm a n).1).1,0)):=by
 unfold readD contF
 rw[hd]
 cases hg:D.get nm with
 | none=>exact .inl ⟨by simp,by simp[badI],getF_nil a n⟩
 | some x=>
  simp only[Bool.false_eq_true,if_false]
  by_cases g:a<0∨a>x.b.length∨n<0
  ·rw[if_pos g]
   refine .inl ⟨by simp,by simp[badI],?_⟩
   unfold getF
   rw[if_pos (by omega)]
  ·rw[if_neg g]
   refine .inr ⟨rfl,?_⟩
   conv=>lhs; unfold getF
   rw[if_neg (by omega)]
theorem SGetF:SoundR DP iGetF OGetF:=sound_genW mixedD ΓL1_ok ΔL1_ok hfGetF heGetF hbGetF (by
 rintro args B r B' ⟨D,nm,a,n,ok,hd,rfl,rfl,rfl,rfl⟩
 refine ⟨by rw[hnGetF]; rfl,_,TGetF_chk D nm a n,?_⟩
 unfold TGetF
 have bad:a<0∨n<0→getF (contF D nm) a n=([],12):=fun h=>by
  unfold getF
  rw[if_pos (by omega)]
 refine wp_sp (fun h=>?_) (fun h=>wp_sp (fun g=>?_) (fun g=>?_))
 ·rw[bad (.inl (of_decide_eq_true h))]
  exact wp_leaf rfl ⟨lax_nils,rfl⟩
 ·rw[bad (.inr (of_decide_eq_true g))]
  exact wp_leaf rfl ⟨lax_nils,rfl⟩
 ·have h:=of_decide_eq_false h
  have g:=of_decide_eq_false g
  refine wp_callr (oRead ok rfl) ?_
  rcases read_cont hd nm a n (by omega) with ⟨e1,e2,e3⟩ | ⟨e1,e3⟩
  ·rw[e3]
   refine wp_sp (fun _=>wp_call (gBadF_eq _) (wp_leaf rfl ?_)) (fun q=>absurd (by simpa using q) e1)
   rw[e2]
   exact ⟨lax_nils,rfl⟩
  ·have hlen:(readD D nm a n).1.length≤67108864:=by
    have hc:=contF_len ok nm
    unfold contF at hc
    unfold readD
    rw[hd]
    cases hg:D.get nm with
    | none=>simp
    | some x=>
     rw[hg] at hc
     simp only[Bool.false_eq_true,if_false] at hc ⊢
     split
     ·simp
     ·simp only[List.length_take,List.length_drop]; omega
   refine wp_sp (fun q=>absurd e1 (by simpa using q)) (fun _=>wp_callr ⟨0,2,0,UInt8,byteE,_,rfl,rfl,gNext_eq (by omega),rfl⟩ (wp_sp (fun k=>?_) (fun k=>wp_sp (fun m=>?_) (fun m=>?_))))
   ·rw[if_pos (.inl (by simpa using k))] at e3
    rw[e3]
    exact wp_leaf rfl ⟨lax_nils,rfl⟩
   ·rw[if_pos (.inr (by simpa using m))] at e3
    rw[e3]
    exact wp_leaf rfl ⟨lax_nils,rfl⟩
   ·rw[if_neg (by
     rintro (q | q)
     ·exact q (by simpa using k)
     ·exact q (by simpa using m))] at e3
    rw[e3]
    exact wp_leaf rfl ⟨.refl _,rfl⟩)
theorem ΓL2_ok:∀ f,SoundF DP f (ΓL2 f):=envP_cons SOuter (envP_cons SChkE envP_nil)
def entsQ (out:List Ent):Option (List Ent)→Unit ⊕ List Ent
 | none=> .inl ()
 | some E=> .inr (out++E)
theorem ents_rounds (L:List Par) (hL:∀ p∈L,p.name.size≤1000000000) (hN:L.length≤1000000000):∀ (M:List Par) (i:Nat) (out:List Ent),L.drop i=M→i+M.length=L.length→out.length≤i→Rounds (TEnts_l1_e L) TEnts_l1_x TEnts_l1_x' (fun s=>(TEnts_l1_b L s).wp) (out,(i:Int)) (entsQ out (entsI M)):=by
 intro M
 induction M with
 | nil=>
  intro i out hM hl ho
  simp only[List.length_nil] at hl
  show Rounds _ _ _ _ _ (.inr (out++ []))
  rw[List.append_nil]
  refine .done' (by intro e; cases e) ?_
  unfold TEnts_l1_b
  exact wp_sp (fun h'=>absurd (of_decide_eq_true h') (by simp only; omega)) (fun _=>wp_leaf rfl ⟨rfl,rfl⟩)
 | cons p M ih=>
  intro i out hM hl ho
  have gp:L[i]? = some p:=by rw[←List.head?_drop,hM]; rfl
  have hM':L.drop (i+1)=M:=by rw[←List.drop_drop,hM]; rfl
  have hp:=hL p (List.mem_of_getElem? gp)
  simp only[List.length_cons] at hl
  rw[entsI]
  have go:=gOuter_eq p.name hp
  have hE:(⟨(outI p.name.data.toList).1.key,(outI p.name.data.toList).1.seq,(outI p.name.data.toList).1.del,p.val⟩:Ent)=withV (outI p.nl).1 p.val:=rfl
  by_cases h1:(outI p.nl).2≠0
  ·rw[if_pos (.inl h1)]
   refine .done (by intro e; cases e) ?_
   unfold TEnts_l1_b
   dsimp only
   exact wp_sp (fun _=>wp_elem p (by omega) (by simpa using gp) (wp_call go (wp_sp (fun _=>wp_leaf rfl ⟨rfl,rfl⟩) (fun q=>absurd (by simpa using q) h1)))) (fun h'=>absurd (of_decide_eq_false h') (by omega))
  ·by_cases h2:chkE (withV (outI p.nl).1 p.val)≠0
   ·rw[if_pos (.inr h2)]
    refine .done (by intro e; cases e) ?_
    unfold TEnts_l1_b
    dsimp only
    exact wp_sp (fun _=>wp_elem p (by omega) (by simpa using gp) (wp_call go (wp_sp (fun q=>absurd (by simpa using q) h1) (fun _=>wp_call (gChkE_eq (withV (outI p.nl).1 p.val)) (wp_sp (fun _=>wp_leaf rfl ⟨rfl,rfl⟩) (fun q=>absurd (by simpa [hE] using q) h2)))))) (fun h'=>absurd (of_decide_eq_false h') (by omega))
   ·rw[if_neg (by rintro (e | e); exact h1 e; exact h2 e)]
    have hr:=ih (i+1) (out++ [withV (outI p.nl).1 p.val]) hM' (by omega) (by rw[List.length_append,List.length_singleton]; omega)
    have e:entsQ (out++ [withV (outI p.nl).1 p.val]) (entsI M)=entsQ out ((entsI M).map (withV (outI p.nl).1 p.val :: ·)):=by
     cases entsI M with
     | none=>rfl
     | some E=>show Sum.inr _=Sum.inr _; simp
    rw[e,show ((i+1:Nat):Int)=(i:Int)+1 by omega] at hr
    refine .next ?_ hr
    unfold TEnts_l1_b
    dsimp only
    exact wp_sp (fun _=>wp_elem p (by omega) (by simpa using gp) (wp_call go (wp_sp (fun q=>absurd (by simpa using q) h1) (fun _=>wp_call (gChkE_eq (withV (outI p.nl).1 p.val)) (wp_sp (fun q=>absurd (by simpa [hE] using q) h2) (fun _=>wp_app ⟨rfl,rfl⟩ rfl (by rw[List.length_append,List.length_singleton]; omega) (wp_i64 (by omega) (wp_leaf rfl ⟨rfl,rfl⟩)))))))) (fun h'=>absurd (of_decide_eq_false h') (by omega))
def REnts:List AV→AV→Prop:=fun args r=>∃ L:List Par,(∀ p∈L,p.name.size≤1000000000)∧L.length≤1000000000∧args= [vl (L.map parE.f)]∧r= .tup [vl ((entsX L).1.map entE.f),vi (entsX L).2]
noncomputable def gEnts:=relG REnts
theorem SEnts:SoundF DP iEnts (.pure gEnts):=sound_pureT mixedD ΓL2_ok Δ0_ok hfEnts heEnts hbEnts (by
 rintro args r ⟨L,hL,hN,rfl,rfl⟩
 refine ⟨rfl,rfl,_,TEnts_chk L,?_⟩
 have hr:=ents_rounds L hL hN L 0 [] List.drop_zero (Nat.zero_add _) (Nat.le_refl _)
 unfold TEnts entsX
 refine wp_len (wp_nilrow ?_)
 cases h:entsI L with
 | none=>
  rw[h] at hr
  exact wp_loop _ rfl hr (wp_leaf rfl seal_nilE)
 | some E=>
  rw[h] at hr
  exact wp_loop' _ rfl hr (wp_leaf rfl (seal_row2 (E:=entE))))
theorem par_inj {L M:List Par} (h:L.map parE.f=M.map parE.f):L=M:=(List.map_inj_right (fun x y e=>by
 cases x; cases y
 simp[parE] at e
 simp[e])).1 h
theorem gEnts_eq {L:List Par} (hL:∀ p∈L,p.name.size≤1000000000) (hN:L.length≤1000000000):gEnts [vl (L.map parE.f)]=some (.tup [vl ((entsX L).1.map entE.f),vi (entsX L).2]):=relG_eq (by
 rintro args r r' ⟨a,_,_,h1,rfl⟩ ⟨b,_,_,h2,rfl⟩
 have h:=one_arg' (h1.symm.trans h2)
 simp only[AV.p.injEq,PV.ls.injEq] at h
 rw[par_inj h]) ⟨L,hL,hN,rfl,rfl⟩
end Go.Ax
