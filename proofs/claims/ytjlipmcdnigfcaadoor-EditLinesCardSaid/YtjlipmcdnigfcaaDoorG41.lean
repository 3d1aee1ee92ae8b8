/- The list is loaded: the contract. -/
import Derived.Test.YtjlipmcdnigfcaaDoorG40
import Derived.Test.YtjlipmcdnigfcaaDoorG20
set_option linter.unusedVariables false
set_option linter.unusedSimpArgs false
set_option linter.unusedSectionVars false
namespace Go.Ax
open Go.Proofs Go.RowKit
set_option maxRecDepth 100000

def OLoad:RSpec:=fun args B r B'=>∃ (D:Dsk),D.Ok∧args= [.op 0]∧B= [.obj [] (diskP D)] ∧
 (((loadD D).1≠0∧r= .tup [nilP,vi (loadD D).1]∧B'=B)∨((loadD D).1=0∧r= .tup [.ptr 1 0 0,vi 0]∧B'= [.obj [] (diskP D),manB 0 (loadD D).2.1 (loadD D).2.2 false]))
theorem SLoad:SoundR DP iLoad OLoad:=sound_genT mixedD Γ14_ok Δ14_ok hfLoad heLoad hbLoad (by
 rintro args B r B' ⟨D,ok,rfl,rfl,hr⟩
 refine ⟨by rw[hnLoad]; rfl,_,TLoad_chk D,?_⟩
 have l1:(nowR D).length≤1000000000:=Nat.le_trans (readD_len ok nowN 0 (sizeD D nowN).1) (by decide)
 have bad:(loadD D)=(12,0,noV)→r= .tup [nilP,vi 12]∧B'= [.obj [] (diskP D)]:=fun h=>by
  rw[h] at hr
  rcases hr with ⟨_,h1,h2⟩ | ⟨h1,_⟩
  ·exact ⟨h1,h2⟩
  ·cases h1
 unfold TLoad
 refine wp_callr (oSize (nm:=nowN) ok rfl) (wp_sp (fun h1=>?_) (fun h1=>wp_sp (fun h2=>?_) (fun h2=>?_)))
 ·have h1:(sizeD D nowN).2=4:=by exact eq_of_beq h1
  have e:loadD D=(0,0,firstV):=by unfold loadD; rw[if_pos h1]
  rw[e] at hr
  rcases hr with ⟨h,_⟩ | ⟨_,rfl,rfl⟩
  ·exact absurd rfl h
  ·exact wp_call gFirst_eq (wp_leaf rfl ⟨rfl,rfl⟩)
 ·have h1:¬(sizeD D nowN).2=4:=fun e=>absurd h1 (by show ¬((sizeD D nowN).2 == 4)=false; rw[e]; decide)
  have h2:(sizeD D nowN).2≠0:=ne_of_bne h2
  have e:loadD D=((sizeD D nowN).2,0,noV):=by unfold loadD; rw[if_neg h1,if_pos h2]
  rw[e] at hr
  rcases hr with ⟨_,rfl,rfl⟩ | ⟨h,_⟩
  ·exact wp_leaf rfl ⟨rfl,rfl⟩
  ·exact absurd h h2
 have h1:¬(sizeD D nowN).2=4:=fun e=>absurd h1 (by show ¬((sizeD D nowN).2 == 4)=false; rw[e]; decide)
 have h2:(sizeD D nowN).2=0:=eq_of_bne h2
 have hn2:¬(sizeD D nowN).2≠0:=by omega
 refine wp_callr (oRead (nm:=nowN) ok rfl) ⟨rfl,rfl,wp_call (gNext_eq l1) (wp_sp (fun h3=>?_) (fun h3=>wp_len (wp_sp (fun h4=>?_) (fun h4=>?_))))⟩
 ·obtain ⟨rfl,rfl⟩:=bad (by unfold loadD; rw[if_neg h1,if_neg hn2,if_pos (.inl (ne_of_bne h3))])
  exact wp_leaf rfl ⟨rfl,rfl⟩
 ·have h4:(nextI (nowR D)).2.1≠(nowR D).length:=bne_iff_ne.1 h4
  obtain ⟨rfl,rfl⟩:=bad (by unfold loadD; rw[if_neg h1,if_neg hn2,if_pos (.inr h4)])
  exact wp_leaf rfl ⟨rfl,rfl⟩
 have h3:(nextI (nowR D)).2.2=0:=eq_of_bne h3
 have h4:(nextI (nowR D)).2.1=(nowR D).length:=Decidable.of_not_not fun h=>absurd (bne_iff_ne.2 h) (by rw[show ((nextI (nowR D)).2.1 != ((nowR D).length:Int))=false from h4]; decide)
 have hn34:¬((nextI (nowR D)).2.2≠0∨(nextI (nowR D)).2.1≠(nowR D).length):=by rintro (h | h); exact h h3; exact h h4
 have l2:(nextI (nowR D)).1.length≤1000000000:=by have:=(nextI_ok h3).2.2.2; omega
 refine wp_call (gGet_eq l2) (wp_sp (fun h5=>?_) (fun h5=>wp_len (wp_sp (fun h6=>?_) (fun h6=>wp_sp (fun h7=>?_) (fun h7=>wp_sp (fun h8=>?_) (fun h8=>?_))))))
 ·obtain ⟨rfl,rfl⟩:=bad (by unfold loadD; rw[if_neg h1,if_neg hn2,if_neg hn34,if_pos (.inl (ne_of_bne h5))])
  exact wp_leaf rfl ⟨rfl,rfl⟩
 ·have h6:(numR D).2.1≠(nextI (nowR D)).1.length:=bne_iff_ne.1 h6
  obtain ⟨rfl,rfl⟩:=bad (by unfold loadD; rw[if_neg h1,if_neg hn2,if_neg hn34,if_pos (.inr (.inl h6))])
  exact wp_leaf rfl ⟨rfl,rfl⟩
 ·have h7:(numR D).1<1:=of_decide_eq_true h7
  obtain ⟨rfl,rfl⟩:=bad (by unfold loadD; rw[if_neg h1,if_neg hn2,if_neg hn34,if_pos (.inr (.inr (.inl h7)))])
  exact wp_leaf rfl ⟨rfl,rfl⟩
 ·have h8:(numR D).1>1073741824:=of_decide_eq_true h8
  obtain ⟨rfl,rfl⟩:=bad (by unfold loadD; rw[if_neg h1,if_neg hn2,if_neg hn34,if_pos (.inr (.inr (.inr h8)))])
  exact wp_leaf rfl ⟨rfl,rfl⟩
 have h5:(numR D).2.2=0:=eq_of_bne h5
 have h6:(numR D).2.1=(nextI (nowR D)).1.length:=Decidable.of_not_not fun h=>absurd (bne_iff_ne.2 h) (by rw[show ((numR D).2.1 != ((nextI (nowR D)).1.length:Int))=false from h6]; decide)
 have h7:¬(numR D).1<1:=of_decide_eq_false h7
 have h8:¬(numR D).1>1073741824:=of_decide_eq_false h8
 have hn58:¬((numR D).2.2≠0∨(numR D).2.1≠(nextI (nowR D)).1.length∨(numR D).1<1∨(numR D).1>1073741824):=by
  rintro (h | h | h | h)
  ·exact h h5
  ·exact h h6
  ·exact h7 h
  ·exact h8 h
 have hnb: -9223372036854775808≤(numR D).1∧(numR D).1≤9223372036854775807:=by omega
 have hni: -9223372036854775808≤(numR D).1∧(numR D).1<9223372036854775808:=by omega
 refine wp_i64 hni (wp_call gFirst_eq (wp_call (gNameM_eq hnb) (wp_callr (oSize (nm:=manN (numR D).1) ok rfl) (wp_sp (fun h9=>?_) (fun h9=>?_)))))
 ·have h9:(sizeD D (manN (numR D).1)).2≠0:=ne_of_bne h9
  obtain ⟨rfl,rfl⟩:=bad (by unfold loadD; rw[if_neg h1,if_neg hn2,if_neg hn34,if_neg hn58,if_pos h9])
  exact wp_leaf rfl ⟨rfl,rfl⟩
 have h9:(sizeD D (manN (numR D).1)).2=0:=eq_of_bne h9
 have hn9:¬(sizeD D (manN (numR D).1)).2≠0:=by omega
 have l3:(listR D (numR D).1).length≤1000000000:=Nat.le_trans (readD_len ok (manN (numR D).1) 0 (sizeD D (manN (numR D).1)).1) (by decide)
 obtain ⟨a1,a2,a3,a4⟩:=allI_facts (listR D (numR D).1)
 refine wp_call (gNameM_eq hnb) (wp_callr (oRead (nm:=manN (numR D).1) ok rfl) ⟨rfl,rfl,wp_call (gAll_eq l3) (wp_sp (fun h10=>?_) (fun h10=>wp_len (wp_sp (fun h11=>?_) (fun h11=>?_))))⟩)
 ·have h10:(allI (listR D (numR D).1)).2.2≠0:=ne_of_bne h10
  obtain ⟨rfl,rfl⟩:=bad (by unfold loadD; rw[if_neg h1,if_neg hn2,if_neg hn34,if_neg hn58,if_neg hn9,if_pos (.inl h10)])
  exact wp_leaf rfl ⟨rfl,rfl⟩
 ·have h11:(allI (listR D (numR D).1)).1.length=0:=by
   have:=eq_of_beq (show (((allI (listR D (numR D).1)).1.length:Int) == 0)=true from h11)
   omega
  obtain ⟨rfl,rfl⟩:=bad (by unfold loadD; rw[if_neg h1,if_neg hn2,if_neg hn34,if_neg hn58,if_neg hn9,if_pos (.inr h11)])
  exact wp_leaf rfl ⟨rfl,rfl⟩
 have h10:(allI (listR D (numR D).1)).2.2=0:=eq_of_bne h10
 have h11:¬(allI (listR D (numR D).1)).1.length=0:=fun e=>by
  have:(((allI (listR D (numR D).1)).1.length:Int) == 0)=false:=h11
  rw[e] at this
  exact absurd this (by decide)
 have hn10:¬((allI (listR D (numR D).1)).2.2≠0∨(allI (listR D (numR D).1)).1.length=0):=by rintro (h | h); exact h h10; exact h11 h
 have hlr:=load_rounds (D:=D) (fun t ht=>Nat.le_trans (a3 t ht) (by decide)) (by omega) (allI (listR D (numR D).1)).1.length 0 firstV (by omega) (by decide)
 rw[List.drop_zero] at hlr
 have e:loadD D=(match replay (allI (listR D (numR D).1)).1 firstV with | none=>(12,0,noV) | some v=>(0,(numR D).1,v)):=by unfold loadD; rw[if_neg h1,if_neg hn2,if_neg hn34,if_neg hn58,if_neg hn9,if_neg hn10] <;> rfl
 refine wp_len ?_
 cases hrp:replay (allI (listR D (numR D).1)).1 firstV with
 | none=>
  rw[hrp] at hlr e
  obtain ⟨rfl,rfl⟩:=bad e
  exact wp_loop _ rfl hlr (wp_leaf rfl ⟨rfl,rfl⟩)
 | some v=>
  rw[hrp] at hlr e
  rw[e] at hr
  rcases hr with ⟨h,_⟩ | ⟨_,rfl,rfl⟩
  ·exact absurd rfl h
  ·exact wp_loop' _ rfl hlr (wp_leaf rfl ⟨rfl,rfl⟩))
end Go.Ax

namespace Go.Ax
open Go.Proofs Go.RowKit
set_option maxRecDepth 100000

theorem getA_app:∀ (b r:List UInt8) (i a:Nat),(getA i a b).2.2=0→getA i a (b++r)=getA i a b
 | [],r,i,a,h=>by simp[getA] at h
 | c::b,r,i,a,h=>by
  have ih:=getA_app b r (i+1) (a+c.toNat % 128*2 ^ (7*i))
  rw[List.cons_append]
  unfold getA at h ⊢
  split
  ·rfl
  ·rename_i h1
   rw[if_neg h1] at h
   split
   ·rfl
   ·rename_i h2
    rw[if_neg h2] at h
    exact ih h
theorem getI_app {g:Int} (h:0≤g∧g<18446744073709551616) (r:List UInt8):getI (putI g++r)=(g,((putI g).length:Int),0):=by
 have h1:=getI_put h
 have h2:(getA 0 0 (putI g)).2.2=0:=by
  have:=congrArg (fun x=>x.2.2) h1
  unfold getI at this
  simp only at this
  omega
 rw[←h1]
 unfold getI
 rw[getA_app _ r 0 0 h2]

theorem take_put {n most:Int} (h:0≤n∧n≤most) (hm:most≤72057594037927935) (r:List UInt8):takeI most (putI n++r,false)=(n,(r,false)):=by
 unfold takeI
 simp only
 rw[getI_app (by omega),if_neg (by rintro (h1 | h1 | h1); exact h1 rfl; simp only at h1; omega; cases h1)]
 simp
theorem text_put {s:ByteArray} (h:s.size≤128) (r:List UInt8):textI (txtI s++r,false)=(s,(r,false)):=by
 have hs:s.data.toList.length=s.size:=rfl
 have e:takeI 128 (txtI s++r,false)=((s.size:Int),(s.data.toList++r,false)):=by
  unfold txtI
  rw[List.append_assoc]
  exact take_put (by omega) (by decide) _
 unfold textI
 rw[e]
 simp only
 rw[if_neg (by rintro (h1 | h1); rw[List.length_append] at h1; omega; cases h1)]
 have e2:((s.size:Int)).toNat=s.data.toList.length:=by omega
 rw[e2,List.take_left,List.drop_left]

structure NumOk (e:Edt):Prop where
 log:0≤e.log∧e.log≤1073741824
 next:0≤e.next∧e.next≤1073741824
 seq:0≤e.seq∧e.seq≤72057594037927935
 del:∀ n∈e.del,0≤n∧n≤1073741824
 add:∀ m∈e.add,(0≤m.num∧m.num≤1073741824)∧(0≤m.level∧m.level≤5)∧(0≤m.size∧m.size≤67108864)∧m.low.size≤128∧m.high.size≤128
 dl:e.del.length≤1000
 al:e.add.length≤1000
theorem mx_id {x:Int} (h:0≤x):mxI x=x:=by unfold mxI; split <;> omega
theorem metaR_put {m:Meta} (h:(0≤m.num∧m.num≤1073741824)∧(0≤m.level∧m.level≤5)∧(0≤m.size∧m.size≤67108864)∧m.low.size≤128∧m.high.size≤128) (r:List UInt8):metaR (metaI m++r,false)=(m,(r,false)):=by
 obtain ⟨h1,h2,h3,h4,h5⟩:=h
 unfold metaR metaI
 rw[mx_id h1.1,mx_id h2.1,mx_id h3.1]
 simp only[List.append_assoc]
 rw[take_put h1 (by decide)]
 simp only
 rw[take_put h2 (by decide)]
 simp only
 rw[take_put h3 (by decide)]
 simp only
 rw[text_put h4]
 simp only
 rw[text_put h5]
theorem delR_put:∀ (L:List Int) (out:List Int) (r:List UInt8),(∀ n∈L,0≤n∧n≤1073741824)→delR L.length (delI L++r,false) out=((r,false),out++L)
 | [],out,r,_=>by simp[delR,delI]
 | n::L,out,r,h=>by
  have hn:=h n (by simp)
  have e:delI (n::L)++r=putI n++(delI L++r):=by simp[delI,mx_id hn.1]
  rw[List.length_cons,delR,e,take_put hn (by decide)]
  simp only
  rw[delR_put L _ r (fun x hx=>h x (by simp[hx]))]
  simp
theorem addR_put:∀ (L:List Meta) (out:List Meta) (r:List UInt8),(∀ m∈L,(0≤m.num∧m.num≤1073741824)∧(0≤m.level∧m.level≤5)∧(0≤m.size∧m.size≤67108864)∧m.low.size≤128∧m.high.size≤128)→addR L.length (addI L++r,false) out=((r,false),out++L)
 | [],out,r,_=>by simp[addR,addI]
 | m::L,out,r,h=>by
  have hn:=h m (by simp)
  have e:addI (m::L)++r=metaI m++(addI L++r):=by simp[addI]
  rw[List.length_cons,addR,e,metaR_put hn]
  simp only
  rw[addR_put L _ r (fun x hx=>h x (by simp[hx]))]
  simp
theorem dec_enc {e:Edt} (h:NumOk e) (r:List UInt8):(decA (encI e++r)).1=(r,false)∧decE (encI e++r)=e:=by
 have eb:encI e++r=putI e.log++(putI e.next++(putI e.seq++(putI (e.del.length:Int)++(delI e.del++(putI (e.add.length:Int)++(addI e.add++r)))))):=by
  unfold encI headE
  rw[mx_id h.log.1,mx_id h.next.1]
  simp only[List.append_assoc]
 have hdl:=h.dl
 have hal:=h.al
 have t1:=take_put (most:=1073741824) h.log (by decide) (putI e.next++(putI e.seq++(putI (e.del.length:Int)++(delI e.del++(putI (e.add.length:Int)++(addI e.add++r))))))
 have t2:=take_put (most:=1073741824) h.next (by decide) (putI e.seq++(putI (e.del.length:Int)++(delI e.del++(putI (e.add.length:Int)++(addI e.add++r)))))
 have t3:=take_put (most:=72057594037927935) h.seq (by decide) (putI (e.del.length:Int)++(delI e.del++(putI (e.add.length:Int)++(addI e.add++r))))
 have t4:=take_put (n:=(e.del.length:Int)) (most:=1000) (by omega) (by decide) (delI e.del++(putI (e.add.length:Int)++(addI e.add++r)))
 have t5:=delR_put e.del [] (putI (e.add.length:Int)++(addI e.add++r)) h.del
 have t6:=take_put (n:=(e.add.length:Int)) (most:=1000) (by omega) (by decide) (addI e.add++r)
 have t7:=addR_put e.add [] r h.add
 rw[eb]
 have eh:decH (putI e.log++(putI e.next++(putI e.seq++(putI (e.del.length:Int)++(delI e.del++(putI (e.add.length:Int)++(addI e.add++r)))))))=(putI (e.del.length:Int)++(delI e.del++(putI (e.add.length:Int)++(addI e.add++r))),false):=by
  unfold decH
  rw[t1]
  simp only
  rw[t2]
  simp only
  rw[t3]
 have edD:decD (putI e.log++(putI e.next++(putI e.seq++(putI (e.del.length:Int)++(delI e.del++(putI (e.add.length:Int)++(addI e.add++r)))))))=((putI (e.add.length:Int)++(addI e.add++r),false),e.del):=by
  unfold decD
  rw[eh,t4]
  simp only[Int.toNat_natCast]
  rw[t5]
  rfl
 have edA:decA (putI e.log++(putI e.next++(putI e.seq++(putI (e.del.length:Int)++(delI e.del++(putI (e.add.length:Int)++(addI e.add++r)))))))=((r,false),e.add):=by
  unfold decA
  rw[edD]
  simp only
  rw[t6]
  simp only[Int.toNat_natCast]
  rw[t7]
  rfl
 refine ⟨by rw[edA],?_⟩
 unfold decE
 rw[edA,edD,t1]
 simp only
 rw[t2]
 simp only
 rw[t3]
theorem decI_enc {e:Edt} (h:NumOk e):decI (encI e)=(e,0):=by
 obtain ⟨h1,h2⟩:=dec_enc h []
 rw[List.append_nil] at h1 h2
 unfold decI
 rw[h1,h2]
 simp
end Go.Ax

namespace Go.Ax
open Go.Proofs Go.RowKit
set_option maxRecDepth 100000

end Go.Ax

namespace Go.Ax
open Go.Proofs Go.RowKit
set_option maxRecDepth 100000

theorem find_del (nm m:ByteArray) (fs:List Fil):(delF fs nm).find? (fun y=>decide (y.name=m))=if nm=m then none else fs.find? fun y=>decide (y.name=m):=by
 induction fs with
 | nil=>simp[delF]
 | cons y r ih=>
  unfold delF at ih ⊢
  by_cases hy:y.name=nm
  ·rw[List.filter_cons_of_neg (by simp[hy]),ih,List.find?_cons]
   by_cases h:nm=m
   ·rw[if_pos h,if_pos h]
   ·rw[if_neg h,if_neg h]
    have:¬y.name=m:=fun e=>h (hy.symm.trans e)
    simp[this]
  ·rw[List.filter_cons_of_pos (by simp[hy]),List.find?_cons,ih,List.find?_cons]
   by_cases h:nm=m
   ·have:¬y.name=m:=fun e=>hy (e.trans h.symm)
    simp[h,this]
   ·simp[h]
theorem get_contI {D:Dsk} {nm:ByteArray} {c:List UInt8} (hc:D.cont nm=some c):∃ x,D.get nm=some x∧x.b=c:=by
 unfold Dsk.cont at hc
 cases hg:D.get nm with
 | none=>rw[hg] at hc; cases hc
 | some x=>rw[hg] at hc; cases hc; exact ⟨x,rfl,rfl⟩
theorem get_noneI {D:Dsk} {nm:ByteArray} (hc:D.cont nm=none):D.get nm=none:=by
 unfold Dsk.cont at hc
 cases hg:D.get nm with
 | none=>rfl
 | some x=>rw[hg] at hc; cases hc
theorem cont_remove {D:Dsk} (h:Live D) {nm:ByteArray} {c:List UInt8} (hc:D.cont nm=some c):
  (removeD D nm).2=0∧Live (removeD D nm).1∧(∀ m,(removeD D nm).1.cont m=if nm=m then none else D.cont m)∧(removeD D nm).1.used=D.used - c.length∧(removeD D nm).1.room=D.room:=by
 obtain ⟨x,hg,rfl⟩:=get_contI hc
 have e:removeD D nm=({D.stepped with files:=delF D.files nm,used:=D.used - x.b.length},0):=by
  unfold removeD
  rw[if_neg (by simp[h.up])]
  simp only[hg]
  rw[h.fu,if_neg (by simp[stE0])]
 have hok:=removeD_ok h.ok nm
 rw[e] at hok ⊢
 obtain ⟨s1,s2⟩:=stepped0 h
 refine ⟨rfl,⟨hok,s1,s2⟩,fun m=>?_,rfl,rfl⟩
 show ((delF D.files nm).find? fun y=>decide (y.name=m)).map (·.b)=_
 rw[find_del]
 split
 ·rfl
 ·rfl
theorem cont_rename {D:Dsk} (h:Live D) {nm nn:ByteArray} {c:List UInt8} (hn:isName nn=true) (hne:nm≠nn) (hc:D.cont nm=some c):
  (renameD D nm nn).2=0∧Live (renameD D nm nn).1∧(∀ m,(renameD D nm nn).1.cont m=if nn=m then some c else if nm=m then none else D.cont m)∧(renameD D nm nn).1.used≤D.used∧(renameD D nm nn).1.room=D.room:=by
 obtain ⟨x,hg,rfl⟩:=get_contI hc
 have e:renameD D nm nn=({D.stepped with files:=insF {x with name:=nn} (delF (delF D.files nm) nn),used:=D.used - match D.get nn with | some y=>(y.b.length:Int) | none=>0},0):=by
  unfold renameD
  rw[hn,if_neg (by decide),if_neg (by simp[h.up])]
  simp only[hg]
  rw[h.fu,if_neg (by simp[stE0]),if_neg hne]
  rfl
 have hok:=renameD_ok h.ok nm nn
 rw[e] at hok ⊢
 obtain ⟨s1,s2⟩:=stepped0 h
 refine ⟨rfl,⟨hok,s1,s2⟩,fun m=>?_,?_,rfl⟩
 ·show ((insF {x with name:=nn} (delF (delF D.files nm) nn)).find? fun y=>decide (y.name=m)).map (·.b)=_
  rw[find_ins _ _ _ (by
   intro hm
   obtain ⟨y,hy,e⟩:=List.mem_map.1 hm
   have:=(List.mem_filter.1 hy).2
   simp only[decide_eq_true_eq] at this
   exact this e),find_del,find_del]
  by_cases h1:nn=m
  ·rw[if_pos h1,if_pos h1]; rfl
  ·rw[if_neg h1,if_neg h1,if_neg h1]
   split <;> rfl
 ·show D.used - _≤D.used
  split
  ·rename_i y _
   have:(0:Int)≤(y.b.length:Int):=Int.natCast_nonneg _
   exact Int.sub_le_self _ this
  ·exact Int.sub_le_self _ (Int.le_refl 0)
theorem cont_sizeI {D:Dsk} (h:Live D) {nm:ByteArray} {c:List UInt8} (hc:D.cont nm=some c):sizeD D nm=((c.length:Int),0):=by
 obtain ⟨x,hg,rfl⟩:=get_contI hc
 unfold sizeD
 rw[if_neg (by simp[h.up])]
 simp only[hg]
theorem cont_sizeN {D:Dsk} (h:Live D) {nm:ByteArray} (hc:D.cont nm=none):sizeD D nm=(0,4):=by
 unfold sizeD
 rw[if_neg (by simp[h.up])]
 simp only[get_noneI hc]
theorem cont_readD {D:Dsk} (h:Live D) {nm:ByteArray} {c:List UInt8} (hc:D.cont nm=some c):(readD D nm 0 (sizeD D nm).1).1=c:=by
 obtain ⟨x,hg,rfl⟩:=get_contI hc
 rw[cont_sizeI h hc]
 unfold readD
 rw[if_neg (by simp[h.up])]
 simp only[hg]
 rw[if_neg (by omega)]
 simp only[Int.toNat_zero,List.drop_zero]
 exact List.take_of_length_le (by omega)

theorem write_live {D:Dsk} (h:Live D) {nm:ByteArray} (hn:isName nm=true) {bs:List UInt8} (hr:(bs.length:Int)≤D.room - D.used):
  (writeD D nm bs).2=0∧Live (writeD D nm bs).1∧(∀ m,(writeD D nm bs).1.cont m=if nm=m then some bs else D.cont m)∧(writeD D nm bs).1.used≤D.used+bs.length∧(writeD D nm bs).1.room=D.room:=by
 obtain ⟨o2,o1,o3,o4,o5⟩:(oldD D nm).2=0∧Live (oldD D nm).1∧(∀ m,(oldD D nm).1.cont m=if nm=m then none else D.cont m)∧(oldD D nm).1.used≤D.used∧(oldD D nm).1.room=D.room:=by
  unfold oldD
  cases hc:D.cont nm with
  | none=>
   rw[cont_sizeN h hc,if_neg (by decide)]
   refine ⟨rfl,h,fun m=>?_,Int.le_refl _,rfl⟩
   split
   ·rename_i e; rw[←e]; exact hc
   ·rfl
  | some c=>
   rw[cont_sizeI h hc,if_pos rfl]
   obtain ⟨a,b,c1,d,e⟩:=cont_remove h hc
   exact ⟨a,b,c1,by rw[d]; omega,e⟩
 obtain ⟨c1,c2,c3,c4,c5⟩:=cont_create o1 hn (by rw[o3,if_pos rfl])
 obtain ⟨a1,a2,a3,a4,a5⟩:=cont_append c2 (nm:=nm) (c:= []) (bs:=bs) (by rw[c3,if_pos rfl]) (by omega)
 have hca:(appendD (createD (oldD D nm).1 nm).1 nm bs).1.cont nm=some bs:=by rw[a3,if_pos rfl]; rfl
 obtain ⟨s1,s2,s3,s4,s5⟩:=cont_sync a2 hca
 have e:writeD D nm bs=syncD (appendD (createD (oldD D nm).1 nm).1 nm bs).1 nm:=by
  unfold writeD
  rw[if_neg (by omega)]
  unfold thenA
  rw[if_pos c1]
  unfold thenS
  rw[if_pos a1]
 rw[e]
 refine ⟨s1,s2,fun m=>?_,by rw[s4,a4,c4]; omega,by rw[s5,a5,c5,o5]⟩
 rw[s3,a3,c3,o3]
 split
 ·rfl
 ·rfl
theorem soon_is:isName soonN=true:=by decide
theorem now_is:isName nowN=true:=by decide
theorem manN_nn {n:Int} (h:0≤n):manN n≠nowN:=by
 intro e
 have:(manN n).data.toList=nowN.data.toList:=by rw[e]
 rw[manN_list h] at this
 exact absurd (congrArg List.head? this) (by simp[nowN])
theorem fresh_live {D:Dsk} (h:Live D) {n:Int} {w:Vers} (hn:0≤n∧n+1≤1073741824) (hr:((recB (encI (allE w))).length:Int)+(recB (putI (n+1))).length≤D.room - D.used):
  (freshD D n w).2=0∧Live (freshD D n w).1∧(∀ m,(freshD D n w).1.cont m=if nowN=m then some (recB (putI (n+1))) else if soonN=m then none else if manN (n+1)=m then some (recB (encI (allE w))) else D.cont m) ∧
   (freshD D n w).1.used≤D.used+((recB (encI (allE w))).length+(recB (putI (n+1))).length)∧(freshD D n w).1.room=D.room:=by
 obtain ⟨a1,a2,a3,a4,a5⟩:=write_live h (manN_is (n:=n+1) (by omega)) (bs:=recB (encI (allE w))) (by omega)
 obtain ⟨b1,b2,b3,b4,b5⟩:=write_live a2 soon_is (bs:=recB (putI (n+1))) (by omega)
 obtain ⟨c1,c2,c3,c4,c5⟩:=cont_rename b2 (nm:=soonN) (nn:=nowN) now_is (by decide) (by rw[b3,if_pos rfl])
 have e:freshD D n w=renameD (writeD (writeD D (manN (n+1)) (recB (encI (allE w)))).1 soonN (recB (putI (n+1)))).1 soonN nowN:=by
  unfold freshD
  rw[if_neg (by omega),if_neg (by omega),if_neg (by omega),if_neg (by omega)]
 rw[e]
 refine ⟨c1,c2,fun m=>?_,by omega,by omega⟩
 rw[c3,b3,a3]
 by_cases h1:nowN=m
 ·rw[if_pos h1,if_pos h1]
 ·rw[if_neg h1,if_neg h1]
  by_cases h2:soonN=m
  ·rw[if_pos h2,if_pos h2]
  ·rw[if_neg h2,if_neg h2,if_neg h2]

theorem load_of {D:Dsk} (h:Live D) {k:Int} (hk:1≤k∧k≤1073741824) (hnow:D.cont nowN=some (recB (putI k))) {c:List UInt8} (hc:D.cont (manN k)=some c) {ts:List (List UInt8)} {z:Int} (ha:allI c=(ts,z,0)) (hts:ts≠ []) {v:Vers} (hv:replay ts firstV=some v):loadD D=(0,k,v):=by
 have e1:nowR D=recB (putI k):=cont_readD h hnow
 have hp:=putI_len k (by omega)
 have e2:nextI (recB (putI k))=(putI k,((putI k).length:Int)+12,0):=by
  have:=next_rec (d:=putI k) (by omega) []
  rwa[List.append_nil] at this
 have e3:numR D=(k,((putI k).length:Int),0):=by
  unfold numR
  rw[e1,e2]
  exact getI_put (by omega)
 have e4:listR D k=c:=cont_readD h hc
 have hrl:(recB (putI k)).length=(putI k).length+12:=recB_len _
 unfold loadD
 rw[cont_sizeI h hnow]
 simp only
 rw[if_neg (by decide),if_neg (by decide),e1,e2,e3]
 simp only
 rw[if_neg (by rintro (h | h); exact h rfl; omega),if_neg (by rintro (h | h | h | h); exact h rfl; exact h rfl; omega; omega),cont_sizeI h hc]
 simp only
 rw[if_neg (by decide),e4,ha]
 simp only
 rw[if_neg (by rintro (h | h); exact h rfl; exact hts (List.length_eq_zero_iff.1 h)),hv]
end Go.Ax

namespace Go.Ax
open Go.Proofs Go.RowKit
set_option maxRecDepth 100000

theorem c31_of {x y:Meta} (hx:0≤x.num∧x.num≤1073741824) (hy:0≤y.num∧y.num≤1073741824):c31 x y=x.num - y.num:=by
 unfold c31
 exact wrap_i64 (by omega)
theorem c31_ord:Ordr c31 (fun m=>0≤m.num∧m.num≤1073741824) where
 asym x y hx hy h:=by rw[c31_of hx hy] at h; rw[c31_of hy hx]; omega
 trans x y z hx hy hz h1 h2:=by rw[c31_of hy hx] at h1; rw[c31_of hz hy] at h2; rw[c31_of hz hx]; omega
theorem perm_eq:∀ (A B:List Meta),A.Perm B→A.Pairwise (fun x y=>x.num≤y.num)→B.Pairwise (fun x y=>x.num<y.num)→A=B
 | [],B,h,_,_=>h.nil_eq
 | a::A,[],h,_,_=>absurd h.length_eq (by simp)
 | a::A,b::B,h,ha,hb=>by
  have h1:=List.pairwise_cons.1 ha
  have h2:=List.pairwise_cons.1 hb
  have e:a=b:=by
   have m1:a∈b::B:=h.mem_iff.1 (by simp)
   have m2:b∈a::A:=h.mem_iff.2 (by simp)
   rcases List.mem_cons.1 m1 with e | m1
   ·exact e
   ·rcases List.mem_cons.1 m2 with e | m2
    ·exact e.symm
    ·have:=h2.1 a m1
     have:=h1.1 b m2
     omega
  subst e
  rw[perm_eq A B h.cons_inv h1.2 h2.2]
theorem byNum_sorted {L:List Meta} (h:L.length≤1000000) (hq:∀ x∈L,0≤x.num∧x.num≤1073741824):(byNum L).Pairwise (fun x y=>x.num≤y.num):=by
 obtain ⟨_,hp,hs⟩:=byNum_spec h
 have hs:=hs _ c31_ord hq
 rw[List.pairwise_iff_getElem]
 intro i j hi hj hij
 have:=hs i j (by omega) hij (by rw[←hp.length_eq]; exact hj)
 rw[at_eq hi,at_eq hj,c31_of (hq _ (hp.mem_iff.1 (List.getElem_mem hj))) (hq _ (hp.mem_iff.1 (List.getElem_mem hi)))] at this
 omega
theorem byNum_id {L:List Meta} (h:L.length≤1000000) (hq:∀ x∈L,0≤x.num∧x.num≤1073741824) (hu:L.Pairwise (fun x y=>x.num<y.num)):byNum L=L:=
 perm_eq _ _ (byNum_spec h).2.1 (byNum_sorted h hq) hu

theorem ok_b {m:Meta} (h:m.ok=true):(1≤m.num∧m.num≤1073741824)∧(0≤m.level∧m.level≤5)∧(0≤m.size∧m.size≤67108864)∧m.low.size≤128∧m.high.size≤128:=by
 unfold Meta.ok at h
 simp only[Bool.and_eq_true,decide_eq_true_eq] at h
 omega
theorem right_num {w:Vers} (h:Right w) (hs:0≤w.seq):NumOk (allE w) where
 log:=by have:=h.log; show 0≤w.log∧w.log≤1073741824; omega
 next:=by have:=h.next; show 0≤w.next∧w.next≤1073741824; omega
 seq:=⟨hs,h.seq⟩
 del:=fun n hn=>by simp[allE] at hn
 add:=fun m hm=>by
  have:=ok_b (h.ok m hm).1
  refine ⟨by omega,this.2⟩
 dl:=by simp[allE]
 al:=h.len
theorem apply_all {w:Vers} (h:Right w) (hs:0≤w.seq):applyL firstV (allE w)=(w,0):=by
 have hlog:=h.log
 have hnext:=h.next
 have hlen:=h.len
 have e1:newI w.log 1=w.log:=by unfold newI; rw[if_pos (by omega)]
 have e2:newI w.next 1=w.next:=by unfold newI; rw[if_pos (by omega)]
 have e3:newI w.seq 0=w.seq:=by unfold newI; split <;> omega
 have e4:byNum (leftL [] []++w.files)=w.files:=by
  show byNum w.files=w.files
  exact byNum_id (by omega) (fun x hx=>by have:=ok_b (h.ok x hx).1; omega) h.up
 have ew:applyW firstV (allE w)=w:=by
  show (⟨byNum (leftL [] []++w.files),newI w.log 1,newI w.next 1,newI w.seq 0⟩:Vers)=w
  rw[e1,e2,e3,e4]
 unfold applyL
 rw[if_neg,ew,if_pos (of_right h)]
 rintro (h1 | h1 | h1 | h1)
 ·exact h1 rfl
 ·have:newI w.log 1<1:=h1
  omega
 ·have:newI w.next 1<1:=h1
  omega
 ·have:newI w.seq 0<0:=h1
  omega
theorem enc_lenB {e:Edt} (h:NumOk e):(encI e).length≤50+e.del.length*10+e.add.length*306:=by
 have dl:∀ L:List Int,(∀ n∈L,0≤n∧n≤1073741824)→(delI L).length≤L.length*10:=fun L=>by
  induction L with
  | nil=>intro _; simp[delI]
  | cons n L ih=>
   intro hL
   have h1:=hL n (by simp)
   have h2:=ih (fun x hx=>hL x (by simp[hx]))
   have h3:=putI_len n (by omega)
   have e:delI (n::L)=putI n++delI L:=by simp[delI,mx_id h1.1]
   rw[e,List.length_append,List.length_cons]
   omega
 have tl:∀ s:ByteArray,s.size≤128→(txtI s).length≤138:=fun s hs=>by
  have h3:=putI_len (s.size:Int) (by omega)
  have hl:s.data.toList.length=s.size:=rfl
  unfold txtI
  rw[List.length_append]
  omega
 have al:∀ L:List Meta,(∀ m∈L,(0≤m.num∧m.num≤1073741824)∧(0≤m.level∧m.level≤5)∧(0≤m.size∧m.size≤67108864)∧m.low.size≤128∧m.high.size≤128)→(addI L).length≤L.length*306:=fun L=>by
  induction L with
  | nil=>intro _; simp[addI]
  | cons m L ih=>
   intro hL
   obtain ⟨h1,h2,h3,h4,h5⟩:=hL m (by simp)
   have hi:=ih (fun x hx=>hL x (by simp[hx]))
   have p1:=putI_len m.num (by omega)
   have p2:=putI_len m.level (by omega)
   have p3:=putI_len m.size (by omega)
   have t1:=tl _ h4
   have t2:=tl _ h5
   have e:addI (m::L)=metaI m++addI L:=by simp[addI]
   have e2:(metaI m).length=(putI m.num).length+(putI m.level).length+(putI m.size).length+(txtI m.low).length+(txtI m.high).length:=by
    unfold metaI
    rw[mx_id h1.1,mx_id h2.1,mx_id h3.1]
    simp only[List.length_append]
   rw[e,List.length_append,List.length_cons,e2]
   omega
 have h1:=h.log
 have h2:=h.next
 have h3:=h.seq
 have hd:=h.dl
 have ha:=h.al
 have p1:=putI_len e.log (by omega)
 have p2:=putI_len e.next (by omega)
 have p3:=putI_len e.seq (by omega)
 have p4:=putI_len (e.del.length:Int) (by omega)
 have p5:=putI_len (e.add.length:Int) (by omega)
 have d1:=dl e.del h.del
 have a1:=al e.add h.add
 unfold encI headE
 rw[mx_id h1.1,mx_id h2.1]
 simp only[List.length_append]
 omega
theorem enc_len {e:Edt} (h:NumOk e):(encI e).length≤400000:=by
 have:=enc_lenB h
 have:=h.dl
 have:=h.al
 omega
theorem NumOk.enc {e:Edt} (h:NumOk e):EncOk e where
 log:=by have:=h.log; omega
 next:=by have:=h.next; omega
 seq:=by have:=h.seq; omega
 del:=fun n hn=>by have:=h.del n hn; omega
 add:=fun m hm=>by have:=h.add m hm; omega
 len:=by have:=enc_len h; omega
 dl:=by have:=h.dl; omega
 al:=by have:=h.al; omega
theorem replay_all {w:Vers} (h:Right w) (hs:0≤w.seq):replay [encI (allE w)] firstV=some w:=by
 unfold replay
 rw[decI_enc (right_num h hs)]
 simp only
 rw[if_neg (by decide),apply_all h hs]
 simp only
 rw[if_neg (by decide)]
 rfl
theorem right_one {m:Meta} (hm:m.ok=true) {lg nx sq:Int} (hl:1≤lg∧lg≤1073741824) (hn:1≤nx∧nx≤1073741824) (hs:sq≤72057594037927935) (hlt:m.num<nx):Right ⟨[m],lg,nx,sq⟩ where
 log:=hl
 next:=hn
 seq:=hs
 len:=by simp
 ok:=fun x hx=>by rw[List.mem_singleton.1 hx]; exact ⟨hm,hlt⟩
 up:=List.pairwise_singleton _ _
 lev:=fun n _ _=>by
  have:=ofL_len n (files:= [m]) (by simp)
  unfold levelOk
  have e:(ofL n [m]).length - 1=0:=by simp at this; omega
  rw[e]
  rfl
end Go.Ax

namespace Go.Ax
open Go.Proofs Go.RowKit
set_option maxRecDepth 100000

def sealX (R:RSpec):RSpec:=fun args B r B'=>∃ (i k:Nat) (x y:AV),Sealed (fun j=>j=k) B x y∧args[i]? = some x∧R (args.set i y) (B.set k .dead) r B'
variable {P : Program} [Glob]
theorem SoundR.shutX {f:Nat} {R:RSpec} (h:SoundR P f R):SoundR P f (sealX R):=by
 rintro args B r B' ⟨i,b,x0,y0,hs,hi,hR⟩ F ρ w us hI hA
 have hget:∀ (b':Nat) (row:Bool) (v':Nat) (cs':List AV),(B.set b Box.dead)[b']? = some (.cells row v' cs')→b'≠b∧B[b']? = some (.cells row v' cs'):=by
  intro b' row v' cs' hc
  rw[List.getElem?_set] at hc
  split at hc
  ·split at hc <;> cases hc
  ·rename_i e'
   exact ⟨fun h=>e' h.symm,hc⟩
 obtain ⟨hown,hE2⟩:=retell_ext (F:=F) (B:=B) (B':=B.set b Box.dead) (ρ:=ρ) (w:=w) (by simp) (fun b' row' v' cs' hc=>⟨cs',(hget b' row' v' cs' hc).2,rfl⟩) (fun j cs Φ h=>obj_set (fun _ _ e=>by cases e) h)
 have hI2:=retell (B':=B.set b Box.dead) hI (fun b' row' v' cs' hc=>by
  obtain ⟨_,h3⟩:=hget b' row' v' cs' hc
  exact ⟨cs',h3,rfl,hI.leaf _ _ _ _ h3,fun j c' hc'=>⟨c',hc',fun u hu=>hu.ext hE2⟩⟩) (fun j cs Φ h=>obj_set (fun _ _ e=>by cases e) h) hE2
 have hA2:ArgsRel F (B.set b Box.dead) ρ w (args.set i y0) us:=by
  refine ⟨by rw[List.length_set]; exact hA.1,fun j p u hp hu=>?_⟩
  rw[List.getElem?_set] at hp
  split at hp
  ·rename_i e
   subst e
   split at hp
   ·cases hp
    have hv:=hA.2 i _ u hi hu
    refine Sealed.vrel (S:=fun k=>k=b) hI hs hv hown fun b0 row0 v0 cs0 k o hS hB hρ=>?_
    subst hS
    rintro (hF | ⟨b3,x3,l3,g1,g2,g3⟩)
    ·exact hI.farb b0 row0 v0 cs0 k o hB hρ hF
    ·rw[List.getElem?_set] at g1
     split at g1
     ·split at g1
      ·cases g1; exact g3.elim
      ·cases g1
     ·rename_i e2
      exact e2 (hI.injx b0 b3 _ _ (k,o) l3 k hB g1 hρ g2 rfl g3)
   ·cases hp
  ·exact (hA.2 j p u hp hu).ext hE2
 exact (h _ _ _ _ hR F ρ w us hI2 hA2).mono fun e w' hp=>by
  obtain ⟨x,ρ2,rfl,q1,q2,q3⟩:=hp
  exact ⟨x,ρ2,rfl,q1,hE2.trans q2,q3⟩

section
variable {B : List Box} {b m : Nat} {D : Dsk} {n : Int} {v : Vers} {o : Bool} {x : Edt}
theorem oLoad (ok:D.Ok) (h:(loadD D).1=0) (hb:B[b]? = some (.obj [] (diskP D))):liftR OLoad [.op b] B (.tup [.ptr B.length 0 0,vi 0]) (B++ [manB b (loadD D).2.1 (loadD D).2.2 false]):=by
 have hlt:b<B.length:=(List.getElem?_eq_some_iff.1 hb).1
 refine ⟨_,_,_,_,⟨D,ok,rfl,rfl, .inr ⟨h,rfl,rfl⟩⟩,⟨[b],[0],[.obj [] (diskP D)],[.obj [] (diskP D)],[manB b (loadD D).2.1 (loadD D).2.2 false],?_,?_,?_,?_,⟨.objs rfl rfl,trivial⟩,⟨.objs rfl rfl, .cells ?_ ?_ rfl,trivial⟩,?_,?_,rfl⟩⟩
 ·simp[noDup,Nat.blt_eq,hlt]
 ·simp[hb]
 ·simp[AV.rv.rvL,AV.rv,fNew]
 ·rfl
 ·simp[dNew]
 ·simp[AV.rv.rvL,AV.rv,fNew]
 ·simp only[outB]; rw[set_same hb]
 ·simp[AV.rv,AV.rv.rvL,fNew,dNew]
theorem oDo (ok:D.Ok) (hn:0≤n∧n≤1073741824) (hx:DoOk v o x) (hm:B[m]? = some (manB b n v o)) (hb:B[b]? = some (.obj [] (diskP D))):
  liftR ODo [.ptr m 0 0,edtA x] B (vi (doD D n v o x).2) ((B.set m (manB b (doM D n v o x).1 (doM D n v o x).2.1 (doM D n v o x).2.2)).set b (.obj [] (diskP (doD D n v o x).1))):=
 lift_man (R:=ODo) (al:= [edtA x]) ⟨n,v,o,D,x,ok,hn,hx,rfl,rfl,rfl,rfl⟩ hm hb (fun _ _=>rfl) rfl (fun _ _=>rfl) rfl
theorem oVer {Φ:ObjP} (hv:v.files.length≤1000000000) (hm:B[m]? = some (manB b n v o)) (hb:B[b]? = some (.obj [] Φ)):liftR OVer [.ptr m 0 0] B (versA v) B:=
 lift_man0 (R:=OVer) (al:= []) ⟨n,v,o,Φ,hv,rfl,rfl,rfl,rfl⟩ hm hb (fun _ _=>rfl) rfl (fun _ _=>rfl) rfl
theorem oNumb {Φ:ObjP} (hm:B[m]? = some (manB b n v o)) (hb:B[b]? = some (.obj [] Φ)):liftR ONumb [.ptr m 0 0] B (vi n) B:=
 lift_man0 (R:=ONumb) (al:= []) ⟨n,v,o,Φ,rfl,rfl,rfl,rfl⟩ hm hb (fun _ _=>rfl) rfl (fun _ _=>rfl) rfl
end
end Go.Ax

namespace Go.Ax
open Go.Proofs Go.RowKit
set_option maxRecDepth 100000

noncomputable def Γ16:Env:=envP [(52,gMetaL),(68,gNameF)]
noncomputable def Δ16:REnv:=envR [(iNew,liftR ONew),(iLoad,liftR OLoad),(iDo,sealX (liftR ODo)),(iVer,liftR OVer),(iNumb,liftR ONumb)]

abbrev iHeadE:Nat:=29
noncomputable abbrev nHeadE:Func:=Tryd.f29
theorem hfHeadE:DP.funcs[iHeadE]? = some nHeadE:=by kernel_rfl
theorem heHeadE:enters DP iHeadE=true:=by kernel_rfl
theorem hbHeadE:nHeadE.body.isSome=true:=by kernel_rfl
noncomputable def THeadE (D0:Dsk) (D1:Dsk) (v1:Vers):Tree:=
.callr (some 7) (Δ16 15 [vi 1000] [] (.op 0) [.obj [] (diskP D0)]) (.op 0) [.obj [] (diskP D0)] (.callr (some 10) (Δ16 43 [.op 0] [.obj [] (diskP D0)] (.tup [.ptr 1 0 0,vi 0]) [.obj [] (diskP D0),manB 0 0 firstV false]) (.tup [.ptr 1 0 0,vi 0]) [.obj [] (diskP D0),manB 0 0 firstV false] (.callr (some 21) (Δ16 46 [.ptr 1 0 0] [.obj [] (diskP D0),manB 0 0 firstV false] (vi 0) [.obj [] (diskP D0),manB 0 0 firstV false]) (vi 0) [.obj [] (diskP D0),manB 0 0 firstV false] (.callr (some 26) (Δ16 45 [.ptr 1 0 0] [.obj [] (diskP D0),manB 0 0 firstV false] (.agg [vl (firstV.files.map metaE.f),vi firstV.log,vi firstV.next,vn .u64 firstV.seq]) [.obj [] (diskP D0),manB 0 0 firstV false]) (.agg [vl (firstV.files.map metaE.f),vi firstV.log,vi firstV.next,vn .u64 firstV.seq]) [.obj [] (diskP D0),manB 0 0 firstV false] (.sp 28 (firstV.next != (1:Int)) (
.leaf ⟨[0],[]⟩ [] .ret (some ([(0,vb false)],[]))) (
.call 31 (gMetaL [vi 1]=some (.agg [vi 1,vi 0,vs (⟨#[97]⟩),vs (⟨#[98]⟩),vi 5])) (.agg [vi 1,vi 0,vs (⟨#[97]⟩),vs (⟨#[98]⟩),vi 5]) (.callr (some 34) (Δ16 44 [.ptr 1 0 0, .agg [.rs 2 0 5 0 1,nilS,vi 0,vi 2,vn .u64 0]] [.obj [] (diskP D0),manB 0 0 firstV false, .cells true 0 ([vi 1,vi 0,vs (⟨#[97]⟩),vs (⟨#[98]⟩),vi 5])] (vi 0) [.obj [] (diskP D1),manB 0 1 v1 true, .dead]) (vi 0) [.obj [] (diskP D1),manB 0 1 v1 true, .dead] (.callr (some 37) (Δ16 43 [.op 0] [.obj [] (diskP D1),manB 0 1 v1 true, .dead] (.tup [.ptr 3 0 0,vi 0]) [.obj [] (diskP D1),manB 0 1 v1 true, .dead,manB 0 1 v1 false]) (.tup [.ptr 3 0 0,vi 0]) [.obj [] (diskP D1),manB 0 1 v1 true, .dead,manB 0 1 v1 false] (.callr (some 48) (Δ16 46 [.ptr 1 0 0] [.obj [] (diskP D1),manB 0 1 v1 true, .dead,manB 0 1 v1 false] (vi 1) [.obj [] (diskP D1),manB 0 1 v1 true, .dead,manB 0 1 v1 false]) (vi 1) [.obj [] (diskP D1),manB 0 1 v1 true, .dead,manB 0 1 v1 false] (.callr (some 53) (Δ16 46 [.ptr 3 0 0] [.obj [] (diskP D1),manB 0 1 v1 true, .dead,manB 0 1 v1 false] (vi 1) [.obj [] (diskP D1),manB 0 1 v1 true, .dead,manB 0 1 v1 false]) (vi 1) [.obj [] (diskP D1),manB 0 1 v1 true, .dead,manB 0 1 v1 false] (.callr (some 58) (Δ16 45 [.ptr 3 0 0] [.obj [] (diskP D1),manB 0 1 v1 true, .dead,manB 0 1 v1 false] (.agg [vl (v1.files.map metaE.f),vi v1.log,vi v1.next,vn .u64 v1.seq]) [.obj [] (diskP D1),manB 0 1 v1 true, .dead,manB 0 1 v1 false]) (.agg [vl (v1.files.map metaE.f),vi v1.log,vi v1.next,vn .u64 v1.seq]) [.obj [] (diskP D1),manB 0 1 v1 true, .dead,manB 0 1 v1 false] (.int 60 ((v1.files.map metaE.f).length:Int) (v1.files.length:Int) (.sp 61 ((v1.files.length:Int) == (1:Int)) (
.call 64 (gNameF [vi 3]=some (vs (filN 3))) (vs (filN 3)) (.leaf ⟨[0],[]⟩ [] .ret (some ([(0,vb ((filN 3).toList == (⟨#[102,105,108,101,46,51]⟩:ByteArray).toList))],[])))) (
.leaf ⟨[0],[]⟩ [] .ret (some ([(0,vb false)],[])))))))))))))))

theorem THeadE_chk (D0:Dsk) (D1:Dsk) (v1:Vers):fnC DP Γ16 Δ16 Tryd.f29 [] [] (THeadE D0 D1 v1)=THeadE D0 D1 v1:=by kernel_rfl

end Go.Ax
