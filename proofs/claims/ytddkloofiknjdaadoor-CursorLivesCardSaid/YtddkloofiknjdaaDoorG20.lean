/- The law of lives holds. -/
import Derived.Test.YtddkloofiknjdaaDoorG19
import Derived.Test.YtddkloofiknjdaaDoorG16
import Derived.Test.YtddkloofiknjdaaDoorG18
set_option linter.unusedVariables false
set_option linter.unusedSimpArgs false
set_option linter.unusedSectionVars false
namespace Go.Ax
open Go.Proofs Go.RowKit
set_option maxRecDepth 100000

section
variable {from_ to_ : ByteArray} {seq most : Int} {last : ByteArray} {seen : Bool} {x : Ent}
theorem xW (h:Op.bytesLess x.key.toList from_.toList=true):EW from_ to_ seq last seen x=true:=by unfold EW; rw[h,Bool.true_or,Bool.true_or]
theorem xX (h2:(!(to_.toList == (⟨#[]⟩:ByteArray).toList))=true) (h3:(!(Op.bytesLess x.key.toList to_.toList))=true):EW from_ to_ seq last seen x=true:=by unfold EW Du; rw[h2,h3,Bool.true_and,Bool.or_true,Bool.true_or]
theorem wN (h:decide (x.seq>seq)=true):EW from_ to_ seq last seen x=true:=by unfold EW GR; rw[h,Bool.true_or,Bool.or_true]
theorem wO (h5:seen=true) (h6:(x.key.toList == last.toList)=true):EW from_ to_ seq last seen x=true:=by unfold EW GR; rw[h5,h6,Bool.true_and,Bool.or_true,Bool.or_true]
theorem lk (h1:Op.bytesLess x.key.toList from_.toList=false) (h2:Du to_ x=false) (h4:decide (x.seq>seq)=false) (h5:(seen&&(x.key.toList == last.toList))=false):EW from_ to_ seq last seen x=false:=by unfold EW GR; rw[h1,h2,h4,h5]; rfl
theorem wP (h:(!(to_.toList == (⟨#[]⟩:ByteArray).toList))=false):Du to_ x=false:=by unfold Du; rw[h,Bool.false_and]
theorem wQ (h:(!(Op.bytesLess x.key.toList to_.toList))=false):Du to_ x=false:=by unfold Du; rw[h,Bool.and_false]
end
section
variable {A : List Ent} {from_ to_ : ByteArray} {seq most : Int} {o : List Ent}
theorem UO (s:List Ent×ByteArray×Bool) (x:Ent):(Cs from_ to_ seq most s x).1.length≤s.1.length+1:=by
 unfold Cs
 split
 ·omega
 ·simp only
  split
  ·simp
  ·omega
theorem dQ {out:List Ent} {last:ByteArray} {seen:Bool} {k:Nat} {x:Ent} (hk:k<A.length) (hA:A.length≤1000000) (ho:out.length≤k) (gx:A[k]? = some x) {K:AE→St→Prop}
  (h:K .normal (Ft A from_ to_ seq most o ((Cs from_ to_ seq most (out,last,seen) x).1,(Cs from_ to_ seq most (out,last,seen) x).2.1,(Cs from_ to_ seq most (out,last,seen) x).2.2,(k:Int)+1))):
  (In A from_ to_ seq most o (out,last,seen,(k:Int))).wp K:=by
 have jt:EW from_ to_ seq last seen x=true→(Dj A from_ to_ seq most o (out,last,seen,(k:Int)) x true).wp K:=fun hs=>by
  have e:Cs from_ to_ seq most (out,last,seen) x=(out,last,seen):=if_pos hs
  rw[e] at h
  unfold Dj
  exact Ce (fun _=>AP (by simp only; omega) (wp_leaf rfl h)) (fun q=>by cases q)
 have jf:EW from_ to_ seq last seen x=false→(Dj A from_ to_ seq most o (out,last,seen,(k:Int)) x false).wp K:=fun hs=>by
  have e:Cs from_ to_ seq most (out,last,seen) x=(if x.del=false∧(out.length:Int)<most then out++ [x] else out,x.key,true):=if_neg (by rw[hs]; decide)
  rw[e] at h
  have j3f:¬(x.del=false∧(out.length:Int)<most)→(Jc A from_ to_ seq most o (out,last,seen,(k:Int)) x false).wp K:=fun hc=>by
   rw[if_neg hc] at h
   unfold Jc
   exact Ce (fun q=>by cases q) (fun _=>AP (by simp only; omega) (wp_leaf rfl h))
  unfold Dj
  refine Ce (fun q=>by cases q) (fun _=>AC (fun q1=>Ab rfl (j3f fun g=>by rw[q1] at g; cases g.1)) (fun q1=>AC (fun q2=>?_) (fun q2=>Ab rfl (j3f fun g=>of_decide_eq_false q2 g.2))))
  refine Ab rfl ?_
  rw[if_pos ⟨q1,of_decide_eq_true q2⟩] at h
  unfold Jc
  exact Ce (fun _=>BW (show ASrc.ok AB [x] (.row 1 _) from ⟨rfl,rfl⟩) rfl (by simp; omega) (AP (by simp only; omega) (wp_leaf rfl h))) (fun q=>by cases q)
 unfold In
 refine AC (fun _=>Ci x (by simp only; omega) (by simpa using gx) (AC (fun q1=>Ab rfl (jt (xW q1))) (fun q1=>AC (fun q2=>AC (fun q3=>Ab rfl (jt (xX q2 q3))) (fun q3=>?_)) (fun q2=>?_)))) (fun q=>absurd (of_decide_eq_false q) (by simp only; omega))
 ·exact AC (fun q4=>Ab rfl (jt (wN q4))) (fun q4=>AC (fun q5=>AC (fun q6=>Ab rfl (jt (wO q5 q6))) (fun q6=>Ab rfl (jf (lk q1 (wQ q3) q4 (by rw[q6,Bool.and_false]))))) (fun q5=>Ab rfl (jf (lk q1 (wQ q3) q4 (by rw[show seen=false from q5,Bool.false_and])))))
 ·exact AC (fun q4=>Ab rfl (jt (wN q4))) (fun q4=>AC (fun q5=>AC (fun q6=>Ab rfl (jt (wO q5 q6))) (fun q6=>Ab rfl (jf (lk q1 (wP q2) q4 (by rw[q6,Bool.and_false]))))) (fun q5=>Ab rfl (jf (lk q1 (wP q2) q4 (by rw[show seen=false from q5,Bool.false_and])))))
theorem Y4 (hA:A.length≤1000000):∀ (M:List Ent) (k:Nat) (s:List Ent×ByteArray×Bool),A.drop k=M→k+M.length=A.length→s.1.length≤k →
  Rounds (Ft A from_ to_ seq most o) (ON o) CN (fun s=>(In A from_ to_ seq most o s).wp) (s.1,s.2.1,s.2.2,(k:Int)) (.inl (M.foldl (Cs from_ to_ seq most) s).1):=by
 intro M
 induction M with
 | nil=>
  intro k s hM hl hs
  simp only[List.length_nil] at hl
  refine .done (by intro e; cases e) ?_
  unfold In
  exact AC (fun q=>absurd (of_decide_eq_true q) (by simp only; omega)) (fun _=>wp_leaf rfl ⟨rfl,rfl⟩)
 | cons x M ih=>
  intro k s hM hl hs
  simp only[List.length_cons] at hl
  have gx:A[k]? = some x:=by rw[←List.head?_drop,hM]; rfl
  have hw:=UO (from_:=from_) (to_:=to_) (seq:=seq) (most:=most) s x
  have hr:=ih (k+1) (Cs from_ to_ seq most s x) (by rw[←List.drop_drop,hM]; rfl) (by omega) (by omega)
  rw[show ((k+1:Nat):Int)=(k:Int)+1 by omega] at hr
  rw[List.foldl_cons]
  exact .next (dQ (by omega) hA hs gx ⟨rfl,rfl⟩) hr
theorem Y5 (hN:o.length≤1000000):∀ (M:List Ent) (j:Nat),o.drop j=M→j+M.length=o.length →
  Rounds (Kr o o) OO Mt (fun s=>(Ks seq o o s).wp) (j:Int) (.inr ()):=by
 intro M
 induction M with
 | nil=>
  intro j hM hl
  simp only[List.length_nil] at hl
  refine .done' (by intro e; cases e) ?_
  unfold Ks
  exact AC (fun q=>absurd (of_decide_eq_true q) (by omega)) (fun _=>wp_leaf rfl ⟨rfl,rfl⟩)
 | cons x M ih=>
  intro j hM hl
  simp only[List.length_cons] at hl
  have gx:o[j]? = some x:=by rw[←List.head?_drop,hM]; rfl
  have hr:=ih (j+1) (by rw[←List.drop_drop,hM]; rfl) (by omega)
  rw[show ((j+1:Nat):Int)=(j:Int)+1 by omega] at hr
  refine .next ?_ hr
  unfold Ks
  refine AC (fun _=>Cg (CX (by omega) (by omega) (Bb x (by omega) (by simp[AB]) (by simpa using gx) (CX (by omega) (by omega) (Bb x (by omega) (by simp[AB]) (by simpa using gx) (AC (fun q=>?_) (fun _=>AP (by omega) (wp_leaf rfl ⟨rfl,rfl⟩)))))))) (fun q=>absurd (of_decide_eq_false q) (by omega))
  simp at q
end
theorem tB:SoundR DP JK X8:=by
 rintro args B r B' ⟨σ,TB,m,good,rest,nx,sk,s,from_,to_,seq,most,hT,hR,g,hf,h1,h2,h3⟩
 exact lg gZ hT hR args B r B' ⟨s,from_,to_,seq,most,g,hf,h1,h2,h3⟩
theorem ΓL_ok:∀ f,SoundF DP f (ΓL f):=An sZ Bu
theorem wF:∀ f,SoundR DP f (ΔL f):=AY (AU vh) (AY (AU wb) (AY xB (AY tB BJ)))
theorem Y6 {lists:List (List Ent)} {times:Int} (hb:GS lists=false) (hs:∀ l∈lists,∀ x∈l,JE x) (ht: -(2 ^ 63:Int)≤times∧times<2 ^ 63):LawT lists times:=by
 unfold GS at hb
 rw[Bool.or_eq_false_iff] at hb
 have h1:=of_decide_eq_false hb.1
 have h2:∀ l∈lists,HN l=false:=fun l hl=>by simpa using List.any_eq_false.1 hb.2 l hl
 refine ⟨by omega,hs,ht,fun l hl=>?_,fun l hl x hx=>?_⟩
 ·have:=h2 l hl
  unfold HN at this
  rw[Bool.or_eq_false_iff] at this
  have:=of_decide_eq_false this.1
  omega
 ·have:=h2 l hl
  unfold HN at this
  rw[Bool.or_eq_false_iff] at this
  have:=List.any_eq_false.1 this.2 x hx
  unfold Mp at this
  simp only[Bool.or_eq_true,decide_eq_true_eq,not_or] at this
  omega
theorem Qj {σ:Type} {TB:σ→List Box} {m:Nat} {good:σ→Prop} {rest:σ→List Ent} {nx:σ→σ} {sk:Ent→σ→σ} {F:List Box} {W:Wd} {s0:σ} (hT:TopR TB m good rest nx sk) (hR:RLive TB m) (hA:dO TB F W s0) (hB:dP TB m F W s0) (hW:B9 W [])
  {lists:List (List Ent)} {times:Int} (hs:∀ l∈lists,∀ x∈l,JE x) (ht: -(2 ^ 63:Int)≤times∧times<2 ^ 63) (g0:LawT lists times→good s0∧rest s0=Cv (lists.map (Ad times))) (hF:F=J7 (Bv 0 (lists.map (Ad times))) (C7 0 (lists.map (Ad times))) (EE (lists.map (Ad times))))
  (hq:LawT lists times→UM (Cv (lists.map (Ad times)))∧(∀ x∈Cv (lists.map (Ad times)),Dp x)∧(Cv (lists.map (Ad times))).length≤1000)
  (from_ to_:ByteArray) (seq most:Int):∃ T:Tree,Av DP ΓL ΔL Lz [vl (lists.map CQ.f),vi times,vs from_,vs to_,vn .u64 seq,vi most] [] T=T∧T.wp (fun _ c=>Sealed (fun _=>True) c.2 (tk c.1 0) (vb true)):=by
 have front:∀ (K:σ→Tree),(LawT lists times→from_.size≤200→(K s0).wp (fun _ c=>Sealed (fun _=>True) c.2 (tk c.1 0) (vb true))) →
   (J9 TB F W s0 K lists times from_ to_ seq most (Cv (lists.map (Ad times))) (newD 4194304) true (GS lists)).wp (fun _ c=>Sealed (fun _=>True) c.2 (tk c.1 0) (vb true)):=fun K hK=>by
  unfold J9
  refine Ac UC (AC (fun _=>AM (lh lists) (AC (fun _=>wp_leaf rfl (.p _)) (fun hb=>AC (fun _=>wp_leaf rfl (.p _)) (fun q1=>AC (fun _=>wp_leaf rfl (.p _)) (fun q2=>?_))))) (fun q=>by cases q))
  have hL:=Y6 hb hs ht
  refine AM (wc 4194304) (AM ⟨lists,times,hL,rfl,rfl,rfl,hF⟩ (Ab hW (hK hL ?_)))
  have:=of_decide_eq_false q1
  omega
 by_cases hseq:(72057594037927935:Int)<seq
 ·refine ⟨_,hA lists times from_ to_ seq most (Cv (lists.map (Ad times))) (newD 4194304) true (GS lists),front _ fun hL hf=>?_⟩
  unfold kg
  exact AM ⟨σ,TB,m,good,rest,nx,sk,s0,from_,to_,seq,most,hT,hR,(g0 hL).1,by omega,rfl,rfl, .inl ⟨hseq,rfl,rfl⟩⟩ (AC (fun _=>wp_leaf rfl (.p _)) (fun q=>absurd hseq (of_decide_eq_false q)))
 ·refine ⟨_,hB lists times from_ to_ seq most (Cv (lists.map (Ad times))) (newD 4194304) true (GS lists) (fun z=>aA nx (Cr to_ seq most (BB (Br from_) (rest z)) [] ⟨#[]⟩ false).2 (sk (Br from_) z)) (Cr to_ seq most (BB (Br from_) (Cv (lists.map (Ad times)))) [] ⟨#[]⟩ false).1,front _ fun hL hf=>?_⟩
  obtain ⟨g,hr⟩:=g0 hL
  obtain ⟨q1,q2,q3⟩:=hq hL
  have hlaw:=kj from_ to_ seq most q1 q2
  obtain ⟨A,hA'⟩:∃ A,A=Cv (lists.map (Ad times)):=⟨_,rfl⟩
  rw[←hA'] at hr q3 hlaw ⊢
  have hw:=Y4 (A:=A) (from_:=from_) (to_:=to_) (seq:=seq) (most:=most) (o:=(Cr to_ seq most (BB (Br from_) A) [] ⟨#[]⟩ false).1) (by omega) A 0 ([],⟨#[]⟩,false) List.drop_zero (Nat.zero_add _) (Nat.le_refl _)
  rw[hlaw] at hw
  have hol:(Cr to_ seq most (BB (Br from_) A) [] ⟨#[]⟩ false).1.length≤1000000:=by
   rw[←hlaw]
   have:∀ (M:List Ent) (s:List Ent×ByteArray×Bool),(M.foldl (Cs from_ to_ seq most) s).1.length≤s.1.length+M.length:=by
    intro M
    induction M with
    | nil=>intro s; exact Nat.le_refl _
    | cons x M ih=>
     intro s
     have h1:=UO (from_:=from_) (to_:=to_) (seq:=seq) (most:=most) s x
     have h2:=ih (Cs from_ to_ seq most s x)
     rw[List.foldl_cons,List.length_cons]
     omega
   have:=this A ([],⟨#[]⟩,false)
   simp only[List.length_nil] at this
   omega
  have hcall:=(⟨σ,TB,m,good,rest,nx,sk,s0,from_,to_,seq,most,hT,hR,g,by omega,rfl,rfl, .inr ⟨hseq,rfl,rfl⟩⟩:X8 [.ptr 0 0 0,vs from_,vs to_,vn .u64 seq,vi most] (TB s0) _ _)
  rw[hr] at hcall
  generalize (Cr to_ seq most (BB (Br from_) A) [] ⟨#[]⟩ false).1=out at *
  unfold ki
  simp only[hr]
  refine AM hcall (AC (fun q=>absurd (of_decide_eq_true q) hseq) (fun _=>Aq (BH _ rfl hw (AC (fun q=>absurd q (by simp)) (fun _=>Ab rfl ?_)))))
  unfold TV
  exact Ce (fun q=>by cases q) (fun _=>Dk _ rfl (Y5 hol out 0 List.drop_zero (Nat.zero_add _)) (wp_leaf rfl (.p _)))

def xC (ks:List Bool):Prop:=∀ D:Dsk,RLive (Mq ks D) (Ap ks)
theorem wG:Fa xC Ho:=⟨by intro D; unfold RLive; intros; kernel_rfl,by intro D; unfold RLive; intros; kernel_rfl,by intro D; unfold RLive; intros; kernel_rfl,by intro D; unfold RLive; intros; kernel_rfl,by intro D; unfold RLive; intros; kernel_rfl,by intro D; unfold RLive; intros; kernel_rfl,by intro D; unfold RLive; intros; kernel_rfl,by intro D; unfold RLive; intros; kernel_rfl,by intro D; unfold RLive; intros; kernel_rfl,by intro D; unfold RLive; intros; kernel_rfl,by intro D; unfold RLive; intros; kernel_rfl,by intro D; unfold RLive; intros; kernel_rfl,trivial⟩
theorem tC:RLive (fun _:Unit=> [BO]) 1:=by
 unfold RLive
 intros
 kernel_rfl
theorem VH:∀ b d:Bool,[false,b]∈Ho∧ [false,b,false]∈Ho∧ [false,b,false,d]∈Ho∧ [false,b,false,d,false]∈Ho:=by decide
theorem kn:∀ (P:List (List Ent)),2≤P.length→P.length≤5→Bv 0 P∈Ho
 | [],h,_=>by simp at h
 | [_],h,_=>by simp at h
 | [a,b],_,_=>(VH (CW 1 b) true).1
 | [a,b,c],_,_=>(VH (CW 1 b) true).2.1
 | [a,b,c,d],_,_=>(VH (CW 1 b) (CW 3 d)).2.2.1
 | [a,b,c,d,e],_,_=>(VH (CW 1 b) (CW 3 d)).2.2.2
 | _::_::_::_::_::_::P,_,h=>by simp only[List.length_cons] at h; omega
theorem tD {AL:List (Nat×Ent)} {a:Nat×Ent} (h:a∈AL):a.2∈ofL AL a.1:=List.mem_map.2 ⟨a,List.mem_filter.2 ⟨h,by simp⟩,rfl⟩
section
variable {lists : List (List Ent)} {times : Int}
theorem LawT.al (h:LawT lists times):UM (Cv (lists.map (Ad times)))∧(∀ x∈Cv (lists.map (Ad times)),Dp x)∧(Cv (lists.map (Ad times))).length≤1000:=by
 have hg:∀ own∈lists.map (Ad times),GoodE own:=fun own ho=>by
  obtain ⟨l,hl,rfl⟩:=List.mem_map.1 ho
  exact (Mf times l fun x hx=>(h.seq l hl x hx).1).1
 have hown:=fun own ho=>h.owns (own:=own) ho
 have h5:(lists.map (Ad times)).length≤5:=by rw[List.length_map]; exact h.few
 generalize lists.map (Ad times)=Ls at *
 obtain ⟨q1,q2,q3⟩:=Ms Ls 0 [] (fun L hL=>(hown L hL).1) .nil (fun a ha=>by cases ha)
 refine ⟨oX q1,fun x hx=>?_,?_⟩
 ·obtain ⟨a,ha,rfl⟩:=List.mem_map.1 hx
  have hm:=tD ha
  have hlt:=q2 a ha
  rw[q3 a.1,if_neg (by omega),Nat.sub_zero] at hm
  have hL:Ls.getD a.1 []∈Ls:=by
   rw[List.getD_eq_getElem?_getD,List.getElem?_eq_getElem (by omega)]
   exact List.getElem_mem _
  have g:=hg _ hL
  exact Oz (g.chk _ hm) (g.seq _ hm)
 ·show (List.map _ _).length≤_
  have:=TU 0 Ls [] (fun L hL=>(hown L hL).2.1)
  rw[List.length_map]
  simp only[List.length_nil] at this
  omega
theorem ko {a:List Ent} (ha:a.Pairwise Bz):Cv [a]=a:=by
 obtain ⟨q1,q2,q3⟩:=Ms [a] 0 [] (fun L hL=>by rw[List.mem_singleton.1 hL]; exact ha) .nil (fun a ha=>by cases ha)
 have h:=q3 0
 rw[if_neg (by decide)] at h
 have e:ofL (Gs 0 [a] []) 0=(Gs 0 [a] []).map (·.2):=by
  unfold ofL
  rw[List.filter_eq_self.2]
  intro b hb
  have:=q2 b hb
  simp only[List.length_singleton] at this
  have:b.1=0:=by omega
  simp[this]
 rw[e] at h
 exact h
end
def g8:List AV→AV→Prop:=fun args r=>∃ (lists:List (List Ent)) (times:Int) (from_ to_:ByteArray) (seq most:Int),(∀ l∈lists,∀ x∈l,JE x)∧(-(2 ^ 63:Int)≤times∧times<2 ^ 63)∧(0≤seq∧seq<18446744073709551616)∧(-(2 ^ 63:Int)≤most∧most<2 ^ 63) ∧
 args= [vl (lists.map CQ.f),vi times,vs from_,vs to_,vn .u64 seq,vi most]∧r=vb true
noncomputable def tE:=B4 g8
theorem TW (n d:Nat):B9 (OP n d) []:=by
 unfold B9 OP
 split <;> simp
theorem tF:SoundF DP X7 (.pure tE):=A6 AZ ΓL_ok wF oU aI oV (by
 rintro args r ⟨lists,times,from_,to_,seq,most,hs,ht,_,_,rfl,rfl⟩
 obtain ⟨T,hc,hw⟩:∃ T:Tree,Av DP ΓL ΔL Lz [vl (lists.map CQ.f),vi times,vs from_,vs to_,vn .u64 seq,vi most] [] T=T∧T.wp (fun _ c=>Sealed (fun _=>True) c.2 (tk c.1 0) (vb true)):=by
  obtain ⟨Ls,hLs⟩:∃ Ls,Ls=lists.map (Ad times):=⟨_,rfl⟩
  have hl:Ls.length=lists.length:=by rw[hLs,List.length_map]
  by_cases h6:Ls.length≤5
  ·rcases Nat.lt_or_ge Ls.length 2 with h2 | h2
   ·match hm:Ls,h2 with
    | [],_=>
     exact Qj kf tC (lj _) (wE _) (TW _ _) hs ht (fun _=>⟨trivial,by rw[←hLs]; rfl⟩) (by rw[←hLs]; rfl) LawT.al from_ to_ seq most
    | [a],_=>
     exact Qj (s0:=a) Xi gV (wC (EE [a]) a) (wD (EE [a]) a) (TW _ _) hs ht (fun hL=>by
      have ho:=hL.owns (own:=a) (by rw[←hLs]; simp)
      exact ⟨by have:=ho.2.1; omega,by rw[←hLs]; exact (ko ho.1).symm⟩) (by rw[←hLs]; rfl) LawT.al from_ to_ seq most
   ·have hks:=kn Ls h2 h6
    have hx:(C7 0 Ls).length=(Bv 0 Ls).length:=by rw[Hn,Di]
    have hks':Bv 0 Ls∈BP:=X4 Ls (fun e=>by rw[e] at h2; simp at h2) h6
    have hf:=Cj wB (Bv 0 Ls) hks (EE Ls) ((C7 0 Ls).getD 0 zD) ((C7 0 Ls).getD 1 zD) ((C7 0 Ls).getD 2 zD) ((C7 0 Ls).getD 3 zD) ((C7 0 Ls).getD 4 zD) (Gs 0 Ls [])
    exact Qj (s0:=dN Ls) (kc hks') (Cj wG (Bv 0 Ls) hks (EE Ls)) hf.1 hf.2 (TW _ _) hs ht (fun hL=>by
     have:=gy hL
     rw[←hLs] at this
     exact ⟨this,by rw[←hLs]; rfl⟩) (by rw[←hLs,←DR zD hx (by rw[Di]; exact h6)]) LawT.al from_ to_ seq most
  ·-- too many
   have hb:GS lists=true:=by
    unfold GS
    rw[decide_eq_true (by omega),Bool.true_or]
   refine ⟨_,lj (EE []) lists times from_ to_ seq most [] (newD 4194304) true true,?_⟩
   unfold J9
   rw[show (vb true:AV)=vb (GS lists) by rw[hb]]
   have:=lh (B:= []) lists
   rw[hb] at this ⊢
   exact Ac UC (AC (fun _=>AM this (AC (fun _=>wp_leaf rfl (.p _)) (fun q=>by cases q))) (fun q=>by cases q))
 exact ⟨rfl,rfl,T,hc,hw⟩)
end Go.Ax
namespace Go.Ax
open Go.Proofs Go.ChangeShapes Go.WideShapes Go.ChangeAt Go.RowKit
set_option maxRecDepth 100000

section
variable {H : Type} {enc : TypeId × Value → H} {w : World} {base : Nat} {spare : Nat → Bool} {held : Bool} {O : Nat → Prop}
theorem kp (hO:∀ k,¬O k) {fuel:Nat} {v:Value} {x:DataW H×List MemPlace} (h:DataW.trod enc DP w base spare held fuel 25 [v]=some x):
  ∃ L:List (List Ent),(∀ l∈L,∀ a∈l,JE a)∧PRel O w (.ls (L.map CQ.f)) v:=
 Tf hO Tryd.underlying25 CQ.elt (by decide) (by kernel_rfl) (fun n cs' y hy=>by
  obtain ⟨v',rfl⟩:∃ v',cs'= [v']:=by
   rcases Deep.open_slice Tryd.underlying22 hy with ⟨h1,_⟩ | ⟨a,len,cap,_,_,_,_,h1,_⟩
   ·exact ⟨_,h1⟩
   ·exact ⟨_,h1⟩
  obtain ⟨L,hL,hp0⟩:=n5 hO hy
  refine ⟨L,hL,rfl,fun r p u hp hu=>?_⟩
  match r with
  | 0=>cases hu; change some (PV.ls (L.map AB.f))=some p at hp; cases hp; exact hp0
  | r+1=>simp[CQ,PV.cells] at hp) h
end
end Go.Ax
