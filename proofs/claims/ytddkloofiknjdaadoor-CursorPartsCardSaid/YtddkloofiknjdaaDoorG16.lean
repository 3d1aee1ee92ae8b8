/- What a tree says, code comes to; functions. -/
import Derived.Test.YtddkloofiknjdaaDoorG15
set_option linter.unusedVariables false
set_option linter.unusedSimpArgs false
set_option linter.unusedSectionVars false
namespace Go.Ax
open Go.RowKit

variable [Glob] {P : Program} {Γ : Env} {Δ : REnv} {n m0 : Nat} {K : AE → St → Prop}

theorem nilC_wp {s:AS} {i sz:Nat} {κ:AS→Tree} (h:(nilC s i sz κ).wp K):s.t i=nilS∧(κ ⟨upd s.t i (.rs s.B.length 0 sz 0 0),s.B++ [.cells true 0 []]⟩).wp K:=by
 unfold nilC at h
 split at h
 ·rename_i hs; exact ⟨hs,h⟩
 ·exact h.elim

theorem nillsC_wp {s:AS} {i:Nat} {κ:AS→Tree} (h:(nillsC s i κ).wp K):s.t i=nilS∧(κ ⟨upd s.t i (.p (.ls [])),s.B⟩).wp K:=by
 unfold nillsC at h
 split at h
 ·rename_i hs; exact ⟨hs,h⟩
 ·exact h.elim

theorem nilcellC_wp {s:AS} {b i sz:Nat} {κ:AS→Tree} (h:(nilcellC s b i sz κ).wp K):∃ row v cs,s.B[b]? = some (.cells row v cs)∧cs[i]? = some nilS∧(κ ⟨s.t,(s.B++ [Box.cells true 0 []]).set b (Box.cells row v (cs.set i (.rs s.B.length 0 sz 0 0)))⟩).wp K:=by
 unfold nilcellC at h
 split at h
 ·rename_i row v cs hs
  split at h
  ·rename_i hc; exact ⟨row,v,cs,hs,hc,h⟩
  ·exact h.elim
 ·exact h.elim

theorem mvC_wp {s:AS} {i:Nat} {κ:AS→Tree} (h:(mvC s i κ).wp K):∃ b v sz len cs,s.t i= .rs b v sz 0 len∧s.B[b]? = some (.cells true v cs)∧(κ ⟨upd s.t i (.rs s.B.length 0 sz 0 len),s.B.set b (.cells true (v+1) [])++ [.cells true 0 cs]⟩).wp K:=by
 unfold mvC at h
 split at h
 ·rename_i b ver sz off len hs
  split at h
  ·rename_i v cs hc
   cases hq:Nat.beq v ver&&Nat.beq off 0 with
   | false=>rw[hq] at h; exact h.elim
   | true=>
    rw[hq] at h
    rw[Bool.and_eq_true] at hq
    have e1:=Nat.eq_of_beq_eq_true hq.1
    have e2:=Nat.eq_of_beq_eq_true hq.2
    subst e1 e2
    exact ⟨b,v,sz,len,cs,hs,hc,h⟩
  ·exact h.elim
 ·exact h.elim

theorem calleeN_spec {t:T} {op:Op} (h:calleeN Γ t op=true):∃ c f g cap,op= .call c∧c.callee= .value f∧evalA t f= .fn g cap∧Γ g= .none:=by
 unfold calleeN at h
 split at h
 ·rename_i c
  split at h
  ·rename_i f hf
   split at h
   ·rename_i g cap hg
    split at h
    ·rename_i hn
     exact ⟨c,f,g,cap,rfl,hf,hg,hn⟩
    ·cases h
   ·cases h
  ·cases h
 ·cases h

theorem stepXC_sound (hΓ:∀ f,SoundF P f (Γ f)) (hΔ:∀ f,SoundR P f (Δ f)) {n0:Nat} {ops:List Oper} {o:Oper} {s:AS} {T:Tree} {κ:AS→Tree→Tree} (h:(stepXC P Γ Δ n n0 ops o s T κ).wp K):
  ∃ s' T',StepX P Γ n n0 ops o s s'∧(κ s' T').wp K:=by
 have plain:∀ {T:Tree},(stepC P Γ Δ n (some n0) ops o s T κ).wp K→∃ s' T',StepX P Γ n n0 ops o s s'∧(κ s' T').wp K:=fun h=>by
  obtain ⟨s',T',_,g2,g3⟩:=stepC_sound hΓ hΔ h
  exact ⟨s',T',⟨Γ,hΓ,fun f=> .inl rfl,g2 n0 rfl⟩,g3⟩
 unfold stepXC at h
 split at h
 ·rename_i d q v B k
  split at h
  ·rename_i hw
   have hh:=cond_wp h
   clear h
   rcases hh with ⟨hb,h⟩ | ⟨_,h⟩
   ·simp only[Bool.and_eq_true] at hb
    obtain ⟨⟨_,hok⟩,hn⟩:=hb
    obtain ⟨c,f,g,cap,hop,hf,hg,hnone⟩:=calleeN_spec hn
    unfold callrC at h
    rw[hop] at h
    simp only[hf,hg] at h
    obtain ⟨hp,h⟩:=h
    have hrun:opA P (overΓ Γ g (c.args.toList.map (evalA s.t)++cap) s.B v B) s.t s.B o.op=some (v,B):=by
     rw[hop]
     simp only[opA,callA,hf,hg,overΓ,if_true,FSpec.run,and_self]
    obtain ⟨v1,B1,t',T',g1,g2,g3⟩:=good_put (P:=P) hrun h
    have hov:Over Γ (overΓ Γ g (c.args.toList.map (evalA s.t)++cap) s.B v B):=fun f'=>by
     unfold overΓ
     by_cases e:f'=g
     ·rw[if_pos e,e]
      exact .inr ⟨hnone,rfl⟩
     ·rw[if_neg e]
      exact .inl rfl
    refine ⟨⟨t',B1⟩,T',⟨_,overΓ_ok hΓ hΔ hp,hov,?_⟩,g3⟩
    unfold stepD
    rw[hw]
    simp only[Option.bind_some,if_true]
    simp only[okD] at hok
    rw[clsOf_congr (fun f=>hov.pure f),if_pos hok,g1]
    simp only[Option.bind_some,g2]
    rfl
   ·exact plain h
  ·exact plain h
 ·exact plain h

theorem freeL_spec {ops:List Oper} {L:Array Bool} {i:Nat} {oi:Oper}:∀ (l:List Oper) (k:Nat),(∀ q,l[q]? = ops[k+q]?)→freeL P Γ ops L i oi k l=true→∀ j oj,ops[j]? = some oj→k≤j→j≠i→L.getD j true=false →
  reach ops 24 j i=true∨(oi.apart ops.toArray oj=true∧(clsOf P Γ ops oi.op).clash (clsOf P Γ ops oj.op)=false)
 | [],k,hl,_,j,oj,hoj,hk,_,_=>by
  have:=hl (j - k)
  rw[show k+(j - k)=j by omega,hoj] at this
  simp at this
 | o::l,k,hl,h,j,oj,hoj,hk,hji,hjl=>by
  simp only[freeL,Bool.and_eq_true] at h
  obtain ⟨h1,h2⟩:=h
  rcases Nat.lt_or_ge k j with hlt | hge
  ·exact freeL_spec l (k+1) (fun q=>by have:=hl (q+1); rw[show k+1+q=k+(q+1) by omega,←this]; rfl) h2 j oj hoj hlt hji hjl
  ·have:j=k:=by omega
   subst this
   have h0:=hl 0
   simp only[Nat.add_zero,List.getElem?_cons_zero] at h0
   rw[hoj] at h0
   cases h0
   simp only[Bool.or_eq_true,Bool.and_eq_true,Bool.not_eq_true'] at h1
   rcases h1 with ((h1 | h1) | h1) | h1
   ·exact absurd (Nat.eq_of_beq_eq_true h1) hji
   ·rw[hjl] at h1; cases h1
   ·exact .inl h1
   ·exact .inr h1

theorem forkC_wp {body:Nat→Tree→Tree}:∀ {r:List Nat} {T:Tree},(forkC body r T).wp K→∀ i∈r,∃ T',(body i T').wp K
 | [],_,h,i,hi=>by simp at hi
 | x::r,T,h,i,hi=>by
  unfold forkC at h
  split at h
  ·rcases List.mem_cons.mp hi with rfl | hi
   ·exact ⟨T,h⟩
   ·simp at hi
  ·split at h
   ·obtain ⟨h1,h2⟩:=h
    rcases List.mem_cons.mp hi with rfl | hi
    ·exact ⟨_,h1⟩
    ·exact forkC_wp h2 i hi
   ·exact h.elim

theorem anyC_sound (hΓ:∀ f,SoundF P f (Γ f)) (hΔ:∀ f,SoundR P f (Δ f)) {n0:Nat} {ops:List Oper} {κ:AS→Tree→Tree}:∀ (f:Nat) {L:Array Bool} {s:AS} {T:Tree},Closed ops L→(anyC P Γ Δ n n0 ops κ f L s T).wp K →
  AnyX P Γ n n0 ops (fun s'=>∃ T',(κ s' T').wp K) f L s
 | 0,L,s,T,hc,h=>by
  unfold anyC at h
  split at h
  ·rename_i hr; exact ⟨hr,T,h⟩
  ·exact h.elim
 | f+1,L,s,T,hc,h=>by
  unfold anyC at h
  split at h
  ·rename_i hr
   exact ⟨fun _=>⟨T,h⟩,fun i hi=>by rw[hr] at hi; simp at hi⟩
  ·rename_i r hne
   split at h
   ·rename_i i hf
    have hmem:=List.mem_of_find?_eq_some hf
    have hfr:=List.find?_some hf
    split at h
    ·rename_i o ho
     obtain ⟨s1,T1,g1,g2⟩:=stepXC_sound hΓ hΔ h
     unfold freeC at hfr
     rw[ho] at hfr
     exact anyX_first ho f L s s1 (fun j oj hoj hji hjl=>freeL_spec ops 0 (fun q=>by rw[Nat.zero_add]) hfr j oj hoj (Nat.zero_le _) hji hjl) hc hmem g1 (anyC_sound hΓ hΔ f (closed_set hc hmem) g2)
    ·exact h.elim
   ·refine ⟨fun h0=>absurd h0 (fun e=>?_),fun i hi=>?_⟩
    ·exact hne e
    ·obtain ⟨T',h'⟩:=forkC_wp h i hi
     split at h'
     ·rename_i o ho
      obtain ⟨s1,T1,g1,g2⟩:=stepXC_sound hΓ hΔ h'
      exact ⟨o,s1,ho,g1,anyC_sound hΓ hΔ f (closed_set hc hi) g2⟩
     ·exact h'.elim

theorem sealcellC_wp {α:Type} {r:Nat} {s:AS} {b2 i:Nat} {E:Enc α} {L:List α} {κ:AS→Tree} (h:(sealcellC r s b2 i E L κ).wp K):
  ∃ b v v2 cs cs2,s.B[b2]? = some (.cells false v2 cs2)∧cs2[i]? = some (.rs b v E.sz 0 L.length)∧s.B[b]? = some (.cells true v cs)∧cs=rowC (L.map E.f)∧(κ ⟨s.t,(s.B.set b Box.dead).set b2 (Box.cells false v2 (cs2.set i (vl (L.map E.f))))⟩).wp K:=by
 unfold sealcellC at h
 split at h
 ·rename_i v2 cs2 h1
  split at h
  ·rename_i b v sz off len h2
   split at h
   ·rename_i v' cs h3
    cases hb:(Nat.beq v v'&&Nat.beq sz E.sz&&Nat.beq off 0) with
    | false=>rw[hb] at h; exact h.elim
    | true=>
     rw[hb] at h
     simp only[Bool.and_eq_true] at hb
     obtain ⟨⟨e1,e2⟩,e3⟩:=hb
     have e1:=Nat.eq_of_beq_eq_true e1
     have e2:=Nat.eq_of_beq_eq_true e2
     have e3:=Nat.eq_of_beq_eq_true e3
     subst e1 e2 e3
     obtain ⟨g1,g2,g3⟩:=h
     subst g2
     exact ⟨b,v,v2,cs,cs2,h1,h2,h3,g1,g3⟩
   ·exact h.elim
  ·exact h.elim
 ·exact h.elim

theorem sealslotC_wp {α:Type} {r:Nat} {s:AS} {i:Nat} {E:Enc α} {L:List α} {κ:AS→Tree} (h:(sealslotC r s i E L κ).wp K):
  ∃ b v cs,s.t i= .rs b v E.sz 0 L.length∧s.B[b]? = some (.cells true v cs)∧cs=rowC (L.map E.f)∧(κ ⟨upd s.t i (vl (L.map E.f)),s.B.set b Box.dead⟩).wp K:=by
 unfold sealslotC at h
 split at h
 ·rename_i b v sz off len h2
  split at h
  ·rename_i v' cs h3
   cases hb:(Nat.beq v v'&&Nat.beq sz E.sz&&Nat.beq off 0) with
   | false=>rw[hb] at h; exact h.elim
   | true=>
    rw[hb] at h
    simp only[Bool.and_eq_true] at hb
    obtain ⟨⟨e1,e2⟩,e3⟩:=hb
    have e1:=Nat.eq_of_beq_eq_true e1
    have e2:=Nat.eq_of_beq_eq_true e2
    have e3:=Nat.eq_of_beq_eq_true e3
    subst e1 e2 e3
    obtain ⟨g1,g2,g3⟩:=h
    subst g2
    exact ⟨b,v,cs,h2,h3,g1,g3⟩
  ·exact h.elim
 ·exact h.elim

theorem sealP_tri {id:Nat} {s:AS} {T:Tree} {κ:AS→Tree→Tree} {q:Bool} {c:Code} {K':AE→AS→Prop} (h:(sealP id s T κ).wp K) (hk:∀ s' T',(κ s' T').wp K→Tri P n m0 q c s' K'):Tri P n m0 q c s K':=by
 unfold sealP at h
 split at h
 ·rename_i α r b2 i cs len E L k
  cases hr:Nat.beq r id with
  | false=>rw[hr] at h; exact hk _ _ h
  | true=>
   rw[hr] at h
   have h:(sealcellC r s b2 i E L fun s'=>κ s' k).wp K:=h
   obtain ⟨b,v,v2,cs,cs2,h1,h2,h3,h4,h5⟩:=sealcellC_wp h
   subst h4
   exact .sealcell h1 h2 h3 (fun S B hS hB=>E.elt.sealed hS hB) (hk _ _ h5)
 ·rename_i α r i cs len E L k
  cases hr:Nat.beq r id with
  | false=>rw[hr] at h; exact hk _ _ h
  | true=>
   rw[hr] at h
   have h:(sealslotC r s i E L fun s'=>κ s' k).wp K:=h
   obtain ⟨b,v,cs,h1,h2,h3,h4⟩:=sealslotC_wp h
   subst h3
   exact .sealslot h1 h2 (fun S B hS hB=>E.elt.sealed hS hB) (hk _ _ h4)
 ·exact hk _ _ h

theorem sealP2_tri {id:Nat} {s:AS} {T:Tree} {κ:AS→Tree→Tree} {q:Bool} {c:Code} {K':AE→AS→Prop} (h:(sealP2 id s T κ).wp K) (hk:∀ s' T',(κ s' T').wp K→Tri P n m0 q c s' K'):Tri P n m0 q c s K':=
 sealP_tri h fun _ _ h=>sealP_tri h hk

theorem preC_tri {s:AS} {T:Tree} {κ:AS→Tree→Tree} {q:Bool} {c:Code} {K':AE→AS→Prop} (h:(preC s T κ).wp K) (hk:∀ s' T',(κ s' T').wp K→Tri P n m0 q c s' K'):Tri P n m0 q c s K':=by
 unfold preC at h
 split at h
 ·obtain ⟨h1,h2⟩:=nilC_wp h
  exact .nilrow h1 (hk _ _ h2)
 ·obtain ⟨h1,h2⟩:=nillsC_wp h
  exact .nills h1 (hk _ _ h2)
 ·obtain ⟨b,v,sz,len,cs,h1,h2,h3⟩:=mvC_wp h
  exact .mvrow h1 h2 (hk _ _ h3)
 ·obtain ⟨row,v,cs,h1,h2,h3⟩:=nilcellC_wp h
  exact .nilcell h1 h2 (hk _ _ h3)
 ·exact hk _ _ h

theorem preC4_tri {s:AS} {T:Tree} {κ:AS→Tree→Tree} {q:Bool} {c:Code} {K':AE→AS→Prop} (h:(preC4 s T κ).wp K) (hk:∀ s' T',(κ s' T').wp K→Tri P n m0 q c s' K'):Tri P n m0 q c s K':=
 preC_tri h fun _ _ h=>preC_tri h fun _ _ h=>preC_tri h fun _ _ h=>preC_tri h hk

theorem leafC_wp {e:AE} {s:AS} {T:Tree} (h:(leafC m0 e s T).wp K):∃ c:St,(∃ f d,Wk s c.as f d∧(∀ j,j<m0→f j=j∧d j=0)∧m0≤c.as.B.length)∧K e c:=by
 unfold leafC at h
 split at h
 ·split at h
  ·rename_i W _ _ _ olds c hc
   obtain ⟨h1,c',h2,h3⟩:=h
   cases h2
   exact ⟨c,⟨_,_,weakC_wk hc h1⟩,h3⟩
  ·exact h.elim
 ·exact h.elim

theorem fragOr_tri {r:Option Nat} {cd:Code} {s:AS} {T dflt:Tree} {κ:AE→AS→Tree→Tree} (h:(fragOr P n m0 r cd s T κ dflt).wp K) (hd:dflt.wp K→Tri P n m0 false cd s (fun e s'=>∃ T',(κ e s' T').wp K)):Tri P n m0 false cd s (fun e s'=>∃ T',(κ e s' T').wp K):=by
 unfold fragOr at h
 split at h
 ·rcases cond_wp h with ⟨_,h⟩ | ⟨_,h⟩
  rotate_left
  ·exact hd h
  split at h
  ·rename_i r' W _ _ E0 _ e c k _ _ _ olds c0 hc
   obtain ⟨h1,h2,h3,h4⟩:=h
   cases h2
   obtain ⟨q1,q2,q3⟩:=weakC_wk hc h1
   exact .weak q1 q2 q3 (h3.conseq fun e' s' hk=>by obtain ⟨rfl,rfl⟩:=hk; exact ⟨k,h4⟩)
  ·exact h.elim
 ·exact hd h

theorem codeC_sound (hm:P.follows .mixedOrders=true) (hΓ:∀ f,SoundF P f (Γ f)) (hΔ:∀ f,SoundR P f (Δ f)):∀ (c:Code) {s:AS} {T:Tree} {κ:AE→AS→Tree→Tree} {K:AE→St→Prop},(codeC P Γ Δ n m0 c s T κ).wp K→Tri P n m0 false c s (fun e s'=>∃ T',(κ e s' T').wp K):=by
 intro c
 induction c with
 | skip=>intro s T κ K h; exact .skip ⟨T,h⟩
 | region id ops draw=>
  intro s T κ K h
  simp only[codeC] at h
  refine fragOr_tri h fun h=>?_
  refine sealP2_tri h fun s T h=>?_
  cases draw with
  | true=>
   simp only[cond_true] at h
   split at h
   ·rename_i T1
    refine .regionX hm (anyC_sound hΓ hΔ _ (fun j oj hoj hl hs=>?_) (show (Tree.wp _ K) from h))
    simp at hs
    simp[hs] at hl
   cases hok:drawOk P Γ ops.toList with
   | false=>
    rw[hok] at h
    simp only[cond_false] at h
    refine .regionX hm (anyC_sound hΓ hΔ _ (fun j oj hoj hl hs=>?_) h)
    simp at hs
    simp[hs] at hl
   | true=>
    rw[hok] at h
    simp only[cond_true] at h
    obtain ⟨s',T',_,g2,g3⟩:=opsC_sound hΓ hΔ _ h
    exact .regionD hm hΓ hok (g2 _ rfl) ⟨T',g3⟩
  | false=>
   simp only[cond_false] at h
   obtain ⟨s',T',g1,_,g3⟩:=opsC_sound hΓ hΔ _ h
   exact .regionR (g1 rfl) ⟨T',g3⟩
 | seq a b iha ihb=>
  intro s T κ K h
  simp only[codeC] at h
  refine .seq ((iha h).conseq fun e s1 hk=>?_)
  obtain ⟨T1,h1⟩:=hk
  cases e with
  | normal=>
   dsimp only at h1
   split at h1
   ·split at h1
    ·rename_i olds c hc
     obtain ⟨g1,g2,g3⟩:=h1
     cases g2
     obtain ⟨q1,q2,q3⟩:=weakC_wk hc g1
     exact .weak q1 q2 q3 (ihb g3)
    ·exact h1.elim
   ·exact ihb h1
   ·exact ihb h1
  | exit i=>exact ⟨T1,h1⟩
  | ret=>exact ⟨T1,h1⟩
 | cond c x y ihx ihy=>
  intro s T κ K h
  simp only[codeC] at h
  split at h
  ·rename_i q hq
   split at h
   ·exact h.elim
   ·exact .cond hq (fun e=>ihx (h.1 e)) (fun e=>ihy (h.2 e))
   ·refine .cond hq (fun e=>?_) (fun e=>?_)
    ·subst e; exact ihx h
    ·subst e; exact ihy h
   ·refine .cond hq (fun e=>?_) (fun e=>?_)
    ·subst e; exact ihx h
    ·subst e; exact ihy h
  ·exact h.elim
 | block id b ih=>
  intro s T κ K h
  simp only[codeC] at h
  refine .block ((ih h).conseq fun e s1 hk=>?_)
  obtain ⟨T1,h1⟩:=hk
  cases e with
  | normal=>exact ⟨T1,h1⟩
  | ret=>exact ⟨T1,h1⟩
  | exit i=>
   cases hi:Nat.beq i id with
   | true=>simp only[hi,cond_true] at h1; simp only[hi,if_true]; exact ⟨T1,h1⟩
   | false=>simp only[hi,cond_false] at h1; simp only[hi]; exact ⟨T1,h1⟩
 | loop b ih=>
  intro s T κ K h
  simp only[codeC] at h
  refine fragOr_tri h fun h=>?_
  refine preC4_tri h fun s1 T1 h=>?_
  split at h
  ·rename_i σ ε ε' W _ _ E X X' s0 body k k'
   split at h
   ·rename_i olds c hc
    obtain ⟨h1,h2,h5⟩:=h
    cases h2
    have h6:∃ x,Rounds E X X' (fun z=>(codeC P Γ Δ n m0 b (E z).as (body z) (leafC m0)).wp) s0 x∧(match x with | .inl x=>(κ (X x).1 (X x).2.as (k x)).wp K | .inr x=>(κ (X' x).1 (X' x).2.as (k' x)).wp K):=by
     rcases h5 with ⟨x,h3,h4⟩ | ⟨x,h3,h4⟩
     ·exact ⟨.inl x,h3,h4⟩
     ·exact ⟨.inr x,h3,h4⟩
    obtain ⟨x,h3,h4⟩:=h6
    clear h5
    obtain ⟨g1,g2,g3⟩:=weakC_wk hc h1
    refine .weak g1 g2 g3 (.loop ?_)
    clear g1 g2 g3 hc h1
    have bodyTri:∀ (z:σ) (K':AE→St→Prop),(codeC P Γ Δ n m0 b (E z).as (body z) (leafC m0)).wp K'→Tri P n m0 false b (E z).as (fun e s2=>∃ c:St,s2=c.as∧K' e c):=by
     intro z K' hz
     refine (ih hz).weakr fun e s2 hk=>?_
     obtain ⟨T',hT⟩:=hk
     obtain ⟨c,⟨f,d,q1,q2,q3⟩,q4⟩:=leafC_wp hT
     exact ⟨c.as,f,d,q1,q2,q3,c,rfl,q4⟩
    generalize s0=z at h3
    induction h3 with
    | @next z z' x hb _ ih2=>
     refine .round ((bodyTri _ _ hb).conseq fun e s2 hk=>?_)
     obtain ⟨c,rfl,rfl,rfl⟩:=hk
     exact ih2 h4
    | @done z x hne hb
    | @done' z x hne hb=>
     refine .round ((bodyTri _ _ hb).conseq fun e s2 hk=>?_)
     obtain ⟨c,rfl,h5,h6⟩:=hk
     rw[h6]
     dsimp only at h4
     cases e with
     | normal=>exact absurd h5.symm hne
     | exit i=>rw[←h5] at h4; exact ⟨_,h4⟩
     | ret=>rw[←h5] at h4; exact ⟨_,h4⟩
   ·exact h.elim
  ·exact h.elim
 | exit id=>intro s T κ K h; exact .exit ⟨T,h⟩
 | ret=>intro s T κ K h; exact .ret ⟨T,h⟩
 | _=>intro s T κ K h; exact h.elim

def endC (P:Program) (m0:Nat) (rs:List ResultVar) (e:AE) (s:AS) (T:Tree):Tree:=match e with
 | .exit _=> .stuck
 | _=>match resList P s rs with
  | some vs=>leafC m0 .ret ⟨upd s.t 0 (oneOf vs),s.B⟩ T
  | none=> .stuck

def fnC (P:Program) (Γ:Env) (Δ:REnv) (fn:Func) (args:List AV) (B:List Box) (T:Tree):Tree:=
 codeC P Γ Δ fn.ntmps B.length (bodyOf fn) ⟨argsT args,B⟩ T (endC P B.length fn.results.toList)

theorem fnC_calls (hm:P.follows .mixedOrders=true) (hΓ:∀ f,SoundF P f (Γ f)) (hΔ:∀ f,SoundR P f (Δ f)) {f:FuncId} {fn:Func} (hf:P.funcs[f]? = some fn) (hb:fn.body.isSome=true) {args:List AV} (hle:Nat.ble args.length fn.ntmps=true) {B:List Box} {T:Tree} (h:(fnC P Γ Δ fn args B T).wp K)
  {F:Nat→Prop} {ρ:Loc} {w:World} {us:List Value} (hI:Inv F B ρ w) (hA:ArgsRel F B ρ w args us):
  Calls P f us.toArray w fun e w'=>∃ v c ρ',e= .returned v∧(∃ e,K e c)∧Inv F c.2 ρ' w'∧Ext F B ρ w c.2 ρ' w'∧VRel F c.2 ρ' w' (tk c.1 0) v:=by
 rw[Nat.ble_eq] at hle
 cases hbb:fn.body with
 | none=>rw[hbb] at hb; cases hb
 | some c=>
  have hc:bodyOf fn=c:=by simp[bodyOf,hbb]
  unfold fnC at h
  rw[hc] at h
  refine calls_of_wp hf hbb ?_
  have hsz:us.length≤fn.ntmps:=by rw[←hA.1]; exact hle
  have hR:Rel F B ρ w fn.ntmps (argsT args) {tmps:=us.toArray++Array.replicate (fn.ntmps - us.toArray.size) undef,defers:= []}:=by
   refine ⟨hI,fun i=>?_,rfl,by simp; omega⟩
   unfold argsT
   cases hi:args[i]? with
   | none=>
    have hge:us.length≤i:=by
     rw[←hA.1]
     exact List.getElem?_eq_none_iff.1 hi
    have:(us.toArray++Array.replicate (fn.ntmps - us.toArray.size) undef).getD i undef=undef:=by
     rw[Array.getD_eq_getD_getElem?,Array.getElem?_append_right (by simpa using hge),Array.getElem?_replicate]
     split <;> rfl
    rw[this]
    exact .p _ _ (.v _)
   | some x=>
    have hlt:i<us.length:=by rw[←hA.1]; exact (List.getElem?_eq_some_iff.1 hi).1
    have:(us.toArray++Array.replicate (fn.ntmps - us.toArray.size) undef).getD i undef=us[i]:=by
     rw[Array.getD_eq_getD_getElem?,Array.getElem?_append_left (by simpa using hlt)]
     simp[hlt]
    rw[this]
    exact hA.2 i x _ hi (List.getElem?_eq_getElem hlt)
  refine codeC_sound hm hΓ hΔ c h F B ρ w rfl ρ w _ hR (.refl _ _ _) _ (fun e s' a' w' ρ' hk hR' hE=>?_)
  obtain ⟨T',hT⟩:=hk
  have main:∀ (hT:(match resList P s' fn.results.toList with
    | some vs=>leafC B.length .ret ⟨upd s'.t 0 (oneOf vs),s'.B⟩ T'
    | none=>Tree.stuck).wp K),∃ x,(results fn a'.tmps).run P w'= .ok x w'∧∃ c ρ2,(∃ e,K e c)∧Inv F c.2 ρ2 w'∧Ext F B ρ w c.2 ρ2 w'∧VRel F c.2 ρ2 w' (tk c.1 0) x:=by
   intro hT
   split at hT
   ·rename_i vs hvs
    obtain ⟨x,e1,e2⟩:=results_run (fn:=fn) hR' hvs
    obtain ⟨c,⟨f',d',q1,q2,q3⟩,q4⟩:=leafC_wp hT
    refine ⟨x,e1,c,_,⟨_,q4⟩,q1.inv hR'.inv,q1.ext hE q2 q3,?_⟩
    rcases q1.t 0 with h0 | h1
    ·have h0:tk c.1 0= .u:=h0
     rw[h0]; exact .u _
    ·exact q1.cell (by show VRel F s'.B ρ' w' (upd s'.t 0 (oneOf vs) 0) x; rw[upd_same]; exact e2) h1
   ·exact hT.elim
  cases e with
  | exit i=>exact hT.elim
  | normal=>
   obtain ⟨x,e1,c,ρ2,k1,k2,k3,k4⟩:=main hT
   exact ⟨hR'.df,x,e1,x,c,ρ2,rfl,k1,k2,k3,k4⟩
  | ret=>
   obtain ⟨x,e1,c,ρ2,k1,k2,k3,k4⟩:=main hT
   exact ⟨hR'.df,x,e1,x,c,ρ2,rfl,k1,k2,k3,k4⟩

structure PureT (P:Program) (Γ:Env) (Δ:REnv) (fn:Func) (args:List AV) (r:AV):Prop where
 le:Nat.ble args.length fn.ntmps=true
 low:args.all (AV.low 0)=true
 ev:∃ T,fnC P Γ Δ fn args [] T=T∧T.wp fun _ c=>Sealed (fun _=>True) c.2 (tk c.1 0) r

theorem sound_pureT (hm:P.follows .mixedOrders=true) (hΓ:∀ f,SoundF P f (Γ f)) (hΔ:∀ f,SoundR P f (Δ f)) {f:FuncId} {fn:Func} (hf:P.funcs[f]? = some fn) (he:enters P f=true) (hb:fn.body.isSome=true) {R:List AV→AV→Prop}
  (h:∀ args r,R args r→PureT P Γ Δ fn args r):SoundF P f (.pure (relG R)):=by
 intro args B r B' hs F ρ w us hI hA
 obtain ⟨r',h1,h2⟩:=map_some hs
 cases h2
 obtain ⟨hle,hfree,T,hT,hwp⟩:=h args r (relG_some h1)
 have hA0:ArgsRel (Own F B ρ) [] ρ w args us:=⟨hA.1,fun j p u hp hu=>(hA.2 j p u hp hu).nobox (by
  rw[List.all_eq_true] at hfree
  exact hfree p (List.mem_of_getElem? hp)) ρ⟩
 rw[←hT] at hwp
 refine .inl ⟨enter_run he us.toArray w,(fnC_calls hm hΓ hΔ hf hb hle hwp (inv_nil hI ρ) hA0).mono fun e w' hp=>?_⟩
 obtain ⟨x,c,ρ',rfl,⟨_,hsl⟩,hI',hE',hv⟩:=hp
 have hh:∀ k,k<w.heap.size→w'.heap[k]? = w.heap[k]? := fun k hk=>by
  by_cases h:Own F B ρ k
  ·exact hE'.far k h hk
  ·exact (hE'.keep k hk (fun h2=>h (own_nil h2))).1
 obtain ⟨hE,hI2⟩:=stands hE'.size hE'.os hE'.tape hE'.output hE'.shape hh hI
 exact ⟨x,ρ,rfl,hI2,hE,hsl.vrel hI' hv (fun k h=> .inl h) (fun b row v cs k o _ hb hr ho=>hI'.farb _ _ _ _ _ _ hb hr ho)⟩

structure GenT (P:Program) (Γ:Env) (Δ:REnv) (fn:Func) (args:List AV) (B:List Box) (r:AV×List Box):Prop where
 le:Nat.ble args.length fn.ntmps=true
 ev:∃ T,fnC P Γ Δ fn args B T=T∧T.wp fun _ c=>tk c.1 0=r.1∧c.2=r.2

theorem sound_genT (hm:P.follows .mixedOrders=true) (hΓ:∀ f,SoundF P f (Γ f)) (hΔ:∀ f,SoundR P f (Δ f)) {f:FuncId} {fn:Func} (hf:P.funcs[f]? = some fn) (he:enters P f=true) (hb:fn.body.isSome=true) {R:RSpec}
  (h:∀ args B r B',R args B r B'→GenT P Γ Δ fn args B (r,B')):SoundR P f R:=by
 intro args B r B' hs F ρ w us hI hA
 obtain ⟨hle,T,hT,hwp⟩:=h args B r B' hs
 rw[←hT] at hwp
 refine .inl ⟨enter_run he us.toArray w,(fnC_calls hm hΓ hΔ hf hb hle hwp hI hA).mono fun e w' hp=>?_⟩
 obtain ⟨x,c,ρ',rfl,⟨_,h1,h2⟩,hI',hE',hv⟩:=hp
 simp only at h1 h2
 subst h1 h2
 exact ⟨x,ρ',rfl,hI',hE',hv⟩

theorem SoundR.none (f:Nat):SoundR P f (fun _ _ _ _=>False):=fun _ _ _ _ h=>h.elim

end Go.Ax
