/- The check of trees: what a tree says is what code comes to. -/
import Derived.Test.YtddkloofiknjdaaDoorG13
set_option linter.unusedVariables false
set_option linter.unusedSimpArgs false
set_option linter.unusedSectionVars false
namespace Go.Ax
open Go.RowKit

variable [Glob] {P : Program} {Γ : Env} {n m0 : Nat} {K : AE → St → Prop}

theorem cond_wp {b:Bool} {x y:Tree} (h:(cond b x y).wp K):(b=true∧x.wp K)∨(b=false∧y.wp K):=by
 cases b with
 | true=>exact .inl ⟨rfl,h⟩
 | false=>exact .inr ⟨rfl,h⟩

theorem putC_wp {s:AS} {d:Option Nat} {v:AV} {B:List Box} {κ:AS→Tree} (h:(putC n s d v B κ).wp K):∃ t',putA n s.t d v=some t'∧(κ ⟨t',B⟩).wp K:=by
 unfold putC at h
 split at h
 ·rename_i t' ht; exact ⟨t',ht,h⟩
 ·exact h.elim

def Good (P:Program) (Γ:Env) (n:Nat) (K:AE→St→Prop) (o:Oper) (s:AS) (κ:AS→Tree→Tree):Prop:=
 ∃ v B t' T',opA P Γ s.t s.B o.op=some (v,B)∧putA n s.t o.dst v=some t'∧(κ ⟨t',B⟩ T').wp K

theorem good_putC {o:Oper} {s:AS} {κ:AS→Tree→Tree} {v:AV} {B:List Box} {T:Tree} (h:opA P Γ s.t s.B o.op=some (v,B)) (hp:(putC n s o.dst v B fun s'=>κ s' T).wp K):Good P Γ n K o s κ:=by
 obtain ⟨t',h1,h2⟩:=putC_wp hp
 exact ⟨v,B,t',T,h,h1,h2⟩

theorem good_put {o:Oper} {s:AS} {κ:AS→Tree→Tree} {v:AV} {B:List Box} {T:Tree} (h:opA P Γ s.t s.B o.op=some (v,B)) (hp:(putS n s o.dst v B T κ).wp K):Good P Γ n K o s κ:=by
 unfold putS at hp
 split at hp
 ·rename_i d' b x y
  have hh:=cond_wp hp
  clear hp
  rcases hh with ⟨_,hp⟩ | ⟨_,hp⟩
  ·split at hp
   ·rename_i q
    cases q with
    | true=>exact good_putC h (hp.1 rfl)
    | false=>exact good_putC h (hp.2 rfl)
   ·exact hp.elim
  ·exact good_putC h hp
 ·exact good_putC h hp

theorem good_plain {o:Oper} {s:AS} {κ:AS→Tree→Tree} {T:Tree} (hp:(plainC P Γ n o s T κ).wp K):Good P Γ n K o s κ:=by
 unfold plainC at hp
 split at hp
 ·rename_i v B h; exact good_put h hp
 ·exact hp.elim

theorem mkA_cells {t:TypeId} {α:Type} {E:Enc α} {L:List α} {i:Int} {a:α} {q:Nat} {v:AV} (hi:L[i.toNat]? = some a) (h:mkA P t (((E.f a).cells.drop q).map .p)=some v):
  mkA P t ((rowC (L.map E.f)).drop (0+i.toNat*E.sz+q))=some v:=by
 have key:∀ k,k<((E.f a).cells.drop q).length→((rowC (L.map E.f)).drop (0+i.toNat*E.sz+q))[k]? = (((E.f a).cells.drop q).map AV.p)[k]? := by
  intro k hk
  have hk':q+k<E.sz:=by rw[List.length_drop,E.size] at hk; omega
  rw[List.getElem?_drop,List.getElem?_map,List.getElem?_drop]
  unfold rowC
  rw[List.getElem?_map,show 0+i.toNat*E.sz+q+k=i.toNat*E.sz+(q+k) by omega,E.elt.flatGet L _ (q+k) a hi hk']
 have hlen:((E.f a).cells.drop q).length≤((rowC (L.map E.f)).drop (0+i.toNat*E.sz+q)).length:=by
  rcases Nat.lt_or_ge ((rowC (L.map E.f)).drop (0+i.toNat*E.sz+q)).length ((E.f a).cells.drop q).length with hlt | hge
  ·have:=key _ hlt
   rw[List.getElem?_eq_none (Nat.le_refl _),List.getElem?_map,List.getElem?_eq_getElem hlt] at this
   cases this
  ·exact hge
 unfold mkA at h ⊢
 split at h
 ·cases h
 ·rename_i hu
  rw[if_neg hu]
  split at h
  ·rename_i ha
   rw[if_pos ha]
   obtain ⟨m,hm,h2⟩:=Option.bind_eq_some_iff.1 h
   rw[hm]
   simp only[Option.bind_some]
   split at h2
   ·rename_i hle
    cases h2
    rw[List.length_map] at hle
    rw[if_pos (by omega)]
    congr 2
    apply List.ext_getElem?
    intro k
    rw[List.getElem?_take,List.getElem?_take]
    split
    ·exact key k (by omega)
    ·rfl
   ·cases h2
  ·rename_i ha
   rw[if_neg ha]
   rw[List.head?_eq_getElem?] at h ⊢
   rw[key 0 ?_]
   ·exact h
   ·have:=(List.getElem?_eq_some_iff.1 h).1
    simpa using this

theorem rowTyC_spec {t:TypeId} {sz:Nat} (h:rowTyC P t sz=true):∃ e bytes,RowTy P t e sz bytes∧bytes≤140000:=by
 unfold rowTyC at h
 split at h
 ·rename_i e he
  split at h
  ·rename_i m i z h1 h2 h3
   simp only[Bool.and_eq_true,Nat.ble_eq,Bool.not_eq_true'] at h
   obtain ⟨⟨⟨⟨g1,g2⟩,g3⟩,g4⟩,g5⟩:=h
   have g1:=Nat.eq_of_beq_eq_true g1
   subst g1
   have g4:=Nat.eq_of_beq_eq_true g4
   refine ⟨e,i.bytes,⟨he,h1,by rw[h2]; rfl,?_⟩,g2⟩
   rw[h3]
   simp only[Option.map_some,g4,g5,g3]
   simp
  ·cases h
 ·cases h

theorem srcC_spec {α:Type} {E:Enc α} {M:List α} {tx:TypeId} {B:List Box} {x:AV} {hh src:ASrc} (h:srcC P tx B E.sz x hh=some src) (ho:src.ok E M):srcA P tx B E.sz x=some (M.length,rowC (M.map E.f)):=by
 unfold srcC at h
 split at h
 ·rename_i e he
  cases h
  have hM:M= []:=ho
  subst hM
  unfold srcA
  rw[he]
  rfl
 ·rename_i e xs he
  cases hr:rowTyC P tx E.sz with
  | false=>rw[hr] at h; cases h
  | true=>
   rw[hr] at h
   cases h
   obtain ⟨e',bytes,ht,_⟩:=rowTyC_spec hr
   have hxs:xs=M.map E.f:=ho
   subst hxs
   exact src_ls E.elt ht M
 ·rename_i e b ver sz' off len he
  split at h
  ·rename_i row v cs hb
   cases hc:Nat.beq ver v&&Nat.beq E.sz sz' with
   | false=>rw[hc] at h; cases h
   | true=>
    rw[hc] at h
    simp only[cond_true] at h
    simp only[Bool.and_eq_true] at hc
    have e1:=Nat.eq_of_beq_eq_true hc.1
    have e2:=Nat.eq_of_beq_eq_true hc.2
    subst e1
    have e2':sz'=E.sz:=e2.symm
    subst e2'
    have gen:srcA P tx B E.sz (.rs b ver E.sz off len)=some (len,(cs.drop off).take (len*E.sz)):=by
     unfold srcA
     rw[he]
     simp only[hb,Nat.beq_refl,beq_self_eq_true,Bool.and_self,if_true]
    split at h
    ·cases ho2:Nat.beq off 0 with
     | false=>rw[ho2] at h; cases h
     | true=>
      rw[ho2] at h
      cases h
      obtain ⟨g1,g2⟩:=ho
      have:=Nat.eq_of_beq_eq_true ho2
      subst this
      rw[gen,g1,g2,List.drop_zero,←E.elt.rowLen,List.take_length]
    ·cases h
     obtain ⟨g1,g2⟩:=ho
     rw[gen,g2,g1]
    ·cases h
  ·cases h
 ·rename_i s0 he
  cases h
  obtain ⟨g1,g2,g3⟩:=ho
  unfold srcA
  rw[he]
  simp only[g1,beq_self_eq_true,if_true]
  rw[g2,g3]
 ·cases h

theorem bndC_spec {t:T} {x:Option Operand} {l:Option Int} (h:bndC t x=some l):(l=none∧x.map (evalA t)=none)∨∃ k i,l=some i∧x.map (evalA t)=some (.p (.v (.int k i))):=by
 unfold bndC at h
 split at h
 ·cases h; exact .inl ⟨rfl,rfl⟩
 ·rename_i y
  split at h
  ·rename_i k i hy
   cases h
   exact .inr ⟨k,i,rfl,by simp[hy]⟩
  ·cases h

theorem bounds_of {t:T} {lo hi:Option Operand} {l h:Option Int} {len:Nat} (h1:bndC t lo=some l) (h2:bndC t hi=some h) (hk:cutOk l h len):
  boundsA len (lo.map (evalA t)) (hi.map (evalA t))=some (loN l,hiN h len)∧loN l≤hiN h len∧hiN h len≤len:=by
 unfold boundsA
 rcases bndC_spec h1 with ⟨rfl,e1⟩ | ⟨k1,i1,rfl,e1⟩ <;> rcases bndC_spec h2 with ⟨rfl,e2⟩ | ⟨k2,i2,rfl,e2⟩ <;> rw[e1,e2] <;> simp only[cutOk] at hk <;> simp only[boundA,loN,hiN,intA,Option.bind_some]
 ·exact ⟨by trivial,Nat.zero_le _,Nat.le_refl _⟩
 ·rw[if_pos (by omega)]; exact ⟨rfl,by omega,by omega⟩
 ·rw[if_pos (by omega)]; exact ⟨rfl,by omega,by omega⟩
 ·rw[if_pos (by omega)]
  simp only[Option.bind_some]
  rw[if_pos (by omega)]
  exact ⟨rfl,by omega,by omega⟩

theorem cutL_eq {α:Type} {l h:Option Int} {L:List α} (hk:cutOk l h L.length):cutL l h L=(L.take (hiN h L.length)).drop (loN l):=by
 cases l <;> cases h <;> simp[cutL,loN,hiN]

theorem slC_wp {o:Oper} {s:AS} {κ:TypeId→AV→Option Int→Option Int→Tree} (h:(slC o s κ).wp K):∃ t x lo hi l r,o.op= .slice t x lo hi none∧bndC s.t lo=some l∧bndC s.t hi=some r∧(κ t (evalA s.t x) l r).wp K:=by
 unfold slC at h
 split at h
 ·rename_i t x lo hi ho
  split at h
  ·rename_i l r h1 h2
   exact ⟨t,x,lo,hi,l,r,ho,h1,h2,h⟩
  ·exact h.elim
 ·exact h.elim

theorem bytesOf_row (L:List UInt8):bytesOfCells (rowC (L.map byteE.f))=some L:=by
 induction L with
 | nil=>rfl
 | cons b L ih=>
  have:rowC ((b::L).map byteE.f)= .p (.v (.int .u8 b.toNat))::rowC (L.map byteE.f):=rfl
  rw[this,bytesOfCells,ih]
  simp

theorem set_row {α:Type} (E:Enc α):∀ (L:List α) (i:Nat) (a:α),i<L.length→splice (rowC (L.map E.f)) (i*E.sz) ((E.f a).cells.map .p)=rowC ((L.set i a).map E.f)
 | [],i,a,h=>by simp at h
 | x::L,0,a,h=>by
  have hx:=E.size x
  have ha:=E.size a
  simp only[splice,Nat.zero_mul,List.take_zero,List.nil_append,List.length_map,Nat.zero_add,List.set_cons_zero,List.map_cons]
  unfold rowC
  rw[List.flatMap_cons,List.flatMap_cons,List.map_append,List.map_append]
  congr 1
  rw[List.drop_append]
  simp[hx,ha]
 | x::L,i+1,a,h=>by
  have hx:=E.size x
  have ih:=set_row E L i a (by simpa using h)
  simp only[splice,List.set_cons_succ,List.map_cons,List.length_map] at ih ⊢
  have e:∀ Y:List PV,rowC (E.f x::Y)=(E.f x).cells.map .p++rowC Y:=by
   intro Y; unfold rowC; rw[List.flatMap_cons,List.map_append]
  rw[e,e,←ih]
  have hl:((E.f x).cells.map AV.p).length=E.sz:=by simp[hx]
  rw[List.take_append,List.drop_append,hl]
  have e1:(i+1)*E.sz - E.sz=i*E.sz:=by rw[Nat.succ_mul]; omega
  have e2:(i+1)*E.sz+(E.f a).cells.length - E.sz=i*E.sz+(E.f a).cells.length:=by rw[Nat.succ_mul]; omega
  rw[e1,e2,List.take_of_length_le (by rw[hl,Nat.succ_mul]; omega),List.drop_of_length_le (by rw[hl,Nat.succ_mul]; omega)]
  simp

theorem take_row {α:Type} (E:Enc α):∀ (L:List α) (i:Nat),(rowC (L.map E.f)).take (i*E.sz)=rowC ((L.take i).map E.f)
 | [],i=>by simp[rowC]
 | x::L,0=>by simp[rowC]
 | x::L,i+1=>by
  have hx:=E.size x
  have e:∀ Y:List PV,rowC (E.f x::Y)=(E.f x).cells.map .p++rowC Y:=by
   intro Y; unfold rowC; rw[List.flatMap_cons,List.map_append]
  rw[List.map_cons,e,List.take_succ_cons,List.map_cons,e,←take_row E L i,List.take_append]
  have hl:((E.f x).cells.map AV.p).length=E.sz:=by simp[hx]
  rw[List.take_of_length_le (by rw[hl,Nat.succ_mul]; omega),hl]
  congr 2
  rw[Nat.succ_mul]; omega

theorem repeat_row {α:Type} (E:Enc α) (z:α):∀ n:Nat,repeatL ((E.f z).cells.map .p) n=rowC ((List.replicate n z).map E.f)
 | 0=>rfl
 | n+1=>by
  have e:∀ Y:List PV,rowC (E.f z::Y)=(E.f z).cells.map .p++rowC Y:=by
   intro Y; unfold rowC; rw[List.flatMap_cons,List.map_append]
  rw[repeatL,repeat_row E z n,List.replicate_succ,List.map_cons,e]

theorem clr_row {α:Type} (E:Enc α) {L:List α} {i len:Nat} {z:α} (h:i+len=L.length):splice (rowC (L.map E.f)) (i*E.sz) (repeatL ((E.f z).cells.map .p) len)=rowC ((L.take i++List.replicate len z).map E.f):=by
 unfold splice
 rw[take_row,repeat_row,E.elt.rowLen,List.length_replicate,←Nat.add_mul,h,←E.elt.rowLen L,List.drop_length,List.append_nil,List.map_append,rowC_append]

end Go.Ax

namespace Go.Ax
open Go.RowKit

variable [Glob] {P : Program} {Γ : Env} {n m0 : Nat} {K : AE → St → Prop}

theorem rep_row {α:Type} {E:Enc α} {a:α} {zz:List AV} (h:zz=(E.f a).cells.map .p) (n:Nat):repeatL zz n=rowC ((List.replicate n a).map E.f):=by
 induction n with
 | zero=>rfl
 | succ n ih=>
  rw[repeatL,ih,h,List.replicate_succ,List.map_cons]
  unfold rowC
  rw[List.flatMap_cons,List.map_append]

theorem trim_row {α:Type} {E:Enc α} {L:List α} {B:List Box} {cs:List AV} {b v sz hv:Nat} (hb:B[b]? = some (.cells true v cs)) (g1:cs=rowC (L.map E.f)) (z4:sz=E.sz) (hle:hv≤L.length):
  trimA B b v sz hv=some (.rs b (v+1) sz 0 hv,B.set b (.cells true (v+1) (rowC ((L.take hv).map E.f)))):=by
 subst z4
 unfold trimA
 rw[hb]
 simp only[true_and]
 rw[if_pos (by rw[g1,E.elt.rowLen]; exact Nat.mul_le_mul_right _ hle),g1,take_row]

theorem opC_sound {o:Oper} {s:AS} {T:Tree} {κ:AS→Tree→Tree} (h:(opC P Γ n o s T κ).wp K):Good P Γ n K o s κ:=by
 unfold opC at h
 split at h
 ·exact h.elim
 ·-- int
  have hh:=cond_wp h
  clear h
  rcases hh with ⟨_,h⟩ | ⟨_,h⟩
  ·split at h
   ·rename_i kd z B hq
    obtain ⟨rfl,h⟩:=h
    exact good_put hq h
   ·exact h.elim
  ·exact good_plain h
 ·-- val
  have hh:=cond_wp h
  clear h
  rcases hh with ⟨_,h⟩ | ⟨_,h⟩
  ·exact good_put h.1 h.2
  ·exact good_plain h
 ·-- call
  have hh:=cond_wp h
  clear h
  rcases hh with ⟨_,h⟩ | ⟨_,h⟩
  ·split at h
   ·rename_i c hop
    split at h
    ·rename_i f hf
     split at h
     ·rename_i g cap hg
      split at h
      ·rename_i hh hgam
       refine good_put ?_ h.2
       rw[hop]
       simp only[opA,callA,hf,hg,hgam,FSpec.run]
       have:=h.1
       rw[this]
       rfl
      ·exact h.elim
     ·exact h.elim
    ·exact h.elim
   ·exact h.elim
  ·exact good_plain h
 ·-- elem
  rename_i d xs0 E L i0 k
  have hh:=cond_wp h
  clear h
  rcases hh with ⟨_,h⟩ | ⟨_,h⟩
  ·split at h
   ·rename_i t a i hop
    split at h
    ·rename_i xs kd j e h1 h2 h3
     split at h
     ·rename_i sz h4
      have hh:=cond_wp h
      clear h
      rcases hh with ⟨hz,h⟩ | ⟨_,h⟩
      ·obtain ⟨rfl,hj,x,hx,h⟩:=h
       have hz:=Nat.eq_of_beq_eq_true hz
       subst hz
       refine good_put ?_ h
       rw[hop]
       simp only[opA,h1,h2,indexAddrA,intA,Option.bind_some]
       rw[if_neg (by omega),elemT_some h3]
       simp only[h4,Option.bind_some]
       rw[if_pos (E.elt.all L),List.getElem?_map,hx]
       rfl
      ·exact h.elim
     ·exact h.elim
    ·exact h.elim
   ·exact h.elim
  ·exact good_plain h
 ·-- elemk
  rename_i d xs0 E L i0 x0 k
  have hh:=cond_wp h
  clear h
  rcases hh with ⟨_,h⟩ | ⟨_,h⟩
  ·split at h
   ·rename_i t a i hop
    split at h
    ·rename_i xs kd j e h1 h2 h3
     split at h
     ·rename_i sz h4
      have hh:=cond_wp h
      clear h
      rcases hh with ⟨hz,h⟩ | ⟨_,h⟩
      ·obtain ⟨rfl,hj,hx,h⟩:=h
       have hz:=Nat.eq_of_beq_eq_true hz
       subst hz
       refine good_put ?_ h
       rw[hop]
       simp only[opA,h1,h2,indexAddrA,intA,Option.bind_some]
       rw[if_neg (by omega),elemT_some h3]
       simp only[h4,Option.bind_some]
       rw[if_pos (E.elt.all L),List.getElem?_map,hx]
       rfl
      ·exact h.elim
     ·exact h.elim
    ·exact h.elim
   ·exact h.elim
  ·exact good_plain h
 ·-- rload
  have hh:=cond_wp h
  clear h
  rcases hh with ⟨_,h⟩ | ⟨_,h⟩
  ·split at h
   ·rename_i t x hop
    split at h
    ·rename_i b ver off hx
     split at h
     ·rename_i row v cs hb
      have hh:=cond_wp h
      clear h
      rcases hh with ⟨hz,h⟩ | ⟨_,h⟩
      ·have hz:=Nat.eq_of_beq_eq_true hz
       subst hz
       obtain ⟨rfl,hj,rfl,a,ha,h⟩:=h
       dsimp only at h
       split at h
       ·rename_i v hv
        refine good_put ?_ h
        rw[hop]
        simp only[opA,hx,loadA,hb,Nat.beq_refl,if_true]
        rw[mkA_cells ha hv]
        rfl
       ·exact h.elim
      ·exact h.elim
     ·exact h.elim
    ·exact h.elim
   ·exact h.elim
  ·exact good_plain h
 ·-- ridx
  have hh:=cond_wp h
  clear h
  rcases hh with ⟨_,h⟩ | ⟨_,h⟩
  ·split at h
   ·rename_i t a i hop
    split at h
    ·rename_i b ver sz off len kd j e h1 h2 h3
     split at h
     ·rename_i sz' h4
      have hh:=cond_wp h
      clear h
      rcases hh with ⟨hz,h⟩ | ⟨_,h⟩
      ·have hz:=Nat.eq_of_beq_eq_true hz
       subst hz
       obtain ⟨hj,hl,h⟩:=h
       refine good_put ?_ h
       rw[hop]
       simp only[opA,h1,h2,indexAddrA,intA,Option.bind_some]
       rw[if_neg (by omega),elemT_some h3]
       simp only[h4,Option.bind_some]
       rw[if_pos (by simp; omega)]
       rfl
      ·exact h.elim
     ·exact h.elim
    ·exact h.elim
   ·exact h.elim
  ·exact good_plain h
 ·-- pidx
  have hh:=cond_wp h
  clear h
  rcases hh with ⟨_,h⟩ | ⟨_,h⟩
  ·split at h
   ·rename_i t a i hop
    split at h
    ·rename_i b ver off kd j len e h1 h2 h3
     split at h
     ·rename_i sz h4
      have hh:=cond_wp h
      clear h
      rcases hh with ⟨hz,h⟩ | ⟨_,h⟩
      ·obtain ⟨hj,hl,h⟩:=h
       refine good_put ?_ h
       rw[hop]
       simp only[opA,h1,h2,indexAddrA,intA,Option.bind_some]
       rw[if_neg (by omega),h3]
       simp only[h4,Option.bind_some]
       rw[if_pos (by rw[Bool.and_eq_true]; exact ⟨decide_eq_true (by omega),hz⟩)]
       rfl
      ·exact h.elim
     ·exact h.elim
    ·exact h.elim
   ·exact h.elim
  ·exact good_plain h
 ·-- rstore
  rename_i d cs0 off0 new0 E L i a k
  have hh:=cond_wp h
  clear h
  rcases hh with ⟨_,h⟩ | ⟨_,h⟩
  ·split at h
   ·rename_i t x y hop
    split at h
    ·rename_i b ver off hx
     split at h
     ·rename_i row v cs hb
      have hh:=cond_wp h
      clear h
      rcases hh with ⟨hz,h⟩ | ⟨_,h⟩
      ·simp only[Bool.and_eq_true] at hz
       obtain ⟨hz1,hz2⟩:=hz
       have hz1:=Nat.eq_of_beq_eq_true hz1
       subst hz1
       split at hz2
       ·rename_i sz hsz
        have hz2:=Nat.eq_of_beq_eq_true hz2
        subst hz2
        obtain ⟨rfl,h0,hlt,rfl,hnew,h⟩:=h
        refine good_put ?_ h
        have hi:i.toNat<L.length:=by omega
        have hln:((E.f a).cells.map AV.p).length=E.sz:=by simp[E.size]
        rw[hop]
        simp only[opA,hx,storeA,hb,hsz,hnew]
        rw[if_pos]
        ·simp only[Option.map_some,Nat.zero_add]
         rw[set_row E L _ a hi]
        ·rw[hln]
         simp only[Nat.beq_refl,beq_self_eq_true,Bool.true_and,Bool.and_eq_true,Nat.ble_eq]
         refine ⟨?_,?_⟩
         ·rw[E.elt.rowLen,Nat.zero_add]
          have:=Nat.mul_le_mul_right E.sz (show i.toNat+1≤L.length from hi)
          rw[Nat.succ_mul] at this
          exact this
         ·rw[List.all_map]
          exact E.leaf a
       ·cases hz2
      ·exact h.elim
     ·exact h.elim
    ·exact h.elim
   ·exact h.elim
  ·exact good_plain h
 ·-- rclr
  rename_i d off0 len0 cs0 zz0 E L i z k
  have hh:=cond_wp h
  clear h
  rcases hh with ⟨_,h⟩ | ⟨_,h⟩
  ·split at h
   ·rename_i c hop
    split at h
    ·rename_i b ver sz off len t h1 h2 h3
     split at h
     ·rename_i row v cs zz hb hz
      have hh:=cond_wp h
      clear h
      rcases hh with ⟨hc,h⟩ | ⟨_,h⟩
      ·simp only[Bool.and_eq_true] at hc
       obtain ⟨⟨⟨z1,z2⟩,z3⟩,z4⟩:=hc
       have z1:=Nat.eq_of_beq_eq_true z1
       have z2:=Nat.eq_of_beq_eq_true z2
       subst z1 z2
       split at z4
       ·rename_i m hm
        have z4:=Nat.eq_of_beq_eq_true z4
        subst z4
        obtain ⟨rfl,rfl,rfl,hlen,h⟩:=h
        refine good_put ?_ h
        obtain ⟨e,he,hze⟩:=Option.bind_eq_some_iff.1 hz
        rw[he] at hm
        simp only[Option.bind_some] at hm
        rw[hop]
        simp only[opA,callA,h1,builtinA,h2,h3,Option.bind_some,clearA,he,hm,hze,hb]
        rw[if_pos]
        ·simp only[Option.map_some,Nat.zero_add]
         rw[clr_row E hlen]
        ·rw[E.elt.rowLen]
         simp only[Nat.beq_refl,beq_self_eq_true,Bool.true_and,z3,Bool.and_eq_true,Nat.ble_eq]
         refine ⟨?_,?_⟩
         ·rw[List.all_map]; exact E.leaf z
         ·rw[Nat.zero_add,←Nat.add_mul,hlen]; exact Nat.le_refl _
       ·cases z4
      ·exact h.elim
     ·exact h.elim
    ·exact h.elim
   ·exact h.elim
  ·exact good_plain h
 ·-- app
  rename_i d src0 len0 cs0 E L M k
  have hh:=cond_wp h
  clear h
  rcases hh with ⟨_,h⟩ | ⟨_,h⟩
  ·split at h
   ·rename_i c hop
    split at h
    ·rename_i b ver sz off len x t tx h1 h2 h3 h4
     split at h
     ·rename_i v cs hb
      have hh:=cond_wp h
      clear h
      rcases hh with ⟨hz,h⟩ | ⟨_,h⟩
      ·simp only[Bool.and_eq_true] at hz
       obtain ⟨⟨⟨z1,z2⟩,z3⟩,z4⟩:=hz
       have z1:=Nat.eq_of_beq_eq_true z1
       have z2:=Nat.eq_of_beq_eq_true z2
       have z3:=Nat.eq_of_beq_eq_true z3
       subst z1 z2 z3
       split at h
       ·rename_i src' hsrc
        obtain ⟨g1,rfl,rfl,g4,h⟩:=h
        obtain ⟨e,bytes,ht,hby⟩:=rowTyC_spec z4
        refine good_put ?_ h
        rw[hop]
        simp only[opA,callA,h1,builtinA,h2,h3,h4,Option.bind_some]
        exact append_row E.elt ht hb (srcC_spec hsrc g1) g4 hby
       ·exact h.elim
      ·exact h.elim
     ·exact h.elim
    ·exact h.elim
   ·exact h.elim
  ·exact good_plain h
 ·-- appn
  have hh:=cond_wp h
  clear h
  rcases hh with ⟨_,h⟩ | ⟨_,h⟩
  ·split at h
   ·rename_i c hop
    split at h
    ·rename_i x t tx h1 h2 h3 h4
     have hh:=cond_wp h
     clear h
     rcases hh with ⟨z4,h⟩ | ⟨_,h⟩
     ·split at h
      ·rename_i src' hsrc
       obtain ⟨g1,g4,h⟩:=h
       obtain ⟨e,bytes,ht,hby⟩:=rowTyC_spec z4
       refine good_put ?_ h
       rw[hop]
       simp only[opA,callA,h1,builtinA,h2,h3,h4,Option.bind_some]
       exact append_nil (Enc.elt _) ht (srcC_spec hsrc g1) g4 hby
      ·exact h.elim
     ·exact h.elim
    ·exact h.elim
   ·exact h.elim
  ·exact good_plain h
 ·-- cut
  rename_i d xs0 lo0 hi0 E L k
  have hh:=cond_wp h
  clear h
  rcases hh with ⟨_,h⟩ | ⟨_,h⟩
  ·obtain ⟨t,x,lo,hi,l,r,hop,hl,hr,h⟩:=slC_wp h
   split at h
   ·rename_i xs hx
    split at h
    ·rename_i e he
     split at h
     ·rename_i sz hsz
      have hh:=cond_wp h
      clear h
      rcases hh with ⟨hz,h⟩ | ⟨_,h⟩
      ·have hz:=Nat.eq_of_beq_eq_true hz
       subst hz
       obtain ⟨rfl,hk,h⟩:=h
       refine good_put ?_ h
       obtain ⟨hb,_,_⟩:=bounds_of (len:=L.length) hl hr hk
       rw[hop]
       simp only[opA,hx,sliceA,elemT_some he,hsz,Option.bind_some,List.length_map,hb]
       rw[if_pos (E.elt.all L),cutL_eq hk,List.map_drop,List.map_take]
       rfl
      ·exact h.elim
     ·exact h.elim
    ·exact h.elim
   ·exact h.elim
  ·exact good_plain h
 ·-- scut
  have hh:=cond_wp h
  clear h
  rcases hh with ⟨_,h⟩ | ⟨_,h⟩
  ·obtain ⟨t,x,lo,hi,l,r,hop,hl,hr,h⟩:=slC_wp h
   split at h
   ·rename_i b hu hx
    obtain ⟨hk,h⟩:=h
    refine good_put ?_ h
    obtain ⟨hb,_,_⟩:=bounds_of (len:=b.size) hl hr hk
    rw[hop]
    simp only[opA,hx,sliceA,hu,hb,Option.map_some]
   ·exact h.elim
  ·exact good_plain h
 ·-- rcut
  have hh:=cond_wp h
  clear h
  rcases hh with ⟨_,h⟩ | ⟨_,h⟩
  ·obtain ⟨t,x,lo,hi,l,r,hop,hl,hr,h⟩:=slC_wp h
   split at h
   ·rename_i b ver sz off len hx
    split at h
    ·rename_i e he
     split at h
     ·rename_i sz' hsz
      have hh:=cond_wp h
      clear h
      rcases hh with ⟨hz,h⟩ | ⟨_,h⟩
      ·have hz:=Nat.eq_of_beq_eq_true hz
       subst hz
       obtain ⟨hk,h⟩:=h
       refine good_put ?_ h
       obtain ⟨hb,_,_⟩:=bounds_of (len:=len) hl hr hk
       rw[hop]
       simp only[opA,hx,sliceA,elemT_some he,hsz,Option.bind_some,hb]
       simp
      ·exact h.elim
     ·exact h.elim
    ·exact h.elim
   ·exact h.elim
  ·exact good_plain h
 ·-- rcut3
  have hh:=cond_wp h
  clear h
  rcases hh with ⟨_,h⟩ | ⟨_,h⟩
  ·split at h
   ·rename_i t x y mi hop
    split at h
    ·rename_i b ver sz off len _ hv _ mv hx hy hmx
     split at h
     ·rename_i v cs e hb he
      split at h
      ·rename_i sz' hsz
       have hh:=cond_wp h
       clear h
       rcases hh with ⟨hz,h⟩ | ⟨_,h⟩
       ·simp only[Bool.and_eq_true] at hz
        obtain ⟨⟨⟨z1,z2⟩,z3⟩,z4⟩:=hz
        have z1:=Nat.eq_of_beq_eq_true z1
        have z2:=Nat.eq_of_beq_eq_true z2
        have z3:=Nat.eq_of_beq_eq_true z3
        have z4:=Nat.eq_of_beq_eq_true z4
        subst z1 z2 z3
        obtain ⟨g1,g2,g3,g4,g5,h⟩:=h
        refine good_put ?_ h
        rw[hop]
        simp only[opA,Option.map_none,Option.map_some,hx,hy,show evalA s.t (.tmp mi)=s.t mi from rfl,hmx,slice3A,elemT_some he,hsz,Option.bind_some,intA]
        rw[if_neg (by simp),if_pos ⟨by omega,g5⟩]
        simp only[boundsA,boundA,intA,Option.bind_some,beq_self_eq_true,Option.isSome_some,Bool.and_self,Option.isNone_none,if_true]
        rw[if_pos ⟨by omega,by omega⟩]
        simp only[Option.bind_some]
        exact trim_row hb g1 z4 (by omega)
       ·exact h.elim
      ·exact h.elim
     ·exact h.elim
    ·exact h.elim
   ·exact h.elim
  ·exact good_plain h
 ·-- sidx
  have hh:=cond_wp h
  clear h
  rcases hh with ⟨_,h⟩ | ⟨_,h⟩
  ·split at h
   ·rename_i t x i hop
    split at h
    ·rename_i b kd j hu hx hi
     obtain ⟨h0,c,hc,h⟩:=h
     refine good_put ?_ h
     rw[hop]
     simp only[opA,hx,hi,indexA,intA,Option.bind_some,hu]
     rw[if_neg (by omega),hc]
     rfl
    ·exact h.elim
   ·exact h.elim
  ·exact good_plain h
 ·-- bstr
  rename_i d len0 cs0 L k
  have hh:=cond_wp h
  clear h
  rcases hh with ⟨_,h⟩ | ⟨_,h⟩
  ·split at h
   ·rename_i src dst x hop
    split at h
    ·rename_i e b ver sz off len he hd hx
     split at h
     ·rename_i row v cs hu hb
      have hh:=cond_wp h
      clear h
      rcases hh with ⟨hz,h⟩ | ⟨_,h⟩
      ·simp only[Bool.and_eq_true] at hz
       obtain ⟨⟨z1,z2⟩,z3⟩:=hz
       have z1:=Nat.eq_of_beq_eq_true z1
       have z2:=Nat.eq_of_beq_eq_true z2
       have z3:=Nat.eq_of_beq_eq_true z3
       subst z1 z2 z3
       obtain ⟨rfl,rfl,h⟩:=h
       refine good_put ?_ h
       rw[hop]
       simp only[opA,hx,convertA,elemT_some he,hd,hu,srcA,hb,Nat.beq_refl,beq_self_eq_true,Bool.and_self,if_true,Option.bind_some,List.drop_zero]
       have hlen:L.length*1=(rowC (L.map byteE.f)).length:=by rw[byteE.elt.rowLen]; rfl
       rw[hlen,List.take_length,bytesOf_row]
       rfl
      ·exact h.elim
     ·exact h.elim
    ·exact h.elim
   ·exact h.elim
  ·exact good_plain h
 ·-- bstrl
  rename_i d xs0 L k
  have hh:=cond_wp h
  clear h
  rcases hh with ⟨_,h⟩ | ⟨_,h⟩
  ·split at h
   ·rename_i src dst x hop
    split at h
    ·rename_i e xs he hd hx
     split at h
     ·rename_i hu
      obtain ⟨rfl,h⟩:=h
      refine good_put ?_ h
      rw[hop]
      simp only[opA,hx,convertA,elemT_some he,hd,hu,srcA]
      rw[if_pos (show ((L.map byteE.f).all fun y=>y.cells.length == 1)=true from byteE.elt.all L)]
      simp only[Option.bind_some]
      have:=bytesOf_row L
      unfold rowC at this
      rw[this]
      rfl
     ·exact h.elim
    ·exact h.elim
   ·exact h.elim
  ·exact good_plain h
 ·-- sbyte
  have hh:=cond_wp h
  clear h
  rcases hh with ⟨_,h⟩ | ⟨_,h⟩
  ·split at h
   ·rename_i src dst x hop
    split at h
    ·rename_i e b hs he hx
     split at h
     ·rename_i hu
      have h:(putS n s o.dst (.rs s.B.length 0 1 0 b.data.toList.length) (s.B++ [.cells true 0 (rowC (b.data.toList.map byteE.f))]) _ κ).wp K:=h
      refine good_put ?_ h
      rw[hop]
      simp only[opA,hx,convertA,elemT_some he,hs,hu]
      rw[byteCells,show b.size=b.data.toList.length from by rw[Array.length_toList]; rfl]
      rfl
     ·exact h.elim
    ·exact h.elim
   ·exact h.elim
  ·exact good_plain h
 ·-- mks
  rename_i d z0 y0 zz0 E a k
  have hh:=cond_wp h
  clear h
  rcases hh with ⟨_,h⟩ | ⟨_,h⟩
  ·split at h
   ·rename_i t l c hop
    split at h
    ·rename_i k1 z k2 y e hl hc he
     split at h
     ·rename_i sz zz ie hsz hz hie
      have hh:=cond_wp h
      clear h
      rcases hh with ⟨hq,h⟩ | ⟨_,h⟩
      ·simp only[Bool.and_eq_true] at hq
       obtain ⟨⟨⟨q1,q2⟩,q3⟩,q4⟩:=hq
       have q1:=Nat.eq_of_beq_eq_true q1
       have q2:=Nat.eq_of_beq_eq_true q2
       obtain ⟨rfl,g0,g1,hzz,h⟩:=h
       refine good_put ?_ h
       rw[hop]
       simp only[opA,hl,hc,makeSliceA,he,hsz,hz,hie,Option.bind_some]
       rw[if_pos ⟨trivial,g0,g1,by rw[q1,q2],Nat.le_of_ble_eq_true q3,q4⟩,rep_row hzz,q1,List.length_replicate]
      ·exact h.elim
     ·exact h.elim
    ·exact h.elim
   ·exact h.elim
  ·exact good_plain h
 ·exact good_plain h

end Go.Ax
