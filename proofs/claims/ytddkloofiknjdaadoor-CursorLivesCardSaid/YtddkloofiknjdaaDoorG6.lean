/- The check of trees: one operation. -/
import Derived.Test.YtddkloofiknjdaaDoorG5
set_option linter.unusedVariables false
set_option linter.unusedSimpArgs false
set_option linter.unusedSectionVars false
namespace Go.Ax
open Go.RowKit

variable [Glob] {P : Program} {Γ : BF} {n m0 : Nat} {K : AE → St → Prop}

theorem l7 {α:Type} {E:Enc α} {a:α} {zz:List AV} (h:zz=(E.f a).cells.map .p) (n:Nat):repeatL zz n=rowC ((List.replicate n a).map E.f):=by
 induction n with
 | zero=>rfl
 | succ n ih=>
  rw[repeatL,ih,h,List.replicate_succ,List.map_cons]
  unfold rowC
  rw[List.flatMap_cons,List.map_append]

theorem iF {α:Type} {E:Enc α} {L:List α} {B:List Box} {cs:List AV} {b v sz hv:Nat} (hb:B[b]? = some (.cells true v cs)) (g1:cs=rowC (L.map E.f)) (z4:sz=E.sz) (hle:hv≤L.length):
  Qo B b v sz hv=some (.rs b (v+1) sz 0 hv,B.set b (.cells true (v+1) (rowC ((L.take hv).map E.f)))):=by
 subst z4
 unfold Qo
 rw[hb]
 simp only[true_and]
 rw[if_pos (by rw[g1,E.elt.rowLen]; exact Nat.mul_le_mul_right _ hle),g1,Jk]

theorem dl {o:Oper} {s:AS} {T:Tree} {κ:AS→Tree→Tree} (h:(oe P Γ n o s T κ).wp K):Vd P Γ n K o s κ:=by
 unfold oe at h
 split at h
 ·exact h.elim
 ·-- int
  have hh:=cond_wp h
  clear h
  rcases hh with ⟨_,h⟩ | ⟨_,h⟩
  ·split at h
   ·rename_i kd z B hq
    obtain ⟨rfl,h⟩:=h
    exact Bt hq h
   ·exact h.elim
  ·exact BX h
 ·-- val
  have hh:=cond_wp h
  clear h
  rcases hh with ⟨_,h⟩ | ⟨_,h⟩
  ·exact Bt h.1 h.2
  ·exact BX h
 ·-- call
  have hh:=cond_wp h
  clear h
  rcases hh with ⟨_,h⟩ | ⟨_,h⟩
  ·split at h
   ·rename_i c hop
    split at h
    ·rename_i f hf
     split at h
     ·rename_i g cap hg
      split at h
      ·rename_i hh hgam
       refine Bt ?_ h.2
       rw[hop]
       simp only[CH,E4,hf,hg,hgam,FSpec.run]
       have:=h.1
       rw[this]
       rfl
      ·exact h.elim
     ·exact h.elim
    ·exact h.elim
   ·exact h.elim
  ·exact BX h
 ·-- elem
  rename_i d xs0 E L i0 k
  have hh:=cond_wp h
  clear h
  rcases hh with ⟨_,h⟩ | ⟨_,h⟩
  ·split at h
   ·rename_i t a i hop
    split at h
    ·rename_i xs kd j e h1 h2 h3
     split at h
     ·rename_i sz h4
      have hh:=cond_wp h
      clear h
      rcases hh with ⟨hz,h⟩ | ⟨_,h⟩
      ·obtain ⟨rfl,hj,x,hx,h⟩:=h
       have hz:=Nat.eq_of_beq_eq_true hz
       subst hz
       refine Bt ?_ h
       rw[hop]
       simp only[CH,h1,h2,BE,D7,Option.bind_some]
       rw[if_neg (by omega),CY h3]
       simp only[h4,Option.bind_some]
       rw[if_pos (E.elt.all L),List.getElem?_map,hx]
       rfl
      ·exact h.elim
     ·exact h.elim
    ·exact h.elim
   ·exact h.elim
  ·exact BX h
 ·-- elemk
  rename_i d xs0 E L i0 x0 k
  have hh:=cond_wp h
  clear h
  rcases hh with ⟨_,h⟩ | ⟨_,h⟩
  ·split at h
   ·rename_i t a i hop
    split at h
    ·rename_i xs kd j e h1 h2 h3
     split at h
     ·rename_i sz h4
      have hh:=cond_wp h
      clear h
      rcases hh with ⟨hz,h⟩ | ⟨_,h⟩
      ·obtain ⟨rfl,hj,hx,h⟩:=h
       have hz:=Nat.eq_of_beq_eq_true hz
       subst hz
       refine Bt ?_ h
       rw[hop]
       simp only[CH,h1,h2,BE,D7,Option.bind_some]
       rw[if_neg (by omega),CY h3]
       simp only[h4,Option.bind_some]
       rw[if_pos (E.elt.all L),List.getElem?_map,hx]
       rfl
      ·exact h.elim
     ·exact h.elim
    ·exact h.elim
   ·exact h.elim
  ·exact BX h
 ·-- rload
  have hh:=cond_wp h
  clear h
  rcases hh with ⟨_,h⟩ | ⟨_,h⟩
  ·split at h
   ·rename_i t x hop
    split at h
    ·rename_i b ver off hx
     split at h
     ·rename_i row v cs hb
      have hh:=cond_wp h
      clear h
      rcases hh with ⟨hz,h⟩ | ⟨_,h⟩
      ·have hz:=Nat.eq_of_beq_eq_true hz
       subst hz
       obtain ⟨rfl,hj,rfl,a,ha,h⟩:=h
       dsimp only at h
       split at h
       ·rename_i v hv
        refine Bt ?_ h
        rw[hop]
        simp only[CH,hx,L0,hb,Nat.beq_refl,if_true]
        rw[dk ha hv]
        rfl
       ·exact h.elim
      ·exact h.elim
     ·exact h.elim
    ·exact h.elim
   ·exact h.elim
  ·exact BX h
 ·-- ridx
  have hh:=cond_wp h
  clear h
  rcases hh with ⟨_,h⟩ | ⟨_,h⟩
  ·split at h
   ·rename_i t a i hop
    split at h
    ·rename_i b ver sz off len kd j e h1 h2 h3
     split at h
     ·rename_i sz' h4
      have hh:=cond_wp h
      clear h
      rcases hh with ⟨hz,h⟩ | ⟨_,h⟩
      ·have hz:=Nat.eq_of_beq_eq_true hz
       subst hz
       obtain ⟨hj,hl,h⟩:=h
       refine Bt ?_ h
       rw[hop]
       simp only[CH,h1,h2,BE,D7,Option.bind_some]
       rw[if_neg (by omega),CY h3]
       simp only[h4,Option.bind_some]
       rw[if_pos (by simp; omega)]
       rfl
      ·exact h.elim
     ·exact h.elim
    ·exact h.elim
   ·exact h.elim
  ·exact BX h
 ·-- pidx
  have hh:=cond_wp h
  clear h
  rcases hh with ⟨_,h⟩ | ⟨_,h⟩
  ·split at h
   ·rename_i t a i hop
    split at h
    ·rename_i b ver off kd j len e h1 h2 h3
     split at h
     ·rename_i sz h4
      have hh:=cond_wp h
      clear h
      rcases hh with ⟨hz,h⟩ | ⟨_,h⟩
      ·obtain ⟨hj,hl,h⟩:=h
       refine Bt ?_ h
       rw[hop]
       simp only[CH,h1,h2,BE,D7,Option.bind_some]
       rw[if_neg (by omega),h3]
       simp only[h4,Option.bind_some]
       rw[if_pos (by rw[Bool.and_eq_true]; exact ⟨decide_eq_true (by omega),hz⟩)]
       rfl
      ·exact h.elim
     ·exact h.elim
    ·exact h.elim
   ·exact h.elim
  ·exact BX h
 ·-- rstore
  rename_i d cs0 off0 new0 E L i a k
  have hh:=cond_wp h
  clear h
  rcases hh with ⟨_,h⟩ | ⟨_,h⟩
  ·split at h
   ·rename_i t x y hop
    split at h
    ·rename_i b ver off hx
     split at h
     ·rename_i row v cs hb
      have hh:=cond_wp h
      clear h
      rcases hh with ⟨hz,h⟩ | ⟨_,h⟩
      ·simp only[Bool.and_eq_true] at hz
       obtain ⟨hz1,hz2⟩:=hz
       have hz1:=Nat.eq_of_beq_eq_true hz1
       subst hz1
       split at hz2
       ·rename_i sz hsz
        have hz2:=Nat.eq_of_beq_eq_true hz2
        subst hz2
        obtain ⟨rfl,h0,hlt,rfl,hnew,h⟩:=h
        refine Bt ?_ h
        have hi:i.toNat<L.length:=by omega
        have hln:((E.f a).cells.map AV.p).length=E.sz:=by simp[E.size]
        rw[hop]
        simp only[CH,hx,M7,hb,hsz,hnew]
        rw[if_pos]
        ·simp only[Option.map_some,Nat.zero_add]
         rw[ZG E L _ a hi]
        ·rw[hln]
         simp only[Nat.beq_refl,beq_self_eq_true,Bool.true_and,Bool.and_eq_true,Nat.ble_eq]
         refine ⟨?_,?_⟩
         ·rw[E.elt.rowLen,Nat.zero_add]
          have:=Nat.mul_le_mul_right E.sz (show i.toNat+1≤L.length from hi)
          rw[Nat.succ_mul] at this
          exact this
         ·rw[List.all_map]
          exact E.leaf a
       ·cases hz2
      ·exact h.elim
     ·exact h.elim
    ·exact h.elim
   ·exact h.elim
  ·exact BX h
 ·-- rclr
  rename_i d off0 len0 cs0 zz0 E L i z k
  have hh:=cond_wp h
  clear h
  rcases hh with ⟨_,h⟩ | ⟨_,h⟩
  ·split at h
   ·rename_i c hop
    split at h
    ·rename_i b ver sz off len t h1 h2 h3
     split at h
     ·rename_i row v cs zz hb hz
      have hh:=cond_wp h
      clear h
      rcases hh with ⟨hc,h⟩ | ⟨_,h⟩
      ·simp only[Bool.and_eq_true] at hc
       obtain ⟨⟨⟨z1,z2⟩,z3⟩,z4⟩:=hc
       have z1:=Nat.eq_of_beq_eq_true z1
       have z2:=Nat.eq_of_beq_eq_true z2
       subst z1 z2
       split at z4
       ·rename_i m hm
        have z4:=Nat.eq_of_beq_eq_true z4
        subst z4
        obtain ⟨rfl,rfl,rfl,hlen,h⟩:=h
        refine Bt ?_ h
        obtain ⟨e,he,hze⟩:=Option.bind_eq_some_iff.1 hz
        rw[he] at hm
        simp only[Option.bind_some] at hm
        rw[hop]
        simp only[CH,E4,h1,E3,h2,h3,Option.bind_some,M8,he,hm,hze,hb]
        rw[if_pos]
        ·simp only[Option.map_some,Nat.zero_add]
         rw[l6 E hlen]
        ·rw[E.elt.rowLen]
         simp only[Nat.beq_refl,beq_self_eq_true,Bool.true_and,z3,Bool.and_eq_true,Nat.ble_eq]
         refine ⟨?_,?_⟩
         ·rw[List.all_map]; exact E.leaf z
         ·rw[Nat.zero_add,←Nat.add_mul,hlen]; exact Nat.le_refl _
       ·cases z4
      ·exact h.elim
     ·exact h.elim
    ·exact h.elim
   ·exact h.elim
  ·exact BX h
 ·-- app
  rename_i d src0 len0 cs0 E L M k
  have hh:=cond_wp h
  clear h
  rcases hh with ⟨_,h⟩ | ⟨_,h⟩
  ·split at h
   ·rename_i c hop
    split at h
    ·rename_i b ver sz off len x t tx h1 h2 h3 h4
     split at h
     ·rename_i v cs hb
      have hh:=cond_wp h
      clear h
      rcases hh with ⟨hz,h⟩ | ⟨_,h⟩
      ·simp only[Bool.and_eq_true] at hz
       obtain ⟨⟨⟨z1,z2⟩,z3⟩,z4⟩:=hz
       have z1:=Nat.eq_of_beq_eq_true z1
       have z2:=Nat.eq_of_beq_eq_true z2
       have z3:=Nat.eq_of_beq_eq_true z3
       subst z1 z2 z3
       split at h
       ·rename_i src' hsrc
        obtain ⟨g1,rfl,rfl,g4,h⟩:=h
        obtain ⟨e,bytes,ht,hby⟩:=Kw z4
        refine Bt ?_ h
        rw[hop]
        simp only[CH,E4,h1,E3,h2,h3,h4,Option.bind_some]
        exact aT E.elt ht hb (Tg hsrc g1) g4 hby
       ·exact h.elim
      ·exact h.elim
     ·exact h.elim
    ·exact h.elim
   ·exact h.elim
  ·exact BX h
 ·-- appn
  have hh:=cond_wp h
  clear h
  rcases hh with ⟨_,h⟩ | ⟨_,h⟩
  ·split at h
   ·rename_i c hop
    split at h
    ·rename_i x t tx h1 h2 h3 h4
     have hh:=cond_wp h
     clear h
     rcases hh with ⟨z4,h⟩ | ⟨_,h⟩
     ·split at h
      ·rename_i src' hsrc
       obtain ⟨g1,g4,h⟩:=h
       obtain ⟨e,bytes,ht,hby⟩:=Kw z4
       refine Bt ?_ h
       rw[hop]
       simp only[CH,E4,h1,E3,h2,h3,h4,Option.bind_some]
       exact append_nil (Enc.elt _) ht (Tg hsrc g1) g4 hby
      ·exact h.elim
     ·exact h.elim
    ·exact h.elim
   ·exact h.elim
  ·exact BX h
 ·-- cut
  rename_i d xs0 lo0 hi0 E L k
  have hh:=cond_wp h
  clear h
  rcases hh with ⟨_,h⟩ | ⟨_,h⟩
  ·obtain ⟨t,x,lo,hi,l,r,hop,hl,hr,h⟩:=Ve h
   split at h
   ·rename_i xs hx
    split at h
    ·rename_i e he
     split at h
     ·rename_i sz hsz
      have hh:=cond_wp h
      clear h
      rcases hh with ⟨hz,h⟩ | ⟨_,h⟩
      ·have hz:=Nat.eq_of_beq_eq_true hz
       subst hz
       obtain ⟨rfl,hk,h⟩:=h
       refine Bt ?_ h
       obtain ⟨hb,_,_⟩:=NL (len:=L.length) hl hr hk
       rw[hop]
       simp only[CH,hx,GA,CY he,hsz,Option.bind_some,List.length_map,hb]
       rw[if_pos (E.elt.all L),lz hk,List.map_drop,List.map_take]
       rfl
      ·exact h.elim
     ·exact h.elim
    ·exact h.elim
   ·exact h.elim
  ·exact BX h
 ·-- scut
  have hh:=cond_wp h
  clear h
  rcases hh with ⟨_,h⟩ | ⟨_,h⟩
  ·obtain ⟨t,x,lo,hi,l,r,hop,hl,hr,h⟩:=Ve h
   split at h
   ·rename_i b hu hx
    obtain ⟨hk,h⟩:=h
    refine Bt ?_ h
    obtain ⟨hb,_,_⟩:=NL (len:=b.size) hl hr hk
    rw[hop]
    simp only[CH,hx,GA,hu,hb,Option.map_some]
   ·exact h.elim
  ·exact BX h
 ·-- rcut
  have hh:=cond_wp h
  clear h
  rcases hh with ⟨_,h⟩ | ⟨_,h⟩
  ·obtain ⟨t,x,lo,hi,l,r,hop,hl,hr,h⟩:=Ve h
   split at h
   ·rename_i b ver sz off len hx
    split at h
    ·rename_i e he
     split at h
     ·rename_i sz' hsz
      have hh:=cond_wp h
      clear h
      rcases hh with ⟨hz,h⟩ | ⟨_,h⟩
      ·have hz:=Nat.eq_of_beq_eq_true hz
       subst hz
       obtain ⟨hk,h⟩:=h
       refine Bt ?_ h
       obtain ⟨hb,_,_⟩:=NL (len:=len) hl hr hk
       rw[hop]
       simp only[CH,hx,GA,CY he,hsz,Option.bind_some,hb]
       simp
      ·exact h.elim
     ·exact h.elim
    ·exact h.elim
   ·exact h.elim
  ·exact BX h
 ·-- rcut3
  have hh:=cond_wp h
  clear h
  rcases hh with ⟨_,h⟩ | ⟨_,h⟩
  ·split at h
   ·rename_i t x y mi hop
    split at h
    ·rename_i b ver sz off len _ hv _ mv hx hy hmx
     split at h
     ·rename_i v cs e hb he
      split at h
      ·rename_i sz' hsz
       have hh:=cond_wp h
       clear h
       rcases hh with ⟨hz,h⟩ | ⟨_,h⟩
       ·simp only[Bool.and_eq_true] at hz
        obtain ⟨⟨⟨z1,z2⟩,z3⟩,z4⟩:=hz
        have z1:=Nat.eq_of_beq_eq_true z1
        have z2:=Nat.eq_of_beq_eq_true z2
        have z3:=Nat.eq_of_beq_eq_true z3
        have z4:=Nat.eq_of_beq_eq_true z4
        subst z1 z2 z3
        obtain ⟨g1,g2,g3,g4,g5,h⟩:=h
        refine Bt ?_ h
        rw[hop]
        simp only[CH,Option.map_none,Option.map_some,hx,hy,show AR s.t (.tmp mi)=s.t mi from rfl,hmx,OQ,CY he,hsz,Option.bind_some,D7]
        rw[if_neg (by simp),if_pos ⟨by omega,g5⟩]
        simp only[boundsA,D8,D7,Option.bind_some,beq_self_eq_true,Option.isSome_some,Bool.and_self,Option.isNone_none,if_true]
        rw[if_pos ⟨by omega,by omega⟩]
        simp only[Option.bind_some]
        exact iF hb g1 z4 (by omega)
       ·exact h.elim
      ·exact h.elim
     ·exact h.elim
    ·exact h.elim
   ·exact h.elim
  ·exact BX h
 ·-- sidx
  have hh:=cond_wp h
  clear h
  rcases hh with ⟨_,h⟩ | ⟨_,h⟩
  ·split at h
   ·rename_i t x i hop
    split at h
    ·rename_i b kd j hu hx hi
     obtain ⟨h0,c,hc,h⟩:=h
     refine Bt ?_ h
     rw[hop]
     simp only[CH,hx,hi,Qn,D7,Option.bind_some,hu]
     rw[if_neg (by omega),hc]
     rfl
    ·exact h.elim
   ·exact h.elim
  ·exact BX h
 ·-- bstr
  rename_i d len0 cs0 L k
  have hh:=cond_wp h
  clear h
  rcases hh with ⟨_,h⟩ | ⟨_,h⟩
  ·split at h
   ·rename_i src dst x hop
    split at h
    ·rename_i e b ver sz off len he hd hx
     split at h
     ·rename_i row v cs hu hb
      have hh:=cond_wp h
      clear h
      rcases hh with ⟨hz,h⟩ | ⟨_,h⟩
      ·simp only[Bool.and_eq_true] at hz
       obtain ⟨⟨z1,z2⟩,z3⟩:=hz
       have z1:=Nat.eq_of_beq_eq_true z1
       have z2:=Nat.eq_of_beq_eq_true z2
       have z3:=Nat.eq_of_beq_eq_true z3
       subst z1 z2 z3
       obtain ⟨rfl,rfl,h⟩:=h
       refine Bt ?_ h
       rw[hop]
       simp only[CH,hx,E2,CY he,hd,hu,E1,hb,Nat.beq_refl,beq_self_eq_true,Bool.and_self,if_true,Option.bind_some,List.drop_zero]
       have hlen:L.length*1=(rowC (L.map AA.f)).length:=by rw[AA.elt.rowLen]; rfl
       rw[hlen,List.take_length,Pi]
       rfl
      ·exact h.elim
     ·exact h.elim
    ·exact h.elim
   ·exact h.elim
  ·exact BX h
 ·-- bstrl
  rename_i d xs0 L k
  have hh:=cond_wp h
  clear h
  rcases hh with ⟨_,h⟩ | ⟨_,h⟩
  ·split at h
   ·rename_i src dst x hop
    split at h
    ·rename_i e xs he hd hx
     split at h
     ·rename_i hu
      obtain ⟨rfl,h⟩:=h
      refine Bt ?_ h
      rw[hop]
      simp only[CH,hx,E2,CY he,hd,hu,E1]
      rw[if_pos (show ((L.map AA.f).all fun y=>y.cells.length == 1)=true from AA.elt.all L)]
      simp only[Option.bind_some]
      have:=Pi L
      unfold rowC at this
      rw[this]
      rfl
     ·exact h.elim
    ·exact h.elim
   ·exact h.elim
  ·exact BX h
 ·-- sbyte
  have hh:=cond_wp h
  clear h
  rcases hh with ⟨_,h⟩ | ⟨_,h⟩
  ·split at h
   ·rename_i src dst x hop
    split at h
    ·rename_i e b hs he hx
     split at h
     ·rename_i hu
      have h:(DS n s o.dst (.rs s.B.length 0 1 0 b.data.toList.length) (s.B++ [.cells true 0 (rowC (b.data.toList.map AA.f))]) _ κ).wp K:=h
      refine Bt ?_ h
      rw[hop]
      simp only[CH,hx,E2,CY he,hs,hu]
      rw[byteCells,show b.size=b.data.toList.length from by rw[Array.length_toList]; rfl]
      rfl
     ·exact h.elim
    ·exact h.elim
   ·exact h.elim
  ·exact BX h
 ·-- mks
  rename_i d z0 y0 zz0 E a k
  have hh:=cond_wp h
  clear h
  rcases hh with ⟨_,h⟩ | ⟨_,h⟩
  ·split at h
   ·rename_i t l c hop
    split at h
    ·rename_i k1 z k2 y e hl hc he
     split at h
     ·rename_i sz zz ie hsz hz hie
      have hh:=cond_wp h
      clear h
      rcases hh with ⟨hq,h⟩ | ⟨_,h⟩
      ·simp only[Bool.and_eq_true] at hq
       obtain ⟨⟨⟨q1,q2⟩,q3⟩,q4⟩:=hq
       have q1:=Nat.eq_of_beq_eq_true q1
       have q2:=Nat.eq_of_beq_eq_true q2
       obtain ⟨rfl,g0,g1,hzz,h⟩:=h
       refine Bt ?_ h
       rw[hop]
       simp only[CH,hl,hc,It,he,hsz,hz,hie,Option.bind_some]
       rw[if_pos ⟨trivial,g0,g1,by rw[q1,q2],Nat.le_of_ble_eq_true q3,q4⟩,l7 hzz,q1,List.length_replicate]
      ·exact h.elim
     ·exact h.elim
    ·exact h.elim
   ·exact h.elim
  ·exact BX h
 ·exact BX h

end Go.Ax
namespace Go.Ax
open Go.RowKit

variable [Glob] {P : Program} {Γ : BF} {Δ : CB} {n m0 : Nat} {K : AE → St → Prop}

def SoundR (P:Program) (f:Nat) (R:Ae):Prop:=
 ∀ args B r B',R args B r B'→∀ (F:Nat→Prop) ρ w us,Inv F B ρ w→ArgsRel F B ρ w args us→CallOk P f us.toArray w (aQ F B ρ w r B')

def Qy (P:Program) (n:Nat) (ops:List Oper) (o:Oper) (s s':AS):Prop:=∃ Γ':BF,(∀ f,SoundF P f (Γ' f))∧Gu P Γ' n ops o s=some s'

def aX (P:Program) (n:Nat) (ops:List Oper):List Oper→AS→AS→Prop
 | [],s,s'=>s=s'
 | o::l,s,s'=>∃ s1,Qy P n ops o s s1∧aX P n ops l s1 s'

theorem Qz {ops:List Oper} {F:Nat→Prop} {Q:Exit→Act→World→Prop}:∀ (l:List Oper) (s s':AS),aX P n ops l s s'→∀ {ρ:Aj} {w:World} {a:Act},Rel F s.B ρ w n s.t a →
  (∀ a' w' ρ',Rel F s'.B ρ' w' n s'.t a'→Ext F s.B ρ w s'.B ρ' w'→Q .normal a' w')→wpList P ops.toArray Q l a w
 | [],s,s',h,ρ,w,a,hR,hQ=>by cases h; exact hQ a w ρ hR (.refl _ _ _)
 | o::l,s,s',⟨s1,⟨Γ',hΓ,h1⟩,h2⟩,ρ,w,a,hR,hQ=>by
  refine wpList_step fun K hK=>?_
  exact L8 hΓ h1 hR (fun a' w' ρ' hR' hE=>hK _ _ (Qz l s1 s' h2 hR' (fun a2 w2 ρ2 hR2 hE2=>hQ a2 w2 ρ2 hR2 (hE.trans hE2))))

theorem Tri.regionR {s s':AS} {K:AE→AS→Prop} {id:Nat} {ops:Array Oper} (h:aX P n ops.toList ops.toList s s') (hk:K .normal s'):Tri P n m0 false (.region id ops false) s K:=by
 intro F B0 ρ0 w0 h0 ρ w a hR hE Q hQ
 refine wp_region_list ?_
 have:=Qz (Q:=Q) ops.toList s s' h hR (fun a' w' ρ' hR' hE'=>hQ .normal s' a' w' ρ' hk hR' (hE.trans hE'))
 simpa using this

open Classical in
/-- One call more is told. -/
noncomputable def overΓ (Γ:BF) (g:Nat) (args:List AV) (B:List Box) (r:AV) (B':List Box):BF:=
 fun f=>if f=g then .gen (fun a b=>if a=args∧b=B then some (r,B') else none) else Γ f

theorem overΓ_ok (hΓ:∀ f,SoundF P f (Γ f)) (hΔ:∀ f,SoundR P f (Δ f)) {g:Nat} {args:List AV} {B:List Box} {r:AV} {B':List Box} (h:Δ g args B r B'):∀ f,SoundF P f (overΓ Γ g args B r B' f):=by
 intro f
 unfold overΓ
 split
 ·rename_i e
  subst e
  intro a b r1 B1 hs
  simp only[FSpec.run] at hs
  split at hs
  ·rename_i he
   cases hs
   rw[he.1,he.2]
   exact hΔ f args B r B' h
  ·cases hs
 ·exact hΓ f

theorem Vf (hΓ:∀ f,SoundF P f (Γ f)) (hΔ:∀ f,SoundR P f (Δ f)) {ops:List Oper} {o:Oper} {s:AS} {d:Option Nat} {v:AV} {B:List Box} {k:Tree} {κ:AS→Tree→Tree} (hw:Cl ops s.t o=some true)
  (h:(NK Δ n o s d v B k κ).wp K):∃ s' T',Qy P n ops o s s'∧(κ s' T').wp K:=by
 unfold NK at h
 split at h
 ·rename_i c hop
  split at h
  ·rename_i f hf
   split at h
   ·rename_i g cap hg
    obtain ⟨hp,h⟩:=h
    have hrun:CH P (overΓ Γ g (c.args.toList.map (AR s.t)++cap) s.B v B) s.t s.B o.op=some (v,B):=by
     rw[hop]
     simp only[CH,E4,hf,hg,overΓ,if_true,FSpec.run,and_self]
    obtain ⟨v1,B1,t',T',g1,g2,g3⟩:=Bt (P:=P) hrun h
    refine ⟨⟨t',B1⟩,T',⟨_,overΓ_ok hΓ hΔ hp,?_⟩,g3⟩
    unfold Gu
    rw[hw]
    simp only[Option.bind_some,if_true,g1,g2]
    rfl
   ·exact h.elim
  ·exact h.elim
 ·exact h.elim

theorem Vg (hΓ:∀ f,SoundF P f (Γ f)) (hΔ:∀ f,SoundR P f (Δ f)) {ops:List Oper} {o:Oper} {s:AS} {β:Type} {d:Option Nat} {v:β→AV} {B:β→List Box} {k:β→Tree} {κ:AS→Tree→Tree} (hw:Cl ops s.t o=some true)
  (h:(Vb Δ n o s d v B k κ).wp K):∃ s' T',Qy P n ops o s s'∧(κ s' T').wp K:=by
 unfold Vb at h
 split at h
 ·rename_i c hop
  split at h
  ·rename_i f hf
   split at h
   ·rename_i g cap hg
    obtain ⟨y,hp,h⟩:=h
    have hrun:CH P (overΓ Γ g (c.args.toList.map (AR s.t)++cap) s.B (v y) (B y)) s.t s.B o.op=some (v y,B y):=by
     rw[hop]
     simp only[CH,E4,hf,hg,overΓ,if_true,FSpec.run,and_self]
    obtain ⟨v1,B1,t',T',g1,g2,g3⟩:=Bt (P:=P) hrun h
    refine ⟨⟨t',B1⟩,T',⟨_,overΓ_ok hΓ hΔ hp,?_⟩,g3⟩
    unfold Gu
    rw[hw]
    simp only[Option.bind_some,if_true,g1,g2]
    rfl
   ·exact h.elim
  ·exact h.elim
 ·exact h.elim

theorem Pj (hΓ:∀ f,SoundF P f (Γ f)) (hΔ:∀ f,SoundR P f (Δ f)) {draw:Option Nat} {ops:List Oper} {o:Oper} {s:AS} {T:Tree} {κ:AS→Tree→Tree} (h:(MB P Γ Δ n draw ops o s T κ).wp K):
  ∃ s' T',(draw=none→Qy P n ops o s s')∧(∀ n0,draw=some n0→C3 P Γ n n0 ops o s=some s')∧(κ s' T').wp K:=by
 unfold MB at h
 split at h
 ·rename_i hw
  have hh:=cond_wp h
  clear h
  rcases hh with ⟨hok,h⟩ | ⟨_,h⟩
  ·have good:Vd P Γ n K o s κ→∃ s' T',(draw=none→Qy P n ops o s s')∧(∀ n0,draw=some n0→C3 P Γ n n0 ops o s=some s')∧(κ s' T').wp K:=by
    rintro ⟨v,B,t',T',g1,g2,g3⟩
    refine ⟨⟨t',B⟩,T',fun _=>⟨Γ,hΓ,?_⟩,fun n0 hn=>?_,g3⟩
    ·unfold Gu
     rw[hw]
     simp only[Option.bind_some,if_true,g1,g2]
     rfl
    ·subst hn
     unfold C3
     rw[hw]
     simp only[Option.bind_some,if_true]
     simp only[kx] at hok
     rw[if_pos hok,g1]
     simp only[Option.bind_some,g2]
     rfl
   split at h
   ·have hh:=cond_wp h
    clear h
    rcases hh with ⟨_,h⟩ | ⟨_,h⟩
    ·obtain ⟨s',T',g1,g2⟩:=Vf hΓ hΔ hw h
     refine ⟨s',T',fun _=>g1,?_,g2⟩
     intro n0 hn
     cases hn
    ·exact good (BX h)
   ·have hh:=cond_wp h
    clear h
    rcases hh with ⟨_,h⟩ | ⟨_,h⟩
    ·obtain ⟨s',T',g1,g2⟩:=Vg hΓ hΔ hw h
     refine ⟨s',T',fun _=>g1,?_,g2⟩
     intro n0 hn
     cases hn
    ·exact good (BX h)
   ·exact good (dl h)
  ·exact h.elim
 ·rename_i hw
  obtain ⟨t',g1,g2⟩:=ZF h
  refine ⟨⟨t',s.B⟩,T,fun _=>⟨Γ,hΓ,?_⟩,fun n0 hn=>?_,g2⟩
  ·unfold Gu
   rw[hw]
   simp only[Option.bind_some,Bool.false_eq_true,if_false,g1]
   rfl
  ·unfold C3
   rw[hw]
   simp only[Option.bind_some,Bool.false_eq_true,if_false,g1]
   rfl
 ·exact h.elim

theorem MC (hΓ:∀ f,SoundF P f (Γ f)) (hΔ:∀ f,SoundR P f (Δ f)) {draw:Option Nat} {ops:List Oper}:∀ (l:List Oper) {s:AS} {T:Tree} {κ:AS→Tree→Tree},(aW P Γ Δ n draw ops l s T κ).wp K →
  ∃ s' T',(draw=none→aX P n ops l s s')∧(∀ n0,draw=some n0→NA P Γ n n0 ops l s=some s')∧(κ s' T').wp K
 | [],s,T,κ,h=>⟨s,T,fun _=>rfl,fun _ _=>rfl,h⟩
 | o::rest,s,T,κ,h=>by
  obtain ⟨s1,T1,g1,g2,g3⟩:=Pj hΓ hΔ h
  obtain ⟨s2,T2,f1,f2,f3⟩:=MC hΓ hΔ rest g3
  refine ⟨s2,T2,fun hn=>⟨s1,g1 hn,f1 hn⟩,fun n0 hn=>?_,f3⟩
  simp only[NA,g2 n0 hn,Option.bind_some,f2 n0 hn]

section
variable {l : List (Nat × Nat × Option (List PV))}

def fB (l:List (Nat×Nat×Option (List PV))) (j:Nat):Nat:=((l[j]?).map fun x=>x.1).getD 0
def dB (l:List (Nat×Nat×Option (List PV))) (j:Nat):Nat:=((l[j]?).map fun x=>x.2.1).getD 0

theorem IV:∀ {l:List (Nat×Nat×Option (List PV))} {b k j d:Nat},NF l b k=some (j,d)→k≤j∧j - k<l.length∧fB l (j - k)=b∧dB l (j - k)=d
 | [],b,k,j,d,h=>by simp[NF] at h
 | (b',d',r)::l,b,k,j,d,h=>by
  unfold NF at h
  cases hb:Nat.beq b' b with
  | true=>
   rw[hb] at h
   cases h
   have:=Nat.eq_of_beq_eq_true hb
   subst this
   simp[fB,dB]
  | false=>
   rw[hb] at h
   obtain ⟨h1,h2,h3,h4⟩:=IV (l:=l) h
   have e:j - k=(j - (k+1))+1:=by omega
   refine ⟨by omega,by simp; omega,?_,?_⟩
   ·rw[e]; simpa [fB] using h3
   ·rw[e]; simpa [dB] using h4

theorem Vh:∀ {x y:AV},x.inv l=some y→x=y.rv (fB l) (dB l)∧y.low l.length=true:=by
 have list:∀ {cs:List AV},(∀ c∈cs,∀ {y:AV},c.inv l=some y→c=y.rv (fB l) (dB l)∧y.low l.length=true)→∀ {ds:List AV},AV.inv.invL l cs=some ds→cs=AV.rv.rvL (fB l) (dB l) ds∧AV.low.allLow l.length ds=true:=by
  intro cs
  induction cs with
  | nil=>intro _ ds h; cases h; exact ⟨rfl,rfl⟩
  | cons c cs ih=>
   intro hc ds h
   simp only[AV.inv.invL] at h
   split at h
   ·rename_i e he
    split at h
    ·rename_i es hes
     cases h
     obtain ⟨h1,h2⟩:=hc c (by simp) he
     obtain ⟨h3,h4⟩:=ih (fun c' hc'=>hc c' (by simp[hc'])) hes
     exact ⟨by rw[AV.rv.rvL,←h1,←h3],by simp[AV.low.allLow,h2,h4]⟩
    ·cases h
   ·cases h
 intro x
 induction x using AV.rec (motive_2:=fun cs=>∀ c∈cs,∀ {y:AV},c.inv l=some y→c=y.rv (fB l) (dB l)∧y.low l.length=true) with
 | u=>intro y h; cases h
 | p x=>intro y h; cases h; exact ⟨rfl,rfl⟩
 | rp cs=>intro y h; cases h; exact ⟨rfl,rfl⟩
 | mp b=>
  intro y h
  simp only[AV.inv] at h
  split at h
  ·rename_i j d hj
   obtain ⟨h1,h2,h3,h4⟩:=IV hj
   simp only[Nat.sub_zero] at h2 h3 h4
   cases h
   exact ⟨by simp only[AV.rv,h3],by simpa [AV.low,Nat.blt_eq] using h2⟩
  ·cases h
 | op b=>
  intro y h
  simp only[AV.inv] at h
  split at h
  ·rename_i j d hj
   obtain ⟨h1,h2,h3,h4⟩:=IV hj
   simp only[Nat.sub_zero] at h2 h3 h4
   cases h
   exact ⟨by simp only[AV.rv,h3],by simpa [AV.low,Nat.blt_eq] using h2⟩
  ·cases h
 | ptr b v o=>
  intro y h
  simp only[AV.inv] at h
  split at h
  ·rename_i j d hj
   obtain ⟨h1,h2,h3,h4⟩:=IV hj
   simp only[Nat.sub_zero] at h2 h3 h4
   cases hd:Nat.ble d v with
   | false=>rw[hd] at h; cases h
   | true=>
    rw[hd] at h
    cases h
    rw[Nat.ble_eq] at hd
    refine ⟨?_,by simpa [AV.low,Nat.blt_eq] using h2⟩
    simp only[AV.rv,h3,h4,AV.ptr.injEq,and_true,true_and]
    omega
  ·cases h
 | rs b v z o len=>
  intro y h
  simp only[AV.inv] at h
  split at h
  ·rename_i j d hj
   obtain ⟨h1,h2,h3,h4⟩:=IV hj
   simp only[Nat.sub_zero] at h2 h3 h4
   cases hd:Nat.ble d v with
   | false=>rw[hd] at h; cases h
   | true=>
    rw[hd] at h
    cases h
    rw[Nat.ble_eq] at hd
    refine ⟨?_,by simpa [AV.low,Nat.blt_eq] using h2⟩
    simp only[AV.rv,h3,h4,AV.rs.injEq,and_true,true_and]
    omega
  ·cases h
 | agg cs ih=>
  intro y h
  simp only[AV.inv] at h
  split at h
  ·rename_i ds hds
   cases h
   obtain ⟨h1,h2⟩:=list ih hds
   exact ⟨by rw[AV.rv,←h1],by simpa [AV.low] using h2⟩
  ·cases h
 | fn g cs ih=>
  intro y h
  simp only[AV.inv] at h
  split at h
  ·rename_i ds hds
   cases h
   obtain ⟨h1,h2⟩:=list ih hds
   exact ⟨by rw[AV.rv,←h1],by simpa [AV.low] using h2⟩
  ·cases h
 | tup cs ih=>
  intro y h
  simp only[AV.inv] at h
  split at h
  ·rename_i ds hds
   cases h
   obtain ⟨h1,h2⟩:=list ih hds
   exact ⟨by rw[AV.rv,←h1],by simpa [AV.low] using h2⟩
  ·cases h
 | nil=>exact absurd ‹_∈([]:List AV)› (List.not_mem_nil)
 | cons c cs h1 h2=>
  rename_i c' hc' y hy
  rcases List.mem_cons.1 hc' with rfl | hc'
  ·exact h1 hy
  ·exact h2 _ hc' hy

theorem NM:∀ {cs ds:List AV},AV.inv.invL l cs=some ds→cs.length=ds.length∧∀ (i:Nat) (c c':AV),cs[i]? = some c→ds[i]? = some c'→c=c'.rv (fB l) (dB l)∧c'.low l.length=true
 | [],ds,h=>by cases h; exact ⟨rfl,fun i c c' h=>by simp at h⟩
 | c::cs,ds,h=>by
  simp only[AV.inv.invL] at h
  split at h
  ·rename_i e he
   split at h
   ·rename_i es hes
    cases h
    obtain ⟨g1,g2⟩:=NM hes
    refine ⟨by simp[g1],fun i x y hx hy=>?_⟩
    cases i with
    | zero=>cases hx; cases hy; exact Vh he
    | succ i=>exact g2 i x y (by simpa using hx) (by simpa using hy)
   ·cases h
  ·cases h

theorem MD (xs:List PV) (i:Nat) (c:AV) (h:(rowC xs)[i]? = some c) (f d:Nat→Nat) (m:Nat):c=c.rv f d∧c.low m=true:=by
 unfold rowC at h
 rw[List.getElem?_map] at h
 cases hx:(xs.flatMap PV.cells)[i]? with
 | none=>rw[hx] at h; cases h
 | some x=>rw[hx] at h; cases h; exact ⟨rfl,rfl⟩

theorem GP {B:List Box}:∀ {r:List (Nat×Nat×Option (List PV))} {olds:List (List AV)} {Bs:List Box},GU l B r=some (olds,Bs)→olds=(r.filterMap fun b=>b.2.2.map rowC) →
  Bs.length=r.length∧(∀ (j:Nat) (row:Bool) (v:Nat) (cs':List AV),Bs[j]? = some (.cells row v cs')→∃ x,r[j]? = some x∧∃ cs:List AV,B[x.1]? = some (.cells row (v+x.2.1) cs)∧cs.length=cs'.length ∧
   ∀ (i:Nat) (c c':AV),cs[i]? = some c→cs'[i]? = some c'→c=c'.rv (fB l) (dB l)∧c'.low l.length=true) ∧
   ∀ (j:Nat) (cs':List AV) (Φ:ObjP),Bs[j]? = some (.obj cs' Φ)→∃ x,r[j]? = some x∧∃ cs:List AV,B[x.1]? = some (.obj cs Φ)∧cs.length=cs'.length ∧
   ∀ (i:Nat) (c c':AV),cs[i]? = some c→cs'[i]? = some c'→c=c'.rv (fB l) (dB l)∧c'.low l.length=true
 | [],olds,Bs,h,_=>by cases h; exact ⟨rfl,fun j row v cs' h=>by simp at h,fun j cs' Φ h=>by simp at h⟩
 | (b,d,x)::r,olds,Bs,h,ho=>by
  simp only[GU] at h
  split at h
  ·rename_i row v cs hb
   cases hd:Nat.ble d v with
   | false=>rw[hd] at h; cases h
   | true=>
    rw[hd] at h
    rw[Nat.ble_eq] at hd
    simp only[cond_true] at h
    split at h
    ·rename_i olds1 Bs1 h1
     split at h
     ·rename_i xs
      cases h
      simp only[List.filterMap_cons,Option.map_some,List.cons.injEq] at ho
      obtain ⟨rfl,ho⟩:=ho
      obtain ⟨g1,g2,g3⟩:=GP h1 ho
      refine ⟨by simp[g1],fun j row' v' cs' hj=>?_,fun j cs' Φ hj=>by
       cases j with
       | zero=>simp at hj
       | succ j=>exact g3 j cs' Φ (by simpa using hj)⟩
      cases j with
      | zero=>
       simp only[List.getElem?_cons_zero,Option.some.injEq,Box.cells.injEq] at hj
       obtain ⟨rfl,rfl,rfl⟩:=hj
       refine ⟨_,rfl,rowC xs,?_,rfl,fun i c c' hc hc'=>?_⟩
       ·dsimp only
        rw[show v - d+d=v by omega]
        exact hb
       ·rw[hc] at hc'
        cases hc'
        exact MD xs i c hc _ _ _
      | succ j=>exact g2 j row' v' cs' (by simpa using hj)
     ·split at h
      ·rename_i ds hds
       cases h
       simp only[List.filterMap_cons,Option.map_none] at ho
       obtain ⟨g1,g2,g3⟩:=GP h1 ho
       refine ⟨by simp[g1],fun j row' v' cs' hj=>?_,fun j cs' Φ hj=>by
        cases j with
        | zero=>simp at hj
        | succ j=>exact g3 j cs' Φ (by simpa using hj)⟩
       cases j with
       | zero=>
        simp only[List.getElem?_cons_zero,Option.some.injEq,Box.cells.injEq] at hj
        obtain ⟨rfl,rfl,rfl⟩:=hj
        obtain ⟨f1,f2⟩:=NM hds
        refine ⟨_,rfl,cs,?_,f1,f2⟩
        dsimp only
        rw[show v - d+d=v by omega]
        exact hb
       | succ j=>exact g2 j row' v' cs' (by simpa using hj)
      ·cases h
    ·cases h
  ·rename_i cs Φ hb
   split at h
   ·rename_i olds1 Bs1 ds h1 hds
    cases h
    simp only[List.filterMap_cons,Option.map_none] at ho
    obtain ⟨g1,g2,g3⟩:=GP h1 ho
    refine ⟨by simp[g1],fun j row' v' cs' hj=>?_,fun j cs' Φ' hj=>?_⟩
    ·cases j with
     | zero=>simp at hj
     | succ j=>exact g2 j row' v' cs' (by simpa using hj)
    ·cases j with
     | zero=>
      simp only[List.getElem?_cons_zero,Option.some.injEq,Box.obj.injEq] at hj
      obtain ⟨rfl,rfl⟩:=hj
      obtain ⟨f1,f2⟩:=NM hds
      exact ⟨_,rfl,cs,hb,f1,f2⟩
     | succ j=>exact g3 j cs' Φ' (by simpa using hj)
   ·cases h
  ·cases h

theorem Pk:∀ {l:List (Nat×Nat×Option (List PV))},NG l=true→∀ i j,i<l.length→j<l.length→fB l i=fB l j→i=j
 | [],_,i,_,h,_,_=>by simp at h
 | x::r,hd,i,j,hi,hj,e=>by
  simp only[NG,Bool.and_eq_true,Bool.not_eq_true',List.any_eq_false] at hd
  have at0:∀ k,k<r.length→fB (x::r) (k+1)≠x.1:=fun k hk he=>by
   have:fB (x::r) (k+1)=r[k].1:=by simp[fB,hk]
   rw[this] at he
   exact hd.1 r[k] (List.getElem_mem hk) (by rw[he]; exact Nat.beq_refl _)
  have hz:fB (x::r) 0=x.1:=rfl
  cases i with
  | zero=>
   cases j with
   | zero=>rfl
   | succ j=>exact (at0 j (by simpa using hj) (by rw[←e,hz])).elim
  | succ i=>
   cases j with
   | zero=>exact (at0 i (by simpa using hi) (by rw[e,hz])).elim
   | succ j=>
    have h1:fB (x::r) (i+1)=fB r i:=by simp[fB]
    have h2:fB (x::r) (j+1)=fB r j:=by simp[fB]
    have:=Pk hd.2 i j (by simpa using hi) (by simpa using hj) (by rw[←h1,←h2]; exact e)
    omega

theorem Pm {m0:Nat}:∀ {l:List (Nat×Nat×Option (List PV))} {k:Nat},NH m0 k l=true→∀ j,k+j<m0→j<l.length→fB l j=k+j∧dB l j=0
 | [],_,_,j,_,h=>by simp at h
 | x::r,k,hs,j,hm,hj=>by
  simp only[NH,Bool.and_eq_true,Bool.or_eq_true,Nat.ble_eq] at hs
  cases j with
  | zero=>
   rcases hs.1 with h | h
   ·omega
   ·exact ⟨Nat.eq_of_beq_eq_true h.1,Nat.eq_of_beq_eq_true h.2⟩
  | succ j=>
   obtain ⟨h1,h2⟩:=Pm hs.2 j (by omega) (by simpa using hj)
   refine ⟨?_,?_⟩
   ·rw[show k+(j+1)=k+1+j by omega,←h1]; simp[fB]
   ·rw[←h2]; simp[dB]
end

theorem ME {W:Wd} {s:AS} {olds:List (List AV)} {c:St} (h:OZ m0 W s=some (olds,c)) (ho:B9 W olds):
  Wk s c.as (fB W.boxes) (dB W.boxes)∧(∀ j,j<m0→fB W.boxes j=j∧dB W.boxes j=0)∧m0≤c.as.B.length:=by
 unfold OZ at h
 cases hc:NG W.boxes&&NH m0 0 W.boxes&&Nat.ble m0 W.boxes.length with
 | false=>rw[hc] at h; cases h
 | true=>
  rw[hc] at h
  simp only[cond_true] at h
  simp only[Bool.and_eq_true,Nat.ble_eq] at hc
  obtain ⟨⟨g1,g2⟩,g3⟩:=hc
  split at h
  ·rename_i olds1 Bs hB
   cases h
   obtain ⟨q1,q2,q3⟩:=GP hB ho
   have hlen:(St.as (W.slots.map fun i=>(i,OY W.boxes (s.t i)),Bs)).B.length=W.boxes.length:=q1
   have hfx:∀ (j:Nat) x,W.boxes[j]? = some x→fB W.boxes j=x.1∧dB W.boxes j=x.2.1:=fun j x hx=>by simp[fB,dB,hx]
   have hbox:∀ (j:Nat) (row:Bool) (v:Nat) (cs':List AV),Bs[j]? = some (.cells row v cs')→∃ cs:List AV,s.B[fB W.boxes j]? = some (.cells row (v+dB W.boxes j) cs)∧cs.length=cs'.length ∧
     ∀ (i:Nat) (c c':AV),cs[i]? = some c→cs'[i]? = some c'→c=c'.rv (fB W.boxes) (dB W.boxes)∧c'.low W.boxes.length=true:=by
    intro j row v cs' hj
    obtain ⟨x,hx,cs,e1,e2,e3⟩:=q2 j row v cs' hj
    rw[(hfx j x hx).1,(hfx j x hx).2]
    exact ⟨cs,e1,e2,e3⟩
   refine ⟨⟨fun i=>?_,fun j hj=>?_,fun j row v cs' hj=>?_,fun i j hi hj e=>Pk g1 i j (by omega) (by omega) e,fun j cs' Φ hj=>?_⟩,fun j hj=>?_,by omega⟩
   ·rcases tk_get (W.slots.map fun i=>(i,OY W.boxes (s.t i))) i with h | ⟨j,v,hj,hv⟩
    ·exact .inl h
    ·rw[List.getElem?_map] at hj
     cases hs:W.slots[j]? with
     | none=>rw[hs] at hj; cases hj
     | some i'=>
      rw[hs] at hj
      simp only[Option.map_some,Option.some.injEq,Prod.mk.injEq] at hj
      obtain ⟨rfl,rfl⟩:=hj
      show tk _ i'= .u∨_=AV.rv _ _ (tk _ i')∧AV.low _ (tk _ i')=true
      rw[hv]
      unfold OY
      split
      ·rename_i y hy
       have:=Vh hy
       rw[←q1] at this
       exact .inr this
      ·exact .inl rfl
   ·have hj':j<W.boxes.length:=by omega
    -- the box is there
    have:∀ {r:List (Nat×Nat×Option (List PV))} {olds:List (List AV)} {Bs:List Box},GU W.boxes s.B r=some (olds,Bs)→∀ (j:Nat) (x:Nat×Nat×Option (List PV)),r[j]? = some x→x.1<s.B.length:=by
     intro r
     induction r with
     | nil=>intro _ _ _ j x hx; simp at hx
     | cons y r ih=>
      intro olds Bs h j x hx
      obtain ⟨b,d,z⟩:=y
      simp only[GU] at h
      split at h
      ·rename_i row v cs hb
       cases j with
       | zero=>cases hx; exact (List.getElem?_eq_some_iff.1 hb).1
       | succ j=>
        cases hd:Nat.ble d v with
        | false=>rw[hd] at h; cases h
        | true=>
         rw[hd] at h
         simp only[cond_true] at h
         split at h
         ·rename_i o1 B1 h1
          exact ih h1 j x (by simpa using hx)
         ·cases h
      ·rename_i cs Φ hb
       cases j with
       | zero=>cases hx; exact (List.getElem?_eq_some_iff.1 hb).1
       | succ j=>
        split at h
        ·rename_i o1 B1 ds h1 hds
         exact ih h1 j x (by simpa using hx)
        ·cases h
      ·cases h
    have hx:W.boxes[j]? = some W.boxes[j]:=List.getElem?_eq_getElem hj'
    rw[(hfx j _ hx).1]
    exact this hB j _ hx
   ·rw[hlen]; exact hbox j row v cs' hj
   ·rw[hlen]
    obtain ⟨x,hx,cs,e1,e2,e3⟩:=q3 j cs' Φ hj
    rw[(hfx j x hx).1]
    exact ⟨cs,e1,e2,e3⟩
   ·obtain ⟨e1,e2⟩:=Pm g2 j (by omega) (by omega)
    exact ⟨by omega,e2⟩
  ·cases h

end Go.Ax
namespace Go.Ax
open Go.RowKit

variable [Glob] {P : Program} {F : Nat → Prop}

def EN (t:T):Op→Option Nat
 | .call c=>match c.callee with
  | .value f=>match AR t f with
   | .fn g _=>some g
   | _=>none
  | _=>none
 | _=>none

theorem dm {Γ1 Γ2:BF} {t:T} {B:List Box} {op:Op} (h:∀ g,EN t op=some g→Γ1 g=Γ2 g):CH P Γ1 t B op=CH P Γ2 t B op:=by
 cases op with
 | call c=>
  simp only[CH,E4]
  simp only[EN] at h
  split
  ·rfl
  ·rename_i f hf
   rw[hf] at h
   dsimp only at h
   split
   ·rename_i g cap hg
    rw[hg] at h
    rw[h g rfl]
   ·rfl
  all_goals rfl
 | makeFunc fn first cap=>cases fn <;> rfl
 | slice t x lo hi mx=>cases mx <;> rfl
 | makeMap t r=>cases r <;> rfl
 | _=>rfl

theorem Hs {Γ1 Γ2:BF} (h:∀ f,FG (Γ1 f)=FG (Γ2 f)) (ops:List Oper) (op:Op):clsOf P Γ1 ops op=clsOf P Γ2 ops op:=by
 cases op <;> simp only[clsOf,h]

theorem Ix {Γ:BF} {t:T} {op:Op} {g:Nat} (h:EN t op=some g) (hp:FG (Γ g)=false) (ops:List Oper):clsOf P Γ ops op= .wo:=by
 cases op with
 | call c=>
  simp only[EN] at h
  split at h
  ·rename_i f hf
   simp only[clsOf]
   rw[hf]
   split at h
   ·rename_i g' cap hg
    cases h
    split
    all_goals first | rfl | (rename_i he; cases he) | skip
    all_goals simp_all [AR]
   ·cases h
  ·cases h
 | _=>cases h

def Over (Γ Γ':BF):Prop:=∀ f,Γ' f=Γ f∨(Γ f= .none∧FG (Γ' f)=false)
theorem Over.pure {Γ Γ':BF} (h:Over Γ Γ') (f:Nat):FG (Γ' f)=FG (Γ f):=by
 rcases h f with h | ⟨h1,h2⟩
 ·rw[h]
 ·rw[h1,h2]; rfl

theorem Pn {Γ1 Γ2:BF} {n n0:Nat} {ops:List Oper} {o:Oper} {s:AS} (h1:∀ f,FG (Γ1 f)=FG (Γ2 f)) (h2:∀ g,EN s.t o.op=some g→Γ1 g=Γ2 g):C3 P Γ1 n n0 ops o s=C3 P Γ2 n n0 ops o s:=by
 unfold C3
 rw[Hs h1,dm h2]

def KJ (P:Program) (Γ:BF) (n n0:Nat) (ops:List Oper) (o:Oper) (s s':AS):Prop:=∃ Γ':BF,(∀ f,SoundF P f (Γ' f))∧Over Γ Γ'∧C3 P Γ' n n0 ops o s=some s'

theorem tL {Γ:BF} {n n0:Nat} {ops:List Oper} {oi oj:Oper} {s s1 s2:AS} (hap:oi.apart ops.toArray oj=true) (hcl:(clsOf P Γ ops oi.op).clash (clsOf P Γ ops oj.op)=false)
  (h1:KJ P Γ n n0 ops oi s s1) (h2:KJ P Γ n n0 ops oj s1 s2):∃ s1',KJ P Γ n n0 ops oj s s1'∧KJ P Γ n n0 ops oi s1' s2:=by
 obtain ⟨Γi,ok1,ov1,d1⟩:=h1
 obtain ⟨Γj,ok2,ov2,d2⟩:=h2
 have hok:∀ f,SoundF P f ((fun f=>if EN s.t oi.op=some f then Γi f else Γj f:BF) f):=fun f=>by
  dsimp only
  split
  ·exact ok1 f
  ·exact ok2 f
 have hov:Over Γ (fun f=>if EN s.t oi.op=some f then Γi f else Γj f:BF):=fun f=>by
  dsimp only
  split
  ·exact ov1 f
  ·exact ov2 f
 have e1:C3 P (fun f=>if EN s.t oi.op=some f then Γi f else Γj f:BF) n n0 ops oi s=some s1:=by
  rw[Pn (Γ2:=Γi) (fun f=>(hov.pure f).trans (ov1.pure f).symm) (fun g hg=>by rw[if_pos hg])]
  exact d1
 have e2:C3 P (fun f=>if EN s.t oi.op=some f then Γi f else Γj f:BF) n n0 ops oj s1=some s2:=by
  rw[Pn (Γ2:=Γj) (fun f=>(hov.pure f).trans (ov2.pure f).symm) (fun g hg=>?_)]
  ·exact d2
  ·by_cases hi:EN s.t oi.op=some g
   ·rw[if_pos hi]
    rcases ov1 g with a | ⟨a,a'⟩
    ·rcases ov2 g with b | ⟨b,b'⟩
     ·rw[a,b]
     ·have hp:FG (Γ g)=false:=by rw[b]; rfl
      rw[Ix hi hp,Ix hg hp] at hcl
      cases hcl
    ·have hp:FG (Γ g)=false:=by rw[a]; rfl
     rw[Ix hi hp,Ix hg hp] at hcl
     cases hcl
   ·rw[if_neg hi]
 have hcl2:(clsOf P (fun f=>if EN s.t oi.op=some f then Γi f else Γj f:BF) ops oi.op).clash (clsOf P (fun f=>if EN s.t oi.op=some f then Γi f else Γj f:BF) ops oj.op)=false:=by
  rw[Hs (fun f=>hov.pure f),Hs (fun f=>hov.pure f)]
  exact hcl
 obtain ⟨s1',q1,q2⟩:=swap hap hcl2 e1 e2
 exact ⟨s1',⟨_,hok,hov,q1⟩,⟨_,hok,hov,q2⟩⟩

def SR (P:Program) (Γ:BF) (n n0:Nat) (ops:List Oper) (Fin:AS→Prop):Nat→Array Bool→AS→Prop
 | 0,L,s=>Region.ready .any ops.toArray L= []∧Fin s
 | f+1,L,s=>(Region.ready .any ops.toArray L= []→Fin s) ∧
  ∀ i∈Region.ready .any ops.toArray L,∃ oi s1,ops[i]? = some oi∧KJ P Γ n n0 ops oi s s1∧SR P Γ n n0 ops Fin f (L.setIfInBounds i true) s1

theorem aY {Γ:BF} {n n0:Nat} {ops:List Oper} {Fin:AS→Prop} {i:Nat} {oi:Oper} (hi:ops[i]? = some oi):
  ∀ (fuel:Nat) (L:Array Bool) (s s1:AS),(∀ j oj,ops[j]? = some oj→j≠i→L.getD j true=false→Iu ops 24 j i=true∨(oi.apart ops.toArray oj=true∧(clsOf P Γ ops oi.op).clash (clsOf P Γ ops oj.op)=false)) →
   Jh ops L→i∈Region.ready .any ops.toArray L→KJ P Γ n n0 ops oi s s1 →
   SR P Γ n n0 ops Fin fuel (L.setIfInBounds i true) s1→SR P Γ n n0 ops Fin (fuel+1) L s:=by
 intro fuel
 induction fuel with
 | zero=>
  intro L s s1 hfree hc hr hs H
  refine ⟨fun h=>(by rw[h] at hr; cases hr),fun j hj=>?_⟩
  by_cases hji:j=i
  ·subst hji; exact ⟨oi,s1,hi,hs,H⟩
  ·have:=ready_mono hj hji
   rw[H.1] at this
   cases this
 | succ fuel ih=>
  intro L s s1 hfree hc hr hs H
  refine ⟨fun h=>(by rw[h] at hr; cases hr),fun j hj=>?_⟩
  by_cases hji:j=i
  ·subst hji; exact ⟨oi,s1,hi,hs,H⟩
  ·obtain ⟨oj,s2,hoj,hs2,H2⟩:=H.2 j (ready_mono hj hji)
   have hjl:L.getD j true=false:=(mem_ready.1 hj).1
   have hil:L.getD i true=false:=(mem_ready.1 hr).1
   obtain ⟨oj',hoj',hall⟩:=Ku hj
   rw[hoj] at hoj'
   cases hoj'
   rcases hfree j oj hoj hji hjl with hre | ⟨hap,hcl⟩
   ·have:=Ji hc 24 j hre (fun oj' hoj'=>by rw[hoj] at hoj'; cases hoj'; exact hall)
    rw[Iw hil] at this
    cases this
   ·obtain ⟨s1',e1,e2⟩:=tL hap hcl hs hs2
    refine ⟨oj,s1',hoj,e1,ih (L.setIfInBounds j true) s1' s2 (fun k ok hok hki hkl=>hfree k ok hok hki ?_) (Gy hc hj) (ready_mono hr (Ne.symm hji)) e2 ?_⟩
    ·by_cases hkj:k=j
     ·rw[hkj]; exact hjl
     ·rwa[getD_set_ne true (Ne.symm hkj)] at hkl
    ·rw[Array.setIfInBounds_comm _ _ hji]
     exact H2

theorem Q0 {Γ:BF} {n n0:Nat} {ops:List Oper} {Fin:AS→Prop} {Q:Exit→Act→World→Prop}:∀ (fuel:Nat) (L:Array Bool) (s:AS),SR P Γ n n0 ops Fin fuel L s→∀ {ρ:Aj} {w:World} {a:Act},Rel F s.B ρ w n s.t a →
  (∀ fin a' w' ρ',Fin fin→Rel F fin.B ρ' w' n fin.t a'→Ext F s.B ρ w fin.B ρ' w'→Q .normal a' w')→wpAny P .any ops.toArray Q fuel L a w
 | 0,L,s,h,ρ,w,a,hR,hQ=>by
  obtain ⟨h1,h2⟩:=h
  exact ⟨h1,hQ s a w ρ h2 hR (.refl _ _ _)⟩
 | fuel+1,L,s,h,ρ,w,a,hR,hQ=>by
  refine ⟨fun h0=>hQ s a w ρ (h.1 h0) hR (.refl _ _ _),fun i hi=>?_⟩
  obtain ⟨oi,s1,hoi,⟨Γ',hΓ',_,hs⟩,H⟩:=h.2 i hi
  unfold wpOp
  have:ops.toArray[i]? = some oi:=by simpa using hoi
  rw[this]
  simp only
  have hst:=L8 hΓ' (Qu hs) hR (K:=wpAny P .any ops.toArray Q fuel (L.setIfInBounds i true)) (Q:=Q) (fun a' w' ρ' hR' hE=>Q0 fuel _ s1 H hR' (fun fin a2 w2 ρ2 hF hR2 hE2=>hQ fin a2 w2 ρ2 hF hR2 (hE.trans hE2)))
  split
  ·rename_i hw; rw[if_pos hw] at hst; exact .inl hst
  ·rename_i hw; rw[if_neg hw] at hst; exact hst

theorem Tri.regionX {Γ:BF} {m0:Nat} {s:AS} {K:AE→AS→Prop} (hm:P.follows .mixedOrders=true) {id n n0:Nat} {ops:Array Oper} (h:SR P Γ n n0 ops.toList (K .normal) ops.size (Array.replicate ops.size false) s):Tri P n m0 false (.region id ops true) s K:=by
 intro F B0 ρ0 w0 h0 ρ w a hR hE Q hQ
 refine wp_region_any hm ?_
 obtain ⟨hR2,hE2⟩:=VZ hR (w.drawn+1)
 have:=Q0 (Q:=Q) _ _ s h hR2 (fun fin a' w' ρ' hk h1 h2=>hQ .normal fin a' w' ρ' hk h1 ((hE.trans hE2).trans h2))
 simpa using this

end Go.Ax
namespace Go.Ax
open Go.RowKit

variable [Glob] {P : Program} {Γ : BF} {Δ : CB} {n m0 : Nat} {K : AE → St → Prop}

theorem l8 {s:AS} {i sz:Nat} {κ:AS→Tree} (h:(iE s i sz κ).wp K):s.t i=AI∧(κ ⟨Ff s.t i (.rs s.B.length 0 sz 0 0),s.B++ [.cells true 0 []]⟩).wp K:=by
 unfold iE at h
 split at h
 ·rename_i hs; exact ⟨hs,h⟩
 ·exact h.elim

theorem dp {s:AS} {i:Nat} {κ:AS→Tree} (h:(Vc s i κ).wp K):s.t i=AI∧(κ ⟨Ff s.t i (.p (.ls [])),s.B⟩).wp K:=by
 unfold Vc at h
 split at h
 ·rename_i hs; exact ⟨hs,h⟩
 ·exact h.elim

theorem YH {s:AS} {b i sz:Nat} {κ:AS→Tree} (h:(QF s b i sz κ).wp K):∃ row v cs,s.B[b]? = some (.cells row v cs)∧cs[i]? = some AI∧(κ ⟨s.t,(s.B++ [Box.cells true 0 []]).set b (Box.cells row v (cs.set i (.rs s.B.length 0 sz 0 0)))⟩).wp K:=by
 unfold QF at h
 split at h
 ·rename_i row v cs hs
  split at h
  ·rename_i hc; exact ⟨row,v,cs,hs,hc,h⟩
  ·exact h.elim
 ·exact h.elim

theorem oh {s:AS} {i:Nat} {κ:AS→Tree} (h:(og s i κ).wp K):∃ b v sz len cs,s.t i= .rs b v sz 0 len∧s.B[b]? = some (.cells true v cs)∧(κ ⟨Ff s.t i (.rs s.B.length 0 sz 0 len),s.B.set b (.cells true (v+1) [])++ [.cells true 0 cs]⟩).wp K:=by
 unfold og at h
 split at h
 ·rename_i b ver sz off len hs
  split at h
  ·rename_i v cs hc
   cases hq:Nat.beq v ver&&Nat.beq off 0 with
   | false=>rw[hq] at h; exact h.elim
   | true=>
    rw[hq] at h
    rw[Bool.and_eq_true] at hq
    have e1:=Nat.eq_of_beq_eq_true hq.1
    have e2:=Nat.eq_of_beq_eq_true hq.2
    subst e1 e2
    exact ⟨b,v,sz,len,cs,hs,hc,h⟩
  ·exact h.elim
 ·exact h.elim

theorem Vi {t:T} {op:Op} (h:SP Γ t op=true):∃ c f g cap,op= .call c∧c.callee= .value f∧AR t f= .fn g cap∧Γ g= .none:=by
 unfold SP at h
 split at h
 ·rename_i c
  split at h
  ·rename_i f hf
   split at h
   ·rename_i g cap hg
    split at h
    ·rename_i hn
     exact ⟨c,f,g,cap,rfl,hf,hg,hn⟩
    ·cases h
   ·cases h
  ·cases h
 ·cases h

theorem NN (hΓ:∀ f,SoundF P f (Γ f)) (hΔ:∀ f,SoundR P f (Δ f)) {n0:Nat} {ops:List Oper} {o:Oper} {s:AS} {T:Tree} {κ:AS→Tree→Tree} (h:(Qv P Γ Δ n n0 ops o s T κ).wp K):
  ∃ s' T',KJ P Γ n n0 ops o s s'∧(κ s' T').wp K:=by
 have plain:∀ {T:Tree},(MB P Γ Δ n (some n0) ops o s T κ).wp K→∃ s' T',KJ P Γ n n0 ops o s s'∧(κ s' T').wp K:=fun h=>by
  obtain ⟨s',T',_,g2,g3⟩:=Pj hΓ hΔ h
  exact ⟨s',T',⟨Γ,hΓ,fun f=> .inl rfl,g2 n0 rfl⟩,g3⟩
 unfold Qv at h
 split at h
 ·rename_i d q v B k
  split at h
  ·rename_i hw
   have hh:=cond_wp h
   clear h
   rcases hh with ⟨hb,h⟩ | ⟨_,h⟩
   ·simp only[Bool.and_eq_true] at hb
    obtain ⟨⟨_,hok⟩,hn⟩:=hb
    obtain ⟨c,f,g,cap,hop,hf,hg,hnone⟩:=Vi hn
    unfold NK at h
    rw[hop] at h
    simp only[hf,hg] at h
    obtain ⟨hp,h⟩:=h
    have hrun:CH P (overΓ Γ g (c.args.toList.map (AR s.t)++cap) s.B v B) s.t s.B o.op=some (v,B):=by
     rw[hop]
     simp only[CH,E4,hf,hg,overΓ,if_true,FSpec.run,and_self]
    obtain ⟨v1,B1,t',T',g1,g2,g3⟩:=Bt (P:=P) hrun h
    have hov:Over Γ (overΓ Γ g (c.args.toList.map (AR s.t)++cap) s.B v B):=fun f'=>by
     unfold overΓ
     by_cases e:f'=g
     ·rw[if_pos e,e]
      exact .inr ⟨hnone,rfl⟩
     ·rw[if_neg e]
      exact .inl rfl
    refine ⟨⟨t',B1⟩,T',⟨_,overΓ_ok hΓ hΔ hp,hov,?_⟩,g3⟩
    unfold C3
    rw[hw]
    simp only[Option.bind_some,if_true]
    simp only[kx] at hok
    rw[Hs (fun f=>hov.pure f),if_pos hok,g1]
    simp only[Option.bind_some,g2]
    rfl
   ·exact plain h
  ·exact plain h
 ·exact plain h

theorem Q1 {ops:List Oper} {L:Array Bool} {i:Nat} {oi:Oper}:∀ (l:List Oper) (k:Nat),(∀ q,l[q]? = ops[k+q]?)→Ul P Γ ops L i oi k l=true→∀ j oj,ops[j]? = some oj→k≤j→j≠i→L.getD j true=false →
  Iu ops 24 j i=true∨(oi.apart ops.toArray oj=true∧(clsOf P Γ ops oi.op).clash (clsOf P Γ ops oj.op)=false)
 | [],k,hl,_,j,oj,hoj,hk,_,_=>by
  have:=hl (j - k)
  rw[show k+(j - k)=j by omega,hoj] at this
  simp at this
 | o::l,k,hl,h,j,oj,hoj,hk,hji,hjl=>by
  simp only[Ul,Bool.and_eq_true] at h
  obtain ⟨h1,h2⟩:=h
  rcases Nat.lt_or_ge k j with hlt | hge
  ·exact Q1 l (k+1) (fun q=>by have:=hl (q+1); rw[show k+1+q=k+(q+1) by omega,←this]; rfl) h2 j oj hoj hlt hji hjl
  ·have:j=k:=by omega
   subst this
   have h0:=hl 0
   simp only[Nat.add_zero,List.getElem?_cons_zero] at h0
   rw[hoj] at h0
   cases h0
   simp only[Bool.or_eq_true,Bool.and_eq_true,Bool.not_eq_true'] at h1
   rcases h1 with ((h1 | h1) | h1) | h1
   ·exact absurd (Nat.eq_of_beq_eq_true h1) hji
   ·rw[hjl] at h1; cases h1
   ·exact .inl h1
   ·exact .inr h1

theorem Vj {body:Nat→Tree→Tree}:∀ {r:List Nat} {T:Tree},(Um body r T).wp K→∀ i∈r,∃ T',(body i T').wp K
 | [],_,h,i,hi=>by simp at hi
 | x::r,T,h,i,hi=>by
  unfold Um at h
  split at h
  ·rcases List.mem_cons.mp hi with rfl | hi
   ·exact ⟨T,h⟩
   ·simp at hi
  ·split at h
   ·obtain ⟨h1,h2⟩:=h
    rcases List.mem_cons.mp hi with rfl | hi
    ·exact ⟨_,h1⟩
    ·exact Vj h2 i hi
   ·exact h.elim

theorem Iy (hΓ:∀ f,SoundF P f (Γ f)) (hΔ:∀ f,SoundR P f (Δ f)) {n0:Nat} {ops:List Oper} {κ:AS→Tree→Tree}:∀ (f:Nat) {L:Array Bool} {s:AS} {T:Tree},Jh ops L→(QE P Γ Δ n n0 ops κ f L s T).wp K →
  SR P Γ n n0 ops (fun s'=>∃ T',(κ s' T').wp K) f L s
 | 0,L,s,T,hc,h=>by
  unfold QE at h
  split at h
  ·rename_i hr; exact ⟨hr,T,h⟩
  ·exact h.elim
 | f+1,L,s,T,hc,h=>by
  unfold QE at h
  split at h
  ·rename_i hr
   exact ⟨fun _=>⟨T,h⟩,fun i hi=>by rw[hr] at hi; simp at hi⟩
  ·rename_i r hne
   split at h
   ·rename_i i hf
    have hmem:=List.mem_of_find?_eq_some hf
    have hfr:=List.find?_some hf
    split at h
    ·rename_i o ho
     obtain ⟨s1,T1,g1,g2⟩:=NN hΓ hΔ h
     unfold ky at hfr
     rw[ho] at hfr
     exact aY ho f L s s1 (fun j oj hoj hji hjl=>Q1 ops 0 (fun q=>by rw[Nat.zero_add]) hfr j oj hoj (Nat.zero_le _) hji hjl) hc hmem g1 (Iy hΓ hΔ f (Gy hc hmem) g2)
    ·exact h.elim
   ·refine ⟨fun h0=>absurd h0 (fun e=>?_),fun i hi=>?_⟩
    ·exact hne e
    ·obtain ⟨T',h'⟩:=Vj h i hi
     split at h'
     ·rename_i o ho
      obtain ⟨s1,T1,g1,g2⟩:=NN hΓ hΔ h'
      exact ⟨o,s1,ho,g1,Iy hΓ hΔ f (Gy hc hi) g2⟩
     ·exact h'.elim

theorem Vk {α:Type} {r:Nat} {s:AS} {b2 i:Nat} {E:Enc α} {L:List α} {κ:AS→Tree} (h:(KG r s b2 i E L κ).wp K):
  ∃ b v v2 cs cs2,s.B[b2]? = some (.cells false v2 cs2)∧cs2[i]? = some (.rs b v E.sz 0 L.length)∧s.B[b]? = some (.cells true v cs)∧cs=rowC (L.map E.f)∧(κ ⟨s.t,(s.B.set b Box.dead).set b2 (Box.cells false v2 (cs2.set i (vl (L.map E.f))))⟩).wp K:=by
 unfold KG at h
 split at h
 ·rename_i v2 cs2 h1
  split at h
  ·rename_i b v sz off len h2
   split at h
   ·rename_i v' cs h3
    cases hb:(Nat.beq v v'&&Nat.beq sz E.sz&&Nat.beq off 0) with
    | false=>rw[hb] at h; exact h.elim
    | true=>
     rw[hb] at h
     simp only[Bool.and_eq_true] at hb
     obtain ⟨⟨e1,e2⟩,e3⟩:=hb
     have e1:=Nat.eq_of_beq_eq_true e1
     have e2:=Nat.eq_of_beq_eq_true e2
     have e3:=Nat.eq_of_beq_eq_true e3
     subst e1 e2 e3
     obtain ⟨g1,g2,g3⟩:=h
     subst g2
     exact ⟨b,v,v2,cs,cs2,h1,h2,h3,g1,g3⟩
   ·exact h.elim
  ·exact h.elim
 ·exact h.elim

theorem Vl {α:Type} {r:Nat} {s:AS} {i:Nat} {E:Enc α} {L:List α} {κ:AS→Tree} (h:(KH r s i E L κ).wp K):
  ∃ b v cs,s.t i= .rs b v E.sz 0 L.length∧s.B[b]? = some (.cells true v cs)∧cs=rowC (L.map E.f)∧(κ ⟨Ff s.t i (vl (L.map E.f)),s.B.set b Box.dead⟩).wp K:=by
 unfold KH at h
 split at h
 ·rename_i b v sz off len h2
  split at h
  ·rename_i v' cs h3
   cases hb:(Nat.beq v v'&&Nat.beq sz E.sz&&Nat.beq off 0) with
   | false=>rw[hb] at h; exact h.elim
   | true=>
    rw[hb] at h
    simp only[Bool.and_eq_true] at hb
    obtain ⟨⟨e1,e2⟩,e3⟩:=hb
    have e1:=Nat.eq_of_beq_eq_true e1
    have e2:=Nat.eq_of_beq_eq_true e2
    have e3:=Nat.eq_of_beq_eq_true e3
    subst e1 e2 e3
    obtain ⟨g1,g2,g3⟩:=h
    subst g2
    exact ⟨b,v,cs,h2,h3,g1,g3⟩
  ·exact h.elim
 ·exact h.elim

theorem Th {id:Nat} {s:AS} {T:Tree} {κ:AS→Tree→Tree} {q:Bool} {c:Code} {K':AE→AS→Prop} (h:(Un id s T κ).wp K) (hk:∀ s' T',(κ s' T').wp K→Tri P n m0 q c s' K'):Tri P n m0 q c s K':=by
 unfold Un at h
 split at h
 ·rename_i α r b2 i cs len E L k
  cases hr:Nat.beq r id with
  | false=>rw[hr] at h; exact hk _ _ h
  | true=>
   rw[hr] at h
   have h:(KG r s b2 i E L fun s'=>κ s' k).wp K:=h
   obtain ⟨b,v,v2,cs,cs2,h1,h2,h3,h4,h5⟩:=Vk h
   subst h4
   exact .sealcell h1 h2 h3 (fun S B hS hB=>E.elt.sealed hS hB) (hk _ _ h5)
 ·rename_i α r i cs len E L k
  cases hr:Nat.beq r id with
  | false=>rw[hr] at h; exact hk _ _ h
  | true=>
   rw[hr] at h
   have h:(KH r s i E L fun s'=>κ s' k).wp K:=h
   obtain ⟨b,v,cs,h1,h2,h3,h4⟩:=Vl h
   subst h3
   exact .sealslot h1 h2 (fun S B hS hB=>E.elt.sealed hS hB) (hk _ _ h4)
 ·exact hk _ _ h

theorem aZ {id:Nat} {s:AS} {T:Tree} {κ:AS→Tree→Tree} {q:Bool} {c:Code} {K':AE→AS→Prop} (h:(dj id s T κ).wp K) (hk:∀ s' T',(κ s' T').wp K→Tri P n m0 q c s' K'):Tri P n m0 q c s K':=
 Th h fun _ _ h=>Th h hk

theorem MF {s:AS} {T:Tree} {κ:AS→Tree→Tree} {q:Bool} {c:Code} {K':AE→AS→Prop} (h:(SQ s T κ).wp K) (hk:∀ s' T',(κ s' T').wp K→Tri P n m0 q c s' K'):Tri P n m0 q c s K':=by
 unfold SQ at h
 split at h
 ·obtain ⟨h1,h2⟩:=l8 h
  exact .nilrow h1 (hk _ _ h2)
 ·obtain ⟨h1,h2⟩:=dp h
  exact .nills h1 (hk _ _ h2)
 ·obtain ⟨b,v,sz,len,cs,h1,h2,h3⟩:=oh h
  exact .mvrow h1 h2 (hk _ _ h3)
 ·obtain ⟨row,v,cs,h1,h2,h3⟩:=YH h
  exact .nilcell h1 h2 (hk _ _ h3)
 ·exact hk _ _ h

theorem dq {s:AS} {T:Tree} {κ:AS→Tree→Tree} {q:Bool} {c:Code} {K':AE→AS→Prop} (h:(kz s T κ).wp K) (hk:∀ s' T',(κ s' T').wp K→Tri P n m0 q c s' K'):Tri P n m0 q c s K':=
 MF h fun _ _ h=>MF h fun _ _ h=>MF h fun _ _ h=>MF h hk

theorem QG {e:AE} {s:AS} {T:Tree} (h:(CP m0 e s T).wp K):∃ c:St,(∃ f d,Wk s c.as f d∧(∀ j,j<m0→f j=j∧d j=0)∧m0≤c.as.B.length)∧K e c:=by
 unfold CP at h
 split at h
 ·split at h
  ·rename_i W _ _ _ olds c hc
   obtain ⟨h1,c',h2,h3⟩:=h
   cases h2
   exact ⟨c,⟨_,_,ME hc h1⟩,h3⟩
  ·exact h.elim
 ·exact h.elim

theorem Q2 {r:Option Nat} {cd:Code} {s:AS} {T dflt:Tree} {κ:AE→AS→Tree→Tree} (h:(Qw P n m0 r cd s T κ dflt).wp K) (hd:dflt.wp K→Tri P n m0 false cd s (fun e s'=>∃ T',(κ e s' T').wp K)):Tri P n m0 false cd s (fun e s'=>∃ T',(κ e s' T').wp K):=by
 unfold Qw at h
 split at h
 ·rcases cond_wp h with ⟨_,h⟩ | ⟨_,h⟩
  rotate_left
  ·exact hd h
  split at h
  ·rename_i r' W _ _ E0 _ e c k _ _ _ olds c0 hc
   obtain ⟨h1,h2,h3,h4⟩:=h
   cases h2
   obtain ⟨q1,q2,q3⟩:=ME hc h1
   exact .weak q1 q2 q3 (h3.conseq fun e' s' hk=>by obtain ⟨rfl,rfl⟩:=hk; exact ⟨k,h4⟩)
  ·exact h.elim
 ·exact hd h

theorem Po (hm:P.follows .mixedOrders=true) (hΓ:∀ f,SoundF P f (Γ f)) (hΔ:∀ f,SoundR P f (Δ f)):∀ (c:Code) {s:AS} {T:Tree} {κ:AE→AS→Tree→Tree} {K:AE→St→Prop},(Bg P Γ Δ n m0 c s T κ).wp K→Tri P n m0 false c s (fun e s'=>∃ T',(κ e s' T').wp K):=by
 intro c
 induction c with
 | skip=>intro s T κ K h; exact .skip ⟨T,h⟩
 | region id ops draw=>
  intro s T κ K h
  simp only[Bg] at h
  refine Q2 h fun h=>?_
  refine aZ h fun s T h=>?_
  cases draw with
  | true=>
   simp only[cond_true] at h
   split at h
   ·rename_i T1
    refine .regionX hm (Iy hΓ hΔ _ (fun j oj hoj hl hs=>?_) (show (Tree.wp _ K) from h))
    simp at hs
    simp[hs] at hl
   cases hok:LJ P Γ ops.toList with
   | false=>
    rw[hok] at h
    simp only[cond_false] at h
    refine .regionX hm (Iy hΓ hΔ _ (fun j oj hoj hl hs=>?_) h)
    simp at hs
    simp[hs] at hl
   | true=>
    rw[hok] at h
    simp only[cond_true] at h
    obtain ⟨s',T',_,g2,g3⟩:=MC hΓ hΔ _ h
    exact .regionD hm hΓ hok (g2 _ rfl) ⟨T',g3⟩
  | false=>
   simp only[cond_false] at h
   obtain ⟨s',T',g1,_,g3⟩:=MC hΓ hΔ _ h
   exact .regionR (g1 rfl) ⟨T',g3⟩
 | seq a b iha ihb=>
  intro s T κ K h
  simp only[Bg] at h
  refine .seq ((iha h).conseq fun e s1 hk=>?_)
  obtain ⟨T1,h1⟩:=hk
  cases e with
  | normal=>
   dsimp only at h1
   split at h1
   ·split at h1
    ·rename_i olds c hc
     obtain ⟨g1,g2,g3⟩:=h1
     cases g2
     obtain ⟨q1,q2,q3⟩:=ME hc g1
     exact .weak q1 q2 q3 (ihb g3)
    ·exact h1.elim
   ·exact ihb h1
   ·exact ihb h1
  | exit i=>exact ⟨T1,h1⟩
  | ret=>exact ⟨T1,h1⟩
 | cond c x y ihx ihy=>
  intro s T κ K h
  simp only[Bg] at h
  split at h
  ·rename_i q hq
   split at h
   ·exact h.elim
   ·exact .cond hq (fun e=>ihx (h.1 e)) (fun e=>ihy (h.2 e))
   ·refine .cond hq (fun e=>?_) (fun e=>?_)
    ·subst e; exact ihx h
    ·subst e; exact ihy h
   ·refine .cond hq (fun e=>?_) (fun e=>?_)
    ·subst e; exact ihx h
    ·subst e; exact ihy h
  ·exact h.elim
 | block id b ih=>
  intro s T κ K h
  simp only[Bg] at h
  refine .block ((ih h).conseq fun e s1 hk=>?_)
  obtain ⟨T1,h1⟩:=hk
  cases e with
  | normal=>exact ⟨T1,h1⟩
  | ret=>exact ⟨T1,h1⟩
  | exit i=>
   cases hi:Nat.beq i id with
   | true=>simp only[hi,cond_true] at h1; simp only[hi,if_true]; exact ⟨T1,h1⟩
   | false=>simp only[hi,cond_false] at h1; simp only[hi]; exact ⟨T1,h1⟩
 | loop b ih=>
  intro s T κ K h
  simp only[Bg] at h
  refine Q2 h fun h=>?_
  refine dq h fun s1 T1 h=>?_
  split at h
  ·rename_i σ ε ε' W _ _ E X X' s0 body k k'
   split at h
   ·rename_i olds c hc
    obtain ⟨h1,h2,h5⟩:=h
    cases h2
    have h6:∃ x,Rounds E X X' (fun z=>(Bg P Γ Δ n m0 b (E z).as (body z) (CP m0)).wp) s0 x∧(match x with | .inl x=>(κ (X x).1 (X x).2.as (k x)).wp K | .inr x=>(κ (X' x).1 (X' x).2.as (k' x)).wp K):=by
     rcases h5 with ⟨x,h3,h4⟩ | ⟨x,h3,h4⟩
     ·exact ⟨.inl x,h3,h4⟩
     ·exact ⟨.inr x,h3,h4⟩
    obtain ⟨x,h3,h4⟩:=h6
    clear h5
    obtain ⟨g1,g2,g3⟩:=ME hc h1
    refine .weak g1 g2 g3 (.loop ?_)
    clear g1 g2 g3 hc h1
    have bodyTri:∀ (z:σ) (K':AE→St→Prop),(Bg P Γ Δ n m0 b (E z).as (body z) (CP m0)).wp K'→Tri P n m0 false b (E z).as (fun e s2=>∃ c:St,s2=c.as∧K' e c):=by
     intro z K' hz
     refine (ih hz).weakr fun e s2 hk=>?_
     obtain ⟨T',hT⟩:=hk
     obtain ⟨c,⟨f,d,q1,q2,q3⟩,q4⟩:=QG hT
     exact ⟨c.as,f,d,q1,q2,q3,c,rfl,q4⟩
    generalize s0=z at h3
    induction h3 with
    | @next z z' x hb _ ih2=>
     refine .round ((bodyTri _ _ hb).conseq fun e s2 hk=>?_)
     obtain ⟨c,rfl,rfl,rfl⟩:=hk
     exact ih2 h4
    | @done z x hne hb
    | @done' z x hne hb=>
     refine .round ((bodyTri _ _ hb).conseq fun e s2 hk=>?_)
     obtain ⟨c,rfl,h5,h6⟩:=hk
     rw[h6]
     dsimp only at h4
     cases e with
     | normal=>exact absurd h5.symm hne
     | exit i=>rw[←h5] at h4; exact ⟨_,h4⟩
     | ret=>rw[←h5] at h4; exact ⟨_,h4⟩
   ·exact h.elim
  ·exact h.elim
 | exit id=>intro s T κ K h; exact .exit ⟨T,h⟩
 | ret=>intro s T κ K h; exact .ret ⟨T,h⟩
 | _=>intro s T κ K h; exact h.elim

def wT (P:Program) (m0:Nat) (rs:List ResultVar) (e:AE) (s:AS) (T:Tree):Tree:=match e with
 | .exit _=> .stuck
 | _=>match HU P s rs with
  | some vs=>CP m0 .ret ⟨Ff s.t 0 (Ui vs),s.B⟩ T
  | none=> .stuck

def Av (P:Program) (Γ:BF) (Δ:CB) (fn:Func) (args:List AV) (B:List Box) (T:Tree):Tree:=
 Bg P Γ Δ fn.ntmps B.length (Gz fn) ⟨Uj args,B⟩ T (wT P B.length fn.results.toList)

theorem NO (hm:P.follows .mixedOrders=true) (hΓ:∀ f,SoundF P f (Γ f)) (hΔ:∀ f,SoundR P f (Δ f)) {f:FuncId} {fn:Func} (hf:P.funcs[f]? = some fn) (hb:fn.body.isSome=true) {args:List AV} (hle:Nat.ble args.length fn.ntmps=true) {B:List Box} {T:Tree} (h:(Av P Γ Δ fn args B T).wp K)
  {F:Nat→Prop} {ρ:Aj} {w:World} {us:List Value} (hI:Inv F B ρ w) (hA:ArgsRel F B ρ w args us):
  Calls P f us.toArray w fun e w'=>∃ v c ρ',e= .returned v∧(∃ e,K e c)∧Inv F c.2 ρ' w'∧Ext F B ρ w c.2 ρ' w'∧VRel F c.2 ρ' w' (tk c.1 0) v:=by
 rw[Nat.ble_eq] at hle
 cases hbb:fn.body with
 | none=>rw[hbb] at hb; cases hb
 | some c=>
  have hc:Gz fn=c:=by simp[Gz,hbb]
  unfold Av at h
  rw[hc] at h
  refine calls_of_wp hf hbb ?_
  have hsz:us.length≤fn.ntmps:=by rw[←hA.1]; exact hle
  have hR:Rel F B ρ w fn.ntmps (Uj args) {tmps:=us.toArray++Array.replicate (fn.ntmps - us.toArray.size) undef,defers:= []}:=by
   refine ⟨hI,fun i=>?_,rfl,by simp; omega⟩
   unfold Uj
   cases hi:args[i]? with
   | none=>
    have hge:us.length≤i:=by
     rw[←hA.1]
     exact List.getElem?_eq_none_iff.1 hi
    have:(us.toArray++Array.replicate (fn.ntmps - us.toArray.size) undef).getD i undef=undef:=by
     rw[Array.getD_eq_getD_getElem?,Array.getElem?_append_right (by simpa using hge),Array.getElem?_replicate]
     split <;> rfl
    rw[this]
    exact .p _ _ (.v _)
   | some x=>
    have hlt:i<us.length:=by rw[←hA.1]; exact (List.getElem?_eq_some_iff.1 hi).1
    have:(us.toArray++Array.replicate (fn.ntmps - us.toArray.size) undef).getD i undef=us[i]:=by
     rw[Array.getD_eq_getD_getElem?,Array.getElem?_append_left (by simpa using hlt)]
     simp[hlt]
    rw[this]
    exact hA.2 i x _ hi (List.getElem?_eq_getElem hlt)
  refine Po hm hΓ hΔ c h F B ρ w rfl ρ w _ hR (.refl _ _ _) _ (fun e s' a' w' ρ' hk hR' hE=>?_)
  obtain ⟨T',hT⟩:=hk
  have main:∀ (hT:(match HU P s' fn.results.toList with
    | some vs=>CP B.length .ret ⟨Ff s'.t 0 (Ui vs),s'.B⟩ T'
    | none=>Tree.stuck).wp K),∃ x,(results fn a'.tmps).run P w'= .ok x w'∧∃ c ρ2,(∃ e,K e c)∧Inv F c.2 ρ2 w'∧Ext F B ρ w c.2 ρ2 w'∧VRel F c.2 ρ2 w' (tk c.1 0) x:=by
   intro hT
   split at hT
   ·rename_i vs hvs
    obtain ⟨x,e1,e2⟩:=YG (fn:=fn) hR' hvs
    obtain ⟨c,⟨f',d',q1,q2,q3⟩,q4⟩:=QG hT
    refine ⟨x,e1,c,_,⟨_,q4⟩,q1.inv hR'.inv,q1.ext hE q2 q3,?_⟩
    rcases q1.t 0 with h0 | h1
    ·have h0:tk c.1 0= .u:=h0
     rw[h0]; exact .u _
    ·exact q1.cell (by show VRel F s'.B ρ' w' (Ff s'.t 0 (Ui vs) 0) x; rw[Ez]; exact e2) h1
   ·exact hT.elim
  cases e with
  | exit i=>exact hT.elim
  | normal=>
   obtain ⟨x,e1,c,ρ2,k1,k2,k3,k4⟩:=main hT
   exact ⟨hR'.df,x,e1,x,c,ρ2,rfl,k1,k2,k3,k4⟩
  | ret=>
   obtain ⟨x,e1,c,ρ2,k1,k2,k3,k4⟩:=main hT
   exact ⟨hR'.df,x,e1,x,c,ρ2,rfl,k1,k2,k3,k4⟩

structure PureT (P:Program) (Γ:BF) (Δ:CB) (fn:Func) (args:List AV) (r:AV):Prop where
 le:Nat.ble args.length fn.ntmps=true
 low:args.all (AV.low 0)=true
 ev:∃ T,Av P Γ Δ fn args [] T=T∧T.wp fun _ c=>Sealed (fun _=>True) c.2 (tk c.1 0) r

theorem A6 (hm:P.follows .mixedOrders=true) (hΓ:∀ f,SoundF P f (Γ f)) (hΔ:∀ f,SoundR P f (Δ f)) {f:FuncId} {fn:Func} (hf:P.funcs[f]? = some fn) (he:Ak P f=true) (hb:fn.body.isSome=true) {R:List AV→AV→Prop}
  (h:∀ args r,R args r→PureT P Γ Δ fn args r):SoundF P f (.pure (B4 R)):=by
 intro args B r B' hs F ρ w us hI hA
 obtain ⟨r',h1,h2⟩:=map_some hs
 cases h2
 obtain ⟨hle,hfree,T,hT,hwp⟩:=h args r (IU h1)
 have hA0:ArgsRel (Own F B ρ) [] ρ w args us:=⟨hA.1,fun j p u hp hu=>(hA.2 j p u hp hu).nobox (by
  rw[List.all_eq_true] at hfree
  exact hfree p (List.mem_of_getElem? hp)) ρ⟩
 rw[←hT] at hwp
 refine .inl ⟨Ev he us.toArray w,(NO hm hΓ hΔ hf hb hle hwp (ly hI ρ) hA0).mono fun e w' hp=>?_⟩
 obtain ⟨x,c,ρ',rfl,⟨_,hsl⟩,hI',hE',hv⟩:=hp
 have hh:∀ k,k<w.heap.size→w'.heap[k]? = w.heap[k]? := fun k hk=>by
  by_cases h:Own F B ρ k
  ·exact hE'.far k h hk
  ·exact (hE'.keep k hk (fun h2=>h (OW h2))).1
 obtain ⟨hE,hI2⟩:=LL hE'.size hE'.os hE'.tape hE'.output hE'.shape hh hI
 exact ⟨x,ρ,rfl,hI2,hE,hsl.vrel hI' hv (fun k h=> .inl h) (fun b row v cs k o _ hb hr ho=>hI'.farb _ _ _ _ _ _ hb hr ho)⟩

structure GenT (P:Program) (Γ:BF) (Δ:CB) (fn:Func) (args:List AV) (B:List Box) (r:AV×List Box):Prop where
 le:Nat.ble args.length fn.ntmps=true
 ev:∃ T,Av P Γ Δ fn args B T=T∧T.wp fun _ c=>tk c.1 0=r.1∧c.2=r.2

theorem Al (hm:P.follows .mixedOrders=true) (hΓ:∀ f,SoundF P f (Γ f)) (hΔ:∀ f,SoundR P f (Δ f)) {f:FuncId} {fn:Func} (hf:P.funcs[f]? = some fn) (he:Ak P f=true) (hb:fn.body.isSome=true) {R:Ae}
  (h:∀ args B r B',R args B r B'→GenT P Γ Δ fn args B (r,B')):SoundR P f R:=by
 intro args B r B' hs F ρ w us hI hA
 obtain ⟨hle,T,hT,hwp⟩:=h args B r B' hs
 rw[←hT] at hwp
 refine .inl ⟨Ev he us.toArray w,(NO hm hΓ hΔ hf hb hle hwp hI hA).mono fun e w' hp=>?_⟩
 obtain ⟨x,c,ρ',rfl,⟨_,h1,h2⟩,hI',hE',hv⟩:=hp
 simp only at h1 h2
 subst h1 h2
 exact ⟨x,ρ',rfl,hI',hE',hv⟩

theorem SoundR.none (f:Nat):SoundR P f (fun _ _ _ _=>False):=fun _ _ _ _ h=>h.elim

end Go.Ax
