/- Lists by index; what a sort's steps turn. -/
import Derived.Test.YtjlipmcdnigfcaaDoorG26
set_option linter.unusedVariables false
set_option linter.unusedSimpArgs false
set_option linter.unusedSectionVars false
namespace Go.Ax
open Go.Proofs Go.RowKit

def dM:Meta:=⟨0,0,⟨#[]⟩,⟨#[]⟩,0⟩
def at' (L:List Meta) (i:Nat):Meta:=L.getD i dM

theorem at_get {L:List Meta} {i:Nat} (h:i<L.length):L[i]? = some (at' L i):=by
 unfold at'
 rw[List.getD_eq_getElem?_getD,List.getElem?_eq_getElem h]
 rfl

theorem at_set {L:List Meta} {i j:Nat} {x:Meta}:at' (L.set i x) j=if i=j∧j<L.length then x else at' L j:=by
 unfold at'
 rw[List.getD_eq_getElem?_getD,List.getD_eq_getElem?_getD,List.getElem?_set]
 by_cases h:i=j
 ·subst h
  by_cases h2:i<L.length
  ·simp[h2]
  ·simp[h2]
 ·simp[h]

def swapA (L:List Meta) (i j:Nat):List Meta:=(L.set i (at' L j)).set j (at' L i)

theorem swap_len (L:List Meta) (i j:Nat):(swapA L i j).length=L.length:=by simp[swapA]
theorem swap_at {L:List Meta} {i j k:Nat} (hi:i<L.length) (hj:j<L.length):at' (swapA L i j) k=if k=j then at' L i else if k=i then at' L j else at' L k:=by
 unfold swapA
 rw[at_set,at_set,List.length_set]
 by_cases h1:k=j
 ·subst h1; simp[hj]
 ·rw[if_neg (by omega),if_neg h1]
  by_cases h2:k=i
  ·subst h2; simp[hi]
  ·rw[if_neg (by omega),if_neg h2]

theorem swap_perm {L:List Meta} {i j:Nat} (hi:i<L.length) (hj:j<L.length):(swapA L i j).Perm L:=by
 unfold swapA
 have e1:at' L j=L[j]:=by unfold at'; rw[List.getD_eq_getElem?_getD,List.getElem?_eq_getElem hj]; rfl
 have e2:at' L i=L[i]:=by unfold at'; rw[List.getD_eq_getElem?_getD,List.getElem?_eq_getElem hi]; rfl
 rw[e1,e2]
 exact List.set_set_perm hi hj

structure Turn (L L':List Meta) (a b:Nat):Prop where
 perm:L'.Perm L
 out:∀ i,i<a∨b≤i→at' L' i=at' L i
 ins:∀ i,a≤i→i<b→∃ j,a≤j∧j<b∧at' L' i=at' L j

theorem Turn.refl (L:List Meta) (a b:Nat):Turn L L a b:=⟨.refl _,fun _ _=>rfl,fun i h1 h2=>⟨i,h1,h2,rfl⟩⟩
theorem Turn.trans {L L1 L2:List Meta} {a b:Nat} (h:Turn L L1 a b) (g:Turn L1 L2 a b):Turn L L2 a b:=
 ⟨g.perm.trans h.perm,fun i hi=>(g.out i hi).trans (h.out i hi),fun i h1 h2=>by
  obtain ⟨j,q1,q2,q3⟩:=g.ins i h1 h2
  obtain ⟨k,p1,p2,p3⟩:=h.ins j q1 q2
  exact ⟨k,p1,p2,q3.trans p3⟩⟩
theorem Turn.wide {L L':List Meta} {a b a' b':Nat} (h:Turn L L' a b) (ha:a'≤a) (hb:b≤b'):Turn L L' a' b':=
 ⟨h.perm,fun i hi=>h.out i (by omega),fun i h1 h2=>by
  by_cases hi:a≤i∧i<b
  ·obtain ⟨j,q1,q2,q3⟩:=h.ins i hi.1 hi.2
   exact ⟨j,by omega,by omega,q3⟩
  ·exact ⟨i,h1,h2,h.out i (by omega)⟩⟩
theorem Turn.swap {L:List Meta} {i j a b:Nat} (hi:i<L.length) (hj:j<L.length) (h1:a≤i) (h2:i<b) (h3:a≤j) (h4:j<b):Turn L (swapA L i j) a b:=
 ⟨swap_perm hi hj,fun k hk=>by rw[swap_at hi hj,if_neg (by omega),if_neg (by omega)],fun k h5 h6=>by
  rw[swap_at hi hj]
  by_cases e1:k=j
  ·exact ⟨i,h1,h2,by rw[if_pos e1]⟩
  ·by_cases e2:k=i
   ·exact ⟨j,h3,h4,by rw[if_neg e1,if_pos e2]⟩
   ·exact ⟨k,h5,h6,by rw[if_neg e1,if_neg e2]⟩⟩
theorem Turn.len {L L':List Meta} {a b:Nat} (h:Turn L L' a b):L'.length=L.length:=h.perm.length_eq

structure Ordr (c:Meta→Meta→Int) (Q:Meta→Prop):Prop where
 asym:∀ x y,Q x→Q y→c x y<0→¬c y x<0
 trans:∀ x y z,Q x→Q y→Q z→¬c y x<0→¬c z y<0→¬c z x<0

def Sorted (c:Meta→Meta→Int) (L:List Meta) (a b:Nat):Prop:=∀ p q,a≤p→p<q→q<b→¬c (at' L q) (at' L p)<0

theorem Sorted.sub {c:Meta→Meta→Int} {L:List Meta} {a b a' b':Nat} (h:Sorted c L a b) (ha:a≤a') (hb:b'≤b):Sorted c L a' b':=fun p q h1 h2 h3=>h p q (by omega) h2 (by omega)
theorem Sorted.congr {c:Meta→Meta→Int} {L L':List Meta} {a b:Nat} (h:Sorted c L a b) (e:∀ i,a≤i→i<b→at' L' i=at' L i):Sorted c L' a b:=fun p q h1 h2 h3=>by
 rw[e p h1 (by omega),e q (by omega) h3]; exact h p q h1 h2 h3

def AllQ (Q:Meta→Prop) (L:List Meta):Prop:=∀ i,i<L.length→Q (at' L i)
theorem AllQ.turn {Q:Meta→Prop} {L L':List Meta} {a b:Nat} (h:AllQ Q L) (t:Turn L L' a b) (hb:b≤L.length):AllQ Q L':=fun i hi=>by
 rw[t.len] at hi
 by_cases hh:a≤i∧i<b
 ·obtain ⟨j,q1,q2,q3⟩:=t.ins i hh.1 hh.2
  rw[q3]; exact h j (by omega)
 ·rw[t.out i (by omega)]; exact h i hi

end Go.Ax

namespace Go.Ax
open Go.Proofs Go.RowKit

def bsF (P:Nat→Bool):Nat→Nat→Nat→Nat
 | 0,i,_=>i
 | f+1,i,j=>if i<j then (if P ((i+j) / 2) then bsF P f ((i+j) / 2+1) j else bsF P f i ((i+j) / 2)) else i

theorem bs_spec (P:Nat→Bool):∀ (f i j:Nat),i≤j→j - i≤f→i≤bsF P f i j∧bsF P f i j≤j∧((∀ x y,i≤x→x<y→y<j→P y=true→P x=true)→(∀ x,i≤x→x<bsF P f i j→P x=true)∧∀ x,bsF P f i j≤x→x<j→P x=false)
 | 0,i,j,h1,h2=>⟨Nat.le_refl _,h1,fun _=>⟨fun x g1 g2=>by simp[bsF] at g2; omega,fun x g1 g2=>by simp[bsF] at g1; omega⟩⟩
 | f+1,i,j,h1,h2=>by
  unfold bsF
  by_cases hij:i<j
  ·rw[if_pos hij]
   cases hP:P ((i+j) / 2) with
   | true=>
    rw[if_pos rfl]
    obtain ⟨g1,g2,g3⟩:=bs_spec P f ((i+j) / 2+1) j (by omega) (by omega)
    refine ⟨by omega,g2,fun hm=>?_⟩
    obtain ⟨q1,q2⟩:=g3 (fun x y e1 e2 e3=>hm x y (by omega) e2 e3)
    refine ⟨fun x e1 e2=>?_,q2⟩
    rcases Nat.lt_or_ge x ((i+j) / 2) with hx | hx
    ·exact hm x _ e1 hx (by omega) hP
    ·rcases Nat.lt_or_ge ((i+j) / 2) x with hy | hy
     ·exact q1 x (by omega) e2
     ·rw[show x=(i+j) / 2 by omega]; exact hP
   | false=>
    rw[if_neg (by simp)]
    obtain ⟨g1,g2,g3⟩:=bs_spec P f i ((i+j) / 2) (by omega) (by omega)
    refine ⟨g1,by omega,fun hm=>?_⟩
    obtain ⟨q1,q2⟩:=g3 (fun x y e1 e2 e3=>hm x y e1 e2 (by omega))
    refine ⟨q1,fun x e1 e2=>?_⟩
    rcases Nat.lt_or_ge x ((i+j) / 2) with hx | hx
    ·exact q2 x e1 hx
    ·cases hpx:P x with
     | false=>rfl
     | true=>
      rcases Nat.lt_or_ge ((i+j) / 2) x with hy | hy
      ·rw[hm _ x (by omega) hy e2 hpx] at hP; cases hP
      ·rw[show x=(i+j) / 2 by omega,hP] at hpx; cases hpx
  ·rw[if_neg hij]
   exact ⟨Nat.le_refl _,by omega,fun _=>⟨fun x e1 e2=>by omega,fun x e1 e2=>by omega⟩⟩

def rotT (L:List Meta) (a m b:Nat) (x:Nat):Meta:=if a≤x∧x<a+(b - m) then at' L (x - a+m) else if a+(b - m)≤x∧x<b then at' L (x - (b - m)) else at' L x

theorem turn_rot {L L':List Meta} {a m b:Nat} (h1:a≤m) (h2:m≤b) (hp:L'.Perm L) (h:∀ x,at' L' x=rotT L a m b x):Turn L L' a b:=
 ⟨hp,fun i hi=>by rw[h]; unfold rotT; rw[if_neg (by omega),if_neg (by omega)],fun i g1 g2=>by
  rw[h]; unfold rotT
  by_cases c1:a≤i∧i<a+(b - m)
  ·rw[if_pos c1]; exact ⟨i - a+m,by omega,by omega,rfl⟩
  ·rw[if_neg c1,if_pos (by omega)]; exact ⟨i - (b - m),by omega,by omega,rfl⟩⟩

variable {c : Meta → Meta → Int} {Q : Meta → Prop} {L L' : List Meta} {a m b : Nat}

def le' (c:Meta→Meta→Int) (x y:Meta):Prop:=¬c y x<0

theorem Ordr.tr (h:Ordr c Q) {x y z:Meta} (hx:Q x) (hy:Q y) (hz:Q z) (h1:le' c x y) (h2:le' c y z):le' c x z:=h.trans x y z hx hy hz h1 h2
theorem Ordr.lt (h:Ordr c Q) {x y:Meta} (hx:Q x) (hy:Q y) (h1:c x y<0):le' c x y:=h.asym x y hx hy h1

theorem Ordr.rf (h:Ordr c Q) {x:Meta} (hx:Q x):le' c x x:=fun h1=>h.asym x x hx hx h1 h1

theorem sorted_le (hO:Ordr c Q) (hQ:AllQ Q L) (hs:Sorted c L a b) (hb:b≤L.length) {p q:Nat} (h1:a≤p) (h2:p≤q) (h3:q<b):le' c (at' L p) (at' L q):=by
 rcases Nat.lt_or_ge p q with h | h
 ·exact hs p q h1 h h3
 ·rw[show p=q by omega]; exact hO.rf (hQ q (by omega))

theorem ins_front (hO:Ordr c Q) (hQ:AllQ Q L) (hb:b≤L.length) (hab:a+1<b) (hs:Sorted c L (a+1) b) {i:Nat} (hi:i=bsF (fun h=>decide (c (at' L h) (at' L a)<0)) (b - (a+1)) (a+1) b)
  (h:∀ x,at' L' x=rotT L a (a+1) i x):Sorted c L' a b:=by
 obtain ⟨g1,g2,g3⟩:=bs_spec (fun h=>decide (c (at' L h) (at' L a)<0)) (b - (a+1)) (a+1) b (by omega) (Nat.le_refl _)
 rw[←hi] at g1 g2 g3
 obtain ⟨q1,q2⟩:=g3 (fun x y e1 e2 e3 hy=>by
  simp only[decide_eq_true_eq] at hy ⊢
  by_cases hx:c (at' L x) (at' L a)<0
  ·exact hx
  ·exact absurd hy (hO.trans _ _ _ (hQ a (by omega)) (hQ x (by omega)) (hQ y (by omega)) hx (hs x y e1 e2 e3)))
 simp only[decide_eq_true_eq,decide_eq_false_iff_not] at q1 q2
 intro p q e1 e2 e3
 rw[h,h]
 unfold rotT
 by_cases c1:p<a+(i - (a+1))
 ·rw[if_pos (⟨e1,c1⟩:a≤p∧p<a+(i - (a+1)))]
  by_cases c2:q<a+(i - (a+1))
  ·rw[if_pos (⟨by omega,c2⟩:a≤q∧q<a+(i - (a+1)))]
   exact hs _ _ (by omega) (by omega) (by omega)
  ·rw[if_neg (fun h=>c2 h.2)]
   by_cases c3:q<i
   ·rw[if_pos (by omega:a+(i - (a+1))≤q∧q<i),show q - (i - (a+1))=a by omega]
    exact hO.asym _ _ (hQ _ (by omega)) (hQ _ (by omega)) (q1 (p - a+(a+1)) (by omega) (by omega))
   ·rw[if_neg (fun h=>c3 h.2)]
    exact hs _ _ (by omega) (by omega) e3
 ·rw[if_neg (by omega:¬(a≤p∧p<a+(i - (a+1)))),if_neg (by omega:¬(a≤q∧q<a+(i - (a+1))))]
  by_cases c2:p<i
  ·rw[if_pos (by omega:a+(i - (a+1))≤p∧p<i),show p - (i - (a+1))=a by omega,if_neg (by omega:¬(a+(i - (a+1))≤q∧q<i))]
   exact q2 q (by omega) e3
  ·rw[if_neg (by omega:¬(a+(i - (a+1))≤p∧p<i)),if_neg (by omega:¬(a+(i - (a+1))≤q∧q<i))]
   exact hs p q (by omega) e2 e3

theorem ins_back (hO:Ordr c Q) (hQ:AllQ Q L) (hm:m<L.length) (ham:a<m) (hs:Sorted c L a m) {i:Nat} (hi:i=bsF (fun h=> !decide (c (at' L m) (at' L h)<0)) (m - a) a m)
  (h:∀ x,at' L' x=rotT L i m (m+1) x):Sorted c L' a (m+1):=by
 obtain ⟨g1,g2,g3⟩:=bs_spec (fun h=> !decide (c (at' L m) (at' L h)<0)) (m - a) a m (by omega) (Nat.le_refl _)
 rw[←hi] at g1 g2 g3
 obtain ⟨q1,q2⟩:=g3 (fun x y e1 e2 e3 hy=>by
  simp only[Bool.not_eq_true',decide_eq_false_iff_not] at hy ⊢
  exact hO.trans _ _ _ (hQ x (by omega)) (hQ y (by omega)) (hQ m hm) (hs x y e1 e2 e3) hy)
 simp only[Bool.not_eq_true',decide_eq_false_iff_not,Bool.not_eq_false',decide_eq_true_eq] at q1 q2
 intro p q e1 e2 e3
 rw[h,h]
 unfold rotT
 by_cases c1:p<i
 ·rw[if_neg (by omega:¬(i≤p∧p<i+(m+1 - m))),if_neg (by omega:¬(i+(m+1 - m)≤p∧p<m+1))]
  by_cases c2:q<i
  ·rw[if_neg (by omega:¬(i≤q∧q<i+(m+1 - m))),if_neg (by omega:¬(i+(m+1 - m)≤q∧q<m+1))]
   exact hs p q e1 e2 (by omega)
  ·by_cases c3:q=i
   ·subst c3
    rw[if_pos (by omega:q≤q∧q<q+(m+1 - m)),show q - q+m=m by omega]
    exact q1 p e1 c1
   ·rw[if_neg (by omega:¬(i≤q∧q<i+(m+1 - m))),if_pos (by omega:i+(m+1 - m)≤q∧q<m+1)]
    exact hs _ _ e1 (by omega) (by omega)
 ·by_cases c2:p=i
  ·subst c2
   rw[if_pos (by omega:p≤p∧p<p+(m+1 - m)),show p - p+m=m by omega,if_neg (by omega:¬(p≤q∧q<p+(m+1 - m))),if_pos (by omega:p+(m+1 - m)≤q∧q<m+1)]
   exact hO.asym _ _ (hQ _ hm) (hQ _ (by omega)) (q2 _ (by omega) (by omega))
  ·rw[if_neg (by omega:¬(i≤p∧p<i+(m+1 - m))),if_pos (by omega:i+(m+1 - m)≤p∧p<m+1),if_neg (by omega:¬(i≤q∧q<i+(m+1 - m))),if_pos (by omega:i+(m+1 - m)≤q∧q<m+1)]
   exact hs _ _ (by omega) (by omega) (by omega)

structure Part (c:Meta→Meta→Int) (Q:Meta→Prop) (L:List Meta) (a m b mid s:Nat):Prop where
 lo:a≤s∧s≤m∧s≤mid
 hi:m≤mid+m - s∧mid≤mid+m - s∧mid+m - s≤b
 ab:∀ x y,a≤x→x<s→mid+m - s≤y→y<b→le' c (at' L x) (at' L y)
 ba:∀ x y,m≤x→x<mid+m - s→s≤y→y<m→le' c (at' L x) (at' L y)

theorem part_of (hO:Ordr c Q) (hQ:AllQ Q L) (hb:b≤L.length) (ham:a<m) (hmb:m<b) (h1:Sorted c L a m) (h2:Sorted c L m b) {mid lo hi s:Nat} (hmid:mid=(a+b) / 2)
  (hlh:(mid<m∧lo=mid+m - b∧hi=mid)∨(m≤mid∧lo=a∧hi=m)) (hs:s=bsF (fun h=> !decide (c (at' L (mid+m - 1 - h)) (at' L h)<0)) (hi - lo) lo hi):Part c Q L a m b mid s:=by
 obtain ⟨g1,g2,g3⟩:=bs_spec (fun h=> !decide (c (at' L (mid+m - 1 - h)) (at' L h)<0)) (hi - lo) lo hi (by omega) (Nat.le_refl _)
 rw[←hs] at g1 g2 g3
 obtain ⟨q1,q2⟩:=g3 (fun x y e1 e2 e3 hy=>by
  simp only[Bool.not_eq_true',decide_eq_false_iff_not] at hy ⊢
  have l1:le' c (at' L x) (at' L y):=h1 x y (by omega) e2 (by omega)
  have l2:le' c (at' L (mid+m - 1 - y)) (at' L (mid+m - 1 - x)):=h2 _ _ (by omega) (by omega) (by omega)
  exact hO.tr (hQ x (by omega)) (hQ y (by omega)) (hQ _ (by omega)) l1 (hO.tr (hQ y (by omega)) (hQ _ (by omega)) (hQ _ (by omega)) hy l2))
 simp only[Bool.not_eq_true',decide_eq_false_iff_not,Bool.not_eq_false',decide_eq_true_eq] at q1 q2
 refine ⟨by omega,by omega,fun x y e1 e2 e3 e4=>?_,fun x y e1 e2 e3 e4=>?_⟩
 ·have hp:=q1 (s - 1) (by omega) (by omega)
  rw[show mid+m - 1 - (s - 1)=mid+m - s by omega] at hp
  exact hO.tr (hQ _ (by omega)) (hQ (s - 1) (by omega)) (hQ _ (by omega)) (sorted_le hO hQ h1 (by omega) e1 (by omega) (by omega))
   (hO.tr (hQ _ (by omega)) (hQ (mid+m - s) (by omega)) (hQ _ (by omega)) hp (sorted_le hO hQ h2 hb (by omega) e3 e4))
 ·have hp:=q2 s (Nat.le_refl _) (by omega)
  have hp:le' c (at' L (mid+m - 1 - s)) (at' L s):=hO.lt (hQ _ (by omega)) (hQ _ (by omega)) hp
  exact hO.tr (hQ _ (by omega)) (hQ (mid+m - 1 - s) (by omega)) (hQ _ (by omega)) (sorted_le hO hQ h2 hb e1 (by omega) (by omega))
   (hO.tr (hQ _ (by omega)) (hQ s (by omega)) (hQ _ (by omega)) hp (sorted_le hO hQ h1 (by omega) (by omega) e3 e4))

theorem part_cross (hO:Ordr c Q) (hb:b≤L.length) (h1:Sorted c L a m) (h2:Sorted c L m b) {mid s:Nat} (hp:Part c Q L a m b mid s) {L1:List Meta} (h:∀ x,at' L1 x=rotT L s m (mid+m - s) x):
  (∀ x y,a≤x→x<mid→mid≤y→y<b→le' c (at' L1 x) (at' L1 y))∧Sorted c L1 a s∧Sorted c L1 s mid∧Sorted c L1 mid (mid+m - s)∧Sorted c L1 (mid+m - s) b:=by
 obtain ⟨⟨l1,l2,l3⟩,⟨l4,l5,l6⟩,ab,ba⟩:=hp
 have A1:∀ x,x<s→at' L1 x=at' L x:=fun x hx=>by rw[h]; unfold rotT; rw[if_neg (by omega),if_neg (by omega)]
 have B1:∀ x,s≤x→x<mid→at' L1 x=at' L (x - s+m):=fun x hx hy=>by rw[h]; unfold rotT; rw[if_pos (by omega)]
 have A2:∀ x,mid≤x→x<mid+m - s→at' L1 x=at' L (x - (mid - s)):=fun x hx hy=>by rw[h]; unfold rotT; rw[if_neg (by omega),if_pos (by omega)]; congr 1; omega
 have B2:∀ x,mid+m - s≤x→at' L1 x=at' L x:=fun x hx=>by rw[h]; unfold rotT; rw[if_neg (by omega),if_neg (by omega)]
 refine ⟨fun x y e1 e2 e3 e4=>?_,fun p q e1 e2 e3=>?_,fun p q e1 e2 e3=>?_,fun p q e1 e2 e3=>?_,fun p q e1 e2 e3=>?_⟩
 ·rcases Nat.lt_or_ge x s with hx | hx <;> rcases Nat.lt_or_ge y (mid+m - s) with hy | hy
  ·rw[A1 x hx,A2 y e3 hy]; exact h1 _ _ e1 (by omega) (by omega)
  ·rw[A1 x hx,B2 y hy]; exact ab x y e1 hx hy e4
  ·rw[B1 x hx e2,A2 y e3 hy]; exact ba _ _ (by omega) (by omega) (by omega) (by omega)
  ·rw[B1 x hx e2,B2 y hy]; exact h2 _ _ (by omega) (by omega) e4
 ·rw[A1 p (by omega),A1 q e3]; exact h1 p q e1 e2 (by omega)
 ·rw[B1 p e1 (by omega),B1 q (by omega) e3]; exact h2 _ _ (by omega) (by omega) (by omega)
 ·rw[A2 p e1 (by omega),A2 q (by omega) e3]; exact h1 _ _ (by omega) (by omega) (by omega)
 ·rw[B2 p e1,B2 q (by omega)]; exact h2 _ _ (by omega) e2 e3

theorem halves {L1 L2 L3:List Meta} {mid:Nat} (ham:a≤mid) (hmb:mid≤b) (hx:∀ x y,a≤x→x<mid→mid≤y→y<b→le' c (at' L1 x) (at' L1 y)) (t2:Turn L1 L2 a mid) (t3:Turn L2 L3 mid b) (s2:Sorted c L2 a mid) (s3:Sorted c L3 mid b):Sorted c L3 a b:=by
 intro p q e1 e2 e3
 rcases Nat.lt_or_ge q mid with hq | hq
 ·rw[t3.out p (by omega),t3.out q (by omega)]; exact s2 p q e1 e2 hq
 ·rcases Nat.lt_or_ge p mid with hp | hp
  ·obtain ⟨y,y1,y2,y3⟩:=t3.ins q hq e3
   obtain ⟨x,x1,x2,x3⟩:=t2.ins p e1 hp
   rw[t3.out p (by omega),x3,y3,t2.out y (by omega)]
   exact hx x y x1 x2 y1 y2
  ·exact s3 p q hp e2 e3

end Go.Ax
