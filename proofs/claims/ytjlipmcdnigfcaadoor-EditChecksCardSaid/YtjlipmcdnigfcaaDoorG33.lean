/- What a right version is, in plain words. -/
import Derived.Test.YtjlipmcdnigfcaaDoorG32
set_option linter.unusedVariables false
set_option linter.unusedSimpArgs false
set_option linter.unusedSectionVars false
namespace Go.Ax
open Go.Proofs Go.RowKit
set_option maxRecDepth 100000
theorem ltB_irr:∀ x:List UInt8,Op.bytesLess x x=false
 | []=>rfl
 | a::x=>by simp[Op.bytesLess,ltB_irr x]
theorem ltB_asym:∀ x y:List UInt8,Op.bytesLess x y=true→Op.bytesLess y x=false
 | [],[],h=>by simp[Op.bytesLess] at h
 | _::_,[],h=>by simp[Op.bytesLess] at h
 | [],_::_,_=>by simp[Op.bytesLess]
 | a::x,b::y,h=>by
  simp only[Op.bytesLess,Bool.or_eq_true,decide_eq_true_eq,Bool.and_eq_true,beq_iff_eq] at h
  have h1:¬b<a:=by
   rcases h with h | ⟨h,_⟩
   ·rw[UInt8.lt_iff_toNat_lt] at h ⊢; omega
   ·rw[h]; exact UInt8.lt_irrefl _
  have h2:b=a→Op.bytesLess y x=false:=fun e=>by
   rcases h with h | ⟨_,h⟩
   ·rw[e] at h; exact absurd h (UInt8.lt_irrefl _)
   ·exact ltB_asym x y h
  simp only[Op.bytesLess,Bool.or_eq_false_iff,decide_eq_false_iff_not,Bool.and_eq_false_iff,beq_eq_false_iff_ne]
  refine ⟨h1,?_⟩
  by_cases e:b=a
  ·exact .inr (h2 e)
  ·exact .inl e
theorem ltB_tri:∀ x y:List UInt8,Op.bytesLess x y=false→Op.bytesLess y x=false→x=y
 | [],[],_,_=>rfl
 | _::_,[],_,h=>by simp[Op.bytesLess] at h
 | [],_::_,h,_=>by simp[Op.bytesLess] at h
 | a::x,b::y,h,h'=>by
  simp only[Op.bytesLess,Bool.or_eq_false_iff,decide_eq_false_iff_not,Bool.and_eq_false_iff,beq_eq_false_iff_ne] at h h'
  have e:a=b:=by
   apply UInt8.toNat_inj.mp
   have h1:=h.1
   have h2:=h'.1
   rw[UInt8.lt_iff_toNat_lt] at h1 h2
   omega
  subst e
  rw[ltB_tri x y (h.2.resolve_left (by simp)) (h'.2.resolve_left (by simp))]

theorem le_iff (a b:ByteArray):(Op.bytesLess a.toList b.toList||a.toList == b.toList)= !Op.bytesLess b.toList a.toList:=by
 cases h:Op.bytesLess b.toList a.toList with
 | true=>
  have h1:=ltB_asym _ _ h
  rw[h1,Bool.false_or]
  simp only[Bool.not_true,beq_eq_false_iff_ne]
  intro e
  rw[e,ltB_irr] at h
  cases h
 | false=>
  cases h1:Op.bytesLess a.toList b.toList with
  | true=>rfl
  | false=>rw[ltB_tri _ _ h1 h]; simp

theorem ltB_trans:∀ x y z:List UInt8,Op.bytesLess x y=true→Op.bytesLess y z=true→Op.bytesLess x z=true
 | _,_,[],_,h=>by cases ‹List UInt8› <;> simp[Op.bytesLess] at h
 | [],_,_::_,_,_=>by simp[Op.bytesLess]
 | _::_,[],_::_,h,_=>by simp[Op.bytesLess] at h
 | a::x,b::y,c::z,h,h'=>by
  simp only[Op.bytesLess,Bool.or_eq_true,decide_eq_true_eq,Bool.and_eq_true,beq_iff_eq] at h h' ⊢
  rcases h with h | ⟨h,g⟩
  ·rcases h' with h' | ⟨h',g'⟩
   ·refine .inl ?_
    rw[UInt8.lt_iff_toNat_lt] at h h' ⊢; omega
   ·rw[←h']; exact .inl h
  ·rcases h' with h' | ⟨h',g'⟩
   ·rw[h]; exact .inl h'
   ·exact .inr ⟨h.trans h',ltB_trans x y z g g'⟩

def Lt (a b:ByteArray):Prop:=Op.bytesLess a.toList b.toList=true
def Le (a b:ByteArray):Prop:=¬Lt b a
theorem Lt.trans {a b c:ByteArray} (h:Lt a b) (g:Lt b c):Lt a c:=ltB_trans _ _ _ h g
theorem Lt.irr {a:ByteArray} (h:Lt a a):False:=by unfold Lt at h; rw[ltB_irr] at h; cases h
theorem Le.refl (a:ByteArray):Le a a:=fun h=>h.irr
theorem lt_le {a b c:ByteArray} (h:Lt a b) (g:Le b c):Lt a c:=by
 by_cases e:Lt b c
 ·exact h.trans e
 ·have:b.toList=c.toList:=ltB_tri _ _ (by simpa [Lt] using e) (by simpa [Le,Lt] using g)
  unfold Lt at h ⊢
  rw[←this]; exact h
theorem le_lt {a b c:ByteArray} (h:Le a b) (g:Lt b c):Lt a c:=by
 by_cases e:Lt a b
 ·exact e.trans g
 ·have:a.toList=b.toList:=ltB_tri _ _ (by simpa [Lt] using e) (by simpa [Le,Lt] using h)
  unfold Lt at g ⊢
  rw[this]; exact g
theorem le_le {a b c:ByteArray} (h:Le a b) (g:Le b c):Le a c:=fun e=>(lt_le (le_lt g e) h).irr
theorem le_of {a b:ByteArray} (h:(Op.bytesLess a.toList b.toList||(a.toList == b.toList))=true):Le a b:=by
 rw[le_iff] at h
 unfold Le Lt
 simpa using h

/-! ### Lists in order -/
theorem at_eq {L:List Meta} {i:Nat} (h:i<L.length):at' L i=L[i]:=by
 have:=at_get h
 rw[List.getElem?_eq_getElem h] at this
 exact (Option.some.inj this).symm
theorem at_succ (m:Meta) (L:List Meta) {i:Nat} (h:i<L.length):at' (m::L) (i+1)=at' L i:=by
 rw[at_eq (L:=m::L) (by simpa using h),at_eq h]; rfl

theorem chain_pair {R:Meta→Meta→Prop} {Q:Meta→Prop} (ht:∀ x y z,Q y→R x y→R y z→R x z):∀ (L:List Meta),(∀ m∈L,Q m)→(∀ i,i+1<L.length→R (at' L i) (at' L (i+1)))→L.Pairwise R
 | [],_,_=> .nil
 | x::L,hQ,h=>by
  have ih:=chain_pair ht L (fun m hm=>hQ m (by simp[hm])) (fun i hi=>by
   have:=h (i+1) (by simpa using hi)
   rwa[at_succ x L (by omega),at_succ x L hi] at this)
  refine .cons (fun y hy=>?_) ih
  cases L with
  | nil=>simp at hy
  | cons z L=>
   have h0:R x z:=by
    have:=h 0 (by simp)
    rwa[at_succ x (z::L) (by simp)] at this
   rcases List.mem_cons.mp hy with rfl | hy
   ·exact h0
   ·exact ht x z y (hQ z (by simp)) h0 (List.rel_of_pairwise_cons ih hy)

def Disj (a b:Meta):Prop:=Lt a.high b.low∨Lt b.high a.low
theorem Disj.symm {a b:Meta} (h:Disj a b):Disj b a:=h.elim .inr .inl

theorem cOf_neg {n:Int} (hn:n≠0) (x y:Meta):cOf n x y<0↔Lt x.low y.low:=by
 unfold cOf Lt
 rw[if_neg (by simpa using hn)]
 cases h:Op.bytesLess x.low.toList y.low.toList with
 | true=>simp
 | false=>simp only[Bool.false_eq_true,if_false,iff_false]; split <;> omega
theorem cOf_ordr {n:Int} (hn:n≠0):Ordr (cOf n) (fun _=>True) where
 asym x y _ _ h g:=by
  rw[cOf_neg hn] at h g
  exact (h.trans g).irr
 trans x y z _ _ _ h g e:=by
  rw[cOf_neg hn] at h g e
  exact (lt_le e (le_le h (Le.refl _)) |> fun k=>g k)

theorem level_pair {n:Int} {files:List Meta} (hl:files.length≤1000000) (hok:∀ m∈files,Le m.low m.high) (h:levelOk n files=true):(files.filter fun m=>m.level == n).Pairwise Disj:=by
 have hp:=ofL_perm n hl
 refine (hp.pairwise_iff (fun h=>h.symm)).mp ?_
 have hmem:∀ m∈ofL n files,Le m.low m.high:=fun m hm=>hok m (List.mem_filter.mp (hp.mem_iff.mp hm)).1
 refine (chain_pair (R:=fun a b=>Lt a.high b.low) (Q:=fun m=>Le m.low m.high) (fun x y z hy h1 h2=>(lt_le h1 hy).trans h2) _ hmem fun i hi=>?_).imp fun h=> .inl h
 unfold levelOk at h
 rw[List.all_eq_true] at h
 exact h i (by simp; omega)

theorem pair_level {n:Int} (hn:n≠0) {files:List Meta} (hl:files.length≤1000000) (hok:∀ m∈files,Le m.low m.high) (h:(files.filter fun m=>m.level == n).Pairwise Disj):levelOk n files=true:=by
 have hp:=ofL_perm n hl
 have hfl:(files.filter fun m=>m.level == n).length≤1000000:=Nat.le_trans (List.length_filter_le _ _) hl
 have hs:Sorted (cOf n) (ofL n files) 0 (files.filter fun m=>m.level == n).length:=(sortOf_spec n hfl).2.2 _ (cOf_ordr hn) (fun _ _=>trivial)
 have hmem:∀ m∈ofL n files,Le m.low m.high:=fun m hm=>hok m (List.mem_filter.mp (hp.mem_iff.mp hm)).1
 have hpw:=(hp.pairwise_iff (fun h=>h.symm)).mpr h
 rw[List.pairwise_iff_getElem] at hpw
 unfold levelOk
 rw[List.all_eq_true]
 intro i hi
 have hi:i+1<(ofL n files).length:=by simp at hi; omega
 have h1:=hs i (i+1) (by omega) (by omega) (by rw[←hp.length_eq]; exact hi)
 rw[cOf_neg hn] at h1
 have h2:=hpw i (i+1) (by omega) hi (by omega)
 have e1:=at_eq (L:=ofL n files) (i:=i) (by omega)
 have e2:=at_eq hi
 rw[e1,e2] at h1 ⊢
 rcases h2 with h2 | h2
 ·exact h2
 ·exact absurd (le_lt (hmem _ (List.getElem_mem hi)) h2) h1

structure Right (v:Vers):Prop where
 log:v.log≥1∧v.log≤1073741824
 next:v.next≥1∧v.next≤1073741824
 seq:v.seq≤72057594037927935
 len:v.files.length≤1000
 ok:∀ m∈v.files,m.ok=true∧m.num<v.next
 up:v.files.Pairwise (fun a b=>a.num<b.num)
 lev:∀ n:Int,1≤n→n≤5→levelOk n v.files=true

theorem right_of {v:Vers} (h:Vers.check v=0):Right v:=by
 unfold Vers.check at h
 split at h
 ·cases h
 ·rename_i h1
  split at h
  ·cases h
  ·rename_i h2
   split at h
   ·cases h
   ·rename_i h3
    split at h
    ·rename_i h4
     have h3:(List.range v.files.length).all (fileOk v)=true:=Classical.byContradiction h3
     rw[List.all_eq_true] at h3
     have h5:∀ i,i<v.files.length→(at' v.files i).ok=true∧(at' v.files i).num<v.next∧(i=0∨(at' v.files (i - 1)).num<(at' v.files i).num):=fun i hi=>by
      have:=h3 i (by simpa using hi)
      simp only[fileOk,Bool.and_eq_true,decide_eq_true_eq,Bool.or_eq_true] at this
      exact ⟨this.1.1,this.1.2,this.2⟩
     refine ⟨by omega,by omega,by omega,by omega,fun m hm=>?_,?_,fun n n1 n5=>?_⟩
     ·obtain ⟨i,hi,e⟩:=List.getElem_of_mem hm
      have:=h5 i hi
      rw[at_eq hi,e] at this
      exact ⟨this.1,this.2.1⟩
     ·refine chain_pair (Q:=fun _=>True) (fun x y z _ h1 h2=>by omega) _ (fun _ _=>trivial) fun i hi=>?_
      have:=(h5 (i+1) hi).2.2
      rw[Nat.add_sub_cancel] at this
      exact this.resolve_left (by omega)
     ·rw[List.all_eq_true] at h4
      refine h4 n ?_
      have:n=1∨n=2∨n=3∨n=4∨n=5:=by omega
      rcases this with rfl | rfl | rfl | rfl | rfl <;> simp
    ·cases h

theorem of_right {v:Vers} (h:Right v):Vers.check v=0:=by
 obtain ⟨h1,h2,h3,h4,h5,h6,h7⟩:=h
 unfold Vers.check
 rw[if_neg (by omega),if_neg (by omega)]
 have hall:(List.range v.files.length).all (fileOk v)=true:=by
  rw[List.all_eq_true]
  intro i hi
  have hi:i<v.files.length:=by simpa using hi
  have:=h5 v.files[i] (List.getElem_mem hi)
  simp only[fileOk,Bool.and_eq_true,decide_eq_true_eq,Bool.or_eq_true]
  rw[at_eq hi]
  refine ⟨this,?_⟩
  by_cases e:i=0
  ·exact .inl e
  ·refine .inr ?_
   rw[at_eq (by omega)]
   exact List.pairwise_iff_getElem.mp h6 (i - 1) i (by omega) hi (by omega)
 rw[if_neg (by simp[hall]),if_pos]
 rw[List.all_eq_true]
 intro n hn
 refine h7 n ?_ ?_ <;> (simp at hn; omega)

theorem ok_le {m:Meta} (h:m.ok=true):Le m.low m.high:=by
 simp only[Meta.ok,Bool.and_eq_true] at h
 exact le_of h.1.1.1.1.2

end Go.Ax
