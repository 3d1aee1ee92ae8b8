/- What a right version is, in plain words. -/
import Derived.Test.YtjlipmcdnigfcaaDoorG32
set_option linter.unusedVariables false
set_option linter.unusedSimpArgs false
set_option linter.unusedSectionVars false
namespace Go.Ax
open Go.Proofs Go.RowKit
set_option maxRecDepth 100000
/-! ### Lists in order -/
theorem at_eq {L:List Meta} {i:Nat} (h:i<L.length):at' L i=L[i]:=by
 have:=at_get h
 rw[List.getElem?_eq_getElem h] at this
 exact (Option.some.inj this).symm
theorem at_succ (m:Meta) (L:List Meta) {i:Nat} (h:i<L.length):at' (m::L) (i+1)=at' L i:=by
 rw[at_eq (L:=m::L) (by simpa using h),at_eq h]; rfl

theorem chain_pair {R:Meta→Meta→Prop} {Q:Meta→Prop} (ht:∀ x y z,Q y→R x y→R y z→R x z):∀ (L:List Meta),(∀ m∈L,Q m)→(∀ i,i+1<L.length→R (at' L i) (at' L (i+1)))→L.Pairwise R
 | [],_,_=> .nil
 | x::L,hQ,h=>by
  have ih:=chain_pair ht L (fun m hm=>hQ m (by simp[hm])) (fun i hi=>by
   have:=h (i+1) (by simpa using hi)
   rwa[at_succ x L (by omega),at_succ x L hi] at this)
  refine .cons (fun y hy=>?_) ih
  cases L with
  | nil=>simp at hy
  | cons z L=>
   have h0:R x z:=by
    have:=h 0 (by simp)
    rwa[at_succ x (z::L) (by simp)] at this
   rcases List.mem_cons.mp hy with rfl | hy
   ·exact h0
   ·exact ht x z y (hQ z (by simp)) h0 (List.rel_of_pairwise_cons ih hy)

structure Right (v:Vers):Prop where
 log:v.log≥1∧v.log≤1073741824
 next:v.next≥1∧v.next≤1073741824
 seq:v.seq≤72057594037927935
 len:v.files.length≤1000
 ok:∀ m∈v.files,m.ok=true∧m.num<v.next
 up:v.files.Pairwise (fun a b=>a.num<b.num)
 lev:∀ n:Int,1≤n→n≤5→levelOk n v.files=true

theorem right_of {v:Vers} (h:Vers.check v=0):Right v:=by
 unfold Vers.check at h
 split at h
 ·cases h
 ·rename_i h1
  split at h
  ·cases h
  ·rename_i h2
   split at h
   ·cases h
   ·rename_i h3
    split at h
    ·rename_i h4
     have h3:(List.range v.files.length).all (fileOk v)=true:=Classical.byContradiction h3
     rw[List.all_eq_true] at h3
     have h5:∀ i,i<v.files.length→(at' v.files i).ok=true∧(at' v.files i).num<v.next∧(i=0∨(at' v.files (i - 1)).num<(at' v.files i).num):=fun i hi=>by
      have:=h3 i (by simpa using hi)
      simp only[fileOk,Bool.and_eq_true,decide_eq_true_eq,Bool.or_eq_true] at this
      exact ⟨this.1.1,this.1.2,this.2⟩
     refine ⟨by omega,by omega,by omega,by omega,fun m hm=>?_,?_,fun n n1 n5=>?_⟩
     ·obtain ⟨i,hi,e⟩:=List.getElem_of_mem hm
      have:=h5 i hi
      rw[at_eq hi,e] at this
      exact ⟨this.1,this.2.1⟩
     ·refine chain_pair (Q:=fun _=>True) (fun x y z _ h1 h2=>by omega) _ (fun _ _=>trivial) fun i hi=>?_
      have:=(h5 (i+1) hi).2.2
      rw[Nat.add_sub_cancel] at this
      exact this.resolve_left (by omega)
     ·rw[List.all_eq_true] at h4
      refine h4 n ?_
      have:n=1∨n=2∨n=3∨n=4∨n=5:=by omega
      rcases this with rfl | rfl | rfl | rfl | rfl <;> simp
    ·cases h

theorem of_right {v:Vers} (h:Right v):Vers.check v=0:=by
 obtain ⟨h1,h2,h3,h4,h5,h6,h7⟩:=h
 unfold Vers.check
 rw[if_neg (by omega),if_neg (by omega)]
 have hall:(List.range v.files.length).all (fileOk v)=true:=by
  rw[List.all_eq_true]
  intro i hi
  have hi:i<v.files.length:=by simpa using hi
  have:=h5 v.files[i] (List.getElem_mem hi)
  simp only[fileOk,Bool.and_eq_true,decide_eq_true_eq,Bool.or_eq_true]
  rw[at_eq hi]
  refine ⟨this,?_⟩
  by_cases e:i=0
  ·exact .inl e
  ·refine .inr ?_
   rw[at_eq (by omega)]
   exact List.pairwise_iff_getElem.mp h6 (i - 1) i (by omega) hi (by omega)
 rw[if_neg (by simp[hall]),if_pos]
 rw[List.all_eq_true]
 intro n hn
 refine h7 n ?_ ?_ <;> (simp at hn; omega)

end Go.Ax
