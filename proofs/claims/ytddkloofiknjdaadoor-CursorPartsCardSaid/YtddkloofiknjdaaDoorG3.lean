/- What one operation does in a world is what the second reading says: memory. -/
import Derived.Test.YtddkloofiknjdaaDoorG2
import Derived.Laws.IdiomCopy
import Derived.Deep.AppendSrc
import Derived.Laws.AppendOwn
import Derived.WalkKit
set_option linter.unusedVariables false
set_option linter.unusedSimpArgs false
set_option linter.unusedSectionVars false
namespace Go.Ax
open Go.RowKit

variable [Glob] {P : Program} {F : Nat → Prop}

def arrSet (us:Array Value) (o:Nat):List Value→Array Value
 | []=>us
 | v::r=>arrSet (us.setIfInBounds o v) (o+1) r

@[simp] theorem arrSet_size (us:Array Value) (o:Nat) (vs:List Value):(arrSet us o vs).size=us.size:=by
 induction vs generalizing us o with
 | nil=>rfl
 | cons v r ih=>simp[arrSet,ih]

theorem arrSet_out (us:Array Value) (o:Nat) (vs:List Value) (i:Nat) (h:i<o∨o+vs.length≤i):(arrSet us o vs)[i]? = us[i]? := by
 induction vs generalizing us o with
 | nil=>rfl
 | cons v r ih=>
  rw[arrSet,ih _ _ (by simp at h; omega),Array.getElem?_setIfInBounds_ne (by simp at h; omega)]

theorem arrSet_in (us:Array Value) (o:Nat) (vs:List Value) (j:Nat) (hj:j<vs.length) (hs:o+vs.length≤us.size):(arrSet us o vs)[o+j]? = vs[j]? := by
 induction vs generalizing us o j with
 | nil=>simp at hj
 | cons v r ih=>
  rw[arrSet]
  cases j with
  | zero=>
   rw[arrSet_out _ _ _ _ (by omega)]
   have hlt:o<us.size:=by simp at hs; omega
   simp[hlt]
  | succ j=>
   have:=ih (us.setIfInBounds o v) (o+1) j (by simpa using hj) (by simp at hs ⊢; omega)
   rw[show o+(j+1)=o+1+j by omega,this]
   rfl

theorem heap_setCells {w:World} {k:Nat} {us:Array Value} {e:TypeId} {fr:Nat×Nat} (o:Nat) (vs:List Value) (h:w.heap[k]? = some (.cells us e fr)):
  (w.setCells k o vs).heap[k]? = some (.cells (arrSet us o vs) e fr):=by
 induction vs generalizing w us o with
 | nil=>exact h
 | cons v r ih=>
  rw[World.setCells,arrSet]
  refine ih (o+1) ?_
  simp[World.setCell,Array.getElem?_modify,h]

theorem heap_setCells_other {w:World} {k i:Nat} (o:Nat) (vs:List Value) (h:i≠k):(w.setCells k o vs).heap[i]? = w.heap[i]? := by
 induction vs generalizing w o with
 | nil=>rfl
 | cons v r ih=>
  rw[World.setCells,ih]
  exact Below.heap_setCell w _ _ _ h

theorem setCells_rest {w:World} {k:Nat} (o:Nat) (vs:List Value):(w.setCells k o vs).heap.size=w.heap.size∧(w.setCells k o vs).os=w.os∧(w.setCells k o vs).tape=w.tape∧(w.setCells k o vs).output=w.output:=by
 induction vs generalizing w o with
 | nil=>exact ⟨rfl,rfl,rfl,rfl⟩
 | cons v r ih=>
  rw[World.setCells]
  obtain ⟨h1,h2,h3,h4⟩:=ih (w:=w.setCell ⟨k,o,none⟩ v) (o+1)
  exact ⟨by rw[h1]; simp[World.setCell],h2,h3,h4⟩

theorem shape_setCells {w:World} {k:Nat} (o:Nat) (vs:List Value) (i:Nat) {e:TypeId} {n:Nat} (h:w.shape? i=some (e,n)):(w.setCells k o vs).shape? i=some (e,n):=by
 by_cases hi:i=k
 ·subst hi
  unfold World.shape? at h ⊢
  split at h
  ·rename_i us e' fr hh
   rw[heap_setCells o vs hh]
   simpa using h
  ·cases h
 ·unfold World.shape? at h ⊢
  rw[heap_setCells_other o vs hi]
  exact h

theorem cell_of {w:World} {k:Nat} {us:Array Value} {e:TypeId} {fr:Nat×Nat} (h:w.heap[k]? = some (.cells us e fr)) (i:Nat):w.cell? ⟨k,i,none⟩=us[i]? := by
 simp[World.cell?,h]

theorem vleaf_one (u:Value):vleaf u=u.oneCell':=by cases u <;> rfl

theorem isAgg_run (t:TypeId) (w:World) {d:TypeDesc} (h:P.underlying t=some d):(isAgg t).run P w= .ok (isAggT P t) w:=by
 unfold isAgg isAggT
 simp only[Sem.run_bind,run_underlying h,Result.andThen_ok,h]
 cases d <;> rfl

theorem sizeT_info {t:TypeId} {n:Nat} (h:sizeT P t=some n):∃ i,P.info? t=some i∧i.size=n:=by
 unfold sizeT at h
 cases hi:P.info? t with
 | none=>rw[hi] at h; cases h
 | some i=>rw[hi] at h; exact ⟨i,rfl,by simpa using h⟩

theorem sizeOf_run {t:TypeId} {n:Nat} (w:World) (h:sizeT P t=some n):(sizeOf t).run P w= .ok n w:=by
 obtain ⟨i,hi,rfl⟩:=sizeT_info h
 simp[sizeOf,typeInfo,hi]

theorem exists_list {α:Type} (n:Nat) (p:Nat→α→Prop) (h:∀ i,i<n→∃ u,p i u):∃ us:List α,us.length=n∧∀ i u,us[i]? = some u→p i u:=by
 induction n with
 | zero=>exact ⟨[],rfl,fun i u hu=>by simp at hu⟩
 | succ n ih=>
  obtain ⟨us,hl,hp⟩:=ih (fun i hi=>h i (by omega))
  obtain ⟨u,hu⟩:=h n (by omega)
  refine ⟨us++ [u],by simp[hl],fun i v hv=>?_⟩
  rw[List.getElem?_append] at hv
  split at hv
  ·exact hp i v hv
  ·rename_i hge
   have hi:i=n:=by
    have:=(List.getElem?_eq_some_iff.1 hv).1
    simp at this; omega
   subst hi
   simp[hl] at hv
   subst hv
   exact hu

def HasUnd (P:Program) (t:TypeId):Prop:=∃ d,P.underlying t=some d

theorem undT_some {t:TypeId} (h:undT P t=true):HasUnd P t:=by
 unfold undT at h
 cases hd:P.underlying t with
 | none=>rw[hd] at h; cases h
 | some d=>exact ⟨d,hd⟩

theorem loadVar_run {B:List Box} {ρ:Loc} {w:World} {t:TypeId} {a:Addr} {cs:List AV} {v:AV} (h:∀ (i:Nat) (c:AV),cs[i]? = some c→∃ u,w.cell? (a.add i)=some u∧VRel F B ρ w c u)
  (hm:mkA P t cs=some v):∃ x,(loadVar t a).run P w= .ok x w∧VRel F B ρ w v x:=by
 unfold mkA at hm
 split at hm
 ·cases hm
 rename_i hu
 obtain ⟨d,hd⟩:=undT_some (P:=P) (t:=t) (by simpa using hu)
 unfold loadVar
 simp only[Sem.run_bind,isAgg_run t w hd,Result.andThen_ok]
 split at hm
 ·rename_i hagg
  rw[if_pos hagg]
  cases hn:sizeT P t with
  | none=>rw[hn] at hm; cases hm
  | some n=>
   rw[hn] at hm
   simp only[Option.bind_some] at hm
   split at hm
   ·rename_i hle
    cases hm
    obtain ⟨us,hl,hp⟩:=exists_list n (fun i u=>w.cell? (a.add i)=some u∧∀ c,cs[i]? = some c→VRel F B ρ w c u) (fun i hi=>by
     have hi':i<cs.length:=by omega
     obtain ⟨u,h1,h2⟩:=h i cs[i] (List.getElem?_eq_getElem hi')
     exact ⟨u,h1,fun c hc=>by rw[List.getElem?_eq_getElem hi'] at hc; cases hc; exact h2⟩)
    refine ⟨.agg us.toArray,?_, .agg _ _ (by simp; omega) (fun j p u hj hu=>?_)⟩
    ·have:=run_loadCells_list (P:=P) w a us (fun j u hj=>(hp j u hj).1)
     simp only[Sem.run_bind,sizeOf_run w hn,Result.andThen_ok]
     rw[←hl,this]
     rfl
    ·rw[List.getElem?_take] at hj
     split at hj
     ·exact (hp j u hu).2 p hj
     ·cases hj
   ·cases hm
 ·rename_i hagg
  rw[if_neg hagg]
  cases cs with
  | nil=>cases hm
  | cons c cs=>
   cases hm
   obtain ⟨u,h1,h2⟩:=h 0 v rfl
   refine ⟨u,?_,h2⟩
   have:a.add 0=a:=rfl
   rw[this] at h1
   simp[h1]

theorem Inv.cell {B:List Box} {ρ:Loc} {w:World} (h:Inv F B ρ w) {b:Nat} {row:Bool} {v:Nat} {cs:List AV} {k o:Nat} (hb:B[b]? = some (.cells row v cs)) (hr:ρ b=some (k,o)):
  ∃ us e fr,w.heap[k]? = some (.cells us e fr)∧o+cs.length≤us.size∧Fz us fr∧∀ (i:Nat) (c:AV),cs[i]? = some c→∃ u,us[o+i]? = some u∧VRel F B ρ w c u:=by
 rcases h.box b row v cs hb with ⟨h0,_⟩ | ⟨k',o',us,e,fr,h1,h2⟩
 ·rw[hr] at h0; cases h0
 ·rw[hr] at h1; cases h1; exact ⟨us,e,fr,h2⟩

theorem loadAt_run {B:List Box} {ρ:Loc} {w:World} (hI:Inv F B ρ w) {t:TypeId} {x:AV} {u:Value} {v:AV} (hx:VRel F B ρ w x u) (hm:loadA P t B x=some v):
  ∃ y,(Instr.loadAt t u).run P w= .ok y w∧VRel F B ρ w v y:=by
 cases hx <;> simp only[loadA] at hm <;> try (cases hm; done)
 ·rename_i b ver o a hp
  split at hm
  ·rename_i row vv cs hb
   split at hm
   ·rename_i hv
    have hv':ver=vv:=Nat.eq_of_beq_eq_true hv
    obtain ⟨k,o',hr,rfl⟩:=(hp.2 row vv cs hb).2 hv'
    obtain ⟨us,e,fr,h1,h2,h3,h4⟩:=hI.cell hb hr
    have:=loadVar_run (P:=P) (a:=⟨k,o'+o,none⟩) (fun i c hc=>by
     rw[List.getElem?_drop] at hc
     obtain ⟨u,e1,e2⟩:=h4 _ c hc
     refine ⟨u,?_,e2⟩
     rw[Addr.add_lit,cell_of h1]
     rw[show o'+o+i=o'+(o+i) by omega]
     exact e1) hm
    simpa [Instr.loadAt,Instr.sureAddr] using this
   ·cases hm
  ·cases hm
 ·rename_i cs a us h1 h2 h3 h4 h5 h6
  have:=loadVar_run (P:=P) (a:=a) (fun i c hc=>by
   rw[List.getElem?_map] at hc
   cases hcs:cs[i]? with
   | none=>rw[hcs] at hc; cases hc
   | some q=>
    rw[hcs] at hc
    cases hc
    have hi:i<us.length:=by rw[←h4]; exact (List.getElem?_eq_some_iff.1 hcs).1
    exact ⟨us[i],h5 i _ (List.getElem?_eq_getElem hi), .p _ _ (h6 i q _ hcs (List.getElem?_eq_getElem hi))⟩) hm
  simpa [Instr.loadAt,Instr.sureAddr] using this

theorem own_set {B:List Box} {ρ:Loc} {b:Nat} {row:Bool} {v v':Nat} {cs cs':List AV} (hb:B[b]? = some (.cells row v cs)) (k:Nat):Own F (B.set b (.cells row v' cs')) ρ k↔Own F B ρ k:=by
 have hlt:b<B.length:=(List.getElem?_eq_some_iff.1 hb).1
 constructor
 ·rintro (hF | ⟨c,x,l,h1,h2,h3⟩)
  ·exact .inl hF
  rw[List.getElem?_set] at h1
  split at h1
  ·rename_i e; subst e
   simp only[hlt,if_true,Option.some.injEq] at h1
   subst h1
   exact .inr ⟨_,_,l,hb,h2,h3⟩
  ·exact .inr ⟨c,_,l,h1,h2,h3⟩
 ·rintro (hF | ⟨c,x,l,h1,h2,h3⟩)
  ·exact .inl hF
  by_cases e:b=c
  ·subst e
   rw[hb] at h1; cases h1
   exact .inr ⟨b, .cells row v' cs',l,by rw[List.getElem?_set]; simp[hlt],h2,h3⟩
  ·exact .inr ⟨c,x,l,by rw[List.getElem?_set,if_neg e]; exact h1,h2,h3⟩

theorem splice_get (cs:List AV) (o:Nat) (new:List AV) (h:o+new.length≤cs.length) (i:Nat):
  (splice cs o new)[i]? = if i<o then cs[i]? else if i<o+new.length then new[i - o]? else cs[i]? := by
 unfold splice
 have h1:(cs.take o).length=o:=by simp; omega
 rw[List.getElem?_append,h1]
 split
 ·rw[List.getElem?_take,if_pos (by assumption)]
 ·rename_i h2
  rw[List.getElem?_append]
  split
  ·rw[if_pos (by omega)]
  ·rw[if_neg (by omega),List.getElem?_drop]
   congr 1
   omega

theorem splice_length (cs:List AV) (o:Nat) (new:List AV) (h:o+new.length≤cs.length):(splice cs o new).length=cs.length:=by
 simp[splice]; omega

theorem ext_set {B:List Box} {ρ:Loc} {w:World} {b k o:Nat} {row:Bool} {v:Nat} {cs cs':List AV} (hb:B[b]? = some (.cells row v cs)) (hr:ρ b=some (k,o)) (hl:cs'.length=cs.length) (hF:¬F k) (q:Nat) (vs:List Value):
  Ext F B ρ w (B.set b (.cells row v cs')) ρ (w.setCells k q vs):=by
 have hlt:b<B.length:=(List.getElem?_eq_some_iff.1 hb).1
 obtain ⟨r1,r2,r3,r4⟩:=setCells_rest (w:=w) (k:=k) q vs
 refine ⟨Nat.le_of_eq r1.symm,r2,r3,r4,fun i hi ho=>⟨?_,fun h=>ho ((own_set hb i).1 h)⟩,fun i e n h=>shape_setCells q vs i h,by simp,fun c row' v' cs'' hc h=>?_,fun c cs'' Φ hc h=>?_,fun i hi _=>heap_setCells_other q vs (fun e=>hF (e▸hi))⟩
 ·refine heap_setCells_other q vs (fun e=>ho ?_)
  subst e
  exact .cells hb hr
 ·rw[List.getElem?_set] at h
  split at h
  ·rename_i e
   subst e
   simp only[hlt,if_true,Option.some.injEq,Box.cells.injEq] at h
   obtain ⟨rfl,rfl,rfl⟩:=h
   exact ⟨v,cs,hb,Nat.le_refl _,fun _=>⟨rfl,hl⟩⟩
  ·exact ⟨v',cs'',h,Nat.le_refl _,fun _=>⟨rfl,rfl⟩⟩
 ·rw[List.getElem?_set] at h
  split at h
  ·rename_i e; subst e; simp[hlt] at h
  ·exact ⟨cs'',Φ,h,rfl⟩

theorem Inv.otherx {B:List Box} {ρ ρ':Loc} {w w':World} (hI:Inv F B ρ w) {b:Nat} {X0 X:Box} (hb:B[b]? = some X0)
  (hE:Ext F B ρ w (B.set b X) ρ' w') (hρ:∀ c,c≠b→ρ' c=ρ c)
  (hheap:∀ c x l k,c≠b→B[c]? = some x→ρ c=some l→x.has l k→w'.heap[k]? = w.heap[k]?)
  (hinj:∀ c x l l' k,c≠b→B[c]? = some x→ρ c=some l→x.has l k→ρ' b=some l'→X.has l' k→False)
  (hFb:∀ l k,ρ' b=some l→X.has l k→¬F k)
  (hnew:∀ row v cs,X= .cells row v cs→cs.all AV.leaf=true∧((ρ' b=none∧row=true∧cs= [])∨∃ k o us e fr,ρ' b=some (k,o)∧w'.heap[k]? = some (.cells us e fr)∧o+cs.length≤us.size∧Fz us fr ∧
   ∀ (i:Nat) (c:AV),cs[i]? = some c→∃ u,us[o+i]? = some u∧VRel F (B.set b X) ρ' w' c u))
  (hoff:∀ v cs k o,X= .cells false v cs→ρ' b=some (k,o)→o=0)
  (hobj:∀ cs Φ,X= .obj cs Φ→∃ k o us,ρ' b=some (k,o)∧Φ.holds us (fun j=>o.testBit j=true) k w'∧cs.length=us.length∧∀ (i:Nat) (c:AV) (u:Value),cs[i]? = some c→us[i]? = some u→VRel F (B.set b X) ρ' w' c u):Inv F (B.set b X) ρ' w':=by
 have hlt:b<B.length:=(List.getElem?_eq_some_iff.1 hb).1
 have at_:∀ {c:Nat} {x:Box},(B.set b X)[c]? = some x→(c=b∧x=X)∨(c≠b∧B[c]? = some x):=by
  intro c x h
  rw[List.getElem?_set] at h
  split at h
  ·rename_i e
   subst e
   simp only[hlt,if_true,Option.some.injEq] at h
   exact .inl ⟨rfl,h.symm⟩
  ·rename_i e
   exact .inr ⟨fun h=>e h.symm,h⟩
 refine ⟨fun c row1 v1 cs1 hc=>?_,fun c row1 v1 cs1 hc=>?_,fun c cs1 Φ1 hc=>?_,fun c c' x x' l l' k q1 q2 q3 q4 q5 q6=>?_,fun k hF=>Nat.lt_of_lt_of_le (hI.bound k hF) hE.size,fun c x l k hc hr hx=>?_,fun g hg=>(hI.glob g hg).ext hE,fun c v2 cs2 k o hc hr=>?_⟩
 ·rcases at_ hc with ⟨rfl,e⟩ | ⟨hne,hc⟩
  ·exact (hnew _ _ _ e.symm).2
  ·rcases hI.box c row1 v1 cs1 hc with ⟨g1,g2,g3⟩ | ⟨k2,o2,us2,e2,fr2,g1,g2,g3,g4,g5⟩
   ·exact .inl ⟨(hρ c hne).trans g1,g2,g3⟩
   ·have hk:=hheap c _ _ k2 hne hc g1 rfl
    refine .inr ⟨k2,o2,us2,e2,fr2,(hρ c hne).trans g1,hk.trans g2,g3,g4,fun i c hc=>?_⟩
    ·obtain ⟨u,f1,f2⟩:=g5 i c hc
     exact ⟨u,f1,f2.ext hE⟩
 ·rcases at_ hc with ⟨rfl,e⟩ | ⟨_,hc⟩
  ·exact (hnew _ _ _ e.symm).1
  ·exact hI.leaf _ _ _ _ hc
 ·rcases at_ hc with ⟨rfl,e⟩ | ⟨hne,hc⟩
  ·exact hobj _ _ e.symm
  ·obtain ⟨k,o,us,g1,g2,g3,g4⟩:=hI.obox c cs1 Φ1 hc
   exact ⟨k,o,us,(hρ c hne).trans g1,Φ1.frame _ _ _ _ _ g2 (fun j hj=>hheap c _ _ j hne hc g1 hj),g3,fun i c u h1 h2=>(g4 i c u h1 h2).ext hE⟩
 ·rcases at_ q1 with ⟨rfl,rfl⟩ | ⟨n1,p1⟩ <;> rcases at_ q2 with ⟨rfl,rfl⟩ | ⟨n2,p2⟩
  ·rfl
  ·exact (hinj c' _ _ _ k n2 p2 ((hρ c' n2).symm.trans q4) q6 q3 q5).elim
  ·exact (hinj c _ _ _ k n1 p1 ((hρ c n1).symm.trans q3) q5 q4 q6).elim
  ·exact hI.injx c c' _ _ _ _ k p1 p2 ((hρ c n1).symm.trans q3) ((hρ c' n2).symm.trans q4) q5 q6
 ·rcases at_ hc with ⟨rfl,rfl⟩ | ⟨hne,hc⟩
  ·exact hFb l k hr hx
  ·exact hI.farx c _ _ k hc ((hρ c hne).symm.trans hr) hx
 ·rcases at_ hc with ⟨rfl,e⟩ | ⟨hne,hc⟩
  ·exact hoff _ _ k o e.symm hr
  ·exact hI.off0 c _ _ k o hc ((hρ c hne).symm.trans hr)

theorem Inv.other {B:List Box} {ρ ρ':Loc} {w w':World} (hI:Inv F B ρ w) {b:Nat} {row row':Bool} {v v':Nat} {cs cs':List AV} (hb:B[b]? = some (.cells row v cs))
  (hE:Ext F B ρ w (B.set b (.cells row' v' cs')) ρ' w') (hρ:∀ c,c≠b→ρ' c=ρ c) (hlf:cs'.all AV.leaf=true)
  (hheap:∀ c x l k,c≠b→B[c]? = some x→ρ c=some l→x.has l k→w'.heap[k]? = w.heap[k]?)
  (hinj:∀ c x l k o',c≠b→B[c]? = some x→ρ c=some l→x.has l k→ρ' b=some (k,o')→False)
  (hFb:∀ k o,ρ' b=some (k,o)→¬F k) (hoff:∀ k o,row'=false→ρ' b=some (k,o)→o=0)
  (hnew:(ρ' b=none∧row'=true∧cs'= [])∨∃ k o us e fr,ρ' b=some (k,o)∧w'.heap[k]? = some (.cells us e fr)∧o+cs'.length≤us.size∧Fz us fr ∧
   ∀ (i:Nat) (c:AV),cs'[i]? = some c→∃ u,us[o+i]? = some u∧VRel F (B.set b (.cells row' v' cs')) ρ' w' c u):Inv F (B.set b (.cells row' v' cs')) ρ' w':=
 hI.otherx hb hE hρ hheap (fun c x l l' k h1 h2 h3 h4 h5 h6=>hinj c x l k l'.2 h1 h2 h3 h4 (by have e:k=l'.1:=h6; rw[e]; exact h5))
  (fun l k h1 h2=>hFb k l.2 (by have e:k=l.1:=h2; rw[e]; exact h1)) (fun _ _ _ e=>by cases e; exact ⟨hlf,hnew⟩) (fun _ _ k o e h=>by cases e; exact hoff k o rfl h) (fun _ _ e=>by cases e)

theorem storeAt_run {B B':List Box} {ρ:Loc} {w:World} (hI:Inv F B ρ w) {t:TypeId} {x y:AV} {u z:Value} (hx:VRel F B ρ w x u) (hy:VRel F B ρ w y z) (hm:storeA P t B y x=some B'):
  ∃ w',(Instr.storeAt t u z).run P w= .ok () w'∧Inv F B' ρ w'∧Ext F B ρ w B' ρ w':=by
 cases hx <;> simp only[storeA] at hm <;> try (cases hm; done)
 rename_i b ver o a hp
 split at hm
 ·rename_i row vv cs hb
  split at hm
  ·rename_i hc
   cases hm
   simp only[Bool.and_eq_true,beq_iff_eq,Nat.ble_eq] at hc
   obtain ⟨⟨⟨hv,hsz⟩,hle⟩,hlf⟩:=hc
   have hv':ver=vv:=Nat.eq_of_beq_eq_true hv
   subst hv'
   obtain ⟨k,o',hr,rfl⟩:=(hp.2 row ver cs hb).2 rfl
   obtain ⟨us,e,fr,h1,h2,h3,h4⟩:=hI.cell hb hr
   obtain ⟨hcl,hcr⟩:=hy.cells hlf
   have hlt:b<B.length:=hp.1
   have hlf':∀ q∈z.cells.toList,q.oneCell'=true:=fun q hq=>by
    obtain ⟨j,hj⟩:=List.getElem?_of_mem hq
    have hj':z.cells[j]? = some q:=by simpa using hj
    have hjl:j<y.cells.length:=by rw[hcl]; exact (Array.getElem?_eq_some_iff.1 hj').1
    have:=hcr j y.cells[j] q (List.getElem?_eq_getElem hjl) hj'
    rw[←vleaf_one]
    exact leaf_of_vrel this (List.all_eq_true.1 hlf _ (List.getElem_mem hjl))
   have hE:Ext F B ρ w (B.set b (.cells row ver (splice cs o y.cells))) ρ (w.setCells k (o'+o) z.cells.toList):=ext_set hb hr (splice_length _ _ _ hle) (hI.farb _ _ _ _ _ _ hb hr) _ _
   refine ⟨w.setCells k (o'+o) z.cells.toList,?_,?_,hE⟩
   ·have hst:=run_storeCells_cells (P:=P) k (o'+o) z.cells.toList 0 w (fun j hj=>by
     rw[Nat.add_zero,cell_of h1]
     have hj2:j<z.cells.size:=by simpa using hj
     have:o'+o+j<us.size:=by omega
     rw[Array.getElem?_eq_getElem this]; rfl) (fun j hj=>by
     rw[Nat.add_zero]
     have hj2:j<z.cells.size:=by simpa using hj
     exact h3.no h1 _ (by omega)) hlf'
    obtain ⟨i,hi,hisz⟩:=sizeT_info hsz
    have hne:¬(z.cells.size≠i.size):=by rw[hisz,hcl]; simp
    simp only[Instr.storeAt,Instr.sureAddr,storeVar,Sem.run_bind,Sem.run_pure,Result.andThen_ok,sizeOf,typeInfo,run_program,hi]
    simp only[Sem.run_pure,Result.andThen_ok,hne,if_false]
    simpa using hst
   ·refine hI.other hb hE (fun _ _=>rfl) ?_ (fun c x l k2 hne hc hl hx=>heap_setCells_other _ _ (fun e=>hne (hI.injx _ _ _ _ _ _ k hc hb hl hr (e▸hx) rfl)))
     (fun c x l k2 o3 hne hc hl hx hk'=>hne (hI.injx _ _ _ _ _ _ k2 hc hb hl hk' hx rfl)) (fun k2 o2 h2=>hI.farb _ _ _ _ _ _ hb h2) (fun k2 o2 h0 h2=>by subst h0; exact hI.off0 _ _ _ _ _ hb h2) (.inr ⟨k,o',_,e,fr,hr,heap_setCells _ _ h1,by rw[arrSet_size,splice_length _ _ _ hle]; exact h2,h3.size (arrSet_size _ _ _),fun i c hc=>?_⟩)
    ·have hcs:=hI.leaf _ _ _ _ hb
     rw[List.all_eq_true] at hcs hlf ⊢
     intro q hq
     unfold splice at hq
     rcases List.mem_append.1 hq with hq | hq
     ·exact hcs q (List.mem_of_mem_take hq)
     ·rcases List.mem_append.1 hq with hq | hq
      ·exact hlf q hq
      ·exact hcs q (List.mem_of_mem_drop hq)
    ·rw[splice_get _ _ _ hle] at hc
     have out:cs[i]? = some c→(i<o∨o+y.cells.length≤i)→∃ u,(arrSet us (o'+o) z.cells.toList)[o'+i]? = some u∧VRel F (B.set b (.cells row ver (splice cs o y.cells))) ρ (w.setCells k (o'+o) z.cells.toList) c u:=by
      intro hci hio
      obtain ⟨u,e1,e2⟩:=h4 i c hci
      refine ⟨u,?_,e2.ext hE⟩
      rw[arrSet_out _ _ _ _ (by simp; omega)]
      exact e1
     split at hc
     ·exact out hc (.inl (by assumption))
     ·split at hc
      ·rename_i n1 n2
       have hj:i - o<z.cells.size:=by omega
       refine ⟨z.cells[i - o],?_,(hcr (i - o) c _ hc (Array.getElem?_eq_getElem hj)).ext hE⟩
       have:=arrSet_in us (o'+o) z.cells.toList (i - o) (by simpa using hj) (by simp; omega)
       rw[show o'+o+(i - o)=o'+i by omega] at this
       rw[this]
       simp[hj]
      ·exact out hc (.inr (by omega))
  ·cases hm
 ·cases hm

theorem ext_newx {B:List Box} {ρ:Loc} {w w':World} (X:Box) (l:Option (Nat×Nat)) (hl:∀ l' k,l=some l'→X.has l' k→w.heap.size≤k)
  (hs:w.heap.size≤w'.heap.size) (ho:w'.os=w.os) (ht:w'.tape=w.tape) (hp:w'.output=w.output) (hk:∀ k,k<w.heap.size→w'.heap[k]? = w.heap[k]?):
  Ext F B ρ w (B++ [X]) (fun b=>if b=B.length then l else ρ b) w':=by
 refine ⟨hs,ho,ht,hp,fun k hlt hno=>⟨hk k hlt,?_⟩,fun k e n h=>?_,by simp,fun b row' v cs' hb h=>?_,fun b cs' Φ hb h=>?_,fun k _ hlt=>hk k hlt⟩
 ·rintro (hF | ⟨b,x,l',h1,h2,h3⟩)
  ·exact hno (.inl hF)
  by_cases e:b=B.length
  ·subst e
   simp only[if_true] at h2
   simp at h1
   subst h1
   have:=hl l' k h2 h3
   omega
  ·simp only[e,if_false] at h2
   have hb:b<B.length:=by
    have:=(List.getElem?_eq_some_iff.1 h1).1
    simp at this; omega
   rw[List.getElem?_append_left hb] at h1
   exact hno (.inr ⟨b,x,l',h1,h2,h3⟩)
 ·have hlt:k<w.heap.size:=by
   unfold World.shape? at h
   split at h
   ·rename_i hh; exact (Array.getElem?_eq_some_iff.1 hh).1
   ·cases h
  unfold World.shape? at h ⊢
  rw[hk k hlt]
  exact h
 ·rw[List.getElem?_append_left hb] at h
  refine ⟨v,cs',h,Nat.le_refl _,fun _=>⟨?_,rfl⟩⟩
  have:b≠B.length:=by omega
  simp[this]
 ·rw[List.getElem?_append_left hb] at h
  refine ⟨cs',Φ,h,?_⟩
  have:b≠B.length:=by omega
  simp[this]

theorem ext_new {B:List Box} {ρ:Loc} {w w':World} (row:Bool) (cs:List AV) (l:Option (Nat×Nat)) (hl:∀ k o,l=some (k,o)→w.heap.size≤k)
  (hs:w.heap.size≤w'.heap.size) (ho:w'.os=w.os) (ht:w'.tape=w.tape) (hp:w'.output=w.output) (hk:∀ k,k<w.heap.size→w'.heap[k]? = w.heap[k]?) (hdom:∀ b,B.length≤b→True):
  Ext F B ρ w (B++ [.cells row 0 cs]) (fun b=>if b=B.length then l else ρ b) w':=
 ext_newx _ l (fun l' k h1 h2=>hl k l'.2 (by have e:k=l'.1:=h2; rw[e]; exact h1)) hs ho ht hp hk

theorem Inv.newx {B:List Box} {ρ:Loc} {w w':World} (hI:Inv F B ρ w) {X:Box} {l:Option (Nat×Nat)}
  (hE:Ext F B ρ w (B++ [X]) (fun b=>if b=B.length then l else ρ b) w') (hl:∀ l' k,l=some l'→X.has l' k→w.heap.size≤k)
  (hk:∀ k,k<w.heap.size→w'.heap[k]? = w.heap[k]?)
  (hnew:∀ row v cs,X= .cells row v cs→cs.all AV.leaf=true∧((l=none∧row=true∧cs= [])∨∃ k o us e fr,l=some (k,o)∧w'.heap[k]? = some (.cells us e fr)∧o+cs.length≤us.size∧Fz us fr ∧
   ∀ (i:Nat) (c:AV),cs[i]? = some c→∃ u,us[o+i]? = some u∧VRel F (B++ [X]) (fun b=>if b=B.length then l else ρ b) w' c u))
  (hoff:∀ v cs k o,X= .cells false v cs→l=some (k,o)→o=0)
  (hobj:∀ cs Φ,X= .obj cs Φ→∃ k o us,l=some (k,o)∧Φ.holds us (fun j=>o.testBit j=true) k w'∧cs.length=us.length∧∀ (i:Nat) (c:AV) (u:Value),cs[i]? = some c→us[i]? = some u→VRel F (B++ [X]) (fun b=>if b=B.length then l else ρ b) w' c u):
  Inv F (B++ [X]) (fun b=>if b=B.length then l else ρ b) w':=by
 have at_:∀ {c:Nat} {x:Box},(B++ [X])[c]? = some x→(c=B.length∧x=X)∨(c≠B.length∧B[c]? = some x):=by
  intro c x h
  by_cases e:c<B.length
  ·rw[List.getElem?_append_left e] at h
   exact .inr ⟨by omega,h⟩
  ·have hc:c=B.length:=by
    have:=(List.getElem?_eq_some_iff.1 h).1
    simp at this; omega
   subst hc
   simp at h
   exact .inl ⟨rfl,h.symm⟩
 refine ⟨fun c row1 v1 cs1 hc=>?_,fun c row1 v1 cs1 hc=>?_,fun c cs1 Φ1 hc=>?_,fun c c' x x' l1 l2 k q1 q2 q3 q4 q5 q6=>?_,fun k hF=>Nat.lt_of_lt_of_le (hI.bound k hF) hE.size,fun c x l1 k hc hr hx hF=>?_,fun g hg=>(hI.glob g hg).ext hE,fun c v2 cs2 k o hc hr=>?_⟩
 ·rcases at_ hc with ⟨rfl,e⟩ | ⟨hne,hc⟩
  ·simpa using (hnew _ _ _ e.symm).2
  ·rcases hI.box c row1 v1 cs1 hc with ⟨g1,g2,g3⟩ | ⟨k2,o2,us2,e2,fr2,g1,g2,g3,g4,g5⟩
   ·exact .inl ⟨by simpa [hne] using g1,g2,g3⟩
   ·have hlt:k2<w.heap.size:=(Array.getElem?_eq_some_iff.1 g2).1
    refine .inr ⟨k2,o2,us2,e2,fr2,by simpa [hne] using g1,(hk _ hlt).trans g2,g3,g4,fun i c hc=>?_⟩
    ·obtain ⟨u,f1,f2⟩:=g5 i c hc
     exact ⟨u,f1,f2.ext hE⟩
 ·rcases at_ hc with ⟨rfl,e⟩ | ⟨_,hc⟩
  ·exact (hnew _ _ _ e.symm).1
  ·exact hI.leaf _ _ _ _ hc
 ·rcases at_ hc with ⟨rfl,e⟩ | ⟨hne,hc⟩
  ·simpa using hobj _ _ e.symm
  ·obtain ⟨k,o,us,g1,g2,g3,g4⟩:=hI.obox c cs1 Φ1 hc
   exact ⟨k,o,us,by simpa [hne] using g1,Φ1.frame _ _ _ _ _ g2 (fun j hj=>hk j (Φ1.low _ _ _ _ j g2 hj)),g3,fun i c u h1 h2=>(g4 i c u h1 h2).ext hE⟩
 ·have low:∀ {c x l1},c≠B.length→B[c]? = some x→(if c=B.length then l else ρ c)=some l1→x.has l1 k→k<w.heap.size∧ρ c=some l1:=by
   intro c x l1 hne hc hr hx
   rw[if_neg hne] at hr
   exact ⟨hI.haslt hc hr hx,hr⟩
  rcases at_ q1 with ⟨rfl,rfl⟩ | ⟨n1,p1⟩ <;> rcases at_ q2 with ⟨rfl,rfl⟩ | ⟨n2,p2⟩
  ·rfl
  ·have:=(low n2 p2 q4 q6).1
   simp at q3
   have:=hl _ _ q3 q5
   omega
  ·have:=(low n1 p1 q3 q5).1
   simp at q4
   have:=hl _ _ q4 q6
   omega
  ·exact hI.injx c c' _ _ _ _ k p1 p2 (low n1 p1 q3 q5).2 (low n2 p2 q4 q6).2 q5 q6
 ·rcases at_ hc with ⟨rfl,rfl⟩ | ⟨hne,hc⟩
  ·simp at hr
   have h1:=hl _ _ hr hx
   have h2:=hI.bound k hF
   omega
  ·exact hI.farx c _ _ k hc (by simpa [hne] using hr) hx hF
 ·rcases at_ hc with ⟨rfl,e⟩ | ⟨hne,hc⟩
  ·exact hoff _ _ k o e.symm (by simpa using hr)
  ·exact hI.off0 c _ _ k o hc (by simpa [hne] using hr)

theorem Inv.new {B:List Box} {ρ:Loc} {w w':World} (hI:Inv F B ρ w) {row:Bool} {cs:List AV} {l:Option (Nat×Nat)}
  (hE:Ext F B ρ w (B++ [.cells row 0 cs]) (fun b=>if b=B.length then l else ρ b) w') (hlf:cs.all AV.leaf=true) (hl:∀ k o,l=some (k,o)→w.heap.size≤k) (hoff:∀ k o,row=false→l=some (k,o)→o=0)
  (hk:∀ k,k<w.heap.size→w'.heap[k]? = w.heap[k]?)
  (hnew:(l=none∧row=true∧cs= [])∨∃ k o us e fr,l=some (k,o)∧w'.heap[k]? = some (.cells us e fr)∧o+cs.length≤us.size∧Fz us fr ∧
   ∀ (i:Nat) (c:AV),cs[i]? = some c→∃ u,us[o+i]? = some u∧VRel F (B++ [.cells row 0 cs]) (fun b=>if b=B.length then l else ρ b) w' c u):
  Inv F (B++ [.cells row 0 cs]) (fun b=>if b=B.length then l else ρ b) w':=
 hI.newx hE (fun l' k h1 h2=>hl k l'.2 (by have e:k=l'.1:=h2; rw[e]; exact h1)) hk (fun _ _ _ e=>by cases e; exact ⟨hlf,hnew⟩) (fun _ _ k o e h=>by cases e; exact hoff k o rfl h) (fun _ _ e=>by cases e)

end Go.Ax

namespace Go.Ax
open Go.RowKit

variable [Glob] {P : Program} {F : Nat → Prop}

theorem new_box' {B:List Box} {ρ:Loc} {w w':World} (hI:Inv F B ρ w) (row:Bool) {cs:List AV} {us:Array Value} {e:TypeId} {fr:Nat×Nat} (hlf:cs.all AV.leaf=true) (hl:cs.length≤us.size)
  (hc:∀ (i:Nat) (c:AV),cs[i]? = some c→∃ u,us[i]? = some u∧VRel F B ρ w c u) (hfr:Fz us fr)
  (hk:∀ k,k<w.heap.size→w'.heap[k]? = w.heap[k]?) (hnew:w'.heap[w.heap.size]? = some (.cells us e fr)) (ho:w'.os=w.os) (ht:w'.tape=w.tape) (hp:w'.output=w.output):
  Inv F (B++ [.cells row 0 cs]) (fun b=>if b=B.length then some (w.heap.size,0) else ρ b) w'∧Ext F B ρ w (B++ [.cells row 0 cs]) (fun b=>if b=B.length then some (w.heap.size,0) else ρ b) w':=by
 have hl1:∀ k o,some (w.heap.size,0)=some (k,o)→w.heap.size≤k:=fun k o h=>by cases h; exact Nat.le_refl _
 have hsz:w.heap.size≤w'.heap.size:=Nat.le_of_lt (Array.getElem?_eq_some_iff.1 hnew).1
 have hE:Ext F B ρ w (B++ [.cells row 0 cs]) (fun b=>if b=B.length then some (w.heap.size,0) else ρ b) w':=
  ext_new row cs (some (w.heap.size,0)) hl1 hsz ho ht hp hk (fun _ _=>trivial)
 refine ⟨hI.new hE hlf hl1 (fun k o _ h=>by cases h; rfl) hk (.inr ⟨w.heap.size,0,us,e,fr,rfl,hnew,by omega,hfr,fun i c hci=>?_⟩),hE⟩
 obtain ⟨u,h1,h2⟩:=hc i c hci
 exact ⟨u,by simpa using h1,h2.ext hE⟩

theorem new_box {B:List Box} {ρ:Loc} {w w':World} (hI:Inv F B ρ w) (row:Bool) {cs:List AV} {us:Array Value} {e:TypeId} {fr:Nat×Nat} (hlf:cs.all AV.leaf=true) (hl:cs.length≤us.size)
  (hc:∀ (i:Nat) (c:AV),cs[i]? = some c→∃ u,us[i]? = some u∧VRel F B ρ w c u) (hfr:Fz us fr)
  (hh:w'.heap=w.heap.push (.cells us e fr)) (ho:w'.os=w.os) (ht:w'.tape=w.tape) (hp:w'.output=w.output):
  Inv F (B++ [.cells row 0 cs]) (fun b=>if b=B.length then some (w.heap.size,0) else ρ b) w'∧Ext F B ρ w (B++ [.cells row 0 cs]) (fun b=>if b=B.length then some (w.heap.size,0) else ρ b) w':=
 new_box' (us:=us) (e:=e) (fr:=fr) hI row hlf hl hc hfr (fun k hk=>by rw[hh,Array.getElem?_push,if_neg (by omega)]) (by rw[hh]; simp) ho ht hp

theorem new_nil {B:List Box} {ρ:Loc} {w:World} (hI:Inv F B ρ w):Inv F (B++ [.cells true 0 []]) (fun b=>if b=B.length then none else ρ b) w∧Ext F B ρ w (B++ [.cells true 0 []]) (fun b=>if b=B.length then none else ρ b) w:=by
 have hE:Ext F B ρ w (B++ [.cells true 0 []]) (fun b=>if b=B.length then none else ρ b) w:=ext_new true [] none (fun _ _ h=>by cases h) (Nat.le_refl _) rfl rfl rfl (fun _ _=>rfl) (fun _ _=>trivial)
 exact ⟨hI.new hE rfl (fun _ _ h=>by cases h) (fun _ _ h=>by cases h) (fun _ _=>rfl) (.inl ⟨rfl,rfl,rfl⟩),hE⟩

def CellsRel (F:Nat→Prop) (B:List Box) (ρ:Loc) (w:World) (cs:List AV) (us:Array Value):Prop:=
 cs.length=us.size∧∀ (i:Nat) (c:AV) (u:Value),cs[i]? = some c→us[i]? = some u→VRel F B ρ w c u

theorem CellsRel.get {B:List Box} {ρ:Loc} {w:World} {cs:List AV} {us:Array Value} (h:CellsRel F B ρ w cs us) (i:Nat) (c:AV) (hc:cs[i]? = some c):∃ u,us[i]? = some u∧VRel F B ρ w c u:=by
 have hi:i<us.size:=by rw[←h.1]; exact (List.getElem?_eq_some_iff.1 hc).1
 exact ⟨us[i],Array.getElem?_eq_getElem hi,h.2 i c _ hc (Array.getElem?_eq_getElem hi)⟩

theorem zero_run {t:TypeId} {z:List AV} (h:zeroA P t=some z) (w:World) (hlf:z.all AV.leaf=true):
  ∃ u,(zeroValue t).run P w= .ok u w∧∀ (F:Nat→Prop) (B:List Box) (ρ:Loc) (w':World),CellsRel F B ρ w' z u.cells:=by
 unfold zeroA at h
 cases hi:P.info? t with
 | none=>rw[hi] at h; cases h
 | some i=>
  rw[hi] at h
  simp only[Option.bind_some] at h
  cases hz:i.zero with
  | none=>rw[hz] at h; cases h
  | some u=>
   rw[hz] at h
   cases h
   refine ⟨u,by simp[zeroValue,typeInfo,hi,hz],fun F B ρ w'=>?_⟩
   exact (vrel_ofV B ρ w' u).cells hlf

theorem newVar_run {B:List Box} {ρ:Loc} {w:World} (hI:Inv F B ρ w) (t:TypeId) {u:Value} {cs:List AV} (hlf:cs.all AV.leaf=true) (hc:CellsRel F B ρ w cs u.cells):
  ∃ x w' ρ',(do pure (Value.pointer (some (←newVar t u))):Sem Value).run P w= .ok x w'∧Inv F (B++ [.cells false 0 cs]) ρ' w'∧Ext F B ρ w (B++ [.cells false 0 cs]) ρ' w'∧VRel F (B++ [.cells false 0 cs]) ρ' w' (.ptr B.length 0 0) x:=by
 obtain ⟨h1,h2⟩:=new_box (w':=w.alloc (.cells u.cells t)) hI false (e:=t) (fr:=(0,0)) hlf (Nat.le_of_eq hc.1) (fun i c h=>hc.get i c h) (.zero _) rfl rfl rfl rfl
 refine ⟨.pointer (some ⟨w.heap.size,0,none⟩),w.alloc (.cells u.cells t),_,?_,h1,h2, .ptr _ _ _ _ ⟨by simp,fun row v cs' h=>?_⟩⟩
 ·simp[newVar,newRow]
 ·simp at h
  obtain ⟨rfl,rfl,rfl⟩:=h
  exact ⟨Nat.le_refl _,fun _=>⟨w.heap.size,0,by simp,rfl⟩⟩

theorem zipIdx_arrSet (l:List Value):∀ (k off:Nat) (us:Array Value),(l.zipIdx k).foldl (fun cs (x:Value×Nat)=>cs.setIfInBounds (off+x.2) x.1) us=arrSet us (off+k) l:=by
 induction l with
 | nil=>intro k off us; rfl
 | cons v r ih=>
  intro k off us
  rw[List.zipIdx_cons,List.foldl_cons,ih,arrSet]
  rfl

theorem fill_run {B:List Box} {ρ:Loc} {w:World} {place:Nat→Option (Nat×Nat)}:∀ (parts:List (Nat×AV)) (vs:List (Nat×Value)) (cs cs':List AV) (us:Array Value),
  parts.length=vs.length→(∀ (i:Nat) (p:Nat×AV) (v:Nat×Value),parts[i]? = some p→vs[i]? = some v→p.1=v.1∧VRel F B ρ w p.2 v.2) →
  CellsRel F B ρ w cs us→cs.all AV.leaf=true→fillA place cs parts=some cs'→∃ us',Instr.fill place us vs=some us'∧CellsRel F B ρ w cs' us'∧cs'.all AV.leaf=true
 | [],vs,cs,cs',us,hl,_,hc,hlf,hf=>by
  cases vs with
  | cons v vs=>simp at hl
  | nil=>simp only[fillA,Option.some.injEq] at hf; subst hf; exact ⟨us,rfl,hc,hlf⟩
 | (i,x)::rest,vs,cs,cs',us,hl,hp,hc,hlf,hf=>by
  cases vs with
  | nil=>simp at hl
  | cons v vs=>
   obtain ⟨h1,h2⟩:=hp 0 (i,x) v rfl rfl
   obtain ⟨j,u⟩:=v
   simp only at h1 h2
   subst h1
   simp only[fillA] at hf
   split at hf
   ·cases hf
   ·rename_i off size hpl
    split at hf
    ·rename_i hcond
     simp only[Bool.and_eq_true,beq_iff_eq,Nat.ble_eq] at hcond
     obtain ⟨⟨c1,c2⟩,c3⟩:=hcond
     obtain ⟨d1,d2⟩:=h2.cells c3
     have hle:off+x.cells.length≤cs.length:=by omega
     have hcs':CellsRel F B ρ w (splice cs off x.cells) (arrSet us off u.cells.toList):=by
      refine ⟨by rw[splice_length _ _ _ hle,arrSet_size,hc.1],fun q c y hq hy=>?_⟩
      rw[splice_get _ _ _ hle] at hq
      have out:(q<off∨off+x.cells.length≤q)→cs[q]? = some c→VRel F B ρ w c y:=fun ho hcq=>by
       rw[arrSet_out _ _ _ _ (by simp; omega)] at hy
       exact hc.2 q c y hcq hy
      split at hq
      ·exact out (.inl (by assumption)) hq
      ·split at hq
       ·rename_i n1 n2
        have:=arrSet_in us off u.cells.toList (q - off) (by simp; omega) (by have:=hc.1; simp; omega)
        rw[show off+(q - off)=q by omega] at this
        rw[this] at hy
        exact d2 (q - off) c y hq (by simpa using hy)
       ·exact out (.inr (by omega)) hq
     have hlf':(splice cs off x.cells).all AV.leaf=true:=by
      rw[List.all_eq_true] at hlf c3 ⊢
      intro q hq
      unfold splice at hq
      rcases List.mem_append.1 hq with hq | hq
      ·exact hlf q (List.mem_of_mem_take hq)
      ·rcases List.mem_append.1 hq with hq | hq
       ·exact c3 q hq
       ·exact hlf q (List.mem_of_mem_drop hq)
     obtain ⟨us',e1,e2,e3⟩:=fill_run rest vs _ cs' _ (by simpa using hl) (fun q p v hp' hv=>hp (q+1) p v (by simpa using hp') (by simpa using hv)) hcs' hlf' hf
     refine ⟨us',?_,e2,e3⟩
     rw[Instr.fill,hpl]
     have n1:¬((u.cells.size≠size||off+u.cells.size>us.size)=true):=by
      have:=hc.1
      simp only[Bool.or_eq_true,decide_eq_true_eq,ne_eq,not_or]
      omega
     simp only[n1]
     have hz:(u.cells.zipIdx.foldl (fun cs (c,j)=>cs.setIfInBounds (off+j) c) us)=arrSet us off u.cells.toList:=by
      have:=zipIdx_arrSet u.cells.toList 0 off us
      rw[Nat.add_zero] at this
      rw[←this,←Array.foldl_toList]
      simp
     rw[if_neg (by simp)]
     rw[hz]
     exact e1
    ·cases hf

end Go.Ax
