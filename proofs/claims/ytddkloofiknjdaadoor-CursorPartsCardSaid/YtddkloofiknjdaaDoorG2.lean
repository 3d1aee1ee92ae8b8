/- What the values of the second reading are in a world: the relations, and that they last. -/
import Derived.Test.YtddkloofiknjdaaDoorG1
set_option linter.unusedVariables false
set_option linter.unusedSimpArgs false
set_option linter.unusedSectionVars false
namespace Go.Ax
open Go.RowKit

abbrev Loc:=Nat→Option (Nat×Nat)

variable [Glob] {F : Nat → Prop}

def Box.has:Box→Nat×Nat→Nat→Prop
 | .dead,_,_=>False
 | .cells ..,l,k=>k=l.1
 | .obj ..,l,k=>l.2.testBit k=true

def Own (F:Nat→Prop) (B:List Box) (ρ:Loc) (k:Nat):Prop:=F k∨∃ b x l,B[b]? = some x∧ρ b=some l∧x.has l k

theorem Own.cells {B:List Box} {ρ:Loc} {b:Nat} {row:Bool} {v:Nat} {cs:List AV} {k o:Nat} (hb:B[b]? = some (.cells row v cs)) (hr:ρ b=some (k,o)):Own F B ρ k:= .inr ⟨b,_,_,hb,hr,rfl⟩

inductive PRel (O:Nat→Prop) (w:World):PV→Value→Prop
 | v (x:Value):PRel O w (.v x) x
 | nil (a:Option Addr) (cap:Nat):(a.isSome∨cap=0)→PRel O w (.ls []) (.slice a 0 cap)
 | ls (xs:List PV) (a:Addr) (cap:Nat) (us:List Value):a.spot=none→¬O a.block→a.block<w.heap.size→xs.length≤cap →
   (xs.flatMap PV.cells).length=us.length→(∀ (j:Nat) (u:Value),us[j]? = some u→w.cell? (a.add j)=some u) →
   (∀ (j:Nat) (p:PV) (u:Value),(xs.flatMap PV.cells)[j]? = some p→us[j]? = some u→PRel O w p u)→PRel O w (.ls xs) (.slice (some a) xs.length cap)
 | agg (cs:List PV) (us:List Value):cs.length=us.length→(∀ (j:Nat) (p:PV) (u:Value),cs[j]? = some p→us[j]? = some u→PRel O w p u)→PRel O w (.agg cs) (.agg us.toArray)

theorem PRel.mono {O O':Nat→Prop} {w w':World} (hk:∀ k,k<w.heap.size→¬O k→w'.heap[k]? = w.heap[k]? ∧ ¬O' k) (hs:w.heap.size≤w'.heap.size) {p:PV} {u:Value}
  (h:PRel O w p u):PRel O' w' p u:=by
 induction h with
 | v x=>exact .v x
 | nil a cap h=>exact .nil a cap h
 | ls xs a cap us h1 h2 h3 h4 h5 h6 _ ih=>
  refine .ls xs a cap us h1 (hk _ h3 h2).2 (by omega) h4 h5 (fun j u hj=>?_) ih
  have hb:(a.add j).block=a.block:=by unfold Addr.add; split <;> rfl
  have:=h6 j u hj
  rw[World.cell?_of_block (w:=w) (by rw[hb]; exact (hk _ h3 h2).1)]
  exact this
 | agg cs us h1 _ ih=>exact .agg cs us h1 ih

def PtrOk (B:List Box) (ρ:Loc) (b ver o:Nat) (a:Addr):Prop:=
 b<B.length∧∀ (row:Bool) (v:Nat) (cs:List AV),B[b]? = some (.cells row v cs)→ver≤v∧(ver=v→∃ k o',ρ b=some (k,o')∧a=⟨k,o'+o,none⟩)

def MpOk (B:List Box) (ρ:Loc) (b r:Nat):Prop:=b<B.length∧∀ (cs:List AV) (Φ:ObjP),B[b]? = some (.obj cs Φ)→∃ o,ρ b=some (r,o)

def RsOk (B:List Box) (ρ:Loc) (w:World) (b ver sz off len:Nat) (a:Option Addr) (cap:Nat):Prop:=
 b<B.length∧len≤cap∧(0<cap→a.isSome)∧∀ (row:Bool) (v:Nat) (cs:List AV),B[b]? = some (.cells row v cs)→ver≤v∧(ver=v→off+len*sz≤cs.length ∧
  (cap=0∨∃ k o',ρ b=some (k,o')∧a=some ⟨k,o'+off,none⟩∧∃ e n,w.shape? k=some (e,n)∧o'+off+cap*sz≤n))

inductive VRel (F:Nat→Prop) (B:List Box) (ρ:Loc) (w:World):AV→Value→Prop
 | u (x:Value):VRel F B ρ w .u x
 | mp (b r:Nat):MpOk B ρ b r→VRel F B ρ w (.mp b) (.map (some r))
 | op (b r:Nat):MpOk B ρ b r→VRel F B ρ w (.op b) (.pointer (some ⟨r,0,none⟩))
 | p (x:PV) (y:Value):PRel (Own F B ρ) w x y→VRel F B ρ w (.p x) y
 | ptr (b ver o:Nat) (a:Addr):PtrOk B ρ b ver o a→VRel F B ρ w (.ptr b ver o) (.pointer (some a))
 | rs (b ver sz off len:Nat) (a:Option Addr) (cap:Nat):RsOk B ρ w b ver sz off len a cap→VRel F B ρ w (.rs b ver sz off len) (.slice a len cap)
 | rp (cs:List PV) (a:Addr) (us:List Value):a.spot=none→¬Own F B ρ a.block→a.block<w.heap.size→cs.length=us.length →
   (∀ (j:Nat) (u:Value),us[j]? = some u→w.cell? (a.add j)=some u)→(∀ (j:Nat) (p:PV) (u:Value),cs[j]? = some p→us[j]? = some u→PRel (Own F B ρ) w p u)→VRel F B ρ w (.rp cs) (.pointer (some a))
 | agg (cs:List AV) (us:List Value):cs.length=us.length→(∀ (j:Nat) (p:AV) (u:Value),cs[j]? = some p→us[j]? = some u→VRel F B ρ w p u)→VRel F B ρ w (.agg cs) (.agg us.toArray)
 | fn (f:Nat) (cs:List AV) (us:List Value):cs.length=us.length→(∀ (j:Nat) (p:AV) (u:Value),cs[j]? = some p→us[j]? = some u→VRel F B ρ w p u)→VRel F B ρ w (.fn f cs) (.func (.func f) #[] us.toArray)
 | tup (cs:List AV) (us:List Value):cs.length=us.length→(∀ (j:Nat) (p:AV) (u:Value),cs[j]? = some p→us[j]? = some u→VRel F B ρ w p u)→VRel F B ρ w (.tup cs) (.tuple us.toArray)

structure Ext (F:Nat→Prop) (B:List Box) (ρ:Loc) (w:World) (B':List Box) (ρ':Loc) (w':World):Prop where
 size:w.heap.size≤w'.heap.size
 os:w'.os=w.os
 tape:w'.tape=w.tape
 output:w'.output=w.output
 keep:∀ k,k<w.heap.size→¬Own F B ρ k→w'.heap[k]? = w.heap[k]? ∧ ¬Own F B' ρ' k
 shape:∀ k e n,w.shape? k=some (e,n)→w'.shape? k=some (e,n)
 len:B.length≤B'.length
 box:∀ (b:Nat) (row:Bool) (v:Nat) (cs:List AV),b<B.length→B'[b]? = some (.cells row v cs)→∃ v0 cs0,B[b]? = some (.cells row v0 cs0)∧v0≤v∧(v0=v→ρ' b=ρ b∧cs.length=cs0.length)
 obj:∀ (b:Nat) (cs:List AV) (Φ:ObjP),b<B.length→B'[b]? = some (.obj cs Φ)→∃ cs0 Φ0,B[b]? = some (.obj cs0 Φ0)∧(ρ' b).map Prod.fst=(ρ b).map Prod.fst
 far:∀ k,F k→k<w.heap.size→w'.heap[k]? = w.heap[k]?

theorem Ext.refl (B:List Box) (ρ:Loc) (w:World):Ext F B ρ w B ρ w:=
 ⟨Nat.le_refl _,rfl,rfl,rfl,fun _ _ h=>⟨rfl,h⟩,fun _ _ _ h=>h,Nat.le_refl _,fun _ _ v cs _ h=>⟨v,cs,h,Nat.le_refl _,fun _=>⟨rfl,rfl⟩⟩,fun _ cs Φ _ h=>⟨cs,Φ,h,rfl⟩,fun _ _ _=>rfl⟩

theorem Ext.trans {B B1 B2:List Box} {ρ ρ1 ρ2:Loc} {w w1 w2:World} (h:Ext F B ρ w B1 ρ1 w1) (g:Ext F B1 ρ1 w1 B2 ρ2 w2):Ext F B ρ w B2 ρ2 w2:=by
 refine ⟨Nat.le_trans h.size g.size,g.os.trans h.os,g.tape.trans h.tape,g.output.trans h.output,fun k hk ho=>?_,fun k e n hs=>g.shape k e n (h.shape k e n hs),Nat.le_trans h.len g.len,fun b row v cs hb hc=>?_,fun b cs Φ hb hc=>?_,fun k hF hk=>(g.far k hF (Nat.lt_of_lt_of_le hk h.size)).trans (h.far k hF hk)⟩
 ·have h1:=h.keep k hk ho
  have h2:=g.keep k (Nat.lt_of_lt_of_le hk h.size) h1.2
  exact ⟨h2.1.trans h1.1,h2.2⟩
 ·obtain ⟨v1,cs1,e1,l1,q1⟩:=g.box b row v cs (Nat.lt_of_lt_of_le hb h.len) hc
  obtain ⟨v0,cs0,e0,l0,q0⟩:=h.box b row v1 cs1 hb e1
  refine ⟨v0,cs0,e0,Nat.le_trans l0 l1,fun e=>?_⟩
  obtain ⟨a1,b1⟩:=q1 (by omega)
  obtain ⟨a0,b0⟩:=q0 (by omega)
  exact ⟨a1.trans a0,b1.trans b0⟩
 ·obtain ⟨cs1,Φ1,e1,r1⟩:=g.obj b cs Φ (Nat.lt_of_lt_of_le hb h.len) hc
  obtain ⟨cs0,Φ0,e0,r0⟩:=h.obj b cs1 Φ1 hb e1
  exact ⟨cs0,Φ0,e0,r1.trans r0⟩

theorem PtrOk.ext {B B':List Box} {ρ ρ':Loc} {w w':World} (h:Ext F B ρ w B' ρ' w') {b ver o:Nat} {a:Addr} (k:PtrOk B ρ b ver o a):PtrOk B' ρ' b ver o a:=by
 refine ⟨Nat.lt_of_lt_of_le k.1 h.len,fun row v cs hc=>?_⟩
 obtain ⟨v0,cs0,e0,l0,q0⟩:=h.box b row v cs k.1 hc
 obtain ⟨l1,q1⟩:=k.2 row v0 cs0 e0
 refine ⟨Nat.le_trans l1 l0,fun e=>?_⟩
 obtain ⟨k',o',hr,ha⟩:=q1 (by omega)
 exact ⟨k',o',(q0 (by omega)).1.trans hr,ha⟩

theorem MpOk.ext {B B':List Box} {ρ ρ':Loc} {w w':World} (h:Ext F B ρ w B' ρ' w') {b r:Nat} (k:MpOk B ρ b r):MpOk B' ρ' b r:=by
 refine ⟨Nat.lt_of_lt_of_le k.1 h.len,fun cs Φ hc=>?_⟩
 obtain ⟨cs0,Φ0,e0,r0⟩:=h.obj b cs Φ k.1 hc
 obtain ⟨o',hr⟩:=k.2 cs0 Φ0 e0
 rw[hr] at r0
 obtain ⟨⟨k2,o2⟩,hr2,e2⟩:=Option.map_eq_some_iff.1 r0
 cases e2
 exact ⟨o2,hr2⟩

theorem RsOk.ext {B B':List Box} {ρ ρ':Loc} {w w':World} (h:Ext F B ρ w B' ρ' w') {b ver sz off len cap:Nat} {a:Option Addr} (k:RsOk B ρ w b ver sz off len a cap):RsOk B' ρ' w' b ver sz off len a cap:=by
 refine ⟨Nat.lt_of_lt_of_le k.1 h.len,k.2.1,k.2.2.1,fun row v cs hc=>?_⟩
 obtain ⟨v0,cs0,e0,l0,q0⟩:=h.box b row v cs k.1 hc
 obtain ⟨l1,q1⟩:=k.2.2.2 row v0 cs0 e0
 refine ⟨Nat.le_trans l1 l0,fun e=>?_⟩
 obtain ⟨m1,m2⟩:=q1 (by omega)
 obtain ⟨n1,n2⟩:=q0 (by omega)
 refine ⟨by omega,m2.imp id ?_⟩
 rintro ⟨k',o',hr,ha,e',n,hsh,hle⟩
 exact ⟨k',o',n1.trans hr,ha,e',n,h.shape _ _ _ hsh,hle⟩

theorem Ext.prel {B B':List Box} {ρ ρ':Loc} {w w':World} (h:Ext F B ρ w B' ρ' w') {p:PV} {u:Value} (k:PRel (Own F B ρ) w p u):PRel (Own F B' ρ') w' p u:=k.mono h.keep h.size

theorem VRel.ext {B B':List Box} {ρ ρ':Loc} {w w':World} (h:Ext F B ρ w B' ρ' w') {x:AV} {u:Value} (k:VRel F B ρ w x u):VRel F B' ρ' w' x u:=by
 induction k with
 | u x=>exact .u x
 | p x y hp=>exact .p x y (h.prel hp)
 | mp b r hp=>exact .mp b r (hp.ext h)
 | op b r hp=>exact .op b r (hp.ext h)
 | ptr b ver o a hp=>exact .ptr b ver o a (hp.ext h)
 | rs b ver sz off len a cap hp=>exact .rs b ver sz off len a cap (hp.ext h)
 | rp cs a us h1 h2 h3 h4 h5 h6=>
  refine .rp cs a us h1 (h.keep _ h3 h2).2 (Nat.lt_of_lt_of_le h3 h.size) h4 (fun j u hj=>?_) (fun j p u hp hu=>h.prel (h6 j p u hp hu))
  have hb:(a.add j).block=a.block:=by unfold Addr.add; split <;> rfl
  rw[World.cell?_of_block (w:=w) (by rw[hb]; exact (h.keep _ h3 h2).1)]
  exact h5 j u hj
 | agg cs us h1 _ ih=>exact .agg cs us h1 ih
 | fn f cs us h1 _ ih=>exact .fn f cs us h1 ih
 | tup cs us h1 _ ih=>exact .tup cs us h1 ih

structure GRel (F:Nat→Prop) (B:List Box) (ρ:Loc) (w:World) (g:Nat):Prop where
 v:VRel F B ρ w (.rp (Glob.tab g)) (.pointer (some ⟨g,0,none⟩))
 sz:∃ us e fr,w.heap[g]? = some (.cells us e fr)∧us.size=(Glob.tab g).length

theorem GRel.ext {B B':List Box} {ρ ρ':Loc} {w w':World} (h:Ext F B ρ w B' ρ' w') {g:Nat} (k:GRel F B ρ w g):GRel F B' ρ' w' g:=by
 refine ⟨k.v.ext h,?_⟩
 obtain ⟨us,e,fr,h1,h2⟩:=k.sz
 refine ⟨us,e,fr,?_,h2⟩
 have hv:=k.v
 generalize hx:Glob.tab g=cs at hv
 cases hv with
 | rp _ a us' q1 q2 q3 q4 q5 q6=>exact (h.keep g q3 q2).1.trans h1

def Fz (us:Array Value) (fr:Nat×Nat):Prop:=fr.1≤fr.2∧∀ i,i<us.size→¬(fr.1≤i∧i<fr.2)

theorem Fz.no {us:Array Value} {fr:Nat×Nat} (hz:Fz us fr) {w:World} {k:Nat} {e:TypeId} (h:w.heap[k]? = some (.cells us e fr)) (i:Nat) (hi:i<us.size):w.frozen? ⟨k,i,none⟩=false:=by
 have:=hz.2 i hi
 obtain ⟨lo,hi'⟩:=fr
 simp only[World.frozen?,h]
 simpa using this

theorem Fz.size {us us':Array Value} {fr:Nat×Nat} (hz:Fz us fr) (h:us'.size=us.size):Fz us' fr:=⟨hz.1,fun i hi=>hz.2 i (by omega)⟩
theorem Fz.zero (us:Array Value):Fz us (0,0):=⟨Nat.le_refl _,fun i _ h=>by simp at h⟩

structure Inv (F:Nat→Prop) (B:List Box) (ρ:Loc) (w:World):Prop where
 box:∀ (b:Nat) (row:Bool) (v:Nat) (cs:List AV),B[b]? = some (.cells row v cs)→(ρ b=none∧row=true∧cs= []) ∨
  ∃ k o us e fr,ρ b=some (k,o)∧w.heap[k]? = some (.cells us e fr)∧o+cs.length≤us.size∧Fz us fr ∧
   ∀ (i:Nat) (c:AV),cs[i]? = some c→∃ u,us[o+i]? = some u∧VRel F B ρ w c u
 leaf:∀ (b:Nat) (row:Bool) (v:Nat) (cs:List AV),B[b]? = some (.cells row v cs)→cs.all AV.leaf=true
 obox:∀ (b:Nat) (cs:List AV) (Φ:ObjP),B[b]? = some (.obj cs Φ)→∃ k o us,ρ b=some (k,o)∧Φ.holds us (fun j=>o.testBit j=true) k w∧cs.length=us.length∧∀ (i:Nat) (c:AV) (u:Value),cs[i]? = some c→us[i]? = some u→VRel F B ρ w c u
 injx:∀ (b b':Nat) (x x':Box) (l l':Nat×Nat) (k:Nat),B[b]? = some x→B[b']? = some x'→ρ b=some l→ρ b'=some l'→x.has l k→x'.has l' k→b=b'
 bound:∀ k,F k→k<w.heap.size
 farx:∀ (b:Nat) (x:Box) (l:Nat×Nat) (k:Nat),B[b]? = some x→ρ b=some l→x.has l k→¬F k
 glob:∀ g,Glob.tab g≠ []→GRel F B ρ w g
 off0:∀ (b:Nat) (v:Nat) (cs:List AV) (k o:Nat),B[b]? = some (.cells false v cs)→ρ b=some (k,o)→o=0

theorem Inv.farb {B:List Box} {ρ:Loc} {w:World} (h:Inv F B ρ w) (b:Nat) (row:Bool) (v:Nat) (cs:List AV) (k o:Nat) (h1:B[b]? = some (.cells row v cs)) (h2:ρ b=some (k,o)):¬F k:=h.farx b _ _ k h1 h2 rfl

theorem Inv.haslt {B:List Box} {ρ:Loc} {w:World} (h:Inv F B ρ w) {b:Nat} {x:Box} {l:Nat×Nat} {k:Nat} (h1:B[b]? = some x) (h2:ρ b=some l) (h3:x.has l k):k<w.heap.size:=by
 cases x with
 | dead=>exact h3.elim
 | cells row v cs=>
  obtain ⟨k',o'⟩:=l
  cases (h3:k=k')
  rcases h.box b row v cs h1 with ⟨h0,_⟩ | ⟨k2,o2,us,e,fr,g1,g2,_⟩
  ·rw[h2] at h0; cases h0
  ·rw[h2] at g1; cases g1; exact (Array.getElem?_eq_some_iff.1 g2).1
 | obj cs Φ=>
  obtain ⟨k',o',us,g1,g2,_⟩:=h.obox b cs Φ h1
  rw[h2] at g1; cases g1
  exact Φ.low _ _ _ _ k g2 h3

theorem leaf_of_prel {O:Nat→Prop} {w:World} {p:PV} {u:Value} (h:PRel O w p u) (hl:p.leaf=true):vleaf u=true:=by
 cases h with
 | v x=>exact hl
 | nil=>rfl
 | ls=>rfl
 | agg=>cases hl

theorem leaf_of_vrel {B:List Box} {ρ:Loc} {w:World} {x:AV} {u:Value} (h:VRel F B ρ w x u) (hl:x.leaf=true):vleaf u=true:=by
 cases h with
 | u=>cases hl
 | p x y hp=>exact leaf_of_prel hp hl
 | ptr=>rfl
 | rs=>rfl
 | rp=>rfl
 | agg=>cases hl
 | fn=>rfl
 | mp=>rfl
 | op=>rfl
 | tup=>cases hl

theorem cells_of_leaf {u:Value} (h:vleaf u=true):u.cells = #[u]:=by
 cases u <;> first | rfl | cases h

theorem VRel.cells {B:List Box} {ρ:Loc} {w:World} {x:AV} {u:Value} (h:VRel F B ρ w x u) (hl:x.cells.all AV.leaf=true):
  x.cells.length=u.cells.size∧∀ (j:Nat) (p:AV) (v:Value),x.cells[j]? = some p→u.cells[j]? = some v→VRel F B ρ w p v:=by
 have single:∀ (y:AV),y.cells= [y]→VRel F B ρ w y u→y.leaf=true→y.cells.length=u.cells.size∧∀ (j:Nat) (p:AV) (v:Value),y.cells[j]? = some p→u.cells[j]? = some v→VRel F B ρ w p v:=by
  intro y hy hr hly
  rw[hy,cells_of_leaf (leaf_of_vrel hr hly)]
  refine ⟨rfl,fun j p v hp hv=>?_⟩
  cases j with
  | zero=>simp at hp hv; subst hp; subst hv; exact hr
  | succ j=>simp at hp
 cases h with
 | u=>simp[AV.cells,AV.leaf] at hl
 | p x y hp=>
  cases x with
  | agg cs=>
   cases hp with
   | agg _ us h1 h2=>
    refine ⟨by simpa [AV.cells,Value.cells] using h1,fun j p v hp hv=>?_⟩
    simp only[AV.cells,List.getElem?_map] at hp
    simp only[Value.cells,List.getElem?_toArray] at hv
    cases hc:cs[j]? with
    | none=>rw[hc] at hp; cases hp
    | some c=>rw[hc] at hp; cases hp; exact .p _ _ (h2 j c v hc hv)
  | v z=>exact single (.p (.v z)) rfl (.p _ _ hp) (by simpa [AV.cells] using hl)
  | ls xs=>exact single (.p (.ls xs)) rfl (.p _ _ hp) rfl
 | mp b r hp=>exact single (.mp b) rfl (.mp _ _ hp) rfl
 | op b r hp=>exact single (.op b) rfl (.op _ _ hp) rfl
 | ptr b ver o a hp=>exact single (.ptr b ver o) rfl (.ptr _ _ _ _ hp) rfl
 | rs b ver sz off len a cap hp=>exact single (.rs b ver sz off len) rfl (.rs _ _ _ _ _ _ _ hp) rfl
 | rp cs a us h1 h2 h3 h4 h5 h6=>exact single (.rp cs) rfl (.rp _ _ _ h1 h2 h3 h4 h5 h6) rfl
 | agg cs us h1 h2=>
  refine ⟨by simpa [AV.cells,Value.cells] using h1,fun j p v hp hv=>?_⟩
  simp only[Value.cells,List.getElem?_toArray] at hv
  exact h2 j p v hp hv
 | fn f cs us h1 h2=>exact single (.fn f cs) rfl (.fn _ _ _ h1 h2) rfl
 | tup cs us h1 h2=>simp[AV.cells,AV.leaf] at hl

theorem vrel_ofV (B:List Box) (ρ:Loc) (w:World) (x:Value):VRel F B ρ w (ofV x) x:=by
 have plain:∀ y,VRel F B ρ w (.p (.v y)) y:=fun y=> .p _ _ (.v y)
 cases x <;> try exact plain _
 rename_i cs
 have:Value.agg cs= .agg cs.toList.toArray:=by simp
 rw[this]
 refine .agg _ _ (by simp) (fun j p u hp hu=>?_)
 simp only[List.getElem?_map] at hp
 rw[List.toList_toArray] at hp
 rw[hu] at hp
 cases hp
 exact plain u

structure Rel (F:Nat→Prop) (B:List Box) (ρ:Loc) (w:World) (n:Nat) (t:T) (a:Act):Prop where
 inv:Inv F B ρ w
 tm:∀ i,VRel F B ρ w (t i) (a.tmps.getD i undef)
 df:a.defers= []
 size:a.tmps.size=n

theorem Rel.eval {B:List Box} {ρ:Loc} {w:World} {n:Nat} {t:T} {a:Act} (h:Rel F B ρ w n t a) (x:Operand):VRel F B ρ w (evalA t x) (a.eval x):=by
 cases x with
 | tmp i=>exact h.tm i
 | const v=>exact vrel_ofV B ρ w v
 | global g=>
  show VRel F B ρ w (match Glob.tab g with | []=> .u | cs=> .rp cs) (.pointer (some ⟨g,0,none⟩))
  have hg:=h.inv.glob g
  cases hc:Glob.tab g with
  | nil=>exact .u _
  | cons c cs=>
   have:=(hg (by rw[hc]; simp)).v
   rw[hc] at this
   exact this
 | func f=>exact .fn f [] [] rfl (fun j p u hp=>by simp at hp)

theorem Rel.put {B B':List Box} {ρ ρ':Loc} {w w':World} {n:Nat} {t t':T} {a:Act} {d:Option Nat} {v:AV} {x:Value} (h:Rel F B ρ w n t a) (he:Ext F B ρ w B' ρ' w') (hi:Inv F B' ρ' w') (hv:VRel F B' ρ' w' v x)
  (hp:putA n t d v=some t'):Rel F B' ρ' w' n t' (a.put d x):=by
 cases d with
 | none=>cases hp; exact ⟨hi,fun i=>(h.tm i).ext he,h.df,h.size⟩
 | some d=>
  simp only[putA] at hp
  split at hp
  ·rename_i hlt
   cases hp
   have hd:d<a.tmps.size:=by rw[h.size]; simpa [Nat.blt_eq] using hlt
   refine ⟨hi,fun i=>?_,h.df,by simp[Act.put,h.size]⟩
   by_cases e:i=d
   ·subst e
    simpa [Act.put,hd] using hv
   ·rw[upd_ne _ _ _ _ e]
    have:(a.put (some d) x).tmps.getD i undef=a.tmps.getD i undef:=by
     simp[Act.put,Array.getElem?_setIfInBounds_ne (Ne.symm e)]
    rw[this]
    exact (h.tm i).ext he
  ·cases hp

end Go.Ax
