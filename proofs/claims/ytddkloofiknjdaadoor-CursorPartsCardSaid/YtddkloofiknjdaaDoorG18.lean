/- Pieces of memory: laid together, taken apart. -/
import Derived.Test.YtddkloofiknjdaaDoorG17
set_option linter.unusedVariables false
set_option linter.unusedSimpArgs false
set_option linter.unusedSectionVars false
namespace Go.Ax
open Go.RowKit

abbrev noG:Glob:=⟨⟨fun _=> []⟩⟩

def AV.pl:AV→Bool
 | .p (.v _) | .ptr .. | .rs .. | .mp _ | .op _ | .u=>true
 | .tup xs=>allPl xs
 | .p _ | .rp _ | .agg _ | .fn .. => false
 where
 allPl:List AV→Bool
  | []=>true
  | c::cs=>c.pl&&allPl cs

def AV.pl2:AV→Bool
 | .p _=>true
 | x=>x.pl

theorem allPl_get:∀ {cs:List AV},AV.pl.allPl cs=true→∀ (j:Nat) (c:AV),cs[j]? = some c→c.pl=true
 | [],_,j,c,h=>by simp at h
 | x::cs,h,j,c,hc=>by
  simp only[AV.pl.allPl,Bool.and_eq_true] at h
  cases j with
  | zero=>cases hc; exact h.1
  | succ j=>exact allPl_get h.2 j c (by simpa using hc)

def Box.cs:Box→List AV
 | .dead=> []
 | .cells _ _ cs=>cs
 | .obj cs _=>cs

def Bpl (n:Nat) (B:List Box):Prop:=∀ x∈B,AV.pl.allPl x.cs=true∧AV.low.allLow n x.cs=true

def Box.sh (f d:Nat→Nat):Box→Box
 | .dead=> .dead
 | .cells row v cs=> .cells row v (AV.rv.rvL f d cs)
 | .obj cs Φ=> .obj (AV.rv.rvL f d cs) Φ

section
variable [Glob] {F F' : Nat → Prop}

theorem VRel.fwdP {B B':List Box} {ρ ρ':Loc} {w:World} {f d:Nat→Nat} (hlt:∀ j,j<B.length→f j<B'.length) (hρ:∀ j,j<B.length→ρ' (f j)=ρ j)
  (hB:∀ j row v cs,j<B.length→B'[f j]? = some (.cells row v cs)→∃ (v0:Nat) (cs0:List AV),B[j]? = some (.cells row v0 cs0)∧v=v0+d j∧cs0.length=cs.length)
  (hX:∀ j cs Φ,j<B.length→B'[f j]? = some (.obj cs Φ)→∃ cs0 Φ0,B[j]? = some (.obj cs0 Φ0))
  {y:AV} {u:Value} (h:VRel F B ρ w y u):y.pl=true→y.low B.length=true→VRel F' B' ρ' w (y.rv f d) u:=by
 induction h with
 | u x=>intro _ _; exact .u x
 | p x y hp=>
  intro hp' _
  cases x with
  | v z=>cases hp; exact .p _ _ (.v _)
  | ls xs=>cases hp'
  | agg cs=>cases hp'
 | mp b r hp=>
  intro _ hl
  have hb:b<B.length:=by simpa [AV.low,Nat.blt_eq] using hl
  refine .mp _ _ ⟨hlt b hb,fun cs Φ hc=>?_⟩
  obtain ⟨cs0,Φ0,g1⟩:=hX b cs Φ hb hc
  rw[hρ b hb]
  exact hp.2 cs0 Φ0 g1
 | op b r hp=>
  intro _ hl
  have hb:b<B.length:=by simpa [AV.low,Nat.blt_eq] using hl
  refine .op _ _ ⟨hlt b hb,fun cs Φ hc=>?_⟩
  obtain ⟨cs0,Φ0,g1⟩:=hX b cs Φ hb hc
  rw[hρ b hb]
  exact hp.2 cs0 Φ0 g1
 | ptr b ver o a hp=>
  intro _ hl
  have hb:b<B.length:=by simpa [AV.low,Nat.blt_eq] using hl
  refine .ptr _ _ _ a ⟨hlt b hb,fun row v cs hc=>?_⟩
  obtain ⟨v0,cs0,g1,rfl,_⟩:=hB b row v cs hb hc
  obtain ⟨q1,q2⟩:=hp.2 row _ cs0 g1
  refine ⟨by omega,fun e=>?_⟩
  rw[hρ b hb]
  exact q2 (by omega)
 | rs b ver sz off len a cap hp=>
  intro _ hl
  have hb:b<B.length:=by simpa [AV.low,Nat.blt_eq] using hl
  refine .rs _ _ _ _ _ a cap ⟨hlt b hb,hp.2.1,hp.2.2.1,fun row v cs hc=>?_⟩
  obtain ⟨v0,cs0,g1,rfl,g2⟩:=hB b row v cs hb hc
  obtain ⟨q1,q2⟩:=hp.2.2.2 row _ cs0 g1
  refine ⟨by omega,fun e=>?_⟩
  rw[hρ b hb,←g2]
  exact q2 (by omega)
 | rp cs a us h1 h2 h3 h4 h5 h6=>intro h; cases h
 | agg cs us h1 _ ih=>intro h; cases h
 | fn g cs us h1 _ ih=>intro h; cases h
 | tup cs us h1 _ ih=>
  intro hp hl
  show VRel F' B' ρ' w (.tup (AV.rv.rvL f d cs)) _
  rw[rvL_map]
  refine .tup _ us (by simpa using h1) (fun j p u hq hu=>?_)
  rw[List.getElem?_map] at hq
  cases hc:cs[j]? with
  | none=>rw[hc] at hq; cases hq
  | some c=>
   rw[hc] at hq; cases hq
   exact ih j c u hc hu (allPl_get (by simpa [AV.pl] using hp) j c hc) (allLow_get (by simpa [AV.low] using hl) j c hc)

theorem rv_id {x:AV} {n:Nat}:x.rv (fun j=>j) (fun _=>0)=x:=by
 induction x using AV.rec (motive_2:=fun cs=>AV.rv.rvL (fun j=>j) (fun _=>0) cs=cs) with
 | u=>rfl
 | mp b=>rfl
 | op b=>rfl
 | p x=>rfl
 | ptr b v o=>rfl
 | rs b v z o l=>rfl
 | rp cs=>rfl
 | agg cs ih=>simp[AV.rv,ih]
 | fn g cs ih=>simp[AV.rv,ih]
 | tup cs ih=>simp[AV.rv,ih]
 | nil=>rfl
 | cons c cs h1 h2=>simp[AV.rv.rvL,h1,h2]

theorem Inv.bare {B:List Box} {ρ:Loc} {w:World} (h:Inv F B ρ w):@Inv noG noF B ρ w:=by
 have hO:∀ k,Own noF B ρ k→Own F B ρ k:=by
  rintro k (h0 | h0)
  ·exact h0.elim
  ·exact .inr h0
 have hv:∀ {x:AV} {u:Value},VRel F B ρ w x u→VRel noF B ρ w x u:=fun {x u} hx=>by
  have hP:∀ (p:PV) (u:Value),PRel (Own F B ρ) w p u→PRel (Own noF B ρ) w p u:=fun p u hp=>hp.mono (fun k _ ho=>⟨rfl,fun h=>ho (hO k h)⟩) (Nat.le_refl _)
  induction hx with
  | u x=>exact .u x
  | p x y hp=>exact .p _ _ (hP _ _ hp)
  | mp b r hp=>exact .mp b r hp
  | op b r hp=>exact .op b r hp
  | ptr b ver o a hp=>exact .ptr b ver o a hp
  | rs b ver sz off len a cap hp=>exact .rs b ver sz off len a cap hp
  | rp cs a us h1 h2 h3 h4 h5 h6=>exact .rp cs a us h1 (fun h=>h2 (hO _ h)) h3 h4 h5 (fun j p u hp hu=>hP _ _ (h6 j p u hp hu))
  | agg cs us h1 _ ih=>exact .agg cs us h1 ih
  | fn f cs us h1 _ ih=>exact .fn f cs us h1 ih
  | tup cs us h1 _ ih=>exact .tup cs us h1 ih
 refine @Inv.mk noG noF B ρ w (fun b row v cs hb=>?_) h.leaf (fun b cs Φ hb=>?_) h.injx (fun k hk=>hk.elim) (fun _ _ _ _ _ _ _ h=>h) (fun g hg=>absurd rfl hg) h.off0
 ·rcases h.box b row v cs hb with h0 | ⟨k,o,us,e,fr,g1,g2,g3,g4,g5⟩
  ·exact .inl h0
  ·exact .inr ⟨k,o,us,e,fr,g1,g2,g3,g4,fun i c hc=>by obtain ⟨u,e1,e2⟩:=g5 i c hc; exact ⟨u,e1,hv e2⟩⟩
 ·obtain ⟨k,o,us,g1,g2,g3,g4⟩:=h.obox b cs Φ hb
  exact ⟨k,o,us,g1,g2,g3,fun i c u hc hu=>hv (g4 i c u hc hu)⟩

theorem Inv.raise {B:List Box} {ρ:Loc} {w:World} (h:@Inv noG noF B ρ w) (hp:Bpl B.length B) (hF:∀ j,F j→¬Own noF B ρ j) (hb:∀ j,F j→j<w.heap.size)
  (hg:∀ g,Glob.tab g≠ []→GRel F B ρ w g):Inv F B ρ w:=by
 have hv:∀ {x:AV} {u:Value},VRel noF B ρ w x u→x.pl=true→x.low B.length=true→VRel F B ρ w x u:=fun {x u} hx h1 h2=>by
  have:=hx.fwdP (F':=F) (B':=B) (ρ':=ρ) (f:=fun j=>j) (d:=fun _=>0) (fun j hj=>hj) (fun _ _=>rfl) (fun j row v cs _ hc=>⟨v,cs,hc,rfl,rfl⟩) (fun j cs Φ _ hc=>⟨cs,Φ,hc⟩) h1 h2
  rwa[rv_id (n:=0)] at this
 have hbx:=@Inv.box noG noF B ρ w h
 have hob:=@Inv.obox noG noF B ρ w h
 refine ⟨fun b row v cs hb=>?_,@Inv.leaf noG noF B ρ w h,fun b cs Φ hb=>?_,@Inv.injx noG noF B ρ w h,hb,fun b x l k h1 h2 h3 h4=>hF k h4 (.inr ⟨b,x,l,h1,h2,h3⟩),hg,@Inv.off0 noG noF B ρ w h⟩
 ·have hpl:=hp _ (List.mem_of_getElem? hb)
  rcases hbx b row v cs hb with h0 | ⟨k,o,us,e,fr,g1,g2,g3,g4,g5⟩
  ·exact .inl h0
  ·exact .inr ⟨k,o,us,e,fr,g1,g2,g3,g4,fun i c hc=>by obtain ⟨u,e1,e2⟩:=g5 i c hc; exact ⟨u,e1,hv e2 (allPl_get hpl.1 i c hc) (allLow_get hpl.2 i c hc)⟩⟩
 ·have hpl:=hp _ (List.mem_of_getElem? hb)
  obtain ⟨k,o,us,g1,g2,g3,g4⟩:=hob b cs Φ hb
  exact ⟨k,o,us,g1,g2,g3,fun i c u hc hu=>hv (g4 i c u hc hu) (allPl_get hpl.1 i c hc) (allLow_get hpl.2 i c hc)⟩

end

def jn (n:Nat) (ρ1 ρ2:Loc):Loc:=fun b=>if b<n then ρ1 b else ρ2 (b - n)

theorem sh_has {f d:Nat→Nat} {x:Box} {l:Nat×Nat} {k:Nat}:(x.sh f d).has l k↔x.has l k:=by cases x <;> exact Iff.rfl

theorem own_join {B1 B2:List Box} {ρ1 ρ2:Loc} {f d:Nat→Nat} (k:Nat):Own noF (B1++B2.map (Box.sh f d)) (jn B1.length ρ1 ρ2) k↔Own noF B1 ρ1 k∨Own noF B2 ρ2 k:=by
 constructor
 ·rintro (h | ⟨b,x,l,h1,h2,h3⟩)
  ·exact h.elim
  ·by_cases hb:b<B1.length
   ·rw[List.getElem?_append_left hb] at h1
    simp only[jn,hb,if_true] at h2
    exact .inl (.inr ⟨b,x,l,h1,h2,h3⟩)
   ·rw[List.getElem?_append_right (by omega),List.getElem?_map] at h1
    simp only[jn,hb,if_false] at h2
    cases hx:B2[b - B1.length]? with
    | none=>rw[hx] at h1; cases h1
    | some y=>
     rw[hx] at h1; cases h1
     exact .inr (.inr ⟨_,y,l,hx,h2,sh_has.1 h3⟩)
 ·rintro ((h | ⟨b,x,l,h1,h2,h3⟩) | (h | ⟨b,x,l,h1,h2,h3⟩))
  ·exact h.elim
  ·have hb:=(List.getElem?_eq_some_iff.1 h1).1
   exact .inr ⟨b,x,l,by rw[List.getElem?_append_left hb]; exact h1,by simp[jn,hb,h2],h3⟩
  ·exact h.elim
  ·refine .inr ⟨B1.length+b,x.sh f d,l,?_,?_,sh_has.2 h3⟩
   ·rw[List.getElem?_append_right (by omega),List.getElem?_map,show B1.length+b - B1.length=b by omega,h1]; rfl
   ·show (if B1.length+b<B1.length then _ else ρ2 (B1.length+b - B1.length))=_
    rw[if_neg (by omega),show B1.length+b - B1.length=b by omega,h2]

theorem Inv.join {B1 B2:List Box} {ρ1 ρ2:Loc} {w:World} (h1:@Inv noG noF B1 ρ1 w) (h2:@Inv noG noF B2 ρ2 w) (p1:Bpl B1.length B1) (p2:Bpl B2.length B2) (hd:∀ j,Own noF B1 ρ1 j→¬Own noF B2 ρ2 j):
  @Inv noG noF (B1++B2.map (Box.sh (fun j=>B1.length+j) (fun _=>0))) (jn B1.length ρ1 ρ2) w:=by
 letI:Glob:=noG
 generalize hB:B1++B2.map (Box.sh (fun j=>B1.length+j) (fun _=>0))=B
 have hlen:B.length=B1.length+B2.length:=by rw[←hB]; simp
 have hget1:∀ j,j<B1.length→B[j]? = B1[j]? := fun j hj=>by rw[←hB,List.getElem?_append_left hj]
 have hget2:∀ j,B[B1.length+j]? = (B2[j]?).map (Box.sh (fun j=>B1.length+j) (fun _=>0)):=fun j=>by
  rw[←hB,List.getElem?_append_right (by omega),List.getElem?_map,show B1.length+j - B1.length=j by omega]
 have hρ1:∀ j,j<B1.length→jn B1.length ρ1 ρ2 j=ρ1 j:=fun j hj=>by simp[jn,hj]
 have hρ2:∀ j,jn B1.length ρ1 ρ2 (B1.length+j)=ρ2 j:=fun j=>by
  show (if B1.length+j<B1.length then _ else ρ2 (B1.length+j - B1.length))=_
  rw[if_neg (by omega),show B1.length+j - B1.length=j by omega]
 have v1:∀ {x:AV} {u:Value},VRel noF B1 ρ1 w x u→x.pl=true→x.low B1.length=true→VRel noF B (jn B1.length ρ1 ρ2) w x u:=fun {x u} hx a b=>by
  have:=hx.fwdP (F':=noF) (B':=B) (ρ':=jn B1.length ρ1 ρ2) (f:=fun j=>j) (d:=fun _=>0) (fun j hj=>by omega) hρ1 (fun j row v cs hj hc=>by rw[hget1 j hj] at hc; exact ⟨v,cs,hc,rfl,rfl⟩) (fun j cs Φ hj hc=>by rw[hget1 j hj] at hc; exact ⟨cs,Φ,hc⟩) a b
  rwa[rv_id (n:=0)] at this
 have v2:∀ {x:AV} {u:Value},VRel noF B2 ρ2 w x u→x.pl=true→x.low B2.length=true→VRel noF B (jn B1.length ρ1 ρ2) w (x.rv (fun j=>B1.length+j) (fun _=>0)) u:=fun {x u} hx a b=>
  hx.fwdP (F':=noF) (B':=B) (ρ':=jn B1.length ρ1 ρ2) (f:=fun j=>B1.length+j) (d:=fun _=>0) (fun j hj=>by omega) (fun j _=>hρ2 j) (fun j row v cs hj hc=>by
   rw[hget2 j] at hc
   obtain ⟨y,e1,e2⟩:=Option.map_eq_some_iff.1 hc
   cases y <;> simp only[Box.sh,Box.cells.injEq,reduceCtorEq] at e2
   obtain ⟨rfl,rfl,rfl⟩:=e2
   exact ⟨_,_,e1,rfl,by rw[rvL_map,List.length_map]⟩) (fun j cs Φ hj hc=>by
   rw[hget2 j] at hc
   obtain ⟨y,e1,e2⟩:=Option.map_eq_some_iff.1 hc
   cases y <;> simp only[Box.sh,Box.obj.injEq,reduceCtorEq] at e2
   exact ⟨_,_,e1⟩) a b
 have two:∀ b,b<B1.length∨∃ j,b=B1.length+j:=fun b=>by
  rcases Nat.lt_or_ge b B1.length with h | h
  ·exact .inl h
  ·exact .inr ⟨b - B1.length,by omega⟩
 have own1:∀ {b x l k},B1[b]? = some x→ρ1 b=some l→x.has l k→Own noF B1 ρ1 k:=fun a b c=> .inr ⟨_,_,_,a,b,c⟩
 have own2:∀ {b x l k},B2[b]? = some x→ρ2 b=some l→x.has l k→Own noF B2 ρ2 k:=fun a b c=> .inr ⟨_,_,_,a,b,c⟩
 refine @Inv.mk noG noF B _ w (fun b row v cs hb=>?_) (fun b row v cs hb=>?_) (fun b cs Φ hb=>?_) (fun b b' x x' l l' k q1 q2 q3 q4 q5 q6=>?_) (fun k hk=>hk.elim) (fun _ _ _ _ _ _ _ h=>h) (fun g hg=>absurd rfl hg) (fun b v cs k o hb hr=>?_)
 ·rcases two b with hlt | ⟨j,rfl⟩
  ·rw[hget1 b hlt] at hb
   rw[hρ1 b hlt]
   have hpl:=p1 _ (List.mem_of_getElem? hb)
   rcases h1.box b row v cs hb with h0 | ⟨k,o,us,e,fr,g1,g2,g3,g4,g5⟩
   ·exact .inl h0
   ·exact .inr ⟨k,o,us,e,fr,g1,g2,g3,g4,fun i c hc=>by obtain ⟨u,e1,e2⟩:=g5 i c hc; exact ⟨u,e1,v1 e2 (allPl_get hpl.1 i c hc) (allLow_get hpl.2 i c hc)⟩⟩
  ·rw[hget2 j] at hb
   obtain ⟨y,e1,e2⟩:=Option.map_eq_some_iff.1 hb
   cases y <;> simp only[Box.sh,Box.cells.injEq,reduceCtorEq] at e2
   obtain ⟨rfl,rfl,rfl⟩:=e2
   rw[hρ2 j,rvL_map]
   have hpl:=p2 _ (List.mem_of_getElem? e1)
   rcases h2.box _ _ _ _ e1 with ⟨a1,a2,a3⟩ | ⟨k,o,us,e,fr,g1,g2,g3,g4,g5⟩
   ·exact .inl ⟨a1,a2,by rw[a3]; rfl⟩
   ·refine .inr ⟨k,o,us,e,fr,g1,g2,by rw[List.length_map]; exact g3,g4,fun i c hc=>?_⟩
    rw[List.getElem?_map] at hc
    obtain ⟨c0,f1,rfl⟩:=Option.map_eq_some_iff.1 hc
    obtain ⟨u,e1,e2⟩:=g5 i c0 f1
    exact ⟨u,e1,v2 e2 (allPl_get hpl.1 i c0 f1) (allLow_get hpl.2 i c0 f1)⟩
 ·rcases two b with hlt | ⟨j,rfl⟩
  ·rw[hget1 b hlt] at hb
   exact h1.leaf _ _ _ _ hb
  ·rw[hget2 j] at hb
   obtain ⟨y,e1,e2⟩:=Option.map_eq_some_iff.1 hb
   cases y <;> simp only[Box.sh,Box.cells.injEq,reduceCtorEq] at e2
   obtain ⟨rfl,rfl,rfl⟩:=e2
   have:=h2.leaf _ _ _ _ e1
   rw[List.all_eq_true] at this ⊢
   intro c hc
   rw[rvL_map] at hc
   obtain ⟨c0,hc0,rfl⟩:=List.mem_map.1 hc
   rw[rv_leaf]
   exact this c0 hc0
 ·rcases two b with hlt | ⟨j,rfl⟩
  ·rw[hget1 b hlt] at hb
   rw[hρ1 b hlt]
   have hpl:=p1 _ (List.mem_of_getElem? hb)
   obtain ⟨k,o,us,g1,g2,g3,g4⟩:=h1.obox b cs Φ hb
   exact ⟨k,o,us,g1,g2,g3,fun i c u hc hu=>v1 (g4 i c u hc hu) (allPl_get hpl.1 i c hc) (allLow_get hpl.2 i c hc)⟩
  ·rw[hget2 j] at hb
   obtain ⟨y,e1,e2⟩:=Option.map_eq_some_iff.1 hb
   cases y <;> simp only[Box.sh,Box.obj.injEq,reduceCtorEq] at e2
   obtain ⟨rfl,rfl⟩:=e2
   rw[hρ2 j,rvL_map]
   have hpl:=p2 _ (List.mem_of_getElem? e1)
   obtain ⟨k,o,us,g1,g2,g3,g4⟩:=h2.obox _ _ _ e1
   refine ⟨k,o,us,g1,g2,by rw[List.length_map]; exact g3,fun i c u hc hu=>?_⟩
   rw[List.getElem?_map] at hc
   obtain ⟨c0,f1,rfl⟩:=Option.map_eq_some_iff.1 hc
   exact v2 (g4 i c0 u f1 hu) (allPl_get hpl.1 i c0 f1) (allLow_get hpl.2 i c0 f1)
 ·rcases two b with hlt | ⟨j,rfl⟩ <;> rcases two b' with hlt' | ⟨j',rfl⟩
  ·rw[hget1 b hlt] at q1; rw[hget1 b' hlt'] at q2; rw[hρ1 b hlt] at q3; rw[hρ1 b' hlt'] at q4
   exact h1.injx _ _ _ _ _ _ k q1 q2 q3 q4 q5 q6
  ·rw[hget1 b hlt] at q1; rw[hget2 j'] at q2; rw[hρ1 b hlt] at q3; rw[hρ2 j'] at q4
   obtain ⟨y,e1,rfl⟩:=Option.map_eq_some_iff.1 q2
   exact (hd k (own1 q1 q3 q5) (own2 e1 q4 (sh_has.1 q6))).elim
  ·rw[hget2 j] at q1; rw[hget1 b' hlt'] at q2; rw[hρ2 j] at q3; rw[hρ1 b' hlt'] at q4
   obtain ⟨y,e1,rfl⟩:=Option.map_eq_some_iff.1 q1
   exact (hd k (own1 q2 q4 q6) (own2 e1 q3 (sh_has.1 q5))).elim
  ·rw[hget2 j] at q1; rw[hget2 j'] at q2; rw[hρ2 j] at q3; rw[hρ2 j'] at q4
   obtain ⟨y,e1,rfl⟩:=Option.map_eq_some_iff.1 q1
   obtain ⟨y',e1',rfl⟩:=Option.map_eq_some_iff.1 q2
   rw[h2.injx _ _ _ _ _ _ k e1 e1' q3 q4 (sh_has.1 q5) (sh_has.1 q6)]
 ·rcases two b with hlt | ⟨j,rfl⟩
  ·rw[hget1 b hlt] at hb; rw[hρ1 b hlt] at hr
   exact h1.off0 _ _ _ _ _ hb hr
  ·rw[hget2 j] at hb; rw[hρ2 j] at hr
   obtain ⟨y,e1,e2⟩:=Option.map_eq_some_iff.1 hb
   cases y <;> simp only[Box.sh,Box.cells.injEq,reduceCtorEq] at e2
   obtain ⟨rfl,rfl,rfl⟩:=e2
   exact h2.off0 _ _ _ _ _ e1 hr

section
variable [Glob] {F : Nat → Prop}

theorem Inv.reobj {B:List Box} {ρ:Loc} {w:World} (hI:Inv F B ρ w) {b:Nat} {cs cs':List AV} {Φ Φ':ObjP} (hb:B[b]? = some (.obj cs Φ))
  (h:∀ k o us,ρ b=some (k,o)→Φ.holds us (fun j=>o.testBit j=true) k w→cs.length=us.length→(∀ (i:Nat) (c:AV) (u:Value),cs[i]? = some c→us[i]? = some u→VRel F B ρ w c u) →
   ∃ us',Φ'.holds us' (fun j=>o.testBit j=true) k w∧cs'.length=us'.length∧∀ (i:Nat) (c:AV) (u:Value),cs'[i]? = some c→us'[i]? = some u→VRel F B ρ w c u):
  Inv F (B.set b (.obj cs' Φ')) ρ w∧(∀ k,Own F (B.set b (.obj cs' Φ')) ρ k↔Own F B ρ k)∧Ext F B ρ w (B.set b (.obj cs' Φ')) ρ w:=by
 have hlt:b<B.length:=(List.getElem?_eq_some_iff.1 hb).1
 have hown:∀ k,Own F (B.set b (.obj cs' Φ')) ρ k↔Own F B ρ k:=by
  intro k
  constructor
  ·rintro (h | ⟨c,x,l,p1,p2,p3⟩)
   ·exact .inl h
   ·rw[List.getElem?_set] at p1
    split at p1
    ·rename_i e
     subst e
     simp[hlt] at p1
     subst p1
     exact .inr ⟨b,_,l,hb,p2,p3⟩
    ·exact .inr ⟨c,x,l,p1,p2,p3⟩
  ·rintro (h | ⟨c,x,l,p1,p2,p3⟩)
   ·exact .inl h
   ·by_cases e:b=c
    ·subst e
     rw[hb] at p1; cases p1
     exact .inr ⟨b, .obj cs' Φ',l,by rw[List.getElem?_set]; simp[hlt],p2,p3⟩
    ·exact .inr ⟨c,x,l,by rw[List.getElem?_set,if_neg e]; exact p1,p2,p3⟩
 have hE:Ext F B ρ w (B.set b (.obj cs' Φ')) ρ w:=by
  refine ⟨Nat.le_refl _,rfl,rfl,rfl,fun j hj ho=>⟨rfl,fun h=>ho ((hown j).1 h)⟩,fun _ _ _ h=>h,by simp,fun c row v cs2 hc h=>?_,fun c cs2 Φ2 hc h=>?_,fun _ _ _=>rfl⟩
  ·rw[List.getElem?_set] at h
   split at h
   ·rename_i e; subst e; simp[hlt] at h
   ·exact ⟨v,cs2,h,Nat.le_refl _,fun _=>⟨rfl,rfl⟩⟩
  ·rw[List.getElem?_set] at h
   split at h
   ·rename_i e; subst e; exact ⟨cs,Φ,hb,rfl⟩
   ·exact ⟨cs2,Φ2,h,rfl⟩
 refine ⟨hI.otherx hb hE (fun _ _=>rfl) (fun _ _ _ _ _ _ _ _=>rfl) (fun c x l l' j hne hc hl hx hl' hx'=>hne (hI.injx _ _ _ _ _ _ j hc hb hl hl' hx hx')) (fun l j hl hx=>hI.farx _ _ _ j hb hl hx) (fun _ _ _ e=>by cases e) (fun _ _ _ _ e=>by cases e) (fun cs2 Φ2 e=>?_),hown,hE⟩
 cases e
 obtain ⟨k,o,us,g1,g2,g3,g4⟩:=hI.obox b cs Φ hb
 obtain ⟨us',q1,q2,q3⟩:=h k o us g1 g2 g3 g4
 exact ⟨k,o,us',g1,q1,q2,fun i c u hc hu=>(q3 i c u hc hu).ext hE⟩

end

open Classical in
noncomputable def codeOf (S:Nat→Prop):Nat→Nat
 | 0=>0
 | n+1=>if S n then codeOf S n ||| 2 ^ n else codeOf S n

theorem codeOf_bit (S:Nat→Prop):∀ (n j:Nat),(codeOf S n).testBit j=true↔S j∧j<n
 | 0,j=>by simp[codeOf]
 | n+1,j=>by
  unfold codeOf
  split
  ·rename_i h
   rw[Nat.testBit_or,Bool.or_eq_true,codeOf_bit S n j,Nat.testBit_two_pow,decide_eq_true_eq]
   constructor
   ·rintro (⟨a,b⟩ | rfl)
    ·exact ⟨a,by omega⟩
    ·exact ⟨h,by omega⟩
   ·rintro ⟨a,b⟩
    by_cases e:n=j
    ·exact .inr e
    ·exact .inl ⟨a,by omega⟩
  ·rename_i h
   rw[codeOf_bit S n j]
   constructor
   ·rintro ⟨a,b⟩; exact ⟨a,by omega⟩
   ·rintro ⟨a,b⟩
    refine ⟨a,?_⟩
    rcases Nat.lt_or_ge j n with h' | h'
    ·exact h'
    ·exact absurd ((show j=n by omega)▸a) h

end Go.Ax

namespace Go.Ax
open Go.RowKit

structure Fil where
 name:ByteArray
 b:List UInt8
 sure:Int

structure Dsk where
 room:Int
 used:Int
 files:List Fil
 down:Bool
 fuse:Int

abbrev headC (D:Dsk):Box:= .cells false 0 [vi D.room,vi D.used, .mp 1,vb D.down,vi D.fuse]
abbrev rowB (v:Nat) (b:List UInt8):Box:= .cells true v (rowC (b.map byteE.f))
abbrev fileC (r v:Nat) (x:Fil):Box:= .cells false 0 [.rs r v 1 0 x.b.length,vi x.sure]
abbrev fileB (x:Fil):List Box:= [fileC 1 0 x,rowB 0 x.b]
abbrev ptrV (k:Nat):Value:= .pointer (some ⟨k,0,none⟩)

def packH (Bs:List Box) (S:Nat→Prop) (k:Nat) (w:World):Prop:=∃ ρ:Loc,@Inv noG noF Bs ρ w∧ρ 0=some (k,0)∧∀ j,S j↔Own noF Bs ρ j

theorem Inv.frameP {B:List Box} {ρ:Loc} {w w':World} (h:@Inv noG noF B ρ w) (hp:Bpl B.length B) (hh:∀ j,Own noF B ρ j→w'.heap[j]? = w.heap[j]?):@Inv noG noF B ρ w':=by
 letI:Glob:=noG
 have hv:∀ {x:AV} {u:Value},VRel noF B ρ w x u→x.pl=true→VRel noF B ρ w' x u:=fun {x u} hx=>by
  induction hx with
  | u x=>intro _; exact .u x
  | p x y hp=>
   intro hp'
   cases x with
   | v z=>cases hp; exact .p _ _ (.v _)
   | ls xs=>cases hp'
   | agg cs=>cases hp'
  | mp b r hp=>intro _; exact .mp b r hp
  | op b r hp=>intro _; exact .op b r hp
  | ptr b ver o a hp=>intro _; exact .ptr b ver o a hp
  | rs b ver sz off len a cap hp=>
   intro _
   refine .rs b ver sz off len a cap ⟨hp.1,hp.2.1,hp.2.2.1,fun row v cs hb=>?_⟩
   obtain ⟨q1,q2⟩:=hp.2.2.2 row v cs hb
   refine ⟨q1,fun e=>?_⟩
   obtain ⟨q3,q4⟩:=q2 e
   refine ⟨q3,q4.imp id ?_⟩
   rintro ⟨k,o',hr,ha,e',n,hsh,hle⟩
   refine ⟨k,o',hr,ha,e',n,?_,hle⟩
   unfold World.shape? at hsh ⊢
   rw[hh k (.cells hb hr)]
   exact hsh
  | rp cs a us h1 h2 h3 h4 h5 h6=>intro h; cases h
  | agg cs us h1 _ ih=>intro h; cases h
  | fn g cs us h1 _ ih=>intro h; cases h
  | tup cs us h1 _ ih=>intro hp; exact .tup cs us h1 (fun j p u h2 h3=>ih j p u h2 h3 (allPl_get (by simpa [AV.pl] using hp) j p h2))
 refine @Inv.mk noG noF B ρ w' (fun b row v cs hb=>?_) h.leaf (fun b cs Φ hb=>?_) h.injx (fun k hk=>hk.elim) (fun _ _ _ _ _ _ _ h=>h) (fun g hg=>absurd rfl hg) h.off0
 ·have hpl:=hp _ (List.mem_of_getElem? hb)
  rcases h.box b row v cs hb with h0 | ⟨k,o,us,e,fr,g1,g2,g3,g4,g5⟩
  ·exact .inl h0
  ·exact .inr ⟨k,o,us,e,fr,g1,(hh k (.cells hb g1)).trans g2,g3,g4,fun i c hc=>by obtain ⟨u,e1,e2⟩:=g5 i c hc; exact ⟨u,e1,hv e2 (allPl_get hpl.1 i c hc)⟩⟩
 ·have hpl:=hp _ (List.mem_of_getElem? hb)
  obtain ⟨k,o,us,g1,g2,g3,g4⟩:=h.obox b cs Φ hb
  exact ⟨k,o,us,g1,Φ.frame _ _ _ _ _ g2 (fun j hj=>hh j (.inr ⟨b,_,_,hb,g1,hj⟩)),g3,fun i c u hc hu=>hv (g4 i c u hc hu) (allPl_get hpl.1 i c hc)⟩

theorem own_congr {B:List Box} {ρ:Loc} {k:Nat}:Own noF B ρ k↔∃ b x l,B[b]? = some x∧ρ b=some l∧x.has l k:=⟨fun h=>h.elim (fun h=>h.elim) id, .inr⟩

theorem packH.frame {Bs:List Box} {S:Nat→Prop} {k:Nat} {w w':World} (h:packH Bs S k w) (hp:Bpl Bs.length Bs) (hh:∀ j,S j→w'.heap[j]? = w.heap[j]?):packH Bs S k w':=by
 obtain ⟨ρ,h1,h2,h3⟩:=h
 exact ⟨ρ,h1.frameP hp (fun j hj=>hh j ((h3 j).2 hj)),h2,h3⟩

theorem rowC_pl (xs:List UInt8):AV.pl.allPl (rowC (xs.map byteE.f))=true:=by
 induction xs with
 | nil=>rfl
 | cons x xs ih=>exact ih

theorem fileB_pl (x:Fil):Bpl (fileB x).length (fileB x):=by
 intro y hy
 rcases List.mem_cons.1 hy with rfl | hy
 ·exact ⟨rfl,rfl⟩
 ·rcases List.mem_cons.1 hy with rfl | hy
  ·exact ⟨rowC_pl _,@row_low noG _ _⟩
  ·cases hy

abbrev FileL:=List (Fil×Nat×(Nat→Prop))
abbrev hidOf (x:Fil×Nat×(Nat→Prop)):Value×Value:=(.string x.1.name,ptrV x.2.1)

structure DiskAt (D:Dsk) (S:Nat→Prop) (k:Nat) (w:World) (L:FileL) (ρ:Loc):Prop where
 perm:(L.map (·.1)).Perm D.files
 head:@Inv noG noF [headC D, .obj [] (mapP [] (L.map hidOf))] ρ w
 root:ρ 0=some (k,0)
 packs:∀ x∈L,packH (fileB x.1) x.2.2 x.2.1 w
 apart:L.Pairwise fun x y=>∀ j,x.2.2 j→¬y.2.2 j
 away:∀ x∈L,∀ j,x.2.2 j→¬Own noF [headC D, .obj [] (mapP [] (L.map hidOf))] ρ j
 foot:∀ j,S j↔(Own noF [headC D, .obj [] (mapP [] (L.map hidOf))] ρ j∨∃ x∈L,x.2.2 j)

theorem head_pl (D:Dsk) (hid:List (Value×Value)):Bpl 2 [headC D, .obj [] (mapP [] hid)]:=by
 intro y hy
 rcases List.mem_cons.1 hy with rfl | hy
 ·exact ⟨rfl,rfl⟩
 ·rcases List.mem_cons.1 hy with rfl | hy
  ·exact ⟨rfl,rfl⟩
  ·cases hy

theorem packH.low {Bs:List Box} {S:Nat→Prop} {k:Nat} {w:World} (h:packH Bs S k w) (j:Nat) (hj:S j):j<w.heap.size:=by
 obtain ⟨ρ,h1,h2,h3⟩:=h
 exact @Inv.ownlt noG _ _ _ _ h1 j ((h3 j).1 hj)

def diskP (D:Dsk):ObjP where
 keys:=none
 holds:=fun us S k w=>us= []∧∃ L ρ,DiskAt D S k w L ρ
 frame:=fun us S k w w' ⟨h1,L,ρ,h⟩ hh=>⟨h1,L,ρ,h.perm,h.head.frameP (head_pl _ _) (fun j hj=>hh j ((h.foot j).2 (.inl hj))),h.root,fun x hx=>(h.packs x hx).frame (fileB_pl _) (fun j hj=>hh j ((h.foot j).2 (.inr ⟨x,hx,hj⟩))),h.apart,h.away,h.foot⟩
 root:=fun us S k w ⟨h1,L,ρ,h⟩=>(h.foot k).2 (.inl (.inr ⟨0,_,_,rfl,h.root,rfl⟩))
 low:=fun us S k w j ⟨h1,L,ρ,h⟩ hj=>by
  rcases (h.foot j).1 hj with h0 | ⟨x,hx,h0⟩
  ·exact @Inv.ownlt noG _ _ _ _ h.head j h0
  ·exact (h.packs x hx).low j h0
 isMap:=fun q h=>by cases h

def ptrs:Nat→List Fil→List AV
 | _,[]=> []
 | n,_::X=> .ptr n 0 0::ptrs (n+2) X
def filesC:Nat→List Fil→List Box
 | _,[]=> []
 | n,x::X=>fileC (n+1) 0 x::rowB 0 x.b::filesC (n+2) X
abbrev keysOf (X:List Fil):List Value:=X.map fun x=> .string x.name
abbrev flatB (D:Dsk) (X:List Fil) (hid:List (Value×Value)):List Box:=headC D:: .obj (ptrs 2 X) (mapP (keysOf X) hid)::filesC 2 X

theorem ptrs_append (n:Nat) (X Y:List Fil):ptrs n (X++Y)=ptrs n X++ptrs (n+2*X.length) Y:=by
 induction X generalizing n with
 | nil=>rfl
 | cons x X ih=>simp[ptrs,ih,List.length_cons]; congr 1; omega
theorem filesC_append (n:Nat) (X Y:List Fil):filesC n (X++Y)=filesC n X++filesC (n+2*X.length) Y:=by
 induction X generalizing n with
 | nil=>rfl
 | cons x X ih=>simp[filesC,ih,List.length_cons]; congr 1; omega
theorem filesC_length (n:Nat) (X:List Fil):(filesC n X).length=2*X.length:=by
 induction X generalizing n with
 | nil=>rfl
 | cons x X ih=>simp[filesC,ih]; omega
theorem ptrs_pl (m:Nat) (X:List Fil):∀ n,n+2*X.length≤m→AV.pl.allPl (ptrs n X)=true∧AV.low.allLow m (ptrs n X)=true:=by
 induction X with
 | nil=>intro n _; exact ⟨rfl,rfl⟩
 | cons x X ih=>
  intro n h
  simp only[List.length_cons] at h
  obtain ⟨h1,h2⟩:=ih (n+2) (by omega)
  refine ⟨h1,?_⟩
  show (Nat.blt n m&&AV.low.allLow m (ptrs (n+2) X))=true
  rw[h2,Bool.and_true,Nat.blt_eq]
  omega

theorem filesC_pl (m:Nat) (X:List Fil):∀ n,n+2*X.length≤m→Bpl m (filesC n X):=by
 induction X with
 | nil=>intro n _ y hy; cases hy
 | cons x X ih=>
  intro n h y hy
  simp only[List.length_cons] at h
  rcases List.mem_cons.1 hy with rfl | hy
  ·refine ⟨rfl,?_⟩
   show (Nat.blt (n+1) m&&(true&&true))=true
   simp[Nat.blt_eq]
   omega
  ·rcases List.mem_cons.1 hy with rfl | hy
   ·exact ⟨rowC_pl _,@row_low noG _ _⟩
   ·exact ih (n+2) (by omega) y hy

theorem flat_pl (D:Dsk) (X:List Fil) (hid:List (Value×Value)):Bpl (2+2*X.length) (flatB D X hid):=by
 intro y hy
 rcases List.mem_cons.1 hy with rfl | hy
 ·refine ⟨rfl,?_⟩
  show (true&&(true&&(Nat.blt 1 (2+2*X.length)&&(true&&(true&&true)))))=true
  simp[Nat.blt_eq]
  omega
 ·rcases List.mem_cons.1 hy with rfl | hy
  ·exact ptrs_pl _ X 2 (by omega)
  ·exact filesC_pl _ X 2 (by omega) y hy

theorem flatB_length (D:Dsk) (X:List Fil) (hid:List (Value×Value)):(flatB D X hid).length=2+2*X.length:=by
 simp[filesC_length]; omega

theorem open_file {D:Dsk} {X:List Fil} {hid:List (Value×Value)} {ρ:Loc} {w:World} {x:Fil} {k:Nat} {S:Nat→Prop} (h:@Inv noG noF (flatB D X ((.string x.name,ptrV k)::hid)) ρ w) (hx:packH (fileB x) S k w)
  (hd:∀ j,Own noF (flatB D X ((.string x.name,ptrV k)::hid)) ρ j→¬S j):
  ∃ ρ',@Inv noG noF (flatB D (X++ [x]) hid) ρ' w∧(∀ j,Own noF (flatB D (X++ [x]) hid) ρ' j↔(Own noF (flatB D X ((.string x.name,ptrV k)::hid)) ρ j∨S j))∧∀ b,b<2+2*X.length→ρ' b=ρ b:=by
 letI:Glob:=noG
 obtain ⟨ρ2,g1,g2,g3⟩:=hx
 have hl:=flatB_length D X ((.string x.name,ptrV k)::hid)
 have hj:=Inv.join h g1 (by rw[hl]; exact flat_pl _ _ _) (fileB_pl x) (fun j a b=>hd j a ((g3 j).2 b))
 have hoj:=fun j=>own_join (B1:=flatB D X ((.string x.name,ptrV k)::hid)) (B2:=fileB x) (ρ1:=ρ) (ρ2:=ρ2) (f:=fun j=>(flatB D X ((.string x.name,ptrV k)::hid)).length+j) (d:=fun _=>0) j
 rw[hl] at hj
 simp only[hl] at hoj
 have hsh:(fileB x).map (Box.sh (fun j=>2+2*X.length+j) (fun _=>0))=filesC (2+2*X.length) [x]:=by
  simp only[List.map_cons,List.map_nil,Box.sh,filesC,AV.rv.rvL,AV.rv]
  congr 1
  congr 1
  simp only[rvL_map]
  refine congrArg _ (List.ext_getElem? fun i=>?_)
  rw[List.getElem?_map]
  cases hc:(rowC (x.b.map byteE.f))[i]? with
  | none=>rfl
  | some c=>simp only[Option.map_some]; rw[←(row_pure _ i c hc _ _ 0).1]
 rw[hsh] at hj hoj
 have hb:(flatB D X ((.string x.name,ptrV k)::hid)++filesC (2+2*X.length) [x])[1]? = some (.obj (ptrs 2 X) (mapP (keysOf X) ((.string x.name,ptrV k)::hid))):=rfl
 have hset:(flatB D X ((.string x.name,ptrV k)::hid)++filesC (2+2*X.length) [x]).set 1 (.obj (ptrs 2 (X++ [x])) (mapP (keysOf (X++ [x])) hid))=flatB D (X++ [x]) hid:=by
  simp only[List.cons_append,List.set_cons_succ,List.set_cons_zero]
  show _=headC D::_::filesC 2 (X++ [x])
  rw[filesC_append]
 have hfc:(flatB D X ((.string x.name,ptrV k)::hid)++filesC (2+2*X.length) [x])[2+2*X.length]? = some (fileC (2+2*X.length+1) 0 x):=by
  rw[List.getElem?_append_right (by rw[hl]; exact Nat.le_refl _),hl]; simp[filesC]
 have hρk:jn (2+2*X.length) ρ ρ2 (2+2*X.length)=some (k,0):=by
  show (if 2+2*X.length<2+2*X.length then _ else ρ2 (2+2*X.length - (2+2*X.length)))=_
  rw[if_neg (by omega),Nat.sub_self]; exact g2
 obtain ⟨r1,r2,_⟩:=@Inv.reobj noG noF _ _ _ hj 1 _ (ptrs 2 (X++ [x])) _ (mapP (keysOf (X++ [x])) hid) hb (fun k0 o us hr hh hlen hv=>by
  obtain ⟨q1,es,clock,q2,q3,q4,q5⟩:=hh
  refine ⟨us++ [ptrV k],⟨q1,es,clock,q2,q3,by simp[q4,keysOf],?_⟩,by simp[ptrs_append,ptrs,hlen],fun i c u hc hu=>?_⟩
  ·rw[keysOf,List.map_append,List.zip_append (by simp at q4; simp[q4])]
   simp only[List.map_cons,List.map_nil,List.zip_cons_cons,List.zip_nil_right,List.append_assoc,List.singleton_append]
   exact q5
  ·rw[ptrs_append,List.getElem?_append] at hc
   rw[List.getElem?_append] at hu
   split at hc
   ·rename_i hlt
    rw[if_pos (by omega)] at hu
    exact hv i c u hc hu
   ·rename_i hge
    rw[if_neg (by omega)] at hu
    cases hz:i - us.length with
    | zero=>
     rw[hz] at hu; cases hu
     rw[show i - (ptrs 2 X).length=0 by omega] at hc
     cases hc
     refine .ptr _ _ _ _ ⟨by rw[List.length_append,hl,filesC_length]; simp,fun row v cs hb'=>?_⟩
     rw[hfc] at hb'
     cases hb'
     exact ⟨Nat.le_refl _,fun _=>⟨k,0,hρk,rfl⟩⟩
    | succ n=>rw[hz] at hu; simp at hu)
 rw[hset] at r1 r2
 refine ⟨_,r1,fun j=>(r2 j).trans ((hoj j).trans (or_congr Iff.rfl (g3 j).symm)),fun b hb'=>?_⟩
 simp[jn,hb']

end Go.Ax
