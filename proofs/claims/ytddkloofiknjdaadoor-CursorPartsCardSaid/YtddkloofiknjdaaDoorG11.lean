/- What code comes to, as a relation that may forget; contracts of functions out of it. -/
import Derived.Test.YtddkloofiknjdaaDoorG10
import Derived.Lib.Bytealg
import Derived.Shelf.Small.Strs
import Derived.Lib.SmallJoins
import Derived.ChangeOld
import Derived.Carry
import Derived.ShutString
set_option linter.unusedVariables false
set_option linter.unusedSimpArgs false
set_option linter.unusedSectionVars false
namespace Go.Ax
open Go.RowKit

variable [Glob] {P : Program} {F : Nat → Prop}

def tk (l:List (Nat×AV)):T:=fun i=>((l.find? fun p=>Nat.beq p.1 i).map (·.2)).getD .u

def AV.low (n:Nat):AV→Bool
 | .u | .p _ | .rp _=>true
 | .ptr b _ _ | .mp b | .op b=>Nat.blt b n
 | .rs b _ _ _ _=>Nat.blt b n
 | .agg cs=>allLow n cs
 | .fn _ cs=>allLow n cs
 | .tup cs=>allLow n cs
 where
 allLow (n:Nat):List AV→Bool
  | []=>true
  | c::cs=>c.low n&&allLow n cs

def Box.low (n:Nat):Box→Bool
 | .dead=>true
 | .cells _ _ cs=>AV.low.allLow n cs
 | .obj _ _=>false

theorem allLow_get {n:Nat}:∀ {cs:List AV},AV.low.allLow n cs=true→∀ (j:Nat) (c:AV),cs[j]? = some c→c.low n=true
 | [],_,j,c,h=>by simp at h
 | d::cs,hl,j,c,h=>by
  simp only[AV.low.allLow,Bool.and_eq_true] at hl
  cases j with
  | zero=>cases h; exact hl.1
  | succ j=>exact allLow_get hl.2 j c (by simpa using h)

def AV.ren (f:Nat→Nat):AV→AV
 | .ptr b v o=> .ptr (f b) v o
 | .rs b v z o l=> .rs (f b) v z o l
 | .agg cs=> .agg (renL f cs)
 | .fn g cs=> .fn g (renL f cs)
 | .tup cs=> .tup (renL f cs)
 | .u=> .u
 | .p x=> .p x
 | .rp cs=> .rp cs
 | .mp b=> .mp (f b)
 | .op b=> .op (f b)
 where
 renL (f:Nat→Nat):List AV→List AV
  | []=> []
  | c::cs=>c.ren f::renL f cs

inductive Sealed (S:Nat→Prop) (B:List Box):AV→AV→Prop
 | p (x:PV):Sealed S B (.p x) (.p x)
 | nil:Sealed S B (.p (.v (.slice none 0 0))) (.p (.ls []))
 | row (b ver sz off len:Nat) (row:Bool) (cs:List AV) (xs:List PV):S b→B[b]? = some (.cells row ver cs)→xs.length=len→(xs.flatMap PV.cells).map .p=(cs.drop off).take (len*sz)→off+len*sz≤cs.length →
   Sealed S B (.rs b ver sz off len) (.p (.ls xs))
 | agg (cs ds:List AV):cs.length=ds.length→(∀ (j:Nat) (c d:AV),cs[j]? = some c→ds[j]? = some d→Sealed S B c d)→Sealed S B (.agg cs) (.agg ds)
 | tup (cs ds:List AV):cs.length=ds.length→(∀ (j:Nat) (c d:AV),cs[j]? = some c→ds[j]? = some d→Sealed S B c d)→Sealed S B (.tup cs) (.tup ds)

theorem Sealed.vrel {F' S:Nat→Prop} {B:List Box} {ρ:Loc} {w:World} (hI:Inv F' B ρ w) {x y:AV} (h:Sealed S B x y) {u:Value} (hv:VRel F' B ρ w x u) {O:List Box} {ρ2:Loc} (hsub:∀ k,Own F O ρ2 k→Own F' B ρ k)
  (hsep:∀ b row v cs k o,S b→B[b]? = some (.cells row v cs)→ρ b=some (k,o)→¬Own F O ρ2 k):VRel F O ρ2 w y u:=by
 have hP:∀ (p:PV) (u:Value),PRel (Own F' B ρ) w p u→PRel (Own F O ρ2) w p u:=fun p u hp=>hp.mono (fun k _ ho=>⟨rfl,fun h=>ho (hsub k h)⟩) (Nat.le_refl _)
 induction h generalizing u with
 | p x=>
  cases hv with
  | p _ _ hp=>exact .p _ _ (hP _ _ hp)
 | nil=>
  obtain rfl:=hv.val
  exact .p _ _ (.nil none 0 (.inr rfl))
 | row b ver sz off len row cs xs hS hb hl hxs hle=>
  cases hv with
  | rs _ _ _ _ _ a cap hok=>
   obtain ⟨g1,g2,g3,g4⟩:=hok
   obtain ⟨_,g5⟩:=g4 _ _ _ hb
   obtain ⟨g6,g7⟩:=g5 rfl
   have hflat:(xs.flatMap PV.cells).length=len*sz:=by
    have h1:=congrArg List.length hxs
    rw[List.length_map,List.length_take,List.length_drop] at h1
    omega
   rcases g7 with h0 | ⟨k,o',hr,ha,e',m,hsh,hle2⟩
   ·have hl0:len=0:=by omega
    subst hl0
    have:xs= []:=List.eq_nil_of_length_eq_zero hl
    subst this
    exact .p _ _ (.nil a cap (.inr h0))
   ·subst ha
    obtain ⟨us,e2,fr,q1,q2,q3,q4⟩:=hI.cell hb hr
    have hk:k<w.heap.size:=(Array.getElem?_eq_some_iff.1 q1).1
    rw[←hl]
    refine .p _ _ (.ls xs ⟨k,o'+off,none⟩ cap ((us.toList.drop (o'+off)).take (len*sz)) rfl (hsep _ _ _ _ _ _ hS hb hr) hk (by omega)
     (by rw[hflat,List.length_take,List.length_drop,Array.length_toList]; omega) (fun j u hj=>?_) (fun j p u hp hu=>?_))
    ·rw[List.getElem?_take] at hj
     split at hj
     ·rw[List.getElem?_drop] at hj
      rw[Addr.add_lit,cell_of q1]
      simpa using hj
     ·cases hj
    ·rw[List.getElem?_take] at hu
     split at hu
     ·rename_i hjl
      rw[List.getElem?_drop] at hu
      have hp2:((cs.drop off).take (len*sz))[j]? = some (.p p):=by rw[←hxs,List.getElem?_map,hp]; rfl
      rw[List.getElem?_take,if_pos hjl,List.getElem?_drop] at hp2
      obtain ⟨u',f1,f2⟩:=q4 _ _ hp2
      have e3:us[o'+off+j]? = some u:=by simpa using hu
      rw[show o'+(off+j)=o'+off+j by omega,e3] at f1
      cases f1
      cases f2 with
      | p _ _ hp3=>exact hP _ _ hp3
     ·cases hu
 | agg cs ds h1 _ ih=>
  obtain ⟨us,rfl,g1,g2⟩:=hv.agg_inv
  refine .agg ds us (by omega) (fun j d u hd hu=>?_)
  have hj:j<cs.length:=by rw[h1]; exact (List.getElem?_eq_some_iff.1 hd).1
  exact ih j _ d (List.getElem?_eq_getElem hj) hd (g2 j _ u (List.getElem?_eq_getElem hj) hu)
 | tup cs ds h1 _ ih=>
  cases hv with
  | tup _ us g1 g2=>
  refine .tup ds us (by omega) (fun j d u hd hu=>?_)
  have hj:j<cs.length:=by rw[h1]; exact (List.getElem?_eq_some_iff.1 hd).1
  exact ih j _ d (List.getElem?_eq_getElem hj) hd (g2 j _ u (List.getElem?_eq_getElem hj) hu)

def WCell (B:List Box) (f:Nat→Nat) (m:Nat) (x y:AV):Prop:=(x=y.ren f∧y.low m=true)∨Sealed (fun b=>∀ j,j<m→f j≠b) B x y

structure Weak (s s':AS) (f:Nat→Nat):Prop where
 t:∀ i,s'.t i= .u∨WCell s.B f s'.B.length (s.t i) (s'.t i)
 lt:∀ j,j<s'.B.length→f j<s.B.length
 box:∀ (j:Nat) (row:Bool) (v:Nat) (cs':List AV),s'.B[j]? = some (.cells row v cs')→∃ cs:List AV,s.B[f j]? = some (.cells row v cs)∧cs.length=cs'.length ∧
  ∀ (i:Nat) (c c':AV),cs[i]? = some c→cs'[i]? = some c'→WCell s.B f s'.B.length c c'
 inj:∀ i j,i<s'.B.length→j<s'.B.length→f i=f j→i=j
 noobj:∀ (j:Nat) (cs:List AV) (Φ:ObjP),s'.B[j]? ≠ some (.obj cs Φ)

inductive EvX (P:Program) (Γ:Env) (n m0:Nat):Bool→Code→AS→AE→AS→Prop
 | run {c s e s'}:codeA P Γ n c s=some (e,s')→EvX P Γ n m0 false c s e s'
 | seq {a b s s1 e s'}:EvX P Γ n m0 false a s .normal s1→EvX P Γ n m0 false b s1 e s'→EvX P Γ n m0 false (.seq a b) s e s'
 | seqx {a b s e s'}:EvX P Γ n m0 false a s e s'→e≠ .normal→EvX P Γ n m0 false (.seq a b) s e s'
 | cond {c x y s q e s'}:boolA (evalA s.t c)=some q→EvX P Γ n m0 false (if q then x else y) s e s'→EvX P Γ n m0 false (.cond c x y) s e s'
 | block {id b s s'}:EvX P Γ n m0 false b s (.exit id) s'→EvX P Γ n m0 false (.block id b) s .normal s'
 | blockx {id b s e s'}:EvX P Γ n m0 false b s e s'→e≠ .exit id→EvX P Γ n m0 false (.block id b) s e s'
 | loop {b s e s'}:EvX P Γ n m0 true b s e s'→EvX P Γ n m0 false (.loop b) s e s'
 | next {b s s1 e s'}:EvX P Γ n m0 false b s .normal s1→EvX P Γ n m0 true b s1 e s'→EvX P Γ n m0 true b s e s'
 | leave {b s e s'}:EvX P Γ n m0 false b s e s'→e≠ .normal→EvX P Γ n m0 true b s e s'
 | weak {q c s s1 e s' f}:Weak s s1 f→(∀ j,j<m0→f j=j)→m0≤s1.B.length→EvX P Γ n m0 q c s1 e s'→EvX P Γ n m0 q c s e s'
 | weakr {q c s s1 e s' f}:EvX P Γ n m0 q c s e s1→Weak s1 s' f→(∀ j,j<m0→f j=j)→m0≤s'.B.length→EvX P Γ n m0 q c s e s'

abbrev EvC (P:Program) (Γ:Env) (n m0:Nat):=EvX P Γ n m0 false
def lwp (P:Program) (c:Code) (Q:Exit→Act→World→Prop) (a:Act) (w:World):Prop:=
 ∀ (b:Frame) (k:List Item) (cs:List Frame),∃ e a' w',Q e a' w'∧Arrives P (lone (b.at a (.code c:: .inLoop c::k)) cs w) b k cs e a' w'

theorem wp_of_lwp {c:Code} {Q:Exit→Act→World→Prop} {a:Act} {w:World} (h:lwp P c Q a w):(Code.loop c).wp P Q a w:=by
 intro b k cs
 obtain ⟨e,a',w',hq,harr⟩:=h b k cs
 exact ⟨e,a',w',hq, .of_steps (.one step_loop) harr⟩

theorem lwp_round {c:Code} {Q:Exit→Act→World→Prop} {a:Act} {w:World} (h:c.wp P (Exit.then (lwp P c Q) Q) a w):lwp P c Q a w:=by
 intro b k cs
 obtain ⟨e,a₁,w₁,hq,harr⟩:=h b (.inLoop c::k) cs
 cases e with
 | normal=>
  obtain ⟨e₂,a₂,w₂,hq₂,harr₂⟩:=hq b k cs
  exact ⟨e₂,a₂,w₂,hq₂, .of_steps (Steps.trans harr (.one step_inLoop)) harr₂⟩
 | exit id=>exact ⟨_,a₁,w₁,hq, .pass (x:= .inLoop c) rfl (fun _ _=> .inl (by simp)) harr⟩
 | goto l=>exact ⟨_,a₁,w₁,hq, .pass (x:= .inLoop c) rfl (fun _ _=> .inl (by simp)) harr⟩
 | ret=>exact ⟨_,a₁,w₁,hq, .pass (x:= .inLoop c) rfl (fun _ _=> .inl (by simp)) harr⟩
 | panic ch=>exact ⟨_,a₁,w₁,hq, .pass (x:= .inLoop c) rfl (fun _ _=> .inl (by simp)) harr⟩
 | outgrown=>exact ⟨_,a₁,w₁,hq, .pass (x:= .inLoop c) rfl (fun _ _=> .inl (by simp)) harr⟩

def goal (P:Program) (q:Bool) (c:Code) (Q:Exit→Act→World→Prop) (a:Act) (w:World):Prop:=match q with
 | false=>c.wp P Q a w
 | true=>lwp P c Q a w

/-- Without boxes only what is far is owned. -/
theorem own_nil {ρ:Loc} {k:Nat} (h:Own F [] ρ k):F k:=by
 rcases h with h | ⟨b,x,l,h,_⟩
 ·exact h
 ·simp at h

theorem VRel.nobox {B:List Box} {ρ:Loc} {w:World} {x:AV} {u:Value} (h:VRel F B ρ w x u) (hf:x.low 0=true) (ρ2:Loc):VRel (Own F B ρ) [] ρ2 w x u:=by
 have hP:∀ (p:PV) (u:Value),PRel (Own F B ρ) w p u→PRel (Own (Own F B ρ) [] ρ2) w p u:=fun p u hp=>hp.mono (fun k _ ho=>⟨rfl,fun h=>ho (own_nil h)⟩) (Nat.le_refl _)
 induction h with
 | u x=>exact .u x
 | p x y hp=>exact .p x y (hP _ _ hp)
 | mp b r hp=>simp[AV.low] at hf
 | op b r hp=>simp[AV.low] at hf
 | ptr b ver o a hp=>simp[AV.low] at hf
 | rs b ver sz off len a cap hp=>simp[AV.low] at hf
 | rp cs a us h1 h2 h3 h4 h5 h6=>exact .rp cs a us h1 (fun h=>h2 (own_nil h)) h3 h4 h5 (fun j p u hp hu=>hP _ _ (h6 j p u hp hu))
 | agg cs us h1 _ ih=>exact .agg cs us h1 (fun j p u hp hu=>ih j p u hp hu (allLow_get (by simpa [AV.low] using hf) j p hp))
 | fn f cs us h1 _ ih=>exact .fn f cs us h1 (fun j p u hp hu=>ih j p u hp hu (allLow_get (by simpa [AV.low] using hf) j p hp))
 | tup cs us h1 _ ih=>exact .tup cs us h1 (fun j p u hp hu=>ih j p u hp hu (allLow_get (by simpa [AV.low] using hf) j p hp))

theorem GRel.nobox {B:List Box} {ρ:Loc} {w:World} {g:Nat} (h:GRel F B ρ w g) (ρ2:Loc):GRel (Own F B ρ) [] ρ2 w g:=⟨h.v.nobox rfl ρ2,h.sz⟩

theorem Inv.ownlt {B:List Box} {ρ:Loc} {w:World} (hI:Inv F B ρ w) (k:Nat) (h:Own F B ρ k):k<w.heap.size:=by
 rcases h with h | ⟨b,x,l,g1,g2,g3⟩
 ·exact hI.bound k h
 ·exact hI.haslt g1 g2 g3

theorem inv_nil {B:List Box} {ρ:Loc} {w:World} (hI:Inv F B ρ w) (ρ2:Loc):Inv (Own F B ρ) [] ρ2 w:=⟨fun b row v cs h=>by simp at h,fun b row v cs h=>by simp at h,fun b cs Φ h=>by simp at h,fun b b' x x' l l' k h=>by simp at h,fun k h=>hI.ownlt k h,fun b x l k h=>by simp at h,fun g hg=>(hI.glob g hg).nobox ρ2,fun b v cs k o h=>by simp at h⟩

theorem stands {B:List Box} {ρ:Loc} {w w':World} (h1:w.heap.size≤w'.heap.size) (h2:w'.os=w.os) (h3:w'.tape=w.tape) (h4:w'.output=w.output) (h5:∀ k e n,w.shape? k=some (e,n)→w'.shape? k=some (e,n))
  (hh:∀ k,k<w.heap.size→w'.heap[k]? = w.heap[k]?) (hI:Inv F B ρ w):Ext F B ρ w B ρ w'∧Inv F B ρ w':=by
 have hE:Ext F B ρ w B ρ w':=⟨h1,h2,h3,h4,fun k hk ho=>⟨hh k hk,ho⟩,h5,Nat.le_refl _,fun _ _ v cs _ hc=>⟨v,cs,hc,Nat.le_refl _,fun _=>⟨rfl,rfl⟩⟩,fun _ cs Φ _ hc=>⟨cs,Φ,hc,rfl⟩,fun k _ hk=>hh k hk⟩
 refine ⟨hE,⟨fun b row v cs hb=>?_,hI.leaf,fun b cs Φ hb=>?_,hI.injx,fun k hF=>Nat.lt_of_lt_of_le (hI.bound k hF) h1,hI.farx,fun g hg=>(hI.glob g hg).ext hE,hI.off0⟩⟩
 case refine_2=>
  obtain ⟨k',o,us,g1,g2,g3,g4⟩:=hI.obox b cs Φ hb
  exact ⟨k',o,us,g1,Φ.frame _ _ _ _ _ g2 (fun j hj=>hh j (Φ.low _ _ _ _ j g2 hj)),g3,fun i c u h1 h2=>(g4 i c u h1 h2).ext hE⟩
 rcases hI.box b row v cs hb with h0 | ⟨k,o,us,e,fr,g1,g2,g3,g4,g5⟩
 ·exact .inl h0
 ·have hk:k<w.heap.size:=(Array.getElem?_eq_some_iff.1 g2).1
  refine .inr ⟨k,o,us,e,fr,g1,(hh k hk).trans g2,g3,g4,fun i c hc=>?_⟩
  ·obtain ⟨u,f1,f2⟩:=g5 i c hc
   exact ⟨u,f1,f2.ext hE⟩

structure FnEv (P:Program) (Γ:Env) (fn:Func) (args:List AV) (B:List Box) (s:AS) (vs:List AV):Prop where
 le:Nat.ble args.length fn.ntmps=true
 ev:∃ c e,fn.body=some c∧EvC P Γ fn.ntmps B.length c ⟨argsT args,B⟩ e s∧(e= .ret∨e= .normal)
 res:resList P s fn.results.toList=some vs

end Go.Ax

namespace Go.Ax
open Go.RowKit
variable [Glob]

inductive Orc where
 | bool (d:Nat) (q:Bool)
 | int (d:Nat) (x:Int)
 | val (d:Nat) (v:AV) (B:Option (List Box))
 | elem (d:Nat) (x:PV)
 | call (d:Nat) (v:AV)
 | weak (l:List (Nat×AV)) (B:List Box) (f:List Nat)
 | weakT (l:List (Nat×AV))
 | weakR (r:Nat) (l:List (Nat×AV)) (B:List Box) (f:List Nat)
 | loop (e:AE) (l:List (Nat×AV)) (B:List Box)

def nthF (fl:List Nat) (j:Nat):Nat:=(fl[j]?).getD 0

def noDup:List Nat→Bool
 | []=>true
 | x::r=> !(r.any (Nat.beq x))&&noDup r

theorem noDup_inj:∀ {fl:List Nat},noDup fl=true→∀ i j,i<fl.length→j<fl.length→nthF fl i=nthF fl j→i=j
 | [],_,i,_,h,_,_=>by simp at h
 | x::r,hd,i,j,hi,hj,e=>by
  simp only[noDup,Bool.and_eq_true,Bool.not_eq_true',List.any_eq_false] at hd
  have at0:∀ k,k<r.length→nthF (x::r) (k+1)≠x:=fun k hk he=>by
   have:nthF (x::r) (k+1)=r[k]:=by simp[nthF,hk]
   rw[this] at he
   exact hd.1 x (he▸List.getElem_mem hk) (Nat.beq_refl x)
  cases i with
  | zero=>
   cases j with
   | zero=>rfl
   | succ j=>exact (at0 j (by simpa using hj) (by rw[←e]; rfl)).elim
  | succ i=>
   cases j with
   | zero=>exact (at0 i (by simpa using hi) (by rw[e]; rfl)).elim
   | succ j=>
    have:=noDup_inj hd.2 i j (by simpa using hi) (by simpa using hj) (by simpa [nthF] using e)
    omega

theorem tk_get (l:List (Nat×AV)) (i:Nat):tk l i= .u∨∃ (j:Nat) (v:AV),l[j]? = some (i,v)∧tk l i=v:=by
 unfold tk
 cases h:l.find? (fun p=>Nat.beq p.1 i) with
 | none=>exact .inl rfl
 | some p=>
  have h1:=List.find?_some h
  have h2:=List.mem_of_find?_eq_some h
  obtain ⟨j,hj⟩:=List.getElem?_of_mem h2
  obtain ⟨a,v⟩:=p
  have:a=i:=Nat.eq_of_beq_eq_true h1
  subst this
  exact .inr ⟨j,v,hj,rfl⟩

variable (P : Program) (Γ : Env) (n m0 : Nat)

def okD (draw:Option Nat) (ops:List Oper) (o:Op) (s:AS):Bool:=
 match draw with
 | none=>true
 | some n0=>okCls (clsOf P Γ ops o) n0 s.t o&&(clsOf P Γ ops o != .wi||Nat.ble n0 s.B.length)

variable {P Γ n m0}

variable (P Γ n m0)

variable {P Γ n m0}

end Go.Ax

namespace Go.Ax
open Go.RowKit

abbrev vn (k:IntKind) (x:Int):AV:= .p (.v (.int k x))
abbrev vi (x:Int):AV:= .p (.v (.int .i64 x))
abbrev vb (b:Bool):AV:= .p (.v (.bool b))
abbrev vs (s:ByteArray):AV:= .p (.v (.string s))
abbrev vl (xs:List PV):AV:= .p (.ls xs)
abbrev nilS:AV:= .p (.v (.slice none 0 0))

def nav:List Bool→Code→Code
 | [],c=>c
 | b::r, .seq x y=>nav r (if b then y else x)
 | b::r, .cond _ x y=>nav r (if b then y else x)
 | _::r, .block _ x=>nav r x
 | _::r, .loop x=>nav r x
 | _,c=>c

def bodyOf (f:Func):Code:=f.body.getD .skip

def rowC (xs:List PV):List AV:=(xs.flatMap PV.cells).map .p

end Go.Ax

namespace Go.Ax
open Go.RowKit
variable [Glob]

open Classical in
noncomputable def relG (R:List AV→AV→Prop):List AV→Option AV:=fun args=>if h:∃ r,R args r then some (Classical.choose h) else none

theorem relG_some {R:List AV→AV→Prop} {args:List AV} {r:AV} (h:relG R args=some r):R args r:=by
 unfold relG at h
 split at h
 ·rename_i hx; cases h; exact Classical.choose_spec hx
 ·cases h

theorem relG_eq {R:List AV→AV→Prop} (hd:∀ args r r',R args r→R args r'→r=r') {args:List AV} {r:AV} (h:R args r):relG R args=some r:=by
 have hx:∃ r,R args r:=⟨r,h⟩
 unfold relG
 rw[dif_pos hx]
 exact congrArg some (hd _ _ _ (Classical.choose_spec hx) h)

theorem low_mono {m:Nat} {x:AV} (h:x.low 0=true):x.low m=true:=by
 induction x using AV.rec (motive_2:=fun cs=>AV.low.allLow 0 cs=true→AV.low.allLow m cs=true) with
 | u=>rfl
 | mp b=>simp[AV.low] at h
 | op b=>simp[AV.low] at h
 | p x=>rfl
 | ptr b v o=>simp[AV.low] at h
 | rs b v z o l=>simp[AV.low] at h
 | rp cs=>rfl
 | agg cs ih=>exact ih h
 | fn g cs ih=>exact ih h
 | tup cs ih=>exact ih h
 | nil=>rfl
 | cons c cs h1 h2=>
  rename_i h
  simp only[AV.low.allLow,Bool.and_eq_true] at h ⊢
  exact ⟨h1 h.1,h2 h.2⟩

variable {P : Program}

structure Elt (α:Type) (f:α→PV) (sz:Nat):Prop where
 size:∀ a,(f a).cells.length=sz
 leaf:∀ a,(f a).cells.all PV.leaf=true

variable {α : Type} {f : α → PV} {sz : Nat}

theorem Elt.all (h:Elt α f sz) (L:List α):((L.map f).all fun y=>y.cells.length == sz)=true:=by
 rw[List.all_eq_true]
 intro y hy
 obtain ⟨a,_,rfl⟩:=List.mem_map.1 hy
 simp[h.size a]

theorem Elt.flat (h:Elt α f sz) (L:List α):((L.map f).flatMap PV.cells).length=L.length*sz:=by
 induction L with
 | nil=>simp
 | cons a L ih=>rw[List.map_cons,List.flatMap_cons,List.length_append,h.size,ih,List.length_cons,Nat.succ_mul]; omega

theorem Elt.rowLen (h:Elt α f sz) (L:List α):(rowC (L.map f)).length=L.length*sz:=by rw[rowC,List.length_map,h.flat]

theorem Elt.rowLeaf (h:Elt α f sz) (L:List α):(rowC (L.map f)).all AV.leaf=true:=by
 rw[List.all_eq_true]
 intro x hx
 obtain ⟨p,hp,rfl⟩:=List.mem_map.1 hx
 obtain ⟨y,hy,hp⟩:=List.mem_flatMap.1 hp
 obtain ⟨a,_,rfl⟩:=List.mem_map.1 hy
 exact List.all_eq_true.1 (h.leaf a) p hp

theorem rowC_append (xs ys:List PV):rowC (xs++ys)=rowC xs++rowC ys:=by simp[rowC]

theorem row_low (m:Nat) (xs:List PV):AV.low.allLow m (rowC xs)=true:=by
 unfold rowC
 induction xs.flatMap PV.cells with
 | nil=>rfl
 | cons x r ih=>simp only[List.map_cons,AV.low.allLow,ih,AV.low,Bool.and_self]

theorem Elt.shutRow (h:Elt α f sz) {B:List Box} {g:Nat→Nat} {m b ver:Nat} {row:Bool} {L:List α} (hS:∀ j,j<m→g j≠b) (hb:B[b]? = some (.cells row ver (rowC (L.map f)))):WCell B g m (.rs b ver sz 0 L.length) (vl (L.map f)):=by
 refine .inr (.row b ver sz 0 L.length row _ _ hS hb (by simp) ?_ (by rw[h.rowLen]; omega))
 rw[List.drop_zero,←h.rowLen,List.take_length]
 rfl

theorem Elt.sealed (h:Elt α f sz) {B:List Box} {S:Nat→Prop} {b ver:Nat} {row:Bool} {L:List α} (hS:S b) (hb:B[b]? = some (.cells row ver (rowC (L.map f)))):Sealed S B (.rs b ver sz 0 L.length) (vl (L.map f)):=by
 refine .row b ver sz 0 L.length row _ _ hS hb (by simp) ?_ (by rw[h.rowLen]; omega)
 rw[List.drop_zero,←h.rowLen,List.take_length]
 rfl

structure RowTy (P:Program) (t e:TypeId) (sz bytes:Nat):Prop where
 elem:elemT P t=some e
 size:sizeT P e=some sz
 byts:(P.info? e).map (·.bytes)=some bytes
 zero:(Nat.beq sz 0||Nat.beq bytes 0|| !((zeroA P e).map (·.length) == some sz)|| !((zeroA P e).map (·.all AV.leaf) == some true))=false

theorem RowTy.und {t e bytes:Nat} (h:RowTy P t e sz bytes):P.underlying t=some (.slice e):=elemT_some h.elem

theorem src_ls (h:Elt α f sz) {t e bytes:Nat} (ht:RowTy P t e sz bytes) {B:List Box} (L:List α):srcA P t B sz (vl (L.map f))=some (L.length,rowC (L.map f)):=by
 unfold srcA
 rw[ht.und]
 simp only
 rw[if_pos (h.all L)]
 simp[rowC]

theorem append_row (h:Elt α f sz) {t tx e bytes:Nat} (ht:RowTy P t e sz bytes) {B:List Box} {b v:Nat} {X Y:List α} {src:AV} (hb:B[b]? = some (.cells true v (rowC (X.map f)))) (hs:srcA P tx B sz src=some (Y.length,rowC (Y.map f)))
  (hl:((X++Y).length:Int)≤1000000000) (hbytes:bytes≤140000):appendA P t tx B (.rs b v sz 0 X.length) src=some (.rs b (v+1) sz 0 (X++Y).length,B.set b (.cells true (v+1) (rowC ((X++Y).map f)))):=by
 unfold appendA
 rw[ht.elem]
 simp only[Option.bind_some,ht.size]
 rw[ht.byts]
 simp only[Option.bind_some]
 rw[if_neg (by rw[ht.zero]; simp),hs]
 simp only[Option.bind_some]
 rw[if_neg (by rw[h.rowLeaf,h.rowLen]; simp)]
 simp only[hb,Nat.beq_refl,beq_self_eq_true,Bool.and_self,Bool.true_and]
 have hle:(X.length+Y.length)*bytes≤140737488355328:=by
  have h1:X.length+Y.length≤1000000000:=by simp at hl; omega
  exact Nat.le_trans (Nat.mul_le_mul h1 hbytes) (by decide)
 rw[if_pos (by rw[Nat.ble_eq]; exact hle),List.drop_zero,←h.rowLen,List.take_length,←rowC_append,List.map_append,List.length_append]

theorem append_nil (h:Elt α f sz) {t tx e bytes:Nat} (ht:RowTy P t e sz bytes) {B:List Box} {Y:List α} {src:AV} (hs:srcA P tx B sz src=some (Y.length,rowC (Y.map f)))
  (hl:(Y.length:Int)≤1000000000) (hbytes:bytes≤140000):appendA P t tx B nilS src=some (.rs B.length 0 sz 0 Y.length,B++ [.cells true 0 (rowC (Y.map f))]):=by
 unfold appendA
 rw[ht.elem]
 simp only[Option.bind_some,ht.size]
 rw[ht.byts]
 simp only[Option.bind_some]
 rw[if_neg (by rw[ht.zero]; simp),hs]
 simp only[Option.bind_some]
 rw[if_neg (by rw[h.rowLeaf,h.rowLen]; simp)]
 have hle:Y.length*bytes≤140737488355328:=by
  have h1:Y.length≤1000000000:=by omega
  exact Nat.le_trans (Nat.mul_le_mul h1 hbytes) (by decide)
 rw[if_pos (by rw[Nat.ble_eq]; exact hle)]

theorem wrap_i64 {x:Int} (h: -9223372036854775808≤x∧x<9223372036854775808):IntKind.i64.wrap x=x:=by
 simp[IntKind.wrap,IntKind.bits,IntKind.signed]
 omega

end Go.Ax

namespace Go.Ax
open Go.RowKit
variable [Glob]

variable {P : Program}

end Go.Ax

namespace Go.Ax
open Go.RowKit
variable [Glob]

variable {P : Program}

def noF:Nat→Prop:=fun _=>False

theorem not_own {ρ:Loc} {k:Nat}:¬Own noF [] ρ k:=fun h=>own_nil h

def GlobW (w:World):Prop:=∀ g,Glob.tab g≠ []→∀ ρ,GRel noF [] ρ w g

theorem inv0 (ρ:Loc) (w:World) (hg:GlobW w):Inv noF [] ρ w:=
 ⟨fun b row v cs h=>by simp at h,fun b row v cs h=>by simp at h,fun b cs Φ h=>by simp at h,fun b b' x x' l l' k h=>by simp at h,fun k h=>h.elim,fun b x l k h=>by simp at h,fun g h=>hg g h ρ,fun b v cs k o h=>by simp at h⟩

theorem calls_of {f:Nat} {g:List AV→Option AV} (hs:SoundF P f (.pure g)) (he:enters P f=true) {args:List AV} {r:AV} (hg:g args=some r) {us:List Value} {W:World} (hA:ArgsRel noF [] (fun _=>none) W args us) (hg':GlobW W):
  Calls P f us.toArray W fun e w'=>∃ v ρ,e= .returned v∧Below W.heap.size W w'∧VRel noF [] ρ w' r v:=by
 have hrun:(FSpec.pure g).run args []=some (r,[]):=by simp[FSpec.run,hg]
 have fin:∀ e w',Post noF [] (fun _=>none) W r [] e w'→∃ v ρ,e= .returned v∧Below W.heap.size W w'∧VRel noF [] ρ w' r v:=by
  rintro e w' ⟨v,ρ,rfl,_,hE,hv⟩
  exact ⟨v,ρ,rfl,⟨hE.os,hE.tape,hE.output,hE.size,fun k hk=>(hE.keep k hk not_own).1⟩,hv⟩
 rcases hs args [] r [] hrun noF (fun _=>none) W us (inv0 _ _ hg') hA with ⟨_,h⟩ | ⟨v,w',h,hp⟩
 ·exact h.mono fin
 ·have:=enter_run he us.toArray W
  rw[this] at h
  cases h

theorem flat_rel {α:Type} {f:α→PV} {sz:Nat} (he:Elt α f sz) {R:PV→Value→Prop}:∀ (L:List α) (css:List (List Value)),L.length=css.length →
  (∀ (i:Nat) (a:α) (cs:List Value),L[i]? = some a→css[i]? = some cs→cs.length=sz∧∀ (r:Nat) (p:PV) (u:Value),(f a).cells[r]? = some p→cs[r]? = some u→R p u) →
  ((L.map f).flatMap PV.cells).length=css.flatten.length∧(∀ (j:Nat) (p:PV) (u:Value),((L.map f).flatMap PV.cells)[j]? = some p→css.flatten[j]? = some u→R p u)
 | [],css,hl,h=>by
  have:css= []:=List.eq_nil_of_length_eq_zero (by simpa using hl.symm)
  subst this
  exact ⟨rfl,fun j p u hp=>by simp at hp⟩
 | a::L,css,hl,h=>by
  cases css with
  | nil=>simp at hl
  | cons cs css=>
   obtain ⟨g1,g2⟩:=h 0 a cs rfl rfl
   obtain ⟨i1,i2⟩:=flat_rel he L css (by simpa using hl) (fun i b ds hb hd=>h (i+1) b ds (by simpa using hb) (by simpa using hd))
   have hs:=he.size a
   refine ⟨by rw[List.map_cons,List.flatMap_cons,List.flatten_cons,List.length_append,List.length_append,i1]; omega,fun j p u hp hu=>?_⟩
   rw[List.map_cons,List.flatMap_cons,List.getElem?_append] at hp
   rw[List.flatten_cons,List.getElem?_append] at hu
   split at hp
   ·rw[if_pos (by omega)] at hu
    exact g2 j p u hp hu
   ·rw[if_neg (by omega)] at hu
    rw[hs] at hp
    rw[g1] at hu
    exact i2 _ p u hp hu

theorem flat_cell {w:World} {a:Addr} {sz:Nat}:∀ (css:List (List Value)) (k:Nat),(∀ (i:Nat) (cs:List Value),css[i]? = some cs→cs.length=sz∧∀ (r:Nat) (u:Value),cs[r]? = some u→w.cell? (a.add ((k+i)*sz+r))=some u) →
  ∀ (j:Nat) (u:Value),css.flatten[j]? = some u→w.cell? (a.add (k*sz+j))=some u
 | [],_,_,j,u,h=>by simp at h
 | cs::css,k,h,j,u,hu=>by
  obtain ⟨g1,g2⟩:=h 0 cs rfl
  rw[List.flatten_cons,List.getElem?_append] at hu
  split at hu
  ·have:=g2 j u hu
   simpa using this
  ·have:=flat_cell css (k+1) (fun i ds hd=>by
    have:=h (i+1) ds (by simpa using hd)
    rw[show k+1+i=k+(i+1) by omega]
    exact this) _ u hu
   rw[show k*sz+j=(k+1)*sz+(j - cs.length) by rw[Nat.succ_mul]; omega]
   exact this

theorem open_listL {H:Type} {enc:TypeId×Value→H} {w:World} {base:Nat} {spare:Nat→Bool} {held:Bool} {O:Nat→Prop} (hO:∀ k,¬O k) {t e:TypeId} (ht:P.underlying t=some (.slice e)) {α:Type} {f:α→PV} {sz:Nat} (he:Elt α f sz) (hpos:0<sz) (hc:P.cellsOf e=sz) {Q:α→Prop}
  (hel:∀ n cs' y,DataW.trod enc P w base spare held n e cs'=some y→∃ a:α,Q a∧cs'.length=sz∧∀ (r:Nat) (p:PV) (u:Value),(f a).cells[r]? = some p→cs'[r]? = some u→PRel O w p u)
  {fuel:Nat} {v:Value} {x:DataW H×List MemPlace} (h:DataW.trod enc P w base spare held fuel t [v]=some x):∃ L:List α,(∀ a∈L,Q a)∧L.length≤maxLen∧PRel O w (.ls (L.map f)) v:=by
 rcases Deep.open_slice ht h with ⟨h1,_⟩ | ⟨a,len,cap,m,n,D,Pl,h1,hb,hl,hcm,hmm,_,hx⟩
 ·cases h1
  exact ⟨[],fun a ha=>by simp at ha,Nat.zero_le _, .nil none 0 (.inr rfl)⟩
 ·cases h1
  rw[hc] at hx
  have hlm:len≤m:=by rw[hmm]; split <;> omega
  have hx2:∀ i,i<len→∃ q:List Value×α,w.cells? base (a.add (i*sz)) sz=some q.1∧Q q.2∧q.1.length=sz∧∀ (r:Nat) (p:PV) (u:Value),(f q.2).cells[r]? = some p→q.1[r]? = some u→PRel O w p u:=by
   intro i hi
   obtain ⟨cs',g1,g2⟩:=hx i (by omega)
   obtain ⟨b,g3,g4⟩:=hel _ _ _ g2
   exact ⟨(cs',b),g1,g3,g4⟩
  obtain ⟨qs,q1,q2⟩:=exists_list len (fun i (q:List Value×α)=>w.cells? base (a.add (i*sz)) sz=some q.1∧Q q.2∧q.1.length=sz∧∀ (r:Nat) (p:PV) (u:Value),(f q.2).cells[r]? = some p→q.1[r]? = some u→PRel O w p u) hx2
  refine ⟨qs.map (·.2),fun b hb=>?_,by rw[List.length_map,q1]; exact Nat.le_trans hl hcm,?_⟩
  ·obtain ⟨q,hq,rfl⟩:=List.mem_map.1 hb
   obtain ⟨i,hi⟩:=List.getElem?_of_mem hq
   exact (q2 i q hi).2.1
  ·obtain ⟨f1,f2⟩:=flat_rel he (R:=PRel O w) (qs.map (·.2)) (qs.map (·.1)) (by simp) (fun i b cs hb' hcs=>by
    rw[List.getElem?_map] at hb' hcs
    cases hq:qs[i]? with
    | none=>rw[hq] at hb'; cases hb'
    | some q=>
     rw[hq] at hb' hcs
     cases hb'
     cases hcs
     exact (q2 i q hq).2.2)
   have hcell:∀ (j:Nat) (u:Value),((qs.map (·.1)).flatten)[j]? = some u→w.cell? (a.add j)=some u:=by
    intro j u hu
    have:=flat_cell (w:=w) (a:=a) (sz:=sz) (qs.map (·.1)) 0 (fun i cs hcs=>by
     rw[List.getElem?_map] at hcs
     cases hq:qs[i]? with
     | none=>rw[hq] at hcs; cases hcs
     | some q=>
      rw[hq] at hcs
      cases hcs
      obtain ⟨g1,_,g3,_⟩:=q2 i q hq
      obtain ⟨_,_,g5⟩:=World.cells?_some g1
      refine ⟨g3,fun r u hr=>?_⟩
      have hr':r<sz:=by rw[←g3]; exact (List.getElem?_eq_some_iff.1 hr).1
      have:=g5 r hr'
      rw[Deep.add_add] at this
      rw[Nat.zero_add,this]
      exact hr) j u hu
    simpa using this
   by_cases h0:len=0
   ·have:qs= []:=List.eq_nil_of_length_eq_zero (by omega)
    subst this
    subst h0
    exact .nil (some a) cap (.inl rfl)
   ·have hfl:0<((qs.map (·.1)).flatten).length:=by
     rw[←f1,he.flat]
     exact Nat.mul_pos (by simp; omega) hpos
    have hc0:=hcell 0 _ (List.getElem?_eq_getElem hfl)
    have hsp:a.spot=none:=by
     have:=World.cell?_spot hc0
     simpa [Addr.add] using this
    have hlt:a.block<w.heap.size:=by
     unfold World.cell? at hc0
     simp only[Addr.add,if_true] at hc0
     split at hc0
     ·rename_i hh; exact (Array.getElem?_eq_some_iff.1 hh).1
     ·cases hc0
    have hlen:(List.map f (qs.map (·.2))).length=len:=by simp[q1]
    rw[←hlen]
    exact .ls _ a cap _ hsp (hO _) hlt (by omega) f1 hcell f2

theorem open_list {H:Type} {enc:TypeId×Value→H} {w:World} {base:Nat} {spare:Nat→Bool} {held:Bool} {O:Nat→Prop} (hO:∀ k,¬O k) {t e:TypeId} (ht:P.underlying t=some (.slice e)) {α:Type} {f:α→PV} {sz:Nat} (he:Elt α f sz) (hpos:0<sz) (hc:P.cellsOf e=sz) {Q:α→Prop}
  (hel:∀ n cs' y,DataW.trod enc P w base spare held n e cs'=some y→∃ a:α,Q a∧cs'.length=sz∧∀ (r:Nat) (p:PV) (u:Value),(f a).cells[r]? = some p→cs'[r]? = some u→PRel O w p u)
  {fuel:Nat} {v:Value} {x:DataW H×List MemPlace} (h:DataW.trod enc P w base spare held fuel t [v]=some x):∃ L:List α,(∀ a∈L,Q a)∧PRel O w (.ls (L.map f)) v:=by
 obtain ⟨L,a,_,b⟩:=open_listL hO ht he hpos hc hel h
 exact ⟨L,a,b⟩

end Go.Ax

namespace Go.Ax
open Go.RowKit
variable [Glob]

variable {P : Program}

variable {α : Type} {f : α → PV} {sz : Nat}

theorem Elt.flatGet (h:Elt α f sz):∀ (L:List α) (i k:Nat) (a:α),L[i]? = some a→k<sz→((L.map f).flatMap PV.cells)[i*sz+k]? = (f a).cells[k]?
 | [],i,k,a,hi,_=>by simp at hi
 | x::L,i,k,a,hi,hk=>by
  rw[List.map_cons,List.flatMap_cons,List.getElem?_append]
  cases i with
  | zero=>
   cases hi
   rw[if_pos (by rw[h.size]; omega)]
   simp
  | succ i=>
   rw[if_neg (by rw[h.size,Nat.succ_mul]; omega),h.size,show (i+1)*sz+k - sz=i*sz+k by rw[Nat.succ_mul]; omega]
   exact h.flatGet L i k a (by simpa using hi) hk

end Go.Ax
