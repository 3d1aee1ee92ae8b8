/- A call sees some boxes of its caller's, by other names; all others stay. -/
import Derived.Test.YtddkloofiknjdaaDoorG16
set_option linter.unusedVariables false
set_option linter.unusedSimpArgs false
set_option linter.unusedSectionVars false
namespace Go.Ax
open Go.RowKit

variable [Glob] {P : Program} {F : Nat → Prop}

theorem VRel.rv2 {F':Nat→Prop} {B B':List Box} {ρ:Loc} {w:World} {f d:Nat→Nat} (hB:∀ j row v cs,B'[j]? = some (.cells row v cs)→∃ cs0:List AV,B[f j]? = some (.cells row (v+d j) cs0)∧cs0.length=cs.length)
  (hX:∀ j cs Φ,B'[j]? = some (.obj cs Φ)→∃ cs0,B[f j]? = some (.obj cs0 Φ))
  (hO:∀ k,Own F' B' (fun j=>ρ (f j)) k→Own F B ρ k) {x:AV} {u:Value} (h:VRel F B ρ w x u):∀ {y:AV},x=y.rv f d→y.low B'.length=true→VRel F' B' (fun j=>ρ (f j)) w y u:=by
 have hP:∀ (p:PV) (u:Value),PRel (Own F B ρ) w p u→PRel (Own F' B' (fun j=>ρ (f j))) w p u:=fun p u hp=>hp.mono (fun k _ ho=>⟨rfl,fun h=>ho (hO k h)⟩) (Nat.le_refl _)
 have parts:∀ {cs:List AV} {us:List Value} {ds:List AV},cs.length=us.length→(∀ (j:Nat) (p:AV) (u:Value),cs[j]? = some p→us[j]? = some u→∀ {y:AV},p=y.rv f d→y.low B'.length=true→VRel F' B' (fun j=>ρ (f j)) w y u) →
   cs=AV.rv.rvL f d ds→AV.low.allLow B'.length ds=true→ds.length=us.length∧∀ (j:Nat) (p:AV) (u:Value),ds[j]? = some p→us[j]? = some u→VRel F' B' (fun j=>ρ (f j)) w p u:=by
  intro cs us ds h1 ih e hl
  rw[rvL_map] at e
  subst e
  refine ⟨by simpa using h1,fun j p u hp hu=>ih j (p.rv f d) u (by rw[List.getElem?_map,hp]; rfl) hu rfl (allLow_get hl j p hp)⟩
 induction h with
 | u x=>intro y e hl; cases y <;> simp[AV.rv] at e; exact .u x
 | p x y hp=>intro z e hl; cases z <;> simp[AV.rv] at e; subst e; exact .p _ y (hP _ _ hp)
 | mp b r hp=>
  intro y e hl
  cases y <;> simp[AV.rv] at e
  subst e
  refine .mp _ _ ⟨by simpa [AV.low,Nat.blt_eq] using hl,fun cs Φ hc=>?_⟩
  obtain ⟨cs0,g1⟩:=hX _ _ _ hc
  exact hp.2 cs0 Φ g1
 | op b r hp=>
  intro y e hl
  cases y <;> simp[AV.rv] at e
  subst e
  refine .op _ _ ⟨by simpa [AV.low,Nat.blt_eq] using hl,fun cs Φ hc=>?_⟩
  obtain ⟨cs0,g1⟩:=hX _ _ _ hc
  exact hp.2 cs0 Φ g1
 | ptr b ver o a hp=>
  intro y e hl
  cases y <;> simp[AV.rv] at e
  obtain ⟨rfl,rfl,rfl⟩:=e
  refine .ptr _ _ _ a ⟨by simpa [AV.low,Nat.blt_eq] using hl,fun row v cs hc=>?_⟩
  obtain ⟨cs0,g1,_⟩:=hB _ _ _ _ hc
  obtain ⟨q1,q2⟩:=hp.2 row _ cs0 g1
  exact ⟨by omega,fun e=>q2 (by omega)⟩
 | rs b ver sz off len a cap hp=>
  intro y e hl
  cases y <;> simp[AV.rv] at e
  obtain ⟨rfl,rfl,rfl,rfl,rfl⟩:=e
  refine .rs _ _ _ _ _ a cap ⟨by simpa [AV.low,Nat.blt_eq] using hl,hp.2.1,hp.2.2.1,fun row v cs hc=>?_⟩
  obtain ⟨cs0,g1,g2⟩:=hB _ _ _ _ hc
  rw[←g2]
  obtain ⟨q1,q2⟩:=hp.2.2.2 row _ cs0 g1
  exact ⟨by omega,fun e=>q2 (by omega)⟩
 | rp cs a us h1 h2 h3 h4 h5 h6=>
  intro y e hl
  cases y <;> simp[AV.rv] at e
  subst e
  exact .rp _ a us h1 (fun h=>h2 (hO _ h)) h3 h4 h5 (fun j p u hp hu=>hP _ _ (h6 j p u hp hu))
 | agg cs us h1 _ ih=>
  intro y e hl
  cases y <;> simp[AV.rv] at e
  obtain ⟨q1,q2⟩:=parts h1 ih e (by simpa [AV.low] using hl)
  exact .agg _ us q1 q2
 | fn g cs us h1 _ ih=>
  intro y e hl
  cases y <;> simp[AV.rv] at e
  obtain ⟨rfl,e⟩:=e
  obtain ⟨q1,q2⟩:=parts h1 ih e (by simpa [AV.low] using hl)
  exact .fn _ _ us q1 q2
 | tup cs us h1 _ ih=>
  intro y e hl
  cases y <;> simp[AV.rv] at e
  obtain ⟨q1,q2⟩:=parts h1 ih e (by simpa [AV.low] using hl)
  exact .tup _ us q1 q2

theorem VRel.fwd {F':Nat→Prop} {B B':List Box} {ρ ρ':Loc} {w:World} {f d:Nat→Nat} (hlt:∀ j,j<B.length→f j<B'.length) (hρ:∀ j,j<B.length→ρ' (f j)=ρ j)
  (hB:∀ j row v cs,j<B.length→B'[f j]? = some (.cells row v cs)→∃ (v0:Nat) (cs0:List AV),B[j]? = some (.cells row v0 cs0)∧v=v0+d j∧cs0.length=cs.length)
  (hX:∀ j cs Φ,j<B.length→B'[f j]? = some (.obj cs Φ)→∃ cs0 Φ0,B[j]? = some (.obj cs0 Φ0))
  (hO:∀ k,Own F' B' ρ' k→Own F B ρ k) {y:AV} {u:Value} (h:VRel F B ρ w y u):y.low B.length=true→VRel F' B' ρ' w (y.rv f d) u:=by
 have hP:∀ (p:PV) (u:Value),PRel (Own F B ρ) w p u→PRel (Own F' B' ρ') w p u:=fun p u hp=>hp.mono (fun k _ ho=>⟨rfl,fun h=>ho (hO k h)⟩) (Nat.le_refl _)
 have parts:∀ {cs:List AV} {us:List Value},cs.length=us.length→(∀ (j:Nat) (p:AV) (u:Value),cs[j]? = some p→us[j]? = some u→p.low B.length=true→VRel F' B' ρ' w (p.rv f d) u) →
   AV.low.allLow B.length cs=true→(AV.rv.rvL f d cs).length=us.length∧∀ (j:Nat) (p:AV) (u:Value),(AV.rv.rvL f d cs)[j]? = some p→us[j]? = some u→VRel F' B' ρ' w p u:=by
  intro cs us h1 ih hl
  rw[rvL_map]
  refine ⟨by simpa using h1,fun j p u hp hu=>?_⟩
  rw[List.getElem?_map] at hp
  cases hc:cs[j]? with
  | none=>rw[hc] at hp; cases hp
  | some c=>rw[hc] at hp; cases hp; exact ih j c u hc hu (allLow_get hl j c hc)
 induction h with
 | u x=>intro _; exact .u x
 | p x y hp=>intro _; exact .p _ y (hP _ _ hp)
 | mp b r hp=>
  intro hl
  have hb:b<B.length:=by simpa [AV.low,Nat.blt_eq] using hl
  refine .mp _ _ ⟨hlt b hb,fun cs Φ hc=>?_⟩
  obtain ⟨cs0,Φ0,g1⟩:=hX b cs Φ hb hc
  rw[hρ b hb]
  exact hp.2 cs0 Φ0 g1
 | op b r hp=>
  intro hl
  have hb:b<B.length:=by simpa [AV.low,Nat.blt_eq] using hl
  refine .op _ _ ⟨hlt b hb,fun cs Φ hc=>?_⟩
  obtain ⟨cs0,Φ0,g1⟩:=hX b cs Φ hb hc
  rw[hρ b hb]
  exact hp.2 cs0 Φ0 g1
 | ptr b ver o a hp=>
  intro hl
  have hb:b<B.length:=by simpa [AV.low,Nat.blt_eq] using hl
  refine .ptr _ _ _ a ⟨hlt b hb,fun row v cs hc=>?_⟩
  obtain ⟨v0,cs0,g1,rfl,_⟩:=hB b row v cs hb hc
  obtain ⟨q1,q2⟩:=hp.2 row _ cs0 g1
  refine ⟨by omega,fun e=>?_⟩
  rw[hρ b hb]
  exact q2 (by omega)
 | rs b ver sz off len a cap hp=>
  intro hl
  have hb:b<B.length:=by simpa [AV.low,Nat.blt_eq] using hl
  refine .rs _ _ _ _ _ a cap ⟨hlt b hb,hp.2.1,hp.2.2.1,fun row v cs hc=>?_⟩
  obtain ⟨v0,cs0,g1,rfl,g2⟩:=hB b row v cs hb hc
  obtain ⟨q1,q2⟩:=hp.2.2.2 row _ cs0 g1
  refine ⟨by omega,fun e=>?_⟩
  rw[hρ b hb,←g2]
  exact q2 (by omega)
 | rp cs a us h1 h2 h3 h4 h5 h6=>
  intro _
  exact .rp _ a us h1 (fun h=>h2 (hO _ h)) h3 h4 h5 (fun j p u hp hu=>hP _ _ (h6 j p u hp hu))
 | agg cs us h1 _ ih=>
  intro hl
  obtain ⟨q1,q2⟩:=parts h1 ih (by simpa [AV.low] using hl)
  exact .agg _ us q1 q2
 | fn g cs us h1 _ ih=>
  intro hl
  obtain ⟨q1,q2⟩:=parts h1 ih (by simpa [AV.low] using hl)
  exact .fn _ _ us q1 q2
 | tup cs us h1 _ ih=>
  intro hl
  obtain ⟨q1,q2⟩:=parts h1 ih (by simpa [AV.low] using hl)
  exact .tup _ us q1 q2

inductive BoxRen (f d:Nat→Nat) (n j:Nat):Box→Box→Prop
 | mk (row:Bool) (v:Nat) (cs0 cs:List AV):cs0.length=cs.length→(∀ (i:Nat) (c0 c:AV),cs0[i]? = some c0→cs[i]? = some c→c=c0.rv f d∧c0.low n=true)→BoxRen f d n j (.cells row v cs0) (.cells row (v+d j) cs)
 | dead:BoxRen f d n j .dead .dead
 | obj (Φ:ObjP) (cs0 cs:List AV):cs0.length=cs.length→(∀ (i:Nat) (c0 c:AV),cs0[i]? = some c0→cs[i]? = some c→c=c0.rv f d∧c0.low n=true)→BoxRen f d n j (.obj cs0 Φ) (.obj cs Φ)

theorem BoxRen.row {f d:Nat→Nat} {n j:Nat} (row:Bool) (v:Nat) (xs:List PV):BoxRen f d n j (.cells row v (rowC xs)) (.cells row (v+d j) (rowC xs)):=
 .mk row v _ _ rfl fun i c0 c h1 h2=>by
  rw[h1] at h2
  cases h2
  have:=row_pure xs i c0 h1 f d n
  exact this

theorem BoxRen.objs {f d:Nat→Nat} {n j:Nat} {Φ:ObjP} {cs0 cs:List AV} (h1:cs=AV.rv.rvL f d cs0) (h2:AV.low.allLow n cs0=true):BoxRen f d n j (.obj cs0 Φ) (.obj cs Φ):=by
 rw[rvL_map] at h1
 subst h1
 refine .obj Φ _ _ (by simp) fun i c0 c g1 g2=>?_
 rw[List.getElem?_map,g1] at g2
 cases g2
 exact ⟨rfl,allLow_get h2 i c0 g1⟩

theorem BoxRen.cells {f d:Nat→Nat} {n j:Nat} {row:Bool} {v v':Nat} {cs0 cs:List AV} (hv:v'=v+d j) (h1:cs=AV.rv.rvL f d cs0) (h2:AV.low.allLow n cs0=true):BoxRen f d n j (.cells row v cs0) (.cells row v' cs):=by
 subst hv
 rw[rvL_map] at h1
 subst h1
 refine .mk row v _ _ (by simp) fun i c0 c g1 g2=>?_
 rw[List.getElem?_map,g1] at g2
 cases g2
 exact ⟨rfl,allLow_get h2 i c0 g1⟩

def BoxesRen (f d:Nat→Nat) (n:Nat):Nat→List Box→List Box→Prop
 | _,[],[]=>True
 | j,b0::r0,b::r=>BoxRen f d n j b0 b∧BoxesRen f d n (j+1) r0 r
 | _,_,_=>False

theorem BoxesRen.get {f d:Nat→Nat} {n:Nat}:∀ {r0 r:List Box} {k:Nat},BoxesRen f d n k r0 r→r0.length=r.length∧∀ (j:Nat) (b0 b:Box),r0[j]? = some b0→r[j]? = some b→BoxRen f d n (k+j) b0 b
 | [],[],k,_=>⟨rfl,fun j b0 b h=>by simp at h⟩
 | b0::r0,b::r,k,⟨h1,h2⟩=>by
  obtain ⟨g1,g2⟩:=BoxesRen.get h2
  refine ⟨by simp[g1],fun j x y hx hy=>?_⟩
  cases j with
  | zero=>cases hx; cases hy; exact h1
  | succ j=>
   have:=g2 j x y (by simpa using hx) (by simpa using hy)
   rw[show k+(j+1)=k+1+j by omega]
   exact this
 | [],_::_,_,h=>h.elim
 | _::_,[],_,h=>h.elim

def outB (B:List Box):List Nat→List Box→List Box
 | [],_=>B
 | _::_,[]=>B
 | x::π,b::bs=>outB (B.set x b) π bs

theorem outB_length:∀ (π:List Nat) (bs B:List Box),(outB B π bs).length=B.length
 | [],_,B=>by simp[outB]
 | _::_,[],B=>by simp[outB]
 | x::π,b::bs,B=>by rw[outB,outB_length,List.length_set]

theorem outB_other:∀ (π:List Nat) (bs B:List Box) (c:Nat),c ∉ π→(outB B π bs)[c]? = B[c]?
 | [],_,B,c,_=>by simp[outB]
 | _::_,[],B,c,_=>by simp[outB]
 | x::π,b::bs,B,c,h=>by
  rw[outB,outB_other π bs _ c (fun hc=>h (by simp[hc])),List.getElem?_set_ne (fun e=>h (by simp[e]))]

theorem outB_in:∀ (π:List Nat) (bs B:List Box) (j x:Nat),noDup π=true→π.length=bs.length→(∀ y∈π,y<B.length)→π[j]? = some x→(outB B π bs)[x]? = bs[j]?
 | [],_,B,j,x,_,_,_,h=>by simp at h
 | _::_,[],B,j,x,_,h,_,_=>by simp at h
 | y::π,b::bs,B,j,x,hn,hl,hlt,h=>by
  simp only[noDup,Bool.and_eq_true,Bool.not_eq_true',List.any_eq_false] at hn
  rw[outB]
  cases j with
  | zero=>
   cases h
   rw[outB_other π bs _ y (fun hc=>hn.1 y hc (Nat.beq_refl y)),List.getElem?_set_self (hlt y (by simp))]
   rfl
  | succ j=>
   rw[outB_in π bs (B.set y b) j x hn.2 (by simpa using hl) (fun z hz=>by rw[List.length_set]; exact hlt z (by simp[hz])) (by simpa using h)]
   rfl

def fNew (π:List Nat) (m j:Nat):Nat:=match π[j]? with
 | some x=>x
 | none=>m+(j - π.length)
def dNew (dv:List Nat) (j:Nat):Nat:=(dv[j]?).getD 0

structure Lift (args0:List AV) (B0:List Box) (r0:AV) (B0':List Box) (args:List AV) (B:List Box) (r:AV) (B':List Box):Prop where
 ex:∃ (π dv:List Nat) (Bi Bs Bn:List Box),(noDup π&&π.all (fun x=>Nat.blt x B.length)&&Nat.beq π.length B0.length&&Nat.beq π.length Bs.length&&Nat.beq dv.length π.length)=true ∧
  π.map (fun x=>B[x]?)=Bi.map some∧args=AV.rv.rvL (fNew π B.length) (dNew dv) args0∧AV.low.allLow B0.length args0=true∧BoxesRen (fNew π B.length) (dNew dv) B0.length 0 B0 Bi ∧
  BoxesRen (fNew π B.length) (dNew dv) B0'.length 0 B0' (Bs++Bn)∧B'=outB B π Bs++Bn∧r=r0.rv (fNew π B.length) (dNew dv)∧r0.low B0'.length=true

def liftR (R:RSpec):RSpec:=fun args B r B'=>∃ args0 B0 r0 B0',R args0 B0 r0 B0'∧Lift args0 B0 r0 B0' args B r B'

theorem CallOk.mono {f:FuncId} {us:Array Value} {w:World} {R R':Ending→World→Prop} (h:CallOk P f us w R) (hr:∀ e w',R e w'→R' e w'):CallOk P f us w R':=by
 rcases h with ⟨h1,h2⟩ | ⟨v,w',h1,h2⟩
 ·exact .inl ⟨h1,h2.mono hr⟩
 ·exact .inr ⟨v,w',h1,hr _ _ h2⟩

theorem lift_sound {f:Nat} {R:RSpec} (hs:SoundR P f R):SoundR P f (liftR R):=by
 rintro args B r B' ⟨args0,B0,r0,B0',hR,⟨π,dv,Bi,Bs,Bn,hck,hBi,hargs,hlow,hin,hout,rfl,rfl,hrl⟩⟩ F ρ w us hI hA
 simp only[Bool.and_eq_true,List.all_eq_true] at hck
 obtain ⟨⟨⟨⟨hnd,hlt⟩,hl1⟩,hl2⟩,hl3⟩:=hck
 have hl1:=Nat.eq_of_beq_eq_true hl1
 have hl2:=Nat.eq_of_beq_eq_true hl2
 have hl3:=Nat.eq_of_beq_eq_true hl3
 have hlt:∀ y∈π,y<B.length:=fun y hy=>by have:=hlt y hy; rwa[Nat.blt_eq] at this
 obtain ⟨hinl,hing⟩:=hin.get
 obtain ⟨houtl,houtg⟩:=hout.get
 -- names
 have hf0:∀ j,j<B0.length→∃ x,π[j]? = some x∧fNew π B.length j=x∧x<B.length:=fun j hj=>by
  have hj':j<π.length:=by omega
  refine ⟨π[j],List.getElem?_eq_getElem hj',by simp[fNew,hj'],hlt _ (List.getElem_mem hj')⟩
 have hf1:∀ j,B0.length≤j→fNew π B.length j=B.length+(j - B0.length):=fun j hj=>by
  have:π[j]? = none:=List.getElem?_eq_none (by omega)
  simp[fNew,this,hl1]
 have hd1:∀ j,B0.length≤j→dNew dv j=0:=fun j hj=>by
  have:dv[j]? = none:=List.getElem?_eq_none (by omega)
  simp[dNew,this]
 have hπinj:∀ (i j x:Nat),π[i]? = some x→π[j]? = some x→i=j:=fun i j x hi hj=>by
  have hi':=(List.getElem?_eq_some_iff.1 hi).1
  have hj':=(List.getElem?_eq_some_iff.1 hj).1
  exact noDup_inj hnd i j hi' hj' (by simp[nthF,hi,hj])
 have hBiget:∀ (j x:Nat),π[j]? = some x→B[x]? = Bi[j]? := fun j x hj=>by
  have h1:=congrArg (fun l=>l[j]?) hBi
  simp only[List.getElem?_map,hj,Option.map_some] at h1
  cases hb:Bi[j]? with
  | none=>rw[hb] at h1; cases h1
  | some b=>rw[hb] at h1; simp only[Option.map_some,Option.some.injEq] at h1; exact h1
 -- the boxes of the call, by the caller's names
 have hin1:∀ (j:Nat) (row:Bool) (v:Nat) (cs:List AV),B0[j]? = some (.cells row v cs)→∃ cs0:List AV,B[fNew π B.length j]? = some (.cells row (v+dNew dv j) cs0)∧cs0.length=cs.length ∧
   ∀ (i:Nat) (c0 c:AV),cs[i]? = some c0→cs0[i]? = some c→c=c0.rv (fNew π B.length) (dNew dv)∧c0.low B0.length=true:=by
  intro j row v cs hj
  have hj':=(List.getElem?_eq_some_iff.1 hj).1
  obtain ⟨x,hx,hfx,hxl⟩:=hf0 j hj'
  have hb:j<Bi.length:=by omega
  have hr:=hing j _ _ hj (List.getElem?_eq_getElem hb)
  rw[Nat.zero_add] at hr
  rw[hfx,hBiget j x hx,List.getElem?_eq_getElem hb]
  generalize Bi[j]=bb at hr
  cases hr with
  | mk _ _ _ cs' q1 q2=>exact ⟨cs',rfl,q1.symm,q2⟩
 have hin2:∀ (j:Nat) (cs:List AV) (Φ:ObjP),B0[j]? = some (.obj cs Φ)→∃ cs0:List AV,B[fNew π B.length j]? = some (.obj cs0 Φ)∧cs0.length=cs.length ∧
   ∀ (i:Nat) (c0 c:AV),cs[i]? = some c0→cs0[i]? = some c→c=c0.rv (fNew π B.length) (dNew dv)∧c0.low B0.length=true:=by
  intro j cs Φ hj
  have hj':=(List.getElem?_eq_some_iff.1 hj).1
  obtain ⟨x,hx,hfx,hxl⟩:=hf0 j hj'
  have hb:j<Bi.length:=by omega
  have hr:=hing j _ _ hj (List.getElem?_eq_getElem hb)
  rw[Nat.zero_add] at hr
  rw[hfx,hBiget j x hx,List.getElem?_eq_getElem hb]
  generalize Bi[j]=bb at hr
  cases hr with
  | obj _ _ cs' q1 q2=>exact ⟨cs',rfl,q1.symm,q2⟩
 have hinx:∀ {j:Nat} {x:Box} {l:Nat×Nat} {k:Nat},B0[j]? = some x→x.has l k→∃ x0,B[fNew π B.length j]? = some x0∧x0.has l k:=by
  intro j x l k h1 h2
  cases x with
  | dead=>exact h2.elim
  | cells row v cs=>obtain ⟨cs0,g1,_⟩:=hin1 j row v cs h1; exact ⟨_,g1,h2⟩
  | obj cs Φ=>obtain ⟨cs0,g1,_⟩:=hin2 j cs Φ h1; exact ⟨_,g1,h2⟩
 let ρ0:Loc:=fun j=>ρ (fNew π B.length j)
 -- what the call may not touch
 let F0:Nat→Prop:=fun k=>F k∨∃ c x l,c ∉ π∧B[c]? = some x∧ρ c=some l∧x.has l k
 have hO0:∀ k,Own F0 B0 ρ0 k→Own F B ρ k:=by
  rintro k (h0 | ⟨b,x,l,h1,h2,h3⟩)
  ·rcases h0 with h0 | ⟨c,x,l,_,h1,h2,h3⟩
   ·exact .inl h0
   ·exact .inr ⟨c,x,l,h1,h2,h3⟩
  ·obtain ⟨x0,g1,g2⟩:=hinx h1 h3
   exact .inr ⟨_,x0,l,g1,h2,g2⟩
 have hv0:∀ {x y:AV} {u:Value},VRel F B ρ w x u→x=y.rv (fNew π B.length) (dNew dv)→y.low B0.length=true→VRel F0 B0 ρ0 w y u:=fun h e hl=>
  h.rv2 (fun j row v cs hj=>by obtain ⟨cs0,g1,g2,_⟩:=hin1 j row v cs hj; exact ⟨cs0,g1,g2⟩) (fun j cs Φ hj=>by obtain ⟨cs0,g1,_⟩:=hin2 j cs Φ hj; exact ⟨cs0,g1⟩) hO0 e hl
 have hI0:Inv F0 B0 ρ0 w:=by
  refine ⟨fun b row v cs' hb=>?_,fun b row v cs' hb=>?_,fun b cs' Φ hb=>?_,fun b b' x1 x1' l l' k h1 h2 h3 h4 h5 h6=>?_,fun k hk=>?_,fun b x1 l k hb hr hx1 hF=>?_,fun g hg=>⟨hv0 (hI.glob g hg).v rfl rfl,(hI.glob g hg).sz⟩,fun b v cs k o hb hr=>by
   obtain ⟨cs0,g1,_⟩:=hin1 _ _ _ _ hb
   exact hI.off0 _ _ _ _ _ g1 hr⟩
  ·obtain ⟨cs,g1,g2,g3⟩:=hin1 _ _ _ _ hb
   rcases hI.box _ _ _ _ g1 with ⟨q1,q2,q3⟩ | ⟨k,o,us,e,fr,q1,q2,q3,q4,q5⟩
   ·subst q3
    exact .inl ⟨q1,q2,List.eq_nil_of_length_eq_zero (by simpa using g2.symm)⟩
   ·refine .inr ⟨k,o,us,e,fr,q1,q2,by omega,q4,fun i c' hc'=>?_⟩
    have hi:i<cs.length:=by rw[g2]; exact (List.getElem?_eq_some_iff.1 hc').1
    obtain ⟨u,e1,e2⟩:=q5 i _ (List.getElem?_eq_getElem hi)
    obtain ⟨p1,p2⟩:=g3 i _ _ hc' (List.getElem?_eq_getElem hi)
    exact ⟨u,e1,hv0 e2 p1 p2⟩
  ·obtain ⟨cs,g1,g2,g3⟩:=hin1 _ _ _ _ hb
   have hl:=hI.leaf _ _ _ _ g1
   rw[List.all_eq_true] at hl ⊢
   intro c' hc'
   obtain ⟨i,hi⟩:=List.getElem?_of_mem hc'
   have hi':i<cs.length:=by rw[g2]; exact (List.getElem?_eq_some_iff.1 hi).1
   have hcl:=hl _ (List.getElem_mem hi')
   rw[(g3 i _ _ hi (List.getElem?_eq_getElem hi')).1,rv_leaf] at hcl
   exact hcl
  ·obtain ⟨cs,g1,g2,g3⟩:=hin2 _ _ _ hb
   obtain ⟨k,o,us,q1,q2,q3,q4⟩:=hI.obox _ _ _ g1
   refine ⟨k,o,us,q1,q2,by omega,fun i c' u hc' hu=>?_⟩
   have hi:i<cs.length:=by rw[g2]; exact (List.getElem?_eq_some_iff.1 hc').1
   obtain ⟨p1,p2⟩:=g3 i _ _ hc' (List.getElem?_eq_getElem hi)
   exact hv0 (q4 i _ u (List.getElem?_eq_getElem hi) hu) p1 p2
  ·obtain ⟨_,g1,p1⟩:=hinx h1 h5
   obtain ⟨_,g2,p2⟩:=hinx h2 h6
   have hbl:=(List.getElem?_eq_some_iff.1 h1).1
   have hbl':=(List.getElem?_eq_some_iff.1 h2).1
   obtain ⟨x,hx,hfx,_⟩:=hf0 b hbl
   obtain ⟨x',hx',hfx',_⟩:=hf0 b' hbl'
   have:=hI.injx _ _ _ _ _ _ _ g1 g2 h3 h4 p1 p2
   rw[hfx,hfx'] at this
   subst this
   exact hπinj b b' x hx hx'
  ·rcases hk with h0 | ⟨c,x,l,_,h1,h2,h3⟩
   ·exact hI.bound k h0
   ·exact hI.ownlt k (.inr ⟨c,x,l,h1,h2,h3⟩)
  ·obtain ⟨_,g1,p1⟩:=hinx hb hx1
   rcases hF with h0 | ⟨c,x2,l2,hc,h1,h2,h3⟩
   ·exact hI.farx _ _ _ _ g1 hr p1 h0
   ·have:=hI.injx _ _ _ _ _ _ _ g1 h1 hr h2 p1 h3
    obtain ⟨x,hx,hfx,_⟩:=hf0 b (List.getElem?_eq_some_iff.1 hb).1
    rw[hfx] at this
    subst this
    exact hc (List.mem_of_getElem? hx)
 have hA0:ArgsRel F0 B0 ρ0 w args0 us:=by
  subst hargs
  rw[rvL_map] at hA
  refine ⟨by have:=hA.1; simpa using this,fun j p u hp hu=>?_⟩
  exact hv0 (hA.2 j (p.rv _ _) u (by rw[List.getElem?_map,hp]; rfl) hu) rfl (allLow_get hlow j p hp)
 refine (hs args0 B0 r0 B0' hR F0 ρ0 w us hI0 hA0).mono fun e w' hp=>?_
 obtain ⟨x,ρ1,rfl,hI1,hE1,hv1⟩:=hp
 -- the caller's names, behind the call
 have hlenge:B0.length≤B0'.length:=hE1.len
 have hBn:Bs.length+Bn.length=B0'.length:=by rw[houtl,List.length_append]
 let ρ':Loc:=fun c=>if c<B.length then (match π.idxOf? c with | some j=>ρ1 j | none=>ρ c) else ρ1 (B0.length+(c - B.length))
 have hidx:∀ (j x:Nat),π[j]? = some x→π.idxOf? x=some j:=fun j x hj=>by
  cases hi:π.idxOf? x with
  | none=>
   rw[List.idxOf?_eq_none_iff] at hi
   exact absurd (List.mem_of_getElem? hj) hi
  | some i=>
   have h1:π[i]? = some x:=by
    rw[List.idxOf?,List.findIdx?_eq_some_iff_getElem] at hi
    obtain ⟨hh,h2,_⟩:=hi
    rw[List.getElem?_eq_getElem hh]
    simpa using h2
   exact congrArg some (hπinj i j x h1 hj)
 have hno:∀ c,c ∉ π→π.idxOf? c=none:=fun c hc=>List.idxOf?_eq_none_iff.2 hc
 have hρin:∀ j,j<B0'.length→ρ' (fNew π B.length j)=ρ1 j:=fun j hj=>by
  rcases Nat.lt_or_ge j B0.length with h | h
  ·obtain ⟨x,hx,hfx,hxl⟩:=hf0 j h
   show (if fNew π B.length j<B.length then _ else _)=_
   rw[hfx,if_pos hxl,hidx j x hx]
  ·show (if fNew π B.length j<B.length then _ else _)=_
   rw[hf1 j h,if_neg (by omega)]
   congr 1
   omega
 have hρout:∀ c,c<B.length→c ∉ π→ρ' c=ρ c:=fun c hc hcn=>by
  show (if c<B.length then _ else _)=_
  rw[if_pos hc,hno c hcn]
 -- boxes behind the call
 have hBget:∀ j,j<B0'.length→(outB B π Bs++Bn)[fNew π B.length j]? = (Bs++Bn)[j]? := fun j hj=>by
  rcases Nat.lt_or_ge j B0.length with h | h
  ·obtain ⟨x,hx,hfx,hxl⟩:=hf0 j h
   rw[hfx,List.getElem?_append_left (by rw[outB_length]; exact hxl),outB_in π Bs B j x hnd (by omega) hlt hx,List.getElem?_append_left (by omega)]
  ·rw[hf1 j h,List.getElem?_append_right (by rw[outB_length]; omega),outB_length,List.getElem?_append_right (by omega)]
   congr 1
   omega
 have hBother:∀ c,c<B.length→c ∉ π→(outB B π Bs++Bn)[c]? = B[c]? := fun c hc hcn=>by
  rw[List.getElem?_append_left (by rw[outB_length]; exact hc),outB_other π Bs B c hcn]
 have hBlen:(outB B π Bs++Bn).length=B.length+(B0'.length - B0.length):=by rw[List.length_append,outB_length]; omega
 -- each box is of one of the two kinds
 have hkind:∀ c,c<(outB B π Bs++Bn).length→(∃ j,j<B0'.length∧fNew π B.length j=c)∨(c<B.length∧c ∉ π):=fun c hc=>by
  rcases Nat.lt_or_ge c B.length with h | h
  ·by_cases hm:c∈π
   ·obtain ⟨j,hj⟩:=List.getElem?_of_mem hm
    have hjl:=(List.getElem?_eq_some_iff.1 hj).1
    exact .inl ⟨j,by omega,by simp[fNew,hj]⟩
   ·exact .inr ⟨h,hm⟩
  ·rw[hBlen] at hc
   exact .inl ⟨B0.length+(c - B.length),by omega,by rw[hf1 _ (by omega)]; omega⟩
 have hfwd:∀ (j:Nat) (row:Bool) (v:Nat) (cs:List AV),j<B0'.length→(outB B π Bs++Bn)[fNew π B.length j]? = some (.cells row v cs)→∃ (v0:Nat) (cs0:List AV),B0'[j]? = some (.cells row v0 cs0)∧v=v0+dNew dv j∧cs0.length=cs.length ∧
   ∀ (i:Nat) (c0 c:AV),cs0[i]? = some c0→cs[i]? = some c→c=c0.rv (fNew π B.length) (dNew dv)∧c0.low B0'.length=true:=by
  intro j row v cs hj hc
  rw[hBget j hj] at hc
  have hr:=houtg j _ _ (List.getElem?_eq_getElem hj) hc
  rw[Nat.zero_add] at hr
  rw[List.getElem?_eq_getElem hj]
  generalize B0'[j]=bb at hr
  cases hr with
  | mk _ v0 cs0 _ q1 q2=>exact ⟨v0,cs0,rfl,rfl,q1,q2⟩
 have hfwd2:∀ (j:Nat) (cs:List AV) (Φ:ObjP),j<B0'.length→(outB B π Bs++Bn)[fNew π B.length j]? = some (.obj cs Φ)→∃ (cs0:List AV),B0'[j]? = some (.obj cs0 Φ)∧cs0.length=cs.length ∧
   ∀ (i:Nat) (c0 c:AV),cs0[i]? = some c0→cs[i]? = some c→c=c0.rv (fNew π B.length) (dNew dv)∧c0.low B0'.length=true:=by
  intro j cs Φ hj hc
  rw[hBget j hj] at hc
  have hr:=houtg j _ _ (List.getElem?_eq_getElem hj) hc
  rw[Nat.zero_add] at hr
  rw[List.getElem?_eq_getElem hj]
  generalize B0'[j]=bb at hr
  cases hr with
  | obj _ cs0 _ q1 q2=>exact ⟨cs0,rfl,q1,q2⟩
 have hfwdx:∀ {j:Nat} {x:Box} {l:Nat×Nat} {k:Nat},j<B0'.length→(outB B π Bs++Bn)[fNew π B.length j]? = some x→x.has l k→∃ x0,B0'[j]? = some x0∧x0.has l k:=by
  intro j x l k hj h1 h2
  cases x with
  | dead=>exact h2.elim
  | cells row v cs=>obtain ⟨v0,cs0,g1,_⟩:=hfwd j row v cs hj h1; exact ⟨_,g1,h2⟩
  | obj cs Φ=>obtain ⟨cs0,g1,_⟩:=hfwd2 j cs Φ hj h1; exact ⟨_,g1,h2⟩
 have hOb:∀ k,Own F (outB B π Bs++Bn) ρ' k→Own F0 B0' ρ1 k:=by
  rintro k (h0 | ⟨c,x,l,h1,h2,h3⟩)
  ·exact .inl (.inl h0)
  ·rcases hkind c (List.getElem?_eq_some_iff.1 h1).1 with ⟨j,hj,rfl⟩ | ⟨hc,hcn⟩
   ·obtain ⟨x0,g1,g2⟩:=hfwdx hj h1 h3
    rw[hρin j hj] at h2
    exact .inr ⟨j,x0,l,g1,h2,g2⟩
   ·rw[hBother c hc hcn] at h1
    rw[hρout c hc hcn] at h2
    exact .inl (.inr ⟨c,x,l,hcn,h1,h2,h3⟩)
 have hE:Ext F B ρ w (outB B π Bs++Bn) ρ' w':=by
  refine ⟨hE1.size,hE1.os,hE1.tape,hE1.output,fun k hk ho=>?_,hE1.shape,by omega,fun b row v cs hb hc=>?_,fun b cs Φ hb hc=>?_,fun k hF hk=>hE1.far k (.inl hF) hk⟩
  ·have hn0:¬Own F0 B0 ρ0 k:=fun h=>ho (hO0 k h)
   obtain ⟨g1,g2⟩:=hE1.keep k hk hn0
   exact ⟨g1,fun h=>g2 (hOb k h)⟩
  ·rcases hkind b (List.getElem?_eq_some_iff.1 hc).1 with ⟨j,hj,rfl⟩ | ⟨hbl,hbn⟩
   ·have hjl:j<B0.length:=by
     rcases Nat.lt_or_ge j B0.length with h | h
     ·exact h
     ·rw[hf1 j h] at hb; omega
    obtain ⟨v0,cs0,g1,rfl,g3,_⟩:=hfwd j row v cs hj hc
    obtain ⟨v1,cs1,q1,q2,q3⟩:=hE1.box j row v0 cs0 hjl g1
    obtain ⟨cs2,p1,p2,_⟩:=hin1 j row v1 cs1 q1
    refine ⟨v1+dNew dv j,cs2,p1,by omega,fun e=>?_⟩
    obtain ⟨e1,e2⟩:=q3 (by omega)
    exact ⟨by rw[hρin j hj]; exact e1,by omega⟩
   ·rw[hBother b hbl hbn] at hc
    exact ⟨v,cs,hc,Nat.le_refl _,fun _=>⟨hρout b hbl hbn,rfl⟩⟩
  ·rcases hkind b (List.getElem?_eq_some_iff.1 hc).1 with ⟨j,hj,rfl⟩ | ⟨hbl,hbn⟩
   ·have hjl:j<B0.length:=by
     rcases Nat.lt_or_ge j B0.length with h | h
     ·exact h
     ·rw[hf1 j h] at hb; omega
    obtain ⟨cs0,g1,_⟩:=hfwd2 j cs Φ hj hc
    obtain ⟨cs1,Φ1,q1,q2⟩:=hE1.obj j cs0 Φ hjl g1
    obtain ⟨cs2,p1,_⟩:=hin2 j cs1 Φ1 q1
    exact ⟨cs2,Φ1,p1,by rw[hρin j hj]; exact q2⟩
   ·rw[hBother b hbl hbn] at hc
    exact ⟨cs,Φ,hc,by rw[hρout b hbl hbn]⟩
 have hvf:∀ {y:AV} {u:Value},VRel F0 B0' ρ1 w' y u→y.low B0'.length=true→VRel F (outB B π Bs++Bn) ρ' w' (y.rv (fNew π B.length) (dNew dv)) u:=fun h hl=>
  h.fwd (fun j hj=>by
   rcases Nat.lt_or_ge j B0.length with h | h
   ·obtain ⟨x,_,hfx,hxl⟩:=hf0 j h
    rw[hfx,hBlen]; omega
   ·rw[hf1 j h,hBlen]; omega) hρin (fun j row v cs hj hc=>by obtain ⟨v0,cs0,g1,g2,g3,_⟩:=hfwd j row v cs hj hc; exact ⟨v0,cs0,g1,g2,g3⟩) (fun j cs Φ hj hc=>by obtain ⟨cs0,g1,_⟩:=hfwd2 j cs Φ hj hc; exact ⟨cs0,Φ,g1⟩) hOb hl
 refine ⟨x,ρ',rfl,⟨fun c row v cs hc=>?_,fun c row v cs hc=>?_,fun c cs Φ hc=>?_,fun c c' x1 x1' l l' k h1 h2 h3 h4 h5 h6=>?_,fun k hk=>Nat.lt_of_lt_of_le (hI.bound k hk) hE1.size,fun c x1 l k hc hr hx1 hF=>?_,fun g hg=>(hI.glob g hg).ext hE,fun c v cs k o hc hr=>by
  rcases hkind c (List.getElem?_eq_some_iff.1 hc).1 with ⟨j,hj,rfl⟩ | ⟨hcl,hcn⟩
  ·obtain ⟨v0,cs0,g1,_⟩:=hfwd j false v cs hj hc
   rw[hρin j hj] at hr
   exact hI1.off0 _ _ _ _ _ g1 hr
  ·rw[hBother c hcl hcn] at hc
   rw[hρout c hcl hcn] at hr
   exact hI.off0 _ _ _ _ _ hc hr⟩,hE,hvf hv1 hrl⟩
 ·rcases hkind c (List.getElem?_eq_some_iff.1 hc).1 with ⟨j,hj,rfl⟩ | ⟨hcl,hcn⟩
  ·obtain ⟨v0,cs0,g1,rfl,g3,g4⟩:=hfwd j row v cs hj hc
   rw[hρin j hj]
   rcases hI1.box j row v0 cs0 g1 with ⟨q1,q2,q3⟩ | ⟨k,o,us,e,fr,q1,q2,q3,q4,q5⟩
   ·subst q3
    exact .inl ⟨q1,q2,List.eq_nil_of_length_eq_zero (by simpa using g3.symm)⟩
   ·refine .inr ⟨k,o,us,e,fr,q1,q2,by omega,q4,fun i c hci=>?_⟩
    have hi:i<cs0.length:=by rw[g3]; exact (List.getElem?_eq_some_iff.1 hci).1
    obtain ⟨u,e1,e2⟩:=q5 i _ (List.getElem?_eq_getElem hi)
    obtain ⟨p1,p2⟩:=g4 i _ _ (List.getElem?_eq_getElem hi) hci
    exact ⟨u,e1,p1▸hvf e2 p2⟩
  ·rw[hBother c hcl hcn] at hc
   rw[hρout c hcl hcn]
   rcases hI.box c row v cs hc with q | ⟨k,o,us,e,fr,q1,q2,q3,q4,q5⟩
   ·exact .inl q
   ·have hkF:F0 k:= .inr ⟨c,_,_,hcn,hc,q1,rfl⟩
    have hk:k<w.heap.size:=(Array.getElem?_eq_some_iff.1 q2).1
    have hh:=hE1.far k hkF hk
    refine .inr ⟨k,o,us,e,fr,q1,hh.trans q2,q3,q4,fun i c hci=>?_⟩
    ·obtain ⟨u,e1,e2⟩:=q5 i c hci
     exact ⟨u,e1,e2.ext hE⟩
 ·rcases hkind c (List.getElem?_eq_some_iff.1 hc).1 with ⟨j,hj,rfl⟩ | ⟨hcl,hcn⟩
  ·obtain ⟨v0,cs0,g1,rfl,g3,g4⟩:=hfwd j row v cs hj hc
   have hl:=hI1.leaf _ _ _ _ g1
   rw[List.all_eq_true] at hl ⊢
   intro c' hc'
   obtain ⟨i,hi⟩:=List.getElem?_of_mem hc'
   have hi':i<cs0.length:=by rw[g3]; exact (List.getElem?_eq_some_iff.1 hi).1
   have hcl:=hl _ (List.getElem_mem hi')
   rw[(g4 i _ _ (List.getElem?_eq_getElem hi') hi).1,rv_leaf]
   exact hcl
  ·rw[hBother c hcl hcn] at hc
   exact hI.leaf c row v cs hc
 ·rcases hkind c (List.getElem?_eq_some_iff.1 hc).1 with ⟨j,hj,rfl⟩ | ⟨hcl,hcn⟩
  ·obtain ⟨cs0,g1,g3,g4⟩:=hfwd2 j cs Φ hj hc
   rw[hρin j hj]
   obtain ⟨k,o,us,q1,q2,q3,q4⟩:=hI1.obox j cs0 Φ g1
   refine ⟨k,o,us,q1,q2,by omega,fun i c u hci hu=>?_⟩
   have hi:i<cs0.length:=by rw[g3]; exact (List.getElem?_eq_some_iff.1 hci).1
   obtain ⟨p1,p2⟩:=g4 i _ _ (List.getElem?_eq_getElem hi) hci
   exact p1▸hvf (q4 i _ u (List.getElem?_eq_getElem hi) hu) p2
  ·rw[hBother c hcl hcn] at hc
   rw[hρout c hcl hcn]
   obtain ⟨k,o,us,q1,q2,q3,q4⟩:=hI.obox c cs Φ hc
   exact ⟨k,o,us,q1,Φ.frame _ _ _ _ _ q2 (fun j hj=>hE1.far j (.inr ⟨c,_,_,hcn,hc,q1,hj⟩) (Φ.low _ _ _ _ j q2 hj)),q3,fun i c u h1 h2=>(q4 i c u h1 h2).ext hE⟩
 ·rcases hkind c (List.getElem?_eq_some_iff.1 h1).1 with ⟨j,hj,rfl⟩ | ⟨hcl,hcn⟩ <;> rcases hkind c' (List.getElem?_eq_some_iff.1 h2).1 with ⟨j',hj',rfl⟩ | ⟨hcl',hcn'⟩
  ·obtain ⟨_,g1,p1⟩:=hfwdx hj h1 h5
   obtain ⟨_,g1',p1'⟩:=hfwdx hj' h2 h6
   rw[hρin j hj] at h3
   rw[hρin j' hj'] at h4
   rw[hI1.injx _ _ _ _ _ _ _ g1 g1' h3 h4 p1 p1']
  ·obtain ⟨_,g1,p1⟩:=hfwdx hj h1 h5
   rw[hρin j hj] at h3
   rw[hBother c' hcl' hcn'] at h2
   rw[hρout c' hcl' hcn'] at h4
   exact absurd (.inr ⟨c',_,_,hcn',h2,h4,h6⟩) (hI1.farx _ _ _ _ g1 h3 p1)
  ·obtain ⟨_,g1',p1'⟩:=hfwdx hj' h2 h6
   rw[hρin j' hj'] at h4
   rw[hBother c hcl hcn] at h1
   rw[hρout c hcl hcn] at h3
   exact absurd (.inr ⟨c,_,_,hcn,h1,h3,h5⟩) (hI1.farx _ _ _ _ g1' h4 p1')
  ·rw[hBother c hcl hcn] at h1
   rw[hρout c hcl hcn] at h3
   rw[hBother c' hcl' hcn'] at h2
   rw[hρout c' hcl' hcn'] at h4
   exact hI.injx _ _ _ _ _ _ _ h1 h2 h3 h4 h5 h6
 ·rcases hkind c (List.getElem?_eq_some_iff.1 hc).1 with ⟨j,hj,rfl⟩ | ⟨hcl,hcn⟩
  ·obtain ⟨_,g1,p1⟩:=hfwdx hj hc hx1
   rw[hρin j hj] at hr
   exact hI1.farx _ _ _ _ g1 hr p1 (.inl hF)
  ·rw[hBother c hcl hcn] at hc
   rw[hρout c hcl hcn] at hr
   exact hI.farx _ _ _ _ hc hr hx1 hF

end Go.Ax

namespace Go.Ax
open Go.RowKit
variable [Glob]
set_option maxRecDepth 100000

theorem wp_leaf {W:Wd} {olds:List (List AV)} {e:AE} {c:St} {K:AE→St→Prop} (ho:oldsOk W olds) (h:K e c):(Tree.leaf W olds e (some c)).wp K:=⟨ho,c,rfl,h⟩
theorem wp_sp {d:Nat} {b:Bool} {x y:Tree} {K:AE→St→Prop} (hx:b=true→x.wp K) (hy:b=false→y.wp K):(Tree.sp d b x y).wp K:=⟨hx,hy⟩
theorem wp_i64 {d:Nat} {z:Int} {k:Tree} {K:AE→St→Prop} (hz: -9223372036854775808≤z∧z<9223372036854775808) (h:k.wp K):(Tree.int d (IntKind.i64.wrap z) z k).wp K:=⟨wrap_i64 hz,h⟩
theorem wp_len {α β:Type} {d:Nat} {L:List α} {f:α→β} {k:Tree} {K:AE→St→Prop} (h:k.wp K):(Tree.int d ((L.map f).length:Int) (L.length:Int) k).wp K:=⟨by simp,h⟩
theorem wp_elem {α:Type} {d:Nat} {E:Enc α} {L:List α} {i:Int} {k:α→Tree} {K:AE→St→Prop} (a:α) (h0:0≤i) (ha:L[i.toNat]? = some a) (h:(k a).wp K):(Tree.elem d (L.map E.f) E L i k).wp K:=⟨rfl,h0,a,ha,h⟩
theorem wp_cut {α:Type} {d:Nat} {lo hi:Option Int} {E:Enc α} {L:List α} {k:Tree} {K:AE→St→Prop} (h0:cutOk lo hi L.length) (h:k.wp K):(Tree.cut d (L.map E.f) lo hi E L k).wp K:=⟨rfl,h0,h⟩
theorem wp_join {σ:Type} {W:Wd} {olds:List (List AV)} {E:σ→St} {s0:σ} {k:σ→Tree} {K:AE→St→Prop} (ho:oldsOk W olds) (h:(k s0).wp K):(Tree.join W olds (some (E s0)) E s0 k).wp K:=⟨ho,rfl,h⟩
theorem wp_loop {σ ε ε':Type} {W:Wd} {olds:List (List AV)} {E:σ→St} {X:ε→AE×St} {X':ε'→AE×St} {s0:σ} {body:σ→Tree} {k:ε→Tree} {k':ε'→Tree} {K:AE→St→Prop} (x:ε) (ho:oldsOk W olds)
  (hr:Rounds E X X' (fun s=>(body s).wp) s0 (.inl x)) (h:(k x).wp K):(Tree.loop W olds (some (E s0)) E X X' s0 body k k').wp K:=⟨ho,rfl, .inl ⟨x,hr,h⟩⟩
theorem wp_loop' {σ ε ε':Type} {W:Wd} {olds:List (List AV)} {E:σ→St} {X:ε→AE×St} {X':ε'→AE×St} {s0:σ} {body:σ→Tree} {k:ε→Tree} {k':ε'→Tree} {K:AE→St→Prop} (x:ε') (ho:oldsOk W olds)
  (hr:Rounds E X X' (fun s=>(body s).wp) s0 (.inr x)) (h:(k' x).wp K):(Tree.loop W olds (some (E s0)) E X X' s0 body k k').wp K:=⟨ho,rfl, .inr ⟨x,hr,h⟩⟩

theorem wp_ridx {d len:Nat} {i:Int} {k:Tree} {K:AE→St→Prop} (h0:0≤i) (h1:i<(len:Int)) (h:k.wp K):(Tree.ridx d len i k).wp K:=⟨h0,h1,h⟩
theorem wp_rload {α:Type} {d off:Nat} {E:Enc α} {L:List α} {i:Int} {q:Nat} {k:α→Tree} {K:AE→St→Prop} (a:α) (h0:0≤i) (ho:off=0+i.toNat*E.sz+q) (ha:L[i.toNat]? = some a) (h:(k a).wp K):(Tree.rload d (rowC (L.map E.f)) off E L i q k).wp K:=⟨rfl,h0,ho,a,ha,h⟩
theorem wp_rstore {α:Type} {d:Option Nat} {off:Nat} {new:List AV} {E:Enc α} {L:List α} {i:Int} {a:α} {k:Tree} {K:AE→St→Prop} (h0:0≤i) (h1:i<(L.length:Int)) (ho:off=0+i.toNat*E.sz) (hn:new=(E.f a).cells.map .p) (h:k.wp K):(Tree.rstore d (rowC (L.map E.f)) off new E L i a k).wp K:=⟨rfl,h0,h1,ho,hn,h⟩
theorem wp_u64 {d:Nat} {z:Int} {k:Tree} {K:AE→St→Prop} (hz:0≤z∧z<9223372036854775808) (h:k.wp K):(Tree.int d (IntKind.u64.wrap z) z k).wp K:=by
 refine ⟨?_,h⟩
 show (if (false&&decide (z % 2 ^ 64≥2 ^ 63))=true then z % 2 ^ 64 - 2 ^ 64 else z % 2 ^ 64)=z
 rw[Bool.false_and,if_neg (by simp)]
 omega
theorem wp_val {d:Option Nat} {p:Prop} {v:AV} {B:List Box} {k:Tree} {K:AE→St→Prop} (hp:p) (h:k.wp K):(Tree.val d p v B k).wp K:=⟨hp,h⟩
theorem wp_call {d:Nat} {p:Prop} {v:AV} {k:Tree} {K:AE→St→Prop} (hp:p) (h:k.wp K):(Tree.call d p v k).wp K:=⟨hp,h⟩
theorem wp_br {b:Bool} {x y:Tree} {K:AE→St→Prop} (hx:b=true→x.wp K) (hy:b=false→y.wp K):(Tree.br b x y).wp K:=⟨hx,hy⟩
theorem wp_app {α:Type} {d:Nat} {src:ASrc} {len:Nat} {E:Enc α} {L M:List α} {k:Tree} {K:AE→St→Prop} (h0:src.ok E M) (h1:len=L.length) (h2:((L++M).length:Int)≤1000000000) (h:k.wp K):(Tree.app d src len (rowC (L.map E.f)) E L M k).wp K:=⟨h0,h1,rfl,h2,h⟩
theorem wp_appn {α:Type} {d:Nat} {src:ASrc} {E:Enc α} {M:List α} {k:Tree} {K:AE→St→Prop} (h0:src.ok E M) (h2:(M.length:Int)≤1000000000) (h:k.wp K):(Tree.appn d src E M k).wp K:=⟨h0,h2,h⟩

end Go.Ax
