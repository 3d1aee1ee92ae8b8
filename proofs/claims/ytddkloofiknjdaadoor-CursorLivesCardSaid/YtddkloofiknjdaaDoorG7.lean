/- A call sees some boxes of its caller's, by other names; all others stay. -/
import Derived.Test.YtddkloofiknjdaaDoorG6
set_option linter.unusedVariables false
set_option linter.unusedSimpArgs false
set_option linter.unusedSectionVars false
namespace Go.Ax
open Go.RowKit

variable [Glob] {P : Program} {F : Nat → Prop}

theorem VRel.rv2 {F':Nat→Prop} {B B':List Box} {ρ:Aj} {w:World} {f d:Nat→Nat} (hB:∀ j row v cs,B'[j]? = some (.cells row v cs)→∃ cs0:List AV,B[f j]? = some (.cells row (v+d j) cs0)∧cs0.length=cs.length)
  (hX:∀ j cs Φ,B'[j]? = some (.obj cs Φ)→∃ cs0,B[f j]? = some (.obj cs0 Φ))
  (hO:∀ k,Own F' B' (fun j=>ρ (f j)) k→Own F B ρ k) {x:AV} {u:Value} (h:VRel F B ρ w x u):∀ {y:AV},x=y.rv f d→y.low B'.length=true→VRel F' B' (fun j=>ρ (f j)) w y u:=by
 have hP:∀ (p:PV) (u:Value),PRel (Own F B ρ) w p u→PRel (Own F' B' (fun j=>ρ (f j))) w p u:=fun p u hp=>hp.mono (fun k _ ho=>⟨rfl,fun h=>ho (hO k h)⟩) (Nat.le_refl _)
 have parts:∀ {cs:List AV} {us:List Value} {ds:List AV},cs.length=us.length→(∀ (j:Nat) (p:AV) (u:Value),cs[j]? = some p→us[j]? = some u→∀ {y:AV},p=y.rv f d→y.low B'.length=true→VRel F' B' (fun j=>ρ (f j)) w y u) →
   cs=AV.rv.rvL f d ds→AV.low.allLow B'.length ds=true→ds.length=us.length∧∀ (j:Nat) (p:AV) (u:Value),ds[j]? = some p→us[j]? = some u→VRel F' B' (fun j=>ρ (f j)) w p u:=by
  intro cs us ds h1 ih e hl
  rw[Cz] at e
  subst e
  refine ⟨by simpa using h1,fun j p u hp hu=>ih j (p.rv f d) u (by rw[List.getElem?_map,hp]; rfl) hu rfl (Bw hl j p hp)⟩
 induction h with
 | u x=>intro y e hl; cases y <;> simp[AV.rv] at e; exact .u x
 | p x y hp=>intro z e hl; cases z <;> simp[AV.rv] at e; subst e; exact .p _ y (hP _ _ hp)
 | mp b r hp=>
  intro y e hl
  cases y <;> simp[AV.rv] at e
  subst e
  refine .mp _ _ ⟨by simpa [AV.low,Nat.blt_eq] using hl,fun cs Φ hc=>?_⟩
  obtain ⟨cs0,g1⟩:=hX _ _ _ hc
  exact hp.2 cs0 Φ g1
 | op b r hp=>
  intro y e hl
  cases y <;> simp[AV.rv] at e
  subst e
  refine .op _ _ ⟨by simpa [AV.low,Nat.blt_eq] using hl,fun cs Φ hc=>?_⟩
  obtain ⟨cs0,g1⟩:=hX _ _ _ hc
  exact hp.2 cs0 Φ g1
 | ptr b ver o a hp=>
  intro y e hl
  cases y <;> simp[AV.rv] at e
  obtain ⟨rfl,rfl,rfl⟩:=e
  refine .ptr _ _ _ a ⟨by simpa [AV.low,Nat.blt_eq] using hl,fun row v cs hc=>?_⟩
  obtain ⟨cs0,g1,_⟩:=hB _ _ _ _ hc
  obtain ⟨q1,q2⟩:=hp.2 row _ cs0 g1
  exact ⟨by omega,fun e=>q2 (by omega)⟩
 | rs b ver sz off len a cap hp=>
  intro y e hl
  cases y <;> simp[AV.rv] at e
  obtain ⟨rfl,rfl,rfl,rfl,rfl⟩:=e
  refine .rs _ _ _ _ _ a cap ⟨by simpa [AV.low,Nat.blt_eq] using hl,hp.2.1,hp.2.2.1,fun row v cs hc=>?_⟩
  obtain ⟨cs0,g1,g2⟩:=hB _ _ _ _ hc
  rw[←g2]
  obtain ⟨q1,q2⟩:=hp.2.2.2 row _ cs0 g1
  exact ⟨by omega,fun e=>q2 (by omega)⟩
 | rp cs a us h1 h2 h3 h4 h5 h6=>
  intro y e hl
  cases y <;> simp[AV.rv] at e
  subst e
  exact .rp _ a us h1 (fun h=>h2 (hO _ h)) h3 h4 h5 (fun j p u hp hu=>hP _ _ (h6 j p u hp hu))
 | agg cs us h1 _ ih=>
  intro y e hl
  cases y <;> simp[AV.rv] at e
  obtain ⟨q1,q2⟩:=parts h1 ih e (by simpa [AV.low] using hl)
  exact .agg _ us q1 q2
 | fn g cs us h1 _ ih=>
  intro y e hl
  cases y <;> simp[AV.rv] at e
  obtain ⟨rfl,e⟩:=e
  obtain ⟨q1,q2⟩:=parts h1 ih e (by simpa [AV.low] using hl)
  exact .fn _ _ us q1 q2
 | tup cs us h1 _ ih=>
  intro y e hl
  cases y <;> simp[AV.rv] at e
  obtain ⟨q1,q2⟩:=parts h1 ih e (by simpa [AV.low] using hl)
  exact .tup _ us q1 q2

theorem VRel.fwd {F':Nat→Prop} {B B':List Box} {ρ ρ':Aj} {w:World} {f d:Nat→Nat} (hlt:∀ j,j<B.length→f j<B'.length) (hρ:∀ j,j<B.length→ρ' (f j)=ρ j)
  (hB:∀ j row v cs,j<B.length→B'[f j]? = some (.cells row v cs)→∃ (v0:Nat) (cs0:List AV),B[j]? = some (.cells row v0 cs0)∧v=v0+d j∧cs0.length=cs.length)
  (hX:∀ j cs Φ,j<B.length→B'[f j]? = some (.obj cs Φ)→∃ cs0 Φ0,B[j]? = some (.obj cs0 Φ0))
  (hO:∀ k,Own F' B' ρ' k→Own F B ρ k) {y:AV} {u:Value} (h:VRel F B ρ w y u):y.low B.length=true→VRel F' B' ρ' w (y.rv f d) u:=by
 have hP:∀ (p:PV) (u:Value),PRel (Own F B ρ) w p u→PRel (Own F' B' ρ') w p u:=fun p u hp=>hp.mono (fun k _ ho=>⟨rfl,fun h=>ho (hO k h)⟩) (Nat.le_refl _)
 have parts:∀ {cs:List AV} {us:List Value},cs.length=us.length→(∀ (j:Nat) (p:AV) (u:Value),cs[j]? = some p→us[j]? = some u→p.low B.length=true→VRel F' B' ρ' w (p.rv f d) u) →
   AV.low.allLow B.length cs=true→(AV.rv.rvL f d cs).length=us.length∧∀ (j:Nat) (p:AV) (u:Value),(AV.rv.rvL f d cs)[j]? = some p→us[j]? = some u→VRel F' B' ρ' w p u:=by
  intro cs us h1 ih hl
  rw[Cz]
  refine ⟨by simpa using h1,fun j p u hp hu=>?_⟩
  rw[List.getElem?_map] at hp
  cases hc:cs[j]? with
  | none=>rw[hc] at hp; cases hp
  | some c=>rw[hc] at hp; cases hp; exact ih j c u hc hu (Bw hl j c hc)
 induction h with
 | u x=>intro _; exact .u x
 | p x y hp=>intro _; exact .p _ y (hP _ _ hp)
 | mp b r hp=>
  intro hl
  have hb:b<B.length:=by simpa [AV.low,Nat.blt_eq] using hl
  refine .mp _ _ ⟨hlt b hb,fun cs Φ hc=>?_⟩
  obtain ⟨cs0,Φ0,g1⟩:=hX b cs Φ hb hc
  rw[hρ b hb]
  exact hp.2 cs0 Φ0 g1
 | op b r hp=>
  intro hl
  have hb:b<B.length:=by simpa [AV.low,Nat.blt_eq] using hl
  refine .op _ _ ⟨hlt b hb,fun cs Φ hc=>?_⟩
  obtain ⟨cs0,Φ0,g1⟩:=hX b cs Φ hb hc
  rw[hρ b hb]
  exact hp.2 cs0 Φ0 g1
 | ptr b ver o a hp=>
  intro hl
  have hb:b<B.length:=by simpa [AV.low,Nat.blt_eq] using hl
  refine .ptr _ _ _ a ⟨hlt b hb,fun row v cs hc=>?_⟩
  obtain ⟨v0,cs0,g1,rfl,_⟩:=hB b row v cs hb hc
  obtain ⟨q1,q2⟩:=hp.2 row _ cs0 g1
  refine ⟨by omega,fun e=>?_⟩
  rw[hρ b hb]
  exact q2 (by omega)
 | rs b ver sz off len a cap hp=>
  intro hl
  have hb:b<B.length:=by simpa [AV.low,Nat.blt_eq] using hl
  refine .rs _ _ _ _ _ a cap ⟨hlt b hb,hp.2.1,hp.2.2.1,fun row v cs hc=>?_⟩
  obtain ⟨v0,cs0,g1,rfl,g2⟩:=hB b row v cs hb hc
  obtain ⟨q1,q2⟩:=hp.2.2.2 row _ cs0 g1
  refine ⟨by omega,fun e=>?_⟩
  rw[hρ b hb,←g2]
  exact q2 (by omega)
 | rp cs a us h1 h2 h3 h4 h5 h6=>
  intro _
  exact .rp _ a us h1 (fun h=>h2 (hO _ h)) h3 h4 h5 (fun j p u hp hu=>hP _ _ (h6 j p u hp hu))
 | agg cs us h1 _ ih=>
  intro hl
  obtain ⟨q1,q2⟩:=parts h1 ih (by simpa [AV.low] using hl)
  exact .agg _ us q1 q2
 | fn g cs us h1 _ ih=>
  intro hl
  obtain ⟨q1,q2⟩:=parts h1 ih (by simpa [AV.low] using hl)
  exact .fn _ _ us q1 q2
 | tup cs us h1 _ ih=>
  intro hl
  obtain ⟨q1,q2⟩:=parts h1 ih (by simpa [AV.low] using hl)
  exact .tup _ us q1 q2

inductive BoxRen (f d:Nat→Nat) (n j:Nat):Box→Box→Prop
 | mk (row:Bool) (v:Nat) (cs0 cs:List AV):cs0.length=cs.length→(∀ (i:Nat) (c0 c:AV),cs0[i]? = some c0→cs[i]? = some c→c=c0.rv f d∧c0.low n=true)→BoxRen f d n j (.cells row v cs0) (.cells row (v+d j) cs)
 | dead:BoxRen f d n j .dead .dead
 | obj (Φ:ObjP) (cs0 cs:List AV):cs0.length=cs.length→(∀ (i:Nat) (c0 c:AV),cs0[i]? = some c0→cs[i]? = some c→c=c0.rv f d∧c0.low n=true)→BoxRen f d n j (.obj cs0 Φ) (.obj cs Φ)

theorem BoxRen.row {f d:Nat→Nat} {n j:Nat} (row:Bool) (v:Nat) (xs:List PV):BoxRen f d n j (.cells row v (rowC xs)) (.cells row (v+d j) (rowC xs)):=
 .mk row v _ _ rfl fun i c0 c h1 h2=>by
  rw[h1] at h2
  cases h2
  have:=MD xs i c0 h1 f d n
  exact this

theorem BoxRen.objs {f d:Nat→Nat} {n j:Nat} {Φ:ObjP} {cs0 cs:List AV} (h1:cs=AV.rv.rvL f d cs0) (h2:AV.low.allLow n cs0=true):BoxRen f d n j (.obj cs0 Φ) (.obj cs Φ):=by
 rw[Cz] at h1
 subst h1
 refine .obj Φ _ _ (by simp) fun i c0 c g1 g2=>?_
 rw[List.getElem?_map,g1] at g2
 cases g2
 exact ⟨rfl,Bw h2 i c0 g1⟩

theorem BoxRen.cells {f d:Nat→Nat} {n j:Nat} {row:Bool} {v v':Nat} {cs0 cs:List AV} (hv:v'=v+d j) (h1:cs=AV.rv.rvL f d cs0) (h2:AV.low.allLow n cs0=true):BoxRen f d n j (.cells row v cs0) (.cells row v' cs):=by
 subst hv
 rw[Cz] at h1
 subst h1
 refine .mk row v _ _ (by simp) fun i c0 c g1 g2=>?_
 rw[List.getElem?_map,g1] at g2
 cases g2
 exact ⟨rfl,Bw h2 i c0 g1⟩

def BoxesRen (f d:Nat→Nat) (n:Nat):Nat→List Box→List Box→Prop
 | _,[],[]=>True
 | j,b0::r0,b::r=>BoxRen f d n j b0 b∧BoxesRen f d n (j+1) r0 r
 | _,_,_=>False

theorem BoxesRen.get {f d:Nat→Nat} {n:Nat}:∀ {r0 r:List Box} {k:Nat},BoxesRen f d n k r0 r→r0.length=r.length∧∀ (j:Nat) (b0 b:Box),r0[j]? = some b0→r[j]? = some b→BoxRen f d n (k+j) b0 b
 | [],[],k,_=>⟨rfl,fun j b0 b h=>by simp at h⟩
 | b0::r0,b::r,k,⟨h1,h2⟩=>by
  obtain ⟨g1,g2⟩:=BoxesRen.get h2
  refine ⟨by simp[g1],fun j x y hx hy=>?_⟩
  cases j with
  | zero=>cases hx; cases hy; exact h1
  | succ j=>
   have:=g2 j x y (by simpa using hx) (by simpa using hy)
   rw[show k+(j+1)=k+1+j by omega]
   exact this
 | [],_::_,_,h=>h.elim
 | _::_,[],_,h=>h.elim

def Bh (B:List Box):List Nat→List Box→List Box
 | [],_=>B
 | _::_,[]=>B
 | x::π,b::bs=>Bh (B.set x b) π bs

theorem FK:∀ (π:List Nat) (bs B:List Box),(Bh B π bs).length=B.length
 | [],_,B=>by simp[Bh]
 | _::_,[],B=>by simp[Bh]
 | x::π,b::bs,B=>by rw[Bh,FK,List.length_set]

theorem MG:∀ (π:List Nat) (bs B:List Box) (c:Nat),c ∉ π→(Bh B π bs)[c]? = B[c]?
 | [],_,B,c,_=>by simp[Bh]
 | _::_,[],B,c,_=>by simp[Bh]
 | x::π,b::bs,B,c,h=>by
  rw[Bh,MG π bs _ c (fun hc=>h (by simp[hc])),List.getElem?_set_ne (fun e=>h (by simp[e]))]

theorem ZH:∀ (π:List Nat) (bs B:List Box) (j x:Nat),DO π=true→π.length=bs.length→(∀ y∈π,y<B.length)→π[j]? = some x→(Bh B π bs)[x]? = bs[j]?
 | [],_,B,j,x,_,_,_,h=>by simp at h
 | _::_,[],B,j,x,_,h,_,_=>by simp at h
 | y::π,b::bs,B,j,x,hn,hl,hlt,h=>by
  simp only[DO,Bool.and_eq_true,Bool.not_eq_true',List.any_eq_false] at hn
  rw[Bh]
  cases j with
  | zero=>
   cases h
   rw[MG π bs _ y (fun hc=>hn.1 y hc (Nat.beq_refl y)),List.getElem?_set_self (hlt y (by simp))]
   rfl
  | succ j=>
   rw[ZH π bs (B.set y b) j x hn.2 (by simpa using hl) (fun z hz=>by rw[List.length_set]; exact hlt z (by simp[hz])) (by simpa using h)]
   rfl

def Bc (π:List Nat) (m j:Nat):Nat:=match π[j]? with
 | some x=>x
 | none=>m+(j - π.length)
def BM (dv:List Nat) (j:Nat):Nat:=(dv[j]?).getD 0

structure Lift (args0:List AV) (B0:List Box) (r0:AV) (B0':List Box) (args:List AV) (B:List Box) (r:AV) (B':List Box):Prop where
 ex:∃ (π dv:List Nat) (Bi Bs Bn:List Box),(DO π&&π.all (fun x=>Nat.blt x B.length)&&Nat.beq π.length B0.length&&Nat.beq π.length Bs.length&&Nat.beq dv.length π.length)=true ∧
  π.map (fun x=>B[x]?)=Bi.map some∧args=AV.rv.rvL (Bc π B.length) (BM dv) args0∧AV.low.allLow B0.length args0=true∧BoxesRen (Bc π B.length) (BM dv) B0.length 0 B0 Bi ∧
  BoxesRen (Bc π B.length) (BM dv) B0'.length 0 B0' (Bs++Bn)∧B'=Bh B π Bs++Bn∧r=r0.rv (Bc π B.length) (BM dv)∧r0.low B0'.length=true

def AX (R:Ae):Ae:=fun args B r B'=>∃ args0 B0 r0 B0',R args0 B0 r0 B0'∧Lift args0 B0 r0 B0' args B r B'

theorem CallOk.mono {f:FuncId} {us:Array Value} {w:World} {R R':Ending→World→Prop} (h:CallOk P f us w R) (hr:∀ e w',R e w'→R' e w'):CallOk P f us w R':=by
 rcases h with ⟨h1,h2⟩ | ⟨v,w',h1,h2⟩
 ·exact .inl ⟨h1,h2.mono hr⟩
 ·exact .inr ⟨v,w',h1,hr _ _ h2⟩

theorem AU {f:Nat} {R:Ae} (hs:SoundR P f R):SoundR P f (AX R):=by
 rintro args B r B' ⟨args0,B0,r0,B0',hR,⟨π,dv,Bi,Bs,Bn,hck,hBi,hargs,hlow,hin,hout,rfl,rfl,hrl⟩⟩ F ρ w us hI hA
 simp only[Bool.and_eq_true,List.all_eq_true] at hck
 obtain ⟨⟨⟨⟨hnd,hlt⟩,hl1⟩,hl2⟩,hl3⟩:=hck
 have hl1:=Nat.eq_of_beq_eq_true hl1
 have hl2:=Nat.eq_of_beq_eq_true hl2
 have hl3:=Nat.eq_of_beq_eq_true hl3
 have hlt:∀ y∈π,y<B.length:=fun y hy=>by have:=hlt y hy; rwa[Nat.blt_eq] at this
 obtain ⟨hinl,hing⟩:=hin.get
 obtain ⟨houtl,houtg⟩:=hout.get
 -- names
 have hf0:∀ j,j<B0.length→∃ x,π[j]? = some x∧Bc π B.length j=x∧x<B.length:=fun j hj=>by
  have hj':j<π.length:=by omega
  refine ⟨π[j],List.getElem?_eq_getElem hj',by simp[Bc,hj'],hlt _ (List.getElem_mem hj')⟩
 have hf1:∀ j,B0.length≤j→Bc π B.length j=B.length+(j - B0.length):=fun j hj=>by
  have:π[j]? = none:=List.getElem?_eq_none (by omega)
  simp[Bc,this,hl1]
 have hd1:∀ j,B0.length≤j→BM dv j=0:=fun j hj=>by
  have:dv[j]? = none:=List.getElem?_eq_none (by omega)
  simp[BM,this]
 have hπinj:∀ (i j x:Nat),π[i]? = some x→π[j]? = some x→i=j:=fun i j x hi hj=>by
  have hi':=(List.getElem?_eq_some_iff.1 hi).1
  have hj':=(List.getElem?_eq_some_iff.1 hj).1
  exact Td hnd i j hi' hj' (by simp[QD,hi,hj])
 have hBiget:∀ (j x:Nat),π[j]? = some x→B[x]? = Bi[j]? := fun j x hj=>by
  have h1:=congrArg (fun l=>l[j]?) hBi
  simp only[List.getElem?_map,hj,Option.map_some] at h1
  cases hb:Bi[j]? with
  | none=>rw[hb] at h1; cases h1
  | some b=>rw[hb] at h1; simp only[Option.map_some,Option.some.injEq] at h1; exact h1
 -- the boxes of the call, by the caller's names
 have hin1:∀ (j:Nat) (row:Bool) (v:Nat) (cs:List AV),B0[j]? = some (.cells row v cs)→∃ cs0:List AV,B[Bc π B.length j]? = some (.cells row (v+BM dv j) cs0)∧cs0.length=cs.length ∧
   ∀ (i:Nat) (c0 c:AV),cs[i]? = some c0→cs0[i]? = some c→c=c0.rv (Bc π B.length) (BM dv)∧c0.low B0.length=true:=by
  intro j row v cs hj
  have hj':=(List.getElem?_eq_some_iff.1 hj).1
  obtain ⟨x,hx,hfx,hxl⟩:=hf0 j hj'
  have hb:j<Bi.length:=by omega
  have hr:=hing j _ _ hj (List.getElem?_eq_getElem hb)
  rw[Nat.zero_add] at hr
  rw[hfx,hBiget j x hx,List.getElem?_eq_getElem hb]
  generalize Bi[j]=bb at hr
  cases hr with
  | mk _ _ _ cs' q1 q2=>exact ⟨cs',rfl,q1.symm,q2⟩
 have hin2:∀ (j:Nat) (cs:List AV) (Φ:ObjP),B0[j]? = some (.obj cs Φ)→∃ cs0:List AV,B[Bc π B.length j]? = some (.obj cs0 Φ)∧cs0.length=cs.length ∧
   ∀ (i:Nat) (c0 c:AV),cs[i]? = some c0→cs0[i]? = some c→c=c0.rv (Bc π B.length) (BM dv)∧c0.low B0.length=true:=by
  intro j cs Φ hj
  have hj':=(List.getElem?_eq_some_iff.1 hj).1
  obtain ⟨x,hx,hfx,hxl⟩:=hf0 j hj'
  have hb:j<Bi.length:=by omega
  have hr:=hing j _ _ hj (List.getElem?_eq_getElem hb)
  rw[Nat.zero_add] at hr
  rw[hfx,hBiget j x hx,List.getElem?_eq_getElem hb]
  generalize Bi[j]=bb at hr
  cases hr with
  | obj _ _ cs' q1 q2=>exact ⟨cs',rfl,q1.symm,q2⟩
 have hinx:∀ {j:Nat} {x:Box} {l:Nat×Nat} {k:Nat},B0[j]? = some x→x.has l k→∃ x0,B[Bc π B.length j]? = some x0∧x0.has l k:=by
  intro j x l k h1 h2
  cases x with
  | dead=>exact h2.elim
  | cells row v cs=>obtain ⟨cs0,g1,_⟩:=hin1 j row v cs h1; exact ⟨_,g1,h2⟩
  | obj cs Φ=>obtain ⟨cs0,g1,_⟩:=hin2 j cs Φ h1; exact ⟨_,g1,h2⟩
 let ρ0:Aj:=fun j=>ρ (Bc π B.length j)
 -- what the call may not touch
 let F0:Nat→Prop:=fun k=>F k∨∃ c x l,c ∉ π∧B[c]? = some x∧ρ c=some l∧x.has l k
 have hO0:∀ k,Own F0 B0 ρ0 k→Own F B ρ k:=by
  rintro k (h0 | ⟨b,x,l,h1,h2,h3⟩)
  ·rcases h0 with h0 | ⟨c,x,l,_,h1,h2,h3⟩
   ·exact .inl h0
   ·exact .inr ⟨c,x,l,h1,h2,h3⟩
  ·obtain ⟨x0,g1,g2⟩:=hinx h1 h3
   exact .inr ⟨_,x0,l,g1,h2,g2⟩
 have hv0:∀ {x y:AV} {u:Value},VRel F B ρ w x u→x=y.rv (Bc π B.length) (BM dv)→y.low B0.length=true→VRel F0 B0 ρ0 w y u:=fun h e hl=>
  h.rv2 (fun j row v cs hj=>by obtain ⟨cs0,g1,g2,_⟩:=hin1 j row v cs hj; exact ⟨cs0,g1,g2⟩) (fun j cs Φ hj=>by obtain ⟨cs0,g1,_⟩:=hin2 j cs Φ hj; exact ⟨cs0,g1⟩) hO0 e hl
 have hI0:Inv F0 B0 ρ0 w:=by
  refine ⟨fun b row v cs' hb=>?_,fun b row v cs' hb=>?_,fun b cs' Φ hb=>?_,fun b b' x1 x1' l l' k h1 h2 h3 h4 h5 h6=>?_,fun k hk=>?_,fun b x1 l k hb hr hx1 hF=>?_,fun g hg=>⟨hv0 (hI.glob g hg).v rfl rfl,(hI.glob g hg).sz⟩,fun b v cs k o hb hr=>by
   obtain ⟨cs0,g1,_⟩:=hin1 _ _ _ _ hb
   exact hI.off0 _ _ _ _ _ g1 hr⟩
  ·obtain ⟨cs,g1,g2,g3⟩:=hin1 _ _ _ _ hb
   rcases hI.box _ _ _ _ g1 with ⟨q1,q2,q3⟩ | ⟨k,o,us,e,fr,q1,q2,q3,q4,q5⟩
   ·subst q3
    exact .inl ⟨q1,q2,List.eq_nil_of_length_eq_zero (by simpa using g2.symm)⟩
   ·refine .inr ⟨k,o,us,e,fr,q1,q2,by omega,q4,fun i c' hc'=>?_⟩
    have hi:i<cs.length:=by rw[g2]; exact (List.getElem?_eq_some_iff.1 hc').1
    obtain ⟨u,e1,e2⟩:=q5 i _ (List.getElem?_eq_getElem hi)
    obtain ⟨p1,p2⟩:=g3 i _ _ hc' (List.getElem?_eq_getElem hi)
    exact ⟨u,e1,hv0 e2 p1 p2⟩
  ·obtain ⟨cs,g1,g2,g3⟩:=hin1 _ _ _ _ hb
   have hl:=hI.leaf _ _ _ _ g1
   rw[List.all_eq_true] at hl ⊢
   intro c' hc'
   obtain ⟨i,hi⟩:=List.getElem?_of_mem hc'
   have hi':i<cs.length:=by rw[g2]; exact (List.getElem?_eq_some_iff.1 hi).1
   have hcl:=hl _ (List.getElem_mem hi')
   rw[(g3 i _ _ hi (List.getElem?_eq_getElem hi')).1,OX] at hcl
   exact hcl
  ·obtain ⟨cs,g1,g2,g3⟩:=hin2 _ _ _ hb
   obtain ⟨k,o,us,q1,q2,q3,q4⟩:=hI.obox _ _ _ g1
   refine ⟨k,o,us,q1,q2,by omega,fun i c' u hc' hu=>?_⟩
   have hi:i<cs.length:=by rw[g2]; exact (List.getElem?_eq_some_iff.1 hc').1
   obtain ⟨p1,p2⟩:=g3 i _ _ hc' (List.getElem?_eq_getElem hi)
   exact hv0 (q4 i _ u (List.getElem?_eq_getElem hi) hu) p1 p2
  ·obtain ⟨_,g1,p1⟩:=hinx h1 h5
   obtain ⟨_,g2,p2⟩:=hinx h2 h6
   have hbl:=(List.getElem?_eq_some_iff.1 h1).1
   have hbl':=(List.getElem?_eq_some_iff.1 h2).1
   obtain ⟨x,hx,hfx,_⟩:=hf0 b hbl
   obtain ⟨x',hx',hfx',_⟩:=hf0 b' hbl'
   have:=hI.injx _ _ _ _ _ _ _ g1 g2 h3 h4 p1 p2
   rw[hfx,hfx'] at this
   subst this
   exact hπinj b b' x hx hx'
  ·rcases hk with h0 | ⟨c,x,l,_,h1,h2,h3⟩
   ·exact hI.bound k h0
   ·exact hI.ownlt k (.inr ⟨c,x,l,h1,h2,h3⟩)
  ·obtain ⟨_,g1,p1⟩:=hinx hb hx1
   rcases hF with h0 | ⟨c,x2,l2,hc,h1,h2,h3⟩
   ·exact hI.farx _ _ _ _ g1 hr p1 h0
   ·have:=hI.injx _ _ _ _ _ _ _ g1 h1 hr h2 p1 h3
    obtain ⟨x,hx,hfx,_⟩:=hf0 b (List.getElem?_eq_some_iff.1 hb).1
    rw[hfx] at this
    subst this
    exact hc (List.mem_of_getElem? hx)
 have hA0:ArgsRel F0 B0 ρ0 w args0 us:=by
  subst hargs
  rw[Cz] at hA
  refine ⟨by have:=hA.1; simpa using this,fun j p u hp hu=>?_⟩
  exact hv0 (hA.2 j (p.rv _ _) u (by rw[List.getElem?_map,hp]; rfl) hu) rfl (Bw hlow j p hp)
 refine (hs args0 B0 r0 B0' hR F0 ρ0 w us hI0 hA0).mono fun e w' hp=>?_
 obtain ⟨x,ρ1,rfl,hI1,hE1,hv1⟩:=hp
 -- the caller's names, behind the call
 have hlenge:B0.length≤B0'.length:=hE1.len
 have hBn:Bs.length+Bn.length=B0'.length:=by rw[houtl,List.length_append]
 let ρ':Aj:=fun c=>if c<B.length then (match π.idxOf? c with | some j=>ρ1 j | none=>ρ c) else ρ1 (B0.length+(c - B.length))
 have hidx:∀ (j x:Nat),π[j]? = some x→π.idxOf? x=some j:=fun j x hj=>by
  cases hi:π.idxOf? x with
  | none=>
   rw[List.idxOf?_eq_none_iff] at hi
   exact absurd (List.mem_of_getElem? hj) hi
  | some i=>
   have h1:π[i]? = some x:=by
    rw[List.idxOf?,List.findIdx?_eq_some_iff_getElem] at hi
    obtain ⟨hh,h2,_⟩:=hi
    rw[List.getElem?_eq_getElem hh]
    simpa using h2
   exact congrArg some (hπinj i j x h1 hj)
 have hno:∀ c,c ∉ π→π.idxOf? c=none:=fun c hc=>List.idxOf?_eq_none_iff.2 hc
 have hρin:∀ j,j<B0'.length→ρ' (Bc π B.length j)=ρ1 j:=fun j hj=>by
  rcases Nat.lt_or_ge j B0.length with h | h
  ·obtain ⟨x,hx,hfx,hxl⟩:=hf0 j h
   show (if Bc π B.length j<B.length then _ else _)=_
   rw[hfx,if_pos hxl,hidx j x hx]
  ·show (if Bc π B.length j<B.length then _ else _)=_
   rw[hf1 j h,if_neg (by omega)]
   congr 1
   omega
 have hρout:∀ c,c<B.length→c ∉ π→ρ' c=ρ c:=fun c hc hcn=>by
  show (if c<B.length then _ else _)=_
  rw[if_pos hc,hno c hcn]
 -- boxes behind the call
 have hBget:∀ j,j<B0'.length→(Bh B π Bs++Bn)[Bc π B.length j]? = (Bs++Bn)[j]? := fun j hj=>by
  rcases Nat.lt_or_ge j B0.length with h | h
  ·obtain ⟨x,hx,hfx,hxl⟩:=hf0 j h
   rw[hfx,List.getElem?_append_left (by rw[FK]; exact hxl),ZH π Bs B j x hnd (by omega) hlt hx,List.getElem?_append_left (by omega)]
  ·rw[hf1 j h,List.getElem?_append_right (by rw[FK]; omega),FK,List.getElem?_append_right (by omega)]
   congr 1
   omega
 have hBother:∀ c,c<B.length→c ∉ π→(Bh B π Bs++Bn)[c]? = B[c]? := fun c hc hcn=>by
  rw[List.getElem?_append_left (by rw[FK]; exact hc),MG π Bs B c hcn]
 have hBlen:(Bh B π Bs++Bn).length=B.length+(B0'.length - B0.length):=by rw[List.length_append,FK]; omega
 -- each box is of one of the two kinds
 have hkind:∀ c,c<(Bh B π Bs++Bn).length→(∃ j,j<B0'.length∧Bc π B.length j=c)∨(c<B.length∧c ∉ π):=fun c hc=>by
  rcases Nat.lt_or_ge c B.length with h | h
  ·by_cases hm:c∈π
   ·obtain ⟨j,hj⟩:=List.getElem?_of_mem hm
    have hjl:=(List.getElem?_eq_some_iff.1 hj).1
    exact .inl ⟨j,by omega,by simp[Bc,hj]⟩
   ·exact .inr ⟨h,hm⟩
  ·rw[hBlen] at hc
   exact .inl ⟨B0.length+(c - B.length),by omega,by rw[hf1 _ (by omega)]; omega⟩
 have hfwd:∀ (j:Nat) (row:Bool) (v:Nat) (cs:List AV),j<B0'.length→(Bh B π Bs++Bn)[Bc π B.length j]? = some (.cells row v cs)→∃ (v0:Nat) (cs0:List AV),B0'[j]? = some (.cells row v0 cs0)∧v=v0+BM dv j∧cs0.length=cs.length ∧
   ∀ (i:Nat) (c0 c:AV),cs0[i]? = some c0→cs[i]? = some c→c=c0.rv (Bc π B.length) (BM dv)∧c0.low B0'.length=true:=by
  intro j row v cs hj hc
  rw[hBget j hj] at hc
  have hr:=houtg j _ _ (List.getElem?_eq_getElem hj) hc
  rw[Nat.zero_add] at hr
  rw[List.getElem?_eq_getElem hj]
  generalize B0'[j]=bb at hr
  cases hr with
  | mk _ v0 cs0 _ q1 q2=>exact ⟨v0,cs0,rfl,rfl,q1,q2⟩
 have hfwd2:∀ (j:Nat) (cs:List AV) (Φ:ObjP),j<B0'.length→(Bh B π Bs++Bn)[Bc π B.length j]? = some (.obj cs Φ)→∃ (cs0:List AV),B0'[j]? = some (.obj cs0 Φ)∧cs0.length=cs.length ∧
   ∀ (i:Nat) (c0 c:AV),cs0[i]? = some c0→cs[i]? = some c→c=c0.rv (Bc π B.length) (BM dv)∧c0.low B0'.length=true:=by
  intro j cs Φ hj hc
  rw[hBget j hj] at hc
  have hr:=houtg j _ _ (List.getElem?_eq_getElem hj) hc
  rw[Nat.zero_add] at hr
  rw[List.getElem?_eq_getElem hj]
  generalize B0'[j]=bb at hr
  cases hr with
  | obj _ cs0 _ q1 q2=>exact ⟨cs0,rfl,q1,q2⟩
 have hfwdx:∀ {j:Nat} {x:Box} {l:Nat×Nat} {k:Nat},j<B0'.length→(Bh B π Bs++Bn)[Bc π B.length j]? = some x→x.has l k→∃ x0,B0'[j]? = some x0∧x0.has l k:=by
  intro j x l k hj h1 h2
  cases x with
  | dead=>exact h2.elim
  | cells row v cs=>obtain ⟨v0,cs0,g1,_⟩:=hfwd j row v cs hj h1; exact ⟨_,g1,h2⟩
  | obj cs Φ=>obtain ⟨cs0,g1,_⟩:=hfwd2 j cs Φ hj h1; exact ⟨_,g1,h2⟩
 have hOb:∀ k,Own F (Bh B π Bs++Bn) ρ' k→Own F0 B0' ρ1 k:=by
  rintro k (h0 | ⟨c,x,l,h1,h2,h3⟩)
  ·exact .inl (.inl h0)
  ·rcases hkind c (List.getElem?_eq_some_iff.1 h1).1 with ⟨j,hj,rfl⟩ | ⟨hc,hcn⟩
   ·obtain ⟨x0,g1,g2⟩:=hfwdx hj h1 h3
    rw[hρin j hj] at h2
    exact .inr ⟨j,x0,l,g1,h2,g2⟩
   ·rw[hBother c hc hcn] at h1
    rw[hρout c hc hcn] at h2
    exact .inl (.inr ⟨c,x,l,hcn,h1,h2,h3⟩)
 have hE:Ext F B ρ w (Bh B π Bs++Bn) ρ' w':=by
  refine ⟨hE1.size,hE1.os,hE1.tape,hE1.output,fun k hk ho=>?_,hE1.shape,by omega,fun b row v cs hb hc=>?_,fun b cs Φ hb hc=>?_,fun k hF hk=>hE1.far k (.inl hF) hk⟩
  ·have hn0:¬Own F0 B0 ρ0 k:=fun h=>ho (hO0 k h)
   obtain ⟨g1,g2⟩:=hE1.keep k hk hn0
   exact ⟨g1,fun h=>g2 (hOb k h)⟩
  ·rcases hkind b (List.getElem?_eq_some_iff.1 hc).1 with ⟨j,hj,rfl⟩ | ⟨hbl,hbn⟩
   ·have hjl:j<B0.length:=by
     rcases Nat.lt_or_ge j B0.length with h | h
     ·exact h
     ·rw[hf1 j h] at hb; omega
    obtain ⟨v0,cs0,g1,rfl,g3,_⟩:=hfwd j row v cs hj hc
    obtain ⟨v1,cs1,q1,q2,q3⟩:=hE1.box j row v0 cs0 hjl g1
    obtain ⟨cs2,p1,p2,_⟩:=hin1 j row v1 cs1 q1
    refine ⟨v1+BM dv j,cs2,p1,by omega,fun e=>?_⟩
    obtain ⟨e1,e2⟩:=q3 (by omega)
    exact ⟨by rw[hρin j hj]; exact e1,by omega⟩
   ·rw[hBother b hbl hbn] at hc
    exact ⟨v,cs,hc,Nat.le_refl _,fun _=>⟨hρout b hbl hbn,rfl⟩⟩
  ·rcases hkind b (List.getElem?_eq_some_iff.1 hc).1 with ⟨j,hj,rfl⟩ | ⟨hbl,hbn⟩
   ·have hjl:j<B0.length:=by
     rcases Nat.lt_or_ge j B0.length with h | h
     ·exact h
     ·rw[hf1 j h] at hb; omega
    obtain ⟨cs0,g1,_⟩:=hfwd2 j cs Φ hj hc
    obtain ⟨cs1,Φ1,q1,q2⟩:=hE1.obj j cs0 Φ hjl g1
    obtain ⟨cs2,p1,_⟩:=hin2 j cs1 Φ1 q1
    exact ⟨cs2,Φ1,p1,by rw[hρin j hj]; exact q2⟩
   ·rw[hBother b hbl hbn] at hc
    exact ⟨cs,Φ,hc,by rw[hρout b hbl hbn]⟩
 have hvf:∀ {y:AV} {u:Value},VRel F0 B0' ρ1 w' y u→y.low B0'.length=true→VRel F (Bh B π Bs++Bn) ρ' w' (y.rv (Bc π B.length) (BM dv)) u:=fun h hl=>
  h.fwd (fun j hj=>by
   rcases Nat.lt_or_ge j B0.length with h | h
   ·obtain ⟨x,_,hfx,hxl⟩:=hf0 j h
    rw[hfx,hBlen]; omega
   ·rw[hf1 j h,hBlen]; omega) hρin (fun j row v cs hj hc=>by obtain ⟨v0,cs0,g1,g2,g3,_⟩:=hfwd j row v cs hj hc; exact ⟨v0,cs0,g1,g2,g3⟩) (fun j cs Φ hj hc=>by obtain ⟨cs0,g1,_⟩:=hfwd2 j cs Φ hj hc; exact ⟨cs0,Φ,g1⟩) hOb hl
 refine ⟨x,ρ',rfl,⟨fun c row v cs hc=>?_,fun c row v cs hc=>?_,fun c cs Φ hc=>?_,fun c c' x1 x1' l l' k h1 h2 h3 h4 h5 h6=>?_,fun k hk=>Nat.lt_of_lt_of_le (hI.bound k hk) hE1.size,fun c x1 l k hc hr hx1 hF=>?_,fun g hg=>(hI.glob g hg).ext hE,fun c v cs k o hc hr=>by
  rcases hkind c (List.getElem?_eq_some_iff.1 hc).1 with ⟨j,hj,rfl⟩ | ⟨hcl,hcn⟩
  ·obtain ⟨v0,cs0,g1,_⟩:=hfwd j false v cs hj hc
   rw[hρin j hj] at hr
   exact hI1.off0 _ _ _ _ _ g1 hr
  ·rw[hBother c hcl hcn] at hc
   rw[hρout c hcl hcn] at hr
   exact hI.off0 _ _ _ _ _ hc hr⟩,hE,hvf hv1 hrl⟩
 ·rcases hkind c (List.getElem?_eq_some_iff.1 hc).1 with ⟨j,hj,rfl⟩ | ⟨hcl,hcn⟩
  ·obtain ⟨v0,cs0,g1,rfl,g3,g4⟩:=hfwd j row v cs hj hc
   rw[hρin j hj]
   rcases hI1.box j row v0 cs0 g1 with ⟨q1,q2,q3⟩ | ⟨k,o,us,e,fr,q1,q2,q3,q4,q5⟩
   ·subst q3
    exact .inl ⟨q1,q2,List.eq_nil_of_length_eq_zero (by simpa using g3.symm)⟩
   ·refine .inr ⟨k,o,us,e,fr,q1,q2,by omega,q4,fun i c hci=>?_⟩
    have hi:i<cs0.length:=by rw[g3]; exact (List.getElem?_eq_some_iff.1 hci).1
    obtain ⟨u,e1,e2⟩:=q5 i _ (List.getElem?_eq_getElem hi)
    obtain ⟨p1,p2⟩:=g4 i _ _ (List.getElem?_eq_getElem hi) hci
    exact ⟨u,e1,p1▸hvf e2 p2⟩
  ·rw[hBother c hcl hcn] at hc
   rw[hρout c hcl hcn]
   rcases hI.box c row v cs hc with q | ⟨k,o,us,e,fr,q1,q2,q3,q4,q5⟩
   ·exact .inl q
   ·have hkF:F0 k:= .inr ⟨c,_,_,hcn,hc,q1,rfl⟩
    have hk:k<w.heap.size:=(Array.getElem?_eq_some_iff.1 q2).1
    have hh:=hE1.far k hkF hk
    refine .inr ⟨k,o,us,e,fr,q1,hh.trans q2,q3,q4,fun i c hci=>?_⟩
    ·obtain ⟨u,e1,e2⟩:=q5 i c hci
     exact ⟨u,e1,e2.ext hE⟩
 ·rcases hkind c (List.getElem?_eq_some_iff.1 hc).1 with ⟨j,hj,rfl⟩ | ⟨hcl,hcn⟩
  ·obtain ⟨v0,cs0,g1,rfl,g3,g4⟩:=hfwd j row v cs hj hc
   have hl:=hI1.leaf _ _ _ _ g1
   rw[List.all_eq_true] at hl ⊢
   intro c' hc'
   obtain ⟨i,hi⟩:=List.getElem?_of_mem hc'
   have hi':i<cs0.length:=by rw[g3]; exact (List.getElem?_eq_some_iff.1 hi).1
   have hcl:=hl _ (List.getElem_mem hi')
   rw[(g4 i _ _ (List.getElem?_eq_getElem hi') hi).1,OX]
   exact hcl
  ·rw[hBother c hcl hcn] at hc
   exact hI.leaf c row v cs hc
 ·rcases hkind c (List.getElem?_eq_some_iff.1 hc).1 with ⟨j,hj,rfl⟩ | ⟨hcl,hcn⟩
  ·obtain ⟨cs0,g1,g3,g4⟩:=hfwd2 j cs Φ hj hc
   rw[hρin j hj]
   obtain ⟨k,o,us,q1,q2,q3,q4⟩:=hI1.obox j cs0 Φ g1
   refine ⟨k,o,us,q1,q2,by omega,fun i c u hci hu=>?_⟩
   have hi:i<cs0.length:=by rw[g3]; exact (List.getElem?_eq_some_iff.1 hci).1
   obtain ⟨p1,p2⟩:=g4 i _ _ (List.getElem?_eq_getElem hi) hci
   exact p1▸hvf (q4 i _ u (List.getElem?_eq_getElem hi) hu) p2
  ·rw[hBother c hcl hcn] at hc
   rw[hρout c hcl hcn]
   obtain ⟨k,o,us,q1,q2,q3,q4⟩:=hI.obox c cs Φ hc
   exact ⟨k,o,us,q1,Φ.frame _ _ _ _ _ q2 (fun j hj=>hE1.far j (.inr ⟨c,_,_,hcn,hc,q1,hj⟩) (Φ.low _ _ _ _ j q2 hj)),q3,fun i c u h1 h2=>(q4 i c u h1 h2).ext hE⟩
 ·rcases hkind c (List.getElem?_eq_some_iff.1 h1).1 with ⟨j,hj,rfl⟩ | ⟨hcl,hcn⟩ <;> rcases hkind c' (List.getElem?_eq_some_iff.1 h2).1 with ⟨j',hj',rfl⟩ | ⟨hcl',hcn'⟩
  ·obtain ⟨_,g1,p1⟩:=hfwdx hj h1 h5
   obtain ⟨_,g1',p1'⟩:=hfwdx hj' h2 h6
   rw[hρin j hj] at h3
   rw[hρin j' hj'] at h4
   rw[hI1.injx _ _ _ _ _ _ _ g1 g1' h3 h4 p1 p1']
  ·obtain ⟨_,g1,p1⟩:=hfwdx hj h1 h5
   rw[hρin j hj] at h3
   rw[hBother c' hcl' hcn'] at h2
   rw[hρout c' hcl' hcn'] at h4
   exact absurd (.inr ⟨c',_,_,hcn',h2,h4,h6⟩) (hI1.farx _ _ _ _ g1 h3 p1)
  ·obtain ⟨_,g1',p1'⟩:=hfwdx hj' h2 h6
   rw[hρin j' hj'] at h4
   rw[hBother c hcl hcn] at h1
   rw[hρout c hcl hcn] at h3
   exact absurd (.inr ⟨c,_,_,hcn,h1,h3,h5⟩) (hI1.farx _ _ _ _ g1' h4 p1')
  ·rw[hBother c hcl hcn] at h1
   rw[hρout c hcl hcn] at h3
   rw[hBother c' hcl' hcn'] at h2
   rw[hρout c' hcl' hcn'] at h4
   exact hI.injx _ _ _ _ _ _ _ h1 h2 h3 h4 h5 h6
 ·rcases hkind c (List.getElem?_eq_some_iff.1 hc).1 with ⟨j,hj,rfl⟩ | ⟨hcl,hcn⟩
  ·obtain ⟨_,g1,p1⟩:=hfwdx hj hc hx1
   rw[hρin j hj] at hr
   exact hI1.farx _ _ _ _ g1 hr p1 (.inl hF)
  ·rw[hBother c hcl hcn] at hc
   rw[hρout c hcl hcn] at hr
   exact hI.farx _ _ _ _ hc hr hx1 hF

end Go.Ax
namespace Go.Ax
open Go.RowKit
variable [Glob]
set_option maxRecDepth 100000

theorem wp_leaf {W:Wd} {olds:List (List AV)} {e:AE} {c:St} {K:AE→St→Prop} (ho:B9 W olds) (h:K e c):(Tree.leaf W olds e (some c)).wp K:=⟨ho,c,rfl,h⟩
theorem AC {d:Nat} {b:Bool} {x y:Tree} {K:AE→St→Prop} (hx:b=true→x.wp K) (hy:b=false→y.wp K):(Tree.sp d b x y).wp K:=⟨hx,hy⟩
theorem AP {d:Nat} {z:Int} {k:Tree} {K:AE→St→Prop} (hz: -9223372036854775808≤z∧z<9223372036854775808) (h:k.wp K):(Tree.int d (IntKind.i64.wrap z) z k).wp K:=⟨wrap_i64 hz,h⟩
theorem Aq {α β:Type} {d:Nat} {L:List α} {f:α→β} {k:Tree} {K:AE→St→Prop} (h:k.wp K):(Tree.int d ((L.map f).length:Int) (L.length:Int) k).wp K:=⟨by simp,h⟩
theorem Cm {α:Type} {d:Nat} {E:Enc α} {L:List α} {i:Int} {k:α→Tree} {K:AE→St→Prop} (a:α) (h0:0≤i) (ha:L[i.toNat]? = some a) (h:(k a).wp K):(Tree.elem d (L.map E.f) E L i k).wp K:=⟨rfl,h0,a,ha,h⟩
theorem DB {α:Type} {d:Nat} {lo hi:Option Int} {E:Enc α} {L:List α} {k:Tree} {K:AE→St→Prop} (h0:CE lo hi L.length) (h:k.wp K):(Tree.cut d (L.map E.f) lo hi E L k).wp K:=⟨rfl,h0,h⟩
theorem Ab {σ:Type} {W:Wd} {olds:List (List AV)} {E:σ→St} {s0:σ} {k:σ→Tree} {K:AE→St→Prop} (ho:B9 W olds) (h:(k s0).wp K):(Tree.join W olds (some (E s0)) E s0 k).wp K:=⟨ho,rfl,h⟩
theorem BH {σ ε ε':Type} {W:Wd} {olds:List (List AV)} {E:σ→St} {X:ε→AE×St} {X':ε'→AE×St} {s0:σ} {body:σ→Tree} {k:ε→Tree} {k':ε'→Tree} {K:AE→St→Prop} (x:ε) (ho:B9 W olds)
  (hr:Rounds E X X' (fun s=>(body s).wp) s0 (.inl x)) (h:(k x).wp K):(Tree.loop W olds (some (E s0)) E X X' s0 body k k').wp K:=⟨ho,rfl, .inl ⟨x,hr,h⟩⟩
theorem Dk {σ ε ε':Type} {W:Wd} {olds:List (List AV)} {E:σ→St} {X:ε→AE×St} {X':ε'→AE×St} {s0:σ} {body:σ→Tree} {k:ε→Tree} {k':ε'→Tree} {K:AE→St→Prop} (x:ε') (ho:B9 W olds)
  (hr:Rounds E X X' (fun s=>(body s).wp) s0 (.inr x)) (h:(k' x).wp K):(Tree.loop W olds (some (E s0)) E X X' s0 body k k').wp K:=⟨ho,rfl, .inr ⟨x,hr,h⟩⟩

theorem CX {d len:Nat} {i:Int} {k:Tree} {K:AE→St→Prop} (h0:0≤i) (h1:i<(len:Int)) (h:k.wp K):(Tree.ridx d len i k).wp K:=⟨h0,h1,h⟩
theorem Bb {α:Type} {d off:Nat} {E:Enc α} {L:List α} {i:Int} {q:Nat} {k:α→Tree} {K:AE→St→Prop} (a:α) (h0:0≤i) (ho:off=0+i.toNat*E.sz+q) (ha:L[i.toNat]? = some a) (h:(k a).wp K):(Tree.rload d (rowC (L.map E.f)) off E L i q k).wp K:=⟨rfl,h0,ho,a,ha,h⟩
theorem NP {α:Type} {d:Option Nat} {off:Nat} {new:List AV} {E:Enc α} {L:List α} {i:Int} {a:α} {k:Tree} {K:AE→St→Prop} (h0:0≤i) (h1:i<(L.length:Int)) (ho:off=0+i.toNat*E.sz) (hn:new=(E.f a).cells.map .p) (h:k.wp K):(Tree.rstore d (rowC (L.map E.f)) off new E L i a k).wp K:=⟨rfl,h0,h1,ho,hn,h⟩
theorem Ej {d:Nat} {z:Int} {k:Tree} {K:AE→St→Prop} (hz:0≤z∧z<9223372036854775808) (h:k.wp K):(Tree.int d (IntKind.u64.wrap z) z k).wp K:=by
 refine ⟨?_,h⟩
 show (if (false&&decide (z % 2 ^ 64≥2 ^ 63))=true then z % 2 ^ 64 - 2 ^ 64 else z % 2 ^ 64)=z
 rw[Bool.false_and,if_neg (by simp)]
 omega
theorem Dn {d:Option Nat} {p:Prop} {v:AV} {B:List Box} {k:Tree} {K:AE→St→Prop} (hp:p) (h:k.wp K):(Tree.val d p v B k).wp K:=⟨hp,h⟩
theorem Ac {d:Nat} {p:Prop} {v:AV} {k:Tree} {K:AE→St→Prop} (hp:p) (h:k.wp K):(Tree.call d p v k).wp K:=⟨hp,h⟩
theorem ol {α:Type} {d:Nat} {z:Int} {E:Enc α} {a:α} {k:Tree} {K:AE→St→Prop} (h0:0≤z) (h1:z≤1000000000) (h:k.wp K):(Tree.mks d z z ((E.f a).cells.map .p) E a k).wp K:=⟨rfl,h0,h1,rfl,h⟩
theorem Ce {b:Bool} {x y:Tree} {K:AE→St→Prop} (hx:b=true→x.wp K) (hy:b=false→y.wp K):(Tree.br b x y).wp K:=⟨hx,hy⟩
theorem BW {α:Type} {d:Nat} {src:ASrc} {len:Nat} {E:Enc α} {L M:List α} {k:Tree} {K:AE→St→Prop} (h0:src.ok E M) (h1:len=L.length) (h2:((L++M).length:Int)≤1000000000) (h:k.wp K):(Tree.app d src len (rowC (L.map E.f)) E L M k).wp K:=⟨h0,h1,rfl,h2,h⟩
theorem SS {α:Type} {d:Nat} {src:ASrc} {E:Enc α} {M:List α} {k:Tree} {K:AE→St→Prop} (h0:src.ok E M) (h2:(M.length:Int)≤1000000000) (h:k.wp K):(Tree.appn d src E M k).wp K:=⟨h0,h2,h⟩

end Go.Ax
namespace Go.Ax
open Go.RowKit

abbrev DC:Glob:=⟨⟨fun _=> []⟩⟩

def AV.pl:AV→Bool
 | .p (.v _) | .ptr .. | .rs .. | .mp _ | .op _ | .u=>true
 | .tup xs=>allPl xs
 | .p _ | .rp _ | .agg _ | .fn .. => false
 where
 allPl:List AV→Bool
  | []=>true
  | c::cs=>c.pl&&allPl cs

def AV.pl2:AV→Bool
 | .p _=>true
 | x=>x.pl

theorem DY:∀ {cs:List AV},AV.pl.allPl cs=true→∀ (j:Nat) (c:AV),cs[j]? = some c→c.pl=true
 | [],_,j,c,h=>by simp at h
 | x::cs,h,j,c,hc=>by
  simp only[AV.pl.allPl,Bool.and_eq_true] at h
  cases j with
  | zero=>cases hc; exact h.1
  | succ j=>exact DY h.2 j c (by simpa using hc)

def Box.cs:Box→List AV
 | .dead=> []
 | .cells _ _ cs=>cs
 | .obj cs _=>cs

def Pp (n:Nat) (B:List Box):Prop:=∀ x∈B,AV.pl.allPl x.cs=true∧AV.low.allLow n x.cs=true

def Box.sh (f d:Nat→Nat):Box→Box
 | .dead=> .dead
 | .cells row v cs=> .cells row v (AV.rv.rvL f d cs)
 | .obj cs Φ=> .obj (AV.rv.rvL f d cs) Φ

section
variable [Glob] {F F' : Nat → Prop}

theorem VRel.fwdP {B B':List Box} {ρ ρ':Aj} {w:World} {f d:Nat→Nat} (hlt:∀ j,j<B.length→f j<B'.length) (hρ:∀ j,j<B.length→ρ' (f j)=ρ j)
  (hB:∀ j row v cs,j<B.length→B'[f j]? = some (.cells row v cs)→∃ (v0:Nat) (cs0:List AV),B[j]? = some (.cells row v0 cs0)∧v=v0+d j∧cs0.length=cs.length)
  (hX:∀ j cs Φ,j<B.length→B'[f j]? = some (.obj cs Φ)→∃ cs0 Φ0,B[j]? = some (.obj cs0 Φ0))
  {y:AV} {u:Value} (h:VRel F B ρ w y u):y.pl=true→y.low B.length=true→VRel F' B' ρ' w (y.rv f d) u:=by
 induction h with
 | u x=>intro _ _; exact .u x
 | p x y hp=>
  intro hp' _
  cases x with
  | v z=>cases hp; exact .p _ _ (.v _)
  | ls xs=>cases hp'
  | agg cs=>cases hp'
 | mp b r hp=>
  intro _ hl
  have hb:b<B.length:=by simpa [AV.low,Nat.blt_eq] using hl
  refine .mp _ _ ⟨hlt b hb,fun cs Φ hc=>?_⟩
  obtain ⟨cs0,Φ0,g1⟩:=hX b cs Φ hb hc
  rw[hρ b hb]
  exact hp.2 cs0 Φ0 g1
 | op b r hp=>
  intro _ hl
  have hb:b<B.length:=by simpa [AV.low,Nat.blt_eq] using hl
  refine .op _ _ ⟨hlt b hb,fun cs Φ hc=>?_⟩
  obtain ⟨cs0,Φ0,g1⟩:=hX b cs Φ hb hc
  rw[hρ b hb]
  exact hp.2 cs0 Φ0 g1
 | ptr b ver o a hp=>
  intro _ hl
  have hb:b<B.length:=by simpa [AV.low,Nat.blt_eq] using hl
  refine .ptr _ _ _ a ⟨hlt b hb,fun row v cs hc=>?_⟩
  obtain ⟨v0,cs0,g1,rfl,_⟩:=hB b row v cs hb hc
  obtain ⟨q1,q2⟩:=hp.2 row _ cs0 g1
  refine ⟨by omega,fun e=>?_⟩
  rw[hρ b hb]
  exact q2 (by omega)
 | rs b ver sz off len a cap hp=>
  intro _ hl
  have hb:b<B.length:=by simpa [AV.low,Nat.blt_eq] using hl
  refine .rs _ _ _ _ _ a cap ⟨hlt b hb,hp.2.1,hp.2.2.1,fun row v cs hc=>?_⟩
  obtain ⟨v0,cs0,g1,rfl,g2⟩:=hB b row v cs hb hc
  obtain ⟨q1,q2⟩:=hp.2.2.2 row _ cs0 g1
  refine ⟨by omega,fun e=>?_⟩
  rw[hρ b hb,←g2]
  exact q2 (by omega)
 | rp cs a us h1 h2 h3 h4 h5 h6=>intro h; cases h
 | agg cs us h1 _ ih=>intro h; cases h
 | fn g cs us h1 _ ih=>intro h; cases h
 | tup cs us h1 _ ih=>
  intro hp hl
  show VRel F' B' ρ' w (.tup (AV.rv.rvL f d cs)) _
  rw[Cz]
  refine .tup _ us (by simpa using h1) (fun j p u hq hu=>?_)
  rw[List.getElem?_map] at hq
  cases hc:cs[j]? with
  | none=>rw[hc] at hq; cases hq
  | some c=>
   rw[hc] at hq; cases hq
   exact ih j c u hc hu (DY (by simpa [AV.pl] using hp) j c hc) (Bw (by simpa [AV.low] using hl) j c hc)

theorem k5 {x:AV} {n:Nat}:x.rv (fun j=>j) (fun _=>0)=x:=by
 induction x using AV.rec (motive_2:=fun cs=>AV.rv.rvL (fun j=>j) (fun _=>0) cs=cs) with
 | u=>rfl
 | mp b=>rfl
 | op b=>rfl
 | p x=>rfl
 | ptr b v o=>rfl
 | rs b v z o l=>rfl
 | rp cs=>rfl
 | agg cs ih=>simp[AV.rv,ih]
 | fn g cs ih=>simp[AV.rv,ih]
 | tup cs ih=>simp[AV.rv,ih]
 | nil=>rfl
 | cons c cs h1 h2=>simp[AV.rv.rvL,h1,h2]

theorem Inv.bare {B:List Box} {ρ:Aj} {w:World} (h:Inv F B ρ w):@Inv DC noF B ρ w:=by
 have hO:∀ k,Own noF B ρ k→Own F B ρ k:=by
  rintro k (h0 | h0)
  ·exact h0.elim
  ·exact .inr h0
 have hv:∀ {x:AV} {u:Value},VRel F B ρ w x u→VRel noF B ρ w x u:=fun {x u} hx=>by
  have hP:∀ (p:PV) (u:Value),PRel (Own F B ρ) w p u→PRel (Own noF B ρ) w p u:=fun p u hp=>hp.mono (fun k _ ho=>⟨rfl,fun h=>ho (hO k h)⟩) (Nat.le_refl _)
  induction hx with
  | u x=>exact .u x
  | p x y hp=>exact .p _ _ (hP _ _ hp)
  | mp b r hp=>exact .mp b r hp
  | op b r hp=>exact .op b r hp
  | ptr b ver o a hp=>exact .ptr b ver o a hp
  | rs b ver sz off len a cap hp=>exact .rs b ver sz off len a cap hp
  | rp cs a us h1 h2 h3 h4 h5 h6=>exact .rp cs a us h1 (fun h=>h2 (hO _ h)) h3 h4 h5 (fun j p u hp hu=>hP _ _ (h6 j p u hp hu))
  | agg cs us h1 _ ih=>exact .agg cs us h1 ih
  | fn f cs us h1 _ ih=>exact .fn f cs us h1 ih
  | tup cs us h1 _ ih=>exact .tup cs us h1 ih
 refine @Inv.mk DC noF B ρ w (fun b row v cs hb=>?_) h.leaf (fun b cs Φ hb=>?_) h.injx (fun k hk=>hk.elim) (fun _ _ _ _ _ _ _ h=>h) (fun g hg=>absurd rfl hg) h.off0
 ·rcases h.box b row v cs hb with h0 | ⟨k,o,us,e,fr,g1,g2,g3,g4,g5⟩
  ·exact .inl h0
  ·exact .inr ⟨k,o,us,e,fr,g1,g2,g3,g4,fun i c hc=>by obtain ⟨u,e1,e2⟩:=g5 i c hc; exact ⟨u,e1,hv e2⟩⟩
 ·obtain ⟨k,o,us,g1,g2,g3,g4⟩:=h.obox b cs Φ hb
  exact ⟨k,o,us,g1,g2,g3,fun i c u hc hu=>hv (g4 i c u hc hu)⟩

theorem Inv.raise {B:List Box} {ρ:Aj} {w:World} (h:@Inv DC noF B ρ w) (hp:Pp B.length B) (hF:∀ j,F j→¬Own noF B ρ j) (hb:∀ j,F j→j<w.heap.size)
  (hg:∀ g,Glob.tab g≠ []→GRel F B ρ w g):Inv F B ρ w:=by
 have hv:∀ {x:AV} {u:Value},VRel noF B ρ w x u→x.pl=true→x.low B.length=true→VRel F B ρ w x u:=fun {x u} hx h1 h2=>by
  have:=hx.fwdP (F':=F) (B':=B) (ρ':=ρ) (f:=fun j=>j) (d:=fun _=>0) (fun j hj=>hj) (fun _ _=>rfl) (fun j row v cs _ hc=>⟨v,cs,hc,rfl,rfl⟩) (fun j cs Φ _ hc=>⟨cs,Φ,hc⟩) h1 h2
  rwa[k5 (n:=0)] at this
 have hbx:=@Inv.box DC noF B ρ w h
 have hob:=@Inv.obox DC noF B ρ w h
 refine ⟨fun b row v cs hb=>?_,@Inv.leaf DC noF B ρ w h,fun b cs Φ hb=>?_,@Inv.injx DC noF B ρ w h,hb,fun b x l k h1 h2 h3 h4=>hF k h4 (.inr ⟨b,x,l,h1,h2,h3⟩),hg,@Inv.off0 DC noF B ρ w h⟩
 ·have hpl:=hp _ (List.mem_of_getElem? hb)
  rcases hbx b row v cs hb with h0 | ⟨k,o,us,e,fr,g1,g2,g3,g4,g5⟩
  ·exact .inl h0
  ·exact .inr ⟨k,o,us,e,fr,g1,g2,g3,g4,fun i c hc=>by obtain ⟨u,e1,e2⟩:=g5 i c hc; exact ⟨u,e1,hv e2 (DY hpl.1 i c hc) (Bw hpl.2 i c hc)⟩⟩
 ·have hpl:=hp _ (List.mem_of_getElem? hb)
  obtain ⟨k,o,us,g1,g2,g3,g4⟩:=hob b cs Φ hb
  exact ⟨k,o,us,g1,g2,g3,fun i c u hc hu=>hv (g4 i c u hc hu) (DY hpl.1 i c hc) (Bw hpl.2 i c hc)⟩

end

def jn (n:Nat) (ρ1 ρ2:Aj):Aj:=fun b=>if b<n then ρ1 b else ρ2 (b - n)

theorem LN {f d:Nat→Nat} {x:Box} {l:Nat×Nat} {k:Nat}:(x.sh f d).has l k↔x.has l k:=by cases x <;> exact Iff.rfl

theorem QH {B1 B2:List Box} {ρ1 ρ2:Aj} {f d:Nat→Nat} (k:Nat):Own noF (B1++B2.map (Box.sh f d)) (jn B1.length ρ1 ρ2) k↔Own noF B1 ρ1 k∨Own noF B2 ρ2 k:=by
 constructor
 ·rintro (h | ⟨b,x,l,h1,h2,h3⟩)
  ·exact h.elim
  ·by_cases hb:b<B1.length
   ·rw[List.getElem?_append_left hb] at h1
    simp only[jn,hb,if_true] at h2
    exact .inl (.inr ⟨b,x,l,h1,h2,h3⟩)
   ·rw[List.getElem?_append_right (by omega),List.getElem?_map] at h1
    simp only[jn,hb,if_false] at h2
    cases hx:B2[b - B1.length]? with
    | none=>rw[hx] at h1; cases h1
    | some y=>
     rw[hx] at h1; cases h1
     exact .inr (.inr ⟨_,y,l,hx,h2,LN.1 h3⟩)
 ·rintro ((h | ⟨b,x,l,h1,h2,h3⟩) | (h | ⟨b,x,l,h1,h2,h3⟩))
  ·exact h.elim
  ·have hb:=(List.getElem?_eq_some_iff.1 h1).1
   exact .inr ⟨b,x,l,by rw[List.getElem?_append_left hb]; exact h1,by simp[jn,hb,h2],h3⟩
  ·exact h.elim
  ·refine .inr ⟨B1.length+b,x.sh f d,l,?_,?_,LN.2 h3⟩
   ·rw[List.getElem?_append_right (by omega),List.getElem?_map,show B1.length+b - B1.length=b by omega,h1]; rfl
   ·show (if B1.length+b<B1.length then _ else ρ2 (B1.length+b - B1.length))=_
    rw[if_neg (by omega),show B1.length+b - B1.length=b by omega,h2]

theorem Inv.join {B1 B2:List Box} {ρ1 ρ2:Aj} {w:World} (h1:@Inv DC noF B1 ρ1 w) (h2:@Inv DC noF B2 ρ2 w) (p1:Pp B1.length B1) (p2:Pp B2.length B2) (hd:∀ j,Own noF B1 ρ1 j→¬Own noF B2 ρ2 j):
  @Inv DC noF (B1++B2.map (Box.sh (fun j=>B1.length+j) (fun _=>0))) (jn B1.length ρ1 ρ2) w:=by
 letI:Glob:=DC
 generalize hB:B1++B2.map (Box.sh (fun j=>B1.length+j) (fun _=>0))=B
 have hlen:B.length=B1.length+B2.length:=by rw[←hB]; simp
 have hget1:∀ j,j<B1.length→B[j]? = B1[j]? := fun j hj=>by rw[←hB,List.getElem?_append_left hj]
 have hget2:∀ j,B[B1.length+j]? = (B2[j]?).map (Box.sh (fun j=>B1.length+j) (fun _=>0)):=fun j=>by
  rw[←hB,List.getElem?_append_right (by omega),List.getElem?_map,show B1.length+j - B1.length=j by omega]
 have hρ1:∀ j,j<B1.length→jn B1.length ρ1 ρ2 j=ρ1 j:=fun j hj=>by simp[jn,hj]
 have hρ2:∀ j,jn B1.length ρ1 ρ2 (B1.length+j)=ρ2 j:=fun j=>by
  show (if B1.length+j<B1.length then _ else ρ2 (B1.length+j - B1.length))=_
  rw[if_neg (by omega),show B1.length+j - B1.length=j by omega]
 have v1:∀ {x:AV} {u:Value},VRel noF B1 ρ1 w x u→x.pl=true→x.low B1.length=true→VRel noF B (jn B1.length ρ1 ρ2) w x u:=fun {x u} hx a b=>by
  have:=hx.fwdP (F':=noF) (B':=B) (ρ':=jn B1.length ρ1 ρ2) (f:=fun j=>j) (d:=fun _=>0) (fun j hj=>by omega) hρ1 (fun j row v cs hj hc=>by rw[hget1 j hj] at hc; exact ⟨v,cs,hc,rfl,rfl⟩) (fun j cs Φ hj hc=>by rw[hget1 j hj] at hc; exact ⟨cs,Φ,hc⟩) a b
  rwa[k5 (n:=0)] at this
 have v2:∀ {x:AV} {u:Value},VRel noF B2 ρ2 w x u→x.pl=true→x.low B2.length=true→VRel noF B (jn B1.length ρ1 ρ2) w (x.rv (fun j=>B1.length+j) (fun _=>0)) u:=fun {x u} hx a b=>
  hx.fwdP (F':=noF) (B':=B) (ρ':=jn B1.length ρ1 ρ2) (f:=fun j=>B1.length+j) (d:=fun _=>0) (fun j hj=>by omega) (fun j _=>hρ2 j) (fun j row v cs hj hc=>by
   rw[hget2 j] at hc
   obtain ⟨y,e1,e2⟩:=Option.map_eq_some_iff.1 hc
   cases y <;> simp only[Box.sh,Box.cells.injEq,reduceCtorEq] at e2
   obtain ⟨rfl,rfl,rfl⟩:=e2
   exact ⟨_,_,e1,rfl,by rw[Cz,List.length_map]⟩) (fun j cs Φ hj hc=>by
   rw[hget2 j] at hc
   obtain ⟨y,e1,e2⟩:=Option.map_eq_some_iff.1 hc
   cases y <;> simp only[Box.sh,Box.obj.injEq,reduceCtorEq] at e2
   exact ⟨_,_,e1⟩) a b
 have two:∀ b,b<B1.length∨∃ j,b=B1.length+j:=fun b=>by
  rcases Nat.lt_or_ge b B1.length with h | h
  ·exact .inl h
  ·exact .inr ⟨b - B1.length,by omega⟩
 have own1:∀ {b x l k},B1[b]? = some x→ρ1 b=some l→x.has l k→Own noF B1 ρ1 k:=fun a b c=> .inr ⟨_,_,_,a,b,c⟩
 have own2:∀ {b x l k},B2[b]? = some x→ρ2 b=some l→x.has l k→Own noF B2 ρ2 k:=fun a b c=> .inr ⟨_,_,_,a,b,c⟩
 refine @Inv.mk DC noF B _ w (fun b row v cs hb=>?_) (fun b row v cs hb=>?_) (fun b cs Φ hb=>?_) (fun b b' x x' l l' k q1 q2 q3 q4 q5 q6=>?_) (fun k hk=>hk.elim) (fun _ _ _ _ _ _ _ h=>h) (fun g hg=>absurd rfl hg) (fun b v cs k o hb hr=>?_)
 ·rcases two b with hlt | ⟨j,rfl⟩
  ·rw[hget1 b hlt] at hb
   rw[hρ1 b hlt]
   have hpl:=p1 _ (List.mem_of_getElem? hb)
   rcases h1.box b row v cs hb with h0 | ⟨k,o,us,e,fr,g1,g2,g3,g4,g5⟩
   ·exact .inl h0
   ·exact .inr ⟨k,o,us,e,fr,g1,g2,g3,g4,fun i c hc=>by obtain ⟨u,e1,e2⟩:=g5 i c hc; exact ⟨u,e1,v1 e2 (DY hpl.1 i c hc) (Bw hpl.2 i c hc)⟩⟩
  ·rw[hget2 j] at hb
   obtain ⟨y,e1,e2⟩:=Option.map_eq_some_iff.1 hb
   cases y <;> simp only[Box.sh,Box.cells.injEq,reduceCtorEq] at e2
   obtain ⟨rfl,rfl,rfl⟩:=e2
   rw[hρ2 j,Cz]
   have hpl:=p2 _ (List.mem_of_getElem? e1)
   rcases h2.box _ _ _ _ e1 with ⟨a1,a2,a3⟩ | ⟨k,o,us,e,fr,g1,g2,g3,g4,g5⟩
   ·exact .inl ⟨a1,a2,by rw[a3]; rfl⟩
   ·refine .inr ⟨k,o,us,e,fr,g1,g2,by rw[List.length_map]; exact g3,g4,fun i c hc=>?_⟩
    rw[List.getElem?_map] at hc
    obtain ⟨c0,f1,rfl⟩:=Option.map_eq_some_iff.1 hc
    obtain ⟨u,e1,e2⟩:=g5 i c0 f1
    exact ⟨u,e1,v2 e2 (DY hpl.1 i c0 f1) (Bw hpl.2 i c0 f1)⟩
 ·rcases two b with hlt | ⟨j,rfl⟩
  ·rw[hget1 b hlt] at hb
   exact h1.leaf _ _ _ _ hb
  ·rw[hget2 j] at hb
   obtain ⟨y,e1,e2⟩:=Option.map_eq_some_iff.1 hb
   cases y <;> simp only[Box.sh,Box.cells.injEq,reduceCtorEq] at e2
   obtain ⟨rfl,rfl,rfl⟩:=e2
   have:=h2.leaf _ _ _ _ e1
   rw[List.all_eq_true] at this ⊢
   intro c hc
   rw[Cz] at hc
   obtain ⟨c0,hc0,rfl⟩:=List.mem_map.1 hc
   rw[OX]
   exact this c0 hc0
 ·rcases two b with hlt | ⟨j,rfl⟩
  ·rw[hget1 b hlt] at hb
   rw[hρ1 b hlt]
   have hpl:=p1 _ (List.mem_of_getElem? hb)
   obtain ⟨k,o,us,g1,g2,g3,g4⟩:=h1.obox b cs Φ hb
   exact ⟨k,o,us,g1,g2,g3,fun i c u hc hu=>v1 (g4 i c u hc hu) (DY hpl.1 i c hc) (Bw hpl.2 i c hc)⟩
  ·rw[hget2 j] at hb
   obtain ⟨y,e1,e2⟩:=Option.map_eq_some_iff.1 hb
   cases y <;> simp only[Box.sh,Box.obj.injEq,reduceCtorEq] at e2
   obtain ⟨rfl,rfl⟩:=e2
   rw[hρ2 j,Cz]
   have hpl:=p2 _ (List.mem_of_getElem? e1)
   obtain ⟨k,o,us,g1,g2,g3,g4⟩:=h2.obox _ _ _ e1
   refine ⟨k,o,us,g1,g2,by rw[List.length_map]; exact g3,fun i c u hc hu=>?_⟩
   rw[List.getElem?_map] at hc
   obtain ⟨c0,f1,rfl⟩:=Option.map_eq_some_iff.1 hc
   exact v2 (g4 i c0 u f1 hu) (DY hpl.1 i c0 f1) (Bw hpl.2 i c0 f1)
 ·rcases two b with hlt | ⟨j,rfl⟩ <;> rcases two b' with hlt' | ⟨j',rfl⟩
  ·rw[hget1 b hlt] at q1; rw[hget1 b' hlt'] at q2; rw[hρ1 b hlt] at q3; rw[hρ1 b' hlt'] at q4
   exact h1.injx _ _ _ _ _ _ k q1 q2 q3 q4 q5 q6
  ·rw[hget1 b hlt] at q1; rw[hget2 j'] at q2; rw[hρ1 b hlt] at q3; rw[hρ2 j'] at q4
   obtain ⟨y,e1,rfl⟩:=Option.map_eq_some_iff.1 q2
   exact (hd k (own1 q1 q3 q5) (own2 e1 q4 (LN.1 q6))).elim
  ·rw[hget2 j] at q1; rw[hget1 b' hlt'] at q2; rw[hρ2 j] at q3; rw[hρ1 b' hlt'] at q4
   obtain ⟨y,e1,rfl⟩:=Option.map_eq_some_iff.1 q1
   exact (hd k (own1 q2 q4 q6) (own2 e1 q3 (LN.1 q5))).elim
  ·rw[hget2 j] at q1; rw[hget2 j'] at q2; rw[hρ2 j] at q3; rw[hρ2 j'] at q4
   obtain ⟨y,e1,rfl⟩:=Option.map_eq_some_iff.1 q1
   obtain ⟨y',e1',rfl⟩:=Option.map_eq_some_iff.1 q2
   rw[h2.injx _ _ _ _ _ _ k e1 e1' q3 q4 (LN.1 q5) (LN.1 q6)]
 ·rcases two b with hlt | ⟨j,rfl⟩
  ·rw[hget1 b hlt] at hb; rw[hρ1 b hlt] at hr
   exact h1.off0 _ _ _ _ _ hb hr
  ·rw[hget2 j] at hb; rw[hρ2 j] at hr
   obtain ⟨y,e1,e2⟩:=Option.map_eq_some_iff.1 hb
   cases y <;> simp only[Box.sh,Box.cells.injEq,reduceCtorEq] at e2
   obtain ⟨rfl,rfl,rfl⟩:=e2
   exact h2.off0 _ _ _ _ _ e1 hr

section
variable [Glob] {F : Nat → Prop}

theorem Inv.reobj {B:List Box} {ρ:Aj} {w:World} (hI:Inv F B ρ w) {b:Nat} {cs cs':List AV} {Φ Φ':ObjP} (hb:B[b]? = some (.obj cs Φ))
  (h:∀ k o us,ρ b=some (k,o)→Φ.holds us (fun j=>o.testBit j=true) k w→cs.length=us.length→(∀ (i:Nat) (c:AV) (u:Value),cs[i]? = some c→us[i]? = some u→VRel F B ρ w c u) →
   ∃ us',Φ'.holds us' (fun j=>o.testBit j=true) k w∧cs'.length=us'.length∧∀ (i:Nat) (c:AV) (u:Value),cs'[i]? = some c→us'[i]? = some u→VRel F B ρ w c u):
  Inv F (B.set b (.obj cs' Φ')) ρ w∧(∀ k,Own F (B.set b (.obj cs' Φ')) ρ k↔Own F B ρ k)∧Ext F B ρ w (B.set b (.obj cs' Φ')) ρ w:=by
 have hlt:b<B.length:=(List.getElem?_eq_some_iff.1 hb).1
 have hown:∀ k,Own F (B.set b (.obj cs' Φ')) ρ k↔Own F B ρ k:=by
  intro k
  constructor
  ·rintro (h | ⟨c,x,l,p1,p2,p3⟩)
   ·exact .inl h
   ·rw[List.getElem?_set] at p1
    split at p1
    ·rename_i e
     subst e
     simp[hlt] at p1
     subst p1
     exact .inr ⟨b,_,l,hb,p2,p3⟩
    ·exact .inr ⟨c,x,l,p1,p2,p3⟩
  ·rintro (h | ⟨c,x,l,p1,p2,p3⟩)
   ·exact .inl h
   ·by_cases e:b=c
    ·subst e
     rw[hb] at p1; cases p1
     exact .inr ⟨b, .obj cs' Φ',l,by rw[List.getElem?_set]; simp[hlt],p2,p3⟩
    ·exact .inr ⟨c,x,l,by rw[List.getElem?_set,if_neg e]; exact p1,p2,p3⟩
 have hE:Ext F B ρ w (B.set b (.obj cs' Φ')) ρ w:=by
  refine ⟨Nat.le_refl _,rfl,rfl,rfl,fun j hj ho=>⟨rfl,fun h=>ho ((hown j).1 h)⟩,fun _ _ _ h=>h,by simp,fun c row v cs2 hc h=>?_,fun c cs2 Φ2 hc h=>?_,fun _ _ _=>rfl⟩
  ·rw[List.getElem?_set] at h
   split at h
   ·rename_i e; subst e; simp[hlt] at h
   ·exact ⟨v,cs2,h,Nat.le_refl _,fun _=>⟨rfl,rfl⟩⟩
  ·rw[List.getElem?_set] at h
   split at h
   ·rename_i e; subst e; exact ⟨cs,Φ,hb,rfl⟩
   ·exact ⟨cs2,Φ2,h,rfl⟩
 refine ⟨hI.otherx hb hE (fun _ _=>rfl) (fun _ _ _ _ _ _ _ _=>rfl) (fun c x l l' j hne hc hl hx hl' hx'=>hne (hI.injx _ _ _ _ _ _ j hc hb hl hl' hx hx')) (fun l j hl hx=>hI.farx _ _ _ j hb hl hx) (fun _ _ _ e=>by cases e) (fun _ _ _ _ e=>by cases e) (fun cs2 Φ2 e=>?_),hown,hE⟩
 cases e
 obtain ⟨k,o,us,g1,g2,g3,g4⟩:=hI.obox b cs Φ hb
 obtain ⟨us',q1,q2,q3⟩:=h k o us g1 g2 g3 g4
 exact ⟨k,o,us',g1,q1,q2,fun i c u hc hu=>(q3 i c u hc hu).ext hE⟩

end

open Classical in
noncomputable def DK (S:Nat→Prop):Nat→Nat
 | 0=>0
 | n+1=>if S n then DK S n ||| 2 ^ n else DK S n

theorem Iz (S:Nat→Prop):∀ (n j:Nat),(DK S n).testBit j=true↔S j∧j<n
 | 0,j=>by simp[DK]
 | n+1,j=>by
  unfold DK
  split
  ·rename_i h
   rw[Nat.testBit_or,Bool.or_eq_true,Iz S n j,Nat.testBit_two_pow,decide_eq_true_eq]
   constructor
   ·rintro (⟨a,b⟩ | rfl)
    ·exact ⟨a,by omega⟩
    ·exact ⟨h,by omega⟩
   ·rintro ⟨a,b⟩
    by_cases e:n=j
    ·exact .inr e
    ·exact .inl ⟨a,by omega⟩
  ·rename_i h
   rw[Iz S n j]
   constructor
   ·rintro ⟨a,b⟩; exact ⟨a,by omega⟩
   ·rintro ⟨a,b⟩
    refine ⟨a,?_⟩
    rcases Nat.lt_or_ge j n with h' | h'
    ·exact h'
    ·exact absurd ((show j=n by omega)▸a) h


structure Fil where
 name:ByteArray
 b:List UInt8
 sure:Int

structure Dsk where
 room:Int
 used:Int
 files:List Fil
 down:Bool
 fuse:Int

abbrev DQ (D:Dsk):Box:= .cells false 0 [vi D.room,vi D.used, .mp 1,vb D.down,vi D.fuse]
abbrev GV (v:Nat) (b:List UInt8):Box:= .cells true v (rowC (b.map AA.f))
abbrev Oa (r v:Nat) (x:Fil):Box:= .cells false 0 [.rs r v 1 0 x.b.length,vi x.sure]
abbrev G0 (x:Fil):List Box:= [Oa 1 0 x,GV 0 x.b]
abbrev G1 (k:Nat):Value:= .pointer (some ⟨k,0,none⟩)

def packH (Bs:List Box) (S:Nat→Prop) (k:Nat) (w:World):Prop:=∃ ρ:Aj,@Inv DC noF Bs ρ w∧ρ 0=some (k,0)∧∀ j,S j↔Own noF Bs ρ j

theorem Inv.frameP {B:List Box} {ρ:Aj} {w w':World} (h:@Inv DC noF B ρ w) (hp:Pp B.length B) (hh:∀ j,Own noF B ρ j→w'.heap[j]? = w.heap[j]?):@Inv DC noF B ρ w':=by
 letI:Glob:=DC
 have hv:∀ {x:AV} {u:Value},VRel noF B ρ w x u→x.pl=true→VRel noF B ρ w' x u:=fun {x u} hx=>by
  induction hx with
  | u x=>intro _; exact .u x
  | p x y hp=>
   intro hp'
   cases x with
   | v z=>cases hp; exact .p _ _ (.v _)
   | ls xs=>cases hp'
   | agg cs=>cases hp'
  | mp b r hp=>intro _; exact .mp b r hp
  | op b r hp=>intro _; exact .op b r hp
  | ptr b ver o a hp=>intro _; exact .ptr b ver o a hp
  | rs b ver sz off len a cap hp=>
   intro _
   refine .rs b ver sz off len a cap ⟨hp.1,hp.2.1,hp.2.2.1,fun row v cs hb=>?_⟩
   obtain ⟨q1,q2⟩:=hp.2.2.2 row v cs hb
   refine ⟨q1,fun e=>?_⟩
   obtain ⟨q3,q4⟩:=q2 e
   refine ⟨q3,q4.imp id ?_⟩
   rintro ⟨k,o',hr,ha,e',n,hsh,hle⟩
   refine ⟨k,o',hr,ha,e',n,?_,hle⟩
   unfold World.shape? at hsh ⊢
   rw[hh k (.cells hb hr)]
   exact hsh
  | rp cs a us h1 h2 h3 h4 h5 h6=>intro h; cases h
  | agg cs us h1 _ ih=>intro h; cases h
  | fn g cs us h1 _ ih=>intro h; cases h
  | tup cs us h1 _ ih=>intro hp; exact .tup cs us h1 (fun j p u h2 h3=>ih j p u h2 h3 (DY (by simpa [AV.pl] using hp) j p h2))
 refine @Inv.mk DC noF B ρ w' (fun b row v cs hb=>?_) h.leaf (fun b cs Φ hb=>?_) h.injx (fun k hk=>hk.elim) (fun _ _ _ _ _ _ _ h=>h) (fun g hg=>absurd rfl hg) h.off0
 ·have hpl:=hp _ (List.mem_of_getElem? hb)
  rcases h.box b row v cs hb with h0 | ⟨k,o,us,e,fr,g1,g2,g3,g4,g5⟩
  ·exact .inl h0
  ·exact .inr ⟨k,o,us,e,fr,g1,(hh k (.cells hb g1)).trans g2,g3,g4,fun i c hc=>by obtain ⟨u,e1,e2⟩:=g5 i c hc; exact ⟨u,e1,hv e2 (DY hpl.1 i c hc)⟩⟩
 ·have hpl:=hp _ (List.mem_of_getElem? hb)
  obtain ⟨k,o,us,g1,g2,g3,g4⟩:=h.obox b cs Φ hb
  exact ⟨k,o,us,g1,Φ.frame _ _ _ _ _ g2 (fun j hj=>hh j (.inr ⟨b,_,_,hb,g1,hj⟩)),g3,fun i c u hc hu=>hv (g4 i c u hc hu) (DY hpl.1 i c hc)⟩

theorem Ew {B:List Box} {ρ:Aj} {k:Nat}:Own noF B ρ k↔∃ b x l,B[b]? = some x∧ρ b=some l∧x.has l k:=⟨fun h=>h.elim (fun h=>h.elim) id, .inr⟩

theorem packH.frame {Bs:List Box} {S:Nat→Prop} {k:Nat} {w w':World} (h:packH Bs S k w) (hp:Pp Bs.length Bs) (hh:∀ j,S j→w'.heap[j]? = w.heap[j]?):packH Bs S k w':=by
 obtain ⟨ρ,h1,h2,h3⟩:=h
 exact ⟨ρ,h1.frameP hp (fun j hj=>hh j ((h3 j).2 hj)),h2,h3⟩

theorem ST (xs:List UInt8):AV.pl.allPl (rowC (xs.map AA.f))=true:=by
 induction xs with
 | nil=>rfl
 | cons x xs ih=>exact ih

theorem QI (x:Fil):Pp (G0 x).length (G0 x):=by
 intro y hy
 rcases List.mem_cons.1 hy with rfl | hy
 ·exact ⟨rfl,rfl⟩
 ·rcases List.mem_cons.1 hy with rfl | hy
  ·exact ⟨ST _,@Ge DC _ _⟩
  ·cases hy

abbrev MH:=List (Fil×Nat×(Nat→Prop))
abbrev CF (x:Fil×Nat×(Nat→Prop)):Value×Value:=(.string x.1.name,G1 x.2.1)

structure DiskAt (D:Dsk) (S:Nat→Prop) (k:Nat) (w:World) (L:MH) (ρ:Aj):Prop where
 perm:(L.map (·.1)).Perm D.files
 head:@Inv DC noF [DQ D, .obj [] (AQ [] (L.map CF))] ρ w
 root:ρ 0=some (k,0)
 packs:∀ x∈L,packH (G0 x.1) x.2.2 x.2.1 w
 apart:L.Pairwise fun x y=>∀ j,x.2.2 j→¬y.2.2 j
 away:∀ x∈L,∀ j,x.2.2 j→¬Own noF [DQ D, .obj [] (AQ [] (L.map CF))] ρ j
 foot:∀ j,S j↔(Own noF [DQ D, .obj [] (AQ [] (L.map CF))] ρ j∨∃ x∈L,x.2.2 j)

theorem l9 (D:Dsk) (hid:List (Value×Value)):Pp 2 [DQ D, .obj [] (AQ [] hid)]:=by
 intro y hy
 rcases List.mem_cons.1 hy with rfl | hy
 ·exact ⟨rfl,rfl⟩
 ·rcases List.mem_cons.1 hy with rfl | hy
  ·exact ⟨rfl,rfl⟩
  ·cases hy

theorem packH.low {Bs:List Box} {S:Nat→Prop} {k:Nat} {w:World} (h:packH Bs S k w) (j:Nat) (hj:S j):j<w.heap.size:=by
 obtain ⟨ρ,h1,h2,h3⟩:=h
 exact @Inv.ownlt DC _ _ _ _ h1 j ((h3 j).1 hj)

def AH (D:Dsk):ObjP where
 keys:=none
 holds:=fun us S k w=>us= []∧∃ L ρ,DiskAt D S k w L ρ
 frame:=fun us S k w w' ⟨h1,L,ρ,h⟩ hh=>⟨h1,L,ρ,h.perm,h.head.frameP (l9 _ _) (fun j hj=>hh j ((h.foot j).2 (.inl hj))),h.root,fun x hx=>(h.packs x hx).frame (QI _) (fun j hj=>hh j ((h.foot j).2 (.inr ⟨x,hx,hj⟩))),h.apart,h.away,h.foot⟩
 root:=fun us S k w ⟨h1,L,ρ,h⟩=>(h.foot k).2 (.inl (.inr ⟨0,_,_,rfl,h.root,rfl⟩))
 low:=fun us S k w j ⟨h1,L,ρ,h⟩ hj=>by
  rcases (h.foot j).1 hj with h0 | ⟨x,hx,h0⟩
  ·exact @Inv.ownlt DC _ _ _ _ h.head j h0
  ·exact (h.packs x hx).low j h0
 isMap:=fun q h=>by cases h

def GW:Nat→List Fil→List AV
 | _,[]=> []
 | n,_::X=> .ptr n 0 0::GW (n+2) X
def DZ:Nat→List Fil→List Box
 | _,[]=> []
 | n,x::X=>Oa (n+1) 0 x::GV 0 x.b::DZ (n+2) X
abbrev Ek (X:List Fil):List Value:=X.map fun x=> .string x.name
abbrev BA (D:Dsk) (X:List Fil) (hid:List (Value×Value)):List Box:=DQ D:: .obj (GW 2 X) (AQ (Ek X) hid)::DZ 2 X

theorem Pq (n:Nat) (X Y:List Fil):GW n (X++Y)=GW n X++GW (n+2*X.length) Y:=by
 induction X generalizing n with
 | nil=>rfl
 | cons x X ih=>simp[GW,ih,List.length_cons]; congr 1; omega
theorem UV (n:Nat) (X Y:List Fil):DZ n (X++Y)=DZ n X++DZ (n+2*X.length) Y:=by
 induction X generalizing n with
 | nil=>rfl
 | cons x X ih=>simp[DZ,ih,List.length_cons]; congr 1; omega
theorem M0 (n:Nat) (X:List Fil):(DZ n X).length=2*X.length:=by
 induction X generalizing n with
 | nil=>rfl
 | cons x X ih=>simp[DZ,ih]; omega
theorem mA (m:Nat) (X:List Fil):∀ n,n+2*X.length≤m→AV.pl.allPl (GW n X)=true∧AV.low.allLow m (GW n X)=true:=by
 induction X with
 | nil=>intro n _; exact ⟨rfl,rfl⟩
 | cons x X ih=>
  intro n h
  simp only[List.length_cons] at h
  obtain ⟨h1,h2⟩:=ih (n+2) (by omega)
  refine ⟨h1,?_⟩
  show (Nat.blt n m&&AV.low.allLow m (GW (n+2) X))=true
  rw[h2,Bool.and_true,Nat.blt_eq]
  omega

theorem dr (m:Nat) (X:List Fil):∀ n,n+2*X.length≤m→Pp m (DZ n X):=by
 induction X with
 | nil=>intro n _ y hy; cases hy
 | cons x X ih=>
  intro n h y hy
  simp only[List.length_cons] at h
  rcases List.mem_cons.1 hy with rfl | hy
  ·refine ⟨rfl,?_⟩
   show (Nat.blt (n+1) m&&(true&&true))=true
   simp[Nat.blt_eq]
   omega
  ·rcases List.mem_cons.1 hy with rfl | hy
   ·exact ⟨ST _,@Ge DC _ _⟩
   ·exact ih (n+2) (by omega) y hy

theorem Ob (D:Dsk) (X:List Fil) (hid:List (Value×Value)):Pp (2+2*X.length) (BA D X hid):=by
 intro y hy
 rcases List.mem_cons.1 hy with rfl | hy
 ·refine ⟨rfl,?_⟩
  show (true&&(true&&(Nat.blt 1 (2+2*X.length)&&(true&&(true&&true)))))=true
  simp[Nat.blt_eq]
  omega
 ·rcases List.mem_cons.1 hy with rfl | hy
  ·exact mA _ X 2 (by omega)
  ·exact dr _ X 2 (by omega) y hy

theorem C1 (D:Dsk) (X:List Fil) (hid:List (Value×Value)):(BA D X hid).length=2+2*X.length:=by
 simp[M0]; omega

theorem dt {D:Dsk} {X:List Fil} {hid:List (Value×Value)} {ρ:Aj} {w:World} {x:Fil} {k:Nat} {S:Nat→Prop} (h:@Inv DC noF (BA D X ((.string x.name,G1 k)::hid)) ρ w) (hx:packH (G0 x) S k w)
  (hd:∀ j,Own noF (BA D X ((.string x.name,G1 k)::hid)) ρ j→¬S j):
  ∃ ρ',@Inv DC noF (BA D (X++ [x]) hid) ρ' w∧(∀ j,Own noF (BA D (X++ [x]) hid) ρ' j↔(Own noF (BA D X ((.string x.name,G1 k)::hid)) ρ j∨S j))∧∀ b,b<2+2*X.length→ρ' b=ρ b:=by
 letI:Glob:=DC
 obtain ⟨ρ2,g1,g2,g3⟩:=hx
 have hl:=C1 D X ((.string x.name,G1 k)::hid)
 have hj:=Inv.join h g1 (by rw[hl]; exact Ob _ _ _) (QI x) (fun j a b=>hd j a ((g3 j).2 b))
 have hoj:=fun j=>QH (B1:=BA D X ((.string x.name,G1 k)::hid)) (B2:=G0 x) (ρ1:=ρ) (ρ2:=ρ2) (f:=fun j=>(BA D X ((.string x.name,G1 k)::hid)).length+j) (d:=fun _=>0) j
 rw[hl] at hj
 simp only[hl] at hoj
 have hsh:(G0 x).map (Box.sh (fun j=>2+2*X.length+j) (fun _=>0))=DZ (2+2*X.length) [x]:=by
  simp only[List.map_cons,List.map_nil,Box.sh,DZ,AV.rv.rvL,AV.rv]
  congr 1
  congr 1
  simp only[Cz]
  refine congrArg _ (List.ext_getElem? fun i=>?_)
  rw[List.getElem?_map]
  cases hc:(rowC (x.b.map AA.f))[i]? with
  | none=>rfl
  | some c=>simp only[Option.map_some]; rw[←(MD _ i c hc _ _ 0).1]
 rw[hsh] at hj hoj
 have hb:(BA D X ((.string x.name,G1 k)::hid)++DZ (2+2*X.length) [x])[1]? = some (.obj (GW 2 X) (AQ (Ek X) ((.string x.name,G1 k)::hid))):=rfl
 have hset:(BA D X ((.string x.name,G1 k)::hid)++DZ (2+2*X.length) [x]).set 1 (.obj (GW 2 (X++ [x])) (AQ (Ek (X++ [x])) hid))=BA D (X++ [x]) hid:=by
  simp only[List.cons_append,List.set_cons_succ,List.set_cons_zero]
  show _=DQ D::_::DZ 2 (X++ [x])
  rw[UV]
 have hfc:(BA D X ((.string x.name,G1 k)::hid)++DZ (2+2*X.length) [x])[2+2*X.length]? = some (Oa (2+2*X.length+1) 0 x):=by
  rw[List.getElem?_append_right (by rw[hl]; exact Nat.le_refl _),hl]; simp[DZ]
 have hρk:jn (2+2*X.length) ρ ρ2 (2+2*X.length)=some (k,0):=by
  show (if 2+2*X.length<2+2*X.length then _ else ρ2 (2+2*X.length - (2+2*X.length)))=_
  rw[if_neg (by omega),Nat.sub_self]; exact g2
 obtain ⟨r1,r2,_⟩:=@Inv.reobj DC noF _ _ _ hj 1 _ (GW 2 (X++ [x])) _ (AQ (Ek (X++ [x])) hid) hb (fun k0 o us hr hh hlen hv=>by
  obtain ⟨q1,es,clock,q2,q3,q4,q5⟩:=hh
  refine ⟨us++ [G1 k],⟨q1,es,clock,q2,q3,by simp[q4,Ek],?_⟩,by simp[Pq,GW,hlen],fun i c u hc hu=>?_⟩
  ·rw[Ek,List.map_append,List.zip_append (by simp at q4; simp[q4])]
   simp only[List.map_cons,List.map_nil,List.zip_cons_cons,List.zip_nil_right,List.append_assoc,List.singleton_append]
   exact q5
  ·rw[Pq,List.getElem?_append] at hc
   rw[List.getElem?_append] at hu
   split at hc
   ·rename_i hlt
    rw[if_pos (by omega)] at hu
    exact hv i c u hc hu
   ·rename_i hge
    rw[if_neg (by omega)] at hu
    cases hz:i - us.length with
    | zero=>
     rw[hz] at hu; cases hu
     rw[show i - (GW 2 X).length=0 by omega] at hc
     cases hc
     refine .ptr _ _ _ _ ⟨by rw[List.length_append,hl,M0]; simp,fun row v cs hb'=>?_⟩
     rw[hfc] at hb'
     cases hb'
     exact ⟨Nat.le_refl _,fun _=>⟨k,0,hρk,rfl⟩⟩
    | succ n=>rw[hz] at hu; simp at hu)
 rw[hset] at r1 r2
 refine ⟨_,r1,fun j=>(r2 j).trans ((hoj j).trans (or_congr Iff.rfl (g3 j).symm)),fun b hb'=>?_⟩
 simp[jn,hb']


theorem Vm {α β:Type} {f:α→β} {m m':List β} (h:m.Perm m'):∀ {l:List α},l.map f=m→∃ l',l.Perm l'∧l'.map f=m':=by
 induction h with
 | nil=>intro l e; exact ⟨l, .refl _,e⟩
 | cons x _ ih=>
  intro l e
  cases l with
  | nil=>cases e
  | cons a l=>
   simp only[List.map_cons,List.cons.injEq] at e
   obtain ⟨l',h1,h2⟩:=ih e.2
   exact ⟨a::l',h1.cons a,by simp[e.1,h2]⟩
 | swap x y r=>
  intro l e
  match l,e with
  | a::b::l,e=>
   simp only[List.map_cons,List.cons.injEq] at e
   exact ⟨b::a::l, .swap _ _ _,by simp[e]⟩
 | trans _ _ ih1 ih2=>
  intro l e
  obtain ⟨l1,h1,h2⟩:=ih1 e
  obtain ⟨l2,h3,h4⟩:=ih2 h2
  exact ⟨l2,h1.trans h3,h4⟩

theorem DiskAt.reorder {D:Dsk} {S:Nat→Prop} {k:Nat} {w:World} {L L':MH} {ρ:Aj} (h:DiskAt D S k w L ρ) (hp:L.Perm L'):DiskAt D S k w L' ρ:=by
 letI:Glob:=DC
 obtain ⟨r1,r2,_⟩:=@Inv.reobj DC noF _ _ _ h.head 1 _ [] _ (AQ [] (L'.map CF)) rfl (fun k0 o us hr hh hlen hv=>by
  obtain ⟨q1,es,clock,q2,q3,q4,q5⟩:=hh
  exact ⟨us,⟨q1,es,clock,q2,q3,q4,q5.trans ((hp.map _).append_left _)⟩,hlen,fun i c u hc=>by simp at hc⟩)
 exact ⟨(hp.symm.map _).trans h.perm,r1,h.root,fun x hx=>h.packs x (hp.symm.subset hx),(hp.pairwise_iff (fun {x y} h j a b=>h j b a)).1 h.apart,fun x hx j hj ho=>h.away x (hp.symm.subset hx) j hj ((r2 j).1 ho),
  fun j=>(h.foot j).trans (or_congr (r2 j).symm ⟨fun ⟨x,a,b⟩=>⟨x,hp.subset a,b⟩,fun ⟨x,a,b⟩=>⟨x,hp.symm.subset a,b⟩⟩)⟩

theorem Q3 {D:Dsk} {w:World} {hid:List (Value×Value)}:∀ (LX:MH) (X:List Fil) (ρ:Aj),@Inv DC noF (BA D X (LX.map CF++hid)) ρ w→(∀ x∈LX,packH (G0 x.1) x.2.2 x.2.1 w)→(LX.Pairwise fun x y=>∀ j,x.2.2 j→¬y.2.2 j) →
  (∀ x∈LX,∀ j,x.2.2 j→¬Own noF (BA D X (LX.map CF++hid)) ρ j) →
  ∃ ρ',@Inv DC noF (BA D (X++LX.map (·.1)) hid) ρ' w∧(∀ j,Own noF (BA D (X++LX.map (·.1)) hid) ρ' j↔(Own noF (BA D X (LX.map CF++hid)) ρ j∨∃ x∈LX,x.2.2 j))∧∀ b,b<2+2*X.length→ρ' b=ρ b
 | [],X,ρ,h,_,_,_=>⟨ρ,by simpa using h,fun j=>by simp,fun _ _=>rfl⟩
 | x::LX,X,ρ,h,hp,ha,hd=>by
  obtain ⟨ρ1,g1,g2,g3⟩:=dt (x:=x.1) (k:=x.2.1) (S:=x.2.2) (hid:=LX.map CF++hid) h (hp x (by simp)) (fun j a b=>hd x (by simp) j b a)
  rw[List.pairwise_cons] at ha
  obtain ⟨ρ',q1,q2,q3⟩:=Q3 LX (X++ [x.1]) ρ1 g1 (fun y hy=>hp y (by simp[hy])) ha.2 (fun y hy j hj ho=>by
   rcases (g2 j).1 ho with h0 | h0
   ·exact hd y (by simp[hy]) j hj h0
   ·exact ha.1 y hy j h0 hj)
  have e:X++ [x.1]++LX.map (·.1)=X++(x::LX).map (·.1):=by simp
  rw[e] at q1 q2
  refine ⟨ρ',q1,fun j=>(q2 j).trans ?_,fun b hb=>(q3 b (by simp; omega)).trans (g3 b hb)⟩
  constructor
  ·rintro (h0 | ⟨y,hy,h0⟩)
   ·rcases (g2 j).1 h0 with h1 | h1
    ·exact .inl h1
    ·exact .inr ⟨x,by simp,h1⟩
   ·exact .inr ⟨y,by simp[hy],h0⟩
  ·rintro (h0 | ⟨y,hy,h0⟩)
   ·exact .inl ((g2 j).2 (.inl h0))
   ·rcases List.mem_cons.1 hy with rfl | hy
    ·exact .inl ((g2 j).2 (.inr h0))
    ·exact .inr ⟨y,hy,h0⟩

abbrev By (Bx:List (Nat×List UInt8)):List Box:=Bx.map fun q=>GV q.1 q.2

theorem Fh {Bx:List (Nat×List UInt8)} {j:Nat} {x:Box} (h:(By Bx)[j]? = some x):∃ q,Bx[j]? = some q∧x=GV q.1 q.2:=by
 rw[List.getElem?_map] at h
 obtain ⟨q,h1,h2⟩:=Option.map_eq_some_iff.1 h
 exact ⟨q,h1,h2.symm⟩

theorem MI (m:Nat) (Bx:List (Nat×List UInt8)):Pp m (By Bx):=by
 intro y hy
 obtain ⟨q,_,rfl⟩:=List.mem_map.1 hy
 exact ⟨ST _,@Ge DC _ _⟩

theorem MJ (xs:List PV) (f d:Nat→Nat):AV.rv.rvL f d (rowC xs)=rowC xs:=by
 letI:Glob:=DC
 rw[Cz]
 refine List.ext_getElem? fun i=>?_
 rw[List.getElem?_map]
 cases hc:(rowC xs)[i]? with
 | none=>rfl
 | some c=>simp only[Option.map_some]; rw[←(MD _ i c hc f d 0).1]

theorem MK (Bx:List (Nat×List UInt8)) (f d:Nat→Nat):(By Bx).map (Box.sh f d)=By Bx:=by
 rw[By,List.map_map]
 refine List.map_congr_left fun q _=>?_
 simp only[Function.comp,Box.sh,MJ]

theorem Inv.pick {F:Nat→Prop} [Glob] {B B':List Box} {ρ:Aj} {w:World} {f d:Nat→Nat} (h:Inv F B ρ w) (hlt:∀ j,j<B'.length→f j<B.length) (hinj:∀ i j,i<B'.length→j<B'.length→f i=f j→i=j)
  (hget:∀ j x,B'[j]? = some x→(∃ row v cs cs',x= .cells row v cs'∧B[f j]? = some (.cells row (v+d j) cs)∧cs=AV.rv.rvL f d cs'∧AV.low.allLow B'.length cs'=true)∨∃ cs cs' Φ,x= .obj cs' Φ∧B[f j]? = some (.obj cs Φ)∧cs=AV.rv.rvL f d cs'∧AV.low.allLow B'.length cs'=true):
  Inv F B' (fun j=>ρ (f j)) w∧∀ k,Own F B' (fun j=>ρ (f j)) k→Own F B ρ k:=by
 have parts:∀ {cs cs':List AV},cs=AV.rv.rvL f d cs'→AV.low.allLow B'.length cs'=true→cs.length=cs'.length∧∀ (i:Nat) (c c':AV),cs[i]? = some c→cs'[i]? = some c'→c=c'.rv f d∧c'.low B'.length=true:=by
  intro cs cs' e hl
  subst e
  rw[Cz]
  refine ⟨by simp,fun i c c' hc hc'=>?_⟩
  rw[List.getElem?_map,hc'] at hc
  cases hc
  exact ⟨rfl,Bw hl i c' hc'⟩
 have hw:Wk ⟨fun _=> .u,B⟩ ⟨fun _=> .u,B'⟩ f d:=by
  refine ⟨fun _=> .inl rfl,hlt,fun j row v cs' hj=>?_,hinj,fun j cs' Φ hj=>?_⟩
  ·rcases hget j _ hj with ⟨row1,v1,cs,cs1,e,h1,h2,h3⟩ | ⟨cs,cs1,Φ,e,_⟩
   ·cases e
    exact ⟨cs,h1,parts h2 h3⟩
   ·cases e
  ·rcases hget j _ hj with ⟨row1,v1,cs,cs1,e,_⟩ | ⟨cs,cs1,Φ1,e,h1,h2,h3⟩
   ·cases e
   ·cases e
    exact ⟨cs,h1,parts h2 h3⟩
 exact ⟨hw.inv h,fun k hk=>hw.sub k hk⟩

structure Opened [Glob] (F:Nat→Prop) (ρ:Aj) (w:World) (D:Dsk) (X:List Fil) (Bx:List (Nat×List UInt8)) (k o:Nat) (LY:MH) (F':Nat→Prop) (ρ':Aj):Prop where
 at0:ρ 0=some (k,o)
 inv:Inv F' (BA D X (LY.map CF)++By Bx) ρ' w
 at0':ρ' 0=some (k,0)
 own:∀ j,Own F' (BA D X (LY.map CF)++By Bx) ρ' j↔Own F (.obj [] (AH D)::By Bx) ρ j
 rest:∀ b,b<Bx.length→ρ' (2+2*X.length+b)=ρ (1+b)
 far:∀ j,F' j↔(F j∨∃ y∈LY,y.2.2 j)
 packs:∀ y∈LY,packH (G0 y.1) y.2.2 y.2.1 w
 apart:LY.Pairwise fun x y=>∀ j,x.2.2 j→¬y.2.2 j
 farF:∀ y∈LY,∀ j,y.2.2 j→¬F j

theorem du [Glob] {F:Nat→Prop} {ρ:Aj} {w:World} {D:Dsk} {X Y:List Fil} {Bx:List (Nat×List UInt8)} (hI:Inv F (.obj [] (AH D)::By Bx) ρ w) (hXY:D.files.Perm (X++Y)):
  ∃ k o LY F' ρ',LY.map (·.1)=Y∧Opened F ρ w D X Bx k o LY F' ρ':=by
 obtain ⟨k,o,us,hr,⟨hus,L,ρh,hA⟩,_⟩:=hI.obox 0 [] (AH D) rfl
 obtain ⟨L',hp,hL'⟩:=Vm (hA.perm.trans hXY) rfl
 obtain ⟨LX,LY,rfl,hX,hY⟩:=List.map_eq_append_iff.1 hL'
 have hA:=hA.reorder hp
 rw[List.map_append] at *
 have hap:=List.pairwise_append.1 hA.apart
 obtain ⟨ρ1,g1,g2,g3⟩:=Q3 (D:=D) (w:=w) (hid:=LY.map CF) LX [] ρh (by have:=hA.head; rw[List.map_append] at this; exact this) (fun x hx=>hA.packs x (by simp[hx])) hap.1
  (fun x hx j hj ho=>hA.away x (by simp[hx]) j hj (by rw[List.map_append]; exact ho))
 simp only[List.nil_append,hX] at g1 g2
 have hS:∀ j,Own noF (BA D X (LY.map CF)) ρ1 j→o.testBit j=true:=fun j hj=>by
  rcases (g2 j).1 hj with h0 | ⟨x,hx,h0⟩
  ·exact (hA.foot j).2 (.inl (by rw[List.map_append]; exact h0))
  ·exact (hA.foot j).2 (.inr ⟨x,by simp[hx],h0⟩)
 -- the rows beside the disk
 obtain ⟨hR,hRo⟩:=hI.pick (B':=By Bx) (f:=fun j=>1+j) (d:=fun _=>0) (fun j hj=>by simp at hj ⊢; omega) (fun i j _ _ h=>by omega) (fun j x hx=>by
  obtain ⟨q,hq,rfl⟩:=Fh hx
  refine .inl ⟨true,q.1,_,_,rfl,?_,(MJ _ _ _).symm,Ge _ _⟩
  rw[show 1+j=j+1 by omega,List.getElem?_cons_succ,hx]; rfl)
 have hR:=hR.bare
 have hrow:∀ j,Own noF (By Bx) (fun j=>ρ (1+j)) j→∃ b x l,(By Bx)[b]? = some x∧ρ (1+b)=some l∧x.has l j:=fun j hj=>Ew.1 hj
 have hdis:∀ j,o.testBit j=true→¬Own noF (By Bx) (fun j=>ρ (1+j)) j:=fun j hj ho=>by
  obtain ⟨b,x,l,h1,h2,h3⟩:=hrow j ho
  have:=hI.injx 0 (1+b) (.obj [] (AH D)) x (k,o) l j rfl (by rw[show 1+b=b+1 by omega,List.getElem?_cons_succ]; exact h1) hr h2 hj h3
  omega
 have hl:=C1 D X (LY.map CF)
 have hj:=Inv.join g1 hR (by rw[hl]; exact Ob _ _ _) (MI _ _) (fun j a b=>hdis j (hS j a) b)
 have hoj:=fun j=>QH (B1:=BA D X (LY.map CF)) (B2:=By Bx) (ρ1:=ρ1) (ρ2:=fun j=>ρ (1+j)) (f:=fun j=>(BA D X (LY.map CF)).length+j) (d:=fun _=>0) j
 rw[MK,hl] at hj
 simp only[MK,hl] at hoj
 have hall:∀ j,((F j∨∃ y∈LY,y.2.2 j)∨Own noF (BA D X (LY.map CF)++By Bx) (jn (2+2*X.length) ρ1 fun j=>ρ (1+j)) j)↔Own F (.obj [] (AH D)::By Bx) ρ j:=fun j=>by
  constructor
  ·rintro ((h0 | ⟨y,hy,h0⟩) | h0)
   ·exact .inl h0
   ·exact .inr ⟨0,_,_,rfl,hr,(hA.foot j).2 (.inr ⟨y,by simp[hy],h0⟩)⟩
   ·rcases (hoj j).1 h0 with h1 | h1
    ·exact .inr ⟨0,_,_,rfl,hr,hS j h1⟩
    ·obtain ⟨b,x,l,q1,q2,q3⟩:=hrow j h1
     exact .inr ⟨b+1,x,l,q1,by rw[show b+1=1+b by omega]; exact q2,q3⟩
  ·rintro (h0 | ⟨b,x,l,q1,q2,q3⟩)
   ·exact .inl (.inl h0)
   ·cases b with
    | zero=>
     cases q1
     rw[hr] at q2; cases q2
     rcases (hA.foot j).1 q3 with h1 | ⟨y,hy,h1⟩
     ·exact .inr ((hoj j).2 (.inl ((g2 j).2 (.inl (by rw[List.map_append] at h1; exact h1)))))
     ·rcases List.mem_append.1 hy with hy | hy
      ·exact .inr ((hoj j).2 (.inl ((g2 j).2 (.inr ⟨y,hy,h1⟩))))
      ·exact .inl (.inr ⟨y,hy,h1⟩)
    | succ b=>
     exact .inr ((hoj j).2 (.inr (.inr ⟨b,x,l,q1,by show ρ (1+b)=_; rw[show 1+b=b+1 by omega]; exact q2,q3⟩)))
 have hown:∀ j,Own (fun j=>F j∨∃ y∈LY,y.2.2 j) (BA D X (LY.map CF)++By Bx) (jn (2+2*X.length) ρ1 fun j=>ρ (1+j)) j↔Own F (.obj [] (AH D)::By Bx) ρ j:=fun j=>by
  refine Iff.trans ?_ (hall j)
  constructor
  ·rintro (h0 | h0)
   ·exact .inl h0
   ·exact .inr (.inr h0)
  ·rintro (h0 | h0)
   ·exact .inl h0
   ·exact .inr (Ew.1 h0)
 have hlen2:(BA D X (LY.map CF)++By Bx).length=2+2*X.length+Bx.length:=by rw[List.length_append,hl]; simp
 refine ⟨k,o,LY,fun j=>F j∨∃ y∈LY,y.2.2 j,_,hY,hr,Inv.raise hj ?_ (fun j hF ho=>?_) (fun j hF=>?_) (fun g hg=>?_),?_,hown,fun b hb=>?_,fun j=>Iff.rfl,fun y hy=>hA.packs y (by simp[hy]),hap.2.1,fun y hy j hj hF=>hI.farx 0 _ _ j rfl hr ((hA.foot j).2 (.inr ⟨y,by simp[hy],hj⟩)) hF⟩
 ·rw[hlen2]
  intro y hy
  rcases List.mem_append.1 hy with hy | hy
  ·have:=Ob D X (LY.map CF) y hy
   refine ⟨this.1,?_⟩
   have hmono:∀ (cs:List AV) (m m':Nat),m≤m'→AV.pl.allPl cs=true→AV.low.allLow m cs=true→cs.all AV.leaf=true→AV.low.allLow m' cs=true:=by
    intro cs m m' hm
    induction cs with
    | nil=>intro _ _ _; rfl
    | cons c cs ih=>
     intro h1 h2 h3
     simp only[AV.pl.allPl,AV.low.allLow,List.all_cons,Bool.and_eq_true] at h1 h2 h3 ⊢
     refine ⟨?_,ih h1.2 h2.2 h3.2⟩
     have h2':=h2.1
     cases c <;> simp only[AV.low,Nat.blt_eq] at h2' ⊢ <;> first | omega | (exact absurd (show false=true from h3.1) (by decide)) | (exact absurd (show false=true from h1.1) (by decide)) | skip
   have hleaf:y.cs.all AV.leaf=true:=by
    rcases List.mem_cons.1 hy with rfl | hy
    ·rfl
    ·rcases List.mem_cons.1 hy with rfl | hy
     ·have:∀ (X:List Fil) n,(GW n X).all AV.leaf=true:=by
       intro X
       induction X with
       | nil=>intro n; rfl
       | cons x X ih=>intro n; exact ih (n+2)
      exact this X 2
     ·have:∀ (X:List Fil) n,∀ y∈DZ n X,y.cs.all AV.leaf=true:=by
       intro X
       induction X with
       | nil=>intro n y hy; cases hy
       | cons x X ih=>
        intro n y hy
        rcases List.mem_cons.1 hy with rfl | hy
        ·rfl
        ·rcases List.mem_cons.1 hy with rfl | hy
         ·show (rowC (x.b.map AA.f)).all AV.leaf=true
          exact AA.elt.rowLeaf x.b
         ·exact ih (n+2) y hy
      exact this X 2 y hy
   exact hmono _ _ _ (by omega) this.1 this.2 hleaf
  ·exact MI _ _ y hy
 ·rcases hF with h0 | ⟨y,hy,h0⟩
  ·rcases (hoj j).1 ho with h1 | h1
   ·exact hI.farx 0 _ _ j rfl hr (hS j h1) h0
   ·obtain ⟨b,x,l,q1,q2,q3⟩:=hrow j h1
    exact hI.farx (b+1) x l j q1 (by rw[show b+1=1+b by omega]; exact q2) q3 h0
  ·rcases (hoj j).1 ho with h1 | h1
   ·rcases (g2 j).1 h1 with h2 | ⟨x,hx,h2⟩
    ·exact hA.away y (by simp[hy]) j h0 (by rw[List.map_append]; exact h2)
    ·exact hap.2.2 x hx y hy j h2 h0
   ·exact hdis j ((hA.foot j).2 (.inr ⟨y,by simp[hy],h0⟩)) h1
 ·rcases hF with h0 | ⟨y,hy,h0⟩
  ·exact hI.bound j h0
  ·exact (hA.packs y (by simp[hy])).low j h0
 ·refine ⟨?_,(hI.glob g hg).sz⟩
  cases (hI.glob g hg).v with
  | rp cs a us h1 h2 h3 h4 h5 h6=>
   exact .rp _ _ us h1 (fun h=>h2 ((hown _).1 h)) h3 h4 h5 (fun j p u hp hu=>(h6 j p u hp hu).mono (fun k _ ho=>⟨rfl,fun h=>ho ((hown _).1 h)⟩) (Nat.le_refl _))
 ·show (if 0<2+2*X.length then ρ1 0 else _)=_
  rw[if_pos (by omega),g3 0 (by simp)]
  exact hA.root
 ·show (if 2+2*X.length+b<2+2*X.length then _ else ρ (1+(2+2*X.length+b - (2+2*X.length))))=_
  rw[if_neg (by omega)]
  congr 1
  omega

end Go.Ax
