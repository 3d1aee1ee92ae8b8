/- What code comes to, as a triple: whatever is said of its end holds. To forget, to name boxes and versions anew. -/
import Derived.Test.YtddkloofiknjdaaDoorG4
set_option linter.unusedVariables false
set_option linter.unusedSimpArgs false
set_option linter.unusedSectionVars false
namespace Go.Ax
open Go.RowKit

variable [Glob] {P : Program} {F : Nat → Prop}

def AV.rv (f d:Nat→Nat):AV→AV
 | .ptr b v o=> .ptr (f b) (v+d b) o
 | .rs b v z o l=> .rs (f b) (v+d b) z o l
 | .agg cs=> .agg (rvL f d cs)
 | .fn g cs=> .fn g (rvL f d cs)
 | .tup cs=> .tup (rvL f d cs)
 | .u=> .u
 | .p x=> .p x
 | .rp cs=> .rp cs
 | .mp b=> .mp (f b)
 | .op b=> .op (f b)
 where
 rvL (f d:Nat→Nat):List AV→List AV
  | []=> []
  | c::cs=>c.rv f d::rvL f d cs

theorem Cz (f d:Nat→Nat) (cs:List AV):AV.rv.rvL f d cs=cs.map (AV.rv f d):=by
 induction cs with
 | nil=>rfl
 | cons c cs ih=>simp[AV.rv.rvL,ih]

theorem OX (f d:Nat→Nat) (x:AV):(x.rv f d).leaf=x.leaf:=by cases x <;> rfl

theorem VRel.rv {B B':List Box} {ρ:Aj} {w:World} {f d:Nat→Nat} (hB:∀ j row v cs,B'[j]? = some (.cells row v cs)→∃ cs0:List AV,B[f j]? = some (.cells row (v+d j) cs0)∧cs0.length=cs.length)
  (hX:∀ j cs Φ,B'[j]? = some (.obj cs Φ)→∃ cs0,B[f j]? = some (.obj cs0 Φ))
  (hO:∀ k,Own F B' (fun j=>ρ (f j)) k→Own F B ρ k) {x:AV} {u:Value} (h:VRel F B ρ w x u):∀ {y:AV},x=y.rv f d→y.low B'.length=true→VRel F B' (fun j=>ρ (f j)) w y u:=by
 have hP:∀ (p:PV) (u:Value),PRel (Own F B ρ) w p u→PRel (Own F B' (fun j=>ρ (f j))) w p u:=fun p u hp=>hp.mono (fun k _ ho=>⟨rfl,fun h=>ho (hO k h)⟩) (Nat.le_refl _)
 have parts:∀ {cs:List AV} {us:List Value} {ds:List AV},cs.length=us.length→(∀ (j:Nat) (p:AV) (u:Value),cs[j]? = some p→us[j]? = some u→∀ {y:AV},p=y.rv f d→y.low B'.length=true→VRel F B' (fun j=>ρ (f j)) w y u) →
   cs=AV.rv.rvL f d ds→AV.low.allLow B'.length ds=true→ds.length=us.length∧∀ (j:Nat) (p:AV) (u:Value),ds[j]? = some p→us[j]? = some u→VRel F B' (fun j=>ρ (f j)) w p u:=by
  intro cs us ds h1 ih e hl
  rw[Cz] at e
  subst e
  refine ⟨by simpa using h1,fun j p u hp hu=>ih j (p.rv f d) u (by rw[List.getElem?_map,hp]; rfl) hu rfl (Bw hl j p hp)⟩
 induction h with
 | u x=>intro y e hl; cases y <;> simp[AV.rv] at e; exact .u x
 | p x y hp=>intro z e hl; cases z <;> simp[AV.rv] at e; subst e; exact .p _ y (hP _ _ hp)
 | mp b r hp=>
  intro y e hl
  cases y <;> simp[AV.rv] at e
  subst e
  refine .mp _ _ ⟨by simpa [AV.low,Nat.blt_eq] using hl,fun cs Φ hc=>?_⟩
  obtain ⟨cs0,g1⟩:=hX _ _ _ hc
  exact hp.2 cs0 Φ g1
 | op b r hp=>
  intro y e hl
  cases y <;> simp[AV.rv] at e
  subst e
  refine .op _ _ ⟨by simpa [AV.low,Nat.blt_eq] using hl,fun cs Φ hc=>?_⟩
  obtain ⟨cs0,g1⟩:=hX _ _ _ hc
  exact hp.2 cs0 Φ g1
 | ptr b ver o a hp=>
  intro y e hl
  cases y <;> simp[AV.rv] at e
  obtain ⟨rfl,rfl,rfl⟩:=e
  refine .ptr _ _ _ a ⟨by simpa [AV.low,Nat.blt_eq] using hl,fun row v cs hc=>?_⟩
  obtain ⟨cs0,g1,_⟩:=hB _ _ _ _ hc
  obtain ⟨q1,q2⟩:=hp.2 row _ cs0 g1
  exact ⟨by omega,fun e=>q2 (by omega)⟩
 | rs b ver sz off len a cap hp=>
  intro y e hl
  cases y <;> simp[AV.rv] at e
  obtain ⟨rfl,rfl,rfl,rfl,rfl⟩:=e
  refine .rs _ _ _ _ _ a cap ⟨by simpa [AV.low,Nat.blt_eq] using hl,hp.2.1,hp.2.2.1,fun row v cs hc=>?_⟩
  obtain ⟨cs0,g1,g2⟩:=hB _ _ _ _ hc
  rw[←g2]
  obtain ⟨q1,q2⟩:=hp.2.2.2 row _ cs0 g1
  exact ⟨by omega,fun e=>q2 (by omega)⟩
 | rp cs a us h1 h2 h3 h4 h5 h6=>
  intro y e hl
  cases y <;> simp[AV.rv] at e
  subst e
  exact .rp _ a us h1 (fun h=>h2 (hO _ h)) h3 h4 h5 (fun j p u hp hu=>hP _ _ (h6 j p u hp hu))
 | agg cs us h1 _ ih=>
  intro y e hl
  cases y <;> simp[AV.rv] at e
  obtain ⟨q1,q2⟩:=parts h1 ih e (by simpa [AV.low] using hl)
  exact .agg _ us q1 q2
 | fn g cs us h1 _ ih=>
  intro y e hl
  cases y <;> simp[AV.rv] at e
  obtain ⟨rfl,e⟩:=e
  obtain ⟨q1,q2⟩:=parts h1 ih e (by simpa [AV.low] using hl)
  exact .fn _ _ us q1 q2
 | tup cs us h1 _ ih=>
  intro y e hl
  cases y <;> simp[AV.rv] at e
  obtain ⟨q1,q2⟩:=parts h1 ih e (by simpa [AV.low] using hl)
  exact .tup _ us q1 q2

structure Wk (s s':AS) (f d:Nat→Nat):Prop where
 t:∀ i,s'.t i= .u∨(s.t i=(s'.t i).rv f d∧(s'.t i).low s'.B.length=true)
 lt:∀ j,j<s'.B.length→f j<s.B.length
 box:∀ (j:Nat) (row:Bool) (v:Nat) (cs':List AV),s'.B[j]? = some (.cells row v cs')→∃ cs:List AV,s.B[f j]? = some (.cells row (v+d j) cs)∧cs.length=cs'.length ∧
  ∀ (i:Nat) (c c':AV),cs[i]? = some c→cs'[i]? = some c'→c=c'.rv f d∧c'.low s'.B.length=true
 inj:∀ i j,i<s'.B.length→j<s'.B.length→f i=f j→i=j
 obj:∀ (j:Nat) (cs':List AV) (Φ:ObjP),s'.B[j]? = some (.obj cs' Φ)→∃ cs:List AV,s.B[f j]? = some (.obj cs Φ)∧cs.length=cs'.length ∧
  ∀ (i:Nat) (c c':AV),cs[i]? = some c→cs'[i]? = some c'→c=c'.rv f d∧c'.low s'.B.length=true

variable {s s' : AS} {f d : Nat → Nat}

theorem Wk.has (h:Wk s s' f d) {j:Nat} {x:Box} (hx:s'.B[j]? = some x) {l:Nat×Nat} {k:Nat} (hk:x.has l k):∃ x0,s.B[f j]? = some x0∧x0.has l k:=by
 cases x with
 | dead=>exact hk.elim
 | cells row v cs=>
  obtain ⟨cs0,g1,_⟩:=h.box _ _ _ _ hx
  exact ⟨_,g1,hk⟩
 | obj cs Φ=>
  obtain ⟨cs0,g1,_⟩:=h.obj _ _ _ hx
  exact ⟨_,g1,hk⟩

theorem Wk.sub (h:Wk s s' f d) {ρ:Aj} (k:Nat) (ho:Own F s'.B (fun j=>ρ (f j)) k):Own F s.B ρ k:=by
 rcases ho with h0 | ⟨b,x,l,h1,h2,h3⟩
 ·exact .inl h0
 ·obtain ⟨x0,g1,g2⟩:=h.has h1 h3
  exact .inr ⟨f b,x0,l,g1,h2,g2⟩

theorem Wk.cell (h:Wk s s' f d) {ρ:Aj} {w:World} {x y:AV} {u:Value} (hx:VRel F s.B ρ w x u) (hc:x=y.rv f d∧y.low s'.B.length=true):VRel F s'.B (fun j=>ρ (f j)) w y u:=
 hx.rv (fun j row v cs hj=>by
  obtain ⟨cs0,g1,g2,_⟩:=h.box _ _ _ _ hj
  exact ⟨cs0,g1,g2⟩) (fun j cs Φ hj=>by
  obtain ⟨cs0,g1,_⟩:=h.obj _ _ _ hj
  exact ⟨cs0,g1⟩) (fun k=>h.sub k) hc.1 hc.2

theorem Wk.inv (h:Wk s s' f d) {ρ:Aj} {w:World} (hI:Inv F s.B ρ w):Inv F s'.B (fun j=>ρ (f j)) w:=by
 refine ⟨fun b row v cs' hb=>?_,fun b row v cs' hb=>?_,fun b cs' Φ hb=>?_,fun b b' x x' l l' k h1 h2 h3 h4 h5 h6=>?_,hI.bound,fun b x l k hb hr hx=>?_,fun g hg=>⟨h.cell (hI.glob g hg).v ⟨rfl,rfl⟩,(hI.glob g hg).sz⟩,fun b v cs k o hb hr=>by
  obtain ⟨cs0,g1,_⟩:=h.box _ _ _ _ hb
  exact hI.off0 _ _ _ _ _ g1 hr⟩
 ·obtain ⟨cs,g1,g2,g3⟩:=h.box _ _ _ _ hb
  rcases hI.box _ _ _ _ g1 with ⟨q1,q2,q3⟩ | ⟨k,o,us,e,fr,q1,q2,q3,q4,q5⟩
  ·subst q3
   exact .inl ⟨q1,q2,List.eq_nil_of_length_eq_zero (by simpa using g2.symm)⟩
  ·refine .inr ⟨k,o,us,e,fr,q1,q2,by omega,q4,fun i c' hc'=>?_⟩
   have hi:i<cs.length:=by rw[g2]; exact (List.getElem?_eq_some_iff.1 hc').1
   obtain ⟨u,e1,e2⟩:=q5 i _ (List.getElem?_eq_getElem hi)
   exact ⟨u,e1,h.cell e2 (g3 i _ _ (List.getElem?_eq_getElem hi) hc')⟩
 ·obtain ⟨cs,g1,g2,g3⟩:=h.box _ _ _ _ hb
  have hl:=hI.leaf _ _ _ _ g1
  rw[List.all_eq_true] at hl ⊢
  intro c' hc'
  obtain ⟨i,hi⟩:=List.getElem?_of_mem hc'
  have hi':i<cs.length:=by rw[g2]; exact (List.getElem?_eq_some_iff.1 hi).1
  have hcl:=hl _ (List.getElem_mem hi')
  obtain ⟨e,_⟩:=g3 i _ _ (List.getElem?_eq_getElem hi') hi
  rw[e,OX] at hcl
  exact hcl
 ·obtain ⟨cs,g1,g2,g3⟩:=h.obj _ _ _ hb
  obtain ⟨k,o,us,q1,q2,q3,q4⟩:=hI.obox _ _ _ g1
  refine ⟨k,o,us,q1,q2,by omega,fun i c' u hc' hu=>?_⟩
  have hi:i<cs.length:=by rw[g2]; exact (List.getElem?_eq_some_iff.1 hc').1
  exact h.cell (q4 i _ u (List.getElem?_eq_getElem hi) hu) (g3 i _ _ (List.getElem?_eq_getElem hi) hc')
 ·obtain ⟨_,g1,p1⟩:=h.has h1 h5
  obtain ⟨_,g2,p2⟩:=h.has h2 h6
  exact h.inj _ _ (List.getElem?_eq_some_iff.1 h1).1 (List.getElem?_eq_some_iff.1 h2).1 (hI.injx _ _ _ _ _ _ _ g1 g2 h3 h4 p1 p2)
 ·obtain ⟨_,g1,p1⟩:=h.has hb hx
  exact hI.farx _ _ _ _ g1 hr p1

theorem Wk.rel (h:Wk s s' f d) {ρ:Aj} {w:World} {n:Nat} {a:Act} (hR:Rel F s.B ρ w n s.t a):Rel F s'.B (fun j=>ρ (f j)) w n s'.t a:=by
 refine ⟨h.inv hR.inv,fun i=>?_,hR.df,hR.size⟩
 rcases h.t i with h0 | h1
 ·rw[h0]; exact .u _
 ·exact h.cell (hR.tm i) h1

theorem Wk.ext (h:Wk s s' f d) {B0:List Box} {ρ0 ρ:Aj} {w0 w:World} (hE:Ext F B0 ρ0 w0 s.B ρ w) (hf:∀ j,j<B0.length→f j=j∧d j=0) (hl:B0.length≤s'.B.length):Ext F B0 ρ0 w0 s'.B (fun j=>ρ (f j)) w:=by
 refine ⟨hE.size,hE.os,hE.tape,hE.output,fun k hk ho=>⟨(hE.keep k hk ho).1,fun h2=>(hE.keep k hk ho).2 (h.sub k h2)⟩,hE.shape,hl,fun b row v cs hb hc=>?_,fun b cs Φ hb hc=>?_,hE.far⟩
 case refine_2=>
  obtain ⟨cs0,g1,g2,_⟩:=h.obj _ _ _ hc
  rw[(hf b hb).1] at g1
  obtain ⟨cs1,Φ1,q1,q2⟩:=hE.obj b cs0 Φ hb g1
  exact ⟨cs1,Φ1,q1,by rw[(hf b hb).1]; exact q2⟩
 obtain ⟨cs0,g1,g2,_⟩:=h.box _ _ _ _ hc
 rw[(hf b hb).1,(hf b hb).2,Nat.add_zero] at g1
 obtain ⟨v0,cs1,q1,q2,q3⟩:=hE.box b row v cs0 hb g1
 refine ⟨v0,cs1,q1,q2,fun e=>?_⟩
 obtain ⟨p1,p2⟩:=q3 e
 exact ⟨by rw[(hf b hb).1]; exact p1,by omega⟩

/-- Code comes to an end of which K holds, m0 boxes being those from before. With 'true': the rounds of a loop with this body. -/
def Tri (P:Program) (n m0:Nat) (q:Bool) (c:Code) (s:AS) (K:AE→AS→Prop):Prop:=
 ∀ (F:Nat→Prop) (B0:List Box) (ρ0:Aj) (w0:World),B0.length=m0→∀ (ρ:Aj) (w:World) (a:Act),Rel F s.B ρ w n s.t a→Ext F B0 ρ0 w0 s.B ρ w →
  ∀ Q:Exit→Act→World→Prop,(∀ e s' a' w' ρ',K e s'→Rel F s'.B ρ' w' n s'.t a'→Ext F B0 ρ0 w0 s'.B ρ' w'→Q e.to a' w')→wR P q c Q a w

variable {n m0 : Nat} {K : AE → AS → Prop}

theorem Tri.conseq {q:Bool} {c:Code} {K':AE→AS→Prop} (h:Tri P n m0 q c s K) (hk:∀ e s',K e s'→K' e s'):Tri P n m0 q c s K':=
 fun F B0 ρ0 w0 h0 ρ w a hR hE Q hQ=>h F B0 ρ0 w0 h0 ρ w a hR hE Q (fun e s' a' w' ρ' hk'=>hQ e s' a' w' ρ' (hk e s' hk'))

theorem Tri.skip (h:K .normal s):Tri P n m0 false .skip s K:=fun F B0 ρ0 w0 h0 ρ w a hR hE Q hQ=>wp_skip (hQ .normal s a w ρ h hR hE)
theorem Tri.exit {id:Nat} (h:K (.exit id) s):Tri P n m0 false (.exit id) s K:=fun F B0 ρ0 w0 h0 ρ w a hR hE Q hQ=>wp_exit (hQ (.exit id) s a w ρ h hR hE)
theorem Tri.ret (h:K .ret s):Tri P n m0 false .ret s K:=fun F B0 ρ0 w0 h0 ρ w a hR hE Q hQ=>wp_ret (hQ .ret s a w ρ h hR hE)

theorem Tri.seq {a b:Code} (h:Tri P n m0 false a s (fun e s1=>match e with | .normal=>Tri P n m0 false b s1 K | e=>K e s1)):Tri P n m0 false (.seq a b) s K:=by
 intro F B0 ρ0 w0 h0 ρ w ac hR hE Q hQ
 refine wp_seq (h F B0 ρ0 w0 h0 ρ w ac hR hE _ (fun e s1 a' w' ρ' hk hR' hE'=>?_))
 cases e with
 | normal=>exact hk F B0 ρ0 w0 h0 ρ' w' a' hR' hE' Q hQ
 | exit id=>exact hQ (.exit id) s1 a' w' ρ' hk hR' hE'
 | ret=>exact hQ .ret s1 a' w' ρ' hk hR' hE'

theorem Tri.cond {c:Operand} {x y:Code} {q:Bool} (hq:L4 (AR s.t c)=some q) (hx:q=true→Tri P n m0 false x s K) (hy:q=false→Tri P n m0 false y s K):Tri P n m0 false (.cond c x y) s K:=by
 intro F B0 ρ0 w0 h0 ρ w a hR hE Q hQ
 have hc:=hR.eval c
 unfold L4 at hq
 split at hq
 ·rename_i b hb
  cases hq
  rw[hb] at hc
  have hv:=hc.val
  cases q with
  | true=>exact wp_cond_true hv (hx rfl F B0 ρ0 w0 h0 ρ w a hR hE Q hQ)
  | false=>exact wp_cond_false hv (hy rfl F B0 ρ0 w0 h0 ρ w a hR hE Q hQ)
 ·cases hq

theorem Tri.block {id:Nat} {b:Code} (h:Tri P n m0 false b s (fun e s1=>match e with | .exit i=>if Nat.beq i id then K .normal s1 else K (.exit i) s1 | e=>K e s1)):Tri P n m0 false (.block id b) s K:=by
 intro F B0 ρ0 w0 h0 ρ w a hR hE Q hQ
 refine wp_block (h F B0 ρ0 w0 h0 ρ w a hR hE _ (fun e s1 a' w' ρ' hk hR' hE'=>?_))
 cases e with
 | normal=>exact hQ .normal s1 a' w' ρ' hk hR' hE'
 | ret=>exact hQ .ret s1 a' w' ρ' hk hR' hE'
 | exit i=>
  show (if i=id then Q .normal a' w' else Q (.exit i) a' w')
  simp only at hk
  by_cases e:i=id
  ·subst e
   rw[if_pos rfl]
   rw[if_pos (Nat.beq_refl i)] at hk
   exact hQ .normal s1 a' w' ρ' hk hR' hE'
  ·rw[if_neg e]
   rw[if_neg (fun h=>e (Nat.eq_of_beq_eq_true h))] at hk
   exact hQ (.exit i) s1 a' w' ρ' hk hR' hE'

theorem Tri.loop {b:Code} (h:Tri P n m0 true b s K):Tri P n m0 false (.loop b) s K:=
 fun F B0 ρ0 w0 h0 ρ w a hR hE Q hQ=>dg (h F B0 ρ0 w0 h0 ρ w a hR hE Q hQ)

theorem Tri.round {b:Code} (h:Tri P n m0 false b s (fun e s1=>match e with | .normal=>Tri P n m0 true b s1 K | e=>K e s1)):Tri P n m0 true b s K:=by
 intro F B0 ρ0 w0 h0 ρ w ac hR hE Q hQ
 refine dh (h F B0 ρ0 w0 h0 ρ w ac hR hE _ (fun e s1 a' w' ρ' hk hR' hE'=>?_))
 cases e with
 | normal=>exact hk F B0 ρ0 w0 h0 ρ' w' a' hR' hE' Q hQ
 | exit id=>exact hQ (.exit id) s1 a' w' ρ' hk hR' hE'
 | ret=>exact hQ .ret s1 a' w' ρ' hk hR' hE'

theorem Tri.weak {q:Bool} {c:Code} (hw:Wk s s' f d) (hf:∀ j,j<m0→f j=j∧d j=0) (hl:m0≤s'.B.length) (h:Tri P n m0 q c s' K):Tri P n m0 q c s K:=by
 intro F B0 ρ0 w0 h0 ρ w a hR hE Q hQ
 subst h0
 exact h F B0 ρ0 w0 rfl _ w a (hw.rel hR) (hw.ext hE hf hl) Q hQ

theorem Tri.weakr {q:Bool} {c:Code} {K':AE→AS→Prop} (h:Tri P n m0 q c s K') (hw:∀ e s1,K' e s1→∃ s2 f d,Wk s1 s2 f d∧(∀ j,j<m0→f j=j∧d j=0)∧m0≤s2.B.length∧K e s2):Tri P n m0 q c s K:=by
 intro F B0 ρ0 w0 h0 ρ w a hR hE Q hQ
 subst h0
 refine h F B0 ρ0 w0 rfl ρ w a hR hE Q (fun e s1 a' w' ρ' hk hR' hE'=>?_)
 obtain ⟨s2,f,d,g1,g2,g3,g4⟩:=hw e s1 hk
 exact hQ e s2 a' w' _ g4 (g1.rel hR') (g1.ext hE' g2 g3)

theorem Tri.regionD {Γ:BF} (hm:P.follows .mixedOrders=true) (hΓ:∀ f,SoundF P f (Γ f)) {id:Nat} {ops:Array Oper} (hok:LJ P Γ ops.toList=true) (h:NA P Γ n s.B.length ops.toList ops.toList s=some s') (hk:K .normal s'):Tri P n m0 false (.region id ops true) s K:=
 fun F B0 ρ0 w0 h0 ρ w a hR hE Q hQ=>Pb hm hΓ hok h hR (fun a' w' ρ' hR' hE'=>hQ .normal s' a' w' ρ' hk hR' (hE.trans hE'))

theorem Tri.nilrow {q:Bool} {c:Code} {i sz:Nat} (hi:s.t i=AI) (h:Tri P n m0 q c ⟨Ff s.t i (.rs s.B.length 0 sz 0 0),s.B++ [.cells true 0 []]⟩ K):Tri P n m0 q c s K:=by
 intro F B0 ρ0 w0 h0 ρ w a hR hE Q hQ
 obtain ⟨hI,hE'⟩:=JT hR.inv
 refine h F B0 ρ0 w0 h0 _ w a ⟨hI,fun j=>?_,hR.df,hR.size⟩ (hE.trans hE') Q hQ
 dsimp only
 by_cases e:j=i
 ·subst e
  rw[Ez]
  have:=hR.tm j
  rw[hi] at this
  have hv:=this.val
  rw[hv]
  refine .rs _ _ _ _ _ none 0 ⟨by simp,Nat.le_refl _,fun h=>absurd h (by omega),fun row v cs hc=>?_⟩
  rw[List.getElem?_append_right (Nat.le_refl _)] at hc
  simp at hc
  obtain ⟨rfl,rfl,rfl⟩:=hc
  exact ⟨Nat.le_refl _,fun _=>⟨by simp, .inl rfl⟩⟩
 ·rw[FF _ _ _ _ e]
  exact (hR.tm j).ext hE'

theorem Tri.nills {q:Bool} {c:Code} {i:Nat} (hi:s.t i=AI) (h:Tri P n m0 q c ⟨Ff s.t i (.p (.ls [])),s.B⟩ K):Tri P n m0 q c s K:=by
 intro F B0 ρ0 w0 h0 ρ w a hR hE Q hQ
 refine h F B0 ρ0 w0 h0 ρ w a ⟨hR.inv,fun j=>?_,hR.df,hR.size⟩ hE Q hQ
 dsimp only
 by_cases e:j=i
 ·subst e
  rw[Ez]
  have:=hR.tm j
  rw[hi] at this
  rw[this.val]
  exact .p _ _ (.nil none 0 (.inr rfl))
 ·rw[FF _ _ _ _ e]
  exact hR.tm j

theorem obj_set {B:List Box} {b j:Nat} {X:Box} {cs:List AV} {Φ:ObjP} (hX:∀ cs Φ,X≠ .obj cs Φ) (h:(B.set b X)[j]? = some (.obj cs Φ)):B[j]? = some (.obj cs Φ):=by
 rw[List.getElem?_set] at h
 split at h
 ·split at h
  ·cases h; exact (hX _ _ rfl).elim
  ·cases h
 ·exact h

theorem E5 {F:Nat→Prop} {B B':List Box} {ρ:Aj} {w:World} (hl:B'.length=B.length)
  (hb:∀ (b:Nat) (row:Bool) (v:Nat) (cs':List AV),B'[b]? = some (.cells row v cs')→∃ cs,B[b]? = some (.cells row v cs)∧cs'.length=cs.length)
  (ho:∀ (b:Nat) (cs:List AV) (Φ:ObjP),B'[b]? = some (.obj cs Φ)→B[b]? = some (.obj cs Φ)):(∀ k,Own F B' ρ k→Own F B ρ k)∧Ext F B ρ w B' ρ w:=by
 have hown:∀ k,Own F B' ρ k→Own F B ρ k:=by
  rintro k (h | ⟨b,x,l,h1,h2,h3⟩)
  ·exact .inl h
  ·cases x with
   | dead=>exact h3.elim
   | cells row v cs'=>
    obtain ⟨cs,g1,_⟩:=hb b row v cs' h1
    exact .inr ⟨b,_,l,g1,h2,h3⟩
   | obj cs Φ=>exact .inr ⟨b,_,l,ho b cs Φ h1,h2,h3⟩
 exact ⟨hown,Nat.le_refl _,rfl,rfl,rfl,fun k _ h=>⟨rfl,fun h'=>h (hown k h')⟩,fun _ _ _ h=>h,by omega,fun b row v cs' _ hc=>by
  obtain ⟨cs,g1,g2⟩:=hb b row v cs' hc
  exact ⟨v,cs,g1,Nat.le_refl _,fun _=>⟨rfl,g2⟩⟩,fun b cs Φ _ hc=>⟨cs,Φ,ho b cs Φ hc,rfl⟩,fun _ _ _=>rfl⟩

theorem Jj {F:Nat→Prop} {B B':List Box} {ρ:Aj} {w:World} (hI:Inv F B ρ w)
  (hb:∀ (b:Nat) (row:Bool) (v:Nat) (cs':List AV),B'[b]? = some (.cells row v cs')→∃ cs,B[b]? = some (.cells row v cs)∧cs'.length=cs.length∧cs'.all AV.leaf=true ∧
   ∀ (i:Nat) (c':AV),cs'[i]? = some c'→∃ c,cs[i]? = some c∧∀ u,VRel F B ρ w c u→VRel F B' ρ w c' u)
  (ho:∀ (b:Nat) (cs:List AV) (Φ:ObjP),B'[b]? = some (.obj cs Φ)→B[b]? = some (.obj cs Φ)) (hE:Ext F B ρ w B' ρ w):Inv F B' ρ w:=by
 have has:∀ {b:Nat} {x:Box} {l:Nat×Nat} {k:Nat},B'[b]? = some x→x.has l k→∃ x0,B[b]? = some x0∧x0.has l k:=by
  intro b x l k h1 h3
  cases x with
  | dead=>exact h3.elim
  | cells row v cs'=>
   obtain ⟨cs,g1,g2⟩:=hb b row v cs' h1
   exact ⟨_,g1,h3⟩
  | obj cs Φ=>exact ⟨_,ho b cs Φ h1,h3⟩
 refine ⟨fun b row v cs' hc=>?_,fun b row v cs' hc=>?_,fun b cs Φ hc=>?_,fun b b' x x' l l' k h1 h2 h3 h4 h5 h6=>?_,hI.bound,fun b x l k h1 h2 h3=>?_,fun g hg=>(hI.glob g hg).ext hE,fun b v cs k o h1 h2=>by
  obtain ⟨cs0,g1,_⟩:=hb b false v cs h1
  exact hI.off0 _ _ _ _ _ g1 h2⟩
 ·obtain ⟨cs,g1,g2,_,g4⟩:=hb b row v cs' hc
  rcases hI.box b row v cs g1 with ⟨h1,h2,h3⟩ | ⟨k,o,us,e,fr,h1,h2,h3,h4,h5⟩
  ·subst h3
   exact .inl ⟨h1,h2,List.eq_nil_of_length_eq_zero g2⟩
  ·refine .inr ⟨k,o,us,e,fr,h1,h2,by omega,h4,fun i c' hc'=>?_⟩
   obtain ⟨c,f1,f2⟩:=g4 i c' hc'
   obtain ⟨u,e1,e2⟩:=h5 i c f1
   exact ⟨u,e1,f2 u e2⟩
 ·obtain ⟨cs,g1,g2,g3,g4⟩:=hb b row v cs' hc
  exact g3
 ·obtain ⟨k,o,us,g1,g2,g3,g4⟩:=hI.obox b cs Φ (ho b cs Φ hc)
  exact ⟨k,o,us,g1,g2,g3,fun i c u h1 h2=>(g4 i c u h1 h2).ext hE⟩
 ·obtain ⟨_,g1,p1⟩:=has h1 h5
  obtain ⟨_,g2,p2⟩:=has h2 h6
  exact hI.injx _ _ _ _ _ _ _ g1 g2 h3 h4 p1 p2
 ·obtain ⟨_,g1,p1⟩:=has h1 h3
  exact hI.farx _ _ _ _ g1 h2 p1

theorem Tri.mvrow {q:Bool} {c:Code} {i b v sz len:Nat} {cs:List AV} (hi:s.t i= .rs b v sz 0 len) (hb:s.B[b]? = some (.cells true v cs))
  (h:Tri P n m0 q c ⟨Ff s.t i (.rs s.B.length 0 sz 0 len),s.B.set b (.cells true (v+1) [])++ [.cells true 0 cs]⟩ K):Tri P n m0 q c s K:=by
 intro F B0 ρ0 w0 h0 ρ w a hR hE Q hQ
 obtain ⟨t,B⟩:=s
 dsimp only at hi hb h hR hE
 have hI:=hR.inv
 have hbl:b<B.length:=(List.getElem?_eq_some_iff.1 hb).1
 have hl':(B.set b (.cells true (v+1) [])).length=B.length:=by simp
 obtain ⟨ρ',hρ⟩:∃ ρ':Aj,ρ'=fun j=>if j=B.length then ρ b else if j=b then none else ρ j:=⟨_,rfl⟩
 obtain ⟨B',hB'⟩:∃ B',B'=B.set b (.cells true (v+1) [])++ [.cells true 0 cs]:=⟨_,rfl⟩
 rw[←hB'] at h
 have hnew:B'[B.length]? = some (.cells true 0 cs):=by rw[hB',List.getElem?_append_right (by simp)]; simp
 have hold:B'[b]? = some (.cells true (v+1) []):=by rw[hB',List.getElem?_append_left (by simpa using hbl)]; simp[hbl]
 have hoth:∀ j,j≠B.length→j≠b→B'[j]? = B[j]? := fun j h1 h2=>by
  rw[hB']
  rcases Nat.lt_or_ge j B.length with hj | hj
  ·rw[List.getElem?_append_left (by simpa using hj),List.getElem?_set_ne (fun e=>h2 e.symm)]
  ·rw[List.getElem?_eq_none (by simp; omega),List.getElem?_eq_none hj]
 have r1:ρ' B.length=ρ b:=by rw[hρ]; simp
 have r2:ρ' b=none:=by rw[hρ]; simp[Nat.ne_of_lt hbl]
 have r3:∀ j,j≠B.length→j≠b→ρ' j=ρ j:=fun j h1 h2=>by rw[hρ]; simp[h1,h2]
 have hhas:∀ {j:Nat} {x:Box} {l:Nat×Nat} {k:Nat},B'[j]? = some x→ρ' j=some l→x.has l k→∃ (j0:Nat) (x0:Box),B[j0]? = some x0∧ρ j0=some l∧x0.has l k∧(j=B.length∧j0=b∨j≠B.length∧j≠b∧j0=j):=by
  intro j x l k h1 h2 h3
  by_cases e1:j=B.length
  ·subst e1
   rw[hnew] at h1
   cases h1
   rw[r1] at h2
   exact ⟨b,_,hb,h2,h3, .inl ⟨rfl,rfl⟩⟩
  ·by_cases e2:j=b
   ·subst e2; rw[r2] at h2; cases h2
   ·rw[hoth j e1 e2] at h1
    rw[r3 j e1 e2] at h2
    exact ⟨j,x,h1,h2,h3, .inr ⟨e1,e2,rfl⟩⟩
 have hown:∀ k,Own F B' ρ' k→Own F B ρ k:=by
  rintro k (h | ⟨j,x,l,h1,h2,h3⟩)
  ·exact .inl h
  ·obtain ⟨j0,x0,g1,g2,g3,_⟩:=hhas h1 h2 h3
   exact .inr ⟨j0,x0,l,g1,g2,g3⟩
 have hE':Ext F B ρ w B' ρ' w:=by
  refine ⟨Nat.le_refl _,rfl,rfl,rfl,fun k _ h=>⟨rfl,fun h'=>h (hown k h')⟩,fun _ _ _ h=>h,by rw[hB']; simp,fun j row v' cs' hj hc=>?_,fun j cs' Φ hj hc=>?_,fun _ _ _=>rfl⟩
  ·have e1:j≠B.length:=by omega
   by_cases e2:j=b
   ·subst e2
    rw[hold] at hc
    cases hc
    exact ⟨v,cs,hb,by omega,fun e=>by omega⟩
   ·rw[hoth j e1 e2] at hc
    exact ⟨v',cs',hc,Nat.le_refl _,fun _=>⟨r3 j e1 e2,rfl⟩⟩
  ·have e1:j≠B.length:=by omega
   by_cases e2:j=b
   ·subst e2; rw[hold] at hc; cases hc
   ·rw[hoth j e1 e2] at hc
    exact ⟨cs',Φ,hc,by rw[r3 j e1 e2]⟩
 have hI':Inv F B' ρ' w:=by
  refine ⟨fun j row v' cs' hc=>?_,fun j row v' cs' hc=>?_,fun j cs' Φ hc=>?_,fun j j' x x' l l' k h1 h2 h3 h4 h5 h6=>?_,hI.bound,fun j x l k h1 h2 h3=>?_,fun g hg=>(hI.glob g hg).ext hE',fun j v' cs' k o hc hr=>?_⟩
  ·by_cases e1:j=B.length
   ·subst e1
    rw[hnew] at hc
    cases hc
    rw[r1]
    rcases hI.box b true v cs hb with h0 | ⟨k,o,us,e,fr,g1,g2,g3,g4,g5⟩
    ·exact .inl h0
    ·exact .inr ⟨k,o,us,e,fr,g1,g2,g3,g4,fun i c hc=>by obtain ⟨u,p1,p2⟩:=g5 i c hc; exact ⟨u,p1,p2.ext hE'⟩⟩
   ·by_cases e2:j=b
    ·subst e2
     rw[hold] at hc
     cases hc
     exact .inl ⟨r2,rfl,rfl⟩
    ·rw[hoth j e1 e2] at hc
     rw[r3 j e1 e2]
     rcases hI.box j row v' cs' hc with h0 | ⟨k,o,us,e,fr,g1,g2,g3,g4,g5⟩
     ·exact .inl h0
     ·exact .inr ⟨k,o,us,e,fr,g1,g2,g3,g4,fun i c hc=>by obtain ⟨u,p1,p2⟩:=g5 i c hc; exact ⟨u,p1,p2.ext hE'⟩⟩
  ·by_cases e1:j=B.length
   ·subst e1
    rw[hnew] at hc
    cases hc
    exact hI.leaf _ _ _ _ hb
   ·by_cases e2:j=b
    ·subst e2
     rw[hold] at hc
     cases hc
     rfl
    ·rw[hoth j e1 e2] at hc
     exact hI.leaf _ _ _ _ hc
  ·by_cases e1:j=B.length
   ·subst e1; rw[hnew] at hc; cases hc
   ·by_cases e2:j=b
    ·subst e2; rw[hold] at hc; cases hc
    ·rw[hoth j e1 e2] at hc
     rw[r3 j e1 e2]
     obtain ⟨k,o,us,g1,g2,g3,g4⟩:=hI.obox j cs' Φ hc
     exact ⟨k,o,us,g1,g2,g3,fun i c u h1 h2=>(g4 i c u h1 h2).ext hE'⟩
  ·obtain ⟨j0,x0,g1,g2,g3,g4⟩:=hhas h1 h3 h5
   obtain ⟨j0',x0',g1',g2',g3',g4'⟩:=hhas h2 h4 h6
   have:=hI.injx _ _ _ _ _ _ _ g1 g1' g2 g2' g3 g3'
   rcases g4 with ⟨a1,a2⟩ | ⟨a1,a2,a3⟩ <;> rcases g4' with ⟨b1,b2⟩ | ⟨b1,b2,b3⟩ <;> omega
  ·obtain ⟨j0,x0,g1,g2,g3,_⟩:=hhas h1 h2 h3
   exact hI.farx _ _ _ _ g1 g2 g3
  ·by_cases e1:j=B.length
   ·subst e1; rw[hnew] at hc; cases hc
   ·by_cases e2:j=b
    ·subst e2; rw[hold] at hc; cases hc
    ·rw[hoth j e1 e2] at hc
     rw[r3 j e1 e2] at hr
     exact hI.off0 _ _ _ _ _ hc hr
 refine h F B0 ρ0 w0 h0 ρ' w a ⟨hI',fun j=>?_,hR.df,hR.size⟩ (hE.trans hE') Q hQ
 dsimp only
 by_cases e:j=i
 ·subst e
  rw[Ez]
  have hv:=hR.tm j
  rw[hi] at hv
  generalize a.tmps.getD j undef=u at hv
  cases hv with
  | rs _ _ _ _ _ a cap hp=>
   refine .rs _ _ _ _ _ a cap ⟨by rw[hB']; simp,hp.2.1,hp.2.2.1,fun row v' cs' hc=>?_⟩
   rw[hnew] at hc
   cases hc
   refine ⟨Nat.le_refl _,fun _=>?_⟩
   rw[r1]
   exact (hp.2.2.2 _ _ _ hb).2 rfl
 ·rw[FF _ _ _ _ e]
  exact (hR.tm j).ext hE'

theorem SN {p:AV→Bool} {cs:List AV} {i:Nat} {x:AV} (h:cs.all p=true) (hx:p x=true):(cs.set i x).all p=true:=by
 rw[List.all_eq_true] at h ⊢
 intro y hy
 rcases List.mem_or_eq_of_mem_set hy with hy | rfl
 ·exact h y hy
 ·exact hx

theorem Tri.nilcell {q:Bool} {c:Code} {b i sz v:Nat} {row:Bool} {cs:List AV} (hb:s.B[b]? = some (.cells row v cs)) (hi:cs[i]? = some AI)
  (h:Tri P n m0 q c ⟨s.t,(s.B++ [Box.cells true 0 []]).set b (Box.cells row v (cs.set i (.rs s.B.length 0 sz 0 0)))⟩ K):Tri P n m0 q c s K:=by
 intro F B0 ρ0 w0 h0 ρ w a hR hE Q hQ
 obtain ⟨hI,hE'⟩:=JT hR.inv
 have hbl:b<s.B.length:=(List.getElem?_eq_some_iff.1 hb).1
 have hb1:(s.B++ [Box.cells true 0 []])[b]? = some (.cells row v cs):=by rw[List.getElem?_append_left hbl]; exact hb
 obtain ⟨_,hE2⟩:=E5 (F:=F) (B:=s.B++ [Box.cells true 0 []]) (B':=(s.B++ [Box.cells true 0 []]).set b (Box.cells row v (cs.set i (.rs s.B.length 0 sz 0 0)))) (ρ:=fun b=>if b=s.B.length then none else ρ b) (w:=w) (by simp) (fun b' row' v' cs' hc=>by
  rw[List.getElem?_set] at hc
  split at hc
  ·rename_i e
   subst e
   split at hc
   ·cases hc
    exact ⟨cs,hb1,by simp⟩
   ·cases hc
  ·exact ⟨cs',hc,rfl⟩) (fun j cs Φ h=>obj_set (fun _ _ e=>by cases e) h)
 have hI2:=Jj (B':=(s.B++ [Box.cells true 0 []]).set b (Box.cells row v (cs.set i (.rs s.B.length 0 sz 0 0)))) hI (fun b' row' v' cs' hc=>by
  rw[List.getElem?_set] at hc
  split at hc
  ·rename_i e
   subst e
   split at hc
   ·cases hc
    refine ⟨cs,hb1,by simp,SN (hR.inv.leaf b row v cs hb) rfl,fun j c' hc'=>?_⟩
    rw[List.getElem?_set] at hc'
    split at hc'
    ·rename_i e
     subst e
     split at hc'
     ·cases hc'
      refine ⟨_,hi,fun u hu=>?_⟩
      obtain rfl:=hu.val
      refine VRel.ext hE2 (.rs _ _ _ _ _ none 0 ⟨by simp,Nat.le_refl _,fun h=>absurd h (by omega),fun row v cs hc=>?_⟩)
      rw[List.getElem?_append_right (Nat.le_refl _)] at hc
      simp at hc
      obtain ⟨rfl,rfl,rfl⟩:=hc
      exact ⟨Nat.le_refl _,fun _=>⟨by simp, .inl rfl⟩⟩
     ·cases hc'
    ·exact ⟨c',hc',fun u hu=>hu.ext hE2⟩
   ·cases hc
  ·exact ⟨cs',hc,rfl,hI.leaf _ _ _ _ hc,fun j c' hc'=>⟨c',hc',fun u hu=>hu.ext hE2⟩⟩) (fun j cs Φ h=>obj_set (fun _ _ e=>by cases e) h) hE2
 exact h F B0 ρ0 w0 h0 _ w a ⟨hI2,fun j=>((hR.tm j).ext hE').ext hE2,hR.df,hR.size⟩ ((hE.trans hE').trans hE2) Q hQ

theorem Tri.sealcell {q:Bool} {c:Code} {b2 i b v v2 sz len:Nat} {cs cs2:List AV} {xs:List PV} (hb2:s.B[b2]? = some (.cells false v2 cs2)) (hi:cs2[i]? = some (.rs b v sz 0 len)) (hb:s.B[b]? = some (.cells true v cs))
  (hs:∀ (S:Nat→Prop) (B:List Box),S b→B[b]? = some (.cells true v cs)→Sealed S B (.rs b v sz 0 len) (.p (.ls xs)))
  (h:Tri P n m0 q c ⟨s.t,(s.B.set b Box.dead).set b2 (Box.cells false v2 (cs2.set i (.p (.ls xs))))⟩ K):Tri P n m0 q c s K:=by
 intro F B0 ρ0 w0 h0 ρ w a hR hE Q hQ
 have hne:b≠b2:=fun e=>by subst e; rw[hb] at hb2; cases hb2
 have hget:∀ (b':Nat) (row:Bool) (v':Nat) (cs':List AV),((s.B.set b Box.dead).set b2 (Box.cells false v2 (cs2.set i (.p (.ls xs)))))[b']? = some (.cells row v' cs') →
   (b'=b2∧row=false∧v'=v2∧cs'=cs2.set i (.p (.ls xs)))∨(b'≠b2∧b'≠b∧s.B[b']? = some (.cells row v' cs')):=by
  intro b' row v' cs' hc
  rw[List.getElem?_set] at hc
  split at hc
  ·rename_i e
   subst e
   split at hc
   ·cases hc; exact .inl ⟨rfl,rfl,rfl,rfl⟩
   ·cases hc
  ·rename_i e
   rw[List.getElem?_set] at hc
   split at hc
   ·split at hc <;> cases hc
   ·rename_i e'
    exact .inr ⟨fun h=>e h.symm,fun h=>e' h.symm,hc⟩
 obtain ⟨hown,hE2⟩:=E5 (F:=F) (B:=s.B) (B':=(s.B.set b Box.dead).set b2 (Box.cells false v2 (cs2.set i (.p (.ls xs))))) (ρ:=ρ) (w:=w) (by simp) (fun b' row' v' cs' hc=>by
  rcases hget b' row' v' cs' hc with ⟨rfl,rfl,rfl,rfl⟩ | ⟨_,_,h3⟩
  ·exact ⟨cs2,hb2,by simp⟩
  ·exact ⟨cs',h3,rfl⟩) (fun j cs Φ h=>obj_set (fun _ _ e=>by cases e) (obj_set (fun _ _ e=>by cases e) h))
 have hI2:=Jj (B':=(s.B.set b Box.dead).set b2 (Box.cells false v2 (cs2.set i (.p (.ls xs))))) hR.inv (fun b' row' v' cs' hc=>by
  rcases hget b' row' v' cs' hc with ⟨rfl,rfl,rfl,rfl⟩ | ⟨_,_,h3⟩
  ·refine ⟨cs2,hb2,by simp,SN (hR.inv.leaf b' false v' cs2 hb2) rfl,fun j c' hc'=>?_⟩
   rw[List.getElem?_set] at hc'
   split at hc'
   ·rename_i e
    subst e
    split at hc'
    ·cases hc'
     refine ⟨_,hi,fun u hu=>?_⟩
     refine Sealed.vrel (S:=fun k=>k=b) hR.inv (hs _ _ rfl hb) hu hown fun b0 row0 v0 cs0 k o hS hB hρ=>?_
     subst hS
     rintro (hF | ⟨b3,x3,l3,g1,g2,g3⟩)
     ·exact hR.inv.farb b0 row0 v0 cs0 k o hB hρ hF
     ·rw[List.getElem?_set] at g1
      split at g1
      ·rename_i e1
       subst e1
       split at g1
       ·cases g1
        exact hne (hR.inv.injx b0 _ _ _ (k,o) l3 k hB hb2 hρ g2 rfl g3)
       ·cases g1
      ·rw[List.getElem?_set] at g1
       split at g1
       ·split at g1
        ·cases g1; exact g3.elim
        ·cases g1
       ·rename_i e2
        exact e2 (hR.inv.injx b0 b3 _ _ (k,o) l3 k hB g1 hρ g2 rfl g3)
    ·cases hc'
   ·exact ⟨c',hc',fun u hu=>hu.ext hE2⟩
  ·exact ⟨cs',h3,rfl,hR.inv.leaf _ _ _ _ h3,fun j c' hc'=>⟨c',hc',fun u hu=>hu.ext hE2⟩⟩) (fun j cs Φ h=>obj_set (fun _ _ e=>by cases e) (obj_set (fun _ _ e=>by cases e) h)) hE2
 exact h F B0 ρ0 w0 h0 _ w a ⟨hI2,fun j=>(hR.tm j).ext hE2,hR.df,hR.size⟩ (hE.trans hE2) Q hQ

theorem Tri.sealslot {q:Bool} {c:Code} {i b v sz len:Nat} {cs:List AV} {xs:List PV} (hi:s.t i= .rs b v sz 0 len) (hb:s.B[b]? = some (.cells true v cs))
  (hs:∀ (S:Nat→Prop) (B:List Box),S b→B[b]? = some (.cells true v cs)→Sealed S B (.rs b v sz 0 len) (.p (.ls xs)))
  (h:Tri P n m0 q c ⟨Ff s.t i (.p (.ls xs)),s.B.set b Box.dead⟩ K):Tri P n m0 q c s K:=by
 intro F B0 ρ0 w0 h0 ρ w a hR hE Q hQ
 have hget:∀ (b':Nat) (row:Bool) (v':Nat) (cs':List AV),(s.B.set b Box.dead)[b']? = some (.cells row v' cs')→b'≠b∧s.B[b']? = some (.cells row v' cs'):=by
  intro b' row v' cs' hc
  rw[List.getElem?_set] at hc
  split at hc
  ·split at hc <;> cases hc
  ·rename_i e'
   exact ⟨fun h=>e' h.symm,hc⟩
 obtain ⟨hown,hE2⟩:=E5 (F:=F) (B:=s.B) (B':=s.B.set b Box.dead) (ρ:=ρ) (w:=w) (by simp) (fun b' row' v' cs' hc=>⟨cs',(hget b' row' v' cs' hc).2,rfl⟩) (fun j cs Φ h=>obj_set (fun _ _ e=>by cases e) h)
 have hI2:=Jj (B':=s.B.set b Box.dead) hR.inv (fun b' row' v' cs' hc=>by
  obtain ⟨_,h3⟩:=hget b' row' v' cs' hc
  exact ⟨cs',h3,rfl,hR.inv.leaf _ _ _ _ h3,fun j c' hc'=>⟨c',hc',fun u hu=>hu.ext hE2⟩⟩) (fun j cs Φ h=>obj_set (fun _ _ e=>by cases e) h) hE2
 refine h F B0 ρ0 w0 h0 _ w a ⟨hI2,fun j=>?_,hR.df,hR.size⟩ (hE.trans hE2) Q hQ
 dsimp only
 by_cases e:j=i
 ·subst e
  rw[Ez]
  have hv:=hR.tm j
  rw[hi] at hv
  refine Sealed.vrel (S:=fun k=>k=b) hR.inv (hs _ _ rfl hb) hv hown fun b0 row0 v0 cs0 k o hS hB hρ=>?_
  subst hS
  rintro (hF | ⟨b3,x3,l3,g1,g2,g3⟩)
  ·exact hR.inv.farb b0 row0 v0 cs0 k o hB hρ hF
  ·rw[List.getElem?_set] at g1
   split at g1
   ·split at g1
    ·cases g1; exact g3.elim
    ·cases g1
   ·rename_i e2
    exact e2 (hR.inv.injx b0 b3 _ _ (k,o) l3 k hB g1 hρ g2 rfl g3)
 ·rw[FF _ _ _ _ e]
  exact (hR.tm j).ext hE2

end Go.Ax
namespace Go.Ax
open Go.RowKit
variable [Glob]

structure Enc (α:Type) where
 f:α→PV
 sz:Nat
 size:∀ a,(f a).cells.length=sz
 leaf:∀ a,(f a).cells.all PV.leaf=true

abbrev Enc.av {α:Type} (E:Enc α) (a:α):AV:= .agg ((E.f a).cells.map .p)
abbrev Enc.bx {α:Type} (E:Enc α) (v:Nat) (L:List α):Box:= .cells true v (rowC (L.map E.f))

theorem Enc.elt {α:Type} (E:Enc α):Elt α E.f E.sz:=⟨E.size,E.leaf⟩

abbrev St:=List (Nat×AV)×List Box
def CN:Empty→AE×List (Nat×AV)×List Box:=fun _=>(.exit 99999,[],[])

def St.as (c:St):AS:=⟨tk c.1,c.2⟩

structure Wd where
 slots:List Nat
 boxes:List (Nat×Nat×Option (List PV))

theorem byteCells (bs:List UInt8):bs.map KC=rowC (bs.map fun b=> .v (.int .u8 b.toNat)):=by
 induction bs with
 | nil=>rfl
 | cons b bs ih=>simp only[List.map_cons,ih]; rfl

def AA:Enc UInt8:=⟨fun b=> .v (.int .u8 b.toNat),1,fun _=>rfl,fun _=>rfl⟩

inductive ASrc where
 | ls (xs:List PV)
 | row (len:Nat) (cs:List AV)
 | part (off len:Nat) (cs:List AV)
 | str (s:ByteArray)
 | nil

def ASrc.ok {α:Type} (E:Enc α) (M:List α):ASrc→Prop
 | .ls xs=>xs=M.map E.f
 | .row n cs=>n=M.length∧cs=rowC (M.map E.f)
 | .part off n cs=>n=M.length∧(cs.drop off).take (n*E.sz)=rowC (M.map E.f)
 | .str s=>E.sz=1∧s.data.toList.map KC=rowC (M.map E.f)∧s.size=M.length
 | .nil=>M= []

def cutL {α:Type} (lo hi:Option Int) (L:List α):List α:=
 match lo,hi with
 | none,none=>L
 | some l,none=>L.drop l.toNat
 | none,some h=>L.take h.toNat
 | some l,some h=>(L.take h.toNat).drop l.toNat

def CE (lo hi:Option Int) (n:Nat):Prop:=
 match lo,hi with
 | none,none=>True
 | some l,none=>0≤l∧l≤(n:Int)
 | none,some h=>0≤h∧h≤(n:Int)
 | some l,some h=>0≤l∧l≤h∧h≤(n:Int)

def A8 (lo:Option Int):Nat:=match lo with | some l=>l.toNat | none=>0
def Be (hi:Option Int) (n:Nat):Nat:=match hi with | some h=>h.toNat | none=>n

abbrev Ae:=List AV→List Box→AV→List Box→Prop
abbrev CB:=Nat→Ae

inductive Tree:Type 1 where
 | stuck
 | leaf (W:Wd) (olds:List (List AV)) (e:AE) (cur:Option St)
 | br (b:Bool) (x y:Tree)
 | dec (x:Tree)
 | go (x:Tree)
 | sp (d:Nat) (b:Bool) (x y:Tree)
 | int (d:Nat) (z y:Int) (k:Tree)
 | val (d:Option Nat) (p:Prop) (v:AV) (B:List Box) (k:Tree)
 | call (d:Nat) (p:Prop) (v:AV) (k:Tree)
 | callr (d:Option Nat) (p:Prop) (v:AV) (B:List Box) (k:Tree)
 | callx {β:Type} (d:Option Nat) (p:β→Prop) (v:β→AV) (B:β→List Box) (k:β→Tree)
 | elem {α:Type} (d:Nat) (xs:List PV) (E:Enc α) (L:List α) (i:Int) (k:α→Tree)
 | elemk {α:Type} (d:Nat) (xs:List PV) (E:Enc α) (L:List α) (i:Int) (a:α) (k:Tree)
 | rload {α:Type} (d:Nat) (cs:List AV) (off:Nat) (E:Enc α) (L:List α) (i:Int) (q:Nat) (k:α→Tree)
 | ridx (d:Nat) (len:Nat) (i:Int) (k:Tree)
 | pidx (d:Nat) (len:Nat) (i:Int) (k:Tree)
 | rstore {α:Type} (d:Option Nat) (cs:List AV) (off:Nat) (new:List AV) (E:Enc α) (L:List α) (i:Int) (a:α) (k:Tree)
 | rclr {α:Type} (d:Option Nat) (off len:Nat) (cs zz:List AV) (E:Enc α) (L:List α) (i:Nat) (z:α) (k:Tree)
 | app {α:Type} (d:Nat) (src:ASrc) (len:Nat) (cs:List AV) (E:Enc α) (L M:List α) (k:Tree)
 | appn {α:Type} (d:Nat) (src:ASrc) (E:Enc α) (M:List α) (k:Tree)
 | cut {α:Type} (d:Nat) (xs:List PV) (lo hi:Option Int) (E:Enc α) (L:List α) (k:Tree)
 | scut (d:Nat) (s:ByteArray) (lo hi:Option Int) (k:Tree)
 | rcut (d:Nat) (len:Nat) (lo hi:Option Int) (k:Tree)
 | rcut3 {α:Type} (d:Nat) (len:Nat) (cs:List AV) (E:Enc α) (L:List α) (h m:Int) (k:Tree)
 | sidx (d:Nat) (s:ByteArray) (i:Int) (k:UInt8→Tree)
 | bstr (d:Nat) (len:Nat) (cs:List AV) (L:List UInt8) (k:Tree)
 | bstrl (d:Nat) (xs:List PV) (L:List UInt8) (k:Tree)
 | sbyte (d:Nat) (k:Tree)
 | mks {α:Type} (d:Nat) (z y:Int) (zz:List AV) (E:Enc α) (a:α) (k:Tree)
 | nilrow (i sz:Nat) (k:Tree)
 | nills (i:Nat) (k:Tree)
 | mvrow (i:Nat) (k:Tree)
 | any (x:Tree)
 | nilcell (b i sz:Nat) (k:Tree)
 | fork (x y:Tree)
 | sealslot {α:Type} (r i:Nat) (cs:List AV) (len:Nat) (E:Enc α) (L:List α) (k:Tree)
 | sealcell {α:Type} (r b2 i:Nat) (cs:List AV) (len:Nat) (E:Enc α) (L:List α) (k:Tree)
 | frag (r:Option Nat) (W:Wd) (olds:List (List AV)) (cur:Option St) (E0:St) (p:Prop) (e:AE) (c:St) (k:Tree)
 | join {σ:Type} (W:Wd) (olds:List (List AV)) (cur:Option St) (E:σ→St) (s0:σ) (k:σ→Tree)
 | loop {σ ε ε':Type} (W:Wd) (olds:List (List AV)) (cur:Option St) (E:σ→St) (X:ε→AE×St) (X':ε'→AE×St) (s0:σ) (body:σ→Tree) (k:ε→Tree) (k':ε'→Tree)

/-- The rounds of a loop, told by what one round comes to. -/
inductive Rounds {σ ε ε':Type} (E:σ→St) (X:ε→AE×St) (X':ε'→AE×St) (body:σ→(AE→St→Prop)→Prop):σ→ε ⊕ ε'→Prop
 | next {s s':σ} {x:ε ⊕ ε'}:body s (fun e c=>e= .normal∧c=E s')→Rounds E X X' body s' x→Rounds E X X' body s x
 | done {s:σ} {x:ε}:(X x).1≠ .normal→body s (fun e c=>e=(X x).1∧c=(X x).2)→Rounds E X X' body s (.inl x)
 | done' {s:σ} {x:ε'}:(X' x).1≠ .normal→body s (fun e c=>e=(X' x).1∧c=(X' x).2)→Rounds E X X' body s (.inr x)

def B9 (W:Wd) (olds:List (List AV)):Prop:=olds=W.boxes.filterMap fun b=>b.2.2.map rowC

def Tree.wp:Tree→(AE→St→Prop)→Prop
 | .stuck,_=>False
 | .leaf W olds e cur,K=>B9 W olds∧∃ c,cur=some c∧K e c
 | .br b x y,K=>(b=true→x.wp K)∧(b=false→y.wp K)
 | .dec x,K=>x.wp K
 | .go x,K=>x.wp K
 | .sp _ b x y,K=>(b=true→x.wp K)∧(b=false→y.wp K)
 | .int _ z y k,K=>z=y∧k.wp K
 | .val _ p _ _ k,K=>p∧k.wp K
 | .call _ p _ k,K=>p∧k.wp K
 | .callr _ p _ _ k,K=>p∧k.wp K
 | .callx _ p _ _ k,K=>∃ y,p y∧(k y).wp K
 | .elem _ xs E L i k,K=>xs=L.map E.f∧0≤i∧∃ a,L[i.toNat]? = some a∧(k a).wp K
 | .elemk _ xs E L i a k,K=>xs=L.map E.f∧0≤i∧L[i.toNat]? = some a∧k.wp K
 | .rload _ cs off E L i q k,K=>cs=rowC (L.map E.f)∧0≤i∧off=0+i.toNat*E.sz+q∧∃ a,L[i.toNat]? = some a∧(k a).wp K
 | .ridx _ len i k,K=>0≤i∧i<(len:Int)∧k.wp K
 | .pidx _ len i k,K=>0≤i∧i<(len:Int)∧k.wp K
 | .rstore _ cs off new E L i a k,K=>cs=rowC (L.map E.f)∧0≤i∧i<(L.length:Int)∧off=0+i.toNat*E.sz∧new=(E.f a).cells.map .p∧k.wp K
 | .rclr _ off len cs zz E L i z k,K=>cs=rowC (L.map E.f)∧zz=(E.f z).cells.map .p∧off=0+i*E.sz∧i+len=L.length∧k.wp K
 | .app _ src len cs E L M k,K=>src.ok E M∧len=L.length∧cs=rowC (L.map E.f)∧((L++M).length:Int)≤1000000000∧k.wp K
 | .appn _ src E M k,K=>src.ok E M∧(M.length:Int)≤1000000000∧k.wp K
 | .cut _ xs lo hi E L k,K=>xs=L.map E.f∧CE lo hi L.length∧k.wp K
 | .scut _ s lo hi k,K=>CE lo hi s.size∧k.wp K
 | .rcut _ len lo hi k,K=>CE lo hi len∧k.wp K
 | .rcut3 _ len cs E L h m k,K=>cs=rowC (L.map E.f)∧len=L.length∧0≤h∧h≤m∧m≤(len:Int)∧k.wp K
 | .sidx _ s i k,K=>0≤i∧∃ c,s[i.toNat]? = some c∧(k c).wp K
 | .bstr _ len cs L k,K=>len=L.length∧cs=rowC (L.map AA.f)∧k.wp K
 | .bstrl _ xs L k,K=>xs=L.map AA.f∧k.wp K
 | .sbyte _ k,K=>k.wp K
 | .mks _ z y zz E a k,K=>z=y∧0≤z∧z≤1000000000∧zz=(E.f a).cells.map .p∧k.wp K
 | .nilrow _ _ k,K=>k.wp K
 | .nills _ k,K=>k.wp K
 | .mvrow _ k,K=>k.wp K
 | .any x,K=>x.wp K
 | .nilcell _ _ _ k,K=>k.wp K
 | .fork x y,K=>x.wp K∧y.wp K
 | .sealslot _ _ cs len E L k,K=>cs=rowC (L.map E.f)∧len=L.length∧k.wp K
 | .sealcell _ _ _ cs len E L k,K=>cs=rowC (L.map E.f)∧len=L.length∧k.wp K
 | .frag _ W olds cur E0 p _ _ k,K=>B9 W olds∧cur=some E0∧p∧k.wp K
 | .join W olds cur E s0 k,K=>B9 W olds∧cur=some (E s0)∧(k s0).wp K
 | .loop W olds cur E X X' s0 body k k',K=>B9 W olds∧cur=some (E s0)∧((∃ x,Rounds E X X' (fun s=>(body s).wp) s0 (.inl x)∧(k x).wp K)∨∃ x,Rounds E X X' (fun s=>(body s).wp) s0 (.inr x)∧(k' x).wp K)

def NF:List (Nat×Nat×Option (List PV))→Nat→Nat→Option (Nat×Nat)
 | [],_,_=>none
 | (b',d,_)::r,b,j=>bif Nat.beq b' b then some (j,d) else NF r b (j+1)

def AV.inv (l:List (Nat×Nat×Option (List PV))):AV→Option AV
 | .u=>none
 | .p x=>some (.p x)
 | .rp cs=>some (.rp cs)
 | .mp b=>match NF l b 0 with
  | some (j,_)=>some (.mp j)
  | none=>none
 | .op b=>match NF l b 0 with
  | some (j,_)=>some (.op j)
  | none=>none
 | .ptr b v o=>match NF l b 0 with
  | some (j,d)=>bif Nat.ble d v then some (.ptr j (v - d) o) else none
  | none=>none
 | .rs b v z o n=>match NF l b 0 with
  | some (j,d)=>bif Nat.ble d v then some (.rs j (v - d) z o n) else none
  | none=>none
 | .agg cs=>match invL l cs with
  | some ds=>some (.agg ds)
  | none=>none
 | .fn g cs=>match invL l cs with
  | some ds=>some (.fn g ds)
  | none=>none
 | .tup cs=>match invL l cs with
  | some ds=>some (.tup ds)
  | none=>none
 where
 invL (l:List (Nat×Nat×Option (List PV))):List AV→Option (List AV)
  | []=>some []
  | c::cs=>match c.inv l with
   | some d=>match invL l cs with
    | some ds=>some (d::ds)
    | none=>none
   | none=>none

def OY (l:List (Nat×Nat×Option (List PV))) (x:AV):AV:=match x.inv l with
 | some y=>y
 | none=> .u

def GU (l:List (Nat×Nat×Option (List PV))) (B:List Box):List (Nat×Nat×Option (List PV))→Option (List (List AV)×List Box)
 | []=>some ([],[])
 | (b,d,r)::rest=>
  match B[b]? with
  | some (.cells row v cs)=>
   bif Nat.ble d v then
    match GU l B rest with
    | some (olds,Bs)=>
     match r with
     | some xs=>some (cs::olds, .cells row (v - d) (rowC xs)::Bs)
     | none=>match AV.inv.invL l cs with
      | some ds=>some (olds, .cells row (v - d) ds::Bs)
      | none=>none
    | none=>none
   else none
  | some (.obj cs Φ)=>
   match GU l B rest,r,AV.inv.invL l cs with
   | some (olds,Bs),none,some ds=>some (olds, .obj ds Φ::Bs)
   | _,_,_=>none
  | _=>none

def NG:List (Nat×Nat×Option (List PV))→Bool
 | []=>true
 | x::r=> !(r.any fun y=>Nat.beq x.1 y.1)&&NG r

def NH (m0:Nat):Nat→List (Nat×Nat×Option (List PV))→Bool
 | _,[]=>true
 | j,x::r=>(Nat.ble m0 j||(Nat.beq x.1 j&&Nat.beq x.2.1 0))&&NH m0 (j+1) r

def OZ (m0:Nat) (W:Wd) (s:AS):Option (List (List AV)×St):=
 bif NG W.boxes&&NH m0 0 W.boxes&&Nat.ble m0 W.boxes.length then
  match GU W.boxes s.B W.boxes with
  | some (olds,Bs)=>some (olds,(W.slots.map fun i=>(i,OY W.boxes (s.t i)),Bs))
  | none=>none
 else none

section
variable (P : Program) (Γ : BF) (Δ : CB) (n m0 : Nat)

def NI (s:AS) (d:Option Nat) (v:AV) (B:List Box) (κ:AS→Tree):Tree:=match EJ n s.t d v with
 | some t'=>κ ⟨t',B⟩
 | none=> .stuck

def tI (d:Option Nat) (d':Nat):Bool:=match d with
 | some e=>Nat.beq e d'
 | none=>false

def DS (s:AS) (d:Option Nat) (v:AV) (B:List Box) (T:Tree) (κ:AS→Tree→Tree):Tree:=match T with
 | .sp d' _ x y=>bif tI d d' then
   match v with
   | .p (.v (.bool q))=> .sp d' q (NI n s d (vb true) B fun s'=>κ s' x) (NI n s d (vb false) B fun s'=>κ s' y)
   | _=> .stuck
  else NI n s d v B fun s'=>κ s' T
 | T=>NI n s d v B fun s'=>κ s' T

def CU (o:Oper) (s:AS) (T:Tree) (κ:AS→Tree→Tree):Tree:=match CH P Γ s.t s.B o.op with
 | some (v,B)=>DS n s o.dst v B T κ
 | none=> .stuck

def HO (o:Oper) (d:Nat):Bool:=match o.dst with
 | some e=>Nat.beq e d
 | none=>false

def ZE (o:Oper) (d:Option Nat):Bool:=match o.dst,d with
 | some e,some d=>Nat.beq e d
 | none,none=>true
 | _,_=>false

def tJ:Op→Bool
 | .store .. => false
 | _=>true

def LM (t:TypeId) (sz:Nat):Bool:=match C2 P t with
 | some e=>match BU P e,P.info? e,EF P e with
  | some n,some i,some z=>Nat.beq n sz&&Nat.ble i.bytes 140000&& !(Nat.beq sz 0||Nat.beq i.bytes 0)&&Nat.beq z.length sz&&z.all AV.leaf
  | _,_,_=>false
 | none=>false

def aV (tx:TypeId) (B:List Box) (sz:Nat) (x:AV) (h:ASrc):Option ASrc:=
 match P.underlying tx,x with
 | some (.slice _), .p (.v (.slice none 0 0))=>some .nil
 | some (.slice _), .p (.ls xs)=>bif LM P tx sz then some (.ls xs) else none
 | some (.slice _), .rs b ver sz' off len=>match B[b]? with
  | some (.cells _ v cs)=>bif Nat.beq ver v&&Nat.beq sz sz' then
    match h with
    | .row _ _=>bif Nat.beq off 0 then some (.row len cs) else none
    | .part _ _ _=>some (.part off len cs)
    | _=>none
   else none
  | _=>none
 | some .string, .p (.v (.string s))=>some (.str s)
 | _,_=>none

def NJ (t:T):Option Operand→Option (Option Int)
 | none=>some none
 | some x=>match AR t x with
  | .p (.v (.int _ i))=>some (some i)
  | _=>none

def di (o:Oper) (s:AS) (κ:TypeId→AV→Option Int→Option Int→Tree):Tree:=match o.op with
 | .slice t x lo hi none=>match NJ s.t lo,NJ s.t hi with
  | some l,some h=>κ t (AR s.t x) l h
  | _,_=> .stuck
 | _=> .stuck

def oe (o:Oper) (s:AS) (T:Tree) (κ:AS→Tree→Tree):Tree:=
 match T with
 | .stuck=> .stuck
 | .int d _ y k=>bif HO o d then
   match CH P Γ s.t s.B o.op with
   | some (.p (.v (.int kd z)),B)=> .int d z y (DS n s o.dst (.p (.v (.int kd y))) B k κ)
   | _=> .stuck
  else CU P Γ n o s T κ
 | .val d _ v B k=>bif ZE o d&&tJ o.op then .val d (CH P Γ s.t s.B o.op=some (v,B)) v B (DS n s o.dst v B k κ)
  else CU P Γ n o s T κ
 | .call d _ v k=>bif HO o d then
   match o.op with
   | .call c=>match c.callee with
    | .value f=>match AR s.t f with
     | .fn g cap=>match Γ g with
      | .pure h=> .call d (h (c.args.toList.map (AR s.t)++cap)=some v) v (DS n s o.dst v s.B k κ)
      | _=> .stuck
     | _=> .stuck
    | _=> .stuck
   | _=> .stuck
  else CU P Γ n o s T κ
 | .elem d _ E L _ k=>bif HO o d then
   match o.op with
   | .indexAddr t a i=>match AR s.t a,AR s.t i,C2 P t with
    | .p (.ls xs), .p (.v (.int _ j)),some e=>match BU P e with
     | some sz=>bif Nat.beq sz E.sz then .elem d xs E L j fun x=>DS n s o.dst (.rp (E.f x).cells) s.B (k x) κ else .stuck
     | none=> .stuck
    | _,_,_=> .stuck
   | _=> .stuck
  else CU P Γ n o s T κ
 | .elemk d _ E L _ x k=>bif HO o d then
   match o.op with
   | .indexAddr t a i=>match AR s.t a,AR s.t i,C2 P t with
    | .p (.ls xs), .p (.v (.int _ j)),some e=>match BU P e with
     | some sz=>bif Nat.beq sz E.sz then .elemk d xs E L j x (DS n s o.dst (.rp (E.f x).cells) s.B k κ) else .stuck
     | none=> .stuck
    | _,_,_=> .stuck
   | _=> .stuck
  else CU P Γ n o s T κ
 | .rload d _ _ E L i q k=>bif HO o d then
   match o.op with
   | .load t x=>match AR s.t x with
    | .ptr b ver off=>match s.B[b]? with
     | some (.cells _ v cs)=>bif Nat.beq ver v then .rload d cs off E L i q fun a=>match TX P t (((E.f a).cells.drop q).map .p) with
       | some v=>DS n s o.dst v s.B (k a) κ
       | none=> .stuck
      else .stuck
     | _=> .stuck
    | _=> .stuck
   | _=> .stuck
  else CU P Γ n o s T κ
 | .ridx d _ _ k=>bif HO o d then
   match o.op with
   | .indexAddr t a i=>match AR s.t a,AR s.t i,C2 P t with
    | .rs b ver sz off len, .p (.v (.int _ j)),some e=>match BU P e with
     | some sz'=>bif Nat.beq sz' sz then .ridx d len j (DS n s o.dst (.ptr b ver (off+j.toNat*sz)) s.B k κ) else .stuck
     | none=> .stuck
    | _,_,_=> .stuck
   | _=> .stuck
  else CU P Γ n o s T κ
 | .pidx d _ _ k=>bif HO o d then
   match o.op with
   | .indexAddr t a i=>match AR s.t a,AR s.t i,P.underlying t with
    | .ptr b ver off, .p (.v (.int _ j)),some (.array len e)=>match BU P e with
     | some sz=>bif !Nat.beq sz 0 then .pidx d len j (DS n s o.dst (.ptr b ver (off+j.toNat*sz)) s.B k κ) else .stuck
     | none=> .stuck
    | _,_,_=> .stuck
   | _=> .stuck
  else CU P Γ n o s T κ
 | .rstore d _ _ _ E L i a k=>bif ZE o d then
   match o.op with
   | .store t x y=>match AR s.t x with
    | .ptr b ver off=>match s.B[b]? with
     | some (.cells row v cs)=>bif Nat.beq ver v&&(match BU P t with | some sz=>Nat.beq sz E.sz | none=>false) then
       .rstore d cs off (AR s.t y).cells E L i a (DS n s o.dst .u (s.B.set b (.cells row v (rowC ((L.set i.toNat a).map E.f)))) k κ)
      else .stuck
     | _=> .stuck
    | _=> .stuck
   | _=> .stuck
  else CU P Γ n o s T κ
 | .rclr d _ _ _ _ E L i z k=>bif ZE o d then
   match o.op with
   | .call c=>match c.callee,c.args.toList.map (AR s.t),c.argTypes[0]? with
    | .builtin .clear,[.rs b ver sz off len],some t=>match s.B[b]?,(C2 P t).bind (EF P) with
     | some (.cells row v cs),some zz=>bif Nat.beq ver v&&Nat.beq sz E.sz&&Nat.beq zz.length E.sz&&(match (C2 P t).bind (BU P) with | some m=>Nat.beq m E.sz | none=>false) then
        .rclr d off len cs zz E L i z (DS n s o.dst (.tup []) (s.B.set b (.cells row v (rowC ((L.take i++List.replicate len z).map E.f)))) k κ)
       else .stuck
     | _,_=> .stuck
    | _,_,_=> .stuck
   | _=> .stuck
  else CU P Γ n o s T κ
 | .app d src _ _ E L M k=>bif HO o d then
   match o.op with
   | .call c=>match c.callee,c.args.toList.map (AR s.t),c.argTypes[0]?,c.argTypes[1]? with
    | .builtin .append,[.rs b ver sz off len,x],some t,some tx=>match s.B[b]? with
     | some (.cells true v cs)=>bif Nat.beq ver v&&Nat.beq sz E.sz&&Nat.beq off 0&&LM P t E.sz then
       match aV P tx s.B E.sz x src with
       | some src'=> .app d src' len cs E L M (DS n s o.dst (.rs b (v+1) E.sz 0 (L++M).length) (s.B.set b (.cells true (v+1) (rowC ((L++M).map E.f)))) k κ)
       | none=> .stuck
      else .stuck
     | _=> .stuck
    | _,_,_,_=> .stuck
   | _=> .stuck
  else CU P Γ n o s T κ
 | .appn d src E M k=>bif HO o d then
   match o.op with
   | .call c=>match c.callee,c.args.toList.map (AR s.t),c.argTypes[0]?,c.argTypes[1]? with
    | .builtin .append,[.p (.v (.slice none 0 0)),x],some t,some tx=>bif LM P t E.sz then
       match aV P tx s.B E.sz x src with
       | some src'=> .appn d src' E M (DS n s o.dst (.rs s.B.length 0 E.sz 0 M.length) (s.B++ [.cells true 0 (rowC (M.map E.f))]) k κ)
       | none=> .stuck
      else .stuck
    | _,_,_,_=> .stuck
   | _=> .stuck
  else CU P Γ n o s T κ
 | .cut d _ _ _ E L k=>bif HO o d then
   di o s fun t x l h=>match x with
    | .p (.ls xs)=>match C2 P t with
     | some e=>match BU P e with
      | some sz=>bif Nat.beq sz E.sz then .cut d xs l h E L (DS n s o.dst (vl ((cutL l h L).map E.f)) s.B k κ) else .stuck
      | none=> .stuck
     | none=> .stuck
    | _=> .stuck
  else CU P Γ n o s T κ
 | .scut d _ _ _ k=>bif HO o d then
   di o s fun t x l h=>match P.underlying t,x with
    | some .string, .p (.v (.string b))=> .scut d b l h (DS n s o.dst (vs (b.extract (A8 l) (Be h b.size))) s.B k κ)
    | _,_=> .stuck
  else CU P Γ n o s T κ
 | .rcut d _ _ _ k=>bif HO o d then
   di o s fun t x l h=>match x with
    | .rs b ver sz off len=>match C2 P t with
     | some e=>match BU P e with
      | some sz'=>bif Nat.beq sz' sz then .rcut d len l h (DS n s o.dst (.rs b ver sz (off+A8 l*sz) (Be h len - A8 l)) s.B k κ) else .stuck
      | none=> .stuck
     | none=> .stuck
    | _=> .stuck
  else CU P Γ n o s T κ
 | .rcut3 d _ _ E L _ _ k=>bif HO o d then
   match o.op with
   | .slice t x none (some y) (some (.tmp mi))=>match AR s.t x,AR s.t y,s.t mi with
    | .rs b ver sz off len, .p (.v (.int _ h)), .p (.v (.int _ m))=>match s.B[b]?,C2 P t with
     | some (.cells true v cs),some e=>match BU P e with
      | some sz'=>bif Nat.beq sz' sz&&Nat.beq ver v&&Nat.beq off 0&&Nat.beq sz E.sz then
        .rcut3 d len cs E L h m (DS n s o.dst (.rs b (v+1) sz 0 h.toNat) (s.B.set b (.cells true (v+1) (rowC ((L.take h.toNat).map E.f)))) k κ) else .stuck
      | none=> .stuck
     | _,_=> .stuck
    | _,_,_=> .stuck
   | _=> .stuck
  else CU P Γ n o s T κ
 | .sidx d _ _ k=>bif HO o d then
   match o.op with
   | .index t x i=>match P.underlying t,AR s.t x,AR s.t i with
    | some .string, .p (.v (.string b)), .p (.v (.int _ j))=> .sidx d b j fun c=>DS n s o.dst (KC c) s.B (k c) κ
    | _,_,_=> .stuck
   | _=> .stuck
  else CU P Γ n o s T κ
 | .bstr d _ _ L k=>bif HO o d then
   match o.op with
   | .convert src dst x=>match C2 P src,P.underlying dst,AR s.t x with
    | some e,some .string, .rs b ver sz off len=>match P.underlying e,s.B[b]? with
     | some (.int .u8),some (.cells _ v cs)=>bif Nat.beq ver v&&Nat.beq sz 1&&Nat.beq off 0 then .bstr d len cs L (DS n s o.dst (vs ⟨L.toArray⟩) s.B k κ) else .stuck
     | _,_=> .stuck
    | _,_,_=> .stuck
   | _=> .stuck
  else CU P Γ n o s T κ
 | .bstrl d _ L k=>bif HO o d then
   match o.op with
   | .convert src dst x=>match C2 P src,P.underlying dst,AR s.t x with
    | some e,some .string, .p (.ls xs)=>match P.underlying e with
     | some (.int .u8)=> .bstrl d xs L (DS n s o.dst (vs ⟨L.toArray⟩) s.B k κ)
     | _=> .stuck
    | _,_,_=> .stuck
   | _=> .stuck
  else CU P Γ n o s T κ
 | .sbyte d k=>bif HO o d then
   match o.op with
   | .convert src dst x=>match P.underlying src,C2 P dst,AR s.t x with
    | some .string,some e, .p (.v (.string b))=>match P.underlying e with
     | some (.int .u8)=> .sbyte d (DS n s o.dst (.rs s.B.length 0 1 0 b.data.toList.length) (s.B++ [.cells true 0 (rowC (b.data.toList.map AA.f))]) k κ)
     | _=> .stuck
    | _,_,_=> .stuck
   | _=> .stuck
  else CU P Γ n o s T κ
 | .mks d _ _ _ E a k=>bif HO o d then
   match o.op with
   | .makeSlice t l c=>match AR s.t l,AR s.t c,C2 P t with
    | .p (.v (.int _ z)), .p (.v (.int _ y)),some e=>match BU P e,EF P e,P.info? e with
     | some sz,some zz,some ie=>bif Nat.beq sz E.sz&&Nat.beq zz.length E.sz&&Nat.ble ie.bytes 140000&&zz.all AV.leaf then
       .mks d z y zz E a (DS n s o.dst (.rs s.B.length 0 E.sz 0 (List.replicate z.toNat a).length) (s.B++ [.cells true 0 (rowC ((List.replicate z.toNat a).map E.f))]) k κ)
      else .stuck
     | _,_,_=> .stuck
    | _,_,_=> .stuck
   | _=> .stuck
  else CU P Γ n o s T κ
 | T=>CU P Γ n o s T κ

def NK (o:Oper) (s:AS) (d:Option Nat) (v:AV) (B:List Box) (k:Tree) (κ:AS→Tree→Tree):Tree:=match o.op with
 | .call c=>match c.callee with
  | .value f=>match AR s.t f with
   | .fn g cap=> .callr d (Δ g (c.args.toList.map (AR s.t)++cap) s.B v B) v B (DS n s o.dst v B k κ)
   | _=> .stuck
  | _=> .stuck
 | _=> .stuck

def Vb {β:Type} (o:Oper) (s:AS) (d:Option Nat) (v:β→AV) (B:β→List Box) (k:β→Tree) (κ:AS→Tree→Tree):Tree:=match o.op with
 | .call c=>match c.callee with
  | .value f=>match AR s.t f with
   | .fn g cap=> .callx d (fun y=>Δ g (c.args.toList.map (AR s.t)++cap) s.B (v y) (B y)) v B (fun y=>DS n s o.dst (v y) (B y) (k y) κ)
   | _=> .stuck
  | _=> .stuck
 | _=> .stuck

def MB (draw:Option Nat) (ops:List Oper) (o:Oper) (s:AS) (T:Tree) (κ:AS→Tree→Tree):Tree:=
 match Cl ops s.t o with
 | some true=>bif kx P Γ draw ops o.op s then
   match draw,T with
   | none, .callr d _ v B k=>bif ZE o d then NK Δ n o s d v B k κ else CU P Γ n o s T κ
   | none, .callx d _ v B k=>bif ZE o d then Vb Δ n o s d v B k κ else CU P Γ n o s T κ
   | _,_=>oe P Γ n o s T κ
  else .stuck
 | some false=>NI n s o.dst (.p (.v undef)) s.B fun s'=>κ s' T
 | none=> .stuck

def aW (draw:Option Nat) (ops:List Oper):List Oper→AS→Tree→(AS→Tree→Tree)→Tree
 | [],s,T,κ=>κ s T
 | o::rest,s,T,κ=>MB P Γ Δ n draw ops o s T fun s' T'=>aW draw ops rest s' T' κ

def SP (t:T) (op:Op):Bool:=match op with
 | .call c=>match c.callee with
  | .value f=>match AR t f with
   | .fn g _=>match Γ g with
    | .none=>true
    | _=>false
   | _=>false
  | _=>false
 | _=>false

def Qv (n0:Nat) (ops:List Oper) (o:Oper) (s:AS) (T:Tree) (κ:AS→Tree→Tree):Tree:=match T with
 | .callr d q v B k=>match Cl ops s.t o with
  | some true=>bif ZE o d&&kx P Γ (some n0) ops o.op s&&SP Γ s.t o.op then NK Δ n o s d v B k κ else MB P Γ Δ n (some n0) ops o s (.callr d q v B k) κ
  | _=>MB P Γ Δ n (some n0) ops o s (.callr d q v B k) κ
 | T=>MB P Γ Δ n (some n0) ops o s T κ

def Ul (ops:List Oper) (L:Array Bool) (i:Nat) (oi:Oper):Nat→List Oper→Bool
 | _,[]=>true
 | j,oj::rest=>(Nat.beq j i||L.getD j true||Iu ops 24 j i||(oi.apart ops.toArray oj&& !(clsOf P Γ ops oi.op).clash (clsOf P Γ ops oj.op)))&&Ul ops L i oi (j+1) rest
def ky (ops:List Oper) (L:Array Bool) (i:Nat):Bool:=match ops[i]? with
 | some oi=>Ul P Γ ops L i oi 0 ops
 | none=>false

def Um (body:Nat→Tree→Tree):List Nat→Tree→Tree
 | [],_=> .stuck
 | i::r,T=>match r with
  | []=>body i T
  | _=>match T with
   | .fork x y=> .fork (body i x) (Um body r y)
   | _=> .stuck

def QE (n0:Nat) (ops:List Oper) (κ:AS→Tree→Tree):Nat→Array Bool→AS→Tree→Tree
 | 0,L,s,T=>match Region.ready .any ops.toArray L with
  | []=>κ s T
  | _=> .stuck
 | f+1,L,s,T=>match Region.ready .any ops.toArray L with
  | []=>κ s T
  | r=>match r.find? (ky P Γ ops L) with
   | some i=>match ops[i]? with
    | some o=>Qv P Γ Δ n n0 ops o s T (fun s' T'=>QE n0 ops κ f (L.setIfInBounds i true) s' T')
    | none=> .stuck
   | none=>Um (fun i T=>match ops[i]? with
    | some o=>Qv P Γ Δ n n0 ops o s T (fun s' T'=>QE n0 ops κ f (L.setIfInBounds i true) s' T')
    | none=> .stuck) r T

def iE (s:AS) (i sz:Nat) (κ:AS→Tree):Tree:=match s.t i with
 | .p (.v (.slice none 0 0))=> .nilrow i sz (κ ⟨Ff s.t i (.rs s.B.length 0 sz 0 0),s.B++ [.cells true 0 []]⟩)
 | _=> .stuck

def CP (e:AE) (s:AS) (T:Tree):Tree:=match T with
 | .leaf W _ _ _=>match OZ m0 W s with
  | some (olds,c)=> .leaf W olds e (some c)
  | none=> .stuck
 | _=> .stuck

def Vc (s:AS) (i:Nat) (κ:AS→Tree):Tree:=match s.t i with
 | .p (.v (.slice none 0 0))=> .nills i (κ ⟨Ff s.t i (.p (.ls [])),s.B⟩)
 | _=> .stuck

def QF (s:AS) (b i sz:Nat) (κ:AS→Tree):Tree:=match s.B[b]? with
 | some (.cells row v cs)=>match cs[i]? with
  | some (.p (.v (.slice none 0 0)))=> .nilcell b i sz (κ ⟨s.t,(s.B++ [Box.cells true 0 []]).set b (Box.cells row v (cs.set i (.rs s.B.length 0 sz 0 0)))⟩)
  | _=> .stuck
 | _=> .stuck

def KG {α:Type} (r:Nat) (s:AS) (b2 i:Nat) (E:Enc α) (L:List α) (κ:AS→Tree):Tree:=match s.B[b2]? with
 | some (.cells false v2 cs2)=>match cs2[i]? with
  | some (.rs b v sz off len)=>match s.B[b]? with
   | some (.cells true v' cs)=>bif Nat.beq v v'&&Nat.beq sz E.sz&&Nat.beq off 0 then
     .sealcell r b2 i cs len E L (κ ⟨s.t,(s.B.set b Box.dead).set b2 (Box.cells false v2 (cs2.set i (vl (L.map E.f))))⟩)
    else .stuck
   | _=> .stuck
  | _=> .stuck
 | _=> .stuck

def KH {α:Type} (r:Nat) (s:AS) (i:Nat) (E:Enc α) (L:List α) (κ:AS→Tree):Tree:=match s.t i with
 | .rs b v sz off len=>match s.B[b]? with
  | some (.cells true v' cs)=>bif Nat.beq v v'&&Nat.beq sz E.sz&&Nat.beq off 0 then .sealslot r i cs len E L (κ ⟨Ff s.t i (vl (L.map E.f)),s.B.set b Box.dead⟩) else .stuck
  | _=> .stuck
 | _=> .stuck

def Un (id:Nat) (s:AS) (T:Tree) (κ:AS→Tree→Tree):Tree:=match T with
 | .sealcell r b2 i cs len E L k=>bif Nat.beq r id then KG r s b2 i E L fun s'=>κ s' k else κ s (.sealcell r b2 i cs len E L k)
 | .sealslot r i cs len E L k=>bif Nat.beq r id then KH r s i E L fun s'=>κ s' k else κ s (.sealslot r i cs len E L k)
 | T=>κ s T
def dj (id:Nat) (s:AS) (T:Tree) (κ:AS→Tree→Tree):Tree:=Un id s T fun s T=>Un id s T κ

def og (s:AS) (i:Nat) (κ:AS→Tree):Tree:=match s.t i with
 | .rs b ver sz off len=>match s.B[b]? with
  | some (.cells true v cs)=>bif Nat.beq v ver&&Nat.beq off 0 then .mvrow i (κ ⟨Ff s.t i (.rs s.B.length 0 sz 0 len),s.B.set b (.cells true (v+1) [])++ [.cells true 0 cs]⟩) else .stuck
  | _=> .stuck
 | _=> .stuck

def SQ (s:AS) (T:Tree) (κ:AS→Tree→Tree):Tree:=match T with
 | .nilrow i sz k=>iE s i sz fun s'=>κ s' k
 | .nills i k=>Vc s i fun s'=>κ s' k
 | .mvrow i k=>og s i fun s'=>κ s' k
 | .nilcell b i sz k=>QF s b i sz fun s'=>κ s' k
 | T=>κ s T

def kz (s:AS) (T:Tree) (κ:AS→Tree→Tree):Tree:=SQ s T fun s T=>SQ s T fun s T=>SQ s T fun s T=>SQ s T κ

def tK:Option Nat→Option Nat→Bool
 | none,none=>true
 | some i,some j=>Nat.beq i j
 | _,_=>false
def Qw (r:Option Nat) (cd:Code) (s:AS) (T:Tree) (κ:AE→AS→Tree→Tree) (dflt:Tree):Tree:=match T with
 | .frag r' W _ _ E0 _ e c k=>bif tK r r' then
   match OZ m0 W s with
   | some (olds,c0)=> .frag r' W olds (some c0) E0 (Tri P n m0 false cd E0.as fun e' s'=>e'=e∧s'=c.as) e c (κ e c.as k)
   | none=> .stuck
  else dflt
 | _=>dflt

def Bg:Code→AS→Tree→(AE→AS→Tree→Tree)→Tree
 | .skip,s,T,κ=>κ .normal s T
 | .region id ops draw,s,T,κ=>Qw P n m0 (some id) (.region id ops draw) s T κ (dj id s T fun s T=>
  bif draw then (match T with
   | .any T1=> .any (QE P Γ Δ n s.B.length ops.toList (fun s' T'=>κ .normal s' T') ops.size (Array.replicate ops.size false) s T1)
   | T=>bif LJ P Γ ops.toList then aW P Γ Δ n (some s.B.length) ops.toList ops.toList s T fun s' T'=>κ .normal s' T'
   else QE P Γ Δ n s.B.length ops.toList (fun s' T'=>κ .normal s' T') ops.size (Array.replicate ops.size false) s T)
  else aW P Γ Δ n none ops.toList ops.toList s T fun s' T'=>κ .normal s' T')
 | .seq a b,s,T,κ=>Bg a s T fun e s' T'=>match e with
  | .normal=>match T' with
   | .join W _ _ E s0 k=>match OZ m0 W s' with
    | some (olds,c)=> .join W olds (some c) E s0 (fun z=>Bg b (E z).as (k z) κ)
    | none=> .stuck
   | .go k=> .go (Bg b s' k κ)
   | T'=>Bg b s' T' κ
  | .exit i=>κ (.exit i) s' T'
  | .ret=>κ .ret s' T'
 | .cond c x y,s,T,κ=>match L4 (AR s.t c) with
  | some q=>match T with
   | .stuck=> .stuck
   | .br _ Tx Ty=> .br q (Bg x s Tx κ) (Bg y s Ty κ)
   | .dec T'=> .dec (bif q then Bg x s T' κ else Bg y s T' κ)
   | T=>bif q then Bg x s T κ else Bg y s T κ
  | none=> .stuck
 | .block id b,s,T,κ=>Bg b s T fun e s' T'=>match e with
  | .exit i=>bif Nat.beq i id then κ .normal s' T' else κ (.exit i) s' T'
  | .normal=>κ .normal s' T'
  | .ret=>κ .ret s' T'
 | .loop b,s,T,κ=>Qw P n m0 none (.loop b) s T κ (kz s T fun s T=>match T with
  | .loop W _ _ E X X' s0 body k k'=>match OZ m0 W s with
   | some (olds,c)=> .loop W olds (some c) E X X' s0 (fun z=>Bg b (E z).as (body z) (CP m0)) (fun x=>κ (X x).1 (X x).2.as (k x)) (fun x=>κ (X' x).1 (X' x).2.as (k' x))
   | none=> .stuck
  | _=> .stuck)
 | .exit id,s,T,κ=>κ (.exit id) s T
 | .ret,s,T,κ=>κ .ret s T
 | _,_,_,_=> .stuck
end


variable [Glob] {P : Program} {Γ : BF} {n m0 : Nat} {K : AE → St → Prop}

theorem cond_wp {b:Bool} {x y:Tree} (h:(cond b x y).wp K):(b=true∧x.wp K)∨(b=false∧y.wp K):=by
 cases b with
 | true=>exact .inl ⟨rfl,h⟩
 | false=>exact .inr ⟨rfl,h⟩

theorem ZF {s:AS} {d:Option Nat} {v:AV} {B:List Box} {κ:AS→Tree} (h:(NI n s d v B κ).wp K):∃ t',EJ n s.t d v=some t'∧(κ ⟨t',B⟩).wp K:=by
 unfold NI at h
 split at h
 ·rename_i t' ht; exact ⟨t',ht,h⟩
 ·exact h.elim

def Vd (P:Program) (Γ:BF) (n:Nat) (K:AE→St→Prop) (o:Oper) (s:AS) (κ:AS→Tree→Tree):Prop:=
 ∃ v B t' T',CH P Γ s.t s.B o.op=some (v,B)∧EJ n s.t o.dst v=some t'∧(κ ⟨t',B⟩ T').wp K

theorem KI {o:Oper} {s:AS} {κ:AS→Tree→Tree} {v:AV} {B:List Box} {T:Tree} (h:CH P Γ s.t s.B o.op=some (v,B)) (hp:(NI n s o.dst v B fun s'=>κ s' T).wp K):Vd P Γ n K o s κ:=by
 obtain ⟨t',h1,h2⟩:=ZF hp
 exact ⟨v,B,t',T,h,h1,h2⟩

theorem Bt {o:Oper} {s:AS} {κ:AS→Tree→Tree} {v:AV} {B:List Box} {T:Tree} (h:CH P Γ s.t s.B o.op=some (v,B)) (hp:(DS n s o.dst v B T κ).wp K):Vd P Γ n K o s κ:=by
 unfold DS at hp
 split at hp
 ·rename_i d' b x y
  have hh:=cond_wp hp
  clear hp
  rcases hh with ⟨_,hp⟩ | ⟨_,hp⟩
  ·split at hp
   ·rename_i q
    cases q with
    | true=>exact KI h (hp.1 rfl)
    | false=>exact KI h (hp.2 rfl)
   ·exact hp.elim
  ·exact KI h hp
 ·exact KI h hp

theorem BX {o:Oper} {s:AS} {κ:AS→Tree→Tree} {T:Tree} (hp:(CU P Γ n o s T κ).wp K):Vd P Γ n K o s κ:=by
 unfold CU at hp
 split at hp
 ·rename_i v B h; exact Bt h hp
 ·exact hp.elim

theorem dk {t:TypeId} {α:Type} {E:Enc α} {L:List α} {i:Int} {a:α} {q:Nat} {v:AV} (hi:L[i.toNat]? = some a) (h:TX P t (((E.f a).cells.drop q).map .p)=some v):
  TX P t ((rowC (L.map E.f)).drop (0+i.toNat*E.sz+q))=some v:=by
 have key:∀ k,k<((E.f a).cells.drop q).length→((rowC (L.map E.f)).drop (0+i.toNat*E.sz+q))[k]? = (((E.f a).cells.drop q).map AV.p)[k]? := by
  intro k hk
  have hk':q+k<E.sz:=by rw[List.length_drop,E.size] at hk; omega
  rw[List.getElem?_drop,List.getElem?_map,List.getElem?_drop]
  unfold rowC
  rw[List.getElem?_map,show 0+i.toNat*E.sz+q+k=i.toNat*E.sz+(q+k) by omega,E.elt.flatGet L _ (q+k) a hi hk']
 have hlen:((E.f a).cells.drop q).length≤((rowC (L.map E.f)).drop (0+i.toNat*E.sz+q)).length:=by
  rcases Nat.lt_or_ge ((rowC (L.map E.f)).drop (0+i.toNat*E.sz+q)).length ((E.f a).cells.drop q).length with hlt | hge
  ·have:=key _ hlt
   rw[List.getElem?_eq_none (Nat.le_refl _),List.getElem?_map,List.getElem?_eq_getElem hlt] at this
   cases this
  ·exact hge
 unfold TX at h ⊢
 split at h
 ·cases h
 ·rename_i hu
  rw[if_neg hu]
  split at h
  ·rename_i ha
   rw[if_pos ha]
   obtain ⟨m,hm,h2⟩:=Option.bind_eq_some_iff.1 h
   rw[hm]
   simp only[Option.bind_some]
   split at h2
   ·rename_i hle
    cases h2
    rw[List.length_map] at hle
    rw[if_pos (by omega)]
    congr 2
    apply List.ext_getElem?
    intro k
    rw[List.getElem?_take,List.getElem?_take]
    split
    ·exact key k (by omega)
    ·rfl
   ·cases h2
  ·rename_i ha
   rw[if_neg ha]
   rw[List.head?_eq_getElem?] at h ⊢
   rw[key 0 ?_]
   ·exact h
   ·have:=(List.getElem?_eq_some_iff.1 h).1
    simpa using this

theorem Kw {t:TypeId} {sz:Nat} (h:LM P t sz=true):∃ e bytes,RowTy P t e sz bytes∧bytes≤140000:=by
 unfold LM at h
 split at h
 ·rename_i e he
  split at h
  ·rename_i m i z h1 h2 h3
   simp only[Bool.and_eq_true,Nat.ble_eq,Bool.not_eq_true'] at h
   obtain ⟨⟨⟨⟨g1,g2⟩,g3⟩,g4⟩,g5⟩:=h
   have g1:=Nat.eq_of_beq_eq_true g1
   subst g1
   have g4:=Nat.eq_of_beq_eq_true g4
   refine ⟨e,i.bytes,⟨he,h1,by rw[h2]; rfl,?_⟩,g2⟩
   rw[h3]
   simp only[Option.map_some,g4,g5,g3]
   simp
  ·cases h
 ·cases h

theorem Tg {α:Type} {E:Enc α} {M:List α} {tx:TypeId} {B:List Box} {x:AV} {hh src:ASrc} (h:aV P tx B E.sz x hh=some src) (ho:src.ok E M):E1 P tx B E.sz x=some (M.length,rowC (M.map E.f)):=by
 unfold aV at h
 split at h
 ·rename_i e he
  cases h
  have hM:M= []:=ho
  subst hM
  unfold E1
  rw[he]
  rfl
 ·rename_i e xs he
  cases hr:LM P tx E.sz with
  | false=>rw[hr] at h; cases h
  | true=>
   rw[hr] at h
   cases h
   obtain ⟨e',bytes,ht,_⟩:=Kw hr
   have hxs:xs=M.map E.f:=ho
   subst hxs
   exact od E.elt ht M
 ·rename_i e b ver sz' off len he
  split at h
  ·rename_i row v cs hb
   cases hc:Nat.beq ver v&&Nat.beq E.sz sz' with
   | false=>rw[hc] at h; cases h
   | true=>
    rw[hc] at h
    simp only[cond_true] at h
    simp only[Bool.and_eq_true] at hc
    have e1:=Nat.eq_of_beq_eq_true hc.1
    have e2:=Nat.eq_of_beq_eq_true hc.2
    subst e1
    have e2':sz'=E.sz:=e2.symm
    subst e2'
    have gen:E1 P tx B E.sz (.rs b ver E.sz off len)=some (len,(cs.drop off).take (len*E.sz)):=by
     unfold E1
     rw[he]
     simp only[hb,Nat.beq_refl,beq_self_eq_true,Bool.and_self,if_true]
    split at h
    ·cases ho2:Nat.beq off 0 with
     | false=>rw[ho2] at h; cases h
     | true=>
      rw[ho2] at h
      cases h
      obtain ⟨g1,g2⟩:=ho
      have:=Nat.eq_of_beq_eq_true ho2
      subst this
      rw[gen,g1,g2,List.drop_zero,←E.elt.rowLen,List.take_length]
    ·cases h
     obtain ⟨g1,g2⟩:=ho
     rw[gen,g2,g1]
    ·cases h
  ·cases h
 ·rename_i s0 he
  cases h
  obtain ⟨g1,g2,g3⟩:=ho
  unfold E1
  rw[he]
  simp only[g1,beq_self_eq_true,if_true]
  rw[g2,g3]
 ·cases h

theorem bndC_spec {t:T} {x:Option Operand} {l:Option Int} (h:NJ t x=some l):(l=none∧x.map (AR t)=none)∨∃ k i,l=some i∧x.map (AR t)=some (.p (.v (.int k i))):=by
 unfold NJ at h
 split at h
 ·cases h; exact .inl ⟨rfl,rfl⟩
 ·rename_i y
  split at h
  ·rename_i k i hy
   cases h
   exact .inr ⟨k,i,rfl,by simp[hy]⟩
  ·cases h

theorem NL {t:T} {lo hi:Option Operand} {l h:Option Int} {len:Nat} (h1:NJ t lo=some l) (h2:NJ t hi=some h) (hk:CE l h len):
  boundsA len (lo.map (AR t)) (hi.map (AR t))=some (A8 l,Be h len)∧A8 l≤Be h len∧Be h len≤len:=by
 unfold boundsA
 rcases bndC_spec h1 with ⟨rfl,e1⟩ | ⟨k1,i1,rfl,e1⟩ <;> rcases bndC_spec h2 with ⟨rfl,e2⟩ | ⟨k2,i2,rfl,e2⟩ <;> rw[e1,e2] <;> simp only[CE] at hk <;> simp only[D8,A8,Be,D7,Option.bind_some]
 ·exact ⟨by trivial,Nat.zero_le _,Nat.le_refl _⟩
 ·rw[if_pos (by omega)]; exact ⟨rfl,by omega,by omega⟩
 ·rw[if_pos (by omega)]; exact ⟨rfl,by omega,by omega⟩
 ·rw[if_pos (by omega)]
  simp only[Option.bind_some]
  rw[if_pos (by omega)]
  exact ⟨rfl,by omega,by omega⟩

theorem lz {α:Type} {l h:Option Int} {L:List α} (hk:CE l h L.length):cutL l h L=(L.take (Be h L.length)).drop (A8 l):=by
 cases l <;> cases h <;> simp[cutL,A8,Be]

theorem Ve {o:Oper} {s:AS} {κ:TypeId→AV→Option Int→Option Int→Tree} (h:(di o s κ).wp K):∃ t x lo hi l r,o.op= .slice t x lo hi none∧NJ s.t lo=some l∧NJ s.t hi=some r∧(κ t (AR s.t x) l r).wp K:=by
 unfold di at h
 split at h
 ·rename_i t x lo hi ho
  split at h
  ·rename_i l r h1 h2
   exact ⟨t,x,lo,hi,l,r,ho,h1,h2,h⟩
  ·exact h.elim
 ·exact h.elim

theorem Pi (L:List UInt8):C0 (rowC (L.map AA.f))=some L:=by
 induction L with
 | nil=>rfl
 | cons b L ih=>
  have:rowC ((b::L).map AA.f)= .p (.v (.int .u8 b.toNat))::rowC (L.map AA.f):=rfl
  rw[this,C0,ih]
  simp

theorem ZG {α:Type} (E:Enc α):∀ (L:List α) (i:Nat) (a:α),i<L.length→Cf (rowC (L.map E.f)) (i*E.sz) ((E.f a).cells.map .p)=rowC ((L.set i a).map E.f)
 | [],i,a,h=>by simp at h
 | x::L,0,a,h=>by
  have hx:=E.size x
  have ha:=E.size a
  simp only[Cf,Nat.zero_mul,List.take_zero,List.nil_append,List.length_map,Nat.zero_add,List.set_cons_zero,List.map_cons]
  unfold rowC
  rw[List.flatMap_cons,List.flatMap_cons,List.map_append,List.map_append]
  congr 1
  rw[List.drop_append]
  simp[hx,ha]
 | x::L,i+1,a,h=>by
  have hx:=E.size x
  have ih:=ZG E L i a (by simpa using h)
  simp only[Cf,List.set_cons_succ,List.map_cons,List.length_map] at ih ⊢
  have e:∀ Y:List PV,rowC (E.f x::Y)=(E.f x).cells.map .p++rowC Y:=by
   intro Y; unfold rowC; rw[List.flatMap_cons,List.map_append]
  rw[e,e,←ih]
  have hl:((E.f x).cells.map AV.p).length=E.sz:=by simp[hx]
  rw[List.take_append,List.drop_append,hl]
  have e1:(i+1)*E.sz - E.sz=i*E.sz:=by rw[Nat.succ_mul]; omega
  have e2:(i+1)*E.sz+(E.f a).cells.length - E.sz=i*E.sz+(E.f a).cells.length:=by rw[Nat.succ_mul]; omega
  rw[e1,e2,List.take_of_length_le (by rw[hl,Nat.succ_mul]; omega),List.drop_of_length_le (by rw[hl,Nat.succ_mul]; omega)]
  simp

theorem Jk {α:Type} (E:Enc α):∀ (L:List α) (i:Nat),(rowC (L.map E.f)).take (i*E.sz)=rowC ((L.take i).map E.f)
 | [],i=>by simp[rowC]
 | x::L,0=>by simp[rowC]
 | x::L,i+1=>by
  have hx:=E.size x
  have e:∀ Y:List PV,rowC (E.f x::Y)=(E.f x).cells.map .p++rowC Y:=by
   intro Y; unfold rowC; rw[List.flatMap_cons,List.map_append]
  rw[List.map_cons,e,List.take_succ_cons,List.map_cons,e,←Jk E L i,List.take_append]
  have hl:((E.f x).cells.map AV.p).length=E.sz:=by simp[hx]
  rw[List.take_of_length_le (by rw[hl,Nat.succ_mul]; omega),hl]
  congr 2
  rw[Nat.succ_mul]; omega

theorem Qx {α:Type} (E:Enc α) (z:α):∀ n:Nat,repeatL ((E.f z).cells.map .p) n=rowC ((List.replicate n z).map E.f)
 | 0=>rfl
 | n+1=>by
  have e:∀ Y:List PV,rowC (E.f z::Y)=(E.f z).cells.map .p++rowC Y:=by
   intro Y; unfold rowC; rw[List.flatMap_cons,List.map_append]
  rw[repeatL,Qx E z n,List.replicate_succ,List.map_cons,e]

theorem l6 {α:Type} (E:Enc α) {L:List α} {i len:Nat} {z:α} (h:i+len=L.length):Cf (rowC (L.map E.f)) (i*E.sz) (repeatL ((E.f z).cells.map .p) len)=rowC ((L.take i++List.replicate len z).map E.f):=by
 unfold Cf
 rw[Jk,Qx,E.elt.rowLen,List.length_replicate,←Nat.add_mul,h,←E.elt.rowLen L,List.drop_length,List.append_nil,List.map_append,Kv]

end Go.Ax
