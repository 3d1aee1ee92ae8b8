/- What code comes to, as a triple: whatever is said of its end holds. To forget, to name boxes and versions anew. -/
import Derived.Test.YtddkloofiknjdaaDoorG11
set_option linter.unusedVariables false
set_option linter.unusedSimpArgs false
set_option linter.unusedSectionVars false
namespace Go.Ax
open Go.RowKit

variable [Glob] {P : Program} {F : Nat → Prop}

def AV.rv (f d:Nat→Nat):AV→AV
 | .ptr b v o=> .ptr (f b) (v+d b) o
 | .rs b v z o l=> .rs (f b) (v+d b) z o l
 | .agg cs=> .agg (rvL f d cs)
 | .fn g cs=> .fn g (rvL f d cs)
 | .tup cs=> .tup (rvL f d cs)
 | .u=> .u
 | .p x=> .p x
 | .rp cs=> .rp cs
 | .mp b=> .mp (f b)
 | .op b=> .op (f b)
 where
 rvL (f d:Nat→Nat):List AV→List AV
  | []=> []
  | c::cs=>c.rv f d::rvL f d cs

theorem rvL_map (f d:Nat→Nat) (cs:List AV):AV.rv.rvL f d cs=cs.map (AV.rv f d):=by
 induction cs with
 | nil=>rfl
 | cons c cs ih=>simp[AV.rv.rvL,ih]

theorem rv_leaf (f d:Nat→Nat) (x:AV):(x.rv f d).leaf=x.leaf:=by cases x <;> rfl

theorem VRel.rv {B B':List Box} {ρ:Loc} {w:World} {f d:Nat→Nat} (hB:∀ j row v cs,B'[j]? = some (.cells row v cs)→∃ cs0:List AV,B[f j]? = some (.cells row (v+d j) cs0)∧cs0.length=cs.length)
  (hX:∀ j cs Φ,B'[j]? = some (.obj cs Φ)→∃ cs0,B[f j]? = some (.obj cs0 Φ))
  (hO:∀ k,Own F B' (fun j=>ρ (f j)) k→Own F B ρ k) {x:AV} {u:Value} (h:VRel F B ρ w x u):∀ {y:AV},x=y.rv f d→y.low B'.length=true→VRel F B' (fun j=>ρ (f j)) w y u:=by
 have hP:∀ (p:PV) (u:Value),PRel (Own F B ρ) w p u→PRel (Own F B' (fun j=>ρ (f j))) w p u:=fun p u hp=>hp.mono (fun k _ ho=>⟨rfl,fun h=>ho (hO k h)⟩) (Nat.le_refl _)
 have parts:∀ {cs:List AV} {us:List Value} {ds:List AV},cs.length=us.length→(∀ (j:Nat) (p:AV) (u:Value),cs[j]? = some p→us[j]? = some u→∀ {y:AV},p=y.rv f d→y.low B'.length=true→VRel F B' (fun j=>ρ (f j)) w y u) →
   cs=AV.rv.rvL f d ds→AV.low.allLow B'.length ds=true→ds.length=us.length∧∀ (j:Nat) (p:AV) (u:Value),ds[j]? = some p→us[j]? = some u→VRel F B' (fun j=>ρ (f j)) w p u:=by
  intro cs us ds h1 ih e hl
  rw[rvL_map] at e
  subst e
  refine ⟨by simpa using h1,fun j p u hp hu=>ih j (p.rv f d) u (by rw[List.getElem?_map,hp]; rfl) hu rfl (allLow_get hl j p hp)⟩
 induction h with
 | u x=>intro y e hl; cases y <;> simp[AV.rv] at e; exact .u x
 | p x y hp=>intro z e hl; cases z <;> simp[AV.rv] at e; subst e; exact .p _ y (hP _ _ hp)
 | mp b r hp=>
  intro y e hl
  cases y <;> simp[AV.rv] at e
  subst e
  refine .mp _ _ ⟨by simpa [AV.low,Nat.blt_eq] using hl,fun cs Φ hc=>?_⟩
  obtain ⟨cs0,g1⟩:=hX _ _ _ hc
  exact hp.2 cs0 Φ g1
 | op b r hp=>
  intro y e hl
  cases y <;> simp[AV.rv] at e
  subst e
  refine .op _ _ ⟨by simpa [AV.low,Nat.blt_eq] using hl,fun cs Φ hc=>?_⟩
  obtain ⟨cs0,g1⟩:=hX _ _ _ hc
  exact hp.2 cs0 Φ g1
 | ptr b ver o a hp=>
  intro y e hl
  cases y <;> simp[AV.rv] at e
  obtain ⟨rfl,rfl,rfl⟩:=e
  refine .ptr _ _ _ a ⟨by simpa [AV.low,Nat.blt_eq] using hl,fun row v cs hc=>?_⟩
  obtain ⟨cs0,g1,_⟩:=hB _ _ _ _ hc
  obtain ⟨q1,q2⟩:=hp.2 row _ cs0 g1
  exact ⟨by omega,fun e=>q2 (by omega)⟩
 | rs b ver sz off len a cap hp=>
  intro y e hl
  cases y <;> simp[AV.rv] at e
  obtain ⟨rfl,rfl,rfl,rfl,rfl⟩:=e
  refine .rs _ _ _ _ _ a cap ⟨by simpa [AV.low,Nat.blt_eq] using hl,hp.2.1,hp.2.2.1,fun row v cs hc=>?_⟩
  obtain ⟨cs0,g1,g2⟩:=hB _ _ _ _ hc
  rw[←g2]
  obtain ⟨q1,q2⟩:=hp.2.2.2 row _ cs0 g1
  exact ⟨by omega,fun e=>q2 (by omega)⟩
 | rp cs a us h1 h2 h3 h4 h5 h6=>
  intro y e hl
  cases y <;> simp[AV.rv] at e
  subst e
  exact .rp _ a us h1 (fun h=>h2 (hO _ h)) h3 h4 h5 (fun j p u hp hu=>hP _ _ (h6 j p u hp hu))
 | agg cs us h1 _ ih=>
  intro y e hl
  cases y <;> simp[AV.rv] at e
  obtain ⟨q1,q2⟩:=parts h1 ih e (by simpa [AV.low] using hl)
  exact .agg _ us q1 q2
 | fn g cs us h1 _ ih=>
  intro y e hl
  cases y <;> simp[AV.rv] at e
  obtain ⟨rfl,e⟩:=e
  obtain ⟨q1,q2⟩:=parts h1 ih e (by simpa [AV.low] using hl)
  exact .fn _ _ us q1 q2
 | tup cs us h1 _ ih=>
  intro y e hl
  cases y <;> simp[AV.rv] at e
  obtain ⟨q1,q2⟩:=parts h1 ih e (by simpa [AV.low] using hl)
  exact .tup _ us q1 q2

structure Wk (s s':AS) (f d:Nat→Nat):Prop where
 t:∀ i,s'.t i= .u∨(s.t i=(s'.t i).rv f d∧(s'.t i).low s'.B.length=true)
 lt:∀ j,j<s'.B.length→f j<s.B.length
 box:∀ (j:Nat) (row:Bool) (v:Nat) (cs':List AV),s'.B[j]? = some (.cells row v cs')→∃ cs:List AV,s.B[f j]? = some (.cells row (v+d j) cs)∧cs.length=cs'.length ∧
  ∀ (i:Nat) (c c':AV),cs[i]? = some c→cs'[i]? = some c'→c=c'.rv f d∧c'.low s'.B.length=true
 inj:∀ i j,i<s'.B.length→j<s'.B.length→f i=f j→i=j
 obj:∀ (j:Nat) (cs':List AV) (Φ:ObjP),s'.B[j]? = some (.obj cs' Φ)→∃ cs:List AV,s.B[f j]? = some (.obj cs Φ)∧cs.length=cs'.length ∧
  ∀ (i:Nat) (c c':AV),cs[i]? = some c→cs'[i]? = some c'→c=c'.rv f d∧c'.low s'.B.length=true

variable {s s' : AS} {f d : Nat → Nat}

theorem Wk.has (h:Wk s s' f d) {j:Nat} {x:Box} (hx:s'.B[j]? = some x) {l:Nat×Nat} {k:Nat} (hk:x.has l k):∃ x0,s.B[f j]? = some x0∧x0.has l k:=by
 cases x with
 | dead=>exact hk.elim
 | cells row v cs=>
  obtain ⟨cs0,g1,_⟩:=h.box _ _ _ _ hx
  exact ⟨_,g1,hk⟩
 | obj cs Φ=>
  obtain ⟨cs0,g1,_⟩:=h.obj _ _ _ hx
  exact ⟨_,g1,hk⟩

theorem Wk.sub (h:Wk s s' f d) {ρ:Loc} (k:Nat) (ho:Own F s'.B (fun j=>ρ (f j)) k):Own F s.B ρ k:=by
 rcases ho with h0 | ⟨b,x,l,h1,h2,h3⟩
 ·exact .inl h0
 ·obtain ⟨x0,g1,g2⟩:=h.has h1 h3
  exact .inr ⟨f b,x0,l,g1,h2,g2⟩

theorem Wk.cell (h:Wk s s' f d) {ρ:Loc} {w:World} {x y:AV} {u:Value} (hx:VRel F s.B ρ w x u) (hc:x=y.rv f d∧y.low s'.B.length=true):VRel F s'.B (fun j=>ρ (f j)) w y u:=
 hx.rv (fun j row v cs hj=>by
  obtain ⟨cs0,g1,g2,_⟩:=h.box _ _ _ _ hj
  exact ⟨cs0,g1,g2⟩) (fun j cs Φ hj=>by
  obtain ⟨cs0,g1,_⟩:=h.obj _ _ _ hj
  exact ⟨cs0,g1⟩) (fun k=>h.sub k) hc.1 hc.2

theorem Wk.inv (h:Wk s s' f d) {ρ:Loc} {w:World} (hI:Inv F s.B ρ w):Inv F s'.B (fun j=>ρ (f j)) w:=by
 refine ⟨fun b row v cs' hb=>?_,fun b row v cs' hb=>?_,fun b cs' Φ hb=>?_,fun b b' x x' l l' k h1 h2 h3 h4 h5 h6=>?_,hI.bound,fun b x l k hb hr hx=>?_,fun g hg=>⟨h.cell (hI.glob g hg).v ⟨rfl,rfl⟩,(hI.glob g hg).sz⟩,fun b v cs k o hb hr=>by
  obtain ⟨cs0,g1,_⟩:=h.box _ _ _ _ hb
  exact hI.off0 _ _ _ _ _ g1 hr⟩
 ·obtain ⟨cs,g1,g2,g3⟩:=h.box _ _ _ _ hb
  rcases hI.box _ _ _ _ g1 with ⟨q1,q2,q3⟩ | ⟨k,o,us,e,fr,q1,q2,q3,q4,q5⟩
  ·subst q3
   exact .inl ⟨q1,q2,List.eq_nil_of_length_eq_zero (by simpa using g2.symm)⟩
  ·refine .inr ⟨k,o,us,e,fr,q1,q2,by omega,q4,fun i c' hc'=>?_⟩
   have hi:i<cs.length:=by rw[g2]; exact (List.getElem?_eq_some_iff.1 hc').1
   obtain ⟨u,e1,e2⟩:=q5 i _ (List.getElem?_eq_getElem hi)
   exact ⟨u,e1,h.cell e2 (g3 i _ _ (List.getElem?_eq_getElem hi) hc')⟩
 ·obtain ⟨cs,g1,g2,g3⟩:=h.box _ _ _ _ hb
  have hl:=hI.leaf _ _ _ _ g1
  rw[List.all_eq_true] at hl ⊢
  intro c' hc'
  obtain ⟨i,hi⟩:=List.getElem?_of_mem hc'
  have hi':i<cs.length:=by rw[g2]; exact (List.getElem?_eq_some_iff.1 hi).1
  have hcl:=hl _ (List.getElem_mem hi')
  obtain ⟨e,_⟩:=g3 i _ _ (List.getElem?_eq_getElem hi') hi
  rw[e,rv_leaf] at hcl
  exact hcl
 ·obtain ⟨cs,g1,g2,g3⟩:=h.obj _ _ _ hb
  obtain ⟨k,o,us,q1,q2,q3,q4⟩:=hI.obox _ _ _ g1
  refine ⟨k,o,us,q1,q2,by omega,fun i c' u hc' hu=>?_⟩
  have hi:i<cs.length:=by rw[g2]; exact (List.getElem?_eq_some_iff.1 hc').1
  exact h.cell (q4 i _ u (List.getElem?_eq_getElem hi) hu) (g3 i _ _ (List.getElem?_eq_getElem hi) hc')
 ·obtain ⟨_,g1,p1⟩:=h.has h1 h5
  obtain ⟨_,g2,p2⟩:=h.has h2 h6
  exact h.inj _ _ (List.getElem?_eq_some_iff.1 h1).1 (List.getElem?_eq_some_iff.1 h2).1 (hI.injx _ _ _ _ _ _ _ g1 g2 h3 h4 p1 p2)
 ·obtain ⟨_,g1,p1⟩:=h.has hb hx
  exact hI.farx _ _ _ _ g1 hr p1

theorem Wk.rel (h:Wk s s' f d) {ρ:Loc} {w:World} {n:Nat} {a:Act} (hR:Rel F s.B ρ w n s.t a):Rel F s'.B (fun j=>ρ (f j)) w n s'.t a:=by
 refine ⟨h.inv hR.inv,fun i=>?_,hR.df,hR.size⟩
 rcases h.t i with h0 | h1
 ·rw[h0]; exact .u _
 ·exact h.cell (hR.tm i) h1

theorem Wk.ext (h:Wk s s' f d) {B0:List Box} {ρ0 ρ:Loc} {w0 w:World} (hE:Ext F B0 ρ0 w0 s.B ρ w) (hf:∀ j,j<B0.length→f j=j∧d j=0) (hl:B0.length≤s'.B.length):Ext F B0 ρ0 w0 s'.B (fun j=>ρ (f j)) w:=by
 refine ⟨hE.size,hE.os,hE.tape,hE.output,fun k hk ho=>⟨(hE.keep k hk ho).1,fun h2=>(hE.keep k hk ho).2 (h.sub k h2)⟩,hE.shape,hl,fun b row v cs hb hc=>?_,fun b cs Φ hb hc=>?_,hE.far⟩
 case refine_2=>
  obtain ⟨cs0,g1,g2,_⟩:=h.obj _ _ _ hc
  rw[(hf b hb).1] at g1
  obtain ⟨cs1,Φ1,q1,q2⟩:=hE.obj b cs0 Φ hb g1
  exact ⟨cs1,Φ1,q1,by rw[(hf b hb).1]; exact q2⟩
 obtain ⟨cs0,g1,g2,_⟩:=h.box _ _ _ _ hc
 rw[(hf b hb).1,(hf b hb).2,Nat.add_zero] at g1
 obtain ⟨v0,cs1,q1,q2,q3⟩:=hE.box b row v cs0 hb g1
 refine ⟨v0,cs1,q1,q2,fun e=>?_⟩
 obtain ⟨p1,p2⟩:=q3 e
 exact ⟨by rw[(hf b hb).1]; exact p1,by omega⟩

/-- Code comes to an end of which K holds, m0 boxes being those from before. With 'true': the rounds of a loop with this body. -/
def Tri (P:Program) (n m0:Nat) (q:Bool) (c:Code) (s:AS) (K:AE→AS→Prop):Prop:=
 ∀ (F:Nat→Prop) (B0:List Box) (ρ0:Loc) (w0:World),B0.length=m0→∀ (ρ:Loc) (w:World) (a:Act),Rel F s.B ρ w n s.t a→Ext F B0 ρ0 w0 s.B ρ w →
  ∀ Q:Exit→Act→World→Prop,(∀ e s' a' w' ρ',K e s'→Rel F s'.B ρ' w' n s'.t a'→Ext F B0 ρ0 w0 s'.B ρ' w'→Q e.to a' w')→goal P q c Q a w

variable {n m0 : Nat} {K : AE → AS → Prop}

theorem Tri.conseq {q:Bool} {c:Code} {K':AE→AS→Prop} (h:Tri P n m0 q c s K) (hk:∀ e s',K e s'→K' e s'):Tri P n m0 q c s K':=
 fun F B0 ρ0 w0 h0 ρ w a hR hE Q hQ=>h F B0 ρ0 w0 h0 ρ w a hR hE Q (fun e s' a' w' ρ' hk'=>hQ e s' a' w' ρ' (hk e s' hk'))

theorem Tri.skip (h:K .normal s):Tri P n m0 false .skip s K:=fun F B0 ρ0 w0 h0 ρ w a hR hE Q hQ=>wp_skip (hQ .normal s a w ρ h hR hE)
theorem Tri.exit {id:Nat} (h:K (.exit id) s):Tri P n m0 false (.exit id) s K:=fun F B0 ρ0 w0 h0 ρ w a hR hE Q hQ=>wp_exit (hQ (.exit id) s a w ρ h hR hE)
theorem Tri.ret (h:K .ret s):Tri P n m0 false .ret s K:=fun F B0 ρ0 w0 h0 ρ w a hR hE Q hQ=>wp_ret (hQ .ret s a w ρ h hR hE)

theorem Tri.seq {a b:Code} (h:Tri P n m0 false a s (fun e s1=>match e with | .normal=>Tri P n m0 false b s1 K | e=>K e s1)):Tri P n m0 false (.seq a b) s K:=by
 intro F B0 ρ0 w0 h0 ρ w ac hR hE Q hQ
 refine wp_seq (h F B0 ρ0 w0 h0 ρ w ac hR hE _ (fun e s1 a' w' ρ' hk hR' hE'=>?_))
 cases e with
 | normal=>exact hk F B0 ρ0 w0 h0 ρ' w' a' hR' hE' Q hQ
 | exit id=>exact hQ (.exit id) s1 a' w' ρ' hk hR' hE'
 | ret=>exact hQ .ret s1 a' w' ρ' hk hR' hE'

theorem Tri.cond {c:Operand} {x y:Code} {q:Bool} (hq:boolA (evalA s.t c)=some q) (hx:q=true→Tri P n m0 false x s K) (hy:q=false→Tri P n m0 false y s K):Tri P n m0 false (.cond c x y) s K:=by
 intro F B0 ρ0 w0 h0 ρ w a hR hE Q hQ
 have hc:=hR.eval c
 unfold boolA at hq
 split at hq
 ·rename_i b hb
  cases hq
  rw[hb] at hc
  have hv:=hc.val
  cases q with
  | true=>exact wp_cond_true hv (hx rfl F B0 ρ0 w0 h0 ρ w a hR hE Q hQ)
  | false=>exact wp_cond_false hv (hy rfl F B0 ρ0 w0 h0 ρ w a hR hE Q hQ)
 ·cases hq

theorem Tri.block {id:Nat} {b:Code} (h:Tri P n m0 false b s (fun e s1=>match e with | .exit i=>if Nat.beq i id then K .normal s1 else K (.exit i) s1 | e=>K e s1)):Tri P n m0 false (.block id b) s K:=by
 intro F B0 ρ0 w0 h0 ρ w a hR hE Q hQ
 refine wp_block (h F B0 ρ0 w0 h0 ρ w a hR hE _ (fun e s1 a' w' ρ' hk hR' hE'=>?_))
 cases e with
 | normal=>exact hQ .normal s1 a' w' ρ' hk hR' hE'
 | ret=>exact hQ .ret s1 a' w' ρ' hk hR' hE'
 | exit i=>
  show (if i=id then Q .normal a' w' else Q (.exit i) a' w')
  simp only at hk
  by_cases e:i=id
  ·subst e
   rw[if_pos rfl]
   rw[if_pos (Nat.beq_refl i)] at hk
   exact hQ .normal s1 a' w' ρ' hk hR' hE'
  ·rw[if_neg e]
   rw[if_neg (fun h=>e (Nat.eq_of_beq_eq_true h))] at hk
   exact hQ (.exit i) s1 a' w' ρ' hk hR' hE'

theorem Tri.loop {b:Code} (h:Tri P n m0 true b s K):Tri P n m0 false (.loop b) s K:=
 fun F B0 ρ0 w0 h0 ρ w a hR hE Q hQ=>wp_of_lwp (h F B0 ρ0 w0 h0 ρ w a hR hE Q hQ)

theorem Tri.round {b:Code} (h:Tri P n m0 false b s (fun e s1=>match e with | .normal=>Tri P n m0 true b s1 K | e=>K e s1)):Tri P n m0 true b s K:=by
 intro F B0 ρ0 w0 h0 ρ w ac hR hE Q hQ
 refine lwp_round (h F B0 ρ0 w0 h0 ρ w ac hR hE _ (fun e s1 a' w' ρ' hk hR' hE'=>?_))
 cases e with
 | normal=>exact hk F B0 ρ0 w0 h0 ρ' w' a' hR' hE' Q hQ
 | exit id=>exact hQ (.exit id) s1 a' w' ρ' hk hR' hE'
 | ret=>exact hQ .ret s1 a' w' ρ' hk hR' hE'

theorem Tri.weak {q:Bool} {c:Code} (hw:Wk s s' f d) (hf:∀ j,j<m0→f j=j∧d j=0) (hl:m0≤s'.B.length) (h:Tri P n m0 q c s' K):Tri P n m0 q c s K:=by
 intro F B0 ρ0 w0 h0 ρ w a hR hE Q hQ
 subst h0
 exact h F B0 ρ0 w0 rfl _ w a (hw.rel hR) (hw.ext hE hf hl) Q hQ

theorem Tri.weakr {q:Bool} {c:Code} {K':AE→AS→Prop} (h:Tri P n m0 q c s K') (hw:∀ e s1,K' e s1→∃ s2 f d,Wk s1 s2 f d∧(∀ j,j<m0→f j=j∧d j=0)∧m0≤s2.B.length∧K e s2):Tri P n m0 q c s K:=by
 intro F B0 ρ0 w0 h0 ρ w a hR hE Q hQ
 subst h0
 refine h F B0 ρ0 w0 rfl ρ w a hR hE Q (fun e s1 a' w' ρ' hk hR' hE'=>?_)
 obtain ⟨s2,f,d,g1,g2,g3,g4⟩:=hw e s1 hk
 exact hQ e s2 a' w' _ g4 (g1.rel hR') (g1.ext hE' g2 g3)

theorem Tri.regionD {Γ:Env} (hm:P.follows .mixedOrders=true) (hΓ:∀ f,SoundF P f (Γ f)) {id:Nat} {ops:Array Oper} (hok:drawOk P Γ ops.toList=true) (h:opsD P Γ n s.B.length ops.toList ops.toList s=some s') (hk:K .normal s'):Tri P n m0 false (.region id ops true) s K:=
 fun F B0 ρ0 w0 h0 ρ w a hR hE Q hQ=>region_draw_sound hm hΓ hok h hR (fun a' w' ρ' hR' hE'=>hQ .normal s' a' w' ρ' hk hR' (hE.trans hE'))

theorem Tri.nilrow {q:Bool} {c:Code} {i sz:Nat} (hi:s.t i=nilS) (h:Tri P n m0 q c ⟨upd s.t i (.rs s.B.length 0 sz 0 0),s.B++ [.cells true 0 []]⟩ K):Tri P n m0 q c s K:=by
 intro F B0 ρ0 w0 h0 ρ w a hR hE Q hQ
 obtain ⟨hI,hE'⟩:=new_nil hR.inv
 refine h F B0 ρ0 w0 h0 _ w a ⟨hI,fun j=>?_,hR.df,hR.size⟩ (hE.trans hE') Q hQ
 dsimp only
 by_cases e:j=i
 ·subst e
  rw[upd_same]
  have:=hR.tm j
  rw[hi] at this
  have hv:=this.val
  rw[hv]
  refine .rs _ _ _ _ _ none 0 ⟨by simp,Nat.le_refl _,fun h=>absurd h (by omega),fun row v cs hc=>?_⟩
  rw[List.getElem?_append_right (Nat.le_refl _)] at hc
  simp at hc
  obtain ⟨rfl,rfl,rfl⟩:=hc
  exact ⟨Nat.le_refl _,fun _=>⟨by simp, .inl rfl⟩⟩
 ·rw[upd_ne _ _ _ _ e]
  exact (hR.tm j).ext hE'

theorem Tri.nills {q:Bool} {c:Code} {i:Nat} (hi:s.t i=nilS) (h:Tri P n m0 q c ⟨upd s.t i (.p (.ls [])),s.B⟩ K):Tri P n m0 q c s K:=by
 intro F B0 ρ0 w0 h0 ρ w a hR hE Q hQ
 refine h F B0 ρ0 w0 h0 ρ w a ⟨hR.inv,fun j=>?_,hR.df,hR.size⟩ hE Q hQ
 dsimp only
 by_cases e:j=i
 ·subst e
  rw[upd_same]
  have:=hR.tm j
  rw[hi] at this
  rw[this.val]
  exact .p _ _ (.nil none 0 (.inr rfl))
 ·rw[upd_ne _ _ _ _ e]
  exact hR.tm j

theorem obj_set {B:List Box} {b j:Nat} {X:Box} {cs:List AV} {Φ:ObjP} (hX:∀ cs Φ,X≠ .obj cs Φ) (h:(B.set b X)[j]? = some (.obj cs Φ)):B[j]? = some (.obj cs Φ):=by
 rw[List.getElem?_set] at h
 split at h
 ·split at h
  ·cases h; exact (hX _ _ rfl).elim
  ·cases h
 ·exact h

theorem retell_ext {F:Nat→Prop} {B B':List Box} {ρ:Loc} {w:World} (hl:B'.length=B.length)
  (hb:∀ (b:Nat) (row:Bool) (v:Nat) (cs':List AV),B'[b]? = some (.cells row v cs')→∃ cs,B[b]? = some (.cells row v cs)∧cs'.length=cs.length)
  (ho:∀ (b:Nat) (cs:List AV) (Φ:ObjP),B'[b]? = some (.obj cs Φ)→B[b]? = some (.obj cs Φ)):(∀ k,Own F B' ρ k→Own F B ρ k)∧Ext F B ρ w B' ρ w:=by
 have hown:∀ k,Own F B' ρ k→Own F B ρ k:=by
  rintro k (h | ⟨b,x,l,h1,h2,h3⟩)
  ·exact .inl h
  ·cases x with
   | dead=>exact h3.elim
   | cells row v cs'=>
    obtain ⟨cs,g1,_⟩:=hb b row v cs' h1
    exact .inr ⟨b,_,l,g1,h2,h3⟩
   | obj cs Φ=>exact .inr ⟨b,_,l,ho b cs Φ h1,h2,h3⟩
 exact ⟨hown,Nat.le_refl _,rfl,rfl,rfl,fun k _ h=>⟨rfl,fun h'=>h (hown k h')⟩,fun _ _ _ h=>h,by omega,fun b row v cs' _ hc=>by
  obtain ⟨cs,g1,g2⟩:=hb b row v cs' hc
  exact ⟨v,cs,g1,Nat.le_refl _,fun _=>⟨rfl,g2⟩⟩,fun b cs Φ _ hc=>⟨cs,Φ,ho b cs Φ hc,rfl⟩,fun _ _ _=>rfl⟩

theorem retell {F:Nat→Prop} {B B':List Box} {ρ:Loc} {w:World} (hI:Inv F B ρ w)
  (hb:∀ (b:Nat) (row:Bool) (v:Nat) (cs':List AV),B'[b]? = some (.cells row v cs')→∃ cs,B[b]? = some (.cells row v cs)∧cs'.length=cs.length∧cs'.all AV.leaf=true ∧
   ∀ (i:Nat) (c':AV),cs'[i]? = some c'→∃ c,cs[i]? = some c∧∀ u,VRel F B ρ w c u→VRel F B' ρ w c' u)
  (ho:∀ (b:Nat) (cs:List AV) (Φ:ObjP),B'[b]? = some (.obj cs Φ)→B[b]? = some (.obj cs Φ)) (hE:Ext F B ρ w B' ρ w):Inv F B' ρ w:=by
 have has:∀ {b:Nat} {x:Box} {l:Nat×Nat} {k:Nat},B'[b]? = some x→x.has l k→∃ x0,B[b]? = some x0∧x0.has l k:=by
  intro b x l k h1 h3
  cases x with
  | dead=>exact h3.elim
  | cells row v cs'=>
   obtain ⟨cs,g1,g2⟩:=hb b row v cs' h1
   exact ⟨_,g1,h3⟩
  | obj cs Φ=>exact ⟨_,ho b cs Φ h1,h3⟩
 refine ⟨fun b row v cs' hc=>?_,fun b row v cs' hc=>?_,fun b cs Φ hc=>?_,fun b b' x x' l l' k h1 h2 h3 h4 h5 h6=>?_,hI.bound,fun b x l k h1 h2 h3=>?_,fun g hg=>(hI.glob g hg).ext hE,fun b v cs k o h1 h2=>by
  obtain ⟨cs0,g1,_⟩:=hb b false v cs h1
  exact hI.off0 _ _ _ _ _ g1 h2⟩
 ·obtain ⟨cs,g1,g2,_,g4⟩:=hb b row v cs' hc
  rcases hI.box b row v cs g1 with ⟨h1,h2,h3⟩ | ⟨k,o,us,e,fr,h1,h2,h3,h4,h5⟩
  ·subst h3
   exact .inl ⟨h1,h2,List.eq_nil_of_length_eq_zero g2⟩
  ·refine .inr ⟨k,o,us,e,fr,h1,h2,by omega,h4,fun i c' hc'=>?_⟩
   obtain ⟨c,f1,f2⟩:=g4 i c' hc'
   obtain ⟨u,e1,e2⟩:=h5 i c f1
   exact ⟨u,e1,f2 u e2⟩
 ·obtain ⟨cs,g1,g2,g3,g4⟩:=hb b row v cs' hc
  exact g3
 ·obtain ⟨k,o,us,g1,g2,g3,g4⟩:=hI.obox b cs Φ (ho b cs Φ hc)
  exact ⟨k,o,us,g1,g2,g3,fun i c u h1 h2=>(g4 i c u h1 h2).ext hE⟩
 ·obtain ⟨_,g1,p1⟩:=has h1 h5
  obtain ⟨_,g2,p2⟩:=has h2 h6
  exact hI.injx _ _ _ _ _ _ _ g1 g2 h3 h4 p1 p2
 ·obtain ⟨_,g1,p1⟩:=has h1 h3
  exact hI.farx _ _ _ _ g1 h2 p1

theorem Tri.mvrow {q:Bool} {c:Code} {i b v sz len:Nat} {cs:List AV} (hi:s.t i= .rs b v sz 0 len) (hb:s.B[b]? = some (.cells true v cs))
  (h:Tri P n m0 q c ⟨upd s.t i (.rs s.B.length 0 sz 0 len),s.B.set b (.cells true (v+1) [])++ [.cells true 0 cs]⟩ K):Tri P n m0 q c s K:=by
 intro F B0 ρ0 w0 h0 ρ w a hR hE Q hQ
 obtain ⟨t,B⟩:=s
 dsimp only at hi hb h hR hE
 have hI:=hR.inv
 have hbl:b<B.length:=(List.getElem?_eq_some_iff.1 hb).1
 have hl':(B.set b (.cells true (v+1) [])).length=B.length:=by simp
 obtain ⟨ρ',hρ⟩:∃ ρ':Loc,ρ'=fun j=>if j=B.length then ρ b else if j=b then none else ρ j:=⟨_,rfl⟩
 obtain ⟨B',hB'⟩:∃ B',B'=B.set b (.cells true (v+1) [])++ [.cells true 0 cs]:=⟨_,rfl⟩
 rw[←hB'] at h
 have hnew:B'[B.length]? = some (.cells true 0 cs):=by rw[hB',List.getElem?_append_right (by simp)]; simp
 have hold:B'[b]? = some (.cells true (v+1) []):=by rw[hB',List.getElem?_append_left (by simpa using hbl)]; simp[hbl]
 have hoth:∀ j,j≠B.length→j≠b→B'[j]? = B[j]? := fun j h1 h2=>by
  rw[hB']
  rcases Nat.lt_or_ge j B.length with hj | hj
  ·rw[List.getElem?_append_left (by simpa using hj),List.getElem?_set_ne (fun e=>h2 e.symm)]
  ·rw[List.getElem?_eq_none (by simp; omega),List.getElem?_eq_none hj]
 have r1:ρ' B.length=ρ b:=by rw[hρ]; simp
 have r2:ρ' b=none:=by rw[hρ]; simp[Nat.ne_of_lt hbl]
 have r3:∀ j,j≠B.length→j≠b→ρ' j=ρ j:=fun j h1 h2=>by rw[hρ]; simp[h1,h2]
 have hhas:∀ {j:Nat} {x:Box} {l:Nat×Nat} {k:Nat},B'[j]? = some x→ρ' j=some l→x.has l k→∃ (j0:Nat) (x0:Box),B[j0]? = some x0∧ρ j0=some l∧x0.has l k∧(j=B.length∧j0=b∨j≠B.length∧j≠b∧j0=j):=by
  intro j x l k h1 h2 h3
  by_cases e1:j=B.length
  ·subst e1
   rw[hnew] at h1
   cases h1
   rw[r1] at h2
   exact ⟨b,_,hb,h2,h3, .inl ⟨rfl,rfl⟩⟩
  ·by_cases e2:j=b
   ·subst e2; rw[r2] at h2; cases h2
   ·rw[hoth j e1 e2] at h1
    rw[r3 j e1 e2] at h2
    exact ⟨j,x,h1,h2,h3, .inr ⟨e1,e2,rfl⟩⟩
 have hown:∀ k,Own F B' ρ' k→Own F B ρ k:=by
  rintro k (h | ⟨j,x,l,h1,h2,h3⟩)
  ·exact .inl h
  ·obtain ⟨j0,x0,g1,g2,g3,_⟩:=hhas h1 h2 h3
   exact .inr ⟨j0,x0,l,g1,g2,g3⟩
 have hE':Ext F B ρ w B' ρ' w:=by
  refine ⟨Nat.le_refl _,rfl,rfl,rfl,fun k _ h=>⟨rfl,fun h'=>h (hown k h')⟩,fun _ _ _ h=>h,by rw[hB']; simp,fun j row v' cs' hj hc=>?_,fun j cs' Φ hj hc=>?_,fun _ _ _=>rfl⟩
  ·have e1:j≠B.length:=by omega
   by_cases e2:j=b
   ·subst e2
    rw[hold] at hc
    cases hc
    exact ⟨v,cs,hb,by omega,fun e=>by omega⟩
   ·rw[hoth j e1 e2] at hc
    exact ⟨v',cs',hc,Nat.le_refl _,fun _=>⟨r3 j e1 e2,rfl⟩⟩
  ·have e1:j≠B.length:=by omega
   by_cases e2:j=b
   ·subst e2; rw[hold] at hc; cases hc
   ·rw[hoth j e1 e2] at hc
    exact ⟨cs',Φ,hc,by rw[r3 j e1 e2]⟩
 have hI':Inv F B' ρ' w:=by
  refine ⟨fun j row v' cs' hc=>?_,fun j row v' cs' hc=>?_,fun j cs' Φ hc=>?_,fun j j' x x' l l' k h1 h2 h3 h4 h5 h6=>?_,hI.bound,fun j x l k h1 h2 h3=>?_,fun g hg=>(hI.glob g hg).ext hE',fun j v' cs' k o hc hr=>?_⟩
  ·by_cases e1:j=B.length
   ·subst e1
    rw[hnew] at hc
    cases hc
    rw[r1]
    rcases hI.box b true v cs hb with h0 | ⟨k,o,us,e,fr,g1,g2,g3,g4,g5⟩
    ·exact .inl h0
    ·exact .inr ⟨k,o,us,e,fr,g1,g2,g3,g4,fun i c hc=>by obtain ⟨u,p1,p2⟩:=g5 i c hc; exact ⟨u,p1,p2.ext hE'⟩⟩
   ·by_cases e2:j=b
    ·subst e2
     rw[hold] at hc
     cases hc
     exact .inl ⟨r2,rfl,rfl⟩
    ·rw[hoth j e1 e2] at hc
     rw[r3 j e1 e2]
     rcases hI.box j row v' cs' hc with h0 | ⟨k,o,us,e,fr,g1,g2,g3,g4,g5⟩
     ·exact .inl h0
     ·exact .inr ⟨k,o,us,e,fr,g1,g2,g3,g4,fun i c hc=>by obtain ⟨u,p1,p2⟩:=g5 i c hc; exact ⟨u,p1,p2.ext hE'⟩⟩
  ·by_cases e1:j=B.length
   ·subst e1
    rw[hnew] at hc
    cases hc
    exact hI.leaf _ _ _ _ hb
   ·by_cases e2:j=b
    ·subst e2
     rw[hold] at hc
     cases hc
     rfl
    ·rw[hoth j e1 e2] at hc
     exact hI.leaf _ _ _ _ hc
  ·by_cases e1:j=B.length
   ·subst e1; rw[hnew] at hc; cases hc
   ·by_cases e2:j=b
    ·subst e2; rw[hold] at hc; cases hc
    ·rw[hoth j e1 e2] at hc
     rw[r3 j e1 e2]
     obtain ⟨k,o,us,g1,g2,g3,g4⟩:=hI.obox j cs' Φ hc
     exact ⟨k,o,us,g1,g2,g3,fun i c u h1 h2=>(g4 i c u h1 h2).ext hE'⟩
  ·obtain ⟨j0,x0,g1,g2,g3,g4⟩:=hhas h1 h3 h5
   obtain ⟨j0',x0',g1',g2',g3',g4'⟩:=hhas h2 h4 h6
   have:=hI.injx _ _ _ _ _ _ _ g1 g1' g2 g2' g3 g3'
   rcases g4 with ⟨a1,a2⟩ | ⟨a1,a2,a3⟩ <;> rcases g4' with ⟨b1,b2⟩ | ⟨b1,b2,b3⟩ <;> omega
  ·obtain ⟨j0,x0,g1,g2,g3,_⟩:=hhas h1 h2 h3
   exact hI.farx _ _ _ _ g1 g2 g3
  ·by_cases e1:j=B.length
   ·subst e1; rw[hnew] at hc; cases hc
   ·by_cases e2:j=b
    ·subst e2; rw[hold] at hc; cases hc
    ·rw[hoth j e1 e2] at hc
     rw[r3 j e1 e2] at hr
     exact hI.off0 _ _ _ _ _ hc hr
 refine h F B0 ρ0 w0 h0 ρ' w a ⟨hI',fun j=>?_,hR.df,hR.size⟩ (hE.trans hE') Q hQ
 dsimp only
 by_cases e:j=i
 ·subst e
  rw[upd_same]
  have hv:=hR.tm j
  rw[hi] at hv
  generalize a.tmps.getD j undef=u at hv
  cases hv with
  | rs _ _ _ _ _ a cap hp=>
   refine .rs _ _ _ _ _ a cap ⟨by rw[hB']; simp,hp.2.1,hp.2.2.1,fun row v' cs' hc=>?_⟩
   rw[hnew] at hc
   cases hc
   refine ⟨Nat.le_refl _,fun _=>?_⟩
   rw[r1]
   exact (hp.2.2.2 _ _ _ hb).2 rfl
 ·rw[upd_ne _ _ _ _ e]
  exact (hR.tm j).ext hE'

theorem all_set {p:AV→Bool} {cs:List AV} {i:Nat} {x:AV} (h:cs.all p=true) (hx:p x=true):(cs.set i x).all p=true:=by
 rw[List.all_eq_true] at h ⊢
 intro y hy
 rcases List.mem_or_eq_of_mem_set hy with hy | rfl
 ·exact h y hy
 ·exact hx

theorem Tri.nilcell {q:Bool} {c:Code} {b i sz v:Nat} {row:Bool} {cs:List AV} (hb:s.B[b]? = some (.cells row v cs)) (hi:cs[i]? = some nilS)
  (h:Tri P n m0 q c ⟨s.t,(s.B++ [Box.cells true 0 []]).set b (Box.cells row v (cs.set i (.rs s.B.length 0 sz 0 0)))⟩ K):Tri P n m0 q c s K:=by
 intro F B0 ρ0 w0 h0 ρ w a hR hE Q hQ
 obtain ⟨hI,hE'⟩:=new_nil hR.inv
 have hbl:b<s.B.length:=(List.getElem?_eq_some_iff.1 hb).1
 have hb1:(s.B++ [Box.cells true 0 []])[b]? = some (.cells row v cs):=by rw[List.getElem?_append_left hbl]; exact hb
 obtain ⟨_,hE2⟩:=retell_ext (F:=F) (B:=s.B++ [Box.cells true 0 []]) (B':=(s.B++ [Box.cells true 0 []]).set b (Box.cells row v (cs.set i (.rs s.B.length 0 sz 0 0)))) (ρ:=fun b=>if b=s.B.length then none else ρ b) (w:=w) (by simp) (fun b' row' v' cs' hc=>by
  rw[List.getElem?_set] at hc
  split at hc
  ·rename_i e
   subst e
   split at hc
   ·cases hc
    exact ⟨cs,hb1,by simp⟩
   ·cases hc
  ·exact ⟨cs',hc,rfl⟩) (fun j cs Φ h=>obj_set (fun _ _ e=>by cases e) h)
 have hI2:=retell (B':=(s.B++ [Box.cells true 0 []]).set b (Box.cells row v (cs.set i (.rs s.B.length 0 sz 0 0)))) hI (fun b' row' v' cs' hc=>by
  rw[List.getElem?_set] at hc
  split at hc
  ·rename_i e
   subst e
   split at hc
   ·cases hc
    refine ⟨cs,hb1,by simp,all_set (hR.inv.leaf b row v cs hb) rfl,fun j c' hc'=>?_⟩
    rw[List.getElem?_set] at hc'
    split at hc'
    ·rename_i e
     subst e
     split at hc'
     ·cases hc'
      refine ⟨_,hi,fun u hu=>?_⟩
      obtain rfl:=hu.val
      refine VRel.ext hE2 (.rs _ _ _ _ _ none 0 ⟨by simp,Nat.le_refl _,fun h=>absurd h (by omega),fun row v cs hc=>?_⟩)
      rw[List.getElem?_append_right (Nat.le_refl _)] at hc
      simp at hc
      obtain ⟨rfl,rfl,rfl⟩:=hc
      exact ⟨Nat.le_refl _,fun _=>⟨by simp, .inl rfl⟩⟩
     ·cases hc'
    ·exact ⟨c',hc',fun u hu=>hu.ext hE2⟩
   ·cases hc
  ·exact ⟨cs',hc,rfl,hI.leaf _ _ _ _ hc,fun j c' hc'=>⟨c',hc',fun u hu=>hu.ext hE2⟩⟩) (fun j cs Φ h=>obj_set (fun _ _ e=>by cases e) h) hE2
 exact h F B0 ρ0 w0 h0 _ w a ⟨hI2,fun j=>((hR.tm j).ext hE').ext hE2,hR.df,hR.size⟩ ((hE.trans hE').trans hE2) Q hQ

theorem Tri.sealcell {q:Bool} {c:Code} {b2 i b v v2 sz len:Nat} {cs cs2:List AV} {xs:List PV} (hb2:s.B[b2]? = some (.cells false v2 cs2)) (hi:cs2[i]? = some (.rs b v sz 0 len)) (hb:s.B[b]? = some (.cells true v cs))
  (hs:∀ (S:Nat→Prop) (B:List Box),S b→B[b]? = some (.cells true v cs)→Sealed S B (.rs b v sz 0 len) (.p (.ls xs)))
  (h:Tri P n m0 q c ⟨s.t,(s.B.set b Box.dead).set b2 (Box.cells false v2 (cs2.set i (.p (.ls xs))))⟩ K):Tri P n m0 q c s K:=by
 intro F B0 ρ0 w0 h0 ρ w a hR hE Q hQ
 have hne:b≠b2:=fun e=>by subst e; rw[hb] at hb2; cases hb2
 have hget:∀ (b':Nat) (row:Bool) (v':Nat) (cs':List AV),((s.B.set b Box.dead).set b2 (Box.cells false v2 (cs2.set i (.p (.ls xs)))))[b']? = some (.cells row v' cs') →
   (b'=b2∧row=false∧v'=v2∧cs'=cs2.set i (.p (.ls xs)))∨(b'≠b2∧b'≠b∧s.B[b']? = some (.cells row v' cs')):=by
  intro b' row v' cs' hc
  rw[List.getElem?_set] at hc
  split at hc
  ·rename_i e
   subst e
   split at hc
   ·cases hc; exact .inl ⟨rfl,rfl,rfl,rfl⟩
   ·cases hc
  ·rename_i e
   rw[List.getElem?_set] at hc
   split at hc
   ·split at hc <;> cases hc
   ·rename_i e'
    exact .inr ⟨fun h=>e h.symm,fun h=>e' h.symm,hc⟩
 obtain ⟨hown,hE2⟩:=retell_ext (F:=F) (B:=s.B) (B':=(s.B.set b Box.dead).set b2 (Box.cells false v2 (cs2.set i (.p (.ls xs))))) (ρ:=ρ) (w:=w) (by simp) (fun b' row' v' cs' hc=>by
  rcases hget b' row' v' cs' hc with ⟨rfl,rfl,rfl,rfl⟩ | ⟨_,_,h3⟩
  ·exact ⟨cs2,hb2,by simp⟩
  ·exact ⟨cs',h3,rfl⟩) (fun j cs Φ h=>obj_set (fun _ _ e=>by cases e) (obj_set (fun _ _ e=>by cases e) h))
 have hI2:=retell (B':=(s.B.set b Box.dead).set b2 (Box.cells false v2 (cs2.set i (.p (.ls xs))))) hR.inv (fun b' row' v' cs' hc=>by
  rcases hget b' row' v' cs' hc with ⟨rfl,rfl,rfl,rfl⟩ | ⟨_,_,h3⟩
  ·refine ⟨cs2,hb2,by simp,all_set (hR.inv.leaf b' false v' cs2 hb2) rfl,fun j c' hc'=>?_⟩
   rw[List.getElem?_set] at hc'
   split at hc'
   ·rename_i e
    subst e
    split at hc'
    ·cases hc'
     refine ⟨_,hi,fun u hu=>?_⟩
     refine Sealed.vrel (S:=fun k=>k=b) hR.inv (hs _ _ rfl hb) hu hown fun b0 row0 v0 cs0 k o hS hB hρ=>?_
     subst hS
     rintro (hF | ⟨b3,x3,l3,g1,g2,g3⟩)
     ·exact hR.inv.farb b0 row0 v0 cs0 k o hB hρ hF
     ·rw[List.getElem?_set] at g1
      split at g1
      ·rename_i e1
       subst e1
       split at g1
       ·cases g1
        exact hne (hR.inv.injx b0 _ _ _ (k,o) l3 k hB hb2 hρ g2 rfl g3)
       ·cases g1
      ·rw[List.getElem?_set] at g1
       split at g1
       ·split at g1
        ·cases g1; exact g3.elim
        ·cases g1
       ·rename_i e2
        exact e2 (hR.inv.injx b0 b3 _ _ (k,o) l3 k hB g1 hρ g2 rfl g3)
    ·cases hc'
   ·exact ⟨c',hc',fun u hu=>hu.ext hE2⟩
  ·exact ⟨cs',h3,rfl,hR.inv.leaf _ _ _ _ h3,fun j c' hc'=>⟨c',hc',fun u hu=>hu.ext hE2⟩⟩) (fun j cs Φ h=>obj_set (fun _ _ e=>by cases e) (obj_set (fun _ _ e=>by cases e) h)) hE2
 exact h F B0 ρ0 w0 h0 _ w a ⟨hI2,fun j=>(hR.tm j).ext hE2,hR.df,hR.size⟩ (hE.trans hE2) Q hQ

theorem Tri.sealslot {q:Bool} {c:Code} {i b v sz len:Nat} {cs:List AV} {xs:List PV} (hi:s.t i= .rs b v sz 0 len) (hb:s.B[b]? = some (.cells true v cs))
  (hs:∀ (S:Nat→Prop) (B:List Box),S b→B[b]? = some (.cells true v cs)→Sealed S B (.rs b v sz 0 len) (.p (.ls xs)))
  (h:Tri P n m0 q c ⟨upd s.t i (.p (.ls xs)),s.B.set b Box.dead⟩ K):Tri P n m0 q c s K:=by
 intro F B0 ρ0 w0 h0 ρ w a hR hE Q hQ
 have hget:∀ (b':Nat) (row:Bool) (v':Nat) (cs':List AV),(s.B.set b Box.dead)[b']? = some (.cells row v' cs')→b'≠b∧s.B[b']? = some (.cells row v' cs'):=by
  intro b' row v' cs' hc
  rw[List.getElem?_set] at hc
  split at hc
  ·split at hc <;> cases hc
  ·rename_i e'
   exact ⟨fun h=>e' h.symm,hc⟩
 obtain ⟨hown,hE2⟩:=retell_ext (F:=F) (B:=s.B) (B':=s.B.set b Box.dead) (ρ:=ρ) (w:=w) (by simp) (fun b' row' v' cs' hc=>⟨cs',(hget b' row' v' cs' hc).2,rfl⟩) (fun j cs Φ h=>obj_set (fun _ _ e=>by cases e) h)
 have hI2:=retell (B':=s.B.set b Box.dead) hR.inv (fun b' row' v' cs' hc=>by
  obtain ⟨_,h3⟩:=hget b' row' v' cs' hc
  exact ⟨cs',h3,rfl,hR.inv.leaf _ _ _ _ h3,fun j c' hc'=>⟨c',hc',fun u hu=>hu.ext hE2⟩⟩) (fun j cs Φ h=>obj_set (fun _ _ e=>by cases e) h) hE2
 refine h F B0 ρ0 w0 h0 _ w a ⟨hI2,fun j=>?_,hR.df,hR.size⟩ (hE.trans hE2) Q hQ
 dsimp only
 by_cases e:j=i
 ·subst e
  rw[upd_same]
  have hv:=hR.tm j
  rw[hi] at hv
  refine Sealed.vrel (S:=fun k=>k=b) hR.inv (hs _ _ rfl hb) hv hown fun b0 row0 v0 cs0 k o hS hB hρ=>?_
  subst hS
  rintro (hF | ⟨b3,x3,l3,g1,g2,g3⟩)
  ·exact hR.inv.farb b0 row0 v0 cs0 k o hB hρ hF
  ·rw[List.getElem?_set] at g1
   split at g1
   ·split at g1
    ·cases g1; exact g3.elim
    ·cases g1
   ·rename_i e2
    exact e2 (hR.inv.injx b0 b3 _ _ (k,o) l3 k hB g1 hρ g2 rfl g3)
 ·rw[upd_ne _ _ _ _ e]
  exact (hR.tm j).ext hE2

end Go.Ax
