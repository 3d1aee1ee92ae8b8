/- The check of trees: code. -/
import Derived.Test.YtddkloofiknjdaaDoorG14
set_option linter.unusedVariables false
set_option linter.unusedSimpArgs false
set_option linter.unusedSectionVars false
namespace Go.Ax
open Go.RowKit

variable [Glob] {P : Program} {Γ : Env} {Δ : REnv} {n m0 : Nat} {K : AE → St → Prop}

def SoundR (P:Program) (f:Nat) (R:RSpec):Prop:=
 ∀ args B r B',R args B r B'→∀ (F:Nat→Prop) ρ w us,Inv F B ρ w→ArgsRel F B ρ w args us→CallOk P f us.toArray w (Post F B ρ w r B')

def StepR (P:Program) (n:Nat) (ops:List Oper) (o:Oper) (s s':AS):Prop:=∃ Γ':Env,(∀ f,SoundF P f (Γ' f))∧stepA P Γ' n ops o s=some s'

def OpsR (P:Program) (n:Nat) (ops:List Oper):List Oper→AS→AS→Prop
 | [],s,s'=>s=s'
 | o::l,s,s'=>∃ s1,StepR P n ops o s s1∧OpsR P n ops l s1 s'

theorem opsR_sound {ops:List Oper} {F:Nat→Prop} {Q:Exit→Act→World→Prop}:∀ (l:List Oper) (s s':AS),OpsR P n ops l s s'→∀ {ρ:Loc} {w:World} {a:Act},Rel F s.B ρ w n s.t a →
  (∀ a' w' ρ',Rel F s'.B ρ' w' n s'.t a'→Ext F s.B ρ w s'.B ρ' w'→Q .normal a' w')→wpList P ops.toArray Q l a w
 | [],s,s',h,ρ,w,a,hR,hQ=>by cases h; exact hQ a w ρ hR (.refl _ _ _)
 | o::l,s,s',⟨s1,⟨Γ',hΓ,h1⟩,h2⟩,ρ,w,a,hR,hQ=>by
  refine wpList_step fun K hK=>?_
  exact step_sound hΓ h1 hR (fun a' w' ρ' hR' hE=>hK _ _ (opsR_sound l s1 s' h2 hR' (fun a2 w2 ρ2 hR2 hE2=>hQ a2 w2 ρ2 hR2 (hE.trans hE2))))

theorem Tri.regionR {s s':AS} {K:AE→AS→Prop} {id:Nat} {ops:Array Oper} (h:OpsR P n ops.toList ops.toList s s') (hk:K .normal s'):Tri P n m0 false (.region id ops false) s K:=by
 intro F B0 ρ0 w0 h0 ρ w a hR hE Q hQ
 refine wp_region_list ?_
 have:=opsR_sound (Q:=Q) ops.toList s s' h hR (fun a' w' ρ' hR' hE'=>hQ .normal s' a' w' ρ' hk hR' (hE.trans hE'))
 simpa using this

open Classical in
/-- One call more is told. -/
noncomputable def overΓ (Γ:Env) (g:Nat) (args:List AV) (B:List Box) (r:AV) (B':List Box):Env:=
 fun f=>if f=g then .gen (fun a b=>if a=args∧b=B then some (r,B') else none) else Γ f

theorem overΓ_ok (hΓ:∀ f,SoundF P f (Γ f)) (hΔ:∀ f,SoundR P f (Δ f)) {g:Nat} {args:List AV} {B:List Box} {r:AV} {B':List Box} (h:Δ g args B r B'):∀ f,SoundF P f (overΓ Γ g args B r B' f):=by
 intro f
 unfold overΓ
 split
 ·rename_i e
  subst e
  intro a b r1 B1 hs
  simp only[FSpec.run] at hs
  split at hs
  ·rename_i he
   cases hs
   rw[he.1,he.2]
   exact hΔ f args B r B' h
  ·cases hs
 ·exact hΓ f

theorem callrC_sound (hΓ:∀ f,SoundF P f (Γ f)) (hΔ:∀ f,SoundR P f (Δ f)) {ops:List Oper} {o:Oper} {s:AS} {d:Option Nat} {v:AV} {B:List Box} {k:Tree} {κ:AS→Tree→Tree} (hw:wantedA ops s.t o=some true)
  (h:(callrC Δ n o s d v B k κ).wp K):∃ s' T',StepR P n ops o s s'∧(κ s' T').wp K:=by
 unfold callrC at h
 split at h
 ·rename_i c hop
  split at h
  ·rename_i f hf
   split at h
   ·rename_i g cap hg
    obtain ⟨hp,h⟩:=h
    have hrun:opA P (overΓ Γ g (c.args.toList.map (evalA s.t)++cap) s.B v B) s.t s.B o.op=some (v,B):=by
     rw[hop]
     simp only[opA,callA,hf,hg,overΓ,if_true,FSpec.run,and_self]
    obtain ⟨v1,B1,t',T',g1,g2,g3⟩:=good_put (P:=P) hrun h
    refine ⟨⟨t',B1⟩,T',⟨_,overΓ_ok hΓ hΔ hp,?_⟩,g3⟩
    unfold stepA
    rw[hw]
    simp only[Option.bind_some,if_true,g1,g2]
    rfl
   ·exact h.elim
  ·exact h.elim
 ·exact h.elim

theorem callxC_sound (hΓ:∀ f,SoundF P f (Γ f)) (hΔ:∀ f,SoundR P f (Δ f)) {ops:List Oper} {o:Oper} {s:AS} {β:Type} {d:Option Nat} {v:β→AV} {B:β→List Box} {k:β→Tree} {κ:AS→Tree→Tree} (hw:wantedA ops s.t o=some true)
  (h:(callxC Δ n o s d v B k κ).wp K):∃ s' T',StepR P n ops o s s'∧(κ s' T').wp K:=by
 unfold callxC at h
 split at h
 ·rename_i c hop
  split at h
  ·rename_i f hf
   split at h
   ·rename_i g cap hg
    obtain ⟨y,hp,h⟩:=h
    have hrun:opA P (overΓ Γ g (c.args.toList.map (evalA s.t)++cap) s.B (v y) (B y)) s.t s.B o.op=some (v y,B y):=by
     rw[hop]
     simp only[opA,callA,hf,hg,overΓ,if_true,FSpec.run,and_self]
    obtain ⟨v1,B1,t',T',g1,g2,g3⟩:=good_put (P:=P) hrun h
    refine ⟨⟨t',B1⟩,T',⟨_,overΓ_ok hΓ hΔ hp,?_⟩,g3⟩
    unfold stepA
    rw[hw]
    simp only[Option.bind_some,if_true,g1,g2]
    rfl
   ·exact h.elim
  ·exact h.elim
 ·exact h.elim

theorem stepC_sound (hΓ:∀ f,SoundF P f (Γ f)) (hΔ:∀ f,SoundR P f (Δ f)) {draw:Option Nat} {ops:List Oper} {o:Oper} {s:AS} {T:Tree} {κ:AS→Tree→Tree} (h:(stepC P Γ Δ n draw ops o s T κ).wp K):
  ∃ s' T',(draw=none→StepR P n ops o s s')∧(∀ n0,draw=some n0→stepD P Γ n n0 ops o s=some s')∧(κ s' T').wp K:=by
 unfold stepC at h
 split at h
 ·rename_i hw
  have hh:=cond_wp h
  clear h
  rcases hh with ⟨hok,h⟩ | ⟨_,h⟩
  ·have good:Good P Γ n K o s κ→∃ s' T',(draw=none→StepR P n ops o s s')∧(∀ n0,draw=some n0→stepD P Γ n n0 ops o s=some s')∧(κ s' T').wp K:=by
    rintro ⟨v,B,t',T',g1,g2,g3⟩
    refine ⟨⟨t',B⟩,T',fun _=>⟨Γ,hΓ,?_⟩,fun n0 hn=>?_,g3⟩
    ·unfold stepA
     rw[hw]
     simp only[Option.bind_some,if_true,g1,g2]
     rfl
    ·subst hn
     unfold stepD
     rw[hw]
     simp only[Option.bind_some,if_true]
     simp only[okD] at hok
     rw[if_pos hok,g1]
     simp only[Option.bind_some,g2]
     rfl
   split at h
   ·have hh:=cond_wp h
    clear h
    rcases hh with ⟨_,h⟩ | ⟨_,h⟩
    ·obtain ⟨s',T',g1,g2⟩:=callrC_sound hΓ hΔ hw h
     refine ⟨s',T',fun _=>g1,?_,g2⟩
     intro n0 hn
     cases hn
    ·exact good (good_plain h)
   ·have hh:=cond_wp h
    clear h
    rcases hh with ⟨_,h⟩ | ⟨_,h⟩
    ·obtain ⟨s',T',g1,g2⟩:=callxC_sound hΓ hΔ hw h
     refine ⟨s',T',fun _=>g1,?_,g2⟩
     intro n0 hn
     cases hn
    ·exact good (good_plain h)
   ·exact good (opC_sound h)
  ·exact h.elim
 ·rename_i hw
  obtain ⟨t',g1,g2⟩:=putC_wp h
  refine ⟨⟨t',s.B⟩,T,fun _=>⟨Γ,hΓ,?_⟩,fun n0 hn=>?_,g2⟩
  ·unfold stepA
   rw[hw]
   simp only[Option.bind_some,Bool.false_eq_true,if_false,g1]
   rfl
  ·unfold stepD
   rw[hw]
   simp only[Option.bind_some,Bool.false_eq_true,if_false,g1]
   rfl
 ·exact h.elim

theorem opsC_sound (hΓ:∀ f,SoundF P f (Γ f)) (hΔ:∀ f,SoundR P f (Δ f)) {draw:Option Nat} {ops:List Oper}:∀ (l:List Oper) {s:AS} {T:Tree} {κ:AS→Tree→Tree},(opsC P Γ Δ n draw ops l s T κ).wp K →
  ∃ s' T',(draw=none→OpsR P n ops l s s')∧(∀ n0,draw=some n0→opsD P Γ n n0 ops l s=some s')∧(κ s' T').wp K
 | [],s,T,κ,h=>⟨s,T,fun _=>rfl,fun _ _=>rfl,h⟩
 | o::rest,s,T,κ,h=>by
  obtain ⟨s1,T1,g1,g2,g3⟩:=stepC_sound hΓ hΔ h
  obtain ⟨s2,T2,f1,f2,f3⟩:=opsC_sound hΓ hΔ rest g3
  refine ⟨s2,T2,fun hn=>⟨s1,g1 hn,f1 hn⟩,fun n0 hn=>?_,f3⟩
  simp only[opsD,g2 n0 hn,Option.bind_some,f2 n0 hn]

section
variable {l : List (Nat × Nat × Option (List PV))}

def fB (l:List (Nat×Nat×Option (List PV))) (j:Nat):Nat:=((l[j]?).map fun x=>x.1).getD 0
def dB (l:List (Nat×Nat×Option (List PV))) (j:Nat):Nat:=((l[j]?).map fun x=>x.2.1).getD 0

theorem idxB_spec:∀ {l:List (Nat×Nat×Option (List PV))} {b k j d:Nat},idxB l b k=some (j,d)→k≤j∧j - k<l.length∧fB l (j - k)=b∧dB l (j - k)=d
 | [],b,k,j,d,h=>by simp[idxB] at h
 | (b',d',r)::l,b,k,j,d,h=>by
  unfold idxB at h
  cases hb:Nat.beq b' b with
  | true=>
   rw[hb] at h
   cases h
   have:=Nat.eq_of_beq_eq_true hb
   subst this
   simp[fB,dB]
  | false=>
   rw[hb] at h
   obtain ⟨h1,h2,h3,h4⟩:=idxB_spec (l:=l) h
   have e:j - k=(j - (k+1))+1:=by omega
   refine ⟨by omega,by simp; omega,?_,?_⟩
   ·rw[e]; simpa [fB] using h3
   ·rw[e]; simpa [dB] using h4

theorem inv_spec:∀ {x y:AV},x.inv l=some y→x=y.rv (fB l) (dB l)∧y.low l.length=true:=by
 have list:∀ {cs:List AV},(∀ c∈cs,∀ {y:AV},c.inv l=some y→c=y.rv (fB l) (dB l)∧y.low l.length=true)→∀ {ds:List AV},AV.inv.invL l cs=some ds→cs=AV.rv.rvL (fB l) (dB l) ds∧AV.low.allLow l.length ds=true:=by
  intro cs
  induction cs with
  | nil=>intro _ ds h; cases h; exact ⟨rfl,rfl⟩
  | cons c cs ih=>
   intro hc ds h
   simp only[AV.inv.invL] at h
   split at h
   ·rename_i e he
    split at h
    ·rename_i es hes
     cases h
     obtain ⟨h1,h2⟩:=hc c (by simp) he
     obtain ⟨h3,h4⟩:=ih (fun c' hc'=>hc c' (by simp[hc'])) hes
     exact ⟨by rw[AV.rv.rvL,←h1,←h3],by simp[AV.low.allLow,h2,h4]⟩
    ·cases h
   ·cases h
 intro x
 induction x using AV.rec (motive_2:=fun cs=>∀ c∈cs,∀ {y:AV},c.inv l=some y→c=y.rv (fB l) (dB l)∧y.low l.length=true) with
 | u=>intro y h; cases h
 | p x=>intro y h; cases h; exact ⟨rfl,rfl⟩
 | rp cs=>intro y h; cases h; exact ⟨rfl,rfl⟩
 | mp b=>
  intro y h
  simp only[AV.inv] at h
  split at h
  ·rename_i j d hj
   obtain ⟨h1,h2,h3,h4⟩:=idxB_spec hj
   simp only[Nat.sub_zero] at h2 h3 h4
   cases h
   exact ⟨by simp only[AV.rv,h3],by simpa [AV.low,Nat.blt_eq] using h2⟩
  ·cases h
 | op b=>
  intro y h
  simp only[AV.inv] at h
  split at h
  ·rename_i j d hj
   obtain ⟨h1,h2,h3,h4⟩:=idxB_spec hj
   simp only[Nat.sub_zero] at h2 h3 h4
   cases h
   exact ⟨by simp only[AV.rv,h3],by simpa [AV.low,Nat.blt_eq] using h2⟩
  ·cases h
 | ptr b v o=>
  intro y h
  simp only[AV.inv] at h
  split at h
  ·rename_i j d hj
   obtain ⟨h1,h2,h3,h4⟩:=idxB_spec hj
   simp only[Nat.sub_zero] at h2 h3 h4
   cases hd:Nat.ble d v with
   | false=>rw[hd] at h; cases h
   | true=>
    rw[hd] at h
    cases h
    rw[Nat.ble_eq] at hd
    refine ⟨?_,by simpa [AV.low,Nat.blt_eq] using h2⟩
    simp only[AV.rv,h3,h4,AV.ptr.injEq,and_true,true_and]
    omega
  ·cases h
 | rs b v z o len=>
  intro y h
  simp only[AV.inv] at h
  split at h
  ·rename_i j d hj
   obtain ⟨h1,h2,h3,h4⟩:=idxB_spec hj
   simp only[Nat.sub_zero] at h2 h3 h4
   cases hd:Nat.ble d v with
   | false=>rw[hd] at h; cases h
   | true=>
    rw[hd] at h
    cases h
    rw[Nat.ble_eq] at hd
    refine ⟨?_,by simpa [AV.low,Nat.blt_eq] using h2⟩
    simp only[AV.rv,h3,h4,AV.rs.injEq,and_true,true_and]
    omega
  ·cases h
 | agg cs ih=>
  intro y h
  simp only[AV.inv] at h
  split at h
  ·rename_i ds hds
   cases h
   obtain ⟨h1,h2⟩:=list ih hds
   exact ⟨by rw[AV.rv,←h1],by simpa [AV.low] using h2⟩
  ·cases h
 | fn g cs ih=>
  intro y h
  simp only[AV.inv] at h
  split at h
  ·rename_i ds hds
   cases h
   obtain ⟨h1,h2⟩:=list ih hds
   exact ⟨by rw[AV.rv,←h1],by simpa [AV.low] using h2⟩
  ·cases h
 | tup cs ih=>
  intro y h
  simp only[AV.inv] at h
  split at h
  ·rename_i ds hds
   cases h
   obtain ⟨h1,h2⟩:=list ih hds
   exact ⟨by rw[AV.rv,←h1],by simpa [AV.low] using h2⟩
  ·cases h
 | nil=>exact absurd ‹_∈([]:List AV)› (List.not_mem_nil)
 | cons c cs h1 h2=>
  rename_i c' hc' y hy
  rcases List.mem_cons.1 hc' with rfl | hc'
  ·exact h1 hy
  ·exact h2 _ hc' hy

theorem invL_spec:∀ {cs ds:List AV},AV.inv.invL l cs=some ds→cs.length=ds.length∧∀ (i:Nat) (c c':AV),cs[i]? = some c→ds[i]? = some c'→c=c'.rv (fB l) (dB l)∧c'.low l.length=true
 | [],ds,h=>by cases h; exact ⟨rfl,fun i c c' h=>by simp at h⟩
 | c::cs,ds,h=>by
  simp only[AV.inv.invL] at h
  split at h
  ·rename_i e he
   split at h
   ·rename_i es hes
    cases h
    obtain ⟨g1,g2⟩:=invL_spec hes
    refine ⟨by simp[g1],fun i x y hx hy=>?_⟩
    cases i with
    | zero=>cases hx; cases hy; exact inv_spec he
    | succ i=>exact g2 i x y (by simpa using hx) (by simpa using hy)
   ·cases h
  ·cases h

theorem row_pure (xs:List PV) (i:Nat) (c:AV) (h:(rowC xs)[i]? = some c) (f d:Nat→Nat) (m:Nat):c=c.rv f d∧c.low m=true:=by
 unfold rowC at h
 rw[List.getElem?_map] at h
 cases hx:(xs.flatMap PV.cells)[i]? with
 | none=>rw[hx] at h; cases h
 | some x=>rw[hx] at h; cases h; exact ⟨rfl,rfl⟩

theorem invBoxes_spec {B:List Box}:∀ {r:List (Nat×Nat×Option (List PV))} {olds:List (List AV)} {Bs:List Box},invBoxes l B r=some (olds,Bs)→olds=(r.filterMap fun b=>b.2.2.map rowC) →
  Bs.length=r.length∧(∀ (j:Nat) (row:Bool) (v:Nat) (cs':List AV),Bs[j]? = some (.cells row v cs')→∃ x,r[j]? = some x∧∃ cs:List AV,B[x.1]? = some (.cells row (v+x.2.1) cs)∧cs.length=cs'.length ∧
   ∀ (i:Nat) (c c':AV),cs[i]? = some c→cs'[i]? = some c'→c=c'.rv (fB l) (dB l)∧c'.low l.length=true) ∧
   ∀ (j:Nat) (cs':List AV) (Φ:ObjP),Bs[j]? = some (.obj cs' Φ)→∃ x,r[j]? = some x∧∃ cs:List AV,B[x.1]? = some (.obj cs Φ)∧cs.length=cs'.length ∧
   ∀ (i:Nat) (c c':AV),cs[i]? = some c→cs'[i]? = some c'→c=c'.rv (fB l) (dB l)∧c'.low l.length=true
 | [],olds,Bs,h,_=>by cases h; exact ⟨rfl,fun j row v cs' h=>by simp at h,fun j cs' Φ h=>by simp at h⟩
 | (b,d,x)::r,olds,Bs,h,ho=>by
  simp only[invBoxes] at h
  split at h
  ·rename_i row v cs hb
   cases hd:Nat.ble d v with
   | false=>rw[hd] at h; cases h
   | true=>
    rw[hd] at h
    rw[Nat.ble_eq] at hd
    simp only[cond_true] at h
    split at h
    ·rename_i olds1 Bs1 h1
     split at h
     ·rename_i xs
      cases h
      simp only[List.filterMap_cons,Option.map_some,List.cons.injEq] at ho
      obtain ⟨rfl,ho⟩:=ho
      obtain ⟨g1,g2,g3⟩:=invBoxes_spec h1 ho
      refine ⟨by simp[g1],fun j row' v' cs' hj=>?_,fun j cs' Φ hj=>by
       cases j with
       | zero=>simp at hj
       | succ j=>exact g3 j cs' Φ (by simpa using hj)⟩
      cases j with
      | zero=>
       simp only[List.getElem?_cons_zero,Option.some.injEq,Box.cells.injEq] at hj
       obtain ⟨rfl,rfl,rfl⟩:=hj
       refine ⟨_,rfl,rowC xs,?_,rfl,fun i c c' hc hc'=>?_⟩
       ·dsimp only
        rw[show v - d+d=v by omega]
        exact hb
       ·rw[hc] at hc'
        cases hc'
        exact row_pure xs i c hc _ _ _
      | succ j=>exact g2 j row' v' cs' (by simpa using hj)
     ·split at h
      ·rename_i ds hds
       cases h
       simp only[List.filterMap_cons,Option.map_none] at ho
       obtain ⟨g1,g2,g3⟩:=invBoxes_spec h1 ho
       refine ⟨by simp[g1],fun j row' v' cs' hj=>?_,fun j cs' Φ hj=>by
        cases j with
        | zero=>simp at hj
        | succ j=>exact g3 j cs' Φ (by simpa using hj)⟩
       cases j with
       | zero=>
        simp only[List.getElem?_cons_zero,Option.some.injEq,Box.cells.injEq] at hj
        obtain ⟨rfl,rfl,rfl⟩:=hj
        obtain ⟨f1,f2⟩:=invL_spec hds
        refine ⟨_,rfl,cs,?_,f1,f2⟩
        dsimp only
        rw[show v - d+d=v by omega]
        exact hb
       | succ j=>exact g2 j row' v' cs' (by simpa using hj)
      ·cases h
    ·cases h
  ·rename_i cs Φ hb
   split at h
   ·rename_i olds1 Bs1 ds h1 hds
    cases h
    simp only[List.filterMap_cons,Option.map_none] at ho
    obtain ⟨g1,g2,g3⟩:=invBoxes_spec h1 ho
    refine ⟨by simp[g1],fun j row' v' cs' hj=>?_,fun j cs' Φ' hj=>?_⟩
    ·cases j with
     | zero=>simp at hj
     | succ j=>exact g2 j row' v' cs' (by simpa using hj)
    ·cases j with
     | zero=>
      simp only[List.getElem?_cons_zero,Option.some.injEq,Box.obj.injEq] at hj
      obtain ⟨rfl,rfl⟩:=hj
      obtain ⟨f1,f2⟩:=invL_spec hds
      exact ⟨_,rfl,cs,hb,f1,f2⟩
     | succ j=>exact g3 j cs' Φ' (by simpa using hj)
   ·cases h
  ·cases h

theorem noDupB_spec:∀ {l:List (Nat×Nat×Option (List PV))},noDupB l=true→∀ i j,i<l.length→j<l.length→fB l i=fB l j→i=j
 | [],_,i,_,h,_,_=>by simp at h
 | x::r,hd,i,j,hi,hj,e=>by
  simp only[noDupB,Bool.and_eq_true,Bool.not_eq_true',List.any_eq_false] at hd
  have at0:∀ k,k<r.length→fB (x::r) (k+1)≠x.1:=fun k hk he=>by
   have:fB (x::r) (k+1)=r[k].1:=by simp[fB,hk]
   rw[this] at he
   exact hd.1 r[k] (List.getElem_mem hk) (by rw[he]; exact Nat.beq_refl _)
  have hz:fB (x::r) 0=x.1:=rfl
  cases i with
  | zero=>
   cases j with
   | zero=>rfl
   | succ j=>exact (at0 j (by simpa using hj) (by rw[←e,hz])).elim
  | succ i=>
   cases j with
   | zero=>exact (at0 i (by simpa using hi) (by rw[e,hz])).elim
   | succ j=>
    have h1:fB (x::r) (i+1)=fB r i:=by simp[fB]
    have h2:fB (x::r) (j+1)=fB r j:=by simp[fB]
    have:=noDupB_spec hd.2 i j (by simpa using hi) (by simpa using hj) (by rw[←h1,←h2]; exact e)
    omega

theorem staysB_spec {m0:Nat}:∀ {l:List (Nat×Nat×Option (List PV))} {k:Nat},staysB m0 k l=true→∀ j,k+j<m0→j<l.length→fB l j=k+j∧dB l j=0
 | [],_,_,j,_,h=>by simp at h
 | x::r,k,hs,j,hm,hj=>by
  simp only[staysB,Bool.and_eq_true,Bool.or_eq_true,Nat.ble_eq] at hs
  cases j with
  | zero=>
   rcases hs.1 with h | h
   ·omega
   ·exact ⟨Nat.eq_of_beq_eq_true h.1,Nat.eq_of_beq_eq_true h.2⟩
  | succ j=>
   obtain ⟨h1,h2⟩:=staysB_spec hs.2 j (by omega) (by simpa using hj)
   refine ⟨?_,?_⟩
   ·rw[show k+(j+1)=k+1+j by omega,←h1]; simp[fB]
   ·rw[←h2]; simp[dB]
end

theorem weakC_wk {W:Wd} {s:AS} {olds:List (List AV)} {c:St} (h:weakC m0 W s=some (olds,c)) (ho:oldsOk W olds):
  Wk s c.as (fB W.boxes) (dB W.boxes)∧(∀ j,j<m0→fB W.boxes j=j∧dB W.boxes j=0)∧m0≤c.as.B.length:=by
 unfold weakC at h
 cases hc:noDupB W.boxes&&staysB m0 0 W.boxes&&Nat.ble m0 W.boxes.length with
 | false=>rw[hc] at h; cases h
 | true=>
  rw[hc] at h
  simp only[cond_true] at h
  simp only[Bool.and_eq_true,Nat.ble_eq] at hc
  obtain ⟨⟨g1,g2⟩,g3⟩:=hc
  split at h
  ·rename_i olds1 Bs hB
   cases h
   obtain ⟨q1,q2,q3⟩:=invBoxes_spec hB ho
   have hlen:(St.as (W.slots.map fun i=>(i,invSlot W.boxes (s.t i)),Bs)).B.length=W.boxes.length:=q1
   have hfx:∀ (j:Nat) x,W.boxes[j]? = some x→fB W.boxes j=x.1∧dB W.boxes j=x.2.1:=fun j x hx=>by simp[fB,dB,hx]
   have hbox:∀ (j:Nat) (row:Bool) (v:Nat) (cs':List AV),Bs[j]? = some (.cells row v cs')→∃ cs:List AV,s.B[fB W.boxes j]? = some (.cells row (v+dB W.boxes j) cs)∧cs.length=cs'.length ∧
     ∀ (i:Nat) (c c':AV),cs[i]? = some c→cs'[i]? = some c'→c=c'.rv (fB W.boxes) (dB W.boxes)∧c'.low W.boxes.length=true:=by
    intro j row v cs' hj
    obtain ⟨x,hx,cs,e1,e2,e3⟩:=q2 j row v cs' hj
    rw[(hfx j x hx).1,(hfx j x hx).2]
    exact ⟨cs,e1,e2,e3⟩
   refine ⟨⟨fun i=>?_,fun j hj=>?_,fun j row v cs' hj=>?_,fun i j hi hj e=>noDupB_spec g1 i j (by omega) (by omega) e,fun j cs' Φ hj=>?_⟩,fun j hj=>?_,by omega⟩
   ·rcases tk_get (W.slots.map fun i=>(i,invSlot W.boxes (s.t i))) i with h | ⟨j,v,hj,hv⟩
    ·exact .inl h
    ·rw[List.getElem?_map] at hj
     cases hs:W.slots[j]? with
     | none=>rw[hs] at hj; cases hj
     | some i'=>
      rw[hs] at hj
      simp only[Option.map_some,Option.some.injEq,Prod.mk.injEq] at hj
      obtain ⟨rfl,rfl⟩:=hj
      show tk _ i'= .u∨_=AV.rv _ _ (tk _ i')∧AV.low _ (tk _ i')=true
      rw[hv]
      unfold invSlot
      split
      ·rename_i y hy
       have:=inv_spec hy
       rw[←q1] at this
       exact .inr this
      ·exact .inl rfl
   ·have hj':j<W.boxes.length:=by omega
    -- the box is there
    have:∀ {r:List (Nat×Nat×Option (List PV))} {olds:List (List AV)} {Bs:List Box},invBoxes W.boxes s.B r=some (olds,Bs)→∀ (j:Nat) (x:Nat×Nat×Option (List PV)),r[j]? = some x→x.1<s.B.length:=by
     intro r
     induction r with
     | nil=>intro _ _ _ j x hx; simp at hx
     | cons y r ih=>
      intro olds Bs h j x hx
      obtain ⟨b,d,z⟩:=y
      simp only[invBoxes] at h
      split at h
      ·rename_i row v cs hb
       cases j with
       | zero=>cases hx; exact (List.getElem?_eq_some_iff.1 hb).1
       | succ j=>
        cases hd:Nat.ble d v with
        | false=>rw[hd] at h; cases h
        | true=>
         rw[hd] at h
         simp only[cond_true] at h
         split at h
         ·rename_i o1 B1 h1
          exact ih h1 j x (by simpa using hx)
         ·cases h
      ·rename_i cs Φ hb
       cases j with
       | zero=>cases hx; exact (List.getElem?_eq_some_iff.1 hb).1
       | succ j=>
        split at h
        ·rename_i o1 B1 ds h1 hds
         exact ih h1 j x (by simpa using hx)
        ·cases h
      ·cases h
    have hx:W.boxes[j]? = some W.boxes[j]:=List.getElem?_eq_getElem hj'
    rw[(hfx j _ hx).1]
    exact this hB j _ hx
   ·rw[hlen]; exact hbox j row v cs' hj
   ·rw[hlen]
    obtain ⟨x,hx,cs,e1,e2,e3⟩:=q3 j cs' Φ hj
    rw[(hfx j x hx).1]
    exact ⟨cs,e1,e2,e3⟩
   ·obtain ⟨e1,e2⟩:=staysB_spec g2 j (by omega) (by omega)
    exact ⟨by omega,e2⟩
  ·cases h

end Go.Ax

namespace Go.Ax
open Go.RowKit

variable [Glob] {P : Program} {F : Nat → Prop}

def calleeA (t:T):Op→Option Nat
 | .call c=>match c.callee with
  | .value f=>match evalA t f with
   | .fn g _=>some g
   | _=>none
  | _=>none
 | _=>none

theorem opA_local {Γ1 Γ2:Env} {t:T} {B:List Box} {op:Op} (h:∀ g,calleeA t op=some g→Γ1 g=Γ2 g):opA P Γ1 t B op=opA P Γ2 t B op:=by
 cases op with
 | call c=>
  simp only[opA,callA]
  simp only[calleeA] at h
  split
  ·rfl
  ·rename_i f hf
   rw[hf] at h
   dsimp only at h
   split
   ·rename_i g cap hg
    rw[hg] at h
    rw[h g rfl]
   ·rfl
  all_goals rfl
 | makeFunc fn first cap=>cases fn <;> rfl
 | slice t x lo hi mx=>cases mx <;> rfl
 | makeMap t r=>cases r <;> rfl
 | _=>rfl

theorem clsOf_congr {Γ1 Γ2:Env} (h:∀ f,isPure (Γ1 f)=isPure (Γ2 f)) (ops:List Oper) (op:Op):clsOf P Γ1 ops op=clsOf P Γ2 ops op:=by
 cases op <;> simp only[clsOf,h]

theorem cls_callee {Γ:Env} {t:T} {op:Op} {g:Nat} (h:calleeA t op=some g) (hp:isPure (Γ g)=false) (ops:List Oper):clsOf P Γ ops op= .wo:=by
 cases op with
 | call c=>
  simp only[calleeA] at h
  split at h
  ·rename_i f hf
   simp only[clsOf]
   rw[hf]
   split at h
   ·rename_i g' cap hg
    cases h
    split
    all_goals first | rfl | (rename_i he; cases he) | skip
    all_goals simp_all [evalA]
   ·cases h
  ·cases h
 | _=>cases h

def Over (Γ Γ':Env):Prop:=∀ f,Γ' f=Γ f∨(Γ f= .none∧isPure (Γ' f)=false)
theorem Over.pure {Γ Γ':Env} (h:Over Γ Γ') (f:Nat):isPure (Γ' f)=isPure (Γ f):=by
 rcases h f with h | ⟨h1,h2⟩
 ·rw[h]
 ·rw[h1,h2]; rfl

theorem stepD_congr {Γ1 Γ2:Env} {n n0:Nat} {ops:List Oper} {o:Oper} {s:AS} (h1:∀ f,isPure (Γ1 f)=isPure (Γ2 f)) (h2:∀ g,calleeA s.t o.op=some g→Γ1 g=Γ2 g):stepD P Γ1 n n0 ops o s=stepD P Γ2 n n0 ops o s:=by
 unfold stepD
 rw[clsOf_congr h1,opA_local h2]

def StepX (P:Program) (Γ:Env) (n n0:Nat) (ops:List Oper) (o:Oper) (s s':AS):Prop:=∃ Γ':Env,(∀ f,SoundF P f (Γ' f))∧Over Γ Γ'∧stepD P Γ' n n0 ops o s=some s'

theorem swapX {Γ:Env} {n n0:Nat} {ops:List Oper} {oi oj:Oper} {s s1 s2:AS} (hap:oi.apart ops.toArray oj=true) (hcl:(clsOf P Γ ops oi.op).clash (clsOf P Γ ops oj.op)=false)
  (h1:StepX P Γ n n0 ops oi s s1) (h2:StepX P Γ n n0 ops oj s1 s2):∃ s1',StepX P Γ n n0 ops oj s s1'∧StepX P Γ n n0 ops oi s1' s2:=by
 obtain ⟨Γi,ok1,ov1,d1⟩:=h1
 obtain ⟨Γj,ok2,ov2,d2⟩:=h2
 have hok:∀ f,SoundF P f ((fun f=>if calleeA s.t oi.op=some f then Γi f else Γj f:Env) f):=fun f=>by
  dsimp only
  split
  ·exact ok1 f
  ·exact ok2 f
 have hov:Over Γ (fun f=>if calleeA s.t oi.op=some f then Γi f else Γj f:Env):=fun f=>by
  dsimp only
  split
  ·exact ov1 f
  ·exact ov2 f
 have e1:stepD P (fun f=>if calleeA s.t oi.op=some f then Γi f else Γj f:Env) n n0 ops oi s=some s1:=by
  rw[stepD_congr (Γ2:=Γi) (fun f=>(hov.pure f).trans (ov1.pure f).symm) (fun g hg=>by rw[if_pos hg])]
  exact d1
 have e2:stepD P (fun f=>if calleeA s.t oi.op=some f then Γi f else Γj f:Env) n n0 ops oj s1=some s2:=by
  rw[stepD_congr (Γ2:=Γj) (fun f=>(hov.pure f).trans (ov2.pure f).symm) (fun g hg=>?_)]
  ·exact d2
  ·by_cases hi:calleeA s.t oi.op=some g
   ·rw[if_pos hi]
    rcases ov1 g with a | ⟨a,a'⟩
    ·rcases ov2 g with b | ⟨b,b'⟩
     ·rw[a,b]
     ·have hp:isPure (Γ g)=false:=by rw[b]; rfl
      rw[cls_callee hi hp,cls_callee hg hp] at hcl
      cases hcl
    ·have hp:isPure (Γ g)=false:=by rw[a]; rfl
     rw[cls_callee hi hp,cls_callee hg hp] at hcl
     cases hcl
   ·rw[if_neg hi]
 have hcl2:(clsOf P (fun f=>if calleeA s.t oi.op=some f then Γi f else Γj f:Env) ops oi.op).clash (clsOf P (fun f=>if calleeA s.t oi.op=some f then Γi f else Γj f:Env) ops oj.op)=false:=by
  rw[clsOf_congr (fun f=>hov.pure f),clsOf_congr (fun f=>hov.pure f)]
  exact hcl
 obtain ⟨s1',q1,q2⟩:=swap hap hcl2 e1 e2
 exact ⟨s1',⟨_,hok,hov,q1⟩,⟨_,hok,hov,q2⟩⟩

def AnyX (P:Program) (Γ:Env) (n n0:Nat) (ops:List Oper) (Fin:AS→Prop):Nat→Array Bool→AS→Prop
 | 0,L,s=>Region.ready .any ops.toArray L= []∧Fin s
 | f+1,L,s=>(Region.ready .any ops.toArray L= []→Fin s) ∧
  ∀ i∈Region.ready .any ops.toArray L,∃ oi s1,ops[i]? = some oi∧StepX P Γ n n0 ops oi s s1∧AnyX P Γ n n0 ops Fin f (L.setIfInBounds i true) s1

theorem anyX_first {Γ:Env} {n n0:Nat} {ops:List Oper} {Fin:AS→Prop} {i:Nat} {oi:Oper} (hi:ops[i]? = some oi):
  ∀ (fuel:Nat) (L:Array Bool) (s s1:AS),(∀ j oj,ops[j]? = some oj→j≠i→L.getD j true=false→reach ops 24 j i=true∨(oi.apart ops.toArray oj=true∧(clsOf P Γ ops oi.op).clash (clsOf P Γ ops oj.op)=false)) →
   Closed ops L→i∈Region.ready .any ops.toArray L→StepX P Γ n n0 ops oi s s1 →
   AnyX P Γ n n0 ops Fin fuel (L.setIfInBounds i true) s1→AnyX P Γ n n0 ops Fin (fuel+1) L s:=by
 intro fuel
 induction fuel with
 | zero=>
  intro L s s1 hfree hc hr hs H
  refine ⟨fun h=>(by rw[h] at hr; cases hr),fun j hj=>?_⟩
  by_cases hji:j=i
  ·subst hji; exact ⟨oi,s1,hi,hs,H⟩
  ·have:=ready_mono hj hji
   rw[H.1] at this
   cases this
 | succ fuel ih=>
  intro L s s1 hfree hc hr hs H
  refine ⟨fun h=>(by rw[h] at hr; cases hr),fun j hj=>?_⟩
  by_cases hji:j=i
  ·subst hji; exact ⟨oi,s1,hi,hs,H⟩
  ·obtain ⟨oj,s2,hoj,hs2,H2⟩:=H.2 j (ready_mono hj hji)
   have hjl:L.getD j true=false:=(mem_ready.1 hj).1
   have hil:L.getD i true=false:=(mem_ready.1 hr).1
   obtain ⟨oj',hoj',hall⟩:=ready_waits hj
   rw[hoj] at hoj'
   cases hoj'
   rcases hfree j oj hoj hji hjl with hre | ⟨hap,hcl⟩
   ·have:=reach_listed hc 24 j hre (fun oj' hoj'=>by rw[hoj] at hoj'; cases hoj'; exact hall)
    rw[not_listed hil] at this
    cases this
   ·obtain ⟨s1',e1,e2⟩:=swapX hap hcl hs hs2
    refine ⟨oj,s1',hoj,e1,ih (L.setIfInBounds j true) s1' s2 (fun k ok hok hki hkl=>hfree k ok hok hki ?_) (closed_set hc hj) (ready_mono hr (Ne.symm hji)) e2 ?_⟩
    ·by_cases hkj:k=j
     ·rw[hkj]; exact hjl
     ·rwa[getD_set_ne true (Ne.symm hkj)] at hkl
    ·rw[Array.setIfInBounds_comm _ _ hji]
     exact H2

theorem anyX_sound {Γ:Env} {n n0:Nat} {ops:List Oper} {Fin:AS→Prop} {Q:Exit→Act→World→Prop}:∀ (fuel:Nat) (L:Array Bool) (s:AS),AnyX P Γ n n0 ops Fin fuel L s→∀ {ρ:Loc} {w:World} {a:Act},Rel F s.B ρ w n s.t a →
  (∀ fin a' w' ρ',Fin fin→Rel F fin.B ρ' w' n fin.t a'→Ext F s.B ρ w fin.B ρ' w'→Q .normal a' w')→wpAny P .any ops.toArray Q fuel L a w
 | 0,L,s,h,ρ,w,a,hR,hQ=>by
  obtain ⟨h1,h2⟩:=h
  exact ⟨h1,hQ s a w ρ h2 hR (.refl _ _ _)⟩
 | fuel+1,L,s,h,ρ,w,a,hR,hQ=>by
  refine ⟨fun h0=>hQ s a w ρ (h.1 h0) hR (.refl _ _ _),fun i hi=>?_⟩
  obtain ⟨oi,s1,hoi,⟨Γ',hΓ',_,hs⟩,H⟩:=h.2 i hi
  unfold wpOp
  have:ops.toArray[i]? = some oi:=by simpa using hoi
  rw[this]
  simp only
  have hst:=step_sound hΓ' (stepD_step hs) hR (K:=wpAny P .any ops.toArray Q fuel (L.setIfInBounds i true)) (Q:=Q) (fun a' w' ρ' hR' hE=>anyX_sound fuel _ s1 H hR' (fun fin a2 w2 ρ2 hF hR2 hE2=>hQ fin a2 w2 ρ2 hF hR2 (hE.trans hE2)))
  split
  ·rename_i hw; rw[if_pos hw] at hst; exact .inl hst
  ·rename_i hw; rw[if_neg hw] at hst; exact hst

theorem Tri.regionX {Γ:Env} {m0:Nat} {s:AS} {K:AE→AS→Prop} (hm:P.follows .mixedOrders=true) {id n n0:Nat} {ops:Array Oper} (h:AnyX P Γ n n0 ops.toList (K .normal) ops.size (Array.replicate ops.size false) s):Tri P n m0 false (.region id ops true) s K:=by
 intro F B0 ρ0 w0 h0 ρ w a hR hE Q hQ
 refine wp_region_any hm ?_
 obtain ⟨hR2,hE2⟩:=drew_rel hR (w.drawn+1)
 have:=anyX_sound (Q:=Q) _ _ s h hR2 (fun fin a' w' ρ' hk h1 h2=>hQ .normal fin a' w' ρ' hk h1 ((hE.trans hE2).trans h2))
 simpa using this

end Go.Ax
