/- Any operation, a call too: what it does in a world is what the second reading says. -/
import Derived.Test.YtddkloofiknjdaaDoorG8
set_option linter.unusedVariables false
set_option linter.unusedSimpArgs false
set_option linter.unusedSectionVars false
namespace Go.Ax
open Go.RowKit

variable [Glob] {P : Program} {F : Nat → Prop}

def Post (F:Nat→Prop) (B:List Box) (ρ:Loc) (w:World) (r:AV) (B':List Box):Ending→World→Prop:=
 fun e w'=>∃ v ρ',e= .returned v∧Inv F B' ρ' w'∧Ext F B ρ w B' ρ' w'∧VRel F B' ρ' w' r v

def CallOk (P:Program) (f:FuncId) (args:Array Value) (w:World) (R:Ending→World→Prop):Prop:=
 ((callFunc f args).run P w= .ok (.enter f args) w∧Calls P f args w R)∨∃ v w',(callFunc f args).run P w= .ok (.value v) w'∧R (.returned v) w'

def ArgsRel (F:Nat→Prop) (B:List Box) (ρ:Loc) (w:World) (as:List AV) (us:List Value):Prop:=
 as.length=us.length∧∀ (j:Nat) (p:AV) (u:Value),as[j]? = some p→us[j]? = some u→VRel F B ρ w p u

def SoundF (P:Program) (f:Nat) (s:FSpec):Prop:=
 ∀ args B r B',s.run args B=some (r,B')→∀ (F:Nat→Prop) ρ w us,Inv F B ρ w→ArgsRel F B ρ w args us→CallOk P f us.toArray w (Post F B ρ w r B')

def OpOk (F:Nat→Prop) (P:Program) (o:Oper) (a:Act) (w:World) (B:List Box) (ρ:Loc) (v:AV) (B':List Box):Prop:=
 ∀ (K:Act→World→Prop) (Q:Exit→Act→World→Prop),(∀ x w' ρ',Inv F B' ρ' w'→Ext F B ρ w B' ρ' w'→VRel F B' ρ' w' v x→K (a.put o.dst x) w')→o.wp P a w K Q

theorem ok_value {o:Oper} {a:Act} {w w':World} {B B':List Box} {ρ ρ':Loc} {v:AV} {x:Value} (h:(execOp a.eval o).run P w= .ok (.value x) w') (hI:Inv F B' ρ' w') (hE:Ext F B ρ w B' ρ' w') (hv:VRel F B' ρ' w' v x):OpOk F P o a w B ρ v B':=by
 intro K Q hK
 unfold Oper.wp
 rw[h]
 exact hK x w' ρ' hI hE hv

theorem ok_skip {o:Oper} {a:Act} {w w':World} {B B':List Box} {ρ ρ':Loc} (h:(execOp a.eval o).run P w= .ok .skip w') (hI:Inv F B' ρ' w') (hE:Ext F B ρ w B' ρ' w'):OpOk F P o a w B ρ .u B':=by
 intro K Q hK
 unfold Oper.wp
 rw[h]
 exact hK undef w' ρ' hI hE (.u _)

theorem ok_call {o:Oper} {a:Act} {w:World} {B B':List Box} {ρ:Loc} {v:AV} {f:FuncId} {us:Array Value} (h:(execOp a.eval o).run P w=(callFunc f us).run P w) (hc:CallOk P f us w (Post F B ρ w v B')):OpOk F P o a w B ρ v B':=by
 intro K Q hK
 unfold Oper.wp
 rw[h]
 rcases hc with ⟨h1,h2⟩ | ⟨x,w',h1,x',ρ',e,hI,hE,hv⟩
 ·rw[h1]
  refine h2.mono fun e w' hp=>?_
  obtain ⟨x,ρ',rfl,hI,hE,hv⟩:=hp
  exact hK x w' ρ' hI hE hv
 ·rw[h1]
  cases e
  exact hK x w' ρ' hI hE hv

theorem args_rel {B:List Box} {ρ:Loc} {w:World} {n:Nat} {t:T} {a:Act} (hR:Rel F B ρ w n t a) (xs:List Operand):ArgsRel F B ρ w (xs.map (evalA t)) (xs.map a.eval):=by
 refine ⟨by simp,fun j p u hp hu=>?_⟩
 rw[List.getElem?_map] at hp hu
 cases hq:xs[j]? with
 | none=>rw[hq] at hp; cases hp
 | some x=>rw[hq] at hp hu; cases hp; cases hu; exact hR.eval x

theorem ArgsRel.append {B:List Box} {ρ:Loc} {w:World} {as bs:List AV} {us vs:List Value} (h:ArgsRel F B ρ w as us) (g:ArgsRel F B ρ w bs vs):ArgsRel F B ρ w (as++bs) (us++vs):=by
 refine ⟨by simp[h.1,g.1],fun j p u hp hu=>?_⟩
 rw[List.getElem?_append] at hp hu
 split at hp
 ·rename_i hlt
  rw[if_pos (by rw[←h.1]; exact hlt)] at hu
  exact h.2 j p u hp hu
 ·rename_i hge
  rw[if_neg (by rw[←h.1]; exact hge),←h.1] at hu
  exact g.2 _ p u hp hu

theorem parts_rel {B:List Box} {ρ:Loc} {w:World} {n:Nat} {t:T} {a:Act} (hR:Rel F B ρ w n t a) (ps:Array (Nat×Operand)):
  (ps.toList.map fun q=>(q.1,evalA t q.2)).length=(ps.map fun (i,x)=>(i,a.eval x)).size ∧
  ∀ (i:Nat) (p:Nat×AV) (v:Nat×Value),(ps.toList.map fun q=>(q.1,evalA t q.2))[i]? = some p→(ps.map fun (i,x)=>(i,a.eval x))[i]? = some v→p.1=v.1∧VRel F B ρ w p.2 v.2:=by
 refine ⟨by simp,fun i p v hp hv=>?_⟩
 rw[List.getElem?_map] at hp
 rw[Array.getElem?_map] at hv
 cases hq:ps[i]? with
 | none=>rw[hq] at hv; cases hv
 | some x=>
  have hq':ps.toList[i]? = some x:=by simpa using hq
  rw[hq] at hv
  rw[hq'] at hp
  cases hp
  cases hv
  exact ⟨rfl,hR.eval x.2⟩

theorem builtin_run {Γ:Env} {o:Oper} {a:Act} {w:World} {B B':List Box} {ρ:Loc} {n:Nat} {t:T} {v:AV} (hR:Rel F B ρ w n t a) {b:Builtin} {c:Call} (ho:o.op= .call c) (hb:c.callee= .builtin b)
  (hm:builtinA P b c.argTypes B (c.args.toList.map (evalA t))=some (v,B')):OpOk F P o a w B ρ v B':=by
 obtain ⟨cs,hrun⟩:∃ cs,(execOp a.eval o).run P w=(builtin b c.argTypes o.type cs (c.args.map a.eval)).run P w:=⟨_,by
  simp only[execOp,ho,resolve,hb,Sem.run_bind,Sem.run_pure,Result.andThen_ok,invoke]
  rfl⟩
 have har:=args_rel hR c.args.toList
 have hargs:c.args.map a.eval=(c.args.toList.map a.eval).toArray:=by
  apply Array.ext'; simp
 rw[hargs] at hrun
 generalize c.args.toList.map (evalA t)=as at *
 generalize c.args.toList.map a.eval=us at *
 have len2:∀ {x y:AV},as= [x,y]→∃ u z,us= [u,z]∧VRel F B ρ w x u∧VRel F B ρ w y z:=by
  intro x y h
  subst h
  match us,har with
  | [u,z],har=>exact ⟨u,z,rfl,har.2 0 _ _ rfl rfl,har.2 1 _ _ rfl rfl⟩
  | [],har=>exact absurd har.1 (by simp)
  | [_],har=>exact absurd har.1 (by simp)
  | _::_::_::_,har=>exact absurd har.1 (by simp)
 unfold builtinA at hm
 split at hm
 ·rename_i x
  match us,har with
  | [],har=>exact absurd har.1 (by simp)
  | _::_::_,har=>exact absurd har.1 (by simp)
  | [u],har=>
   have hx:=har.2 0 _ _ rfl rfl
   cases ht:c.argTypes[0]? with
   | none=>rw[ht] at hm; cases hm
   | some ty=>
    rw[ht] at hm
    simp only[Option.bind_some] at hm
    cases hl:lenA P ty x with
    | none=>rw[hl] at hm; cases hm
    | some q=>
     rw[hl] at hm
     cases hm
     obtain ⟨z,e1,e2⟩:=len_run (P:=P) (ty:=o.type) ht hx hl
     exact ok_value (by rw[hrun]; simp[builtin,e1]) hR.inv (.refl _ _ _) e2
 ·rename_i s x
  obtain ⟨u,z,rfl,h1,h2⟩:=len2 rfl
  cases ht:c.argTypes[0]? with
  | none=>rw[ht] at hm; cases hm
  | some ty=>
  rw[ht] at hm
  simp only[Option.bind_some] at hm
  cases htx:c.argTypes[1]? with
  | none=>rw[htx] at hm; cases hm
  | some tx=>
  rw[htx] at hm
  simp only[Option.bind_some] at hm
  obtain ⟨y,w',ρ',e1,e2,e3,e4⟩:=append_run (P:=P) (ty:=o.type) hR.inv h1 h2 hm
  have hcong:(Builtin.append_ c.argTypes o.type [u,z].toArray).run P w=(Builtin.append_ #[ty,tx] o.type #[u,z]).run P w:=by
   unfold Builtin.append_
   simp[ht,htx]
  exact ok_value (by rw[hrun]; simp only[builtin,Sem.run_bind]; rw[hcong,e1]; rfl) e2 e3 e4
 ·rename_i x rest
  match us,har with
  | [],har=>exact absurd har.1 (by simp)
  | u::us,har=>
   cases hq:minmaxL true x rest with
   | none=>rw[hq] at hm; cases hm
   | some q=>
    rw[hq] at hm
    cases hm
    obtain ⟨z,e1,e2⟩:=minL_run (P:=P) rest us x _ u (har.2 0 _ _ rfl rfl) (by simpa using har.1) (fun j p u h1 h2=>har.2 (j+1) p u (by simpa using h1) (by simpa using h2)) hq
    exact ok_value (by rw[hrun]; simp only[builtin,Sem.run_bind,Builtin.min_]; rw[e1]; rfl) hR.inv (.refl _ _ _) e2
 ·rename_i x rest
  match us,har with
  | [],har=>exact absurd har.1 (by simp)
  | u::us,har=>
   cases hq:minmaxL false x rest with
   | none=>rw[hq] at hm; cases hm
   | some q=>
    rw[hq] at hm
    cases hm
    obtain ⟨z,e1,e2⟩:=maxL_run (P:=P) rest us x _ u (har.2 0 _ _ rfl rfl) (by simpa using har.1) (fun j p u h1 h2=>har.2 (j+1) p u (by simpa using h1) (by simpa using h2)) hq
    exact ok_value (by rw[hrun]; simp only[builtin,Sem.run_bind,Builtin.max_]; rw[e1]; rfl) hR.inv (.refl _ _ _) e2
 ·rename_i x
  match us,har with
  | [],har=>exact absurd har.1 (by simp)
  | _::_::_,har=>exact absurd har.1 (by simp)
  | [u],har=>
   have hx:=har.2 0 _ _ rfl rfl
   cases ht:c.argTypes[0]? with
   | none=>rw[ht] at hm; cases hm
   | some ty=>
    rw[ht] at hm
    simp only[Option.bind_some] at hm
    cases hl:clearA P ty B x with
    | none=>rw[hl] at hm; cases hm
    | some q=>
     rw[hl] at hm
     cases hm
     obtain ⟨w',e1,e2,e3⟩:=clear_run (P:=P) (ty:=o.type) hR.inv hx hl
     have hcong:(Builtin.clear_ c.argTypes o.type [u].toArray).run P w=(Builtin.clear_ #[ty] o.type #[u]).run P w:=by
      unfold Builtin.clear_
      simp[ht]
     exact ok_value (by rw[hrun]; simp only[builtin,Sem.run_bind]; rw[hcong,e1]; rfl) e2 e3 (.tup [] [] rfl (fun j p u hp=>by simp at hp))
 ·rename_i x k
  obtain ⟨u,z,rfl,h1,h2⟩:=len2 rfl
  cases ht:c.argTypes[0]? with
  | none=>rw[ht] at hm; cases hm
  | some ty=>
  rw[ht] at hm
  simp only[Option.bind_some] at hm
  cases hl:deleteA P ty B x k with
  | none=>rw[hl] at hm; cases hm
  | some q=>
   rw[hl] at hm
   cases hm
   obtain ⟨w',e1,e2,e3⟩:=delete_run (P:=P) (tk:=ty) (ty:=o.type) hR.inv h1 h2 hl
   have hcong:(Builtin.delete_ c.argTypes o.type [u,z].toArray).run P w=(Builtin.delete_ #[ty,ty] o.type #[u,z]).run P w:=by
    unfold Builtin.delete_
    simp[ht]
   exact ok_value (by rw[hrun]; simp only[builtin,Sem.run_bind]; rw[hcong,e1]; rfl) e2 e3 (.tup [] [] rfl (fun j p u hp=>by simp at hp))
 ·cases hm

theorem call_run {Γ:Env} (hΓ:∀ f,SoundF P f (Γ f)) {o:Oper} {a:Act} {w:World} {B B':List Box} {ρ:Loc} {n:Nat} {t:T} {v:AV} (hR:Rel F B ρ w n t a) {c:Call} (ho:o.op= .call c)
  (hm:callA P Γ t B c=some (v,B')):OpOk F P o a w B ρ v B':=by
 unfold callA at hm
 split at hm
 ·rename_i b hb
  exact builtin_run (Γ:=Γ) hR ho hb hm
 ·rename_i f hf
  split at hm
  ·rename_i g cap hg
   have hv:=hR.eval f
   rw[hg] at hv
   cases hval:a.eval f with
   | func fn first us=>
    rw[hval] at hv
    cases hv with
    | fn _ _ vs h1 h2=>
    have har:=(args_rel hR c.args.toList).append ⟨h1,h2⟩
    have hargs:c.args.map a.eval=(c.args.toList.map a.eval).toArray:=by
     apply Array.ext'; simp
    have hrun:(execOp a.eval o).run P w=(callFunc g (c.args.toList.map a.eval++vs).toArray).run P w:=by
     simp only[execOp,ho,resolve,hf,hval,Deferred.ofValue,Sem.run_bind,Sem.run_pure,Result.andThen_ok,invoke]
     rw[hargs]
     congr 2
     apply Array.ext'
     simp
    exact ok_call hrun (hΓ g _ _ _ _ hm F ρ w _ hR.inv har)
   | _=>rw[hval] at hv; cases hv
  ·cases hm
 ·cases hm

end Go.Ax

namespace Go.Ax
open Go.RowKit

variable [Glob] {P : Program} {F : Nat → Prop}

theorem map_some {α β:Type} {f:α→β} {x:Option α} {y:β} (h:x.map f=some y):∃ a,x=some a∧f a=y:=by
 cases x with
 | none=>cases h
 | some a=>exact ⟨a,rfl,by simpa using h⟩

theorem opA_sound {Γ:Env} (hΓ:∀ f,SoundF P f (Γ f)) {o:Oper} {a:Act} {w:World} {B B':List Box} {ρ:Loc} {n:Nat} {t:T} {v:AV} (hR:Rel F B ρ w n t a) (hm:opA P Γ t B o.op=some (v,B')):OpOk F P o a w B ρ v B':=by
 have pureV:∀ {s:Sem Value} {x:AV},(execOp a.eval o=(do pure (Next.value (←s))))→(∃ z,s.run P w= .ok z w∧VRel F B ρ w x z)→some (x,B)=some (v,B')→OpOk F P o a w B ρ v B':=by
  intro s x h1 ⟨z,h2,h3⟩ h4
  cases h4
  exact ok_value (by rw[h1,Sem.run_bind,h2]; rfl) hR.inv (.refl _ _ _) h3
 cases ho:o.op <;> rw[ho] at hm <;> simp only[opA] at hm
 case move x=>cases hm; exact ok_value (x:=a.eval x) (by simp[execOp,ho]) hR.inv (.refl _ _ _) (hR.eval x)
 case assign x=>cases hm; exact ok_value (x:=a.eval x) (by simp[execOp,ho]) hR.inv (.refl _ _ _) (hR.eval x)
 case pick c x y=>
  obtain ⟨q,h1,h2⟩:=map_some hm
  cases h2
  have hc:=hR.eval c
  unfold boolA at h1
  split at h1
  ·rename_i b hb
   cases h1
   rw[hb] at hc
   have hv:=hc.val
   refine ok_value (x:=if q then a.eval x else a.eval y) (by simp[execOp,ho,hv,asBool]) hR.inv (.refl _ _ _) ?_
   cases q
   ·exact hR.eval y
   ·exact hR.eval x
  ·cases h1
 case alloc e=>
  cases hz:zeroA P e with
  | none=>rw[hz] at hm; cases hm
  | some z=>
   rw[hz] at hm
   simp only[Option.bind_some] at hm
   split at hm
   ·rename_i hlf
    cases hm
    obtain ⟨u,h1,h2⟩:=zero_run hz w hlf
    obtain ⟨x,w',ρ',e1,e2,e3,e4⟩:=newVar_run (P:=P) hR.inv e hlf (h2 F B ρ w)
    refine ok_value (x:=x) (w':=w') ?_ e2 e3 e4
    simp only[execOp,ho,Instr.alloc,Sem.run_bind,h1,Result.andThen_ok]
    simp only[Sem.run_bind] at e1
    rw[e1]
    rfl
   ·cases hm
 case box e x=>
  split at hm
  ·rename_i hlf
   cases hm
   obtain ⟨y,w',ρ',e1,e2,e3,e4⟩:=newVar_run (P:=P) hR.inv e hlf ((hR.eval x).cells hlf)
   refine ok_value (x:=y) (w':=w') ?_ e2 e3 e4
   simp only[execOp,ho,Instr.box,Sem.run_bind]
   simp only[Sem.run_bind] at e1
   rw[e1]
   rfl
  ·cases hm
 case build ty parts=>
  obtain ⟨x,h1,h2⟩:=map_some hm
  obtain ⟨g1,g2⟩:=parts_rel hR parts
  exact pureV (by simp[execOp,ho]) (build_run g1 g2 h1) (by rw[h2])
 case buildSlice ty len parts=>
  obtain ⟨g1,g2⟩:=parts_rel hR parts
  obtain ⟨x,w',ρ',e1,e2,e3,e4⟩:=buildSlice_run (P:=P) hR.inv g1 g2 hm
  refine ok_value (x:=x) (w':=w') ?_ e2 e3 e4
  simp only[execOp,ho,Sem.run_bind]
  rw[e1]
  rfl
 case makeSlice ty l c=>
  obtain ⟨x,w',ρ',e1,e2,e3,e4⟩:=makeSlice_run (P:=P) hR.inv (hR.eval l) (hR.eval c) hm
  refine ok_value (x:=x) (w':=w') ?_ e2 e3 e4
  simp only[execOp,ho,Sem.run_bind]
  rw[e1]
  rfl
 case load ty x=>
  obtain ⟨y,h1,h2⟩:=map_some hm
  exact pureV (by simp only[execOp,ho]) (loadAt_run hR.inv (hR.eval x) h1) (by rw[h2])
 case store ty x y=>
  obtain ⟨B1,h1,h2⟩:=map_some hm
  cases h2
  obtain ⟨w',e1,e2,e3⟩:=storeAt_run (P:=P) hR.inv (hR.eval x) (hR.eval y) h1
  refine ok_skip (w':=w') ?_ e2 e3
  simp only[execOp,ho,Sem.run_bind]
  rw[e1]
  rfl
 case nilCheck x=>
  have hx:=hR.eval x
  split at hm
  ·rename_i b ver off hb
   cases hm
   rw[hb] at hx
   cases hv:a.eval x <;> rw[hv] at hx <;> cases hx
   rename_i ad hp
   exact ok_value (by simp[execOp,ho,hv]) hR.inv (.refl _ _ _) (.ptr _ _ _ _ hp)
  ·rename_i cs hb
   cases hm
   rw[hb] at hx
   cases hv:a.eval x <;> rw[hv] at hx <;> cases hx
   rename_i ad us h3 h1 h2 h4 h5 h6
   exact ok_value (by simp[execOp,ho,hv]) hR.inv (.refl _ _ _) (.rp _ _ us h3 h1 h2 h5 h4 h6)
  ·rename_i b hb
   cases hm
   rw[hb] at hx
   cases hv:a.eval x <;> rw[hv] at hx <;> cases hx
   rename_i r hp
   exact ok_value (by simp[execOp,ho,hv]) hR.inv (.refl _ _ _) (.op _ _ hp)
  ·cases hm
 case binOp op ty x y yt=>
  obtain ⟨z,h1,h2⟩:=map_some hm
  exact pureV (s:=(do eqGuard op ty x y (a.eval x) (a.eval y); binOp op ty (a.eval x) (a.eval y))) (by simp only[execOp,ho]) (bin_run (ox:=x) (oy:=y) (hR.eval x) (hR.eval y) h1) (by rw[h2])
 case unOp op ty x=>
  obtain ⟨z,h1,h2⟩:=map_some hm
  exact pureV (by simp only[execOp,ho]) (un_run (hR.eval x) h1) (by rw[h2])
 case convert src dst x=>
  obtain ⟨z,w',ρ',e1,e2,e3,e4⟩:=convert_run (P:=P) hR.inv (hR.eval x) hm
  refine ok_value (x:=z) (w':=w') ?_ e2 e3 e4
  simp only[execOp,ho,Sem.run_bind]
  rw[e1]
  rfl
 case makeFunc f first cap=>
  cases f with
  | func f=>
   simp only[] at hm
   split at hm
   ·rename_i hf
    cases hm
    have hfe:first = #[]:=by simpa using hf
    have har:=args_rel hR cap.toList
    refine ok_value (x:= .func (.func f) #[] (cap.toList.map a.eval).toArray) ?_ hR.inv (.refl _ _ _) (.fn _ _ _ har.1 har.2)
    simp only[execOp,ho,Instr.makeFunc,hfe,Sem.run_bind,Sem.run_pure,Result.andThen_ok]
    have hc:cap.map a.eval=(cap.toList.map a.eval).toArray:=by apply Array.ext'; simp
    rw[hc]
    simp
   ·cases hm
  | _=>cases hm
 case slice ty x lo hi mx=>
  have opt:∀ (q:Option Operand) (y:AV),q.map (evalA t)=some y→∃ u,q.map a.eval=some u∧VRel F B ρ w y u:=by
   intro q y hq
   cases q with
   | none=>cases hq
   | some q=>cases hq; exact ⟨_,rfl,hR.eval q⟩
  have optn:∀ (q:Option Operand),q.map (evalA t)=none→q.map a.eval=none:=by
   intro q hq
   cases q with
   | none=>rfl
   | some q=>cases hq
  cases mx with
  | some m=>
   obtain ⟨z,ρ',e1,e2,e3,e4⟩:=slice3_run (P:=P) hR.inv (hR.eval x) (hR.eval m) (opt lo) (optn lo) (opt hi) (optn hi) hm
   refine ok_value (x:=z) (w':=w) ?_ e2 e3 e4
   simp only[execOp,ho,Option.map_some,Sem.run_bind]
   rw[e1]
   rfl
  | none=>
   obtain ⟨z,h1,h2⟩:=map_some hm
   have opt:∀ (q:Option Operand) (y:AV),q.map (evalA t)=some y→∃ u,q.map a.eval=some u∧VRel F B ρ w y u:=by
    intro q y hq
    cases q with
    | none=>cases hq
    | some q=>cases hq; exact ⟨_,rfl,hR.eval q⟩
   have optn:∀ (q:Option Operand),q.map (evalA t)=none→q.map a.eval=none:=by
    intro q hq
    cases q with
    | none=>rfl
    | some q=>cases hq
   exact pureV (s:=Instr.sliceAt ty (a.eval x) (lo.map a.eval) (hi.map a.eval) none) (by simp only[execOp,ho,Option.map_none]) (slice_run hR.inv (hR.eval x) (opt lo) (optn lo) (opt hi) (optn hi) h1) (by rw[h2])
 case makeMap ty r=>
  cases r with
  | some r=>cases hm
  | none=>
   simp only at hm
   split at hm
   ·rename_i kt et hu
    cases hm
    obtain ⟨z,w',ρ',e1,e2,e3,e4⟩:=makeMap_run (P:=P) hR.inv hu
    refine ok_value (x:=z) (w':=w') ?_ e2 e3 e4
    simp only[execOp,ho,Option.map_none,Sem.run_bind]
    rw[e1]
    rfl
   ·cases hm
 case lookup ty x k q=>
  obtain ⟨z,h1,h2⟩:=map_some hm
  exact pureV (by simp only[execOp,ho]) (lookup_run hR.inv (hR.eval x) (hR.eval k) h1) (by rw[h2])
 case mapUpdate ty x k y=>
  obtain ⟨B1,h1,h2⟩:=map_some hm
  cases h2
  obtain ⟨w',e1,e2,e3⟩:=mapUpdate_run (P:=P) hR.inv (hR.eval x) (hR.eval k) (hR.eval y) h1
  refine ok_skip (w':=w') ?_ e2 e3
  simp only[execOp,ho,Sem.run_bind]
  rw[e1]
  rfl
 case insert ty x k y=>
  obtain ⟨B1,h1,h2⟩:=map_some hm
  cases h2
  obtain ⟨w',e1,e2,e3⟩:=mapUpdate_run (P:=P) hR.inv (hR.eval x) (hR.eval k) (hR.eval y) h1
  refine ok_skip (w':=w') ?_ e2 e3
  simp only[execOp,ho,Sem.run_bind]
  rw[e1]
  rfl
 case fieldAddr ty x j=>
  obtain ⟨z,h1,h2⟩:=map_some hm
  exact pureV (by simp only[execOp,ho]) (fieldAddr_run (hR.eval x) h1) (by rw[h2])
 case field ty x j=>
  obtain ⟨z,h1,h2⟩:=map_some hm
  exact pureV (by simp only[execOp,ho]) (field_run (hR.eval x) h1) (by rw[h2])
 case indexAddr ty x i=>
  obtain ⟨z,h1,h2⟩:=map_some hm
  exact pureV (by simp only[execOp,ho]) (indexAddr_run (hR.eval x) (hR.eval i) h1) (by rw[h2])
 case index ty x i=>
  obtain ⟨z,h1,h2⟩:=map_some hm
  exact pureV (by simp only[execOp,ho]) (index_run (hR.eval x) (hR.eval i) h1) (by rw[h2])
 case extract x i=>
  have hx:=hR.eval x
  split at hm
  ·rename_i vs hb
   obtain ⟨z,h1,h2⟩:=map_some hm
   cases h2
   rw[hb] at hx
   cases hv:a.eval x with
   | tuple us=>
    rw[hv] at hx
    cases hx with
    | tup _ us h3 h4=>
    have hi:i<us.length:=by rw[←h3]; exact (List.getElem?_eq_some_iff.1 h1).1
    refine ok_value (x:=us[i]) ?_ hR.inv (.refl _ _ _) (h4 i v _ h1 (List.getElem?_eq_getElem hi))
    simp[execOp,ho,hv,Instr.extract,hi]
   | _=>rw[hv] at hx; cases hx
  ·cases hm
 case call c=>exact call_run hΓ hR ho hm
 all_goals cases hm

theorem wanted_eq {B:List Box} {ρ:Loc} {w:World} {n:Nat} {t:T} {a:Act} (hR:Rel F B ρ w n t a) (ops:List Oper) {o:Oper} {q:Bool} (h:wantedA ops t o=some q):Region.wanted o (yielded ops.toArray a.tmps)=q:=by
 unfold wantedA at h
 unfold Region.wanted
 cases hg:o.guard with
 | none=>rw[hg] at h; cases h; rfl
 | some g=>
  obtain ⟨j,want⟩:=g
  rw[hg] at h
  simp only at h ⊢
  unfold yielded
  have hops:ops.toArray[j]? = ops[j]? := by simp
  rw[hops]
  cases hd:(ops[j]?).bind (·.dst) with
  | none=>rw[hd] at h; cases h
  | some d=>
   rw[hd] at h
   simp only[Option.bind_some] at h ⊢
   have hv:=hR.tm d
   split at h
   ·rename_i b hb
    cases h
    rw[hb] at hv
    have he:=hv.val
    have:a.tmps[d]? = some (.bool b):=by
     rcases Nat.lt_or_ge d a.tmps.size with hlt | hge
     ·simp[hlt] at he; simp[hlt,he]
     ·simp[hge,undef] at he
    rw[this]
    simp
   ·rename_i vs hb
    cases h
    rw[hb] at hv
    have he:=hv.val
    rcases Nat.lt_or_ge d a.tmps.size with hlt | hge
    ·simp[hlt] at he; simp[hlt,he]
    ·simp[hge]
   ·cases h

theorem step_sound {Γ:Env} (hΓ:∀ f,SoundF P f (Γ f)) {ops:List Oper} {o:Oper} {n:Nat} {s s':AS} (hs:stepA P Γ n ops o s=some s') {ρ:Loc} {w:World} {a:Act} (hR:Rel F s.B ρ w n s.t a) {K:Act→World→Prop} {Q:Exit→Act→World→Prop}
  (hK:∀ a' w' ρ',Rel F s'.B ρ' w' n s'.t a'→Ext F s.B ρ w s'.B ρ' w'→K a' w'):
  if Region.wanted o (yielded ops.toArray a.tmps) then o.wp P a w K Q else K (a.put o.dst undef) w:=by
 unfold stepA at hs
 cases hw:wantedA ops s.t o with
 | none=>rw[hw] at hs; cases hs
 | some q=>
  rw[hw] at hs
  rw[wanted_eq hR ops hw]
  simp only[Option.bind_some] at hs
  cases q with
  | true=>
   simp only[if_true] at hs ⊢
   cases hop:opA P Γ s.t s.B o.op with
   | none=>rw[hop] at hs; cases hs
   | some r=>
    obtain ⟨v,B'⟩:=r
    rw[hop] at hs
    simp only[Option.bind_some] at hs
    obtain ⟨t',h1,h2⟩:=map_some hs
    subst h2
    exact opA_sound hΓ hR hop K Q (fun x w' ρ' hI hE hv=>hK _ _ _ (hR.put hE hI hv h1) hE)
  | false=>
   simp only[Bool.false_eq_true,if_false] at hs ⊢
   obtain ⟨t',h1,h2⟩:=map_some hs
   subst h2
   exact hK _ _ ρ (hR.put (.refl _ _ _) hR.inv (.p _ _ (.v _)) h1) (.refl _ _ _)

end Go.Ax
