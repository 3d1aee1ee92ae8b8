/- Any operation, a call too: what it does in a world is what the second reading says. -/
import Derived.Test.YtnhhaidlpbkmjaaBxm
set_option linter.unusedVariables false
set_option linter.unusedSimpArgs false
set_option linter.unusedSectionVars false
namespace Go.Ax
open Go.RowKit

variable [Glob] {P : Program} {F : Nat → Prop}

def Post (F : Nat → Prop) (B : List Box) (ρ : Loc) (w : World) (r : AV) (B' : List Box) : Ending → World → Prop :=
  fun e w' => ∃ v ρ', e = .returned v ∧ Inv F B' ρ' w' ∧ Ext F B ρ w B' ρ' w' ∧ VRel F B' ρ' w' r v

/-- A call, of a function with a body or without. -/
def CallOk (P : Program) (f : FuncId) (args : Array Value) (w : World) (R : Ending → World → Prop) : Prop :=
  ((callFunc f args).run P w = .ok (.enter f args) w ∧ Calls P f args w R) ∨ ∃ v w', (callFunc f args).run P w = .ok (.value v) w' ∧ R (.returned v) w'

def ArgsRel (F : Nat → Prop) (B : List Box) (ρ : Loc) (w : World) (as : List AV) (us : List Value) : Prop :=
  as.length = us.length ∧ ∀ (j : Nat) (p : AV) (u : Value), as[j]? = some p → us[j]? = some u → VRel F B ρ w p u

/-- What a function comes to is what is said of it. -/
def SoundF (P : Program) (f : Nat) (s : FSpec) : Prop :=
  ∀ args B r B', s.run args B = some (r, B') → ∀ (F : Nat → Prop) ρ w us, Inv F B ρ w → ArgsRel F B ρ w args us → CallOk P f us.toArray w (Post F B ρ w r B')

def OpOk (F : Nat → Prop) (P : Program) (o : Oper) (a : Act) (w : World) (B : List Box) (ρ : Loc) (v : AV) (B' : List Box) : Prop :=
  ∀ (K : Act → World → Prop) (Q : Exit → Act → World → Prop), (∀ x w' ρ', Inv F B' ρ' w' → Ext F B ρ w B' ρ' w' → VRel F B' ρ' w' v x → K (a.put o.dst x) w') → o.wp P a w K Q

theorem ok_value {o : Oper} {a : Act} {w w' : World} {B B' : List Box} {ρ ρ' : Loc} {v : AV} {x : Value} (h : (execOp a.eval o).run P w = .ok (.value x) w') (hI : Inv F B' ρ' w') (hE : Ext F B ρ w B' ρ' w') (hv : VRel F B' ρ' w' v x) : OpOk F P o a w B ρ v B' := by
  intro K Q hK
  unfold Oper.wp
  rw [h]
  exact hK x w' ρ' hI hE hv

theorem ok_skip {o : Oper} {a : Act} {w w' : World} {B B' : List Box} {ρ ρ' : Loc} (h : (execOp a.eval o).run P w = .ok .skip w') (hI : Inv F B' ρ' w') (hE : Ext F B ρ w B' ρ' w') : OpOk F P o a w B ρ .u B' := by
  intro K Q hK
  unfold Oper.wp
  rw [h]
  exact hK undef w' ρ' hI hE (.u _)

theorem ok_call {o : Oper} {a : Act} {w : World} {B B' : List Box} {ρ : Loc} {v : AV} {f : FuncId} {us : Array Value} (h : (execOp a.eval o).run P w = (callFunc f us).run P w) (hc : CallOk P f us w (Post F B ρ w v B')) : OpOk F P o a w B ρ v B' := by
  intro K Q hK
  unfold Oper.wp
  rw [h]
  rcases hc with ⟨h1, h2⟩ | ⟨x, w', h1, x', ρ', e, hI, hE, hv⟩
  · rw [h1]
    refine h2.mono fun e w' hp => ?_
    obtain ⟨x, ρ', rfl, hI, hE, hv⟩ := hp
    exact hK x w' ρ' hI hE hv
  · rw [h1]
    cases e
    exact hK x w' ρ' hI hE hv

theorem args_rel {B : List Box} {ρ : Loc} {w : World} {n : Nat} {t : T} {a : Act} (hR : Rel F B ρ w n t a) (xs : List Operand) : ArgsRel F B ρ w (xs.map (evalA t)) (xs.map a.eval) := by
  refine ⟨by simp, fun j p u hp hu => ?_⟩
  rw [List.getElem?_map] at hp hu
  cases hq : xs[j]? with
  | none => rw [hq] at hp; cases hp
  | some x => rw [hq] at hp hu; cases hp; cases hu; exact hR.eval x

theorem ArgsRel.append {B : List Box} {ρ : Loc} {w : World} {as bs : List AV} {us vs : List Value} (h : ArgsRel F B ρ w as us) (g : ArgsRel F B ρ w bs vs) : ArgsRel F B ρ w (as ++ bs) (us ++ vs) := by
  refine ⟨by simp [h.1, g.1], fun j p u hp hu => ?_⟩
  rw [List.getElem?_append] at hp hu
  split at hp
  · rename_i hlt
    rw [if_pos (by rw [← h.1]; exact hlt)] at hu
    exact h.2 j p u hp hu
  · rename_i hge
    rw [if_neg (by rw [← h.1]; exact hge), ← h.1] at hu
    exact g.2 _ p u hp hu

theorem parts_rel {B : List Box} {ρ : Loc} {w : World} {n : Nat} {t : T} {a : Act} (hR : Rel F B ρ w n t a) (ps : Array (Nat × Operand)) :
    (ps.toList.map fun q => (q.1, evalA t q.2)).length = (ps.map fun (i, x) => (i, a.eval x)).size ∧
    ∀ (i : Nat) (p : Nat × AV) (v : Nat × Value), (ps.toList.map fun q => (q.1, evalA t q.2))[i]? = some p → (ps.map fun (i, x) => (i, a.eval x))[i]? = some v → p.1 = v.1 ∧ VRel F B ρ w p.2 v.2 := by
  refine ⟨by simp, fun i p v hp hv => ?_⟩
  rw [List.getElem?_map] at hp
  rw [Array.getElem?_map] at hv
  cases hq : ps[i]? with
  | none => rw [hq] at hv; cases hv
  | some x =>
    have hq' : ps.toList[i]? = some x := by simpa using hq
    rw [hq] at hv
    rw [hq'] at hp
    cases hp
    cases hv
    exact ⟨rfl, hR.eval x.2⟩

theorem builtin_run {Γ : Env} {o : Oper} {a : Act} {w : World} {B B' : List Box} {ρ : Loc} {n : Nat} {t : T} {v : AV} (hR : Rel F B ρ w n t a) {b : Builtin} {c : Call} (ho : o.op = .call c) (hb : c.callee = .builtin b)
    (hm : builtinA P b c.argTypes B (c.args.toList.map (evalA t)) = some (v, B')) : OpOk F P o a w B ρ v B' := by
  obtain ⟨cs, hrun⟩ : ∃ cs, (execOp a.eval o).run P w = (builtin b c.argTypes o.type cs (c.args.map a.eval)).run P w := ⟨_, by
    simp only [execOp, ho, resolve, hb, Sem.run_bind, Sem.run_pure, Result.andThen_ok, invoke]
    rfl⟩
  have har := args_rel hR c.args.toList
  have hargs : c.args.map a.eval = (c.args.toList.map a.eval).toArray := by
    apply Array.ext'; simp
  rw [hargs] at hrun
  generalize c.args.toList.map (evalA t) = as at *
  generalize c.args.toList.map a.eval = us at *
  have len2 : ∀ {x y : AV}, as = [x, y] → ∃ u z, us = [u, z] ∧ VRel F B ρ w x u ∧ VRel F B ρ w y z := by
    intro x y h
    subst h
    match us, har with
    | [u, z], har => exact ⟨u, z, rfl, har.2 0 _ _ rfl rfl, har.2 1 _ _ rfl rfl⟩
    | [], har => exact absurd har.1 (by simp)
    | [_], har => exact absurd har.1 (by simp)
    | _ :: _ :: _ :: _, har => exact absurd har.1 (by simp)
  unfold builtinA at hm
  split at hm
  · rename_i x
    match us, har with
    | [], har => exact absurd har.1 (by simp)
    | _ :: _ :: _, har => exact absurd har.1 (by simp)
    | [u], har =>
      have hx := har.2 0 _ _ rfl rfl
      cases ht : c.argTypes[0]? with
      | none => rw [ht] at hm; cases hm
      | some ty =>
        rw [ht] at hm
        simp only [Option.bind_some] at hm
        cases hl : lenA P ty x with
        | none => rw [hl] at hm; cases hm
        | some q =>
          rw [hl] at hm
          cases hm
          obtain ⟨z, e1, e2⟩ := len_run (P := P) (ty := o.type) ht hx hl
          exact ok_value (by rw [hrun]; simp [builtin, e1]) hR.inv (.refl _ _ _) e2
  · rename_i s x
    obtain ⟨u, z, rfl, h1, h2⟩ := len2 rfl
    cases ht : c.argTypes[0]? with
    | none => rw [ht] at hm; cases hm
    | some ty =>
    rw [ht] at hm
    simp only [Option.bind_some] at hm
    cases htx : c.argTypes[1]? with
    | none => rw [htx] at hm; cases hm
    | some tx =>
    rw [htx] at hm
    simp only [Option.bind_some] at hm
    obtain ⟨y, w', ρ', e1, e2, e3, e4⟩ := append_run (P := P) (ty := o.type) hR.inv h1 h2 hm
    have hcong : (Builtin.append_ c.argTypes o.type [u, z].toArray).run P w = (Builtin.append_ #[ty, tx] o.type #[u, z]).run P w := by
      unfold Builtin.append_
      simp [ht, htx]
    exact ok_value (by rw [hrun]; simp only [builtin, Sem.run_bind]; rw [hcong, e1]; rfl) e2 e3 e4
  · rename_i x rest
    match us, har with
    | [], har => exact absurd har.1 (by simp)
    | u :: us, har =>
      cases hq : minmaxL true x rest with
      | none => rw [hq] at hm; cases hm
      | some q =>
        rw [hq] at hm
        cases hm
        obtain ⟨z, e1, e2⟩ := minL_run (P := P) rest us x _ u (har.2 0 _ _ rfl rfl) (by simpa using har.1) (fun j p u h1 h2 => har.2 (j + 1) p u (by simpa using h1) (by simpa using h2)) hq
        exact ok_value (by rw [hrun]; simp only [builtin, Sem.run_bind, Builtin.min_]; rw [e1]; rfl) hR.inv (.refl _ _ _) e2
  · rename_i x rest
    match us, har with
    | [], har => exact absurd har.1 (by simp)
    | u :: us, har =>
      cases hq : minmaxL false x rest with
      | none => rw [hq] at hm; cases hm
      | some q =>
        rw [hq] at hm
        cases hm
        obtain ⟨z, e1, e2⟩ := maxL_run (P := P) rest us x _ u (har.2 0 _ _ rfl rfl) (by simpa using har.1) (fun j p u h1 h2 => har.2 (j + 1) p u (by simpa using h1) (by simpa using h2)) hq
        exact ok_value (by rw [hrun]; simp only [builtin, Sem.run_bind, Builtin.max_]; rw [e1]; rfl) hR.inv (.refl _ _ _) e2
  · rename_i x
    match us, har with
    | [], har => exact absurd har.1 (by simp)
    | _ :: _ :: _, har => exact absurd har.1 (by simp)
    | [u], har =>
      have hx := har.2 0 _ _ rfl rfl
      cases ht : c.argTypes[0]? with
      | none => rw [ht] at hm; cases hm
      | some ty =>
        rw [ht] at hm
        simp only [Option.bind_some] at hm
        cases hl : clearA P ty B x with
        | none => rw [hl] at hm; cases hm
        | some q =>
          rw [hl] at hm
          cases hm
          obtain ⟨w', e1, e2, e3⟩ := clear_run (P := P) (ty := o.type) hR.inv hx hl
          have hcong : (Builtin.clear_ c.argTypes o.type [u].toArray).run P w = (Builtin.clear_ #[ty] o.type #[u]).run P w := by
            unfold Builtin.clear_
            simp [ht]
          exact ok_value (by rw [hrun]; simp only [builtin, Sem.run_bind]; rw [hcong, e1]; rfl) e2 e3 (.tup [] [] rfl (fun j p u hp => by simp at hp))
  · rename_i x k
    obtain ⟨u, z, rfl, h1, h2⟩ := len2 rfl
    cases ht : c.argTypes[0]? with
    | none => rw [ht] at hm; cases hm
    | some ty =>
    rw [ht] at hm
    simp only [Option.bind_some] at hm
    cases hl : deleteA P ty B x k with
    | none => rw [hl] at hm; cases hm
    | some q =>
      rw [hl] at hm
      cases hm
      obtain ⟨w', e1, e2, e3⟩ := delete_run (P := P) (tk := ty) (ty := o.type) hR.inv h1 h2 hl
      have hcong : (Builtin.delete_ c.argTypes o.type [u, z].toArray).run P w = (Builtin.delete_ #[ty, ty] o.type #[u, z]).run P w := by
        unfold Builtin.delete_
        simp [ht]
      exact ok_value (by rw [hrun]; simp only [builtin, Sem.run_bind]; rw [hcong, e1]; rfl) e2 e3 (.tup [] [] rfl (fun j p u hp => by simp at hp))
  · cases hm

theorem call_run {Γ : Env} (hΓ : ∀ f, SoundF P f (Γ f)) {o : Oper} {a : Act} {w : World} {B B' : List Box} {ρ : Loc} {n : Nat} {t : T} {v : AV} (hR : Rel F B ρ w n t a) {c : Call} (ho : o.op = .call c)
    (hm : callA P Γ t B c = some (v, B')) : OpOk F P o a w B ρ v B' := by
  unfold callA at hm
  split at hm
  · rename_i b hb
    exact builtin_run (Γ := Γ) hR ho hb hm
  · rename_i f hf
    split at hm
    · rename_i g cap hg
      have hv := hR.eval f
      rw [hg] at hv
      cases hval : a.eval f with
      | func fn first us =>
        rw [hval] at hv
        cases hv with
        | fn _ _ vs h1 h2 =>
        have har := (args_rel hR c.args.toList).append ⟨h1, h2⟩
        have hargs : c.args.map a.eval = (c.args.toList.map a.eval).toArray := by
          apply Array.ext'; simp
        have hrun : (execOp a.eval o).run P w = (callFunc g (c.args.toList.map a.eval ++ vs).toArray).run P w := by
          simp only [execOp, ho, resolve, hf, hval, Deferred.ofValue, Sem.run_bind, Sem.run_pure, Result.andThen_ok, invoke]
          rw [hargs]
          congr 2
          apply Array.ext'
          simp
        exact ok_call hrun (hΓ g _ _ _ _ hm F ρ w _ hR.inv har)
      | _ => rw [hval] at hv; cases hv
    · cases hm
  · cases hm

end Go.Ax
