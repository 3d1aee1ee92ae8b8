/- What a function comes to; what an argument is; the end of a law's proof. -/
import Derived.Test.YtnhhaidlpbkmjaaBx14
import Derived.ProofKit
import Derived.Deep.Slices
import Derived.OpenShut
set_option linter.unusedVariables false
set_option linter.unusedSimpArgs false
set_option linter.unusedSectionVars false
namespace Go.Ax
open Go.RowKit

variable [Glob] {P : Program} {F : Nat → Prop}

/-! ### A function -/
def resA (P : Program) (s : AS) : ResultVar → Option AV
  | .tmp i => some (s.t i)
  | .cell a ty => match s.t a with
    | .ptr b v o => loadA P ty s.B (.ptr b v o)
    | _ => none

def resList (P : Program) (s : AS) : List ResultVar → Option (List AV)
  | [] => some []
  | r :: rs => (resA P s r).bind fun v => (resList P s rs).map fun vs => v :: vs

def oneOf : List AV → AV
  | [v] => v
  | vs => .tup vs

def argsT (args : List AV) : T := fun i => (args[i]?).getD (.p (.v undef))

def endA (P : Program) (rs : List ResultVar) : Option (AE × AS) → Option (AV × List Box)
  | some (.ret, s) => (resList P s rs).map fun vs => (oneOf vs, s.B)
  | some (.normal, s) => (resList P s rs).map fun vs => (oneOf vs, s.B)
  | _ => none

/-- A function's body, at these arguments. -/
noncomputable def fnA (P : Program) (Γ : Env) (fn : Func) (args : List AV) (B : List Box) : Option (AV × List Box) :=
  if Nat.ble args.length fn.ntmps then
    match fn.body with
    | some c => endA P fn.results.toList (codeA P Γ fn.ntmps c ⟨argsT args, B⟩)
    | none => none
  else none

def resSem (tmps : Array Value) : ResultVar → Sem Value
  | .tmp t => pure (tmps.getD t undef)
  | .cell a t => do loadVar t (← asAddr (tmps.getD a undef))

theorem res_run {s : AS} {ρ : Loc} {w : World} {n : Nat} {a : Act} (hR : Rel F s.B ρ w n s.t a) {r : ResultVar} {v : AV} (h : resA P s r = some v) :
    ∃ x, (resSem a.tmps r).run P w = .ok x w ∧ VRel F s.B ρ w v x := by
  cases r with
  | tmp i => cases h; exact ⟨_, rfl, hR.tm i⟩
  | cell b ty =>
    simp only [resA] at h
    split at h
    · rename_i b' v' o hb
      have hx := hR.tm b
      rw [hb] at hx
      cases hv : a.tmps.getD b undef with
      | pointer ad =>
        rw [hv] at hx
        cases hx with
        | ptr _ _ _ ad hp =>
          obtain ⟨y, e1, e2⟩ := loadAt_run (P := P) hR.inv (.ptr _ _ _ _ hp) h
          refine ⟨y, ?_, e2⟩
          simp only [resSem, hv, asAddr, Sem.run_bind, Sem.run_pure, Result.andThen_ok]
          simpa [Instr.loadAt, Instr.sureAddr] using e1
      | _ => rw [hv] at hx; cases hx
    · cases h

theorem resList_run {s : AS} {ρ : Loc} {w : World} {n : Nat} {a : Act} (hR : Rel F s.B ρ w n s.t a) : ∀ (rs : List ResultVar) (vs : List AV), resList P s rs = some vs →
    ∃ us : List Value, (rs.mapM (resSem a.tmps)).run P w = .ok us w ∧ ArgsRel F s.B ρ w vs us
  | [], vs, h => by cases h; exact ⟨[], rfl, rfl, fun j p u hp => by simp at hp⟩
  | r :: rs, vs, h => by
    simp only [resList] at h
    obtain ⟨v, h1, h2⟩ := Option.bind_eq_some_iff.1 h
    obtain ⟨vs', h3, h4⟩ := map_some h2
    subst h4
    obtain ⟨x, e1, e2⟩ := res_run hR h1
    obtain ⟨us, e3, e4⟩ := resList_run hR rs vs' h3
    refine ⟨x :: us, ?_, by simp [e4.1], fun j p u hp hu => ?_⟩
    · rw [List.mapM_cons, Sem.run_bind, e1]
      simp only [Result.andThen_ok, Sem.run_bind]
      rw [e3]
      rfl
    · cases j with
      | zero => cases hp; cases hu; exact e2
      | succ j => exact e4.2 j p u (by simpa using hp) (by simpa using hu)

def oneV : List Value → Value
  | [v] => v
  | vs => .tuple vs.toArray

theorem results_run {fn : Func} {s : AS} {ρ : Loc} {w : World} {n : Nat} {a : Act} (hR : Rel F s.B ρ w n s.t a) {vs : List AV} (h : resList P s fn.results.toList = some vs) :
    ∃ x, (results fn a.tmps).run P w = .ok x w ∧ VRel F s.B ρ w (oneOf vs) x := by
  obtain ⟨us, e1, e2⟩ := resList_run hR _ vs h
  have hrun : (results fn a.tmps).run P w = .ok (oneV us) w := by
    have hd : results fn a.tmps = (do let vs ← fn.results.mapM (resSem a.tmps); pure (if h : vs.size = 1 then vs[0] else .tuple vs)) := by
      unfold results
      first | rfl | (congr 1; congr 1; funext r; cases r <;> rfl)
    rw [hd, Array.mapM_eq_mapM_toList]
    simp only [Sem.run_bind, Sem.run_map]
    rw [e1]
    match us with
    | [] => rfl
    | [_] => rfl
    | _ :: _ :: _ => simp only [Result.andThen_ok, Sem.run_pure, oneV]; rw [dif_neg (by simp)]
  refine ⟨oneV us, hrun, ?_⟩
  clear hrun e1 h
  match vs, us, e2 with
  | [v], [u], e2 => exact e2.2 0 v u rfl rfl
  | [], [], e2 => exact .tup [] [] rfl (fun j p u hp => by simp at hp)
  | v1 :: v2 :: vr, u1 :: u2 :: ur, e2 => exact .tup _ _ e2.1 e2.2
  | [], _ :: _, e2 => exact absurd e2.1 (by simp)
  | _ :: _, [], e2 => exact absurd e2.1 (by simp)
  | [_], _ :: _ :: _, e2 => exact absurd e2.1 (by simp)
  | _ :: _ :: _, [_], e2 => exact absurd e2.1 (by simp)

theorem fn_calls {Γ : Env} (hm : P.follows .mixedOrders = true) (hΓ : ∀ f, SoundF P f (Γ f)) {f : FuncId} {fn : Func} (hf : P.funcs[f]? = some fn) {args : List AV} {B : List Box} {r : AV} {B' : List Box} (h : fnA P Γ fn args B = some (r, B'))
    {ρ : Loc} {w : World} {us : List Value} (hI : Inv F B ρ w) (hA : ArgsRel F B ρ w args us) : Calls P f us.toArray w (Post F B ρ w r B') := by
  unfold fnA at h
  split at h
  · rename_i hle
    rw [Nat.ble_eq] at hle
    split at h
    · rename_i c hc
      refine calls_of_wp hf hc ?_
      have hsz : us.length ≤ fn.ntmps := by rw [← hA.1]; exact hle
      have hR : Rel F B ρ w fn.ntmps (argsT args) { tmps := us.toArray ++ Array.replicate (fn.ntmps - us.toArray.size) undef, defers := [] } := by
        refine ⟨hI, fun i => ?_, rfl, by simp; omega⟩
        unfold argsT
        cases hi : args[i]? with
        | none =>
          have hge : us.length ≤ i := by
            rw [← hA.1]
            exact List.getElem?_eq_none_iff.1 hi
          have : (us.toArray ++ Array.replicate (fn.ntmps - us.toArray.size) undef).getD i undef = undef := by
            rw [Array.getD_eq_getD_getElem?, Array.getElem?_append_right (by simpa using hge), Array.getElem?_replicate]
            split <;> rfl
          rw [this]
          exact .p _ _ (.v _)
        | some x =>
          have hlt : i < us.length := by rw [← hA.1]; exact (List.getElem?_eq_some_iff.1 hi).1
          have : (us.toArray ++ Array.replicate (fn.ntmps - us.toArray.size) undef).getD i undef = us[i] := by
            rw [Array.getD_eq_getD_getElem?, Array.getElem?_append_left (by simpa using hlt)]
            simp [hlt]
          rw [this]
          exact hA.2 i x _ hi (List.getElem?_eq_getElem hlt)
      unfold endA at h
      split at h
      · rename_i s hcode
        obtain ⟨vs, h1, h2⟩ := map_some h
        cases h2
        refine code_sound hm hΓ c ⟨argsT args, B⟩ (.ret, s) hcode hR (fun a' w' ρ' hR' hE => ?_)
        obtain ⟨x, e1, e2⟩ := results_run (fn := fn) hR' h1
        exact ⟨hR'.df, x, e1, x, ρ', rfl, hR'.inv, hE, e2⟩
      · rename_i s hcode
        obtain ⟨vs, h1, h2⟩ := map_some h
        cases h2
        refine code_sound hm hΓ c ⟨argsT args, B⟩ (.normal, s) hcode hR (fun a' w' ρ' hR' hE => ?_)
        obtain ⟨x, e1, e2⟩ := results_run (fn := fn) hR' h1
        exact ⟨hR'.df, x, e1, x, ρ', rfl, hR'.inv, hE, e2⟩
      · cases h
    · cases h
  · cases h

def enters (P : Program) (f : FuncId) : Bool :=
  match P.funcs[f]? with
  | some fn => fn.body.isSome && fn.name != "runtime.NumGoroutine"
  | none => false

theorem enter_run {f : FuncId} (h : enters P f = true) (us : Array Value) (w : World) : (callFunc f us).run P w = .ok (.enter f us) w := by
  unfold enters at h
  split at h
  · rename_i fn hf
    simp only [Bool.and_eq_true, bne_iff_ne] at h
    obtain ⟨h1, h2⟩ := h
    cases hb : fn.body with
    | none => rw [hb] at h1; cases h1
    | some c => simp [callFunc, hf, h2, hb]
  · cases h

/-- A contract of a function, just what its body comes to. -/
theorem sound_exact {Γ : Env} (hm : P.follows .mixedOrders = true) (hΓ : ∀ f, SoundF P f (Γ f)) {f : FuncId} {fn : Func} (hf : P.funcs[f]? = some fn) (he : enters P f = true) {s : FSpec}
    (h : ∀ args B r B', s.run args B = some (r, B') → fnA P Γ fn args B = some (r, B')) : SoundF P f s :=
  fun args B r B' hs F ρ w us hI hA => .inl ⟨enter_run he us.toArray w, fn_calls hm hΓ hf (h args B r B' hs) hI hA⟩

theorem sound_none (f : FuncId) : SoundF P f .none := fun _ _ _ _ h => by cases h

end Go.Ax
