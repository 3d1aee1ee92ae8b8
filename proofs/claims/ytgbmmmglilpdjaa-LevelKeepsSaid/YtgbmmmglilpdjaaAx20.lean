/- Code that can be reckoned to its end, loops and all. -/
import Derived.Test.YtgbmmmglilpdjaaAx19
set_option linter.unusedVariables false
set_option linter.unusedSimpArgs false
namespace Go.Ax
open Go.RowKit

def loopF : Nat → (AS → Option (AE × AS)) → AS → Option (AE × AS)
  | 0, _, _ => none
  | k + 1, body, s =>
    match body s with
    | none => none
    | some (.normal, s') => loopF k body s'
    | some (.exit i, s') => some (.exit i, s')
    | some (.ret, s') => some (.ret, s')

def codeF (P : Program) (Γ : Env) (fuel n : Nat) : Code → AS → Option (AE × AS)
  | .skip, s => some (.normal, s)
  | .region _ ops draw, s =>
    if draw then (if drawOk P Γ ops.toList then (opsD P Γ n s.B.length ops.toList ops.toList s).map fun s' => (.normal, s') else none)
    else (opsA P Γ n ops.toList ops.toList s).map fun s' => (.normal, s')
  | .seq a b, s =>
    (codeF P Γ fuel n a s).bind fun r =>
      match r with
      | (.normal, s') => codeF P Γ fuel n b s'
      | (.exit i, s') => some (.exit i, s')
      | (.ret, s') => some (.ret, s')
  | .cond c x y, s => (boolA (evalA s.t c)).bind fun q => if q then codeF P Γ fuel n x s else codeF P Γ fuel n y s
  | .block id b, s =>
    (codeF P Γ fuel n b s).map fun r =>
      match r with
      | (.exit i, s') => if Nat.beq i id then (.normal, s') else (.exit i, s')
      | (.normal, s') => (.normal, s')
      | (.ret, s') => (.ret, s')
  | .loop b, s => loopF fuel (codeF P Γ fuel n b) s
  | .exit id, s => some (.exit id, s)
  | .ret, s => some (.ret, s)
  | _, _ => none

variable {P : Program}

theorem loopF_sound {f g : AS → Option (AE × AS)} (h : ∀ s r, f s = some r → g s = some r) : ∀ (k : Nat) (s : AS) (r : AE × AS), loopF k f s = some r → loopM (fun s => roundOf (g s)) s = some r
  | 0, s, r, hr => by cases hr
  | k + 1, s, r, hr => by
    unfold loopF at hr
    split at hr
    · cases hr
    · rename_i s' he
      exact loopM_next (s' := s') (by simp only [h _ _ he, roundOf]) (loopF_sound h k s' r hr)
    · rename_i i s' he
      cases hr
      exact loopM_done (by simp only [h _ _ he, roundOf])
    · rename_i s' he
      cases hr
      exact loopM_done (by simp only [h _ _ he, roundOf])

theorem codeF_sound {Γ : Env} {fuel n : Nat} : ∀ (c : Code) (s : AS) (r : AE × AS), codeF P Γ fuel n c s = some r → codeA P Γ n c s = some r := by
  intro c
  induction c with
  | skip => intro s r h; exact h
  | region id ops draw => intro s r h; exact h
  | seq a b iha ihb =>
    intro s r h
    simp only [codeF] at h
    obtain ⟨⟨e, s1⟩, h1, h2⟩ := Option.bind_eq_some_iff.1 h
    simp only [codeA, iha _ _ h1, Option.bind_some]
    cases e with
    | normal => exact ihb _ _ h2
    | exit i => exact h2
    | ret => exact h2
  | cond c x y ihx ihy =>
    intro s r h
    simp only [codeF] at h
    obtain ⟨q, h1, h2⟩ := Option.bind_eq_some_iff.1 h
    simp only [codeA, h1, Option.bind_some]
    cases q with
    | true => exact ihx _ _ h2
    | false => exact ihy _ _ h2
  | block id b ih =>
    intro s r h
    simp only [codeF] at h
    obtain ⟨⟨e, s1⟩, h1, h2⟩ := map_some h
    simp only [codeA, ih _ _ h1, Option.map_some]
    cases e <;> exact congrArg some h2
  | loop b ih =>
    intro s r h
    exact loopF_sound ih fuel s r h
  | exit id => intro s r h; exact h
  | ret => intro s r h; exact h
  | _ => intro s r h; simp [codeF] at h

def fnF (P : Program) (Γ : Env) (fuel : Nat) (fn : Func) (args : List AV) (B : List Box) : Option (AV × List Box) :=
  if Nat.ble args.length fn.ntmps then
    match fn.body with
    | some c => endA P fn.results.toList (codeF P Γ fuel fn.ntmps c ⟨argsT args, B⟩)
    | none => none
  else none

theorem fnF_sound {Γ : Env} {fuel : Nat} {fn : Func} {args : List AV} {B : List Box} {r : AV × List Box} (h : fnF P Γ fuel fn args B = some r) : fnA P Γ fn args B = some r := by
  unfold fnF at h
  unfold fnA
  split at h
  · rename_i hle
    rw [if_pos hle]
    split at h
    · rename_i c hc
      rw [hc]
      show endA P fn.results.toList (codeA P Γ fn.ntmps c ⟨argsT args, B⟩) = some r
      cases hcf : codeF P Γ fuel fn.ntmps c ⟨argsT args, B⟩ with
      | none => rw [hcf] at h; cases h
      | some q => rw [hcf] at h; rw [codeF_sound _ _ _ hcf]; exact h
    · cases h
  · cases h

/-- A function that is reckoned. -/
theorem sound_fuel {Γ : Env} (hm : P.follows .mixedOrders = true) (hΓ : ∀ f, SoundF P f (Γ f)) {f : FuncId} {fn : Func} (hf : P.funcs[f]? = some fn) (he : enters P f = true) (fuel : Nat) : SoundF P f (.gen (fnF P Γ fuel fn)) :=
  sound_exact hm hΓ hf he (fun _ _ _ _ h => fnF_sound h)

/-- Reckoned to its end: one slot. -/
theorem reckoned {Γ : Env} {fuel n : Nat} {c : Code} {s : AS} {e : AE} {i : Nat} {v : AV} (hv : v.low 0 = true) (hr : v.ren (nthF []) = v) (h : (codeF P Γ fuel n c s).map (fun r => (r.1, r.2.t i)) = some (e, v)) : EvC P Γ n 0 c s e ⟨tk [(i, v)], []⟩ := by
  obtain ⟨⟨e', s'⟩, h1, h2⟩ := map_some h
  simp only [Prod.mk.injEq] at h2
  obtain ⟨rfl, h2⟩ := h2
  have hw : WeakL 0 [] ([(i, v)].map fun p => s'.t p.1) s'.B ([(i, v)].map (·.2)) [] := ⟨rfl, ⟨.inl ⟨by show s'.t i = v.ren (nthF []); rw [hr]; exact h2, hv⟩, trivial⟩, trivial⟩
  obtain ⟨g1, g2, g3⟩ := hw.weak
  exact .weakr (.run (codeF_sound _ _ _ h1)) g1 g2 g3

end Go.Ax
