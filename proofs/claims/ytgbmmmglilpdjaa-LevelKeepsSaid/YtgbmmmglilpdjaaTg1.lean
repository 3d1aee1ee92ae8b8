/- A region that draws its order, its orders gone through: what commutes is done first, else each order is told. -/
import Derived.Test.YtgbmmmglilpdjaaTx5
set_option linter.unusedVariables false
set_option linter.unusedSimpArgs false
namespace Go.Ax
open Go.RowKit

variable {P : Program} {F : Nat → Prop}

def calleeA (t : T) : Op → Option Nat
  | .call c => match c.callee with
    | .value f => match evalA t f with
      | .fn g _ => some g
      | _ => none
    | _ => none
  | _ => none

theorem opA_local {Γ1 Γ2 : Env} {t : T} {B : List Box} {op : Op} (h : ∀ g, calleeA t op = some g → Γ1 g = Γ2 g) : opA P Γ1 t B op = opA P Γ2 t B op := by
  cases op with
  | call c =>
    simp only [opA, callA]
    simp only [calleeA] at h
    split
    · rfl
    · rename_i f hf
      rw [hf] at h
      dsimp only at h
      split
      · rename_i g cap hg
        rw [hg] at h
        rw [h g rfl]
      · rfl
    all_goals rfl
  | makeFunc fn first cap => cases fn <;> rfl
  | slice t x lo hi mx => cases mx <;> rfl
  | _ => rfl

theorem clsOf_congr {Γ1 Γ2 : Env} (h : ∀ f, isPure (Γ1 f) = isPure (Γ2 f)) (ops : List Oper) (op : Op) : clsOf P Γ1 ops op = clsOf P Γ2 ops op := by
  cases op <;> simp only [clsOf, h]

theorem cls_callee {Γ : Env} {t : T} {op : Op} {g : Nat} (h : calleeA t op = some g) (hp : isPure (Γ g) = false) (ops : List Oper) : clsOf P Γ ops op = .wo := by
  cases op with
  | call c =>
    simp only [calleeA] at h
    split at h
    · rename_i f hf
      simp only [clsOf]
      rw [hf]
      split at h
      · rename_i g' cap hg
        cases h
        split
        all_goals first | rfl | (rename_i he; cases he) | skip
        all_goals simp_all [evalA]
      · cases h
    · cases h
  | _ => cases h

/-- More is told of functions of which nothing was told. -/
def Over (Γ Γ' : Env) : Prop := ∀ f, Γ' f = Γ f ∨ (Γ f = .none ∧ isPure (Γ' f) = false)
theorem Over.pure {Γ Γ' : Env} (h : Over Γ Γ') (f : Nat) : isPure (Γ' f) = isPure (Γ f) := by
  rcases h f with h | ⟨h1, h2⟩
  · rw [h]
  · rw [h1, h2]; rfl

theorem stepD_congr {Γ1 Γ2 : Env} {n n0 : Nat} {ops : List Oper} {o : Oper} {s : AS} (h1 : ∀ f, isPure (Γ1 f) = isPure (Γ2 f)) (h2 : ∀ g, calleeA s.t o.op = some g → Γ1 g = Γ2 g) : stepD P Γ1 n n0 ops o s = stepD P Γ2 n n0 ops o s := by
  unfold stepD
  rw [clsOf_congr h1, opA_local h2]

def StepX (P : Program) (Γ : Env) (n n0 : Nat) (ops : List Oper) (o : Oper) (s s' : AS) : Prop := ∃ Γ' : Env, (∀ f, SoundF P f (Γ' f)) ∧ Over Γ Γ' ∧ stepD P Γ' n n0 ops o s = some s'

theorem swapX {Γ : Env} {n n0 : Nat} {ops : List Oper} {oi oj : Oper} {s s1 s2 : AS} (hap : oi.apart ops.toArray oj = true) (hcl : (clsOf P Γ ops oi.op).clash (clsOf P Γ ops oj.op) = false)
    (h1 : StepX P Γ n n0 ops oi s s1) (h2 : StepX P Γ n n0 ops oj s1 s2) : ∃ s1', StepX P Γ n n0 ops oj s s1' ∧ StepX P Γ n n0 ops oi s1' s2 := by
  obtain ⟨Γi, ok1, ov1, d1⟩ := h1
  obtain ⟨Γj, ok2, ov2, d2⟩ := h2
  have hok : ∀ f, SoundF P f ((fun f => if calleeA s.t oi.op = some f then Γi f else Γj f : Env) f) := fun f => by
    dsimp only
    split
    · exact ok1 f
    · exact ok2 f
  have hov : Over Γ (fun f => if calleeA s.t oi.op = some f then Γi f else Γj f : Env) := fun f => by
    dsimp only
    split
    · exact ov1 f
    · exact ov2 f
  have e1 : stepD P (fun f => if calleeA s.t oi.op = some f then Γi f else Γj f : Env) n n0 ops oi s = some s1 := by
    rw [stepD_congr (Γ2 := Γi) (fun f => (hov.pure f).trans (ov1.pure f).symm) (fun g hg => by rw [if_pos hg])]
    exact d1
  have e2 : stepD P (fun f => if calleeA s.t oi.op = some f then Γi f else Γj f : Env) n n0 ops oj s1 = some s2 := by
    rw [stepD_congr (Γ2 := Γj) (fun f => (hov.pure f).trans (ov2.pure f).symm) (fun g hg => ?_)]
    · exact d2
    · by_cases hi : calleeA s.t oi.op = some g
      · rw [if_pos hi]
        rcases ov1 g with a | ⟨a, a'⟩
        · rcases ov2 g with b | ⟨b, b'⟩
          · rw [a, b]
          · have hp : isPure (Γ g) = false := by rw [b]; rfl
            rw [cls_callee hi hp, cls_callee hg hp] at hcl
            cases hcl
        · have hp : isPure (Γ g) = false := by rw [a]; rfl
          rw [cls_callee hi hp, cls_callee hg hp] at hcl
          cases hcl
      · rw [if_neg hi]
  have hcl2 : (clsOf P (fun f => if calleeA s.t oi.op = some f then Γi f else Γj f : Env) ops oi.op).clash (clsOf P (fun f => if calleeA s.t oi.op = some f then Γi f else Γj f : Env) ops oj.op) = false := by
    rw [clsOf_congr (fun f => hov.pure f), clsOf_congr (fun f => hov.pure f)]
    exact hcl
  obtain ⟨s1', q1, q2⟩ := swap hap hcl2 e1 e2
  exact ⟨s1', ⟨_, hok, hov, q1⟩, ⟨_, hok, hov, q2⟩⟩

/-- Whatever order is picked from here on, the end is right. -/
def AnyX (P : Program) (Γ : Env) (n n0 : Nat) (ops : List Oper) (Fin : AS → Prop) : Nat → Array Bool → AS → Prop
  | 0, L, s => Region.ready .any ops.toArray L = [] ∧ Fin s
  | f + 1, L, s => (Region.ready .any ops.toArray L = [] → Fin s) ∧
    ∀ i ∈ Region.ready .any ops.toArray L, ∃ oi s1, ops[i]? = some oi ∧ StepX P Γ n n0 ops oi s s1 ∧ AnyX P Γ n n0 ops Fin f (L.setIfInBounds i true) s1

theorem anyX_first {Γ : Env} {n n0 : Nat} {ops : List Oper} {Fin : AS → Prop} {i : Nat} {oi : Oper} (hi : ops[i]? = some oi) :
    ∀ (fuel : Nat) (L : Array Bool) (s s1 : AS), (∀ j oj, ops[j]? = some oj → j ≠ i → L.getD j true = false → reach ops 24 j i = true ∨ (oi.apart ops.toArray oj = true ∧ (clsOf P Γ ops oi.op).clash (clsOf P Γ ops oj.op) = false)) →
      Closed ops L → i ∈ Region.ready .any ops.toArray L → StepX P Γ n n0 ops oi s s1 →
      AnyX P Γ n n0 ops Fin fuel (L.setIfInBounds i true) s1 → AnyX P Γ n n0 ops Fin (fuel + 1) L s := by
  intro fuel
  induction fuel with
  | zero =>
    intro L s s1 hfree hc hr hs H
    refine ⟨fun h => (by rw [h] at hr; cases hr), fun j hj => ?_⟩
    by_cases hji : j = i
    · subst hji; exact ⟨oi, s1, hi, hs, H⟩
    · have := ready_mono hj hji
      rw [H.1] at this
      cases this
  | succ fuel ih =>
    intro L s s1 hfree hc hr hs H
    refine ⟨fun h => (by rw [h] at hr; cases hr), fun j hj => ?_⟩
    by_cases hji : j = i
    · subst hji; exact ⟨oi, s1, hi, hs, H⟩
    · obtain ⟨oj, s2, hoj, hs2, H2⟩ := H.2 j (ready_mono hj hji)
      have hjl : L.getD j true = false := (mem_ready.1 hj).1
      have hil : L.getD i true = false := (mem_ready.1 hr).1
      obtain ⟨oj', hoj', hall⟩ := ready_waits hj
      rw [hoj] at hoj'
      cases hoj'
      rcases hfree j oj hoj hji hjl with hre | ⟨hap, hcl⟩
      · have := reach_listed hc 24 j hre (fun oj' hoj' => by rw [hoj] at hoj'; cases hoj'; exact hall)
        rw [not_listed hil] at this
        cases this
      · obtain ⟨s1', e1, e2⟩ := swapX hap hcl hs hs2
        refine ⟨oj, s1', hoj, e1, ih (L.setIfInBounds j true) s1' s2 (fun k ok hok hki hkl => hfree k ok hok hki ?_) (closed_set hc hj) (ready_mono hr (Ne.symm hji)) e2 ?_⟩
        · by_cases hkj : k = j
          · rw [hkj]; exact hjl
          · rwa [getD_set_ne true (Ne.symm hkj)] at hkl
        · rw [Array.setIfInBounds_comm _ _ hji]
          exact H2

theorem anyX_sound {Γ : Env} {n n0 : Nat} {ops : List Oper} {Fin : AS → Prop} {Q : Exit → Act → World → Prop} : ∀ (fuel : Nat) (L : Array Bool) (s : AS), AnyX P Γ n n0 ops Fin fuel L s → ∀ {ρ : Loc} {w : World} {a : Act}, Rel F s.B ρ w n s.t a →
    (∀ fin a' w' ρ', Fin fin → Rel F fin.B ρ' w' n fin.t a' → Ext F s.B ρ w fin.B ρ' w' → Q .normal a' w') → wpAny P .any ops.toArray Q fuel L a w
  | 0, L, s, h, ρ, w, a, hR, hQ => by
    obtain ⟨h1, h2⟩ := h
    exact ⟨h1, hQ s a w ρ h2 hR (.refl _ _ _)⟩
  | fuel + 1, L, s, h, ρ, w, a, hR, hQ => by
    refine ⟨fun h0 => hQ s a w ρ (h.1 h0) hR (.refl _ _ _), fun i hi => ?_⟩
    obtain ⟨oi, s1, hoi, ⟨Γ', hΓ', _, hs⟩, H⟩ := h.2 i hi
    unfold wpOp
    have : ops.toArray[i]? = some oi := by simpa using hoi
    rw [this]
    simp only
    have hst := step_sound hΓ' (stepD_step hs) hR (K := wpAny P .any ops.toArray Q fuel (L.setIfInBounds i true)) (Q := Q) (fun a' w' ρ' hR' hE => anyX_sound fuel _ s1 H hR' (fun fin a2 w2 ρ2 hF hR2 hE2 => hQ fin a2 w2 ρ2 hF hR2 (hE.trans hE2)))
    split
    · rename_i hw; rw [if_pos hw] at hst; exact .inl hst
    · rename_i hw; rw [if_neg hw] at hst; exact hst

theorem Tri.regionX {Γ : Env} {m0 : Nat} {s : AS} {K : AE → AS → Prop} (hm : P.follows .mixedOrders = true) {id n n0 : Nat} {ops : Array Oper} (h : AnyX P Γ n n0 ops.toList (K .normal) ops.size (Array.replicate ops.size false) s) : Tri P n m0 false (.region id ops true) s K := by
  intro F B0 ρ0 w0 h0 ρ w a hR hE Q hQ
  refine wp_region_any hm ?_
  obtain ⟨hR2, hE2⟩ := drew_rel hR (w.drawn + 1)
  have := anyX_sound (Q := Q) _ _ s h hR2 (fun fin a' w' ρ' hk h1 h2 => hQ .normal fin a' w' ρ' hk h1 ((hE.trans hE2).trans h2))
  simpa using this

end Go.Ax
