/- The check of trees: code. -/
import Derived.Test.YtnhhaidlpbkmjaaBt4
set_option linter.unusedVariables false
set_option linter.unusedSimpArgs false
set_option linter.unusedSectionVars false
namespace Go.Ax
open Go.RowKit

variable [Glob] {P : Program} {Γ : Env} {Δ : REnv} {n m0 : Nat} {K : AE → St → Prop}

/-- What is said of a call, boxes and all, holds. -/
def SoundR (P : Program) (f : Nat) (R : RSpec) : Prop :=
  ∀ args B r B', R args B r B' → ∀ (F : Nat → Prop) ρ w us, Inv F B ρ w → ArgsRel F B ρ w args us → CallOk P f us.toArray w (Post F B ρ w r B')

def StepR (P : Program) (n : Nat) (ops : List Oper) (o : Oper) (s s' : AS) : Prop := ∃ Γ' : Env, (∀ f, SoundF P f (Γ' f)) ∧ stepA P Γ' n ops o s = some s'

def OpsR (P : Program) (n : Nat) (ops : List Oper) : List Oper → AS → AS → Prop
  | [], s, s' => s = s'
  | o :: l, s, s' => ∃ s1, StepR P n ops o s s1 ∧ OpsR P n ops l s1 s'

theorem opsR_sound {ops : List Oper} {F : Nat → Prop} {Q : Exit → Act → World → Prop} : ∀ (l : List Oper) (s s' : AS), OpsR P n ops l s s' → ∀ {ρ : Loc} {w : World} {a : Act}, Rel F s.B ρ w n s.t a →
    (∀ a' w' ρ', Rel F s'.B ρ' w' n s'.t a' → Ext F s.B ρ w s'.B ρ' w' → Q .normal a' w') → wpList P ops.toArray Q l a w
  | [], s, s', h, ρ, w, a, hR, hQ => by cases h; exact hQ a w ρ hR (.refl _ _ _)
  | o :: l, s, s', ⟨s1, ⟨Γ', hΓ, h1⟩, h2⟩, ρ, w, a, hR, hQ => by
    refine wpList_step fun K hK => ?_
    exact step_sound hΓ h1 hR (fun a' w' ρ' hR' hE => hK _ _ (opsR_sound l s1 s' h2 hR' (fun a2 w2 ρ2 hR2 hE2 => hQ a2 w2 ρ2 hR2 (hE.trans hE2))))

theorem Tri.regionR {s s' : AS} {K : AE → AS → Prop} {id : Nat} {ops : Array Oper} (h : OpsR P n ops.toList ops.toList s s') (hk : K .normal s') : Tri P n m0 false (.region id ops false) s K := by
  intro F B0 ρ0 w0 h0 ρ w a hR hE Q hQ
  refine wp_region_list ?_
  have := opsR_sound (Q := Q) ops.toList s s' h hR (fun a' w' ρ' hR' hE' => hQ .normal s' a' w' ρ' hk hR' (hE.trans hE'))
  simpa using this

open Classical in
/-- One call more is told. -/
noncomputable def overΓ (Γ : Env) (g : Nat) (args : List AV) (B : List Box) (r : AV) (B' : List Box) : Env :=
  fun f => if f = g then .gen (fun a b => if a = args ∧ b = B then some (r, B') else none) else Γ f

theorem overΓ_ok (hΓ : ∀ f, SoundF P f (Γ f)) (hΔ : ∀ f, SoundR P f (Δ f)) {g : Nat} {args : List AV} {B : List Box} {r : AV} {B' : List Box} (h : Δ g args B r B') : ∀ f, SoundF P f (overΓ Γ g args B r B' f) := by
  intro f
  unfold overΓ
  split
  · rename_i e
    subst e
    intro a b r1 B1 hs
    simp only [FSpec.run] at hs
    split at hs
    · rename_i he
      cases hs
      rw [he.1, he.2]
      exact hΔ f args B r B' h
    · cases hs
  · exact hΓ f

theorem callrC_sound (hΓ : ∀ f, SoundF P f (Γ f)) (hΔ : ∀ f, SoundR P f (Δ f)) {ops : List Oper} {o : Oper} {s : AS} {d : Option Nat} {v : AV} {B : List Box} {k : Tree} {κ : AS → Tree → Tree} (hw : wantedA ops s.t o = some true)
    (h : (callrC Δ n o s d v B k κ).wp K) : ∃ s' T', StepR P n ops o s s' ∧ (κ s' T').wp K := by
  unfold callrC at h
  split at h
  · rename_i c hop
    split at h
    · rename_i f hf
      split at h
      · rename_i g cap hg
        obtain ⟨hp, h⟩ := h
        have hrun : opA P (overΓ Γ g (c.args.toList.map (evalA s.t) ++ cap) s.B v B) s.t s.B o.op = some (v, B) := by
          rw [hop]
          simp only [opA, callA, hf, hg, overΓ, if_true, FSpec.run, and_self]
        obtain ⟨v1, B1, t', T', g1, g2, g3⟩ := good_put (P := P) hrun h
        refine ⟨⟨t', B1⟩, T', ⟨_, overΓ_ok hΓ hΔ hp, ?_⟩, g3⟩
        unfold stepA
        rw [hw]
        simp only [Option.bind_some, if_true, g1, g2]
        rfl
      · exact h.elim
    · exact h.elim
  · exact h.elim

theorem callxC_sound (hΓ : ∀ f, SoundF P f (Γ f)) (hΔ : ∀ f, SoundR P f (Δ f)) {ops : List Oper} {o : Oper} {s : AS} {β : Type} {d : Option Nat} {v : β → AV} {B : β → List Box} {k : β → Tree} {κ : AS → Tree → Tree} (hw : wantedA ops s.t o = some true)
    (h : (callxC Δ n o s d v B k κ).wp K) : ∃ s' T', StepR P n ops o s s' ∧ (κ s' T').wp K := by
  unfold callxC at h
  split at h
  · rename_i c hop
    split at h
    · rename_i f hf
      split at h
      · rename_i g cap hg
        obtain ⟨y, hp, h⟩ := h
        have hrun : opA P (overΓ Γ g (c.args.toList.map (evalA s.t) ++ cap) s.B (v y) (B y)) s.t s.B o.op = some (v y, B y) := by
          rw [hop]
          simp only [opA, callA, hf, hg, overΓ, if_true, FSpec.run, and_self]
        obtain ⟨v1, B1, t', T', g1, g2, g3⟩ := good_put (P := P) hrun h
        refine ⟨⟨t', B1⟩, T', ⟨_, overΓ_ok hΓ hΔ hp, ?_⟩, g3⟩
        unfold stepA
        rw [hw]
        simp only [Option.bind_some, if_true, g1, g2]
        rfl
      · exact h.elim
    · exact h.elim
  · exact h.elim

theorem stepC_sound (hΓ : ∀ f, SoundF P f (Γ f)) (hΔ : ∀ f, SoundR P f (Δ f)) {draw : Option Nat} {ops : List Oper} {o : Oper} {s : AS} {T : Tree} {κ : AS → Tree → Tree} (h : (stepC P Γ Δ n draw ops o s T κ).wp K) :
    ∃ s' T', (draw = none → StepR P n ops o s s') ∧ (∀ n0, draw = some n0 → stepD P Γ n n0 ops o s = some s') ∧ (κ s' T').wp K := by
  unfold stepC at h
  split at h
  · rename_i hw
    have hh := cond_wp h
    clear h
    rcases hh with ⟨hok, h⟩ | ⟨_, h⟩
    · have good : Good P Γ n K o s κ → ∃ s' T', (draw = none → StepR P n ops o s s') ∧ (∀ n0, draw = some n0 → stepD P Γ n n0 ops o s = some s') ∧ (κ s' T').wp K := by
        rintro ⟨v, B, t', T', g1, g2, g3⟩
        refine ⟨⟨t', B⟩, T', fun _ => ⟨Γ, hΓ, ?_⟩, fun n0 hn => ?_, g3⟩
        · unfold stepA
          rw [hw]
          simp only [Option.bind_some, if_true, g1, g2]
          rfl
        · subst hn
          unfold stepD
          rw [hw]
          simp only [Option.bind_some, if_true]
          simp only [okD] at hok
          rw [if_pos hok, g1]
          simp only [Option.bind_some, g2]
          rfl
      split at h
      · have hh := cond_wp h
        clear h
        rcases hh with ⟨_, h⟩ | ⟨_, h⟩
        · obtain ⟨s', T', g1, g2⟩ := callrC_sound hΓ hΔ hw h
          refine ⟨s', T', fun _ => g1, ?_, g2⟩
          intro n0 hn
          cases hn
        · exact good (good_plain h)
      · have hh := cond_wp h
        clear h
        rcases hh with ⟨_, h⟩ | ⟨_, h⟩
        · obtain ⟨s', T', g1, g2⟩ := callxC_sound hΓ hΔ hw h
          refine ⟨s', T', fun _ => g1, ?_, g2⟩
          intro n0 hn
          cases hn
        · exact good (good_plain h)
      · exact good (opC_sound h)
    · exact h.elim
  · rename_i hw
    obtain ⟨t', g1, g2⟩ := putC_wp h
    refine ⟨⟨t', s.B⟩, T, fun _ => ⟨Γ, hΓ, ?_⟩, fun n0 hn => ?_, g2⟩
    · unfold stepA
      rw [hw]
      simp only [Option.bind_some, Bool.false_eq_true, if_false, g1]
      rfl
    · unfold stepD
      rw [hw]
      simp only [Option.bind_some, Bool.false_eq_true, if_false, g1]
      rfl
  · exact h.elim

theorem opsC_sound (hΓ : ∀ f, SoundF P f (Γ f)) (hΔ : ∀ f, SoundR P f (Δ f)) {draw : Option Nat} {ops : List Oper} : ∀ (l : List Oper) {s : AS} {T : Tree} {κ : AS → Tree → Tree}, (opsC P Γ Δ n draw ops l s T κ).wp K →
    ∃ s' T', (draw = none → OpsR P n ops l s s') ∧ (∀ n0, draw = some n0 → opsD P Γ n n0 ops l s = some s') ∧ (κ s' T').wp K
  | [], s, T, κ, h => ⟨s, T, fun _ => rfl, fun _ _ => rfl, h⟩
  | o :: rest, s, T, κ, h => by
    obtain ⟨s1, T1, g1, g2, g3⟩ := stepC_sound hΓ hΔ h
    obtain ⟨s2, T2, f1, f2, f3⟩ := opsC_sound hΓ hΔ rest g3
    refine ⟨s2, T2, fun hn => ⟨s1, g1 hn, f1 hn⟩, fun n0 hn => ?_, f3⟩
    simp only [opsD, g2 n0 hn, Option.bind_some, f2 n0 hn]

/-! ### To forget, reckoned -/
section
variable {l : List (Nat × Nat × Option (List PV))}

def fB (l : List (Nat × Nat × Option (List PV))) (j : Nat) : Nat := ((l[j]?).map fun x => x.1).getD 0
def dB (l : List (Nat × Nat × Option (List PV))) (j : Nat) : Nat := ((l[j]?).map fun x => x.2.1).getD 0

theorem idxB_spec : ∀ {l : List (Nat × Nat × Option (List PV))} {b k j d : Nat}, idxB l b k = some (j, d) → k ≤ j ∧ j - k < l.length ∧ fB l (j - k) = b ∧ dB l (j - k) = d
  | [], b, k, j, d, h => by simp [idxB] at h
  | (b', d', r) :: l, b, k, j, d, h => by
    unfold idxB at h
    cases hb : Nat.beq b' b with
    | true =>
      rw [hb] at h
      cases h
      have := Nat.eq_of_beq_eq_true hb
      subst this
      simp [fB, dB]
    | false =>
      rw [hb] at h
      obtain ⟨h1, h2, h3, h4⟩ := idxB_spec (l := l) h
      have e : j - k = (j - (k + 1)) + 1 := by omega
      refine ⟨by omega, by simp; omega, ?_, ?_⟩
      · rw [e]; simpa [fB] using h3
      · rw [e]; simpa [dB] using h4

theorem inv_spec : ∀ {x y : AV}, x.inv l = some y → x = y.rv (fB l) (dB l) ∧ y.low l.length = true := by
  have list : ∀ {cs : List AV}, (∀ c ∈ cs, ∀ {y : AV}, c.inv l = some y → c = y.rv (fB l) (dB l) ∧ y.low l.length = true) → ∀ {ds : List AV}, AV.inv.invL l cs = some ds → cs = AV.rv.rvL (fB l) (dB l) ds ∧ AV.low.allLow l.length ds = true := by
    intro cs
    induction cs with
    | nil => intro _ ds h; cases h; exact ⟨rfl, rfl⟩
    | cons c cs ih =>
      intro hc ds h
      simp only [AV.inv.invL] at h
      split at h
      · rename_i e he
        split at h
        · rename_i es hes
          cases h
          obtain ⟨h1, h2⟩ := hc c (by simp) he
          obtain ⟨h3, h4⟩ := ih (fun c' hc' => hc c' (by simp [hc'])) hes
          exact ⟨by rw [AV.rv.rvL, ← h1, ← h3], by simp [AV.low.allLow, h2, h4]⟩
        · cases h
      · cases h
  intro x
  induction x using AV.rec (motive_2 := fun cs => ∀ c ∈ cs, ∀ {y : AV}, c.inv l = some y → c = y.rv (fB l) (dB l) ∧ y.low l.length = true) with
  | u => intro y h; cases h
  | p x => intro y h; cases h; exact ⟨rfl, rfl⟩
  | rp cs => intro y h; cases h; exact ⟨rfl, rfl⟩
  | mp b =>
    intro y h
    simp only [AV.inv] at h
    split at h
    · rename_i j d hj
      obtain ⟨h1, h2, h3, h4⟩ := idxB_spec hj
      simp only [Nat.sub_zero] at h2 h3 h4
      cases h
      exact ⟨by simp only [AV.rv, h3], by simpa [AV.low, Nat.blt_eq] using h2⟩
    · cases h
  | op b =>
    intro y h
    simp only [AV.inv] at h
    split at h
    · rename_i j d hj
      obtain ⟨h1, h2, h3, h4⟩ := idxB_spec hj
      simp only [Nat.sub_zero] at h2 h3 h4
      cases h
      exact ⟨by simp only [AV.rv, h3], by simpa [AV.low, Nat.blt_eq] using h2⟩
    · cases h
  | ptr b v o =>
    intro y h
    simp only [AV.inv] at h
    split at h
    · rename_i j d hj
      obtain ⟨h1, h2, h3, h4⟩ := idxB_spec hj
      simp only [Nat.sub_zero] at h2 h3 h4
      cases hd : Nat.ble d v with
      | false => rw [hd] at h; cases h
      | true =>
        rw [hd] at h
        cases h
        rw [Nat.ble_eq] at hd
        refine ⟨?_, by simpa [AV.low, Nat.blt_eq] using h2⟩
        simp only [AV.rv, h3, h4, AV.ptr.injEq, and_true, true_and]
        omega
    · cases h
  | rs b v z o len =>
    intro y h
    simp only [AV.inv] at h
    split at h
    · rename_i j d hj
      obtain ⟨h1, h2, h3, h4⟩ := idxB_spec hj
      simp only [Nat.sub_zero] at h2 h3 h4
      cases hd : Nat.ble d v with
      | false => rw [hd] at h; cases h
      | true =>
        rw [hd] at h
        cases h
        rw [Nat.ble_eq] at hd
        refine ⟨?_, by simpa [AV.low, Nat.blt_eq] using h2⟩
        simp only [AV.rv, h3, h4, AV.rs.injEq, and_true, true_and]
        omega
    · cases h
  | agg cs ih =>
    intro y h
    simp only [AV.inv] at h
    split at h
    · rename_i ds hds
      cases h
      obtain ⟨h1, h2⟩ := list ih hds
      exact ⟨by rw [AV.rv, ← h1], by simpa [AV.low] using h2⟩
    · cases h
  | fn g cs ih =>
    intro y h
    simp only [AV.inv] at h
    split at h
    · rename_i ds hds
      cases h
      obtain ⟨h1, h2⟩ := list ih hds
      exact ⟨by rw [AV.rv, ← h1], by simpa [AV.low] using h2⟩
    · cases h
  | tup cs ih =>
    intro y h
    simp only [AV.inv] at h
    split at h
    · rename_i ds hds
      cases h
      obtain ⟨h1, h2⟩ := list ih hds
      exact ⟨by rw [AV.rv, ← h1], by simpa [AV.low] using h2⟩
    · cases h
  | nil => exact absurd ‹_ ∈ ([] : List AV)› (List.not_mem_nil)
  | cons c cs h1 h2 =>
    rename_i c' hc' y hy
    rcases List.mem_cons.1 hc' with rfl | hc'
    · exact h1 hy
    · exact h2 _ hc' hy

theorem invL_spec : ∀ {cs ds : List AV}, AV.inv.invL l cs = some ds → cs.length = ds.length ∧ ∀ (i : Nat) (c c' : AV), cs[i]? = some c → ds[i]? = some c' → c = c'.rv (fB l) (dB l) ∧ c'.low l.length = true
  | [], ds, h => by cases h; exact ⟨rfl, fun i c c' h => by simp at h⟩
  | c :: cs, ds, h => by
    simp only [AV.inv.invL] at h
    split at h
    · rename_i e he
      split at h
      · rename_i es hes
        cases h
        obtain ⟨g1, g2⟩ := invL_spec hes
        refine ⟨by simp [g1], fun i x y hx hy => ?_⟩
        cases i with
        | zero => cases hx; cases hy; exact inv_spec he
        | succ i => exact g2 i x y (by simpa using hx) (by simpa using hy)
      · cases h
    · cases h

theorem row_pure (xs : List PV) (i : Nat) (c : AV) (h : (rowC xs)[i]? = some c) (f d : Nat → Nat) (m : Nat) : c = c.rv f d ∧ c.low m = true := by
  unfold rowC at h
  rw [List.getElem?_map] at h
  cases hx : (xs.flatMap PV.cells)[i]? with
  | none => rw [hx] at h; cases h
  | some x => rw [hx] at h; cases h; exact ⟨rfl, rfl⟩

theorem invBoxes_spec {B : List Box} : ∀ {r : List (Nat × Nat × Option (List PV))} {olds : List (List AV)} {Bs : List Box}, invBoxes l B r = some (olds, Bs) → olds = (r.filterMap fun b => b.2.2.map rowC) →
    Bs.length = r.length ∧ (∀ (j : Nat) (row : Bool) (v : Nat) (cs' : List AV), Bs[j]? = some (.cells row v cs') → ∃ x, r[j]? = some x ∧ ∃ cs : List AV, B[x.1]? = some (.cells row (v + x.2.1) cs) ∧ cs.length = cs'.length ∧
      ∀ (i : Nat) (c c' : AV), cs[i]? = some c → cs'[i]? = some c' → c = c'.rv (fB l) (dB l) ∧ c'.low l.length = true) ∧
      ∀ (j : Nat) (cs' : List AV) (Φ : ObjP), Bs[j]? = some (.obj cs' Φ) → ∃ x, r[j]? = some x ∧ ∃ cs : List AV, B[x.1]? = some (.obj cs Φ) ∧ cs.length = cs'.length ∧
      ∀ (i : Nat) (c c' : AV), cs[i]? = some c → cs'[i]? = some c' → c = c'.rv (fB l) (dB l) ∧ c'.low l.length = true
  | [], olds, Bs, h, _ => by cases h; exact ⟨rfl, fun j row v cs' h => by simp at h, fun j cs' Φ h => by simp at h⟩
  | (b, d, x) :: r, olds, Bs, h, ho => by
    simp only [invBoxes] at h
    split at h
    · rename_i row v cs hb
      cases hd : Nat.ble d v with
      | false => rw [hd] at h; cases h
      | true =>
        rw [hd] at h
        rw [Nat.ble_eq] at hd
        simp only [cond_true] at h
        split at h
        · rename_i olds1 Bs1 h1
          split at h
          · rename_i xs
            cases h
            simp only [List.filterMap_cons, Option.map_some, List.cons.injEq] at ho
            obtain ⟨rfl, ho⟩ := ho
            obtain ⟨g1, g2, g3⟩ := invBoxes_spec h1 ho
            refine ⟨by simp [g1], fun j row' v' cs' hj => ?_, fun j cs' Φ hj => by
              cases j with
              | zero => simp at hj
              | succ j => exact g3 j cs' Φ (by simpa using hj)⟩
            cases j with
            | zero =>
              simp only [List.getElem?_cons_zero, Option.some.injEq, Box.cells.injEq] at hj
              obtain ⟨rfl, rfl, rfl⟩ := hj
              refine ⟨_, rfl, rowC xs, ?_, rfl, fun i c c' hc hc' => ?_⟩
              · dsimp only
                rw [show v - d + d = v by omega]
                exact hb
              · rw [hc] at hc'
                cases hc'
                exact row_pure xs i c hc _ _ _
            | succ j => exact g2 j row' v' cs' (by simpa using hj)
          · split at h
            · rename_i ds hds
              cases h
              simp only [List.filterMap_cons, Option.map_none] at ho
              obtain ⟨g1, g2, g3⟩ := invBoxes_spec h1 ho
              refine ⟨by simp [g1], fun j row' v' cs' hj => ?_, fun j cs' Φ hj => by
                cases j with
                | zero => simp at hj
                | succ j => exact g3 j cs' Φ (by simpa using hj)⟩
              cases j with
              | zero =>
                simp only [List.getElem?_cons_zero, Option.some.injEq, Box.cells.injEq] at hj
                obtain ⟨rfl, rfl, rfl⟩ := hj
                obtain ⟨f1, f2⟩ := invL_spec hds
                refine ⟨_, rfl, cs, ?_, f1, f2⟩
                dsimp only
                rw [show v - d + d = v by omega]
                exact hb
              | succ j => exact g2 j row' v' cs' (by simpa using hj)
            · cases h
        · cases h
    · rename_i cs Φ hb
      split at h
      · rename_i olds1 Bs1 ds h1 hds
        cases h
        simp only [List.filterMap_cons, Option.map_none] at ho
        obtain ⟨g1, g2, g3⟩ := invBoxes_spec h1 ho
        refine ⟨by simp [g1], fun j row' v' cs' hj => ?_, fun j cs' Φ' hj => ?_⟩
        · cases j with
          | zero => simp at hj
          | succ j => exact g2 j row' v' cs' (by simpa using hj)
        · cases j with
          | zero =>
            simp only [List.getElem?_cons_zero, Option.some.injEq, Box.obj.injEq] at hj
            obtain ⟨rfl, rfl⟩ := hj
            obtain ⟨f1, f2⟩ := invL_spec hds
            exact ⟨_, rfl, cs, hb, f1, f2⟩
          | succ j => exact g3 j cs' Φ' (by simpa using hj)
      · cases h
    · cases h

theorem noDupB_spec : ∀ {l : List (Nat × Nat × Option (List PV))}, noDupB l = true → ∀ i j, i < l.length → j < l.length → fB l i = fB l j → i = j
  | [], _, i, _, h, _, _ => by simp at h
  | x :: r, hd, i, j, hi, hj, e => by
    simp only [noDupB, Bool.and_eq_true, Bool.not_eq_true', List.any_eq_false] at hd
    have at0 : ∀ k, k < r.length → fB (x :: r) (k + 1) ≠ x.1 := fun k hk he => by
      have : fB (x :: r) (k + 1) = r[k].1 := by simp [fB, hk]
      rw [this] at he
      exact hd.1 r[k] (List.getElem_mem hk) (by rw [he]; exact Nat.beq_refl _)
    have hz : fB (x :: r) 0 = x.1 := rfl
    cases i with
    | zero =>
      cases j with
      | zero => rfl
      | succ j => exact (at0 j (by simpa using hj) (by rw [← e, hz])).elim
    | succ i =>
      cases j with
      | zero => exact (at0 i (by simpa using hi) (by rw [e, hz])).elim
      | succ j =>
        have h1 : fB (x :: r) (i + 1) = fB r i := by simp [fB]
        have h2 : fB (x :: r) (j + 1) = fB r j := by simp [fB]
        have := noDupB_spec hd.2 i j (by simpa using hi) (by simpa using hj) (by rw [← h1, ← h2]; exact e)
        omega

theorem staysB_spec {m0 : Nat} : ∀ {l : List (Nat × Nat × Option (List PV))} {k : Nat}, staysB m0 k l = true → ∀ j, k + j < m0 → j < l.length → fB l j = k + j ∧ dB l j = 0
  | [], _, _, j, _, h => by simp at h
  | x :: r, k, hs, j, hm, hj => by
    simp only [staysB, Bool.and_eq_true, Bool.or_eq_true, Nat.ble_eq] at hs
    cases j with
    | zero =>
      rcases hs.1 with h | h
      · omega
      · exact ⟨Nat.eq_of_beq_eq_true h.1, Nat.eq_of_beq_eq_true h.2⟩
    | succ j =>
      obtain ⟨h1, h2⟩ := staysB_spec hs.2 j (by omega) (by simpa using hj)
      refine ⟨?_, ?_⟩
      · rw [show k + (j + 1) = k + 1 + j by omega, ← h1]; simp [fB]
      · rw [← h2]; simp [dB]
end

theorem weakC_wk {W : Wd} {s : AS} {olds : List (List AV)} {c : St} (h : weakC m0 W s = some (olds, c)) (ho : oldsOk W olds) :
    Wk s c.as (fB W.boxes) (dB W.boxes) ∧ (∀ j, j < m0 → fB W.boxes j = j ∧ dB W.boxes j = 0) ∧ m0 ≤ c.as.B.length := by
  unfold weakC at h
  cases hc : noDupB W.boxes && staysB m0 0 W.boxes && Nat.ble m0 W.boxes.length with
  | false => rw [hc] at h; cases h
  | true =>
    rw [hc] at h
    simp only [cond_true] at h
    simp only [Bool.and_eq_true, Nat.ble_eq] at hc
    obtain ⟨⟨g1, g2⟩, g3⟩ := hc
    split at h
    · rename_i olds1 Bs hB
      cases h
      obtain ⟨q1, q2, q3⟩ := invBoxes_spec hB ho
      have hlen : (St.as (W.slots.map fun i => (i, invSlot W.boxes (s.t i)), Bs)).B.length = W.boxes.length := q1
      have hfx : ∀ (j : Nat) x, W.boxes[j]? = some x → fB W.boxes j = x.1 ∧ dB W.boxes j = x.2.1 := fun j x hx => by simp [fB, dB, hx]
      have hbox : ∀ (j : Nat) (row : Bool) (v : Nat) (cs' : List AV), Bs[j]? = some (.cells row v cs') → ∃ cs : List AV, s.B[fB W.boxes j]? = some (.cells row (v + dB W.boxes j) cs) ∧ cs.length = cs'.length ∧
          ∀ (i : Nat) (c c' : AV), cs[i]? = some c → cs'[i]? = some c' → c = c'.rv (fB W.boxes) (dB W.boxes) ∧ c'.low W.boxes.length = true := by
        intro j row v cs' hj
        obtain ⟨x, hx, cs, e1, e2, e3⟩ := q2 j row v cs' hj
        rw [(hfx j x hx).1, (hfx j x hx).2]
        exact ⟨cs, e1, e2, e3⟩
      refine ⟨⟨fun i => ?_, fun j hj => ?_, fun j row v cs' hj => ?_, fun i j hi hj e => noDupB_spec g1 i j (by omega) (by omega) e, fun j cs' Φ hj => ?_⟩, fun j hj => ?_, by omega⟩
      · rcases tk_get (W.slots.map fun i => (i, invSlot W.boxes (s.t i))) i with h | ⟨j, v, hj, hv⟩
        · exact .inl h
        · rw [List.getElem?_map] at hj
          cases hs : W.slots[j]? with
          | none => rw [hs] at hj; cases hj
          | some i' =>
            rw [hs] at hj
            simp only [Option.map_some, Option.some.injEq, Prod.mk.injEq] at hj
            obtain ⟨rfl, rfl⟩ := hj
            show tk _ i' = .u ∨ _ = AV.rv _ _ (tk _ i') ∧ AV.low _ (tk _ i') = true
            rw [hv]
            unfold invSlot
            split
            · rename_i y hy
              have := inv_spec hy
              rw [← q1] at this
              exact .inr this
            · exact .inl rfl
      · have hj' : j < W.boxes.length := by omega
        -- the box is there
        have : ∀ {r : List (Nat × Nat × Option (List PV))} {olds : List (List AV)} {Bs : List Box}, invBoxes W.boxes s.B r = some (olds, Bs) → ∀ (j : Nat) (x : Nat × Nat × Option (List PV)), r[j]? = some x → x.1 < s.B.length := by
          intro r
          induction r with
          | nil => intro _ _ _ j x hx; simp at hx
          | cons y r ih =>
            intro olds Bs h j x hx
            obtain ⟨b, d, z⟩ := y
            simp only [invBoxes] at h
            split at h
            · rename_i row v cs hb
              cases j with
              | zero => cases hx; exact (List.getElem?_eq_some_iff.1 hb).1
              | succ j =>
                cases hd : Nat.ble d v with
                | false => rw [hd] at h; cases h
                | true =>
                  rw [hd] at h
                  simp only [cond_true] at h
                  split at h
                  · rename_i o1 B1 h1
                    exact ih h1 j x (by simpa using hx)
                  · cases h
            · rename_i cs Φ hb
              cases j with
              | zero => cases hx; exact (List.getElem?_eq_some_iff.1 hb).1
              | succ j =>
                split at h
                · rename_i o1 B1 ds h1 hds
                  exact ih h1 j x (by simpa using hx)
                · cases h
            · cases h
        have hx : W.boxes[j]? = some W.boxes[j] := List.getElem?_eq_getElem hj'
        rw [(hfx j _ hx).1]
        exact this hB j _ hx
      · rw [hlen]; exact hbox j row v cs' hj
      · rw [hlen]
        obtain ⟨x, hx, cs, e1, e2, e3⟩ := q3 j cs' Φ hj
        rw [(hfx j x hx).1]
        exact ⟨cs, e1, e2, e3⟩
      · obtain ⟨e1, e2⟩ := staysB_spec g2 j (by omega) (by omega)
        exact ⟨by omega, e2⟩
    · cases h

end Go.Ax
