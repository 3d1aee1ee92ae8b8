/- A region that draws its order; code; a function. -/
import Derived.Test.YtnhhaidlpbkmjaaBx13
set_option linter.unusedVariables false
set_option linter.unusedSimpArgs false
set_option linter.unusedSectionVars false
namespace Go.Ax
open Go.RowKit

variable [Glob] {P : Program} {F : Nat → Prop}

/-- Whatever order is picked from here on, the end is 'fin'. -/
def AnyA (P : Program) (Γ : Env) (n n0 : Nat) (ops : List Oper) (fin : AS) : Nat → Array Bool → AS → Prop
  | 0, L, s => Region.ready .any ops.toArray L = [] ∧ s = fin
  | f + 1, L, s => (Region.ready .any ops.toArray L = [] → s = fin) ∧
    ∀ i ∈ Region.ready .any ops.toArray L, ∃ oi s1, ops[i]? = some oi ∧ stepD P Γ n n0 ops oi s = some s1 ∧ AnyA P Γ n n0 ops fin f (L.setIfInBounds i true) s1

/-- What is listed has all that it waits for listed. -/
def Closed (ops : List Oper) (L : Array Bool) : Prop := ∀ j oj, ops[j]? = some oj → L.getD j true = true → j < L.size → ∀ e ∈ oj.after, Region.binds .any e = true → L.getD e.on false = true

theorem getD_true_false {L : Array Bool} {i : Nat} (h : L.getD i false = true) : i < L.size ∧ L.getD i true = true := by
  rcases Nat.lt_or_ge i L.size with h' | h'
  · refine ⟨h', ?_⟩
    simp [h'] at h ⊢; exact h
  · simp [h'] at h

theorem reach_listed {ops : List Oper} {L : Array Bool} (hc : Closed ops L) {i : Nat} : ∀ (fuel j : Nat), reach ops fuel j i = true → (∀ oj, ops[j]? = some oj → ∀ e ∈ oj.after, Region.binds .any e = true → L.getD e.on false = true) → L.getD i false = true
  | 0, _, h, _ => by cases h
  | fuel + 1, j, h, hj => by
    simp only [reach] at h
    split at h
    · cases h
    · rename_i oj hoj
      rw [List.any_eq_true] at h
      obtain ⟨e, he, h2⟩ := h
      simp only [Bool.and_eq_true, Bool.or_eq_true] at h2
      obtain ⟨hb, h3⟩ := h2
      have hl := hj oj hoj e (by simpa using he) hb
      rcases h3 with h3 | h3
      · have := Nat.eq_of_beq_eq_true h3
        rw [← this]; exact hl
      · obtain ⟨g1, g2⟩ := getD_true_false hl
        exact reach_listed hc fuel e.on h3 (fun oj hoj e' he' hb' => hc _ oj hoj g2 g1 e' he' hb')

theorem ready_waits {ops : List Oper} {L : Array Bool} {j : Nat} (h : j ∈ Region.ready .any ops.toArray L) : ∃ oj, ops[j]? = some oj ∧ ∀ e ∈ oj.after, Region.binds .any e = true → L.getD e.on false = true := by
  obtain ⟨_, oj, hoj, hall⟩ := mem_ready.1 h
  exact ⟨oj, by simpa using hoj, hall⟩

theorem closed_set {ops : List Oper} {L : Array Bool} (hc : Closed ops L) {i : Nat} (hi : i ∈ Region.ready .any ops.toArray L) : Closed ops (L.setIfInBounds i true) := by
  intro j oj hoj hl hs e he hb
  have mono : ∀ k, L.getD k false = true → (L.setIfInBounds i true).getD k false = true := fun k hk => getD_set_true hk
  by_cases hji : j = i
  · subst hji
    obtain ⟨oj', hoj', hall⟩ := ready_waits hi
    rw [hoj] at hoj'
    cases hoj'
    exact mono _ (hall e he hb)
  · rw [getD_set_ne true (fun h => hji h.symm)] at hl
    exact mono _ (hc j oj hoj hl (by simpa using hs) e he hb)

theorem not_listed {L : Array Bool} {i : Nat} (h : L.getD i true = false) : L.getD i false = false := by
  rcases Nat.lt_or_ge i L.size with h' | h'
  · simp [h'] at h ⊢; exact h
  · simp [h'] at h

theorem anyA_first {Γ : Env} {n n0 : Nat} {ops : List Oper} {fin : AS} {i : Nat} {oi : Oper} (hi : ops[i]? = some oi)
    (hfree : ∀ j oj, ops[j]? = some oj → i < j → reach ops 24 j i = true ∨ (oi.apart ops.toArray oj = true ∧ (clsOf P Γ ops oi.op).clash (clsOf P Γ ops oj.op) = false)) :
    ∀ (fuel : Nat) (L : Array Bool) (s s1 : AS), Closed ops L → (∀ j, j < i → L.getD j false = true) → i ∈ Region.ready .any ops.toArray L → stepD P Γ n n0 ops oi s = some s1 →
      AnyA P Γ n n0 ops fin fuel (L.setIfInBounds i true) s1 → AnyA P Γ n n0 ops fin (fuel + 1) L s := by
  intro fuel
  induction fuel with
  | zero =>
    intro L s s1 hc hlow hr hs H
    refine ⟨fun h => (by rw [h] at hr; cases hr), fun j hj => ?_⟩
    by_cases hji : j = i
    · subst hji; exact ⟨oi, s1, hi, hs, H⟩
    · have := ready_mono hj hji
      rw [H.1] at this
      cases this
  | succ fuel ih =>
    intro L s s1 hc hlow hr hs H
    refine ⟨fun h => (by rw [h] at hr; cases hr), fun j hj => ?_⟩
    by_cases hji : j = i
    · subst hji; exact ⟨oi, s1, hi, hs, H⟩
    · obtain ⟨oj, s2, hoj, hs2, H2⟩ := H.2 j (ready_mono hj hji)
      have hjl : L.getD j true = false := (mem_ready.1 hj).1
      have hlt : i < j := by
        rcases Nat.lt_or_ge i j with h | h
        · exact h
        · have h1 := hlow j (by omega)
          have := not_listed hjl
          rw [this] at h1
          cases h1
      have hil : L.getD i true = false := (mem_ready.1 hr).1
      obtain ⟨oj', hoj', hall⟩ := ready_waits hj
      rw [hoj] at hoj'
      cases hoj'
      rcases hfree j oj hoj hlt with hre | ⟨hap, hcl⟩
      · have := reach_listed hc 24 j hre (fun oj' hoj' => by rw [hoj] at hoj'; cases hoj'; exact hall)
        rw [not_listed hil] at this
        cases this
      · obtain ⟨s1', e1, e2⟩ := swap hap hcl hs hs2
        refine ⟨oj, s1', hoj, e1, ih (L.setIfInBounds j true) s1' s2 (closed_set hc hj) (fun k hk => getD_set_true (hlow k hk)) (ready_mono hr (Ne.symm hji)) e2 ?_⟩
        rw [Array.setIfInBounds_comm _ _ hji]
        exact H2

theorem pairsOk_spec {Γ : Env} {ops : List Oper} {i : Nat} {oi : Oper} : ∀ (l : List Oper) (k : Nat), (∀ q, l[q]? = ops[k + q]?) → pairsOk P Γ ops i oi k l = true → ∀ j oj, ops[j]? = some oj → k ≤ j →
    reach ops 24 j i = true ∨ (oi.apart ops.toArray oj = true ∧ (clsOf P Γ ops oi.op).clash (clsOf P Γ ops oj.op) = false)
  | [], k, hl, _, j, oj, hoj, hk => by
    have := hl (j - k)
    rw [show k + (j - k) = j by omega, hoj] at this
    simp at this
  | o :: l, k, hl, h, j, oj, hoj, hk => by
    simp only [pairsOk, Bool.and_eq_true, Bool.or_eq_true, Bool.not_eq_true'] at h
    obtain ⟨h1, h2⟩ := h
    rcases Nat.lt_or_ge k j with hlt | hge
    · exact pairsOk_spec l (k + 1) (fun q => by have := hl (q + 1); rw [show k + 1 + q = k + (q + 1) by omega, ← this]; rfl) h2 j oj hoj hlt
    · have : j = k := by omega
      subst this
      have h0 := hl 0
      simp only [Nat.add_zero, List.getElem?_cons_zero] at h0
      rw [hoj] at h0
      cases h0
      exact h1

theorem lexA {Γ : Env} {n n0 : Nat} {ops : List Oper} {fin : AS} : ∀ (l : List Oper) (k : Nat) (L : Array Bool) (s : AS), (∀ q, l[q]? = ops[k + q]?) → allPairs P Γ ops k l = true → L.size = ops.length → k + l.length = ops.length → Closed ops L →
    (∀ j, j < k → L.getD j false = true) → (∀ j, k ≤ j → j < ops.length → L.getD j true = false) → opsD P Γ n n0 ops l s = some fin → AnyA P Γ n n0 ops fin l.length L s
  | [], k, L, s, hl, _, hsz, hk, hc, hlow, _, h => by
    cases h
    refine ⟨?_, rfl⟩
    rw [List.eq_nil_iff_forall_not_mem]
    intro j hj
    obtain ⟨h1, oj, hoj, _⟩ := mem_ready.1 hj
    have hlt : j < ops.length := by simpa using (Array.getElem?_eq_some_iff.1 hoj).1
    have := hlow j (by simp at hk; omega)
    rw [not_listed h1] at this
    cases this
  | o :: l, k, L, s, hl, ha, hsz, hk, hc, hlow, hhigh, h => by
    have h0 : ops[k]? = some o := by simpa using (hl 0).symm
    simp only [allPairs, Bool.and_eq_true] at ha
    obtain ⟨⟨a1, a2⟩, a3⟩ := ha
    simp only [opsD] at h
    obtain ⟨s1, h1, h2⟩ := Option.bind_eq_some_iff.1 h
    have hklt : k < ops.length := (List.getElem?_eq_some_iff.1 h0).1
    have hready : k ∈ Region.ready .any ops.toArray L := by
      refine mem_ready.2 ⟨hhigh k (Nat.le_refl _) hklt, o, by simpa using h0, fun e he hb => ?_⟩
      rw [List.all_eq_true] at a1
      have := a1 e (by simpa using he)
      simp only [Bool.or_eq_true, Bool.not_eq_true', Nat.blt_eq] at this
      rcases this with h | h
      · rw [hb] at h; cases h
      · exact hlow _ h
    have hl' : ∀ q, l[q]? = ops[k + 1 + q]? := fun q => by have := hl (q + 1); rw [show k + 1 + q = k + (q + 1) by omega, ← this]; rfl
    refine anyA_first h0 (fun j oj hoj hlt => pairsOk_spec l (k + 1) hl' a2 j oj hoj hlt) l.length L s s1 hc hlow hready h1 ?_
    refine lexA l (k + 1) _ s1 hl' a3 (by simpa using hsz) (by simp at hk; omega) (closed_set hc hready) (fun j hj => ?_) (fun j h1 h2 => ?_) h2
    · rcases Nat.lt_or_ge j k with h | h
      · exact getD_set_true (hlow j h)
      · have : j = k := by omega
        subst this
        simp [hsz, hklt]
    · rw [getD_set_ne true (by omega)]
      exact hhigh j (by omega) h2

theorem stepD_step {Γ : Env} {n n0 : Nat} {ops : List Oper} {o : Oper} {s s' : AS} (h : stepD P Γ n n0 ops o s = some s') : stepA P Γ n ops o s = some s' := by
  rcases stepD_wanted h with ⟨v, B', w1, _, _, o1, p1, e1⟩ | ⟨w1, p1, e1⟩
  · unfold stepA
    rw [w1]
    simp only [Option.bind_some, if_true, o1, p1, Option.map_some]
    rw [← e1]
  · unfold stepA
    rw [w1]
    simp only [Option.bind_some, Bool.false_eq_true, if_false, p1, Option.map_some]
    rw [← e1]

theorem any_sound {Γ : Env} (hΓ : ∀ f, SoundF P f (Γ f)) {n n0 : Nat} {ops : List Oper} {fin : AS} {Q : Exit → Act → World → Prop} : ∀ (fuel : Nat) (L : Array Bool) (s : AS), AnyA P Γ n n0 ops fin fuel L s → ∀ {ρ : Loc} {w : World} {a : Act}, Rel F s.B ρ w n s.t a →
    (∀ a' w' ρ', Rel F fin.B ρ' w' n fin.t a' → Ext F s.B ρ w fin.B ρ' w' → Q .normal a' w') → wpAny P .any ops.toArray Q fuel L a w
  | 0, L, s, h, ρ, w, a, hR, hQ => by
    obtain ⟨h1, rfl⟩ := h
    exact ⟨h1, hQ a w ρ hR (.refl _ _ _)⟩
  | fuel + 1, L, s, h, ρ, w, a, hR, hQ => by
    refine ⟨fun h0 => by cases h.1 h0; exact hQ a w ρ hR (.refl _ _ _), fun i hi => ?_⟩
    obtain ⟨oi, s1, hoi, hs, H⟩ := h.2 i hi
    unfold wpOp
    have : ops.toArray[i]? = some oi := by simpa using hoi
    rw [this]
    simp only
    have hst := step_sound hΓ (stepD_step hs) hR (K := wpAny P .any ops.toArray Q fuel (L.setIfInBounds i true)) (Q := Q) (fun a' w' ρ' hR' hE => any_sound hΓ fuel _ s1 H hR' (fun a2 w2 ρ2 hR2 hE2 => hQ a2 w2 ρ2 hR2 (hE.trans hE2)))
    split
    · rename_i hw; rw [if_pos hw] at hst; exact .inl hst
    · rename_i hw; rw [if_neg hw] at hst; exact hst

theorem drew_rel {B : List Box} {ρ : Loc} {w : World} {n : Nat} {t : T} {a : Act} (h : Rel F B ρ w n t a) (k : Nat) : Rel F B ρ { w with drawn := k } n t a ∧ Ext F B ρ w B ρ { w with drawn := k } := by
  have hE : Ext F B ρ w B ρ { w with drawn := k } := ⟨Nat.le_refl _, rfl, rfl, rfl, fun _ _ ho => ⟨rfl, ho⟩, fun _ _ _ h => h, Nat.le_refl _, fun _ _ v cs _ h => ⟨v, cs, h, Nat.le_refl _, fun _ => ⟨rfl, rfl⟩⟩, fun _ cs Φ _ h => ⟨cs, Φ, h, rfl⟩, fun _ _ _ => rfl⟩
  refine ⟨⟨⟨fun b row v cs hb => ?_, h.inv.leaf, fun b cs Φ hb => ?_, h.inv.injx, h.inv.bound, h.inv.farx, fun g hg => (h.inv.glob g hg).ext hE, h.inv.off0⟩, fun i => (h.tm i).ext hE, h.df, h.size⟩, hE⟩
  case refine_2 =>
    obtain ⟨k', o, us, g1, g2, g3, g4⟩ := h.inv.obox b cs Φ hb
    exact ⟨k', o, us, g1, Φ.frame _ _ _ _ _ g2 (fun _ _ => rfl), g3, fun i c u h1 h2 => (g4 i c u h1 h2).ext hE⟩
  rcases h.inv.box b row v cs hb with h0 | ⟨k', o, us, e, fr, g1, g2, g3, g4, g5⟩
  · exact .inl h0
  · refine .inr ⟨k', o, us, e, fr, g1, g2, g3, g4, fun i c hc => ?_⟩
    obtain ⟨u, f1, f2⟩ := g5 i c hc
    exact ⟨u, f1, f2.ext hE⟩

theorem region_draw_sound {Γ : Env} (hm : P.follows .mixedOrders = true) (hΓ : ∀ f, SoundF P f (Γ f)) {ops : Array Oper} {n id : Nat} {Q : Exit → Act → World → Prop} {s s' : AS} (hok : drawOk P Γ ops.toList = true)
    (h : opsD P Γ n s.B.length ops.toList ops.toList s = some s') {ρ : Loc} {w : World} {a : Act} (hR : Rel F s.B ρ w n s.t a)
    (hQ : ∀ a' w' ρ', Rel F s'.B ρ' w' n s'.t a' → Ext F s.B ρ w s'.B ρ' w' → Q .normal a' w') : (Code.region id ops true).wp P Q a w := by
  refine wp_region_any hm ?_
  obtain ⟨hR2, hE⟩ := drew_rel hR (w.drawn + 1)
  unfold drawOk at hok
  rw [Bool.and_eq_true] at hok
  have := lexA (P := P) (Γ := Γ) (n := n) (n0 := s.B.length) (fin := s') ops.toList 0 (Array.replicate ops.size false) s (by simp) hok.2 (by simp) (by simp) (fun j oj hoj hl hs => ?_) (fun j hj => by omega) (fun j _ hj => by simp at hj; simp [hj]) h
  · have := any_sound hΓ (Q := Q) _ _ s this hR2 (fun a' w' ρ' h1 h2 => hQ a' w' ρ' h1 (hE.trans h2))
    simpa using this
  · simp at hs
    simp [hs] at hl

theorem code_sound {Γ : Env} (hm : P.follows .mixedOrders = true) (hΓ : ∀ f, SoundF P f (Γ f)) {n : Nat} : ∀ (c : Code) (s : AS) (r : AE × AS), codeA P Γ n c s = some r → ∀ {ρ : Loc} {w : World} {a : Act}, Rel F s.B ρ w n s.t a → ∀ {Q : Exit → Act → World → Prop},
    (∀ a' w' ρ', Rel F r.2.B ρ' w' n r.2.t a' → Ext F s.B ρ w r.2.B ρ' w' → Q r.1.to a' w') → c.wp P Q a w := by
  intro c
  induction c with
  | skip =>
    intro s r h ρ w a hR Q hQ
    cases h
    exact wp_skip (hQ a w ρ hR (.refl _ _ _))
  | region id ops draw =>
    intro s r h ρ w a hR Q hQ
    simp only [codeA] at h
    split at h
    · rename_i hd
      subst hd
      split at h
      · rename_i hok
        obtain ⟨s', h1, h2⟩ := map_some h
        subst h2
        exact region_draw_sound hm hΓ hok h1 hR hQ
      · cases h
    · rename_i hd
      have hd' : draw = false := by simpa using hd
      subst hd'
      obtain ⟨s', h1, h2⟩ := map_some h
      subst h2
      exact region_sound hΓ h1 hR hQ
  | seq x y ihx ihy =>
    intro s r h ρ w a hR Q hQ
    simp only [codeA] at h
    obtain ⟨r1, h1, h2⟩ := Option.bind_eq_some_iff.1 h
    refine wp_seq (ihx s r1 h1 hR (fun a' w' ρ' hR' hE => ?_))
    obtain ⟨e, s1⟩ := r1
    cases e with
    | normal => exact ihy s1 r h2 hR' (fun a2 w2 ρ2 hR2 hE2 => hQ a2 w2 ρ2 hR2 (hE.trans hE2))
    | exit id => cases h2; exact hQ a' w' ρ' hR' hE
    | ret => cases h2; exact hQ a' w' ρ' hR' hE
  | cond c x y ihx ihy =>
    intro s r h ρ w a hR Q hQ
    simp only [codeA] at h
    obtain ⟨q, h1, h2⟩ := Option.bind_eq_some_iff.1 h
    have hc := hR.eval c
    unfold boolA at h1
    split at h1
    · rename_i b hb
      cases h1
      rw [hb] at hc
      have hv := hc.val
      cases q with
      | true => exact wp_cond_true hv (ihx s r (by simpa using h2) hR hQ)
      | false => exact wp_cond_false hv (ihy s r (by simpa using h2) hR hQ)
    · cases h1
  | block id b ih =>
    intro s r h ρ w a hR Q hQ
    simp only [codeA] at h
    obtain ⟨r1, h1, h2⟩ := map_some h
    refine wp_block (ih s r1 h1 hR (fun a' w' ρ' hR' hE => ?_))
    obtain ⟨e, s1⟩ := r1
    cases e with
    | normal => cases h2; exact hQ a' w' ρ' hR' hE
    | ret => cases h2; exact hQ a' w' ρ' hR' hE
    | exit i =>
      simp only at h2
      split at h2
      · rename_i hi
        have := Nat.eq_of_beq_eq_true hi
        subst this
        cases h2
        show (if i = i then Q .normal a' w' else Q (.exit i) a' w')
        rw [if_pos rfl]
        exact hQ a' w' ρ' hR' hE
      · rename_i hi
        cases h2
        show (if i = id then Q .normal a' w' else Q (.exit i) a' w')
        rw [if_neg (fun e => hi (by subst e; exact Nat.beq_refl i))]
        exact hQ a' w' ρ' hR' hE
  | loop b ih =>
    intro s r h ρ w a hR Q hQ
    simp only [codeA] at h
    obtain ⟨m, hm'⟩ := loopM_some.1 h
    refine wp_loop_ghost (fun k a w => ∃ s1 ρ1, Loops (fun s => roundOf (codeA P Γ n b s)) k s1 r ∧ Rel F s1.B ρ1 w n s1.t a ∧ Ext F s.B ρ _ s1.B ρ1 w) m ⟨s, ρ, hm', hR, .refl _ _ _⟩ ?_
    rintro k a1 w1 ⟨s1, ρ1, hl, hR1, hE1⟩
    cases hl with
    | done hb =>
      cases hc : codeA P Γ n b s1 with
      | none => rw [hc] at hb; cases hb
      | some r1 =>
        obtain ⟨e, s2⟩ := r1
        rw [hc] at hb
        refine ih s1 _ hc hR1 (fun a' w' ρ' hR' hE => ?_)
        cases e with
        | normal => cases hb
        | exit id => cases hb; exact hQ a' w' ρ' hR' (hE1.trans hE)
        | ret => cases hb; exact hQ a' w' ρ' hR' (hE1.trans hE)
    | step hb hl' =>
      rename_i k' s2
      cases hc : codeA P Γ n b s1 with
      | none => rw [hc] at hb; cases hb
      | some r1 =>
        obtain ⟨e, s3⟩ := r1
        rw [hc] at hb
        refine ih s1 _ hc hR1 (fun a' w' ρ' hR' hE => ?_)
        cases e with
        | normal => cases hb; exact ⟨k', Nat.lt_succ_self _, s2, ρ', hl', hR', hE1.trans hE⟩
        | exit id => cases hb
        | ret => cases hb
  | exit id =>
    intro s r h ρ w a hR Q hQ
    cases h
    exact wp_exit (hQ a w ρ hR (.refl _ _ _))
  | ret =>
    intro s r h ρ w a hR Q hQ
    cases h
    exact wp_ret (hQ a w ρ hR (.refl _ _ _))
  | _ => intro s r h; cases h

end Go.Ax
