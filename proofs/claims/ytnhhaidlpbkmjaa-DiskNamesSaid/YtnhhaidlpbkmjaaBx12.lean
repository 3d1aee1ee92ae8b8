/- Any operation; a row of operations in the text's order. -/
import Derived.Test.YtnhhaidlpbkmjaaBx11
set_option linter.unusedVariables false
set_option linter.unusedSimpArgs false
set_option linter.unusedSectionVars false
namespace Go.Ax
open Go.RowKit

variable [Glob] {P : Program} {F : Nat → Prop}

theorem map_some {α β : Type} {f : α → β} {x : Option α} {y : β} (h : x.map f = some y) : ∃ a, x = some a ∧ f a = y := by
  cases x with
  | none => cases h
  | some a => exact ⟨a, rfl, by simpa using h⟩

theorem opA_sound {Γ : Env} (hΓ : ∀ f, SoundF P f (Γ f)) {o : Oper} {a : Act} {w : World} {B B' : List Box} {ρ : Loc} {n : Nat} {t : T} {v : AV} (hR : Rel F B ρ w n t a) (hm : opA P Γ t B o.op = some (v, B')) : OpOk F P o a w B ρ v B' := by
  have pureV : ∀ {s : Sem Value} {x : AV}, (execOp a.eval o = (do pure (Next.value (← s)))) → (∃ z, s.run P w = .ok z w ∧ VRel F B ρ w x z) → some (x, B) = some (v, B') → OpOk F P o a w B ρ v B' := by
    intro s x h1 ⟨z, h2, h3⟩ h4
    cases h4
    exact ok_value (by rw [h1, Sem.run_bind, h2]; rfl) hR.inv (.refl _ _ _) h3
  cases ho : o.op <;> rw [ho] at hm <;> simp only [opA] at hm
  case move x => cases hm; exact ok_value (x := a.eval x) (by simp [execOp, ho]) hR.inv (.refl _ _ _) (hR.eval x)
  case assign x => cases hm; exact ok_value (x := a.eval x) (by simp [execOp, ho]) hR.inv (.refl _ _ _) (hR.eval x)
  case pick c x y =>
    obtain ⟨q, h1, h2⟩ := map_some hm
    cases h2
    have hc := hR.eval c
    unfold boolA at h1
    split at h1
    · rename_i b hb
      cases h1
      rw [hb] at hc
      have hv := hc.val
      refine ok_value (x := if q then a.eval x else a.eval y) (by simp [execOp, ho, hv, asBool]) hR.inv (.refl _ _ _) ?_
      cases q
      · exact hR.eval y
      · exact hR.eval x
    · cases h1
  case alloc e =>
    cases hz : zeroA P e with
    | none => rw [hz] at hm; cases hm
    | some z =>
      rw [hz] at hm
      simp only [Option.bind_some] at hm
      split at hm
      · rename_i hlf
        cases hm
        obtain ⟨u, h1, h2⟩ := zero_run hz w hlf
        obtain ⟨x, w', ρ', e1, e2, e3, e4⟩ := newVar_run (P := P) hR.inv e hlf (h2 F B ρ w)
        refine ok_value (x := x) (w' := w') ?_ e2 e3 e4
        simp only [execOp, ho, Instr.alloc, Sem.run_bind, h1, Result.andThen_ok]
        simp only [Sem.run_bind] at e1
        rw [e1]
        rfl
      · cases hm
  case box e x =>
    split at hm
    · rename_i hlf
      cases hm
      obtain ⟨y, w', ρ', e1, e2, e3, e4⟩ := newVar_run (P := P) hR.inv e hlf ((hR.eval x).cells hlf)
      refine ok_value (x := y) (w' := w') ?_ e2 e3 e4
      simp only [execOp, ho, Instr.box, Sem.run_bind]
      simp only [Sem.run_bind] at e1
      rw [e1]
      rfl
    · cases hm
  case build ty parts =>
    obtain ⟨x, h1, h2⟩ := map_some hm
    obtain ⟨g1, g2⟩ := parts_rel hR parts
    exact pureV (by simp [execOp, ho]) (build_run g1 g2 h1) (by rw [h2])
  case buildSlice ty len parts =>
    obtain ⟨g1, g2⟩ := parts_rel hR parts
    obtain ⟨x, w', ρ', e1, e2, e3, e4⟩ := buildSlice_run (P := P) hR.inv g1 g2 hm
    refine ok_value (x := x) (w' := w') ?_ e2 e3 e4
    simp only [execOp, ho, Sem.run_bind]
    rw [e1]
    rfl
  case load ty x =>
    obtain ⟨y, h1, h2⟩ := map_some hm
    exact pureV (by simp only [execOp, ho]) (loadAt_run hR.inv (hR.eval x) h1) (by rw [h2])
  case store ty x y =>
    obtain ⟨B1, h1, h2⟩ := map_some hm
    cases h2
    obtain ⟨w', e1, e2, e3⟩ := storeAt_run (P := P) hR.inv (hR.eval x) (hR.eval y) h1
    refine ok_skip (w' := w') ?_ e2 e3
    simp only [execOp, ho, Sem.run_bind]
    rw [e1]
    rfl
  case nilCheck x =>
    have hx := hR.eval x
    split at hm
    · rename_i b ver off hb
      cases hm
      rw [hb] at hx
      cases hv : a.eval x <;> rw [hv] at hx <;> cases hx
      rename_i ad hp
      exact ok_value (by simp [execOp, ho, hv]) hR.inv (.refl _ _ _) (.ptr _ _ _ _ hp)
    · rename_i cs hb
      cases hm
      rw [hb] at hx
      cases hv : a.eval x <;> rw [hv] at hx <;> cases hx
      rename_i ad us h3 h1 h2 h4 h5 h6
      exact ok_value (by simp [execOp, ho, hv]) hR.inv (.refl _ _ _) (.rp _ _ us h3 h1 h2 h5 h4 h6)
    · rename_i b hb
      cases hm
      rw [hb] at hx
      cases hv : a.eval x <;> rw [hv] at hx <;> cases hx
      rename_i r hp
      exact ok_value (by simp [execOp, ho, hv]) hR.inv (.refl _ _ _) (.op _ _ hp)
    · cases hm
  case binOp op ty x y yt =>
    obtain ⟨z, h1, h2⟩ := map_some hm
    exact pureV (s := (do eqGuard op ty x y (a.eval x) (a.eval y); binOp op ty (a.eval x) (a.eval y))) (by simp only [execOp, ho]) (bin_run (ox := x) (oy := y) (hR.eval x) (hR.eval y) h1) (by rw [h2])
  case unOp op ty x =>
    obtain ⟨z, h1, h2⟩ := map_some hm
    exact pureV (by simp only [execOp, ho]) (un_run (hR.eval x) h1) (by rw [h2])
  case convert src dst x =>
    obtain ⟨z, w', ρ', e1, e2, e3, e4⟩ := convert_run (P := P) hR.inv (hR.eval x) hm
    refine ok_value (x := z) (w' := w') ?_ e2 e3 e4
    simp only [execOp, ho, Sem.run_bind]
    rw [e1]
    rfl
  case makeFunc f first cap =>
    cases f with
    | func f =>
      simp only [] at hm
      split at hm
      · rename_i hf
        cases hm
        have hfe : first = #[] := by simpa using hf
        have har := args_rel hR cap.toList
        refine ok_value (x := .func (.func f) #[] (cap.toList.map a.eval).toArray) ?_ hR.inv (.refl _ _ _) (.fn _ _ _ har.1 har.2)
        simp only [execOp, ho, Instr.makeFunc, hfe, Sem.run_bind, Sem.run_pure, Result.andThen_ok]
        have hc : cap.map a.eval = (cap.toList.map a.eval).toArray := by apply Array.ext'; simp
        rw [hc]
        simp
      · cases hm
    | _ => cases hm
  case slice ty x lo hi mx =>
    have opt : ∀ (q : Option Operand) (y : AV), q.map (evalA t) = some y → ∃ u, q.map a.eval = some u ∧ VRel F B ρ w y u := by
      intro q y hq
      cases q with
      | none => cases hq
      | some q => cases hq; exact ⟨_, rfl, hR.eval q⟩
    have optn : ∀ (q : Option Operand), q.map (evalA t) = none → q.map a.eval = none := by
      intro q hq
      cases q with
      | none => rfl
      | some q => cases hq
    cases mx with
    | some m =>
      obtain ⟨z, ρ', e1, e2, e3, e4⟩ := slice3_run (P := P) hR.inv (hR.eval x) (hR.eval m) (opt lo) (optn lo) (opt hi) (optn hi) hm
      refine ok_value (x := z) (w' := w) ?_ e2 e3 e4
      simp only [execOp, ho, Option.map_some, Sem.run_bind]
      rw [e1]
      rfl
    | none =>
      obtain ⟨z, h1, h2⟩ := map_some hm
      have opt : ∀ (q : Option Operand) (y : AV), q.map (evalA t) = some y → ∃ u, q.map a.eval = some u ∧ VRel F B ρ w y u := by
        intro q y hq
        cases q with
        | none => cases hq
        | some q => cases hq; exact ⟨_, rfl, hR.eval q⟩
      have optn : ∀ (q : Option Operand), q.map (evalA t) = none → q.map a.eval = none := by
        intro q hq
        cases q with
        | none => rfl
        | some q => cases hq
      exact pureV (s := Instr.sliceAt ty (a.eval x) (lo.map a.eval) (hi.map a.eval) none) (by simp only [execOp, ho, Option.map_none]) (slice_run hR.inv (hR.eval x) (opt lo) (optn lo) (opt hi) (optn hi) h1) (by rw [h2])
  case makeMap ty r =>
    cases r with
    | some r => cases hm
    | none =>
      simp only at hm
      split at hm
      · rename_i kt et hu
        cases hm
        obtain ⟨z, w', ρ', e1, e2, e3, e4⟩ := makeMap_run (P := P) hR.inv hu
        refine ok_value (x := z) (w' := w') ?_ e2 e3 e4
        simp only [execOp, ho, Option.map_none, Sem.run_bind]
        rw [e1]
        rfl
      · cases hm
  case lookup ty x k q =>
    obtain ⟨z, h1, h2⟩ := map_some hm
    exact pureV (by simp only [execOp, ho]) (lookup_run hR.inv (hR.eval x) (hR.eval k) h1) (by rw [h2])
  case mapUpdate ty x k y =>
    obtain ⟨B1, h1, h2⟩ := map_some hm
    cases h2
    obtain ⟨w', e1, e2, e3⟩ := mapUpdate_run (P := P) hR.inv (hR.eval x) (hR.eval k) (hR.eval y) h1
    refine ok_skip (w' := w') ?_ e2 e3
    simp only [execOp, ho, Sem.run_bind]
    rw [e1]
    rfl
  case insert ty x k y =>
    obtain ⟨B1, h1, h2⟩ := map_some hm
    cases h2
    obtain ⟨w', e1, e2, e3⟩ := mapUpdate_run (P := P) hR.inv (hR.eval x) (hR.eval k) (hR.eval y) h1
    refine ok_skip (w' := w') ?_ e2 e3
    simp only [execOp, ho, Sem.run_bind]
    rw [e1]
    rfl
  case fieldAddr ty x j =>
    obtain ⟨z, h1, h2⟩ := map_some hm
    exact pureV (by simp only [execOp, ho]) (fieldAddr_run (hR.eval x) h1) (by rw [h2])
  case field ty x j =>
    obtain ⟨z, h1, h2⟩ := map_some hm
    exact pureV (by simp only [execOp, ho]) (field_run (hR.eval x) h1) (by rw [h2])
  case indexAddr ty x i =>
    obtain ⟨z, h1, h2⟩ := map_some hm
    exact pureV (by simp only [execOp, ho]) (indexAddr_run (hR.eval x) (hR.eval i) h1) (by rw [h2])
  case index ty x i =>
    obtain ⟨z, h1, h2⟩ := map_some hm
    exact pureV (by simp only [execOp, ho]) (index_run (hR.eval x) (hR.eval i) h1) (by rw [h2])
  case extract x i =>
    have hx := hR.eval x
    split at hm
    · rename_i vs hb
      obtain ⟨z, h1, h2⟩ := map_some hm
      cases h2
      rw [hb] at hx
      cases hv : a.eval x with
      | tuple us =>
        rw [hv] at hx
        cases hx with
        | tup _ us h3 h4 =>
        have hi : i < us.length := by rw [← h3]; exact (List.getElem?_eq_some_iff.1 h1).1
        refine ok_value (x := us[i]) ?_ hR.inv (.refl _ _ _) (h4 i v _ h1 (List.getElem?_eq_getElem hi))
        simp [execOp, ho, hv, Instr.extract, hi]
      | _ => rw [hv] at hx; cases hx
    · cases hm
  case call c => exact call_run hΓ hR ho hm
  all_goals cases hm

theorem wanted_eq {B : List Box} {ρ : Loc} {w : World} {n : Nat} {t : T} {a : Act} (hR : Rel F B ρ w n t a) (ops : List Oper) {o : Oper} {q : Bool} (h : wantedA ops t o = some q) : Region.wanted o (yielded ops.toArray a.tmps) = q := by
  unfold wantedA at h
  unfold Region.wanted
  cases hg : o.guard with
  | none => rw [hg] at h; cases h; rfl
  | some g =>
    obtain ⟨j, want⟩ := g
    rw [hg] at h
    simp only at h ⊢
    unfold yielded
    have hops : ops.toArray[j]? = ops[j]? := by simp
    rw [hops]
    cases hd : (ops[j]?).bind (·.dst) with
    | none => rw [hd] at h; cases h
    | some d =>
      rw [hd] at h
      simp only [Option.bind_some] at h ⊢
      have hv := hR.tm d
      split at h
      · rename_i b hb
        cases h
        rw [hb] at hv
        have he := hv.val
        have : a.tmps[d]? = some (.bool b) := by
          rcases Nat.lt_or_ge d a.tmps.size with hlt | hge
          · simp [hlt] at he; simp [hlt, he]
          · simp [hge, undef] at he
        rw [this]
        simp
      · rename_i vs hb
        cases h
        rw [hb] at hv
        have he := hv.val
        rcases Nat.lt_or_ge d a.tmps.size with hlt | hge
        · simp [hlt] at he; simp [hlt, he]
        · simp [hge]
      · cases h

/-- One operation in its place. -/
theorem step_sound {Γ : Env} (hΓ : ∀ f, SoundF P f (Γ f)) {ops : List Oper} {o : Oper} {n : Nat} {s s' : AS} (hs : stepA P Γ n ops o s = some s') {ρ : Loc} {w : World} {a : Act} (hR : Rel F s.B ρ w n s.t a) {K : Act → World → Prop} {Q : Exit → Act → World → Prop}
    (hK : ∀ a' w' ρ', Rel F s'.B ρ' w' n s'.t a' → Ext F s.B ρ w s'.B ρ' w' → K a' w') :
    if Region.wanted o (yielded ops.toArray a.tmps) then o.wp P a w K Q else K (a.put o.dst undef) w := by
  unfold stepA at hs
  cases hw : wantedA ops s.t o with
  | none => rw [hw] at hs; cases hs
  | some q =>
    rw [hw] at hs
    rw [wanted_eq hR ops hw]
    simp only [Option.bind_some] at hs
    cases q with
    | true =>
      simp only [if_true] at hs ⊢
      cases hop : opA P Γ s.t s.B o.op with
      | none => rw [hop] at hs; cases hs
      | some r =>
        obtain ⟨v, B'⟩ := r
        rw [hop] at hs
        simp only [Option.bind_some] at hs
        obtain ⟨t', h1, h2⟩ := map_some hs
        subst h2
        exact opA_sound hΓ hR hop K Q (fun x w' ρ' hI hE hv => hK _ _ _ (hR.put hE hI hv h1) hE)
    | false =>
      simp only [Bool.false_eq_true, if_false] at hs ⊢
      obtain ⟨t', h1, h2⟩ := map_some hs
      subst h2
      exact hK _ _ ρ (hR.put (.refl _ _ _) hR.inv (.p _ _ (.v _)) h1) (.refl _ _ _)

theorem ops_sound {Γ : Env} (hΓ : ∀ f, SoundF P f (Γ f)) {ops : List Oper} {n : Nat} {Q : Exit → Act → World → Prop} : ∀ (l : List Oper) (s s' : AS), opsA P Γ n ops l s = some s' → ∀ {ρ : Loc} {w : World} {a : Act}, Rel F s.B ρ w n s.t a →
    (∀ a' w' ρ', Rel F s'.B ρ' w' n s'.t a' → Ext F s.B ρ w s'.B ρ' w' → Q .normal a' w') → wpList P ops.toArray Q l a w
  | [], s, s', h, ρ, w, a, hR, hQ => by cases h; exact hQ a w ρ hR (.refl _ _ _)
  | o :: l, s, s', h, ρ, w, a, hR, hQ => by
    simp only [opsA] at h
    cases h1 : stepA P Γ n ops o s with
    | none => rw [h1] at h; cases h
    | some s1 =>
      rw [h1] at h
      refine wpList_step fun K hK => ?_
      exact step_sound hΓ h1 hR (fun a' w' ρ' hR' hE => hK _ _ (ops_sound hΓ l s1 s' h hR' (fun a2 w2 ρ2 hR2 hE2 => hQ a2 w2 ρ2 hR2 (hE.trans hE2))))

theorem region_sound {Γ : Env} (hΓ : ∀ f, SoundF P f (Γ f)) {ops : Array Oper} {n id : Nat} {Q : Exit → Act → World → Prop} {s s' : AS} (h : opsA P Γ n ops.toList ops.toList s = some s') {ρ : Loc} {w : World} {a : Act} (hR : Rel F s.B ρ w n s.t a)
    (hQ : ∀ a' w' ρ', Rel F s'.B ρ' w' n s'.t a' → Ext F s.B ρ w s'.B ρ' w' → Q .normal a' w') : (Code.region id ops false).wp P Q a w := by
  refine wp_region_list ?_
  have := ops_sound hΓ (Q := Q) ops.toList s s' h hR hQ
  simpa using this

end Go.Ax
