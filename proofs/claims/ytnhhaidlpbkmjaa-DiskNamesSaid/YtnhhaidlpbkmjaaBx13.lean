/- A region that draws its order: every order comes to what the text's order comes to. -/
import Derived.Test.YtnhhaidlpbkmjaaBx12
set_option linter.unusedVariables false
set_option linter.unusedSimpArgs false
set_option linter.unusedSectionVars false
namespace Go.Ax
open Go.RowKit

variable [Glob] {P : Program} {F : Nat → Prop}

theorem opA_congr {Γ : Env} {t t' : T} {B : List Box} {op : Op} (h : ∀ x ∈ op.operands, evalA t x = evalA t' x) : opA P Γ t B op = opA P Γ t' B op := by
  have arr : ∀ (xs : Array Operand), (∀ x ∈ xs, evalA t x = evalA t' x) → xs.toList.map (evalA t) = xs.toList.map (evalA t') := by
    intro xs hx
    exact List.map_congr_left fun x hxm => hx x (by simpa using hxm)
  have opt : ∀ (q : Option Operand), (∀ x ∈ q, evalA t x = evalA t' x) → q.map (evalA t) = q.map (evalA t') := by
    intro q hq
    cases q with
    | none => rfl
    | some q => simp [hq q rfl]
  have parts : ∀ (ps : Array (Nat × Operand)), (∀ x ∈ (ps.toList.map (·.2)).toArray, evalA t x = evalA t' x) → (ps.toList.map fun q => (q.1, evalA t q.2)) = (ps.toList.map fun q => (q.1, evalA t' q.2)) := by
    intro ps hp
    refine List.map_congr_left fun q hq => ?_
    rw [hp q.2 (by simpa using ⟨q.1, by simpa using hq⟩)]
  cases op <;> simp only [opA]
  case move x => rw [h x (by simp [Op.operands])]
  case assign x => rw [h x (by simp [Op.operands])]
  case pick c a b => rw [h c (by simp [Op.operands]), h a (by simp [Op.operands]), h b (by simp [Op.operands])]
  case box e x => rw [h x (by simp [Op.operands])]
  case build ty ps => rw [parts ps h]
  case buildSlice ty len ps => rw [parts ps h]
  case load ty x => rw [h x (by simp [Op.operands])]
  case store ty x y => rw [h x (by simp [Op.operands]), h y (by simp [Op.operands])]
  case nilCheck x => rw [h x (by simp [Op.operands])]
  case binOp op ty x y yt => rw [h x (by simp [Op.operands]), h y (by simp [Op.operands])]
  case unOp op ty x => rw [h x (by simp [Op.operands])]
  case convert s d x => rw [h x (by simp [Op.operands])]
  case makeFunc f first cap =>
    cases f with
    | func f => simp only [arr cap (fun x hx => h x (by simp [Op.operands, hx]))]
    | _ => rfl
  case slice ty x lo hi mx =>
    cases mx with
    | some m => simp only [h x (by simp [Op.operands]), h m (by simp [Op.operands]), opt lo (fun y hy => h y (by simp [Op.operands, Option.mem_def.1 hy])), opt hi (fun y hy => h y (by simp [Op.operands, Option.mem_def.1 hy]))]
    | none => simp only [h x (by simp [Op.operands]), opt lo (fun y hy => h y (by simp [Op.operands, Option.mem_def.1 hy])), opt hi (fun y hy => h y (by simp [Op.operands, Option.mem_def.1 hy]))]
  case makeMap ty r => cases r <;> rfl
  case lookup ty x k q => rw [h x (by simp [Op.operands]), h k (by simp [Op.operands])]
  case mapUpdate ty x k y => rw [h x (by simp [Op.operands]), h k (by simp [Op.operands]), h y (by simp [Op.operands])]
  case insert ty x k y => rw [h x (by simp [Op.operands]), h k (by simp [Op.operands]), h y (by simp [Op.operands])]
  case fieldAddr ty x j => rw [h x (by simp [Op.operands])]
  case field ty x j => rw [h x (by simp [Op.operands])]
  case indexAddr ty x i => rw [h x (by simp [Op.operands]), h i (by simp [Op.operands])]
  case index ty x i => rw [h x (by simp [Op.operands]), h i (by simp [Op.operands])]
  case extract x i => rw [h x (by simp [Op.operands])]
  case call c =>
    have hargs := arr c.args (fun x hx => h x (by simp only [Op.operands, Call.operands]; exact Array.mem_append_right _ hx))
    unfold callA
    cases hc : c.callee with
    | builtin b => simp only [hargs]
    | value f => simp only [hargs, h f (by simp [Op.operands, Call.operands, hc])]
    | invoke r m => rfl

theorem evalA_upd {ops : List Oper} {o : Oper} {t : T} {d : Nat} {v : AV} (h : d ∉ o.looksAt ops.toArray) : ∀ x ∈ o.op.operands, evalA (upd t d v) x = evalA t x := by
  intro x hx
  cases x with
  | tmp e =>
    have : e ≠ d := by
      intro he
      subst he
      refine h ?_
      unfold Oper.looksAt
      exact List.mem_append_left _ (List.mem_filterMap.2 ⟨.tmp e, by simpa using hx, rfl⟩)
    exact upd_ne _ _ _ _ this
  | const c => rfl
  | global g => rfl
  | func f => rfl

theorem wantedA_upd {ops : List Oper} {o : Oper} {t : T} {d : Nat} {v : AV} (h : d ∉ o.looksAt ops.toArray) : wantedA ops (upd t d v) o = wantedA ops t o := by
  unfold wantedA
  cases hg : o.guard with
  | none => rfl
  | some g =>
    obtain ⟨j, want⟩ := g
    simp only
    cases hd : (ops[j]?).bind (·.dst) with
    | none => rfl
    | some e =>
      have : e ≠ d := by
        intro he
        subst he
        refine h ?_
        unfold Oper.looksAt
        refine List.mem_append_right _ ?_
        simp only [hg]
        have : ops.toArray[j]? = ops[j]? := by simp
        rw [this, hd]
        simp
      simp only [upd_ne _ _ _ _ this]

theorem okCls_congr {c : Cls} {n0 : Nat} {t t' : T} {op : Op} (h : ∀ x ∈ op.operands, evalA t x = evalA t' x) : okCls c n0 t op = okCls c n0 t' op := by
  cases c <;> cases op <;> simp only [okCls] <;> first
    | rfl
    | (rename_i ty x; rw [h x (by simp [Op.operands])]; done)
    | (rename_i ty x y; rw [h x (by simp [Op.operands])]; done)
    | (rename_i c
       have : c.args.toList.map (evalA t) = c.args.toList.map (evalA t') := List.map_congr_left fun x hx => h x (by simp only [Op.operands, Call.operands]; exact Array.mem_append_right _ (by simpa using hx))
       rw [this])

def Agree (n0 : Nat) (B B' : List Box) : Prop := ∀ b, b < n0 → B[b]? = B'[b]?

theorem nonwriter {Γ : Env} {ops : List Oper} {t : T} {B B' : List Box} {op : Op} {v : AV} (h1 : clsOf P Γ ops op ≠ .wi) (h2 : clsOf P Γ ops op ≠ .wo) (h : opA P Γ t B op = some (v, B')) : B' = B := by
  have mp : ∀ {α : Type} {q : Option α} {f : α → AV}, (q.map fun x => (f x, B)) = some (v, B') → B' = B := by
    intro α q f h
    obtain ⟨_, _, h2⟩ := map_some h
    cases h2; rfl
  cases op <;> simp only [opA] at h <;> simp only [clsOf] at h1 h2 <;> try (first | (cases h; done) | (cases h; rfl) | exact mp h | exact absurd rfl h1 | exact absurd rfl h2)
  case store => split at h1 <;> split at h2 <;> first | exact absurd rfl h1 | exact absurd rfl h2 | contradiction
  case nilCheck x => split at h <;> first | (cases h; rfl) | cases h
  case convert src dst x =>
    unfold convertA at h
    split at h
    · cases h; rfl
    · cases h; rfl
    · rename_i e s hs hd hv
      rw [hs, hd] at h1
      exact absurd rfl h1
    · split at h
      · split at h
        · cases h; rfl
        · cases h
      · cases h
    · split at h
      · split at h
        · cases h; rfl
        · obtain ⟨q, g1, g2⟩ := Option.bind_eq_some_iff.1 h
          obtain ⟨_, _, g3⟩ := map_some g2
          cases g3; rfl
      · cases h
    · cases h
  case makeFunc f first cap =>
    cases f with
    | func f => simp only at h; split at h <;> first | (cases h; rfl) | cases h
    | _ => cases h
  case slice ty x lo hi mx =>
    cases mx with
    | some m => exact absurd rfl h2
    | none => exact mp h
  case extract x i => split at h <;> first | exact mp h | cases h
  case call c =>
    unfold callA at h
    split at h
    · rename_i b hb
      unfold builtinA at h
      rw [hb] at h1 h2
      split at h
      · obtain ⟨ty, _, g2⟩ := Option.bind_eq_some_iff.1 h; exact mp g2
      · rename_i s x hargs
        cases ha : c.args.toList with
        | nil => rw [ha] at hargs; cases hargs
        | cons a r =>
          rw [ha] at h1 h2
          cases a <;> simp only at h1 h2 <;> first | exact absurd rfl h1 | (split at h1 <;> split at h2 <;> first | exact absurd rfl h1 | exact absurd rfl h2 | contradiction)
      · exact mp h
      · exact mp h
      · exact absurd rfl h2
      · exact absurd rfl h2
      · cases h
    · rename_i f hf
      rw [hf] at h1 h2
      split at h
      · rename_i g cap hg
        cases f with
        | func f =>
          simp only [evalA, AV.fn.injEq] at hg
          obtain ⟨rfl, rfl⟩ := hg
          simp only at h1 h2
          cases hΓ : Γ f with
          | none => rw [hΓ] at h; cases h
          | pure g' =>
            rw [hΓ] at h
            obtain ⟨_, _, g3⟩ := map_some h
            cases g3; rfl
          | gen g' => rw [hΓ] at h2; exact absurd rfl h2
        | _ => exact absurd rfl h2
      · cases h
    · cases h

/-- What is of class p looks at no box. -/
theorem local_p {Γ : Env} {ops : List Oper} {t : T} {B : List Box} {op : Op} {v : AV} (hc : clsOf P Γ ops op = .p) (h : opA P Γ t B op = some (v, B)) (B2 : List Box) : opA P Γ t B2 op = some (v, B2) := by
  have mp : ∀ {q : Option AV}, (q.map fun x => (x, B)) = some (v, B) → (q.map fun x => (x, B2)) = some (v, B2) := by
    intro q h
    obtain ⟨a, h1, h2⟩ := map_some h
    cases h2; rw [h1]; rfl
  cases op <;> simp only [opA] at h ⊢ <;> simp only [clsOf] at hc <;> try (first | (cases h; done) | (cases h; rfl) | exact mp h | (cases hc; done))
  case pick c a b =>
    obtain ⟨q, h1, h2⟩ := map_some h
    cases h2; rw [h1]; rfl
  case load ty x => split at hc <;> cases hc
  case store => split at hc <;> cases hc
  case nilCheck x =>
    split at h
    · cases h; rfl
    · cases h; rfl
    · cases h; rfl
    · cases h
  case convert src dst x =>
    unfold convertA at h ⊢
    split at h
    · cases h; rfl
    · cases h; rfl
    · rename_i e s hs hd hv
      rw [hs, hd] at hc
      cases hc
    · rename_i e0 e b ver sz off len hs hd hno
      rw [hs] at hc
      cases hc
    · rename_i y e hs hd hno
      rw [hs] at hc
      cases hc
    · cases h
  case makeFunc f first cap =>
    cases f with
    | func f =>
      simp only at h ⊢
      split at h
      · rename_i hf; cases h; rw [if_pos hf]
      · cases h
    | _ => cases h
  case slice ty x lo hi mx =>
    cases mx with
    | some m => cases hc
    | none =>
      obtain ⟨a, h1, h2⟩ := map_some h
      cases h2
      unfold sliceA at h1
      have : sliceA P ty B2 (evalA t x) (lo.map (evalA t)) (hi.map (evalA t)) = some v := by
        unfold sliceA
        split at h1
        · exact h1
        · exact h1
        · exact h1
        · exact h1
        · rename_i n e b ver o hs hv
          simp only [clsOf, hs] at hc
          cases hc
        · cases h1
      show (sliceA P ty B2 (evalA t x) (lo.map (evalA t)) (hi.map (evalA t))).map (fun v => (v, B2)) = some (v, B2)
      rw [this]; rfl
  case extract x i =>
    split at h
    · exact mp h
    · cases h
  case call c =>
    unfold callA at h ⊢
    cases hcal : c.callee with
    | builtin b =>
      rw [hcal] at h hc
      simp only at h ⊢
      unfold builtinA at h ⊢
      split at h
      · rename_i x hargs
        obtain ⟨ty, h1, h2⟩ := Option.bind_eq_some_iff.1 h
        rw [h1]
        exact mp h2
      · rename_i s x hargs
        cases ha : c.args.toList with
        | nil => rw [ha] at hargs; cases hargs
        | cons a r =>
          rw [ha] at hc
          cases a <;> simp only at hc <;> first | (cases hc; done) | (split at hc <;> cases hc)
      · exact mp h
      · exact mp h
      · cases hc
      · cases hc
      · cases h
    | value f =>
      rw [hcal] at h hc
      simp only at h ⊢
      split at h
      · rename_i g cap hg
        cases f with
        | func f =>
          simp only [evalA, AV.fn.injEq] at hg
          obtain ⟨rfl, rfl⟩ := hg
          cases hΓ : Γ f with
          | none => rw [hΓ] at h; cases h
          | pure g' =>
            rw [hΓ] at h
            exact mp h
          | gen g' =>
            have hcc : (if isPure (Γ f) = true then Cls.p else Cls.wo) = Cls.p := hc
            rw [hΓ] at hcc
            cases hcc
        | _ => cases hc
      · cases h
    | invoke r m => rw [hcal] at h; cases h

/-- What is of class ro reads boxes from before the region alone. -/
theorem local_ro {Γ : Env} {ops : List Oper} {t : T} {B B2 : List Box} {op : Op} {v : AV} {n0 : Nat} (hc : clsOf P Γ ops op = .ro) (hk : okCls .ro n0 t op = true) (h : opA P Γ t B op = some (v, B)) (hA : Agree n0 B B2) : opA P Γ t B2 op = some (v, B2) := by
  cases op <;> simp only [clsOf] at hc <;> try (cases hc; done)
  case load ty x =>
    simp only [opA] at h ⊢
    obtain ⟨a, h1, h2⟩ := map_some h
    cases h2
    simp only [okCls] at hk
    have : loadA P ty B2 (evalA t x) = some v := by
      split at hk
      · rename_i b ver o hv
        have hb : b < n0 := by simpa [Nat.blt_eq] using hk
        rw [hv] at h1 ⊢
        simp only [loadA] at h1 ⊢
        rw [← hA b hb]
        exact h1
      · rename_i cs hv
        rw [hv] at h1 ⊢
        exact h1
      · cases hk
    rw [this]; rfl
  case store => split at hc <;> cases hc
  case convert src dst x => split at hc <;> cases hc
  case slice ty x lo hi mx => split at hc <;> cases hc
  case call c =>
    split at hc <;> first | (cases hc; done) | (split at hc <;> cases hc)

/-- What is of class wi leaves the boxes from before the region alone. -/
theorem frame_wi {Γ : Env} {ops : List Oper} {t : T} {B B' : List Box} {op : Op} {v : AV} {n0 : Nat} (hc : clsOf P Γ ops op = .wi) (hk : okCls .wi n0 t op = true) (hn : n0 ≤ B.length) (h : opA P Γ t B op = some (v, B')) : Agree n0 B B' ∧ n0 ≤ B'.length := by
  have app : ∀ (x : Box), Agree n0 B (B ++ [x]) ∧ n0 ≤ (B ++ [x]).length := fun x => ⟨fun b hb => by rw [List.getElem?_append_left (by omega)], by simp; omega⟩
  have set : ∀ (b : Nat) (x : Box), n0 ≤ b → Agree n0 B (B.set b x) ∧ n0 ≤ (B.set b x).length := fun b x hb => ⟨fun c hc => by rw [List.getElem?_set, if_neg (by omega)], by simpa using hn⟩
  cases op <;> simp only [clsOf] at hc <;> simp only [opA] at h <;> try (cases hc; done)
  case alloc e =>
    obtain ⟨z, _, h2⟩ := Option.bind_eq_some_iff.1 h
    split at h2 <;> cases h2
    exact app _
  case box e x =>
    split at h <;> cases h
    exact app _
  case buildSlice ty len parts =>
    unfold buildSliceA at h
    obtain ⟨_, _, h⟩ := Option.bind_eq_some_iff.1 h
    obtain ⟨_, _, h⟩ := Option.bind_eq_some_iff.1 h
    obtain ⟨_, _, h⟩ := Option.bind_eq_some_iff.1 h
    split at h
    · obtain ⟨_, _, h⟩ := Option.bind_eq_some_iff.1 h
      cases h
      exact app _
    · cases h
  case load ty x => split at hc <;> cases hc
  case store ty x y =>
    obtain ⟨B1, h1, h2⟩ := map_some h
    cases h2
    simp only [okCls] at hk
    split at hk
    · rename_i b ver o hv
      rw [hv] at h1
      simp only [storeA] at h1
      split at h1
      · split at h1
        · cases h1
          exact set _ _ (by simpa [Nat.ble_eq] using hk)
        · cases h1
      · cases h1
    · cases hk
  case convert src dst x =>
    unfold convertA at h
    split at h
    · cases h; exact ⟨fun _ _ => rfl, hn⟩
    · cases h; exact ⟨fun _ _ => rfl, hn⟩
    · split at h <;> cases h
      exact app _
    · split at h
      · split at h
        · cases h; exact ⟨fun _ _ => rfl, hn⟩
        · cases h
      · cases h
    · split at h
      · split at h
        · cases h; exact ⟨fun _ _ => rfl, hn⟩
        · obtain ⟨q, g1, g2⟩ := Option.bind_eq_some_iff.1 h
          obtain ⟨_, _, g3⟩ := map_some g2
          cases g3; exact ⟨fun _ _ => rfl, hn⟩
      · cases h
    · cases h
  case slice ty x lo hi mx => split at hc <;> cases hc
  case call c =>
    unfold callA at h
    simp only [okCls] at hk
    cases hcal : c.callee with
    | builtin b =>
      rw [hcal] at h hc
      simp only at h
      unfold builtinA at h
      split at h
      · cases hc
      · rename_i s x hargs
        rw [hargs] at hk
        simp only [List.head?_cons] at hk
        obtain ⟨_, _, h⟩ := Option.bind_eq_some_iff.1 h
        obtain ⟨_, _, h⟩ := Option.bind_eq_some_iff.1 h
        unfold appendA at h
        obtain ⟨_, _, h⟩ := Option.bind_eq_some_iff.1 h
        obtain ⟨_, _, h⟩ := Option.bind_eq_some_iff.1 h
        obtain ⟨_, _, h⟩ := Option.bind_eq_some_iff.1 h
        split at h
        · cases h
        obtain ⟨q, _, h⟩ := Option.bind_eq_some_iff.1 h
        obtain ⟨n, new⟩ := q
        simp only at h
        split at h
        · cases h
        split at h
        · split at h <;> cases h
          exact app _
        · rename_i b ver sz' off len
          split at h
          · split at h <;> cases h
            exact set _ _ (by simpa [Nat.ble_eq] using hk)
          · cases h
        · cases h
      · cases hc
      · cases hc
      · cases hc
      · cases hc
      · cases h
    | value f =>
      rw [hcal] at hc
      cases f <;> simp only at hc <;> first | (cases hc; done) | (split at hc <;> cases hc)
    | invoke r m => rw [hcal] at h; cases h

/-! ### Two operations that may come in either order -/
theorem stepD_wanted {Γ : Env} {n n0 : Nat} {ops : List Oper} {o : Oper} {s s' : AS} (h : stepD P Γ n n0 ops o s = some s') : (∃ v B', wantedA ops s.t o = some true ∧ okCls (clsOf P Γ ops o.op) n0 s.t o.op = true ∧ (clsOf P Γ ops o.op = .wi → n0 ≤ s.B.length) ∧
      opA P Γ s.t s.B o.op = some (v, B') ∧ putA n s.t o.dst v = some s'.t ∧ s'.B = B') ∨ (wantedA ops s.t o = some false ∧ putA n s.t o.dst (.p (.v undef)) = some s'.t ∧ s'.B = s.B) := by
  unfold stepD at h
  cases hw : wantedA ops s.t o with
  | none => rw [hw] at h; cases h
  | some q =>
    rw [hw] at h
    simp only [Option.bind_some] at h
    cases q with
    | true =>
      simp only [if_true] at h
      split at h
      · rename_i hc
        simp only [Bool.and_eq_true, Bool.or_eq_true, bne_iff_ne, Nat.ble_eq] at hc
        obtain ⟨r, h1, h2⟩ := Option.bind_eq_some_iff.1 h
        obtain ⟨v, B'⟩ := r
        obtain ⟨t', h3, h4⟩ := map_some h2
        subst h4
        exact .inl ⟨v, B', rfl, hc.1, fun he => hc.2.resolve_left (fun hne => hne he), h1, h3, rfl⟩
      · cases h
    | false =>
      simp only [Bool.false_eq_true, if_false] at h
      obtain ⟨t', h3, h4⟩ := map_some h
      subst h4
      exact .inr ⟨rfl, h3, rfl⟩

theorem stepD_mk {Γ : Env} {n n0 : Nat} {ops : List Oper} {o : Oper} {s : AS} {t' : T} {B' : List Box} {v : AV} (h1 : wantedA ops s.t o = some true) (h2 : okCls (clsOf P Γ ops o.op) n0 s.t o.op = true) (h3 : clsOf P Γ ops o.op = .wi → n0 ≤ s.B.length)
    (h4 : opA P Γ s.t s.B o.op = some (v, B')) (h5 : putA n s.t o.dst v = some t') : stepD P Γ n n0 ops o s = some ⟨t', B'⟩ := by
  unfold stepD
  rw [h1]
  simp only [Option.bind_some, if_true]
  have : (clsOf P Γ ops o.op != .wi || Nat.ble n0 s.B.length) = true := by
    by_cases he : clsOf P Γ ops o.op = .wi
    · simp [Nat.ble_eq, h3 he]
    · simp [he]
  rw [h2, this, h4]
  simp [h5]

theorem stepD_skip {Γ : Env} {n n0 : Nat} {ops : List Oper} {o : Oper} {s : AS} {t' : T} (h1 : wantedA ops s.t o = some false) (h5 : putA n s.t o.dst (.p (.v undef)) = some t') : stepD P Γ n n0 ops o s = some ⟨t', s.B⟩ := by
  unfold stepD
  rw [h1]
  simp [h5]

theorem putA_comm {n : Nat} {t t1 t2 : T} {d e : Option Nat} {v y : AV} (hne : ∀ x, d = some x → e ≠ some x) (h1 : putA n t d v = some t1) (h2 : putA n t1 e y = some t2) : ∃ t1', putA n t e y = some t1' ∧ putA n t1' d v = some t2 := by
  cases d with
  | none => cases h1; exact ⟨t2, h2, rfl⟩
  | some d =>
    cases e with
    | none => cases h2; exact ⟨t, rfl, h1⟩
    | some e =>
      have hde : e ≠ d := fun h => hne d rfl (by rw [h])
      simp only [putA] at h1 h2
      split at h1
      · rename_i c1
        split at h2
        · rename_i c2
          cases h1
          cases h2
          refine ⟨upd t e y, by simp [putA, c2], ?_⟩
          simp only [putA, c1, if_true, Option.some.injEq]
          funext j
          by_cases h1 : j = d
          · subst h1; rw [upd_same, upd_ne _ _ _ _ (Ne.symm hde), upd_same]
          · rw [upd_ne _ _ _ _ h1]
            by_cases h2 : j = e
            · subst h2; rw [upd_same, upd_same]
            · rw [upd_ne _ _ _ _ h2, upd_ne _ _ _ _ h2, upd_ne _ _ _ _ h1]
        · cases h2
      · cases h1

/-- What an operation sees is not touched by a put elsewhere. -/
theorem sees {Γ : Env} {n : Nat} {ops : List Oper} {o : Oper} {t t1 : T} {d : Option Nat} {v : AV} (hd : ∀ x, d = some x → x ∉ o.looksAt ops.toArray) (h : putA n t d v = some t1) (B : List Box) (c : Cls) (n0 : Nat) :
    wantedA ops t1 o = wantedA ops t o ∧ opA P Γ t1 B o.op = opA P Γ t B o.op ∧ okCls c n0 t1 o.op = okCls c n0 t o.op := by
  cases d with
  | none => cases h; exact ⟨rfl, rfl, rfl⟩
  | some d =>
    simp only [putA] at h
    split at h
    · cases h
      have hd' := hd d rfl
      exact ⟨wantedA_upd hd', opA_congr (evalA_upd hd'), okCls_congr (evalA_upd hd')⟩
    · cases h

theorem swap {Γ : Env} {n n0 : Nat} {ops : List Oper} {oi oj : Oper} {s s1 s2 : AS} (hap : oi.apart ops.toArray oj = true) (hcl : (clsOf P Γ ops oi.op).clash (clsOf P Γ ops oj.op) = false)
    (h1 : stepD P Γ n n0 ops oi s = some s1) (h2 : stepD P Γ n n0 ops oj s1 = some s2) : ∃ s1', stepD P Γ n n0 ops oj s = some s1' ∧ stepD P Γ n n0 ops oi s1' = some s2 := by
  obtain ⟨ha, hb, hc⟩ := Oper.apart_spec hap
  obtain ⟨t2, B2⟩ := s2
  rcases stepD_wanted h1 with ⟨vi, Bi, w1, k1, l1, o1, p1, e1⟩ | ⟨w1, p1, e1⟩
  · obtain ⟨g1, g2, g3⟩ := sees (P := P) (Γ := Γ) ha p1 s1.B (clsOf P Γ ops oj.op) n0
    rcases stepD_wanted h2 with ⟨vj, Bj, w2, k2, l2, o2, p2, e2⟩ | ⟨w2, p2, e2⟩
    · simp only at e2
      subst e2
      subst e1
      rw [g1] at w2
      rw [g2] at o2
      rw [g3] at k2
      obtain ⟨t1', q1, q2⟩ := putA_comm hb p1 p2
      simp only at q2
      obtain ⟨f1, f2, f3⟩ := sees (P := P) (Γ := Γ) hc q1 s.B (clsOf P Γ ops oi.op) n0
      -- the boxes
      have boxes : ∃ Bm, opA P Γ s.t s.B oj.op = some (vj, Bm) ∧ (clsOf P Γ ops oj.op = .wi → n0 ≤ s.B.length) ∧ opA P Γ s.t Bm oi.op = some (vi, B2) ∧ (clsOf P Γ ops oi.op = .wi → n0 ≤ Bm.length) := by
        by_cases wi1 : clsOf P Γ ops oi.op = .wi
        · -- oi writes inside: oj is p or ro
          have hnj : clsOf P Γ ops oj.op ≠ .wi ∧ clsOf P Γ ops oj.op ≠ .wo := by
            rw [wi1] at hcl
            constructor <;> (intro h; rw [h] at hcl; cases hcl)
          have hB := nonwriter hnj.1 hnj.2 o2
          subst hB
          rw [wi1] at k1
          obtain ⟨A1, A2⟩ := frame_wi wi1 k1 (l1 wi1) o1
          refine ⟨s.B, ?_, fun h => absurd h hnj.1, o1, fun _ => l1 wi1⟩
          by_cases hp : clsOf P Γ ops oj.op = .p
          · exact local_p hp o2 _
          · have hro : clsOf P Γ ops oj.op = .ro := by
              rw [wi1] at hcl
              cases hcj : clsOf P Γ ops oj.op <;> first | rfl | (exact absurd hcj hp) | (exact absurd hcj hnj.1) | (exact absurd hcj hnj.2) | (rw [hcj] at hcl; cases hcl)
            rw [hro] at k2
            exact local_ro hro k2 o2 (fun b hb => (A1 b hb).symm)
        · by_cases wo1 : clsOf P Γ ops oi.op = .wo
          · have hp : clsOf P Γ ops oj.op = .p := by
              rw [wo1] at hcl
              cases hcj : clsOf P Γ ops oj.op <;> first | rfl | (rw [hcj] at hcl; cases hcl)
            have hB := nonwriter (by rw [hp]; exact fun h => by cases h) (by rw [hp]; exact fun h => by cases h) o2
            subst hB
            exact ⟨s.B, local_p hp o2 _, (fun h => by rw [hp] at h; cases h), o1, fun h => absurd h wi1⟩
          · -- oi writes nothing
            have hB := nonwriter wi1 wo1 o1
            rw [hB] at o1 o2
            refine ⟨B2, o2, (fun h => by have := l2 h; rw [hB] at this; exact this), ?_, fun h => absurd h wi1⟩
            by_cases hp : clsOf P Γ ops oi.op = .p
            · exact local_p hp o1 _
            · by_cases wj : clsOf P Γ ops oj.op = .wi
              · have hro : clsOf P Γ ops oi.op = .ro := by
                  rw [wj] at hcl
                  cases hci : clsOf P Γ ops oi.op <;> first | rfl | (exact absurd hci hp) | (exact absurd hci wi1) | (exact absurd hci wo1) | (rw [hci] at hcl; cases hcl)
                rw [wj] at k2
                have hlen : n0 ≤ s.B.length := by have := l2 wj; rw [hB] at this; exact this
                obtain ⟨A1, A2⟩ := frame_wi wj k2 hlen o2
                rw [hro] at k1
                exact local_ro hro k1 o1 A1
              · by_cases wj2 : clsOf P Γ ops oj.op = .wo
                · rw [wj2] at hcl
                  cases hci : clsOf P Γ ops oi.op <;> rw [hci] at hcl hp <;> first | exact absurd rfl hp | cases hcl
                · have := nonwriter wj wj2 o2
                  rw [this]
                  exact o1
      obtain ⟨Bm, b1, b2, b3, b4⟩ := boxes
      refine ⟨⟨t1', Bm⟩, stepD_mk w2 k2 b2 b1 q1, ?_⟩
      obtain ⟨f1', f2', f3'⟩ := sees (P := P) (Γ := Γ) hc q1 Bm (clsOf P Γ ops oi.op) n0
      exact stepD_mk (s := ⟨t1', Bm⟩) (by rw [← w1]; exact f1') (by rw [← k1]; exact f3') b4 (by rw [← b3]; exact f2') q2
    · simp only at e2
      rw [g1] at w2
      obtain ⟨t1', q1, q2⟩ := putA_comm hb p1 p2
      simp only at q2
      obtain ⟨f1, f2, f3⟩ := sees (P := P) (Γ := Γ) hc q1 s.B (clsOf P Γ ops oi.op) n0
      refine ⟨⟨t1', s.B⟩, stepD_skip w2 q1, ?_⟩
      rw [e2, e1]
      exact stepD_mk (s := ⟨t1', s.B⟩) (by rw [← w1]; exact f1) (by rw [← k1]; exact f3) l1 (by rw [← o1]; exact f2) q2
  · obtain ⟨g1, g2, g3⟩ := sees (P := P) (Γ := Γ) ha p1 s1.B (clsOf P Γ ops oj.op) n0
    rcases stepD_wanted h2 with ⟨vj, Bj, w2, k2, l2, o2, p2, e2⟩ | ⟨w2, p2, e2⟩
    · simp only at e2
      subst e2
      rw [g1] at w2
      rw [g2] at o2
      rw [g3] at k2
      rw [e1] at o2 l2
      obtain ⟨t1', q1, q2⟩ := putA_comm hb p1 p2
      simp only at q2
      obtain ⟨f1, f2, f3⟩ := sees (P := P) (Γ := Γ) hc q1 B2 (clsOf P Γ ops oi.op) n0
      exact ⟨⟨t1', B2⟩, stepD_mk w2 k2 l2 o2 q1, stepD_skip (s := ⟨t1', B2⟩) (by rw [← w1]; exact f1) q2⟩
    · simp only at e2
      rw [g1] at w2
      obtain ⟨t1', q1, q2⟩ := putA_comm hb p1 p2
      simp only at q2
      obtain ⟨f1, f2, f3⟩ := sees (P := P) (Γ := Γ) hc q1 s.B (clsOf P Γ ops oi.op) n0
      refine ⟨⟨t1', s.B⟩, stepD_skip w2 q1, ?_⟩
      rw [e2, e1]
      exact stepD_skip (s := ⟨t1', s.B⟩) (by rw [← w1]; exact f1) q2

end Go.Ax
