/- What one operation does in a world is what the second reading says: numbers, strings, comparisons, addresses. -/
import Derived.Test.YtnhhaidlpbkmjaaBx6
import Derived.WalkSpells
import Derived.Laws.StructEq
import Derived.Laws.BytesString
import Derived.Laws.Concat
set_option linter.unusedVariables false
set_option linter.unusedSimpArgs false
set_option linter.unusedSectionVars false
namespace Go.Ax
open Go.RowKit

variable [Glob] {P : Program} {F : Nat → Prop}

theorem VRel.val {B : List Box} {ρ : Loc} {w : World} {x u : Value} (h : VRel F B ρ w (.p (.v x)) u) : u = x := by
  cases h with
  | p _ _ hp => cases hp; rfl

theorem VRel.agg_inv {B : List Box} {ρ : Loc} {w : World} {cs : List AV} {u : Value} (h : VRel F B ρ w (.agg cs) u) : ∃ us : List Value, u = .agg us.toArray ∧ cs.length = us.length ∧
    ∀ (j : Nat) (p : AV) (u : Value), cs[j]? = some p → us[j]? = some u → VRel F B ρ w p u := by
  cases h with
  | agg _ us h1 h2 => exact ⟨us, rfl, h1, h2⟩

theorem eqCells_struct (d : Nat) (xs ys : List Value) (w : World) {B : List Box} {ρ : Loc} : ∀ (fs : List Field) (i : Nat) (ks : List CK) (as bs : List AV) (b : Bool), ckFields P fs i = some ks → eqCells ks as bs = some b →
    (∀ (j : Nat) (p : AV), as[j]? = some p → ∃ u, xs[i + j]? = some u ∧ VRel F B ρ w p u) → (∀ (j : Nat) (p : AV), bs[j]? = some p → ∃ u, ys[i + j]? = some u ∧ VRel F B ρ w p u) →
    (Op.eqFields (d + 1) xs.toArray ys.toArray fs).run P w = .ok b w
  | [], i, ks, as, bs, b, hk, he, _, _ => by
    cases hk
    cases as <;> cases bs <;> simp [eqCells] at he
    subst he
    rfl
  | f :: fs, i, ks, as, bs, b, hk, he, hx, hy => by
    simp only [ckFields] at hk
    split at hk
    · rename_i hc
      simp only [Bool.and_eq_true, beq_iff_eq, Bool.not_eq_true', bne_iff_ne] at hc
      obtain ⟨⟨ho, hn⟩, ha⟩ := hc
      cases hck : ckT P f.type with
      | none => rw [hck] at hk; cases hk
      | some k =>
      rw [hck] at hk
      simp only [Option.bind_some] at hk
      cases hr : ckFields P fs (i + 1) with
      | none => rw [hr] at hk; cases hk
      | some r =>
      rw [hr] at hk
      cases hk
      cases as with
      | nil => simp [eqCells] at he
      | cons x as =>
      cases bs with
      | nil => simp [eqCells] at he
      | cons y bs =>
      simp only [eqCells] at he
      cases hq : eqCell k x y with
      | none => rw [hq] at he; cases he
      | some c =>
      rw [hq] at he
      simp only [Option.bind_some] at he
      cases hq2 : eqCells r as bs with
      | none => rw [hq2] at he; cases he
      | some c2 =>
      rw [hq2] at he
      cases he
      obtain ⟨u, hu1, hu2⟩ := hx 0 x rfl
      obtain ⟨v, hv1, hv2⟩ := hy 0 y rfl
      have ih := eqCells_struct d xs ys w fs (i + 1) r as bs c2 hr hq2 (fun j p hp => by have := hx (j + 1) p (by simpa using hp); rwa [show i + (j + 1) = i + 1 + j by omega] at this) (fun j p hp => by have := hy (j + 1) p (by simpa using hp); rwa [show i + (j + 1) = i + 1 + j by omega] at this)
      have hund : ∃ dd, P.underlying f.type = some dd := by
        unfold ckT at hck
        split at hck <;> first | exact ⟨_, by assumption⟩ | cases hck
      obtain ⟨dd, hdd⟩ := hund
      have hp1 : (part f.type xs.toArray f.offset).run P w = .ok u w := by
        simp only [part, Sem.run_bind, isAgg_run f.type w hdd, Result.andThen_ok, ha]
        rw [ho]
        have : xs.toArray[i]? = some u := by simpa using hu1
        simp [this]
      have hp2 : (part f.type ys.toArray f.offset).run P w = .ok v w := by
        simp only [part, Sem.run_bind, isAgg_run f.type w hdd, Result.andThen_ok, ha]
        rw [ho]
        have : ys.toArray[i]? = some v := by simpa using hv1
        simp [this]
      have heq : (Op.equalIn (d + 1) f.type u v).run P w = .ok c w := by
        unfold ckT at hck
        unfold eqCell at hq
        split at hq
        · rename_i j a k' b'
          split at hck <;> cases hck
          rename_i kk hkk
          split at hq
          · rename_i e
            subst e
            cases hq
            obtain rfl := hu2.val
            obtain rfl := hv2.val
            exact run_equalIn_int w d f.type j kk a b' hkk
          · cases hq
        · split at hck <;> cases hck
          rename_i hkk
          cases hq
          obtain rfl := hu2.val
          obtain rfl := hv2.val
          exact run_equalIn_string w d f.type _ _ hkk
        · split at hck <;> cases hck
          rename_i hkk
          cases hq
          obtain rfl := hu2.val
          obtain rfl := hv2.val
          exact run_equalIn_bool' w d f.type _ _ hkk
        · cases hq
      simp only [Op.eqFields, if_pos hn, Sem.run_bind, hp1, hp2, heq, Result.andThen_ok]
      cases c
      · simp
      · simpa using ih
    · cases hk

theorem bin_run {B : List Box} {ρ : Loc} {w : World} {op : BinOp} {t : TypeId} {ox oy : Operand} {x y v : AV} {ux uy : Value} (hx : VRel F B ρ w x ux) (hy : VRel F B ρ w y uy) (hm : binA P op t x y = some v) :
    ∃ z, (do eqGuard op t ox oy ux uy; binOp op t ux uy : Sem Value).run P w = .ok z w ∧ VRel F B ρ w v z := by
  have plain : ∀ (z : Value), VRel F B ρ w (.p (.v z)) z := fun z => .p _ _ (.v z)
  unfold binA at hm
  split at hm
  · rename_i k a k' b
    obtain rfl := hx.val
    obtain rfl := hy.val
    have hg : (eqGuard op t ox oy (.int k a) (.int k' b)).run P w = .ok () w := by cases op <;> simp [eqGuard]
    have key : ∀ z, (binOp op t (.int k a) (.int k' b)).run P w = .ok z w → v = .p (.v z) → ∃ z, (do eqGuard op t ox oy (.int k a) (.int k' b); binOp op t (.int k a) (.int k' b) : Sem Value).run P w = .ok z w ∧ VRel F B ρ w v z := by
      intro z hz hv
      refine ⟨z, ?_, by rw [hv]; exact plain z⟩
      rw [Sem.run_bind, hg]
      exact hz
    have shifts : ∀ {r : Option Value}, shiftInt op k a b = r → (op = .shl ∨ op = .shr) → ∀ z, r = some z → (binOp op t (.int k a) (.int k' b)).run P w = .ok z w := by
      intro r hr ho z hz
      subst hz
      unfold shiftInt at hr
      split at hr
      · cases hr
      · rename_i hn
        rcases ho with rfl | rfl <;> (simp at hr; subst hr; simp [binOp, Op.shift, hn])
    cases hres : numOp op k a k' b with
    | none => rw [hres] at hm; cases hm
    | some z =>
      rw [hres] at hm
      simp only [Option.map_some, Option.some.injEq] at hm
      refine key z ?_ hm.symm
      by_cases h1 : op = .shl
      · subst h1; exact shifts hres (.inl rfl) z rfl
      by_cases h2 : op = .shr
      · subst h2; exact shifts hres (.inr rfl) z rfl
      have hres' : (if k = k' then binInt op k a b else none) = some z := by
        cases op <;> first | exact hres | exact absurd rfl h1 | exact absurd rfl h2
      split at hres'
      · rename_i e
        subst e
        cases op <;> simp [binInt, cmpInt] at hres' <;> first
          | (subst hres'; simp [binOp, Op.intArith, Op.intBits, Op.intCmp]; done)
          | (obtain ⟨hn, rfl⟩ := hres'; simp [binOp, Op.intDiv, hn]; done)
          | exact absurd rfl h1
          | exact absurd rfl h2
      · cases hres'
  · rename_i a b
    obtain rfl := hx.val
    obtain rfl := hy.val
    have hg : (eqGuard op t ox oy (.string a) (.string b)).run P w = .ok () w := by cases op <;> simp [eqGuard]
    cases hres : binStr op a b with
    | none => rw [hres] at hm; cases hm
    | some z =>
      rw [hres] at hm
      simp only [Option.map_some, Option.some.injEq] at hm
      refine ⟨z, ?_, by rw [← hm]; exact plain z⟩
      rw [Sem.run_bind, hg]
      simp only [Result.andThen_ok]
      cases op <;> simp [binStr] at hres <;> first
        | (obtain ⟨hn, rfl⟩ := hres; exact (by simpa [binOp] using run_string_add_sum w a b (by omega)))
        | (subst hres; simp [binOp, Op.stringOp]; done)
  · rename_i a b
    obtain rfl := hx.val
    obtain rfl := hy.val
    have hg : (eqGuard op t ox oy (.bool a) (.bool b)).run P w = .ok () w := by cases op <;> simp [eqGuard]
    split at hm
    · rename_i hu
      cases hm
      exact ⟨_, by rw [Sem.run_bind, hg]; exact run_eql_bool w t a b hu, plain _⟩
    · rename_i hu
      cases hm
      exact ⟨_, by rw [Sem.run_bind, hg]; exact run_neq_bool w t a b hu, plain _⟩
    · cases hm
  · rename_i xs ys
    cases hck : cellKinds P t with
    | none => rw [hck] at hm; cases hm
    | some ks =>
      rw [hck] at hm
      simp only [Option.bind_some] at hm
      obtain ⟨us, rfl, hx1, hx2⟩ := hx.agg_inv
      obtain ⟨vs, rfl, hy1, hy2⟩ := hy.agg_inv
      have hx' : ∀ (j : Nat) (p : AV), xs[j]? = some p → ∃ u, us[0 + j]? = some u ∧ VRel F B ρ w p u := fun j p hp => by
        have hj : j < us.length := by rw [← hx1]; exact (List.getElem?_eq_some_iff.1 hp).1
        exact ⟨us[j], by rw [Nat.zero_add]; exact List.getElem?_eq_getElem hj, hx2 j p _ hp (List.getElem?_eq_getElem hj)⟩
      have hy' : ∀ (j : Nat) (p : AV), ys[j]? = some p → ∃ u, vs[0 + j]? = some u ∧ VRel F B ρ w p u := fun j p hp => by
        have hj : j < vs.length := by rw [← hy1]; exact (List.getElem?_eq_some_iff.1 hp).1
        exact ⟨vs[j], by rw [Nat.zero_add]; exact List.getElem?_eq_getElem hj, hy2 j p _ hp (List.getElem?_eq_getElem hj)⟩
      have hguard : P.eqGuardType P.depth t = false := by
        unfold cellKinds at hck
        split at hck
        · cases hck
        · rename_i h; simpa using h
      have hg : (eqGuard op t ox oy (.agg us.toArray) (.agg vs.toArray)).run P w = .ok () w := run_eqGuard_agg w op t ox oy _ _ hguard
      have heq : ∀ b, eqCells ks xs ys = some b → (Op.equalIn 10000 t (.agg us.toArray) (.agg vs.toArray)).run P w = .ok b w := by
        intro b hb
        unfold cellKinds at hck
        rw [if_neg (by simp [hguard])] at hck
        split at hck
        · rename_i fs hfs
          split at hck
          · cases hck
          · rename_i hst
            have hst' : P.stoodInHeld t = false := by simpa using hst
            have hff : P.fieldsOf t = fs := by simp [Program.fieldsOf, hfs]
            rw [run_equalIn_struct w 9999 t _ _ (by rw [hff]; exact hfs) hst', hff]
            exact eqCells_struct 9998 us vs w fs.toList 0 ks xs ys b hck hb hx' hy'
        · cases hck
      split at hm
      · cases hb : eqCells ks xs ys with
        | none => rw [hb] at hm; cases hm
        | some b =>
          rw [hb] at hm
          cases hm
          refine ⟨.bool b, ?_, plain _⟩
          rw [Sem.run_bind, hg, Result.andThen_ok, run_eql_struct w t, heq b hb]
          rfl
      · cases hb : eqCells ks xs ys with
        | none => rw [hb] at hm; cases hm
        | some b =>
          rw [hb] at hm
          cases hm
          refine ⟨.bool (!b), ?_, plain _⟩
          rw [Sem.run_bind, hg, Result.andThen_ok, run_neq_struct w t, heq b hb]
          rfl
      · cases hm
  · obtain rfl := hy.val
    cases ht : elemT P t with
    | none => rw [ht] at hm; cases hm
    | some e =>
      rw [ht] at hm
      simp only [Option.bind_some] at hm
      have hu : P.underlying t = some (.slice e) := by
        unfold elemT at ht
        split at ht
        · cases ht; assumption
        · cases ht
      have hsl : ∀ q, isNilA x = some q → ∃ a n c, ux = .slice a n c ∧ a.isNone = q := by
        intro q hq
        unfold isNilA at hq
        split at hq
        · cases hq
          obtain rfl := hx.val
          exact ⟨none, _, _, rfl, rfl⟩
        · cases hq
          cases hx with
          | p _ _ hp =>
            cases hp with
            | ls xs a cap us h1 => exact ⟨some a, _, _, rfl, rfl⟩
        · split at hq
          · rename_i hlt
            cases hq
            rw [Nat.blt_eq] at hlt
            cases hx with
            | rs _ _ _ _ _ a cap hok =>
              obtain ⟨_, g1, g2, _⟩ := hok
              have := g2 (by omega)
              refine ⟨a, _, cap, rfl, ?_⟩
              cases a <;> simp_all
          · cases hq
        · cases hq
      cases hq : isNilA x with
      | none => rw [hq] at hm; cases hm
      | some q =>
        rw [hq] at hm
        obtain ⟨a, n, c, rfl, ha⟩ := hsl q hq
        have hg : (eqGuard op t ox oy (.slice a n c) (.slice none 0 0)).run P w = .ok () w := by cases op <;> simp [eqGuard]
        simp only [Option.bind_some] at hm
        split at hm
        · cases hm
          refine ⟨.bool q, ?_, plain _⟩
          rw [Sem.run_bind, hg, ← ha]
          exact Go.Lib.run_eql_slice_nil w t e a n c 0 0 hu
        · cases hm
          refine ⟨.bool (!q), ?_, plain _⟩
          rw [Sem.run_bind, hg, ← ha]
          exact Go.run_neq_slice_nil_any w t e a n c 0 0 hu
        · cases hm
  · obtain rfl := hy.val
    have hp : ∀ q, isNilP x = some q → ∃ a, ux = .pointer a ∧ a.isNone = q := by
      intro q hq
      unfold isNilP at hq
      split at hq
      · cases hq
        obtain rfl := hx.val
        exact ⟨none, rfl, rfl⟩
      · cases hq
        cases hx with
        | ptr _ _ _ a _ => exact ⟨some a, rfl, rfl⟩
      · cases hq
        cases hx with
        | op _ r _ => exact ⟨_, rfl, rfl⟩
      · cases hq
        cases hx with
        | rp _ a _ _ _ _ _ _ _ => exact ⟨some a, rfl, rfl⟩
      · cases hq
    cases hq : isNilP x with
    | none => rw [hq] at hm; cases hm
    | some q =>
      rw [hq] at hm
      obtain ⟨a, rfl, ha⟩ := hp q hq
      have hg : (eqGuard op t ox oy (.pointer a) (.pointer none)).run P w = .ok () w := by cases op <;> simp [eqGuard]
      simp only [Option.bind_some] at hm
      have heq : ∀ e, P.underlying t = some (.pointer e) → (Op.equal t (.pointer a) (.pointer none)).run P w = .ok q w := by
        intro e hu
        subst ha
        have h : ∀ d : Nat, (Op.equalIn (d + 1) t (.pointer a) (.pointer none)).run P w = .ok a.isNone w := fun d => by
          cases a <;> simp [Op.equalIn, run_underlying hu]
        exact h 9999
      split at hm
      · rename_i e hu
        cases hm
        refine ⟨.bool q, ?_, plain _⟩
        rw [Sem.run_bind, hg]
        simp [binOp, heq e hu]
      · rename_i e hu
        cases hm
        refine ⟨.bool (!q), ?_, plain _⟩
        rw [Sem.run_bind, hg]
        simp [binOp, heq e hu]
      · cases hm
  · cases hm

end Go.Ax
