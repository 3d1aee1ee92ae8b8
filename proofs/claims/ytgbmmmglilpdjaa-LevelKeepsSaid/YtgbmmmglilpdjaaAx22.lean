/- Functions that name boxes, as relations. -/
import Derived.Test.YtgbmmmglilpdjaaAx21
set_option linter.unusedVariables false
set_option linter.unusedSimpArgs false
namespace Go.Ax
open Go.RowKit

variable {P : Program}

open Classical in
noncomputable def relG2 (R : List AV → List Box → AV × List Box → Prop) : List AV → List Box → Option (AV × List Box) := fun args B => if h : ∃ r, R args B r then some (Classical.choose h) else none

theorem relG2_some {R : List AV → List Box → AV × List Box → Prop} {args : List AV} {B : List Box} {r : AV × List Box} (h : relG2 R args B = some r) : R args B r := by
  unfold relG2 at h
  split at h
  · rename_i hx; cases h; exact Classical.choose_spec hx
  · cases h

theorem relG2_eq {R : List AV → List Box → AV × List Box → Prop} (hd : ∀ args B r r', R args B r → R args B r' → r = r') {args : List AV} {B : List Box} {r : AV × List Box} (h : R args B r) : relG2 R args B = some r := by
  have hx : ∃ r, R args B r := ⟨r, h⟩
  unfold relG2
  rw [dif_pos hx]
  exact congrArg some (hd _ _ _ _ (Classical.choose_spec hx) h)

theorem weak_argsB (args : List AV) (B : List Box) (h : args.all (AV.low B.length) = true) (hB : B.all (Box.low B.length) = true) : Weak ⟨argsT args, B⟩ ⟨tk (numL 0 args), B⟩ (fun j => j) := by
  refine ⟨fun i => ?_, fun j hj => hj, fun j row v cs hj => ⟨cs, hj, rfl, fun i c c' hc hc' => ?_⟩, fun i j _ _ e => e⟩
  · show tk (numL 0 args) i = .u ∨ WCell B (fun j => j) B.length (argsT args i) (tk (numL 0 args) i)
    rw [tk_numL]
    unfold argsT
    cases hi : args[i]? with
    | none => exact .inl rfl
    | some a =>
      rw [List.all_eq_true] at h
      exact .inr (.inl ⟨(ren_id a).symm, h a (List.mem_of_getElem? hi)⟩)
  · rw [hc] at hc'
    cases hc'
    rw [List.all_eq_true] at hB
    exact .inl ⟨(ren_id c).symm, allLow_get (hB _ (List.mem_of_getElem? hj)) i c hc⟩

theorem fn_gen {Γ : Env} (hm : P.follows .mixedOrders = true) (hΓ : ∀ f, SoundF P f (Γ f)) {f : FuncId} {fn : Func} (hf : P.funcs[f]? = some fn) (he : enters P f = true) (hb : fn.body.isSome = true) {R : List AV → List Box → AV × List Box → Prop}
    (h : ∀ args B r, R args B r → Nat.ble args.length fn.ntmps = true ∧ args.all (AV.low B.length) = true ∧ B.all (Box.low B.length) = true ∧ ∃ e l vs, (e = .ret ∨ e = .normal) ∧ EvC P Γ fn.ntmps B.length (bodyOf fn) ⟨tk (numL 0 args), B⟩ e ⟨tk l, r.2⟩ ∧
      resList P ⟨tk l, r.2⟩ fn.results.toList = some vs ∧ oneOf vs = r.1) : SoundF P f (.gen (relG2 R)) := by
  intro args B r B' hs F ρ w us hI hA
  obtain ⟨h1, h2, h3, e, l, vs, h4, h5, h6, h7⟩ := h args B (r, B') (relG2_some hs)
  simp only at h5 h6 h7
  subst h7
  cases hbb : fn.body with
  | none => rw [hbb] at hb; cases hb
  | some c =>
    have hc : bodyOf fn = c := by simp [bodyOf, hbb]
    rw [hc] at h5
    have hev : FnEv P Γ fn args B ⟨tk l, B'⟩ vs := ⟨h1, ⟨c, e, hbb, .weak (weak_argsB args B h2 h3) (fun _ _ => rfl) (Nat.le_refl _) h5, h4⟩, h6⟩
    exact .inl ⟨enter_run he us.toArray w, fn_calls' hm hΓ hf hev hI hA⟩

/-! ### Elements of a live row -/
variable {α : Type} {f : α → PV} {sz : Nat}

theorem Elt.flatGet (h : Elt α f sz) : ∀ (L : List α) (i k : Nat) (a : α), L[i]? = some a → k < sz → ((L.map f).flatMap PV.cells)[i * sz + k]? = (f a).cells[k]?
  | [], i, k, a, hi, _ => by simp at hi
  | x :: L, i, k, a, hi, hk => by
    rw [List.map_cons, List.flatMap_cons, List.getElem?_append]
    cases i with
    | zero =>
      cases hi
      rw [if_pos (by rw [h.size]; omega)]
      simp
    | succ i =>
      rw [if_neg (by rw [h.size, Nat.succ_mul]; omega), h.size, show (i + 1) * sz + k - sz = i * sz + k by rw [Nat.succ_mul]; omega]
      exact h.flatGet L i k a (by simpa using hi) hk

theorem row_index {t e bytes : Nat} (ht : RowTy P t e sz bytes) {b v len : Nat} {i : Int} (h0 : 0 ≤ i) (h1 : i < (len : Int)) : indexAddrA P t (.rs b v sz 0 len) (vi i) = some (.ptr b v (0 + i.toNat * sz)) := by
  unfold indexAddrA
  simp only [intA, Option.bind_some]
  rw [if_neg (by omega), ht.und]
  simp only [ht.size, Option.bind_some]
  rw [if_pos (by simp; omega)]

theorem row_load (h : Elt α f sz) {ft : TypeId} (hu : undT P ft = true) (ha : isAggT P ft = false) {B : List Box} {b v k : Nat} {row : Bool} {L : List α} {i : Int} {a : α} {c : PV} (hb : B[b]? = some (.cells row v (rowC (L.map f)))) (hi : L[i.toNat]? = some a) (hk : (f a).cells[k]? = some c) :
    loadA P ft B (.ptr b v (0 + i.toNat * sz + k)) = some (.p c) := by
  have hlt : k < sz := by
    have := (List.getElem?_eq_some_iff.1 hk).1
    rw [h.size] at this
    exact this
  have hg : (rowC (L.map f))[i.toNat * sz + k]? = some (.p c) := by
    unfold rowC
    rw [List.getElem?_map, h.flatGet L _ k a hi hlt, hk]
    rfl
  unfold loadA
  simp only [hb, Nat.beq_refl, if_true]
  unfold mkA
  rw [if_neg (by simp [hu]), if_neg (by simp [ha]), Nat.zero_add]
  rw [List.head?_drop]
  exact hg

end Go.Ax
