/- Short words for the ways that are printed. -/
import Derived.Test.YtnhhaidlpbkmjaaBx17
import Derived.Lib.Bytealg
import Derived.Shelf.Small.Strs
set_option linter.unusedVariables false
set_option linter.unusedSimpArgs false
set_option linter.unusedSectionVars false
namespace Go.Ax
open Go.RowKit

abbrev vn (k : IntKind) (x : Int) : AV := .p (.v (.int k x))
abbrev vi (x : Int) : AV := .p (.v (.int .i64 x))
abbrev vb (b : Bool) : AV := .p (.v (.bool b))
abbrev vs (s : ByteArray) : AV := .p (.v (.string s))
abbrev vl (xs : List PV) : AV := .p (.ls xs)
abbrev nilS : AV := .p (.v (.slice none 0 0))

/-- A part of code: 'l' and 'r' are the first and the second of what it is made of. -/
def nav : List Bool → Code → Code
  | [], c => c
  | b :: r, .seq x y => nav r (if b then y else x)
  | b :: r, .cond _ x y => nav r (if b then y else x)
  | _ :: r, .block _ x => nav r x
  | _ :: r, .loop x => nav r x
  | _, c => c

def bodyOf (f : Func) : Code := f.body.getD .skip

/-- The cells of a row of these elements. -/
def rowC (xs : List PV) : List AV := (xs.flatMap PV.cells).map .p

theorem nav_seq {c a b : Code} (h : c = .seq a b) : nav [false] c = a ∧ nav [true] c = b := by subst h; exact ⟨rfl, rfl⟩

/-- Nothing but to forget. -/
theorem cells2_same {B : List Box} {f : Nat → Nat} {m : Nat} : ∀ {xs : List AV}, (∀ x ∈ xs, x = x.ren f) → xs.all (AV.low m) = true → Cells2 B f m xs xs
  | [], _, _ => trivial
  | x :: xs, h, hl => by
    simp only [List.all_cons, Bool.and_eq_true] at hl
    exact ⟨.inl ⟨h x (by simp), hl.1⟩, cells2_same (fun y hy => h y (by simp [hy])) hl.2⟩

end Go.Ax

namespace Go.Ax
open Go.RowKit
variable [Glob]

/-! ### A function, as a relation of its arguments and its answer -/
open Classical in
noncomputable def relG (R : List AV → AV → Prop) : List AV → Option AV := fun args => if h : ∃ r, R args r then some (Classical.choose h) else none

theorem relG_some {R : List AV → AV → Prop} {args : List AV} {r : AV} (h : relG R args = some r) : R args r := by
  unfold relG at h
  split at h
  · rename_i hx; cases h; exact Classical.choose_spec hx
  · cases h

theorem relG_eq {R : List AV → AV → Prop} (hd : ∀ args r r', R args r → R args r' → r = r') {args : List AV} {r : AV} (h : R args r) : relG R args = some r := by
  have hx : ∃ r, R args r := ⟨r, h⟩
  unfold relG
  rw [dif_pos hx]
  exact congrArg some (hd _ _ _ (Classical.choose_spec hx) h)

def numL : Nat → List AV → List (Nat × AV)
  | _, [] => []
  | i, a :: r => (i, a) :: numL (i + 1) r

theorem find_numL (l : List AV) : ∀ (k i : Nat), ((numL k l).find? fun p => Nat.beq p.1 (k + i)) = (l[i]?).map fun a => (k + i, a) := by
  induction l with
  | nil => intro k i; rfl
  | cons a l ih =>
    intro k i
    rw [numL, List.find?_cons]
    cases i with
    | zero => simp
    | succ i =>
      have h1 : Nat.beq k (k + (i + 1)) = false := by
        cases h : Nat.beq k (k + (i + 1)) with
        | false => rfl
        | true => have := Nat.eq_of_beq_eq_true h; omega
      simp only [h1]
      have := ih (k + 1) i
      rw [show k + 1 + i = k + (i + 1) by omega] at this
      rw [this]
      simp

theorem tk_numL (l : List AV) (i : Nat) : tk (numL 0 l) i = (l[i]?).getD .u := by
  have := find_numL l 0 i
  rw [Nat.zero_add] at this
  unfold tk
  rw [this]
  cases l[i]? <;> rfl

theorem low_mono {m : Nat} {x : AV} (h : x.low 0 = true) : x.low m = true := by
  induction x using AV.rec (motive_2 := fun cs => AV.low.allLow 0 cs = true → AV.low.allLow m cs = true) with
  | u => rfl
  | mp b => simp [AV.low] at h
  | op b => simp [AV.low] at h
  | p x => rfl
  | ptr b v o => simp [AV.low] at h
  | rs b v z o l => simp [AV.low] at h
  | rp cs => rfl
  | agg cs ih => exact ih h
  | fn g cs ih => exact ih h
  | tup cs ih => exact ih h
  | nil => rfl
  | cons c cs h1 h2 =>
    rename_i h
    simp only [AV.low.allLow, Bool.and_eq_true] at h ⊢
    exact ⟨h1 h.1, h2 h.2⟩

theorem weak_args (args : List AV) (h : args.all (AV.low 0) = true) : Weak ⟨argsT args, []⟩ ⟨tk (numL 0 args), []⟩ (fun j => j) := by
  refine ⟨fun i => ?_, fun j hj => by simp at hj, fun j row v cs hj => by simp at hj, fun i j hi => by simp at hi, fun j cs Φ => by simp⟩
  show tk (numL 0 args) i = .u ∨ WCell [] (fun j => j) 0 (argsT args i) (tk (numL 0 args) i)
  rw [tk_numL]
  unfold argsT
  cases hi : args[i]? with
  | none => exact .inl rfl
  | some a =>
    rw [List.all_eq_true] at h
    exact .inr (.inl ⟨(ren_id a).symm, h a (List.mem_of_getElem? hi)⟩)

variable {P : Program}

theorem fn_pure {Γ : Env} (hm : P.follows .mixedOrders = true) (hΓ : ∀ f, SoundF P f (Γ f)) {f : FuncId} {fn : Func} (hf : P.funcs[f]? = some fn) (he : enters P f = true) (hb : fn.body.isSome = true) {R : List AV → AV → Prop}
    (h : ∀ args r, R args r → Nat.ble args.length fn.ntmps = true ∧ args.all (AV.low 0) = true ∧ ∃ e l B vs, (e = .ret ∨ e = .normal) ∧ EvC P Γ fn.ntmps 0 (bodyOf fn) ⟨tk (numL 0 args), []⟩ e ⟨tk l, B⟩ ∧
      resList P ⟨tk l, B⟩ fn.results.toList = some vs ∧ Sealed (fun _ => True) B (oneOf vs) r) : SoundF P f (.pure (relG R)) := by
  refine sound_pure hm hΓ hf he (fun args r hr => ?_)
  obtain ⟨h1, h2, e, l, B, vs, h3, h4, h5, h6⟩ := h args r (relG_some hr)
  refine ⟨h2, ⟨tk l, B⟩, vs, ⟨h1, ?_, h5⟩, h6⟩
  cases hbb : fn.body with
  | none => rw [hbb] at hb; cases hb
  | some c =>
    have : bodyOf fn = c := by simp [bodyOf, hbb]
    rw [this] at h4
    exact ⟨c, e, rfl, .weak (weak_args args h2) (fun j hj => by simp at hj) (Nat.zero_le _) h4, h3⟩

/-- A function without a body, that only answers. -/
theorem extern_pure {f : FuncId} {R : List AV → AV → Prop} (h : ∀ args r, R args r → ∃ (vs : List Value) (x : Value), args = vs.map (fun v => .p (.v v)) ∧ r = .p (.v x) ∧ ∀ w, (callFunc f vs.toArray).run P w = .ok (.value x) w) : SoundF P f (.pure (relG R)) := by
  intro args B r B' hs F ρ w us hI hA
  obtain ⟨r', h1, h2⟩ := map_some hs
  cases h2
  obtain ⟨vs, x, rfl, rfl, h3⟩ := h _ _ (relG_some h1)
  have : us = vs := by
    apply List.ext_getElem?
    intro i
    cases hv : vs[i]? with
    | none =>
      have : vs.length ≤ i := List.getElem?_eq_none_iff.1 hv
      rw [List.getElem?_eq_none_iff]
      have := hA.1
      simp at this; omega
    | some v =>
      have hi : i < us.length := by
        have := (List.getElem?_eq_some_iff.1 hv).1
        have := hA.1
        simp at this; omega
      have := hA.2 i (.p (.v v)) us[i] (by rw [List.getElem?_map, hv]; rfl) (List.getElem?_eq_getElem hi)
      rw [List.getElem?_eq_getElem hi]
      rw [this.val]
  subst this
  exact .inr ⟨x, w, h3 w, x, ρ, rfl, hI, .refl _ _ _, .p _ _ (.v x)⟩

/-! ### Lists of elements -/
structure Elt (α : Type) (f : α → PV) (sz : Nat) : Prop where
  size : ∀ a, (f a).cells.length = sz
  leaf : ∀ a, (f a).cells.all PV.leaf = true

variable {α : Type} {f : α → PV} {sz : Nat}

theorem Elt.all (h : Elt α f sz) (L : List α) : ((L.map f).all fun y => y.cells.length == sz) = true := by
  rw [List.all_eq_true]
  intro y hy
  obtain ⟨a, _, rfl⟩ := List.mem_map.1 hy
  simp [h.size a]

theorem Elt.at (h : Elt α f sz) {L : List α} {i : Int} {e : α} (h0 : 0 ≤ i) (h1 : L[Int.toNat i]? = some e) : 0 ≤ i ∧ (L.map f)[Int.toNat i]? = some (f e) ∧ ((L.map f).all fun y => y.cells.length == sz) = true :=
  ⟨h0, by rw [List.getElem?_map, h1]; rfl, h.all L⟩

theorem Elt.flat (h : Elt α f sz) (L : List α) : ((L.map f).flatMap PV.cells).length = L.length * sz := by
  induction L with
  | nil => simp
  | cons a L ih => rw [List.map_cons, List.flatMap_cons, List.length_append, h.size, ih, List.length_cons, Nat.succ_mul]; omega

theorem Elt.rowLen (h : Elt α f sz) (L : List α) : (rowC (L.map f)).length = L.length * sz := by rw [rowC, List.length_map, h.flat]

theorem Elt.rowLeaf (h : Elt α f sz) (L : List α) : (rowC (L.map f)).all AV.leaf = true := by
  rw [List.all_eq_true]
  intro x hx
  obtain ⟨p, hp, rfl⟩ := List.mem_map.1 hx
  obtain ⟨y, hy, hp⟩ := List.mem_flatMap.1 hp
  obtain ⟨a, _, rfl⟩ := List.mem_map.1 hy
  exact List.all_eq_true.1 (h.leaf a) p hp

theorem rowC_append (xs ys : List PV) : rowC (xs ++ ys) = rowC xs ++ rowC ys := by simp [rowC]

theorem row_low (m : Nat) (xs : List PV) : AV.low.allLow m (rowC xs) = true := by
  unfold rowC
  induction xs.flatMap PV.cells with
  | nil => rfl
  | cons x r ih => simp only [List.map_cons, AV.low.allLow, ih, AV.low, Bool.and_self]

theorem row_cells2 {B : List Box} {g : Nat → Nat} {m : Nat} (xs : List PV) : Cells2 B g m (rowC xs) (rowC xs) := by
  unfold rowC
  induction xs.flatMap PV.cells with
  | nil => trivial
  | cons x r ih => exact ⟨.inl ⟨rfl, rfl⟩, ih⟩

theorem Elt.shutRow (h : Elt α f sz) {B : List Box} {g : Nat → Nat} {m b ver : Nat} {row : Bool} {L : List α} (hS : ∀ j, j < m → g j ≠ b) (hb : B[b]? = some (.cells row ver (rowC (L.map f)))) : WCell B g m (.rs b ver sz 0 L.length) (vl (L.map f)) := by
  refine .inr (.row b ver sz 0 L.length row _ _ hS hb (by simp) ?_ (by rw [h.rowLen]; omega))
  rw [List.drop_zero, ← h.rowLen, List.take_length]
  rfl

theorem Elt.sealed (h : Elt α f sz) {B : List Box} {S : Nat → Prop} {b ver : Nat} {row : Bool} {L : List α} (hS : S b) (hb : B[b]? = some (.cells row ver (rowC (L.map f)))) : Sealed S B (.rs b ver sz 0 L.length) (vl (L.map f)) := by
  refine .row b ver sz 0 L.length row _ _ hS hb (by simp) ?_ (by rw [h.rowLen]; omega)
  rw [List.drop_zero, ← h.rowLen, List.take_length]
  rfl

/-! ### What a row's type is -/
structure RowTy (P : Program) (t e : TypeId) (sz bytes : Nat) : Prop where
  elem : elemT P t = some e
  size : sizeT P e = some sz
  byts : (P.info? e).map (·.bytes) = some bytes
  zero : (Nat.beq sz 0 || Nat.beq bytes 0 || !((zeroA P e).map (·.length) == some sz) || !((zeroA P e).map (·.all AV.leaf) == some true)) = false

theorem RowTy.und {t e bytes : Nat} (h : RowTy P t e sz bytes) : P.underlying t = some (.slice e) := elemT_some h.elem

theorem src_ls (h : Elt α f sz) {t e bytes : Nat} (ht : RowTy P t e sz bytes) {B : List Box} (L : List α) : srcA P t B sz (vl (L.map f)) = some (L.length, rowC (L.map f)) := by
  unfold srcA
  rw [ht.und]
  simp only
  rw [if_pos (h.all L)]
  simp [rowC]

theorem src_rs (h : Elt α f sz) {t e bytes : Nat} (ht : RowTy P t e sz bytes) {B : List Box} {b v : Nat} {row : Bool} {L : List α} (hb : B[b]? = some (.cells row v (rowC (L.map f)))) : srcA P t B sz (.rs b v sz 0 L.length) = some (L.length, rowC (L.map f)) := by
  unfold srcA
  rw [ht.und]
  simp only [hb, Nat.beq_refl, beq_self_eq_true, Bool.and_self, if_true, List.drop_zero]
  rw [← h.rowLen, List.take_length]

theorem src_nil {t e bytes : Nat} (ht : RowTy P t e sz bytes) {B : List Box} : srcA P t B sz nilS = some (0, rowC (([] : List α).map f)) := by
  unfold srcA
  rw [ht.und]
  rfl

theorem append_row (h : Elt α f sz) {t tx e bytes : Nat} (ht : RowTy P t e sz bytes) {B : List Box} {b v : Nat} {X Y : List α} {src : AV} (hb : B[b]? = some (.cells true v (rowC (X.map f)))) (hs : srcA P tx B sz src = some (Y.length, rowC (Y.map f)))
    (hl : ((X ++ Y).length : Int) ≤ 1000000000) (hbytes : bytes ≤ 140000) : appendA P t tx B (.rs b v sz 0 X.length) src = some (.rs b (v + 1) sz 0 (X ++ Y).length, B.set b (.cells true (v + 1) (rowC ((X ++ Y).map f)))) := by
  unfold appendA
  rw [ht.elem]
  simp only [Option.bind_some, ht.size]
  rw [ht.byts]
  simp only [Option.bind_some]
  rw [if_neg (by rw [ht.zero]; simp), hs]
  simp only [Option.bind_some]
  rw [if_neg (by rw [h.rowLeaf, h.rowLen]; simp)]
  simp only [hb, Nat.beq_refl, beq_self_eq_true, Bool.and_self, Bool.true_and]
  have hle : (X.length + Y.length) * bytes ≤ 140737488355328 := by
    have h1 : X.length + Y.length ≤ 1000000000 := by simp at hl; omega
    exact Nat.le_trans (Nat.mul_le_mul h1 hbytes) (by decide)
  rw [if_pos (by rw [Nat.ble_eq]; exact hle), List.drop_zero, ← h.rowLen, List.take_length, ← rowC_append, List.map_append, List.length_append]

theorem append_nil (h : Elt α f sz) {t tx e bytes : Nat} (ht : RowTy P t e sz bytes) {B : List Box} {Y : List α} {src : AV} (hs : srcA P tx B sz src = some (Y.length, rowC (Y.map f)))
    (hl : (Y.length : Int) ≤ 1000000000) (hbytes : bytes ≤ 140000) : appendA P t tx B nilS src = some (.rs B.length 0 sz 0 Y.length, B ++ [.cells true 0 (rowC (Y.map f))]) := by
  unfold appendA
  rw [ht.elem]
  simp only [Option.bind_some, ht.size]
  rw [ht.byts]
  simp only [Option.bind_some]
  rw [if_neg (by rw [ht.zero]; simp), hs]
  simp only [Option.bind_some]
  rw [if_neg (by rw [h.rowLeaf, h.rowLen]; simp)]
  have hle : Y.length * bytes ≤ 140737488355328 := by
    have h1 : Y.length ≤ 1000000000 := by omega
    exact Nat.le_trans (Nat.mul_le_mul h1 hbytes) (by decide)
  rw [if_pos (by rw [Nat.ble_eq]; exact hle)]

theorem slice_h (h : Elt α f sz) {t e bytes : Nat} (ht : RowTy P t e sz bytes) {B B2 : List Box} {L : List α} {hi : Int} (h0 : 0 ≤ hi ∧ hi ≤ (L.length : Int)) :
    ((sliceA P t B (vl (L.map f)) none (some (vi hi))).map fun v => (v, B2)) = some (vl ((L.take (Int.toNat hi)).map f), B2) := by
  unfold sliceA
  rw [ht.und]
  simp only [ht.size, Option.bind_some, boundsA, boundA, intA, List.length_map]
  rw [if_pos h0]
  simp only [Option.bind_some]
  rw [if_pos (h.all L)]
  simp

theorem slice_l (h : Elt α f sz) {t e bytes : Nat} (ht : RowTy P t e sz bytes) {B B2 : List Box} {L : List α} {lo : Int} (h0 : 0 ≤ lo ∧ lo ≤ (L.length : Int)) :
    ((sliceA P t B (vl (L.map f)) (some (vi lo)) none).map fun v => (v, B2)) = some (vl ((L.drop (Int.toNat lo)).map f), B2) := by
  unfold sliceA
  rw [ht.und]
  simp only [ht.size, Option.bind_some, boundsA, boundA, intA, List.length_map]
  rw [if_pos h0]
  simp only [Option.bind_some]
  rw [if_pos (h.all L)]
  have e1 : (L.map f).take L.length = L.map f := List.take_of_length_le (by simp)
  simp [e1]

theorem slice_lh (h : Elt α f sz) {t e bytes : Nat} (ht : RowTy P t e sz bytes) {B B2 : List Box} {L : List α} {lo hi : Int} (h0 : 0 ≤ hi ∧ hi ≤ (L.length : Int)) (h1 : 0 ≤ lo ∧ lo ≤ hi) :
    ((sliceA P t B (vl (L.map f)) (some (vi lo)) (some (vi hi))).map fun v => (v, B2)) = some (vl (((L.take (Int.toNat hi)).drop (Int.toNat lo)).map f), B2) := by
  unfold sliceA
  rw [ht.und]
  simp only [ht.size, Option.bind_some, boundsA, boundA, intA, List.length_map]
  rw [if_pos h0]
  simp only [Option.bind_some]
  rw [if_pos (by omega)]
  simp only [Option.bind_some, Option.map_some]
  rw [if_pos (h.all L)]
  simp

theorem wrap_i64 {x : Int} (h : -9223372036854775808 ≤ x ∧ x < 9223372036854775808) : IntKind.i64.wrap x = x := by
  simp [IntKind.wrap, IntKind.bits, IntKind.signed]
  omega

end Go.Ax
