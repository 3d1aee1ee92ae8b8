/- Words for Keep's closures. -/
import Derived.Test.YtgbmmmglilpdjaaAx22
import Derived.Test.YtgbmmmglilpdjaaLv4
set_option linter.unusedVariables false
set_option linter.unusedSimpArgs false
namespace Go.Ax
open Go.Proofs Go.RowKit
set_option maxRecDepth 100000

theorem ble_self (n : Nat) : Nat.ble n n = true := by rw [Nat.ble_eq]; exact Nat.le_refl n

theorem load_sym {B : List Box} {b ver o : Nat} {row : Bool} {cs : List AV} {t : TypeId} {v : AV} (h : B[b]? = some (Box.cells row ver cs)) (hm : mkA LP t (cs.drop o) = some v) : ((loadA LP t B (.ptr b ver o)).map fun q_ => (q_, B)) = some (v, B) := by
  unfold loadA
  simp only [h, Nat.beq_refl, if_true, hm]
  rfl

/-- Is a change seen by s, and the newer one not? -/
def between (x o : Ent) (s : Int) : Bool := decide (s ≥ x.seq) && decide (s < o.seq)

def RK25 : List AV → List Box → AV × List Box → Prop := fun args B r => ∃ (s : Int) (a va : Nat) (x : Ent) (b vb_ : Nat) (O : List Ent) (c vc : Nat) (i : Int) (o1 : Ent), B.all (Box.low B.length) = true ∧ args = [vn .u64 s, .ptr a va 0, .ptr b vb_ 0, .ptr c vc 0] ∧
  B[a]? = some (Box.cells false va (x.cs.map .p)) ∧ B[b]? = some (Box.cells false vb_ [vl (ents O)]) ∧ B[c]? = some (Box.cells false vc [vi i]) ∧ 1 ≤ i ∧ i ≤ 1000000 ∧ O[Int.toNat (i - 1)]? = some o1 ∧ r = (vb (between x o1 s), B)
noncomputable def gK25 := relG2 RK25

theorem cs_inj {x y : Ent} (h : x.cs.map AV.p = y.cs.map AV.p) : x = y := by
  cases x; cases y
  simp [Ent.cs] at h
  simp [h]

theorem dK25 (args : List AV) (B : List Box) (r r' : AV × List Box) (h : RK25 args B r) (h' : RK25 args B r') : r = r' := by
  obtain ⟨s, a, va, x, b, vb_, O, c, vc, i, o1, _, e, h1, h2, h3, _, _, h4, rfl⟩ := h
  obtain ⟨s', a', va', x', b', vb', O', c', vc', i', o1', _, e', h1', h2', h3', _, _, h4', rfl⟩ := h'
  rw [e] at e'
  simp only [List.cons.injEq, AV.ptr.injEq, AV.p.injEq, PV.v.injEq, Value.int.injEq, and_true, true_and] at e'
  obtain ⟨rfl, ⟨rfl, rfl⟩, ⟨rfl, rfl⟩, rfl, rfl⟩ := e'
  rw [h1] at h1'
  rw [h2] at h2'
  rw [h3] at h3'
  simp only [Option.some.injEq, Box.cells.injEq, true_and, List.cons.injEq, AV.p.injEq, PV.ls.injEq, PV.v.injEq, Value.int.injEq, and_true] at h1' h2' h3'
  obtain rfl := cs_inj h1'
  obtain rfl := ents_inj h2'
  subst h3'
  rw [h4] at h4'
  cases h4'
  rfl

theorem gK25_eq {args : List AV} {B : List Box} {r : AV × List Box} (h : RK25 args B r) : gK25 args B = some r := relG2_eq dK25 h

/-- What is asked of a function that is handed in: it answers p, and turns nothing. -/
structure PredOk (B : List Box) (caps : List AV) (S : List Int) (p : Int → Bool) : Prop where
  low : B.all (Box.low B.length) = true
  cap : AV.low.allLow B.length caps = true
  len : S.length ≤ 1000000
  ev : ∀ s ∈ S, gK25 ([vn .u64 s] ++ caps) B = some (vb (p s), B)

def idxF (p : Int → Bool) : List Int → Int → Int
  | [], _ => -1
  | s :: S, i => if p s = true then i else idxF p S (i + 1)

def RK37 : List AV → List Box → AV × List Box → Prop := fun args B r => ∃ (S : List Int) (caps : List AV) (p : Int → Bool), PredOk B caps S p ∧ args = [vl (ints S), .fn 25 caps] ∧ r = (vi (idxF p S 0), B)
noncomputable def gK37 := relG2 RK37

theorem ints_inj {x y : List Int} (h : ints x = ints y) : x = y := by
  induction x generalizing y with
  | nil => cases y with
    | nil => rfl
    | cons b y => simp [ints] at h
  | cons a x ih =>
    cases y with
    | nil => simp [ints] at h
    | cons b y =>
      simp only [ints, List.map_cons, List.cons.injEq] at h
      rw [ih h.2]
      congr 1
      have := h.1
      simpa [intP] using this

theorem pred_same {B : List Box} {caps : List AV} {S : List Int} {p p' : Int → Bool} (h : PredOk B caps S p) (h' : PredOk B caps S p') : ∀ s ∈ S, p s = p' s := by
  intro s hs
  have h1 := h.ev s hs
  rw [h'.ev s hs] at h1
  simpa using h1.symm

theorem idxF_congr {p p' : Int → Bool} : ∀ (S : List Int) (i : Int), (∀ s ∈ S, p s = p' s) → idxF p S i = idxF p' S i
  | [], _, _ => rfl
  | s :: S, i, h => by
    simp only [idxF]
    rw [h s (by simp), idxF_congr S (i + 1) (fun t ht => h t (by simp [ht]))]

theorem dK37 (args : List AV) (B : List Box) (r r' : AV × List Box) (h : RK37 args B r) (h' : RK37 args B r') : r = r' := by
  obtain ⟨S, caps, p, hp, e, rfl⟩ := h
  obtain ⟨S', caps', p', hp', e', rfl⟩ := h'
  rw [e] at e'
  simp only [List.cons.injEq, AV.p.injEq, PV.ls.injEq, AV.fn.injEq, and_true, true_and] at e'
  obtain ⟨e1, rfl⟩ := e'
  obtain rfl := ints_inj e1
  rw [idxF_congr S 0 (pred_same hp hp')]

theorem gK37_eq {args : List AV} {B : List Box} {r : AV × List Box} (h : RK37 args B r) : gK37 args B = some r := relG2_eq dK37 h

def RK24 : List AV → List Box → AV × List Box → Prop := fun args B r => ∃ (S : List Int) (caps : List AV) (p : Int → Bool), PredOk B caps S p ∧ args = [vl (ints S), .fn 25 caps] ∧ r = (vb (S.any p), B)
noncomputable def gK24 := relG2 RK24

theorem any_congr' {p p' : Int → Bool} : ∀ (S : List Int), (∀ s ∈ S, p s = p' s) → S.any p = S.any p'
  | [], _ => rfl
  | s :: S, h => by rw [List.any_cons, List.any_cons, h s (by simp), any_congr' S (fun t ht => h t (by simp [ht]))]

theorem dK24 (args : List AV) (B : List Box) (r r' : AV × List Box) (h : RK24 args B r) (h' : RK24 args B r') : r = r' := by
  obtain ⟨S, caps, p, hp, e, rfl⟩ := h
  obtain ⟨S', caps', p', hp', e', rfl⟩ := h'
  rw [e] at e'
  simp only [List.cons.injEq, AV.p.injEq, PV.ls.injEq, AV.fn.injEq, and_true, true_and] at e'
  obtain ⟨e1, rfl⟩ := e'
  obtain rfl := ints_inj e1
  rw [any_congr' S (pred_same hp hp')]

theorem gK24_eq {args : List AV} {B : List Box} {r : AV × List Box} (h : RK24 args B r) : gK24 args B = some r := relG2_eq dK24 h

noncomputable def ΓK25 : Env := envOf [(25, .gen gK25)]
noncomputable def ΓK37 : Env := envOf [(37, .gen gK37)]
noncomputable def ΓK24 : Env := envOf [(24, .gen gK24)]

end Go.Ax
