/- Entries, lists of them; the functions that compare and check. -/
import Derived.Test.YtgbmmmglilpdjaaAx19
import Derived.Test.YtgbmmmglilpdjaaProg
import Derived.Laws.Externs
set_option linter.unusedVariables false
set_option linter.unusedSimpArgs false
namespace Go.Ax
open Go.Proofs Go.RowKit
set_option maxRecDepth 100000

noncomputable abbrev LP : Program := Try.prog

structure Ent where
  key : ByteArray
  seq : Int
  del : Bool
  val : ByteArray

def Ent.cs (e : Ent) : List PV := [.v (.string e.key), .v (.int .u64 e.seq), .v (.bool e.del), .v (.string e.val)]
def Ent.pv (e : Ent) : PV := .agg e.cs
def ents (es : List Ent) : List PV := es.map Ent.pv
def intP (x : Int) : PV := .v (.int .u64 x)
def ints (l : List Int) : List PV := l.map intP
def entsP (l : List Ent) : PV := .ls (ents l)
def entss (l : List (List Ent)) : List PV := l.map entsP

theorem eltEnt : Elt Ent Ent.pv 4 := ⟨fun _ => rfl, fun _ => rfl⟩
theorem eltInt : Elt Int intP 1 := ⟨fun _ => rfl, fun _ => rfl⟩
theorem eltEnts : Elt (List Ent) entsP 1 := ⟨fun _ => rfl, fun _ => rfl⟩

theorem row22 : RowTy LP 22 30 4 48 := ⟨by kernel_rfl, by kernel_rfl, by kernel_rfl, by kernel_rfl⟩
theorem row23 : RowTy LP 23 28 1 8 := ⟨by kernel_rfl, by kernel_rfl, by kernel_rfl, by kernel_rfl⟩
theorem row35 : RowTy LP 35 22 1 24 := ⟨by kernel_rfl, by kernel_rfl, by kernel_rfl, by kernel_rfl⟩

theorem mixedL : LP.follows .mixedOrders = true := by kernel_rfl

theorem ents_at {L : List Ent} {i : Int} {e : Ent} (h0 : 0 ≤ i) (h1 : L[Int.toNat i]? = some e) : 0 ≤ i ∧ (ents L)[Int.toNat i]? = some e.pv ∧ ((ents L).all fun y => y.cells.length == 4) = true := eltEnt.at h0 h1
theorem entss_at {L : List (List Ent)} {i : Int} {e : List Ent} (h0 : 0 ≤ i) (h1 : L[Int.toNat i]? = some e) : 0 ≤ i ∧ (entss L)[Int.toNat i]? = some (.ls (ents e)) ∧ ((entss L).all fun y => y.cells.length == 1) = true := eltEnts.at h0 h1
theorem ints_at {L : List Int} {i : Int} {e : Int} (h0 : 0 ≤ i) (h1 : L[Int.toNat i]? = some e) : 0 ≤ i ∧ (ints L)[Int.toNat i]? = some (.v (.int .u64 e)) ∧ ((ints L).all fun y => y.cells.length == 1) = true := eltInt.at h0 h1
theorem ents_len (L : List Ent) : ((ents L).length : Int) = (L.length : Int) := by simp [ents]
theorem ints_len (L : List Int) : ((ints L).length : Int) = (L.length : Int) := by simp [ints]
theorem entss_len (L : List (List Ent)) : ((entss L).length : Int) = (L.length : Int) := by simp [entss]

theorem ents_seal {B : List Box} {g : Nat → Nat} {m b ver : Nat} {row : Bool} {L : List Ent} (hS : ∀ j, j < m → g j ≠ b) (hb : B[b]? = some (.cells row ver (rowC (ents L)))) : WCell B g m (.rs b ver 4 0 L.length) (vl (ents L)) := eltEnt.shutRow hS hb
theorem entss_seal {B : List Box} {g : Nat → Nat} {m b ver : Nat} {row : Bool} {L : List (List Ent)} (hS : ∀ j, j < m → g j ≠ b) (hb : B[b]? = some (.cells row ver (rowC (entss L)))) : WCell B g m (.rs b ver 1 0 L.length) (vl (entss L)) := eltEnts.shutRow hS hb

theorem ents_slice_h {B B2 : List Box} {L : List Ent} {hi : Int} (h0 : 0 ≤ hi ∧ hi ≤ (L.length : Int)) : ((sliceA LP 22 B (vl (ents L)) none (some (vi hi))).map fun v => (v, B2)) = some (vl (ents (L.take (Int.toNat hi))), B2) := slice_h eltEnt row22 h0
theorem ents_slice_l {B B2 : List Box} {L : List Ent} {lo : Int} (h0 : 0 ≤ lo ∧ lo ≤ (L.length : Int)) : ((sliceA LP 22 B (vl (ents L)) (some (vi lo)) none).map fun v => (v, B2)) = some (vl (ents (L.drop (Int.toNat lo))), B2) := slice_l eltEnt row22 h0
theorem ents_slice_lh {B B2 : List Box} {L : List Ent} {lo hi : Int} (h0 : 0 ≤ hi ∧ hi ≤ (L.length : Int)) (h1 : 0 ≤ lo ∧ lo ≤ hi) : ((sliceA LP 22 B (vl (ents L)) (some (vi lo)) (some (vi hi))).map fun v => (v, B2)) = some (vl (ents ((L.take (Int.toNat hi)).drop (Int.toNat lo))), B2) := slice_lh eltEnt row22 h0 h1

theorem ents_appendL {B : List Box} {b v : Nat} (X Y : List Ent) (hb : B[b]? = some (.cells true v (rowC (ents X)))) (hl : ((X ++ Y).length : Int) ≤ 1000000000) : appendA LP 22 22 B (.rs b v 4 0 X.length) (vl (ents Y)) = some (.rs b (v + 1) 4 0 (X ++ Y).length, B.set b (.cells true (v + 1) (rowC (ents (X ++ Y))))) :=
  append_row eltEnt row22 hb (src_ls eltEnt row22 Y) hl (by decide)
theorem ents_append0L {B : List Box} {b v : Nat} (Y : List Ent) (hb : B[b]? = some (.cells true v [])) (hl : (Y.length : Int) ≤ 1000000000) : appendA LP 22 22 B (.rs b v 4 0 0) (vl (ents Y)) = some (.rs b (v + 1) 4 0 Y.length, B.set b (.cells true (v + 1) (rowC (ents Y)))) :=
  ents_appendL [] Y hb hl
theorem ents_appendR {B : List Box} {b v b2 v2 : Nat} {row : Bool} (X Y : List Ent) (hb : B[b]? = some (.cells true v (rowC (ents X)))) (hb2 : B[b2]? = some (.cells row v2 (rowC (ents Y)))) (hl : ((X ++ Y).length : Int) ≤ 1000000000) : appendA LP 22 22 B (.rs b v 4 0 X.length) (.rs b2 v2 4 0 Y.length) = some (.rs b (v + 1) 4 0 (X ++ Y).length, B.set b (.cells true (v + 1) (rowC (ents (X ++ Y))))) :=
  append_row eltEnt row22 hb (src_rs eltEnt row22 hb2) hl (by decide)
theorem entss_appendR {B : List Box} {b v b2 v2 : Nat} {row : Bool} (X Y : List (List Ent)) (hb : B[b]? = some (.cells true v (rowC (entss X)))) (hb2 : B[b2]? = some (.cells row v2 (rowC (entss Y)))) (hl : ((X ++ Y).length : Int) ≤ 1000000000) : appendA LP 35 35 B (.rs b v 1 0 X.length) (.rs b2 v2 1 0 Y.length) = some (.rs b (v + 1) 1 0 (X ++ Y).length, B.set b (.cells true (v + 1) (rowC (entss (X ++ Y))))) :=
  append_row eltEnts row35 hb (src_rs eltEnts row35 hb2) hl (by decide)
theorem entss_appendnilR {B : List Box} {b2 v2 : Nat} {row : Bool} (Y : List (List Ent)) (hb2 : B[b2]? = some (.cells row v2 (rowC (entss Y)))) (hl : (Y.length : Int) ≤ 1000000000) : appendA LP 35 35 B nilS (.rs b2 v2 1 0 Y.length) = some (.rs B.length 0 1 0 Y.length, B ++ [.cells true 0 (rowC (entss Y))]) :=
  append_nil eltEnts row35 (src_rs eltEnts row35 hb2) hl (by decide)
theorem ents_notnil {B : List Box} {L : List Ent} (h : L ≠ []) : ((binA LP .eql 22 (vl (ents L)) nilS).map fun v => (v, B)) = some (vb false, B) := by
  cases L with
  | nil => exact absurd rfl h
  | cons e L =>
    have : elemT LP 22 = some 30 := row22.elem
    simp [binA, this, ents, isNilA]

theorem gBool {x : Option AV} {b q : Bool} (h : x = some (vb b)) (e : b = q) : x = some (vb q) := e ▸ h

/-! ### Contracts -/
def envOf (l : List (Nat × FSpec)) : Env := fun f => ((l.find? fun p => Nat.beq p.1 f).map (·.2)).getD .none

theorem env_sound {P : Program} {l : List (Nat × FSpec)} (h : ∀ p ∈ l, SoundF P p.1 p.2) (f : Nat) : SoundF P f (envOf l f) := by
  unfold envOf
  cases hf : l.find? (fun p => Nat.beq p.1 f) with
  | none => exact sound_none f
  | some p =>
    have := Nat.eq_of_beq_eq_true (List.find?_some (p := fun p : Nat × FSpec => Nat.beq p.1 f) hf)
    subst this
    exact h p (List.mem_of_find?_eq_some hf)

def entA (e : Ent) : AV := .agg [vs e.key, vn .u64 e.seq, vb e.del, vs e.val]

theorem entA_inj {x y : Ent} (h : entA x = entA y) : x = y := by
  cases x; cases y
  simp [entA] at h
  simp [h]

theorem ents_inj {x y : List Ent} (h : ents x = ents y) : x = y := by
  induction x generalizing y with
  | nil => cases y with
    | nil => rfl
    | cons b y => simp [ents] at h
  | cons a x ih =>
    cases y with
    | nil => simp [ents] at h
    | cons b y =>
      simp only [ents, List.map_cons, List.cons.injEq] at h
      rw [ih h.2]
      congr 1
      have := h.1
      cases a; cases b
      simp [Ent.pv, Ent.cs] at this
      simp [this]

def RScmp : List AV → AV → Prop := fun args r => ∃ a b : ByteArray, args = [vs a, vs b] ∧ r = vi (Lib.compareBytes a.data.toList b.data.toList)
noncomputable def gScmp := relG RScmp
theorem gScmp_eq (a b : ByteArray) : gScmp [vs a, vs b] = some (vi (Lib.compareBytes a.data.toList b.data.toList)) :=
  relG_eq (by
    rintro args r r' ⟨a, b, rfl, rfl⟩ ⟨a', b', h, rfl⟩
    simp at h
    rw [h.1, h.2]) ⟨a, b, rfl, rfl⟩

theorem sound46 : SoundF LP 46 (.pure gScmp) := extern_pure (by
  rintro args r ⟨a, b, rfl, rfl⟩
  refine ⟨[.string a, .string b], _, rfl, rfl, fun w => ?_⟩
  rw [run_callFunc_extern (e := Extern.BytealgCompare.compare) (fn := Try.f46) (by kernel_rfl) (by kernel_rfl) (by kernel_rfl) (by kernel_rfl) (by kernel_rfl), Lib.run_compareString]
  rfl)

def Γ0 : Env := fun _ => .none
noncomputable def Γ46 : Env := envOf [(46, .pure gScmp)]
theorem Γ46_ok : ∀ f, SoundF LP f (Γ46 f) := env_sound (by simp [sound46])
noncomputable def Γ42 : Env := envOf [(42, .pure gScmp)]
noncomputable def Γ36 : Env := envOf [(36, .pure gScmp)]

end Go.Ax
