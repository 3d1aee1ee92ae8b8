/- What comes in to the laws of the level: versions, limits. -/
import Derived.Test.YtgbmmmglilpdjaaTlf
import Derived.Test.YtgbmmmglilpdjaaAx21
set_option linter.unusedVariables false
set_option linter.unusedSimpArgs false
namespace Go.Ax
open Go.Proofs Go.RowKit
set_option maxRecDepth 100000

/-- A file that is read. -/
theorem open_meta {H : Type} {enc : TypeId × Value → H} {w : World} {base : Nat} {spare : Nat → Bool} {held : Bool} {O : Nat → Prop} (n : Nat) (cs' : List Value) (y : DataW H × List MemPlace) (h : DataW.trod enc Try.prog w base spare held n 51 cs' = some y) :
    ∃ a : Meta, True ∧ cs'.length = 5 ∧ ∀ (r : Nat) (p : PV) (u : Value), (metaE.f a).cells[r]? = some p → cs'[r]? = some u → PRel O w p u := by
  obtain ⟨xs, n, _, rfl, hl, hlen, hf⟩ := DataW.trod_struct Try.underlying51 h
  have hc : Try.prog.cellsOf 51 = 5 := by kernel_rfl
  have c9 : Try.prog.cellsOf 9 = 1 := by kernel_rfl
  have c3 : Try.prog.cellsOf 3 = 1 := by kernel_rfl
  rw [hc] at hl
  have h0 := hf 0 _ rfl
  have h1 := hf 1 _ rfl
  have h2 := hf 2 _ rfl
  have h3 := hf 3 _ rfl
  have h4 := hf 4 _ rfl
  have h0 : DataW.trod enc Try.prog w base spare held n 3 ((cs'.drop 0).take (Try.prog.cellsOf 3)) = xs[0]? := h0
  have h1 : DataW.trod enc Try.prog w base spare held n 3 ((cs'.drop 1).take (Try.prog.cellsOf 3)) = xs[1]? := h1
  have h2 : DataW.trod enc Try.prog w base spare held n 9 ((cs'.drop 2).take (Try.prog.cellsOf 9)) = xs[2]? := h2
  have h3 : DataW.trod enc Try.prog w base spare held n 9 ((cs'.drop 3).take (Try.prog.cellsOf 9)) = xs[3]? := h3
  have h4 : DataW.trod enc Try.prog w base spare held n 3 ((cs'.drop 4).take (Try.prog.cellsOf 3)) = xs[4]? := h4
  rw [c3] at h0 h1 h4
  rw [c9] at h2 h3
  match cs', hl, xs, hlen with
  | [v0, v1, v2, v3, v4], _, [x0, x1, x2, x3, x4], _ =>
    obtain ⟨a, e0, _, _⟩ := DataW.trod_int Try.underlying3 h0
    obtain ⟨b, e1, _, _⟩ := DataW.trod_int Try.underlying3 h1
    obtain ⟨c, e2, _, _⟩ := DataW.trod_string Try.underlying9 h2
    obtain ⟨d, e3, _, _⟩ := DataW.trod_string Try.underlying9 h3
    obtain ⟨e, e4, _, _⟩ := DataW.trod_int Try.underlying3 h4
    simp at e0 e1 e2 e3 e4
    subst e0 e1 e2 e3 e4
    refine ⟨⟨a, b, c, d, e⟩, trivial, rfl, fun r p u hp hu => ?_⟩
    match r with
    | 0 => cases hp; cases hu; exact .v _
    | 1 => cases hp; cases hu; exact .v _
    | 2 => cases hp; cases hu; exact .v _
    | 3 => cases hp; cases hu; exact .v _
    | 4 => cases hp; cases hu; exact .v _
    | r + 5 => simp [metaE, PV.cells] at hp

theorem vrel_i {w : World} {ρ : Loc} (k : IntKind) (n : Int) : VRel noF [] ρ w (vn k n) (.int k n) := .p _ _ (.v _)

/-- A list of files that comes in. -/
theorem open_metas {H : Type} {enc : TypeId × Value → H} {w : World} {base : Nat} {spare : Nat → Bool} {held : Bool} {ρ : Loc} {t : TypeId} (ht : Try.prog.underlying t = some (.slice 51)) {fuel : Nat} {v : Value} {x : DataW H × List MemPlace} (h : DataW.trod enc Try.prog w base spare held fuel t [v] = some x) :
    ∃ L : List Meta, VRel noF [] ρ w (vl (L.map metaE.f)) v := by
  obtain ⟨L, _, h⟩ := open_list (O := Own noF [] ρ) (fun k => not_own) ht metaE.elt (by decide) (by kernel_rfl) (fun n cs' y hy => open_meta n cs' y hy) h
  exact ⟨L, .p _ _ h⟩

/-- A version that comes in. -/
theorem open_vers {H : Type} {enc : TypeId × Value → H} {w : World} {base : Nat} {spare : Nat → Bool} {held : Bool} {ρ : Loc} {r : Reach} {b0 : Nat} {v : Value} {d : DataW H} {p : List MemPlace}
    (hv : Value.okWide Try.prog w r b0 40 v) (h : DataW.Trod enc Try.prog w base spare held 40 v d p) :
    ∃ V : Vers, VRel noF [] ρ w (.agg [vl (V.files.map metaE.f), vi V.log, vi V.next, vn .u64 V.seq]) v := by
  obtain ⟨v0, v1, v2, v3, y0, y1, y2, y3, n, rfl, _, _, h0, h1, h2, h3⟩ := Go.Joins.open_agg4 Try.underlying40 (by kernel_rfl) (by kernel_rfl) hv h
  obtain ⟨L, w0⟩ := open_metas (ρ := ρ) Try.underlying38 h0
  obtain ⟨a, e1, _, _⟩ := DataW.trod_int Try.underlying3 h1
  obtain ⟨b, e2, _, _⟩ := DataW.trod_int Try.underlying3 h2
  obtain ⟨c, e3, _, _⟩ := DataW.trod_int Try.underlying28 h3
  simp at e1 e2 e3
  subst e1 e2 e3
  refine ⟨⟨L, a, b, c⟩, .agg _ [v0, .int .i64 a, .int .i64 b, .int .u64 c] rfl fun j p u hp hu => ?_⟩
  match j with
  | 0 => cases hp; cases hu; exact w0
  | 1 => cases hp; cases hu; exact vrel_i _ _
  | 2 => cases hp; cases hu; exact vrel_i _ _
  | 3 => cases hp; cases hu; exact vrel_i _ _
  | j + 4 => simp at hp

/-- Limits that come in. -/
theorem open_conf {H : Type} {enc : TypeId × Value → H} {w : World} {base : Nat} {spare : Nat → Bool} {held : Bool} {ρ : Loc} {r : Reach} {b0 : Nat} {v : Value} {d : DataW H} {p : List MemPlace}
    (hv : Value.okWide Try.prog w r b0 42 v) (h : DataW.Trod enc Try.prog w base spare held 42 v d p) :
    ∃ c : Conf, VRel noF [] ρ w (.agg [vi c.files, vi c.size, vi c.cut]) v := by
  obtain ⟨v1, v2, v3, y1, y2, y3, n, rfl, _, _, h1, h2, h3⟩ := Go.Joins.open_agg3 Try.underlying42 (by kernel_rfl) (by kernel_rfl) hv h
  obtain ⟨a, e1, _, _⟩ := DataW.trod_int Try.underlying3 h1
  obtain ⟨b, e2, _, _⟩ := DataW.trod_int Try.underlying3 h2
  obtain ⟨c, e3, _, _⟩ := DataW.trod_int Try.underlying3 h3
  simp at e1 e2 e3
  subst e1 e2 e3
  refine ⟨⟨a, b, c⟩, .agg _ [.int .i64 a, .int .i64 b, .int .i64 c] rfl fun j p u hp hu => ?_⟩
  match j with
  | 0 => cases hp; cases hu; exact vrel_i _ _
  | 1 => cases hp; cases hu; exact vrel_i _ _
  | 2 => cases hp; cases hu; exact vrel_i _ _
  | j + 3 => simp at hp

end Go.Ax
