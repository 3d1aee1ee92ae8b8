/- A call of ContainsFunc in Keep's closure. -/
import Derived.Test.YtgbmmmglilpdjaaKp2
set_option linter.unusedVariables false
set_option linter.unusedSimpArgs false
namespace Go.Ax
open Go.Proofs Go.RowKit
set_option maxRecDepth 100000

theorem k24_call {B : List Box} {S : List Int} {a va : Nat} {x : Ent} {b vb_ : Nat} {O : List Ent} {c vc : Nat} {i : Int} {o1 : Ent} {q : Bool}
    (h1 : B[a]? = some (Box.cells false va (x.cs.map .p))) (h2 : B[b]? = some (Box.cells false vb_ [vl (ents O)])) (h3 : B[c]? = some (Box.cells false vc [vi i])) (hlow : B.all (Box.low B.length) = true)
    (hS : S.length ≤ 1000000) (hi : 1 ≤ i ∧ i ≤ 1000000) (ho : O[Int.toNat (i - 1)]? = some o1) (hq : S.any (between x o1) = q) :
    gK24 [vl (ints S), .fn 25 [.ptr a va 0, .ptr b vb_ 0, .ptr c vc 0]] B = some (vb q, B) := by
  subst hq
  refine gK24_eq ⟨S, _, between x o1, ⟨hlow, ?_, hS, fun s _ => ?_⟩, rfl, rfl⟩
  · simp [AV.low.allLow, AV.low, lt_of_get h1, lt_of_get h2, lt_of_get h3, Nat.blt_eq]
  · exact gK25_eq ⟨s, a, va, x, b, vb_, O, c, vc, i, o1, hlow, rfl, h1, h2, h3, hi.1, hi.2, ho, rfl⟩

theorem ents_appendnilL {B : List Box} (Y : List Ent) (hl : (Y.length : Int) ≤ 1000000000) : appendA LP 22 22 B nilS (vl (ents Y)) = some (.rs B.length 0 4 0 Y.length, B ++ [.cells true 0 (rowC (ents Y))]) :=
  append_nil eltEnt row22 (src_ls eltEnt row22 Y) hl (by decide)
theorem ents_appendnilR {B : List Box} {b2 v2 : Nat} {row : Bool} (Y : List Ent) (hb2 : B[b2]? = some (.cells row v2 (rowC (ents Y)))) (hl : (Y.length : Int) ≤ 1000000000) : appendA LP 22 22 B nilS (.rs b2 v2 4 0 Y.length) = some (.rs B.length 0 4 0 Y.length, B ++ [.cells true 0 (rowC (ents Y))]) :=
  append_nil eltEnt row22 (src_rs eltEnt row22 hb2) hl (by decide)

end Go.Ax
