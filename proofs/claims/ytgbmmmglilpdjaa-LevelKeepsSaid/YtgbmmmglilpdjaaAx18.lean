/- Short words for the ways that are printed. -/
import Derived.Test.YtgbmmmglilpdjaaAx17
set_option linter.unusedVariables false
set_option linter.unusedSimpArgs false
namespace Go.Ax
open Go.RowKit

abbrev vn (k : IntKind) (x : Int) : AV := .p (.v (.int k x))
abbrev vi (x : Int) : AV := .p (.v (.int .i64 x))
abbrev vb (b : Bool) : AV := .p (.v (.bool b))
abbrev vs (s : ByteArray) : AV := .p (.v (.string s))
abbrev vl (xs : List PV) : AV := .p (.ls xs)
abbrev nilS : AV := .p (.v (.slice none 0 0))

/-- A part of code: 'l' and 'r' are the first and the second of what it is made of. -/
def nav : List Bool → Code → Code
  | [], c => c
  | b :: r, .seq x y => nav r (if b then y else x)
  | b :: r, .cond _ x y => nav r (if b then y else x)
  | _ :: r, .block _ x => nav r x
  | _ :: r, .loop x => nav r x
  | _, c => c

def bodyOf (f : Func) : Code := f.body.getD .skip

/-- The cells of a row of these elements. -/
def rowC (xs : List PV) : List AV := (xs.flatMap PV.cells).map .p

theorem nav_seq {c a b : Code} (h : c = .seq a b) : nav [false] c = a ∧ nav [true] c = b := by subst h; exact ⟨rfl, rfl⟩

/-- Nothing but to forget. -/
theorem cells2_same {B : List Box} {f : Nat → Nat} {m : Nat} : ∀ {xs : List AV}, (∀ x ∈ xs, x = x.ren f) → xs.all (AV.low m) = true → Cells2 B f m xs xs
  | [], _, _ => trivial
  | x :: xs, h, hl => by
    simp only [List.all_cons, Bool.and_eq_true] at hl
    exact ⟨.inl ⟨h x (by simp), hl.1⟩, cells2_same (fun y hy => h y (by simp [hy])) hl.2⟩

end Go.Ax
