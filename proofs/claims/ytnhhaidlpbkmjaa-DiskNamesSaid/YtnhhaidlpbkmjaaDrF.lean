/- What comes in: bytes, numbers, lists of lists of numbers. -/
import Derived.Test.YtnhhaidlpbkmjaaDr1b
import Derived.Test.YtnhhaidlpbkmjaaBx22
import Derived.OpenShut
import Derived.WalkKit
import Derived.ProofKit
set_option linter.unusedVariables false
set_option linter.unusedSimpArgs false
set_option linter.unusedSectionVars false
namespace Go.Ax
open Go.Proofs Go.ChangeShapes Go.WideShapes Go.ChangeAt Go.RowKit

section
variable {H : Type} {enc : TypeId × Value → H} {w : World} {base : Nat} {spare : Nat → Bool} {held : Bool} {O : Nat → Prop}

theorem in_u8 (n : Nat) (cs' : List Value) (y : DataW H × List MemPlace) {t : TypeId} (ht : DP.underlying t = some (.int .u8)) (h : DataW.trod enc DP w base spare held n t cs' = some y) :
    ∃ a : UInt8, True ∧ cs'.length = 1 ∧ ∀ (r : Nat) (p : PV) (u : Value), (byteE.f a).cells[r]? = some p → cs'[r]? = some u → PRel O w p u := by
  obtain ⟨s, rfl, _, hw⟩ := DataW.trod_int ht h
  have hb : 0 ≤ s ∧ s < 256 := by
    simp only [Lit.wf, Bool.and_eq_true, decide_eq_true_eq] at hw
    have h1 : IntKind.u8.min = 0 := by decide
    have h2 : IntKind.u8.max = 255 := by decide
    omega
  refine ⟨UInt8.ofNat s.toNat, trivial, rfl, fun r p u hp hu => ?_⟩
  match r with
  | 0 =>
    cases hu
    have : ((UInt8.ofNat s.toNat).toNat : Int) = s := by
      rw [UInt8.toNat_ofNat']
      omega
    change some (PV.v (.int .u8 ((UInt8.ofNat s.toNat).toNat : Int))) = some p at hp
    rw [this] at hp
    cases hp
    exact .v _
  | r + 1 => simp [byteE, PV.cells] at hp

theorem in_i64 (n : Nat) (cs' : List Value) (y : DataW H × List MemPlace) {t : TypeId} (ht : DP.underlying t = some (.int .i64)) (h : DataW.trod enc DP w base spare held n t cs' = some y) :
    ∃ a : Int, True ∧ cs'.length = 1 ∧ ∀ (r : Nat) (p : PV) (u : Value), (intE.f a).cells[r]? = some p → cs'[r]? = some u → PRel O w p u := by
  obtain ⟨s, rfl, _, _⟩ := DataW.trod_int ht h
  refine ⟨s, trivial, rfl, fun r p u hp hu => ?_⟩
  match r with
  | 0 => cases hp; cases hu; exact .v _
  | r + 1 => simp [intE, PV.cells] at hp

theorem in_bytes (hO : ∀ k, ¬ O k) {t e : TypeId} (ht : DP.underlying t = some (.slice e)) (he : DP.underlying e = some (.int .u8)) (hc : DP.cellsOf e = 1) {fuel : Nat} {v : Value} {x : DataW H × List MemPlace} (h : DataW.trod enc DP w base spare held fuel t [v] = some x) :
    ∃ L : List UInt8, (∀ a ∈ L, True) ∧ PRel O w (.ls (L.map byteE.f)) v := open_list hO ht byteE.elt (by decide) hc (fun n cs' y hy => in_u8 n cs' y he hy) h

theorem in_ints (hO : ∀ k, ¬ O k) {t e : TypeId} (ht : DP.underlying t = some (.slice e)) (he : DP.underlying e = some (.int .i64)) (hc : DP.cellsOf e = 1) {fuel : Nat} {v : Value} {x : DataW H × List MemPlace} (h : DataW.trod enc DP w base spare held fuel t [v] = some x) :
    ∃ L : List Int, (∀ a ∈ L, True) ∧ PRel O w (.ls (L.map intE.f)) v := open_list hO ht intE.elt (by decide) hc (fun n cs' y hy => in_i64 n cs' y he hy) h

theorem in_intss (hO : ∀ k, ¬ O k) {t e i : TypeId} (ht : DP.underlying t = some (.slice e)) (he : DP.underlying e = some (.slice i)) (hi : DP.underlying i = some (.int .i64)) (hce : DP.cellsOf e = 1) (hci : DP.cellsOf i = 1) {fuel : Nat} {v : Value} {x : DataW H × List MemPlace}
    (h : DataW.trod enc DP w base spare held fuel t [v] = some x) : ∃ L : List (List Int), (∀ a ∈ L, True) ∧ PRel O w (.ls (L.map ilsE.f)) v :=
  open_list hO ht ilsE.elt (by decide) hce (fun n cs' y hy => by
    obtain ⟨v', rfl⟩ : ∃ v', cs' = [v'] := by
      rcases Deep.open_slice he hy with ⟨h1, _⟩ | ⟨a, len, cap, _, _, _, _, h1, _⟩
      · exact ⟨_, h1⟩
      · exact ⟨_, h1⟩
    obtain ⟨L, _, hp0⟩ := in_ints hO he hi hci hy
    refine ⟨L, trivial, rfl, fun r p u hp hu => ?_⟩
    match r with
    | 0 => cases hu; change some (PV.ls (L.map intE.f)) = some p at hp; cases hp; exact hp0
    | r + 1 => simp [ilsE, PV.cells] at hp) h
end

theorem glob0 (W : World) : GlobW W := fun g hg => absurd rfl hg

end Go.Ax
