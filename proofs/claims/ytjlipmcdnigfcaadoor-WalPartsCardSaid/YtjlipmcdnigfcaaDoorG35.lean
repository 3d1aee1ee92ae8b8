/- What the listed variables read as, for the walks; what comes in: lists of lists of texts. -/
import Derived.Test.YtjlipmcdnigfcaaDoorG32
import Derived.Test.YtjlipmcdnigfcaaDoorTie
import Derived.Test.YtjlipmcdnigfcaaDoorG12
import Derived.OpenShut
import Derived.WalkKit
import Derived.ProofKit
import Derived.LaidMore
import Derived.LaidLaws
import Derived.LaidHandle
import Derived.Lib.LaidTab
import Derived.Stop.Joined
set_option linter.unusedVariables false
set_option linter.unusedSimpArgs false
set_option linter.unusedSectionVars false
namespace Go.Ax
open Go.Proofs Go.ChangeShapes Go.WideShapes Go.ChangeAt Go.RowKit
set_option maxRecDepth 100000

theorem tabRel {W : World} {g : Nat} {us : Array Value} {e : TypeId} {fr : Nat × Nat} (hh : W.heap[g]? = some (.cells us e fr)) (hu : us.toList.map PV.v = Glob.tab g) : ∀ ρ, GRel noF [] ρ W g := fun ρ => by
  have hl : (Glob.tab g).length = us.toList.length := by rw [← hu]; simp
  refine ⟨.rp _ ⟨g, 0, none⟩ us.toList rfl not_own (Array.getElem?_eq_some_iff.1 hh).1 hl (fun j u hj => ?_) (fun j p u hp hv => ?_), us, e, fr, hh, by rw [hl]; simp⟩
  · rw [Addr.add_lit, Nat.zero_add, cell_of hh]
    simpa using hj
  · rw [← hu, List.getElem?_map, hv] at hp
    cases hp
    exact .v _

theorem var_block {P : Program} {W : World} {n : String} {g : Nat} {cs : Array Value} (hg : P.globalNamed n = some g) (h : W.var? P n = some cs) : ∃ e fr, W.heap[g]? = some (.cells cs e fr) := by
  unfold World.var? at h
  rw [hg, Option.bind_some] at h
  split at h
  · rename_i cs' e fr hc
    cases h
    exact ⟨e, fr, hc⟩
  · cases h

abbrev laid4 : List (String × DataW Unit) := [("math/bits.deBruijn32tab", YtjlipmcdnigfcaaDoor.Rows.laid_math_bits_deBruijn32tab), ("math/bits.deBruijn64tab", YtjlipmcdnigfcaaDoor.Rows.laid_math_bits_deBruijn64tab), ("internal/strconv.uint64pow10", YtjlipmcdnigfcaaDoor.Rows.laid_internal_strconv_uint64pow10), ("tailrace/crc.halves", YtjlipmcdnigfcaaDoor.Rows.laid_tailrace_crc_halves)]

theorem gHalves : DP.globalNamed "tailrace/crc.halves" = some 0 := by kernel_rfl
theorem gPow : DP.globalNamed "internal/strconv.uint64pow10" = some 3 := by kernel_rfl
theorem tHalves : (DP.globals[0]?).map (·.type) = some 169 := by kernel_rfl

theorem tPow : (DP.globals[3]?).map (·.type) = some 188 := by kernel_rfl

theorem globW_of {W : World} (h : laidMetH DP laid4 W) : GlobW W := by
  rw [MakeChecks.laidMetH_plain _ _ _ (by kernel_rfl)] at h
  obtain ⟨ps, ⟨g0, t0, cs0, f0, p0, q0, hg0, ht0, hv0, hd0, ⟨g1, t1, cs1, f1, p1, q1, hg1, ht1, hv1, hd1, ⟨g2, t2, cs2, f2, p2, q2, hg2, ht2, hv2, hd2, ⟨g3, t3, cs3, f3, p3, q3, hg3, ht3, hv3, hd3, _, _⟩, _⟩, _⟩, _⟩, _, _⟩ := h
  obtain rfl := Option.some.inj (gPow.symm.trans hg2)
  obtain rfl := Option.some.inj (gHalves.symm.trans hg3)
  obtain rfl := Option.some.inj (tPow.symm.trans ht2)
  obtain rfl := Option.some.inj (tHalves.symm.trans ht3)
  have c2 := Lib.cells_of_tab (k := .u64) (zs := Lib.pow10Tab) (n := 20) (e := 46) (by kernel_rfl) (by kernel_rfl) (by kernel_rfl) (by kernel_rfl) hd2
  have c3 := Lib.cells_of_tab (k := .u32) (zs := halvesL) (n := 16) (e := 137) (by kernel_rfl) (by kernel_rfl) (by kernel_rfl) (by kernel_rfl) hd3
  obtain ⟨e2, r2, b2⟩ := var_block hg2 hv2
  obtain ⟨e3, r3, b3⟩ := var_block hg3 hv3
  intro g hg
  match g with
  | 0 => exact tabRel b3 (by rw [c3]; rfl)
  | 3 => exact tabRel b2 (by rw [c2]; rfl)
  | 1 => exact absurd rfl hg
  | 2 => exact absurd rfl hg
  | g + 4 => exact absurd rfl hg

/-- The heap that the program's own start leaves meets the condition. -/
theorem door4 (os : Os) (args : Array Value) : laidMetH DP laid4 ((World.doorLaid DP 67 os).forCall (fun _ _ => 0) ⟨#[], args, []⟩).memory :=
  laidMetH_of_parts3 (fuel := 8) (laidMet_of_run' 8 (by kernel_rfl) (by kernel_rfl)) (by kernel_rfl) (by kernel_rfl)

section
variable {H : Type} {enc : TypeId × Value → H} {w : World} {base : Nat} {spare : Nat → Bool} {held : Bool} {O : Nat → Prop}
theorem in_u8 (n : Nat) (cs' : List Value) (y : DataW H × List MemPlace) {t : TypeId} (ht : DP.underlying t = some (.int .u8)) (h : DataW.trod enc DP w base spare held n t cs' = some y) :
    ∃ a : UInt8, True ∧ cs'.length = 1 ∧ ∀ (r : Nat) (p : PV) (u : Value), (byteE.f a).cells[r]? = some p → cs'[r]? = some u → PRel O w p u := by
  obtain ⟨s, rfl, _, hw⟩ := DataW.trod_int ht h
  have hb : 0 ≤ s ∧ s < 256 := by
    simp only [Lit.wf, Bool.and_eq_true, decide_eq_true_eq] at hw
    have h1 : IntKind.u8.min = 0 := by decide
    have h2 : IntKind.u8.max = 255 := by decide
    omega
  refine ⟨UInt8.ofNat s.toNat, trivial, rfl, fun r p u hp hu => ?_⟩
  match r with
  | 0 =>
    cases hu
    have : ((UInt8.ofNat s.toNat).toNat : Int) = s := by
      rw [UInt8.toNat_ofNat']
      omega
    change some (PV.v (.int .u8 ((UInt8.ofNat s.toNat).toNat : Int))) = some p at hp
    rw [this] at hp
    cases hp
    exact .v _
  | r + 1 => simp [byteE, PV.cells] at hp
theorem in_str (n : Nat) (cs' : List Value) (y : DataW H × List MemPlace) {t : TypeId} (ht : DP.underlying t = some .string) (h : DataW.trod enc DP w base spare held n t cs' = some y) :
    ∃ a : ByteArray, True ∧ cs'.length = 1 ∧ ∀ (r : Nat) (p : PV) (u : Value), (nameE.f a).cells[r]? = some p → cs'[r]? = some u → PRel O w p u := by
  obtain ⟨s, rfl, _, _⟩ := DataW.trod_string ht h
  refine ⟨s, trivial, rfl, fun r p u hp hu => ?_⟩
  match r with
  | 0 => cases hp; cases hu; exact .v _
  | r + 1 => simp [nameE, PV.cells] at hp
theorem in_bytes (hO : ∀ k, ¬ O k) {fuel : Nat} {v : Value} {x : DataW H × List MemPlace} (h : DataW.trod enc DP w base spare held fuel 65 [v] = some x) :
    ∃ L : List UInt8, (∀ a ∈ L, True) ∧ PRel O w (.ls (L.map byteE.f)) v := open_list hO (Tryd.underlying65) byteE.elt (by decide) (by kernel_rfl) (fun n cs' y hy => in_u8 n cs' y Tryd.underlying5 hy) h
theorem in_strs (hO : ∀ k, ¬ O k) {fuel : Nat} {v : Value} {x : DataW H × List MemPlace} (h : DataW.trod enc DP w base spare held fuel 27 [v] = some x) :
    ∃ L : List ByteArray, (∀ a ∈ L, True) ∧ PRel O w (.ls (L.map nameE.f)) v := open_list hO (Tryd.underlying27) nameE.elt (by decide) (by kernel_rfl) (fun n cs' y hy => in_str n cs' y Tryd.underlying9 hy) h
theorem in_strss (hO : ∀ k, ¬ O k) {fuel : Nat} {v : Value} {x : DataW H × List MemPlace} (h : DataW.trod enc DP w base spare held fuel 22 [v] = some x) :
    ∃ L : List (List ByteArray), (∀ a ∈ L, True) ∧ PRel O w (.ls (L.map namesE.f)) v :=
  open_list hO (Tryd.underlying22) namesE.elt (by decide) (by kernel_rfl) (fun n cs' y hy => by
    obtain ⟨v', rfl⟩ : ∃ v', cs' = [v'] := by
      rcases Deep.open_slice Tryd.underlying27 hy with ⟨h1, _⟩ | ⟨a, len, cap, _, _, _, _, h1, _⟩
      · exact ⟨_, h1⟩
      · exact ⟨_, h1⟩
    obtain ⟨L, _, hp0⟩ := in_strs hO hy
    refine ⟨L, trivial, rfl, fun r p u hp hu => ?_⟩
    match r with
    | 0 => cases hu; change some (PV.ls (L.map nameE.f)) = some p at hp; cases hp; exact hp0
    | r + 1 => simp [namesE, PV.cells] at hp) h
end
end Go.Ax
