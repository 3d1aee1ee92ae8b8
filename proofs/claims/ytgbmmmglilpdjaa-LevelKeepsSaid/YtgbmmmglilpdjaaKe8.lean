/- 'tailracelaw16.LevelKeeps': whatever the input, it returns true, and the input reads as it did. No conditions. -/
import Derived.Test.YtgbmmmglilpdjaaKe7
import Derived.Test.YtgbmmmglilpdjaaAx21
import Derived.Test.YtgbmmmglilpdjaaRows
import Derived.OpenShut
import Derived.WalkKit
import Derived.ProofKit
set_option linter.unusedVariables false
set_option linter.unusedSimpArgs false
namespace Go.Proofs.Ytgbmmmglilpdjaa.LevelKeepsDone
open Go.ChangeShapes Go.WideShapes Go.ChangeAt Go.RowKit Go.Ax

theorem own : ownKnob Try.prog.godebug = none := by kernel_rfl
theorem laidOut : laidOutB Try.prog = true := by kernel_rfl

/-- An entry that is read. -/
theorem open_ent {H : Type} {enc : TypeId × Value → H} {w : World} {base : Nat} {spare : Nat → Bool} {held : Bool} {O : Nat → Prop} (n : Nat) (cs' : List Value) (y : DataW H × List MemPlace) (h : DataW.trod enc Try.prog w base spare held n 30 cs' = some y) :
    ∃ a : Ent, True ∧ cs'.length = 4 ∧ ∀ (r : Nat) (p : PV) (u : Value), (a.pv).cells[r]? = some p → cs'[r]? = some u → PRel O w p u := by
  obtain ⟨y0, y1, y2, y3, n, _, hl, h0, h1, h2, h3⟩ := Go.Joins.trod_struct4 Try.underlying30 h
  have hc : Try.prog.cellsOf 30 = 4 := by kernel_rfl
  have c9 : Try.prog.cellsOf 9 = 1 := by kernel_rfl
  have c28 : Try.prog.cellsOf 28 = 1 := by kernel_rfl
  have c4 : Try.prog.cellsOf 4 = 1 := by kernel_rfl
  rw [hc] at hl
  simp only [c9, c28, c4] at h0 h1 h2 h3
  match cs', hl with
  | [v0, v1, v2, v3], _ =>
    obtain ⟨k, e0, _, _⟩ := DataW.trod_string Try.underlying9 h0
    obtain ⟨s, e1, _, _⟩ := DataW.trod_int Try.underlying28 h1
    obtain ⟨d, e2, _⟩ := DataW.trod_bool Try.underlying4 h2
    obtain ⟨v, e3, _, _⟩ := DataW.trod_string Try.underlying9 h3
    simp at e0 e1 e2 e3
    subst e0 e1 e2 e3
    refine ⟨⟨k, s, d, v⟩, trivial, rfl, fun r p u hp hu => ?_⟩
    match r with
    | 0 => cases hp; cases hu; exact .v _
    | 1 => cases hp; cases hu; exact .v _
    | 2 => cases hp; cases hu; exact .v _
    | 3 => cases hp; cases hu; exact .v _
    | r + 4 => simp [Ent.pv, Ent.cs, PV.cells] at hp

/-- A number that is read. -/
theorem open_u64 {H : Type} {enc : TypeId × Value → H} {w : World} {base : Nat} {spare : Nat → Bool} {held : Bool} {O : Nat → Prop} (n : Nat) (cs' : List Value) (y : DataW H × List MemPlace) (h : DataW.trod enc Try.prog w base spare held n 28 cs' = some y) :
    ∃ a : Int, True ∧ cs'.length = 1 ∧ ∀ (r : Nat) (p : PV) (u : Value), (intP a).cells[r]? = some p → cs'[r]? = some u → PRel O w p u := by
  obtain ⟨s, rfl, _, _⟩ := DataW.trod_int Try.underlying28 h
  refine ⟨s, trivial, rfl, fun r p u hp hu => ?_⟩
  match r with
  | 0 => cases hp; cases hu; exact .v _
  | r + 1 => simp [intP, PV.cells] at hp

theorem walk {W : World} {v0 v1 v2 : Value} {b : Bool} {es us : List Ent} {S : List Int} (h0 : PRel (Own noF [] (fun _ => none)) W (.ls (ents es)) v0) (h1 : PRel (Own noF [] (fun _ => none)) W (.ls (ents us)) v1) (h2 : PRel (Own noF [] (fun _ => none)) W (.ls (ints S)) v2) :
    Calls Try.prog 3 #[v0, v1, v2, .bool b] W fun e w' => e = .returned (.bool true) ∧ Below W.heap.size W w' := by
  have hA : ArgsRel noF [] (fun _ => none) W [vl (ents es), vl (ents us), vl (ints S), vb b] [v0, v1, v2, .bool b] := by
    refine ⟨rfl, fun j p u hp hu => ?_⟩
    match j with
    | 0 => cases hp; cases hu; exact .p _ _ h0
    | 1 => cases hp; cases hu; exact .p _ _ h1
    | 2 => cases hp; cases hu; exact .p _ _ h2
    | 3 => cases hp; cases hu; exact .p _ _ (.v _)
    | j + 4 => simp at hp
  have := calls_of sound3 (by kernel_rfl) (relG_eq R3_det ⟨es, us, S, b, rfl, rfl⟩) hA
  refine this.mono fun e w' hp => ?_
  obtain ⟨v, ρ, rfl, hb, hv⟩ := hp
  rw [hv.val]
  exact ⟨rfl, hb⟩

set_option maxRecDepth 100000 in
theorem lifted (os : Os) (started : os.Started) (H : Type) (enc : TypeId × Value → H) :
    ReturnsInHanded {} Try.checked os 3 .any (Rows.levelKeepsSpec.pre6 enc Try.prog Try.f3 Rows.levelKeepsRow.domain false) (Rows.levelKeepsSpec.post enc Try.prog Try.f3 false true false false) := by
  refine returnsInHanded_of_change (C := Try.checked) own started (by kernel_rfl) Try.func3
    (ChangeSpec.witness6 (enc := enc) (C := Try.checked) false ⟨#[], #[.slice none 0 0, .slice none 0 0, .slice none 0 0, .bool false], []⟩ 8 (by kernel_rfl) (by kernel_rfl) (by kernel_rfl) (by kernel_rfl)) ?_
  intro W base args ds gs before hval0 hW hcnd _
  have hval : ∀ (j : Nat) t v, Try.f3.params[j]? = some t → args[j]? = some v → Value.okWide Try.prog W .any base t v := hval0
  have hW' := hW
  obtain ⟨p, q, hA0, hV, rfl, hfz, hnd⟩ := hW
  have hA : DataW.TrodAll enc Try.prog W 0 (fun _ => true) true Try.f3.params.toList args.toList ds p := hA0
  rw [Try.params3] at hA hval
  obtain ⟨v0, vs0, d0, ds0, p0, q0, hargs, rfl, rfl, h0, r0⟩ := trodAll_cons hA
  obtain ⟨v1, vs1, d1, ds1, p1, q1, rfl, rfl, rfl, h1, r1⟩ := trodAll_cons r0
  obtain ⟨v2, vs2, d2, ds2, p2, q2, rfl, rfl, rfl, h2, r2⟩ := trodAll_cons r1
  obtain ⟨v3, vs3, d3, ds3, p3, q3, rfl, rfl, rfl, h3, r3⟩ := trodAll_cons r2
  obtain ⟨rfl, rfl, rfl⟩ := trodAll_nil r3
  obtain rfl : args = #[v0, v1, v2, v3] := by cases args; simp_all
  obtain ⟨rfl, rfl⟩ := trodVars_none hV
  obtain ⟨a0, len0, cap0, rfl⟩ := okWide_slice Try.underlying22 (hval 0 22 v0 rfl rfl)
  obtain ⟨a1, len1, cap1, rfl⟩ := okWide_slice Try.underlying22 (hval 1 22 v1 rfl rfl)
  obtain ⟨a2, len2, cap2, rfl⟩ := okWide_slice Try.underlying23 (hval 2 23 v2 rfl rfl)
  have k0 := h0
  have k1 := h1
  have k2 := h2
  have lt0 : ∀ x ∈ p0, x.block < W.heap.size := by obtain ⟨m, hm⟩ := k0; exact DataW.trod_lt m _ _ _ hm
  have lt1 : ∀ x ∈ p1, x.block < W.heap.size := by obtain ⟨m, hm⟩ := k1; exact DataW.trod_lt m _ _ _ hm
  have lt2 : ∀ x ∈ p2, x.block < W.heap.size := by obtain ⟨m, hm⟩ := k2; exact DataW.trod_lt m _ _ _ hm
  obtain ⟨es, _, w0⟩ : ∃ L : List Ent, (∀ a ∈ L, True) ∧ PRel (Own noF [] (fun _ => none)) W (.ls (L.map Ent.pv)) (.slice a0 len0 cap0) := by
    obtain ⟨fuel, hf⟩ := h0
    exact open_list (fun k => not_own) Try.underlying22 eltEnt (by decide) (by kernel_rfl) (fun n cs' y hy => open_ent n cs' y hy) hf
  obtain ⟨us, _, w1⟩ : ∃ L : List Ent, (∀ a ∈ L, True) ∧ PRel (Own noF [] (fun _ => none)) W (.ls (L.map Ent.pv)) (.slice a1 len1 cap1) := by
    obtain ⟨fuel, hf⟩ := h1
    exact open_list (fun k => not_own) Try.underlying22 eltEnt (by decide) (by kernel_rfl) (fun n cs' y hy => open_ent n cs' y hy) hf
  obtain ⟨S, _, w2⟩ : ∃ L : List Int, (∀ a ∈ L, True) ∧ PRel (Own noF [] (fun _ => none)) W (.ls (L.map intP)) (.slice a2 len2 cap2) := by
    obtain ⟨fuel, hf⟩ := h2
    exact open_list (fun k => not_own) Try.underlying23 eltInt (by decide) (by kernel_rfl) (fun n cs' y hy => open_u64 n cs' y hy) hf
  obtain ⟨b3, rfl, rfl, rfl⟩ := open_bool Try.underlying4 (hval 3 4 v3 rfl rfl) h3
  clear hA0 hval0
  refine (walk w0 w1 w2).mono fun e W' ⟨he, bel⟩ => ?_
  subst he
  exact ⟨_, rfl, _, _, _, [], _, [], hW', trodAll_mk1 (shut_bool Try.underlying4 _), (trodAll_cons_mk (Below.trod laidOut (by kernel_rfl) (of_decide_eq_true (by kernel_rfl)) k0 bel lt0) (trodAll_cons_mk (Below.trod laidOut (by kernel_rfl) (of_decide_eq_true (by kernel_rfl)) k1 bel lt1) (trodAll_cons_mk (Below.trod laidOut (by kernel_rfl) (of_decide_eq_true (by kernel_rfl)) k2 bel lt2) (trodAll_cons_mk (shut_bool Try.underlying4 _) trodAll_mk0)))), rfl, bel.frame _, fun h => by cases h⟩

theorem over : Rows.levelKeepsRow.holds Try.pinned (OpenSpec.ofChange Rows.levelKeepsSpec) :=
  OpenClaim.holds_of_wide 3 Try.f3 rfl rfl rfl rfl rfl rfl rfl ⟨rfl, rfl, rfl, rfl, rfl⟩ rfl rfl rfl rfl rfl (by kernel_rfl) Try.func3 (by kernel_rfl)
    (of_decide_eq_true (by kernel_rfl)) (by unfold Func.isWrapper; first | (rw [if_pos (by decide +kernel)]; kernel_rfl) | (rw [if_neg (by decide +kernel)]; exact ⟨rfl, rfl⟩))
    (fun os started H enc _ => lifted os started H enc)

end Go.Proofs.Ytgbmmmglilpdjaa.LevelKeepsDone

namespace Go.Proofs.Ytgbmmmglilpdjaa
/-- THE STATEMENT. -/
theorem levelKeeps_proved : Rows.LevelKeepsSaid := LevelKeepsDone.over
end Go.Proofs.Ytgbmmmglilpdjaa
#print axioms Go.Proofs.Ytgbmmmglilpdjaa.levelKeeps_proved
