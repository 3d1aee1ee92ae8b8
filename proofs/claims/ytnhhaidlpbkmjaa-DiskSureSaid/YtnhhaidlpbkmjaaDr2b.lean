/- 'tailracelaw04.DiskSure': whatever the input, it returns true, and the input reads as it did. No conditions. -/
import Derived.Test.YtnhhaidlpbkmjaaDr2a
import Derived.Test.YtnhhaidlpbkmjaaDrF
import Derived.Test.YtnhhaidlpbkmjaaRows
set_option linter.unusedVariables false
set_option linter.unusedSimpArgs false
set_option linter.unusedSectionVars false
namespace Go.Proofs.Ytnhhaidlpbkmjaa.DiskSureDone
open Go.ChangeShapes Go.WideShapes Go.ChangeAt Go.RowKit Go.Ax

theorem own : ownKnob Try.prog.godebug = none := by kernel_rfl
theorem laidOut : laidOutB Try.prog = true := by kernel_rfl

theorem walk {W : World} {v0 v1 v2 : Value} {b more : List UInt8} {keeps : List (List Int)} (h0 : PRel (Own noF [] (fun _ => none)) W (.ls (b.map byteE.f)) v0) (h1 : PRel (Own noF [] (fun _ => none)) W (.ls (more.map byteE.f)) v1) (h2 : PRel (Own noF [] (fun _ => none)) W (.ls (keeps.map ilsE.f)) v2) :
    Calls Try.prog 3 #[v0, v1, v2] W fun e w' => e = .returned (.bool true) ∧ Below W.heap.size W w' := by
  have hA : ArgsRel noF [] (fun _ => none) W [vl (b.map byteE.f), vl (more.map byteE.f), vl (keeps.map ilsE.f)] [v0, v1, v2] := by
    refine ⟨rfl, fun j p u hp hu => ?_⟩
    match j with
    | 0 => cases hp; cases hu; exact .p _ _ h0
    | 1 => cases hp; cases hu; exact .p _ _ h1
    | 2 => cases hp; cases hu; exact .p _ _ h2
    | j + 3 => simp at hp
  have := calls_of SSure heSure (relG_eq (R := RSure) (fun _ _ _ ⟨_, _, _, _, e1⟩ ⟨_, _, _, _, e2⟩ => e1.trans e2.symm) ⟨b, more, keeps, rfl, rfl⟩) hA (glob0 W)
  refine this.mono fun e w' hp => ?_
  obtain ⟨v, ρ, rfl, hb, hv⟩ := hp
  rw [hv.val]
  exact ⟨rfl, hb⟩

set_option maxRecDepth 100000 in
theorem lifted (os : Os) (started : os.Started) (H : Type) (enc : TypeId × Value → H) :
    ReturnsInHanded {} Try.checked os 3 .any (Rows.diskSureSpec.pre6 enc Try.prog Try.f3 Rows.diskSureRow.domain false) (Rows.diskSureSpec.post enc Try.prog Try.f3 false true false false) := by
  refine returnsInHanded_of_change (C := Try.checked) own started (by kernel_rfl) Try.func3
    (ChangeSpec.witness6 (enc := enc) (C := Try.checked) false ⟨#[], #[.slice none 0 0, .slice none 0 0, .slice none 0 0], []⟩ 8 (by kernel_rfl) (by kernel_rfl) (by kernel_rfl) (by kernel_rfl)) ?_
  intro W base args ds gs before hval0 hW hcnd _
  have hval : ∀ (j : Nat) t v, Try.f3.params[j]? = some t → args[j]? = some v → Value.okWide Try.prog W .any base t v := hval0
  have hW' := hW
  obtain ⟨p, q, hA0, hV, rfl, hfz, hnd⟩ := hW
  have hA : DataW.TrodAll enc Try.prog W 0 (fun _ => true) true Try.f3.params.toList args.toList ds p := hA0
  rw [Try.params3] at hA hval
  obtain ⟨v0, vs0, d0, ds0, p0, q0, hargs, rfl, rfl, h0, r0⟩ := trodAll_cons hA
  obtain ⟨v1, vs1, d1, ds1, p1, q1, rfl, rfl, rfl, h1, r1⟩ := trodAll_cons r0
  obtain ⟨v2, vs2, d2, ds2, p2, q2, rfl, rfl, rfl, h2, r2⟩ := trodAll_cons r1
  obtain ⟨rfl, rfl, rfl⟩ := trodAll_nil r2
  obtain rfl : args = #[v0, v1, v2] := by cases args; simp_all
  obtain ⟨rfl, rfl⟩ := trodVars_none hV
  have k0 := h0
  have k1 := h1
  have k2 := h2
  have lt0 : ∀ x ∈ p0, x.block < W.heap.size := by obtain ⟨m, hm⟩ := k0; exact DataW.trod_lt m _ _ _ hm
  have lt1 : ∀ x ∈ p1, x.block < W.heap.size := by obtain ⟨m, hm⟩ := k1; exact DataW.trod_lt m _ _ _ hm
  have lt2 : ∀ x ∈ p2, x.block < W.heap.size := by obtain ⟨m, hm⟩ := k2; exact DataW.trod_lt m _ _ _ hm
  obtain ⟨b, _, w0⟩ : ∃ L : List UInt8, (∀ a ∈ L, True) ∧ PRel (Own noF [] (fun _ => none)) W (.ls (L.map byteE.f)) v0 := by
    obtain ⟨fuel, hf⟩ := h0
    obtain ⟨a0, len0, cap0, rfl⟩ := okWide_slice Try.underlying22 (hval 0 22 v0 rfl rfl)
    exact in_bytes (fun k => not_own) Try.underlying22 Try.underlying5 (by kernel_rfl) hf
  obtain ⟨more, _, w1⟩ : ∃ L : List UInt8, (∀ a ∈ L, True) ∧ PRel (Own noF [] (fun _ => none)) W (.ls (L.map byteE.f)) v1 := by
    obtain ⟨fuel, hf⟩ := h1
    obtain ⟨a0, len0, cap0, rfl⟩ := okWide_slice Try.underlying22 (hval 1 22 v1 rfl rfl)
    exact in_bytes (fun k => not_own) Try.underlying22 Try.underlying5 (by kernel_rfl) hf
  obtain ⟨keeps, _, w2⟩ : ∃ L : List (List Int), (∀ a ∈ L, True) ∧ PRel (Own noF [] (fun _ => none)) W (.ls (L.map ilsE.f)) v2 := by
    obtain ⟨fuel, hf⟩ := h2
    obtain ⟨a0, len0, cap0, rfl⟩ := okWide_slice Try.underlying23 (hval 2 23 v2 rfl rfl)
    exact in_intss (fun k => not_own) Try.underlying23 Try.underlying30 Try.underlying3 (by kernel_rfl) (by kernel_rfl) hf
  clear hA0 hval0
  refine (walk w0 w1 w2).mono fun e W' ⟨he, bel⟩ => ?_
  subst he
  exact ⟨_, rfl, _, _, _, [], _, [], hW', trodAll_mk1 (shut_bool Try.underlying4 _), (trodAll_cons_mk (Below.trod laidOut (by kernel_rfl) (of_decide_eq_true (by kernel_rfl)) k0 bel lt0) (trodAll_cons_mk (Below.trod laidOut (by kernel_rfl) (of_decide_eq_true (by kernel_rfl)) k1 bel lt1) (trodAll_cons_mk (Below.trod laidOut (by kernel_rfl) (of_decide_eq_true (by kernel_rfl)) k2 bel lt2) trodAll_mk0))), rfl, bel.frame _, fun h => by cases h⟩

theorem over : Rows.diskSureRow.holds Try.pinned (OpenSpec.ofChange Rows.diskSureSpec) :=
  OpenClaim.holds_of_wide 3 Try.f3 rfl rfl rfl rfl rfl rfl rfl ⟨rfl, rfl, rfl, rfl, rfl⟩ rfl rfl rfl rfl rfl (by kernel_rfl) Try.func3 (by kernel_rfl)
    (of_decide_eq_true (by kernel_rfl)) (by unfold Func.isWrapper; first | (rw [if_pos (by decide +kernel)]; kernel_rfl) | (rw [if_neg (by decide +kernel)]; exact ⟨rfl, rfl⟩))
    (fun os started H enc _ => lifted os started H enc)

end Go.Proofs.Ytnhhaidlpbkmjaa.DiskSureDone

namespace Go.Proofs.Ytnhhaidlpbkmjaa
/-- THE STATEMENT. -/
theorem diskSure_proved : Rows.DiskSureSaid := DiskSureDone.over
end Go.Proofs.Ytnhhaidlpbkmjaa
#print axioms Go.Proofs.Ytnhhaidlpbkmjaa.diskSure_proved
