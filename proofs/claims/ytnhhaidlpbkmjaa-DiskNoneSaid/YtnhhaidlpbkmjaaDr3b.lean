/- 'tailracelaw04.DiskNone': whatever the input, it returns true, and the input reads as it did. No conditions. -/
import Derived.Test.YtnhhaidlpbkmjaaDr3a
import Derived.Test.YtnhhaidlpbkmjaaDrF
import Derived.Test.YtnhhaidlpbkmjaaRows
set_option linter.unusedVariables false
set_option linter.unusedSimpArgs false
set_option linter.unusedSectionVars false
namespace Go.Proofs.Ytnhhaidlpbkmjaa.DiskNoneDone
open Go.ChangeShapes Go.WideShapes Go.ChangeAt Go.RowKit Go.Ax

theorem own : ownKnob Try.prog.godebug = none := by kernel_rfl
theorem laidOut : laidOutB Try.prog = true := by kernel_rfl

theorem walk {W : World} {v0 v1 : Value} {a : List UInt8} {b : List UInt8} {q : Bool} (h0 : PRel (Own noF [] (fun _ => none)) W (.ls (a.map byteE.f)) v0) (h1 : PRel (Own noF [] (fun _ => none)) W (.ls (b.map byteE.f)) v1) :
    Calls Try.prog 5 #[v0, v1, .bool q] W fun e w' => e = .returned (.bool true) ∧ Below W.heap.size W w' := by
  have hA : ArgsRel noF [] (fun _ => none) W [vl (a.map byteE.f), vl (b.map byteE.f), vb q] [v0, v1, .bool q] := by
    refine ⟨rfl, fun j p u hp hu => ?_⟩
    match j with
    | 0 => cases hp; cases hu; exact .p _ _ h0
    | 1 => cases hp; cases hu; exact .p _ _ h1
    | 2 => cases hp; cases hu; exact .p _ _ (.v _)
    | j + 3 => simp at hp
  have := calls_of SNone heNone (relG_eq (R := RNone) (fun _ _ _ ⟨_, _, _, _, e1⟩ ⟨_, _, _, _, e2⟩ => e1.trans e2.symm) ⟨a, b, q, rfl, rfl⟩) hA (glob0 W)
  refine this.mono fun e w' hp => ?_
  obtain ⟨v, ρ, rfl, hb, hv⟩ := hp
  rw [hv.val]
  exact ⟨rfl, hb⟩

set_option maxRecDepth 100000 in
theorem lifted (os : Os) (started : os.Started) (H : Type) (enc : TypeId × Value → H) :
    ReturnsInHanded {} Try.checked os 5 .any (Rows.diskNoneSpec.pre6 enc Try.prog Try.f5 Rows.diskNoneRow.domain false) (Rows.diskNoneSpec.post enc Try.prog Try.f5 false true false false) := by
  refine returnsInHanded_of_change (C := Try.checked) own started (by kernel_rfl) Try.func5
    (ChangeSpec.witness6 (enc := enc) (C := Try.checked) false ⟨#[], #[.slice none 0 0, .slice none 0 0, .bool false], []⟩ 8 (by kernel_rfl) (by kernel_rfl) (by kernel_rfl) (by kernel_rfl)) ?_
  intro W base args ds gs before hval0 hW hcnd _
  have hval : ∀ (j : Nat) t v, Try.f5.params[j]? = some t → args[j]? = some v → Value.okWide Try.prog W .any base t v := hval0
  have hW' := hW
  obtain ⟨p, q, hA0, hV, rfl, hfz, hnd⟩ := hW
  have hA : DataW.TrodAll enc Try.prog W 0 (fun _ => true) true Try.f5.params.toList args.toList ds p := hA0
  rw [Try.params5] at hA hval
  obtain ⟨v0, vs0, d0, ds0, p0, q0, hargs, rfl, rfl, h0, r0⟩ := trodAll_cons hA
  obtain ⟨v1, vs1, d1, ds1, p1, q1, rfl, rfl, rfl, h1, r1⟩ := trodAll_cons r0
  obtain ⟨v2, vs2, d2, ds2, p2, q2, rfl, rfl, rfl, h2, r2⟩ := trodAll_cons r1
  obtain ⟨rfl, rfl, rfl⟩ := trodAll_nil r2
  obtain rfl : args = #[v0, v1, v2] := by cases args; simp_all
  obtain ⟨rfl, rfl⟩ := trodVars_none hV
  have k0 := h0
  have lt0 : ∀ x ∈ p0, x.block < W.heap.size := by obtain ⟨m, hm⟩ := k0; exact DataW.trod_lt m _ _ _ hm
  obtain ⟨a, _, w0⟩ : ∃ L : List UInt8, (∀ a ∈ L, True) ∧ PRel (Own noF [] (fun _ => none)) W (.ls (L.map byteE.f)) v0 := by
    obtain ⟨fuel, hf⟩ := h0
    obtain ⟨a0, len0, cap0, rfl⟩ := okWide_slice Try.underlying22 (hval 0 22 v0 rfl rfl)
    exact in_bytes (fun k => not_own) Try.underlying22 Try.underlying5 (by kernel_rfl) hf
  have k1 := h1
  have lt1 : ∀ x ∈ p1, x.block < W.heap.size := by obtain ⟨m, hm⟩ := k1; exact DataW.trod_lt m _ _ _ hm
  obtain ⟨b, _, w1⟩ : ∃ L : List UInt8, (∀ a ∈ L, True) ∧ PRel (Own noF [] (fun _ => none)) W (.ls (L.map byteE.f)) v1 := by
    obtain ⟨fuel, hf⟩ := h1
    obtain ⟨a0, len0, cap0, rfl⟩ := okWide_slice Try.underlying22 (hval 1 22 v1 rfl rfl)
    exact in_bytes (fun k => not_own) Try.underlying22 Try.underlying5 (by kernel_rfl) hf
  obtain ⟨q, rfl, rfl, rfl⟩ := open_bool Try.underlying4 (hval 2 4 v2 rfl rfl) h2
  clear hA0 hval0
  refine (walk w0 w1).mono fun e W' ⟨he, bel⟩ => ?_
  subst he
  exact ⟨_, rfl, _, _, _, [], _, [], hW', trodAll_mk1 (shut_bool Try.underlying4 _), (trodAll_cons_mk (Below.trod laidOut (by kernel_rfl) (of_decide_eq_true (by kernel_rfl)) k0 bel lt0) (trodAll_cons_mk (Below.trod laidOut (by kernel_rfl) (of_decide_eq_true (by kernel_rfl)) k1 bel lt1) (trodAll_cons_mk (shut_bool Try.underlying4 _) trodAll_mk0))), rfl, bel.frame _, fun h => by cases h⟩

theorem over : Rows.diskNoneRow.holds Try.pinned (OpenSpec.ofChange Rows.diskNoneSpec) :=
  OpenClaim.holds_of_wide 5 Try.f5 rfl rfl rfl rfl rfl rfl rfl ⟨rfl, rfl, rfl, rfl, rfl⟩ rfl rfl rfl rfl rfl (by kernel_rfl) Try.func5 (by kernel_rfl)
    (of_decide_eq_true (by kernel_rfl)) (by unfold Func.isWrapper; first | (rw [if_pos (by decide +kernel)]; kernel_rfl) | (rw [if_neg (by decide +kernel)]; exact ⟨rfl, rfl⟩))
    (fun os started H enc _ => lifted os started H enc)

end Go.Proofs.Ytnhhaidlpbkmjaa.DiskNoneDone

namespace Go.Proofs.Ytnhhaidlpbkmjaa
/-- THE STATEMENT. -/
theorem diskNone_proved : Rows.DiskNoneSaid := DiskNoneDone.over
end Go.Proofs.Ytnhhaidlpbkmjaa
#print axioms Go.Proofs.Ytnhhaidlpbkmjaa.diskNone_proved
