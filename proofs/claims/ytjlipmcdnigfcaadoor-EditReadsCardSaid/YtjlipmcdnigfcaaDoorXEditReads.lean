/- 'tailracelaw15.EditReads': whatever the input, it returns true, and the input reads as it did; the listed package-level variables read as the program's text lays them, which the card ties. No other conditions. -/
import Derived.Test.YtjlipmcdnigfcaaDoorG42
import Derived.Test.YtjlipmcdnigfcaaDoorRows
import Derived.Test.YtjlipmcdnigfcaaDoorTie
import Derived.Test.YtjlipmcdnigfcaaDoorCards
set_option linter.unusedVariables false
set_option linter.unusedSimpArgs false
set_option linter.unusedSectionVars false
namespace Go.Proofs.YtjlipmcdnigfcaaDoor.EditReadsDone
open Go.ChangeShapes Go.WideShapes Go.ChangeAt Go.RowKit Go.Ax

theorem own : ownKnob Tryd.prog.godebug = none := by kernel_rfl
theorem laidOut : laidOutB Tryd.prog = true := by kernel_rfl

theorem walk {W : World} (hG : GlobW W) {v0 : Value} {b : List UInt8} (h0 : PRel (Own noF [] (fun _ => none)) W (.ls (b.map byteE.f)) v0) :
    Calls Tryd.prog 10 #[v0] W fun e w' => e = .returned (.bool true) ∧ Below W.heap.size W w' := by
  have hA : ArgsRel noF [] (fun _ => none) W [vl (b.map byteE.f)] [v0] := by
    refine ⟨rfl, fun j p u hp hu => ?_⟩
    match j with
    | 0 => cases hp; cases hu; exact .p _ _ h0
    | j + 1 => simp at hp
  have := calls_of SEditReads heEditReads (relG_eq (R := REditReads) (fun _ _ _ ⟨_, _, e1⟩ ⟨_, _, e2⟩ => e1.trans e2.symm) ⟨b, rfl, rfl⟩) hA hG
  refine this.mono fun e w' hp => ?_
  obtain ⟨v, ρ, rfl, hb, hv⟩ := hp
  rw [hv.val]
  exact ⟨rfl, hb⟩

set_option maxRecDepth 100000 in
theorem lifted (os : Os) (started : os.Started) (H : Type) (enc : TypeId × Value → H) :
    ReturnsInHanded {} Tryd.checked os 10 .any (fun w args => (Rows.editReadsSpec.pre enc Tryd.prog Tryd.f10 [] false w args ∧ laidMetH Tryd.prog laid4 w) ∧ sizedMet enc Tryd.prog Tryd.f10 (OpenSpec.ofChange Rows.editReadsSpec) false w args)
      (Rows.editReadsSpec.post enc Tryd.prog Tryd.f10 false true false false) := by
  refine returnsInHanded_of_change_and (C := Tryd.checked) (X := fun w _ => laidMetH Tryd.prog laid4 w) (fun _ _ _ hh h => h.of_heap hh) own started (by kernel_rfl) Tryd.func10
    (ChangeSpec.witness_shaped (enc := enc) (C := Tryd.checked) (os := os) (X := fun w _ => laidMetH Tryd.prog laid4 w) false (World.doorLaid Tryd.prog 67 os) #[.slice none 0 0] 8 rfl (World.shaped_of_RefB (by kernel_rfl) (by kernel_rfl)) (by kernel_rfl) (by kernel_rfl) (by kernel_rfl) (door4 os _)) ?_
  intro W base args ds gs before hval0 hW _ _ hL _
  have hval : ∀ (j : Nat) t v, Tryd.f10.params[j]? = some t → args[j]? = some v → Value.okWide Tryd.prog W .any base t v := hval0
  have hW' := hW
  obtain ⟨p, q, hA0, hV, rfl, hfz, hnd⟩ := hW
  have hA : DataW.TrodAll enc Tryd.prog W 0 (fun _ => true) true Tryd.f10.params.toList args.toList ds p := hA0
  rw [Tryd.params10] at hA hval
  obtain ⟨v0, vs0, d0, ds0, p0, q0, hargs, rfl, rfl, h0, r0⟩ := trodAll_cons hA
  obtain ⟨rfl, rfl, rfl⟩ := trodAll_nil r0
  obtain rfl : args = #[v0] := by cases args; simp_all
  obtain ⟨rfl, rfl⟩ := trodVars_none hV
  have k0 := h0
  have lt0 : ∀ x ∈ p0, x.block < W.heap.size := by obtain ⟨m, hm⟩ := k0; exact DataW.trod_lt m _ _ _ hm
  obtain ⟨b, _, w0⟩ : ∃ L : List UInt8, (∀ a ∈ L, True) ∧ PRel (Own noF [] (fun _ => none)) W (.ls (L.map byteE.f)) v0 := by
    obtain ⟨fuel, hf⟩ := h0
    obtain ⟨a0, len0, cap0, rfl⟩ := okWide_slice Tryd.underlying65 (hval 0 65 v0 rfl rfl)
    exact in_bytes (fun k => not_own) hf
  clear hA0 hval0
  refine (walk (globW_of hL) w0).mono fun e W' ⟨he, bel⟩ => ?_
  subst he
  exact ⟨_, rfl, _, _, _, [], _, [], hW', trodAll_mk1 (shut_bool Tryd.underlying4 _), (trodAll_cons_mk (Below.trod laidOut (by kernel_rfl) (of_decide_eq_true (by kernel_rfl)) k0 bel lt0) trodAll_mk0), rfl, bel.frame _, fun h => by cases h⟩

theorem over : Rows.EditReadsSaid :=
  OpenClaim.holds_of_wide 10 Tryd.f10 rfl rfl rfl rfl rfl rfl rfl ⟨rfl, rfl, rfl, rfl, rfl⟩ rfl rfl rfl rfl rfl (by kernel_rfl) Tryd.func10 (by kernel_rfl)
    (of_decide_eq_true (by kernel_rfl)) (by unfold Func.isWrapper; first | (rw [if_pos (by decide +kernel)]; kernel_rfl) | (rw [if_neg (by decide +kernel)]; exact ⟨rfl, rfl⟩))
    (fun os started H enc _ => lifted os started H enc)

theorem card : Rows.EditReadsCardSaid :=
  Claim7.holds_tied_plain_at .later [] [.data, .data, .data, .data] true (true, "00eeecb4770416f0cfd2f971d1dd7db7c9c6ed34b0b6b2427047353777c942e0") true
    over (fun _ h => by cases h) (by kernel_rfl) (fun _ h => by cases h) editReads_row_tie rfl ⟨rfl, rfl⟩ (by kernel_rfl) rfl
    (fun f fn hf hfn => by
      obtain rfl : f = 10 := Option.some.inj ((show Tryd.prog.funcNamed "tailrace/tailracelaw15.EditReads" = some 10 by kernel_rfl).symm.trans hf) |>.symm
      obtain rfl : fn = Tryd.f10 := (Option.some.inj (Tryd.func10.symm.trans hfn)).symm
      exact ⟨by kernel_rfl, fun j t ht => by
        rw [Tryd.params10] at ht
        have hm : t ∈ [65] := by simpa using Array.mem_of_getElem? ht
        have hall : ([65].all fun u => !Tryd.prog.wantsStandIn u) = true := by kernel_rfl
        exact (show Tryd.prog.wantsStandIn t = false by simpa using List.all_eq_true.1 hall t hm)⟩)
    (by kernel_rfl)

end Go.Proofs.YtjlipmcdnigfcaaDoor.EditReadsDone

namespace Go.Proofs.YtjlipmcdnigfcaaDoor
/-- THE STATEMENT. -/
theorem editReads_proved : Rows.EditReadsCardSaid := EditReadsDone.card
end Go.Proofs.YtjlipmcdnigfcaaDoor
#print axioms Go.Proofs.YtjlipmcdnigfcaaDoor.editReads_proved
