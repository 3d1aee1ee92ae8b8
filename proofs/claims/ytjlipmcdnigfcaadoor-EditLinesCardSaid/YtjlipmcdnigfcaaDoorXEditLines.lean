/- 'tailracelaw15.EditLines': whatever the input, it returns true, and the input reads as it did; the listed package-level variables read as the program's text lays them, which the card ties. No other conditions. -/
import Derived.Test.YtjlipmcdnigfcaaDoorG43
import Derived.Test.YtjlipmcdnigfcaaDoorG42
import Derived.Test.YtjlipmcdnigfcaaDoorRows
import Derived.Test.YtjlipmcdnigfcaaDoorTie
import Derived.Test.YtjlipmcdnigfcaaDoorCards
set_option linter.unusedVariables false
set_option linter.unusedSimpArgs false
set_option linter.unusedSectionVars false
namespace Go.Proofs.YtjlipmcdnigfcaaDoor.EditLinesDone
open Go.ChangeShapes Go.WideShapes Go.ChangeAt Go.RowKit Go.Ax

theorem own : ownKnob Tryd.prog.godebug = none := by kernel_rfl
theorem laidOut : laidOutB Tryd.prog = true := by kernel_rfl

theorem walk {W : World} (hG : GlobW W) {v0 : Value} {list : List Edt} (h0 : PRel (Own noF [] (fun _ => none)) W (.ls (list.map edtE.f)) v0) (c0_q : ∀ a ∈ list, a.fits) :
    Calls Tryd.prog 11 #[v0] W fun e w' => e = .returned (.bool true) ∧ Below W.heap.size W w' := by
  have hA : ArgsRel noF [] (fun _ => none) W [vl (list.map edtE.f)] [v0] := by
    refine ⟨rfl, fun j p u hp hu => ?_⟩
    match j with
    | 0 => cases hp; cases hu; exact .p _ _ h0
    | j + 1 => simp at hp
  have := calls_of SEditLines heEditLines (relG_eq (R := REditLines) (fun _ _ _ ⟨_, _, _, e1⟩ ⟨_, _, _, e2⟩ => e1.trans e2.symm) ⟨list, c0_q, rfl, rfl⟩) hA hG
  refine this.mono fun e w' hp => ?_
  obtain ⟨v, ρ, rfl, hb, hv⟩ := hp
  rw [hv.val]
  exact ⟨rfl, hb⟩

set_option maxRecDepth 100000 in
theorem lifted (os : Os) (started : os.Started) (H : Type) (enc : TypeId × Value → H) :
    ReturnsInHanded {} Tryd.checked os 11 .any (fun w args => (Rows.editLinesSpec.pre enc Tryd.prog Tryd.f11 [] false w args ∧ laidMetH Tryd.prog laid4 w) ∧ sizedMet enc Tryd.prog Tryd.f11 (OpenSpec.ofChange Rows.editLinesSpec) false w args)
      (Rows.editLinesSpec.post enc Tryd.prog Tryd.f11 false true false false) := by
  refine returnsInHanded_of_change_and (C := Tryd.checked) (X := fun w _ => laidMetH Tryd.prog laid4 w) (fun _ _ _ hh h => h.of_heap hh) own started (by kernel_rfl) Tryd.func11
    (ChangeSpec.witness_shaped (enc := enc) (C := Tryd.checked) (os := os) (X := fun w _ => laidMetH Tryd.prog laid4 w) false (World.doorLaid Tryd.prog 67 os) #[.slice none 0 0] 8 rfl (World.shaped_of_RefB (by kernel_rfl) (by kernel_rfl)) (by kernel_rfl) (by kernel_rfl) (by kernel_rfl) (door4 os _)) ?_
  intro W base args ds gs before hval0 hW _ _ hL _
  have hval : ∀ (j : Nat) t v, Tryd.f11.params[j]? = some t → args[j]? = some v → Value.okWide Tryd.prog W .any base t v := hval0
  have hW' := hW
  obtain ⟨p, q, hA0, hV, rfl, hfz, hnd⟩ := hW
  have hA : DataW.TrodAll enc Tryd.prog W 0 (fun _ => true) true Tryd.f11.params.toList args.toList ds p := hA0
  rw [Tryd.params11] at hA hval
  obtain ⟨v0, vs0, d0, ds0, p0, q0, hargs, rfl, rfl, h0, r0⟩ := trodAll_cons hA
  obtain ⟨rfl, rfl, rfl⟩ := trodAll_nil r0
  obtain rfl : args = #[v0] := by cases args; simp_all
  obtain ⟨rfl, rfl⟩ := trodVars_none hV
  have k0 := h0
  have lt0 : ∀ x ∈ p0, x.block < W.heap.size := by obtain ⟨m, hm⟩ := k0; exact DataW.trod_lt m _ _ _ hm
  obtain ⟨list, b0_q, w0⟩ : ∃ L : List Edt, (∀ a ∈ L, a.fits) ∧ PRel (Own noF [] (fun _ => none)) W (.ls (L.map edtE.f)) v0 := by
    obtain ⟨fuel, hf⟩ := h0
    obtain ⟨a0, len0, cap0, rfl⟩ := okWide_slice Tryd.underlying72 (hval 0 72 v0 rfl rfl)
    exact in_edts (fun k => not_own) hf
  clear hA0 hval0
  refine (walk (globW_of hL) w0 b0_q).mono fun e W' ⟨he, bel⟩ => ?_
  subst he
  exact ⟨_, rfl, _, _, _, [], _, [], hW', trodAll_mk1 (shut_bool Tryd.underlying4 _), (trodAll_cons_mk (Below.trod laidOut (by kernel_rfl) (of_decide_eq_true (by kernel_rfl)) k0 bel lt0) trodAll_mk0), rfl, bel.frame _, fun h => by cases h⟩

theorem over : Rows.EditLinesSaid :=
  OpenClaim.holds_of_wide 11 Tryd.f11 rfl rfl rfl rfl rfl rfl rfl ⟨rfl, rfl, rfl, rfl, rfl⟩ rfl rfl rfl rfl rfl (by kernel_rfl) Tryd.func11 (by kernel_rfl)
    (of_decide_eq_true (by kernel_rfl)) (by unfold Func.isWrapper; first | (rw [if_pos (by decide +kernel)]; kernel_rfl) | (rw [if_neg (by decide +kernel)]; exact ⟨rfl, rfl⟩))
    (fun os started H enc _ => lifted os started H enc)

theorem card : Rows.EditLinesCardSaid :=
  Claim7.holds_tied_plain_at .later [] [.data, .data, .data, .data] true (true, "00eeecb4770416f0cfd2f971d1dd7db7c9c6ed34b0b6b2427047353777c942e0") true
    over (fun _ h => by cases h) (by kernel_rfl) (fun _ h => by cases h) editLines_row_tie rfl ⟨rfl, rfl⟩ (by kernel_rfl) rfl
    (fun f fn hf hfn => by
      obtain rfl : f = 11 := Option.some.inj ((show Tryd.prog.funcNamed "tailrace/tailracelaw15.EditLines" = some 11 by kernel_rfl).symm.trans hf) |>.symm
      obtain rfl : fn = Tryd.f11 := (Option.some.inj (Tryd.func11.symm.trans hfn)).symm
      exact ⟨by kernel_rfl, fun j t ht => by
        rw [Tryd.params11] at ht
        have hm : t ∈ [72] := by simpa using Array.mem_of_getElem? ht
        have hall : ([72].all fun u => !Tryd.prog.wantsStandIn u) = true := by kernel_rfl
        exact (show Tryd.prog.wantsStandIn t = false by simpa using List.all_eq_true.1 hall t hm)⟩)
    (by kernel_rfl)

end Go.Proofs.YtjlipmcdnigfcaaDoor.EditLinesDone

namespace Go.Proofs.YtjlipmcdnigfcaaDoor
/-- THE STATEMENT. -/
theorem editLines_proved : Rows.EditLinesCardSaid := EditLinesDone.card
end Go.Proofs.YtjlipmcdnigfcaaDoor
#print axioms Go.Proofs.YtjlipmcdnigfcaaDoor.editLines_proved
