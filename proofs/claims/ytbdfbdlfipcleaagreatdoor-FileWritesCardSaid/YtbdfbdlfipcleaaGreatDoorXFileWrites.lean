/- 'tailracelaw13.FileWrites': whatever the input, it returns true, and the input reads as it did; the listed package-level variables read as the program's text lays them, which the card ties. No other conditions. -/
import Derived.Test.YtbdfbdlfipcleaaGreatDoorG43
import Derived.Test.YtbdfbdlfipcleaaGreatDoorRows
import Derived.Test.YtbdfbdlfipcleaaGreatDoorTie
import Derived.Test.YtbdfbdlfipcleaaGreatDoorCards
import Derived.ChangeMaps5
set_option linter.unusedVariables false
set_option linter.unusedSimpArgs false
set_option linter.unusedSectionVars false
namespace Go.Proofs.YtbdfbdlfipcleaaGreatDoor.FileWritesDone
open Go.ChangeShapes Go.WideShapes Go.ChangeMaps Go.ChangeAt Go.RowKit Go.Ax

theorem own : ownKnob Tryz.prog.godebug = none := by kernel_rfl
theorem laidOut : laidOutB Tryz.prog = true := by kernel_rfl

theorem walk {W : World} (hG : GlobW W) {v0 : Value} {L : List Ent} {room : Int} {fz : Int} (h0 : PRel (Own noF [] (fun _ => none)) W (.ls (L.map entE.f)) v0) (c0 : ∀ a ∈ L, seqIn a) (c1 : -(2 ^ 63 : Int) ≤ room ∧ room < 2 ^ 63) (c2 : -(2 ^ 63 : Int) ≤ fz ∧ fz < 2 ^ 63) :
    Calls Tryz.prog 3 #[v0, .int .i64 room, .int .i64 fz] W fun e w' => e = .returned (.bool true) ∧ Below W.heap.size W w' := by
  have hA : ArgsRel noF [] (fun _ => none) W [vl (L.map entE.f), vi room, vi fz] [v0, .int .i64 room, .int .i64 fz] := by
    refine ⟨rfl, fun j p u hp hu => ?_⟩
    match j with
    | 0 => cases hp; cases hu; exact .p _ _ h0
    | 1 => cases hp; cases hu; exact .p _ _ (.v _)
    | 2 => cases hp; cases hu; exact .p _ _ (.v _)
    | j + 3 => simp at hp
  have := calls_of SWrites heWrites (relG_eq (R := RWrites) (fun _ _ _ ⟨_, _, _, _, _, _, _, e1⟩ ⟨_, _, _, _, _, _, _, e2⟩ => e1.trans e2.symm) ⟨L, room, fz, c0, c1, c2, rfl, rfl⟩) hA hG
  refine this.mono fun e w' hp => ?_
  obtain ⟨v, ρ, rfl, hb, hv⟩ := hp
  rw [hv.val]
  exact ⟨rfl, hb⟩

set_option maxRecDepth 100000 in
theorem lifted (os : Os) (started : os.Started) (H : Type) (enc : TypeId × Value → H) :
    ReturnsInHanded {} Tryz.checked os 3 .any (fun w args => (Rows.fileWritesSpec.pre enc Tryz.prog Tryz.f3 [] false w args ∧ laidMetH Tryz.prog laid1 w) ∧ sizedMet enc Tryz.prog Tryz.f3 (OpenSpec.ofChange Rows.fileWritesSpec) false w args)
      (Rows.fileWritesSpec.post enc Tryz.prog Tryz.f3 false true false false) := by
  refine returnsInHanded_of_change_and (C := Tryz.checked) (X := fun w _ => laidMetH Tryz.prog laid1 w) (fun _ _ _ hh h => h.of_heap hh) own started (by kernel_rfl) Tryz.func3
    (ChangeSpec.witness_shaped (enc := enc) (C := Tryz.checked) (os := os) (X := fun w _ => laidMetH Tryz.prog laid1 w) false (World.doorLaid Tryz.prog 17 os) #[.slice none 0 0, .int .i64 0, .int .i64 0] 8 rfl (World.shaped_of_RefB (by kernel_rfl) (by kernel_rfl)) (by kernel_rfl) (by kernel_rfl) (by kernel_rfl) (door1 os _)) ?_
  intro W base args ds gs before hval0 hW _ _ hL _
  have hval : ∀ (j : Nat) t v, Tryz.f3.params[j]? = some t → args[j]? = some v → Value.okWide Tryz.prog W .any base t v := hval0
  have hW' := hW
  obtain ⟨p, q, hA0, hV, rfl, hfz, hnd⟩ := hW
  have hA : DataW.TrodAll enc Tryz.prog W 0 (fun _ => true) true Tryz.f3.params.toList args.toList ds p := hA0
  rw [Tryz.params3] at hA hval
  obtain ⟨v0, vs0, d0, ds0, p0, q0, hargs, rfl, rfl, h0, r0⟩ := trodAll_cons hA
  obtain ⟨v1, vs1, d1, ds1, p1, q1, rfl, rfl, rfl, h1, r1⟩ := trodAll_cons r0
  obtain ⟨v2, vs2, d2, ds2, p2, q2, rfl, rfl, rfl, h2, r2⟩ := trodAll_cons r1
  obtain ⟨rfl, rfl, rfl⟩ := trodAll_nil r2
  obtain rfl : args = #[v0, v1, v2] := by cases args; simp_all
  obtain ⟨rfl, rfl⟩ := trodVars_none hV
  have k0 := h0
  have lt0 : ∀ x ∈ p0, x.block < W.heap.size := by obtain ⟨m, hm⟩ := k0; exact DataW.trod_lt m _ _ _ hm
  obtain ⟨L, b0, w0⟩ : ∃ L : List Ent, (∀ a ∈ L, seqIn a) ∧ PRel (Own noF [] (fun _ => none)) W (.ls (L.map entE.f)) v0 := by
    obtain ⟨fuel, hf⟩ := h0
    obtain ⟨a0, len0, cap0, rfl⟩ := okWide_slice Tryz.underlying22 (hval 0 22 v0 rfl rfl)
    exact in_ents (fun k => not_own) hf
  obtain ⟨room, rfl, rfl, rfl, wf1⟩ := open_int Tryz.underlying3 (hval 1 3 v1 rfl rfl) h1
  have b1 := i64_in wf1
  obtain ⟨fz, rfl, rfl, rfl, wf2⟩ := open_int Tryz.underlying3 (hval 2 3 v2 rfl rfl) h2
  have b2 := i64_in wf2
  clear hA0 hval0
  refine (walk (globW_of hL) w0 b0 b1 b2).mono fun e W' ⟨he, bel⟩ => ?_
  subst he
  exact ⟨_, rfl, _, _, _, [], _, [], hW', trodAll_mk1 (shut_bool Tryz.underlying4 _), (trodAll_cons_mk (Below.trod laidOut (by kernel_rfl) (of_decide_eq_true (by kernel_rfl)) k0 bel lt0) (trodAll_cons_mk (shut_int Tryz.underlying3 wf1) (trodAll_cons_mk (shut_int Tryz.underlying3 wf2) trodAll_mk0))), rfl, bel.frame _, fun h => by cases h⟩

theorem over : Rows.FileWritesSaid :=
  OpenClaim.holds_of_wide 3 Tryz.f3 rfl rfl rfl rfl rfl rfl rfl ⟨rfl, rfl, rfl, rfl, rfl⟩ rfl rfl rfl rfl rfl (by kernel_rfl) Tryz.func3 (by kernel_rfl)
    (of_decide_eq_true (by kernel_rfl)) (by unfold Func.isWrapper; first | (rw [if_pos (by decide +kernel)]; kernel_rfl) | (rw [if_neg (by decide +kernel)]; exact ⟨rfl, rfl⟩))
    (fun os started H enc _ => lifted os started H enc)

theorem card : Rows.FileWritesCardSaid :=
  Claim7.holds_tied_plain_at .later [] [.data] true (true, "15e50338d6b1b30523515113fe4b3419cb5ec405833b800d86e43258048ab107") false
    over (fun _ h => by cases h) (by kernel_rfl) (fun _ h => by cases h) fileWrites_row_tie rfl ⟨rfl, rfl⟩ (by kernel_rfl) rfl
    (fun f fn hf hfn => by
      obtain rfl : f = 3 := Option.some.inj ((show Tryz.prog.funcNamed "tailrace/tailracelaw13.FileWrites" = some 3 by kernel_rfl).symm.trans hf) |>.symm
      obtain rfl : fn = Tryz.f3 := (Option.some.inj (Tryz.func3.symm.trans hfn)).symm
      exact ⟨by kernel_rfl, fun j t ht => by
        rw [Tryz.params3] at ht
        have hm : t ∈ [22, 3, 3] := by simpa using Array.mem_of_getElem? ht
        have hall : ([22, 3, 3].all fun u => !Tryz.prog.wantsStandIn u) = true := by kernel_rfl
        exact (show Tryz.prog.wantsStandIn t = false by simpa using List.all_eq_true.1 hall t hm)⟩)
    (by kernel_rfl)

end Go.Proofs.YtbdfbdlfipcleaaGreatDoor.FileWritesDone

namespace Go.Proofs.YtbdfbdlfipcleaaGreatDoor
/-- THE STATEMENT. -/
theorem fileWrites_proved : Rows.FileWritesCardSaid := FileWritesDone.card
end Go.Proofs.YtbdfbdlfipcleaaGreatDoor
#print axioms Go.Proofs.YtbdfbdlfipcleaaGreatDoor.fileWrites_proved
