/- 'tailracelaw14.CursorLives': whatever the input, it returns true, and the input reads as it did; the listed package-level variables read as the program's text lays them, which the card ties. No other conditions. -/
import Derived.Test.YtddkloofiknjdaaDoorG20
import Derived.Test.YtddkloofiknjdaaDoorRows
import Derived.Test.YtddkloofiknjdaaDoorTie
import Derived.Test.YtddkloofiknjdaaDoorCards
import Derived.ChangeMaps5
set_option linter.unusedVariables false
set_option linter.unusedSimpArgs false
set_option linter.unusedSectionVars false
namespace Go.Proofs.YtddkloofiknjdaaDoor.CursorLivesDone
open Go.ChangeShapes Go.WideShapes Go.ChangeMaps Go.ChangeAt Go.RowKit Go.Ax

theorem own : ownKnob Tryd.prog.godebug = none := by kernel_rfl
theorem laidOut : laidOutB Tryd.prog = true := by kernel_rfl

theorem walk {W : World} (hG : Uk W) {v0 : Value} {lists : List (List Ent)} {times : Int} {from_ : ByteArray} {to_ : ByteArray} {seq : Int} {most : Int} (h0 : PRel (Own noF [] (fun _ => none)) W (.ls (lists.map CQ.f)) v0) (c0 : ∀ l ∈ lists, ∀ a ∈ l, JE a) (c1 : -(2 ^ 63 : Int) ≤ times ∧ times < 2 ^ 63) (c4 : 0 ≤ seq ∧ seq < 18446744073709551616) (c5 : -(2 ^ 63 : Int) ≤ most ∧ most < 2 ^ 63) :
    Calls Tryd.prog 5 #[v0, .int .i64 times, .string from_, .string to_, .int .u64 seq, .int .i64 most] W fun e w' => e = .returned (.bool true) ∧ Below W.heap.size W w' := by
  have hA : ArgsRel noF [] (fun _ => none) W [vl (lists.map CQ.f), vi times, vs from_, vs to_, vn .u64 seq, vi most] [v0, .int .i64 times, .string from_, .string to_, .int .u64 seq, .int .i64 most] := by
    refine ⟨rfl, fun j p u hp hu => ?_⟩
    match j with
    | 0 => cases hp; cases hu; exact .p _ _ h0
    | 1 => cases hp; cases hu; exact .p _ _ (.v _)
    | 2 => cases hp; cases hu; exact .p _ _ (.v _)
    | 3 => cases hp; cases hu; exact .p _ _ (.v _)
    | 4 => cases hp; cases hu; exact .p _ _ (.v _)
    | 5 => cases hp; cases hu; exact .p _ _ (.v _)
    | j + 6 => simp at hp
  have := iD tF aI (BT (R := g8) (fun _ _ _ ⟨_, _, _, _, _, _, _, _, _, _, _, e1⟩ ⟨_, _, _, _, _, _, _, _, _, _, _, e2⟩ => e1.trans e2.symm) ⟨lists, times, from_, to_, seq, most, c0, c1, c4, c5, rfl, rfl⟩) hA hG
  refine this.mono fun e w' hp => ?_
  obtain ⟨v, ρ, rfl, hb, hv⟩ := hp
  rw [hv.val]
  exact ⟨rfl, hb⟩

set_option maxRecDepth 100000 in
theorem lifted (os : Os) (started : os.Started) (H : Type) (enc : TypeId × Value → H) :
    ReturnsInHanded {} Tryd.checked os 5 .any (fun w args => (Rows.cursorLivesSpec.pre enc Tryd.prog Tryd.f5 [] false w args ∧ laidMetH Tryd.prog Rl w) ∧ sizedMet enc Tryd.prog Tryd.f5 (OpenSpec.ofChange Rows.cursorLivesSpec) false w args)
      (Rows.cursorLivesSpec.post enc Tryd.prog Tryd.f5 false true false false) := by
  refine returnsInHanded_of_change_and (C := Tryd.checked) (X := fun w _ => laidMetH Tryd.prog Rl w) (fun _ _ _ hh h => h.of_heap hh) own started (by kernel_rfl) Tryd.func5
    (ChangeSpec.witness_shaped (enc := enc) (C := Tryd.checked) (os := os) (X := fun w _ => laidMetH Tryd.prog Rl w) false (World.doorLaid Tryd.prog 17 os) #[.slice none 0 0, .int .i64 0, .string .empty, .string .empty, .int .u64 0, .int .i64 0] 8 rfl (World.shaped_of_RefB (by kernel_rfl) (by kernel_rfl)) (by kernel_rfl) (by kernel_rfl) (by kernel_rfl) (vO os _)) ?_
  intro W base args ds gs before hval0 hW _ _ hL _
  have hval : ∀ (j : Nat) t v, Tryd.f5.params[j]? = some t → args[j]? = some v → Value.okWide Tryd.prog W .any base t v := hval0
  have hW' := hW
  obtain ⟨p, q, hA0, hV, rfl, hfz, hnd⟩ := hW
  have hA : DataW.TrodAll enc Tryd.prog W 0 (fun _ => true) true Tryd.f5.params.toList args.toList ds p := hA0
  rw [Tryd.params5] at hA hval
  obtain ⟨v0, vs0, d0, ds0, p0, q0, hargs, rfl, rfl, h0, r0⟩ := trodAll_cons hA
  obtain ⟨v1, vs1, d1, ds1, p1, q1, rfl, rfl, rfl, h1, r1⟩ := trodAll_cons r0
  obtain ⟨v2, vs2, d2, ds2, p2, q2, rfl, rfl, rfl, h2, r2⟩ := trodAll_cons r1
  obtain ⟨v3, vs3, d3, ds3, p3, q3, rfl, rfl, rfl, h3, r3⟩ := trodAll_cons r2
  obtain ⟨v4, vs4, d4, ds4, p4, q4, rfl, rfl, rfl, h4, r4⟩ := trodAll_cons r3
  obtain ⟨v5, vs5, d5, ds5, p5, q5, rfl, rfl, rfl, h5, r5⟩ := trodAll_cons r4
  obtain ⟨rfl, rfl, rfl⟩ := trodAll_nil r5
  obtain rfl : args = #[v0, v1, v2, v3, v4, v5] := by cases args; simp_all
  obtain ⟨rfl, rfl⟩ := trodVars_none hV
  have k0 := h0
  have lt0 : ∀ x ∈ p0, x.block < W.heap.size := by obtain ⟨m, hm⟩ := k0; exact DataW.trod_lt m _ _ _ hm
  obtain ⟨lists, b0, w0⟩ : ∃ L : List (List Ent), (∀ l ∈ L, ∀ a ∈ l, JE a) ∧ PRel (Own noF [] (fun _ => none)) W (.ls (L.map CQ.f)) v0 := by
    obtain ⟨fuel, hf⟩ := h0
    obtain ⟨a0, len0, cap0, rfl⟩ := okWide_slice Tryd.underlying25 (hval 0 25 v0 rfl rfl)
    exact kp (fun k => SM) hf
  obtain ⟨times, rfl, rfl, rfl, wf1⟩ := open_int Tryd.underlying3 (hval 1 3 v1 rfl rfl) h1
  have b1 := fw wf1
  obtain ⟨from_, rfl, rfl, rfl, wf2⟩ := open_string Tryd.underlying9 (hval 2 9 v2 rfl rfl) h2
  obtain ⟨to_, rfl, rfl, rfl, wf3⟩ := open_string Tryd.underlying9 (hval 3 9 v3 rfl rfl) h3
  obtain ⟨seq, rfl, rfl, rfl, wf4⟩ := open_int Tryd.underlying28 (hval 4 28 v4 rfl rfl) h4
  have b4 := fx wf4
  obtain ⟨most, rfl, rfl, rfl, wf5⟩ := open_int Tryd.underlying3 (hval 5 3 v5 rfl rfl) h5
  have b5 := fw wf5
  clear hA0 hval0
  refine (walk (kO hL) w0 b0 b1 b4 b5).mono fun e W' ⟨he, bel⟩ => ?_
  subst he
  exact ⟨_, rfl, _, _, _, [], _, [], hW', trodAll_mk1 (shut_bool Tryd.underlying4 _), (trodAll_cons_mk (Below.trod laidOut (by kernel_rfl) (of_decide_eq_true (by kernel_rfl)) k0 bel lt0) (trodAll_cons_mk (shut_int Tryd.underlying3 wf1) (trodAll_cons_mk (shut_string Tryd.underlying9 wf2) (trodAll_cons_mk (shut_string Tryd.underlying9 wf3) (trodAll_cons_mk (shut_int Tryd.underlying28 wf4) (trodAll_cons_mk (shut_int Tryd.underlying3 wf5) trodAll_mk0)))))), rfl, bel.frame _, fun h => by cases h⟩

theorem over : Rows.CursorLivesSaid :=
  OpenClaim.holds_of_wide 5 Tryd.f5 rfl rfl rfl rfl rfl rfl rfl ⟨rfl, rfl, rfl, rfl, rfl⟩ rfl rfl rfl rfl rfl (by kernel_rfl) Tryd.func5 (by kernel_rfl)
    (of_decide_eq_true (by kernel_rfl)) (by unfold Func.isWrapper; first | (rw [if_pos (by decide +kernel)]; kernel_rfl) | (rw [if_neg (by decide +kernel)]; exact ⟨rfl, rfl⟩))
    (fun os started H enc _ => lifted os started H enc)

theorem card : Rows.CursorLivesCardSaid :=
  Claim7.holds_tied_plain_at .later [] [.data] true (true, "b88aacb67c8ac28bcde4b207a573aea6dab2597f614dad3d5ff2fd08b6c13a68") false
    over (fun _ h => by cases h) (by kernel_rfl) (fun _ h => by cases h) cursorLives_row_tie rfl ⟨rfl, rfl⟩ (by kernel_rfl) rfl
    (fun f fn hf hfn => by
      obtain rfl : f = 5 := Option.some.inj ((show Tryd.prog.funcNamed "tailrace/tailracelaw14.CursorLives" = some 5 by kernel_rfl).symm.trans hf) |>.symm
      obtain rfl : fn = Tryd.f5 := (Option.some.inj (Tryd.func5.symm.trans hfn)).symm
      exact ⟨by kernel_rfl, fun j t ht => by
        rw [Tryd.params5] at ht
        have hm : t ∈ [25, 3, 9, 9, 28, 3] := by simpa using Array.mem_of_getElem? ht
        have hall : ([25, 3, 9, 9, 28, 3].all fun u => !Tryd.prog.wantsStandIn u) = true := by kernel_rfl
        exact (show Tryd.prog.wantsStandIn t = false by simpa using List.all_eq_true.1 hall t hm)⟩)
    (by kernel_rfl)

end Go.Proofs.YtddkloofiknjdaaDoor.CursorLivesDone

namespace Go.Proofs.YtddkloofiknjdaaDoor
/-- THE STATEMENT. -/
theorem cursorLives_proved : Rows.CursorLivesCardSaid := CursorLivesDone.card
end Go.Proofs.YtddkloofiknjdaaDoor
#print axioms Go.Proofs.YtddkloofiknjdaaDoor.cursorLives_proved
