/- A disk in memory: a new one. -/
import Derived.Test.YtnhhaidlpbkmjaaDk6
set_option linter.unusedVariables false
set_option linter.unusedSimpArgs false
set_option linter.unusedSectionVars false
namespace Go.Ax
open Go.RowKit
section
variable [Glob] {F : Nat → Prop}

theorem disk_new {ρ ρ2 : Loc} {w w' : World} {D : Dsk} (hI : Inv F [headC D, .obj [] (mapP [] [])] ρ2 w') (hE : Ext F [] ρ w [headC D, .obj [] (mapP [] [])] ρ2 w') (hf : D.files = []) :
    ∃ k o ρ3, ρ2 0 = some (k, 0) ∧ ρ3 0 = some (k, o) ∧ Inv F [.obj [] (diskP D)] ρ3 w' ∧ Ext F [] ρ w [.obj [] (diskP D)] ρ3 w' := by
  obtain ⟨k, hk⟩ : ∃ k, ρ2 0 = some (k, 0) := by
    rcases hI.box 0 _ _ _ rfl with ⟨_, h, _⟩ | ⟨k2, o2, us, e, fr, q1, _⟩
    · cases h
    · have := hI.off0 0 _ _ _ _ rfl q1
      subst this
      exact ⟨k2, q1⟩
  let S : Nat → Prop := Own noF [headC D, .obj [] (mapP [] [])] ρ2
  have hS : ∀ j, S j → Own F [headC D, .obj [] (mapP [] [])] ρ2 j := fun j hj => hj.elim (fun h => h.elim) .inr
  have hSF : ∀ j, S j → ¬ F j := fun j hj => by
    obtain ⟨b, x, l, h1, h2, h3⟩ := own_congr.1 hj
    exact hI.farx b x l j h1 h2 h3
  have hbit : ∀ j, (codeOf S w'.heap.size).testBit j = true ↔ S j := fun j => (codeOf_bit S _ j).trans ⟨fun h => h.1, fun h => ⟨h, hI.ownlt j (hS j h)⟩⟩
  have hD : DiskAt D (fun j => (codeOf S w'.heap.size).testBit j = true) k w' [] ρ2 :=
    ⟨by rw [hf]; exact .refl _, hI.bare, hk, fun x hx => (nomatch hx), .nil, fun x hx => (nomatch hx), fun j => (hbit j).trans ⟨.inl, fun h => h.elim id (fun ⟨x, hx, _⟩ => (nomatch hx))⟩⟩
  have hO : @Inv noG noF [.obj [] (diskP D)] (fun _ => some (k, codeOf S w'.heap.size)) w' := by
    letI : Glob := noG
    refine @Inv.mk noG noF _ _ w' (fun b row v cs hb => ?_) (fun b row v cs hb => ?_) (fun b cs Φ hb => ?_) (fun b b' x x' l l' j h1 h2 _ _ _ _ => ?_) (fun k hk => hk.elim) (fun _ _ _ _ _ _ _ h => h) (fun g hg => absurd rfl hg) (fun b v cs k o hb => ?_)
    · cases b <;> simp at hb
    · cases b <;> simp at hb
    · cases b with
      | zero => cases hb; exact ⟨k, _, [], rfl, ⟨rfl, [], ρ2, hD⟩, rfl, fun i c u hc => by simp at hc⟩
      | succ b => simp at hb
    · cases b with
      | zero => cases b' with
        | zero => rfl
        | succ b' => simp at h2
      | succ b => simp at h1
    · cases b <;> simp at hb
  have hOo : ∀ j, Own noF [.obj [] (diskP D)] (fun _ => some (k, codeOf S w'.heap.size)) j → S j := fun j hj => by
    obtain ⟨b, x, l, h1, h2, h3⟩ := own_congr.1 hj
    cases b with
    | zero => cases h1; cases h2; exact (hbit j).1 h3
    | succ b => simp at h1
  have hsubF : ∀ j, Own F [.obj [] (diskP D)] (fun _ => some (k, codeOf S w'.heap.size)) j → Own F [headC D, .obj [] (mapP [] [])] ρ2 j := fun j hj => by
    rcases hj with h0 | h0
    · exact .inl h0
    · exact hS j (hOo j (.inr h0))
  refine ⟨k, _, _, hk, rfl, Inv.raise hO (fun y hy => ?_) (fun j hF ho => hSF j (hOo j ho) hF) hI.bound (fun g hg => ?_), ⟨hE.size, hE.os, hE.tape, hE.output, fun j hj ho => ?_, hE.shape, Nat.zero_le _, fun b row v cs hb => absurd hb (by simp), fun b cs Φ hb => absurd hb (by simp), hE.far⟩⟩
  · rcases List.mem_cons.1 hy with rfl | hy
    · exact ⟨rfl, rfl⟩
    · cases hy
  · cases hI.glob g hg with
    | rp cs a us h1 h2 h3 h4 h5 h6 =>
      exact .rp _ _ us h1 (fun h => h2 (hsubF _ h)) h3 h4 h5 (fun j p u hp hu => (h6 j p u hp hu).mono (fun k _ ho => ⟨rfl, fun h => ho (hsubF _ h)⟩) (Nat.le_refl _))
  · obtain ⟨g1, g2⟩ := hE.keep j hj ho
    exact ⟨g1, fun h => g2 (hsubF j h)⟩

variable {P : Program}

/-- A new disk is answered: as an object. -/
theorem SoundR.newD {f : Nat} {R : RSpec} (h : SoundR P f R) : SoundR P f (fun args B r B' => ∃ D : Dsk, D.files = [] ∧ R args [] (.ptr 0 0 0) [headC D, .obj [] (mapP [] [])] ∧ B = [] ∧ r = .op 0 ∧ B' = [.obj [] (diskP D)]) := by
  rintro args B r B' ⟨D, hf, h1, rfl, rfl, rfl⟩ F ρ w us hI hA
  refine (h args [] _ _ h1 F ρ w us hI hA).mono fun e w' hp => ?_
  obtain ⟨x, ρ2, rfl, hI2, hE2, hv⟩ := hp
  obtain ⟨k, o, ρ3, g1, g2, g3, g4⟩ := disk_new hI2 hE2 hf
  refine ⟨x, ρ3, rfl, g3, g4, ?_⟩
  cases hv with
  | ptr _ _ _ a hp0 =>
    obtain ⟨k', o', e1, e2⟩ := (hp0.2 _ _ _ rfl).2 rfl
    rw [g1] at e1
    cases e1
    rw [e2]
    exact .op _ _ ⟨by simp, fun cs Φ hb => ⟨o, g2⟩⟩
end
end Go.Ax

namespace Go.Ax
open Go.RowKit
section
variable [Glob] {P : Program}

/-- A slot, the disk closed and open. -/
inductive SlotO (m n0 : Nat) : AV → AV → Prop
  | u (x : AV) : SlotO m n0 x .u
  | d : SlotO m n0 (.op 0) (.ptr 0 0 0)
  | a (a : AV) : okArg m a = true → SlotO m n0 (a.rv (fun j => 1 + j) fun _ => 0) (a.rv (fun j => n0 + j) fun _ => 0)

/-- A slot, the disk open and closed again. -/
inductive SlotC (Z : List (Nat × Nat × List UInt8)) : AV → AV → Prop
  | u (x : AV) : SlotC Z x .u
  | d : SlotC Z (.ptr 0 0 0) (.op 0)
  | a (y : AV) : y.pl2 = true → y.low Z.length = true → SlotC Z (y.rv (fun j => ((Z[j]?).map (·.1)).getD 0) fun _ => 0) (y.rv (fun j => 1 + j) fun _ => 0)

theorem SlotO.p {m n0 : Nat} (x : PV) : SlotO m n0 (.p x) (.p x) := .a (.p x) rfl
theorem SlotC.p {Z : List (Nat × Nat × List UInt8)} (x : PV) : SlotC Z (.p x) (.p x) := .a (.p x) rfl rfl

theorem Tri.disk {n m0 : Nat} {cd : Code} {s : AS} {K : AE → AS → Prop} {D : Dsk} {X Y : List Fil} {Bx : List (Nat × List UInt8)} {tf : T} (hB : s.B = .obj [] (diskP D) :: rowsB Bx) (hXY : D.files.Perm (X ++ Y))
    (ht : ∀ i, SlotO Bx.length (2 + 2 * X.length) (s.t i) (tf i))
    (h : ∀ hid, hid.map (·.1) = keysOf Y → Tri P n (2 + 2 * X.length + Bx.length) false cd ⟨tf, flatB D X hid ++ rowsB Bx⟩ (fun e s' => ∃ D1 I Z t', Shut (2 + 2 * X.length) Bx hid D1 I Z s'.B ∧ (I.map (·.x) ++ Y).Perm D1.files ∧
      (∀ i, SlotC Z (s'.t i) (t' i)) ∧ K e ⟨t', .obj [] (diskP D1) :: rowsB (zB Z)⟩)) : Tri P n m0 false cd s K := by
  intro F B0 ρ0 w0 h0 ρ w a hR hE Q hQ
  obtain ⟨t, B⟩ := s
  simp only at hB
  subst hB
  obtain ⟨k, o, LY, F', ρ', hY, O⟩ := disk_open hR.inv hXY
  have hl := flatB_length D X (LY.map hidOf)
  have hlen : (flatB D X (LY.map hidOf) ++ rowsB Bx).length = 2 + 2 * X.length + Bx.length := by rw [List.length_append, hl]; simp
  have hRf : Rel F' (flatB D X (LY.map hidOf) ++ rowsB Bx) ρ' w n tf a := by
    refine ⟨O.inv, fun i => ?_, hR.df, hR.size⟩
    have hv := hR.tm i
    have hs := ht i
    simp only at hv hs
    generalize t i = x at hv hs
    generalize tf i = y at hs
    generalize a.tmps.getD i undef = u at hv
    cases hs with
    | u => exact .u _
    | d =>
      cases hv with
      | op _ r0 hp0 =>
        obtain ⟨o2, e2⟩ := hp0.2 _ _ rfl
        rw [O.at0] at e2
        cases e2
        refine .ptr _ _ _ _ ⟨by rw [List.length_append, hl]; omega, fun row v cs hb => ?_⟩
        rw [List.cons_append, List.getElem?_cons_zero] at hb
        cases hb
        exact ⟨Nat.le_refl _, fun _ => ⟨_, 0, O.at0', rfl⟩⟩
    | a a hok =>
      cases a with
      | p x =>
        cases hv with
        | p _ _ hp0 => exact .p _ _ (hp0.mono (fun k _ ho => ⟨rfl, fun h => ho ((O.own k).1 h)⟩) (Nat.le_refl _))
      | rs b v z off len =>
        have hb : b < Bx.length := by simpa [okArg, Nat.blt_eq] using hok
        cases hv with
        | rs _ _ _ _ _ a cap hp0 =>
          refine .rs _ _ _ _ _ a cap ⟨by show 2 + 2 * X.length + b < _; rw [hlen]; omega, hp0.2.1, hp0.2.2.1, fun row v' cs hb' => ?_⟩
          change (flatB D X (LY.map hidOf) ++ rowsB Bx)[2 + 2 * X.length + b]? = _ at hb'
          rw [List.getElem?_append_right (by omega), hl, show 2 + 2 * X.length + b - (2 + 2 * X.length) = b by omega] at hb'
          obtain ⟨q1, q2⟩ := hp0.2.2.2 row v' cs (by show (Box.obj [] (diskP D) :: rowsB Bx)[1 + b]? = _; rw [show 1 + b = b + 1 by omega, List.getElem?_cons_succ]; exact hb')
          refine ⟨q1, fun e => ?_⟩
          show _ ∧ (_ ∨ ∃ k o', ρ' (2 + 2 * X.length + b) = _ ∧ _)
          rw [O.rest b hb]
          exact q2 e
      | _ => cases hok
  refine h (LY.map hidOf) (by rw [List.map_map, ← hY, keysOf, List.map_map]; rfl) F' _ ρ' w hlen ρ' w a hRf (Ext.refl _ _ _) Q (fun e s' a' w' ρ2 hk hR' hE' => ?_)
  obtain ⟨D1, I, Z, t', hS, hf, ht', hK⟩ := hk
  obtain ⟨ρ3, g1, g2, g3⟩ := disk_shut O hR'.inv hE' hS (by rw [hY]; exact hf)
  refine hQ e _ a' w' ρ3 hK ⟨g1, fun i => ?_, hR'.df, hR'.size⟩ (hE.trans g2)
  have hv := hR'.tm i
  have hs := ht' i
  show VRel F _ ρ3 w' (t' i) _
  generalize s'.t i = x at hv hs
  generalize t' i = y at hs
  generalize a'.tmps.getD i undef = u at hv
  cases hs with
  | u => exact .u _
  | d =>
    cases hv with
    | ptr _ _ _ a hp0 =>
      obtain ⟨v0, cs0, e1, _, e3⟩ := hE'.box 0 _ _ _ (by rw [hlen]; omega) hS.h0
      cases e1
      have hroot : ρ2 0 = some (k, 0) := by rw [(e3 rfl).1]; exact O.at0'
      obtain ⟨k', o', q1, q2⟩ := (hp0.2 _ _ _ hS.h0).2 rfl
      rw [hroot] at q1
      cases q1
      rw [q2]
      refine .op _ _ ⟨by simp, fun cs Φ hc => ?_⟩
      obtain ⟨_, _, _, e4⟩ := g2.obj 0 cs Φ (by simp) hc
      rw [O.at0] at e4
      cases h3 : ρ3 0 with
      | none => rw [h3] at e4; cases e4
      | some l =>
        rw [h3] at e4
        simp only [Option.map_some, Option.some.injEq] at e4
        exact ⟨l.2, by rw [← e4]⟩
  | a y hp hlw => exact g3 y u hv hp hlw
end
end Go.Ax
