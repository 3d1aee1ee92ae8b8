/- Trees, printed by gen/h5.py: Apply and what it calls. -/
import Derived.Test.YtgbmmmglilpdjaaTlg
set_option linter.unusedVariables false
set_option linter.unusedSimpArgs false
namespace Go.Ax
open Go.Proofs Go.RowKit
set_option maxRecDepth 100000

structure Edt where
  add : List Meta
  del : List Int
  log : Int
  next : Int
  seq : Int

/-- The first place of a number in a list. -/
def idxIN (x : Int) : List Int → Nat
  | [] => 0
  | y :: L => if x == y then 0 else idxIN x L + 1
def idxI (L : List Int) (x : Int) : Int := if idxIN x L < L.length then (idxIN x L : Int) else -1

def RI : List AV → AV → Prop := fun args r => ∃ (L : List Int) (x : Int), L.length ≤ 1000000 ∧ args = [vl (L.map intE.f), vi x] ∧ r = vi (idxI L x)
noncomputable def g41 := relG RI
noncomputable def Γ41 : Env := envP [(41, g41)]
noncomputable def T41_l1_e (L : List Int) (x : Int) (s1 : Int) : St := ([(0, vl (L.map intE.f)), (1, vi x), (7, vi (L.length : Int)), (8, vi s1)], [])
noncomputable def T41_l1_x (x1 : Int) : AE × St := (.ret, ([(4, vi x1)], []))
noncomputable def T41_l1_x' (y1 : Unit) : AE × St := ((.exit 0), ([], []))
noncomputable def T41_l1_b (L : List Int) (x : Int) (s1 : Int) : Tree :=
.sp 9 (decide (s1 < (L.length : Int))) (
.elem 14 (L.map intE.f) intE L s1 (fun e1 => .sp 16 (x == e1) (
.leaf ⟨[4], []⟩ [] .ret (some (T41_l1_x s1).2)) (
.int 18 (IntKind.i64.wrap (s1 + 1)) (s1 + 1) (.leaf ⟨[0, 1, 7, 8], []⟩ [] .normal (some (T41_l1_e L x (s1 + 1))))))) (
.leaf ⟨[], []⟩ [] (.exit 0) (some (T41_l1_x' ()).2))
noncomputable def T41 (L : List Int) (x : Int) : Tree :=
.int 7 ((L.map intE.f).length : Int) (L.length : Int) (.loop ⟨[0, 1, 7, 8], []⟩ [] (some (T41_l1_e L x 0)) (T41_l1_e L x) (T41_l1_x) (T41_l1_x') 0 (T41_l1_b L x) (fun (x1 : Int) => .leaf ⟨[0], []⟩ [] .ret (some ([(0, vi x1)], []))) (fun (y1 : Unit) => .leaf ⟨[0], []⟩ [] .ret (some ([(0, vi (-1))], []))))

theorem T41_chk (L : List Int) (x : Int) : fnC LP Γ0 Δ0 Try.f41 [vl (L.map intE.f), vi x] [] (T41 L x) = T41 L x := by kernel_rfl

noncomputable def T34 (L : List Int) (x : Int) : Tree :=
.call 7 (g41 [vl (L.map intE.f), vi x] = some (vi (idxI L x))) (vi (idxI L x)) (.leaf ⟨[0], []⟩ [] .ret (some ([(0, vb (decide ((idxI L x) ≥ (0 : Int))))], [])))

theorem T34_chk (L : List Int) (x : Int) : fnC LP Γ41 Δ0 Try.f34 [vl (L.map intE.f), vi x] [] (T34 L x) = T34 L x := by kernel_rfl

noncomputable def T35 (x : Meta) (y : Meta) : Tree :=
.leaf ⟨[0], []⟩ [] .ret (some ([(0, vi (IntKind.i64.wrap (x.num - y.num)))], []))

theorem T35_chk (x : Meta) (y : Meta) : fnC LP Γ0 Δ0 Try.f35 [(metaE.av x), (metaE.av y)] [] (T35 x y) = T35 x y := by kernel_rfl

end Go.Ax

namespace Go.Ax
open Go.Proofs Go.RowKit
set_option maxRecDepth 100000

theorem fI_inj : ∀ {L M : List Int}, L.map intE.f = M.map intE.f → L = M
  | [], [], _ => rfl
  | [], _ :: _, h => by simp at h
  | _ :: _, [], h => by simp at h
  | x :: L, y :: M, h => by
    simp only [List.map_cons, List.cons.injEq] at h
    have h1 : x = y := by simpa [intE] using h.1
    rw [h1, fI_inj h.2]

theorem idxIN_le (x : Int) : ∀ L : List Int, idxIN x L ≤ L.length
  | [] => Nat.le_refl _
  | y :: L => by
    unfold idxIN
    have := idxIN_le x L
    split <;> simp <;> omega

theorem T41_l1 (L : List Int) (x : Int) (hN : L.length ≤ 1000000) : ∀ (suf pre : List Int), L = pre ++ suf →
    Rounds (T41_l1_e L x) T41_l1_x T41_l1_x' (fun s => (T41_l1_b L x s).wp) (pre.length : Int) (if idxIN x suf < suf.length then .inl ((pre.length + idxIN x suf : Nat) : Int) else .inr ())
  | [], pre, h => by
    have e : L.length = pre.length := by rw [h]; simp
    rw [if_neg (by simp)]
    refine .done' (by simp [T41_l1_x']) ?_
    unfold T41_l1_b
    exact wp_sp (fun h => by have := of_decide_eq_true h; omega) (fun _ => wp_leaf rfl ⟨rfl, rfl⟩)
  | m :: suf, pre, h => by
    have e : L.length = pre.length + (suf.length + 1) := by rw [h]; simp
    have hm : L[Int.toNat (pre.length : Int)]? = some m := by rw [h]; simp
    cases hmi : x == m with
    | true =>
      have : idxIN x (m :: suf) = 0 := by simp only [idxIN, hmi, if_true]
      rw [this, if_pos (by simp)]
      refine .done (by simp [T41_l1_x]) ?_
      unfold T41_l1_b
      exact wp_sp (fun _ => wp_elem m (by omega) hm (wp_sp (fun _ => wp_leaf rfl ⟨rfl, rfl⟩) (fun h => by rw [hmi] at h; cases h))) (fun h => by have := of_decide_eq_false h; omega)
    | false =>
      have hi1 : idxIN x (m :: suf) = idxIN x suf + 1 := by rw [idxIN, hmi]; rfl
      have ih := T41_l1 L x hN suf (pre ++ [m]) (by rw [h]; simp)
      have hlen : (pre ++ [m]).length = pre.length + 1 := by simp
      have hres : (if idxIN x (m :: suf) < (m :: suf).length then (.inl ((pre.length + idxIN x (m :: suf) : Nat) : Int) : Int ⊕ Unit) else .inr ()) = (if idxIN x suf < suf.length then .inl (((pre ++ [m]).length + idxIN x suf : Nat) : Int) else .inr ()) := by
        rw [hi1, hlen, List.length_cons]
        by_cases hh : idxIN x suf < suf.length
        · rw [if_pos (by omega), if_pos hh]; congr 2; omega
        · rw [if_neg (by omega), if_neg hh]
      rw [hres]
      refine .next ?_ ih
      unfold T41_l1_b
      refine wp_sp (fun _ => wp_elem m (by omega) hm (wp_sp (fun h => by rw [hmi] at h; cases h) (fun _ => wp_i64 (by omega) (wp_leaf rfl ⟨rfl, ?_⟩)))) (fun h => by have := of_decide_eq_false h; omega)
      rw [hlen]; rfl

theorem T41_wp (L : List Int) (x : Int) (hN : L.length ≤ 1000000) {K : AE → St → Prop} (h : K .ret ([(0, vi (idxI L x))], [])) : (T41 L x).wp K := by
  have l := T41_l1 L x hN L [] rfl
  unfold idxI at h
  unfold T41
  refine wp_len ?_
  by_cases hh : idxIN x L < L.length
  · rw [if_pos hh] at h l
    rw [show (([] : List Int).length + idxIN x L : Nat) = idxIN x L by simp] at l
    exact wp_loop _ rfl l (wp_leaf rfl h)
  · rw [if_neg hh] at h l
    exact wp_loop' _ rfl l (wp_leaf rfl h)

theorem RI_inj {L M : List Int} {x y : Int} (h : ([vl (L.map intE.f), vi x] : List AV) = [vl (M.map intE.f), vi y]) : L = M ∧ x = y := by
  simp only [List.cons.injEq, and_true] at h
  exact ⟨fI_inj (by simpa using h.1), by simpa using h.2⟩
theorem g41_eq {L : List Int} {x : Int} (hN : L.length ≤ 1000000) : g41 [vl (L.map intE.f), vi x] = some (vi (idxI L x)) := relG_eq (by
  rintro args r r' ⟨L1, x1, _, e1, rfl⟩ ⟨L2, x2, _, e2, rfl⟩
  rw [e1] at e2
  obtain ⟨rfl, rfl⟩ := RI_inj e2
  rfl) ⟨L, x, hN, rfl, rfl⟩
theorem sound41 : SoundF LP 41 (.pure g41) := sound_pureT (Γ := Γ0) (Δ := Δ0) (fn := Try.f41) mixedL Γ0_ok Δ0_ok (by kernel_rfl) (by kernel_rfl) (by kernel_rfl) (by
  rintro args r ⟨L, x, hN, rfl, rfl⟩
  exact ⟨rfl, rfl, _, T41_chk L x, T41_wp L x hN (.p _)⟩)
theorem Γ41_ok : ∀ f, SoundF LP f (Γ41 f) := envP_ok (by simp; exact sound41)

def hasI (L : List Int) (x : Int) : Bool := L.contains x
theorem idx_has (x : Int) : ∀ L : List Int, decide (idxIN x L < L.length) = L.contains x
  | [] => rfl
  | y :: L => by
    have ih := idx_has x L
    rw [List.contains_cons, ← ih]
    cases h : x == y with
    | true => simp [idxIN, h]
    | false =>
      have : idxIN x (y :: L) = idxIN x L + 1 := by rw [idxIN, h]; rfl
      rw [this]
      simp
theorem hasI_eq (L : List Int) (x : Int) : decide (idxI L x ≥ (0 : Int)) = hasI L x := by
  unfold hasI
  rw [← idx_has]
  unfold idxI
  by_cases h : idxIN x L < L.length
  · rw [if_pos h, decide_eq_true h]; exact decide_eq_true (by omega)
  · rw [if_neg h, decide_eq_false h]; rfl
def RH : List AV → AV → Prop := fun args r => ∃ (L : List Int) (x : Int), L.length ≤ 1000000 ∧ args = [vl (L.map intE.f), vi x] ∧ r = vb (hasI L x)
noncomputable def g34 := relG RH
theorem g34_eq {L : List Int} {x : Int} (hN : L.length ≤ 1000000) : g34 [vl (L.map intE.f), vi x] = some (vb (hasI L x)) := relG_eq (by
  rintro args r r' ⟨L1, x1, _, e1, rfl⟩ ⟨L2, x2, _, e2, rfl⟩
  rw [e1] at e2
  obtain ⟨rfl, rfl⟩ := RI_inj e2
  rfl) ⟨L, x, hN, rfl, rfl⟩
theorem T34_wp (L : List Int) (x : Int) (hN : L.length ≤ 1000000) {K : AE → St → Prop} (h : K .ret ([(0, vb (hasI L x))], [])) : (T34 L x).wp K := by
  unfold T34
  rw [← hasI_eq] at h
  exact wp_call (g41_eq hN) (wp_leaf rfl h)
theorem sound34 : SoundF LP 34 (.pure g34) := sound_pureT (Γ := Γ41) (Δ := Δ0) (fn := Try.f34) mixedL Γ41_ok Δ0_ok (by kernel_rfl) (by kernel_rfl) (by kernel_rfl) (by
  rintro args r ⟨L, x, hN, rfl, rfl⟩
  exact ⟨rfl, rfl, _, T34_chk L x, T34_wp L x hN (.p _)⟩)

/-! ### Files by number -/
noncomputable def g35 := relG R31
theorem g35_eq (x y : Meta) : g35 [metaE.av x, metaE.av y] = some (vi (c31 x y)) := g31_eq x y
theorem sound35 : SoundF LP 35 (.pure g35) := sound_pureT (Γ := Γ0) (Δ := Δ0) (fn := Try.f35) mixedL Γ0_ok Δ0_ok (by kernel_rfl) (by kernel_rfl) (by kernel_rfl) (by
  rintro args r ⟨x, y, rfl, rfl⟩
  exact ⟨rfl, rfl, _, T35_chk x y, by unfold T35; exact wp_leaf rfl (.p _)⟩)
noncomputable def Γ35 : Env := envP [(35, g35)]
theorem Γ35_ok : ∀ f, SoundF LP f (Γ35 f) := envP_ok (by simp; exact sound35)
theorem cmp35 : Cmpp Γ35 c31 35 := fun x y L => by
  show ((g35 [metaE.av x, metaE.av y]).map fun r => (r, [metaE.bx 0 L])) = _
  rw [g35_eq]
  rfl

theorem num_ex {L : List Meta} (h : L.length ≤ 1000000) : ∃ L', R32p Γ35 c31 35 [.rs 0 0 5 0 L.length, .fn 35 []] [metaE.bx 0 L] (.tup []) [metaE.bx 0 L'] ∧ L'.Perm L ∧ ∀ Q, Ordr c31 Q → (∀ x ∈ L, Q x) → Sorted c31 L' 0 L.length :=
  S32p cmp35 h
open Classical in
/-- Files as the stable sort by number leaves them. -/
noncomputable def byNum (L : List Meta) : List Meta := if h : L.length ≤ 1000000 then Classical.choose (num_ex h) else L
theorem byNum_spec {L : List Meta} (h : L.length ≤ 1000000) : R32p Γ35 c31 35 [.rs 0 0 5 0 L.length, .fn 35 []] [metaE.bx 0 L] (.tup []) [metaE.bx 0 (byNum L)] ∧ (byNum L).Perm L ∧ ∀ Q, Ordr c31 Q → (∀ x ∈ L, Q x) → Sorted c31 (byNum L) 0 L.length := by
  unfold byNum
  rw [dif_pos h]
  exact Classical.choose_spec (num_ex h)

noncomputable def Γ20 : Env := envP [(34, g34), (15, g15)]
theorem Γ20_ok : ∀ f, SoundF LP f (Γ20 f) := envP_ok (by simp; exact ⟨sound34, sound15⟩)
def Δ20 : REnv := envR [(32, liftR (R32p Γ35 c31 35))]
theorem Δ20_ok : ∀ f, SoundR LP f (Δ20 f) := envR_ok (by simp; exact lift_sound (R32p_ok Γ35_ok c31 35))

end Go.Ax

namespace Go.Ax
open Go.Proofs Go.RowKit
set_option maxRecDepth 100000

noncomputable def T20_j1_e (v : Vers) (e : Edt) (j1 : Int) : St := ([(2, .ptr 0 0 0), (3, .ptr 1 0 0), (4, .ptr 2 0 0), (6, .ptr 3 0 0)], [.cells false 0 ([vl (v.files.map metaE.f), vi v.log, vi v.next, vn .u64 v.seq]), .cells false 0 ([vl (e.add.map metaE.f), vl (e.del.map intE.f), vi e.log, vi e.next, vn .u64 e.seq]), .cells false 0 ([nilS, vi 0, vi 0, vn .u64 0]), .cells false 0 ([nilS, vi j1, vi v.next, vn .u64 v.seq])])
noncomputable def T20_j2_e (v : Vers) (e : Edt) (j1 : Int) (j2 : Int) : St := ([(2, .ptr 0 0 0), (3, .ptr 1 0 0), (4, .ptr 2 0 0), (6, .ptr 3 0 0)], [.cells false 0 ([vl (v.files.map metaE.f), vi v.log, vi v.next, vn .u64 v.seq]), .cells false 0 ([vl (e.add.map metaE.f), vl (e.del.map intE.f), vi e.log, vi e.next, vn .u64 e.seq]), .cells false 0 ([nilS, vi 0, vi 0, vn .u64 0]), .cells false 0 ([nilS, vi j1, vi j2, vn .u64 v.seq])])
noncomputable def T20_j3_e (v : Vers) (e : Edt) (j1 : Int) (j2 : Int) (j3 : Int) : St := ([(2, .ptr 0 0 0), (3, .ptr 1 0 0), (4, .ptr 2 0 0), (6, .ptr 3 0 0)], [.cells false 0 ([vl (v.files.map metaE.f), vi v.log, vi v.next, vn .u64 v.seq]), .cells false 0 ([vl (e.add.map metaE.f), vl (e.del.map intE.f), vi e.log, vi e.next, vn .u64 e.seq]), .cells false 0 ([nilS, vi 0, vi 0, vn .u64 0]), .cells false 0 ([nilS, vi j1, vi j2, vn .u64 j3])])
noncomputable def T20_l4_e (v : Vers) (e : Edt) (j1 : Int) (j2 : Int) (j3 : Int) (s4 : (List Meta) × Int × Int) : St := ([(2, .ptr 0 0 0), (3, .ptr 1 0 0), (4, .ptr 2 0 0), (6, .ptr 3 0 0), (7, vi s4.2.2), (37, vl (v.files.map metaE.f)), (38, vi (v.files.length : Int)), (39, vi s4.2.1)], [.cells false 0 ([vl (v.files.map metaE.f), vi v.log, vi v.next, vn .u64 v.seq]), .cells false 0 ([vl (e.add.map metaE.f), vl (e.del.map intE.f), vi e.log, vi e.next, vn .u64 e.seq]), .cells false 0 ([nilS, vi 0, vi 0, vn .u64 0]), .cells false 0 ([.rs 4 0 5 0 s4.1.length, vi j1, vi j2, vn .u64 j3]), metaE.bx 0 s4.1])
noncomputable def T20_l4_x (v : Vers) (e : Edt) (j1 : Int) (j2 : Int) (j3 : Int) (x4 : Int × (List Meta)) : AE × St := ((.exit 0), ([(2, .ptr 0 0 0), (3, .ptr 1 0 0), (4, .ptr 2 0 0), (6, .ptr 3 0 0), (7, vi x4.1)], [.cells false 0 ([vl (v.files.map metaE.f), vi v.log, vi v.next, vn .u64 v.seq]), .cells false 0 ([vl (e.add.map metaE.f), vl (e.del.map intE.f), vi e.log, vi e.next, vn .u64 e.seq]), .cells false 0 ([nilS, vi 0, vi 0, vn .u64 0]), .cells false 0 ([.rs 4 0 5 0 x4.2.length, vi j1, vi j2, vn .u64 j3]), metaE.bx 0 x4.2]))
noncomputable def T20_l4_b (v : Vers) (e : Edt) (j1 : Int) (j2 : Int) (j3 : Int) (s4 : (List Meta) × Int × Int) : Tree :=
.sp 40 (decide (s4.2.1 < (v.files.length : Int))) (
.elem 41 (v.files.map metaE.f) metaE v.files s4.2.1 (fun e1 => .call 47 (g34 [vl (e.del.map intE.f), vi e1.num] = some (vb (hasI e.del e1.num))) (vb (hasI e.del e1.num)) (.sp 47 (hasI e.del e1.num) (
.int 49 (IntKind.i64.wrap (s4.2.2 + 1)) (s4.2.2 + 1) (.int 56 (IntKind.i64.wrap (s4.2.1 + 1)) (s4.2.1 + 1) (.leaf ⟨[2, 3, 4, 6, 7, 37, 38, 39], [(0, 0, none), (1, 0, none), (2, 0, none), (3, 0, none), (4, 0, some (s4.1.map metaE.f))]⟩ [rowC (s4.1.map metaE.f)] .normal (some (T20_l4_e v e j1 j2 j3 (s4.1, s4.2.1 + 1, s4.2.2 + 1)))))) (
.app 54 (.row 1 ([vi e1.num, vi e1.level, vs e1.low, vs e1.high, vi e1.size])) s4.1.length (rowC (s4.1.map metaE.f)) metaE s4.1 ([e1]) (.int 56 (IntKind.i64.wrap (s4.2.1 + 1)) (s4.2.1 + 1) (.leaf ⟨[2, 3, 4, 6, 7, 37, 38, 39], [(0, 0, none), (1, 0, none), (2, 0, none), (3, 0, none), (4, 1, some ((s4.1 ++ ([e1])).map metaE.f))]⟩ [rowC ((s4.1 ++ ([e1])).map metaE.f)] .normal (some (T20_l4_e v e j1 j2 j3 (s4.1 ++ ([e1]), s4.2.1 + 1, s4.2.2))))))))) (
.leaf ⟨[2, 3, 4, 6, 7], [(0, 0, none), (1, 0, none), (2, 0, none), (3, 0, none), (4, 0, some (s4.1.map metaE.f))]⟩ [rowC (s4.1.map metaE.f)] (.exit 0) (some (T20_l4_x v e j1 j2 j3 (s4.2.2, s4.1)).2))
noncomputable def T20_j5_e (e : Edt) (j1 : Int) (j2 : Int) (j3 : Int) (x4 : Int × (List Meta)) (j5 : Bool) : St := ([(3, .ptr 0 0 0), (4, .ptr 1 0 0), (6, .ptr 2 0 0), (82, vb j5)], [.cells false 0 ([vl (e.add.map metaE.f), vl (e.del.map intE.f), vi e.log, vi e.next, vn .u64 e.seq]), .cells false 0 ([nilS, vi 0, vi 0, vn .u64 0]), .cells false 0 ([.rs 3 0 5 0 x4.2.length, vi j1, vi j2, vn .u64 j3]), metaE.bx 0 x4.2])
noncomputable def T20_j5 (e : Edt) (j1 : Int) (j2 : Int) (j3 : Int) (x4 : Int × (List Meta)) (j5 : Bool) : Tree :=
.br j5 (
.leaf ⟨[0], []⟩ [] .ret (some ([(0, .tup [.agg [nilS, vi 0, vi 0, vn .u64 0], vi 1])], []))) (
.app 88 (.ls (e.add.map metaE.f)) x4.2.length (rowC (x4.2.map metaE.f)) metaE x4.2 e.add (.callx (some 92) (fun (R2 : List Meta) => Δ20 32 [.rs 3 1 5 0 ((x4.2 ++ e.add).length), .fn 35 []] [.cells false 0 ([vl (e.add.map metaE.f), vl (e.del.map intE.f), vi e.log, vi e.next, vn .u64 e.seq]), .cells false 0 ([nilS, vi 0, vi 0, vn .u64 0]), .cells false 0 ([.rs 3 1 5 0 ((x4.2 ++ e.add).length), vi j1, vi j2, vn .u64 j3]), metaE.bx 1 (x4.2 ++ e.add)] (.tup []) [.cells false 0 ([vl (e.add.map metaE.f), vl (e.del.map intE.f), vi e.log, vi e.next, vn .u64 e.seq]), .cells false 0 ([nilS, vi 0, vi 0, vn .u64 0]), .cells false 0 ([.rs 3 1 5 0 ((x4.2 ++ e.add).length), vi j1, vi j2, vn .u64 j3]), metaE.bx 1 R2]) (fun (R2 : List Meta) => .tup []) (fun (R2 : List Meta) => [.cells false 0 ([vl (e.add.map metaE.f), vl (e.del.map intE.f), vi e.log, vi e.next, vn .u64 e.seq]), .cells false 0 ([nilS, vi 0, vi 0, vn .u64 0]), .cells false 0 ([.rs 3 1 5 0 ((x4.2 ++ e.add).length), vi j1, vi j2, vn .u64 j3]), metaE.bx 1 R2]) (fun (R2 : List Meta) => .sealcell 20 2 0 (rowC (R2.map metaE.f)) ((x4.2 ++ e.add).length) metaE R2 (.call 94 (g15 [.agg [vl (R2.map metaE.f), vi j1, vi j2, vn .u64 j3]] = some (vi (Vers.check (⟨R2, j1, j2, j3⟩ : Vers)))) (vi (Vers.check (⟨R2, j1, j2, j3⟩ : Vers))) (.sp 96 ((Vers.check (⟨R2, j1, j2, j3⟩ : Vers)) != (0 : Int)) (
.leaf ⟨[0], []⟩ [] .ret (some ([(0, .tup [.agg [nilS, vi 0, vi 0, vn .u64 0], vi (Vers.check (⟨R2, j1, j2, j3⟩ : Vers))])], []))) (
.leaf ⟨[0], []⟩ [] .ret (some ([(0, .tup [.agg [vl (R2.map metaE.f), vi j1, vi j2, vn .u64 j3], vi 0])], []))))))))
noncomputable def T20_j3 (v : Vers) (e : Edt) (j1 : Int) (j2 : Int) (j3 : Int) : Tree :=
.int 38 ((v.files.map metaE.f).length : Int) (v.files.length : Int) (.nilcell 3 0 5 (.loop ⟨[2, 3, 4, 6, 7, 37, 38, 39], [(0, 0, none), (1, 0, none), (2, 0, none), (3, 0, none), (4, 0, some (([] : List Meta).map metaE.f))]⟩ [rowC (([] : List Meta).map metaE.f)] (some (T20_l4_e v e j1 j2 j3 (([] : List Meta), 0, 0))) (T20_l4_e v e j1 j2 j3) (T20_l4_x v e j1 j2 j3) noX (([] : List Meta), 0, 0) (T20_l4_b v e j1 j2 j3) (fun (x4 : Int × (List Meta)) => .int 60 ((e.del.map intE.f).length : Int) (e.del.length : Int) (.sp 61 (x4.1 != (e.del.length : Int)) (
.join ⟨[3, 4, 6, 82], [(1, 0, none), (2, 0, none), (3, 0, none), (4, 0, some (x4.2.map metaE.f))]⟩ [rowC (x4.2.map metaE.f)] (some (T20_j5_e e j1 j2 j3 x4 true)) (T20_j5_e e j1 j2 j3 x4) true (T20_j5 e j1 j2 j3 x4)) (
.sp 67 (decide (j1 < v.log)) (
.join ⟨[3, 4, 6, 82], [(1, 0, none), (2, 0, none), (3, 0, none), (4, 0, some (x4.2.map metaE.f))]⟩ [rowC (x4.2.map metaE.f)] (some (T20_j5_e e j1 j2 j3 x4 true)) (T20_j5_e e j1 j2 j3 x4) true (T20_j5 e j1 j2 j3 x4)) (
.sp 74 (decide (j2 < v.next)) (
.join ⟨[3, 4, 6, 82], [(1, 0, none), (2, 0, none), (3, 0, none), (4, 0, some (x4.2.map metaE.f))]⟩ [rowC (x4.2.map metaE.f)] (some (T20_j5_e e j1 j2 j3 x4 true)) (T20_j5_e e j1 j2 j3 x4) true (T20_j5 e j1 j2 j3 x4)) (
.sp 81 (decide (j3 < v.seq)) (
.join ⟨[3, 4, 6, 82], [(1, 0, none), (2, 0, none), (3, 0, none), (4, 0, some (x4.2.map metaE.f))]⟩ [rowC (x4.2.map metaE.f)] (some (T20_j5_e e j1 j2 j3 x4 true)) (T20_j5_e e j1 j2 j3 x4) true (T20_j5 e j1 j2 j3 x4)) (
.join ⟨[3, 4, 6, 82], [(1, 0, none), (2, 0, none), (3, 0, none), (4, 0, some (x4.2.map metaE.f))]⟩ [rowC (x4.2.map metaE.f)] (some (T20_j5_e e j1 j2 j3 x4 false)) (T20_j5_e e j1 j2 j3 x4) false (T20_j5 e j1 j2 j3 x4))))))) (fun _ => .stuck)))
noncomputable def T20_j2 (v : Vers) (e : Edt) (j1 : Int) (j2 : Int) : Tree :=
.sp 32 (decide (e.seq > (0 : Int))) (
.go (.join ⟨[2, 3, 4, 6], [(0, 0, none), (1, 0, none), (2, 0, none), (3, 0, none)]⟩ [] (some (T20_j3_e v e j1 j2 e.seq)) (T20_j3_e v e j1 j2) e.seq (T20_j3 v e j1 j2))) (
.go (.join ⟨[2, 3, 4, 6], [(0, 0, none), (1, 0, none), (2, 0, none), (3, 0, none)]⟩ [] (some (T20_j3_e v e j1 j2 v.seq)) (T20_j3_e v e j1 j2) v.seq (T20_j3 v e j1 j2)))
noncomputable def T20_j1 (v : Vers) (e : Edt) (j1 : Int) : Tree :=
.sp 26 (decide (e.next > (0 : Int))) (
.go (.join ⟨[2, 3, 4, 6], [(0, 0, none), (1, 0, none), (2, 0, none), (3, 0, none)]⟩ [] (some (T20_j2_e v e j1 e.next)) (T20_j2_e v e j1) e.next (T20_j2 v e j1))) (
.go (.join ⟨[2, 3, 4, 6], [(0, 0, none), (1, 0, none), (2, 0, none), (3, 0, none)]⟩ [] (some (T20_j2_e v e j1 v.next)) (T20_j2_e v e j1) v.next (T20_j2 v e j1)))
noncomputable def T20 (v : Vers) (e : Edt) : Tree :=
.sp 20 (decide (e.log > (0 : Int))) (
.go (.join ⟨[2, 3, 4, 6], [(0, 0, none), (1, 0, none), (2, 0, none), (3, 0, none)]⟩ [] (some (T20_j1_e v e e.log)) (T20_j1_e v e) e.log (T20_j1 v e))) (
.go (.join ⟨[2, 3, 4, 6], [(0, 0, none), (1, 0, none), (2, 0, none), (3, 0, none)]⟩ [] (some (T20_j1_e v e v.log)) (T20_j1_e v e) v.log (T20_j1 v e)))

theorem T20_chk (v : Vers) (e : Edt) : fnC LP Γ20 Δ20 Try.f20 [.agg [vl (v.files.map metaE.f), vi v.log, vi v.next, vn .u64 v.seq], .agg [vl (e.add.map metaE.f), vl (e.del.map intE.f), vi e.log, vi e.next, vn .u64 e.seq]] [] (T20 v e) = T20 v e := by kernel_rfl

end Go.Ax
