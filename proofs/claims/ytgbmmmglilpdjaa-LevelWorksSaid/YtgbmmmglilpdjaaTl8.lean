/- Of, DeleteFunc: what they come to. -/
import Derived.Test.YtgbmmmglilpdjaaTl7
set_option linter.unusedVariables false
set_option linter.unusedSimpArgs false
namespace Go.Ax
open Go.Proofs Go.RowKit
set_option maxRecDepth 100000

/-- A relation as a contract that is a function, where it is one. -/
theorem SoundR.gen {P : Program} {f : Nat} {R : RSpec} (h : SoundR P f R) : SoundF P f (.gen (relG2 fun args B r => R args B r.1 r.2)) := fun args B r B' hs F ρ w us hI hA => h args B r B' (relG2_some (show relG2 (fun args B r => R args B r.1 r.2) args B = some (r, B') from hs)) F ρ w us hI hA

theorem av_inj {x y : Meta} (h : metaE.av x = metaE.av y) : x = y := by
  cases x; cases y
  simp [Enc.av, metaE, PV.cells] at h
  simp [h]

/-! ### The compare function of Of -/
theorem T33_wp (x y : Meta) (L : List Meta) (lv : Int) {K : AE → St → Prop} (h : K .ret ([(0, vi (cOf lv x y))], [metaE.bx 0 L, .cells false 0 [vi lv]])) : (T33 x y L lv).wp K := by
  unfold cOf at h
  unfold T33
  repeat' first | refine wp_leaf rfl ?_ | refine wp_sp (fun _ => ?_) (fun _ => ?_) | refine wp_br (fun _ => ?_) (fun _ => ?_)
  all_goals simp_all

def R33 : RSpec := fun args B r B' => ∃ (x y : Meta) (L : List Meta) (lv : Int), args = [metaE.av x, metaE.av y, .ptr 1 0 0] ∧ B = [metaE.bx 0 L, .cells false 0 [vi lv]] ∧ r = vi (cOf lv x y) ∧ B' = B
theorem R33_ok : SoundR LP 33 R33 := sound_genT (Γ := Γ0) (Δ := Δ0) (fn := Try.f33) mixedL Γ0_ok Δ0_ok (by kernel_rfl) (by kernel_rfl) (by kernel_rfl) (by
  rintro args B r B' ⟨x, y, L, lv, rfl, rfl, rfl, rfl⟩
  exact ⟨rfl, _, T33_chk x y L lv, T33_wp x y L lv ⟨rfl, rfl⟩⟩)

noncomputable def Γ33 : Env := fun f => bif Nat.beq f 33 then .gen (relG2 fun args B r => R33 args B r.1 r.2) else .none
theorem Γ33_ok : ∀ f, SoundF LP f (Γ33 f) := fun f => by
  unfold Γ33
  cases h : Nat.beq f 33 with
  | true => have := Nat.eq_of_beq_eq_true h; subst this; exact R33_ok.gen
  | false => exact sound_none f

theorem row_inj {L M : List Meta} (h : rowC (L.map metaE.f) = rowC (M.map metaE.f)) : L = M := by
  have hl : L.length = M.length := by
    have := congrArg List.length h
    rw [metaE.elt.rowLen, metaE.elt.rowLen] at this
    have e : metaE.sz = 5 := rfl
    rw [e] at this
    omega
  induction L generalizing M with
  | nil => cases M with
    | nil => rfl
    | cons y M => simp at hl
  | cons x L ih =>
    cases M with
    | nil => simp at hl
    | cons y M =>
      have e : ∀ (z : Meta) (Y : List PV), rowC (metaE.f z :: Y) = (metaE.f z).cells.map .p ++ rowC Y := by
        intro z Y; unfold rowC; rw [List.flatMap_cons, List.map_append]
      rw [List.map_cons, List.map_cons, e, e] at h
      obtain ⟨h1, h2⟩ := List.append_inj h (by rw [List.length_map, List.length_map, metaE.size, metaE.size])
      have := av_inj (congrArg AV.agg h1)
      subst this
      rw [ih h2 (by simpa using hl)]

theorem cmpOf (lv : Int) : Cmpq Γ33 (cOf lv) 33 lv := fun x y L => by
  show relG2 (fun args B r => R33 args B r.1 r.2) [metaE.av x, metaE.av y, .ptr 1 0 0] [metaE.bx 0 L, .cells false 0 [vi lv]] = some (vi (cOf lv x y), [metaE.bx 0 L, .cells false 0 [vi lv]])
  refine relG2_eq (fun args B r r' h h' => ?_) ⟨x, y, L, lv, rfl, rfl, rfl, rfl⟩
  obtain ⟨x1, y1, L1, lv1, e1, e2, e3, e4⟩ := h
  obtain ⟨x2, y2, L2, lv2, f1, f2, f3, f4⟩ := h'
  rw [e1] at f1
  rw [e2] at f2
  simp only [List.cons.injEq, and_true] at f1
  have hx := av_inj f1.1
  have hy := av_inj f1.2
  simp only [List.cons.injEq, Box.cells.injEq, and_true, true_and] at f2
  obtain ⟨_, hlv⟩ := f2
  have hlv : lv1 = lv2 := by simpa using hlv
  subst hx hy hlv
  cases r; cases r'
  simp_all

/-! ### Of -/
theorem sort_ex (lv : Int) {L : List Meta} (h : L.length ≤ 1000000) : ∃ L', R32q Γ33 (cOf lv) 33 [.rs 0 0 5 0 L.length, .fn 33 [.ptr 1 0 0]] [metaE.bx 0 L, .cells false 0 [vi lv]] (.tup []) [metaE.bx 0 L', .cells false 0 [vi lv]] ∧ L'.Perm L ∧ ∀ Q, Ordr (cOf lv) Q → (∀ x ∈ L, Q x) → Sorted (cOf lv) L' 0 L.length :=
  S32q lv (cmpOf lv) h

open Classical in
/-- A list as the stable sort leaves it. -/
noncomputable def sortOf (lv : Int) (L : List Meta) : List Meta := if h : L.length ≤ 1000000 then Classical.choose (sort_ex lv h) else L
theorem sortOf_spec (lv : Int) {L : List Meta} (h : L.length ≤ 1000000) : R32q Γ33 (cOf lv) 33 [.rs 0 0 5 0 L.length, .fn 33 [.ptr 1 0 0]] [metaE.bx 0 L, .cells false 0 [vi lv]] (.tup []) [metaE.bx 0 (sortOf lv L), .cells false 0 [vi lv]] ∧ (sortOf lv L).Perm L ∧ ∀ Q, Ordr (cOf lv) Q → (∀ x ∈ L, Q x) → Sorted (cOf lv) (sortOf lv L) 0 L.length := by
  unfold sortOf
  rw [dif_pos h]
  exact Classical.choose_spec (sort_ex lv h)

/-- The files of a level. -/
noncomputable def ofL (lv : Int) (files : List Meta) : List Meta := sortOf lv (files.filter fun m => m.level == lv)

theorem ofL_perm (lv : Int) {files : List Meta} (h : files.length ≤ 1000000) : (ofL lv files).Perm (files.filter fun m => m.level == lv) := (sortOf_spec lv (Nat.le_trans (List.length_filter_le _ _) h)).2.1
theorem ofL_len (lv : Int) {files : List Meta} (h : files.length ≤ 1000000) : (ofL lv files).length ≤ files.length := by rw [(ofL_perm lv h).length_eq]; exact List.length_filter_le _ _

def R32a : RSpec := fun args B r B' => ∃ lv, R32q Γ33 (cOf lv) 33 args B r B'
theorem R32a_ok : SoundR LP 32 R32a := fun args B r B' ⟨lv, h⟩ => R32q_ok Γ33_ok (cOf lv) 33 args B r B' h
def Δ17 : REnv := fun f => bif Nat.beq f 32 then liftR R32a else fun _ _ _ _ => False
theorem Δ17_ok : ∀ f, SoundR LP f (Δ17 f) := fun f => by
  unfold Δ17
  cases h : Nat.beq f 32 with
  | true => have := Nat.eq_of_beq_eq_true h; subst this; exact lift_sound R32a_ok
  | false => exact .none f

theorem T17_l1 (v : Vers) (lv : Int) (hv : v.files.length ≤ 1000000) : ∀ (suf pre : List Meta) (L : List Meta), v.files = pre ++ suf → L.length ≤ pre.length →
    Rounds (T17_l1_e v lv) (T17_l1_x lv) noX (fun s => (T17_l1_b v lv s).wp) (L, (pre.length : Int)) (.inl (L ++ suf.filter fun m => m.level == lv))
  | [], pre, L, h, hL => by
    have e : v.files.length = pre.length := by rw [h]; simp
    refine .done (by simp [T17_l1_x]) ?_
    unfold T17_l1_b
    rw [List.filter_nil, List.append_nil]
    exact wp_sp (fun h => by have := of_decide_eq_true h; dsimp only at this; omega) (fun _ => wp_leaf rfl ⟨rfl, rfl⟩)
  | m :: suf, pre, L, h, hL => by
    have e : v.files.length = pre.length + (suf.length + 1) := by rw [h]; simp
    have hm : v.files[Int.toNat (pre.length : Int)]? = some m := by rw [h]; simp
    have hnx : v.files = (pre ++ [m]) ++ suf := by rw [h]; simp
    have hlen : (pre ++ [m]).length = pre.length + 1 := by simp
    cases hlv : m.level == lv with
    | true =>
      have ih := T17_l1 v lv hv suf (pre ++ [m]) (L ++ [m]) hnx (by simp; omega)
      rw [List.filter_cons_of_pos (by simpa using hlv)]
      rw [List.append_assoc] at ih
      refine .next ?_ ih
      unfold T17_l1_b
      dsimp only
      refine wp_sp (fun _ => wp_elem m (by omega) hm (wp_sp (fun _ => wp_app ⟨rfl, rfl⟩ rfl (by simp; omega) (wp_i64 (by omega) (wp_leaf rfl ⟨rfl, ?_⟩))) (fun h => by rw [hlv] at h; cases h))) (fun h => by have := of_decide_eq_false h; omega)
      rw [hlen]; rfl
    | false =>
      have ih := T17_l1 v lv hv suf (pre ++ [m]) L hnx (by simp; omega)
      rw [List.filter_cons_of_neg (by simpa using hlv)]
      refine .next ?_ ih
      unfold T17_l1_b
      dsimp only
      refine wp_sp (fun _ => wp_elem m (by omega) hm (wp_sp (fun h => by rw [hlv] at h; cases h) (fun _ => wp_i64 (by omega) (wp_leaf rfl ⟨rfl, ?_⟩)))) (fun h => by have := of_decide_eq_false h; omega)
      rw [hlen]; rfl

theorem T17_wp (v : Vers) (lv : Int) (hv : v.files.length ≤ 1000000) {K : AE → St → Prop} (h : K .ret ([(0, .rs 0 0 5 0 (ofL lv v.files).length)], [metaE.bx 0 (ofL lv v.files)])) : (T17 Δ17 v lv).wp K := by
  have hl : (v.files.filter fun m => m.level == lv).length ≤ 1000000 := Nat.le_trans (List.length_filter_le _ _) hv
  obtain ⟨s1, s2, _⟩ := sortOf_spec lv hl
  have l1 := T17_l1 v lv hv v.files [] [] rfl (Nat.le_refl _)
  rw [List.nil_append] at l1
  unfold T17
  refine wp_len (show Tree.wp _ _ from wp_loop _ rfl l1 (wp_callx (ofL lv v.files) ?_ (wp_leaf rfl ?_)))
  · refine ⟨_, _, _, _, ⟨lv, s1⟩, ⟨[1, 0], [0, 0], [metaE.bx 0 (v.files.filter fun m => m.level == lv), .cells false 0 [vi lv]], [metaE.bx 0 (ofL lv v.files), .cells false 0 [vi lv]], [], rfl, rfl, rfl, rfl, ⟨.row true 0 _, .cells rfl rfl rfl, trivial⟩, ⟨.row true 0 _, .cells rfl rfl rfl, trivial⟩, rfl, rfl, rfl⟩⟩
  · have := s2.length_eq
    unfold ofL at h ⊢
    rw [this] at h
    exact h

/-- 'Of', its answer a row of its own. -/
def R17 : RSpec := fun args B r B' => ∃ (v : Vers) (lv : Int), v.files.length ≤ 1000000 ∧ args = [.agg [vl (v.files.map metaE.f), vi v.log, vi v.next, vn .u64 v.seq], vi lv] ∧ B = [] ∧ r = .rs 0 0 5 0 (ofL lv v.files).length ∧ B' = [metaE.bx 0 (ofL lv v.files)]
theorem R17_ok : SoundR LP 17 R17 := sound_genT (Γ := Γ0) (Δ := Δ17) (fn := Try.f17) mixedL Γ0_ok Δ17_ok (by kernel_rfl) (by kernel_rfl) (by kernel_rfl) (by
  rintro args B r B' ⟨v, lv, hv, rfl, rfl, rfl, rfl⟩
  exact ⟨rfl, _, T17_chk Δ17 v lv, T17_wp v lv hv ⟨rfl, rfl⟩⟩)

/-- 'Of', its answer sealed. -/
def Rof : List AV → AV → Prop := fun args r => ∃ (v : Vers) (lv : Int), v.files.length ≤ 1000000 ∧ args = [.agg [vl (v.files.map metaE.f), vi v.log, vi v.next, vn .u64 v.seq], vi lv] ∧ r = vl ((ofL lv v.files).map metaE.f)
noncomputable def gOf := relG Rof

theorem f_inj : ∀ {L M : List Meta}, L.map metaE.f = M.map metaE.f → L = M := fun h => row_inj (congrArg rowC h)

theorem gOf_eq {v : Vers} {lv : Int} (hv : v.files.length ≤ 1000000) : gOf [.agg [vl (v.files.map metaE.f), vi v.log, vi v.next, vn .u64 v.seq], vi lv] = some (vl ((ofL lv v.files).map metaE.f)) :=
  relG_eq (by
    rintro args r r' ⟨v1, lv1, _, e1, rfl⟩ ⟨v2, lv2, _, e2, rfl⟩
    rw [e1] at e2
    simp at e2
    obtain ⟨⟨h1, _⟩, h2⟩ := e2
    have h1 : v1.files = v2.files := f_inj (by simpa using h1)
    rw [h1, h2]) ⟨v, lv, hv, rfl, rfl⟩

theorem sealRow {L : List Meta} : Sealed (fun _ => True) [metaE.bx 0 L] (.rs 0 0 5 0 L.length) (vl (L.map metaE.f)) := metaE.elt.sealed trivial rfl

theorem sound17 : SoundF LP 17 (.pure gOf) := sound_pureT (Γ := Γ0) (Δ := Δ17) (fn := Try.f17) mixedL Γ0_ok Δ17_ok (by kernel_rfl) (by kernel_rfl) (by kernel_rfl) (by
  rintro args r ⟨v, lv, hv, rfl, rfl⟩
  exact ⟨rfl, rfl, _, T17_chk Δ17 v lv, T17_wp v lv hv sealRow⟩)

end Go.Ax
