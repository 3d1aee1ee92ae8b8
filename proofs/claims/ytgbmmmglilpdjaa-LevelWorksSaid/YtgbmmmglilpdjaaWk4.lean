/- Apply. -/
import Derived.Test.YtgbmmmglilpdjaaWk3
set_option linter.unusedVariables false
set_option linter.unusedSimpArgs false
namespace Go.Ax
open Go.Proofs Go.RowKit
set_option maxRecDepth 100000

def leftL (del : List Int) (L : List Meta) : List Meta := L.filter fun m => !hasI del m.num
def goneN (del : List Int) (L : List Meta) : Nat := (L.filter fun m => hasI del m.num).length
def newI (a b : Int) : Int := if a > 0 then a else b
noncomputable def applyW (v : Vers) (e : Edt) : Vers := ⟨byNum (leftL e.del v.files ++ e.add), newI e.log v.log, newI e.next v.next, newI e.seq v.seq⟩
noncomputable def applyL (v : Vers) (e : Edt) : Vers × Int :=
  if (goneN e.del v.files : Int) ≠ (e.del.length : Int) ∨ newI e.log v.log < v.log ∨ newI e.next v.next < v.next ∨ newI e.seq v.seq < v.seq then (⟨[], 0, 0, 0⟩, 1) else
  if (applyW v e).check = 0 then (applyW v e, 0) else (⟨[], 0, 0, 0⟩, (applyW v e).check)

theorem left_len (del : List Int) (L : List Meta) : (leftL del L).length ≤ L.length := List.length_filter_le _ _
theorem gone_len (del : List Int) (L : List Meta) : goneN del L ≤ L.length := List.length_filter_le _ _
theorem left_cons (del : List Int) (m : Meta) (L : List Meta) : leftL del (m :: L) = if hasI del m.num then leftL del L else m :: leftL del L := by
  unfold leftL
  cases h : hasI del m.num <;> simp [h]
theorem gone_cons (del : List Int) (m : Meta) (L : List Meta) : goneN del (m :: L) = if hasI del m.num then goneN del L + 1 else goneN del L := by
  unfold goneN
  cases h : hasI del m.num <;> simp [h]

theorem T20_l4 (v : Vers) (e : Edt) (j1 j2 j3 : Int) (hv : v.files.length ≤ 1000000) (hd : e.del.length ≤ 1000000) : ∀ (suf pre L : List Meta) (g : Nat), v.files = pre ++ suf → L.length ≤ pre.length → g ≤ pre.length →
    Rounds (T20_l4_e v e j1 j2 j3) (T20_l4_x v e j1 j2 j3) noX (fun s => (T20_l4_b v e j1 j2 j3 s).wp) (L, (pre.length : Int), (g : Int)) (.inl (((g + goneN e.del suf : Nat) : Int), L ++ leftL e.del suf))
  | [], pre, L, g, h, hL, hg => by
    have en : v.files.length = pre.length := by rw [h]; simp
    refine .done (by simp [T20_l4_x]) ?_
    unfold T20_l4_b
    simp only [leftL, goneN, List.filter_nil, List.append_nil, List.length_nil, Nat.add_zero]
    exact wp_sp (fun h => by have := of_decide_eq_true h; omega) (fun _ => wp_leaf rfl ⟨rfl, rfl⟩)
  | m :: suf, pre, L, g, h, hL, hg => by
    have en : v.files.length = pre.length + (suf.length + 1) := by rw [h]; simp
    have hm : v.files[Int.toNat (pre.length : Int)]? = some m := by rw [h]; simp
    have hnx : v.files = (pre ++ [m]) ++ suf := by rw [h]; simp
    have hlen : (pre ++ [m]).length = pre.length + 1 := by simp
    rw [left_cons, gone_cons]
    cases hh : hasI e.del m.num with
    | true =>
      have ih := T20_l4 v e j1 j2 j3 hv hd suf (pre ++ [m]) L (g + 1) hnx (by omega) (by omega)
      rw [if_pos rfl, if_pos rfl]
      rw [hlen, show g + 1 + goneN e.del suf = g + (goneN e.del suf + 1) by omega] at ih
      refine .next ?_ ih
      unfold T20_l4_b
      dsimp only
      exact wp_sp (fun _ => wp_elem m (by omega) hm (wp_call (g34_eq hd) (wp_sp (fun _ => wp_i64 (by omega) (wp_i64 (by omega) (wp_leaf rfl ⟨rfl, rfl⟩))) (fun h => by rw [hh] at h; cases h)))) (fun h => by have := of_decide_eq_false h; omega)
    | false =>
      have ih := T20_l4 v e j1 j2 j3 hv hd suf (pre ++ [m]) (L ++ [m]) g hnx (by simp; omega) (by omega)
      rw [if_neg (by simp), if_neg (by simp)]
      rw [hlen, List.append_assoc] at ih
      refine .next ?_ ih
      unfold T20_l4_b
      dsimp only
      exact wp_sp (fun _ => wp_elem m (by omega) hm (wp_call (g34_eq hd) (wp_sp (fun h => by rw [hh] at h; cases h) (fun _ => wp_app ⟨rfl, rfl⟩ rfl (by simp; omega) (wp_i64 (by omega) (wp_leaf rfl ⟨rfl, rfl⟩)))))) (fun h => by have := of_decide_eq_false h; omega)

def EdtOk (v : Vers) (e : Edt) : Prop := v.files.length ≤ 500000 ∧ e.del.length ≤ 500000 ∧ e.add.length ≤ 500000

theorem L32 {L : List Meta} (hL : L.length ≤ 1000000) (b0 b1 b2 : List AV) : liftR (R32p Γ35 c31 35) [.rs 3 1 5 0 L.length, .fn 35 []] [.cells false 0 b0, .cells false 0 b1, .cells false 0 b2, metaE.bx 1 L] (.tup []) [.cells false 0 b0, .cells false 0 b1, .cells false 0 b2, metaE.bx 1 (byNum L)] :=
  ⟨_, _, _, _, (byNum_spec hL).1, ⟨[3], [1], [metaE.bx 1 L], [metaE.bx 1 (byNum L)], [], rfl, rfl, rfl, rfl, ⟨.row true 0 _, trivial⟩, ⟨.row true 0 _, trivial⟩, rfl, rfl, rfl⟩⟩

theorem T20_j5_wp (v : Vers) (e : Edt) (h0 : EdtOk v e) (b : Bool) (hb : b = decide ((goneN e.del v.files : Int) ≠ (e.del.length : Int) ∨ newI e.log v.log < v.log ∨ newI e.next v.next < v.next ∨ newI e.seq v.seq < v.seq)) {K : AE → St → Prop}
    (hz : (applyL v e).1 = ⟨[], 0, 0, 0⟩ → K .ret ([(0, .tup [.agg [nilS, vi 0, vi 0, vn .u64 0], vi (applyL v e).2])], []))
    (hr : K .ret ([(0, .tup [.agg [vl ((applyL v e).1.files.map metaE.f), vi (applyL v e).1.log, vi (applyL v e).1.next, vn .u64 (applyL v e).1.seq], vi (applyL v e).2])], [])) :
    (T20_j5 e (newI e.log v.log) (newI e.next v.next) (newI e.seq v.seq) ((goneN e.del v.files : Int), leftL e.del v.files) b).wp K := by
  obtain ⟨h1, h2, h3⟩ := h0
  have hl := left_len e.del v.files
  have hlen : (leftL e.del v.files ++ e.add).length ≤ 1000000 := by rw [List.length_append]; omega
  have hpl := (byNum_spec hlen).2.1.length_eq
  unfold applyL at hz hr
  unfold T20_j5
  refine wp_br (fun e1 => ?_) (fun e1 => ?_)
  · rw [hb] at e1
    rw [if_pos (of_decide_eq_true e1)] at hz
    exact wp_leaf rfl (hz rfl)
  · rw [hb] at e1
    rw [if_neg (of_decide_eq_false e1)] at hz hr
    refine wp_app rfl rfl (by dsimp only; omega) (wp_callx (byNum (leftL e.del v.files ++ e.add)) ?_ (show Tree.wp _ _ from ⟨rfl, hpl.symm, wp_call (g15_eq (applyW v e)) (wp_sp (fun hc => ?_) (fun hc => ?_))⟩))
    · exact L32 hlen _ _ _
    · have hc : ¬ (applyW v e).check = 0 := by
        have hc : ((applyW v e).check != 0) = true := hc
        simpa using hc
      rw [if_neg hc] at hz
      exact wp_leaf rfl (hz rfl)
    · have hc : (applyW v e).check = 0 := by
        have hc : ((applyW v e).check != 0) = false := hc
        simpa using hc
      rw [if_pos hc] at hr
      exact wp_leaf rfl hr

theorem T20_wp (v : Vers) (e : Edt) (h0 : EdtOk v e) {K : AE → St → Prop}
    (hz : (applyL v e).1 = ⟨[], 0, 0, 0⟩ → K .ret ([(0, .tup [.agg [nilS, vi 0, vi 0, vn .u64 0], vi (applyL v e).2])], []))
    (hr : K .ret ([(0, .tup [.agg [vl ((applyL v e).1.files.map metaE.f), vi (applyL v e).1.log, vi (applyL v e).1.next, vn .u64 (applyL v e).1.seq], vi (applyL v e).2])], [])) : (T20 v e).wp K := by
  have step3 : (T20_j3 v e (newI e.log v.log) (newI e.next v.next) (newI e.seq v.seq)).wp K := by
    obtain ⟨h1, h2, h3⟩ := id h0
    have l := T20_l4 v e (newI e.log v.log) (newI e.next v.next) (newI e.seq v.seq) (by omega) (by omega) v.files [] [] 0 rfl (Nat.le_refl _) (Nat.le_refl _)
    rw [List.nil_append, Nat.zero_add] at l
    unfold T20_j3
    refine wp_len (show Tree.wp _ _ from wp_loop _ rfl l (wp_len (wp_sp (fun a => wp_join rfl ?_) (fun a => wp_sp (fun b => wp_join rfl ?_) (fun b => wp_sp (fun c => wp_join rfl ?_) (fun c => wp_sp (fun d => wp_join rfl ?_) (fun d => wp_join rfl ?_)))))))
    all_goals refine T20_j5_wp v e h0 _ ?_ hz hr
    all_goals symm
    all_goals dsimp only at *
    all_goals simp only [decide_eq_true_eq, decide_eq_false_iff_not, bne_iff_ne, ne_eq, bne_eq_false_iff_eq] at *
    · exact .inl a
    · exact .inr (.inl b)
    · exact .inr (.inr (.inl c))
    · exact .inr (.inr (.inr d))
    · omega
  have step2 : (T20_j2 v e (newI e.log v.log) (newI e.next v.next)).wp K := by
    unfold T20_j2
    refine wp_sp (fun h => wp_go (wp_join rfl ?_)) (fun h => wp_go (wp_join rfl ?_))
    · have : newI e.seq v.seq = e.seq := if_pos (of_decide_eq_true h)
      rw [← this]; exact step3
    · have : newI e.seq v.seq = v.seq := if_neg (of_decide_eq_false h)
      rw [this] at step3; exact step3
  have step1 : (T20_j1 v e (newI e.log v.log)).wp K := by
    unfold T20_j1
    refine wp_sp (fun h => wp_go (wp_join rfl ?_)) (fun h => wp_go (wp_join rfl ?_))
    · have : newI e.next v.next = e.next := if_pos (of_decide_eq_true h)
      rw [this] at step2; exact step2
    · have : newI e.next v.next = v.next := if_neg (of_decide_eq_false h)
      rw [this] at step2; exact step2
  unfold T20
  refine wp_sp (fun h => wp_go (wp_join rfl ?_)) (fun h => wp_go (wp_join rfl ?_))
  · have : newI e.log v.log = e.log := if_pos (of_decide_eq_true h)
    rw [this] at step1; exact step1
  · have : newI e.log v.log = v.log := if_neg (of_decide_eq_false h)
    rw [this] at step1; exact step1

theorem edt_inj {x y : Edt} (h : AV.agg [vl (x.add.map metaE.f), vl (x.del.map intE.f), vi x.log, vi x.next, vn .u64 x.seq] = AV.agg [vl (y.add.map metaE.f), vl (y.del.map intE.f), vi y.log, vi y.next, vn .u64 y.seq]) : x = y := by
  cases x; cases y
  simp at h
  obtain ⟨h1, h2, h3, h4, h5⟩ := h
  have h1 := f_inj (by simpa using h1)
  have h2 := fI_inj (by simpa using h2)
  simp [h1, h2, h3, h4, h5]

def R20 : List AV → AV → Prop := fun args r => ∃ (v : Vers) (e : Edt), EdtOk v e ∧ args = [.agg [vl (v.files.map metaE.f), vi v.log, vi v.next, vn .u64 v.seq], .agg [vl (e.add.map metaE.f), vl (e.del.map intE.f), vi e.log, vi e.next, vn .u64 e.seq]] ∧
  r = .tup [.agg [vl ((applyL v e).1.files.map metaE.f), vi (applyL v e).1.log, vi (applyL v e).1.next, vn .u64 (applyL v e).1.seq], vi (applyL v e).2]
noncomputable def g20 := relG R20
theorem g20_eq {v : Vers} {e : Edt} (h : EdtOk v e) : g20 [.agg [vl (v.files.map metaE.f), vi v.log, vi v.next, vn .u64 v.seq], .agg [vl (e.add.map metaE.f), vl (e.del.map intE.f), vi e.log, vi e.next, vn .u64 e.seq]] =
    some (.tup [.agg [vl ((applyL v e).1.files.map metaE.f), vi (applyL v e).1.log, vi (applyL v e).1.next, vn .u64 (applyL v e).1.seq], vi (applyL v e).2]) := relG_eq (by
  rintro args r r' ⟨v1, x1, _, e1, rfl⟩ ⟨v2, x2, _, e2, rfl⟩
  rw [e1] at e2
  simp only [List.cons.injEq, and_true] at e2
  obtain ⟨h1, h2⟩ := e2
  have := vargs_inj h1
  have := edt_inj h2
  subst this
  subst v1
  rfl) ⟨v, e, h, rfl, rfl⟩

theorem seal4 {S : Nat → Prop} {B : List Box} {x y : AV} (a b c u : PV) (h : Sealed S B x y) : Sealed S B (.tup [.agg [x, .p a, .p b, .p c], .p u]) (.tup [.agg [y, .p a, .p b, .p c], .p u]) := by
  refine .tup _ _ rfl fun j c d hc hd => ?_
  match j with
  | 0 =>
    cases hc; cases hd
    refine .agg _ _ rfl fun j c d hc hd => ?_
    match j with
    | 0 => cases hc; cases hd; exact h
    | 1 => cases hc; cases hd; exact .p _
    | 2 => cases hc; cases hd; exact .p _
    | 3 => cases hc; cases hd; exact .p _
    | j + 4 => simp at hc
  | 1 => cases hc; cases hd; exact .p _
  | j + 2 => simp at hc

theorem sound20 : SoundF LP 20 (.pure g20) := sound_pureT (Γ := Γ20) (Δ := Δ20) (fn := Try.f20) mixedL Γ20_ok Δ20_ok (by kernel_rfl) (by kernel_rfl) (by kernel_rfl) (by
  rintro args r ⟨v, e, h, rfl, rfl⟩
  refine ⟨rfl, rfl, _, T20_chk v e, T20_wp v e h (fun hz => ?_) ?_⟩
  · rw [hz]
    exact seal4 _ _ _ _ .nil
  · exact seal4 _ _ _ _ (.p _))

end Go.Ax
