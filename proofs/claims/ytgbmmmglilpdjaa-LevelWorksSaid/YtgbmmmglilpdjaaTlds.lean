/- Pick. -/
import Derived.Test.YtgbmmmglilpdjaaTlc
import Derived.Test.YtgbmmmglilpdjaaAx20
set_option linter.unusedVariables false
set_option linter.unusedSimpArgs false
namespace Go.Ax
open Go.Proofs Go.RowKit
set_option maxRecDepth 100000

def sumL (L : List Meta) : Int := (L.map (·.size)).sum
theorem sumL_cons (m : Meta) (L : List Meta) : sumL (m :: L) = m.size + sumL L := by simp [sumL]
theorem sumL_append (L M : List Meta) : sumL (L ++ M) = sumL L + sumL M := by simp [sumL]
theorem sumL_nn : ∀ {L : List Meta}, (∀ m ∈ L, 0 ≤ m.size ∧ m.size ≤ 67108864) → 0 ≤ sumL L ∧ sumL L ≤ 67108864 * (L.length : Int)
  | [], _ => by simp [sumL]
  | m :: L, h => by
    have h1 := sumL_nn (L := L) (fun x hx => h x (by simp [hx]))
    have h2 := h m (by simp)
    rw [sumL_cons, List.length_cons]
    omega

/-- Files of the sizes that a check lets pass. -/
def Fine (v : Vers) : Prop := v.files.length ≤ 1000 ∧ ∀ m ∈ v.files, m.num ≥ 1 ∧ m.num ≤ 1073741824 ∧ 0 ≤ m.size ∧ m.size ≤ 67108864
theorem Fine.le {v : Vers} (h : Fine v) : v.files.length ≤ 1000000 := by have := h.1; omega
theorem Fine.of {v : Vers} (h : Fine v) {n : Int} {m : Meta} (hm : m ∈ ofL n v.files) : m.num ≥ 1 ∧ m.num ≤ 1073741824 ∧ 0 ≤ m.size ∧ m.size ≤ 67108864 :=
  h.2 m (List.mem_filter.mp ((ofL_perm n h.le).mem_iff.mp hm)).1
theorem Fine.len {v : Vers} (h : Fine v) (n : Int) : (ofL n v.files).length ≤ 1000 := Nat.le_trans (ofL_len n h.le) h.1

noncomputable def pickN (v : Vers) : Nat → Int → Int → List Meta × Int
  | 0, _, _ => ([], 0)
  | k + 1, n, most => if sumL (ofL n v.files) > most then (minL (ofL n v.files) :: meetsL (n + 1) v.files (minL (ofL n v.files)).low (minL (ofL n v.files)).high, n + 1) else pickN v k (n + 1) (most * 4)
noncomputable def pickL (v : Vers) (c : Conf) : List Meta × Int :=
  if ((ofL 0 v.files).length : Int) ≥ (if (1 : Int) < c.files then c.files else 1) then (ofL 0 v.files ++ meetsL 1 v.files (spanL (ofL 0 v.files)).1 (spanL (ofL 0 v.files)).2, 1) else pickN v 4 1 c.size
theorem pickN_pos (v : Vers) : ∀ (k : Nat) (n most : Int), 1 ≤ n → (pickN v k n most = ([], 0) ∨ (pickN v k n most).2 > 0)
  | 0, _, _, _ => .inl rfl
  | k + 1, n, most, h => by
    unfold pickN
    split
    · exact .inr (by dsimp only; omega)
    · exact pickN_pos v k _ _ (by omega)
theorem meetsL_len {v : Vers} (h : Fine v) (n : Int) (lo hi : ByteArray) : (meetsL n v.files lo hi).length ≤ 1000 := Nat.le_trans (keep_len _ _ _) (h.len n)

theorem T16_l2 (v : Vers) (g : Fine v) (s1 : Int × Int) : ∀ (suf pre : List Meta), ofL s1.1 v.files = pre ++ suf →
    Rounds (T16_l2_e v s1) (T16_l2_x v s1) noX (fun s => (T16_l2_b v s1 s).wp) (sumL pre, (pre.length : Int)) (.inl (sumL (ofL s1.1 v.files)))
  | [], pre, h => by
    have e : (ofL s1.1 v.files).length = pre.length := by rw [h]; simp
    rw [h, List.append_nil]
    refine .done (by simp [T16_l2_x]) ?_
    unfold T16_l2_b
    exact wp_sp (fun h => by have := of_decide_eq_true h; dsimp only at this; omega) (fun _ => wp_leaf rfl ⟨rfl, rfl⟩)
  | m :: suf, pre, h => by
    have e : (ofL s1.1 v.files).length = pre.length + (suf.length + 1) := by rw [h]; simp
    have hl := g.len s1.1
    have hm : (ofL s1.1 v.files)[Int.toNat (pre.length : Int)]? = some m := by rw [h]; simp
    have ih := T16_l2 v g s1 suf (pre ++ [m]) (by rw [h]; simp)
    have hlen : (pre ++ [m]).length = pre.length + 1 := by simp
    have hs : sumL (pre ++ [m]) = sumL pre + m.size := by simp [sumL_append, sumL_cons, sumL]
    have hb := sumL_nn (L := pre) (fun x hx => (g.of (n := s1.1) (by rw [h]; simp [hx])).2.2)
    have hmb := (g.of (n := s1.1) (m := m) (by rw [h]; simp)).2.2
    rw [hlen, hs] at ih
    refine .next ?_ ih
    unfold T16_l2_b
    dsimp only
    refine wp_sp (fun _ => wp_elem m (by omega) hm (wp_i64 (by omega) (wp_i64 (by omega) (wp_leaf rfl ⟨rfl, rfl⟩)))) (fun h => by have := of_decide_eq_false h; omega)

theorem T16_l1 (v : Vers) (g : Fine v) : ∀ (k : Nat) (n most : Int), (k : Int) + n = 5 → 1 ≤ n → 1 ≤ most → most ≤ 67108864 * 256 / 4 ^ k →
    Rounds (T16_l1_e v) T16_l1_x T16_l1_x' (fun s => (T16_l1_b v s).wp) (n, most) (if (pickN v k n most).2 > 0 then .inl ((pickN v k n most).2, (pickN v k n most).1) else .inr ())
  | 0, n, most, h, h1, h2, h3 => by
    unfold pickN
    rw [if_neg (by simp)]
    refine .done' (by simp [T16_l1_x']) ?_
    unfold T16_l1_b
    exact wp_sp (fun h => by have := of_decide_eq_true h; dsimp only at this; omega) (fun _ => wp_leaf rfl ⟨rfl, rfl⟩)
  | k + 1, n, most, h, h1, h2, h3 => by
    have hmost : most ≤ 67108864 * 256 / 4 := by
      refine Int.le_trans h3 ?_
      have : k + 1 ≤ 4 := by omega
      have : k = 0 ∨ k = 1 ∨ k = 2 ∨ k = 3 := by omega
      rcases this with rfl | rfl | rfl | rfl <;> decide
    have hl := g.len n
    have l2 := T16_l2 v g (n, most) (ofL n v.files) [] rfl
    have l2 : Rounds (T16_l2_e v (n, most)) (T16_l2_x v (n, most)) noX (fun s => (T16_l2_b v (n, most) s).wp) ((0 : Int), (0 : Int)) (.inl (sumL (ofL n v.files))) := l2
    by_cases hs : sumL (ofL n v.files) > most
    · have e1 : pickN v (k + 1) n most = (minL (ofL n v.files) :: meetsL (n + 1) v.files (minL (ofL n v.files)).low (minL (ofL n v.files)).high, n + 1) := by unfold pickN; rw [if_pos hs]
      rw [e1, if_pos (by dsimp only; omega)]
      have hne : ofL n v.files ≠ [] := fun e => by rw [e] at hs; simp [sumL] at hs; omega
      have hml := meetsL_len g (n + 1) (minL (ofL n v.files)).low (minL (ofL n v.files)).high
      refine .done (by simp [T16_l1_x]) ?_
      unfold T16_l1_b
      dsimp only
      refine wp_sp (fun _ => wp_call (gOf_eq g.le) (wp_len (wp_loop _ rfl l2 (wp_sp (fun _ => wp_call (g30_eq (by omega) hne) (wp_i64 (by omega) (wp_call (g29_eq g.le) (wp_app rfl rfl (by simp; omega) (wp_i64 (by omega) (wp_leaf rfl ⟨rfl, rfl⟩)))))) (fun h => by have := of_decide_eq_false h; omega))))) (fun h => by have := of_decide_eq_false h; omega)
    · have e1 : pickN v (k + 1) n most = pickN v k (n + 1) (most * 4) := by rw [pickN, if_neg hs]
      have ih := T16_l1 v g k (n + 1) (most * 4) (by omega) (by omega) (by omega) (by
        have : k = 0 ∨ k = 1 ∨ k = 2 ∨ k = 3 := by omega
        rcases this with rfl | rfl | rfl | rfl <;> simp at h3 ⊢ <;> omega)
      rw [e1]
      refine .next ?_ ih
      unfold T16_l1_b
      dsimp only
      refine wp_sp (fun _ => wp_call (gOf_eq g.le) (wp_len (wp_loop _ rfl l2 (wp_sp (fun h => by have := of_decide_eq_true h; omega) (fun _ => wp_i64 (by omega) (wp_i64 (by omega) (wp_leaf rfl ⟨rfl, rfl⟩))))))) (fun h => by have := of_decide_eq_false h; omega)

theorem L28 {L : List Meta} (h0 : L ≠ []) (hL : L.length ≤ 1000000) (b0 b1 b2 : List AV) : liftR R28 [.rs 3 0 5 0 L.length] [.cells false 0 b0, .cells false 0 b1, .cells false 0 b2, metaE.bx 0 L] (.tup [vs (spanL L).1, vs (spanL L).2]) [.cells false 0 b0, .cells false 0 b1, .cells false 0 b2, metaE.bx 0 L] :=
  ⟨_, _, _, _, ⟨L, h0, hL, rfl, rfl, rfl, rfl⟩, ⟨[3], [0], [metaE.bx 0 L], [metaE.bx 0 L], [], rfl, rfl, rfl, rfl, ⟨.row true 0 _, trivial⟩, ⟨.row true 0 _, trivial⟩, rfl, rfl, rfl⟩⟩

def FineC (c : Conf) : Prop := 1 ≤ c.files ∧ c.files ≤ 100 ∧ 1 ≤ c.size ∧ c.size ≤ 67108864

theorem T16_wp (v : Vers) (c : Conf) (g : Fine v) (gc : FineC c) {K : AE → St → Prop}
    (hr : ∀ L n, pickL v c = (L, n) → n > 0 → K .ret ([(0, .tup [.agg [.rs 0 0 5 0 L.length, vi n], vb true])], [metaE.bx 0 L]))
    (hn : pickL v c = ([], 0) → K .ret ([(0, .tup [.agg [nilS, vi 0], vb false])], [])) : (T16 v c).wp K := by
  obtain ⟨c1, c2, c3, c4⟩ := gc
  have hl := g.len 0
  have hml := meetsL_len g 1 (spanL (ofL 0 v.files)).1 (spanL (ofL 0 v.files)).2
  unfold pickL at hr hn
  unfold T16
  refine wp_callr (L17 g.le _) (wp_sp (fun h => ?_) (fun h => ?_))
  · have h := of_decide_eq_true h
    rw [if_pos h] at hr
    have hne : ofL 0 v.files ≠ [] := fun e => by rw [e] at h; split at h <;> simp at h <;> omega
    exact wp_callr (L28 hne (by omega) _ _ _) (wp_call (g29_eq g.le) (wp_app rfl rfl (by simp; omega) (wp_leaf rfl (hr _ _ rfl (by omega)))))
  · have h := of_decide_eq_false h
    rw [if_neg h] at hr hn
    have l := T16_l1 v g 4 1 c.size rfl (by omega) c3 (by simp; omega)
    by_cases hp : (pickN v 4 1 c.size).2 > 0
    · rw [if_pos hp] at l
      exact wp_loop _ rfl l (wp_leaf rfl (hr _ _ rfl hp))
    · rw [if_neg hp] at l
      have e : pickN v 4 1 c.size = ([], 0) := (pickN_pos v 4 1 c.size (by omega)).resolve_right hp
      exact wp_loop' _ rfl l (wp_leaf rfl (hn e))

def R16 : List AV → AV → Prop := fun args r => ∃ (v : Vers) (c : Conf), Fine v ∧ FineC c ∧ args = [.agg [vl (v.files.map metaE.f), vi v.log, vi v.next, vn .u64 v.seq], .agg [vi c.files, vi c.size, vi c.cut]] ∧ r = .tup [.agg [vl ((pickL v c).1.map metaE.f), vi (pickL v c).2], vb (decide ((pickL v c).2 > 0))]
theorem R16_det (args : List AV) (r r' : AV) (h : R16 args r) (h' : R16 args r') : r = r' := by
  obtain ⟨v1, c1, _, _, e1, rfl⟩ := h
  obtain ⟨v2, c2, _, _, e2, rfl⟩ := h'
  rw [e1] at e2
  simp only [List.cons.injEq, and_true] at e2
  obtain ⟨h1, h2⟩ := e2
  have := vargs_inj h1
  subst this
  have : c1 = c2 := by
    cases c1; cases c2
    simp at h2
    simp [h2]
  rw [this]
noncomputable def g16 := relG R16
theorem g16_eq {v : Vers} {c : Conf} (g : Fine v) (gc : FineC c) : g16 [.agg [vl (v.files.map metaE.f), vi v.log, vi v.next, vn .u64 v.seq], .agg [vi c.files, vi c.size, vi c.cut]] = some (.tup [.agg [vl ((pickL v c).1.map metaE.f), vi (pickL v c).2], vb (decide ((pickL v c).2 > 0))]) := relG_eq R16_det ⟨v, c, g, gc, rfl, rfl⟩

theorem seal2 {S : Nat → Prop} {B : List Box} {x y : AV} (z u : PV) (h : Sealed S B x y) : Sealed S B (.tup [.agg [x, .p z], .p u]) (.tup [.agg [y, .p z], .p u]) := by
  refine .tup _ _ rfl fun j c d hc hd => ?_
  match j with
  | 0 =>
    cases hc; cases hd
    refine .agg _ _ rfl fun j c d hc hd => ?_
    match j with
    | 0 => cases hc; cases hd; exact h
    | 1 => cases hc; cases hd; exact .p _
    | j + 2 => simp at hc
  | 1 => cases hc; cases hd; exact .p _
  | j + 2 => simp at hc

theorem sound16 : SoundF LP 16 (.pure g16) := sound_pureT (Γ := Γ16) (Δ := Δ16) (fn := Try.f16) mixedL Γ16_ok Δ16_ok (by kernel_rfl) (by kernel_rfl) (by kernel_rfl) (by
  rintro args r ⟨v, c, g, gc, rfl, rfl⟩
  refine ⟨rfl, rfl, _, T16_chk v c, T16_wp v c g gc (fun L n e hn => ?_) (fun e => ?_)⟩
  · rw [e]
    have : decide (n > 0) = true := decide_eq_true hn
    dsimp only
    rw [this]
    exact seal2 _ _ sealRow
  · rw [e]
    exact seal2 _ _ .nil)

end Go.Ax

namespace Go.Ax
open Go.Proofs Go.RowKit
set_option maxRecDepth 100000

def envG (l : List (Nat × FSpec)) : Env := fun f => match l with
  | [] => .none
  | (g, S) :: r => bif Nat.beq f g then S else envG r f
theorem envG_ok {P : Program} : ∀ {l : List (Nat × FSpec)}, (∀ p ∈ l, SoundF P p.1 p.2) → ∀ f, SoundF P f (envG l f)
  | [], _, f => sound_none f
  | (g, S) :: r, h, f => by
    unfold envG
    cases hb : Nat.beq f g with
    | true => have := Nat.eq_of_beq_eq_true hb; subst this; exact h (f, S) (by simp)
    | false => exact envG_ok (fun p hp => h p (by simp [hp])) f

noncomputable def ΓH1 : Env := envG [(25, .gen (fnF LP Γ0 8 Try.f25))]
noncomputable def ΓH2 : Env := envG [(37, .gen (fnF LP ΓH1 8 Try.f37))]
noncomputable def ΓH3 : Env := envG [(24, .gen (fnF LP ΓH2 8 Try.f24))]
noncomputable def ΓH4 : Env := envG [(23, .gen (fnF LP ΓH3 8 Try.f23))]
noncomputable def ΓH5 : Env := envG [(11, .gen (fnF LP ΓH4 8 Try.f11))]
theorem ΓH1_ok : ∀ f, SoundF LP f (ΓH1 f) := envG_ok (by simp; exact sound_fuel mixedL (fun f => sound_none f) (by kernel_rfl) (by kernel_rfl) 8)
theorem ΓH2_ok : ∀ f, SoundF LP f (ΓH2 f) := envG_ok (by simp; exact sound_fuel mixedL ΓH1_ok (by kernel_rfl) (by kernel_rfl) 8)
theorem ΓH3_ok : ∀ f, SoundF LP f (ΓH3 f) := envG_ok (by simp; exact sound_fuel mixedL ΓH2_ok (by kernel_rfl) (by kernel_rfl) 8)
theorem ΓH4_ok : ∀ f, SoundF LP f (ΓH4 f) := envG_ok (by simp; exact sound_fuel mixedL ΓH3_ok (by kernel_rfl) (by kernel_rfl) 8)
theorem ΓH5_ok : ∀ f, SoundF LP f (ΓH5 f) := envG_ok (by simp; exact sound_fuel mixedL ΓH4_ok (by kernel_rfl) (by kernel_rfl) 8)

def RHead : List AV → AV → Prop := fun args r => args = [] ∧ r = vb true
noncomputable def gHead := relG RHead
theorem gHead_eq : gHead [] = some (vb true) := relG_eq (by rintro args r r' ⟨_, rfl⟩ ⟨_, rfl⟩; rfl) ⟨rfl, rfl⟩

theorem head_run : (codeF LP ΓH5 8 25 (bodyOf Try.f8) ⟨tk [], []⟩).map (fun r => (r.1, r.2.t 0)) = some (.ret, vb true) := by kernel_rfl

theorem sound8 : SoundF LP 8 (.pure gHead) := fn_pure (fn := Try.f8) mixedL ΓH5_ok (by kernel_rfl) (by kernel_rfl) (by kernel_rfl) (by
  rintro args r ⟨rfl, rfl⟩
  exact ⟨rfl, rfl, .ret, _, _, _, .inl rfl, reckoned rfl rfl head_run, rfl, .p _⟩)

open Classical in
/-- Whether two lists hold the same. -/
noncomputable def sameL (A B : List Meta) : Bool := decide (A = B)
theorem sameL_refl (A : List Meta) : sameL A A = true := by unfold sameL; simp

noncomputable def ΓP : Env := envP [(8, gHead), (14, g14), (15, g15), (16, g16), (17, gOf), (18, g18)]
theorem ΓP_ok : ∀ f, SoundF LP f (ΓP f) := envP_ok (by simp; exact ⟨sound8, sound14, sound15, sound16, sound17, sound18⟩)
def ΔP : REnv := envR [(17, liftR R17), (19, liftR R19)]
theorem ΔP_ok : ∀ f, SoundR LP f (ΔP f) := envR_ok (by simp; exact ⟨lift_sound R17_ok, lift_sound R19_ok⟩)

end Go.Ax
