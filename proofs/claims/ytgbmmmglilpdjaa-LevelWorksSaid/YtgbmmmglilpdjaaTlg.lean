/- The law of Pick answers true. -/
import Derived.Test.YtgbmmmglilpdjaaTle
import Derived.Test.YtgbmmmglilpdjaaAx21
set_option linter.unusedVariables false
set_option linter.unusedSimpArgs false
namespace Go.Ax
open Go.Proofs Go.RowKit
set_option maxRecDepth 100000

/-! ### The order of strings -/
theorem ltB_irr : ∀ x : List UInt8, Op.bytesLess x x = false
  | [] => rfl
  | a :: x => by simp [Op.bytesLess, ltB_irr x]
theorem ltB_asym : ∀ x y : List UInt8, Op.bytesLess x y = true → Op.bytesLess y x = false
  | [], [], h => by simp [Op.bytesLess] at h
  | _ :: _, [], h => by simp [Op.bytesLess] at h
  | [], _ :: _, _ => by simp [Op.bytesLess]
  | a :: x, b :: y, h => by
    simp only [Op.bytesLess, Bool.or_eq_true, decide_eq_true_eq, Bool.and_eq_true, beq_iff_eq] at h
    have h1 : ¬ b < a := by
      rcases h with h | ⟨h, _⟩
      · rw [UInt8.lt_iff_toNat_lt] at h ⊢; omega
      · rw [h]; exact UInt8.lt_irrefl _
    have h2 : b = a → Op.bytesLess y x = false := fun e => by
      rcases h with h | ⟨_, h⟩
      · rw [e] at h; exact absurd h (UInt8.lt_irrefl _)
      · exact ltB_asym x y h
    simp only [Op.bytesLess, Bool.or_eq_false_iff, decide_eq_false_iff_not, Bool.and_eq_false_iff, beq_eq_false_iff_ne]
    refine ⟨h1, ?_⟩
    by_cases e : b = a
    · exact .inr (h2 e)
    · exact .inl e
theorem ltB_tri : ∀ x y : List UInt8, Op.bytesLess x y = false → Op.bytesLess y x = false → x = y
  | [], [], _, _ => rfl
  | _ :: _, [], _, h => by simp [Op.bytesLess] at h
  | [], _ :: _, h, _ => by simp [Op.bytesLess] at h
  | a :: x, b :: y, h, h' => by
    simp only [Op.bytesLess, Bool.or_eq_false_iff, decide_eq_false_iff_not, Bool.and_eq_false_iff, beq_eq_false_iff_ne] at h h'
    have e : a = b := by
      apply UInt8.toNat_inj.mp
      have h1 := h.1
      have h2 := h'.1
      rw [UInt8.lt_iff_toNat_lt] at h1 h2
      omega
    subst e
    rw [ltB_tri x y (h.2.resolve_left (by simp)) (h'.2.resolve_left (by simp))]

theorem le_iff (a b : ByteArray) : (Op.bytesLess a.toList b.toList || a.toList == b.toList) = !Op.bytesLess b.toList a.toList := by
  cases h : Op.bytesLess b.toList a.toList with
  | true =>
    have h1 := ltB_asym _ _ h
    rw [h1, Bool.false_or]
    simp only [Bool.not_true, beq_eq_false_iff_ne]
    intro e
    rw [e, ltB_irr] at h
    cases h
  | false =>
    cases h1 : Op.bytesLess a.toList b.toList with
    | true => rfl
    | false => rw [ltB_tri _ _ h1 h]; simp
theorem lowS_eq (a b : ByteArray) : lowS a b = if Op.bytesLess b.toList a.toList then b else a := by
  unfold lowS
  rw [le_iff]
  cases Op.bytesLess b.toList a.toList <;> simp
theorem highS_eq (a b : ByteArray) : highS a b = if !(Op.bytesLess b.toList a.toList || (b.toList == a.toList)) then b else a := by
  unfold highS
  rw [le_iff]
  cases Op.bytesLess a.toList b.toList <;> simp

/-! ### The span, as the law reckons it -/
theorem T6_l8 (v : Vers) (c : Conf) (g : Fine v) : ∀ (suf pre : List Meta) (lo hi : ByteArray), ofL 0 v.files = pre ++ suf →
    Rounds (T6_l8_e v c) (T6_l8_x v c) noX (fun s => (T6_l8_b v c s).wp) (lo, (pre.length : Int), hi) (.inl (suf.foldl (fun p x => (lowS p.1 x.low, highS p.2 x.high)) (lo, hi)))
  | [], pre, lo, hi, h => by
    have e : (ofL 0 v.files).length = pre.length := by rw [h]; simp
    refine .done (by simp [T6_l8_x]) ?_
    unfold T6_l8_b
    exact wp_sp (fun h => by have := of_decide_eq_true h; dsimp only at this; omega) (fun _ => wp_leaf rfl ⟨rfl, rfl⟩)
  | m :: suf, pre, lo, hi, h => by
    have e : (ofL 0 v.files).length = pre.length + (suf.length + 1) := by rw [h]; simp
    have hl := g.len 0
    have hm : (ofL 0 v.files)[Int.toNat (pre.length : Int)]? = some m := by rw [h]; simp
    have hlen : (pre ++ [m]).length = pre.length + 1 := by simp
    have ih := T6_l8 v c g suf (pre ++ [m]) (lowS lo m.low) (highS hi m.high) (by rw [h]; simp)
    rw [hlen] at ih
    refine .next ?_ ih
    unfold T6_l8_b
    dsimp only
    rw [lowS_eq, highS_eq]
    refine wp_sp (fun _ => wp_ridx (by omega) (by omega) (wp_rload m (by omega) rfl hm (wp_sp (fun a => wp_sp (fun b => ?_) (fun b => ?_)) (fun a => wp_sp (fun b => ?_) (fun b => ?_))))) (fun h => by have := of_decide_eq_false h; omega)
    all_goals rw [a, b]
    all_goals exact wp_i64 (by omega) (wp_leaf rfl ⟨rfl, rfl⟩)

theorem lowS_self (a : ByteArray) : lowS a a = a := by unfold lowS; split <;> rfl
theorem highS_self (a : ByteArray) : highS a a = a := by unfold highS; split <;> rfl

/-! ### The oldest -/
def oldF (b x : Meta) : Meta := if b.num == 0 then x else if x.num < b.num then x else b
theorem c31_eq {x b : Meta} (hx : x.num ≥ 1 ∧ x.num ≤ 1073741824) (hb : b.num ≥ 1 ∧ b.num ≤ 1073741824) : c31 x b = x.num - b.num := wrap_i64 (by omega)
theorem oldF_min : ∀ (L : List Meta) (b : Meta), (∀ m ∈ b :: L, m.num ≥ 1 ∧ m.num ≤ 1073741824) → L.foldl oldF b = L.foldl minF b
  | [], _, _ => rfl
  | m :: L, b, h => by
    have hb := h b (by simp)
    have hm := h m (by simp)
    have e : oldF b m = minF b m := by
      unfold oldF minF
      rw [c31_eq hm hb, if_neg (by simp; omega)]
      by_cases hh : m.num < b.num
      · rw [if_pos hh, if_pos (by omega)]
      · rw [if_neg hh, if_neg (by omega)]
    have h2 : (minF b m = b ∨ minF b m = m) := by unfold minF; split <;> simp
    rw [List.foldl_cons, List.foldl_cons, e]
    refine oldF_min L _ fun x hx => ?_
    rcases List.mem_cons.mp hx with rfl | hx
    · rcases h2 with h2 | h2 <;> rw [h2] <;> assumption
    · exact h x (by simp [hx])
theorem oldF_minL (L : List Meta) (h : ∀ m ∈ L, m.num ≥ 1 ∧ m.num ≤ 1073741824) : L.foldl oldF ⟨0, 0, ⟨#[]⟩, ⟨#[]⟩, 0⟩ = minL L := by
  cases L with
  | nil => rfl
  | cons m L => exact oldF_min L m h

theorem T6_l7 (v : Vers) (c : Conf) (g : Fine v) (s5 : List Meta × Int × Int × Int) : ∀ (suf pre : List Meta) (b : Meta), ofL s5.2.2.1 v.files = pre ++ suf →
    Rounds (T6_l7_e v c s5) (T6_l7_x v c s5) noX (fun s => (T6_l7_b v c s5 s).wp) (b, (pre.length : Int), sumL pre) (.inl (sumL (ofL s5.2.2.1 v.files), suf.foldl oldF b))
  | [], pre, b, h => by
    have e : (ofL s5.2.2.1 v.files).length = pre.length := by rw [h]; simp
    rw [h, List.append_nil]
    refine .done (by simp [T6_l7_x]) ?_
    unfold T6_l7_b
    exact wp_sp (fun h => by have := of_decide_eq_true h; dsimp only at this; omega) (fun _ => wp_leaf rfl ⟨rfl, rfl⟩)
  | m :: suf, pre, b, h => by
    have e : (ofL s5.2.2.1 v.files).length = pre.length + (suf.length + 1) := by rw [h]; simp
    have hl := g.len s5.2.2.1
    have hm : (ofL s5.2.2.1 v.files)[Int.toNat (pre.length : Int)]? = some m := by rw [h]; simp
    have ih := T6_l7 v c g s5 suf (pre ++ [m]) (oldF b m) (by rw [h]; simp)
    have hlen : (pre ++ [m]).length = pre.length + 1 := by simp
    have hs : sumL (pre ++ [m]) = sumL pre + m.size := by simp [sumL_append, sumL_cons, sumL]
    have hb := sumL_nn (L := pre) (fun x hx => (g.of (n := s5.2.2.1) (by rw [h]; simp [hx])).2.2)
    have hmb := (g.of (n := s5.2.2.1) (m := m) (by rw [h]; simp)).2.2
    rw [hlen, hs] at ih
    refine .next ?_ ih
    unfold T6_l7_b oldF
    dsimp only
    refine wp_sp (fun _ => wp_elem m (by omega) hm (wp_i64 (by omega) (wp_sp (fun a => ?_) (fun a => wp_sp (fun b => ?_) (fun b => ?_))))) (fun h => by have := of_decide_eq_false h; omega)
    · rw [a, if_pos rfl]
      exact wp_i64 (by omega) (wp_leaf rfl ⟨rfl, rfl⟩)
    · rw [a, if_neg (by simp), if_pos (of_decide_eq_true b)]
      exact wp_i64 (by omega) (wp_leaf rfl ⟨rfl, rfl⟩)
    · rw [a, if_neg (by simp), if_neg (of_decide_eq_false b)]
      exact wp_i64 (by omega) (wp_leaf rfl ⟨rfl, rfl⟩)

theorem T6_l5_end (v : Vers) (c : Conf) (L : List Meta) (n most out : Int) (ho : out > 0) : Rounds (T6_l5_e v c) (T6_l5_x v c) noX (fun s => (T6_l5_b v c s).wp) (L, most, n, out) (.inl (out, L)) := by
  refine .done (by simp [T6_l5_x]) ?_
  unfold T6_l5_b
  have h0 : (out == (0 : Int)) = false := by simp; omega
  refine wp_sp (fun _ => wp_sp (fun h => by dsimp only at h; rw [h0] at h; cases h) (fun _ => wp_join rfl ?_)) (fun _ => wp_join rfl ?_)
  all_goals
    unfold T6_j6
    exact wp_br (fun h => by cases h) (fun _ => wp_leaf rfl ⟨rfl, rfl⟩)

theorem T6_l5 (v : Vers) (c : Conf) (g : Fine v) : ∀ (k : Nat) (n most : Int), (k : Int) + n = 5 → 1 ≤ n → 1 ≤ most → most ≤ 67108864 * 256 / 4 ^ k →
    Rounds (T6_l5_e v c) (T6_l5_x v c) noX (fun s => (T6_l5_b v c s).wp) ([], most, n, 0) (.inl ((pickN v k n most).2, (pickN v k n most).1))
  | 0, n, most, h, h1, h2, h3 => by
    unfold pickN
    refine .done (by simp [T6_l5_x]) ?_
    unfold T6_l5_b
    refine wp_sp (fun h => by have := of_decide_eq_true h; dsimp only at this; omega) (fun _ => wp_join rfl ?_)
    unfold T6_j6
    exact wp_br (fun h => by cases h) (fun _ => wp_leaf rfl ⟨rfl, rfl⟩)
  | k + 1, n, most, h, h1, h2, h3 => by
    have hmost : most ≤ 67108864 * 256 / 4 := by
      refine Int.le_trans h3 ?_
      have : k + 1 ≤ 4 := by omega
      have : k = 0 ∨ k = 1 ∨ k = 2 ∨ k = 3 := by omega
      rcases this with rfl | rfl | rfl | rfl <;> decide
    have hl := g.len n
    have l7 := T6_l7 v c g ([], most, n, 0) (ofL n v.files) [] ⟨0, 0, ⟨#[]⟩, ⟨#[]⟩, 0⟩ rfl
    rw [oldF_minL _ (fun m hm => ⟨(g.of hm).1, (g.of hm).2.1⟩)] at l7
    have l7 : Rounds (T6_l7_e v c ([], most, n, 0)) (T6_l7_x v c ([], most, n, 0)) noX (fun s => (T6_l7_b v c ([], most, n, 0) s).wp) ((⟨0, 0, ⟨#[]⟩, ⟨#[]⟩, 0⟩ : Meta), (0 : Int), (0 : Int)) (.inl (sumL (ofL n v.files), minL (ofL n v.files))) := l7
    by_cases hs : sumL (ofL n v.files) > most
    · have e1 : pickN v (k + 1) n most = (minL (ofL n v.files) :: meetsL (n + 1) v.files (minL (ofL n v.files)).low (minL (ofL n v.files)).high, n + 1) := by unfold pickN; rw [if_pos hs]
      have hml := meetsL_len g (n + 1) (minL (ofL n v.files)).low (minL (ofL n v.files)).high
      rw [e1]
      refine .next ?_ (T6_l5_end v c _ (n + 1) (most * 4) (n + 1) (by omega))
      unfold T6_l5_b
      dsimp only
      refine wp_sp (fun _ => wp_sp (fun _ => wp_join rfl ?_) (fun h => by simp at h)) (fun h => by have := of_decide_eq_false h; omega)
      unfold T6_j6
      dsimp only
      refine wp_br (fun _ => wp_call (gOf_eq g.le) (wp_len (wp_loop _ rfl l7 (wp_sp (fun _ => wp_i64 (by omega) (wp_call (g18_eq g.le) (wp_app rfl rfl (by simp; omega) (wp_i64 (by omega) (wp_i64 (by omega) (wp_i64 (by omega) (wp_leaf rfl ⟨rfl, rfl⟩))))))) (fun h => by have := of_decide_eq_false h; omega))))) (fun h => by cases h)
    · have e1 : pickN v (k + 1) n most = pickN v k (n + 1) (most * 4) := by rw [pickN, if_neg hs]
      have ih := T6_l5 v c g k (n + 1) (most * 4) (by omega) (by omega) (by omega) (by
        have : k = 0 ∨ k = 1 ∨ k = 2 ∨ k = 3 := by omega
        rcases this with rfl | rfl | rfl | rfl <;> simp at h3 ⊢ <;> omega)
      rw [e1]
      refine .next ?_ ih
      unfold T6_l5_b
      dsimp only
      refine wp_sp (fun _ => wp_sp (fun _ => wp_join rfl ?_) (fun h => by simp at h)) (fun h => by have := of_decide_eq_false h; omega)
      unfold T6_j6
      dsimp only
      refine wp_br (fun _ => wp_call (gOf_eq g.le) (wp_len (wp_loop _ rfl l7 (wp_sp (fun h => by have := of_decide_eq_true h; omega) (fun _ => wp_i64 (by omega) (wp_i64 (by omega) (wp_leaf rfl ⟨rfl, rfl⟩))))))) (fun h => by cases h)

/-! ### The end -/
theorem L19 {L : List Meta} (hL : L.length ≤ 1000000) (b0 : List AV) : liftR R19 [vl (L.map metaE.f), .rs 1 0 5 0 L.length] [.cells false 0 b0, metaE.bx 0 L] (vb true) [.cells false 0 b0, metaE.bx 0 L] :=
  ⟨_, _, _, _, ⟨L, hL, rfl, rfl, rfl, rfl⟩, ⟨[1], [0], [metaE.bx 0 L], [metaE.bx 0 L], [], rfl, rfl, rfl, rfl, ⟨.row true 0 _, trivial⟩, ⟨.row true 0 _, trivial⟩, rfl, rfl, rfl⟩⟩

theorem pickL_len {v : Vers} (g : Fine v) (c : Conf) : (pickL v c).1.length ≤ 1000000 := by
  have h0 := g.len 0
  have hN : ∀ (k : Nat) (n most : Int), (pickN v k n most).1.length ≤ 1001 := fun k => by
    induction k with
    | zero => intro n most; simp [pickN]
    | succ k ih =>
      intro n most
      unfold pickN
      split
      · have := meetsL_len g (n + 1) (minL (ofL n v.files)).low (minL (ofL n v.files)).high
        simp; omega
      · exact ih _ _
  unfold pickL
  by_cases hh : ((ofL 0 v.files).length : Int) ≥ (if (1 : Int) < c.files then c.files else 1)
  · rw [if_pos hh]
    have := meetsL_len g 1 (spanL (ofL 0 v.files)).1 (spanL (ofL 0 v.files)).2
    rw [List.length_append]; omega
  · rw [if_neg hh]
    have := hN 4 1 c.size
    omega

theorem T6_j4_wp (v : Vers) (c : Conf) (g : Fine v) (j : Int × List Meta) {K : AE → St → Prop} (h : K .ret ([(0, vb true)], []))
    (l : Rounds (T6_l5_e v c) (T6_l5_x v c) noX (fun s => (T6_l5_b v c s).wp) (j.2, c.size, 1, j.1) (.inl ((pickL v c).2, (pickL v c).1))) : (T6_j4 v c j).wp K := by
  unfold T6_j4
  refine wp_loop _ rfl l (wp_sp (fun _ => wp_sp (fun _ => wp_callr ?_ (wp_leaf rfl ?_)) (fun h => by simp at h)) (fun h => by simp at h))
  · dsimp only
    rw [sameL_refl]
    exact L19 (pickL_len g c) _
  · dsimp only
    rw [sameL_refl]
    exact h

theorem T6_j3_wp (v : Vers) (c : Conf) (b : Bool) (hb : b = false → Fine v ∧ FineC c) {K : AE → St → Prop} (h : K .ret ([(0, vb true)], [])) : (T6_j3 v c b).wp K := by
  unfold T6_j3
  refine wp_br (fun _ => wp_leaf rfl h) (fun e => ?_)
  obtain ⟨g, gc⟩ := hb e
  obtain ⟨c1, c2, c3, c4⟩ := id gc
  have hl := g.len 0
  have hml := meetsL_len g 1 (spanL (ofL 0 v.files)).1 (spanL (ofL 0 v.files)).2
  have hmx : (if (1 : Int) < c.files then c.files else 1) = c.files := by split <;> omega
  refine wp_call (g16_eq g gc) (wp_call (gOf_eq g.le) (wp_len (wp_sp (fun h1 => ?_) (fun h1 => ?_))))
  · have h1 := of_decide_eq_true h1
    have ep : pickL v c = (ofL 0 v.files ++ meetsL 1 v.files (spanL (ofL 0 v.files)).1 (spanL (ofL 0 v.files)).2, 1) := by
      unfold pickL
      rw [hmx, if_pos h1]
    cases hL : ofL 0 v.files with
    | nil => rw [hL] at h1; simp at h1; omega
    | cons m L =>
      have l8 := T6_l8 v c g (ofL 0 v.files) [] m.low m.high rfl
      have e8 : (ofL 0 v.files).foldl (fun p x => (lowS p.1 x.low, highS p.2 x.high)) (m.low, m.high) = spanL (ofL 0 v.files) := by
        rw [hL]
        show L.foldl _ (lowS m.low m.low, highS m.high m.high) = _
        rw [lowS_self, highS_self]
        rfl
      rw [e8] at l8
      have hm : (ofL 0 v.files)[0]? = some m := by rw [hL]; rfl
      rw [← hL]
      refine wp_callr (L17 g.le _) (wp_ridx (by omega) (by omega) (wp_rload m (by omega) rfl hm (wp_ridx (by omega) (by omega) (wp_rload m (by omega) rfl hm (wp_loop _ rfl l8 (wp_call (g18_eq g.le) (wp_app rfl rfl (by simp; omega) (wp_go (wp_join rfl ?_)))))))))
      refine T6_j4_wp v c g _ h ?_
      rw [ep]
      exact T6_l5_end v c _ 1 c.size 1 (by omega)
  · have h1 := of_decide_eq_false h1
    have ep : pickL v c = pickN v 4 1 c.size := by
      unfold pickL
      rw [hmx, if_neg h1]
    refine wp_go (wp_join rfl (T6_j4_wp v c g _ h ?_))
    rw [ep]
    exact T6_l5 v c g 4 1 c.size rfl (by omega) c3 (by simp; omega)

theorem fine_of {v : Vers} (h : Vers.check v = 0) : Fine v := by
  unfold Vers.check at h
  split at h
  · cases h
  · split at h
    · cases h
    · split at h
      · cases h
      · rename_i h2 h3
        refine ⟨by omega, fun m hm => ?_⟩
        have h3 : (List.range v.files.length).all (fileOk v) = true := Classical.byContradiction h3
        rw [List.all_eq_true] at h3
        obtain ⟨i, hi, e⟩ := List.getElem_of_mem hm
        have h4 := h3 i (by simpa using hi)
        simp only [fileOk, Bool.and_eq_true] at h4
        have e1 : at' v.files i = m := by
          have := at_get hi
          rw [List.getElem?_eq_getElem hi, e] at this
          exact (Option.some.inj this).symm
        have h5 := h4.1.1
        rw [e1] at h5
        simp only [Meta.ok, Bool.and_eq_true, decide_eq_true_eq] at h5
        omega

theorem T6_wp (v : Vers) (c : Conf) {K : AE → St → Prop} (h : K .ret ([(0, vb true)], [])) : (T6 v c).wp K := by
  have step : ∀ b : Bool, b = decide (1 ≤ c.files ∧ c.files ≤ 100 ∧ 1 ≤ c.size ∧ c.size ≤ 67108864 ∧ 1 ≤ c.cut ∧ c.cut ≤ 1048576) → (T6_j1 v c b).wp K := by
    intro b hb
    have hc : c.check = if b then 0 else 1 := by
      unfold Conf.check
      by_cases hh : 1 ≤ c.files ∧ c.files ≤ 100 ∧ 1 ≤ c.size ∧ c.size ≤ 67108864 ∧ 1 ≤ c.cut ∧ c.cut ≤ 1048576
      · rw [hb, decide_eq_true hh, if_neg (by omega)]; rfl
      · rw [hb, decide_eq_false hh, if_pos (by omega)]; rfl
    have j2 : ((T6_j2 v c b) false).wp K := by
      unfold T6_j2
      refine wp_br (fun e => by cases e) (fun _ => wp_sp (fun e => ?_) (fun _ => wp_join rfl (T6_j3_wp v c true (fun e => by cases e) h)))
      have gc : FineC c := by
        rw [e] at hb
        have := of_decide_eq_true hb.symm
        exact ⟨this.1, this.2.1, this.2.2.1, this.2.2.2.1⟩
      refine wp_len (wp_sp (fun _ => wp_join rfl (T6_j3_wp v c true (fun e => by cases e) h)) (fun _ => wp_call (g15_eq v) (wp_sp (fun _ => wp_join rfl (T6_j3_wp v c true (fun e => by cases e) h)) (fun hk => wp_join rfl (T6_j3_wp v c false (fun _ => ⟨fine_of (by simpa using hk), gc⟩) h)))))
    unfold T6_j1
    refine wp_call (g14_eq c) (wp_sp (fun e => ?_) (fun e => wp_sp (fun _ => wp_join rfl j2) (fun hb' => wp_call (g14_eq c) (wp_sp (fun e => ?_) (fun _ => wp_join rfl j2)))))
    · rw [hc] at e
      cases b <;> simp at e
    · rw [hc, hb'] at e
      simp at e
  unfold T6
  refine wp_call gHead_eq ?_
  repeat' first | refine wp_join rfl ?_ | refine wp_sp (fun _ => ?_) (fun _ => ?_)
  all_goals simp only [decide_eq_true_eq, decide_eq_false_iff_not] at *
  all_goals refine step _ ?_
  all_goals first | (symm; apply decide_eq_true; omega) | (symm; apply decide_eq_false; omega)

def R6 : List AV → AV → Prop := fun args r => ∃ (v : Vers) (c : Conf), args = [.agg [vl (v.files.map metaE.f), vi v.log, vi v.next, vn .u64 v.seq], .agg [vi c.files, vi c.size, vi c.cut]] ∧ r = vb true
noncomputable def g6 := relG R6
theorem R6_det (args : List AV) (r r' : AV) (h : R6 args r) (h' : R6 args r') : r = r' := by
  obtain ⟨_, _, _, rfl⟩ := h
  obtain ⟨_, _, _, rfl⟩ := h'
  rfl
theorem sound6 : SoundF LP 6 (.pure g6) := sound_pureT (Γ := ΓP) (Δ := ΔP) (fn := Try.f6) mixedL ΓP_ok ΔP_ok (by kernel_rfl) (by kernel_rfl) (by kernel_rfl) (by
  rintro args r ⟨v, c, rfl, rfl⟩
  exact ⟨rfl, rfl, _, T6_chk v c, T6_wp v c (.p _)⟩)

end Go.Ax

namespace Go.Ax
open Go.Proofs Go.RowKit
set_option maxRecDepth 100000

/-- A file that is read. -/
theorem open_meta {H : Type} {enc : TypeId × Value → H} {w : World} {base : Nat} {spare : Nat → Bool} {held : Bool} {O : Nat → Prop} (n : Nat) (cs' : List Value) (y : DataW H × List MemPlace) (h : DataW.trod enc Try.prog w base spare held n 51 cs' = some y) :
    ∃ a : Meta, True ∧ cs'.length = 5 ∧ ∀ (r : Nat) (p : PV) (u : Value), (metaE.f a).cells[r]? = some p → cs'[r]? = some u → PRel O w p u := by
  obtain ⟨xs, n, _, rfl, hl, hlen, hf⟩ := DataW.trod_struct Try.underlying51 h
  have hc : Try.prog.cellsOf 51 = 5 := by kernel_rfl
  have c9 : Try.prog.cellsOf 9 = 1 := by kernel_rfl
  have c3 : Try.prog.cellsOf 3 = 1 := by kernel_rfl
  rw [hc] at hl
  have h0 := hf 0 _ rfl
  have h1 := hf 1 _ rfl
  have h2 := hf 2 _ rfl
  have h3 := hf 3 _ rfl
  have h4 := hf 4 _ rfl
  have h0 : DataW.trod enc Try.prog w base spare held n 3 ((cs'.drop 0).take (Try.prog.cellsOf 3)) = xs[0]? := h0
  have h1 : DataW.trod enc Try.prog w base spare held n 3 ((cs'.drop 1).take (Try.prog.cellsOf 3)) = xs[1]? := h1
  have h2 : DataW.trod enc Try.prog w base spare held n 9 ((cs'.drop 2).take (Try.prog.cellsOf 9)) = xs[2]? := h2
  have h3 : DataW.trod enc Try.prog w base spare held n 9 ((cs'.drop 3).take (Try.prog.cellsOf 9)) = xs[3]? := h3
  have h4 : DataW.trod enc Try.prog w base spare held n 3 ((cs'.drop 4).take (Try.prog.cellsOf 3)) = xs[4]? := h4
  rw [c3] at h0 h1 h4
  rw [c9] at h2 h3
  match cs', hl, xs, hlen with
  | [v0, v1, v2, v3, v4], _, [x0, x1, x2, x3, x4], _ =>
    obtain ⟨a, e0, _, _⟩ := DataW.trod_int Try.underlying3 h0
    obtain ⟨b, e1, _, _⟩ := DataW.trod_int Try.underlying3 h1
    obtain ⟨c, e2, _, _⟩ := DataW.trod_string Try.underlying9 h2
    obtain ⟨d, e3, _, _⟩ := DataW.trod_string Try.underlying9 h3
    obtain ⟨e, e4, _, _⟩ := DataW.trod_int Try.underlying3 h4
    simp at e0 e1 e2 e3 e4
    subst e0 e1 e2 e3 e4
    refine ⟨⟨a, b, c, d, e⟩, trivial, rfl, fun r p u hp hu => ?_⟩
    match r with
    | 0 => cases hp; cases hu; exact .v _
    | 1 => cases hp; cases hu; exact .v _
    | 2 => cases hp; cases hu; exact .v _
    | 3 => cases hp; cases hu; exact .v _
    | 4 => cases hp; cases hu; exact .v _
    | r + 5 => simp [metaE, PV.cells] at hp

theorem vrel_i {w : World} {ρ : Loc} (k : IntKind) (n : Int) : VRel noF [] ρ w (vn k n) (.int k n) := .p _ _ (.v _)

/-- A list of files that comes in. -/
theorem open_metas {H : Type} {enc : TypeId × Value → H} {w : World} {base : Nat} {spare : Nat → Bool} {held : Bool} {ρ : Loc} {t : TypeId} (ht : Try.prog.underlying t = some (.slice 51)) {fuel : Nat} {v : Value} {x : DataW H × List MemPlace} (h : DataW.trod enc Try.prog w base spare held fuel t [v] = some x) :
    ∃ L : List Meta, VRel noF [] ρ w (vl (L.map metaE.f)) v := by
  obtain ⟨L, _, h⟩ := open_list (O := Own noF [] ρ) (fun k => not_own) ht metaE.elt (by decide) (by kernel_rfl) (fun n cs' y hy => open_meta n cs' y hy) h
  exact ⟨L, .p _ _ h⟩

/-- A version that comes in. -/
theorem open_vers {H : Type} {enc : TypeId × Value → H} {w : World} {base : Nat} {spare : Nat → Bool} {held : Bool} {ρ : Loc} {r : Reach} {b0 : Nat} {v : Value} {d : DataW H} {p : List MemPlace}
    (hv : Value.okWide Try.prog w r b0 40 v) (h : DataW.Trod enc Try.prog w base spare held 40 v d p) :
    ∃ V : Vers, VRel noF [] ρ w (.agg [vl (V.files.map metaE.f), vi V.log, vi V.next, vn .u64 V.seq]) v := by
  obtain ⟨v0, v1, v2, v3, y0, y1, y2, y3, n, rfl, _, _, h0, h1, h2, h3⟩ := Go.Joins.open_agg4 Try.underlying40 (by kernel_rfl) (by kernel_rfl) hv h
  obtain ⟨L, w0⟩ := open_metas (ρ := ρ) Try.underlying38 h0
  obtain ⟨a, e1, _, _⟩ := DataW.trod_int Try.underlying3 h1
  obtain ⟨b, e2, _, _⟩ := DataW.trod_int Try.underlying3 h2
  obtain ⟨c, e3, _, _⟩ := DataW.trod_int Try.underlying28 h3
  simp at e1 e2 e3
  subst e1 e2 e3
  refine ⟨⟨L, a, b, c⟩, .agg _ [v0, .int .i64 a, .int .i64 b, .int .u64 c] rfl fun j p u hp hu => ?_⟩
  match j with
  | 0 => cases hp; cases hu; exact w0
  | 1 => cases hp; cases hu; exact vrel_i _ _
  | 2 => cases hp; cases hu; exact vrel_i _ _
  | 3 => cases hp; cases hu; exact vrel_i _ _
  | j + 4 => simp at hp

/-- Limits that come in. -/
theorem open_conf {H : Type} {enc : TypeId × Value → H} {w : World} {base : Nat} {spare : Nat → Bool} {held : Bool} {ρ : Loc} {r : Reach} {b0 : Nat} {v : Value} {d : DataW H} {p : List MemPlace}
    (hv : Value.okWide Try.prog w r b0 42 v) (h : DataW.Trod enc Try.prog w base spare held 42 v d p) :
    ∃ c : Conf, VRel noF [] ρ w (.agg [vi c.files, vi c.size, vi c.cut]) v := by
  obtain ⟨v1, v2, v3, y1, y2, y3, n, rfl, _, _, h1, h2, h3⟩ := Go.Joins.open_agg3 Try.underlying42 (by kernel_rfl) (by kernel_rfl) hv h
  obtain ⟨a, e1, _, _⟩ := DataW.trod_int Try.underlying3 h1
  obtain ⟨b, e2, _, _⟩ := DataW.trod_int Try.underlying3 h2
  obtain ⟨c, e3, _, _⟩ := DataW.trod_int Try.underlying3 h3
  simp at e1 e2 e3
  subst e1 e2 e3
  refine ⟨⟨a, b, c⟩, .agg _ [.int .i64 a, .int .i64 b, .int .i64 c] rfl fun j p u hp hu => ?_⟩
  match j with
  | 0 => cases hp; cases hu; exact vrel_i _ _
  | 1 => cases hp; cases hu; exact vrel_i _ _
  | 2 => cases hp; cases hu; exact vrel_i _ _
  | j + 3 => simp at hp

end Go.Ax
