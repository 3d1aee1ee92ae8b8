/- Meets, MinFunc, Check, span and same of a live row. -/
import Derived.Test.YtgbmmmglilpdjaaTl9
set_option linter.unusedVariables false
set_option linter.unusedSimpArgs false
namespace Go.Ax
open Go.Proofs Go.RowKit
set_option maxRecDepth 100000

noncomputable def meetsL (lv : Int) (files : List Meta) (lo hi : ByteArray) : List Meta := keepL (ofL lv files) lo hi
def vargs (v : Vers) : AV := .agg [vl (v.files.map metaE.f), vi v.log, vi v.next, vn .u64 v.seq]
theorem vargs_inj {v w : Vers} (h : AV.agg [vl (v.files.map metaE.f), vi v.log, vi v.next, vn .u64 v.seq] = AV.agg [vl (w.files.map metaE.f), vi w.log, vi w.next, vn .u64 w.seq]) : v = w := by
  cases v; cases w
  simp at h
  obtain ⟨h1, h2, h3, h4⟩ := h
  have h1 := f_inj (by simpa using h1)
  simp [h1, h2, h3, h4]

theorem keep_len (L : List Meta) (lo hi : ByteArray) : (keepL L lo hi).length ≤ L.length := List.length_filter_le _ _

theorem L17 {v : Vers} {lv : Int} (hv : v.files.length ≤ 1000000) (B : List Box) : liftR R17 [.agg [vl (v.files.map metaE.f), vi v.log, vi v.next, vn .u64 v.seq], vi lv] B (.rs B.length 0 5 0 (ofL lv v.files).length) (B ++ [metaE.bx 0 (ofL lv v.files)]) :=
  ⟨_, _, _, _, ⟨v, lv, hv, rfl, rfl, rfl, rfl⟩, ⟨[], [], [], [], [metaE.bx 0 (ofL lv v.files)], by simp [noDup], rfl, rfl, rfl, trivial, ⟨.row true 0 _, trivial⟩, by simp [outB], by simp [AV.rv, fNew, dNew], rfl⟩⟩

theorem T29_wp (v : Vers) (lv : Int) (lo hi : ByteArray) (hv : v.files.length ≤ 1000000) {K : AE → St → Prop}
    (h : K .ret ([(0, .rs 0 0 5 0 (meetsL lv v.files lo hi).length)], [metaE.bx 0 (meetsL lv v.files lo hi ++ List.replicate ((ofL lv v.files).length - (meetsL lv v.files lo hi).length) dM)])) : (T29 v lv lo hi).wp K := by
  unfold T29
  refine wp_callr (L17 hv _) (wp_callr ?_ (wp_leaf rfl h))
  exact ⟨_, _, _, _, ⟨ofL lv v.files, lo, hi, by have := ofL_len lv hv; omega, rfl, rfl, rfl, rfl⟩, ⟨[3, 1, 2], [0, 0, 0], [metaE.bx 0 (ofL lv v.files), .cells false 0 [vs lo], .cells false 0 [vs hi]],
    [metaE.bx 0 (keepL (ofL lv v.files) lo hi ++ List.replicate ((ofL lv v.files).length - (keepL (ofL lv v.files) lo hi).length) dM), .cells false 0 [vs lo], .cells false 0 [vs hi]], [], rfl, rfl, rfl, rfl,
    ⟨.row true 0 _, .cells rfl rfl rfl, .cells rfl rfl rfl, trivial⟩, ⟨.row true 0 _, .cells rfl rfl rfl, .cells rfl rfl rfl, trivial⟩, rfl, rfl, rfl⟩⟩

def Rmeets : List AV → AV → Prop := fun args r => ∃ (v : Vers) (lv : Int) (lo hi : ByteArray), v.files.length ≤ 1000000 ∧ args = [.agg [vl (v.files.map metaE.f), vi v.log, vi v.next, vn .u64 v.seq], vi lv, vs lo, vs hi] ∧ r = vl ((meetsL lv v.files lo hi).map metaE.f)
theorem Rmeets_det (args : List AV) (r r' : AV) (h : Rmeets args r) (h' : Rmeets args r') : r = r' := by
  obtain ⟨v1, lv1, lo1, hi1, _, e1, rfl⟩ := h
  obtain ⟨v2, lv2, lo2, hi2, _, e2, rfl⟩ := h'
  rw [e1] at e2
  simp only [List.cons.injEq, and_true] at e2
  obtain ⟨h1, h2, h3, h4⟩ := e2
  have := vargs_inj h1
  subst this
  simp at h2 h3 h4
  rw [h2, h3, h4]
noncomputable def g29 := relG Rmeets
noncomputable def g18 := relG Rmeets
theorem g29_eq {v : Vers} {lv : Int} {lo hi : ByteArray} (hv : v.files.length ≤ 1000000) : g29 [.agg [vl (v.files.map metaE.f), vi v.log, vi v.next, vn .u64 v.seq], vi lv, vs lo, vs hi] = some (vl ((meetsL lv v.files lo hi).map metaE.f)) := relG_eq Rmeets_det ⟨v, lv, lo, hi, hv, rfl, rfl⟩

theorem sealPart {L M : List Meta} : Sealed (fun _ => True) [metaE.bx 0 (L ++ M)] (.rs 0 0 5 0 L.length) (vl (L.map metaE.f)) := by
  refine .row 0 0 5 0 L.length true (rowC ((L ++ M).map metaE.f)) (L.map metaE.f) trivial rfl (by simp) ?_ ?_
  · rw [List.drop_zero, show L.length * 5 = L.length * metaE.sz from rfl, take_row, List.take_left']
    · rfl
    · rfl
  · rw [metaE.elt.rowLen, List.length_append, show metaE.sz = 5 from rfl]
    omega

theorem sound29 : SoundF LP 29 (.pure g29) := sound_pureT (Γ := Γ0) (Δ := ΔM) (fn := Try.f29) mixedL Γ0_ok ΔM_ok (by kernel_rfl) (by kernel_rfl) (by kernel_rfl) (by
  rintro args r ⟨v, lv, lo, hi, hv, rfl, rfl⟩
  exact ⟨rfl, rfl, _, T29_chk v lv lo hi, T29_wp v lv lo hi hv sealPart⟩)

/-! ### The law's 'meets' -/
theorem T18_l1 (v : Vers) (lv : Int) (lo hi : ByteArray) (hv : v.files.length ≤ 1000000) : ∀ (suf pre L : List Meta), ofL lv v.files = pre ++ suf → L.length ≤ pre.length →
    Rounds (T18_l1_e v lv lo hi) T18_l1_x noX (fun s => (T18_l1_b v lv lo hi s).wp) (L, (pre.length : Int)) (.inl (L ++ keepL suf lo hi))
  | [], pre, L, h, hL => by
    have e : (ofL lv v.files).length = pre.length := by rw [h]; simp
    refine .done (by simp [T18_l1_x]) ?_
    unfold T18_l1_b
    simp only [keepL, List.filter_nil, List.append_nil]
    exact wp_sp (fun h => by have := of_decide_eq_true h; omega) (fun _ => wp_leaf rfl ⟨rfl, rfl⟩)
  | m :: suf, pre, L, h, hL => by
    have e : (ofL lv v.files).length = pre.length + (suf.length + 1) := by rw [h]; simp
    have hle := ofL_len lv hv
    have hm : (ofL lv v.files)[Int.toNat (pre.length : Int)]? = some m := by rw [h]; simp
    have hnx : ofL lv v.files = (pre ++ [m]) ++ suf := by rw [h]; simp
    have hlen : (pre ++ [m]).length = pre.length + 1 := by simp
    have hk : keepL (m :: suf) lo hi = if missB m lo hi then keepL suf lo hi else m :: keepL suf lo hi := keep_cons m suf lo hi
    rw [hk]
    cases hmi : missB m lo hi with
    | true =>
      have ih := T18_l1 v lv lo hi hv suf (pre ++ [m]) L hnx (by simp; omega)
      rw [if_pos rfl]
      refine .next ?_ ih
      unfold missB at hmi
      unfold T18_l1_b
      dsimp only
      refine wp_sp (fun _ => wp_elem m (by omega) hm (wp_sp (fun h1 => wp_sp (fun h2 => ?_) (fun h2 => ?_)) (fun h1 => ?_))) (fun h => by have := of_decide_eq_false h; omega)
      · simp_all
      all_goals refine wp_i64 (by omega) (wp_leaf rfl ⟨rfl, ?_⟩)
      all_goals rw [hlen]; rfl
    | false =>
      have ih := T18_l1 v lv lo hi hv suf (pre ++ [m]) (L ++ [m]) hnx (by simp; omega)
      rw [if_neg (by simp)]
      rw [List.append_assoc] at ih
      refine .next ?_ ih
      unfold missB at hmi
      unfold T18_l1_b
      dsimp only
      refine wp_sp (fun _ => wp_elem m (by omega) hm (wp_sp (fun h1 => wp_sp (fun h2 => ?_) (fun h2 => ?_)) (fun h1 => ?_))) (fun h => by have := of_decide_eq_false h; omega)
      · refine wp_app ⟨rfl, rfl⟩ rfl (by simp; omega) (wp_i64 (by omega) (wp_leaf rfl ⟨rfl, ?_⟩))
        rw [hlen]; rfl
      · simp_all
      · simp_all

theorem T18_wp (v : Vers) (lv : Int) (lo hi : ByteArray) (hv : v.files.length ≤ 1000000) {K : AE → St → Prop}
    (h : K .ret ([(0, .rs 0 0 5 0 (meetsL lv v.files lo hi).length)], [metaE.bx 0 (meetsL lv v.files lo hi)])) : (T18 v lv lo hi).wp K := by
  have l := T18_l1 v lv lo hi hv (ofL lv v.files) [] [] rfl (Nat.le_refl _)
  rw [List.nil_append] at l
  unfold T18
  exact wp_call (gOf_eq hv) (wp_len (wp_loop _ rfl l (wp_leaf rfl h)))
theorem g18_eq {v : Vers} {lv : Int} {lo hi : ByteArray} (hv : v.files.length ≤ 1000000) : g18 [.agg [vl (v.files.map metaE.f), vi v.log, vi v.next, vn .u64 v.seq], vi lv, vs lo, vs hi] = some (vl ((meetsL lv v.files lo hi).map metaE.f)) := relG_eq Rmeets_det ⟨v, lv, lo, hi, hv, rfl, rfl⟩
theorem sound18 : SoundF LP 18 (.pure g18) := sound_pureT (Γ := Γ18) (Δ := Δ0) (fn := Try.f18) mixedL Γ18_ok Δ0_ok (by kernel_rfl) (by kernel_rfl) (by kernel_rfl) (by
  rintro args r ⟨v, lv, lo, hi, hv, rfl, rfl⟩
  exact ⟨rfl, rfl, _, T18_chk v lv lo hi, T18_wp v lv lo hi hv sealRow⟩)

theorem sealAgg {S : Nat → Prop} {B : List Box} (cs : List PV) : Sealed S B (.agg (cs.map .p)) (.agg (cs.map .p)) :=
  .agg _ _ rfl fun j c d hc hd => by
    rw [hc] at hd
    cases hd
    rw [List.getElem?_map] at hc
    cases hx : cs[j]? with
    | none => rw [hx] at hc; cases hc
    | some x => rw [hx] at hc; cases hc; exact .p x

/-! ### MinFunc -/
def minF (b x : Meta) : Meta := if c31 x b < 0 then x else b
def minL : List Meta → Meta
  | [] => dM
  | m :: L => L.foldl minF m

theorem T30_l1 (L : List Meta) (hN : L.length ≤ 1000000) : ∀ (suf pre : List Meta) (b : Meta), L = pre ++ suf → Rounds (T30_l1_e L) T30_l1_x noX (fun s => (T30_l1_b L s).wp) (b, (pre.length : Int)) (.inl (suf.foldl minF b))
  | [], pre, b, h => by
    have e : L.length = pre.length := by rw [h]; simp
    refine .done (by simp [T30_l1_x]) ?_
    unfold T30_l1_b
    exact wp_len (wp_sp (fun h => by have := of_decide_eq_true h; dsimp only at this; omega) (fun _ => wp_leaf rfl ⟨rfl, rfl⟩))
  | m :: suf, pre, b, h => by
    have e : L.length = pre.length + (suf.length + 1) := by rw [h]; simp
    have hm : L[Int.toNat (pre.length : Int)]? = some m := by rw [h]; simp
    have ih := T30_l1 L hN suf (pre ++ [m]) (minF b m) (by rw [h]; simp)
    have hlen : (pre ++ [m]).length = pre.length + 1 := by simp
    refine .next ?_ ih
    unfold T30_l1_b minF
    dsimp only
    refine wp_len (wp_sp (fun _ => wp_elem m (by omega) hm (wp_call (g31_eq m b) (wp_sp (fun hc => ?_) (fun hc => ?_)))) (fun h => by have := of_decide_eq_false h; omega))
    · rw [if_pos (of_decide_eq_true hc)]
      refine wp_elemk (by omega) hm (wp_i64 (by omega) (wp_leaf rfl ⟨rfl, ?_⟩))
      rw [hlen]; rfl
    · rw [if_neg (of_decide_eq_false hc)]
      refine wp_i64 (by omega) (wp_leaf rfl ⟨rfl, ?_⟩)
      rw [hlen]; rfl

theorem T30_wp (L : List Meta) (hN : L.length ≤ 1000000) (h0 : L ≠ []) {K : AE → St → Prop} (h : K .ret ([(0, metaE.av (minL L))], [])) : (T30 L).wp K := by
  cases L with
  | nil => exact absurd rfl h0
  | cons m L =>
    unfold T30
    exact wp_len (wp_sp (fun h => by have := of_decide_eq_true h; simp at this; omega) (fun _ => wp_elem m (by omega) rfl (wp_loop _ rfl (T30_l1 (m :: L) hN L [m] m rfl) (wp_leaf rfl h))))

def R30 : List AV → AV → Prop := fun args r => ∃ L : List Meta, L.length ≤ 1000000 ∧ L ≠ [] ∧ args = [vl (L.map metaE.f), .fn 31 []] ∧ r = metaE.av (minL L)
noncomputable def g30 := relG R30
theorem g30_eq {L : List Meta} (hN : L.length ≤ 1000000) (h0 : L ≠ []) : g30 [vl (L.map metaE.f), .fn 31 []] = some (metaE.av (minL L)) := relG_eq (by
  rintro args r r' ⟨x1, _, _, e1, rfl⟩ ⟨x2, _, _, e2, rfl⟩
  rw [e1] at e2
  simp only [List.cons.injEq, and_true] at e2
  have : x1 = x2 := f_inj (by simpa using e2)
  rw [this]) ⟨L, hN, h0, rfl, rfl⟩
theorem sound30 : SoundF LP 30 (.pure g30) := sound_pureT (Γ := Γ31) (Δ := Δ0) (fn := Try.f30) mixedL Γ31_ok Δ0_ok (by kernel_rfl) (by kernel_rfl) (by kernel_rfl) (by
  rintro args r ⟨L, hN, h0, rfl, rfl⟩
  exact ⟨rfl, rfl, _, T30_chk L, T30_wp L hN h0 (sealAgg _)⟩)

/-! ### Check of a version -/
def NumsUp : List Meta → Prop
  | [] => True
  | [_] => True
  | x :: y :: L => x.num < y.num ∧ NumsUp (y :: L)
/-- What the program's check of a version comes to. -/
noncomputable def levelOk (n : Int) (files : List Meta) : Bool := (List.range ((ofL n files).length - 1)).all fun i => Op.bytesLess (at' (ofL n files) i).high.toList (at' (ofL n files) (i + 1)).low.toList
def fileOk (v : Vers) (i : Nat) : Bool := (at' v.files i).ok && decide ((at' v.files i).num < v.next) && (decide (i = 0) || decide ((at' v.files (i - 1)).num < (at' v.files i).num))
noncomputable def Vers.check (v : Vers) : Int :=
  if v.log < 1 ∨ v.log > 1073741824 ∨ v.next < 1 ∨ v.next > 1073741824 ∨ v.seq > 72057594037927935 then 1 else
  if v.files.length > 1000 then 3 else
  if ¬ (List.range v.files.length).all (fileOk v) = true then 1 else
  if ([1, 2, 3, 4, 5] : List Int).all (fun n => levelOk n v.files) then 0 else 1

theorem T15_l2 (v : Vers) (hv : v.files.length ≤ 1000) : ∀ (k i : Nat), i + k = v.files.length → Rounds (T15_l2_e v) T15_l2_x (T15_l2_x' v) (fun s => (T15_l2_b v s).wp) (i : Int) (if (List.range' i k).all (fileOk v) then .inr () else .inl ())
  | 0, i, h => by
    rw [if_pos (by simp)]
    refine .done' (by simp [T15_l2_x']) ?_
    unfold T15_l2_b
    exact wp_sp (fun h => by have := of_decide_eq_true h; omega) (fun _ => wp_leaf rfl ⟨rfl, rfl⟩)
  | k + 1, i, h => by
    have ih := T15_l2 v hv k (i + 1) (by omega)
    have hi : v.files[Int.toNat (i : Int)]? = some (at' v.files i) := at_get (by omega)
    rw [List.range'_succ, List.all_cons]
    cases hf : fileOk v i with
    | true =>
      rw [Bool.true_and]
      refine .next ?_ ih
      simp only [fileOk, Bool.and_eq_true, decide_eq_true_eq, Bool.or_eq_true] at hf
      obtain ⟨⟨f1, f2⟩, f3⟩ := hf
      unfold T15_l2_b
      refine wp_sp (fun _ => wp_elem (at' v.files i) (by omega) hi (wp_call (g27_eq _) (wp_sp (fun _ => wp_sp (fun h => by have := of_decide_eq_true h; omega) (fun _ => wp_sp (fun h => ?_) (fun h => ?_))) (fun h => by rw [f1] at h; cases h)))) (fun h => by have := of_decide_eq_false h; omega)
      · have h := of_decide_eq_true h
        refine wp_i64 (by omega) (wp_elem (at' v.files (i - 1)) (by omega) (by rw [toN1]; exact at_get (by omega)) (wp_sp (fun h => by have := of_decide_eq_true h; omega) (fun _ => wp_i64 (by omega) (wp_leaf rfl ⟨rfl, rfl⟩))))
      · exact wp_i64 (by omega) (wp_leaf rfl ⟨rfl, rfl⟩)
    | false =>
      rw [Bool.false_and, if_neg (by simp)]
      refine .done (by simp [T15_l2_x]) ?_
      unfold T15_l2_b
      refine wp_sp (fun _ => wp_elem (at' v.files i) (by omega) hi (wp_call (g27_eq _) (wp_sp (fun h1 => wp_sp (fun h => wp_leaf rfl ⟨rfl, rfl⟩) (fun h2 => wp_sp (fun h3 => ?_) (fun h3 => ?_))) (fun h => wp_leaf rfl ⟨rfl, rfl⟩)))) (fun h => by have := of_decide_eq_false h; omega)
      · have h3 := of_decide_eq_true h3
        refine wp_i64 (by omega) (wp_elem (at' v.files (i - 1)) (by omega) (by rw [toN1]; exact at_get (by omega)) (wp_sp (fun h => wp_leaf rfl ⟨rfl, rfl⟩) (fun h4 => ?_)))
        have h2 := of_decide_eq_false h2
        have h4 := of_decide_eq_false h4
        have : fileOk v i = true := by
          simp only [fileOk, Bool.and_eq_true, decide_eq_true_eq, Bool.or_eq_true]
          exact ⟨⟨h1, by omega⟩, .inr (by omega)⟩
        rw [hf] at this; cases this
      · have h2 := of_decide_eq_false h2
        have h3 := of_decide_eq_false h3
        have : fileOk v i = true := by
          simp only [fileOk, Bool.and_eq_true, decide_eq_true_eq, Bool.or_eq_true]
          exact ⟨⟨h1, by omega⟩, .inl (by omega)⟩
        rw [hf] at this; cases this

theorem T15_l4 (v : Vers) (n : Int) (hv : v.files.length ≤ 1000) : ∀ (k i : Nat), 1 ≤ i → i + k = max 1 (ofL n v.files).length → Rounds (T15_l4_e v n) T15_l4_x (T15_l4_x' v n) (fun s => (T15_l4_b v n s).wp) (i : Int)
    (if (List.range' (i - 1) k).all fun i => Op.bytesLess (at' (ofL n v.files) i).high.toList (at' (ofL n v.files) (i + 1)).low.toList then .inr () else .inl ())
  | 0, i, h1, h => by
    rw [if_pos (by simp)]
    refine .done' (by simp [T15_l4_x']) ?_
    unfold T15_l4_b
    exact wp_len (wp_sp (fun h => by have := of_decide_eq_true h; omega) (fun _ => wp_leaf rfl ⟨rfl, rfl⟩))
  | k + 1, i, h1, h => by
    have hle := ofL_len n (show v.files.length ≤ 1000000 by omega)
    have ih := T15_l4 v n hv k (i + 1) (by omega) (by omega)
    rw [show i + 1 - 1 = i by omega] at ih
    rw [List.range'_succ, List.all_cons, show i - 1 + 1 = i by omega]
    have hi : (ofL n v.files)[Int.toNat (i : Int)]? = some (at' (ofL n v.files) i) := at_get (by omega)
    have hi1 : (ofL n v.files)[Int.toNat ((i : Int) - 1)]? = some (at' (ofL n v.files) (i - 1)) := by rw [toN1]; exact at_get (by omega)
    cases hb : Op.bytesLess (at' (ofL n v.files) (i - 1)).high.toList (at' (ofL n v.files) i).low.toList with
    | true =>
      rw [Bool.true_and]
      refine .next ?_ ih
      unfold T15_l4_b
      exact wp_len (wp_sp (fun _ => wp_i64 (by omega) (wp_elem _ (by omega) hi1 (wp_elem _ (by omega) hi (wp_sp (fun h => by rw [hb] at h; cases h) (fun _ => wp_i64 (by omega) (wp_leaf rfl ⟨rfl, rfl⟩)))))) (fun h => by have := of_decide_eq_false h; omega))
    | false =>
      rw [Bool.false_and, if_neg (by simp)]
      refine .done (by simp [T15_l4_x]) ?_
      unfold T15_l4_b
      exact wp_len (wp_sp (fun _ => wp_i64 (by omega) (wp_elem _ (by omega) hi1 (wp_elem _ (by omega) hi (wp_sp (fun _ => wp_leaf rfl ⟨rfl, rfl⟩) (fun h => by rw [hb] at h; cases h))))) (fun h => by have := of_decide_eq_false h; omega))

theorem T15_l3 (v : Vers) (hv : v.files.length ≤ 1000) : ∀ (k i : Nat), i + k = 6 → 1 ≤ i → Rounds (T15_l3_e v) T15_l3_x T15_l3_x' (fun s => (T15_l3_b v s).wp) (i : Int) (if (List.range' i k).all fun n => levelOk (n : Int) v.files then .inr () else .inl ())
  | 0, i, h, h1 => by
    rw [if_pos (by simp)]
    refine .done' (by simp [T15_l3_x']) ?_
    unfold T15_l3_b
    exact wp_sp (fun h => by have := of_decide_eq_true h; omega) (fun _ => wp_leaf rfl ⟨rfl, rfl⟩)
  | k + 1, i, h, h1 => by
    have ih := T15_l3 v hv k (i + 1) (by omega) (by omega)
    have l4 := T15_l4 v (i : Int) hv (max 1 (ofL (i : Int) v.files).length - 1) 1 (by omega) (by omega)
    have hlv : levelOk (i : Int) v.files = (List.range' (1 - 1) (max 1 (ofL (i : Int) v.files).length - 1)).all fun j => Op.bytesLess (at' (ofL (i : Int) v.files) j).high.toList (at' (ofL (i : Int) v.files) (j + 1)).low.toList := by
      unfold levelOk
      rw [List.range_eq_range', show max 1 (ofL (i : Int) v.files).length - 1 = (ofL (i : Int) v.files).length - 1 by omega]
    rw [List.range'_succ, List.all_cons]
    rw [← hlv] at l4
    cases hl : levelOk (i : Int) v.files with
    | true =>
      rw [Bool.true_and]
      rw [hl, if_pos rfl] at l4
      refine .next ?_ ih
      unfold T15_l3_b
      exact wp_sp (fun _ => wp_call (gOf_eq (by omega)) (wp_loop' _ rfl l4 (wp_i64 (by omega) (wp_leaf rfl ⟨rfl, rfl⟩)))) (fun h => by have := of_decide_eq_false h; omega)
    | false =>
      rw [Bool.false_and, if_neg (by simp)]
      rw [hl, if_neg (by simp)] at l4
      refine .done (by simp [T15_l3_x]) ?_
      unfold T15_l3_b
      exact wp_sp (fun _ => wp_call (gOf_eq (by omega)) (wp_loop _ rfl l4 (wp_leaf rfl ⟨rfl, rfl⟩))) (fun h => by have := of_decide_eq_false h; omega)

theorem T15_wp (v : Vers) {K : AE → St → Prop} (h : K .ret ([(0, vi v.check)], [])) : (T15 v).wp K := by
  have step : ∀ b : Bool, b = decide (v.log < 1 ∨ v.log > 1073741824 ∨ v.next < 1 ∨ v.next > 1073741824 ∨ v.seq > 72057594037927935) → (T15_j1 v b).wp K := by
    intro b hb
    unfold Vers.check at h
    unfold T15_j1
    refine wp_br (fun e => ?_) (fun e => ?_)
    · rw [e] at hb
      rw [if_pos (of_decide_eq_true hb.symm)] at h
      exact wp_leaf rfl h
    · rw [e] at hb
      rw [if_neg (of_decide_eq_false hb.symm)] at h
      refine wp_len (wp_sp (fun e => ?_) (fun e => ?_))
      · have e := of_decide_eq_true e
        rw [if_pos (by omega)] at h
        exact wp_leaf rfl h
      · have e := of_decide_eq_false e
        rw [if_neg (by omega)] at h
        have l2 := T15_l2 v (by omega) v.files.length 0 (by omega)
        rw [← List.range_eq_range'] at l2
        refine wp_len ?_
        cases hf : (List.range v.files.length).all (fileOk v) with
        | false =>
          rw [hf, if_neg (by simp)] at l2
          rw [hf, if_pos (by simp)] at h
          exact wp_loop _ rfl l2 (wp_leaf rfl h)
        | true =>
          rw [hf, if_pos rfl] at l2
          rw [hf, if_neg (by simp)] at h
          have l3 := T15_l3 v (by omega) 5 1 rfl (by omega)
          have e5 : ((List.range' 1 5).all fun n => levelOk (n : Int) v.files) = (([1, 2, 3, 4, 5] : List Int).all fun n => levelOk n v.files) := rfl
          rw [e5] at l3
          refine wp_loop' _ rfl l2 ?_
          cases hl : (([1, 2, 3, 4, 5] : List Int).all fun n => levelOk n v.files) with
          | true =>
            rw [hl, if_pos rfl] at l3 h
            exact wp_loop' _ rfl l3 (wp_leaf rfl h)
          | false =>
            rw [hl, if_neg (by simp)] at l3 h
            exact wp_loop _ rfl l3 (wp_leaf rfl h)
  unfold T15
  repeat' first | refine wp_join rfl ?_ | refine wp_sp (fun _ => ?_) (fun _ => ?_)
  all_goals simp only [decide_eq_true_eq, decide_eq_false_iff_not] at *
  all_goals refine step _ ?_
  all_goals first | (symm; apply decide_eq_true; omega) | (symm; apply decide_eq_false; omega)

def R15 : List AV → AV → Prop := fun args r => ∃ v : Vers, args = [.agg [vl (v.files.map metaE.f), vi v.log, vi v.next, vn .u64 v.seq]] ∧ r = vi v.check
noncomputable def g15 := relG R15
theorem g15_eq (v : Vers) : g15 [.agg [vl (v.files.map metaE.f), vi v.log, vi v.next, vn .u64 v.seq]] = some (vi v.check) := relG_eq (by
  rintro args r r' ⟨x1, e1, rfl⟩ ⟨x2, e2, rfl⟩
  rw [e1] at e2
  simp only [List.cons.injEq, and_true] at e2
  rw [vargs_inj e2]) ⟨v, rfl, rfl⟩
theorem sound15 : SoundF LP 15 (.pure g15) := sound_pureT (Γ := Γ15) (Δ := Δ0) (fn := Try.f15) mixedL Γ15_ok Δ0_ok (by kernel_rfl) (by kernel_rfl) (by kernel_rfl) (by
  rintro args r ⟨v, rfl, rfl⟩
  exact ⟨rfl, rfl, _, T15_chk v, T15_wp v (.p _)⟩)

end Go.Ax
