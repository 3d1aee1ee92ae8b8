/- Contracts: a log is opened. -/
import Derived.Test.YtjlipmcdnigfcaaDoorG31
set_option linter.unusedVariables false
set_option linter.unusedSimpArgs false
set_option linter.unusedSectionVars false
namespace Go.Ax
open Go.Proofs Go.RowKit
set_option maxRecDepth 100000

def toB (x : List UInt8) : ByteArray := ⟨x.toArray⟩

/-- What a log's parts are, from one on. -/
def openA (D : Dsk) (frm : Int) : Nat → Int → Int → Int → List ByteArray → Option (Int × Int × Int × List ByteArray)
  | 0, _, _, _, _ => none
  | f + 1, n, p, g, out =>
    if n > 1073741824 then some (0, p, g, out) else
    if (readW D n).2.2 = 4 then some (0, p, g, out) else
    if (readW D n).2.2 ≠ 0 then some ((readW D n).2.2, 0, 0, []) else
    if (parseI (readW D n).1).2.2 ≠ 0 then some ((parseI (readW D n).1).2.2, 0, 0, []) else
    if (parseI (readW D n).1).2.1 = false then some (0, p, g, out) else
    if frm < n ∧ (parseI (readW D n).1).1 ≠ g then some (12, 0, 0, []) else
    openA D frm f (n + 1) n (readW D n).2.1 (out ++ ((readW D n).1.drop 1).map toB)

section
variable {D : Dsk} {frm : Int} {s1 : Int × Int × List ByteArray × Int}
theorem open2_rounds (hl : (cutL (some 1) none (readW D s1.2.2.2).1).length ≤ 1000000000) : ∀ (j i : Nat) (out : List ByteArray), i + j = (cutL (some 1) none (readW D s1.2.2.2).1).length → ((out.length + j : Nat) : Int) ≤ 1000000000 →
    Rounds (TOpen_l2_e D frm s1) (TOpen_l2_x D frm s1) noX (fun s => (TOpen_l2_b D frm s1 s).wp) (out, (i : Int)) (.inl (out ++ ((cutL (some 1) none (readW D s1.2.2.2).1).drop i).map toB)) := by
  intro j
  induction j with
  | zero =>
    intro i out hi ho
    refine .done (by intro e; cases e) ?_
    unfold TOpen_l2_b
    refine wp_sp (fun h' => absurd (of_decide_eq_true h') (by simp only; omega)) (fun _ => wp_leaf rfl ⟨rfl, ?_⟩)
    rw [List.drop_of_length_le (by omega), List.map_nil, List.append_nil]
  | succ j ih =>
    intro i out hi ho
    have hlt : i < (cutL (some 1) none (readW D s1.2.2.2).1).length := by omega
    have hr := ih (i + 1) (out ++ [toB ((cutL (some 1) none (readW D s1.2.2.2).1)[i])]) (by omega) (by simp only [List.length_append, List.length_singleton]; omega)
    rw [List.append_assoc] at hr
    rw [List.drop_eq_getElem_cons hlt, List.map_cons]
    refine .next ?_ hr
    unfold TOpen_l2_b
    exact wp_sp (fun _ => wp_elem _ (by simp only; omega) (List.getElem?_eq_getElem hlt) ⟨rfl, wp_app ⟨rfl, rfl⟩ rfl (by simp only [List.length_append, List.length_singleton]; omega) (wp_i64 (by simp only; omega) (wp_leaf rfl ⟨rfl, rfl⟩))⟩) (fun h' => absurd (of_decide_eq_false h') (by simp only; omega))
theorem open3_rounds (hl : (cutL (some 1) none (readW D s1.2.2.2).1).length ≤ 1000000000) : ∀ (j i : Nat) (out : List ByteArray), i + j = (cutL (some 1) none (readW D s1.2.2.2).1).length → ((out.length + j : Nat) : Int) ≤ 1000000000 →
    Rounds (TOpen_l3_e D frm s1) (TOpen_l3_x D frm s1) noX (fun s => (TOpen_l3_b D frm s1 s).wp) (out, (i : Int)) (.inl (out ++ ((cutL (some 1) none (readW D s1.2.2.2).1).drop i).map toB)) := by
  intro j
  induction j with
  | zero =>
    intro i out hi ho
    refine .done (by intro e; cases e) ?_
    unfold TOpen_l3_b
    refine wp_sp (fun h' => absurd (of_decide_eq_true h') (by simp only; omega)) (fun _ => wp_leaf rfl ⟨rfl, ?_⟩)
    rw [List.drop_of_length_le (by omega), List.map_nil, List.append_nil]
  | succ j ih =>
    intro i out hi ho
    have hlt : i < (cutL (some 1) none (readW D s1.2.2.2).1).length := by omega
    have hr := ih (i + 1) (out ++ [toB ((cutL (some 1) none (readW D s1.2.2.2).1)[i])]) (by omega) (by simp only [List.length_append, List.length_singleton]; omega)
    rw [List.append_assoc] at hr
    rw [List.drop_eq_getElem_cons hlt, List.map_cons]
    refine .next ?_ hr
    unfold TOpen_l3_b
    exact wp_sp (fun _ => wp_elem _ (by simp only; omega) (List.getElem?_eq_getElem hlt) ⟨rfl, wp_app ⟨rfl, rfl⟩ rfl (by simp only [List.length_append, List.length_singleton]; omega) (wp_i64 (by simp only; omega) (wp_leaf rfl ⟨rfl, rfl⟩))⟩) (fun h' => absurd (of_decide_eq_false h') (by simp only; omega))
end

theorem readW_facts {D : Dsk} (ok : D.Ok) (n : Int) : (0 ≤ (readW D n).2.1 ∧ (readW D n).2.1 ≤ 67108864) ∧ (readW D n).1.length ≤ 67108864 ∧ (∀ x ∈ (readW D n).1, x.length ≤ 1048576) := by
  unfold readW
  cases hg : D.get (wname n) with
  | none => exact ⟨⟨by decide, by decide⟩, by decide, by simp⟩
  | some x =>
    obtain ⟨h1, h2, h3, _⟩ := allI_facts x.b
    have := ok.len hg
    exact ⟨⟨h1.1, by simp only; omega⟩, by simp only; omega, h3⟩

theorem open_body {D : Dsk} (ok : D.Ok) (hd : D.down = false) {frm n p g : Int} {out : List ByteArray} (hn : 1 ≤ n ∧ n ≤ 1073741824) (ho : out.length ≤ 800000000) {K : AE → St → Prop}
    (k4 : (readW D n).2.2 = 4 → K (.exit 0) (TOpen_l1_x D (p, g, out)).2)
    (ke : (readW D n).2.2 ≠ 4 → (readW D n).2.2 ≠ 0 → K .ret (TOpen_l1_x' D (readW D n).2.2).2)
    (kp : (readW D n).2.2 = 0 → (parseI (readW D n).1).2.2 ≠ 0 → K .ret (TOpen_l1_x' D (parseI (readW D n).1).2.2).2)
    (kn : (readW D n).2.2 = 0 → (parseI (readW D n).1).2.2 = 0 → (parseI (readW D n).1).2.1 = false → K (.exit 0) (TOpen_l1_x D (p, g, out)).2)
    (kb : (readW D n).2.2 = 0 → (parseI (readW D n).1).2.2 = 0 → (parseI (readW D n).1).2.1 = true → (frm < n ∧ (parseI (readW D n).1).1 ≠ g) → K .ret (TOpen_l1_x' D 12).2)
    (kk : (readW D n).2.2 = 0 → (parseI (readW D n).1).2.2 = 0 → (parseI (readW D n).1).2.1 = true → ¬ (frm < n ∧ (parseI (readW D n).1).1 ≠ g) → K .normal (TOpen_l1_e D frm (n, (readW D n).2.1, out ++ ((readW D n).1.drop 1).map toB, n + 1))) :
    (TOpen_l1_b D frm (p, g, out, n)).wp K := by
  obtain ⟨f1, f2, f3⟩ := readW_facts ok n
  have hcl : (cutL (some 1) none (readW D n).1).length ≤ 67108864 := by show ((readW D n).1.drop 1).length ≤ _; rw [List.length_drop]; omega
  have hcut : (parseI (readW D n).1).2.1 = true → 1 ≤ (readW D n).1.length := by
    cases (readW D n).1 with
    | nil => intro h; cases h
    | cons x r => intro _; simp
  unfold TOpen_l1_b
  refine wp_sp (fun _ => wp_callr (oReadW ok hd (by simp only; omega) rfl) (wp_sp (fun h => wp_leaf rfl (k4 (by simpa using h))) (fun h4 => wp_sp (fun h => wp_leaf rfl (ke (by simpa using h4) (by simpa using h))) (fun h0 => wp_call (gParse_eq (by simp only; omega) (fun x hx => Nat.le_trans (f3 x hx) (by decide))) ?_)))) (fun h => absurd (of_decide_eq_false h) (by simp only; omega))
  have h0 : (readW D n).2.2 = 0 := by simpa using h0
  refine wp_sp (fun ht => wp_sp (fun h => wp_leaf rfl (kp h0 (by simpa using h))) (fun he => ?_)) (fun hf => wp_sp (fun h => wp_leaf rfl (kp h0 (by simpa using h))) (fun he => wp_leaf rfl (kn h0 (by simpa using he) hf)))
  have he : (parseI (readW D n).1).2.2 = 0 := by simpa using he
  have hc := hcut ht
  refine wp_sp (fun hlt => wp_sp (fun h => wp_leaf rfl (kb h0 he ht ⟨of_decide_eq_true hlt, by simpa using h⟩)) (fun hq => wp_cut (by simp only [cutOk]; omega) (wp_len (wp_loop _ rfl (open2_rounds (D := D) (frm := frm) (s1 := (p, g, out, n)) (by simp only; omega) _ 0 out (Nat.zero_add _) (by simp only; omega)) (wp_i64 (by simp only; omega) (wp_leaf rfl ?_))))))
    (fun hge => wp_cut (by simp only [cutOk]; omega) (wp_len (wp_loop _ rfl (open3_rounds (D := D) (frm := frm) (s1 := (p, g, out, n)) (by simp only; omega) _ 0 out (Nat.zero_add _) (by simp only; omega)) (wp_i64 (by simp only; omega) (wp_leaf rfl ?_)))))
  · exact kk h0 he ht (fun h => h.2 (by simpa using hq))
  · exact kk h0 he ht (fun h => of_decide_eq_false hge h.1)

theorem open_rounds {D : Dsk} (ok : D.Ok) (hd : D.down = false) {frm : Int} (hfrm : 1 ≤ frm) : ∀ (f : Nat) (n p g : Int) (out : List ByteArray) (res : Int × Int × Int × List ByteArray), openA D frm f n p g out = some res → frm ≤ n → n ≤ 1073741825 → f ≤ 10 → out.length ≤ (10 - f) * 67108864 →
    (res.1 = 0 ∧ Rounds (TOpen_l1_e D frm) (TOpen_l1_x D) (TOpen_l1_x' D) (fun s => (TOpen_l1_b D frm s).wp) (p, g, out, n) (.inl (res.2.1, res.2.2.1, res.2.2.2))) ∨
    (res.1 ≠ 0 ∧ Rounds (TOpen_l1_e D frm) (TOpen_l1_x D) (TOpen_l1_x' D) (fun s => (TOpen_l1_b D frm s).wp) (p, g, out, n) (.inr res.1))
  | 0, n, p, g, out, res, h, _, _, _, _ => by cases h
  | f + 1, n, p, g, out, res, h, hn, hn2, hf, ho => by
    unfold openA at h
    by_cases hend : n > 1073741824
    · rw [if_pos hend] at h
      cases h
      refine .inl ⟨rfl, .done (by intro e; cases e) ?_⟩
      unfold TOpen_l1_b
      exact wp_sp (fun h => absurd (of_decide_eq_true h) (by simp only; omega)) (fun _ => wp_leaf rfl ⟨rfl, rfl⟩)
    rw [if_neg hend] at h
    have hb := fun K => open_body (K := K) ok hd (frm := frm) (n := n) (p := p) (g := g) (out := out) (by omega) (by omega)
    by_cases h4 : (readW D n).2.2 = 4
    · rw [if_pos h4] at h
      cases h
      exact .inl ⟨rfl, .done (by intro e; cases e) (hb _ (fun _ => ⟨rfl, rfl⟩) (fun h _ => absurd h4 h) (fun h _ => absurd (h.symm.trans h4) (by decide)) (fun h _ _ => absurd (h.symm.trans h4) (by decide)) (fun h _ _ _ => absurd (h.symm.trans h4) (by decide)) (fun h _ _ _ => absurd (h.symm.trans h4) (by decide)))⟩
    rw [if_neg h4] at h
    by_cases h0 : (readW D n).2.2 = 0
    · rw [if_neg (fun hx => hx h0)] at h
      by_cases hq : (parseI (readW D n).1).2.2 = 0
      · rw [if_neg (fun hx => hx hq)] at h
        cases ht : (parseI (readW D n).1).2.1 with
        | false =>
          rw [if_pos ht] at h
          cases h
          exact .inl ⟨rfl, .done (by intro e; cases e) (hb _ (fun h => absurd h h4) (fun _ h => absurd h0 h) (fun _ h => absurd hq h) (fun _ _ _ => ⟨rfl, rfl⟩) (fun _ _ h => absurd (ht.symm.trans h) (by decide)) (fun _ _ h => absurd (ht.symm.trans h) (by decide)))⟩
        | true =>
          rw [if_neg (by rw [ht]; decide)] at h
          by_cases hc : frm < n ∧ (parseI (readW D n).1).1 ≠ g
          · rw [if_pos hc] at h
            cases h
            exact .inr ⟨by decide, .done' (by intro e; cases e) (hb _ (fun h => absurd h h4) (fun _ h => absurd h0 h) (fun _ h => absurd hq h) (fun _ _ h => absurd (ht.symm.trans h) (by decide)) (fun _ _ _ _ => ⟨rfl, rfl⟩) (fun _ _ _ h => absurd hc h))⟩
          · rw [if_neg hc] at h
            obtain ⟨f1, f2, f3⟩ := readW_facts ok n
            have hnx := hb (fun e c => e = .normal ∧ c = TOpen_l1_e D frm (n, (readW D n).2.1, out ++ ((readW D n).1.drop 1).map toB, n + 1)) (fun h => absurd h h4) (fun _ h => absurd h0 h) (fun _ h => absurd hq h) (fun _ _ h => absurd (ht.symm.trans h) (by decide)) (fun _ _ _ h => absurd h hc) (fun _ _ _ _ => ⟨rfl, rfl⟩)
            rcases open_rounds ok hd hfrm f (n + 1) n (readW D n).2.1 _ res h (by omega) (by omega) (by omega) (by
              rw [List.length_append, List.length_map, List.length_drop]
              have : (10 - f) = (10 - (f + 1)) + 1 := by omega
              rw [this, Nat.add_mul]
              omega) with ⟨g1, g2⟩ | ⟨g1, g2⟩
            · exact .inl ⟨g1, .next hnx g2⟩
            · exact .inr ⟨g1, .next hnx g2⟩
      · rw [if_pos hq] at h
        cases h
        exact .inr ⟨hq, .done' (by intro e; cases e) (hb _ (fun h => absurd h h4) (fun _ h => absurd h0 h) (fun _ _ => ⟨rfl, rfl⟩) (fun _ h => absurd h hq) (fun _ h => absurd h hq) (fun _ h => absurd h hq))⟩
    · rw [if_pos h0] at h
      cases h
      exact .inr ⟨h0, .done' (by intro e; cases e) (hb _ (fun h => absurd h h4) (fun _ _ => ⟨rfl, rfl⟩) (fun h => absurd h h0) (fun h => absurd h h0) (fun h => absurd h h0) (fun h => absurd h h0))⟩

abbrev logC (b : Nat) (p g : Int) (o : Bool) : Box := .cells false 0 [.op b, vi p, vi g, vb o]

/-- A log is opened. -/
def OOpen : RSpec := fun args B r B' => ∃ (D : Dsk) (frm : Int), D.Ok ∧ D.down = false ∧ (-9223372036854775808 ≤ frm ∧ frm ≤ 9223372036854775807) ∧ args = [.op 0, vi frm] ∧ B = [.obj [] (diskP D)] ∧
  (((frm < 1 ∨ 1073741824 < frm) ∧ r = .tup [nilP, nilS, vi 1] ∧ B' = B) ∨ ((1 ≤ frm ∧ frm ≤ 1073741824) ∧ ∃ res, openA D frm 10 frm 0 0 [] = some res ∧
    ((res.1 = 0 ∧ r = .tup [.ptr 1 0 0, .rs 2 0 1 0 res.2.2.2.length, vi 0] ∧ B' = [.obj [] (diskP D), logC 0 res.2.1 res.2.2.1 false, nameE.bx 0 res.2.2.2]) ∨ (res.1 ≠ 0 ∧ r = .tup [nilP, nilS, vi res.1] ∧ B' = B))))
theorem SOpen : SoundR DP iOpen OOpen := sound_genT mixedD Γ6_ok Δ6_ok hfOpen heOpen hbOpen (by
  rintro args B r B' ⟨D, frm, ok, hd, hw, rfl, rfl, ⟨hb, rfl, rfl⟩ | ⟨hb, res, hres, h⟩⟩
  · refine ⟨by rw [hnOpen]; rfl, _, TOpen_chk D frm, ?_⟩
    unfold TOpen
    exact wp_sp (fun _ => wp_leaf rfl ⟨rfl, rfl⟩) (fun h => wp_sp (fun _ => wp_leaf rfl ⟨rfl, rfl⟩) (fun h2 => absurd (of_decide_eq_false h2) (by have := of_decide_eq_false h; omega)))
  · refine ⟨by rw [hnOpen]; rfl, _, TOpen_chk D frm, ?_⟩
    unfold TOpen
    refine wp_sp (fun h => absurd (of_decide_eq_true h) (by omega)) (fun _ => wp_sp (fun h => absurd (of_decide_eq_true h) (by omega)) (fun _ => wp_callr (oDown ok rfl) (wp_sp (fun h => absurd (hd.symm.trans h) (by decide)) (fun _ => ?_))))
    rcases open_rounds ok hd hb.1 10 frm 0 0 [] res hres (by omega) (by omega) (by omega) (by simp) with ⟨g1, g2⟩ | ⟨g1, g2⟩
    · rcases h with ⟨_, rfl, rfl⟩ | ⟨h, _⟩
      · exact wp_loop _ rfl g2 (wp_leaf rfl ⟨rfl, rfl⟩)
      · exact absurd g1 h
    · rcases h with ⟨h, _⟩ | ⟨_, rfl, rfl⟩
      · exact absurd h g1
      · exact wp_loop' _ rfl g2 (wp_leaf rfl ⟨rfl, rfl⟩))

end Go.Ax

namespace Go.Ax
open Go.Proofs Go.RowKit
set_option maxRecDepth 100000

theorem wp_any {x : Tree} {K : AE → St → Prop} (h : x.wp K) : (Tree.any x).wp K := h
theorem wp_sbyte {d : Nat} {x : Tree} {K : AE → St → Prop} (h : x.wp K) : (Tree.sbyte d x).wp K := h

abbrev dkB (D : Dsk) : Box := .obj [] (diskP D)
def syncIf (D : Dsk) (p : Int) : Dsk := if 0 < p then (syncD D (wname p)).1 else D
def startD (D : Dsk) (p g n : Int) : Dsk := (appendD (createD (syncIf D p) (wname n)).1 (wname n) (recB (putI g))).1

theorem putI_len (g : Int) (h : 0 ≤ g ∧ g < 18446744073709551616) : (putI g).length ≤ 10 := putN_len64 (by omega)

def OStart : RSpec := fun args B r B' => ∃ (D : Dsk) (p g : Int) (o : Bool) (n : Int), D.Ok ∧ D.down = false ∧ (0 ≤ p ∧ p ≤ 1073741824) ∧ (0 ≤ g ∧ g ≤ 67108864) ∧ (-9223372036854775808 ≤ n ∧ n ≤ 9223372036854775807) ∧
  args = [.ptr 1 0 0, vi n] ∧ B = [dkB D, logC 0 p g o] ∧
  (((n < 1 ∨ 0 < p ∧ n ≤ p) ∧ r = vi 1 ∧ B' = B) ∨
   ((1 ≤ n ∧ n ≤ 1073741824 ∧ ¬ (0 < p ∧ n ≤ p)) ∧ (0 < p → (syncD D (wname p)).2 = 0) ∧ ((recB (putI g)).length : Int) ≤ (syncIf D p).room - (syncIf D p).used ∧ (sizeD (syncIf D p) (wname n)).2 ≠ 0 ∧
    (createD (syncIf D p) (wname n)).2 = 0 ∧ (appendD (createD (syncIf D p) (wname n)).1 (wname n) (recB (putI g))).2 = 0 ∧ r = vi 0 ∧ B' = [dkB (startD D p g n), logC 0 n (recB (putI g)).length true]))
theorem SStart : SoundR DP iStart OStart := sound_genT mixedD Γ6_ok Δ6_ok hfStart heStart hbStart (by
  rintro args B r B' ⟨D, p, g, o, n, ok, hd, hp, hg, hw, rfl, rfl, h⟩
  refine ⟨by rw [hnStart]; rfl, _, TStart_chk D p g o n, ?_⟩
  have hgl := putI_len g (by omega)
  have hrl : (recB (putI g)).length ≤ 1000000000 := by rw [recB_len]; omega
  have hwn := wname_size hw
  have hN : (wname n).size ≤ 1000000000 := by omega
  unfold TStart
  rcases h with ⟨hbad, rfl, rfl⟩ | ⟨hn, hs, hroom, hsz, hc, ha, rfl, rfl⟩
  · refine wp_sp (fun _ => wp_leaf rfl ⟨rfl, rfl⟩) (fun h1 => wp_sp (fun _ => wp_leaf rfl ⟨rfl, rfl⟩) (fun _ => wp_sp (fun _ => wp_sp (fun _ => wp_leaf rfl ⟨rfl, rfl⟩) (fun h => ?_)) (fun h => ?_)))
    · have h1 := of_decide_eq_false h1; have h := of_decide_eq_false h; omega
    · have h1 := of_decide_eq_false h1; have h := of_decide_eq_false h; omega
  · have hnw : -9223372036854775808 ≤ n ∧ n ≤ 9223372036854775807 := hw
    refine wp_sp (fun h => absurd (of_decide_eq_true h) (by omega)) (fun _ => wp_sp (fun h => absurd (of_decide_eq_true h) (by omega)) (fun _ => wp_sp (fun hpp => wp_sp (fun h => absurd (of_decide_eq_true h) (by have := of_decide_eq_true hpp; omega)) (fun _ => ?_)) (fun hpp => ?_)))
    · have hpp : 0 < p := of_decide_eq_true hpp
      have e : syncIf D p = (syncD D (wname p)).1 := if_pos hpp
      unfold startD
      rw [e] at hroom hsz hc ha ⊢
      have ok1 := syncD_ok ok (wname p)
      have ok2 := createD_ok ok1 (wname n)
      refine wp_callr (oDown ok rfl) (wp_sp (fun h => absurd (hd.symm.trans h) (by decide)) (fun _ => wp_call (gHeadW_eq (by omega)) (wp_callr (oRPut (by omega)) (wp_sp (fun _ => ?_) (fun h => absurd (of_decide_eq_false h) (by omega))))))
      refine (wp_any <| wp_call (gNameW_eq (by omega)) (wp_callr (oSync ok rfl) (wp_sp (fun h => absurd (hs hpp) (by simpa using h)) (fun _ => wp_callr (oRoom ok1 rfl) (wp_sp (fun h => absurd (of_decide_eq_true h) (by omega)) (fun _ => ?_))))))
      refine (wp_any <| wp_call (gNameW_eq hnw) (wp_callr (oSize ok1 rfl) (wp_sp (fun h => absurd (by simpa using h) hsz) (fun _ => ?_))))
      refine (wp_any <| wp_call (gNameW_eq hnw) (wp_callr (oCreate ok1 hN rfl) (wp_sp (fun h => absurd hc (by simpa using h)) (fun _ => ?_))))
      exact (wp_any <| wp_call (gNameW_eq hnw) (wp_callr (oAppendS ok2 hrl rfl rfl) (wp_sp (fun h => absurd ha (by simpa using h)) (fun _ => wp_leaf rfl ⟨rfl, rfl⟩))))
    · have hpp : ¬ 0 < p := of_decide_eq_false hpp
      have e : syncIf D p = D := if_neg hpp
      unfold startD
      rw [e] at hroom hsz hc ha ⊢
      have ok2 := createD_ok ok (wname n)
      refine wp_callr (oDown ok rfl) (wp_sp (fun h => absurd (hd.symm.trans h) (by decide)) (fun _ => wp_call (gHeadW_eq (by omega)) (wp_callr (oRPut (by omega)) (wp_sp (fun h => absurd (of_decide_eq_true h) (by omega)) (fun _ => wp_callr (oRoom ok rfl) (wp_sp (fun h => absurd (of_decide_eq_true h) (by omega)) (fun _ => ?_)))))))
      refine (wp_any <| wp_call (gNameW_eq hnw) (wp_callr (oSize ok rfl) (wp_sp (fun h => absurd (by simpa using h) hsz) (fun _ => ?_))))
      refine (wp_any <| wp_call (gNameW_eq hnw) (wp_callr (oCreate ok hN rfl) (wp_sp (fun h => absurd hc (by simpa using h)) (fun _ => ?_))))
      exact (wp_any <| wp_call (gNameW_eq hnw) (wp_callr (oAppendS ok2 hrl rfl rfl) (wp_sp (fun h => absurd ha (by simpa using h)) (fun _ => wp_leaf rfl ⟨rfl, rfl⟩)))))

/-- Something is written. -/
def addG (D : Dsk) (p g : Int) (s : ByteArray) : Int := if (appendD D (wname p) (recB s.data.toList)).2 = 0 then g + (recB s.data.toList).length else g
def OAdd : RSpec := fun args B r B' => ∃ (D : Dsk) (p g : Int) (o : Bool) (s : ByteArray), D.Ok ∧ (0 ≤ p ∧ p ≤ 1073741824) ∧ (0 ≤ g ∧ g ≤ 4611686018427387904) ∧ s.size ≤ 1048576 ∧ args = [.ptr 1 0 0, vs s] ∧ B = [dkB D, logC 0 p g o] ∧
  ((o = false ∧ r = vi 7 ∧ B' = B) ∨ (o = true ∧ r = vi (appendD D (wname p) (recB s.data.toList)).2 ∧ B' = [dkB (appendD D (wname p) (recB s.data.toList)).1, logC 0 p (addG D p g s) o]))
theorem SAdd : SoundR DP iAdd OAdd := sound_genT mixedD Γ6_ok Δ6_ok hfAdd heAdd hbAdd (by
  rintro args B r B' ⟨D, p, g, o, s, ok, hp, hg, hs, rfl, rfl, h⟩
  refine ⟨by rw [hnAdd]; rfl, _, TAdd_chk D p g o s, ?_⟩
  have hsl : s.data.toList.length ≤ 1048576 := hs
  have hrl : (recB s.data.toList).length ≤ 1000000000 := by rw [recB_len]; omega
  unfold TAdd
  rcases h with ⟨rfl, rfl, rfl⟩ | ⟨rfl, rfl, rfl⟩
  · exact wp_sp (fun h => absurd h (by decide)) (fun _ => wp_leaf rfl ⟨rfl, rfl⟩)
  · refine wp_sp (fun _ => (wp_sbyte <| wp_callr (oRPutS hsl rfl) (wp_any <| wp_call (gNameW_eq (by omega)) (wp_callr (oAppendS ok hrl rfl rfl) (wp_sp (fun h => wp_leaf rfl ?_) (fun h => wp_i64 (by rw [recB_len]; omega) (wp_leaf rfl ?_))))))) (fun h => absurd h (by decide))
    · have e : addG D p g s = g := if_neg (by simpa using h)
      rw [e]; exact ⟨rfl, rfl⟩
    · have e : addG D p g s = g + (recB s.data.toList).length := if_pos (by simpa using h)
      have e0 : (appendD D (wname p) (recB s.data.toList)).2 = 0 := by simpa using h
      rw [e, e0]; exact ⟨rfl, rfl⟩)

/-! ### The small ones -/
def OPart : RSpec := fun args B r B' => ∃ (D : Dsk) (p g : Int) (o : Bool), args = [.ptr 1 0 0] ∧ B = [dkB D, logC 0 p g o] ∧ r = vi p ∧ B' = B
theorem SPart : SoundR DP iPart OPart := sound_genT mixedD Γ6_ok Δ6_ok hfPart hePart hbPart (by
  rintro args B r B' ⟨D, p, g, o, rfl, rfl, rfl, rfl⟩
  exact ⟨by rw [hnPart]; rfl, _, TPart_chk D p g o, wp_leaf rfl ⟨rfl, rfl⟩⟩)
def OSizeW : RSpec := fun args B r B' => ∃ (D : Dsk) (p g : Int) (o : Bool), args = [.ptr 1 0 0] ∧ B = [dkB D, logC 0 p g o] ∧ r = vi g ∧ B' = B
theorem SSizeW : SoundR DP iSizeW OSizeW := sound_genT mixedD Γ6_ok Δ6_ok hfSizeW heSizeW hbSizeW (by
  rintro args B r B' ⟨D, p, g, o, rfl, rfl, rfl, rfl⟩
  exact ⟨by rw [hnSizeW]; rfl, _, TSizeW_chk D p g o, wp_leaf rfl ⟨rfl, rfl⟩⟩)
def OOpened : RSpec := fun args B r B' => ∃ (D : Dsk) (p g : Int) (o : Bool), args = [.ptr 1 0 0] ∧ B = [dkB D, logC 0 p g o] ∧ r = vb o ∧ B' = B
theorem SOpened : SoundR DP iOpened OOpened := sound_genT mixedD Γ6_ok Δ6_ok hfOpened heOpened hbOpened (by
  rintro args B r B' ⟨D, p, g, o, rfl, rfl, rfl, rfl⟩
  exact ⟨by rw [hnOpened]; rfl, _, TOpened_chk D p g o, wp_leaf rfl ⟨rfl, rfl⟩⟩)

/-! ### A nil log -/
def NilR (post : List AV → AV → Prop) : RSpec := fun args B r B' => B = [] ∧ B' = [] ∧ post args r
theorem SNStart : SoundR DP iStart (NilR fun a r => ∃ n, a = [nilP, vi n] ∧ r = vi 1) := sound_genT mixedD Γ6_ok Δ6_ok hfStart heStart hbStart (by
  rintro args B r B' ⟨rfl, rfl, n, rfl, rfl⟩
  exact ⟨by rw [hnStart]; rfl, _, TNStart_chk n, wp_leaf rfl ⟨rfl, rfl⟩⟩)
theorem SNAdd : SoundR DP iAdd (NilR fun a r => ∃ s, a = [nilP, vs s] ∧ r = vi 1) := sound_genT mixedD Γ6_ok Δ6_ok hfAdd heAdd hbAdd (by
  rintro args B r B' ⟨rfl, rfl, s, rfl, rfl⟩
  exact ⟨by rw [hnAdd]; rfl, _, TNAdd_chk s, wp_leaf rfl ⟨rfl, rfl⟩⟩)
theorem SNSync : SoundR DP iSyncW (NilR fun a r => a = [nilP] ∧ r = vi 1) := sound_genT mixedD Γ6_ok Δ6_ok hfSyncW heSyncW hbSyncW (by
  rintro args B r B' ⟨rfl, rfl, rfl, rfl⟩
  exact ⟨by rw [hnSyncW]; rfl, _, TNSync_chk, wp_leaf rfl ⟨rfl, rfl⟩⟩)
theorem SNPart : SoundR DP iPart (NilR fun a r => a = [nilP] ∧ r = vi 0) := sound_genT mixedD Γ6_ok Δ6_ok hfPart hePart hbPart (by
  rintro args B r B' ⟨rfl, rfl, rfl, rfl⟩
  exact ⟨by rw [hnPart]; rfl, _, TNPart_chk, wp_leaf rfl ⟨rfl, rfl⟩⟩)
theorem SNSize : SoundR DP iSizeW (NilR fun a r => a = [nilP] ∧ r = vi 0) := sound_genT mixedD Γ6_ok Δ6_ok hfSizeW heSizeW hbSizeW (by
  rintro args B r B' ⟨rfl, rfl, rfl, rfl⟩
  exact ⟨by rw [hnSizeW]; rfl, _, TNSize_chk, wp_leaf rfl ⟨rfl, rfl⟩⟩)
theorem SNOpened : SoundR DP iOpened (NilR fun a r => a = [nilP] ∧ r = vb false) := sound_genT mixedD Γ6_ok Δ6_ok hfOpened heOpened hbOpened (by
  rintro args B r B' ⟨rfl, rfl, rfl, rfl⟩
  exact ⟨by rw [hnOpened]; rfl, _, TNOpened_chk, wp_leaf rfl ⟨rfl, rfl⟩⟩)
theorem SNOpen : SoundR DP iOpen (NilR fun a r => ∃ n, a = [nilP, vi n] ∧ r = .tup [nilP, nilS, vi 1]) := sound_genT mixedD Γ6_ok Δ6_ok hfOpen heOpen hbOpen (by
  rintro args B r B' ⟨rfl, rfl, n, rfl, rfl⟩
  exact ⟨by rw [hnOpen]; rfl, _, TNOpen_chk n, wp_leaf rfl ⟨rfl, rfl⟩⟩)
end Go.Ax

namespace Go.Ax
open Go.Proofs Go.RowKit
set_option maxRecDepth 100000

abbrev iBeg : Nat := 20
noncomputable abbrev nBeg : Func := Tryd.f20
theorem hfBeg : DP.funcs[iBeg]? = some nBeg := by kernel_rfl
theorem heBeg : enters DP iBeg = true := by kernel_rfl
theorem hbBeg : nBeg.body.isSome = true := by kernel_rfl
theorem hnBeg : nBeg.ntmps = 34 := by kernel_rfl
abbrev iHeadL : Nat := 14
noncomputable abbrev nHeadL : Func := Tryd.f14
theorem hfHeadL : DP.funcs[iHeadL]? = some nHeadL := by kernel_rfl
theorem heHeadL : enters DP iHeadL = true := by kernel_rfl
theorem hbHeadL : nHeadL.body.isSome = true := by kernel_rfl
theorem hnHeadL : nHeadL.ntmps = 75 := by kernel_rfl

noncomputable def TBeg_l1_e (got : List ByteArray) (all : List ByteArray) (s1 : Int) : St := ([(0, vl (got.map nameE.f)), (1, .rs 0 0 1 0 all.length), (20, vi (got.length : Int)), (21, vi s1)], [nameE.bx 0 all])
noncomputable def TBeg_l1_x (all : List ByteArray) (x1 : Unit) : AE × St := (.ret, ([(6, vb false)], [nameE.bx 0 all]))
noncomputable def TBeg_l1_x' (all : List ByteArray) (y1 : Unit) : AE × St := ((.exit 0), ([], [nameE.bx 0 all]))
noncomputable def TBeg_l1_b (got : List ByteArray) (all : List ByteArray) (s1 : Int) : Tree :=
.sp 22 (decide (s1 < (got.length : Int))) (
.elem 26 (got.map nameE.f) nameE got s1 (fun e1 => .ridx 30 all.length s1 (.rload 31 (rowC (all.map nameE.f)) (0 + Int.toNat s1 * 1) nameE all s1 0 (fun e2 => .sp 32 (!(e1.toList == e2.toList)) (
.leaf ⟨[6], [(0, 0, some (all.map nameE.f))]⟩ [rowC (all.map nameE.f)] .ret (some (TBeg_l1_x all ()).2)) (
.int 33 (IntKind.i64.wrap (s1 + 1)) (s1 + 1) (.leaf ⟨[0, 1, 20, 21], [(0, 0, some (all.map nameE.f))]⟩ [rowC (all.map nameE.f)] .normal (some (TBeg_l1_e got all (s1 + 1))))))))) (
.leaf ⟨[], [(0, 0, some (all.map nameE.f))]⟩ [rowC (all.map nameE.f)] (.exit 0) (some (TBeg_l1_x' all ()).2))
noncomputable def TBeg (got : List ByteArray) (all : List ByteArray) (k : Int) : Tree :=
.int 9 ((got.map nameE.f).length : Int) (got.length : Int) (.sp 11 (decide ((got.length : Int) < k)) (
.leaf ⟨[0], [(0, 0, some (all.map nameE.f))]⟩ [rowC (all.map nameE.f)] .ret (some ([(0, vb false)], [nameE.bx 0 all]))) (
.int 14 ((got.map nameE.f).length : Int) (got.length : Int) (.sp 17 (decide ((got.length : Int) > ((all.length : Nat) : Int))) (
.leaf ⟨[0], [(0, 0, some (all.map nameE.f))]⟩ [rowC (all.map nameE.f)] .ret (some ([(0, vb false)], [nameE.bx 0 all]))) (
.int 20 ((got.map nameE.f).length : Int) (got.length : Int) (.loop ⟨[0, 1, 20, 21], [(0, 0, some (all.map nameE.f))]⟩ [rowC (all.map nameE.f)] (some (TBeg_l1_e got all 0)) (TBeg_l1_e got all) (TBeg_l1_x all) (TBeg_l1_x' all) 0 (TBeg_l1_b got all) (fun (x1 : Unit) => .leaf ⟨[0], [(0, 0, some (all.map nameE.f))]⟩ [rowC (all.map nameE.f)] .ret (some ([(0, vb false)], [nameE.bx 0 all]))) (fun (y1 : Unit) => .leaf ⟨[0], [(0, 0, some (all.map nameE.f))]⟩ [rowC (all.map nameE.f)] .ret (some ([(0, vb true)], [nameE.bx 0 all]))))))))

theorem TBeg_chk (got : List ByteArray) (all : List ByteArray) (k : Int) : fnC DP Γ0 Δ0 Tryd.f20 [vl (got.map nameE.f), .rs 0 0 1 0 all.length, vi k] [nameE.bx 0 all] (TBeg got all k) = TBeg got all k := by kernel_rfl

end Go.Ax

namespace Go.Ax
open Go.Proofs Go.RowKit
set_option maxRecDepth 100000

/-! ### begins -/
def begB (got all : List ByteArray) (k : Int) : Bool := decide (k ≤ (got.length : Int)) && decide (got.length ≤ all.length) && decide (got = all.take got.length)

theorem beg_rounds (got all : List ByteArray) (hl : got.length ≤ all.length) (hg : got.length ≤ 1000000000) : ∀ (j i : Nat), i + j = got.length →
    (got.drop i = (all.take got.length).drop i ∧ Rounds (TBeg_l1_e got all) (TBeg_l1_x all) (TBeg_l1_x' all) (fun s => (TBeg_l1_b got all s).wp) (i : Int) (.inr ())) ∨
    (got.drop i ≠ (all.take got.length).drop i ∧ Rounds (TBeg_l1_e got all) (TBeg_l1_x all) (TBeg_l1_x' all) (fun s => (TBeg_l1_b got all s).wp) (i : Int) (.inl ())) := by
  intro j
  induction j with
  | zero =>
    intro i hi
    refine .inl ⟨by rw [List.drop_of_length_le (by omega), List.drop_of_length_le (by simp; omega)], .done' (by intro e; cases e) ?_⟩
    unfold TBeg_l1_b
    exact wp_sp (fun h => absurd (of_decide_eq_true h) (by omega)) (fun _ => wp_leaf rfl ⟨rfl, rfl⟩)
  | succ j ih =>
    intro i hi
    have h1 : i < got.length := by omega
    have h2 : i < all.length := by omega
    have e1 : got.drop i = got[i] :: got.drop (i + 1) := List.drop_eq_getElem_cons h1
    have e2 : (all.take got.length).drop i = all[i] :: (all.take got.length).drop (i + 1) := by
      rw [List.drop_eq_getElem_cons (by simp; omega)]; simp
    have hbody : ∀ K : AE → St → Prop, (got[i] ≠ all[i] → K .ret (TBeg_l1_x all ()).2) → (got[i] = all[i] → K .normal (TBeg_l1_e got all ((i + 1 : Nat) : Int))) → (TBeg_l1_b got all (i : Int)).wp K := by
      intro K k1 k2
      unfold TBeg_l1_b
      refine wp_sp (fun _ => wp_elem got[i] (by omega) (List.getElem?_eq_getElem h1) (wp_ridx (by omega) (by omega) (wp_rload all[i] (by omega) rfl (List.getElem?_eq_getElem h2) (wp_sp (fun h => wp_leaf rfl (k1 ?_)) (fun h => wp_i64 (by omega) (wp_leaf rfl ?_)))))) (fun h => absurd (of_decide_eq_false h) (by omega))
      · intro e; rw [e] at h; simp at h
      · have : got[i] = all[i] := by
          have h3 : got[i].toList = all[i].toList := by simpa using h
          rw [ByteArray.toList_eq, ByteArray.toList_eq] at h3
          exact ByteArray.ext (Array.toList_inj.mp h3)
        exact k2 this
    by_cases he : got[i] = all[i]
    · rcases ih (i + 1) (by omega) with ⟨g1, g2⟩ | ⟨g1, g2⟩
      · exact .inl ⟨by rw [e1, e2, he, g1], .next (hbody _ (fun h => absurd he h) (fun _ => ⟨rfl, rfl⟩)) g2⟩
      · exact .inr ⟨by rw [e1, e2, he]; intro h; exact g1 (List.cons.inj h).2, .next (hbody _ (fun h => absurd he h) (fun _ => ⟨rfl, rfl⟩)) g2⟩
    · exact .inr ⟨by rw [e1, e2]; intro h; exact he (List.cons.inj h).1, .done (by intro e; cases e) (hbody _ (fun _ => ⟨rfl, rfl⟩) (fun h => absurd h he))⟩

def OBeg : RSpec := fun args B r B' => ∃ (got all : List ByteArray) (k : Int), got.length ≤ 1000000000 ∧ args = [vl (got.map nameE.f), .rs 0 0 1 0 all.length, vi k] ∧ B = [nameE.bx 0 all] ∧ r = vb (begB got all k) ∧ B' = B
theorem SBeg : SoundR DP iBeg OBeg := sound_genT mixedD Γ0_ok Δ0_ok hfBeg heBeg hbBeg (by
  rintro args B r B' ⟨got, all, k, hg, rfl, rfl, rfl, rfl⟩
  refine ⟨by rw [hnBeg]; rfl, _, TBeg_chk got all k, ?_⟩
  unfold TBeg
  refine wp_len (wp_sp (fun h => wp_leaf rfl ?_) (fun hk => wp_len (wp_sp (fun h => wp_leaf rfl ?_) (fun hl => wp_len ?_))))
  · have : begB got all k = false := by unfold begB; rw [decide_eq_false (by have := of_decide_eq_true h; omega)]; rfl
    rw [this]; exact ⟨rfl, rfl⟩
  · have : begB got all k = false := by unfold begB; rw [decide_eq_false (p := got.length ≤ all.length) (by have := of_decide_eq_true h; omega)]; simp
    rw [this]; exact ⟨rfl, rfl⟩
  · have hk := of_decide_eq_false hk
    have hl := of_decide_eq_false hl
    have hb : begB got all k = decide (got = all.take got.length) := by
      unfold begB
      rw [decide_eq_true (by omega), decide_eq_true (by omega)]; rfl
    rcases beg_rounds got all (by omega) hg got.length 0 (by omega) with ⟨g1, g2⟩ | ⟨g1, g2⟩
    · rw [List.drop_zero, List.drop_zero] at g1
      rw [hb, decide_eq_true g1]
      exact wp_loop' _ rfl g2 (wp_leaf rfl ⟨rfl, rfl⟩)
    · rw [List.drop_zero, List.drop_zero] at g1
      rw [hb, decide_eq_false g1]
      exact wp_loop _ rfl g2 (wp_leaf rfl ⟨rfl, rfl⟩))
theorem begB_self (l : List ByteArray) : begB l l (l.length : Int) = true := by unfold begB; simp

/-! ### The calls -/
section
variable {R : RSpec} {al : List AV} {B : List Box} {b l : Nat} {D D1 : Dsk} {p g p1 g1 n : Int} {o o1 : Bool} {y : PV} {s : ByteArray}
theorem lift_log (hR : R (.ptr 1 0 0 :: al) [dkB D, logC 0 p g o] (.p y) [dkB D1, logC 0 p1 g1 o1]) (hb : B[b]? = some (dkB D)) (hl : B[l]? = some (logC b p g o)) (hal : al.all isPl = true) :
    liftR R (.ptr l 0 0 :: al) B (.p y) ((B.set b (dkB D1)).set l (logC b p1 g1 o1)) := by
  have hbl : b < B.length := (List.getElem?_eq_some_iff.1 hb).1
  have hll : l < B.length := (List.getElem?_eq_some_iff.1 hl).1
  have hne : b ≠ l := fun e => by rw [e, hl] at hb; cases hb
  refine ⟨_, _, _, _, hR, ⟨[b, l], [0, 0], [dkB D, logC b p g o], [dkB D1, logC b p1 g1 o1], [], ?_, ?_, ?_, ?_, ⟨.objs rfl rfl, .cells ?_ ?_ rfl, trivial⟩, ⟨.objs rfl rfl, .cells ?_ ?_ rfl, trivial⟩, ?_, ?_, rfl⟩⟩
  · have h1 : Nat.beq l b = false := by
      cases h : Nat.beq l b with
      | false => rfl
      | true => exact absurd (Nat.eq_of_beq_eq_true h).symm hne
    have h2 : Nat.beq b l = false := by
      cases h : Nat.beq b l with
      | false => rfl
      | true => exact absurd (Nat.eq_of_beq_eq_true h) hne
    simp [noDup, Nat.blt_eq, hbl, hll, h1, h2]
  · simp [hb, hl]
  · rw [AV.rv.rvL, isPl_id hal]; simp [AV.rv, fNew, dNew]
  · rw [AV.low.allLow, isPl_low hal]; rfl
  · simp [dNew]
  · simp [AV.rv.rvL, AV.rv, fNew]
  · simp [dNew]
  · simp [AV.rv.rvL, AV.rv, fNew]
  · simp [outB]
  · simp [AV.rv]
theorem lift_log0 (hR : R (.ptr 1 0 0 :: al) [dkB D, logC 0 p g o] (.p y) [dkB D, logC 0 p g o]) (hb : B[b]? = some (dkB D)) (hl : B[l]? = some (logC b p g o)) (hal : al.all isPl = true) : liftR R (.ptr l 0 0 :: al) B (.p y) B := by
  have hne : b ≠ l := fun e => by rw [e, hl] at hb; cases hb
  have := lift_log hR hb hl hal
  rwa [set_same hb, set_same hl] at this

theorem oStart (ok : D.Ok) (hd : D.down = false) (hp : 0 ≤ p ∧ p ≤ 1073741824) (hg : 0 ≤ g ∧ g ≤ 67108864) (hn : 1 ≤ n ∧ n ≤ 1073741824 ∧ ¬ (0 < p ∧ n ≤ p)) (hs : 0 < p → (syncD D (wname p)).2 = 0) (hr : ((recB (putI g)).length : Int) ≤ (syncIf D p).room - (syncIf D p).used)
    (hz : (sizeD (syncIf D p) (wname n)).2 ≠ 0) (hc : (createD (syncIf D p) (wname n)).2 = 0) (ha : (appendD (createD (syncIf D p) (wname n)).1 (wname n) (recB (putI g))).2 = 0) (hb : B[b]? = some (dkB D)) (hl : B[l]? = some (logC b p g o)) :
    liftR OStart [.ptr l 0 0, vi n] B (vi 0) ((B.set b (dkB (startD D p g n))).set l (logC b n (recB (putI g)).length true)) :=
  lift_log (R := OStart) ⟨D, p, g, o, n, ok, hd, hp, hg, by omega, rfl, rfl, .inr ⟨hn, hs, hr, hz, hc, ha, rfl, rfl⟩⟩ hb hl rfl
theorem oStartF (ok : D.Ok) (hd : D.down = false) (hp : 0 ≤ p ∧ p ≤ 1073741824) (hg : 0 ≤ g ∧ g ≤ 67108864) (hw : -9223372036854775808 ≤ n ∧ n ≤ 9223372036854775807) (hn : n < 1 ∨ 0 < p ∧ n ≤ p) (hb : B[b]? = some (dkB D)) (hl : B[l]? = some (logC b p g o)) :
    liftR OStart [.ptr l 0 0, vi n] B (vi 1) B := lift_log0 (R := OStart) ⟨D, p, g, o, n, ok, hd, hp, hg, hw, rfl, rfl, .inl ⟨hn, rfl, rfl⟩⟩ hb hl rfl
theorem oAdd (ok : D.Ok) (hp : 0 ≤ p ∧ p ≤ 1073741824) (hg : 0 ≤ g ∧ g ≤ 4611686018427387904) (hs : s.size ≤ 1048576) (hb : B[b]? = some (dkB D)) (hl : B[l]? = some (logC b p g true)) :
    liftR OAdd [.ptr l 0 0, vs s] B (vi (appendD D (wname p) (recB s.data.toList)).2) ((B.set b (dkB (appendD D (wname p) (recB s.data.toList)).1)).set l (logC b p (addG D p g s) true)) :=
  lift_log (R := OAdd) ⟨D, p, g, true, s, ok, hp, hg, hs, rfl, rfl, .inr ⟨rfl, rfl, rfl⟩⟩ hb hl rfl
theorem oAddF (ok : D.Ok) (hp : 0 ≤ p ∧ p ≤ 1073741824) (hg : 0 ≤ g ∧ g ≤ 4611686018427387904) (hs : s.size ≤ 1048576) (hb : B[b]? = some (dkB D)) (hl : B[l]? = some (logC b p g false)) : liftR OAdd [.ptr l 0 0, vs s] B (vi 7) B :=
  lift_log0 (R := OAdd) ⟨D, p, g, false, s, ok, hp, hg, hs, rfl, rfl, .inl ⟨rfl, rfl, rfl⟩⟩ hb hl rfl
theorem oPart (hb : B[b]? = some (dkB D)) (hl : B[l]? = some (logC b p g o)) : liftR OPart [.ptr l 0 0] B (vi p) B := lift_log0 (R := OPart) (al := []) ⟨D, p, g, o, rfl, rfl, rfl, rfl⟩ hb hl rfl
theorem oSizeW (hb : B[b]? = some (dkB D)) (hl : B[l]? = some (logC b p g o)) : liftR OSizeW [.ptr l 0 0] B (vi g) B := lift_log0 (R := OSizeW) (al := []) ⟨D, p, g, o, rfl, rfl, rfl, rfl⟩ hb hl rfl
theorem oOpened (hb : B[b]? = some (dkB D)) (hl : B[l]? = some (logC b p g o)) : liftR OOpened [.ptr l 0 0] B (vb o) B := lift_log0 (R := OOpened) (al := []) ⟨D, p, g, o, rfl, rfl, rfl, rfl⟩ hb hl rfl

theorem oOpen {out : List ByteArray} (ok : D.Ok) (hd : D.down = false) (hn : 1 ≤ n ∧ n ≤ 1073741824) (hres : openA D n 10 n 0 0 [] = some (0, p, g, out)) (hb : B[b]? = some (dkB D)) :
    liftR OOpen [.op b, vi n] B (.tup [.ptr B.length 0 0, .rs (B.length + 1) 0 1 0 out.length, vi 0]) (B ++ [logC b p g false, nameE.bx 0 out]) := by
  have hbl : b < B.length := (List.getElem?_eq_some_iff.1 hb).1
  refine ⟨_, _, _, _, ⟨D, n, ok, hd, by omega, rfl, rfl, .inr ⟨hn, _, hres, .inl ⟨rfl, rfl, rfl⟩⟩⟩, ⟨[b], [0], [dkB D], [dkB D], [logC b p g false, nameE.bx 0 out], ?_, ?_, ?_, rfl, ⟨.objs rfl rfl, trivial⟩, ⟨.objs rfl rfl, .cells ?_ ?_ rfl, .rowv ?_, trivial⟩, ?_, ?_, rfl⟩⟩
  · simp [noDup, Nat.blt_eq, hbl]
  · simp [hb]
  · simp [AV.rv.rvL, AV.rv, fNew]
  · simp [dNew]
  · simp [AV.rv.rvL, AV.rv, fNew]
  · simp [dNew]
  · rw [outB, outB, set_same hb]
  · simp [AV.rv, AV.rv.rvL, fNew, dNew]
theorem oOpenF {res : Int × Int × Int × List ByteArray} (ok : D.Ok) (hd : D.down = false) (hn : 1 ≤ n ∧ n ≤ 1073741824) (hres : openA D n 10 n 0 0 [] = some res) (he : res.1 ≠ 0) (hb : B[b]? = some (dkB D)) :
    liftR OOpen [.op b, vi n] B (.tup [nilP, nilS, vi res.1]) B := by
  have := lift_obj (R := OOpen) (al := [vi n]) ⟨D, n, ok, hd, by omega, rfl, rfl, .inr ⟨hn, _, hres, .inr ⟨he, rfl, rfl⟩⟩⟩ hb rfl rfl
  rwa [set_same hb] at this
theorem oOpenA (ok : D.Ok) (hd : D.down = false) (hw : -9223372036854775808 ≤ n ∧ n ≤ 9223372036854775807) (hn : n < 1 ∨ 1073741824 < n) (hb : B[b]? = some (dkB D)) : liftR OOpen [.op b, vi n] B (.tup [nilP, nilS, vi 1]) B := by
  have := lift_obj (R := OOpen) (al := [vi n]) ⟨D, n, ok, hd, hw, rfl, rfl, .inl ⟨hn, rfl, rfl⟩⟩ hb rfl rfl
  rwa [set_same hb] at this
theorem lift_nil {post : List AV → AV → Prop} {r : AV} (h : post al r) (hal : al.all isPl = true) (hr : r.low 0 = true) : liftR (NilR post) al B r B := by
  refine ⟨_, _, _, _, ⟨rfl, rfl, h⟩, ⟨[], [], [], [], [], rfl, rfl, (isPl_id hal _ _).symm, isPl_low hal _, trivial, trivial, ?_, ?_, hr⟩⟩
  · simp [outB]
  · exact (rv_low (n := 0) (fun j hj => by omega) (fun j hj => by omega) hr).symm

theorem lift_seeE {α : Type} {E : Enc α} {L : List α} {pre post : List AV} {x : PV} {v : Nat} (hR : R (pre ++ .rs 0 0 E.sz 0 L.length :: post) [E.bx 0 L] (.p x) [E.bx 0 L]) (hb : B[b]? = some (E.bx v L)) (h1 : pre.all isPl = true) (h2 : post.all isPl = true) :
    liftR R (pre ++ .rs b v E.sz 0 L.length :: post) B (.p x) B := by
  have hlt : b < B.length := (List.getElem?_eq_some_iff.1 hb).1
  refine ⟨_, _, _, _, hR, ⟨[b], [v], [E.bx v L], [E.bx v L], [], ?_, ?_, ?_, ?_, ⟨.rowv ?_, trivial⟩, ⟨.rowv ?_, trivial⟩, ?_, ?_, rfl⟩⟩
  · simp [noDup, Nat.blt_eq, hlt]
  · simp [hb]
  · rw [rvL_mid _ _ h1 h2]; simp [AV.rv, fNew, dNew]
  · exact low_mid h1 h2 rfl
  · simp [dNew]
  · simp [dNew]
  · rw [outB, outB, List.append_nil, set_same hb]
  · simp [AV.rv]
theorem oBegS {got all : List ByteArray} {k v kb vb' : Nat} {m : Int} (hg : got.length ≤ 1000000000) (hk : B[k]? = some (nameE.bx v got)) (ha : B[kb]? = some (nameE.bx vb' all)) (hne : k ≠ kb) :
    sealR (liftR OBeg) [.rs k v 1 0 got.length, .rs kb vb' 1 0 all.length, vi m] B (vb (begB got all m)) (B.set k .dead) :=
  ⟨0, k, v, ByteArray, nameE, got, hk, rfl, lift_seeE (R := OBeg) (E := nameE) (pre := [vl (got.map nameE.f)]) (post := [vi m]) ⟨got, all, m, hg, rfl, rfl, rfl, rfl⟩ (by rw [List.getElem?_set_ne hne]; exact ha) rfl rfl⟩
end

noncomputable def Γ7h : Env := envP [(iNameW, gNameW)]
theorem Γ7h_ok : ∀ f, SoundF DP f (Γ7h f) := envP_cons SNameW envP_nil
noncomputable def L7 : List (Nat × RSpec) := [(iNew, liftR ONew), (iOpen, orR (liftR OOpen) (liftR (NilR fun a r => ∃ n, a = [nilP, vi n] ∧ r = .tup [nilP, nilS, vi 1]))),
  (iStart, orR (liftR OStart) (liftR (NilR fun a r => ∃ n, a = [nilP, vi n] ∧ r = vi 1))), (iAdd, orR (liftR OAdd) (liftR (NilR fun a r => ∃ s, a = [nilP, vs s] ∧ r = vi 1))),
  (iPart, orR (liftR OPart) (liftR (NilR fun a r => a = [nilP] ∧ r = vi 0))), (iSizeW, orR (liftR OSizeW) (liftR (NilR fun a r => a = [nilP] ∧ r = vi 0))), (iOpened, orR (liftR OOpened) (liftR (NilR fun a r => a = [nilP] ∧ r = vb false))),
  (iSyncW, liftR (NilR fun a r => a = [nilP] ∧ r = vi 1)), (iBeg, sealR (liftR OBeg)), (iSync, liftR OSync), (iSpoil, liftR OSpoil), (iRoom, liftR ORoom), (iCreate, liftR OCreate), (iAppend, takeR OAppend), (iRead, liftR ORead)]
theorem L7_ok : ∀ f, SoundR DP f (envR L7 f) :=
  envR_cons (lift_sound SNew) <| envR_cons ((lift_sound SOpen).or (lift_sound SNOpen)) <| envR_cons ((lift_sound SStart).or (lift_sound SNStart)) <| envR_cons ((lift_sound SAdd).or (lift_sound SNAdd)) <|
  envR_cons ((lift_sound SPart).or (lift_sound SNPart)) <| envR_cons ((lift_sound SSizeW).or (lift_sound SNSize)) <| envR_cons ((lift_sound SOpened).or (lift_sound SNOpened)) <| envR_cons (lift_sound SNSync) <|
  envR_cons (lift_sound SBeg).shutRow <| envR_cons (lift_sound SSync) <| envR_cons (lift_sound SSpoil) <| envR_cons (lift_sound SRoom) <| envR_cons (lift_sound SCreate) <| envR_cons (take_sound SAppend) <| envR_cons (lift_sound SRead) <| envR_nil
noncomputable def Δ7 : REnv := envR L7
theorem Δ7_ok : ∀ f, SoundR DP f (Δ7 f) := L7_ok

end Go.Ax
