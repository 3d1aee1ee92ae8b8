/- The law WalTurns is true. -/
import Derived.Test.YtjlipmcdnigfcaaDoorG35
import Derived.Test.YtjlipmcdnigfcaaDoorG32
import Derived.Test.YtjlipmcdnigfcaaDoorTie
import Derived.Test.YtjlipmcdnigfcaaDoorG12
import Derived.OpenShut
import Derived.WalkKit
import Derived.ProofKit
import Derived.LaidMore
import Derived.LaidLaws
import Derived.LaidHandle
import Derived.Lib.LaidTab
import Derived.Stop.Joined
set_option linter.unusedVariables false
set_option linter.unusedSimpArgs false
set_option linter.unusedSectionVars false
namespace Go.Ax
open Go.Proofs Go.RowKit
set_option maxRecDepth 100000

/-! ### A byte on the disk is turned -/
theorem get_cont {D : Dsk} {nm : ByteArray} {c : List UInt8} (hc : D.cont nm = some c) : ∃ x, D.get nm = some x ∧ x.b = c := by
  unfold Dsk.cont at hc
  cases hg : D.get nm with
  | none => rw [hg] at hc; cases hc
  | some x => rw [hg] at hc; cases hc; exact ⟨x, rfl, rfl⟩
theorem cont_spoil {D : Dsk} (h : Live D) {nm : ByteArray} {c : List UInt8} (hc : D.cont nm = some c) {k : Int} (hk : 0 ≤ k ∧ k < c.length) (bits : UInt8) :
    (spoilD D nm k bits).2 = 0 ∧ Live (spoilD D nm k bits).1 ∧ (∀ m, (spoilD D nm k bits).1.cont m = if nm = m then some (c.modify k.toNat (· ^^^ bits)) else D.cont m) := by
  obtain ⟨x, hg, rfl⟩ := get_cont hc
  obtain ⟨_, hxn⟩ := get_some hg
  have e : spoilD D nm k bits = ({ D with files := repF D.files { x with b := x.b.modify k.toNat (· ^^^ bits) } }, 0) := by
    unfold spoilD
    rw [if_neg (by simp [h.up])]
    simp only [hg]
    rw [if_neg (by omega)]
  have hok := spoilD_ok h.ok nm k bits
  rw [e] at hok ⊢
  refine ⟨rfl, ⟨hok, h.up, h.fu⟩, fun m => ?_⟩
  show ((repF D.files { x with b := x.b.modify k.toNat (· ^^^ bits) }).find? fun y => decide (y.name = m)).map (·.b) = _
  rw [find_rep]
  simp only [hxn]
  split
  · rename_i e
    subst e
    unfold Dsk.get at hg
    rw [hg]; rfl
  · rfl

/-- A part that is bad is told when the log is opened. -/
theorem open_bad {D : Dsk} (h : Live D) {frm : Int} : ∀ (P : List (List (List UInt8))) (f : Nat) (n p g0 g : Int) (out : List ByteArray) (c : List UInt8),
    (∀ i : Nat, (hi : i < P.length) → D.cont (wname (n + i)) = some (partB (lastG g0 (P.take i)) P[i])) → D.cont (wname (n + P.length)) = some c → (allI c).2.2 = 12 → Small P → P.length < f → n + P.length ≤ 1073741824 → (0 ≤ g0 ∧ g0 ≤ 67108864) → (frm < n → g0 = g) →
    openA D frm f n p g out = some (12, 0, 0, [])
  | [], f, n, p, g0, g, out, c, _, hc, ha, _, hf, hn, _, _ => by
    cases f with
    | zero => simp at hf
    | succ f =>
      simp only [List.length_nil, Int.natCast_zero, Int.add_zero] at hn hc
      have hr := cont_read hc
      rw [openA, if_neg (by omega), hr, ha, if_neg (by decide), if_pos (by decide)]
  | ts :: r, f, n, p, g0, g, out, c, hh, hc, ha, hs, hf, hn, hg, hq => by
    cases f with
    | zero => simp at hf
    | succ f =>
      have h1 := hh 0 (by simp)
      simp only [Int.natCast_zero, Int.add_zero, List.take_zero, lastG, List.getElem_cons_zero] at h1
      simp only [List.length_cons] at hf hn hc
      have hsm : ∀ d ∈ ts, d.length ≤ 1048576 := hs ts (by simp)
      have hr := cont_read h1
      rw [allI_part hg hsm] at hr
      have hlen : ((partB g0 ts).length : Int) ≤ 67108864 := h.len h1
      rw [openA, if_neg (by omega), hr]
      simp only
      rw [if_neg (by decide), if_neg (by decide), parseI_part hg]
      simp only
      rw [if_neg (by decide), if_neg (by decide), if_neg (fun hx => hx.2 (hq hx.1))]
      refine open_bad h r f (n + 1) n _ _ _ c (fun i hi => ?_) (by rw [show n + 1 + (r.length : Int) = n + ((r.length + 1 : Nat) : Int) by omega]; exact hc) ha (fun x hx => hs x (by simp [hx])) (by omega) (by omega) (by omega) (fun _ => rfl)
      have := hh (i + 1) (by simpa using hi)
      rw [show n + 1 + (i : Int) = n + ((i + 1 : Nat) : Int) by omega]
      simpa [lastG] using this

def lensG : Int → List (List (List UInt8)) → List Int
  | _, [] => []
  | g, ts :: r => ((partB g ts).length : Int) :: lensG (partB g ts).length r
theorem lensG_snoc : ∀ (P : List (List (List UInt8))) (g : Int) (ts : List (List UInt8)), lensG g (P ++ [ts]) = lensG g P ++ [((partB (lastG g P) ts).length : Int)]
  | [], g, ts => rfl
  | a :: P, g, ts => by
    show _ :: lensG _ (P ++ [ts]) = _
    rw [lensG_snoc P]
    rfl
theorem lensG_len : ∀ (P : List (List (List UInt8))) (g : Int), (lensG g P).length = P.length
  | [], _ => rfl
  | _ :: P, _ => congrArg (· + 1) (lensG_len P _)
theorem lensG_get : ∀ (P : List (List (List UInt8))) (g : Int) (i : Nat) (hi : i < P.length), (lensG g P)[i]? = some ((partB (lastG g (P.take i)) P[i]).length : Int)
  | [], _, i, hi => absurd hi (by simp)
  | ts :: P, g, 0, _ => rfl
  | ts :: P, g, i + 1, hi => by
    show (lensG _ P)[i]? = _
    rw [lensG_get P _ i (by simpa using hi)]
    rfl

theorem Wr.at {D : Dsk} {P : List (List (List UInt8))} (w : Wr D P) (i : Nat) (hi : i < P.length) : D.cont (wname (1 + i)) = some (partB (lastG 0 (P.take i)) P[i]) := by
  have hd := Holds.drop i w.holds (by omega)
  rw [List.drop_eq_getElem_cons hi] at hd
  exact hd.1
theorem Wr.lb {D : Dsk} {P : List (List (List UInt8))} (w : Wr D P) (i : Nat) (hi : i ≤ P.length) : 0 ≤ lastG 0 (P.take i) ∧ lastG 0 (P.take i) ≤ 67108864 := by
  refine ⟨lastG_b (Int.le_refl _), ?_⟩
  cases i with
  | zero => simp [lastG]
  | succ j =>
    have hc := w.at j (by omega)
    have ht : P.take (j + 1) = P.take j ++ [P[j]] := by
      rw [List.take_add_one, List.getElem?_eq_getElem (by omega)]; rfl
    rw [ht, lastG_snoc]
    exact w.live.len hc

/-- A turned byte in a part: its reading is bad. -/
theorem Wr.turned {D : Dsk} {P : List (List (List UInt8))} (w : Wr D P) (hs : Small P) (hp : P.length < 9) {i : Nat} (hi : i < P.length) {k : Int} (hk : 0 ≤ k ∧ k < (partB (lastG 0 (P.take i)) P[i]).length) {bits : UInt8} (hb : bits ≠ 0) :
    (spoilD D (wname (1 + i)) k bits).2 = 0 ∧ Live (spoilD D (wname (1 + i)) k bits).1 ∧ openA (spoilD D (wname (1 + i)) k bits).1 1 10 1 0 0 [] = some (12, 0, 0, []) := by
  obtain ⟨s1, s2, s3⟩ := cont_spoil w.live (w.at i hi) hk bits
  refine ⟨s1, s2, open_bad s2 (P.take i) 10 1 0 0 0 [] _ (fun j hj => ?_) (by rw [s3, if_pos (by rw [List.length_take, Nat.min_eq_left (by omega)])]) (part_turn (w.lb i (by omega)) (hs _ (List.getElem_mem hi)) (by omega) hb) (fun x hx => hs x (List.mem_of_mem_take hx)) (by rw [List.length_take]; omega) (by rw [List.length_take]; omega) (by decide) (fun h => absurd h (by decide))⟩
  rw [List.length_take] at hj
  rw [s3, if_neg (fun e => ?_), w.at j (by omega)]
  · rw [List.getElem_take, List.take_take, Nat.min_eq_left (by omega)]
  · have := wname_inj (by omega) (by omega) e
    omega

section
variable {parts : List (List ByteArray)} {at_ : Int} {bits : UInt8} {s1 : Int × Int × Bool × Dsk × List Int × Int × Int} {e1 : List ByteArray}
/-- A part's texts are written. -/
theorem turns2 {P : List (List (List UInt8))} (hP : P.length ≤ 5) (hi : s1.2.2.2.2.2.2 = P.length) (he : e1.length ≤ 8) (D0 : Dsk) (hr0 : D0.room = 1048576) (hu0 : D0.used ≤ 900000) : ∀ (j m : Nat) (D : Dsk) (g : Int), m + j = e1.length →
    Wr D (P ++ [cv (e1.take m)]) → g = lastG 0 (P ++ [cv (e1.take m)]) → D.room = D0.room → D.used ≤ D0.used + m * 212 → (∀ s ∈ e1.take m, s.size ≤ 200) →
    Rounds (TTurns_l2_e parts at_ bits s1 e1) TTurns_l2_x (TTurns_l2_x' parts at_ bits s1) (fun s => (TTurns_l2_b parts at_ bits s1 e1 s).wp) (g, D, (m : Int)) (.inl ()) ∨
    ∃ D1 g1, Wr D1 (P ++ [cv e1]) ∧ g1 = lastG 0 (P ++ [cv e1]) ∧ D1.room = D0.room ∧ D1.used ≤ D0.used + 8 * 212 ∧ (∀ s ∈ e1, s.size ≤ 200) ∧
      Rounds (TTurns_l2_e parts at_ bits s1 e1) TTurns_l2_x (TTurns_l2_x' parts at_ bits s1) (fun s => (TTurns_l2_b parts at_ bits s1 e1 s).wp) (g, D, (m : Int)) (.inr (D1, g1)) := by
  intro j
  induction j with
  | zero =>
    intro m D g hm w hg hr hu hs
    rw [List.take_of_length_le (by omega)] at *
    refine .inr ⟨D, g, w, hg, hr, by omega, hs, .done' (by intro e; cases e) ?_⟩
    unfold TTurns_l2_b
    exact wp_sp (fun h => absurd (of_decide_eq_true h) (by simp only; omega)) (fun _ => wp_leaf rfl ⟨rfl, rfl⟩)
  | succ j ih =>
    intro m D g hm w hg hr hu hs
    obtain ⟨a, ha, ht⟩ := get_snoc (l := e1) (i := m) (by omega)
    by_cases hsz : a.size > 200
    · refine .inl (.done (by intro e; cases e) ?_)
      unfold TTurns_l2_b
      exact wp_sp (fun _ => wp_elem a (by simp only; omega) (by simpa using ha) (wp_sp (fun _ => wp_leaf rfl ⟨rfl, rfl⟩) (fun h => absurd (of_decide_eq_false h) (by omega)))) (fun h => absurd (of_decide_eq_false h) (by simp only; omega))
    · have hrl : (recB a.data.toList).length = a.size + 12 := recB_len _
      have hpl : (1 + s1.2.2.2.2.2.2) = 1 + (P.length : Int) := by rw [hi]
      obtain ⟨c, w2, u2, r2, l2⟩ := w.oAdd (s := a) (B := [dkB D, logC 0 (1 + P.length) g true, intE.bx 0 s1.2.2.2.2.1]) (b := 0) (l := 1) rfl hg (by omega) (by omega) (by omega) rfl rfl
      have hcv : cv (e1.take (m + 1)) = cv (e1.take m) ++ [a.data.toList] := by rw [ht]; simp [cv]
      have em : ((m + 1 : Nat) : Int) = (m : Int) + 1 := by omega
      rw [← hcv] at w2 l2
      have hbody : (TTurns_l2_b parts at_ bits s1 e1 (g, D, (m : Int))).wp (fun e c => e = .normal ∧ c = TTurns_l2_e parts at_ bits s1 e1 (g + (recB a.data.toList).length, (appendD D (wname (1 + P.length)) (recB a.data.toList)).1, ((m + 1 : Nat) : Int))) := by
        unfold TTurns_l2_b
        rw [hpl]
        refine wp_sp (fun _ => wp_elem a (by simp only; omega) (by simpa using ha) (wp_sp (fun h => absurd (of_decide_eq_true h) (by omega)) (fun _ => wp_callr c (wp_i64 (by simp only; omega) (wp_leaf rfl ⟨rfl, by rw [em]⟩))))) (fun h => absurd (of_decide_eq_false h) (by simp only; omega))
      have hs2 : ∀ s ∈ e1.take (m + 1), s.size ≤ 200 := fun s hx => by
        rw [ht] at hx
        rcases List.mem_append.1 hx with hx | hx
        · exact hs s hx
        · rw [List.mem_singleton.1 hx]; omega
      rcases ih (m + 1) _ _ (by omega) w2 l2.symm (r2.trans hr) (by rw [u2]; omega) hs2 with h | ⟨D1, g1, q1, q2, q3, q4, q5, q6⟩
      · exact .inl (.next hbody h)
      · exact .inr ⟨D1, g1, q1, q2, q3, q4, q5, .next hbody q6⟩
end

/-- All parts are written. -/
theorem turns1 {parts : List (List ByteArray)} {at_ : Int} {bits : UInt8} (hp : parts.length ≤ 4) : ∀ (j i : Nat) (D : Dsk) (g : Int) (o : Bool), i + j = parts.length →
    Wr D ((parts.take i).map cv) → g = lastG 0 ((parts.take i).map cv) → D.room = 1048576 → D.used ≤ i * 2000 → (∀ l ∈ parts.take i, l.length ≤ 8 ∧ ∀ s ∈ l, s.size ≤ 200) →
    Rounds (TTurns_l1_e parts at_ bits) TTurns_l1_x (TTurns_l1_x' at_ bits) (fun s => (TTurns_l1_b parts at_ bits s).wp) ((i : Int), g, o, D, lensG 0 ((parts.take i).map cv), (lensG 0 ((parts.take i).map cv)).sum, (i : Int)) (.inl true) ∨
    ∃ D1, Wr D1 (parts.map cv) ∧ (∀ l ∈ parts, l.length ≤ 8 ∧ ∀ s ∈ l, s.size ≤ 200) ∧
      Rounds (TTurns_l1_e parts at_ bits) TTurns_l1_x (TTurns_l1_x' at_ bits) (fun s => (TTurns_l1_b parts at_ bits s).wp) ((i : Int), g, o, D, lensG 0 ((parts.take i).map cv), (lensG 0 ((parts.take i).map cv)).sum, (i : Int)) (.inr ((lensG 0 (parts.map cv)).sum, D1, lensG 0 (parts.map cv))) := by
  intro j
  induction j with
  | zero =>
    intro i D g o hi w hg hr hu hs
    obtain rfl : i = parts.length := by omega
    rw [List.take_of_length_le (Nat.le_refl _)] at *
    refine .inr ⟨D, w, hs, .done' (by intro e; cases e) ?_⟩
    unfold TTurns_l1_b
    exact wp_sp (fun h => absurd (of_decide_eq_true h) (by simp only; omega)) (fun _ => wp_leaf rfl ⟨rfl, rfl⟩)
  | succ j ih =>
    intro i D g o hi w hg hr hu hs
    obtain ⟨e1, he, ht⟩ := get_snoc (l := parts) (i := i) (by omega)
    by_cases h8 : e1.length > 8
    · refine .inl (.done (by intro e; cases e) ?_)
      unfold TTurns_l1_b
      refine wp_sp (fun _ => wp_elem e1 (by simp only; omega) (by simpa using he) (wp_len (wp_sp (fun _ => wp_len (wp_leaf rfl ⟨rfl, ?_⟩)) (fun h => absurd (of_decide_eq_false h) (by omega))))) (fun h => absurd (of_decide_eq_false h) (by simp only; omega))
      rw [decide_eq_true (by omega : (e1.length : Int) > 8)]
    · have hlen : ((parts.take i).map cv).length = i := by simp; omega
      have hlens : (lensG 0 ((parts.take i).map cv)).length = i := by rw [lensG_len, hlen]
      have hsum : ∀ (Q : List (List (List UInt8))) (g : Int), 0 ≤ (lensG g Q).sum := fun Q => by
        induction Q with
        | nil => intro g; exact Int.le_refl _
        | cons a Q ih => intro g; have := ih (partB g a).length; show 0 ≤ ((partB g a).length : Int) + (lensG _ Q).sum; omega
      obtain ⟨c, w2, u2, r2, l2⟩ := w.oStart (B := [dkB D, logC 0 (i : Int) g o, intE.bx 0 (lensG 0 ((parts.take i).map cv))]) (b := 0) (l := 1) (p := (i : Int)) (n := 1 + (i : Int)) (by rw [hlen]) hg rfl (by omega) (by omega) rfl rfl
      have hh := recB_head (g := g) (by rw [hg]; exact w.sg)
      have hin := turns2 (parts := parts) (at_ := at_) (bits := bits) (s1 := ((i : Int), g, o, D, lensG 0 ((parts.take i).map cv), (lensG 0 ((parts.take i).map cv)).sum, (i : Int))) (e1 := e1) (P := (parts.take i).map cv) (by omega) (by rw [hlen]) (by omega) (startD D i g (1 + i)) (r2.trans hr) (by rw [u2]; omega) e1.length 0 (startD D i g (1 + i)) (recB (putI g)).length (by omega) (by simpa [cv] using w2) (by simpa [cv] using l2.symm) rfl (by omega) (by simp)
      rcases hin with h | ⟨D1, g1, q1, q2, q3, q4, q5, q6⟩
      · refine .inl (.done (by intro e; cases e) ?_)
        unfold TTurns_l1_b
        exact wp_sp (fun _ => wp_elem e1 (by simp only; omega) (by simpa using he) (wp_len (wp_sp (fun h => absurd (of_decide_eq_true h) (by omega)) (fun _ => wp_i64 (by simp only; omega) (wp_callr c (wp_len (wp_loop _ rfl h (wp_leaf rfl ⟨rfl, rfl⟩)))))))) (fun h => absurd (of_decide_eq_false h) (by simp only; omega))
      · have hP2 : (parts.take (i + 1)).map cv = (parts.take i).map cv ++ [cv e1] := by rw [ht]; simp
        have hL : lensG 0 ((parts.take (i + 1)).map cv) = lensG 0 ((parts.take i).map cv) ++ [g1] := by
          rw [hP2, lensG_snoc, q2, lastG_snoc]
        have hg1 : 0 ≤ g1 ∧ g1 ≤ 67108864 := by rw [q2]; exact q1.sg
        have hSb : (lensG 0 ((parts.take i).map cv)).sum ≤ i * 67108864 := by
          have key : ∀ n, n ≤ i → (lensG 0 (((parts.take i).map cv).take n)).sum ≤ n * 67108864 := fun n => by
            induction n with
            | zero => intro _; simp [lensG]
            | succ n ihn =>
              intro hn
              have h1 := ihn (by omega)
              have h2 := w.lb (n + 1) (by omega)
              obtain ⟨x, _, hx⟩ := get_snoc (l := (parts.take i).map cv) (i := n) (by omega)
              rw [hx] at h2 ⊢
              rw [lastG_snoc] at h2
              rw [lensG_snoc, List.sum_append]
              simp only [List.sum_cons, List.sum_nil]
              omega
          have := key i (Nat.le_refl _)
          rwa [List.take_of_length_le (by omega)] at this
        have hS0 := hsum ((parts.take i).map cv) 0
        have hnx : (TTurns_l1_b parts at_ bits ((i : Int), g, o, D, lensG 0 ((parts.take i).map cv), (lensG 0 ((parts.take i).map cv)).sum, (i : Int))).wp (fun e c => e = .normal ∧ c = TTurns_l1_e parts at_ bits (((i + 1 : Nat) : Int), g1, true, D1, lensG 0 ((parts.take (i + 1)).map cv), (lensG 0 ((parts.take (i + 1)).map cv)).sum, ((i + 1 : Nat) : Int))) := by
          unfold TTurns_l1_b
          have e1' : 1 + (i : Int) = ((i + 1 : Nat) : Int) := by omega
          have e2' : (i : Int) + 1 = ((i + 1 : Nat) : Int) := by omega
          refine wp_sp (fun _ => wp_elem e1 (by simp only; omega) (by simpa using he) (wp_len (wp_sp (fun h => absurd (of_decide_eq_true h) (by omega)) (fun _ => wp_i64 (by simp only; omega) (wp_callr c (wp_len (wp_loop' _ rfl q6 (wp_callr (.inl (oSizeW rfl rfl)) (wp_app ⟨rfl, rfl⟩ rfl (by simp only [List.length_append, List.length_singleton, hlens]; omega) (wp_callr (.inl (oSizeW rfl rfl)) (wp_i64 (by simp only; omega) (wp_i64 (by simp only; omega) (wp_leaf rfl ⟨rfl, ?_⟩))))))))))))) (fun h => absurd (of_decide_eq_false h) (by simp only; omega))
          rw [hL, List.sum_append, e1', e2']
          simp only [List.sum_cons, List.sum_nil, Int.add_zero]
        have hs2 : ∀ l ∈ parts.take (i + 1), l.length ≤ 8 ∧ ∀ s ∈ l, s.size ≤ 200 := fun l hx => by
          rw [ht] at hx
          rcases List.mem_append.1 hx with hx | hx
          · exact hs l hx
          · rw [List.mem_singleton.1 hx]; exact ⟨by omega, q5⟩
        rw [← hP2] at q1 q2
        rcases ih (i + 1) D1 g1 true (by omega) q1 q2 (q3.trans (r2.trans hr)) (by omega) hs2 with h | ⟨D2, z1, z2, z3⟩
        · exact .inl (.next hnx h)
        · exact .inr ⟨D2, z1, z2, .next hnx z3⟩

/-- The part of a place is found, and its byte turned. -/
theorem turns3 {bits : UInt8} (hb : bits ≠ 0) {P : List (List (List UInt8))} {D : Dsk} (w : Wr D P) (hs : Small P) (hp : P.length ≤ 4) {y1 : Int × Dsk × List Int} (hy : y1.2.1 = D ∧ y1.2.2 = lensG 0 P) : ∀ (j i : Nat) (k : Int), i + j = P.length → 0 ≤ k → k < ((lensG 0 P).drop i).sum → k ≤ 1048576 →
    ∃ D1, Live D1 ∧ openA D1 1 10 1 0 0 [] = some (12, 0, 0, []) ∧ Rounds (TTurns_l3_e bits y1) TTurns_l3_x noX (fun s => (TTurns_l3_b bits y1 s).wp) (k, (i : Int)) (.inl D1) := by
  obtain ⟨yD, yL⟩ := hy
  have hll := lensG_len P 0
  intro j
  induction j with
  | zero =>
    intro i k hi h0 hk _
    rw [List.drop_of_length_le (by omega)] at hk
    exact absurd hk (by simp; omega)
  | succ j ih =>
    intro i k hi h0 hk hkb
    have hget := lensG_get P 0 i (by omega)
    have hd : (lensG 0 P).drop i = ((partB (lastG 0 (P.take i)) (P[i]'(by omega))).length : Int) :: (lensG 0 P).drop (i + 1) := by
      rw [List.drop_eq_getElem_cons (by omega)]
      congr 1
      rw [List.getElem?_eq_getElem (by omega)] at hget
      exact Option.some.inj hget
    by_cases hge : k ≥ ((partB (lastG 0 (P.take i)) (P[i]'(by omega))).length : Int)
    · obtain ⟨D1, z1, z2, z3⟩ := ih (i + 1) (k - ((partB (lastG 0 (P.take i)) (P[i]'(by omega))).length : Int)) (by omega) (by omega) (by rw [hd] at hk; simp only [List.sum_cons] at hk; omega) (by omega)
      refine ⟨D1, z1, z2, .next ?_ z3⟩
      unfold TTurns_l3_b
      rw [yL]
      refine wp_sp (fun _ => wp_ridx (by simp only; omega) (by simp only; omega) (wp_rload ((partB (lastG 0 (P.take i)) (P[i]'(by omega))).length : Int) (by simp only; omega) (by rfl) (by simpa using hget) (wp_sp (fun _ => wp_i64 (by simp only; omega) (wp_i64 (by simp only; omega) (wp_leaf rfl ⟨rfl, ?_⟩))) (fun h => absurd (of_decide_eq_false h) (by simp only; omega))))) (fun h => absurd (of_decide_eq_false h) (by simp only; omega))
      rw [show ((i + 1 : Nat) : Int) = (i : Int) + 1 by omega]
    · obtain ⟨s1, s2, s3⟩ := w.turned hs (by omega) (i := i) (by omega) (k := k) ⟨h0, by omega⟩ hb
      refine ⟨_, s2, s3, .done (by intro e; cases e) ?_⟩
      have c := oSpoil (nm := wname (1 + i)) (D := D) (ofs := k) (bits := bits) w.live.ok (B := [dkB D, intE.bx 0 (lensG 0 P)]) (b := 0) rfl
      rw [s1] at c
      unfold TTurns_l3_b
      rw [yD, yL]
      exact wp_sp (fun _ => wp_ridx (by simp only; omega) (by simp only; omega) (wp_rload ((partB (lastG 0 (P.take i)) (P[i]'(by omega))).length : Int) (by simp only; omega) (by rfl) (by simpa using hget) (wp_sp (fun h => absurd (of_decide_eq_true h) (by simp only; omega)) (fun _ => wp_i64 (by simp only; omega) (wp_call (gNameW_eq (by simp only; omega)) (wp_callr c (wp_leaf rfl ⟨rfl, rfl⟩))))))) (fun h => absurd (of_decide_eq_false h) (by simp only; omega))

def RWalTurns : List AV → AV → Prop := fun args r => ∃ (parts : List (List ByteArray)) (at_ : Int) (bits : UInt8), args = [vl (parts.map namesE.f), vi at_, vn .u8 (bits.toNat : Int)] ∧ r = vb true
theorem SWalTurns : SoundF DP iWalTurns (.pure (relG RWalTurns)) := sound_pureT mixedD Γ7_ok Δ7_ok hfWalTurns heWalTurns hbWalTurns (by
  rintro args r ⟨parts, at_, bits, rfl, rfl⟩
  refine ⟨rfl, rfl, _, TTurns_chk parts at_ bits, ?_⟩
  unfold TTurns
  refine wp_call gHeadL_eq (wp_len (wp_sp (fun _ => wp_leaf rfl (.p _)) (fun h0 => wp_len (wp_sp (fun _ => wp_leaf rfl (.p _)) (fun h5 => wp_sp (fun _ => wp_leaf rfl (.p _)) (fun hbz => ?_))))))
  have h0 : (parts.length : Int) ≠ 0 := by simpa using h0
  have h5 := of_decide_eq_false h5
  have hb : bits ≠ 0 := by rintro rfl; simp at hbz
  refine wp_callr (oNew 1048576) (wp_callr (oOpenNew rfl) (wp_len ?_))
  have hm := turns1 (parts := parts) (at_ := at_) (bits := bits) (by omega) parts.length 0 (newD 1048576) 0 false (by omega) .new rfl (by decide) (by decide) (by simp)
  rcases hm with h | ⟨D1, w, hs, h⟩
  · exact wp_loop _ rfl h (wp_leaf rfl (.p _))
  · refine wp_loop' _ rfl h ?_
    clear h
    have hsm : Small (parts.map cv) := by
      intro ts hts d hd
      obtain ⟨l, hl, rfl⟩ := List.mem_map.1 hts
      obtain ⟨s, hsl, rfl⟩ := List.mem_map.1 hd
      have := (hs l hl).2 s hsl
      show s.size ≤ _
      omega
    have hpos : 0 < (lensG 0 (parts.map cv)).sum := by
      have hsum : ∀ (Q : List (List (List UInt8))) (g : Int), 0 ≤ (lensG g Q).sum := fun Q => by
        induction Q with
        | nil => intro g; exact Int.le_refl _
        | cons a Q ih => intro g; have := ih (partB g a).length; show 0 ≤ ((partB g a).length : Int) + (lensG _ Q).sum; omega
      cases parts with
      | nil => simp at h0
      | cons a r =>
        have := hsum (r.map cv) (partB 0 (cv a)).length
        have h1 : 0 < (partB 0 (cv a)).length := by
          unfold partB
          simp only [List.map_cons, List.flatten_cons, List.length_append, recB_len]
          omega
        show 0 < ((partB 0 (cv a)).length : Int) + (lensG _ (r.map cv)).sum
        omega
    have ht1 : 0 ≤ Int.tmod (at_ % 1048576) (lensG 0 (parts.map cv)).sum := Int.tmod_nonneg _ (by omega)
    have ht2 : Int.tmod (at_ % 1048576) (lensG 0 (parts.map cv)).sum < (lensG 0 (parts.map cv)).sum := Int.tmod_lt_of_pos _ hpos
    have ht3 : Int.tmod (at_ % 1048576) (lensG 0 (parts.map cv)).sum ≤ 1048576 := by
      rw [Int.tmod_eq_emod_of_nonneg (by omega)]
      rcases Int.lt_or_le (at_ % 1048576) (lensG 0 (parts.map cv)).sum with h | h
      · rw [Int.emod_eq_of_lt (by omega) h]; omega
      · have := Int.emod_lt_of_pos (at_ % 1048576) hpos; omega
    obtain ⟨D2, z1, z2, z3⟩ := turns3 hb w hsm (by simp; omega) (y1 := ((lensG 0 (parts.map cv)).sum, D1, lensG 0 (parts.map cv))) ⟨rfl, rfl⟩ (parts.map cv).length 0 (Int.tmod (at_ % 1048576) (lensG 0 (parts.map cv)).sum) (by omega) ht1 ht2 ht3
    refine wp_int (andI64 20 (by decide)) (wp_val (rem_val (by omega)) (wp_loop _ rfl z3 ?_))
    exact wp_callr (.inl (oOpenF z1.ok z1.up (by decide) z2 (by decide) rfl)) (wp_leaf rfl (.p _)))
end Go.Ax

namespace Go.Ax
open Go.Proofs Go.ChangeShapes Go.WideShapes Go.ChangeAt Go.RowKit
set_option maxRecDepth 100000

theorem tabRel {W : World} {g : Nat} {us : Array Value} {e : TypeId} {fr : Nat × Nat} (hh : W.heap[g]? = some (.cells us e fr)) (hu : us.toList.map PV.v = Glob.tab g) : ∀ ρ, GRel noF [] ρ W g := fun ρ => by
  have hl : (Glob.tab g).length = us.toList.length := by rw [← hu]; simp
  refine ⟨.rp _ ⟨g, 0, none⟩ us.toList rfl not_own (Array.getElem?_eq_some_iff.1 hh).1 hl (fun j u hj => ?_) (fun j p u hp hv => ?_), us, e, fr, hh, by rw [hl]; simp⟩
  · rw [Addr.add_lit, Nat.zero_add, cell_of hh]
    simpa using hj
  · rw [← hu, List.getElem?_map, hv] at hp
    cases hp
    exact .v _

theorem var_block {P : Program} {W : World} {n : String} {g : Nat} {cs : Array Value} (hg : P.globalNamed n = some g) (h : W.var? P n = some cs) : ∃ e fr, W.heap[g]? = some (.cells cs e fr) := by
  unfold World.var? at h
  rw [hg, Option.bind_some] at h
  split at h
  · rename_i cs' e fr hc
    cases h
    exact ⟨e, fr, hc⟩
  · cases h

abbrev laid4 : List (String × DataW Unit) := [("math/bits.deBruijn32tab", YtjlipmcdnigfcaaDoor.Rows.laid_math_bits_deBruijn32tab), ("math/bits.deBruijn64tab", YtjlipmcdnigfcaaDoor.Rows.laid_math_bits_deBruijn64tab), ("internal/strconv.uint64pow10", YtjlipmcdnigfcaaDoor.Rows.laid_internal_strconv_uint64pow10), ("tailrace/crc.halves", YtjlipmcdnigfcaaDoor.Rows.laid_tailrace_crc_halves)]

theorem gHalves : DP.globalNamed "tailrace/crc.halves" = some 0 := by kernel_rfl
theorem gPow : DP.globalNamed "internal/strconv.uint64pow10" = some 3 := by kernel_rfl
theorem tHalves : (DP.globals[0]?).map (·.type) = some 169 := by kernel_rfl

theorem tPow : (DP.globals[3]?).map (·.type) = some 188 := by kernel_rfl

theorem globW_of {W : World} (h : laidMetH DP laid4 W) : GlobW W := by
  rw [MakeChecks.laidMetH_plain _ _ _ (by kernel_rfl)] at h
  obtain ⟨ps, ⟨g0, t0, cs0, f0, p0, q0, hg0, ht0, hv0, hd0, ⟨g1, t1, cs1, f1, p1, q1, hg1, ht1, hv1, hd1, ⟨g2, t2, cs2, f2, p2, q2, hg2, ht2, hv2, hd2, ⟨g3, t3, cs3, f3, p3, q3, hg3, ht3, hv3, hd3, _, _⟩, _⟩, _⟩, _⟩, _, _⟩ := h
  obtain rfl := Option.some.inj (gPow.symm.trans hg2)
  obtain rfl := Option.some.inj (gHalves.symm.trans hg3)
  obtain rfl := Option.some.inj (tPow.symm.trans ht2)
  obtain rfl := Option.some.inj (tHalves.symm.trans ht3)
  have c2 := Lib.cells_of_tab (k := .u64) (zs := Lib.pow10Tab) (n := 20) (e := 46) (by kernel_rfl) (by kernel_rfl) (by kernel_rfl) (by kernel_rfl) hd2
  have c3 := Lib.cells_of_tab (k := .u32) (zs := halvesL) (n := 16) (e := 137) (by kernel_rfl) (by kernel_rfl) (by kernel_rfl) (by kernel_rfl) hd3
  obtain ⟨e2, r2, b2⟩ := var_block hg2 hv2
  obtain ⟨e3, r3, b3⟩ := var_block hg3 hv3
  intro g hg
  match g with
  | 0 => exact tabRel b3 (by rw [c3]; rfl)
  | 3 => exact tabRel b2 (by rw [c2]; rfl)
  | 1 => exact absurd rfl hg
  | 2 => exact absurd rfl hg
  | g + 4 => exact absurd rfl hg

/-- The heap that the program's own start leaves meets the condition. -/
theorem door4 (os : Os) (args : Array Value) : laidMetH DP laid4 ((World.doorLaid DP 67 os).forCall (fun _ _ => 0) ⟨#[], args, []⟩).memory :=
  laidMetH_of_parts3 (fuel := 8) (laidMet_of_run' 8 (by kernel_rfl) (by kernel_rfl)) (by kernel_rfl) (by kernel_rfl)

section
variable {H : Type} {enc : TypeId × Value → H} {w : World} {base : Nat} {spare : Nat → Bool} {held : Bool} {O : Nat → Prop}
theorem in_u8 (n : Nat) (cs' : List Value) (y : DataW H × List MemPlace) {t : TypeId} (ht : DP.underlying t = some (.int .u8)) (h : DataW.trod enc DP w base spare held n t cs' = some y) :
    ∃ a : UInt8, True ∧ cs'.length = 1 ∧ ∀ (r : Nat) (p : PV) (u : Value), (byteE.f a).cells[r]? = some p → cs'[r]? = some u → PRel O w p u := by
  obtain ⟨s, rfl, _, hw⟩ := DataW.trod_int ht h
  have hb : 0 ≤ s ∧ s < 256 := by
    simp only [Lit.wf, Bool.and_eq_true, decide_eq_true_eq] at hw
    have h1 : IntKind.u8.min = 0 := by decide
    have h2 : IntKind.u8.max = 255 := by decide
    omega
  refine ⟨UInt8.ofNat s.toNat, trivial, rfl, fun r p u hp hu => ?_⟩
  match r with
  | 0 =>
    cases hu
    have : ((UInt8.ofNat s.toNat).toNat : Int) = s := by
      rw [UInt8.toNat_ofNat']
      omega
    change some (PV.v (.int .u8 ((UInt8.ofNat s.toNat).toNat : Int))) = some p at hp
    rw [this] at hp
    cases hp
    exact .v _
  | r + 1 => simp [byteE, PV.cells] at hp
theorem in_str (n : Nat) (cs' : List Value) (y : DataW H × List MemPlace) {t : TypeId} (ht : DP.underlying t = some .string) (h : DataW.trod enc DP w base spare held n t cs' = some y) :
    ∃ a : ByteArray, True ∧ cs'.length = 1 ∧ ∀ (r : Nat) (p : PV) (u : Value), (nameE.f a).cells[r]? = some p → cs'[r]? = some u → PRel O w p u := by
  obtain ⟨s, rfl, _, _⟩ := DataW.trod_string ht h
  refine ⟨s, trivial, rfl, fun r p u hp hu => ?_⟩
  match r with
  | 0 => cases hp; cases hu; exact .v _
  | r + 1 => simp [nameE, PV.cells] at hp
theorem in_bytes (hO : ∀ k, ¬ O k) {fuel : Nat} {v : Value} {x : DataW H × List MemPlace} (h : DataW.trod enc DP w base spare held fuel 65 [v] = some x) :
    ∃ L : List UInt8, (∀ a ∈ L, True) ∧ PRel O w (.ls (L.map byteE.f)) v := open_list hO (Tryd.underlying65) byteE.elt (by decide) (by kernel_rfl) (fun n cs' y hy => in_u8 n cs' y Tryd.underlying5 hy) h
theorem in_strs (hO : ∀ k, ¬ O k) {fuel : Nat} {v : Value} {x : DataW H × List MemPlace} (h : DataW.trod enc DP w base spare held fuel 27 [v] = some x) :
    ∃ L : List ByteArray, (∀ a ∈ L, True) ∧ PRel O w (.ls (L.map nameE.f)) v := open_list hO (Tryd.underlying27) nameE.elt (by decide) (by kernel_rfl) (fun n cs' y hy => in_str n cs' y Tryd.underlying9 hy) h
theorem in_strss (hO : ∀ k, ¬ O k) {fuel : Nat} {v : Value} {x : DataW H × List MemPlace} (h : DataW.trod enc DP w base spare held fuel 22 [v] = some x) :
    ∃ L : List (List ByteArray), (∀ a ∈ L, True) ∧ PRel O w (.ls (L.map namesE.f)) v :=
  open_list hO (Tryd.underlying22) namesE.elt (by decide) (by kernel_rfl) (fun n cs' y hy => by
    obtain ⟨v', rfl⟩ : ∃ v', cs' = [v'] := by
      rcases Deep.open_slice Tryd.underlying27 hy with ⟨h1, _⟩ | ⟨a, len, cap, _, _, _, _, h1, _⟩
      · exact ⟨_, h1⟩
      · exact ⟨_, h1⟩
    obtain ⟨L, _, hp0⟩ := in_strs hO hy
    refine ⟨L, trivial, rfl, fun r p u hp hu => ?_⟩
    match r with
    | 0 => cases hu; change some (PV.ls (L.map nameE.f)) = some p at hp; cases hp; exact hp0
    | r + 1 => simp [namesE, PV.cells] at hp) h
end
end Go.Ax

namespace Go.Ax
open Go.Proofs Go.RowKit
theorem u8_in {s : Int} (hw : (Lit.int .u8 s).wf = true) : ∃ b : UInt8, s = (b.toNat : Int) := by
  simp only [Lit.wf, Bool.and_eq_true, decide_eq_true_eq] at hw
  have h1 : IntKind.u8.min = 0 := by decide
  have h2 : IntKind.u8.max = 255 := by decide
  refine ⟨UInt8.ofNat s.toNat, ?_⟩
  rw [UInt8.toNat_ofNat']
  omega
end Go.Ax
