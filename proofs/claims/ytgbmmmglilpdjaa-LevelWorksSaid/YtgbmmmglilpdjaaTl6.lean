/- The stable sort as a whole. -/
import Derived.Test.YtgbmmmglilpdjaaTl5
set_option linter.unusedVariables false
set_option linter.unusedSimpArgs false
namespace Go.Ax
open Go.Proofs Go.RowKit
set_option maxRecDepth 100000

/-- From a on, parts of w elements are sorted. -/
inductive Runs (c : Meta → Meta → Int) (L : List Meta) (w n : Nat) : Nat → Prop
  | done {a : Nat} : n ≤ a → Runs c L w n a
  | step {a : Nat} : Sorted c L a (min (a + w) n) → Runs c L w n (a + w) → Runs c L w n a

theorem Runs.congr {c : Meta → Meta → Int} {L L' : List Meta} {w n a : Nat} (h : Runs c L w n a) : (∀ i, a ≤ i → i < n → at' L' i = at' L i) → Runs c L' w n a := by
  induction h with
  | done h => exact fun _ => .done h
  | step h1 _ ih => exact fun e => .step (h1.congr fun i q1 q2 => e i q1 (by omega)) (ih fun i q1 q2 => e i (by omega) q2)

theorem Runs.all {c : Meta → Meta → Int} {L : List Meta} {w n : Nat} (h : Runs c L w n 0) (hw : n ≤ w) : Sorted c L 0 n := by
  cases h with
  | done h => exact fun p q h1 h2 h3 => by omega
  | step h1 _ => exact h1.sub (Nat.le_refl _) (by omega)

theorem Runs.next {c : Meta → Meta → Int} {L : List Meta} {w n a : Nat} (h : Runs c L w n a) (ha : a < n) : Sorted c L a (min (a + w) n) ∧ Runs c L w n (a + w) := by
  cases h with
  | done h => omega
  | step h1 h2 => exact ⟨h1, h2⟩
def R45ip (Γ : Env) (c : Meta → Meta → Int) (g : Nat) : RSpec := fun args B r B' => ∃ k, R45p Γ c g k args B r B'
theorem R45ip_ok {Γ : Env} (hΓ : ∀ f, SoundF LP f (Γ f)) (c : Meta → Meta → Int) (g : Nat) : SoundR LP 45 (R45ip Γ c g) := fun args B r B' ⟨k, h⟩ => R45p_ok hΓ c g k args B r B' h
def ΔCp (Γ : Env) (c : Meta → Meta → Int) (g : Nat) : REnv := fun f => bif Nat.beq f 44 then R44p Γ c g else bif Nat.beq f 45 then R45ip Γ c g else fun _ _ _ _ => False
theorem ΔCp_ok {Γ : Env} (hΓ : ∀ f, SoundF LP f (Γ f)) (c : Meta → Meta → Int) (g : Nat) : ∀ f, SoundR LP f (ΔCp Γ c g f) := fun f => by
  unfold ΔCp
  cases h : Nat.beq f 44 with
  | true => have := Nat.eq_of_beq_eq_true h; subst this; exact R44p_ok hΓ c g
  | false =>
    cases h : Nat.beq f 45 with
    | true => have := Nat.eq_of_beq_eq_true h; subst this; exact R45ip_ok hΓ c g
    | false => exact .none f

def R40p (Γ : Env) (c : Meta → Meta → Int) (g : Nat) : RSpec := fun args B r B' => ∃  (n : Nat) (L : List Meta) (m : Int), args = [.rs 0 0 5 0 n, vi m, .fn g []] ∧ B = [metaE.bx 0 L] ∧ (T40p Γ (ΔCp Γ c g) c g n L m).wp fun _ st => tk st.1 0 = r ∧ st.2 = B'
theorem R40p_ok {Γ : Env} (hΓ : ∀ f, SoundF LP f (Γ f)) (c : Meta → Meta → Int) (g : Nat) : SoundR LP 40 (R40p Γ c g) := sound_genT (Γ := Γ) (Δ := ΔCp Γ c g) (fn := Try.f40) mixedL hΓ (ΔCp_ok hΓ c g) (by kernel_rfl) (by kernel_rfl) (by kernel_rfl) (by
  rintro args B r B' ⟨ n, L, m, rfl, rfl, h⟩
  exact ⟨rfl, _, T40p_chk Γ _ c g n L m, h⟩)

theorem S40pl1 {Γ : Env} {c : Meta → Meta → Int} {g : Nat} (hc : Cmpp Γ c g) {n : Nat} (hN : n ≤ 1000000) : ∀ (d a : Nat) (L : List Meta), n - a ≤ d → a ≤ n → L.length = n →
    ∃ (a' : Nat) (L1 L2 : List Meta), Rounds (T40p_l1_e g n n) (T40p_l1_x g n n) noX (fun s => (T40p_l1_b (ΔCp Γ c g) g n n s).wp) (L, (a : Int), ((a + 20 : Nat) : Int)) (.inl ((a' : Int), L1)) ∧
      R44p Γ c g [.rs 0 0 5 0 n, vi a', vi n, .fn g []] [metaE.bx 0 L1] (.tup []) [metaE.bx 0 L2] ∧ Turn L L2 a n ∧ ∀ Q, Ordr c Q → AllQ Q L → Runs c L2 20 n a
  | d, a, L, hd, ha, hL => by
    by_cases hb : a + 20 ≤ n
    · match d, hd with
      | 0, hd => omega
      | d + 1, hd =>
        obtain ⟨L0, q1, q2, q3⟩ := S44p hc (L := L) (a := a) (b := a + 20) hN hL (by omega) hb
        obtain ⟨a', L1, L2, p1, p2, p3, p4⟩ := S40pl1 hc hN d (a + 20) L0 (by omega) hb (by rw [q2.len, hL])
        refine ⟨a', L1, L2, .next ?_ p1, p2, (q2.wide (Nat.le_refl _) hb).trans (p3.wide (by omega) (Nat.le_refl _)), fun Q hO hQ => .step ?_ (p4 Q hO (hQ.turn q2 (by omega)))⟩
        · unfold T40p_l1_b
          exact wp_sp (fun _ => wp_callx L0 q1 (wp_i64 (by dsimp only; omega) (wp_leaf rfl ⟨rfl, rfl⟩))) (fun h => by have := of_decide_eq_false h; dsimp only at this; omega)
        · have := q3 Q hO hQ
          rw [show min (a + 20) n = a + 20 by omega]
          exact this.congr fun i e1 e2 => p3.out i (.inl e2)
    · obtain ⟨L2, q1, q2, q3⟩ := S44p hc (L := L) (a := a) (b := n) hN hL ha (Nat.le_refl _)
      refine ⟨a, L, L2, .done (by simp [T40p_l1_x]) ?_, q1, q2, fun Q hO hQ => .step ?_ (.done (by omega))⟩
      · unfold T40p_l1_b
        exact wp_sp (fun h => by have := of_decide_eq_true h; dsimp only at this; omega) (fun _ => wp_leaf rfl ⟨rfl, rfl⟩)
      · rw [show min (a + 20) n = n by omega]
        exact q3 Q hO hQ

theorem S40pl3 {Γ : Env} {c : Meta → Meta → Int} {g : Nat} (hc : Cmpp Γ c g) {n w : Nat} {L0 : List Meta} (hN : n ≤ 1000000) (hw : 0 < w) (hwn : w < n) : ∀ (d a : Nat) (L : List Meta), n - a ≤ d → a ≤ n → L.length = n →
    ∃ (a' : Nat) (L1 L2 : List Meta), Rounds (T40p_l3_e g n n (L0, (w : Int))) (T40p_l3_x g n n (L0, (w : Int))) noX (fun s => (T40p_l3_b (ΔCp Γ c g) g n n (L0, (w : Int)) s).wp) (L, (a : Int), ((a + 2 * w : Nat) : Int)) (.inl ((a' : Int), L1)) ∧ a' ≤ n ∧
      ((a' + w < n → R45ip Γ c g [.rs 0 0 5 0 n, vi a', vi (a' + w : Nat), vi n, .fn g []] [metaE.bx 0 L1] (.tup []) [metaE.bx 0 L2]) ∧ (¬ a' + w < n → L2 = L1)) ∧ Turn L L2 a n ∧ ∀ Q, Ordr c Q → AllQ Q L → Runs c L w n a → Runs c L2 (2 * w) n a
  | d, a, L, hd, ha, hL => by
    by_cases hb : a + 2 * w ≤ n
    · match d, hd with
      | 0, hd => omega
      | d + 1, hd =>
        obtain ⟨L3, q1, q2, q3⟩ := S45p hc hN (2 * w) a (a + w) (a + 2 * w) L hL (by omega) (by omega) hb (by omega)
        obtain ⟨a', L1, L2, p1, p2, p3, p4, p5⟩ := S40pl3 hc (L0 := L0) hN hw hwn d (a + 2 * w) L3 (by omega) hb (by rw [q2.len, hL])
        refine ⟨a', L1, L2, .next ?_ p1, p2, p3, (q2.wide (Nat.le_refl _) hb).trans (p4.wide (by omega) (Nat.le_refl _)), fun Q hO hQ hr => ?_⟩
        · unfold T40p_l3_b
          dsimp only
          rw [show ((a : Int) + (w : Int)) = ((a + w : Nat) : Int) by omega]
          exact wp_sp (fun _ => wp_i64 (by omega) (wp_callx L3 ⟨_, q1⟩ (wp_i64 (by omega) (wp_i64 (by omega) (wp_leaf rfl ⟨rfl, rfl⟩))))) (fun h => by have := of_decide_eq_false h; omega)
        · obtain ⟨s1, hr1⟩ := hr.next (by omega)
          obtain ⟨s2, hr2⟩ := hr1.next (by omega)
          rw [show min (a + w) n = a + w by omega] at s1
          rw [show min (a + w + w) n = a + 2 * w by omega] at s2
          rw [show a + w + w = a + 2 * w by omega] at hr2
          refine .step ?_ (p5 Q hO (hQ.turn q2 (by omega)) (hr2.congr fun i e1 e2 => q2.out i (.inr e1)))
          rw [show min (a + 2 * w) n = a + 2 * w by omega]
          exact (q3 Q hO hQ s1 s2).congr fun i e1 e2 => p4.out i (.inl e2)
    · have hdone : Rounds (T40p_l3_e g n n (L0, (w : Int))) (T40p_l3_x g n n (L0, (w : Int))) noX (fun s => (T40p_l3_b (ΔCp Γ c g) g n n (L0, (w : Int)) s).wp) (L, (a : Int), ((a + 2 * w : Nat) : Int)) (.inl ((a : Int), L)) := by
        refine .done (by simp [T40p_l3_x]) ?_
        unfold T40p_l3_b
        exact wp_sp (fun h => by have := of_decide_eq_true h; dsimp only at this; omega) (fun _ => wp_leaf rfl ⟨rfl, rfl⟩)
      by_cases ht : a + w < n
      · obtain ⟨L3, q1, q2, q3⟩ := S45p hc hN n a (a + w) n L hL (by omega) ht (Nat.le_refl _) (by omega)
        refine ⟨a, L, L3, hdone, ha, ⟨fun _ => ⟨_, q1⟩, fun hn => absurd ht hn⟩, q2, fun Q hO hQ hr => .step ?_ (.done (by omega))⟩
        obtain ⟨s1, hr1⟩ := hr.next (by omega)
        obtain ⟨s2, hr2⟩ := hr1.next (by omega)
        rw [show min (a + w) n = a + w by omega] at s1
        rw [show min (a + w + w) n = n by omega] at s2
        rw [show min (a + 2 * w) n = n by omega]
        exact q3 Q hO hQ s1 s2
      · refine ⟨a, L, L, hdone, ha, ⟨fun hn => absurd hn ht, fun _ => rfl⟩, .refl _ _ _, fun Q hO hQ hr => ?_⟩
        by_cases han : a < n
        · obtain ⟨s1, _⟩ := hr.next han
          rw [show min (a + w) n = n by omega] at s1
          exact .step (s1.sub (Nat.le_refl _) (by omega)) (.done (by omega))
        · exact .done (by omega)

theorem S40pl2 {Γ : Env} {c : Meta → Meta → Int} {g : Nat} (hc : Cmpp Γ c g) {n : Nat} (hN : n ≤ 1000000) : ∀ (d w : Nat) (L : List Meta), n - w ≤ d → 0 < w → L.length = n →
    ∃ L', Rounds (T40p_l2_e g n n) (T40p_l2_x) noX (fun s => (T40p_l2_b (ΔCp Γ c g) g n n s).wp) (L, (w : Int)) (.inl L') ∧ Turn L L' 0 n ∧ ∀ Q, Ordr c Q → AllQ Q L → Runs c L w n 0 → Sorted c L' 0 n
  | d, w, L, hd, hw, hL => by
    by_cases hwn : w < n
    · match d, hd with
      | 0, hd => omega
      | d + 1, hd =>
        obtain ⟨a', L1, L2, p1, p2, p3, p4, p5⟩ := S40pl3 hc (L0 := L) hN hw hwn n 0 L (by omega) (by omega) hL
        rw [Nat.zero_add] at p1
        obtain ⟨L', q1, q2, q3⟩ := S40pl2 hc hN d (2 * w) L2 (by omega) (by omega) (by rw [p4.len, hL])
        refine ⟨L', .next ?_ q1, p4.trans q2, fun Q hO hQ hr => q3 Q hO (hQ.turn p4 (by omega)) (p5 Q hO hQ hr)⟩
        unfold T40p_l2_b
        dsimp only
        refine wp_sp (fun _ => wp_i64 (by omega) (wp_loop _ rfl p1 ?_)) (fun h => by have := of_decide_eq_false h; omega)
        rw [show ((a' : Int) + (w : Int)) = ((a' + w : Nat) : Int) by omega]
        have hwi : ((w : Int) * 2) = ((2 * w : Nat) : Int) := by omega
        refine wp_i64 (by omega) (wp_sp (fun h => ?_) (fun h => ?_))
        · have h := of_decide_eq_true h
          refine wp_callx L2 (p3.1 (by omega)) (wp_i64 (by omega) (wp_leaf rfl ⟨rfl, ?_⟩))
          rw [hwi]
        · have h := of_decide_eq_false h
          have e := p3.2 (by omega)
          subst e
          refine wp_i64 (by omega) (wp_leaf rfl ⟨rfl, ?_⟩)
          rw [hwi]
    · refine ⟨L, .done (by simp [T40p_l2_x]) ?_, .refl _ _ _, fun Q hO hQ hr => hr.all (by omega)⟩
      unfold T40p_l2_b
      exact wp_sp (fun h => by have := of_decide_eq_true h; dsimp only at this; omega) (fun _ => wp_leaf rfl ⟨rfl, rfl⟩)

theorem S40p {Γ : Env} {c : Meta → Meta → Int} {g : Nat} (hc : Cmpp Γ c g) {n : Nat} {L : List Meta} (hN : n ≤ 1000000) (hL : L.length = n) :
    ∃ L', R40p Γ c g [.rs 0 0 5 0 n, vi n, .fn g []] [metaE.bx 0 L] (.tup []) [metaE.bx 0 L'] ∧ Turn L L' 0 n ∧ ∀ Q, Ordr c Q → AllQ Q L → Sorted c L' 0 n := by
  obtain ⟨a', L1, L2, p1, p2, p3, p4⟩ := S40pl1 hc hN n 0 L (by omega) (by omega) hL
  obtain ⟨L', q1, q2, q3⟩ := S40pl2 hc hN n 20 L2 (by omega) (by omega) (by rw [p3.len, hL])
  refine ⟨L', ⟨ n, L, n, rfl, rfl, ?_⟩, p3.trans q2, fun Q hO hQ => q3 Q hO (hQ.turn p3 (by omega)) (p4 Q hO hQ)⟩
  unfold T40p
  exact wp_loop _ rfl p1 (wp_callx L2 p2 (wp_loop _ rfl q1 (wp_leaf rfl ⟨rfl, rfl⟩)))

def ΔDp (Γ : Env) (c : Meta → Meta → Int) (g : Nat) : REnv := fun f => bif Nat.beq f 40 then R40p Γ c g else fun _ _ _ _ => False
theorem ΔDp_ok {Γ : Env} (hΓ : ∀ f, SoundF LP f (Γ f)) (c : Meta → Meta → Int) (g : Nat) : ∀ f, SoundR LP f (ΔDp Γ c g f) := fun f => by
  unfold ΔDp
  cases h : Nat.beq f 40 with
  | true => have := Nat.eq_of_beq_eq_true h; subst this; exact R40p_ok hΓ c g
  | false => exact .none f
/-- SortStableFunc. -/
def R32p (Γ : Env) (c : Meta → Meta → Int) (g : Nat) : RSpec := fun args B r B' => ∃  (n : Nat) (L : List Meta), args = [.rs 0 0 5 0 n, .fn g []] ∧ B = [metaE.bx 0 L] ∧ (T32p Γ (ΔDp Γ c g) c g n L).wp fun _ st => tk st.1 0 = r ∧ st.2 = B'
theorem R32p_ok {Γ : Env} (hΓ : ∀ f, SoundF LP f (Γ f)) (c : Meta → Meta → Int) (g : Nat) : SoundR LP 32 (R32p Γ c g) := sound_genT (Γ := Γ) (Δ := ΔDp Γ c g) (fn := Try.f32) mixedL hΓ (ΔDp_ok hΓ c g) (by kernel_rfl) (by kernel_rfl) (by kernel_rfl) (by
  rintro args B r B' ⟨ n, L, rfl, rfl, h⟩
  exact ⟨rfl, _, T32p_chk Γ _ c g n L, h⟩)

theorem S32p {Γ : Env} {c : Meta → Meta → Int} {g : Nat} (hc : Cmpp Γ c g) {L : List Meta} (hN : L.length ≤ 1000000) :
    ∃ L', R32p Γ c g [.rs 0 0 5 0 L.length, .fn g []] [metaE.bx 0 L] (.tup []) [metaE.bx 0 L'] ∧ L'.Perm L ∧ ∀ Q, Ordr c Q → (∀ x ∈ L, Q x) → Sorted c L' 0 L.length := by
  obtain ⟨L', q1, q2, q3⟩ := S40p hc hN (L := L) rfl
  refine ⟨L', ⟨ L.length, L, rfl, rfl, ?_⟩, q2.perm, fun Q hO hQ => q3 Q hO fun i hi => hQ _ (List.mem_of_getElem? (at_get hi))⟩
  unfold T32p
  exact wp_callx L' q1 (wp_leaf rfl ⟨rfl, rfl⟩)
def R45iq (Γ : Env) (c : Meta → Meta → Int) (g : Nat) : RSpec := fun args B r B' => ∃ k, R45q Γ c g k args B r B'
theorem R45iq_ok {Γ : Env} (hΓ : ∀ f, SoundF LP f (Γ f)) (c : Meta → Meta → Int) (g : Nat) : SoundR LP 45 (R45iq Γ c g) := fun args B r B' ⟨k, h⟩ => R45q_ok hΓ c g k args B r B' h
def ΔCq (Γ : Env) (c : Meta → Meta → Int) (g : Nat) : REnv := fun f => bif Nat.beq f 44 then R44q Γ c g else bif Nat.beq f 45 then R45iq Γ c g else fun _ _ _ _ => False
theorem ΔCq_ok {Γ : Env} (hΓ : ∀ f, SoundF LP f (Γ f)) (c : Meta → Meta → Int) (g : Nat) : ∀ f, SoundR LP f (ΔCq Γ c g f) := fun f => by
  unfold ΔCq
  cases h : Nat.beq f 44 with
  | true => have := Nat.eq_of_beq_eq_true h; subst this; exact R44q_ok hΓ c g
  | false =>
    cases h : Nat.beq f 45 with
    | true => have := Nat.eq_of_beq_eq_true h; subst this; exact R45iq_ok hΓ c g
    | false => exact .none f

def R40q (Γ : Env) (c : Meta → Meta → Int) (g : Nat) : RSpec := fun args B r B' => ∃  (lv : Int) (n : Nat) (L : List Meta) (m : Int), args = [.rs 0 0 5 0 n, vi m, .fn g [.ptr 1 0 0]] ∧ B = [metaE.bx 0 L, .cells false 0 [vi lv]] ∧ (T40q Γ (ΔCq Γ c g) c g lv n L m).wp fun _ st => tk st.1 0 = r ∧ st.2 = B'
theorem R40q_ok {Γ : Env} (hΓ : ∀ f, SoundF LP f (Γ f)) (c : Meta → Meta → Int) (g : Nat) : SoundR LP 40 (R40q Γ c g) := sound_genT (Γ := Γ) (Δ := ΔCq Γ c g) (fn := Try.f40) mixedL hΓ (ΔCq_ok hΓ c g) (by kernel_rfl) (by kernel_rfl) (by kernel_rfl) (by
  rintro args B r B' ⟨lv, n, L, m, rfl, rfl, h⟩
  exact ⟨rfl, _, T40q_chk Γ _ c g lv n L m, h⟩)

theorem S40ql1 {Γ : Env} {c : Meta → Meta → Int} {g : Nat} (lv : Int) (hc : Cmpq Γ c g lv) {n : Nat} (hN : n ≤ 1000000) : ∀ (d a : Nat) (L : List Meta), n - a ≤ d → a ≤ n → L.length = n →
    ∃ (a' : Nat) (L1 L2 : List Meta), Rounds (T40q_l1_e g lv n n) (T40q_l1_x g lv n n) noX (fun s => (T40q_l1_b (ΔCq Γ c g) g lv n n s).wp) (L, (a : Int), ((a + 20 : Nat) : Int)) (.inl ((a' : Int), L1)) ∧
      R44q Γ c g [.rs 0 0 5 0 n, vi a', vi n, .fn g [.ptr 1 0 0]] [metaE.bx 0 L1, .cells false 0 [vi lv]] (.tup []) [metaE.bx 0 L2, .cells false 0 [vi lv]] ∧ Turn L L2 a n ∧ ∀ Q, Ordr c Q → AllQ Q L → Runs c L2 20 n a
  | d, a, L, hd, ha, hL => by
    by_cases hb : a + 20 ≤ n
    · match d, hd with
      | 0, hd => omega
      | d + 1, hd =>
        obtain ⟨L0, q1, q2, q3⟩ := S44q lv hc (L := L) (a := a) (b := a + 20) hN hL (by omega) hb
        obtain ⟨a', L1, L2, p1, p2, p3, p4⟩ := S40ql1 lv hc hN d (a + 20) L0 (by omega) hb (by rw [q2.len, hL])
        refine ⟨a', L1, L2, .next ?_ p1, p2, (q2.wide (Nat.le_refl _) hb).trans (p3.wide (by omega) (Nat.le_refl _)), fun Q hO hQ => .step ?_ (p4 Q hO (hQ.turn q2 (by omega)))⟩
        · unfold T40q_l1_b
          exact wp_sp (fun _ => wp_callx L0 q1 (wp_i64 (by dsimp only; omega) (wp_leaf rfl ⟨rfl, rfl⟩))) (fun h => by have := of_decide_eq_false h; dsimp only at this; omega)
        · have := q3 Q hO hQ
          rw [show min (a + 20) n = a + 20 by omega]
          exact this.congr fun i e1 e2 => p3.out i (.inl e2)
    · obtain ⟨L2, q1, q2, q3⟩ := S44q lv hc (L := L) (a := a) (b := n) hN hL ha (Nat.le_refl _)
      refine ⟨a, L, L2, .done (by simp [T40q_l1_x]) ?_, q1, q2, fun Q hO hQ => .step ?_ (.done (by omega))⟩
      · unfold T40q_l1_b
        exact wp_sp (fun h => by have := of_decide_eq_true h; dsimp only at this; omega) (fun _ => wp_leaf rfl ⟨rfl, rfl⟩)
      · rw [show min (a + 20) n = n by omega]
        exact q3 Q hO hQ

theorem S40ql3 {Γ : Env} {c : Meta → Meta → Int} {g : Nat} (lv : Int) (hc : Cmpq Γ c g lv) {n w : Nat} {L0 : List Meta} (hN : n ≤ 1000000) (hw : 0 < w) (hwn : w < n) : ∀ (d a : Nat) (L : List Meta), n - a ≤ d → a ≤ n → L.length = n →
    ∃ (a' : Nat) (L1 L2 : List Meta), Rounds (T40q_l3_e g lv n n (L0, (w : Int))) (T40q_l3_x g lv n n (L0, (w : Int))) noX (fun s => (T40q_l3_b (ΔCq Γ c g) g lv n n (L0, (w : Int)) s).wp) (L, (a : Int), ((a + 2 * w : Nat) : Int)) (.inl ((a' : Int), L1)) ∧ a' ≤ n ∧
      ((a' + w < n → R45iq Γ c g [.rs 0 0 5 0 n, vi a', vi (a' + w : Nat), vi n, .fn g [.ptr 1 0 0]] [metaE.bx 0 L1, .cells false 0 [vi lv]] (.tup []) [metaE.bx 0 L2, .cells false 0 [vi lv]]) ∧ (¬ a' + w < n → L2 = L1)) ∧ Turn L L2 a n ∧ ∀ Q, Ordr c Q → AllQ Q L → Runs c L w n a → Runs c L2 (2 * w) n a
  | d, a, L, hd, ha, hL => by
    by_cases hb : a + 2 * w ≤ n
    · match d, hd with
      | 0, hd => omega
      | d + 1, hd =>
        obtain ⟨L3, q1, q2, q3⟩ := S45q lv hc hN (2 * w) a (a + w) (a + 2 * w) L hL (by omega) (by omega) hb (by omega)
        obtain ⟨a', L1, L2, p1, p2, p3, p4, p5⟩ := S40ql3 lv hc (L0 := L0) hN hw hwn d (a + 2 * w) L3 (by omega) hb (by rw [q2.len, hL])
        refine ⟨a', L1, L2, .next ?_ p1, p2, p3, (q2.wide (Nat.le_refl _) hb).trans (p4.wide (by omega) (Nat.le_refl _)), fun Q hO hQ hr => ?_⟩
        · unfold T40q_l3_b
          dsimp only
          rw [show ((a : Int) + (w : Int)) = ((a + w : Nat) : Int) by omega]
          exact wp_sp (fun _ => wp_i64 (by omega) (wp_callx L3 ⟨_, q1⟩ (wp_i64 (by omega) (wp_i64 (by omega) (wp_leaf rfl ⟨rfl, rfl⟩))))) (fun h => by have := of_decide_eq_false h; omega)
        · obtain ⟨s1, hr1⟩ := hr.next (by omega)
          obtain ⟨s2, hr2⟩ := hr1.next (by omega)
          rw [show min (a + w) n = a + w by omega] at s1
          rw [show min (a + w + w) n = a + 2 * w by omega] at s2
          rw [show a + w + w = a + 2 * w by omega] at hr2
          refine .step ?_ (p5 Q hO (hQ.turn q2 (by omega)) (hr2.congr fun i e1 e2 => q2.out i (.inr e1)))
          rw [show min (a + 2 * w) n = a + 2 * w by omega]
          exact (q3 Q hO hQ s1 s2).congr fun i e1 e2 => p4.out i (.inl e2)
    · have hdone : Rounds (T40q_l3_e g lv n n (L0, (w : Int))) (T40q_l3_x g lv n n (L0, (w : Int))) noX (fun s => (T40q_l3_b (ΔCq Γ c g) g lv n n (L0, (w : Int)) s).wp) (L, (a : Int), ((a + 2 * w : Nat) : Int)) (.inl ((a : Int), L)) := by
        refine .done (by simp [T40q_l3_x]) ?_
        unfold T40q_l3_b
        exact wp_sp (fun h => by have := of_decide_eq_true h; dsimp only at this; omega) (fun _ => wp_leaf rfl ⟨rfl, rfl⟩)
      by_cases ht : a + w < n
      · obtain ⟨L3, q1, q2, q3⟩ := S45q lv hc hN n a (a + w) n L hL (by omega) ht (Nat.le_refl _) (by omega)
        refine ⟨a, L, L3, hdone, ha, ⟨fun _ => ⟨_, q1⟩, fun hn => absurd ht hn⟩, q2, fun Q hO hQ hr => .step ?_ (.done (by omega))⟩
        obtain ⟨s1, hr1⟩ := hr.next (by omega)
        obtain ⟨s2, hr2⟩ := hr1.next (by omega)
        rw [show min (a + w) n = a + w by omega] at s1
        rw [show min (a + w + w) n = n by omega] at s2
        rw [show min (a + 2 * w) n = n by omega]
        exact q3 Q hO hQ s1 s2
      · refine ⟨a, L, L, hdone, ha, ⟨fun hn => absurd hn ht, fun _ => rfl⟩, .refl _ _ _, fun Q hO hQ hr => ?_⟩
        by_cases han : a < n
        · obtain ⟨s1, _⟩ := hr.next han
          rw [show min (a + w) n = n by omega] at s1
          exact .step (s1.sub (Nat.le_refl _) (by omega)) (.done (by omega))
        · exact .done (by omega)

theorem S40ql2 {Γ : Env} {c : Meta → Meta → Int} {g : Nat} (lv : Int) (hc : Cmpq Γ c g lv) {n : Nat} (hN : n ≤ 1000000) : ∀ (d w : Nat) (L : List Meta), n - w ≤ d → 0 < w → L.length = n →
    ∃ L', Rounds (T40q_l2_e g lv n n) (T40q_l2_x lv) noX (fun s => (T40q_l2_b (ΔCq Γ c g) g lv n n s).wp) (L, (w : Int)) (.inl L') ∧ Turn L L' 0 n ∧ ∀ Q, Ordr c Q → AllQ Q L → Runs c L w n 0 → Sorted c L' 0 n
  | d, w, L, hd, hw, hL => by
    by_cases hwn : w < n
    · match d, hd with
      | 0, hd => omega
      | d + 1, hd =>
        obtain ⟨a', L1, L2, p1, p2, p3, p4, p5⟩ := S40ql3 lv hc (L0 := L) hN hw hwn n 0 L (by omega) (by omega) hL
        rw [Nat.zero_add] at p1
        obtain ⟨L', q1, q2, q3⟩ := S40ql2 lv hc hN d (2 * w) L2 (by omega) (by omega) (by rw [p4.len, hL])
        refine ⟨L', .next ?_ q1, p4.trans q2, fun Q hO hQ hr => q3 Q hO (hQ.turn p4 (by omega)) (p5 Q hO hQ hr)⟩
        unfold T40q_l2_b
        dsimp only
        refine wp_sp (fun _ => wp_i64 (by omega) (wp_loop _ rfl p1 ?_)) (fun h => by have := of_decide_eq_false h; omega)
        rw [show ((a' : Int) + (w : Int)) = ((a' + w : Nat) : Int) by omega]
        have hwi : ((w : Int) * 2) = ((2 * w : Nat) : Int) := by omega
        refine wp_i64 (by omega) (wp_sp (fun h => ?_) (fun h => ?_))
        · have h := of_decide_eq_true h
          refine wp_callx L2 (p3.1 (by omega)) (wp_i64 (by omega) (wp_leaf rfl ⟨rfl, ?_⟩))
          rw [hwi]
        · have h := of_decide_eq_false h
          have e := p3.2 (by omega)
          subst e
          refine wp_i64 (by omega) (wp_leaf rfl ⟨rfl, ?_⟩)
          rw [hwi]
    · refine ⟨L, .done (by simp [T40q_l2_x]) ?_, .refl _ _ _, fun Q hO hQ hr => hr.all (by omega)⟩
      unfold T40q_l2_b
      exact wp_sp (fun h => by have := of_decide_eq_true h; dsimp only at this; omega) (fun _ => wp_leaf rfl ⟨rfl, rfl⟩)

theorem S40q {Γ : Env} {c : Meta → Meta → Int} {g : Nat} (lv : Int) (hc : Cmpq Γ c g lv) {n : Nat} {L : List Meta} (hN : n ≤ 1000000) (hL : L.length = n) :
    ∃ L', R40q Γ c g [.rs 0 0 5 0 n, vi n, .fn g [.ptr 1 0 0]] [metaE.bx 0 L, .cells false 0 [vi lv]] (.tup []) [metaE.bx 0 L', .cells false 0 [vi lv]] ∧ Turn L L' 0 n ∧ ∀ Q, Ordr c Q → AllQ Q L → Sorted c L' 0 n := by
  obtain ⟨a', L1, L2, p1, p2, p3, p4⟩ := S40ql1 lv hc hN n 0 L (by omega) (by omega) hL
  obtain ⟨L', q1, q2, q3⟩ := S40ql2 lv hc hN n 20 L2 (by omega) (by omega) (by rw [p3.len, hL])
  refine ⟨L', ⟨lv, n, L, n, rfl, rfl, ?_⟩, p3.trans q2, fun Q hO hQ => q3 Q hO (hQ.turn p3 (by omega)) (p4 Q hO hQ)⟩
  unfold T40q
  exact wp_loop _ rfl p1 (wp_callx L2 p2 (wp_loop _ rfl q1 (wp_leaf rfl ⟨rfl, rfl⟩)))

def ΔDq (Γ : Env) (c : Meta → Meta → Int) (g : Nat) : REnv := fun f => bif Nat.beq f 40 then R40q Γ c g else fun _ _ _ _ => False
theorem ΔDq_ok {Γ : Env} (hΓ : ∀ f, SoundF LP f (Γ f)) (c : Meta → Meta → Int) (g : Nat) : ∀ f, SoundR LP f (ΔDq Γ c g f) := fun f => by
  unfold ΔDq
  cases h : Nat.beq f 40 with
  | true => have := Nat.eq_of_beq_eq_true h; subst this; exact R40q_ok hΓ c g
  | false => exact .none f
/-- SortStableFunc. -/
def R32q (Γ : Env) (c : Meta → Meta → Int) (g : Nat) : RSpec := fun args B r B' => ∃  (lv : Int) (n : Nat) (L : List Meta), args = [.rs 0 0 5 0 n, .fn g [.ptr 1 0 0]] ∧ B = [metaE.bx 0 L, .cells false 0 [vi lv]] ∧ (T32q Γ (ΔDq Γ c g) c g lv n L).wp fun _ st => tk st.1 0 = r ∧ st.2 = B'
theorem R32q_ok {Γ : Env} (hΓ : ∀ f, SoundF LP f (Γ f)) (c : Meta → Meta → Int) (g : Nat) : SoundR LP 32 (R32q Γ c g) := sound_genT (Γ := Γ) (Δ := ΔDq Γ c g) (fn := Try.f32) mixedL hΓ (ΔDq_ok hΓ c g) (by kernel_rfl) (by kernel_rfl) (by kernel_rfl) (by
  rintro args B r B' ⟨lv, n, L, rfl, rfl, h⟩
  exact ⟨rfl, _, T32q_chk Γ _ c g lv n L, h⟩)

theorem S32q {Γ : Env} {c : Meta → Meta → Int} {g : Nat} (lv : Int) (hc : Cmpq Γ c g lv) {L : List Meta} (hN : L.length ≤ 1000000) :
    ∃ L', R32q Γ c g [.rs 0 0 5 0 L.length, .fn g [.ptr 1 0 0]] [metaE.bx 0 L, .cells false 0 [vi lv]] (.tup []) [metaE.bx 0 L', .cells false 0 [vi lv]] ∧ L'.Perm L ∧ ∀ Q, Ordr c Q → (∀ x ∈ L, Q x) → Sorted c L' 0 L.length := by
  obtain ⟨L', q1, q2, q3⟩ := S40q lv hc hN (L := L) rfl
  refine ⟨L', ⟨lv, L.length, L, rfl, rfl, ?_⟩, q2.perm, fun Q hO hQ => q3 Q hO fun i hi => hQ _ (List.mem_of_getElem? (at_get hi))⟩
  unfold T32q
  exact wp_callx L' q1 (wp_leaf rfl ⟨rfl, rfl⟩)

end Go.Ax
