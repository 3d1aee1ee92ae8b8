/- DeleteFunc as Meets calls it; small closures. -/
import Derived.Test.YtgbmmmglilpdjaaTl8
set_option linter.unusedVariables false
set_option linter.unusedSimpArgs false
namespace Go.Ax
open Go.Proofs Go.RowKit
set_option maxRecDepth 100000

/-- An environment of relations. -/
def envR (l : List (Nat × RSpec)) : REnv := fun f => match l with
  | [] => fun _ _ _ _ => False
  | (g, R) :: r => bif Nat.beq f g then R else envR r f
theorem envR_ok {P : Program} : ∀ {l : List (Nat × RSpec)}, (∀ p ∈ l, SoundR P p.1 p.2) → ∀ f, SoundR P f (envR l f)
  | [], _, f => .none f
  | (g, R) :: r, h, f => by
    unfold envR
    cases hb : Nat.beq f g with
    | true => have := Nat.eq_of_beq_eq_true hb; subst this; exact h (f, R) (by simp)
    | false => exact envR_ok (fun p hp => h p (by simp [hp])) f
/-- An environment of functions without boxes. -/
noncomputable def envP (l : List (Nat × (List AV → Option AV))) : Env := fun f => match l with
  | [] => .none
  | (g, R) :: r => bif Nat.beq f g then .pure R else envP r f
theorem envP_ok {P : Program} : ∀ {l : List (Nat × (List AV → Option AV))}, (∀ p ∈ l, SoundF P p.1 (.pure p.2)) → ∀ f, SoundF P f (envP l f)
  | [], _, f => sound_none f
  | (g, R) :: r, h, f => by
    unfold envP
    cases hb : Nat.beq f g with
    | true => have := Nat.eq_of_beq_eq_true hb; subst this; exact h (f, R) (by simp)
    | false => exact envP_ok (fun p hp => h p (by simp [hp])) f

theorem wp_callr {d : Option Nat} {p : Prop} {v : AV} {B : List Box} {k : Tree} {K : AE → St → Prop} (hp : p) (h : k.wp K) : (Tree.callr d p v B k).wp K := ⟨hp, h⟩
theorem wp_rcut {d len : Nat} {lo hi : Option Int} {k : Tree} {K : AE → St → Prop} (h0 : cutOk lo hi len) (h : k.wp K) : (Tree.rcut d len lo hi k).wp K := ⟨h0, h⟩

theorem T39_wp (m : Meta) (lo hi : ByteArray) {K : AE → St → Prop} (h : K .ret ([(0, vb (missB m lo hi))], [.cells false 0 [vs lo], .cells false 0 [vs hi]])) : (T39 m lo hi).wp K := by
  unfold missB at h
  unfold T39
  repeat' first | refine wp_leaf rfl ?_ | refine wp_sp (fun _ => ?_) (fun _ => ?_)
  all_goals simp_all

def R39 : RSpec := fun args B r B' => ∃ (m : Meta) (lo hi : ByteArray), args = [metaE.av m, .ptr 0 0 0, .ptr 1 0 0] ∧ B = [.cells false 0 [vs lo], .cells false 0 [vs hi]] ∧ r = vb (missB m lo hi) ∧ B' = B
theorem R39_ok : SoundR LP 39 R39 := sound_genT (Γ := Γ0) (Δ := Δ0) (fn := Try.f39) mixedL Γ0_ok Δ0_ok (by kernel_rfl) (by kernel_rfl) (by kernel_rfl) (by
  rintro args B r B' ⟨m, lo, hi, rfl, rfl, rfl, rfl⟩
  exact ⟨rfl, _, T39_chk m lo hi, T39_wp m lo hi ⟨rfl, rfl⟩⟩)

theorem L39 (m : Meta) (lo hi : ByteArray) (B0 : Box) : liftR R39 [metaE.av m, .ptr 1 0 0, .ptr 2 0 0] [B0, .cells false 0 [vs lo], .cells false 0 [vs hi]] (vb (missB m lo hi)) [B0, .cells false 0 [vs lo], .cells false 0 [vs hi]] :=
  ⟨_, _, _, _, ⟨m, lo, hi, rfl, rfl, rfl, rfl⟩, ⟨[1, 2], [0, 0], [.cells false 0 [vs lo], .cells false 0 [vs hi]], [.cells false 0 [vs lo], .cells false 0 [vs hi]], [], rfl, rfl, rfl, rfl, ⟨.cells rfl rfl rfl, .cells rfl rfl rfl, trivial⟩, ⟨.cells rfl rfl rfl, .cells rfl rfl rfl, trivial⟩, rfl, rfl, rfl⟩⟩
theorem L39' (m : Meta) (lo hi : ByteArray) (B0 B1 : Box) : liftR R39 [metaE.av m, .ptr 1 0 0, .ptr 2 0 0] [B0, .cells false 0 [vs lo], .cells false 0 [vs hi], B1] (vb (missB m lo hi)) [B0, .cells false 0 [vs lo], .cells false 0 [vs hi], B1] :=
  ⟨_, _, _, _, ⟨m, lo, hi, rfl, rfl, rfl, rfl⟩, ⟨[1, 2], [0, 0], [.cells false 0 [vs lo], .cells false 0 [vs hi]], [.cells false 0 [vs lo], .cells false 0 [vs hi]], [], rfl, rfl, rfl, rfl, ⟨.cells rfl rfl rfl, .cells rfl rfl rfl, trivial⟩, ⟨.cells rfl rfl rfl, .cells rfl rfl rfl, trivial⟩, rfl, rfl, rfl⟩⟩

def Δ43 : REnv := envR [(39, liftR R39)]
theorem Δ43_ok : ∀ f, SoundR LP f (Δ43 f) := envR_ok (by simp; exact lift_sound R39_ok)

theorem T43_l1 (L : List Meta) (lo hi : ByteArray) (hN : L.length ≤ 1000000) : ∀ (suf pre : List Meta), L = pre ++ suf →
    Rounds (T43_l1_e L.length L lo hi) (T43_l1_x L lo hi) (T43_l1_x' L lo hi) (fun s => (T43_l1_b Δ43 L.length L lo hi s).wp) (pre.length : Int) (if idxN lo hi suf < suf.length then .inl ((pre.length + idxN lo hi suf : Nat) : Int) else .inr ())
  | [], pre, h => by
    have e : L.length = pre.length := by rw [h]; simp
    rw [if_neg (by simp)]
    refine .done' (by simp [T43_l1_x']) ?_
    unfold T43_l1_b
    exact wp_sp (fun h => by have := of_decide_eq_true h; omega) (fun _ => wp_leaf rfl ⟨rfl, rfl⟩)
  | m :: suf, pre, h => by
    have e : L.length = pre.length + (suf.length + 1) := by rw [h]; simp
    have hm : L[Int.toNat (pre.length : Int)]? = some m := by rw [h]; simp
    cases hmi : missB m lo hi with
    | true =>
      have : idxN lo hi (m :: suf) = 0 := by simp [idxN, hmi]
      rw [this, if_pos (by simp)]
      refine .done (by simp [T43_l1_x]) ?_
      unfold T43_l1_b
      exact wp_sp (fun _ => wp_ridx (by omega) (by omega) (wp_rload m (by omega) rfl hm (wp_callr (L39 m lo hi _) (wp_sp (fun _ => wp_leaf rfl ⟨rfl, rfl⟩) (fun h => by rw [hmi] at h; cases h))))) (fun h => by have := of_decide_eq_false h; omega)
    | false =>
      have hi1 : idxN lo hi (m :: suf) = idxN lo hi suf + 1 := by simp [idxN, hmi]
      have ih := T43_l1 L lo hi hN suf (pre ++ [m]) (by rw [h]; simp)
      have hlen : (pre ++ [m]).length = pre.length + 1 := by simp
      have hres : (if idxN lo hi (m :: suf) < (m :: suf).length then (.inl ((pre.length + idxN lo hi (m :: suf) : Nat) : Int) : Int ⊕ Unit) else .inr ()) = (if idxN lo hi suf < suf.length then .inl (((pre ++ [m]).length + idxN lo hi suf : Nat) : Int) else .inr ()) := by
        rw [hi1, hlen, List.length_cons]
        by_cases hh : idxN lo hi suf < suf.length
        · rw [if_pos (by omega), if_pos hh]; congr 2; omega
        · rw [if_neg (by omega), if_neg hh]
      rw [hres]
      refine .next ?_ ih
      unfold T43_l1_b
      refine wp_sp (fun _ => wp_ridx (by omega) (by omega) (wp_rload m (by omega) rfl hm (wp_callr (L39 m lo hi _) (wp_sp (fun h => by rw [hmi] at h; cases h) (fun _ => wp_i64 (by omega) (wp_leaf rfl ⟨rfl, ?_⟩)))))) (fun h => by have := of_decide_eq_false h; omega)
      rw [hlen]; rfl

theorem T43_wp (L : List Meta) (lo hi : ByteArray) (hN : L.length ≤ 1000000) {K : AE → St → Prop} (h : K .ret ([(0, vi (idxL L lo hi))], [metaE.bx 0 L, .cells false 0 [vs lo], .cells false 0 [vs hi]])) : (T43 Δ43 L.length L lo hi).wp K := by
  have l := T43_l1 L lo hi hN L [] rfl
  unfold idxL at h
  unfold T43
  by_cases hh : idxN lo hi L < L.length
  · rw [if_pos hh] at h l
    rw [show (([] : List Meta).length + idxN lo hi L : Nat) = idxN lo hi L by simp] at l
    exact wp_loop _ rfl l (wp_leaf rfl h)
  · rw [if_neg hh] at h l
    exact wp_loop' _ rfl l (wp_leaf rfl h)

def F39a : AV := .fn 39 [.ptr 1 0 0, .ptr 2 0 0]
def R43 : RSpec := fun args B r B' => ∃ (L : List Meta) (lo hi : ByteArray), L.length ≤ 1000000 ∧ args = [.rs 0 0 5 0 L.length, .fn 39 [.ptr 1 0 0, .ptr 2 0 0]] ∧ B = [metaE.bx 0 L, .cells false 0 [vs lo], .cells false 0 [vs hi]] ∧ r = vi (idxL L lo hi) ∧ B' = B
theorem R43_ok : SoundR LP 43 R43 := sound_genT (Γ := Γ0) (Δ := Δ43) (fn := Try.f43) mixedL Γ0_ok Δ43_ok (by kernel_rfl) (by kernel_rfl) (by kernel_rfl) (by
  rintro args B r B' ⟨L, lo, hi, hN, rfl, rfl, rfl, rfl⟩
  exact ⟨rfl, _, T43_chk Δ43 L.length L lo hi, T43_wp L lo hi hN ⟨rfl, rfl⟩⟩)

/-! ### DeleteFunc -/
theorem keep_cons (m : Meta) (L : List Meta) (lo hi : ByteArray) : keepL (m :: L) lo hi = if missB m lo hi then keepL L lo hi else m :: keepL L lo hi := by
  unfold keepL
  cases h : missB m lo hi <;> simp [h]
theorem keep_append (L M : List Meta) (lo hi : ByteArray) : keepL (L ++ M) lo hi = keepL L lo hi ++ keepL M lo hi := by simp [keepL]

theorem idx_keep (lo hi : ByteArray) : ∀ L : List Meta, (idxN lo hi L < L.length → ∃ m, L[idxN lo hi L]? = some m ∧ missB m lo hi = true) ∧ keepL (L.take (idxN lo hi L)) lo hi = L.take (idxN lo hi L) ∧ idxN lo hi L ≤ L.length
  | [] => ⟨fun h => by simp at h, rfl, Nat.le_refl _⟩
  | m :: L => by
    obtain ⟨h1, h2, h3⟩ := idx_keep lo hi L
    cases hm : missB m lo hi with
    | true => simp [idxN, hm, keepL]
    | false =>
      have : idxN lo hi (m :: L) = idxN lo hi L + 1 := by simp [idxN, hm]
      rw [this]
      refine ⟨fun h => by simpa using h1 (by simpa using h), ?_, by simpa using h3⟩
      rw [List.take_succ_cons, keep_cons, hm, h2]
      rfl

def Δ38 : REnv := envR [(39, liftR R39), (43, R43)]
theorem Δ38_ok : ∀ f, SoundR LP f (Δ38 f) := envR_ok (by simp; exact ⟨lift_sound R39_ok, R43_ok⟩)

theorem T38_l1 {n : Nat} (lo hi : ByteArray) (hN : n ≤ 1000000) : ∀ (suf row : List Meta) (i j : Nat), row.length = n → row.drop j = suf → i < j → j ≤ n →
    ∃ (i' : Nat) (row' : List Meta), Rounds (T38_l1_e n lo hi) (T38_l1_x n lo hi) noX (fun s => (T38_l1_b Δ38 n lo hi s).wp) (row, (i : Int), (j : Int)) (.inl ((i' : Int), row')) ∧ row'.length = n ∧ i' = i + (keepL suf lo hi).length ∧ row'.take i' = row.take i ++ keepL suf lo hi
  | [], row, i, j, hl, hd, hij, hj => by
    have hjn : j = n := by
      have := congrArg List.length hd
      simp at this; omega
    refine ⟨i, row, .done (by simp [T38_l1_x]) ?_, hl, by simp [keepL], by simp [keepL]⟩
    unfold T38_l1_b
    exact wp_sp (fun h => by have := of_decide_eq_true h; dsimp only at this; omega) (fun _ => wp_leaf rfl ⟨rfl, rfl⟩)
  | m :: suf, row, i, j, hl, hd, hij, hj => by
    have hjn : j < n := by
      have := congrArg List.length hd
      simp at this; omega
    have hm : row[j]? = some m := by
      have := congrArg (fun l => l[0]?) hd
      simpa using this
    have hd1 : row.drop (j + 1) = suf := by
      have := congrArg (List.drop 1) hd
      simpa using this
    cases hmi : missB m lo hi with
    | true =>
      obtain ⟨i', row', q1, q2, q3, q4⟩ := T38_l1 lo hi hN suf row i (j + 1) hl hd1 (by omega) hjn
      rw [keep_cons, hmi, if_pos rfl]
      refine ⟨i', row', .next ?_ q1, q2, q3, q4⟩
      unfold T38_l1_b
      dsimp only
      exact wp_sp (fun _ => wp_ridx (by omega) (by omega) (wp_rload m (by omega) rfl hm (wp_callr (L39' m lo hi _ _) (wp_sp (fun _ => wp_i64 (by omega) (wp_leaf rfl ⟨rfl, rfl⟩)) (fun h => by rw [hmi] at h; cases h))))) (fun h => by have := of_decide_eq_false h; omega)
    | false =>
      obtain ⟨i', row', q1, q2, q3, q4⟩ := T38_l1 lo hi hN suf (row.set i m) (i + 1) (j + 1) (by rw [List.length_set, hl]) (by rw [List.drop_set_of_lt (by omega), hd1]) (by omega) hjn
      rw [keep_cons, hmi, if_neg (by simp)]
      refine ⟨i', row', .next ?_ q1, q2, by rw [List.length_cons]; omega, ?_⟩
      · unfold T38_l1_b
        dsimp only
        exact wp_sp (fun _ => wp_ridx (by omega) (by omega) (wp_rload m (by omega) rfl hm (wp_callr (L39' m lo hi _ _) (wp_sp (fun h => by rw [hmi] at h; cases h) (fun _ => wp_ridx (by omega) (by omega) (wp_rstore (by omega) (by omega) rfl rfl (wp_i64 (by omega) (wp_i64 (by omega) (wp_leaf rfl ⟨rfl, rfl⟩))))))))) (fun h => by have := of_decide_eq_false h; omega)
      · rw [q4]
        have : (row.set i m).take (i + 1) = row.take i ++ [m] := by
          rw [List.take_succ_eq_append_getElem (by rw [List.length_set]; omega), List.take_set_of_le (Nat.le_refl _)]
          simp
        rw [this]
        simp

theorem T38_wp (L : List Meta) (lo hi : ByteArray) (hN : L.length ≤ 1000000) {K : AE → St → Prop}
    (h : K .ret ([(0, .rs 0 0 5 0 (keepL L lo hi).length)], [metaE.bx 0 (keepL L lo hi ++ List.replicate (L.length - (keepL L lo hi).length) dM), .cells false 0 [vs lo], .cells false 0 [vs hi]])) : (T38 Δ38 L.length L lo hi).wp K := by
  obtain ⟨k1, k2, k3⟩ := idx_keep lo hi L
  unfold T38
  refine wp_callr ⟨L, lo, hi, hN, rfl, rfl, rfl, rfl⟩ (wp_sp (fun e => ?_) (fun e => ?_))
  · have hn : ¬ idxN lo hi L < L.length := fun hh => by
      unfold idxL at e
      rw [if_pos hh] at e
      simp at e
    have hk : keepL L lo hi = L := by
      have : idxN lo hi L = L.length := by omega
      rw [this, List.take_length] at k2
      exact k2
    rw [hk] at h
    rw [Nat.sub_self, List.replicate_zero, List.append_nil] at h
    exact wp_leaf rfl h
  · have hn : idxN lo hi L < L.length := by
      apply Classical.byContradiction
      intro hh
      unfold idxL at e
      rw [if_neg hh] at e
      simp at e
    obtain ⟨m, hm, hmiss⟩ := k1 hn
    obtain ⟨i', row', q1, q2, q3, q4⟩ := T38_l1 lo hi hN (L.drop (idxN lo hi L + 1)) L (idxN lo hi L) (idxN lo hi L + 1) rfl rfl (by omega) (by omega)
    have hkl : keepL L lo hi = L.take (idxN lo hi L) ++ keepL (L.drop (idxN lo hi L + 1)) lo hi := by
      have e1 : L = L.take (idxN lo hi L) ++ m :: L.drop (idxN lo hi L + 1) := by
        have h2 := List.take_append_drop (idxN lo hi L) L
        rw [List.drop_eq_getElem_cons hn] at h2
        rw [List.getElem?_eq_getElem hn] at hm
        cases hm
        exact h2.symm
      conv => lhs; rw [e1]
      rw [keep_append, k2, keep_cons, hmiss, if_pos rfl]
    have hi' : i' = (keepL L lo hi).length := by rw [hkl, q3, List.length_append, List.length_take, Nat.min_eq_left k3]
    have hle : i' ≤ L.length := by
      have : (row'.take i').length = i' := by rw [q4, ← hkl, hi']
      rw [List.length_take] at this
      omega
    have hL : idxL L lo hi = (idxN lo hi L : Int) := by unfold idxL; rw [if_pos hn]
    rw [hL]
    refine wp_i64 (by omega) (wp_loop _ rfl q1 ?_)
    refine wp_rcut (by simp only [cutOk]; omega) ?_
    refine (show Tree.wp _ _ from ⟨rfl, rfl, rfl, ?_, wp_rcut (by simp only [cutOk]; omega) (wp_leaf rfl ?_)⟩)
    · show i' + (L.length - i') = row'.length
      omega
    · show K .ret ([(0, .rs 0 0 5 (0 + 0 * 5) (i' - 0))], [metaE.bx 0 (row'.take i' ++ List.replicate (L.length - i') dM), .cells false 0 [vs lo], .cells false 0 [vs hi]])
      rw [q4, ← hkl, hi']
      exact h

def R38 : RSpec := fun args B r B' => ∃ (L : List Meta) (lo hi : ByteArray), L.length ≤ 1000000 ∧ args = [.rs 0 0 5 0 L.length, .fn 39 [.ptr 1 0 0, .ptr 2 0 0]] ∧ B = [metaE.bx 0 L, .cells false 0 [vs lo], .cells false 0 [vs hi]] ∧ r = .rs 0 0 5 0 (keepL L lo hi).length ∧
  B' = [metaE.bx 0 (keepL L lo hi ++ List.replicate (L.length - (keepL L lo hi).length) dM), .cells false 0 [vs lo], .cells false 0 [vs hi]]
theorem R38_ok : SoundR LP 38 R38 := sound_genT (Γ := Γ0) (Δ := Δ38) (fn := Try.f38) mixedL Γ0_ok Δ38_ok (by kernel_rfl) (by kernel_rfl) (by kernel_rfl) (by
  rintro args B r B' ⟨L, lo, hi, hN, rfl, rfl, rfl, rfl⟩
  exact ⟨rfl, _, T38_chk Δ38 L.length L lo hi, T38_wp L lo hi hN ⟨rfl, rfl⟩⟩)

/-! ### Small ones -/
theorem T31_wp (x y : Meta) {K : AE → St → Prop} (h : K .ret ([(0, vi (c31 x y))], [])) : (T31 x y).wp K := by
  unfold T31
  exact wp_leaf rfl h
def R31 : List AV → AV → Prop := fun args r => ∃ x y : Meta, args = [metaE.av x, metaE.av y] ∧ r = vi (c31 x y)
noncomputable def g31 := relG R31
theorem g31_eq (x y : Meta) : g31 [metaE.av x, metaE.av y] = some (vi (c31 x y)) := relG_eq (by
  rintro args r r' ⟨x1, y1, e1, rfl⟩ ⟨x2, y2, e2, rfl⟩
  rw [e1] at e2
  simp only [List.cons.injEq, and_true] at e2
  rw [av_inj e2.1, av_inj e2.2]) ⟨x, y, rfl, rfl⟩
theorem sound31 : SoundF LP 31 (.pure g31) := sound_pureT (Γ := Γ0) (Δ := Δ0) (fn := Try.f31) mixedL Γ0_ok Δ0_ok (by kernel_rfl) (by kernel_rfl) (by kernel_rfl) (by
  rintro args r ⟨x, y, rfl, rfl⟩
  exact ⟨rfl, rfl, _, T31_chk x y, T31_wp x y (.p _)⟩)

def R27 : List AV → AV → Prop := fun args r => ∃ x : Meta, args = [metaE.av x] ∧ r = vb x.ok
noncomputable def g27 := relG R27
theorem g27_eq (x : Meta) : g27 [metaE.av x] = some (vb x.ok) := relG_eq (by
  rintro args r r' ⟨x1, e1, rfl⟩ ⟨x2, e2, rfl⟩
  rw [e1] at e2
  simp only [List.cons.injEq, and_true] at e2
  rw [av_inj e2]) ⟨x, rfl, rfl⟩
theorem sound27 : SoundF LP 27 (.pure g27) := sound_pureT (Γ := Γ0) (Δ := Δ0) (fn := Try.f27) mixedL Γ0_ok Δ0_ok (by kernel_rfl) (by kernel_rfl) (by kernel_rfl) (by
  rintro args r ⟨x, rfl, rfl⟩
  exact ⟨rfl, rfl, _, T27_chk x, T27_wp x (.p _)⟩)

def cfE (c : Conf) : AV := .agg [vi c.files, vi c.size, vi c.cut]
def Conf.check (c : Conf) : Int := if c.files < 1 ∨ c.files > 100 ∨ c.size < 1 ∨ c.size > 67108864 ∨ c.cut < 1 ∨ c.cut > 1048576 then 1 else 0
theorem T14_wp (c : Conf) {K : AE → St → Prop} (h : K .ret ([(0, vi c.check)], [])) : (T14 c).wp K := by
  unfold Conf.check at h
  unfold T14
  repeat' first | refine wp_leaf rfl ?_ | refine wp_sp (fun _ => ?_) (fun _ => ?_)
  all_goals simp only [decide_eq_true_eq, decide_eq_false_iff_not] at *
  all_goals first | (rw [if_pos (by omega)] at h; exact h) | (rw [if_neg (by omega)] at h; exact h)
def R14 : List AV → AV → Prop := fun args r => ∃ c : Conf, args = [.agg [vi c.files, vi c.size, vi c.cut]] ∧ r = vi c.check
noncomputable def g14 := relG R14
theorem g14_eq (c : Conf) : g14 [.agg [vi c.files, vi c.size, vi c.cut]] = some (vi c.check) := relG_eq (by
  rintro args r r' ⟨x1, e1, rfl⟩ ⟨x2, e2, rfl⟩
  rw [e1] at e2
  simp at e2
  unfold Conf.check
  rw [e2.1, e2.2.1, e2.2.2]) ⟨c, rfl, rfl⟩
theorem sound14 : SoundF LP 14 (.pure g14) := sound_pureT (Γ := Γ0) (Δ := Δ0) (fn := Try.f14) mixedL Γ0_ok Δ0_ok (by kernel_rfl) (by kernel_rfl) (by kernel_rfl) (by
  rintro args r ⟨c, rfl, rfl⟩
  exact ⟨rfl, rfl, _, T14_chk c, T14_wp c (.p _)⟩)

/-! ### What the next trees call -/
def ΔM : REnv := envR [(17, liftR R17), (38, liftR R38)]
theorem ΔM_ok : ∀ f, SoundR LP f (ΔM f) := envR_ok (by simp; exact ⟨lift_sound R17_ok, lift_sound R38_ok⟩)
noncomputable def Γ31 : Env := envP [(31, g31)]
theorem Γ31_ok : ∀ f, SoundF LP f (Γ31 f) := envP_ok (by simp; exact sound31)
noncomputable def Γ15 : Env := envP [(27, g27), (17, gOf)]
theorem Γ15_ok : ∀ f, SoundF LP f (Γ15 f) := envP_ok (by simp; exact ⟨sound27, sound17⟩)
noncomputable def Γ18 : Env := envP [(17, gOf)]
theorem Γ18_ok : ∀ f, SoundF LP f (Γ18 f) := envP_ok (by simp; exact sound17)

end Go.Ax
