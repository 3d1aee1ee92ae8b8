/- The plain law of LevelWorks: what is picked, made one file, is a version again. -/
import Derived.Test.YtgbmmmglilpdjaaWk4
set_option linter.unusedVariables false
set_option linter.unusedSimpArgs false
namespace Go.Ax
open Go.Proofs Go.RowKit
set_option maxRecDepth 100000

/-! ### Strings in order -/
theorem ltB_trans : ∀ x y z : List UInt8, Op.bytesLess x y = true → Op.bytesLess y z = true → Op.bytesLess x z = true
  | _, _, [], _, h => by cases ‹List UInt8› <;> simp [Op.bytesLess] at h
  | [], _, _ :: _, _, _ => by simp [Op.bytesLess]
  | _ :: _, [], _ :: _, h, _ => by simp [Op.bytesLess] at h
  | a :: x, b :: y, c :: z, h, h' => by
    simp only [Op.bytesLess, Bool.or_eq_true, decide_eq_true_eq, Bool.and_eq_true, beq_iff_eq] at h h' ⊢
    rcases h with h | ⟨h, g⟩
    · rcases h' with h' | ⟨h', g'⟩
      · refine .inl ?_
        rw [UInt8.lt_iff_toNat_lt] at h h' ⊢; omega
      · rw [← h']; exact .inl h
    · rcases h' with h' | ⟨h', g'⟩
      · rw [h]; exact .inl h'
      · exact .inr ⟨h.trans h', ltB_trans x y z g g'⟩

def Lt (a b : ByteArray) : Prop := Op.bytesLess a.toList b.toList = true
def Le (a b : ByteArray) : Prop := ¬ Lt b a
theorem Lt.trans {a b c : ByteArray} (h : Lt a b) (g : Lt b c) : Lt a c := ltB_trans _ _ _ h g
theorem Lt.irr {a : ByteArray} (h : Lt a a) : False := by unfold Lt at h; rw [ltB_irr] at h; cases h
theorem Le.refl (a : ByteArray) : Le a a := fun h => h.irr
theorem Lt.le {a b : ByteArray} (h : Lt a b) : Le a b := fun g => (h.trans g).irr
theorem lt_le {a b c : ByteArray} (h : Lt a b) (g : Le b c) : Lt a c := by
  by_cases e : Lt b c
  · exact h.trans e
  · have : b.toList = c.toList := ltB_tri _ _ (by simpa [Lt] using e) (by simpa [Le, Lt] using g)
    unfold Lt at h ⊢
    rw [← this]; exact h
theorem le_lt {a b c : ByteArray} (h : Le a b) (g : Lt b c) : Lt a c := by
  by_cases e : Lt a b
  · exact e.trans g
  · have : a.toList = b.toList := ltB_tri _ _ (by simpa [Lt] using e) (by simpa [Le, Lt] using h)
    unfold Lt at g ⊢
    rw [this]; exact g
theorem le_le {a b c : ByteArray} (h : Le a b) (g : Le b c) : Le a c := fun e => (lt_le (le_lt g e) h).irr
theorem le_of {a b : ByteArray} (h : (Op.bytesLess a.toList b.toList || (a.toList == b.toList)) = true) : Le a b := by
  rw [le_iff] at h
  unfold Le Lt
  simpa using h

/-! ### A span -/
theorem lowS_spec (a b : ByteArray) : Le (lowS a b) a ∧ Le (lowS a b) b ∧ (lowS a b = a ∨ lowS a b = b) := by
  rw [lowS_eq]
  cases h : Op.bytesLess b.toList a.toList with
  | true => exact ⟨Lt.le h, Le.refl _, .inr rfl⟩
  | false => exact ⟨Le.refl _, by show ¬ Lt b a; unfold Lt; rw [h]; simp, .inl rfl⟩
theorem highS_spec (a b : ByteArray) : Le a (highS a b) ∧ Le b (highS a b) ∧ (highS a b = a ∨ highS a b = b) := by
  unfold highS
  cases h : Op.bytesLess a.toList b.toList with
  | true => exact ⟨Lt.le h, Le.refl _, .inr rfl⟩
  | false => exact ⟨Le.refl _, by show ¬ Lt a b; unfold Lt; rw [h]; simp, .inl rfl⟩

def spF (p : ByteArray × ByteArray) (x : Meta) : ByteArray × ByteArray := (lowS p.1 x.low, highS p.2 x.high)
theorem span_fold : ∀ (L : List Meta) (p : ByteArray × ByteArray), Le (L.foldl spF p).1 p.1 ∧ Le p.2 (L.foldl spF p).2 ∧ (∀ x ∈ L, Le (L.foldl spF p).1 x.low ∧ Le x.high (L.foldl spF p).2) ∧
    ((L.foldl spF p).1 = p.1 ∨ ∃ x ∈ L, (L.foldl spF p).1 = x.low) ∧ ((L.foldl spF p).2 = p.2 ∨ ∃ x ∈ L, (L.foldl spF p).2 = x.high)
  | [], p => ⟨Le.refl _, Le.refl _, fun x hx => by simp at hx, .inl rfl, .inl rfl⟩
  | m :: L, p => by
    obtain ⟨h1, h2, h3, h4, h5⟩ := span_fold L (spF p m)
    obtain ⟨l1, l2, l3⟩ := lowS_spec p.1 m.low
    obtain ⟨k1, k2, k3⟩ := highS_spec p.2 m.high
    refine ⟨le_le h1 l1, le_le k1 h2, fun x hx => ?_, ?_, ?_⟩
    · rcases List.mem_cons.mp hx with rfl | hx
      · exact ⟨le_le h1 l2, le_le k2 h2⟩
      · exact h3 x hx
    · rcases h4 with h4 | ⟨x, hx, h4⟩
      · rcases l3 with l3 | l3
        · exact .inl (h4.trans l3)
        · exact .inr ⟨m, by simp, h4.trans l3⟩
      · exact .inr ⟨x, by simp [hx], h4⟩
    · rcases h5 with h5 | ⟨x, hx, h5⟩
      · rcases k3 with k3 | k3
        · exact .inl (h5.trans k3)
        · exact .inr ⟨m, by simp, h5.trans k3⟩
      · exact .inr ⟨x, by simp [hx], h5⟩
theorem span_spec {L : List Meta} (h0 : L ≠ []) : (∀ x ∈ L, Le (spanL L).1 x.low ∧ Le x.high (spanL L).2) ∧ (∃ x ∈ L, (spanL L).1 = x.low) ∧ (∃ x ∈ L, (spanL L).2 = x.high) := by
  cases L with
  | nil => exact absurd rfl h0
  | cons m L =>
    obtain ⟨h1, h2, h3, h4, h5⟩ := span_fold L (m.low, m.high)
    refine ⟨fun x hx => ?_, ?_, ?_⟩
    · rcases List.mem_cons.mp hx with rfl | hx
      · exact ⟨h1, h2⟩
      · exact h3 x hx
    · rcases h4 with h4 | ⟨x, hx, h4⟩
      · exact ⟨m, by simp, h4⟩
      · exact ⟨x, by simp [hx], h4⟩
    · rcases h5 with h5 | ⟨x, hx, h5⟩
      · exact ⟨m, by simp, h5⟩
      · exact ⟨x, by simp [hx], h5⟩

/-! ### Lists in order -/
theorem at_eq {L : List Meta} {i : Nat} (h : i < L.length) : at' L i = L[i] := by
  have := at_get h
  rw [List.getElem?_eq_getElem h] at this
  exact (Option.some.inj this).symm
theorem at_succ (m : Meta) (L : List Meta) {i : Nat} (h : i < L.length) : at' (m :: L) (i + 1) = at' L i := by
  rw [at_eq (L := m :: L) (by simpa using h), at_eq h]; rfl

theorem chain_pair {R : Meta → Meta → Prop} {Q : Meta → Prop} (ht : ∀ x y z, Q y → R x y → R y z → R x z) : ∀ (L : List Meta), (∀ m ∈ L, Q m) → (∀ i, i + 1 < L.length → R (at' L i) (at' L (i + 1))) → L.Pairwise R
  | [], _, _ => .nil
  | x :: L, hQ, h => by
    have ih := chain_pair ht L (fun m hm => hQ m (by simp [hm])) (fun i hi => by
      have := h (i + 1) (by simpa using hi)
      rwa [at_succ x L (by omega), at_succ x L hi] at this)
    refine .cons (fun y hy => ?_) ih
    cases L with
    | nil => simp at hy
    | cons z L =>
      have h0 : R x z := by
        have := h 0 (by simp)
        rwa [at_succ x (z :: L) (by simp)] at this
      rcases List.mem_cons.mp hy with rfl | hy
      · exact h0
      · exact ht x z y (hQ z (by simp)) h0 (List.rel_of_pairwise_cons ih hy)

def Disj (a b : Meta) : Prop := Lt a.high b.low ∨ Lt b.high a.low
theorem Disj.symm {a b : Meta} (h : Disj a b) : Disj b a := h.elim .inr .inl

theorem cOf_neg {n : Int} (hn : n ≠ 0) (x y : Meta) : cOf n x y < 0 ↔ Lt x.low y.low := by
  unfold cOf Lt
  rw [if_neg (by simpa using hn)]
  cases h : Op.bytesLess x.low.toList y.low.toList with
  | true => simp
  | false => simp only [Bool.false_eq_true, if_false, iff_false]; split <;> omega
theorem cOf_ordr {n : Int} (hn : n ≠ 0) : Ordr (cOf n) (fun _ => True) where
  asym x y _ _ h g := by
    rw [cOf_neg hn] at h g
    exact (h.trans g).irr
  trans x y z _ _ _ h g e := by
    rw [cOf_neg hn] at h g e
    exact (lt_le e (le_le h (Le.refl _)) |> fun k => g k)

theorem level_pair {n : Int} {files : List Meta} (hl : files.length ≤ 1000000) (hok : ∀ m ∈ files, Le m.low m.high) (h : levelOk n files = true) : (files.filter fun m => m.level == n).Pairwise Disj := by
  have hp := ofL_perm n hl
  refine (hp.pairwise_iff (fun h => h.symm)).mp ?_
  have hmem : ∀ m ∈ ofL n files, Le m.low m.high := fun m hm => hok m (List.mem_filter.mp (hp.mem_iff.mp hm)).1
  refine (chain_pair (R := fun a b => Lt a.high b.low) (Q := fun m => Le m.low m.high) (fun x y z hy h1 h2 => (lt_le h1 hy).trans h2) _ hmem fun i hi => ?_).imp fun h => .inl h
  unfold levelOk at h
  rw [List.all_eq_true] at h
  exact h i (by simp; omega)

theorem pair_level {n : Int} (hn : n ≠ 0) {files : List Meta} (hl : files.length ≤ 1000000) (hok : ∀ m ∈ files, Le m.low m.high) (h : (files.filter fun m => m.level == n).Pairwise Disj) : levelOk n files = true := by
  have hp := ofL_perm n hl
  have hfl : (files.filter fun m => m.level == n).length ≤ 1000000 := Nat.le_trans (List.length_filter_le _ _) hl
  have hs : Sorted (cOf n) (ofL n files) 0 (files.filter fun m => m.level == n).length := (sortOf_spec n hfl).2.2 _ (cOf_ordr hn) (fun _ _ => trivial)
  have hmem : ∀ m ∈ ofL n files, Le m.low m.high := fun m hm => hok m (List.mem_filter.mp (hp.mem_iff.mp hm)).1
  have hpw := (hp.pairwise_iff (fun h => h.symm)).mpr h
  rw [List.pairwise_iff_getElem] at hpw
  unfold levelOk
  rw [List.all_eq_true]
  intro i hi
  have hi : i + 1 < (ofL n files).length := by simp at hi; omega
  have h1 := hs i (i + 1) (by omega) (by omega) (by rw [← hp.length_eq]; exact hi)
  rw [cOf_neg hn] at h1
  have h2 := hpw i (i + 1) (by omega) hi (by omega)
  have e1 := at_eq (L := ofL n files) (i := i) (by omega)
  have e2 := at_eq hi
  rw [e1, e2] at h1 ⊢
  rcases h2 with h2 | h2
  · exact h2
  · exact absurd (le_lt (hmem _ (List.getElem_mem hi)) h2) h1

/-! ### Filters -/
theorem filter_or {p q : Meta → Bool} : ∀ (L : List Meta), (∀ m ∈ L, p m = true → q m = false) → (L.filter p ++ L.filter q).Perm (L.filter fun m => p m || q m)
  | [], _ => .refl _
  | m :: L, h => by
    have ih := filter_or L (fun x hx => h x (by simp [hx]))
    have hm := h m (by simp)
    cases hp : p m with
    | true =>
      have hq := hm hp
      rw [List.filter_cons_of_pos hp, List.filter_cons_of_neg (by simp [hq]), List.filter_cons_of_pos (by simp [hp]), List.cons_append]
      exact ih.cons m
    | false =>
      cases hq : q m with
      | true =>
        rw [List.filter_cons_of_neg (by simp [hp]), List.filter_cons_of_pos hq, List.filter_cons_of_pos (by simp [hq])]
        exact List.perm_middle.trans (ih.cons m)
      | false =>
        rw [List.filter_cons_of_neg (by simp [hp]), List.filter_cons_of_neg (by simp [hq]), List.filter_cons_of_neg (by simp [hp, hq])]
        exact ih
theorem filter_not : ∀ (p : Meta → Bool) (L : List Meta), (L.filter p).length + (L.filter fun m => !p m).length = L.length
  | _, [] => rfl
  | p, m :: L => by
    have := filter_not p L
    cases h : p m <;> simp [h] <;> omega
theorem filter_one (x : Meta) : ∀ (L : List Meta), L.Pairwise (fun a b => a.num < b.num) → x ∈ L → L.filter (fun m => m.num == x.num) = [x]
  | [], _, h => by simp at h
  | m :: L, hp, h => by
    have hm : ∀ y ∈ L, m.num < y.num := fun y hy => List.rel_of_pairwise_cons hp hy
    rcases List.mem_cons.mp h with rfl | h
    · rw [List.filter_cons_of_pos (by simp)]
      congr 1
      rw [List.filter_eq_nil_iff]
      intro y hy
      have := hm y hy
      simp; omega
    · have := hm x h
      rw [List.filter_cons_of_neg (by simp; omega)]
      exact filter_one x L hp.of_cons h
theorem num_inj {L : List Meta} (hp : L.Pairwise (fun a b => a.num < b.num)) {x y : Meta} (hx : x ∈ L) (hy : y ∈ L) (e : x.num = y.num) : x = y := by
  have h1 := filter_one x L hp hx
  have : y ∈ L.filter (fun m => m.num == x.num) := List.mem_filter.mpr ⟨hy, by simp [e]⟩
  rw [h1] at this
  exact (List.mem_singleton.mp this).symm

/-! ### What a check lets pass -/
structure Right (v : Vers) : Prop where
  log : v.log ≥ 1 ∧ v.log ≤ 1073741824
  next : v.next ≥ 1 ∧ v.next ≤ 1073741824
  seq : v.seq ≤ 72057594037927935
  len : v.files.length ≤ 1000
  ok : ∀ m ∈ v.files, m.ok = true ∧ m.num < v.next
  up : v.files.Pairwise (fun a b => a.num < b.num)
  lev : ∀ n : Int, 1 ≤ n → n ≤ 5 → levelOk n v.files = true

theorem right_of {v : Vers} (h : Vers.check v = 0) : Right v := by
  unfold Vers.check at h
  split at h
  · cases h
  · rename_i h1
    split at h
    · cases h
    · rename_i h2
      split at h
      · cases h
      · rename_i h3
        split at h
        · rename_i h4
          have h3 : (List.range v.files.length).all (fileOk v) = true := Classical.byContradiction h3
          rw [List.all_eq_true] at h3
          have h5 : ∀ i, i < v.files.length → (at' v.files i).ok = true ∧ (at' v.files i).num < v.next ∧ (i = 0 ∨ (at' v.files (i - 1)).num < (at' v.files i).num) := fun i hi => by
            have := h3 i (by simpa using hi)
            simp only [fileOk, Bool.and_eq_true, decide_eq_true_eq, Bool.or_eq_true] at this
            exact ⟨this.1.1, this.1.2, this.2⟩
          refine ⟨by omega, by omega, by omega, by omega, fun m hm => ?_, ?_, fun n n1 n5 => ?_⟩
          · obtain ⟨i, hi, e⟩ := List.getElem_of_mem hm
            have := h5 i hi
            rw [at_eq hi, e] at this
            exact ⟨this.1, this.2.1⟩
          · refine chain_pair (Q := fun _ => True) (fun x y z _ h1 h2 => by omega) _ (fun _ _ => trivial) fun i hi => ?_
            have := (h5 (i + 1) hi).2.2
            rw [Nat.add_sub_cancel] at this
            exact this.resolve_left (by omega)
          · rw [List.all_eq_true] at h4
            refine h4 n ?_
            have : n = 1 ∨ n = 2 ∨ n = 3 ∨ n = 4 ∨ n = 5 := by omega
            rcases this with rfl | rfl | rfl | rfl | rfl <;> simp
        · cases h

theorem of_right {v : Vers} (h : Right v) : Vers.check v = 0 := by
  obtain ⟨h1, h2, h3, h4, h5, h6, h7⟩ := h
  unfold Vers.check
  rw [if_neg (by omega), if_neg (by omega)]
  have hall : (List.range v.files.length).all (fileOk v) = true := by
    rw [List.all_eq_true]
    intro i hi
    have hi : i < v.files.length := by simpa using hi
    have := h5 v.files[i] (List.getElem_mem hi)
    simp only [fileOk, Bool.and_eq_true, decide_eq_true_eq, Bool.or_eq_true]
    rw [at_eq hi]
    refine ⟨this, ?_⟩
    by_cases e : i = 0
    · exact .inl e
    · refine .inr ?_
      rw [at_eq (by omega)]
      exact List.pairwise_iff_getElem.mp h6 (i - 1) i (by omega) hi (by omega)
  rw [if_neg (by simp [hall]), if_pos]
  rw [List.all_eq_true]
  intro n hn
  refine h7 n ?_ ?_ <;> (simp at hn; omega)

theorem ok_le {m : Meta} (h : m.ok = true) : Le m.low m.high := by
  simp only [Meta.ok, Bool.and_eq_true] at h
  exact le_of h.1.1.1.1.2

end Go.Ax

namespace Go.Ax
open Go.Proofs Go.RowKit
set_option maxRecDepth 100000

theorem minF_mem : ∀ (L : List Meta) (b : Meta), L.foldl minF b = b ∨ L.foldl minF b ∈ L
  | [], _ => .inl rfl
  | m :: L, b => by
    have h : minF b m = b ∨ minF b m = m := by unfold minF; split <;> simp
    rcases minF_mem L (minF b m) with h2 | h2
    · rcases h with h | h
      · exact .inl (by rw [List.foldl_cons, h2, h])
      · exact .inr (by rw [List.foldl_cons, h2, h]; simp)
    · exact .inr (by rw [List.foldl_cons]; simp [h2])
theorem minL_mem {L : List Meta} (h0 : L ≠ []) : minL L ∈ L := by
  cases L with
  | nil => exact absurd rfl h0
  | cons m L =>
    rcases minF_mem L m with h | h
    · show L.foldl minF m ∈ m :: L
      rw [h]; simp
    · exact List.mem_cons_of_mem _ h

theorem pickN_spec (v : Vers) : ∀ (k : Nat) (n most : Int), (k : Int) + n = 5 → 1 ≤ n → 1 ≤ most → (pickN v k n most).2 > 0 →
    ∃ n' : Int, 1 ≤ n' ∧ n' ≤ 4 ∧ ofL n' v.files ≠ [] ∧ pickN v k n most = (minL (ofL n' v.files) :: meetsL (n' + 1) v.files (minL (ofL n' v.files)).low (minL (ofL n' v.files)).high, n' + 1)
  | 0, n, most, _, _, _, h => by simp [pickN] at h
  | k + 1, n, most, h1, h2, h3, h => by
    by_cases hs : sumL (ofL n v.files) > most
    · refine ⟨n, h2, by omega, fun e => ?_, by rw [pickN, if_pos hs]⟩
      rw [e] at hs
      simp [sumL] at hs
      omega
    · rw [pickN, if_neg hs] at h ⊢
      exact pickN_spec v k (n + 1) (most * 4) (by omega) (by omega) (by omega) h

/-- What is picked. -/
theorem pick_spec {v : Vers} {c : Conf} (R : Right v) (hc : FineC c) (hp : (pickL v c).2 > 0) : ∃ (B : List Meta) (pB : Meta → Bool) (out : Int),
    pickL v c = (B ++ meetsL out v.files (spanL B).1 (spanL B).2, out) ∧ B ≠ [] ∧ 1 ≤ out ∧ out ≤ 5 ∧ B.Perm (v.files.filter pB) ∧ ∀ m ∈ v.files, pB m = true → m.level ≠ out := by
  have hl : v.files.length ≤ 1000000 := by have := R.len; omega
  obtain ⟨c1, c2, c3, c4⟩ := hc
  unfold pickL at hp ⊢
  by_cases hh : ((ofL 0 v.files).length : Int) ≥ (if (1 : Int) < c.files then c.files else 1)
  · rw [if_pos hh]
    refine ⟨ofL 0 v.files, fun m => m.level == 0, 1, rfl, fun e => ?_, by omega, by omega, ofL_perm 0 hl, fun m _ h => ?_⟩
    · rw [e] at hh; split at hh <;> simp at hh <;> omega
    · have : m.level = 0 := by simpa using h
      omega
  · rw [if_neg hh] at hp ⊢
    obtain ⟨n, n1, n2, n3, n4⟩ := pickN_spec v 4 1 c.size rfl (by omega) c3 hp
    rw [n4]
    have hx := minL_mem n3
    have hx := List.mem_filter.mp ((ofL_perm n hl).mem_iff.mp hx)
    have hlv : (minL (ofL n v.files)).level = n := by simpa using hx.2
    refine ⟨[minL (ofL n v.files)], fun m => m.num == (minL (ofL n v.files)).num, n + 1, rfl, by simp, by omega, by omega, ?_, fun m hm h => ?_⟩
    · rw [filter_one _ _ R.up hx.1]
    · have := num_inj R.up hm hx.1 (by simpa using h)
      rw [this]
      omega

theorem keep_mem {L : List Meta} {lo hi : ByteArray} {m : Meta} (h : m ∈ keepL L lo hi) : m ∈ L ∧ missB m lo hi = false := by
  have := List.mem_filter.mp h
  exact ⟨this.1, by simpa using this.2⟩
theorem miss_true {m : Meta} {lo hi : ByteArray} (h : missB m lo hi = true) : Lt m.high lo ∨ Lt hi m.low := by
  unfold missB at h
  rw [Bool.or_eq_true, le_iff] at h
  rcases h with h | h
  · exact .inl h
  · exact .inr (by simpa [Lt] using h)
theorem miss_false {m : Meta} {lo hi : ByteArray} (h : missB m lo hi = false) : Le lo m.high ∧ Le m.low hi := by
  unfold missB at h
  rw [Bool.or_eq_false_iff, le_iff] at h
  exact ⟨by unfold Le Lt; rw [h.1]; simp, by unfold Le Lt; simpa using h.2⟩

theorem pair_mem {L : List Meta} (hp : L.Pairwise Disj) {x y : Meta} (hx : x ∈ L) (hy : y ∈ L) (hne : x ≠ y) : Disj x y := by
  rw [List.pairwise_iff_getElem] at hp
  obtain ⟨i, hi, rfl⟩ := List.getElem_of_mem hx
  obtain ⟨j, hj, rfl⟩ := List.getElem_of_mem hy
  rcases Nat.lt_trichotomy i j with h | h | h
  · exact hp i j hi hj h
  · subst h; exact absurd rfl hne
  · exact (hp j i hj hi h).symm

/-- What is left at the level stands apart from the one file that comes. -/
theorem apart {v : Vers} (R : Right v) {B : List Meta} {pB : Meta → Bool} {out : Int} (h0 : B ≠ []) (h1 : 1 ≤ out) (h5 : out ≤ 5) (hB : B.Perm (v.files.filter pB)) {r : Meta} (hr : r ∈ v.files) (hlv : r.level = out)
    (hm : missB r (spanL B).1 (spanL B).2 = true) (lo hi : ByteArray) (hlo : ∃ x ∈ B ++ meetsL out v.files (spanL B).1 (spanL B).2, lo = x.low) (hhi : ∃ x ∈ B ++ meetsL out v.files (spanL B).1 (spanL B).2, hi = x.high) : Lt r.high lo ∨ Lt hi r.low := by
  have hl : v.files.length ≤ 1000000 := by have := R.len; omega
  have hok : ∀ m ∈ v.files, Le m.low m.high := fun m hm => ok_le (R.ok m hm).1
  have hpw := level_pair hl hok (R.lev out h1 h5)
  obtain ⟨s1, _, _⟩ := span_spec h0
  have hmeet : ∀ x ∈ meetsL out v.files (spanL B).1 (spanL B).2, Disj r x ∧ Le (spanL B).1 x.high ∧ Le x.low (spanL B).2 := by
    intro x hx
    obtain ⟨hx1, hx2⟩ := keep_mem hx
    have hx3 := List.mem_filter.mp ((ofL_perm out hl).mem_iff.mp hx1)
    refine ⟨pair_mem hpw (List.mem_filter.mpr ⟨hr, by simpa using hlv⟩) (List.mem_filter.mpr hx3) (fun e => ?_), miss_false hx2⟩
    rw [e, hx2] at hm
    cases hm
  have hrr := hok r hr
  rcases miss_true hm with hm | hm
  · left
    obtain ⟨x, hx, rfl⟩ := hlo
    rcases List.mem_append.mp hx with hx | hx
    · exact lt_le hm (s1 x hx).1
    · obtain ⟨d, e1, e2⟩ := hmeet x hx
      rcases d with d | d
      · exact d
      · exact absurd (lt_le ((lt_le hm e1).trans d) hrr) (fun h => h.irr)
  · right
    obtain ⟨x, hx, rfl⟩ := hhi
    rcases List.mem_append.mp hx with hx | hx
    · exact le_lt (s1 x hx).2 hm
    · obtain ⟨d, e1, e2⟩ := hmeet x hx
      rcases d with d | d
      · exact absurd (lt_le ((lt_le d e2).trans hm) hrr) (fun h => h.irr)
      · exact d

theorem c31_ordr : Ordr c31 (fun m => m.num ≥ 1 ∧ m.num ≤ 1073741824) where
  asym x y hx hy h g := by
    rw [c31_eq hx hy] at h
    rw [c31_eq hy hx] at g
    omega
  trans x y z hx hy hz h g e := by
    rw [c31_eq hy hx] at h
    rw [c31_eq hz hy] at g
    rw [c31_eq hz hx] at e
    omega

theorem ok_num {m : Meta} (h : m.ok = true) : m.num ≥ 1 ∧ m.num ≤ 1073741824 := by
  simp only [Meta.ok, Bool.and_eq_true, decide_eq_true_eq] at h
  exact ⟨h.1.1.1.1.1.1.1.1.1, h.1.1.1.1.1.1.1.1.2⟩

theorem works {v : Vers} (R : Right v) (h40 : v.files.length ≤ 40) (hn : v.next ≤ 536870912) {B : List Meta} {pB : Meta → Bool} {out : Int} (h0 : B ≠ []) (h1 : 1 ≤ out) (h5 : out ≤ 5) (hB : B.Perm (v.files.filter pB)) (hlv : ∀ m ∈ v.files, pB m = true → m.level ≠ out)
    (In : List Meta) (hIn : In = B ++ meetsL out v.files (spanL B).1 (spanL B).2) :
    applyL v ⟨[⟨v.next, out, (spanL In).1, (spanL In).2, 0⟩], In.map (·.num), 0, v.next + 1, 0⟩ = (applyW v ⟨[⟨v.next, out, (spanL In).1, (spanL In).2, 0⟩], In.map (·.num), 0, v.next + 1, 0⟩, 0) ∧
    (applyW v ⟨[⟨v.next, out, (spanL In).1, (spanL In).2, 0⟩], In.map (·.num), 0, v.next + 1, 0⟩).files.length + In.length = v.files.length + 1 := by
  have hl : v.files.length ≤ 1000000 := by omega
  have hok : ∀ m ∈ v.files, Le m.low m.high := fun m hm => ok_le (R.ok m hm).1
  have hIn0 : In ≠ [] := by rw [hIn]; simp [h0]
  -- which files are picked
  have hperm : In.Perm (v.files.filter fun m => pB m || (m.level == out && !missB m (spanL B).1 (spanL B).2)) := by
    have hk : (meetsL out v.files (spanL B).1 (spanL B).2).Perm (v.files.filter fun m => m.level == out && !missB m (spanL B).1 (spanL B).2) := by
      have := (ofL_perm out hl).filter (fun m => !missB m (spanL B).1 (spanL B).2)
      rw [List.filter_filter] at this
      refine this.trans (.of_eq ?_)
      exact List.filter_congr fun m _ => by rw [Bool.and_comm]
    rw [hIn]
    refine (hB.append hk).trans (filter_or _ fun m hm hp => ?_)
    have := hlv m hm hp
    have : (m.level == out) = false := by simpa using this
    rw [this]; rfl
  generalize hP : (fun m : Meta => pB m || (m.level == out && !missB m (spanL B).1 (spanL B).2)) = P at hperm
  have hmemIn : ∀ x ∈ In, x ∈ v.files := fun x hx => (List.mem_filter.mp (hperm.mem_iff.mp hx)).1
  have hhas : ∀ m ∈ v.files, hasI (In.map (·.num)) m.num = P m := by
    intro m hm
    cases hp : P m with
    | true =>
      have : m ∈ In := hperm.mem_iff.mpr (List.mem_filter.mpr ⟨hm, hp⟩)
      unfold hasI
      rw [List.contains_iff_mem]
      exact List.mem_map.mpr ⟨m, this, rfl⟩
    | false =>
      unfold hasI
      rw [Bool.eq_false_iff]
      intro h
      rw [List.contains_iff_mem] at h
      obtain ⟨x, hx, e⟩ := List.mem_map.mp h
      have := num_inj R.up hm (hmemIn x hx) e.symm
      subst this
      have := (List.mem_filter.mp (hperm.mem_iff.mp hx)).2
      rw [hp] at this
      cases this
  obtain ⟨s1, ⟨xl, hxl, el⟩, ⟨xh, hxh, eh⟩⟩ := span_spec hIn0
  generalize hm0 : (⟨v.next, out, (spanL In).1, (spanL In).2, 0⟩ : Meta) = m0
  generalize he : (⟨[m0], In.map (·.num), 0, v.next + 1, 0⟩ : Edt) = e
  have hleft : leftL e.del v.files = v.files.filter fun m => !P m := by
    rw [← he]
    exact List.filter_congr fun m hm => by rw [hhas m hm]
  have hgone : goneN e.del v.files = In.length := by
    rw [← he, hperm.length_eq]
    show (v.files.filter fun m => hasI (In.map (·.num)) m.num).length = _
    rw [List.filter_congr fun m hm => hhas m hm]
  have hcount := filter_not P v.files
  have hlen : (leftL e.del v.files ++ e.add).length + In.length = v.files.length + 1 := by
    rw [hleft, ← he, List.length_append, hperm.length_eq]
    simp only [List.length_cons, List.length_nil]
    omega
  have hlen1 : (leftL e.del v.files ++ e.add).length ≤ 1000000 := by omega
  obtain ⟨_, b2, b3⟩ := byNum_spec hlen1
  have hw : applyW v e = ⟨byNum (leftL e.del v.files ++ e.add), v.log, v.next + 1, v.seq⟩ := by
    have := R.next
    unfold applyW newI
    rw [← he]
    simp only [Int.lt_irrefl, if_false, gt_iff_lt]
    rw [if_pos (by omega)]
  have hm0ok : m0.ok = true := by
    have a := (R.ok xl (hmemIn xl hxl)).1
    have b := (R.ok xh (hmemIn xh hxh)).1
    have hlh : Le m0.low m0.high := by
      rw [← hm0]
      show Le (spanL In).1 (spanL In).2
      exact le_le (s1 xl hxl).1 (le_le (ok_le a) (s1 xl hxl).2)
    have hlh : (Op.bytesLess m0.low.toList m0.high.toList || (m0.low.toList == m0.high.toList)) = true := by
      rw [le_iff]
      unfold Le Lt at hlh
      simpa using hlh
    have := R.next
    have el' : m0.low = xl.low := by rw [← hm0]; exact el
    have eh' : m0.high = xh.high := by rw [← hm0]; exact eh
    have e1 : m0.num = v.next := by rw [← hm0]
    have e2 : m0.level = out := by rw [← hm0]
    have e3 : m0.size = 0 := by rw [← hm0]
    unfold Meta.ok
    rw [hlh, el', eh', e1, e2, e3]
    simp only [Meta.ok, Bool.and_eq_true, decide_eq_true_eq] at a b ⊢
    exact ⟨⟨⟨⟨⟨⟨⟨⟨⟨this.1, this.2⟩, by omega⟩, by omega⟩, a.1.1.1.1.1.2⟩, trivial⟩, a.1.1.1.2⟩, b.1.1.2⟩, by omega⟩, by omega⟩
  have hadd : e.add = [m0] := by rw [← he]
  have hmemW : ∀ m ∈ byNum (leftL e.del v.files ++ e.add), m.ok = true ∧ m.num < v.next + 1 := by
    intro m hm
    have hm := b2.mem_iff.mp hm
    rcases List.mem_append.mp hm with hm | hm
    · rw [hleft] at hm
      have := R.ok m (List.mem_filter.mp hm).1
      exact ⟨this.1, by omega⟩
    · rw [hadd] at hm
      rw [List.mem_singleton.mp hm]
      refine ⟨hm0ok, ?_⟩
      rw [← hm0]
      show v.next < v.next + 1
      omega
  have hup : (leftL e.del v.files ++ e.add).Pairwise (fun a b => a.num < b.num) := by
    rw [hleft, hadd, List.pairwise_append]
    refine ⟨R.up.filter _, by simp, fun a ha b hb => ?_⟩
    rw [List.mem_singleton.mp hb, ← hm0]
    exact (R.ok a (List.mem_filter.mp ha).1).2
  have hne : (byNum (leftL e.del v.files ++ e.add)).Pairwise (fun a b => a.num ≠ b.num) :=
    (b2.pairwise_iff (fun h => fun g => h g.symm)).mpr (hup.imp fun h => by omega)
  have hright : Right (applyW v e) := by
    rw [hw]
    obtain ⟨r1, r2, r3, r4, r5, r6, r7⟩ := R
    have hb2 := b2.length_eq
    refine ⟨r1, ⟨by show v.next + 1 ≥ 1; omega, by show v.next + 1 ≤ 1073741824; omega⟩, r3, by show (byNum _).length ≤ 1000; omega, hmemW, ?_, fun n n1 n5 => ?_⟩
    · show (byNum (leftL e.del v.files ++ e.add)).Pairwise _
      have hs := b3 _ c31_ordr (fun x hx => ok_num (hmemW x (b2.mem_iff.mpr hx)).1)
      rw [List.pairwise_iff_getElem] at hne ⊢
      intro i j hi hj hij
      have a := hs i j (by omega) hij (by omega)
      have b := hne i j hi hj hij
      rw [at_eq hi, at_eq hj, c31_eq (ok_num (hmemW _ (List.getElem_mem hj)).1) (ok_num (hmemW _ (List.getElem_mem hi)).1)] at a
      omega
    · show levelOk n (byNum (leftL e.del v.files ++ e.add)) = true
      refine pair_level (by omega) (by omega) (fun m hm => ok_le (hmemW m hm).1) ?_
      refine ((b2.filter _).pairwise_iff (fun h => h.symm)).mpr ?_
      have hold : ((leftL e.del v.files).filter fun m => m.level == n).Pairwise Disj := by
        rw [hleft, List.filter_filter]
        have := (level_pair hl hok (r7 n n1 n5)).filter (fun m => !P m)
        rw [List.filter_filter] at this
        rwa [List.filter_congr fun m _ => Bool.and_comm (m.level == n) (!P m)]
      rw [List.filter_append, List.pairwise_append]
      refine ⟨hold, ?_, fun a ha b hb => ?_⟩
      · rw [hadd]
        cases hh : m0.level == n <;> simp [hh]
      · rw [hadd] at hb
        obtain ⟨hb1, hb2⟩ := List.mem_filter.mp hb
        have hb1 := List.mem_singleton.mp hb1
        subst hb1
        have hno : n = out := by
          have : b.level = n := by simpa using hb2
          rw [← this, ← hm0]
        obtain ⟨ha1, ha2⟩ := List.mem_filter.mp ha
        rw [hleft] at ha1
        obtain ⟨ha3, ha4⟩ := List.mem_filter.mp ha1
        have halv : a.level = out := by rw [← hno]; simpa using ha2
        have hmiss : missB a (spanL B).1 (spanL B).2 = true := by
          rw [← hP] at ha4
          simp only [Bool.not_eq_true', Bool.or_eq_false_iff, Bool.and_eq_false_iff] at ha4
          rcases ha4.2 with h | h
          · rw [halv] at h; simp at h
          · simpa using h
        have := apart ⟨r1, r2, r3, r4, r5, r6, r7⟩ h0 h1 h5 hB ha3 halv hmiss (spanL In).1 (spanL In).2 ⟨xl, hIn ▸ hxl, el⟩ ⟨xh, hIn ▸ hxh, eh⟩
        rw [← hm0]
        exact this
  refine ⟨?_, ?_⟩
  · unfold applyL
    rw [if_neg, if_pos (of_right hright)]
    rw [hgone]
    have hd : e.del.length = In.length := by rw [← he]; simp
    have e1 : newI e.log v.log = v.log := by rw [← he]; rfl
    have e2 : newI e.next v.next = v.next + 1 := by rw [← he]; exact if_pos (by show v.next + 1 > 0; have := R.next; omega)
    have e3 : newI e.seq v.seq = v.seq := by rw [← he]; rfl
    rw [hd, e1, e2, e3]
    omega
  · rw [hw]
    show (byNum (leftL e.del v.files ++ e.add)).length + In.length = v.files.length + 1
    rw [b2.length_eq]
    exact hlen

end Go.Ax
