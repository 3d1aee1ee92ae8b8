/- The law WalReads is true. -/
import Derived.Test.YtjlipmcdnigfcaaDoorG35
import Derived.Test.YtjlipmcdnigfcaaDoorG36
import Derived.Test.YtjlipmcdnigfcaaDoorG32
import Derived.Test.YtjlipmcdnigfcaaDoorTie
import Derived.Test.YtjlipmcdnigfcaaDoorG12
import Derived.OpenShut
import Derived.WalkKit
import Derived.ProofKit
import Derived.LaidMore
import Derived.LaidLaws
import Derived.LaidHandle
import Derived.Lib.LaidTab
import Derived.Stop.Joined
set_option linter.unusedVariables false
set_option linter.unusedSimpArgs false
set_option linter.unusedSectionVars false
namespace Go.Ax
open Go.Proofs Go.RowKit
set_option maxRecDepth 100000

theorem wname_2 : wname 2 = (⟨#[108, 111, 103, 46, 50]⟩ : ByteArray) := wname_digit (by decide)

/-! ### What the two files hold -/
theorem insF_len' (x : Fil) : ∀ fs : List Fil, (insF x fs).length = fs.length + 1
  | [] => rfl
  | y :: r => by
    unfold insF
    split
    · rfl
    · rw [List.length_cons, insF_len' x r, List.length_cons]
structure Rd (D : Dsk) (xs : List (List UInt8)) : Prop where
  live : Live D
  at_ : ∀ i : Nat, (hi : i < xs.length) → D.cont (wname (1 + i)) = some xs[i]
  no : ∀ n : Int, xs.length < n → n ≤ 1073741824 → D.cont (wname n) = none
  room : D.room = 1048576
  used : D.used ≤ xs.length * 500
  len : D.files.length = xs.length
theorem Rd.step {D : Dsk} {xs : List (List UInt8)} (h : Rd D xs) (hx : xs.length ≤ 5) {c : List UInt8} (hc : c.length ≤ 500) :
    (createD D (wname (1 + xs.length))).2 = 0 ∧ Live (createD D (wname (1 + xs.length))).1 ∧ (appendD (createD D (wname (1 + xs.length))).1 (wname (1 + xs.length)) c).2 = 0 ∧ Rd (appendD (createD D (wname (1 + xs.length))).1 (wname (1 + xs.length)) c).1 (xs ++ [c]) := by
  have hno := h.no (1 + xs.length) (by omega) (by omega)
  obtain ⟨c1, c2, c3, c4, c5⟩ := cont_create h.live (wname_is (n := 1 + xs.length) (by omega)) hno
  have hcc : (createD D (wname (1 + xs.length))).1.cont (wname (1 + xs.length)) = some [] := by rw [c3, if_pos rfl]
  have hu := h.used
  have hr := h.room
  obtain ⟨a1, a2, a3, a4, a5⟩ := cont_append c2 (bs := c) hcc (by omega)
  have hfin : ∀ m, (appendD (createD D (wname (1 + xs.length))).1 (wname (1 + xs.length)) c).1.cont m = if wname (1 + xs.length) = m then some c else D.cont m := fun m => by
    rw [a3, c3]
    split <;> simp
  have hne : ∀ k : Int, 0 ≤ k → k ≠ 1 + xs.length → wname (1 + xs.length) ≠ wname k := fun k hk hne e => hne (wname_inj (by omega) hk e).symm
  have l1 : (createD D (wname (1 + xs.length))).1.files.length = D.files.length + 1 := by
    have hg : D.get (wname (1 + xs.length)) = none := by
      unfold Dsk.cont at hno
      cases hg : D.get (wname (1 + xs.length)) with
      | none => rfl
      | some x => rw [hg] at hno; cases hno
    unfold createD
    rw [wname_is (n := 1 + xs.length) (by omega), if_neg (by decide), if_neg (by simp [h.live.up])]
    simp only [hg]
    rw [h.live.fu, if_neg (by simp [stE0])]
    exact insF_len' _ _
  have l2 : (appendD (createD D (wname (1 + xs.length))).1 (wname (1 + xs.length)) c).1.files.length = (createD D (wname (1 + xs.length))).1.files.length := by
    obtain ⟨x, hg, hb⟩ : ∃ x, (createD D (wname (1 + xs.length))).1.get (wname (1 + xs.length)) = some x ∧ x.b = [] := by
      unfold Dsk.cont at hcc
      cases hg : (createD D (wname (1 + xs.length))).1.get (wname (1 + xs.length)) with
      | none => rw [hg] at hcc; cases hcc
      | some x => rw [hg] at hcc; exact ⟨x, rfl, Option.some.inj hcc⟩
    unfold appendD
    rw [if_neg (by simp [c2.up])]
    simp only [hg]
    rw [if_neg (by omega), c2.fu, if_neg (by simp [stE0])]
    simp [repF]
  refine ⟨c1, c2, a1, a2, fun i hi => ?_, fun n hn hm => ?_, a5.trans (c5.trans hr), ?_, ?_⟩
  · rw [List.length_append, List.length_singleton] at hi
    rw [hfin]
    rcases Nat.lt_or_ge i xs.length with h1 | h1
    · rw [if_neg (hne _ (by omega) (by omega)), h.at_ i h1, List.getElem_append_left h1]
    · obtain rfl : i = xs.length := by omega
      rw [if_pos rfl]; simp
  · rw [List.length_append, List.length_singleton] at hn
    rw [hfin, if_neg (hne _ (by omega) (by omega))]
    exact h.no n (by omega) hm
  · rw [a4, c4, List.length_append, List.length_singleton]; omega
  · rw [l2, l1, h.len, List.length_append, List.length_singleton]
theorem Rd.new : Rd (newD 1048576) [] := ⟨live_new, fun i hi => absurd hi (by simp), fun _ _ _ => rfl, rfl, Int.le_refl _, rfl⟩
theorem Rd.read {D : Dsk} {xs : List (List UInt8)} (h : Rd D xs) {i : Nat} (hi : i < xs.length) (hl : xs[i].length ≤ 500) : readD D (wname (1 + i)) 0 1000 = (xs[i], 0) := by
  have hc := h.at_ i hi
  obtain ⟨x, hg, hb⟩ : ∃ x, D.get (wname (1 + i)) = some x ∧ x.b = xs[i] := by
    unfold Dsk.cont at hc
    cases hg : D.get (wname (1 + i)) with
    | none => rw [hg] at hc; cases hc
    | some x => rw [hg] at hc; exact ⟨x, rfl, Option.some.inj hc⟩
  unfold readD
  rw [if_neg (by simp [h.live.up])]
  simp only [hg]
  rw [hb, if_neg (by omega)]
  simp only [Int.toNat_zero, List.drop_zero]
  rw [List.take_of_length_le (by omega)]

/-! ### What the law takes out of them -/
def lawR (frm : Int) : List (List UInt8) → Int → List ByteArray → Option (List ByteArray)
  | [], _, got => some got
  | b :: r, i, got => if i + 1 < frm then lawR frm r (i + 1) got else if (allI b).2.2 ≠ 0 then none else if (allI b).1.length = 0 then some got else lawR frm r (i + 1) (got ++ ((allI b).1.drop 1).map toB)

theorem open_law {D : Dsk} {frm : Int} : ∀ (xs : List (List UInt8)) (f : Nat) (n p g : Int) (out : List ByteArray), (∀ i : Nat, (hi : i < xs.length) → D.cont (wname (n + i)) = some xs[i]) → D.cont (wname (n + xs.length)) = none → (∀ x ∈ xs, x.length ≤ 500) → xs.length < f → frm ≤ n → 1 ≤ n → n + xs.length ≤ 1073741824 → (0 ≤ p ∧ p ≤ 1073741824) → (0 ≤ g ∧ g ≤ 1073741824) →
    ∃ res, openA D frm f n p g out = some res ∧ (res.1 = 12 ∨ (res.1 = 0 ∧ lawR frm xs (n - 1) out = some res.2.2.2 ∧ (0 ≤ res.2.1 ∧ res.2.1 ≤ 1073741824) ∧ (0 ≤ res.2.2.1 ∧ res.2.2.1 ≤ 1073741824) ∧ res.2.2.2.length ≤ out.length + xs.length * 500))
  | [], f, n, p, g, out, _, hno, _, hf, _, _, hn, hp, hg => by
    cases f with
    | zero => simp at hf
    | succ f =>
      simp only [List.length_nil, Int.natCast_zero, Int.add_zero] at hno hn
      refine ⟨(0, p, g, out), ?_, .inr ⟨rfl, rfl, hp, hg, by simp⟩⟩
      rw [openA, if_neg (by omega), cont_readN hno, if_pos rfl]
  | x :: xs, f, n, p, g, out, hat, hno, hl, hf, hfr, h1, hn, hp, hg => by
    cases f with
    | zero => simp at hf
    | succ f =>
      simp only [List.length_cons] at hf hn hno
      have h0 := hat 0 (by simp)
      simp only [Int.natCast_zero, Int.add_zero, List.getElem_cons_zero] at h0
      have hr := cont_read h0
      obtain ⟨f1, f2, f3, f4⟩ := allI_facts x
      have hx := hl x (by simp)
      have hlaw : lawR frm (x :: xs) (n - 1) out = if (allI x).2.2 ≠ 0 then none else if (allI x).1.length = 0 then some out else lawR frm xs (n - 1 + 1) (out ++ ((allI x).1.drop 1).map toB) := by
        rw [lawR, if_neg (by omega)]
      rcases f4 with f4 | f4
      · by_cases hnil : (allI x).1 = []
        · refine ⟨(0, p, g, out), ?_, .inr ⟨rfl, ?_, hp, hg, by simp⟩⟩
          · rw [openA, if_neg (by omega), hr, f4, if_neg (by decide), if_neg (by decide), hnil, if_neg (by decide), if_pos (by decide)]
          · rw [hlaw, f4, if_neg (by decide), hnil, if_pos (by simp)]
        · obtain ⟨y, ys, hy⟩ := List.exists_cons_of_ne_nil hnil
          by_cases hbad : (getI y).2.2 ≠ 0 ∨ (getI y).2.1 ≠ y.length ∨ (getI y).1 > 67108864
          · have hpa : parseI (allI x).1 = (0, false, 12) := by rw [hy]; exact if_pos hbad
            refine ⟨(12, 0, 0, []), ?_, .inl rfl⟩
            rw [openA, if_neg (by omega), hr, f4, if_neg (by decide), if_neg (by decide), hpa, if_pos (by decide)]
          · have hpa : parseI (allI x).1 = ((getI y).1, true, 0) := by rw [hy]; exact if_neg hbad
            by_cases hq : frm < n ∧ (getI y).1 ≠ g
            · refine ⟨(12, 0, 0, []), ?_, .inl rfl⟩
              rw [openA, if_neg (by omega), hr, f4, if_neg (by decide), if_neg (by decide), hpa, if_neg (by simp), if_neg (by simp), if_pos hq]
            · obtain ⟨res, e, hres⟩ := open_law (D := D) (frm := frm) xs f (n + 1) n (allI x).2.1 (out ++ ((allI x).1.drop 1).map toB) (fun i hi => by
                have := hat (i + 1) (by simpa using hi)
                rw [show n + 1 + (i : Int) = n + ((i + 1 : Nat) : Int) by omega]
                simpa using this) (by rw [show n + 1 + (xs.length : Int) = n + ((xs.length + 1 : Nat) : Int) by omega]; exact hno) (fun z hz => hl z (by simp [hz])) (by omega) (by omega) (by omega) (by omega) (by omega) (by omega)
              refine ⟨res, ?_, hres.imp id fun ⟨r1, r2, r3, r4, r5⟩ => ⟨r1, ?_, r3, r4, ?_⟩⟩
              · rw [openA, if_neg (by omega), hr, f4, if_neg (by decide), if_neg (by decide), hpa, if_neg (by simp), if_neg (by simp), if_neg hq, e]
              · rw [hlaw, f4, if_neg (by decide), if_neg (by rw [hy]; simp), show n - 1 + 1 = n + 1 - 1 by omega, r2]
              · simp only [List.length_append, List.length_map, List.length_drop] at r5
                simp only [List.length_cons]
                omega
      · refine ⟨(12, 0, 0, []), ?_, .inl rfl⟩
        rw [openA, if_neg (by omega), hr, f4, if_neg (by decide), if_pos (by decide)]

/-- The two files: what opening tells. -/
theorem reads_open {D : Dsk} {one two : List UInt8} (h : Rd D [one, two]) (h1 : one.length ≤ 500) (h2 : two.length ≤ 500) {frm : Int} (hf : 1 ≤ frm ∧ frm ≤ 1073741824) :
    ∃ res, openA D frm 10 frm 0 0 [] = some res ∧ (res.1 = 12 ∨ (res.1 = 0 ∧ lawR frm [one, two] 0 [] = some res.2.2.2 ∧ (0 ≤ res.2.1 ∧ res.2.1 ≤ 1073741824) ∧ (0 ≤ res.2.2.1 ∧ res.2.2.1 ≤ 1073741824) ∧ res.2.2.2.length ≤ 1000)) := by
  have hl : ∀ x ∈ [one, two], x.length ≤ 500 := fun x hx => by
    rcases List.mem_cons.1 hx with rfl | hx
    · exact h1
    · rw [List.mem_singleton.1 hx]; exact h2
  rcases (by omega : frm = 1 ∨ frm = 2 ∨ 3 ≤ frm) with rfl | rfl | h3
  · obtain ⟨res, e, hres⟩ := open_law (D := D) (frm := 1) [one, two] 10 1 0 0 [] h.at_ (h.no _ (by simp) (by simp)) hl (by simp) (by omega) (by omega) (by simp) (by omega) (by omega)
    exact ⟨res, e, hres.imp id fun ⟨r1, r2, r3, r4, r5⟩ => ⟨r1, r2, r3, r4, by simpa using r5⟩⟩
  · obtain ⟨res, e, hres⟩ := open_law (D := D) (frm := 2) [two] 10 2 0 0 [] (fun i hi => by
      obtain rfl : i = 0 := by simpa using hi
      exact h.at_ 1 (by simp)) (h.no 3 (by simp) (by omega)) (fun x hx => hl x (by simp [List.mem_singleton.1 hx])) (by simp) (by omega) (by omega) (by simp) (by omega) (by omega)
    exact ⟨res, e, hres.imp id fun ⟨r1, r2, r3, r4, r5⟩ => ⟨r1, by rw [lawR, if_pos (by omega)]; exact r2, r3, r4, by simp at r5; omega⟩⟩
  · obtain ⟨res, e, hres⟩ := open_law (D := D) (frm := frm) [] 10 frm 0 0 [] (fun i hi => absurd hi (by simp)) (by simpa using h.no frm (by simp; omega) (by omega)) (fun x hx => absurd hx (by simp)) (by simp) (by omega) (by omega) (by simpa using hf.2) (by omega) (by omega)
    exact ⟨res, e, hres.imp id fun ⟨r1, r2, r3, r4, r5⟩ => ⟨r1, by rw [lawR, if_pos (by omega), lawR, if_pos (by omega)]; exact r2, r3, r4, by simp at r5; simp [r5]⟩⟩

/-! ### The loops -/
section
variable {one two : List UInt8} {frm p g : Int} {out : List ByteArray} {x1 : Dsk}
theorem reads3 {s2 : List ByteArray × Int} {e2 : List UInt8} (hl : (cutL (some 1) none (allI e2).1).length ≤ 1000000) : ∀ (j i : Nat) (got : List ByteArray), i + j = (cutL (some 1) none (allI e2).1).length → ((got.length + j : Nat) : Int) ≤ 1000000000 →
    Rounds (TReads_l3_e one two frm p g out x1 s2 e2) (TReads_l3_x one two frm p g out x1 s2) noX (fun s => (TReads_l3_b one two frm p g out x1 s2 e2 s).wp) (got, (i : Int)) (.inl (got ++ ((cutL (some 1) none (allI e2).1).drop i).map toB)) := by
  intro j
  induction j with
  | zero =>
    intro i got hi ho
    refine .done (by intro e; cases e) ?_
    unfold TReads_l3_b
    refine wp_sp (fun h' => absurd (of_decide_eq_true h') (by simp only; omega)) (fun _ => wp_leaf rfl ⟨rfl, ?_⟩)
    rw [List.drop_of_length_le (by omega), List.map_nil, List.append_nil]
  | succ j ih =>
    intro i got hi ho
    have hlt : i < (cutL (some 1) none (allI e2).1).length := by omega
    have hr := ih (i + 1) (got ++ [toB ((cutL (some 1) none (allI e2).1)[i])]) (by omega) (by simp only [List.length_append, List.length_singleton]; omega)
    rw [List.append_assoc] at hr
    rw [List.drop_eq_getElem_cons hlt, List.map_cons]
    refine .next ?_ hr
    unfold TReads_l3_b
    exact wp_sp (fun _ => wp_elem _ (by simp only; omega) (List.getElem?_eq_getElem hlt) ⟨rfl, wp_app ⟨rfl, rfl⟩ rfl (by simp only [List.length_append, List.length_singleton]; omega) (wp_i64 (by simp only; omega) (wp_leaf rfl ⟨rfl, rfl⟩))⟩) (fun h' => absurd (of_decide_eq_false h') (by simp only; omega))
theorem reads2 (h1 : one.length ≤ 500) (h2 : two.length ≤ 500) (hf : 1 ≤ frm ∧ frm ≤ 1073741824) : ∀ (j i : Nat) (got exp : List ByteArray), i + j = 2 → got.length ≤ i * 500 → lawR frm ([one, two].drop i) i got = some exp →
    Rounds (TReads_l2_e one two frm p g out x1) TReads_l2_x (TReads_l2_x' p g out x1) (fun s => (TReads_l2_b one two frm p g out x1 s).wp) (got, (i : Int)) (.inr exp) := by
  intro j
  induction j with
  | zero =>
    intro i got exp hi hg hw
    obtain rfl : i = 2 := by omega
    obtain rfl : got = exp := Option.some.inj hw
    refine .done' (by intro e; cases e) ?_
    unfold TReads_l2_b
    exact wp_sp (fun h' => absurd (of_decide_eq_true h') (by simp)) (fun _ => wp_leaf rfl ⟨rfl, rfl⟩)
  | succ j ih =>
    intro i got exp hi hg hw
    obtain ⟨b, hb, hd, hbl⟩ : ∃ b, [one, two][i]? = some b ∧ [one, two].drop i = b :: [one, two].drop (i + 1) ∧ b.length ≤ 500 := by
      rcases (by omega : i = 0 ∨ i = 1) with rfl | rfl
      · exact ⟨one, rfl, rfl, h1⟩
      · exact ⟨two, rfl, rfl, h2⟩
    obtain ⟨f1, f2, f3, f4⟩ := allI_facts b
    rw [hd, lawR] at hw
    have ei : ((i + 1 : Nat) : Int) = (i : Int) + 1 := by omega
    by_cases hlt : (i : Int) + 1 < frm
    · rw [if_pos hlt] at hw
      have hr := ih (i + 1) got exp (by omega) (by omega) (by rw [ei]; exact hw)
      rw [ei] at hr
      refine .next ?_ hr
      unfold TReads_l2_b
      exact wp_sp (fun _ => wp_ridx (by simp only; omega) (by simp only [List.length_cons, List.length_nil]; omega) (wp_rload b (by simp only; omega) (by rfl) (by simpa using hb) (wp_i64 (by simp only; omega) (wp_sp (fun _ => wp_i64 (by simp only; omega) (wp_leaf rfl ⟨rfl, rfl⟩)) (fun h' => absurd (of_decide_eq_false h') (by simp only; omega)))))) (fun h' => absurd (of_decide_eq_false h') (by simp only [List.length_cons, List.length_nil]; omega))
    · rw [if_neg hlt] at hw
      by_cases he : (allI b).2.2 ≠ 0
      · rw [if_pos he] at hw; cases hw
      · rw [if_neg he] at hw
        have he : (allI b).2.2 = 0 := by omega
        by_cases hz : (allI b).1.length = 0
        · rw [if_pos hz] at hw
          obtain rfl : got = exp := Option.some.inj hw
          refine .done' (by intro e; cases e) ?_
          unfold TReads_l2_b
          exact wp_sp (fun _ => wp_ridx (by simp only; omega) (by simp only [List.length_cons, List.length_nil]; omega) (wp_rload b (by simp only; omega) (by rfl) (by simpa using hb) (wp_i64 (by simp only; omega) (wp_sp (fun h' => absurd (of_decide_eq_true h') (by simp only; omega)) (fun _ => wp_call (gAll_eq (by omega)) (wp_sp (fun h' => absurd h' (by rw [he]; decide)) (fun _ => wp_len (wp_sp (fun _ => wp_leaf rfl ⟨rfl, rfl⟩) (fun h' => absurd h' (by rw [hz]; decide)))))))))) (fun h' => absurd (of_decide_eq_false h') (by simp only [List.length_cons, List.length_nil]; omega))
        · rw [if_neg hz] at hw
          have hr := ih (i + 1) (got ++ ((allI b).1.drop 1).map toB) exp (by omega) (by simp only [List.length_append, List.length_map, List.length_drop]; omega) (by rw [ei]; exact hw)
          rw [ei] at hr
          have hcl : (cutL (some 1) none (allI b).1).length ≤ 1000000 := by
            show ((allI b).1.drop 1).length ≤ _
            rw [List.length_drop]; omega
          have h3 := reads3 (one := one) (two := two) (frm := frm) (p := p) (g := g) (out := out) (x1 := x1) (s2 := (got, (i : Int))) (e2 := b) hcl (cutL (some 1) none (allI b).1).length 0 got (by omega) (by omega)
          refine .next ?_ hr
          unfold TReads_l2_b
          exact wp_sp (fun _ => wp_ridx (by simp only; omega) (by simp only [List.length_cons, List.length_nil]; omega) (wp_rload b (by simp only; omega) (by rfl) (by simpa using hb) (wp_i64 (by simp only; omega) (wp_sp (fun h' => absurd (of_decide_eq_true h') (by simp only; omega)) (fun _ => wp_call (gAll_eq (by omega)) (wp_sp (fun h' => absurd h' (by rw [he]; decide)) (fun _ => wp_len (wp_sp (fun h' => absurd h' (by simpa using hz)) (fun _ => wp_cut (by simp only [cutOk]; omega) (wp_len (wp_loop _ rfl h3 (wp_i64 (by simp only; omega) (wp_leaf rfl ⟨rfl, rfl⟩))))))))))))) (fun h' => absurd (of_decide_eq_false h') (by simp only [List.length_cons, List.length_nil]; omega))
end
end Go.Ax

namespace Go.Ax
open Go.Proofs Go.RowKit
set_option maxRecDepth 100000

def fileD (D : Dsk) (k : Nat) (c : List UInt8) : Dsk := (appendD (createD D (wname (1 + k))).1 (wname (1 + k)) c).1
def filesD (one two : List UInt8) : Dsk := fileD (fileD (newD 1048576) 0 one) 1 two

theorem TReads_step {one two : List UInt8} {frm : Int} {D : Dsk} {xs : List (List UInt8)} {i : Nat} {c : List UInt8} (h : Rd D xs) (hi : i = xs.length) (hx : i < 2) (hc : [one, two][i]? = some c) (hl : c.length ≤ 500) :
    Rd (fileD D i c) (xs ++ [c]) ∧ (TReads_l1_b one two frm (D, (i : Int))).wp (fun e s => e = .normal ∧ s = TReads_l1_e one two frm (fileD D i c, (i : Int) + 1)) := by
  subst hi
  obtain ⟨c1, l1, a1, r1⟩ := h.step (by omega) hl
  refine ⟨r1, ?_⟩
  have cc := fun (B : List Box) (hb : B[0]? = some (dkB D)) => oCreate (nm := wname (1 + xs.length)) (b := 0) h.live.ok (by have := isName_size (wname_is (n := 1 + (xs.length : Int)) (by omega)); omega) hb
  have ca := fun (B : List Box) (hb : B[0]? = some (dkB (createD D (wname (1 + xs.length))).1)) => oAppend (nm := wname (1 + xs.length)) (bs := c) (b := 0) l1.ok (by omega) hb
  rw [c1] at cc
  rw [a1] at ca
  unfold TReads_l1_b
  exact wp_sp (fun _ => wp_ridx (by simp only; omega) (by simp only [List.length_cons, List.length_nil]; omega) (wp_rload c (by simp only; omega) (by rfl) (by simpa using hc) (wp_i64 (by simp only; omega) (wp_call (gNameW_eq (by simp only; omega)) (wp_callr (cc _ rfl) (wp_i64 (by simp only; omega) (wp_call (gNameW_eq (by simp only; omega)) (wp_callr (ca _ rfl) (wp_i64 (by simp only; omega) (wp_leaf rfl ⟨rfl, rfl⟩)))))))))) (fun h' => absurd (of_decide_eq_false h') (by simp only [List.length_cons, List.length_nil]; omega))
theorem TReads_1 {one two : List UInt8} {frm : Int} (h1 : one.length ≤ 500) (h2 : two.length ≤ 500) :
    Rd (filesD one two) [one, two] ∧ Rounds (TReads_l1_e one two frm) (TReads_l1_x one two frm) noX (fun s => (TReads_l1_b one two frm s).wp) (newD 1048576, 0) (.inl (filesD one two)) := by
  obtain ⟨r1, b1⟩ := TReads_step (one := one) (two := two) (frm := frm) .new (i := 0) rfl (by decide) rfl h1
  obtain ⟨r2, b2⟩ := TReads_step (one := one) (two := two) (frm := frm) r1 (i := 1) rfl (by decide) rfl h2
  refine ⟨r2, .next b1 (.next b2 (.done (by intro e; cases e) ?_))⟩
  unfold TReads_l1_b
  exact wp_sp (fun h' => absurd (of_decide_eq_true h') (by simp)) (fun _ => wp_leaf rfl ⟨rfl, rfl⟩)

theorem TReadsF_step {one two : List UInt8} {frm : Int} {D : Dsk} {xs : List (List UInt8)} {i : Nat} {c : List UInt8} (h : Rd D xs) (hi : i = xs.length) (hx : i < 2) (hc : [one, two][i]? = some c) (hl : c.length ≤ 500) :
    Rd (fileD D i c) (xs ++ [c]) ∧ (TReadsF_l1_b one two frm (D, (i : Int))).wp (fun e s => e = .normal ∧ s = TReadsF_l1_e one two frm (fileD D i c, (i : Int) + 1)) := by
  subst hi
  obtain ⟨c1, l1, a1, r1⟩ := h.step (by omega) hl
  refine ⟨r1, ?_⟩
  have cc := fun (B : List Box) (hb : B[0]? = some (dkB D)) => oCreate (nm := wname (1 + xs.length)) (b := 0) h.live.ok (by have := isName_size (wname_is (n := 1 + (xs.length : Int)) (by omega)); omega) hb
  have ca := fun (B : List Box) (hb : B[0]? = some (dkB (createD D (wname (1 + xs.length))).1)) => oAppend (nm := wname (1 + xs.length)) (bs := c) (b := 0) l1.ok (by omega) hb
  rw [c1] at cc
  rw [a1] at ca
  unfold TReadsF_l1_b
  exact wp_sp (fun _ => wp_ridx (by simp only; omega) (by simp only [List.length_cons, List.length_nil]; omega) (wp_rload c (by simp only; omega) (by rfl) (by simpa using hc) (wp_i64 (by simp only; omega) (wp_call (gNameW_eq (by simp only; omega)) (wp_callr (cc _ rfl) (wp_i64 (by simp only; omega) (wp_call (gNameW_eq (by simp only; omega)) (wp_callr (ca _ rfl) (wp_i64 (by simp only; omega) (wp_leaf rfl ⟨rfl, rfl⟩)))))))))) (fun h' => absurd (of_decide_eq_false h') (by simp only [List.length_cons, List.length_nil]; omega))
theorem TReadsF_1 {one two : List UInt8} {frm : Int} (h1 : one.length ≤ 500) (h2 : two.length ≤ 500) :
    Rd (filesD one two) [one, two] ∧ Rounds (TReadsF_l1_e one two frm) (TReadsF_l1_x one two frm) noX (fun s => (TReadsF_l1_b one two frm s).wp) (newD 1048576, 0) (.inl (filesD one two)) := by
  obtain ⟨r1, b1⟩ := TReadsF_step (one := one) (two := two) (frm := frm) .new (i := 0) rfl (by decide) rfl h1
  obtain ⟨r2, b2⟩ := TReadsF_step (one := one) (two := two) (frm := frm) r1 (i := 1) rfl (by decide) rfl h2
  refine ⟨r2, .next b1 (.next b2 (.done (by intro e; cases e) ?_))⟩
  unfold TReadsF_l1_b
  exact wp_sp (fun h' => absurd (of_decide_eq_true h') (by simp)) (fun _ => wp_leaf rfl ⟨rfl, rfl⟩)

theorem Rd.list {D : Dsk} {xs : List (List UInt8)} (h : Rd D xs) : (listD D).length = xs.length := by
  unfold listD
  rw [if_neg (by simp [h.live.up]), List.length_map, h.len]

section
variable {one two : List UInt8} {frm : Int} {D : Dsk} {B : List Box}
theorem Rd.r1 (h : Rd D [one, two]) (h1 : one.length ≤ 500) (hb : B[0]? = some (dkB D)) : liftR ORead [.op 0, vs (⟨#[108, 111, 103, 46, 49]⟩ : ByteArray), vi 0, vi 1000] B (.tup [.rs B.length 0 1 0 one.length, vi 0]) (B ++ [byteE.bx 0 one]) := by
  have q : readD D (wname 1) 0 1000 = (one, 0) := h.read (i := 0) (by simp) h1
  have := oRead (nm := wname 1) (ofs := 0) (n := 1000) (b := 0) h.live.ok hb
  rw [q, wname_1] at this
  exact this
theorem Rd.r2 (h : Rd D [one, two]) (h2 : two.length ≤ 500) (hb : B[0]? = some (dkB D)) : liftR ORead [.op 0, vs (⟨#[108, 111, 103, 46, 50]⟩ : ByteArray), vi 0, vi 1000] B (.tup [.rs B.length 0 1 0 two.length, vi 0]) (B ++ [byteE.bx 0 two]) := by
  have q : readD D (wname 2) 0 1000 = (two, 0) := h.read (i := 1) (by simp) h2
  have := oRead (nm := wname 2) (ofs := 0) (n := 1000) (b := 0) h.live.ok hb
  rw [q, wname_2] at this
  exact this
end

def RWalReads : List AV → AV → Prop := fun args r => ∃ (one two : List UInt8) (frm : Int), (-9223372036854775808 ≤ frm ∧ frm ≤ 9223372036854775807) ∧ args = [vl (one.map byteE.f), vl (two.map byteE.f), vi frm] ∧ r = vb true
theorem SWalReads : SoundF DP iWalReads (.pure (relG RWalReads)) := sound_pureT mixedD Γ8_ok Δ8_ok hfWalReads heWalReads hbWalReads (by
  rintro args r ⟨one, two, frm, hw, rfl, rfl⟩
  by_cases h1 : one.length > 500
  · refine ⟨rfl, rfl, _, TReads_chk one two frm 0 0 [] [], ?_⟩
    unfold TReads
    exact wp_call gHeadL_eq (wp_len (wp_sp (fun _ => wp_leaf rfl (.p _)) (fun h => absurd (of_decide_eq_false h) (by omega))))
  by_cases h2 : two.length > 500
  · refine ⟨rfl, rfl, _, TReads_chk one two frm 0 0 [] [], ?_⟩
    unfold TReads
    exact wp_call gHeadL_eq (wp_len (wp_sp (fun _ => wp_leaf rfl (.p _)) (fun _ => wp_len (wp_sp (fun _ => wp_leaf rfl (.p _)) (fun h => absurd (of_decide_eq_false h) (by omega))))))
  have h1 : one.length ≤ 500 := by omega
  have h2 : two.length ≤ 500 := by omega
  have hfail : ∀ e : Int, (∀ B : List Box, B[0]? = some (dkB (filesD one two)) → Δ8 iOpen [.op 0, vi frm] B (.tup [nilP, nilS, vi e]) B) → (e = 1 ∧ ¬ (1 ≤ frm ∧ frm ≤ 1073741824)) ∨ (e = 12 ∧ 1 ≤ frm ∧ frm ≤ 1073741824) → PureT DP Γ8 Δ8 nWalReads [vl (one.map byteE.f), vl (two.map byteE.f), vi frm] (vb true) := by
    intro e ho he
    obtain ⟨r, hD⟩ := TReadsF_1 (frm := frm) h1 h2
    refine ⟨rfl, rfl, _, TReadsF_chk one two frm e (listD (filesD one two)), ?_⟩
    unfold TReadsF
    refine wp_call gHeadL_eq (wp_len (wp_sp (fun h => absurd (of_decide_eq_true h) (by omega)) (fun _ => wp_len (wp_sp (fun h => absurd (of_decide_eq_true h) (by omega)) (fun _ => wp_callr (oNew _) (wp_loop _ rfl hD ?_))))))
    refine wp_callr (ho _ rfl) (wp_callr (r.r1 h1 rfl) (wp_callr (r.r2 h2 rfl) ⟨rfl, rfl, rfl, wp_sp (fun h => absurd h (by simp)) (fun _ => ⟨rfl, rfl, rfl, wp_sp (fun h => absurd h (by simp)) (fun _ => ?_)⟩)⟩))
    refine wp_callr (oList r.live.ok (by rw [r.len]; simp) rfl) (wp_len (wp_sp (fun h => absurd h (by rw [r.list]; simp)) (fun _ => ?_)))
    rcases he with ⟨rfl, hn⟩ | ⟨rfl, hn⟩
    · exact wp_sp (fun _ => wp_sp (fun _ => wp_leaf rfl (.p _)) (fun h => absurd h (by decide))) (fun hf1 => wp_sp (fun _ => wp_sp (fun _ => wp_leaf rfl (.p _)) (fun h => absurd h (by decide))) (fun hf2 => absurd (of_decide_eq_false hf2) (by have := of_decide_eq_false hf1; omega)))
    · exact wp_sp (fun h => absurd (of_decide_eq_true h) (by omega)) (fun _ => wp_sp (fun h => absurd (of_decide_eq_true h) (by omega)) (fun _ => wp_sp (fun _ => wp_sp (fun _ => wp_leaf rfl (.p _)) (fun h => absurd h (by decide))) (fun h => absurd h (by decide))))
  by_cases hf : 1 ≤ frm ∧ frm ≤ 1073741824
  · obtain ⟨r, hD⟩ := TReads_1 (frm := frm) h1 h2
    obtain ⟨⟨e, p, g, out⟩, hop, he | ⟨he, hlaw, hp, hg, hol⟩⟩ := reads_open r h1 h2 hf
    · obtain rfl : e = 12 := he
      exact hfail 12 (fun B hb => .inl (oOpenF r.live.ok r.live.up hf hop (by simp) hb)) (.inr ⟨rfl, hf⟩)
    · obtain rfl : e = 0 := he
      change 0 ≤ p ∧ p ≤ 1073741824 at hp
      change 0 ≤ g ∧ g ≤ 1073741824 at hg
      change out.length ≤ 1000 at hol
      refine ⟨rfl, rfl, _, TReads_chk one two frm p g out (listD (filesD one two)), ?_⟩
      unfold TReads
      refine wp_call gHeadL_eq (wp_len (wp_sp (fun h => absurd (of_decide_eq_true h) (by omega)) (fun _ => wp_len (wp_sp (fun h => absurd (of_decide_eq_true h) (by omega)) (fun _ => wp_callr (oNew _) (wp_loop _ rfl hD ?_))))))
      refine wp_callr (.inl (oOpen r.live.ok r.live.up hf hop rfl)) (wp_callr (r.r1 h1 rfl) (wp_callr (r.r2 h2 rfl) ⟨rfl, rfl, rfl, wp_sp (fun h => absurd h (by simp)) (fun _ => ⟨rfl, rfl, rfl, wp_sp (fun h => absurd h (by simp)) (fun _ => ?_)⟩)⟩))
      refine wp_callr (oList r.live.ok (by rw [r.len]; simp) rfl) (wp_len (wp_sp (fun h => absurd h (by rw [r.list]; simp)) (fun _ => wp_sp (fun h => absurd (of_decide_eq_true h) (by omega)) (fun _ => wp_sp (fun h => absurd (of_decide_eq_true h) (by omega)) (fun _ => ?_)))))
      have b1 := fun (B : List Box) (k kb : Nat) (hk : B[k]? = some (nameE.bx 0 out)) (ha : B[kb]? = some (nameE.bx 0 out)) (hne : k ≠ kb) => oBegS (m := (out.length : Int)) (by omega) hk ha hne
      simp only [begB_self] at b1
      exact wp_loop' _ rfl (reads2 h1 h2 hf 2 0 [] out rfl (by simp) hlaw) (wp_callr (b1 _ 1 2 rfl rfl (by decide)) (wp_callr (.inl (oOpened (b := 3) rfl rfl)) (wp_callr (.inl (oAddF (b := 3) r.live.ok hp (by omega) (by decide) rfl rfl)) (wp_leaf rfl (.p _)))))
  · exact hfail 1 (fun B hb => .inl (oOpenA (TReads_1 (frm := frm) h1 h2).1.live.ok (TReads_1 (frm := frm) h1 h2).1.live.up hw (by omega) hb)) (.inl ⟨rfl, hf⟩))
end Go.Ax

namespace Go.Ax
open Go.Proofs Go.ChangeShapes Go.WideShapes Go.ChangeAt Go.RowKit
set_option maxRecDepth 100000

theorem tabRel {W : World} {g : Nat} {us : Array Value} {e : TypeId} {fr : Nat × Nat} (hh : W.heap[g]? = some (.cells us e fr)) (hu : us.toList.map PV.v = Glob.tab g) : ∀ ρ, GRel noF [] ρ W g := fun ρ => by
  have hl : (Glob.tab g).length = us.toList.length := by rw [← hu]; simp
  refine ⟨.rp _ ⟨g, 0, none⟩ us.toList rfl not_own (Array.getElem?_eq_some_iff.1 hh).1 hl (fun j u hj => ?_) (fun j p u hp hv => ?_), us, e, fr, hh, by rw [hl]; simp⟩
  · rw [Addr.add_lit, Nat.zero_add, cell_of hh]
    simpa using hj
  · rw [← hu, List.getElem?_map, hv] at hp
    cases hp
    exact .v _

theorem var_block {P : Program} {W : World} {n : String} {g : Nat} {cs : Array Value} (hg : P.globalNamed n = some g) (h : W.var? P n = some cs) : ∃ e fr, W.heap[g]? = some (.cells cs e fr) := by
  unfold World.var? at h
  rw [hg, Option.bind_some] at h
  split at h
  · rename_i cs' e fr hc
    cases h
    exact ⟨e, fr, hc⟩
  · cases h

abbrev laid4 : List (String × DataW Unit) := [("math/bits.deBruijn32tab", YtjlipmcdnigfcaaDoor.Rows.laid_math_bits_deBruijn32tab), ("math/bits.deBruijn64tab", YtjlipmcdnigfcaaDoor.Rows.laid_math_bits_deBruijn64tab), ("internal/strconv.uint64pow10", YtjlipmcdnigfcaaDoor.Rows.laid_internal_strconv_uint64pow10), ("tailrace/crc.halves", YtjlipmcdnigfcaaDoor.Rows.laid_tailrace_crc_halves)]

theorem gHalves : DP.globalNamed "tailrace/crc.halves" = some 0 := by kernel_rfl
theorem gPow : DP.globalNamed "internal/strconv.uint64pow10" = some 3 := by kernel_rfl
theorem tHalves : (DP.globals[0]?).map (·.type) = some 169 := by kernel_rfl

theorem tPow : (DP.globals[3]?).map (·.type) = some 188 := by kernel_rfl

theorem globW_of {W : World} (h : laidMetH DP laid4 W) : GlobW W := by
  rw [MakeChecks.laidMetH_plain _ _ _ (by kernel_rfl)] at h
  obtain ⟨ps, ⟨g0, t0, cs0, f0, p0, q0, hg0, ht0, hv0, hd0, ⟨g1, t1, cs1, f1, p1, q1, hg1, ht1, hv1, hd1, ⟨g2, t2, cs2, f2, p2, q2, hg2, ht2, hv2, hd2, ⟨g3, t3, cs3, f3, p3, q3, hg3, ht3, hv3, hd3, _, _⟩, _⟩, _⟩, _⟩, _, _⟩ := h
  obtain rfl := Option.some.inj (gPow.symm.trans hg2)
  obtain rfl := Option.some.inj (gHalves.symm.trans hg3)
  obtain rfl := Option.some.inj (tPow.symm.trans ht2)
  obtain rfl := Option.some.inj (tHalves.symm.trans ht3)
  have c2 := Lib.cells_of_tab (k := .u64) (zs := Lib.pow10Tab) (n := 20) (e := 46) (by kernel_rfl) (by kernel_rfl) (by kernel_rfl) (by kernel_rfl) hd2
  have c3 := Lib.cells_of_tab (k := .u32) (zs := halvesL) (n := 16) (e := 137) (by kernel_rfl) (by kernel_rfl) (by kernel_rfl) (by kernel_rfl) hd3
  obtain ⟨e2, r2, b2⟩ := var_block hg2 hv2
  obtain ⟨e3, r3, b3⟩ := var_block hg3 hv3
  intro g hg
  match g with
  | 0 => exact tabRel b3 (by rw [c3]; rfl)
  | 3 => exact tabRel b2 (by rw [c2]; rfl)
  | 1 => exact absurd rfl hg
  | 2 => exact absurd rfl hg
  | g + 4 => exact absurd rfl hg

/-- The heap that the program's own start leaves meets the condition. -/
theorem door4 (os : Os) (args : Array Value) : laidMetH DP laid4 ((World.doorLaid DP 67 os).forCall (fun _ _ => 0) ⟨#[], args, []⟩).memory :=
  laidMetH_of_parts3 (fuel := 8) (laidMet_of_run' 8 (by kernel_rfl) (by kernel_rfl)) (by kernel_rfl) (by kernel_rfl)

section
variable {H : Type} {enc : TypeId × Value → H} {w : World} {base : Nat} {spare : Nat → Bool} {held : Bool} {O : Nat → Prop}
theorem in_u8 (n : Nat) (cs' : List Value) (y : DataW H × List MemPlace) {t : TypeId} (ht : DP.underlying t = some (.int .u8)) (h : DataW.trod enc DP w base spare held n t cs' = some y) :
    ∃ a : UInt8, True ∧ cs'.length = 1 ∧ ∀ (r : Nat) (p : PV) (u : Value), (byteE.f a).cells[r]? = some p → cs'[r]? = some u → PRel O w p u := by
  obtain ⟨s, rfl, _, hw⟩ := DataW.trod_int ht h
  have hb : 0 ≤ s ∧ s < 256 := by
    simp only [Lit.wf, Bool.and_eq_true, decide_eq_true_eq] at hw
    have h1 : IntKind.u8.min = 0 := by decide
    have h2 : IntKind.u8.max = 255 := by decide
    omega
  refine ⟨UInt8.ofNat s.toNat, trivial, rfl, fun r p u hp hu => ?_⟩
  match r with
  | 0 =>
    cases hu
    have : ((UInt8.ofNat s.toNat).toNat : Int) = s := by
      rw [UInt8.toNat_ofNat']
      omega
    change some (PV.v (.int .u8 ((UInt8.ofNat s.toNat).toNat : Int))) = some p at hp
    rw [this] at hp
    cases hp
    exact .v _
  | r + 1 => simp [byteE, PV.cells] at hp
theorem in_str (n : Nat) (cs' : List Value) (y : DataW H × List MemPlace) {t : TypeId} (ht : DP.underlying t = some .string) (h : DataW.trod enc DP w base spare held n t cs' = some y) :
    ∃ a : ByteArray, True ∧ cs'.length = 1 ∧ ∀ (r : Nat) (p : PV) (u : Value), (nameE.f a).cells[r]? = some p → cs'[r]? = some u → PRel O w p u := by
  obtain ⟨s, rfl, _, _⟩ := DataW.trod_string ht h
  refine ⟨s, trivial, rfl, fun r p u hp hu => ?_⟩
  match r with
  | 0 => cases hp; cases hu; exact .v _
  | r + 1 => simp [nameE, PV.cells] at hp
theorem in_bytes (hO : ∀ k, ¬ O k) {fuel : Nat} {v : Value} {x : DataW H × List MemPlace} (h : DataW.trod enc DP w base spare held fuel 65 [v] = some x) :
    ∃ L : List UInt8, (∀ a ∈ L, True) ∧ PRel O w (.ls (L.map byteE.f)) v := open_list hO (Tryd.underlying65) byteE.elt (by decide) (by kernel_rfl) (fun n cs' y hy => in_u8 n cs' y Tryd.underlying5 hy) h
theorem in_strs (hO : ∀ k, ¬ O k) {fuel : Nat} {v : Value} {x : DataW H × List MemPlace} (h : DataW.trod enc DP w base spare held fuel 27 [v] = some x) :
    ∃ L : List ByteArray, (∀ a ∈ L, True) ∧ PRel O w (.ls (L.map nameE.f)) v := open_list hO (Tryd.underlying27) nameE.elt (by decide) (by kernel_rfl) (fun n cs' y hy => in_str n cs' y Tryd.underlying9 hy) h
theorem in_strss (hO : ∀ k, ¬ O k) {fuel : Nat} {v : Value} {x : DataW H × List MemPlace} (h : DataW.trod enc DP w base spare held fuel 22 [v] = some x) :
    ∃ L : List (List ByteArray), (∀ a ∈ L, True) ∧ PRel O w (.ls (L.map namesE.f)) v :=
  open_list hO (Tryd.underlying22) namesE.elt (by decide) (by kernel_rfl) (fun n cs' y hy => by
    obtain ⟨v', rfl⟩ : ∃ v', cs' = [v'] := by
      rcases Deep.open_slice Tryd.underlying27 hy with ⟨h1, _⟩ | ⟨a, len, cap, _, _, _, _, h1, _⟩
      · exact ⟨_, h1⟩
      · exact ⟨_, h1⟩
    obtain ⟨L, _, hp0⟩ := in_strs hO hy
    refine ⟨L, trivial, rfl, fun r p u hp hu => ?_⟩
    match r with
    | 0 => cases hu; change some (PV.ls (L.map nameE.f)) = some p at hp; cases hp; exact hp0
    | r + 1 => simp [namesE, PV.cells] at hp) h
end
end Go.Ax
