/- LevelDrops, the plain law: what is kept is of use, and no key ends with one that is gone. -/
import Derived.Test.YtgbmmmglilpdjaaKp9
import Derived.Test.YtgbmmmglilpdjaaOr1
set_option linter.unusedVariables false
set_option linter.unusedSimpArgs false
namespace Go.Ax
open Go.Proofs Go.RowKit Go.Lib

def KeyLt (a b : Ent) : Prop := compareBytes (kb a) (kb b) < 0

theorem sameHead_iff {o x : Ent} {O : List Ent} : sameHead (o :: O) x = true ↔ kb o = kb x := key_eq

/-- The keys, one by one. -/
theorem groups (S : List Int) (bot : Bool) : ∀ (rest O : List Ent), O ≠ [] → (∀ a ∈ O, ∀ b ∈ O, kb a = kb b) → Sorted (O ++ rest) →
    ∃ Gs : List (List Ent), Gs.flatten = O ++ rest ∧ (∀ R, keepGo S bot R O rest = R ++ (Gs.map (doneL S bot)).flatten) ∧ (∀ G ∈ Gs, ∀ a ∈ G, ∀ b ∈ G, kb a = kb b) ∧ Gs.Pairwise (fun G H => ∀ a ∈ G, ∀ b ∈ H, KeyLt a b)
  | [], O, _, hs, _ => ⟨[O], by simp, fun R => by simp [keepGo], fun G hG => by rw [List.mem_singleton] at hG; subst hG; exact hs, List.pairwise_singleton _ _⟩
  | x :: r, [], hO, _, _ => absurd rfl hO
  | x :: r, o :: O, hO, hs, hp => by
    by_cases hk : sameHead (o :: O) x = true
    · have hkk := sameHead_iff.1 hk
      obtain ⟨Gs, g1, g2, g3, g4⟩ := groups S bot r ((o :: O) ++ [x]) (by simp) (by
        have key : ∀ a ∈ (o :: O) ++ [x], kb a = kb o := by
          intro a ha
          rcases List.mem_append.1 ha with ha | ha
          · exact hs a ha o (by simp)
          · rw [List.mem_singleton] at ha; subst ha; exact hkk.symm
        intro a ha b hb
        rw [key a ha, key b hb]) (by simpa using hp)
      refine ⟨Gs, by rw [g1]; simp, fun R => ?_, g3, g4⟩
      rw [keepGo, if_pos hk]
      exact g2 R
    · have hkk : kb o ≠ kb x := fun h => hk (sameHead_iff.2 h)
      have hpr := (List.pairwise_append.1 hp).2.1
      obtain ⟨Gs, g1, g2, g3, g4⟩ := groups S bot r [x] (by simp) (by simp) hpr
      refine ⟨(o :: O) :: Gs, by rw [List.flatten_cons, g1]; rfl, fun R => ?_, fun G hG => ?_, ?_⟩
      · rw [keepGo, if_neg hk, g2, List.map_cons, List.flatten_cons, List.append_assoc]
      · rcases List.mem_cons.1 hG with rfl | hG
        · exact hs
        · exact g3 G hG
      · rw [List.pairwise_cons]
        refine ⟨fun H hH a ha b hb => ?_, g4⟩
        have hox : compareBytes (kb o) (kb x) < 0 := by
          have := (List.pairwise_append.1 hp).2.2 o (by simp) x (by simp)
          rcases cmp_lt.1 this with h | ⟨h, _⟩
          · exact h
          · exact absurd h hkk
        have hbm : b ∈ [x] ++ r := by rw [← g1]; exact List.mem_flatten.2 ⟨H, hH, hb⟩
        unfold KeyLt
        rw [hs a ha o (by simp)]
        rcases List.mem_append.1 hbm with hb | hb
        · rw [List.mem_singleton] at hb; subst hb; exact hox
        · have := List.rel_of_pairwise_cons (by simpa using hpr : List.Pairwise (fun x y => x.cmp y < 0) (x :: r)) hb
          rcases cmp_lt.1 this with h | ⟨h, _⟩
          · exact cb_trans hox h
          · rw [← h]; exact hox

theorem keep_groups (S : List Int) (bot : Bool) {A : List Ent} (hA : Sorted A) : ∃ Gs : List (List Ent), Gs.flatten = A ∧ keepL A S bot = (Gs.map (doneL S bot)).flatten ∧ (∀ G ∈ Gs, ∀ a ∈ G, ∀ b ∈ G, kb a = kb b) ∧ Gs.Pairwise (fun G H => ∀ a ∈ G, ∀ b ∈ H, KeyLt a b) := by
  cases A with
  | nil => exact ⟨[], rfl, by simp [keepL, keepGo, doneL, leftF, stripL], fun G hG => by simp at hG, List.Pairwise.nil⟩
  | cons x A =>
    obtain ⟨Gs, g1, g2, g3, g4⟩ := groups S bot A [x] (by simp) (by simp) (by simpa using hA)
    refine ⟨Gs, by rw [g1]; rfl, ?_, g3, g4⟩
    have : keepL (x :: A) S bot = keepGo S bot [] [x] A := rfl
    rw [this, g2]
    simp

/-- Where an element of a list of lists stands. -/
theorem flat_split {α : Type} : ∀ (Ls : List (List α)) (i : Nat) (x : α), Ls.flatten[i]? = some x → ∃ L1 L L2 t, Ls = L1 ++ L :: L2 ∧ L[t]? = some x ∧ i = L1.flatten.length + t
  | [], i, x, h => by simp at h
  | L :: Ls, i, x, h => by
    rw [List.flatten_cons, List.getElem?_append] at h
    split at h
    · exact ⟨[], L, Ls, i, rfl, h, by simp⟩
    · obtain ⟨L1, L', L2, t, h1, h2, h3⟩ := flat_split Ls _ x h
      refine ⟨L :: L1, L', L2, t, by rw [h1]; rfl, h2, ?_⟩
      rw [List.flatten_cons, List.length_append]
      omega

theorem left_mem (S : List Int) : ∀ (pr : Option Ent) (G : List Ent) (x : Ent), x ∈ leftF S pr G → ∃ pre post, G = pre ++ x :: post ∧ keepB S (match pre.getLast? with | some o => some o | none => pr) x = true
  | _, [], x, h => by simp [leftF] at h
  | pr, a :: G, x, h => by
    have rest : x ∈ leftF S (some a) G → ∃ pre post, a :: G = pre ++ x :: post ∧ keepB S (match pre.getLast? with | some o => some o | none => pr) x = true := by
      intro h
      obtain ⟨pre, post, h1, h2⟩ := left_mem S (some a) G x h
      refine ⟨a :: pre, post, by rw [h1]; rfl, ?_⟩
      cases pre with
      | nil => exact h2
      | cons b pre => rw [List.getLast?_cons_cons]; rw [show (b :: pre).getLast? = some ((b :: pre).getLast (by simp)) from List.getLast?_eq_some_getLast (by simp)] at h2 ⊢; exact h2
    rw [leftF] at h
    split at h
    · rename_i hc
      rcases List.mem_cons.1 h with rfl | h
      · exact ⟨[], G, rfl, hc⟩
      · exact rest h
    · exact rest h

theorem strip_sub {bot : Bool} {L : List Ent} {x : Ent} (h : x ∈ stripL bot L) : x ∈ L := by
  unfold stripL at h
  split at h
  · rw [List.mem_reverse] at h
    have := (List.dropWhile_sublist Ent.del (l := L.reverse)).subset h
    exact List.mem_reverse.1 this
  · exact h

theorem dropWhile_head {p : Ent → Bool} : ∀ {L : List Ent} {a : Ent} {r : List Ent}, L.dropWhile p = a :: r → p a = false
  | [], a, r, h => by simp at h
  | b :: L, a, r, h => by
    rw [List.dropWhile_cons] at h
    split at h
    · exact dropWhile_head h
    · rename_i hc
      cases h
      simpa using hc

theorem strip_last {L : List Ent} {t : Nat} {x : Ent} (h : (stripL true L)[t]? = some x) (hl : t + 1 = (stripL true L).length) : x.del = false := by
  unfold stripL at h hl
  rw [if_pos rfl] at h hl
  cases hd : L.reverse.dropWhile Ent.del with
  | nil => rw [hd] at h; simp at h
  | cons a r =>
    rw [hd] at h hl
    rw [List.length_reverse] at hl
    rw [List.getElem?_reverse (by simp at hl ⊢; omega)] at h
    have : (a :: r).length - 1 - t = 0 := by omega
    rw [this] at h
    cases h
    exact dropWhile_head hd

def zeroE : Ent := ⟨⟨#[]⟩, 0, false, ⟨#[]⟩⟩

/-- Is y the same key's, and newer than x? -/
def newer (x y : Ent) : Bool := (y.key.toList == x.key.toList) && decide (y.seq > x.seq)

def aheadF (x : Ent) (acc : Ent) (A : List Ent) : Ent := A.foldl (fun acc y => if newer x y = true then y else acc) acc

theorem ahead_none {x : Ent} : ∀ {A : List Ent} {acc : Ent}, (∀ y ∈ A, newer x y = false) → aheadF x acc A = acc
  | [], acc, _ => rfl
  | y :: A, acc, h => by
    unfold aheadF
    rw [List.foldl_cons, h y (by simp), if_neg (by simp)]
    exact ahead_none (fun z hz => h z (by simp [hz]))

theorem ahead_all {x : Ent} : ∀ {A : List Ent} {acc : Ent}, (∀ y ∈ A, newer x y = true) → aheadF x acc A = (A.getLast?).getD acc
  | [], acc, _ => rfl
  | y :: A, acc, h => by
    unfold aheadF
    rw [List.foldl_cons, h y (by simp), if_pos rfl]
    have ih := ahead_all (x := x) (A := A) (acc := y) (fun z hz => h z (by simp [hz]))
    unfold aheadF at ih
    rw [ih]
    cases A with
    | nil => rfl
    | cons z A => rw [List.getLast?_cons_cons]; rw [List.getLast?_eq_some_getLast (by simp)]; rfl

theorem ahead_append {x : Ent} (A B : List Ent) (acc : Ent) : aheadF x acc (A ++ B) = aheadF x (aheadF x acc A) B := by unfold aheadF; rw [List.foldl_append]

theorem newer_key {x y : Ent} (h : kb y ≠ kb x) : newer x y = false := by
  unfold newer
  cases hq : (y.key.toList == x.key.toList) with
  | false => rfl
  | true => exact absurd (key_eq.1 hq) h

theorem keylt_ne {a b : Ent} (h : KeyLt a b) : kb a ≠ kb b := by
  intro e
  unfold KeyLt at h
  rw [e, cb_refl] at h
  omega

theorem drops (S : List Int) (bot : Bool) {A : List Ent} (hA : Sorted A) {i : Nat} {x : Ent} (hi : (keepL A S bot)[i]? = some x) :
    (aheadF x zeroE A = zeroE ∨ S.any (between x (aheadF x zeroE A)) = true) ∧
    (bot = true → (i + 1 = (keepL A S bot).length ∨ ∃ y, (keepL A S bot)[i + 1]? = some y ∧ (y.key.toList == x.key.toList) = false) → x.del = false) := by
  obtain ⟨Gs, g1, g2, g3, g4⟩ := keep_groups S bot hA
  rw [g2] at hi ⊢
  obtain ⟨D1, D, D2, t, d1, d2, d3⟩ := flat_split _ _ _ hi
  obtain ⟨G1, G', e1, e2, e3⟩ := List.map_eq_append_iff.1 d1
  obtain ⟨G, G2, e4, e5, e6⟩ := List.map_eq_cons_iff.1 e3
  subst e5
  have hG : G ∈ Gs := by rw [e1, e4]; simp
  have hxl : x ∈ leftF S none G := strip_sub (List.mem_of_getElem? d2)
  obtain ⟨pre, post, hsp, hkeep⟩ := left_mem S none G x hxl
  have hkey : ∀ a ∈ G, kb a = kb x := fun a ha => g3 G hG a ha x (by rw [hsp]; simp)
  rw [e1, e4] at g4 g1
  obtain ⟨p1, p2, p3⟩ := List.pairwise_append.1 g4
  rw [List.pairwise_cons] at p2
  have hxG : x ∈ G := by rw [hsp]; simp
  refine ⟨?_, fun hb hlast => ?_⟩
  · have hAeq : A = G1.flatten ++ (pre ++ (x :: post ++ G2.flatten)) := by
      rw [← g1, List.flatten_append, List.flatten_cons, hsp]
      simp
    have hs := hA
    unfold Sorted at hs
    rw [hAeq] at hs
    have hs2 := (List.pairwise_append.1 hs).2.1
    obtain ⟨q1, q2, q3⟩ := List.pairwise_append.1 hs2
    have n1 : ∀ y ∈ G1.flatten, newer x y = false := by
      intro y hy
      obtain ⟨H, hH, hyH⟩ := List.mem_flatten.1 hy
      exact newer_key (keylt_ne (p3 H hH G (by simp) y hyH x hxG))
    have n2 : ∀ y ∈ pre, newer x y = true := by
      intro y hy
      have hk := hkey y (by rw [hsp]; simp [hy])
      have := q3 y hy x (by simp)
      rcases cmp_lt.1 this with h | ⟨_, h⟩
      · rw [hk, cb_refl] at h; omega
      · unfold newer
        rw [key_eq.2 hk, decide_eq_true h]
        rfl
    have n3 : ∀ y ∈ x :: post ++ G2.flatten, newer x y = false := by
      intro y hy
      rcases List.mem_append.1 hy with hy | hy
      · rcases List.mem_cons.1 hy with rfl | hy
        · unfold newer
          rw [decide_eq_false (by omega), Bool.and_false]
        · have hk := hkey y (by rw [hsp]; simp [hy])
          have := List.rel_of_pairwise_cons (by simpa using q2 : List.Pairwise (fun x y => x.cmp y < 0) (x :: (post ++ G2.flatten))) (List.mem_append.2 (.inl hy))
          rcases cmp_lt.1 this with h | ⟨_, h⟩
          · rw [hk, cb_refl] at h; omega
          · unfold newer
            rw [decide_eq_false (by omega), Bool.and_false]
      · obtain ⟨H, hH, hyH⟩ := List.mem_flatten.1 hy
        exact newer_key (fun h => keylt_ne (p2.1 H hH x hxG y hyH) h.symm)
    have hah : aheadF x zeroE A = (pre.getLast?).getD zeroE := by
      rw [hAeq, ahead_append, ahead_none n1, ahead_append, ahead_all n2, ahead_none n3]
    rw [hah]
    cases hl : pre.getLast? with
    | none => exact .inl rfl
    | some o =>
      rw [hl] at hkeep
      exact .inr hkeep
  · subst hb
    refine strip_last d2 ?_
    have ht : t < (stripL true (leftF S none G)).length := (List.getElem?_eq_some_iff.1 d2).1
    rcases Nat.lt_or_ge (t + 1) (stripL true (leftF S none G)).length with hlt | hge
    · exfalso
      have hD : (doneL S true G)[t + 1]? = some (doneL S true G)[t + 1] := List.getElem?_eq_getElem hlt
      have hnext : ((Gs.map (doneL S true)).flatten)[i + 1]? = some (doneL S true G)[t + 1] := by
        rw [d1, List.flatten_append, List.flatten_cons, List.getElem?_append_right (by omega), show i + 1 - D1.flatten.length = t + 1 by omega, List.getElem?_append_left (show t + 1 < (doneL S true G).length from hlt)]
        exact hD
      rcases hlast with h | ⟨y, h1, h2⟩
      · have := (List.getElem?_eq_some_iff.1 hnext).1
        omega
      · rw [hnext] at h1
        cases h1
        have hm : (doneL S true G)[t + 1] ∈ G := by
          have h3 : (doneL S true G)[t + 1] ∈ leftF S none G := strip_sub (List.getElem_mem hlt)
          obtain ⟨pre', post', hs', _⟩ := left_mem S none G _ h3
          exact (congrArg (fun L => (doneL S true G)[t + 1] ∈ L) hs').mpr (by simp)
        have := key_eq.2 (hkey _ hm)
        rw [this] at h2
        cases h2
    · show t + 1 = (stripL true (leftF S none G)).length
      omega

end Go.Ax
