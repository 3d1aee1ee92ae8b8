/- The plain law of LevelKeeps: who looks by a number sees what it saw. -/
import Derived.Test.YtgbmmmglilpdjaaKe2
set_option linter.unusedVariables false
set_option linter.unusedSimpArgs false
namespace Go.Ax
open Go.Proofs Go.RowKit Go.Lib
set_option maxRecDepth 100000

theorem leftF_sub (S : List Int) : ∀ (pr : Option Ent) (G : List Ent), (leftF S pr G).Sublist G
  | _, [] => .slnil
  | pr, a :: G => by
    unfold leftF
    split
    · exact (leftF_sub S (some a) G).cons_cons a
    · exact (leftF_sub S (some a) G).cons a
theorem stripL_sub (bot : Bool) (L : List Ent) : (stripL bot L).Sublist L := by
  unfold stripL
  split
  · have := (List.dropWhile_sublist Ent.del (l := L.reverse)).reverse
    rwa [List.reverse_reverse] at this
  · exact .refl _
theorem doneL_sub (S : List Int) (bot : Bool) (G : List Ent) : (doneL S bot G).Sublist G := (stripL_sub bot _).trans (leftF_sub S none G)
theorem flat_sub {f : List Ent → List Ent} (hf : ∀ G, (f G).Sublist G) : ∀ Gs : List (List Ent), (Gs.map f).flatten.Sublist Gs.flatten
  | [] => .slnil
  | G :: Gs => by
    rw [List.map_cons, List.flatten_cons, List.flatten_cons]
    exact (hf G).append (flat_sub hf Gs)
theorem keep_sub (S : List Int) (bot : Bool) {A : List Ent} (hA : Sorted A) : (keepL A S bot).Sublist A := by
  obtain ⟨Gs, g1, g2, _⟩ := keep_groups S bot hA
  rw [g2, ← g1]
  exact flat_sub (doneL_sub S bot) Gs

/-- Who looks by a number: among those of one key. -/
theorem left_find (S : List Int) (s : Int) : ∀ (G : List Ent) (pr : Option Ent), (∀ o, pr = some o → s < o.seq ∧ s ∈ S) → (s ∈ S ∨ ∀ y ∈ G, y.seq ≤ s) →
    (leftF S pr G).find? (fun y => decide (y.seq ≤ s)) = G.find? (fun y => decide (y.seq ≤ s))
  | [], _, _, _ => rfl
  | a :: G, pr, hpr, hs => by
    unfold leftF
    by_cases ha : a.seq ≤ s
    · have hk : keepB S pr a = true := by
        cases pr with
        | none => rfl
        | some o =>
          obtain ⟨h1, h2⟩ := hpr o rfl
          show S.any (between a o) = true
          rw [List.any_eq_true]
          exact ⟨s, h2, by unfold between; rw [decide_eq_true (by omega), decide_eq_true h1]; rfl⟩
      rw [if_pos hk, List.find?_cons_of_pos (by simpa using ha), List.find?_cons_of_pos (by simpa using ha)]
    · have hS : s ∈ S := hs.resolve_right (fun h => ha (h a (by simp)))
      have ih := left_find S s G (some a) (fun o ho => by cases ho; exact ⟨by omega, hS⟩) (.inl hS)
      rw [List.find?_cons_of_neg (l := G) (by simpa using ha)]
      split
      · rw [List.find?_cons_of_neg (by simpa using ha)]; exact ih
      · exact ih

theorem strip_split (L : List Ent) : ∃ T, L = stripL true L ++ T ∧ ∀ x ∈ T, x.del = true := by
  refine ⟨(L.reverse.takeWhile Ent.del).reverse, ?_, fun x hx => ?_⟩
  · unfold stripL
    rw [if_pos rfl, ← List.reverse_append, List.takeWhile_append_dropWhile, List.reverse_reverse]
  · rw [List.mem_reverse] at hx
    have : ∀ (M : List Ent), ∀ y ∈ M.takeWhile Ent.del, y.del = true := fun M => by
      induction M with
      | nil => intro y hy; simp at hy
      | cons a M ih =>
        intro y hy
        rw [List.takeWhile_cons] at hy
        split at hy
        · rename_i h
          rcases List.mem_cons.mp hy with rfl | hy
          · exact h
          · exact ih y hy
        · simp at hy
    exact this _ x hx

theorem done_find (S : List Int) (bot : Bool) (s : Int) (G : List Ent) (hs : s ∈ S ∨ ∀ y ∈ G, y.seq ≤ s) :
    (doneL S bot G).find? (fun y => decide (y.seq ≤ s)) = G.find? (fun y => decide (y.seq ≤ s)) ∨ (bot = true ∧ (doneL S bot G).find? (fun y => decide (y.seq ≤ s)) = none ∧ ∃ e, G.find? (fun y => decide (y.seq ≤ s)) = some e ∧ e.del = true) := by
  have h := left_find S s G none (fun o ho => by cases ho) hs
  cases bot with
  | false => exact .inl h
  | true =>
    obtain ⟨T, t1, t2⟩ := strip_split (leftF S none G)
    rw [← h]
    unfold doneL
    generalize hM : stripL true (leftF S none G) = M at t1
    rw [t1, List.find?_append]
    cases hm : M.find? (fun y => decide (y.seq ≤ s)) with
    | some e => exact .inl rfl
    | none =>
      rw [Option.none_or]
      cases ht : T.find? (fun y => decide (y.seq ≤ s)) with
      | none => exact .inl rfl
      | some e => exact .inr ⟨rfl, rfl, e, rfl, t2 e (List.mem_of_find?_eq_some ht)⟩

theorem find_none {key : ByteArray} {s : Int} {L : List Ent} (h : ∀ y ∈ L, (y.key.toList == key.toList) = false) : L.find? (seesB key s) = none := by
  rw [List.find?_eq_none]
  intro y hy
  unfold seesB
  rw [h y hy]; simp
theorem find_same {key : ByteArray} {s : Int} : ∀ {L : List Ent}, (∀ y ∈ L, (y.key.toList == key.toList) = true) → L.find? (seesB key s) = L.find? (fun y => decide (y.seq ≤ s))
  | [], _ => rfl
  | a :: L, h => by
    have ih := find_same (s := s) (L := L) (fun y hy => h y (by simp [hy]))
    have ha : seesB key s a = decide (a.seq ≤ s) := by unfold seesB; rw [h a (by simp)]; rfl
    rw [List.find?_cons, List.find?_cons, ha, ih]

theorem keep_find (S : List Int) (bot : Bool) {A : List Ent} (hA : Sorted A) {x : Ent} (hx : x ∈ A) (s : Int) (hs : s ∈ S ∨ ∀ y ∈ A, y.seq ≤ s) :
    (keepL A S bot).find? (seesB x.key s) = A.find? (seesB x.key s) ∨ (bot = true ∧ (keepL A S bot).find? (seesB x.key s) = none ∧ ∃ e, A.find? (seesB x.key s) = some e ∧ e.del = true) := by
  obtain ⟨Gs, g1, g2, g3, g4⟩ := keep_groups S bot hA
  have hx' := hx
  rw [← g1] at hx'
  obtain ⟨G, hG, hxG⟩ := List.mem_flatten.1 hx'
  obtain ⟨G1, G2, rfl⟩ := List.append_of_mem hG
  obtain ⟨p1, p2, p3⟩ := List.pairwise_append.1 g4
  rw [List.pairwise_cons] at p2
  have n1 : ∀ y ∈ G1.flatten, (y.key.toList == x.key.toList) = false := fun y hy => by
    obtain ⟨H, hH, hyH⟩ := List.mem_flatten.1 hy
    rw [Bool.eq_false_iff]
    exact fun h => keylt_ne (p3 H hH G (by simp) y hyH x hxG) (key_eq.1 h)
  have n2 : ∀ y ∈ G2.flatten, (y.key.toList == x.key.toList) = false := fun y hy => by
    obtain ⟨H, hH, hyH⟩ := List.mem_flatten.1 hy
    rw [Bool.eq_false_iff]
    exact fun h => keylt_ne (p2.1 H hH x hxG y hyH) (key_eq.1 h).symm
  have n3 : ∀ y ∈ G, (y.key.toList == x.key.toList) = true := fun y hy => key_eq.2 (g3 G hG y hy x hxG)
  have hsG : s ∈ S ∨ ∀ y ∈ G, y.seq ≤ s := hs.imp id (fun h y hy => h y (by rw [← g1]; exact List.mem_flatten.2 ⟨G, hG, hy⟩))
  have d1 : ∀ y ∈ (G1.map (doneL S bot)).flatten, (y.key.toList == x.key.toList) = false := fun y hy => n1 y ((flat_sub (doneL_sub S bot) G1).subset hy)
  have d2 : ∀ y ∈ (G2.map (doneL S bot)).flatten, (y.key.toList == x.key.toList) = false := fun y hy => n2 y ((flat_sub (doneL_sub S bot) G2).subset hy)
  have d3 : ∀ y ∈ doneL S bot G, (y.key.toList == x.key.toList) = true := fun y hy => n3 y ((doneL_sub S bot G).subset hy)
  have eA : A.find? (seesB x.key s) = G.find? (fun y => decide (y.seq ≤ s)) := by
    rw [← g1, List.flatten_append, List.flatten_cons, List.find?_append, find_none n1, Option.none_or, List.find?_append, find_none n2, find_same n3]
    simp
  have eK : (keepL A S bot).find? (seesB x.key s) = (doneL S bot G).find? (fun y => decide (y.seq ≤ s)) := by
    rw [g2, List.map_append, List.map_cons, List.flatten_append, List.flatten_cons, List.find?_append, find_none d1, Option.none_or, List.find?_append, find_none d2, find_same d3]
    simp
  rw [eA, eK]
  exact done_find S bot s G hsG

/-- With what stands beneath. -/
theorem keeps (S : List Int) (bot : Bool) {A : List Ent} (hA : Sorted A) {x : Ent} (hx : x ∈ A) (s : Int) (hs : s ∈ S ∨ ∀ y ∈ A, y.seq ≤ s) (O : List Ent) (hO : bot = true → O = []) :
    seenL (keepL A S bot ++ O) x.key s = seenL (A ++ O) x.key s ∨ ((seenL (keepL A S bot ++ O) x.key s).2 = false ∧ (seenL (A ++ O) x.key s).2 = false) := by
  rcases keep_find S bot hA hx s hs with h | ⟨hb, h1, e, h2, h3⟩
  · left
    unfold seenL
    rw [List.find?_append, List.find?_append, h]
  · right
    rw [hO hb, List.append_nil, List.append_nil]
    unfold seenL
    rw [h1, h2]
    simp [h3]

theorem insL_leq (L : List Ent) (x : Ent) : (insL L x).length ≤ L.length + 1 := by
  have h : ∀ p, (insAt L x p).length ≤ L.length + 1 := fun p => by unfold insAt; simp; omega
  unfold insL
  split
  · omega
  · split
    · split
      · omega
      · exact h _
    · exact h _
theorem order_leq (es : List Ent) : (orderL es).length ≤ es.length := by
  have : ∀ (es L : List Ent), (es.foldl insL L).length ≤ L.length + es.length := fun es => by
    induction es with
    | nil => intro L; simp
    | cons x es ih =>
      intro L
      have h1 := ih (insL L x)
      have h2 := insL_leq L x
      rw [List.foldl_cons, List.length_cons]
      omega
  simpa [orderL] using this es []
theorem check_seq {x : Ent} (h : x.check = 0) : x.seq ≤ 72057594037927935 := by
  unfold Ent.check at h
  split at h
  · cases h
  · split at h
    · cases h
    · rename_i h1
      simp at h1
      exact h1

end Go.Ax
