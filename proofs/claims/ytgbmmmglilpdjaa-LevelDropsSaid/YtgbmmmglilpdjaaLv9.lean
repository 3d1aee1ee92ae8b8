/- LevelCuts: the plain law, and the walk. -/
import Derived.Test.YtgbmmmglilpdjaaLv8
set_option linter.unusedVariables false
set_option linter.unusedSimpArgs false
namespace Go.Ax
open Go.Proofs Go.RowKit
set_option maxRecDepth 100000

def sumE : List Ent → Int
  | [] => 0
  | e :: r => esz e + sumE r

theorem sumE_append (a b : List Ent) : sumE (a ++ b) = sumE a + sumE b := by
  induction a with
  | nil => simp [sumE]
  | cons e a ih => simp only [List.cons_append, sumE, ih]; omega

def PairsOk (size : Int) (p : List Ent) : Prop := ∀ (j : Nat) (a b : Ent), p[j]? = some a → p[j + 1]? = some b → ¬ (sumE (p.take (j + 1)) ≥ size ∧ (b.key.toList == a.key.toList) = false)

def PartsOk (size : Int) : List (List Ent) → Prop
  | [] => True
  | p :: qs => p ≠ [] ∧ PairsOk size p ∧ (∀ q qs', qs = q :: qs' → size ≤ sumE p ∧ ∃ a b : Ent, q[0]? = some a ∧ p[p.length - 1]? = some b ∧ (a.key.toList == b.key.toList) = false) ∧ PartsOk size qs

theorem pairs_short {size : Int} {p : List Ent} (h : p.length ≤ 1) : PairsOk size p := by
  intro j a b _ hb
  have := (List.getElem?_eq_some_iff.1 hb).1
  omega

theorem cutEnds_true {size s : Int} {e y : Ent} {r : List Ent} (h : cutEnds size s e (y :: r) = true) : size ≤ s ∧ (y.key.toList == e.key.toList) = false := by
  simp only [cutEnds, Bool.and_eq_true, decide_eq_true_eq, Bool.not_eq_true'] at h
  exact ⟨h.1, h.2⟩

theorem cutR_ok (size : Int) : ∀ (rest cur : List Ent) (sum : Int), sum = sumE cur → PairsOk size (cur ++ rest.take 1) → (cur = [] ∨ rest ≠ []) →
    (cutR size cur sum rest).flatten = cur ++ rest ∧ PartsOk size (cutR size cur sum rest) ∧ (∀ q qs, cutR size cur sum rest = q :: qs → q[0]? = (cur ++ rest)[0]?) ∧ (cutR size cur sum rest).length ≤ rest.length
  | [], cur, sum, _, _, hc => by
    rcases hc with rfl | h
    · exact ⟨rfl, trivial, fun q qs h => by simp [cutR] at h, by simp [cutR]⟩
    · exact absurd rfl h
  | e :: r, cur, sum, hs, hp, _ => by
    have hp' : PairsOk size (cur ++ [e]) := by simpa using hp
    have hsum : sum + esz e = sumE (cur ++ [e]) := by rw [sumE_append, hs]; simp [sumE]
    by_cases hc : cutEnds size (sum + esz e) e r = true
    · obtain ⟨g1, g2, g3, g4⟩ := cutR_ok size r [] 0 rfl (pairs_short (by simp; omega)) (.inl rfl)
      rw [cutR, if_pos hc]
      refine ⟨by rw [List.flatten_cons, g1]; simp, ⟨by simp, hp', fun q qs' hq => ?_, g2⟩, fun q qs h => ?_, by simp; exact g4⟩
      · have hq0 := g3 q qs' hq
        cases r with
        | nil => simp [cutR] at hq
        | cons y r =>
          obtain ⟨c1, c2⟩ := cutEnds_true hc
          exact ⟨by rw [← hsum]; exact c1, y, e, by simpa using hq0, by simp, c2⟩
      · cases h
        simp [List.getElem?_append]
        cases cur <;> simp
    · rw [cutR, if_neg hc]
      cases r with
      | nil => exact absurd rfl hc
      | cons y r =>
        have hpp : PairsOk size ((cur ++ [e]) ++ (y :: r).take 1) := by
          intro j a b ha hb
          have hlt := (List.getElem?_eq_some_iff.1 hb).1
          simp at hlt
          by_cases hj : j + 1 < (cur ++ [e]).length
          · rw [List.getElem?_append_left (by omega)] at ha
            rw [List.getElem?_append_left hj] at hb
            rw [List.take_append_of_le_length (by omega)]
            exact hp' j a b ha hb
          · have hjj : j = cur.length := by simp at hj; omega
            subst hjj
            rw [List.getElem?_append_left (by simp)] at ha
            simp at ha hb
            subst ha
            subst hb
            rw [List.take_append_of_le_length (by simp), List.take_of_length_le (by simp), ← hsum]
            intro hh
            refine hc ?_
            simp only [cutEnds, Bool.and_eq_true, decide_eq_true_eq, Bool.not_eq_true']
            exact ⟨hh.1, hh.2⟩
        obtain ⟨g1, g2, g3, g4⟩ := cutR_ok size (y :: r) (cur ++ [e]) (sum + esz e) hsum hpp (.inr (by simp))
        exact ⟨by rw [g1]; simp, g2, fun q qs h => by rw [g3 q qs h]; simp, by simp at g4 ⊢; omega⟩

theorem mem_insL {L : List Ent} {x y : Ent} (h : y ∈ insL L x) : y ∈ L ∨ y = x := by
  have hi : ∀ p, y ∈ insAt L x p → y ∈ L ∨ y = x := by
    intro p h
    simp only [insAt, List.mem_append, List.mem_singleton] at h
    rcases h with (h | h) | h
    · exact .inl (List.mem_of_mem_take h)
    · exact .inr h
    · exact .inl (List.mem_of_mem_drop h)
  unfold insL at h
  split at h
  · exact .inl h
  · split at h
    · split at h
      · exact .inl h
      · exact hi _ h
    · exact hi _ h

theorem foldl_ins (es : List Ent) : ∀ L : List Ent, (es.foldl insL L).length ≤ L.length + es.length ∧ ∀ y ∈ es.foldl insL L, y ∈ L ∨ y ∈ es := by
  induction es with
  | nil => intro L; exact ⟨by simp, fun y h => .inl h⟩
  | cons x es ih =>
    intro L
    obtain ⟨h1, h2⟩ := ih (insL L x)
    have := insL_len L x
    refine ⟨by simp at h1 ⊢; omega, fun y hy => ?_⟩
    rcases h2 y hy with h | h
    · rcases mem_insL h with h | h
      · exact .inl h
      · exact .inr (by simp [h])
    · exact .inr (by simp [h])

theorem small_of_big {es : List Ent} (h : bigL es = false) : smallL es := by
  simp only [bigL, Bool.or_eq_false_iff, decide_eq_false_iff_not, List.any_eq_false, bigE] at h
  refine ⟨by omega, fun e he => ?_⟩
  have := h.2 e he
  simp at this
  omega

theorem small_order {es : List Ent} (h : smallL es) : smallL (orderL es) := by
  obtain ⟨h1, h2⟩ := foldl_ins es []
  refine ⟨?_, fun e he => ?_⟩
  · have := h.1; simp at h1; unfold orderL; omega
  · rcases h2 e he with h' | h'
    · simp at h'
    · exact h.2 e h'

/-! ### The walk -/
noncomputable abbrev lciBody : Code := nav [true, true, true, true, true, true, false, true, false, false, true, true, false, false, true, true, true, false, true, false, false] (bodyOf Try.f5)
abbrev lciH (size : Int) (A : List Ent) (ps : List (List Ent)) (i : Nat) (p : List Ent) (k j : Nat) (sum : Int) : AS :=
  ⟨tk [(1, vi size), (5, vl (ents A)), (6, vl (entss ps)), (7, vi (k : Int)), (8, vi (i : Int)), (9, vl (ents p)), (10, vi sum), (22, vl (entss ps)), (23, vi (ps.length : Int)), (24, vi (i : Int)), (32, vl (ents p)), (33, vi (p.length : Int)), (34, vi (j : Int))], []⟩
abbrev lciX (size : Int) (A : List Ent) (ps : List (List Ent)) (i : Nat) (p : List Ent) (k : Nat) (sum : Int) : AS :=
  ⟨tk [(1, vi size), (5, vl (ents A)), (6, vl (entss ps)), (7, vi (k : Int)), (8, vi (i : Int)), (9, vl (ents p)), (10, vi sum), (22, vl (entss ps)), (23, vi (ps.length : Int)), (24, vi (i : Int))], []⟩

theorem sumE_b {A : List Ent} (hA : ∀ e ∈ A, e.key.size ≤ 200 ∧ e.val.size ≤ 200) : ∀ {p : List Ent}, (∀ e ∈ p, e ∈ A) → 0 ≤ sumE p ∧ sumE p ≤ 400 * (p.length : Int)
  | [], _ => by simp [sumE]
  | e :: p, h => by
    have ih := sumE_b hA (p := p) (fun e he => h e (by simp [he]))
    have := hA e (h e (by simp))
    simp only [sumE, esz, List.length_cons]
    omega

theorem lci_loop (size : Int) (A : List Ent) (ps : List (List Ent)) (i : Nat) (p : List Ent) (k0 : Nat) (hA : smallL A) (hk0 : k0 ≤ 30) (hAp : ∀ n x, p[n]? = some x → A[k0 + n]? = some x) (hok : PairsOk size p) :
    ∀ (m j : Nat), j + m = p.length → EvL LP ΓL 117 0 lciBody (lciH size A ps i p (k0 + j) j (sumE (p.take j))) (.exit 2) (lciX size A ps i p (k0 + p.length) (sumE p))
  | 0, j, h => by
    have hj : j = p.length := by omega
    subst hj
    rw [List.take_length]
    exact .leave (lci_w7 size A ps _ ps.length i p (sumE p) p.length p.length (decide_eq_false (by omega))) (by simp)
  | m + 1, j, h => by
    have hj : j < p.length := by omega
    have he : p[j]? = some p[j] := List.getElem?_eq_getElem hj
    have hAe := hAp j _ he
    have hk : k0 + j < A.length := (List.getElem?_eq_some_iff.1 hAe).1
    have hlen := hA.1
    have hmem : ∀ e ∈ p, e ∈ A := by
      intro e he
      obtain ⟨n, hn⟩ := List.getElem?_of_mem he
      exact List.mem_of_getElem? (hAp n e hn)
    have hz := hA.2 _ (hmem _ (List.getElem_mem hj))
    have hs := sumE_b hA.2 (p := p.take j) (fun e he => hmem e (List.mem_of_mem_take he))
    have hpl : p.length ≤ 30 := by
      rcases Nat.lt_or_ge 30 p.length with hh | hh
      · have h30 : 30 < p.length := hh
        have := hAp 30 _ (List.getElem?_eq_getElem h30)
        have := (List.getElem?_eq_some_iff.1 this).1
        omega
      · exact hh
    have htl : ((p.take j).length : Int) ≤ 30 := by simp; omega
    have hsum : sumE (p.take j) + ((p[j].key.size : Int) + (p[j].val.size : Int)) = sumE (p.take (j + 1)) := by
      rw [List.take_succ_eq_append_getElem hj, sumE_append]; simp [sumE, esz]
    have a0 : decide ((j : Int) < (p.length : Int)) = true := decide_eq_true (by omega)
    have a1 : decide (((k0 + j : Nat) : Int) ≥ (A.length : Int)) = false := decide_eq_false (by omega)
    have a2 : (!((p[j].key.toList == p[j].key.toList) && (((p[j].seq : Int) == (p[j].seq : Int)) && ((p[j].del == p[j].del) && ((p[j].val.toList == p[j].val.toList) && true))))) = false := by simp
    have w1 : IntKind.i64.wrap (((k0 + j : Nat) : Int) + 1) = ((k0 + j : Nat) : Int) + 1 := wrapN (by omega) (by omega)
    have w2 : IntKind.i64.wrap ((p[j].key.size : Int) + (p[j].val.size : Int)) = (p[j].key.size : Int) + (p[j].val.size : Int) := wrapN (by omega) (by omega)
    have w3 : IntKind.i64.wrap (sumE (p.take j) + ((p[j].key.size : Int) + (p[j].val.size : Int))) = sumE (p.take j) + ((p[j].key.size : Int) + (p[j].val.size : Int)) := wrapN (by omega) (by omega)
    have w4 : IntKind.i64.wrap ((j : Int) + 1) = (j : Int) + 1 := wrapN (by omega) (by omega)
    have ih := lci_loop size A ps i p k0 hA hk0 hAp hok m (j + 1) (by omega)
    rw [← hsum] at ih
    refine .next ?_ ih
    by_cases g1 : decide ((j : Int) + 1 < (p.length : Int)) = true
    · by_cases g2 : decide (sumE (p.take j) + ((p[j].key.size : Int) + (p[j].val.size : Int)) ≥ size) = true
      · have hj1 : j + 1 < p.length := by simp at g1; omega
        have he1 : p[j + 1]? = some p[j + 1] := List.getElem?_eq_getElem hj1
        have hno := hok j _ _ he he1
        have g3 : (!(p[j + 1].key.toList == p[j].key.toList)) = false := by
          rw [hsum] at g2
          cases hq : (p[j + 1].key.toList == p[j].key.toList) with
          | true => rfl
          | false => exact absurd ⟨of_decide_eq_true g2, hq⟩ hno
        exact lci_w4 size A ps (k0 + j : Nat) ps.length i p (sumE (p.take j)) p.length j p[j] p[j] p[j + 1] a0 (by omega) he a1 (by omega) hAe a2 w1 w2 w3 w4 g1 g2 (by omega) he1 g3
      · exact lci_w5 size A ps (k0 + j : Nat) ps.length i p (sumE (p.take j)) p.length j p[j] p[j] a0 (by omega) he a1 (by omega) hAe a2 w1 w2 w3 w4 g1 (bfalse g2)
    · exact lci_w6 size A ps (k0 + j : Nat) ps.length i p (sumE (p.take j)) p.length j p[j] p[j] a0 (by omega) he a1 (by omega) hAe a2 w1 w2 w3 w4 (bfalse g1)

noncomputable abbrev lcoBody : Code := nav [true, true, true, true, true, true, false, true, false, false] (bodyOf Try.f5)
abbrev lcoH (size : Int) (A : List Ent) (ps : List (List Ent)) (k i : Nat) : AS :=
  ⟨tk [(1, vi size), (5, vl (ents A)), (6, vl (entss ps)), (7, vi (k : Int)), (22, vl (entss ps)), (23, vi (ps.length : Int)), (24, vi (i : Int))], []⟩

theorem lco_loop (size : Int) (A : List Ent) (ps : List (List Ent)) (hA : smallL A) (hps : ps.length ≤ 30) : ∀ (suf pre : List (List Ent)), ps = pre ++ suf → A = pre.flatten ++ suf.flatten → PartsOk size suf →
    EvL LP ΓL 117 0 lcoBody (lcoH size A ps pre.flatten.length pre.length) (.exit 0) ⟨tk [(5, vl (ents A)), (7, vi (A.length : Int))], []⟩
  | [], pre, hp, hAe, _ => by
    have h1 : ps.length = pre.length := by rw [hp]; simp
    have h2 : A.length = pre.flatten.length := by rw [hAe]; simp
    rw [h2]
    exact .leave (lco_w6 size A ps pre.flatten.length ps.length pre.length (decide_eq_false (by omega))) (by simp)
  | p :: suf, pre, hp, hAe, ⟨hne, hpk, hnext, hrest⟩ => by
    have hlt : pre.length < ps.length := by rw [hp]; simp
    have hAlen : A.length = pre.flatten.length + (p.length + suf.flatten.length) := by
      rw [hAe, List.length_append, List.flatten_cons, List.length_append]
    have he : ps[pre.length]? = some p := by rw [hp]; simp
    have hAp : ∀ n x, p[n]? = some x → A[pre.flatten.length + n]? = some x := by
      intro n x hx
      have hn := (List.getElem?_eq_some_iff.1 hx).1
      rw [hAe, List.getElem?_append_right (by omega), List.flatten_cons, List.getElem?_append_left (by omega)]
      rw [show pre.flatten.length + n - pre.flatten.length = n by omega]
      exact hx
    have hlen := hA.1
    have inner := lci_loop size A ps pre.length p pre.flatten.length hA (by omega) hAp hpk p.length 0 (by omega)
    have hp0 : 0 < p.length := List.length_pos_iff.2 hne
    have a0 : decide ((pre.length : Int) < (ps.length : Int)) = true := decide_eq_true (by omega)
    have a1 : ((p.length : Int) == (0 : Int)) = false := by simp; exact hne
    have w1 : IntKind.i64.wrap ((pre.length : Int) + 1) = (pre.length : Int) + 1 := wrapN (by omega) (by omega)
    have ih := lco_loop size A ps hA hps suf (pre ++ [p]) (by rw [hp]; simp) (by rw [hAe]; simp) hrest
    have e1 : (pre ++ [p]).flatten.length = pre.flatten.length + p.length := by simp
    have e2 : (pre ++ [p]).length = pre.length + 1 := by simp
    rw [e1, e2] at ih
    refine .next ?_ ih
    cases suf with
    | nil =>
      have h1 : ps.length = pre.length + 1 := by rw [hp]; simp
      exact lco_w5 size A ps pre.flatten.length ps.length pre.length p (pre.flatten.length + p.length : Nat) (sumE p) a0 (by omega) he a1 inner w1 (decide_eq_false (by omega))
    | cons q suf =>
      obtain ⟨c1, a, b, c2, c3, c4⟩ := hnext q suf rfl
      have h1 : ps.length = pre.length + 1 + 1 + suf.length := by rw [hp]; simp; omega
      have hq : ps[pre.length + 1]? = some q := by rw [hp, List.getElem?_append_right (by omega)]; simp
      have hpl : p.length ≤ 30 := by omega
      have w2 : IntKind.i64.wrap ((p.length : Int) - 1) = (p.length : Int) - 1 := wrapN (by omega) (by omega)
      have hn : Int.toNat ((p.length : Int) - 1) = p.length - 1 := by omega
      exact lco_w4 size A ps pre.flatten.length ps.length pre.length p (pre.flatten.length + p.length : Nat) (sumE p) q a b a0 (by omega) he a1 inner w1 (decide_eq_true (by omega)) (decide_eq_false (by omega)) (by omega) hq (by omega) c2 w2 (by omega) (by rw [hn]; exact c3) c4

theorem ΓL_ok : ∀ f, SoundF LP f (ΓL f) := env_sound (by simp [sound8, sound9, sound10, sound13])

def RCuts : List AV → AV → Prop := fun args r => ∃ (es : List Ent) (size : Int), args = [vl (ents es), vi size] ∧ r = vb true

theorem sound5 : SoundF LP 5 (.pure (relG RCuts)) := fn_pure (fn := Try.f5) mixedL ΓL_ok (by kernel_rfl) (by kernel_rfl) (by kernel_rfl) (by
  rintro args r ⟨es, size, rfl, rfl⟩
  refine ⟨rfl, rfl, ?_⟩
  cases hb : bigL es with
  | true => exact ⟨.ret, _, _, _, .inl rfl, lcf_w1 es size hb, rfl, .p _⟩
  | false =>
    have hs := small_of_big hb
    have ho := small_order hs
    obtain ⟨g1, g2, _, g4⟩ := cutR_ok size (orderL es) [] 0 rfl (pairs_short (by simp; omega)) (.inl rfl)
    have hl := lco_loop size (orderL es) (cutL (orderL es) size) ho (by have := ho.1; unfold cutL; omega) (cutL (orderL es) size) [] rfl (by unfold cutL; rw [g1]; rfl) g2
    exact ⟨.ret, _, _, _, .inl rfl, lcf_w2 es size _ hb (by have := hs.1; omega) ho hl (by simp), rfl, .p _⟩)

end Go.Ax
