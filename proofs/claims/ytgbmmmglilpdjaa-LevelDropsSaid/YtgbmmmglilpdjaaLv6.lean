/- Cut: what it comes to. -/
import Derived.Test.YtgbmmmglilpdjaaLv5
set_option linter.unusedVariables false
set_option linter.unusedSimpArgs false
namespace Go.Ax
open Go.Proofs Go.RowKit
set_option maxRecDepth 100000

def esz (e : Ent) : Int := (e.key.size : Int) + (e.val.size : Int)

/-- Does a part end behind e, s bytes being in it? -/
def cutEnds (size s : Int) (e : Ent) : List Ent → Bool
  | [] => true
  | y :: _ => decide (s ≥ size) && (!(y.key.toList == e.key.toList))

def cutR (size : Int) : List Ent → Int → List Ent → List (List Ent)
  | _, _, [] => []
  | cur, sum, e :: rest => if cutEnds size (sum + esz e) e rest = true then (cur ++ [e]) :: cutR size [] 0 rest else cutR size (cur ++ [e]) (sum + esz e) rest

def cutL (es : List Ent) (size : Int) : List (List Ent) := cutR size [] 0 es

def smallL (es : List Ent) : Prop := es.length ≤ 30 ∧ ∀ e ∈ es, e.key.size ≤ 200 ∧ e.val.size ≤ 200

noncomputable abbrev cutBody : Code := nav [true, true, true, false, true, false, false] (bodyOf Try.f13)
abbrev cutH0 (es : List Ent) (size : Int) (i fr : Nat) (sum : Int) : AS := ⟨tk [(0, vl (ents es)), (1, vi size), (5, nilS), (6, vi (fr : Int)), (7, vi sum), (10, vl (ents es)), (11, vi (es.length : Int)), (12, vi (i : Int))], []⟩
abbrev cutH1 (es : List Ent) (size : Int) (i fr : Nat) (sum : Int) (v : Nat) (L : List (List Ent)) : AS := ⟨tk [(0, vl (ents es)), (1, vi size), (5, .rs 0 v 1 0 L.length), (6, vi (fr : Int)), (7, vi sum), (10, vl (ents es)), (11, vi (es.length : Int)), (12, vi (i : Int))], [.cells true v (rowC (entss L))]⟩

theorem take_drop_snoc (es : List Ent) (fr i : Nat) (hf : fr ≤ i) (hi : i < es.length) : (es.take (i + 1)).drop fr = (es.take i).drop fr ++ [es[i]] := by
  rw [List.take_succ_eq_append_getElem hi, List.drop_append_of_le_length (by simp; omega)]

theorem esz_b {es : List Ent} (hs : smallL es) {i : Nat} (hi : i < es.length) : 0 ≤ esz es[i] ∧ esz es[i] ≤ 400 := by
  have := hs.2 _ (List.getElem_mem hi)
  unfold esz
  omega

theorem pickT {c : Bool} {A B : Prop} (h : c = true) (a : A) : (c = true → A) ∧ (c = false → B) := ⟨fun _ => a, fun h' => absurd (h.symm.trans h') (by simp)⟩
theorem pickF {c : Bool} {A B : Prop} (h : c = false) (b : B) : (c = true → A) ∧ (c = false → B) := ⟨fun h' => absurd (h.symm.trans h') (by simp), fun _ => b⟩

/-- A round: what it does to the part under way and to the parts. -/
theorem cut_round1 (es : List Ent) (size : Int) (hs : smallL es) (i fr : Nat) (sum : Int) (v : Nat) (L : List (List Ent)) (hi : i < es.length) (hf : fr ≤ i) (h0 : 0 ≤ sum) (h1 : sum ≤ 400 * i) (hL : L.length ≤ i) :
    (cutEnds size (sum + esz es[i]) es[i] (es.drop (i + 1)) = true → EvC LP ΓC 60 0 cutBody (cutH1 es size i fr sum v L) .normal (cutH1 es size (i + 1) (i + 1) 0 (v + 1) (L ++ [(es.take (i + 1)).drop fr]))) ∧
    (cutEnds size (sum + esz es[i]) es[i] (es.drop (i + 1)) = false → EvC LP ΓC 60 0 cutBody (cutH1 es size i fr sum v L) .normal (cutH1 es size (i + 1) fr (sum + esz es[i]) v L)) := by
  have he : es[i]? = some es[i] := List.getElem?_eq_getElem hi
  have hz := esz_b hs hi
  have hlen := hs.1
  have a0 : decide ((i : Int) < (es.length : Int)) = true := decide_eq_true (by omega)
  have a1 : (0 : Int) ≤ (i : Int) := by omega
  have a2 : IntKind.i64.wrap ((es[i].key.size : Int) + (es[i].val.size : Int)) = (es[i].key.size : Int) + (es[i].val.size : Int) := wrapN (by unfold esz at hz; omega) (by unfold esz at hz; omega)
  have a3 : IntKind.i64.wrap (sum + ((es[i].key.size : Int) + (es[i].val.size : Int))) = sum + ((es[i].key.size : Int) + (es[i].val.size : Int)) := wrapN (by unfold esz at hz; omega) (by unfold esz at hz; omega)
  have a4 : IntKind.i64.wrap ((i : Int) + 1) = (i : Int) + 1 := wrapN (by omega) (by omega)
  have b4 : (((es.take (i + 1)).drop fr).length : Int) ≤ 1000000000 := by simp; omega
  have n1 : (es.take (i + 1)).drop fr ≠ [] := by rw [take_drop_snoc es fr i hf hi]; simp
  have b1 : (0 : Int) ≤ (i : Int) + 1 ∧ (i : Int) + 1 ≤ (es.length : Int) := by omega
  have b2 : (0 : Int) ≤ (fr : Int) ∧ (fr : Int) ≤ (i : Int) + 1 := by omega
  have b3 : ((L ++ ([((es.take (i + 1)).drop fr)])).length : Int) ≤ 1000000000 := by simp; omega
  by_cases hlast : i + 1 = es.length
  · rw [List.drop_eq_nil_of_le (by omega)]
    refine pickT rfl ?_
    exact cut1_w1 es size fr sum es.length i v L es[i] a0 a1 he a2 a3 a4 (by simp; omega) b1 b2 n1 b4 (by simpa using b3)
  · have hi2 : i + 1 < es.length := by omega
    have he2 : es[i + 1]? = some es[i + 1] := List.getElem?_eq_getElem hi2
    have c1 : ((i : Int) + 1 == (es.length : Int)) = false := by simp; omega
    rw [List.drop_eq_getElem_cons hi2]
    simp only [cutEnds]
    by_cases g1 : decide (sum + ((es[i].key.size : Int) + (es[i].val.size : Int)) ≥ size) = true
    · by_cases g2 : (!(es[i + 1].key.toList == es[i].key.toList)) = true
      · refine pickT (by unfold esz; rw [g1, g2]; rfl) ?_
        exact cut1_w2 es size fr sum es.length i v L es[i] es[i + 1] a0 a1 he a2 a3 a4 c1 g1 (by omega) he2 g2 b1 b2 n1 b4 (by simpa using b3)
      · refine pickF (by rw [bfalse g2, Bool.and_false]) ?_
        exact cut1_w3 es size fr sum es.length i v L es[i] es[i + 1] a0 a1 he a2 a3 a4 c1 g1 (by omega) he2 (bfalse g2)
    · refine pickF (by unfold esz; rw [bfalse g1]; rfl) ?_
      exact cut1_w4 es size fr sum es.length i v L es[i] a0 a1 he a2 a3 a4 c1 (bfalse g1)

theorem cut_round0 (es : List Ent) (size : Int) (hs : smallL es) (i fr : Nat) (sum : Int) (hi : i < es.length) (hf : fr ≤ i) (h0 : 0 ≤ sum) (h1 : sum ≤ 400 * i) :
    (cutEnds size (sum + esz es[i]) es[i] (es.drop (i + 1)) = true → EvC LP ΓC 60 0 cutBody (cutH0 es size i fr sum) .normal (cutH1 es size (i + 1) (i + 1) 0 0 [(es.take (i + 1)).drop fr])) ∧
    (cutEnds size (sum + esz es[i]) es[i] (es.drop (i + 1)) = false → EvC LP ΓC 60 0 cutBody (cutH0 es size i fr sum) .normal (cutH0 es size (i + 1) fr (sum + esz es[i]))) := by
  have he : es[i]? = some es[i] := List.getElem?_eq_getElem hi
  have hz := esz_b hs hi
  have hlen := hs.1
  have a0 : decide ((i : Int) < (es.length : Int)) = true := decide_eq_true (by omega)
  have a1 : (0 : Int) ≤ (i : Int) := by omega
  have a2 : IntKind.i64.wrap ((es[i].key.size : Int) + (es[i].val.size : Int)) = (es[i].key.size : Int) + (es[i].val.size : Int) := wrapN (by unfold esz at hz; omega) (by unfold esz at hz; omega)
  have a3 : IntKind.i64.wrap (sum + ((es[i].key.size : Int) + (es[i].val.size : Int))) = sum + ((es[i].key.size : Int) + (es[i].val.size : Int)) := wrapN (by unfold esz at hz; omega) (by unfold esz at hz; omega)
  have a4 : IntKind.i64.wrap ((i : Int) + 1) = (i : Int) + 1 := wrapN (by omega) (by omega)
  have b4 : (((es.take (i + 1)).drop fr).length : Int) ≤ 1000000000 := by simp; omega
  have n1 : (es.take (i + 1)).drop fr ≠ [] := by rw [take_drop_snoc es fr i hf hi]; simp
  have b1 : (0 : Int) ≤ (i : Int) + 1 ∧ (i : Int) + 1 ≤ (es.length : Int) := by omega
  have b2 : (0 : Int) ≤ (fr : Int) ∧ (fr : Int) ≤ (i : Int) + 1 := by omega
  by_cases hlast : i + 1 = es.length
  · rw [List.drop_eq_nil_of_le (by omega)]
    refine pickT rfl ?_
    exact cut0_w1 es size fr sum es.length i es[i] a0 a1 he a2 a3 a4 (by simp; omega) b1 b2 n1 b4 (by simp)
  · have hi2 : i + 1 < es.length := by omega
    have he2 : es[i + 1]? = some es[i + 1] := List.getElem?_eq_getElem hi2
    have c1 : ((i : Int) + 1 == (es.length : Int)) = false := by simp; omega
    rw [List.drop_eq_getElem_cons hi2]
    simp only [cutEnds]
    by_cases g1 : decide (sum + ((es[i].key.size : Int) + (es[i].val.size : Int)) ≥ size) = true
    · by_cases g2 : (!(es[i + 1].key.toList == es[i].key.toList)) = true
      · refine pickT (by unfold esz; rw [g1, g2]; rfl) ?_
        exact cut0_w2 es size fr sum es.length i es[i] es[i + 1] a0 a1 he a2 a3 a4 c1 g1 (by omega) he2 g2 b1 b2 n1 b4 (by simp)
      · refine pickF (by rw [bfalse g2, Bool.and_false]) ?_
        exact cut0_w3 es size fr sum es.length i es[i] es[i + 1] a0 a1 he a2 a3 a4 c1 g1 (by omega) he2 (bfalse g2)
    · refine pickF (by unfold esz; rw [bfalse g1]; rfl) ?_
      exact cut0_w4 es size fr sum es.length i es[i] a0 a1 he a2 a3 a4 c1 (bfalse g1)

abbrev cutX (v : Nat) (R : List (List Ent)) : AS := ⟨tk [(5, .rs 0 v 1 0 R.length)], [.cells true v (rowC (entss R))]⟩

theorem cut_loop1 (es : List Ent) (size : Int) (hs : smallL es) : ∀ (k i fr : Nat) (sum : Int) (v : Nat) (L : List (List Ent)), i + k = es.length → fr ≤ i → 0 ≤ sum → sum ≤ 400 * i → L.length ≤ i →
    ∃ v', EvL LP ΓC 60 0 cutBody (cutH1 es size i fr sum v L) (.exit 0) (cutX v' (L ++ cutR size ((es.take i).drop fr) sum (es.drop i)))
  | 0, i, fr, sum, v, L, h, hf, h0, h1, hL => by
    refine ⟨v, ?_⟩
    have e0 : es.drop i = [] := List.drop_eq_nil_of_le (by omega)
    rw [e0, cutR, List.append_nil]
    exact .leave (cut1_w5 es size fr sum es.length i v L (decide_eq_false (by omega))) (by simp)
  | k + 1, i, fr, sum, v, L, h, hf, h0, h1, hL => by
    have hi : i < es.length := by omega
    have hz := esz_b hs hi
    have hr := cut_round1 es size hs i fr sum v L hi hf h0 h1 hL
    have hsn := take_drop_snoc es fr i hf hi
    rw [List.drop_eq_getElem_cons hi, cutR]
    by_cases hc : cutEnds size (sum + esz es[i]) es[i] (es.drop (i + 1)) = true
    · have hr := hr.1 hc
      obtain ⟨v', ih⟩ := cut_loop1 es size hs k (i + 1) (i + 1) 0 (v + 1) (L ++ [(es.take (i + 1)).drop fr]) (by omega) (Nat.le_refl _) (Int.le_refl _) (by omega) (by simp; omega)
      have e1 : (es.take (i + 1)).drop (i + 1) = [] := List.drop_eq_nil_of_le (by simp; omega)
      rw [e1, List.append_assoc, List.singleton_append, hsn] at ih
      rw [if_pos hc]
      refine ⟨v', .next hr ?_⟩
      rw [hsn]
      exact ih
    · have hr := hr.2 (bfalse hc)
      obtain ⟨v', ih⟩ := cut_loop1 es size hs k (i + 1) fr (sum + esz es[i]) v L (by omega) (by omega) (by omega) (by omega) (by omega)
      rw [hsn] at ih
      rw [if_neg hc]
      exact ⟨v', .next hr ih⟩

theorem cut_loop0 (es : List Ent) (size : Int) (hs : smallL es) : ∀ (k i fr : Nat) (sum : Int), i + k = es.length → fr ≤ i → 0 ≤ sum → sum ≤ 400 * i →
    (es.drop i = [] ∧ EvL LP ΓC 60 0 cutBody (cutH0 es size i fr sum) (.exit 0) ⟨tk [(5, nilS)], []⟩) ∨
    (es.drop i ≠ [] ∧ ∃ v', EvL LP ΓC 60 0 cutBody (cutH0 es size i fr sum) (.exit 0) (cutX v' (cutR size ((es.take i).drop fr) sum (es.drop i))))
  | 0, i, fr, sum, h, hf, h0, h1 => .inl ⟨List.drop_eq_nil_of_le (by omega), .leave (cut0_w5 es size fr sum es.length i (decide_eq_false (by omega))) (by simp)⟩
  | k + 1, i, fr, sum, h, hf, h0, h1 => by
    have hi : i < es.length := by omega
    have hz := esz_b hs hi
    have hr := cut_round0 es size hs i fr sum hi hf h0 h1
    have hsn := take_drop_snoc es fr i hf hi
    have hd := List.drop_eq_getElem_cons hi
    refine .inr ⟨fun hn => (by rw [hd] at hn; cases hn), ?_⟩
    rw [hd, cutR]
    by_cases hc : cutEnds size (sum + esz es[i]) es[i] (es.drop (i + 1)) = true
    · have hr := hr.1 hc
      obtain ⟨v', ih⟩ := cut_loop1 es size hs k (i + 1) (i + 1) 0 0 [(es.take (i + 1)).drop fr] (by omega) (Nat.le_refl _) (Int.le_refl _) (by omega) (by simp)
      have e1 : (es.take (i + 1)).drop (i + 1) = [] := List.drop_eq_nil_of_le (by simp; omega)
      rw [e1, List.singleton_append, hsn] at ih
      rw [if_pos hc]
      refine ⟨v', .next hr ?_⟩
      rw [hsn]
      exact ih
    · have hr := hr.2 (bfalse hc)
      rw [if_neg hc]
      rcases cut_loop0 es size hs k (i + 1) fr (sum + esz es[i]) (by omega) (by omega) (by omega) (by omega) with ⟨g1, g2⟩ | ⟨g1, v', g2⟩
      · rw [g1] at hc
        exact absurd rfl hc
      · rw [hsn] at g2
        exact ⟨v', .next hr g2⟩

def RCut : List AV → AV → Prop := fun args r => ∃ (es : List Ent) (size : Int), smallL es ∧ args = [vl (ents es), vi size] ∧ r = vl (entss (cutL es size))
noncomputable def gCut := relG RCut
theorem gCut_eq {es : List Ent} {size : Int} (h : smallL es) : gCut [vl (ents es), vi size] = some (vl (entss (cutL es size))) :=
  relG_eq (by
    rintro args r r' ⟨a, s, _, rfl, rfl⟩ ⟨a', s', _, h, rfl⟩
    simp only [List.cons.injEq, and_true, AV.p.injEq, PV.ls.injEq, PV.v.injEq, Value.int.injEq, true_and] at h
    rw [ents_inj h.1, h.2]) ⟨es, size, h, rfl, rfl⟩

theorem sound13 : SoundF LP 13 (.pure gCut) := fn_pure (fn := Try.f13) mixedL ΓC_ok (by kernel_rfl) (by kernel_rfl) (by kernel_rfl) (by
  rintro args r ⟨es, size, hs, rfl, rfl⟩
  refine ⟨rfl, rfl, ?_⟩
  rcases cut_loop0 es size hs es.length 0 0 0 (by omega) (Nat.le_refl _) (Int.le_refl _) (by omega) with ⟨g1, g2⟩ | ⟨g1, v', g2⟩
  · rw [List.drop_zero] at g1
    subst g1
    exact ⟨.ret, _, _, _, .inl rfl, cutf_w1 [] size g2, rfl, .nil⟩
  · rw [List.drop_zero] at g2
    exact ⟨.ret, _, _, _, .inl rfl, cutf_w2 es size v' _ g2, rfl, .p _⟩)

end Go.Ax
