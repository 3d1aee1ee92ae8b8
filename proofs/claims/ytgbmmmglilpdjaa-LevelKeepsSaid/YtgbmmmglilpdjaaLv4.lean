/- big, Clone, order: what they come to. -/
import Derived.Test.YtgbmmmglilpdjaaLv3
set_option linter.unusedVariables false
set_option linter.unusedSimpArgs false
namespace Go.Ax
open Go.Proofs Go.RowKit
set_option maxRecDepth 100000

theorem wrapN {x : Int} (h1 : 0 ≤ x) (h2 : x ≤ 1000000000000) : IntKind.i64.wrap x = x := wrap_i64 ⟨by omega, by omega⟩

/-! ### big -/
def bigE (e : Ent) : Bool := decide ((e.key.size : Int) > (200 : Int)) || decide ((e.val.size : Int) > (200 : Int))
def bigL (es : List Ent) : Bool := decide ((es.length : Int) > (30 : Int)) || es.any bigE

noncomputable abbrev bigBody : Code := nav [true, true, false, true, false, false] (bodyOf Try.f9)
abbrev bigH (es : List Ent) (i : Nat) : AS := ⟨tk [(8, vl (ents es)), (9, vi (es.length : Int)), (10, vi (i : Int))], []⟩

theorem big_loop (es : List Ent) (hs : es.length ≤ 30) : ∀ (k i : Nat), i + k = es.length →
    if (es.drop i).any bigE = true then EvL LP ΓE 25 0 bigBody (bigH es i) .ret ⟨tk [(2, vb true)], []⟩ else EvL LP ΓE 25 0 bigBody (bigH es i) (.exit 0) ⟨tk [], []⟩
  | 0, i, h => by
    rw [List.drop_eq_nil_of_le (by omega)]
    exact .leave (big_w4 es i es.length (decide_eq_false (by omega))) (by simp)
  | k + 1, i, h => by
    have hi : i < es.length := by omega
    have he : es[i]? = some es[i] := List.getElem?_eq_getElem hi
    rw [List.drop_eq_getElem_cons hi, List.any_cons]
    have h0 : decide ((i : Int) < (es.length : Int)) = true := decide_eq_true (by omega)
    have hi0 : (0 : Int) ≤ (i : Int) := by omega
    by_cases h1 : decide ((es[i].key.size : Int) > (200 : Int)) = true
    · rw [if_pos (by simp only [bigE, h1, Bool.true_or])]
      exact .leave (big_w1 es i es.length es[i] h0 hi0 he h1) (by simp)
    by_cases h2 : decide ((es[i].val.size : Int) > (200 : Int)) = true
    · rw [if_pos (by simp only [bigE, h2, Bool.true_or, Bool.or_true])]
      exact .leave (big_w2 es i es.length es[i] h0 hi0 he (bfalse h1) h2) (by simp)
    have hb : bigE es[i] = false := by simp only [bigE, bfalse h1, bfalse h2, Bool.or_self]
    rw [hb, Bool.false_or]
    have step := big_w3 es i es.length es[i] h0 hi0 he (bfalse h1) (bfalse h2) (wrapN (by omega) (by omega))
    have ih := big_loop es hs k (i + 1) (by omega)
    split
    · rename_i hc; rw [if_pos hc] at ih; exact .next step ih
    · rename_i hc; rw [if_neg hc] at ih; exact .next step ih

def RBig : List AV → AV → Prop := fun args r => ∃ es : List Ent, args = [vl (ents es)] ∧ r = vb (bigL es)
noncomputable def gBig := relG RBig
theorem gBig_eq (es : List Ent) : gBig [vl (ents es)] = some (vb (bigL es)) :=
  relG_eq (by
    rintro args r r' ⟨a, rfl, rfl⟩ ⟨a', h, rfl⟩
    simp only [List.cons.injEq, and_true, AV.p.injEq, PV.ls.injEq] at h
    rw [ents_inj h]) ⟨es, rfl, rfl⟩

theorem sound9 : SoundF LP 9 (.pure gBig) := fn_pure (fn := Try.f9) mixedL ΓE_ok (by kernel_rfl) (by kernel_rfl) (by kernel_rfl) (by
  rintro args r ⟨es, rfl, rfl⟩
  refine ⟨rfl, rfl, ?_⟩
  by_cases h1 : decide ((es.length : Int) > (30 : Int)) = true
  · have : bigL es = true := by simp only [bigL, h1, Bool.true_or]
    rw [this]
    exact ⟨.ret, _, _, _, .inl rfl, bigf_w1 es h1, rfl, .p _⟩
  · have hl := big_loop es (by simp at h1; omega) es.length 0 (by omega)
    have hb : bigL es = es.any bigE := by simp only [bigL, bfalse h1, Bool.false_or]
    rw [List.drop_zero] at hl
    rw [hb]
    split at hl
    · rename_i hc
      rw [hc]
      exact ⟨.ret, _, _, _, .inl rfl, bigf_w2 es (bfalse h1) hl, rfl, .p _⟩
    · rename_i hc
      rw [bfalse hc]
      exact ⟨.ret, _, _, _, .inl rfl, bigf_w3 es (bfalse h1) hl, rfl, .p _⟩)

/-! ### slices.Clone -/
def RClone : List AV → AV → Prop := fun args r => ∃ es : List Ent, es ≠ [] ∧ (es.length : Int) ≤ 1000000000 ∧ args = [vl (ents es)] ∧ r = vl (ents es)
noncomputable def gClone := relG RClone
theorem gClone_eq {es : List Ent} (h : es ≠ []) (hl : (es.length : Int) ≤ 1000000000) : gClone [vl (ents es)] = some (vl (ents es)) :=
  relG_eq (by
    rintro args r r' ⟨a, _, _, rfl, rfl⟩ ⟨a', _, _, h, rfl⟩
    simp only [List.cons.injEq, and_true] at h
    rw [h]) ⟨es, h, hl, rfl, rfl⟩

theorem sound26 : SoundF LP 26 (.pure gClone) := fn_pure (fn := Try.f26) mixedL ΓE_ok (by kernel_rfl) (by kernel_rfl) (by kernel_rfl) (by
  rintro args r ⟨es, h, hl, rfl, rfl⟩
  exact ⟨rfl, rfl, .ret, _, _, _, .inl rfl, clone_w1 es h hl, rfl, .p _⟩)

noncomputable def ΓC : Env := envOf [(26, .pure gClone)]
theorem ΓC_ok : ∀ f, SoundF LP f (ΓC f) := env_sound (by simp [sound26])

/-! ### order -/
def pos (x : Ent) : List Ent → Nat
  | [] => 0
  | y :: L => if decide ((y.cmp x) < (0 : Int)) = true then pos x L + 1 else 0

def insAt (L : List Ent) (x : Ent) (p : Nat) : List Ent := (L.take p ++ [x]) ++ L.drop p

def insL (L : List Ent) (x : Ent) : List Ent :=
  if (x.check != (0 : Int)) = true then L else
  match L[pos x L]? with
  | some y => if (y.cmp x == (0 : Int)) = true then L else insAt L x (pos x L)
  | none => insAt L x (pos x L)

def orderL (es : List Ent) : List Ent := es.foldl insL []

noncomputable abbrev ordIBody : Code := nav [true, true, false, true, false, false, true, true, false, false, true, true, true, false, false, false] (bodyOf Try.f10)
abbrev ordIH (es L : List Ent) (n i : Int) (x : Ent) (k : Nat) : AS := ⟨tk [(3, vl (ents L)), (5, .ptr 0 0 0), (6, vi (k : Int)), (9, vl (ents es)), (10, vi n), (11, vi i)], [.cells false 0 [vs x.key, vn .u64 x.seq, vb x.del, vs x.val]]⟩

theorem ord_inner (es L : List Ent) (n i : Int) (x : Ent) (hL : L.length ≤ 1000000) : ∀ (m k : Nat), k + m = L.length → EvL LP ΓE 62 0 ordIBody (ordIH es L n i x k) (.exit 2) (ordIH es L n i x (k + pos x (L.drop k)))
  | 0, k, h => by
    rw [List.drop_eq_nil_of_le (by omega)]
    exact .leave (ordi_w3 es L n i x k (decide_eq_false (by omega))) (by simp)
  | m + 1, k, h => by
    have hk : k < L.length := by omega
    have he : L[k]? = some L[k] := List.getElem?_eq_getElem hk
    rw [List.drop_eq_getElem_cons hk]
    have h0 : decide ((k : Int) < (L.length : Int)) = true := decide_eq_true (by omega)
    by_cases h1 : decide ((L[k].cmp x) < (0 : Int)) = true
    · have ih := ord_inner es L n i x hL m (k + 1) (by omega)
      rw [pos, if_pos h1, show k + (pos x (L.drop (k + 1)) + 1) = k + 1 + pos x (L.drop (k + 1)) by omega]
      exact .next (ordi_w1 es L n i x k L[k] h0 (by omega) he h1 (wrapN (by omega) (by omega))) ih
    · rw [pos, if_neg h1]
      exact .leave (ordi_w2 es L n i x k L[k] h0 (by omega) he (bfalse h1)) (by simp)

theorem pos_le (x : Ent) (L : List Ent) : pos x L ≤ L.length := by
  induction L with
  | nil => simp [pos]
  | cons y L ih => rw [pos]; split <;> simp <;> omega

theorem insL_len (L : List Ent) (x : Ent) : (insL L x).length ≤ L.length + 1 := by
  have hi : ∀ p, p ≤ L.length → (insAt L x p).length ≤ L.length + 1 := by intro p hp; simp [insAt]; omega
  have := hi _ (pos_le x L)
  unfold insL
  split
  · omega
  · split
    · split <;> omega
    · exact this

noncomputable abbrev ordBody : Code := nav [true, true, false, true, false, false] (bodyOf Try.f10)
abbrev ordH (es L : List Ent) (i : Nat) : AS := ⟨tk [(3, vl (ents L)), (9, vl (ents es)), (10, vi (es.length : Int)), (11, vi (i : Int))], []⟩

theorem ord_round (es L : List Ent) (i : Nat) (hi : i < es.length) (hes : es.length ≤ 1000) (hL : L.length ≤ 1000) : EvC LP ΓE 62 0 ordBody (ordH es L i) .normal (ordH es (insL L es[i]) (i + 1)) := by
  have he : es[i]? = some es[i] := List.getElem?_eq_getElem hi
  have h0 : decide ((i : Int) < (es.length : Int)) = true := decide_eq_true (by omega)
  have hi0 : (0 : Int) ≤ (i : Int) := by omega
  have hw : IntKind.i64.wrap ((i : Int) + 1) = (i : Int) + 1 := wrapN (by omega) (by omega)
  generalize hx : es[i] = x at he
  by_cases h1 : (x.check != (0 : Int)) = true
  · have : insL L x = L := by rw [insL, if_pos h1]
    rw [this]
    exact ordo_w1 es L es.length i x h0 hi0 he h1 hw
  · have inner := ord_inner es L es.length i x (by omega) L.length 0 (by omega)
    rw [List.drop_zero, Nat.zero_add] at inner
    have hp := pos_le x L
    cases hq : L[pos x L]? with
    | some y =>
      have hlt : pos x L < L.length := (List.getElem?_eq_some_iff.1 hq).1
      have h2 : decide ((pos x L : Int) < (L.length : Int)) = true := decide_eq_true (by omega)
      by_cases h3 : (y.cmp x == (0 : Int)) = true
      · have : insL L x = L := by rw [insL, if_neg h1, hq]; simp only; rw [if_pos h3]
        rw [this]
        exact ordo_w2 es L es.length i x (pos x L) y h0 hi0 he (bfalse h1) inner h2 (by omega) hq h3 hw
      · have : insL L x = insAt L x (pos x L) := by rw [insL, if_neg h1, hq]; simp only; rw [if_neg h3]
        rw [this]
        exact ordo_w3 es L es.length i x (pos x L) y h0 hi0 he (bfalse h1) inner h2 (by omega) hq (bfalse h3) ⟨by omega, by omega⟩ (by simp; omega) (by simp; omega) (by simp; omega) hw
    | none =>
      have hge : L.length ≤ pos x L := List.getElem?_eq_none_iff.1 hq
      have : insL L x = insAt L x (pos x L) := by rw [insL, if_neg h1, hq]
      rw [this]
      exact ordo_w4 es L es.length i x (pos x L) h0 hi0 he (bfalse h1) inner (decide_eq_false (by omega)) ⟨by omega, by omega⟩ (by simp; omega) (by simp; omega) (by simp; omega) hw

theorem ord_loop (es : List Ent) (hes : es.length ≤ 100) : ∀ (k i : Nat) (L : List Ent), i + k = es.length → L.length ≤ i → EvL LP ΓE 62 0 ordBody (ordH es L i) (.exit 0) ⟨tk [(3, vl (ents ((es.drop i).foldl insL L)))], []⟩
  | 0, i, L, h, hL => by
    rw [List.drop_eq_nil_of_le (by omega)]
    exact .leave (ordo_w5 es L es.length i (decide_eq_false (by omega))) (by simp)
  | k + 1, i, L, h, hL => by
    have hi : i < es.length := by omega
    rw [List.drop_eq_getElem_cons hi, List.foldl_cons]
    have := insL_len L es[i]
    exact .next (ord_round es L i hi (by omega) (by omega)) (ord_loop es hes k (i + 1) _ (by omega) (by omega))

def ROrder : List AV → AV → Prop := fun args r => ∃ es : List Ent, (es.length : Int) ≤ 30 ∧ args = [vl (ents es)] ∧ r = vl (ents (orderL es))
noncomputable def gOrder := relG ROrder
theorem gOrder_eq {es : List Ent} (h : (es.length : Int) ≤ 30) : gOrder [vl (ents es)] = some (vl (ents (orderL es))) :=
  relG_eq (by
    rintro args r r' ⟨a, _, rfl, rfl⟩ ⟨a', _, h, rfl⟩
    simp only [List.cons.injEq, and_true, AV.p.injEq, PV.ls.injEq] at h
    rw [ents_inj h]) ⟨es, h, rfl, rfl⟩

theorem sound10 : SoundF LP 10 (.pure gOrder) := fn_pure (fn := Try.f10) mixedL ΓE_ok (by kernel_rfl) (by kernel_rfl) (by kernel_rfl) (by
  rintro args r ⟨es, h, rfl, rfl⟩
  have hl := ord_loop es (by omega) es.length 0 [] (by omega) (by simp)
  rw [List.drop_zero] at hl
  exact ⟨rfl, rfl, .ret, _, _, _, .inl rfl, ordf_w1 es _ hl, rfl, .p _⟩)

end Go.Ax
