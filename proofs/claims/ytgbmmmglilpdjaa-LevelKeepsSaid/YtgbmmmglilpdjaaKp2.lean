/- ContainsFunc with Keep's closure. -/
import Derived.Test.YtgbmmmglilpdjaaKp1
set_option linter.unusedVariables false
set_option linter.unusedSimpArgs false
namespace Go.Ax
open Go.Proofs Go.RowKit
set_option maxRecDepth 100000

theorem lt_of_get {B : List Box} {a : Nat} {b : Box} (h : B[a]? = some b) : a < B.length := (List.getElem?_eq_some_iff.1 h).1

theorem sound25 : SoundF LP 25 (.gen gK25) := fn_gen (fn := Try.f25) mixedL (fun f => sound_none f) (by kernel_rfl) (by kernel_rfl) (by kernel_rfl) (by
  rintro args B r ⟨s, a, va, x, b, vb_, O, c, vc, i, o1, hlow, rfl, h1, h2, h3, h4, h5, h6, rfl⟩
  refine ⟨rfl, ?_, hlow, ?_⟩
  · simp [AV.low, lt_of_get h1, lt_of_get h2, lt_of_get h3, Nat.blt_eq]
  have hw : IntKind.i64.wrap (i - 1) = i - 1 := wrapN (by omega) (by omega)
  have fin : ∀ q : Bool, EvC LP Γ0 20 B.length (nav [] (bodyOf Try.f25)) ⟨tk [(0, vn .u64 s), (1, .ptr a va 0), (2, .ptr b vb_ 0), (3, .ptr c vc 0)], B⟩ .ret ⟨tk [(5, vb q)], B⟩ → q = between x o1 s →
      ∃ e l vs, (e = AE.ret ∨ e = AE.normal) ∧ EvC LP Γ0 Try.f25.ntmps B.length (bodyOf Try.f25) ⟨tk (numL 0 [vn .u64 s, .ptr a va 0, .ptr b vb_ 0, .ptr c vc 0]), B⟩ e ⟨tk l, (vb (between x o1 s), B).2⟩ ∧
        resList LP ⟨tk l, (vb (between x o1 s), B).2⟩ Try.f25.results.toList = some vs ∧ oneOf vs = (vb (between x o1 s), B).1 := by
    rintro q h rfl
    exact ⟨.ret, _, [vb (between x o1 s)], .inl rfl, h, rfl, rfl⟩
  by_cases g1 : decide (s ≥ x.seq) = true
  · by_cases g2 : decide (s < o1.seq) = true
    · exact fin true (k25_w1 B hlow s a va x b vb_ O c vc i o1 h1 g1 h2 h3 hw (by omega) h6 g2) (by unfold between; rw [g1, g2]; rfl)
    · exact fin false (k25_w2 B hlow s a va x b vb_ O c vc i o1 h1 g1 h2 h3 hw (by omega) h6 (bfalse g2)) (by unfold between; rw [g1, bfalse g2]; rfl)
  · exact fin false (k25_w3 B hlow s a va x b vb_ O c vc i h1 (bfalse g1)) (by unfold between; rw [bfalse g1]; rfl))

theorem ΓK25_ok : ∀ f, SoundF LP f (ΓK25 f) := env_sound (by simp [sound25])

noncomputable abbrev k37Body : Code := nav [true, false, true, false, false] (bodyOf Try.f37)
abbrev k37H (B : List Box) (caps : List AV) (S : List Int) (i : Nat) : AS := ⟨tk [(0, vl (ints S)), (1, .fn 25 caps), (6, vl (ints S)), (7, vi (S.length : Int)), (8, vi (i : Int))], B⟩

theorem k37_loop {B : List Box} {caps : List AV} {S : List Int} {p : Int → Bool} (hp : PredOk B caps S p) : ∀ (k i : Nat), i + k = S.length →
    (idxF p (S.drop i) i = -1 ∧ EvL LP ΓK25 19 B.length k37Body (k37H B caps S i) (.exit 0) ⟨tk [], B⟩) ∨ (0 ≤ idxF p (S.drop i) i ∧ EvL LP ΓK25 19 B.length k37Body (k37H B caps S i) .ret ⟨tk [(4, vi (idxF p (S.drop i) i))], B⟩)
  | 0, i, h => by
    have e0 : S.drop i = [] := List.drop_eq_nil_of_le (by omega)
    rw [e0]
    exact .inl ⟨rfl, .leave (k37_w3 B hp.low caps hp.cap S S.length i (decide_eq_false (by omega))) (by simp)⟩
  | k + 1, i, h => by
    have hi : i < S.length := by omega
    have he : S[i]? = some S[i] := List.getElem?_eq_getElem hi
    have h0 : decide ((i : Int) < (S.length : Int)) = true := decide_eq_true (by omega)
    have hl := hp.len
    have hev := hp.ev _ (List.getElem_mem hi)
    rw [List.drop_eq_getElem_cons hi, idxF]
    by_cases hq : p S[i] = true
    · rw [if_pos hq]
      rw [hq] at hev
      exact .inr ⟨by omega, .leave (k37_w1 B hp.low caps hp.cap S S.length i S[i] h0 (by omega) he hev) (by simp)⟩
    · rw [if_neg hq]
      rw [bfalse hq] at hev
      have step := k37_w2 B hp.low caps hp.cap S S.length i S[i] h0 (by omega) he hev (wrapN (by omega) (by omega))
      rcases k37_loop hp k (i + 1) (by omega) with ⟨g1, g2⟩ | ⟨g1, g2⟩
      · exact .inl ⟨g1, .next step g2⟩
      · exact .inr ⟨g1, .next step g2⟩

theorem sound37 : SoundF LP 37 (.gen gK37) := fn_gen (fn := Try.f37) mixedL ΓK25_ok (by kernel_rfl) (by kernel_rfl) (by kernel_rfl) (by
  rintro args B r ⟨S, caps, p, hp, rfl, rfl⟩
  have hlow := hp.low
  have hcap := hp.cap
  refine ⟨rfl, by simp [AV.low, hcap], hlow, ?_⟩
  rcases k37_loop hp S.length 0 (by omega) with ⟨g1, g2⟩ | ⟨g1, g2⟩
  · rw [List.drop_zero] at g1
    have g1' : idxF p S 0 = -1 := g1
    rw [g1']
    exact ⟨.ret, _, [vi (-1)], .inl rfl, k37f_w2 B hlow caps hcap S g2, rfl, rfl⟩
  · rw [List.drop_zero] at g2
    exact ⟨.ret, _, [vi (idxF p S 0)], .inl rfl, k37f_w1 B hlow caps hcap S _ g2, rfl, rfl⟩)

theorem ΓK37_ok : ∀ f, SoundF LP f (ΓK37 f) := env_sound (by simp [sound37])

theorem idxF_any (p : Int → Bool) : ∀ (S : List Int) (i : Int), 0 ≤ i → (S.any p = true ∧ 0 ≤ idxF p S i) ∨ (S.any p = false ∧ idxF p S i = -1)
  | [], _, _ => .inr ⟨rfl, rfl⟩
  | s :: S, i, hi => by
    rw [List.any_cons, idxF]
    by_cases h : p s = true
    · rw [if_pos h, h]; exact .inl ⟨rfl, hi⟩
    · rw [if_neg h, bfalse h, Bool.false_or]; exact idxF_any p S (i + 1) (by omega)

theorem sound24 : SoundF LP 24 (.gen gK24) := fn_gen (fn := Try.f24) mixedL ΓK37_ok (by kernel_rfl) (by kernel_rfl) (by kernel_rfl) (by
  rintro args B r ⟨S, caps, p, hp, rfl, rfl⟩
  have hlow := hp.low
  have hcap := hp.cap
  have hg : gK37 [vl (ints S), .fn 25 caps] B = some (vi (idxF p S 0), B) := gK37_eq ⟨S, caps, p, hp, rfl, rfl⟩
  refine ⟨rfl, by simp [AV.low, hcap], hlow, ?_⟩
  rcases idxF_any p S 0 (Int.le_refl _) with ⟨g1, g2⟩ | ⟨g1, g2⟩
  · rw [g1]
    exact ⟨.ret, _, [vb true], .inl rfl, k24_w1 B hlow caps hcap S _ hg (decide_eq_true g2), rfl, rfl⟩
  · rw [g1]
    exact ⟨.ret, _, [vb false], .inl rfl, k24_w2 B hlow caps hcap S _ hg (decide_eq_false (by omega)), rfl, rfl⟩)

theorem ΓK24_ok : ∀ f, SoundF LP f (ΓK24 f) := env_sound (by simp [sound24])

end Go.Ax
