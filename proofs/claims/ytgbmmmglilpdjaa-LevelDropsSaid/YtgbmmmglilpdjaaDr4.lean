/- LevelDrops: the walk's end. Printed in part by gen/g11.py. -/
import Derived.Test.YtgbmmmglilpdjaaDr3
set_option linter.unusedVariables false
set_option linter.unusedSimpArgs false
namespace Go.Ax
open Go.Proofs Go.RowKit
set_option maxRecDepth 100000

theorem keepGo_len (S : List Int) (bot : Bool) : ∀ (rest R O : List Ent), (keepGo S bot R O rest).length ≤ R.length + O.length + rest.length
  | [], R, O => by
    have := done_len S bot O
    simp only [keepGo, List.length_append, List.length_nil]
    omega
  | x :: r, R, O => by
    rw [keepGo]
    split
    · have := keepGo_len S bot r R (O ++ [x])
      simp only [List.length_append, List.length_cons, List.length_nil] at this ⊢
      omega
    · have := keepGo_len S bot r (R ++ doneL S bot O) [x]
      have h2 := done_len S bot O
      simp only [List.length_append, List.length_cons, List.length_nil] at this ⊢
      omega

theorem dr_round (S : List Int) (bot : Bool) (A K : List Ent) (hA : Sorted A) (hAl : A.length ≤ 1000000) (hS : S.length ≤ 1000000) (hK : K = keepL A S bot) (i : Nat) (hi : i < K.length) : EvC LP ΓDr 113 0 drBody (drH S bot A K i) .normal (drH S bot A K (i + 1)) := by
  have hKl : K.length ≤ A.length := by
    rw [hK]
    have := keepGo_len S bot A [] []
    simpa [keepL] using this
  have he : K[i]? = some K[i] := List.getElem?_eq_getElem hi
  obtain ⟨d1, d2⟩ := drops S bot hA (i := i) (x := K[i]) (by rw [← hK]; exact he)
  rw [← hK] at d2
  generalize hx : K[i] = x at he d1 d2
  have l2 := dr2_loop S bot A K i x hAl A.length 0 zeroE (by omega)
  rw [List.drop_zero] at l2
  generalize hY : aheadF x zeroE A = Y at l2 d1
  have h0 : decide ((i : Int) < (K.length : Int)) = true := decide_eq_true (by omega)
  have hi0 : (0 : Int) ≤ (i : Int) := by omega
  have hw : IntKind.i64.wrap ((i : Int) + 1) = (i : Int) + 1 := wrapN (by omega) (by omega)
  have l3 := dr3_loop S bot A K i x Y hS S.length 0 (Y.key.toList == (⟨#[]⟩ : ByteArray).toList) (by omega)
  rw [List.drop_zero] at l3
  have hu : ((Y.key.toList == (⟨#[]⟩ : ByteArray).toList) || S.any (between x Y)) = true := by
    rcases d1 with d1 | d1
    · have hz : (zeroE.key.toList == (⟨#[]⟩ : ByteArray).toList) = true := by rw [show zeroE.key = (⟨#[]⟩ : ByteArray) from rfl]; exact beq_self_eq_true _
      rw [d1, hz, Bool.true_or]
    · rw [d1, Bool.or_true]
  rw [hu] at l3
  cases hq : (Y.key.toList == (⟨#[]⟩ : ByteArray).toList) with
  | true =>
    rw [hq] at l3
    by_cases hl : i + 1 = K.length
    · have c8 : ((i : Int) + 1 == (K.length : Int)) = true := by simp; omega
      by_cases hb : bot = true
      · exact dr1_w2 S bot A K K.length i x Y true h0 hi0 he l2 hq l3 hw c8 rfl hb (d2 hb (.inl hl))
      · exact dr1_w3 S bot A K K.length i x Y true h0 hi0 he l2 hq l3 hw c8 rfl (bfalse hb)
    · have c8 : ((i : Int) + 1 == (K.length : Int)) = false := by simp; omega
      have hi1 : i + 1 < K.length := by omega
      have he1 : K[i + 1]? = some K[i + 1] := List.getElem?_eq_getElem hi1
      by_cases hk : (K[i + 1].key.toList == x.key.toList) = true
      · have hn : (!(K[i + 1].key.toList == x.key.toList)) = false := by rw [hk]; rfl
        by_cases hb : bot = true
        · exact dr1_w9 S bot A K K.length i x Y true K[i + 1] h0 hi0 he l2 hq l3 hw c8 (by omega) he1 hn rfl hb
        · exact dr1_w10 S bot A K K.length i x Y true K[i + 1] h0 hi0 he l2 hq l3 hw c8 (by omega) he1 hn rfl (bfalse hb)
      · have hn : (!(K[i + 1].key.toList == x.key.toList)) = true := by rw [bfalse hk]; rfl
        by_cases hb : bot = true
        · exact dr1_w6 S bot A K K.length i x Y true K[i + 1] h0 hi0 he l2 hq l3 hw c8 (by omega) he1 hn rfl hb (d2 hb (.inr ⟨_, he1, bfalse hk⟩))
        · exact dr1_w7 S bot A K K.length i x Y true K[i + 1] h0 hi0 he l2 hq l3 hw c8 (by omega) he1 hn rfl (bfalse hb)
  | false =>
    rw [hq] at l3
    by_cases hl : i + 1 = K.length
    · have c8 : ((i : Int) + 1 == (K.length : Int)) = true := by simp; omega
      by_cases hb : bot = true
      · exact dr1_w13 S bot A K K.length i x Y true h0 hi0 he l2 hq l3 hw c8 rfl hb (d2 hb (.inl hl))
      · exact dr1_w14 S bot A K K.length i x Y true h0 hi0 he l2 hq l3 hw c8 rfl (bfalse hb)
    · have c8 : ((i : Int) + 1 == (K.length : Int)) = false := by simp; omega
      have hi1 : i + 1 < K.length := by omega
      have he1 : K[i + 1]? = some K[i + 1] := List.getElem?_eq_getElem hi1
      by_cases hk : (K[i + 1].key.toList == x.key.toList) = true
      · have hn : (!(K[i + 1].key.toList == x.key.toList)) = false := by rw [hk]; rfl
        by_cases hb : bot = true
        · exact dr1_w20 S bot A K K.length i x Y true K[i + 1] h0 hi0 he l2 hq l3 hw c8 (by omega) he1 hn rfl hb
        · exact dr1_w21 S bot A K K.length i x Y true K[i + 1] h0 hi0 he l2 hq l3 hw c8 (by omega) he1 hn rfl (bfalse hb)
      · have hn : (!(K[i + 1].key.toList == x.key.toList)) = true := by rw [bfalse hk]; rfl
        by_cases hb : bot = true
        · exact dr1_w17 S bot A K K.length i x Y true K[i + 1] h0 hi0 he l2 hq l3 hw c8 (by omega) he1 hn rfl hb (d2 hb (.inr ⟨_, he1, bfalse hk⟩))
        · exact dr1_w18 S bot A K K.length i x Y true K[i + 1] h0 hi0 he l2 hq l3 hw c8 (by omega) he1 hn rfl (bfalse hb)

theorem dr_loop (S : List Int) (bot : Bool) (A K : List Ent) (hA : Sorted A) (hAl : A.length ≤ 1000000) (hS : S.length ≤ 1000000) (hK : K = keepL A S bot) : ∀ (k i : Nat), i + k = K.length → EvL LP ΓDr 113 0 drBody (drH S bot A K i) (.exit 0) ⟨tk [], []⟩
  | 0, i, h => .leave (dr1_w23 S bot A K K.length i (decide_eq_false (by omega))) (by simp)
  | k + 1, i, h => .next (dr_round S bot A K hA hAl hS hK i (by omega)) (dr_loop S bot A K hA hAl hS hK k (i + 1) (by omega))

theorem ΓDr_ok : ∀ f, SoundF LP f (ΓDr f) := env_sound (by simp [sound8, sound9, sound10, sound11])

def RDrops : List AV → AV → Prop := fun args r => ∃ (es : List Ent) (S : List Int) (bot : Bool), args = [vl (ents es), vl (ints S), vb bot] ∧ r = vb true

theorem sound4 : SoundF LP 4 (.pure (relG RDrops)) := fn_pure (fn := Try.f4) mixedL ΓDr_ok (by kernel_rfl) (by kernel_rfl) (by kernel_rfl) (by
  rintro args r ⟨es, S, bot, rfl, rfl⟩
  refine ⟨rfl, rfl, ?_⟩
  cases hb : bigL es with
  | true => exact ⟨.ret, _, _, _, .inl rfl, drf_w1 es S bot hb, rfl, .p _⟩
  | false =>
    by_cases hS : decide ((S.length : Int) > (10 : Int)) = true
    · exact ⟨.ret, _, _, _, .inl rfl, drf_w2 es S bot hb hS, rfl, .p _⟩
    · have hs := small_of_big hb
      have ho := small_order hs
      have hS' : S.length ≤ 1000000 := by simp at hS; omega
      have hl : (orderL es).length ≤ 1000000 := by have := ho.1; omega
      have hlen : (es.length : Int) ≤ 30 := by have := hs.1; omega
      have lp := fun b => dr_loop S b (orderL es) (keepL (orderL es) S b) (order_ok es).1 hl hS' rfl (keepL (orderL es) S b).length 0 (by omega)
      cases bot with
      | true => exact ⟨.ret, _, _, _, .inl rfl, drf_w3 es S true hb (bfalse hS) hlen rfl hl hS' (lp true), rfl, .p _⟩
      | false => exact ⟨.ret, _, _, _, .inl rfl, drf_w4 es S false hb (bfalse hS) hlen rfl hl hS' (lp false), rfl, .p _⟩)

end Go.Ax
