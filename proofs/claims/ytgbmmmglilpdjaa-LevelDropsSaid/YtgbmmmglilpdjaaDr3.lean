/- LevelDrops: the walk. -/
import Derived.Test.YtgbmmmglilpdjaaDr1
import Derived.Test.YtgbmmmglilpdjaaDr2
import Derived.Test.YtgbmmmglilpdjaaLv9
set_option linter.unusedVariables false
set_option linter.unusedSimpArgs false
namespace Go.Ax
open Go.Proofs Go.RowKit
set_option maxRecDepth 100000

abbrev entC (X : Ent) : Box := Box.cells false 0 [vs X.key, vn .u64 X.seq, vb X.del, vs X.val]
noncomputable abbrev dr2Body : Code := nav [true, true, true, true, true, false, true, false, false, true, true, false, false, true, true, false, true, false, false] (bodyOf Try.f4)
noncomputable abbrev dr3Body : Code := nav [true, true, true, true, true, false, true, false, false, true, true, false, false, true, true, true, true, false, true, false, false] (bodyOf Try.f4)
noncomputable abbrev drBody : Code := nav [true, true, true, true, true, false, true, false, false] (bodyOf Try.f4)
abbrev dr2H (S : List Int) (bot : Bool) (A K : List Ent) (i : Nat) (X Y : Ent) (j : Nat) : AS :=
  ⟨tk [(1, vl (ints S)), (2, vb bot), (7, vl (ents A)), (8, vl (ents K)), (9, vi (i : Int)), (10, .ptr 0 0 0), (11, .ptr 1 0 0), (33, vl (ents K)), (34, vi (K.length : Int)), (35, vi (i : Int)), (41, vl (ents A)), (42, vi (A.length : Int)), (43, vi (j : Int))], [entC X, entC Y]⟩
abbrev dr2X (S : List Int) (bot : Bool) (A K : List Ent) (i : Nat) (X Y : Ent) : AS :=
  ⟨tk [(1, vl (ints S)), (2, vb bot), (7, vl (ents A)), (8, vl (ents K)), (9, vi (i : Int)), (10, .ptr 0 0 0), (11, .ptr 1 0 0), (33, vl (ents K)), (34, vi (K.length : Int)), (35, vi (i : Int))], [entC X, entC Y]⟩
abbrev dr3H (S : List Int) (bot : Bool) (A K : List Ent) (i : Nat) (X Y : Ent) (u : Bool) (j : Nat) : AS :=
  ⟨tk [(1, vl (ints S)), (2, vb bot), (7, vl (ents A)), (8, vl (ents K)), (9, vi (i : Int)), (10, .ptr 0 0 0), (11, .ptr 1 0 0), (14, vb u), (33, vl (ents K)), (34, vi (K.length : Int)), (35, vi (i : Int)), (64, vl (ints S)), (65, vi (S.length : Int)), (66, vi (j : Int))], [entC X, entC Y]⟩
abbrev dr3X (S : List Int) (bot : Bool) (A K : List Ent) (i : Nat) (X Y : Ent) (u : Bool) : AS :=
  ⟨tk [(1, vl (ints S)), (2, vb bot), (7, vl (ents A)), (8, vl (ents K)), (9, vi (i : Int)), (10, .ptr 0 0 0), (11, .ptr 1 0 0), (14, vb u), (33, vl (ents K)), (34, vi (K.length : Int)), (35, vi (i : Int))], [entC X, entC Y]⟩
abbrev drH (S : List Int) (bot : Bool) (A K : List Ent) (i : Nat) : AS :=
  ⟨tk [(1, vl (ints S)), (2, vb bot), (7, vl (ents A)), (8, vl (ents K)), (33, vl (ents K)), (34, vi (K.length : Int)), (35, vi (i : Int))], []⟩

theorem dr2_loop (S : List Int) (bot : Bool) (A K : List Ent) (i : Nat) (X : Ent) (hA : A.length ≤ 1000000) : ∀ (k j : Nat) (Y : Ent), j + k = A.length → EvL LP ΓDr 113 0 dr2Body (dr2H S bot A K i X Y j) (.exit 2) (dr2X S bot A K i X (aheadF X Y (A.drop j)))
  | 0, j, Y, h => by
    have e0 : A.drop j = [] := List.drop_eq_nil_of_le (by omega)
    rw [e0]
    exact .leave (dr2_w4 S bot A K K.length i X Y A.length j (decide_eq_false (by omega))) (by simp)
  | k + 1, j, Y, h => by
    have hj : j < A.length := by omega
    have he : A[j]? = some A[j] := List.getElem?_eq_getElem hj
    have h0 : decide ((j : Int) < (A.length : Int)) = true := decide_eq_true (by omega)
    have hw : IntKind.i64.wrap ((j : Int) + 1) = (j : Int) + 1 := wrapN (by omega) (by omega)
    rw [List.drop_eq_getElem_cons hj]
    by_cases h1 : (A[j].key.toList == X.key.toList) = true
    · by_cases h2 : decide (A[j].seq > X.seq) = true
      · have e : aheadF X Y (A[j] :: A.drop (j + 1)) = aheadF X A[j] (A.drop (j + 1)) := by
          unfold aheadF; rw [List.foldl_cons, if_pos (by unfold newer; rw [h1, h2]; rfl)]
        rw [e]
        exact .next (dr2_w1 S bot A K K.length i X Y A.length j A[j] h0 (by omega) he h1 h2 hw) (dr2_loop S bot A K i X hA k (j + 1) A[j] (by omega))
      · have e : aheadF X Y (A[j] :: A.drop (j + 1)) = aheadF X Y (A.drop (j + 1)) := by
          unfold aheadF; rw [List.foldl_cons, if_neg (by unfold newer; rw [bfalse h2, Bool.and_false]; simp)]
        rw [e]
        exact .next (dr2_w2 S bot A K K.length i X Y A.length j A[j] h0 (by omega) he h1 (bfalse h2) hw) (dr2_loop S bot A K i X hA k (j + 1) Y (by omega))
    · have e : aheadF X Y (A[j] :: A.drop (j + 1)) = aheadF X Y (A.drop (j + 1)) := by
        unfold aheadF; rw [List.foldl_cons, if_neg (by unfold newer; rw [bfalse h1, Bool.false_and]; simp)]
      rw [e]
      exact .next (dr2_w3 S bot A K K.length i X Y A.length j A[j] h0 (by omega) he (bfalse h1) hw) (dr2_loop S bot A K i X hA k (j + 1) Y (by omega))

theorem dr3_loop (S : List Int) (bot : Bool) (A K : List Ent) (i : Nat) (X Y : Ent) (hS : S.length ≤ 1000000) : ∀ (k j : Nat) (u : Bool), j + k = S.length → EvL LP ΓDr 113 0 dr3Body (dr3H S bot A K i X Y u j) (.exit 4) (dr3X S bot A K i X Y (u || (S.drop j).any (between X Y)))
  | 0, j, u, h => by
    have e0 : S.drop j = [] := List.drop_eq_nil_of_le (by omega)
    rw [e0, List.any_nil, Bool.or_false]
    exact .leave (dr3_w5 S bot A K K.length i X Y u S.length j (decide_eq_false (by omega))) (by simp)
  | k + 1, j, u, h => by
    have hj : j < S.length := by omega
    have he : S[j]? = some S[j] := List.getElem?_eq_getElem hj
    have h0 : decide ((j : Int) < (S.length : Int)) = true := decide_eq_true (by omega)
    have hw : IntKind.i64.wrap ((j : Int) + 1) = (j : Int) + 1 := wrapN (by omega) (by omega)
    rw [List.drop_eq_getElem_cons hj, List.any_cons]
    cases u with
    | true => exact .next (dr3_w1 S bot A K K.length i X Y true S.length j S[j] h0 (by omega) he rfl hw) (dr3_loop S bot A K i X Y hS k (j + 1) true (by omega))
    | false =>
      by_cases h1 : decide (S[j] ≥ X.seq) = true
      · by_cases h2 : decide (S[j] < Y.seq) = true
        · have e : between X Y S[j] = true := by unfold between; rw [h1, h2]; rfl
          rw [e]
          exact .next (dr3_w2 S bot A K K.length i X Y false S.length j S[j] h0 (by omega) he rfl h1 h2 hw) (dr3_loop S bot A K i X Y hS k (j + 1) true (by omega))
        · have e : between X Y S[j] = false := by unfold between; rw [bfalse h2, Bool.and_false]
          rw [e, Bool.false_or]
          exact .next (dr3_w3 S bot A K K.length i X Y false S.length j S[j] h0 (by omega) he rfl h1 (bfalse h2) hw) (dr3_loop S bot A K i X Y hS k (j + 1) false (by omega))
      · have e : between X Y S[j] = false := by unfold between; rw [bfalse h1, Bool.false_and]
        rw [e, Bool.false_or]
        exact .next (dr3_w4 S bot A K K.length i X Y false S.length j S[j] h0 (by omega) he rfl (bfalse h1) hw) (dr3_loop S bot A K i X Y hS k (j + 1) false (by omega))

end Go.Ax
