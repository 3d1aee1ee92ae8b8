/- span and same of a live row; what Pick calls. -/
import Derived.Test.YtgbmmmglilpdjaaTlb
set_option linter.unusedVariables false
set_option linter.unusedSimpArgs false
namespace Go.Ax
open Go.Proofs Go.RowKit
set_option maxRecDepth 100000

/-! ### span of a live row -/
theorem T28r_l1 (L : List Meta) (hL : L.length ≤ 1000000) : ∀ (m i : Nat) (p : ByteArray × ByteArray), 1 ≤ L.length → i + m = L.length - 1 →
    Rounds (T28r_l1_e L.length L) (T28r_l1_x L) noX (fun s => (T28r_l1_b L.length L s).wp) ((i : Int), p) (.inl ((L.drop (i + 1)).foldl (fun p x => (lowS p.1 x.low, highS p.2 x.high)) p))
  | 0, i, p, h1, h => by
    have hi : L.drop (i + 1) = [] := List.drop_eq_nil_of_le (by omega)
    rw [hi]
    refine .done (by simp [T28r_l1_x]) ?_
    unfold T28r_l1_b
    refine wp_sp (fun h => ?_) (fun _ => wp_leaf rfl ⟨rfl, rfl⟩)
    have h := of_decide_eq_true h
    simp [hiN, loN] at h
    omega
  | m + 1, i, p, h1, h => by
    have hi : i + 1 < L.length := by omega
    have ih := T28r_l1 L hL m (i + 1) (lowS p.1 L[i + 1].low, highS p.2 L[i + 1].high) h1 (by omega)
    rw [List.drop_eq_getElem_cons hi, List.foldl_cons]
    refine .next ?_ ih
    unfold T28r_l1_b
    refine wp_sp (fun _ => ?_) (fun h => ?_)
    · refine wp_ridx (by omega) (by simp [hiN, loN]; omega) (wp_rload L[i + 1] (by simp [loN]; omega) ?_ ?_ (wp_i64 (by omega) (wp_leaf rfl ⟨rfl, rfl⟩)))
      · simp [loN, show metaE.sz = 5 from rfl]
        omega
      · have : Int.toNat (((loN (some 1) : Nat) : Int) + (i : Int)) = i + 1 := by simp [loN]; omega
        rw [this]
        exact List.getElem?_eq_getElem hi
    · have h := of_decide_eq_false h
      simp [hiN, loN] at h
      omega

theorem T28r_wp (L : List Meta) (h0 : L ≠ []) (hL : L.length ≤ 1000000) {K : AE → St → Prop} (h : K .ret ([(0, .tup [vs (spanL L).1, vs (spanL L).2])], [metaE.bx 0 L])) : (T28r L.length L).wp K := by
  cases L with
  | nil => exact absurd rfl h0
  | cons x L =>
    have hl : (1 : Int) ≤ ((x :: L).length : Int) := by simp; omega
    unfold T28r
    refine wp_ridx (by omega) (by omega) (wp_rload x (by omega) rfl rfl (wp_ridx (by omega) (by omega) (wp_rload x (by omega) rfl rfl (wp_rcut (by simp only [cutOk]; omega) ?_))))
    exact wp_loop _ rfl (T28r_l1 (x :: L) hL L.length 0 (x.low, x.high) (by simp) (by simp)) (wp_leaf rfl h)

def R28 : RSpec := fun args B r B' => ∃ L : List Meta, L ≠ [] ∧ L.length ≤ 1000000 ∧ args = [.rs 0 0 5 0 L.length] ∧ B = [metaE.bx 0 L] ∧ r = .tup [vs (spanL L).1, vs (spanL L).2] ∧ B' = B
theorem R28_ok : SoundR LP 28 R28 := sound_genT (Γ := Γ0) (Δ := Δ0) (fn := Try.f28) mixedL Γ0_ok Δ0_ok (by kernel_rfl) (by kernel_rfl) (by kernel_rfl) (by
  rintro args B r B' ⟨L, h0, hL, rfl, rfl, rfl, rfl⟩
  exact ⟨rfl, _, T28r_chk L.length L, T28r_wp L h0 hL ⟨rfl, rfl⟩⟩)

/-! ### same, of a list and a row that hold the same -/
theorem T19r_l1 (L : List Meta) (hL : L.length ≤ 1000000) : ∀ (suf pre : List Meta), L = pre ++ suf →
    Rounds (T19r_l1_e L L.length L) (T19r_l1_x L) (T19r_l1_x' L) (fun s => (T19r_l1_b L L.length L s).wp) (pre.length : Int) (.inr ())
  | [], pre, h => by
    have e : L.length = pre.length := by rw [h]; simp
    refine .done' (by simp [T19r_l1_x']) ?_
    unfold T19r_l1_b
    exact wp_sp (fun h => by have := of_decide_eq_true h; omega) (fun _ => wp_leaf rfl ⟨rfl, rfl⟩)
  | m :: suf, pre, h => by
    have e : L.length = pre.length + (suf.length + 1) := by rw [h]; simp
    have hm : L[Int.toNat (pre.length : Int)]? = some m := by rw [h]; simp
    have ih := T19r_l1 L hL suf (pre ++ [m]) (by rw [h]; simp)
    have hlen : (pre ++ [m]).length = pre.length + 1 := by simp
    refine .next ?_ ih
    unfold T19r_l1_b
    refine wp_sp (fun _ => wp_elem m (by omega) hm (wp_ridx (by omega) (by omega) (wp_rload m (by omega) rfl hm (wp_sp (fun h => by simp at h) (fun _ => wp_i64 (by omega) (wp_leaf rfl ⟨rfl, ?_⟩)))))) (fun h => by have := of_decide_eq_false h; omega)
    rw [hlen]; rfl

theorem T19r_wp (L : List Meta) (hL : L.length ≤ 1000000) {K : AE → St → Prop} (h : K .ret ([(0, vb true)], [metaE.bx 0 L])) : (T19r L L.length L).wp K := by
  unfold T19r
  exact wp_len (wp_sp (fun h => by simp at h) (fun _ => wp_len (wp_loop' _ rfl (T19r_l1 L hL L [] rfl) (wp_leaf rfl h))))

def R19 : RSpec := fun args B r B' => ∃ L : List Meta, L.length ≤ 1000000 ∧ args = [vl (L.map metaE.f), .rs 0 0 5 0 L.length] ∧ B = [metaE.bx 0 L] ∧ r = vb true ∧ B' = B
theorem R19_ok : SoundR LP 19 R19 := sound_genT (Γ := Γ0) (Δ := Δ0) (fn := Try.f19) mixedL Γ0_ok Δ0_ok (by kernel_rfl) (by kernel_rfl) (by kernel_rfl) (by
  rintro args B r B' ⟨L, hL, rfl, rfl, rfl, rfl⟩
  exact ⟨rfl, _, T19r_chk L L.length L, T19r_wp L hL ⟨rfl, rfl⟩⟩)

/-! ### What Pick calls -/
noncomputable def Γ16 : Env := envP [(17, gOf), (29, g29), (30, g30)]
theorem Γ16_ok : ∀ f, SoundF LP f (Γ16 f) := envP_ok (by simp; exact ⟨sound17, sound29, sound30⟩)
def Δ16 : REnv := envR [(17, liftR R17), (28, liftR R28)]
theorem Δ16_ok : ∀ f, SoundR LP f (Δ16 f) := envR_ok (by simp; exact ⟨lift_sound R17_ok, lift_sound R28_ok⟩)

end Go.Ax

namespace Go.Ax
open Go.Proofs Go.RowKit
set_option maxRecDepth 100000

noncomputable def T16_l1_e (v : Vers) (s1 : Int × Int) : St := ([(2, .ptr 0 0 0), (4, .ptr 1 0 0), (9, vi s1.2), (10, vi s1.1)], [.cells false 0 ([vl (v.files.map metaE.f), vi v.log, vi v.next, vn .u64 v.seq]), .cells false 0 ([nilS, vi 0])])
noncomputable def T16_l1_x (x1 : Int × (List Meta)) : AE × St := (.ret, ([(4, .ptr 0 0 0), (5, vb true)], [.cells false 0 ([.rs 1 0 5 0 x1.2.length, vi x1.1]), metaE.bx 0 x1.2]))
noncomputable def T16_l1_x' (y1 : Unit) : AE × St := ((.exit 0), ([(4, .ptr 0 0 0)], [.cells false 0 ([nilS, vi 0])]))
noncomputable def T16_l2_e (v : Vers) (s1 : Int × Int) (s2 : Int × Int) : St := ([(2, .ptr 0 0 0), (4, .ptr 1 0 0), (9, vi s1.2), (10, vi s1.1), (11, vi s2.1), (12, vl ((ofL s1.1 v.files).map metaE.f)), (45, vl ((ofL s1.1 v.files).map metaE.f)), (46, vi ((ofL s1.1 v.files).length : Int)), (47, vi s2.2)], [.cells false 0 ([vl (v.files.map metaE.f), vi v.log, vi v.next, vn .u64 v.seq]), .cells false 0 ([nilS, vi 0])])
noncomputable def T16_l2_x (v : Vers) (s1 : Int × Int) (x2 : Int) : AE × St := ((.exit 2), ([(2, .ptr 0 0 0), (4, .ptr 1 0 0), (9, vi s1.2), (10, vi s1.1), (11, vi x2), (12, vl ((ofL s1.1 v.files).map metaE.f))], [.cells false 0 ([vl (v.files.map metaE.f), vi v.log, vi v.next, vn .u64 v.seq]), .cells false 0 ([nilS, vi 0])]))
noncomputable def T16_l2_b (v : Vers) (s1 : Int × Int) (s2 : Int × Int) : Tree :=
.sp 48 (decide (s2.2 < ((ofL s1.1 v.files).length : Int))) (
.elem 49 ((ofL s1.1 v.files).map metaE.f) metaE (ofL s1.1 v.files) s2.2 (fun e1 => .int 54 (IntKind.i64.wrap (s2.1 + e1.size)) (s2.1 + e1.size) (.int 55 (IntKind.i64.wrap (s2.2 + 1)) (s2.2 + 1) (.leaf ⟨[2, 4, 9, 10, 11, 12, 45, 46, 47], [(0, 0, none), (1, 0, none)]⟩ [] .normal (some (T16_l2_e v s1 (s2.1 + e1.size, s2.2 + 1))))))) (
.leaf ⟨[2, 4, 9, 10, 11, 12], [(0, 0, none), (1, 0, none)]⟩ [] (.exit 2) (some (T16_l2_x v s1 s2.1).2))
noncomputable def T16_l1_b (v : Vers) (s1 : Int × Int) : Tree :=
.sp 39 (decide (s1.1 < (5 : Int))) (
.call 44 (gOf [.agg [vl (v.files.map metaE.f), vi v.log, vi v.next, vn .u64 v.seq], vi s1.1] = some (vl ((ofL s1.1 v.files).map metaE.f))) (vl ((ofL s1.1 v.files).map metaE.f)) (.int 46 (((ofL s1.1 v.files).map metaE.f).length : Int) ((ofL s1.1 v.files).length : Int) (.loop ⟨[2, 4, 9, 10, 11, 12, 45, 46, 47], [(0, 0, none), (1, 0, none)]⟩ [] (some (T16_l2_e v s1 (0, 0))) (T16_l2_e v s1) (T16_l2_x v s1) noX (0, 0) (T16_l2_b v s1) (fun (x2 : Int) => .sp 58 (decide (x2 > s1.2)) (
.call 60 (g30 [vl ((ofL s1.1 v.files).map metaE.f), .fn 31 []] = some ((metaE.av (minL (ofL s1.1 v.files))))) ((metaE.av (minL (ofL s1.1 v.files)))) (.int 65 (IntKind.i64.wrap (s1.1 + 1)) (s1.1 + 1) (.call 70 (g29 [.agg [vl (v.files.map metaE.f), vi v.log, vi v.next, vn .u64 v.seq], vi (s1.1 + 1), vs ((minL (ofL s1.1 v.files)).low), vs ((minL (ofL s1.1 v.files)).high)] = some (vl ((meetsL (s1.1 + 1) v.files ((minL (ofL s1.1 v.files)).low) ((minL (ofL s1.1 v.files)).high)).map metaE.f))) (vl ((meetsL (s1.1 + 1) v.files ((minL (ofL s1.1 v.files)).low) ((minL (ofL s1.1 v.files)).high)).map metaE.f)) (.app 71 (.ls ((meetsL (s1.1 + 1) v.files ((minL (ofL s1.1 v.files)).low) ((minL (ofL s1.1 v.files)).high)).map metaE.f)) 1 ([vi ((minL (ofL s1.1 v.files)).num), vi ((minL (ofL s1.1 v.files)).level), vs ((minL (ofL s1.1 v.files)).low), vs ((minL (ofL s1.1 v.files)).high), vi ((minL (ofL s1.1 v.files)).size)]) metaE ([(minL (ofL s1.1 v.files))]) (meetsL (s1.1 + 1) v.files ((minL (ofL s1.1 v.files)).low) ((minL (ofL s1.1 v.files)).high)) (.int 73 (IntKind.i64.wrap (s1.1 + 1)) (s1.1 + 1) (.leaf ⟨[4, 5], [(1, 0, none), (3, 1, some ((([(minL (ofL s1.1 v.files))]) ++ (meetsL (s1.1 + 1) v.files ((minL (ofL s1.1 v.files)).low) ((minL (ofL s1.1 v.files)).high))).map metaE.f))]⟩ [rowC ((([(minL (ofL s1.1 v.files))]) ++ (meetsL (s1.1 + 1) v.files ((minL (ofL s1.1 v.files)).low) ((minL (ofL s1.1 v.files)).high))).map metaE.f)] .ret (some (T16_l1_x (s1.1 + 1, ([(minL (ofL s1.1 v.files))]) ++ (meetsL (s1.1 + 1) v.files ((minL (ofL s1.1 v.files)).low) ((minL (ofL s1.1 v.files)).high)))).2))))))) (
.int 76 (IntKind.i64.wrap (s1.2 * 4)) (s1.2 * 4) (.int 41 (IntKind.i64.wrap (s1.1 + 1)) (s1.1 + 1) (.leaf ⟨[2, 4, 9, 10], [(0, 0, none), (1, 0, none)]⟩ [] .normal (some (T16_l1_e v (s1.1 + 1, s1.2 * 4))))))) (fun _ => .stuck)))) (
.leaf ⟨[4], [(1, 0, none)]⟩ [] (.exit 0) (some (T16_l1_x' ()).2))
noncomputable def T16 (v : Vers) (c : Conf) : Tree :=
.callr (some 17) (Δ16 17 [.agg [vl (v.files.map metaE.f), vi v.log, vi v.next, vn .u64 v.seq], vi 0] [.cells false 0 ([vl (v.files.map metaE.f), vi v.log, vi v.next, vn .u64 v.seq]), .cells false 0 ([vi c.files, vi c.size, vi c.cut]), .cells false 0 ([nilS, vi 0])] (.rs 3 0 5 0 ((ofL 0 v.files).length)) [.cells false 0 ([vl (v.files.map metaE.f), vi v.log, vi v.next, vn .u64 v.seq]), .cells false 0 ([vi c.files, vi c.size, vi c.cut]), .cells false 0 ([nilS, vi 0]), metaE.bx 0 (ofL 0 v.files)]) (.rs 3 0 5 0 ((ofL 0 v.files).length)) [.cells false 0 ([vl (v.files.map metaE.f), vi v.log, vi v.next, vn .u64 v.seq]), .cells false 0 ([vi c.files, vi c.size, vi c.cut]), .cells false 0 ([nilS, vi 0]), metaE.bx 0 (ofL 0 v.files)] (.sp 23 (decide ((((ofL 0 v.files).length : Nat) : Int) ≥ (if (1 : Int) < (c.files : Int) then (c.files : Int) else (1 : Int)))) (
.callr (some 26) (Δ16 28 [.rs 3 0 5 0 ((ofL 0 v.files).length)] [.cells false 0 ([vl (v.files.map metaE.f), vi v.log, vi v.next, vn .u64 v.seq]), .cells false 0 ([vi c.files, vi c.size, vi c.cut]), .cells false 0 ([nilS, vi 0]), metaE.bx 0 (ofL 0 v.files)] (.tup [vs ((spanL (ofL 0 v.files)).1), vs ((spanL (ofL 0 v.files)).2)]) [.cells false 0 ([vl (v.files.map metaE.f), vi v.log, vi v.next, vn .u64 v.seq]), .cells false 0 ([vi c.files, vi c.size, vi c.cut]), .cells false 0 ([nilS, vi 0]), metaE.bx 0 (ofL 0 v.files)]) (.tup [vs ((spanL (ofL 0 v.files)).1), vs ((spanL (ofL 0 v.files)).2)]) [.cells false 0 ([vl (v.files.map metaE.f), vi v.log, vi v.next, vn .u64 v.seq]), .cells false 0 ([vi c.files, vi c.size, vi c.cut]), .cells false 0 ([nilS, vi 0]), metaE.bx 0 (ofL 0 v.files)] (.call 33 (g29 [.agg [vl (v.files.map metaE.f), vi v.log, vi v.next, vn .u64 v.seq], vi 1, vs ((spanL (ofL 0 v.files)).1), vs ((spanL (ofL 0 v.files)).2)] = some (vl ((meetsL 1 v.files ((spanL (ofL 0 v.files)).1) ((spanL (ofL 0 v.files)).2)).map metaE.f))) (vl ((meetsL 1 v.files ((spanL (ofL 0 v.files)).1) ((spanL (ofL 0 v.files)).2)).map metaE.f)) (.app 34 (.ls ((meetsL 1 v.files ((spanL (ofL 0 v.files)).1) ((spanL (ofL 0 v.files)).2)).map metaE.f)) ((ofL 0 v.files).length) (rowC ((ofL 0 v.files).map metaE.f)) metaE (ofL 0 v.files) (meetsL 1 v.files ((spanL (ofL 0 v.files)).1) ((spanL (ofL 0 v.files)).2)) (.leaf ⟨[0], [(3, 1, some (((ofL 0 v.files) ++ (meetsL 1 v.files ((spanL (ofL 0 v.files)).1) ((spanL (ofL 0 v.files)).2))).map metaE.f))]⟩ [rowC (((ofL 0 v.files) ++ (meetsL 1 v.files ((spanL (ofL 0 v.files)).1) ((spanL (ofL 0 v.files)).2))).map metaE.f)] .ret (some ([(0, .tup [.agg [.rs 0 0 5 0 (((ofL 0 v.files) ++ (meetsL 1 v.files ((spanL (ofL 0 v.files)).1) ((spanL (ofL 0 v.files)).2))).length), vi 1], vb true])], [metaE.bx 0 ((ofL 0 v.files) ++ (meetsL 1 v.files ((spanL (ofL 0 v.files)).1) ((spanL (ofL 0 v.files)).2)))])))))) (
.loop ⟨[2, 4, 9, 10], [(0, 0, none), (2, 0, none)]⟩ [] (some (T16_l1_e v (1, c.size))) (T16_l1_e v) (T16_l1_x) (T16_l1_x') (1, c.size) (T16_l1_b v) (fun (x1 : Int × (List Meta)) => .leaf ⟨[0], [(1, 0, some (x1.2.map metaE.f))]⟩ [rowC (x1.2.map metaE.f)] .ret (some ([(0, .tup [.agg [.rs 0 0 5 0 x1.2.length, vi x1.1], vb true])], [metaE.bx 0 x1.2]))) (fun (y1 : Unit) => .leaf ⟨[0], []⟩ [] .ret (some ([(0, .tup [.agg [nilS, vi 0], vb false])], [])))))

theorem T16_chk (v : Vers) (c : Conf) : fnC LP Γ16 Δ16 Try.f16 [.agg [vl (v.files.map metaE.f), vi v.log, vi v.next, vn .u64 v.seq], .agg [vi c.files, vi c.size, vi c.cut]] [] (T16 v c) = T16 v c := by kernel_rfl

end Go.Ax
