/- Which names a file may have. -/
import Derived.Test.YtjlipmcdnigfcaaDoorG22
set_option linter.unusedVariables false
set_option linter.unusedSimpArgs false
set_option linter.unusedSectionVars false
namespace Go.Ax
open Go.Proofs Go.RowKit
set_option maxRecDepth 100000

theorem nlen (nm : ByteArray) : nm.data.toList.length = nm.size := by simp

theorem TNamed_l1 (nm : ByteArray) (hN : nm.size ≤ 1000000000) : ∀ (suf pre : List UInt8), nm.data.toList = pre ++ suf →
    Rounds (TNamed_l1_e nm) TNamed_l1_x (TNamed_l1_x' nm) (fun s => (TNamed_l1_b nm s).wp) (pre.length : Int) (if suf.all okChar then .inr () else .inl ())
  | [], pre, h => by
    have e : nm.data.toList.length = pre.length := by rw [h]; simp
    rw [if_pos (show ([] : List UInt8).all okChar = true from rfl)]
    refine .done' (by simp [TNamed_l1_x']) ?_
    unfold TNamed_l1_b
    exact wp_sp (fun h => by have := of_decide_eq_true h; omega) (fun _ => wp_leaf rfl ⟨rfl, rfl⟩)
  | c :: suf, pre, h => by
    have e : nm.data.toList.length = pre.length + (suf.length + 1) := by rw [h]; simp
    have hs := nlen nm
    have hc : nm.data.toList[Int.toNat (pre.length : Int)]? = some c := by rw [h]; simp
    cases hok : okChar c with
    | false =>
      rw [if_neg (by simp [hok])]
      refine .done (by simp [TNamed_l1_x]) ?_
      unfold TNamed_l1_b
      refine wp_sp (fun _ => wp_ridx (by omega) (by omega) (wp_rload c (by omega) (by simp [byteE]) hc ?_)) (fun h => by have := of_decide_eq_false h; omega)
      repeat' (refine wp_sp (fun _ => ?_) (fun _ => ?_))
      all_goals first
        | exact wp_leaf rfl ⟨rfl, rfl⟩
        | (exfalso; simp only [okChar, Bool.or_eq_false_iff, Bool.and_eq_false_iff, decide_eq_false_iff_not, decide_eq_true_eq, bne_iff_ne, ne_eq, beq_eq_false_iff_ne, bne_eq_false_iff_eq] at *; omega)
    | true =>
      have ih := TNamed_l1 nm hN suf (pre ++ [c]) (by rw [h]; simp)
      have hlen : ((pre ++ [c]).length : Int) = (pre.length : Int) + 1 := by simp
      have hres : (if (c :: suf).all okChar = true then (.inr () : Unit ⊕ Unit) else .inl ()) = (if suf.all okChar = true then .inr () else .inl ()) := by rw [List.all_cons, hok, Bool.true_and]
      rw [hres]
      refine .next ?_ ih
      unfold TNamed_l1_b
      refine wp_sp (fun _ => wp_ridx (by omega) (by omega) (wp_rload c (by omega) (by simp [byteE]) hc ?_)) (fun h => by have := of_decide_eq_false h; omega)
      repeat' (refine wp_sp (fun _ => ?_) (fun _ => ?_))
      all_goals first
        | exact wp_i64 (by omega) (wp_leaf rfl ⟨rfl, by rw [hlen]⟩)
        | (exfalso; simp only [okChar, Bool.or_eq_true, Bool.and_eq_true, decide_eq_false_iff_not, decide_eq_true_eq, bne_iff_ne, ne_eq, beq_iff_eq, bne_eq_false_iff_eq] at *; omega)

theorem TNamed_wp (nm : ByteArray) (hN : nm.size ≤ 1000000000) {K : AE → St → Prop} (h : K .ret ([(0, vb (isName nm))], [])) : (TNamed nm).wp K := by
  have l := TNamed_l1 nm hN nm.data.toList [] rfl
  unfold TNamed
  cases ha : nm.data.toList.all okChar with
  | false =>
    rw [if_neg (by simp [ha])] at l
    refine wp_loop () rfl l ?_
    have : isName nm = false := by simp [isName, ha]
    rw [this] at h
    exact wp_leaf rfl h
  | true =>
    rw [if_pos ha] at l
    refine wp_loop' () rfl l (wp_sp (fun h1 => ?_) (fun h1 => ?_))
    · have h1 := of_decide_eq_true h1
      have : isName nm = decide ((nm.size : Int) ≤ (40 : Int)) := by
        simp only [isName, ha, Bool.true_and]
        rw [decide_eq_true (show 0 < nm.size by omega), Bool.true_and]
        congr 1
        simp
        omega
      rw [this] at h
      exact wp_leaf rfl h
    · have h1 := of_decide_eq_false h1
      have : isName nm = false := by
        simp only [isName, ha, Bool.true_and]
        rw [decide_eq_false (show ¬ 0 < nm.size by omega), Bool.false_and]
      rw [this] at h
      exact wp_leaf rfl h

theorem SNamed : SoundF DP iNamed (.pure gNamed) :=
  sound_pureT mixedD Γ0_ok Δ0_ok hfNamed heNamed hbNamed (fun args r ⟨nm, hN, h1, h2⟩ => by
    subst h1 h2
    exact ⟨by rw [hnNamed]; rfl, rfl, _, TNamed_chk nm, TNamed_wp nm hN (.p _)⟩)

end Go.Ax

namespace Go.Ax
open Go.Proofs Go.RowKit
set_option maxRecDepth 100000

noncomputable def TFind_d (ro : Int) (us : Int) (fu : Int) (hid : List (Value × Value)) (nm : ByteArray) : Tree :=
.leaf ⟨[0], [(0, 0, none), (1, 0, none)]⟩ [] .ret (some ([(0, .tup [.p (.v (.pointer none)), vi 10])], [.cells false 0 ([vi ro, vi us, .mp 1, vb true, vi fu]), .obj [] (mapP [] hid)]))

theorem TFind_d_chk (ro : Int) (us : Int) (fu : Int) (hid : List (Value × Value)) (nm : ByteArray) : fnC DP Γ0 Δ0 Tryd.f62 [.ptr 0 0 0, vs nm] [.cells false 0 ([vi ro, vi us, .mp 1, vb true, vi fu]), .obj [] (mapP [] hid)] (TFind_d ro us fu hid nm) = TFind_d ro us fu hid nm := by kernel_rfl

noncomputable def TFind_a (ro : Int) (us : Int) (fu : Int) (hid : List (Value × Value)) (nm : ByteArray) : Tree :=
.val (some 22) (LookE DP 88 [.cells false 0 ([vi ro, vi us, .mp 1, vb false, vi fu]), .obj [] (mapP [] hid)] (.mp 1) (vs nm) (.tup [.p (.v (.pointer none)), vb false])) (.tup [.p (.v (.pointer none)), vb false]) [.cells false 0 ([vi ro, vi us, .mp 1, vb false, vi fu]), .obj [] (mapP [] hid)] (.leaf ⟨[0], [(0, 0, none), (1, 0, none)]⟩ [] .ret (some ([(0, .tup [.p (.v (.pointer none)), vi 4])], [.cells false 0 ([vi ro, vi us, .mp 1, vb false, vi fu]), .obj [] (mapP [] hid)])))

theorem TFind_a_chk (ro : Int) (us : Int) (fu : Int) (hid : List (Value × Value)) (nm : ByteArray) : fnC DP Γ0 Δ0 Tryd.f62 [.ptr 0 0 0, vs nm] [.cells false 0 ([vi ro, vi us, .mp 1, vb false, vi fu]), .obj [] (mapP [] hid)] (TFind_a ro us fu hid nm) = TFind_a ro us fu hid nm := by kernel_rfl

noncomputable def TFind_p (ro : Int) (us : Int) (fu : Int) (hid : List (Value × Value)) (L : List UInt8) (su : Int) (nm : ByteArray) : Tree :=
.val (some 22) (LookE DP 88 [.cells false 0 ([vi ro, vi us, .mp 1, vb false, vi fu]), .obj [.ptr 2 0 0] (mapP [.string nm] hid), .cells false 0 ([.rs 3 0 1 0 L.length, vi su]), byteE.bx 0 L] (.mp 1) (vs nm) (.tup [.ptr 2 0 0, vb true])) (.tup [.ptr 2 0 0, vb true]) [.cells false 0 ([vi ro, vi us, .mp 1, vb false, vi fu]), .obj [.ptr 2 0 0] (mapP [.string nm] hid), .cells false 0 ([.rs 3 0 1 0 L.length, vi su]), byteE.bx 0 L] (.leaf ⟨[0], [(0, 0, none), (1, 0, none), (2, 0, none), (3, 0, some (L.map byteE.f))]⟩ [rowC (L.map byteE.f)] .ret (some ([(0, .tup [.ptr 2 0 0, vi 0])], [.cells false 0 ([vi ro, vi us, .mp 1, vb false, vi fu]), .obj [.ptr 2 0 0] (mapP [.string nm] hid), .cells false 0 ([.rs 3 0 1 0 L.length, vi su]), byteE.bx 0 L])))

theorem TFind_p_chk (ro : Int) (us : Int) (fu : Int) (hid : List (Value × Value)) (L : List UInt8) (su : Int) (nm : ByteArray) : fnC DP Γ0 Δ0 Tryd.f62 [.ptr 0 0 0, vs nm] [.cells false 0 ([vi ro, vi us, .mp 1, vb false, vi fu]), .obj [.ptr 2 0 0] (mapP [.string nm] hid), .cells false 0 ([.rs 3 0 1 0 L.length, vi su]), byteE.bx 0 L] (TFind_p ro us fu hid L su nm) = TFind_p ro us fu hid L su nm := by kernel_rfl

noncomputable def TFind_q (ro : Int) (us : Int) (fu : Int) (hid : List (Value × Value)) (L : List UInt8) (su : Int) (M : List UInt8) (sv : Int) (nn : ByteArray) (nm : ByteArray) : Tree :=
.val (some 22) (LookE DP 88 [.cells false 0 ([vi ro, vi us, .mp 1, vb false, vi fu]), .obj [.ptr 2 0 0, .ptr 4 0 0] (mapP [.string nm, .string nn] hid), .cells false 0 ([.rs 3 0 1 0 L.length, vi su]), byteE.bx 0 L, .cells false 0 ([.rs 5 0 1 0 M.length, vi sv]), byteE.bx 0 M] (.mp 1) (vs nm) (.tup [.ptr 2 0 0, vb true])) (.tup [.ptr 2 0 0, vb true]) [.cells false 0 ([vi ro, vi us, .mp 1, vb false, vi fu]), .obj [.ptr 2 0 0, .ptr 4 0 0] (mapP [.string nm, .string nn] hid), .cells false 0 ([.rs 3 0 1 0 L.length, vi su]), byteE.bx 0 L, .cells false 0 ([.rs 5 0 1 0 M.length, vi sv]), byteE.bx 0 M] (.leaf ⟨[0], [(0, 0, none), (1, 0, none), (2, 0, none), (3, 0, some (L.map byteE.f)), (4, 0, none), (5, 0, some (M.map byteE.f))]⟩ [rowC (L.map byteE.f), rowC (M.map byteE.f)] .ret (some ([(0, .tup [.ptr 2 0 0, vi 0])], [.cells false 0 ([vi ro, vi us, .mp 1, vb false, vi fu]), .obj [.ptr 2 0 0, .ptr 4 0 0] (mapP [.string nm, .string nn] hid), .cells false 0 ([.rs 3 0 1 0 L.length, vi su]), byteE.bx 0 L, .cells false 0 ([.rs 5 0 1 0 M.length, vi sv]), byteE.bx 0 M])))

theorem TFind_q_chk (ro : Int) (us : Int) (fu : Int) (hid : List (Value × Value)) (L : List UInt8) (su : Int) (M : List UInt8) (sv : Int) (nn : ByteArray) (nm : ByteArray) : fnC DP Γ0 Δ0 Tryd.f62 [.ptr 0 0 0, vs nm] [.cells false 0 ([vi ro, vi us, .mp 1, vb false, vi fu]), .obj [.ptr 2 0 0, .ptr 4 0 0] (mapP [.string nm, .string nn] hid), .cells false 0 ([.rs 3 0 1 0 L.length, vi su]), byteE.bx 0 L, .cells false 0 ([.rs 5 0 1 0 M.length, vi sv]), byteE.bx 0 M] (TFind_q ro us fu hid L su M sv nn nm) = TFind_q ro us fu hid L su M sv nn nm := by kernel_rfl

noncomputable def TStep_a (ro : Int) (us : Int) (fu : Int) (hid : List (Value × Value)) : Tree :=
.sp 7 (decide (fu > (0 : Int))) (
.int 12 (IntKind.i64.wrap (fu - 1)) (fu - 1) (.sp 26 ((fu - 1) == (0 : Int)) (
.leaf ⟨[0], [(0, 0, none), (1, 0, none)]⟩ [] .ret (some ([(0, vi 10)], [.cells false 0 ([vi ro, vi us, .mp 1, vb ((fu - 1) == (0 : Int)), vi (fu - 1)]), .obj [] (mapP [] hid)]))) (
.leaf ⟨[0], [(0, 0, none), (1, 0, none)]⟩ [] .ret (some ([(0, vi 0)], [.cells false 0 ([vi ro, vi us, .mp 1, vb ((fu - 1) == (0 : Int)), vi (fu - 1)]), .obj [] (mapP [] hid)]))))) (
.leaf ⟨[0], [(0, 0, none), (1, 0, none)]⟩ [] .ret (some ([(0, vi 0)], [.cells false 0 ([vi ro, vi us, .mp 1, vb false, vi fu]), .obj [] (mapP [] hid)])))

theorem TStep_a_chk (ro : Int) (us : Int) (fu : Int) (hid : List (Value × Value)) : fnC DP Γ0 Δ0 Tryd.f65 [.ptr 0 0 0] [.cells false 0 ([vi ro, vi us, .mp 1, vb false, vi fu]), .obj [] (mapP [] hid)] (TStep_a ro us fu hid) = TStep_a ro us fu hid := by kernel_rfl

noncomputable def TStep_p (ro : Int) (us : Int) (fu : Int) (hid : List (Value × Value)) (L : List UInt8) (su : Int) (nm : ByteArray) : Tree :=
.sp 7 (decide (fu > (0 : Int))) (
.int 12 (IntKind.i64.wrap (fu - 1)) (fu - 1) (.sp 26 ((fu - 1) == (0 : Int)) (
.leaf ⟨[0], [(0, 0, none), (1, 0, none), (2, 0, none), (3, 0, some (L.map byteE.f))]⟩ [rowC (L.map byteE.f)] .ret (some ([(0, vi 10)], [.cells false 0 ([vi ro, vi us, .mp 1, vb ((fu - 1) == (0 : Int)), vi (fu - 1)]), .obj [.ptr 2 0 0] (mapP [.string nm] hid), .cells false 0 ([.rs 3 0 1 0 L.length, vi su]), byteE.bx 0 L]))) (
.leaf ⟨[0], [(0, 0, none), (1, 0, none), (2, 0, none), (3, 0, some (L.map byteE.f))]⟩ [rowC (L.map byteE.f)] .ret (some ([(0, vi 0)], [.cells false 0 ([vi ro, vi us, .mp 1, vb ((fu - 1) == (0 : Int)), vi (fu - 1)]), .obj [.ptr 2 0 0] (mapP [.string nm] hid), .cells false 0 ([.rs 3 0 1 0 L.length, vi su]), byteE.bx 0 L]))))) (
.leaf ⟨[0], [(0, 0, none), (1, 0, none), (2, 0, none), (3, 0, some (L.map byteE.f))]⟩ [rowC (L.map byteE.f)] .ret (some ([(0, vi 0)], [.cells false 0 ([vi ro, vi us, .mp 1, vb false, vi fu]), .obj [.ptr 2 0 0] (mapP [.string nm] hid), .cells false 0 ([.rs 3 0 1 0 L.length, vi su]), byteE.bx 0 L])))

theorem TStep_p_chk (ro : Int) (us : Int) (fu : Int) (hid : List (Value × Value)) (L : List UInt8) (su : Int) (nm : ByteArray) : fnC DP Γ0 Δ0 Tryd.f65 [.ptr 0 0 0] [.cells false 0 ([vi ro, vi us, .mp 1, vb false, vi fu]), .obj [.ptr 2 0 0] (mapP [.string nm] hid), .cells false 0 ([.rs 3 0 1 0 L.length, vi su]), byteE.bx 0 L] (TStep_p ro us fu hid L su nm) = TStep_p ro us fu hid L su nm := by kernel_rfl

noncomputable def TStep_q (ro : Int) (us : Int) (fu : Int) (hid : List (Value × Value)) (L : List UInt8) (su : Int) (M : List UInt8) (sv : Int) (nm : ByteArray) (nn : ByteArray) : Tree :=
.sp 7 (decide (fu > (0 : Int))) (
.int 12 (IntKind.i64.wrap (fu - 1)) (fu - 1) (.sp 26 ((fu - 1) == (0 : Int)) (
.leaf ⟨[0], [(0, 0, none), (1, 0, none), (2, 0, none), (3, 0, some (L.map byteE.f)), (4, 0, none), (5, 0, some (M.map byteE.f))]⟩ [rowC (L.map byteE.f), rowC (M.map byteE.f)] .ret (some ([(0, vi 10)], [.cells false 0 ([vi ro, vi us, .mp 1, vb ((fu - 1) == (0 : Int)), vi (fu - 1)]), .obj [.ptr 2 0 0, .ptr 4 0 0] (mapP [.string nm, .string nn] hid), .cells false 0 ([.rs 3 0 1 0 L.length, vi su]), byteE.bx 0 L, .cells false 0 ([.rs 5 0 1 0 M.length, vi sv]), byteE.bx 0 M]))) (
.leaf ⟨[0], [(0, 0, none), (1, 0, none), (2, 0, none), (3, 0, some (L.map byteE.f)), (4, 0, none), (5, 0, some (M.map byteE.f))]⟩ [rowC (L.map byteE.f), rowC (M.map byteE.f)] .ret (some ([(0, vi 0)], [.cells false 0 ([vi ro, vi us, .mp 1, vb ((fu - 1) == (0 : Int)), vi (fu - 1)]), .obj [.ptr 2 0 0, .ptr 4 0 0] (mapP [.string nm, .string nn] hid), .cells false 0 ([.rs 3 0 1 0 L.length, vi su]), byteE.bx 0 L, .cells false 0 ([.rs 5 0 1 0 M.length, vi sv]), byteE.bx 0 M]))))) (
.leaf ⟨[0], [(0, 0, none), (1, 0, none), (2, 0, none), (3, 0, some (L.map byteE.f)), (4, 0, none), (5, 0, some (M.map byteE.f))]⟩ [rowC (L.map byteE.f), rowC (M.map byteE.f)] .ret (some ([(0, vi 0)], [.cells false 0 ([vi ro, vi us, .mp 1, vb false, vi fu]), .obj [.ptr 2 0 0, .ptr 4 0 0] (mapP [.string nm, .string nn] hid), .cells false 0 ([.rs 3 0 1 0 L.length, vi su]), byteE.bx 0 L, .cells false 0 ([.rs 5 0 1 0 M.length, vi sv]), byteE.bx 0 M])))

theorem TStep_q_chk (ro : Int) (us : Int) (fu : Int) (hid : List (Value × Value)) (L : List UInt8) (su : Int) (M : List UInt8) (sv : Int) (nm : ByteArray) (nn : ByteArray) : fnC DP Γ0 Δ0 Tryd.f65 [.ptr 0 0 0] [.cells false 0 ([vi ro, vi us, .mp 1, vb false, vi fu]), .obj [.ptr 2 0 0, .ptr 4 0 0] (mapP [.string nm, .string nn] hid), .cells false 0 ([.rs 3 0 1 0 L.length, vi su]), byteE.bx 0 L, .cells false 0 ([.rs 5 0 1 0 M.length, vi sv]), byteE.bx 0 M] (TStep_q ro us fu hid L su M sv nm nn) = TStep_q ro us fu hid L su M sv nm nn := by kernel_rfl

end Go.Ax

namespace Go.Ax
open Go.Proofs Go.RowKit
set_option maxRecDepth 100000

theorem SFind : SoundR DP iFind RFind :=
  sound_genT mixedD Γ0_ok Δ0_ok hfFind heFind hbFind (fun args B r B' h => by
    cases h with
    | d ro us fu hid nm => exact ⟨by rw [hnFind]; rfl, _, TFind_d_chk ro us fu hid nm, wp_leaf rfl ⟨rfl, rfl⟩⟩
    | a ro us fu hid hs nm hh hn => exact ⟨by rw [hnFind]; rfl, _, TFind_a_chk ro us fu hid nm, wp_val (look_no htMap htKey htVal (ns := []) rfl hh (by simp) hn) (wp_leaf rfl ⟨rfl, rfl⟩)⟩
    | p ro us fu hid hs x hh => exact ⟨by rw [hnFind]; rfl, _, TFind_p_chk ro us fu hid x.b x.sure x.name, wp_val (look_v0 htMap htKey (ns := []) rfl hh) (wp_leaf rfl ⟨rfl, rfl⟩)⟩
    | q ro us fu hid hs x y hh => exact ⟨by rw [hnFind]; rfl, _, TFind_q_chk ro us fu hid x.b x.sure y.b y.sure y.name x.name, wp_val (look_v0 htMap htKey (ns := [y.name]) rfl hh) (wp_leaf rfl ⟨rfl, rfl⟩)⟩)

theorem step_wp {fu : Int} (hfu : fu < 9223372036854775808) {T : Int → Bool → Int → Tree} {K : AE → St → Prop}
    (hT : ∀ f d e, f = stF fu → d = stD fu → e = stE fu → (T f d e).wp K) :
    (Tree.sp 7 (decide (fu > (0 : Int))) (.int 12 (IntKind.i64.wrap (fu - 1)) (fu - 1) (.sp 26 ((fu - 1) == (0 : Int)) (T (fu - 1) ((fu - 1) == (0 : Int)) 10) (T (fu - 1) ((fu - 1) == (0 : Int)) 0))) (T fu false 0)).wp K := by
  refine wp_sp (fun h => wp_i64 (by have := of_decide_eq_true h; omega) (wp_sp (fun h2 => ?_) (fun h2 => ?_))) (fun h => ?_)
  · have h := of_decide_eq_true h
    exact hT _ _ _ (by rw [stF, if_pos h]) (by rw [stD, decide_eq_true h, Bool.true_and]) (by rw [stE, stD, decide_eq_true h, Bool.true_and, h2]; rfl)
  · have h := of_decide_eq_true h
    exact hT _ _ _ (by rw [stF, if_pos h]) (by rw [stD, decide_eq_true h, Bool.true_and]) (by rw [stE, stD, decide_eq_true h, Bool.true_and, h2]; rfl)
  · have h := of_decide_eq_false h
    exact hT _ _ _ (by rw [stF, if_neg h]) (by rw [stD, decide_eq_false h, Bool.false_and]) (by rw [stE, stD, decide_eq_false h, Bool.false_and]; rfl)

theorem SStep : SoundR DP iStep RStep :=
  sound_genT mixedD Γ0_ok Δ0_ok hfStep heStep hbStep (fun args B r B' h => by
    cases h with
    | mk ro us fu hid X hX hfu =>
      match X, hX with
      | [], _ => exact ⟨by rw [hnStep]; rfl, _, TStep_a_chk ro us fu hid, step_wp (T := fun f d e => .leaf _ [] .ret (some ([(0, vi e)], flatB (dsk ro us f d) [] hid))) hfu (fun f d e h1 h2 h3 => by subst h1 h2 h3; exact wp_leaf rfl ⟨rfl, rfl⟩)⟩
      | [x], _ => exact ⟨by rw [hnStep]; rfl, _, TStep_p_chk ro us fu hid x.b x.sure x.name, step_wp (T := fun f d e => .leaf ⟨[0], [(0, 0, none), (1, 0, none), (2, 0, none), (3, 0, some (x.b.map byteE.f))]⟩ [rowC (x.b.map byteE.f)] .ret (some ([(0, vi e)], flatB (dsk ro us f d) [x] hid))) hfu (fun f d e h1 h2 h3 => by subst h1 h2 h3; exact wp_leaf rfl ⟨rfl, rfl⟩)⟩
      | [x, y], _ => exact ⟨by rw [hnStep]; rfl, _, TStep_q_chk ro us fu hid x.b x.sure y.b y.sure x.name y.name, step_wp (T := fun f d e => .leaf ⟨[0], [(0, 0, none), (1, 0, none), (2, 0, none), (3, 0, some (x.b.map byteE.f)), (4, 0, none), (5, 0, some (y.b.map byteE.f))]⟩ [rowC (x.b.map byteE.f), rowC (y.b.map byteE.f)] .ret (some ([(0, vi e)], flatB (dsk ro us f d) [x, y] hid))) hfu (fun f d e h1 h2 h3 => by subst h1 h2 h3; exact wp_leaf rfl ⟨rfl, rfl⟩)⟩
      | _ :: _ :: _ :: _, h => exact absurd h (by simp))

noncomputable def ΓF : Env := fun f => if f = iNamed then .pure gNamed else .none
theorem ΓF_ok : ∀ f, SoundF DP f (ΓF f) := fun f => by
  unfold ΓF
  split
  · rename_i e; rw [e]; exact SNamed
  · exact sound_none f
def ΔF : REnv := fun f => if f = iFind then liftR RFind else if f = iStep then liftR RStep else fun _ _ _ _ => False
theorem ΔF_ok : ∀ f, SoundR DP f (ΔF f) := fun f => by
  unfold ΔF
  split
  · rename_i e; rw [e]; exact lift_sound SFind
  split
  · rename_i e; rw [e]; exact lift_sound SStep
  · exact .none f

end Go.Ax
