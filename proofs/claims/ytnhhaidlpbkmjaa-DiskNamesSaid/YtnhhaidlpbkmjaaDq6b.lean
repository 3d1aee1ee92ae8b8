/- The keys of a map, sorted: by the library's proved summaries, laid at this seat. -/
import Derived.Test.YtnhhaidlpbkmjaaDk10
import Derived.Test.YtnhhaidlpbkmjaaDq6
set_option linter.unusedVariables false
set_option linter.unusedSimpArgs false
set_option linter.unusedSectionVars false
namespace Go.Proofs
open Go.RowKit Go.Maps Go.Sort Go.Shelf

def Try.keysA_ren : Go.Shelf.Ren := ⟨fun | 7 => 36 | 10 => 44 | n => n, fun | 23 => 62 | 26 => 9 | 3 => 65 | 28 => 73 | 0 => 0 | 27 => 72 | 33 => 60 | 4 => 4 | n => n, fun | n => n⟩
theorem Try.keysA : Go.Proofs.SlLaysZ.n7 Try.prog Try.keysA_ren := {
  mixed := by kernel_rfl
  f7 := ⟨Try.f36.name, by decide, Try.func36.trans (congrArg some (by kernel_rfl))⟩
  f10 := ⟨Try.f44.name, by decide, Try.func44.trans (congrArg some (by kernel_rfl))⟩
  t0 := Try.underlying0
  a0 := Try.isAgg0
  z0 := Try.sizeOf0
  v0 := Try.zeroValue0
  t4 := Try.underlying4
  a4 := Try.isAgg4
  z4 := Try.sizeOf4
  v4 := Try.zeroValue4
  t23 := Try.underlying62
  a23 := Try.isAgg62
  z23 := Try.sizeOf62
  v23 := Try.zeroValue62
  t26 := Try.underlying9
  a26 := Try.isAgg9
  z26 := Try.sizeOf9
  v26 := Try.zeroValue9
  t27 := Try.underlying72
  a27 := Try.isAgg72
  z27 := Try.sizeOf72
  v27 := Try.zeroValue72
  t28 := Try.underlying73
  a28 := Try.isAgg73
  z28 := Try.sizeOf73
  v28 := Try.zeroValue73
  t33 := Try.underlying60
  a33 := Try.isAgg60
  z33 := Try.sizeOf60
  v33 := Try.zeroValue60 }
def Try.sortedA_ren : Go.Shelf.Ren := ⟨fun | 6 => 35 | 8 => 42 | 9 => 43 | 11 => 45 | 13 => 47 | 12 => 46 | 23 => 57 | 24 => 58 | 14 => 48 | 15 => 49 | 16 => 50 | 17 => 51 | 18 => 52 | 19 => 53 | 20 => 54 | 21 => 55 | 22 => 56 | 25 => 59 | 26 => 60 | 27 => 61 | 28 => 62 | 29 => 63 | 30 => 64 | 31 => 65 | n => n, fun | 26 => 9 | 28 => 73 | 24 => 36 | 0 => 0 | 3 => 3 | 37 => 85 | 48 => 96 | 50 => 98 | 4 => 4 | 40 => 88 | 39 => 87 | 45 => 93 | 5 => 5 | 9 => 9 | 51 => 99 | 55 => 103 | 57 => 105 | 58 => 106 | 33 => 60 | n => n, fun | n => n⟩
theorem Try.sortedA : Go.Proofs.SlLaysZ.n6 Try.prog Try.sortedA_ren := {
  mixed := by kernel_rfl
  f6 := ⟨Try.f35.name, by decide, Try.func35.trans (congrArg some (by kernel_rfl))⟩
  f8 := ⟨Try.f42.name, by decide, Try.func42.trans (congrArg some (by kernel_rfl))⟩
  f11 := ⟨Try.f45.name, by decide, Try.func45.trans (congrArg some (by kernel_rfl))⟩
  t0 := Try.underlying0
  a0 := Try.isAgg0
  z0 := Try.sizeOf0
  v0 := Try.zeroValue0
  t24 := Try.underlying36
  a24 := Try.isAgg36
  z24 := Try.sizeOf36
  v24 := Try.zeroValue36
  t26 := Try.underlying9
  a26 := Try.isAgg9
  z26 := Try.sizeOf9
  v26 := Try.zeroValue9
  t28 := Try.underlying73
  a28 := Try.isAgg73
  z28 := Try.sizeOf73
  v28 := Try.zeroValue73
  i26 := by kernel_rfl }
def Try.sortA_ren : Go.Shelf.Ren := ⟨fun | 6 => 43 | 8 => 47 | 9 => 46 | 19 => 57 | 20 => 58 | 21 => 48 | 22 => 49 | 23 => 50 | 24 => 51 | 25 => 52 | 26 => 53 | 27 => 54 | 28 => 55 | 29 => 56 | 36 => 59 | 31 => 60 | 32 => 61 | 37 => 62 | 38 => 63 | 39 => 64 | 41 => 65 | n => n, fun | 27 => 36 | 29 => 9 | 3 => 3 | 32 => 85 | 26 => 36 | 0 => 0 | 44 => 96 | 46 => 98 | 4 => 4 | 36 => 88 | 35 => 87 | 41 => 93 | 5 => 5 | 9 => 9 | 53 => 99 | 57 => 103 | 63 => 105 | 64 => 106 | n => n, fun | n => n⟩
theorem Try.sortA : Go.Proofs.SlLaysM.n6 Try.prog Try.sortA_ren := {
  mixed := by kernel_rfl
  f6 := ⟨Try.f43.name, by decide, Try.func43.trans (congrArg some (by kernel_rfl))⟩
  f8 := Try.func47.trans (congrArg some (by kernel_rfl))
  f9 := ⟨Try.f46.name, by decide, Try.func46.trans (congrArg some (by kernel_rfl))⟩
  f19 := Try.func57.trans (congrArg some (by kernel_rfl))
  f20 := Try.func58.trans (congrArg some (by kernel_rfl))
  f21 := ⟨Try.f48.name, by decide, Try.func48.trans (congrArg some (by kernel_rfl))⟩
  f22 := ⟨Try.f49.name, by decide, Try.func49.trans (congrArg some (by kernel_rfl))⟩
  f23 := ⟨Try.f50.name, by decide, Try.func50.trans (congrArg some (by kernel_rfl))⟩
  f24 := ⟨Try.f51.name, by decide, Try.func51.trans (congrArg some (by kernel_rfl))⟩
  f25 := ⟨Try.f52.name, by decide, Try.func52.trans (congrArg some (by kernel_rfl))⟩
  f26 := ⟨Try.f53.name, by decide, Try.func53.trans (congrArg some (by kernel_rfl))⟩
  f27 := ⟨Try.f54.name, by decide, Try.func54.trans (congrArg some (by kernel_rfl))⟩
  f28 := ⟨Try.f55.name, by decide, Try.func55.trans (congrArg some (by kernel_rfl))⟩
  f29 := ⟨Try.f56.name, by decide, Try.func56.trans (congrArg some (by kernel_rfl))⟩
  f31 := Try.func60.trans (congrArg some (by kernel_rfl))
  f32 := Try.func61.trans (congrArg some (by kernel_rfl))
  f36 := ⟨Try.f59.name, by decide, Try.func59.trans (congrArg some (by kernel_rfl))⟩
  f37 := ⟨Try.f62.name, by decide, Try.func62.trans (congrArg some (by kernel_rfl))⟩
  f38 := ⟨Try.f63.name, by decide, Try.func63.trans (congrArg some (by kernel_rfl))⟩
  f39 := ⟨Try.f64.name, by decide, Try.func64.trans (congrArg some (by kernel_rfl))⟩
  f41 := ⟨Try.f65.name, by decide, Try.func65.trans (congrArg some (by kernel_rfl))⟩
  t0 := Try.underlying0
  a0 := Try.isAgg0
  z0 := Try.sizeOf0
  v0 := Try.zeroValue0
  t3 := Try.underlying3
  a3 := Try.isAgg3
  z3 := Try.sizeOf3
  v3 := Try.zeroValue3
  t4 := Try.underlying4
  a4 := Try.isAgg4
  z4 := Try.sizeOf4
  v4 := Try.zeroValue4
  t5 := Try.underlying5
  a5 := Try.isAgg5
  z5 := Try.sizeOf5
  v5 := Try.zeroValue5
  t9 := Try.underlying9
  a9 := Try.isAgg9
  z9 := Try.sizeOf9
  v9 := Try.zeroValue9
  t26 := Try.underlying36
  a26 := Try.isAgg36
  z26 := Try.sizeOf36
  v26 := Try.zeroValue36
  t27 := Try.underlying36
  a27 := Try.isAgg36
  z27 := Try.sizeOf36
  v27 := Try.zeroValue36
  t29 := Try.underlying9
  a29 := Try.isAgg9
  z29 := Try.sizeOf9
  v29 := Try.zeroValue9
  t32 := Try.underlying85
  a32 := Try.isAgg85
  z32 := Try.sizeOf85
  v32 := Try.zeroValue85
  t35 := Try.underlying87
  a35 := Try.isAgg87
  z35 := Try.sizeOf87
  v35 := Try.zeroValue87
  t36 := Try.underlying88
  a36 := Try.isAgg88
  z36 := Try.sizeOf88
  v36 := Try.zeroValue88
  t41 := Try.underlying93
  a41 := Try.isAgg93
  z41 := Try.sizeOf93
  v41 := Try.zeroValue93
  t44 := Try.underlying96
  a44 := Try.isAgg96
  z44 := Try.sizeOf96
  v44 := Try.zeroValue96
  t46 := Try.underlying98
  a46 := Try.isAgg98
  z46 := Try.sizeOf98
  v46 := Try.zeroValue98
  t53 := Try.underlying99
  a53 := Try.isAgg99
  z53 := Try.sizeOf99
  v53 := Try.zeroValue99
  t57 := Try.underlying103
  a57 := Try.isAgg103
  z57 := Try.sizeOf103
  v57 := Try.zeroValue103
  t63 := Try.underlying105
  a63 := Try.isAgg105
  z63 := Try.sizeOf105
  v63 := Try.zeroValue105
  t64 := Try.underlying106
  a64 := Try.isAgg106
  z64 := Try.sizeOf106
  v64 := Try.zeroValue106 }

theorem Try.sortsA (m : Nat) : AnyZ.SortsIn Try.prog Try.sortedA_ren Fence.wide m :=
  ⟨fun blk off cap ss W hH hblk hsz => callsIn_wide.2 (AnyM.slices_Sort_string Try.sortA blk off cap ss W hH hblk hsz),
   fun p cap W => callsIn_wide.2 (AnyM.slices_Sort_string_none Try.sortA p cap W)⟩

theorem Try.keys_run (mb : Option Nat) (W : World) : Calls Try.prog 36 #[.map mb] W fun e w' => e = .returned (.func (.func 44) #[] #[.pointer (some ⟨W.heap.size, 0, none⟩)]) ∧ w' = W.alloc (.cells #[.map mb] 62) :=
  (callsIn_wide (n := 5)).1 (AnyZ.keys_in Try.keysA Fence.wide 5 trivial rfl mb W)

theorem Try.sorted_run (cell b nn : Nat) (D0 : DataW Unit) (R : Value → Option (DataW Unit × List MemPlace)) (w : World) (hcell : cell < w.heap.size) (hm : w.cell? ⟨cell, 0, none⟩ = some (.map (some b))) (hown : w.ownsMap Try.prog 9 R b nn D0) (hmax : Maps.size D0 ≤ 1000000) :
    Calls Try.prog 35 #[.func (.func 44) #[] #[.pointer (some ⟨cell, 0, none⟩)]] w fun e w' => ∃ (v : Value) (ss : List (List UInt8)), e = .returned v ∧ ss.Perm (strKeys D0) ∧
      w'.ownsRow w.heap.size 9 1 v ss.length ((ss.mergeSort (fun x y => decide (x ≤ y))).map encStr) ∧ (v = .slice none 0 0 ↔ ss = []) ∧ Below w.heap.size w w' := by
  refine (callsIn_wide (n := 5)).1 ?_
  have hseq : SeqGives Fence.wide 2 Try.prog 44 #[.pointer (some ⟨cell, 0, none⟩)] encStr (fun ss => ss.Perm (strKeys D0)) (Maps.size D0) w :=
    AnyZ.keys_gives (ρ := Try.keysA_ren) { Try.keysA with } Fence.wide _ trivial rfl (by omega) cell b nn D0 _ hcell hm hown
  have hml : (1000000 : Nat) ≤ maxLen := by unfold maxLen; omega
  exact AnyZ.sorted_in Try.sortedA Fence.wide 5 trivial trivial trivial trivial rfl (by omega) (Try.sortsA _) (enters_of Try.func43 (by kernel_rfl) rfl) 44 #[.pointer (some ⟨cell, 0, none⟩)] trivial (enters_of Try.func44 (by kernel_rfl) rfl) _ _ (by omega) (by omega) _ hseq

end Go.Proofs

namespace Go.Ax
open Go.Proofs Go.RowKit Go.Maps
set_option maxRecDepth 100000

/-- The keys of a map, sorted. -/
def RSorted : RSpec := fun args B r B' => ∃ (hid : List (Value × Value)) (ns : List ByteArray), hid.map (·.1) = strsV ns ∧ ns.length ≤ 1000000 ∧ (∀ n ∈ ns, n.size ≤ 1000000000) ∧
  args = [.fn 44 [.ptr 1 0 0]] ∧ B = [.obj [] (mapP [] hid), .cells false 0 [.mp 0]] ∧ r = vl ((sortN ns).map nameE.f) ∧ B' = B

theorem encStr_name (l : List UInt8) : encStr l = .string ⟨l.toArray⟩ := rfl

theorem SSorted : SoundR DP iSorted RSorted := by
  rintro args B r B' ⟨hid, ns, hk, hn, hs, rfl, rfl, rfl, rfl⟩ F ρ w us hI hA
  obtain ⟨k, o, us0, hr0, ⟨q1, es, clock, q2, q3, q4, q5⟩, hl0, _⟩ := hI.obox 0 _ _ rfl
  have hus0 : us0 = [] := by cases us0 with | nil => rfl | cons => simp at q4
  subst hus0
  obtain ⟨D0, hown, hp, hsz⟩ := map_owns (P := DP) (k := 9) (by kernel_rfl) q2 q3 (by simpa using q5) hk hn hs
  rcases hI.box 1 _ _ _ rfl with ⟨_, h, _⟩ | ⟨k1, o1, us1, e, fr, h1, h2, h3, h4, h5⟩
  · cases h
  obtain rfl := hI.off0 1 _ _ _ _ rfl h1
  obtain ⟨u, g1, g2⟩ := h5 0 _ rfl
  obtain ⟨u0, rfl⟩ : ∃ u0, us = [u0] := by
    have := hA.1
    match us, this with
    | [u0], _ => exact ⟨u0, rfl⟩
  have hf := hA.2 0 _ u0 rfl rfl
  cases hf with
  | fn _ _ vs hlen hcap =>
  obtain ⟨c0, rfl⟩ : ∃ c0, vs = [c0] := by
    match vs, hlen with
    | [c0], _ => exact ⟨c0, rfl⟩
  have hc := hcap 0 _ c0 rfl rfl
  cases hc with
  | ptr _ _ _ a hpo =>
  obtain ⟨k', o', e1, e2⟩ := (hpo.2 _ _ _ rfl).2 rfl
  rw [h1] at e1
  cases e1
  subst e2
  cases g2 with
  | mp _ r hmp =>
  obtain ⟨o2, e3⟩ := hmp.2 _ _ rfl
  rw [hr0] at e3
  cases e3
  have hcell : w.cell? ⟨k1, 0, none⟩ = some (.map (some k)) := by
    rw [cell_of h2]; exact g1
  refine .inl ⟨enter_run heSorted _ _, (Try.sorted_run k1 k _ D0 _ w (Array.getElem?_eq_some_iff.1 h2).1 hcell hown (by omega)).mono fun en w' hpost => ?_⟩
  obtain ⟨v, ss, rfl, hperm, hrow, hnil, hbelow⟩ := hpost
  have hsh : ∀ k e n, w.shape? k = some (e, n) → w'.shape? k = some (e, n) := fun k e n h => by
    have hk : k < w.heap.size := by
      rcases Nat.lt_or_ge k w.heap.size with h' | h'
      · exact h'
      · unfold World.shape? at h
        rw [Array.getElem?_eq_none h'] at h
        cases h
    unfold World.shape? at h ⊢
    rw [hbelow.block k hk]
    exact h
  obtain ⟨s1, s2⟩ := stands hbelow.size hbelow.os hbelow.tape hbelow.output hsh (fun k hk => hbelow.block k hk) hI
  have hsort : ss.mergeSort (fun x y => decide (x ≤ y)) = sortB (ns.map fun n => n.data.toList) := mergeSort_of_perm (hperm.trans hp)
  have hslen : ss.length = (sortN ns).length := by
    have := congrArg List.length hsort
    simpa [sortN] using this
  rw [hsort] at hrow
  have hus : (sortB (ns.map fun n => n.data.toList)).map encStr = (sortN ns).map Value.string := by
    unfold sortN
    rw [List.map_map]
    exact List.map_congr_left fun l _ => rfl
  rw [hus] at hrow
  have hcells : (((sortN ns).map nameE.f).flatMap PV.cells) = (sortN ns).map fun n => PV.v (.string n) := by
    induction sortN ns with
    | nil => rfl
    | cons n l ih => simp only [List.map_cons, List.flatMap_cons, ih]; rfl
  refine ⟨v, ρ, rfl, s2, s1, .p _ _ ?_⟩
  rcases hrow.2 with ⟨rfl, h0⟩ | ⟨g, cap, cur, rfl, hge, hg, hc1, hc2, hc3, hc4⟩
  · rw [hslen] at h0
    rw [List.eq_nil_of_length_eq_zero h0]
    exact .nil none 0 (.inr rfl)
  · rw [hslen]
    have : (sortN ns).length = ((sortN ns).map nameE.f).length := by simp
    rw [this]
    have hgl : g < w'.heap.size := (Array.getElem?_eq_some_iff.1 hg).1
    refine .ls _ ⟨g, 0, none⟩ cap ((sortN ns).map Value.string) rfl (fun ho => ?_) hgl (by simpa [← hslen] using hc1) (by rw [hcells]; simp) (fun j u hj => ?_) (fun j p u hj hu => ?_)
    · have := hI.ownlt g ho
      omega
    · rw [Addr.add_lit, cell_of hg]
      rw [← hc4, List.getElem?_take] at hj
      split at hj
      · simpa using hj
      · cases hj
    · rw [hcells, List.getElem?_map] at hj
      rw [List.getElem?_map] at hu
      cases hq : (sortN ns)[j]? with
      | none => rw [hq] at hj; cases hj
      | some n =>
        rw [hq] at hj hu
        cases hj
        cases hu
        exact .v _

end Go.Ax

namespace Go.Ax
open Go.Proofs Go.RowKit
set_option maxRecDepth 100000

def RKeys : RSpec := fun args B r B' => ∃ (hid : List (Value × Value)), args = [.mp 0] ∧ B = [.obj [] (mapP [] hid)] ∧ r = .fn iKeys1 [.ptr 1 0 0] ∧ B' = [.obj [] (mapP [] hid), .cells false 0 [.mp 0]]

theorem SKeys : SoundR DP iKeys RKeys := sound_genT mixedD Γ0_ok Δ0_ok hfKeys heKeys hbKeys (by
  rintro args B r B' ⟨hid, rfl, rfl, rfl, rfl⟩
  exact ⟨by rw [hnKeys]; rfl, _, TKeys_chk hid, wp_leaf rfl ⟨rfl, rfl⟩⟩)

def ΔL : REnv := fun f => if f = iKeys then liftR RKeys else if f = iSorted then liftR RSorted else fun _ _ _ _ => False
theorem ΔL_ok : ∀ f, SoundR DP f (ΔL f) := fun f => by
  unfold ΔL
  split
  · rename_i e; rw [e]; exact lift_sound SKeys
  split
  · rename_i e; rw [e]; exact lift_sound SSorted
  · exact .none f

theorem ΔL_keys : ΔL iKeys = liftR RKeys := if_pos rfl
theorem ΔL_sorted : ΔL iSorted = liftR RSorted := by unfold ΔL; rw [if_neg (by decide), if_pos rfl]

theorem dKeys (b0 : Box) (hid : List (Value × Value)) : ΔL iKeys [.mp 1] [b0, .obj [] (mapP [] hid)] (.fn iKeys1 [.ptr 2 0 0]) [b0, .obj [] (mapP [] hid), .cells false 0 [.mp 1]] := by
  rw [ΔL_keys]
  exact ⟨_, _, _, _, ⟨hid, rfl, rfl, rfl, rfl⟩, ⟨[1], [0], [.obj [] (mapP [] hid)], [.obj [] (mapP [] hid)], [.cells false 0 [.mp 1]], rfl, rfl, rfl, rfl, ⟨.objs rfl rfl, trivial⟩, ⟨.objs rfl rfl, .cells rfl rfl rfl, trivial⟩, rfl, rfl, rfl⟩⟩

theorem dSorted (b0 : Box) {hid : List (Value × Value)} {ns : List ByteArray} (h1 : hid.map (·.1) = strsV ns) (h2 : ns.length ≤ 1000000) (h3 : ∀ n ∈ ns, n.size ≤ 1000000000) :
    ΔL iSorted [.fn iKeys1 [.ptr 2 0 0]] [b0, .obj [] (mapP [] hid), .cells false 0 [.mp 1]] (vl ((sortN ns).map nameE.f)) [b0, .obj [] (mapP [] hid), .cells false 0 [.mp 1]] := by
  rw [ΔL_sorted]
  exact ⟨_, _, _, _, ⟨hid, ns, h1, h2, h3, rfl, rfl, rfl, rfl⟩, ⟨[1, 2], [0, 0], [.obj [] (mapP [] hid), .cells false 0 [.mp 1]], [.obj [] (mapP [] hid), .cells false 0 [.mp 1]], [], rfl, rfl, rfl, rfl, ⟨.objs rfl rfl, .cells rfl rfl rfl, trivial⟩, ⟨.objs rfl rfl, .cells rfl rfl rfl, trivial⟩, rfl, rfl, rfl⟩⟩

end Go.Ax
