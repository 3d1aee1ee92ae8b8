/- Trees, printed by gen/k1.py: the disk's functions, the disk laid open. -/
import Derived.Test.YtjlipmcdnigfcaaDoorG23
import Derived.Test.YtjlipmcdnigfcaaDoorG22
import Derived.Test.YtjlipmcdnigfcaaDoorG29
import Derived.Test.YtjlipmcdnigfcaaDoorG33
set_option linter.unusedVariables false
set_option linter.unusedSimpArgs false
set_option linter.unusedSectionVars false
namespace Go.Ax
open Go.Proofs Go.RowKit
set_option maxRecDepth 100000

abbrev iKeys : Nat := 85
abbrev iKeys1 : Nat := 101
abbrev iSorted : Nat := 84
noncomputable abbrev nKeys : Func := Tryd.f85
theorem hfKeys : DP.funcs[iKeys]? = some nKeys := by kernel_rfl
theorem heKeys : enters DP iKeys = true := by kernel_rfl
theorem hbKeys : nKeys.body.isSome = true := by kernel_rfl
theorem hnKeys : nKeys.ntmps = 4 := by kernel_rfl
theorem heSorted : enters DP iSorted = true := by kernel_rfl

noncomputable def TKeys (hid : List (Value × Value)) : Tree :=
.leaf ⟨[0], [(0, 0, none), (1, 0, none)]⟩ [] .ret (some ([(0, .fn 101 [.ptr 1 0 0])], [.obj [] (mapP [] hid), .cells false 0 ([.mp 0])]))

theorem TKeys_chk (hid : List (Value × Value)) : fnC DP Γ0 Δ0 Tryd.f85 [.mp 0] [.obj [] (mapP [] hid)] (TKeys hid) = TKeys hid := by kernel_rfl

end Go.Ax

namespace Go.Proofs
open Go.RowKit Go.Maps Go.Sort Go.Shelf

def Tryd.keysA_ren : Go.Shelf.Ren := ⟨fun | 7 => 85 | 10 => 101 | n => n, fun | 23 => 88 | 26 => 9 | 3 => 100 | 28 => 133 | 0 => 0 | 27 => 132 | 33 => 105 | 4 => 4 | n => n, fun | n => n⟩
theorem Tryd.keysA : Go.Proofs.SlLaysZ.n7 Tryd.prog Tryd.keysA_ren := {
  mixed := by kernel_rfl
  f7 := ⟨Tryd.f85.name, by decide, Tryd.func85.trans (congrArg some (by kernel_rfl))⟩
  f10 := ⟨Tryd.f101.name, by decide, Tryd.func101.trans (congrArg some (by kernel_rfl))⟩
  t0 := Tryd.underlying0
  a0 := Tryd.isAgg0
  z0 := Tryd.sizeOf0
  v0 := Tryd.zeroValue0
  t4 := Tryd.underlying4
  a4 := Tryd.isAgg4
  z4 := Tryd.sizeOf4
  v4 := Tryd.zeroValue4
  t23 := Tryd.underlying88
  a23 := Tryd.isAgg88
  z23 := Tryd.sizeOf88
  v23 := Tryd.zeroValue88
  t26 := Tryd.underlying9
  a26 := Tryd.isAgg9
  z26 := Tryd.sizeOf9
  v26 := Tryd.zeroValue9
  t27 := Tryd.underlying132
  a27 := Tryd.isAgg132
  z27 := Tryd.sizeOf132
  v27 := Tryd.zeroValue132
  t28 := Tryd.underlying133
  a28 := Tryd.isAgg133
  z28 := Tryd.sizeOf133
  v28 := Tryd.zeroValue133
  t33 := Tryd.underlying105
  a33 := Tryd.isAgg105
  z33 := Tryd.sizeOf105
  v33 := Tryd.zeroValue105 }
def Tryd.sortedA_ren : Go.Shelf.Ren := ⟨fun | 6 => 84 | 8 => 100 | 9 => 86 | 11 => 115 | 13 => 103 | 12 => 102 | 23 => 125 | 24 => 126 | 14 => 116 | 15 => 117 | 16 => 118 | 17 => 119 | 18 => 120 | 19 => 121 | 20 => 122 | 21 => 123 | 22 => 124 | 25 => 135 | 26 => 136 | 27 => 137 | 28 => 138 | 29 => 139 | 30 => 140 | 31 => 148 | n => n, fun | 26 => 9 | 28 => 133 | 24 => 27 | 0 => 0 | 3 => 3 | 37 => 117 | 48 => 137 | 50 => 46 | 4 => 4 | 40 => 162 | 39 => 161 | 45 => 42 | 5 => 5 | 9 => 9 | 51 => 180 | 55 => 184 | 57 => 196 | 58 => 197 | 33 => 105 | n => n, fun | n => n⟩
theorem Tryd.sortedA : Go.Proofs.SlLaysZ.n6 Tryd.prog Tryd.sortedA_ren := {
  mixed := by kernel_rfl
  f6 := ⟨Tryd.f84.name, by decide, Tryd.func84.trans (congrArg some (by kernel_rfl))⟩
  f8 := ⟨Tryd.f100.name, by decide, Tryd.func100.trans (congrArg some (by kernel_rfl))⟩
  f11 := ⟨Tryd.f115.name, by decide, Tryd.func115.trans (congrArg some (by kernel_rfl))⟩
  t0 := Tryd.underlying0
  a0 := Tryd.isAgg0
  z0 := Tryd.sizeOf0
  v0 := Tryd.zeroValue0
  t24 := Tryd.underlying27
  a24 := Tryd.isAgg27
  z24 := Tryd.sizeOf27
  v24 := Tryd.zeroValue27
  t26 := Tryd.underlying9
  a26 := Tryd.isAgg9
  z26 := Tryd.sizeOf9
  v26 := Tryd.zeroValue9
  t28 := Tryd.underlying133
  a28 := Tryd.isAgg133
  z28 := Tryd.sizeOf133
  v28 := Tryd.zeroValue133
  i26 := by kernel_rfl }
def Tryd.sortA_ren : Go.Shelf.Ren := ⟨fun | 6 => 86 | 8 => 103 | 9 => 102 | 19 => 125 | 20 => 126 | 21 => 116 | 22 => 117 | 23 => 118 | 24 => 119 | 25 => 120 | 26 => 121 | 27 => 122 | 28 => 123 | 29 => 124 | 36 => 135 | 31 => 136 | 32 => 137 | 37 => 138 | 38 => 139 | 39 => 140 | 41 => 148 | n => n, fun | 27 => 27 | 29 => 9 | 3 => 3 | 32 => 117 | 26 => 27 | 0 => 0 | 44 => 137 | 46 => 46 | 4 => 4 | 36 => 162 | 35 => 161 | 41 => 42 | 5 => 5 | 9 => 9 | 53 => 180 | 57 => 184 | 63 => 196 | 64 => 197 | n => n, fun | n => n⟩
theorem Tryd.sortA : Go.Proofs.SlLaysM.n6 Tryd.prog Tryd.sortA_ren := {
  mixed := by kernel_rfl
  f6 := ⟨Tryd.f86.name, by decide, Tryd.func86.trans (congrArg some (by kernel_rfl))⟩
  f8 := Tryd.func103.trans (congrArg some (by kernel_rfl))
  f9 := ⟨Tryd.f102.name, by decide, Tryd.func102.trans (congrArg some (by kernel_rfl))⟩
  f19 := Tryd.func125.trans (congrArg some (by kernel_rfl))
  f20 := Tryd.func126.trans (congrArg some (by kernel_rfl))
  f21 := ⟨Tryd.f116.name, by decide, Tryd.func116.trans (congrArg some (by kernel_rfl))⟩
  f22 := ⟨Tryd.f117.name, by decide, Tryd.func117.trans (congrArg some (by kernel_rfl))⟩
  f23 := ⟨Tryd.f118.name, by decide, Tryd.func118.trans (congrArg some (by kernel_rfl))⟩
  f24 := ⟨Tryd.f119.name, by decide, Tryd.func119.trans (congrArg some (by kernel_rfl))⟩
  f25 := ⟨Tryd.f120.name, by decide, Tryd.func120.trans (congrArg some (by kernel_rfl))⟩
  f26 := ⟨Tryd.f121.name, by decide, Tryd.func121.trans (congrArg some (by kernel_rfl))⟩
  f27 := ⟨Tryd.f122.name, by decide, Tryd.func122.trans (congrArg some (by kernel_rfl))⟩
  f28 := ⟨Tryd.f123.name, by decide, Tryd.func123.trans (congrArg some (by kernel_rfl))⟩
  f29 := ⟨Tryd.f124.name, by decide, Tryd.func124.trans (congrArg some (by kernel_rfl))⟩
  f31 := Tryd.func136.trans (congrArg some (by kernel_rfl))
  f32 := Tryd.func137.trans (congrArg some (by kernel_rfl))
  f36 := ⟨Tryd.f135.name, by decide, Tryd.func135.trans (congrArg some (by kernel_rfl))⟩
  f37 := ⟨Tryd.f138.name, by decide, Tryd.func138.trans (congrArg some (by kernel_rfl))⟩
  f38 := ⟨Tryd.f139.name, by decide, Tryd.func139.trans (congrArg some (by kernel_rfl))⟩
  f39 := ⟨Tryd.f140.name, by decide, Tryd.func140.trans (congrArg some (by kernel_rfl))⟩
  f41 := ⟨Tryd.f148.name, by decide, Tryd.func148.trans (congrArg some (by kernel_rfl))⟩
  t0 := Tryd.underlying0
  a0 := Tryd.isAgg0
  z0 := Tryd.sizeOf0
  v0 := Tryd.zeroValue0
  t3 := Tryd.underlying3
  a3 := Tryd.isAgg3
  z3 := Tryd.sizeOf3
  v3 := Tryd.zeroValue3
  t4 := Tryd.underlying4
  a4 := Tryd.isAgg4
  z4 := Tryd.sizeOf4
  v4 := Tryd.zeroValue4
  t5 := Tryd.underlying5
  a5 := Tryd.isAgg5
  z5 := Tryd.sizeOf5
  v5 := Tryd.zeroValue5
  t9 := Tryd.underlying9
  a9 := Tryd.isAgg9
  z9 := Tryd.sizeOf9
  v9 := Tryd.zeroValue9
  t26 := Tryd.underlying27
  a26 := Tryd.isAgg27
  z26 := Tryd.sizeOf27
  v26 := Tryd.zeroValue27
  t27 := Tryd.underlying27
  a27 := Tryd.isAgg27
  z27 := Tryd.sizeOf27
  v27 := Tryd.zeroValue27
  t29 := Tryd.underlying9
  a29 := Tryd.isAgg9
  z29 := Tryd.sizeOf9
  v29 := Tryd.zeroValue9
  t32 := Tryd.underlying117
  a32 := Tryd.isAgg117
  z32 := Tryd.sizeOf117
  v32 := Tryd.zeroValue117
  t35 := Tryd.underlying161
  a35 := Tryd.isAgg161
  z35 := Tryd.sizeOf161
  v35 := Tryd.zeroValue161
  t36 := Tryd.underlying162
  a36 := Tryd.isAgg162
  z36 := Tryd.sizeOf162
  v36 := Tryd.zeroValue162
  t41 := Tryd.underlying42
  a41 := Tryd.isAgg42
  z41 := Tryd.sizeOf42
  v41 := Tryd.zeroValue42
  t44 := Tryd.underlying137
  a44 := Tryd.isAgg137
  z44 := Tryd.sizeOf137
  v44 := Tryd.zeroValue137
  t46 := Tryd.underlying46
  a46 := Tryd.isAgg46
  z46 := Tryd.sizeOf46
  v46 := Tryd.zeroValue46
  t53 := Tryd.underlying180
  a53 := Tryd.isAgg180
  z53 := Tryd.sizeOf180
  v53 := Tryd.zeroValue180
  t57 := Tryd.underlying184
  a57 := Tryd.isAgg184
  z57 := Tryd.sizeOf184
  v57 := Tryd.zeroValue184
  t63 := Tryd.underlying196
  a63 := Tryd.isAgg196
  z63 := Tryd.sizeOf196
  v63 := Tryd.zeroValue196
  t64 := Tryd.underlying197
  a64 := Tryd.isAgg197
  z64 := Tryd.sizeOf197
  v64 := Tryd.zeroValue197 }

theorem Tryd.sortsA (m : Nat) : AnyZ.SortsIn Tryd.prog Tryd.sortedA_ren Fence.wide m :=
  ⟨fun blk off cap ss W hH hblk hsz => callsIn_wide.2 (AnyM.slices_Sort_string Tryd.sortA blk off cap ss W hH hblk hsz),
   fun p cap W => callsIn_wide.2 (AnyM.slices_Sort_string_none Tryd.sortA p cap W)⟩

theorem Tryd.keys_run (mb : Option Nat) (W : World) : Calls Tryd.prog 85 #[.map mb] W fun e w' => e = .returned (.func (.func 101) #[] #[.pointer (some ⟨W.heap.size, 0, none⟩)]) ∧ w' = W.alloc (.cells #[.map mb] 88) :=
  (callsIn_wide (n := 5)).1 (AnyZ.keys_in Tryd.keysA Fence.wide 5 trivial rfl mb W)

theorem Tryd.sorted_run (cell b nn : Nat) (D0 : DataW Unit) (R : Value → Option (DataW Unit × List MemPlace)) (w : World) (hcell : cell < w.heap.size) (hm : w.cell? ⟨cell, 0, none⟩ = some (.map (some b))) (hown : w.ownsMap Tryd.prog 9 R b nn D0) (hmax : Maps.size D0 ≤ 1000000) :
    Calls Tryd.prog 84 #[.func (.func 101) #[] #[.pointer (some ⟨cell, 0, none⟩)]] w fun e w' => ∃ (v : Value) (ss : List (List UInt8)), e = .returned v ∧ ss.Perm (strKeys D0) ∧
      w'.ownsRow w.heap.size 9 1 v ss.length ((ss.mergeSort (fun x y => decide (x ≤ y))).map encStr) ∧ (v = .slice none 0 0 ↔ ss = []) ∧ Below w.heap.size w w' := by
  refine (callsIn_wide (n := 5)).1 ?_
  have hseq : SeqGives Fence.wide 2 Tryd.prog 101 #[.pointer (some ⟨cell, 0, none⟩)] encStr (fun ss => ss.Perm (strKeys D0)) (Maps.size D0) w :=
    AnyZ.keys_gives (ρ := Tryd.keysA_ren) { Tryd.keysA with } Fence.wide _ trivial rfl (by omega) cell b nn D0 _ hcell hm hown
  have hml : (1000000 : Nat) ≤ maxLen := by unfold maxLen; omega
  exact AnyZ.sorted_in Tryd.sortedA Fence.wide 5 trivial trivial trivial trivial rfl (by omega) (Tryd.sortsA _) (enters_of Tryd.func86 (by kernel_rfl) rfl) 101 #[.pointer (some ⟨cell, 0, none⟩)] trivial (enters_of Tryd.func101 (by kernel_rfl) rfl) _ _ (by omega) (by omega) _ hseq

end Go.Proofs

namespace Go.Ax
open Go.Proofs Go.RowKit Go.Maps
set_option maxRecDepth 100000

/-- The keys of a map, sorted. -/
def RSorted : RSpec := fun args B r B' => ∃ (hid : List (Value × Value)) (ns : List ByteArray), hid.map (·.1) = strsV ns ∧ ns.length ≤ 1000000 ∧ (∀ n ∈ ns, n.size ≤ 1000000000) ∧
  args = [.fn 101 [.ptr 1 0 0]] ∧ B = [.obj [] (mapP [] hid), .cells false 0 [.mp 0]] ∧ r = vl ((sortN ns).map nameE.f) ∧ B' = B

theorem encStr_name (l : List UInt8) : encStr l = .string ⟨l.toArray⟩ := rfl

theorem SSorted : SoundR DP iSorted RSorted := by
  rintro args B r B' ⟨hid, ns, hk, hn, hs, rfl, rfl, rfl, rfl⟩ F ρ w us hI hA
  obtain ⟨k, o, us0, hr0, ⟨q1, es, clock, q2, q3, q4, q5⟩, hl0, _⟩ := hI.obox 0 _ _ rfl
  have hus0 : us0 = [] := by cases us0 with | nil => rfl | cons => simp at q4
  subst hus0
  obtain ⟨D0, hown, hp, hsz⟩ := map_owns (P := DP) (k := 9) (by kernel_rfl) q2 q3 (by simpa using q5) hk hn hs
  rcases hI.box 1 _ _ _ rfl with ⟨_, h, _⟩ | ⟨k1, o1, us1, e, fr, h1, h2, h3, h4, h5⟩
  · cases h
  obtain rfl := hI.off0 1 _ _ _ _ rfl h1
  obtain ⟨u, g1, g2⟩ := h5 0 _ rfl
  obtain ⟨u0, rfl⟩ : ∃ u0, us = [u0] := by
    have := hA.1
    match us, this with
    | [u0], _ => exact ⟨u0, rfl⟩
  have hf := hA.2 0 _ u0 rfl rfl
  cases hf with
  | fn _ _ vs hlen hcap =>
  obtain ⟨c0, rfl⟩ : ∃ c0, vs = [c0] := by
    match vs, hlen with
    | [c0], _ => exact ⟨c0, rfl⟩
  have hc := hcap 0 _ c0 rfl rfl
  cases hc with
  | ptr _ _ _ a hpo =>
  obtain ⟨k', o', e1, e2⟩ := (hpo.2 _ _ _ rfl).2 rfl
  rw [h1] at e1
  cases e1
  subst e2
  cases g2 with
  | mp _ r hmp =>
  obtain ⟨o2, e3⟩ := hmp.2 _ _ rfl
  rw [hr0] at e3
  cases e3
  have hcell : w.cell? ⟨k1, 0, none⟩ = some (.map (some k)) := by
    rw [cell_of h2]; exact g1
  refine .inl ⟨enter_run heSorted _ _, (Tryd.sorted_run k1 k _ D0 _ w (Array.getElem?_eq_some_iff.1 h2).1 hcell hown (by omega)).mono fun en w' hpost => ?_⟩
  obtain ⟨v, ss, rfl, hperm, hrow, hnil, hbelow⟩ := hpost
  have hsh : ∀ k e n, w.shape? k = some (e, n) → w'.shape? k = some (e, n) := fun k e n h => by
    have hk : k < w.heap.size := by
      rcases Nat.lt_or_ge k w.heap.size with h' | h'
      · exact h'
      · unfold World.shape? at h
        rw [Array.getElem?_eq_none h'] at h
        cases h
    unfold World.shape? at h ⊢
    rw [hbelow.block k hk]
    exact h
  obtain ⟨s1, s2⟩ := stands hbelow.size hbelow.os hbelow.tape hbelow.output hsh (fun k hk => hbelow.block k hk) hI
  have hsort : ss.mergeSort (fun x y => decide (x ≤ y)) = sortB (ns.map fun n => n.data.toList) := mergeSort_of_perm (hperm.trans hp)
  have hslen : ss.length = (sortN ns).length := by
    have := congrArg List.length hsort
    simpa [sortN] using this
  rw [hsort] at hrow
  have hus : (sortB (ns.map fun n => n.data.toList)).map encStr = (sortN ns).map Value.string := by
    unfold sortN
    rw [List.map_map]
    exact List.map_congr_left fun l _ => rfl
  rw [hus] at hrow
  have hcells : (((sortN ns).map nameE.f).flatMap PV.cells) = (sortN ns).map fun n => PV.v (.string n) := by
    induction sortN ns with
    | nil => rfl
    | cons n l ih => simp only [List.map_cons, List.flatMap_cons, ih]; rfl
  refine ⟨v, ρ, rfl, s2, s1, .p _ _ ?_⟩
  rcases hrow.2 with ⟨rfl, h0⟩ | ⟨g, cap, cur, rfl, hge, hg, hc1, hc2, hc3, hc4⟩
  · rw [hslen] at h0
    rw [List.eq_nil_of_length_eq_zero h0]
    exact .nil none 0 (.inr rfl)
  · rw [hslen]
    have : (sortN ns).length = ((sortN ns).map nameE.f).length := by simp
    rw [this]
    have hgl : g < w'.heap.size := (Array.getElem?_eq_some_iff.1 hg).1
    refine .ls _ ⟨g, 0, none⟩ cap ((sortN ns).map Value.string) rfl (fun ho => ?_) hgl (by simpa [← hslen] using hc1) (by rw [hcells]; simp) (fun j u hj => ?_) (fun j p u hj hu => ?_)
    · have := hI.ownlt g ho
      omega
    · rw [Addr.add_lit, cell_of hg]
      rw [← hc4, List.getElem?_take] at hj
      split at hj
      · simpa using hj
      · cases hj
    · rw [hcells, List.getElem?_map] at hj
      rw [List.getElem?_map] at hu
      cases hq : (sortN ns)[j]? with
      | none => rw [hq] at hj; cases hj
      | some n =>
        rw [hq] at hj hu
        cases hj
        cases hu
        exact .v _

end Go.Ax

namespace Go.Ax
open Go.Proofs Go.RowKit
set_option maxRecDepth 100000

def RKeys : RSpec := fun args B r B' => ∃ (hid : List (Value × Value)), args = [.mp 0] ∧ B = [.obj [] (mapP [] hid)] ∧ r = .fn iKeys1 [.ptr 1 0 0] ∧ B' = [.obj [] (mapP [] hid), .cells false 0 [.mp 0]]

theorem SKeys : SoundR DP iKeys RKeys := sound_genT mixedD Γ0_ok Δ0_ok hfKeys heKeys hbKeys (by
  rintro args B r B' ⟨hid, rfl, rfl, rfl, rfl⟩
  exact ⟨by rw [hnKeys]; rfl, _, TKeys_chk hid, wp_leaf rfl ⟨rfl, rfl⟩⟩)

def ΔL : REnv := fun f => if f = iKeys then liftR RKeys else if f = iSorted then liftR RSorted else fun _ _ _ _ => False
theorem ΔL_ok : ∀ f, SoundR DP f (ΔL f) := fun f => by
  unfold ΔL
  split
  · rename_i e; rw [e]; exact lift_sound SKeys
  split
  · rename_i e; rw [e]; exact lift_sound SSorted
  · exact .none f

theorem ΔL_keys : ΔL iKeys = liftR RKeys := if_pos rfl
theorem ΔL_sorted : ΔL iSorted = liftR RSorted := by unfold ΔL; rw [if_neg (by decide), if_pos rfl]

theorem dKeys (b0 : Box) (hid : List (Value × Value)) : ΔL iKeys [.mp 1] [b0, .obj [] (mapP [] hid)] (.fn iKeys1 [.ptr 2 0 0]) [b0, .obj [] (mapP [] hid), .cells false 0 [.mp 1]] := by
  rw [ΔL_keys]
  exact ⟨_, _, _, _, ⟨hid, rfl, rfl, rfl, rfl⟩, ⟨[1], [0], [.obj [] (mapP [] hid)], [.obj [] (mapP [] hid)], [.cells false 0 [.mp 1]], rfl, rfl, rfl, rfl, ⟨.objs rfl rfl, trivial⟩, ⟨.objs rfl rfl, .cells rfl rfl rfl, trivial⟩, rfl, rfl, rfl⟩⟩

theorem dSorted (b0 : Box) {hid : List (Value × Value)} {ns : List ByteArray} (h1 : hid.map (·.1) = strsV ns) (h2 : ns.length ≤ 1000000) (h3 : ∀ n ∈ ns, n.size ≤ 1000000000) :
    ΔL iSorted [.fn iKeys1 [.ptr 2 0 0]] [b0, .obj [] (mapP [] hid), .cells false 0 [.mp 1]] (vl ((sortN ns).map nameE.f)) [b0, .obj [] (mapP [] hid), .cells false 0 [.mp 1]] := by
  rw [ΔL_sorted]
  exact ⟨_, _, _, _, ⟨hid, ns, h1, h2, h3, rfl, rfl, rfl, rfl⟩, ⟨[1, 2], [0, 0], [.obj [] (mapP [] hid), .cells false 0 [.mp 1]], [.obj [] (mapP [] hid), .cells false 0 [.mp 1]], [], rfl, rfl, rfl, rfl, ⟨.objs rfl rfl, .cells rfl rfl rfl, trivial⟩, ⟨.objs rfl rfl, .cells rfl rfl rfl, trivial⟩, rfl, rfl, rfl⟩⟩

end Go.Ax

namespace Go.Ax
open Go.Proofs Go.RowKit
set_option maxRecDepth 100000

noncomputable def TList_d (ro : Int) (us : Int) (fu : Int) (hid : List (Value × Value)) : Tree :=
.leaf ⟨[0], [(0, 0, none), (1, 0, none)]⟩ [] .ret (some ([(0, nilS)], [.cells false 0 ([vi ro, vi us, .mp 1, vb true, vi fu]), .obj [] (mapP [] hid)]))

theorem TList_d_chk (ro : Int) (us : Int) (fu : Int) (hid : List (Value × Value)) : fnC DP ΓF ΔL Tryd.f49 [.ptr 0 0 0] [.cells false 0 ([vi ro, vi us, .mp 1, vb true, vi fu]), .obj [] (mapP [] hid)] (TList_d ro us fu hid) = TList_d ro us fu hid := by kernel_rfl

noncomputable def TList_a (ro : Int) (us : Int) (fu : Int) (hid : List (Value × Value)) (ns : List ByteArray) : Tree :=
.callr (some 15) (ΔL 85 [.mp 1] [.cells false 0 ([vi ro, vi us, .mp 1, vb false, vi fu]), .obj [] (mapP [] hid)] (.fn 101 [.ptr 2 0 0]) [.cells false 0 ([vi ro, vi us, .mp 1, vb false, vi fu]), .obj [] (mapP [] hid), .cells false 0 ([.mp 1])]) (.fn 101 [.ptr 2 0 0]) [.cells false 0 ([vi ro, vi us, .mp 1, vb false, vi fu]), .obj [] (mapP [] hid), .cells false 0 ([.mp 1])] (.callr (some 16) (ΔL 84 [.fn 101 [.ptr 2 0 0]] [.cells false 0 ([vi ro, vi us, .mp 1, vb false, vi fu]), .obj [] (mapP [] hid), .cells false 0 ([.mp 1])] (vl ((sortN ns).map nameE.f)) [.cells false 0 ([vi ro, vi us, .mp 1, vb false, vi fu]), .obj [] (mapP [] hid), .cells false 0 ([.mp 1])]) (vl ((sortN ns).map nameE.f)) [.cells false 0 ([vi ro, vi us, .mp 1, vb false, vi fu]), .obj [] (mapP [] hid), .cells false 0 ([.mp 1])] (.leaf ⟨[0], [(0, 0, none), (1, 0, none)]⟩ [] .ret (some ([(0, vl ((sortN ns).map nameE.f))], [.cells false 0 ([vi ro, vi us, .mp 1, vb false, vi fu]), .obj [] (mapP [] hid)]))))

theorem TList_a_chk (ro : Int) (us : Int) (fu : Int) (hid : List (Value × Value)) (ns : List ByteArray) : fnC DP ΓF ΔL Tryd.f49 [.ptr 0 0 0] [.cells false 0 ([vi ro, vi us, .mp 1, vb false, vi fu]), .obj [] (mapP [] hid)] (TList_a ro us fu hid ns) = TList_a ro us fu hid ns := by kernel_rfl

end Go.Ax

namespace Go.Ax
open Go.Proofs Go.RowKit
set_option maxRecDepth 100000

/-- An answer that is nil is as good as an empty list. -/
theorem SoundR.nills {P : Program} {f : Nat} {R : RSpec} (h : SoundR P f R) : SoundR P f (fun args B r B' => R args B nilS B' ∧ r = .p (.ls [])) := by
  rintro args B r B' ⟨h1, rfl⟩ F ρ w us hI hA
  refine (h args B _ B' h1 F ρ w us hI hA).mono fun en w' hp => ?_
  obtain ⟨x, ρ2, rfl, hI2, hE2, hv⟩ := hp
  refine ⟨x, ρ2, rfl, hI2, hE2, ?_⟩
  obtain rfl := hv.val
  exact .p _ _ (.nil Option.none 0 (.inr rfl))

/-- No file is laid open. -/
theorem obAg {R : RSpec} {D D1 : Dsk} {al : List AV} {y : AV} (hal : al.all isP = true) (hy : y.pl2 = true) (hl : y.low 0 = true) (hf : D.files.Perm D1.files)
    (h : ∀ hid, hid.map (·.1) = strsV (D.files.map (·.name)) → R (.ptr 0 0 0 :: al) (flatB D [] hid) y (flatB D1 [] hid)) : diskR R (.op 0 :: al) [.obj [] (diskP D)] y [.obj [] (diskP D1)] := by
  have hr : ∀ f d, y.rv f d = y := fun f d => rv_low (n := 0) (fun j hj => by omega) (fun j hj => by omega) hl
  refine ⟨D, D1, [], D.files, [], [], [], al, y, .refl _, al_ok hal, by rw [al_id hal], rfl, fun hid hh => ⟨flatB D1 [] hid, ?_, shut0 rfl rfl⟩, hf, hy, hl, (hr _ _).symm, rfl⟩
  rw [al_id hal, hr]
  exact h hid (by rw [hh]; simp [keysOf])

def OList : RSpec := fun args B r B' => ∃ (D : Dsk), D.Ok ∧ D.files.length ≤ 1000000 ∧ args = [.op 0] ∧ B = [.obj [] (diskP D)] ∧ r = vl ((listD D).map nameE.f) ∧ B' = B

def RL : RSpec := fun args B r B' => GenT DP ΓF ΔL nList args B (r, B')
theorem SL0 : SoundR DP iList RL := sound_genT mixedD ΓF_ok ΔL_ok hfList heList hbList (fun _ _ _ _ h => h)

theorem names_small {D : Dsk} (ok : D.Ok) : ∀ n ∈ D.files.map (·.name), n.size ≤ 1000000000 := fun n hn => by
  obtain ⟨x, hx, rfl⟩ := List.mem_map.1 hn
  have := ok.nam x hx
  omega

theorem names_srt {D : Dsk} (ok : D.Ok) : sortN (D.files.map (·.name)) = D.files.map (·.name) := sortN_eq (by
  rw [List.pairwise_map]
  exact ok.srt)

theorem SList : SoundR DP iList OList := ((disk_lift SL0).or (disk_lift SL0).nills).mono (by
  rintro args B r B' ⟨D, ok, hlen, rfl, rfl, rfl, rfl⟩
  have h3 := names_small ok
  have h4 := names_srt ok
  obtain ⟨ro, us, fs, dn, fu⟩ := D
  cases dn with
  | true =>
    refine .inr ⟨obAg (al := []) rfl rfl rfl (.refl _) (fun hid hh => ⟨by rw [hnList]; rfl, _, TList_d_chk ro us fu hid, ?_⟩), rfl⟩
    unfold TList_d
    exact wp_leaf rfl ⟨rfl, rfl⟩
  | false =>
    refine .inl (obAg (al := []) rfl rfl rfl (.refl _) (fun hid hh => ⟨by rw [hnList]; rfl, _, TList_a_chk ro us fu hid (fs.map (·.name)), ?_⟩))
    unfold TList_a
    refine wp_callr (dKeys _ hid) (wp_callr (dSorted _ hh (by simpa using hlen) h3) (wp_leaf rfl ⟨?_, rfl⟩))
    show vl _ = vl _
    rw [h4]; rfl)


def ΔC : REnv := fun f => if f = iList then liftR OList else fun _ _ _ _ => False
theorem ΔC_ok : ∀ f, SoundR DP f (ΔC f) := fun f => by
  unfold ΔC
  split
  · rename_i e; rw [e]; exact lift_sound SList
  · exact .none f
theorem ΔC_list : ΔC iList = liftR OList := if_pos rfl

end Go.Ax

namespace Go.Ax
open Go.Proofs Go.RowKit
set_option maxRecDepth 100000

noncomputable def Γ8 : Env := envP [(iNameW, gNameW), (iHeadL, gHeadL), (iAll, gAll)]
theorem Γ8_ok : ∀ f, SoundF DP f (Γ8 f) := envP_cons SNameW (envP_cons SHeadL (envP_cons SAll envP_nil))
noncomputable def Δ8 : REnv := envR ((iList, liftR OList) :: L7)
theorem Δ8_ok : ∀ f, SoundR DP f (Δ8 f) := envR_cons (lift_sound SList) L7_ok
theorem oList {B : List Box} {b : Nat} {D : Dsk} (ok : D.Ok) (hl : D.files.length ≤ 1000000) (hb : B[b]? = some (.obj [] (diskP D))) : liftR OList [.op b] B (vl ((listD D).map nameE.f)) B := by
  have := lift_obj (R := OList) (al := []) ⟨D, ok, hl, rfl, rfl, rfl, rfl⟩ hb rfl rfl
  rwa [set_same hb] at this
end Go.Ax
