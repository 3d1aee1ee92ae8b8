/- Trees, printed by gen/k2.py: the laws of the disk. -/
import Derived.Test.YtnhhaidlpbkmjaaDn2
set_option linter.unusedVariables false
set_option linter.unusedSimpArgs false
set_option linter.unusedSectionVars false
namespace Go.Ax
open Go.Proofs Go.RowKit
set_option maxRecDepth 100000

abbrev iNames : Nat := 8
noncomputable abbrev nNames : Func := Try.f8
theorem hfNames : DP.funcs[iNames]? = some nNames := by kernel_rfl
theorem heNames : enters DP iNames = true := by kernel_rfl
theorem hbNames : nNames.body.isSome = true := by kernel_rfl
theorem hnNames : nNames.ntmps = 121 := by kernel_rfl

noncomputable def TNames (nm : ByteArray) : Tree :=
.call 10 (gHead [] = some (vb true)) (vb true) (.sp 14 (decide ((nm.size : Int) > (200 : Int))) (
.leaf ⟨[0], []⟩ [] .ret (some ([(0, vb true)], []))) (
.callr (some 15) (ΔM 10 [vi 10] [] (.op 0) [.obj [] (diskP (newD 10))]) (.op 0) [.obj [] (diskP (newD 10))] (.call 17 (gNamed [vs nm] = some (vb (isName nm))) (vb (isName nm)) (.sp 17 (isName nm) (
.callr (some 19) (ΔM 16 [.p (.v (.pointer none)), vi 1] [.obj [] (diskP (newD 10))] (.tup []) [.obj [] (diskP (newD 10))]) (.tup []) [.obj [] (diskP (newD 10))] (.callr (some 21) (ΔM 14 [.p (.v (.pointer none)), nilS] [.obj [] (diskP (newD 10))] (.tup []) [.obj [] (diskP (newD 10))]) (.tup []) [.obj [] (diskP (newD 10))] (.callr (some 25) (ΔM 15 [.p (.v (.pointer none)), vs nm, vi 0, vi 1] [.obj [] (diskP (newD 10))] (.tup [nilS, vi 1]) [.obj [] (diskP (newD 10))]) (.tup [nilS, vi 1]) [.obj [] (diskP (newD 10))] (.callr (some 31) (ΔM 22 [.p (.v (.pointer none)), vs nm] [.obj [] (diskP (newD 10))] (.tup [vi 0, vi 1]) [.obj [] (diskP (newD 10))]) (.tup [vi 0, vi 1]) [.obj [] (diskP (newD 10))] (.call 35 (gNamed [vs nm] = some (vb (isName nm))) (vb (isName nm)) (.call 37 (gNamed [vs nm] = some (vb (isName nm))) (vb (isName nm)) (.sp 38 ((isName nm) == (isName nm)) (
.callr (some 42) (ΔM 11 [.op 0, vs nm] [.obj [] (diskP (newD 10))] (vi ((createD (newD 10) nm).2)) [.obj [] (diskP ((createD (newD 10) nm).1))]) (vi ((createD (newD 10) nm).2)) [.obj [] (diskP ((createD (newD 10) nm).1))] (.sp 44 (((createD (newD 10) nm).2) == (0 : Int)) (
.callr (some 48) (ΔM 18 [.op 0] [.obj [] (diskP ((createD (newD 10) nm).1))] (vl ((listD ((createD (newD 10) nm).1)).map nameE.f)) [.obj [] (diskP ((createD (newD 10) nm).1))]) (vl ((listD ((createD (newD 10) nm).1)).map nameE.f)) [.obj [] (diskP ((createD (newD 10) nm).1))] (.int 49 (((listD ((createD (newD 10) nm).1)).map nameE.f).length : Int) ((listD ((createD (newD 10) nm).1)).length : Int) (.call 53 (gNamed [vs nm] = some (vb (isName nm))) (vb (isName nm)) (.sp 53 (isName nm) (.sp 55 (((listD ((createD (newD 10) nm).1)).length : Int) == (1 : Int)) (
.callr (some 59) (ΔM 11 [.p (.v (.pointer none)), vs (⟨#[97]⟩)] [.obj [] (diskP ((createD (newD 10) nm).1)), .obj [vi 1] (mapP [.bool true] [])] (vi 1) [.obj [] (diskP ((createD (newD 10) nm).1)), .obj [vi 1] (mapP [.bool true] [])]) (vi 1) [.obj [] (diskP ((createD (newD 10) nm).1)), .obj [vi 1] (mapP [.bool true] [])] (.callr (some 64) (ΔM 12 [.p (.v (.pointer none)), vs (⟨#[97]⟩), nilS] [.obj [] (diskP ((createD (newD 10) nm).1)), .obj [vi 1] (mapP [.bool true] [])] (vi 1) [.obj [] (diskP ((createD (newD 10) nm).1)), .obj [vi 1] (mapP [.bool true] [])]) (vi 1) [.obj [] (diskP ((createD (newD 10) nm).1)), .obj [vi 1] (mapP [.bool true] [])] (.callr (some 69) (ΔM 13 [.p (.v (.pointer none)), vs (⟨#[97]⟩)] [.obj [] (diskP ((createD (newD 10) nm).1)), .obj [vi 1] (mapP [.bool true] [])] (vi 1) [.obj [] (diskP ((createD (newD 10) nm).1)), .obj [vi 1] (mapP [.bool true] [])]) (vi 1) [.obj [] (diskP ((createD (newD 10) nm).1)), .obj [vi 1] (mapP [.bool true] [])] (.callr (some 74) (ΔM 20 [.p (.v (.pointer none)), vs (⟨#[97]⟩), vs (⟨#[98]⟩)] [.obj [] (diskP ((createD (newD 10) nm).1)), .obj [vi 1] (mapP [.bool true] [])] (vi 1) [.obj [] (diskP ((createD (newD 10) nm).1)), .obj [vi 1] (mapP [.bool true] [])]) (vi 1) [.obj [] (diskP ((createD (newD 10) nm).1)), .obj [vi 1] (mapP [.bool true] [])] (.callr (some 79) (ΔM 21 [.p (.v (.pointer none)), vs (⟨#[97]⟩)] [.obj [] (diskP ((createD (newD 10) nm).1)), .obj [vi 1] (mapP [.bool true] [])] (vi 1) [.obj [] (diskP ((createD (newD 10) nm).1)), .obj [vi 1] (mapP [.bool true] [])]) (vi 1) [.obj [] (diskP ((createD (newD 10) nm).1)), .obj [vi 1] (mapP [.bool true] [])] (.callr (some 92) (ΔM 24 [.p (.v (.pointer none)), vs (⟨#[97]⟩), vi 0, vn .u8 1] [.obj [] (diskP ((createD (newD 10) nm).1)), .obj [vi 1] (mapP [.bool true] [])] (vi 1) [.obj [] (diskP ((createD (newD 10) nm).1)), .obj [vi 1] (mapP [.bool true] [])]) (vi 1) [.obj [] (diskP ((createD (newD 10) nm).1)), .obj [vi 1] (mapP [.bool true] [])] (.callr (some 97) (ΔM 18 [.p (.v (.pointer none))] [.obj [] (diskP ((createD (newD 10) nm).1)), .obj [vi 1] (mapP [.bool true] [])] (nilS) [.obj [] (diskP ((createD (newD 10) nm).1)), .obj [vi 1] (mapP [.bool true] [])]) (nilS) [.obj [] (diskP ((createD (newD 10) nm).1)), .obj [vi 1] (mapP [.bool true] [])] (.callr (some 103) (ΔM 19 [.p (.v (.pointer none))] [.obj [] (diskP ((createD (newD 10) nm).1)), .obj [vi 1] (mapP [.bool true] [])] (vi 0) [.obj [] (diskP ((createD (newD 10) nm).1)), .obj [vi 1] (mapP [.bool true] [])]) (vi 0) [.obj [] (diskP ((createD (newD 10) nm).1)), .obj [vi 1] (mapP [.bool true] [])] (.callr (some 108) (ΔM 32 [.p (.v (.pointer none))] [.obj [] (diskP ((createD (newD 10) nm).1)), .obj [vi 1] (mapP [.bool true] [])] (vi 0) [.obj [] (diskP ((createD (newD 10) nm).1)), .obj [vi 1] (mapP [.bool true] [])]) (vi 0) [.obj [] (diskP ((createD (newD 10) nm).1)), .obj [vi 1] (mapP [.bool true] [])] (.callr (some 113) (ΔM 17 [.p (.v (.pointer none))] [.obj [] (diskP ((createD (newD 10) nm).1)), .obj [vi 1] (mapP [.bool true] [])] (vb false) [.obj [] (diskP ((createD (newD 10) nm).1)), .obj [vi 1] (mapP [.bool true] [])]) (vb false) [.obj [] (diskP ((createD (newD 10) nm).1)), .obj [vi 1] (mapP [.bool true] [])] (.callr (some 118) (ΔM 27 [.p (.v (.pointer none))] [.obj [] (diskP ((createD (newD 10) nm).1)), .obj [vi 1] (mapP [.bool true] [])] (.p (.v (.pointer none))) [.obj [] (diskP ((createD (newD 10) nm).1)), .obj [vi 1] (mapP [.bool true] [])]) (.p (.v (.pointer none))) [.obj [] (diskP ((createD (newD 10) nm).1)), .obj [vi 1] (mapP [.bool true] [])] (.leaf ⟨[0], []⟩ [] .ret (some ([(0, vb true)], [])))))))))))))) (
.leaf ⟨[0], []⟩ [] .ret (some ([(0, vb false)], [])))) .stuck)))) (
.leaf ⟨[0], []⟩ [] .ret (some ([(0, vb false)], []))))) (
.leaf ⟨[0], []⟩ [] .ret (some ([(0, vb false)], [])))))))))) (
.callr (some 19) (ΔM 16 [.p (.v (.pointer none)), vi 1] [.obj [] (diskP (newD 10))] (.tup []) [.obj [] (diskP (newD 10))]) (.tup []) [.obj [] (diskP (newD 10))] (.callr (some 21) (ΔM 14 [.p (.v (.pointer none)), nilS] [.obj [] (diskP (newD 10))] (.tup []) [.obj [] (diskP (newD 10))]) (.tup []) [.obj [] (diskP (newD 10))] (.callr (some 25) (ΔM 15 [.p (.v (.pointer none)), vs nm, vi 0, vi 1] [.obj [] (diskP (newD 10))] (.tup [nilS, vi 1]) [.obj [] (diskP (newD 10))]) (.tup [nilS, vi 1]) [.obj [] (diskP (newD 10))] (.callr (some 31) (ΔM 22 [.p (.v (.pointer none)), vs nm] [.obj [] (diskP (newD 10))] (.tup [vi 0, vi 1]) [.obj [] (diskP (newD 10))]) (.tup [vi 0, vi 1]) [.obj [] (diskP (newD 10))] (.call 35 (gNamed [vs nm] = some (vb (isName nm))) (vb (isName nm)) (.call 37 (gNamed [vs nm] = some (vb (isName nm))) (vb (isName nm)) (.sp 38 ((isName nm) == (isName nm)) (
.callr (some 42) (ΔM 11 [.op 0, vs nm] [.obj [] (diskP (newD 10))] (vi ((createD (newD 10) nm).2)) [.obj [] (diskP ((createD (newD 10) nm).1))]) (vi ((createD (newD 10) nm).2)) [.obj [] (diskP ((createD (newD 10) nm).1))] (.sp 44 (((createD (newD 10) nm).2) == (1 : Int)) (
.callr (some 48) (ΔM 18 [.op 0] [.obj [] (diskP ((createD (newD 10) nm).1))] (vl ((listD ((createD (newD 10) nm).1)).map nameE.f)) [.obj [] (diskP ((createD (newD 10) nm).1))]) (vl ((listD ((createD (newD 10) nm).1)).map nameE.f)) [.obj [] (diskP ((createD (newD 10) nm).1))] (.int 49 (((listD ((createD (newD 10) nm).1)).map nameE.f).length : Int) ((listD ((createD (newD 10) nm).1)).length : Int) (.call 53 (gNamed [vs nm] = some (vb (isName nm))) (vb (isName nm)) (.sp 53 (isName nm) .stuck (.sp 55 (((listD ((createD (newD 10) nm).1)).length : Int) == (0 : Int)) (
.callr (some 59) (ΔM 11 [.p (.v (.pointer none)), vs (⟨#[97]⟩)] [.obj [] (diskP ((createD (newD 10) nm).1)), .obj [vi 1] (mapP [.bool true] [])] (vi 1) [.obj [] (diskP ((createD (newD 10) nm).1)), .obj [vi 1] (mapP [.bool true] [])]) (vi 1) [.obj [] (diskP ((createD (newD 10) nm).1)), .obj [vi 1] (mapP [.bool true] [])] (.callr (some 64) (ΔM 12 [.p (.v (.pointer none)), vs (⟨#[97]⟩), nilS] [.obj [] (diskP ((createD (newD 10) nm).1)), .obj [vi 1] (mapP [.bool true] [])] (vi 1) [.obj [] (diskP ((createD (newD 10) nm).1)), .obj [vi 1] (mapP [.bool true] [])]) (vi 1) [.obj [] (diskP ((createD (newD 10) nm).1)), .obj [vi 1] (mapP [.bool true] [])] (.callr (some 69) (ΔM 13 [.p (.v (.pointer none)), vs (⟨#[97]⟩)] [.obj [] (diskP ((createD (newD 10) nm).1)), .obj [vi 1] (mapP [.bool true] [])] (vi 1) [.obj [] (diskP ((createD (newD 10) nm).1)), .obj [vi 1] (mapP [.bool true] [])]) (vi 1) [.obj [] (diskP ((createD (newD 10) nm).1)), .obj [vi 1] (mapP [.bool true] [])] (.callr (some 74) (ΔM 20 [.p (.v (.pointer none)), vs (⟨#[97]⟩), vs (⟨#[98]⟩)] [.obj [] (diskP ((createD (newD 10) nm).1)), .obj [vi 1] (mapP [.bool true] [])] (vi 1) [.obj [] (diskP ((createD (newD 10) nm).1)), .obj [vi 1] (mapP [.bool true] [])]) (vi 1) [.obj [] (diskP ((createD (newD 10) nm).1)), .obj [vi 1] (mapP [.bool true] [])] (.callr (some 79) (ΔM 21 [.p (.v (.pointer none)), vs (⟨#[97]⟩)] [.obj [] (diskP ((createD (newD 10) nm).1)), .obj [vi 1] (mapP [.bool true] [])] (vi 1) [.obj [] (diskP ((createD (newD 10) nm).1)), .obj [vi 1] (mapP [.bool true] [])]) (vi 1) [.obj [] (diskP ((createD (newD 10) nm).1)), .obj [vi 1] (mapP [.bool true] [])] (.callr (some 92) (ΔM 24 [.p (.v (.pointer none)), vs (⟨#[97]⟩), vi 0, vn .u8 1] [.obj [] (diskP ((createD (newD 10) nm).1)), .obj [vi 1] (mapP [.bool true] [])] (vi 1) [.obj [] (diskP ((createD (newD 10) nm).1)), .obj [vi 1] (mapP [.bool true] [])]) (vi 1) [.obj [] (diskP ((createD (newD 10) nm).1)), .obj [vi 1] (mapP [.bool true] [])] (.callr (some 97) (ΔM 18 [.p (.v (.pointer none))] [.obj [] (diskP ((createD (newD 10) nm).1)), .obj [vi 1] (mapP [.bool true] [])] (nilS) [.obj [] (diskP ((createD (newD 10) nm).1)), .obj [vi 1] (mapP [.bool true] [])]) (nilS) [.obj [] (diskP ((createD (newD 10) nm).1)), .obj [vi 1] (mapP [.bool true] [])] (.callr (some 103) (ΔM 19 [.p (.v (.pointer none))] [.obj [] (diskP ((createD (newD 10) nm).1)), .obj [vi 1] (mapP [.bool true] [])] (vi 0) [.obj [] (diskP ((createD (newD 10) nm).1)), .obj [vi 1] (mapP [.bool true] [])]) (vi 0) [.obj [] (diskP ((createD (newD 10) nm).1)), .obj [vi 1] (mapP [.bool true] [])] (.callr (some 108) (ΔM 32 [.p (.v (.pointer none))] [.obj [] (diskP ((createD (newD 10) nm).1)), .obj [vi 1] (mapP [.bool true] [])] (vi 0) [.obj [] (diskP ((createD (newD 10) nm).1)), .obj [vi 1] (mapP [.bool true] [])]) (vi 0) [.obj [] (diskP ((createD (newD 10) nm).1)), .obj [vi 1] (mapP [.bool true] [])] (.callr (some 113) (ΔM 17 [.p (.v (.pointer none))] [.obj [] (diskP ((createD (newD 10) nm).1)), .obj [vi 1] (mapP [.bool true] [])] (vb false) [.obj [] (diskP ((createD (newD 10) nm).1)), .obj [vi 1] (mapP [.bool true] [])]) (vb false) [.obj [] (diskP ((createD (newD 10) nm).1)), .obj [vi 1] (mapP [.bool true] [])] (.callr (some 118) (ΔM 27 [.p (.v (.pointer none))] [.obj [] (diskP ((createD (newD 10) nm).1)), .obj [vi 1] (mapP [.bool true] [])] (.p (.v (.pointer none))) [.obj [] (diskP ((createD (newD 10) nm).1)), .obj [vi 1] (mapP [.bool true] [])]) (.p (.v (.pointer none))) [.obj [] (diskP ((createD (newD 10) nm).1)), .obj [vi 1] (mapP [.bool true] [])] (.leaf ⟨[0], []⟩ [] .ret (some ([(0, vb true)], [])))))))))))))) (
.leaf ⟨[0], []⟩ [] .ret (some ([(0, vb false)], [])))))))) (
.leaf ⟨[0], []⟩ [] .ret (some ([(0, vb false)], []))))) (
.leaf ⟨[0], []⟩ [] .ret (some ([(0, vb false)], []))))))))))))))

theorem TNames_chk (nm : ByteArray) : fnC DP ΓM ΔM Try.f8 [vs nm] [] (TNames nm) = TNames nm := by kernel_rfl

end Go.Ax

namespace Go.Ax
open Go.Proofs Go.RowKit
set_option maxRecDepth 100000

theorem names_yes {nm : ByteArray} (h : isName nm = true) : createD (newD 10) nm = (⟨10, 0, [⟨nm, [], 0⟩], false, 0⟩, 0) := by
  unfold createD
  rw [if_neg (by simp [h]), if_neg (by simp [newD])]
  have hg : (newD 10).get nm = none := rfl
  simp only [hg]
  have e0 : stE 0 = 0 := by decide
  rw [if_neg (by show ¬ stE 0 ≠ 0; rw [e0]; simp)]
  rfl
theorem names_no {nm : ByteArray} (h : isName nm = false) : createD (newD 10) nm = (newD 10, 1) := by
  unfold createD
  rw [if_pos (by simp [h])]

def RNames : List AV → AV → Prop := fun args r => ∃ nm : ByteArray, args = [vs nm] ∧ r = vb true

theorem names_wp (nm : ByteArray) {K : AE → St → Prop} (hK : K .ret ([(0, vb true)], [])) : (TNames nm).wp K := by
  unfold TNames
  refine wp_call gHead_eq (wp_sp (fun _ => wp_leaf rfl hK) (fun hs => ?_))
  have hs := of_decide_eq_false hs
  have hN : nm.size ≤ 1000000000 := by omega
  have g := gNamed_eq nm hN
  have k0 := newD_ok 10
  have k1 := createD_ok k0 nm
  refine wp_callr (.inl (cNew 10)) (wp_call g (wp_sp (fun h => ?_) (fun h => ?_)))
  · have hc := names_yes h
    rw [hc] at k1
    refine wp_callr (nFuse_ 1) (wp_callr nCrash_ (wp_callr (nRead_ nm 0 1) (wp_callr (nSize_ nm) (wp_call g (wp_call g (wp_sp (fun _ => wp_callr (.inl (cCreate (b := 0) k0 hN rfl rfl)) ?_) (fun h' => absurd h' (by simp))))))))
    simp only [hc]
    refine wp_sp (fun _ => wp_callr (.inl (cList (b := 0) k1 (by simp) rfl rfl)) (wp_len (wp_call g (wp_sp (fun _ => wp_sp (fun _ => ?_) (fun h' => absurd h' (by simp [listD]))) (fun h' => absurd h (by simp [h'])))))) (fun h' => absurd h' (by simp))
    exact wp_callr (nCreate_ _) (wp_callr (nAppend_ _) (wp_callr (nSync_ _) (wp_callr (nRename_ _ _) (wp_callr (nRemove_ _) (wp_callr (nSpoil_ _ _ 1) (wp_callr nList_ (wp_callr nUsed_ (wp_callr nRoom_ (wp_callr nDown_ (wp_callr nClone_ (wp_leaf rfl hK)))))))))))
  · have hc := names_no h
    refine wp_callr (nFuse_ 1) (wp_callr nCrash_ (wp_callr (nRead_ nm 0 1) (wp_callr (nSize_ nm) (wp_call g (wp_call g (wp_sp (fun _ => wp_callr (.inl (cCreate (b := 0) k0 hN rfl rfl)) ?_) (fun h' => absurd h' (by simp))))))))
    simp only [hc]
    refine wp_sp (fun _ => wp_callr (.inl (cList (b := 0) k0 (by simp [newD]) rfl rfl)) (wp_len (wp_call g (wp_sp (fun h' => absurd h (by simp [h'])) (fun _ => wp_sp (fun _ => ?_) (fun h' => absurd h' (by simp [listD, newD]))))))) (fun h' => absurd h' (by simp))
    exact wp_callr (nCreate_ _) (wp_callr (nAppend_ _) (wp_callr (nSync_ _) (wp_callr (nRename_ _ _) (wp_callr (nRemove_ _) (wp_callr (nSpoil_ _ _ 1) (wp_callr nList_ (wp_callr nUsed_ (wp_callr nRoom_ (wp_callr nDown_ (wp_callr nClone_ (wp_leaf rfl hK)))))))))))

theorem SNames : SoundF DP iNames (.pure (relG RNames)) := sound_pureT mixedD ΓM_ok ΔM_ok hfNames heNames hbNames (by
  rintro args r ⟨nm, rfl, rfl⟩
  exact ⟨by rw [hnNames]; rfl, rfl, _, TNames_chk nm, names_wp nm (.p _)⟩)

end Go.Ax
