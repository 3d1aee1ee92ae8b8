/- The document's example holds. -/
import Derived.Test.YtnhhaidlpbkmjaaDr1
set_option linter.unusedVariables false
set_option linter.unusedSimpArgs false
set_option linter.unusedSectionVars false
namespace Go.Ax
open Go.Proofs Go.RowKit
set_option maxRecDepth 100000

abbrev nmA : ByteArray := ⟨#[97]⟩

def RHead : List AV → AV → Prop := fun args r => args = [] ∧ r = vb true
noncomputable def gHead := relG RHead

theorem head_wp {K : AE → St → Prop} (h : K .ret ([(0, vb true)], [])) :
    (THead (newD 100) ⟨100, 0, [⟨nmA, [], 0⟩], false, 0⟩ ⟨100, 2, [⟨nmA, [97, 98], 0⟩], false, 0⟩ ⟨100, 2, [⟨nmA, [97, 98], 2⟩], false, 0⟩ ⟨100, 4, [⟨nmA, [97, 98, 99, 100], 2⟩], false, 0⟩ ⟨100, 3, [⟨nmA, [97, 98, 99], 3⟩], false, 0⟩ [97, 98, 99]).wp K := by
  have h1 : createD (newD 100) nmA = (⟨100, 0, [⟨nmA, [], 0⟩], false, 0⟩, 0) := by kernel_rfl
  have h2 : appendD ⟨100, 0, [⟨nmA, [], 0⟩], false, 0⟩ nmA [97, 98] = (⟨100, 2, [⟨nmA, [97, 98], 0⟩], false, 0⟩, 0) := by kernel_rfl
  have h3 : syncD ⟨100, 2, [⟨nmA, [97, 98], 0⟩], false, 0⟩ nmA = (⟨100, 2, [⟨nmA, [97, 98], 2⟩], false, 0⟩, 0) := by kernel_rfl
  have h4 : appendD ⟨100, 2, [⟨nmA, [97, 98], 2⟩], false, 0⟩ nmA [99, 100] = (⟨100, 4, [⟨nmA, [97, 98, 99, 100], 2⟩], false, 0⟩, 0) := by kernel_rfl
  have h5 : crashD ⟨100, 4, [⟨nmA, [97, 98, 99, 100], 2⟩], false, 0⟩ [1] = ⟨100, 3, [⟨nmA, [97, 98, 99], 3⟩], false, 0⟩ := by kernel_rfl
  have h6 : readD ⟨100, 3, [⟨nmA, [97, 98, 99], 3⟩], false, 0⟩ nmA 0 9 = ([97, 98, 99], 0) := by kernel_rfl
  have k0 := newD_ok 100
  have k1 := createD_ok k0 nmA
  rw [h1] at k1
  have k2 := appendD_ok k1 nmA [97, 98]
  rw [h2] at k2
  have k3 := syncD_ok k2 nmA
  rw [h3] at k3
  have k4 := appendD_ok k3 nmA [99, 100]
  rw [h4] at k4
  have k5 := crashD_ok k4 [1]
  have c5 := cCrashS (B := [.obj [] (diskP ⟨100, 4, [⟨nmA, [97, 98, 99, 100], 2⟩], false, 0⟩), .dead, .dead, intE.bx 0 [1]]) (b := 0) (k := 3) (v := 0) (ks := [1]) k4 (by simp) rfl rfl
  rw [h5] at k5 c5
  unfold THead
  refine wp_callr (cNew 100) (wp_callr (cCreate k0 (by decide) rfl h1) (wp_callr (cAppendS (bs := [97, 98]) k1 (by simp) rfl rfl h2) (wp_callr (cSync k2 rfl h3) (wp_callr (cAppendS (bs := [99, 100]) k3 (by simp) rfl rfl h4) (wp_callr c5 (wp_callr (cRead (ofs := 0) (n := 9) k5 rfl h6) ⟨rfl, rfl, wp_sp (fun _ => wp_callr (cUsed k5 rfl rfl) (wp_leaf rfl h)) (fun h => absurd (beq_self_eq_true _) (by rw [h]; decide))⟩))))))

theorem SHead : SoundF DP iHead (.pure gHead) := sound_pureT mixedD Γ0_ok ΔD_ok hfHead heHead hbHead (by
  rintro args r ⟨rfl, rfl⟩
  exact ⟨rfl, rfl, _, THead_chk _ _ _ _ _ _ _, head_wp (.p _)⟩)

noncomputable def ΓH : Env := fun f => if f = iHead then .pure gHead else .none
theorem ΓH_ok : ∀ f, SoundF DP f (ΓH f) := fun f => by
  unfold ΓH
  split
  · rename_i e; rw [e]; exact SHead
  · exact sound_none f
theorem gHead_eq : gHead [] = some (vb true) := relG_eq (fun _ _ _ h1 h2 => h1.2.trans h2.2.symm) ⟨rfl, rfl⟩

end Go.Ax

namespace Go.Ax
open Go.Proofs Go.RowKit

def ilsE : Enc (List Int) := ⟨fun ks => .ls (ks.map intE.f), 1, fun _ => rfl, fun _ => rfl⟩

theorem cat_cut (a c : List UInt8) (n : Nat) : ((⟨a.toArray⟩ : ByteArray) ++ (⟨c.toArray⟩ : ByteArray)).extract 0 n = ⟨((a ++ c).take n).toArray⟩ := by
  apply ByteArray.ext
  apply Array.toList_inj.mp
  simp [ByteArray.data_extract, ByteArray.data_append]

end Go.Ax
