/- The law DiskNone is true. -/
import Derived.Test.YtnhhaidlpbkmjaaDr3
set_option linter.unusedVariables false
set_option linter.unusedSimpArgs false
set_option linter.unusedSectionVars false
namespace Go.Ax
open Go.Proofs Go.RowKit
set_option maxRecDepth 100000

abbrev nmX : ByteArray := ⟨#[120]⟩
abbrev nmY : ByteArray := ⟨#[121]⟩
theorem nm_yx : nmY ≠ nmX := by decide
theorem nm_xy : nmX ≠ nmY := by decide
theorem less_yx : Op.bytesLess nmY.toList nmX.toList = false := by
  rw [Bool.eq_false_iff]
  intro h
  rw [ltB_iff] at h
  revert h
  decide

abbrev twoD (a b : List UInt8) (us : Int) : Dsk := ⟨1000, us, [⟨nmX, a, 0⟩, ⟨nmY, b, 0⟩], false, 0⟩

section
variable (a b : List UInt8)
theorem stE0 : stE 0 = 0 := by decide
theorem get1 (n : ByteArray) (l : List UInt8) (m us : Int) : (⟨1000, us, [⟨n, l, m⟩], false, 0⟩ : Dsk).get n = some ⟨n, l, m⟩ := by simp [Dsk.get]
theorem get2x (us : Int) : (twoD a b us).get nmX = some ⟨nmX, a, 0⟩ := by simp [Dsk.get]
theorem get2y (us : Int) : (twoD a b us).get nmY = some ⟨nmY, b, 0⟩ := by simp [Dsk.get, nm_xy]

theorem none1 : createD (newD 1000) nmX = (⟨1000, 0, [⟨nmX, [], 0⟩], false, 0⟩, 0) := by kernel_rfl
theorem none2 (ha : a.length ≤ 200) : appendD ⟨1000, 0, [⟨nmX, [], 0⟩], false, 0⟩ nmX a = (⟨1000, a.length, [⟨nmX, a, 0⟩], false, 0⟩, 0) := by
  unfold appendD
  rw [if_neg (by simp), get1]
  simp only
  rw [if_neg (by omega), if_neg (by simp [stE0])]
  simp [repF, Dsk.stepped, stD, stF]
theorem none3 : createD ⟨1000, a.length, [⟨nmX, a, 0⟩], false, 0⟩ nmY = (twoD a [] a.length, 0) := by
  have hg : (⟨1000, a.length, [⟨nmX, a, 0⟩], false, 0⟩ : Dsk).get nmY = none := by simp [Dsk.get, nm_xy]
  unfold createD
  rw [if_neg (by decide), if_neg (by simp)]
  simp only [hg]
  rw [if_neg (by simp [stE0])]
  simp only [insF, less_yx]
  simp [Dsk.stepped, stD, stF]
theorem none4 (ha : a.length ≤ 200) (hb : b.length ≤ 200) : appendD (twoD a [] a.length) nmY b = (twoD a b (a.length + b.length), 0) := by
  unfold appendD
  rw [if_neg (by simp), get2y]
  simp only
  rw [if_neg (by omega), if_neg (by simp [stE0])]
  simp [repF, Dsk.stepped, stD, stF, nm_xy]
theorem none5 : renameD (twoD a b (a.length + b.length)) nmX nmY = (⟨1000, a.length, [⟨nmY, a, 0⟩], false, 0⟩, 0) := by
  unfold renameD
  rw [if_neg (by decide), if_neg (by simp), get2x]
  simp only
  rw [if_neg (by simp [stE0]), if_neg nm_xy, get2y]
  simp only [delF, List.filter_cons, List.filter_nil]
  simp [insF, Dsk.stepped, stD, stF, nm_yx]
theorem none6 : removeD (twoD a b (a.length + b.length)) nmY = (⟨1000, a.length, [⟨nmX, a, 0⟩], false, 0⟩, 0) := by
  unfold removeD
  rw [if_neg (by simp), get2y]
  simp only
  rw [if_neg (by simp [stE0])]
  simp only [delF, List.filter_cons, List.filter_nil]
  simp [Dsk.stepped, stD, stF, nm_xy]
theorem none7 : renameD ⟨1000, a.length, [⟨nmX, a, 0⟩], false, 0⟩ nmX nmY = (⟨1000, a.length, [⟨nmY, a, 0⟩], false, 0⟩, 0) := by
  have hg : (⟨1000, a.length, [⟨nmX, a, 0⟩], false, 0⟩ : Dsk).get nmY = none := by simp [Dsk.get, nm_xy]
  unfold renameD
  rw [if_neg (by decide), if_neg (by simp), get1]
  simp only
  rw [if_neg (by simp [stE0]), if_neg nm_xy, hg]
  simp only [delF, List.filter_cons, List.filter_nil]
  simp [insF, Dsk.stepped, stD, stF]
theorem none8 (ha : a.length ≤ 200) : readD ⟨1000, a.length, [⟨nmY, a, 0⟩], false, 0⟩ nmY 0 500 = (a, 0) := by
  unfold readD
  rw [if_neg (by simp), get1]
  simp only
  rw [if_neg (by omega), show (min (500 : Int) ((a.length : Int) - 0)).toNat = a.length by omega]
  simp
theorem none9 : sizeD ⟨1000, a.length, [⟨nmY, a, 0⟩], false, 0⟩ nmX = (0, 4) := by
  have hg : (⟨1000, a.length, [⟨nmY, a, 0⟩], false, 0⟩ : Dsk).get nmX = none := by simp [Dsk.get, nm_yx]
  unfold sizeD
  rw [if_neg (by simp), hg]
end

def RNone : List AV → AV → Prop := fun args r => ∃ (a b : List UInt8) (q : Bool), args = [vl (a.map byteE.f), vl (b.map byteE.f), vb q] ∧ r = vb true

theorem none_wp (a b : List UInt8) (q : Bool) {K : AE → St → Prop} (hK : K .ret ([(0, vb true)], [])) :
    (TNone a b q (newD 1000) ⟨1000, 0, [⟨nmX, [], 0⟩], false, 0⟩ ⟨1000, a.length, [⟨nmX, a, 0⟩], false, 0⟩ (twoD a [] a.length) (twoD a b (a.length + b.length)) ⟨1000, a.length, [⟨nmY, a, 0⟩], false, 0⟩ ⟨1000, a.length, [⟨nmX, a, 0⟩], false, 0⟩).wp K := by
  unfold TNone
  refine wp_call gHead_eq (wp_len (wp_sp (fun _ => wp_leaf rfl hK) (fun ha => wp_len (wp_sp (fun _ => wp_leaf rfl hK) (fun hb => ?_)))))
  have ha := of_decide_eq_false ha
  have hb := of_decide_eq_false hb
  have ha' : a.length ≤ 200 := by omega
  have hb' : b.length ≤ 200 := by omega
  have k0 := newD_ok 1000
  have k1 := createD_ok k0 nmX
  rw [none1] at k1
  have k2 := appendD_ok k1 nmX a
  rw [none2 a ha'] at k2
  have k3 := createD_ok k2 nmY
  rw [none3] at k3
  have k4 := appendD_ok k3 nmY b
  rw [none4 a b ha' hb'] at k4
  have k5 := renameD_ok k4 nmX nmY
  rw [none5] at k5
  refine wp_callr (cNew 1000) (wp_callr (cCreate k0 (by decide) rfl none1) (wp_callr (cAppend k1 (by omega) rfl (none2 a ha')) (wp_callr (cCreate k2 (by decide) rfl (none3 a)) (wp_callr (cAppend k3 (by omega) rfl (none4 a b ha' hb')) (wp_callr (cUsed k4 rfl rfl) (wp_len (wp_len (wp_i64 (by omega) (wp_sp (fun h => absurd h (by simp)) (fun _ => wp_sp (fun _ => ?_) (fun _ => ?_)))))))))))
  · exact wp_callr (cRename k4 (by decide) rfl (none5 a b)) (wp_callr (cRead (ofs := 0) (n := 500) k5 rfl (none8 a ha')) (wp_callr (cSize k5 rfl (none9 a)) ⟨rfl, rfl, rfl, wp_sp (fun _ => wp_callr (cUsed k5 rfl rfl) (wp_len (wp_sp (fun _ => wp_callr (cList k5 (by simp) rfl rfl) (wp_len (wp_leaf rfl hK))) (fun h => absurd h (by simp))))) (fun h => absurd h (by simp))⟩))
  · exact wp_callr (cRemove k4 rfl (none6 a b)) (wp_callr (cRename k2 (by decide) rfl (none7 a)) (wp_callr (cRead (ofs := 0) (n := 500) k5 rfl (none8 a ha')) (wp_callr (cSize k5 rfl (none9 a)) ⟨rfl, rfl, rfl, wp_sp (fun _ => wp_callr (cUsed k5 rfl rfl) (wp_len (wp_sp (fun _ => wp_callr (cList k5 (by simp) rfl rfl) (wp_len (wp_leaf rfl hK))) (fun h => absurd h (by simp))))) (fun h => absurd h (by simp))⟩)))

theorem SNone : SoundF DP iNone (.pure (relG RNone)) := sound_pureT mixedD ΓH_ok ΔD_ok hfNone heNone hbNone (by
  rintro args r ⟨a, b, q, rfl, rfl⟩
  exact ⟨by rw [hnNone]; rfl, rfl, _, TNone_chk _ _ _ _ _ _ _ _ _ _, none_wp a b q (.p _)⟩)

end Go.Ax
