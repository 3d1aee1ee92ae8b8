/- The law DiskFuses is true. -/
import Derived.Test.YtnhhaidlpbkmjaaDr4
set_option linter.unusedVariables false
set_option linter.unusedSimpArgs false
set_option linter.unusedSectionVars false
namespace Go.Ax
open Go.Proofs Go.RowKit
set_option maxRecDepth 100000

/-- insF, reckoned by the kernel. -/
def insK (x : Fil) : List Fil → List Fil
  | [] => [x]
  | y :: r => if x.name.data.toList < y.name.data.toList then x :: y :: r else y :: insK x r
theorem insK_eq (x : Fil) : ∀ fs, insF x fs = insK x fs
  | [] => rfl
  | y :: r => by
    unfold insF insK
    rw [insK_eq x r]
    by_cases h : x.name.data.toList < y.name.data.toList
    · rw [if_pos h, if_pos ((ltB_iff _ _).2 h)]
    · rw [if_neg h, if_neg (fun h' => h ((ltB_iff _ _).1 h'))]
def createK (D : Dsk) (nm : ByteArray) : Dsk × Int :=
  if !isName nm then (D, 1) else if D.down then (D, 10) else
  match D.get nm with
  | some _ => (D, 5)
  | none => if stE D.fuse ≠ 0 then (D.stepped, stE D.fuse) else ({ D.stepped with files := insK ⟨nm, [], 0⟩ D.files }, 0)
theorem createK_eq (D : Dsk) (nm : ByteArray) : createD D nm = createK D nm := by
  unfold createD createK
  simp only [insK_eq]
  rfl

abbrev nmI (i : Nat) : ByteArray := ⟨#[UInt8.ofNat (97 + i / 2)]⟩
def opI (D : Dsk) (i : Nat) : Dsk × Int := if i % 2 = 0 then createK D (nmI i) else appendD D (nmI i) [1]
def runI (k : Nat) : Nat → Dsk × Int
  | 0 => (fuseD (newD 1000) (1 + (k : Int)), 0)
  | i + 1 => ((opI (runI k i).1 i).1, if (opI (runI k i).1 i).2 = 0 then (runI k i).2 + 1 else (runI k i).2)

/-- A step more, the numbers carried along. -/
def stepI (s : Dsk × Int) (i : Nat) : Dsk × Int := ((opI s.1 i).1, if (opI s.1 i).2 = 0 then s.2 + 1 else s.2)
def goodI : Nat → Nat → Dsk × Int → Bool
  | 0, _, _ => true
  | m + 1, i, s => ((opI s.1 i).2 == 0 || (opI s.1 i).2 == 10) && decide (s.1.files.length ≤ 20) && decide (0 ≤ s.2 ∧ s.2 ≤ 20) && goodI m (i + 1) (stepI s i)
theorem runI_step (k i : Nat) : runI k (i + 1) = stepI (runI k i) i := rfl
theorem goodI_at : ∀ (m i : Nat) (k : Nat), goodI m i (runI k i) = true → ∀ j, i ≤ j → j < i + m → ((opI (runI k j).1 j).2 = 0 ∨ (opI (runI k j).1 j).2 = 10) ∧ (runI k j).1.files.length ≤ 20 ∧ 0 ≤ (runI k j).2 ∧ (runI k j).2 ≤ 20
  | 0, i, k, _, j, h1, h2 => by omega
  | m + 1, i, k, h, j, h1, h2 => by
    unfold goodI at h
    simp only [Bool.and_eq_true, Bool.or_eq_true, beq_iff_eq, decide_eq_true_eq] at h
    obtain ⟨⟨⟨a1, a2⟩, a3⟩, a4⟩ := h
    rcases Nat.lt_or_ge i j with h' | h'
    · rw [← runI_step] at a4
      exact goodI_at m (i + 1) k a4 j h' (by omega)
    · have : j = i := by omega
      subst this
      exact ⟨a1, a2, a3⟩

abbrev tens : List Int := [1, 1, 1, 1, 1, 1, 1, 1, 1, 1]
def endI (k : Nat) : Bool := goodI 20 0 (runI k 0) && (runI k 20).2 == (k : Int) && (runI k 20).1.down && decide ((runI k 20).1.files.length ≤ 20) && (((crashD (runI k 20).1 tens).files.length : Int) == Int.tdiv (1 + (k : Int)) 2) && ((crashD (runI k 20).1 tens).used == Int.tdiv (1 + (k : Int) - 1) 2)

theorem endI_all : (List.range 16).all endI = true := by kernel_rfl

theorem nmI_eq : ∀ i < 20, (⟨([(UInt8.ofNat (Int.toNat (IntKind.u8.wrap (97 + (Int.tdiv (i : Nat) 2)))))]).toArray⟩ : ByteArray) = nmI i := by decide

theorem and15 (n : Int) : ∃ k : Nat, k < 16 ∧ IntKind.i64.wrap ((BitVec.ofInt IntKind.i64.bits n &&& BitVec.ofInt IntKind.i64.bits 15).toNat) = (k : Int) := by
  have hle : (BitVec.ofInt IntKind.i64.bits n &&& BitVec.ofInt IntKind.i64.bits 15).toNat ≤ 15 := by
    rw [BitVec.toNat_and]
    exact Nat.le_trans Nat.and_le_right (by decide)
  exact ⟨_, Nat.lt_succ_of_le hle, wrap_i64 (by omega)⟩

theorem opI_ok {D : Dsk} (ok : D.Ok) (i : Nat) : (opI D i).1.Ok := by
  unfold opI
  split
  · rw [← createK_eq]; exact createD_ok ok _
  · exact appendD_ok ok _ _
theorem runI_ok (k : Nat) (hk : k < 16) : ∀ i, (runI k i).1.Ok
  | 0 => fuseD_ok (newD_ok 1000) (by omega)
  | i + 1 => opI_ok (runI_ok k hk i) i

theorem end_of {k : Nat} (hk : k < 16) : endI k = true := List.all_eq_true.1 endI_all k (List.mem_range.2 hk)

theorem eu_all : ∀ i < 20, IntKind.u8.wrap (97 + (Int.tdiv (i : Nat) 2)) = 97 + (Int.tdiv (i : Nat) 2) ∧ (((UInt8.ofNat (Int.toNat (97 + (Int.tdiv (i : Nat) 2)))).toNat : Nat) : Int) = 97 + (Int.tdiv (i : Nat) 2) := by decide

theorem fuses_loop (n : Int) (k : Nat) (hk : k < 16) (hg : ∀ j, j < 20 → ((opI (runI k j).1 j).2 = 0 ∨ (opI (runI k j).1 j).2 = 10) ∧ (runI k j).1.files.length ≤ 20 ∧ 0 ≤ (runI k j).2 ∧ (runI k j).2 ≤ 20) : ∀ (m i : Nat), i + m = 20 →
    Rounds (TFuses_l1_e n) TFuses_l1_x (TFuses_l1_x' n) (fun s => (TFuses_l1_b n s).wp) ((runI k i).1, (runI k i).2, (i : Int)) (.inr ((runI k 20).2, (runI k 20).1))
  | 0, i, h => by
    have : i = 20 := by omega
    subst this
    refine .done' (by simp [TFuses_l1_x']) ?_
    unfold TFuses_l1_b
    exact wp_sp (fun h => absurd (of_decide_eq_true h) (by simp)) (fun _ => wp_leaf rfl ⟨rfl, rfl⟩)
  | m + 1, i, h => by
    have hi : i < 20 := by omega
    obtain ⟨g1, g2, g3, g4⟩ := hg i hi
    have ok := runI_ok k hk i
    refine .next (s' := ((runI k (i + 1)).1, (runI k (i + 1)).2, ((i + 1 : Nat) : Int))) ?_ (fuses_loop n k hk hg m (i + 1) (by omega))
    have hnm := nmI_eq i hi
    have e1 : Int.tmod (i : Int) 2 = ((i % 2 : Nat) : Int) := by rw [Int.tmod_eq_emod_of_nonneg (by omega)]; omega
    have e2 : Int.tdiv (i : Int) 2 = ((i / 2 : Nat) : Int) := by rw [Int.tdiv_eq_ediv_of_nonneg (by omega)]; omega
    have eu := eu_all i hi
    have hrow : ([vn .u8 (IntKind.u8.wrap (97 + (Int.tdiv (i : Nat) 2)))] : List AV) = rowC (([(UInt8.ofNat (Int.toNat (IntKind.u8.wrap (97 + (Int.tdiv (i : Nat) 2)))))] : List UInt8).map byteE.f) := by
      show _ = [AV.p (.v (.int .u8 (((UInt8.ofNat (Int.toNat (IntKind.u8.wrap (97 + (Int.tdiv (i : Nat) 2))))).toNat : Nat) : Int)))]
      rw [eu.1, eu.2]
    have hb : 0 ≤ Int.tdiv (i : Int) 2 ∧ Int.tdiv (i : Int) 2 ≤ 10 := by rw [e2]; omega
    unfold TFuses_l1_b
    refine wp_sp (fun _ => ?_) (fun h => absurd (of_decide_eq_false h) (by simp only; omega))
    simp only
    refine wp_sp (fun hc => ?_) (fun hc => wp_sp (fun hc1 => ?_) (fun hc1 => ?_))
    · have hc : i % 2 = 0 := by rw [e1] at hc; simp at hc; omega
      have hop : opI (runI k i).1 i = createD (runI k i).1 (nmI i) := by unfold opI; rw [if_pos hc, createK_eq]
      have hrun : runI k (i + 1) = ((createD (runI k i).1 (nmI i)).1, if (createD (runI k i).1 (nmI i)).2 = 0 then (runI k i).2 + 1 else (runI k i).2) := by rw [runI_step]; unfold stepI; rw [hop]
      rw [hop] at g1
      refine wp_i64 (by omega) (wp_i64 (by omega) ⟨rfl, hrow, ?_⟩)
      rw [hnm]
      refine wp_callr (cCreate (nm := nmI i) (b := 0) ok (by show 1 ≤ _; decide) rfl rfl) (wp_sp (fun h => ?_) (fun h => wp_sp (fun h1 => ?_) (fun _ => ?_)))
      · have h : (createD (runI k i).1 (nmI i)).2 = 0 := by simpa using h
        rw [if_pos h] at hrun
        exact wp_i64 (by omega) (wp_i64 (by omega) (wp_leaf rfl ⟨rfl, by rw [hrun]; rfl⟩))
      · exact absurd g1 (by simp at h h1; omega)
      · have h : ¬ (createD (runI k i).1 (nmI i)).2 = 0 := by simpa using h
        rw [if_neg h] at hrun
        exact wp_i64 (by omega) (wp_leaf rfl ⟨rfl, by rw [hrun]; rfl⟩)
    · have hc : ¬ i % 2 = 0 := by rw [e1] at hc1; simp at hc1; omega
      have hop : opI (runI k i).1 i = appendD (runI k i).1 (nmI i) [1] := by unfold opI; rw [if_neg hc]
      have hrun : runI k (i + 1) = ((appendD (runI k i).1 (nmI i) [1]).1, if (appendD (runI k i).1 (nmI i) [1]).2 = 0 then (runI k i).2 + 1 else (runI k i).2) := by rw [runI_step]; unfold stepI; rw [hop]
      rw [hop] at g1
      refine wp_i64 (by omega) (wp_i64 (by omega) ⟨rfl, hrow, ?_⟩)
      rw [hnm]
      refine wp_callr (cAppendS (nm := nmI i) (b := 0) (k := 2) (v := 0) (bs := [1]) ok (by simp) rfl rfl rfl) (wp_sp (fun h => ?_) (fun h => wp_sp (fun h1 => ?_) (fun _ => ?_)))
      · have h : (appendD (runI k i).1 (nmI i) [1]).2 = 0 := by simpa using h
        rw [if_pos h] at hrun
        exact wp_i64 (by omega) (wp_i64 (by omega) (wp_leaf rfl ⟨rfl, by rw [hrun]; rfl⟩))
      · exact absurd g1 (by simp at h h1; omega)
      · have h : ¬ (appendD (runI k i).1 (nmI i) [1]).2 = 0 := by simpa using h
        rw [if_neg h] at hrun
        exact wp_i64 (by omega) (wp_leaf rfl ⟨rfl, by rw [hrun]; rfl⟩)
    · rw [e1] at hc hc1
      simp at hc hc1
      omega

def RFuses : List AV → AV → Prop := fun args r => ∃ n : Int, args = [vi n] ∧ r = vb true

theorem fuses_wp (n : Int) {K : AE → St → Prop} (hK : K .ret ([(0, vb true)], [])) : (TFuses n).wp K := by
  obtain ⟨k, hk, hw⟩ := and15 n
  have he := end_of hk
  unfold endI at he
  simp only [Bool.and_eq_true, beq_iff_eq, decide_eq_true_eq] at he
  obtain ⟨⟨⟨⟨⟨h1, h2⟩, h3⟩, h4⟩, h5⟩, h6⟩ := he
  have hg := goodI_at 20 0 k h1
  have ok := runI_ok k hk 20
  have okc := crashD_ok ok tens
  have hl : listD (runI k 20).1 = [] := by unfold listD; rw [if_pos h3]
  have hlc : ((listD (crashD (runI k 20).1 tens)).length : Int) = Int.tdiv (1 + (k : Int)) 2 := by
    rw [← h5]
    unfold listD
    rw [if_neg (by simp [crashD])]
    simp
  have hcl : (crashD (runI k 20).1 tens).files.length ≤ 1000000 := by
    have : (crashD (runI k 20).1 tens).files.length = (runI k 20).1.files.length := by
      have := congrArg List.length (crashF_names (runI k 20).1.files tens)
      simpa [crashD] using this
    omega
  have hfl : (runI k 20).1.files.length ≤ 1000000 := by omega
  have t1 : Int.tdiv (1 + (k : Int)) 2 = (1 + (k : Int)) / 2 := Int.tdiv_eq_ediv_of_nonneg (by omega)
  have t2 : Int.tdiv (1 + (k : Int) - 1) 2 = (1 + (k : Int) - 1) / 2 := Int.tdiv_eq_ediv_of_nonneg (by omega)
  have hloop := fuses_loop n k hk (fun j hj => hg j (Nat.zero_le _) (by omega)) 20 0 rfl
  unfold TFuses
  rw [hw]
  refine wp_call gHead_eq (wp_i64 (by omega) (wp_callr (cNew 1000) (wp_callr (cFuse (b := 0) (newD_ok 1000) rfl) (wp_loop' ((runI k 20).2, (runI k 20).1) rfl hloop ?_))))
  refine wp_i64 (by omega) (wp_sp (fun h => absurd h (by rw [h2]; simp; omega)) (fun _ => wp_callr (cDown (b := 0) ok rfl rfl) (wp_sp (fun _ => wp_callr (cList (b := 0) ok hfl rfl rfl) (wp_len (wp_sp (fun h => absurd h (by rw [hl]; simp)) (fun _ => ?_)))) (fun h => absurd h (by rw [h3]; simp)))))
  refine wp_callr (cCrashS (b := 0) (k := 1) (v := 0) (ks := tens) ok hfl rfl rfl) (wp_callr (cList (b := 0) okc hcl rfl rfl) (wp_len (wp_i64 (by omega) (wp_sp (fun _ => wp_callr (cUsed (b := 0) okc rfl rfl) (wp_i64 (by omega) (wp_i64 (by omega) (wp_sp (fun _ => wp_callr (cDown (b := 0) okc rfl rfl) (wp_leaf rfl hK)) (fun h => absurd h (by simp [h6])))))) (fun h => absurd h (by simp [hlc]))))))

theorem SFuses : SoundF DP iFuses (.pure (relG RFuses)) := sound_pureT mixedD ΓH_ok ΔD_ok hfFuses heFuses hbFuses (by
  rintro args r ⟨n, rfl, rfl⟩
  exact ⟨by rw [hnFuses]; rfl, rfl, _, TFuses_chk n, fuses_wp n (.p _)⟩)

end Go.Ax
