/- The law DiskSure is true. -/
import Derived.Test.YtnhhaidlpbkmjaaDr2
set_option linter.unusedVariables false
set_option linter.unusedSimpArgs false
set_option linter.unusedSectionVars false
namespace Go.Ax
open Go.Proofs Go.RowKit
set_option maxRecDepth 100000

abbrev nmF : ByteArray := ⟨#[102]⟩
/-- The disk with its one file. -/
abbrev oneD (l : List UInt8) (n m : Nat) : Dsk := ⟨5000, n, [⟨nmF, l.take n, m⟩], false, 0⟩

theorem oneD_ok {l : List UInt8} {n m : Nat} (h1 : m ≤ n) (h2 : n ≤ l.length) (h3 : l.length ≤ 1000) : (oneD l n m).Ok := by
  have hl : (l.take n).length = n := by rw [List.length_take]; omega
  refine ⟨by simp, by simp, ?_, by simp only; omega, by simp, fun x hx => ?_, fun x hx => ?_, by simp⟩
  · simp only [List.map_cons, List.map_nil, List.sum_cons, List.sum_nil, hl]; omega
  · obtain rfl := List.mem_singleton.1 hx
    simp only [hl]; omega
  · obtain rfl := List.mem_singleton.1 hx
    show nmF.size ≤ 40
    decide

theorem oneD_crash (l : List UInt8) (n m : Nat) (ks : List Int) (h1 : m ≤ n) (h2 : n ≤ l.length) : ∃ n', m ≤ n' ∧ n' ≤ n ∧ crashD (oneD l n m) ks = oneD l n' n' := by
  have hl : (l.take n).length = n := by rw [List.length_take]; omega
  unfold crashD crashF
  simp only
  split
  · rename_i h0
    rw [hl] at h0
    have : m = n := by omega
    subst this
    refine ⟨m, Nat.le_refl _, Nat.le_refl _, ?_⟩
    unfold crashF
    simp [oneD, lens, hl]
  · rename_i h0
    have hk := keepK_le (x := ⟨nmF, l.take n, m⟩) ⟨by simp only; omega, by simp only [hl]; omega⟩ ks
    simp only [hl] at hk
    generalize hkk : keepK ⟨nmF, l.take n, (m : Int)⟩ ks = k at hk
    obtain ⟨n', hn'⟩ : ∃ n' : Nat, (n' : Int) = (m : Int) + k := ⟨((m : Int) + k).toNat, by omega⟩
    refine ⟨n', by omega, by omega, ?_⟩
    unfold crashF cutF
    simp only
    rw [← hn', Int.toNat_natCast, List.take_take, Nat.min_eq_left (by omega)]
    have : (l.take n').length = n' := by rw [List.length_take]; omega
    simp [oneD, lens, this]

theorem oneD_read (l : List UInt8) (n m : Nat) (h2 : n ≤ l.length) (h3 : l.length ≤ 1000) : readD (oneD l n m) nmF 0 2000 = (l.take n, 0) := by
  have hl : (l.take n).length = n := by rw [List.length_take]; omega
  have hg : (oneD l n m).get nmF = some ⟨nmF, l.take n, m⟩ := by simp [Dsk.get]
  unfold readD
  rw [if_neg (by simp)]
  simp only [hg, hl]
  rw [if_neg (by omega)]
  rw [show (min (2000 : Int) ((n : Int) - 0)).toNat = n by omega]
  simp [List.take_take]

theorem sure_loop (b more : List UInt8) (keeps : List (List Int)) (hb : b.length ≤ 500) (hm : more.length ≤ 500) (hk : keeps.length ≤ 10) : ∀ (suf pre : List (List Int)) (n m : Nat), keeps = pre ++ suf → b.length ≤ m → m ≤ n → n ≤ (b ++ more).length →
    Rounds (TSure_l1_e b more keeps) TSure_l1_x TSure_l1_x' (fun s => (TSure_l1_b b more keeps s).wp) (oneD (b ++ more) n m, (pre.length : Int), (n : Int)) (.inr ())
  | [], pre, n, m, h, h1, h2, h3 => by
    have e : keeps.length = pre.length := by rw [h]; simp
    refine .done' (by simp [TSure_l1_x']) ?_
    unfold TSure_l1_b
    exact wp_sp (fun h => absurd (of_decide_eq_true h) (by simp only; omega)) (fun _ => wp_leaf rfl ⟨rfl, rfl⟩)
  | ks :: suf, pre, n, m, h, h1, h2, h3 => by
    have e : keeps.length = pre.length + suf.length + 1 := by rw [h]; simp; omega
    have hll : (b ++ more).length ≤ 1000 := by rw [List.length_append]; omega
    obtain ⟨n', g1, g2, hc⟩ := oneD_crash (b ++ more) n m ks h2 h3
    have hr := oneD_read (b ++ more) n' n' (by omega) hll
    have hl : ((b ++ more).take n').length = n' := by rw [List.length_take]; omega
    have ok := oneD_ok (l := b ++ more) h2 h3 hll
    have ok' := oneD_ok (l := b ++ more) (n := n') (m := n') (Nat.le_refl _) (by omega) hll
    have hcut : ((⟨b.toArray⟩ : ByteArray) ++ (⟨more.toArray⟩ : ByteArray)).extract 0 n' = ⟨((b ++ more).take n').toArray⟩ := cat_cut b more n'
    have hsz : ((⟨b.toArray⟩ : ByteArray) ++ (⟨more.toArray⟩ : ByteArray)).size = (b ++ more).length := by simp [ByteArray.size_append, ByteArray.size]
    refine .next (s' := (oneD (b ++ more) n' n', ((pre ++ [ks]).length : Int), (n' : Int))) ?_ (sure_loop b more keeps hb hm hk suf (pre ++ [ks]) n' n' (by rw [h]; simp) (by omega) (Nat.le_refl _) (by omega))
    unfold TSure_l1_b
    refine wp_sp (fun _ => wp_elem ks (by simp only; omega) (by rw [h]; simp) ?_) (fun h => absurd (of_decide_eq_false h) (by simp only; omega))
    have c1 := cCrash (B := [.obj [] (diskP (oneD (b ++ more) n m))]) (b := 0) (ks := ks) ok (by simp) rfl
    refine wp_callr c1 ?_
    simp only [hc, hr, hl]
    have c2 := cRead (B := [.obj [] (diskP (oneD (b ++ more) n' n'))]) (b := 0) (ofs := 0) (n := 2000) ok' rfl hr
    rw [hl] at c2
    refine wp_callr c2 (wp_len (wp_sp (fun h => absurd (of_decide_eq_true h) (by omega)) (fun _ => wp_sp (fun h => absurd (of_decide_eq_true h) (by omega)) (fun _ => ?_))))
    refine ⟨hl.symm, rfl, ⟨by omega, by rw [hsz]; omega⟩, wp_sp (fun h => ?_) (fun _ => wp_i64 (by omega) (wp_leaf rfl ⟨rfl, ?_⟩))⟩
    · exfalso
      have : hiN (some ((n' : Nat) : Int)) ((⟨b.toArray⟩ : ByteArray) ++ (⟨more.toArray⟩ : ByteArray)).size = n' := rfl
      rw [this, show loN none = 0 from rfl, hcut] at h
      simp at h
    · rw [List.length_append]; rfl

def RSure : List AV → AV → Prop := fun args r => ∃ (b more : List UInt8) (keeps : List (List Int)), args = [vl (b.map byteE.f), vl (more.map byteE.f), vl (keeps.map ilsE.f)] ∧ r = vb true

theorem sure_wp (b more : List UInt8) (keeps : List (List Int)) {K : AE → St → Prop} (hK : K .ret ([(0, vb true)], [])) :
    (TSure b more keeps (newD 5000) ⟨5000, 0, [⟨nmF, [], 0⟩], false, 0⟩ ⟨5000, b.length, [⟨nmF, b, 0⟩], false, 0⟩ ⟨5000, b.length, [⟨nmF, b, b.length⟩], false, 0⟩ (oneD (b ++ more) (b ++ more).length b.length)).wp K := by
  unfold TSure
  refine wp_call gHead_eq (wp_len (wp_sp (fun _ => wp_leaf rfl hK) (fun hb => wp_len (wp_sp (fun _ => wp_leaf rfl hK) (fun hm => wp_len (wp_sp (fun _ => wp_leaf rfl hK) (fun hk => ?_)))))))
  have hb := of_decide_eq_false hb
  have hm := of_decide_eq_false hm
  have hk := of_decide_eq_false hk
  have hbl : b.length ≤ 500 := by omega
  have hml : more.length ≤ 500 := by omega
  have g1 : ∀ (y : Fil) (us : Int) , (⟨5000, us, [y], false, 0⟩ : Dsk).get y.name = some y := fun y us => by simp [Dsk.get]
  have e0 : stE 0 = 0 := by decide
  have h1 : createD (newD 5000) nmF = (⟨5000, 0, [⟨nmF, [], 0⟩], false, 0⟩, 0) := by kernel_rfl
  have h2 : appendD ⟨5000, 0, [⟨nmF, [], 0⟩], false, 0⟩ nmF b = (⟨5000, b.length, [⟨nmF, b, 0⟩], false, 0⟩, 0) := by
    unfold appendD
    rw [if_neg (by simp), g1 ⟨nmF, [], 0⟩ 0]
    simp only
    rw [if_neg (by omega), if_neg (by simp [e0])]
    simp [repF, Dsk.stepped, stD, stF]
  have h3 : syncD ⟨5000, b.length, [⟨nmF, b, 0⟩], false, 0⟩ nmF = (⟨5000, b.length, [⟨nmF, b, b.length⟩], false, 0⟩, 0) := by
    unfold syncD
    rw [if_neg (by simp), g1 ⟨nmF, b, 0⟩ b.length]
    simp only
    rw [if_neg (by simp [e0])]
    simp [repF, Dsk.stepped, stD, stF]
  have h4 : appendD ⟨5000, b.length, [⟨nmF, b, b.length⟩], false, 0⟩ nmF more = (oneD (b ++ more) (b ++ more).length b.length, 0) := by
    unfold appendD
    rw [if_neg (by simp), g1 ⟨nmF, b, b.length⟩ b.length]
    simp only
    rw [if_neg (by omega), if_neg (by simp [e0])]
    simp [repF, Dsk.stepped, stD, stF, oneD]
    exact (List.take_of_length_le (by simp)).symm
  have k0 := newD_ok 5000
  have k1 := createD_ok k0 nmF
  rw [h1] at k1
  have k2 := appendD_ok k1 nmF b
  rw [h2] at k2
  have k3 := syncD_ok k2 nmF
  rw [h3] at k3
  have hsz : ((⟨b.toArray⟩ : ByteArray) ++ (⟨more.toArray⟩ : ByteArray)).size = (b ++ more).length := by simp [ByteArray.size_append, ByteArray.size]
  refine wp_callr (cNew 5000) (wp_callr (cCreate k0 (by decide) rfl h1) (wp_callr (cAppend k1 (by omega) rfl h2) (wp_callr (cSync k2 rfl h3) (wp_callr (cAppend k3 (by omega) rfl h4) ⟨rfl, rfl, wp_val ?_ (wp_len (wp_loop' () rfl ?_ (wp_leaf rfl hK)))⟩))))
  · have h1 : (⟨b.toArray⟩ : ByteArray).size = b.length := by simp [ByteArray.size]
    have h2 : (⟨more.toArray⟩ : ByteArray).size = more.length := by simp [ByteArray.size]
    simp only [binA, binStr]
    rw [if_pos (by rw [h1, h2]; omega)]
    rfl
  · rw [hsz]
    exact sure_loop b more keeps hbl hml (by omega) keeps [] _ _ rfl (Nat.le_refl _) (by rw [List.length_append]; omega) (Nat.le_refl _)

theorem SSure : SoundF DP iSure (.pure (relG RSure)) := sound_pureT mixedD ΓH_ok ΔD_ok hfSure heSure hbSure (by
  rintro args r ⟨b, more, keeps, rfl, rfl⟩
  exact ⟨by rw [hnSure]; rfl, rfl, _, TSure_chk _ _ _ _ _ _ _ _, sure_wp b more keeps (.p _)⟩)

end Go.Ax
