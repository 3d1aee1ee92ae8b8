/- Trees, printed by gen/w1.py. -/
import Derived.Test.YtjlipmcdnigfcaaDoorG32
set_option linter.unusedVariables false
set_option linter.unusedSimpArgs false
set_option linter.unusedSectionVars false
namespace Go.Ax
open Go.Proofs Go.RowKit
set_option maxRecDepth 100000

noncomputable def THeadL (D0 : Dsk) (D1 : Dsk) (D2 : Dsk) (D3 : Dsk) (D4 : Dsk) (g1 : Int) (g2 : Int) (g3 : Int) : Tree :=
.callr (some 8) (Δ7 15 [vi 1000] [] (.op 0) [.obj [] (diskP D0)]) (.op 0) [.obj [] (diskP D0)] (.callr (some 11) (Δ7 16 [.op 0, vi 1] [.obj [] (diskP D0)] (.tup [.ptr 1 0 0, .rs 2 0 1 0 (([] : List ByteArray).length), vi 0]) [.obj [] (diskP D0), .cells false 0 ([.op 0, vi 0, vi 0, vb false]), nameE.bx 0 ([] : List ByteArray)]) (.tup [.ptr 1 0 0, .rs 2 0 1 0 (([] : List ByteArray).length), vi 0]) [.obj [] (diskP D0), .cells false 0 ([.op 0, vi 0, vi 0, vb false]), nameE.bx 0 ([] : List ByteArray)] (.sp 24 (((([] : List ByteArray).length : Nat) : Int) != (0 : Int)) (
.leaf ⟨[0], []⟩ [] .ret (some ([(0, vb false)], []))) (
.callr (some 28) (Δ7 17 [.ptr 1 0 0, vi 1] [.obj [] (diskP D0), .cells false 0 ([.op 0, vi 0, vi 0, vb false]), nameE.bx 0 ([] : List ByteArray)] (vi 0) [.obj [] (diskP D1), .cells false 0 ([.op 0, vi 1, vi g1, vb true]), nameE.bx 0 ([] : List ByteArray)]) (vi 0) [.obj [] (diskP D1), .cells false 0 ([.op 0, vi 1, vi g1, vb true]), nameE.bx 0 ([] : List ByteArray)] (.callr (some 33) (Δ7 19 [.ptr 1 0 0, vs (⟨#[97]⟩)] [.obj [] (diskP D1), .cells false 0 ([.op 0, vi 1, vi g1, vb true]), nameE.bx 0 ([] : List ByteArray)] (vi 0) [.obj [] (diskP D2), .cells false 0 ([.op 0, vi 1, vi g2, vb true]), nameE.bx 0 ([] : List ByteArray)]) (vi 0) [.obj [] (diskP D2), .cells false 0 ([.op 0, vi 1, vi g2, vb true]), nameE.bx 0 ([] : List ByteArray)] (.callr (some 38) (Δ7 19 [.ptr 1 0 0, vs (⟨#[98]⟩)] [.obj [] (diskP D2), .cells false 0 ([.op 0, vi 1, vi g2, vb true]), nameE.bx 0 ([] : List ByteArray)] (vi 0) [.obj [] (diskP D3), .cells false 0 ([.op 0, vi 1, vi g3, vb true]), nameE.bx 0 ([] : List ByteArray)]) (vi 0) [.obj [] (diskP D3), .cells false 0 ([.op 0, vi 1, vi g3, vb true]), nameE.bx 0 ([] : List ByteArray)] (.callr (some 43) (Δ7 54 [.op 0, vs (⟨#[108, 111, 103, 46, 49]⟩)] [.obj [] (diskP D3), .cells false 0 ([.op 0, vi 1, vi g3, vb true]), nameE.bx 0 ([] : List ByteArray)] (vi 0) [.obj [] (diskP D4), .cells false 0 ([.op 0, vi 1, vi g3, vb true]), nameE.bx 0 ([] : List ByteArray)]) (vi 0) [.obj [] (diskP D4), .cells false 0 ([.op 0, vi 1, vi g3, vb true]), nameE.bx 0 ([] : List ByteArray)] (.callr (some 48) (Δ7 16 [.op 0, vi 1] [.obj [] (diskP D4), .cells false 0 ([.op 0, vi 1, vi g3, vb true]), nameE.bx 0 ([] : List ByteArray)] (.tup [.ptr 3 0 0, .rs 4 0 1 0 (([(⟨#[97]⟩ : ByteArray), (⟨#[98]⟩ : ByteArray)]).length), vi 0]) [.obj [] (diskP D4), .cells false 0 ([.op 0, vi 1, vi g3, vb true]), nameE.bx 0 ([] : List ByteArray), .cells false 0 ([.op 0, vi 1, vi g3, vb false]), nameE.bx 0 ([(⟨#[97]⟩ : ByteArray), (⟨#[98]⟩ : ByteArray)])]) (.tup [.ptr 3 0 0, .rs 4 0 1 0 (([(⟨#[97]⟩ : ByteArray), (⟨#[98]⟩ : ByteArray)]).length), vi 0]) [.obj [] (diskP D4), .cells false 0 ([.op 0, vi 1, vi g3, vb true]), nameE.bx 0 ([] : List ByteArray), .cells false 0 ([.op 0, vi 1, vi g3, vb false]), nameE.bx 0 ([(⟨#[97]⟩ : ByteArray), (⟨#[98]⟩ : ByteArray)])] (.sp 57 (((([(⟨#[97]⟩ : ByteArray), (⟨#[98]⟩ : ByteArray)]).length : Nat) : Int) == (2 : Int)) (
.ridx 61 (([(⟨#[97]⟩ : ByteArray), (⟨#[98]⟩ : ByteArray)]).length) 0 (.rload 62 (rowC (([(⟨#[97]⟩ : ByteArray), (⟨#[98]⟩ : ByteArray)]).map nameE.f)) (0 + Int.toNat 0 * 1) nameE ([(⟨#[97]⟩ : ByteArray), (⟨#[98]⟩ : ByteArray)]) 0 0 (fun e1 => .sp 63 (e1.toList == (⟨#[97]⟩ : ByteArray).toList) (
.ridx 67 (([(⟨#[97]⟩ : ByteArray), (⟨#[98]⟩ : ByteArray)]).length) 1 (.rload 68 (rowC (([(⟨#[97]⟩ : ByteArray), (⟨#[98]⟩ : ByteArray)]).map nameE.f)) (0 + Int.toNat 1 * 1) nameE ([(⟨#[97]⟩ : ByteArray), (⟨#[98]⟩ : ByteArray)]) 1 0 (fun e2 => .sp 69 (e2.toList == (⟨#[98]⟩ : ByteArray).toList) (
.call 72 (gNameW [vi 7] = some (vs (wname 7))) (vs (wname 7)) (.leaf ⟨[0], []⟩ [] .ret (some ([(0, vb ((wname 7).toList == (⟨#[108, 111, 103, 46, 55]⟩ : ByteArray).toList))], [])))) (
.leaf ⟨[0], []⟩ [] .ret (some ([(0, vb false)], [])))))) (
.leaf ⟨[0], []⟩ [] .ret (some ([(0, vb false)], [])))))) (
.leaf ⟨[0], []⟩ [] .ret (some ([(0, vb false)], [])))))))))))

theorem THeadL_chk (D0 : Dsk) (D1 : Dsk) (D2 : Dsk) (D3 : Dsk) (D4 : Dsk) (g1 : Int) (g2 : Int) (g3 : Int) : fnC DP Γ7h Δ7 Tryd.f14 [] [] (THeadL D0 D1 D2 D3 D4 g1 g2 g3) = THeadL D0 D1 D2 D3 D4 g1 g2 g3 := by kernel_rfl

end Go.Ax

namespace Go.Ax
open Go.Proofs Go.RowKit
set_option maxRecDepth 100000

/-! ### Names -/
def dval (l : List UInt8) : Nat := l.foldl (fun a c => a * 10 + (c.toNat - 48)) 0
theorem dval_snoc (l : List UInt8) (c : UInt8) : dval (l ++ [c]) = dval l * 10 + (c.toNat - 48) := by simp [dval]
theorem dval_dec (u : Nat) : dval (Lib.decDigits u) = u := by
  induction u using Nat.strongRecOn with
  | _ u ih =>
    rw [Lib.decDigits]
    split
    · rename_i h
      have : (UInt8.ofNat (48 + u)).toNat = 48 + u := by rw [UInt8.toNat_ofNat']; omega
      show 0 * 10 + ((UInt8.ofNat (48 + u)).toNat - 48) = u
      rw [this]; omega
    · rename_i h
      have : (UInt8.ofNat (48 + u % 10)).toNat = 48 + u % 10 := by rw [UInt8.toNat_ofNat']; omega
      rw [dval_snoc, ih (u / 10) (by omega), this]
      omega
theorem dec_ok (u : Nat) : ∀ c ∈ Lib.decDigits u, 48 ≤ c.toNat ∧ c.toNat ≤ 57 := by
  induction u using Nat.strongRecOn with
  | _ u ih =>
    rw [Lib.decDigits]
    split
    · rename_i h
      intro c hc
      rw [List.mem_singleton.1 hc, UInt8.toNat_ofNat']
      omega
    · rename_i h
      intro c hc
      rcases List.mem_append.1 hc with hc | hc
      · exact ih (u / 10) (by omega) c hc
      · rw [List.mem_singleton.1 hc, UInt8.toNat_ofNat']
        omega
theorem wname_list {n : Int} (h : 0 ≤ n) : (wname n).data.toList = [108, 111, 103, 46] ++ Lib.decDigits n.toNat := by
  unfold wname
  rw [ByteArray.data_append, Array.toList_append]
  show [108, 111, 103, 46] ++ (Lib.itoa n).toArray.toList = _
  rw [List.toList_toArray]
  unfold Lib.itoa
  rw [if_neg (by omega)]
theorem wname_inj {a b : Int} (ha : 0 ≤ a) (hb : 0 ≤ b) (h : wname a = wname b) : a = b := by
  have h1 := congrArg (fun x => x.data.toList) h
  simp only [wname_list ha, wname_list hb] at h1
  have h2 := congrArg dval (List.append_cancel_left h1)
  rw [dval_dec, dval_dec] at h2
  omega
theorem wname_is {n : Int} (h : 0 ≤ n ∧ n ≤ 9223372036854775807) : isName (wname n) = true := by
  unfold isName
  have hs := wname_size (n := n) (by omega)
  have hz : (wname n).size = 4 + (itoaB n).size := cat_size _ _
  rw [Bool.and_eq_true, Bool.and_eq_true, decide_eq_true_eq, decide_eq_true_eq, List.all_eq_true]
  refine ⟨⟨fun c hc => ?_, by omega⟩, by omega⟩
  rw [wname_list h.1] at hc
  rcases List.mem_append.1 hc with hc | hc
  · have : ∀ c ∈ ([108, 111, 103, 46] : List UInt8), okChar c = true := by decide
    exact this c hc
  · have := dec_ok _ c hc
    unfold okChar
    simp only [Bool.or_eq_true, Bool.and_eq_true, decide_eq_true_eq]
    exact .inl (.inr this)

/-! ### Numbers -/
theorem numN_leN (n : Nat) : ∀ k : Nat, numN (leN n k) = n % 256 ^ k := by
  intro k
  induction k generalizing n with
  | zero => simp [leN, numN, Nat.mod_one]
  | succ k ih =>
    rw [leN, numN, ih, UInt8.toNat_ofNat']
    have e : 256 ^ (k + 1) = 256 * 256 ^ k := by rw [Nat.pow_succ, Nat.mul_comm]
    rw [e, Nat.mod_mul]
    show n % 256 % 256 + _ = _
    omega
theorem little_le {n : Int} (h : 0 ≤ n ∧ n < 4294967296) : littleI (leI n 4) = n := by
  unfold littleI leI
  rw [List.take_of_length_le (by rw [leN_len]; decide), numN_leN, Nat.mod_eq_of_lt (by show n.toNat < 4294967296; omega)]
  omega

/-! ### A record is read as it was laid -/
theorem take_app {α : Type} {a b : List α} {n : Nat} (h : a.length = n) : (a ++ b).take n = a := by rw [← h]; simp
theorem next_rec {d : List UInt8} (hd : d.length ≤ 1048576) (rest : List UInt8) : nextI (recB d ++ rest) = (d, ((d.length : Int) + 12), 0) := by
  have hl4 : (leI (d.length : Int) 4).length = 4 := leI_len _ _
  have hm4 : (leI (maskI (crcI (leI (d.length : Int) 4))) 4).length = 4 := leI_len _ _
  have hc4 : (leI (maskI (crcI d)) 4).length = 4 := leI_len _ _
  have e : recB d ++ rest = leI (d.length : Int) 4 ++ (leI (maskI (crcI (leI (d.length : Int) 4))) 4 ++ (leI (maskI (crcI d)) 4 ++ (d ++ rest))) := by simp [recB]
  have t4 : (recB d ++ rest).take 4 = leI (d.length : Int) 4 := by rw [e]; exact take_app hl4
  have t8 : ((recB d ++ rest).take 8).drop 4 = leI (maskI (crcI (leI (d.length : Int) 4))) 4 := by
    rw [e, ← List.append_assoc, take_app (by rw [List.length_append, hl4, hm4])]
    rw [List.drop_append_of_le_length (by omega), List.drop_of_length_le (by omega), List.nil_append]
  have t12 : ((recB d ++ rest).take 12).drop 8 = leI (maskI (crcI d)) 4 := by
    rw [e, ← List.append_assoc, ← List.append_assoc, take_app (by rw [List.length_append, List.length_append, hl4, hm4, hc4])]
    rw [List.drop_append_of_le_length (by rw [List.length_append]; omega), List.drop_of_length_le (by rw [List.length_append]; omega), List.nil_append]
  have l4 : littleI ((recB d ++ rest).take 4) = (d.length : Int) := by rw [t4]; exact little_le (by omega)
  have m1 := maskI_b (crcI (leI (d.length : Int) 4))
  have m2 := maskI_b (crcI d)
  have tn : ((recB d ++ rest).take (12 + littleI ((recB d ++ rest).take 4)).toNat).drop 12 = d := by
    rw [l4, take_app (by rw [recB_len]; omega)]
    unfold recB
    rw [List.drop_append_of_le_length (by simp only [List.length_append, leI_len]; decide), List.drop_of_length_le (by simp only [List.length_append, leI_len]; decide), List.nil_append]
  unfold nextI
  rw [if_neg (by rw [List.length_append, recB_len]; omega), if_neg, if_neg (by rw [List.length_append, recB_len, l4]; omega), if_neg]
  · rw [tn, l4]; simp only [Prod.mk.injEq, and_true, true_and]; omega
  · rw [t12, tn, little_le m2]
    intro h; exact h (by omega)
  · rw [t8, t4, little_le m1, little_le (by omega)]
    rintro (h | h)
    · exact h (by omega)
    · omega

theorem getA_put : ∀ (n i a : Nat), i ≤ 9 → n < 2 ^ (64 - 7 * i) → (0 < i → 0 < n) → getA i a (putN n) = (a + n * 2 ^ (7 * i), i + (putN n).length, 0) := by
  intro n
  induction n using Nat.strongRecOn with
  | _ n ih =>
    intro i a hi hn hp
    have h9 : i = 9 → n ≤ 1 := fun e => by subst e; have : (2 : Nat) ^ (64 - 7 * 9) = 2 := by decide
                                           omega
    by_cases h : n < 128
    · rw [putN_lt h, getA, UInt8.toNat_ofNat']
      have e : n % 2 ^ 8 = n := Nat.mod_eq_of_lt (by omega)
      rw [e, if_neg (by rintro ⟨h1, h2⟩; have := h9 h1; omega), if_pos h, if_neg (by rintro ⟨h1, h2⟩; have := hp h2; omega)]
      rfl
    · rw [putN_ge h, getA, UInt8.toNat_ofNat']
      have e : (n % 128 + 128) % 2 ^ 8 = n % 128 + 128 := Nat.mod_eq_of_lt (by omega)
      have hi8 : i + 1 ≤ 9 := by
        rcases Nat.lt_or_ge i 9 with h1 | h1
        · omega
        · have := h9 (by omega); omega
      have hpow : 2 ^ (64 - 7 * i) = 128 * 2 ^ (64 - 7 * (i + 1)) := by
        rw [show 64 - 7 * i = 7 + (64 - 7 * (i + 1)) by omega, Nat.pow_add]
      rw [e, if_neg (by omega), if_neg (by omega), ih (n / 128) (by omega) (i + 1) _ hi8 (by rw [Nat.div_lt_iff_lt_mul (by decide)]; omega) (by omega)]
      have e2 : (n % 128 + 128) % 128 = n % 128 := by omega
      have e3 : 2 ^ (7 * (i + 1)) = 128 * 2 ^ (7 * i) := by rw [show 7 * (i + 1) = 7 + 7 * i by omega, Nat.pow_add]
      rw [e2, e3, List.length_cons]
      have e4 : n / 128 * (128 * 2 ^ (7 * i)) = n / 128 * 128 * 2 ^ (7 * i) := by rw [Nat.mul_assoc]
      have e5 : n % 128 * 2 ^ (7 * i) + n / 128 * 128 * 2 ^ (7 * i) = n * 2 ^ (7 * i) := by rw [← Nat.add_mul]; congr 1; omega
      simp only [Prod.mk.injEq, and_true]
      rw [e4]
      exact ⟨by omega, by omega⟩
theorem getI_put {g : Int} (h : 0 ≤ g ∧ g < 18446744073709551616) : getI (putI g) = (g, ((putI g).length : Int), 0) := by
  unfold getI putI
  rw [getA_put g.toNat 0 0 (by decide) (by show g.toNat < 18446744073709551616; omega) (by omega)]
  simp only [Nat.zero_add, Nat.mul_zero, Nat.pow_zero, Nat.mul_one, Prod.mk.injEq]
  exact ⟨by omega, trivial, rfl⟩

/-- All records of bytes that are records. -/
theorem allA_recs : ∀ (ds : List (List UInt8)) (pre : List UInt8) (f : Nat) (out : List (List UInt8)), (∀ d ∈ ds, d.length ≤ 1048576) → (pre ++ (ds.map recB).flatten).length ≤ pre.length + f →
    allA f (pre ++ (ds.map recB).flatten) pre.length out = (out ++ ds, ((pre ++ (ds.map recB).flatten).length : Int), 0)
  | [], pre, f, out, _, _ => by
    simp only [List.map_nil, List.flatten_nil, List.append_nil]
    cases f with
    | zero => rfl
    | succ f => rw [allA, if_pos (Nat.le_refl _)]
  | d :: ds, pre, f, out, hd, hf => by
    have hdl := hd d (by simp)
    simp only [List.map_cons, List.flatten_cons, List.length_append, recB_len] at hf
    cases f with
    | zero => omega
    | succ f =>
      have hdrop : (pre ++ ((d :: ds).map recB).flatten).drop pre.length = recB d ++ (ds.map recB).flatten := by simp
      have hn := next_rec hdl (ds.map recB).flatten
      rw [allA, if_neg (by simp only [List.map_cons, List.flatten_cons, List.length_append, recB_len]; omega), hdrop, hn]
      simp only
      rw [if_neg (by decide), if_neg (by decide)]
      have hpre : pre ++ ((d :: ds).map recB).flatten = (pre ++ recB d) ++ (ds.map recB).flatten := by simp
      have hat : pre.length + ((d.length : Int) + 12).toNat = (pre ++ recB d).length := by rw [List.length_append, recB_len]; omega
      rw [hpre, hat, allA_recs ds (pre ++ recB d) f (out ++ [d]) (fun x hx => hd x (by simp [hx])) (by simp only [List.length_append, recB_len]; omega)]
      simp
theorem allI_recs {ds : List (List UInt8)} (h : ∀ d ∈ ds, d.length ≤ 1048576) : allI (ds.map recB).flatten = (ds, ((ds.map recB).flatten.length : Int), 0) := by
  have := allA_recs ds [] (ds.map recB).flatten.length [] h (by simp)
  simpa [allI] using this

/-- A part's bytes. -/
def partB (g : Int) (ts : List (List UInt8)) : List UInt8 := ((putI g :: ts).map recB).flatten
theorem partB_len (g : Int) (ts : List (List UInt8)) : (partB g ts).length = (recB (putI g)).length + ((ts.map recB).flatten).length := by simp [partB]
theorem partB_nil (g : Int) : partB g [] = recB (putI g) := by simp [partB]
theorem partB_snoc (g : Int) (ts : List (List UInt8)) (d : List UInt8) : partB g (ts ++ [d]) = partB g ts ++ recB d := by simp [partB]
theorem allI_part {g : Int} (hg : 0 ≤ g ∧ g ≤ 67108864) {ts : List (List UInt8)} (h : ∀ d ∈ ts, d.length ≤ 1048576) : allI (partB g ts) = (putI g :: ts, ((partB g ts).length : Int), 0) :=
  allI_recs fun d hd => by
    rcases List.mem_cons.1 hd with rfl | hd
    · have := putN_len64 (n := g.toNat) (by omega); unfold putI; omega
    · exact h d hd
theorem parseI_part {g : Int} (hg : 0 ≤ g ∧ g ≤ 67108864) (ts : List (List UInt8)) : parseI (putI g :: ts) = (g, true, 0) := by
  show (if (getI (putI g)).2.2 ≠ 0 ∨ (getI (putI g)).2.1 ≠ ((putI g).length : Int) ∨ (getI (putI g)).1 > 67108864 then ((0, false, 12) : Int × Bool × Int) else ((getI (putI g)).1, true, 0)) = _
  rw [getI_put (by omega), if_neg]
  rintro (h | h | h)
  · exact h rfl
  · exact h rfl
  · exact absurd h (by simp only; omega)
end Go.Ax

namespace Go.Ax
open Go.Proofs Go.RowKit
set_option maxRecDepth 100000

/-! ### What files hold -/
def Dsk.cont (D : Dsk) (nm : ByteArray) : Option (List UInt8) := (D.get nm).map (·.b)
/-- A disk on which there is power, and none is cut. -/
structure Live (D : Dsk) : Prop where
  ok : D.Ok
  up : D.down = false
  fu : D.fuse = 0

theorem stE0 : stE 0 = 0 := by decide
theorem stepped0 {D : Dsk} (h : Live D) : D.stepped.down = false ∧ D.stepped.fuse = 0 := by
  unfold Dsk.stepped
  rw [h.fu]
  exact ⟨(by decide : stD 0 = false), (by decide : stF 0 = 0)⟩
theorem find_ins (x : Fil) (nm : ByteArray) : ∀ fs : List Fil, x.name ∉ fs.map (·.name) → (insF x fs).find? (fun y => decide (y.name = nm)) = if x.name = nm then some x else fs.find? fun y => decide (y.name = nm)
  | [], _ => by
    simp only [insF, List.find?_cons, List.find?_nil]
    by_cases h : x.name = nm <;> simp [h]
  | y :: r, hx => by
    simp only [List.map_cons, List.mem_cons, not_or] at hx
    unfold insF
    split
    · rw [List.find?_cons]
      by_cases h : x.name = nm <;> simp [h]
    · rw [List.find?_cons, find_ins x nm r hx.2, List.find?_cons]
      by_cases hy : y.name = nm
      · have hxn : ¬ x.name = nm := fun e => hx.1 (e.trans hy.symm)
        rw [if_neg hxn]
        simp [hy, hxn]
      · simp [hy]
theorem find_rep (x : Fil) (nm : ByteArray) (fs : List Fil) : (repF fs x).find? (fun y => decide (y.name = nm)) = if x.name = nm then (fs.find? fun y => decide (y.name = nm)).map fun _ => x else fs.find? fun y => decide (y.name = nm) := by
  induction fs with
  | nil => simp [repF]
  | cons y r ih =>
    have e : repF (y :: r) x = (if y.name = x.name then x else y) :: repF r x := rfl
    rw [e, List.find?_cons, ih, List.find?_cons]
    by_cases hx : x.name = nm
    · by_cases hy : y.name = nm
      · simp [hx, hy]
      · have : ¬ y.name = x.name := fun e => hy (e.trans hx)
        simp [hx, hy]
    · by_cases hy : y.name = nm
      · have : ¬ y.name = x.name := fun e => hx (e.symm.trans hy)
        have h2 : ¬ nm = x.name := fun e => hx e.symm
        simp [hx, hy, h2]
      · by_cases hxy : y.name = x.name
        · simp [hx, hy, hxy]
        · simp [hx, hy, hxy]

theorem cont_size {D : Dsk} (h : Live D) {nm : ByteArray} : (sizeD D nm).2 = if D.cont nm = none then 4 else 0 := by
  unfold sizeD Dsk.cont
  rw [if_neg (by simp [h.up])]
  cases D.get nm with
  | none => rfl
  | some x => rfl
theorem cont_read {D : Dsk} {n : Int} {c : List UInt8} (h : D.cont (wname n) = some c) : readW D n = allI c := by
  unfold Dsk.cont at h
  unfold readW
  cases hg : D.get (wname n) with
  | none => rw [hg] at h; cases h
  | some x => rw [hg] at h; cases h; rfl
theorem cont_readN {D : Dsk} {n : Int} (h : D.cont (wname n) = none) : readW D n = ([], 0, 4) := by
  unfold Dsk.cont at h
  unfold readW
  cases hg : D.get (wname n) with
  | none => rfl
  | some x => rw [hg] at h; cases h

theorem Live.len {D : Dsk} (h : Live D) {nm : ByteArray} {c : List UInt8} (hc : D.cont nm = some c) : (c.length : Int) ≤ 67108864 := by
  unfold Dsk.cont at hc
  cases hg : D.get nm with
  | none => rw [hg] at hc; cases hc
  | some x =>
    rw [hg] at hc
    have e : x.b = c := Option.some.inj hc
    rw [← e]; exact h.ok.len hg

theorem cont_create {D : Dsk} (h : Live D) {nm : ByteArray} (hn : isName nm = true) (hc : D.cont nm = none) :
    (createD D nm).2 = 0 ∧ Live (createD D nm).1 ∧ (∀ m, (createD D nm).1.cont m = if nm = m then some [] else D.cont m) ∧ (createD D nm).1.used = D.used ∧ (createD D nm).1.room = D.room := by
  have hg : D.get nm = none := by
    unfold Dsk.cont at hc
    cases hg : D.get nm with
    | none => rfl
    | some x => rw [hg] at hc; cases hc
  have e : createD D nm = ({ D.stepped with files := insF ⟨nm, [], 0⟩ D.files }, 0) := by
    unfold createD
    rw [hn, if_neg (by decide), if_neg (by simp [h.up])]
    simp only [hg]
    rw [h.fu, if_neg (by simp [stE0])]
  have hok := createD_ok h.ok nm
  rw [e] at hok ⊢
  obtain ⟨s1, s2⟩ := stepped0 h
  refine ⟨rfl, ⟨hok, s1, s2⟩, fun m => ?_, rfl, rfl⟩
  unfold Dsk.cont Dsk.get
  rw [find_ins _ _ _ (get_none hg)]
  simp only
  split <;> rfl
theorem cont_append {D : Dsk} (h : Live D) {nm : ByteArray} {c bs : List UInt8} (hc : D.cont nm = some c) (hr : (bs.length : Int) ≤ D.room - D.used) :
    (appendD D nm bs).2 = 0 ∧ Live (appendD D nm bs).1 ∧ (∀ m, (appendD D nm bs).1.cont m = if nm = m then some (c ++ bs) else D.cont m) ∧ (appendD D nm bs).1.used = D.used + bs.length ∧ (appendD D nm bs).1.room = D.room := by
  obtain ⟨x, hg, rfl⟩ : ∃ x, D.get nm = some x ∧ x.b = c := by
    unfold Dsk.cont at hc
    cases hg : D.get nm with
    | none => rw [hg] at hc; cases hc
    | some x => rw [hg] at hc; cases hc; exact ⟨x, rfl, rfl⟩
  obtain ⟨_, hxn⟩ := get_some hg
  have e : appendD D nm bs = ({ D.stepped with files := repF D.files { x with b := x.b ++ bs }, used := D.used + bs.length }, 0) := by
    unfold appendD
    rw [if_neg (by simp [h.up])]
    simp only [hg]
    rw [if_neg (by omega), h.fu, if_neg (by simp [stE0])]
  have hok := appendD_ok h.ok nm bs
  rw [e] at hok ⊢
  obtain ⟨s1, s2⟩ := stepped0 h
  refine ⟨rfl, ⟨hok, s1, s2⟩, fun m => ?_, rfl, rfl⟩
  show ((repF D.files { x with b := x.b ++ bs }).find? fun y => decide (y.name = m)).map (·.b) = _
  rw [find_rep]
  simp only [hxn]
  split
  · rename_i e
    subst e
    unfold Dsk.get at hg
    rw [hg]; rfl
  · rfl
theorem cont_full {D : Dsk} (h : Live D) {nm : ByteArray} {c bs : List UInt8} (hc : D.cont nm = some c) (hr : ¬ (bs.length : Int) ≤ D.room - D.used) : appendD D nm bs = (D, 11) := by
  obtain ⟨x, hg, rfl⟩ : ∃ x, D.get nm = some x ∧ x.b = c := by
    unfold Dsk.cont at hc
    cases hg : D.get nm with
    | none => rw [hg] at hc; cases hc
    | some x => rw [hg] at hc; cases hc; exact ⟨x, rfl, rfl⟩
  unfold appendD
  rw [if_neg (by simp [h.up])]
  simp only [hg]
  rw [if_pos (by omega)]
theorem cont_sync {D : Dsk} (h : Live D) {nm : ByteArray} {c : List UInt8} (hc : D.cont nm = some c) :
    (syncD D nm).2 = 0 ∧ Live (syncD D nm).1 ∧ (∀ m, (syncD D nm).1.cont m = D.cont m) ∧ (syncD D nm).1.used = D.used ∧ (syncD D nm).1.room = D.room := by
  obtain ⟨x, hg, rfl⟩ : ∃ x, D.get nm = some x ∧ x.b = c := by
    unfold Dsk.cont at hc
    cases hg : D.get nm with
    | none => rw [hg] at hc; cases hc
    | some x => rw [hg] at hc; cases hc; exact ⟨x, rfl, rfl⟩
  obtain ⟨_, hxn⟩ := get_some hg
  have e : syncD D nm = ({ D.stepped with files := repF D.files { x with sure := x.b.length } }, 0) := by
    unfold syncD
    rw [if_neg (by simp [h.up])]
    simp only [hg]
    rw [h.fu, if_neg (by simp [stE0])]
  have hok := syncD_ok h.ok nm
  rw [e] at hok ⊢
  obtain ⟨s1, s2⟩ := stepped0 h
  refine ⟨rfl, ⟨hok, s1, s2⟩, fun m => ?_, rfl, rfl⟩
  show ((repF D.files { x with sure := (x.b.length : Int) }).find? fun y => decide (y.name = m)).map (·.b) = ((D.files).find? fun y => decide (y.name = m)).map (·.b)
  rw [find_rep]
  simp only [hxn]
  split
  · rename_i e
    subst e
    unfold Dsk.get at hg
    rw [hg]; rfl
  · rfl
theorem live_new {n : Int} : Live (newD n) := ⟨newD_ok n, rfl, rfl⟩
theorem cont_new (n : Int) (m : ByteArray) : (newD n).cont m = none := rfl

/-! ### The parts of a log -/
def Holds (D : Dsk) : Int → Int → List (List (List UInt8)) → Prop
  | n, _, [] => D.cont (wname n) = none
  | n, g, ts :: r => D.cont (wname n) = some (partB g ts) ∧ Holds D (n + 1) (partB g ts).length r
def lastG : Int → List (List (List UInt8)) → Int
  | g, [] => g
  | g, ts :: r => lastG (partB g ts).length r
def Small (P : List (List (List UInt8))) : Prop := ∀ ts ∈ P, ∀ d ∈ ts, d.length ≤ 1048576

theorem open_holds {D : Dsk} (h : Live D) {frm : Int} : ∀ (P : List (List (List UInt8))) (f : Nat) (n p g0 g : Int) (out : List ByteArray), Holds D n g0 P → Small P → P.length < f → n + P.length ≤ 1073741824 → (0 ≤ g0 ∧ g0 ≤ 67108864) → (frm < n → g0 = g) →
    openA D frm f n p g out = some (0, (if P = [] then p else n + P.length - 1), (if P = [] then g else lastG g0 P), out ++ P.flatten.map toB)
  | [], f, n, p, g0, g, out, hh, _, hf, hn, _, _ => by
    cases f with
    | zero => simp at hf
    | succ f =>
      simp only [List.length_nil] at hn
      rw [openA, if_neg (by omega), cont_readN hh, if_pos rfl]
      simp
  | ts :: r, f, n, p, g0, g, out, ⟨h1, h2⟩, hs, hf, hn, hg, hq => by
    cases f with
    | zero => simp at hf
    | succ f =>
      simp only [List.length_cons] at hf hn
      have hsm : ∀ d ∈ ts, d.length ≤ 1048576 := hs ts (by simp)
      have hr := cont_read h1
      rw [allI_part hg hsm] at hr
      have hlen : ((partB g0 ts).length : Int) ≤ 67108864 := h.len h1
      rw [openA, if_neg (by omega), hr]
      simp only
      rw [if_neg (by decide), if_neg (by decide), parseI_part hg]
      simp only
      rw [if_neg (by decide), if_neg (by decide), if_neg (fun hx => hx.2 (hq hx.1)), open_holds h r f (n + 1) n _ _ _ h2 (fun x hx => hs x (by simp [hx])) (by omega) (by omega) (by omega) (fun _ => rfl)]
      simp only [List.drop_succ_cons, List.drop_zero, List.flatten_cons, List.map_append, List.append_assoc, lastG]
      congr 1
      simp only [Prod.mk.injEq, true_and]
      cases r with
      | nil => exact ⟨by simp only [if_pos, List.length_singleton]; rw [if_neg (by simp)]; omega, by simp [lastG], trivial⟩
      | cons a b => exact ⟨by rw [if_neg (by simp), if_neg (by simp)]; simp only [List.length_cons]; omega, by rw [if_neg (by simp), if_neg (by simp)], trivial⟩

theorem Holds.drop {D : Dsk} : ∀ {P : List (List (List UInt8))} {n g : Int} (j : Nat), Holds D n g P → j ≤ P.length → Holds D (n + j) (lastG g (P.take j)) (P.drop j)
  | P, n, g, 0, h, _ => by simpa [lastG] using h
  | [], n, g, j + 1, h, hj => by simp at hj
  | ts :: r, n, g, j + 1, h, hj => by
    have := Holds.drop (P := r) j h.2 (by simpa using hj)
    simp only [List.take_succ_cons, List.drop_succ_cons, lastG]
    rw [show n + ((j + 1 : Nat) : Int) = n + 1 + j by omega]
    exact this

/-- Files that are not these parts may be others. -/
theorem Holds.mono {D D1 : Dsk} : ∀ {P : List (List (List UInt8))} {n g : Int}, Holds D n g P → (∀ i : Nat, i ≤ P.length → D1.cont (wname (n + i)) = D.cont (wname (n + i))) → Holds D1 n g P
  | [], n, g, h, hc => by
    have := hc 0 (Nat.le_refl _)
    simp only [Int.ofNat_zero, Int.natCast_zero, Int.add_zero] at this
    exact this.trans h
  | ts :: r, n, g, h, hc => by
    have h0 := hc 0 (Nat.zero_le _)
    simp only [Int.natCast_zero, Int.add_zero] at h0
    refine ⟨h0.trans h.1, Holds.mono h.2 fun i hi => ?_⟩
    have := hc (i + 1) (by simp; omega)
    rw [show n + ((i + 1 : Nat) : Int) = n + 1 + i by omega] at this
    exact this

theorem Holds.snoc {D : Dsk} : ∀ {P : List (List (List UInt8))} {n g : Int} {ts : List (List UInt8)}, Holds D n g (P ++ [ts]) ↔ ((∀ i : Nat, (hi : i < P.length) → D.cont (wname (n + i)) = some (partB (lastG g (P.take i)) P[i])) ∧ D.cont (wname (n + P.length)) = some (partB (lastG g P) ts) ∧ D.cont (wname (n + P.length + 1)) = none)
  | [], n, g, ts => by
    simp only [List.nil_append, Holds, List.length_nil, Int.natCast_zero, Int.add_zero, lastG]
    exact ⟨fun h => ⟨fun i hi => absurd hi (by omega), h⟩, fun h => h.2⟩
  | us :: r, n, g, ts => by
    have ih := Holds.snoc (D := D) (P := r) (n := n + 1) (g := (partB g us).length) (ts := ts)
    rw [List.cons_append, Holds, ih]
    have e1 : n + 1 + (r.length : Int) = n + ((us :: r).length : Int) := by simp only [List.length_cons]; omega
    rw [e1]
    constructor
    · rintro ⟨h0, h1, h2, h3⟩
      refine ⟨fun i hi => ?_, h2, h3⟩
      cases i with
      | zero => simpa [lastG] using h0
      | succ i =>
        have := h1 i (by simpa using hi)
        rw [show n + 1 + (i : Int) = n + ((i + 1 : Nat) : Int) by omega] at this
        simpa [lastG] using this
    · rintro ⟨h1, h2, h3⟩
      refine ⟨by have := h1 0 (by simp); simp only [Int.natCast_zero, Int.add_zero, List.take_zero, lastG] at this; exact this, fun i hi => ?_, h2, h3⟩
      have := h1 (i + 1) (by simpa using hi)
      rw [show n + ((i + 1 : Nat) : Int) = n + 1 + (i : Int) by omega] at this
      simpa [lastG] using this

theorem lastG_snoc (P : List (List (List UInt8))) (g : Int) (ts : List (List UInt8)) : lastG g (P ++ [ts]) = (partB (lastG g P) ts).length := by
  induction P generalizing g with
  | nil => rfl
  | cons a P ih => exact ih _

/-- What a log that is written to is: parts from the first on, each ahead of the last with what it had. -/
structure Wr (D : Dsk) (P : List (List (List UInt8))) : Prop where
  live : Live D
  holds : Holds D 1 0 P
  none : ∀ n : Int, P.length < n → n ≤ 1073741824 → D.cont (wname n) = Option.none
  sg : 0 ≤ lastG 0 P ∧ lastG 0 P ≤ 67108864

theorem lastG_b {P : List (List (List UInt8))} {g : Int} (h : 0 ≤ g) : 0 ≤ lastG g P := by
  induction P generalizing g with
  | nil => exact h
  | cons a P ih => exact ih (by omega)

theorem Wr.new {n : Int} : Wr (newD n) [] := ⟨live_new, rfl, fun m _ _ => rfl, by decide⟩

theorem recB_head {g : Int} (h : 0 ≤ g ∧ g ≤ 67108864) : (recB (putI g)).length ≤ 22 := by
  have := putN_len64 (n := g.toNat) (by omega)
  rw [recB_len]; unfold putI; omega

theorem Wr.sync {D : Dsk} {P : List (List (List UInt8))} (w : Wr D P) (hP : P ≠ []) : (syncD D (wname P.length)).2 = 0 ∧ Wr (syncD D (wname P.length)).1 P ∧ (syncD D (wname P.length)).1.used = D.used ∧ (syncD D (wname P.length)).1.room = D.room := by
  obtain ⟨Q, ts, rfl⟩ : ∃ Q ts, P = Q ++ [ts] := ⟨P.dropLast, P.getLast hP, (List.dropLast_concat_getLast hP).symm⟩
  obtain ⟨h1, h2, h3⟩ := Holds.snoc.1 w.holds
  have hl : ((Q ++ [ts]).length : Int) = 1 + Q.length := by simp; omega
  rw [hl]
  obtain ⟨s1, s2, s3, s4, s5⟩ := cont_sync w.live h2
  exact ⟨s1, ⟨s2, w.holds.mono fun i _ => s3 _, fun n hn hm => (s3 _).trans (w.none n hn hm), w.sg⟩, s4, s5⟩

/-- A part is begun. -/
theorem Wr.start {D : Dsk} {P : List (List (List UInt8))} (w : Wr D P) (hp : P.length < 1000) (hr : 22 ≤ D.room - D.used) :
    (0 < (P.length : Int) → (syncD D (wname P.length)).2 = 0) ∧ ((recB (putI (lastG 0 P))).length : Int) ≤ (syncIf D P.length).room - (syncIf D P.length).used ∧ (sizeD (syncIf D P.length) (wname (1 + P.length))).2 ≠ 0 ∧
    (createD (syncIf D P.length) (wname (1 + P.length))).2 = 0 ∧ (appendD (createD (syncIf D P.length) (wname (1 + P.length))).1 (wname (1 + P.length)) (recB (putI (lastG 0 P)))).2 = 0 ∧
    Wr (startD D P.length (lastG 0 P) (1 + P.length)) (P ++ [[]]) ∧ (startD D P.length (lastG 0 P) (1 + P.length)).used = D.used + (recB (putI (lastG 0 P))).length ∧ (startD D P.length (lastG 0 P) (1 + P.length)).room = D.room := by
  have hrl := recB_head w.sg
  have hsy : (0 < (P.length : Int) → (syncD D (wname P.length)).2 = 0) ∧ Wr (syncIf D P.length) P ∧ (syncIf D P.length).used = D.used ∧ (syncIf D P.length).room = D.room := by
    unfold syncIf
    split
    · rename_i h
      obtain ⟨s1, s2, s3, s4⟩ := w.sync (fun e => by rw [e] at h; simp at h)
      exact ⟨fun _ => s1, s2, s3, s4⟩
    · rename_i h
      exact ⟨fun h' => absurd h' h, w, rfl, rfl⟩
  obtain ⟨s0, w1, u1, r1⟩ := hsy
  have hno : (syncIf D P.length).cont (wname (1 + P.length)) = Option.none := w1.none _ (by omega) (by omega)
  obtain ⟨c1, c2, c3, c4, c5⟩ := cont_create w1.live (wname_is (n := 1 + P.length) (by omega)) hno
  have hc : (createD (syncIf D P.length) (wname (1 + P.length))).1.cont (wname (1 + P.length)) = some [] := by rw [c3, if_pos rfl]
  obtain ⟨a1, a2, a3, a4, a5⟩ := cont_append c2 (bs := recB (putI (lastG 0 P))) hc (by omega)
  refine ⟨s0, by omega, by rw [cont_size w1.live, if_pos hno]; decide, c1, a1, ?_, by unfold startD; omega, by unfold startD; omega⟩
  have hfin : ∀ m, (startD D P.length (lastG 0 P) (1 + P.length)).cont m = if wname (1 + P.length) = m then some (recB (putI (lastG 0 P))) else (syncIf D P.length).cont m := fun m => by
    unfold startD
    rw [a3, c3]
    split <;> rfl
  have hne : ∀ k : Int, 0 ≤ k → k ≠ 1 + P.length → wname (1 + P.length) ≠ wname k := fun k hk hne e => hne (wname_inj (by omega) hk e).symm
  have hlast : ((P ++ [[]]).length : Int) = 1 + P.length := by simp; omega
  refine ⟨a2, Holds.snoc.2 ⟨fun i hi => ?_, ?_, ?_⟩, fun n hn hm => ?_, ?_⟩
  · rw [hfin, if_neg (hne _ (by omega) (by omega))]
    have hd := Holds.drop i w1.holds (by omega)
    rw [List.drop_eq_getElem_cons hi] at hd
    exact hd.1
  · rw [hfin, if_pos rfl, partB_nil]
  · rw [hfin, if_neg (hne _ (by omega) (by omega))]
    exact w1.none _ (by omega) (by omega)
  · rw [hlast] at hn
    rw [hfin, if_neg (hne _ (by omega) (by omega))]
    exact w1.none _ (by omega) hm
  · rw [lastG_snoc, partB_nil]
    omega

/-- Something is written. -/
theorem Wr.add {D : Dsk} {P : List (List (List UInt8))} {ts : List (List UInt8)} {d : List UInt8} (w : Wr D (P ++ [ts])) (hp : P.length < 1000) (hr : ((recB d).length : Int) ≤ D.room - D.used) :
    (appendD D (wname (1 + P.length)) (recB d)).2 = 0 ∧ Wr (appendD D (wname (1 + P.length)) (recB d)).1 (P ++ [ts ++ [d]]) ∧ (appendD D (wname (1 + P.length)) (recB d)).1.used = D.used + (recB d).length ∧ (appendD D (wname (1 + P.length)) (recB d)).1.room = D.room ∧
    lastG 0 (P ++ [ts ++ [d]]) = lastG 0 (P ++ [ts]) + (recB d).length := by
  obtain ⟨h1, h2, h3⟩ := Holds.snoc.1 w.holds
  obtain ⟨a1, a2, a3, a4, a5⟩ := cont_append w.live (bs := recB d) h2 hr
  have hne : ∀ k : Int, 0 ≤ k → k ≠ 1 + P.length → wname (1 + P.length) ≠ wname k := fun k hk hne e => hne (wname_inj (by omega) hk e).symm
  have hpl : ∀ us : List (List UInt8), ((P ++ [us]).length : Int) = 1 + P.length := fun us => by simp; omega
  have hlast : lastG 0 (P ++ [ts ++ [d]]) = lastG 0 (P ++ [ts]) + (recB d).length := by
    rw [lastG_snoc, lastG_snoc, partB_snoc, List.length_append]; omega
  refine ⟨a1, ⟨a2, Holds.snoc.2 ⟨fun i hi => ?_, ?_, ?_⟩, fun n hn hm => ?_, ?_⟩, a4, a5, hlast⟩
  · rw [a3, if_neg (hne _ (by omega) (by omega))]; exact h1 i hi
  · rw [a3, if_pos rfl, partB_snoc]
  · rw [a3, if_neg (hne _ (by omega) (by omega))]; exact h3
  · rw [hpl] at hn
    rw [a3, if_neg (hne _ (by omega) (by omega))]
    exact w.none n (by rw [hpl]; omega) hm
  · refine ⟨lastG_b (Int.le_refl _), ?_⟩
    have hc : (appendD D (wname (1 + P.length)) (recB d)).1.cont (wname (1 + P.length)) = some (partB (lastG 0 P) (ts ++ [d])) := by rw [a3, if_pos rfl, partB_snoc]
    rw [lastG_snoc]
    exact a2.len hc

theorem Wr.open {D : Dsk} {P : List (List (List UInt8))} (w : Wr D P) (hs : Small P) (hp : P.length < 9) (j : Nat) (hj : j < P.length) :
    openA D (1 + j) 10 (1 + j) 0 0 [] = some (0, (P.length : Int), lastG 0 P, (P.drop j).flatten.map toB) := by
  have hd := Holds.drop j w.holds (by omega)
  have hg : 0 ≤ lastG 0 (P.take j) ∧ lastG 0 (P.take j) ≤ 67108864 := by
    refine ⟨lastG_b (Int.le_refl _), ?_⟩
    cases j with
    | zero => simp [lastG]
    | succ j =>
      have hd := Holds.drop j w.holds (by omega)
      rw [List.drop_eq_getElem_cons (by omega)] at hd
      have hc := hd.1
      have ht : P.take (j + 1) = P.take j ++ [P[j]] := by
        rw [List.take_add_one, List.getElem?_eq_getElem (by omega)]; rfl
      rw [ht, lastG_snoc]
      exact w.live.len hc
  have := open_holds w.live (frm := 1 + j) (P.drop j) 10 (1 + j) 0 (lastG 0 (P.take j)) 0 [] hd (fun ts ht => hs ts (List.mem_of_mem_drop ht)) (by rw [List.length_drop]; omega) (by rw [List.length_drop]; omega) hg (fun h => absurd h (by omega))
  have hne : P.drop j ≠ [] := by
    intro e
    have := congrArg List.length e
    rw [List.length_drop] at this
    simp at this; omega
  rw [this, if_neg hne, if_neg hne, List.length_drop]
  congr 1
  simp only [Prod.mk.injEq, true_and, List.nil_append, and_true]
  refine ⟨by omega, ?_⟩
  have key : ∀ (A B : List (List (List UInt8))) (g : Int), lastG (lastG g A) B = lastG g (A ++ B) := fun A => by
    induction A with
    | nil => intro B g; rfl
    | cons a A ih => intro B g; exact ih B _
  rw [key, List.take_append_drop]
end Go.Ax

namespace Go.Ax
open Go.Proofs Go.RowKit
set_option maxRecDepth 100000

section
variable {B : List Box} {b l : Nat} {D : Dsk} {P : List (List (List UInt8))} {ts : List (List UInt8)} {p g n : Int} {o : Bool} {s : ByteArray}
theorem Wr.oStart (w : Wr D P) (hp : p = P.length) (hg : g = lastG 0 P) (hn : n = 1 + p) (hlt : P.length < 1000) (hr : 22 ≤ D.room - D.used) (hb : B[b]? = some (dkB D)) (hl : B[l]? = some (logC b p g o)) :
    Δ7 iStart [.ptr l 0 0, vi n] B (vi 0) ((B.set b (dkB (startD D p g n))).set l (logC b n (recB (putI g)).length true)) ∧ Wr (startD D p g n) (P ++ [[]]) ∧ (startD D p g n).used = D.used + (recB (putI g)).length ∧ (startD D p g n).room = D.room ∧ lastG 0 (P ++ [[]]) = (recB (putI g)).length := by
  subst hp hg hn
  obtain ⟨s0, s1, s2, s3, s4, s5, s6, s7⟩ := w.start hlt hr
  exact ⟨.inl (Go.Ax.oStart w.live.ok w.live.up (by omega) w.sg (by omega) s0 s1 s2 s3 s4 hb hl), s5, s6, s7, by rw [lastG_snoc, partB_nil]⟩
theorem Wr.oStartF (w : Wr D P) (hp : p = P.length) (hlt : P.length < 1000) (hg : g = lastG 0 P) (hw : -9223372036854775808 ≤ n ∧ n ≤ 9223372036854775807) (hn : n < 1 ∨ 0 < p ∧ n ≤ p) (hb : B[b]? = some (dkB D)) (hl : B[l]? = some (logC b p g o)) :
    Δ7 iStart [.ptr l 0 0, vi n] B (vi 1) B := .inl (Go.Ax.oStartF w.live.ok w.live.up (by omega) (by rw [hg]; exact w.sg) hw hn hb hl)
theorem Wr.oAdd (w : Wr D (P ++ [ts])) (hp : p = 1 + P.length) (hg : g = lastG 0 (P ++ [ts])) (hlt : P.length < 1000) (hs : s.size ≤ 1048576) (hr : ((recB s.data.toList).length : Int) ≤ D.room - D.used) (hb : B[b]? = some (dkB D)) (hl : B[l]? = some (logC b p g true)) :
    Δ7 iAdd [.ptr l 0 0, vs s] B (vi 0) ((B.set b (dkB (appendD D (wname p) (recB s.data.toList)).1)).set l (logC b p (g + (recB s.data.toList).length) true)) ∧ Wr (appendD D (wname p) (recB s.data.toList)).1 (P ++ [ts ++ [s.data.toList]]) ∧
      (appendD D (wname p) (recB s.data.toList)).1.used = D.used + (recB s.data.toList).length ∧ (appendD D (wname p) (recB s.data.toList)).1.room = D.room ∧ lastG 0 (P ++ [ts ++ [s.data.toList]]) = g + (recB s.data.toList).length := by
  subst hp hg
  obtain ⟨a1, a2, a3, a4, a5⟩ := w.add (d := s.data.toList) hlt hr
  have := Go.Ax.oAdd (s := s) w.live.ok (p := 1 + P.length) (by omega) (g := lastG 0 (P ++ [ts])) (by have := w.sg; omega) hs hb hl
  unfold addG at this
  rw [a1, if_pos rfl] at this
  exact ⟨.inl this, a2, a3, a4, a5⟩
theorem Wr.oAddFull (w : Wr D (P ++ [ts])) (hp : p = 1 + P.length) (hg : g = lastG 0 (P ++ [ts])) (hlt : P.length < 1000) (hs : s.size ≤ 1048576) (hr : ¬ ((recB s.data.toList).length : Int) ≤ D.room - D.used) (hb : B[b]? = some (dkB D)) (hl : B[l]? = some (logC b p g true)) :
    appendD D (wname p) (recB s.data.toList) = (D, 11) ∧ addG D p g s = g := by
  subst hp hg
  obtain ⟨h1, h2, h3⟩ := Holds.snoc.1 w.holds
  have e := cont_full w.live h2 hr
  exact ⟨e, by unfold addG; rw [e]; rfl⟩
theorem Wr.oOpen (w : Wr D P) (hs : Small P) (hp : P.length < 9) {j : Nat} (hj : j < P.length) (hn : n = 1 + j) (hb : B[b]? = some (dkB D)) :
    Δ7 iOpen [.op b, vi n] B (.tup [.ptr B.length 0 0, .rs (B.length + 1) 0 1 0 ((P.drop j).flatten.map toB).length, vi 0]) (B ++ [logC b P.length (lastG 0 P) false, nameE.bx 0 ((P.drop j).flatten.map toB)]) := by
  subst hn
  exact .inl (Go.Ax.oOpen w.live.ok w.live.up (by omega) (w.open hs hp j hj) hb)
theorem oOpenNew {m : Int} (hb : B[b]? = some (dkB (newD m))) : Δ7 iOpen [.op b, vi 1] B (.tup [.ptr B.length 0 0, .rs (B.length + 1) 0 1 0 ([] : List ByteArray).length, vi 0]) (B ++ [logC b 0 0 false, nameE.bx 0 []]) := by
  refine .inl (Go.Ax.oOpen (newD_ok m) rfl (by decide) ?_ hb)
  rw [openA, if_neg (by decide), cont_readN (D := newD m) (n := 1) rfl, if_pos rfl]
end

theorem dec_lt {u : Nat} (h : u < 10) : Lib.decDigits u = [UInt8.ofNat (48 + u)] := by rw [Lib.decDigits, dif_pos h]
theorem wname_digit {n : Int} (h : 0 ≤ n ∧ n < 10) : wname n = toB [108, 111, 103, 46, UInt8.ofNat (48 + n.toNat)] := by
  apply ByteArray.ext
  apply Array.toList_inj.mp
  rw [wname_list h.1, dec_lt (by omega)]
  rfl
theorem wname_1 : wname 1 = (⟨#[108, 111, 103, 46, 49]⟩ : ByteArray) := wname_digit (by decide)
theorem wname_7 : wname 7 = (⟨#[108, 111, 103, 46, 55]⟩ : ByteArray) := wname_digit (by decide)

def RHeadL : List AV → AV → Prop := fun args r => args = [] ∧ r = vb true
noncomputable def gHeadL := relG RHeadL
theorem SHeadL : SoundF DP iHeadL (.pure gHeadL) := sound_pureT mixedD Γ7h_ok Δ7_ok hfHeadL heHeadL hbHeadL (by
  rintro args r ⟨rfl, rfl⟩
  let A : ByteArray := ⟨#[97]⟩
  let C : ByteArray := ⟨#[98]⟩
  have w0 : Wr (newD 1000) [] := .new
  obtain ⟨c1, w1, u1, r1, l1⟩ := w0.oStart (B := [dkB (newD 1000), logC 0 0 0 false, nameE.bx 0 []]) (b := 0) (l := 1) (p := 0) (g := 0) (n := 1) (o := false) rfl rfl rfl (by decide) (by decide) rfl rfl
  have hu0 : (newD 1000).used = 0 := rfl
  have hr0 : (newD 1000).room = 1000 := rfl
  have hA : (recB A.data.toList).length = 13 := recB_len _
  have hC : (recB C.data.toList).length = 13 := recB_len _
  have hh := recB_head (g := 0) (by decide)
  obtain ⟨c2, w2, u2, r2, l2⟩ := Wr.oAdd (P := []) (ts := []) (s := A) w1 (B := [dkB (startD (newD 1000) 0 0 1), logC 0 1 (recB (putI 0)).length true, nameE.bx 0 []]) (b := 0) (l := 1) (p := 1) rfl l1.symm (by decide) (by decide) (by rw [u1, r1, hA]; omega) rfl rfl
  obtain ⟨c3, w3, u3, r3, l3⟩ := Wr.oAdd (P := []) (ts := [A.data.toList]) (s := C) w2 (B := [dkB (appendD (startD (newD 1000) 0 0 1) (wname 1) (recB A.data.toList)).1, logC 0 1 ((recB (putI 0)).length + (recB A.data.toList).length) true, nameE.bx 0 []]) (b := 0) (l := 1) (p := 1) rfl l2.symm (by decide) (by decide) (by rw [u2, r2, u1, r1, hA, hC]; omega) rfl rfl
  obtain ⟨s1, w4, u4, r4⟩ := w3.sync (by simp)
  change (syncD _ (wname 1)).2 = 0 at s1
  change Wr (syncD _ (wname 1)).1 _ at w4
  have c4 := oSync (nm := wname 1) w3.live.ok (B := [dkB (appendD (appendD (startD (newD 1000) 0 0 1) (wname 1) (recB A.data.toList)).1 (wname 1) (recB C.data.toList)).1, logC 0 1 ((recB (putI 0)).length + (recB A.data.toList).length + (recB C.data.toList).length) true, nameE.bx 0 []]) (b := 0) rfl
  rw [s1] at c4
  have hsm : Small ([] ++ [[] ++ [A.data.toList] ++ [C.data.toList]]) := by
    intro ts ht d hd
    simp at ht
    subst ht
    simp at hd
    rcases hd with rfl | rfl <;> decide
  have c5 := w4.oOpen (B := [dkB (syncD (appendD (appendD (startD (newD 1000) 0 0 1) (wname 1) (recB A.data.toList)).1 (wname 1) (recB C.data.toList)).1 (wname 1)).1, logC 0 1 ((recB (putI 0)).length + (recB A.data.toList).length + (recB C.data.toList).length) true, nameE.bx 0 []]) (b := 0) (n := 1) hsm (by decide) (j := 0) (by decide) rfl rfl
  rw [l3] at c5
  rw [wname_1] at c4
  refine ⟨rfl, rfl, _, THeadL_chk (newD 1000) (startD (newD 1000) 0 0 1) (appendD (startD (newD 1000) 0 0 1) (wname 1) (recB A.data.toList)).1 (appendD (appendD (startD (newD 1000) 0 0 1) (wname 1) (recB A.data.toList)).1 (wname 1) (recB C.data.toList)).1
    (syncD (appendD (appendD (startD (newD 1000) 0 0 1) (wname 1) (recB A.data.toList)).1 (wname 1) (recB C.data.toList)).1 (wname 1)).1 (recB (putI 0)).length ((recB (putI 0)).length + (recB A.data.toList).length) ((recB (putI 0)).length + (recB A.data.toList).length + (recB C.data.toList).length), ?_⟩
  unfold THeadL
  refine wp_callr (oNew 1000) (wp_callr (oOpenNew rfl) (wp_sp (fun h => absurd h (by decide)) (fun _ => wp_callr c1 (wp_callr c2 (wp_callr c3 (wp_callr ?_ (wp_callr c5 ?_)))))))
  · rw [wname_1]; exact c4
  refine wp_sp (fun _ => wp_ridx (by decide) (by decide) (wp_rload A (by decide) rfl rfl (wp_sp (fun _ => wp_ridx (by decide) (by decide) (wp_rload C (by decide) rfl rfl (wp_sp (fun _ => wp_call (gNameW_eq (by decide)) (wp_leaf rfl ?_)) (fun h => absurd h (by simp [C]))))) (fun h => absurd h (by simp [A]))))) (fun h => absurd h (by decide))
  rw [wname_7, beq_self_eq_true]
  exact .p _)
theorem gHeadL_eq : gHeadL [] = some (vb true) := relG_eq (fun _ _ _ h1 h2 => h1.2.trans h2.2.symm) ⟨rfl, rfl⟩

noncomputable def Γ7 : Env := envP [(iNameW, gNameW), (iHeadL, gHeadL)]
theorem Γ7_ok : ∀ f, SoundF DP f (Γ7 f) := envP_cons SNameW (envP_cons SHeadL envP_nil)
end Go.Ax
