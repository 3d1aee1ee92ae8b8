/- Kinds for the law of LevelKeeps. -/
import Derived.Test.YtgbmmmglilpdjaaTx8
import Derived.Test.YtgbmmmglilpdjaaDr2
import Derived.Test.YtgbmmmglilpdjaaLv7
set_option linter.unusedVariables false
set_option linter.unusedSimpArgs false
namespace Go.Ax
open Go.Proofs Go.RowKit
set_option maxRecDepth 100000

def entE : Enc Ent := ⟨Ent.pv, 4, fun _ => rfl, fun _ => rfl⟩
def u64E : Enc Int := ⟨fun e => .v (.int .u64 e), 1, fun _ => rfl, fun _ => rfl⟩
def Δ0 : REnv := fun _ _ _ _ _ => False
theorem Δ0_ok {P : Program} : ∀ f, SoundR P f (Δ0 f) := fun f => .none f

end Go.Ax

namespace Go.Ax
open Go.Proofs Go.RowKit
set_option maxRecDepth 100000

noncomputable def T12_l1_e (L : List Ent) (key : ByteArray) (sq : Int) (s1 : Int) : St := ([(1, vs key), (2, vn .u64 sq), (6, .ptr 1 0 0), (10, .rs 0 0 4 0 L.length), (11, vi ((L.length : Nat) : Int)), (12, vi s1)], [entE.bx 0 L, .cells false 0 ([vs (⟨#[]⟩), vn .u64 0, vb false, vs (⟨#[]⟩)])])
noncomputable def T12_l1_x (L : List Ent) (key : ByteArray) (x1 : Bool × Ent) : AE × St := (.ret, ([(6, .ptr 1 0 0), (7, vb x1.1)], [entE.bx 0 L, .cells false 0 ([vs x1.2.key, vn .u64 x1.2.seq, vb x1.2.del, vs x1.2.val])]))
noncomputable def T12_l1_x' (L : List Ent) (y1 : Unit) : AE × St := ((.exit 0), ([(6, .ptr 1 0 0)], [entE.bx 0 L, .cells false 0 ([vs (⟨#[]⟩), vn .u64 0, vb false, vs (⟨#[]⟩)])]))
noncomputable def T12_j2_e (L : List Ent) (key : ByteArray) (e1 : Ent) (j2 : Unit) : St := ([(6, .ptr 1 0 0), (7, vb (!e1.del))], [entE.bx 0 L, .cells false 0 ([vs e1.key, vn .u64 e1.seq, vb e1.del, vs e1.val])])
noncomputable def T12_j2 (L : List Ent) (key : ByteArray) (e1 : Ent) (j2 : Unit) : Tree :=
.leaf ⟨[6, 7], [(0, 0, some (L.map entE.f)), (1, 0, none)]⟩ [rowC (L.map entE.f)] .ret (some (T12_l1_x L key ((!e1.del), e1)).2)
noncomputable def T12_l1_b (L : List Ent) (key : ByteArray) (sq : Int) (s1 : Int) : Tree :=
.sp 13 (decide (s1 < ((L.length : Nat) : Int))) (
.ridx 14 L.length s1 (.rload 15 (rowC (L.map entE.f)) (0 + Int.toNat s1 * 4) entE L s1 0 (fun e1 => .sp 19 (e1.key.toList == key.toList) (
.sp 24 (decide (e1.seq ≤ sq)) (
.fork (
.join ⟨[6, 7], [(0, 0, some (L.map entE.f)), (1, 0, none)]⟩ [rowC (L.map entE.f)] (some (T12_j2_e L key e1 ())) (T12_j2_e L key e1) () (T12_j2 L key e1)) (
.join ⟨[6, 7], [(0, 0, some (L.map entE.f)), (1, 0, none)]⟩ [rowC (L.map entE.f)] (some (T12_j2_e L key e1 ())) (T12_j2_e L key e1) () (T12_j2 L key e1))) (
.int 30 (IntKind.i64.wrap (s1 + 1)) (s1 + 1) (.leaf ⟨[1, 2, 6, 10, 11, 12], [(0, 0, some (L.map entE.f)), (1, 0, none)]⟩ [rowC (L.map entE.f)] .normal (some (T12_l1_e L key sq (s1 + 1)))))) (
.int 30 (IntKind.i64.wrap (s1 + 1)) (s1 + 1) (.leaf ⟨[1, 2, 6, 10, 11, 12], [(0, 0, some (L.map entE.f)), (1, 0, none)]⟩ [rowC (L.map entE.f)] .normal (some (T12_l1_e L key sq (s1 + 1)))))))) (
.leaf ⟨[6], [(0, 0, some (L.map entE.f)), (1, 0, none)]⟩ [rowC (L.map entE.f)] (.exit 0) (some (T12_l1_x' L ()).2))
noncomputable def T12 (L : List Ent) (key : ByteArray) (sq : Int) : Tree :=
.loop ⟨[1, 2, 6, 10, 11, 12], [(0, 0, some (L.map entE.f)), (1, 0, none)]⟩ [rowC (L.map entE.f)] (some (T12_l1_e L key sq 0)) (T12_l1_e L key sq) (T12_l1_x L key) (T12_l1_x' L) 0 (T12_l1_b L key sq) (fun (x1 : Bool × Ent) => .leaf ⟨[0], [(0, 0, some (L.map entE.f))]⟩ [rowC (L.map entE.f)] .ret (some ([(0, .tup [(entE.av x1.2), vb x1.1])], [entE.bx 0 L]))) (fun (y1 : Unit) => .leaf ⟨[0], [(0, 0, some (L.map entE.f))]⟩ [rowC (L.map entE.f)] .ret (some ([(0, .tup [.agg [vs (⟨#[]⟩), vn .u64 0, vb false, vs (⟨#[]⟩)], vb false])], [entE.bx 0 L])))

theorem T12_chk (L : List Ent) (key : ByteArray) (sq : Int) : fnC LP Γ0 Δ0 Try.f12 [.rs 0 0 4 0 L.length, vs key, vn .u64 sq] [entE.bx 0 L] (T12 L key sq) = T12 L key sq := by kernel_rfl

end Go.Ax

namespace Go.Ax
open Go.Proofs Go.RowKit
set_option maxRecDepth 100000

theorem wp_fork {x y : Tree} {K : AE → St → Prop} (h : x.wp K) (g : y.wp K) : (Tree.fork x y).wp K := ⟨h, g⟩
theorem wp_callr {d : Option Nat} {p : Prop} {v : AV} {B : List Box} {k : Tree} {K : AE → St → Prop} (hp : p) (h : k.wp K) : (Tree.callr d p v B k).wp K := ⟨hp, h⟩
theorem wp_go {k : Tree} {K : AE → St → Prop} (h : k.wp K) : (Tree.go k).wp K := h

/-- Is an entry one of a key, that is seen by a number? -/
def seesB (key : ByteArray) (sq : Int) (e : Ent) : Bool := e.key.toList == key.toList && decide (e.seq ≤ sq)
def seenL (L : List Ent) (key : ByteArray) (sq : Int) : Ent × Bool := match L.find? (seesB key sq) with
  | some e => (e, !e.del)
  | none => (⟨⟨#[]⟩, 0, false, ⟨#[]⟩⟩, false)

theorem T12_l1 (L : List Ent) (key : ByteArray) (sq : Int) (hL : L.length ≤ 1000000) : ∀ (suf pre : List Ent), L = pre ++ suf →
    Rounds (T12_l1_e L key sq) (T12_l1_x L key) (T12_l1_x' L) (fun s => (T12_l1_b L key sq s).wp) (pre.length : Int) (match suf.find? (seesB key sq) with | some e => .inl (!e.del, e) | none => .inr ())
  | [], pre, h => by
    have e : L.length = pre.length := by rw [h]; simp
    refine .done' (by simp [T12_l1_x']) ?_
    unfold T12_l1_b
    exact wp_sp (fun h => by have := of_decide_eq_true h; omega) (fun _ => wp_leaf rfl ⟨rfl, rfl⟩)
  | m :: suf, pre, h => by
    have e : L.length = pre.length + (suf.length + 1) := by rw [h]; simp
    have hm : L[Int.toNat (pre.length : Int)]? = some m := by rw [h]; simp
    have ih := T12_l1 L key sq hL suf (pre ++ [m]) (by rw [h]; simp)
    have hlen : ((pre ++ [m]).length : Int) = (pre.length : Int) + 1 := by simp
    rw [hlen] at ih
    cases hs : seesB key sq m with
    | true =>
      rw [List.find?_cons_of_pos hs]
      unfold seesB at hs
      rw [Bool.and_eq_true] at hs
      refine .done (by simp [T12_l1_x]) ?_
      unfold T12_l1_b
      exact wp_sp (fun _ => wp_ridx (by omega) (by omega) (wp_rload m (by omega) rfl hm (wp_sp (fun _ => wp_sp (fun _ => wp_fork (wp_join rfl (by unfold T12_j2; exact wp_leaf rfl ⟨rfl, rfl⟩)) (wp_join rfl (by unfold T12_j2; exact wp_leaf rfl ⟨rfl, rfl⟩))) (fun h => by rw [hs.2] at h; cases h)) (fun h => by rw [hs.1] at h; cases h)))) (fun h => by have := of_decide_eq_false h; omega)
    | false =>
      rw [List.find?_cons_of_neg (by simp [hs])]
      unfold seesB at hs
      refine .next ?_ ih
      unfold T12_l1_b
      refine wp_sp (fun _ => wp_ridx (by omega) (by omega) (wp_rload m (by omega) rfl hm (wp_sp (fun a => wp_sp (fun b => ?_) (fun _ => ?_)) (fun _ => ?_)))) (fun h => by have := of_decide_eq_false h; omega)
      · rw [a, b] at hs; cases hs
      all_goals exact wp_i64 (by omega) (wp_leaf rfl ⟨rfl, rfl⟩)

theorem T12_wp (L : List Ent) (key : ByteArray) (sq : Int) (hL : L.length ≤ 1000000) {K : AE → St → Prop} (h : K .ret ([(0, .tup [entE.av (seenL L key sq).1, vb (seenL L key sq).2])], [entE.bx 0 L])) : (T12 L key sq).wp K := by
  have l := T12_l1 L key sq hL L [] rfl
  unfold seenL at h
  unfold T12
  cases hf : L.find? (seesB key sq) with
  | some e =>
    rw [hf] at h l
    exact wp_loop _ rfl l (wp_leaf rfl h)
  | none =>
    rw [hf] at h l
    exact wp_loop' _ rfl l (wp_leaf rfl h)

def R12 : RSpec := fun args B r B' => ∃ (L : List Ent) (key : ByteArray) (sq : Int), L.length ≤ 1000000 ∧ args = [.rs 0 0 4 0 L.length, vs key, vn .u64 sq] ∧ B = [entE.bx 0 L] ∧ r = .tup [entE.av (seenL L key sq).1, vb (seenL L key sq).2] ∧ B' = B
theorem R12_ok : SoundR LP 12 R12 := sound_genT (Γ := Γ0) (Δ := Δ0) (fn := Try.f12) mixedL (fun f => sound_none f) Δ0_ok (by kernel_rfl) (by kernel_rfl) (by kernel_rfl) (by
  rintro args B r B' ⟨L, key, sq, hL, rfl, rfl, rfl, rfl⟩
  exact ⟨rfl, _, T12_chk L key sq, T12_wp L key sq hL ⟨rfl, rfl⟩⟩)

noncomputable def Γ3 : Env := envOf [(8, .pure gHead), (9, .pure gBig), (10, .pure gOrder), (11, .pure gKeep)]
theorem Γ3_ok : ∀ f, SoundF LP f (Γ3 f) := env_sound (by simp [sound8, sound9, sound10, sound11])
def Δ3 : REnv := fun f => bif Nat.beq f 12 then liftR R12 else fun _ _ _ _ => False
theorem Δ3_ok : ∀ f, SoundR LP f (Δ3 f) := fun f => by
  unfold Δ3
  cases h : Nat.beq f 12 with
  | true => have := Nat.eq_of_beq_eq_true h; subst this; exact lift_sound R12_ok
  | false => exact .none f

end Go.Ax
