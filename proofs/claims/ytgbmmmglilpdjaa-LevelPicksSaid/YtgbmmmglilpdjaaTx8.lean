/- How a tree is gone through. -/
import Derived.Test.YtgbmmmglilpdjaaTx7
set_option linter.unusedVariables false
set_option linter.unusedSimpArgs false
namespace Go.Ax
open Go.RowKit
set_option maxRecDepth 100000

/-! ### How a tree is gone through -/
theorem wp_leaf {W : Wd} {olds : List (List AV)} {e : AE} {c : St} {K : AE → St → Prop} (ho : oldsOk W olds) (h : K e c) : (Tree.leaf W olds e (some c)).wp K := ⟨ho, c, rfl, h⟩
theorem wp_sp {d : Nat} {b : Bool} {x y : Tree} {K : AE → St → Prop} (hx : b = true → x.wp K) (hy : b = false → y.wp K) : (Tree.sp d b x y).wp K := ⟨hx, hy⟩
theorem wp_i64 {d : Nat} {z : Int} {k : Tree} {K : AE → St → Prop} (hz : -9223372036854775808 ≤ z ∧ z < 9223372036854775808) (h : k.wp K) : (Tree.int d (IntKind.i64.wrap z) z k).wp K := ⟨wrap_i64 hz, h⟩
theorem wp_len {α β : Type} {d : Nat} {L : List α} {f : α → β} {k : Tree} {K : AE → St → Prop} (h : k.wp K) : (Tree.int d ((L.map f).length : Int) (L.length : Int) k).wp K := ⟨by simp, h⟩
theorem wp_elem {α : Type} {d : Nat} {E : Enc α} {L : List α} {i : Int} {k : α → Tree} {K : AE → St → Prop} (a : α) (h0 : 0 ≤ i) (ha : L[i.toNat]? = some a) (h : (k a).wp K) : (Tree.elem d (L.map E.f) E L i k).wp K := ⟨rfl, h0, a, ha, h⟩
theorem wp_elemk {α : Type} {d : Nat} {E : Enc α} {L : List α} {i : Int} {a : α} {k : Tree} {K : AE → St → Prop} (h0 : 0 ≤ i) (ha : L[i.toNat]? = some a) (h : k.wp K) : (Tree.elemk d (L.map E.f) E L i a k).wp K := ⟨rfl, h0, ha, h⟩
theorem wp_cut {α : Type} {d : Nat} {lo hi : Option Int} {E : Enc α} {L : List α} {k : Tree} {K : AE → St → Prop} (h0 : cutOk lo hi L.length) (h : k.wp K) : (Tree.cut d (L.map E.f) lo hi E L k).wp K := ⟨rfl, h0, h⟩
theorem wp_join {σ : Type} {W : Wd} {olds : List (List AV)} {E : σ → St} {s0 : σ} {k : σ → Tree} {K : AE → St → Prop} (ho : oldsOk W olds) (h : (k s0).wp K) : (Tree.join W olds (some (E s0)) E s0 k).wp K := ⟨ho, rfl, h⟩
theorem wp_loop {σ ε ε' : Type} {W : Wd} {olds : List (List AV)} {E : σ → St} {X : ε → AE × St} {X' : ε' → AE × St} {s0 : σ} {body : σ → Tree} {k : ε → Tree} {k' : ε' → Tree} {K : AE → St → Prop} (x : ε) (ho : oldsOk W olds)
    (hr : Rounds E X X' (fun s => (body s).wp) s0 (.inl x)) (h : (k x).wp K) : (Tree.loop W olds (some (E s0)) E X X' s0 body k k').wp K := ⟨ho, rfl, .inl ⟨x, hr, h⟩⟩
theorem wp_loop' {σ ε ε' : Type} {W : Wd} {olds : List (List AV)} {E : σ → St} {X : ε → AE × St} {X' : ε' → AE × St} {s0 : σ} {body : σ → Tree} {k : ε → Tree} {k' : ε' → Tree} {K : AE → St → Prop} (x : ε') (ho : oldsOk W olds)
    (hr : Rounds E X X' (fun s => (body s).wp) s0 (.inr x)) (h : (k' x).wp K) : (Tree.loop W olds (some (E s0)) E X X' s0 body k k').wp K := ⟨ho, rfl, .inr ⟨x, hr, h⟩⟩


theorem wp_ridx {d len : Nat} {i : Int} {k : Tree} {K : AE → St → Prop} (h0 : 0 ≤ i) (h1 : i < (len : Int)) (h : k.wp K) : (Tree.ridx d len i k).wp K := ⟨h0, h1, h⟩
theorem wp_rload {α : Type} {d off : Nat} {E : Enc α} {L : List α} {i : Int} {q : Nat} {k : α → Tree} {K : AE → St → Prop} (a : α) (h0 : 0 ≤ i) (ho : off = 0 + i.toNat * E.sz + q) (ha : L[i.toNat]? = some a) (h : (k a).wp K) : (Tree.rload d (rowC (L.map E.f)) off E L i q k).wp K := ⟨rfl, h0, ho, a, ha, h⟩
theorem wp_rstore {α : Type} {d : Option Nat} {off : Nat} {new : List AV} {E : Enc α} {L : List α} {i : Int} {a : α} {k : Tree} {K : AE → St → Prop} (h0 : 0 ≤ i) (h1 : i < (L.length : Int)) (ho : off = 0 + i.toNat * E.sz) (hn : new = (E.f a).cells.map .p) (h : k.wp K) : (Tree.rstore d (rowC (L.map E.f)) off new E L i a k).wp K := ⟨rfl, h0, h1, ho, hn, h⟩
theorem wp_u64 {d : Nat} {z : Int} {k : Tree} {K : AE → St → Prop} (hz : 0 ≤ z ∧ z < 9223372036854775808) (h : k.wp K) : (Tree.int d (IntKind.u64.wrap z) z k).wp K := by
  refine ⟨?_, h⟩
  show (if (false && decide (z % 2 ^ 64 ≥ 2 ^ 63)) = true then z % 2 ^ 64 - 2 ^ 64 else z % 2 ^ 64) = z
  rw [Bool.false_and, if_neg (by simp)]
  omega
theorem wp_val {d : Option Nat} {p : Prop} {v : AV} {B : List Box} {k : Tree} {K : AE → St → Prop} (hp : p) (h : k.wp K) : (Tree.val d p v B k).wp K := ⟨hp, h⟩
theorem wp_call {d : Nat} {p : Prop} {v : AV} {k : Tree} {K : AE → St → Prop} (hp : p) (h : k.wp K) : (Tree.call d p v k).wp K := ⟨hp, h⟩
theorem wp_callx {β : Type} {d : Option Nat} {p : β → Prop} {v : β → AV} {B : β → List Box} {k : β → Tree} {K : AE → St → Prop} (y : β) (hp : p y) (h : (k y).wp K) : (Tree.callx d p v B k).wp K := ⟨y, hp, h⟩
theorem wp_br {b : Bool} {x y : Tree} {K : AE → St → Prop} (hx : b = true → x.wp K) (hy : b = false → y.wp K) : (Tree.br b x y).wp K := ⟨hx, hy⟩
theorem wp_app {α : Type} {d : Nat} {src : ASrc} {len : Nat} {E : Enc α} {L M : List α} {k : Tree} {K : AE → St → Prop} (h0 : src.ok E M) (h1 : len = L.length) (h2 : ((L ++ M).length : Int) ≤ 1000000000) (h : k.wp K) : (Tree.app d src len (rowC (L.map E.f)) E L M k).wp K := ⟨h0, h1, rfl, h2, h⟩
theorem wp_appn {α : Type} {d : Nat} {src : ASrc} {E : Enc α} {M : List α} {k : Tree} {K : AE → St → Prop} (h0 : src.ok E M) (h2 : (M.length : Int) ≤ 1000000000) (h : k.wp K) : (Tree.appn d src E M k).wp K := ⟨h0, h2, h⟩

end Go.Ax
