/- The check of trees: what a tree says is what code comes to. -/
import Derived.Test.YtnhhaidlpbkmjaaBt2
set_option linter.unusedVariables false
set_option linter.unusedSimpArgs false
set_option linter.unusedSectionVars false
namespace Go.Ax
open Go.RowKit

variable [Glob] {P : Program} {Γ : Env} {n m0 : Nat} {K : AE → St → Prop}

theorem cond_wp {b : Bool} {x y : Tree} (h : (cond b x y).wp K) : (b = true ∧ x.wp K) ∨ (b = false ∧ y.wp K) := by
  cases b with
  | true => exact .inl ⟨rfl, h⟩
  | false => exact .inr ⟨rfl, h⟩

theorem putC_wp {s : AS} {d : Option Nat} {v : AV} {B : List Box} {κ : AS → Tree} (h : (putC n s d v B κ).wp K) : ∃ t', putA n s.t d v = some t' ∧ (κ ⟨t', B⟩).wp K := by
  unfold putC at h
  split at h
  · rename_i t' ht; exact ⟨t', ht, h⟩
  · exact h.elim

/-- The operation is carried out, and the rest is told. -/
def Good (P : Program) (Γ : Env) (n : Nat) (K : AE → St → Prop) (o : Oper) (s : AS) (κ : AS → Tree → Tree) : Prop :=
  ∃ v B t' T', opA P Γ s.t s.B o.op = some (v, B) ∧ putA n s.t o.dst v = some t' ∧ (κ ⟨t', B⟩ T').wp K

theorem good_putC {o : Oper} {s : AS} {κ : AS → Tree → Tree} {v : AV} {B : List Box} {T : Tree} (h : opA P Γ s.t s.B o.op = some (v, B)) (hp : (putC n s o.dst v B fun s' => κ s' T).wp K) : Good P Γ n K o s κ := by
  obtain ⟨t', h1, h2⟩ := putC_wp hp
  exact ⟨v, B, t', T, h, h1, h2⟩

theorem good_put {o : Oper} {s : AS} {κ : AS → Tree → Tree} {v : AV} {B : List Box} {T : Tree} (h : opA P Γ s.t s.B o.op = some (v, B)) (hp : (putS n s o.dst v B T κ).wp K) : Good P Γ n K o s κ := by
  unfold putS at hp
  split at hp
  · rename_i d' b x y
    have hh := cond_wp hp
    clear hp
    rcases hh with ⟨_, hp⟩ | ⟨_, hp⟩
    · split at hp
      · rename_i q
        cases q with
        | true => exact good_putC h (hp.1 rfl)
        | false => exact good_putC h (hp.2 rfl)
      · exact hp.elim
    · exact good_putC h hp
  · exact good_putC h hp

theorem good_plain {o : Oper} {s : AS} {κ : AS → Tree → Tree} {T : Tree} (hp : (plainC P Γ n o s T κ).wp K) : Good P Γ n K o s κ := by
  unfold plainC at hp
  split at hp
  · rename_i v B h; exact good_put h hp
  · exact hp.elim

theorem mkA_cells {t : TypeId} {α : Type} {E : Enc α} {L : List α} {i : Int} {a : α} {q : Nat} {v : AV} (hi : L[i.toNat]? = some a) (h : mkA P t (((E.f a).cells.drop q).map .p) = some v) :
    mkA P t ((rowC (L.map E.f)).drop (0 + i.toNat * E.sz + q)) = some v := by
  have key : ∀ k, k < ((E.f a).cells.drop q).length → ((rowC (L.map E.f)).drop (0 + i.toNat * E.sz + q))[k]? = (((E.f a).cells.drop q).map AV.p)[k]? := by
    intro k hk
    have hk' : q + k < E.sz := by rw [List.length_drop, E.size] at hk; omega
    rw [List.getElem?_drop, List.getElem?_map, List.getElem?_drop]
    unfold rowC
    rw [List.getElem?_map, show 0 + i.toNat * E.sz + q + k = i.toNat * E.sz + (q + k) by omega, E.elt.flatGet L _ (q + k) a hi hk']
  have hlen : ((E.f a).cells.drop q).length ≤ ((rowC (L.map E.f)).drop (0 + i.toNat * E.sz + q)).length := by
    rcases Nat.lt_or_ge ((rowC (L.map E.f)).drop (0 + i.toNat * E.sz + q)).length ((E.f a).cells.drop q).length with hlt | hge
    · have := key _ hlt
      rw [List.getElem?_eq_none (Nat.le_refl _), List.getElem?_map, List.getElem?_eq_getElem hlt] at this
      cases this
    · exact hge
  unfold mkA at h ⊢
  split at h
  · cases h
  · rename_i hu
    rw [if_neg hu]
    split at h
    · rename_i ha
      rw [if_pos ha]
      obtain ⟨m, hm, h2⟩ := Option.bind_eq_some_iff.1 h
      rw [hm]
      simp only [Option.bind_some]
      split at h2
      · rename_i hle
        cases h2
        rw [List.length_map] at hle
        rw [if_pos (by omega)]
        congr 2
        apply List.ext_getElem?
        intro k
        rw [List.getElem?_take, List.getElem?_take]
        split
        · exact key k (by omega)
        · rfl
      · cases h2
    · rename_i ha
      rw [if_neg ha]
      rw [List.head?_eq_getElem?] at h ⊢
      rw [key 0 ?_]
      · exact h
      · have := (List.getElem?_eq_some_iff.1 h).1
        simpa using this

theorem rowTyC_spec {t : TypeId} {sz : Nat} (h : rowTyC P t sz = true) : ∃ e bytes, RowTy P t e sz bytes ∧ bytes ≤ 140000 := by
  unfold rowTyC at h
  split at h
  · rename_i e he
    split at h
    · rename_i m i z h1 h2 h3
      simp only [Bool.and_eq_true, Nat.ble_eq, Bool.not_eq_true'] at h
      obtain ⟨⟨⟨⟨g1, g2⟩, g3⟩, g4⟩, g5⟩ := h
      have g1 := Nat.eq_of_beq_eq_true g1
      subst g1
      have g4 := Nat.eq_of_beq_eq_true g4
      refine ⟨e, i.bytes, ⟨he, h1, by rw [h2]; rfl, ?_⟩, g2⟩
      rw [h3]
      simp only [Option.map_some, g4, g5, g3]
      simp
    · cases h
  · cases h

theorem src_part {t e bytes sz : Nat} (ht : RowTy P t e sz bytes) {B : List Box} {b v off len : Nat} {row : Bool} {cs : List AV} (hb : B[b]? = some (.cells row v cs)) : srcA P t B sz (.rs b v sz off len) = some (len, (cs.drop off).take (len * sz)) := by
  unfold srcA
  rw [ht.und]
  simp only [hb, Nat.beq_refl, beq_self_eq_true, Bool.and_self, if_true]

theorem srcC_spec {α : Type} {E : Enc α} {M : List α} {tx : TypeId} {B : List Box} {x : AV} {hh src : ASrc} (h : srcC P tx B E.sz x hh = some src) (ho : src.ok E M) : srcA P tx B E.sz x = some (M.length, rowC (M.map E.f)) := by
  unfold srcC at h
  split at h
  · rename_i e he
    cases h
    have hM : M = [] := ho
    subst hM
    unfold srcA
    rw [he]
    rfl
  · rename_i e xs he
    cases hr : rowTyC P tx E.sz with
    | false => rw [hr] at h; cases h
    | true =>
      rw [hr] at h
      cases h
      obtain ⟨e', bytes, ht, _⟩ := rowTyC_spec hr
      have hxs : xs = M.map E.f := ho
      subst hxs
      exact src_ls E.elt ht M
  · rename_i e b ver sz' off len he
    split at h
    · rename_i row v cs hb
      cases hc : Nat.beq ver v && Nat.beq E.sz sz' with
      | false => rw [hc] at h; cases h
      | true =>
        rw [hc] at h
        simp only [cond_true] at h
        simp only [Bool.and_eq_true] at hc
        have e1 := Nat.eq_of_beq_eq_true hc.1
        have e2 := Nat.eq_of_beq_eq_true hc.2
        subst e1
        have e2' : sz' = E.sz := e2.symm
        subst e2'
        have gen : srcA P tx B E.sz (.rs b ver E.sz off len) = some (len, (cs.drop off).take (len * E.sz)) := by
          unfold srcA
          rw [he]
          simp only [hb, Nat.beq_refl, beq_self_eq_true, Bool.and_self, if_true]
        split at h
        · cases ho2 : Nat.beq off 0 with
          | false => rw [ho2] at h; cases h
          | true =>
            rw [ho2] at h
            cases h
            obtain ⟨g1, g2⟩ := ho
            have := Nat.eq_of_beq_eq_true ho2
            subst this
            rw [gen, g1, g2, List.drop_zero, ← E.elt.rowLen, List.take_length]
        · cases h
          obtain ⟨g1, g2⟩ := ho
          rw [gen, g2, g1]
        · cases h
    · cases h
  · rename_i s0 he
    cases h
    obtain ⟨g1, g2, g3⟩ := ho
    unfold srcA
    rw [he]
    simp only [g1, beq_self_eq_true, if_true]
    rw [g2, g3]
  · cases h

theorem bndC_spec {t : T} {x : Option Operand} {l : Option Int} (h : bndC t x = some l) : (l = none ∧ x.map (evalA t) = none) ∨ ∃ k i, l = some i ∧ x.map (evalA t) = some (.p (.v (.int k i))) := by
  unfold bndC at h
  split at h
  · cases h; exact .inl ⟨rfl, rfl⟩
  · rename_i y
    split at h
    · rename_i k i hy
      cases h
      exact .inr ⟨k, i, rfl, by simp [hy]⟩
    · cases h

theorem bounds_of {t : T} {lo hi : Option Operand} {l h : Option Int} {len : Nat} (h1 : bndC t lo = some l) (h2 : bndC t hi = some h) (hk : cutOk l h len) :
    boundsA len (lo.map (evalA t)) (hi.map (evalA t)) = some (loN l, hiN h len) ∧ loN l ≤ hiN h len ∧ hiN h len ≤ len := by
  unfold boundsA
  rcases bndC_spec h1 with ⟨rfl, e1⟩ | ⟨k1, i1, rfl, e1⟩ <;> rcases bndC_spec h2 with ⟨rfl, e2⟩ | ⟨k2, i2, rfl, e2⟩ <;> rw [e1, e2] <;> simp only [cutOk] at hk <;> simp only [boundA, loN, hiN, intA, Option.bind_some]
  · exact ⟨by trivial, Nat.zero_le _, Nat.le_refl _⟩
  · rw [if_pos (by omega)]; exact ⟨rfl, by omega, by omega⟩
  · rw [if_pos (by omega)]; exact ⟨rfl, by omega, by omega⟩
  · rw [if_pos (by omega)]
    simp only [Option.bind_some]
    rw [if_pos (by omega)]
    exact ⟨rfl, by omega, by omega⟩

theorem cutL_eq {α : Type} {l h : Option Int} {L : List α} (hk : cutOk l h L.length) : cutL l h L = (L.take (hiN h L.length)).drop (loN l) := by
  cases l <;> cases h <;> simp [cutL, loN, hiN]

theorem slC_wp {o : Oper} {s : AS} {κ : TypeId → AV → Option Int → Option Int → Tree} (h : (slC o s κ).wp K) : ∃ t x lo hi l r, o.op = .slice t x lo hi none ∧ bndC s.t lo = some l ∧ bndC s.t hi = some r ∧ (κ t (evalA s.t x) l r).wp K := by
  unfold slC at h
  split at h
  · rename_i t x lo hi ho
    split at h
    · rename_i l r h1 h2
      exact ⟨t, x, lo, hi, l, r, ho, h1, h2, h⟩
    · exact h.elim
  · exact h.elim

theorem bytesOf_row (L : List UInt8) : bytesOfCells (rowC (L.map byteE.f)) = some L := by
  induction L with
  | nil => rfl
  | cons b L ih =>
    have : rowC ((b :: L).map byteE.f) = .p (.v (.int .u8 b.toNat)) :: rowC (L.map byteE.f) := rfl
    rw [this, bytesOfCells, ih]
    simp

theorem set_row {α : Type} (E : Enc α) : ∀ (L : List α) (i : Nat) (a : α), i < L.length → splice (rowC (L.map E.f)) (i * E.sz) ((E.f a).cells.map .p) = rowC ((L.set i a).map E.f)
  | [], i, a, h => by simp at h
  | x :: L, 0, a, h => by
    have hx := E.size x
    have ha := E.size a
    simp only [splice, Nat.zero_mul, List.take_zero, List.nil_append, List.length_map, Nat.zero_add, List.set_cons_zero, List.map_cons]
    unfold rowC
    rw [List.flatMap_cons, List.flatMap_cons, List.map_append, List.map_append]
    congr 1
    rw [List.drop_append]
    simp [hx, ha]
  | x :: L, i + 1, a, h => by
    have hx := E.size x
    have ih := set_row E L i a (by simpa using h)
    simp only [splice, List.set_cons_succ, List.map_cons, List.length_map] at ih ⊢
    have e : ∀ Y : List PV, rowC (E.f x :: Y) = (E.f x).cells.map .p ++ rowC Y := by
      intro Y; unfold rowC; rw [List.flatMap_cons, List.map_append]
    rw [e, e, ← ih]
    have hl : ((E.f x).cells.map AV.p).length = E.sz := by simp [hx]
    rw [List.take_append, List.drop_append, hl]
    have e1 : (i + 1) * E.sz - E.sz = i * E.sz := by rw [Nat.succ_mul]; omega
    have e2 : (i + 1) * E.sz + (E.f a).cells.length - E.sz = i * E.sz + (E.f a).cells.length := by rw [Nat.succ_mul]; omega
    rw [e1, e2, List.take_of_length_le (by rw [hl, Nat.succ_mul]; omega), List.drop_of_length_le (by rw [hl, Nat.succ_mul]; omega)]
    simp

theorem take_row {α : Type} (E : Enc α) : ∀ (L : List α) (i : Nat), (rowC (L.map E.f)).take (i * E.sz) = rowC ((L.take i).map E.f)
  | [], i => by simp [rowC]
  | x :: L, 0 => by simp [rowC]
  | x :: L, i + 1 => by
    have hx := E.size x
    have e : ∀ Y : List PV, rowC (E.f x :: Y) = (E.f x).cells.map .p ++ rowC Y := by
      intro Y; unfold rowC; rw [List.flatMap_cons, List.map_append]
    rw [List.map_cons, e, List.take_succ_cons, List.map_cons, e, ← take_row E L i, List.take_append]
    have hl : ((E.f x).cells.map AV.p).length = E.sz := by simp [hx]
    rw [List.take_of_length_le (by rw [hl, Nat.succ_mul]; omega), hl]
    congr 2
    rw [Nat.succ_mul]; omega

theorem repeat_row {α : Type} (E : Enc α) (z : α) : ∀ n : Nat, repeatL ((E.f z).cells.map .p) n = rowC ((List.replicate n z).map E.f)
  | 0 => rfl
  | n + 1 => by
    have e : ∀ Y : List PV, rowC (E.f z :: Y) = (E.f z).cells.map .p ++ rowC Y := by
      intro Y; unfold rowC; rw [List.flatMap_cons, List.map_append]
    rw [repeatL, repeat_row E z n, List.replicate_succ, List.map_cons, e]

theorem clr_row {α : Type} (E : Enc α) {L : List α} {i len : Nat} {z : α} (h : i + len = L.length) : splice (rowC (L.map E.f)) (i * E.sz) (repeatL ((E.f z).cells.map .p) len) = rowC ((L.take i ++ List.replicate len z).map E.f) := by
  unfold splice
  rw [take_row, repeat_row, E.elt.rowLen, List.length_replicate, ← Nat.add_mul, h, ← E.elt.rowLen L, List.drop_length, List.append_nil, List.map_append, rowC_append]

end Go.Ax
