/- One way through code, told by what its tests and its lists come to: what is left to be shown is laid out. -/
import Derived.Test.YtjlipmcdnigfcaaDoorG10
import Derived.Lib.Bytealg
import Derived.Shelf.Small.Strs
set_option linter.unusedVariables false
set_option linter.unusedSimpArgs false
set_option linter.unusedSectionVars false
namespace Go.Ax
open Go.RowKit
variable [Glob]

/-- What is told ahead of a way. -/
inductive Orc where
  | bool (d : Nat) (q : Bool)
  | int (d : Nat) (x : Int)
  | val (d : Nat) (v : AV) (B : Option (List Box))
  | elem (d : Nat) (x : PV)
  | call (d : Nat) (v : AV)
  | weak (l : List (Nat × AV)) (B : List Box) (f : List Nat)
  | weakT (l : List (Nat × AV))
  | weakR (r : Nat) (l : List (Nat × AV)) (B : List Box) (f : List Nat)
  | loop (e : AE) (l : List (Nat × AV)) (B : List Box)

def AllP : List Prop → Prop
  | [] => True
  | [p] => p
  | p :: q :: r => p ∧ AllP (q :: r)

theorem AllP.cons {p : Prop} {r : List Prop} : AllP (p :: r) ↔ p ∧ AllP r := by
  cases r with
  | nil => simp [AllP]
  | cons q r => exact Iff.rfl

theorem AllP.append {r r' : List Prop} : AllP (r ++ r') ↔ AllP r ∧ AllP r' := by
  induction r with
  | nil => simp [AllP]
  | cons p r ih => rw [List.cons_append, AllP.cons, AllP.cons, ih, and_assoc]

/-! ### To forget, on lists -/
def nthF (fl : List Nat) (j : Nat) : Nat := (fl[j]?).getD 0

def Cells2 (B : List Box) (f : Nat → Nat) (m : Nat) : List AV → List AV → Prop
  | [], [] => True
  | x :: xs, y :: ys => WCell B f m x y ∧ Cells2 B f m xs ys
  | _, _ => False

def BoxesW (B : List Box) (f : Nat → Nat) (m : Nat) : Nat → List Box → Prop
  | _, [] => True
  | j, .dead :: r => BoxesW B f m (j + 1) r
  | j, .cells row v cs' :: r => (∃ cs, B[f j]? = some (.cells row v cs) ∧ Cells2 B f m cs cs') ∧ BoxesW B f m (j + 1) r
  | _, .obj .. :: _ => False

def noDup : List Nat → Bool
  | [] => true
  | x :: r => !(r.any (Nat.beq x)) && noDup r

def stays (m0 : Nat) : Nat → List Nat → Bool
  | _, [] => true
  | j, x :: r => (Nat.ble m0 j || Nat.beq x j) && stays m0 (j + 1) r

/-- From the values xs and the boxes B to the values ys and the boxes B'. -/
def WeakL (m0 : Nat) (fl : List Nat) (xs : List AV) (B : List Box) (ys : List AV) (B' : List Box) : Prop :=
  (Nat.beq fl.length B'.length && noDup fl && fl.all (fun x => Nat.blt x B.length) && stays m0 0 fl && Nat.ble m0 B'.length) = true ∧ Cells2 B (nthF fl) B'.length xs ys ∧ BoxesW B (nthF fl) B'.length 0 B'

theorem Cells2.get {B : List Box} {f : Nat → Nat} {m : Nat} : ∀ {xs ys : List AV}, Cells2 B f m xs ys → xs.length = ys.length ∧ ∀ (i : Nat) (x y : AV), xs[i]? = some x → ys[i]? = some y → WCell B f m x y
  | [], [], _ => ⟨rfl, fun i x y h => by simp at h⟩
  | x :: xs, y :: ys, ⟨h1, h2⟩ => by
    obtain ⟨g1, g2⟩ := Cells2.get h2
    refine ⟨by simp [g1], fun i a b ha hb => ?_⟩
    cases i with
    | zero => cases ha; cases hb; exact h1
    | succ i => exact g2 i a b (by simpa using ha) (by simpa using hb)
  | [], _ :: _, h => h.elim
  | _ :: _, [], h => h.elim

theorem BoxesW.get {B : List Box} {f : Nat → Nat} {m : Nat} : ∀ {r : List Box} {k : Nat}, BoxesW B f m k r → ∀ (j : Nat) (row : Bool) (v : Nat) (cs' : List AV), r[j]? = some (.cells row v cs') → ∃ cs, B[f (k + j)]? = some (.cells row v cs) ∧ Cells2 B f m cs cs'
  | [], _, _, j, row, v, cs', h => by simp at h
  | .dead :: r, k, hb, j, row, v, cs', h => by
    cases j with
    | zero => simp at h
    | succ j =>
      have := BoxesW.get (r := r) (k := k + 1) hb j row v cs' (by simpa using h)
      rw [show k + (j + 1) = k + 1 + j by omega]
      exact this
  | .cells row0 v0 cs0 :: r, k, hb, j, row, v, cs', h => by
    cases j with
    | zero => simp at h; obtain ⟨rfl, rfl, rfl⟩ := h; exact hb.1
    | succ j =>
      have := BoxesW.get (r := r) (k := k + 1) hb.2 j row v cs' (by simpa using h)
      rw [show k + (j + 1) = k + 1 + j by omega]
      exact this
  | .obj _ _ :: _, _, hb, _, _, _, _, _ => hb.elim

theorem BoxesW.noobj {B : List Box} {f : Nat → Nat} {m : Nat} : ∀ {r : List Box} {k : Nat}, BoxesW B f m k r → ∀ (j : Nat) (cs : List AV) (Φ : ObjP), r[j]? ≠ some (.obj cs Φ)
  | [], _, _, j, cs, Φ => by simp
  | .dead :: r, k, hb, j, cs, Φ => by
    cases j with
    | zero => simp
    | succ j => simpa using BoxesW.noobj (r := r) (k := k + 1) hb j cs Φ
  | .cells row0 v0 cs0 :: r, k, hb, j, cs, Φ => by
    cases j with
    | zero => simp
    | succ j => simpa using BoxesW.noobj (r := r) (k := k + 1) hb.2 j cs Φ
  | .obj _ _ :: _, _, hb, _, _, _ => hb.elim

theorem noDup_inj : ∀ {fl : List Nat}, noDup fl = true → ∀ i j, i < fl.length → j < fl.length → nthF fl i = nthF fl j → i = j
  | [], _, i, _, h, _, _ => by simp at h
  | x :: r, hd, i, j, hi, hj, e => by
    simp only [noDup, Bool.and_eq_true, Bool.not_eq_true', List.any_eq_false] at hd
    have at0 : ∀ k, k < r.length → nthF (x :: r) (k + 1) ≠ x := fun k hk he => by
      have : nthF (x :: r) (k + 1) = r[k] := by simp [nthF, hk]
      rw [this] at he
      exact hd.1 x (he ▸ List.getElem_mem hk) (Nat.beq_refl x)
    cases i with
    | zero =>
      cases j with
      | zero => rfl
      | succ j => exact (at0 j (by simpa using hj) (by rw [← e]; rfl)).elim
    | succ i =>
      cases j with
      | zero => exact (at0 i (by simpa using hi) (by rw [e]; rfl)).elim
      | succ j =>
        have := noDup_inj hd.2 i j (by simpa using hi) (by simpa using hj) (by simpa [nthF] using e)
        omega

theorem stays_get {m0 : Nat} : ∀ {fl : List Nat} {k : Nat}, stays m0 k fl = true → ∀ j, k + j < m0 → j < fl.length → nthF fl j = k + j
  | [], _, _, j, _, h => by simp at h
  | x :: r, k, hs, j, hm, hj => by
    simp only [stays, Bool.and_eq_true, Bool.or_eq_true, Nat.ble_eq] at hs
    cases j with
    | zero =>
      rcases hs.1 with h | h
      · omega
      · exact Nat.eq_of_beq_eq_true h
    | succ j =>
      have := stays_get hs.2 j (by omega) (by simpa using hj)
      rw [show k + (j + 1) = k + 1 + j by omega, ← this]
      rfl

theorem tk_get (l : List (Nat × AV)) (i : Nat) : tk l i = .u ∨ ∃ (j : Nat) (v : AV), l[j]? = some (i, v) ∧ tk l i = v := by
  unfold tk
  cases h : l.find? (fun p => Nat.beq p.1 i) with
  | none => exact .inl rfl
  | some p =>
    have h1 := List.find?_some h
    have h2 := List.mem_of_find?_eq_some h
    obtain ⟨j, hj⟩ := List.getElem?_of_mem h2
    obtain ⟨a, v⟩ := p
    have : a = i := Nat.eq_of_beq_eq_true h1
    subst this
    exact .inr ⟨j, v, hj, rfl⟩

theorem WeakL.weak {m0 : Nat} {fl : List Nat} {s : AS} {l : List (Nat × AV)} {B' : List Box} (h : WeakL m0 fl (l.map fun p => s.t p.1) s.B (l.map (·.2)) B') :
    Weak s ⟨tk l, B'⟩ (nthF fl) ∧ (∀ j, j < m0 → nthF fl j = j) ∧ m0 ≤ B'.length := by
  obtain ⟨h0, h1, h2⟩ := h
  simp only [Bool.and_eq_true, Nat.ble_eq] at h0
  obtain ⟨⟨⟨⟨g1, g2⟩, g3⟩, g4⟩, g5⟩ := h0
  have g1 := Nat.eq_of_beq_eq_true g1
  refine ⟨⟨fun i => ?_, fun j hj => ?_, fun j row v cs' hj => ?_, fun i j hi hj => noDup_inj g2 i j (by simp at hi; omega) (by simp at hj; omega), fun j cs Φ => h2.noobj j cs Φ⟩, fun j hj => ?_, g5⟩
  · rcases tk_get l i with h | ⟨j, v, hj, hv⟩
    · exact .inl h
    · refine .inr ?_
      have := h1.get.2 j (s.t i) v (by rw [List.getElem?_map, hj]; rfl) (by rw [List.getElem?_map, hj]; rfl)
      show WCell _ _ _ _ (tk l i)
      rw [hv]
      exact this
  · rw [List.all_eq_true] at g3
    have hj' : j < fl.length := by simp at hj; omega
    have : nthF fl j = fl[j] := by simp [nthF, hj']
    rw [this]
    exact (Nat.blt_eq ▸ g3 _ (List.getElem_mem hj') : _)
  · obtain ⟨cs, q1, q2⟩ := h2.get j row v cs' hj
    rw [Nat.zero_add] at q1
    exact ⟨cs, q1, q2.get.1, q2.get.2⟩
  · have := stays_get g4 j (by omega) (by omega)
    omega

/-- Slots alone are forgotten. -/
def WeakT (m0 : Nat) (xs ys : List AV) (B : List Box) : Prop := xs = ys ∧ ys.all (AV.low B.length) = true ∧ B.all (Box.low B.length) = true ∧ Nat.ble m0 B.length = true

theorem ren_id (x : AV) : x.ren (fun j => j) = x := by
  induction x using AV.rec (motive_2 := fun cs => AV.ren.renL (fun j => j) cs = cs) with
  | u => rfl
  | mp b => rfl
  | op b => rfl
  | p x => rfl
  | ptr b v o => rfl
  | rs b v z o l => rfl
  | rp cs => rfl
  | agg cs ih => simp [AV.ren, ih]
  | fn g cs ih => simp [AV.ren, ih]
  | tup cs ih => simp [AV.ren, ih]
  | nil => rfl
  | cons c cs h1 h2 => simp [AV.ren.renL, h1, h2]

theorem WeakT.weak {m0 : Nat} {s : AS} {l : List (Nat × AV)} (h : WeakT m0 (l.map fun p => s.t p.1) (l.map (·.2)) s.B) : Weak s ⟨tk l, s.B⟩ (fun j => j) ∧ m0 ≤ s.B.length := by
  obtain ⟨h1, h2, h3, h4⟩ := h
  refine ⟨⟨fun i => ?_, fun j hj => hj, fun j row v cs' hj => ⟨cs', hj, rfl, fun i c c' hc hc' => ?_⟩, fun i j _ _ e => e, fun j cs Φ hj => by
    rw [List.all_eq_true] at h3
    exact absurd (h3 _ (List.mem_of_getElem? hj)) (by simp [Box.low])⟩, by simpa [Nat.ble_eq] using h4⟩
  · rcases tk_get l i with h | ⟨j, v, hj, hv⟩
    · exact .inl h
    · refine .inr (.inl ⟨?_, ?_⟩)
      · show s.t i = (tk l i).ren _
        rw [hv, ren_id]
        have e1 : (l.map fun p => s.t p.1)[j]? = some (s.t i) := by rw [List.getElem?_map, hj]; rfl
        have e2 : (l.map (·.2))[j]? = some v := by rw [List.getElem?_map, hj]; rfl
        rw [h1, e2] at e1
        cases e1; rfl
      · show (tk l i).low s.B.length = true
        rw [hv]
        rw [List.all_eq_true] at h2
        exact h2 v (List.mem_map.2 ⟨(i, v), List.mem_of_getElem? hj, rfl⟩)
  · rw [hc] at hc'
    cases hc'
    refine .inl ⟨(ren_id c).symm, ?_⟩
    rw [List.all_eq_true] at h3
    have := h3 _ (List.mem_of_getElem? hj)
    exact allLow_get this i c hc

/-! ### The way -/
variable (P : Program) (Γ : Env) (n m0 : Nat)

/-- What an operation comes to, told or reckoned. -/
def opO (o : Oper) (s : AS) : List Orc → Option (List Prop × (AV × List Box) × List Orc)
  | [] => (opA P Γ s.t s.B o.op).map fun r => ([], r, [])
  | x :: O =>
    match o.dst, x with
    | some d, .bool d' q => if Nat.beq d d' then
        match opA P Γ s.t s.B o.op with
        | some (.p (.v (.bool b)), B) => some ([b = q], (.p (.v (.bool q)), B), O)
        | _ => none
      else (opA P Γ s.t s.B o.op).map fun r => ([], r, x :: O)
    | some d, .int d' y => if Nat.beq d d' then
        match opA P Γ s.t s.B o.op with
        | some (.p (.v (.int k z)), B) => some ([z = y], (.p (.v (.int k y)), B), O)
        | _ => none
      else (opA P Γ s.t s.B o.op).map fun r => ([], r, x :: O)
    | some d, .val d' v B => if Nat.beq d d' then some ([opA P Γ s.t s.B o.op = some (v, B.getD s.B)], (v, B.getD s.B), O)
      else (opA P Γ s.t s.B o.op).map fun r => ([], r, x :: O)
    | some d, .elem d' y => if Nat.beq d d' then
        match o.op with
        | .indexAddr t a i =>
          match evalA s.t a, evalA s.t i, elemT P t with
          | .p (.ls xs), .p (.v (.int _ j)), some e =>
            match sizeT P e with
            | some sz => some ([0 ≤ j ∧ xs[j.toNat]? = some y ∧ (xs.all fun y => y.cells.length == sz) = true], (.rp y.cells, s.B), O)
            | none => none
          | _, _, _ => none
        | _ => none
      else (opA P Γ s.t s.B o.op).map fun r => ([], r, x :: O)
    | some d, .call d' v => if Nat.beq d d' then
        match o.op with
        | .call c =>
          match c.callee with
          | .value f =>
            match evalA s.t f with
            | .fn g cap =>
              match Γ g with
              | .pure k => some ([k (c.args.toList.map (evalA s.t) ++ cap) = some v], (v, s.B), O)
              | _ => none
            | _ => none
          | _ => none
        | _ => none
      else (opA P Γ s.t s.B o.op).map fun r => ([], r, x :: O)
    | _, _ => (opA P Γ s.t s.B o.op).map fun r => ([], r, x :: O)

theorem opO_sound {o : Oper} {s : AS} {O : List Orc} {ob : List Prop} {r : AV × List Box} {O' : List Orc} (h : opO P Γ o s O = some (ob, r, O')) (hob : AllP ob) : opA P Γ s.t s.B o.op = some r := by
  have plain : ∀ {O : List Orc}, (opA P Γ s.t s.B o.op).map (fun r => (([] : List Prop), r, O)) = some (ob, r, O') → opA P Γ s.t s.B o.op = some r := by
    intro O h
    obtain ⟨a, b⟩ := map_some h
    rw [b.1]
    have := b.2
    simp at this
    rw [this.2.1]
  unfold opO at h
  split at h
  · exact plain h
  · split at h
    · split at h
      · split at h
        · rename_i he
          cases h
          rw [he]
          have : _ = _ := hob
          rw [this]
        · cases h
      · exact plain h
    · split at h
      · split at h
        · rename_i he
          cases h
          rw [he]
          have : _ = _ := hob
          rw [this]
        · cases h
      · exact plain h
    · split at h
      · cases h; exact hob
      · exact plain h
    · split at h
      · split at h
        · rename_i t a i hop
          split at h
          · rename_i xs k j e h1 h2 h3
            split at h
            · rename_i sz h4
              cases h
              obtain ⟨q1, q2, q3⟩ := hob
              rw [hop]
              simp only [opA, h1, h2, indexAddrA, intA, Option.bind_some]
              rw [if_neg (by omega)]
              rw [elemT_some h3]
              simp only [h4, Option.bind_some]
              rw [if_pos q3, q2]
              rfl
            · cases h
          · cases h
        · cases h
      · exact plain h
    · split at h
      · split at h
        · rename_i c hop
          split at h
          · rename_i f hf
            split at h
            · rename_i g cap hg
              split at h
              · rename_i k hk
                cases h
                rw [hop]
                simp only [opA, callA, hf, hg, hk, FSpec.run]
                have : _ = _ := hob
                rw [this]
                rfl
              · cases h
            · cases h
          · cases h
        · cases h
      · exact plain h
    · exact plain h


def okD (draw : Option Nat) (ops : List Oper) (o : Op) (s : AS) : Bool :=
  match draw with
  | none => true
  | some n0 => okCls (clsOf P Γ ops o) n0 s.t o && (clsOf P Γ ops o != .wi || Nat.ble n0 s.B.length)

def stepO (draw : Option Nat) (ops : List Oper) (o : Oper) (s : AS) (O : List Orc) : Option (List Prop × AS × List Orc) :=
  (wantedA ops s.t o).bind fun w =>
    if w then
      if okD P Γ draw ops o.op s then
        (opO P Γ o s O).bind fun (ob, (v, B'), O') => (putA n s.t o.dst v).map fun t' => (ob, ⟨t', B'⟩, O')
      else none
    else (putA n s.t o.dst (.p (.v undef))).map fun t' => ([], ⟨t', s.B⟩, O)

def opsO (draw : Option Nat) (ops : List Oper) : List Oper → AS → List Orc → Option (List Prop × AS × List Orc)
  | [], s, O => some ([], s, O)
  | o :: rest, s, O => (stepO P Γ n draw ops o s O).bind fun (ob, s1, O1) => (opsO draw ops rest s1 O1).map fun (ob', s', O') => (ob ++ ob', s', O')

variable {P Γ n m0}

theorem stepO_sound {ops : List Oper} {o : Oper} {s s' : AS} {O O' : List Orc} {ob : List Prop} (hob : AllP ob) : (stepO P Γ n none ops o s O = some (ob, s', O') → stepA P Γ n ops o s = some s') ∧ (∀ n0, stepO P Γ n (some n0) ops o s O = some (ob, s', O') → stepD P Γ n n0 ops o s = some s') := by
  constructor
  · intro h
    unfold stepO at h
    unfold stepA
    cases hw : wantedA ops s.t o with
    | none => rw [hw] at h; cases h
    | some w =>
      rw [hw] at h
      simp only [Option.bind_some] at h ⊢
      cases w with
      | true =>
        simp only [if_true, okD] at h ⊢
        obtain ⟨⟨ob1, ⟨v, B'⟩, O1⟩, h1, h2⟩ := Option.bind_eq_some_iff.1 h
        obtain ⟨t', h3, h4⟩ := map_some h2
        cases h4
        rw [opO_sound P Γ h1 hob]
        simp only [Option.bind_some, h3]
        rfl
      | false =>
        obtain ⟨t', h3, h4⟩ := map_some h
        cases h4
        simp only [Bool.false_eq_true, if_false, h3]
        rfl
  · intro n0 h
    unfold stepO at h
    unfold stepD
    cases hw : wantedA ops s.t o with
    | none => rw [hw] at h; cases h
    | some w =>
      rw [hw] at h
      simp only [Option.bind_some] at h ⊢
      cases w with
      | true =>
        simp only [if_true] at h ⊢
        split at h
        · rename_i hc
          simp only [okD] at hc
          obtain ⟨⟨ob1, ⟨v, B'⟩, O1⟩, h1, h2⟩ := Option.bind_eq_some_iff.1 h
          obtain ⟨t', h3, h4⟩ := map_some h2
          cases h4
          rw [if_pos hc, opO_sound P Γ h1 hob]
          simp only [Option.bind_some, h3]
          rfl
        · cases h
      | false =>
        obtain ⟨t', h3, h4⟩ := map_some h
        cases h4
        simp only [Bool.false_eq_true, if_false, h3]
        rfl

theorem opsO_sound {ops : List Oper} : ∀ (rest : List Oper) {s s' : AS} {O O' : List Orc} {ob : List Prop}, AllP ob → (opsO P Γ n none ops rest s O = some (ob, s', O') → opsA P Γ n ops rest s = some s') ∧ (∀ n0, opsO P Γ n (some n0) ops rest s O = some (ob, s', O') → opsD P Γ n n0 ops rest s = some s')
  | [], s, s', O, O', ob, _ => ⟨fun h => by cases h; rfl, fun n0 h => by cases h; rfl⟩
  | o :: rest, s, s', O, O', ob, hob => by
    constructor
    · intro h
      simp only [opsO] at h
      obtain ⟨⟨ob1, s1, O1⟩, h1, h2⟩ := Option.bind_eq_some_iff.1 h
      obtain ⟨⟨ob2, s2, O2⟩, h3, h4⟩ := map_some h2
      cases h4
      rw [AllP.append] at hob
      simp only [opsA, (stepO_sound hob.1).1 h1, Option.bind_some]
      exact (opsO_sound rest hob.2).1 h3
    · intro n0 h
      simp only [opsO] at h
      obtain ⟨⟨ob1, s1, O1⟩, h1, h2⟩ := Option.bind_eq_some_iff.1 h
      obtain ⟨⟨ob2, s2, O2⟩, h3, h4⟩ := map_some h2
      cases h4
      rw [AllP.append] at hob
      simp only [opsD, (stepO_sound hob.1).2 n0 h1, Option.bind_some]
      exact (opsO_sound rest hob.2).2 n0 h3

/-- To forget, where it is told to. -/
def preW (m0 : Nat) (s : AS) : List Orc → List Prop × AS × List Orc
  | .weak l B fl :: O => ([WeakL m0 fl (l.map fun p => s.t p.1) s.B (l.map (·.2)) B], ⟨tk l, B⟩, O)
  | .weakT l :: O => ([WeakT m0 (l.map fun p => s.t p.1) (l.map (·.2)) s.B], ⟨tk l, s.B⟩, O)
  | O => ([], s, O)

/-- The same, ahead of a region that is named. -/
def preR (m0 : Nat) (id : Nat) (s : AS) : List Orc → List Prop × AS × List Orc
  | .weakR r l B fl :: O => if Nat.beq r id then ([WeakL m0 fl (l.map fun p => s.t p.1) s.B (l.map (·.2)) B], ⟨tk l, B⟩, O) else ([], s, .weakR r l B fl :: O)
  | O => ([], s, O)

theorem preR_ev {c : Code} {id : Nat} {s s1 s' : AS} {O O1 : List Orc} {ob : List Prop} {e : AE} {q : Bool} (h : preR m0 id s O = (ob, s1, O1)) (hob : AllP ob) (hev : EvX P Γ n m0 q c s1 e s') : EvX P Γ n m0 q c s e s' := by
  unfold preR at h
  split at h
  · split at h
    · cases h
      obtain ⟨h1, h2, h3⟩ := (show WeakL _ _ _ _ _ _ from hob).weak
      exact .weak h1 h2 h3 hev
    · cases h; exact hev
  · cases h; exact hev

theorem preW_ev {c : Code} {s s1 s' : AS} {O O1 : List Orc} {ob : List Prop} {e : AE} {q : Bool} (h : preW m0 s O = (ob, s1, O1)) (hob : AllP ob) (hev : EvX P Γ n m0 q c s1 e s') : EvX P Γ n m0 q c s e s' := by
  unfold preW at h
  split at h
  · cases h
    obtain ⟨h1, h2, h3⟩ := (show WeakL _ _ _ _ _ _ from hob).weak
    exact .weak h1 h2 h3 hev
  · cases h
    obtain ⟨h1, h2⟩ := (show WeakT _ _ _ _ from hob).weak
    exact .weak h1 (fun _ _ => rfl) h2 hev
  · cases h; exact hev

variable (P Γ n m0)

/-- A way through code. -/
def codeO : Code → AS → List Orc → Option (List Prop × AE × AS × List Orc)
  | .skip, s, O => some ([], .normal, s, O)
  | .region id ops draw, s, O =>
    match preR m0 id s O with
    | (ob, s, O) =>
      if draw then (if drawOk P Γ ops.toList then (opsO P Γ n (some s.B.length) ops.toList ops.toList s O).map fun (ob', s', O') => (ob ++ ob', .normal, s', O') else none)
      else (opsO P Γ n none ops.toList ops.toList s O).map fun (ob', s', O') => (ob ++ ob', .normal, s', O')
  | .seq a b, s, O =>
    (codeO a s O).bind fun r =>
      match r with
      | (ob, .normal, s', O') => (codeO b s' O').map fun (ob', e, s', O') => (ob ++ ob', e, s', O')
      | (ob, .exit i, s', O') => some (ob, .exit i, s', O')
      | (ob, .ret, s', O') => some (ob, .ret, s', O')
  | .cond c x y, s, O => (boolA (evalA s.t c)).bind fun q => if q then codeO x s O else codeO y s O
  | .block id b, s, O =>
    (codeO b s O).map fun r =>
      match r with
      | (ob, .exit i, s', O') => if Nat.beq i id then (ob, .normal, s', O') else (ob, .exit i, s', O')
      | (ob, .normal, s', O') => (ob, .normal, s', O')
      | (ob, .ret, s', O') => (ob, .ret, s', O')
  | .loop b, s, O =>
    match preW m0 s O with
    | (ob, s, .loop e l B :: O) => some (ob ++ [EvX P Γ n m0 true b s e ⟨tk l, B⟩], e, ⟨tk l, B⟩, O)
    | _ => none
  | .exit id, s, O => some ([], .exit id, s, O)
  | .ret, s, O => some ([], .ret, s, O)
  | _, _, _ => none

variable {P Γ n m0}

theorem codeO_sound : ∀ (c : Code) {s s' : AS} {O O' : List Orc} {ob : List Prop} {e : AE}, codeO P Γ n m0 c s O = some (ob, e, s', O') → AllP ob → EvC P Γ n m0 c s e s' := by
  intro c
  induction c with
  | skip => intro s s' O O' ob e h _; cases h; exact .run rfl
  | region id ops draw =>
    intro s s' O O' ob e h hob
    simp only [codeO] at h
    rcases hp : preR m0 id s O with ⟨ob1, s1, O1⟩
    rw [hp] at h
    simp only at h
    split at h
    · split at h
      · rename_i hd hok
        obtain ⟨⟨ob2, s2, O2⟩, h1, h2⟩ := map_some h
        cases h2
        rw [AllP.append] at hob
        refine preR_ev hp hob.1 (.run ?_)
        simp only [codeA, if_pos hd, if_pos hok, (opsO_sound _ hob.2).2 _ h1]
        rfl
      · cases h
    · rename_i hd
      obtain ⟨⟨ob2, s2, O2⟩, h1, h2⟩ := map_some h
      cases h2
      rw [AllP.append] at hob
      refine preR_ev hp hob.1 (.run ?_)
      simp only [codeA, if_neg hd, (opsO_sound _ hob.2).1 h1]
      rfl
  | seq a b iha ihb =>
    intro s s' O O' ob e h hob
    simp only [codeO] at h
    obtain ⟨⟨ob1, e1, s1, O1⟩, h1, h2⟩ := Option.bind_eq_some_iff.1 h
    cases e1 with
    | normal =>
      obtain ⟨⟨ob2, e2, s2, O2⟩, h3, h4⟩ := map_some h2
      cases h4
      rw [AllP.append] at hob
      exact .seq (iha h1 hob.1) (ihb h3 hob.2)
    | exit i => cases h2; exact .seqx (iha h1 hob) (by simp)
    | ret => cases h2; exact .seqx (iha h1 hob) (by simp)
  | cond c x y ihx ihy =>
    intro s s' O O' ob e h hob
    simp only [codeO] at h
    obtain ⟨q, h1, h2⟩ := Option.bind_eq_some_iff.1 h
    refine .cond h1 ?_
    cases q with
    | true => exact ihx h2 hob
    | false => exact ihy h2 hob
  | block id b ih =>
    intro s s' O O' ob e h hob
    simp only [codeO] at h
    obtain ⟨⟨ob1, e1, s1, O1⟩, h1, h2⟩ := map_some h
    cases e1 with
    | normal => cases h2; exact .blockx (ih h1 hob) (by simp)
    | ret => cases h2; exact .blockx (ih h1 hob) (by simp)
    | exit i =>
      simp only at h2
      split at h2
      · rename_i hi
        cases h2
        have := Nat.eq_of_beq_eq_true hi
        subst this
        exact .block (ih h1 hob)
      · rename_i hi
        cases h2
        refine .blockx (ih h1 hob) (fun h => hi ?_)
        cases h
        exact Nat.beq_refl _
  | loop b _ =>
    intro s s' O O' ob e h hob
    simp only [codeO] at h
    rcases hp : preW m0 s O with ⟨ob1, s1, O1⟩
    rw [hp] at h
    split at h
    · rename_i heq
      cases heq
      cases h
      rw [AllP.append] at hob
      exact preW_ev hp hob.1 (.loop hob.2)
    · cases h
  | exit id => intro s s' O O' ob e h _; cases h; exact .run rfl
  | ret => intro s s' O O' ob e h _; cases h; exact .run rfl
  | _ => intro s s' O O' ob e h _; simp [codeO] at h

/-- A way, and what is told of its end. -/
def wayO (P : Program) (Γ : Env) (n m0 : Nat) (c : Code) (s : AS) (O : List Orc) (slots : List Nat) : Option (List Prop × AE × List AV × List Box) :=
  match codeO P Γ n m0 c s O with
  | some (ob, e, s', []) => some (ob, e, slots.map s'.t, s'.B)
  | _ => none

theorem way_ev {c : Code} {s : AS} {O : List Orc} {l : List (Nat × AV)} {B' : List Box} {fl : List Nat} {ob : List Prop} {e : AE} {vs : List AV} {B1 : List Box}
    (h : wayO P Γ n m0 c s O (l.map (·.1)) = some (ob, e, vs, B1)) (hob : AllP ob) (hw : WeakL m0 fl vs B1 (l.map (·.2)) B') : EvC P Γ n m0 c s e ⟨tk l, B'⟩ := by
  unfold wayO at h
  split at h
  · rename_i ob' e' s' hc
    simp only [Option.some.injEq, Prod.mk.injEq] at h
    obtain ⟨rfl, rfl, rfl, rfl⟩ := h
    rw [List.map_map] at hw
    obtain ⟨h1, h2, h3⟩ := (show WeakL m0 fl (l.map fun p => s'.t p.1) s'.B (l.map (·.2)) B' from hw).weak
    exact .weakr (codeO_sound c hc hob) h1 h2 h3
  · cases h

theorem way_evT {c : Code} {s : AS} {O : List Orc} {l : List (Nat × AV)} {ob : List Prop} {e : AE} {vs : List AV} {B1 : List Box}
    (h : wayO P Γ n m0 c s O (l.map (·.1)) = some (ob, e, vs, B1)) (hob : AllP ob) (hw : WeakT m0 vs (l.map (·.2)) B1) : EvC P Γ n m0 c s e ⟨tk l, B1⟩ := by
  unfold wayO at h
  split at h
  · rename_i ob' e' s' hc
    simp only [Option.some.injEq, Prod.mk.injEq] at h
    obtain ⟨rfl, rfl, rfl, rfl⟩ := h
    rw [List.map_map] at hw
    obtain ⟨h1, h2⟩ := (show WeakT m0 (l.map fun p => s'.t p.1) (l.map (·.2)) s'.B from hw).weak
    exact .weakr (codeO_sound c hc hob) h1 (fun _ _ => rfl) h2
  · cases h

end Go.Ax

namespace Go.Ax
open Go.RowKit

abbrev vn (k : IntKind) (x : Int) : AV := .p (.v (.int k x))
abbrev vi (x : Int) : AV := .p (.v (.int .i64 x))
abbrev vb (b : Bool) : AV := .p (.v (.bool b))
abbrev vs (s : ByteArray) : AV := .p (.v (.string s))
abbrev vl (xs : List PV) : AV := .p (.ls xs)
abbrev nilS : AV := .p (.v (.slice none 0 0))

/-- A part of code: 'l' and 'r' are the first and the second of what it is made of. -/
def nav : List Bool → Code → Code
  | [], c => c
  | b :: r, .seq x y => nav r (if b then y else x)
  | b :: r, .cond _ x y => nav r (if b then y else x)
  | _ :: r, .block _ x => nav r x
  | _ :: r, .loop x => nav r x
  | _, c => c

def bodyOf (f : Func) : Code := f.body.getD .skip

/-- The cells of a row of these elements. -/
def rowC (xs : List PV) : List AV := (xs.flatMap PV.cells).map .p

theorem nav_seq {c a b : Code} (h : c = .seq a b) : nav [false] c = a ∧ nav [true] c = b := by subst h; exact ⟨rfl, rfl⟩

/-- Nothing but to forget. -/
theorem cells2_same {B : List Box} {f : Nat → Nat} {m : Nat} : ∀ {xs : List AV}, (∀ x ∈ xs, x = x.ren f) → xs.all (AV.low m) = true → Cells2 B f m xs xs
  | [], _, _ => trivial
  | x :: xs, h, hl => by
    simp only [List.all_cons, Bool.and_eq_true] at hl
    exact ⟨.inl ⟨h x (by simp), hl.1⟩, cells2_same (fun y hy => h y (by simp [hy])) hl.2⟩

end Go.Ax

namespace Go.Ax
open Go.RowKit
variable [Glob]

/-! ### A function, as a relation of its arguments and its answer -/
open Classical in
noncomputable def relG (R : List AV → AV → Prop) : List AV → Option AV := fun args => if h : ∃ r, R args r then some (Classical.choose h) else none

theorem relG_some {R : List AV → AV → Prop} {args : List AV} {r : AV} (h : relG R args = some r) : R args r := by
  unfold relG at h
  split at h
  · rename_i hx; cases h; exact Classical.choose_spec hx
  · cases h

theorem relG_eq {R : List AV → AV → Prop} (hd : ∀ args r r', R args r → R args r' → r = r') {args : List AV} {r : AV} (h : R args r) : relG R args = some r := by
  have hx : ∃ r, R args r := ⟨r, h⟩
  unfold relG
  rw [dif_pos hx]
  exact congrArg some (hd _ _ _ (Classical.choose_spec hx) h)

def numL : Nat → List AV → List (Nat × AV)
  | _, [] => []
  | i, a :: r => (i, a) :: numL (i + 1) r

theorem find_numL (l : List AV) : ∀ (k i : Nat), ((numL k l).find? fun p => Nat.beq p.1 (k + i)) = (l[i]?).map fun a => (k + i, a) := by
  induction l with
  | nil => intro k i; rfl
  | cons a l ih =>
    intro k i
    rw [numL, List.find?_cons]
    cases i with
    | zero => simp
    | succ i =>
      have h1 : Nat.beq k (k + (i + 1)) = false := by
        cases h : Nat.beq k (k + (i + 1)) with
        | false => rfl
        | true => have := Nat.eq_of_beq_eq_true h; omega
      simp only [h1]
      have := ih (k + 1) i
      rw [show k + 1 + i = k + (i + 1) by omega] at this
      rw [this]
      simp

theorem tk_numL (l : List AV) (i : Nat) : tk (numL 0 l) i = (l[i]?).getD .u := by
  have := find_numL l 0 i
  rw [Nat.zero_add] at this
  unfold tk
  rw [this]
  cases l[i]? <;> rfl

theorem low_mono {m : Nat} {x : AV} (h : x.low 0 = true) : x.low m = true := by
  induction x using AV.rec (motive_2 := fun cs => AV.low.allLow 0 cs = true → AV.low.allLow m cs = true) with
  | u => rfl
  | mp b => simp [AV.low] at h
  | op b => simp [AV.low] at h
  | p x => rfl
  | ptr b v o => simp [AV.low] at h
  | rs b v z o l => simp [AV.low] at h
  | rp cs => rfl
  | agg cs ih => exact ih h
  | fn g cs ih => exact ih h
  | tup cs ih => exact ih h
  | nil => rfl
  | cons c cs h1 h2 =>
    rename_i h
    simp only [AV.low.allLow, Bool.and_eq_true] at h ⊢
    exact ⟨h1 h.1, h2 h.2⟩

theorem weak_args (args : List AV) (h : args.all (AV.low 0) = true) : Weak ⟨argsT args, []⟩ ⟨tk (numL 0 args), []⟩ (fun j => j) := by
  refine ⟨fun i => ?_, fun j hj => by simp at hj, fun j row v cs hj => by simp at hj, fun i j hi => by simp at hi, fun j cs Φ => by simp⟩
  show tk (numL 0 args) i = .u ∨ WCell [] (fun j => j) 0 (argsT args i) (tk (numL 0 args) i)
  rw [tk_numL]
  unfold argsT
  cases hi : args[i]? with
  | none => exact .inl rfl
  | some a =>
    rw [List.all_eq_true] at h
    exact .inr (.inl ⟨(ren_id a).symm, h a (List.mem_of_getElem? hi)⟩)

variable {P : Program}

theorem fn_pure {Γ : Env} (hm : P.follows .mixedOrders = true) (hΓ : ∀ f, SoundF P f (Γ f)) {f : FuncId} {fn : Func} (hf : P.funcs[f]? = some fn) (he : enters P f = true) (hb : fn.body.isSome = true) {R : List AV → AV → Prop}
    (h : ∀ args r, R args r → Nat.ble args.length fn.ntmps = true ∧ args.all (AV.low 0) = true ∧ ∃ e l B vs, (e = .ret ∨ e = .normal) ∧ EvC P Γ fn.ntmps 0 (bodyOf fn) ⟨tk (numL 0 args), []⟩ e ⟨tk l, B⟩ ∧
      resList P ⟨tk l, B⟩ fn.results.toList = some vs ∧ Sealed (fun _ => True) B (oneOf vs) r) : SoundF P f (.pure (relG R)) := by
  refine sound_pure hm hΓ hf he (fun args r hr => ?_)
  obtain ⟨h1, h2, e, l, B, vs, h3, h4, h5, h6⟩ := h args r (relG_some hr)
  refine ⟨h2, ⟨tk l, B⟩, vs, ⟨h1, ?_, h5⟩, h6⟩
  cases hbb : fn.body with
  | none => rw [hbb] at hb; cases hb
  | some c =>
    have : bodyOf fn = c := by simp [bodyOf, hbb]
    rw [this] at h4
    exact ⟨c, e, rfl, .weak (weak_args args h2) (fun j hj => by simp at hj) (Nat.zero_le _) h4, h3⟩

/-- A function without a body, that only answers. -/
theorem extern_pure {f : FuncId} {R : List AV → AV → Prop} (h : ∀ args r, R args r → ∃ (vs : List Value) (x : Value), args = vs.map (fun v => .p (.v v)) ∧ r = .p (.v x) ∧ ∀ w, (callFunc f vs.toArray).run P w = .ok (.value x) w) : SoundF P f (.pure (relG R)) := by
  intro args B r B' hs F ρ w us hI hA
  obtain ⟨r', h1, h2⟩ := map_some hs
  cases h2
  obtain ⟨vs, x, rfl, rfl, h3⟩ := h _ _ (relG_some h1)
  have : us = vs := by
    apply List.ext_getElem?
    intro i
    cases hv : vs[i]? with
    | none =>
      have : vs.length ≤ i := List.getElem?_eq_none_iff.1 hv
      rw [List.getElem?_eq_none_iff]
      have := hA.1
      simp at this; omega
    | some v =>
      have hi : i < us.length := by
        have := (List.getElem?_eq_some_iff.1 hv).1
        have := hA.1
        simp at this; omega
      have := hA.2 i (.p (.v v)) us[i] (by rw [List.getElem?_map, hv]; rfl) (List.getElem?_eq_getElem hi)
      rw [List.getElem?_eq_getElem hi]
      rw [this.val]
  subst this
  exact .inr ⟨x, w, h3 w, x, ρ, rfl, hI, .refl _ _ _, .p _ _ (.v x)⟩

/-! ### Lists of elements -/
structure Elt (α : Type) (f : α → PV) (sz : Nat) : Prop where
  size : ∀ a, (f a).cells.length = sz
  leaf : ∀ a, (f a).cells.all PV.leaf = true

variable {α : Type} {f : α → PV} {sz : Nat}

theorem Elt.all (h : Elt α f sz) (L : List α) : ((L.map f).all fun y => y.cells.length == sz) = true := by
  rw [List.all_eq_true]
  intro y hy
  obtain ⟨a, _, rfl⟩ := List.mem_map.1 hy
  simp [h.size a]

theorem Elt.at (h : Elt α f sz) {L : List α} {i : Int} {e : α} (h0 : 0 ≤ i) (h1 : L[Int.toNat i]? = some e) : 0 ≤ i ∧ (L.map f)[Int.toNat i]? = some (f e) ∧ ((L.map f).all fun y => y.cells.length == sz) = true :=
  ⟨h0, by rw [List.getElem?_map, h1]; rfl, h.all L⟩

theorem Elt.flat (h : Elt α f sz) (L : List α) : ((L.map f).flatMap PV.cells).length = L.length * sz := by
  induction L with
  | nil => simp
  | cons a L ih => rw [List.map_cons, List.flatMap_cons, List.length_append, h.size, ih, List.length_cons, Nat.succ_mul]; omega

theorem Elt.rowLen (h : Elt α f sz) (L : List α) : (rowC (L.map f)).length = L.length * sz := by rw [rowC, List.length_map, h.flat]

theorem Elt.rowLeaf (h : Elt α f sz) (L : List α) : (rowC (L.map f)).all AV.leaf = true := by
  rw [List.all_eq_true]
  intro x hx
  obtain ⟨p, hp, rfl⟩ := List.mem_map.1 hx
  obtain ⟨y, hy, hp⟩ := List.mem_flatMap.1 hp
  obtain ⟨a, _, rfl⟩ := List.mem_map.1 hy
  exact List.all_eq_true.1 (h.leaf a) p hp

theorem rowC_append (xs ys : List PV) : rowC (xs ++ ys) = rowC xs ++ rowC ys := by simp [rowC]

theorem row_low (m : Nat) (xs : List PV) : AV.low.allLow m (rowC xs) = true := by
  unfold rowC
  induction xs.flatMap PV.cells with
  | nil => rfl
  | cons x r ih => simp only [List.map_cons, AV.low.allLow, ih, AV.low, Bool.and_self]

theorem row_cells2 {B : List Box} {g : Nat → Nat} {m : Nat} (xs : List PV) : Cells2 B g m (rowC xs) (rowC xs) := by
  unfold rowC
  induction xs.flatMap PV.cells with
  | nil => trivial
  | cons x r ih => exact ⟨.inl ⟨rfl, rfl⟩, ih⟩

theorem Elt.shutRow (h : Elt α f sz) {B : List Box} {g : Nat → Nat} {m b ver : Nat} {row : Bool} {L : List α} (hS : ∀ j, j < m → g j ≠ b) (hb : B[b]? = some (.cells row ver (rowC (L.map f)))) : WCell B g m (.rs b ver sz 0 L.length) (vl (L.map f)) := by
  refine .inr (.row b ver sz 0 L.length row _ _ hS hb (by simp) ?_ (by rw [h.rowLen]; omega))
  rw [List.drop_zero, ← h.rowLen, List.take_length]
  rfl

theorem Elt.sealed (h : Elt α f sz) {B : List Box} {S : Nat → Prop} {b ver : Nat} {row : Bool} {L : List α} (hS : S b) (hb : B[b]? = some (.cells row ver (rowC (L.map f)))) : Sealed S B (.rs b ver sz 0 L.length) (vl (L.map f)) := by
  refine .row b ver sz 0 L.length row _ _ hS hb (by simp) ?_ (by rw [h.rowLen]; omega)
  rw [List.drop_zero, ← h.rowLen, List.take_length]
  rfl

/-! ### What a row's type is -/
structure RowTy (P : Program) (t e : TypeId) (sz bytes : Nat) : Prop where
  elem : elemT P t = some e
  size : sizeT P e = some sz
  byts : (P.info? e).map (·.bytes) = some bytes
  zero : (Nat.beq sz 0 || Nat.beq bytes 0 || !((zeroA P e).map (·.length) == some sz) || !((zeroA P e).map (·.all AV.leaf) == some true)) = false

theorem RowTy.und {t e bytes : Nat} (h : RowTy P t e sz bytes) : P.underlying t = some (.slice e) := elemT_some h.elem

theorem src_ls (h : Elt α f sz) {t e bytes : Nat} (ht : RowTy P t e sz bytes) {B : List Box} (L : List α) : srcA P t B sz (vl (L.map f)) = some (L.length, rowC (L.map f)) := by
  unfold srcA
  rw [ht.und]
  simp only
  rw [if_pos (h.all L)]
  simp [rowC]

theorem src_rs (h : Elt α f sz) {t e bytes : Nat} (ht : RowTy P t e sz bytes) {B : List Box} {b v : Nat} {row : Bool} {L : List α} (hb : B[b]? = some (.cells row v (rowC (L.map f)))) : srcA P t B sz (.rs b v sz 0 L.length) = some (L.length, rowC (L.map f)) := by
  unfold srcA
  rw [ht.und]
  simp only [hb, Nat.beq_refl, beq_self_eq_true, Bool.and_self, if_true, List.drop_zero]
  rw [← h.rowLen, List.take_length]

theorem src_nil {t e bytes : Nat} (ht : RowTy P t e sz bytes) {B : List Box} : srcA P t B sz nilS = some (0, rowC (([] : List α).map f)) := by
  unfold srcA
  rw [ht.und]
  rfl

theorem append_row (h : Elt α f sz) {t tx e bytes : Nat} (ht : RowTy P t e sz bytes) {B : List Box} {b v : Nat} {X Y : List α} {src : AV} (hb : B[b]? = some (.cells true v (rowC (X.map f)))) (hs : srcA P tx B sz src = some (Y.length, rowC (Y.map f)))
    (hl : ((X ++ Y).length : Int) ≤ 1000000000) (hbytes : bytes ≤ 140000) : appendA P t tx B (.rs b v sz 0 X.length) src = some (.rs b (v + 1) sz 0 (X ++ Y).length, B.set b (.cells true (v + 1) (rowC ((X ++ Y).map f)))) := by
  unfold appendA
  rw [ht.elem]
  simp only [Option.bind_some, ht.size]
  rw [ht.byts]
  simp only [Option.bind_some]
  rw [if_neg (by rw [ht.zero]; simp), hs]
  simp only [Option.bind_some]
  rw [if_neg (by rw [h.rowLeaf, h.rowLen]; simp)]
  simp only [hb, Nat.beq_refl, beq_self_eq_true, Bool.and_self, Bool.true_and]
  have hle : (X.length + Y.length) * bytes ≤ 140737488355328 := by
    have h1 : X.length + Y.length ≤ 1000000000 := by simp at hl; omega
    exact Nat.le_trans (Nat.mul_le_mul h1 hbytes) (by decide)
  rw [if_pos (by rw [Nat.ble_eq]; exact hle), List.drop_zero, ← h.rowLen, List.take_length, ← rowC_append, List.map_append, List.length_append]

theorem append_nil (h : Elt α f sz) {t tx e bytes : Nat} (ht : RowTy P t e sz bytes) {B : List Box} {Y : List α} {src : AV} (hs : srcA P tx B sz src = some (Y.length, rowC (Y.map f)))
    (hl : (Y.length : Int) ≤ 1000000000) (hbytes : bytes ≤ 140000) : appendA P t tx B nilS src = some (.rs B.length 0 sz 0 Y.length, B ++ [.cells true 0 (rowC (Y.map f))]) := by
  unfold appendA
  rw [ht.elem]
  simp only [Option.bind_some, ht.size]
  rw [ht.byts]
  simp only [Option.bind_some]
  rw [if_neg (by rw [ht.zero]; simp), hs]
  simp only [Option.bind_some]
  rw [if_neg (by rw [h.rowLeaf, h.rowLen]; simp)]
  have hle : Y.length * bytes ≤ 140737488355328 := by
    have h1 : Y.length ≤ 1000000000 := by omega
    exact Nat.le_trans (Nat.mul_le_mul h1 hbytes) (by decide)
  rw [if_pos (by rw [Nat.ble_eq]; exact hle)]

theorem slice_h (h : Elt α f sz) {t e bytes : Nat} (ht : RowTy P t e sz bytes) {B B2 : List Box} {L : List α} {hi : Int} (h0 : 0 ≤ hi ∧ hi ≤ (L.length : Int)) :
    ((sliceA P t B (vl (L.map f)) none (some (vi hi))).map fun v => (v, B2)) = some (vl ((L.take (Int.toNat hi)).map f), B2) := by
  unfold sliceA
  rw [ht.und]
  simp only [ht.size, Option.bind_some, boundsA, boundA, intA, List.length_map]
  rw [if_pos h0]
  simp only [Option.bind_some]
  rw [if_pos (h.all L)]
  simp

theorem slice_l (h : Elt α f sz) {t e bytes : Nat} (ht : RowTy P t e sz bytes) {B B2 : List Box} {L : List α} {lo : Int} (h0 : 0 ≤ lo ∧ lo ≤ (L.length : Int)) :
    ((sliceA P t B (vl (L.map f)) (some (vi lo)) none).map fun v => (v, B2)) = some (vl ((L.drop (Int.toNat lo)).map f), B2) := by
  unfold sliceA
  rw [ht.und]
  simp only [ht.size, Option.bind_some, boundsA, boundA, intA, List.length_map]
  rw [if_pos h0]
  simp only [Option.bind_some]
  rw [if_pos (h.all L)]
  have e1 : (L.map f).take L.length = L.map f := List.take_of_length_le (by simp)
  simp [e1]

theorem slice_lh (h : Elt α f sz) {t e bytes : Nat} (ht : RowTy P t e sz bytes) {B B2 : List Box} {L : List α} {lo hi : Int} (h0 : 0 ≤ hi ∧ hi ≤ (L.length : Int)) (h1 : 0 ≤ lo ∧ lo ≤ hi) :
    ((sliceA P t B (vl (L.map f)) (some (vi lo)) (some (vi hi))).map fun v => (v, B2)) = some (vl (((L.take (Int.toNat hi)).drop (Int.toNat lo)).map f), B2) := by
  unfold sliceA
  rw [ht.und]
  simp only [ht.size, Option.bind_some, boundsA, boundA, intA, List.length_map]
  rw [if_pos h0]
  simp only [Option.bind_some]
  rw [if_pos (by omega)]
  simp only [Option.bind_some, Option.map_some]
  rw [if_pos (h.all L)]
  simp

theorem wrap_i64 {x : Int} (h : -9223372036854775808 ≤ x ∧ x < 9223372036854775808) : IntKind.i64.wrap x = x := by
  simp [IntKind.wrap, IntKind.bits, IntKind.signed]
  omega

end Go.Ax
