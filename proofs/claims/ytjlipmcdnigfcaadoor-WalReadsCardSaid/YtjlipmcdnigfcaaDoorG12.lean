/- Code that can be reckoned to its end, loops and all. -/
import Derived.Test.YtjlipmcdnigfcaaDoorG11
import Derived.Lib.SmallJoins
import Derived.ChangeOld
import Derived.Carry
import Derived.ShutString
set_option linter.unusedVariables false
set_option linter.unusedSimpArgs false
set_option linter.unusedSectionVars false
namespace Go.Ax
open Go.RowKit
variable [Glob]

def loopF : Nat → (AS → Option (AE × AS)) → AS → Option (AE × AS)
  | 0, _, _ => none
  | k + 1, body, s =>
    match body s with
    | none => none
    | some (.normal, s') => loopF k body s'
    | some (.exit i, s') => some (.exit i, s')
    | some (.ret, s') => some (.ret, s')

def codeF (P : Program) (Γ : Env) (fuel n : Nat) : Code → AS → Option (AE × AS)
  | .skip, s => some (.normal, s)
  | .region _ ops draw, s =>
    if draw then (if drawOk P Γ ops.toList then (opsD P Γ n s.B.length ops.toList ops.toList s).map fun s' => (.normal, s') else none)
    else (opsA P Γ n ops.toList ops.toList s).map fun s' => (.normal, s')
  | .seq a b, s =>
    (codeF P Γ fuel n a s).bind fun r =>
      match r with
      | (.normal, s') => codeF P Γ fuel n b s'
      | (.exit i, s') => some (.exit i, s')
      | (.ret, s') => some (.ret, s')
  | .cond c x y, s => (boolA (evalA s.t c)).bind fun q => if q then codeF P Γ fuel n x s else codeF P Γ fuel n y s
  | .block id b, s =>
    (codeF P Γ fuel n b s).map fun r =>
      match r with
      | (.exit i, s') => if Nat.beq i id then (.normal, s') else (.exit i, s')
      | (.normal, s') => (.normal, s')
      | (.ret, s') => (.ret, s')
  | .loop b, s => loopF fuel (codeF P Γ fuel n b) s
  | .exit id, s => some (.exit id, s)
  | .ret, s => some (.ret, s)
  | _, _ => none

variable {P : Program}

theorem loopF_sound {f g : AS → Option (AE × AS)} (h : ∀ s r, f s = some r → g s = some r) : ∀ (k : Nat) (s : AS) (r : AE × AS), loopF k f s = some r → loopM (fun s => roundOf (g s)) s = some r
  | 0, s, r, hr => by cases hr
  | k + 1, s, r, hr => by
    unfold loopF at hr
    split at hr
    · cases hr
    · rename_i s' he
      exact loopM_next (s' := s') (by simp only [h _ _ he, roundOf]) (loopF_sound h k s' r hr)
    · rename_i i s' he
      cases hr
      exact loopM_done (by simp only [h _ _ he, roundOf])
    · rename_i s' he
      cases hr
      exact loopM_done (by simp only [h _ _ he, roundOf])

theorem codeF_sound {Γ : Env} {fuel n : Nat} : ∀ (c : Code) (s : AS) (r : AE × AS), codeF P Γ fuel n c s = some r → codeA P Γ n c s = some r := by
  intro c
  induction c with
  | skip => intro s r h; exact h
  | region id ops draw => intro s r h; exact h
  | seq a b iha ihb =>
    intro s r h
    simp only [codeF] at h
    obtain ⟨⟨e, s1⟩, h1, h2⟩ := Option.bind_eq_some_iff.1 h
    simp only [codeA, iha _ _ h1, Option.bind_some]
    cases e with
    | normal => exact ihb _ _ h2
    | exit i => exact h2
    | ret => exact h2
  | cond c x y ihx ihy =>
    intro s r h
    simp only [codeF] at h
    obtain ⟨q, h1, h2⟩ := Option.bind_eq_some_iff.1 h
    simp only [codeA, h1, Option.bind_some]
    cases q with
    | true => exact ihx _ _ h2
    | false => exact ihy _ _ h2
  | block id b ih =>
    intro s r h
    simp only [codeF] at h
    obtain ⟨⟨e, s1⟩, h1, h2⟩ := map_some h
    simp only [codeA, ih _ _ h1, Option.map_some]
    cases e <;> exact congrArg some h2
  | loop b ih =>
    intro s r h
    exact loopF_sound ih fuel s r h
  | exit id => intro s r h; exact h
  | ret => intro s r h; exact h
  | _ => intro s r h; simp [codeF] at h

def fnF (P : Program) (Γ : Env) (fuel : Nat) (fn : Func) (args : List AV) (B : List Box) : Option (AV × List Box) :=
  if Nat.ble args.length fn.ntmps then
    match fn.body with
    | some c => endA P fn.results.toList (codeF P Γ fuel fn.ntmps c ⟨argsT args, B⟩)
    | none => none
  else none

theorem fnF_sound {Γ : Env} {fuel : Nat} {fn : Func} {args : List AV} {B : List Box} {r : AV × List Box} (h : fnF P Γ fuel fn args B = some r) : fnA P Γ fn args B = some r := by
  unfold fnF at h
  unfold fnA
  split at h
  · rename_i hle
    rw [if_pos hle]
    split at h
    · rename_i c hc
      rw [hc]
      show endA P fn.results.toList (codeA P Γ fn.ntmps c ⟨argsT args, B⟩) = some r
      cases hcf : codeF P Γ fuel fn.ntmps c ⟨argsT args, B⟩ with
      | none => rw [hcf] at h; cases h
      | some q => rw [hcf] at h; rw [codeF_sound _ _ _ hcf]; exact h
    · cases h
  · cases h

/-- A function that is reckoned. -/
theorem sound_fuel {Γ : Env} (hm : P.follows .mixedOrders = true) (hΓ : ∀ f, SoundF P f (Γ f)) {f : FuncId} {fn : Func} (hf : P.funcs[f]? = some fn) (he : enters P f = true) (fuel : Nat) : SoundF P f (.gen (fnF P Γ fuel fn)) :=
  sound_exact hm hΓ hf he (fun _ _ _ _ h => fnF_sound h)

/-- Reckoned to its end: one slot. -/
theorem reckoned {Γ : Env} {fuel n : Nat} {c : Code} {s : AS} {e : AE} {i : Nat} {v : AV} (hv : v.low 0 = true) (hr : v.ren (nthF []) = v) (h : (codeF P Γ fuel n c s).map (fun r => (r.1, r.2.t i)) = some (e, v)) : EvC P Γ n 0 c s e ⟨tk [(i, v)], []⟩ := by
  obtain ⟨⟨e', s'⟩, h1, h2⟩ := map_some h
  simp only [Prod.mk.injEq] at h2
  obtain ⟨rfl, h2⟩ := h2
  have hw : WeakL 0 [] ([(i, v)].map fun p => s'.t p.1) s'.B ([(i, v)].map (·.2)) [] := ⟨rfl, ⟨.inl ⟨by show s'.t i = v.ren (nthF []); rw [hr]; exact h2, hv⟩, trivial⟩, trivial⟩
  obtain ⟨g1, g2, g3⟩ := hw.weak
  exact .weakr (.run (codeF_sound _ _ _ h1)) g1 g2 g3

end Go.Ax

namespace Go.Ax
open Go.RowKit
variable [Glob]

variable {P : Program}

def noF : Nat → Prop := fun _ => False

theorem not_own {ρ : Loc} {k : Nat} : ¬ Own noF [] ρ k := fun h => own_nil h

/-- The package-level variables that nobody writes hold what is told. -/
def GlobW (w : World) : Prop := ∀ g, Glob.tab g ≠ [] → ∀ ρ, GRel noF [] ρ w g

theorem inv0 (ρ : Loc) (w : World) (hg : GlobW w) : Inv noF [] ρ w :=
  ⟨fun b row v cs h => by simp at h, fun b row v cs h => by simp at h, fun b cs Φ h => by simp at h, fun b b' x x' l l' k h => by simp at h, fun k h => h.elim, fun b x l k h => by simp at h, fun g h => hg g h ρ, fun b v cs k o h => by simp at h⟩

/-- A function whose arguments are told is called, and what it came to. -/
theorem calls_of {f : Nat} {g : List AV → Option AV} (hs : SoundF P f (.pure g)) (he : enters P f = true) {args : List AV} {r : AV} (hg : g args = some r) {us : List Value} {W : World} (hA : ArgsRel noF [] (fun _ => none) W args us) (hg' : GlobW W) :
    Calls P f us.toArray W fun e w' => ∃ v ρ, e = .returned v ∧ Below W.heap.size W w' ∧ VRel noF [] ρ w' r v := by
  have hrun : (FSpec.pure g).run args [] = some (r, []) := by simp [FSpec.run, hg]
  have fin : ∀ e w', Post noF [] (fun _ => none) W r [] e w' → ∃ v ρ, e = .returned v ∧ Below W.heap.size W w' ∧ VRel noF [] ρ w' r v := by
    rintro e w' ⟨v, ρ, rfl, _, hE, hv⟩
    exact ⟨v, ρ, rfl, ⟨hE.os, hE.tape, hE.output, hE.size, fun k hk => (hE.keep k hk not_own).1⟩, hv⟩
  rcases hs args [] r [] hrun noF (fun _ => none) W us (inv0 _ _ hg') hA with ⟨_, h⟩ | ⟨v, w', h, hp⟩
  · exact h.mono fin
  · have := enter_run he us.toArray W
    rw [this] at h
    cases h

/-- The cells of a list's elements, one by one. -/
theorem flat_rel {α : Type} {f : α → PV} {sz : Nat} (he : Elt α f sz) {R : PV → Value → Prop} : ∀ (L : List α) (css : List (List Value)), L.length = css.length →
    (∀ (i : Nat) (a : α) (cs : List Value), L[i]? = some a → css[i]? = some cs → cs.length = sz ∧ ∀ (r : Nat) (p : PV) (u : Value), (f a).cells[r]? = some p → cs[r]? = some u → R p u) →
    ((L.map f).flatMap PV.cells).length = css.flatten.length ∧ (∀ (j : Nat) (p : PV) (u : Value), ((L.map f).flatMap PV.cells)[j]? = some p → css.flatten[j]? = some u → R p u)
  | [], css, hl, h => by
    have : css = [] := List.eq_nil_of_length_eq_zero (by simpa using hl.symm)
    subst this
    exact ⟨rfl, fun j p u hp => by simp at hp⟩
  | a :: L, css, hl, h => by
    cases css with
    | nil => simp at hl
    | cons cs css =>
      obtain ⟨g1, g2⟩ := h 0 a cs rfl rfl
      obtain ⟨i1, i2⟩ := flat_rel he L css (by simpa using hl) (fun i b ds hb hd => h (i + 1) b ds (by simpa using hb) (by simpa using hd))
      have hs := he.size a
      refine ⟨by rw [List.map_cons, List.flatMap_cons, List.flatten_cons, List.length_append, List.length_append, i1]; omega, fun j p u hp hu => ?_⟩
      rw [List.map_cons, List.flatMap_cons, List.getElem?_append] at hp
      rw [List.flatten_cons, List.getElem?_append] at hu
      split at hp
      · rw [if_pos (by omega)] at hu
        exact g2 j p u hp hu
      · rw [if_neg (by omega)] at hu
        rw [hs] at hp
        rw [g1] at hu
        exact i2 _ p u hp hu

theorem flat_cell {w : World} {a : Addr} {sz : Nat} : ∀ (css : List (List Value)) (k : Nat), (∀ (i : Nat) (cs : List Value), css[i]? = some cs → cs.length = sz ∧ ∀ (r : Nat) (u : Value), cs[r]? = some u → w.cell? (a.add ((k + i) * sz + r)) = some u) →
    ∀ (j : Nat) (u : Value), css.flatten[j]? = some u → w.cell? (a.add (k * sz + j)) = some u
  | [], _, _, j, u, h => by simp at h
  | cs :: css, k, h, j, u, hu => by
    obtain ⟨g1, g2⟩ := h 0 cs rfl
    rw [List.flatten_cons, List.getElem?_append] at hu
    split at hu
    · have := g2 j u hu
      simpa using this
    · have := flat_cell css (k + 1) (fun i ds hd => by
        have := h (i + 1) ds (by simpa using hd)
        rw [show k + 1 + i = k + (i + 1) by omega]
        exact this) _ u hu
      rw [show k * sz + j = (k + 1) * sz + (j - cs.length) by rw [Nat.succ_mul]; omega]
      exact this

/-- A slice that came in, its elements told by f. -/
theorem open_list {H : Type} {enc : TypeId × Value → H} {w : World} {base : Nat} {spare : Nat → Bool} {held : Bool} {O : Nat → Prop} (hO : ∀ k, ¬ O k) {t e : TypeId} (ht : P.underlying t = some (.slice e)) {α : Type} {f : α → PV} {sz : Nat} (he : Elt α f sz) (hpos : 0 < sz) (hc : P.cellsOf e = sz) {Q : α → Prop}
    (hel : ∀ n cs' y, DataW.trod enc P w base spare held n e cs' = some y → ∃ a : α, Q a ∧ cs'.length = sz ∧ ∀ (r : Nat) (p : PV) (u : Value), (f a).cells[r]? = some p → cs'[r]? = some u → PRel O w p u)
    {fuel : Nat} {v : Value} {x : DataW H × List MemPlace} (h : DataW.trod enc P w base spare held fuel t [v] = some x) : ∃ L : List α, (∀ a ∈ L, Q a) ∧ PRel O w (.ls (L.map f)) v := by
  rcases Deep.open_slice ht h with ⟨h1, _⟩ | ⟨a, len, cap, m, n, D, Pl, h1, hb, hl, hm, hmm, _, hx⟩
  · cases h1
    exact ⟨[], fun a ha => by simp at ha, .nil none 0 (.inr rfl)⟩
  · cases h1
    rw [hc] at hx
    have hlm : len ≤ m := by rw [hmm]; split <;> omega
    have hx2 : ∀ i, i < len → ∃ q : List Value × α, w.cells? base (a.add (i * sz)) sz = some q.1 ∧ Q q.2 ∧ q.1.length = sz ∧ ∀ (r : Nat) (p : PV) (u : Value), (f q.2).cells[r]? = some p → q.1[r]? = some u → PRel O w p u := by
      intro i hi
      obtain ⟨cs', g1, g2⟩ := hx i (by omega)
      obtain ⟨b, g3, g4⟩ := hel _ _ _ g2
      exact ⟨(cs', b), g1, g3, g4⟩
    obtain ⟨qs, q1, q2⟩ := exists_list len (fun i (q : List Value × α) => w.cells? base (a.add (i * sz)) sz = some q.1 ∧ Q q.2 ∧ q.1.length = sz ∧ ∀ (r : Nat) (p : PV) (u : Value), (f q.2).cells[r]? = some p → q.1[r]? = some u → PRel O w p u) hx2
    refine ⟨qs.map (·.2), fun b hb => ?_, ?_⟩
    · obtain ⟨q, hq, rfl⟩ := List.mem_map.1 hb
      obtain ⟨i, hi⟩ := List.getElem?_of_mem hq
      exact (q2 i q hi).2.1
    · obtain ⟨f1, f2⟩ := flat_rel he (R := PRel O w) (qs.map (·.2)) (qs.map (·.1)) (by simp) (fun i b cs hb' hcs => by
        rw [List.getElem?_map] at hb' hcs
        cases hq : qs[i]? with
        | none => rw [hq] at hb'; cases hb'
        | some q =>
          rw [hq] at hb' hcs
          cases hb'
          cases hcs
          exact (q2 i q hq).2.2)
      have hcell : ∀ (j : Nat) (u : Value), ((qs.map (·.1)).flatten)[j]? = some u → w.cell? (a.add j) = some u := by
        intro j u hu
        have := flat_cell (w := w) (a := a) (sz := sz) (qs.map (·.1)) 0 (fun i cs hcs => by
          rw [List.getElem?_map] at hcs
          cases hq : qs[i]? with
          | none => rw [hq] at hcs; cases hcs
          | some q =>
            rw [hq] at hcs
            cases hcs
            obtain ⟨g1, _, g3, _⟩ := q2 i q hq
            obtain ⟨_, _, g5⟩ := World.cells?_some g1
            refine ⟨g3, fun r u hr => ?_⟩
            have hr' : r < sz := by rw [← g3]; exact (List.getElem?_eq_some_iff.1 hr).1
            have := g5 r hr'
            rw [Deep.add_add] at this
            rw [Nat.zero_add, this]
            exact hr) j u hu
        simpa using this
      by_cases h0 : len = 0
      · have : qs = [] := List.eq_nil_of_length_eq_zero (by omega)
        subst this
        subst h0
        exact .nil (some a) cap (.inl rfl)
      · have hfl : 0 < ((qs.map (·.1)).flatten).length := by
          rw [← f1, he.flat]
          exact Nat.mul_pos (by simp; omega) hpos
        have hc0 := hcell 0 _ (List.getElem?_eq_getElem hfl)
        have hsp : a.spot = none := by
          have := World.cell?_spot hc0
          simpa [Addr.add] using this
        have hlt : a.block < w.heap.size := by
          unfold World.cell? at hc0
          simp only [Addr.add, if_true] at hc0
          split at hc0
          · rename_i hh; exact (Array.getElem?_eq_some_iff.1 hh).1
          · cases hc0
        have hlen : (List.map f (qs.map (·.2))).length = len := by simp [q1]
        rw [← hlen]
        exact .ls _ a cap _ hsp (hO _) hlt (by omega) f1 hcell f2

end Go.Ax

namespace Go.Ax
open Go.RowKit
variable [Glob]

variable {P : Program}

open Classical in
noncomputable def relG2 (R : List AV → List Box → AV × List Box → Prop) : List AV → List Box → Option (AV × List Box) := fun args B => if h : ∃ r, R args B r then some (Classical.choose h) else none

theorem relG2_some {R : List AV → List Box → AV × List Box → Prop} {args : List AV} {B : List Box} {r : AV × List Box} (h : relG2 R args B = some r) : R args B r := by
  unfold relG2 at h
  split at h
  · rename_i hx; cases h; exact Classical.choose_spec hx
  · cases h

theorem relG2_eq {R : List AV → List Box → AV × List Box → Prop} (hd : ∀ args B r r', R args B r → R args B r' → r = r') {args : List AV} {B : List Box} {r : AV × List Box} (h : R args B r) : relG2 R args B = some r := by
  have hx : ∃ r, R args B r := ⟨r, h⟩
  unfold relG2
  rw [dif_pos hx]
  exact congrArg some (hd _ _ _ _ (Classical.choose_spec hx) h)

theorem weak_argsB (args : List AV) (B : List Box) (h : args.all (AV.low B.length) = true) (hB : B.all (Box.low B.length) = true) : Weak ⟨argsT args, B⟩ ⟨tk (numL 0 args), B⟩ (fun j => j) := by
  refine ⟨fun i => ?_, fun j hj => hj, fun j row v cs hj => ⟨cs, hj, rfl, fun i c c' hc hc' => ?_⟩, fun i j _ _ e => e, fun j cs Φ hj => by
    rw [List.all_eq_true] at hB
    exact absurd (hB _ (List.mem_of_getElem? hj)) (by simp [Box.low])⟩
  · show tk (numL 0 args) i = .u ∨ WCell B (fun j => j) B.length (argsT args i) (tk (numL 0 args) i)
    rw [tk_numL]
    unfold argsT
    cases hi : args[i]? with
    | none => exact .inl rfl
    | some a =>
      rw [List.all_eq_true] at h
      exact .inr (.inl ⟨(ren_id a).symm, h a (List.mem_of_getElem? hi)⟩)
  · rw [hc] at hc'
    cases hc'
    rw [List.all_eq_true] at hB
    exact .inl ⟨(ren_id c).symm, allLow_get (hB _ (List.mem_of_getElem? hj)) i c hc⟩

theorem fn_gen {Γ : Env} (hm : P.follows .mixedOrders = true) (hΓ : ∀ f, SoundF P f (Γ f)) {f : FuncId} {fn : Func} (hf : P.funcs[f]? = some fn) (he : enters P f = true) (hb : fn.body.isSome = true) {R : List AV → List Box → AV × List Box → Prop}
    (h : ∀ args B r, R args B r → Nat.ble args.length fn.ntmps = true ∧ args.all (AV.low B.length) = true ∧ B.all (Box.low B.length) = true ∧ ∃ e l vs, (e = .ret ∨ e = .normal) ∧ EvC P Γ fn.ntmps B.length (bodyOf fn) ⟨tk (numL 0 args), B⟩ e ⟨tk l, r.2⟩ ∧
      resList P ⟨tk l, r.2⟩ fn.results.toList = some vs ∧ oneOf vs = r.1) : SoundF P f (.gen (relG2 R)) := by
  intro args B r B' hs F ρ w us hI hA
  obtain ⟨h1, h2, h3, e, l, vs, h4, h5, h6, h7⟩ := h args B (r, B') (relG2_some hs)
  simp only at h5 h6 h7
  subst h7
  cases hbb : fn.body with
  | none => rw [hbb] at hb; cases hb
  | some c =>
    have hc : bodyOf fn = c := by simp [bodyOf, hbb]
    rw [hc] at h5
    have hev : FnEv P Γ fn args B ⟨tk l, B'⟩ vs := ⟨h1, ⟨c, e, hbb, .weak (weak_argsB args B h2 h3) (fun _ _ => rfl) (Nat.le_refl _) h5, h4⟩, h6⟩
    exact .inl ⟨enter_run he us.toArray w, fn_calls' hm hΓ hf hev hI hA⟩

/-! ### Elements of a live row -/
variable {α : Type} {f : α → PV} {sz : Nat}

theorem Elt.flatGet (h : Elt α f sz) : ∀ (L : List α) (i k : Nat) (a : α), L[i]? = some a → k < sz → ((L.map f).flatMap PV.cells)[i * sz + k]? = (f a).cells[k]?
  | [], i, k, a, hi, _ => by simp at hi
  | x :: L, i, k, a, hi, hk => by
    rw [List.map_cons, List.flatMap_cons, List.getElem?_append]
    cases i with
    | zero =>
      cases hi
      rw [if_pos (by rw [h.size]; omega)]
      simp
    | succ i =>
      rw [if_neg (by rw [h.size, Nat.succ_mul]; omega), h.size, show (i + 1) * sz + k - sz = i * sz + k by rw [Nat.succ_mul]; omega]
      exact h.flatGet L i k a (by simpa using hi) hk

theorem row_index {t e bytes : Nat} (ht : RowTy P t e sz bytes) {b v len : Nat} {i : Int} (h0 : 0 ≤ i) (h1 : i < (len : Int)) : indexAddrA P t (.rs b v sz 0 len) (vi i) = some (.ptr b v (0 + i.toNat * sz)) := by
  unfold indexAddrA
  simp only [intA, Option.bind_some]
  rw [if_neg (by omega), ht.und]
  simp only [ht.size, Option.bind_some]
  rw [if_pos (by simp; omega)]

theorem row_load (h : Elt α f sz) {ft : TypeId} (hu : undT P ft = true) (ha : isAggT P ft = false) {B : List Box} {b v k : Nat} {row : Bool} {L : List α} {i : Int} {a : α} {c : PV} (hb : B[b]? = some (.cells row v (rowC (L.map f)))) (hi : L[i.toNat]? = some a) (hk : (f a).cells[k]? = some c) :
    loadA P ft B (.ptr b v (0 + i.toNat * sz + k)) = some (.p c) := by
  have hlt : k < sz := by
    have := (List.getElem?_eq_some_iff.1 hk).1
    rw [h.size] at this
    exact this
  have hg : (rowC (L.map f))[i.toNat * sz + k]? = some (.p c) := by
    unfold rowC
    rw [List.getElem?_map, h.flatGet L _ k a hi hlt, hk]
    rfl
  unfold loadA
  simp only [hb, Nat.beq_refl, if_true]
  unfold mkA
  rw [if_neg (by simp [hu]), if_neg (by simp [ha]), Nat.zero_add]
  rw [List.head?_drop]
  exact hg

end Go.Ax
