/- What one operation does in a world is what the second reading says: addresses, parts, slices, lengths, conversions. -/
import Derived.Test.YtnhhaidlpbkmjaaBx7
import Derived.Laws.Slices
set_option linter.unusedVariables false
set_option linter.unusedSimpArgs false
set_option linter.unusedSectionVars false
namespace Go.Ax
open Go.RowKit

variable [Glob] {P : Program} {F : Nat → Prop}

theorem un_run {B : List Box} {ρ : Loc} {w : World} {op : UnOp} {x v : AV} {ux : Value} (hx : VRel F B ρ w x ux) (hm : unA op x = some v) : ∃ z, (Op.unary op ux).run P w = .ok z w ∧ VRel F B ρ w v z := by
  unfold unA at hm
  split at hm
  · obtain rfl := hx.val; cases hm; exact ⟨_, rfl, .p _ _ (.v _)⟩
  · obtain rfl := hx.val; cases hm; exact ⟨_, rfl, .p _ _ (.v _)⟩
  · obtain rfl := hx.val; cases hm; exact ⟨_, by simp [Op.unary, Op.intBits], .p _ _ (.v _)⟩
  · cases hm

theorem fieldOff_some {t : TypeId} {j off : Nat} {ft : TypeId} (h : fieldOff P t j = some (off, ft)) : ∃ fs f, P.underlying t = some (.struct fs) ∧ fs[j]? = some f ∧ f.offset = off ∧ f.type = ft := by
  unfold fieldOff at h
  cases hf : fieldsT P t with
  | none => rw [hf] at h; cases h
  | some fs =>
    rw [hf] at h
    simp only [Option.bind_some] at h
    cases hj : fs[j]? with
    | none => rw [hj] at h; cases h
    | some f =>
      rw [hj] at h
      cases h
      exact ⟨fs, f, fieldsT_some hf, hj, rfl, rfl⟩

theorem add_add (a : Addr) (i j : Nat) (h : a.spot = none) : (a.add i).add j = a.add (i + j) := by
  obtain ⟨b, o, s⟩ := a
  simp only at h
  subst h
  rw [Addr.add_lit, Addr.add_lit, Addr.add_lit, Nat.add_assoc]

theorem add_plain (a : Addr) (i : Nat) (h : a.spot = none) : (a.add i).spot = none ∧ (a.add i).block = a.block := by
  obtain ⟨b, o, s⟩ := a
  simp only at h
  subst h
  rw [Addr.add_lit]
  exact ⟨rfl, rfl⟩

/-- Further along a read-only address. -/
theorem rp_drop {B : List Box} {ρ : Loc} {w : World} {cs : List PV} {a : Addr} (h : VRel F B ρ w (.rp cs) (.pointer (some a))) (n : Nat) (hn : n ≤ cs.length) : VRel F B ρ w (.rp (cs.drop n)) (.pointer (some (a.add n))) := by
  cases h with
  | rp _ _ us h1 h2 h3 h4 h5 h6 =>
    obtain ⟨e1, e2⟩ := add_plain a n h1
    refine .rp _ _ (us.drop n) e1 (by rw [e2]; exact h2) (by rw [e2]; exact h3) (by simp [h4]) (fun j u hj => ?_) (fun j p u hp hu => ?_)
    · rw [List.getElem?_drop] at hj
      rw [add_add _ _ _ h1]
      exact h5 _ u hj
    · rw [List.getElem?_drop] at hp hu
      exact h6 _ p u hp hu

theorem ptr_add {B : List Box} {ρ : Loc} {w : World} {b ver o : Nat} {a : Addr} (h : VRel F B ρ w (.ptr b ver o) (.pointer (some a))) (n : Nat) : VRel F B ρ w (.ptr b ver (o + n)) (.pointer (some (a.add n))) := by
  cases h with
  | ptr _ _ _ _ hp =>
    refine .ptr _ _ _ _ ⟨hp.1, fun row v cs hb => ?_⟩
    obtain ⟨h1, h2⟩ := hp.2 row v cs hb
    refine ⟨h1, fun e => ?_⟩
    obtain ⟨k, o', hr, rfl⟩ := h2 e
    exact ⟨k, o', hr, by rw [Addr.add_lit, Nat.add_assoc]⟩

theorem fieldAddr_run {B : List Box} {ρ : Loc} {w : World} {t : TypeId} {j : Nat} {x v : AV} {ux : Value} (hx : VRel F B ρ w x ux) (hm : fieldAddrA P t j x = some v) : ∃ z, (Instr.fieldAt t ux j).run P w = .ok z w ∧ VRel F B ρ w v z := by
  unfold fieldAddrA at hm
  cases hf : fieldOff P t j with
  | none => rw [hf] at hm; cases hm
  | some q =>
  obtain ⟨off, ft⟩ := q
  rw [hf] at hm
  simp only [Option.bind_some] at hm
  cases hs : sizeT P ft with
  | none => rw [hs] at hm; cases hm
  | some n =>
  rw [hs] at hm
  simp only [Option.bind_some] at hm
  split at hm
  · cases hm
  rename_i hn
  have hn0 : ¬ (n = 0) := fun h => by subst h; exact hn rfl
  obtain ⟨fs, f, h1, h2, rfl, rfl⟩ := fieldOff_some hf
  have run : ∀ a : Addr, (Instr.fieldAt t (.pointer (some a)) j).run P w = .ok (.pointer (some (a.add f.offset))) w := fun a => by
    simp [Instr.fieldAt, run_underlying h1, h2, Instr.sureAddr, fieldPlace, sizeOf_run w hs, hn0]
  split at hm
  · cases hm
    cases hx with
    | ptr _ _ _ a hp => exact ⟨_, run a, ptr_add (.ptr _ _ _ _ hp) _⟩
  · split at hm
    · rename_i hle
      rw [Nat.ble_eq] at hle
      cases hm
      cases hx with
      | rp _ a us g1 g2 g3 g4 g5 g6 => exact ⟨_, run a, rp_drop (.rp _ _ _ g1 g2 g3 g4 g5 g6) _ hle⟩
    · cases hm
  · cases hm

theorem part_run {B : List Box} {ρ : Loc} {w : World} {t : TypeId} {cs : List AV} {us : List Value} {off : Nat} {v : AV} (hl : cs.length = us.length) (hc : ∀ (j : Nat) (p : AV) (u : Value), cs[j]? = some p → us[j]? = some u → VRel F B ρ w p u)
    (hm : partA P t cs off = some v) : ∃ z, (part t us.toArray off).run P w = .ok z w ∧ VRel F B ρ w v z := by
  unfold partA at hm
  split at hm
  · cases hm
  rename_i hu
  obtain ⟨d, hd⟩ := undT_some (P := P) (t := t) (by simpa using hu)
  split at hm
  · rename_i ha
    cases hs : sizeT P t with
    | none => rw [hs] at hm; cases hm
    | some n =>
      rw [hs] at hm
      simp only [Option.bind_some] at hm
      split at hm
      · rename_i hle
        rw [Nat.ble_eq] at hle
        cases hm
        refine ⟨.agg ((us.drop off).take n).toArray, ?_, .agg _ _ (by simp [hl]) (fun j p u hp hu => ?_)⟩
        · simp only [part, Sem.run_bind, isAgg_run t w hd, Result.andThen_ok, ha, if_true, sizeOf_run w hs, Sem.run_pure]
          congr 2
          apply Array.ext'
          simp [List.extract_eq_take_drop]
        · rw [List.getElem?_take] at hp hu
          split at hp
          · rename_i hlt
            rw [if_pos hlt] at hu
            rw [List.getElem?_drop] at hp hu
            exact hc _ p u hp hu
          · cases hp
      · cases hm
  · rename_i ha
    have hj : off < us.length := by rw [← hl]; exact (List.getElem?_eq_some_iff.1 hm).1
    refine ⟨us[off], ?_, hc off v _ hm (List.getElem?_eq_getElem hj)⟩
    simp only [part, Sem.run_bind, isAgg_run t w hd, Result.andThen_ok, ha]
    simp [hj]

theorem field_run {B : List Box} {ρ : Loc} {w : World} {t : TypeId} {j : Nat} {x v : AV} {ux : Value} (hx : VRel F B ρ w x ux) (hm : fieldA P t j x = some v) : ∃ z, (Instr.field t ux j).run P w = .ok z w ∧ VRel F B ρ w v z := by
  unfold fieldA at hm
  cases hf : fieldOff P t j with
  | none => rw [hf] at hm; cases hm
  | some q =>
  obtain ⟨off, ft⟩ := q
  rw [hf] at hm
  simp only [Option.bind_some] at hm
  obtain ⟨fs, f, h1, h2, rfl, rfl⟩ := fieldOff_some hf
  split at hm
  · cases hs : sizeT P f.type with
    | none => rw [hs] at hm; cases hm
    | some n =>
      rw [hs] at hm
      simp only [Option.bind_some] at hm
      obtain ⟨us, rfl, g1, g2⟩ := hx.agg_inv
      obtain ⟨z, e1, e2⟩ := part_run g1 g2 hm
      refine ⟨z, ?_, e2⟩
      simp [Instr.field, run_underlying h1, h2, asAgg, e1]
  · cases hm

theorem intA_some {x : AV} {n : Int} (h : intA x = some n) : ∃ k, x = .p (.v (.int k n)) := by
  unfold intA at h
  split at h
  · cases h; exact ⟨_, rfl⟩
  · cases h

theorem ls_inv {B : List Box} {ρ : Loc} {w : World} {xs : List PV} {u : Value} (h : VRel F B ρ w (.p (.ls xs)) u) : (∃ a cap, u = .slice a 0 cap ∧ xs = [] ∧ (a.isSome ∨ cap = 0)) ∨
    ∃ a cap us, u = .slice (some a) xs.length cap ∧ a.spot = none ∧ ¬ Own F B ρ a.block ∧ a.block < w.heap.size ∧ xs.length ≤ cap ∧ (xs.flatMap PV.cells).length = List.length us ∧ (∀ (j : Nat) (u : Value), us[j]? = some u → w.cell? (a.add j) = some u) ∧
      ∀ (j : Nat) (p : PV) (u : Value), (xs.flatMap PV.cells)[j]? = some p → us[j]? = some u → PRel (Own F B ρ) w p u := by
  cases h with
  | p _ _ hp =>
    cases hp with
    | nil a cap h => exact .inl ⟨a, cap, rfl, rfl, h⟩
    | ls _ a cap us h1 h2 h3 h4 h5 h6 h7 => exact .inr ⟨a, cap, us, rfl, h1, h2, h3, h4, h5, h6, h7⟩

theorem flat_at (xs : List PV) (sz : Nat) (h : ∀ y ∈ xs, y.cells.length = sz) (i : Nat) (y : PV) (hy : xs[i]? = some y) (j : Nat) (hj : j < sz) : (xs.flatMap PV.cells)[i * sz + j]? = y.cells[j]? := by
  induction xs generalizing i with
  | nil => simp at hy
  | cons x xs ih =>
    have hx := h x (List.mem_cons_self ..)
    cases i with
    | zero =>
      simp at hy
      subst hy
      rw [List.flatMap_cons, List.getElem?_append_left (by omega), Nat.zero_mul, Nat.zero_add]
    | succ i =>
      rw [List.flatMap_cons, List.getElem?_append_right (by rw [hx, Nat.succ_mul]; omega), hx, show (i + 1) * sz + j - sz = i * sz + j by rw [Nat.succ_mul]; omega]
      exact ih (fun y hy => h y (List.mem_cons_of_mem _ hy)) i (by simpa using hy)

theorem flat_length (xs : List PV) (sz : Nat) (h : ∀ y ∈ xs, y.cells.length = sz) : (xs.flatMap PV.cells).length = xs.length * sz := by
  induction xs with
  | nil => simp
  | cons x xs ih =>
    rw [List.flatMap_cons, List.length_append, h x (List.mem_cons_self ..), ih (fun y hy => h y (List.mem_cons_of_mem _ hy)), List.length_cons, Nat.succ_mul]
    omega

theorem arr_run_index {w : World} {t e : TypeId} {n sz : Nat} (h1 : P.underlying t = some (.array n e)) (hs : sizeT P e = some sz) (a : Addr) (k : IntKind) (i : Int) (h0 : 0 ≤ i) (h2 : i < (n : Int)) :
    (Instr.indexAt t (.pointer (some a)) (.int k i)).run P w = .ok (.pointer (some (a.add (i.toNat * sz)))) w := by
  simp [Instr.indexAt, asIntOf, run_underlying h1, Instr.sureAddr, h0, h2, sizeOf_run w hs]

theorem slc_run_index {w : World} {t e : TypeId} {sz : Nat} (h1 : P.underlying t = some (.slice e)) (hs : sizeT P e = some sz) (a : Addr) (n c : Nat) (k : IntKind) (i : Int) (h0 : 0 ≤ i) (h2 : i < (n : Int)) :
    (Instr.indexAt t (.slice (some a) n c) (.int k i)).run P w = .ok (.pointer (some (a.add (i.toNat * sz)))) w := by
  simp [Instr.indexAt, asIntOf, run_underlying h1, h0, h2, sizeOf_run w hs]

theorem indexAddr_run {B : List Box} {ρ : Loc} {w : World} {t : TypeId} {x i v : AV} {ux ui : Value} (hx : VRel F B ρ w x ux) (hi : VRel F B ρ w i ui) (hm : indexAddrA P t x i = some v) :
    ∃ z, (Instr.indexAt t ux ui).run P w = .ok z w ∧ VRel F B ρ w v z := by
  unfold indexAddrA at hm
  cases hn : intA i with
  | none => rw [hn] at hm; cases hm
  | some n =>
  rw [hn] at hm
  simp only [Option.bind_some] at hm
  obtain ⟨k, rfl⟩ := intA_some hn
  obtain rfl := hi.val
  split at hm
  · cases hm
  rename_i hneg
  have h0 : 0 ≤ n := by omega
  split at hm
  · rename_i e hu
    cases hs : sizeT P e with
    | none => rw [hs] at hm; cases hm
    | some sz =>
    rw [hs] at hm
    simp only [Option.bind_some] at hm
    split at hm
    · rename_i xs
      split at hm
      · rename_i hall
        rw [List.all_eq_true] at hall
        have hall' : ∀ y ∈ xs, y.cells.length = sz := fun y hy => by simpa using hall y hy
        cases hq : xs[n.toNat]? with
        | none => rw [hq] at hm; cases hm
        | some y =>
          rw [hq] at hm
          cases hm
          have hlt : n.toNat < xs.length := (List.getElem?_eq_some_iff.1 hq).1
          have hmem : y ∈ xs := List.mem_of_getElem? hq
          rcases ls_inv hx with ⟨_, _, _, rfl, _⟩ | ⟨a, cap, us, rfl, g1, g2, g3, g4, g5, g6, g7⟩
          · simp at hlt
          · refine ⟨_, slc_run_index hu hs a _ cap k n h0 (by omega), ?_⟩
            obtain ⟨e1, e2⟩ := add_plain a (n.toNat * sz) g1
            have hfl := flat_length xs sz hall'
            have hyl := hall' y hmem
            have hmul : (n.toNat + 1) * sz ≤ xs.length * sz := Nat.mul_le_mul_right _ hlt
            rw [Nat.succ_mul] at hmul
            refine .rp _ _ ((us.drop (n.toNat * sz)).take sz) e1 (by rw [e2]; exact g2) (by rw [e2]; exact g3) (by simp; omega) (fun j u hj => ?_) (fun j p u hp hu => ?_)
            · rw [List.getElem?_take] at hj
              split at hj
              · rw [List.getElem?_drop] at hj
                rw [add_add _ _ _ g1]
                exact g6 _ u hj
              · cases hj
            · rw [List.getElem?_take] at hu
              split at hu
              · rename_i hjs
                rw [List.getElem?_drop] at hu
                refine g7 _ p u ?_ hu
                rw [flat_at xs sz hall' _ y hq j hjs]
                exact hp
              · cases hu
      · cases hm
    · rename_i b ver sz' off len
      split at hm
      · rename_i hc
        simp only [Bool.and_eq_true, decide_eq_true_eq, beq_iff_eq] at hc
        obtain ⟨hlt, rfl⟩ := hc
        cases hm
        cases hx with
        | rs _ _ _ _ _ a cap hok =>
          obtain ⟨g1, g2, g3, g4⟩ := hok
          have hcap : 0 < cap := by omega
          cases a with
          | none => exact absurd (g3 hcap) (by simp)
          | some a =>
            refine ⟨_, slc_run_index hu hs a _ cap k n h0 (by omega), .ptr _ _ _ _ ⟨g1, fun row v cs hb => ?_⟩⟩
            obtain ⟨l1, l2⟩ := g4 row v cs hb
            refine ⟨l1, fun e => ?_⟩
            obtain ⟨_, l3⟩ := l2 e
            rcases l3 with h | ⟨k', o', hr, ha, _⟩
            · omega
            · simp only [Option.some.injEq] at ha
              subst ha
              exact ⟨k', o', hr, by rw [Addr.add_lit, Nat.add_assoc]⟩
      · cases hm
    · cases hm
  · rename_i len e hu
    cases hs : sizeT P e with
    | none => rw [hs] at hm; cases hm
    | some sz =>
    rw [hs] at hm
    simp only [Option.bind_some] at hm
    split at hm
    · split at hm
      · rename_i hc
        simp only [Bool.and_eq_true, decide_eq_true_eq] at hc
        cases hm
        cases hx with
        | ptr _ _ _ a hp => exact ⟨_, arr_run_index hu hs a k n h0 (by omega), ptr_add (.ptr _ _ _ _ hp) _⟩
      · cases hm
    · split at hm
      · rename_i hc
        simp only [Bool.and_eq_true, decide_eq_true_eq, Nat.ble_eq] at hc
        cases hm
        cases hx with
        | rp _ a us g1 g2 g3 g4 g5 g6 => exact ⟨_, arr_run_index hu hs a k n h0 (by omega), rp_drop (.rp _ _ _ g1 g2 g3 g4 g5 g6) _ hc.1.2⟩
      · cases hm
    · cases hm
  · cases hm

theorem index_run {B : List Box} {ρ : Loc} {w : World} {t : TypeId} {x i v : AV} {ux ui : Value} (hx : VRel F B ρ w x ux) (hi : VRel F B ρ w i ui) (hm : indexA P t x i = some v) :
    ∃ z, (Instr.index t ux ui).run P w = .ok z w ∧ VRel F B ρ w v z := by
  unfold indexA at hm
  cases hn : intA i with
  | none => rw [hn] at hm; cases hm
  | some n =>
  rw [hn] at hm
  simp only [Option.bind_some] at hm
  obtain ⟨k, rfl⟩ := intA_some hn
  obtain rfl := hi.val
  split at hm
  · cases hm
  rename_i hneg
  have h0 : 0 ≤ n := by omega
  split at hm
  · rename_i len e cs hu
    cases hs : sizeT P e with
    | none => rw [hs] at hm; cases hm
    | some sz =>
      rw [hs] at hm
      simp only [Option.bind_some] at hm
      split at hm
      · rename_i hlt
        obtain ⟨us, rfl, g1, g2⟩ := hx.agg_inv
        obtain ⟨z, e1, e2⟩ := part_run g1 g2 hm
        refine ⟨z, ?_, e2⟩
        have h2 : n < (len : Int) := by omega
        simp [Instr.index, asIntOf, run_underlying hu, h0, h2, sizeOf_run w hs, e1]
      · cases hm
  · rename_i s hu
    obtain rfl := hx.val
    cases hq : s[n.toNat]? with
    | none => rw [hq] at hm; cases hm
    | some b =>
      rw [hq] at hm
      cases hm
      exact ⟨_, by simp [Instr.index, asIntOf, run_underlying hu, h0, hq], .p _ _ (.v _)⟩
  · cases hm

end Go.Ax
