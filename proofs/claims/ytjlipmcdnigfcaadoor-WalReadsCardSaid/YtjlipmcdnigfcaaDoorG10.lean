/- What a function comes to; what an argument is; the end of a law's proof. -/
import Derived.Test.YtjlipmcdnigfcaaDoorG9
import Derived.ProofKit
import Derived.Deep.Slices
import Derived.OpenShut
set_option linter.unusedVariables false
set_option linter.unusedSimpArgs false
set_option linter.unusedSectionVars false
namespace Go.Ax
open Go.RowKit

variable [Glob] {P : Program} {F : Nat → Prop}

/-! ### A function -/
def resA (P : Program) (s : AS) : ResultVar → Option AV
  | .tmp i => some (s.t i)
  | .cell a ty => match s.t a with
    | .ptr b v o => loadA P ty s.B (.ptr b v o)
    | _ => none

def resList (P : Program) (s : AS) : List ResultVar → Option (List AV)
  | [] => some []
  | r :: rs => (resA P s r).bind fun v => (resList P s rs).map fun vs => v :: vs

def oneOf : List AV → AV
  | [v] => v
  | vs => .tup vs

def argsT (args : List AV) : T := fun i => (args[i]?).getD (.p (.v undef))

def endA (P : Program) (rs : List ResultVar) : Option (AE × AS) → Option (AV × List Box)
  | some (.ret, s) => (resList P s rs).map fun vs => (oneOf vs, s.B)
  | some (.normal, s) => (resList P s rs).map fun vs => (oneOf vs, s.B)
  | _ => none

/-- A function's body, at these arguments. -/
noncomputable def fnA (P : Program) (Γ : Env) (fn : Func) (args : List AV) (B : List Box) : Option (AV × List Box) :=
  if Nat.ble args.length fn.ntmps then
    match fn.body with
    | some c => endA P fn.results.toList (codeA P Γ fn.ntmps c ⟨argsT args, B⟩)
    | none => none
  else none

def resSem (tmps : Array Value) : ResultVar → Sem Value
  | .tmp t => pure (tmps.getD t undef)
  | .cell a t => do loadVar t (← asAddr (tmps.getD a undef))

theorem res_run {s : AS} {ρ : Loc} {w : World} {n : Nat} {a : Act} (hR : Rel F s.B ρ w n s.t a) {r : ResultVar} {v : AV} (h : resA P s r = some v) :
    ∃ x, (resSem a.tmps r).run P w = .ok x w ∧ VRel F s.B ρ w v x := by
  cases r with
  | tmp i => cases h; exact ⟨_, rfl, hR.tm i⟩
  | cell b ty =>
    simp only [resA] at h
    split at h
    · rename_i b' v' o hb
      have hx := hR.tm b
      rw [hb] at hx
      cases hv : a.tmps.getD b undef with
      | pointer ad =>
        rw [hv] at hx
        cases hx with
        | ptr _ _ _ ad hp =>
          obtain ⟨y, e1, e2⟩ := loadAt_run (P := P) hR.inv (.ptr _ _ _ _ hp) h
          refine ⟨y, ?_, e2⟩
          simp only [resSem, hv, asAddr, Sem.run_bind, Sem.run_pure, Result.andThen_ok]
          simpa [Instr.loadAt, Instr.sureAddr] using e1
      | _ => rw [hv] at hx; cases hx
    · cases h

theorem resList_run {s : AS} {ρ : Loc} {w : World} {n : Nat} {a : Act} (hR : Rel F s.B ρ w n s.t a) : ∀ (rs : List ResultVar) (vs : List AV), resList P s rs = some vs →
    ∃ us : List Value, (rs.mapM (resSem a.tmps)).run P w = .ok us w ∧ ArgsRel F s.B ρ w vs us
  | [], vs, h => by cases h; exact ⟨[], rfl, rfl, fun j p u hp => by simp at hp⟩
  | r :: rs, vs, h => by
    simp only [resList] at h
    obtain ⟨v, h1, h2⟩ := Option.bind_eq_some_iff.1 h
    obtain ⟨vs', h3, h4⟩ := map_some h2
    subst h4
    obtain ⟨x, e1, e2⟩ := res_run hR h1
    obtain ⟨us, e3, e4⟩ := resList_run hR rs vs' h3
    refine ⟨x :: us, ?_, by simp [e4.1], fun j p u hp hu => ?_⟩
    · rw [List.mapM_cons, Sem.run_bind, e1]
      simp only [Result.andThen_ok, Sem.run_bind]
      rw [e3]
      rfl
    · cases j with
      | zero => cases hp; cases hu; exact e2
      | succ j => exact e4.2 j p u (by simpa using hp) (by simpa using hu)

def oneV : List Value → Value
  | [v] => v
  | vs => .tuple vs.toArray

theorem results_run {fn : Func} {s : AS} {ρ : Loc} {w : World} {n : Nat} {a : Act} (hR : Rel F s.B ρ w n s.t a) {vs : List AV} (h : resList P s fn.results.toList = some vs) :
    ∃ x, (results fn a.tmps).run P w = .ok x w ∧ VRel F s.B ρ w (oneOf vs) x := by
  obtain ⟨us, e1, e2⟩ := resList_run hR _ vs h
  have hrun : (results fn a.tmps).run P w = .ok (oneV us) w := by
    have hd : results fn a.tmps = (do let vs ← fn.results.mapM (resSem a.tmps); pure (if h : vs.size = 1 then vs[0] else .tuple vs)) := by
      unfold results
      first | rfl | (congr 1; congr 1; funext r; cases r <;> rfl)
    rw [hd, Array.mapM_eq_mapM_toList]
    simp only [Sem.run_bind, Sem.run_map]
    rw [e1]
    match us with
    | [] => rfl
    | [_] => rfl
    | _ :: _ :: _ => simp only [Result.andThen_ok, Sem.run_pure, oneV]; rw [dif_neg (by simp)]
  refine ⟨oneV us, hrun, ?_⟩
  clear hrun e1 h
  match vs, us, e2 with
  | [v], [u], e2 => exact e2.2 0 v u rfl rfl
  | [], [], e2 => exact .tup [] [] rfl (fun j p u hp => by simp at hp)
  | v1 :: v2 :: vr, u1 :: u2 :: ur, e2 => exact .tup _ _ e2.1 e2.2
  | [], _ :: _, e2 => exact absurd e2.1 (by simp)
  | _ :: _, [], e2 => exact absurd e2.1 (by simp)
  | [_], _ :: _ :: _, e2 => exact absurd e2.1 (by simp)
  | _ :: _ :: _, [_], e2 => exact absurd e2.1 (by simp)

theorem fn_calls {Γ : Env} (hm : P.follows .mixedOrders = true) (hΓ : ∀ f, SoundF P f (Γ f)) {f : FuncId} {fn : Func} (hf : P.funcs[f]? = some fn) {args : List AV} {B : List Box} {r : AV} {B' : List Box} (h : fnA P Γ fn args B = some (r, B'))
    {ρ : Loc} {w : World} {us : List Value} (hI : Inv F B ρ w) (hA : ArgsRel F B ρ w args us) : Calls P f us.toArray w (Post F B ρ w r B') := by
  unfold fnA at h
  split at h
  · rename_i hle
    rw [Nat.ble_eq] at hle
    split at h
    · rename_i c hc
      refine calls_of_wp hf hc ?_
      have hsz : us.length ≤ fn.ntmps := by rw [← hA.1]; exact hle
      have hR : Rel F B ρ w fn.ntmps (argsT args) { tmps := us.toArray ++ Array.replicate (fn.ntmps - us.toArray.size) undef, defers := [] } := by
        refine ⟨hI, fun i => ?_, rfl, by simp; omega⟩
        unfold argsT
        cases hi : args[i]? with
        | none =>
          have hge : us.length ≤ i := by
            rw [← hA.1]
            exact List.getElem?_eq_none_iff.1 hi
          have : (us.toArray ++ Array.replicate (fn.ntmps - us.toArray.size) undef).getD i undef = undef := by
            rw [Array.getD_eq_getD_getElem?, Array.getElem?_append_right (by simpa using hge), Array.getElem?_replicate]
            split <;> rfl
          rw [this]
          exact .p _ _ (.v _)
        | some x =>
          have hlt : i < us.length := by rw [← hA.1]; exact (List.getElem?_eq_some_iff.1 hi).1
          have : (us.toArray ++ Array.replicate (fn.ntmps - us.toArray.size) undef).getD i undef = us[i] := by
            rw [Array.getD_eq_getD_getElem?, Array.getElem?_append_left (by simpa using hlt)]
            simp [hlt]
          rw [this]
          exact hA.2 i x _ hi (List.getElem?_eq_getElem hlt)
      unfold endA at h
      split at h
      · rename_i s hcode
        obtain ⟨vs, h1, h2⟩ := map_some h
        cases h2
        refine code_sound hm hΓ c ⟨argsT args, B⟩ (.ret, s) hcode hR (fun a' w' ρ' hR' hE => ?_)
        obtain ⟨x, e1, e2⟩ := results_run (fn := fn) hR' h1
        exact ⟨hR'.df, x, e1, x, ρ', rfl, hR'.inv, hE, e2⟩
      · rename_i s hcode
        obtain ⟨vs, h1, h2⟩ := map_some h
        cases h2
        refine code_sound hm hΓ c ⟨argsT args, B⟩ (.normal, s) hcode hR (fun a' w' ρ' hR' hE => ?_)
        obtain ⟨x, e1, e2⟩ := results_run (fn := fn) hR' h1
        exact ⟨hR'.df, x, e1, x, ρ', rfl, hR'.inv, hE, e2⟩
      · cases h
    · cases h
  · cases h

def enters (P : Program) (f : FuncId) : Bool :=
  match P.funcs[f]? with
  | some fn => fn.body.isSome && fn.name != "runtime.NumGoroutine"
  | none => false

theorem enter_run {f : FuncId} (h : enters P f = true) (us : Array Value) (w : World) : (callFunc f us).run P w = .ok (.enter f us) w := by
  unfold enters at h
  split at h
  · rename_i fn hf
    simp only [Bool.and_eq_true, bne_iff_ne] at h
    obtain ⟨h1, h2⟩ := h
    cases hb : fn.body with
    | none => rw [hb] at h1; cases h1
    | some c => simp [callFunc, hf, h2, hb]
  · cases h

/-- A contract of a function, just what its body comes to. -/
theorem sound_exact {Γ : Env} (hm : P.follows .mixedOrders = true) (hΓ : ∀ f, SoundF P f (Γ f)) {f : FuncId} {fn : Func} (hf : P.funcs[f]? = some fn) (he : enters P f = true) {s : FSpec}
    (h : ∀ args B r B', s.run args B = some (r, B') → fnA P Γ fn args B = some (r, B')) : SoundF P f s :=
  fun args B r B' hs F ρ w us hI hA => .inl ⟨enter_run he us.toArray w, fn_calls hm hΓ hf (h args B r B' hs) hI hA⟩

theorem sound_none (f : FuncId) : SoundF P f .none := fun _ _ _ _ h => by cases h

end Go.Ax

namespace Go.Ax
open Go.RowKit

variable [Glob] {P : Program} {F : Nat → Prop}

/-- Of these slots the values are told; of all others nothing. -/
def tk (l : List (Nat × AV)) : T := fun i => ((l.find? fun p => Nat.beq p.1 i).map (·.2)).getD .u

/-- No box from n on is named. -/
def AV.low (n : Nat) : AV → Bool
  | .u | .p _ | .rp _ => true
  | .ptr b _ _ | .mp b | .op b => Nat.blt b n
  | .rs b _ _ _ _ => Nat.blt b n
  | .agg cs => allLow n cs
  | .fn _ cs => allLow n cs
  | .tup cs => allLow n cs
  where
  allLow (n : Nat) : List AV → Bool
    | [] => true
    | c :: cs => c.low n && allLow n cs

def Box.low (n : Nat) : Box → Bool
  | .dead => true
  | .cells _ _ cs => AV.low.allLow n cs
  | .obj _ _ => false

theorem allLow_get {n : Nat} : ∀ {cs : List AV}, AV.low.allLow n cs = true → ∀ (j : Nat) (c : AV), cs[j]? = some c → c.low n = true
  | [], _, j, c, h => by simp at h
  | d :: cs, hl, j, c, h => by
    simp only [AV.low.allLow, Bool.and_eq_true] at hl
    cases j with
    | zero => cases h; exact hl.1
    | succ j => exact allLow_get hl.2 j c (by simpa using h)

/-! ### To forget, to name boxes anew, to shut rows -/
def AV.ren (f : Nat → Nat) : AV → AV
  | .ptr b v o => .ptr (f b) v o
  | .rs b v z o l => .rs (f b) v z o l
  | .agg cs => .agg (renL f cs)
  | .fn g cs => .fn g (renL f cs)
  | .tup cs => .tup (renL f cs)
  | .u => .u
  | .p x => .p x
  | .rp cs => .rp cs
  | .mp b => .mp (f b)
  | .op b => .op (f b)
  where
  renL (f : Nat → Nat) : List AV → List AV
    | [] => []
    | c :: cs => c.ren f :: renL f cs

theorem renL_map (f : Nat → Nat) (cs : List AV) : AV.ren.renL f cs = cs.map (AV.ren f) := by
  induction cs with
  | nil => rfl
  | cons c cs ih => simp [AV.ren.renL, ih]

theorem ren_leaf (f : Nat → Nat) (x : AV) : (x.ren f).leaf = x.leaf := by cases x <;> rfl

theorem VRel.ren {B B' : List Box} {ρ : Loc} {w : World} {f : Nat → Nat} (hB : ∀ j row v cs, B'[j]? = some (.cells row v cs) → ∃ cs0 : List AV, B[f j]? = some (.cells row v cs0) ∧ cs0.length = cs.length)
    (hX : ∀ j cs Φ, B'[j]? = some (.obj cs Φ) → ∃ cs0, B[f j]? = some (.obj cs0 Φ))
    (hO : ∀ k, Own F B' (fun j => ρ (f j)) k → Own F B ρ k) {x : AV} {u : Value} (h : VRel F B ρ w x u) : ∀ {y : AV}, x = y.ren f → y.low B'.length = true → VRel F B' (fun j => ρ (f j)) w y u := by
  have hP : ∀ (p : PV) (u : Value), PRel (Own F B ρ) w p u → PRel (Own F B' (fun j => ρ (f j))) w p u := fun p u hp => hp.mono (fun k _ ho => ⟨rfl, fun h => ho (hO k h)⟩) (Nat.le_refl _)
  have parts : ∀ {cs : List AV} {us : List Value} {ds : List AV}, cs.length = us.length → (∀ (j : Nat) (p : AV) (u : Value), cs[j]? = some p → us[j]? = some u → ∀ {y : AV}, p = y.ren f → y.low B'.length = true → VRel F B' (fun j => ρ (f j)) w y u) →
      cs = AV.ren.renL f ds → AV.low.allLow B'.length ds = true → ds.length = us.length ∧ ∀ (j : Nat) (p : AV) (u : Value), ds[j]? = some p → us[j]? = some u → VRel F B' (fun j => ρ (f j)) w p u := by
    intro cs us ds h1 ih e hl
    rw [renL_map] at e
    subst e
    refine ⟨by simpa using h1, fun j p u hp hu => ih j (p.ren f) u (by rw [List.getElem?_map, hp]; rfl) hu rfl (allLow_get hl j p hp)⟩
  induction h with
  | u x => intro y e hl; cases y <;> simp [AV.ren] at e; exact .u x
  | p x y hp => intro z e hl; cases z <;> simp [AV.ren] at e; subst e; exact .p _ y (hP _ _ hp)
  | mp b r hp =>
    intro y e hl
    cases y <;> simp [AV.ren] at e
    subst e
    refine .mp _ _ ⟨by simpa [AV.low, Nat.blt_eq] using hl, fun cs Φ hc => ?_⟩
    obtain ⟨cs0, g1⟩ := hX _ _ _ hc
    exact hp.2 cs0 Φ g1
  | op b r hp =>
    intro y e hl
    cases y <;> simp [AV.ren] at e
    subst e
    refine .op _ _ ⟨by simpa [AV.low, Nat.blt_eq] using hl, fun cs Φ hc => ?_⟩
    obtain ⟨cs0, g1⟩ := hX _ _ _ hc
    exact hp.2 cs0 Φ g1
  | ptr b ver o a hp =>
    intro y e hl
    cases y <;> simp [AV.ren] at e
    obtain ⟨rfl, rfl, rfl⟩ := e
    refine .ptr _ _ _ a ⟨by simpa [AV.low, Nat.blt_eq] using hl, fun row v cs hc => ?_⟩
    obtain ⟨cs0, g1, _⟩ := hB _ _ _ _ hc
    exact hp.2 row v cs0 g1
  | rs b ver sz off len a cap hp =>
    intro y e hl
    cases y <;> simp [AV.ren] at e
    obtain ⟨rfl, rfl, rfl, rfl, rfl⟩ := e
    refine .rs _ _ _ _ _ a cap ⟨by simpa [AV.low, Nat.blt_eq] using hl, hp.2.1, hp.2.2.1, fun row v cs hc => ?_⟩
    obtain ⟨cs0, g1, g2⟩ := hB _ _ _ _ hc
    rw [← g2]
    exact hp.2.2.2 row v cs0 g1
  | rp cs a us h1 h2 h3 h4 h5 h6 =>
    intro y e hl
    cases y <;> simp [AV.ren] at e
    subst e
    exact .rp _ a us h1 (fun h => h2 (hO _ h)) h3 h4 h5 (fun j p u hp hu => hP _ _ (h6 j p u hp hu))
  | agg cs us h1 _ ih =>
    intro y e hl
    cases y <;> simp [AV.ren] at e
    obtain ⟨q1, q2⟩ := parts h1 ih e (by simpa [AV.low] using hl)
    exact .agg _ us q1 q2
  | fn g cs us h1 _ ih =>
    intro y e hl
    cases y <;> simp [AV.ren] at e
    obtain ⟨rfl, e⟩ := e
    obtain ⟨q1, q2⟩ := parts h1 ih e (by simpa [AV.low] using hl)
    exact .fn _ _ us q1 q2
  | tup cs us h1 _ ih =>
    intro y e hl
    cases y <;> simp [AV.ren] at e
    obtain ⟨q1, q2⟩ := parts h1 ih e (by simpa [AV.low] using hl)
    exact .tup _ us q1 q2

/-- What is told of a value when rows of boxes in S are sealed: they are no longer written. -/
inductive Sealed (S : Nat → Prop) (B : List Box) : AV → AV → Prop
  | p (x : PV) : Sealed S B (.p x) (.p x)
  | nil : Sealed S B (.p (.v (.slice none 0 0))) (.p (.ls []))
  | row (b ver sz off len : Nat) (row : Bool) (cs : List AV) (xs : List PV) : S b → B[b]? = some (.cells row ver cs) → xs.length = len → (xs.flatMap PV.cells).map .p = (cs.drop off).take (len * sz) → off + len * sz ≤ cs.length →
      Sealed S B (.rs b ver sz off len) (.p (.ls xs))
  | agg (cs ds : List AV) : cs.length = ds.length → (∀ (j : Nat) (c d : AV), cs[j]? = some c → ds[j]? = some d → Sealed S B c d) → Sealed S B (.agg cs) (.agg ds)
  | tup (cs ds : List AV) : cs.length = ds.length → (∀ (j : Nat) (c d : AV), cs[j]? = some c → ds[j]? = some d → Sealed S B c d) → Sealed S B (.tup cs) (.tup ds)

theorem Sealed.vrel {F' S : Nat → Prop} {B : List Box} {ρ : Loc} {w : World} (hI : Inv F' B ρ w) {x y : AV} (h : Sealed S B x y) {u : Value} (hv : VRel F' B ρ w x u) {O : List Box} {ρ2 : Loc} (hsub : ∀ k, Own F O ρ2 k → Own F' B ρ k)
    (hsep : ∀ b row v cs k o, S b → B[b]? = some (.cells row v cs) → ρ b = some (k, o) → ¬ Own F O ρ2 k) : VRel F O ρ2 w y u := by
  have hP : ∀ (p : PV) (u : Value), PRel (Own F' B ρ) w p u → PRel (Own F O ρ2) w p u := fun p u hp => hp.mono (fun k _ ho => ⟨rfl, fun h => ho (hsub k h)⟩) (Nat.le_refl _)
  induction h generalizing u with
  | p x =>
    cases hv with
    | p _ _ hp => exact .p _ _ (hP _ _ hp)
  | nil =>
    obtain rfl := hv.val
    exact .p _ _ (.nil none 0 (.inr rfl))
  | row b ver sz off len row cs xs hS hb hl hxs hle =>
    cases hv with
    | rs _ _ _ _ _ a cap hok =>
      obtain ⟨g1, g2, g3, g4⟩ := hok
      obtain ⟨_, g5⟩ := g4 _ _ _ hb
      obtain ⟨g6, g7⟩ := g5 rfl
      have hflat : (xs.flatMap PV.cells).length = len * sz := by
        have h1 := congrArg List.length hxs
        rw [List.length_map, List.length_take, List.length_drop] at h1
        omega
      rcases g7 with h0 | ⟨k, o', hr, ha, e', m, hsh, hle2⟩
      · have hl0 : len = 0 := by omega
        subst hl0
        have : xs = [] := List.eq_nil_of_length_eq_zero hl
        subst this
        exact .p _ _ (.nil a cap (.inr h0))
      · subst ha
        obtain ⟨us, e2, fr, q1, q2, q3, q4⟩ := hI.cell hb hr
        have hk : k < w.heap.size := (Array.getElem?_eq_some_iff.1 q1).1
        rw [← hl]
        refine .p _ _ (.ls xs ⟨k, o' + off, none⟩ cap ((us.toList.drop (o' + off)).take (len * sz)) rfl (hsep _ _ _ _ _ _ hS hb hr) hk (by omega)
          (by rw [hflat, List.length_take, List.length_drop, Array.length_toList]; omega) (fun j u hj => ?_) (fun j p u hp hu => ?_))
        · rw [List.getElem?_take] at hj
          split at hj
          · rw [List.getElem?_drop] at hj
            rw [Addr.add_lit, cell_of q1]
            simpa using hj
          · cases hj
        · rw [List.getElem?_take] at hu
          split at hu
          · rename_i hjl
            rw [List.getElem?_drop] at hu
            have hp2 : ((cs.drop off).take (len * sz))[j]? = some (.p p) := by rw [← hxs, List.getElem?_map, hp]; rfl
            rw [List.getElem?_take, if_pos hjl, List.getElem?_drop] at hp2
            obtain ⟨u', f1, f2⟩ := q4 _ _ hp2
            have e3 : us[o' + off + j]? = some u := by simpa using hu
            rw [show o' + (off + j) = o' + off + j by omega, e3] at f1
            cases f1
            cases f2 with
            | p _ _ hp3 => exact hP _ _ hp3
          · cases hu
  | agg cs ds h1 _ ih =>
    obtain ⟨us, rfl, g1, g2⟩ := hv.agg_inv
    refine .agg ds us (by omega) (fun j d u hd hu => ?_)
    have hj : j < cs.length := by rw [h1]; exact (List.getElem?_eq_some_iff.1 hd).1
    exact ih j _ d (List.getElem?_eq_getElem hj) hd (g2 j _ u (List.getElem?_eq_getElem hj) hu)
  | tup cs ds h1 _ ih =>
    cases hv with
    | tup _ us g1 g2 =>
    refine .tup ds us (by omega) (fun j d u hd hu => ?_)
    have hj : j < cs.length := by rw [h1]; exact (List.getElem?_eq_some_iff.1 hd).1
    exact ih j _ d (List.getElem?_eq_getElem hj) hd (g2 j _ u (List.getElem?_eq_getElem hj) hu)

theorem Sealed.leaf {S : Nat → Prop} {B : List Box} {x y : AV} (h : Sealed S B x y) (hl : x.leaf = true) : y.leaf = true := by
  cases h <;> first | exact hl | rfl | cases hl

/-- One cell: told by the new names, or sealed. -/
def WCell (B : List Box) (f : Nat → Nat) (m : Nat) (x y : AV) : Prop := (x = y.ren f ∧ y.low m = true) ∨ Sealed (fun b => ∀ j, j < m → f j ≠ b) B x y

/-- To forget: slots are told no more, boxes are let go, others have other names, rows that are let go are sealed. -/
structure Weak (s s' : AS) (f : Nat → Nat) : Prop where
  t : ∀ i, s'.t i = .u ∨ WCell s.B f s'.B.length (s.t i) (s'.t i)
  lt : ∀ j, j < s'.B.length → f j < s.B.length
  box : ∀ (j : Nat) (row : Bool) (v : Nat) (cs' : List AV), s'.B[j]? = some (.cells row v cs') → ∃ cs : List AV, s.B[f j]? = some (.cells row v cs) ∧ cs.length = cs'.length ∧
    ∀ (i : Nat) (c c' : AV), cs[i]? = some c → cs'[i]? = some c' → WCell s.B f s'.B.length c c'
  inj : ∀ i j, i < s'.B.length → j < s'.B.length → f i = f j → i = j
  noobj : ∀ (j : Nat) (cs : List AV) (Φ : ObjP), s'.B[j]? ≠ some (.obj cs Φ)

theorem Weak.has {s s' : AS} {f : Nat → Nat} (h : Weak s s' f) {j : Nat} {x : Box} (hx : s'.B[j]? = some x) {l : Nat × Nat} {k : Nat} (hk : x.has l k) : ∃ x0, s.B[f j]? = some x0 ∧ x0.has l k := by
  cases x with
  | dead => exact hk.elim
  | cells row v cs =>
    obtain ⟨cs0, g1, _⟩ := h.box _ _ _ _ hx
    exact ⟨_, g1, hk⟩
  | obj cs Φ => exact (h.noobj _ _ _ hx).elim

theorem Weak.sub {s s' : AS} {f : Nat → Nat} (h : Weak s s' f) {ρ : Loc} (k : Nat) (ho : Own F s'.B (fun j => ρ (f j)) k) : Own F s.B ρ k := by
  rcases ho with h0 | ⟨b, x, l, h1, h2, h3⟩
  · exact .inl h0
  · obtain ⟨x0, g1, g2⟩ := h.has h1 h3
    exact .inr ⟨f b, x0, l, g1, h2, g2⟩

theorem Weak.cell {s s' : AS} {f : Nat → Nat} (h : Weak s s' f) {ρ : Loc} {w : World} (hI : Inv F s.B ρ w) {x y : AV} {u : Value} (hx : VRel F s.B ρ w x u) (hc : WCell s.B f s'.B.length x y) : VRel F s'.B (fun j => ρ (f j)) w y u := by
  rcases hc with ⟨rfl, hl⟩ | hc
  · exact hx.ren (fun j row v cs hj => by
      obtain ⟨cs0, g1, g2, _⟩ := h.box _ _ _ _ hj
      exact ⟨cs0, g1, g2⟩) (fun j cs Φ hj => (h.noobj j cs Φ hj).elim) (fun k => h.sub k) rfl hl
  · refine hc.vrel hI hx (fun k => h.sub k) (fun b row v cs k o hS hb hr ho => ?_)
    rcases ho with h0 | ⟨j, x, l, h1, h2, h3⟩
    · exact hI.farb _ _ _ _ _ _ hb hr h0
    · obtain ⟨x0, g1, g2⟩ := h.has h1 h3
      exact hS j (List.getElem?_eq_some_iff.1 h1).1 (hI.injx _ _ _ _ _ _ _ g1 hb h2 hr g2 rfl)

theorem Weak.inv {s s' : AS} {f : Nat → Nat} (h : Weak s s' f) {ρ : Loc} {w : World} (hI : Inv F s.B ρ w) : Inv F s'.B (fun j => ρ (f j)) w := by
  refine ⟨fun b row v cs' hb => ?_, fun b row v cs' hb => ?_, fun b cs Φ hb => (h.noobj b cs Φ hb).elim, fun b b' x x' l l' k h1 h2 h3 h4 h5 h6 => ?_, hI.bound, fun b x l k hb hr hx => ?_, fun g hg => ⟨h.cell hI (hI.glob g hg).v (.inl ⟨rfl, rfl⟩), (hI.glob g hg).sz⟩, fun b v cs k o hb hr => by
    obtain ⟨cs0, g1, _⟩ := h.box _ _ _ _ hb
    exact hI.off0 _ _ _ _ _ g1 hr⟩
  · obtain ⟨cs, g1, g2, g3⟩ := h.box _ _ _ _ hb
    rcases hI.box _ _ _ _ g1 with ⟨q1, q2, q3⟩ | ⟨k, o, us, e, fr, q1, q2, q3, q4, q5⟩
    · subst q3
      exact .inl ⟨q1, q2, List.eq_nil_of_length_eq_zero (by simpa using g2.symm)⟩
    · refine .inr ⟨k, o, us, e, fr, q1, q2, by omega, q4, fun i c' hc' => ?_⟩
      have hi : i < cs.length := by rw [g2]; exact (List.getElem?_eq_some_iff.1 hc').1
      obtain ⟨u, e1, e2⟩ := q5 i _ (List.getElem?_eq_getElem hi)
      exact ⟨u, e1, h.cell hI e2 (g3 i _ _ (List.getElem?_eq_getElem hi) hc')⟩
  · obtain ⟨cs, g1, g2, g3⟩ := h.box _ _ _ _ hb
    have hl := hI.leaf _ _ _ _ g1
    rw [List.all_eq_true] at hl ⊢
    intro c' hc'
    obtain ⟨i, hi⟩ := List.getElem?_of_mem hc'
    have hi' : i < cs.length := by rw [g2]; exact (List.getElem?_eq_some_iff.1 hi).1
    have hcl := hl _ (List.getElem_mem hi')
    rcases g3 i _ _ (List.getElem?_eq_getElem hi') hi with ⟨e, _⟩ | hs
    · rw [e, ren_leaf] at hcl; exact hcl
    · exact hs.leaf hcl
  · obtain ⟨_, g1, p1⟩ := h.has h1 h5
    obtain ⟨_, g2, p2⟩ := h.has h2 h6
    exact h.inj _ _ (List.getElem?_eq_some_iff.1 h1).1 (List.getElem?_eq_some_iff.1 h2).1 (hI.injx _ _ _ _ _ _ _ g1 g2 h3 h4 p1 p2)
  · obtain ⟨_, g1, p1⟩ := h.has hb hx
    exact hI.farx _ _ _ _ g1 hr p1

theorem Weak.rel {s s' : AS} {f : Nat → Nat} (h : Weak s s' f) {ρ : Loc} {w : World} {n : Nat} {a : Act} (hR : Rel F s.B ρ w n s.t a) : Rel F s'.B (fun j => ρ (f j)) w n s'.t a := by
  refine ⟨h.inv hR.inv, fun i => ?_, hR.df, hR.size⟩
  rcases h.t i with h0 | h1
  · rw [h0]; exact .u _
  · exact h.cell hR.inv (hR.tm i) h1

theorem Weak.ext {s s' : AS} {f : Nat → Nat} (h : Weak s s' f) {B0 : List Box} {ρ0 ρ : Loc} {w0 w : World} (hE : Ext F B0 ρ0 w0 s.B ρ w) (hf : ∀ j, j < B0.length → f j = j) (hl : B0.length ≤ s'.B.length) : Ext F B0 ρ0 w0 s'.B (fun j => ρ (f j)) w := by
  refine ⟨hE.size, hE.os, hE.tape, hE.output, fun k hk ho => ⟨(hE.keep k hk ho).1, fun h2 => (hE.keep k hk ho).2 (h.sub k h2)⟩, hE.shape, hl, fun b row v cs hb hc => ?_, fun b cs Φ hb hc => (h.noobj _ _ _ hc).elim, hE.far⟩
  obtain ⟨cs0, g1, g2, _⟩ := h.box _ _ _ _ hc
  rw [hf b hb] at g1
  obtain ⟨v0, cs1, q1, q2, q3⟩ := hE.box b row v cs0 hb g1
  refine ⟨v0, cs1, q1, q2, fun e => ?_⟩
  obtain ⟨p1, p2⟩ := q3 e
  exact ⟨by rw [hf b hb]; exact p1, by omega⟩

/-- Code comes to this, m0 boxes being those from before. With 'true': the rounds of a loop with this body. -/
inductive EvX (P : Program) (Γ : Env) (n m0 : Nat) : Bool → Code → AS → AE → AS → Prop
  | run {c s e s'} : codeA P Γ n c s = some (e, s') → EvX P Γ n m0 false c s e s'
  | seq {a b s s1 e s'} : EvX P Γ n m0 false a s .normal s1 → EvX P Γ n m0 false b s1 e s' → EvX P Γ n m0 false (.seq a b) s e s'
  | seqx {a b s e s'} : EvX P Γ n m0 false a s e s' → e ≠ .normal → EvX P Γ n m0 false (.seq a b) s e s'
  | cond {c x y s q e s'} : boolA (evalA s.t c) = some q → EvX P Γ n m0 false (if q then x else y) s e s' → EvX P Γ n m0 false (.cond c x y) s e s'
  | block {id b s s'} : EvX P Γ n m0 false b s (.exit id) s' → EvX P Γ n m0 false (.block id b) s .normal s'
  | blockx {id b s e s'} : EvX P Γ n m0 false b s e s' → e ≠ .exit id → EvX P Γ n m0 false (.block id b) s e s'
  | loop {b s e s'} : EvX P Γ n m0 true b s e s' → EvX P Γ n m0 false (.loop b) s e s'
  | next {b s s1 e s'} : EvX P Γ n m0 false b s .normal s1 → EvX P Γ n m0 true b s1 e s' → EvX P Γ n m0 true b s e s'
  | leave {b s e s'} : EvX P Γ n m0 false b s e s' → e ≠ .normal → EvX P Γ n m0 true b s e s'
  | weak {q c s s1 e s' f} : Weak s s1 f → (∀ j, j < m0 → f j = j) → m0 ≤ s1.B.length → EvX P Γ n m0 q c s1 e s' → EvX P Γ n m0 q c s e s'
  | weakr {q c s s1 e s' f} : EvX P Γ n m0 q c s e s1 → Weak s1 s' f → (∀ j, j < m0 → f j = j) → m0 ≤ s'.B.length → EvX P Γ n m0 q c s e s'

abbrev EvC (P : Program) (Γ : Env) (n m0 : Nat) := EvX P Γ n m0 false
abbrev EvL (P : Program) (Γ : Env) (n m0 : Nat) := EvX P Γ n m0 true

/-- From a round's head on. -/
def lwp (P : Program) (c : Code) (Q : Exit → Act → World → Prop) (a : Act) (w : World) : Prop :=
  ∀ (b : Frame) (k : List Item) (cs : List Frame), ∃ e a' w', Q e a' w' ∧ Arrives P (lone (b.at a (.code c :: .inLoop c :: k)) cs w) b k cs e a' w'

theorem wp_of_lwp {c : Code} {Q : Exit → Act → World → Prop} {a : Act} {w : World} (h : lwp P c Q a w) : (Code.loop c).wp P Q a w := by
  intro b k cs
  obtain ⟨e, a', w', hq, harr⟩ := h b k cs
  exact ⟨e, a', w', hq, .of_steps (.one step_loop) harr⟩

theorem lwp_round {c : Code} {Q : Exit → Act → World → Prop} {a : Act} {w : World} (h : c.wp P (Exit.then (lwp P c Q) Q) a w) : lwp P c Q a w := by
  intro b k cs
  obtain ⟨e, a₁, w₁, hq, harr⟩ := h b (.inLoop c :: k) cs
  cases e with
  | normal =>
    obtain ⟨e₂, a₂, w₂, hq₂, harr₂⟩ := hq b k cs
    exact ⟨e₂, a₂, w₂, hq₂, .of_steps (Steps.trans harr (.one step_inLoop)) harr₂⟩
  | exit id => exact ⟨_, a₁, w₁, hq, .pass (x := .inLoop c) rfl (fun _ _ => .inl (by simp)) harr⟩
  | goto l => exact ⟨_, a₁, w₁, hq, .pass (x := .inLoop c) rfl (fun _ _ => .inl (by simp)) harr⟩
  | ret => exact ⟨_, a₁, w₁, hq, .pass (x := .inLoop c) rfl (fun _ _ => .inl (by simp)) harr⟩
  | panic ch => exact ⟨_, a₁, w₁, hq, .pass (x := .inLoop c) rfl (fun _ _ => .inl (by simp)) harr⟩
  | outgrown => exact ⟨_, a₁, w₁, hq, .pass (x := .inLoop c) rfl (fun _ _ => .inl (by simp)) harr⟩

def goal (P : Program) (q : Bool) (c : Code) (Q : Exit → Act → World → Prop) (a : Act) (w : World) : Prop := match q with
  | false => c.wp P Q a w
  | true => lwp P c Q a w

theorem evx_sound {Γ : Env} (hm : P.follows .mixedOrders = true) (hΓ : ∀ f, SoundF P f (Γ f)) {n : Nat} {B0 : List Box} {ρ0 : Loc} {w0 : World} {q : Bool} {c : Code} {s : AS} {e : AE} {s' : AS} (h : EvX P Γ n B0.length q c s e s') :
    ∀ {ρ : Loc} {w : World} {a : Act}, Rel F s.B ρ w n s.t a → Ext F B0 ρ0 w0 s.B ρ w → ∀ {Q : Exit → Act → World → Prop}, (∀ a' w' ρ', Rel F s'.B ρ' w' n s'.t a' → Ext F B0 ρ0 w0 s'.B ρ' w' → Q e.to a' w') → goal P q c Q a w := by
  induction h with
  | run hc => exact fun {ρ w a} hR hE {Q} hQ => code_sound hm hΓ _ _ _ hc hR (fun a' w' ρ' hR' hE' => hQ a' w' ρ' hR' (hE.trans hE'))
  | seq _ _ ih1 ih2 => exact fun {ρ w a} hR hE {Q} hQ => wp_seq (ih1 hR hE (fun a' w' ρ' hR' hE' => ih2 hR' hE' hQ))
  | @seqx a b s e s' _ hne ih => exact fun {ρ w a} hR hE {Q} hQ => wp_seq (ih hR hE (fun a' w' ρ' hR' hE' => by
      have := hQ a' w' ρ' hR' hE'
      cases e with
      | normal => exact absurd rfl hne
      | exit id => exact this
      | ret => exact this))
  | @cond c x y s q e s' hq _ ih =>
    intro ρ w a hR hE Q hQ
    have hc := hR.eval c
    unfold boolA at hq
    split at hq
    · rename_i b hb
      cases hq
      rw [hb] at hc
      have hv := hc.val
      cases q with
      | true => exact wp_cond_true hv (ih hR hE hQ)
      | false => exact wp_cond_false hv (ih hR hE hQ)
    · cases hq
  | @block id b s s' _ ih => exact fun {ρ w a} hR hE {Q} hQ => wp_block (ih hR hE (fun a' w' ρ' hR' hE' => by
      show (if id = id then Q .normal a' w' else Q (.exit id) a' w')
      rw [if_pos rfl]
      exact hQ a' w' ρ' hR' hE'))
  | @blockx id b s e s' _ hne ih => exact fun {ρ w a} hR hE {Q} hQ => wp_block (ih hR hE (fun a' w' ρ' hR' hE' => by
      have := hQ a' w' ρ' hR' hE'
      cases e with
      | normal => exact this
      | ret => exact this
      | exit i =>
        show (if i = id then Q .normal a' w' else Q (.exit i) a' w')
        rw [if_neg (fun h => hne (by rw [h]))]
        exact this))
  | loop _ ih => exact fun {ρ w a} hR hE {Q} hQ => wp_of_lwp (ih hR hE hQ)
  | next _ _ ih1 ih2 => exact fun {ρ w a} hR hE {Q} hQ => lwp_round (ih1 hR hE (fun a' w' ρ' hR' hE' => ih2 hR' hE' hQ))
  | @leave b s e s' _ hne ih => exact fun {ρ w a} hR hE {Q} hQ => lwp_round (ih hR hE (fun a' w' ρ' hR' hE' => by
      have := hQ a' w' ρ' hR' hE'
      cases e with
      | normal => exact absurd rfl hne
      | exit id => exact this
      | ret => exact this))
  | weak hw hf hlen _ ih => exact fun {ρ w a} hR hE {Q} hQ => ih (hw.rel hR) (hw.ext hE hf hlen) hQ
  | weakr _ hw hf hlen ih => exact fun {ρ w a} hR hE {Q} hQ => ih hR hE (fun a' w' ρ' hR' hE' => hQ a' w' _ (hw.rel hR') (hw.ext hE' hf hlen))

/-! ### A function whose arguments name no box: it is carried out with no boxes at all -/
/-- Without boxes only what is far is owned. -/
theorem own_nil {ρ : Loc} {k : Nat} (h : Own F [] ρ k) : F k := by
  rcases h with h | ⟨b, x, l, h, _⟩
  · exact h
  · simp at h

/-- A value that names no box, seen by a call that owns none of what its caller owns. -/
theorem VRel.nobox {B : List Box} {ρ : Loc} {w : World} {x : AV} {u : Value} (h : VRel F B ρ w x u) (hf : x.low 0 = true) (ρ2 : Loc) : VRel (Own F B ρ) [] ρ2 w x u := by
  have hP : ∀ (p : PV) (u : Value), PRel (Own F B ρ) w p u → PRel (Own (Own F B ρ) [] ρ2) w p u := fun p u hp => hp.mono (fun k _ ho => ⟨rfl, fun h => ho (own_nil h)⟩) (Nat.le_refl _)
  induction h with
  | u x => exact .u x
  | p x y hp => exact .p x y (hP _ _ hp)
  | mp b r hp => simp [AV.low] at hf
  | op b r hp => simp [AV.low] at hf
  | ptr b ver o a hp => simp [AV.low] at hf
  | rs b ver sz off len a cap hp => simp [AV.low] at hf
  | rp cs a us h1 h2 h3 h4 h5 h6 => exact .rp cs a us h1 (fun h => h2 (own_nil h)) h3 h4 h5 (fun j p u hp hu => hP _ _ (h6 j p u hp hu))
  | agg cs us h1 _ ih => exact .agg cs us h1 (fun j p u hp hu => ih j p u hp hu (allLow_get (by simpa [AV.low] using hf) j p hp))
  | fn f cs us h1 _ ih => exact .fn f cs us h1 (fun j p u hp hu => ih j p u hp hu (allLow_get (by simpa [AV.low] using hf) j p hp))
  | tup cs us h1 _ ih => exact .tup cs us h1 (fun j p u hp hu => ih j p u hp hu (allLow_get (by simpa [AV.low] using hf) j p hp))

theorem GRel.nobox {B : List Box} {ρ : Loc} {w : World} {g : Nat} (h : GRel F B ρ w g) (ρ2 : Loc) : GRel (Own F B ρ) [] ρ2 w g := ⟨h.v.nobox rfl ρ2, h.sz⟩

theorem Inv.ownlt {B : List Box} {ρ : Loc} {w : World} (hI : Inv F B ρ w) (k : Nat) (h : Own F B ρ k) : k < w.heap.size := by
  rcases h with h | ⟨b, x, l, g1, g2, g3⟩
  · exact hI.bound k h
  · exact hI.haslt g1 g2 g3

theorem inv_nil {B : List Box} {ρ : Loc} {w : World} (hI : Inv F B ρ w) (ρ2 : Loc) : Inv (Own F B ρ) [] ρ2 w := ⟨fun b row v cs h => by simp at h, fun b row v cs h => by simp at h, fun b cs Φ h => by simp at h, fun b b' x x' l l' k h => by simp at h, fun k h => hI.ownlt k h, fun b x l k h => by simp at h, fun g hg => (hI.glob g hg).nobox ρ2, fun b v cs k o h => by simp at h⟩

/-- Where nothing below the heap's end is other, the boxes stand. -/
theorem stands {B : List Box} {ρ : Loc} {w w' : World} (h1 : w.heap.size ≤ w'.heap.size) (h2 : w'.os = w.os) (h3 : w'.tape = w.tape) (h4 : w'.output = w.output) (h5 : ∀ k e n, w.shape? k = some (e, n) → w'.shape? k = some (e, n))
    (hh : ∀ k, k < w.heap.size → w'.heap[k]? = w.heap[k]?) (hI : Inv F B ρ w) : Ext F B ρ w B ρ w' ∧ Inv F B ρ w' := by
  have hE : Ext F B ρ w B ρ w' := ⟨h1, h2, h3, h4, fun k hk ho => ⟨hh k hk, ho⟩, h5, Nat.le_refl _, fun _ _ v cs _ hc => ⟨v, cs, hc, Nat.le_refl _, fun _ => ⟨rfl, rfl⟩⟩, fun _ cs Φ _ hc => ⟨cs, Φ, hc, rfl⟩, fun k _ hk => hh k hk⟩
  refine ⟨hE, ⟨fun b row v cs hb => ?_, hI.leaf, fun b cs Φ hb => ?_, hI.injx, fun k hF => Nat.lt_of_lt_of_le (hI.bound k hF) h1, hI.farx, fun g hg => (hI.glob g hg).ext hE, hI.off0⟩⟩
  case refine_2 =>
    obtain ⟨k', o, us, g1, g2, g3, g4⟩ := hI.obox b cs Φ hb
    exact ⟨k', o, us, g1, Φ.frame _ _ _ _ _ g2 (fun j hj => hh j (Φ.low _ _ _ _ j g2 hj)), g3, fun i c u h1 h2 => (g4 i c u h1 h2).ext hE⟩
  rcases hI.box b row v cs hb with h0 | ⟨k, o, us, e, fr, g1, g2, g3, g4, g5⟩
  · exact .inl h0
  · have hk : k < w.heap.size := (Array.getElem?_eq_some_iff.1 g2).1
    refine .inr ⟨k, o, us, e, fr, g1, (hh k hk).trans g2, g3, g4, fun i c hc => ?_⟩
    · obtain ⟨u, f1, f2⟩ := g5 i c hc
      exact ⟨u, f1, f2.ext hE⟩

/-- What a body without boxes of others comes to. -/
structure FnEv (P : Program) (Γ : Env) (fn : Func) (args : List AV) (B : List Box) (s : AS) (vs : List AV) : Prop where
  le : Nat.ble args.length fn.ntmps = true
  ev : ∃ c e, fn.body = some c ∧ EvC P Γ fn.ntmps B.length c ⟨argsT args, B⟩ e s ∧ (e = .ret ∨ e = .normal)
  res : resList P s fn.results.toList = some vs

theorem fn_calls' {Γ : Env} (hm : P.follows .mixedOrders = true) (hΓ : ∀ f, SoundF P f (Γ f)) {f : FuncId} {fn : Func} (hf : P.funcs[f]? = some fn) {args : List AV} {B : List Box} {s : AS} {vs : List AV} (h : FnEv P Γ fn args B s vs)
    {ρ : Loc} {w : World} {us : List Value} (hI : Inv F B ρ w) (hA : ArgsRel F B ρ w args us) : Calls P f us.toArray w (Post F B ρ w (oneOf vs) s.B) := by
  obtain ⟨hle, ⟨c, e, hc, hev, he⟩, hres⟩ := h
  rw [Nat.ble_eq] at hle
  refine calls_of_wp hf hc ?_
  have hsz : us.length ≤ fn.ntmps := by rw [← hA.1]; exact hle
  have hR : Rel F B ρ w fn.ntmps (argsT args) { tmps := us.toArray ++ Array.replicate (fn.ntmps - us.toArray.size) undef, defers := [] } := by
    refine ⟨hI, fun i => ?_, rfl, by simp; omega⟩
    unfold argsT
    cases hi : args[i]? with
    | none =>
      have hge : us.length ≤ i := by
        rw [← hA.1]
        exact List.getElem?_eq_none_iff.1 hi
      have : (us.toArray ++ Array.replicate (fn.ntmps - us.toArray.size) undef).getD i undef = undef := by
        rw [Array.getD_eq_getD_getElem?, Array.getElem?_append_right (by simpa using hge), Array.getElem?_replicate]
        split <;> rfl
      rw [this]
      exact .p _ _ (.v _)
    | some x =>
      have hlt : i < us.length := by rw [← hA.1]; exact (List.getElem?_eq_some_iff.1 hi).1
      have : (us.toArray ++ Array.replicate (fn.ntmps - us.toArray.size) undef).getD i undef = us[i] := by
        rw [Array.getD_eq_getD_getElem?, Array.getElem?_append_left (by simpa using hlt)]
        simp [hlt]
      rw [this]
      exact hA.2 i x _ hi (List.getElem?_eq_getElem hlt)
  refine evx_sound hm hΓ (B0 := B) (ρ0 := ρ) (w0 := w) hev hR (.refl _ _ _) (fun a' w' ρ' hR' hE => ?_)
  obtain ⟨x, e1, e2⟩ := results_run (fn := fn) hR' hres
  rcases he with rfl | rfl
  · exact ⟨hR'.df, x, e1, x, ρ', rfl, hR'.inv, hE, e2⟩
  · exact ⟨hR'.df, x, e1, x, ρ', rfl, hR'.inv, hE, e2⟩

/-- THE CONTRACT OF A FUNCTION WHOSE ARGUMENTS NAME NO BOX. -/
theorem sound_pure {Γ : Env} (hm : P.follows .mixedOrders = true) (hΓ : ∀ f, SoundF P f (Γ f)) {f : FuncId} {fn : Func} (hf : P.funcs[f]? = some fn) (he : enters P f = true) {g : List AV → Option AV}
    (h : ∀ args r, g args = some r → args.all (AV.low 0) = true ∧ ∃ s vs, FnEv P Γ fn args [] s vs ∧ Sealed (fun _ => True) s.B (oneOf vs) r) : SoundF P f (.pure g) := by
  intro args B r B' hs F ρ w us hI hA
  obtain ⟨r', h1, h2⟩ := map_some hs
  cases h2
  obtain ⟨hfree, s, vs, hev, hsl⟩ := h args r h1
  have hA0 : ArgsRel (Own F B ρ) [] ρ w args us := ⟨hA.1, fun j p u hp hu => (hA.2 j p u hp hu).nobox (by
    rw [List.all_eq_true] at hfree
    exact hfree p (List.mem_of_getElem? hp)) ρ⟩
  refine .inl ⟨enter_run he us.toArray w, (fn_calls' hm hΓ hf hev (inv_nil hI ρ) hA0).mono fun e w' hp => ?_⟩
  obtain ⟨x, ρ', rfl, hI', hE', hv⟩ := hp
  have hh : ∀ k, k < w.heap.size → w'.heap[k]? = w.heap[k]? := fun k hk => by
    by_cases h : Own F B ρ k
    · exact hE'.far k h hk
    · exact (hE'.keep k hk (fun h2 => h (own_nil h2))).1
  obtain ⟨hE, hI2⟩ := stands hE'.size hE'.os hE'.tape hE'.output hE'.shape hh hI
  exact ⟨x, ρ, rfl, hI2, hE, hsl.vrel hI' hv (fun k h => .inl h) (fun b row v cs k o _ hb hr ho => hI'.farb _ _ _ _ _ _ hb hr ho)⟩

end Go.Ax
