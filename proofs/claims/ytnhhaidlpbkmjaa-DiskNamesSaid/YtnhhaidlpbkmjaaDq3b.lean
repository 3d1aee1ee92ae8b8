/- Create, Append, Sync, Remove, Size: contracts of the disk as an object. -/
import Derived.Test.YtnhhaidlpbkmjaaDq3
import Derived.Test.YtnhhaidlpbkmjaaDk6
set_option linter.unusedVariables false
set_option linter.unusedSimpArgs false
set_option linter.unusedSectionVars false
namespace Go.Ax
open Go.Proofs Go.RowKit
set_option maxRecDepth 100000

theorem ΔF_find : ΔF iFind = liftR RFind := if_pos rfl
theorem ΔF_step : ΔF iStep = liftR RStep := by unfold ΔF; rw [if_neg (by decide), if_pos rfl]
theorem ΓF_named (nm : ByteArray) (hN : nm.size ≤ 1000000000) : gNamed [vs nm] = some (vb (isName nm)) := gNamed_eq nm hN

theorem flat_low (D : Dsk) (X : List Fil) (hid : List (Value × Value)) : Blow (flatB D X hid).length (flatB D X hid) := fun y hy => by
  rw [flatB_length]; exact (flat_pl D X hid y hy).2

theorem dFind {args : List AV} {B B' : List Box} {r : AV} (h : RFind args B r B') (Bx : List Box) : ΔF iFind args (B ++ Bx) r (B' ++ Bx) := by
  rw [ΔF_find]
  cases h with
  | d ro us fu hid nm => exact lift_tail (.d ro us fu hid nm) rfl rfl (flat_low _ _ _) (flat_low _ _ _) rfl Bx
  | a ro us fu hid hs nm hh hn => exact lift_tail (.a ro us fu hid hs nm hh hn) rfl rfl (flat_low _ _ _) (flat_low _ _ _) rfl Bx
  | p ro us fu hid hs x hh => exact lift_tail (.p ro us fu hid hs x hh) rfl rfl (flat_low _ _ _) (flat_low _ _ _) rfl Bx
  | q ro us fu hid hs x y hh => exact lift_tail (.q ro us fu hid hs x y hh) rfl rfl (flat_low _ _ _) (flat_low _ _ _) rfl Bx

theorem dStep (ro us fu : Int) (hid : List (Value × Value)) (X : List Fil) (hX : X.length ≤ 2) (hfu : fu < 9223372036854775808) (Bx : List Box) :
    ΔF iStep [.ptr 0 0 0] (flatB (dsk ro us fu false) X hid ++ Bx) (vi (stE fu)) (flatB (dsk ro us (stF fu) (stD fu)) X hid ++ Bx) := by
  rw [ΔF_step]
  refine lift_tail (.mk ro us fu hid X hX hfu) (by rw [flatB_length, flatB_length]) ?_ (flat_low _ _ _) ?_ rfl Bx
  · rw [flatB_length]
    show (Nat.blt 0 (2 + 2 * X.length) && true) = true
    simp [Nat.blt_eq]
    omega
  · rw [flatB_length]
    have := flat_low (dsk ro us (stF fu) (stD fu)) X hid
    rw [flatB_length] at this
    exact this

theorem wp_callr {d : Option Nat} {p : Prop} {v : AV} {B : List Box} {k : Tree} {K : AE → St → Prop} (hp : p) (h : k.wp K) : (Tree.callr d p v B k).wp K := ⟨hp, h⟩

theorem SoundR.or {P : Program} {f : Nat} {R1 R2 : RSpec} (h1 : SoundR P f R1) (h2 : SoundR P f R2) : SoundR P f (fun a b c d => R1 a b c d ∨ R2 a b c d) := fun a b c d h => h.elim (h1 a b c d) (h2 a b c d)

def RGen (fn : Func) : RSpec := fun args B r B' => GenT DP ΓF ΔF fn args B (r, B')
def RG (fn : Func) : RSpec := fun args B r B' => RGen fn args B r B' ∨ ((∃ Bf b i v cs, RGen fn args B r Bf ∧ Bf[b]? = some (.cells false v cs) ∧ cs[i]? = some nilS ∧ B' = nilfix Bf b i v cs) ∨ (∃ Bf e, RGen fn args B (.tup [nilS, e]) Bf ∧ r = .tup [.rs Bf.length 0 1 0 0, e] ∧ B' = Bf ++ [.cells true 0 []]))
theorem SG {f : FuncId} {fn : Func} (hf : DP.funcs[f]? = some fn) (he : enters DP f = true) (hb : fn.body.isSome = true) : SoundR DP f (RG fn) :=
  have h : SoundR DP f (RGen fn) := sound_genT mixedD ΓF_ok ΔF_ok hf he hb (fun _ _ _ _ h => h)
  h.or (h.nilfix.or h.nilans)
theorem SO {f : FuncId} {fn : Func} (hf : DP.funcs[f]? = some fn) (he : enters DP f = true) (hb : fn.body.isSome = true) : SoundR DP f (diskR (RG fn)) := disk_lift (SG hf he hb)


/-! ### The shapes: no file laid open, or one -/
def isP : AV → Bool
  | .p _ => true
  | _ => false

theorem al_id : ∀ {al : List AV}, al.all isP = true → ∀ f d, al.map (AV.rv f d) = al
  | [], _, _, _ => rfl
  | a :: al, h, f, d => by
    simp only [List.all_cons, Bool.and_eq_true] at h
    rw [List.map_cons, al_id h.2]
    cases a <;> first | rfl | cases h.1

theorem al_ok : ∀ {al : List AV}, al.all isP = true → al.all (okArg 0) = true
  | [], _ => rfl
  | a :: al, h => by
    simp only [List.all_cons, Bool.and_eq_true] at h ⊢
    refine ⟨?_, al_ok h.2⟩
    cases a <;> first | rfl | cases h.1

/-- No file is laid open. -/
theorem obA {fn : Func} {D D1 : Dsk} {al : List AV} {y : AV} (hal : al.all isP = true) (hy : y.pl2 = true) (hl : y.low 0 = true) (hf : D.files.Perm D1.files)
    (h : ∀ hid, hid.map (·.1) = strsV (D.files.map (·.name)) → RG fn (.ptr 0 0 0 :: al) (flatB D [] hid) y (flatB D1 [] hid)) : diskR (RG fn) (.op 0 :: al) [.obj [] (diskP D)] y [.obj [] (diskP D1)] := by
  have hr : ∀ f d, y.rv f d = y := fun f d => rv_low (n := 0) (fun j hj => by omega) (fun j hj => by omega) hl
  refine ⟨D, D1, [], D.files, [], [], [], al, y, .refl _, al_ok hal, by rw [al_id hal], rfl, fun hid hh => ⟨flatB D1 [] hid, ?_, shut0 rfl rfl⟩, hf, hy, hl, (hr _ _).symm, rfl⟩
  rw [al_id hal, hr]
  exact h hid (by rw [hh]; simp [keysOf])

abbrev flatV (D1 : Dsk) (x : Fil) (v : Nat) (hid : List (Value × Value)) : List Box := [headC D1, .obj [.ptr 2 0 0] (mapP [.string x.name] hid), fileC 3 v x, rowB v x.b]

/-- One file is laid open; it is there behind the call. -/
theorem obP {fn : Func} {D D1 : Dsk} {x x' : Fil} {v : Nat} {al : List AV} {y : AV} (ok : (D.files.map (·.name)).Nodup) (hx : x ∈ D.files) (hal : al.all isP = true) (hy : y.pl2 = true) (hl : y.low 0 = true) (hf : (x' :: delF D.files x.name).Perm D1.files)
    (h : ∀ hid, hid.map (·.1) = strsV ((delF D.files x.name).map (·.name)) → RG fn (.ptr 0 0 0 :: al) (flatB D [x] hid) y (flatV D1 x' v hid)) : diskR (RG fn) (.op 0 :: al) [.obj [] (diskP D)] y [.obj [] (diskP D1)] := by
  have hr : ∀ f d, y.rv f d = y := fun f d => rv_low (n := 0) (fun j hj => by omega) (fun j hj => by omega) hl
  refine ⟨D, D1, [x], delF D.files x.name, [], [⟨x', 2, 3, v⟩], [], al, y, delF_perm ok hx, al_ok hal, by rw [al_id hal], rfl, fun hid hh => ⟨flatV D1 x' v hid, ?_, shut1 rfl rfl rfl rfl⟩, hf, hy, hl, (hr _ _).symm, rfl⟩
  rw [al_id hal, hr]
  exact h hid (by rw [hh]; simp [keysOf])

/-- One file is laid open; it is gone behind the call. -/
theorem obG {fn : Func} {D D1 : Dsk} {x : Fil} {al : List AV} {y : AV} (ok : (D.files.map (·.name)).Nodup) (hx : x ∈ D.files) (hal : al.all isP = true) (hy : y.pl2 = true) (hl : y.low 0 = true) (hf : (delF D.files x.name).Perm D1.files)
    (h : ∀ hid, hid.map (·.1) = strsV ((delF D.files x.name).map (·.name)) → RG fn (.ptr 0 0 0 :: al) (flatB D [x] hid) y [headC D1, .obj [] (mapP [] hid), fileC 3 0 x, rowB 0 x.b]) : diskR (RG fn) (.op 0 :: al) [.obj [] (diskP D)] y [.obj [] (diskP D1)] := by
  have hr : ∀ f d, y.rv f d = y := fun f d => rv_low (n := 0) (fun j hj => by omega) (fun j hj => by omega) hl
  refine ⟨D, D1, [x], delF D.files x.name, [], [], [], al, y, delF_perm ok hx, al_ok hal, by rw [al_id hal], rfl, fun hid hh => ⟨[headC D1, .obj [] (mapP [] hid), fileC 3 0 x, rowB 0 x.b], ?_, shut0 rfl rfl⟩, hf, hy, hl, (hr _ _).symm, rfl⟩
  rw [al_id hal, hr]
  exact h hid (by rw [hh]; simp [keysOf])

/-- No file is laid open, a new one is made. -/
theorem obN {fn : Func} {D D1 : Dsk} {nm : ByteArray} {al : List AV} {y : AV} (hal : al.all isP = true) (hy : y.pl2 = true) (hl : y.low 0 = true) (hf : (⟨nm, [], 0⟩ :: D.files).Perm D1.files)
    (h : ∀ hid, hid.map (·.1) = strsV (D.files.map (·.name)) → RGen fn (.ptr 0 0 0 :: al) (flatB D [] hid) y [headC D1, .obj [.ptr 2 0 0] (mapP [.string nm] hid), .cells false 0 [nilS, vi 0]]) : diskR (RG fn) (.op 0 :: al) [.obj [] (diskP D)] y [.obj [] (diskP D1)] := by
  have hr : ∀ f d, y.rv f d = y := fun f d => rv_low (n := 0) (fun j hj => by omega) (fun j hj => by omega) hl
  refine ⟨D, D1, [], D.files, [], [⟨⟨nm, [], 0⟩, 2, 3, 0⟩], [], al, y, .refl _, al_ok hal, by rw [al_id hal], rfl, fun hid hh => ⟨flatV D1 ⟨nm, [], 0⟩ 0 hid, ?_, shut1 rfl rfl rfl rfl⟩, hf, hy, hl, (hr _ _).symm, rfl⟩
  rw [al_id hal, hr]
  exact .inr (.inl ⟨_, 2, 0, 0, [nilS, vi 0], h hid (by rw [hh]; simp [keysOf]), rfl, rfl, rfl⟩)

theorem bne_false {e : Int} (h : (e != (0 : Int)) = false) : e = 0 := by simpa using h
theorem bne_true {e : Int} (h : (e != (0 : Int)) = true) : e ≠ 0 := by simpa using h

/-- A name that is looked for. -/
theorem hids {hid : List (Value × Value)} {fs : List Fil} (hh : hid.map (·.1) = strsV (fs.map (·.name))) {nm : ByteArray} (h : nm ∉ fs.map (·.name)) : hid.map (·.1) = strsV (fs.map (·.name)) ∧ nm ∉ fs.map (·.name) := ⟨hh, h⟩

def OCreate : RSpec := fun args B r B' => ∃ (D : Dsk) (nm : ByteArray), D.Ok ∧ nm.size ≤ 1000000000 ∧ args = [.op 0, vs nm] ∧ B = [.obj [] (diskP D)] ∧ r = vi (createD D nm).2 ∧ B' = [.obj [] (diskP (createD D nm).1)]

theorem SCreate : SoundR DP iCreate OCreate := (SO hfCreate heCreate hbCreate).mono (by
  rintro args B r B' ⟨D, nm, ok, hN, rfl, rfl, rfl, rfl⟩
  have hnm := ΓF_named nm hN
  have hfu := ok.fuse.2
  obtain ⟨ro, us, fs, dn, fu⟩ := D
  cases dn with
  | true =>
    have h2 : createD ⟨ro, us, fs, true, fu⟩ nm = (⟨ro, us, fs, true, fu⟩, if !isName nm then 1 else 10) := by
      unfold createD; split <;> rfl
    rw [h2]
    refine obA (al := [vs nm]) rfl rfl rfl (.refl _) (fun hid hh => .inl ⟨by rw [hnCreate]; rfl, _, TCreate_d_chk ro us fu hid nm, ?_⟩)
    unfold TCreate_d
    exact wp_call hnm (wp_sp (fun h => wp_callr (dFind (.d ro us fu hid nm) []) (wp_leaf rfl ⟨by rw [h]; rfl, rfl⟩)) (fun h => wp_leaf rfl ⟨by rw [h]; rfl, rfl⟩))
  | false =>
    cases hg : (⟨ro, us, fs, false, fu⟩ : Dsk).get nm with
    | some x =>
      obtain ⟨hx, rfl⟩ := get_some hg
      have h2 : createD ⟨ro, us, fs, false, fu⟩ x.name = (⟨ro, us, fs, false, fu⟩, if !isName x.name then 1 else 5) := by
        unfold createD
        split
        · rfl
        · rw [if_neg (by simp)]
          simp only [hg]
      rw [h2]
      refine obP (x' := x) (v := 0) (al := [vs x.name]) ok.nod hx rfl rfl rfl (delF_perm ok.nod hx).symm (fun hid hh => .inl ⟨by rw [hnCreate]; rfl, _, TCreate_p_chk ro us fu hid x.b x.sure x.name, ?_⟩)
      unfold TCreate_p
      exact wp_call hnm (wp_sp (fun h => wp_callr (dFind (.p ro us fu hid _ x hh) []) (wp_leaf rfl ⟨by rw [h]; rfl, rfl⟩)) (fun h => wp_leaf rfl ⟨by rw [h]; rfl, rfl⟩))
    | none =>
      have hno := get_none hg
      cases hn : isName nm with
      | false =>
        have h2 : createD ⟨ro, us, fs, false, fu⟩ nm = (⟨ro, us, fs, false, fu⟩, 1) := by unfold createD; rw [if_pos (by simp [hn])]
        rw [h2]
        refine obA (al := [vs nm]) rfl rfl rfl (.refl _) (fun hid hh => .inl ⟨by rw [hnCreate]; rfl, _, TCreate_a_chk ro us fu hid nm, ?_⟩)
        unfold TCreate_a
        exact wp_call hnm (wp_sp (fun h => by rw [hn] at h; cases h) (fun h => wp_leaf rfl ⟨rfl, rfl⟩))
      | true =>
        by_cases he : stE fu = 0
        · have h2 : createD ⟨ro, us, fs, false, fu⟩ nm = (⟨ro, us, insF ⟨nm, [], 0⟩ fs, stD fu, stF fu⟩, 0) := by
            unfold createD
            rw [if_neg (by simp [hn]), if_neg (by simp)]
            simp only [hg, he, ne_eq, not_true_eq_false, if_false]
            rfl
          rw [h2]
          refine obN (nm := nm) (al := [vs nm]) rfl rfl rfl (insF_perm _ _) (fun hid hh => ⟨by rw [hnCreate]; rfl, _, TCreate_a_chk ro us fu hid nm, ?_⟩)
          unfold TCreate_a
          refine wp_call hnm (wp_sp (fun _ => wp_callr (dFind (.a ro us fu hid _ nm hh hno) []) (wp_callr (dStep ro us fu hid [] (by simp) hfu []) (wp_sp (fun h => absurd he (bne_true h)) (fun h => wp_val ?_ (wp_leaf rfl ⟨rfl, rfl⟩))))) (fun h => by rw [hn] at h; cases h))
          exact upd_no htMap htKey (ns := []) (B := [.cells false 0 ([vi ro, vi us, .mp 1, vb (stD fu), vi (stF fu)]), .obj [] (mapP [] hid), .cells false 0 ([nilS, vi 0])]) rfl hh (by simp) hno
        · have h2 : createD ⟨ro, us, fs, false, fu⟩ nm = (⟨ro, us, fs, stD fu, stF fu⟩, stE fu) := by
            unfold createD
            rw [if_neg (by simp [hn]), if_neg (by simp)]
            simp only [hg, ne_eq, he, not_false_eq_true, if_true]
            rfl
          rw [h2]
          refine obA (al := [vs nm]) rfl rfl rfl (.refl _) (fun hid hh => .inl ⟨by rw [hnCreate]; rfl, _, TCreate_a_chk ro us fu hid nm, ?_⟩)
          unfold TCreate_a
          exact wp_call hnm (wp_sp (fun _ => wp_callr (dFind (.a ro us fu hid _ nm hh hno) []) (wp_callr (dStep ro us fu hid [] (by simp) hfu []) (wp_sp (fun h => wp_leaf rfl ⟨rfl, rfl⟩) (fun h => absurd (bne_false h) he)))) (fun h => by rw [hn] at h; cases h)))

end Go.Ax

namespace Go.Ax
open Go.Proofs Go.RowKit
set_option maxRecDepth 100000

theorem len_le_sum {fs : List Fil} {x : Fil} (h : x ∈ fs) : (x.b.length : Int) ≤ (fs.map fun x => (x.b.length : Int)).sum := by
  induction fs with
  | nil => cases h
  | cons y fs ih =>
    have hs : 0 ≤ (fs.map fun x => (x.b.length : Int)).sum := by
      clear ih h
      induction fs with
      | nil => simp
      | cons z fs ih => simp only [List.map_cons, List.sum_cons]; omega
    simp only [List.map_cons, List.sum_cons]
    rcases List.mem_cons.1 h with rfl | h
    · omega
    · have := ih h; omega

theorem sum_nonneg (fs : List Fil) : 0 ≤ (fs.map fun x => (x.b.length : Int)).sum := by
  induction fs with
  | nil => simp
  | cons z fs ih => simp only [List.map_cons, List.sum_cons]; omega

theorem Dsk.Ok.bnd {D : Dsk} (ok : D.Ok) : 0 ≤ D.used ∧ D.used ≤ 67108864 ∧ ∀ x ∈ D.files, (x.b.length : Int) ≤ D.used := by
  have h1 := ok.room
  have h2 := ok.le
  have h3 := sum_nonneg D.files
  refine ⟨by rw [ok.used]; exact h3, by omega, fun x hx => by rw [ok.used]; exact len_le_sum hx⟩

def OSync : RSpec := fun args B r B' => ∃ (D : Dsk) (nm : ByteArray), D.Ok ∧ args = [.op 0, vs nm] ∧ B = [.obj [] (diskP D)] ∧ r = vi (syncD D nm).2 ∧ B' = [.obj [] (diskP (syncD D nm).1)]

theorem SSync : SoundR DP iSync OSync := (SO hfSync heSync hbSync).mono (by
  rintro args B r B' ⟨D, nm, ok, rfl, rfl, rfl, rfl⟩
  have hfu := ok.fuse.2
  obtain ⟨ro, us, fs, dn, fu⟩ := D
  cases dn with
  | true =>
    refine obA (al := [vs nm]) rfl rfl rfl (.refl _) (fun hid hh => .inl ⟨by rw [hnSync]; rfl, _, TSync_d_chk ro us fu hid nm, ?_⟩)
    unfold TSync_d
    exact wp_callr (dFind (.d ro us fu hid nm) []) (wp_leaf rfl ⟨rfl, rfl⟩)
  | false =>
    cases hg : (⟨ro, us, fs, false, fu⟩ : Dsk).get nm with
    | none =>
      have hno := get_none hg
      have h2 : syncD ⟨ro, us, fs, false, fu⟩ nm = (⟨ro, us, fs, false, fu⟩, 4) := by unfold syncD; rw [if_neg (by simp)]; simp only [hg]
      rw [h2]
      refine obA (al := [vs nm]) rfl rfl rfl (.refl _) (fun hid hh => .inl ⟨by rw [hnSync]; rfl, _, TSync_a_chk ro us fu hid nm, ?_⟩)
      unfold TSync_a
      exact wp_callr (dFind (.a ro us fu hid _ nm hh hno) []) (wp_leaf rfl ⟨rfl, rfl⟩)
    | some x =>
      obtain ⟨hx, rfl⟩ := get_some hg
      by_cases he : stE fu = 0
      · have h2 : syncD ⟨ro, us, fs, false, fu⟩ x.name = (⟨ro, us, repF fs { x with sure := x.b.length }, stD fu, stF fu⟩, 0) := by
          unfold syncD; rw [if_neg (by simp)]; simp only [hg, he, ne_eq, not_true_eq_false, if_false]; rfl
        rw [h2]
        refine obP (x' := { x with sure := x.b.length }) (v := 0) (al := [vs x.name]) ok.nod hx rfl rfl rfl (repF_perm (x' := { x with sure := (x.b.length : Int) }) ok.nod hx rfl) (fun hid hh => .inl ⟨by rw [hnSync]; rfl, _, TSync_p_chk ro us fu hid x.b x.sure x.name, ?_⟩)
        unfold TSync_p
        exact wp_callr (dFind (.p ro us fu hid _ x hh) []) (wp_callr (dStep ro us fu hid [x] (by simp) hfu []) (wp_sp (fun h => absurd he (bne_true h)) (fun h => wp_leaf rfl ⟨rfl, rfl⟩)))
      · have h2 : syncD ⟨ro, us, fs, false, fu⟩ x.name = (⟨ro, us, fs, stD fu, stF fu⟩, stE fu) := by
          unfold syncD; rw [if_neg (by simp)]; simp only [hg, ne_eq, he, not_false_eq_true, if_true]; rfl
        rw [h2]
        refine obP (x' := x) (v := 0) (al := [vs x.name]) ok.nod hx rfl rfl rfl (delF_perm ok.nod hx).symm (fun hid hh => .inl ⟨by rw [hnSync]; rfl, _, TSync_p_chk ro us fu hid x.b x.sure x.name, ?_⟩)
        unfold TSync_p
        exact wp_callr (dFind (.p ro us fu hid _ x hh) []) (wp_callr (dStep ro us fu hid [x] (by simp) hfu []) (wp_sp (fun h => wp_leaf rfl ⟨rfl, rfl⟩) (fun h => absurd (bne_false h) he))))

def ORemove : RSpec := fun args B r B' => ∃ (D : Dsk) (nm : ByteArray), D.Ok ∧ args = [.op 0, vs nm] ∧ B = [.obj [] (diskP D)] ∧ r = vi (removeD D nm).2 ∧ B' = [.obj [] (diskP (removeD D nm).1)]

theorem SRemove : SoundR DP iRemove ORemove := (SO hfRemove heRemove hbRemove).mono (by
  rintro args B r B' ⟨D, nm, ok, rfl, rfl, rfl, rfl⟩
  have hfu := ok.fuse.2
  obtain ⟨b1, b2, b3⟩ := ok.bnd
  obtain ⟨ro, us, fs, dn, fu⟩ := D
  cases dn with
  | true =>
    refine obA (al := [vs nm]) rfl rfl rfl (.refl _) (fun hid hh => .inl ⟨by rw [hnRemove]; rfl, _, TRemove_d_chk ro us fu hid nm, ?_⟩)
    unfold TRemove_d
    exact wp_callr (dFind (.d ro us fu hid nm) []) (wp_leaf rfl ⟨rfl, rfl⟩)
  | false =>
    cases hg : (⟨ro, us, fs, false, fu⟩ : Dsk).get nm with
    | none =>
      have hno := get_none hg
      have h2 : removeD ⟨ro, us, fs, false, fu⟩ nm = (⟨ro, us, fs, false, fu⟩, 4) := by unfold removeD; rw [if_neg (by simp)]; simp only [hg]
      rw [h2]
      refine obA (al := [vs nm]) rfl rfl rfl (.refl _) (fun hid hh => .inl ⟨by rw [hnRemove]; rfl, _, TRemove_a_chk ro us fu hid nm, ?_⟩)
      unfold TRemove_a
      exact wp_callr (dFind (.a ro us fu hid _ nm hh hno) []) (wp_leaf rfl ⟨rfl, rfl⟩)
    | some x =>
      obtain ⟨hx, rfl⟩ := get_some hg
      have hxl := b3 x hx
      simp only at b1 b2 hxl
      by_cases he : stE fu = 0
      · have h2 : removeD ⟨ro, us, fs, false, fu⟩ x.name = (⟨ro, us - (x.b.length : Int), delF fs x.name, stD fu, stF fu⟩, 0) := by
          unfold removeD; rw [if_neg (by simp)]; simp only [hg, he, ne_eq, not_true_eq_false, if_false]; rfl
        rw [h2]
        refine obG (al := [vs x.name]) ok.nod hx rfl rfl rfl (.refl _) (fun hid hh => .inl ⟨by rw [hnRemove]; rfl, _, TRemove_p_chk ro us fu hid x.b x.sure x.name, ?_⟩)
        unfold TRemove_p
        refine wp_callr (dFind (.p ro us fu hid _ x hh) []) (wp_callr (dStep ro us fu hid [x] (by simp) hfu []) (wp_sp (fun h => absurd he (bne_true h)) (fun h => wp_i64 (by omega) (wp_val ?_ (wp_leaf rfl ⟨rfl, rfl⟩)))))
        exact del_v0 htMap htKey (ns := []) (cs := []) (c := .ptr 2 0 0) (B := [.cells false 0 ([vi ro, vi (us - ((x.b.length : Nat) : Int)), .mp 1, vb (stD fu), vi (stF fu)]), .obj [.ptr 2 0 0] (mapP [.string x.name] hid), .cells false 0 ([.rs 3 0 1 0 x.b.length, vi x.sure]), byteE.bx 0 x.b]) rfl hh
      · have h2 : removeD ⟨ro, us, fs, false, fu⟩ x.name = (⟨ro, us, fs, stD fu, stF fu⟩, stE fu) := by
          unfold removeD; rw [if_neg (by simp)]; simp only [hg, ne_eq, he, not_false_eq_true, if_true]; rfl
        rw [h2]
        refine obP (x' := x) (v := 0) (al := [vs x.name]) ok.nod hx rfl rfl rfl (delF_perm ok.nod hx).symm (fun hid hh => .inl ⟨by rw [hnRemove]; rfl, _, TRemove_p_chk ro us fu hid x.b x.sure x.name, ?_⟩)
        unfold TRemove_p
        exact wp_callr (dFind (.p ro us fu hid _ x hh) []) (wp_callr (dStep ro us fu hid [x] (by simp) hfu []) (wp_sp (fun h => wp_leaf rfl ⟨rfl, rfl⟩) (fun h => absurd (bne_false h) he))))

def OSize : RSpec := fun args B r B' => ∃ (D : Dsk) (nm : ByteArray), D.Ok ∧ args = [.op 0, vs nm] ∧ B = [.obj [] (diskP D)] ∧ r = .tup [vi (sizeD D nm).1, vi (sizeD D nm).2] ∧ B' = B

theorem SSize : SoundR DP iSize OSize := (SO hfSize heSize hbSize).mono (by
  rintro args B r B' ⟨D, nm, ok, rfl, rfl, rfl, rfl⟩
  obtain ⟨ro, us, fs, dn, fu⟩ := D
  cases dn with
  | true =>
    refine obA (al := [vs nm]) rfl rfl rfl (.refl _) (fun hid hh => .inl ⟨by rw [hnSize]; rfl, _, TSize_d_chk ro us fu hid nm, ?_⟩)
    unfold TSize_d
    exact wp_callr (dFind (.d ro us fu hid nm) []) (wp_leaf rfl ⟨rfl, rfl⟩)
  | false =>
    cases hg : (⟨ro, us, fs, false, fu⟩ : Dsk).get nm with
    | none =>
      have hno := get_none hg
      have h2 : sizeD ⟨ro, us, fs, false, fu⟩ nm = (0, 4) := by unfold sizeD; rw [if_neg (by simp)]; simp only [hg]
      rw [h2]
      refine obA (al := [vs nm]) rfl rfl rfl (.refl _) (fun hid hh => .inl ⟨by rw [hnSize]; rfl, _, TSize_a_chk ro us fu hid nm, ?_⟩)
      unfold TSize_a
      exact wp_callr (dFind (.a ro us fu hid _ nm hh hno) []) (wp_leaf rfl ⟨rfl, rfl⟩)
    | some x =>
      obtain ⟨hx, rfl⟩ := get_some hg
      have h2 : sizeD ⟨ro, us, fs, false, fu⟩ x.name = ((x.b.length : Int), 0) := by unfold sizeD; rw [if_neg (by simp)]; simp only [hg]
      rw [h2]
      refine obP (x' := x) (v := 0) (al := [vs x.name]) ok.nod hx rfl rfl rfl (delF_perm ok.nod hx).symm (fun hid hh => .inl ⟨by rw [hnSize]; rfl, _, TSize_p_chk ro us fu hid x.b x.sure x.name, ?_⟩)
      unfold TSize_p
      exact wp_callr (dFind (.p ro us fu hid _ x hh) []) (wp_leaf rfl ⟨rfl, rfl⟩))

def OAppend : RSpec := fun args B r B' => ∃ (D : Dsk) (nm : ByteArray) (bs : List UInt8), D.Ok ∧ bs.length ≤ 1000000000 ∧ args = [.op 0, vs nm, vl (bs.map byteE.f)] ∧ B = [.obj [] (diskP D)] ∧ r = vi (appendD D nm bs).2 ∧ B' = [.obj [] (diskP (appendD D nm bs).1)]

theorem SAppend : SoundR DP iAppend OAppend := (SO hfAppend heAppend hbAppend).mono (by
  rintro args B r B' ⟨D, nm, bs, ok, hbs, rfl, rfl, rfl, rfl⟩
  have hfu := ok.fuse.2
  obtain ⟨b1, b2, b3⟩ := ok.bnd
  have b4 := ok.room
  obtain ⟨ro, us, fs, dn, fu⟩ := D
  cases dn with
  | true =>
    refine obA (al := [vs nm, vl (bs.map byteE.f)]) rfl rfl rfl (.refl _) (fun hid hh => .inl ⟨by rw [hnAppend]; rfl, _, TAppend_d_chk ro us fu hid nm bs, ?_⟩)
    unfold TAppend_d
    exact wp_callr (dFind (.d ro us fu hid nm) []) (wp_leaf rfl ⟨rfl, rfl⟩)
  | false =>
    cases hg : (⟨ro, us, fs, false, fu⟩ : Dsk).get nm with
    | none =>
      have hno := get_none hg
      have h2 : appendD ⟨ro, us, fs, false, fu⟩ nm bs = (⟨ro, us, fs, false, fu⟩, 4) := by unfold appendD; rw [if_neg (by simp)]; simp only [hg]
      rw [h2]
      refine obA (al := [vs nm, vl (bs.map byteE.f)]) rfl rfl rfl (.refl _) (fun hid hh => .inl ⟨by rw [hnAppend]; rfl, _, TAppend_a_chk ro us fu hid nm bs, ?_⟩)
      unfold TAppend_a
      exact wp_callr (dFind (.a ro us fu hid _ nm hh hno) []) (wp_leaf rfl ⟨rfl, rfl⟩)
    | some x =>
      obtain ⟨hx, rfl⟩ := get_some hg
      have hxl := b3 x hx
      simp only at b1 b2 b4 hxl
      by_cases hfull : (bs.length : Int) > ro - us
      · have h2 : appendD ⟨ro, us, fs, false, fu⟩ x.name bs = (⟨ro, us, fs, false, fu⟩, 11) := by
          unfold appendD; rw [if_neg (by simp)]; simp only [hg, hfull, if_true]
        rw [h2]
        refine obP (x' := x) (v := 0) (al := [vs x.name, vl (bs.map byteE.f)]) ok.nod hx rfl rfl rfl (delF_perm ok.nod hx).symm (fun hid hh => .inl ⟨by rw [hnAppend]; rfl, _, TAppend_p_chk ro us fu hid x.b x.sure x.name bs, ?_⟩)
        unfold TAppend_p
        exact wp_callr (dFind (.p ro us fu hid _ x hh) []) (wp_len (wp_i64 (by omega) (wp_sp (fun h => wp_leaf rfl ⟨rfl, rfl⟩) (fun h => absurd hfull (of_decide_eq_false h)))))
      · by_cases he : stE fu = 0
        · have h2 : appendD ⟨ro, us, fs, false, fu⟩ x.name bs = (⟨ro, us + (bs.length : Int), repF fs { x with b := x.b ++ bs }, stD fu, stF fu⟩, 0) := by
            unfold appendD; rw [if_neg (by simp)]; simp only [hg, hfull, if_false, he, ne_eq, not_true_eq_false]; rfl
          rw [h2]
          refine obP (x' := { x with b := x.b ++ bs }) (v := 1) (al := [vs x.name, vl (bs.map byteE.f)]) ok.nod hx rfl rfl rfl (repF_perm (x' := { x with b := x.b ++ bs }) ok.nod hx rfl) (fun hid hh => .inl ⟨by rw [hnAppend]; rfl, _, TAppend_p_chk ro us fu hid x.b x.sure x.name bs, ?_⟩)
          unfold TAppend_p
          exact wp_callr (dFind (.p ro us fu hid _ x hh) []) (wp_len (wp_i64 (by omega) (wp_sp (fun h => absurd (of_decide_eq_true h) hfull) (fun h => wp_callr (dStep ro us fu hid [x] (by simp) hfu []) (wp_sp (fun h => absurd he (bne_true h)) (fun h => wp_app rfl rfl (by simp only [List.length_append]; omega) (wp_len (wp_i64 (by omega) (wp_leaf rfl ⟨rfl, rfl⟩)))))))))
        · have h2 : appendD ⟨ro, us, fs, false, fu⟩ x.name bs = (⟨ro, us, fs, stD fu, stF fu⟩, stE fu) := by
            unfold appendD; rw [if_neg (by simp)]; simp only [hg, hfull, if_false, ne_eq, he, not_false_eq_true, if_true]; rfl
          rw [h2]
          refine obP (x' := x) (v := 0) (al := [vs x.name, vl (bs.map byteE.f)]) ok.nod hx rfl rfl rfl (delF_perm ok.nod hx).symm (fun hid hh => .inl ⟨by rw [hnAppend]; rfl, _, TAppend_p_chk ro us fu hid x.b x.sure x.name bs, ?_⟩)
          unfold TAppend_p
          exact wp_callr (dFind (.p ro us fu hid _ x hh) []) (wp_len (wp_i64 (by omega) (wp_sp (fun h => absurd (of_decide_eq_true h) hfull) (fun h => wp_callr (dStep ro us fu hid [x] (by simp) hfu []) (wp_sp (fun h => wp_leaf rfl ⟨rfl, rfl⟩) (fun h => absurd (bne_false h) he)))))))

end Go.Ax
