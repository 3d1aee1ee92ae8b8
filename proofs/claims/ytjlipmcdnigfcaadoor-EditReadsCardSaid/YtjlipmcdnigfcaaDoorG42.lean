/- Calls of the one who keeps the list, for callers. -/
import Derived.Test.YtjlipmcdnigfcaaDoorG41
import Derived.Test.YtjlipmcdnigfcaaDoorG20
import Derived.Test.YtjlipmcdnigfcaaDoorG26
import Derived.Test.YtjlipmcdnigfcaaDoorTie
import Derived.Test.YtjlipmcdnigfcaaDoorG10
import Derived.OpenShut
import Derived.WalkKit
import Derived.ProofKit
import Derived.LaidMore
import Derived.LaidLaws
import Derived.LaidHandle
import Derived.Lib.LaidTab
import Derived.Stop.Joined
set_option linter.unusedVariables false
set_option linter.unusedSimpArgs false
set_option linter.unusedSectionVars false
namespace Go.Ax
open Go.Proofs Go.RowKit
set_option maxRecDepth 100000

def sealX (R : RSpec) : RSpec := fun args B r B' => ∃ (i k : Nat) (x y : AV), Sealed (fun j => j = k) B x y ∧ args[i]? = some x ∧ R (args.set i y) (B.set k .dead) r B'
variable {P : Program} [Glob]
theorem SoundR.shutX {f : Nat} {R : RSpec} (h : SoundR P f R) : SoundR P f (sealX R) := by
 rintro args B r B' ⟨i, b, x0, y0, hs, hi, hR⟩ F ρ w us hI hA
 have hget : ∀ (b' : Nat) (row : Bool) (v' : Nat) (cs' : List AV), (B.set b Box.dead)[b']? = some (.cells row v' cs') → b' ≠ b ∧ B[b']? = some (.cells row v' cs') := by
  intro b' row v' cs' hc
  rw [List.getElem?_set] at hc
  split at hc
  ·split at hc <;> cases hc
  ·rename_i e'
   exact ⟨fun h => e' h.symm, hc⟩
 obtain ⟨hown, hE2⟩ := retell_ext (F := F) (B := B) (B' := B.set b Box.dead) (ρ := ρ) (w := w) (by simp) (fun b' row' v' cs' hc => ⟨cs', (hget b' row' v' cs' hc).2, rfl⟩) (fun j cs Φ h => obj_set (fun _ _ e => by cases e) h)
 have hI2 := retell (B' := B.set b Box.dead) hI (fun b' row' v' cs' hc => by
  obtain ⟨_, h3⟩ := hget b' row' v' cs' hc
  exact ⟨cs', h3, rfl, hI.leaf _ _ _ _ h3, fun j c' hc' => ⟨c', hc', fun u hu => hu.ext hE2⟩⟩) (fun j cs Φ h => obj_set (fun _ _ e => by cases e) h) hE2
 have hA2 : ArgsRel F (B.set b Box.dead) ρ w (args.set i y0) us := by
  refine ⟨by rw [List.length_set]; exact hA.1, fun j p u hp hu => ?_⟩
  rw [List.getElem?_set] at hp
  split at hp
  ·rename_i e
   subst e
   split at hp
   ·cases hp
    have hv := hA.2 i _ u hi hu
    refine Sealed.vrel (S := fun k => k = b) hI hs hv hown fun b0 row0 v0 cs0 k o hS hB hρ => ?_
    subst hS
    rintro (hF | ⟨b3, x3, l3, g1, g2, g3⟩)
    ·exact hI.farb b0 row0 v0 cs0 k o hB hρ hF
    ·rw [List.getElem?_set] at g1
     split at g1
     ·split at g1
      ·cases g1; exact g3.elim
      ·cases g1
     ·rename_i e2
      exact e2 (hI.injx b0 b3 _ _ (k, o) l3 k hB g1 hρ g2 rfl g3)
   ·cases hp
  ·exact (hA.2 j p u hp hu).ext hE2
 exact (h _ _ _ _ hR F ρ w us hI2 hA2).mono fun e w' hp => by
  obtain ⟨x, ρ2, rfl, q1, q2, q3⟩ := hp
  exact ⟨x, ρ2, rfl, q1, hE2.trans q2, q3⟩

section
variable {B : List Box} {b m : Nat} {D : Dsk} {n : Int} {v : Vers} {o : Bool} {x : Edt}
theorem oLoad (ok : D.Ok) (h : (loadD D).1 = 0) (hb : B[b]? = some (.obj [] (diskP D))) : liftR OLoad [.op b] B (.tup [.ptr B.length 0 0, vi 0]) (B ++ [manB b (loadD D).2.1 (loadD D).2.2 false]) := by
 have hlt : b < B.length := (List.getElem?_eq_some_iff.1 hb).1
 refine ⟨_, _, _, _, ⟨D, ok, rfl, rfl, .inr ⟨h, rfl, rfl⟩⟩, ⟨[b], [0], [.obj [] (diskP D)], [.obj [] (diskP D)], [manB b (loadD D).2.1 (loadD D).2.2 false], ?_, ?_, ?_, ?_, ⟨.objs rfl rfl, trivial⟩, ⟨.objs rfl rfl, .cells ?_ ?_ rfl, trivial⟩, ?_, ?_, rfl⟩⟩
 ·simp [noDup, Nat.blt_eq, hlt]
 ·simp [hb]
 ·simp [AV.rv.rvL, AV.rv, fNew]
 ·rfl
 ·simp [dNew]
 ·simp [AV.rv.rvL, AV.rv, fNew]
 ·simp only [outB]; rw [set_same hb]
 ·simp [AV.rv, AV.rv.rvL, fNew, dNew]
theorem oDo (ok : D.Ok) (hn : 0 ≤ n ∧ n ≤ 1073741824) (hx : DoOk v o x) (hm : B[m]? = some (manB b n v o)) (hb : B[b]? = some (.obj [] (diskP D))) :
  liftR ODo [.ptr m 0 0, edtA x] B (vi (doD D n v o x).2) ((B.set m (manB b (doM D n v o x).1 (doM D n v o x).2.1 (doM D n v o x).2.2)).set b (.obj [] (diskP (doD D n v o x).1))) :=
 lift_man (R := ODo) (al := [edtA x]) ⟨n, v, o, D, x, ok, hn, hx, rfl, rfl, rfl, rfl⟩ hm hb (fun _ _ => rfl) rfl (fun _ _ => rfl) rfl
theorem oVer {Φ : ObjP} (hv : v.files.length ≤ 1000000000) (hm : B[m]? = some (manB b n v o)) (hb : B[b]? = some (.obj [] Φ)) : liftR OVer [.ptr m 0 0] B (versA v) B :=
 lift_man0 (R := OVer) (al := []) ⟨n, v, o, Φ, hv, rfl, rfl, rfl, rfl⟩ hm hb (fun _ _ => rfl) rfl (fun _ _ => rfl) rfl
theorem oNumb {Φ : ObjP} (hm : B[m]? = some (manB b n v o)) (hb : B[b]? = some (.obj [] Φ)) : liftR ONumb [.ptr m 0 0] B (vi n) B :=
 lift_man0 (R := ONumb) (al := []) ⟨n, v, o, Φ, rfl, rfl, rfl, rfl⟩ hm hb (fun _ _ => rfl) rfl (fun _ _ => rfl) rfl
end
end Go.Ax

namespace Go.Ax
open Go.Proofs Go.RowKit
set_option maxRecDepth 100000

noncomputable def Γ16 : Env := envP [(52, gMetaL), (68, gNameF)]
noncomputable def Δ16 : REnv := envR [(iNew, liftR ONew), (iLoad, liftR OLoad), (iDo, sealX (liftR ODo)), (iVer, liftR OVer), (iNumb, liftR ONumb)]

abbrev iHeadE : Nat := 29
noncomputable abbrev nHeadE : Func := Tryd.f29
theorem hfHeadE : DP.funcs[iHeadE]? = some nHeadE := by kernel_rfl
theorem heHeadE : enters DP iHeadE = true := by kernel_rfl
theorem hbHeadE : nHeadE.body.isSome = true := by kernel_rfl
noncomputable def THeadE (D0 D1 : Dsk) (v1 : Vers) : Tree :=
.callr (some 7) (Δ16 15 [vi 1000] [] (.op 0) [.obj [] (diskP D0)]) (.op 0) [.obj [] (diskP D0)] (.callr (some 10) (Δ16 43 [.op 0] [.obj [] (diskP D0)] (.tup [.ptr 1 0 0, vi 0]) [.obj [] (diskP D0), manB 0 0 firstV false]) (.tup [.ptr 1 0 0, vi 0]) [.obj [] (diskP D0), manB 0 0 firstV false] (.callr (some 21) (Δ16 46 [.ptr 1 0 0] [.obj [] (diskP D0), manB 0 0 firstV false] (vi 0) [.obj [] (diskP D0), manB 0 0 firstV false]) (vi 0) [.obj [] (diskP D0), manB 0 0 firstV false] (.callr (some 26) (Δ16 45 [.ptr 1 0 0] [.obj [] (diskP D0), manB 0 0 firstV false] (.agg [vl (firstV.files.map metaE.f), vi firstV.log, vi firstV.next, vn .u64 firstV.seq]) [.obj [] (diskP D0), manB 0 0 firstV false]) (.agg [vl (firstV.files.map metaE.f), vi firstV.log, vi firstV.next, vn .u64 firstV.seq]) [.obj [] (diskP D0), manB 0 0 firstV false] (.sp 28 (firstV.next != (1 : Int)) (
.leaf ⟨[0], []⟩ [] .ret (some ([(0, vb false)], []))) (
.call 31 (gMetaL [vi 1] = some (.agg [vi 1, vi 0, vs (⟨#[97]⟩), vs (⟨#[98]⟩), vi 5])) (.agg [vi 1, vi 0, vs (⟨#[97]⟩), vs (⟨#[98]⟩), vi 5]) (.callr (some 34) (Δ16 44 [.ptr 1 0 0, .agg [.rs 2 0 5 0 1, nilS, vi 0, vi 2, vn .u64 0]] [.obj [] (diskP D0), manB 0 0 firstV false, .cells true 0 ([vi 1, vi 0, vs (⟨#[97]⟩), vs (⟨#[98]⟩), vi 5])] (vi 0) [.obj [] (diskP D1), manB 0 1 v1 true, .dead]) (vi 0) [.obj [] (diskP D1), manB 0 1 v1 true, .dead] (.callr (some 37) (Δ16 43 [.op 0] [.obj [] (diskP D1), manB 0 1 v1 true, .dead] (.tup [.ptr 3 0 0, vi 0]) [.obj [] (diskP D1), manB 0 1 v1 true, .dead, manB 0 1 v1 false]) (.tup [.ptr 3 0 0, vi 0]) [.obj [] (diskP D1), manB 0 1 v1 true, .dead, manB 0 1 v1 false] (.callr (some 48) (Δ16 46 [.ptr 1 0 0] [.obj [] (diskP D1), manB 0 1 v1 true, .dead, manB 0 1 v1 false] (vi 1) [.obj [] (diskP D1), manB 0 1 v1 true, .dead, manB 0 1 v1 false]) (vi 1) [.obj [] (diskP D1), manB 0 1 v1 true, .dead, manB 0 1 v1 false] (.callr (some 53) (Δ16 46 [.ptr 3 0 0] [.obj [] (diskP D1), manB 0 1 v1 true, .dead, manB 0 1 v1 false] (vi 1) [.obj [] (diskP D1), manB 0 1 v1 true, .dead, manB 0 1 v1 false]) (vi 1) [.obj [] (diskP D1), manB 0 1 v1 true, .dead, manB 0 1 v1 false] (.callr (some 58) (Δ16 45 [.ptr 3 0 0] [.obj [] (diskP D1), manB 0 1 v1 true, .dead, manB 0 1 v1 false] (.agg [vl (v1.files.map metaE.f), vi v1.log, vi v1.next, vn .u64 v1.seq]) [.obj [] (diskP D1), manB 0 1 v1 true, .dead, manB 0 1 v1 false]) (.agg [vl (v1.files.map metaE.f), vi v1.log, vi v1.next, vn .u64 v1.seq]) [.obj [] (diskP D1), manB 0 1 v1 true, .dead, manB 0 1 v1 false] (.int 60 ((v1.files.map metaE.f).length : Int) (v1.files.length : Int) (.sp 61 ((v1.files.length : Int) == (1 : Int)) (
.call 64 (gNameF [vi 3] = some (vs (filN 3))) (vs (filN 3)) (.leaf ⟨[0], []⟩ [] .ret (some ([(0, vb ((filN 3).toList == (⟨#[102, 105, 108, 101, 46, 51]⟩ : ByteArray).toList))], [])))) (
.leaf ⟨[0], []⟩ [] .ret (some ([(0, vb false)], [])))))))))))))))

theorem THeadE_chk (D0 D1 : Dsk) (v1 : Vers) : fnC DP Γ16 Δ16 Tryd.f29 [] [] (THeadE D0 D1 v1) = THeadE D0 D1 v1 := by kernel_rfl

end Go.Ax

namespace Go.Ax
open Go.Proofs Go.RowKit
set_option maxRecDepth 100000

theorem Γ16_ok : ∀ f, SoundF DP f (Γ16 f) := envP_cons SMetaL (envP_cons SNameF envP_nil)
theorem Δ16_ok : ∀ f, SoundR DP f (Δ16 f) := envR_cons (lift_sound SNew) <| envR_cons (lift_sound SLoad) <| envR_cons (SoundR.shutX (lift_sound SDo)) <| envR_cons (lift_sound SVer) <| envR_cons (lift_sound SNumb) envR_nil

theorem filN_3 : filN 3 = (⟨#[102, 105, 108, 101, 46, 51]⟩ : ByteArray) := by
 apply ByteArray.ext
 apply Array.toList_inj.mp
 rw [filN_list (by decide), dec_lt (by decide)]
 rfl
def meta1 : Meta := ⟨1, 0, ⟨#[97]⟩, ⟨#[98]⟩, 5⟩
def edit1 : Edt := ⟨[meta1], [], 0, 2, 0⟩
def vers1 : Vers := ⟨[meta1], 1, 2, 0⟩
theorem meta1_ok : meta1.ok = true := by
 simp [Meta.ok, meta1, ByteArray.toList_eq]
 decide
theorem right1 : Right vers1 := right_one meta1_ok (by decide) (by decide) (by decide) (by decide)
theorem apply1 : applyL firstV edit1 = (vers1, 0) := by
 have e4 : byNum (leftL [] [] ++ [meta1]) = [meta1] := byNum_id (L := [meta1]) (by simp) (fun x hx => by rw [List.mem_singleton.1 hx]; decide) (List.pairwise_singleton _ _)
 have ew : applyW firstV edit1 = vers1 := by
  show (⟨byNum (leftL [] [] ++ [meta1]), newI 0 1, newI 2 1, newI 0 0⟩ : Vers) = vers1
  rw [e4]; rfl
 unfold applyL
 rw [if_neg, ew, if_pos (of_right right1)]
 rintro (h1 | h1 | h1 | h1)
 ·exact h1 rfl
 ·exact absurd h1 (by decide)
 ·exact absurd h1 (by decide)
 ·exact absurd h1 (by decide)
theorem enc1_len : (encI (allE vers1)).length ≤ 200 := by
 have p : ∀ n : Int, 0 ≤ n ∧ n < 18446744073709551616 → (putI n).length ≤ 10 := fun n h => putI_len n h
 have e : encI (allE vers1) = putI 1 ++ putI 2 ++ putI 0 ++ putI 0 ++ [] ++ putI 1 ++ (putI 1 ++ putI 0 ++ putI 5 ++ (putI 1 ++ [97]) ++ (putI 1 ++ [98])) := by
  simp [encI, headE, allE, vers1, delI, addI, metaI, txtI, meta1, mxI]
  rfl
 rw [e]
 have p0 := p 0 (by decide)
 have p1 := p 1 (by decide)
 have p2 := p 2 (by decide)
 have p5 := p 5 (by decide)
 simp only [List.length_append, List.length_cons, List.length_nil]
 omega
theorem load_new {m : Int} : loadD (newD m) = (0, 0, firstV) := by
 unfold loadD
 rw [cont_sizeN live_new (cont_new _ _), if_pos rfl]
theorem do1 {D : Dsk} (h : Live D) (hr : 300 ≤ D.room - D.used) :
  DoOk firstV false edit1 ∧ (doD D 0 firstV false edit1).2 = 0 ∧ doM D 0 firstV false edit1 = (1, vers1, true) ∧ Live (doD D 0 firstV false edit1).1 ∧ loadD (doD D 0 firstV false edit1).1 = (0, 1, vers1) := by
 have hn := right_num right1 (by decide)
 have he1 := enc1_len
 have hf1 : (recB (encI (allE vers1))).length = (encI (allE vers1)).length + 12 := recB_len _
 have hp := putI_len 1 (by decide)
 have hf2 : (recB (putI 1)).length = (putI 1).length + 12 := recB_len _
 obtain ⟨f1, f2, f3, f4, f5⟩ := fresh_live h (n := 0) (w := vers1) (by decide) (by show ((recB (encI (allE vers1))).length : Int) + (recB (putI 1)).length ≤ _; omega)
 have ed : doD D 0 firstV false edit1 = freshD D 0 vers1 := by
  unfold doD
  rw [apply1, if_neg (by decide), if_neg (by rw [h.up]; decide), if_pos rfl]
 have em : doM D 0 firstV false edit1 = (1, vers1, true) := by
  unfold doM
  rw [apply1, if_neg (by decide), if_neg (by rw [h.up]; decide), if_pos rfl]
  unfold freshM
  rw [if_pos f1]
  rfl
 refine ⟨⟨⟨by decide, by decide, by decide⟩, fun _ => by rw [apply1]; decide, fun _ _ => by rw [apply1]; exact ⟨hn.enc, by show (encI (allE vers1)).length ≤ _; omega⟩, fun _ ho => by cases ho⟩, by rw [ed]; exact f1, em, by rw [ed]; exact f2, ?_⟩
 rw [ed]
 refine load_of f2 (by decide) (by rw [f3, if_pos rfl]; rfl) (c := recB (encI (allE vers1))) (by rw [f3, if_neg (manN_nn (by decide)).symm, if_neg (manN_ne (by decide)).symm]; exact if_pos rfl) (ts := [encI (allE vers1)]) (z := ((recB (encI (allE vers1))).length : Int)) ?_ (by simp) (replay_all right1 (by decide))
 have := allI_recs (ds := [encI (allE vers1)]) (fun d hd => by rw [List.mem_singleton.1 hd]; omega)
 simpa using this

theorem seal_edt {B : List Box} {k v : Nat} {L : List Meta} {a b c : PV} (hk : B[k]? = some (metaE.bx v L)) : Sealed (fun j => j = k) B (.agg [.rs k v 5 0 L.length, nilS, .p a, .p b, .p c]) (.agg [vl (L.map metaE.f), vl [], .p a, .p b, .p c]) := by
 refine .agg _ _ rfl fun j c d hc hd => ?_
 match j with
 | 0 => cases hc; cases hd; exact metaE.elt.sealed rfl hk
 | 1 => cases hc; cases hd; exact .nil
 | 2 => cases hc; cases hd; exact .p _
 | 3 => cases hc; cases hd; exact .p _
 | 4 => cases hc; cases hd; exact .p _
 | j + 5 => simp at hc
theorem oDoX {B : List Box} {b m k ve : Nat} {D : Dsk} {n : Int} {v : Vers} {o : Bool} {L : List Meta} {lg nx sq : Int} (ok : D.Ok) (hn : 0 ≤ n ∧ n ≤ 1073741824) (hx : DoOk v o ⟨L, [], lg, nx, sq⟩) (hm : B[m]? = some (manB b n v o)) (hb : B[b]? = some (.obj [] (diskP D))) (hk : B[k]? = some (metaE.bx ve L)) (h1 : k ≠ m) (h2 : k ≠ b) :
  sealX (liftR ODo) [.ptr m 0 0, .agg [.rs k ve 5 0 L.length, nilS, vi lg, vi nx, vn .u64 sq]] B (vi (doD D n v o ⟨L, [], lg, nx, sq⟩).2) (((B.set k .dead).set m (manB b (doM D n v o ⟨L, [], lg, nx, sq⟩).1 (doM D n v o ⟨L, [], lg, nx, sq⟩).2.1 (doM D n v o ⟨L, [], lg, nx, sq⟩).2.2)).set b (.obj [] (diskP (doD D n v o ⟨L, [], lg, nx, sq⟩).1))) :=
 ⟨1, k, _, _, seal_edt hk, rfl, oDo (x := ⟨L, [], lg, nx, sq⟩) ok hn hx (by rw [List.getElem?_set_ne h1]; exact hm) (by rw [List.getElem?_set_ne h2]; exact hb)⟩

def RHeadE : List AV → AV → Prop := fun args r => args = [] ∧ r = vb true
noncomputable def gHeadE := relG RHeadE
theorem gHeadE_eq : gHeadE [] = some (vb true) := relG_eq (fun _ _ _ h1 h2 => h1.2.trans h2.2.symm) ⟨rfl, rfl⟩
theorem SHeadE : SoundF DP iHeadE (.pure gHeadE) := sound_pureT mixedD Γ16_ok Δ16_ok hfHeadE heHeadE hbHeadE (by
 rintro args r ⟨rfl, rfl⟩
 have hl : Live (newD 1000) := live_new
 obtain ⟨d1, d2, d3, d4, d5⟩ := do1 hl (by decide)
 have hload := load_new (m := 1000)
 refine ⟨rfl, rfl, _, THeadE_chk (newD 1000) (doD (newD 1000) 0 firstV false edit1).1 vers1, ?_⟩
 have cl := fun (B : List Box) (hb : B[0]? = some (dkB (newD 1000))) => oLoad (b := 0) hl.ok (by rw [hload]) hb
 have cl2 := fun (B : List Box) (hb : B[0]? = some (dkB (doD (newD 1000) 0 firstV false edit1).1)) => oLoad (b := 0) d4.ok (by rw [d5]) hb
 rw [hload] at cl
 rw [d5] at cl2
 have cd := fun (B : List Box) (hm : B[1]? = some (manB 0 0 firstV false)) (hb : B[0]? = some (dkB (newD 1000))) (hk : B[2]? = some (metaE.bx 0 [meta1])) => oDoX (L := [meta1]) (lg := 0) (nx := 2) (sq := 0) hl.ok (by decide) d1 hm hb hk (by decide) (by decide)
 change ∀ B, _ → _ → _ → sealX (liftR ODo) [.ptr 1 0 0, .agg [.rs 2 0 5 0 [meta1].length, nilS, vi 0, vi 2, vn .u64 0]] B (vi (doD (newD 1000) 0 firstV false edit1).2) (((B.set 2 .dead).set 1 (manB 0 (doM (newD 1000) 0 firstV false edit1).1 (doM (newD 1000) 0 firstV false edit1).2.1 (doM (newD 1000) 0 firstV false edit1).2.2)).set 0 (.obj [] (diskP (doD (newD 1000) 0 firstV false edit1).1))) at cd
 rw [d2, d3] at cd
 unfold THeadE
 exact wp_callr (oNew 1000) (wp_callr (cl _ rfl) (wp_callr (oNumb (b := 0) rfl rfl) (wp_callr (oVer (b := 0) (by decide) rfl rfl) (wp_sp (fun h => absurd h (by decide)) (fun _ => wp_call gMetaL_eq (wp_callr (cd _ rfl rfl rfl) (wp_callr (cl2 _ rfl)
  (wp_callr (oNumb (b := 0) rfl rfl) (wp_callr (oNumb (b := 0) rfl rfl) (wp_callr (oVer (b := 0) (by decide) rfl rfl) (wp_len (wp_sp (fun _ => wp_call (gNameF_eq (by decide)) (wp_leaf rfl (by rw [filN_3, beq_self_eq_true]; exact .p _))) (fun h => absurd h (by decide)))))))))))))))
end Go.Ax

namespace Go.Ax
open Go.Proofs Go.RowKit
set_option maxRecDepth 100000

noncomputable def Γ17 : Env := envP [(29, gHeadE), (42, gDec), (41, gEnc)]

abbrev iEditReads : Nat := 10
noncomputable abbrev nEditReads : Func := Tryd.f10
theorem hfEditReads : DP.funcs[iEditReads]? = some nEditReads := by kernel_rfl
theorem heEditReads : enters DP iEditReads = true := by kernel_rfl
theorem hbEditReads : nEditReads.body.isSome = true := by kernel_rfl
noncomputable def TEReads (b : List UInt8) : Tree :=
.call 5 (gHeadE [] = some (vb true)) (vb true) (.int 8 ((b.map byteE.f).length : Int) (b.length : Int) (.sp 9 (decide ((b.length : Int) > (500 : Int))) (
.leaf ⟨[0], []⟩ [] .ret (some ([(0, vb true)], []))) (
.call 12 (gDec [vl (b.map byteE.f)] = some (.tup [.agg [vl ((((decI b).1).add).map metaE.f), vl ((((decI b).1).del).map intE.f), vi (((decI b).1).log), vi (((decI b).1).next), vn .u64 (((decI b).1).seq)], vi ((decI b).2)])) (.tup [.agg [vl ((((decI b).1).add).map metaE.f), vl ((((decI b).1).del).map intE.f), vi (((decI b).1).log), vi (((decI b).1).next), vn .u64 (((decI b).1).seq)], vi ((decI b).2)]) (.sp 16 (((decI b).2) != (0 : Int)) (
.sp 18 (((decI b).2) == (2 : Int)) (
.sp 22 ((((decI b).1).log) == (0 : Int)) (
.int 27 (((((decI b).1).add).map metaE.f).length : Int) ((((decI b).1).add).length : Int) (.sp 28 (((((decI b).1).add).length : Int) == (0 : Int)) (
.int 33 (((((decI b).1).del).map intE.f).length : Int) ((((decI b).1).del).length : Int) (.leaf ⟨[0], []⟩ [] .ret (some ([(0, vb (((((decI b).1).del).length : Int) == (0 : Int)))], [])))) (
.leaf ⟨[0], []⟩ [] .ret (some ([(0, vb false)], []))))) (
.leaf ⟨[0], []⟩ [] .ret (some ([(0, vb false)], [])))) (
.leaf ⟨[0], []⟩ [] .ret (some ([(0, vb false)], [])))) (
.call 37 (gEnc [.agg [vl ((((decI b).1).add).map metaE.f), vl ((((decI b).1).del).map intE.f), vi (((decI b).1).log), vi (((decI b).1).next), vn .u64 (((decI b).1).seq)]] = some (vl ((encI ((decI b).1)).map byteE.f))) (vl ((encI ((decI b).1)).map byteE.f)) (.bstrl 38 ((encI ((decI b).1)).map byteE.f) (encI ((decI b).1)) (.bstrl 40 (b.map byteE.f) b (.leaf ⟨[0], []⟩ [] .ret (some ([(0, vb ((⟨(encI ((decI b).1)).toArray⟩ : ByteArray).toList == (⟨b.toArray⟩ : ByteArray).toList))], []))))))))))

theorem TEReads_chk (b : List UInt8) : fnC DP Γ17 Δ0 Tryd.f10 [vl (b.map byteE.f)] [] (TEReads b) = TEReads b := by kernel_rfl

end Go.Ax

namespace Go.Ax
open Go.Proofs Go.RowKit
set_option maxRecDepth 100000

theorem Γ17_ok : ∀ f, SoundF DP f (Γ17 f) := envP_cons SHeadE (envP_cons SDec (envP_cons SEnc envP_nil))
theorem dec_err (b : List UInt8) : (decI b).2 = 0 ∨ decI b = (⟨[], [], 0, 0, 0⟩, 2) := by
 by_cases hc : (decA b).1.2 = true ∨ (decA b).1.1.length > 0
 ·rw [decI, if_pos hc]; exact .inr rfl
 ·rw [decI, if_neg hc]; exact .inl rfl
def REditReads : List AV → AV → Prop := fun args r => ∃ (b : List UInt8), args = [vl (b.map byteE.f)] ∧ r = vb true
theorem SEditReads : SoundF DP iEditReads (.pure (relG REditReads)) := sound_pureT mixedD Γ17_ok Δ0_ok hfEditReads heEditReads hbEditReads (by
 rintro args r ⟨b, rfl, rfl⟩
 refine ⟨rfl, rfl, _, TEReads_chk b, ?_⟩
 unfold TEReads
 refine wp_call gHeadE_eq (wp_len (wp_sp (fun _ => wp_leaf rfl (.p _)) (fun h5 => ?_)))
 have h5 := of_decide_eq_false h5
 refine wp_call (gDec_eq (by omega)) ?_
 rcases dec_err b with h | h
 ·obtain ⟨c1, c2⟩ := dec_canon h
  refine wp_sp (fun h' => absurd h (ne_of_bne h')) (fun _ => wp_call (gEnc_eq c2.enc) ⟨rfl, rfl, wp_leaf rfl ?_⟩)
  rw [c1, beq_self_eq_true]
  exact .p _
 ·rw [h]
  exact wp_sp (fun _ => wp_sp (fun _ => wp_sp (fun _ => wp_len (wp_sp (fun _ => wp_len (wp_leaf rfl (.p _))) (fun h => absurd h (by decide)))) (fun h => absurd h (by decide))) (fun h => absurd h (by decide))) (fun h => absurd h (by decide)))
end Go.Ax

namespace Go.Ax
open Go.Proofs Go.ChangeShapes Go.WideShapes Go.ChangeAt Go.RowKit
set_option maxRecDepth 100000

theorem tabRel {W : World} {g : Nat} {us : Array Value} {e : TypeId} {fr : Nat × Nat} (hh : W.heap[g]? = some (.cells us e fr)) (hu : us.toList.map PV.v = Glob.tab g) : ∀ ρ, GRel noF [] ρ W g := fun ρ => by
 have hl : (Glob.tab g).length = us.toList.length := by rw [← hu]; simp
 refine ⟨.rp _ ⟨g, 0, none⟩ us.toList rfl not_own (Array.getElem?_eq_some_iff.1 hh).1 hl (fun j u hj => ?_) (fun j p u hp hv => ?_), us, e, fr, hh, by rw [hl]; simp⟩
 ·rw [Addr.add_lit, Nat.zero_add, cell_of hh]
  simpa using hj
 ·rw [← hu, List.getElem?_map, hv] at hp
  cases hp
  exact .v _

theorem var_block {P : Program} {W : World} {n : String} {g : Nat} {cs : Array Value} (hg : P.globalNamed n = some g) (h : W.var? P n = some cs) : ∃ e fr, W.heap[g]? = some (.cells cs e fr) := by
 unfold World.var? at h
 rw [hg, Option.bind_some] at h
 split at h
 ·rename_i cs' e fr hc
  cases h
  exact ⟨e, fr, hc⟩
 ·cases h

abbrev laid4 : List (String × DataW Unit) := [("math/bits.deBruijn32tab", YtjlipmcdnigfcaaDoor.Rows.laid_math_bits_deBruijn32tab), ("math/bits.deBruijn64tab", YtjlipmcdnigfcaaDoor.Rows.laid_math_bits_deBruijn64tab), ("internal/strconv.uint64pow10", YtjlipmcdnigfcaaDoor.Rows.laid_internal_strconv_uint64pow10), ("tailrace/crc.halves", YtjlipmcdnigfcaaDoor.Rows.laid_tailrace_crc_halves)]

theorem gHalves : DP.globalNamed "tailrace/crc.halves" = some 0 := by kernel_rfl
theorem gPow : DP.globalNamed "internal/strconv.uint64pow10" = some 3 := by kernel_rfl
theorem tHalves : (DP.globals[0]?).map (·.type) = some 169 := by kernel_rfl

theorem tPow : (DP.globals[3]?).map (·.type) = some 188 := by kernel_rfl

theorem globW_of {W : World} (h : laidMetH DP laid4 W) : GlobW W := by
 rw [MakeChecks.laidMetH_plain _ _ _ (by kernel_rfl)] at h
 obtain ⟨ps, ⟨g0, t0, cs0, f0, p0, q0, hg0, ht0, hv0, hd0, ⟨g1, t1, cs1, f1, p1, q1, hg1, ht1, hv1, hd1, ⟨g2, t2, cs2, f2, p2, q2, hg2, ht2, hv2, hd2, ⟨g3, t3, cs3, f3, p3, q3, hg3, ht3, hv3, hd3, _, _⟩, _⟩, _⟩, _⟩, _, _⟩ := h
 obtain rfl := Option.some.inj (gPow.symm.trans hg2)
 obtain rfl := Option.some.inj (gHalves.symm.trans hg3)
 obtain rfl := Option.some.inj (tPow.symm.trans ht2)
 obtain rfl := Option.some.inj (tHalves.symm.trans ht3)
 have c2 := Lib.cells_of_tab (k := .u64) (zs := Lib.pow10Tab) (n := 20) (e := 46) (by kernel_rfl) (by kernel_rfl) (by kernel_rfl) (by kernel_rfl) hd2
 have c3 := Lib.cells_of_tab (k := .u32) (zs := halvesL) (n := 16) (e := 137) (by kernel_rfl) (by kernel_rfl) (by kernel_rfl) (by kernel_rfl) hd3
 obtain ⟨e2, r2, b2⟩ := var_block hg2 hv2
 obtain ⟨e3, r3, b3⟩ := var_block hg3 hv3
 intro g hg
 match g with
 | 0 => exact tabRel b3 (by rw [c3]; rfl)
 | 3 => exact tabRel b2 (by rw [c2]; rfl)
 | 1 => exact absurd rfl hg
 | 2 => exact absurd rfl hg
 | g + 4 => exact absurd rfl hg

theorem door4 (os : Os) (args : Array Value) : laidMetH DP laid4 ((World.doorLaid DP 67 os).forCall (fun _ _ => 0) ⟨#[], args, []⟩).memory :=
 laidMetH_of_parts3 (fuel := 8) (laidMet_of_run' 8 (by kernel_rfl) (by kernel_rfl)) (by kernel_rfl) (by kernel_rfl)

section
variable {H : Type} {enc : TypeId × Value → H} {w : World} {base : Nat} {spare : Nat → Bool} {held : Bool} {O : Nat → Prop}
theorem in_u8 (n : Nat) (cs' : List Value) (y : DataW H × List MemPlace) {t : TypeId} (ht : DP.underlying t = some (.int .u8)) (h : DataW.trod enc DP w base spare held n t cs' = some y) :
  ∃ a : UInt8, True ∧ cs'.length = 1 ∧ ∀ (r : Nat) (p : PV) (u : Value), (byteE.f a).cells[r]? = some p → cs'[r]? = some u → PRel O w p u := by
 obtain ⟨s, rfl, _, hw⟩ := DataW.trod_int ht h
 have hb : 0 ≤ s ∧ s < 256 := by
  simp only [Lit.wf, Bool.and_eq_true, decide_eq_true_eq] at hw
  have h1 : IntKind.u8.min = 0 := by decide
  have h2 : IntKind.u8.max = 255 := by decide
  omega
 refine ⟨UInt8.ofNat s.toNat, trivial, rfl, fun r p u hp hu => ?_⟩
 match r with
 | 0 =>
  cases hu
  have : ((UInt8.ofNat s.toNat).toNat : Int) = s := by
   rw [UInt8.toNat_ofNat']
   omega
  change some (PV.v (.int .u8 ((UInt8.ofNat s.toNat).toNat : Int))) = some p at hp
  rw [this] at hp
  cases hp
  exact .v _
 | r + 1 => simp [byteE, PV.cells] at hp
theorem in_bytes (hO : ∀ k, ¬ O k) {fuel : Nat} {v : Value} {x : DataW H × List MemPlace} (h : DataW.trod enc DP w base spare held fuel 65 [v] = some x) :
  ∃ L : List UInt8, (∀ a ∈ L, True) ∧ PRel O w (.ls (L.map byteE.f)) v := open_list hO (Tryd.underlying65) byteE.elt (by decide) (by kernel_rfl) (fun n cs' y hy => in_u8 n cs' y Tryd.underlying5 hy) h
end
end Go.Ax
