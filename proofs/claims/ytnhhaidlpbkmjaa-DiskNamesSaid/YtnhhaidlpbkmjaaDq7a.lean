/- List: a contract of the disk as an object. -/
import Derived.Test.YtnhhaidlpbkmjaaDq7
import Derived.Test.YtnhhaidlpbkmjaaDq4c
import Derived.Test.YtnhhaidlpbkmjaaDk10
set_option linter.unusedVariables false
set_option linter.unusedSimpArgs false
set_option linter.unusedSectionVars false
namespace Go.Ax
open Go.Proofs Go.RowKit
set_option maxRecDepth 100000

/-- An answer that is nil is as good as an empty list. -/
theorem SoundR.nills {P : Program} {f : Nat} {R : RSpec} (h : SoundR P f R) : SoundR P f (fun args B r B' => R args B nilS B' ∧ r = .p (.ls [])) := by
  rintro args B r B' ⟨h1, rfl⟩ F ρ w us hI hA
  refine (h args B _ B' h1 F ρ w us hI hA).mono fun en w' hp => ?_
  obtain ⟨x, ρ2, rfl, hI2, hE2, hv⟩ := hp
  refine ⟨x, ρ2, rfl, hI2, hE2, ?_⟩
  obtain rfl := hv.val
  exact .p _ _ (.nil Option.none 0 (.inr rfl))

/-- No file is laid open. -/
theorem obAg {R : RSpec} {D D1 : Dsk} {al : List AV} {y : AV} (hal : al.all isP = true) (hy : y.pl2 = true) (hl : y.low 0 = true) (hf : D.files.Perm D1.files)
    (h : ∀ hid, hid.map (·.1) = strsV (D.files.map (·.name)) → R (.ptr 0 0 0 :: al) (flatB D [] hid) y (flatB D1 [] hid)) : diskR R (.op 0 :: al) [.obj [] (diskP D)] y [.obj [] (diskP D1)] := by
  have hr : ∀ f d, y.rv f d = y := fun f d => rv_low (n := 0) (fun j hj => by omega) (fun j hj => by omega) hl
  refine ⟨D, D1, [], D.files, [], [], [], al, y, .refl _, al_ok hal, by rw [al_id hal], rfl, fun hid hh => ⟨flatB D1 [] hid, ?_, shut0 rfl rfl⟩, hf, hy, hl, (hr _ _).symm, rfl⟩
  rw [al_id hal, hr]
  exact h hid (by rw [hh]; simp [keysOf])

def OList : RSpec := fun args B r B' => ∃ (D : Dsk), D.Ok ∧ D.files.length ≤ 1000000 ∧ args = [.op 0] ∧ B = [.obj [] (diskP D)] ∧ r = vl ((listD D).map nameE.f) ∧ B' = B

def RL : RSpec := fun args B r B' => GenT DP ΓF ΔL nList args B (r, B')
theorem SL0 : SoundR DP iList RL := sound_genT mixedD ΓF_ok ΔL_ok hfList heList hbList (fun _ _ _ _ h => h)

theorem names_small {D : Dsk} (ok : D.Ok) : ∀ n ∈ D.files.map (·.name), n.size ≤ 1000000000 := fun n hn => by
  obtain ⟨x, hx, rfl⟩ := List.mem_map.1 hn
  have := ok.nam x hx
  omega

theorem names_srt {D : Dsk} (ok : D.Ok) : sortN (D.files.map (·.name)) = D.files.map (·.name) := sortN_eq (by
  rw [List.pairwise_map]
  exact ok.srt)

theorem SList : SoundR DP iList OList := ((disk_lift SL0).or (disk_lift SL0).nills).mono (by
  rintro args B r B' ⟨D, ok, hlen, rfl, rfl, rfl, rfl⟩
  have h3 := names_small ok
  have h4 := names_srt ok
  obtain ⟨ro, us, fs, dn, fu⟩ := D
  cases dn with
  | true =>
    refine .inr ⟨obAg (al := []) rfl rfl rfl (.refl _) (fun hid hh => ⟨by rw [hnList]; rfl, _, TList_d_chk ro us fu hid, ?_⟩), rfl⟩
    unfold TList_d
    exact wp_leaf rfl ⟨rfl, rfl⟩
  | false =>
    refine .inl (obAg (al := []) rfl rfl rfl (.refl _) (fun hid hh => ⟨by rw [hnList]; rfl, _, TList_a_chk ro us fu hid (fs.map (·.name)), ?_⟩))
    unfold TList_a
    refine wp_callr (dKeys _ hid) (wp_callr (dSorted _ hh (by simpa using hlen) h3) (wp_leaf rfl ⟨?_, rfl⟩))
    show vl _ = vl _
    rw [h4]; rfl)


def ΔC : REnv := fun f => if f = iList then liftR OList else fun _ _ _ _ => False
theorem ΔC_ok : ∀ f, SoundR DP f (ΔC f) := fun f => by
  unfold ΔC
  split
  · rename_i e; rw [e]; exact lift_sound SList
  · exact .none f
theorem ΔC_list : ΔC iList = liftR OList := if_pos rfl

end Go.Ax
