/- Rename: a contract of the disk as an object. -/
import Derived.Test.YtjlipmcdnigfcaaDoorG29
import Derived.Test.YtjlipmcdnigfcaaDoorG23
import Derived.Test.YtjlipmcdnigfcaaDoorG25
import Derived.Test.YtjlipmcdnigfcaaDoorG28
set_option linter.unusedVariables false
set_option linter.unusedSimpArgs false
set_option linter.unusedSectionVars false
namespace Go.Ax
open Go.Proofs Go.RowKit
set_option maxRecDepth 100000

theorem delF_nod {fs : List Fil} (h : (fs.map (·.name)).Nodup) (nm : ByteArray) : ((delF fs nm).map (·.name)).Nodup := (List.filter_sublist.map _).nodup h

theorem delF_no {fs : List Fil} {nm : ByteArray} (h : nm ∉ fs.map (·.name)) : delF fs nm = fs :=
  List.filter_eq_self.2 fun z hz => decide_eq_true fun e => h (by rw [← e]; exact List.mem_map.2 ⟨z, hz, rfl⟩)

theorem delF_nomem (fs : List Fil) (nm : ByteArray) : nm ∉ (delF fs nm).map (·.name) := fun h => by
  obtain ⟨x, hx, e⟩ := List.mem_map.1 h
  exact (delF_mem.1 hx).2 e

theorem not_mem_delF {fs : List Fil} {nm nn : ByteArray} (h : nn ∉ fs.map (·.name)) : nn ∉ (delF fs nm).map (·.name) := fun h' => h ((List.filter_sublist.map _).subset h')

/-- Two files are laid open; the second is gone behind the call, the first is there. -/
theorem obQ {fn : Func} {D D1 : Dsk} {x y x' : Fil} {al : List AV} {r : AV} {L2 : List Box} (ok : (D.files.map (·.name)).Nodup) (hx : x ∈ D.files) (hy2 : y ∈ D.files) (hne : y.name ≠ x.name) (hal : al.all isP = true) (hy : r.pl2 = true) (hl : r.low 0 = true) (hf : (x' :: delF (delF D.files x.name) y.name).Perm D1.files)
    (h : ∀ hid, hid.map (·.1) = strsV ((delF (delF D.files x.name) y.name).map (·.name)) → RG fn (.ptr 0 0 0 :: al) (flatB D [x, y] hid) r (flatV D1 x' 0 hid ++ L2)) : diskR (RG fn) (.op 0 :: al) [.obj [] (diskP D)] r [.obj [] (diskP D1)] := by
  have hr : ∀ f d, r.rv f d = r := fun f d => rv_low (n := 0) (fun j hj => by omega) (fun j hj => by omega) hl
  have hp : D.files.Perm (x :: y :: delF (delF D.files x.name) y.name) := (delF_perm ok hx).trans ((delF_perm (delF_nod ok _) (delF_mem.2 ⟨hy2, hne⟩)).cons x)
  refine ⟨D, D1, [x, y], delF (delF D.files x.name) y.name, [], [⟨x', 2, 3, 0⟩], [], al, r, hp, al_ok hal, by rw [al_id hal], rfl, fun hid hh => ⟨flatV D1 x' 0 hid ++ L2, ?_, ⟨rfl, rfl, fun i hi => ?_, by simp, fun z hz => (nomatch hz), fun b hb => absurd hb (by simp)⟩⟩, hf, hy, hl, (hr _ _).symm, rfl⟩
  · rw [al_id hal, hr]
    exact h hid (by rw [hh]; simp [keysOf])
  · rcases List.mem_cons.1 hi with rfl | hi
    · exact ⟨rfl, rfl⟩
    · cases hi

/-- Two files are laid open, both are there behind the call. -/
theorem obQ2 {fn : Func} {D D1 : Dsk} {x y : Fil} {al : List AV} {r : AV} (ok : (D.files.map (·.name)).Nodup) (hx : x ∈ D.files) (hy2 : y ∈ D.files) (hne : y.name ≠ x.name) (hal : al.all isP = true) (hy : r.pl2 = true) (hl : r.low 0 = true) (hf : D.files = D1.files)
    (h : ∀ hid, hid.map (·.1) = strsV ((delF (delF D.files x.name) y.name).map (·.name)) → RG fn (.ptr 0 0 0 :: al) (flatB D [x, y] hid) r (flatB D1 [x, y] hid)) : diskR (RG fn) (.op 0 :: al) [.obj [] (diskP D)] r [.obj [] (diskP D1)] := by
  have hr : ∀ f d, r.rv f d = r := fun f d => rv_low (n := 0) (fun j hj => by omega) (fun j hj => by omega) hl
  have hp : D.files.Perm (x :: y :: delF (delF D.files x.name) y.name) := (delF_perm ok hx).trans ((delF_perm (delF_nod ok _) (delF_mem.2 ⟨hy2, hne⟩)).cons x)
  refine ⟨D, D1, [x, y], delF (delF D.files x.name) y.name, [], [⟨x, 2, 3, 0⟩, ⟨y, 4, 5, 0⟩], [], al, r, hp, al_ok hal, by rw [al_id hal], rfl, fun hid hh => ⟨flatB D1 [x, y] hid, ?_, ⟨rfl, rfl, fun i hi => ?_, by simp, fun z hz => (nomatch hz), fun b hb => absurd hb (by simp)⟩⟩, by rw [← hf]; exact hp.symm, hy, hl, (hr _ _).symm, rfl⟩
  · rw [al_id hal, hr]
    exact h hid (by rw [hh]; simp [keysOf])
  · rcases List.mem_cons.1 hi with rfl | hi
    · exact ⟨rfl, rfl⟩
    · rcases List.mem_cons.1 hi with rfl | hi
      · exact ⟨rfl, rfl⟩
      · cases hi

def ORename : RSpec := fun args B r B' => ∃ (D : Dsk) (nm nn : ByteArray), D.Ok ∧ nn.size ≤ 1000000000 ∧ args = [.op 0, vs nm, vs nn] ∧ B = [.obj [] (diskP D)] ∧ r = vi (renameD D nm nn).2 ∧ B' = [.obj [] (diskP (renameD D nm nn).1)]

theorem SRename : SoundR DP iRename ORename := (SO hfRename heRename hbRename).mono (by
  rintro args B r B' ⟨D, nm, nn, ok, hN, rfl, rfl, rfl, rfl⟩
  have hnm := ΓF_named nn hN
  have hfu := ok.fuse.2
  obtain ⟨b1, b2, b3⟩ := ok.bnd
  obtain ⟨ro, us, fs, dn, fu⟩ := D
  cases dn with
  | true =>
    have h2 : renameD ⟨ro, us, fs, true, fu⟩ nm nn = (⟨ro, us, fs, true, fu⟩, if !isName nn then 1 else 10) := by
      unfold renameD; split <;> rfl
    rw [h2]
    refine obA (al := [vs nm, vs nn]) rfl rfl rfl (.refl _) (fun hid hh => .inl ⟨by rw [hnRename]; rfl, _, TRename_d_chk ro us fu hid nm nn, ?_⟩)
    unfold TRename_d
    exact wp_call hnm (wp_sp (fun h => wp_callr (dFind (.d ro us fu hid nm) []) (wp_leaf rfl ⟨by rw [h]; rfl, rfl⟩)) (fun h => wp_leaf rfl ⟨by rw [h]; rfl, rfl⟩))
  | false =>
    cases hg : (⟨ro, us, fs, false, fu⟩ : Dsk).get nm with
    | none =>
      have hno := get_none hg
      have h2 : renameD ⟨ro, us, fs, false, fu⟩ nm nn = (⟨ro, us, fs, false, fu⟩, if !isName nn then 1 else 4) := by
        unfold renameD
        split
        · rfl
        · rw [if_neg (by simp)]
          simp only [hg]
      rw [h2]
      refine obA (al := [vs nm, vs nn]) rfl rfl rfl (.refl _) (fun hid hh => .inl ⟨by rw [hnRename]; rfl, _, TRename_a_chk ro us fu hid nm nn, ?_⟩)
      unfold TRename_a
      exact wp_call hnm (wp_sp (fun h => wp_callr (dFind (.a ro us fu hid _ nm hh hno) []) (wp_leaf rfl ⟨by rw [h]; rfl, rfl⟩)) (fun h => wp_leaf rfl ⟨by rw [h]; rfl, rfl⟩))
    | some x =>
      obtain ⟨hx, rfl⟩ := get_some hg
      cases hn : isName nn with
      | false =>
        have h2 : renameD ⟨ro, us, fs, false, fu⟩ x.name nn = (⟨ro, us, fs, false, fu⟩, 1) := by unfold renameD; rw [if_pos (by simp [hn])]
        rw [h2]
        refine obP (x' := x) (v := 0) (al := [vs x.name, vs nn]) ok.nod hx rfl rfl rfl (delF_perm ok.nod hx).symm (fun hid hh => .inl ⟨by rw [hnRename]; rfl, _, TRename_p_chk ro us fu hid x.b x.sure x.name nn, ?_⟩)
        unfold TRename_p
        exact wp_call hnm (wp_sp (fun h => by rw [hn] at h; cases h) (fun h => wp_leaf rfl ⟨rfl, rfl⟩))
      | true =>
        by_cases he : stE fu = 0
        · by_cases hs : x.name = nn
          · subst hs
            have h2 : renameD ⟨ro, us, fs, false, fu⟩ x.name x.name = (⟨ro, us, fs, stD fu, stF fu⟩, 0) := by
              unfold renameD
              rw [if_neg (by simp [hn]), if_neg (by simp)]
              simp only [hg, he, ne_eq, not_true_eq_false, if_false, if_true]
              rfl
            rw [h2]
            refine obP (x' := x) (v := 0) (al := [vs x.name, vs x.name]) ok.nod hx rfl rfl rfl (delF_perm ok.nod hx).symm (fun hid hh => .inl ⟨by rw [hnRename]; rfl, _, TRename_p_chk ro us fu hid x.b x.sure x.name x.name, ?_⟩)
            unfold TRename_p
            exact wp_call hnm (wp_sp (fun _ => wp_callr (dFind (.p ro us fu hid _ x hh) []) (wp_callr (dStep ro us fu hid [x] (by simp) hfu []) (wp_sp (fun h => absurd he (bne_true h)) (fun h => wp_sp (fun h => wp_leaf rfl ⟨rfl, rfl⟩) (fun h => by rw [(bytes_beq _ _).2 rfl] at h; cases h))))) (fun h => by rw [hn] at h; cases h))
          · cases hg2 : (⟨ro, us, fs, false, fu⟩ : Dsk).get nn with
            | none =>
              have hno := get_none hg2
              have hno' : nn ∉ (delF fs x.name).map (·.name) := not_mem_delF hno
              have h2 : renameD ⟨ro, us, fs, false, fu⟩ x.name nn = (⟨ro, us, insF { x with name := nn } (delF fs x.name), stD fu, stF fu⟩, 0) := by
                unfold renameD
                rw [if_neg (by simp [hn]), if_neg (by simp)]
                simp only [hg, hg2, he, hs, ne_eq, not_true_eq_false, if_false, Int.sub_zero]
                rw [delF_no hno']
                rfl
              rw [h2]
              refine obP (x' := { x with name := nn }) (v := 0) (al := [vs x.name, vs nn]) ok.nod hx rfl rfl rfl (insF_perm _ _) (fun hid hh => .inl ⟨by rw [hnRename]; rfl, _, TRename_p_chk ro us fu hid x.b x.sure x.name nn, ?_⟩)
              unfold TRename_p
              refine wp_call hnm (wp_sp (fun _ => wp_callr (dFind (.p ro us fu hid _ x hh) []) (wp_callr (dStep ro us fu hid [x] (by simp) hfu []) (wp_sp (fun h => absurd he (bne_true h)) (fun h => wp_sp (fun h => absurd ((bytes_beq _ _).1 h) hs) (fun h => wp_val ?_ (wp_val ?_ (wp_val ?_ (wp_leaf rfl ⟨rfl, rfl⟩)))))))) (fun h => by rw [hn] at h; cases h))
              · exact look_no htMap htKey (ns := [x.name]) (z := nilP) htVal rfl hh (by simpa using fun e => hs e.symm) hno'
              · exact upd_no htMap htKey (ns := [x.name]) (cs := [.ptr 2 0 0]) (B := [.cells false 0 ([vi ro, vi us, .mp 1, vb (stD fu), vi (stF fu)]), .obj [.ptr 2 0 0] (mapP [.string x.name] hid), .cells false 0 ([.rs 3 0 1 0 x.b.length, vi x.sure]), byteE.bx 0 x.b]) rfl hh (by simpa using fun e => hs e.symm) hno'
              · exact del_v0 htMap htKey (ns := [nn]) (cs := [.ptr 2 0 0]) (c := .ptr 2 0 0) (B := [.cells false 0 ([vi ro, vi us, .mp 1, vb (stD fu), vi (stF fu)]), .obj [.ptr 2 0 0, .ptr 2 0 0] (mapP [.string x.name, .string nn] hid), .cells false 0 ([.rs 3 0 1 0 x.b.length, vi x.sure]), byteE.bx 0 x.b]) rfl hh
            | some y =>
              obtain ⟨hy, rfl⟩ := get_some hg2
              have hyl := b3 y hy
              simp only at b1 b2 hyl
              have hs' : y.name ≠ x.name := fun e => hs e.symm
              have h2 : renameD ⟨ro, us, fs, false, fu⟩ x.name y.name = (⟨ro, us - (y.b.length : Int), insF { x with name := y.name } (delF (delF fs x.name) y.name), stD fu, stF fu⟩, 0) := by
                unfold renameD
                rw [if_neg (by simp [hn]), if_neg (by simp)]
                simp only [hg, hg2, he, hs, ne_eq, not_true_eq_false, if_false]
                rfl
              rw [h2]
              refine obQ (x := x) (y := y) (x' := { x with name := y.name }) (L2 := [fileC 5 0 y, rowB 0 y.b]) (al := [vs x.name, vs y.name]) ok.nod hx hy hs' rfl rfl rfl (insF_perm _ _) (fun hid hh => .inl ⟨by rw [hnRename]; rfl, _, TRename_q_chk ro us fu hid x.b x.sure y.b y.sure x.name y.name, ?_⟩)
              unfold TRename_q
              refine wp_call hnm (wp_sp (fun _ => wp_callr (dFind (.q ro us fu hid _ x y hh) []) (wp_callr (dStep ro us fu hid [x, y] (by simp) hfu []) (wp_sp (fun h => absurd he (bne_true h)) (fun h => wp_sp (fun h => absurd ((bytes_beq _ _).1 h) hs) (fun h => wp_val ?_ (wp_i64 (by omega) (wp_val ?_ (wp_val ?_ (wp_leaf rfl ⟨rfl, rfl⟩))))))))) (fun h => by rw [hn] at h; cases h))
              · exact look_v1 htMap htKey rfl hh hs
              · exact upd_v1 htMap htKey (c := .ptr 2 0 0) (c' := .ptr 4 0 0) (B := [.cells false 0 ([vi ro, vi (us - ((y.b.length : Nat) : Int)), .mp 1, vb (stD fu), vi (stF fu)]), .obj [.ptr 2 0 0, .ptr 4 0 0] (mapP [.string x.name, .string y.name] hid), .cells false 0 ([.rs 3 0 1 0 x.b.length, vi x.sure]), byteE.bx 0 x.b, .cells false 0 ([.rs 5 0 1 0 y.b.length, vi y.sure]), byteE.bx 0 y.b]) rfl hh hs
              · exact del_v0 htMap htKey (ns := [y.name]) (cs := [.ptr 2 0 0]) (c := .ptr 2 0 0) (B := [.cells false 0 ([vi ro, vi (us - ((y.b.length : Nat) : Int)), .mp 1, vb (stD fu), vi (stF fu)]), .obj [.ptr 2 0 0, .ptr 2 0 0] (mapP [.string x.name, .string y.name] hid), .cells false 0 ([.rs 3 0 1 0 x.b.length, vi x.sure]), byteE.bx 0 x.b, .cells false 0 ([.rs 5 0 1 0 y.b.length, vi y.sure]), byteE.bx 0 y.b]) rfl hh
        · have h2 : renameD ⟨ro, us, fs, false, fu⟩ x.name nn = (⟨ro, us, fs, stD fu, stF fu⟩, stE fu) := by
            unfold renameD
            rw [if_neg (by simp [hn]), if_neg (by simp)]
            simp only [hg, ne_eq, he, not_false_eq_true, if_true]
            rfl
          rw [h2]
          refine obP (x' := x) (v := 0) (al := [vs x.name, vs nn]) ok.nod hx rfl rfl rfl (delF_perm ok.nod hx).symm (fun hid hh => .inl ⟨by rw [hnRename]; rfl, _, TRename_p_chk ro us fu hid x.b x.sure x.name nn, ?_⟩)
          unfold TRename_p
          exact wp_call hnm (wp_sp (fun _ => wp_callr (dFind (.p ro us fu hid _ x hh) []) (wp_callr (dStep ro us fu hid [x] (by simp) hfu []) (wp_sp (fun h => wp_leaf rfl ⟨rfl, rfl⟩) (fun h => absurd (bne_false h) he)))) (fun h => by rw [hn] at h; cases h)))

end Go.Ax

namespace Go.Ax
open Go.Proofs Go.RowKit
set_option maxRecDepth 100000

noncomputable def TSpoil_d (ro : Int) (us : Int) (fu : Int) (hid : List (Value × Value)) (nm : ByteArray) (ofs : Int) (bits : UInt8) : Tree :=
.callr (some 14) (ΔF 62 [.ptr 0 0 0, vs nm] [.cells false 0 ([vi ro, vi us, .mp 1, vb true, vi fu]), .obj [] (mapP [] hid)] (.tup [.p (.v (.pointer none)), vi 10]) [.cells false 0 ([vi ro, vi us, .mp 1, vb true, vi fu]), .obj [] (mapP [] hid)]) (.tup [.p (.v (.pointer none)), vi 10]) [.cells false 0 ([vi ro, vi us, .mp 1, vb true, vi fu]), .obj [] (mapP [] hid)] (.leaf ⟨[0], [(0, 0, none), (1, 0, none)]⟩ [] .ret (some ([(0, vi 10)], [.cells false 0 ([vi ro, vi us, .mp 1, vb true, vi fu]), .obj [] (mapP [] hid)])))

theorem TSpoil_d_chk (ro : Int) (us : Int) (fu : Int) (hid : List (Value × Value)) (nm : ByteArray) (ofs : Int) (bits : UInt8) : fnC DP ΓF ΔF Tryd.f22 [.ptr 0 0 0, vs nm, vi ofs, vn .u8 (bits.toNat : Int)] [.cells false 0 ([vi ro, vi us, .mp 1, vb true, vi fu]), .obj [] (mapP [] hid)] (TSpoil_d ro us fu hid nm ofs bits) = TSpoil_d ro us fu hid nm ofs bits := by kernel_rfl

noncomputable def TSpoil_a (ro : Int) (us : Int) (fu : Int) (hid : List (Value × Value)) (nm : ByteArray) (ofs : Int) (bits : UInt8) : Tree :=
.callr (some 14) (ΔF 62 [.ptr 0 0 0, vs nm] [.cells false 0 ([vi ro, vi us, .mp 1, vb false, vi fu]), .obj [] (mapP [] hid)] (.tup [.p (.v (.pointer none)), vi 4]) [.cells false 0 ([vi ro, vi us, .mp 1, vb false, vi fu]), .obj [] (mapP [] hid)]) (.tup [.p (.v (.pointer none)), vi 4]) [.cells false 0 ([vi ro, vi us, .mp 1, vb false, vi fu]), .obj [] (mapP [] hid)] (.leaf ⟨[0], [(0, 0, none), (1, 0, none)]⟩ [] .ret (some ([(0, vi 4)], [.cells false 0 ([vi ro, vi us, .mp 1, vb false, vi fu]), .obj [] (mapP [] hid)])))

theorem TSpoil_a_chk (ro : Int) (us : Int) (fu : Int) (hid : List (Value × Value)) (nm : ByteArray) (ofs : Int) (bits : UInt8) : fnC DP ΓF ΔF Tryd.f22 [.ptr 0 0 0, vs nm, vi ofs, vn .u8 (bits.toNat : Int)] [.cells false 0 ([vi ro, vi us, .mp 1, vb false, vi fu]), .obj [] (mapP [] hid)] (TSpoil_a ro us fu hid nm ofs bits) = TSpoil_a ro us fu hid nm ofs bits := by kernel_rfl

noncomputable def TSpoil_p (ro : Int) (us : Int) (fu : Int) (hid : List (Value × Value)) (L : List UInt8) (su : Int) (nm : ByteArray) (ofs : Int) (bits : UInt8) : Tree :=
.callr (some 14) (ΔF 62 [.ptr 0 0 0, vs nm] [.cells false 0 ([vi ro, vi us, .mp 1, vb false, vi fu]), .obj [.ptr 2 0 0] (mapP [.string nm] hid), .cells false 0 ([.rs 3 0 1 0 L.length, vi su]), byteE.bx 0 L] (.tup [.ptr 2 0 0, vi 0]) [.cells false 0 ([vi ro, vi us, .mp 1, vb false, vi fu]), .obj [.ptr 2 0 0] (mapP [.string nm] hid), .cells false 0 ([.rs 3 0 1 0 L.length, vi su]), byteE.bx 0 L]) (.tup [.ptr 2 0 0, vi 0]) [.cells false 0 ([vi ro, vi us, .mp 1, vb false, vi fu]), .obj [.ptr 2 0 0] (mapP [.string nm] hid), .cells false 0 ([.rs 3 0 1 0 L.length, vi su]), byteE.bx 0 L] (.sp 21 (decide (ofs < (0 : Int))) (
.leaf ⟨[0], [(0, 0, none), (1, 0, none), (2, 0, none), (3, 0, some (L.map byteE.f))]⟩ [rowC (L.map byteE.f)] .ret (some ([(0, vi 1)], [.cells false 0 ([vi ro, vi us, .mp 1, vb false, vi fu]), .obj [.ptr 2 0 0] (mapP [.string nm] hid), .cells false 0 ([.rs 3 0 1 0 L.length, vi su]), byteE.bx 0 L]))) (
.sp 29 (decide (ofs ≥ ((L.length : Nat) : Int))) (
.leaf ⟨[0], [(0, 0, none), (1, 0, none), (2, 0, none), (3, 0, some (L.map byteE.f))]⟩ [rowC (L.map byteE.f)] .ret (some ([(0, vi 1)], [.cells false 0 ([vi ro, vi us, .mp 1, vb false, vi fu]), .obj [.ptr 2 0 0] (mapP [.string nm] hid), .cells false 0 ([.rs 3 0 1 0 L.length, vi su]), byteE.bx 0 L]))) (
.ridx 36 L.length ofs (.rload 37 (rowC (L.map byteE.f)) (0 + Int.toNat ofs * 1) byteE L ofs 0 (fun e1 => .ridx 40 L.length ofs (.rstore none (rowC (L.map byteE.f)) (0 + Int.toNat ofs * 1) [vn .u8 (IntKind.u8.wrap ((BitVec.ofInt IntKind.u8.bits (e1.toNat : Int) ^^^ BitVec.ofInt IntKind.u8.bits (bits.toNat : Int)).toNat))] byteE L ofs (UInt8.ofNat (Int.toNat (IntKind.u8.wrap ((BitVec.ofInt IntKind.u8.bits (e1.toNat : Int) ^^^ BitVec.ofInt IntKind.u8.bits (bits.toNat : Int)).toNat)))) (.leaf ⟨[0], [(0, 0, none), (1, 0, none), (2, 0, none), (3, 0, some ((L.set (Int.toNat ofs) (UInt8.ofNat (Int.toNat (IntKind.u8.wrap ((BitVec.ofInt IntKind.u8.bits (e1.toNat : Int) ^^^ BitVec.ofInt IntKind.u8.bits (bits.toNat : Int)).toNat))))).map byteE.f))]⟩ [rowC ((L.set (Int.toNat ofs) (UInt8.ofNat (Int.toNat (IntKind.u8.wrap ((BitVec.ofInt IntKind.u8.bits (e1.toNat : Int) ^^^ BitVec.ofInt IntKind.u8.bits (bits.toNat : Int)).toNat))))).map byteE.f)] .ret (some ([(0, vi 0)], [.cells false 0 ([vi ro, vi us, .mp 1, vb false, vi fu]), .obj [.ptr 2 0 0] (mapP [.string nm] hid), .cells false 0 ([.rs 3 0 1 0 L.length, vi su]), byteE.bx 0 (L.set (Int.toNat ofs) (UInt8.ofNat (Int.toNat (IntKind.u8.wrap ((BitVec.ofInt IntKind.u8.bits (e1.toNat : Int) ^^^ BitVec.ofInt IntKind.u8.bits (bits.toNat : Int)).toNat)))))])))))))))

theorem TSpoil_p_chk (ro : Int) (us : Int) (fu : Int) (hid : List (Value × Value)) (L : List UInt8) (su : Int) (nm : ByteArray) (ofs : Int) (bits : UInt8) : fnC DP ΓF ΔF Tryd.f22 [.ptr 0 0 0, vs nm, vi ofs, vn .u8 (bits.toNat : Int)] [.cells false 0 ([vi ro, vi us, .mp 1, vb false, vi fu]), .obj [.ptr 2 0 0] (mapP [.string nm] hid), .cells false 0 ([.rs 3 0 1 0 L.length, vi su]), byteE.bx 0 L] (TSpoil_p ro us fu hid L su nm ofs bits) = TSpoil_p ro us fu hid L su nm ofs bits := by kernel_rfl

end Go.Ax

namespace Go.Ax
open Go.Proofs Go.RowKit
set_option maxRecDepth 100000

theorem wrap_u8 {x : Int} (h : 0 ≤ x ∧ x < 256) : IntKind.u8.wrap x = x := by
  simp [IntKind.wrap, IntKind.bits, IntKind.signed]
  omega

theorem xor_u8 (c d : UInt8) : UInt8.ofNat (Int.toNat (IntKind.u8.wrap ((BitVec.ofInt IntKind.u8.bits (c.toNat : Int) ^^^ BitVec.ofInt IntKind.u8.bits (d.toNat : Int)).toNat))) = c ^^^ d := by
  have h1 : ∀ x : UInt8, BitVec.ofInt 8 (x.toNat : Int) = x.toBitVec := fun x => by
    rw [BitVec.ofInt_natCast]
    exact BitVec.ofNat_toNat _ _ |>.trans (by simp)
  show UInt8.ofNat (Int.toNat (IntKind.u8.wrap (((BitVec.ofInt 8 (c.toNat : Int) ^^^ BitVec.ofInt 8 (d.toNat : Int) : BitVec 8).toNat : Nat)))) = c ^^^ d
  rw [h1, h1]
  have h2 : (c.toBitVec ^^^ d.toBitVec).toNat < 256 := (c.toBitVec ^^^ d.toBitVec).isLt
  rw [wrap_u8 (by omega), Int.toNat_natCast]
  apply UInt8.toNat_inj.1
  rw [UInt8.toNat_ofNat', Nat.mod_eq_of_lt h2]
  rfl

theorem xor_w (c d : UInt8) : IntKind.u8.wrap ((BitVec.ofInt IntKind.u8.bits (c.toNat : Int) ^^^ BitVec.ofInt IntKind.u8.bits (d.toNat : Int)).toNat) = ((c ^^^ d).toNat : Int) := by
  have h1 : ∀ x : UInt8, BitVec.ofInt 8 (x.toNat : Int) = x.toBitVec := fun x => by
    rw [BitVec.ofInt_natCast]
    exact BitVec.ofNat_toNat _ _ |>.trans (by simp)
  show IntKind.u8.wrap (((BitVec.ofInt 8 (c.toNat : Int) ^^^ BitVec.ofInt 8 (d.toNat : Int) : BitVec 8).toNat : Nat)) = _
  rw [h1, h1]
  have h2 : (c.toBitVec ^^^ d.toBitVec).toNat < 256 := (c.toBitVec ^^^ d.toBitVec).isLt
  rw [wrap_u8 (by omega)]
  rfl

def OSpoil : RSpec := fun args B r B' => ∃ (D : Dsk) (nm : ByteArray) (ofs : Int) (bits : UInt8), D.Ok ∧ args = [.op 0, vs nm, vi ofs, vn .u8 (bits.toNat : Int)] ∧ B = [.obj [] (diskP D)] ∧ r = vi (spoilD D nm ofs bits).2 ∧ B' = [.obj [] (diskP (spoilD D nm ofs bits).1)]

theorem SSpoil : SoundR DP iSpoil OSpoil := (SO hfSpoil heSpoil hbSpoil).mono (by
  rintro args B r B' ⟨D, nm, ofs, bits, ok, rfl, rfl, rfl, rfl⟩
  obtain ⟨b1, b2, b3⟩ := ok.bnd
  obtain ⟨ro, us, fs, dn, fu⟩ := D
  cases dn with
  | true =>
    refine obA (al := [vs nm, vi ofs, vn .u8 (bits.toNat : Int)]) rfl rfl rfl (.refl _) (fun hid hh => .inl ⟨by rw [hnSpoil]; rfl, _, TSpoil_d_chk ro us fu hid nm ofs bits, ?_⟩)
    unfold TSpoil_d
    exact wp_callr (dFind (.d ro us fu hid nm) []) (wp_leaf rfl ⟨rfl, rfl⟩)
  | false =>
    cases hg : (⟨ro, us, fs, false, fu⟩ : Dsk).get nm with
    | none =>
      have hno := get_none hg
      have h2 : spoilD ⟨ro, us, fs, false, fu⟩ nm ofs bits = (⟨ro, us, fs, false, fu⟩, 4) := by unfold spoilD; rw [if_neg (by simp)]; simp only [hg]
      rw [h2]
      refine obA (al := [vs nm, vi ofs, vn .u8 (bits.toNat : Int)]) rfl rfl rfl (.refl _) (fun hid hh => .inl ⟨by rw [hnSpoil]; rfl, _, TSpoil_a_chk ro us fu hid nm ofs bits, ?_⟩)
      unfold TSpoil_a
      exact wp_callr (dFind (.a ro us fu hid _ nm hh hno) []) (wp_leaf rfl ⟨rfl, rfl⟩)
    | some x =>
      obtain ⟨hx, rfl⟩ := get_some hg
      have hxl := b3 x hx
      simp only at b1 b2 hxl
      by_cases hbad : ofs < 0 ∨ ofs ≥ x.b.length
      · have h2 : spoilD ⟨ro, us, fs, false, fu⟩ x.name ofs bits = (⟨ro, us, fs, false, fu⟩, 1) := by unfold spoilD; rw [if_neg (by simp)]; simp only [hg, hbad, if_true]
        rw [h2]
        refine obP (x' := x) (v := 0) (al := [vs x.name, vi ofs, vn .u8 (bits.toNat : Int)]) ok.nod hx rfl rfl rfl (delF_perm ok.nod hx).symm (fun hid hh => .inl ⟨by rw [hnSpoil]; rfl, _, TSpoil_p_chk ro us fu hid x.b x.sure x.name ofs bits, ?_⟩)
        unfold TSpoil_p
        refine wp_callr (dFind (.p ro us fu hid _ x hh) []) (wp_sp (fun h => wp_leaf rfl ⟨rfl, rfl⟩) (fun h1 => wp_sp (fun h => wp_leaf rfl ⟨rfl, rfl⟩) (fun h2 => ?_)))
        have h1 := of_decide_eq_false h1
        have h2 := of_decide_eq_false h2
        omega
      · have h2 : spoilD ⟨ro, us, fs, false, fu⟩ x.name ofs bits = (⟨ro, us, repF fs { x with b := x.b.modify ofs.toNat (· ^^^ bits) }, false, fu⟩, 0) := by
          unfold spoilD; rw [if_neg (by simp)]; simp only [hg, hbad, if_false]
        rw [h2]
        have hlt : ofs.toNat < x.b.length := by omega
        have hm : x.b.modify ofs.toNat (· ^^^ bits) = x.b.set ofs.toNat (x.b[ofs.toNat] ^^^ bits) := by
          apply List.ext_getElem?
          intro j
          rw [List.getElem?_modify, List.getElem?_set]
          split
          · rename_i e
            subst e
            rw [List.getElem?_eq_getElem hlt]; rfl
          · simp
        refine obP (x' := { x with b := x.b.modify ofs.toNat (· ^^^ bits) }) (v := 0) (al := [vs x.name, vi ofs, vn .u8 (bits.toNat : Int)]) ok.nod hx rfl rfl rfl (repF_perm (x' := { x with b := x.b.modify ofs.toNat (· ^^^ bits) }) ok.nod hx rfl) (fun hid hh => .inl ⟨by rw [hnSpoil]; rfl, _, TSpoil_p_chk ro us fu hid x.b x.sure x.name ofs bits, ?_⟩)
        unfold TSpoil_p
        refine wp_callr (dFind (.p ro us fu hid _ x hh) []) (wp_sp (fun h => absurd (of_decide_eq_true h) (by omega)) (fun _ => wp_sp (fun h => absurd (of_decide_eq_true h) (by omega)) (fun _ => wp_ridx (by omega) (by omega) (wp_rload x.b[ofs.toNat] (by omega) (by simp [byteE]) (List.getElem?_eq_getElem hlt) (wp_ridx (by omega) (by omega) (wp_rstore (by omega) (by omega) (by simp [byteE]) ?_ ?_))))))
        · rw [xor_w, show (((x.b[ofs.toNat] ^^^ bits).toNat : Nat) : Int).toNat = (x.b[ofs.toNat] ^^^ bits).toNat from Int.toNat_natCast _, UInt8.ofNat_toNat]
          rfl
        · rw [xor_u8, ← hm]
          refine wp_leaf rfl ⟨rfl, ?_⟩
          show _ = flatV _ _ _ _
          simp only [flatV, fileC, List.length_modify])

end Go.Ax

namespace Go.Ax
open Go.Proofs Go.RowKit
set_option maxRecDepth 100000

def orR (R1 R2 : RSpec) : RSpec := fun a b c d => R1 a b c d ∨ R2 a b c d
/-- A call that takes bytes, be they a list or a row that is handed over for good. -/
def takeR (R : RSpec) : RSpec := orR (liftR R) (sealR (liftR R))
theorem take_sound {f : Nat} {R : RSpec} (h : SoundR DP f R) : SoundR DP f (takeR R) := (lift_sound h).or (lift_sound h).shutRow

section
variable {B : List Box} {b : Nat} {D D1 : Dsk} {nm nn : ByteArray} {e : Int}

theorem oNew (n : Int) : liftR ONew [vi n] B (.op B.length) (B ++ [.obj [] (diskP (newD n))]) := lift_new ⟨n, rfl, rfl, rfl, rfl⟩ rfl
theorem oCreate (ok : D.Ok) (hN : nm.size ≤ 1000000000) (hb : B[b]? = some (.obj [] (diskP D))) : liftR OCreate [.op b, vs nm] B (vi (createD D nm).2) (B.set b (.obj [] (diskP (createD D nm).1))) :=
  lift_obj (R := OCreate) ⟨D, nm, ok, hN, rfl, rfl, rfl, rfl⟩ hb rfl rfl
theorem oAppend {bs : List UInt8} (ok : D.Ok) (hN : bs.length ≤ 1000000000) (hb : B[b]? = some (.obj [] (diskP D))) : takeR OAppend [.op b, vs nm, vl (bs.map byteE.f)] B (vi (appendD D nm bs).2) (B.set b (.obj [] (diskP (appendD D nm bs).1))) :=
  .inl (lift_obj (R := OAppend) ⟨D, nm, bs, ok, hN, rfl, rfl, rfl, rfl⟩ hb rfl rfl)
theorem oAppendS {bs : List UInt8} {k v : Nat} (ok : D.Ok) (hN : bs.length ≤ 1000000000) (hb : B[b]? = some (.obj [] (diskP D))) (hk : B[k]? = some (byteE.bx v bs)) :
    takeR OAppend [.op b, vs nm, .rs k v 1 0 bs.length] B (vi (appendD D nm bs).2) ((B.set k .dead).set b (.obj [] (diskP (appendD D nm bs).1))) := by
  have hne : k ≠ b := fun e => by rw [e, hb] at hk; cases hk
  exact .inr ⟨2, k, v, UInt8, byteE, bs, hk, rfl, lift_obj (R := OAppend) ⟨D, nm, bs, ok, hN, rfl, rfl, rfl, rfl⟩ (by rw [List.getElem?_set_ne hne]; exact hb) rfl rfl⟩
theorem oSync (ok : D.Ok) (hb : B[b]? = some (.obj [] (diskP D))) : liftR OSync [.op b, vs nm] B (vi (syncD D nm).2) (B.set b (.obj [] (diskP (syncD D nm).1))) :=
  lift_obj (R := OSync) ⟨D, nm, ok, rfl, rfl, rfl, rfl⟩ hb rfl rfl
theorem oRemove (ok : D.Ok) (hb : B[b]? = some (.obj [] (diskP D))) : liftR ORemove [.op b, vs nm] B (vi (removeD D nm).2) (B.set b (.obj [] (diskP (removeD D nm).1))) :=
  lift_obj (R := ORemove) ⟨D, nm, ok, rfl, rfl, rfl, rfl⟩ hb rfl rfl
theorem oRename (ok : D.Ok) (hN : nn.size ≤ 1000000000) (hb : B[b]? = some (.obj [] (diskP D))) : liftR ORename [.op b, vs nm, vs nn] B (vi (renameD D nm nn).2) (B.set b (.obj [] (diskP (renameD D nm nn).1))) :=
  lift_obj (R := ORename) ⟨D, nm, nn, ok, hN, rfl, rfl, rfl, rfl⟩ hb rfl rfl
theorem set_same {B : List Box} {b : Nat} {x : Box} (hb : B[b]? = some x) : B.set b x = B := by
  refine List.ext_getElem? fun j => ?_
  rw [List.getElem?_set]
  split
  · rename_i e; subst e
    rw [if_pos (List.getElem?_eq_some_iff.1 hb).1]; exact hb.symm
  · rfl
theorem oRead {ofs n : Int} (ok : D.Ok) (hb : B[b]? = some (.obj [] (diskP D))) :
    liftR ORead [.op b, vs nm, vi ofs, vi n] B (.tup [.rs B.length 0 1 0 (readD D nm ofs n).1.length, vi (readD D nm ofs n).2]) (B ++ [byteE.bx 0 (readD D nm ofs n).1]) := by
  have := lift_objrow (R := ORead) (xs := (readD D nm ofs n).1.map byteE.f) ⟨D, nm, ofs, n, ok, rfl, rfl, rfl, rfl⟩ hb rfl
  rw [set_same hb] at this
  exact this
theorem oDown (ok : D.Ok) (hb : B[b]? = some (.obj [] (diskP D))) : liftR ODown [.op b] B (vb D.down) B := by
  have := lift_obj (R := ODown) (al := []) ⟨D, ok, rfl, rfl, rfl, rfl⟩ hb rfl rfl
  rwa [set_same hb] at this
theorem oRoom (ok : D.Ok) (hb : B[b]? = some (.obj [] (diskP D))) : liftR ORoom [.op b] B (vi (D.room - D.used)) B := by
  have := lift_obj (R := ORoom) (al := []) ⟨D, ok, rfl, rfl, rfl, rfl⟩ hb rfl rfl
  rwa [set_same hb] at this
theorem oSize (ok : D.Ok) (hb : B[b]? = some (.obj [] (diskP D))) : liftR OSize [.op b, vs nm] B (.tup [vi (sizeD D nm).1, vi (sizeD D nm).2]) B := by
  have := lift_obj (R := OSize) ⟨D, nm, ok, rfl, rfl, rfl, rfl⟩ hb rfl rfl
  rwa [set_same hb] at this
theorem oSpoil {ofs : Int} {bits : UInt8} (ok : D.Ok) (hb : B[b]? = some (.obj [] (diskP D))) : liftR OSpoil [.op b, vs nm, vi ofs, vn .u8 (bits.toNat : Int)] B (vi (spoilD D nm ofs bits).2) (B.set b (.obj [] (diskP (spoilD D nm ofs bits).1))) :=
  lift_obj (R := OSpoil) ⟨D, nm, ofs, bits, ok, rfl, rfl, rfl, rfl⟩ hb rfl rfl
end

/-- An answer that begins with nil is as good as one that begins with a list of nothing. -/
def nilsR (R : RSpec) : RSpec := fun args B r B' => ∃ rest, R args B (.tup (nilS :: rest)) B' ∧ r = .tup (.p (.ls []) :: rest)
theorem SoundR.nils {f : Nat} {R : RSpec} (h : SoundR DP f R) : SoundR DP f (nilsR R) := by
  rintro args B r B' ⟨rest, h1, rfl⟩ F ρ w us hI hA
  refine (h args B _ B' h1 F ρ w us hI hA).mono fun en w' hp => ?_
  obtain ⟨x, ρ2, rfl, hI2, hE2, hv⟩ := hp
  refine ⟨x, ρ2, rfl, hI2, hE2, ?_⟩
  cases hv with
  | tup _ us h2 h3 =>
    refine .tup _ us (by simpa using h2) (fun j p u hp hu => ?_)
    cases j with
    | zero =>
      cases hp
      have := (h3 0 nilS u rfl hu).val
      subst this
      exact .p _ _ (.nil Option.none 0 (.inr rfl))
    | succ j => exact h3 (j + 1) p u hp hu

end Go.Ax

namespace Go.Ax
open Go.Proofs Go.RowKit
set_option maxRecDepth 100000

def RNameW : List AV → AV → Prop := fun args r => ∃ n : Int, (-9223372036854775808 ≤ n ∧ n ≤ 9223372036854775807) ∧ args = [vi n] ∧ r = vs (wname n)
noncomputable def gNameW := relG RNameW
theorem SNameW : SoundF DP iNameW (.pure gNameW) := sound_pureT mixedD Γ4_ok Δ0_ok hfNameW heNameW hbNameW (by
  rintro args r ⟨n, hn, rfl, rfl⟩
  refine ⟨rfl, rfl, _, TNameW_chk n, ?_⟩
  unfold TNameW
  have h := itoaB_size hn
  exact wp_call (gItoa_eq hn) (wp_val (cat_val (by show 4 + (itoaB n).size ≤ _; omega)) (wp_leaf rfl (.p _))))
theorem gNameW_eq {n : Int} (hn : -9223372036854775808 ≤ n ∧ n ≤ 9223372036854775807) : gNameW [vi n] = some (vs (wname n)) :=
  relG_eq (fun args r r' ⟨n1, _, h1, h2⟩ ⟨n2, _, h3, h4⟩ => by
    rw [h2, h4, vn_inj' (one_arg (h1.symm.trans h3))]) ⟨n, hn, rfl, rfl⟩

noncomputable def Γ5 : Env := envP [(iNameW, gNameW)]
theorem Γ5_ok : ∀ f, SoundF DP f (Γ5 f) := envP_cons SNameW envP_nil
noncomputable def Δ5 : REnv := envR [(iSize, liftR OSize), (iRead, liftR ORead), (iAll, sealR (pureR gAll))]
theorem Δ5_ok : ∀ f, SoundR DP f (Δ5 f) := envR_cons (lift_sound SSize) (envR_cons (lift_sound SRead) (envR_cons (SAll.rel).shutRow envR_nil))

theorem cAllS {B : List Box} {k v : Nat} {b : List UInt8} (hb : b.length ≤ 1000000000) (hk : B[k]? = some (byteE.bx v b)) :
    sealR (pureR gAll) [.rs k v 1 0 b.length] B (.tup [vl ((allI b).1.map bytesE.f), vi (allI b).2.1, vi (allI b).2.2]) (B.set k .dead) :=
  ⟨0, k, v, UInt8, byteE, b, hk, rfl, gAll_eq hb, rfl⟩

/-- A part of the log, read. -/
def readW (D : Dsk) (n : Int) : List (List UInt8) × Int × Int := match D.get (wname n) with
  | none => ([], 0, 4)
  | some x => allI x.b
end Go.Ax

namespace Go.Ax
open Go.Proofs Go.RowKit
set_option maxRecDepth 100000

abbrev iReadW : Nat := 56
noncomputable abbrev nReadW : Func := Tryd.f56
theorem hfReadW : DP.funcs[iReadW]? = some nReadW := by kernel_rfl
theorem heReadW : enters DP iReadW = true := by kernel_rfl
theorem hbReadW : nReadW.body.isSome = true := by kernel_rfl
theorem hnReadW : nReadW.ntmps = 36 := by kernel_rfl

noncomputable def TReadW (D : Dsk) (n : Int) : Tree :=
.call 13 (gNameW [vi n] = some (vs (wname n))) (vs (wname n)) (.callr (some 14) (Δ5 60 [.op 0, vs (wname n)] [.obj [] (diskP D)] (.tup [vi ((sizeD D (wname n)).1), vi ((sizeD D (wname n)).2)]) [.obj [] (diskP D)]) (.tup [vi ((sizeD D (wname n)).1), vi ((sizeD D (wname n)).2)]) [.obj [] (diskP D)] (.sp 18 (((sizeD D (wname n)).2) != (0 : Int)) (
.leaf ⟨[0], [(0, 0, none)]⟩ [] .ret (some ([(0, .tup [nilS, vi 0, vi ((sizeD D (wname n)).2)])], [.obj [] (diskP D)]))) (
.call 23 (gNameW [vi n] = some (vs (wname n))) (vs (wname n)) (.callr (some 25) (Δ5 48 [.op 0, vs (wname n), vi 0, vi ((sizeD D (wname n)).1)] [.obj [] (diskP D)] (.tup [.rs 1 0 1 0 ((readD D (wname n) 0 ((sizeD D (wname n)).1)).1.length), vi ((readD D (wname n) 0 ((sizeD D (wname n)).1)).2)]) [.obj [] (diskP D), byteE.bx 0 ((readD D (wname n) 0 ((sizeD D (wname n)).1)).1)]) (.tup [.rs 1 0 1 0 ((readD D (wname n) 0 ((sizeD D (wname n)).1)).1.length), vi ((readD D (wname n) 0 ((sizeD D (wname n)).1)).2)]) [.obj [] (diskP D), byteE.bx 0 ((readD D (wname n) 0 ((sizeD D (wname n)).1)).1)] (.sp 29 (((readD D (wname n) 0 ((sizeD D (wname n)).1)).2) != (0 : Int)) (
.leaf ⟨[0], [(0, 0, none)]⟩ [] .ret (some ([(0, .tup [nilS, vi 0, vi ((readD D (wname n) 0 ((sizeD D (wname n)).1)).2)])], [.obj [] (diskP D)]))) (
.callr (some 32) (Δ5 50 [.rs 1 0 1 0 ((readD D (wname n) 0 ((sizeD D (wname n)).1)).1.length)] [.obj [] (diskP D), byteE.bx 0 ((readD D (wname n) 0 ((sizeD D (wname n)).1)).1)] (.tup [vl (((allI ((readD D (wname n) 0 ((sizeD D (wname n)).1)).1)).1).map bytesE.f), vi ((allI ((readD D (wname n) 0 ((sizeD D (wname n)).1)).1)).2.1), vi ((allI ((readD D (wname n) 0 ((sizeD D (wname n)).1)).1)).2.2)]) [.obj [] (diskP D), .dead]) (.tup [vl (((allI ((readD D (wname n) 0 ((sizeD D (wname n)).1)).1)).1).map bytesE.f), vi ((allI ((readD D (wname n) 0 ((sizeD D (wname n)).1)).1)).2.1), vi ((allI ((readD D (wname n) 0 ((sizeD D (wname n)).1)).1)).2.2)]) [.obj [] (diskP D), .dead] (.leaf ⟨[0], [(0, 0, none)]⟩ [] .ret (some ([(0, .tup [vl (((allI ((readD D (wname n) 0 ((sizeD D (wname n)).1)).1)).1).map bytesE.f), vi ((allI ((readD D (wname n) 0 ((sizeD D (wname n)).1)).1)).2.1), vi ((allI ((readD D (wname n) 0 ((sizeD D (wname n)).1)).1)).2.2)])], [.obj [] (diskP D)])))))))))

theorem TReadW_chk (D : Dsk) (n : Int) : fnC DP Γ5 Δ5 Tryd.f56 [.op 0, vi n] [.obj [] (diskP D)] (TReadW D n) = TReadW D n := by kernel_rfl

end Go.Ax

namespace Go.Ax
open Go.Proofs Go.RowKit
set_option maxRecDepth 100000

theorem Dsk.Ok.len {D : Dsk} (ok : D.Ok) {nm : ByteArray} {x : Fil} (h : D.get nm = some x) : (x.b.length : Int) ≤ 67108864 := by
  obtain ⟨hx, _⟩ := get_some h
  have h1 := lens_perm (delF_perm ok.nod hx)
  rw [lens_cons] at h1
  have h2 := ok.used
  change D.used = lens D.files at h2
  have h3 := ok.le
  have h4 := ok.room
  have h5 : ∀ fs : List Fil, 0 ≤ lens fs := fun fs => by
    induction fs with
    | nil => exact Int.le_refl _
    | cons y fs ih => rw [lens_cons]; omega
  have := h5 (delF D.files x.name)
  omega
theorem stE_or (fu : Int) : stE fu = 0 ∨ stE fu = 10 := by unfold stE; split <;> simp

def OReadW : RSpec := fun args B r B' => ∃ (D : Dsk) (n : Int), D.Ok ∧ D.down = false ∧ (-9223372036854775808 ≤ n ∧ n ≤ 9223372036854775807) ∧ args = [.op 0, vi n] ∧ B = [.obj [] (diskP D)] ∧
  r = .tup [vl ((readW D n).1.map bytesE.f), vi (readW D n).2.1, vi (readW D n).2.2] ∧ B' = B
def OReadW0 : RSpec := fun args B r B' => ∃ (D : Dsk) (n : Int), D.Ok ∧ D.down = false ∧ (-9223372036854775808 ≤ n ∧ n ≤ 9223372036854775807) ∧ args = [.op 0, vi n] ∧ B = [.obj [] (diskP D)] ∧
  ((D.get (wname n) = none ∧ r = .tup [nilS, vi 0, vi 4]) ∨ ∃ x, D.get (wname n) = some x ∧ r = .tup [vl ((allI x.b).1.map bytesE.f), vi (allI x.b).2.1, vi (allI x.b).2.2]) ∧ B' = B
theorem SReadW0 : SoundR DP iReadW OReadW0 := sound_genT mixedD Γ5_ok Δ5_ok hfReadW heReadW hbReadW (by
  rintro args B r B' ⟨D, n, ok, hd, hn, rfl, rfl, ⟨hg, rfl⟩ | ⟨x, hg, rfl⟩, rfl⟩
  · refine ⟨by rw [hnReadW]; rfl, _, TReadW_chk D n, ?_⟩
    have hs : sizeD D (wname n) = (0, 4) := by unfold sizeD; rw [if_neg (by simp [hd]), hg]
    unfold TReadW
    refine wp_call (gNameW_eq hn) (wp_callr (oSize ok rfl) (wp_sp (fun _ => wp_leaf rfl ?_) (fun h => absurd h (by rw [hs]; decide))))
    rw [hs]
    exact ⟨rfl, rfl⟩
  · refine ⟨by rw [hnReadW]; rfl, _, TReadW_chk D n, ?_⟩
    have hl := ok.len hg
    have hs : sizeD D (wname n) = ((x.b.length : Int), 0) := by unfold sizeD; rw [if_neg (by simp [hd]), hg]
    have hr : readD D (wname n) 0 (sizeD D (wname n)).1 = (x.b, 0) := by
      rw [hs]
      unfold readD
      rw [if_neg (by simp [hd]), hg]
      simp only
      rw [if_neg (by omega), show (min (x.b.length : Int) ((x.b.length : Int) - 0)).toNat = x.b.length by omega]
      simp
    unfold TReadW
    refine wp_call (gNameW_eq hn) (wp_callr (oSize ok rfl) (wp_sp (fun h => absurd h (by rw [hs]; simp)) (fun _ => wp_call (gNameW_eq hn) (wp_callr (oRead ok rfl) ?_))))
    rw [hr]
    exact wp_sp (fun h => absurd h (by simp)) (fun _ => wp_callr (cAllS (by show x.b.length ≤ _; omega) rfl) (wp_leaf rfl ⟨rfl, rfl⟩)))
theorem SReadW : SoundR DP iReadW OReadW := (SReadW0.or SReadW0.nils).mono (by
  rintro args B r B' ⟨D, n, ok, hd, hn, rfl, rfl, rfl, rfl⟩
  unfold readW
  cases hg : D.get (wname n) with
  | none => exact .inr ⟨_, ⟨D, n, ok, hd, hn, rfl, rfl, .inl ⟨hg, rfl⟩, rfl⟩, rfl⟩
  | some x => exact .inl ⟨D, n, ok, hd, hn, rfl, rfl, .inr ⟨x, hg, rfl⟩, rfl⟩)
theorem oReadW {B : List Box} {b : Nat} {D : Dsk} {n : Int} (ok : D.Ok) (hd : D.down = false) (hn : -9223372036854775808 ≤ n ∧ n ≤ 9223372036854775807) (hb : B[b]? = some (.obj [] (diskP D))) :
    liftR OReadW [.op b, vi n] B (.tup [vl ((readW D n).1.map bytesE.f), vi (readW D n).2.1, vi (readW D n).2.2]) B := by
  have := lift_obj (R := OReadW) ⟨D, n, ok, hd, hn, rfl, rfl, rfl, rfl⟩ hb rfl rfl
  rwa [set_same hb] at this

noncomputable def Γ6 : Env := envP [(iNameW, gNameW), (iParse, gParse), (iHeadW, gHeadW)]
theorem Γ6_ok : ∀ f, SoundF DP f (Γ6 f) := envP_cons SNameW (envP_cons SParse (envP_cons SHeadW envP_nil))
noncomputable def Δ6 : REnv := envR [(iReadW, liftR OReadW), (iRPut, takeR ORPut), (iSize, liftR OSize), (iDown, liftR ODown), (iRoom, liftR ORoom), (iSync, liftR OSync), (iRemove, liftR ORemove), (iCreate, liftR OCreate), (iAppend, takeR OAppend)]
theorem Δ6_ok : ∀ f, SoundR DP f (Δ6 f) := envR_cons (lift_sound SReadW) (envR_cons (take_sound SRPut) (envR_cons (lift_sound SSize) (envR_cons (lift_sound SDown) (envR_cons (lift_sound SRoom) (envR_cons (lift_sound SSync) (envR_cons (lift_sound SRemove) (envR_cons (lift_sound SCreate) (envR_cons (take_sound SAppend) envR_nil))))))))

theorem oRPut {B : List Box} {d : List UInt8} (hd : d.length ≤ 1048576) : takeR ORPut [nilS, vl (d.map byteE.f)] B (.tup [.rs B.length 0 1 0 (recB d).length, vi 0]) (B ++ [byteE.bx 0 (recB d)]) := by
  refine .inl ⟨_, _, _, _, ⟨d, by omega, rfl, rfl, .inr ⟨hd, rfl, rfl⟩⟩, ⟨[], [], [], [], [byteE.bx 0 (recB d)], rfl, rfl, rfl, rfl, trivial, ⟨.rowv (by simp [dNew]), trivial⟩, ?_, ?_, rfl⟩⟩
  · simp [outB]
  · simp [AV.rv, AV.rv.rvL, fNew, dNew]
theorem oRPutS {B : List Box} {d : List UInt8} {k v : Nat} (hd : d.length ≤ 1048576) (hk : B[k]? = some (byteE.bx v d)) :
    takeR ORPut [nilS, .rs k v 1 0 d.length] B (.tup [.rs B.length 0 1 0 (recB d).length, vi 0]) (B.set k .dead ++ [byteE.bx 0 (recB d)]) := by
  refine .inr ⟨1, k, v, UInt8, byteE, d, hk, rfl, ?_⟩
  refine ⟨_, _, _, _, ⟨d, by omega, rfl, rfl, .inr ⟨hd, rfl, rfl⟩⟩, ⟨[], [], [], [], [byteE.bx 0 (recB d)], rfl, rfl, rfl, rfl, trivial, ⟨.rowv (by simp [dNew]), trivial⟩, ?_, ?_, rfl⟩⟩
  · simp [outB]
  · simp [AV.rv, AV.rv.rvL, fNew, dNew]

end Go.Ax
