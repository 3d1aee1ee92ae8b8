/- The disk's functions for their callers. -/
import Derived.Test.YtnhhaidlpbkmjaaDq8a
import Derived.Test.YtnhhaidlpbkmjaaDk10
set_option linter.unusedVariables false
set_option linter.unusedSimpArgs false
set_option linter.unusedSectionVars false
namespace Go.Ax
open Go.Proofs Go.RowKit
set_option maxRecDepth 100000

def envD : List (Nat × RSpec) → REnv
  | [], _ => fun _ _ _ _ => False
  | (i, R) :: l, f => if f = i then R else envD l f
theorem envD_ok {P : Program} : ∀ {l : List (Nat × RSpec)}, (∀ p ∈ l, SoundR P p.1 p.2) → ∀ f, SoundR P f (envD l f)
  | [], _, f => .none f
  | (i, R) :: l, h, f => by
    unfold envD
    split
    · rename_i e; subst e; exact h (f, R) (by simp)
    · exact envD_ok (fun p hp => h p (by simp [hp])) f
def orR (R1 R2 : RSpec) : RSpec := fun a b c d => R1 a b c d ∨ R2 a b c d

def LD : List (Nat × RSpec) := [(iNew, liftR ONew), (iCreate, liftR OCreate), (iAppend, orR (liftR OAppend) (sealR (liftR OAppend))), (iSync, liftR OSync), (iCrash, orR (liftR OCrash) (sealR (liftR OCrash))), (iRead, liftR ORead),
  (iFuse, liftR OFuse), (iDown, liftR ODown), (iList, liftR OList), (iUsed, liftR OUsed), (iRename, liftR ORename), (iRemove, liftR ORemove), (iSize, liftR OSize), (iRoom, liftR ORoom)]
theorem LD_ok : ∀ p ∈ LD, SoundR DP p.1 p.2 := by
  intro p hp
  simp only [LD, List.mem_cons, List.not_mem_nil, or_false] at hp
  rcases hp with rfl | rfl | rfl | rfl | rfl | rfl | rfl | rfl | rfl | rfl | rfl | rfl | rfl | rfl
  · exact lift_sound SNew
  · exact lift_sound SCreate
  · exact (lift_sound SAppend).or (lift_sound SAppend).shutRow
  · exact lift_sound SSync
  · exact (lift_sound SCrash).or (lift_sound SCrash).shutRow
  · exact lift_sound SRead
  · exact lift_sound SFuse
  · exact lift_sound SDown
  · exact lift_sound SList
  · exact lift_sound SUsed
  · exact lift_sound SRename
  · exact lift_sound SRemove
  · exact lift_sound SSize
  · exact lift_sound SRoom
def ΔD : REnv := envD LD
theorem ΔD_ok : ∀ f, SoundR DP f (ΔD f) := envD_ok LD_ok

section
variable {B : List Box} {b : Nat} {D D1 : Dsk} {nm nn : ByteArray} {e : Int}

theorem cNew (n : Int) : ΔD iNew [vi n] B (.op B.length) (B ++ [.obj [] (diskP (newD n))]) := lift_new ⟨n, rfl, rfl, rfl, rfl⟩ rfl
theorem cCreate (ok : D.Ok) (hN : nm.size ≤ 1000000000) (hb : B[b]? = some (.obj [] (diskP D))) (h : createD D nm = (D1, e)) : ΔD iCreate [.op b, vs nm] B (vi e) (B.set b (.obj [] (diskP D1))) :=
  lift_obj (R := OCreate) ⟨D, nm, ok, hN, rfl, rfl, by rw [h], by rw [h]⟩ hb rfl rfl
theorem cAppend {bs : List UInt8} (ok : D.Ok) (hN : bs.length ≤ 1000000000) (hb : B[b]? = some (.obj [] (diskP D))) (h : appendD D nm bs = (D1, e)) : ΔD iAppend [.op b, vs nm, vl (bs.map byteE.f)] B (vi e) (B.set b (.obj [] (diskP D1))) :=
  .inl (lift_obj (R := OAppend) ⟨D, nm, bs, ok, hN, rfl, rfl, by rw [h], by rw [h]⟩ hb rfl rfl)
theorem cAppendS {bs : List UInt8} {k v : Nat} (ok : D.Ok) (hN : bs.length ≤ 1000000000) (hb : B[b]? = some (.obj [] (diskP D))) (hk : B[k]? = some (.cells true v (rowC (bs.map byteE.f)))) (h : appendD D nm bs = (D1, e)) :
    ΔD iAppend [.op b, vs nm, .rs k v 1 0 bs.length] B (vi e) ((B.set k .dead).set b (.obj [] (diskP D1))) := by
  have hne : k ≠ b := fun e => by rw [e, hb] at hk; cases hk
  exact .inr ⟨2, k, v, UInt8, byteE, bs, hk, rfl, lift_obj (R := OAppend) ⟨D, nm, bs, ok, hN, rfl, rfl, by rw [h], by rw [h]⟩ (by rw [List.getElem?_set_ne hne]; exact hb) rfl rfl⟩
theorem cSync (ok : D.Ok) (hb : B[b]? = some (.obj [] (diskP D))) (h : syncD D nm = (D1, e)) : ΔD iSync [.op b, vs nm] B (vi e) (B.set b (.obj [] (diskP D1))) :=
  lift_obj (R := OSync) ⟨D, nm, ok, rfl, rfl, by rw [h], by rw [h]⟩ hb rfl rfl
theorem cRemove (ok : D.Ok) (hb : B[b]? = some (.obj [] (diskP D))) (h : removeD D nm = (D1, e)) : ΔD iRemove [.op b, vs nm] B (vi e) (B.set b (.obj [] (diskP D1))) :=
  lift_obj (R := ORemove) ⟨D, nm, ok, rfl, rfl, by rw [h], by rw [h]⟩ hb rfl rfl
theorem cRename (ok : D.Ok) (hN : nn.size ≤ 1000000000) (hb : B[b]? = some (.obj [] (diskP D))) (h : renameD D nm nn = (D1, e)) : ΔD iRename [.op b, vs nm, vs nn] B (vi e) (B.set b (.obj [] (diskP D1))) :=
  lift_obj (R := ORename) ⟨D, nm, nn, ok, hN, rfl, rfl, by rw [h], by rw [h]⟩ hb rfl rfl
theorem cCrash {ks : List Int} (ok : D.Ok) (hl : D.files.length ≤ 1000000) (hb : B[b]? = some (.obj [] (diskP D))) : ΔD iCrash [.op b, vl (ks.map intE.f)] B (.tup []) (B.set b (.obj [] (diskP (crashD D ks)))) :=
  .inl (lift_obj (R := OCrash) ⟨D, ks, ok, hl, rfl, rfl, rfl, rfl⟩ hb rfl rfl)
theorem cCrashS {ks : List Int} {k v : Nat} (ok : D.Ok) (hl : D.files.length ≤ 1000000) (hb : B[b]? = some (.obj [] (diskP D))) (hk : B[k]? = some (.cells true v (rowC (ks.map intE.f)))) :
    ΔD iCrash [.op b, .rs k v 1 0 ks.length] B (.tup []) ((B.set k .dead).set b (.obj [] (diskP (crashD D ks)))) := by
  have hne : k ≠ b := fun e => by rw [e, hb] at hk; cases hk
  exact .inr ⟨1, k, v, Int, intE, ks, hk, rfl, lift_obj (R := OCrash) ⟨D, ks, ok, hl, rfl, rfl, rfl, rfl⟩ (by rw [List.getElem?_set_ne hne]; exact hb) rfl rfl⟩
theorem cRead {ofs n : Int} {bs : List UInt8} (ok : D.Ok) (hb : B[b]? = some (.obj [] (diskP D))) (h : readD D nm ofs n = (bs, e)) :
    ΔD iRead [.op b, vs nm, vi ofs, vi n] B (.tup [.rs B.length 0 1 0 bs.length, vi e]) (B.set b (.obj [] (diskP D)) ++ [byteE.bx 0 bs]) :=
  lift_objrow (R := ORead) (xs := bs.map byteE.f) ⟨D, nm, ofs, n, ok, rfl, rfl, by rw [h], by rw [h]⟩ hb rfl
theorem cUsed (ok : D.Ok) (hb : B[b]? = some (.obj [] (diskP D))) (h : D.used = e) : ΔD iUsed [.op b] B (vi e) (B.set b (.obj [] (diskP D))) :=
  lift_obj (R := OUsed) (al := []) ⟨D, ok, rfl, rfl, by rw [h], rfl⟩ hb rfl rfl
theorem cDown {q : Bool} (ok : D.Ok) (hb : B[b]? = some (.obj [] (diskP D))) (h : D.down = q) : ΔD iDown [.op b] B (vb q) (B.set b (.obj [] (diskP D))) :=
  lift_obj (R := ODown) (al := []) ⟨D, ok, rfl, rfl, by rw [h], rfl⟩ hb rfl rfl
theorem cFuse {n : Int} (ok : D.Ok) (hb : B[b]? = some (.obj [] (diskP D))) : ΔD iFuse [.op b, vi n] B (.tup []) (B.set b (.obj [] (diskP (fuseD D n)))) :=
  lift_obj (R := OFuse) ⟨D, n, ok, rfl, rfl, rfl, rfl⟩ hb rfl rfl
theorem cList {ns : List ByteArray} (ok : D.Ok) (hl : D.files.length ≤ 1000000) (hb : B[b]? = some (.obj [] (diskP D))) (h : listD D = ns) : ΔD iList [.op b] B (vl (ns.map nameE.f)) (B.set b (.obj [] (diskP D))) :=
  lift_obj (R := OList) (al := []) ⟨D, ok, hl, rfl, rfl, by rw [h], rfl⟩ hb rfl rfl
theorem cSize {n : Int} (ok : D.Ok) (hb : B[b]? = some (.obj [] (diskP D))) (h : sizeD D nm = (n, e)) : ΔD iSize [.op b, vs nm] B (.tup [vi n, vi e]) (B.set b (.obj [] (diskP D))) :=
  lift_obj (R := OSize) ⟨D, nm, ok, rfl, rfl, by rw [h], rfl⟩ hb rfl rfl
end
end Go.Ax
