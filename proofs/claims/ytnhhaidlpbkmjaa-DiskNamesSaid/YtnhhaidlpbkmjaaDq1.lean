/- Trees, printed by gen/k1.py: the disk's functions, the disk laid open. -/
import Derived.Test.YtnhhaidlpbkmjaaDq0
set_option linter.unusedVariables false
set_option linter.unusedSimpArgs false
set_option linter.unusedSectionVars false
namespace Go.Ax
open Go.Proofs Go.RowKit
set_option maxRecDepth 100000

abbrev iNamed : Nat := 31
noncomputable abbrev nNamed : Func := Try.f31
theorem hfNamed : DP.funcs[iNamed]? = some nNamed := by kernel_rfl
theorem heNamed : enters DP iNamed = true := by kernel_rfl
theorem hbNamed : nNamed.body.isSome = true := by kernel_rfl
theorem hnNamed : nNamed.ntmps = 39 := by kernel_rfl
abbrev iFind : Nat := 33
noncomputable abbrev nFind : Func := Try.f33
theorem hfFind : DP.funcs[iFind]? = some nFind := by kernel_rfl
theorem heFind : enters DP iFind = true := by kernel_rfl
theorem hbFind : nFind.body.isSome = true := by kernel_rfl
theorem hnFind : nFind.ntmps = 28 := by kernel_rfl
abbrev iStep : Nat := 34
noncomputable abbrev nStep : Func := Try.f34
theorem hfStep : DP.funcs[iStep]? = some nStep := by kernel_rfl
theorem heStep : enters DP iStep = true := by kernel_rfl
theorem hbStep : nStep.body.isSome = true := by kernel_rfl
theorem hnStep : nStep.ntmps = 27 := by kernel_rfl
abbrev iNew : Nat := 10
noncomputable abbrev nNew : Func := Try.f10
theorem hfNew : DP.funcs[iNew]? = some nNew := by kernel_rfl
theorem heNew : enters DP iNew = true := by kernel_rfl
theorem hbNew : nNew.body.isSome = true := by kernel_rfl
theorem hnNew : nNew.ntmps = 9 := by kernel_rfl
abbrev iCreate : Nat := 11
noncomputable abbrev nCreate : Func := Try.f11
theorem hfCreate : DP.funcs[iCreate]? = some nCreate := by kernel_rfl
theorem heCreate : enters DP iCreate = true := by kernel_rfl
theorem hbCreate : nCreate.body.isSome = true := by kernel_rfl
theorem hnCreate : nCreate.ntmps = 38 := by kernel_rfl
abbrev iAppend : Nat := 12
noncomputable abbrev nAppend : Func := Try.f12
theorem hfAppend : DP.funcs[iAppend]? = some nAppend := by kernel_rfl
theorem heAppend : enters DP iAppend = true := by kernel_rfl
theorem hbAppend : nAppend.body.isSome = true := by kernel_rfl
theorem hnAppend : nAppend.ntmps = 54 := by kernel_rfl
abbrev iSync : Nat := 13
noncomputable abbrev nSync : Func := Try.f13
theorem hfSync : DP.funcs[iSync]? = some nSync := by kernel_rfl
theorem heSync : enters DP iSync = true := by kernel_rfl
theorem hbSync : nSync.body.isSome = true := by kernel_rfl
theorem hnSync : nSync.ntmps = 30 := by kernel_rfl
abbrev iRemove : Nat := 21
noncomputable abbrev nRemove : Func := Try.f21
theorem hfRemove : DP.funcs[iRemove]? = some nRemove := by kernel_rfl
theorem heRemove : enters DP iRemove = true := by kernel_rfl
theorem hbRemove : nRemove.body.isSome = true := by kernel_rfl
theorem hnRemove : nRemove.ntmps = 39 := by kernel_rfl
abbrev iRead : Nat := 15
noncomputable abbrev nRead : Func := Try.f15
theorem hfRead : DP.funcs[iRead]? = some nRead := by kernel_rfl
theorem heRead : enters DP iRead = true := by kernel_rfl
theorem hbRead : nRead.body.isSome = true := by kernel_rfl
theorem hnRead : nRead.ntmps = 54 := by kernel_rfl
abbrev iSize : Nat := 22
noncomputable abbrev nSize : Func := Try.f22
theorem hfSize : DP.funcs[iSize]? = some nSize := by kernel_rfl
theorem heSize : enters DP iSize = true := by kernel_rfl
theorem hbSize : nSize.body.isSome = true := by kernel_rfl
theorem hnSize : nSize.ntmps = 22 := by kernel_rfl
abbrev iUsed : Nat := 19
noncomputable abbrev nUsed : Func := Try.f19
theorem hfUsed : DP.funcs[iUsed]? = some nUsed := by kernel_rfl
theorem heUsed : enters DP iUsed = true := by kernel_rfl
theorem hbUsed : nUsed.body.isSome = true := by kernel_rfl
theorem hnUsed : nUsed.ntmps = 9 := by kernel_rfl
abbrev iRoom : Nat := 32
noncomputable abbrev nRoom : Func := Try.f32
theorem hfRoom : DP.funcs[iRoom]? = some nRoom := by kernel_rfl
theorem heRoom : enters DP iRoom = true := by kernel_rfl
theorem hbRoom : nRoom.body.isSome = true := by kernel_rfl
theorem hnRoom : nRoom.ntmps = 14 := by kernel_rfl
abbrev iDown : Nat := 17
noncomputable abbrev nDown : Func := Try.f17
theorem hfDown : DP.funcs[iDown]? = some nDown := by kernel_rfl
theorem heDown : enters DP iDown = true := by kernel_rfl
theorem hbDown : nDown.body.isSome = true := by kernel_rfl
theorem hnDown : nDown.ntmps = 11 := by kernel_rfl
abbrev iFuse : Nat := 16
noncomputable abbrev nFuse : Func := Try.f16
theorem hfFuse : DP.funcs[iFuse]? = some nFuse := by kernel_rfl
theorem heFuse : enters DP iFuse = true := by kernel_rfl
theorem hbFuse : nFuse.body.isSome = true := by kernel_rfl
theorem hnFuse : nFuse.ntmps = 18 := by kernel_rfl
abbrev iRename : Nat := 20
noncomputable abbrev nRename : Func := Try.f20
theorem hfRename : DP.funcs[iRename]? = some nRename := by kernel_rfl
theorem heRename : enters DP iRename = true := by kernel_rfl
theorem hbRename : nRename.body.isSome = true := by kernel_rfl
theorem hnRename : nRename.ntmps = 69 := by kernel_rfl
abbrev iSpoil : Nat := 24
noncomputable abbrev nSpoil : Func := Try.f24
theorem hfSpoil : DP.funcs[iSpoil]? = some nSpoil := by kernel_rfl
theorem heSpoil : enters DP iSpoil = true := by kernel_rfl
theorem hbSpoil : nSpoil.body.isSome = true := by kernel_rfl
theorem hnSpoil : nSpoil.ntmps = 41 := by kernel_rfl
abbrev iCrash : Nat := 14
noncomputable abbrev nCrash : Func := Try.f14
theorem hfCrash : DP.funcs[iCrash]? = some nCrash := by kernel_rfl
theorem heCrash : enters DP iCrash = true := by kernel_rfl
theorem hbCrash : nCrash.body.isSome = true := by kernel_rfl
theorem hnCrash : nCrash.ntmps = 95 := by kernel_rfl
abbrev iList : Nat := 18
noncomputable abbrev nList : Func := Try.f18
theorem hfList : DP.funcs[iList]? = some nList := by kernel_rfl
theorem heList : enters DP iList = true := by kernel_rfl
theorem hbList : nList.body.isSome = true := by kernel_rfl
theorem hnList : nList.ntmps = 17 := by kernel_rfl
abbrev iClone : Nat := 27
noncomputable abbrev nClone : Func := Try.f27
theorem hfClone : DP.funcs[iClone]? = some nClone := by kernel_rfl
theorem heClone : enters DP iClone = true := by kernel_rfl
theorem hbClone : nClone.body.isSome = true := by kernel_rfl
theorem hnClone : nClone.ntmps = 37 := by kernel_rfl

abbrev tMap : Nat := 62
abbrev tKey : Nat := 9
abbrev tVal : Nat := 65
theorem htMap : DP.underlying tMap = some (.map tKey tVal) := by kernel_rfl
theorem htKey : DP.underlying tKey = some .string := by kernel_rfl
theorem htVal : zeroV DP tVal = some (.p (.v (.pointer none))) := by kernel_rfl

noncomputable def TNamed_l1_e (nm : ByteArray) (s1 : Int) : St := ([(0, vs nm), (6, .rs 0 0 1 0 nm.data.toList.length), (7, vi ((nm.data.toList.length : Nat) : Int)), (8, vi s1)], [byteE.bx 0 nm.data.toList])
noncomputable def TNamed_l1_x (x1 : Unit) : AE × St := (.ret, ([(2, vb false)], []))
noncomputable def TNamed_l1_x' (nm : ByteArray) (y1 : Unit) : AE × St := ((.exit 0), ([(0, vs nm)], []))
noncomputable def TNamed_l1_b (nm : ByteArray) (s1 : Int) : Tree :=
.sp 9 (decide (s1 < ((nm.data.toList.length : Nat) : Int))) (
.ridx 10 nm.data.toList.length s1 (.rload 11 (rowC (nm.data.toList.map byteE.f)) (0 + Int.toNat s1 * 1) byteE nm.data.toList s1 0 (fun e1 => .sp 13 (decide ((e1.toNat : Int) < (97 : Int))) (
.sp 20 (decide ((e1.toNat : Int) < (48 : Int))) (
.sp 28 ((e1.toNat : Int) != (46 : Int)) (
.leaf ⟨[2], []⟩ [] .ret (some (TNamed_l1_x ()).2)) (
.int 30 (IntKind.i64.wrap (s1 + 1)) (s1 + 1) (.leaf ⟨[0, 6, 7, 8], [(0, 0, some (nm.data.toList.map byteE.f))]⟩ [rowC (nm.data.toList.map byteE.f)] .normal (some (TNamed_l1_e nm (s1 + 1)))))) (
.sp 23 (decide ((e1.toNat : Int) > (57 : Int))) (
.sp 28 ((e1.toNat : Int) != (46 : Int)) (
.leaf ⟨[2], []⟩ [] .ret (some (TNamed_l1_x ()).2)) (
.int 30 (IntKind.i64.wrap (s1 + 1)) (s1 + 1) (.leaf ⟨[0, 6, 7, 8], [(0, 0, some (nm.data.toList.map byteE.f))]⟩ [rowC (nm.data.toList.map byteE.f)] .normal (some (TNamed_l1_e nm (s1 + 1)))))) (
.int 30 (IntKind.i64.wrap (s1 + 1)) (s1 + 1) (.leaf ⟨[0, 6, 7, 8], [(0, 0, some (nm.data.toList.map byteE.f))]⟩ [rowC (nm.data.toList.map byteE.f)] .normal (some (TNamed_l1_e nm (s1 + 1))))))) (
.sp 16 (decide ((e1.toNat : Int) > (122 : Int))) (
.sp 20 (decide ((e1.toNat : Int) < (48 : Int))) (
.sp 28 ((e1.toNat : Int) != (46 : Int)) (
.leaf ⟨[2], []⟩ [] .ret (some (TNamed_l1_x ()).2)) (
.int 30 (IntKind.i64.wrap (s1 + 1)) (s1 + 1) (.leaf ⟨[0, 6, 7, 8], [(0, 0, some (nm.data.toList.map byteE.f))]⟩ [rowC (nm.data.toList.map byteE.f)] .normal (some (TNamed_l1_e nm (s1 + 1)))))) (
.sp 23 (decide ((e1.toNat : Int) > (57 : Int))) (
.sp 28 ((e1.toNat : Int) != (46 : Int)) (
.leaf ⟨[2], []⟩ [] .ret (some (TNamed_l1_x ()).2)) (
.int 30 (IntKind.i64.wrap (s1 + 1)) (s1 + 1) (.leaf ⟨[0, 6, 7, 8], [(0, 0, some (nm.data.toList.map byteE.f))]⟩ [rowC (nm.data.toList.map byteE.f)] .normal (some (TNamed_l1_e nm (s1 + 1)))))) (
.int 30 (IntKind.i64.wrap (s1 + 1)) (s1 + 1) (.leaf ⟨[0, 6, 7, 8], [(0, 0, some (nm.data.toList.map byteE.f))]⟩ [rowC (nm.data.toList.map byteE.f)] .normal (some (TNamed_l1_e nm (s1 + 1))))))) (
.int 30 (IntKind.i64.wrap (s1 + 1)) (s1 + 1) (.leaf ⟨[0, 6, 7, 8], [(0, 0, some (nm.data.toList.map byteE.f))]⟩ [rowC (nm.data.toList.map byteE.f)] .normal (some (TNamed_l1_e nm (s1 + 1))))))))) (
.leaf ⟨[0], []⟩ [] (.exit 0) (some (TNamed_l1_x' nm ()).2))
noncomputable def TNamed (nm : ByteArray) : Tree :=
.sbyte 6 (.loop ⟨[0, 6, 7, 8], [(0, 0, some (nm.data.toList.map byteE.f))]⟩ [rowC (nm.data.toList.map byteE.f)] (some (TNamed_l1_e nm 0)) (TNamed_l1_e nm) (TNamed_l1_x) (TNamed_l1_x' nm) 0 (TNamed_l1_b nm) (fun (x1 : Unit) => .leaf ⟨[0], []⟩ [] .ret (some ([(0, vb false)], []))) (fun (y1 : Unit) => .sp 33 (decide ((nm.size : Int) > (0 : Int))) (
.leaf ⟨[0], []⟩ [] .ret (some ([(0, vb (decide ((nm.size : Int) ≤ (40 : Int))))], []))) (
.leaf ⟨[0], []⟩ [] .ret (some ([(0, vb false)], [])))))

theorem TNamed_chk (nm : ByteArray) : fnC DP Γ0 Δ0 Try.f31 [vs nm] [] (TNamed nm) = TNamed nm := by kernel_rfl

end Go.Ax
