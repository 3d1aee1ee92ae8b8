/- Trees, printed by gen/k1.py: the disk's functions, the disk laid open. -/
import Derived.Test.YtbdfbdlfipcleaaGreatDoorG21
import Derived.Test.YtbdfbdlfipcleaaGreatDoorG20
set_option linter.unusedVariables false
set_option linter.unusedSimpArgs false
set_option linter.unusedSectionVars false
namespace Go.Ax
open Go.Proofs Go.RowKit
set_option maxRecDepth 100000

noncomputable def TCreate_d (ro:Int) (us:Int) (fu:Int) (hid:List (Value×Value)) (nm:ByteArray):Tree:=
.call 12 (gNamed [vs nm]=some (vb (isName nm))) (vb (isName nm)) (.sp 12 (isName nm) (
.callr (some 18) (ΔF 64 [.ptr 0 0 0,vs nm] [.cells false 0 ([vi ro,vi us, .mp 1,vb true,vi fu]), .obj [] (mapP [] hid)] (.tup [.p (.v (.pointer none)),vi 10]) [.cells false 0 ([vi ro,vi us, .mp 1,vb true,vi fu]), .obj [] (mapP [] hid)]) (.tup [.p (.v (.pointer none)),vi 10]) [.cells false 0 ([vi ro,vi us, .mp 1,vb true,vi fu]), .obj [] (mapP [] hid)] (.leaf ⟨[0],[(0,0,none),(1,0,none)]⟩ [] .ret (some ([(0,vi 10)],[.cells false 0 ([vi ro,vi us, .mp 1,vb true,vi fu]), .obj [] (mapP [] hid)])))) (
.leaf ⟨[0],[(0,0,none),(1,0,none)]⟩ [] .ret (some ([(0,vi 1)],[.cells false 0 ([vi ro,vi us, .mp 1,vb true,vi fu]), .obj [] (mapP [] hid)]))))

theorem TCreate_d_chk (ro:Int) (us:Int) (fu:Int) (hid:List (Value×Value)) (nm:ByteArray):fnC DP ΓF ΔF Tryz.f31 [.ptr 0 0 0,vs nm] [.cells false 0 ([vi ro,vi us, .mp 1,vb true,vi fu]), .obj [] (mapP [] hid)] (TCreate_d ro us fu hid nm)=TCreate_d ro us fu hid nm:=by kernel_rfl

noncomputable def TCreate_a (ro:Int) (us:Int) (fu:Int) (hid:List (Value×Value)) (nm:ByteArray):Tree:=
.call 12 (gNamed [vs nm]=some (vb (isName nm))) (vb (isName nm)) (.sp 12 (isName nm) (
.callr (some 18) (ΔF 64 [.ptr 0 0 0,vs nm] [.cells false 0 ([vi ro,vi us, .mp 1,vb false,vi fu]), .obj [] (mapP [] hid)] (.tup [.p (.v (.pointer none)),vi 4]) [.cells false 0 ([vi ro,vi us, .mp 1,vb false,vi fu]), .obj [] (mapP [] hid)]) (.tup [.p (.v (.pointer none)),vi 4]) [.cells false 0 ([vi ro,vi us, .mp 1,vb false,vi fu]), .obj [] (mapP [] hid)] (.callr (some 27) (ΔF 65 [.ptr 0 0 0] [.cells false 0 ([vi ro,vi us, .mp 1,vb false,vi fu]), .obj [] (mapP [] hid)] (vi (stE fu)) [.cells false 0 ([vi ro,vi us, .mp 1,vb (stD fu),vi (stF fu)]), .obj [] (mapP [] hid)]) (vi (stE fu)) [.cells false 0 ([vi ro,vi us, .mp 1,vb (stD fu),vi (stF fu)]), .obj [] (mapP [] hid)] (.sp 29 ((stE fu) != (0:Int)) (
.leaf ⟨[0],[(0,0,none),(1,0,none)]⟩ [] .ret (some ([(0,vi (stE fu))],[.cells false 0 ([vi ro,vi us, .mp 1,vb (stD fu),vi (stF fu)]), .obj [] (mapP [] hid)]))) (
.val none (UpdE DP 69 [.cells false 0 ([vi ro,vi us, .mp 1,vb (stD fu),vi (stF fu)]), .obj [] (mapP [] hid), .cells false 0 ([nilS,vi 0])] (.mp 1) (vs nm) (.ptr 2 0 0) [.cells false 0 ([vi ro,vi us, .mp 1,vb (stD fu),vi (stF fu)]), .obj [.ptr 2 0 0] (mapP [.string nm] hid), .cells false 0 ([nilS,vi 0])]) (.u) [.cells false 0 ([vi ro,vi us, .mp 1,vb (stD fu),vi (stF fu)]), .obj [.ptr 2 0 0] (mapP [.string nm] hid), .cells false 0 ([nilS,vi 0])] (.leaf ⟨[0],[(0,0,none),(1,0,none),(2,0,none)]⟩ [] .ret (some ([(0,vi 0)],[.cells false 0 ([vi ro,vi us, .mp 1,vb (stD fu),vi (stF fu)]), .obj [.ptr 2 0 0] (mapP [.string nm] hid), .cells false 0 ([nilS,vi 0])]))))))) (
.leaf ⟨[0],[(0,0,none),(1,0,none)]⟩ [] .ret (some ([(0,vi 1)],[.cells false 0 ([vi ro,vi us, .mp 1,vb false,vi fu]), .obj [] (mapP [] hid)]))))

theorem TCreate_a_chk (ro:Int) (us:Int) (fu:Int) (hid:List (Value×Value)) (nm:ByteArray):fnC DP ΓF ΔF Tryz.f31 [.ptr 0 0 0,vs nm] [.cells false 0 ([vi ro,vi us, .mp 1,vb false,vi fu]), .obj [] (mapP [] hid)] (TCreate_a ro us fu hid nm)=TCreate_a ro us fu hid nm:=by kernel_rfl

noncomputable def TCreate_p (ro:Int) (us:Int) (fu:Int) (hid:List (Value×Value)) (L:List UInt8) (su:Int) (nm:ByteArray):Tree:=
.call 12 (gNamed [vs nm]=some (vb (isName nm))) (vb (isName nm)) (.sp 12 (isName nm) (
.callr (some 18) (ΔF 64 [.ptr 0 0 0,vs nm] [.cells false 0 ([vi ro,vi us, .mp 1,vb false,vi fu]), .obj [.ptr 2 0 0] (mapP [.string nm] hid), .cells false 0 ([.rs 3 0 1 0 L.length,vi su]),byteE.bx 0 L] (.tup [.ptr 2 0 0,vi 0]) [.cells false 0 ([vi ro,vi us, .mp 1,vb false,vi fu]), .obj [.ptr 2 0 0] (mapP [.string nm] hid), .cells false 0 ([.rs 3 0 1 0 L.length,vi su]),byteE.bx 0 L]) (.tup [.ptr 2 0 0,vi 0]) [.cells false 0 ([vi ro,vi us, .mp 1,vb false,vi fu]), .obj [.ptr 2 0 0] (mapP [.string nm] hid), .cells false 0 ([.rs 3 0 1 0 L.length,vi su]),byteE.bx 0 L] (.leaf ⟨[0],[(0,0,none),(1,0,none),(2,0,none),(3,0,some (L.map byteE.f))]⟩ [rowC (L.map byteE.f)] .ret (some ([(0,vi 5)],[.cells false 0 ([vi ro,vi us, .mp 1,vb false,vi fu]), .obj [.ptr 2 0 0] (mapP [.string nm] hid), .cells false 0 ([.rs 3 0 1 0 L.length,vi su]),byteE.bx 0 L])))) (
.leaf ⟨[0],[(0,0,none),(1,0,none),(2,0,none),(3,0,some (L.map byteE.f))]⟩ [rowC (L.map byteE.f)] .ret (some ([(0,vi 1)],[.cells false 0 ([vi ro,vi us, .mp 1,vb false,vi fu]), .obj [.ptr 2 0 0] (mapP [.string nm] hid), .cells false 0 ([.rs 3 0 1 0 L.length,vi su]),byteE.bx 0 L]))))

theorem TCreate_p_chk (ro:Int) (us:Int) (fu:Int) (hid:List (Value×Value)) (L:List UInt8) (su:Int) (nm:ByteArray):fnC DP ΓF ΔF Tryz.f31 [.ptr 0 0 0,vs nm] [.cells false 0 ([vi ro,vi us, .mp 1,vb false,vi fu]), .obj [.ptr 2 0 0] (mapP [.string nm] hid), .cells false 0 ([.rs 3 0 1 0 L.length,vi su]),byteE.bx 0 L] (TCreate_p ro us fu hid L su nm)=TCreate_p ro us fu hid L su nm:=by kernel_rfl

noncomputable def TSync_d (ro:Int) (us:Int) (fu:Int) (hid:List (Value×Value)) (nm:ByteArray):Tree:=
.callr (some 11) (ΔF 64 [.ptr 0 0 0,vs nm] [.cells false 0 ([vi ro,vi us, .mp 1,vb true,vi fu]), .obj [] (mapP [] hid)] (.tup [.p (.v (.pointer none)),vi 10]) [.cells false 0 ([vi ro,vi us, .mp 1,vb true,vi fu]), .obj [] (mapP [] hid)]) (.tup [.p (.v (.pointer none)),vi 10]) [.cells false 0 ([vi ro,vi us, .mp 1,vb true,vi fu]), .obj [] (mapP [] hid)] (.leaf ⟨[0],[(0,0,none),(1,0,none)]⟩ [] .ret (some ([(0,vi 10)],[.cells false 0 ([vi ro,vi us, .mp 1,vb true,vi fu]), .obj [] (mapP [] hid)])))

theorem TSync_d_chk (ro:Int) (us:Int) (fu:Int) (hid:List (Value×Value)) (nm:ByteArray):fnC DP ΓF ΔF Tryz.f33 [.ptr 0 0 0,vs nm] [.cells false 0 ([vi ro,vi us, .mp 1,vb true,vi fu]), .obj [] (mapP [] hid)] (TSync_d ro us fu hid nm)=TSync_d ro us fu hid nm:=by kernel_rfl

noncomputable def TSync_a (ro:Int) (us:Int) (fu:Int) (hid:List (Value×Value)) (nm:ByteArray):Tree:=
.callr (some 11) (ΔF 64 [.ptr 0 0 0,vs nm] [.cells false 0 ([vi ro,vi us, .mp 1,vb false,vi fu]), .obj [] (mapP [] hid)] (.tup [.p (.v (.pointer none)),vi 4]) [.cells false 0 ([vi ro,vi us, .mp 1,vb false,vi fu]), .obj [] (mapP [] hid)]) (.tup [.p (.v (.pointer none)),vi 4]) [.cells false 0 ([vi ro,vi us, .mp 1,vb false,vi fu]), .obj [] (mapP [] hid)] (.leaf ⟨[0],[(0,0,none),(1,0,none)]⟩ [] .ret (some ([(0,vi 4)],[.cells false 0 ([vi ro,vi us, .mp 1,vb false,vi fu]), .obj [] (mapP [] hid)])))

theorem TSync_a_chk (ro:Int) (us:Int) (fu:Int) (hid:List (Value×Value)) (nm:ByteArray):fnC DP ΓF ΔF Tryz.f33 [.ptr 0 0 0,vs nm] [.cells false 0 ([vi ro,vi us, .mp 1,vb false,vi fu]), .obj [] (mapP [] hid)] (TSync_a ro us fu hid nm)=TSync_a ro us fu hid nm:=by kernel_rfl

noncomputable def TSync_p (ro:Int) (us:Int) (fu:Int) (hid:List (Value×Value)) (L:List UInt8) (su:Int) (nm:ByteArray):Tree:=
.callr (some 11) (ΔF 64 [.ptr 0 0 0,vs nm] [.cells false 0 ([vi ro,vi us, .mp 1,vb false,vi fu]), .obj [.ptr 2 0 0] (mapP [.string nm] hid), .cells false 0 ([.rs 3 0 1 0 L.length,vi su]),byteE.bx 0 L] (.tup [.ptr 2 0 0,vi 0]) [.cells false 0 ([vi ro,vi us, .mp 1,vb false,vi fu]), .obj [.ptr 2 0 0] (mapP [.string nm] hid), .cells false 0 ([.rs 3 0 1 0 L.length,vi su]),byteE.bx 0 L]) (.tup [.ptr 2 0 0,vi 0]) [.cells false 0 ([vi ro,vi us, .mp 1,vb false,vi fu]), .obj [.ptr 2 0 0] (mapP [.string nm] hid), .cells false 0 ([.rs 3 0 1 0 L.length,vi su]),byteE.bx 0 L] (.callr (some 18) (ΔF 65 [.ptr 0 0 0] [.cells false 0 ([vi ro,vi us, .mp 1,vb false,vi fu]), .obj [.ptr 2 0 0] (mapP [.string nm] hid), .cells false 0 ([.rs 3 0 1 0 L.length,vi su]),byteE.bx 0 L] (vi (stE fu)) [.cells false 0 ([vi ro,vi us, .mp 1,vb (stD fu),vi (stF fu)]), .obj [.ptr 2 0 0] (mapP [.string nm] hid), .cells false 0 ([.rs 3 0 1 0 L.length,vi su]),byteE.bx 0 L]) (vi (stE fu)) [.cells false 0 ([vi ro,vi us, .mp 1,vb (stD fu),vi (stF fu)]), .obj [.ptr 2 0 0] (mapP [.string nm] hid), .cells false 0 ([.rs 3 0 1 0 L.length,vi su]),byteE.bx 0 L] (.sp 20 ((stE fu) != (0:Int)) (
.leaf ⟨[0],[(0,0,none),(1,0,none),(2,0,none),(3,0,some (L.map byteE.f))]⟩ [rowC (L.map byteE.f)] .ret (some ([(0,vi (stE fu))],[.cells false 0 ([vi ro,vi us, .mp 1,vb (stD fu),vi (stF fu)]), .obj [.ptr 2 0 0] (mapP [.string nm] hid), .cells false 0 ([.rs 3 0 1 0 L.length,vi su]),byteE.bx 0 L]))) (
.leaf ⟨[0],[(0,0,none),(1,0,none),(2,0,none),(3,0,some (L.map byteE.f))]⟩ [rowC (L.map byteE.f)] .ret (some ([(0,vi 0)],[.cells false 0 ([vi ro,vi us, .mp 1,vb (stD fu),vi (stF fu)]), .obj [.ptr 2 0 0] (mapP [.string nm] hid), .cells false 0 ([.rs 3 0 1 0 L.length,vi ((L.length:Nat):Int)]),byteE.bx 0 L])))))

theorem TSync_p_chk (ro:Int) (us:Int) (fu:Int) (hid:List (Value×Value)) (L:List UInt8) (su:Int) (nm:ByteArray):fnC DP ΓF ΔF Tryz.f33 [.ptr 0 0 0,vs nm] [.cells false 0 ([vi ro,vi us, .mp 1,vb false,vi fu]), .obj [.ptr 2 0 0] (mapP [.string nm] hid), .cells false 0 ([.rs 3 0 1 0 L.length,vi su]),byteE.bx 0 L] (TSync_p ro us fu hid L su nm)=TSync_p ro us fu hid L su nm:=by kernel_rfl

noncomputable def TSize_d (ro:Int) (us:Int) (fu:Int) (hid:List (Value×Value)) (nm:ByteArray):Tree:=
.callr (some 11) (ΔF 64 [.ptr 0 0 0,vs nm] [.cells false 0 ([vi ro,vi us, .mp 1,vb true,vi fu]), .obj [] (mapP [] hid)] (.tup [.p (.v (.pointer none)),vi 10]) [.cells false 0 ([vi ro,vi us, .mp 1,vb true,vi fu]), .obj [] (mapP [] hid)]) (.tup [.p (.v (.pointer none)),vi 10]) [.cells false 0 ([vi ro,vi us, .mp 1,vb true,vi fu]), .obj [] (mapP [] hid)] (.leaf ⟨[0],[(0,0,none),(1,0,none)]⟩ [] .ret (some ([(0, .tup [vi 0,vi 10])],[.cells false 0 ([vi ro,vi us, .mp 1,vb true,vi fu]), .obj [] (mapP [] hid)])))

theorem TSize_d_chk (ro:Int) (us:Int) (fu:Int) (hid:List (Value×Value)) (nm:ByteArray):fnC DP ΓF ΔF Tryz.f36 [.ptr 0 0 0,vs nm] [.cells false 0 ([vi ro,vi us, .mp 1,vb true,vi fu]), .obj [] (mapP [] hid)] (TSize_d ro us fu hid nm)=TSize_d ro us fu hid nm:=by kernel_rfl

noncomputable def TSize_a (ro:Int) (us:Int) (fu:Int) (hid:List (Value×Value)) (nm:ByteArray):Tree:=
.callr (some 11) (ΔF 64 [.ptr 0 0 0,vs nm] [.cells false 0 ([vi ro,vi us, .mp 1,vb false,vi fu]), .obj [] (mapP [] hid)] (.tup [.p (.v (.pointer none)),vi 4]) [.cells false 0 ([vi ro,vi us, .mp 1,vb false,vi fu]), .obj [] (mapP [] hid)]) (.tup [.p (.v (.pointer none)),vi 4]) [.cells false 0 ([vi ro,vi us, .mp 1,vb false,vi fu]), .obj [] (mapP [] hid)] (.leaf ⟨[0],[(0,0,none),(1,0,none)]⟩ [] .ret (some ([(0, .tup [vi 0,vi 4])],[.cells false 0 ([vi ro,vi us, .mp 1,vb false,vi fu]), .obj [] (mapP [] hid)])))

theorem TSize_a_chk (ro:Int) (us:Int) (fu:Int) (hid:List (Value×Value)) (nm:ByteArray):fnC DP ΓF ΔF Tryz.f36 [.ptr 0 0 0,vs nm] [.cells false 0 ([vi ro,vi us, .mp 1,vb false,vi fu]), .obj [] (mapP [] hid)] (TSize_a ro us fu hid nm)=TSize_a ro us fu hid nm:=by kernel_rfl

noncomputable def TSize_p (ro:Int) (us:Int) (fu:Int) (hid:List (Value×Value)) (L:List UInt8) (su:Int) (nm:ByteArray):Tree:=
.callr (some 11) (ΔF 64 [.ptr 0 0 0,vs nm] [.cells false 0 ([vi ro,vi us, .mp 1,vb false,vi fu]), .obj [.ptr 2 0 0] (mapP [.string nm] hid), .cells false 0 ([.rs 3 0 1 0 L.length,vi su]),byteE.bx 0 L] (.tup [.ptr 2 0 0,vi 0]) [.cells false 0 ([vi ro,vi us, .mp 1,vb false,vi fu]), .obj [.ptr 2 0 0] (mapP [.string nm] hid), .cells false 0 ([.rs 3 0 1 0 L.length,vi su]),byteE.bx 0 L]) (.tup [.ptr 2 0 0,vi 0]) [.cells false 0 ([vi ro,vi us, .mp 1,vb false,vi fu]), .obj [.ptr 2 0 0] (mapP [.string nm] hid), .cells false 0 ([.rs 3 0 1 0 L.length,vi su]),byteE.bx 0 L] (.leaf ⟨[0],[(0,0,none),(1,0,none),(2,0,none),(3,0,some (L.map byteE.f))]⟩ [rowC (L.map byteE.f)] .ret (some ([(0, .tup [vi ((L.length:Nat):Int),vi 0])],[.cells false 0 ([vi ro,vi us, .mp 1,vb false,vi fu]), .obj [.ptr 2 0 0] (mapP [.string nm] hid), .cells false 0 ([.rs 3 0 1 0 L.length,vi su]),byteE.bx 0 L])))

theorem TSize_p_chk (ro:Int) (us:Int) (fu:Int) (hid:List (Value×Value)) (L:List UInt8) (su:Int) (nm:ByteArray):fnC DP ΓF ΔF Tryz.f36 [.ptr 0 0 0,vs nm] [.cells false 0 ([vi ro,vi us, .mp 1,vb false,vi fu]), .obj [.ptr 2 0 0] (mapP [.string nm] hid), .cells false 0 ([.rs 3 0 1 0 L.length,vi su]),byteE.bx 0 L] (TSize_p ro us fu hid L su nm)=TSize_p ro us fu hid L su nm:=by kernel_rfl

noncomputable def TAppend_d (ro:Int) (us:Int) (fu:Int) (hid:List (Value×Value)) (nm:ByteArray) (bs:List UInt8):Tree:=
.callr (some 13) (ΔF 64 [.ptr 0 0 0,vs nm] [.cells false 0 ([vi ro,vi us, .mp 1,vb true,vi fu]), .obj [] (mapP [] hid)] (.tup [.p (.v (.pointer none)),vi 10]) [.cells false 0 ([vi ro,vi us, .mp 1,vb true,vi fu]), .obj [] (mapP [] hid)]) (.tup [.p (.v (.pointer none)),vi 10]) [.cells false 0 ([vi ro,vi us, .mp 1,vb true,vi fu]), .obj [] (mapP [] hid)] (.leaf ⟨[0],[(0,0,none),(1,0,none)]⟩ [] .ret (some ([(0,vi 10)],[.cells false 0 ([vi ro,vi us, .mp 1,vb true,vi fu]), .obj [] (mapP [] hid)])))

theorem TAppend_d_chk (ro:Int) (us:Int) (fu:Int) (hid:List (Value×Value)) (nm:ByteArray) (bs:List UInt8):fnC DP ΓF ΔF Tryz.f32 [.ptr 0 0 0,vs nm,vl (bs.map byteE.f)] [.cells false 0 ([vi ro,vi us, .mp 1,vb true,vi fu]), .obj [] (mapP [] hid)] (TAppend_d ro us fu hid nm bs)=TAppend_d ro us fu hid nm bs:=by kernel_rfl

noncomputable def TAppend_a (ro:Int) (us:Int) (fu:Int) (hid:List (Value×Value)) (nm:ByteArray) (bs:List UInt8):Tree:=
.callr (some 13) (ΔF 64 [.ptr 0 0 0,vs nm] [.cells false 0 ([vi ro,vi us, .mp 1,vb false,vi fu]), .obj [] (mapP [] hid)] (.tup [.p (.v (.pointer none)),vi 4]) [.cells false 0 ([vi ro,vi us, .mp 1,vb false,vi fu]), .obj [] (mapP [] hid)]) (.tup [.p (.v (.pointer none)),vi 4]) [.cells false 0 ([vi ro,vi us, .mp 1,vb false,vi fu]), .obj [] (mapP [] hid)] (.leaf ⟨[0],[(0,0,none),(1,0,none)]⟩ [] .ret (some ([(0,vi 4)],[.cells false 0 ([vi ro,vi us, .mp 1,vb false,vi fu]), .obj [] (mapP [] hid)])))

theorem TAppend_a_chk (ro:Int) (us:Int) (fu:Int) (hid:List (Value×Value)) (nm:ByteArray) (bs:List UInt8):fnC DP ΓF ΔF Tryz.f32 [.ptr 0 0 0,vs nm,vl (bs.map byteE.f)] [.cells false 0 ([vi ro,vi us, .mp 1,vb false,vi fu]), .obj [] (mapP [] hid)] (TAppend_a ro us fu hid nm bs)=TAppend_a ro us fu hid nm bs:=by kernel_rfl

noncomputable def TAppend_p (ro:Int) (us:Int) (fu:Int) (hid:List (Value×Value)) (L:List UInt8) (su:Int) (nm:ByteArray) (bs:List UInt8):Tree:=
.callr (some 13) (ΔF 64 [.ptr 0 0 0,vs nm] [.cells false 0 ([vi ro,vi us, .mp 1,vb false,vi fu]), .obj [.ptr 2 0 0] (mapP [.string nm] hid), .cells false 0 ([.rs 3 0 1 0 L.length,vi su]),byteE.bx 0 L] (.tup [.ptr 2 0 0,vi 0]) [.cells false 0 ([vi ro,vi us, .mp 1,vb false,vi fu]), .obj [.ptr 2 0 0] (mapP [.string nm] hid), .cells false 0 ([.rs 3 0 1 0 L.length,vi su]),byteE.bx 0 L]) (.tup [.ptr 2 0 0,vi 0]) [.cells false 0 ([vi ro,vi us, .mp 1,vb false,vi fu]), .obj [.ptr 2 0 0] (mapP [.string nm] hid), .cells false 0 ([.rs 3 0 1 0 L.length,vi su]),byteE.bx 0 L] (.int 20 ((bs.map byteE.f).length:Int) (bs.length:Int) (.int 29 (IntKind.i64.wrap (ro - us)) (ro - us) (.sp 30 (decide ((bs.length:Int)>(ro - us))) (
.leaf ⟨[0],[(0,0,none),(1,0,none),(2,0,none),(3,0,some (L.map byteE.f))]⟩ [rowC (L.map byteE.f)] .ret (some ([(0,vi 11)],[.cells false 0 ([vi ro,vi us, .mp 1,vb false,vi fu]), .obj [.ptr 2 0 0] (mapP [.string nm] hid), .cells false 0 ([.rs 3 0 1 0 L.length,vi su]),byteE.bx 0 L]))) (
.callr (some 32) (ΔF 65 [.ptr 0 0 0] [.cells false 0 ([vi ro,vi us, .mp 1,vb false,vi fu]), .obj [.ptr 2 0 0] (mapP [.string nm] hid), .cells false 0 ([.rs 3 0 1 0 L.length,vi su]),byteE.bx 0 L] (vi (stE fu)) [.cells false 0 ([vi ro,vi us, .mp 1,vb (stD fu),vi (stF fu)]), .obj [.ptr 2 0 0] (mapP [.string nm] hid), .cells false 0 ([.rs 3 0 1 0 L.length,vi su]),byteE.bx 0 L]) (vi (stE fu)) [.cells false 0 ([vi ro,vi us, .mp 1,vb (stD fu),vi (stF fu)]), .obj [.ptr 2 0 0] (mapP [.string nm] hid), .cells false 0 ([.rs 3 0 1 0 L.length,vi su]),byteE.bx 0 L] (.sp 34 ((stE fu) != (0:Int)) (
.leaf ⟨[0],[(0,0,none),(1,0,none),(2,0,none),(3,0,some (L.map byteE.f))]⟩ [rowC (L.map byteE.f)] .ret (some ([(0,vi (stE fu))],[.cells false 0 ([vi ro,vi us, .mp 1,vb (stD fu),vi (stF fu)]), .obj [.ptr 2 0 0] (mapP [.string nm] hid), .cells false 0 ([.rs 3 0 1 0 L.length,vi su]),byteE.bx 0 L]))) (
.app 42 (.ls (bs.map byteE.f)) L.length (rowC (L.map byteE.f)) byteE L bs (.int 50 ((bs.map byteE.f).length:Int) (bs.length:Int) (.int 51 (IntKind.i64.wrap (us+(bs.length:Int))) (us+(bs.length:Int)) (.leaf ⟨[0],[(0,0,none),(1,0,none),(2,0,none),(3,0,some ((L++bs).map byteE.f))]⟩ [rowC ((L++bs).map byteE.f)] .ret (some ([(0,vi 0)],[.cells false 0 ([vi ro,vi (us+(bs.length:Int)), .mp 1,vb (stD fu),vi (stF fu)]), .obj [.ptr 2 0 0] (mapP [.string nm] hid), .cells false 0 ([.rs 3 1 1 0 ((L++bs).length),vi su]),byteE.bx 1 (L++bs)])))))))))))

theorem TAppend_p_chk (ro:Int) (us:Int) (fu:Int) (hid:List (Value×Value)) (L:List UInt8) (su:Int) (nm:ByteArray) (bs:List UInt8):fnC DP ΓF ΔF Tryz.f32 [.ptr 0 0 0,vs nm,vl (bs.map byteE.f)] [.cells false 0 ([vi ro,vi us, .mp 1,vb false,vi fu]), .obj [.ptr 2 0 0] (mapP [.string nm] hid), .cells false 0 ([.rs 3 0 1 0 L.length,vi su]),byteE.bx 0 L] (TAppend_p ro us fu hid L su nm bs)=TAppend_p ro us fu hid L su nm bs:=by kernel_rfl

end Go.Ax

namespace Go.Ax
open Go.Proofs Go.RowKit
set_option maxRecDepth 100000

theorem ΔF_find:ΔF iFind=liftR RFind:=if_pos rfl
theorem ΔF_step:ΔF iStep=liftR RStep:=by unfold ΔF; rw[if_neg (by decide),if_pos rfl]
theorem ΓF_named (nm:ByteArray) (hN:nm.size≤1000000000):gNamed [vs nm]=some (vb (isName nm)):=gNamed_eq nm hN

theorem flat_low (D:Dsk) (X:List Fil) (hid:List (Value×Value)):Blow (flatB D X hid).length (flatB D X hid):=fun y hy=>by
 rw[flatB_length]; exact (flat_pl D X hid y hy).2

theorem dFind {args:List AV} {B B':List Box} {r:AV} (h:RFind args B r B') (Bx:List Box):ΔF iFind args (B++Bx) r (B'++Bx):=by
 rw[ΔF_find]
 cases h with
 | d ro us fu hid nm=>exact lift_tail (.d ro us fu hid nm) rfl rfl (flat_low _ _ _) (flat_low _ _ _) rfl Bx
 | a ro us fu hid hs nm hh hn=>exact lift_tail (.a ro us fu hid hs nm hh hn) rfl rfl (flat_low _ _ _) (flat_low _ _ _) rfl Bx
 | p ro us fu hid hs x hh=>exact lift_tail (.p ro us fu hid hs x hh) rfl rfl (flat_low _ _ _) (flat_low _ _ _) rfl Bx
 | q ro us fu hid hs x y hh=>exact lift_tail (.q ro us fu hid hs x y hh) rfl rfl (flat_low _ _ _) (flat_low _ _ _) rfl Bx

theorem dStep (ro us fu:Int) (hid:List (Value×Value)) (X:List Fil) (hX:X.length≤2) (hfu:fu<9223372036854775808) (Bx:List Box):
  ΔF iStep [.ptr 0 0 0] (flatB (dsk ro us fu false) X hid++Bx) (vi (stE fu)) (flatB (dsk ro us (stF fu) (stD fu)) X hid++Bx):=by
 rw[ΔF_step]
 refine lift_tail (.mk ro us fu hid X hX hfu) (by rw[flatB_length,flatB_length]) ?_ (flat_low _ _ _) ?_ rfl Bx
 ·rw[flatB_length]
  show (Nat.blt 0 (2+2*X.length)&&true)=true
  simp[Nat.blt_eq]
  omega
 ·rw[flatB_length]
  have:=flat_low (dsk ro us (stF fu) (stD fu)) X hid
  rw[flatB_length] at this
  exact this

theorem wp_callr {d:Option Nat} {p:Prop} {v:AV} {B:List Box} {k:Tree} {K:AE→St→Prop} (hp:p) (h:k.wp K):(Tree.callr d p v B k).wp K:=⟨hp,h⟩

theorem SoundR.or {P:Program} {f:Nat} {R1 R2:RSpec} (h1:SoundR P f R1) (h2:SoundR P f R2):SoundR P f (fun a b c d=>R1 a b c d∨R2 a b c d):=fun a b c d h=>h.elim (h1 a b c d) (h2 a b c d)

def RGen (fn:Func):RSpec:=fun args B r B'=>GenT DP ΓF ΔF fn args B (r,B')
def RG (fn:Func):RSpec:=fun args B r B'=>RGen fn args B r B'∨((∃ Bf b i v cs,RGen fn args B r Bf∧Bf[b]? = some (.cells false v cs)∧cs[i]? = some nilS∧B'=nilfix Bf b i v cs)∨(∃ Bf e,RGen fn args B (.tup [nilS,e]) Bf∧r= .tup [.rs Bf.length 0 1 0 0,e]∧B'=Bf++ [.cells true 0 []]))
theorem SG {f:FuncId} {fn:Func} (hf:DP.funcs[f]? = some fn) (he:enters DP f=true) (hb:fn.body.isSome=true):SoundR DP f (RG fn):=
 have h:SoundR DP f (RGen fn):=sound_genT mixedD ΓF_ok ΔF_ok hf he hb (fun _ _ _ _ h=>h)
 h.or (h.nilfix.or h.nilans)
theorem SO {f:FuncId} {fn:Func} (hf:DP.funcs[f]? = some fn) (he:enters DP f=true) (hb:fn.body.isSome=true):SoundR DP f (diskR (RG fn)):=disk_lift (SG hf he hb)

def isP:AV→Bool
 | .p _=>true
 | _=>false

theorem al_id:∀ {al:List AV},al.all isP=true→∀ f d,al.map (AV.rv f d)=al
 | [],_,_,_=>rfl
 | a::al,h,f,d=>by
  simp only[List.all_cons,Bool.and_eq_true] at h
  rw[List.map_cons,al_id h.2]
  cases a <;> first | rfl | cases h.1

theorem al_ok:∀ {al:List AV},al.all isP=true→al.all (okArg 0)=true
 | [],_=>rfl
 | a::al,h=>by
  simp only[List.all_cons,Bool.and_eq_true] at h ⊢
  refine ⟨?_,al_ok h.2⟩
  cases a <;> first | rfl | cases h.1

theorem obA {fn:Func} {D D1:Dsk} {al:List AV} {y:AV} (hal:al.all isP=true) (hy:y.pl2=true) (hl:y.low 0=true) (hf:D.files.Perm D1.files)
  (h:∀ hid,hid.map (·.1)=strsV (D.files.map (·.name))→RG fn (.ptr 0 0 0::al) (flatB D [] hid) y (flatB D1 [] hid)):diskR (RG fn) (.op 0::al) [.obj [] (diskP D)] y [.obj [] (diskP D1)]:=by
 have hr:∀ f d,y.rv f d=y:=fun f d=>rv_low (n:=0) (fun j hj=>by omega) (fun j hj=>by omega) hl
 refine ⟨D,D1,[],D.files,[],[],[],al,y, .refl _,al_ok hal,by rw[al_id hal],rfl,fun hid hh=>⟨flatB D1 [] hid,?_,shut0 rfl rfl⟩,hf,hy,hl,(hr _ _).symm,rfl⟩
 rw[al_id hal,hr]
 exact h hid (by rw[hh]; simp[keysOf])

abbrev flatV (D1:Dsk) (x:Fil) (v:Nat) (hid:List (Value×Value)):List Box:= [headC D1, .obj [.ptr 2 0 0] (mapP [.string x.name] hid),fileC 3 v x,rowB v x.b]

theorem obP {fn:Func} {D D1:Dsk} {x x':Fil} {v:Nat} {al:List AV} {y:AV} (ok:(D.files.map (·.name)).Nodup) (hx:x∈D.files) (hal:al.all isP=true) (hy:y.pl2=true) (hl:y.low 0=true) (hf:(x'::delF D.files x.name).Perm D1.files)
  (h:∀ hid,hid.map (·.1)=strsV ((delF D.files x.name).map (·.name))→RG fn (.ptr 0 0 0::al) (flatB D [x] hid) y (flatV D1 x' v hid)):diskR (RG fn) (.op 0::al) [.obj [] (diskP D)] y [.obj [] (diskP D1)]:=by
 have hr:∀ f d,y.rv f d=y:=fun f d=>rv_low (n:=0) (fun j hj=>by omega) (fun j hj=>by omega) hl
 refine ⟨D,D1,[x],delF D.files x.name,[],[⟨x',2,3,v⟩],[],al,y,delF_perm ok hx,al_ok hal,by rw[al_id hal],rfl,fun hid hh=>⟨flatV D1 x' v hid,?_,shut1 rfl rfl rfl rfl⟩,hf,hy,hl,(hr _ _).symm,rfl⟩
 rw[al_id hal,hr]
 exact h hid (by rw[hh]; simp[keysOf])

theorem obN {fn:Func} {D D1:Dsk} {nm:ByteArray} {al:List AV} {y:AV} (hal:al.all isP=true) (hy:y.pl2=true) (hl:y.low 0=true) (hf:(⟨nm,[],0⟩::D.files).Perm D1.files)
  (h:∀ hid,hid.map (·.1)=strsV (D.files.map (·.name))→RGen fn (.ptr 0 0 0::al) (flatB D [] hid) y [headC D1, .obj [.ptr 2 0 0] (mapP [.string nm] hid), .cells false 0 [nilS,vi 0]]):diskR (RG fn) (.op 0::al) [.obj [] (diskP D)] y [.obj [] (diskP D1)]:=by
 have hr:∀ f d,y.rv f d=y:=fun f d=>rv_low (n:=0) (fun j hj=>by omega) (fun j hj=>by omega) hl
 refine ⟨D,D1,[],D.files,[],[⟨⟨nm,[],0⟩,2,3,0⟩],[],al,y, .refl _,al_ok hal,by rw[al_id hal],rfl,fun hid hh=>⟨flatV D1 ⟨nm,[],0⟩ 0 hid,?_,shut1 rfl rfl rfl rfl⟩,hf,hy,hl,(hr _ _).symm,rfl⟩
 rw[al_id hal,hr]
 exact .inr (.inl ⟨_,2,0,0,[nilS,vi 0],h hid (by rw[hh]; simp[keysOf]),rfl,rfl,rfl⟩)

theorem bne_false {e:Int} (h:(e != (0:Int))=false):e=0:=by simpa using h
theorem bne_true {e:Int} (h:(e != (0:Int))=true):e≠0:=by simpa using h

def OCreate:RSpec:=fun args B r B'=>∃ (D:Dsk) (nm:ByteArray),D.Ok∧nm.size≤1000000000∧args= [.op 0,vs nm]∧B= [.obj [] (diskP D)]∧r=vi (createD D nm).2∧B'= [.obj [] (diskP (createD D nm).1)]

theorem SCreate:SoundR DP iCreate OCreate:=(SO hfCreate heCreate hbCreate).mono (by
 rintro args B r B' ⟨D,nm,ok,hN,rfl,rfl,rfl,rfl⟩
 have hnm:=ΓF_named nm hN
 have hfu:=ok.fuse.2
 obtain ⟨ro,us,fs,dn,fu⟩:=D
 cases dn with
 | true=>
  have h2:createD ⟨ro,us,fs,true,fu⟩ nm=(⟨ro,us,fs,true,fu⟩,if !isName nm then 1 else 10):=by
   unfold createD; split <;> rfl
  rw[h2]
  refine obA (al:= [vs nm]) rfl rfl rfl (.refl _) (fun hid hh=> .inl ⟨by rw[hnCreate]; rfl,_,TCreate_d_chk ro us fu hid nm,?_⟩)
  unfold TCreate_d
  exact wp_call hnm (wp_sp (fun h=>wp_callr (dFind (.d ro us fu hid nm) []) (wp_leaf rfl ⟨by rw[h]; rfl,rfl⟩)) (fun h=>wp_leaf rfl ⟨by rw[h]; rfl,rfl⟩))
 | false=>
  cases hg:(⟨ro,us,fs,false,fu⟩:Dsk).get nm with
  | some x=>
   obtain ⟨hx,rfl⟩:=get_some hg
   have h2:createD ⟨ro,us,fs,false,fu⟩ x.name=(⟨ro,us,fs,false,fu⟩,if !isName x.name then 1 else 5):=by
    unfold createD
    split
    ·rfl
    ·rw[if_neg (by simp)]
     simp only[hg]
   rw[h2]
   refine obP (x':=x) (v:=0) (al:= [vs x.name]) ok.nod hx rfl rfl rfl (delF_perm ok.nod hx).symm (fun hid hh=> .inl ⟨by rw[hnCreate]; rfl,_,TCreate_p_chk ro us fu hid x.b x.sure x.name,?_⟩)
   unfold TCreate_p
   exact wp_call hnm (wp_sp (fun h=>wp_callr (dFind (.p ro us fu hid _ x hh) []) (wp_leaf rfl ⟨by rw[h]; rfl,rfl⟩)) (fun h=>wp_leaf rfl ⟨by rw[h]; rfl,rfl⟩))
  | none=>
   have hno:=get_none hg
   cases hn:isName nm with
   | false=>
    have h2:createD ⟨ro,us,fs,false,fu⟩ nm=(⟨ro,us,fs,false,fu⟩,1):=by unfold createD; rw[if_pos (by simp[hn])]
    rw[h2]
    refine obA (al:= [vs nm]) rfl rfl rfl (.refl _) (fun hid hh=> .inl ⟨by rw[hnCreate]; rfl,_,TCreate_a_chk ro us fu hid nm,?_⟩)
    unfold TCreate_a
    exact wp_call hnm (wp_sp (fun h=>by rw[hn] at h; cases h) (fun h=>wp_leaf rfl ⟨rfl,rfl⟩))
   | true=>
    by_cases he:stE fu=0
    ·have h2:createD ⟨ro,us,fs,false,fu⟩ nm=(⟨ro,us,insF ⟨nm,[],0⟩ fs,stD fu,stF fu⟩,0):=by
      unfold createD
      rw[if_neg (by simp[hn]),if_neg (by simp)]
      simp only[hg,he,ne_eq,not_true_eq_false,if_false]
      rfl
     rw[h2]
     refine obN (nm:=nm) (al:= [vs nm]) rfl rfl rfl (insF_perm _ _) (fun hid hh=>⟨by rw[hnCreate]; rfl,_,TCreate_a_chk ro us fu hid nm,?_⟩)
     unfold TCreate_a
     refine wp_call hnm (wp_sp (fun _=>wp_callr (dFind (.a ro us fu hid _ nm hh hno) []) (wp_callr (dStep ro us fu hid [] (by simp) hfu []) (wp_sp (fun h=>absurd he (bne_true h)) (fun h=>wp_val ?_ (wp_leaf rfl ⟨rfl,rfl⟩))))) (fun h=>by rw[hn] at h; cases h))
     exact upd_no htMap htKey (ns:= []) (B:= [.cells false 0 ([vi ro,vi us, .mp 1,vb (stD fu),vi (stF fu)]), .obj [] (mapP [] hid), .cells false 0 ([nilS,vi 0])]) rfl hh (by simp) hno
    ·have h2:createD ⟨ro,us,fs,false,fu⟩ nm=(⟨ro,us,fs,stD fu,stF fu⟩,stE fu):=by
      unfold createD
      rw[if_neg (by simp[hn]),if_neg (by simp)]
      simp only[hg,ne_eq,he,not_false_eq_true,if_true]
      rfl
     rw[h2]
     refine obA (al:= [vs nm]) rfl rfl rfl (.refl _) (fun hid hh=> .inl ⟨by rw[hnCreate]; rfl,_,TCreate_a_chk ro us fu hid nm,?_⟩)
     unfold TCreate_a
     exact wp_call hnm (wp_sp (fun _=>wp_callr (dFind (.a ro us fu hid _ nm hh hno) []) (wp_callr (dStep ro us fu hid [] (by simp) hfu []) (wp_sp (fun h=>wp_leaf rfl ⟨rfl,rfl⟩) (fun h=>absurd (bne_false h) he)))) (fun h=>by rw[hn] at h; cases h)))

end Go.Ax

namespace Go.Ax
open Go.Proofs Go.RowKit
set_option maxRecDepth 100000

variable [Glob]
section
variable {R : RSpec} {pre post : List AV} {L M : List UInt8} {n b v : Nat} {B : List Box}
theorem rvL_mid (f d:Nat→Nat) (h1:pre.all isPl=true) (h2:post.all isPl=true) (x:AV):AV.rv.rvL f d (pre++x::post)=pre++x.rv f d::post:=by
 rw[rvL_map,List.map_append,List.map_cons,←rvL_map,←rvL_map,isPl_id h1,isPl_id h2]
theorem low_mid {m:Nat} (h1:pre.all isPl=true) (h2:post.all isPl=true) {x:AV} (hx:x.low m=true):AV.low.allLow m (pre++x::post)=true:=by
 induction pre with
 | nil=>rw[List.nil_append,AV.low.allLow,hx,isPl_low h2]; rfl
 | cons a pre ih=>
  simp only[List.all_cons,Bool.and_eq_true] at h1
  rw[List.cons_append,AV.low.allLow,ih h1.2]
  cases a <;> first | rfl | cases h1.1

theorem BoxRen.rowv {f d:Nat→Nat} {n j:Nat} {row:Bool} {v v':Nat} {xs:List PV} (h:v'=v+d j):BoxRen f d n j (.cells row v (rowC xs)) (.cells row v' (rowC xs)):=h▸ .row row v xs

theorem lift_row (hR:R (pre++ .rs 0 0 1 0 L.length::post) [byteE.bx 0 L] (.rs 1 0 1 0 n) [byteE.bx 1 [],byteE.bx 0 M]) (hb:B[b]? = some (byteE.bx v L)) (h1:pre.all isPl=true) (h2:post.all isPl=true):
  liftR R (pre++ .rs b v 1 0 L.length::post) B (.rs B.length 0 1 0 n) (B.set b (byteE.bx (v+1) [])++ [byteE.bx 0 M]):=by
 have hlt:b<B.length:=(List.getElem?_eq_some_iff.1 hb).1
 refine ⟨_,_,_,_,hR,⟨[b],[v],[byteE.bx v L],[byteE.bx (v+1) []],[byteE.bx 0 M],?_,?_,?_,?_,⟨?_,trivial⟩,⟨?_,?_,trivial⟩,?_,?_,rfl⟩⟩
 ·simp[noDup,Nat.blt_eq,hlt]
 ·simp[hb]
 ·rw[rvL_mid _ _ h1 h2]; simp[AV.rv,fNew,dNew]
 ·exact low_mid h1 h2 rfl
 ·exact .rowv (by simp[dNew])
 ·exact .rowv (by simp[dNew]; omega)
 ·exact .rowv (by simp[dNew])
 ·simp[outB]
 ·simp[AV.rv,fNew,dNew]

theorem lift_newrow {al:List AV} (hR:R al [] (.rs 0 0 1 0 n) [byteE.bx 0 M]) (h1:al.all isPl=true):liftR R al B (.rs B.length 0 1 0 n) (B++ [byteE.bx 0 M]):=by
 refine ⟨_,_,_,_,hR,⟨[],[],[],[],[byteE.bx 0 M],rfl,rfl,(isPl_id h1 _ _).symm,isPl_low h1 _,trivial,⟨?_,trivial⟩,?_,?_,rfl⟩⟩
 ·exact .rowv (by simp[dNew])
 ·simp[outB]
 ·simp[AV.rv,fNew,dNew]

theorem lift_seerow {x:PV} (hR:R (pre++ .rs 0 0 1 0 L.length::post) [byteE.bx 0 L] (.p x) [byteE.bx 0 L]) (hb:B[b]? = some (byteE.bx v L)) (h1:pre.all isPl=true) (h2:post.all isPl=true):
  liftR R (pre++ .rs b v 1 0 L.length::post) B (.p x) B:=by
 have hlt:b<B.length:=(List.getElem?_eq_some_iff.1 hb).1
 refine ⟨_,_,_,_,hR,⟨[b],[v],[byteE.bx v L],[byteE.bx v L],[],?_,?_,?_,?_,⟨?_,trivial⟩,⟨?_,trivial⟩,?_,?_,rfl⟩⟩
 ·simp[noDup,Nat.blt_eq,hlt]
 ·simp[hb]
 ·rw[rvL_mid _ _ h1 h2]; simp[AV.rv,fNew,dNew]
 ·exact low_mid h1 h2 rfl
 ·exact .rowv (by simp[dNew])
 ·exact .rowv (by simp[dNew])
 ·rw[outB,outB,List.append_nil]
  refine (List.ext_getElem? fun j=>?_).symm
  rw[List.getElem?_set]
  split
  ·rename_i e; subst e; exact hb.symm
  ·rfl
 ·simp[AV.rv]

def pureR (g:List AV→Option AV):RSpec:=fun args B r B'=>g args=some r∧B'=B
theorem SoundF.rel {P:Program} {f:Nat} {g:List AV→Option AV} (h:SoundF P f (.pure g)):SoundR P f (pureR g):=by
 rintro args B r B' ⟨h1,rfl⟩
 exact h args _ r _ (by show (g args).map _=_; rw[h1]; rfl)
end

def envP:List (Nat×(List AV→Option AV))→Env
 | [],_=> .none
 | (i,g)::l,f=>bif Nat.beq f i then .pure g else envP l f
theorem envP_nil {P:Program}:∀ f,SoundF P f (envP [] f):=fun f=>sound_none f
theorem envP_cons {P:Program} {i:Nat} {g:List AV→Option AV} {l:List (Nat×(List AV→Option AV))} (h:SoundF P i (.pure g)) (hl:∀ f,SoundF P f (envP l f)):∀ f,SoundF P f (envP ((i,g)::l) f):=fun f=>by
 unfold envP
 cases e:Nat.beq f i with
 | true=>rw[Nat.eq_of_beq_eq_true e]; exact h
 | false=>exact hl f
def envR:List (Nat×RSpec)→REnv
 | [],_=>fun _ _ _ _=>False
 | (i,R)::l,f=>bif Nat.beq f i then R else envR l f
theorem envR_nil {P:Program}:∀ f,SoundR P f (envR [] f):=fun f=> .none f
theorem envR_cons {P:Program} {i:Nat} {R:RSpec} {l:List (Nat×RSpec)} (h:SoundR P i R) (hl:∀ f,SoundR P f (envR l f)):∀ f,SoundR P f (envR ((i,R)::l) f):=fun f=>by
 unfold envR
 cases e:Nat.beq f i with
 | true=>rw[Nat.eq_of_beq_eq_true e]; exact h
 | false=>exact hl f

theorem byte_inj:∀ {a b:List UInt8},a.map byteE.f=b.map byteE.f→a=b
 | [],[],_=>rfl
 | x::a,y::b,h=>by
  simp only[List.map_cons,List.cons.injEq] at h
  have h1:PV.v (.int .u8 (x.toNat:Int))=PV.v (.int .u8 (y.toNat:Int)):=h.1
  simp only[PV.v.injEq,Value.int.injEq,true_and] at h1
  rw[UInt8.toNat_inj.1 (by omega:x.toNat=y.toNat),byte_inj h.2]
 | [],_::_,h=>by simp at h
 | _::_,[],h=>by simp at h
end Go.Ax

namespace Go.Ax
open Go.Proofs Go.RowKit
set_option maxRecDepth 100000

def isV:PV→Bool
 | .v _=>true
 | _=>false

theorem sound_lib {f:Nat} {R:List AV→AV→Prop} (he:enters DP f=true)
  (h:∀ args r,R args r→∃ (vs:List Value) (y:Value),args=vs.map (fun v=> .p (.v v))∧(∀ (F:Nat→Prop) B ρ w,VRel F B ρ w r y) ∧
   ∀ w,(∀ g,Glob.tab g≠ []→∃ us e fr,w.heap[g]? = some (.cells us e fr)∧us.toList.map PV.v=Glob.tab g)→Calls DP f vs.toArray w fun e w'=>e= .returned y∧Below w.heap.size w w'):SoundF DP f (.pure (relG R)):=by
 intro args B r B' hs F ρ w us hI hA
 obtain ⟨r',h1,h2⟩:=map_some hs
 cases h2
 obtain ⟨vs,y,rfl,hy,hc⟩:=h _ _ (relG_some h1)
 have hus:us=vs:=by
  apply List.ext_getElem?
  intro i
  have hl:=hA.1
  simp only[List.length_map] at hl
  rcases Nat.lt_or_ge i vs.length with hi | hi
  ·have:=hA.2 i (.p (.v vs[i])) us[i] (by rw[List.getElem?_map,List.getElem?_eq_getElem hi]; rfl) (List.getElem?_eq_getElem (by omega))
   rw[List.getElem?_eq_getElem (by omega),List.getElem?_eq_getElem hi,this.val]
  ·rw[List.getElem?_eq_none hi,List.getElem?_eq_none (by omega)]
 subst hus
 refine .inl ⟨enter_run he _ _,(hc w (fun g hg=>?_)).mono fun e w' hp=>?_⟩
 ·obtain ⟨us,e,fr,g1,g2⟩:=(hI.glob g hg).sz
  refine ⟨us,e,fr,g1,?_⟩
  have hv:=(hI.glob g hg).v
  generalize hx:Glob.tab g=cs at hv g2
  have hcs:∀ p∈cs,∃ v,p=PV.v v:=by
   rw[←hx]
   have hall:∀ g,(tabG g).all isV=true:=fun g=>by
    unfold tabG
    split <;> rfl
   intro p hp
   have:=List.all_eq_true.1 (hall g) p hp
   cases p with
   | v x=>exact ⟨x,rfl⟩
   | _=>cases this
  cases hv with
  | rp _ a us' q1 q2 q3 q4 q5 q6=>
   apply List.ext_getElem?
   intro i
   rw[List.getElem?_map]
   rcases Nat.lt_or_ge i cs.length with hi | hi
   ·have hu:us'[i]? = some us'[i]:=List.getElem?_eq_getElem (by omega)
    have h5:=q5 i _ hu
    obtain ⟨v,hv⟩:=hcs cs[i] (List.getElem_mem hi)
    have h6:=q6 i _ _ (List.getElem?_eq_getElem hi) hu
    rw[hv] at h6
    cases h6
    rw[Addr.add_lit,Nat.zero_add,cell_of g1] at h5
    rw[List.getElem?_eq_getElem hi,hv,Array.getElem?_toList,h5]
    rfl
   ·rw[List.getElem?_eq_none (by simp; omega),List.getElem?_eq_none hi]; rfl
 ·obtain ⟨rfl,hb⟩:=hp
  have hsh:∀ k e n,w.shape? k=some (e,n)→w'.shape? k=some (e,n):=fun k e n h=>by
   have hk:k<w.heap.size:=by
    rcases Nat.lt_or_ge k w.heap.size with h' | h'
    ·exact h'
    ·unfold World.shape? at h
     rw[Array.getElem?_eq_none h'] at h
     cases h
   unfold World.shape? at h ⊢
   rw[hb.block k hk]
   exact h
  obtain ⟨s1,s2⟩:=stands hb.size hb.os hb.tape hb.output hsh (fun k hk=>hb.block k hk) hI
  exact ⟨y,ρ,rfl,s2,s1,hy _ _ _ _⟩

end Go.Ax
