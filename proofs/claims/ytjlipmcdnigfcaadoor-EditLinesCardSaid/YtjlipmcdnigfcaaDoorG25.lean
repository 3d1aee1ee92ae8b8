/- Trees, printed by gen/k1.py: the disk's functions, the disk laid open. -/
import Derived.Test.YtjlipmcdnigfcaaDoorG20
import Derived.Test.YtjlipmcdnigfcaaDoorG24
import Derived.Test.YtjlipmcdnigfcaaDoorG19
set_option linter.unusedVariables false
set_option linter.unusedSimpArgs false
set_option linter.unusedSectionVars false
namespace Go.Ax
open Go.Proofs Go.RowKit
set_option maxRecDepth 100000

noncomputable def TRead_d (ro:Int) (us:Int) (fu:Int) (hid:List (Value×Value)) (nm:ByteArray) (ofs:Int) (n:Int):Tree:=
.callr (some 15) (ΔF 62 [.ptr 0 0 0,vs nm] [.cells false 0 ([vi ro,vi us, .mp 1,vb true,vi fu]), .obj [] (mapP [] hid)] (.tup [.p (.v (.pointer none)),vi 10]) [.cells false 0 ([vi ro,vi us, .mp 1,vb true,vi fu]), .obj [] (mapP [] hid)]) (.tup [.p (.v (.pointer none)),vi 10]) [.cells false 0 ([vi ro,vi us, .mp 1,vb true,vi fu]), .obj [] (mapP [] hid)] (.leaf ⟨[0],[(0,0,none),(1,0,none)]⟩ [] .ret (some ([(0, .tup [nilS,vi 10])],[.cells false 0 ([vi ro,vi us, .mp 1,vb true,vi fu]), .obj [] (mapP [] hid)])))

theorem TRead_d_chk (ro:Int) (us:Int) (fu:Int) (hid:List (Value×Value)) (nm:ByteArray) (ofs:Int) (n:Int):fnC DP ΓF ΔF Tryd.f48 [.ptr 0 0 0,vs nm,vi ofs,vi n] [.cells false 0 ([vi ro,vi us, .mp 1,vb true,vi fu]), .obj [] (mapP [] hid)] (TRead_d ro us fu hid nm ofs n)=TRead_d ro us fu hid nm ofs n:=by kernel_rfl

noncomputable def TRead_a (ro:Int) (us:Int) (fu:Int) (hid:List (Value×Value)) (nm:ByteArray) (ofs:Int) (n:Int):Tree:=
.callr (some 15) (ΔF 62 [.ptr 0 0 0,vs nm] [.cells false 0 ([vi ro,vi us, .mp 1,vb false,vi fu]), .obj [] (mapP [] hid)] (.tup [.p (.v (.pointer none)),vi 4]) [.cells false 0 ([vi ro,vi us, .mp 1,vb false,vi fu]), .obj [] (mapP [] hid)]) (.tup [.p (.v (.pointer none)),vi 4]) [.cells false 0 ([vi ro,vi us, .mp 1,vb false,vi fu]), .obj [] (mapP [] hid)] (.leaf ⟨[0],[(0,0,none),(1,0,none)]⟩ [] .ret (some ([(0, .tup [nilS,vi 4])],[.cells false 0 ([vi ro,vi us, .mp 1,vb false,vi fu]), .obj [] (mapP [] hid)])))

theorem TRead_a_chk (ro:Int) (us:Int) (fu:Int) (hid:List (Value×Value)) (nm:ByteArray) (ofs:Int) (n:Int):fnC DP ΓF ΔF Tryd.f48 [.ptr 0 0 0,vs nm,vi ofs,vi n] [.cells false 0 ([vi ro,vi us, .mp 1,vb false,vi fu]), .obj [] (mapP [] hid)] (TRead_a ro us fu hid nm ofs n)=TRead_a ro us fu hid nm ofs n:=by kernel_rfl

noncomputable def TRead_p (ro:Int) (us:Int) (fu:Int) (hid:List (Value×Value)) (L:List UInt8) (su:Int) (nm:ByteArray) (ofs:Int) (n:Int):Tree:=
.callr (some 15) (ΔF 62 [.ptr 0 0 0,vs nm] [.cells false 0 ([vi ro,vi us, .mp 1,vb false,vi fu]), .obj [.ptr 2 0 0] (mapP [.string nm] hid), .cells false 0 ([.rs 3 0 1 0 L.length,vi su]),byteE.bx 0 L] (.tup [.ptr 2 0 0,vi 0]) [.cells false 0 ([vi ro,vi us, .mp 1,vb false,vi fu]), .obj [.ptr 2 0 0] (mapP [.string nm] hid), .cells false 0 ([.rs 3 0 1 0 L.length,vi su]),byteE.bx 0 L]) (.tup [.ptr 2 0 0,vi 0]) [.cells false 0 ([vi ro,vi us, .mp 1,vb false,vi fu]), .obj [.ptr 2 0 0] (mapP [.string nm] hid), .cells false 0 ([.rs 3 0 1 0 L.length,vi su]),byteE.bx 0 L] (.sp 22 (decide (ofs<(0:Int))) (
.leaf ⟨[0],[(0,0,none),(1,0,none),(2,0,none),(3,0,some (L.map byteE.f))]⟩ [rowC (L.map byteE.f)] .ret (some ([(0, .tup [nilS,vi 1])],[.cells false 0 ([vi ro,vi us, .mp 1,vb false,vi fu]), .obj [.ptr 2 0 0] (mapP [.string nm] hid), .cells false 0 ([.rs 3 0 1 0 L.length,vi su]),byteE.bx 0 L]))) (
.sp 30 (decide (ofs>((L.length:Nat):Int))) (
.leaf ⟨[0],[(0,0,none),(1,0,none),(2,0,none),(3,0,some (L.map byteE.f))]⟩ [rowC (L.map byteE.f)] .ret (some ([(0, .tup [nilS,vi 1])],[.cells false 0 ([vi ro,vi us, .mp 1,vb false,vi fu]), .obj [.ptr 2 0 0] (mapP [.string nm] hid), .cells false 0 ([.rs 3 0 1 0 L.length,vi su]),byteE.bx 0 L]))) (
.sp 34 (decide (n<(0:Int))) (
.leaf ⟨[0],[(0,0,none),(1,0,none),(2,0,none),(3,0,some (L.map byteE.f))]⟩ [rowC (L.map byteE.f)] .ret (some ([(0, .tup [nilS,vi 1])],[.cells false 0 ([vi ro,vi us, .mp 1,vb false,vi fu]), .obj [.ptr 2 0 0] (mapP [.string nm] hid), .cells false 0 ([.rs 3 0 1 0 L.length,vi su]),byteE.bx 0 L]))) (
.int 49 (IntKind.i64.wrap (((L.length:Nat):Int) - ofs)) (((L.length:Nat):Int) - ofs) (.int 51 (IntKind.i64.wrap (ofs+(if (((L.length:Nat):Int) - ofs:Int)<(n:Int) then (((L.length:Nat):Int) - ofs:Int) else (n:Int)))) (ofs+(if (((L.length:Nat):Int) - ofs:Int)<(n:Int) then (((L.length:Nat):Int) - ofs:Int) else (n:Int))) (.rcut 52 L.length (some ofs) (some (ofs+(if (((L.length:Nat):Int) - ofs:Int)<(n:Int) then (((L.length:Nat):Int) - ofs:Int) else (n:Int)))) (.appn 53 (.part (0+loN (some ofs)*1) (hiN (some (ofs+(if (((L.length:Nat):Int) - ofs:Int)<(n:Int) then (((L.length:Nat):Int) - ofs:Int) else (n:Int)))) L.length - loN (some ofs)) (rowC (L.map byteE.f))) byteE (cutL (some ofs) (some (ofs+(if (((L.length:Nat):Int) - ofs:Int)<(n:Int) then (((L.length:Nat):Int) - ofs:Int) else (n:Int)))) L) (.leaf ⟨[0],[(0,0,none),(1,0,none),(2,0,none),(3,0,some (L.map byteE.f)),(4,0,some ((cutL (some ofs) (some (ofs+(if (((L.length:Nat):Int) - ofs:Int)<(n:Int) then (((L.length:Nat):Int) - ofs:Int) else (n:Int)))) L).map byteE.f))]⟩ [rowC (L.map byteE.f),rowC ((cutL (some ofs) (some (ofs+(if (((L.length:Nat):Int) - ofs:Int)<(n:Int) then (((L.length:Nat):Int) - ofs:Int) else (n:Int)))) L).map byteE.f)] .ret (some ([(0, .tup [.rs 4 0 1 0 ((cutL (some ofs) (some (ofs+(if (((L.length:Nat):Int) - ofs:Int)<(n:Int) then (((L.length:Nat):Int) - ofs:Int) else (n:Int)))) L).length),vi 0])],[.cells false 0 ([vi ro,vi us, .mp 1,vb false,vi fu]), .obj [.ptr 2 0 0] (mapP [.string nm] hid), .cells false 0 ([.rs 3 0 1 0 L.length,vi su]),byteE.bx 0 L,byteE.bx 0 (cutL (some ofs) (some (ofs+(if (((L.length:Nat):Int) - ofs:Int)<(n:Int) then (((L.length:Nat):Int) - ofs:Int) else (n:Int)))) L)]))))))))))

theorem TRead_p_chk (ro:Int) (us:Int) (fu:Int) (hid:List (Value×Value)) (L:List UInt8) (su:Int) (nm:ByteArray) (ofs:Int) (n:Int):fnC DP ΓF ΔF Tryd.f48 [.ptr 0 0 0,vs nm,vi ofs,vi n] [.cells false 0 ([vi ro,vi us, .mp 1,vb false,vi fu]), .obj [.ptr 2 0 0] (mapP [.string nm] hid), .cells false 0 ([.rs 3 0 1 0 L.length,vi su]),byteE.bx 0 L] (TRead_p ro us fu hid L su nm ofs n)=TRead_p ro us fu hid L su nm ofs n:=by kernel_rfl

noncomputable def TRoom_t (ro:Int) (us:Int) (fu:Int) (hid:List (Value×Value)):Tree:=
.int 13 (IntKind.i64.wrap (ro - us)) (ro - us) (.leaf ⟨[0],[(0,0,none),(1,0,none)]⟩ [] .ret (some ([(0,vi (ro - us))],[.cells false 0 ([vi ro,vi us, .mp 1,vb true,vi fu]), .obj [] (mapP [] hid)])))

theorem TRoom_t_chk (ro:Int) (us:Int) (fu:Int) (hid:List (Value×Value)):fnC DP ΓF ΔF Tryd.f25 [.ptr 0 0 0] [.cells false 0 ([vi ro,vi us, .mp 1,vb true,vi fu]), .obj [] (mapP [] hid)] (TRoom_t ro us fu hid)=TRoom_t ro us fu hid:=by kernel_rfl

noncomputable def TRoom_f (ro:Int) (us:Int) (fu:Int) (hid:List (Value×Value)):Tree:=
.int 13 (IntKind.i64.wrap (ro - us)) (ro - us) (.leaf ⟨[0],[(0,0,none),(1,0,none)]⟩ [] .ret (some ([(0,vi (ro - us))],[.cells false 0 ([vi ro,vi us, .mp 1,vb false,vi fu]), .obj [] (mapP [] hid)])))

theorem TRoom_f_chk (ro:Int) (us:Int) (fu:Int) (hid:List (Value×Value)):fnC DP ΓF ΔF Tryd.f25 [.ptr 0 0 0] [.cells false 0 ([vi ro,vi us, .mp 1,vb false,vi fu]), .obj [] (mapP [] hid)] (TRoom_f ro us fu hid)=TRoom_f ro us fu hid:=by kernel_rfl

noncomputable def TDown_t (ro:Int) (us:Int) (fu:Int) (hid:List (Value×Value)):Tree:=
.leaf ⟨[0],[(0,0,none),(1,0,none)]⟩ [] .ret (some ([(0,vb true)],[.cells false 0 ([vi ro,vi us, .mp 1,vb true,vi fu]), .obj [] (mapP [] hid)]))

theorem TDown_t_chk (ro:Int) (us:Int) (fu:Int) (hid:List (Value×Value)):fnC DP ΓF ΔF Tryd.f55 [.ptr 0 0 0] [.cells false 0 ([vi ro,vi us, .mp 1,vb true,vi fu]), .obj [] (mapP [] hid)] (TDown_t ro us fu hid)=TDown_t ro us fu hid:=by kernel_rfl

noncomputable def TDown_f (ro:Int) (us:Int) (fu:Int) (hid:List (Value×Value)):Tree:=
.leaf ⟨[0],[(0,0,none),(1,0,none)]⟩ [] .ret (some ([(0,vb false)],[.cells false 0 ([vi ro,vi us, .mp 1,vb false,vi fu]), .obj [] (mapP [] hid)]))

theorem TDown_f_chk (ro:Int) (us:Int) (fu:Int) (hid:List (Value×Value)):fnC DP ΓF ΔF Tryd.f55 [.ptr 0 0 0] [.cells false 0 ([vi ro,vi us, .mp 1,vb false,vi fu]), .obj [] (mapP [] hid)] (TDown_f ro us fu hid)=TDown_f ro us fu hid:=by kernel_rfl

noncomputable def TRename_d (ro:Int) (us:Int) (fu:Int) (hid:List (Value×Value)) (nm:ByteArray) (nn:ByteArray):Tree:=
.call 16 (gNamed [vs nn]=some (vb (isName nn))) (vb (isName nn)) (.sp 16 (isName nn) (
.callr (some 22) (ΔF 62 [.ptr 0 0 0,vs nm] [.cells false 0 ([vi ro,vi us, .mp 1,vb true,vi fu]), .obj [] (mapP [] hid)] (.tup [.p (.v (.pointer none)),vi 10]) [.cells false 0 ([vi ro,vi us, .mp 1,vb true,vi fu]), .obj [] (mapP [] hid)]) (.tup [.p (.v (.pointer none)),vi 10]) [.cells false 0 ([vi ro,vi us, .mp 1,vb true,vi fu]), .obj [] (mapP [] hid)] (.leaf ⟨[0],[(0,0,none),(1,0,none)]⟩ [] .ret (some ([(0,vi 10)],[.cells false 0 ([vi ro,vi us, .mp 1,vb true,vi fu]), .obj [] (mapP [] hid)])))) (
.leaf ⟨[0],[(0,0,none),(1,0,none)]⟩ [] .ret (some ([(0,vi 1)],[.cells false 0 ([vi ro,vi us, .mp 1,vb true,vi fu]), .obj [] (mapP [] hid)]))))

theorem TRename_d_chk (ro:Int) (us:Int) (fu:Int) (hid:List (Value×Value)) (nm:ByteArray) (nn:ByteArray):fnC DP ΓF ΔF Tryd.f99 [.ptr 0 0 0,vs nm,vs nn] [.cells false 0 ([vi ro,vi us, .mp 1,vb true,vi fu]), .obj [] (mapP [] hid)] (TRename_d ro us fu hid nm nn)=TRename_d ro us fu hid nm nn:=by kernel_rfl

noncomputable def TRename_a (ro:Int) (us:Int) (fu:Int) (hid:List (Value×Value)) (nm:ByteArray) (nn:ByteArray):Tree:=
.call 16 (gNamed [vs nn]=some (vb (isName nn))) (vb (isName nn)) (.sp 16 (isName nn) (
.callr (some 22) (ΔF 62 [.ptr 0 0 0,vs nm] [.cells false 0 ([vi ro,vi us, .mp 1,vb false,vi fu]), .obj [] (mapP [] hid)] (.tup [.p (.v (.pointer none)),vi 4]) [.cells false 0 ([vi ro,vi us, .mp 1,vb false,vi fu]), .obj [] (mapP [] hid)]) (.tup [.p (.v (.pointer none)),vi 4]) [.cells false 0 ([vi ro,vi us, .mp 1,vb false,vi fu]), .obj [] (mapP [] hid)] (.leaf ⟨[0],[(0,0,none),(1,0,none)]⟩ [] .ret (some ([(0,vi 4)],[.cells false 0 ([vi ro,vi us, .mp 1,vb false,vi fu]), .obj [] (mapP [] hid)])))) (
.leaf ⟨[0],[(0,0,none),(1,0,none)]⟩ [] .ret (some ([(0,vi 1)],[.cells false 0 ([vi ro,vi us, .mp 1,vb false,vi fu]), .obj [] (mapP [] hid)]))))

theorem TRename_a_chk (ro:Int) (us:Int) (fu:Int) (hid:List (Value×Value)) (nm:ByteArray) (nn:ByteArray):fnC DP ΓF ΔF Tryd.f99 [.ptr 0 0 0,vs nm,vs nn] [.cells false 0 ([vi ro,vi us, .mp 1,vb false,vi fu]), .obj [] (mapP [] hid)] (TRename_a ro us fu hid nm nn)=TRename_a ro us fu hid nm nn:=by kernel_rfl

noncomputable def TRename_p (ro:Int) (us:Int) (fu:Int) (hid:List (Value×Value)) (L:List UInt8) (su:Int) (nm:ByteArray) (nn:ByteArray):Tree:=
.call 16 (gNamed [vs nn]=some (vb (isName nn))) (vb (isName nn)) (.sp 16 (isName nn) (
.callr (some 22) (ΔF 62 [.ptr 0 0 0,vs nm] [.cells false 0 ([vi ro,vi us, .mp 1,vb false,vi fu]), .obj [.ptr 2 0 0] (mapP [.string nm] hid), .cells false 0 ([.rs 3 0 1 0 L.length,vi su]),byteE.bx 0 L] (.tup [.ptr 2 0 0,vi 0]) [.cells false 0 ([vi ro,vi us, .mp 1,vb false,vi fu]), .obj [.ptr 2 0 0] (mapP [.string nm] hid), .cells false 0 ([.rs 3 0 1 0 L.length,vi su]),byteE.bx 0 L]) (.tup [.ptr 2 0 0,vi 0]) [.cells false 0 ([vi ro,vi us, .mp 1,vb false,vi fu]), .obj [.ptr 2 0 0] (mapP [.string nm] hid), .cells false 0 ([.rs 3 0 1 0 L.length,vi su]),byteE.bx 0 L] (.callr (some 29) (ΔF 65 [.ptr 0 0 0] [.cells false 0 ([vi ro,vi us, .mp 1,vb false,vi fu]), .obj [.ptr 2 0 0] (mapP [.string nm] hid), .cells false 0 ([.rs 3 0 1 0 L.length,vi su]),byteE.bx 0 L] (vi (stE fu)) [.cells false 0 ([vi ro,vi us, .mp 1,vb (stD fu),vi (stF fu)]), .obj [.ptr 2 0 0] (mapP [.string nm] hid), .cells false 0 ([.rs 3 0 1 0 L.length,vi su]),byteE.bx 0 L]) (vi (stE fu)) [.cells false 0 ([vi ro,vi us, .mp 1,vb (stD fu),vi (stF fu)]), .obj [.ptr 2 0 0] (mapP [.string nm] hid), .cells false 0 ([.rs 3 0 1 0 L.length,vi su]),byteE.bx 0 L] (.sp 31 ((stE fu) != (0:Int)) (
.leaf ⟨[0],[(0,0,none),(1,0,none),(2,0,none),(3,0,some (L.map byteE.f))]⟩ [rowC (L.map byteE.f)] .ret (some ([(0,vi (stE fu))],[.cells false 0 ([vi ro,vi us, .mp 1,vb (stD fu),vi (stF fu)]), .obj [.ptr 2 0 0] (mapP [.string nm] hid), .cells false 0 ([.rs 3 0 1 0 L.length,vi su]),byteE.bx 0 L]))) (
.sp 35 (nm.toList == nn.toList) (
.leaf ⟨[0],[(0,0,none),(1,0,none),(2,0,none),(3,0,some (L.map byteE.f))]⟩ [rowC (L.map byteE.f)] .ret (some ([(0,vi 0)],[.cells false 0 ([vi ro,vi us, .mp 1,vb (stD fu),vi (stF fu)]), .obj [.ptr 2 0 0] (mapP [.string nm] hid), .cells false 0 ([.rs 3 0 1 0 L.length,vi su]),byteE.bx 0 L]))) (
.val (some 42) (LookE DP 88 [.cells false 0 ([vi ro,vi us, .mp 1,vb (stD fu),vi (stF fu)]), .obj [.ptr 2 0 0] (mapP [.string nm] hid), .cells false 0 ([.rs 3 0 1 0 L.length,vi su]),byteE.bx 0 L] (.mp 1) (vs nn) (.tup [.p (.v (.pointer none)),vb false])) (.tup [.p (.v (.pointer none)),vb false]) [.cells false 0 ([vi ro,vi us, .mp 1,vb (stD fu),vi (stF fu)]), .obj [.ptr 2 0 0] (mapP [.string nm] hid), .cells false 0 ([.rs 3 0 1 0 L.length,vi su]),byteE.bx 0 L] (.val none (UpdE DP 88 [.cells false 0 ([vi ro,vi us, .mp 1,vb (stD fu),vi (stF fu)]), .obj [.ptr 2 0 0] (mapP [.string nm] hid), .cells false 0 ([.rs 3 0 1 0 L.length,vi su]),byteE.bx 0 L] (.mp 1) (vs nn) (.ptr 2 0 0) [.cells false 0 ([vi ro,vi us, .mp 1,vb (stD fu),vi (stF fu)]), .obj [.ptr 2 0 0, .ptr 2 0 0] (mapP [.string nm, .string nn] hid), .cells false 0 ([.rs 3 0 1 0 L.length,vi su]),byteE.bx 0 L]) (.u) [.cells false 0 ([vi ro,vi us, .mp 1,vb (stD fu),vi (stF fu)]), .obj [.ptr 2 0 0, .ptr 2 0 0] (mapP [.string nm, .string nn] hid), .cells false 0 ([.rs 3 0 1 0 L.length,vi su]),byteE.bx 0 L] (.val none (DelE DP 88 [.cells false 0 ([vi ro,vi us, .mp 1,vb (stD fu),vi (stF fu)]), .obj [.ptr 2 0 0, .ptr 2 0 0] (mapP [.string nm, .string nn] hid), .cells false 0 ([.rs 3 0 1 0 L.length,vi su]),byteE.bx 0 L] (.mp 1) (vs nm) [.cells false 0 ([vi ro,vi us, .mp 1,vb (stD fu),vi (stF fu)]), .obj [.ptr 2 0 0] (mapP [.string nn] hid), .cells false 0 ([.rs 3 0 1 0 L.length,vi su]),byteE.bx 0 L]) (.tup []) [.cells false 0 ([vi ro,vi us, .mp 1,vb (stD fu),vi (stF fu)]), .obj [.ptr 2 0 0] (mapP [.string nn] hid), .cells false 0 ([.rs 3 0 1 0 L.length,vi su]),byteE.bx 0 L] (.leaf ⟨[0],[(0,0,none),(1,0,none),(2,0,none),(3,0,some (L.map byteE.f))]⟩ [rowC (L.map byteE.f)] .ret (some ([(0,vi 0)],[.cells false 0 ([vi ro,vi us, .mp 1,vb (stD fu),vi (stF fu)]), .obj [.ptr 2 0 0] (mapP [.string nn] hid), .cells false 0 ([.rs 3 0 1 0 L.length,vi su]),byteE.bx 0 L])))))))))) (
.leaf ⟨[0],[(0,0,none),(1,0,none),(2,0,none),(3,0,some (L.map byteE.f))]⟩ [rowC (L.map byteE.f)] .ret (some ([(0,vi 1)],[.cells false 0 ([vi ro,vi us, .mp 1,vb false,vi fu]), .obj [.ptr 2 0 0] (mapP [.string nm] hid), .cells false 0 ([.rs 3 0 1 0 L.length,vi su]),byteE.bx 0 L]))))

theorem TRename_p_chk (ro:Int) (us:Int) (fu:Int) (hid:List (Value×Value)) (L:List UInt8) (su:Int) (nm:ByteArray) (nn:ByteArray):fnC DP ΓF ΔF Tryd.f99 [.ptr 0 0 0,vs nm,vs nn] [.cells false 0 ([vi ro,vi us, .mp 1,vb false,vi fu]), .obj [.ptr 2 0 0] (mapP [.string nm] hid), .cells false 0 ([.rs 3 0 1 0 L.length,vi su]),byteE.bx 0 L] (TRename_p ro us fu hid L su nm nn)=TRename_p ro us fu hid L su nm nn:=by kernel_rfl

noncomputable def TRename_q (ro:Int) (us:Int) (fu:Int) (hid:List (Value×Value)) (L:List UInt8) (su:Int) (M:List UInt8) (sv:Int) (nm:ByteArray) (nn:ByteArray):Tree:=
.call 16 (gNamed [vs nn]=some (vb (isName nn))) (vb (isName nn)) (.sp 16 (isName nn) (
.callr (some 22) (ΔF 62 [.ptr 0 0 0,vs nm] [.cells false 0 ([vi ro,vi us, .mp 1,vb false,vi fu]), .obj [.ptr 2 0 0, .ptr 4 0 0] (mapP [.string nm, .string nn] hid), .cells false 0 ([.rs 3 0 1 0 L.length,vi su]),byteE.bx 0 L, .cells false 0 ([.rs 5 0 1 0 M.length,vi sv]),byteE.bx 0 M] (.tup [.ptr 2 0 0,vi 0]) [.cells false 0 ([vi ro,vi us, .mp 1,vb false,vi fu]), .obj [.ptr 2 0 0, .ptr 4 0 0] (mapP [.string nm, .string nn] hid), .cells false 0 ([.rs 3 0 1 0 L.length,vi su]),byteE.bx 0 L, .cells false 0 ([.rs 5 0 1 0 M.length,vi sv]),byteE.bx 0 M]) (.tup [.ptr 2 0 0,vi 0]) [.cells false 0 ([vi ro,vi us, .mp 1,vb false,vi fu]), .obj [.ptr 2 0 0, .ptr 4 0 0] (mapP [.string nm, .string nn] hid), .cells false 0 ([.rs 3 0 1 0 L.length,vi su]),byteE.bx 0 L, .cells false 0 ([.rs 5 0 1 0 M.length,vi sv]),byteE.bx 0 M] (.callr (some 29) (ΔF 65 [.ptr 0 0 0] [.cells false 0 ([vi ro,vi us, .mp 1,vb false,vi fu]), .obj [.ptr 2 0 0, .ptr 4 0 0] (mapP [.string nm, .string nn] hid), .cells false 0 ([.rs 3 0 1 0 L.length,vi su]),byteE.bx 0 L, .cells false 0 ([.rs 5 0 1 0 M.length,vi sv]),byteE.bx 0 M] (vi (stE fu)) [.cells false 0 ([vi ro,vi us, .mp 1,vb (stD fu),vi (stF fu)]), .obj [.ptr 2 0 0, .ptr 4 0 0] (mapP [.string nm, .string nn] hid), .cells false 0 ([.rs 3 0 1 0 L.length,vi su]),byteE.bx 0 L, .cells false 0 ([.rs 5 0 1 0 M.length,vi sv]),byteE.bx 0 M]) (vi (stE fu)) [.cells false 0 ([vi ro,vi us, .mp 1,vb (stD fu),vi (stF fu)]), .obj [.ptr 2 0 0, .ptr 4 0 0] (mapP [.string nm, .string nn] hid), .cells false 0 ([.rs 3 0 1 0 L.length,vi su]),byteE.bx 0 L, .cells false 0 ([.rs 5 0 1 0 M.length,vi sv]),byteE.bx 0 M] (.sp 31 ((stE fu) != (0:Int)) (
.leaf ⟨[0],[(0,0,none),(1,0,none),(2,0,none),(3,0,some (L.map byteE.f)),(4,0,none),(5,0,some (M.map byteE.f))]⟩ [rowC (L.map byteE.f),rowC (M.map byteE.f)] .ret (some ([(0,vi (stE fu))],[.cells false 0 ([vi ro,vi us, .mp 1,vb (stD fu),vi (stF fu)]), .obj [.ptr 2 0 0, .ptr 4 0 0] (mapP [.string nm, .string nn] hid), .cells false 0 ([.rs 3 0 1 0 L.length,vi su]),byteE.bx 0 L, .cells false 0 ([.rs 5 0 1 0 M.length,vi sv]),byteE.bx 0 M]))) (
.sp 35 (nm.toList == nn.toList) (
.leaf ⟨[0],[(0,0,none),(1,0,none),(2,0,none),(3,0,some (L.map byteE.f)),(4,0,none),(5,0,some (M.map byteE.f))]⟩ [rowC (L.map byteE.f),rowC (M.map byteE.f)] .ret (some ([(0,vi 0)],[.cells false 0 ([vi ro,vi us, .mp 1,vb (stD fu),vi (stF fu)]), .obj [.ptr 2 0 0, .ptr 4 0 0] (mapP [.string nm, .string nn] hid), .cells false 0 ([.rs 3 0 1 0 L.length,vi su]),byteE.bx 0 L, .cells false 0 ([.rs 5 0 1 0 M.length,vi sv]),byteE.bx 0 M]))) (
.val (some 42) (LookE DP 88 [.cells false 0 ([vi ro,vi us, .mp 1,vb (stD fu),vi (stF fu)]), .obj [.ptr 2 0 0, .ptr 4 0 0] (mapP [.string nm, .string nn] hid), .cells false 0 ([.rs 3 0 1 0 L.length,vi su]),byteE.bx 0 L, .cells false 0 ([.rs 5 0 1 0 M.length,vi sv]),byteE.bx 0 M] (.mp 1) (vs nn) (.tup [.ptr 4 0 0,vb true])) (.tup [.ptr 4 0 0,vb true]) [.cells false 0 ([vi ro,vi us, .mp 1,vb (stD fu),vi (stF fu)]), .obj [.ptr 2 0 0, .ptr 4 0 0] (mapP [.string nm, .string nn] hid), .cells false 0 ([.rs 3 0 1 0 L.length,vi su]),byteE.bx 0 L, .cells false 0 ([.rs 5 0 1 0 M.length,vi sv]),byteE.bx 0 M] (.int 55 (IntKind.i64.wrap (us - ((M.length:Nat):Int))) (us - ((M.length:Nat):Int)) (.val none (UpdE DP 88 [.cells false 0 ([vi ro,vi (us - ((M.length:Nat):Int)), .mp 1,vb (stD fu),vi (stF fu)]), .obj [.ptr 2 0 0, .ptr 4 0 0] (mapP [.string nm, .string nn] hid), .cells false 0 ([.rs 3 0 1 0 L.length,vi su]),byteE.bx 0 L, .cells false 0 ([.rs 5 0 1 0 M.length,vi sv]),byteE.bx 0 M] (.mp 1) (vs nn) (.ptr 2 0 0) [.cells false 0 ([vi ro,vi (us - ((M.length:Nat):Int)), .mp 1,vb (stD fu),vi (stF fu)]), .obj [.ptr 2 0 0, .ptr 2 0 0] (mapP [.string nm, .string nn] hid), .cells false 0 ([.rs 3 0 1 0 L.length,vi su]),byteE.bx 0 L, .cells false 0 ([.rs 5 0 1 0 M.length,vi sv]),byteE.bx 0 M]) (.u) [.cells false 0 ([vi ro,vi (us - ((M.length:Nat):Int)), .mp 1,vb (stD fu),vi (stF fu)]), .obj [.ptr 2 0 0, .ptr 2 0 0] (mapP [.string nm, .string nn] hid), .cells false 0 ([.rs 3 0 1 0 L.length,vi su]),byteE.bx 0 L, .cells false 0 ([.rs 5 0 1 0 M.length,vi sv]),byteE.bx 0 M] (.val none (DelE DP 88 [.cells false 0 ([vi ro,vi (us - ((M.length:Nat):Int)), .mp 1,vb (stD fu),vi (stF fu)]), .obj [.ptr 2 0 0, .ptr 2 0 0] (mapP [.string nm, .string nn] hid), .cells false 0 ([.rs 3 0 1 0 L.length,vi su]),byteE.bx 0 L, .cells false 0 ([.rs 5 0 1 0 M.length,vi sv]),byteE.bx 0 M] (.mp 1) (vs nm) [.cells false 0 ([vi ro,vi (us - ((M.length:Nat):Int)), .mp 1,vb (stD fu),vi (stF fu)]), .obj [.ptr 2 0 0] (mapP [.string nn] hid), .cells false 0 ([.rs 3 0 1 0 L.length,vi su]),byteE.bx 0 L, .cells false 0 ([.rs 5 0 1 0 M.length,vi sv]),byteE.bx 0 M]) (.tup []) [.cells false 0 ([vi ro,vi (us - ((M.length:Nat):Int)), .mp 1,vb (stD fu),vi (stF fu)]), .obj [.ptr 2 0 0] (mapP [.string nn] hid), .cells false 0 ([.rs 3 0 1 0 L.length,vi su]),byteE.bx 0 L, .cells false 0 ([.rs 5 0 1 0 M.length,vi sv]),byteE.bx 0 M] (.leaf ⟨[0],[(0,0,none),(1,0,none),(2,0,none),(3,0,some (L.map byteE.f)),(4,0,none),(5,0,some (M.map byteE.f))]⟩ [rowC (L.map byteE.f),rowC (M.map byteE.f)] .ret (some ([(0,vi 0)],[.cells false 0 ([vi ro,vi (us - ((M.length:Nat):Int)), .mp 1,vb (stD fu),vi (stF fu)]), .obj [.ptr 2 0 0] (mapP [.string nn] hid), .cells false 0 ([.rs 3 0 1 0 L.length,vi su]),byteE.bx 0 L, .cells false 0 ([.rs 5 0 1 0 M.length,vi sv]),byteE.bx 0 M]))))))))))) (
.leaf ⟨[0],[(0,0,none),(1,0,none),(2,0,none),(3,0,some (L.map byteE.f)),(4,0,none),(5,0,some (M.map byteE.f))]⟩ [rowC (L.map byteE.f),rowC (M.map byteE.f)] .ret (some ([(0,vi 1)],[.cells false 0 ([vi ro,vi us, .mp 1,vb false,vi fu]), .obj [.ptr 2 0 0, .ptr 4 0 0] (mapP [.string nm, .string nn] hid), .cells false 0 ([.rs 3 0 1 0 L.length,vi su]),byteE.bx 0 L, .cells false 0 ([.rs 5 0 1 0 M.length,vi sv]),byteE.bx 0 M]))))

theorem TRename_q_chk (ro:Int) (us:Int) (fu:Int) (hid:List (Value×Value)) (L:List UInt8) (su:Int) (M:List UInt8) (sv:Int) (nm:ByteArray) (nn:ByteArray):fnC DP ΓF ΔF Tryd.f99 [.ptr 0 0 0,vs nm,vs nn] [.cells false 0 ([vi ro,vi us, .mp 1,vb false,vi fu]), .obj [.ptr 2 0 0, .ptr 4 0 0] (mapP [.string nm, .string nn] hid), .cells false 0 ([.rs 3 0 1 0 L.length,vi su]),byteE.bx 0 L, .cells false 0 ([.rs 5 0 1 0 M.length,vi sv]),byteE.bx 0 M] (TRename_q ro us fu hid L su M sv nm nn)=TRename_q ro us fu hid L su M sv nm nn:=by kernel_rfl

noncomputable def TNew (n:Int):Tree:=
.leaf ⟨[0],[(1,0,none),(0,0,none)]⟩ [] .ret (some ([(0, .ptr 0 0 0)],[.cells false 0 ([vi (if (0:Int)<((if (67108864:Int)<(n:Int) then (67108864:Int) else (n:Int)):Int) then ((if (67108864:Int)<(n:Int) then (67108864:Int) else (n:Int)):Int) else (0:Int)),vi 0, .mp 1,vb false,vi 0]), .obj [] (mapP [] [])]))

theorem TNew_chk (n:Int):fnC DP ΓF ΔF Tryd.f15 [vi n] [] (TNew n)=TNew n:=by kernel_rfl

end Go.Ax

namespace Go.Ax
open Go.Proofs Go.RowKit
set_option maxRecDepth 100000

theorem obAR {fn:Func} {D:Dsk} {al:List AV} {bs:List UInt8} {e:Int} (hal:al.all isP=true)
  (h:∀ hid,hid.map (·.1)=strsV (D.files.map (·.name))→RG fn (.ptr 0 0 0::al) (flatB D [] hid) (.tup [.rs 2 0 1 0 bs.length,vi e]) (flatB D [] hid++ [rowB 0 bs])):
  diskR (RG fn) (.op 0::al) [.obj [] (diskP D)] (.tup [.rs 1 0 1 0 bs.length,vi e]) [.obj [] (diskP D),rowB 0 bs]:=by
 refine ⟨D,D,[],D.files,[],[],[(2,0,bs)],al, .tup [.rs 0 0 1 0 bs.length,vi e], .refl _,al_ok hal,by rw[al_id hal],rfl,fun hid hh=>⟨flatB D [] hid++ [rowB 0 bs],?_,⟨rfl,rfl,fun i hi=>(nomatch hi),by simp,fun z hz=>?_,fun b hb=>absurd hb (by simp)⟩⟩, .refl _,rfl,rfl,rfl,rfl⟩
 ·rw[al_id hal]
  exact h hid (by rw[hh]; simp[keysOf])
 ·rcases List.mem_cons.1 hz with rfl | hz
  ·rfl
  ·cases hz

theorem obPR {fn:Func} {D:Dsk} {x:Fil} {al:List AV} {bs:List UInt8} {e:Int} (ok:(D.files.map (·.name)).Nodup) (hx:x∈D.files) (hal:al.all isP=true)
  (h:∀ hid,hid.map (·.1)=strsV ((delF D.files x.name).map (·.name))→RG fn (.ptr 0 0 0::al) (flatB D [x] hid) (.tup [.rs 4 0 1 0 bs.length,vi e]) (flatB D [x] hid++ [rowB 0 bs])):
  diskR (RG fn) (.op 0::al) [.obj [] (diskP D)] (.tup [.rs 1 0 1 0 bs.length,vi e]) [.obj [] (diskP D),rowB 0 bs]:=by
 refine ⟨D,D,[x],delF D.files x.name,[],[⟨x,2,3,0⟩],[(4,0,bs)],al, .tup [.rs 0 0 1 0 bs.length,vi e],delF_perm ok hx,al_ok hal,by rw[al_id hal],rfl,fun hid hh=>⟨flatB D [x] hid++ [rowB 0 bs],?_,⟨rfl,rfl,fun i hi=>?_,by simp,fun z hz=>?_,fun b hb=>absurd hb (by simp)⟩⟩,(delF_perm ok hx).symm,rfl,rfl,rfl,rfl⟩
 ·rw[al_id hal]
  exact h hid (by rw[hh]; simp[keysOf])
 ·rcases List.mem_cons.1 hi with rfl | hi
  ·exact ⟨rfl,rfl⟩
  ·cases hi
 ·rcases List.mem_cons.1 hz with rfl | hz
  ·rfl
  ·cases hz

def ORead:RSpec:=fun args B r B'=>∃ (D:Dsk) (nm:ByteArray) (ofs n:Int),D.Ok∧args= [.op 0,vs nm,vi ofs,vi n]∧B= [.obj [] (diskP D)] ∧
 r= .tup [.rs 1 0 1 0 (readD D nm ofs n).1.length,vi (readD D nm ofs n).2]∧B'= [.obj [] (diskP D),rowB 0 (readD D nm ofs n).1]

theorem rowByte (bs:List UInt8):rowC (bs.map byteE.f)=bs.map byteA:=(byteCells bs).symm

theorem row_part (bs:List UInt8) (lo k k':Nat) {n:Nat} (hn:n=k') (hk:k'=min k (bs.length - lo)):
  ((rowC (bs.map byteE.f)).drop (0+lo*1)).take (n*byteE.sz)=rowC (((bs.drop lo).take k).map byteE.f):=by
 subst hn
 rw[rowByte,rowByte,←List.map_drop,←List.map_take]
 congr 1
 show ((bs.drop (0+lo*1)).take (n*1))=_
 rw[show 0+lo*1=lo from by omega,Nat.mul_one,hk]
 rw[←List.length_drop,List.take_eq_take_iff]
 omega

theorem cut_read (L:List UInt8) (ofs n:Int) (h1:0≤ofs) (h2:ofs≤(L.length:Int)) (h3:0≤n):
  cutL (some ofs) (some (ofs+(if (((L.length:Nat):Int) - ofs:Int)<(n:Int) then (((L.length:Nat):Int) - ofs:Int) else (n:Int)))) L=(L.drop ofs.toNat).take (min n (L.length - ofs)).toNat:=by
 show (L.take _).drop ofs.toNat=_
 rw[List.drop_take]
 congr 1
 split <;> omega

theorem SRead:SoundR DP iRead ORead:=(SO hfRead heRead hbRead).mono (by
 rintro args B r B' ⟨D,nm,ofs,n,ok,rfl,rfl,rfl,rfl⟩
 obtain ⟨b1,b2,b3⟩:=ok.bnd
 obtain ⟨ro,us,fs,dn,fu⟩:=D
 cases dn with
 | true=>
  refine obAR (bs:= []) (e:=10) (al:= [vs nm,vi ofs,vi n]) rfl (fun hid hh=> .inr (.inr ⟨flatB (dsk ro us fu true) [] hid,vi 10,⟨by rw[hnRead]; rfl,_,TRead_d_chk ro us fu hid nm ofs n,?_⟩,rfl,rfl⟩))
  unfold TRead_d
  exact wp_callr (dFind (.d ro us fu hid nm) []) (wp_leaf rfl ⟨rfl,rfl⟩)
 | false=>
  cases hg:(⟨ro,us,fs,false,fu⟩:Dsk).get nm with
  | none=>
   have hno:=get_none hg
   have h2:readD ⟨ro,us,fs,false,fu⟩ nm ofs n=([],4):=by unfold readD; rw[if_neg (by simp)]; simp only[hg]
   rw[h2]
   refine obAR (bs:= []) (e:=4) (al:= [vs nm,vi ofs,vi n]) rfl (fun hid hh=> .inr (.inr ⟨flatB (dsk ro us fu false) [] hid,vi 4,⟨by rw[hnRead]; rfl,_,TRead_a_chk ro us fu hid nm ofs n,?_⟩,rfl,rfl⟩))
   unfold TRead_a
   exact wp_callr (dFind (.a ro us fu hid _ nm hh hno) []) (wp_leaf rfl ⟨rfl,rfl⟩)
  | some x=>
   obtain ⟨hx,rfl⟩:=get_some hg
   have hxl:=b3 x hx
   simp only at b1 b2 hxl
   by_cases hbad:ofs<0∨ofs>x.b.length∨n<0
   ·have h2:readD ⟨ro,us,fs,false,fu⟩ x.name ofs n=([],1):=by unfold readD; rw[if_neg (by simp)]; simp only[hg,hbad,if_true]
    rw[h2]
    refine obPR (bs:= []) (e:=1) (al:= [vs x.name,vi ofs,vi n]) ok.nod hx rfl (fun hid hh=> .inr (.inr ⟨flatB (dsk ro us fu false) [x] hid,vi 1,⟨by rw[hnRead]; rfl,_,TRead_p_chk ro us fu hid x.b x.sure x.name ofs n,?_⟩,rfl,rfl⟩))
    unfold TRead_p
    refine wp_callr (dFind (.p ro us fu hid _ x hh) []) (wp_sp (fun h=>wp_leaf rfl ⟨rfl,rfl⟩) (fun h1=>wp_sp (fun h=>wp_leaf rfl ⟨rfl,rfl⟩) (fun h2=>wp_sp (fun h=>wp_leaf rfl ⟨rfl,rfl⟩) (fun h3=>?_))))
    have h1:=of_decide_eq_false h1
    have h2:=of_decide_eq_false h2
    have h3:=of_decide_eq_false h3
    omega
   ·have h2:readD ⟨ro,us,fs,false,fu⟩ x.name ofs n=((x.b.drop ofs.toNat).take (min n (x.b.length - ofs)).toNat,0):=by unfold readD; rw[if_neg (by simp)]; simp only[hg,hbad,if_false]
    rw[h2]
    have hc:=cut_read x.b ofs n (by omega) (by omega) (by omega)
    simp only
    rw[←hc]
    refine obPR (e:=0) (al:= [vs x.name,vi ofs,vi n]) ok.nod hx rfl (fun hid hh=> .inl ⟨by rw[hnRead]; rfl,_,TRead_p_chk ro us fu hid x.b x.sure x.name ofs n,?_⟩)
    unfold TRead_p
    have hlen:(cutL (some ofs) (some (ofs+(if (((x.b.length:Nat):Int) - ofs:Int)<(n:Int) then (((x.b.length:Nat):Int) - ofs:Int) else (n:Int)))) x.b).length≤x.b.length:=by
     rw[hc]; simp only[List.length_take,List.length_drop]; omega
    refine wp_callr (dFind (.p ro us fu hid _ x hh) []) (wp_sp (fun h=>absurd (of_decide_eq_true h) (by omega)) (fun h1=>wp_sp (fun h=>absurd (of_decide_eq_true h) (by omega)) (fun h2=>wp_sp (fun h=>absurd (of_decide_eq_true h) (by omega)) (fun h3=>wp_i64 (by omega) (wp_i64 (by split <;> omega) ⟨?_,wp_appn ?_ (by omega) (wp_leaf rfl ⟨rfl,rfl⟩)⟩)))))
    ·show 0≤ofs∧ofs≤_∧_≤(x.b.length:Int)
     split <;> omega
    ·refine ⟨?_,?_⟩
     ·rw[hc]
      simp only[hiN,loN,List.length_take,List.length_drop]
      split <;> omega
     ·rw[hc]
      refine row_part _ _ _ _ rfl ?_
      simp only[hiN,loN,List.length_take,List.length_drop]
      split <;> omega)

end Go.Ax

namespace Go.Ax
open Go.Proofs Go.RowKit
set_option maxRecDepth 100000

def ODown:RSpec:=fun args B r B'=>∃ (D:Dsk),D.Ok∧args= [.op 0]∧B= [.obj [] (diskP D)]∧r=vb D.down∧B'=B

theorem SDown:SoundR DP iDown ODown:=(SO hfDown heDown hbDown).mono (by
 rintro args B r B' ⟨D,ok,rfl,rfl,rfl,rfl⟩
 obtain ⟨ro,us,fs,dn,fu⟩:=D
 cases dn with
 | true=>
  refine obA (al:= []) rfl rfl rfl (.refl _) (fun hid hh=> .inl ⟨by rw[hnDown]; rfl,_,TDown_t_chk ro us fu hid,?_⟩)
  unfold TDown_t
  exact wp_leaf rfl ⟨rfl,rfl⟩
 | false=>
  refine obA (al:= []) rfl rfl rfl (.refl _) (fun hid hh=> .inl ⟨by rw[hnDown]; rfl,_,TDown_f_chk ro us fu hid,?_⟩)
  unfold TDown_f
  exact wp_leaf rfl ⟨rfl,rfl⟩)

def ORoom:RSpec:=fun args B r B'=>∃ (D:Dsk),D.Ok∧args= [.op 0]∧B= [.obj [] (diskP D)]∧r=vi (D.room - D.used)∧B'=B

theorem SRoom:SoundR DP iRoom ORoom:=(SO hfRoom heRoom hbRoom).mono (by
 rintro args B r B' ⟨D,ok,rfl,rfl,rfl,rfl⟩
 obtain ⟨b1,b2,b3⟩:=ok.bnd
 have hro:=ok.room
 obtain ⟨ro,us,fs,dn,fu⟩:=D
 simp only at b1 b2 hro
 cases dn with
 | true=>
  refine obA (al:= []) rfl rfl rfl (.refl _) (fun hid hh=> .inl ⟨by rw[hnRoom]; rfl,_,TRoom_t_chk ro us fu hid,?_⟩)
  unfold TRoom_t
  exact wp_i64 (by omega) (wp_leaf rfl ⟨rfl,rfl⟩)
 | false=>
  refine obA (al:= []) rfl rfl rfl (.refl _) (fun hid hh=> .inl ⟨by rw[hnRoom]; rfl,_,TRoom_f_chk ro us fu hid,?_⟩)
  unfold TRoom_f
  exact wp_i64 (by omega) (wp_leaf rfl ⟨rfl,rfl⟩))

theorem bytes_beq (a b:ByteArray):(a.toList == b.toList)=true↔a=b:=by
 rw[beq_iff_eq]
 refine ⟨fun h=>?_,fun h=>by rw[h]⟩
 rw[ByteArray.toList_eq,ByteArray.toList_eq] at h
 exact ByteArray.ext (Array.toList_inj.mp h)

def ONew:RSpec:=fun args B r B'=>∃ n:Int,args= [vi n]∧B= []∧r= .op 0∧B'= [.obj [] (diskP (newD n))]

theorem SNew:SoundR DP iNew ONew:=(SG hfNew heNew hbNew).newD.mono (by
 rintro args B r B' ⟨n,rfl,rfl,rfl,rfl⟩
 refine ⟨newD n,rfl, .inl ⟨by rw[hnNew]; rfl,_,TNew_chk n,?_⟩,rfl,rfl,rfl⟩
 unfold TNew
 exact wp_leaf rfl ⟨rfl,rfl⟩)

end Go.Ax

namespace Go.Ax
open Go.Proofs Go.RowKit
set_option maxRecDepth 100000

theorem delF_nod {fs:List Fil} (h:(fs.map (·.name)).Nodup) (nm:ByteArray):((delF fs nm).map (·.name)).Nodup:=(List.filter_sublist.map _).nodup h

theorem delF_no {fs:List Fil} {nm:ByteArray} (h:nm ∉ fs.map (·.name)):delF fs nm=fs:=
 List.filter_eq_self.2 fun z hz=>decide_eq_true fun e=>h (by rw[←e]; exact List.mem_map.2 ⟨z,hz,rfl⟩)

theorem not_mem_delF {fs:List Fil} {nm nn:ByteArray} (h:nn ∉ fs.map (·.name)):nn ∉ (delF fs nm).map (·.name):=fun h'=>h ((List.filter_sublist.map _).subset h')

theorem obQ {fn:Func} {D D1:Dsk} {x y x':Fil} {al:List AV} {r:AV} {L2:List Box} (ok:(D.files.map (·.name)).Nodup) (hx:x∈D.files) (hy2:y∈D.files) (hne:y.name≠x.name) (hal:al.all isP=true) (hy:r.pl2=true) (hl:r.low 0=true) (hf:(x'::delF (delF D.files x.name) y.name).Perm D1.files)
  (h:∀ hid,hid.map (·.1)=strsV ((delF (delF D.files x.name) y.name).map (·.name))→RG fn (.ptr 0 0 0::al) (flatB D [x,y] hid) r (flatV D1 x' 0 hid++L2)):diskR (RG fn) (.op 0::al) [.obj [] (diskP D)] r [.obj [] (diskP D1)]:=by
 have hr:∀ f d,r.rv f d=r:=fun f d=>rv_low (n:=0) (fun j hj=>by omega) (fun j hj=>by omega) hl
 have hp:D.files.Perm (x::y::delF (delF D.files x.name) y.name):=(delF_perm ok hx).trans ((delF_perm (delF_nod ok _) (delF_mem.2 ⟨hy2,hne⟩)).cons x)
 refine ⟨D,D1,[x,y],delF (delF D.files x.name) y.name,[],[⟨x',2,3,0⟩],[],al,r,hp,al_ok hal,by rw[al_id hal],rfl,fun hid hh=>⟨flatV D1 x' 0 hid++L2,?_,⟨rfl,rfl,fun i hi=>?_,by simp,fun z hz=>(nomatch hz),fun b hb=>absurd hb (by simp)⟩⟩,hf,hy,hl,(hr _ _).symm,rfl⟩
 ·rw[al_id hal,hr]
  exact h hid (by rw[hh]; simp[keysOf])
 ·rcases List.mem_cons.1 hi with rfl | hi
  ·exact ⟨rfl,rfl⟩
  ·cases hi

def ORename:RSpec:=fun args B r B'=>∃ (D:Dsk) (nm nn:ByteArray),D.Ok∧nn.size≤1000000000∧args= [.op 0,vs nm,vs nn]∧B= [.obj [] (diskP D)]∧r=vi (renameD D nm nn).2∧B'= [.obj [] (diskP (renameD D nm nn).1)]

theorem SRename:SoundR DP iRename ORename:=(SO hfRename heRename hbRename).mono (by
 rintro args B r B' ⟨D,nm,nn,ok,hN,rfl,rfl,rfl,rfl⟩
 have hnm:=ΓF_named nn hN
 have hfu:=ok.fuse.2
 obtain ⟨b1,b2,b3⟩:=ok.bnd
 obtain ⟨ro,us,fs,dn,fu⟩:=D
 cases dn with
 | true=>
  have h2:renameD ⟨ro,us,fs,true,fu⟩ nm nn=(⟨ro,us,fs,true,fu⟩,if !isName nn then 1 else 10):=by
   unfold renameD; split <;> rfl
  rw[h2]
  refine obA (al:= [vs nm,vs nn]) rfl rfl rfl (.refl _) (fun hid hh=> .inl ⟨by rw[hnRename]; rfl,_,TRename_d_chk ro us fu hid nm nn,?_⟩)
  unfold TRename_d
  exact wp_call hnm (wp_sp (fun h=>wp_callr (dFind (.d ro us fu hid nm) []) (wp_leaf rfl ⟨by rw[h]; rfl,rfl⟩)) (fun h=>wp_leaf rfl ⟨by rw[h]; rfl,rfl⟩))
 | false=>
  cases hg:(⟨ro,us,fs,false,fu⟩:Dsk).get nm with
  | none=>
   have hno:=get_none hg
   have h2:renameD ⟨ro,us,fs,false,fu⟩ nm nn=(⟨ro,us,fs,false,fu⟩,if !isName nn then 1 else 4):=by
    unfold renameD
    split
    ·rfl
    ·rw[if_neg (by simp)]
     simp only[hg]
   rw[h2]
   refine obA (al:= [vs nm,vs nn]) rfl rfl rfl (.refl _) (fun hid hh=> .inl ⟨by rw[hnRename]; rfl,_,TRename_a_chk ro us fu hid nm nn,?_⟩)
   unfold TRename_a
   exact wp_call hnm (wp_sp (fun h=>wp_callr (dFind (.a ro us fu hid _ nm hh hno) []) (wp_leaf rfl ⟨by rw[h]; rfl,rfl⟩)) (fun h=>wp_leaf rfl ⟨by rw[h]; rfl,rfl⟩))
  | some x=>
   obtain ⟨hx,rfl⟩:=get_some hg
   cases hn:isName nn with
   | false=>
    have h2:renameD ⟨ro,us,fs,false,fu⟩ x.name nn=(⟨ro,us,fs,false,fu⟩,1):=by unfold renameD; rw[if_pos (by simp[hn])]
    rw[h2]
    refine obP (x':=x) (v:=0) (al:= [vs x.name,vs nn]) ok.nod hx rfl rfl rfl (delF_perm ok.nod hx).symm (fun hid hh=> .inl ⟨by rw[hnRename]; rfl,_,TRename_p_chk ro us fu hid x.b x.sure x.name nn,?_⟩)
    unfold TRename_p
    exact wp_call hnm (wp_sp (fun h=>by rw[hn] at h; cases h) (fun h=>wp_leaf rfl ⟨rfl,rfl⟩))
   | true=>
    by_cases he:stE fu=0
    ·by_cases hs:x.name=nn
     ·subst hs
      have h2:renameD ⟨ro,us,fs,false,fu⟩ x.name x.name=(⟨ro,us,fs,stD fu,stF fu⟩,0):=by
       unfold renameD
       rw[if_neg (by simp[hn]),if_neg (by simp)]
       simp only[hg,he,ne_eq,not_true_eq_false,if_false,if_true]
       rfl
      rw[h2]
      refine obP (x':=x) (v:=0) (al:= [vs x.name,vs x.name]) ok.nod hx rfl rfl rfl (delF_perm ok.nod hx).symm (fun hid hh=> .inl ⟨by rw[hnRename]; rfl,_,TRename_p_chk ro us fu hid x.b x.sure x.name x.name,?_⟩)
      unfold TRename_p
      exact wp_call hnm (wp_sp (fun _=>wp_callr (dFind (.p ro us fu hid _ x hh) []) (wp_callr (dStep ro us fu hid [x] (by simp) hfu []) (wp_sp (fun h=>absurd he (bne_true h)) (fun h=>wp_sp (fun h=>wp_leaf rfl ⟨rfl,rfl⟩) (fun h=>by rw[(bytes_beq _ _).2 rfl] at h; cases h))))) (fun h=>by rw[hn] at h; cases h))
     ·cases hg2:(⟨ro,us,fs,false,fu⟩:Dsk).get nn with
      | none=>
       have hno:=get_none hg2
       have hno':nn ∉ (delF fs x.name).map (·.name):=not_mem_delF hno
       have h2:renameD ⟨ro,us,fs,false,fu⟩ x.name nn=(⟨ro,us,insF {x with name:=nn} (delF fs x.name),stD fu,stF fu⟩,0):=by
        unfold renameD
        rw[if_neg (by simp[hn]),if_neg (by simp)]
        simp only[hg,hg2,he,hs,ne_eq,not_true_eq_false,if_false,Int.sub_zero]
        rw[delF_no hno']
        rfl
       rw[h2]
       refine obP (x':={x with name:=nn}) (v:=0) (al:= [vs x.name,vs nn]) ok.nod hx rfl rfl rfl (insF_perm _ _) (fun hid hh=> .inl ⟨by rw[hnRename]; rfl,_,TRename_p_chk ro us fu hid x.b x.sure x.name nn,?_⟩)
       unfold TRename_p
       refine wp_call hnm (wp_sp (fun _=>wp_callr (dFind (.p ro us fu hid _ x hh) []) (wp_callr (dStep ro us fu hid [x] (by simp) hfu []) (wp_sp (fun h=>absurd he (bne_true h)) (fun h=>wp_sp (fun h=>absurd ((bytes_beq _ _).1 h) hs) (fun h=>wp_val ?_ (wp_val ?_ (wp_val ?_ (wp_leaf rfl ⟨rfl,rfl⟩)))))))) (fun h=>by rw[hn] at h; cases h))
       ·exact look_no htMap htKey (ns:= [x.name]) (z:=nilP) htVal rfl hh (by simpa using fun e=>hs e.symm) hno'
       ·exact upd_no htMap htKey (ns:= [x.name]) (cs:= [.ptr 2 0 0]) (B:= [.cells false 0 ([vi ro,vi us, .mp 1,vb (stD fu),vi (stF fu)]), .obj [.ptr 2 0 0] (mapP [.string x.name] hid), .cells false 0 ([.rs 3 0 1 0 x.b.length,vi x.sure]),byteE.bx 0 x.b]) rfl hh (by simpa using fun e=>hs e.symm) hno'
       ·exact del_v0 htMap htKey (ns:= [nn]) (cs:= [.ptr 2 0 0]) (c:= .ptr 2 0 0) (B:= [.cells false 0 ([vi ro,vi us, .mp 1,vb (stD fu),vi (stF fu)]), .obj [.ptr 2 0 0, .ptr 2 0 0] (mapP [.string x.name, .string nn] hid), .cells false 0 ([.rs 3 0 1 0 x.b.length,vi x.sure]),byteE.bx 0 x.b]) rfl hh
      | some y=>
       obtain ⟨hy,rfl⟩:=get_some hg2
       have hyl:=b3 y hy
       simp only at b1 b2 hyl
       have hs':y.name≠x.name:=fun e=>hs e.symm
       have h2:renameD ⟨ro,us,fs,false,fu⟩ x.name y.name=(⟨ro,us - (y.b.length:Int),insF {x with name:=y.name} (delF (delF fs x.name) y.name),stD fu,stF fu⟩,0):=by
        unfold renameD
        rw[if_neg (by simp[hn]),if_neg (by simp)]
        simp only[hg,hg2,he,hs,ne_eq,not_true_eq_false,if_false]
        rfl
       rw[h2]
       refine obQ (x:=x) (y:=y) (x':={x with name:=y.name}) (L2:= [fileC 5 0 y,rowB 0 y.b]) (al:= [vs x.name,vs y.name]) ok.nod hx hy hs' rfl rfl rfl (insF_perm _ _) (fun hid hh=> .inl ⟨by rw[hnRename]; rfl,_,TRename_q_chk ro us fu hid x.b x.sure y.b y.sure x.name y.name,?_⟩)
       unfold TRename_q
       refine wp_call hnm (wp_sp (fun _=>wp_callr (dFind (.q ro us fu hid _ x y hh) []) (wp_callr (dStep ro us fu hid [x,y] (by simp) hfu []) (wp_sp (fun h=>absurd he (bne_true h)) (fun h=>wp_sp (fun h=>absurd ((bytes_beq _ _).1 h) hs) (fun h=>wp_val ?_ (wp_i64 (by omega) (wp_val ?_ (wp_val ?_ (wp_leaf rfl ⟨rfl,rfl⟩))))))))) (fun h=>by rw[hn] at h; cases h))
       ·exact look_v1 htMap htKey rfl hh hs
       ·exact upd_v1 htMap htKey (c:= .ptr 2 0 0) (c':= .ptr 4 0 0) (B:= [.cells false 0 ([vi ro,vi (us - ((y.b.length:Nat):Int)), .mp 1,vb (stD fu),vi (stF fu)]), .obj [.ptr 2 0 0, .ptr 4 0 0] (mapP [.string x.name, .string y.name] hid), .cells false 0 ([.rs 3 0 1 0 x.b.length,vi x.sure]),byteE.bx 0 x.b, .cells false 0 ([.rs 5 0 1 0 y.b.length,vi y.sure]),byteE.bx 0 y.b]) rfl hh hs
       ·exact del_v0 htMap htKey (ns:= [y.name]) (cs:= [.ptr 2 0 0]) (c:= .ptr 2 0 0) (B:= [.cells false 0 ([vi ro,vi (us - ((y.b.length:Nat):Int)), .mp 1,vb (stD fu),vi (stF fu)]), .obj [.ptr 2 0 0, .ptr 2 0 0] (mapP [.string x.name, .string y.name] hid), .cells false 0 ([.rs 3 0 1 0 x.b.length,vi x.sure]),byteE.bx 0 x.b, .cells false 0 ([.rs 5 0 1 0 y.b.length,vi y.sure]),byteE.bx 0 y.b]) rfl hh
    ·have h2:renameD ⟨ro,us,fs,false,fu⟩ x.name nn=(⟨ro,us,fs,stD fu,stF fu⟩,stE fu):=by
      unfold renameD
      rw[if_neg (by simp[hn]),if_neg (by simp)]
      simp only[hg,ne_eq,he,not_false_eq_true,if_true]
      rfl
     rw[h2]
     refine obP (x':=x) (v:=0) (al:= [vs x.name,vs nn]) ok.nod hx rfl rfl rfl (delF_perm ok.nod hx).symm (fun hid hh=> .inl ⟨by rw[hnRename]; rfl,_,TRename_p_chk ro us fu hid x.b x.sure x.name nn,?_⟩)
     unfold TRename_p
     exact wp_call hnm (wp_sp (fun _=>wp_callr (dFind (.p ro us fu hid _ x hh) []) (wp_callr (dStep ro us fu hid [x] (by simp) hfu []) (wp_sp (fun h=>wp_leaf rfl ⟨rfl,rfl⟩) (fun h=>absurd (bne_false h) he)))) (fun h=>by rw[hn] at h; cases h)))

end Go.Ax

namespace Go.Ax
open Go.Proofs Go.RowKit
set_option maxRecDepth 100000

end Go.Ax

namespace Go.Ax
open Go.Proofs Go.RowKit
set_option maxRecDepth 100000

end Go.Ax
