/- Trees, printed by gen/k1.py: the disk's functions, the disk laid open. -/
import Derived.Test.YtddkloofiknjdaaDoorG8
set_option linter.unusedVariables false
set_option linter.unusedSimpArgs false
set_option linter.unusedSectionVars false
namespace Go.Ax
open Go.Proofs Go.RowKit
set_option maxRecDepth 100000

noncomputable def NU (ro:Int) (us:Int) (fu:Int) (hid:List (Value×Value)) (nm:ByteArray):Tree:=
.call 12 (Jl [vs nm]=some (vb (CA nm))) (vb (CA nm)) (.sp 12 (CA nm) (
.callr (some 18) (ΔF 47 [.ptr 0 0 0,vs nm] [.cells false 0 ([vi ro,vi us, .mp 1,vb true,vi fu]), .obj [] (AQ [] hid)] (.tup [.p (.v (.pointer none)),vi 10]) [.cells false 0 ([vi ro,vi us, .mp 1,vb true,vi fu]), .obj [] (AQ [] hid)]) (.tup [.p (.v (.pointer none)),vi 10]) [.cells false 0 ([vi ro,vi us, .mp 1,vb true,vi fu]), .obj [] (AQ [] hid)] (.leaf ⟨[0],[(0,0,none),(1,0,none)]⟩ [] .ret (some ([(0,vi 10)],[.cells false 0 ([vi ro,vi us, .mp 1,vb true,vi fu]), .obj [] (AQ [] hid)])))) (
.leaf ⟨[0],[(0,0,none),(1,0,none)]⟩ [] .ret (some ([(0,vi 1)],[.cells false 0 ([vi ro,vi us, .mp 1,vb true,vi fu]), .obj [] (AQ [] hid)]))))

theorem UW (ro:Int) (us:Int) (fu:Int) (hid:List (Value×Value)) (nm:ByteArray):Av DP ΓF ΔF Tryd.f36 [.ptr 0 0 0,vs nm] [.cells false 0 ([vi ro,vi us, .mp 1,vb true,vi fu]), .obj [] (AQ [] hid)] (NU ro us fu hid nm)=NU ro us fu hid nm:=by kernel_rfl

noncomputable def IW (ro:Int) (us:Int) (fu:Int) (hid:List (Value×Value)) (nm:ByteArray):Tree:=
.call 12 (Jl [vs nm]=some (vb (CA nm))) (vb (CA nm)) (.sp 12 (CA nm) (
.callr (some 18) (ΔF 47 [.ptr 0 0 0,vs nm] [.cells false 0 ([vi ro,vi us, .mp 1,vb false,vi fu]), .obj [] (AQ [] hid)] (.tup [.p (.v (.pointer none)),vi 4]) [.cells false 0 ([vi ro,vi us, .mp 1,vb false,vi fu]), .obj [] (AQ [] hid)]) (.tup [.p (.v (.pointer none)),vi 4]) [.cells false 0 ([vi ro,vi us, .mp 1,vb false,vi fu]), .obj [] (AQ [] hid)] (.callr (some 27) (ΔF 67 [.ptr 0 0 0] [.cells false 0 ([vi ro,vi us, .mp 1,vb false,vi fu]), .obj [] (AQ [] hid)] (vi (EA fu)) [.cells false 0 ([vi ro,vi us, .mp 1,vb (Da fu),vi (De fu)]), .obj [] (AQ [] hid)]) (vi (EA fu)) [.cells false 0 ([vi ro,vi us, .mp 1,vb (Da fu),vi (De fu)]), .obj [] (AQ [] hid)] (.sp 29 ((EA fu) != (0:Int)) (
.leaf ⟨[0],[(0,0,none),(1,0,none)]⟩ [] .ret (some ([(0,vi (EA fu))],[.cells false 0 ([vi ro,vi us, .mp 1,vb (Da fu),vi (De fu)]), .obj [] (AQ [] hid)]))) (
.val none (iG DP 69 [.cells false 0 ([vi ro,vi us, .mp 1,vb (Da fu),vi (De fu)]), .obj [] (AQ [] hid), .cells false 0 ([AI,vi 0])] (.mp 1) (vs nm) (.ptr 2 0 0) [.cells false 0 ([vi ro,vi us, .mp 1,vb (Da fu),vi (De fu)]), .obj [.ptr 2 0 0] (AQ [.string nm] hid), .cells false 0 ([AI,vi 0])]) (.u) [.cells false 0 ([vi ro,vi us, .mp 1,vb (Da fu),vi (De fu)]), .obj [.ptr 2 0 0] (AQ [.string nm] hid), .cells false 0 ([AI,vi 0])] (.leaf ⟨[0],[(0,0,none),(1,0,none),(2,0,none)]⟩ [] .ret (some ([(0,vi 0)],[.cells false 0 ([vi ro,vi us, .mp 1,vb (Da fu),vi (De fu)]), .obj [.ptr 2 0 0] (AQ [.string nm] hid), .cells false 0 ([AI,vi 0])]))))))) (
.leaf ⟨[0],[(0,0,none),(1,0,none)]⟩ [] .ret (some ([(0,vi 1)],[.cells false 0 ([vi ro,vi us, .mp 1,vb false,vi fu]), .obj [] (AQ [] hid)]))))

theorem Iq (ro:Int) (us:Int) (fu:Int) (hid:List (Value×Value)) (nm:ByteArray):Av DP ΓF ΔF Tryd.f36 [.ptr 0 0 0,vs nm] [.cells false 0 ([vi ro,vi us, .mp 1,vb false,vi fu]), .obj [] (AQ [] hid)] (IW ro us fu hid nm)=IW ro us fu hid nm:=by kernel_rfl

noncomputable def NV (ro:Int) (us:Int) (fu:Int) (hid:List (Value×Value)) (L:List UInt8) (su:Int) (nm:ByteArray):Tree:=
.call 12 (Jl [vs nm]=some (vb (CA nm))) (vb (CA nm)) (.sp 12 (CA nm) (
.callr (some 18) (ΔF 47 [.ptr 0 0 0,vs nm] [.cells false 0 ([vi ro,vi us, .mp 1,vb false,vi fu]), .obj [.ptr 2 0 0] (AQ [.string nm] hid), .cells false 0 ([.rs 3 0 1 0 L.length,vi su]),AA.bx 0 L] (.tup [.ptr 2 0 0,vi 0]) [.cells false 0 ([vi ro,vi us, .mp 1,vb false,vi fu]), .obj [.ptr 2 0 0] (AQ [.string nm] hid), .cells false 0 ([.rs 3 0 1 0 L.length,vi su]),AA.bx 0 L]) (.tup [.ptr 2 0 0,vi 0]) [.cells false 0 ([vi ro,vi us, .mp 1,vb false,vi fu]), .obj [.ptr 2 0 0] (AQ [.string nm] hid), .cells false 0 ([.rs 3 0 1 0 L.length,vi su]),AA.bx 0 L] (.leaf ⟨[0],[(0,0,none),(1,0,none),(2,0,none),(3,0,some (L.map AA.f))]⟩ [rowC (L.map AA.f)] .ret (some ([(0,vi 5)],[.cells false 0 ([vi ro,vi us, .mp 1,vb false,vi fu]), .obj [.ptr 2 0 0] (AQ [.string nm] hid), .cells false 0 ([.rs 3 0 1 0 L.length,vi su]),AA.bx 0 L])))) (
.leaf ⟨[0],[(0,0,none),(1,0,none),(2,0,none),(3,0,some (L.map AA.f))]⟩ [rowC (L.map AA.f)] .ret (some ([(0,vi 1)],[.cells false 0 ([vi ro,vi us, .mp 1,vb false,vi fu]), .obj [.ptr 2 0 0] (AQ [.string nm] hid), .cells false 0 ([.rs 3 0 1 0 L.length,vi su]),AA.bx 0 L]))))

theorem UX (ro:Int) (us:Int) (fu:Int) (hid:List (Value×Value)) (L:List UInt8) (su:Int) (nm:ByteArray):Av DP ΓF ΔF Tryd.f36 [.ptr 0 0 0,vs nm] [.cells false 0 ([vi ro,vi us, .mp 1,vb false,vi fu]), .obj [.ptr 2 0 0] (AQ [.string nm] hid), .cells false 0 ([.rs 3 0 1 0 L.length,vi su]),AA.bx 0 L] (NV ro us fu hid L su nm)=NV ro us fu hid L su nm:=by kernel_rfl

noncomputable def SY (ro:Int) (us:Int) (fu:Int) (hid:List (Value×Value)) (nm:ByteArray):Tree:=
.callr (some 11) (ΔF 47 [.ptr 0 0 0,vs nm] [.cells false 0 ([vi ro,vi us, .mp 1,vb true,vi fu]), .obj [] (AQ [] hid)] (.tup [.p (.v (.pointer none)),vi 10]) [.cells false 0 ([vi ro,vi us, .mp 1,vb true,vi fu]), .obj [] (AQ [] hid)]) (.tup [.p (.v (.pointer none)),vi 10]) [.cells false 0 ([vi ro,vi us, .mp 1,vb true,vi fu]), .obj [] (AQ [] hid)] (.leaf ⟨[0],[(0,0,none),(1,0,none)]⟩ [] .ret (some ([(0,vi 10)],[.cells false 0 ([vi ro,vi us, .mp 1,vb true,vi fu]), .obj [] (AQ [] hid)])))

theorem YR (ro:Int) (us:Int) (fu:Int) (hid:List (Value×Value)) (nm:ByteArray):Av DP ΓF ΔF Tryd.f38 [.ptr 0 0 0,vs nm] [.cells false 0 ([vi ro,vi us, .mp 1,vb true,vi fu]), .obj [] (AQ [] hid)] (SY ro us fu hid nm)=SY ro us fu hid nm:=by kernel_rfl

noncomputable def SZ (ro:Int) (us:Int) (fu:Int) (hid:List (Value×Value)) (nm:ByteArray):Tree:=
.callr (some 11) (ΔF 47 [.ptr 0 0 0,vs nm] [.cells false 0 ([vi ro,vi us, .mp 1,vb false,vi fu]), .obj [] (AQ [] hid)] (.tup [.p (.v (.pointer none)),vi 4]) [.cells false 0 ([vi ro,vi us, .mp 1,vb false,vi fu]), .obj [] (AQ [] hid)]) (.tup [.p (.v (.pointer none)),vi 4]) [.cells false 0 ([vi ro,vi us, .mp 1,vb false,vi fu]), .obj [] (AQ [] hid)] (.leaf ⟨[0],[(0,0,none),(1,0,none)]⟩ [] .ret (some ([(0,vi 4)],[.cells false 0 ([vi ro,vi us, .mp 1,vb false,vi fu]), .obj [] (AQ [] hid)])))

theorem YS (ro:Int) (us:Int) (fu:Int) (hid:List (Value×Value)) (nm:ByteArray):Av DP ΓF ΔF Tryd.f38 [.ptr 0 0 0,vs nm] [.cells false 0 ([vi ro,vi us, .mp 1,vb false,vi fu]), .obj [] (AQ [] hid)] (SZ ro us fu hid nm)=SZ ro us fu hid nm:=by kernel_rfl

noncomputable def Oi (ro:Int) (us:Int) (fu:Int) (hid:List (Value×Value)) (L:List UInt8) (su:Int) (nm:ByteArray):Tree:=
.callr (some 11) (ΔF 47 [.ptr 0 0 0,vs nm] [.cells false 0 ([vi ro,vi us, .mp 1,vb false,vi fu]), .obj [.ptr 2 0 0] (AQ [.string nm] hid), .cells false 0 ([.rs 3 0 1 0 L.length,vi su]),AA.bx 0 L] (.tup [.ptr 2 0 0,vi 0]) [.cells false 0 ([vi ro,vi us, .mp 1,vb false,vi fu]), .obj [.ptr 2 0 0] (AQ [.string nm] hid), .cells false 0 ([.rs 3 0 1 0 L.length,vi su]),AA.bx 0 L]) (.tup [.ptr 2 0 0,vi 0]) [.cells false 0 ([vi ro,vi us, .mp 1,vb false,vi fu]), .obj [.ptr 2 0 0] (AQ [.string nm] hid), .cells false 0 ([.rs 3 0 1 0 L.length,vi su]),AA.bx 0 L] (.callr (some 18) (ΔF 67 [.ptr 0 0 0] [.cells false 0 ([vi ro,vi us, .mp 1,vb false,vi fu]), .obj [.ptr 2 0 0] (AQ [.string nm] hid), .cells false 0 ([.rs 3 0 1 0 L.length,vi su]),AA.bx 0 L] (vi (EA fu)) [.cells false 0 ([vi ro,vi us, .mp 1,vb (Da fu),vi (De fu)]), .obj [.ptr 2 0 0] (AQ [.string nm] hid), .cells false 0 ([.rs 3 0 1 0 L.length,vi su]),AA.bx 0 L]) (vi (EA fu)) [.cells false 0 ([vi ro,vi us, .mp 1,vb (Da fu),vi (De fu)]), .obj [.ptr 2 0 0] (AQ [.string nm] hid), .cells false 0 ([.rs 3 0 1 0 L.length,vi su]),AA.bx 0 L] (.sp 20 ((EA fu) != (0:Int)) (
.leaf ⟨[0],[(0,0,none),(1,0,none),(2,0,none),(3,0,some (L.map AA.f))]⟩ [rowC (L.map AA.f)] .ret (some ([(0,vi (EA fu))],[.cells false 0 ([vi ro,vi us, .mp 1,vb (Da fu),vi (De fu)]), .obj [.ptr 2 0 0] (AQ [.string nm] hid), .cells false 0 ([.rs 3 0 1 0 L.length,vi su]),AA.bx 0 L]))) (
.leaf ⟨[0],[(0,0,none),(1,0,none),(2,0,none),(3,0,some (L.map AA.f))]⟩ [rowC (L.map AA.f)] .ret (some ([(0,vi 0)],[.cells false 0 ([vi ro,vi us, .mp 1,vb (Da fu),vi (De fu)]), .obj [.ptr 2 0 0] (AQ [.string nm] hid), .cells false 0 ([.rs 3 0 1 0 L.length,vi ((L.length:Nat):Int)]),AA.bx 0 L])))))

theorem Pr (ro:Int) (us:Int) (fu:Int) (hid:List (Value×Value)) (L:List UInt8) (su:Int) (nm:ByteArray):Av DP ΓF ΔF Tryd.f38 [.ptr 0 0 0,vs nm] [.cells false 0 ([vi ro,vi us, .mp 1,vb false,vi fu]), .obj [.ptr 2 0 0] (AQ [.string nm] hid), .cells false 0 ([.rs 3 0 1 0 L.length,vi su]),AA.bx 0 L] (Oi ro us fu hid L su nm)=Oi ro us fu hid L su nm:=by kernel_rfl

noncomputable def Sa (ro:Int) (us:Int) (fu:Int) (hid:List (Value×Value)) (nm:ByteArray):Tree:=
.callr (some 11) (ΔF 47 [.ptr 0 0 0,vs nm] [.cells false 0 ([vi ro,vi us, .mp 1,vb true,vi fu]), .obj [] (AQ [] hid)] (.tup [.p (.v (.pointer none)),vi 10]) [.cells false 0 ([vi ro,vi us, .mp 1,vb true,vi fu]), .obj [] (AQ [] hid)]) (.tup [.p (.v (.pointer none)),vi 10]) [.cells false 0 ([vi ro,vi us, .mp 1,vb true,vi fu]), .obj [] (AQ [] hid)] (.leaf ⟨[0],[(0,0,none),(1,0,none)]⟩ [] .ret (some ([(0, .tup [vi 0,vi 10])],[.cells false 0 ([vi ro,vi us, .mp 1,vb true,vi fu]), .obj [] (AQ [] hid)])))

theorem YT (ro:Int) (us:Int) (fu:Int) (hid:List (Value×Value)) (nm:ByteArray):Av DP ΓF ΔF Tryd.f39 [.ptr 0 0 0,vs nm] [.cells false 0 ([vi ro,vi us, .mp 1,vb true,vi fu]), .obj [] (AQ [] hid)] (Sa ro us fu hid nm)=Sa ro us fu hid nm:=by kernel_rfl

noncomputable def Sb (ro:Int) (us:Int) (fu:Int) (hid:List (Value×Value)) (nm:ByteArray):Tree:=
.callr (some 11) (ΔF 47 [.ptr 0 0 0,vs nm] [.cells false 0 ([vi ro,vi us, .mp 1,vb false,vi fu]), .obj [] (AQ [] hid)] (.tup [.p (.v (.pointer none)),vi 4]) [.cells false 0 ([vi ro,vi us, .mp 1,vb false,vi fu]), .obj [] (AQ [] hid)]) (.tup [.p (.v (.pointer none)),vi 4]) [.cells false 0 ([vi ro,vi us, .mp 1,vb false,vi fu]), .obj [] (AQ [] hid)] (.leaf ⟨[0],[(0,0,none),(1,0,none)]⟩ [] .ret (some ([(0, .tup [vi 0,vi 4])],[.cells false 0 ([vi ro,vi us, .mp 1,vb false,vi fu]), .obj [] (AQ [] hid)])))

theorem YU (ro:Int) (us:Int) (fu:Int) (hid:List (Value×Value)) (nm:ByteArray):Av DP ΓF ΔF Tryd.f39 [.ptr 0 0 0,vs nm] [.cells false 0 ([vi ro,vi us, .mp 1,vb false,vi fu]), .obj [] (AQ [] hid)] (Sb ro us fu hid nm)=Sb ro us fu hid nm:=by kernel_rfl

noncomputable def Sc (ro:Int) (us:Int) (fu:Int) (hid:List (Value×Value)) (L:List UInt8) (su:Int) (nm:ByteArray):Tree:=
.callr (some 11) (ΔF 47 [.ptr 0 0 0,vs nm] [.cells false 0 ([vi ro,vi us, .mp 1,vb false,vi fu]), .obj [.ptr 2 0 0] (AQ [.string nm] hid), .cells false 0 ([.rs 3 0 1 0 L.length,vi su]),AA.bx 0 L] (.tup [.ptr 2 0 0,vi 0]) [.cells false 0 ([vi ro,vi us, .mp 1,vb false,vi fu]), .obj [.ptr 2 0 0] (AQ [.string nm] hid), .cells false 0 ([.rs 3 0 1 0 L.length,vi su]),AA.bx 0 L]) (.tup [.ptr 2 0 0,vi 0]) [.cells false 0 ([vi ro,vi us, .mp 1,vb false,vi fu]), .obj [.ptr 2 0 0] (AQ [.string nm] hid), .cells false 0 ([.rs 3 0 1 0 L.length,vi su]),AA.bx 0 L] (.leaf ⟨[0],[(0,0,none),(1,0,none),(2,0,none),(3,0,some (L.map AA.f))]⟩ [rowC (L.map AA.f)] .ret (some ([(0, .tup [vi ((L.length:Nat):Int),vi 0])],[.cells false 0 ([vi ro,vi us, .mp 1,vb false,vi fu]), .obj [.ptr 2 0 0] (AQ [.string nm] hid), .cells false 0 ([.rs 3 0 1 0 L.length,vi su]),AA.bx 0 L])))

theorem YV (ro:Int) (us:Int) (fu:Int) (hid:List (Value×Value)) (L:List UInt8) (su:Int) (nm:ByteArray):Av DP ΓF ΔF Tryd.f39 [.ptr 0 0 0,vs nm] [.cells false 0 ([vi ro,vi us, .mp 1,vb false,vi fu]), .obj [.ptr 2 0 0] (AQ [.string nm] hid), .cells false 0 ([.rs 3 0 1 0 L.length,vi su]),AA.bx 0 L] (Sc ro us fu hid L su nm)=Sc ro us fu hid L su nm:=by kernel_rfl

noncomputable def NW (ro:Int) (us:Int) (fu:Int) (hid:List (Value×Value)) (nm:ByteArray) (bs:List UInt8):Tree:=
.callr (some 13) (ΔF 47 [.ptr 0 0 0,vs nm] [.cells false 0 ([vi ro,vi us, .mp 1,vb true,vi fu]), .obj [] (AQ [] hid)] (.tup [.p (.v (.pointer none)),vi 10]) [.cells false 0 ([vi ro,vi us, .mp 1,vb true,vi fu]), .obj [] (AQ [] hid)]) (.tup [.p (.v (.pointer none)),vi 10]) [.cells false 0 ([vi ro,vi us, .mp 1,vb true,vi fu]), .obj [] (AQ [] hid)] (.leaf ⟨[0],[(0,0,none),(1,0,none)]⟩ [] .ret (some ([(0,vi 10)],[.cells false 0 ([vi ro,vi us, .mp 1,vb true,vi fu]), .obj [] (AQ [] hid)])))

theorem UY (ro:Int) (us:Int) (fu:Int) (hid:List (Value×Value)) (nm:ByteArray) (bs:List UInt8):Av DP ΓF ΔF Tryd.f37 [.ptr 0 0 0,vs nm,vl (bs.map AA.f)] [.cells false 0 ([vi ro,vi us, .mp 1,vb true,vi fu]), .obj [] (AQ [] hid)] (NW ro us fu hid nm bs)=NW ro us fu hid nm bs:=by kernel_rfl

noncomputable def NX (ro:Int) (us:Int) (fu:Int) (hid:List (Value×Value)) (nm:ByteArray) (bs:List UInt8):Tree:=
.callr (some 13) (ΔF 47 [.ptr 0 0 0,vs nm] [.cells false 0 ([vi ro,vi us, .mp 1,vb false,vi fu]), .obj [] (AQ [] hid)] (.tup [.p (.v (.pointer none)),vi 4]) [.cells false 0 ([vi ro,vi us, .mp 1,vb false,vi fu]), .obj [] (AQ [] hid)]) (.tup [.p (.v (.pointer none)),vi 4]) [.cells false 0 ([vi ro,vi us, .mp 1,vb false,vi fu]), .obj [] (AQ [] hid)] (.leaf ⟨[0],[(0,0,none),(1,0,none)]⟩ [] .ret (some ([(0,vi 4)],[.cells false 0 ([vi ro,vi us, .mp 1,vb false,vi fu]), .obj [] (AQ [] hid)])))

theorem UZ (ro:Int) (us:Int) (fu:Int) (hid:List (Value×Value)) (nm:ByteArray) (bs:List UInt8):Av DP ΓF ΔF Tryd.f37 [.ptr 0 0 0,vs nm,vl (bs.map AA.f)] [.cells false 0 ([vi ro,vi us, .mp 1,vb false,vi fu]), .obj [] (AQ [] hid)] (NX ro us fu hid nm bs)=NX ro us fu hid nm bs:=by kernel_rfl

noncomputable def IX (ro:Int) (us:Int) (fu:Int) (hid:List (Value×Value)) (L:List UInt8) (su:Int) (nm:ByteArray) (bs:List UInt8):Tree:=
.callr (some 13) (ΔF 47 [.ptr 0 0 0,vs nm] [.cells false 0 ([vi ro,vi us, .mp 1,vb false,vi fu]), .obj [.ptr 2 0 0] (AQ [.string nm] hid), .cells false 0 ([.rs 3 0 1 0 L.length,vi su]),AA.bx 0 L] (.tup [.ptr 2 0 0,vi 0]) [.cells false 0 ([vi ro,vi us, .mp 1,vb false,vi fu]), .obj [.ptr 2 0 0] (AQ [.string nm] hid), .cells false 0 ([.rs 3 0 1 0 L.length,vi su]),AA.bx 0 L]) (.tup [.ptr 2 0 0,vi 0]) [.cells false 0 ([vi ro,vi us, .mp 1,vb false,vi fu]), .obj [.ptr 2 0 0] (AQ [.string nm] hid), .cells false 0 ([.rs 3 0 1 0 L.length,vi su]),AA.bx 0 L] (.int 20 ((bs.map AA.f).length:Int) (bs.length:Int) (.int 29 (IntKind.i64.wrap (ro - us)) (ro - us) (.sp 30 (decide ((bs.length:Int)>(ro - us))) (
.leaf ⟨[0],[(0,0,none),(1,0,none),(2,0,none),(3,0,some (L.map AA.f))]⟩ [rowC (L.map AA.f)] .ret (some ([(0,vi 11)],[.cells false 0 ([vi ro,vi us, .mp 1,vb false,vi fu]), .obj [.ptr 2 0 0] (AQ [.string nm] hid), .cells false 0 ([.rs 3 0 1 0 L.length,vi su]),AA.bx 0 L]))) (
.callr (some 32) (ΔF 67 [.ptr 0 0 0] [.cells false 0 ([vi ro,vi us, .mp 1,vb false,vi fu]), .obj [.ptr 2 0 0] (AQ [.string nm] hid), .cells false 0 ([.rs 3 0 1 0 L.length,vi su]),AA.bx 0 L] (vi (EA fu)) [.cells false 0 ([vi ro,vi us, .mp 1,vb (Da fu),vi (De fu)]), .obj [.ptr 2 0 0] (AQ [.string nm] hid), .cells false 0 ([.rs 3 0 1 0 L.length,vi su]),AA.bx 0 L]) (vi (EA fu)) [.cells false 0 ([vi ro,vi us, .mp 1,vb (Da fu),vi (De fu)]), .obj [.ptr 2 0 0] (AQ [.string nm] hid), .cells false 0 ([.rs 3 0 1 0 L.length,vi su]),AA.bx 0 L] (.sp 34 ((EA fu) != (0:Int)) (
.leaf ⟨[0],[(0,0,none),(1,0,none),(2,0,none),(3,0,some (L.map AA.f))]⟩ [rowC (L.map AA.f)] .ret (some ([(0,vi (EA fu))],[.cells false 0 ([vi ro,vi us, .mp 1,vb (Da fu),vi (De fu)]), .obj [.ptr 2 0 0] (AQ [.string nm] hid), .cells false 0 ([.rs 3 0 1 0 L.length,vi su]),AA.bx 0 L]))) (
.app 42 (.ls (bs.map AA.f)) L.length (rowC (L.map AA.f)) AA L bs (.int 50 ((bs.map AA.f).length:Int) (bs.length:Int) (.int 51 (IntKind.i64.wrap (us+(bs.length:Int))) (us+(bs.length:Int)) (.leaf ⟨[0],[(0,0,none),(1,0,none),(2,0,none),(3,0,some ((L++bs).map AA.f))]⟩ [rowC ((L++bs).map AA.f)] .ret (some ([(0,vi 0)],[.cells false 0 ([vi ro,vi (us+(bs.length:Int)), .mp 1,vb (Da fu),vi (De fu)]), .obj [.ptr 2 0 0] (AQ [.string nm] hid), .cells false 0 ([.rs 3 1 1 0 ((L++bs).length),vi su]),AA.bx 1 (L++bs)])))))))))))

theorem Ir (ro:Int) (us:Int) (fu:Int) (hid:List (Value×Value)) (L:List UInt8) (su:Int) (nm:ByteArray) (bs:List UInt8):Av DP ΓF ΔF Tryd.f37 [.ptr 0 0 0,vs nm,vl (bs.map AA.f)] [.cells false 0 ([vi ro,vi us, .mp 1,vb false,vi fu]), .obj [.ptr 2 0 0] (AQ [.string nm] hid), .cells false 0 ([.rs 3 0 1 0 L.length,vi su]),AA.bx 0 L] (IX ro us fu hid L su nm bs)=IX ro us fu hid L su nm bs:=by kernel_rfl


theorem mJ:ΔF Oe=AX RFind:=if_pos rfl
theorem mK:ΔF Of=AX RStep:=by unfold ΔF; rw[if_neg (by decide),if_pos rfl]
theorem ΓF_named (nm:ByteArray) (hN:nm.size≤1000000000):Jl [vs nm]=some (vb (CA nm)):=dx nm hN

theorem Ea (D:Dsk) (X:List Fil) (hid:List (Value×Value)):NQ (BA D X hid).length (BA D X hid):=fun y hy=>by
 rw[C1]; exact (Ob D X hid y hy).2

theorem Df {args:List AV} {B B':List Box} {r:AV} (h:RFind args B r B') (Bx:List Box):ΔF Oe args (B++Bx) r (B'++Bx):=by
 rw[mJ]
 cases h with
 | d ro us fu hid nm=>exact EQ (.d ro us fu hid nm) rfl rfl (Ea _ _ _) (Ea _ _ _) rfl Bx
 | a ro us fu hid hs nm hh hn=>exact EQ (.a ro us fu hid hs nm hh hn) rfl rfl (Ea _ _ _) (Ea _ _ _) rfl Bx
 | p ro us fu hid hs x hh=>exact EQ (.p ro us fu hid hs x hh) rfl rfl (Ea _ _ _) (Ea _ _ _) rfl Bx
 | q ro us fu hid hs x y hh=>exact EQ (.q ro us fu hid hs x y hh) rfl rfl (Ea _ _ _) (Ea _ _ _) rfl Bx

theorem Oj (ro us fu:Int) (hid:List (Value×Value)) (X:List Fil) (hX:X.length≤2) (hfu:fu<9223372036854775808) (Bx:List Box):
  ΔF Of [.ptr 0 0 0] (BA (G3 ro us fu false) X hid++Bx) (vi (EA fu)) (BA (G3 ro us (De fu) (Da fu)) X hid++Bx):=by
 rw[mK]
 refine EQ (.mk ro us fu hid X hX hfu) (by rw[C1,C1]) ?_ (Ea _ _ _) ?_ rfl Bx
 ·rw[C1]
  show (Nat.blt 0 (2+2*X.length)&&true)=true
  simp[Nat.blt_eq]
  omega
 ·rw[C1]
  have:=Ea (G3 ro us (De fu) (Da fu)) X hid
  rw[C1] at this
  exact this

theorem AM {d:Option Nat} {p:Prop} {v:AV} {B:List Box} {k:Tree} {K:AE→St→Prop} (hp:p) (h:k.wp K):(Tree.callr d p v B k).wp K:=⟨hp,h⟩

theorem SoundR.or {P:Program} {f:Nat} {R1 R2:Ae} (h1:SoundR P f R1) (h2:SoundR P f R2):SoundR P f (fun a b c d=>R1 a b c d∨R2 a b c d):=fun a b c d h=>h.elim (h1 a b c d) (h2 a b c d)

def Vt (fn:Func):Ae:=fun args B r B'=>GenT DP ΓF ΔF fn args B (r,B')
def RG (fn:Func):Ae:=fun args B r B'=>Vt fn args B r B'∨((∃ Bf b i v cs,Vt fn args B r Bf∧Bf[b]? = some (.cells false v cs)∧cs[i]? = some AI∧B'=nilfix Bf b i v cs)∨(∃ Bf e,Vt fn args B (.tup [AI,e]) Bf∧r= .tup [.rs Bf.length 0 1 0 0,e]∧B'=Bf++ [.cells true 0 []]))
theorem SG {f:FuncId} {fn:Func} (hf:DP.funcs[f]? = some fn) (he:Ak DP f=true) (hb:fn.body.isSome=true):SoundR DP f (RG fn):=
 have h:SoundR DP f (Vt fn):=Al AZ ΓF_ok tU hf he hb (fun _ _ _ _ h=>h)
 h.or (h.nilfix.or h.nilans)
theorem SO {f:FuncId} {fn:Func} (hf:DP.funcs[f]? = some fn) (he:Ak DP f=true) (hb:fn.body.isSome=true):SoundR DP f (MM (RG fn)):=dz (SG hf he hb)

def Vu:AV→Bool
 | .p _=>true
 | _=>false

theorem G5:∀ {al:List AV},al.all Vu=true→∀ f d,al.map (AV.rv f d)=al
 | [],_,_,_=>rfl
 | a::al,h,f,d=>by
  simp only[List.all_cons,Bool.and_eq_true] at h
  rw[List.map_cons,G5 h.2]
  cases a <;> first | rfl | cases h.1

theorem Ol:∀ {al:List AV},al.all Vu=true→al.all (aa 0)=true
 | [],_=>rfl
 | a::al,h=>by
  simp only[List.all_cons,Bool.and_eq_true] at h ⊢
  refine ⟨?_,Ol h.2⟩
  cases a <;> first | rfl | cases h.1

theorem LO {fn:Func} {D D1:Dsk} {al:List AV} {y:AV} (hal:al.all Vu=true) (hy:y.pl2=true) (hl:y.low 0=true) (hf:D.files.Perm D1.files)
  (h:∀ hid,hid.map (·.1)=DD (D.files.map (·.name))→RG fn (.ptr 0 0 0::al) (BA D [] hid) y (BA D1 [] hid)):MM (RG fn) (.op 0::al) [.obj [] (AH D)] y [.obj [] (AH D1)]:=by
 have hr:∀ f d,y.rv f d=y:=fun f d=>Jm (n:=0) (fun j hj=>by omega) (fun j hj=>by omega) hl
 refine ⟨D,D1,[],D.files,[],[],[],al,y, .refl _,Ol hal,by rw[G5 hal],rfl,fun hid hh=>⟨BA D1 [] hid,?_,tM rfl rfl⟩,hf,hy,hl,(hr _ _).symm,rfl⟩
 rw[G5 hal,hr]
 exact h hid (by rw[hh]; simp[Ek])

abbrev ao (D1:Dsk) (x:Fil) (v:Nat) (hid:List (Value×Value)):List Box:= [DQ D1, .obj [.ptr 2 0 0] (AQ [.string x.name] hid),Oa 3 v x,GV v x.b]

theorem Vv {fn:Func} {D D1:Dsk} {x x':Fil} {v:Nat} {al:List AV} {y:AV} (ok:(D.files.map (·.name)).Nodup) (hx:x∈D.files) (hal:al.all Vu=true) (hy:y.pl2=true) (hl:y.low 0=true) (hf:(x'::Ky D.files x.name).Perm D1.files)
  (h:∀ hid,hid.map (·.1)=DD ((Ky D.files x.name).map (·.name))→RG fn (.ptr 0 0 0::al) (BA D [x] hid) y (ao D1 x' v hid)):MM (RG fn) (.op 0::al) [.obj [] (AH D)] y [.obj [] (AH D1)]:=by
 have hr:∀ f d,y.rv f d=y:=fun f d=>Jm (n:=0) (fun j hj=>by omega) (fun j hj=>by omega) hl
 refine ⟨D,D1,[x],Ky D.files x.name,[],[⟨x',2,3,v⟩],[],al,y,Dv ok hx,Ol hal,by rw[G5 hal],rfl,fun hid hh=>⟨ao D1 x' v hid,?_,k6 rfl rfl rfl rfl⟩,hf,hy,hl,(hr _ _).symm,rfl⟩
 rw[G5 hal,hr]
 exact h hid (by rw[hh]; simp[Ek])

theorem xE {fn:Func} {D D1:Dsk} {nm:ByteArray} {al:List AV} {y:AV} (hal:al.all Vu=true) (hy:y.pl2=true) (hl:y.low 0=true) (hf:(⟨nm,[],0⟩::D.files).Perm D1.files)
  (h:∀ hid,hid.map (·.1)=DD (D.files.map (·.name))→Vt fn (.ptr 0 0 0::al) (BA D [] hid) y [DQ D1, .obj [.ptr 2 0 0] (AQ [.string nm] hid), .cells false 0 [AI,vi 0]]):MM (RG fn) (.op 0::al) [.obj [] (AH D)] y [.obj [] (AH D1)]:=by
 have hr:∀ f d,y.rv f d=y:=fun f d=>Jm (n:=0) (fun j hj=>by omega) (fun j hj=>by omega) hl
 refine ⟨D,D1,[],D.files,[],[⟨⟨nm,[],0⟩,2,3,0⟩],[],al,y, .refl _,Ol hal,by rw[G5 hal],rfl,fun hid hh=>⟨ao D1 ⟨nm,[],0⟩ 0 hid,?_,k6 rfl rfl rfl rfl⟩,hf,hy,hl,(hr _ _).symm,rfl⟩
 rw[G5 hal,hr]
 exact .inr (.inl ⟨_,2,0,0,[AI,vi 0],h hid (by rw[hh]; simp[Ek]),rfl,rfl,rfl⟩)

theorem NY {e:Int} (h:(e != (0:Int))=false):e=0:=by simpa using h
theorem QL {e:Int} (h:(e != (0:Int))=true):e≠0:=by simpa using h

def Om:Ae:=fun args B r B'=>∃ (D:Dsk) (nm:ByteArray),D.Ok∧nm.size≤1000000000∧args= [.op 0,vs nm]∧B= [.obj [] (AH D)]∧r=vi (Ay D nm).2∧B'= [.obj [] (AH (Ay D nm).1)]

theorem mL:SoundR DP Og Om:=(SO iN iO iP).mono (by
 rintro args B r B' ⟨D,nm,ok,hN,rfl,rfl,rfl,rfl⟩
 have hnm:=ΓF_named nm hN
 have hfu:=ok.fuse.2
 obtain ⟨ro,us,fs,dn,fu⟩:=D
 cases dn with
 | true=>
  have h2:Ay ⟨ro,us,fs,true,fu⟩ nm=(⟨ro,us,fs,true,fu⟩,if !CA nm then 1 else 10):=by
   unfold Ay; split <;> rfl
  rw[h2]
  refine LO (al:= [vs nm]) rfl rfl rfl (.refl _) (fun hid hh=> .inl ⟨by rw[Jn]; rfl,_,UW ro us fu hid nm,?_⟩)
  unfold NU
  exact Ac hnm (AC (fun h=>AM (Df (.d ro us fu hid nm) []) (wp_leaf rfl ⟨by rw[h]; rfl,rfl⟩)) (fun h=>wp_leaf rfl ⟨by rw[h]; rfl,rfl⟩))
 | false=>
  cases hg:(⟨ro,us,fs,false,fu⟩:Dsk).get nm with
  | some x=>
   obtain ⟨hx,rfl⟩:=EY hg
   have h2:Ay ⟨ro,us,fs,false,fu⟩ x.name=(⟨ro,us,fs,false,fu⟩,if !CA x.name then 1 else 5):=by
    unfold Ay
    split
    ·rfl
    ·rw[if_neg (by simp)]
     simp only[hg]
   rw[h2]
   refine Vv (x':=x) (v:=0) (al:= [vs x.name]) ok.nod hx rfl rfl rfl (Dv ok.nod hx).symm (fun hid hh=> .inl ⟨by rw[Jn]; rfl,_,UX ro us fu hid x.b x.sure x.name,?_⟩)
   unfold NV
   exact Ac hnm (AC (fun h=>AM (Df (.p ro us fu hid _ x hh) []) (wp_leaf rfl ⟨by rw[h]; rfl,rfl⟩)) (fun h=>wp_leaf rfl ⟨by rw[h]; rfl,rfl⟩))
  | none=>
   have hno:=GX hg
   cases hn:CA nm with
   | false=>
    have h2:Ay ⟨ro,us,fs,false,fu⟩ nm=(⟨ro,us,fs,false,fu⟩,1):=by unfold Ay; rw[if_pos (by simp[hn])]
    rw[h2]
    refine LO (al:= [vs nm]) rfl rfl rfl (.refl _) (fun hid hh=> .inl ⟨by rw[Jn]; rfl,_,Iq ro us fu hid nm,?_⟩)
    unfold IW
    exact Ac hnm (AC (fun h=>by rw[hn] at h; cases h) (fun h=>wp_leaf rfl ⟨rfl,rfl⟩))
   | true=>
    by_cases he:EA fu=0
    ·have h2:Ay ⟨ro,us,fs,false,fu⟩ nm=(⟨ro,us,HW ⟨nm,[],0⟩ fs,Da fu,De fu⟩,0):=by
      unfold Ay
      rw[if_neg (by simp[hn]),if_neg (by simp)]
      simp only[hg,he,ne_eq,not_true_eq_false,if_false]
      rfl
     rw[h2]
     refine xE (nm:=nm) (al:= [vs nm]) rfl rfl rfl (NT _ _) (fun hid hh=>⟨by rw[Jn]; rfl,_,Iq ro us fu hid nm,?_⟩)
     unfold IW
     refine Ac hnm (AC (fun _=>AM (Df (.a ro us fu hid _ nm hh hno) []) (AM (Oj ro us fu hid [] (by simp) hfu []) (AC (fun h=>absurd he (QL h)) (fun h=>Dn ?_ (wp_leaf rfl ⟨rfl,rfl⟩))))) (fun h=>by rw[hn] at h; cases h))
     exact oq Ut Uu (ns:= []) (B:= [.cells false 0 ([vi ro,vi us, .mp 1,vb (Da fu),vi (De fu)]), .obj [] (AQ [] hid), .cells false 0 ([AI,vi 0])]) rfl hh (by simp) hno
    ·have h2:Ay ⟨ro,us,fs,false,fu⟩ nm=(⟨ro,us,fs,Da fu,De fu⟩,EA fu):=by
      unfold Ay
      rw[if_neg (by simp[hn]),if_neg (by simp)]
      simp only[hg,ne_eq,he,not_false_eq_true,if_true]
      rfl
     rw[h2]
     refine LO (al:= [vs nm]) rfl rfl rfl (.refl _) (fun hid hh=> .inl ⟨by rw[Jn]; rfl,_,Iq ro us fu hid nm,?_⟩)
     unfold IW
     exact Ac hnm (AC (fun _=>AM (Df (.a ro us fu hid _ nm hh hno) []) (AM (Oj ro us fu hid [] (by simp) hfu []) (AC (fun h=>wp_leaf rfl ⟨rfl,rfl⟩) (fun h=>absurd (NY h) he)))) (fun h=>by rw[hn] at h; cases h)))


variable [Glob]
section
variable {R : Ae} {pre post : List AV} {L M : List UInt8} {n b v : Nat} {B : List Box}
theorem On (f d:Nat→Nat) (h1:pre.all E6=true) (h2:post.all E6=true) (x:AV):AV.rv.rvL f d (pre++x::post)=pre++x.rv f d::post:=by
 rw[Cz,List.map_append,List.map_cons,←Cz,←Cz,HX h1,HX h2]
theorem Oo {m:Nat} (h1:pre.all E6=true) (h2:post.all E6=true) {x:AV} (hx:x.low m=true):AV.low.allLow m (pre++x::post)=true:=by
 induction pre with
 | nil=>rw[List.nil_append,AV.low.allLow,hx,HY h2]; rfl
 | cons a pre ih=>
  simp only[List.all_cons,Bool.and_eq_true] at h1
  rw[List.cons_append,AV.low.allLow,ih h1.2]
  cases a <;> first | rfl | cases h1.1

theorem BoxRen.rowv {f d:Nat→Nat} {n j:Nat} {row:Bool} {v v':Nat} {xs:List PV} (h:v'=v+d j):BoxRen f d n j (.cells row v (rowC xs)) (.cells row v' (rowC xs)):=h▸ .row row v xs

theorem HZ (hR:R (pre++ .rs 0 0 1 0 L.length::post) [AA.bx 0 L] (.rs 1 0 1 0 n) [AA.bx 1 [],AA.bx 0 M]) (hb:B[b]? = some (AA.bx v L)) (h1:pre.all E6=true) (h2:post.all E6=true):
  AX R (pre++ .rs b v 1 0 L.length::post) B (.rs B.length 0 1 0 n) (B.set b (AA.bx (v+1) [])++ [AA.bx 0 M]):=by
 have hlt:b<B.length:=(List.getElem?_eq_some_iff.1 hb).1
 refine ⟨_,_,_,_,hR,⟨[b],[v],[AA.bx v L],[AA.bx (v+1) []],[AA.bx 0 M],?_,?_,?_,?_,⟨?_,trivial⟩,⟨?_,?_,trivial⟩,?_,?_,rfl⟩⟩
 ·simp[DO,Nat.blt_eq,hlt]
 ·simp[hb]
 ·rw[On _ _ h1 h2]; simp[AV.rv,Bc,BM]
 ·exact Oo h1 h2 rfl
 ·exact .rowv (by simp[BM])
 ·exact .rowv (by simp[BM]; omega)
 ·exact .rowv (by simp[BM])
 ·simp[Bh]
 ·simp[AV.rv,Bc,BM]

theorem Ps {al:List AV} (hR:R al [] (.rs 0 0 1 0 n) [AA.bx 0 M]) (h1:al.all E6=true):AX R al B (.rs B.length 0 1 0 n) (B++ [AA.bx 0 M]):=by
 refine ⟨_,_,_,_,hR,⟨[],[],[],[],[AA.bx 0 M],rfl,rfl,(HX h1 _ _).symm,HY h1 _,trivial,⟨?_,trivial⟩,?_,?_,rfl⟩⟩
 ·exact .rowv (by simp[BM])
 ·simp[Bh]
 ·simp[AV.rv,Bc,BM]

theorem Pt {x:PV} (hR:R (pre++ .rs 0 0 1 0 L.length::post) [AA.bx 0 L] (.p x) [AA.bx 0 L]) (hb:B[b]? = some (AA.bx v L)) (h1:pre.all E6=true) (h2:post.all E6=true):
  AX R (pre++ .rs b v 1 0 L.length::post) B (.p x) B:=by
 have hlt:b<B.length:=(List.getElem?_eq_some_iff.1 hb).1
 refine ⟨_,_,_,_,hR,⟨[b],[v],[AA.bx v L],[AA.bx v L],[],?_,?_,?_,?_,⟨?_,trivial⟩,⟨?_,trivial⟩,?_,?_,rfl⟩⟩
 ·simp[DO,Nat.blt_eq,hlt]
 ·simp[hb]
 ·rw[On _ _ h1 h2]; simp[AV.rv,Bc,BM]
 ·exact Oo h1 h2 rfl
 ·exact .rowv (by simp[BM])
 ·exact .rowv (by simp[BM])
 ·rw[Bh,Bh,List.append_nil]
  refine (List.ext_getElem? fun j=>?_).symm
  rw[List.getElem?_set]
  split
  ·rename_i e; subst e; exact hb.symm
  ·rfl
 ·simp[AV.rv]

def RC (g:List AV→Option AV):Ae:=fun args B r B'=>g args=some r∧B'=B
theorem SoundF.rel {P:Program} {f:Nat} {g:List AV→Option AV} (h:SoundF P f (.pure g)):SoundR P f (RC g):=by
 rintro args B r B' ⟨h1,rfl⟩
 exact h args _ r _ (by show (g args).map _=_; rw[h1]; rfl)
end

def DG:List (Nat×(List AV→Option AV))→BF
 | [],_=> .none
 | (i,g)::l,f=>bif Nat.beq f i then .pure g else DG l f
theorem Bu {P:Program}:∀ f,SoundF P f (DG [] f):=fun f=>MA f
theorem An {P:Program} {i:Nat} {g:List AV→Option AV} {l:List (Nat×(List AV→Option AV))} (h:SoundF P i (.pure g)) (hl:∀ f,SoundF P f (DG l f)):∀ f,SoundF P f (DG ((i,g)::l) f):=fun f=>by
 unfold DG
 cases e:Nat.beq f i with
 | true=>rw[Nat.eq_of_beq_eq_true e]; exact h
 | false=>exact hl f
def CZ:List (Nat×Ae)→CB
 | [],_=>fun _ _ _ _=>False
 | (i,R)::l,f=>bif Nat.beq f i then R else CZ l f
theorem BJ {P:Program}:∀ f,SoundR P f (CZ [] f):=fun f=> .none f
theorem AY {P:Program} {i:Nat} {R:Ae} {l:List (Nat×Ae)} (h:SoundR P i R) (hl:∀ f,SoundR P f (CZ l f)):∀ f,SoundR P f (CZ ((i,R)::l) f):=fun f=>by
 unfold CZ
 cases e:Nat.beq f i with
 | true=>rw[Nat.eq_of_beq_eq_true e]; exact h
 | false=>exact hl f

theorem Vw:∀ {a b:List UInt8},a.map AA.f=b.map AA.f→a=b
 | [],[],_=>rfl
 | x::a,y::b,h=>by
  simp only[List.map_cons,List.cons.injEq] at h
  have h1:PV.v (.int .u8 (x.toNat:Int))=PV.v (.int .u8 (y.toNat:Int)):=h.1
  simp only[PV.v.injEq,Value.int.injEq,true_and] at h1
  rw[UInt8.toNat_inj.1 (by omega:x.toNat=y.toNat),Vw h.2]
 | [],_::_,h=>by simp at h
 | _::_,[],h=>by simp at h
end Go.Ax
namespace Go.Ax
open Go.Proofs Go.RowKit
set_option maxRecDepth 100000

def xF:PV→Bool
 | .v _=>true
 | _=>false

theorem Tk {f:Nat} {R:List AV→AV→Prop} (he:Ak DP f=true)
  (h:∀ args r,R args r→∃ (vs:List Value) (y:Value),args=vs.map (fun v=> .p (.v v))∧(∀ (F:Nat→Prop) B ρ w,VRel F B ρ w r y) ∧
   ∀ w,(∀ g,Glob.tab g≠ []→∃ us e fr,w.heap[g]? = some (.cells us e fr)∧us.toList.map PV.v=Glob.tab g)→Calls DP f vs.toArray w fun e w'=>e= .returned y∧Below w.heap.size w w'):SoundF DP f (.pure (B4 R)):=by
 intro args B r B' hs F ρ w us hI hA
 obtain ⟨r',h1,h2⟩:=map_some hs
 cases h2
 obtain ⟨vs,y,rfl,hy,hc⟩:=h _ _ (IU h1)
 have hus:us=vs:=by
  apply List.ext_getElem?
  intro i
  have hl:=hA.1
  simp only[List.length_map] at hl
  rcases Nat.lt_or_ge i vs.length with hi | hi
  ·have:=hA.2 i (.p (.v vs[i])) us[i] (by rw[List.getElem?_map,List.getElem?_eq_getElem hi]; rfl) (List.getElem?_eq_getElem (by omega))
   rw[List.getElem?_eq_getElem (by omega),List.getElem?_eq_getElem hi,this.val]
  ·rw[List.getElem?_eq_none hi,List.getElem?_eq_none (by omega)]
 subst hus
 refine .inl ⟨Ev he _ _,(hc w (fun g hg=>?_)).mono fun e w' hp=>?_⟩
 ·obtain ⟨us,e,fr,g1,g2⟩:=(hI.glob g hg).sz
  refine ⟨us,e,fr,g1,?_⟩
  have hv:=(hI.glob g hg).v
  generalize hx:Glob.tab g=cs at hv g2
  have hcs:∀ p∈cs,∃ v,p=PV.v v:=by
   rw[←hx]
   have hall:∀ g,(iH g).all xF=true:=fun g=>by
    unfold iH
    split <;> rfl
   intro p hp
   have:=List.all_eq_true.1 (hall g) p hp
   cases p with
   | v x=>exact ⟨x,rfl⟩
   | _=>cases this
  cases hv with
  | rp _ a us' q1 q2 q3 q4 q5 q6=>
   apply List.ext_getElem?
   intro i
   rw[List.getElem?_map]
   rcases Nat.lt_or_ge i cs.length with hi | hi
   ·have hu:us'[i]? = some us'[i]:=List.getElem?_eq_getElem (by omega)
    have h5:=q5 i _ hu
    obtain ⟨v,hv⟩:=hcs cs[i] (List.getElem_mem hi)
    have h6:=q6 i _ _ (List.getElem?_eq_getElem hi) hu
    rw[hv] at h6
    cases h6
    rw[Addr.add_lit,Nat.zero_add,Fw g1] at h5
    rw[List.getElem?_eq_getElem hi,hv,Array.getElem?_toList,h5]
    rfl
   ·rw[List.getElem?_eq_none (by simp; omega),List.getElem?_eq_none hi]; rfl
 ·obtain ⟨rfl,hb⟩:=hp
  have hsh:∀ k e n,w.shape? k=some (e,n)→w'.shape? k=some (e,n):=fun k e n h=>by
   have hk:k<w.heap.size:=by
    rcases Nat.lt_or_ge k w.heap.size with h' | h'
    ·exact h'
    ·unfold World.shape? at h
     rw[Array.getElem?_eq_none h'] at h
     cases h
   unfold World.shape? at h ⊢
   rw[hb.block k hk]
   exact h
  obtain ⟨s1,s2⟩:=LL hb.size hb.os hb.tape hb.output hsh (fun k hk=>hb.block k hk) hI
  exact ⟨y,ρ,rfl,s2,s1,hy _ _ _ _⟩


theorem Oq {k:IntKind} (hk:k.signed=false) (z:Int):k.wrap z=z % 2 ^ k.bits:=by
 simp[IntKind.wrap,hk]
theorem MN (z:Int):IntKind.u8.wrap z=z % 256:=Oq rfl z
theorem LP (z:Int):IntKind.u32.wrap z=z % 4294967296:=Oq rfl z
theorem RD (z:Int):IntKind.u64.wrap z=z % 18446744073709551616:=Oq rfl z
theorem QM {z:Int} (h:0≤z∧z<4294967296):IntKind.u32.wrap z=z:=by rw[LP]; omega
theorem Dl {z:Int} (h:0≤z∧z<18446744073709551616):IntKind.u64.wrap z=z:=by rw[RD]; omega

def A0 (a b:Int):Int:=((a.toNat ^^^ b.toNat:Nat):Int)
def Bd (a b:Int):Int:=((a.toNat ||| b.toNat:Nat):Int)
def iT (a b:Int):Int:=((a.toNat &&& b.toNat:Nat):Int)

theorem LQ {n:Nat} {a:Int} (h0:0≤a) (h1:a.toNat<2 ^ n):(BitVec.ofInt n a).toNat=a.toNat:=by
 obtain ⟨m,rfl⟩:=Int.eq_ofNat_of_zero_le h0
 rw[BitVec.ofInt_natCast,BitVec.toNat_ofNat]
 exact Nat.mod_eq_of_lt h1
theorem pN {k:IntKind} (hk:k.signed=false) {a b:Int} (ha:0≤a∧a.toNat<2 ^ k.bits) (hb:0≤b∧b.toNat<2 ^ k.bits):k.wrap ((BitVec.ofInt k.bits a ^^^ BitVec.ofInt k.bits b).toNat:Nat)=A0 a b:=by
 rw[Oq hk,BitVec.toNat_xor,LQ ha.1 ha.2,LQ hb.1 hb.2]
 have:=Nat.xor_lt_two_pow ha.2 hb.2
 unfold A0
 have h2:((2:Int) ^ k.bits)=((2 ^ k.bits:Nat):Int):=by simp
 rw[h2,←Int.natCast_emod,Nat.mod_eq_of_lt this]
theorem pO {k:IntKind} (hk:k.signed=false) {a b:Int} (ha:0≤a∧a.toNat<2 ^ k.bits) (hb:0≤b∧b.toNat<2 ^ k.bits):k.wrap ((BitVec.ofInt k.bits a ||| BitVec.ofInt k.bits b).toNat:Nat)=Bd a b:=by
 rw[Oq hk,BitVec.toNat_or,LQ ha.1 ha.2,LQ hb.1 hb.2]
 have:=Nat.or_lt_two_pow ha.2 hb.2
 unfold Bd
 have h2:((2:Int) ^ k.bits)=((2 ^ k.bits:Nat):Int):=by simp
 rw[h2,←Int.natCast_emod,Nat.mod_eq_of_lt this]
theorem wW {k:IntKind} (hk:k.signed=false) {a b:Int} (ha:0≤a∧a.toNat<2 ^ k.bits) (hb:0≤b∧b.toNat<2 ^ k.bits):k.wrap ((BitVec.ofInt k.bits a &&& BitVec.ofInt k.bits b).toNat:Nat)=iT a b:=by
 rw[Oq hk,BitVec.toNat_and,LQ ha.1 ha.2,LQ hb.1 hb.2]
 have:=Nat.and_lt_two_pow (y:=b.toNat) a.toNat hb.2
 unfold iT
 have h2:((2:Int) ^ k.bits)=((2 ^ k.bits:Nat):Int):=by simp
 rw[h2,←Int.natCast_emod,Nat.mod_eq_of_lt this]
theorem Ht {a b:Int} (ha:0≤a∧a<4294967296) (hb:0≤b∧b<4294967296):IntKind.u32.wrap ((BitVec.ofInt IntKind.u32.bits a ^^^ BitVec.ofInt IntKind.u32.bits b).toNat)=A0 a b:=pN rfl ⟨ha.1,by show a.toNat<4294967296; omega⟩ ⟨hb.1,by show b.toNat<4294967296; omega⟩
theorem pP {a b:Int} (ha:0≤a∧a<4294967296) (hb:0≤b∧b<4294967296):IntKind.u32.wrap ((BitVec.ofInt IntKind.u32.bits a ||| BitVec.ofInt IntKind.u32.bits b).toNat)=Bd a b:=pO rfl ⟨ha.1,by show a.toNat<4294967296; omega⟩ ⟨hb.1,by show b.toNat<4294967296; omega⟩
theorem Sd {a b:Int} (ha:0≤a∧a<18446744073709551616) (hb:0≤b∧b<18446744073709551616):IntKind.u64.wrap ((BitVec.ofInt IntKind.u64.bits a ||| BitVec.ofInt IntKind.u64.bits b).toNat)=Bd a b:=pO rfl ⟨ha.1,by show a.toNat<18446744073709551616; omega⟩ ⟨hb.1,by show b.toNat<18446744073709551616; omega⟩
theorem pQ {a b:Int} (ha:0≤a∧a<256) (hb:0≤b∧b<256):IntKind.u8.wrap ((BitVec.ofInt IntKind.u8.bits a ||| BitVec.ofInt IntKind.u8.bits b).toNat)=Bd a b:=pO rfl ⟨ha.1,by show a.toNat<256; omega⟩ ⟨hb.1,by show b.toNat<256; omega⟩
theorem Vx {k:IntKind} (hk:k.signed=false) {a:Int} {m:Nat} (hm:m≤k.bits) (ha:0≤a∧a.toNat<2 ^ k.bits):k.wrap ((BitVec.ofInt k.bits a &&& BitVec.ofInt k.bits ((2 ^ m - 1:Nat):Int)).toNat)=a % ((2 ^ m:Nat):Int):=by
 have h2:2 ^ m - 1<2 ^ k.bits:=Nat.lt_of_lt_of_le (Nat.sub_lt (Nat.two_pow_pos m) Nat.one_pos) (Nat.pow_le_pow_right (by decide) hm)
 rw[wW hk ha ⟨Int.natCast_nonneg _,by rw[Int.toNat_natCast]; exact h2⟩]
 unfold iT
 rw[Int.toNat_natCast,Nat.and_two_pow_sub_one_eq_mod]
 obtain ⟨n,rfl⟩:=Int.eq_ofNat_of_zero_le ha.1
 simp
theorem Or {a:Int} (ha:0≤a∧a<4294967296):IntKind.u32.wrap ((BitVec.ofInt IntKind.u32.bits a &&& BitVec.ofInt IntKind.u32.bits 15).toNat)=a % 16:=Vx (k:= .u32) (m:=4) rfl (by decide) ⟨ha.1,by show a.toNat<4294967296; omega⟩
theorem Vy {a:Int} (ha:0≤a∧a<256):IntKind.u8.wrap ((BitVec.ofInt IntKind.u8.bits a &&& BitVec.ofInt IntKind.u8.bits 127).toNat)=a % 128:=Vx (k:= .u8) (m:=7) rfl (by decide) ⟨ha.1,by show a.toNat<256; omega⟩
theorem LR {a:Int} (ha:0≤a∧a<4294967296):IntKind.u32.wrap ((BitVec.ofInt IntKind.u32.bits IntKind.u32.max ^^^ BitVec.ofInt IntKind.u32.bits a).toNat)=4294967295 - a:=by
 rw[Ht (by decide) ha]
 obtain ⟨n,rfl⟩:=Int.eq_ofNat_of_zero_le ha.1
 unfold A0
 have hm:(IntKind.u32.max).toNat=2 ^ 32 - 1:=by decide
 rw[hm,Int.toNat_natCast,Nat.xor_comm]
 have h1:n<2 ^ 32:=by omega
 have h2:(~~~ (BitVec.ofNat 32 n)).toNat=2 ^ 32 - 1 - n:=by
  rw[BitVec.toNat_not,BitVec.toNat_ofNat,Nat.mod_eq_of_lt h1]
 have h3:n ^^^ (2 ^ 32 - 1)=2 ^ 32 - 1 - n:=by
  rw[←h2,BitVec.toNat_not,BitVec.toNat_ofNat,Nat.mod_eq_of_lt h1]
  apply Nat.eq_of_testBit_eq
  intro i
  rw[Nat.testBit_xor,Nat.testBit_two_pow_sub_one]
  have h4:=Nat.testBit_two_pow_sub_succ (x:=n) (n:=32) h1 i
  have h5:2 ^ 32 - (n+1)=2 ^ 32 - 1 - n:=by omega
  rw[h5] at h4
  rw[h4]
  by_cases hi:i<32
  ·simp[hi]
  ·simp only[hi,decide_false,Bool.false_and,Bool.xor_false]
   exact Nat.testBit_lt_two_pow (Nat.lt_of_lt_of_le h1 (Nat.pow_le_pow_right (by decide) (by omega)))
 rw[h3]
 omega
theorem KN {a:Int} (b:Int) (hb:0≤b):Int.fdiv a b=a / b:=Int.fdiv_eq_ediv_of_nonneg a hb
theorem Se (a:Int):Int.fdiv a (2 ^ 4)=a / 16:=KN 16 (by decide)
theorem pR (a:Int):Int.fdiv a (2 ^ 7)=a / 128:=KN 128 (by decide)
theorem pS (a:Int):Int.fdiv a (2 ^ 8)=a / 256:=KN 256 (by decide)
theorem tV (a:Int):Int.fdiv a (2 ^ 15)=a / 32768:=KN 32768 (by decide)
theorem pT {a b:Int} {n:Nat} (ha:0≤a∧a.toNat<2 ^ n) (hb:0≤b∧b.toNat<2 ^ n):0≤A0 a b∧(A0 a b).toNat<2 ^ n:=
 ⟨Int.natCast_nonneg _,by unfold A0; rw[Int.toNat_natCast]; exact Nat.xor_lt_two_pow ha.2 hb.2⟩
theorem LS {a b:Int} (ha:0≤a∧a<4294967296) (hb:0≤b∧b<4294967296):0≤A0 a b∧A0 a b<4294967296:=by
 have:=pT (n:=32) ⟨ha.1,by show a.toNat<4294967296; omega⟩ ⟨hb.1,by show b.toNat<4294967296; omega⟩
 exact ⟨this.1,by have:=this.2; change _<4294967296 at this; omega⟩
def Ot:List Int:= [0,274646895,549293790,820201905,1098587580,1361435347,1640403810,1905808397,2197175160,2460548119,2722870694,2987750089,3280807620,3553878443,3811616794,4084100981]
def hA (i:Int):Int:=(Ot[i.toNat]?).getD 0
def hR (i:Int):List PV:=CD.drop (i.toNat+1)
def BR (x:Int):Int:=A0 (x / 16) (hA (x % 16))
def G6 (r:Int) (c:UInt8):Int:=BR (BR (A0 r (c.toNat:Int)))
def EG (s:Int) (b:List UInt8):Int:=4294967295 - b.foldl G6 (4294967295 - s)
def Ao (b:List UInt8):Int:=EG 0 b
def Au (s:Int):Int:=(Bd (s / 32768) ((s*131072) % 4294967296)+2726488792) % 4294967296

theorem QN (i:Int):0≤hA i∧hA i<4294967296:=by
 unfold hA
 have:∀ x∈Ot,0≤x∧x<4294967296:=by decide
 cases h:Ot[i.toNat]? with
 | none=>exact ⟨Int.le_refl _,by decide⟩
 | some x=>exact this x (List.mem_of_getElem? h)
theorem LT {x:Int} (h:0≤x∧x<4294967296):0≤BR x∧BR x<4294967296:=LS (by omega) (QN _)
theorem G7 (c:UInt8):0≤(c.toNat:Int)∧(c.toNat:Int)<256:=by have:=c.toNat_lt; omega
theorem mM {r:Int} (h:0≤r∧r<4294967296) (c:UInt8):0≤G6 r c∧G6 r c<4294967296:=LT (LT (LS h (by have:=G7 c; omega)))
theorem Jp {r:Int} (h:0≤r∧r<4294967296) (b:List UInt8):0≤b.foldl G6 r∧b.foldl G6 r<4294967296:=by
 induction b generalizing r with
 | nil=>exact h
 | cons c b ih=>exact ih (mM h c)
theorem mN {s:Int} (h:0≤s∧s<4294967296) (b:List UInt8):0≤EG s b∧EG s b<4294967296:=by
 have:=Jp (r:=4294967295 - s) (by omega) b
 unfold EG; omega
theorem NZ (b:List UInt8):0≤Ao b∧Ao b<4294967296:=mN (by decide) b
theorem JU (s:Int):0≤Au s∧Au s<4294967296:=by unfold Au; omega

theorem tW:BE DP 161 (.rp CD) (vn .u32 0)=some (.rp (.v (.int .u32 (hA 0))::hR 0)):=by kernel_rfl
theorem tX:BE DP 161 (.rp CD) (vn .u32 1)=some (.rp (.v (.int .u32 (hA 1))::hR 1)):=by kernel_rfl
theorem tY:BE DP 161 (.rp CD) (vn .u32 2)=some (.rp (.v (.int .u32 (hA 2))::hR 2)):=by kernel_rfl
theorem tZ:BE DP 161 (.rp CD) (vn .u32 3)=some (.rp (.v (.int .u32 (hA 3))::hR 3)):=by kernel_rfl
theorem ta:BE DP 161 (.rp CD) (vn .u32 4)=some (.rp (.v (.int .u32 (hA 4))::hR 4)):=by kernel_rfl
theorem tb:BE DP 161 (.rp CD) (vn .u32 5)=some (.rp (.v (.int .u32 (hA 5))::hR 5)):=by kernel_rfl
theorem tc:BE DP 161 (.rp CD) (vn .u32 6)=some (.rp (.v (.int .u32 (hA 6))::hR 6)):=by kernel_rfl
theorem te:BE DP 161 (.rp CD) (vn .u32 7)=some (.rp (.v (.int .u32 (hA 7))::hR 7)):=by kernel_rfl
theorem tf:BE DP 161 (.rp CD) (vn .u32 8)=some (.rp (.v (.int .u32 (hA 8))::hR 8)):=by kernel_rfl
theorem tg:BE DP 161 (.rp CD) (vn .u32 9)=some (.rp (.v (.int .u32 (hA 9))::hR 9)):=by kernel_rfl
theorem pU:BE DP 161 (.rp CD) (vn .u32 10)=some (.rp (.v (.int .u32 (hA 10))::hR 10)):=by kernel_rfl
theorem pV:BE DP 161 (.rp CD) (vn .u32 11)=some (.rp (.v (.int .u32 (hA 11))::hR 11)):=by kernel_rfl
theorem pW:BE DP 161 (.rp CD) (vn .u32 12)=some (.rp (.v (.int .u32 (hA 12))::hR 12)):=by kernel_rfl
theorem pX:BE DP 161 (.rp CD) (vn .u32 13)=some (.rp (.v (.int .u32 (hA 13))::hR 13)):=by kernel_rfl
theorem pY:BE DP 161 (.rp CD) (vn .u32 14)=some (.rp (.v (.int .u32 (hA 14))::hR 14)):=by kernel_rfl
theorem pZ:BE DP 161 (.rp CD) (vn .u32 15)=some (.rp (.v (.int .u32 (hA 15))::hR 15)):=by kernel_rfl
theorem Ha {i:Int} (h:0≤i∧i<16):BE DP 161 (.rp CD) (vn .u32 i)=some (.rp (.v (.int .u32 (hA i))::hR i)):=by
 have hn2:i=0∨i=1∨i=2∨i=3∨i=4∨i=5∨i=6∨i=7∨i=8∨i=9∨i=10∨i=11∨i=12∨i=13∨i=14∨i=15:=by omega
 rcases hn2 with rfl | rfl | rfl | rfl | rfl | rfl | rfl | rfl | rfl | rfl | rfl | rfl | rfl | rfl | rfl | rfl
 ·exact tW
 ·exact tX
 ·exact tY
 ·exact tZ
 ·exact ta
 ·exact tb
 ·exact tc
 ·exact te
 ·exact tf
 ·exact tg
 ·exact pU
 ·exact pV
 ·exact pW
 ·exact pX
 ·exact pY
 ·exact pZ

def F7 (n:Nat):List UInt8:=if h:n<128 then [UInt8.ofNat n] else UInt8.ofNat (n % 128+128)::F7 (n / 128)
termination_by n
decreasing_by omega
def AD (n:Int):List UInt8:=F7 n.toNat
def IY (n:Nat):Nat→List UInt8
 | 0=> []
 | k+1=>UInt8.ofNat (n % 256)::IY (n / 256) k
def AW (n k:Int):List UInt8:=IY n.toNat k.toNat
def Hb:List UInt8→Nat
 | []=>0
 | c::r=>c.toNat+256*Hb r
def AO (b:List UInt8):Int:=Hb (b.take 8)
def Db:Nat→Nat→List UInt8→Nat×Nat×Nat
 | _,_,[]=>(0,0,8)
 | i,a,c::r=>if i=9∧1<c.toNat then (0,0,2) else if c.toNat<128 then (if c.toNat=0∧0<i then (0,0,2) else (a+c.toNat*2 ^ (7*i),i+1,0)) else Db (i+1) (a+c.toNat % 128*2 ^ (7*i)) r
def AJ (b:List UInt8):Int×Int×Int:=((Db 0 0 b).1,(Db 0 0 b).2.1,(Db 0 0 b).2.2)

def AN (d:List UInt8):List UInt8:=AW d.length 4++AW (Au (Ao (AW d.length 4))) 4++AW (Au (Ao d)) 4++d
def CI (b:List UInt8):List UInt8×Int×Int:=
 if b.length<12 then ([],0,8) else
 if AO ((b.take 8).drop 4) % 4294967296≠Au (Ao (b.take 4))∨AO (b.take 4)>1048576 then ([],0,12) else
 if (b.length:Int)<12+AO (b.take 4) then ([],0,8) else
 if AO ((b.take 12).drop 8) % 4294967296≠Au (Ao ((b.take (12+AO (b.take 4)).toNat).drop 12)) then ([],0,12) else
 ((b.take (12+AO (b.take 4)).toNat).drop 12,12+AO (b.take 4),0)

abbrev Sf:Nat:=62
noncomputable abbrev iU:Func:=Tryd.f62
theorem th:DP.funcs[Sf]? = some iU:=by kernel_rfl
theorem ti:Ak DP Sf=true:=by kernel_rfl
theorem tj:iU.body.isSome=true:=by kernel_rfl
theorem k7:iU.ntmps=20:=by kernel_rfl
abbrev Sg:Nat:=87
noncomputable abbrev iV:Func:=Tryd.f87
theorem tp:DP.funcs[Sg]? = some iV:=by kernel_rfl
theorem tq:Ak DP Sg=true:=by kernel_rfl
theorem tt:iV.body.isSome=true:=by kernel_rfl
theorem k8:iV.ntmps=19:=by kernel_rfl
abbrev KO:Nat:=65
noncomputable abbrev ap:Func:=Tryd.f65
theorem eB:DP.funcs[KO]? = some ap:=by kernel_rfl
theorem eC:Ak DP KO=true:=by kernel_rfl
theorem eD:ap.body.isSome=true:=by kernel_rfl
theorem Vz:ap.ntmps=13:=by kernel_rfl
abbrev I0:Nat:=94
noncomputable abbrev aq:Func:=Tryd.f94
theorem V0:DP.funcs[I0]? = some aq:=by kernel_rfl
theorem V1:Ak DP I0=true:=by kernel_rfl
theorem V2:aq.body.isSome=true:=by kernel_rfl
theorem eE:aq.ntmps=37:=by kernel_rfl
abbrev MO:Nat:=89
noncomputable abbrev iW:Func:=Tryd.f89
theorem ar:DP.funcs[MO]? = some iW:=by kernel_rfl
theorem au:Ak DP MO=true:=by kernel_rfl
theorem aw:iW.body.isSome=true:=by kernel_rfl
theorem k9:iW.ntmps=5:=by kernel_rfl
abbrev RE:Nat:=88
noncomputable abbrev lA:Func:=Tryd.f88
theorem pa:DP.funcs[RE]? = some lA:=by kernel_rfl
theorem pb:Ak DP RE=true:=by kernel_rfl
theorem pc:lA.body.isSome=true:=by kernel_rfl
abbrev JV:Nat:=41
noncomputable abbrev ZR:Func:=Tryd.f41
theorem iX:DP.funcs[JV]? = some ZR:=by kernel_rfl
theorem iY:Ak DP JV=true:=by kernel_rfl
theorem iZ:ZR.body.isSome=true:=by kernel_rfl
abbrev Sh:Nat:=91
noncomputable abbrev pd:Func:=Tryd.f91
theorem tu:DP.funcs[Sh]? = some pd:=by kernel_rfl
theorem tv:Ak DP Sh=true:=by kernel_rfl
theorem tw:pd.body.isSome=true:=by kernel_rfl
noncomputable def Hu (s1:(List UInt8)×Int):St:=([(0, .rs 0 0 1 0 s1.1.length),(1,vn .u64 s1.2)],[AA.bx 0 s1.1])
noncomputable def Kz (x1:Int×(List UInt8)):AE×St:=((.exit 0),([(0, .rs 0 0 1 0 x1.2.length),(1,vn .u64 x1.1)],[AA.bx 0 x1.2]))
noncomputable def Hv (s1:(List UInt8)×Int):Tree:=
.sp 6 (decide (s1.2≥(128:Int))) (
.int 9 (IntKind.u8.wrap s1.2) (s1.2 % 256) (.int 10 (IntKind.u8.wrap ((BitVec.ofInt IntKind.u8.bits (s1.2 % 256) ||| BitVec.ofInt IntKind.u8.bits 128).toNat)) (Bd (s1.2 % 256) 128) (.app 12 (.row 1 ([vn .u8 (Bd (s1.2 % 256) 128)])) s1.1.length (rowC (s1.1.map AA.f)) AA s1.1 ([(UInt8.ofNat (Int.toNat (Bd (s1.2 % 256) 128)))]) (.int 14 (Int.fdiv s1.2 (2 ^ 7)) (s1.2 / 128) (.leaf ⟨[0,1],[(0,1,some ((s1.1++([(UInt8.ofNat (Int.toNat (Bd (s1.2 % 256) 128)))])).map AA.f))]⟩ [rowC ((s1.1++([(UInt8.ofNat (Int.toNat (Bd (s1.2 % 256) 128)))])).map AA.f)] .normal (some (Hu (s1.1++([(UInt8.ofNat (Int.toNat (Bd (s1.2 % 256) 128)))]),s1.2 / 128)))))))) (
.leaf ⟨[0,1],[(0,0,some (s1.1.map AA.f))]⟩ [rowC (s1.1.map AA.f)] (.exit 0) (some (Kz (s1.2,s1.1)).2))
noncomputable def V3 (n:Int):Tree:=
.nilrow 0 1 (.loop ⟨[0,1],[(0,0,some (([]:List UInt8).map AA.f))]⟩ [rowC (([]:List UInt8).map AA.f)] (some (Hu (([]:List UInt8),n))) (Hu) (Kz) CN (([]:List UInt8),n) (Hv) (fun (x1:Int×(List UInt8))=> .int 17 (IntKind.u8.wrap x1.1) (x1.1 % 256) (.app 19 (.row 1 ([vn .u8 (x1.1 % 256)])) x1.2.length (rowC (x1.2.map AA.f)) AA x1.2 ([(UInt8.ofNat (Int.toNat (x1.1 % 256)))]) (.leaf ⟨[0],[(0,1,some ((x1.2++([(UInt8.ofNat (Int.toNat (x1.1 % 256)))])).map AA.f))]⟩ [rowC ((x1.2++([(UInt8.ofNat (Int.toNat (x1.1 % 256)))])).map AA.f)] .ret (some ([(0, .rs 0 0 1 0 ((x1.2++([(UInt8.ofNat (Int.toNat (x1.1 % 256)))])).length))],[AA.bx 0 (x1.2++([(UInt8.ofNat (Int.toNat (x1.1 % 256)))]))]))))) (fun _=> .stuck))

theorem ax (n:Int):Av DP Γ0 Δ0 Tryd.f62 [AI,vn .u64 n] [] (V3 n)=V3 n:=by kernel_rfl

noncomputable def Hw (k:Int) (s1:(List UInt8)×Int×Int):St:=([(0, .rs 0 0 1 0 s1.1.length),(1,vn .u64 s1.2.1),(7,vi k),(8,vi s1.2.2)],[AA.bx 0 s1.1])
noncomputable def K0 (x1:(List UInt8)):AE×St:=((.exit 0),([(0, .rs 0 0 1 0 x1.length)],[AA.bx 0 x1]))
noncomputable def Hx (k:Int) (s1:(List UInt8)×Int×Int):Tree:=
.sp 9 (decide (s1.2.2<k)) (
.int 12 (IntKind.u8.wrap s1.2.1) (s1.2.1 % 256) (.app 14 (.row 1 ([vn .u8 (s1.2.1 % 256)])) s1.1.length (rowC (s1.1.map AA.f)) AA s1.1 ([(UInt8.ofNat (Int.toNat (s1.2.1 % 256)))]) (.int 16 (Int.fdiv s1.2.1 (2 ^ 8)) (s1.2.1 / 256) (.int 17 (IntKind.i64.wrap (s1.2.2+1)) (s1.2.2+1) (.leaf ⟨[0,1,7,8],[(0,1,some ((s1.1++([(UInt8.ofNat (Int.toNat (s1.2.1 % 256)))])).map AA.f))]⟩ [rowC ((s1.1++([(UInt8.ofNat (Int.toNat (s1.2.1 % 256)))])).map AA.f)] .normal (some (Hw k (s1.1++([(UInt8.ofNat (Int.toNat (s1.2.1 % 256)))]),s1.2.1 / 256,s1.2.2+1)))))))) (
.leaf ⟨[0],[(0,0,some (s1.1.map AA.f))]⟩ [rowC (s1.1.map AA.f)] (.exit 0) (some (K0 s1.1).2))
noncomputable def V4 (n:Int) (k:Int):Tree:=
.nilrow 0 1 (.loop ⟨[0,1,7,8],[(0,0,some (([]:List UInt8).map AA.f))]⟩ [rowC (([]:List UInt8).map AA.f)] (some (Hw k (([]:List UInt8),n,0))) (Hw k) (K0) CN (([]:List UInt8),n,0) (Hx k) (fun (x1:(List UInt8))=> .leaf ⟨[0],[(0,0,some (x1.map AA.f))]⟩ [rowC (x1.map AA.f)] .ret (some ([(0, .rs 0 0 1 0 x1.length)],[AA.bx 0 x1]))) (fun _=> .stuck))

theorem ay (n:Int) (k:Int):Av DP Γ0 Δ0 Tryd.f87 [AI,vn .u64 n,vi k] [] (V4 n k)=V4 n k:=by kernel_rfl

noncomputable def Hy (s1:(List UInt8)×Int):St:=([(0, .rs 1 0 1 0 s1.1.length),(1,vn .u64 s1.2)],[AA.bx 1 ([]:List UInt8),AA.bx 0 s1.1])
noncomputable def K1 (x1:Int×(List UInt8)):AE×St:=((.exit 0),([(0, .rs 1 0 1 0 x1.2.length),(1,vn .u64 x1.1)],[AA.bx 1 ([]:List UInt8),AA.bx 0 x1.2]))
noncomputable def Hz (s1:(List UInt8)×Int):Tree:=
.sp 6 (decide (s1.2≥(128:Int))) (
.int 9 (IntKind.u8.wrap s1.2) (s1.2 % 256) (.int 10 (IntKind.u8.wrap ((BitVec.ofInt IntKind.u8.bits (s1.2 % 256) ||| BitVec.ofInt IntKind.u8.bits 128).toNat)) (Bd (s1.2 % 256) 128) (.app 12 (.row 1 ([vn .u8 (Bd (s1.2 % 256) 128)])) s1.1.length (rowC (s1.1.map AA.f)) AA s1.1 ([(UInt8.ofNat (Int.toNat (Bd (s1.2 % 256) 128)))]) (.int 14 (Int.fdiv s1.2 (2 ^ 7)) (s1.2 / 128) (.leaf ⟨[0,1],[(0,0,some (([]:List UInt8).map AA.f)),(1,1,some ((s1.1++([(UInt8.ofNat (Int.toNat (Bd (s1.2 % 256) 128)))])).map AA.f))]⟩ [rowC (([]:List UInt8).map AA.f),rowC ((s1.1++([(UInt8.ofNat (Int.toNat (Bd (s1.2 % 256) 128)))])).map AA.f)] .normal (some (Hy (s1.1++([(UInt8.ofNat (Int.toNat (Bd (s1.2 % 256) 128)))]),s1.2 / 128)))))))) (
.leaf ⟨[0,1],[(0,0,some (([]:List UInt8).map AA.f)),(1,0,some (s1.1.map AA.f))]⟩ [rowC (([]:List UInt8).map AA.f),rowC (s1.1.map AA.f)] (.exit 0) (some (K1 (s1.2,s1.1)).2))
noncomputable def V5 (L:List UInt8) (n:Int):Tree:=
.mvrow 0 (.loop ⟨[0,1],[(0,0,some (([]:List UInt8).map AA.f)),(1,0,some (L.map AA.f))]⟩ [rowC (([]:List UInt8).map AA.f),rowC (L.map AA.f)] (some (Hy (L,n))) (Hy) (K1) CN (L,n) (Hz) (fun (x1:Int×(List UInt8))=> .int 17 (IntKind.u8.wrap x1.1) (x1.1 % 256) (.app 19 (.row 1 ([vn .u8 (x1.1 % 256)])) x1.2.length (rowC (x1.2.map AA.f)) AA x1.2 ([(UInt8.ofNat (Int.toNat (x1.1 % 256)))]) (.leaf ⟨[0],[(0,0,some (([]:List UInt8).map AA.f)),(1,1,some ((x1.2++([(UInt8.ofNat (Int.toNat (x1.1 % 256)))])).map AA.f))]⟩ [rowC (([]:List UInt8).map AA.f),rowC ((x1.2++([(UInt8.ofNat (Int.toNat (x1.1 % 256)))])).map AA.f)] .ret (some ([(0, .rs 1 0 1 0 ((x1.2++([(UInt8.ofNat (Int.toNat (x1.1 % 256)))])).length))],[AA.bx 1 ([]:List UInt8),AA.bx 0 (x1.2++([(UInt8.ofNat (Int.toNat (x1.1 % 256)))]))]))))) (fun _=> .stuck))

theorem az (L:List UInt8) (n:Int):Av DP Γ0 Δ0 Tryd.f62 [.rs 0 0 1 0 L.length,vn .u64 n] [AA.bx 0 L] (V5 L n)=V5 L n:=by kernel_rfl

noncomputable def H0 (k:Int) (s1:(List UInt8)×Int×Int):St:=([(0, .rs 1 0 1 0 s1.1.length),(1,vn .u64 s1.2.1),(7,vi k),(8,vi s1.2.2)],[AA.bx 1 ([]:List UInt8),AA.bx 0 s1.1])
noncomputable def K2 (x1:(List UInt8)):AE×St:=((.exit 0),([(0, .rs 1 0 1 0 x1.length)],[AA.bx 1 ([]:List UInt8),AA.bx 0 x1]))
noncomputable def H1 (k:Int) (s1:(List UInt8)×Int×Int):Tree:=
.sp 9 (decide (s1.2.2<k)) (
.int 12 (IntKind.u8.wrap s1.2.1) (s1.2.1 % 256) (.app 14 (.row 1 ([vn .u8 (s1.2.1 % 256)])) s1.1.length (rowC (s1.1.map AA.f)) AA s1.1 ([(UInt8.ofNat (Int.toNat (s1.2.1 % 256)))]) (.int 16 (Int.fdiv s1.2.1 (2 ^ 8)) (s1.2.1 / 256) (.int 17 (IntKind.i64.wrap (s1.2.2+1)) (s1.2.2+1) (.leaf ⟨[0,1,7,8],[(0,0,some (([]:List UInt8).map AA.f)),(1,1,some ((s1.1++([(UInt8.ofNat (Int.toNat (s1.2.1 % 256)))])).map AA.f))]⟩ [rowC (([]:List UInt8).map AA.f),rowC ((s1.1++([(UInt8.ofNat (Int.toNat (s1.2.1 % 256)))])).map AA.f)] .normal (some (H0 k (s1.1++([(UInt8.ofNat (Int.toNat (s1.2.1 % 256)))]),s1.2.1 / 256,s1.2.2+1)))))))) (
.leaf ⟨[0],[(0,0,some (([]:List UInt8).map AA.f)),(1,0,some (s1.1.map AA.f))]⟩ [rowC (([]:List UInt8).map AA.f),rowC (s1.1.map AA.f)] (.exit 0) (some (K2 s1.1).2))
noncomputable def V6 (L:List UInt8) (n:Int) (k:Int):Tree:=
.mvrow 0 (.loop ⟨[0,1,7,8],[(0,0,some (([]:List UInt8).map AA.f)),(1,0,some (L.map AA.f))]⟩ [rowC (([]:List UInt8).map AA.f),rowC (L.map AA.f)] (some (H0 k (L,n,0))) (H0 k) (K2) CN (L,n,0) (H1 k) (fun (x1:(List UInt8))=> .leaf ⟨[0],[(0,0,some (([]:List UInt8).map AA.f)),(1,0,some (x1.map AA.f))]⟩ [rowC (([]:List UInt8).map AA.f),rowC (x1.map AA.f)] .ret (some ([(0, .rs 1 0 1 0 x1.length)],[AA.bx 1 ([]:List UInt8),AA.bx 0 x1]))) (fun _=> .stuck))

theorem a8 (L:List UInt8) (n:Int) (k:Int):Av DP Γ0 Δ0 Tryd.f87 [.rs 0 0 1 0 L.length,vn .u64 n,vi k] [AA.bx 0 L] (V6 L n k)=V6 L n k:=by kernel_rfl

noncomputable def I1 (b:List UInt8) (s1:Int×Int):St:=([(5,vn .u32 s1.2),(10,vl (b.map AA.f)),(11,vi (b.length:Int)),(12,vi s1.1)],[])
noncomputable def MP (x1:Int):AE×St:=((.exit 0),([(5,vn .u32 x1)],[]))
noncomputable def I3 (b:List UInt8) (s1:Int×Int):Tree:=
.sp 13 (decide (s1.1<(b.length:Int))) (
.elem 14 (b.map AA.f) AA b s1.1 (fun e1=> .int 18 (IntKind.u32.wrap (e1.toNat:Int)) ((e1.toNat:Int)) (.int 19 (IntKind.u32.wrap ((BitVec.ofInt IntKind.u32.bits s1.2 ^^^ BitVec.ofInt IntKind.u32.bits (e1.toNat:Int)).toNat)) (A0 s1.2 (e1.toNat:Int)) (.int 21 (Int.fdiv (A0 s1.2 (e1.toNat:Int)) (2 ^ 4)) ((A0 s1.2 (e1.toNat:Int)) / 16) (.int 23 (IntKind.u32.wrap ((BitVec.ofInt IntKind.u32.bits (A0 s1.2 (e1.toNat:Int)) &&& BitVec.ofInt IntKind.u32.bits 15).toNat)) ((A0 s1.2 (e1.toNat:Int)) % 16) (.val (some 24) ((BE DP 161 (.rp CD) (vn .u32 ((A0 s1.2 (e1.toNat:Int)) % 16))).map (fun v=>(v,([]:List Box)))=some (.rp ((.v (.int .u32 (hA ((A0 s1.2 (e1.toNat:Int)) % 16))))::hR ((A0 s1.2 (e1.toNat:Int)) % 16)),[])) (.rp ((.v (.int .u32 (hA ((A0 s1.2 (e1.toNat:Int)) % 16))))::hR ((A0 s1.2 (e1.toNat:Int)) % 16))) [] (.int 26 (IntKind.u32.wrap ((BitVec.ofInt IntKind.u32.bits ((A0 s1.2 (e1.toNat:Int)) / 16) ^^^ BitVec.ofInt IntKind.u32.bits (hA ((A0 s1.2 (e1.toNat:Int)) % 16))).toNat)) (BR (A0 s1.2 (e1.toNat:Int))) (.int 28 (Int.fdiv (BR (A0 s1.2 (e1.toNat:Int))) (2 ^ 4)) ((BR (A0 s1.2 (e1.toNat:Int))) / 16) (.int 30 (IntKind.u32.wrap ((BitVec.ofInt IntKind.u32.bits (BR (A0 s1.2 (e1.toNat:Int))) &&& BitVec.ofInt IntKind.u32.bits 15).toNat)) ((BR (A0 s1.2 (e1.toNat:Int))) % 16) (.val (some 31) ((BE DP 161 (.rp CD) (vn .u32 ((BR (A0 s1.2 (e1.toNat:Int))) % 16))).map (fun v=>(v,([]:List Box)))=some (.rp ((.v (.int .u32 (hA ((BR (A0 s1.2 (e1.toNat:Int))) % 16))))::hR ((BR (A0 s1.2 (e1.toNat:Int))) % 16)),[])) (.rp ((.v (.int .u32 (hA ((BR (A0 s1.2 (e1.toNat:Int))) % 16))))::hR ((BR (A0 s1.2 (e1.toNat:Int))) % 16))) [] (.int 33 (IntKind.u32.wrap ((BitVec.ofInt IntKind.u32.bits ((BR (A0 s1.2 (e1.toNat:Int))) / 16) ^^^ BitVec.ofInt IntKind.u32.bits (hA ((BR (A0 s1.2 (e1.toNat:Int))) % 16))).toNat)) (BR (BR (A0 s1.2 (e1.toNat:Int)))) (.int 34 (IntKind.i64.wrap (s1.1+1)) (s1.1+1) (.leaf ⟨[5,10,11,12],[]⟩ [] .normal (some (I1 b (s1.1+1,BR (BR (A0 s1.2 (e1.toNat:Int))))))))))))))))))) (
.leaf ⟨[5],[]⟩ [] (.exit 0) (some (MP s1.2).2))
noncomputable def bA (s:Int) (b:List UInt8):Tree:=
.int 9 (IntKind.u32.wrap ((BitVec.ofInt IntKind.u32.bits IntKind.u32.max ^^^ BitVec.ofInt IntKind.u32.bits s).toNat)) (4294967295 - s) (.int 11 ((b.map AA.f).length:Int) (b.length:Int) (.loop ⟨[5,10,11,12],[]⟩ [] (some (I1 b (0,4294967295 - s))) (I1 b) (MP) CN (0,4294967295 - s) (I3 b) (fun (x1:Int)=> .int 36 (IntKind.u32.wrap ((BitVec.ofInt IntKind.u32.bits IntKind.u32.max ^^^ BitVec.ofInt IntKind.u32.bits x1).toNat)) (4294967295 - x1) (.leaf ⟨[0],[]⟩ [] .ret (some ([(0,vn .u32 (4294967295 - x1))],[])))) (fun _=> .stuck)))

theorem eF (s:Int) (b:List UInt8):Av DP Γ0 Δ0 Tryd.f94 [vn .u32 s,vl (b.map AA.f)] [] (bA s b)=bA s b:=by kernel_rfl

noncomputable def H3 (L:List UInt8) (s1:Int×Int):St:=([(5,vn .u32 s1.2),(10, .rs 0 0 1 0 L.length),(11,vi ((L.length:Nat):Int)),(12,vi s1.1)],[AA.bx 0 L])
noncomputable def K3 (L:List UInt8) (x1:Int):AE×St:=((.exit 0),([(5,vn .u32 x1)],[AA.bx 0 L]))
noncomputable def H4 (L:List UInt8) (s1:Int×Int):Tree:=
.sp 13 (decide (s1.1<((L.length:Nat):Int))) (
.ridx 14 L.length s1.1 (.rload 15 (rowC (L.map AA.f)) (0+Int.toNat s1.1*1) AA L s1.1 0 (fun e1=> .int 18 (IntKind.u32.wrap (e1.toNat:Int)) ((e1.toNat:Int)) (.int 19 (IntKind.u32.wrap ((BitVec.ofInt IntKind.u32.bits s1.2 ^^^ BitVec.ofInt IntKind.u32.bits (e1.toNat:Int)).toNat)) (A0 s1.2 (e1.toNat:Int)) (.int 21 (Int.fdiv (A0 s1.2 (e1.toNat:Int)) (2 ^ 4)) ((A0 s1.2 (e1.toNat:Int)) / 16) (.int 23 (IntKind.u32.wrap ((BitVec.ofInt IntKind.u32.bits (A0 s1.2 (e1.toNat:Int)) &&& BitVec.ofInt IntKind.u32.bits 15).toNat)) ((A0 s1.2 (e1.toNat:Int)) % 16) (.val (some 24) ((BE DP 161 (.rp CD) (vn .u32 ((A0 s1.2 (e1.toNat:Int)) % 16))).map (fun v=>(v,([AA.bx 0 L]:List Box)))=some (.rp ((.v (.int .u32 (hA ((A0 s1.2 (e1.toNat:Int)) % 16))))::hR ((A0 s1.2 (e1.toNat:Int)) % 16)),[AA.bx 0 L])) (.rp ((.v (.int .u32 (hA ((A0 s1.2 (e1.toNat:Int)) % 16))))::hR ((A0 s1.2 (e1.toNat:Int)) % 16))) [AA.bx 0 L] (.int 26 (IntKind.u32.wrap ((BitVec.ofInt IntKind.u32.bits ((A0 s1.2 (e1.toNat:Int)) / 16) ^^^ BitVec.ofInt IntKind.u32.bits (hA ((A0 s1.2 (e1.toNat:Int)) % 16))).toNat)) (BR (A0 s1.2 (e1.toNat:Int))) (.int 28 (Int.fdiv (BR (A0 s1.2 (e1.toNat:Int))) (2 ^ 4)) ((BR (A0 s1.2 (e1.toNat:Int))) / 16) (.int 30 (IntKind.u32.wrap ((BitVec.ofInt IntKind.u32.bits (BR (A0 s1.2 (e1.toNat:Int))) &&& BitVec.ofInt IntKind.u32.bits 15).toNat)) ((BR (A0 s1.2 (e1.toNat:Int))) % 16) (.val (some 31) ((BE DP 161 (.rp CD) (vn .u32 ((BR (A0 s1.2 (e1.toNat:Int))) % 16))).map (fun v=>(v,([AA.bx 0 L]:List Box)))=some (.rp ((.v (.int .u32 (hA ((BR (A0 s1.2 (e1.toNat:Int))) % 16))))::hR ((BR (A0 s1.2 (e1.toNat:Int))) % 16)),[AA.bx 0 L])) (.rp ((.v (.int .u32 (hA ((BR (A0 s1.2 (e1.toNat:Int))) % 16))))::hR ((BR (A0 s1.2 (e1.toNat:Int))) % 16))) [AA.bx 0 L] (.int 33 (IntKind.u32.wrap ((BitVec.ofInt IntKind.u32.bits ((BR (A0 s1.2 (e1.toNat:Int))) / 16) ^^^ BitVec.ofInt IntKind.u32.bits (hA ((BR (A0 s1.2 (e1.toNat:Int))) % 16))).toNat)) (BR (BR (A0 s1.2 (e1.toNat:Int)))) (.int 34 (IntKind.i64.wrap (s1.1+1)) (s1.1+1) (.leaf ⟨[5,10,11,12],[(0,0,some (L.map AA.f))]⟩ [rowC (L.map AA.f)] .normal (some (H3 L (s1.1+1,BR (BR (A0 s1.2 (e1.toNat:Int)))))))))))))))))))) (
.leaf ⟨[5],[(0,0,some (L.map AA.f))]⟩ [rowC (L.map AA.f)] (.exit 0) (some (K3 L s1.2).2))
noncomputable def V7 (s:Int) (L:List UInt8):Tree:=
.int 9 (IntKind.u32.wrap ((BitVec.ofInt IntKind.u32.bits IntKind.u32.max ^^^ BitVec.ofInt IntKind.u32.bits s).toNat)) (4294967295 - s) (.loop ⟨[5,10,11,12],[(0,0,some (L.map AA.f))]⟩ [rowC (L.map AA.f)] (some (H3 L (0,4294967295 - s))) (H3 L) (K3 L) CN (0,4294967295 - s) (H4 L) (fun (x1:Int)=> .int 36 (IntKind.u32.wrap ((BitVec.ofInt IntKind.u32.bits IntKind.u32.max ^^^ BitVec.ofInt IntKind.u32.bits x1).toNat)) (4294967295 - x1) (.leaf ⟨[0],[(0,0,some (L.map AA.f))]⟩ [rowC (L.map AA.f)] .ret (some ([(0,vn .u32 (4294967295 - x1))],[AA.bx 0 L])))) (fun _=> .stuck))

theorem bB (s:Int) (L:List UInt8):Av DP Γ0 Δ0 Tryd.f94 [vn .u32 s, .rs 0 0 1 0 L.length] [AA.bx 0 L] (V7 s L)=V7 s L:=by kernel_rfl

noncomputable def bC (s:Int):Tree:=
.int 4 (Int.fdiv s (2 ^ 15)) (s / 32768) (.int 6 (IntKind.u32.wrap (s*2 ^ 17)) ((s*131072) % 4294967296) (.int 7 (IntKind.u32.wrap ((BitVec.ofInt IntKind.u32.bits (s / 32768) ||| BitVec.ofInt IntKind.u32.bits ((s*131072) % 4294967296)).toNat)) (Bd (s / 32768) ((s*131072) % 4294967296)) (.int 8 (IntKind.u32.wrap ((Bd (s / 32768) ((s*131072) % 4294967296))+2726488792)) (((Bd (s / 32768) ((s*131072) % 4294967296))+2726488792) % 4294967296) (.leaf ⟨[0],[]⟩ [] .ret (some ([(0,vn .u32 (((Bd (s / 32768) ((s*131072) % 4294967296))+2726488792) % 4294967296))],[]))))))

theorem eG (s:Int):Av DP Γ0 Δ0 Tryd.f88 [vn .u32 s] [] (bC s)=bC s:=by kernel_rfl

noncomputable def G8 (b:List UInt8) (s1:Int×Int):St:=([(0,vl (b.map AA.f)),(3,vn .u64 s1.1),(4,vi s1.2)],[])
noncomputable def Jq (x1:Int):AE×St:=((.exit 0),([(3,vn .u64 x1)],[]))
noncomputable def G9 (b:List UInt8) (s1:Int×Int):Tree:=
.sp 10 (decide (s1.2≥(0:Int))) (
.int 14 (IntKind.u64.wrap (s1.1*2 ^ 8)) ((s1.1*256) % 18446744073709551616) (.elem 17 (b.map AA.f) AA b s1.2 (fun e1=> .int 19 (IntKind.u64.wrap (e1.toNat:Int)) ((e1.toNat:Int)) (.int 20 (IntKind.u64.wrap ((BitVec.ofInt IntKind.u64.bits ((s1.1*256) % 18446744073709551616) ||| BitVec.ofInt IntKind.u64.bits (e1.toNat:Int)).toNat)) (Bd ((s1.1*256) % 18446744073709551616) (e1.toNat:Int)) (.int 12 (IntKind.i64.wrap (s1.2 - 1)) (s1.2 - 1) (.leaf ⟨[0,3,4],[]⟩ [] .normal (some (G8 b (Bd ((s1.1*256) % 18446744073709551616) (e1.toNat:Int),s1.2 - 1))))))))) (
.leaf ⟨[3],[]⟩ [] (.exit 0) (some (Jq s1.1).2))
noncomputable def Si (b:List UInt8):Tree:=
.int 6 ((b.map AA.f).length:Int) (b.length:Int) (.int 8 (IntKind.i64.wrap ((if (8:Int)<((b.length:Int):Int) then (8:Int) else ((b.length:Int):Int)) - 1)) ((if (8:Int)<((b.length:Int):Int) then (8:Int) else ((b.length:Int):Int)) - 1) (.loop ⟨[0,3,4],[]⟩ [] (some (G8 b (0,(if (8:Int)<((b.length:Int):Int) then (8:Int) else ((b.length:Int):Int)) - 1))) (G8 b) (Jq) CN (0,(if (8:Int)<((b.length:Int):Int) then (8:Int) else ((b.length:Int):Int)) - 1) (G9 b) (fun (x1:Int)=> .leaf ⟨[0],[]⟩ [] .ret (some ([(0,vn .u64 x1)],[]))) (fun _=> .stuck)))

theorem YW (b:List UInt8):Av DP Γ0 Δ0 Tryd.f41 [vl (b.map AA.f)] [] (Si b)=Si b:=by kernel_rfl

noncomputable def Fi (b:List UInt8) (s1:Int×Int):St:=([(5,vn .u64 s1.2),(8,vl (b.map AA.f)),(9,vi (b.length:Int)),(10,vi s1.1)],[])
noncomputable def Dw (x1:Int×Int×Int):AE×St:=(.ret,([(2,vn .u64 x1.1),(3,vi x1.2.1),(4,vi x1.2.2)],[]))
noncomputable def I4 (y1:Unit):AE×St:=((.exit 0),([],[]))
noncomputable def ER (b:List UInt8) (s1:Int×Int):Tree:=
.sp 11 (decide (s1.1<(b.length:Int))) (
.elem 13 (b.map AA.f) AA b s1.1 (fun e1=> .sp 16 (s1.1 == (9:Int)) (
.sp 19 (decide ((e1.toNat:Int)>(1:Int))) (
.leaf ⟨[2,3,4],[]⟩ [] .ret (some (Dw (0,0,2)).2)) (
.int 23 (IntKind.u8.wrap ((BitVec.ofInt IntKind.u8.bits (e1.toNat:Int) &&& BitVec.ofInt IntKind.u8.bits 127).toNat)) ((e1.toNat:Int) % 128) (.int 24 (IntKind.u64.wrap ((e1.toNat:Int) % 128)) ((e1.toNat:Int) % 128) (.int 26 (IntKind.i64.wrap (7*s1.1)) (7*s1.1) (.val (some 27) ((Io DP .shl 28 (vn .u64 ((e1.toNat:Int) % 128)) (vi (7*s1.1))).map (fun v=>(v,([]:List Box)))=some (vn .u64 (IntKind.u64.wrap (((e1.toNat:Int) % 128)*2 ^ (min (Int.toNat (7*s1.1)) 64))),[])) (vn .u64 (IntKind.u64.wrap (((e1.toNat:Int) % 128)*2 ^ (min (Int.toNat (7*s1.1)) 64)))) [] (.int 28 (IntKind.u64.wrap ((BitVec.ofInt IntKind.u64.bits s1.2 ||| BitVec.ofInt IntKind.u64.bits (IntKind.u64.wrap (((e1.toNat:Int) % 128)*2 ^ (min (Int.toNat (7*s1.1)) 64)))).toNat)) (Bd s1.2 (IntKind.u64.wrap (((e1.toNat:Int) % 128)*2 ^ (min (Int.toNat (7*s1.1)) 64)))) (.sp 30 (decide ((e1.toNat:Int)<(128:Int))) (
.sp 32 ((e1.toNat:Int) == (0:Int)) (
.sp 35 (decide (s1.1>(0:Int))) (
.leaf ⟨[2,3,4],[]⟩ [] .ret (some (Dw (0,0,2)).2)) (
.int 39 (IntKind.i64.wrap (s1.1+1)) (s1.1+1) (.leaf ⟨[2,3,4],[]⟩ [] .ret (some (Dw (Bd s1.2 (IntKind.u64.wrap (((e1.toNat:Int) % 128)*2 ^ (min (Int.toNat (7*s1.1)) 64))),s1.1+1,0)).2)))) (
.int 39 (IntKind.i64.wrap (s1.1+1)) (s1.1+1) (.leaf ⟨[2,3,4],[]⟩ [] .ret (some (Dw (Bd s1.2 (IntKind.u64.wrap (((e1.toNat:Int) % 128)*2 ^ (min (Int.toNat (7*s1.1)) 64))),s1.1+1,0)).2)))) (
.int 40 (IntKind.i64.wrap (s1.1+1)) (s1.1+1) (.leaf ⟨[5,8,9,10],[]⟩ [] .normal (some (Fi b (s1.1+1,Bd s1.2 (IntKind.u64.wrap (((e1.toNat:Int) % 128)*2 ^ (min (Int.toNat (7*s1.1)) 64))))))))))))))) (
.int 23 (IntKind.u8.wrap ((BitVec.ofInt IntKind.u8.bits (e1.toNat:Int) &&& BitVec.ofInt IntKind.u8.bits 127).toNat)) ((e1.toNat:Int) % 128) (.int 24 (IntKind.u64.wrap ((e1.toNat:Int) % 128)) ((e1.toNat:Int) % 128) (.int 26 (IntKind.i64.wrap (7*s1.1)) (7*s1.1) (.val (some 27) ((Io DP .shl 28 (vn .u64 ((e1.toNat:Int) % 128)) (vi (7*s1.1))).map (fun v=>(v,([]:List Box)))=some (vn .u64 (IntKind.u64.wrap (((e1.toNat:Int) % 128)*2 ^ (min (Int.toNat (7*s1.1)) 64))),[])) (vn .u64 (IntKind.u64.wrap (((e1.toNat:Int) % 128)*2 ^ (min (Int.toNat (7*s1.1)) 64)))) [] (.int 28 (IntKind.u64.wrap ((BitVec.ofInt IntKind.u64.bits s1.2 ||| BitVec.ofInt IntKind.u64.bits (IntKind.u64.wrap (((e1.toNat:Int) % 128)*2 ^ (min (Int.toNat (7*s1.1)) 64)))).toNat)) (Bd s1.2 (IntKind.u64.wrap (((e1.toNat:Int) % 128)*2 ^ (min (Int.toNat (7*s1.1)) 64)))) (.sp 30 (decide ((e1.toNat:Int)<(128:Int))) (
.sp 32 ((e1.toNat:Int) == (0:Int)) (
.sp 35 (decide (s1.1>(0:Int))) (
.leaf ⟨[2,3,4],[]⟩ [] .ret (some (Dw (0,0,2)).2)) (
.int 39 (IntKind.i64.wrap (s1.1+1)) (s1.1+1) (.leaf ⟨[2,3,4],[]⟩ [] .ret (some (Dw (Bd s1.2 (IntKind.u64.wrap (((e1.toNat:Int) % 128)*2 ^ (min (Int.toNat (7*s1.1)) 64))),s1.1+1,0)).2)))) (
.int 39 (IntKind.i64.wrap (s1.1+1)) (s1.1+1) (.leaf ⟨[2,3,4],[]⟩ [] .ret (some (Dw (Bd s1.2 (IntKind.u64.wrap (((e1.toNat:Int) % 128)*2 ^ (min (Int.toNat (7*s1.1)) 64))),s1.1+1,0)).2)))) (
.int 40 (IntKind.i64.wrap (s1.1+1)) (s1.1+1) (.leaf ⟨[5,8,9,10],[]⟩ [] .normal (some (Fi b (s1.1+1,Bd s1.2 (IntKind.u64.wrap (((e1.toNat:Int) % 128)*2 ^ (min (Int.toNat (7*s1.1)) 64)))))))))))))))) (
.leaf ⟨[],[]⟩ [] (.exit 0) (some (I4 ()).2))
noncomputable def ia (b:List UInt8):Tree:=
.int 9 ((b.map AA.f).length:Int) (b.length:Int) (.loop ⟨[5,8,9,10],[]⟩ [] (some (Fi b (0,0))) (Fi b) (Dw) (I4) (0,0) (ER b) (fun (x1:Int×Int×Int)=> .leaf ⟨[0],[]⟩ [] .ret (some ([(0, .tup [vn .u64 x1.1,vi x1.2.1,vi x1.2.2])],[]))) (fun (y1:Unit)=> .leaf ⟨[0],[]⟩ [] .ret (some ([(0, .tup [vn .u64 0,vi 0,vi 8])],[]))))

theorem ib (b:List UInt8):Av DP Γ0 Δ0 Tryd.f91 [vl (b.map AA.f)] [] (ia b)=ia b:=by kernel_rfl


theorem Ai {d:Nat} {z y:Int} {k:Tree} {K:AE→St→Prop} (hz:z=y) (h:k.wp K):(Tree.int d z y k).wp K:=⟨hz,h⟩
theorem tz {x:Int} (h:0≤x∧x<256):(((UInt8.ofNat x.toNat).toNat:Nat):Int)=x:=by
 rw[UInt8.toNat_ofNat']
 omega
theorem Hc {x:Int} (h:0≤x∧x<256):(ASrc.row 1 [vn .u8 x]).ok AA [UInt8.ofNat x.toNat]:=
 ⟨rfl,by show [vn .u8 x]= [vn .u8 (((UInt8.ofNat x.toNat).toNat:Nat):Int)]; rw[tz h]⟩
theorem lB (n:Nat):Bd ((n:Int) % 256) 128=((n % 128+128:Nat):Int):=by
 have key:∀ m:Fin 256,m.val ||| 128=m.val % 128+128:=by decide
 have:=key ⟨n % 256,by omega⟩
 unfold Bd
 have h1:((n:Int) % 256).toNat=n % 256:=by omega
 rw[h1]
 change (((n % 256 ||| 128:Nat)):Int)=_
 rw[this,Nat.mod_mod_of_dvd n (by decide:128 ∣ 256)]

theorem Ou {n:Nat} (h:n<128):F7 n= [UInt8.ofNat n]:=by rw[F7,dif_pos h]
theorem Ov {n:Nat} (h:¬n<128):F7 n=UInt8.ofNat (n % 128+128)::F7 (n / 128):=by rw[F7,dif_neg h]
theorem ic {n:Nat}:∀ {k:Nat},n<128 ^ (k+1)→(F7 n).length≤k+1:=by
 induction n using Nat.strongRecOn with
 | _ n ih=>
  intro k hk
  by_cases h:n<128
  ·rw[Ou h]; simp
  ·rw[Ov h]
   cases k with
   | zero=>omega
   | succ k=>
    have:=ih (n / 128) (by omega) (k:=k) (by rw[Nat.div_lt_iff_lt_mul (by decide)]; rw[Nat.pow_succ] at hk; exact hk)
    simp only[List.length_cons]; omega
theorem RF {n:Nat} (h:n<18446744073709551616):(F7 n).length≤10:=ic (k:=9) (by omega)

theorem YX:∀ (n:Nat) (L:List UInt8),n<18446744073709551616→((L.length+(F7 n).length:Nat):Int)≤1000000000→∃ x:Int×List UInt8,Rounds Hu Kz CN (fun s=>(Hv s).wp) (L,(n:Int)) (.inl x)∧(0≤x.1∧x.1<128)∧x.2++ [UInt8.ofNat x.1.toNat]=L++F7 n∧((x.2.length+1:Nat):Int)≤1000000000:=by
 intro n
 induction n using Nat.strongRecOn with
 | _ n ih=>
  intro L hn hL
  by_cases h:n<128
  ·rw[Ou h] at hL ⊢
   refine ⟨((n:Int),L), .done (by intro e; cases e) ?_,by simp only; omega,by simp,by simpa using hL⟩
   unfold Hv
   exact AC (fun h'=>absurd (of_decide_eq_true h') (by simp only; omega)) (fun _=>wp_leaf rfl ⟨rfl,rfl⟩)
  ·rw[Ov h] at hL ⊢
   simp only[List.length_cons] at hL
   obtain ⟨x,hr,h1,h2,h3⟩:=ih (n / 128) (by omega) (L++ [UInt8.ofNat (n % 128+128)]) (by omega) (by simp only[List.length_append,List.length_singleton]; omega)
   refine ⟨x, .next ?_ hr,h1,by rw[h2]; simp,h3⟩
   unfold Hv
   have e1:=lB n
   refine AC (fun _=>Ai (MN _) (Ai (pQ (by simp only; omega) (by decide)) (BW (Hc (by simp only; omega)) rfl (by simp only[List.length_append,List.length_singleton]; omega) (Ai (pR _) (wp_leaf rfl ⟨rfl,?_⟩))))) (fun h'=>absurd (of_decide_eq_false h') (by simp only; omega))
   simp only[e1,Int.toNat_natCast]
   rfl

theorem YY:∀ (n:Nat) (L:List UInt8),n<18446744073709551616→((L.length+(F7 n).length:Nat):Int)≤1000000000→∃ x:Int×List UInt8,Rounds Hy K1 CN (fun s=>(Hz s).wp) (L,(n:Int)) (.inl x)∧(0≤x.1∧x.1<128)∧x.2++ [UInt8.ofNat x.1.toNat]=L++F7 n∧((x.2.length+1:Nat):Int)≤1000000000:=by
 intro n
 induction n using Nat.strongRecOn with
 | _ n ih=>
  intro L hn hL
  by_cases h:n<128
  ·rw[Ou h] at hL ⊢
   refine ⟨((n:Int),L), .done (by intro e; cases e) ?_,by simp only; omega,by simp,by simpa using hL⟩
   unfold Hz
   exact AC (fun h'=>absurd (of_decide_eq_true h') (by simp only; omega)) (fun _=>wp_leaf rfl ⟨rfl,rfl⟩)
  ·rw[Ov h] at hL ⊢
   simp only[List.length_cons] at hL
   obtain ⟨x,hr,h1,h2,h3⟩:=ih (n / 128) (by omega) (L++ [UInt8.ofNat (n % 128+128)]) (by omega) (by simp only[List.length_append,List.length_singleton]; omega)
   refine ⟨x, .next ?_ hr,h1,by rw[h2]; simp,h3⟩
   unfold Hz
   have e1:=lB n
   refine AC (fun _=>Ai (MN _) (Ai (pQ (by simp only; omega) (by decide)) (BW (Hc (by simp only; omega)) rfl (by simp only[List.length_append,List.length_singleton]; omega) (Ai (pR _) (wp_leaf rfl ⟨rfl,?_⟩))))) (fun h'=>absurd (of_decide_eq_false h') (by simp only; omega))
   simp only[e1,Int.toNat_natCast]
   rfl

def ig (pre:List AV) (post:List AV) (M:List UInt8):Ae:=fun args B r B'=>
 (args=pre++AI::post∧B= []∧r= .rs 0 0 1 0 M.length∧B'= [AA.bx 0 M]) ∨
 ∃ L:List UInt8,((L.length+M.length:Nat):Int)≤1000000000∧args=pre++ .rs 0 0 1 0 L.length::post∧B= [AA.bx 0 L]∧r= .rs 1 0 1 0 (L++M).length∧B'= [AA.bx 1 [],AA.bx 0 (L++M)]
def Na:Ae:=fun args B r B'=>∃ n:Int,(0≤n∧n<18446744073709551616)∧ig [] [vn .u64 n] (AD n) args B r B'

theorem ii:SoundR DP Sf Na:=Al AZ Γ0_ok Bq th ti tj (by
 rintro args B r B' ⟨n,hn,⟨rfl,rfl,rfl,rfl⟩ | ⟨L,hL,rfl,rfl,rfl,rfl⟩⟩
 ·refine ⟨by rw[k7]; rfl,_,ax n,?_⟩
  unfold V3
  obtain ⟨m,rfl⟩:=Int.eq_ofNat_of_zero_le hn.1
  obtain ⟨x,hr,h1,h2,h3⟩:=YX m [] (by omega) (by have:=RF (n:=m) (by omega); simp only[List.length_nil]; omega)
  refine BH x rfl hr (Ai (MN _) (BW (Hc (by omega)) rfl (by simpa using h3) (wp_leaf rfl ?_)))
  have e:x.2++ [UInt8.ofNat (x.1 % 256).toNat]=AD (m:Int):=by
   rw[show x.1 % 256=x.1 by omega,h2,AD,Int.toNat_natCast]; rfl
  rw[e]
  exact ⟨rfl,rfl⟩
 ·refine ⟨by rw[k7]; rfl,_,az L n,?_⟩
  unfold V5
  obtain ⟨m,rfl⟩:=Int.eq_ofNat_of_zero_le hn.1
  obtain ⟨x,hr,h1,h2,h3⟩:=YY m L (by omega) (by simpa [AD] using hL)
  refine BH x rfl hr (Ai (MN _) (BW (Hc (by omega)) rfl (by simpa using h3) (wp_leaf rfl ?_)))
  have e:x.2++ [UInt8.ofNat (x.1 % 256).toNat]=L++AD (m:Int):=by
   rw[show x.1 % 256=x.1 by omega,h2,AD,Int.toNat_natCast]
  rw[e]
  exact ⟨rfl,rfl⟩)

theorem Sj (n k:Nat):(IY n k).length=k:=by
 induction k generalizing n with
 | zero=>rfl
 | succ k ih=>rw[IY,List.length_cons,ih]
theorem CJ (n:Int) (k:Int):(AW n k).length=k.toNat:=Sj _ _

theorem QO (x:Int):0≤x % 256∧x % 256<256:=by omega
theorem YZ (k:Int) (hk:k≤100) (j:Nat):∀ (i:Int) (n:Nat) (L:List UInt8),0≤i→i+j=k→n<18446744073709551616→((L.length+j:Nat):Int)≤1000000000→Rounds (Hw k) K0 CN (fun s=>(Hx k s).wp) (L,(n:Int),i) (.inl (L++IY n j)):=by
 induction j with
 | zero=>
  intro i n L h0 h1 hn hL
  refine .done (by intro e; cases e) ?_
  unfold Hx
  refine AC (fun h'=>absurd (of_decide_eq_true h') (by simp only; omega)) (fun _=>wp_leaf rfl ⟨rfl,?_⟩)
  simp only[IY,List.append_nil]
 | succ j ih=>
  intro i n L h0 h1 hn hL
  have hr:=ih (i+1) (n / 256) (L++ [UInt8.ofNat (n % 256)]) (by omega) (by omega) (by omega) (by simp only[List.length_append,List.length_singleton]; omega)
  have e2:L++IY n (j+1)=(L++ [UInt8.ofNat (n % 256)])++IY (n / 256) j:=by rw[IY,List.append_assoc]; rfl
  rw[e2]
  refine .next ?_ hr
  unfold Hx
  refine AC (fun _=>Ai (MN _) (BW (Hc (QO _)) rfl (by simp only[List.length_append,List.length_singleton]; omega) (Ai (pS _) (AP (by simp only; omega) (wp_leaf rfl ⟨rfl,?_⟩))))) (fun h'=>absurd (of_decide_eq_false h') (by simp only; omega))
  have e:((n:Int) % 256).toNat=n % 256:=by omega
  have e3:(n:Int) / 256=((n / 256:Nat):Int):=by omega
  simp only[e,e3]
theorem Ya (k:Int) (hk:k≤100) (j:Nat):∀ (i:Int) (n:Nat) (L:List UInt8),0≤i→i+j=k→n<18446744073709551616→((L.length+j:Nat):Int)≤1000000000→Rounds (H0 k) K2 CN (fun s=>(H1 k s).wp) (L,(n:Int),i) (.inl (L++IY n j)):=by
 induction j with
 | zero=>
  intro i n L h0 h1 hn hL
  refine .done (by intro e; cases e) ?_
  unfold H1
  refine AC (fun h'=>absurd (of_decide_eq_true h') (by simp only; omega)) (fun _=>wp_leaf rfl ⟨rfl,?_⟩)
  simp only[IY,List.append_nil]
 | succ j ih=>
  intro i n L h0 h1 hn hL
  have hr:=ih (i+1) (n / 256) (L++ [UInt8.ofNat (n % 256)]) (by omega) (by omega) (by omega) (by simp only[List.length_append,List.length_singleton]; omega)
  have e2:L++IY n (j+1)=(L++ [UInt8.ofNat (n % 256)])++IY (n / 256) j:=by rw[IY,List.append_assoc]; rfl
  rw[e2]
  refine .next ?_ hr
  unfold H1
  refine AC (fun _=>Ai (MN _) (BW (Hc (QO _)) rfl (by simp only[List.length_append,List.length_singleton]; omega) (Ai (pS _) (AP (by simp only; omega) (wp_leaf rfl ⟨rfl,?_⟩))))) (fun h'=>absurd (of_decide_eq_false h') (by simp only; omega))
  have e:((n:Int) % 256).toNat=n % 256:=by omega
  have e3:(n:Int) / 256=((n / 256:Nat):Int):=by omega
  simp only[e,e3]
def V8:Ae:=fun args B r B'=>∃ n k:Int,(0≤n∧n<18446744073709551616)∧(0≤k∧k≤8)∧ig [] [vn .u64 n,vi k] (AW n k) args B r B'
theorem wX:SoundR DP Sg V8:=Al AZ Γ0_ok Bq tp tq tt (by
 rintro args B r B' ⟨n,k,hn,hk,⟨rfl,rfl,rfl,rfl⟩ | ⟨L,hL,rfl,rfl,rfl,rfl⟩⟩
 ·refine ⟨by rw[k8]; rfl,_,ay n k,?_⟩
  unfold V4
  obtain ⟨m,rfl⟩:=Int.eq_ofNat_of_zero_le hn.1
  have hr:=YZ k (by omega) k.toNat 0 m [] (by omega) (by omega) (by omega) (by simp only[List.length_nil]; omega)
  refine BH (AW m k) rfl (by simpa [AW] using hr) (wp_leaf rfl ⟨rfl,rfl⟩)
 ·refine ⟨by rw[k8]; rfl,_,a8 L n k,?_⟩
  unfold V6
  obtain ⟨m,rfl⟩:=Int.eq_ofNat_of_zero_le hn.1
  rw[CJ] at hL
  have hr:=Ya k (by omega) k.toNat 0 m L (by omega) (by omega) (by omega) hL
  refine BH (L++AW m k) rfl (by simpa [AW] using hr) (wp_leaf rfl ⟨rfl,rfl⟩))

theorem JW {x:Int} (h:0≤x∧x<4294967296):0≤x / 16∧x / 16<4294967296:=by omega
theorem JX (x:Int):0≤x % 16∧x % 16<16:=by omega

theorem Hd {α:Type} {l:List α} {i:Nat} (h:i<l.length):∃ a,l[i]? = some a∧l.take (i+1)=l.take i++ [a]:=by
 refine ⟨l[i],List.getElem?_eq_getElem h,?_⟩
 rw[List.take_add_one,List.getElem?_eq_getElem h]; rfl

theorem Pu (b:List UInt8) (hb:b.length≤1000000000) (r0:Int) (h0:0≤r0∧r0<4294967296):∀ (j i:Nat),i+j=b.length→Rounds (I1 b) MP CN (fun s=>(I3 b s).wp) ((i:Int),(b.take i).foldl G6 r0) (.inl (b.foldl G6 r0))
 | 0,i,hi=>by
  refine .done (by intro e; cases e) ?_
  unfold I3
  refine AC (fun h'=>absurd (of_decide_eq_true h') (by simp only; omega)) (fun _=>wp_leaf rfl ⟨rfl,?_⟩)
  rw[List.take_of_length_le (by omega)]
 | j+1,i,hi=>by
  obtain ⟨a,ha,ht⟩:=Hd (l:=b) (i:=i) (by omega)
  refine .next ?_ (Pu b hb r0 h0 j (i+1) (by omega))
  have hr:=Jp h0 (b.take i)
  have hx:=LS hr (by have:=G7 a; omega:0≤(a.toNat:Int)∧(a.toNat:Int)<4294967296)
  have hh:=LT hx
  unfold I3
  refine AC (fun _=>Cm a (by simp only; omega) (by simpa using ha) (Ai (QM (by have:=G7 a; omega)) (Ai (Ht hr (by have:=G7 a; omega)) (Ai (Se _) (Ai (Or hx) (Dn (by rw[Ha (JX _)]; rfl) (Ai (Ht (JW hx) (QN _)) (Ai (Se _) (Ai (Or hh) (Dn (by rw[Ha (JX _)]; rfl) (Ai (Ht (JW hh) (QN _)) (AP (by simp only; omega) (wp_leaf rfl ⟨rfl,?_⟩))))))))))))) (fun h'=>absurd (of_decide_eq_false h') (by simp only; omega))
  rw[ht,List.foldl_append]
  rfl
theorem Nb (b:List UInt8) (hb:b.length≤1000000000) (r0:Int) (h0:0≤r0∧r0<4294967296):∀ (j i:Nat),i+j=b.length→Rounds (H3 b) (K3 b) CN (fun s=>(H4 b s).wp) ((i:Int),(b.take i).foldl G6 r0) (.inl (b.foldl G6 r0))
 | 0,i,hi=>by
  refine .done (by intro e; cases e) ?_
  unfold H4
  refine AC (fun h'=>absurd (of_decide_eq_true h') (by simp only; omega)) (fun _=>wp_leaf rfl ⟨rfl,?_⟩)
  rw[List.take_of_length_le (by omega)]
 | j+1,i,hi=>by
  obtain ⟨a,ha,ht⟩:=Hd (l:=b) (i:=i) (by omega)
  refine .next ?_ (Nb b hb r0 h0 j (i+1) (by omega))
  have hr:=Jp h0 (b.take i)
  have hx:=LS hr (by have:=G7 a; omega:0≤(a.toNat:Int)∧(a.toNat:Int)<4294967296)
  have hh:=LT hx
  unfold H4
  refine AC (fun _=>CX (by simp only; omega) (by simp only; omega) (Bb a (by simp only; omega) rfl (by simpa using ha) (Ai (QM (by have:=G7 a; omega)) (Ai (Ht hr (by have:=G7 a; omega)) (Ai (Se _) (Ai (Or hx) (Dn (by rw[Ha (JX _)]; rfl) (Ai (Ht (JW hx) (QN _)) (Ai (Se _) (Ai (Or hh) (Dn (by rw[Ha (JX _)]; rfl) (Ai (Ht (JW hh) (QN _)) (AP (by simp only; omega) (wp_leaf rfl ⟨rfl,?_⟩)))))))))))))) (fun h'=>absurd (of_decide_eq_false h') (by simp only; omega))
  rw[ht,List.foldl_append]
  rfl

def t6:List AV→AV→Prop:=fun args r=>∃ (s:Int) (b:List UInt8),(0≤s∧s<4294967296)∧b.length≤1000000000∧args= [vn .u32 s,vl (b.map AA.f)]∧r=vn .u32 (EG s b)
noncomputable def Uv:=B4 t6
theorem t7:SoundF DP I0 (.pure Uv):=A6 AZ Γ0_ok Bq V0 V1 V2 (by
 rintro args r ⟨s,b,hs,hb,rfl,rfl⟩
 refine ⟨rfl,rfl,_,eF s b,?_⟩
 unfold bA
 have hr:=Pu b hb (4294967295 - s) (by omega) b.length 0 (by omega)
 have hf:=Jp (r:=4294967295 - s) (by omega) b
 exact Ai (LR hs) (Aq (BH _ rfl hr (Ai (LR hf) (wp_leaf rfl (.p _))))))
def V9:Ae:=fun args B r B'=>∃ (s:Int) (L:List UInt8),(0≤s∧s<4294967296)∧L.length≤1000000000∧args= [vn .u32 s, .rs 0 0 1 0 L.length]∧B= [AA.bx 0 L]∧r=vn .u32 (EG s L)∧B'=B
theorem pe:SoundR DP I0 V9:=Al AZ Γ0_ok Bq V0 V1 V2 (by
 rintro args B r B' ⟨s,b,hs,hb,rfl,rfl,rfl,rfl⟩
 refine ⟨by rw[eE]; rfl,_,bB s b,?_⟩
 unfold V7
 have hr:=Nb b hb (4294967295 - s) (by omega) b.length 0 (by omega)
 have hf:=Jp (r:=4294967295 - s) (by omega) b
 exact Ai (LR hs) (BH _ rfl hr (Ai (LR hf) (wp_leaf rfl ⟨rfl,rfl⟩))))

def uA:List AV→AV→Prop:=fun args r=>∃ (s:Int),(0≤s∧s<4294967296)∧args= [vn .u32 s]∧r=vn .u32 (Au s)
noncomputable def I5:=B4 uA
theorem lC:SoundF DP RE (.pure I5):=A6 AZ Γ0_ok Bq pa pb pc (by
 rintro args r ⟨s,hs,rfl,rfl⟩
 refine ⟨rfl,rfl,_,eG s,?_⟩
 unfold bC
 exact Ai (tV _) (Ai (LP _) (Ai (pP (by omega) (by omega)) (Ai (LP _) (wp_leaf rfl (.p _))))))

end Go.Ax
