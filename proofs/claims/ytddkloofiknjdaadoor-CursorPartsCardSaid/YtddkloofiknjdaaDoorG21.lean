/- Trees, printed by gen/k1.py: the disk's functions, the disk laid open. -/
import Derived.Test.YtddkloofiknjdaaDoorG20
set_option linter.unusedVariables false
set_option linter.unusedSimpArgs false
set_option linter.unusedSectionVars false
namespace Go.Ax
open Go.Proofs Go.RowKit
set_option maxRecDepth 100000

noncomputable def TFind_d (ro:Int) (us:Int) (fu:Int) (hid:List (Value×Value)) (nm:ByteArray):Tree:=
.leaf ⟨[0],[(0,0,none),(1,0,none)]⟩ [] .ret (some ([(0, .tup [.p (.v (.pointer none)),vi 10])],[.cells false 0 ([vi ro,vi us, .mp 1,vb true,vi fu]), .obj [] (mapP [] hid)]))

theorem TFind_d_chk (ro:Int) (us:Int) (fu:Int) (hid:List (Value×Value)) (nm:ByteArray):fnC DP Γ0 Δ0 Tryd.f47 [.ptr 0 0 0,vs nm] [.cells false 0 ([vi ro,vi us, .mp 1,vb true,vi fu]), .obj [] (mapP [] hid)] (TFind_d ro us fu hid nm)=TFind_d ro us fu hid nm:=by kernel_rfl

noncomputable def TFind_a (ro:Int) (us:Int) (fu:Int) (hid:List (Value×Value)) (nm:ByteArray):Tree:=
.val (some 22) (LookE DP 69 [.cells false 0 ([vi ro,vi us, .mp 1,vb false,vi fu]), .obj [] (mapP [] hid)] (.mp 1) (vs nm) (.tup [.p (.v (.pointer none)),vb false])) (.tup [.p (.v (.pointer none)),vb false]) [.cells false 0 ([vi ro,vi us, .mp 1,vb false,vi fu]), .obj [] (mapP [] hid)] (.leaf ⟨[0],[(0,0,none),(1,0,none)]⟩ [] .ret (some ([(0, .tup [.p (.v (.pointer none)),vi 4])],[.cells false 0 ([vi ro,vi us, .mp 1,vb false,vi fu]), .obj [] (mapP [] hid)])))

theorem TFind_a_chk (ro:Int) (us:Int) (fu:Int) (hid:List (Value×Value)) (nm:ByteArray):fnC DP Γ0 Δ0 Tryd.f47 [.ptr 0 0 0,vs nm] [.cells false 0 ([vi ro,vi us, .mp 1,vb false,vi fu]), .obj [] (mapP [] hid)] (TFind_a ro us fu hid nm)=TFind_a ro us fu hid nm:=by kernel_rfl

noncomputable def TFind_p (ro:Int) (us:Int) (fu:Int) (hid:List (Value×Value)) (L:List UInt8) (su:Int) (nm:ByteArray):Tree:=
.val (some 22) (LookE DP 69 [.cells false 0 ([vi ro,vi us, .mp 1,vb false,vi fu]), .obj [.ptr 2 0 0] (mapP [.string nm] hid), .cells false 0 ([.rs 3 0 1 0 L.length,vi su]),byteE.bx 0 L] (.mp 1) (vs nm) (.tup [.ptr 2 0 0,vb true])) (.tup [.ptr 2 0 0,vb true]) [.cells false 0 ([vi ro,vi us, .mp 1,vb false,vi fu]), .obj [.ptr 2 0 0] (mapP [.string nm] hid), .cells false 0 ([.rs 3 0 1 0 L.length,vi su]),byteE.bx 0 L] (.leaf ⟨[0],[(0,0,none),(1,0,none),(2,0,none),(3,0,some (L.map byteE.f))]⟩ [rowC (L.map byteE.f)] .ret (some ([(0, .tup [.ptr 2 0 0,vi 0])],[.cells false 0 ([vi ro,vi us, .mp 1,vb false,vi fu]), .obj [.ptr 2 0 0] (mapP [.string nm] hid), .cells false 0 ([.rs 3 0 1 0 L.length,vi su]),byteE.bx 0 L])))

theorem TFind_p_chk (ro:Int) (us:Int) (fu:Int) (hid:List (Value×Value)) (L:List UInt8) (su:Int) (nm:ByteArray):fnC DP Γ0 Δ0 Tryd.f47 [.ptr 0 0 0,vs nm] [.cells false 0 ([vi ro,vi us, .mp 1,vb false,vi fu]), .obj [.ptr 2 0 0] (mapP [.string nm] hid), .cells false 0 ([.rs 3 0 1 0 L.length,vi su]),byteE.bx 0 L] (TFind_p ro us fu hid L su nm)=TFind_p ro us fu hid L su nm:=by kernel_rfl

noncomputable def TFind_q (ro:Int) (us:Int) (fu:Int) (hid:List (Value×Value)) (L:List UInt8) (su:Int) (M:List UInt8) (sv:Int) (nn:ByteArray) (nm:ByteArray):Tree:=
.val (some 22) (LookE DP 69 [.cells false 0 ([vi ro,vi us, .mp 1,vb false,vi fu]), .obj [.ptr 2 0 0, .ptr 4 0 0] (mapP [.string nm, .string nn] hid), .cells false 0 ([.rs 3 0 1 0 L.length,vi su]),byteE.bx 0 L, .cells false 0 ([.rs 5 0 1 0 M.length,vi sv]),byteE.bx 0 M] (.mp 1) (vs nm) (.tup [.ptr 2 0 0,vb true])) (.tup [.ptr 2 0 0,vb true]) [.cells false 0 ([vi ro,vi us, .mp 1,vb false,vi fu]), .obj [.ptr 2 0 0, .ptr 4 0 0] (mapP [.string nm, .string nn] hid), .cells false 0 ([.rs 3 0 1 0 L.length,vi su]),byteE.bx 0 L, .cells false 0 ([.rs 5 0 1 0 M.length,vi sv]),byteE.bx 0 M] (.leaf ⟨[0],[(0,0,none),(1,0,none),(2,0,none),(3,0,some (L.map byteE.f)),(4,0,none),(5,0,some (M.map byteE.f))]⟩ [rowC (L.map byteE.f),rowC (M.map byteE.f)] .ret (some ([(0, .tup [.ptr 2 0 0,vi 0])],[.cells false 0 ([vi ro,vi us, .mp 1,vb false,vi fu]), .obj [.ptr 2 0 0, .ptr 4 0 0] (mapP [.string nm, .string nn] hid), .cells false 0 ([.rs 3 0 1 0 L.length,vi su]),byteE.bx 0 L, .cells false 0 ([.rs 5 0 1 0 M.length,vi sv]),byteE.bx 0 M])))

theorem TFind_q_chk (ro:Int) (us:Int) (fu:Int) (hid:List (Value×Value)) (L:List UInt8) (su:Int) (M:List UInt8) (sv:Int) (nn:ByteArray) (nm:ByteArray):fnC DP Γ0 Δ0 Tryd.f47 [.ptr 0 0 0,vs nm] [.cells false 0 ([vi ro,vi us, .mp 1,vb false,vi fu]), .obj [.ptr 2 0 0, .ptr 4 0 0] (mapP [.string nm, .string nn] hid), .cells false 0 ([.rs 3 0 1 0 L.length,vi su]),byteE.bx 0 L, .cells false 0 ([.rs 5 0 1 0 M.length,vi sv]),byteE.bx 0 M] (TFind_q ro us fu hid L su M sv nn nm)=TFind_q ro us fu hid L su M sv nn nm:=by kernel_rfl

noncomputable def TStep_a (ro:Int) (us:Int) (fu:Int) (hid:List (Value×Value)):Tree:=
.sp 7 (decide (fu>(0:Int))) (
.int 12 (IntKind.i64.wrap (fu - 1)) (fu - 1) (.sp 26 ((fu - 1) == (0:Int)) (
.leaf ⟨[0],[(0,0,none),(1,0,none)]⟩ [] .ret (some ([(0,vi 10)],[.cells false 0 ([vi ro,vi us, .mp 1,vb ((fu - 1) == (0:Int)),vi (fu - 1)]), .obj [] (mapP [] hid)]))) (
.leaf ⟨[0],[(0,0,none),(1,0,none)]⟩ [] .ret (some ([(0,vi 0)],[.cells false 0 ([vi ro,vi us, .mp 1,vb ((fu - 1) == (0:Int)),vi (fu - 1)]), .obj [] (mapP [] hid)]))))) (
.leaf ⟨[0],[(0,0,none),(1,0,none)]⟩ [] .ret (some ([(0,vi 0)],[.cells false 0 ([vi ro,vi us, .mp 1,vb false,vi fu]), .obj [] (mapP [] hid)])))

theorem TStep_a_chk (ro:Int) (us:Int) (fu:Int) (hid:List (Value×Value)):fnC DP Γ0 Δ0 Tryd.f67 [.ptr 0 0 0] [.cells false 0 ([vi ro,vi us, .mp 1,vb false,vi fu]), .obj [] (mapP [] hid)] (TStep_a ro us fu hid)=TStep_a ro us fu hid:=by kernel_rfl

noncomputable def TStep_p (ro:Int) (us:Int) (fu:Int) (hid:List (Value×Value)) (L:List UInt8) (su:Int) (nm:ByteArray):Tree:=
.sp 7 (decide (fu>(0:Int))) (
.int 12 (IntKind.i64.wrap (fu - 1)) (fu - 1) (.sp 26 ((fu - 1) == (0:Int)) (
.leaf ⟨[0],[(0,0,none),(1,0,none),(2,0,none),(3,0,some (L.map byteE.f))]⟩ [rowC (L.map byteE.f)] .ret (some ([(0,vi 10)],[.cells false 0 ([vi ro,vi us, .mp 1,vb ((fu - 1) == (0:Int)),vi (fu - 1)]), .obj [.ptr 2 0 0] (mapP [.string nm] hid), .cells false 0 ([.rs 3 0 1 0 L.length,vi su]),byteE.bx 0 L]))) (
.leaf ⟨[0],[(0,0,none),(1,0,none),(2,0,none),(3,0,some (L.map byteE.f))]⟩ [rowC (L.map byteE.f)] .ret (some ([(0,vi 0)],[.cells false 0 ([vi ro,vi us, .mp 1,vb ((fu - 1) == (0:Int)),vi (fu - 1)]), .obj [.ptr 2 0 0] (mapP [.string nm] hid), .cells false 0 ([.rs 3 0 1 0 L.length,vi su]),byteE.bx 0 L]))))) (
.leaf ⟨[0],[(0,0,none),(1,0,none),(2,0,none),(3,0,some (L.map byteE.f))]⟩ [rowC (L.map byteE.f)] .ret (some ([(0,vi 0)],[.cells false 0 ([vi ro,vi us, .mp 1,vb false,vi fu]), .obj [.ptr 2 0 0] (mapP [.string nm] hid), .cells false 0 ([.rs 3 0 1 0 L.length,vi su]),byteE.bx 0 L])))

theorem TStep_p_chk (ro:Int) (us:Int) (fu:Int) (hid:List (Value×Value)) (L:List UInt8) (su:Int) (nm:ByteArray):fnC DP Γ0 Δ0 Tryd.f67 [.ptr 0 0 0] [.cells false 0 ([vi ro,vi us, .mp 1,vb false,vi fu]), .obj [.ptr 2 0 0] (mapP [.string nm] hid), .cells false 0 ([.rs 3 0 1 0 L.length,vi su]),byteE.bx 0 L] (TStep_p ro us fu hid L su nm)=TStep_p ro us fu hid L su nm:=by kernel_rfl

noncomputable def TStep_q (ro:Int) (us:Int) (fu:Int) (hid:List (Value×Value)) (L:List UInt8) (su:Int) (M:List UInt8) (sv:Int) (nm:ByteArray) (nn:ByteArray):Tree:=
.sp 7 (decide (fu>(0:Int))) (
.int 12 (IntKind.i64.wrap (fu - 1)) (fu - 1) (.sp 26 ((fu - 1) == (0:Int)) (
.leaf ⟨[0],[(0,0,none),(1,0,none),(2,0,none),(3,0,some (L.map byteE.f)),(4,0,none),(5,0,some (M.map byteE.f))]⟩ [rowC (L.map byteE.f),rowC (M.map byteE.f)] .ret (some ([(0,vi 10)],[.cells false 0 ([vi ro,vi us, .mp 1,vb ((fu - 1) == (0:Int)),vi (fu - 1)]), .obj [.ptr 2 0 0, .ptr 4 0 0] (mapP [.string nm, .string nn] hid), .cells false 0 ([.rs 3 0 1 0 L.length,vi su]),byteE.bx 0 L, .cells false 0 ([.rs 5 0 1 0 M.length,vi sv]),byteE.bx 0 M]))) (
.leaf ⟨[0],[(0,0,none),(1,0,none),(2,0,none),(3,0,some (L.map byteE.f)),(4,0,none),(5,0,some (M.map byteE.f))]⟩ [rowC (L.map byteE.f),rowC (M.map byteE.f)] .ret (some ([(0,vi 0)],[.cells false 0 ([vi ro,vi us, .mp 1,vb ((fu - 1) == (0:Int)),vi (fu - 1)]), .obj [.ptr 2 0 0, .ptr 4 0 0] (mapP [.string nm, .string nn] hid), .cells false 0 ([.rs 3 0 1 0 L.length,vi su]),byteE.bx 0 L, .cells false 0 ([.rs 5 0 1 0 M.length,vi sv]),byteE.bx 0 M]))))) (
.leaf ⟨[0],[(0,0,none),(1,0,none),(2,0,none),(3,0,some (L.map byteE.f)),(4,0,none),(5,0,some (M.map byteE.f))]⟩ [rowC (L.map byteE.f),rowC (M.map byteE.f)] .ret (some ([(0,vi 0)],[.cells false 0 ([vi ro,vi us, .mp 1,vb false,vi fu]), .obj [.ptr 2 0 0, .ptr 4 0 0] (mapP [.string nm, .string nn] hid), .cells false 0 ([.rs 3 0 1 0 L.length,vi su]),byteE.bx 0 L, .cells false 0 ([.rs 5 0 1 0 M.length,vi sv]),byteE.bx 0 M])))

theorem TStep_q_chk (ro:Int) (us:Int) (fu:Int) (hid:List (Value×Value)) (L:List UInt8) (su:Int) (M:List UInt8) (sv:Int) (nm:ByteArray) (nn:ByteArray):fnC DP Γ0 Δ0 Tryd.f67 [.ptr 0 0 0] [.cells false 0 ([vi ro,vi us, .mp 1,vb false,vi fu]), .obj [.ptr 2 0 0, .ptr 4 0 0] (mapP [.string nm, .string nn] hid), .cells false 0 ([.rs 3 0 1 0 L.length,vi su]),byteE.bx 0 L, .cells false 0 ([.rs 5 0 1 0 M.length,vi sv]),byteE.bx 0 M] (TStep_q ro us fu hid L su M sv nm nn)=TStep_q ro us fu hid L su M sv nm nn:=by kernel_rfl

end Go.Ax

namespace Go.Ax
open Go.Proofs Go.RowKit
set_option maxRecDepth 100000

theorem SFind:SoundR DP iFind RFind:=
 sound_genT mixedD Γ0_ok Δ0_ok hfFind heFind hbFind (fun args B r B' h=>by
  cases h with
  | d ro us fu hid nm=>exact ⟨by rw[hnFind]; rfl,_,TFind_d_chk ro us fu hid nm,wp_leaf rfl ⟨rfl,rfl⟩⟩
  | a ro us fu hid hs nm hh hn=>exact ⟨by rw[hnFind]; rfl,_,TFind_a_chk ro us fu hid nm,wp_val (look_no htMap htKey htVal (ns:= []) rfl hh (by simp) hn) (wp_leaf rfl ⟨rfl,rfl⟩)⟩
  | p ro us fu hid hs x hh=>exact ⟨by rw[hnFind]; rfl,_,TFind_p_chk ro us fu hid x.b x.sure x.name,wp_val (look_v0 htMap htKey (ns:= []) rfl hh) (wp_leaf rfl ⟨rfl,rfl⟩)⟩
  | q ro us fu hid hs x y hh=>exact ⟨by rw[hnFind]; rfl,_,TFind_q_chk ro us fu hid x.b x.sure y.b y.sure y.name x.name,wp_val (look_v0 htMap htKey (ns:= [y.name]) rfl hh) (wp_leaf rfl ⟨rfl,rfl⟩)⟩)

theorem step_wp {fu:Int} (hfu:fu<9223372036854775808) {T:Int→Bool→Int→Tree} {K:AE→St→Prop}
  (hT:∀ f d e,f=stF fu→d=stD fu→e=stE fu→(T f d e).wp K):
  (Tree.sp 7 (decide (fu>(0:Int))) (.int 12 (IntKind.i64.wrap (fu - 1)) (fu - 1) (.sp 26 ((fu - 1) == (0:Int)) (T (fu - 1) ((fu - 1) == (0:Int)) 10) (T (fu - 1) ((fu - 1) == (0:Int)) 0))) (T fu false 0)).wp K:=by
 refine wp_sp (fun h=>wp_i64 (by have:=of_decide_eq_true h; omega) (wp_sp (fun h2=>?_) (fun h2=>?_))) (fun h=>?_)
 ·have h:=of_decide_eq_true h
  exact hT _ _ _ (by rw[stF,if_pos h]) (by rw[stD,decide_eq_true h,Bool.true_and]) (by rw[stE,stD,decide_eq_true h,Bool.true_and,h2]; rfl)
 ·have h:=of_decide_eq_true h
  exact hT _ _ _ (by rw[stF,if_pos h]) (by rw[stD,decide_eq_true h,Bool.true_and]) (by rw[stE,stD,decide_eq_true h,Bool.true_and,h2]; rfl)
 ·have h:=of_decide_eq_false h
  exact hT _ _ _ (by rw[stF,if_neg h]) (by rw[stD,decide_eq_false h,Bool.false_and]) (by rw[stE,stD,decide_eq_false h,Bool.false_and]; rfl)

theorem SStep:SoundR DP iStep RStep:=
 sound_genT mixedD Γ0_ok Δ0_ok hfStep heStep hbStep (fun args B r B' h=>by
  cases h with
  | mk ro us fu hid X hX hfu=>
   match X,hX with
   | [],_=>exact ⟨by rw[hnStep]; rfl,_,TStep_a_chk ro us fu hid,step_wp (T:=fun f d e=> .leaf _ [] .ret (some ([(0,vi e)],flatB (dsk ro us f d) [] hid))) hfu (fun f d e h1 h2 h3=>by subst h1 h2 h3; exact wp_leaf rfl ⟨rfl,rfl⟩)⟩
   | [x],_=>exact ⟨by rw[hnStep]; rfl,_,TStep_p_chk ro us fu hid x.b x.sure x.name,step_wp (T:=fun f d e=> .leaf ⟨[0],[(0,0,none),(1,0,none),(2,0,none),(3,0,some (x.b.map byteE.f))]⟩ [rowC (x.b.map byteE.f)] .ret (some ([(0,vi e)],flatB (dsk ro us f d) [x] hid))) hfu (fun f d e h1 h2 h3=>by subst h1 h2 h3; exact wp_leaf rfl ⟨rfl,rfl⟩)⟩
   | [x,y],_=>exact ⟨by rw[hnStep]; rfl,_,TStep_q_chk ro us fu hid x.b x.sure y.b y.sure x.name y.name,step_wp (T:=fun f d e=> .leaf ⟨[0],[(0,0,none),(1,0,none),(2,0,none),(3,0,some (x.b.map byteE.f)),(4,0,none),(5,0,some (y.b.map byteE.f))]⟩ [rowC (x.b.map byteE.f),rowC (y.b.map byteE.f)] .ret (some ([(0,vi e)],flatB (dsk ro us f d) [x,y] hid))) hfu (fun f d e h1 h2 h3=>by subst h1 h2 h3; exact wp_leaf rfl ⟨rfl,rfl⟩)⟩
   | _::_::_::_,h=>exact absurd h (by simp))

noncomputable def ΓF:Env:=fun f=>if f=iNamed then .pure gNamed else .none
theorem ΓF_ok:∀ f,SoundF DP f (ΓF f):=fun f=>by
 unfold ΓF
 split
 ·rename_i e; rw[e]; exact SNamed
 ·exact sound_none f
def ΔF:REnv:=fun f=>if f=iFind then liftR RFind else if f=iStep then liftR RStep else fun _ _ _ _=>False
theorem ΔF_ok:∀ f,SoundR DP f (ΔF f):=fun f=>by
 unfold ΔF
 split
 ·rename_i e; rw[e]; exact lift_sound SFind
 split
 ·rename_i e; rw[e]; exact lift_sound SStep
 ·exact .none f

end Go.Ax

namespace Go.Ax
open Go.Proofs Go.RowKit
set_option maxRecDepth 100000

end Go.Ax

namespace Go.Ax
open Go.Proofs Go.RowKit
set_option maxRecDepth 100000

theorem ΔF_find:ΔF iFind=liftR RFind:=if_pos rfl
theorem flat_low (D:Dsk) (X:List Fil) (hid:List (Value×Value)):Blow (flatB D X hid).length (flatB D X hid):=fun y hy=>by
 rw[flatB_length]; exact (flat_pl D X hid y hy).2

theorem dFind {args:List AV} {B B':List Box} {r:AV} (h:RFind args B r B') (Bx:List Box):ΔF iFind args (B++Bx) r (B'++Bx):=by
 rw[ΔF_find]
 cases h with
 | d ro us fu hid nm=>exact lift_tail (.d ro us fu hid nm) rfl rfl (flat_low _ _ _) (flat_low _ _ _) rfl Bx
 | a ro us fu hid hs nm hh hn=>exact lift_tail (.a ro us fu hid hs nm hh hn) rfl rfl (flat_low _ _ _) (flat_low _ _ _) rfl Bx
 | p ro us fu hid hs x hh=>exact lift_tail (.p ro us fu hid hs x hh) rfl rfl (flat_low _ _ _) (flat_low _ _ _) rfl Bx
 | q ro us fu hid hs x y hh=>exact lift_tail (.q ro us fu hid hs x y hh) rfl rfl (flat_low _ _ _) (flat_low _ _ _) rfl Bx

theorem wp_callr {d:Option Nat} {p:Prop} {v:AV} {B:List Box} {k:Tree} {K:AE→St→Prop} (hp:p) (h:k.wp K):(Tree.callr d p v B k).wp K:=⟨hp,h⟩

theorem SoundR.or {P:Program} {f:Nat} {R1 R2:RSpec} (h1:SoundR P f R1) (h2:SoundR P f R2):SoundR P f (fun a b c d=>R1 a b c d∨R2 a b c d):=fun a b c d h=>h.elim (h1 a b c d) (h2 a b c d)

def RGen (fn:Func):RSpec:=fun args B r B'=>GenT DP ΓF ΔF fn args B (r,B')
def RG (fn:Func):RSpec:=fun args B r B'=>RGen fn args B r B'∨((∃ Bf b i v cs,RGen fn args B r Bf∧Bf[b]? = some (.cells false v cs)∧cs[i]? = some nilS∧B'=nilfix Bf b i v cs)∨(∃ Bf e,RGen fn args B (.tup [nilS,e]) Bf∧r= .tup [.rs Bf.length 0 1 0 0,e]∧B'=Bf++ [.cells true 0 []]))
theorem SG {f:FuncId} {fn:Func} (hf:DP.funcs[f]? = some fn) (he:enters DP f=true) (hb:fn.body.isSome=true):SoundR DP f (RG fn):=
 have h:SoundR DP f (RGen fn):=sound_genT mixedD ΓF_ok ΔF_ok hf he hb (fun _ _ _ _ h=>h)
 h.or (h.nilfix.or h.nilans)
theorem SO {f:FuncId} {fn:Func} (hf:DP.funcs[f]? = some fn) (he:enters DP f=true) (hb:fn.body.isSome=true):SoundR DP f (diskR (RG fn)):=disk_lift (SG hf he hb)

def isP:AV→Bool
 | .p _=>true
 | _=>false

theorem al_id:∀ {al:List AV},al.all isP=true→∀ f d,al.map (AV.rv f d)=al
 | [],_,_,_=>rfl
 | a::al,h,f,d=>by
  simp only[List.all_cons,Bool.and_eq_true] at h
  rw[List.map_cons,al_id h.2]
  cases a <;> first | rfl | cases h.1

theorem al_ok:∀ {al:List AV},al.all isP=true→al.all (okArg 0)=true
 | [],_=>rfl
 | a::al,h=>by
  simp only[List.all_cons,Bool.and_eq_true] at h ⊢
  refine ⟨?_,al_ok h.2⟩
  cases a <;> first | rfl | cases h.1

end Go.Ax

namespace Go.Ax
open Go.Proofs Go.RowKit
set_option maxRecDepth 100000

variable [Glob]
section
variable {R : RSpec} {pre post : List AV} {L M : List UInt8} {n b v : Nat} {B : List Box}
theorem rvL_mid (f d:Nat→Nat) (h1:pre.all isPl=true) (h2:post.all isPl=true) (x:AV):AV.rv.rvL f d (pre++x::post)=pre++x.rv f d::post:=by
 rw[rvL_map,List.map_append,List.map_cons,←rvL_map,←rvL_map,isPl_id h1,isPl_id h2]
theorem low_mid {m:Nat} (h1:pre.all isPl=true) (h2:post.all isPl=true) {x:AV} (hx:x.low m=true):AV.low.allLow m (pre++x::post)=true:=by
 induction pre with
 | nil=>rw[List.nil_append,AV.low.allLow,hx,isPl_low h2]; rfl
 | cons a pre ih=>
  simp only[List.all_cons,Bool.and_eq_true] at h1
  rw[List.cons_append,AV.low.allLow,ih h1.2]
  cases a <;> first | rfl | cases h1.1

theorem BoxRen.rowv {f d:Nat→Nat} {n j:Nat} {row:Bool} {v v':Nat} {xs:List PV} (h:v'=v+d j):BoxRen f d n j (.cells row v (rowC xs)) (.cells row v' (rowC xs)):=h▸ .row row v xs

theorem lift_row (hR:R (pre++ .rs 0 0 1 0 L.length::post) [byteE.bx 0 L] (.rs 1 0 1 0 n) [byteE.bx 1 [],byteE.bx 0 M]) (hb:B[b]? = some (byteE.bx v L)) (h1:pre.all isPl=true) (h2:post.all isPl=true):
  liftR R (pre++ .rs b v 1 0 L.length::post) B (.rs B.length 0 1 0 n) (B.set b (byteE.bx (v+1) [])++ [byteE.bx 0 M]):=by
 have hlt:b<B.length:=(List.getElem?_eq_some_iff.1 hb).1
 refine ⟨_,_,_,_,hR,⟨[b],[v],[byteE.bx v L],[byteE.bx (v+1) []],[byteE.bx 0 M],?_,?_,?_,?_,⟨?_,trivial⟩,⟨?_,?_,trivial⟩,?_,?_,rfl⟩⟩
 ·simp[noDup,Nat.blt_eq,hlt]
 ·simp[hb]
 ·rw[rvL_mid _ _ h1 h2]; simp[AV.rv,fNew,dNew]
 ·exact low_mid h1 h2 rfl
 ·exact .rowv (by simp[dNew])
 ·exact .rowv (by simp[dNew]; omega)
 ·exact .rowv (by simp[dNew])
 ·simp[outB]
 ·simp[AV.rv,fNew,dNew]

theorem lift_newrow {al:List AV} (hR:R al [] (.rs 0 0 1 0 n) [byteE.bx 0 M]) (h1:al.all isPl=true):liftR R al B (.rs B.length 0 1 0 n) (B++ [byteE.bx 0 M]):=by
 refine ⟨_,_,_,_,hR,⟨[],[],[],[],[byteE.bx 0 M],rfl,rfl,(isPl_id h1 _ _).symm,isPl_low h1 _,trivial,⟨?_,trivial⟩,?_,?_,rfl⟩⟩
 ·exact .rowv (by simp[dNew])
 ·simp[outB]
 ·simp[AV.rv,fNew,dNew]

theorem lift_seerow {x:PV} (hR:R (pre++ .rs 0 0 1 0 L.length::post) [byteE.bx 0 L] (.p x) [byteE.bx 0 L]) (hb:B[b]? = some (byteE.bx v L)) (h1:pre.all isPl=true) (h2:post.all isPl=true):
  liftR R (pre++ .rs b v 1 0 L.length::post) B (.p x) B:=by
 have hlt:b<B.length:=(List.getElem?_eq_some_iff.1 hb).1
 refine ⟨_,_,_,_,hR,⟨[b],[v],[byteE.bx v L],[byteE.bx v L],[],?_,?_,?_,?_,⟨?_,trivial⟩,⟨?_,trivial⟩,?_,?_,rfl⟩⟩
 ·simp[noDup,Nat.blt_eq,hlt]
 ·simp[hb]
 ·rw[rvL_mid _ _ h1 h2]; simp[AV.rv,fNew,dNew]
 ·exact low_mid h1 h2 rfl
 ·exact .rowv (by simp[dNew])
 ·exact .rowv (by simp[dNew])
 ·rw[outB,outB,List.append_nil]
  refine (List.ext_getElem? fun j=>?_).symm
  rw[List.getElem?_set]
  split
  ·rename_i e; subst e; exact hb.symm
  ·rfl
 ·simp[AV.rv]

def pureR (g:List AV→Option AV):RSpec:=fun args B r B'=>g args=some r∧B'=B
theorem SoundF.rel {P:Program} {f:Nat} {g:List AV→Option AV} (h:SoundF P f (.pure g)):SoundR P f (pureR g):=by
 rintro args B r B' ⟨h1,rfl⟩
 exact h args _ r _ (by show (g args).map _=_; rw[h1]; rfl)
end

def envP:List (Nat×(List AV→Option AV))→Env
 | [],_=> .none
 | (i,g)::l,f=>bif Nat.beq f i then .pure g else envP l f
theorem envP_nil {P:Program}:∀ f,SoundF P f (envP [] f):=fun f=>sound_none f
theorem envP_cons {P:Program} {i:Nat} {g:List AV→Option AV} {l:List (Nat×(List AV→Option AV))} (h:SoundF P i (.pure g)) (hl:∀ f,SoundF P f (envP l f)):∀ f,SoundF P f (envP ((i,g)::l) f):=fun f=>by
 unfold envP
 cases e:Nat.beq f i with
 | true=>rw[Nat.eq_of_beq_eq_true e]; exact h
 | false=>exact hl f
def envR:List (Nat×RSpec)→REnv
 | [],_=>fun _ _ _ _=>False
 | (i,R)::l,f=>bif Nat.beq f i then R else envR l f
theorem envR_nil {P:Program}:∀ f,SoundR P f (envR [] f):=fun f=> .none f
theorem envR_cons {P:Program} {i:Nat} {R:RSpec} {l:List (Nat×RSpec)} (h:SoundR P i R) (hl:∀ f,SoundR P f (envR l f)):∀ f,SoundR P f (envR ((i,R)::l) f):=fun f=>by
 unfold envR
 cases e:Nat.beq f i with
 | true=>rw[Nat.eq_of_beq_eq_true e]; exact h
 | false=>exact hl f

theorem byte_inj:∀ {a b:List UInt8},a.map byteE.f=b.map byteE.f→a=b
 | [],[],_=>rfl
 | x::a,y::b,h=>by
  simp only[List.map_cons,List.cons.injEq] at h
  have h1:PV.v (.int .u8 (x.toNat:Int))=PV.v (.int .u8 (y.toNat:Int)):=h.1
  simp only[PV.v.injEq,Value.int.injEq,true_and] at h1
  rw[UInt8.toNat_inj.1 (by omega:x.toNat=y.toNat),byte_inj h.2]
 | [],_::_,h=>by simp at h
 | _::_,[],h=>by simp at h
end Go.Ax

namespace Go.Ax
open Go.Proofs Go.RowKit
set_option maxRecDepth 100000

def isV:PV→Bool
 | .v _=>true
 | _=>false

theorem sound_lib {f:Nat} {R:List AV→AV→Prop} (he:enters DP f=true)
  (h:∀ args r,R args r→∃ (vs:List Value) (y:Value),args=vs.map (fun v=> .p (.v v))∧(∀ (F:Nat→Prop) B ρ w,VRel F B ρ w r y) ∧
   ∀ w,(∀ g,Glob.tab g≠ []→∃ us e fr,w.heap[g]? = some (.cells us e fr)∧us.toList.map PV.v=Glob.tab g)→Calls DP f vs.toArray w fun e w'=>e= .returned y∧Below w.heap.size w w'):SoundF DP f (.pure (relG R)):=by
 intro args B r B' hs F ρ w us hI hA
 obtain ⟨r',h1,h2⟩:=map_some hs
 cases h2
 obtain ⟨vs,y,rfl,hy,hc⟩:=h _ _ (relG_some h1)
 have hus:us=vs:=by
  apply List.ext_getElem?
  intro i
  have hl:=hA.1
  simp only[List.length_map] at hl
  rcases Nat.lt_or_ge i vs.length with hi | hi
  ·have:=hA.2 i (.p (.v vs[i])) us[i] (by rw[List.getElem?_map,List.getElem?_eq_getElem hi]; rfl) (List.getElem?_eq_getElem (by omega))
   rw[List.getElem?_eq_getElem (by omega),List.getElem?_eq_getElem hi,this.val]
  ·rw[List.getElem?_eq_none hi,List.getElem?_eq_none (by omega)]
 subst hus
 refine .inl ⟨enter_run he _ _,(hc w (fun g hg=>?_)).mono fun e w' hp=>?_⟩
 ·obtain ⟨us,e,fr,g1,g2⟩:=(hI.glob g hg).sz
  refine ⟨us,e,fr,g1,?_⟩
  have hv:=(hI.glob g hg).v
  generalize hx:Glob.tab g=cs at hv g2
  have hcs:∀ p∈cs,∃ v,p=PV.v v:=by
   rw[←hx]
   have hall:∀ g,(tabG g).all isV=true:=fun g=>by
    unfold tabG
    split <;> rfl
   intro p hp
   have:=List.all_eq_true.1 (hall g) p hp
   cases p with
   | v x=>exact ⟨x,rfl⟩
   | _=>cases this
  cases hv with
  | rp _ a us' q1 q2 q3 q4 q5 q6=>
   apply List.ext_getElem?
   intro i
   rw[List.getElem?_map]
   rcases Nat.lt_or_ge i cs.length with hi | hi
   ·have hu:us'[i]? = some us'[i]:=List.getElem?_eq_getElem (by omega)
    have h5:=q5 i _ hu
    obtain ⟨v,hv⟩:=hcs cs[i] (List.getElem_mem hi)
    have h6:=q6 i _ _ (List.getElem?_eq_getElem hi) hu
    rw[hv] at h6
    cases h6
    rw[Addr.add_lit,Nat.zero_add,cell_of g1] at h5
    rw[List.getElem?_eq_getElem hi,hv,Array.getElem?_toList,h5]
    rfl
   ·rw[List.getElem?_eq_none (by simp; omega),List.getElem?_eq_none hi]; rfl
 ·obtain ⟨rfl,hb⟩:=hp
  have hsh:∀ k e n,w.shape? k=some (e,n)→w'.shape? k=some (e,n):=fun k e n h=>by
   have hk:k<w.heap.size:=by
    rcases Nat.lt_or_ge k w.heap.size with h' | h'
    ·exact h'
    ·unfold World.shape? at h
     rw[Array.getElem?_eq_none h'] at h
     cases h
   unfold World.shape? at h ⊢
   rw[hb.block k hk]
   exact h
  obtain ⟨s1,s2⟩:=stands hb.size hb.os hb.tape hb.output hsh (fun k hk=>hb.block k hk) hI
  exact ⟨y,ρ,rfl,s2,s1,hy _ _ _ _⟩

end Go.Ax

namespace Go.Ax
open Go.Proofs Go.RowKit
set_option maxRecDepth 100000

theorem wrapU {k:IntKind} (hk:k.signed=false) (z:Int):k.wrap z=z % 2 ^ k.bits:=by
 simp[IntKind.wrap,hk]
theorem wrap8 (z:Int):IntKind.u8.wrap z=z % 256:=wrapU rfl z
theorem wrap32 (z:Int):IntKind.u32.wrap z=z % 4294967296:=wrapU rfl z
theorem wrap64 (z:Int):IntKind.u64.wrap z=z % 18446744073709551616:=wrapU rfl z
theorem wrap32id {z:Int} (h:0≤z∧z<4294967296):IntKind.u32.wrap z=z:=by rw[wrap32]; omega
theorem wrap64id {z:Int} (h:0≤z∧z<18446744073709551616):IntKind.u64.wrap z=z:=by rw[wrap64]; omega

def xorI (a b:Int):Int:=((a.toNat ^^^ b.toNat:Nat):Int)
def orI (a b:Int):Int:=((a.toNat ||| b.toNat:Nat):Int)
def andI (a b:Int):Int:=((a.toNat &&& b.toNat:Nat):Int)

theorem ofIntN {n:Nat} {a:Int} (h0:0≤a) (h1:a.toNat<2 ^ n):(BitVec.ofInt n a).toNat=a.toNat:=by
 obtain ⟨m,rfl⟩:=Int.eq_ofNat_of_zero_le h0
 rw[BitVec.ofInt_natCast,BitVec.toNat_ofNat]
 exact Nat.mod_eq_of_lt h1
theorem xorU {k:IntKind} (hk:k.signed=false) {a b:Int} (ha:0≤a∧a.toNat<2 ^ k.bits) (hb:0≤b∧b.toNat<2 ^ k.bits):k.wrap ((BitVec.ofInt k.bits a ^^^ BitVec.ofInt k.bits b).toNat:Nat)=xorI a b:=by
 rw[wrapU hk,BitVec.toNat_xor,ofIntN ha.1 ha.2,ofIntN hb.1 hb.2]
 have:=Nat.xor_lt_two_pow ha.2 hb.2
 unfold xorI
 have h2:((2:Int) ^ k.bits)=((2 ^ k.bits:Nat):Int):=by simp
 rw[h2,←Int.natCast_emod,Nat.mod_eq_of_lt this]
theorem orU {k:IntKind} (hk:k.signed=false) {a b:Int} (ha:0≤a∧a.toNat<2 ^ k.bits) (hb:0≤b∧b.toNat<2 ^ k.bits):k.wrap ((BitVec.ofInt k.bits a ||| BitVec.ofInt k.bits b).toNat:Nat)=orI a b:=by
 rw[wrapU hk,BitVec.toNat_or,ofIntN ha.1 ha.2,ofIntN hb.1 hb.2]
 have:=Nat.or_lt_two_pow ha.2 hb.2
 unfold orI
 have h2:((2:Int) ^ k.bits)=((2 ^ k.bits:Nat):Int):=by simp
 rw[h2,←Int.natCast_emod,Nat.mod_eq_of_lt this]
theorem andU {k:IntKind} (hk:k.signed=false) {a b:Int} (ha:0≤a∧a.toNat<2 ^ k.bits) (hb:0≤b∧b.toNat<2 ^ k.bits):k.wrap ((BitVec.ofInt k.bits a &&& BitVec.ofInt k.bits b).toNat:Nat)=andI a b:=by
 rw[wrapU hk,BitVec.toNat_and,ofIntN ha.1 ha.2,ofIntN hb.1 hb.2]
 have:=Nat.and_lt_two_pow (y:=b.toNat) a.toNat hb.2
 unfold andI
 have h2:((2:Int) ^ k.bits)=((2 ^ k.bits:Nat):Int):=by simp
 rw[h2,←Int.natCast_emod,Nat.mod_eq_of_lt this]
theorem xor32 {a b:Int} (ha:0≤a∧a<4294967296) (hb:0≤b∧b<4294967296):IntKind.u32.wrap ((BitVec.ofInt IntKind.u32.bits a ^^^ BitVec.ofInt IntKind.u32.bits b).toNat)=xorI a b:=xorU rfl ⟨ha.1,by show a.toNat<4294967296; omega⟩ ⟨hb.1,by show b.toNat<4294967296; omega⟩
theorem or32 {a b:Int} (ha:0≤a∧a<4294967296) (hb:0≤b∧b<4294967296):IntKind.u32.wrap ((BitVec.ofInt IntKind.u32.bits a ||| BitVec.ofInt IntKind.u32.bits b).toNat)=orI a b:=orU rfl ⟨ha.1,by show a.toNat<4294967296; omega⟩ ⟨hb.1,by show b.toNat<4294967296; omega⟩
theorem or64 {a b:Int} (ha:0≤a∧a<18446744073709551616) (hb:0≤b∧b<18446744073709551616):IntKind.u64.wrap ((BitVec.ofInt IntKind.u64.bits a ||| BitVec.ofInt IntKind.u64.bits b).toNat)=orI a b:=orU rfl ⟨ha.1,by show a.toNat<18446744073709551616; omega⟩ ⟨hb.1,by show b.toNat<18446744073709551616; omega⟩
theorem or8 {a b:Int} (ha:0≤a∧a<256) (hb:0≤b∧b<256):IntKind.u8.wrap ((BitVec.ofInt IntKind.u8.bits a ||| BitVec.ofInt IntKind.u8.bits b).toNat)=orI a b:=orU rfl ⟨ha.1,by show a.toNat<256; omega⟩ ⟨hb.1,by show b.toNat<256; omega⟩
theorem andMod {k:IntKind} (hk:k.signed=false) {a:Int} {m:Nat} (hm:m≤k.bits) (ha:0≤a∧a.toNat<2 ^ k.bits):k.wrap ((BitVec.ofInt k.bits a &&& BitVec.ofInt k.bits ((2 ^ m - 1:Nat):Int)).toNat)=a % ((2 ^ m:Nat):Int):=by
 have h2:2 ^ m - 1<2 ^ k.bits:=Nat.lt_of_lt_of_le (Nat.sub_lt (Nat.two_pow_pos m) Nat.one_pos) (Nat.pow_le_pow_right (by decide) hm)
 rw[andU hk ha ⟨Int.natCast_nonneg _,by rw[Int.toNat_natCast]; exact h2⟩]
 unfold andI
 rw[Int.toNat_natCast,Nat.and_two_pow_sub_one_eq_mod]
 obtain ⟨n,rfl⟩:=Int.eq_ofNat_of_zero_le ha.1
 simp
theorem and15 {a:Int} (ha:0≤a∧a<4294967296):IntKind.u32.wrap ((BitVec.ofInt IntKind.u32.bits a &&& BitVec.ofInt IntKind.u32.bits 15).toNat)=a % 16:=andMod (k:= .u32) (m:=4) rfl (by decide) ⟨ha.1,by show a.toNat<4294967296; omega⟩
theorem and127 {a:Int} (ha:0≤a∧a<256):IntKind.u8.wrap ((BitVec.ofInt IntKind.u8.bits a &&& BitVec.ofInt IntKind.u8.bits 127).toNat)=a % 128:=andMod (k:= .u8) (m:=7) rfl (by decide) ⟨ha.1,by show a.toNat<256; omega⟩
theorem comp32 {a:Int} (ha:0≤a∧a<4294967296):IntKind.u32.wrap ((BitVec.ofInt IntKind.u32.bits IntKind.u32.max ^^^ BitVec.ofInt IntKind.u32.bits a).toNat)=4294967295 - a:=by
 rw[xor32 (by decide) ha]
 obtain ⟨n,rfl⟩:=Int.eq_ofNat_of_zero_le ha.1
 unfold xorI
 have hm:(IntKind.u32.max).toNat=2 ^ 32 - 1:=by decide
 rw[hm,Int.toNat_natCast,Nat.xor_comm]
 have h1:n<2 ^ 32:=by omega
 have h2:(~~~ (BitVec.ofNat 32 n)).toNat=2 ^ 32 - 1 - n:=by
  rw[BitVec.toNat_not,BitVec.toNat_ofNat,Nat.mod_eq_of_lt h1]
 have h3:n ^^^ (2 ^ 32 - 1)=2 ^ 32 - 1 - n:=by
  rw[←h2,BitVec.toNat_not,BitVec.toNat_ofNat,Nat.mod_eq_of_lt h1]
  apply Nat.eq_of_testBit_eq
  intro i
  rw[Nat.testBit_xor,Nat.testBit_two_pow_sub_one]
  have h4:=Nat.testBit_two_pow_sub_succ (x:=n) (n:=32) h1 i
  have h5:2 ^ 32 - (n+1)=2 ^ 32 - 1 - n:=by omega
  rw[h5] at h4
  rw[h4]
  by_cases hi:i<32
  ·simp[hi]
  ·simp only[hi,decide_false,Bool.false_and,Bool.xor_false]
   exact Nat.testBit_lt_two_pow (Nat.lt_of_lt_of_le h1 (Nat.pow_le_pow_right (by decide) (by omega)))
 rw[h3]
 omega
theorem fdivP {a:Int} (b:Int) (hb:0≤b):Int.fdiv a b=a / b:=Int.fdiv_eq_ediv_of_nonneg a hb
theorem shr4 (a:Int):Int.fdiv a (2 ^ 4)=a / 16:=fdivP 16 (by decide)
theorem shr7 (a:Int):Int.fdiv a (2 ^ 7)=a / 128:=fdivP 128 (by decide)
theorem shr8 (a:Int):Int.fdiv a (2 ^ 8)=a / 256:=fdivP 256 (by decide)
theorem shr15 (a:Int):Int.fdiv a (2 ^ 15)=a / 32768:=fdivP 32768 (by decide)
theorem xorI_b {a b:Int} {n:Nat} (ha:0≤a∧a.toNat<2 ^ n) (hb:0≤b∧b.toNat<2 ^ n):0≤xorI a b∧(xorI a b).toNat<2 ^ n:=
 ⟨Int.natCast_nonneg _,by unfold xorI; rw[Int.toNat_natCast]; exact Nat.xor_lt_two_pow ha.2 hb.2⟩
theorem xorI_32 {a b:Int} (ha:0≤a∧a<4294967296) (hb:0≤b∧b<4294967296):0≤xorI a b∧xorI a b<4294967296:=by
 have:=xorI_b (n:=32) ⟨ha.1,by show a.toNat<4294967296; omega⟩ ⟨hb.1,by show b.toNat<4294967296; omega⟩
 exact ⟨this.1,by have:=this.2; change _<4294967296 at this; omega⟩
def halvesL:List Int:= [0,274646895,549293790,820201905,1098587580,1361435347,1640403810,1905808397,2197175160,2460548119,2722870694,2987750089,3280807620,3553878443,3811616794,4084100981]
def hA (i:Int):Int:=(halvesL[i.toNat]?).getD 0
def hR (i:Int):List PV:=halvesP.drop (i.toNat+1)
def halfI (x:Int):Int:=xorI (x / 16) (hA (x % 16))
def stepI (r:Int) (c:UInt8):Int:=halfI (halfI (xorI r (c.toNat:Int)))
def moreI (s:Int) (b:List UInt8):Int:=4294967295 - b.foldl stepI (4294967295 - s)
def crcI (b:List UInt8):Int:=moreI 0 b
def maskI (s:Int):Int:=(orI (s / 32768) ((s*131072) % 4294967296)+2726488792) % 4294967296

theorem hA_b (i:Int):0≤hA i∧hA i<4294967296:=by
 unfold hA
 have:∀ x∈halvesL,0≤x∧x<4294967296:=by decide
 cases h:halvesL[i.toNat]? with
 | none=>exact ⟨Int.le_refl _,by decide⟩
 | some x=>exact this x (List.mem_of_getElem? h)
theorem halfI_b {x:Int} (h:0≤x∧x<4294967296):0≤halfI x∧halfI x<4294967296:=xorI_32 (by omega) (hA_b _)
theorem u8_b (c:UInt8):0≤(c.toNat:Int)∧(c.toNat:Int)<256:=by have:=c.toNat_lt; omega
theorem stepI_b {r:Int} (h:0≤r∧r<4294967296) (c:UInt8):0≤stepI r c∧stepI r c<4294967296:=halfI_b (halfI_b (xorI_32 h (by have:=u8_b c; omega)))
theorem fold_b {r:Int} (h:0≤r∧r<4294967296) (b:List UInt8):0≤b.foldl stepI r∧b.foldl stepI r<4294967296:=by
 induction b generalizing r with
 | nil=>exact h
 | cons c b ih=>exact ih (stepI_b h c)
theorem moreI_b {s:Int} (h:0≤s∧s<4294967296) (b:List UInt8):0≤moreI s b∧moreI s b<4294967296:=by
 have:=fold_b (r:=4294967295 - s) (by omega) b
 unfold moreI; omega
theorem crcI_b (b:List UInt8):0≤crcI b∧crcI b<4294967296:=moreI_b (by decide) b
theorem tab_0:indexAddrA DP 161 (.rp halvesP) (vn .u32 0)=some (.rp (.v (.int .u32 (hA 0))::hR 0)):=by kernel_rfl
theorem tab_1:indexAddrA DP 161 (.rp halvesP) (vn .u32 1)=some (.rp (.v (.int .u32 (hA 1))::hR 1)):=by kernel_rfl
theorem tab_2:indexAddrA DP 161 (.rp halvesP) (vn .u32 2)=some (.rp (.v (.int .u32 (hA 2))::hR 2)):=by kernel_rfl
theorem tab_3:indexAddrA DP 161 (.rp halvesP) (vn .u32 3)=some (.rp (.v (.int .u32 (hA 3))::hR 3)):=by kernel_rfl
theorem tab_4:indexAddrA DP 161 (.rp halvesP) (vn .u32 4)=some (.rp (.v (.int .u32 (hA 4))::hR 4)):=by kernel_rfl
theorem tab_5:indexAddrA DP 161 (.rp halvesP) (vn .u32 5)=some (.rp (.v (.int .u32 (hA 5))::hR 5)):=by kernel_rfl
theorem tab_6:indexAddrA DP 161 (.rp halvesP) (vn .u32 6)=some (.rp (.v (.int .u32 (hA 6))::hR 6)):=by kernel_rfl
theorem tab_7:indexAddrA DP 161 (.rp halvesP) (vn .u32 7)=some (.rp (.v (.int .u32 (hA 7))::hR 7)):=by kernel_rfl
theorem tab_8:indexAddrA DP 161 (.rp halvesP) (vn .u32 8)=some (.rp (.v (.int .u32 (hA 8))::hR 8)):=by kernel_rfl
theorem tab_9:indexAddrA DP 161 (.rp halvesP) (vn .u32 9)=some (.rp (.v (.int .u32 (hA 9))::hR 9)):=by kernel_rfl
theorem tab_10:indexAddrA DP 161 (.rp halvesP) (vn .u32 10)=some (.rp (.v (.int .u32 (hA 10))::hR 10)):=by kernel_rfl
theorem tab_11:indexAddrA DP 161 (.rp halvesP) (vn .u32 11)=some (.rp (.v (.int .u32 (hA 11))::hR 11)):=by kernel_rfl
theorem tab_12:indexAddrA DP 161 (.rp halvesP) (vn .u32 12)=some (.rp (.v (.int .u32 (hA 12))::hR 12)):=by kernel_rfl
theorem tab_13:indexAddrA DP 161 (.rp halvesP) (vn .u32 13)=some (.rp (.v (.int .u32 (hA 13))::hR 13)):=by kernel_rfl
theorem tab_14:indexAddrA DP 161 (.rp halvesP) (vn .u32 14)=some (.rp (.v (.int .u32 (hA 14))::hR 14)):=by kernel_rfl
theorem tab_15:indexAddrA DP 161 (.rp halvesP) (vn .u32 15)=some (.rp (.v (.int .u32 (hA 15))::hR 15)):=by kernel_rfl
theorem table_at {i:Int} (h:0≤i∧i<16):indexAddrA DP 161 (.rp halvesP) (vn .u32 i)=some (.rp (.v (.int .u32 (hA i))::hR i)):=by
 have hn2:i=0∨i=1∨i=2∨i=3∨i=4∨i=5∨i=6∨i=7∨i=8∨i=9∨i=10∨i=11∨i=12∨i=13∨i=14∨i=15:=by omega
 rcases hn2 with rfl | rfl | rfl | rfl | rfl | rfl | rfl | rfl | rfl | rfl | rfl | rfl | rfl | rfl | rfl | rfl
 ·exact tab_0
 ·exact tab_1
 ·exact tab_2
 ·exact tab_3
 ·exact tab_4
 ·exact tab_5
 ·exact tab_6
 ·exact tab_7
 ·exact tab_8
 ·exact tab_9
 ·exact tab_10
 ·exact tab_11
 ·exact tab_12
 ·exact tab_13
 ·exact tab_14
 ·exact tab_15

def putN (n:Nat):List UInt8:=if h:n<128 then [UInt8.ofNat n] else UInt8.ofNat (n % 128+128)::putN (n / 128)
termination_by n
decreasing_by omega
def putI (n:Int):List UInt8:=putN n.toNat
def leN (n:Nat):Nat→List UInt8
 | 0=> []
 | k+1=>UInt8.ofNat (n % 256)::leN (n / 256) k
def leI (n k:Int):List UInt8:=leN n.toNat k.toNat
def numN:List UInt8→Nat
 | []=>0
 | c::r=>c.toNat+256*numN r
def littleI (b:List UInt8):Int:=numN (b.take 8)
def getA:Nat→Nat→List UInt8→Nat×Nat×Nat
 | _,_,[]=>(0,0,8)
 | i,a,c::r=>if i=9∧1<c.toNat then (0,0,2) else if c.toNat<128 then (if c.toNat=0∧0<i then (0,0,2) else (a+c.toNat*2 ^ (7*i),i+1,0)) else getA (i+1) (a+c.toNat % 128*2 ^ (7*i)) r
def getI (b:List UInt8):Int×Int×Int:=((getA 0 0 b).1,(getA 0 0 b).2.1,(getA 0 0 b).2.2)

def nextI (b:List UInt8):List UInt8×Int×Int:=
 if b.length<12 then ([],0,8) else
 if littleI ((b.take 8).drop 4) % 4294967296≠maskI (crcI (b.take 4))∨littleI (b.take 4)>1048576 then ([],0,12) else
 if (b.length:Int)<12+littleI (b.take 4) then ([],0,8) else
 if littleI ((b.take 12).drop 8) % 4294967296≠maskI (crcI ((b.take (12+littleI (b.take 4)).toNat).drop 12)) then ([],0,12) else
 ((b.take (12+littleI (b.take 4)).toNat).drop 12,12+littleI (b.take 4),0)
end Go.Ax
