/- Trees, printed by gen/k1.py: the disk's functions, the disk laid open. -/
import Derived.Test.YtbdfbdlfipcleaaDoorG20
set_option linter.unusedVariables false
set_option linter.unusedSimpArgs false
set_option linter.unusedSectionVars false
namespace Go.Ax
open Go.Proofs Go.RowKit
set_option maxRecDepth 100000

abbrev iNamed:Nat:=88
noncomputable abbrev nNamed:Func:=Tryd.f88
theorem hfNamed:DP.funcs[iNamed]? = some nNamed:=by kernel_rfl
theorem heNamed:enters DP iNamed=true:=by kernel_rfl
theorem hbNamed:nNamed.body.isSome=true:=by kernel_rfl
theorem hnNamed:nNamed.ntmps=39:=by kernel_rfl
abbrev iFind:Nat:=75
noncomputable abbrev nFind:Func:=Tryd.f75
theorem hfFind:DP.funcs[iFind]? = some nFind:=by kernel_rfl
theorem heFind:enters DP iFind=true:=by kernel_rfl
theorem hbFind:nFind.body.isSome=true:=by kernel_rfl
theorem hnFind:nFind.ntmps=28:=by kernel_rfl
abbrev iStep:Nat:=89
noncomputable abbrev nStep:Func:=Tryd.f89
theorem hfStep:DP.funcs[iStep]? = some nStep:=by kernel_rfl
theorem heStep:enters DP iStep=true:=by kernel_rfl
theorem hbStep:nStep.body.isSome=true:=by kernel_rfl
theorem hnStep:nStep.ntmps=27:=by kernel_rfl
abbrev iNew:Nat:=30
noncomputable abbrev nNew:Func:=Tryd.f30
theorem hfNew:DP.funcs[iNew]? = some nNew:=by kernel_rfl
theorem heNew:enters DP iNew=true:=by kernel_rfl
theorem hbNew:nNew.body.isSome=true:=by kernel_rfl
theorem hnNew:nNew.ntmps=9:=by kernel_rfl
abbrev iCreate:Nat:=60
noncomputable abbrev nCreate:Func:=Tryd.f60
theorem hfCreate:DP.funcs[iCreate]? = some nCreate:=by kernel_rfl
theorem heCreate:enters DP iCreate=true:=by kernel_rfl
theorem hbCreate:nCreate.body.isSome=true:=by kernel_rfl
theorem hnCreate:nCreate.ntmps=38:=by kernel_rfl
abbrev iAppend:Nat:=61
noncomputable abbrev nAppend:Func:=Tryd.f61
theorem hfAppend:DP.funcs[iAppend]? = some nAppend:=by kernel_rfl
theorem heAppend:enters DP iAppend=true:=by kernel_rfl
theorem hbAppend:nAppend.body.isSome=true:=by kernel_rfl
theorem hnAppend:nAppend.ntmps=54:=by kernel_rfl
abbrev iSync:Nat:=62
noncomputable abbrev nSync:Func:=Tryd.f62
theorem hfSync:DP.funcs[iSync]? = some nSync:=by kernel_rfl
theorem heSync:enters DP iSync=true:=by kernel_rfl
theorem hbSync:nSync.body.isSome=true:=by kernel_rfl
theorem hnSync:nSync.ntmps=30:=by kernel_rfl
abbrev iRead:Nat:=90
noncomputable abbrev nRead:Func:=Tryd.f90
theorem hfRead:DP.funcs[iRead]? = some nRead:=by kernel_rfl
theorem heRead:enters DP iRead=true:=by kernel_rfl
theorem hbRead:nRead.body.isSome=true:=by kernel_rfl
theorem hnRead:nRead.ntmps=54:=by kernel_rfl
abbrev iSize:Nat:=63
noncomputable abbrev nSize:Func:=Tryd.f63
theorem hfSize:DP.funcs[iSize]? = some nSize:=by kernel_rfl
theorem heSize:enters DP iSize=true:=by kernel_rfl
theorem hbSize:nSize.body.isSome=true:=by kernel_rfl
theorem hnSize:nSize.ntmps=22:=by kernel_rfl
abbrev iRoom:Nat:=59
noncomputable abbrev nRoom:Func:=Tryd.f59
theorem hfRoom:DP.funcs[iRoom]? = some nRoom:=by kernel_rfl
theorem heRoom:enters DP iRoom=true:=by kernel_rfl
theorem hbRoom:nRoom.body.isSome=true:=by kernel_rfl
theorem hnRoom:nRoom.ntmps=14:=by kernel_rfl
abbrev iDown:Nat:=58
noncomputable abbrev nDown:Func:=Tryd.f58
theorem hfDown:DP.funcs[iDown]? = some nDown:=by kernel_rfl
theorem heDown:enters DP iDown=true:=by kernel_rfl
theorem hbDown:nDown.body.isSome=true:=by kernel_rfl
theorem hnDown:nDown.ntmps=11:=by kernel_rfl
abbrev tMap:Nat:=109
abbrev tKey:Nat:=9
abbrev tVal:Nat:=133
theorem htMap:DP.underlying tMap=some (.map tKey tVal):=by kernel_rfl
theorem htKey:DP.underlying tKey=some .string:=by kernel_rfl
theorem htVal:zeroV DP tVal=some (.p (.v (.pointer none))):=by kernel_rfl

noncomputable def TNamed_l1_e (nm:ByteArray) (s1:Int):St:=([(0,vs nm),(6, .rs 0 0 1 0 nm.data.toList.length),(7,vi ((nm.data.toList.length:Nat):Int)),(8,vi s1)],[byteE.bx 0 nm.data.toList])
noncomputable def TNamed_l1_x (x1:Unit):AE×St:=(.ret,([(2,vb false)],[]))
noncomputable def TNamed_l1_x' (nm:ByteArray) (y1:Unit):AE×St:=((.exit 0),([(0,vs nm)],[]))
noncomputable def TNamed_l1_b (nm:ByteArray) (s1:Int):Tree:=
.sp 9 (decide (s1<((nm.data.toList.length:Nat):Int))) (
.ridx 10 nm.data.toList.length s1 (.rload 11 (rowC (nm.data.toList.map byteE.f)) (0+Int.toNat s1*1) byteE nm.data.toList s1 0 (fun e1=> .sp 13 (decide ((e1.toNat:Int)<(97:Int))) (
.sp 20 (decide ((e1.toNat:Int)<(48:Int))) (
.sp 28 ((e1.toNat:Int) != (46:Int)) (
.leaf ⟨[2],[]⟩ [] .ret (some (TNamed_l1_x ()).2)) (
.int 30 (IntKind.i64.wrap (s1+1)) (s1+1) (.leaf ⟨[0,6,7,8],[(0,0,some (nm.data.toList.map byteE.f))]⟩ [rowC (nm.data.toList.map byteE.f)] .normal (some (TNamed_l1_e nm (s1+1)))))) (
.sp 23 (decide ((e1.toNat:Int)>(57:Int))) (
.sp 28 ((e1.toNat:Int) != (46:Int)) (
.leaf ⟨[2],[]⟩ [] .ret (some (TNamed_l1_x ()).2)) (
.int 30 (IntKind.i64.wrap (s1+1)) (s1+1) (.leaf ⟨[0,6,7,8],[(0,0,some (nm.data.toList.map byteE.f))]⟩ [rowC (nm.data.toList.map byteE.f)] .normal (some (TNamed_l1_e nm (s1+1)))))) (
.int 30 (IntKind.i64.wrap (s1+1)) (s1+1) (.leaf ⟨[0,6,7,8],[(0,0,some (nm.data.toList.map byteE.f))]⟩ [rowC (nm.data.toList.map byteE.f)] .normal (some (TNamed_l1_e nm (s1+1))))))) (
.sp 16 (decide ((e1.toNat:Int)>(122:Int))) (
.sp 20 (decide ((e1.toNat:Int)<(48:Int))) (
.sp 28 ((e1.toNat:Int) != (46:Int)) (
.leaf ⟨[2],[]⟩ [] .ret (some (TNamed_l1_x ()).2)) (
.int 30 (IntKind.i64.wrap (s1+1)) (s1+1) (.leaf ⟨[0,6,7,8],[(0,0,some (nm.data.toList.map byteE.f))]⟩ [rowC (nm.data.toList.map byteE.f)] .normal (some (TNamed_l1_e nm (s1+1)))))) (
.sp 23 (decide ((e1.toNat:Int)>(57:Int))) (
.sp 28 ((e1.toNat:Int) != (46:Int)) (
.leaf ⟨[2],[]⟩ [] .ret (some (TNamed_l1_x ()).2)) (
.int 30 (IntKind.i64.wrap (s1+1)) (s1+1) (.leaf ⟨[0,6,7,8],[(0,0,some (nm.data.toList.map byteE.f))]⟩ [rowC (nm.data.toList.map byteE.f)] .normal (some (TNamed_l1_e nm (s1+1)))))) (
.int 30 (IntKind.i64.wrap (s1+1)) (s1+1) (.leaf ⟨[0,6,7,8],[(0,0,some (nm.data.toList.map byteE.f))]⟩ [rowC (nm.data.toList.map byteE.f)] .normal (some (TNamed_l1_e nm (s1+1))))))) (
.int 30 (IntKind.i64.wrap (s1+1)) (s1+1) (.leaf ⟨[0,6,7,8],[(0,0,some (nm.data.toList.map byteE.f))]⟩ [rowC (nm.data.toList.map byteE.f)] .normal (some (TNamed_l1_e nm (s1+1))))))))) (
.leaf ⟨[0],[]⟩ [] (.exit 0) (some (TNamed_l1_x' nm ()).2))
noncomputable def TNamed (nm:ByteArray):Tree:=
.sbyte 6 (.loop ⟨[0,6,7,8],[(0,0,some (nm.data.toList.map byteE.f))]⟩ [rowC (nm.data.toList.map byteE.f)] (some (TNamed_l1_e nm 0)) (TNamed_l1_e nm) (TNamed_l1_x) (TNamed_l1_x' nm) 0 (TNamed_l1_b nm) (fun (x1:Unit)=> .leaf ⟨[0],[]⟩ [] .ret (some ([(0,vb false)],[]))) (fun (y1:Unit)=> .sp 33 (decide ((nm.size:Int)>(0:Int))) (
.leaf ⟨[0],[]⟩ [] .ret (some ([(0,vb (decide ((nm.size:Int)≤(40:Int))))],[]))) (
.leaf ⟨[0],[]⟩ [] .ret (some ([(0,vb false)],[])))))

theorem TNamed_chk (nm:ByteArray):fnC DP Γ0 Δ0 Tryd.f88 [vs nm] [] (TNamed nm)=TNamed nm:=by kernel_rfl

end Go.Ax

namespace Go.Ax
open Go.Proofs Go.RowKit
set_option maxRecDepth 100000

theorem nlen (nm:ByteArray):nm.data.toList.length=nm.size:=by simp

theorem TNamed_l1 (nm:ByteArray) (hN:nm.size≤1000000000):∀ (suf pre:List UInt8),nm.data.toList=pre++suf →
  Rounds (TNamed_l1_e nm) TNamed_l1_x (TNamed_l1_x' nm) (fun s=>(TNamed_l1_b nm s).wp) (pre.length:Int) (if suf.all okChar then .inr () else .inl ())
 | [],pre,h=>by
  have e:nm.data.toList.length=pre.length:=by rw[h]; simp
  rw[if_pos (show ([]:List UInt8).all okChar=true from rfl)]
  refine .done' (by simp[TNamed_l1_x']) ?_
  unfold TNamed_l1_b
  exact wp_sp (fun h=>by have:=of_decide_eq_true h; omega) (fun _=>wp_leaf rfl ⟨rfl,rfl⟩)
 | c::suf,pre,h=>by
  have e:nm.data.toList.length=pre.length+(suf.length+1):=by rw[h]; simp
  have hs:=nlen nm
  have hc:nm.data.toList[Int.toNat (pre.length:Int)]? = some c:=by rw[h]; simp
  cases hok:okChar c with
  | false=>
   rw[if_neg (by simp[hok])]
   refine .done (by simp[TNamed_l1_x]) ?_
   unfold TNamed_l1_b
   refine wp_sp (fun _=>wp_ridx (by omega) (by omega) (wp_rload c (by omega) (by simp[byteE]) hc ?_)) (fun h=>by have:=of_decide_eq_false h; omega)
   repeat' (refine wp_sp (fun _=>?_) (fun _=>?_))
   all_goals first
    | exact wp_leaf rfl ⟨rfl,rfl⟩
    | (exfalso; simp only[okChar,Bool.or_eq_false_iff,Bool.and_eq_false_iff,decide_eq_false_iff_not,decide_eq_true_eq,bne_iff_ne,ne_eq,beq_eq_false_iff_ne,bne_eq_false_iff_eq] at *; omega)
  | true=>
   have ih:=TNamed_l1 nm hN suf (pre++ [c]) (by rw[h]; simp)
   have hlen:((pre++ [c]).length:Int)=(pre.length:Int)+1:=by simp
   have hres:(if (c::suf).all okChar=true then (.inr ():Unit ⊕ Unit) else .inl ())=(if suf.all okChar=true then .inr () else .inl ()):=by rw[List.all_cons,hok,Bool.true_and]
   rw[hres]
   refine .next ?_ ih
   unfold TNamed_l1_b
   refine wp_sp (fun _=>wp_ridx (by omega) (by omega) (wp_rload c (by omega) (by simp[byteE]) hc ?_)) (fun h=>by have:=of_decide_eq_false h; omega)
   repeat' (refine wp_sp (fun _=>?_) (fun _=>?_))
   all_goals first
    | exact wp_i64 (by omega) (wp_leaf rfl ⟨rfl,by rw[hlen]⟩)
    | (exfalso; simp only[okChar,Bool.or_eq_true,Bool.and_eq_true,decide_eq_false_iff_not,decide_eq_true_eq,bne_iff_ne,ne_eq,beq_iff_eq,bne_eq_false_iff_eq] at *; omega)

theorem TNamed_wp (nm:ByteArray) (hN:nm.size≤1000000000) {K:AE→St→Prop} (h:K .ret ([(0,vb (isName nm))],[])):(TNamed nm).wp K:=by
 have l:=TNamed_l1 nm hN nm.data.toList [] rfl
 unfold TNamed
 cases ha:nm.data.toList.all okChar with
 | false=>
  rw[if_neg (by simp[ha])] at l
  refine wp_loop () rfl l ?_
  have:isName nm=false:=by simp[isName,ha]
  rw[this] at h
  exact wp_leaf rfl h
 | true=>
  rw[if_pos ha] at l
  refine wp_loop' () rfl l (wp_sp (fun h1=>?_) (fun h1=>?_))
  ·have h1:=of_decide_eq_true h1
   have:isName nm=decide ((nm.size:Int)≤(40:Int)):=by
    simp only[isName,ha,Bool.true_and]
    rw[decide_eq_true (show 0<nm.size by omega),Bool.true_and]
    congr 1
    simp
    omega
   rw[this] at h
   exact wp_leaf rfl h
  ·have h1:=of_decide_eq_false h1
   have:isName nm=false:=by
    simp only[isName,ha,Bool.true_and]
    rw[decide_eq_false (show ¬0<nm.size by omega),Bool.false_and]
   rw[this] at h
   exact wp_leaf rfl h

theorem SNamed:SoundF DP iNamed (.pure gNamed):=
 sound_pureT mixedD Γ0_ok Δ0_ok hfNamed heNamed hbNamed (fun args r ⟨nm,hN,h1,h2⟩=>by
  subst h1 h2
  exact ⟨by rw[hnNamed]; rfl,rfl,_,TNamed_chk nm,TNamed_wp nm hN (.p _)⟩)

end Go.Ax

namespace Go.Ax
open Go.Proofs Go.RowKit
set_option maxRecDepth 100000

noncomputable def TFind_d (ro:Int) (us:Int) (fu:Int) (hid:List (Value×Value)) (nm:ByteArray):Tree:=
.leaf ⟨[0],[(0,0,none),(1,0,none)]⟩ [] .ret (some ([(0, .tup [.p (.v (.pointer none)),vi 10])],[.cells false 0 ([vi ro,vi us, .mp 1,vb true,vi fu]), .obj [] (mapP [] hid)]))

theorem TFind_d_chk (ro:Int) (us:Int) (fu:Int) (hid:List (Value×Value)) (nm:ByteArray):fnC DP Γ0 Δ0 Tryd.f75 [.ptr 0 0 0,vs nm] [.cells false 0 ([vi ro,vi us, .mp 1,vb true,vi fu]), .obj [] (mapP [] hid)] (TFind_d ro us fu hid nm)=TFind_d ro us fu hid nm:=by kernel_rfl

noncomputable def TFind_a (ro:Int) (us:Int) (fu:Int) (hid:List (Value×Value)) (nm:ByteArray):Tree:=
.val (some 22) (LookE DP 109 [.cells false 0 ([vi ro,vi us, .mp 1,vb false,vi fu]), .obj [] (mapP [] hid)] (.mp 1) (vs nm) (.tup [.p (.v (.pointer none)),vb false])) (.tup [.p (.v (.pointer none)),vb false]) [.cells false 0 ([vi ro,vi us, .mp 1,vb false,vi fu]), .obj [] (mapP [] hid)] (.leaf ⟨[0],[(0,0,none),(1,0,none)]⟩ [] .ret (some ([(0, .tup [.p (.v (.pointer none)),vi 4])],[.cells false 0 ([vi ro,vi us, .mp 1,vb false,vi fu]), .obj [] (mapP [] hid)])))

theorem TFind_a_chk (ro:Int) (us:Int) (fu:Int) (hid:List (Value×Value)) (nm:ByteArray):fnC DP Γ0 Δ0 Tryd.f75 [.ptr 0 0 0,vs nm] [.cells false 0 ([vi ro,vi us, .mp 1,vb false,vi fu]), .obj [] (mapP [] hid)] (TFind_a ro us fu hid nm)=TFind_a ro us fu hid nm:=by kernel_rfl

noncomputable def TFind_p (ro:Int) (us:Int) (fu:Int) (hid:List (Value×Value)) (L:List UInt8) (su:Int) (nm:ByteArray):Tree:=
.val (some 22) (LookE DP 109 [.cells false 0 ([vi ro,vi us, .mp 1,vb false,vi fu]), .obj [.ptr 2 0 0] (mapP [.string nm] hid), .cells false 0 ([.rs 3 0 1 0 L.length,vi su]),byteE.bx 0 L] (.mp 1) (vs nm) (.tup [.ptr 2 0 0,vb true])) (.tup [.ptr 2 0 0,vb true]) [.cells false 0 ([vi ro,vi us, .mp 1,vb false,vi fu]), .obj [.ptr 2 0 0] (mapP [.string nm] hid), .cells false 0 ([.rs 3 0 1 0 L.length,vi su]),byteE.bx 0 L] (.leaf ⟨[0],[(0,0,none),(1,0,none),(2,0,none),(3,0,some (L.map byteE.f))]⟩ [rowC (L.map byteE.f)] .ret (some ([(0, .tup [.ptr 2 0 0,vi 0])],[.cells false 0 ([vi ro,vi us, .mp 1,vb false,vi fu]), .obj [.ptr 2 0 0] (mapP [.string nm] hid), .cells false 0 ([.rs 3 0 1 0 L.length,vi su]),byteE.bx 0 L])))

theorem TFind_p_chk (ro:Int) (us:Int) (fu:Int) (hid:List (Value×Value)) (L:List UInt8) (su:Int) (nm:ByteArray):fnC DP Γ0 Δ0 Tryd.f75 [.ptr 0 0 0,vs nm] [.cells false 0 ([vi ro,vi us, .mp 1,vb false,vi fu]), .obj [.ptr 2 0 0] (mapP [.string nm] hid), .cells false 0 ([.rs 3 0 1 0 L.length,vi su]),byteE.bx 0 L] (TFind_p ro us fu hid L su nm)=TFind_p ro us fu hid L su nm:=by kernel_rfl

noncomputable def TFind_q (ro:Int) (us:Int) (fu:Int) (hid:List (Value×Value)) (L:List UInt8) (su:Int) (M:List UInt8) (sv:Int) (nn:ByteArray) (nm:ByteArray):Tree:=
.val (some 22) (LookE DP 109 [.cells false 0 ([vi ro,vi us, .mp 1,vb false,vi fu]), .obj [.ptr 2 0 0, .ptr 4 0 0] (mapP [.string nm, .string nn] hid), .cells false 0 ([.rs 3 0 1 0 L.length,vi su]),byteE.bx 0 L, .cells false 0 ([.rs 5 0 1 0 M.length,vi sv]),byteE.bx 0 M] (.mp 1) (vs nm) (.tup [.ptr 2 0 0,vb true])) (.tup [.ptr 2 0 0,vb true]) [.cells false 0 ([vi ro,vi us, .mp 1,vb false,vi fu]), .obj [.ptr 2 0 0, .ptr 4 0 0] (mapP [.string nm, .string nn] hid), .cells false 0 ([.rs 3 0 1 0 L.length,vi su]),byteE.bx 0 L, .cells false 0 ([.rs 5 0 1 0 M.length,vi sv]),byteE.bx 0 M] (.leaf ⟨[0],[(0,0,none),(1,0,none),(2,0,none),(3,0,some (L.map byteE.f)),(4,0,none),(5,0,some (M.map byteE.f))]⟩ [rowC (L.map byteE.f),rowC (M.map byteE.f)] .ret (some ([(0, .tup [.ptr 2 0 0,vi 0])],[.cells false 0 ([vi ro,vi us, .mp 1,vb false,vi fu]), .obj [.ptr 2 0 0, .ptr 4 0 0] (mapP [.string nm, .string nn] hid), .cells false 0 ([.rs 3 0 1 0 L.length,vi su]),byteE.bx 0 L, .cells false 0 ([.rs 5 0 1 0 M.length,vi sv]),byteE.bx 0 M])))

theorem TFind_q_chk (ro:Int) (us:Int) (fu:Int) (hid:List (Value×Value)) (L:List UInt8) (su:Int) (M:List UInt8) (sv:Int) (nn:ByteArray) (nm:ByteArray):fnC DP Γ0 Δ0 Tryd.f75 [.ptr 0 0 0,vs nm] [.cells false 0 ([vi ro,vi us, .mp 1,vb false,vi fu]), .obj [.ptr 2 0 0, .ptr 4 0 0] (mapP [.string nm, .string nn] hid), .cells false 0 ([.rs 3 0 1 0 L.length,vi su]),byteE.bx 0 L, .cells false 0 ([.rs 5 0 1 0 M.length,vi sv]),byteE.bx 0 M] (TFind_q ro us fu hid L su M sv nn nm)=TFind_q ro us fu hid L su M sv nn nm:=by kernel_rfl

noncomputable def TStep_a (ro:Int) (us:Int) (fu:Int) (hid:List (Value×Value)):Tree:=
.sp 7 (decide (fu>(0:Int))) (
.int 12 (IntKind.i64.wrap (fu - 1)) (fu - 1) (.sp 26 ((fu - 1) == (0:Int)) (
.leaf ⟨[0],[(0,0,none),(1,0,none)]⟩ [] .ret (some ([(0,vi 10)],[.cells false 0 ([vi ro,vi us, .mp 1,vb ((fu - 1) == (0:Int)),vi (fu - 1)]), .obj [] (mapP [] hid)]))) (
.leaf ⟨[0],[(0,0,none),(1,0,none)]⟩ [] .ret (some ([(0,vi 0)],[.cells false 0 ([vi ro,vi us, .mp 1,vb ((fu - 1) == (0:Int)),vi (fu - 1)]), .obj [] (mapP [] hid)]))))) (
.leaf ⟨[0],[(0,0,none),(1,0,none)]⟩ [] .ret (some ([(0,vi 0)],[.cells false 0 ([vi ro,vi us, .mp 1,vb false,vi fu]), .obj [] (mapP [] hid)])))

theorem TStep_a_chk (ro:Int) (us:Int) (fu:Int) (hid:List (Value×Value)):fnC DP Γ0 Δ0 Tryd.f89 [.ptr 0 0 0] [.cells false 0 ([vi ro,vi us, .mp 1,vb false,vi fu]), .obj [] (mapP [] hid)] (TStep_a ro us fu hid)=TStep_a ro us fu hid:=by kernel_rfl

noncomputable def TStep_p (ro:Int) (us:Int) (fu:Int) (hid:List (Value×Value)) (L:List UInt8) (su:Int) (nm:ByteArray):Tree:=
.sp 7 (decide (fu>(0:Int))) (
.int 12 (IntKind.i64.wrap (fu - 1)) (fu - 1) (.sp 26 ((fu - 1) == (0:Int)) (
.leaf ⟨[0],[(0,0,none),(1,0,none),(2,0,none),(3,0,some (L.map byteE.f))]⟩ [rowC (L.map byteE.f)] .ret (some ([(0,vi 10)],[.cells false 0 ([vi ro,vi us, .mp 1,vb ((fu - 1) == (0:Int)),vi (fu - 1)]), .obj [.ptr 2 0 0] (mapP [.string nm] hid), .cells false 0 ([.rs 3 0 1 0 L.length,vi su]),byteE.bx 0 L]))) (
.leaf ⟨[0],[(0,0,none),(1,0,none),(2,0,none),(3,0,some (L.map byteE.f))]⟩ [rowC (L.map byteE.f)] .ret (some ([(0,vi 0)],[.cells false 0 ([vi ro,vi us, .mp 1,vb ((fu - 1) == (0:Int)),vi (fu - 1)]), .obj [.ptr 2 0 0] (mapP [.string nm] hid), .cells false 0 ([.rs 3 0 1 0 L.length,vi su]),byteE.bx 0 L]))))) (
.leaf ⟨[0],[(0,0,none),(1,0,none),(2,0,none),(3,0,some (L.map byteE.f))]⟩ [rowC (L.map byteE.f)] .ret (some ([(0,vi 0)],[.cells false 0 ([vi ro,vi us, .mp 1,vb false,vi fu]), .obj [.ptr 2 0 0] (mapP [.string nm] hid), .cells false 0 ([.rs 3 0 1 0 L.length,vi su]),byteE.bx 0 L])))

theorem TStep_p_chk (ro:Int) (us:Int) (fu:Int) (hid:List (Value×Value)) (L:List UInt8) (su:Int) (nm:ByteArray):fnC DP Γ0 Δ0 Tryd.f89 [.ptr 0 0 0] [.cells false 0 ([vi ro,vi us, .mp 1,vb false,vi fu]), .obj [.ptr 2 0 0] (mapP [.string nm] hid), .cells false 0 ([.rs 3 0 1 0 L.length,vi su]),byteE.bx 0 L] (TStep_p ro us fu hid L su nm)=TStep_p ro us fu hid L su nm:=by kernel_rfl

noncomputable def TStep_q (ro:Int) (us:Int) (fu:Int) (hid:List (Value×Value)) (L:List UInt8) (su:Int) (M:List UInt8) (sv:Int) (nm:ByteArray) (nn:ByteArray):Tree:=
.sp 7 (decide (fu>(0:Int))) (
.int 12 (IntKind.i64.wrap (fu - 1)) (fu - 1) (.sp 26 ((fu - 1) == (0:Int)) (
.leaf ⟨[0],[(0,0,none),(1,0,none),(2,0,none),(3,0,some (L.map byteE.f)),(4,0,none),(5,0,some (M.map byteE.f))]⟩ [rowC (L.map byteE.f),rowC (M.map byteE.f)] .ret (some ([(0,vi 10)],[.cells false 0 ([vi ro,vi us, .mp 1,vb ((fu - 1) == (0:Int)),vi (fu - 1)]), .obj [.ptr 2 0 0, .ptr 4 0 0] (mapP [.string nm, .string nn] hid), .cells false 0 ([.rs 3 0 1 0 L.length,vi su]),byteE.bx 0 L, .cells false 0 ([.rs 5 0 1 0 M.length,vi sv]),byteE.bx 0 M]))) (
.leaf ⟨[0],[(0,0,none),(1,0,none),(2,0,none),(3,0,some (L.map byteE.f)),(4,0,none),(5,0,some (M.map byteE.f))]⟩ [rowC (L.map byteE.f),rowC (M.map byteE.f)] .ret (some ([(0,vi 0)],[.cells false 0 ([vi ro,vi us, .mp 1,vb ((fu - 1) == (0:Int)),vi (fu - 1)]), .obj [.ptr 2 0 0, .ptr 4 0 0] (mapP [.string nm, .string nn] hid), .cells false 0 ([.rs 3 0 1 0 L.length,vi su]),byteE.bx 0 L, .cells false 0 ([.rs 5 0 1 0 M.length,vi sv]),byteE.bx 0 M]))))) (
.leaf ⟨[0],[(0,0,none),(1,0,none),(2,0,none),(3,0,some (L.map byteE.f)),(4,0,none),(5,0,some (M.map byteE.f))]⟩ [rowC (L.map byteE.f),rowC (M.map byteE.f)] .ret (some ([(0,vi 0)],[.cells false 0 ([vi ro,vi us, .mp 1,vb false,vi fu]), .obj [.ptr 2 0 0, .ptr 4 0 0] (mapP [.string nm, .string nn] hid), .cells false 0 ([.rs 3 0 1 0 L.length,vi su]),byteE.bx 0 L, .cells false 0 ([.rs 5 0 1 0 M.length,vi sv]),byteE.bx 0 M])))

theorem TStep_q_chk (ro:Int) (us:Int) (fu:Int) (hid:List (Value×Value)) (L:List UInt8) (su:Int) (M:List UInt8) (sv:Int) (nm:ByteArray) (nn:ByteArray):fnC DP Γ0 Δ0 Tryd.f89 [.ptr 0 0 0] [.cells false 0 ([vi ro,vi us, .mp 1,vb false,vi fu]), .obj [.ptr 2 0 0, .ptr 4 0 0] (mapP [.string nm, .string nn] hid), .cells false 0 ([.rs 3 0 1 0 L.length,vi su]),byteE.bx 0 L, .cells false 0 ([.rs 5 0 1 0 M.length,vi sv]),byteE.bx 0 M] (TStep_q ro us fu hid L su M sv nm nn)=TStep_q ro us fu hid L su M sv nm nn:=by kernel_rfl

end Go.Ax

namespace Go.Ax
open Go.Proofs Go.RowKit
set_option maxRecDepth 100000

theorem SFind:SoundR DP iFind RFind:=
 sound_genT mixedD Γ0_ok Δ0_ok hfFind heFind hbFind (fun args B r B' h=>by
  cases h with
  | d ro us fu hid nm=>exact ⟨by rw[hnFind]; rfl,_,TFind_d_chk ro us fu hid nm,wp_leaf rfl ⟨rfl,rfl⟩⟩
  | a ro us fu hid hs nm hh hn=>exact ⟨by rw[hnFind]; rfl,_,TFind_a_chk ro us fu hid nm,wp_val (look_no htMap htKey htVal (ns:= []) rfl hh (by simp) hn) (wp_leaf rfl ⟨rfl,rfl⟩)⟩
  | p ro us fu hid hs x hh=>exact ⟨by rw[hnFind]; rfl,_,TFind_p_chk ro us fu hid x.b x.sure x.name,wp_val (look_v0 htMap htKey (ns:= []) rfl hh) (wp_leaf rfl ⟨rfl,rfl⟩)⟩
  | q ro us fu hid hs x y hh=>exact ⟨by rw[hnFind]; rfl,_,TFind_q_chk ro us fu hid x.b x.sure y.b y.sure y.name x.name,wp_val (look_v0 htMap htKey (ns:= [y.name]) rfl hh) (wp_leaf rfl ⟨rfl,rfl⟩)⟩)

theorem step_wp {fu:Int} (hfu:fu<9223372036854775808) {T:Int→Bool→Int→Tree} {K:AE→St→Prop}
  (hT:∀ f d e,f=stF fu→d=stD fu→e=stE fu→(T f d e).wp K):
  (Tree.sp 7 (decide (fu>(0:Int))) (.int 12 (IntKind.i64.wrap (fu - 1)) (fu - 1) (.sp 26 ((fu - 1) == (0:Int)) (T (fu - 1) ((fu - 1) == (0:Int)) 10) (T (fu - 1) ((fu - 1) == (0:Int)) 0))) (T fu false 0)).wp K:=by
 refine wp_sp (fun h=>wp_i64 (by have:=of_decide_eq_true h; omega) (wp_sp (fun h2=>?_) (fun h2=>?_))) (fun h=>?_)
 ·have h:=of_decide_eq_true h
  exact hT _ _ _ (by rw[stF,if_pos h]) (by rw[stD,decide_eq_true h,Bool.true_and]) (by rw[stE,stD,decide_eq_true h,Bool.true_and,h2]; rfl)
 ·have h:=of_decide_eq_true h
  exact hT _ _ _ (by rw[stF,if_pos h]) (by rw[stD,decide_eq_true h,Bool.true_and]) (by rw[stE,stD,decide_eq_true h,Bool.true_and,h2]; rfl)
 ·have h:=of_decide_eq_false h
  exact hT _ _ _ (by rw[stF,if_neg h]) (by rw[stD,decide_eq_false h,Bool.false_and]) (by rw[stE,stD,decide_eq_false h,Bool.false_and]; rfl)

theorem SStep:SoundR DP iStep RStep:=
 sound_genT mixedD Γ0_ok Δ0_ok hfStep heStep hbStep (fun args B r B' h=>by
  cases h with
  | mk ro us fu hid X hX hfu=>
   match X,hX with
   | [],_=>exact ⟨by rw[hnStep]; rfl,_,TStep_a_chk ro us fu hid,step_wp (T:=fun f d e=> .leaf _ [] .ret (some ([(0,vi e)],flatB (dsk ro us f d) [] hid))) hfu (fun f d e h1 h2 h3=>by subst h1 h2 h3; exact wp_leaf rfl ⟨rfl,rfl⟩)⟩
   | [x],_=>exact ⟨by rw[hnStep]; rfl,_,TStep_p_chk ro us fu hid x.b x.sure x.name,step_wp (T:=fun f d e=> .leaf ⟨[0],[(0,0,none),(1,0,none),(2,0,none),(3,0,some (x.b.map byteE.f))]⟩ [rowC (x.b.map byteE.f)] .ret (some ([(0,vi e)],flatB (dsk ro us f d) [x] hid))) hfu (fun f d e h1 h2 h3=>by subst h1 h2 h3; exact wp_leaf rfl ⟨rfl,rfl⟩)⟩
   | [x,y],_=>exact ⟨by rw[hnStep]; rfl,_,TStep_q_chk ro us fu hid x.b x.sure y.b y.sure x.name y.name,step_wp (T:=fun f d e=> .leaf ⟨[0],[(0,0,none),(1,0,none),(2,0,none),(3,0,some (x.b.map byteE.f)),(4,0,none),(5,0,some (y.b.map byteE.f))]⟩ [rowC (x.b.map byteE.f),rowC (y.b.map byteE.f)] .ret (some ([(0,vi e)],flatB (dsk ro us f d) [x,y] hid))) hfu (fun f d e h1 h2 h3=>by subst h1 h2 h3; exact wp_leaf rfl ⟨rfl,rfl⟩)⟩
   | _::_::_::_,h=>exact absurd h (by simp))

noncomputable def ΓF:Env:=fun f=>if f=iNamed then .pure gNamed else .none
theorem ΓF_ok:∀ f,SoundF DP f (ΓF f):=fun f=>by
 unfold ΓF
 split
 ·rename_i e; rw[e]; exact SNamed
 ·exact sound_none f
def ΔF:REnv:=fun f=>if f=iFind then liftR RFind else if f=iStep then liftR RStep else fun _ _ _ _=>False
theorem ΔF_ok:∀ f,SoundR DP f (ΔF f):=fun f=>by
 unfold ΔF
 split
 ·rename_i e; rw[e]; exact lift_sound SFind
 split
 ·rename_i e; rw[e]; exact lift_sound SStep
 ·exact .none f

end Go.Ax

namespace Go.Ax
open Go.Proofs Go.RowKit
set_option maxRecDepth 100000

noncomputable def TCreate_d (ro:Int) (us:Int) (fu:Int) (hid:List (Value×Value)) (nm:ByteArray):Tree:=
.call 12 (gNamed [vs nm]=some (vb (isName nm))) (vb (isName nm)) (.sp 12 (isName nm) (
.callr (some 18) (ΔF 75 [.ptr 0 0 0,vs nm] [.cells false 0 ([vi ro,vi us, .mp 1,vb true,vi fu]), .obj [] (mapP [] hid)] (.tup [.p (.v (.pointer none)),vi 10]) [.cells false 0 ([vi ro,vi us, .mp 1,vb true,vi fu]), .obj [] (mapP [] hid)]) (.tup [.p (.v (.pointer none)),vi 10]) [.cells false 0 ([vi ro,vi us, .mp 1,vb true,vi fu]), .obj [] (mapP [] hid)] (.leaf ⟨[0],[(0,0,none),(1,0,none)]⟩ [] .ret (some ([(0,vi 10)],[.cells false 0 ([vi ro,vi us, .mp 1,vb true,vi fu]), .obj [] (mapP [] hid)])))) (
.leaf ⟨[0],[(0,0,none),(1,0,none)]⟩ [] .ret (some ([(0,vi 1)],[.cells false 0 ([vi ro,vi us, .mp 1,vb true,vi fu]), .obj [] (mapP [] hid)]))))

theorem TCreate_d_chk (ro:Int) (us:Int) (fu:Int) (hid:List (Value×Value)) (nm:ByteArray):fnC DP ΓF ΔF Tryd.f60 [.ptr 0 0 0,vs nm] [.cells false 0 ([vi ro,vi us, .mp 1,vb true,vi fu]), .obj [] (mapP [] hid)] (TCreate_d ro us fu hid nm)=TCreate_d ro us fu hid nm:=by kernel_rfl

noncomputable def TCreate_a (ro:Int) (us:Int) (fu:Int) (hid:List (Value×Value)) (nm:ByteArray):Tree:=
.call 12 (gNamed [vs nm]=some (vb (isName nm))) (vb (isName nm)) (.sp 12 (isName nm) (
.callr (some 18) (ΔF 75 [.ptr 0 0 0,vs nm] [.cells false 0 ([vi ro,vi us, .mp 1,vb false,vi fu]), .obj [] (mapP [] hid)] (.tup [.p (.v (.pointer none)),vi 4]) [.cells false 0 ([vi ro,vi us, .mp 1,vb false,vi fu]), .obj [] (mapP [] hid)]) (.tup [.p (.v (.pointer none)),vi 4]) [.cells false 0 ([vi ro,vi us, .mp 1,vb false,vi fu]), .obj [] (mapP [] hid)] (.callr (some 27) (ΔF 89 [.ptr 0 0 0] [.cells false 0 ([vi ro,vi us, .mp 1,vb false,vi fu]), .obj [] (mapP [] hid)] (vi (stE fu)) [.cells false 0 ([vi ro,vi us, .mp 1,vb (stD fu),vi (stF fu)]), .obj [] (mapP [] hid)]) (vi (stE fu)) [.cells false 0 ([vi ro,vi us, .mp 1,vb (stD fu),vi (stF fu)]), .obj [] (mapP [] hid)] (.sp 29 ((stE fu) != (0:Int)) (
.leaf ⟨[0],[(0,0,none),(1,0,none)]⟩ [] .ret (some ([(0,vi (stE fu))],[.cells false 0 ([vi ro,vi us, .mp 1,vb (stD fu),vi (stF fu)]), .obj [] (mapP [] hid)]))) (
.val none (UpdE DP 109 [.cells false 0 ([vi ro,vi us, .mp 1,vb (stD fu),vi (stF fu)]), .obj [] (mapP [] hid), .cells false 0 ([nilS,vi 0])] (.mp 1) (vs nm) (.ptr 2 0 0) [.cells false 0 ([vi ro,vi us, .mp 1,vb (stD fu),vi (stF fu)]), .obj [.ptr 2 0 0] (mapP [.string nm] hid), .cells false 0 ([nilS,vi 0])]) (.u) [.cells false 0 ([vi ro,vi us, .mp 1,vb (stD fu),vi (stF fu)]), .obj [.ptr 2 0 0] (mapP [.string nm] hid), .cells false 0 ([nilS,vi 0])] (.leaf ⟨[0],[(0,0,none),(1,0,none),(2,0,none)]⟩ [] .ret (some ([(0,vi 0)],[.cells false 0 ([vi ro,vi us, .mp 1,vb (stD fu),vi (stF fu)]), .obj [.ptr 2 0 0] (mapP [.string nm] hid), .cells false 0 ([nilS,vi 0])]))))))) (
.leaf ⟨[0],[(0,0,none),(1,0,none)]⟩ [] .ret (some ([(0,vi 1)],[.cells false 0 ([vi ro,vi us, .mp 1,vb false,vi fu]), .obj [] (mapP [] hid)]))))

theorem TCreate_a_chk (ro:Int) (us:Int) (fu:Int) (hid:List (Value×Value)) (nm:ByteArray):fnC DP ΓF ΔF Tryd.f60 [.ptr 0 0 0,vs nm] [.cells false 0 ([vi ro,vi us, .mp 1,vb false,vi fu]), .obj [] (mapP [] hid)] (TCreate_a ro us fu hid nm)=TCreate_a ro us fu hid nm:=by kernel_rfl

noncomputable def TCreate_p (ro:Int) (us:Int) (fu:Int) (hid:List (Value×Value)) (L:List UInt8) (su:Int) (nm:ByteArray):Tree:=
.call 12 (gNamed [vs nm]=some (vb (isName nm))) (vb (isName nm)) (.sp 12 (isName nm) (
.callr (some 18) (ΔF 75 [.ptr 0 0 0,vs nm] [.cells false 0 ([vi ro,vi us, .mp 1,vb false,vi fu]), .obj [.ptr 2 0 0] (mapP [.string nm] hid), .cells false 0 ([.rs 3 0 1 0 L.length,vi su]),byteE.bx 0 L] (.tup [.ptr 2 0 0,vi 0]) [.cells false 0 ([vi ro,vi us, .mp 1,vb false,vi fu]), .obj [.ptr 2 0 0] (mapP [.string nm] hid), .cells false 0 ([.rs 3 0 1 0 L.length,vi su]),byteE.bx 0 L]) (.tup [.ptr 2 0 0,vi 0]) [.cells false 0 ([vi ro,vi us, .mp 1,vb false,vi fu]), .obj [.ptr 2 0 0] (mapP [.string nm] hid), .cells false 0 ([.rs 3 0 1 0 L.length,vi su]),byteE.bx 0 L] (.leaf ⟨[0],[(0,0,none),(1,0,none),(2,0,none),(3,0,some (L.map byteE.f))]⟩ [rowC (L.map byteE.f)] .ret (some ([(0,vi 5)],[.cells false 0 ([vi ro,vi us, .mp 1,vb false,vi fu]), .obj [.ptr 2 0 0] (mapP [.string nm] hid), .cells false 0 ([.rs 3 0 1 0 L.length,vi su]),byteE.bx 0 L])))) (
.leaf ⟨[0],[(0,0,none),(1,0,none),(2,0,none),(3,0,some (L.map byteE.f))]⟩ [rowC (L.map byteE.f)] .ret (some ([(0,vi 1)],[.cells false 0 ([vi ro,vi us, .mp 1,vb false,vi fu]), .obj [.ptr 2 0 0] (mapP [.string nm] hid), .cells false 0 ([.rs 3 0 1 0 L.length,vi su]),byteE.bx 0 L]))))

theorem TCreate_p_chk (ro:Int) (us:Int) (fu:Int) (hid:List (Value×Value)) (L:List UInt8) (su:Int) (nm:ByteArray):fnC DP ΓF ΔF Tryd.f60 [.ptr 0 0 0,vs nm] [.cells false 0 ([vi ro,vi us, .mp 1,vb false,vi fu]), .obj [.ptr 2 0 0] (mapP [.string nm] hid), .cells false 0 ([.rs 3 0 1 0 L.length,vi su]),byteE.bx 0 L] (TCreate_p ro us fu hid L su nm)=TCreate_p ro us fu hid L su nm:=by kernel_rfl

noncomputable def TSync_d (ro:Int) (us:Int) (fu:Int) (hid:List (Value×Value)) (nm:ByteArray):Tree:=
.callr (some 11) (ΔF 75 [.ptr 0 0 0,vs nm] [.cells false 0 ([vi ro,vi us, .mp 1,vb true,vi fu]), .obj [] (mapP [] hid)] (.tup [.p (.v (.pointer none)),vi 10]) [.cells false 0 ([vi ro,vi us, .mp 1,vb true,vi fu]), .obj [] (mapP [] hid)]) (.tup [.p (.v (.pointer none)),vi 10]) [.cells false 0 ([vi ro,vi us, .mp 1,vb true,vi fu]), .obj [] (mapP [] hid)] (.leaf ⟨[0],[(0,0,none),(1,0,none)]⟩ [] .ret (some ([(0,vi 10)],[.cells false 0 ([vi ro,vi us, .mp 1,vb true,vi fu]), .obj [] (mapP [] hid)])))

theorem TSync_d_chk (ro:Int) (us:Int) (fu:Int) (hid:List (Value×Value)) (nm:ByteArray):fnC DP ΓF ΔF Tryd.f62 [.ptr 0 0 0,vs nm] [.cells false 0 ([vi ro,vi us, .mp 1,vb true,vi fu]), .obj [] (mapP [] hid)] (TSync_d ro us fu hid nm)=TSync_d ro us fu hid nm:=by kernel_rfl

noncomputable def TSync_a (ro:Int) (us:Int) (fu:Int) (hid:List (Value×Value)) (nm:ByteArray):Tree:=
.callr (some 11) (ΔF 75 [.ptr 0 0 0,vs nm] [.cells false 0 ([vi ro,vi us, .mp 1,vb false,vi fu]), .obj [] (mapP [] hid)] (.tup [.p (.v (.pointer none)),vi 4]) [.cells false 0 ([vi ro,vi us, .mp 1,vb false,vi fu]), .obj [] (mapP [] hid)]) (.tup [.p (.v (.pointer none)),vi 4]) [.cells false 0 ([vi ro,vi us, .mp 1,vb false,vi fu]), .obj [] (mapP [] hid)] (.leaf ⟨[0],[(0,0,none),(1,0,none)]⟩ [] .ret (some ([(0,vi 4)],[.cells false 0 ([vi ro,vi us, .mp 1,vb false,vi fu]), .obj [] (mapP [] hid)])))

theorem TSync_a_chk (ro:Int) (us:Int) (fu:Int) (hid:List (Value×Value)) (nm:ByteArray):fnC DP ΓF ΔF Tryd.f62 [.ptr 0 0 0,vs nm] [.cells false 0 ([vi ro,vi us, .mp 1,vb false,vi fu]), .obj [] (mapP [] hid)] (TSync_a ro us fu hid nm)=TSync_a ro us fu hid nm:=by kernel_rfl

noncomputable def TSync_p (ro:Int) (us:Int) (fu:Int) (hid:List (Value×Value)) (L:List UInt8) (su:Int) (nm:ByteArray):Tree:=
.callr (some 11) (ΔF 75 [.ptr 0 0 0,vs nm] [.cells false 0 ([vi ro,vi us, .mp 1,vb false,vi fu]), .obj [.ptr 2 0 0] (mapP [.string nm] hid), .cells false 0 ([.rs 3 0 1 0 L.length,vi su]),byteE.bx 0 L] (.tup [.ptr 2 0 0,vi 0]) [.cells false 0 ([vi ro,vi us, .mp 1,vb false,vi fu]), .obj [.ptr 2 0 0] (mapP [.string nm] hid), .cells false 0 ([.rs 3 0 1 0 L.length,vi su]),byteE.bx 0 L]) (.tup [.ptr 2 0 0,vi 0]) [.cells false 0 ([vi ro,vi us, .mp 1,vb false,vi fu]), .obj [.ptr 2 0 0] (mapP [.string nm] hid), .cells false 0 ([.rs 3 0 1 0 L.length,vi su]),byteE.bx 0 L] (.callr (some 18) (ΔF 89 [.ptr 0 0 0] [.cells false 0 ([vi ro,vi us, .mp 1,vb false,vi fu]), .obj [.ptr 2 0 0] (mapP [.string nm] hid), .cells false 0 ([.rs 3 0 1 0 L.length,vi su]),byteE.bx 0 L] (vi (stE fu)) [.cells false 0 ([vi ro,vi us, .mp 1,vb (stD fu),vi (stF fu)]), .obj [.ptr 2 0 0] (mapP [.string nm] hid), .cells false 0 ([.rs 3 0 1 0 L.length,vi su]),byteE.bx 0 L]) (vi (stE fu)) [.cells false 0 ([vi ro,vi us, .mp 1,vb (stD fu),vi (stF fu)]), .obj [.ptr 2 0 0] (mapP [.string nm] hid), .cells false 0 ([.rs 3 0 1 0 L.length,vi su]),byteE.bx 0 L] (.sp 20 ((stE fu) != (0:Int)) (
.leaf ⟨[0],[(0,0,none),(1,0,none),(2,0,none),(3,0,some (L.map byteE.f))]⟩ [rowC (L.map byteE.f)] .ret (some ([(0,vi (stE fu))],[.cells false 0 ([vi ro,vi us, .mp 1,vb (stD fu),vi (stF fu)]), .obj [.ptr 2 0 0] (mapP [.string nm] hid), .cells false 0 ([.rs 3 0 1 0 L.length,vi su]),byteE.bx 0 L]))) (
.leaf ⟨[0],[(0,0,none),(1,0,none),(2,0,none),(3,0,some (L.map byteE.f))]⟩ [rowC (L.map byteE.f)] .ret (some ([(0,vi 0)],[.cells false 0 ([vi ro,vi us, .mp 1,vb (stD fu),vi (stF fu)]), .obj [.ptr 2 0 0] (mapP [.string nm] hid), .cells false 0 ([.rs 3 0 1 0 L.length,vi ((L.length:Nat):Int)]),byteE.bx 0 L])))))

theorem TSync_p_chk (ro:Int) (us:Int) (fu:Int) (hid:List (Value×Value)) (L:List UInt8) (su:Int) (nm:ByteArray):fnC DP ΓF ΔF Tryd.f62 [.ptr 0 0 0,vs nm] [.cells false 0 ([vi ro,vi us, .mp 1,vb false,vi fu]), .obj [.ptr 2 0 0] (mapP [.string nm] hid), .cells false 0 ([.rs 3 0 1 0 L.length,vi su]),byteE.bx 0 L] (TSync_p ro us fu hid L su nm)=TSync_p ro us fu hid L su nm:=by kernel_rfl

noncomputable def TSize_d (ro:Int) (us:Int) (fu:Int) (hid:List (Value×Value)) (nm:ByteArray):Tree:=
.callr (some 11) (ΔF 75 [.ptr 0 0 0,vs nm] [.cells false 0 ([vi ro,vi us, .mp 1,vb true,vi fu]), .obj [] (mapP [] hid)] (.tup [.p (.v (.pointer none)),vi 10]) [.cells false 0 ([vi ro,vi us, .mp 1,vb true,vi fu]), .obj [] (mapP [] hid)]) (.tup [.p (.v (.pointer none)),vi 10]) [.cells false 0 ([vi ro,vi us, .mp 1,vb true,vi fu]), .obj [] (mapP [] hid)] (.leaf ⟨[0],[(0,0,none),(1,0,none)]⟩ [] .ret (some ([(0, .tup [vi 0,vi 10])],[.cells false 0 ([vi ro,vi us, .mp 1,vb true,vi fu]), .obj [] (mapP [] hid)])))

theorem TSize_d_chk (ro:Int) (us:Int) (fu:Int) (hid:List (Value×Value)) (nm:ByteArray):fnC DP ΓF ΔF Tryd.f63 [.ptr 0 0 0,vs nm] [.cells false 0 ([vi ro,vi us, .mp 1,vb true,vi fu]), .obj [] (mapP [] hid)] (TSize_d ro us fu hid nm)=TSize_d ro us fu hid nm:=by kernel_rfl

noncomputable def TSize_a (ro:Int) (us:Int) (fu:Int) (hid:List (Value×Value)) (nm:ByteArray):Tree:=
.callr (some 11) (ΔF 75 [.ptr 0 0 0,vs nm] [.cells false 0 ([vi ro,vi us, .mp 1,vb false,vi fu]), .obj [] (mapP [] hid)] (.tup [.p (.v (.pointer none)),vi 4]) [.cells false 0 ([vi ro,vi us, .mp 1,vb false,vi fu]), .obj [] (mapP [] hid)]) (.tup [.p (.v (.pointer none)),vi 4]) [.cells false 0 ([vi ro,vi us, .mp 1,vb false,vi fu]), .obj [] (mapP [] hid)] (.leaf ⟨[0],[(0,0,none),(1,0,none)]⟩ [] .ret (some ([(0, .tup [vi 0,vi 4])],[.cells false 0 ([vi ro,vi us, .mp 1,vb false,vi fu]), .obj [] (mapP [] hid)])))

theorem TSize_a_chk (ro:Int) (us:Int) (fu:Int) (hid:List (Value×Value)) (nm:ByteArray):fnC DP ΓF ΔF Tryd.f63 [.ptr 0 0 0,vs nm] [.cells false 0 ([vi ro,vi us, .mp 1,vb false,vi fu]), .obj [] (mapP [] hid)] (TSize_a ro us fu hid nm)=TSize_a ro us fu hid nm:=by kernel_rfl

noncomputable def TSize_p (ro:Int) (us:Int) (fu:Int) (hid:List (Value×Value)) (L:List UInt8) (su:Int) (nm:ByteArray):Tree:=
.callr (some 11) (ΔF 75 [.ptr 0 0 0,vs nm] [.cells false 0 ([vi ro,vi us, .mp 1,vb false,vi fu]), .obj [.ptr 2 0 0] (mapP [.string nm] hid), .cells false 0 ([.rs 3 0 1 0 L.length,vi su]),byteE.bx 0 L] (.tup [.ptr 2 0 0,vi 0]) [.cells false 0 ([vi ro,vi us, .mp 1,vb false,vi fu]), .obj [.ptr 2 0 0] (mapP [.string nm] hid), .cells false 0 ([.rs 3 0 1 0 L.length,vi su]),byteE.bx 0 L]) (.tup [.ptr 2 0 0,vi 0]) [.cells false 0 ([vi ro,vi us, .mp 1,vb false,vi fu]), .obj [.ptr 2 0 0] (mapP [.string nm] hid), .cells false 0 ([.rs 3 0 1 0 L.length,vi su]),byteE.bx 0 L] (.leaf ⟨[0],[(0,0,none),(1,0,none),(2,0,none),(3,0,some (L.map byteE.f))]⟩ [rowC (L.map byteE.f)] .ret (some ([(0, .tup [vi ((L.length:Nat):Int),vi 0])],[.cells false 0 ([vi ro,vi us, .mp 1,vb false,vi fu]), .obj [.ptr 2 0 0] (mapP [.string nm] hid), .cells false 0 ([.rs 3 0 1 0 L.length,vi su]),byteE.bx 0 L])))

theorem TSize_p_chk (ro:Int) (us:Int) (fu:Int) (hid:List (Value×Value)) (L:List UInt8) (su:Int) (nm:ByteArray):fnC DP ΓF ΔF Tryd.f63 [.ptr 0 0 0,vs nm] [.cells false 0 ([vi ro,vi us, .mp 1,vb false,vi fu]), .obj [.ptr 2 0 0] (mapP [.string nm] hid), .cells false 0 ([.rs 3 0 1 0 L.length,vi su]),byteE.bx 0 L] (TSize_p ro us fu hid L su nm)=TSize_p ro us fu hid L su nm:=by kernel_rfl

noncomputable def TAppend_d (ro:Int) (us:Int) (fu:Int) (hid:List (Value×Value)) (nm:ByteArray) (bs:List UInt8):Tree:=
.callr (some 13) (ΔF 75 [.ptr 0 0 0,vs nm] [.cells false 0 ([vi ro,vi us, .mp 1,vb true,vi fu]), .obj [] (mapP [] hid)] (.tup [.p (.v (.pointer none)),vi 10]) [.cells false 0 ([vi ro,vi us, .mp 1,vb true,vi fu]), .obj [] (mapP [] hid)]) (.tup [.p (.v (.pointer none)),vi 10]) [.cells false 0 ([vi ro,vi us, .mp 1,vb true,vi fu]), .obj [] (mapP [] hid)] (.leaf ⟨[0],[(0,0,none),(1,0,none)]⟩ [] .ret (some ([(0,vi 10)],[.cells false 0 ([vi ro,vi us, .mp 1,vb true,vi fu]), .obj [] (mapP [] hid)])))

theorem TAppend_d_chk (ro:Int) (us:Int) (fu:Int) (hid:List (Value×Value)) (nm:ByteArray) (bs:List UInt8):fnC DP ΓF ΔF Tryd.f61 [.ptr 0 0 0,vs nm,vl (bs.map byteE.f)] [.cells false 0 ([vi ro,vi us, .mp 1,vb true,vi fu]), .obj [] (mapP [] hid)] (TAppend_d ro us fu hid nm bs)=TAppend_d ro us fu hid nm bs:=by kernel_rfl

noncomputable def TAppend_a (ro:Int) (us:Int) (fu:Int) (hid:List (Value×Value)) (nm:ByteArray) (bs:List UInt8):Tree:=
.callr (some 13) (ΔF 75 [.ptr 0 0 0,vs nm] [.cells false 0 ([vi ro,vi us, .mp 1,vb false,vi fu]), .obj [] (mapP [] hid)] (.tup [.p (.v (.pointer none)),vi 4]) [.cells false 0 ([vi ro,vi us, .mp 1,vb false,vi fu]), .obj [] (mapP [] hid)]) (.tup [.p (.v (.pointer none)),vi 4]) [.cells false 0 ([vi ro,vi us, .mp 1,vb false,vi fu]), .obj [] (mapP [] hid)] (.leaf ⟨[0],[(0,0,none),(1,0,none)]⟩ [] .ret (some ([(0,vi 4)],[.cells false 0 ([vi ro,vi us, .mp 1,vb false,vi fu]), .obj [] (mapP [] hid)])))

theorem TAppend_a_chk (ro:Int) (us:Int) (fu:Int) (hid:List (Value×Value)) (nm:ByteArray) (bs:List UInt8):fnC DP ΓF ΔF Tryd.f61 [.ptr 0 0 0,vs nm,vl (bs.map byteE.f)] [.cells false 0 ([vi ro,vi us, .mp 1,vb false,vi fu]), .obj [] (mapP [] hid)] (TAppend_a ro us fu hid nm bs)=TAppend_a ro us fu hid nm bs:=by kernel_rfl

noncomputable def TAppend_p (ro:Int) (us:Int) (fu:Int) (hid:List (Value×Value)) (L:List UInt8) (su:Int) (nm:ByteArray) (bs:List UInt8):Tree:=
.callr (some 13) (ΔF 75 [.ptr 0 0 0,vs nm] [.cells false 0 ([vi ro,vi us, .mp 1,vb false,vi fu]), .obj [.ptr 2 0 0] (mapP [.string nm] hid), .cells false 0 ([.rs 3 0 1 0 L.length,vi su]),byteE.bx 0 L] (.tup [.ptr 2 0 0,vi 0]) [.cells false 0 ([vi ro,vi us, .mp 1,vb false,vi fu]), .obj [.ptr 2 0 0] (mapP [.string nm] hid), .cells false 0 ([.rs 3 0 1 0 L.length,vi su]),byteE.bx 0 L]) (.tup [.ptr 2 0 0,vi 0]) [.cells false 0 ([vi ro,vi us, .mp 1,vb false,vi fu]), .obj [.ptr 2 0 0] (mapP [.string nm] hid), .cells false 0 ([.rs 3 0 1 0 L.length,vi su]),byteE.bx 0 L] (.int 20 ((bs.map byteE.f).length:Int) (bs.length:Int) (.int 29 (IntKind.i64.wrap (ro - us)) (ro - us) (.sp 30 (decide ((bs.length:Int)>(ro - us))) (
.leaf ⟨[0],[(0,0,none),(1,0,none),(2,0,none),(3,0,some (L.map byteE.f))]⟩ [rowC (L.map byteE.f)] .ret (some ([(0,vi 11)],[.cells false 0 ([vi ro,vi us, .mp 1,vb false,vi fu]), .obj [.ptr 2 0 0] (mapP [.string nm] hid), .cells false 0 ([.rs 3 0 1 0 L.length,vi su]),byteE.bx 0 L]))) (
.callr (some 32) (ΔF 89 [.ptr 0 0 0] [.cells false 0 ([vi ro,vi us, .mp 1,vb false,vi fu]), .obj [.ptr 2 0 0] (mapP [.string nm] hid), .cells false 0 ([.rs 3 0 1 0 L.length,vi su]),byteE.bx 0 L] (vi (stE fu)) [.cells false 0 ([vi ro,vi us, .mp 1,vb (stD fu),vi (stF fu)]), .obj [.ptr 2 0 0] (mapP [.string nm] hid), .cells false 0 ([.rs 3 0 1 0 L.length,vi su]),byteE.bx 0 L]) (vi (stE fu)) [.cells false 0 ([vi ro,vi us, .mp 1,vb (stD fu),vi (stF fu)]), .obj [.ptr 2 0 0] (mapP [.string nm] hid), .cells false 0 ([.rs 3 0 1 0 L.length,vi su]),byteE.bx 0 L] (.sp 34 ((stE fu) != (0:Int)) (
.leaf ⟨[0],[(0,0,none),(1,0,none),(2,0,none),(3,0,some (L.map byteE.f))]⟩ [rowC (L.map byteE.f)] .ret (some ([(0,vi (stE fu))],[.cells false 0 ([vi ro,vi us, .mp 1,vb (stD fu),vi (stF fu)]), .obj [.ptr 2 0 0] (mapP [.string nm] hid), .cells false 0 ([.rs 3 0 1 0 L.length,vi su]),byteE.bx 0 L]))) (
.app 42 (.ls (bs.map byteE.f)) L.length (rowC (L.map byteE.f)) byteE L bs (.int 50 ((bs.map byteE.f).length:Int) (bs.length:Int) (.int 51 (IntKind.i64.wrap (us+(bs.length:Int))) (us+(bs.length:Int)) (.leaf ⟨[0],[(0,0,none),(1,0,none),(2,0,none),(3,0,some ((L++bs).map byteE.f))]⟩ [rowC ((L++bs).map byteE.f)] .ret (some ([(0,vi 0)],[.cells false 0 ([vi ro,vi (us+(bs.length:Int)), .mp 1,vb (stD fu),vi (stF fu)]), .obj [.ptr 2 0 0] (mapP [.string nm] hid), .cells false 0 ([.rs 3 1 1 0 ((L++bs).length),vi su]),byteE.bx 1 (L++bs)])))))))))))

theorem TAppend_p_chk (ro:Int) (us:Int) (fu:Int) (hid:List (Value×Value)) (L:List UInt8) (su:Int) (nm:ByteArray) (bs:List UInt8):fnC DP ΓF ΔF Tryd.f61 [.ptr 0 0 0,vs nm,vl (bs.map byteE.f)] [.cells false 0 ([vi ro,vi us, .mp 1,vb false,vi fu]), .obj [.ptr 2 0 0] (mapP [.string nm] hid), .cells false 0 ([.rs 3 0 1 0 L.length,vi su]),byteE.bx 0 L] (TAppend_p ro us fu hid L su nm bs)=TAppend_p ro us fu hid L su nm bs:=by kernel_rfl

end Go.Ax
