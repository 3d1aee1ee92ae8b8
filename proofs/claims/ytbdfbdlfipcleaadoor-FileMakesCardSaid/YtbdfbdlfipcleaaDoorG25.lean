/- Trees, printed by gen/k1.py: the disk's functions, the disk laid open. -/
import Derived.Test.YtbdfbdlfipcleaaDoorG21
import Derived.Test.YtbdfbdlfipcleaaDoorG24
import Derived.Test.YtbdfbdlfipcleaaDoorG20
import Derived.Test.YtbdfbdlfipcleaaDoorG22
import Derived.Shelf.SlIter.Nil
import Derived.Shelf.SortM.Plain
import Derived.Shelf.SortM.SortNone
set_option linter.unusedVariables false
set_option linter.unusedSimpArgs false
set_option linter.unusedSectionVars false
namespace Go.Ax
open Go.Proofs Go.RowKit
set_option maxRecDepth 100000

noncomputable def TRead_d (ro:Int) (us:Int) (fu:Int) (hid:List (Value×Value)) (nm:ByteArray) (ofs:Int) (n:Int):Tree:=
.callr (some 15) (ΔF 75 [.ptr 0 0 0,vs nm] [.cells false 0 ([vi ro,vi us, .mp 1,vb true,vi fu]), .obj [] (mapP [] hid)] (.tup [.p (.v (.pointer none)),vi 10]) [.cells false 0 ([vi ro,vi us, .mp 1,vb true,vi fu]), .obj [] (mapP [] hid)]) (.tup [.p (.v (.pointer none)),vi 10]) [.cells false 0 ([vi ro,vi us, .mp 1,vb true,vi fu]), .obj [] (mapP [] hid)] (.leaf ⟨[0],[(0,0,none),(1,0,none)]⟩ [] .ret (some ([(0, .tup [nilS,vi 10])],[.cells false 0 ([vi ro,vi us, .mp 1,vb true,vi fu]), .obj [] (mapP [] hid)])))

theorem TRead_d_chk (ro:Int) (us:Int) (fu:Int) (hid:List (Value×Value)) (nm:ByteArray) (ofs:Int) (n:Int):fnC DP ΓF ΔF Tryd.f90 [.ptr 0 0 0,vs nm,vi ofs,vi n] [.cells false 0 ([vi ro,vi us, .mp 1,vb true,vi fu]), .obj [] (mapP [] hid)] (TRead_d ro us fu hid nm ofs n)=TRead_d ro us fu hid nm ofs n:=by kernel_rfl

noncomputable def TRead_a (ro:Int) (us:Int) (fu:Int) (hid:List (Value×Value)) (nm:ByteArray) (ofs:Int) (n:Int):Tree:=
.callr (some 15) (ΔF 75 [.ptr 0 0 0,vs nm] [.cells false 0 ([vi ro,vi us, .mp 1,vb false,vi fu]), .obj [] (mapP [] hid)] (.tup [.p (.v (.pointer none)),vi 4]) [.cells false 0 ([vi ro,vi us, .mp 1,vb false,vi fu]), .obj [] (mapP [] hid)]) (.tup [.p (.v (.pointer none)),vi 4]) [.cells false 0 ([vi ro,vi us, .mp 1,vb false,vi fu]), .obj [] (mapP [] hid)] (.leaf ⟨[0],[(0,0,none),(1,0,none)]⟩ [] .ret (some ([(0, .tup [nilS,vi 4])],[.cells false 0 ([vi ro,vi us, .mp 1,vb false,vi fu]), .obj [] (mapP [] hid)])))

theorem TRead_a_chk (ro:Int) (us:Int) (fu:Int) (hid:List (Value×Value)) (nm:ByteArray) (ofs:Int) (n:Int):fnC DP ΓF ΔF Tryd.f90 [.ptr 0 0 0,vs nm,vi ofs,vi n] [.cells false 0 ([vi ro,vi us, .mp 1,vb false,vi fu]), .obj [] (mapP [] hid)] (TRead_a ro us fu hid nm ofs n)=TRead_a ro us fu hid nm ofs n:=by kernel_rfl

noncomputable def TRead_p (ro:Int) (us:Int) (fu:Int) (hid:List (Value×Value)) (L:List UInt8) (su:Int) (nm:ByteArray) (ofs:Int) (n:Int):Tree:=
.callr (some 15) (ΔF 75 [.ptr 0 0 0,vs nm] [.cells false 0 ([vi ro,vi us, .mp 1,vb false,vi fu]), .obj [.ptr 2 0 0] (mapP [.string nm] hid), .cells false 0 ([.rs 3 0 1 0 L.length,vi su]),byteE.bx 0 L] (.tup [.ptr 2 0 0,vi 0]) [.cells false 0 ([vi ro,vi us, .mp 1,vb false,vi fu]), .obj [.ptr 2 0 0] (mapP [.string nm] hid), .cells false 0 ([.rs 3 0 1 0 L.length,vi su]),byteE.bx 0 L]) (.tup [.ptr 2 0 0,vi 0]) [.cells false 0 ([vi ro,vi us, .mp 1,vb false,vi fu]), .obj [.ptr 2 0 0] (mapP [.string nm] hid), .cells false 0 ([.rs 3 0 1 0 L.length,vi su]),byteE.bx 0 L] (.sp 22 (decide (ofs<(0:Int))) (
.leaf ⟨[0],[(0,0,none),(1,0,none),(2,0,none),(3,0,some (L.map byteE.f))]⟩ [rowC (L.map byteE.f)] .ret (some ([(0, .tup [nilS,vi 1])],[.cells false 0 ([vi ro,vi us, .mp 1,vb false,vi fu]), .obj [.ptr 2 0 0] (mapP [.string nm] hid), .cells false 0 ([.rs 3 0 1 0 L.length,vi su]),byteE.bx 0 L]))) (
.sp 30 (decide (ofs>((L.length:Nat):Int))) (
.leaf ⟨[0],[(0,0,none),(1,0,none),(2,0,none),(3,0,some (L.map byteE.f))]⟩ [rowC (L.map byteE.f)] .ret (some ([(0, .tup [nilS,vi 1])],[.cells false 0 ([vi ro,vi us, .mp 1,vb false,vi fu]), .obj [.ptr 2 0 0] (mapP [.string nm] hid), .cells false 0 ([.rs 3 0 1 0 L.length,vi su]),byteE.bx 0 L]))) (
.sp 34 (decide (n<(0:Int))) (
.leaf ⟨[0],[(0,0,none),(1,0,none),(2,0,none),(3,0,some (L.map byteE.f))]⟩ [rowC (L.map byteE.f)] .ret (some ([(0, .tup [nilS,vi 1])],[.cells false 0 ([vi ro,vi us, .mp 1,vb false,vi fu]), .obj [.ptr 2 0 0] (mapP [.string nm] hid), .cells false 0 ([.rs 3 0 1 0 L.length,vi su]),byteE.bx 0 L]))) (
.int 49 (IntKind.i64.wrap (((L.length:Nat):Int) - ofs)) (((L.length:Nat):Int) - ofs) (.int 51 (IntKind.i64.wrap (ofs+(if (((L.length:Nat):Int) - ofs:Int)<(n:Int) then (((L.length:Nat):Int) - ofs:Int) else (n:Int)))) (ofs+(if (((L.length:Nat):Int) - ofs:Int)<(n:Int) then (((L.length:Nat):Int) - ofs:Int) else (n:Int))) (.rcut 52 L.length (some ofs) (some (ofs+(if (((L.length:Nat):Int) - ofs:Int)<(n:Int) then (((L.length:Nat):Int) - ofs:Int) else (n:Int)))) (.appn 53 (.part (0+loN (some ofs)*1) (hiN (some (ofs+(if (((L.length:Nat):Int) - ofs:Int)<(n:Int) then (((L.length:Nat):Int) - ofs:Int) else (n:Int)))) L.length - loN (some ofs)) (rowC (L.map byteE.f))) byteE (cutL (some ofs) (some (ofs+(if (((L.length:Nat):Int) - ofs:Int)<(n:Int) then (((L.length:Nat):Int) - ofs:Int) else (n:Int)))) L) (.leaf ⟨[0],[(0,0,none),(1,0,none),(2,0,none),(3,0,some (L.map byteE.f)),(4,0,some ((cutL (some ofs) (some (ofs+(if (((L.length:Nat):Int) - ofs:Int)<(n:Int) then (((L.length:Nat):Int) - ofs:Int) else (n:Int)))) L).map byteE.f))]⟩ [rowC (L.map byteE.f),rowC ((cutL (some ofs) (some (ofs+(if (((L.length:Nat):Int) - ofs:Int)<(n:Int) then (((L.length:Nat):Int) - ofs:Int) else (n:Int)))) L).map byteE.f)] .ret (some ([(0, .tup [.rs 4 0 1 0 ((cutL (some ofs) (some (ofs+(if (((L.length:Nat):Int) - ofs:Int)<(n:Int) then (((L.length:Nat):Int) - ofs:Int) else (n:Int)))) L).length),vi 0])],[.cells false 0 ([vi ro,vi us, .mp 1,vb false,vi fu]), .obj [.ptr 2 0 0] (mapP [.string nm] hid), .cells false 0 ([.rs 3 0 1 0 L.length,vi su]),byteE.bx 0 L,byteE.bx 0 (cutL (some ofs) (some (ofs+(if (((L.length:Nat):Int) - ofs:Int)<(n:Int) then (((L.length:Nat):Int) - ofs:Int) else (n:Int)))) L)]))))))))))

theorem TRead_p_chk (ro:Int) (us:Int) (fu:Int) (hid:List (Value×Value)) (L:List UInt8) (su:Int) (nm:ByteArray) (ofs:Int) (n:Int):fnC DP ΓF ΔF Tryd.f90 [.ptr 0 0 0,vs nm,vi ofs,vi n] [.cells false 0 ([vi ro,vi us, .mp 1,vb false,vi fu]), .obj [.ptr 2 0 0] (mapP [.string nm] hid), .cells false 0 ([.rs 3 0 1 0 L.length,vi su]),byteE.bx 0 L] (TRead_p ro us fu hid L su nm ofs n)=TRead_p ro us fu hid L su nm ofs n:=by kernel_rfl

noncomputable def TRoom_t (ro:Int) (us:Int) (fu:Int) (hid:List (Value×Value)):Tree:=
.int 13 (IntKind.i64.wrap (ro - us)) (ro - us) (.leaf ⟨[0],[(0,0,none),(1,0,none)]⟩ [] .ret (some ([(0,vi (ro - us))],[.cells false 0 ([vi ro,vi us, .mp 1,vb true,vi fu]), .obj [] (mapP [] hid)])))

theorem TRoom_t_chk (ro:Int) (us:Int) (fu:Int) (hid:List (Value×Value)):fnC DP ΓF ΔF Tryd.f59 [.ptr 0 0 0] [.cells false 0 ([vi ro,vi us, .mp 1,vb true,vi fu]), .obj [] (mapP [] hid)] (TRoom_t ro us fu hid)=TRoom_t ro us fu hid:=by kernel_rfl

noncomputable def TRoom_f (ro:Int) (us:Int) (fu:Int) (hid:List (Value×Value)):Tree:=
.int 13 (IntKind.i64.wrap (ro - us)) (ro - us) (.leaf ⟨[0],[(0,0,none),(1,0,none)]⟩ [] .ret (some ([(0,vi (ro - us))],[.cells false 0 ([vi ro,vi us, .mp 1,vb false,vi fu]), .obj [] (mapP [] hid)])))

theorem TRoom_f_chk (ro:Int) (us:Int) (fu:Int) (hid:List (Value×Value)):fnC DP ΓF ΔF Tryd.f59 [.ptr 0 0 0] [.cells false 0 ([vi ro,vi us, .mp 1,vb false,vi fu]), .obj [] (mapP [] hid)] (TRoom_f ro us fu hid)=TRoom_f ro us fu hid:=by kernel_rfl

noncomputable def TDown_t (ro:Int) (us:Int) (fu:Int) (hid:List (Value×Value)):Tree:=
.leaf ⟨[0],[(0,0,none),(1,0,none)]⟩ [] .ret (some ([(0,vb true)],[.cells false 0 ([vi ro,vi us, .mp 1,vb true,vi fu]), .obj [] (mapP [] hid)]))

theorem TDown_t_chk (ro:Int) (us:Int) (fu:Int) (hid:List (Value×Value)):fnC DP ΓF ΔF Tryd.f58 [.ptr 0 0 0] [.cells false 0 ([vi ro,vi us, .mp 1,vb true,vi fu]), .obj [] (mapP [] hid)] (TDown_t ro us fu hid)=TDown_t ro us fu hid:=by kernel_rfl

noncomputable def TDown_f (ro:Int) (us:Int) (fu:Int) (hid:List (Value×Value)):Tree:=
.leaf ⟨[0],[(0,0,none),(1,0,none)]⟩ [] .ret (some ([(0,vb false)],[.cells false 0 ([vi ro,vi us, .mp 1,vb false,vi fu]), .obj [] (mapP [] hid)]))

theorem TDown_f_chk (ro:Int) (us:Int) (fu:Int) (hid:List (Value×Value)):fnC DP ΓF ΔF Tryd.f58 [.ptr 0 0 0] [.cells false 0 ([vi ro,vi us, .mp 1,vb false,vi fu]), .obj [] (mapP [] hid)] (TDown_f ro us fu hid)=TDown_f ro us fu hid:=by kernel_rfl

noncomputable def TNew (n:Int):Tree:=
.leaf ⟨[0],[(1,0,none),(0,0,none)]⟩ [] .ret (some ([(0, .ptr 0 0 0)],[.cells false 0 ([vi (if (0:Int)<((if (67108864:Int)<(n:Int) then (67108864:Int) else (n:Int)):Int) then ((if (67108864:Int)<(n:Int) then (67108864:Int) else (n:Int)):Int) else (0:Int)),vi 0, .mp 1,vb false,vi 0]), .obj [] (mapP [] [])]))

theorem TNew_chk (n:Int):fnC DP ΓF ΔF Tryd.f30 [vi n] [] (TNew n)=TNew n:=by kernel_rfl

end Go.Ax

namespace Go.Ax
open Go.Proofs Go.RowKit
set_option maxRecDepth 100000

theorem obAR {fn:Func} {D:Dsk} {al:List AV} {bs:List UInt8} {e:Int} (hal:al.all isP=true)
  (h:∀ hid,hid.map (·.1)=strsV (D.files.map (·.name))→RG fn (.ptr 0 0 0::al) (flatB D [] hid) (.tup [.rs 2 0 1 0 bs.length,vi e]) (flatB D [] hid++ [rowB 0 bs])):
  diskR (RG fn) (.op 0::al) [.obj [] (diskP D)] (.tup [.rs 1 0 1 0 bs.length,vi e]) [.obj [] (diskP D),rowB 0 bs]:=by
 refine ⟨D,D,[],D.files,[],[],[(2,0,bs)],al, .tup [.rs 0 0 1 0 bs.length,vi e], .refl _,al_ok hal,by rw[al_id hal],rfl,fun hid hh=>⟨flatB D [] hid++ [rowB 0 bs],?_,⟨rfl,rfl,fun i hi=>(nomatch hi),by simp,fun z hz=>?_,fun b hb=>absurd hb (by simp)⟩⟩, .refl _,rfl,rfl,rfl,rfl⟩
 ·rw[al_id hal]
  exact h hid (by rw[hh]; simp[keysOf])
 ·rcases List.mem_cons.1 hz with rfl | hz
  ·rfl
  ·cases hz

theorem obPR {fn:Func} {D:Dsk} {x:Fil} {al:List AV} {bs:List UInt8} {e:Int} (ok:(D.files.map (·.name)).Nodup) (hx:x∈D.files) (hal:al.all isP=true)
  (h:∀ hid,hid.map (·.1)=strsV ((delF D.files x.name).map (·.name))→RG fn (.ptr 0 0 0::al) (flatB D [x] hid) (.tup [.rs 4 0 1 0 bs.length,vi e]) (flatB D [x] hid++ [rowB 0 bs])):
  diskR (RG fn) (.op 0::al) [.obj [] (diskP D)] (.tup [.rs 1 0 1 0 bs.length,vi e]) [.obj [] (diskP D),rowB 0 bs]:=by
 refine ⟨D,D,[x],delF D.files x.name,[],[⟨x,2,3,0⟩],[(4,0,bs)],al, .tup [.rs 0 0 1 0 bs.length,vi e],delF_perm ok hx,al_ok hal,by rw[al_id hal],rfl,fun hid hh=>⟨flatB D [x] hid++ [rowB 0 bs],?_,⟨rfl,rfl,fun i hi=>?_,by simp,fun z hz=>?_,fun b hb=>absurd hb (by simp)⟩⟩,(delF_perm ok hx).symm,rfl,rfl,rfl,rfl⟩
 ·rw[al_id hal]
  exact h hid (by rw[hh]; simp[keysOf])
 ·rcases List.mem_cons.1 hi with rfl | hi
  ·exact ⟨rfl,rfl⟩
  ·cases hi
 ·rcases List.mem_cons.1 hz with rfl | hz
  ·rfl
  ·cases hz

def ORead:RSpec:=fun args B r B'=>∃ (D:Dsk) (nm:ByteArray) (ofs n:Int),D.Ok∧args= [.op 0,vs nm,vi ofs,vi n]∧B= [.obj [] (diskP D)] ∧
 r= .tup [.rs 1 0 1 0 (readD D nm ofs n).1.length,vi (readD D nm ofs n).2]∧B'= [.obj [] (diskP D),rowB 0 (readD D nm ofs n).1]

theorem rowByte (bs:List UInt8):rowC (bs.map byteE.f)=bs.map byteA:=(byteCells bs).symm

theorem row_part (bs:List UInt8) (lo k k':Nat) {n:Nat} (hn:n=k') (hk:k'=min k (bs.length - lo)):
  ((rowC (bs.map byteE.f)).drop (0+lo*1)).take (n*byteE.sz)=rowC (((bs.drop lo).take k).map byteE.f):=by
 subst hn
 rw[rowByte,rowByte,←List.map_drop,←List.map_take]
 congr 1
 show ((bs.drop (0+lo*1)).take (n*1))=_
 rw[show 0+lo*1=lo from by omega,Nat.mul_one,hk]
 rw[←List.length_drop,List.take_eq_take_iff]
 omega

theorem cut_read (L:List UInt8) (ofs n:Int) (h1:0≤ofs) (h2:ofs≤(L.length:Int)) (h3:0≤n):
  cutL (some ofs) (some (ofs+(if (((L.length:Nat):Int) - ofs:Int)<(n:Int) then (((L.length:Nat):Int) - ofs:Int) else (n:Int)))) L=(L.drop ofs.toNat).take (min n (L.length - ofs)).toNat:=by
 show (L.take _).drop ofs.toNat=_
 rw[List.drop_take]
 congr 1
 split <;> omega

theorem SRead:SoundR DP iRead ORead:=(SO hfRead heRead hbRead).mono (by
 rintro args B r B' ⟨D,nm,ofs,n,ok,rfl,rfl,rfl,rfl⟩
 obtain ⟨b1,b2,b3⟩:=ok.bnd
 obtain ⟨ro,us,fs,dn,fu⟩:=D
 cases dn with
 | true=>
  refine obAR (bs:= []) (e:=10) (al:= [vs nm,vi ofs,vi n]) rfl (fun hid hh=> .inr (.inr ⟨flatB (dsk ro us fu true) [] hid,vi 10,⟨by rw[hnRead]; rfl,_,TRead_d_chk ro us fu hid nm ofs n,?_⟩,rfl,rfl⟩))
  unfold TRead_d
  exact wp_callr (dFind (.d ro us fu hid nm) []) (wp_leaf rfl ⟨rfl,rfl⟩)
 | false=>
  cases hg:(⟨ro,us,fs,false,fu⟩:Dsk).get nm with
  | none=>
   have hno:=get_none hg
   have h2:readD ⟨ro,us,fs,false,fu⟩ nm ofs n=([],4):=by unfold readD; rw[if_neg (by simp)]; simp only[hg]
   rw[h2]
   refine obAR (bs:= []) (e:=4) (al:= [vs nm,vi ofs,vi n]) rfl (fun hid hh=> .inr (.inr ⟨flatB (dsk ro us fu false) [] hid,vi 4,⟨by rw[hnRead]; rfl,_,TRead_a_chk ro us fu hid nm ofs n,?_⟩,rfl,rfl⟩))
   unfold TRead_a
   exact wp_callr (dFind (.a ro us fu hid _ nm hh hno) []) (wp_leaf rfl ⟨rfl,rfl⟩)
  | some x=>
   obtain ⟨hx,rfl⟩:=get_some hg
   have hxl:=b3 x hx
   simp only at b1 b2 hxl
   by_cases hbad:ofs<0∨ofs>x.b.length∨n<0
   ·have h2:readD ⟨ro,us,fs,false,fu⟩ x.name ofs n=([],1):=by unfold readD; rw[if_neg (by simp)]; simp only[hg,hbad,if_true]
    rw[h2]
    refine obPR (bs:= []) (e:=1) (al:= [vs x.name,vi ofs,vi n]) ok.nod hx rfl (fun hid hh=> .inr (.inr ⟨flatB (dsk ro us fu false) [x] hid,vi 1,⟨by rw[hnRead]; rfl,_,TRead_p_chk ro us fu hid x.b x.sure x.name ofs n,?_⟩,rfl,rfl⟩))
    unfold TRead_p
    refine wp_callr (dFind (.p ro us fu hid _ x hh) []) (wp_sp (fun h=>wp_leaf rfl ⟨rfl,rfl⟩) (fun h1=>wp_sp (fun h=>wp_leaf rfl ⟨rfl,rfl⟩) (fun h2=>wp_sp (fun h=>wp_leaf rfl ⟨rfl,rfl⟩) (fun h3=>?_))))
    have h1:=of_decide_eq_false h1
    have h2:=of_decide_eq_false h2
    have h3:=of_decide_eq_false h3
    omega
   ·have h2:readD ⟨ro,us,fs,false,fu⟩ x.name ofs n=((x.b.drop ofs.toNat).take (min n (x.b.length - ofs)).toNat,0):=by unfold readD; rw[if_neg (by simp)]; simp only[hg,hbad,if_false]
    rw[h2]
    have hc:=cut_read x.b ofs n (by omega) (by omega) (by omega)
    simp only
    rw[←hc]
    refine obPR (e:=0) (al:= [vs x.name,vi ofs,vi n]) ok.nod hx rfl (fun hid hh=> .inl ⟨by rw[hnRead]; rfl,_,TRead_p_chk ro us fu hid x.b x.sure x.name ofs n,?_⟩)
    unfold TRead_p
    have hlen:(cutL (some ofs) (some (ofs+(if (((x.b.length:Nat):Int) - ofs:Int)<(n:Int) then (((x.b.length:Nat):Int) - ofs:Int) else (n:Int)))) x.b).length≤x.b.length:=by
     rw[hc]; simp only[List.length_take,List.length_drop]; omega
    refine wp_callr (dFind (.p ro us fu hid _ x hh) []) (wp_sp (fun h=>absurd (of_decide_eq_true h) (by omega)) (fun h1=>wp_sp (fun h=>absurd (of_decide_eq_true h) (by omega)) (fun h2=>wp_sp (fun h=>absurd (of_decide_eq_true h) (by omega)) (fun h3=>wp_i64 (by omega) (wp_i64 (by split <;> omega) ⟨?_,wp_appn ?_ (by omega) (wp_leaf rfl ⟨rfl,rfl⟩)⟩)))))
    ·show 0≤ofs∧ofs≤_∧_≤(x.b.length:Int)
     split <;> omega
    ·refine ⟨?_,?_⟩
     ·rw[hc]
      simp only[hiN,loN,List.length_take,List.length_drop]
      split <;> omega
     ·rw[hc]
      refine row_part _ _ _ _ rfl ?_
      simp only[hiN,loN,List.length_take,List.length_drop]
      split <;> omega)

end Go.Ax

namespace Go.Ax
open Go.Proofs Go.RowKit
set_option maxRecDepth 100000

def ODown:RSpec:=fun args B r B'=>∃ (D:Dsk),D.Ok∧args= [.op 0]∧B= [.obj [] (diskP D)]∧r=vb D.down∧B'=B

theorem SDown:SoundR DP iDown ODown:=(SO hfDown heDown hbDown).mono (by
 rintro args B r B' ⟨D,ok,rfl,rfl,rfl,rfl⟩
 obtain ⟨ro,us,fs,dn,fu⟩:=D
 cases dn with
 | true=>
  refine obA (al:= []) rfl rfl rfl (.refl _) (fun hid hh=> .inl ⟨by rw[hnDown]; rfl,_,TDown_t_chk ro us fu hid,?_⟩)
  unfold TDown_t
  exact wp_leaf rfl ⟨rfl,rfl⟩
 | false=>
  refine obA (al:= []) rfl rfl rfl (.refl _) (fun hid hh=> .inl ⟨by rw[hnDown]; rfl,_,TDown_f_chk ro us fu hid,?_⟩)
  unfold TDown_f
  exact wp_leaf rfl ⟨rfl,rfl⟩)

def ORoom:RSpec:=fun args B r B'=>∃ (D:Dsk),D.Ok∧args= [.op 0]∧B= [.obj [] (diskP D)]∧r=vi (D.room - D.used)∧B'=B

theorem SRoom:SoundR DP iRoom ORoom:=(SO hfRoom heRoom hbRoom).mono (by
 rintro args B r B' ⟨D,ok,rfl,rfl,rfl,rfl⟩
 obtain ⟨b1,b2,b3⟩:=ok.bnd
 have hro:=ok.room
 obtain ⟨ro,us,fs,dn,fu⟩:=D
 simp only at b1 b2 hro
 cases dn with
 | true=>
  refine obA (al:= []) rfl rfl rfl (.refl _) (fun hid hh=> .inl ⟨by rw[hnRoom]; rfl,_,TRoom_t_chk ro us fu hid,?_⟩)
  unfold TRoom_t
  exact wp_i64 (by omega) (wp_leaf rfl ⟨rfl,rfl⟩)
 | false=>
  refine obA (al:= []) rfl rfl rfl (.refl _) (fun hid hh=> .inl ⟨by rw[hnRoom]; rfl,_,TRoom_f_chk ro us fu hid,?_⟩)
  unfold TRoom_f
  exact wp_i64 (by omega) (wp_leaf rfl ⟨rfl,rfl⟩))

def ONew:RSpec:=fun args B r B'=>∃ n:Int,args= [vi n]∧B= []∧r= .op 0∧B'= [.obj [] (diskP (newD n))]

theorem SNew:SoundR DP iNew ONew:=(SG hfNew heNew hbNew).newD.mono (by
 rintro args B r B' ⟨n,rfl,rfl,rfl,rfl⟩
 refine ⟨newD n,rfl, .inl ⟨by rw[hnNew]; rfl,_,TNew_chk n,?_⟩,rfl,rfl,rfl⟩
 unfold TNew
 exact wp_leaf rfl ⟨rfl,rfl⟩)

end Go.Ax

namespace Go.Ax
open Go.Proofs Go.RowKit
set_option maxRecDepth 100000

end Go.Ax

namespace Go.Ax
open Go.Proofs Go.RowKit
set_option maxRecDepth 100000

end Go.Ax

namespace Go.Ax
open Go.Proofs Go.RowKit
set_option maxRecDepth 100000

def orR (R1 R2:RSpec):RSpec:=fun a b c d=>R1 a b c d∨R2 a b c d
def takeR (R:RSpec):RSpec:=orR (liftR R) (sealR (liftR R))
theorem take_sound {f:Nat} {R:RSpec} (h:SoundR DP f R):SoundR DP f (takeR R):=(lift_sound h).or (lift_sound h).shutRow

section
variable {B : List Box} {b : Nat} {D D1 : Dsk} {nm nn : ByteArray} {e : Int}

theorem oNew (n:Int):liftR ONew [vi n] B (.op B.length) (B++ [.obj [] (diskP (newD n))]):=lift_new ⟨n,rfl,rfl,rfl,rfl⟩ rfl
theorem oCreate (ok:D.Ok) (hN:nm.size≤1000000000) (hb:B[b]? = some (.obj [] (diskP D))):liftR OCreate [.op b,vs nm] B (vi (createD D nm).2) (B.set b (.obj [] (diskP (createD D nm).1))):=
 lift_obj (R:=OCreate) ⟨D,nm,ok,hN,rfl,rfl,rfl,rfl⟩ hb rfl rfl
theorem oAppend {bs:List UInt8} (ok:D.Ok) (hN:bs.length≤1000000000) (hb:B[b]? = some (.obj [] (diskP D))):takeR OAppend [.op b,vs nm,vl (bs.map byteE.f)] B (vi (appendD D nm bs).2) (B.set b (.obj [] (diskP (appendD D nm bs).1))):=
 .inl (lift_obj (R:=OAppend) ⟨D,nm,bs,ok,hN,rfl,rfl,rfl,rfl⟩ hb rfl rfl)
theorem oSync (ok:D.Ok) (hb:B[b]? = some (.obj [] (diskP D))):liftR OSync [.op b,vs nm] B (vi (syncD D nm).2) (B.set b (.obj [] (diskP (syncD D nm).1))):=
 lift_obj (R:=OSync) ⟨D,nm,ok,rfl,rfl,rfl,rfl⟩ hb rfl rfl
theorem set_same {B:List Box} {b:Nat} {x:Box} (hb:B[b]? = some x):B.set b x=B:=by
 refine List.ext_getElem? fun j=>?_
 rw[List.getElem?_set]
 split
 ·rename_i e; subst e
  rw[if_pos (List.getElem?_eq_some_iff.1 hb).1]; exact hb.symm
 ·rfl
theorem oRead {ofs n:Int} (ok:D.Ok) (hb:B[b]? = some (.obj [] (diskP D))):
  liftR ORead [.op b,vs nm,vi ofs,vi n] B (.tup [.rs B.length 0 1 0 (readD D nm ofs n).1.length,vi (readD D nm ofs n).2]) (B++ [byteE.bx 0 (readD D nm ofs n).1]):=by
 have:=lift_objrow (R:=ORead) (xs:=(readD D nm ofs n).1.map byteE.f) ⟨D,nm,ofs,n,ok,rfl,rfl,rfl,rfl⟩ hb rfl
 rw[set_same hb] at this
 exact this
theorem oDown (ok:D.Ok) (hb:B[b]? = some (.obj [] (diskP D))):liftR ODown [.op b] B (vb D.down) B:=by
 have:=lift_obj (R:=ODown) (al:= []) ⟨D,ok,rfl,rfl,rfl,rfl⟩ hb rfl rfl
 rwa[set_same hb] at this
theorem oRoom (ok:D.Ok) (hb:B[b]? = some (.obj [] (diskP D))):liftR ORoom [.op b] B (vi (D.room - D.used)) B:=by
 have:=lift_obj (R:=ORoom) (al:= []) ⟨D,ok,rfl,rfl,rfl,rfl⟩ hb rfl rfl
 rwa[set_same hb] at this
theorem oSize (ok:D.Ok) (hb:B[b]? = some (.obj [] (diskP D))):liftR OSize [.op b,vs nm] B (.tup [vi (sizeD D nm).1,vi (sizeD D nm).2]) B:=by
 have:=lift_obj (R:=OSize) ⟨D,nm,ok,rfl,rfl,rfl,rfl⟩ hb rfl rfl
 rwa[set_same hb] at this
end

end Go.Ax

namespace Go.Ax
open Go.Proofs Go.RowKit
set_option maxRecDepth 100000

end Go.Ax

namespace Go.Ax
open Go.Proofs Go.RowKit
set_option maxRecDepth 100000

theorem wp_any {x:Tree} {K:AE→St→Prop} (h:x.wp K):(Tree.any x).wp K:=h
theorem putI_len (g:Int) (h:0≤g∧g<18446744073709551616):(putI g).length≤10:=putN_len64 (by omega)

end Go.Ax

namespace Go.Ax
open Go.Proofs Go.RowKit
set_option maxRecDepth 100000

section
variable {R : RSpec} {al : List AV} {B : List Box} {b l : Nat} {D D1 : Dsk} {p g p1 g1 n : Int} {o o1 : Bool} {y : PV} {s : ByteArray}
end

end Go.Ax

namespace Go.Ax
open Go.Proofs Go.RowKit
set_option maxRecDepth 100000

theorem numN_leN (n:Nat):∀ k:Nat,numN (leN n k)=n % 256 ^ k:=by
 intro k
 induction k generalizing n with
 | zero=>simp[leN,numN,Nat.mod_one]
 | succ k ih=>
  rw[leN,numN,ih,UInt8.toNat_ofNat']
  have e:256 ^ (k+1)=256*256 ^ k:=by rw[Nat.pow_succ,Nat.mul_comm]
  rw[e,Nat.mod_mul]
  show n % 256 % 256+_=_
  omega
theorem little_le {n:Int} (h:0≤n∧n<4294967296):littleI (leI n 4)=n:=by
 unfold littleI leI
 rw[List.take_of_length_le (by rw[leN_len]; decide),numN_leN,Nat.mod_eq_of_lt (by show n.toNat<4294967296; omega)]
 omega

theorem take_app {α:Type} {a b:List α} {n:Nat} (h:a.length=n):(a++b).take n=a:=by rw[←h]; simp
theorem next_rec {d:List UInt8} (hd:d.length≤1048576) (rest:List UInt8):nextI (recB d++rest)=(d,((d.length:Int)+12),0):=by
 have hl4:(leI (d.length:Int) 4).length=4:=leI_len _ _
 have hm4:(leI (maskI (crcI (leI (d.length:Int) 4))) 4).length=4:=leI_len _ _
 have hc4:(leI (maskI (crcI d)) 4).length=4:=leI_len _ _
 have e:recB d++rest=leI (d.length:Int) 4++(leI (maskI (crcI (leI (d.length:Int) 4))) 4++(leI (maskI (crcI d)) 4++(d++rest))):=by simp[recB]
 have t4:(recB d++rest).take 4=leI (d.length:Int) 4:=by rw[e]; exact take_app hl4
 have t8:((recB d++rest).take 8).drop 4=leI (maskI (crcI (leI (d.length:Int) 4))) 4:=by
  rw[e,←List.append_assoc,take_app (by rw[List.length_append,hl4,hm4])]
  rw[List.drop_append_of_le_length (by omega),List.drop_of_length_le (by omega),List.nil_append]
 have t12:((recB d++rest).take 12).drop 8=leI (maskI (crcI d)) 4:=by
  rw[e,←List.append_assoc,←List.append_assoc,take_app (by rw[List.length_append,List.length_append,hl4,hm4,hc4])]
  rw[List.drop_append_of_le_length (by rw[List.length_append]; omega),List.drop_of_length_le (by rw[List.length_append]; omega),List.nil_append]
 have l4:littleI ((recB d++rest).take 4)=(d.length:Int):=by rw[t4]; exact little_le (by omega)
 have m1:=maskI_b (crcI (leI (d.length:Int) 4))
 have m2:=maskI_b (crcI d)
 have tn:((recB d++rest).take (12+littleI ((recB d++rest).take 4)).toNat).drop 12=d:=by
  rw[l4,take_app (by rw[recB_len]; omega)]
  unfold recB
  rw[List.drop_append_of_le_length (by simp only[List.length_append,leI_len]; decide),List.drop_of_length_le (by simp only[List.length_append,leI_len]; decide),List.nil_append]
 unfold nextI
 rw[if_neg (by rw[List.length_append,recB_len]; omega),if_neg,if_neg (by rw[List.length_append,recB_len,l4]; omega),if_neg]
 ·rw[tn,l4]; simp only[Prod.mk.injEq,and_true,true_and]; omega
 ·rw[t12,tn,little_le m2]
  intro h; exact h (by omega)
 ·rw[t8,t4,little_le m1,little_le (by omega)]
  rintro (h | h)
  ·exact h (by omega)
  ·omega

theorem getA_put:∀ (n i a:Nat),i≤9→n<2 ^ (64 - 7*i)→(0<i→0<n)→getA i a (putN n)=(a+n*2 ^ (7*i),i+(putN n).length,0):=by
 intro n
 induction n using Nat.strongRecOn with
 | _ n ih=>
  intro i a hi hn hp
  have h9:i=9→n≤1:=fun e=>by
   subst e
   have:(2:Nat) ^ (64 - 7*9)=2:=by decide
   omega
  by_cases h:n<128
  ·rw[putN_lt h,getA,UInt8.toNat_ofNat']
   have e:n % 2 ^ 8=n:=Nat.mod_eq_of_lt (by omega)
   rw[e,if_neg (by rintro ⟨h1,h2⟩; have:=h9 h1; omega),if_pos h,if_neg (by rintro ⟨h1,h2⟩; have:=hp h2; omega)]
   rfl
  ·rw[putN_ge h,getA,UInt8.toNat_ofNat']
   have e:(n % 128+128) % 2 ^ 8=n % 128+128:=Nat.mod_eq_of_lt (by omega)
   have hi8:i+1≤9:=by
    rcases Nat.lt_or_ge i 9 with h1 | h1
    ·omega
    ·have:=h9 (by omega); omega
   have hpow:2 ^ (64 - 7*i)=128*2 ^ (64 - 7*(i+1)):=by
    rw[show 64 - 7*i=7+(64 - 7*(i+1)) by omega,Nat.pow_add]
   rw[e,if_neg (by omega),if_neg (by omega),ih (n / 128) (by omega) (i+1) _ hi8 (by rw[Nat.div_lt_iff_lt_mul (by decide)]; omega) (by omega)]
   have e2:(n % 128+128) % 128=n % 128:=by omega
   have e3:2 ^ (7*(i+1))=128*2 ^ (7*i):=by rw[show 7*(i+1)=7+7*i by omega,Nat.pow_add]
   rw[e2,e3,List.length_cons]
   have e4:n / 128*(128*2 ^ (7*i))=n / 128*128*2 ^ (7*i):=by rw[Nat.mul_assoc]
   have e5:n % 128*2 ^ (7*i)+n / 128*128*2 ^ (7*i)=n*2 ^ (7*i):=by rw[←Nat.add_mul]; congr 1; omega
   simp only[Prod.mk.injEq,and_true]
   rw[e4]
   exact ⟨by omega,by omega⟩
theorem getI_put {g:Int} (h:0≤g∧g<18446744073709551616):getI (putI g)=(g,((putI g).length:Int),0):=by
 unfold getI putI
 rw[getA_put g.toNat 0 0 (by decide) (by show g.toNat<18446744073709551616; omega) (by omega)]
 simp only[Nat.zero_add,Nat.mul_zero,Nat.pow_zero,Nat.mul_one,Prod.mk.injEq]
 exact ⟨by omega,trivial,rfl⟩

end Go.Ax

namespace Go.Ax
open Go.Proofs Go.RowKit
set_option maxRecDepth 100000

def Dsk.cont (D:Dsk) (nm:ByteArray):Option (List UInt8):=(D.get nm).map (·.b)
structure Live (D:Dsk):Prop where
 ok:D.Ok
 up:D.down=false
 fu:D.fuse=0

theorem stE0:stE 0=0:=by decide
theorem stepped0 {D:Dsk} (h:Live D):D.stepped.down=false∧D.stepped.fuse=0:=by
 unfold Dsk.stepped
 rw[h.fu]
 exact ⟨(by decide:stD 0=false),(by decide:stF 0=0)⟩
theorem find_ins (x:Fil) (nm:ByteArray):∀ fs:List Fil,x.name ∉ fs.map (·.name)→(insF x fs).find? (fun y=>decide (y.name=nm))=if x.name=nm then some x else fs.find? fun y=>decide (y.name=nm)
 | [],_=>by
  simp only[insF,List.find?_cons,List.find?_nil]
  by_cases h:x.name=nm <;> simp[h]
 | y::r,hx=>by
  simp only[List.map_cons,List.mem_cons,not_or] at hx
  unfold insF
  split
  ·rw[List.find?_cons]
   by_cases h:x.name=nm <;> simp[h]
  ·rw[List.find?_cons,find_ins x nm r hx.2,List.find?_cons]
   by_cases hy:y.name=nm
   ·have hxn:¬x.name=nm:=fun e=>hx.1 (e.trans hy.symm)
    rw[if_neg hxn]
    simp[hy,hxn]
   ·simp[hy]
theorem find_rep (x:Fil) (nm:ByteArray) (fs:List Fil):(repF fs x).find? (fun y=>decide (y.name=nm))=if x.name=nm then (fs.find? fun y=>decide (y.name=nm)).map fun _=>x else fs.find? fun y=>decide (y.name=nm):=by
 induction fs with
 | nil=>simp[repF]
 | cons y r ih=>
  have e:repF (y::r) x=(if y.name=x.name then x else y)::repF r x:=rfl
  rw[e,List.find?_cons,ih,List.find?_cons]
  by_cases hx:x.name=nm
  ·by_cases hy:y.name=nm
   ·simp[hx,hy]
   ·have:¬y.name=x.name:=fun e=>hy (e.trans hx)
    simp[hx,hy]
  ·by_cases hy:y.name=nm
   ·have:¬y.name=x.name:=fun e=>hx (e.symm.trans hy)
    have h2:¬nm=x.name:=fun e=>hx e.symm
    simp[hx,hy,h2]
   ·by_cases hxy:y.name=x.name
    ·simp[hx,hy,hxy]
    ·simp[hx,hy,hxy]

theorem cont_create {D:Dsk} (h:Live D) {nm:ByteArray} (hn:isName nm=true) (hc:D.cont nm=none):
  (createD D nm).2=0∧Live (createD D nm).1∧(∀ m,(createD D nm).1.cont m=if nm=m then some [] else D.cont m)∧(createD D nm).1.used=D.used∧(createD D nm).1.room=D.room:=by
 have hg:D.get nm=none:=by
  unfold Dsk.cont at hc
  cases hg:D.get nm with
  | none=>rfl
  | some x=>rw[hg] at hc; cases hc
 have e:createD D nm=({D.stepped with files:=insF ⟨nm,[],0⟩ D.files},0):=by
  unfold createD
  rw[hn,if_neg (by decide),if_neg (by simp[h.up])]
  simp only[hg]
  rw[h.fu,if_neg (by simp[stE0])]
 have hok:=createD_ok h.ok nm
 rw[e] at hok ⊢
 obtain ⟨s1,s2⟩:=stepped0 h
 refine ⟨rfl,⟨hok,s1,s2⟩,fun m=>?_,rfl,rfl⟩
 unfold Dsk.cont Dsk.get
 rw[find_ins _ _ _ (get_none hg)]
 simp only
 split <;> rfl
theorem cont_append {D:Dsk} (h:Live D) {nm:ByteArray} {c bs:List UInt8} (hc:D.cont nm=some c) (hr:(bs.length:Int)≤D.room - D.used):
  (appendD D nm bs).2=0∧Live (appendD D nm bs).1∧(∀ m,(appendD D nm bs).1.cont m=if nm=m then some (c++bs) else D.cont m)∧(appendD D nm bs).1.used=D.used+bs.length∧(appendD D nm bs).1.room=D.room:=by
 obtain ⟨x,hg,rfl⟩:∃ x,D.get nm=some x∧x.b=c:=by
  unfold Dsk.cont at hc
  cases hg:D.get nm with
  | none=>rw[hg] at hc; cases hc
  | some x=>rw[hg] at hc; cases hc; exact ⟨x,rfl,rfl⟩
 obtain ⟨_,hxn⟩:=get_some hg
 have e:appendD D nm bs=({D.stepped with files:=repF D.files {x with b:=x.b++bs},used:=D.used+bs.length},0):=by
  unfold appendD
  rw[if_neg (by simp[h.up])]
  simp only[hg]
  rw[if_neg (by omega),h.fu,if_neg (by simp[stE0])]
 have hok:=appendD_ok h.ok nm bs
 rw[e] at hok ⊢
 obtain ⟨s1,s2⟩:=stepped0 h
 refine ⟨rfl,⟨hok,s1,s2⟩,fun m=>?_,rfl,rfl⟩
 show ((repF D.files {x with b:=x.b++bs}).find? fun y=>decide (y.name=m)).map (·.b)=_
 rw[find_rep]
 simp only[hxn]
 split
 ·rename_i e
  subst e
  unfold Dsk.get at hg
  rw[hg]; rfl
 ·rfl
theorem cont_sync {D:Dsk} (h:Live D) {nm:ByteArray} {c:List UInt8} (hc:D.cont nm=some c):
  (syncD D nm).2=0∧Live (syncD D nm).1∧(∀ m,(syncD D nm).1.cont m=D.cont m)∧(syncD D nm).1.used=D.used∧(syncD D nm).1.room=D.room:=by
 obtain ⟨x,hg,rfl⟩:∃ x,D.get nm=some x∧x.b=c:=by
  unfold Dsk.cont at hc
  cases hg:D.get nm with
  | none=>rw[hg] at hc; cases hc
  | some x=>rw[hg] at hc; cases hc; exact ⟨x,rfl,rfl⟩
 obtain ⟨_,hxn⟩:=get_some hg
 have e:syncD D nm=({D.stepped with files:=repF D.files {x with sure:=x.b.length}},0):=by
  unfold syncD
  rw[if_neg (by simp[h.up])]
  simp only[hg]
  rw[h.fu,if_neg (by simp[stE0])]
 have hok:=syncD_ok h.ok nm
 rw[e] at hok ⊢
 obtain ⟨s1,s2⟩:=stepped0 h
 refine ⟨rfl,⟨hok,s1,s2⟩,fun m=>?_,rfl,rfl⟩
 show ((repF D.files {x with sure:=(x.b.length:Int)}).find? fun y=>decide (y.name=m)).map (·.b)=((D.files).find? fun y=>decide (y.name=m)).map (·.b)
 rw[find_rep]
 simp only[hxn]
 split
 ·rename_i e
  subst e
  unfold Dsk.get at hg
  rw[hg]; rfl
 ·rfl
theorem live_new {n:Int}:Live (newD n):=⟨newD_ok n,rfl,rfl⟩
theorem cont_new (n:Int) (m:ByteArray):(newD n).cont m=none:=rfl

end Go.Ax

namespace Go.Ax
open Go.Proofs Go.RowKit
set_option maxRecDepth 100000
theorem ltB_irr:∀ x:List UInt8,Op.bytesLess x x=false
 | []=>rfl
 | a::x=>by simp[Op.bytesLess,ltB_irr x]
theorem ltB_tri:∀ x y:List UInt8,Op.bytesLess x y=false→Op.bytesLess y x=false→x=y
 | [],[],_,_=>rfl
 | _::_,[],_,h=>by simp[Op.bytesLess] at h
 | [],_::_,h,_=>by simp[Op.bytesLess] at h
 | a::x,b::y,h,h'=>by
  simp only[Op.bytesLess,Bool.or_eq_false_iff,decide_eq_false_iff_not,Bool.and_eq_false_iff,beq_eq_false_iff_ne] at h h'
  have e:a=b:=by
   apply UInt8.toNat_inj.mp
   have h1:=h.1
   have h2:=h'.1
   rw[UInt8.lt_iff_toNat_lt] at h1 h2
   omega
  subst e
  rw[ltB_tri x y (h.2.resolve_left (by simp)) (h'.2.resolve_left (by simp))]

theorem ltB_trans:∀ x y z:List UInt8,Op.bytesLess x y=true→Op.bytesLess y z=true→Op.bytesLess x z=true
 | _,_,[],_,h=>by cases ‹List UInt8› <;> simp[Op.bytesLess] at h
 | [],_,_::_,_,_=>by simp[Op.bytesLess]
 | _::_,[],_::_,h,_=>by simp[Op.bytesLess] at h
 | a::x,b::y,c::z,h,h'=>by
  simp only[Op.bytesLess,Bool.or_eq_true,decide_eq_true_eq,Bool.and_eq_true,beq_iff_eq] at h h' ⊢
  rcases h with h | ⟨h,g⟩
  ·rcases h' with h' | ⟨h',g'⟩
   ·refine .inl ?_
    rw[UInt8.lt_iff_toNat_lt] at h h' ⊢; omega
   ·rw[←h']; exact .inl h
  ·rcases h' with h' | ⟨h',g'⟩
   ·rw[h]; exact .inl h'
   ·exact .inr ⟨h.trans h',ltB_trans x y z g g'⟩

end Go.Ax

namespace Go.Ax
open Go.Proofs Go.RowKit
set_option maxRecDepth 100000

structure Ent where
 key:ByteArray
 seq:Int
 del:Bool
 val:ByteArray

abbrev bl (a b:List UInt8):Prop:=Op.bytesLess a b=true
theorem bl_cons {a b:UInt8} {x y:List UInt8}:bl (a::x) (b::y)↔a<b∨(a=b∧bl x y):=by
 simp only[bl,Op.bytesLess,Bool.or_eq_true,decide_eq_true_eq,Bool.and_eq_true,beq_iff_eq]
theorem bl_nil {b:UInt8} {y:List UInt8}:bl [] (b::y):=by simp[bl,Op.bytesLess]
theorem bl_app:∀ (p x y:List UInt8),bl (p++x) (p++y)↔bl x y
 | [],x,y=>Iff.rfl
 | a::p,x,y=>by
  rw[List.cons_append,List.cons_append,bl_cons,bl_app p x y]
  exact ⟨fun h=>h.elim (fun h=>absurd h (UInt8.lt_irrefl _)) (·.2),fun h=> .inr ⟨rfl,h⟩⟩
theorem bl_irr {x:List UInt8} (h:bl x x):False:=by rw[bl,ltB_irr] at h; cases h
theorem bl_trans {x y z:List UInt8} (h:bl x y) (g:bl y z):bl x z:=ltB_trans _ _ _ h g
theorem bl_tri (x y:List UInt8):bl x y∨x=y∨bl y x:=by
 by_cases h:bl x y
 ·exact .inl h
 ·by_cases g:bl y x
  ·exact .inr (.inr g)
  ·exact .inr (.inl (ltB_tri x y (by simpa [bl] using h) (by simpa [bl] using g)))

def escL:List UInt8→List UInt8
 | []=> []
 | c::l=>if c=0 then 0::255::escL l else c::escL l
theorem esc_lt:∀ (k l s t:List UInt8),bl k l→bl (escL k++0::1::s) (escL l++0::1::t)
 | [],[],s,t,h=>absurd h (by simp[bl,Op.bytesLess])
 | [],c::l,s,t,_=>by
  unfold escL
  split
  ·rename_i hc
   rw[List.nil_append,List.cons_append,List.cons_append,bl_cons,bl_cons]
   exact .inr ⟨rfl, .inl (by decide)⟩
  ·rename_i hc
   rw[List.nil_append,List.cons_append,bl_cons]
   refine .inl ?_
   rw[UInt8.lt_iff_toNat_lt]
   have:c.toNat≠0:=fun e=>hc (UInt8.toNat_inj.mp e)
   show 0<c.toNat
   omega
 | c::k,[],s,t,h=>absurd h (by simp[bl,Op.bytesLess])
 | c::k,d::l,s,t,h=>by
  rw[bl_cons] at h
  rcases h with h | ⟨rfl,h⟩
  ·have hd:d≠0:=fun e=>by
    rw[e,UInt8.lt_iff_toNat_lt] at h
    exact absurd h (Nat.not_lt_zero _)
   rw[show escL (d::l)=d::escL l by rw[escL,if_neg hd],List.cons_append]
   unfold escL
   split
   ·rename_i hc
    rw[List.cons_append,bl_cons]
    exact .inl (by rw[hc] at h; exact h)
   ·rw[List.cons_append,bl_cons]
    exact .inl h
  ·have ih:=esc_lt k l s t h
   unfold escL
   split
   ·rw[List.cons_append,List.cons_append,List.cons_append,List.cons_append,bl_cons,bl_cons]
    exact .inr ⟨rfl, .inr ⟨rfl,ih⟩⟩
   ·rw[List.cons_append,List.cons_append,bl_cons]
    exact .inr ⟨rfl,ih⟩

def beN (n:Nat):Nat→List UInt8
 | 0=> []
 | k+1=>UInt8.ofNat (n / 256 ^ k % 256)::beN n k
theorem beN_len (n:Nat):∀ k,(beN n k).length=k
 | 0=>rfl
 | k+1=>by simp[beN,beN_len n k]
theorem beN_lt (a b:Nat):∀ k,a % 256 ^ k<b % 256 ^ k→bl (beN a k) (beN b k)
 | 0,h=>by simp[Nat.mod_one] at h
 | k+1,h=>by
  rw[beN,beN,bl_cons]
  have ha:a % 256 ^ (k+1)=256 ^ k*(a / 256 ^ k % 256)+a % 256 ^ k:=by rw[Nat.pow_succ,Nat.mod_mul,Nat.add_comm]
  have hb:b % 256 ^ (k+1)=256 ^ k*(b / 256 ^ k % 256)+b % 256 ^ k:=by rw[Nat.pow_succ,Nat.mod_mul,Nat.add_comm]
  have h1:a % 256 ^ k<256 ^ k:=Nat.mod_lt _ (Nat.pow_pos (by decide))
  have h2:b % 256 ^ k<256 ^ k:=Nat.mod_lt _ (Nat.pow_pos (by decide))
  rw[ha,hb] at h
  rcases Nat.lt_trichotomy (a / 256 ^ k % 256) (b / 256 ^ k % 256) with e | e | e
  ·refine .inl ?_
   rw[UInt8.lt_iff_toNat_lt,UInt8.toNat_ofNat',UInt8.toNat_ofNat']
   omega
  ·refine .inr ⟨by rw[e],beN_lt a b k ?_⟩
   rw[e] at h
   omega
  ·exfalso
   have:256 ^ k*(b / 256 ^ k % 256)+256 ^ k≤256 ^ k*(a / 256 ^ k % 256):=by
    rw[←Nat.mul_succ]
    exact Nat.mul_le_mul_left _ e
   omega
def bigN (l:List UInt8):Nat:=l.foldl (fun n c=>n*256+c.toNat) 0
theorem big_acc:∀ (l:List UInt8) (a:Nat),l.foldl (fun n c=>n*256+c.toNat) a=a*256 ^ l.length+bigN l
 | [],a=>by simp[bigN]
 | c::l,a=>by
  unfold bigN
  rw[List.foldl_cons,List.foldl_cons,big_acc l,big_acc l (0*256+c.toNat),List.length_cons,Nat.pow_succ,Nat.add_mul,Nat.zero_mul,Nat.zero_add,Nat.mul_assoc,Nat.mul_comm 256 (256 ^ l.length)]
  omega
theorem big_be (n:Nat):∀ k,bigN (beN n k)=n % 256 ^ k
 | 0=>by simp[beN,bigN,Nat.mod_one]
 | k+1=>by
  rw[beN]
  unfold bigN
  have hu:(UInt8.ofNat (n / 256 ^ k % 256)).toNat=n / 256 ^ k % 256:=by
   rw[UInt8.toNat_ofNat']
   exact Nat.mod_eq_of_lt (Nat.mod_lt _ (by decide))
  have hm:n % 256 ^ (k+1)=n % 256 ^ k+256 ^ k*(n / 256 ^ k % 256):=by rw[Nat.pow_succ,Nat.mod_mul]
  rw[List.foldl_cons,big_acc,beN_len,big_be n k,hu,hm,Nat.zero_mul,Nat.zero_add,Nat.mul_comm,Nat.add_comm]
theorem bl_big:∀ (x y:List UInt8),x.length=y.length→(bl x y↔bigN x<bigN y)
 | [],[],_=>by simp[bl,Op.bytesLess,bigN]
 | [],_::_,h=>by simp at h
 | _::_,[],h=>by simp at h
 | a::x,b::y,h=>by
  have hl:x.length=y.length:=by simpa using h
  have ih:=bl_big x y hl
  have bx:∀ l:List UInt8,bigN l<256 ^ l.length:=fun l=>by
   induction l with
   | nil=>decide
   | cons c l ih=>
    unfold bigN
    rw[List.foldl_cons,big_acc,List.length_cons,Nat.pow_succ]
    have:=c.toNat_lt
    have h2:(0*256+c.toNat)*256 ^ l.length≤255*256 ^ l.length:=Nat.mul_le_mul_right _ (by omega)
    omega
  have h1:=bx x
  have h2:=bx y
  rw[←hl] at h2
  have e1:bigN (a::x)=a.toNat*256 ^ x.length+bigN x:=by
   conv=>lhs; unfold bigN
   rw[List.foldl_cons,big_acc,Nat.zero_mul,Nat.zero_add]
  have e2:bigN (b::y)=b.toNat*256 ^ x.length+bigN y:=by
   conv=>lhs; unfold bigN
   rw[List.foldl_cons,big_acc,Nat.zero_mul,Nat.zero_add,hl]
  rw[bl_cons,ih,e1,e2,UInt8.lt_iff_toNat_lt]
  constructor
  ·rintro (g | ⟨rfl,g⟩)
   ·have:a.toNat*256 ^ x.length+256 ^ x.length≤b.toNat*256 ^ x.length:=by
     rw[←Nat.succ_mul]
     exact Nat.mul_le_mul_right _ g
    omega
   ·omega
  ·intro g
   rcases Nat.lt_trichotomy a.toNat b.toNat with e | e | e
   ·exact .inl e
   ·refine .inr ⟨UInt8.toNat_inj.mp e,?_⟩
    rw[e] at g
    omega
   ·exfalso
    have:b.toNat*256 ^ x.length+256 ^ x.length≤a.toNat*256 ^ x.length:=by
     rw[←Nat.succ_mul]
     exact Nat.mul_le_mul_right _ e
    omega

def innN (x:Ent):Nat:=2*x.seq.toNat % 18446744073709551616+(if x.del then 0 else 1)
def innB (x:Ent):List UInt8:=escL x.key.data.toList++0::1::beN (18446744073709551615 - innN x) 8
def ltE (x y:Ent):Prop:=bl x.key.data.toList y.key.data.toList∨(x.key=y.key∧y.seq<x.seq)
def SeqOk (x:Ent):Prop:=0≤x.seq∧x.seq≤72057594037927935
theorem innN_lt {x:Ent} (h:SeqOk x):innN x=2*x.seq.toNat+(if x.del then 0 else 1)∧innN x<144115188075855872:=by
 have h1:=h.1
 have h2:=h.2
 unfold innN
 rw[Nat.mod_eq_of_lt (by omega)]
 refine ⟨rfl,?_⟩
 split <;> omega
theorem inn_lt {x y:Ent} (hx:SeqOk x) (hy:SeqOk y) (h:ltE x y):bl (innB x) (innB y):=by
 unfold innB
 rcases h with h | ⟨h,g⟩
 ·exact esc_lt _ _ _ _ h
 ·rw[h,bl_app,bl_cons]
  refine .inr ⟨rfl,?_⟩
  rw[bl_cons]
  refine .inr ⟨rfl,?_⟩
  have h1:=innN_lt hx
  have h2:=innN_lt hy
  have h3:=hx.1
  have h4:=hy.1
  apply beN_lt
  rw[Nat.mod_eq_of_lt (by omega),Nat.mod_eq_of_lt (by omega)]
  have:innN y<innN x:=by
   rw[h1.1,h2.1]
   split <;> split <;> omega
  omega
end Go.Ax
