/- Contracts: records; the head of a part. -/
import Derived.Test.YtbdfbdlfipcleaaGreatDoorG24
import Derived.Test.YtbdfbdlfipcleaaGreatDoorG22
import Derived.Test.YtbdfbdlfipcleaaGreatDoorG21
import Derived.Test.YtbdfbdlfipcleaaGreatDoorG20
set_option linter.unusedVariables false
set_option linter.unusedSimpArgs false
set_option linter.unusedSectionVars false
namespace Go.Ax
open Go.Proofs Go.RowKit
set_option maxRecDepth 100000

theorem recB_len (d:List UInt8):(recB d).length=d.length+12:=by
 simp only[recB,List.length_append,leI_len]; omega

theorem wp_rcut {d len:Nat} {lo hi:Option Int} {k:Tree} {K:AE→St→Prop} (h0:cutOk lo hi len) (h:k.wp K):(Tree.rcut d len lo hi k).wp K:=⟨h0,h⟩

def RNext:List AV→AV→Prop:=fun args r=>∃ (b:List UInt8),b.length≤1000000000∧args= [vl (b.map byteE.f)]∧r= .tup [vl ((nextI b).1.map byteE.f),vi (nextI b).2.1,vi (nextI b).2.2]
noncomputable def gNext:=relG RNext
theorem gNext_eq {b:List UInt8} (hb:b.length≤1000000000):gNext [vl (b.map byteE.f)]=some (.tup [vl ((nextI b).1.map byteE.f),vi (nextI b).2.1,vi (nextI b).2.2]):=
 relG_eq (fun args r r' ⟨b1,_,h1,h2⟩ ⟨b2,_,h3,h4⟩=>by
  rw[h2,h4,vl_inj' (one_arg (h1.symm.trans h3))]) ⟨b,hb,rfl,rfl⟩
theorem littleI_b (b:List UInt8):0≤littleI b∧littleI b<18446744073709551616:=by
 unfold littleI
 have h1:=numN_lt (b.take 8)
 have h2:256 ^ (b.take 8).length≤256 ^ 8:=Nat.pow_le_pow_right (by decide) (by simp; omega)
 omega
theorem seal_nil3 {S:Nat→Prop} {B:List Box} {n e:Int} {d:List UInt8} (h:d= []):Sealed S B (.tup [nilS,vi n,vi e]) (.tup [vl (d.map byteE.f),vi n,vi e]):=by
 subst h
 refine .tup _ _ rfl fun j c d hc hd=>?_
 match j with
 | 0=>cases hc; cases hd; exact .nil
 | 1=>cases hc; cases hd; exact .p _
 | 2=>cases hc; cases hd; exact .p _
 | j+3=>simp at hc
theorem seal_row3 {α:Type} {E:Enc α} {B:List Box} {v:Nat} {d:List α} {n e:Int} (hb:B[0]? = some (E.bx v d)):Sealed (fun _=>True) B (.tup [.rs 0 v E.sz 0 d.length,vi n,vi e]) (.tup [vl (d.map E.f),vi n,vi e]):=by
 refine .tup _ _ rfl fun j c d' hc hd=>?_
 match j with
 | 0=>cases hc; cases hd; exact E.elt.sealed trivial hb
 | 1=>cases hc; cases hd; exact .p _
 | 2=>cases hc; cases hd; exact .p _
 | j+3=>simp at hc
theorem nextI_cut (b:List UInt8):nextI b = 
 if b.length<12 then ([],0,8) else
 if littleI (cutL (some 4) (some 8) b) % 4294967296≠maskI (crcI (cutL none (some 4) b))∨littleI (cutL none (some 4) b)>1048576 then ([],0,12) else
 if (b.length:Int)<12+littleI (cutL none (some 4) b) then ([],0,8) else
 if littleI (cutL (some 8) (some 12) b) % 4294967296≠maskI (crcI (cutL (some 12) (some (12+littleI (cutL none (some 4) b))) b)) then ([],0,12) else
 (cutL (some 12) (some (12+littleI (cutL none (some 4) b))) b,12+littleI (cutL none (some 4) b),0):=rfl
theorem SNext:SoundF DP iNext (.pure gNext):=sound_pureT mixedD Γ2_ok Δ2_ok hfNext heNext hbNext (by
 rintro args r ⟨b,hb,rfl,rfl⟩
 refine ⟨rfl,rfl,_,TNext_chk b,?_⟩
 unfold TNext
 refine wp_len (wp_sp (fun h=>wp_leaf rfl ?_) (fun h=>?_))
 ·have h:=of_decide_eq_true h
  have e:nextI b=([],0,8):=if_pos (by omega)
  rw[e]; exact seal_nil3 rfl
 have h:=of_decide_eq_false h
 have h12:12≤b.length:=by omega
 have hl4:(cutL none (some 4) b).length≤1000000000:=by show (b.take 4).length≤_; simp; omega
 have hl48:(cutL (some 4) (some 8) b).length≤1000000000:=by show ((b.take 8).drop 4).length≤_; simp; omega
 have hl812:(cutL (some 8) (some 12) b).length≤1000000000:=by show ((b.take 12).drop 8).length≤_; simp; omega
 have hn:=littleI_b (cutL none (some 4) b)
 refine wp_cut (by simp only[cutOk]; omega) (wp_call (gLittle_eq hl4) (wp_cut (by simp only[cutOk]; omega) (wp_call (gLittle_eq hl48) (wp_int (wrap32 _) (wp_cut (by simp only[cutOk]; omega) (wp_call (gSum_eq hl4) (wp_call (gMask_eq (crcI_b _)) (wp_sp (fun h=>wp_leaf rfl ?_) (fun h1=>wp_sp (fun h=>wp_leaf rfl ?_) (fun h2=>?_))))))))))
 ·have e:nextI b=([],0,12):=by
   rw[nextI_cut,if_neg (by omega),if_pos (.inl (by simpa using h))]
  rw[e]; exact seal_nil3 rfl
 ·have e:nextI b=([],0,12):=by
   rw[nextI_cut,if_neg (by omega),if_pos (.inr (of_decide_eq_true h))]
  rw[e]; exact seal_nil3 rfl
 have h2:=of_decide_eq_false h2
 have hno:¬(littleI (cutL (some 4) (some 8) b) % 4294967296≠maskI (crcI (cutL none (some 4) b))∨littleI (cutL none (some 4) b)>1048576):=by
  rintro (h | h)
  ·exact h (by simpa using h1)
  ·exact h2 h
 refine wp_len (wp_int (wrap64id (by omega)) (wp_int (wrap64id (by omega)) (wp_sp (fun h=>wp_leaf rfl ?_) (fun h3=>?_))))
 ·have e:nextI b=([],0,8):=by
   rw[nextI_cut,if_neg (by omega),if_neg hno,if_pos (of_decide_eq_true h)]
  rw[e]; exact seal_nil3 rfl
 have h3:=of_decide_eq_false h3
 have hld:(cutL (some 12) (some (12+littleI (cutL none (some 4) b))) b).length≤1048576:=by
  show ((b.take (12+littleI (cutL none (some 4) b)).toNat).drop 12).length≤_
  rw[List.length_drop,List.length_take]; omega
 refine wp_int (wrap64id (by omega)) (wp_cut (by simp only[cutOk]; omega) (wp_cut (by simp only[cutOk]; omega) (wp_call (gLittle_eq hl812) (wp_int (wrap32 _) (wp_call (gSum_eq (by omega)) (wp_call (gMask_eq (crcI_b _)) (wp_sp (fun h=>wp_leaf rfl ?_) (fun h4=>wp_appn rfl (by omega) (wp_i64 (by omega) (wp_i64 (by omega) (wp_leaf rfl ?_)))))))))))
 ·have e:nextI b=([],0,12):=by
   rw[nextI_cut,if_neg (by omega),if_neg hno,if_neg h3,if_pos (by simpa using h)]
  rw[e]; exact seal_nil3 rfl
 ·have e:nextI b=(cutL (some 12) (some (12+littleI (cutL none (some 4) b))) b,12+littleI (cutL none (some 4) b),0):=by
   rw[nextI_cut,if_neg (by omega),if_neg hno,if_neg h3,if_neg (by intro hx; exact hx (by simpa using h4))]
  rw[e]; exact seal_row3 (E:=byteE) rfl)

end Go.Ax

namespace Go.Ax
open Go.Proofs Go.RowKit
set_option maxRecDepth 100000

end Go.Ax

namespace Go.Ax
open Go.Proofs Go.RowKit
set_option maxRecDepth 100000

theorem len_le_sum {fs:List Fil} {x:Fil} (h:x∈fs):(x.b.length:Int)≤(fs.map fun x=>(x.b.length:Int)).sum:=by
 induction fs with
 | nil=>cases h
 | cons y fs ih=>
  have hs:0≤(fs.map fun x=>(x.b.length:Int)).sum:=by
   clear ih h
   induction fs with
   | nil=>simp
   | cons z fs ih=>simp only[List.map_cons,List.sum_cons]; omega
  simp only[List.map_cons,List.sum_cons]
  rcases List.mem_cons.1 h with rfl | h
  ·omega
  ·have:=ih h; omega

theorem sum_nonneg (fs:List Fil):0≤(fs.map fun x=>(x.b.length:Int)).sum:=by
 induction fs with
 | nil=>simp
 | cons z fs ih=>simp only[List.map_cons,List.sum_cons]; omega

theorem Dsk.Ok.bnd {D:Dsk} (ok:D.Ok):0≤D.used∧D.used≤67108864∧∀ x∈D.files,(x.b.length:Int)≤D.used:=by
 have h1:=ok.room
 have h2:=ok.le
 have h3:=sum_nonneg D.files
 refine ⟨by rw[ok.used]; exact h3,by omega,fun x hx=>by rw[ok.used]; exact len_le_sum hx⟩

def OSync:RSpec:=fun args B r B'=>∃ (D:Dsk) (nm:ByteArray),D.Ok∧args= [.op 0,vs nm]∧B= [.obj [] (diskP D)]∧r=vi (syncD D nm).2∧B'= [.obj [] (diskP (syncD D nm).1)]

theorem SSync:SoundR DP iSync OSync:=(SO hfSync heSync hbSync).mono (by
 rintro args B r B' ⟨D,nm,ok,rfl,rfl,rfl,rfl⟩
 have hfu:=ok.fuse.2
 obtain ⟨ro,us,fs,dn,fu⟩:=D
 cases dn with
 | true=>
  refine obA (al:= [vs nm]) rfl rfl rfl (.refl _) (fun hid hh=> .inl ⟨by rw[hnSync]; rfl,_,TSync_d_chk ro us fu hid nm,?_⟩)
  unfold TSync_d
  exact wp_callr (dFind (.d ro us fu hid nm) []) (wp_leaf rfl ⟨rfl,rfl⟩)
 | false=>
  cases hg:(⟨ro,us,fs,false,fu⟩:Dsk).get nm with
  | none=>
   have hno:=get_none hg
   have h2:syncD ⟨ro,us,fs,false,fu⟩ nm=(⟨ro,us,fs,false,fu⟩,4):=by unfold syncD; rw[if_neg (by simp)]; simp only[hg]
   rw[h2]
   refine obA (al:= [vs nm]) rfl rfl rfl (.refl _) (fun hid hh=> .inl ⟨by rw[hnSync]; rfl,_,TSync_a_chk ro us fu hid nm,?_⟩)
   unfold TSync_a
   exact wp_callr (dFind (.a ro us fu hid _ nm hh hno) []) (wp_leaf rfl ⟨rfl,rfl⟩)
  | some x=>
   obtain ⟨hx,rfl⟩:=get_some hg
   by_cases he:stE fu=0
   ·have h2:syncD ⟨ro,us,fs,false,fu⟩ x.name=(⟨ro,us,repF fs {x with sure:=x.b.length},stD fu,stF fu⟩,0):=by
     unfold syncD; rw[if_neg (by simp)]; simp only[hg,he,ne_eq,not_true_eq_false,if_false]; rfl
    rw[h2]
    refine obP (x':={x with sure:=x.b.length}) (v:=0) (al:= [vs x.name]) ok.nod hx rfl rfl rfl (repF_perm (x':={x with sure:=(x.b.length:Int)}) ok.nod hx rfl) (fun hid hh=> .inl ⟨by rw[hnSync]; rfl,_,TSync_p_chk ro us fu hid x.b x.sure x.name,?_⟩)
    unfold TSync_p
    exact wp_callr (dFind (.p ro us fu hid _ x hh) []) (wp_callr (dStep ro us fu hid [x] (by simp) hfu []) (wp_sp (fun h=>absurd he (bne_true h)) (fun h=>wp_leaf rfl ⟨rfl,rfl⟩)))
   ·have h2:syncD ⟨ro,us,fs,false,fu⟩ x.name=(⟨ro,us,fs,stD fu,stF fu⟩,stE fu):=by
     unfold syncD; rw[if_neg (by simp)]; simp only[hg,ne_eq,he,not_false_eq_true,if_true]; rfl
    rw[h2]
    refine obP (x':=x) (v:=0) (al:= [vs x.name]) ok.nod hx rfl rfl rfl (delF_perm ok.nod hx).symm (fun hid hh=> .inl ⟨by rw[hnSync]; rfl,_,TSync_p_chk ro us fu hid x.b x.sure x.name,?_⟩)
    unfold TSync_p
    exact wp_callr (dFind (.p ro us fu hid _ x hh) []) (wp_callr (dStep ro us fu hid [x] (by simp) hfu []) (wp_sp (fun h=>wp_leaf rfl ⟨rfl,rfl⟩) (fun h=>absurd (bne_false h) he))))

def OSize:RSpec:=fun args B r B'=>∃ (D:Dsk) (nm:ByteArray),D.Ok∧args= [.op 0,vs nm]∧B= [.obj [] (diskP D)]∧r= .tup [vi (sizeD D nm).1,vi (sizeD D nm).2]∧B'=B

theorem SSize:SoundR DP iSize OSize:=(SO hfSize heSize hbSize).mono (by
 rintro args B r B' ⟨D,nm,ok,rfl,rfl,rfl,rfl⟩
 obtain ⟨ro,us,fs,dn,fu⟩:=D
 cases dn with
 | true=>
  refine obA (al:= [vs nm]) rfl rfl rfl (.refl _) (fun hid hh=> .inl ⟨by rw[hnSize]; rfl,_,TSize_d_chk ro us fu hid nm,?_⟩)
  unfold TSize_d
  exact wp_callr (dFind (.d ro us fu hid nm) []) (wp_leaf rfl ⟨rfl,rfl⟩)
 | false=>
  cases hg:(⟨ro,us,fs,false,fu⟩:Dsk).get nm with
  | none=>
   have hno:=get_none hg
   have h2:sizeD ⟨ro,us,fs,false,fu⟩ nm=(0,4):=by unfold sizeD; rw[if_neg (by simp)]; simp only[hg]
   rw[h2]
   refine obA (al:= [vs nm]) rfl rfl rfl (.refl _) (fun hid hh=> .inl ⟨by rw[hnSize]; rfl,_,TSize_a_chk ro us fu hid nm,?_⟩)
   unfold TSize_a
   exact wp_callr (dFind (.a ro us fu hid _ nm hh hno) []) (wp_leaf rfl ⟨rfl,rfl⟩)
  | some x=>
   obtain ⟨hx,rfl⟩:=get_some hg
   have h2:sizeD ⟨ro,us,fs,false,fu⟩ x.name=((x.b.length:Int),0):=by unfold sizeD; rw[if_neg (by simp)]; simp only[hg]
   rw[h2]
   refine obP (x':=x) (v:=0) (al:= [vs x.name]) ok.nod hx rfl rfl rfl (delF_perm ok.nod hx).symm (fun hid hh=> .inl ⟨by rw[hnSize]; rfl,_,TSize_p_chk ro us fu hid x.b x.sure x.name,?_⟩)
   unfold TSize_p
   exact wp_callr (dFind (.p ro us fu hid _ x hh) []) (wp_leaf rfl ⟨rfl,rfl⟩))

def OAppend:RSpec:=fun args B r B'=>∃ (D:Dsk) (nm:ByteArray) (bs:List UInt8),D.Ok∧bs.length≤1000000000∧args= [.op 0,vs nm,vl (bs.map byteE.f)]∧B= [.obj [] (diskP D)]∧r=vi (appendD D nm bs).2∧B'= [.obj [] (diskP (appendD D nm bs).1)]

theorem SAppend:SoundR DP iAppend OAppend:=(SO hfAppend heAppend hbAppend).mono (by
 rintro args B r B' ⟨D,nm,bs,ok,hbs,rfl,rfl,rfl,rfl⟩
 have hfu:=ok.fuse.2
 obtain ⟨b1,b2,b3⟩:=ok.bnd
 have b4:=ok.room
 obtain ⟨ro,us,fs,dn,fu⟩:=D
 cases dn with
 | true=>
  refine obA (al:= [vs nm,vl (bs.map byteE.f)]) rfl rfl rfl (.refl _) (fun hid hh=> .inl ⟨by rw[hnAppend]; rfl,_,TAppend_d_chk ro us fu hid nm bs,?_⟩)
  unfold TAppend_d
  exact wp_callr (dFind (.d ro us fu hid nm) []) (wp_leaf rfl ⟨rfl,rfl⟩)
 | false=>
  cases hg:(⟨ro,us,fs,false,fu⟩:Dsk).get nm with
  | none=>
   have hno:=get_none hg
   have h2:appendD ⟨ro,us,fs,false,fu⟩ nm bs=(⟨ro,us,fs,false,fu⟩,4):=by unfold appendD; rw[if_neg (by simp)]; simp only[hg]
   rw[h2]
   refine obA (al:= [vs nm,vl (bs.map byteE.f)]) rfl rfl rfl (.refl _) (fun hid hh=> .inl ⟨by rw[hnAppend]; rfl,_,TAppend_a_chk ro us fu hid nm bs,?_⟩)
   unfold TAppend_a
   exact wp_callr (dFind (.a ro us fu hid _ nm hh hno) []) (wp_leaf rfl ⟨rfl,rfl⟩)
  | some x=>
   obtain ⟨hx,rfl⟩:=get_some hg
   have hxl:=b3 x hx
   simp only at b1 b2 b4 hxl
   by_cases hfull:(bs.length:Int)>ro - us
   ·have h2:appendD ⟨ro,us,fs,false,fu⟩ x.name bs=(⟨ro,us,fs,false,fu⟩,11):=by
     unfold appendD; rw[if_neg (by simp)]; simp only[hg,hfull,if_true]
    rw[h2]
    refine obP (x':=x) (v:=0) (al:= [vs x.name,vl (bs.map byteE.f)]) ok.nod hx rfl rfl rfl (delF_perm ok.nod hx).symm (fun hid hh=> .inl ⟨by rw[hnAppend]; rfl,_,TAppend_p_chk ro us fu hid x.b x.sure x.name bs,?_⟩)
    unfold TAppend_p
    exact wp_callr (dFind (.p ro us fu hid _ x hh) []) (wp_len (wp_i64 (by omega) (wp_sp (fun h=>wp_leaf rfl ⟨rfl,rfl⟩) (fun h=>absurd hfull (of_decide_eq_false h)))))
   ·by_cases he:stE fu=0
    ·have h2:appendD ⟨ro,us,fs,false,fu⟩ x.name bs=(⟨ro,us+(bs.length:Int),repF fs {x with b:=x.b++bs},stD fu,stF fu⟩,0):=by
      unfold appendD; rw[if_neg (by simp)]; simp only[hg,hfull,if_false,he,ne_eq,not_true_eq_false]; rfl
     rw[h2]
     refine obP (x':={x with b:=x.b++bs}) (v:=1) (al:= [vs x.name,vl (bs.map byteE.f)]) ok.nod hx rfl rfl rfl (repF_perm (x':={x with b:=x.b++bs}) ok.nod hx rfl) (fun hid hh=> .inl ⟨by rw[hnAppend]; rfl,_,TAppend_p_chk ro us fu hid x.b x.sure x.name bs,?_⟩)
     unfold TAppend_p
     exact wp_callr (dFind (.p ro us fu hid _ x hh) []) (wp_len (wp_i64 (by omega) (wp_sp (fun h=>absurd (of_decide_eq_true h) hfull) (fun h=>wp_callr (dStep ro us fu hid [x] (by simp) hfu []) (wp_sp (fun h=>absurd he (bne_true h)) (fun h=>wp_app rfl rfl (by simp only[List.length_append]; omega) (wp_len (wp_i64 (by omega) (wp_leaf rfl ⟨rfl,rfl⟩)))))))))
    ·have h2:appendD ⟨ro,us,fs,false,fu⟩ x.name bs=(⟨ro,us,fs,stD fu,stF fu⟩,stE fu):=by
      unfold appendD; rw[if_neg (by simp)]; simp only[hg,hfull,if_false,ne_eq,he,not_false_eq_true,if_true]; rfl
     rw[h2]
     refine obP (x':=x) (v:=0) (al:= [vs x.name,vl (bs.map byteE.f)]) ok.nod hx rfl rfl rfl (delF_perm ok.nod hx).symm (fun hid hh=> .inl ⟨by rw[hnAppend]; rfl,_,TAppend_p_chk ro us fu hid x.b x.sure x.name bs,?_⟩)
     unfold TAppend_p
     exact wp_callr (dFind (.p ro us fu hid _ x hh) []) (wp_len (wp_i64 (by omega) (wp_sp (fun h=>absurd (of_decide_eq_true h) hfull) (fun h=>wp_callr (dStep ro us fu hid [x] (by simp) hfu []) (wp_sp (fun h=>wp_leaf rfl ⟨rfl,rfl⟩) (fun h=>absurd (bne_false h) he)))))))

end Go.Ax

namespace Go.Ax
open Go.Proofs Go.RowKit
set_option maxRecDepth 100000

noncomputable def TRead_d (ro:Int) (us:Int) (fu:Int) (hid:List (Value×Value)) (nm:ByteArray) (ofs:Int) (n:Int):Tree:=
.callr (some 15) (ΔF 64 [.ptr 0 0 0,vs nm] [.cells false 0 ([vi ro,vi us, .mp 1,vb true,vi fu]), .obj [] (mapP [] hid)] (.tup [.p (.v (.pointer none)),vi 10]) [.cells false 0 ([vi ro,vi us, .mp 1,vb true,vi fu]), .obj [] (mapP [] hid)]) (.tup [.p (.v (.pointer none)),vi 10]) [.cells false 0 ([vi ro,vi us, .mp 1,vb true,vi fu]), .obj [] (mapP [] hid)] (.leaf ⟨[0],[(0,0,none),(1,0,none)]⟩ [] .ret (some ([(0, .tup [nilS,vi 10])],[.cells false 0 ([vi ro,vi us, .mp 1,vb true,vi fu]), .obj [] (mapP [] hid)])))

theorem TRead_d_chk (ro:Int) (us:Int) (fu:Int) (hid:List (Value×Value)) (nm:ByteArray) (ofs:Int) (n:Int):fnC DP ΓF ΔF Tryz.f69 [.ptr 0 0 0,vs nm,vi ofs,vi n] [.cells false 0 ([vi ro,vi us, .mp 1,vb true,vi fu]), .obj [] (mapP [] hid)] (TRead_d ro us fu hid nm ofs n)=TRead_d ro us fu hid nm ofs n:=by kernel_rfl

noncomputable def TRead_a (ro:Int) (us:Int) (fu:Int) (hid:List (Value×Value)) (nm:ByteArray) (ofs:Int) (n:Int):Tree:=
.callr (some 15) (ΔF 64 [.ptr 0 0 0,vs nm] [.cells false 0 ([vi ro,vi us, .mp 1,vb false,vi fu]), .obj [] (mapP [] hid)] (.tup [.p (.v (.pointer none)),vi 4]) [.cells false 0 ([vi ro,vi us, .mp 1,vb false,vi fu]), .obj [] (mapP [] hid)]) (.tup [.p (.v (.pointer none)),vi 4]) [.cells false 0 ([vi ro,vi us, .mp 1,vb false,vi fu]), .obj [] (mapP [] hid)] (.leaf ⟨[0],[(0,0,none),(1,0,none)]⟩ [] .ret (some ([(0, .tup [nilS,vi 4])],[.cells false 0 ([vi ro,vi us, .mp 1,vb false,vi fu]), .obj [] (mapP [] hid)])))

theorem TRead_a_chk (ro:Int) (us:Int) (fu:Int) (hid:List (Value×Value)) (nm:ByteArray) (ofs:Int) (n:Int):fnC DP ΓF ΔF Tryz.f69 [.ptr 0 0 0,vs nm,vi ofs,vi n] [.cells false 0 ([vi ro,vi us, .mp 1,vb false,vi fu]), .obj [] (mapP [] hid)] (TRead_a ro us fu hid nm ofs n)=TRead_a ro us fu hid nm ofs n:=by kernel_rfl

noncomputable def TRead_p (ro:Int) (us:Int) (fu:Int) (hid:List (Value×Value)) (L:List UInt8) (su:Int) (nm:ByteArray) (ofs:Int) (n:Int):Tree:=
.callr (some 15) (ΔF 64 [.ptr 0 0 0,vs nm] [.cells false 0 ([vi ro,vi us, .mp 1,vb false,vi fu]), .obj [.ptr 2 0 0] (mapP [.string nm] hid), .cells false 0 ([.rs 3 0 1 0 L.length,vi su]),byteE.bx 0 L] (.tup [.ptr 2 0 0,vi 0]) [.cells false 0 ([vi ro,vi us, .mp 1,vb false,vi fu]), .obj [.ptr 2 0 0] (mapP [.string nm] hid), .cells false 0 ([.rs 3 0 1 0 L.length,vi su]),byteE.bx 0 L]) (.tup [.ptr 2 0 0,vi 0]) [.cells false 0 ([vi ro,vi us, .mp 1,vb false,vi fu]), .obj [.ptr 2 0 0] (mapP [.string nm] hid), .cells false 0 ([.rs 3 0 1 0 L.length,vi su]),byteE.bx 0 L] (.sp 22 (decide (ofs<(0:Int))) (
.leaf ⟨[0],[(0,0,none),(1,0,none),(2,0,none),(3,0,some (L.map byteE.f))]⟩ [rowC (L.map byteE.f)] .ret (some ([(0, .tup [nilS,vi 1])],[.cells false 0 ([vi ro,vi us, .mp 1,vb false,vi fu]), .obj [.ptr 2 0 0] (mapP [.string nm] hid), .cells false 0 ([.rs 3 0 1 0 L.length,vi su]),byteE.bx 0 L]))) (
.sp 30 (decide (ofs>((L.length:Nat):Int))) (
.leaf ⟨[0],[(0,0,none),(1,0,none),(2,0,none),(3,0,some (L.map byteE.f))]⟩ [rowC (L.map byteE.f)] .ret (some ([(0, .tup [nilS,vi 1])],[.cells false 0 ([vi ro,vi us, .mp 1,vb false,vi fu]), .obj [.ptr 2 0 0] (mapP [.string nm] hid), .cells false 0 ([.rs 3 0 1 0 L.length,vi su]),byteE.bx 0 L]))) (
.sp 34 (decide (n<(0:Int))) (
.leaf ⟨[0],[(0,0,none),(1,0,none),(2,0,none),(3,0,some (L.map byteE.f))]⟩ [rowC (L.map byteE.f)] .ret (some ([(0, .tup [nilS,vi 1])],[.cells false 0 ([vi ro,vi us, .mp 1,vb false,vi fu]), .obj [.ptr 2 0 0] (mapP [.string nm] hid), .cells false 0 ([.rs 3 0 1 0 L.length,vi su]),byteE.bx 0 L]))) (
.int 49 (IntKind.i64.wrap (((L.length:Nat):Int) - ofs)) (((L.length:Nat):Int) - ofs) (.int 51 (IntKind.i64.wrap (ofs+(if (((L.length:Nat):Int) - ofs:Int)<(n:Int) then (((L.length:Nat):Int) - ofs:Int) else (n:Int)))) (ofs+(if (((L.length:Nat):Int) - ofs:Int)<(n:Int) then (((L.length:Nat):Int) - ofs:Int) else (n:Int))) (.rcut 52 L.length (some ofs) (some (ofs+(if (((L.length:Nat):Int) - ofs:Int)<(n:Int) then (((L.length:Nat):Int) - ofs:Int) else (n:Int)))) (.appn 53 (.part (0+loN (some ofs)*1) (hiN (some (ofs+(if (((L.length:Nat):Int) - ofs:Int)<(n:Int) then (((L.length:Nat):Int) - ofs:Int) else (n:Int)))) L.length - loN (some ofs)) (rowC (L.map byteE.f))) byteE (cutL (some ofs) (some (ofs+(if (((L.length:Nat):Int) - ofs:Int)<(n:Int) then (((L.length:Nat):Int) - ofs:Int) else (n:Int)))) L) (.leaf ⟨[0],[(0,0,none),(1,0,none),(2,0,none),(3,0,some (L.map byteE.f)),(4,0,some ((cutL (some ofs) (some (ofs+(if (((L.length:Nat):Int) - ofs:Int)<(n:Int) then (((L.length:Nat):Int) - ofs:Int) else (n:Int)))) L).map byteE.f))]⟩ [rowC (L.map byteE.f),rowC ((cutL (some ofs) (some (ofs+(if (((L.length:Nat):Int) - ofs:Int)<(n:Int) then (((L.length:Nat):Int) - ofs:Int) else (n:Int)))) L).map byteE.f)] .ret (some ([(0, .tup [.rs 4 0 1 0 ((cutL (some ofs) (some (ofs+(if (((L.length:Nat):Int) - ofs:Int)<(n:Int) then (((L.length:Nat):Int) - ofs:Int) else (n:Int)))) L).length),vi 0])],[.cells false 0 ([vi ro,vi us, .mp 1,vb false,vi fu]), .obj [.ptr 2 0 0] (mapP [.string nm] hid), .cells false 0 ([.rs 3 0 1 0 L.length,vi su]),byteE.bx 0 L,byteE.bx 0 (cutL (some ofs) (some (ofs+(if (((L.length:Nat):Int) - ofs:Int)<(n:Int) then (((L.length:Nat):Int) - ofs:Int) else (n:Int)))) L)]))))))))))

theorem TRead_p_chk (ro:Int) (us:Int) (fu:Int) (hid:List (Value×Value)) (L:List UInt8) (su:Int) (nm:ByteArray) (ofs:Int) (n:Int):fnC DP ΓF ΔF Tryz.f69 [.ptr 0 0 0,vs nm,vi ofs,vi n] [.cells false 0 ([vi ro,vi us, .mp 1,vb false,vi fu]), .obj [.ptr 2 0 0] (mapP [.string nm] hid), .cells false 0 ([.rs 3 0 1 0 L.length,vi su]),byteE.bx 0 L] (TRead_p ro us fu hid L su nm ofs n)=TRead_p ro us fu hid L su nm ofs n:=by kernel_rfl

noncomputable def TUsed_t (ro:Int) (us:Int) (fu:Int) (hid:List (Value×Value)):Tree:=
.leaf ⟨[0],[(0,0,none),(1,0,none)]⟩ [] .ret (some ([(0,vi us)],[.cells false 0 ([vi ro,vi us, .mp 1,vb true,vi fu]), .obj [] (mapP [] hid)]))

theorem TUsed_t_chk (ro:Int) (us:Int) (fu:Int) (hid:List (Value×Value)):fnC DP ΓF ΔF Tryz.f16 [.ptr 0 0 0] [.cells false 0 ([vi ro,vi us, .mp 1,vb true,vi fu]), .obj [] (mapP [] hid)] (TUsed_t ro us fu hid)=TUsed_t ro us fu hid:=by kernel_rfl

noncomputable def TUsed_f (ro:Int) (us:Int) (fu:Int) (hid:List (Value×Value)):Tree:=
.leaf ⟨[0],[(0,0,none),(1,0,none)]⟩ [] .ret (some ([(0,vi us)],[.cells false 0 ([vi ro,vi us, .mp 1,vb false,vi fu]), .obj [] (mapP [] hid)]))

theorem TUsed_f_chk (ro:Int) (us:Int) (fu:Int) (hid:List (Value×Value)):fnC DP ΓF ΔF Tryz.f16 [.ptr 0 0 0] [.cells false 0 ([vi ro,vi us, .mp 1,vb false,vi fu]), .obj [] (mapP [] hid)] (TUsed_f ro us fu hid)=TUsed_f ro us fu hid:=by kernel_rfl

noncomputable def TRoom_t (ro:Int) (us:Int) (fu:Int) (hid:List (Value×Value)):Tree:=
.int 13 (IntKind.i64.wrap (ro - us)) (ro - us) (.leaf ⟨[0],[(0,0,none),(1,0,none)]⟩ [] .ret (some ([(0,vi (ro - us))],[.cells false 0 ([vi ro,vi us, .mp 1,vb true,vi fu]), .obj [] (mapP [] hid)])))

theorem TRoom_t_chk (ro:Int) (us:Int) (fu:Int) (hid:List (Value×Value)):fnC DP ΓF ΔF Tryz.f30 [.ptr 0 0 0] [.cells false 0 ([vi ro,vi us, .mp 1,vb true,vi fu]), .obj [] (mapP [] hid)] (TRoom_t ro us fu hid)=TRoom_t ro us fu hid:=by kernel_rfl

noncomputable def TRoom_f (ro:Int) (us:Int) (fu:Int) (hid:List (Value×Value)):Tree:=
.int 13 (IntKind.i64.wrap (ro - us)) (ro - us) (.leaf ⟨[0],[(0,0,none),(1,0,none)]⟩ [] .ret (some ([(0,vi (ro - us))],[.cells false 0 ([vi ro,vi us, .mp 1,vb false,vi fu]), .obj [] (mapP [] hid)])))

theorem TRoom_f_chk (ro:Int) (us:Int) (fu:Int) (hid:List (Value×Value)):fnC DP ΓF ΔF Tryz.f30 [.ptr 0 0 0] [.cells false 0 ([vi ro,vi us, .mp 1,vb false,vi fu]), .obj [] (mapP [] hid)] (TRoom_f ro us fu hid)=TRoom_f ro us fu hid:=by kernel_rfl

noncomputable def TDown_t (ro:Int) (us:Int) (fu:Int) (hid:List (Value×Value)):Tree:=
.leaf ⟨[0],[(0,0,none),(1,0,none)]⟩ [] .ret (some ([(0,vb true)],[.cells false 0 ([vi ro,vi us, .mp 1,vb true,vi fu]), .obj [] (mapP [] hid)]))

theorem TDown_t_chk (ro:Int) (us:Int) (fu:Int) (hid:List (Value×Value)):fnC DP ΓF ΔF Tryz.f29 [.ptr 0 0 0] [.cells false 0 ([vi ro,vi us, .mp 1,vb true,vi fu]), .obj [] (mapP [] hid)] (TDown_t ro us fu hid)=TDown_t ro us fu hid:=by kernel_rfl

noncomputable def TDown_f (ro:Int) (us:Int) (fu:Int) (hid:List (Value×Value)):Tree:=
.leaf ⟨[0],[(0,0,none),(1,0,none)]⟩ [] .ret (some ([(0,vb false)],[.cells false 0 ([vi ro,vi us, .mp 1,vb false,vi fu]), .obj [] (mapP [] hid)]))

theorem TDown_f_chk (ro:Int) (us:Int) (fu:Int) (hid:List (Value×Value)):fnC DP ΓF ΔF Tryz.f29 [.ptr 0 0 0] [.cells false 0 ([vi ro,vi us, .mp 1,vb false,vi fu]), .obj [] (mapP [] hid)] (TDown_f ro us fu hid)=TDown_f ro us fu hid:=by kernel_rfl

noncomputable def TFuse_t (ro:Int) (us:Int) (fu:Int) (hid:List (Value×Value)) (n:Int):Tree:=
.leaf ⟨[0],[(0,0,none),(1,0,none)]⟩ [] .ret (some ([(0, .tup [])],[.cells false 0 ([vi ro,vi us, .mp 1,vb true,vi fu]), .obj [] (mapP [] hid)]))

theorem TFuse_t_chk (ro:Int) (us:Int) (fu:Int) (hid:List (Value×Value)) (n:Int):fnC DP ΓF ΔF Tryz.f9 [.ptr 0 0 0,vi n] [.cells false 0 ([vi ro,vi us, .mp 1,vb true,vi fu]), .obj [] (mapP [] hid)] (TFuse_t ro us fu hid n)=TFuse_t ro us fu hid n:=by kernel_rfl

noncomputable def TFuse_f (ro:Int) (us:Int) (fu:Int) (hid:List (Value×Value)) (n:Int):Tree:=
.leaf ⟨[0],[(0,0,none),(1,0,none)]⟩ [] .ret (some ([(0, .tup [])],[.cells false 0 ([vi ro,vi us, .mp 1,vb false,vi (if (0:Int)<(n:Int) then (n:Int) else (0:Int))]), .obj [] (mapP [] hid)]))

theorem TFuse_f_chk (ro:Int) (us:Int) (fu:Int) (hid:List (Value×Value)) (n:Int):fnC DP ΓF ΔF Tryz.f9 [.ptr 0 0 0,vi n] [.cells false 0 ([vi ro,vi us, .mp 1,vb false,vi fu]), .obj [] (mapP [] hid)] (TFuse_f ro us fu hid n)=TFuse_f ro us fu hid n:=by kernel_rfl

noncomputable def TNew (n:Int):Tree:=
.leaf ⟨[0],[(1,0,none),(0,0,none)]⟩ [] .ret (some ([(0, .ptr 0 0 0)],[.cells false 0 ([vi (if (0:Int)<((if (67108864:Int)<(n:Int) then (67108864:Int) else (n:Int)):Int) then ((if (67108864:Int)<(n:Int) then (67108864:Int) else (n:Int)):Int) else (0:Int)),vi 0, .mp 1,vb false,vi 0]), .obj [] (mapP [] [])]))

theorem TNew_chk (n:Int):fnC DP ΓF ΔF Tryz.f8 [vi n] [] (TNew n)=TNew n:=by kernel_rfl

end Go.Ax

namespace Go.Ax
open Go.Proofs Go.RowKit
set_option maxRecDepth 100000

theorem obAR {fn:Func} {D:Dsk} {al:List AV} {bs:List UInt8} {e:Int} (hal:al.all isP=true)
  (h:∀ hid,hid.map (·.1)=strsV (D.files.map (·.name))→RG fn (.ptr 0 0 0::al) (flatB D [] hid) (.tup [.rs 2 0 1 0 bs.length,vi e]) (flatB D [] hid++ [rowB 0 bs])):
  diskR (RG fn) (.op 0::al) [.obj [] (diskP D)] (.tup [.rs 1 0 1 0 bs.length,vi e]) [.obj [] (diskP D),rowB 0 bs]:=by
 refine ⟨D,D,[],D.files,[],[],[(2,0,bs)],al, .tup [.rs 0 0 1 0 bs.length,vi e], .refl _,al_ok hal,by rw[al_id hal],rfl,fun hid hh=>⟨flatB D [] hid++ [rowB 0 bs],?_,⟨rfl,rfl,fun i hi=>(nomatch hi),by simp,fun z hz=>?_,fun b hb=>absurd hb (by simp)⟩⟩, .refl _,rfl,rfl,rfl,rfl⟩
 ·rw[al_id hal]
  exact h hid (by rw[hh]; simp[keysOf])
 ·rcases List.mem_cons.1 hz with rfl | hz
  ·rfl
  ·cases hz

theorem obPR {fn:Func} {D:Dsk} {x:Fil} {al:List AV} {bs:List UInt8} {e:Int} (ok:(D.files.map (·.name)).Nodup) (hx:x∈D.files) (hal:al.all isP=true)
  (h:∀ hid,hid.map (·.1)=strsV ((delF D.files x.name).map (·.name))→RG fn (.ptr 0 0 0::al) (flatB D [x] hid) (.tup [.rs 4 0 1 0 bs.length,vi e]) (flatB D [x] hid++ [rowB 0 bs])):
  diskR (RG fn) (.op 0::al) [.obj [] (diskP D)] (.tup [.rs 1 0 1 0 bs.length,vi e]) [.obj [] (diskP D),rowB 0 bs]:=by
 refine ⟨D,D,[x],delF D.files x.name,[],[⟨x,2,3,0⟩],[(4,0,bs)],al, .tup [.rs 0 0 1 0 bs.length,vi e],delF_perm ok hx,al_ok hal,by rw[al_id hal],rfl,fun hid hh=>⟨flatB D [x] hid++ [rowB 0 bs],?_,⟨rfl,rfl,fun i hi=>?_,by simp,fun z hz=>?_,fun b hb=>absurd hb (by simp)⟩⟩,(delF_perm ok hx).symm,rfl,rfl,rfl,rfl⟩
 ·rw[al_id hal]
  exact h hid (by rw[hh]; simp[keysOf])
 ·rcases List.mem_cons.1 hi with rfl | hi
  ·exact ⟨rfl,rfl⟩
  ·cases hi
 ·rcases List.mem_cons.1 hz with rfl | hz
  ·rfl
  ·cases hz

def ORead:RSpec:=fun args B r B'=>∃ (D:Dsk) (nm:ByteArray) (ofs n:Int),D.Ok∧args= [.op 0,vs nm,vi ofs,vi n]∧B= [.obj [] (diskP D)] ∧
 r= .tup [.rs 1 0 1 0 (readD D nm ofs n).1.length,vi (readD D nm ofs n).2]∧B'= [.obj [] (diskP D),rowB 0 (readD D nm ofs n).1]

theorem rowByte (bs:List UInt8):rowC (bs.map byteE.f)=bs.map byteA:=(byteCells bs).symm

theorem row_part (bs:List UInt8) (lo k k':Nat) {n:Nat} (hn:n=k') (hk:k'=min k (bs.length - lo)):
  ((rowC (bs.map byteE.f)).drop (0+lo*1)).take (n*byteE.sz)=rowC (((bs.drop lo).take k).map byteE.f):=by
 subst hn
 rw[rowByte,rowByte,←List.map_drop,←List.map_take]
 congr 1
 show ((bs.drop (0+lo*1)).take (n*1))=_
 rw[show 0+lo*1=lo from by omega,Nat.mul_one,hk]
 rw[←List.length_drop,List.take_eq_take_iff]
 omega

theorem cut_read (L:List UInt8) (ofs n:Int) (h1:0≤ofs) (h2:ofs≤(L.length:Int)) (h3:0≤n):
  cutL (some ofs) (some (ofs+(if (((L.length:Nat):Int) - ofs:Int)<(n:Int) then (((L.length:Nat):Int) - ofs:Int) else (n:Int)))) L=(L.drop ofs.toNat).take (min n (L.length - ofs)).toNat:=by
 show (L.take _).drop ofs.toNat=_
 rw[List.drop_take]
 congr 1
 split <;> omega

theorem SRead:SoundR DP iRead ORead:=(SO hfRead heRead hbRead).mono (by
 rintro args B r B' ⟨D,nm,ofs,n,ok,rfl,rfl,rfl,rfl⟩
 obtain ⟨b1,b2,b3⟩:=ok.bnd
 obtain ⟨ro,us,fs,dn,fu⟩:=D
 cases dn with
 | true=>
  refine obAR (bs:= []) (e:=10) (al:= [vs nm,vi ofs,vi n]) rfl (fun hid hh=> .inr (.inr ⟨flatB (dsk ro us fu true) [] hid,vi 10,⟨by rw[hnRead]; rfl,_,TRead_d_chk ro us fu hid nm ofs n,?_⟩,rfl,rfl⟩))
  unfold TRead_d
  exact wp_callr (dFind (.d ro us fu hid nm) []) (wp_leaf rfl ⟨rfl,rfl⟩)
 | false=>
  cases hg:(⟨ro,us,fs,false,fu⟩:Dsk).get nm with
  | none=>
   have hno:=get_none hg
   have h2:readD ⟨ro,us,fs,false,fu⟩ nm ofs n=([],4):=by unfold readD; rw[if_neg (by simp)]; simp only[hg]
   rw[h2]
   refine obAR (bs:= []) (e:=4) (al:= [vs nm,vi ofs,vi n]) rfl (fun hid hh=> .inr (.inr ⟨flatB (dsk ro us fu false) [] hid,vi 4,⟨by rw[hnRead]; rfl,_,TRead_a_chk ro us fu hid nm ofs n,?_⟩,rfl,rfl⟩))
   unfold TRead_a
   exact wp_callr (dFind (.a ro us fu hid _ nm hh hno) []) (wp_leaf rfl ⟨rfl,rfl⟩)
  | some x=>
   obtain ⟨hx,rfl⟩:=get_some hg
   have hxl:=b3 x hx
   simp only at b1 b2 hxl
   by_cases hbad:ofs<0∨ofs>x.b.length∨n<0
   ·have h2:readD ⟨ro,us,fs,false,fu⟩ x.name ofs n=([],1):=by unfold readD; rw[if_neg (by simp)]; simp only[hg,hbad,if_true]
    rw[h2]
    refine obPR (bs:= []) (e:=1) (al:= [vs x.name,vi ofs,vi n]) ok.nod hx rfl (fun hid hh=> .inr (.inr ⟨flatB (dsk ro us fu false) [x] hid,vi 1,⟨by rw[hnRead]; rfl,_,TRead_p_chk ro us fu hid x.b x.sure x.name ofs n,?_⟩,rfl,rfl⟩))
    unfold TRead_p
    refine wp_callr (dFind (.p ro us fu hid _ x hh) []) (wp_sp (fun h=>wp_leaf rfl ⟨rfl,rfl⟩) (fun h1=>wp_sp (fun h=>wp_leaf rfl ⟨rfl,rfl⟩) (fun h2=>wp_sp (fun h=>wp_leaf rfl ⟨rfl,rfl⟩) (fun h3=>?_))))
    have h1:=of_decide_eq_false h1
    have h2:=of_decide_eq_false h2
    have h3:=of_decide_eq_false h3
    omega
   ·have h2:readD ⟨ro,us,fs,false,fu⟩ x.name ofs n=((x.b.drop ofs.toNat).take (min n (x.b.length - ofs)).toNat,0):=by unfold readD; rw[if_neg (by simp)]; simp only[hg,hbad,if_false]
    rw[h2]
    have hc:=cut_read x.b ofs n (by omega) (by omega) (by omega)
    simp only
    rw[←hc]
    refine obPR (e:=0) (al:= [vs x.name,vi ofs,vi n]) ok.nod hx rfl (fun hid hh=> .inl ⟨by rw[hnRead]; rfl,_,TRead_p_chk ro us fu hid x.b x.sure x.name ofs n,?_⟩)
    unfold TRead_p
    have hlen:(cutL (some ofs) (some (ofs+(if (((x.b.length:Nat):Int) - ofs:Int)<(n:Int) then (((x.b.length:Nat):Int) - ofs:Int) else (n:Int)))) x.b).length≤x.b.length:=by
     rw[hc]; simp only[List.length_take,List.length_drop]; omega
    refine wp_callr (dFind (.p ro us fu hid _ x hh) []) (wp_sp (fun h=>absurd (of_decide_eq_true h) (by omega)) (fun h1=>wp_sp (fun h=>absurd (of_decide_eq_true h) (by omega)) (fun h2=>wp_sp (fun h=>absurd (of_decide_eq_true h) (by omega)) (fun h3=>wp_i64 (by omega) (wp_i64 (by split <;> omega) ⟨?_,wp_appn ?_ (by omega) (wp_leaf rfl ⟨rfl,rfl⟩)⟩)))))
    ·show 0≤ofs∧ofs≤_∧_≤(x.b.length:Int)
     split <;> omega
    ·refine ⟨?_,?_⟩
     ·rw[hc]
      simp only[hiN,loN,List.length_take,List.length_drop]
      split <;> omega
     ·rw[hc]
      refine row_part _ _ _ _ rfl ?_
      simp only[hiN,loN,List.length_take,List.length_drop]
      split <;> omega)

end Go.Ax

namespace Go.Ax
open Go.Proofs Go.RowKit
set_option maxRecDepth 100000

def ODown:RSpec:=fun args B r B'=>∃ (D:Dsk),D.Ok∧args= [.op 0]∧B= [.obj [] (diskP D)]∧r=vb D.down∧B'=B

theorem SDown:SoundR DP iDown ODown:=(SO hfDown heDown hbDown).mono (by
 rintro args B r B' ⟨D,ok,rfl,rfl,rfl,rfl⟩
 obtain ⟨ro,us,fs,dn,fu⟩:=D
 cases dn with
 | true=>
  refine obA (al:= []) rfl rfl rfl (.refl _) (fun hid hh=> .inl ⟨by rw[hnDown]; rfl,_,TDown_t_chk ro us fu hid,?_⟩)
  unfold TDown_t
  exact wp_leaf rfl ⟨rfl,rfl⟩
 | false=>
  refine obA (al:= []) rfl rfl rfl (.refl _) (fun hid hh=> .inl ⟨by rw[hnDown]; rfl,_,TDown_f_chk ro us fu hid,?_⟩)
  unfold TDown_f
  exact wp_leaf rfl ⟨rfl,rfl⟩)

def ORoom:RSpec:=fun args B r B'=>∃ (D:Dsk),D.Ok∧args= [.op 0]∧B= [.obj [] (diskP D)]∧r=vi (D.room - D.used)∧B'=B

theorem SRoom:SoundR DP iRoom ORoom:=(SO hfRoom heRoom hbRoom).mono (by
 rintro args B r B' ⟨D,ok,rfl,rfl,rfl,rfl⟩
 obtain ⟨b1,b2,b3⟩:=ok.bnd
 have hro:=ok.room
 obtain ⟨ro,us,fs,dn,fu⟩:=D
 simp only at b1 b2 hro
 cases dn with
 | true=>
  refine obA (al:= []) rfl rfl rfl (.refl _) (fun hid hh=> .inl ⟨by rw[hnRoom]; rfl,_,TRoom_t_chk ro us fu hid,?_⟩)
  unfold TRoom_t
  exact wp_i64 (by omega) (wp_leaf rfl ⟨rfl,rfl⟩)
 | false=>
  refine obA (al:= []) rfl rfl rfl (.refl _) (fun hid hh=> .inl ⟨by rw[hnRoom]; rfl,_,TRoom_f_chk ro us fu hid,?_⟩)
  unfold TRoom_f
  exact wp_i64 (by omega) (wp_leaf rfl ⟨rfl,rfl⟩))

def ONew:RSpec:=fun args B r B'=>∃ n:Int,args= [vi n]∧B= []∧r= .op 0∧B'= [.obj [] (diskP (newD n))]

theorem SNew:SoundR DP iNew ONew:=(SG hfNew heNew hbNew).newD.mono (by
 rintro args B r B' ⟨n,rfl,rfl,rfl,rfl⟩
 refine ⟨newD n,rfl, .inl ⟨by rw[hnNew]; rfl,_,TNew_chk n,?_⟩,rfl,rfl,rfl⟩
 unfold TNew
 exact wp_leaf rfl ⟨rfl,rfl⟩)

end Go.Ax

namespace Go.Ax
open Go.Proofs Go.RowKit
set_option maxRecDepth 100000

abbrev iKeys:Nat:=35
abbrev iKeys1:Nat:=68
abbrev iSorted:Nat:=34
noncomputable abbrev nKeys:Func:=Tryz.f35
theorem hfKeys:DP.funcs[iKeys]? = some nKeys:=by kernel_rfl
theorem heKeys:enters DP iKeys=true:=by kernel_rfl
theorem hbKeys:nKeys.body.isSome=true:=by kernel_rfl
theorem hnKeys:nKeys.ntmps=4:=by kernel_rfl
theorem heSorted:enters DP iSorted=true:=by kernel_rfl

noncomputable def TKeys (hid:List (Value×Value)):Tree:=
.leaf ⟨[0],[(0,0,none),(1,0,none)]⟩ [] .ret (some ([(0, .fn 68 [.ptr 1 0 0])],[.obj [] (mapP [] hid), .cells false 0 ([.mp 0])]))

theorem TKeys_chk (hid:List (Value×Value)):fnC DP Γ0 Δ0 Tryz.f35 [.mp 0] [.obj [] (mapP [] hid)] (TKeys hid)=TKeys hid:=by kernel_rfl

end Go.Ax
