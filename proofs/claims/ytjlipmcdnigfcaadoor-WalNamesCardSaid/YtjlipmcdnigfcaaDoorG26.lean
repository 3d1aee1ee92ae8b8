/- The disk's functions, for their callers; rows handed over. -/
import Derived.Test.YtjlipmcdnigfcaaDoorG25
import Derived.Test.YtjlipmcdnigfcaaDoorG21
import Derived.Test.YtjlipmcdnigfcaaDoorG24
set_option linter.unusedVariables false
set_option linter.unusedSimpArgs false
set_option linter.unusedSectionVars false
namespace Go.Ax
open Go.Proofs Go.RowKit
set_option maxRecDepth 100000

def orR (R1 R2:RSpec):RSpec:=fun a b c d=>R1 a b c d∨R2 a b c d
def takeR (R:RSpec):RSpec:=orR (liftR R) (sealR (liftR R))
theorem take_sound {f:Nat} {R:RSpec} (h:SoundR DP f R):SoundR DP f (takeR R):=(lift_sound h).or (lift_sound h).shutRow

section
variable {B : List Box} {b : Nat} {D D1 : Dsk} {nm nn : ByteArray} {e : Int}

theorem oNew (n:Int):liftR ONew [vi n] B (.op B.length) (B++ [.obj [] (diskP (newD n))]):=lift_new ⟨n,rfl,rfl,rfl,rfl⟩ rfl
theorem oCreate (ok:D.Ok) (hN:nm.size≤1000000000) (hb:B[b]? = some (.obj [] (diskP D))):liftR OCreate [.op b,vs nm] B (vi (createD D nm).2) (B.set b (.obj [] (diskP (createD D nm).1))):=
 lift_obj (R:=OCreate) ⟨D,nm,ok,hN,rfl,rfl,rfl,rfl⟩ hb rfl rfl
theorem oAppendS {bs:List UInt8} {k v:Nat} (ok:D.Ok) (hN:bs.length≤1000000000) (hb:B[b]? = some (.obj [] (diskP D))) (hk:B[k]? = some (byteE.bx v bs)):
  takeR OAppend [.op b,vs nm, .rs k v 1 0 bs.length] B (vi (appendD D nm bs).2) ((B.set k .dead).set b (.obj [] (diskP (appendD D nm bs).1))):=by
 have hne:k≠b:=fun e=>by rw[e,hb] at hk; cases hk
 exact .inr ⟨2,k,v,UInt8,byteE,bs,hk,rfl,lift_obj (R:=OAppend) ⟨D,nm,bs,ok,hN,rfl,rfl,rfl,rfl⟩ (by rw[List.getElem?_set_ne hne]; exact hb) rfl rfl⟩
theorem oSync (ok:D.Ok) (hb:B[b]? = some (.obj [] (diskP D))):liftR OSync [.op b,vs nm] B (vi (syncD D nm).2) (B.set b (.obj [] (diskP (syncD D nm).1))):=
 lift_obj (R:=OSync) ⟨D,nm,ok,rfl,rfl,rfl,rfl⟩ hb rfl rfl
theorem set_same {B:List Box} {b:Nat} {x:Box} (hb:B[b]? = some x):B.set b x=B:=by
 refine List.ext_getElem? fun j=>?_
 rw[List.getElem?_set]
 split
 ·rename_i e; subst e
  rw[if_pos (List.getElem?_eq_some_iff.1 hb).1]; exact hb.symm
 ·rfl
theorem oRead {ofs n:Int} (ok:D.Ok) (hb:B[b]? = some (.obj [] (diskP D))):
  liftR ORead [.op b,vs nm,vi ofs,vi n] B (.tup [.rs B.length 0 1 0 (readD D nm ofs n).1.length,vi (readD D nm ofs n).2]) (B++ [byteE.bx 0 (readD D nm ofs n).1]):=by
 have:=lift_objrow (R:=ORead) (xs:=(readD D nm ofs n).1.map byteE.f) ⟨D,nm,ofs,n,ok,rfl,rfl,rfl,rfl⟩ hb rfl
 rw[set_same hb] at this
 exact this
theorem oDown (ok:D.Ok) (hb:B[b]? = some (.obj [] (diskP D))):liftR ODown [.op b] B (vb D.down) B:=by
 have:=lift_obj (R:=ODown) (al:= []) ⟨D,ok,rfl,rfl,rfl,rfl⟩ hb rfl rfl
 rwa[set_same hb] at this
theorem oRoom (ok:D.Ok) (hb:B[b]? = some (.obj [] (diskP D))):liftR ORoom [.op b] B (vi (D.room - D.used)) B:=by
 have:=lift_obj (R:=ORoom) (al:= []) ⟨D,ok,rfl,rfl,rfl,rfl⟩ hb rfl rfl
 rwa[set_same hb] at this
theorem oSize (ok:D.Ok) (hb:B[b]? = some (.obj [] (diskP D))):liftR OSize [.op b,vs nm] B (.tup [vi (sizeD D nm).1,vi (sizeD D nm).2]) B:=by
 have:=lift_obj (R:=OSize) ⟨D,nm,ok,rfl,rfl,rfl,rfl⟩ hb rfl rfl
 rwa[set_same hb] at this
end

def nilsR (R:RSpec):RSpec:=fun args B r B'=>∃ rest,R args B (.tup (nilS::rest)) B'∧r= .tup (.p (.ls [])::rest)
theorem SoundR.nils {f:Nat} {R:RSpec} (h:SoundR DP f R):SoundR DP f (nilsR R):=by
 rintro args B r B' ⟨rest,h1,rfl⟩ F ρ w us hI hA
 refine (h args B _ B' h1 F ρ w us hI hA).mono fun en w' hp=>?_
 obtain ⟨x,ρ2,rfl,hI2,hE2,hv⟩:=hp
 refine ⟨x,ρ2,rfl,hI2,hE2,?_⟩
 cases hv with
 | tup _ us h2 h3=>
  refine .tup _ us (by simpa using h2) (fun j p u hp hu=>?_)
  cases j with
  | zero=>
   cases hp
   have:=(h3 0 nilS u rfl hu).val
   subst this
   exact .p _ _ (.nil Option.none 0 (.inr rfl))
  | succ j=>exact h3 (j+1) p u hp hu

end Go.Ax

namespace Go.Ax
open Go.Proofs Go.RowKit
set_option maxRecDepth 100000

def RNameW:List AV→AV→Prop:=fun args r=>∃ n:Int,(-9223372036854775808≤n∧n≤9223372036854775807)∧args= [vi n]∧r=vs (wname n)
noncomputable def gNameW:=relG RNameW
theorem SNameW:SoundF DP iNameW (.pure gNameW):=sound_pureT mixedD Γ4_ok Δ0_ok hfNameW heNameW hbNameW (by
 rintro args r ⟨n,hn,rfl,rfl⟩
 refine ⟨rfl,rfl,_,TNameW_chk n,?_⟩
 unfold TNameW
 have h:=itoaB_size hn
 exact wp_call (gItoa_eq hn) (wp_val (cat_val (by show 4+(itoaB n).size≤_; omega)) (wp_leaf rfl (.p _))))
theorem gNameW_eq {n:Int} (hn: -9223372036854775808≤n∧n≤9223372036854775807):gNameW [vi n]=some (vs (wname n)):=
 relG_eq (fun args r r' ⟨n1,_,h1,h2⟩ ⟨n2,_,h3,h4⟩=>by
  rw[h2,h4,vn_inj' (one_arg (h1.symm.trans h3))]) ⟨n,hn,rfl,rfl⟩

noncomputable def Γ5:Env:=envP [(iNameW,gNameW)]
theorem Γ5_ok:∀ f,SoundF DP f (Γ5 f):=envP_cons SNameW envP_nil
noncomputable def Δ5:REnv:=envR [(iSize,liftR OSize),(iRead,liftR ORead),(iAll,sealR (pureR gAll))]
theorem Δ5_ok:∀ f,SoundR DP f (Δ5 f):=envR_cons (lift_sound SSize) (envR_cons (lift_sound SRead) (envR_cons (SAll.rel).shutRow envR_nil))

theorem cAllS {B:List Box} {k v:Nat} {b:List UInt8} (hb:b.length≤1000000000) (hk:B[k]? = some (byteE.bx v b)):
  sealR (pureR gAll) [.rs k v 1 0 b.length] B (.tup [vl ((allI b).1.map bytesE.f),vi (allI b).2.1,vi (allI b).2.2]) (B.set k .dead):=
 ⟨0,k,v,UInt8,byteE,b,hk,rfl,gAll_eq hb,rfl⟩

def readW (D:Dsk) (n:Int):List (List UInt8)×Int×Int:=match D.get (wname n) with
 | none=>([],0,4)
 | some x=>allI x.b
end Go.Ax

namespace Go.Ax
open Go.Proofs Go.RowKit
set_option maxRecDepth 100000

abbrev iReadW:Nat:=56
noncomputable abbrev nReadW:Func:=Tryd.f56
theorem hfReadW:DP.funcs[iReadW]? = some nReadW:=by kernel_rfl
theorem heReadW:enters DP iReadW=true:=by kernel_rfl
theorem hbReadW:nReadW.body.isSome=true:=by kernel_rfl
theorem hnReadW:nReadW.ntmps=36:=by kernel_rfl

noncomputable def TReadW (D:Dsk) (n:Int):Tree:=
.call 13 (gNameW [vi n]=some (vs (wname n))) (vs (wname n)) (.callr (some 14) (Δ5 60 [.op 0,vs (wname n)] [.obj [] (diskP D)] (.tup [vi ((sizeD D (wname n)).1),vi ((sizeD D (wname n)).2)]) [.obj [] (diskP D)]) (.tup [vi ((sizeD D (wname n)).1),vi ((sizeD D (wname n)).2)]) [.obj [] (diskP D)] (.sp 18 (((sizeD D (wname n)).2) != (0:Int)) (
.leaf ⟨[0],[(0,0,none)]⟩ [] .ret (some ([(0, .tup [nilS,vi 0,vi ((sizeD D (wname n)).2)])],[.obj [] (diskP D)]))) (
.call 23 (gNameW [vi n]=some (vs (wname n))) (vs (wname n)) (.callr (some 25) (Δ5 48 [.op 0,vs (wname n),vi 0,vi ((sizeD D (wname n)).1)] [.obj [] (diskP D)] (.tup [.rs 1 0 1 0 ((readD D (wname n) 0 ((sizeD D (wname n)).1)).1.length),vi ((readD D (wname n) 0 ((sizeD D (wname n)).1)).2)]) [.obj [] (diskP D),byteE.bx 0 ((readD D (wname n) 0 ((sizeD D (wname n)).1)).1)]) (.tup [.rs 1 0 1 0 ((readD D (wname n) 0 ((sizeD D (wname n)).1)).1.length),vi ((readD D (wname n) 0 ((sizeD D (wname n)).1)).2)]) [.obj [] (diskP D),byteE.bx 0 ((readD D (wname n) 0 ((sizeD D (wname n)).1)).1)] (.sp 29 (((readD D (wname n) 0 ((sizeD D (wname n)).1)).2) != (0:Int)) (
.leaf ⟨[0],[(0,0,none)]⟩ [] .ret (some ([(0, .tup [nilS,vi 0,vi ((readD D (wname n) 0 ((sizeD D (wname n)).1)).2)])],[.obj [] (diskP D)]))) (
.callr (some 32) (Δ5 50 [.rs 1 0 1 0 ((readD D (wname n) 0 ((sizeD D (wname n)).1)).1.length)] [.obj [] (diskP D),byteE.bx 0 ((readD D (wname n) 0 ((sizeD D (wname n)).1)).1)] (.tup [vl (((allI ((readD D (wname n) 0 ((sizeD D (wname n)).1)).1)).1).map bytesE.f),vi ((allI ((readD D (wname n) 0 ((sizeD D (wname n)).1)).1)).2.1),vi ((allI ((readD D (wname n) 0 ((sizeD D (wname n)).1)).1)).2.2)]) [.obj [] (diskP D), .dead]) (.tup [vl (((allI ((readD D (wname n) 0 ((sizeD D (wname n)).1)).1)).1).map bytesE.f),vi ((allI ((readD D (wname n) 0 ((sizeD D (wname n)).1)).1)).2.1),vi ((allI ((readD D (wname n) 0 ((sizeD D (wname n)).1)).1)).2.2)]) [.obj [] (diskP D), .dead] (.leaf ⟨[0],[(0,0,none)]⟩ [] .ret (some ([(0, .tup [vl (((allI ((readD D (wname n) 0 ((sizeD D (wname n)).1)).1)).1).map bytesE.f),vi ((allI ((readD D (wname n) 0 ((sizeD D (wname n)).1)).1)).2.1),vi ((allI ((readD D (wname n) 0 ((sizeD D (wname n)).1)).1)).2.2)])],[.obj [] (diskP D)])))))))))

theorem TReadW_chk (D:Dsk) (n:Int):fnC DP Γ5 Δ5 Tryd.f56 [.op 0,vi n] [.obj [] (diskP D)] (TReadW D n)=TReadW D n:=by kernel_rfl

end Go.Ax

namespace Go.Ax
open Go.Proofs Go.RowKit
set_option maxRecDepth 100000

theorem Dsk.Ok.len {D:Dsk} (ok:D.Ok) {nm:ByteArray} {x:Fil} (h:D.get nm=some x):(x.b.length:Int)≤67108864:=by
 obtain ⟨hx,_⟩:=get_some h
 have h1:=lens_perm (delF_perm ok.nod hx)
 rw[lens_cons] at h1
 have h2:=ok.used
 change D.used=lens D.files at h2
 have h3:=ok.le
 have h4:=ok.room
 have h5:∀ fs:List Fil,0≤lens fs:=fun fs=>by
  induction fs with
  | nil=>exact Int.le_refl _
  | cons y fs ih=>rw[lens_cons]; omega
 have:=h5 (delF D.files x.name)
 omega
def OReadW:RSpec:=fun args B r B'=>∃ (D:Dsk) (n:Int),D.Ok∧D.down=false∧(-9223372036854775808≤n∧n≤9223372036854775807)∧args= [.op 0,vi n]∧B= [.obj [] (diskP D)] ∧
 r= .tup [vl ((readW D n).1.map bytesE.f),vi (readW D n).2.1,vi (readW D n).2.2]∧B'=B
def OReadW0:RSpec:=fun args B r B'=>∃ (D:Dsk) (n:Int),D.Ok∧D.down=false∧(-9223372036854775808≤n∧n≤9223372036854775807)∧args= [.op 0,vi n]∧B= [.obj [] (diskP D)] ∧
 ((D.get (wname n)=none∧r= .tup [nilS,vi 0,vi 4])∨∃ x,D.get (wname n)=some x∧r= .tup [vl ((allI x.b).1.map bytesE.f),vi (allI x.b).2.1,vi (allI x.b).2.2])∧B'=B
theorem SReadW0:SoundR DP iReadW OReadW0:=sound_genT mixedD Γ5_ok Δ5_ok hfReadW heReadW hbReadW (by
 rintro args B r B' ⟨D,n,ok,hd,hn,rfl,rfl,⟨hg,rfl⟩ | ⟨x,hg,rfl⟩,rfl⟩
 ·refine ⟨by rw[hnReadW]; rfl,_,TReadW_chk D n,?_⟩
  have hs:sizeD D (wname n)=(0,4):=by unfold sizeD; rw[if_neg (by simp[hd]),hg]
  unfold TReadW
  refine wp_call (gNameW_eq hn) (wp_callr (oSize ok rfl) (wp_sp (fun _=>wp_leaf rfl ?_) (fun h=>absurd h (by rw[hs]; decide))))
  rw[hs]
  exact ⟨rfl,rfl⟩
 ·refine ⟨by rw[hnReadW]; rfl,_,TReadW_chk D n,?_⟩
  have hl:=ok.len hg
  have hs:sizeD D (wname n)=((x.b.length:Int),0):=by unfold sizeD; rw[if_neg (by simp[hd]),hg]
  have hr:readD D (wname n) 0 (sizeD D (wname n)).1=(x.b,0):=by
   rw[hs]
   unfold readD
   rw[if_neg (by simp[hd]),hg]
   simp only
   rw[if_neg (by omega),show (min (x.b.length:Int) ((x.b.length:Int) - 0)).toNat=x.b.length by omega]
   simp
  unfold TReadW
  refine wp_call (gNameW_eq hn) (wp_callr (oSize ok rfl) (wp_sp (fun h=>absurd h (by rw[hs]; simp)) (fun _=>wp_call (gNameW_eq hn) (wp_callr (oRead ok rfl) ?_))))
  rw[hr]
  exact wp_sp (fun h=>absurd h (by simp)) (fun _=>wp_callr (cAllS (by show x.b.length≤_; omega) rfl) (wp_leaf rfl ⟨rfl,rfl⟩)))
theorem SReadW:SoundR DP iReadW OReadW:=(SReadW0.or SReadW0.nils).mono (by
 rintro args B r B' ⟨D,n,ok,hd,hn,rfl,rfl,rfl,rfl⟩
 unfold readW
 cases hg:D.get (wname n) with
 | none=>exact .inr ⟨_,⟨D,n,ok,hd,hn,rfl,rfl, .inl ⟨hg,rfl⟩,rfl⟩,rfl⟩
 | some x=>exact .inl ⟨D,n,ok,hd,hn,rfl,rfl, .inr ⟨x,hg,rfl⟩,rfl⟩)
theorem oReadW {B:List Box} {b:Nat} {D:Dsk} {n:Int} (ok:D.Ok) (hd:D.down=false) (hn: -9223372036854775808≤n∧n≤9223372036854775807) (hb:B[b]? = some (.obj [] (diskP D))):
  liftR OReadW [.op b,vi n] B (.tup [vl ((readW D n).1.map bytesE.f),vi (readW D n).2.1,vi (readW D n).2.2]) B:=by
 have:=lift_obj (R:=OReadW) ⟨D,n,ok,hd,hn,rfl,rfl,rfl,rfl⟩ hb rfl rfl
 rwa[set_same hb] at this

noncomputable def Γ6:Env:=envP [(iNameW,gNameW),(iParse,gParse),(iHeadW,gHeadW)]
theorem Γ6_ok:∀ f,SoundF DP f (Γ6 f):=envP_cons SNameW (envP_cons SParse (envP_cons SHeadW envP_nil))
noncomputable def Δ6:REnv:=envR [(iReadW,liftR OReadW),(iRPut,takeR ORPut),(iSize,liftR OSize),(iDown,liftR ODown),(iRoom,liftR ORoom),(iSync,liftR OSync),(iRemove,liftR ORemove),(iCreate,liftR OCreate),(iAppend,takeR OAppend)]
theorem Δ6_ok:∀ f,SoundR DP f (Δ6 f):=envR_cons (lift_sound SReadW) (envR_cons (take_sound SRPut) (envR_cons (lift_sound SSize) (envR_cons (lift_sound SDown) (envR_cons (lift_sound SRoom) (envR_cons (lift_sound SSync) (envR_cons (lift_sound SRemove) (envR_cons (lift_sound SCreate) (envR_cons (take_sound SAppend) envR_nil))))))))

theorem oRPut {B:List Box} {d:List UInt8} (hd:d.length≤1048576):takeR ORPut [nilS,vl (d.map byteE.f)] B (.tup [.rs B.length 0 1 0 (recB d).length,vi 0]) (B++ [byteE.bx 0 (recB d)]):=by
 refine .inl ⟨_,_,_,_,⟨d,by omega,rfl,rfl, .inr ⟨hd,rfl,rfl⟩⟩,⟨[],[],[],[],[byteE.bx 0 (recB d)],rfl,rfl,rfl,rfl,trivial,⟨.rowv (by simp[dNew]),trivial⟩,?_,?_,rfl⟩⟩
 ·simp[outB]
 ·simp[AV.rv,AV.rv.rvL,fNew,dNew]
theorem oRPutS {B:List Box} {d:List UInt8} {k v:Nat} (hd:d.length≤1048576) (hk:B[k]? = some (byteE.bx v d)):
  takeR ORPut [nilS, .rs k v 1 0 d.length] B (.tup [.rs B.length 0 1 0 (recB d).length,vi 0]) (B.set k .dead++ [byteE.bx 0 (recB d)]):=by
 refine .inr ⟨1,k,v,UInt8,byteE,d,hk,rfl,?_⟩
 refine ⟨_,_,_,_,⟨d,by omega,rfl,rfl, .inr ⟨hd,rfl,rfl⟩⟩,⟨[],[],[],[],[byteE.bx 0 (recB d)],rfl,rfl,rfl,rfl,trivial,⟨.rowv (by simp[dNew]),trivial⟩,?_,?_,rfl⟩⟩
 ·simp[outB]
 ·simp[AV.rv,AV.rv.rvL,fNew,dNew]

end Go.Ax
