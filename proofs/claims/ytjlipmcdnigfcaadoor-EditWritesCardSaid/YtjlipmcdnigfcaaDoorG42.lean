/- Calls of the one who keeps the list, for callers. -/
import Derived.Test.YtjlipmcdnigfcaaDoorG41
import Derived.Test.YtjlipmcdnigfcaaDoorG20
import Derived.Test.YtjlipmcdnigfcaaDoorG26
set_option linter.unusedVariables false
set_option linter.unusedSimpArgs false
set_option linter.unusedSectionVars false
namespace Go.Ax
open Go.Proofs Go.RowKit
set_option maxRecDepth 100000

def sealX (R:RSpec):RSpec:=fun args B r B'=>∃ (i k:Nat) (x y:AV),Sealed (fun j=>j=k) B x y∧args[i]? = some x∧R (args.set i y) (B.set k .dead) r B'
variable {P : Program} [Glob]
theorem SoundR.shutX {f:Nat} {R:RSpec} (h:SoundR P f R):SoundR P f (sealX R):=by
 rintro args B r B' ⟨i,b,x0,y0,hs,hi,hR⟩ F ρ w us hI hA
 have hget:∀ (b':Nat) (row:Bool) (v':Nat) (cs':List AV),(B.set b Box.dead)[b']? = some (.cells row v' cs')→b'≠b∧B[b']? = some (.cells row v' cs'):=by
  intro b' row v' cs' hc
  rw[List.getElem?_set] at hc
  split at hc
  ·split at hc <;> cases hc
  ·rename_i e'
   exact ⟨fun h=>e' h.symm,hc⟩
 obtain ⟨hown,hE2⟩:=retell_ext (F:=F) (B:=B) (B':=B.set b Box.dead) (ρ:=ρ) (w:=w) (by simp) (fun b' row' v' cs' hc=>⟨cs',(hget b' row' v' cs' hc).2,rfl⟩) (fun j cs Φ h=>obj_set (fun _ _ e=>by cases e) h)
 have hI2:=retell (B':=B.set b Box.dead) hI (fun b' row' v' cs' hc=>by
  obtain ⟨_,h3⟩:=hget b' row' v' cs' hc
  exact ⟨cs',h3,rfl,hI.leaf _ _ _ _ h3,fun j c' hc'=>⟨c',hc',fun u hu=>hu.ext hE2⟩⟩) (fun j cs Φ h=>obj_set (fun _ _ e=>by cases e) h) hE2
 have hA2:ArgsRel F (B.set b Box.dead) ρ w (args.set i y0) us:=by
  refine ⟨by rw[List.length_set]; exact hA.1,fun j p u hp hu=>?_⟩
  rw[List.getElem?_set] at hp
  split at hp
  ·rename_i e
   subst e
   split at hp
   ·cases hp
    have hv:=hA.2 i _ u hi hu
    refine Sealed.vrel (S:=fun k=>k=b) hI hs hv hown fun b0 row0 v0 cs0 k o hS hB hρ=>?_
    subst hS
    rintro (hF | ⟨b3,x3,l3,g1,g2,g3⟩)
    ·exact hI.farb b0 row0 v0 cs0 k o hB hρ hF
    ·rw[List.getElem?_set] at g1
     split at g1
     ·split at g1
      ·cases g1; exact g3.elim
      ·cases g1
     ·rename_i e2
      exact e2 (hI.injx b0 b3 _ _ (k,o) l3 k hB g1 hρ g2 rfl g3)
   ·cases hp
  ·exact (hA.2 j p u hp hu).ext hE2
 exact (h _ _ _ _ hR F ρ w us hI2 hA2).mono fun e w' hp=>by
  obtain ⟨x,ρ2,rfl,q1,q2,q3⟩:=hp
  exact ⟨x,ρ2,rfl,q1,hE2.trans q2,q3⟩

section
variable {B : List Box} {b m : Nat} {D : Dsk} {n : Int} {v : Vers} {o : Bool} {x : Edt}
theorem oLoad (ok:D.Ok) (h:(loadD D).1=0) (hb:B[b]? = some (.obj [] (diskP D))):liftR OLoad [.op b] B (.tup [.ptr B.length 0 0,vi 0]) (B++ [manB b (loadD D).2.1 (loadD D).2.2 false]):=by
 have hlt:b<B.length:=(List.getElem?_eq_some_iff.1 hb).1
 refine ⟨_,_,_,_,⟨D,ok,rfl,rfl, .inr ⟨h,rfl,rfl⟩⟩,⟨[b],[0],[.obj [] (diskP D)],[.obj [] (diskP D)],[manB b (loadD D).2.1 (loadD D).2.2 false],?_,?_,?_,?_,⟨.objs rfl rfl,trivial⟩,⟨.objs rfl rfl, .cells ?_ ?_ rfl,trivial⟩,?_,?_,rfl⟩⟩
 ·simp[noDup,Nat.blt_eq,hlt]
 ·simp[hb]
 ·simp[AV.rv.rvL,AV.rv,fNew]
 ·rfl
 ·simp[dNew]
 ·simp[AV.rv.rvL,AV.rv,fNew]
 ·simp only[outB]; rw[set_same hb]
 ·simp[AV.rv,AV.rv.rvL,fNew,dNew]
theorem oDo (ok:D.Ok) (hn:0≤n∧n≤1073741824) (hx:DoOk v o x) (hm:B[m]? = some (manB b n v o)) (hb:B[b]? = some (.obj [] (diskP D))):
  liftR ODo [.ptr m 0 0,edtA x] B (vi (doD D n v o x).2) ((B.set m (manB b (doM D n v o x).1 (doM D n v o x).2.1 (doM D n v o x).2.2)).set b (.obj [] (diskP (doD D n v o x).1))):=
 lift_man (R:=ODo) (al:= [edtA x]) ⟨n,v,o,D,x,ok,hn,hx,rfl,rfl,rfl,rfl⟩ hm hb (fun _ _=>rfl) rfl (fun _ _=>rfl) rfl
theorem oVer {Φ:ObjP} (hv:v.files.length≤1000000000) (hm:B[m]? = some (manB b n v o)) (hb:B[b]? = some (.obj [] Φ)):liftR OVer [.ptr m 0 0] B (versA v) B:=
 lift_man0 (R:=OVer) (al:= []) ⟨n,v,o,Φ,hv,rfl,rfl,rfl,rfl⟩ hm hb (fun _ _=>rfl) rfl (fun _ _=>rfl) rfl
theorem oNumb {Φ:ObjP} (hm:B[m]? = some (manB b n v o)) (hb:B[b]? = some (.obj [] Φ)):liftR ONumb [.ptr m 0 0] B (vi n) B:=
 lift_man0 (R:=ONumb) (al:= []) ⟨n,v,o,Φ,rfl,rfl,rfl,rfl⟩ hm hb (fun _ _=>rfl) rfl (fun _ _=>rfl) rfl
end
end Go.Ax

namespace Go.Ax
open Go.Proofs Go.RowKit
set_option maxRecDepth 100000

noncomputable def Γ16:Env:=envP [(52,gMetaL),(68,gNameF)]
noncomputable def Δ16:REnv:=envR [(iNew,liftR ONew),(iLoad,liftR OLoad),(iDo,sealX (liftR ODo)),(iVer,liftR OVer),(iNumb,liftR ONumb)]

abbrev iHeadE:Nat:=29
noncomputable abbrev nHeadE:Func:=Tryd.f29
theorem hfHeadE:DP.funcs[iHeadE]? = some nHeadE:=by kernel_rfl
theorem heHeadE:enters DP iHeadE=true:=by kernel_rfl
theorem hbHeadE:nHeadE.body.isSome=true:=by kernel_rfl
noncomputable def THeadE (D0:Dsk) (D1:Dsk) (v1:Vers):Tree:=
.callr (some 7) (Δ16 15 [vi 1000] [] (.op 0) [.obj [] (diskP D0)]) (.op 0) [.obj [] (diskP D0)] (.callr (some 10) (Δ16 43 [.op 0] [.obj [] (diskP D0)] (.tup [.ptr 1 0 0,vi 0]) [.obj [] (diskP D0),manB 0 0 firstV false]) (.tup [.ptr 1 0 0,vi 0]) [.obj [] (diskP D0),manB 0 0 firstV false] (.callr (some 21) (Δ16 46 [.ptr 1 0 0] [.obj [] (diskP D0),manB 0 0 firstV false] (vi 0) [.obj [] (diskP D0),manB 0 0 firstV false]) (vi 0) [.obj [] (diskP D0),manB 0 0 firstV false] (.callr (some 26) (Δ16 45 [.ptr 1 0 0] [.obj [] (diskP D0),manB 0 0 firstV false] (.agg [vl (firstV.files.map metaE.f),vi firstV.log,vi firstV.next,vn .u64 firstV.seq]) [.obj [] (diskP D0),manB 0 0 firstV false]) (.agg [vl (firstV.files.map metaE.f),vi firstV.log,vi firstV.next,vn .u64 firstV.seq]) [.obj [] (diskP D0),manB 0 0 firstV false] (.sp 28 (firstV.next != (1:Int)) (
.leaf ⟨[0],[]⟩ [] .ret (some ([(0,vb false)],[]))) (
.call 31 (gMetaL [vi 1]=some (.agg [vi 1,vi 0,vs (⟨#[97]⟩),vs (⟨#[98]⟩),vi 5])) (.agg [vi 1,vi 0,vs (⟨#[97]⟩),vs (⟨#[98]⟩),vi 5]) (.callr (some 34) (Δ16 44 [.ptr 1 0 0, .agg [.rs 2 0 5 0 1,nilS,vi 0,vi 2,vn .u64 0]] [.obj [] (diskP D0),manB 0 0 firstV false, .cells true 0 ([vi 1,vi 0,vs (⟨#[97]⟩),vs (⟨#[98]⟩),vi 5])] (vi 0) [.obj [] (diskP D1),manB 0 1 v1 true, .dead]) (vi 0) [.obj [] (diskP D1),manB 0 1 v1 true, .dead] (.callr (some 37) (Δ16 43 [.op 0] [.obj [] (diskP D1),manB 0 1 v1 true, .dead] (.tup [.ptr 3 0 0,vi 0]) [.obj [] (diskP D1),manB 0 1 v1 true, .dead,manB 0 1 v1 false]) (.tup [.ptr 3 0 0,vi 0]) [.obj [] (diskP D1),manB 0 1 v1 true, .dead,manB 0 1 v1 false] (.callr (some 48) (Δ16 46 [.ptr 1 0 0] [.obj [] (diskP D1),manB 0 1 v1 true, .dead,manB 0 1 v1 false] (vi 1) [.obj [] (diskP D1),manB 0 1 v1 true, .dead,manB 0 1 v1 false]) (vi 1) [.obj [] (diskP D1),manB 0 1 v1 true, .dead,manB 0 1 v1 false] (.callr (some 53) (Δ16 46 [.ptr 3 0 0] [.obj [] (diskP D1),manB 0 1 v1 true, .dead,manB 0 1 v1 false] (vi 1) [.obj [] (diskP D1),manB 0 1 v1 true, .dead,manB 0 1 v1 false]) (vi 1) [.obj [] (diskP D1),manB 0 1 v1 true, .dead,manB 0 1 v1 false] (.callr (some 58) (Δ16 45 [.ptr 3 0 0] [.obj [] (diskP D1),manB 0 1 v1 true, .dead,manB 0 1 v1 false] (.agg [vl (v1.files.map metaE.f),vi v1.log,vi v1.next,vn .u64 v1.seq]) [.obj [] (diskP D1),manB 0 1 v1 true, .dead,manB 0 1 v1 false]) (.agg [vl (v1.files.map metaE.f),vi v1.log,vi v1.next,vn .u64 v1.seq]) [.obj [] (diskP D1),manB 0 1 v1 true, .dead,manB 0 1 v1 false] (.int 60 ((v1.files.map metaE.f).length:Int) (v1.files.length:Int) (.sp 61 ((v1.files.length:Int) == (1:Int)) (
.call 64 (gNameF [vi 3]=some (vs (filN 3))) (vs (filN 3)) (.leaf ⟨[0],[]⟩ [] .ret (some ([(0,vb ((filN 3).toList == (⟨#[102,105,108,101,46,51]⟩:ByteArray).toList))],[])))) (
.leaf ⟨[0],[]⟩ [] .ret (some ([(0,vb false)],[])))))))))))))))

theorem THeadE_chk (D0:Dsk) (D1:Dsk) (v1:Vers):fnC DP Γ16 Δ16 Tryd.f29 [] [] (THeadE D0 D1 v1)=THeadE D0 D1 v1:=by kernel_rfl

end Go.Ax

namespace Go.Ax
open Go.Proofs Go.RowKit
set_option maxRecDepth 100000

theorem Γ16_ok:∀ f,SoundF DP f (Γ16 f):=envP_cons SMetaL (envP_cons SNameF envP_nil)
theorem Δ16_ok:∀ f,SoundR DP f (Δ16 f):=envR_cons (lift_sound SNew)<|envR_cons (lift_sound SLoad)<|envR_cons (SoundR.shutX (lift_sound SDo))<|envR_cons (lift_sound SVer)<|envR_cons (lift_sound SNumb) envR_nil

theorem filN_3:filN 3=(⟨#[102,105,108,101,46,51]⟩:ByteArray):=by
 apply ByteArray.ext
 apply Array.toList_inj.mp
 rw[filN_list (by decide),dec_lt (by decide)]
 rfl
def meta1:Meta:=⟨1,0,⟨#[97]⟩,⟨#[98]⟩,5⟩
def edit1:Edt:=⟨[meta1],[],0,2,0⟩
def vers1:Vers:=⟨[meta1],1,2,0⟩
theorem meta1_ok:meta1.ok=true:=by
 simp[Meta.ok,meta1,ByteArray.toList_eq]
 decide
theorem right1:Right vers1:=right_one meta1_ok (by decide) (by decide) (by decide) (by decide)
theorem apply1:applyL firstV edit1=(vers1,0):=by
 have e4:byNum (leftL [] []++ [meta1])= [meta1]:=byNum_id (L:= [meta1]) (by simp) (fun x hx=>by rw[List.mem_singleton.1 hx]; decide) (List.pairwise_singleton _ _)
 have ew:applyW firstV edit1=vers1:=by
  show (⟨byNum (leftL [] []++ [meta1]),newI 0 1,newI 2 1,newI 0 0⟩:Vers)=vers1
  rw[e4]; rfl
 unfold applyL
 rw[if_neg,ew,if_pos (of_right right1)]
 rintro (h1 | h1 | h1 | h1)
 ·exact h1 rfl
 ·exact absurd h1 (by decide)
 ·exact absurd h1 (by decide)
 ·exact absurd h1 (by decide)
theorem enc1_len:(encI (allE vers1)).length≤200:=by
 have p:∀ n:Int,0≤n∧n<18446744073709551616→(putI n).length≤10:=fun n h=>putI_len n h
 have e:encI (allE vers1)=putI 1++putI 2++putI 0++putI 0++ []++putI 1++(putI 1++putI 0++putI 5++(putI 1++ [97])++(putI 1++ [98])):=by
  simp[encI,headE,allE,vers1,delI,addI,metaI,txtI,meta1,mxI]
  rfl
 rw[e]
 have p0:=p 0 (by decide)
 have p1:=p 1 (by decide)
 have p2:=p 2 (by decide)
 have p5:=p 5 (by decide)
 simp only[List.length_append,List.length_cons,List.length_nil]
 omega
theorem load_new {m:Int}:loadD (newD m)=(0,0,firstV):=by
 unfold loadD
 rw[cont_sizeN live_new (cont_new _ _),if_pos rfl]
theorem do1 {D:Dsk} (h:Live D) (hr:300≤D.room - D.used):
  DoOk firstV false edit1∧(doD D 0 firstV false edit1).2=0∧doM D 0 firstV false edit1=(1,vers1,true)∧Live (doD D 0 firstV false edit1).1∧loadD (doD D 0 firstV false edit1).1=(0,1,vers1):=by
 have hn:=right_num right1 (by decide)
 have he1:=enc1_len
 have hf1:(recB (encI (allE vers1))).length=(encI (allE vers1)).length+12:=recB_len _
 have hp:=putI_len 1 (by decide)
 have hf2:(recB (putI 1)).length=(putI 1).length+12:=recB_len _
 obtain ⟨f1,f2,f3,f4,f5⟩:=fresh_live h (n:=0) (w:=vers1) (by decide) (by show ((recB (encI (allE vers1))).length:Int)+(recB (putI 1)).length≤_; omega)
 have ed:doD D 0 firstV false edit1=freshD D 0 vers1:=by
  unfold doD
  rw[apply1,if_neg (by decide),if_neg (by rw[h.up]; decide),if_pos rfl]
 have em:doM D 0 firstV false edit1=(1,vers1,true):=by
  unfold doM
  rw[apply1,if_neg (by decide),if_neg (by rw[h.up]; decide),if_pos rfl]
  unfold freshM
  rw[if_pos f1]
  rfl
 refine ⟨⟨⟨by decide,by decide,by decide⟩,fun _=>by rw[apply1]; decide,fun _ _=>by rw[apply1]; exact ⟨hn.enc,by show (encI (allE vers1)).length≤_; omega⟩,fun _ ho=>by cases ho⟩,by rw[ed]; exact f1,em,by rw[ed]; exact f2,?_⟩
 rw[ed]
 refine load_of f2 (by decide) (by rw[f3,if_pos rfl]; rfl) (c:=recB (encI (allE vers1))) (by rw[f3,if_neg (manN_nn (by decide)).symm,if_neg (manN_ne (by decide)).symm]; exact if_pos rfl) (ts:= [encI (allE vers1)]) (z:=((recB (encI (allE vers1))).length:Int)) ?_ (by simp) (replay_all right1 (by decide))
 have:=allI_recs (ds:= [encI (allE vers1)]) (fun d hd=>by rw[List.mem_singleton.1 hd]; omega)
 simpa using this

theorem seal_edt {B:List Box} {k v:Nat} {L:List Meta} {a b c:PV} (hk:B[k]? = some (metaE.bx v L)):Sealed (fun j=>j=k) B (.agg [.rs k v 5 0 L.length,nilS, .p a, .p b, .p c]) (.agg [vl (L.map metaE.f),vl [], .p a, .p b, .p c]):=by
 refine .agg _ _ rfl fun j c d hc hd=>?_
 match j with
 | 0=>cases hc; cases hd; exact metaE.elt.sealed rfl hk
 | 1=>cases hc; cases hd; exact .nil
 | 2=>cases hc; cases hd; exact .p _
 | 3=>cases hc; cases hd; exact .p _
 | 4=>cases hc; cases hd; exact .p _
 | j+5=>simp at hc
theorem oDoX {B:List Box} {b m k ve:Nat} {D:Dsk} {n:Int} {v:Vers} {o:Bool} {L:List Meta} {lg nx sq:Int} (ok:D.Ok) (hn:0≤n∧n≤1073741824) (hx:DoOk v o ⟨L,[],lg,nx,sq⟩) (hm:B[m]? = some (manB b n v o)) (hb:B[b]? = some (.obj [] (diskP D))) (hk:B[k]? = some (metaE.bx ve L)) (h1:k≠m) (h2:k≠b):
  sealX (liftR ODo) [.ptr m 0 0, .agg [.rs k ve 5 0 L.length,nilS,vi lg,vi nx,vn .u64 sq]] B (vi (doD D n v o ⟨L,[],lg,nx,sq⟩).2) (((B.set k .dead).set m (manB b (doM D n v o ⟨L,[],lg,nx,sq⟩).1 (doM D n v o ⟨L,[],lg,nx,sq⟩).2.1 (doM D n v o ⟨L,[],lg,nx,sq⟩).2.2)).set b (.obj [] (diskP (doD D n v o ⟨L,[],lg,nx,sq⟩).1))):=
 ⟨1,k,_,_,seal_edt hk,rfl,oDo (x:=⟨L,[],lg,nx,sq⟩) ok hn hx (by rw[List.getElem?_set_ne h1]; exact hm) (by rw[List.getElem?_set_ne h2]; exact hb)⟩

def RHeadE:List AV→AV→Prop:=fun args r=>args= []∧r=vb true
noncomputable def gHeadE:=relG RHeadE
theorem gHeadE_eq:gHeadE []=some (vb true):=relG_eq (fun _ _ _ h1 h2=>h1.2.trans h2.2.symm) ⟨rfl,rfl⟩
theorem SHeadE:SoundF DP iHeadE (.pure gHeadE):=sound_pureT mixedD Γ16_ok Δ16_ok hfHeadE heHeadE hbHeadE (by
 rintro args r ⟨rfl,rfl⟩
 have hl:Live (newD 1000):=live_new
 obtain ⟨d1,d2,d3,d4,d5⟩:=do1 hl (by decide)
 have hload:=load_new (m:=1000)
 refine ⟨rfl,rfl,_,THeadE_chk (newD 1000) (doD (newD 1000) 0 firstV false edit1).1 vers1,?_⟩
 have cl:=fun (B:List Box) (hb:B[0]? = some (dkB (newD 1000)))=>oLoad (b:=0) hl.ok (by rw[hload]) hb
 have cl2:=fun (B:List Box) (hb:B[0]? = some (dkB (doD (newD 1000) 0 firstV false edit1).1))=>oLoad (b:=0) d4.ok (by rw[d5]) hb
 rw[hload] at cl
 rw[d5] at cl2
 have cd:=fun (B:List Box) (hm:B[1]? = some (manB 0 0 firstV false)) (hb:B[0]? = some (dkB (newD 1000))) (hk:B[2]? = some (metaE.bx 0 [meta1]))=>oDoX (L:= [meta1]) (lg:=0) (nx:=2) (sq:=0) hl.ok (by decide) d1 hm hb hk (by decide) (by decide)
 change ∀ B,_→_→_→sealX (liftR ODo) [.ptr 1 0 0, .agg [.rs 2 0 5 0 [meta1].length,nilS,vi 0,vi 2,vn .u64 0]] B (vi (doD (newD 1000) 0 firstV false edit1).2) (((B.set 2 .dead).set 1 (manB 0 (doM (newD 1000) 0 firstV false edit1).1 (doM (newD 1000) 0 firstV false edit1).2.1 (doM (newD 1000) 0 firstV false edit1).2.2)).set 0 (.obj [] (diskP (doD (newD 1000) 0 firstV false edit1).1))) at cd
 rw[d2,d3] at cd
 unfold THeadE
 exact wp_callr (oNew 1000) (wp_callr (cl _ rfl) (wp_callr (oNumb (b:=0) rfl rfl) (wp_callr (oVer (b:=0) (by decide) rfl rfl) (wp_sp (fun h=>absurd h (by decide)) (fun _=>wp_call gMetaL_eq (wp_callr (cd _ rfl rfl rfl) (wp_callr (cl2 _ rfl)
  (wp_callr (oNumb (b:=0) rfl rfl) (wp_callr (oNumb (b:=0) rfl rfl) (wp_callr (oVer (b:=0) (by decide) rfl rfl) (wp_len (wp_sp (fun _=>wp_call (gNameF_eq (by decide)) (wp_leaf rfl (by rw[filN_3,beq_self_eq_true]; exact .p _))) (fun h=>absurd h (by decide)))))))))))))))
end Go.Ax

namespace Go.Ax
open Go.Proofs Go.RowKit
set_option maxRecDepth 100000

noncomputable def Γ17:Env:=envP [(29,gHeadE),(42,gDec),(41,gEnc)]

end Go.Ax

namespace Go.Ax
open Go.Proofs Go.RowKit
set_option maxRecDepth 100000

theorem Γ17_ok:∀ f,SoundF DP f (Γ17 f):=envP_cons SHeadE (envP_cons SDec (envP_cons SEnc envP_nil))
end Go.Ax

namespace Go.Ax
open Go.Proofs Go.RowKit
set_option maxRecDepth 100000

abbrev iNeg:Nat:=39
noncomputable abbrev nNeg:Func:=Tryd.f39
theorem hfNeg:DP.funcs[iNeg]? = some nNeg:=by kernel_rfl
theorem heNeg:enters DP iNeg=true:=by kernel_rfl
theorem hbNeg:nNeg.body.isSome=true:=by kernel_rfl
noncomputable def TNeg_j1_e (e:Edt) (j1:Bool):St:=([(1, .ptr 0 0 0),(3,vb j1)],[.cells false 0 ([vl (e.add.map metaE.f),vl (e.del.map intE.f),vi e.log,vi e.next,vn .u64 e.seq])])
noncomputable def TNeg_l2_e (e:Edt) (s2:Bool×Int):St:=([(1, .ptr 0 0 0),(3,vb s2.1),(44,vl (e.del.map intE.f)),(45,vi (e.del.length:Int)),(46,vi s2.2)],[.cells false 0 ([vl (e.add.map metaE.f),vl (e.del.map intE.f),vi e.log,vi e.next,vn .u64 e.seq])])
noncomputable def TNeg_l2_x (e:Edt) (x2:Bool):AE×St:=((.exit 0),([(1, .ptr 0 0 0),(3,vb x2)],[.cells false 0 ([vl (e.add.map metaE.f),vl (e.del.map intE.f),vi e.log,vi e.next,vn .u64 e.seq])]))
noncomputable def TNeg_l2_b (e:Edt) (s2:Bool×Int):Tree:=
.sp 47 (decide (s2.2<(e.del.length:Int))) (
.elem 48 (e.del.map intE.f) intE e.del s2.2 (fun e1=> .sp 50 s2.1 (
.int 59 (IntKind.i64.wrap (s2.2+1)) (s2.2+1) (.leaf ⟨[1,3,44,45,46],[(0,0,none)]⟩ [] .normal (some (TNeg_l2_e e (true,s2.2+1))))) (
.sp 53 (decide (e1<(0:Int))) (
.int 59 (IntKind.i64.wrap (s2.2+1)) (s2.2+1) (.leaf ⟨[1,3,44,45,46],[(0,0,none)]⟩ [] .normal (some (TNeg_l2_e e (true,s2.2+1))))) (
.sp 57 (decide (e1>(1073741824:Int))) (
.int 59 (IntKind.i64.wrap (s2.2+1)) (s2.2+1) (.leaf ⟨[1,3,44,45,46],[(0,0,none)]⟩ [] .normal (some (TNeg_l2_e e (true,s2.2+1))))) (
.int 59 (IntKind.i64.wrap (s2.2+1)) (s2.2+1) (.leaf ⟨[1,3,44,45,46],[(0,0,none)]⟩ [] .normal (some (TNeg_l2_e e (false,s2.2+1))))))))) (
.leaf ⟨[1,3],[(0,0,none)]⟩ [] (.exit 0) (some (TNeg_l2_x e s2.1).2))
noncomputable def TNeg_l3_e (e:Edt) (s3:Bool×Int):St:=([(3,vb s3.1),(61,vl (e.add.map metaE.f)),(62,vi (e.add.length:Int)),(63,vi s3.2)],[])
noncomputable def TNeg_l3_x (x3:Bool):AE×St:=((.exit 2),([(3,vb x3)],[]))
noncomputable def TNeg_l3_b (e:Edt) (s3:Bool×Int):Tree:=
.sp 64 (decide (s3.2<(e.add.length:Int))) (
.elem 65 (e.add.map metaE.f) metaE e.add s3.2 (fun e2=> .sp 67 s3.1 (
.int 110 (IntKind.i64.wrap (s3.2+1)) (s3.2+1) (.leaf ⟨[3,61,62,63],[]⟩ [] .normal (some (TNeg_l3_e e (true,s3.2+1))))) (
.sp 71 (decide (e2.num<(0:Int))) (
.int 110 (IntKind.i64.wrap (s3.2+1)) (s3.2+1) (.leaf ⟨[3,61,62,63],[]⟩ [] .normal (some (TNeg_l3_e e (true,s3.2+1))))) (
.sp 76 (decide (e2.num>(1073741824:Int))) (
.int 110 (IntKind.i64.wrap (s3.2+1)) (s3.2+1) (.leaf ⟨[3,61,62,63],[]⟩ [] .normal (some (TNeg_l3_e e (true,s3.2+1))))) (
.sp 81 (decide (e2.level<(0:Int))) (
.int 110 (IntKind.i64.wrap (s3.2+1)) (s3.2+1) (.leaf ⟨[3,61,62,63],[]⟩ [] .normal (some (TNeg_l3_e e (true,s3.2+1))))) (
.sp 86 (decide (e2.level>(5:Int))) (
.int 110 (IntKind.i64.wrap (s3.2+1)) (s3.2+1) (.leaf ⟨[3,61,62,63],[]⟩ [] .normal (some (TNeg_l3_e e (true,s3.2+1))))) (
.sp 91 (decide (e2.size<(0:Int))) (
.int 110 (IntKind.i64.wrap (s3.2+1)) (s3.2+1) (.leaf ⟨[3,61,62,63],[]⟩ [] .normal (some (TNeg_l3_e e (true,s3.2+1))))) (
.sp 96 (decide (e2.size>(67108864:Int))) (
.int 110 (IntKind.i64.wrap (s3.2+1)) (s3.2+1) (.leaf ⟨[3,61,62,63],[]⟩ [] .normal (some (TNeg_l3_e e (true,s3.2+1))))) (
.sp 102 (decide ((e2.low.size:Int)>(128:Int))) (
.int 110 (IntKind.i64.wrap (s3.2+1)) (s3.2+1) (.leaf ⟨[3,61,62,63],[]⟩ [] .normal (some (TNeg_l3_e e (true,s3.2+1))))) (
.sp 108 (decide ((e2.high.size:Int)>(128:Int))) (
.int 110 (IntKind.i64.wrap (s3.2+1)) (s3.2+1) (.leaf ⟨[3,61,62,63],[]⟩ [] .normal (some (TNeg_l3_e e (true,s3.2+1))))) (
.int 110 (IntKind.i64.wrap (s3.2+1)) (s3.2+1) (.leaf ⟨[3,61,62,63],[]⟩ [] .normal (some (TNeg_l3_e e (false,s3.2+1))))))))))))))) (
.leaf ⟨[3],[]⟩ [] (.exit 2) (some (TNeg_l3_x s3.1).2))
noncomputable def TNeg_j1 (e:Edt) (j1:Bool):Tree:=
.int 45 ((e.del.map intE.f).length:Int) (e.del.length:Int) (.loop ⟨[1,3,44,45,46],[(0,0,none)]⟩ [] (some (TNeg_l2_e e (j1,0))) (TNeg_l2_e e) (TNeg_l2_x e) noX (j1,0) (TNeg_l2_b e) (fun (x2:Bool)=> .int 62 ((e.add.map metaE.f).length:Int) (e.add.length:Int) (.loop ⟨[3,61,62,63],[]⟩ [] (some (TNeg_l3_e e (x2,0))) (TNeg_l3_e e) (TNeg_l3_x) noX (x2,0) (TNeg_l3_b e) (fun (x3:Bool)=> .leaf ⟨[0],[]⟩ [] .ret (some ([(0,vb x3)],[]))) (fun _=> .stuck))) (fun _=> .stuck))
noncomputable def TNeg (e:Edt):Tree:=
.sp 10 (decide (e.log<(0:Int))) (
.join ⟨[1,3],[(0,0,none)]⟩ [] (some (TNeg_j1_e e true)) (TNeg_j1_e e) true (TNeg_j1 e)) (
.sp 14 (decide (e.log>(1073741824:Int))) (
.join ⟨[1,3],[(0,0,none)]⟩ [] (some (TNeg_j1_e e true)) (TNeg_j1_e e) true (TNeg_j1 e)) (
.sp 19 (decide (e.next<(0:Int))) (
.join ⟨[1,3],[(0,0,none)]⟩ [] (some (TNeg_j1_e e true)) (TNeg_j1_e e) true (TNeg_j1 e)) (
.sp 24 (decide (e.next>(1073741824:Int))) (
.join ⟨[1,3],[(0,0,none)]⟩ [] (some (TNeg_j1_e e true)) (TNeg_j1_e e) true (TNeg_j1 e)) (
.sp 29 (decide (e.seq≥(72057594037927936:Int))) (
.join ⟨[1,3],[(0,0,none)]⟩ [] (some (TNeg_j1_e e true)) (TNeg_j1_e e) true (TNeg_j1 e)) (
.int 34 ((e.add.map metaE.f).length:Int) (e.add.length:Int) (.sp 35 (decide ((e.add.length:Int)>(20:Int))) (
.join ⟨[1,3],[(0,0,none)]⟩ [] (some (TNeg_j1_e e true)) (TNeg_j1_e e) true (TNeg_j1 e)) (
.int 40 ((e.del.map intE.f).length:Int) (e.del.length:Int) (.sp 41 (decide ((e.del.length:Int)>(20:Int))) (
.join ⟨[1,3],[(0,0,none)]⟩ [] (some (TNeg_j1_e e true)) (TNeg_j1_e e) true (TNeg_j1 e)) (
.join ⟨[1,3],[(0,0,none)]⟩ [] (some (TNeg_j1_e e false)) (TNeg_j1_e e) false (TNeg_j1 e))))))))))

theorem TNeg_chk (e:Edt):fnC DP Γ17 Δ0 Tryd.f39 [.agg [vl (e.add.map metaE.f),vl (e.del.map intE.f),vi e.log,vi e.next,vn .u64 e.seq]] [] (TNeg e)=TNeg e:=by kernel_rfl

end Go.Ax

namespace Go.Ax
open Go.Proofs Go.RowKit
set_option maxRecDepth 100000

def dNeg (n:Int):Bool:=decide (n<0)||decide (n>1073741824)
def mB (m:Meta):Bool:=decide (m.num<0)||(decide (m.num>1073741824)||(decide (m.level<0)||(decide (m.level>5)||(decide (m.size<0)||(decide (m.size>67108864)||(decide ((m.low.size:Int)>128)||decide ((m.high.size:Int)>128)))))))
def negH (e:Edt):Bool:=decide (e.log<0)||(decide (e.log>1073741824)||(decide (e.next<0)||(decide (e.next>1073741824)||(decide (e.seq≥72057594037927936)||(decide ((e.add.length:Int)>20)||decide ((e.del.length:Int)>20))))))
def negB (e:Edt):Bool:=e.add.foldl (fun b m=>b||mB m) (e.del.foldl (fun b n=>b||dNeg n) (negH e))
theorem foldl_or {α:Type} (f:α→Bool):∀ (L:List α) (b:Bool),L.foldl (fun b x=>b||f x) b=false→b=false∧∀ x∈L,f x=false
 | [],b,h=>⟨h,fun x hx=>by simp at hx⟩
 | x::L,b,h=>by
  obtain ⟨h1,h2⟩:=foldl_or f L _ h
  rw[Bool.or_eq_false_iff] at h1
  exact ⟨h1.1,fun y hy=>by
   rcases List.mem_cons.1 hy with rfl | hy
   ·exact h1.2
   ·exact h2 y hy⟩
theorem neg_num {e:Edt} (h:negB e=false) (hs:0≤e.seq):NumOk e∧e.add.length≤20∧e.del.length≤20:=by
 obtain ⟨h1,h2⟩:=foldl_or mB _ _ h
 obtain ⟨h3,h4⟩:=foldl_or dNeg _ _ h1
 unfold negH at h3
 simp only[Bool.or_eq_false_iff,decide_eq_false_iff_not] at h3
 refine ⟨⟨by omega,by omega,by omega,fun n hn=>?_,fun m hm=>?_,by omega,by omega⟩,by omega,by omega⟩
 ·have:=h4 n hn
  unfold dNeg at this
  simp only[Bool.or_eq_false_iff,decide_eq_false_iff_not] at this
  omega
 ·have:=h2 m hm
  unfold mB at this
  simp only[Bool.or_eq_false_iff,decide_eq_false_iff_not] at this
  omega
section
variable {e : Edt}
theorem neg_del (hl:e.del.length≤9223372036854775807):∀ (j i:Nat) (b:Bool),i+j=e.del.length→Rounds (TNeg_l2_e e) (TNeg_l2_x e) noX (fun s=>(TNeg_l2_b e s).wp) (b,(i:Int)) (.inl ((e.del.drop i).foldl (fun b n=>b||dNeg n) b)):=by
 intro j
 induction j with
 | zero=>
  intro i b hi
  rw[List.drop_of_length_le (by omega)]
  refine .done (by intro e; cases e) ?_
  unfold TNeg_l2_b
  exact wp_sp (fun h'=>absurd (of_decide_eq_true h') (by simp only; omega)) (fun _=>wp_leaf rfl ⟨rfl,rfl⟩)
 | succ j ih=>
  intro i b hi
  have hlt:i<e.del.length:=by omega
  rw[List.drop_eq_getElem_cons hlt,List.foldl_cons]
  have ha:e.del[i]? = some e.del[i]:=List.getElem?_eq_getElem hlt
  generalize e.del[i]=a at ha ⊢
  have hr:=ih (i+1) (b||dNeg a) (by omega)
  rw[show ((i+1:Nat):Int)=(i:Int)+1 by omega] at hr
  refine .next ?_ hr
  unfold TNeg_l2_b
  refine wp_sp (fun _=>wp_elem a (by simp only; omega) ha (wp_sp (fun h1=>wp_i64 (by simp only; omega) (wp_leaf rfl ⟨rfl,?_⟩)) (fun h1=>wp_sp (fun h2=>wp_i64 (by simp only; omega) (wp_leaf rfl ⟨rfl,?_⟩)) (fun h2=>wp_sp (fun h3=>wp_i64 (by simp only; omega) (wp_leaf rfl ⟨rfl,?_⟩)) (fun h3=>wp_i64 (by simp only; omega) (wp_leaf rfl ⟨rfl,?_⟩)))))) (fun h'=>absurd (of_decide_eq_false h') (by simp only; omega))
  ·rw[show b=true from h1,Bool.true_or]
  ·rw[show b=false from h1,dNeg,h2]; rfl
  ·rw[show b=false from h1,dNeg,h2,h3]; rfl
  ·rw[show b=false from h1,dNeg,h2,h3]; rfl
theorem neg_add (hl:e.add.length≤9223372036854775807):∀ (j i:Nat) (b:Bool),i+j=e.add.length→Rounds (TNeg_l3_e e) TNeg_l3_x noX (fun s=>(TNeg_l3_b e s).wp) (b,(i:Int)) (.inl ((e.add.drop i).foldl (fun b m=>b||mB m) b)):=by
 intro j
 induction j with
 | zero=>
  intro i b hi
  rw[List.drop_of_length_le (by omega)]
  refine .done (by intro e; cases e) ?_
  unfold TNeg_l3_b
  exact wp_sp (fun h'=>absurd (of_decide_eq_true h') (by simp only; omega)) (fun _=>wp_leaf rfl ⟨rfl,rfl⟩)
 | succ j ih=>
  intro i b hi
  have hlt:i<e.add.length:=by omega
  rw[List.drop_eq_getElem_cons hlt,List.foldl_cons]
  have ha:e.add[i]? = some e.add[i]:=List.getElem?_eq_getElem hlt
  generalize e.add[i]=a at ha ⊢
  have hr:=ih (i+1) (b||mB a) (by omega)
  rw[show ((i+1:Nat):Int)=(i:Int)+1 by omega] at hr
  have yes:∀ {b':Bool},b'=(b||mB a)→(Tree.int 110 (IntKind.i64.wrap ((i:Int)+1)) ((i:Int)+1) (.leaf ⟨[3,61,62,63],[]⟩ [] .normal (some (TNeg_l3_e e (b',(i:Int)+1))))).wp (fun x c=>x= .normal∧c=TNeg_l3_e e ((b||mB a),(i:Int)+1)):=fun h=>by
   subst h
   exact wp_i64 (by omega) (wp_leaf rfl ⟨rfl,rfl⟩)
  refine .next ?_ hr
  unfold TNeg_l3_b
  refine wp_sp (fun _=>wp_elem a (by simp only; omega) ha ?_) (fun h'=>absurd (of_decide_eq_false h') (by simp only; omega))
  refine wp_sp (fun h0=>yes (by rw[show b=true from h0]; rfl)) (fun h0=>?_)
  have hb:b=false:=h0
  refine wp_sp (fun h1=>yes (by rw[hb,mB,h1]; rfl)) (fun h1=>?_)
  refine wp_sp (fun h2=>yes (by rw[hb,mB,h1,h2]; rfl)) (fun h2=>?_)
  refine wp_sp (fun h3=>yes (by rw[hb,mB,h1,h2,h3]; rfl)) (fun h3=>?_)
  refine wp_sp (fun h4=>yes (by rw[hb,mB,h1,h2,h3,h4]; rfl)) (fun h4=>?_)
  refine wp_sp (fun h5=>yes (by rw[hb,mB,h1,h2,h3,h4,h5]; rfl)) (fun h5=>?_)
  refine wp_sp (fun h6=>yes (by rw[hb,mB,h1,h2,h3,h4,h5,h6]; rfl)) (fun h6=>?_)
  refine wp_sp (fun h7=>yes (by rw[hb,mB,h1,h2,h3,h4,h5,h6,h7]; rfl)) (fun h7=>?_)
  exact wp_sp (fun h8=>yes (by rw[hb,mB,h1,h2,h3,h4,h5,h6,h7,h8]; rfl)) (fun h8=>yes (by rw[hb,mB,h1,h2,h3,h4,h5,h6,h7,h8]; rfl))
end
def RNeg:List AV→AV→Prop:=fun args r=>∃ e:Edt,e.add.length≤9223372036854775807∧e.del.length≤9223372036854775807∧args= [edtA e]∧r=vb (negB e)
noncomputable def gNeg:=relG RNeg
theorem gNeg_eq {e:Edt} (h1:e.add.length≤9223372036854775807) (h2:e.del.length≤9223372036854775807):gNeg [edtA e]=some (vb (negB e)):=relG_eq (by
 rintro args r r' ⟨x,_,_,h1,rfl⟩ ⟨y,_,_,h2,rfl⟩
 rw[edt_inj (one_arg (h1.symm.trans h2))]) ⟨e,h1,h2,rfl,rfl⟩
theorem SNeg:SoundF DP iNeg (.pure gNeg):=sound_pureT mixedD Γ17_ok Δ0_ok hfNeg heNeg hbNeg (by
 rintro args r ⟨e,ha,hd,rfl,rfl⟩
 refine ⟨rfl,rfl,_,TNeg_chk e,?_⟩
 have fin:∀ b:Bool,b=negH e→(TNeg_j1 e b).wp (fun _ c=>Sealed (fun _=>True) c.2 (tk c.1 0) (vb (negB e))):=fun b hb=>by
  have h1:=neg_del (e:=e) hd e.del.length 0 b (by omega)
  have h2:=neg_add (e:=e) ha e.add.length 0 (e.del.foldl (fun b n=>b||dNeg n) b) (by omega)
  rw[List.drop_zero] at h1 h2
  unfold TNeg_j1
  refine wp_len (wp_loop _ rfl h1 (wp_len (wp_loop _ rfl h2 (wp_leaf rfl ?_))))
  subst hb
  exact .p _
 unfold TNeg
 refine wp_sp (fun h1=>wp_join rfl (fin _ (by rw[negH,h1]; rfl))) (fun h1=>?_)
 refine wp_sp (fun h2=>wp_join rfl (fin _ (by rw[negH,h1,h2]; rfl))) (fun h2=>?_)
 refine wp_sp (fun h3=>wp_join rfl (fin _ (by rw[negH,h1,h2,h3]; rfl))) (fun h3=>?_)
 refine wp_sp (fun h4=>wp_join rfl (fin _ (by rw[negH,h1,h2,h3,h4]; rfl))) (fun h4=>?_)
 refine wp_sp (fun h5=>wp_join rfl (fin _ (by rw[negH,h1,h2,h3,h4,h5]; rfl))) (fun h5=>?_)
 refine wp_len (wp_sp (fun h6=>wp_join rfl (fin _ (by rw[negH,h1,h2,h3,h4,h5,h6]; rfl))) (fun h6=>?_))
 exact wp_len (wp_sp (fun h7=>wp_join rfl (fin _ (by rw[negH,h1,h2,h3,h4,h5,h6,h7]; rfl))) (fun h7=>wp_join rfl (fin _ (by rw[negH,h1,h2,h3,h4,h5,h6,h7]; rfl)))))
end Go.Ax
