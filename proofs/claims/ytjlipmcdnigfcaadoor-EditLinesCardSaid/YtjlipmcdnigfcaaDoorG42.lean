/- The document's example of edit holds. -/
import Derived.Test.YtjlipmcdnigfcaaDoorG41
import Derived.Test.YtjlipmcdnigfcaaDoorG26
import Derived.Test.YtjlipmcdnigfcaaDoorTie
import Derived.Test.YtjlipmcdnigfcaaDoorG10
import Derived.OpenShut
import Derived.WalkKit
import Derived.ProofKit
import Derived.LaidMore
import Derived.LaidLaws
import Derived.LaidHandle
import Derived.Lib.LaidTab
import Derived.Stop.Joined
import Derived.Test.YtjlipmcdnigfcaaDoorG36
set_option linter.unusedVariables false
set_option linter.unusedSimpArgs false
set_option linter.unusedSectionVars false
namespace Go.Ax
open Go.Proofs Go.RowKit
set_option maxRecDepth 100000

theorem Γ16_ok:∀ f,SoundF DP f (Γ16 f):=envP_cons SMetaL (envP_cons SNameF envP_nil)
theorem Δ16_ok:∀ f,SoundR DP f (Δ16 f):=envR_cons (lift_sound SNew)<|envR_cons (lift_sound SLoad)<|envR_cons (SoundR.shutX (lift_sound SDo))<|envR_cons (lift_sound SVer)<|envR_cons (lift_sound SNumb) envR_nil

theorem filN_3:filN 3=(⟨#[102,105,108,101,46,51]⟩:ByteArray):=by
 apply ByteArray.ext
 apply Array.toList_inj.mp
 rw[filN_list (by decide),dec_lt (by decide)]
 rfl
def meta1:Meta:=⟨1,0,⟨#[97]⟩,⟨#[98]⟩,5⟩
def edit1:Edt:=⟨[meta1],[],0,2,0⟩
def vers1:Vers:=⟨[meta1],1,2,0⟩
theorem meta1_ok:meta1.ok=true:=by
 simp[Meta.ok,meta1,ByteArray.toList_eq]
 decide
theorem right1:Right vers1:=right_one meta1_ok (by decide) (by decide) (by decide) (by decide)
theorem apply1:applyL firstV edit1=(vers1,0):=by
 have e4:byNum (leftL [] []++ [meta1])= [meta1]:=byNum_id (L:= [meta1]) (by simp) (fun x hx=>by rw[List.mem_singleton.1 hx]; decide) (List.pairwise_singleton _ _)
 have ew:applyW firstV edit1=vers1:=by
  show (⟨byNum (leftL [] []++ [meta1]),newI 0 1,newI 2 1,newI 0 0⟩:Vers)=vers1
  rw[e4]; rfl
 unfold applyL
 rw[if_neg,ew,if_pos (of_right right1)]
 rintro (h1 | h1 | h1 | h1)
 ·exact h1 rfl
 ·exact absurd h1 (by decide)
 ·exact absurd h1 (by decide)
 ·exact absurd h1 (by decide)
theorem enc1_len:(encI (allE vers1)).length≤200:=by
 have p:∀ n:Int,0≤n∧n<18446744073709551616→(putI n).length≤10:=fun n h=>putI_len n h
 have e:encI (allE vers1)=putI 1++putI 2++putI 0++putI 0++ []++putI 1++(putI 1++putI 0++putI 5++(putI 1++ [97])++(putI 1++ [98])):=by
  simp[encI,headE,allE,vers1,delI,addI,metaI,txtI,meta1,mxI]
  rfl
 rw[e]
 have p0:=p 0 (by decide)
 have p1:=p 1 (by decide)
 have p2:=p 2 (by decide)
 have p5:=p 5 (by decide)
 simp only[List.length_append,List.length_cons,List.length_nil]
 omega
theorem load_new {m:Int}:loadD (newD m)=(0,0,firstV):=by
 unfold loadD
 rw[cont_sizeN live_new (cont_new _ _),if_pos rfl]
theorem do1g {D:Dsk} (h:Live D) (hr:((recB (encI (allE vers1))).length:Int)+(recB (putI 1)).length≤D.room - D.used):
  DoOk firstV false edit1∧(doD D 0 firstV false edit1).2=0∧doM D 0 firstV false edit1=(1,vers1,true)∧Live (doD D 0 firstV false edit1).1∧loadD (doD D 0 firstV false edit1).1=(0,1,vers1):=by
 have hn:=right_num right1 (by decide)
 have he1:=enc1_len
 have hf1:(recB (encI (allE vers1))).length=(encI (allE vers1)).length+12:=recB_len _
 have hp:=putI_len 1 (by decide)
 have hf2:(recB (putI 1)).length=(putI 1).length+12:=recB_len _
 obtain ⟨f1,f2,f3,f4,f5⟩:=fresh_live h (n:=0) (w:=vers1) (by decide) hr
 have ed:doD D 0 firstV false edit1=freshD D 0 vers1:=by
  unfold doD
  rw[apply1,if_neg (by decide),if_neg (by rw[h.up]; decide),if_pos rfl]
 have em:doM D 0 firstV false edit1=(1,vers1,true):=by
  unfold doM
  rw[apply1,if_neg (by decide),if_neg (by rw[h.up]; decide),if_pos rfl]
  unfold freshM
  rw[if_pos f1]
  rfl
 refine ⟨⟨⟨by decide,by decide,by decide⟩,fun _=>by rw[apply1]; decide,fun _ _=>by rw[apply1]; exact ⟨hn.enc,by show (encI (allE vers1)).length≤_; omega⟩,fun _ ho=>by cases ho⟩,by rw[ed]; exact f1,em,by rw[ed]; exact f2,?_⟩
 rw[ed]
 refine load_of f2 (by decide) (by rw[f3,if_pos rfl]; rfl) (c:=recB (encI (allE vers1))) (by rw[f3,if_neg (manN_nn (by decide)).symm,if_neg (manN_ne (by decide)).symm]; exact if_pos rfl) (ts:= [encI (allE vers1)]) (z:=((recB (encI (allE vers1))).length:Int)) ?_ (by simp) (replay_all right1 (by decide))
 have:=allI_recs (ds:= [encI (allE vers1)]) (fun d hd=>by rw[List.mem_singleton.1 hd]; omega)
 simpa using this

theorem do1 {D:Dsk} (h:Live D) (hr:300≤D.room - D.used):
  DoOk firstV false edit1∧(doD D 0 firstV false edit1).2=0∧doM D 0 firstV false edit1=(1,vers1,true)∧Live (doD D 0 firstV false edit1).1∧loadD (doD D 0 firstV false edit1).1=(0,1,vers1):=
 do1g h (by
  have he1:=enc1_len
  have hf1:(recB (encI (allE vers1))).length=(encI (allE vers1)).length+12:=recB_len _
  have hp:=putI_len 1 (by decide)
  have hf2:(recB (putI 1)).length=(putI 1).length+12:=recB_len _
  omega)
theorem seal_edt {B:List Box} {k v:Nat} {L:List Meta} {a b c:PV} (hk:B[k]? = some (metaE.bx v L)):Sealed (fun j=>j=k) B (.agg [.rs k v 5 0 L.length,nilS, .p a, .p b, .p c]) (.agg [vl (L.map metaE.f),vl [], .p a, .p b, .p c]):=by
 refine .agg _ _ rfl fun j c d hc hd=>?_
 match j with
 | 0=>cases hc; cases hd; exact metaE.elt.sealed rfl hk
 | 1=>cases hc; cases hd; exact .nil
 | 2=>cases hc; cases hd; exact .p _
 | 3=>cases hc; cases hd; exact .p _
 | 4=>cases hc; cases hd; exact .p _
 | j+5=>simp at hc
theorem oDoX {B:List Box} {b m k ve:Nat} {D:Dsk} {n:Int} {v:Vers} {o:Bool} {L:List Meta} {lg nx sq:Int} (ok:D.Ok) (hn:0≤n∧n≤1073741824) (hx:DoOk v o ⟨L,[],lg,nx,sq⟩) (hm:B[m]? = some (manB b n v o)) (hb:B[b]? = some (.obj [] (diskP D))) (hk:B[k]? = some (metaE.bx ve L)) (h1:k≠m) (h2:k≠b):
  sealX (liftR ODo) [.ptr m 0 0, .agg [.rs k ve 5 0 L.length,nilS,vi lg,vi nx,vn .u64 sq]] B (vi (doD D n v o ⟨L,[],lg,nx,sq⟩).2) (((B.set k .dead).set m (manB b (doM D n v o ⟨L,[],lg,nx,sq⟩).1 (doM D n v o ⟨L,[],lg,nx,sq⟩).2.1 (doM D n v o ⟨L,[],lg,nx,sq⟩).2.2)).set b (.obj [] (diskP (doD D n v o ⟨L,[],lg,nx,sq⟩).1))):=
 ⟨1,k,_,_,seal_edt hk,rfl,oDo (x:=⟨L,[],lg,nx,sq⟩) ok hn hx (by rw[List.getElem?_set_ne h1]; exact hm) (by rw[List.getElem?_set_ne h2]; exact hb)⟩

def RHeadE:List AV→AV→Prop:=fun args r=>args= []∧r=vb true
noncomputable def gHeadE:=relG RHeadE
theorem gHeadE_eq:gHeadE []=some (vb true):=relG_eq (fun _ _ _ h1 h2=>h1.2.trans h2.2.symm) ⟨rfl,rfl⟩
theorem SHeadE:SoundF DP iHeadE (.pure gHeadE):=sound_pureT mixedD Γ16_ok Δ16_ok hfHeadE heHeadE hbHeadE (by
 rintro args r ⟨rfl,rfl⟩
 have hl:Live (newD 1000):=live_new
 obtain ⟨d1,d2,d3,d4,d5⟩:=do1 hl (by decide)
 have hload:=load_new (m:=1000)
 refine ⟨rfl,rfl,_,THeadE_chk (newD 1000) (doD (newD 1000) 0 firstV false edit1).1 vers1,?_⟩
 have cl:=fun (B:List Box) (hb:B[0]? = some (dkB (newD 1000)))=>oLoad (b:=0) hl.ok (by rw[hload]) hb
 have cl2:=fun (B:List Box) (hb:B[0]? = some (dkB (doD (newD 1000) 0 firstV false edit1).1))=>oLoad (b:=0) d4.ok (by rw[d5]) hb
 rw[hload] at cl
 rw[d5] at cl2
 have cd:=fun (B:List Box) (hm:B[1]? = some (manB 0 0 firstV false)) (hb:B[0]? = some (dkB (newD 1000))) (hk:B[2]? = some (metaE.bx 0 [meta1]))=>oDoX (L:= [meta1]) (lg:=0) (nx:=2) (sq:=0) hl.ok (by decide) d1 hm hb hk (by decide) (by decide)
 change ∀ B,_→_→_→sealX (liftR ODo) [.ptr 1 0 0, .agg [.rs 2 0 5 0 [meta1].length,nilS,vi 0,vi 2,vn .u64 0]] B (vi (doD (newD 1000) 0 firstV false edit1).2) (((B.set 2 .dead).set 1 (manB 0 (doM (newD 1000) 0 firstV false edit1).1 (doM (newD 1000) 0 firstV false edit1).2.1 (doM (newD 1000) 0 firstV false edit1).2.2)).set 0 (.obj [] (diskP (doD (newD 1000) 0 firstV false edit1).1))) at cd
 rw[d2,d3] at cd
 unfold THeadE
 exact wp_callr (oNew 1000) (wp_callr (cl _ rfl) (wp_callr (oNumb (b:=0) rfl rfl) (wp_callr (oVer (b:=0) (by decide) rfl rfl) (wp_sp (fun h=>absurd h (by decide)) (fun _=>wp_call gMetaL_eq (wp_callr (cd _ rfl rfl rfl) (wp_callr (cl2 _ rfl)
  (wp_callr (oNumb (b:=0) rfl rfl) (wp_callr (oNumb (b:=0) rfl rfl) (wp_callr (oVer (b:=0) (by decide) rfl rfl) (wp_len (wp_sp (fun _=>wp_call (gNameF_eq (by decide)) (wp_leaf rfl (by rw[filN_3,beq_self_eq_true]; exact .p _))) (fun h=>absurd h (by decide)))))))))))))))
end Go.Ax

namespace Go.Ax
open Go.Proofs Go.RowKit
set_option maxRecDepth 100000

noncomputable def Γ17:Env:=envP [(29,gHeadE),(42,gDec),(41,gEnc)]

end Go.Ax

namespace Go.Ax
open Go.Proofs Go.RowKit
set_option maxRecDepth 100000

theorem Γ17_ok:∀ f,SoundF DP f (Γ17 f):=envP_cons SHeadE (envP_cons SDec (envP_cons SEnc envP_nil))
end Go.Ax

namespace Go.Ax
open Go.Proofs Go.RowKit
set_option maxRecDepth 100000

abbrev iNeg:Nat:=39
noncomputable abbrev nNeg:Func:=Tryd.f39
theorem hfNeg:DP.funcs[iNeg]? = some nNeg:=by kernel_rfl
theorem heNeg:enters DP iNeg=true:=by kernel_rfl
theorem hbNeg:nNeg.body.isSome=true:=by kernel_rfl
noncomputable def TNeg_j1_e (e:Edt) (j1:Bool):St:=([(1, .ptr 0 0 0),(3,vb j1)],[.cells false 0 ([vl (e.add.map metaE.f),vl (e.del.map intE.f),vi e.log,vi e.next,vn .u64 e.seq])])
noncomputable def TNeg_l2_e (e:Edt) (s2:Bool×Int):St:=([(1, .ptr 0 0 0),(3,vb s2.1),(44,vl (e.del.map intE.f)),(45,vi (e.del.length:Int)),(46,vi s2.2)],[.cells false 0 ([vl (e.add.map metaE.f),vl (e.del.map intE.f),vi e.log,vi e.next,vn .u64 e.seq])])
noncomputable def TNeg_l2_x (e:Edt) (x2:Bool):AE×St:=((.exit 0),([(1, .ptr 0 0 0),(3,vb x2)],[.cells false 0 ([vl (e.add.map metaE.f),vl (e.del.map intE.f),vi e.log,vi e.next,vn .u64 e.seq])]))
noncomputable def TNeg_l2_b (e:Edt) (s2:Bool×Int):Tree:=
.sp 47 (decide (s2.2<(e.del.length:Int))) (
.elem 48 (e.del.map intE.f) intE e.del s2.2 (fun e1=> .sp 50 s2.1 (
.int 59 (IntKind.i64.wrap (s2.2+1)) (s2.2+1) (.leaf ⟨[1,3,44,45,46],[(0,0,none)]⟩ [] .normal (some (TNeg_l2_e e (true,s2.2+1))))) (
.sp 53 (decide (e1<(0:Int))) (
.int 59 (IntKind.i64.wrap (s2.2+1)) (s2.2+1) (.leaf ⟨[1,3,44,45,46],[(0,0,none)]⟩ [] .normal (some (TNeg_l2_e e (true,s2.2+1))))) (
.sp 57 (decide (e1>(1073741824:Int))) (
.int 59 (IntKind.i64.wrap (s2.2+1)) (s2.2+1) (.leaf ⟨[1,3,44,45,46],[(0,0,none)]⟩ [] .normal (some (TNeg_l2_e e (true,s2.2+1))))) (
.int 59 (IntKind.i64.wrap (s2.2+1)) (s2.2+1) (.leaf ⟨[1,3,44,45,46],[(0,0,none)]⟩ [] .normal (some (TNeg_l2_e e (false,s2.2+1))))))))) (
.leaf ⟨[1,3],[(0,0,none)]⟩ [] (.exit 0) (some (TNeg_l2_x e s2.1).2))
noncomputable def TNeg_l3_e (e:Edt) (s3:Bool×Int):St:=([(3,vb s3.1),(61,vl (e.add.map metaE.f)),(62,vi (e.add.length:Int)),(63,vi s3.2)],[])
noncomputable def TNeg_l3_x (x3:Bool):AE×St:=((.exit 2),([(3,vb x3)],[]))
noncomputable def TNeg_l3_b (e:Edt) (s3:Bool×Int):Tree:=
.sp 64 (decide (s3.2<(e.add.length:Int))) (
.elem 65 (e.add.map metaE.f) metaE e.add s3.2 (fun e2=> .sp 67 s3.1 (
.int 110 (IntKind.i64.wrap (s3.2+1)) (s3.2+1) (.leaf ⟨[3,61,62,63],[]⟩ [] .normal (some (TNeg_l3_e e (true,s3.2+1))))) (
.sp 71 (decide (e2.num<(0:Int))) (
.int 110 (IntKind.i64.wrap (s3.2+1)) (s3.2+1) (.leaf ⟨[3,61,62,63],[]⟩ [] .normal (some (TNeg_l3_e e (true,s3.2+1))))) (
.sp 76 (decide (e2.num>(1073741824:Int))) (
.int 110 (IntKind.i64.wrap (s3.2+1)) (s3.2+1) (.leaf ⟨[3,61,62,63],[]⟩ [] .normal (some (TNeg_l3_e e (true,s3.2+1))))) (
.sp 81 (decide (e2.level<(0:Int))) (
.int 110 (IntKind.i64.wrap (s3.2+1)) (s3.2+1) (.leaf ⟨[3,61,62,63],[]⟩ [] .normal (some (TNeg_l3_e e (true,s3.2+1))))) (
.sp 86 (decide (e2.level>(5:Int))) (
.int 110 (IntKind.i64.wrap (s3.2+1)) (s3.2+1) (.leaf ⟨[3,61,62,63],[]⟩ [] .normal (some (TNeg_l3_e e (true,s3.2+1))))) (
.sp 91 (decide (e2.size<(0:Int))) (
.int 110 (IntKind.i64.wrap (s3.2+1)) (s3.2+1) (.leaf ⟨[3,61,62,63],[]⟩ [] .normal (some (TNeg_l3_e e (true,s3.2+1))))) (
.sp 96 (decide (e2.size>(67108864:Int))) (
.int 110 (IntKind.i64.wrap (s3.2+1)) (s3.2+1) (.leaf ⟨[3,61,62,63],[]⟩ [] .normal (some (TNeg_l3_e e (true,s3.2+1))))) (
.sp 102 (decide ((e2.low.size:Int)>(128:Int))) (
.int 110 (IntKind.i64.wrap (s3.2+1)) (s3.2+1) (.leaf ⟨[3,61,62,63],[]⟩ [] .normal (some (TNeg_l3_e e (true,s3.2+1))))) (
.sp 108 (decide ((e2.high.size:Int)>(128:Int))) (
.int 110 (IntKind.i64.wrap (s3.2+1)) (s3.2+1) (.leaf ⟨[3,61,62,63],[]⟩ [] .normal (some (TNeg_l3_e e (true,s3.2+1))))) (
.int 110 (IntKind.i64.wrap (s3.2+1)) (s3.2+1) (.leaf ⟨[3,61,62,63],[]⟩ [] .normal (some (TNeg_l3_e e (false,s3.2+1))))))))))))))) (
.leaf ⟨[3],[]⟩ [] (.exit 2) (some (TNeg_l3_x s3.1).2))
noncomputable def TNeg_j1 (e:Edt) (j1:Bool):Tree:=
.int 45 ((e.del.map intE.f).length:Int) (e.del.length:Int) (.loop ⟨[1,3,44,45,46],[(0,0,none)]⟩ [] (some (TNeg_l2_e e (j1,0))) (TNeg_l2_e e) (TNeg_l2_x e) noX (j1,0) (TNeg_l2_b e) (fun (x2:Bool)=> .int 62 ((e.add.map metaE.f).length:Int) (e.add.length:Int) (.loop ⟨[3,61,62,63],[]⟩ [] (some (TNeg_l3_e e (x2,0))) (TNeg_l3_e e) (TNeg_l3_x) noX (x2,0) (TNeg_l3_b e) (fun (x3:Bool)=> .leaf ⟨[0],[]⟩ [] .ret (some ([(0,vb x3)],[]))) (fun _=> .stuck))) (fun _=> .stuck))
noncomputable def TNeg (e:Edt):Tree:=
.sp 10 (decide (e.log<(0:Int))) (
.join ⟨[1,3],[(0,0,none)]⟩ [] (some (TNeg_j1_e e true)) (TNeg_j1_e e) true (TNeg_j1 e)) (
.sp 14 (decide (e.log>(1073741824:Int))) (
.join ⟨[1,3],[(0,0,none)]⟩ [] (some (TNeg_j1_e e true)) (TNeg_j1_e e) true (TNeg_j1 e)) (
.sp 19 (decide (e.next<(0:Int))) (
.join ⟨[1,3],[(0,0,none)]⟩ [] (some (TNeg_j1_e e true)) (TNeg_j1_e e) true (TNeg_j1 e)) (
.sp 24 (decide (e.next>(1073741824:Int))) (
.join ⟨[1,3],[(0,0,none)]⟩ [] (some (TNeg_j1_e e true)) (TNeg_j1_e e) true (TNeg_j1 e)) (
.sp 29 (decide (e.seq≥(72057594037927936:Int))) (
.join ⟨[1,3],[(0,0,none)]⟩ [] (some (TNeg_j1_e e true)) (TNeg_j1_e e) true (TNeg_j1 e)) (
.int 34 ((e.add.map metaE.f).length:Int) (e.add.length:Int) (.sp 35 (decide ((e.add.length:Int)>(20:Int))) (
.join ⟨[1,3],[(0,0,none)]⟩ [] (some (TNeg_j1_e e true)) (TNeg_j1_e e) true (TNeg_j1 e)) (
.int 40 ((e.del.map intE.f).length:Int) (e.del.length:Int) (.sp 41 (decide ((e.del.length:Int)>(20:Int))) (
.join ⟨[1,3],[(0,0,none)]⟩ [] (some (TNeg_j1_e e true)) (TNeg_j1_e e) true (TNeg_j1 e)) (
.join ⟨[1,3],[(0,0,none)]⟩ [] (some (TNeg_j1_e e false)) (TNeg_j1_e e) false (TNeg_j1 e))))))))))

theorem TNeg_chk (e:Edt):fnC DP Γ17 Δ0 Tryd.f39 [.agg [vl (e.add.map metaE.f),vl (e.del.map intE.f),vi e.log,vi e.next,vn .u64 e.seq]] [] (TNeg e)=TNeg e:=by kernel_rfl

end Go.Ax

namespace Go.Ax
open Go.Proofs Go.RowKit
set_option maxRecDepth 100000

def dNeg (n:Int):Bool:=decide (n<0)||decide (n>1073741824)
def mB (m:Meta):Bool:=decide (m.num<0)||(decide (m.num>1073741824)||(decide (m.level<0)||(decide (m.level>5)||(decide (m.size<0)||(decide (m.size>67108864)||(decide ((m.low.size:Int)>128)||decide ((m.high.size:Int)>128)))))))
def negH (e:Edt):Bool:=decide (e.log<0)||(decide (e.log>1073741824)||(decide (e.next<0)||(decide (e.next>1073741824)||(decide (e.seq≥72057594037927936)||(decide ((e.add.length:Int)>20)||decide ((e.del.length:Int)>20))))))
def negB (e:Edt):Bool:=e.add.foldl (fun b m=>b||mB m) (e.del.foldl (fun b n=>b||dNeg n) (negH e))
theorem foldl_or {α:Type} (f:α→Bool):∀ (L:List α) (b:Bool),L.foldl (fun b x=>b||f x) b=false→b=false∧∀ x∈L,f x=false
 | [],b,h=>⟨h,fun x hx=>by simp at hx⟩
 | x::L,b,h=>by
  obtain ⟨h1,h2⟩:=foldl_or f L _ h
  rw[Bool.or_eq_false_iff] at h1
  exact ⟨h1.1,fun y hy=>by
   rcases List.mem_cons.1 hy with rfl | hy
   ·exact h1.2
   ·exact h2 y hy⟩
theorem neg_num {e:Edt} (h:negB e=false) (hs:0≤e.seq):NumOk e∧e.add.length≤20∧e.del.length≤20:=by
 obtain ⟨h1,h2⟩:=foldl_or mB _ _ h
 obtain ⟨h3,h4⟩:=foldl_or dNeg _ _ h1
 unfold negH at h3
 simp only[Bool.or_eq_false_iff,decide_eq_false_iff_not] at h3
 refine ⟨⟨by omega,by omega,by omega,fun n hn=>?_,fun m hm=>?_,by omega,by omega⟩,by omega,by omega⟩
 ·have:=h4 n hn
  unfold dNeg at this
  simp only[Bool.or_eq_false_iff,decide_eq_false_iff_not] at this
  omega
 ·have:=h2 m hm
  unfold mB at this
  simp only[Bool.or_eq_false_iff,decide_eq_false_iff_not] at this
  omega
section
variable {e : Edt}
theorem neg_del (hl:e.del.length≤9223372036854775807):∀ (j i:Nat) (b:Bool),i+j=e.del.length→Rounds (TNeg_l2_e e) (TNeg_l2_x e) noX (fun s=>(TNeg_l2_b e s).wp) (b,(i:Int)) (.inl ((e.del.drop i).foldl (fun b n=>b||dNeg n) b)):=by
 intro j
 induction j with
 | zero=>
  intro i b hi
  rw[List.drop_of_length_le (by omega)]
  refine .done (by intro e; cases e) ?_
  unfold TNeg_l2_b
  exact wp_sp (fun h'=>absurd (of_decide_eq_true h') (by simp only; omega)) (fun _=>wp_leaf rfl ⟨rfl,rfl⟩)
 | succ j ih=>
  intro i b hi
  have hlt:i<e.del.length:=by omega
  rw[List.drop_eq_getElem_cons hlt,List.foldl_cons]
  have ha:e.del[i]? = some e.del[i]:=List.getElem?_eq_getElem hlt
  generalize e.del[i]=a at ha ⊢
  have hr:=ih (i+1) (b||dNeg a) (by omega)
  rw[show ((i+1:Nat):Int)=(i:Int)+1 by omega] at hr
  refine .next ?_ hr
  unfold TNeg_l2_b
  refine wp_sp (fun _=>wp_elem a (by simp only; omega) ha (wp_sp (fun h1=>wp_i64 (by simp only; omega) (wp_leaf rfl ⟨rfl,?_⟩)) (fun h1=>wp_sp (fun h2=>wp_i64 (by simp only; omega) (wp_leaf rfl ⟨rfl,?_⟩)) (fun h2=>wp_sp (fun h3=>wp_i64 (by simp only; omega) (wp_leaf rfl ⟨rfl,?_⟩)) (fun h3=>wp_i64 (by simp only; omega) (wp_leaf rfl ⟨rfl,?_⟩)))))) (fun h'=>absurd (of_decide_eq_false h') (by simp only; omega))
  ·rw[show b=true from h1,Bool.true_or]
  ·rw[show b=false from h1,dNeg,h2]; rfl
  ·rw[show b=false from h1,dNeg,h2,h3]; rfl
  ·rw[show b=false from h1,dNeg,h2,h3]; rfl
theorem neg_add (hl:e.add.length≤9223372036854775807):∀ (j i:Nat) (b:Bool),i+j=e.add.length→Rounds (TNeg_l3_e e) TNeg_l3_x noX (fun s=>(TNeg_l3_b e s).wp) (b,(i:Int)) (.inl ((e.add.drop i).foldl (fun b m=>b||mB m) b)):=by
 intro j
 induction j with
 | zero=>
  intro i b hi
  rw[List.drop_of_length_le (by omega)]
  refine .done (by intro e; cases e) ?_
  unfold TNeg_l3_b
  exact wp_sp (fun h'=>absurd (of_decide_eq_true h') (by simp only; omega)) (fun _=>wp_leaf rfl ⟨rfl,rfl⟩)
 | succ j ih=>
  intro i b hi
  have hlt:i<e.add.length:=by omega
  rw[List.drop_eq_getElem_cons hlt,List.foldl_cons]
  have ha:e.add[i]? = some e.add[i]:=List.getElem?_eq_getElem hlt
  generalize e.add[i]=a at ha ⊢
  have hr:=ih (i+1) (b||mB a) (by omega)
  rw[show ((i+1:Nat):Int)=(i:Int)+1 by omega] at hr
  have yes:∀ {b':Bool},b'=(b||mB a)→(Tree.int 110 (IntKind.i64.wrap ((i:Int)+1)) ((i:Int)+1) (.leaf ⟨[3,61,62,63],[]⟩ [] .normal (some (TNeg_l3_e e (b',(i:Int)+1))))).wp (fun x c=>x= .normal∧c=TNeg_l3_e e ((b||mB a),(i:Int)+1)):=fun h=>by
   subst h
   exact wp_i64 (by omega) (wp_leaf rfl ⟨rfl,rfl⟩)
  refine .next ?_ hr
  unfold TNeg_l3_b
  refine wp_sp (fun _=>wp_elem a (by simp only; omega) ha ?_) (fun h'=>absurd (of_decide_eq_false h') (by simp only; omega))
  refine wp_sp (fun h0=>yes (by rw[show b=true from h0]; rfl)) (fun h0=>?_)
  have hb:b=false:=h0
  refine wp_sp (fun h1=>yes (by rw[hb,mB,h1]; rfl)) (fun h1=>?_)
  refine wp_sp (fun h2=>yes (by rw[hb,mB,h1,h2]; rfl)) (fun h2=>?_)
  refine wp_sp (fun h3=>yes (by rw[hb,mB,h1,h2,h3]; rfl)) (fun h3=>?_)
  refine wp_sp (fun h4=>yes (by rw[hb,mB,h1,h2,h3,h4]; rfl)) (fun h4=>?_)
  refine wp_sp (fun h5=>yes (by rw[hb,mB,h1,h2,h3,h4,h5]; rfl)) (fun h5=>?_)
  refine wp_sp (fun h6=>yes (by rw[hb,mB,h1,h2,h3,h4,h5,h6]; rfl)) (fun h6=>?_)
  refine wp_sp (fun h7=>yes (by rw[hb,mB,h1,h2,h3,h4,h5,h6,h7]; rfl)) (fun h7=>?_)
  exact wp_sp (fun h8=>yes (by rw[hb,mB,h1,h2,h3,h4,h5,h6,h7,h8]; rfl)) (fun h8=>yes (by rw[hb,mB,h1,h2,h3,h4,h5,h6,h7,h8]; rfl))
end
def RNeg:List AV→AV→Prop:=fun args r=>∃ e:Edt,e.add.length≤9223372036854775807∧e.del.length≤9223372036854775807∧args= [edtA e]∧r=vb (negB e)
noncomputable def gNeg:=relG RNeg
theorem gNeg_eq {e:Edt} (h1:e.add.length≤9223372036854775807) (h2:e.del.length≤9223372036854775807):gNeg [edtA e]=some (vb (negB e)):=relG_eq (by
 rintro args r r' ⟨x,_,_,h1,rfl⟩ ⟨y,_,_,h2,rfl⟩
 rw[edt_inj (one_arg (h1.symm.trans h2))]) ⟨e,h1,h2,rfl,rfl⟩
theorem SNeg:SoundF DP iNeg (.pure gNeg):=sound_pureT mixedD Γ17_ok Δ0_ok hfNeg heNeg hbNeg (by
 rintro args r ⟨e,ha,hd,rfl,rfl⟩
 refine ⟨rfl,rfl,_,TNeg_chk e,?_⟩
 have fin:∀ b:Bool,b=negH e→(TNeg_j1 e b).wp (fun _ c=>Sealed (fun _=>True) c.2 (tk c.1 0) (vb (negB e))):=fun b hb=>by
  have h1:=neg_del (e:=e) hd e.del.length 0 b (by omega)
  have h2:=neg_add (e:=e) ha e.add.length 0 (e.del.foldl (fun b n=>b||dNeg n) b) (by omega)
  rw[List.drop_zero] at h1 h2
  unfold TNeg_j1
  refine wp_len (wp_loop _ rfl h1 (wp_len (wp_loop _ rfl h2 (wp_leaf rfl ?_))))
  subst hb
  exact .p _
 unfold TNeg
 refine wp_sp (fun h1=>wp_join rfl (fin _ (by rw[negH,h1]; rfl))) (fun h1=>?_)
 refine wp_sp (fun h2=>wp_join rfl (fin _ (by rw[negH,h1,h2]; rfl))) (fun h2=>?_)
 refine wp_sp (fun h3=>wp_join rfl (fin _ (by rw[negH,h1,h2,h3]; rfl))) (fun h3=>?_)
 refine wp_sp (fun h4=>wp_join rfl (fin _ (by rw[negH,h1,h2,h3,h4]; rfl))) (fun h4=>?_)
 refine wp_sp (fun h5=>wp_join rfl (fin _ (by rw[negH,h1,h2,h3,h4,h5]; rfl))) (fun h5=>?_)
 refine wp_len (wp_sp (fun h6=>wp_join rfl (fin _ (by rw[negH,h1,h2,h3,h4,h5,h6]; rfl))) (fun h6=>?_))
 exact wp_len (wp_sp (fun h7=>wp_join rfl (fin _ (by rw[negH,h1,h2,h3,h4,h5,h6,h7]; rfl))) (fun h7=>wp_join rfl (fin _ (by rw[negH,h1,h2,h3,h4,h5,h6,h7]; rfl)))))
end Go.Ax

namespace Go.Ax
open Go.Proofs Go.RowKit
set_option maxRecDepth 100000

abbrev iSame:Nat:=36
noncomputable abbrev nSame:Func:=Tryd.f36
theorem hfSame:DP.funcs[iSame]? = some nSame:=by kernel_rfl
theorem heSame:enters DP iSame=true:=by kernel_rfl
theorem hbSame:nSame.body.isSome=true:=by kernel_rfl
noncomputable def TSame_l1_e (v:Vers) (w:Vers) (s1:Int):St:=([(2, .ptr 0 0 0),(3, .ptr 1 0 0),(36,vi (v.files.length:Int)),(37,vi s1)],[.cells false 0 ([vl (v.files.map metaE.f),vi v.log,vi v.next,vn .u64 v.seq]), .cells false 0 ([vl (w.files.map metaE.f),vi w.log,vi w.next,vn .u64 w.seq])])
noncomputable def TSame_l1_x (x1:Unit):AE×St:=(.ret,([(4,vb false)],[]))
noncomputable def TSame_l1_x' (y1:Unit):AE×St:=((.exit 0),([],[]))
noncomputable def TSame_l1_b (v:Vers) (w:Vers) (s1:Int):Tree:=
.sp 38 (decide (s1<(v.files.length:Int))) (
.elem 43 (v.files.map metaE.f) metaE v.files s1 (fun e1=> .elem 48 (w.files.map metaE.f) metaE w.files s1 (fun e2=> .sp 50 (!(((e1.num:Int) == (e2.num:Int))&&(((e1.level:Int) == (e2.level:Int))&&(((e1.low:ByteArray).toList == (e2.low:ByteArray).toList)&&(((e1.high:ByteArray).toList == (e2.high:ByteArray).toList)&&(((e1.size:Int) == (e2.size:Int))&&true)))))) (
.leaf ⟨[4],[]⟩ [] .ret (some (TSame_l1_x ()).2)) (
.int 51 (IntKind.i64.wrap (s1+1)) (s1+1) (.leaf ⟨[2,3,36,37],[(0,0,none),(1,0,none)]⟩ [] .normal (some (TSame_l1_e v w (s1+1)))))))) (
.leaf ⟨[],[]⟩ [] (.exit 0) (some (TSame_l1_x' ()).2))
noncomputable def TSame (v:Vers) (w:Vers):Tree:=
.sp 10 (v.log != w.log) (
.leaf ⟨[0],[]⟩ [] .ret (some ([(0,vb false)],[]))) (
.sp 16 (v.next != w.next) (
.leaf ⟨[0],[]⟩ [] .ret (some ([(0,vb false)],[]))) (
.sp 23 (v.seq != w.seq) (
.leaf ⟨[0],[]⟩ [] .ret (some ([(0,vb false)],[]))) (
.int 28 ((v.files.map metaE.f).length:Int) (v.files.length:Int) (.int 31 ((w.files.map metaE.f).length:Int) (w.files.length:Int) (.sp 32 ((v.files.length:Int) != (w.files.length:Int)) (
.leaf ⟨[0],[]⟩ [] .ret (some ([(0,vb false)],[]))) (
.int 36 ((v.files.map metaE.f).length:Int) (v.files.length:Int) (.loop ⟨[2,3,36,37],[(0,0,none),(1,0,none)]⟩ [] (some (TSame_l1_e v w 0)) (TSame_l1_e v w) (TSame_l1_x) (TSame_l1_x') 0 (TSame_l1_b v w) (fun (x1:Unit)=> .leaf ⟨[0],[]⟩ [] .ret (some ([(0,vb false)],[]))) (fun (y1:Unit)=> .leaf ⟨[0],[]⟩ [] .ret (some ([(0,vb true)],[]))))))))))

theorem TSame_chk (v:Vers) (w:Vers):fnC DP Γ17 Δ0 Tryd.f36 [.agg [vl (v.files.map metaE.f),vi v.log,vi v.next,vn .u64 v.seq], .agg [vl (w.files.map metaE.f),vi w.log,vi w.next,vn .u64 w.seq]] [] (TSame v w)=TSame v w:=by kernel_rfl

end Go.Ax

namespace Go.Ax
open Go.Proofs Go.RowKit
set_option maxRecDepth 100000

theorem versA_inj {v w:Vers} (h:versA v=versA w):v=w:=vargs_inj h
open Classical in
noncomputable def sameB (v w:Vers):Bool:=decide (v=w)
open Classical in
theorem sameB_t {v w:Vers} (h:v=w):sameB v w=true:=by unfold sameB; exact decide_eq_true h
open Classical in
theorem sameB_f {v w:Vers} (h:v≠w):sameB v w=false:=by unfold sameB; exact decide_eq_false h
theorem meta_eq_of {a b:Meta} (h:(((a.num:Int) == (b.num:Int))&&(((a.level:Int) == (b.level:Int))&&(((a.low:ByteArray).toList == (b.low:ByteArray).toList)&&(((a.high:ByteArray).toList == (b.high:ByteArray).toList)&&(((a.size:Int) == (b.size:Int))&&true)))))=true):a=b:=by
 simp only[Bool.and_eq_true,beq_iff_eq,and_true] at h
 obtain ⟨h1,h2,h3,h4,h5⟩:=h
 have h3:=toList_eq (by simpa using h3)
 have h4:=toList_eq (by simpa using h4)
 cases a; cases b
 simp_all
theorem same_rounds {v w:Vers} (hl:v.files.length=w.files.length) (hb:v.files.length≤9223372036854775807):∀ (j i:Nat),i+j=v.files.length→(∀ k,k<i→v.files[k]? = w.files[k]?) →
  ((v.files=w.files∧Rounds (TSame_l1_e v w) TSame_l1_x TSame_l1_x' (fun s=>(TSame_l1_b v w s).wp) (i:Int) (.inr ()))∨(v.files≠w.files∧Rounds (TSame_l1_e v w) TSame_l1_x TSame_l1_x' (fun s=>(TSame_l1_b v w s).wp) (i:Int) (.inl ()))):=by
 intro j
 induction j with
 | zero=>
  intro i hi hk
  refine .inl ⟨List.ext_getElem? fun k=>?_, .done' (by simp[TSame_l1_x']) ?_⟩
  ·by_cases h:k<i
   ·exact hk k h
   ·rw[List.getElem?_eq_none (by omega),List.getElem?_eq_none (by omega)]
  ·unfold TSame_l1_b
   exact wp_sp (fun h'=>absurd (of_decide_eq_true h') (by omega)) (fun _=>wp_leaf rfl ⟨rfl,rfl⟩)
 | succ j ih=>
  intro i hi hk
  have h1:v.files[i]? = some v.files[i]:=List.getElem?_eq_getElem (by omega)
  have h2:w.files[i]? = some (w.files[i]'(by omega)):=List.getElem?_eq_getElem (by omega)
  generalize v.files[i]=a at h1
  generalize w.files[i]'(by omega)=b at h2
  by_cases e:a=b
  ·subst e
   have hn:∀ k,k<i+1→v.files[k]? = w.files[k]? := fun k hk'=>by
    by_cases h:k<i
    ·exact hk k h
    ·rw[show k=i by omega,h1,h2]
   have st:∀ {x},Rounds (TSame_l1_e v w) TSame_l1_x TSame_l1_x' (fun s=>(TSame_l1_b v w s).wp) ((i+1:Nat):Int) x→Rounds (TSame_l1_e v w) TSame_l1_x TSame_l1_x' (fun s=>(TSame_l1_b v w s).wp) (i:Int) x:=fun hr=>by
    refine .next ?_ hr
    unfold TSame_l1_b
    refine wp_sp (fun _=>wp_elem a (by omega) (by simpa using h1) (wp_elem a (by omega) (by simpa using h2) (wp_sp (fun h=>?_) (fun _=>wp_i64 (by omega) (wp_leaf rfl ⟨rfl,rfl⟩))))) (fun h'=>absurd (of_decide_eq_false h') (by omega))
    simp at h
   rcases ih (i+1) (by omega) hn with ⟨h,hr⟩ | ⟨h,hr⟩
   ·exact .inl ⟨h,st hr⟩
   ·exact .inr ⟨h,st hr⟩
  ·refine .inr ⟨fun h=>e (by rw[h,h2] at h1; exact (Option.some.inj h1).symm), .done (by simp[TSame_l1_x]) ?_⟩
   unfold TSame_l1_b
   refine wp_sp (fun _=>wp_elem a (by omega) (by simpa using h1) (wp_elem b (by omega) (by simpa using h2) (wp_sp (fun h=>wp_leaf rfl ⟨rfl,rfl⟩) (fun h=>absurd (meta_eq_of (by simpa using h)) e)))) (fun h'=>absurd (of_decide_eq_false h') (by omega))
def RSame:List AV→AV→Prop:=fun args r=>∃ v w:Vers,v.files.length≤9223372036854775807∧args= [versA v,versA w]∧r=vb (sameB v w)
noncomputable def gSame:=relG RSame
theorem gSame_eq {v w:Vers} (h:v.files.length≤9223372036854775807):gSame [versA v,versA w]=some (vb (sameB v w)):=relG_eq (by
 rintro args r r' ⟨x,y,_,h1,rfl⟩ ⟨x',y',_,h2,rfl⟩
 have:=h1.symm.trans h2
 simp only[List.cons.injEq,and_true] at this
 rw[versA_inj this.1,versA_inj this.2]) ⟨v,w,h,rfl,rfl⟩
theorem SSame:SoundF DP iSame (.pure gSame):=sound_pureT mixedD Γ17_ok Δ0_ok hfSame heSame hbSame (by
 rintro args r ⟨v,w,hb,rfl,rfl⟩
 refine ⟨rfl,rfl,_,TSame_chk v w,?_⟩
 have no:v≠w→Sealed (fun _=>True) [] (vb false) (vb (sameB v w)):=fun h=>by rw[sameB_f h]; exact .p _
 unfold TSame
 refine wp_sp (fun h=>wp_leaf rfl (no fun e=>by rw[e] at h; simp at h)) (fun h1=>wp_sp (fun h=>wp_leaf rfl (no fun e=>by rw[e] at h; simp at h)) (fun h2=>wp_sp (fun h=>wp_leaf rfl (no fun e=>by rw[e] at h; simp at h)) (fun h3=>wp_len (wp_len (wp_sp (fun h=>wp_leaf rfl (no fun e=>by rw[e] at h; simp at h)) (fun h4=>wp_len ?_))))))
 have h4:v.files.length=w.files.length:=by
  have:(v.files.length:Int)=w.files.length:=by simpa using h4
  omega
 rcases same_rounds h4 hb v.files.length 0 (by omega) (fun k h=>by omega) with ⟨h,hr⟩ | ⟨h,hr⟩
 ·refine wp_loop' _ rfl hr (wp_leaf rfl ?_)
  have e:v=w:=by
   have h1:v.log=w.log:=by simpa using h1
   have h2:v.next=w.next:=by simpa using h2
   have h3:v.seq=w.seq:=by simpa using h3
   cases v; cases w; simp_all
  rw[sameB_t e]
  exact .p _
 ·exact wp_loop _ rfl hr (wp_leaf rfl (no fun e=>h (by rw[e]))))

section
variable {v : Vers} {m : Meta}
end
end Go.Ax

namespace Go.Ax
open Go.Proofs Go.RowKit
set_option maxRecDepth 100000

end Go.Ax

namespace Go.Ax
open Go.Proofs Go.RowKit
set_option maxRecDepth 100000

section
variable {v : Vers} {lv : Int}
end
end Go.Ax

namespace Go.Ax
open Go.Proofs Go.RowKit
set_option maxRecDepth 100000

end Go.Ax

namespace Go.Ax
open Go.Proofs Go.RowKit
set_option maxRecDepth 100000

section
variable {v : Vers} {e : Edt} {j1 j2 j3 : Int}
end
end Go.Ax

namespace Go.Ax
open Go.Proofs Go.RowKit
set_option maxRecDepth 100000

end Go.Ax

namespace Go.Ax
open Go.Proofs Go.RowKit
set_option maxRecDepth 100000

end Go.Ax

namespace Go.Ax
open Go.Proofs Go.ChangeShapes Go.WideShapes Go.ChangeAt Go.RowKit
set_option maxRecDepth 100000

theorem tabRel {W:World} {g:Nat} {us:Array Value} {e:TypeId} {fr:Nat×Nat} (hh:W.heap[g]? = some (.cells us e fr)) (hu:us.toList.map PV.v=Glob.tab g):∀ ρ,GRel noF [] ρ W g:=fun ρ=>by
 have hl:(Glob.tab g).length=us.toList.length:=by rw[←hu]; simp
 refine ⟨.rp _ ⟨g,0,none⟩ us.toList rfl not_own (Array.getElem?_eq_some_iff.1 hh).1 hl (fun j u hj=>?_) (fun j p u hp hv=>?_),us,e,fr,hh,by rw[hl]; simp⟩
 ·rw[Addr.add_lit,Nat.zero_add,cell_of hh]
  simpa using hj
 ·rw[←hu,List.getElem?_map,hv] at hp
  cases hp
  exact .v _

theorem var_block {P:Program} {W:World} {n:String} {g:Nat} {cs:Array Value} (hg:P.globalNamed n=some g) (h:W.var? P n=some cs):∃ e fr,W.heap[g]? = some (.cells cs e fr):=by
 unfold World.var? at h
 rw[hg,Option.bind_some] at h
 split at h
 ·rename_i cs' e fr hc
  cases h
  exact ⟨e,fr,hc⟩
 ·cases h

abbrev laid4 : List (String × DataW Unit) := [("math/bits.deBruijn32tab", YtjlipmcdnigfcaaDoor.Rows.laid_math_bits_deBruijn32tab), ("math/bits.deBruijn64tab", YtjlipmcdnigfcaaDoor.Rows.laid_math_bits_deBruijn64tab), ("internal/strconv.uint64pow10", YtjlipmcdnigfcaaDoor.Rows.laid_internal_strconv_uint64pow10), ("tailrace/crc.halves", YtjlipmcdnigfcaaDoor.Rows.laid_tailrace_crc_halves)]

theorem gHalves : DP.globalNamed "tailrace/crc.halves" = some 0 := by kernel_rfl
theorem gPow : DP.globalNamed "internal/strconv.uint64pow10" = some 3 := by kernel_rfl
theorem tHalves:(DP.globals[0]?).map (·.type)=some 169:=by kernel_rfl

theorem tPow:(DP.globals[3]?).map (·.type)=some 188:=by kernel_rfl

theorem globW_of {W:World} (h:laidMetH DP laid4 W):GlobW W:=by
 rw[MakeChecks.laidMetH_plain _ _ _ (by kernel_rfl)] at h
 obtain ⟨ps,⟨g0,t0,cs0,f0,p0,q0,hg0,ht0,hv0,hd0,⟨g1,t1,cs1,f1,p1,q1,hg1,ht1,hv1,hd1,⟨g2,t2,cs2,f2,p2,q2,hg2,ht2,hv2,hd2,⟨g3,t3,cs3,f3,p3,q3,hg3,ht3,hv3,hd3,_,_⟩,_⟩,_⟩,_⟩,_,_⟩:=h
 obtain rfl:=Option.some.inj (gPow.symm.trans hg2)
 obtain rfl:=Option.some.inj (gHalves.symm.trans hg3)
 obtain rfl:=Option.some.inj (tPow.symm.trans ht2)
 obtain rfl:=Option.some.inj (tHalves.symm.trans ht3)
 have c2:=Lib.cells_of_tab (k:= .u64) (zs:=Lib.pow10Tab) (n:=20) (e:=46) (by kernel_rfl) (by kernel_rfl) (by kernel_rfl) (by kernel_rfl) hd2
 have c3:=Lib.cells_of_tab (k:= .u32) (zs:=halvesL) (n:=16) (e:=137) (by kernel_rfl) (by kernel_rfl) (by kernel_rfl) (by kernel_rfl) hd3
 obtain ⟨e2,r2,b2⟩:=var_block hg2 hv2
 obtain ⟨e3,r3,b3⟩:=var_block hg3 hv3
 intro g hg
 match g with
 | 0=>exact tabRel b3 (by rw[c3]; rfl)
 | 3=>exact tabRel b2 (by rw[c2]; rfl)
 | 1=>exact absurd rfl hg
 | 2=>exact absurd rfl hg
 | g+4=>exact absurd rfl hg

theorem door4 (os:Os) (args:Array Value):laidMetH DP laid4 ((World.doorLaid DP 67 os).forCall (fun _ _=>0) ⟨#[],args,[]⟩).memory:=
 laidMetH_of_parts3 (fuel:=8) (laidMet_of_run' 8 (by kernel_rfl) (by kernel_rfl)) (by kernel_rfl) (by kernel_rfl)

section
variable {H : Type} {enc : TypeId × Value → H} {w : World} {base : Nat} {spare : Nat → Bool} {held : Bool} {O : Nat → Prop}
end
end Go.Ax

namespace Go.Ax
open Go.Proofs Go.RowKit
end Go.Ax

namespace Go.Ax
open Go.Proofs Go.RowKit
set_option maxRecDepth 100000

def edtE:Enc Edt:=⟨fun e=> .agg [.ls (e.add.map metaE.f), .ls (e.del.map intE.f), .v (.int .i64 e.log), .v (.int .i64 e.next), .v (.int .u64 e.seq)],5,fun _=>rfl,fun _=>rfl⟩
def versE:Enc Vers:=⟨fun v=> .agg [.ls (v.files.map metaE.f), .v (.int .i64 v.log), .v (.int .i64 v.next), .v (.int .u64 v.seq)],4,fun _=>rfl,fun _=>rfl⟩
section
variable {H : Type} {enc : TypeId × Value → H} {w : World} {base : Nat} {spare : Nat → Bool} {held : Bool} {O : Nat → Prop}
theorem in_meta (n:Nat) (cs':List Value) (y:DataW H×List MemPlace) (h:DataW.trod enc DP w base spare held n 53 cs'=some y):
  ∃ a:Meta,True∧cs'.length=5∧∀ (r:Nat) (p:PV) (u:Value),(metaE.f a).cells[r]? = some p→cs'[r]? = some u→PRel O w p u:=by
 obtain ⟨xs,n,_,rfl,hl,hlen,hf⟩:=DataW.trod_struct Tryd.underlying53 h
 have hc:DP.cellsOf 53=5:=by kernel_rfl
 have c9:DP.cellsOf 9=1:=by kernel_rfl
 have c3:DP.cellsOf 3=1:=by kernel_rfl
 rw[hc] at hl
 have h0:DataW.trod enc DP w base spare held n 3 ((cs'.drop 0).take (DP.cellsOf 3))=xs[0]? := hf 0 _ rfl
 have h1:DataW.trod enc DP w base spare held n 3 ((cs'.drop 1).take (DP.cellsOf 3))=xs[1]? := hf 1 _ rfl
 have h2:DataW.trod enc DP w base spare held n 9 ((cs'.drop 2).take (DP.cellsOf 9))=xs[2]? := hf 2 _ rfl
 have h3:DataW.trod enc DP w base spare held n 9 ((cs'.drop 3).take (DP.cellsOf 9))=xs[3]? := hf 3 _ rfl
 have h4:DataW.trod enc DP w base spare held n 3 ((cs'.drop 4).take (DP.cellsOf 3))=xs[4]? := hf 4 _ rfl
 rw[c3] at h0 h1 h4
 rw[c9] at h2 h3
 match cs',hl,xs,hlen with
 | [v0,v1,v2,v3,v4],_,[x0,x1,x2,x3,x4],_=>
  obtain ⟨a,e0,_,_⟩:=DataW.trod_int Tryd.underlying3 h0
  obtain ⟨b,e1,_,_⟩:=DataW.trod_int Tryd.underlying3 h1
  obtain ⟨c,e2,_,_⟩:=DataW.trod_string Tryd.underlying9 h2
  obtain ⟨d,e3,_,_⟩:=DataW.trod_string Tryd.underlying9 h3
  obtain ⟨e,e4,_,_⟩:=DataW.trod_int Tryd.underlying3 h4
  simp at e0 e1 e2 e3 e4
  subst e0 e1 e2 e3 e4
  refine ⟨⟨a,b,c,d,e⟩,trivial,rfl,fun r p u hp hu=>?_⟩
  match r with
  | 0=>cases hp; cases hu; exact .v _
  | 1=>cases hp; cases hu; exact .v _
  | 2=>cases hp; cases hu; exact .v _
  | 3=>cases hp; cases hu; exact .v _
  | 4=>cases hp; cases hu; exact .v _
  | r+5=>simp[metaE,PV.cells] at hp
theorem in_i64 (n:Nat) (cs':List Value) (y:DataW H×List MemPlace) (h:DataW.trod enc DP w base spare held n 3 cs'=some y):
  ∃ a:Int,True∧cs'.length=1∧∀ (r:Nat) (p:PV) (u:Value),(intE.f a).cells[r]? = some p→cs'[r]? = some u→PRel O w p u:=by
 obtain ⟨s,rfl,_,_⟩:=DataW.trod_int Tryd.underlying3 h
 refine ⟨s,trivial,rfl,fun r p u hp hu=>?_⟩
 match r with
 | 0=>cases hp; cases hu; exact .v _
 | r+1=>simp[intE,PV.cells] at hp
theorem in_metas (hO:∀ k,¬O k) {fuel:Nat} {v:Value} {x:DataW H×List MemPlace} (h:DataW.trod enc DP w base spare held fuel 45 [v]=some x):
  ∃ L:List Meta,(∀ a∈L,True)∧L.length≤maxLen∧PRel O w (.ls (L.map metaE.f)) v:=open_listL hO Tryd.underlying45 metaE.elt (by decide) (by kernel_rfl) (fun n cs' y hy=>in_meta n cs' y hy) h
theorem in_ints (hO:∀ k,¬O k) {fuel:Nat} {v:Value} {x:DataW H×List MemPlace} (h:DataW.trod enc DP w base spare held fuel 36 [v]=some x):
  ∃ L:List Int,(∀ a∈L,True)∧L.length≤maxLen∧PRel O w (.ls (L.map intE.f)) v:=open_listL hO Tryd.underlying36 intE.elt (by decide) (by kernel_rfl) (fun n cs' y hy=>in_i64 n cs' y hy) h
def Edt.fits (a:Edt):Prop:=a.add.length≤maxLen∧a.del.length≤maxLen∧0≤a.seq
theorem in_edt (hO:∀ k,¬O k) (n:Nat) (cs':List Value) (y:DataW H×List MemPlace) (h:DataW.trod enc DP w base spare held n 56 cs'=some y):
  ∃ a:Edt,a.fits∧cs'.length=5∧∀ (r:Nat) (p:PV) (u:Value),(edtE.f a).cells[r]? = some p→cs'[r]? = some u→PRel O w p u:=by
 obtain ⟨xs,n,_,rfl,hl,hlen,hf⟩:=DataW.trod_struct Tryd.underlying56 h
 have hc:DP.cellsOf 56=5:=by kernel_rfl
 have c45:DP.cellsOf 45=1:=by kernel_rfl
 have c36:DP.cellsOf 36=1:=by kernel_rfl
 have c3:DP.cellsOf 3=1:=by kernel_rfl
 have c46:DP.cellsOf 46=1:=by kernel_rfl
 rw[hc] at hl
 have h0:DataW.trod enc DP w base spare held n 45 ((cs'.drop 0).take (DP.cellsOf 45))=xs[0]? := hf 0 _ rfl
 have h1:DataW.trod enc DP w base spare held n 36 ((cs'.drop 1).take (DP.cellsOf 36))=xs[1]? := hf 1 _ rfl
 have h2:DataW.trod enc DP w base spare held n 3 ((cs'.drop 2).take (DP.cellsOf 3))=xs[2]? := hf 2 _ rfl
 have h3:DataW.trod enc DP w base spare held n 3 ((cs'.drop 3).take (DP.cellsOf 3))=xs[3]? := hf 3 _ rfl
 have h4:DataW.trod enc DP w base spare held n 46 ((cs'.drop 4).take (DP.cellsOf 46))=xs[4]? := hf 4 _ rfl
 rw[c3] at h2 h3
 rw[c45] at h0
 rw[c36] at h1
 rw[c46] at h4
 match cs',hl,xs,hlen with
 | [v0,v1,v2,v3,v4],_,[x0,x1,x2,x3,x4],_=>
  obtain ⟨L,_,hL,p0⟩:=in_metas (O:=O) hO h0
  obtain ⟨M,_,hM,p1⟩:=in_ints (O:=O) hO h1
  obtain ⟨b,e2,_,_⟩:=DataW.trod_int Tryd.underlying3 h2
  obtain ⟨c,e3,_,_⟩:=DataW.trod_int Tryd.underlying3 h3
  obtain ⟨d,e4,_,hw⟩:=DataW.trod_int Tryd.underlying46 h4
  have hb:0≤d:=by
   simp only[Lit.wf,Bool.and_eq_true,decide_eq_true_eq] at hw
   have h1:IntKind.u64.min=0:=by decide
   omega
  simp at e2 e3 e4
  subst e2 e3 e4
  refine ⟨⟨L,M,b,c,d⟩,⟨hL,hM,hb⟩,rfl,fun r p u hp hu=>?_⟩
  match r with
  | 0=>cases hp; cases hu; exact p0
  | 1=>cases hp; cases hu; exact p1
  | 2=>cases hp; cases hu; exact .v _
  | 3=>cases hp; cases hu; exact .v _
  | 4=>cases hp; cases hu; exact .v _
  | r+5=>simp[edtE,PV.cells] at hp
theorem in_edts (hO:∀ k,¬O k) {fuel:Nat} {v:Value} {x:DataW H×List MemPlace} (h:DataW.trod enc DP w base spare held fuel 72 [v]=some x):
  ∃ L:List Edt,(∀ a∈L,a.fits)∧PRel O w (.ls (L.map edtE.f)) v:=open_list hO Tryd.underlying72 edtE.elt (by decide) (by kernel_rfl) (fun n cs' y hy=>in_edt hO n cs' y hy) h
end
end Go.Ax
