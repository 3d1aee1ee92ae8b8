/- An edit's bytes: what writing it comes to. -/
import Derived.Test.YtjlipmcdnigfcaaDoorG34
set_option linter.unusedVariables false
set_option linter.unusedSimpArgs false
set_option linter.unusedSectionVars false
namespace Go.Ax
open Go.Proofs Go.RowKit
set_option maxRecDepth 100000

theorem wp_fork {x y:Tree} {K:AE→St→Prop} (hx:x.wp K) (hy:y.wp K):(Tree.fork x y).wp K:=⟨hx,hy⟩
theorem ΔE1_ok:∀ f,SoundR DP f (ΔE1 f):=envR_cons (lift_sound SPut) envR_nil
theorem SText:SoundR DP iText OText:=sound_genT mixedD Γ0_ok ΔE1_ok hfText heText hbText (by
 rintro args B r B' ⟨L,s,hl,rfl,rfl,rfl,rfl⟩
 refine ⟨by rw[hnText]; rfl,_,TText_chk L s,?_⟩
 unfold TText
 unfold txtI at hl ⊢
 rw[List.length_append] at hl
 have hs:s.data.toList.length=s.size:=rfl
 refine wp_u64 (by omega) (wp_callr (oPut_r (by omega) rfl (by omega)) (wp_app ⟨rfl,byteCells _,rfl⟩ rfl (by simp only[List.length_append]; omega) (wp_leaf rfl ?_)))
 rw[List.append_assoc]
 exact ⟨rfl,rfl⟩)
theorem ΔE2_ok:∀ f,SoundR DP f (ΔE2 f):=envR_cons (lift_sound SPut) (envR_cons (lift_sound SText) envR_nil)
theorem oText {B:List Box} {b v:Nat} {L:List UInt8} {s:ByteArray} (hb:B[b]? = some (byteE.bx v L)) (hl:((L.length+(txtI s).length:Nat):Int)≤1000000000):
  liftR OText [.rs b v 1 0 L.length,vs s] B (.rs B.length 0 1 0 (L++txtI s).length) (B.set b (byteE.bx (v+1) [])++ [byteE.bx 0 (L++txtI s)]):=
 lift_row (R:=OText) (pre:= []) ⟨L,s,hl,rfl,rfl,rfl,rfl⟩ hb rfl rfl

def delI (L:List Int):List UInt8:=(L.map fun n=>putI (mxI n)).flatten
def metaI (m:Meta):List UInt8:=putI (mxI m.num)++putI (mxI m.level)++putI (mxI m.size)++txtI m.low++txtI m.high
def addI (L:List Meta):List UInt8:=(L.map metaI).flatten
def headE (e:Edt):List UInt8:=putI (mxI e.log)++putI (mxI e.next)++putI e.seq
def encI (e:Edt):List UInt8:=headE e++putI (e.del.length:Int)++delI e.del++putI (e.add.length:Int)++addI e.add
structure EncOk (e:Edt):Prop where
 log:e.log≤9223372036854775807
 next:e.next≤9223372036854775807
 seq:0≤e.seq∧e.seq<18446744073709551616
 del:∀ n∈e.del,n≤9223372036854775807
 add:∀ m∈e.add,m.num≤9223372036854775807∧m.level≤9223372036854775807∧m.size≤9223372036854775807
 len:(encI e).length≤1000000000
 dl:e.del.length≤1000000000
 al:e.add.length≤1000000000

theorem mx_b {x:Int} (h:x≤9223372036854775807):0≤mxI x∧mxI x<9223372036854775808:=by unfold mxI; split <;> omega
theorem mx_b' {x:Int} (h:x≤9223372036854775807):0≤mxI x∧mxI x<18446744073709551616:=by have:=mx_b h; omega
theorem flat_take {α β:Type} (f:α→List β) (L:List α) (i:Nat):((L.take i).map f).flatten.length≤(L.map f).flatten.length:=by
 have:=congrArg (fun l=>(l.map f).flatten.length) (List.take_append_drop i L)
 simp only[List.map_append,List.flatten_append,List.length_append] at this
 omega

section
variable {e : Edt}
theorem enc_del (h:∀ n∈e.del,n≤9223372036854775807) (P:List UInt8) (hl:(P++delI e.del).length≤1000000000) (hd:e.del.length≤1000000000):∀ (j i:Nat),i+j=e.del.length →
  Rounds (TEnc_l2_e e) (TEnc_l2_x e) noX (fun s=>(TEnc_l2_b e s).wp) (P++delI (e.del.take i),(i:Int)) (.inl (P++delI e.del)):=by
 intro j
 induction j with
 | zero=>
  intro i hi
  rw[List.take_of_length_le (by omega)]
  refine .done (by intro e; cases e) ?_
  unfold TEnc_l2_b
  exact wp_sp (fun h'=>absurd (of_decide_eq_true h') (by simp only; omega)) (fun _=>wp_leaf rfl ⟨rfl,rfl⟩)
 | succ j ih=>
  intro i hi
  obtain ⟨a,ha,ht⟩:=get_snoc (l:=e.del) (i:=i) (by omega)
  have hr:=ih (i+1) (by omega)
  have ei:((i+1:Nat):Int)=(i:Int)+1:=by omega
  have hs:delI (e.del.take (i+1))=delI (e.del.take i)++putI (mxI a):=by rw[ht]; simp[delI]
  have hft:(delI (e.del.take (i+1))).length≤(delI e.del).length:=flat_take _ _ _
  rw[hs,List.length_append] at hft
  rw[hs,←List.append_assoc,ei] at hr
  rw[List.length_append] at hl
  have hab:=h a (List.mem_of_getElem? ha)
  refine .next ?_ hr
  unfold TEnc_l2_b
  exact wp_sp (fun _=>wp_elem a (by simp only; omega) (by simpa using ha) (wp_u64 (mx_b hab) (wp_callr (oPut_r (v:=0) (mx_b' hab) rfl (by simp only[List.length_append]; omega)) (wp_i64 (by simp only; omega) (wp_leaf rfl ⟨rfl,rfl⟩))))) (fun h'=>absurd (of_decide_eq_false h') (by simp only; omega))
theorem enc_add (h:∀ m∈e.add,m.num≤9223372036854775807∧m.level≤9223372036854775807∧m.size≤9223372036854775807) (P:List UInt8) (hl:(P++addI e.add).length≤1000000000) (hd:e.add.length≤1000000000):∀ (j i:Nat),i+j=e.add.length →
  Rounds (TEnc_l3_e e) TEnc_l3_x noX (fun s=>(TEnc_l3_b e s).wp) (P++addI (e.add.take i),(i:Int)) (.inl (P++addI e.add)):=by
 intro j
 induction j with
 | zero=>
  intro i hi
  rw[List.take_of_length_le (by omega)]
  refine .done (by intro e; cases e) ?_
  unfold TEnc_l3_b
  exact wp_sp (fun h'=>absurd (of_decide_eq_true h') (by simp only; omega)) (fun _=>wp_leaf rfl ⟨rfl,rfl⟩)
 | succ j ih=>
  intro i hi
  obtain ⟨a,ha,ht⟩:=get_snoc (l:=e.add) (i:=i) (by omega)
  have hr:=ih (i+1) (by omega)
  have ei:((i+1:Nat):Int)=(i:Int)+1:=by omega
  have hs:addI (e.add.take (i+1))=addI (e.add.take i)++metaI a:=by rw[ht]; simp[addI]
  have hft:(addI (e.add.take (i+1))).length≤(addI e.add).length:=flat_take _ _ _
  rw[hs,List.length_append] at hft
  unfold metaI at hs hft
  simp only[List.length_append] at hft hl
  obtain ⟨h1,h2,h3⟩:=h a (List.mem_of_getElem? ha)
  rw[hs,ei] at hr
  simp only[←List.append_assoc] at hr
  generalize hQ:P++addI (e.add.take i)=Q at hr ⊢
  have hQl:Q.length=P.length+(addI (e.add.take i)).length:=by rw[←hQ,List.length_append]
  refine .next ?_ hr
  have hfin:(TEnc_j4 e (Q,(i:Int)) a ()).wp (fun e1 c=>e1= .normal∧c=TEnc_l3_e e (Q++putI (mxI a.num)++putI (mxI a.level)++putI (mxI a.size)++txtI a.low++txtI a.high,(i:Int)+1)):=by
   unfold TEnc_j4
   refine wp_any (wp_fork ?_ ?_) <;> exact wp_callr (oText (v:=0) rfl (by simp only[List.length_append]; omega)) (wp_callr (oText (v:=0) rfl (by simp only[List.length_append]; omega)) (wp_i64 (by simp only; omega) (wp_leaf rfl ⟨rfl,rfl⟩)))
  unfold TEnc_l3_b
  refine wp_sp (fun _=>wp_elem a (by simp only; omega) (by simpa using ha) (wp_any ?_)) (fun h'=>absurd (of_decide_eq_false h') (by simp only; omega))
  repeat' first
   | exact wp_join rfl hfin
   | refine wp_u64 (mx_b h1) ?_
   | refine wp_u64 (mx_b h2) ?_
   | refine wp_u64 (mx_b h3) ?_
   | refine wp_callr (oPut_r (v:=0) (mx_b' h1) rfl (by simp only[List.length_append]; omega)) ?_
   | refine wp_callr (oPut_r (v:=0) (mx_b' h2) rfl (by simp only[List.length_append]; omega)) ?_
   | refine wp_callr (oPut_r (v:=0) (mx_b' h3) rfl (by simp only[List.length_append]; omega)) ?_
   | refine wp_fork ?_ ?_
end

def REnc:List AV→AV→Prop:=fun args r=>∃ e:Edt,EncOk e∧args= [.agg [vl (e.add.map metaE.f),vl (e.del.map intE.f),vi e.log,vi e.next,vn .u64 e.seq]]∧r=vl ((encI e).map byteE.f)
noncomputable def gEnc:=relG REnc
theorem gEnc_eq {e:Edt} (h:EncOk e):gEnc [.agg [vl (e.add.map metaE.f),vl (e.del.map intE.f),vi e.log,vi e.next,vn .u64 e.seq]]=some (vl ((encI e).map byteE.f)):=relG_eq (by
 rintro args r r' ⟨x,_,h1,rfl⟩ ⟨y,_,h2,rfl⟩
 rw[edt_inj (one_arg (h1.symm.trans h2))]) ⟨e,h,rfl,rfl⟩
theorem SEnc:SoundF DP iEnc (.pure gEnc):=sound_pureT mixedD Γ0_ok ΔE2_ok hfEnc heEnc hbEnc (by
 rintro args r ⟨e,h,rfl,rfl⟩
 refine ⟨rfl,rfl,_,TEnc_chk e,?_⟩
 have hl:=h.len
 have hdl:=h.dl
 have hal:=h.al
 unfold encI headE at hl
 simp only[List.length_append] at hl
 have hfin:(TEnc_j1 e ()).wp (fun _ c=>Sealed (fun _=>True) c.2 (tk c.1 0) (vl ((encI e).map byteE.f))):=by
  have d0:=enc_del h.del (headE e++putI (e.del.length:Int)) (by unfold headE; simp only[List.length_append]; omega) hdl e.del.length 0 (by omega)
  have a0:=enc_add h.add (headE e++putI (e.del.length:Int)++delI e.del++putI (e.add.length:Int)) (by unfold headE; simp only[List.length_append]; omega) hal e.add.length 0 (by omega)
  rw[show headE e++putI (e.del.length:Int)++delI (e.del.take 0)=headE e++putI (e.del.length:Int) by simp[delI]] at d0
  rw[show headE e++putI (e.del.length:Int)++delI e.del++putI (e.add.length:Int)++addI (e.add.take 0)=headE e++putI (e.del.length:Int)++delI e.del++putI (e.add.length:Int) by simp[addI]] at a0
  unfold TEnc_j1
  exact wp_len (wp_u64 (by omega) (wp_callr (oPut_r (v:=0) (by omega) rfl (by simp only[List.length_append]; omega)) (wp_len (wp_loop _ rfl d0 (wp_len (wp_u64 (by omega) (wp_callr (oPut_r (v:=0) (by omega) rfl (by unfold headE; simp only[List.length_append]; omega)) (wp_len (wp_loop _ rfl a0 (wp_leaf rfl (byteE.elt.sealed trivial rfl)))))))))))
 unfold TEnc
 refine wp_any ?_
 repeat' first
  | exact wp_join rfl hfin
  | refine wp_u64 (mx_b h.log) ?_
  | refine wp_u64 (mx_b h.next) ?_
  | refine wp_callr (oPut_n (mx_b' h.log)) ?_
  | refine wp_callr (oPut_r (v:=0) (mx_b' h.next) rfl (by omega)) ?_
  | refine wp_callr (oPut_r (v:=0) h.seq rfl (by simp only[List.length_append]; omega)) ?_
  | refine wp_fork ?_ ?_)
end Go.Ax

namespace Go.Ax
open Go.Proofs Go.RowKit
set_option maxRecDepth 100000

def takeI (most:Int) (s:List UInt8×Bool):Int×(List UInt8×Bool):=
 if (getI s.1).2.2≠0∨(getI s.1).1>most∨s.2=true then (0,(s.1,true)) else ((getI s.1).1,(s.1.drop (getI s.1).2.1.toNat,false))
def textI (s:List UInt8×Bool):ByteArray×(List UInt8×Bool):=
 if (takeI 128 s).1>((takeI 128 s).2.1.length:Int)∨(takeI 128 s).2.2=true then (⟨#[]⟩,((takeI 128 s).2.1,true)) else (⟨((takeI 128 s).2.1.take (takeI 128 s).1.toNat).toArray⟩,((takeI 128 s).2.1.drop (takeI 128 s).1.toNat,false))
def rdB (s:List UInt8×Bool):Box:= .cells false 0 [vl (s.1.map byteE.f),vb s.2]
def OTake:RSpec:=fun args B r B'=>∃ (s:List UInt8×Bool) (most:Int),s.1.length≤1000000000∧(0≤most∧most≤72057594037927935)∧args= [.ptr 0 0 0,vn .u64 most]∧B= [rdB s]∧r=vn .u64 (takeI most s).1∧B'= [rdB (takeI most s).2]
def ORText:RSpec:=fun args B r B'=>∃ (s:List UInt8×Bool),s.1.length≤1000000000∧args= [.ptr 0 0 0]∧B= [rdB s]∧r=vs (textI s).1∧B'= [rdB (textI s).2]
noncomputable def Γ9:Env:=envP [(iGet,gGet)]
noncomputable def Δ9a:REnv:=envR [(77,liftR OTake)]
noncomputable def Δ9b:REnv:=envR [(77,liftR OTake),(78,liftR ORText)]

abbrev iTake:Nat:=77
noncomputable abbrev nTake:Func:=Tryd.f77
theorem hfTake:DP.funcs[iTake]? = some nTake:=by kernel_rfl
theorem heTake:enters DP iTake=true:=by kernel_rfl
theorem hbTake:nTake.body.isSome=true:=by kernel_rfl
theorem hnTake:nTake.ntmps=43:=by kernel_rfl
abbrev iRText:Nat:=78
noncomputable abbrev nRText:Func:=Tryd.f78
theorem hfRText:DP.funcs[iRText]? = some nRText:=by kernel_rfl
theorem heRText:enters DP iRText=true:=by kernel_rfl
theorem hbRText:nRText.body.isSome=true:=by kernel_rfl
theorem hnRText:nRText.ntmps=39:=by kernel_rfl
abbrev iDec:Nat:=42
noncomputable abbrev nDec:Func:=Tryd.f42
theorem hfDec:DP.funcs[iDec]? = some nDec:=by kernel_rfl
theorem heDec:enters DP iDec=true:=by kernel_rfl
theorem hbDec:nDec.body.isSome=true:=by kernel_rfl
noncomputable def TTake (b:List UInt8) (bad:Bool) (most:Int):Tree:=
.call 13 (gGet [vl (b.map byteE.f)]=some (.tup [vn .u64 ((getI b).1),vi ((getI b).2.1),vi ((getI b).2.2)])) (.tup [vn .u64 ((getI b).1),vi ((getI b).2.1),vi ((getI b).2.2)]) (.sp 18 (((getI b).2.2) != (0:Int)) (
.leaf ⟨[0],[(0,0,none)]⟩ [] .ret (some ([(0,vn .u64 0)],[.cells false 0 ([vl (b.map byteE.f),vb true])]))) (
.sp 22 (decide (((getI b).1)>most)) (
.leaf ⟨[0],[(0,0,none)]⟩ [] .ret (some ([(0,vn .u64 0)],[.cells false 0 ([vl (b.map byteE.f),vb true])]))) (
.sp 28 bad (
.leaf ⟨[0],[(0,0,none)]⟩ [] .ret (some ([(0,vn .u64 0)],[.cells false 0 ([vl (b.map byteE.f),vb true])]))) (
.cut 39 (b.map byteE.f) (some ((getI b).2.1)) none byteE b (.leaf ⟨[0],[(0,0,none)]⟩ [] .ret (some ([(0,vn .u64 ((getI b).1))],[.cells false 0 ([vl ((cutL (some ((getI b).2.1)) none b).map byteE.f),vb bad])])))))))

theorem TTake_chk (b:List UInt8) (bad:Bool) (most:Int):fnC DP Γ9 Δ0 Tryd.f77 [.ptr 0 0 0,vn .u64 most] [.cells false 0 ([vl (b.map byteE.f),vb bad])] (TTake b bad most)=TTake b bad most:=by kernel_rfl

noncomputable def TRText (b:List UInt8) (bad:Bool):Tree:=
.callr (some 6) (Δ9a 77 [.ptr 0 0 0,vn .u64 128] [.cells false 0 ([vl (b.map byteE.f),vb bad])] (vn .u64 ((takeI 128 (b,bad)).1)) [rdB (takeI 128 (b,bad)).2]) (vn .u64 ((takeI 128 (b,bad)).1)) [rdB (takeI 128 (b,bad)).2] (.int 12 ((((takeI 128 (b,bad)).2.1).map byteE.f).length:Int) (((takeI 128 (b,bad)).2.1).length:Int) (.int 13 (IntKind.u64.wrap ((((takeI 128 (b,bad)).2.1).length:Int))) ((((takeI 128 (b,bad)).2.1).length:Int)) (.sp 14 (decide (((takeI 128 (b,bad)).1)>(((takeI 128 (b,bad)).2.1).length:Int))) (
.leaf ⟨[0],[(0,0,none)]⟩ [] .ret (some ([(0,vs (⟨#[]⟩))],[.cells false 0 ([vl (((takeI 128 (b,bad)).2.1).map byteE.f),vb true])]))) (
.sp 21 ((takeI 128 (b,bad)).2.2) (
.leaf ⟨[0],[(0,0,none)]⟩ [] .ret (some ([(0,vs (⟨#[]⟩))],[rdB (takeI 128 (b,bad)).2]))) (
.cut 27 (((takeI 128 (b,bad)).2.1).map byteE.f) none (some ((takeI 128 (b,bad)).1)) byteE ((takeI 128 (b,bad)).2.1) (.bstrl 28 ((cutL none (some ((takeI 128 (b,bad)).1)) ((takeI 128 (b,bad)).2.1)).map byteE.f) (cutL none (some ((takeI 128 (b,bad)).1)) ((takeI 128 (b,bad)).2.1)) (.cut 35 (((takeI 128 (b,bad)).2.1).map byteE.f) (some ((takeI 128 (b,bad)).1)) none byteE ((takeI 128 (b,bad)).2.1) (.leaf ⟨[0],[(0,0,none)]⟩ [] .ret (some ([(0,vs (⟨(cutL none (some ((takeI 128 (b,bad)).1)) ((takeI 128 (b,bad)).2.1)).toArray⟩))],[.cells false 0 ([vl ((cutL (some ((takeI 128 (b,bad)).1)) none ((takeI 128 (b,bad)).2.1)).map byteE.f),vb ((takeI 128 (b,bad)).2.2)])]))))))))))

theorem TRText_chk (b:List UInt8) (bad:Bool):fnC DP Γ9 Δ9a Tryd.f78 [.ptr 0 0 0] [.cells false 0 ([vl (b.map byteE.f),vb bad])] (TRText b bad)=TRText b bad:=by kernel_rfl

noncomputable def TDec_l1_e (b:List UInt8) (s1:(List UInt8)×Bool×(List Int)×Int):St:=([(2, .ptr 0 0 0),(4, .ptr 1 0 0),(5, .ptr 2 0 0),(21,vi ((takeI 1000 ((takeI 72057594037927935 ((takeI 1073741824 ((takeI 1073741824 (b,false)).2)).2)).2)).1)),(22,vi s1.2.2.2)],[.cells false 0 ([nilS,nilS,vi 0,vi 0,vn .u64 0]), .cells false 0 ([vl (s1.1.map byteE.f),vb s1.2.1]), .cells false 0 ([nilS, .rs 3 0 1 0 s1.2.2.1.length,vi ((takeI 1073741824 (b,false)).1),vi ((takeI 1073741824 ((takeI 1073741824 (b,false)).2)).1),vn .u64 ((takeI 72057594037927935 ((takeI 1073741824 ((takeI 1073741824 (b,false)).2)).2)).1)]),intE.bx 0 s1.2.2.1])
noncomputable def TDec_l1_x (b:List UInt8) (x1:(List UInt8)×Bool×(List Int)):AE×St:=((.exit 0),([(2, .ptr 0 0 0),(4, .ptr 1 0 0),(5, .ptr 2 0 0)],[.cells false 0 ([nilS,nilS,vi 0,vi 0,vn .u64 0]), .cells false 0 ([vl (x1.1.map byteE.f),vb x1.2.1]), .cells false 0 ([nilS, .rs 3 0 1 0 x1.2.2.length,vi ((takeI 1073741824 (b,false)).1),vi ((takeI 1073741824 ((takeI 1073741824 (b,false)).2)).1),vn .u64 ((takeI 72057594037927935 ((takeI 1073741824 ((takeI 1073741824 (b,false)).2)).2)).1)]),intE.bx 0 x1.2.2]))
noncomputable def TDec_l1_b (b:List UInt8) (s1:(List UInt8)×Bool×(List Int)×Int):Tree:=
.sp 23 (decide (s1.2.2.2<((takeI 1000 ((takeI 72057594037927935 ((takeI 1073741824 ((takeI 1073741824 (b,false)).2)).2)).2)).1))) (
.any (.fork (
.callr (some 27) (Δ9b 77 [.ptr 1 0 0,vn .u64 1073741824] [.cells false 0 ([nilS,nilS,vi 0,vi 0,vn .u64 0]), .cells false 0 ([vl (s1.1.map byteE.f),vb s1.2.1]), .cells false 0 ([nilS, .rs 3 0 1 0 s1.2.2.1.length,vi ((takeI 1073741824 (b,false)).1),vi ((takeI 1073741824 ((takeI 1073741824 (b,false)).2)).1),vn .u64 ((takeI 72057594037927935 ((takeI 1073741824 ((takeI 1073741824 (b,false)).2)).2)).1)]),intE.bx 0 s1.2.2.1] (vn .u64 ((takeI 1073741824 (s1.1,s1.2.1)).1)) [.cells false 0 ([nilS,nilS,vi 0,vi 0,vn .u64 0]),rdB (takeI 1073741824 (s1.1,s1.2.1)).2, .cells false 0 ([nilS, .rs 3 0 1 0 s1.2.2.1.length,vi ((takeI 1073741824 (b,false)).1),vi ((takeI 1073741824 ((takeI 1073741824 (b,false)).2)).1),vn .u64 ((takeI 72057594037927935 ((takeI 1073741824 ((takeI 1073741824 (b,false)).2)).2)).1)]),intE.bx 0 s1.2.2.1]) (vn .u64 ((takeI 1073741824 (s1.1,s1.2.1)).1)) [.cells false 0 ([nilS,nilS,vi 0,vi 0,vn .u64 0]),rdB (takeI 1073741824 (s1.1,s1.2.1)).2, .cells false 0 ([nilS, .rs 3 0 1 0 s1.2.2.1.length,vi ((takeI 1073741824 (b,false)).1),vi ((takeI 1073741824 ((takeI 1073741824 (b,false)).2)).1),vn .u64 ((takeI 72057594037927935 ((takeI 1073741824 ((takeI 1073741824 (b,false)).2)).2)).1)]),intE.bx 0 s1.2.2.1] (.int 28 (IntKind.i64.wrap ((takeI 1073741824 (s1.1,s1.2.1)).1)) ((takeI 1073741824 (s1.1,s1.2.1)).1) (.app 30 (.row 1 ([vi ((takeI 1073741824 (s1.1,s1.2.1)).1)])) s1.2.2.1.length (rowC (s1.2.2.1.map intE.f)) intE s1.2.2.1 ([(takeI 1073741824 (s1.1,s1.2.1)).1]) (.int 32 (IntKind.i64.wrap (s1.2.2.2+1)) (s1.2.2.2+1) (.leaf ⟨[2,4,5,21,22],[(0,0,none),(1,0,none),(2,0,none),(3,1,some ((s1.2.2.1++([(takeI 1073741824 (s1.1,s1.2.1)).1])).map intE.f))]⟩ [rowC ((s1.2.2.1++([(takeI 1073741824 (s1.1,s1.2.1)).1])).map intE.f)] .normal (some (TDec_l1_e b ((takeI 1073741824 (s1.1,s1.2.1)).2.1,(takeI 1073741824 (s1.1,s1.2.1)).2.2,s1.2.2.1++([(takeI 1073741824 (s1.1,s1.2.1)).1]),s1.2.2.2+1)))))))) (
.callr (some 27) (Δ9b 77 [.ptr 1 0 0,vn .u64 1073741824] [.cells false 0 ([nilS,nilS,vi 0,vi 0,vn .u64 0]), .cells false 0 ([vl (s1.1.map byteE.f),vb s1.2.1]), .cells false 0 ([nilS, .rs 3 0 1 0 s1.2.2.1.length,vi ((takeI 1073741824 (b,false)).1),vi ((takeI 1073741824 ((takeI 1073741824 (b,false)).2)).1),vn .u64 ((takeI 72057594037927935 ((takeI 1073741824 ((takeI 1073741824 (b,false)).2)).2)).1)]),intE.bx 0 s1.2.2.1] (vn .u64 ((takeI 1073741824 (s1.1,s1.2.1)).1)) [.cells false 0 ([nilS,nilS,vi 0,vi 0,vn .u64 0]),rdB (takeI 1073741824 (s1.1,s1.2.1)).2, .cells false 0 ([nilS, .rs 3 0 1 0 s1.2.2.1.length,vi ((takeI 1073741824 (b,false)).1),vi ((takeI 1073741824 ((takeI 1073741824 (b,false)).2)).1),vn .u64 ((takeI 72057594037927935 ((takeI 1073741824 ((takeI 1073741824 (b,false)).2)).2)).1)]),intE.bx 0 s1.2.2.1]) (vn .u64 ((takeI 1073741824 (s1.1,s1.2.1)).1)) [.cells false 0 ([nilS,nilS,vi 0,vi 0,vn .u64 0]),rdB (takeI 1073741824 (s1.1,s1.2.1)).2, .cells false 0 ([nilS, .rs 3 0 1 0 s1.2.2.1.length,vi ((takeI 1073741824 (b,false)).1),vi ((takeI 1073741824 ((takeI 1073741824 (b,false)).2)).1),vn .u64 ((takeI 72057594037927935 ((takeI 1073741824 ((takeI 1073741824 (b,false)).2)).2)).1)]),intE.bx 0 s1.2.2.1] (.int 28 (IntKind.i64.wrap ((takeI 1073741824 (s1.1,s1.2.1)).1)) ((takeI 1073741824 (s1.1,s1.2.1)).1) (.app 30 (.row 1 ([vi ((takeI 1073741824 (s1.1,s1.2.1)).1)])) s1.2.2.1.length (rowC (s1.2.2.1.map intE.f)) intE s1.2.2.1 ([(takeI 1073741824 (s1.1,s1.2.1)).1]) (.int 32 (IntKind.i64.wrap (s1.2.2.2+1)) (s1.2.2.2+1) (.leaf ⟨[2,4,5,21,22],[(0,0,none),(1,0,none),(2,0,none),(3,1,some ((s1.2.2.1++([(takeI 1073741824 (s1.1,s1.2.1)).1])).map intE.f))]⟩ [rowC ((s1.2.2.1++([(takeI 1073741824 (s1.1,s1.2.1)).1])).map intE.f)] .normal (some (TDec_l1_e b ((takeI 1073741824 (s1.1,s1.2.1)).2.1,(takeI 1073741824 (s1.1,s1.2.1)).2.2,s1.2.2.1++([(takeI 1073741824 (s1.1,s1.2.1)).1]),s1.2.2.2+1)))))))))) (
.leaf ⟨[2,4,5],[(0,0,none),(1,0,none),(2,0,none),(3,0,some (s1.2.2.1.map intE.f))]⟩ [rowC (s1.2.2.1.map intE.f)] (.exit 0) (some (TDec_l1_x b (s1.1,s1.2.1,s1.2.2.1)).2))
noncomputable def TDec_l2_e (b:List UInt8) (x1:(List UInt8)×Bool×(List Int)) (s2:(List UInt8)×Bool×(List Meta)×Int):St:=([(2, .ptr 0 0 0),(4, .ptr 1 0 0),(5, .ptr 2 0 0),(35,vi ((takeI 1000 (x1.1,x1.2.1)).1)),(36,vi s2.2.2.2)],[.cells false 0 ([nilS,nilS,vi 0,vi 0,vn .u64 0]), .cells false 0 ([vl (s2.1.map byteE.f),vb s2.2.1]), .cells false 0 ([.rs 3 0 5 0 s2.2.2.1.length, .rs 4 0 1 0 x1.2.2.length,vi ((takeI 1073741824 (b,false)).1),vi ((takeI 1073741824 ((takeI 1073741824 (b,false)).2)).1),vn .u64 ((takeI 72057594037927935 ((takeI 1073741824 ((takeI 1073741824 (b,false)).2)).2)).1)]),metaE.bx 0 s2.2.2.1,intE.bx 0 x1.2.2])
noncomputable def TDec_l2_x (b:List UInt8) (x1:(List UInt8)×Bool×(List Int)) (x2:(List UInt8)×Bool×(List Meta)):AE×St:=((.exit 2),([(2, .ptr 0 0 0),(4, .ptr 1 0 0),(5, .ptr 2 0 0)],[.cells false 0 ([nilS,nilS,vi 0,vi 0,vn .u64 0]), .cells false 0 ([vl (x2.1.map byteE.f),vb x2.2.1]), .cells false 0 ([.rs 3 0 5 0 x2.2.2.length, .rs 4 0 1 0 x1.2.2.length,vi ((takeI 1073741824 (b,false)).1),vi ((takeI 1073741824 ((takeI 1073741824 (b,false)).2)).1),vn .u64 ((takeI 72057594037927935 ((takeI 1073741824 ((takeI 1073741824 (b,false)).2)).2)).1)]),metaE.bx 0 x2.2.2,intE.bx 0 x1.2.2]))
noncomputable def TDec_l2_b (b:List UInt8) (x1:(List UInt8)×Bool×(List Int)) (s2:(List UInt8)×Bool×(List Meta)×Int):Tree:=
.sp 37 (decide (s2.2.2.2<((takeI 1000 (x1.1,x1.2.1)).1))) (
.callr (some 39) (Δ9b 77 [.ptr 1 0 0,vn .u64 1073741824] [.cells false 0 ([nilS,nilS,vi 0,vi 0,vn .u64 0]), .cells false 0 ([vl (s2.1.map byteE.f),vb s2.2.1]), .cells false 0 ([.rs 3 0 5 0 s2.2.2.1.length, .rs 4 0 1 0 x1.2.2.length,vi ((takeI 1073741824 (b,false)).1),vi ((takeI 1073741824 ((takeI 1073741824 (b,false)).2)).1),vn .u64 ((takeI 72057594037927935 ((takeI 1073741824 ((takeI 1073741824 (b,false)).2)).2)).1)]),metaE.bx 0 s2.2.2.1,intE.bx 0 x1.2.2] (vn .u64 ((takeI 1073741824 (s2.1,s2.2.1)).1)) [.cells false 0 ([nilS,nilS,vi 0,vi 0,vn .u64 0]),rdB (takeI 1073741824 (s2.1,s2.2.1)).2, .cells false 0 ([.rs 3 0 5 0 s2.2.2.1.length, .rs 4 0 1 0 x1.2.2.length,vi ((takeI 1073741824 (b,false)).1),vi ((takeI 1073741824 ((takeI 1073741824 (b,false)).2)).1),vn .u64 ((takeI 72057594037927935 ((takeI 1073741824 ((takeI 1073741824 (b,false)).2)).2)).1)]),metaE.bx 0 s2.2.2.1,intE.bx 0 x1.2.2]) (vn .u64 ((takeI 1073741824 (s2.1,s2.2.1)).1)) [.cells false 0 ([nilS,nilS,vi 0,vi 0,vn .u64 0]),rdB (takeI 1073741824 (s2.1,s2.2.1)).2, .cells false 0 ([.rs 3 0 5 0 s2.2.2.1.length, .rs 4 0 1 0 x1.2.2.length,vi ((takeI 1073741824 (b,false)).1),vi ((takeI 1073741824 ((takeI 1073741824 (b,false)).2)).1),vn .u64 ((takeI 72057594037927935 ((takeI 1073741824 ((takeI 1073741824 (b,false)).2)).2)).1)]),metaE.bx 0 s2.2.2.1,intE.bx 0 x1.2.2] (.int 40 (IntKind.i64.wrap ((takeI 1073741824 (s2.1,s2.2.1)).1)) ((takeI 1073741824 (s2.1,s2.2.1)).1) (.callr (some 42) (Δ9b 77 [.ptr 1 0 0,vn .u64 5] [.cells false 0 ([nilS,nilS,vi 0,vi 0,vn .u64 0]),rdB (takeI 1073741824 (s2.1,s2.2.1)).2, .cells false 0 ([.rs 3 0 5 0 s2.2.2.1.length, .rs 4 0 1 0 x1.2.2.length,vi ((takeI 1073741824 (b,false)).1),vi ((takeI 1073741824 ((takeI 1073741824 (b,false)).2)).1),vn .u64 ((takeI 72057594037927935 ((takeI 1073741824 ((takeI 1073741824 (b,false)).2)).2)).1)]),metaE.bx 0 s2.2.2.1,intE.bx 0 x1.2.2] (vn .u64 ((takeI 5 ((takeI 1073741824 (s2.1,s2.2.1)).2)).1)) [.cells false 0 ([nilS,nilS,vi 0,vi 0,vn .u64 0]),rdB (takeI 5 ((takeI 1073741824 (s2.1,s2.2.1)).2)).2, .cells false 0 ([.rs 3 0 5 0 s2.2.2.1.length, .rs 4 0 1 0 x1.2.2.length,vi ((takeI 1073741824 (b,false)).1),vi ((takeI 1073741824 ((takeI 1073741824 (b,false)).2)).1),vn .u64 ((takeI 72057594037927935 ((takeI 1073741824 ((takeI 1073741824 (b,false)).2)).2)).1)]),metaE.bx 0 s2.2.2.1,intE.bx 0 x1.2.2]) (vn .u64 ((takeI 5 ((takeI 1073741824 (s2.1,s2.2.1)).2)).1)) [.cells false 0 ([nilS,nilS,vi 0,vi 0,vn .u64 0]),rdB (takeI 5 ((takeI 1073741824 (s2.1,s2.2.1)).2)).2, .cells false 0 ([.rs 3 0 5 0 s2.2.2.1.length, .rs 4 0 1 0 x1.2.2.length,vi ((takeI 1073741824 (b,false)).1),vi ((takeI 1073741824 ((takeI 1073741824 (b,false)).2)).1),vn .u64 ((takeI 72057594037927935 ((takeI 1073741824 ((takeI 1073741824 (b,false)).2)).2)).1)]),metaE.bx 0 s2.2.2.1,intE.bx 0 x1.2.2] (.int 43 (IntKind.i64.wrap ((takeI 5 ((takeI 1073741824 (s2.1,s2.2.1)).2)).1)) ((takeI 5 ((takeI 1073741824 (s2.1,s2.2.1)).2)).1) (.callr (some 45) (Δ9b 77 [.ptr 1 0 0,vn .u64 67108864] [.cells false 0 ([nilS,nilS,vi 0,vi 0,vn .u64 0]),rdB (takeI 5 ((takeI 1073741824 (s2.1,s2.2.1)).2)).2, .cells false 0 ([.rs 3 0 5 0 s2.2.2.1.length, .rs 4 0 1 0 x1.2.2.length,vi ((takeI 1073741824 (b,false)).1),vi ((takeI 1073741824 ((takeI 1073741824 (b,false)).2)).1),vn .u64 ((takeI 72057594037927935 ((takeI 1073741824 ((takeI 1073741824 (b,false)).2)).2)).1)]),metaE.bx 0 s2.2.2.1,intE.bx 0 x1.2.2] (vn .u64 ((takeI 67108864 ((takeI 5 ((takeI 1073741824 (s2.1,s2.2.1)).2)).2)).1)) [.cells false 0 ([nilS,nilS,vi 0,vi 0,vn .u64 0]),rdB (takeI 67108864 ((takeI 5 ((takeI 1073741824 (s2.1,s2.2.1)).2)).2)).2, .cells false 0 ([.rs 3 0 5 0 s2.2.2.1.length, .rs 4 0 1 0 x1.2.2.length,vi ((takeI 1073741824 (b,false)).1),vi ((takeI 1073741824 ((takeI 1073741824 (b,false)).2)).1),vn .u64 ((takeI 72057594037927935 ((takeI 1073741824 ((takeI 1073741824 (b,false)).2)).2)).1)]),metaE.bx 0 s2.2.2.1,intE.bx 0 x1.2.2]) (vn .u64 ((takeI 67108864 ((takeI 5 ((takeI 1073741824 (s2.1,s2.2.1)).2)).2)).1)) [.cells false 0 ([nilS,nilS,vi 0,vi 0,vn .u64 0]),rdB (takeI 67108864 ((takeI 5 ((takeI 1073741824 (s2.1,s2.2.1)).2)).2)).2, .cells false 0 ([.rs 3 0 5 0 s2.2.2.1.length, .rs 4 0 1 0 x1.2.2.length,vi ((takeI 1073741824 (b,false)).1),vi ((takeI 1073741824 ((takeI 1073741824 (b,false)).2)).1),vn .u64 ((takeI 72057594037927935 ((takeI 1073741824 ((takeI 1073741824 (b,false)).2)).2)).1)]),metaE.bx 0 s2.2.2.1,intE.bx 0 x1.2.2] (.int 46 (IntKind.i64.wrap ((takeI 67108864 ((takeI 5 ((takeI 1073741824 (s2.1,s2.2.1)).2)).2)).1)) ((takeI 67108864 ((takeI 5 ((takeI 1073741824 (s2.1,s2.2.1)).2)).2)).1) (.callr (some 49) (Δ9b 78 [.ptr 1 0 0] [.cells false 0 ([nilS,nilS,vi 0,vi 0,vn .u64 0]),rdB (takeI 67108864 ((takeI 5 ((takeI 1073741824 (s2.1,s2.2.1)).2)).2)).2, .cells false 0 ([.rs 3 0 5 0 s2.2.2.1.length, .rs 4 0 1 0 x1.2.2.length,vi ((takeI 1073741824 (b,false)).1),vi ((takeI 1073741824 ((takeI 1073741824 (b,false)).2)).1),vn .u64 ((takeI 72057594037927935 ((takeI 1073741824 ((takeI 1073741824 (b,false)).2)).2)).1)]),metaE.bx 0 s2.2.2.1,intE.bx 0 x1.2.2, .cells false 0 ([vi ((takeI 1073741824 (s2.1,s2.2.1)).1),vi ((takeI 5 ((takeI 1073741824 (s2.1,s2.2.1)).2)).1),vs (⟨#[]⟩),vs (⟨#[]⟩),vi ((takeI 67108864 ((takeI 5 ((takeI 1073741824 (s2.1,s2.2.1)).2)).2)).1)])] (vs ((textI ((takeI 67108864 ((takeI 5 ((takeI 1073741824 (s2.1,s2.2.1)).2)).2)).2)).1)) [.cells false 0 ([nilS,nilS,vi 0,vi 0,vn .u64 0]),rdB (textI ((takeI 67108864 ((takeI 5 ((takeI 1073741824 (s2.1,s2.2.1)).2)).2)).2)).2, .cells false 0 ([.rs 3 0 5 0 s2.2.2.1.length, .rs 4 0 1 0 x1.2.2.length,vi ((takeI 1073741824 (b,false)).1),vi ((takeI 1073741824 ((takeI 1073741824 (b,false)).2)).1),vn .u64 ((takeI 72057594037927935 ((takeI 1073741824 ((takeI 1073741824 (b,false)).2)).2)).1)]),metaE.bx 0 s2.2.2.1,intE.bx 0 x1.2.2, .cells false 0 ([vi ((takeI 1073741824 (s2.1,s2.2.1)).1),vi ((takeI 5 ((takeI 1073741824 (s2.1,s2.2.1)).2)).1),vs (⟨#[]⟩),vs (⟨#[]⟩),vi ((takeI 67108864 ((takeI 5 ((takeI 1073741824 (s2.1,s2.2.1)).2)).2)).1)])]) (vs ((textI ((takeI 67108864 ((takeI 5 ((takeI 1073741824 (s2.1,s2.2.1)).2)).2)).2)).1)) [.cells false 0 ([nilS,nilS,vi 0,vi 0,vn .u64 0]),rdB (textI ((takeI 67108864 ((takeI 5 ((takeI 1073741824 (s2.1,s2.2.1)).2)).2)).2)).2, .cells false 0 ([.rs 3 0 5 0 s2.2.2.1.length, .rs 4 0 1 0 x1.2.2.length,vi ((takeI 1073741824 (b,false)).1),vi ((takeI 1073741824 ((takeI 1073741824 (b,false)).2)).1),vn .u64 ((takeI 72057594037927935 ((takeI 1073741824 ((takeI 1073741824 (b,false)).2)).2)).1)]),metaE.bx 0 s2.2.2.1,intE.bx 0 x1.2.2, .cells false 0 ([vi ((takeI 1073741824 (s2.1,s2.2.1)).1),vi ((takeI 5 ((takeI 1073741824 (s2.1,s2.2.1)).2)).1),vs (⟨#[]⟩),vs (⟨#[]⟩),vi ((takeI 67108864 ((takeI 5 ((takeI 1073741824 (s2.1,s2.2.1)).2)).2)).1)])] (.callr (some 51) (Δ9b 78 [.ptr 1 0 0] [.cells false 0 ([nilS,nilS,vi 0,vi 0,vn .u64 0]),rdB (textI ((takeI 67108864 ((takeI 5 ((takeI 1073741824 (s2.1,s2.2.1)).2)).2)).2)).2, .cells false 0 ([.rs 3 0 5 0 s2.2.2.1.length, .rs 4 0 1 0 x1.2.2.length,vi ((takeI 1073741824 (b,false)).1),vi ((takeI 1073741824 ((takeI 1073741824 (b,false)).2)).1),vn .u64 ((takeI 72057594037927935 ((takeI 1073741824 ((takeI 1073741824 (b,false)).2)).2)).1)]),metaE.bx 0 s2.2.2.1,intE.bx 0 x1.2.2, .cells false 0 ([vi ((takeI 1073741824 (s2.1,s2.2.1)).1),vi ((takeI 5 ((takeI 1073741824 (s2.1,s2.2.1)).2)).1),vs (⟨#[]⟩),vs (⟨#[]⟩),vi ((takeI 67108864 ((takeI 5 ((takeI 1073741824 (s2.1,s2.2.1)).2)).2)).1)])] (vs ((textI ((textI ((takeI 67108864 ((takeI 5 ((takeI 1073741824 (s2.1,s2.2.1)).2)).2)).2)).2)).1)) [.cells false 0 ([nilS,nilS,vi 0,vi 0,vn .u64 0]),rdB (textI ((textI ((takeI 67108864 ((takeI 5 ((takeI 1073741824 (s2.1,s2.2.1)).2)).2)).2)).2)).2, .cells false 0 ([.rs 3 0 5 0 s2.2.2.1.length, .rs 4 0 1 0 x1.2.2.length,vi ((takeI 1073741824 (b,false)).1),vi ((takeI 1073741824 ((takeI 1073741824 (b,false)).2)).1),vn .u64 ((takeI 72057594037927935 ((takeI 1073741824 ((takeI 1073741824 (b,false)).2)).2)).1)]),metaE.bx 0 s2.2.2.1,intE.bx 0 x1.2.2, .cells false 0 ([vi ((takeI 1073741824 (s2.1,s2.2.1)).1),vi ((takeI 5 ((takeI 1073741824 (s2.1,s2.2.1)).2)).1),vs (⟨#[]⟩),vs (⟨#[]⟩),vi ((takeI 67108864 ((takeI 5 ((takeI 1073741824 (s2.1,s2.2.1)).2)).2)).1)])]) (vs ((textI ((textI ((takeI 67108864 ((takeI 5 ((takeI 1073741824 (s2.1,s2.2.1)).2)).2)).2)).2)).1)) [.cells false 0 ([nilS,nilS,vi 0,vi 0,vn .u64 0]),rdB (textI ((textI ((takeI 67108864 ((takeI 5 ((takeI 1073741824 (s2.1,s2.2.1)).2)).2)).2)).2)).2, .cells false 0 ([.rs 3 0 5 0 s2.2.2.1.length, .rs 4 0 1 0 x1.2.2.length,vi ((takeI 1073741824 (b,false)).1),vi ((takeI 1073741824 ((takeI 1073741824 (b,false)).2)).1),vn .u64 ((takeI 72057594037927935 ((takeI 1073741824 ((takeI 1073741824 (b,false)).2)).2)).1)]),metaE.bx 0 s2.2.2.1,intE.bx 0 x1.2.2, .cells false 0 ([vi ((takeI 1073741824 (s2.1,s2.2.1)).1),vi ((takeI 5 ((takeI 1073741824 (s2.1,s2.2.1)).2)).1),vs (⟨#[]⟩),vs (⟨#[]⟩),vi ((takeI 67108864 ((takeI 5 ((takeI 1073741824 (s2.1,s2.2.1)).2)).2)).1)])] (.app 58 (.row 1 ([vi ((takeI 1073741824 (s2.1,s2.2.1)).1),vi ((takeI 5 ((takeI 1073741824 (s2.1,s2.2.1)).2)).1),vs ((textI ((takeI 67108864 ((takeI 5 ((takeI 1073741824 (s2.1,s2.2.1)).2)).2)).2)).1),vs ((textI ((textI ((takeI 67108864 ((takeI 5 ((takeI 1073741824 (s2.1,s2.2.1)).2)).2)).2)).2)).1),vi ((takeI 67108864 ((takeI 5 ((takeI 1073741824 (s2.1,s2.2.1)).2)).2)).1)])) s2.2.2.1.length (rowC (s2.2.2.1.map metaE.f)) metaE s2.2.2.1 ([(⟨(takeI 1073741824 (s2.1,s2.2.1)).1,(takeI 5 ((takeI 1073741824 (s2.1,s2.2.1)).2)).1,(textI ((takeI 67108864 ((takeI 5 ((takeI 1073741824 (s2.1,s2.2.1)).2)).2)).2)).1,(textI ((textI ((takeI 67108864 ((takeI 5 ((takeI 1073741824 (s2.1,s2.2.1)).2)).2)).2)).2)).1,(takeI 67108864 ((takeI 5 ((takeI 1073741824 (s2.1,s2.2.1)).2)).2)).1⟩:Meta)]) (.int 60 (IntKind.i64.wrap (s2.2.2.2+1)) (s2.2.2.2+1) (.leaf ⟨[2,4,5,35,36],[(0,0,none),(1,0,none),(2,0,none),(3,1,some ((s2.2.2.1++([(⟨(takeI 1073741824 (s2.1,s2.2.1)).1,(takeI 5 ((takeI 1073741824 (s2.1,s2.2.1)).2)).1,(textI ((takeI 67108864 ((takeI 5 ((takeI 1073741824 (s2.1,s2.2.1)).2)).2)).2)).1,(textI ((textI ((takeI 67108864 ((takeI 5 ((takeI 1073741824 (s2.1,s2.2.1)).2)).2)).2)).2)).1,(takeI 67108864 ((takeI 5 ((takeI 1073741824 (s2.1,s2.2.1)).2)).2)).1⟩:Meta)])).map metaE.f)),(4,0,some (x1.2.2.map intE.f))]⟩ [rowC ((s2.2.2.1++([(⟨(takeI 1073741824 (s2.1,s2.2.1)).1,(takeI 5 ((takeI 1073741824 (s2.1,s2.2.1)).2)).1,(textI ((takeI 67108864 ((takeI 5 ((takeI 1073741824 (s2.1,s2.2.1)).2)).2)).2)).1,(textI ((textI ((takeI 67108864 ((takeI 5 ((takeI 1073741824 (s2.1,s2.2.1)).2)).2)).2)).2)).1,(takeI 67108864 ((takeI 5 ((takeI 1073741824 (s2.1,s2.2.1)).2)).2)).1⟩:Meta)])).map metaE.f),rowC (x1.2.2.map intE.f)] .normal (some (TDec_l2_e b x1 ((textI ((textI ((takeI 67108864 ((takeI 5 ((takeI 1073741824 (s2.1,s2.2.1)).2)).2)).2)).2)).2.1,(textI ((textI ((takeI 67108864 ((takeI 5 ((takeI 1073741824 (s2.1,s2.2.1)).2)).2)).2)).2)).2.2,s2.2.2.1++([(⟨(takeI 1073741824 (s2.1,s2.2.1)).1,(takeI 5 ((takeI 1073741824 (s2.1,s2.2.1)).2)).1,(textI ((takeI 67108864 ((takeI 5 ((takeI 1073741824 (s2.1,s2.2.1)).2)).2)).2)).1,(textI ((textI ((takeI 67108864 ((takeI 5 ((takeI 1073741824 (s2.1,s2.2.1)).2)).2)).2)).2)).1,(takeI 67108864 ((takeI 5 ((takeI 1073741824 (s2.1,s2.2.1)).2)).2)).1⟩:Meta)]),s2.2.2.2+1)))))))))))))) (
.leaf ⟨[2,4,5],[(0,0,none),(1,0,none),(2,0,none),(3,0,some (s2.2.2.1.map metaE.f)),(4,0,some (x1.2.2.map intE.f))]⟩ [rowC (s2.2.2.1.map metaE.f),rowC (x1.2.2.map intE.f)] (.exit 2) (some (TDec_l2_x b x1 (s2.1,s2.2.1,s2.2.2.1)).2))
noncomputable def TDec (b:List UInt8):Tree:=
.callr (some 11) (Δ9b 77 [.ptr 1 0 0,vn .u64 1073741824] [.cells false 0 ([nilS,nilS,vi 0,vi 0,vn .u64 0]), .cells false 0 ([vl (b.map byteE.f),vb false])] (vn .u64 ((takeI 1073741824 (b,false)).1)) [.cells false 0 ([nilS,nilS,vi 0,vi 0,vn .u64 0]),rdB (takeI 1073741824 (b,false)).2]) (vn .u64 ((takeI 1073741824 (b,false)).1)) [.cells false 0 ([nilS,nilS,vi 0,vi 0,vn .u64 0]),rdB (takeI 1073741824 (b,false)).2] (.int 12 (IntKind.i64.wrap ((takeI 1073741824 (b,false)).1)) ((takeI 1073741824 (b,false)).1) (.callr (some 14) (Δ9b 77 [.ptr 1 0 0,vn .u64 1073741824] [.cells false 0 ([nilS,nilS,vi 0,vi 0,vn .u64 0]),rdB (takeI 1073741824 (b,false)).2] (vn .u64 ((takeI 1073741824 ((takeI 1073741824 (b,false)).2)).1)) [.cells false 0 ([nilS,nilS,vi 0,vi 0,vn .u64 0]),rdB (takeI 1073741824 ((takeI 1073741824 (b,false)).2)).2]) (vn .u64 ((takeI 1073741824 ((takeI 1073741824 (b,false)).2)).1)) [.cells false 0 ([nilS,nilS,vi 0,vi 0,vn .u64 0]),rdB (takeI 1073741824 ((takeI 1073741824 (b,false)).2)).2] (.int 15 (IntKind.i64.wrap ((takeI 1073741824 ((takeI 1073741824 (b,false)).2)).1)) ((takeI 1073741824 ((takeI 1073741824 (b,false)).2)).1) (.callr (some 17) (Δ9b 77 [.ptr 1 0 0,vn .u64 72057594037927935] [.cells false 0 ([nilS,nilS,vi 0,vi 0,vn .u64 0]),rdB (takeI 1073741824 ((takeI 1073741824 (b,false)).2)).2] (vn .u64 ((takeI 72057594037927935 ((takeI 1073741824 ((takeI 1073741824 (b,false)).2)).2)).1)) [.cells false 0 ([nilS,nilS,vi 0,vi 0,vn .u64 0]),rdB (takeI 72057594037927935 ((takeI 1073741824 ((takeI 1073741824 (b,false)).2)).2)).2]) (vn .u64 ((takeI 72057594037927935 ((takeI 1073741824 ((takeI 1073741824 (b,false)).2)).2)).1)) [.cells false 0 ([nilS,nilS,vi 0,vi 0,vn .u64 0]),rdB (takeI 72057594037927935 ((takeI 1073741824 ((takeI 1073741824 (b,false)).2)).2)).2] (.callr (some 20) (Δ9b 77 [.ptr 1 0 0,vn .u64 1000] [.cells false 0 ([nilS,nilS,vi 0,vi 0,vn .u64 0]),rdB (takeI 72057594037927935 ((takeI 1073741824 ((takeI 1073741824 (b,false)).2)).2)).2, .cells false 0 ([nilS,nilS,vi ((takeI 1073741824 (b,false)).1),vi ((takeI 1073741824 ((takeI 1073741824 (b,false)).2)).1),vn .u64 ((takeI 72057594037927935 ((takeI 1073741824 ((takeI 1073741824 (b,false)).2)).2)).1)])] (vn .u64 ((takeI 1000 ((takeI 72057594037927935 ((takeI 1073741824 ((takeI 1073741824 (b,false)).2)).2)).2)).1)) [.cells false 0 ([nilS,nilS,vi 0,vi 0,vn .u64 0]),rdB (takeI 1000 ((takeI 72057594037927935 ((takeI 1073741824 ((takeI 1073741824 (b,false)).2)).2)).2)).2, .cells false 0 ([nilS,nilS,vi ((takeI 1073741824 (b,false)).1),vi ((takeI 1073741824 ((takeI 1073741824 (b,false)).2)).1),vn .u64 ((takeI 72057594037927935 ((takeI 1073741824 ((takeI 1073741824 (b,false)).2)).2)).1)])]) (vn .u64 ((takeI 1000 ((takeI 72057594037927935 ((takeI 1073741824 ((takeI 1073741824 (b,false)).2)).2)).2)).1)) [.cells false 0 ([nilS,nilS,vi 0,vi 0,vn .u64 0]),rdB (takeI 1000 ((takeI 72057594037927935 ((takeI 1073741824 ((takeI 1073741824 (b,false)).2)).2)).2)).2, .cells false 0 ([nilS,nilS,vi ((takeI 1073741824 (b,false)).1),vi ((takeI 1073741824 ((takeI 1073741824 (b,false)).2)).1),vn .u64 ((takeI 72057594037927935 ((takeI 1073741824 ((takeI 1073741824 (b,false)).2)).2)).1)])] (.int 21 (IntKind.i64.wrap ((takeI 1000 ((takeI 72057594037927935 ((takeI 1073741824 ((takeI 1073741824 (b,false)).2)).2)).2)).1)) ((takeI 1000 ((takeI 72057594037927935 ((takeI 1073741824 ((takeI 1073741824 (b,false)).2)).2)).2)).1) (.nilcell 2 1 1 (.loop ⟨[2,4,5,21,22],[(0,0,none),(1,0,none),(2,0,none),(3,0,some (([]:List Int).map intE.f))]⟩ [rowC (([]:List Int).map intE.f)] (some (TDec_l1_e b ((takeI 1000 ((takeI 72057594037927935 ((takeI 1073741824 ((takeI 1073741824 (b,false)).2)).2)).2)).2.1,(takeI 1000 ((takeI 72057594037927935 ((takeI 1073741824 ((takeI 1073741824 (b,false)).2)).2)).2)).2.2,([]:List Int),0))) (TDec_l1_e b) (TDec_l1_x b) noX ((takeI 1000 ((takeI 72057594037927935 ((takeI 1073741824 ((takeI 1073741824 (b,false)).2)).2)).2)).2.1,(takeI 1000 ((takeI 72057594037927935 ((takeI 1073741824 ((takeI 1073741824 (b,false)).2)).2)).2)).2.2,([]:List Int),0) (TDec_l1_b b) (fun (x1:(List UInt8)×Bool×(List Int))=> .callr (some 34) (Δ9b 77 [.ptr 1 0 0,vn .u64 1000] [.cells false 0 ([nilS,nilS,vi 0,vi 0,vn .u64 0]), .cells false 0 ([vl (x1.1.map byteE.f),vb x1.2.1]), .cells false 0 ([nilS, .rs 3 0 1 0 x1.2.2.length,vi ((takeI 1073741824 (b,false)).1),vi ((takeI 1073741824 ((takeI 1073741824 (b,false)).2)).1),vn .u64 ((takeI 72057594037927935 ((takeI 1073741824 ((takeI 1073741824 (b,false)).2)).2)).1)]),intE.bx 0 x1.2.2] (vn .u64 ((takeI 1000 (x1.1,x1.2.1)).1)) [.cells false 0 ([nilS,nilS,vi 0,vi 0,vn .u64 0]),rdB (takeI 1000 (x1.1,x1.2.1)).2, .cells false 0 ([nilS, .rs 3 0 1 0 x1.2.2.length,vi ((takeI 1073741824 (b,false)).1),vi ((takeI 1073741824 ((takeI 1073741824 (b,false)).2)).1),vn .u64 ((takeI 72057594037927935 ((takeI 1073741824 ((takeI 1073741824 (b,false)).2)).2)).1)]),intE.bx 0 x1.2.2]) (vn .u64 ((takeI 1000 (x1.1,x1.2.1)).1)) [.cells false 0 ([nilS,nilS,vi 0,vi 0,vn .u64 0]),rdB (takeI 1000 (x1.1,x1.2.1)).2, .cells false 0 ([nilS, .rs 3 0 1 0 x1.2.2.length,vi ((takeI 1073741824 (b,false)).1),vi ((takeI 1073741824 ((takeI 1073741824 (b,false)).2)).1),vn .u64 ((takeI 72057594037927935 ((takeI 1073741824 ((takeI 1073741824 (b,false)).2)).2)).1)]),intE.bx 0 x1.2.2] (.int 35 (IntKind.i64.wrap ((takeI 1000 (x1.1,x1.2.1)).1)) ((takeI 1000 (x1.1,x1.2.1)).1) (.nilcell 2 0 5 (.loop ⟨[2,4,5,35,36],[(0,0,none),(1,0,none),(2,0,none),(4,0,some (([]:List Meta).map metaE.f)),(3,0,some (x1.2.2.map intE.f))]⟩ [rowC (([]:List Meta).map metaE.f),rowC (x1.2.2.map intE.f)] (some (TDec_l2_e b x1 ((takeI 1000 (x1.1,x1.2.1)).2.1,(takeI 1000 (x1.1,x1.2.1)).2.2,([]:List Meta),0))) (TDec_l2_e b x1) (TDec_l2_x b x1) noX ((takeI 1000 (x1.1,x1.2.1)).2.1,(takeI 1000 (x1.1,x1.2.1)).2.2,([]:List Meta),0) (TDec_l2_b b x1) (fun (x2:(List UInt8)×Bool×(List Meta))=> .sp 64 x2.2.1 (
.leaf ⟨[0],[]⟩ [] .ret (some ([(0, .tup [.agg [nilS,nilS,vi 0,vi 0,vn .u64 0],vi 2])],[]))) (
.int 70 ((x2.1.map byteE.f).length:Int) (x2.1.length:Int) (.sp 71 (decide ((x2.1.length:Int)>(0:Int))) (
.leaf ⟨[0],[]⟩ [] .ret (some ([(0, .tup [.agg [nilS,nilS,vi 0,vi 0,vn .u64 0],vi 2])],[]))) (
.leaf ⟨[0],[(3,0,some (x2.2.2.map metaE.f)),(4,0,some (x1.2.2.map intE.f))]⟩ [rowC (x2.2.2.map metaE.f),rowC (x1.2.2.map intE.f)] .ret (some ([(0, .tup [.agg [.rs 0 0 5 0 x2.2.2.length, .rs 1 0 1 0 x1.2.2.length,vi ((takeI 1073741824 (b,false)).1),vi ((takeI 1073741824 ((takeI 1073741824 (b,false)).2)).1),vn .u64 ((takeI 72057594037927935 ((takeI 1073741824 ((takeI 1073741824 (b,false)).2)).2)).1)],vi 0])],[metaE.bx 0 x2.2.2,intE.bx 0 x1.2.2])))))) (fun _=> .stuck))))) (fun _=> .stuck)))))))))

theorem TDec_chk (b:List UInt8):fnC DP Γ9 Δ9b Tryd.f42 [vl (b.map byteE.f)] [] (TDec b)=TDec b:=by kernel_rfl

end Go.Ax
