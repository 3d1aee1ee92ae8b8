/- Trees, printed by gen/w1.py. -/
import Derived.Test.YtbdfbdlfipcleaaGreatDoorG40
set_option linter.unusedVariables false
set_option linter.unusedSimpArgs false
set_option linter.unusedSectionVars false
namespace Go.Ax
open Go.Proofs Go.RowKit
set_option maxRecDepth 100000

noncomputable def ΓQ1:Env:=envP [(iRep,gRep),(iChkE,gChkE),(iCmpE,gCmpE)]

abbrev iBigL:Nat:=5
noncomputable abbrev nBigL:Func:=Tryz.f5
theorem hfBigL:DP.funcs[iBigL]? = some nBigL:=by kernel_rfl
theorem heBigL:enters DP iBigL=true:=by kernel_rfl
theorem hbBigL:nBigL.body.isSome=true:=by kernel_rfl
abbrev iSomeL:Nat:=6
noncomputable abbrev nSomeL:Func:=Tryz.f6
theorem hfSomeL:DP.funcs[iSomeL]? = some nSomeL:=by kernel_rfl
theorem heSomeL:enters DP iSomeL=true:=by kernel_rfl
theorem hbSomeL:nSomeL.body.isSome=true:=by kernel_rfl
noncomputable def TBigL_l1_e (L:List Ent) (s1:Int):St:=([(8,vl (L.map entE.f)),(9,vi (L.length:Int)),(10,vi s1)],[])
noncomputable def TBigL_l1_x (x1:Unit):AE×St:=(.ret,([(2,vb true)],[]))
noncomputable def TBigL_l1_x' (y1:Unit):AE×St:=((.exit 0),([],[]))
noncomputable def TBigL_l1_b (L:List Ent) (s1:Int):Tree:=
.sp 11 (decide (s1<(L.length:Int))) (
.elem 12 (L.map entE.f) entE L s1 (fun e1=> .sp 17 (decide ((e1.key.size:Int)>(200:Int))) (
.leaf ⟨[2],[]⟩ [] .ret (some (TBigL_l1_x ()).2)) (
.sp 22 (decide ((e1.val.size:Int)>(200:Int))) (
.leaf ⟨[2],[]⟩ [] .ret (some (TBigL_l1_x ()).2)) (
.int 24 (IntKind.i64.wrap (s1+1)) (s1+1) (.leaf ⟨[8,9,10],[]⟩ [] .normal (some (TBigL_l1_e L (s1+1)))))))) (
.leaf ⟨[],[]⟩ [] (.exit 0) (some (TBigL_l1_x' ()).2))
noncomputable def TBigL (L:List Ent):Tree:=
.int 6 ((L.map entE.f).length:Int) (L.length:Int) (.sp 7 (decide ((L.length:Int)>(40:Int))) (
.leaf ⟨[0],[]⟩ [] .ret (some ([(0,vb true)],[]))) (
.int 9 ((L.map entE.f).length:Int) (L.length:Int) (.loop ⟨[8,9,10],[]⟩ [] (some (TBigL_l1_e L 0)) (TBigL_l1_e L) (TBigL_l1_x) (TBigL_l1_x') 0 (TBigL_l1_b L) (fun (x1:Unit)=> .leaf ⟨[0],[]⟩ [] .ret (some ([(0,vb true)],[]))) (fun (y1:Unit)=> .leaf ⟨[0],[]⟩ [] .ret (some ([(0,vb false)],[]))))))

theorem TBigL_chk (L:List Ent):fnC DP Γ0 Δ0 Tryz.f5 [vl (L.map entE.f)] [] (TBigL L)=TBigL L:=by kernel_rfl

noncomputable def TSomeL_l1_e (L:List Ent) (t:Int) (s1:(List Ent)×Int):St:=([(1,vi t),(5, .rs 0 0 4 0 s1.1.length),(11,vl (L.map entE.f)),(12,vi (L.length:Int)),(13,vi s1.2)],[entE.bx 0 s1.1])
noncomputable def TSomeL_l1_x (x1:(List Ent)):AE×St:=((.exit 0),([(5, .rs 0 0 4 0 x1.length)],[entE.bx 0 x1]))
noncomputable def TSomeL_j2_e (L:List Ent) (t:Int) (s1:(List Ent)×Int) (j2:Ent):St:=([(1,vi t),(5, .rs 0 0 4 0 s1.1.length),(7, .ptr 1 0 0),(11,vl (L.map entE.f)),(12,vi (L.length:Int)),(13,vi s1.2)],[entE.bx 0 s1.1, .cells false 0 ([vs j2.key,vn .u64 j2.seq,vb j2.del,vs j2.val])])
noncomputable def TSomeL_l3_e (L:List Ent) (t:Int) (s1:(List Ent)×Int) (j2:Ent) (s3:Int):St:=([(1,vi t),(5, .rs 0 0 4 0 s1.1.length),(7, .ptr 1 0 0),(8,vi s3),(11,vl (L.map entE.f)),(12,vi (L.length:Int)),(13,vi s1.2)],[entE.bx 0 s1.1, .cells false 0 ([vs j2.key,vn .u64 j2.seq,vb j2.del,vs j2.val])])
noncomputable def TSomeL_l3_x (L:List Ent) (t:Int) (s1:(List Ent)×Int) (j2:Ent) (x3:Int):AE×St:=((.exit 2),([(1,vi t),(5, .rs 0 0 4 0 s1.1.length),(7, .ptr 1 0 0),(8,vi x3),(11,vl (L.map entE.f)),(12,vi (L.length:Int)),(13,vi s1.2)],[entE.bx 0 s1.1, .cells false 0 ([vs j2.key,vn .u64 j2.seq,vb j2.del,vs j2.val])]))
noncomputable def TSomeL_l3_b (L:List Ent) (t:Int) (s1:(List Ent)×Int) (j2:Ent) (s3:Int):Tree:=
.sp 33 (decide (s3<((s1.1.length:Nat):Int))) (
.ridx 37 s1.1.length s3 (.rload 38 (rowC (s1.1.map entE.f)) (0+Int.toNat s3*4) entE s1.1 s3 0 (fun e2=> .call 40 (gCmpE [(entE.av e2),(entE.av j2)]=some (vi (cmpE e2 j2))) (vi (cmpE e2 j2)) (.sp 41 (decide ((cmpE e2 j2)<(0:Int))) (
.int 44 (IntKind.i64.wrap (s3+1)) (s3+1) (.leaf ⟨[1,5,7,8,11,12,13],[(0,0,some (s1.1.map entE.f)),(1,0,none)]⟩ [rowC (s1.1.map entE.f)] .normal (some (TSomeL_l3_e L t s1 j2 (s3+1))))) (
.leaf ⟨[1,5,7,8,11,12,13],[(0,0,some (s1.1.map entE.f)),(1,0,none)]⟩ [rowC (s1.1.map entE.f)] (.exit 2) (some (TSomeL_l3_x L t s1 j2 s3).2)))))) (
.leaf ⟨[1,5,7,8,11,12,13],[(0,0,some (s1.1.map entE.f)),(1,0,none)]⟩ [rowC (s1.1.map entE.f)] (.exit 2) (some (TSomeL_l3_x L t s1 j2 s3).2))
noncomputable def TSomeL_j4_e (L:List Ent) (t:Int) (s1:(List Ent)×Int) (j2:Ent) (x3:Int) (j4:Bool):St:=([(1,vi t),(5, .rs 0 0 4 0 s1.1.length),(7, .ptr 1 0 0),(8,vi x3),(11,vl (L.map entE.f)),(12,vi (L.length:Int)),(13,vi s1.2),(57,vb j4)],[entE.bx 0 s1.1, .cells false 0 ([vs j2.key,vn .u64 j2.seq,vb j2.del,vs j2.val])])
noncomputable def TSomeL_j4 (L:List Ent) (t:Int) (s1:(List Ent)×Int) (j2:Ent) (x3:Int) (j4:Bool):Tree:=
.br j4 (
.int 72 (IntKind.i64.wrap (s1.2+1)) (s1.2+1) (.leaf ⟨[1,5,11,12,13],[(0,0,some (s1.1.map entE.f))]⟩ [rowC (s1.1.map entE.f)] .normal (some (TSomeL_l1_e L t (s1.1,s1.2+1))))) (
.rcut 61 s1.1.length none (some x3) (.app 62 (.part (0+loN none*4) (hiN (some x3) s1.1.length - loN none) (rowC (s1.1.map entE.f))) (([]:List Ent).length) (rowC (([]:List Ent).map entE.f)) entE ([]:List Ent) (cutL none (some x3) s1.1) (.app 66 (.row 1 ([vs j2.key,vn .u64 j2.seq,vb j2.del,vs j2.val])) ((([]:List Ent)++(cutL none (some x3) s1.1)).length) (rowC ((([]:List Ent)++(cutL none (some x3) s1.1)).map entE.f)) entE (([]:List Ent)++(cutL none (some x3) s1.1)) ([j2]) (.rcut 70 s1.1.length (some x3) none (.app 71 (.part (0+loN (some x3)*4) (hiN none s1.1.length - loN (some x3)) (rowC (s1.1.map entE.f))) (((([]:List Ent)++(cutL none (some x3) s1.1))++([j2])).length) (rowC (((([]:List Ent)++(cutL none (some x3) s1.1))++([j2])).map entE.f)) entE ((([]:List Ent)++(cutL none (some x3) s1.1))++([j2])) (cutL (some x3) none s1.1) (.int 72 (IntKind.i64.wrap (s1.2+1)) (s1.2+1) (.leaf ⟨[1,5,11,12,13],[(2,3,some ((((([]:List Ent)++(cutL none (some x3) s1.1))++([j2]))++(cutL (some x3) none s1.1)).map entE.f))]⟩ [rowC ((((([]:List Ent)++(cutL none (some x3) s1.1))++([j2]))++(cutL (some x3) none s1.1)).map entE.f)] .normal (some (TSomeL_l1_e L t (((([]:List Ent)++(cutL none (some x3) s1.1))++([j2]))++(cutL (some x3) none s1.1),s1.2+1))))))))))
noncomputable def TSomeL_j2 (L:List Ent) (t:Int) (s1:(List Ent)×Int) (j2:Ent):Tree:=
.call 28 (gChkE [(entE.av j2)]=some (vi (chkE j2))) (vi (chkE j2)) (.sp 29 ((chkE j2) != (0:Int)) (
.int 72 (IntKind.i64.wrap (s1.2+1)) (s1.2+1) (.leaf ⟨[1,5,11,12,13],[(0,0,some (s1.1.map entE.f))]⟩ [rowC (s1.1.map entE.f)] .normal (some (TSomeL_l1_e L t (s1.1,s1.2+1))))) (
.loop ⟨[1,5,7,8,11,12,13],[(0,0,some (s1.1.map entE.f)),(1,0,none)]⟩ [rowC (s1.1.map entE.f)] (some (TSomeL_l3_e L t s1 j2 0)) (TSomeL_l3_e L t s1 j2) (TSomeL_l3_x L t s1 j2) noX 0 (TSomeL_l3_b L t s1 j2) (fun (x3:Int)=> .sp 48 (decide (x3<((s1.1.length:Nat):Int))) (
.ridx 52 s1.1.length x3 (.rload 53 (rowC (s1.1.map entE.f)) (0+Int.toNat x3*4) entE s1.1 x3 0 (fun e3=> .call 55 (gCmpE [(entE.av e3),(entE.av j2)]=some (vi (cmpE e3 j2))) (vi (cmpE e3 j2)) (.sp 56 ((cmpE e3 j2) == (0:Int)) (
.join ⟨[1,5,7,8,11,12,13,57],[(0,0,some (s1.1.map entE.f)),(1,0,none)]⟩ [rowC (s1.1.map entE.f)] (some (TSomeL_j4_e L t s1 j2 x3 true)) (TSomeL_j4_e L t s1 j2 x3) true (TSomeL_j4 L t s1 j2 x3)) (
.join ⟨[1,5,7,8,11,12,13,57],[(0,0,some (s1.1.map entE.f)),(1,0,none)]⟩ [rowC (s1.1.map entE.f)] (some (TSomeL_j4_e L t s1 j2 x3 false)) (TSomeL_j4_e L t s1 j2 x3) false (TSomeL_j4 L t s1 j2 x3)))))) (
.join ⟨[1,5,7,8,11,12,13,57],[(0,0,some (s1.1.map entE.f)),(1,0,none)]⟩ [rowC (s1.1.map entE.f)] (some (TSomeL_j4_e L t s1 j2 x3 false)) (TSomeL_j4_e L t s1 j2 x3) false (TSomeL_j4 L t s1 j2 x3))) (fun _=> .stuck)))
noncomputable def TSomeL_l1_b (L:List Ent) (t:Int) (s1:(List Ent)×Int):Tree:=
.sp 14 (decide (s1.2<(L.length:Int))) (
.elem 15 (L.map entE.f) entE L s1.2 (fun e1=> .sp 18 e1.del (
.go (.join ⟨[1,5,7,11,12,13],[(0,0,some (s1.1.map entE.f)),(1,0,none)]⟩ [rowC (s1.1.map entE.f)] (some (TSomeL_j2_e L t s1 e1)) (TSomeL_j2_e L t s1) e1 (TSomeL_j2 L t s1))) (
.int 23 (IntKind.i64.wrap ((BitVec.ofInt IntKind.i64.bits t &&& BitVec.ofInt IntKind.i64.bits 63).toNat)) (t % 64) (.int 24 (IntKind.i64.wrap (1+(t % 64))) (1+(t % 64)) (.call 25 (gRep [vs e1.val,vi (1+(t % 64))]=some (vs (repB e1.val (Int.toNat (1+(t % 64)))))) (vs (repB e1.val (Int.toNat (1+(t % 64))))) (.join ⟨[1,5,7,11,12,13],[(0,0,some (s1.1.map entE.f)),(1,0,none)]⟩ [rowC (s1.1.map entE.f)] (some (TSomeL_j2_e L t s1 (⟨e1.key,e1.seq,e1.del,(repB e1.val (Int.toNat (1+(t % 64))))⟩:Ent))) (TSomeL_j2_e L t s1) (⟨e1.key,e1.seq,e1.del,(repB e1.val (Int.toNat (1+(t % 64))))⟩:Ent) (TSomeL_j2 L t s1))))))) (
.leaf ⟨[5],[(0,0,some (s1.1.map entE.f))]⟩ [rowC (s1.1.map entE.f)] (.exit 0) (some (TSomeL_l1_x s1.1).2))
noncomputable def TSomeL (L:List Ent) (t:Int):Tree:=
.int 12 ((L.map entE.f).length:Int) (L.length:Int) (.loop ⟨[1,5,11,12,13],[(0,0,some (([]:List Ent).map entE.f))]⟩ [rowC (([]:List Ent).map entE.f)] (some (TSomeL_l1_e L t (([]:List Ent),0))) (TSomeL_l1_e L t) (TSomeL_l1_x) noX (([]:List Ent),0) (TSomeL_l1_b L t) (fun (x1:(List Ent))=> .leaf ⟨[0],[(0,0,some (x1.map entE.f))]⟩ [rowC (x1.map entE.f)] .ret (some ([(0, .rs 0 0 4 0 x1.length)],[entE.bx 0 x1]))) (fun _=> .stuck))

theorem TSomeL_chk (L:List Ent) (t:Int):fnC DP ΓQ1 Δ0 Tryz.f6 [vl (L.map entE.f),vi t] [] (TSomeL L t)=TSomeL L t:=by kernel_rfl

end Go.Ax

namespace Go.Ax
open Go.Proofs Go.RowKit
set_option maxRecDepth 100000

def bigE (L:List Ent):Bool:=decide (40<L.length)||L.any fun x=>decide (200<x.key.size)||decide (200<x.val.size)
theorem bigE_false {L:List Ent} (h:bigE L=false):L.length≤40∧∀ x∈L,x.key.size≤200∧x.val.size≤200:=by
 unfold bigE at h
 rw[Bool.or_eq_false_iff,List.any_eq_false] at h
 refine ⟨by have:=of_decide_eq_false h.1; omega,fun x hx=>?_⟩
 have:=h.2 x hx
 rw[Bool.or_eq_true,decide_eq_true_eq,decide_eq_true_eq] at this
 omega
def bigX (b:Bool):Unit ⊕ Unit:=if b then .inl () else .inr ()
theorem big_r (L:List Ent) (hN:L.length≤1000000):∀ (M:List Ent) (i:Nat),L.drop i=M→i+M.length=L.length→Rounds (TBigL_l1_e L) TBigL_l1_x TBigL_l1_x' (fun s=>(TBigL_l1_b L s).wp) (i:Int) (bigX (M.any fun x=>decide (200<x.key.size)||decide (200<x.val.size))):=by
 intro M
 induction M with
 | nil=>
  intro i hM hl
  simp only[List.length_nil] at hl
  refine .done' (by intro e; cases e) ?_
  unfold TBigL_l1_b
  exact wp_sp (fun h'=>absurd (of_decide_eq_true h') (by omega)) (fun _=>wp_leaf rfl ⟨rfl,rfl⟩)
 | cons x M ih=>
  intro i hM hl
  simp only[List.length_cons] at hl
  have gx:L[i]? = some x:=by rw[←List.head?_drop,hM]; rfl
  have hM':L.drop (i+1)=M:=by rw[←List.drop_drop,hM]; rfl
  have hr:=ih (i+1) hM' (by omega)
  rw[List.any_cons]
  by_cases h1:200<x.key.size
  ·rw[decide_eq_true h1,Bool.true_or,Bool.true_or]
   refine .done (by intro e; cases e) ?_
   unfold TBigL_l1_b
   exact wp_sp (fun _=>wp_elem0 x (by omega) (by simpa using gx) (wp_sp (fun _=>wp_leaf rfl ⟨rfl,rfl⟩) (fun q=>absurd (of_decide_eq_false q) (by omega)))) (fun h'=>absurd (of_decide_eq_false h') (by omega))
  ·by_cases h2:200<x.val.size
   ·rw[decide_eq_true h2,Bool.or_true,Bool.true_or]
    refine .done (by intro e; cases e) ?_
    unfold TBigL_l1_b
    exact wp_sp (fun _=>wp_elem0 x (by omega) (by simpa using gx) (wp_sp (fun _=>wp_leaf rfl ⟨rfl,rfl⟩) (fun _=>wp_sp (fun _=>wp_leaf rfl ⟨rfl,rfl⟩) (fun q=>absurd (of_decide_eq_false q) (by omega))))) (fun h'=>absurd (of_decide_eq_false h') (by omega))
   ·rw[decide_eq_false h1,decide_eq_false h2,Bool.false_or,Bool.false_or]
    rw[show ((i+1:Nat):Int)=(i:Int)+1 by omega] at hr
    refine .next ?_ hr
    unfold TBigL_l1_b
    exact wp_sp (fun _=>wp_elem0 x (by omega) (by simpa using gx) (wp_sp (fun q=>absurd (of_decide_eq_true q) (by omega)) (fun _=>wp_sp (fun q=>absurd (of_decide_eq_true q) (by omega)) (fun _=>wp_i64 (by omega) (wp_leaf rfl ⟨rfl,rfl⟩))))) (fun h'=>absurd (of_decide_eq_false h') (by omega))
def RBigL:List AV→AV→Prop:=fun args r=>∃ L:List Ent,args= [vl (L.map entE.f)]∧r=vb (bigE L)
noncomputable def gBigL:=relG RBigL
theorem SBigL:SoundF DP iBigL (.pure gBigL):=sound_pureT mixedD Γ0_ok Δ0_ok hfBigL heBigL hbBigL (by
 rintro args r ⟨L,rfl,rfl⟩
 refine ⟨rfl,rfl,_,TBigL_chk L,?_⟩
 unfold TBigL bigE
 refine wp_len (wp_sp (fun h=>?_) (fun h=>?_))
 ·have h:=of_decide_eq_true h
  rw[decide_eq_true (by omega:40<L.length),Bool.true_or]
  exact wp_leaf rfl (.p _)
 ·have h:=of_decide_eq_false h
  rw[decide_eq_false (by omega:¬40<L.length),Bool.false_or]
  have hr:=big_r L (by omega) L 0 List.drop_zero (Nat.zero_add _)
  refine wp_len ?_
  cases hc:(L.any fun x=>decide (200<x.key.size)||decide (200<x.val.size)) with
  | true=>
   rw[hc] at hr
   exact wp_loop _ rfl hr (wp_leaf rfl (.p _))
  | false=>
   rw[hc] at hr
   exact wp_loop' _ rfl hr (wp_leaf rfl (.p _)))
theorem gBigL_eq (L:List Ent):gBigL [vl (L.map entE.f)]=some (vb (bigE L)):=relG_eq (by
 rintro args r r' ⟨a,h1,rfl⟩ ⟨b,h2,rfl⟩
 have h:=one_arg' (h1.symm.trans h2)
 simp only[AV.p.injEq,PV.ls.injEq] at h
 rw[ents_inj h]) ⟨L,rfl,rfl⟩

theorem and63 (t:Int):IntKind.i64.wrap ((BitVec.ofInt IntKind.i64.bits t &&& BitVec.ofInt IntKind.i64.bits 63).toNat)=t % 64:=by
 have h:(BitVec.ofInt IntKind.i64.bits t &&& BitVec.ofInt IntKind.i64.bits 63).toNat=(t % 64).toNat:=by
  show (BitVec.ofInt 64 t &&& BitVec.ofInt 64 63).toNat=_
  rw[BitVec.toNat_and,BitVec.toNat_ofInt,show (BitVec.ofInt 64 63).toNat=2 ^ 6 - 1 by decide,Nat.and_two_pow_sub_one_eq_mod]
  omega
 rw[h,IntKind.wrap_i64]
 omega
theorem ΓQ1_ok:∀ f,SoundF DP f (ΓQ1 f):=envP_cons SRep (envP_cons SChkE (envP_cons SCmpE envP_nil))
section
variable {L : List Ent} {t : Int} {out : List Ent} {i : Nat} {x : Ent} {K : AE → St → Prop}
theorem at_rounds (hO:out.length≤1000000):∀ (j s:Nat),s+j=insAt x out→Rounds (TSomeL_l3_e L t (out,(i:Int)) x) (TSomeL_l3_x L t (out,(i:Int)) x) noX (fun z=>(TSomeL_l3_b L t (out,(i:Int)) x z).wp) (s:Int) (.inl ((insAt x out:Nat):Int)):=by
 have hle:=insAt_le x out
 intro j
 induction j with
 | zero=>
  intro s hs
  rw[Nat.add_zero] at hs
  subst hs
  refine .done (by intro e; cases e) ?_
  unfold TSomeL_l3_b
  refine wp_sp (fun h=>?_) (fun _=>wp_leaf rfl ⟨rfl,rfl⟩)
  have h:=of_decide_eq_true h
  simp only at h
  obtain ⟨y,hy⟩:∃ y,out[insAt x out]? = some y:=⟨_,List.getElem?_eq_getElem (by omega)⟩
  have hn:=insAt_at x out y hy
  rw[←cmp_neg] at hn
  exact wp_ridx (by omega) (by simp only; omega) (wp_rload y (by omega) (by simp[entE]) (by simpa using hy) (wp_call (gCmpE_eq y x) (wp_sp (fun q=>absurd (of_decide_eq_true q) hn) (fun _=>wp_leaf rfl ⟨rfl,rfl⟩))))
 | succ j ih=>
  intro s hs
  have hr:=ih (s+1) (by omega)
  rw[show ((s+1:Nat):Int)=(s:Int)+1 by omega] at hr
  obtain ⟨y,hy⟩:∃ y,out[s]? = some y:=⟨_,List.getElem?_eq_getElem (by omega)⟩
  have hn:=insAt_lt x out s y (by omega) hy
  rw[←cmp_neg] at hn
  refine .next ?_ hr
  unfold TSomeL_l3_b
  exact wp_sp (fun _=>wp_ridx (by omega) (by simp only; omega) (wp_rload y (by omega) (by simp[entE]) (by simpa using hy) (wp_call (gCmpE_eq y x) (wp_sp (fun _=>wp_i64 (by omega) (wp_leaf rfl ⟨rfl,rfl⟩)) (fun q=>absurd hn (of_decide_eq_false q)))))) (fun h'=>absurd (of_decide_eq_false h') (by simp only; omega))
theorem some_j4t (hi:i≤1000000) (k:Int) (h:K .normal (TSomeL_l1_e L t (out,(i:Int)+1))):(TSomeL_j4 L t (out,(i:Int)) x k true).wp K:=by
 unfold TSomeL_j4
 exact wp_br (fun _=>wp_i64 (by simp only; omega) (wp_leaf rfl h)) (fun q=>by cases q)
theorem rows_cut (out:List Ent) (k:Nat):(rowC (out.map entE.f)).drop (k*entE.sz)=rowC ((out.drop k).map entE.f):=by
 have h:=congrArg (fun z=>rowC (z.map entE.f)) (List.take_append_drop k out)
 simp only[List.map_append,rowC_append] at h
 rw[←take_row] at h
 exact (List.append_cancel_left (h.trans (List.take_append_drop _ _).symm)).symm
theorem part_lo {out:List Ent} {k:Nat} (h:k≤out.length):(ASrc.part (0+loN none*4) (hiN (some (k:Int)) out.length - loN none) (rowC (out.map entE.f))).ok entE (cutL none (some (k:Int)) out):=by
 refine ⟨?_,?_⟩
 ·show Int.toNat (k:Int) - 0=(out.take (Int.toNat (k:Int))).length
  rw[Int.toNat_natCast,List.length_take]; omega
 ·show ((rowC (out.map entE.f)).drop (0+0*4)).take ((Int.toNat (k:Int) - 0)*entE.sz)=rowC ((out.take (Int.toNat (k:Int))).map entE.f)
  rw[Int.toNat_natCast,Nat.zero_mul,Nat.add_zero,List.drop_zero,Nat.sub_zero,take_row]
theorem part_hi {out:List Ent} {k:Nat} (h:k≤out.length):(ASrc.part (0+loN (some (k:Int))*4) (hiN none out.length - loN (some (k:Int))) (rowC (out.map entE.f))).ok entE (cutL (some (k:Int)) none out):=by
 refine ⟨?_,?_⟩
 ·show out.length - Int.toNat (k:Int)=(out.drop (Int.toNat (k:Int))).length
  rw[List.length_drop]
 ·show ((rowC (out.map entE.f)).drop (0+Int.toNat (k:Int)*4)).take ((out.length - Int.toNat (k:Int))*entE.sz)=rowC ((out.drop (Int.toNat (k:Int))).map entE.f)
  rw[Int.toNat_natCast,Nat.zero_add,show k*4=k*entE.sz from rfl,rows_cut,List.take_of_length_le]
  rw[entE.elt.rowLen,List.length_drop]
  exact Nat.le_refl _
theorem some_j4f (hi:i≤1000000) (hO:out.length≤1000000) {k:Nat} (hk:k≤out.length) (h:K .normal (TSomeL_l1_e L t (out.take k++x::out.drop k,(i:Int)+1))):(TSomeL_j4 L t (out,(i:Int)) x (k:Int) false).wp K:=by
 have e1:cutL none (some (k:Int)) out=out.take k:=rfl
 have e2:cutL (some (k:Int)) none out=out.drop k:=rfl
 have l1:(out.take k).length≤k:=by rw[List.length_take]; omega
 have l2:(out.drop k).length=out.length - k:=List.length_drop
 unfold TSomeL_j4
 refine wp_br (fun q=>by cases q) (fun _=>wp_rcut (by simp only[cutOk]; omega) (wp_app (part_lo hk) rfl ?_ (wp_app ⟨rfl,?_⟩ rfl ?_ (wp_rcut (by simp only[cutOk]; omega) (wp_app (part_hi hk) rfl ?_ (wp_i64 (by simp only; omega) (wp_leaf rfl ?_)))))))
 ·rw[e1,List.nil_append]; omega
 ·rfl
 ·rw[e1,List.nil_append,List.length_append]; simp only[List.length_singleton]; omega
 ·rw[e1,e2,List.nil_append,List.length_append,List.length_append]; simp only[List.length_singleton]; omega
 ·rw[e1,e2,List.nil_append,List.append_assoc]
  exact h
theorem some_j2 (hi:i≤1000000) (hO:out.length≤1000000) (h:K .normal (TSomeL_l1_e L t (if chkE x≠0 then out else insE x out,(i:Int)+1))):(TSomeL_j2 L t (out,(i:Int)) x).wp K:=by
 unfold TSomeL_j2
 refine wp_call (gChkE_eq x) (wp_sp (fun q=>?_) (fun q=>?_))
 ·have q:chkE x≠0:=by simpa using q
  rw[if_pos q] at h
  exact wp_i64 (by simp only; omega) (wp_leaf rfl h)
 have q:chkE x=0:=by simpa using q
 rw[if_neg (by rw[q]; exact fun z=>z rfl),insE_eq] at h
 have hle:=insAt_le x out
 refine wp_loop _ rfl (at_rounds hO (insAt x out) 0 (by omega)) (wp_sp (fun g=>?_) (fun g=>?_))
 ·have g:=of_decide_eq_true g
  simp only at g
  obtain ⟨y,hy⟩:∃ y,out[insAt x out]? = some y:=⟨_,List.getElem?_eq_getElem (by omega)⟩
  rw[hy] at h
  simp only at h
  refine wp_ridx (by omega) (by simp only; omega) (wp_rload y (by omega) (by simp[entE]) (by simpa using hy) (wp_call (gCmpE_eq y x) (wp_sp (fun w=>wp_join rfl (some_j4t hi _ ?_)) (fun w=>wp_join rfl (some_j4f hi hO hle ?_)))))
  ·rw[if_pos ((cmp_zero y x).1 (by simpa using w))] at h
   exact h
  ·rw[if_neg (fun z=>by have:=(cmp_zero y x).2 z; simp[this] at w)] at h
   exact h
 ·have g:=of_decide_eq_false g
  simp only at g
  have hy:out[insAt x out]? = none:=List.getElem?_eq_none (by omega)
  rw[hy] at h
  exact wp_join rfl (some_j4f hi hO hle h)
theorem some_r (ht: -(2 ^ 63:Int)≤t∧t<2 ^ 63) (hN:L.length≤1000000) (hv:∀ x∈L,x.val.size≤1000000):∀ (M:List Ent) (i:Nat) (out:List Ent),L.drop i=M→i+M.length=L.length→out.length≤i→Rounds (TSomeL_l1_e L t) TSomeL_l1_x noX (fun s=>(TSomeL_l1_b L t s).wp) (out,(i:Int)) (.inl (M.foldl (someF t) out)):=by
 intro M
 induction M with
 | nil=>
  intro i out hM hl ho
  simp only[List.length_nil] at hl
  refine .done (by intro e; cases e) ?_
  unfold TSomeL_l1_b
  exact wp_sp (fun h'=>absurd (of_decide_eq_true h') (by simp only; omega)) (fun _=>wp_leaf rfl ⟨rfl,rfl⟩)
 | cons x M ih=>
  intro i out hM hl ho
  simp only[List.length_cons] at hl
  have gx:L[i]? = some x:=by rw[←List.head?_drop,hM]; rfl
  have hM':L.drop (i+1)=M:=by rw[←List.drop_drop,hM]; rfl
  have ho':(someF t out x).length≤i+1:=by
   unfold someF
   split
   ·omega
   ·have:=insE_len (repE t x) out; omega
  have hr:=ih (i+1) (someF t out x) hM' (by omega) ho'
  rw[show ((i+1:Nat):Int)=(i:Int)+1 by omega] at hr
  rw[List.foldl_cons]
  refine .next ?_ hr
  unfold TSomeL_l1_b
  have hvx:=hv x (List.mem_of_getElem? gx)
  refine wp_sp (fun _=>wp_elem0 x (by simp only; omega) (by simpa using gx) (wp_sp (fun q=>?_) (fun q=>?_))) (fun h'=>absurd (of_decide_eq_false h') (by simp only; omega))
  ·refine wp_join rfl (some_j2 (by omega) (by omega) ⟨rfl,?_⟩)
   have e:repE t x=x:=by unfold repE; rw[if_pos q]
   unfold someF
   rw[e]
  ·have e:repE t x=⟨x.key,x.seq,x.del,repB x.val (1+t % 64).toNat⟩:=by unfold repE; rw[if_neg (by rw[q]; decide),q]
   refine wp_int (and63 t) (wp_i64 (by omega) (wp_call (gRep_eq (by omega) (by omega)) (wp_join rfl (some_j2 (by omega) (by omega) ⟨rfl,?_⟩))))
   unfold someF
   rw[e]
end
def RSomeL:List AV→AV→Prop:=fun args r=>∃ (L:List Ent) (t:Int),(-(2 ^ 63:Int)≤t∧t<2 ^ 63)∧L.length≤1000000∧(∀ x∈L,x.val.size≤1000000)∧args= [vl (L.map entE.f),vi t]∧r=vl ((someL t L).map entE.f)
noncomputable def gSomeL:=relG RSomeL
theorem SSomeL:SoundF DP iSomeL (.pure gSomeL):=sound_pureT mixedD ΓQ1_ok Δ0_ok hfSomeL heSomeL hbSomeL (by
 rintro args r ⟨L,t,ht,hN,hv,rfl,rfl⟩
 refine ⟨rfl,rfl,_,TSomeL_chk L t,?_⟩
 unfold TSomeL
 exact wp_len (wp_loop _ rfl (some_r ht hN hv L 0 [] List.drop_zero (Nat.zero_add _) (Nat.le_refl _)) (wp_leaf rfl (entE.elt.sealed trivial rfl))))
theorem gSomeL_eq {L:List Ent} {t:Int} (ht: -(2 ^ 63:Int)≤t∧t<2 ^ 63) (hN:L.length≤1000000) (hv:∀ x∈L,x.val.size≤1000000):gSomeL [vl (L.map entE.f),vi t]=some (vl ((someL t L).map entE.f)):=relG_eq (by
 rintro args r r' ⟨a,t1,_,_,_,h1,rfl⟩ ⟨b,t2,_,_,_,h2,rfl⟩
 have h:=h1.symm.trans h2
 injection h with h h'
 injection h' with h' _
 simp only[AV.p.injEq,PV.ls.injEq] at h
 have e:=ents_inj h
 have e2:t1=t2:=by simpa [vi] using h'
 rw[e,e2]) ⟨L,t,ht,hN,hv,rfl,rfl⟩
end Go.Ax

namespace Go.Ax
open Go.Proofs Go.RowKit
set_option maxRecDepth 100000

noncomputable def ΔR1:REnv:=envR [(iNew,liftR ONew),(iFWrite,sealR (liftR OFWrite)),(iFOpen,liftR OFOpen),(iFPages,liftR OFPages),(iUsed,liftR OUsed),(iFGet,liftR OFGet)]

abbrev iHeadF:Nat:=4
noncomputable abbrev nHeadF:Func:=Tryz.f4
theorem hfHeadF:DP.funcs[iHeadF]? = some nHeadF:=by kernel_rfl
theorem heHeadF:enters DP iHeadF=true:=by kernel_rfl
theorem hbHeadF:nHeadF.body.isSome=true:=by kernel_rfl
noncomputable def THeadF (D0:Dsk) (D1:Dsk) (F1:FileR) (n1:Int) (x1:Ent):Tree:=
.callr (some 10) (ΔR1 8 [vi 10000] [] (.op 0) [.obj [] (diskP D0)]) (.op 0) [.obj [] (diskP D0)] (.callr (some 16) (ΔR1 10 [.op 0,vs (⟨#[102]⟩), .rs 2 0 4 0 1] [.obj [] (diskP D0), .cells false 0 ([vs (⟨#[97]⟩),vn .u64 5,vb false,vs (⟨#[118]⟩)]), .cells true 0 ([vs (⟨#[97]⟩),vn .u64 5,vb false,vs (⟨#[118]⟩)])] (.tup [vi n1,vi 0]) [.obj [] (diskP D1), .cells false 0 ([vs (⟨#[97]⟩),vn .u64 5,vb false,vs (⟨#[118]⟩)]), .dead]) (.tup [vi n1,vi 0]) [.obj [] (diskP D1), .cells false 0 ([vs (⟨#[97]⟩),vn .u64 5,vb false,vs (⟨#[118]⟩)]), .dead] (.callr (some 21) (ΔR1 13 [.op 0,vs (⟨#[102]⟩)] [.obj [] (diskP D1), .cells false 0 ([vs (⟨#[97]⟩),vn .u64 5,vb false,vs (⟨#[118]⟩)]), .dead] (.tup [.ptr 3 0 0,vi 0]) [.obj [] (diskP D1), .cells false 0 ([vs (⟨#[97]⟩),vn .u64 5,vb false,vs (⟨#[118]⟩)]), .dead, .cells false 0 ([.op 0,vs (⟨#[102]⟩:ByteArray),vl (F1.idx.map parE.f),vl (F1.bits.map byteE.f),vi F1.cnt,vs F1.low,vs F1.high])]) (.tup [.ptr 3 0 0,vi 0]) [.obj [] (diskP D1), .cells false 0 ([vs (⟨#[97]⟩),vn .u64 5,vb false,vs (⟨#[118]⟩)]), .dead, .cells false 0 ([.op 0,vs (⟨#[102]⟩:ByteArray),vl (F1.idx.map parE.f),vl (F1.bits.map byteE.f),vi F1.cnt,vs F1.low,vs F1.high])] (.callr (some 36) (ΔR1 15 [.ptr 3 0 0] [.obj [] (diskP D1), .cells false 0 ([vs (⟨#[97]⟩),vn .u64 5,vb false,vs (⟨#[118]⟩)]), .dead, .cells false 0 ([.op 0,vs (⟨#[102]⟩:ByteArray),vl (F1.idx.map parE.f),vl (F1.bits.map byteE.f),vi F1.cnt,vs F1.low,vs F1.high])] (vi (F1.idx.length:Int)) [.obj [] (diskP D1), .cells false 0 ([vs (⟨#[97]⟩),vn .u64 5,vb false,vs (⟨#[118]⟩)]), .dead, .cells false 0 ([.op 0,vs (⟨#[102]⟩:ByteArray),vl (F1.idx.map parE.f),vl (F1.bits.map byteE.f),vi F1.cnt,vs F1.low,vs F1.high])]) (vi (F1.idx.length:Int)) [.obj [] (diskP D1), .cells false 0 ([vs (⟨#[97]⟩),vn .u64 5,vb false,vs (⟨#[118]⟩)]), .dead, .cells false 0 ([.op 0,vs (⟨#[102]⟩:ByteArray),vl (F1.idx.map parE.f),vl (F1.bits.map byteE.f),vi F1.cnt,vs F1.low,vs F1.high])] (.sp 37 ((F1.idx.length:Int) != (1:Int)) (
.leaf ⟨[0],[]⟩ [] .ret (some ([(0,vb false)],[]))) (
.callr (some 42) (ΔR1 16 [.op 0] [.obj [] (diskP D1), .cells false 0 ([vs (⟨#[97]⟩),vn .u64 5,vb false,vs (⟨#[118]⟩)]), .dead, .cells false 0 ([.op 0,vs (⟨#[102]⟩:ByteArray),vl (F1.idx.map parE.f),vl (F1.bits.map byteE.f),vi F1.cnt,vs F1.low,vs F1.high])] (vi n1) [.obj [] (diskP D1), .cells false 0 ([vs (⟨#[97]⟩),vn .u64 5,vb false,vs (⟨#[118]⟩)]), .dead, .cells false 0 ([.op 0,vs (⟨#[102]⟩:ByteArray),vl (F1.idx.map parE.f),vl (F1.bits.map byteE.f),vi F1.cnt,vs F1.low,vs F1.high])]) (vi n1) [.obj [] (diskP D1), .cells false 0 ([vs (⟨#[97]⟩),vn .u64 5,vb false,vs (⟨#[118]⟩)]), .dead, .cells false 0 ([.op 0,vs (⟨#[102]⟩:ByteArray),vl (F1.idx.map parE.f),vl (F1.bits.map byteE.f),vi F1.cnt,vs F1.low,vs F1.high])] (.sp 43 (n1 != n1) (
.leaf ⟨[0],[]⟩ [] .ret (some ([(0,vb false)],[]))) (
.callr (some 47) (ΔR1 17 [.ptr 3 0 0,vs (⟨#[97]⟩),vn .u64 5] [.obj [] (diskP D1), .cells false 0 ([vs (⟨#[97]⟩),vn .u64 5,vb false,vs (⟨#[118]⟩)]), .dead, .cells false 0 ([.op 0,vs (⟨#[102]⟩:ByteArray),vl (F1.idx.map parE.f),vl (F1.bits.map byteE.f),vi F1.cnt,vs F1.low,vs F1.high])] (.tup [(entE.av x1),vb true,vi 0]) [.obj [] (diskP D1), .cells false 0 ([vs (⟨#[97]⟩),vn .u64 5,vb false,vs (⟨#[118]⟩)]), .dead, .cells false 0 ([.op 0,vs (⟨#[102]⟩:ByteArray),vl (F1.idx.map parE.f),vl (F1.bits.map byteE.f),vi F1.cnt,vs F1.low,vs F1.high])]) (.tup [(entE.av x1),vb true,vi 0]) [.obj [] (diskP D1), .cells false 0 ([vs (⟨#[97]⟩),vn .u64 5,vb false,vs (⟨#[118]⟩)]), .dead, .cells false 0 ([.op 0,vs (⟨#[102]⟩:ByteArray),vl (F1.idx.map parE.f),vl (F1.bits.map byteE.f),vi F1.cnt,vs F1.low,vs F1.high])] (.leaf ⟨[0],[]⟩ [] .ret (some ([(0,vb (((x1.key:ByteArray).toList == (⟨#[97]⟩:ByteArray).toList)&&(((x1.seq:Int) == (5:Int))&&((x1.del == false)&&(((x1.val:ByteArray).toList == (⟨#[118]⟩:ByteArray).toList)&&true)))))],[]))))))))))

theorem THeadF_chk (D0:Dsk) (D1:Dsk) (F1:FileR) (n1:Int) (x1:Ent):fnC DP Γ0 ΔR1 Tryz.f4 [] [] (THeadF D0 D1 F1 n1 x1)=THeadF D0 D1 F1 n1 x1:=by kernel_rfl

end Go.Ax

namespace Go.Ax
open Go.Proofs Go.RowKit
set_option maxRecDepth 100000

theorem ΔR1_ok:∀ f,SoundR DP f (ΔR1 f):=envR_cons (lift_sound SNew)<|envR_cons (lift_sound SFWrite).shutRow<|envR_cons (lift_sound SFOpen)<|envR_cons (lift_sound SFPages)<|envR_cons (lift_sound SUsed)<|envR_cons (lift_sound SFGet) envR_nil
def exE:Ent:=⟨⟨#[97]⟩,5,false,⟨#[118]⟩⟩
theorem exE_chk:chkE exE=0:=by decide
theorem ex_fits:Fits [exE]:=⟨⟨fun x hx=>by rw[List.mem_singleton.1 hx]; exact exE_chk,fun x hx=>by rw[List.mem_singleton.1 hx]; decide,List.pairwise_singleton _ _⟩,by simp,by decide⟩
theorem ex_chunks:chunks [exE] 0 []= [[exE]]:=by
 unfold chunks
 rw[if_neg (fun h=>h.2 rfl)]
 unfold chunks
 rw[if_pos rfl,List.nil_append]
theorem ex_idx:(fileOf [exE]).idx.length=1:=by
 show (idxL 0 (chunks [exE] 0 [])).length=1
 rw[idxL_len,ex_chunks]; rfl
theorem mk_le {L:List Par} (hu:upL0 L) {a b:Nat} (hb:b<1000) (ha:a<1000) (hn:L.length≤40) (h:∀ p∈L,p.nl.length≤a∧p.vl.length≤b):(mkI L).1.length≤(a+b+30)*L.length+4*L.length+8:=by
 have hB:=body_le2 (a:=a) (b:=b) (by omega) (by omega) L 0 [] h
 have hq:(a+b+30)*L.length≤2030*40:=Nat.mul_le_mul (by omega) hn
 have hm:=mkI_ok hu (by omega)
 have hw:=wholeL_len L 0 0 []
 have hcn:=cntL_le L 0
 rw[hm]
 simp only[List.length_append,leI_len]
 show _+_+4≤_
 omega
theorem ex_len:(fileY [exE]).length≤2000:=by
 have h:=ex_fits
 have hc: [exE]∈chunks [exE] 0 []:=by rw[ex_chunks]; simp
 have h1:=mk_le (upL0_of (h.good.sub (h.sub hc)).inn) (a:=266) (b:=1) (by decide) (by decide) (by decide) (fun p hp=>by
  obtain ⟨y,hy,rfl⟩:=List.mem_map.1 hp
  rw[List.mem_singleton.1 hy,ofE_nl]
  exact ⟨inn_len exE_chk,by decide⟩)
 have h2:=mk_le (upL0_pair (idx_pair _ 0 (chunks_ne [exE] 0 []) h.pw)) (a:=266) (b:=20) (by decide) (by decide) (by rw[idxL_len]; exact h.chunks_len) (fun p hp=>by
  obtain ⟨c,hc',e1,o',e2,e3⟩:=idx_mem _ _ p hp
  have hpb:=pageB_le h hc'
  have hpl:=pagesB_le h (chunks [exE] 0 []) (fun c hc=>hc)
  have hcl:=h.chunks_len
  have hm:=lastE_mem (chunks_ne [exE] 0 [] c hc')
  rw[e1,e2,List.length_append]
  have g1:=inn_len (h.good.chk _ ((h.sub hc').subset hm))
  have g2:=putI_len (o':Int) (by omega)
  have g3:=putI_len ((pageB c).length:Int) (by omega)
  omega)
 rw[idxL_len,ex_chunks] at h2
 rw[List.length_map] at h1
 have h4:=filB_len h
 have h5:=footB_len [exE]
 simp only[fileY,List.length_append]
 have e1:(pagesB (chunks [exE] 0 [])).length=(mkI ([exE].map ofE)).1.length+12:=by
  rw[ex_chunks,pagesB,pagesB,List.append_nil]
  unfold pageB
  rw[recB_len]
 have e2:(idxY (chunks [exE] 0 [])).length=(mkI (idxL 0 [[exE]])).1.length+12:=by
  unfold idxY
  rw[recB_len,ex_chunks]
 rw[e1,e2]
 simp only[List.length_cons,List.length_nil] at h1 h2
 omega
theorem ex_best:bestE [exE] ⟨#[97]⟩ 5=some exE:=by
 unfold bestE
 rw[List.find?_cons_of_pos (by decide)]
theorem write_open {D:Dsk} (h:Live D) {nm:ByteArray} (hn:isName nm=true) (hc:D.cont nm=none) {L:List Ent} (hf:Fits L) (hr:((fileY L).length:Int)≤D.room - D.used):
  (writeD D nm (fileY L)).2=(((fileY L).length:Int),0)∧Live (writeD D nm (fileY L)).1∧(writeD D nm (fileY L)).1.cont nm=some (fileY L)∧contF (writeD D nm (fileY L)).1 nm=fileY L∧(writeD D nm (fileY L)).1.get nm≠none∧(writeD D nm (fileY L)).1.used=D.used+(fileY L).length:=by
 obtain ⟨a1,a2,a3,a4,a5⟩:=write_live h hn hc hr
 have a6:=contF_some (D:=(writeD D nm (fileY L)).1) (nm:=nm) (c:=fileY L) (by rw[a3,if_pos rfl])
 exact ⟨a1,a2,by rw[a3,if_pos rfl],a6.1,a6.2,a4⟩
theorem fileOf_ok {L:List Ent} (h:Fits L):FOk (fileOf L):=by
 have:=open_ok (c:=fileY L) (by have:=fileY_len h; omega) (by rw[openI_file h])
 rw[openI_file h] at this
 exact this
def RHeadF:List AV→AV→Prop:=fun args r=>args= []∧r=vb true
noncomputable def gHeadF:=relG RHeadF
theorem gHeadF_eq:gHeadF []=some (vb true):=relG_eq (fun _ _ _ h1 h2=>h1.2.trans h2.2.symm) ⟨rfl,rfl⟩
theorem SHeadF:SoundF DP iHeadF (.pure gHeadF):=sound_pureT mixedD Γ0_ok ΔR1_ok hfHeadF heHeadF hbHeadF (by
 rintro args r ⟨rfl,rfl⟩
 have hl:Live (newD 10000):=live_new
 have hf:=ex_fits
 have hlen:=ex_len
 obtain ⟨a1,a2,a3,a4,a5,a6⟩:=write_open hl (nm:=⟨#[102]⟩) (by decide) (cont_new _ _) hf (by show _≤(10000:Int) - 0; omega)
 rw[show (newD 10000).used=0 from rfl,Int.zero_add] at a6
 have hg:=get_file hf ⟨#[97]⟩ 5 (by decide)
 rw[if_pos (by decide),ex_best] at hg
 refine ⟨rfl,rfl,_,THeadF_chk (newD 10000) (writeD (newD 10000) ⟨#[102]⟩ (fileY [exE])).1 (fileOf [exE]) (fileY [exE]).length exE,?_⟩
 have cw:=fun (B:List Box) (hb:B[0]? = some (dskB (newD 10000)))=>oFWrite (b:=0) hl.ok hf (nm:=⟨#[102]⟩) (by decide) hb
 rw[a1] at cw
 have co:=fun (B:List Box) (hb:B[0]? = some (dskB (writeD (newD 10000) ⟨#[102]⟩ (fileY [exE])).1))=>oFOpen (b:=0) a2.ok a2.up a5 (by rw[a4,openI_file hf]) hb
 rw[a4,openI_file hf] at co
 have cg:=fun (B:List Box) (hb:B[0]? = some (dskB (writeD (newD 10000) ⟨#[102]⟩ (fileY [exE])).1)) (hl:B[3]? = some (filC 0 ⟨#[102]⟩ (fileOf [exE])))=>oFGet (l:=3) (b:=0) (k:=⟨#[97]⟩) (seq:=5) a2.ok a2.up (fileOf_ok hf) (by decide) (by decide) hb hl
 rw[a4,hg] at cg
 have cu:=fun (B:List Box) (hb:B[0]? = some (dskB (writeD (newD 10000) ⟨#[102]⟩ (fileY [exE])).1))=>oUsed a2.ok hb
 rw[a6] at cu
 unfold THeadF
 exact wp_callr (oNew 10000) (wp_callr ⟨2,2,0,Ent,entE,[exE],rfl,rfl,cw _ rfl⟩ (wp_callr (co _ rfl) (wp_callr (oFil (l:=3) rfl rfl rfl) (wp_sp (fun h=>absurd h (by rw[ex_idx]; decide)) (fun _=>wp_callr (cu _ rfl) (wp_sp (fun h=>absurd h (by simp)) (fun _=>wp_callr (cg _ rfl rfl) (wp_leaf rfl (by
  show Sealed _ _ (vb _) (vb true)
  have:(((exE.key:ByteArray).toList == (⟨#[97]⟩:ByteArray).toList)&&(((exE.seq:Int) == (5:Int))&&((exE.del == false)&&(((exE.val:ByteArray).toList == (⟨#[118]⟩:ByteArray).toList)&&true))))=true:=by simp[exE]
  rw[this]
  exact .p _))))))))))
end Go.Ax

namespace Go.Ax
open Go.Proofs Go.RowKit
set_option maxRecDepth 100000

noncomputable def TFWriteN (nm:ByteArray) (L:List Ent):Tree:=
.call 14 (gFMake [vl (L.map entE.f)]=some (.tup [vl ((fileY L).map byteE.f),vi 0])) (.tup [vl ((fileY L).map byteE.f),vi 0]) (.leaf ⟨[0],[]⟩ [] .ret (some ([(0, .tup [vi 0,vi 1])],[])))

theorem TFWriteN_chk (nm:ByteArray) (L:List Ent):fnC DP ΓO2 Δ0 Tryz.f10 [.p (.v (.pointer none)),vs nm,vl (L.map entE.f)] [] (TFWriteN nm L)=TFWriteN nm L:=by kernel_rfl

end Go.Ax
