/- A file is written; what an opened one tells: contracts. -/
import Derived.Test.YtddkloofiknjdaaDoorG30
import Derived.Test.YtddkloofiknjdaaDoorG29
import Derived.WalkKit
import Derived.ProofKit
import Derived.OwnWalk
import Derived.Lib.Walk
import Derived.Lib.SliceRun
import Derived.Laws.AppendOwn
import Derived.Test.YtddkloofiknjdaaDoorTie
import Derived.Test.YtddkloofiknjdaaDoorG11
import Derived.OpenShut
import Derived.LaidMore
import Derived.LaidLaws
import Derived.LaidHandle
import Derived.Lib.LaidTab
import Derived.Stop.Joined
set_option linter.unusedVariables false
set_option linter.unusedSimpArgs false
set_option linter.unusedSectionVars false
namespace Go.Ax
open Go.Proofs Go.RowKit
set_option maxRecDepth 100000

section
abbrev OFil (f:Dsk→FileR→AV) (z:AV):RSpec:=fun args B r B'=>(∃ (D:Dsk) (nm:ByteArray) (F:FileR),args= [.ptr 1 0 0]∧B= [dskB D,filC 0 nm F]∧r=f D F∧B'=B)∨(args= [nilQ]∧B= []∧r=z∧B'=B)
theorem oFil {f:Dsk→FileR→AV} {z:AV} {B:List Box} {b l:Nat} {D:Dsk} {nm:ByteArray} {F:FileR} (hb:B[b]? = some (dskB D)) (hl:B[l]? = some (filC b nm F)) (hy:(f D F).low 0=true):liftR (OFil f z) [.ptr l 0 0] B (f D F) B:=
 lift_file (R:=OFil f z) (al:= []) (.inl ⟨D,nm,F,rfl,rfl,rfl,rfl⟩) hb hl (fun _ _=>rfl) (fun _=>rfl) hy
end
abbrev OFPages:RSpec:=OFil (fun _ F=>vi (F.idx.length:Int)) (vi 0)
theorem SFPages:SoundR DP iFPages OFPages:=sound_genT mixedD Γ0_ok Δ0_ok hfFPages heFPages hbFPages (by
 rintro args B r B' (⟨D,nm,F,rfl,rfl,rfl,rfl⟩ | ⟨rfl,rfl,rfl,rfl⟩)
 ·exact ⟨by rw[hnFPages]; rfl,_,TFPages_chk D nm F,wp_len (wp_leaf rfl ⟨rfl,rfl⟩)⟩
 ·exact ⟨by rw[hnFPages]; rfl,_,TNPages_chk,wp_leaf rfl ⟨rfl,rfl⟩⟩)
def OFFind2:RSpec:=orR OFFind (fun args B r B'=>∃ y:Ent,args= [nilQ,entE.av y]∧B= []∧r=vi 0∧B'=B)
theorem SFFind2:SoundR DP iFFind OFFind2:=SFFind.or (sound_genT mixedD Γ0_ok Δ0_ok hfFFind heFFind hbFFind (by
 rintro args B r B' ⟨y,rfl,rfl,rfl,rfl⟩
 exact ⟨by rw[hnFFind]; rfl,_,TNFind_chk y,wp_leaf rfl ⟨rfl,rfl⟩⟩))
theorem oFFind2 {B:List Box} {b l:Nat} {D:Dsk} {nm:ByteArray} {F:FileR} {y:Ent} (hn:F.idx.length≤100000000) (hy:InOk y) (hb:B[b]? = some (dskB D)) (hl:B[l]? = some (filC b nm F)):
  liftR OFFind2 [.ptr l 0 0,entE.av y] B (vi ((findI F.idx y:Nat):Int)) B:=
 lift_file (R:=OFFind2) (.inl ⟨D,nm,F,y,hn,hy,rfl,rfl,rfl,rfl⟩) hb hl (fun _ _=>rfl) (fun _=>rfl) rfl
end Go.Ax

namespace Go.Ax
open Go.Proofs Go.RowKit
set_option maxRecDepth 100000

noncomputable def ΓQ1:Env:=envP [(iRep,gRep),(iChkE,gChkE),(iCmpE,gCmpE)]

abbrev iSomeL:Nat:=10
noncomputable abbrev nSomeL:Func:=Tryd.f10
theorem hfSomeL:DP.funcs[iSomeL]? = some nSomeL:=by kernel_rfl
theorem heSomeL:enters DP iSomeL=true:=by kernel_rfl
theorem hbSomeL:nSomeL.body.isSome=true:=by kernel_rfl
noncomputable def TSomeL_l1_e (L:List Ent) (t:Int) (s1:(List Ent)×Int):St:=([(1,vi t),(5, .rs 0 0 4 0 s1.1.length),(11,vl (L.map entE.f)),(12,vi (L.length:Int)),(13,vi s1.2)],[entE.bx 0 s1.1])
noncomputable def TSomeL_l1_x (x1:(List Ent)):AE×St:=((.exit 0),([(5, .rs 0 0 4 0 x1.length)],[entE.bx 0 x1]))
noncomputable def TSomeL_j2_e (L:List Ent) (t:Int) (s1:(List Ent)×Int) (j2:Ent):St:=([(1,vi t),(5, .rs 0 0 4 0 s1.1.length),(7, .ptr 1 0 0),(11,vl (L.map entE.f)),(12,vi (L.length:Int)),(13,vi s1.2)],[entE.bx 0 s1.1, .cells false 0 ([vs j2.key,vn .u64 j2.seq,vb j2.del,vs j2.val])])
noncomputable def TSomeL_l3_e (L:List Ent) (t:Int) (s1:(List Ent)×Int) (j2:Ent) (s3:Int):St:=([(1,vi t),(5, .rs 0 0 4 0 s1.1.length),(7, .ptr 1 0 0),(8,vi s3),(11,vl (L.map entE.f)),(12,vi (L.length:Int)),(13,vi s1.2)],[entE.bx 0 s1.1, .cells false 0 ([vs j2.key,vn .u64 j2.seq,vb j2.del,vs j2.val])])
noncomputable def TSomeL_l3_x (L:List Ent) (t:Int) (s1:(List Ent)×Int) (j2:Ent) (x3:Int):AE×St:=((.exit 2),([(1,vi t),(5, .rs 0 0 4 0 s1.1.length),(7, .ptr 1 0 0),(8,vi x3),(11,vl (L.map entE.f)),(12,vi (L.length:Int)),(13,vi s1.2)],[entE.bx 0 s1.1, .cells false 0 ([vs j2.key,vn .u64 j2.seq,vb j2.del,vs j2.val])]))
noncomputable def TSomeL_l3_b (L:List Ent) (t:Int) (s1:(List Ent)×Int) (j2:Ent) (s3:Int):Tree:=
.sp 33 (decide (s3<((s1.1.length:Nat):Int))) (
.ridx 37 s1.1.length s3 (.rload 38 (rowC (s1.1.map entE.f)) (0+Int.toNat s3*4) entE s1.1 s3 0 (fun e2=> .call 40 (gCmpE [(entE.av e2),(entE.av j2)]=some (vi (cmpE e2 j2))) (vi (cmpE e2 j2)) (.sp 41 (decide ((cmpE e2 j2)<(0:Int))) (
.int 44 (IntKind.i64.wrap (s3+1)) (s3+1) (.leaf ⟨[1,5,7,8,11,12,13],[(0,0,some (s1.1.map entE.f)),(1,0,none)]⟩ [rowC (s1.1.map entE.f)] .normal (some (TSomeL_l3_e L t s1 j2 (s3+1))))) (
.leaf ⟨[1,5,7,8,11,12,13],[(0,0,some (s1.1.map entE.f)),(1,0,none)]⟩ [rowC (s1.1.map entE.f)] (.exit 2) (some (TSomeL_l3_x L t s1 j2 s3).2)))))) (
.leaf ⟨[1,5,7,8,11,12,13],[(0,0,some (s1.1.map entE.f)),(1,0,none)]⟩ [rowC (s1.1.map entE.f)] (.exit 2) (some (TSomeL_l3_x L t s1 j2 s3).2))
noncomputable def TSomeL_j4_e (L:List Ent) (t:Int) (s1:(List Ent)×Int) (j2:Ent) (x3:Int) (j4:Bool):St:=([(1,vi t),(5, .rs 0 0 4 0 s1.1.length),(7, .ptr 1 0 0),(8,vi x3),(11,vl (L.map entE.f)),(12,vi (L.length:Int)),(13,vi s1.2),(57,vb j4)],[entE.bx 0 s1.1, .cells false 0 ([vs j2.key,vn .u64 j2.seq,vb j2.del,vs j2.val])])
noncomputable def TSomeL_j4 (L:List Ent) (t:Int) (s1:(List Ent)×Int) (j2:Ent) (x3:Int) (j4:Bool):Tree:=
.br j4 (
.int 72 (IntKind.i64.wrap (s1.2+1)) (s1.2+1) (.leaf ⟨[1,5,11,12,13],[(0,0,some (s1.1.map entE.f))]⟩ [rowC (s1.1.map entE.f)] .normal (some (TSomeL_l1_e L t (s1.1,s1.2+1))))) (
.rcut 61 s1.1.length none (some x3) (.app 62 (.part (0+loN none*4) (hiN (some x3) s1.1.length - loN none) (rowC (s1.1.map entE.f))) (([]:List Ent).length) (rowC (([]:List Ent).map entE.f)) entE ([]:List Ent) (cutL none (some x3) s1.1) (.app 66 (.row 1 ([vs j2.key,vn .u64 j2.seq,vb j2.del,vs j2.val])) ((([]:List Ent)++(cutL none (some x3) s1.1)).length) (rowC ((([]:List Ent)++(cutL none (some x3) s1.1)).map entE.f)) entE (([]:List Ent)++(cutL none (some x3) s1.1)) ([j2]) (.rcut 70 s1.1.length (some x3) none (.app 71 (.part (0+loN (some x3)*4) (hiN none s1.1.length - loN (some x3)) (rowC (s1.1.map entE.f))) (((([]:List Ent)++(cutL none (some x3) s1.1))++([j2])).length) (rowC (((([]:List Ent)++(cutL none (some x3) s1.1))++([j2])).map entE.f)) entE ((([]:List Ent)++(cutL none (some x3) s1.1))++([j2])) (cutL (some x3) none s1.1) (.int 72 (IntKind.i64.wrap (s1.2+1)) (s1.2+1) (.leaf ⟨[1,5,11,12,13],[(2,3,some ((((([]:List Ent)++(cutL none (some x3) s1.1))++([j2]))++(cutL (some x3) none s1.1)).map entE.f))]⟩ [rowC ((((([]:List Ent)++(cutL none (some x3) s1.1))++([j2]))++(cutL (some x3) none s1.1)).map entE.f)] .normal (some (TSomeL_l1_e L t (((([]:List Ent)++(cutL none (some x3) s1.1))++([j2]))++(cutL (some x3) none s1.1),s1.2+1))))))))))
noncomputable def TSomeL_j2 (L:List Ent) (t:Int) (s1:(List Ent)×Int) (j2:Ent):Tree:=
.call 28 (gChkE [(entE.av j2)]=some (vi (chkE j2))) (vi (chkE j2)) (.sp 29 ((chkE j2) != (0:Int)) (
.int 72 (IntKind.i64.wrap (s1.2+1)) (s1.2+1) (.leaf ⟨[1,5,11,12,13],[(0,0,some (s1.1.map entE.f))]⟩ [rowC (s1.1.map entE.f)] .normal (some (TSomeL_l1_e L t (s1.1,s1.2+1))))) (
.loop ⟨[1,5,7,8,11,12,13],[(0,0,some (s1.1.map entE.f)),(1,0,none)]⟩ [rowC (s1.1.map entE.f)] (some (TSomeL_l3_e L t s1 j2 0)) (TSomeL_l3_e L t s1 j2) (TSomeL_l3_x L t s1 j2) noX 0 (TSomeL_l3_b L t s1 j2) (fun (x3:Int)=> .sp 48 (decide (x3<((s1.1.length:Nat):Int))) (
.ridx 52 s1.1.length x3 (.rload 53 (rowC (s1.1.map entE.f)) (0+Int.toNat x3*4) entE s1.1 x3 0 (fun e3=> .call 55 (gCmpE [(entE.av e3),(entE.av j2)]=some (vi (cmpE e3 j2))) (vi (cmpE e3 j2)) (.sp 56 ((cmpE e3 j2) == (0:Int)) (
.join ⟨[1,5,7,8,11,12,13,57],[(0,0,some (s1.1.map entE.f)),(1,0,none)]⟩ [rowC (s1.1.map entE.f)] (some (TSomeL_j4_e L t s1 j2 x3 true)) (TSomeL_j4_e L t s1 j2 x3) true (TSomeL_j4 L t s1 j2 x3)) (
.join ⟨[1,5,7,8,11,12,13,57],[(0,0,some (s1.1.map entE.f)),(1,0,none)]⟩ [rowC (s1.1.map entE.f)] (some (TSomeL_j4_e L t s1 j2 x3 false)) (TSomeL_j4_e L t s1 j2 x3) false (TSomeL_j4 L t s1 j2 x3)))))) (
.join ⟨[1,5,7,8,11,12,13,57],[(0,0,some (s1.1.map entE.f)),(1,0,none)]⟩ [rowC (s1.1.map entE.f)] (some (TSomeL_j4_e L t s1 j2 x3 false)) (TSomeL_j4_e L t s1 j2 x3) false (TSomeL_j4 L t s1 j2 x3))) (fun _=> .stuck)))
noncomputable def TSomeL_l1_b (L:List Ent) (t:Int) (s1:(List Ent)×Int):Tree:=
.sp 14 (decide (s1.2<(L.length:Int))) (
.elem 15 (L.map entE.f) entE L s1.2 (fun e1=> .sp 18 e1.del (
.go (.join ⟨[1,5,7,11,12,13],[(0,0,some (s1.1.map entE.f)),(1,0,none)]⟩ [rowC (s1.1.map entE.f)] (some (TSomeL_j2_e L t s1 e1)) (TSomeL_j2_e L t s1) e1 (TSomeL_j2 L t s1))) (
.int 23 (IntKind.i64.wrap ((BitVec.ofInt IntKind.i64.bits t &&& BitVec.ofInt IntKind.i64.bits 63).toNat)) (t % 64) (.int 24 (IntKind.i64.wrap (1+(t % 64))) (1+(t % 64)) (.call 25 (gRep [vs e1.val,vi (1+(t % 64))]=some (vs (repB e1.val (Int.toNat (1+(t % 64)))))) (vs (repB e1.val (Int.toNat (1+(t % 64))))) (.join ⟨[1,5,7,11,12,13],[(0,0,some (s1.1.map entE.f)),(1,0,none)]⟩ [rowC (s1.1.map entE.f)] (some (TSomeL_j2_e L t s1 (⟨e1.key,e1.seq,e1.del,(repB e1.val (Int.toNat (1+(t % 64))))⟩:Ent))) (TSomeL_j2_e L t s1) (⟨e1.key,e1.seq,e1.del,(repB e1.val (Int.toNat (1+(t % 64))))⟩:Ent) (TSomeL_j2 L t s1))))))) (
.leaf ⟨[5],[(0,0,some (s1.1.map entE.f))]⟩ [rowC (s1.1.map entE.f)] (.exit 0) (some (TSomeL_l1_x s1.1).2))
noncomputable def TSomeL (L:List Ent) (t:Int):Tree:=
.int 12 ((L.map entE.f).length:Int) (L.length:Int) (.loop ⟨[1,5,11,12,13],[(0,0,some (([]:List Ent).map entE.f))]⟩ [rowC (([]:List Ent).map entE.f)] (some (TSomeL_l1_e L t (([]:List Ent),0))) (TSomeL_l1_e L t) (TSomeL_l1_x) noX (([]:List Ent),0) (TSomeL_l1_b L t) (fun (x1:(List Ent))=> .leaf ⟨[0],[(0,0,some (x1.map entE.f))]⟩ [rowC (x1.map entE.f)] .ret (some ([(0, .rs 0 0 4 0 x1.length)],[entE.bx 0 x1]))) (fun _=> .stuck))

theorem TSomeL_chk (L:List Ent) (t:Int):fnC DP ΓQ1 Δ0 Tryd.f10 [vl (L.map entE.f),vi t] [] (TSomeL L t)=TSomeL L t:=by kernel_rfl

end Go.Ax

namespace Go.Ax
open Go.Proofs Go.RowKit
set_option maxRecDepth 100000

theorem and63 (t:Int):IntKind.i64.wrap ((BitVec.ofInt IntKind.i64.bits t &&& BitVec.ofInt IntKind.i64.bits 63).toNat)=t % 64:=by
 have h:(BitVec.ofInt IntKind.i64.bits t &&& BitVec.ofInt IntKind.i64.bits 63).toNat=(t % 64).toNat:=by
  show (BitVec.ofInt 64 t &&& BitVec.ofInt 64 63).toNat=_
  rw[BitVec.toNat_and,BitVec.toNat_ofInt,show (BitVec.ofInt 64 63).toNat=2 ^ 6 - 1 by decide,Nat.and_two_pow_sub_one_eq_mod]
  omega
 rw[h,IntKind.wrap_i64]
 omega
theorem ΓQ1_ok:∀ f,SoundF DP f (ΓQ1 f):=envP_cons SRep (envP_cons SChkE (envP_cons SCmpE envP_nil))
section
variable {L : List Ent} {t : Int} {out : List Ent} {i : Nat} {x : Ent} {K : AE → St → Prop}
theorem at_rounds (hO:out.length≤1000000):∀ (j s:Nat),s+j=insAt x out→Rounds (TSomeL_l3_e L t (out,(i:Int)) x) (TSomeL_l3_x L t (out,(i:Int)) x) noX (fun z=>(TSomeL_l3_b L t (out,(i:Int)) x z).wp) (s:Int) (.inl ((insAt x out:Nat):Int)):=by
 have hle:=insAt_le x out
 intro j
 induction j with
 | zero=>
  intro s hs
  rw[Nat.add_zero] at hs
  subst hs
  refine .done (by intro e; cases e) ?_
  unfold TSomeL_l3_b
  refine wp_sp (fun h=>?_) (fun _=>wp_leaf rfl ⟨rfl,rfl⟩)
  have h:=of_decide_eq_true h
  simp only at h
  obtain ⟨y,hy⟩:∃ y,out[insAt x out]? = some y:=⟨_,List.getElem?_eq_getElem (by omega)⟩
  have hn:=insAt_at x out y hy
  rw[←cmp_neg] at hn
  exact wp_ridx (by omega) (by simp only; omega) (wp_rload y (by omega) (by simp[entE]) (by simpa using hy) (wp_call (gCmpE_eq y x) (wp_sp (fun q=>absurd (of_decide_eq_true q) hn) (fun _=>wp_leaf rfl ⟨rfl,rfl⟩))))
 | succ j ih=>
  intro s hs
  have hr:=ih (s+1) (by omega)
  rw[show ((s+1:Nat):Int)=(s:Int)+1 by omega] at hr
  obtain ⟨y,hy⟩:∃ y,out[s]? = some y:=⟨_,List.getElem?_eq_getElem (by omega)⟩
  have hn:=insAt_lt x out s y (by omega) hy
  rw[←cmp_neg] at hn
  refine .next ?_ hr
  unfold TSomeL_l3_b
  exact wp_sp (fun _=>wp_ridx (by omega) (by simp only; omega) (wp_rload y (by omega) (by simp[entE]) (by simpa using hy) (wp_call (gCmpE_eq y x) (wp_sp (fun _=>wp_i64 (by omega) (wp_leaf rfl ⟨rfl,rfl⟩)) (fun q=>absurd hn (of_decide_eq_false q)))))) (fun h'=>absurd (of_decide_eq_false h') (by simp only; omega))
theorem some_j4t (hi:i≤1000000) (k:Int) (h:K .normal (TSomeL_l1_e L t (out,(i:Int)+1))):(TSomeL_j4 L t (out,(i:Int)) x k true).wp K:=by
 unfold TSomeL_j4
 exact wp_br (fun _=>wp_i64 (by simp only; omega) (wp_leaf rfl h)) (fun q=>by cases q)
theorem rows_cut (out:List Ent) (k:Nat):(rowC (out.map entE.f)).drop (k*entE.sz)=rowC ((out.drop k).map entE.f):=by
 have h:=congrArg (fun z=>rowC (z.map entE.f)) (List.take_append_drop k out)
 simp only[List.map_append,rowC_append] at h
 rw[←take_row] at h
 exact (List.append_cancel_left (h.trans (List.take_append_drop _ _).symm)).symm
theorem part_lo {out:List Ent} {k:Nat} (h:k≤out.length):(ASrc.part (0+loN none*4) (hiN (some (k:Int)) out.length - loN none) (rowC (out.map entE.f))).ok entE (cutL none (some (k:Int)) out):=by
 refine ⟨?_,?_⟩
 ·show Int.toNat (k:Int) - 0=(out.take (Int.toNat (k:Int))).length
  rw[Int.toNat_natCast,List.length_take]; omega
 ·show ((rowC (out.map entE.f)).drop (0+0*4)).take ((Int.toNat (k:Int) - 0)*entE.sz)=rowC ((out.take (Int.toNat (k:Int))).map entE.f)
  rw[Int.toNat_natCast,Nat.zero_mul,Nat.add_zero,List.drop_zero,Nat.sub_zero,take_row]
theorem part_hi {out:List Ent} {k:Nat} (h:k≤out.length):(ASrc.part (0+loN (some (k:Int))*4) (hiN none out.length - loN (some (k:Int))) (rowC (out.map entE.f))).ok entE (cutL (some (k:Int)) none out):=by
 refine ⟨?_,?_⟩
 ·show out.length - Int.toNat (k:Int)=(out.drop (Int.toNat (k:Int))).length
  rw[List.length_drop]
 ·show ((rowC (out.map entE.f)).drop (0+Int.toNat (k:Int)*4)).take ((out.length - Int.toNat (k:Int))*entE.sz)=rowC ((out.drop (Int.toNat (k:Int))).map entE.f)
  rw[Int.toNat_natCast,Nat.zero_add,show k*4=k*entE.sz from rfl,rows_cut,List.take_of_length_le]
  rw[entE.elt.rowLen,List.length_drop]
  exact Nat.le_refl _
theorem some_j4f (hi:i≤1000000) (hO:out.length≤1000000) {k:Nat} (hk:k≤out.length) (h:K .normal (TSomeL_l1_e L t (out.take k++x::out.drop k,(i:Int)+1))):(TSomeL_j4 L t (out,(i:Int)) x (k:Int) false).wp K:=by
 have e1:cutL none (some (k:Int)) out=out.take k:=rfl
 have e2:cutL (some (k:Int)) none out=out.drop k:=rfl
 have l1:(out.take k).length≤k:=by rw[List.length_take]; omega
 have l2:(out.drop k).length=out.length - k:=List.length_drop
 unfold TSomeL_j4
 refine wp_br (fun q=>by cases q) (fun _=>wp_rcut (by simp only[cutOk]; omega) (wp_app (part_lo hk) rfl ?_ (wp_app ⟨rfl,?_⟩ rfl ?_ (wp_rcut (by simp only[cutOk]; omega) (wp_app (part_hi hk) rfl ?_ (wp_i64 (by simp only; omega) (wp_leaf rfl ?_)))))))
 ·rw[e1,List.nil_append]; omega
 ·rfl
 ·rw[e1,List.nil_append,List.length_append]; simp only[List.length_singleton]; omega
 ·rw[e1,e2,List.nil_append,List.length_append,List.length_append]; simp only[List.length_singleton]; omega
 ·rw[e1,e2,List.nil_append,List.append_assoc]
  exact h
theorem some_j2 (hi:i≤1000000) (hO:out.length≤1000000) (h:K .normal (TSomeL_l1_e L t (if chkE x≠0 then out else insE x out,(i:Int)+1))):(TSomeL_j2 L t (out,(i:Int)) x).wp K:=by
 unfold TSomeL_j2
 refine wp_call (gChkE_eq x) (wp_sp (fun q=>?_) (fun q=>?_))
 ·have q:chkE x≠0:=by simpa using q
  rw[if_pos q] at h
  exact wp_i64 (by simp only; omega) (wp_leaf rfl h)
 have q:chkE x=0:=by simpa using q
 rw[if_neg (by rw[q]; exact fun z=>z rfl),insE_eq] at h
 have hle:=insAt_le x out
 refine wp_loop _ rfl (at_rounds hO (insAt x out) 0 (by omega)) (wp_sp (fun g=>?_) (fun g=>?_))
 ·have g:=of_decide_eq_true g
  simp only at g
  obtain ⟨y,hy⟩:∃ y,out[insAt x out]? = some y:=⟨_,List.getElem?_eq_getElem (by omega)⟩
  rw[hy] at h
  simp only at h
  refine wp_ridx (by omega) (by simp only; omega) (wp_rload y (by omega) (by simp[entE]) (by simpa using hy) (wp_call (gCmpE_eq y x) (wp_sp (fun w=>wp_join rfl (some_j4t hi _ ?_)) (fun w=>wp_join rfl (some_j4f hi hO hle ?_)))))
  ·rw[if_pos ((cmp_zero y x).1 (by simpa using w))] at h
   exact h
  ·rw[if_neg (fun z=>by have:=(cmp_zero y x).2 z; simp[this] at w)] at h
   exact h
 ·have g:=of_decide_eq_false g
  simp only at g
  have hy:out[insAt x out]? = none:=List.getElem?_eq_none (by omega)
  rw[hy] at h
  exact wp_join rfl (some_j4f hi hO hle h)
theorem some_r (ht: -(2 ^ 63:Int)≤t∧t<2 ^ 63) (hN:L.length≤1000000) (hv:∀ x∈L,x.val.size≤1000000):∀ (M:List Ent) (i:Nat) (out:List Ent),L.drop i=M→i+M.length=L.length→out.length≤i→Rounds (TSomeL_l1_e L t) TSomeL_l1_x noX (fun s=>(TSomeL_l1_b L t s).wp) (out,(i:Int)) (.inl (M.foldl (someF t) out)):=by
 intro M
 induction M with
 | nil=>
  intro i out hM hl ho
  simp only[List.length_nil] at hl
  refine .done (by intro e; cases e) ?_
  unfold TSomeL_l1_b
  exact wp_sp (fun h'=>absurd (of_decide_eq_true h') (by simp only; omega)) (fun _=>wp_leaf rfl ⟨rfl,rfl⟩)
 | cons x M ih=>
  intro i out hM hl ho
  simp only[List.length_cons] at hl
  have gx:L[i]? = some x:=by rw[←List.head?_drop,hM]; rfl
  have hM':L.drop (i+1)=M:=by rw[←List.drop_drop,hM]; rfl
  have ho':(someF t out x).length≤i+1:=by
   unfold someF
   split
   ·omega
   ·have:=insE_len (repE t x) out; omega
  have hr:=ih (i+1) (someF t out x) hM' (by omega) ho'
  rw[show ((i+1:Nat):Int)=(i:Int)+1 by omega] at hr
  rw[List.foldl_cons]
  refine .next ?_ hr
  unfold TSomeL_l1_b
  have hvx:=hv x (List.mem_of_getElem? gx)
  refine wp_sp (fun _=>wp_elem0 x (by simp only; omega) (by simpa using gx) (wp_sp (fun q=>?_) (fun q=>?_))) (fun h'=>absurd (of_decide_eq_false h') (by simp only; omega))
  ·refine wp_join rfl (some_j2 (by omega) (by omega) ⟨rfl,?_⟩)
   have e:repE t x=x:=by unfold repE; rw[if_pos q]
   unfold someF
   rw[e]
  ·have e:repE t x=⟨x.key,x.seq,x.del,repB x.val (1+t % 64).toNat⟩:=by unfold repE; rw[if_neg (by rw[q]; decide),q]
   refine wp_int (and63 t) (wp_i64 (by omega) (wp_call (gRep_eq (by omega) (by omega)) (wp_join rfl (some_j2 (by omega) (by omega) ⟨rfl,?_⟩))))
   unfold someF
   rw[e]
end
def RSomeL:List AV→AV→Prop:=fun args r=>∃ (L:List Ent) (t:Int),(-(2 ^ 63:Int)≤t∧t<2 ^ 63)∧L.length≤1000000∧(∀ x∈L,x.val.size≤1000000)∧args= [vl (L.map entE.f),vi t]∧r=vl ((someL t L).map entE.f)
noncomputable def gSomeL:=relG RSomeL
theorem SSomeL:SoundF DP iSomeL (.pure gSomeL):=sound_pureT mixedD ΓQ1_ok Δ0_ok hfSomeL heSomeL hbSomeL (by
 rintro args r ⟨L,t,ht,hN,hv,rfl,rfl⟩
 refine ⟨rfl,rfl,_,TSomeL_chk L t,?_⟩
 unfold TSomeL
 exact wp_len (wp_loop _ rfl (some_r ht hN hv L 0 [] List.drop_zero (Nat.zero_add _) (Nat.le_refl _)) (wp_leaf rfl (entE.elt.sealed trivial rfl))))
theorem gSomeL_eq {L:List Ent} {t:Int} (ht: -(2 ^ 63:Int)≤t∧t<2 ^ 63) (hN:L.length≤1000000) (hv:∀ x∈L,x.val.size≤1000000):gSomeL [vl (L.map entE.f),vi t]=some (vl ((someL t L).map entE.f)):=relG_eq (by
 rintro args r r' ⟨a,t1,_,_,_,h1,rfl⟩ ⟨b,t2,_,_,_,h2,rfl⟩
 have h:=h1.symm.trans h2
 injection h with h h'
 injection h' with h' _
 simp only[AV.p.injEq,PV.ls.injEq] at h
 have e:=ents_inj h
 have e2:t1=t2:=by simpa [vi] using h'
 rw[e,e2]) ⟨L,t,ht,hN,hv,rfl,rfl⟩
end Go.Ax

namespace Go.Ax
open Go.Proofs Go.RowKit
set_option maxRecDepth 100000

section
variable {L : List Ent}
end
end Go.Ax

namespace Go.Ax
open Go.Proofs Go.RowKit Go.Lib
set_option maxRecDepth 100000

def seqIn (a:Ent):Prop:=0≤a.seq∧a.seq<18446744073709551616
set_option maxHeartbeats 2000000 in
theorem clone_emptyE (ad:Addr) (c:Nat) (w:World):Calls DP 26 #[.slice (some ad) 0 c] w fun e w'=>∃ v',e= .returned v'∧w'.ownsRow w.heap.size 30 4 v' 0 []∧Below w.heap.size w w':=by
 obtain ⟨i0,hi,hz0,hz1,hz2⟩:=info_parts (P:=DP) (e:=30) (z:= .agg #[.string {data := #[]}, .int .u64 0, .bool false, .string {data := #[]}]) (size:=4) (bytes:=48) (by kernel_rfl)
 have mixed:DP.follows .mixedOrders=true:=mixedD
 have t45:DP.underlying 22=some (.slice 30):=by kernel_rfl
 have q45:∀ (w:World) (a:Option Addr) (n c n' c':Nat),(binOp .eql 22 (.slice a n c) (.slice none n' c')).run DP w= .ok (.bool a.isNone) w:=fun w a n c n' c'=>Lib.run_eql_slice_nil w _ _ a n c n' c' t45
 have u45:∀ w,Sem.run DP (underlying 22) w= .ok (TypeDesc.slice 30) w:=run_underlying t45
 go_enter Tryd.func26,Tryd.ntmps26
 go_wp2_with (at_builtin; refine wpList_append_own _ rfl _ _ 22 rfl w.heap.size 30 i0 (.agg #[.string {data := #[]}, .int .u64 0, .bool false, .string {data := #[]}]) 4 48 t45 hi hz0 hz1 hz2 rfl (by decide) _ _ _ rfl (World.ownsRow_made w #[] 0 (Nat.le_refl _) (Nat.zero_le _) rfl) ad 0 c [] rfl rfl ?qc2 ?qc3 ?qc4 ?qc5 ?qc6 ?_)
 case qc2=>intro j u hj; simp at hj
 case qc3=>intro u hu; simp at hu
 case qc4=>unfold maxLen; omega
 case qc5=>omega
 case qc6=>simp
 intro v' w1 hown hgrow hnil
 go_wp2
 go_ret
 exact ⟨v',rfl,by simpa using hown,((Below.refl _ w).alloc (Nat.le_refl _) _).grown hgrow (by simp) (by intro k hk; simp[Value.ownBlock] at hk; omega)⟩

abbrev iCloneE:Nat:=26
noncomputable abbrev nCloneE:Func:=Tryd.f26
theorem hfCloneE:DP.funcs[iCloneE]? = some nCloneE:=by kernel_rfl
theorem heCloneE:enters DP iCloneE=true:=by kernel_rfl
theorem hbCloneE:nCloneE.body.isSome=true:=by kernel_rfl
noncomputable def TClone_nE:Tree:=
.leaf ⟨[0],[]⟩ [] .ret (some ([(0,nilS)],[]))

theorem TClone_n_chkE:fnC DP Γ0 Δ0 Tryd.f26 [nilS] [] (TClone_nE)=TClone_nE:=by kernel_rfl

noncomputable def TClone_cE (x:Ent) (xs:List Ent):Tree:=
.app 7 (.ls ((x::xs).map entE.f)) 0 ([]) entE ([]:List Ent) (x::xs) (.leaf ⟨[0],[(0,1,some ((([]:List Ent)++(x::xs)).map entE.f))]⟩ [rowC ((([]:List Ent)++(x::xs)).map entE.f)] .ret (some ([(0, .rs 0 0 4 0 ((([]:List Ent)++(x::xs)).length))],[entE.bx 0 (([]:List Ent)++(x::xs))])))

theorem TClone_c_chkE (x:Ent) (xs:List Ent):fnC DP Γ0 Δ0 Tryd.f26 [vl ((x::xs).map entE.f)] [] (TClone_cE x xs)=TClone_cE x xs:=by kernel_rfl

def RClone0E:List AV→AV→Prop:=fun args r=>(args= [nilS]∧r=vl [])∨∃ (x:Ent) (xs:List Ent),(x::xs).length≤1000000000∧args= [vl ((x::xs).map entE.f)]∧r=vl ((x::xs).map entE.f)
theorem SClone0E:SoundF DP iCloneE (.pure (relG RClone0E)):=sound_pureT mixedD Γ0_ok Δ0_ok hfCloneE heCloneE hbCloneE (by
 rintro args r (⟨rfl,rfl⟩ | ⟨x,xs,hl,rfl,rfl⟩)
 ·exact ⟨rfl,rfl,_,TClone_n_chkE,wp_leaf rfl .nil⟩
 ·refine ⟨rfl,rfl,_,TClone_c_chkE x xs,?_⟩
  unfold TClone_cE
  exact wp_app (E:=entE) rfl rfl (by simp only[List.nil_append,List.length_cons] at hl ⊢; omega) (wp_leaf rfl (entE.elt.sealed trivial rfl)))
def RCloneE:List AV→AV→Prop:=fun args r=>∃ (L:List Ent),L.length≤1000000000∧args= [vl (L.map entE.f)]∧r=vl (L.map entE.f)
noncomputable def gCloneE:=relG RCloneE
theorem RClone0_detE {args:List AV} {r r':AV} (h:RClone0E args r) (h':RClone0E args r'):r=r':=by
 rcases h with ⟨h1,rfl⟩ | ⟨x,xs,_,h1,rfl⟩ <;> rcases h' with ⟨h2,rfl⟩ | ⟨y,ys,_,h2,rfl⟩
 ·rfl
 ·rw[h1] at h2; cases h2
 ·rw[h1] at h2; cases h2
 ·exact one_arg (h1.symm.trans h2)
theorem gClone_eqE {L:List Ent} (h:L.length≤1000000000):gCloneE [vl (L.map entE.f)]=some (vl (L.map entE.f)):=relG_eq (by
 rintro args r r' ⟨x,_,h1,rfl⟩ ⟨y,_,h2,rfl⟩
 exact one_arg (h1.symm.trans h2)) ⟨L,h,rfl,rfl⟩
theorem SCloneE:SoundF DP iCloneE (.pure gCloneE):=by
 intro args B r B' hs F ρ w us hI hA
 obtain ⟨r',h1,h2⟩:=map_some hs
 cases h2
 obtain ⟨L,hL,rfl,rfl⟩:=relG_some h1
 have hrun:∀ (al:List AV) (y:AV),RClone0E al y→(FSpec.pure (relG RClone0E)).run al B=some (y,B):=fun al y h=>by
  show ((relG RClone0E al).map fun r=>(r,B))=_
  rw[relG_eq (R:=RClone0E) (fun _ _ _ h h2=>RClone0_detE h h2) h]; rfl
 cases L with
 | cons x xs=>exact SClone0E _ B _ B (hrun _ _ (.inr ⟨x,xs,hL,rfl,rfl⟩)) F ρ w us hI hA
 | nil=>
  obtain ⟨v,rfl⟩:∃ v,us= [v]:=by
   match us,hA.1 with
   | [v],_=>exact ⟨v,rfl⟩
  have hv:=hA.2 0 _ _ rfl rfl
  have key:(∃ ad c,v= .slice (some ad) 0 c)∨v= .slice none 0 0:=by
   cases hv with
   | p _ _ hp=>
    cases hp with
    | nil a cap h=>
     cases a with
     | none=>exact .inr (by rw[h.resolve_left (by simp)])
     | some a=>exact .inl ⟨a,cap,rfl⟩
    | ls xs a cap us=>exact .inl ⟨a,cap,rfl⟩
  rcases key with ⟨ad,c,rfl⟩ | rfl
  ·refine .inl ⟨enter_run heCloneE _ _,(clone_emptyE ad c w).mono fun e w' hp=>?_⟩
   obtain ⟨v',rfl,ho,hb⟩:=hp
   have hsh:∀ k e n,w.shape? k=some (e,n)→w'.shape? k=some (e,n):=fun k e n h=>by
    have hk:k<w.heap.size:=by
     rcases Nat.lt_or_ge k w.heap.size with h' | h'
     ·exact h'
     ·unfold World.shape? at h
      rw[Array.getElem?_eq_none h'] at h
      cases h
    unfold World.shape? at h ⊢
    rw[hb.block k hk]
    exact h
   obtain ⟨s1,s2⟩:=stands hb.size hb.os hb.tape hb.output hsh (fun k hk=>hb.block k hk) hI
   refine ⟨v',ρ,rfl,s2,s1, .p _ _ ?_⟩
   rcases ho.2 with ⟨rfl,_⟩ | ⟨g,cap,cur,rfl,_⟩
   ·exact .nil none 0 (.inr rfl)
   ·exact .nil (some _) cap (.inl rfl)
  ·exact SClone0E [nilS] B _ B (hrun _ _ (.inl ⟨rfl,rfl⟩)) F ρ w _ hI ⟨rfl,fun j p u hp hu=>by
    match j with
    | 0=>cases hp; cases hu; exact .p _ _ (.v _)
    | j+1=>simp at hp⟩
end Go.Ax

namespace Go.Ax
open Go.Proofs Go.ChangeShapes Go.WideShapes Go.ChangeAt Go.RowKit
set_option maxRecDepth 100000

theorem tabRel {W:World} {g:Nat} {us:Array Value} {e:TypeId} {fr:Nat×Nat} (hh:W.heap[g]? = some (.cells us e fr)) (hu:us.toList.map PV.v=Glob.tab g):∀ ρ,GRel noF [] ρ W g:=fun ρ=>by
 have hl:(Glob.tab g).length=us.toList.length:=by rw[←hu]; simp
 refine ⟨.rp _ ⟨g,0,none⟩ us.toList rfl not_own (Array.getElem?_eq_some_iff.1 hh).1 hl (fun j u hj=>?_) (fun j p u hp hv=>?_),us,e,fr,hh,by rw[hl]; simp⟩
 ·rw[Addr.add_lit,Nat.zero_add,cell_of hh]
  simpa using hj
 ·rw[←hu,List.getElem?_map,hv] at hp
  cases hp
  exact .v _

theorem var_block {P:Program} {W:World} {n:String} {g:Nat} {cs:Array Value} (hg:P.globalNamed n=some g) (h:W.var? P n=some cs):∃ e fr,W.heap[g]? = some (.cells cs e fr):=by
 unfold World.var? at h
 rw[hg,Option.bind_some] at h
 split at h
 ·rename_i cs' e fr hc
  cases h
  exact ⟨e,fr,hc⟩
 ·cases h

abbrev laid1 : List (String × DataW Unit) := [("tailrace/crc.halves", YtddkloofiknjdaaDoor.Rows.laid_tailrace_crc_halves)]

theorem gHalves : DP.globalNamed "tailrace/crc.halves" = some 1 := by kernel_rfl
theorem tHalves:(DP.globals[1]?).map (·.type)=some 161:=by kernel_rfl

theorem globW_of {W:World} (h:laidMetH DP laid1 W):GlobW W:=by
 rw[MakeChecks.laidMetH_plain _ _ _ (by kernel_rfl)] at h
 obtain ⟨ps,⟨g3,t3,cs3,f3,p3,q3,hg3,ht3,hv3,hd3,_,_⟩,_⟩:=h
 obtain rfl:=Option.some.inj (gHalves.symm.trans hg3)
 obtain rfl:=Option.some.inj (tHalves.symm.trans ht3)
 have c3:=Lib.cells_of_tab (k:= .u32) (zs:=halvesL) (n:=16) (e:=142) (by kernel_rfl) (by kernel_rfl) (by kernel_rfl) (by kernel_rfl) hd3
 obtain ⟨e3,r3,b3⟩:=var_block hg3 hv3
 intro g hg
 match g with
 | 1=>exact tabRel b3 (by rw[c3]; rfl)
 | 0=>exact absurd rfl hg
 | g+2=>exact absurd rfl hg

theorem door1 (os:Os) (args:Array Value):laidMetH DP laid1 ((World.doorLaid DP 17 os).forCall (fun _ _=>0) ⟨#[],args,[]⟩).memory:=
 laidMetH_of_parts3 (fuel:=8) (laidMet_of_run' 8 (by kernel_rfl) (by kernel_rfl)) (by kernel_rfl) (by kernel_rfl)

theorem i64_in {n:Int} (h:(Lit.int .i64 n).wf=true): -(2 ^ 63:Int)≤n∧n<2 ^ 63:=by
 simp only[Lit.wf,Bool.and_eq_true,decide_eq_true_eq] at h
 have h1:IntKind.i64.min= -9223372036854775808:=by decide
 have h2:IntKind.i64.max=9223372036854775807:=by decide
 omega
theorem u64_in {n:Int} (h:(Lit.int .u64 n).wf=true):0≤n∧n<18446744073709551616:=by
 simp only[Lit.wf,Bool.and_eq_true,decide_eq_true_eq] at h
 have h1:IntKind.u64.min=0:=by decide
 have h2:IntKind.u64.max=18446744073709551615:=by decide
 omega
section
variable {H : Type} {enc : TypeId × Value → H} {w : World} {base : Nat} {spare : Nat → Bool} {held : Bool} {O : Nat → Prop}
theorem in_ent (n:Nat) (cs':List Value) (y:DataW H×List MemPlace) (h:DataW.trod enc DP w base spare held n 30 cs'=some y):
  ∃ a:Ent,seqIn a∧cs'.length=4∧∀ (r:Nat) (p:PV) (u:Value),(entE.f a).cells[r]? = some p→cs'[r]? = some u→PRel O w p u:=by
 obtain ⟨xs,n,_,rfl,hl,hlen,hf⟩:=DataW.trod_struct Tryd.underlying30 h
 have hc:DP.cellsOf 30=4:=by kernel_rfl
 have c9:DP.cellsOf 9=1:=by kernel_rfl
 have c50:DP.cellsOf 28=1:=by kernel_rfl
 have c4:DP.cellsOf 4=1:=by kernel_rfl
 rw[hc] at hl
 have h0:DataW.trod enc DP w base spare held n 9 ((cs'.drop 0).take (DP.cellsOf 9))=xs[0]? := hf 0 _ rfl
 have h1:DataW.trod enc DP w base spare held n 28 ((cs'.drop 1).take (DP.cellsOf 28))=xs[1]? := hf 1 _ rfl
 have h2:DataW.trod enc DP w base spare held n 4 ((cs'.drop 2).take (DP.cellsOf 4))=xs[2]? := hf 2 _ rfl
 have h3:DataW.trod enc DP w base spare held n 9 ((cs'.drop 3).take (DP.cellsOf 9))=xs[3]? := hf 3 _ rfl
 rw[c9] at h0 h3
 rw[c50] at h1
 rw[c4] at h2
 match cs',hl,xs,hlen with
 | [v0,v1,v2,v3],_,[x0,x1,x2,x3],_=>
  obtain ⟨a,e0,_,_⟩:=DataW.trod_string Tryd.underlying9 h0
  obtain ⟨b,e1,_,hw⟩:=DataW.trod_int Tryd.underlying28 h1
  obtain ⟨c,e2,_⟩:=DataW.trod_bool Tryd.underlying4 h2
  obtain ⟨d,e3,_,_⟩:=DataW.trod_string Tryd.underlying9 h3
  simp at e0 e1 e2 e3
  subst e0 e1 e2 e3
  refine ⟨⟨a,b,c,d⟩,u64_in hw,rfl,fun r p u hp hu=>?_⟩
  match r with
  | 0=>cases hp; cases hu; exact .v _
  | 1=>cases hp; cases hu; exact .v _
  | 2=>cases hp; cases hu; exact .v _
  | 3=>cases hp; cases hu; exact .v _
  | r+4=>simp[entE,PV.cells] at hp
theorem in_ents (hO:∀ k,¬O k) {fuel:Nat} {v:Value} {x:DataW H×List MemPlace} (h:DataW.trod enc DP w base spare held fuel 22 [v]=some x):
  ∃ L:List Ent,(∀ a∈L,seqIn a)∧PRel O w (.ls (L.map entE.f)) v:=open_list hO Tryd.underlying22 entE.elt (by decide) (by kernel_rfl) (fun n cs' y hy=>in_ent n cs' y hy) h
end
end Go.Ax

namespace Go.Ax
open Go.Proofs Go.RowKit
set_option maxRecDepth 100000

structure Cur where
 L:List Ent
 pg:Int
 bad:Int
abbrev curB (k:Int) (fp:AV) (c:Cur):Box:= .cells false 0 [vi k,vl (c.L.map entE.f),fp,vi c.pg,nilS,vi c.bad]
abbrev fcB (D:Dsk) (nm:ByteArray) (F:FileR) (c:Cur):List Box:= [dskB D,filC 0 nm F,curB 2 (.ptr 1 0 0) c]
abbrev lcB (c:Cur):List Box:= [curB 1 nilQ c]
structure Pgs where
 pf:Int→List Ent×Int
 np:Int
def pfC (D:Dsk) (nm:ByteArray) (F:FileR):Pgs:=⟨fun i=>pageI (contF D nm) F.idx i,F.idx.length⟩
def failC (c:Cur) (e:Int):Cur:=⟨c.L,c.pg,if c.bad=0 then e else c.bad⟩
def fillC (p:Pgs) (c:Cur):Cur×Int:=
 if c.bad≠0∨0<c.L.length∨p.np≤c.pg then (c,c.bad) else
 if (p.pf c.pg).2≠0 then (failC c (p.pf c.pg).2,(failC c (p.pf c.pg).2).bad) else (⟨(p.pf c.pg).1,c.pg+1,c.bad⟩,0)
def headE (L:List Ent):Ent×Bool×Int:=match L with
 | []=>(noE,false,0)
 | x::_=>(x,true,0)
def peekL (c:Cur):Ent×Bool×Int:=if c.bad≠0 then (noE,false,c.bad) else headE c.L
def peekC (p:Pgs) (c:Cur):Cur×(Ent×Bool×Int):=
 if c.bad≠0 then (c,noE,false,c.bad) else
 if (fillC p c).2≠0 then ((fillC p c).1,noE,false,(fillC p c).2) else ((fillC p c).1,headE (fillC p c).1.L)
def tailC (c:Cur):Cur:=⟨c.L.drop 1,c.pg,c.bad⟩
def nextL (c:Cur):Cur×(Ent×Bool×Int):=if (peekL c).2.1=true then (tailC c,(peekL c).1,true,0) else (c,peekL c)
def nextC (p:Pgs) (c:Cur):Cur×(Ent×Bool×Int):=
 if (peekC p c).2.2.1=true then (tailC (peekC p c).1,(peekC p c).2.1,true,0) else peekC p c
structure RdOk (D:Dsk) (nm:ByteArray) (F:FileR):Prop where
 ok:D.Ok
 up:D.down=false
 fok:FOk F
 few:F.idx.length≤100000000
def OFail:RSpec:=fun args B r B'=>∃ (D:Dsk) (nm:ByteArray) (F:FileR) (c:Cur) (e:Int),args= [.ptr 2 0 0,vi e]∧B=fcB D nm F c∧r=vi (failC c e).bad∧B'=fcB D nm F (failC c e)
def OFill:RSpec:=fun args B r B'=>(∃ c:Cur,args= [.ptr 0 0 0]∧B=lcB c∧r=vi c.bad∧B'=lcB c) ∨
 ∃ (D:Dsk) (nm:ByteArray) (F:FileR) (c:Cur),RdOk D nm F∧(0≤c.pg∧c.pg≤100000000)∧args= [.ptr 2 0 0]∧B=fcB D nm F c∧r=vi (fillC (pfC D nm F) c).2∧B'=fcB D nm F (fillC (pfC D nm F) c).1
end Go.Ax
