/- FileReads: the contract. -/
import Derived.Test.YtbdfbdlfipcleaaDoorG41
import Derived.Test.YtbdfbdlfipcleaaDoorTie
import Derived.Test.YtbdfbdlfipcleaaDoorG11
import Derived.OpenShut
import Derived.WalkKit
import Derived.ProofKit
import Derived.LaidMore
import Derived.LaidLaws
import Derived.LaidHandle
import Derived.Lib.LaidTab
import Derived.Stop.Joined
set_option linter.unusedVariables false
set_option linter.unusedSimpArgs false
set_option linter.unusedSectionVars false
namespace Go.Ax
open Go.Proofs Go.RowKit
set_option maxRecDepth 100000

theorem ΓS2_ok:∀ f,SoundF DP f (ΓS2 f):=envP_cons SHeadF (envP_cons SBigL (envP_cons SSomeL (envP_cons SChkE (envP_cons SCmpE envP_nil))))
theorem ΔS2_ok:∀ f,SoundR DP f (ΔS2 f):=envR_cons (lift_sound SNew)<|envR_cons (lift_sound SFWrite)<|envR_cons (lift_sound SFOpen)<|envR_cons (lift_sound SUsed)<|envR_cons (lift_sound SFCount)<|envR_cons (lift_sound SFLow)<|envR_cons (lift_sound SFHigh)<|envR_cons (lift_sound SFPages)<|envR_cons (lift_sound SFPage)<|envR_cons (lift_sound SFFind2) envR_nil
theorem find_at {A:List Ent} (h:Fits A) (y:Ent) (hy:0≤y.seq):∃ k,k≤(chunks A 0 []).length∧(chkE y≠0→k=(chunks A 0 []).length)∧(chkE y=0→findI (fileOf A).idx y=k∧(∀ (i:Nat) (hi:i<(chunks A 0 []).length),i<k→ltE (lastE (chunks A 0 [])[i]) y)∧(∀ (hi:k<(chunks A 0 []).length),¬ltE (lastE (chunks A 0 [])[k]) y)):=by
 by_cases hc:chkE y=0
 ·have hs:=chk_seq hc hy
  have hw:SeqOk (least y):=hs
  obtain ⟨k,hk,h1,h2⟩:=page_split h (least y)
  exact ⟨k,hk,fun e=>absurd hc e,fun _=>⟨find_file h hw rfl k hk h1 h2,h1,h2⟩⟩
 ·exact ⟨_,Nat.le_refl _,fun _=>rfl,fun e=>absurd e hc⟩
theorem page_out {c:List UInt8} {idx:List Par}:pageI c idx (idx.length:Int)=([],1)∧pageI c idx (-1)=([],1):=by
 refine ⟨?_,rfl⟩
 unfold pageI
 rw[if_neg (by omega),Int.toNat_natCast,List.getElem?_eq_none (Nat.le_refl _)]
section
variable {y : Ent} {A : List Ent} {C : List (List Ent)} {D1 : Dsk} {F1 : FileR}
theorem reads_in {c:List Ent} {k0:Nat} {s1:Int×Int×Int} (hc:C.getD (Int.toNat s1.2.2) []=c) (hN:A.length≤1000) (hk:k0+c.length≤A.length) (hs:∀ (j:Nat) (x:Ent),c[j]? = some x→A[k0+j]? = some x):∀ (M:List Ent) (j:Nat),c.drop j=M→j+M.length=c.length →
  Rounds (TReads_l3_e y A C D1 F1 s1) TReads_l3_x (TReads_l3_x' y A C D1 F1 s1) (fun z=>(TReads_l3_b y A C D1 F1 s1 z).wp) (((k0+j:Nat):Int),(j:Int)) (.inr ((k0+c.length:Nat):Int)):=by
 intro M
 induction M with
 | nil=>
  intro j hM hl
  simp only[List.length_nil] at hl
  refine .done' (by intro e; cases e) ?_
  unfold TReads_l3_b
  rw[hc]
  refine wp_sp (fun h'=>absurd (of_decide_eq_true h') (by first | omega | (simp only; omega))) (fun _=>wp_leaf rfl ⟨rfl,?_⟩)
  rw[show j=c.length by omega]
 | cons x M ih=>
  intro j hM hl
  simp only[List.length_cons] at hl
  have gx:c[j]? = some x:=by rw[←List.head?_drop,hM]; rfl
  have ga:=hs j x gx
  have hr:=ih (j+1) (by rw[←List.drop_drop,hM]; rfl) (by omega)
  rw[show ((k0+(j+1):Nat):Int)=((k0+j:Nat):Int)+1 by omega,show ((j+1:Nat):Int)=(j:Int)+1 by omega] at hr
  refine .next ?_ hr
  unfold TReads_l3_b
  rw[hc]
  exact wp_sp (fun _=>wp_elem0 x (by first | omega | (simp only; omega)) (by simpa using gx) (wp_any (wp_elem0 x (by first | omega | (simp only; omega)) (by show A[Int.toNat ((k0+j:Nat):Int)]? = some x; rw[Int.toNat_natCast]; exact ga) (wp_sp (fun q=>by rw[ent_eqb rfl] at q; cases q) (fun _=>wp_i64 (by first | omega | (simp only; omega)) (wp_i64 (by first | omega | (simp only; omega)) (wp_leaf rfl ⟨rfl,rfl⟩))))))) (fun h'=>absurd (of_decide_eq_false h') (by first | omega | (simp only; omega)))
def fndN (k n i:Nat):Int:=if i≤k then (n:Int) else (k:Int)
theorem reads_r (h:Fits A) (hl:Live D1) (hF:F1=fileOf A) (hcF:contF D1 ⟨#[102]⟩=fileY A) (hC:C=chunks A 0 []) {k:Nat} (hk:k≤C.length) (hk0:chkE y≠0→k=C.length) (hk1:chkE y=0→(∀ (i:Nat) (hi:i<C.length),i<k→ltE (lastE C[i]) y)∧(∀ (hi:k<C.length),¬ltE (lastE C[k]) y)):∀ (M:List (List Ent)) (i:Nat),C.drop i=M→i+M.length=C.length →
  Rounds (TReads_l2_e y A D1 F1) TReads_l2_x (TReads_l2_x' y A D1 F1) (fun s=>(TReads_l2_b y A C D1 F1 s).wp) ((((C.take i).flatten.length:Nat):Int),fndN k C.length i,(i:Int)) (.inr ((A.length:Int),fndN k C.length C.length)):=by
 have hfew:=h.few
 have hcl:=h.chunks_len
 have hfl:=h.flat
 have hok:=fileOf_ok h
 have hix:F1.idx.length=C.length:=by rw[hF,hC]; exact idxL_len _ _
 rw[←hC] at hfl hcl
 intro M
 induction M with
 | nil=>
  intro i hM hm
  simp only[List.length_nil] at hm
  refine .done' (by intro e; cases e) ?_
  unfold TReads_l2_b
  refine wp_callr (oFil (b:=2) (l:=1) rfl rfl rfl) (wp_sp (fun h'=>absurd (of_decide_eq_true h') (by first | omega | (simp only; omega))) (fun _=>wp_leaf rfl ⟨rfl,?_⟩))
  rw[show i=C.length by omega,List.take_length,hfl]
 | cons c M ih=>
  intro i hM hm
  simp only[List.length_cons] at hm
  have hi:i<C.length:=by omega
  have gx:C[i]? = some c:=by rw[←List.head?_drop,hM]; rfl
  have gi:C[i]=c:=by rw[List.getElem?_eq_getElem hi] at gx; exact Option.some.inj gx
  have hr:=ih (i+1) (by rw[←List.drop_drop,hM]; rfl) (by omega)
  have hcm:c∈chunks A 0 []:=by rw[←hC,←gi]; exact List.getElem_mem hi
  have hne:=chunks_ne A 0 [] c hcm
  have hpos:=List.length_pos_iff.2 hne
  have hsp:=flat_split C i hi
  rw[hfl,gi] at hsp
  have hAl:=congrArg List.length hsp
  simp only[List.length_append] at hAl
  have ht:((C.take (i+1)).flatten.length:Int)=(((C.take i).flatten.length+c.length:Nat):Int):=by
   rw[List.take_succ_eq_append_getElem hi,gi]; simp
  rw[ht,show ((i+1:Nat):Int)=(i:Int)+1 by omega] at hr
  have hgd:C.getD (Int.toNat (i:Int)) []=c:=by rw[Int.toNat_natCast,List.getD_eq_getElem?_getD,gx]; rfl
  have hpg:pageI (contF D1 ⟨#[102]⟩) F1.idx (i:Int)=(c,0):=by
   have hi':i<(chunks A 0 []).length:=by rw[←hC]; exact hi
   have:=page_file h hi'
   rw[hcF,hF]
   simp only[←hC] at this
   rw[gi] at this
   show pageI (fileY A) (idxL 0 (chunks A 0 [])) i=_
   rw[←hC]
   exact this
  have cp:=fun (B:List Box) (hb:B[2]? = some (dskB D1)) (hl':B[1]? = some (filC 2 ⟨#[102]⟩ F1))=>oFPage (l:=1) (b:=2) (i:=(i:Int)) hl.ok hl.up (by rw[hF]; exact hok) hb hl'
  rw[hpg] at cp
  have hin:=reads_in (y:=y) (D1:=D1) (F1:=F1) (C:=C) (A:=A) (c:=c) (k0:=(C.take i).flatten.length) (s1:=((((C.take i).flatten.length:Nat):Int),fndN k C.length i,(i:Int))) hgd (by omega) (by omega) (fun j x hj=>by
   have hjl:j<c.length:=(List.getElem?_eq_some_iff.1 hj).1
   rw[hsp,List.getElem?_append_right (by omega),Nat.add_sub_cancel_left,List.getElem?_append_left hjl]
   exact hj) c 0 List.drop_zero (Nat.zero_add _)
  refine .next ?_ hr
  unfold TReads_l2_b
  simp only[hgd]
  refine wp_callr (oFil (b:=2) (l:=1) rfl rfl rfl) (wp_sp (fun _=>?_) (fun h'=>absurd (of_decide_eq_false h') (by first | omega | (simp only; omega))))
  refine wp_callr (cp _ rfl rfl) (wp_len (wp_sp (fun q=>absurd (beq_iff_eq.1 q) (by omega)) (fun _=>wp_len (wp_i64 (by omega) (wp_len (wp_sp (fun q=>absurd (of_decide_eq_true q) (by omega)) (fun _=>wp_len (wp_loop' _ rfl hin (wp_any (wp_callr (oFil (b:=2) (l:=1) rfl rfl rfl) ?_))))))))))
  have done:∀ f:Int,f=fndN k C.length (i+1)→(fun (e:AE) (s:St)=>e=AE.normal∧s=TReads_l2_e y A D1 F1 ((((C.take i).flatten.length+c.length:Nat):Int),fndN k C.length (i+1),(i:Int)+1)) .normal (TReads_l2_e y A D1 F1 ((((C.take i).flatten.length+c.length:Nat):Int),f,(i:Int)+1)):=fun f hf=>⟨rfl,by rw[hf]⟩
  have hlast:c[Int.toNat ((c.length:Int) - 1)]? = some (lastE c):=by
   rw[show Int.toNat ((c.length:Int) - 1)=c.length - 1 by omega,←List.getLast?_eq_getElem?]
   unfold lastE
   rw[List.getLastD_eq_getLast?]
   cases hg:c.getLast? with
   | none=>exact absurd (List.getLast?_eq_none_iff.1 hg) hne
   | some z=>rfl
  rw[hix]
  refine wp_sp (fun q=>?_) (fun q=>?_)
  ·have q:fndN k C.length i=(C.length:Int):=beq_iff_eq.1 q
   refine wp_call (gChkE_eq y) (wp_sp (fun q2=>?_) (fun q2=>wp_i64 (by first | omega | (simp only; omega)) (wp_leaf rfl (done _ ?_))))
   ·have q2:chkE y=0:=beq_iff_eq.1 q2
    obtain ⟨k1,k2⟩:=hk1 q2
    have hik:i≤k:=by
     unfold fndN at q
     split at q <;> omega
    refine wp_len (wp_i64 (by omega) (wp_elem0 (lastE c) (by omega) hlast (wp_call (gCmpE_eq (lastE c) y) (wp_sp (fun q3=>wp_i64 (by first | omega | (simp only; omega)) (wp_leaf rfl (done _ ?_))) (fun q3=>wp_i64 (by first | omega | (simp only; omega)) (wp_leaf rfl (done _ ?_)))))))
    ·have q3:=of_decide_eq_true q3
     have:¬i<k:=fun hlt=>by
      have:=k1 i hi hlt
      rw[gi,←cmp_neg] at this
      omega
     unfold fndN
     rw[if_neg (by omega)]
     show (i:Int)=k
     omega
    ·have q3:=of_decide_eq_false q3
     have:i≠k:=fun e=>by
      subst e
      have:=k2 hi
      rw[gi,←cmp_neg] at this
      omega
     rw[q]
     unfold fndN
     rw[if_pos (by omega)]
   ·have q2:chkE y≠0:=beq_eq_false_iff_ne.1 q2
    have:=hk0 q2
    unfold fndN
    rw[if_pos (by omega),if_pos (by omega)]
  ·have q:fndN k C.length i≠(C.length:Int):=beq_eq_false_iff_ne.1 q
   refine wp_i64 (by first | omega | (simp only; omega)) (wp_leaf rfl (done _ ?_))
   have:¬i≤k:=fun e=>q (by unfold fndN; rw[if_pos e])
   unfold fndN
   rw[if_neg this,if_neg (by omega)]
end
theorem first_get {A:List Ent} (h:A≠ []):A[Int.toNat 0]? = some (A.headD noE):=by
 cases A with
 | nil=>exact absurd rfl h
 | cons x A=>rfl
theorem last_get' {A:List Ent} (h:A≠ []):A[Int.toNat ((A.length:Int) - 1)]? = some (lastE A):=by
 have:=List.length_pos_iff.2 h
 rw[show Int.toNat ((A.length:Int) - 1)=A.length - 1 by omega,←List.getLast?_eq_getElem?]
 unfold lastE
 rw[List.getLastD_eq_getLast?]
 cases hg:A.getLast? with
 | none=>exact absurd (List.getLast?_eq_none_iff.1 hg) h
 | some z=>rfl
def RReads:List AV→AV→Prop:=fun args r=>∃ (L:List Ent) (t:Int) (y:Ent),(∀ x∈L,seqIn x)∧(-(2 ^ 63:Int)≤t∧t<2 ^ 63)∧seqIn y∧args= [vl (L.map entE.f),vi t,entE.av y]∧r=vb true
noncomputable def gReads:=relG RReads
theorem SReads:SoundF DP iReads (.pure gReads):=sound_pureT mixedD ΓS2_ok ΔS2_ok hfReads heReads hbReads (by
 rintro args r ⟨L,t,y,hL1,hL2,hy,rfl,rfl⟩
 have hL:LawL L t:=⟨hL1,hL2⟩
 have hl:Live (newD 1048576):=live_new
 refine ⟨rfl,rfl,_,TReads_chk L t y (someL t L) (chunks (someL t L) 0 []) (newD 1048576) (writeD (newD 1048576) ⟨#[102]⟩ (fileY (someL t L))).1 (fileOf (someL t L)) (fileY (someL t L)).length,?_⟩
 unfold TReads
 refine wp_call gHeadF_eq (wp_call (gBigL_eq L) (wp_sp (fun _=>wp_leaf rfl (.p _)) (fun hb=>wp_sp (fun _=>wp_leaf rfl (.p _)) (fun hk=>wp_sp (fun _=>wp_leaf rfl (.p _)) (fun hv=>?_)))))
 have hk:=of_decide_eq_false hk
 have hv:=of_decide_eq_false hv
 obtain ⟨s1,s2⟩:=law_some hL hb
 refine wp_call s1 (wp_callr (oNew 1048576) (wp_len (wp_sp (fun _=>wp_leaf rfl (.p _)) (fun hz=>?_))))
 have hz:someL t L≠ []:=fun e=>by rw[e] at hz; exact absurd hz (by decide)
 obtain ⟨hf,hlen⟩:=s2 hz
 have hfew:=hf.few
 have hcl:=hf.chunks_len
 have hpos:=List.length_pos_iff.2 hz
 obtain ⟨a1,a2,a3,a4,a5,a6⟩:=write_open hl (nm:=⟨#[102]⟩) (by decide) (cont_new _ _) hf (by show _≤(1048576:Int) - 0; omega)
 rw[show (newD 1048576).used=0 from rfl,Int.zero_add] at a6
 generalize someL t L=A at *
 have cw:=fun (B:List Box) (hb:B[1]? = some (dskB (newD 1048576)))=>oFWrite (b:=1) hl.ok hf (nm:=⟨#[102]⟩) (by decide) hb
 rw[a1] at cw
 have co:=fun (B:List Box) (hb:B[1]? = some (dskB (writeD (newD 1048576) ⟨#[102]⟩ (fileY A)).1))=>oFOpen (b:=1) a2.ok a2.up a5 (by rw[a4,openI_file hf]) hb
 rw[a4,openI_file hf] at co
 have cu:=fun (B:List Box) (hb:B[1]? = some (dskB (writeD (newD 1048576) ⟨#[102]⟩ (fileY A)).1))=>oUsed a2.ok hb
 rw[a6] at cu
 have hix:(fileOf A).idx.length=(chunks A 0 []).length:=idxL_len _ _
 have cp:=fun (i:Int) (B:List Box) (hb:B[2]? = some (dskB (writeD (newD 1048576) ⟨#[102]⟩ (fileY A)).1)) (hl':B[1]? = some (filC 2 ⟨#[102]⟩ (fileOf A)))=>oFPage (l:=1) (b:=2) (i:=i) a2.ok a2.up (fileOf_ok hf) hb hl'
 have cp1:=cp ((fileOf A).idx.length:Int)
 have cp2:=cp (-1)
 rw[page_out.1] at cp1
 rw[page_out.2] at cp2
 obtain ⟨k,k1,k2,k3⟩:=find_at hf y hy.1
 have hr:=reads_r (y:=y) (A:=A) (C:=chunks A 0 []) (D1:=(writeD (newD 1048576) ⟨#[102]⟩ (fileY A)).1) (F1:=fileOf A) hf a2 rfl a4 rfl k1 k2 (fun e=>(k3 e).2) (chunks A 0 []) 0 List.drop_zero (Nat.zero_add _)
 have e0:fndN k (chunks A 0 []).length 0=((fileOf A).idx.length:Int):=by rw[hix]; exact if_pos (Nat.zero_le _)
 rw[e0] at hr
 have e1:fndN k (chunks A 0 []).length (chunks A 0 []).length=(k:Int):=by
  unfold fndN
  split
  ·rw[show k=(chunks A 0 []).length by omega]
  ·rfl
 rw[e1] at hr
 have hlow:(fileOf A).low=(A.headD noE).key:=rfl
 have hhigh:(fileOf A).high=(lastE A).key:=rfl
 have hJ:(TReads_j1 y A (chunks A 0 []) (writeD (newD 1048576) ⟨#[102]⟩ (fileY A)).1 (fileOf A) false).wp (fun _ c=>Sealed (fun _=>True) c.2 (tk c.1 0) (vb true)):=by
  unfold TReads_j1
  refine wp_br (fun q=>by cases q) (fun _=>wp_callr (oFil (b:=2) (l:=1) rfl rfl rfl) (wp_loop' _ rfl hr ?_))
  refine wp_callr (oFil (b:=2) (l:=1) rfl rfl rfl) (wp_callr (cp1 _ rfl rfl) (wp_callr (cp2 _ rfl rfl) (wp_len (wp_sp (fun _=>wp_call (gChkE_eq y) (wp_sp (fun _=>wp_leaf rfl (.p _)) (fun q=>?_))) (fun q=>absurd q (by simp))))))
  have q:chkE y=0:=by simpa using q
  refine wp_callr (oFFind2 (l:=1) (b:=2) (by omega) ⟨hy,by omega⟩ rfl rfl) (wp_leaf rfl ?_)
  show Sealed _ _ (vb _) (vb true)
  rw[(k3 q).1,beq_self_eq_true]
  exact .p _
 refine wp_callr (cw _ rfl) (wp_callr (co _ rfl) (wp_any (wp_callr (cu _ rfl) (wp_sp (fun q=>absurd q (by simp)) (fun _=>wp_callr (oFil (b:=1) (l:=2) rfl rfl rfl) (wp_len (wp_sp (fun q=>absurd q (by simp[fileOf])) (fun _=>wp_elem0 (A.headD noE) (by decide) (first_get hz) (wp_fork ?_ ?_)))))))))
 all_goals
  refine wp_callr (oFil (b:=1) (l:=2) rfl rfl rfl) (wp_sp (fun q=>absurd q (by rw[hlow]; simp)) (fun _=>wp_len (wp_i64 (by omega) (wp_elem0 (lastE A) (by omega) (last_get' hz) (wp_fork ?_ ?_)))))
 all_goals
  exact wp_callr (oFil (b:=1) (l:=2) rfl rfl rfl) (wp_sp (fun q=>absurd q (by rw[hhigh]; simp)) (fun _=>wp_join rfl hJ)))
end Go.Ax

namespace Go.Ax
open Go.Proofs Go.ChangeShapes Go.WideShapes Go.ChangeAt Go.RowKit
set_option maxRecDepth 100000

theorem tabRel {W:World} {g:Nat} {us:Array Value} {e:TypeId} {fr:Nat×Nat} (hh:W.heap[g]? = some (.cells us e fr)) (hu:us.toList.map PV.v=Glob.tab g):∀ ρ,GRel noF [] ρ W g:=fun ρ=>by
 have hl:(Glob.tab g).length=us.toList.length:=by rw[←hu]; simp
 refine ⟨.rp _ ⟨g,0,none⟩ us.toList rfl not_own (Array.getElem?_eq_some_iff.1 hh).1 hl (fun j u hj=>?_) (fun j p u hp hv=>?_),us,e,fr,hh,by rw[hl]; simp⟩
 ·rw[Addr.add_lit,Nat.zero_add,cell_of hh]
  simpa using hj
 ·rw[←hu,List.getElem?_map,hv] at hp
  cases hp
  exact .v _

theorem var_block {P:Program} {W:World} {n:String} {g:Nat} {cs:Array Value} (hg:P.globalNamed n=some g) (h:W.var? P n=some cs):∃ e fr,W.heap[g]? = some (.cells cs e fr):=by
 unfold World.var? at h
 rw[hg,Option.bind_some] at h
 split at h
 ·rename_i cs' e fr hc
  cases h
  exact ⟨e,fr,hc⟩
 ·cases h

abbrev laid1 : List (String × DataW Unit) := [("tailrace/crc.halves", YtbdfbdlfipcleaaDoor.Rows.laid_tailrace_crc_halves)]

theorem gHalves : DP.globalNamed "tailrace/crc.halves" = some 2 := by kernel_rfl
theorem tHalves:(DP.globals[2]?).map (·.type)=some 140:=by kernel_rfl

theorem globW_of {W:World} (h:laidMetH DP laid1 W):GlobW W:=by
 rw[MakeChecks.laidMetH_plain _ _ _ (by kernel_rfl)] at h
 obtain ⟨ps,⟨g3,t3,cs3,f3,p3,q3,hg3,ht3,hv3,hd3,_,_⟩,_⟩:=h
 obtain rfl:=Option.some.inj (gHalves.symm.trans hg3)
 obtain rfl:=Option.some.inj (tHalves.symm.trans ht3)
 have c3:=Lib.cells_of_tab (k:= .u32) (zs:=halvesL) (n:=16) (e:=94) (by kernel_rfl) (by kernel_rfl) (by kernel_rfl) (by kernel_rfl) hd3
 obtain ⟨e3,r3,b3⟩:=var_block hg3 hv3
 intro g hg
 match g with
 | 2=>exact tabRel b3 (by rw[c3]; rfl)
 | 0=>exact absurd rfl hg
 | 1=>exact absurd rfl hg
 | g+3=>exact absurd rfl hg

theorem door1 (os:Os) (args:Array Value):laidMetH DP laid1 ((World.doorLaid DP 65 os).forCall (fun _ _=>0) ⟨#[],args,[]⟩).memory:=
 laidMetH_of_parts3 (fuel:=8) (laidMet_of_run' 8 (by kernel_rfl) (by kernel_rfl)) (by kernel_rfl) (by kernel_rfl)

theorem i64_in {n:Int} (h:(Lit.int .i64 n).wf=true): -(2 ^ 63:Int)≤n∧n<2 ^ 63:=by
 simp only[Lit.wf,Bool.and_eq_true,decide_eq_true_eq] at h
 have h1:IntKind.i64.min= -9223372036854775808:=by decide
 have h2:IntKind.i64.max=9223372036854775807:=by decide
 omega
theorem u64_in {n:Int} (h:(Lit.int .u64 n).wf=true):0≤n∧n<18446744073709551616:=by
 simp only[Lit.wf,Bool.and_eq_true,decide_eq_true_eq] at h
 have h1:IntKind.u64.min=0:=by decide
 have h2:IntKind.u64.max=18446744073709551615:=by decide
 omega
section
variable {H : Type} {enc : TypeId × Value → H} {w : World} {base : Nat} {spare : Nat → Bool} {held : Bool} {O : Nat → Prop}
theorem in_ent (n:Nat) (cs':List Value) (y:DataW H×List MemPlace) (h:DataW.trod enc DP w base spare held n 52 cs'=some y):
  ∃ a:Ent,seqIn a∧cs'.length=4∧∀ (r:Nat) (p:PV) (u:Value),(entE.f a).cells[r]? = some p→cs'[r]? = some u→PRel O w p u:=by
 obtain ⟨xs,n,_,rfl,hl,hlen,hf⟩:=DataW.trod_struct Tryd.underlying52 h
 have hc:DP.cellsOf 52=4:=by kernel_rfl
 have c9:DP.cellsOf 9=1:=by kernel_rfl
 have c50:DP.cellsOf 50=1:=by kernel_rfl
 have c4:DP.cellsOf 4=1:=by kernel_rfl
 rw[hc] at hl
 have h0:DataW.trod enc DP w base spare held n 9 ((cs'.drop 0).take (DP.cellsOf 9))=xs[0]? := hf 0 _ rfl
 have h1:DataW.trod enc DP w base spare held n 50 ((cs'.drop 1).take (DP.cellsOf 50))=xs[1]? := hf 1 _ rfl
 have h2:DataW.trod enc DP w base spare held n 4 ((cs'.drop 2).take (DP.cellsOf 4))=xs[2]? := hf 2 _ rfl
 have h3:DataW.trod enc DP w base spare held n 9 ((cs'.drop 3).take (DP.cellsOf 9))=xs[3]? := hf 3 _ rfl
 rw[c9] at h0 h3
 rw[c50] at h1
 rw[c4] at h2
 match cs',hl,xs,hlen with
 | [v0,v1,v2,v3],_,[x0,x1,x2,x3],_=>
  obtain ⟨a,e0,_,_⟩:=DataW.trod_string Tryd.underlying9 h0
  obtain ⟨b,e1,_,hw⟩:=DataW.trod_int Tryd.underlying50 h1
  obtain ⟨c,e2,_⟩:=DataW.trod_bool Tryd.underlying4 h2
  obtain ⟨d,e3,_,_⟩:=DataW.trod_string Tryd.underlying9 h3
  simp at e0 e1 e2 e3
  subst e0 e1 e2 e3
  refine ⟨⟨a,b,c,d⟩,u64_in hw,rfl,fun r p u hp hu=>?_⟩
  match r with
  | 0=>cases hp; cases hu; exact .v _
  | 1=>cases hp; cases hu; exact .v _
  | 2=>cases hp; cases hu; exact .v _
  | 3=>cases hp; cases hu; exact .v _
  | r+4=>simp[entE,PV.cells] at hp
theorem in_ents (hO:∀ k,¬O k) {fuel:Nat} {v:Value} {x:DataW H×List MemPlace} (h:DataW.trod enc DP w base spare held fuel 42 [v]=some x):
  ∃ L:List Ent,(∀ a∈L,seqIn a)∧PRel O w (.ls (L.map entE.f)) v:=open_list hO Tryd.underlying42 entE.elt (by decide) (by kernel_rfl) (fun n cs' y hy=>in_ent n cs' y hy) h
theorem open_ent {ρ:Loc} {r:Reach} {b0:Nat} {v:Value} {d:DataW H} {p:List MemPlace} (hv:Value.okWide DP w r b0 52 v) (h:DataW.Trod enc DP w base spare held 52 v d p):
  ∃ e:Ent,seqIn e∧VRel noF [] ρ w (entE.av e) v:=by
 unfold Value.okWide at hv
 rw[Tryd.underlying52] at hv
 obtain ⟨cs,rfl,_⟩:=hv
 obtain ⟨fuel,hf⟩:=h
 obtain ⟨a,ha,hl,hp⟩:=in_ent (O:=Own noF [] ρ) fuel _ _ hf
 refine ⟨a,ha, .agg _ cs.toList ?_ fun j p u hp' hu=>?_⟩
 ·exact hl.symm
 ·match j with
  | 0=>cases hp'; exact .p _ _ (hp 0 _ _ rfl hu)
  | 1=>cases hp'; exact .p _ _ (hp 1 _ _ rfl hu)
  | 2=>cases hp'; exact .p _ _ (hp 2 _ _ rfl hu)
  | 3=>cases hp'; exact .p _ _ (hp 3 _ _ rfl hu)
  | j+4=>simp[entE,PV.cells] at hp'
end
end Go.Ax
