/- A page of pairs: what it comes to. -/
import Derived.Test.YtddkloofiknjdaaDoorG26
set_option linter.unusedVariables false
set_option linter.unusedSimpArgs false
set_option linter.unusedSectionVars false
namespace Go.Ax
open Go.Proofs Go.RowKit
set_option maxRecDepth 100000

theorem ΓF3_ok:∀ f,SoundF DP f (ΓF3 f):=envP_cons SCommon envP_nil
theorem ΔF3_ok:∀ f,SoundR DP f (ΔF3 f):=envR_cons (lift_sound SPutL) (envR_cons (lift_sound SPut) envR_nil)
def mkQ:Nat→List UInt8→List Par→List UInt8→List UInt8→Nat→Int ⊕ (Int×List UInt8×List UInt8)
 | _,_,[],b,w,c=> .inr ((c:Int),b,w)
 | i,last,p::L,b,w,c=>
  if i>0∧¬bl last p.nl then .inl 1 else
  if (b++entB (sameN i last p.nl) p).length>262144 then .inl 6 else
  mkQ (i+1) p.nl L (b++entB (sameN i last p.nl) p) (if i % 8=0 then w++leI b.length 4 else w) (if i % 8=0 then c+1 else c)
theorem mkP_Q:∀ (L:List Par) (i:Nat) (last b w:List UInt8) (c:Nat),mkP i last L b w c=match mkQ i last L b w c with | .inl e=>([],e) | .inr (c,b,w)=>(b++w++leI c 4,0)
 | [],i,last,b,w,c=>rfl
 | p::L,i,last,b,w,c=>by
  rw[mkP,mkQ]
  split
  ·rfl
  ·split
   ·rfl
   ·exact mkP_Q L _ _ _ _ _
theorem src_str (s:ByteArray):(ASrc.str s).ok byteE s.data.toList:=⟨rfl,byteCells _,rfl⟩
theorem ext_drop (s:ByteArray) (k:Nat):(s.extract (loN (some (k:Int))) (hiN none s.size)).data.toList=s.data.toList.drop k:=by
 rw[ByteArray.data_extract,Array.toList_extract,List.extract_eq_take_drop]
 show List.take (s.size - Int.toNat (k:Int)) (s.data.toList.drop (Int.toNat (k:Int)))=_
 rw[Int.toNat_natCast,List.take_of_length_le (by rw[List.length_drop]; exact Nat.le_refl _)]
theorem le_nbl (a b:ByteArray):(Op.bytesLess a.toList b.toList||(a.toList == b.toList))=decide (¬bl b.data.toList a.data.toList):=by
 rw[ByteArray.toList_eq,ByteArray.toList_eq,Bool.eq_iff_iff,Bool.or_eq_true,beq_iff_eq,decide_eq_true_eq]
 constructor
 ·rintro (h | h) g
  ·exact bl_irr (bl_trans (x:=a.data.toList) h g)
  ·rw[h] at g
   exact bl_irr g
 ·intro g
  rcases bl_tri a.data.toList b.data.toList with h | h | h
  ·exact .inl h
  ·exact .inr h
  ·exact absurd h g

theorem dPutF {n:Int} {B:List Box} {b v:Nat} {L:List UInt8} (hn:0≤n∧n<18446744073709551616) (hb:B[b]? = some (byteE.bx v L)) (hl:((L.length+(putI n).length:Nat):Int)≤1000000000):
  ΔF3 62 [.rs b v 1 0 L.length,vn .u64 n] B (.rs B.length 0 1 0 (L++putI n).length) (B.set b (byteE.bx (v+1) [])++ [byteE.bx 0 (L++putI n)]):=oPut_r hn hb hl
theorem dPutLF {n:Int} {B:List Box} {b v:Nat} {L:List UInt8} (hn:0≤n∧n<18446744073709551616) (hb:B[b]? = some (byteE.bx v L)) (hl:((L.length+4:Nat):Int)≤1000000000):
  ΔF3 65 [.rs b v 1 0 L.length,vn .u64 n,vi 4] B (.rs B.length 0 1 0 (L++leI n 4).length) (B.set b (byteE.bx (v+1) [])++ [byteE.bx 0 (L++leI n 4)]):=
 lift_row (R:=OPutL) (pre:= []) ⟨n,hn, .inr ⟨L,by rw[leI_len]; exact hl,rfl,rfl,rfl,rfl⟩⟩ hb rfl rfl
section
variable {L : List Par} {b w0 w b4 : List UInt8} {i cc : Int} {l : ByteArray} {e1 : Par} {c : Int} {k : Nat} {K : AE → St → Prop}
theorem j4_wp (hk:k≤e1.name.size) (hn:e1.name.size≤100000000) (hv:e1.val.size≤100000000) (hb:b4.length≤100000000)
  (h:(TMkP_j5 L (b,w0,i,cc,l) e1 (c,(k:Int),w) (b4++e1.nl.drop k++e1.vl)).wp K):(TMkP_j4 L (b,w0,i,cc,l) e1 (c,(k:Int),w) b4).wp K:=by
 have hx:=ext_drop e1.name k
 have h1:(e1.name.extract (loN (some (k:Int))) (hiN none e1.name.size)).data.toList.length≤100000000:=by
  rw[hx,List.length_drop]
  have:e1.name.data.toList.length=e1.name.size:=rfl
  omega
 have h2:e1.val.data.toList.length≤100000000:=hv
 have h':(TMkP_j5 L (b,w0,i,cc,l) e1 (c,(k:Int),w) (b4++(e1.name.extract (loN (some (k:Int))) (hiN none e1.name.size)).data.toList++e1.val.data.toList)).wp K:=by rw[hx]; exact h
 unfold TMkP_j4
 dsimp only
 refine wp_any (wp_scut (by simp only[cutOk]; omega) (wp_fork ?_ ?_)) <;> exact wp_app (src_str _) rfl (by rw[List.length_append]; omega) (wp_app (src_str _) rfl (by rw[List.length_append,List.length_append]; omega) (wp_join rfl h'))
theorem j3_wp (hk:k≤e1.name.size) (hn:e1.name.size≤100000000) (hv:e1.val.size≤100000000) (hb:b.length≤262144)
  (h:(TMkP_j5 L (b,w0,i,cc,l) e1 (c,(k:Int),w) (b++entB k e1)).wp K):(TMkP_j3 L (b,w0,i,cc,l) e1 (c,(k:Int),w)).wp K:=by
 have p1:=putI_len (k:Int) (by omega)
 have p2:=putI_len ((e1.name.size:Int) - k) (by omega)
 have p3:=putI_len (e1.val.size:Int) (by omega)
 have h4:(TMkP_j4 L (b,w0,i,cc,l) e1 (c,(k:Int),w) (((b++putI (k:Int))++putI ((e1.name.size:Int) - k))++putI (e1.val.size:Int))).wp K:=by
  refine j4_wp hk hn hv (by simp only[List.length_append]; omega) ?_
  have e:b++putI (k:Int)++putI ((e1.name.size:Int) - k)++putI (e1.val.size:Int)++e1.nl.drop k++e1.vl=b++entB k e1:=by
   unfold entB
   have e2:(e1.nl.length:Int)=(e1.name.size:Int):=rfl
   have e3:(e1.vl.length:Int)=(e1.val.size:Int):=rfl
   rw[e2,e3]
   simp only[List.append_assoc]
  rw[e]
  exact h
 unfold TMkP_j3
 dsimp only
 repeat' first
  | exact h4
  | refine wp_any ?_
  | refine wp_fork ?_ ?_
  | refine wp_join rfl ?_
  | refine wp_callr (dPutF (by omega) rfl (by (try simp only[List.length_append]); omega)) ?_
  | refine wp_u64 (by omega) ?_
  | refine wp_i64 (by omega) ?_
theorem j2_wp {i c:Nat} (hL:l.size≤100000000) (hn:e1.name.size≤100000000) (hv:e1.val.size≤100000000) (hb:b.length≤262144) (hw:w.length≤500000000) (hc:c≤500000000)
  (h:(TMkP_j5 L (b,w,(i:Int),(c:Int),l) e1 (((if i % 8=0 then c+1 else c:Nat):Int),(sameN i l.data.toList e1.nl:Int),if i % 8=0 then w++leI b.length 4 else w) (b++entB (sameN i l.data.toList e1.nl) e1)).wp K):
  (TMkP_j2 L (b,w,(i:Int),(c:Int),l) e1 false).wp K:=by
 have hi:Int.tmod (i:Int) 8=((i % 8:Nat):Int):=by rw[Int.tmod_eq_emod_of_nonneg (by omega)]; omega
 unfold TMkP_j2
 dsimp only
 refine wp_br (fun h'=>by cases h') (fun _=>wp_sp (fun h'=>?_) (fun h'=>?_))
 ·rw[hi,beq_iff_eq] at h'
  have h8:i % 8=0:=by omega
  unfold sameN at h
  rw[if_pos h8,if_pos h8,if_pos h8] at h
  exact wp_u64 (by omega) (wp_callr (dPutLF (by omega) rfl (by omega)) (wp_i64 (by omega) (wp_join rfl (j3_wp (k:=0) (Nat.zero_le _) hn hv hb (by simpa using h)))))
 ·rw[hi,beq_eq_false_iff_ne] at h'
  have h8:¬i % 8=0:=by omega
  unfold sameN at h
  rw[if_neg h8,if_neg h8,if_neg h8] at h
  exact wp_call (gCommon_eq l e1.name (by omega)) (wp_join rfl (j3_wp (comN_le _ _).2 hn hv hb h))
end
end Go.Ax

namespace Go.Ax
open Go.Proofs Go.RowKit
set_option maxRecDepth 100000

def ParOk (p:Par):Prop:=p.name.size≤100000000∧p.val.size≤100000000
theorem l1_wp {L:List Par} {b w:List UInt8} {i:Nat} {c:Int} {l:ByteArray} {p:Par} {K:AE→St→Prop} (hN:L.length≤100000000) (hp:L[i]? = some p)
  (h1:(i>0∧¬bl l.data.toList p.nl)→(TMkP_j2 L (b,w,(i:Int),c,l) p true).wp K) (h2:¬(i>0∧¬bl l.data.toList p.nl)→(TMkP_j2 L (b,w,(i:Int),c,l) p false).wp K):
  (TMkP_l1_b L (b,w,(i:Int),c,l)).wp K:=by
 have hlt:=(List.getElem?_eq_some_iff.1 hp).1
 unfold TMkP_l1_b
 dsimp only
 refine wp_sp (fun _=>wp_elem p (by omega) (by simpa using hp) (wp_sp (fun h=>?_) (fun h=>?_))) (fun h'=>absurd (of_decide_eq_false h') (by omega))
 ·have hi:=of_decide_eq_true h
  rw[le_nbl]
  refine wp_sp (fun g=>wp_join rfl (h1 ⟨by omega,of_decide_eq_true g⟩)) (fun g=>wp_join rfl (h2 (fun e=>of_decide_eq_false g e.2)))
 ·have hi:=of_decide_eq_false h
  exact wp_join rfl (h2 (fun e=>hi (by omega)))
theorem mk_rounds (L:List Par) (hL:∀ p∈L,ParOk p) (hN:L.length≤100000000):∀ (M:List Par) (i:Nat) (b w:List UInt8) (c:Nat) (l:ByteArray),L.drop i=M→i+M.length=L.length→b.length≤262144→w.length≤4*i→c≤i→l.size≤100000000→Rounds (TMkP_l1_e L) TMkP_l1_x TMkP_l1_x' (fun s=>(TMkP_l1_b L s).wp) (b,w,(i:Int),(c:Int),l) (mkQ i l.data.toList M b w c):=by
 intro M
 induction M with
 | nil=>
  intro i b w c l hM hl hb hw hc hz
  simp only[List.length_nil] at hl
  rw[mkQ]
  refine .done' (by intro e; cases e) ?_
  unfold TMkP_l1_b
  exact wp_sp (fun h'=>absurd (of_decide_eq_true h') (by simp only; omega)) (fun _=>wp_leaf rfl ⟨rfl,rfl⟩)
 | cons p M ih=>
  intro i b w c l hM hl hb hw hc hz
  have gp:L[i]? = some p:=by rw[←List.head?_drop,hM]; rfl
  have hM':L.drop (i+1)=M:=by rw[←List.drop_drop,hM]; rfl
  have hp:=hL p (List.mem_of_getElem? gp)
  simp only[List.length_cons] at hl
  rw[mkQ]
  by_cases h1:i>0∧¬bl l.data.toList p.nl
  ·rw[if_pos h1]
   refine .done (by intro e; cases e) (l1_wp hN gp (fun _=>?_) (fun h=>absurd h1 h))
   unfold TMkP_j2
   exact wp_br (fun _=>wp_leaf rfl ⟨rfl,rfl⟩) (fun h=>by cases h)
  ·rw[if_neg h1]
   by_cases h2:(b++entB (sameN i l.data.toList p.nl) p).length>262144
   ·rw[if_pos h2]
    refine .done (by intro e; cases e) (l1_wp hN gp (fun h=>absurd h h1) (fun _=>j2_wp hz hp.1 hp.2 hb (by omega) (by omega) ?_))
    unfold TMkP_j5
    exact wp_sp (fun _=>wp_leaf rfl ⟨rfl,rfl⟩) (fun h=>absurd (of_decide_eq_false h) (by omega))
   ·rw[if_neg h2]
    have hr:=ih (i+1) (b++entB (sameN i l.data.toList p.nl) p) (if i % 8=0 then w++leI b.length 4 else w) (if i % 8=0 then c+1 else c) p.name hM' (by omega) (by omega) (by split <;> (try rw[List.length_append,leI_len]) <;> omega) (by split <;> omega) hp.1
    rw[show ((i+1:Nat):Int)=(i:Int)+1 by omega] at hr
    refine .next (l1_wp hN gp (fun h=>absurd h h1) (fun _=>j2_wp hz hp.1 hp.2 hb (by omega) (by omega) ?_)) hr
    unfold TMkP_j5
    exact wp_sp (fun h=>absurd (of_decide_eq_true h) (by omega)) (fun _=>wp_i64 (by simp only; omega) (wp_leaf rfl ⟨rfl,rfl⟩))
theorem mkQ_b:∀ (M:List Par) (i:Nat) (last b w:List UInt8) (c:Nat) (z:Int×List UInt8×List UInt8),b.length≤262144→w.length≤4*i→c≤i→mkQ i last M b w c= .inr z→(0≤z.1∧z.1≤((i+M.length:Nat):Int))∧z.2.1.length≤262144∧z.2.2.length≤4*(i+M.length)
 | [],i,last,b,w,c,z,hb,hw,hc,h=>by
  rw[mkQ] at h
  cases h
  simp only[List.length_nil]
  omega
 | p::M,i,last,b,w,c,z,hb,hw,hc,h=>by
  rw[mkQ] at h
  split at h
  ·cases h
  ·split at h
   ·cases h
   ·have:=mkQ_b M (i+1) _ _ _ _ z (by omega) (by split <;> (try rw[List.length_append,leI_len]) <;> omega) (by split <;> omega) h
    rw[List.length_cons]
    have e:i+(M.length+1)=i+1+M.length:=by omega
    rw[e]
    exact this
def RMkP:List AV→AV→Prop:=fun args r=>∃ L:List Par,(∀ p∈L,ParOk p)∧L.length≤100000000∧args= [vl (L.map parE.f)]∧r= .tup [vl ((mkI L).1.map byteE.f),vi (mkI L).2]
noncomputable def gMkP:=relG RMkP
theorem seal_byte2 {L:List UInt8} {e:Int}:Sealed (fun _=>True) [byteE.bx 0 L] (.tup [.rs 0 0 1 0 L.length,vi e]) (.tup [vl (L.map byteE.f),vi e]):= .tup _ _ rfl (fun j c d h1 h2=>by
 match j,h1,h2 with
 | 0,h1,h2=>cases h1; cases h2; exact byteE.elt.sealed trivial rfl
 | 1,h1,h2=>cases h1; cases h2; exact .p _
 | j+2,h1,h2=>cases h1)
theorem seal_nil2 {B:List Box} {e:Int}:Sealed (fun _=>True) B (.tup [nilS,vi e]) (.tup [vl (([]:List UInt8).map byteE.f),vi e]):= .tup _ _ rfl (fun j c d h1 h2=>by
 match j,h1,h2 with
 | 0,h1,h2=>cases h1; cases h2; exact .nil
 | 1,h1,h2=>cases h1; cases h2; exact .p _
 | j+2,h1,h2=>cases h1)
theorem SMkP:SoundF DP iMkP (.pure gMkP):=sound_pureT mixedD ΓF3_ok ΔF3_ok hfMkP heMkP hbMkP (by
 rintro args r ⟨L,hL,hN,rfl,rfl⟩
 refine ⟨rfl,rfl,_,TMkP_chk L,?_⟩
 have hr:=mk_rounds L hL hN L 0 [] [] 0 ⟨#[]⟩ List.drop_zero (Nat.zero_add _) (by decide) (Nat.le_refl _) (Nat.le_refl _) (by decide)
 have hQ:=mkP_Q L 0 [] [] [] 0
 have hz:=mkQ_b L 0 [] [] [] 0
 change mkI L=_ at hQ
 change Rounds _ _ _ _ _ (mkQ 0 [] L [] [] 0) at hr
 unfold TMkP
 refine wp_len (wp_nilrow (wp_nilrow ?_))
 generalize mkQ 0 [] L [] [] 0=q at hr hQ hz
 cases q with
 | inl e=>
  rw[hQ]
  exact wp_loop _ rfl hr (wp_leaf rfl seal_nil2)
 | inr z=>
  obtain ⟨c,b,w⟩:=z
  obtain ⟨z1,z2,z3⟩:=hz (c,b,w) (by decide) (Nat.le_refl _) (Nat.le_refl _) rfl
  simp only[Nat.zero_add] at z1 z2 z3
  rw[hQ]
  exact wp_loop' _ rfl hr (wp_app ⟨rfl,rfl⟩ rfl (by simp only[List.length_append]; omega) (wp_u64 (by simp only; omega) (wp_callr (dPutLF (by simp only; omega) rfl (by simp only[List.length_append]; omega)) (wp_leaf rfl seal_byte2)))))
end Go.Ax

namespace Go.Ax
open Go.Proofs Go.RowKit
set_option maxRecDepth 100000

def intE:Enc Int:=⟨fun z=> .v (.int .i64 z),1,fun _=>rfl,fun _=>rfl⟩
noncomputable def ΓF5:Env:=envP [(iGet,gGet)]

abbrev iOne:Nat:=90
noncomputable abbrev nOne:Func:=Tryd.f90
theorem hfOne:DP.funcs[iOne]? = some nOne:=by kernel_rfl
theorem heOne:enters DP iOne=true:=by kernel_rfl
theorem hbOne:nOne.body.isSome=true:=by kernel_rfl
abbrev iReadP:Nat:=72
noncomputable abbrev nReadP:Func:=Tryd.f72
theorem hfReadP:DP.funcs[iReadP]? = some nReadP:=by kernel_rfl
theorem heReadP:enters DP iReadP=true:=by kernel_rfl
theorem hbReadP:nReadP.body.isSome=true:=by kernel_rfl
noncomputable def TOne_l2_e (b:List UInt8) (w:List Int) (l:ByteArray) (s2:(List Int)×Int×Int):St:=([(1,vi s2.2.1),(2,vs l),(3, .ptr 0 0 0),(6, .ptr 1 0 0),(9, .ptr 2 0 0),(14,vi s2.2.2)],[.cells false 0 ([vl (b.map byteE.f),vl (w.map intE.f)]), .cells false 0 ([vs (⟨#[]⟩),vs (⟨#[]⟩)]), .cells false 0 (rowC (s2.1.map intE.f))])
noncomputable def TOne_l2_x (x2:Unit):AE×St:=(.ret,([(6, .ptr 0 0 0),(7,vi 0),(8,vi 2)],[.cells false 0 ([vs (⟨#[]⟩),vs (⟨#[]⟩)])]))
noncomputable def TOne_l2_x' (b:List UInt8) (w:List Int) (l:ByteArray) (y2:Int×(List Int)):AE×St:=((.exit 0),([(1,vi y2.1),(2,vs l),(3, .ptr 0 0 0),(6, .ptr 1 0 0),(9, .ptr 2 0 0)],[.cells false 0 ([vl (b.map byteE.f),vl (w.map intE.f)]), .cells false 0 ([vs (⟨#[]⟩),vs (⟨#[]⟩)]), .cells false 0 (rowC (y2.2.map intE.f))]))
noncomputable def TOne_l2_b0 (b:List UInt8) (w:List Int) (l:ByteArray) (p2a:List Int) (p2b:Int) (p2c:Int):Tree:=
.sp 15 (decide (p2c<(3:Int))) (
.cut 21 (b.map byteE.f) (some p2b) none byteE b (.call 22 (gGet [vl ((cutL (some p2b) none b).map byteE.f)]=some (.tup [vn .u64 ((getI (cutL (some p2b) none b)).1),vi ((getI (cutL (some p2b) none b)).2.1),vi ((getI (cutL (some p2b) none b)).2.2)])) (.tup [vn .u64 ((getI (cutL (some p2b) none b)).1),vi ((getI (cutL (some p2b) none b)).2.1),vi ((getI (cutL (some p2b) none b)).2.2)]) (.sp 27 (((getI (cutL (some p2b) none b)).2.2) != (0:Int)) (
.leaf ⟨[6,7,8],[(1,0,none)]⟩ [] .ret (some (TOne_l2_x ()).2)) (
.int 32 ((b.map byteE.f).length:Int) (b.length:Int) (.int 33 (IntKind.u64.wrap ((b.length:Int))) ((b.length:Int)) (.sp 34 (decide (((getI (cutL (some p2b) none b)).1)>(b.length:Int))) (
.leaf ⟨[6,7,8],[(1,0,none)]⟩ [] .ret (some (TOne_l2_x ()).2)) (
.int 39 (IntKind.i64.wrap ((getI (cutL (some p2b) none b)).1)) ((getI (cutL (some p2b) none b)).1) (.int 42 (IntKind.i64.wrap (p2b+((getI (cutL (some p2b) none b)).2.1))) (p2b+((getI (cutL (some p2b) none b)).2.1)) (.pidx 43 3 p2c (.rstore none (rowC (p2a.map intE.f)) (0+Int.toNat p2c*1) [vi ((getI (cutL (some p2b) none b)).1)] intE p2a p2c ((getI (cutL (some p2b) none b)).1) (.int 44 (IntKind.i64.wrap (p2c+1)) (p2c+1) (.leaf ⟨[1,2,3,6,9,14],[(0,0,none),(1,0,none),(2,0,some ((p2a.set (Int.toNat p2c) ((getI (cutL (some p2b) none b)).1)).map intE.f))]⟩ [rowC ((p2a.set (Int.toNat p2c) ((getI (cutL (some p2b) none b)).1)).map intE.f)] .normal (some (TOne_l2_e b w l (p2a.set (Int.toNat p2c) ((getI (cutL (some p2b) none b)).1),p2b+((getI (cutL (some p2b) none b)).2.1),p2c+1))))))))))))))) (
.leaf ⟨[1,2,3,6,9],[(0,0,none),(1,0,none),(2,0,some (p2a.map intE.f))]⟩ [rowC (p2a.map intE.f)] (.exit 0) (some (TOne_l2_x' b w l (p2b,p2a)).2))
noncomputable def TOne_l2_b (b:List UInt8) (w:List Int) (l:ByteArray) (s2:(List Int)×Int×Int):Tree:=
TOne_l2_b0 b w l s2.1 s2.2.1 s2.2.2
noncomputable def TOne_j3_e (j3:Int×Par):St:=([(6, .ptr 0 0 0),(7,vi j3.1),(8,vi 0)],[.cells false 0 ([vs j3.2.name,vs j3.2.val])])
noncomputable def TOne_j3 (j3:Int×Par):Tree:=
.leaf ⟨[0],[]⟩ [] .ret (some ([(0, .tup [(parE.av j3.2),vi j3.1,vi 0])],[]))
noncomputable def TOne (b:List UInt8) (w:List Int) (a:Int) (l:ByteArray):Tree:=
.loop ⟨[1,2,3,6,9,14],[(0,0,none),(1,0,none),(2,0,none)]⟩ [] (some (TOne_l2_e b w l ([0,0,0],a,0))) (TOne_l2_e b w l) (TOne_l2_x) (TOne_l2_x' b w l) ([0,0,0],a,0) (TOne_l2_b b w l) (fun (x2:Unit)=> .leaf ⟨[0],[]⟩ [] .ret (some ([(0, .tup [.agg [vs (⟨#[]⟩),vs (⟨#[]⟩)],vi 0,vi 2])],[]))) (fun (y2:Int×(List Int))=> .pidx 45 3 0 (.rload 46 (rowC (y2.2.map intE.f)) (0+Int.toNat 0*1) intE y2.2 0 0 (fun e1=> .sp 49 (decide (e1>(l.size:Int))) (
.leaf ⟨[0],[]⟩ [] .ret (some ([(0, .tup [.agg [vs (⟨#[]⟩),vs (⟨#[]⟩)],vi 0,vi 2])],[]))) (
.pidx 51 3 1 (.rload 52 (rowC (y2.2.map intE.f)) (0+Int.toNat 1*1) intE y2.2 1 0 (fun e2=> .pidx 53 3 2 (.rload 54 (rowC (y2.2.map intE.f)) (0+Int.toNat 2*1) intE y2.2 2 0 (fun e3=> .int 55 (IntKind.i64.wrap (e2+e3)) (e2+e3) (.int 58 ((b.map byteE.f).length:Int) (b.length:Int) (.int 60 (IntKind.i64.wrap ((b.length:Int) - y2.1)) ((b.length:Int) - y2.1) (.sp 61 (decide ((e2+e3)>((b.length:Int) - y2.1))) (
.leaf ⟨[0],[]⟩ [] .ret (some ([(0, .tup [.agg [vs (⟨#[]⟩),vs (⟨#[]⟩)],vi 0,vi 2])],[]))) (
.any (.pidx 65 3 0 (.rload 66 (rowC (y2.2.map intE.f)) (0+Int.toNat 0*1) intE y2.2 0 0 (fun e4=> .scut 67 l none (some e4) (.pidx 72 3 1 (.rload 73 (rowC (y2.2.map intE.f)) (0+Int.toNat 1*1) intE y2.2 1 0 (fun e5=> .int 74 (IntKind.i64.wrap (y2.1+e5)) (y2.1+e5) (.cut 75 (b.map byteE.f) (some y2.1) (some (y2.1+e5)) byteE b (.bstrl 76 ((cutL (some y2.1) (some (y2.1+e5)) b).map byteE.f) (cutL (some y2.1) (some (y2.1+e5)) b) (.val (some 77) ((binA DP .add 9 (vs (l.extract (loN none) (hiN (some e4) l.size))) (vs (⟨(cutL (some y2.1) (some (y2.1+e5)) b).toArray⟩))).map (fun v=>(v,([.cells false 0 ([vl (b.map byteE.f),vl (w.map intE.f)]), .cells false 0 ([vs (⟨#[]⟩),vs (⟨#[]⟩)]), .cells false 0 (rowC (y2.2.map intE.f))]:List Box)))=some (vs ((l.extract (loN none) (hiN (some e4) l.size))++(⟨(cutL (some y2.1) (some (y2.1+e5)) b).toArray⟩:ByteArray)),[.cells false 0 ([vl (b.map byteE.f),vl (w.map intE.f)]), .cells false 0 ([vs (⟨#[]⟩),vs (⟨#[]⟩)]), .cells false 0 (rowC (y2.2.map intE.f))])) (vs ((l.extract (loN none) (hiN (some e4) l.size))++(⟨(cutL (some y2.1) (some (y2.1+e5)) b).toArray⟩:ByteArray))) [.cells false 0 ([vl (b.map byteE.f),vl (w.map intE.f)]), .cells false 0 ([vs (⟨#[]⟩),vs (⟨#[]⟩)]), .cells false 0 (rowC (y2.2.map intE.f))] (.pidx 81 3 1 (.rload 82 (rowC (y2.2.map intE.f)) (0+Int.toNat 1*1) intE y2.2 1 0 (fun e6=> .int 83 (IntKind.i64.wrap (y2.1+e6)) (y2.1+e6) (.pidx 85 3 1 (.rload 86 (rowC (y2.2.map intE.f)) (0+Int.toNat 1*1) intE y2.2 1 0 (fun e7=> .int 87 (IntKind.i64.wrap (y2.1+e7)) (y2.1+e7) (.pidx 88 3 2 (.rload 89 (rowC (y2.2.map intE.f)) (0+Int.toNat 2*1) intE y2.2 2 0 (fun e8=> .int 90 (IntKind.i64.wrap ((y2.1+e7)+e8)) ((y2.1+e7)+e8) (.cut 91 (b.map byteE.f) (some (y2.1+e6)) (some ((y2.1+e7)+e8)) byteE b (.bstrl 92 ((cutL (some (y2.1+e6)) (some ((y2.1+e7)+e8)) b).map byteE.f) (cutL (some (y2.1+e6)) (some ((y2.1+e7)+e8)) b) (.pidx 95 3 1 (.pidx 98 3 2 (.fork (
.rload 96 (rowC (y2.2.map intE.f)) (0+Int.toNat 1*1) intE y2.2 1 0 (fun e9=> .int 97 (IntKind.i64.wrap (y2.1+e9)) (y2.1+e9) (.fork (
.rload 99 (rowC (y2.2.map intE.f)) (0+Int.toNat 2*1) intE y2.2 2 0 (fun e10=> .int 100 (IntKind.i64.wrap ((y2.1+e9)+e10)) ((y2.1+e9)+e10) (.join ⟨[6,7,8],[(1,0,none)]⟩ [] (some (TOne_j3_e ((y2.1+e9)+e10,(⟨(l.extract (loN none) (hiN (some e4) l.size))++(⟨(cutL (some y2.1) (some (y2.1+e5)) b).toArray⟩:ByteArray),(⟨(cutL (some (y2.1+e6)) (some ((y2.1+e7)+e8)) b).toArray⟩:ByteArray)⟩:Par)))) (TOne_j3_e) ((y2.1+e9)+e10,(⟨(l.extract (loN none) (hiN (some e4) l.size))++(⟨(cutL (some y2.1) (some (y2.1+e5)) b).toArray⟩:ByteArray),(⟨(cutL (some (y2.1+e6)) (some ((y2.1+e7)+e8)) b).toArray⟩:ByteArray)⟩:Par)) (TOne_j3)))) (
.rload 99 (rowC (y2.2.map intE.f)) (0+Int.toNat 2*1) intE y2.2 2 0 (fun e11=> .int 100 (IntKind.i64.wrap ((y2.1+e9)+e11)) ((y2.1+e9)+e11) (.join ⟨[6,7,8],[(1,0,none)]⟩ [] (some (TOne_j3_e ((y2.1+e9)+e11,(⟨(l.extract (loN none) (hiN (some e4) l.size))++(⟨(cutL (some y2.1) (some (y2.1+e5)) b).toArray⟩:ByteArray),(⟨(cutL (some (y2.1+e6)) (some ((y2.1+e7)+e8)) b).toArray⟩:ByteArray)⟩:Par)))) (TOne_j3_e) ((y2.1+e9)+e11,(⟨(l.extract (loN none) (hiN (some e4) l.size))++(⟨(cutL (some y2.1) (some (y2.1+e5)) b).toArray⟩:ByteArray),(⟨(cutL (some (y2.1+e6)) (some ((y2.1+e7)+e8)) b).toArray⟩:ByteArray)⟩:Par)) (TOne_j3))))))) (
.fork (
.rload 99 (rowC (y2.2.map intE.f)) (0+Int.toNat 2*1) intE y2.2 2 0 (fun e12=> .fork (
.rload 96 (rowC (y2.2.map intE.f)) (0+Int.toNat 1*1) intE y2.2 1 0 (fun e13=> .int 97 (IntKind.i64.wrap (y2.1+e13)) (y2.1+e13) (.int 100 (IntKind.i64.wrap ((y2.1+e13)+e12)) ((y2.1+e13)+e12) (.join ⟨[6,7,8],[(1,0,none)]⟩ [] (some (TOne_j3_e ((y2.1+e13)+e12,(⟨(l.extract (loN none) (hiN (some e4) l.size))++(⟨(cutL (some y2.1) (some (y2.1+e5)) b).toArray⟩:ByteArray),(⟨(cutL (some (y2.1+e6)) (some ((y2.1+e7)+e8)) b).toArray⟩:ByteArray)⟩:Par)))) (TOne_j3_e) ((y2.1+e13)+e12,(⟨(l.extract (loN none) (hiN (some e4) l.size))++(⟨(cutL (some y2.1) (some (y2.1+e5)) b).toArray⟩:ByteArray),(⟨(cutL (some (y2.1+e6)) (some ((y2.1+e7)+e8)) b).toArray⟩:ByteArray)⟩:Par)) (TOne_j3))))) (
.rload 96 (rowC (y2.2.map intE.f)) (0+Int.toNat 1*1) intE y2.2 1 0 (fun e14=> .int 97 (IntKind.i64.wrap (y2.1+e14)) (y2.1+e14) (.int 100 (IntKind.i64.wrap ((y2.1+e14)+e12)) ((y2.1+e14)+e12) (.join ⟨[6,7,8],[(1,0,none)]⟩ [] (some (TOne_j3_e ((y2.1+e14)+e12,(⟨(l.extract (loN none) (hiN (some e4) l.size))++(⟨(cutL (some y2.1) (some (y2.1+e5)) b).toArray⟩:ByteArray),(⟨(cutL (some (y2.1+e6)) (some ((y2.1+e7)+e8)) b).toArray⟩:ByteArray)⟩:Par)))) (TOne_j3_e) ((y2.1+e14)+e12,(⟨(l.extract (loN none) (hiN (some e4) l.size))++(⟨(cutL (some y2.1) (some (y2.1+e5)) b).toArray⟩:ByteArray),(⟨(cutL (some (y2.1+e6)) (some ((y2.1+e7)+e8)) b).toArray⟩:ByteArray)⟩:Par)) (TOne_j3))))))) (
.rload 96 (rowC (y2.2.map intE.f)) (0+Int.toNat 1*1) intE y2.2 1 0 (fun e15=> .int 97 (IntKind.i64.wrap (y2.1+e15)) (y2.1+e15) (.rload 99 (rowC (y2.2.map intE.f)) (0+Int.toNat 2*1) intE y2.2 2 0 (fun e16=> .int 100 (IntKind.i64.wrap ((y2.1+e15)+e16)) ((y2.1+e15)+e16) (.join ⟨[6,7,8],[(1,0,none)]⟩ [] (some (TOne_j3_e ((y2.1+e15)+e16,(⟨(l.extract (loN none) (hiN (some e4) l.size))++(⟨(cutL (some y2.1) (some (y2.1+e5)) b).toArray⟩:ByteArray),(⟨(cutL (some (y2.1+e6)) (some ((y2.1+e7)+e8)) b).toArray⟩:ByteArray)⟩:Par)))) (TOne_j3_e) ((y2.1+e15)+e16,(⟨(l.extract (loN none) (hiN (some e4) l.size))++(⟨(cutL (some y2.1) (some (y2.1+e5)) b).toArray⟩:ByteArray),(⟨(cutL (some (y2.1+e6)) (some ((y2.1+e7)+e8)) b).toArray⟩:ByteArray)⟩:Par)) (TOne_j3))))))))))))))))))))))))))))))))))))))))))

theorem TOne_chk (b:List UInt8) (w:List Int) (a:Int) (l:ByteArray):fnC DP ΓF5 Δ0 Tryd.f90 [.agg [vl (b.map byteE.f),vl (w.map intE.f)],vi a,vs l] [] (TOne b w a l)=TOne b w a l:=by kernel_rfl

end Go.Ax

namespace Go.Ax
open Go.Proofs Go.RowKit
set_option maxRecDepth 100000

theorem wp_pidx {d len:Nat} {i:Int} {k:Tree} {K:AE→St→Prop} (h0:0≤i) (h1:i<(len:Int)) (h:k.wp K):(Tree.pidx d len i k).wp K:=⟨h0,h1,h⟩
theorem ΓF5_ok:∀ f,SoundF DP f (ΓF5 f):=envP_cons SGet envP_nil
theorem cut_drop {α:Type} (a:Int) (b:List α):cutL (some a) none b=b.drop a.toNat:=rfl
theorem getA_le2:∀ (b:List UInt8) (i a:Nat),(getA i a b).2.1≤i+b.length
 | [],i,a=>by unfold getA; simp
 | c::b,i,a=>by
  have:=getA_le2 b (i+1)
  unfold getA
  simp only[List.length_cons]
  repeat' split
  all_goals (first | (have:=this (a+(c.toNat % 128)*2 ^ (7*i)); omega) | (simp only; omega) | omega)
theorem getI_b (b:List UInt8):0≤(getI b).1∧0≤(getI b).2.1∧(getI b).2.1≤b.length:=by
 have:=getA_le2 b 0 0
 unfold getI
 simp only
 omega
theorem one_step {b:List UInt8} {w:List Int} {l:ByteArray} {ns:List Int} {a:Int} {i:Nat} {K:AE→St→Prop} (hb:b.length≤1000000000) (hi:i<3) (hn:ns.length=3) (ha:0≤a∧a≤b.length)
  (h1:((getI (b.drop a.toNat)).2.2≠0∨(getI (b.drop a.toNat)).1>b.length)→K .ret (TOne_l2_x ()).2)
  (h2:¬((getI (b.drop a.toNat)).2.2≠0∨(getI (b.drop a.toNat)).1>b.length)→K .normal (TOne_l2_e b w l (ns.set i (getI (b.drop a.toNat)).1,a+(getI (b.drop a.toNat)).2.1,(i:Int)+1))):
  (TOne_l2_b b w l (ns,a,(i:Int))).wp K:=by
 have hd:(b.drop a.toNat).length≤1000000000:=by rw[List.length_drop]; omega
 have hg:=getI_b (b.drop a.toNat)
 rw[List.length_drop] at hg
 unfold TOne_l2_b TOne_l2_b0
 dsimp only
 simp only[cut_drop]
 refine wp_sp (fun _=>wp_cut (by simp only[cutOk]; omega) (wp_call (gGet_eq hd) (wp_sp (fun h=>?_) (fun h=>?_)))) (fun h'=>absurd (of_decide_eq_false h') (by omega))
 ·exact wp_leaf rfl (h1 (.inl (by simpa using h)))
 ·have e0:(getI (b.drop a.toNat)).2.2=0:=by simpa using h
  refine wp_len (wp_u64 (by omega) (wp_sp (fun g=>?_) (fun g=>?_)))
  ·exact wp_leaf rfl (h1 (.inr (of_decide_eq_true g)))
  ·have g':=of_decide_eq_false g
   exact wp_i64 (by omega) (wp_i64 (by omega) (wp_pidx (by omega) (by omega) (wp_rstore (by omega) (by omega) rfl rfl (wp_i64 (by omega) (wp_leaf rfl (h2 (by rintro (g | g); exact g e0; exact g' g)))))))
end Go.Ax

namespace Go.Ax
open Go.Proofs Go.RowKit
set_option maxRecDepth 100000

def oneQ (b:List UInt8):Nat→Int→Nat→List Int→Unit ⊕ (Int×List Int)
 | 0,a,_,ns=> .inr (a,ns)
 | j+1,a,i,ns=>if (getI (b.drop a.toNat)).2.2≠0∨(getI (b.drop a.toNat)).1>b.length then .inl () else oneQ b j (a+(getI (b.drop a.toNat)).2.1) (i+1) (ns.set i (getI (b.drop a.toNat)).1)
theorem one_rounds (b:List UInt8) (w:List Int) (l:ByteArray) (hb:b.length≤1000000000):∀ (j i:Nat) (a:Int) (ns:List Int),i+j=3→ns.length=3→0≤a∧a≤b.length→Rounds (TOne_l2_e b w l) TOne_l2_x (TOne_l2_x' b w l) (fun s=>(TOne_l2_b b w l s).wp) (ns,a,(i:Int)) (oneQ b j a i ns):=by
 intro j
 induction j with
 | zero=>
  intro i a ns hi hn ha
  rw[oneQ]
  refine .done' (by intro e; cases e) ?_
  unfold TOne_l2_b TOne_l2_b0
  exact wp_sp (fun h'=>absurd (of_decide_eq_true h') (by simp only; omega)) (fun _=>wp_leaf rfl ⟨rfl,rfl⟩)
 | succ j ih=>
  intro i a ns hi hn ha
  rw[oneQ]
  by_cases h:(getI (b.drop a.toNat)).2.2≠0∨(getI (b.drop a.toNat)).1>b.length
  ·rw[if_pos h]
   exact .done (by intro e; cases e) (one_step hb (by omega) hn ha (fun _=>⟨rfl,rfl⟩) (fun g=>absurd h g))
  ·rw[if_neg h]
   have hg:=getI_b (b.drop a.toNat)
   rw[List.length_drop] at hg
   have hr:=ih (i+1) (a+(getI (b.drop a.toNat)).2.1) (ns.set i (getI (b.drop a.toNat)).1) (by omega) (by rw[List.length_set]; exact hn) (by omega)
   rw[show ((i+1:Nat):Int)=(i:Int)+1 by omega] at hr
   exact .next (one_step hb (by omega) hn ha (fun g=>absurd g h) (fun _=>⟨rfl,rfl⟩)) hr
theorem oneQ_3 (b:List UInt8) (a:Int) (ha:0≤a):oneQ b 3 a 0 [0,0,0] =
  (let r:=b.drop a.toNat; let r1:=r.drop (getI r).2.1.toNat; let r2:=r1.drop (getI r1).2.1.toNat
   if (getI r).2.2≠0∨(getI r).1>b.length then .inl () else
   if (getI r1).2.2≠0∨(getI r1).1>b.length then .inl () else
   if (getI r2).2.2≠0∨(getI r2).1>b.length then .inl () else
   .inr (a+(getI r).2.1+(getI r1).2.1+(getI r2).2.1,[(getI r).1,(getI r1).1,(getI r2).1])):=by
 have h0:=(getI_b (b.drop a.toNat)).2.1
 have e1:b.drop (a+(getI (b.drop a.toNat)).2.1).toNat=(b.drop a.toNat).drop (getI (b.drop a.toNat)).2.1.toNat:=by
  rw[List.drop_drop]
  congr 1
  omega
 have h1:=(getI_b ((b.drop a.toNat).drop (getI (b.drop a.toNat)).2.1.toNat)).2.1
 have e2:b.drop (a+(getI (b.drop a.toNat)).2.1+(getI ((b.drop a.toNat).drop (getI (b.drop a.toNat)).2.1.toNat)).2.1).toNat=((b.drop a.toNat).drop (getI (b.drop a.toNat)).2.1.toNat).drop (getI ((b.drop a.toNat).drop (getI (b.drop a.toNat)).2.1.toNat)).2.1.toNat:=by
  rw[←e1,List.drop_drop,e1]
  congr 1
  omega
 simp only[oneQ,e1,e2]
 rfl
end Go.Ax

namespace Go.Ax
open Go.Proofs Go.RowKit
set_option maxRecDepth 100000

def oneP (b:List UInt8) (a:Int) (l:List UInt8):Par×Int×Int:=match oneI b.length (b.drop a.toNat) l with
 | none=>(⟨⟨#[]⟩,⟨#[]⟩⟩,0,2)
 | some (q,r)=>(q,(b.length:Int) - r.length,0)
theorem seal_par {S:Nat→Prop} {B:List Box} (x:Par) (n e:Int):Sealed S B (.tup [parE.av x,vi n,vi e]) (.tup [parE.av x,vi n,vi e]):= .tup _ _ rfl (seal_all (fun y hy=>by
 rcases List.mem_cons.1 hy with rfl | hy
 ·exact .agg _ _ rfl (seal_all (seal_pl (l:= [.v (.string x.name), .v (.string x.val)])))
 ·rcases List.mem_cons.1 hy with rfl | hy
  ·exact .p _
  ·rcases List.mem_cons.1 hy with rfl | hy
   ·exact .p _
   ·cases hy))
theorem cut_mid (b:List UInt8) (x y:Nat):cutL (some (x:Int)) (some ((x:Int)+y)) b=(b.drop x).take y:=by
 show (b.take (Int.toNat ((x:Int)+y))).drop (Int.toNat (x:Int))=_
 rw[Int.toNat_natCast,show Int.toNat ((x:Int)+y)=x+y by omega,List.drop_take]
 congr 1
 omega
theorem name_eq (l:ByteArray) (n0:Nat) (m:List UInt8):l.extract (loN none) (hiN (some (n0:Int)) l.size)++(⟨m.toArray⟩:ByteArray)=⟨(l.data.toList.take n0++m).toArray⟩:=by
 apply ByteArray.ext
 rw[ByteArray.data_append,ByteArray.data_extract]
 apply Array.toList_inj.1
 rw[Array.toList_append,Array.toList_extract,List.extract_eq_take_drop]
 show List.take (Int.toNat (n0:Int) - 0) (List.drop 0 _)++_=_
 simp
end Go.Ax

namespace Go.Ax
open Go.Proofs Go.RowKit
set_option maxRecDepth 100000

theorem cat_valF {a b:ByteArray} {B:List Box} (h:a.size+b.size≤140737488355328):(binA DP .add 9 (vs a) (vs b)).map (fun v=>(v,B))=some (vs (a++b),B):=by
 show (((if a.size+b.size≤140737488355328 then some (Value.string (a++b)) else none:Option Value)).map _).map _=_
 rw[if_pos h]
 rfl
theorem wp_bstrl {d:Nat} {L:List UInt8} {k:Tree} {K:AE→St→Prop} (h:k.wp K):(Tree.bstrl d (L.map byteE.f) L k).wp K:=⟨rfl,h⟩
def ROne:List AV→AV→Prop:=fun args r=>∃ (b:List UInt8) (w:List Int) (a:Int) (l:ByteArray),b.length≤1000000000∧l.size≤1000000000∧(0≤a∧a≤b.length)∧args= [.agg [vl (b.map byteE.f),vl (w.map intE.f)],vi a,vs l]∧r= .tup [parE.av (oneP b a l.data.toList).1,vi (oneP b a l.data.toList).2.1,vi (oneP b a l.data.toList).2.2]
noncomputable def gOne:=relG ROne
theorem SOne:SoundF DP iOne (.pure gOne):=sound_pureT mixedD ΓF5_ok Δ0_ok hfOne heOne hbOne (by
 rintro args r ⟨b,w,a,l,hb,hl,ha,rfl,rfl⟩
 refine ⟨rfl,rfl,_,TOne_chk b w a l,?_⟩
 have hr:=one_rounds b w l hb 3 0 a [0,0,0] rfl rfl ha
 rw[oneQ_3 b a ha.1] at hr
 have hP:oneP b a l.data.toList=match oneI b.length (b.drop a.toNat) l.data.toList with | none=>(⟨⟨#[]⟩,⟨#[]⟩⟩,0,2) | some (q,r)=>(q,(b.length:Int) - r.length,0):=rfl
 unfold oneI at hP
 simp only at hr hP
 have f0:=getI_b (b.drop a.toNat)
 have f1:=getI_b ((b.drop a.toNat).drop (getI (b.drop a.toNat)).2.1.toNat)
 have f2:=getI_b (((b.drop a.toNat).drop (getI (b.drop a.toNat)).2.1.toNat).drop (getI ((b.drop a.toNat).drop (getI (b.drop a.toNat)).2.1.toNat)).2.1.toNat)
 generalize hR0:b.drop a.toNat=R0 at *
 generalize hR1:R0.drop (getI R0).2.1.toNat=R1 at *
 generalize hR2:R1.drop (getI R1).2.1.toNat=R2 at *
 have l0:(R0.length:Int)=b.length - a:=by rw[←hR0,List.length_drop]; omega
 have l1:(R1.length:Int)=R0.length - (getI R0).2.1:=by rw[←hR1,List.length_drop]; omega
 have l2:(R2.length:Int)=R1.length - (getI R1).2.1:=by rw[←hR2,List.length_drop]; omega
 unfold TOne
 by_cases c0:(getI R0).2.2≠0∨(getI R0).1>b.length
 ·rw[if_pos c0] at hr hP
  rw[hP]
  exact wp_loop () rfl hr (wp_leaf rfl (seal_par ⟨⟨#[]⟩,⟨#[]⟩⟩ 0 2))
 rw[if_neg c0] at hr hP
 by_cases c1:(getI R1).2.2≠0∨(getI R1).1>b.length
 ·rw[if_pos c1] at hr hP
  rw[hP]
  exact wp_loop () rfl hr (wp_leaf rfl (seal_par ⟨⟨#[]⟩,⟨#[]⟩⟩ 0 2))
 rw[if_neg c1] at hr hP
 by_cases c2:(getI R2).2.2≠0∨(getI R2).1>b.length
 ·rw[if_pos c2] at hr hP
  rw[hP]
  exact wp_loop () rfl hr (wp_leaf rfl (seal_par ⟨⟨#[]⟩,⟨#[]⟩⟩ 0 2))
 rw[if_neg c2] at hr hP
 have hR3:R2.drop (getI R2).2.1.toNat=b.drop (a+(getI R0).2.1+(getI R1).2.1+(getI R2).2.1).toNat:=by
  rw[←hR2,←hR1,←hR0,List.drop_drop,List.drop_drop,List.drop_drop,hR0,hR1,hR2]
  congr 1
  omega
 rw[hR3] at hP
 obtain ⟨at3,h3⟩:=Int.eq_ofNat_of_zero_le (show 0≤a+(getI R0).2.1+(getI R1).2.1+(getI R2).2.1 by omega)
 obtain ⟨n0,h0⟩:=Int.eq_ofNat_of_zero_le f0.1
 obtain ⟨n1,h1⟩:=Int.eq_ofNat_of_zero_le f1.1
 obtain ⟨n2,h2⟩:=Int.eq_ofNat_of_zero_le f2.1
 have b3:a+(getI R0).2.1+(getI R1).2.1+(getI R2).2.1≤b.length:=by omega
 have b0:(getI R0).1≤b.length:=by omega
 have b1:(getI R1).1≤b.length:=by omega
 have b2:(getI R2).1≤b.length:=by omega
 rw[h3] at hr hP b3
 rw[h0] at hr hP b0
 rw[h1] at hr hP b1
 rw[h2] at hr hP b2
 have hsz:l.data.toList.length=l.size:=rfl
 rw[List.length_drop,hsz] at hP
 refine wp_loop' _ rfl hr (wp_pidx (by decide) (by decide) (wp_rload _ (by decide) rfl rfl (wp_sp (fun g=>?_) (fun g=>?_))))
 ·have g:=of_decide_eq_true g
  rw[if_pos (.inl (by omega))] at hP
  rw[hP]
  exact wp_leaf rfl (seal_par ⟨⟨#[]⟩,⟨#[]⟩⟩ 0 2)
 ·have g:=of_decide_eq_false g
  refine wp_pidx (by decide) (by decide) (wp_rload _ (by decide) rfl rfl (wp_pidx (by decide) (by decide) (wp_rload _ (by decide) rfl rfl (wp_i64 (by omega) (wp_len (wp_i64 (by simp only; omega) (wp_sp (fun k=>?_) (fun k=>?_))))))))
  ·have k:=of_decide_eq_true k
   rw[if_pos (.inr (by simp only at k; omega))] at hP
   rw[hP]
   exact wp_leaf rfl (seal_par ⟨⟨#[]⟩,⟨#[]⟩⟩ 0 2)
  ·have k:=of_decide_eq_false k
   simp only at k
   rw[if_neg (by rintro (e | e) <;> omega)] at hP
   have hcat:(l.extract (loN none) (hiN (some (n0:Int)) l.size)).size+(⟨(cutL (some (at3:Int)) (some ((at3:Int)+n1)) b).toArray⟩:ByteArray).size≤140737488355328:=by
    rw[cut_mid,ByteArray.size_extract]
    show _+((b.drop at3).take n1).toArray.size≤_
    simp only[List.size_toArray,List.length_take,List.length_drop]
    omega
   dsimp only
   repeat' first
    | refine wp_any ?_
    | refine wp_fork ?_ ?_
    | refine wp_join rfl ?_
    | refine wp_pidx (by decide) (by decide) ?_
    | refine wp_rload _ (by decide) rfl rfl ?_
    | refine wp_scut (by simp only[cutOk]; omega) ?_
    | refine wp_cut (by simp only[cutOk]; omega) ?_
    | refine wp_bstrl ?_
    | refine wp_val (cat_valF hcat) ?_
    | refine wp_i64 (by (try simp only); omega) ?_
   all_goals (
    unfold TOne_j3
    have e1:=cut_mid b (at3+n1) n2
    rw[show ((at3+n1:Nat):Int)=(at3:Int)+n1 by omega] at e1
    rw[name_eq,cut_mid,e1]
    refine wp_leaf rfl ?_
    rw[hP]
    have e2:(b.length:Int) - (((b.drop (Int.toNat (at3:Int))).drop (Int.toNat ((n1:Int)+n2))).length:Int)=(at3:Int)+n1+n2:=by
     rw[List.length_drop,List.length_drop]; omega
    simp only[Int.toNat_natCast] at e2 ⊢
    rw[e2,show b.drop (at3+n1)=(b.drop at3).drop n1 by rw[List.drop_drop]]
    exact seal_par _ _ 0))
end Go.Ax

namespace Go.Ax
open Go.Proofs Go.RowKit
set_option maxRecDepth 100000

noncomputable def ΓF6:Env:=envP [(iOne,gOne)]

noncomputable def TReadP_l1_e (b:List UInt8) (w:List Int) (s1:(List Par)×Int×ByteArray):St:=([(1,vi s1.2.1),(2,vi (-1)),(3, .ptr 0 0 0),(8, .rs 1 0 2 0 s1.1.length),(9,vs s1.2.2)],[.cells false 0 ([vl (b.map byteE.f),vl (w.map intE.f)]),parE.bx 0 s1.1])
noncomputable def TReadP_l1_x (x1:Int):AE×St:=(.ret,([(6,nilS),(7,vi x1)],[]))
noncomputable def TReadP_l1_x' (y1:(List Par)):AE×St:=((.exit 0),([(8, .rs 0 0 2 0 y1.length)],[parE.bx 0 y1]))
noncomputable def TReadP_l1_b0 (b:List UInt8) (w:List Int) (p1a:List Par) (p1b:Int) (p1c:ByteArray):Tree:=
.int 16 ((b.map byteE.f).length:Int) (b.length:Int) (.sp 17 (decide (p1b<(b.length:Int))) (
.sp 22 (((p1a.length:Nat):Int) != ((-1):Int)) (
.call 28 (gOne [.agg [vl (b.map byteE.f),vl (w.map intE.f)],vi p1b,vs p1c]=some (.tup [(parE.av ((oneP b p1b p1c.data.toList).1)),vi ((oneP b p1b p1c.data.toList).2.1),vi ((oneP b p1b p1c.data.toList).2.2)])) (.tup [(parE.av ((oneP b p1b p1c.data.toList).1)),vi ((oneP b p1b p1c.data.toList).2.1),vi ((oneP b p1b p1c.data.toList).2.2)]) (.sp 33 (((oneP b p1b p1c.data.toList).2.2) != (0:Int)) (
.leaf ⟨[6,7],[]⟩ [] .ret (some (TReadP_l1_x ((oneP b p1b p1c.data.toList).2.2)).2)) (
.any (.fork (
.app 38 (.row 1 ([vs (((oneP b p1b p1c.data.toList).1).name),vs (((oneP b p1b p1c.data.toList).1).val)])) p1a.length (rowC (p1a.map parE.f)) parE p1a ([((oneP b p1b p1c.data.toList).1)]) (.leaf ⟨[1,2,3,8,9],[(0,0,none),(1,1,some ((p1a++([((oneP b p1b p1c.data.toList).1)])).map parE.f))]⟩ [rowC ((p1a++([((oneP b p1b p1c.data.toList).1)])).map parE.f)] .normal (some (TReadP_l1_e b w (p1a++([((oneP b p1b p1c.data.toList).1)]),(oneP b p1b p1c.data.toList).2.1,((oneP b p1b p1c.data.toList).1).name))))) (
.app 38 (.row 1 ([vs (((oneP b p1b p1c.data.toList).1).name),vs (((oneP b p1b p1c.data.toList).1).val)])) p1a.length (rowC (p1a.map parE.f)) parE p1a ([((oneP b p1b p1c.data.toList).1)]) (.leaf ⟨[1,2,3,8,9],[(0,0,none),(1,1,some ((p1a++([((oneP b p1b p1c.data.toList).1)])).map parE.f))]⟩ [rowC ((p1a++([((oneP b p1b p1c.data.toList).1)])).map parE.f)] .normal (some (TReadP_l1_e b w (p1a++([((oneP b p1b p1c.data.toList).1)]),(oneP b p1b p1c.data.toList).2.1,((oneP b p1b p1c.data.toList).1).name))))))))) (
.leaf ⟨[8],[(1,0,some (p1a.map parE.f))]⟩ [rowC (p1a.map parE.f)] (.exit 0) (some (TReadP_l1_x' p1a).2))) (
.leaf ⟨[8],[(1,0,some (p1a.map parE.f))]⟩ [rowC (p1a.map parE.f)] (.exit 0) (some (TReadP_l1_x' p1a).2)))
noncomputable def TReadP_l1_b (b:List UInt8) (w:List Int) (s1:(List Par)×Int×ByteArray):Tree:=
TReadP_l1_b0 b w s1.1 s1.2.1 s1.2.2
noncomputable def TReadP (b:List UInt8) (w:List Int):Tree:=
.nilrow 8 2 (.loop ⟨[1,2,3,8,9],[(0,0,none),(1,0,some (([]:List Par).map parE.f))]⟩ [rowC (([]:List Par).map parE.f)] (some (TReadP_l1_e b w (([]:List Par),0,⟨#[]⟩))) (TReadP_l1_e b w) (TReadP_l1_x) (TReadP_l1_x') (([]:List Par),0,⟨#[]⟩) (TReadP_l1_b b w) (fun (x1:Int)=> .leaf ⟨[0],[]⟩ [] .ret (some ([(0, .tup [nilS,vi x1])],[]))) (fun (y1:(List Par))=> .leaf ⟨[0],[(0,0,some (y1.map parE.f))]⟩ [rowC (y1.map parE.f)] .ret (some ([(0, .tup [.rs 0 0 2 0 y1.length,vi 0])],[parE.bx 0 y1]))))

theorem TReadP_chk (b:List UInt8) (w:List Int):fnC DP ΓF6 Δ0 Tryd.f72 [.agg [vl (b.map byteE.f),vl (w.map intE.f)],vi 0,vi (-1)] [] (TReadP b w)=TReadP b w:=by kernel_rfl

end Go.Ax
