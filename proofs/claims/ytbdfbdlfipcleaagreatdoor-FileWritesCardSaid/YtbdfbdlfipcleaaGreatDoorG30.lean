/- A change of its inner name: the contract. -/
import Derived.Test.YtbdfbdlfipcleaaGreatDoorG29
set_option linter.unusedVariables false
set_option linter.unusedSimpArgs false
set_option linter.unusedSectionVars false
namespace Go.Ax
open Go.Proofs Go.RowKit
set_option maxRecDepth 100000

theorem seal_all {S:Nat→Prop} {B:List Box} {l:List AV} (h:∀ x∈l,Sealed S B x x):∀ (j:Nat) (c d:AV),l[j]? = some c→l[j]? = some d→Sealed S B c d:=fun j c d h1 h2=>by
 rw[h1] at h2
 cases h2
 exact h c (List.mem_of_getElem? h1)
theorem seal_pl {S:Nat→Prop} {B:List Box} {l:List PV}:∀ x∈l.map AV.p,Sealed S B x x:=fun x hx=>by
 obtain ⟨y,_,rfl⟩:=List.mem_map.1 hx
 exact .p y
theorem seal_ent {S:Nat→Prop} {B:List Box} (x:Ent) (e:Int):Sealed S B (.tup [entE.av x,vi e]) (.tup [entE.av x,vi e]):= .tup _ _ rfl (seal_all (fun y hy=>by
 rcases List.mem_cons.1 hy with rfl | hy
 ·exact .agg _ _ rfl (seal_all (seal_pl (l:= [.v (.string x.key), .v (.int .u64 x.seq), .v (.bool x.del), .v (.string x.val)])))
 ·rcases List.mem_cons.1 hy with rfl | hy
  ·exact .p _
  ·cases hy))
def ROuter:List AV→AV→Prop:=fun args r=>∃ s:ByteArray,s.size≤1000000000∧args= [vs s]∧r= .tup [entE.av (outI s.data.toList).1,vi (outI s.data.toList).2]
noncomputable def gOuter:=relG ROuter
theorem and1 {a:Int} (ha:0≤a∧a<18446744073709551616):IntKind.u64.wrap ((BitVec.ofInt IntKind.u64.bits a &&& BitVec.ofInt IntKind.u64.bits 1).toNat)=a % 2:=andMod (k:= .u64) (m:=1) rfl (by decide) ⟨ha.1,by show a.toNat<18446744073709551616; omega⟩
theorem shr1 (a:Int):Int.fdiv a (2 ^ 1)=a / 2:=fdivP 2 (by decide)
def entO (p:List UInt8) (n:Nat):Ent:=⟨⟨p.toArray⟩,(18446744073709551615 - (n:Int)) / 2,((18446744073709551615 - (n:Int)) % 2) == (0:Int),⟨#[]⟩⟩
theorem SOuter:SoundF DP iOuter (.pure gOuter):=sound_pureT mixedD ΓF1_ok ΔF2_ok hfOuter heOuter hbOuter (by
 rintro args r ⟨s,hN,rfl,rfl⟩
 refine ⟨rfl,rfl,_,TOuter_chk s,?_⟩
 have hr:=out_rounds s hN _ _ 0 [] (Nat.le_refl _) List.drop_zero (Nat.zero_add _) (Nat.le_refl _)
 unfold TOuter
 refine wp_nilrow ?_
 cases ho:outA s.data.toList with
 | none=>
  rw[ho] at hr
  have hI:outI s.data.toList=(noE,2):=by unfold outI; rw[ho]
  rw[hI]
  exact wp_loop () rfl hr (wp_leaf rfl (seal_ent noE 2))
 | some q=>
  obtain ⟨p,t⟩:=q
  rw[ho] at hr
  obtain ⟨g1,g2,g3⟩:=outA_suf _ p t ho
  have hsz:s.data.toList.length=s.size:=rfl
  have hr':Rounds (TOuter_l1_e s) TOuter_l1_x (TOuter_l1_x' s) (fun z=>(TOuter_l1_b s z).wp) ([],0) (.inr ((s.size:Int) - t.length,p)):=hr
  have ht:(s.size:Int) - ((s.size:Int) - t.length)=t.length:=by omega
  refine wp_loop' _ rfl hr' (wp_i64 (by simp only; omega) (wp_sp (fun h=>?_) (fun h=>?_)))
  ·have hI:outI s.data.toList=(noE,2):=by
    unfold outI
    rw[ho]
    simp only
    rw[if_pos]
    intro e
    simp only[ht,bne_iff_ne,ne_eq] at h
    exact h (by omega)
   rw[hI]
   exact wp_leaf rfl (seal_ent noE 2)
  ·have h10:t.length=10:=by
    simp only[ht,bne_eq_false_iff_eq] at h
    omega
   have e8:(s.extract (loN (some ((s.size:Int) - t.length+2))) (hiN none s.size)).data.toList=t.drop 2:=by
    rw[ByteArray.data_extract,Array.toList_extract,List.extract_eq_take_drop]
    show List.take (s.size - Int.toNat ((s.size:Int) - t.length+2)) (s.data.toList.drop (Int.toNat ((s.size:Int) - t.length+2)))=_
    have e:Int.toNat ((s.size:Int) - t.length+2)=(s.data.toList.length - t.length)+2:=by omega
    rw[e,←List.drop_drop,g2,List.take_of_length_le (by rw[List.length_drop]; omega)]
   have eb:bigI (t.drop 2)=((bigN (t.drop 2):Nat):Int):=by
    unfold bigI
    rw[List.take_of_length_le (by rw[List.length_drop]; omega)]
   have hb:=bigN_lt (t.drop 2)
   rw[show (t.drop 2).length=8 by rw[List.length_drop,h10]] at hb
   have hb':bigN (t.drop 2)<18446744073709551616:=hb
   have hE:(⟨(⟨p.toArray⟩:ByteArray),(18446744073709551615 - ((bigN (t.drop 2):Nat):Int)) / 2,(((18446744073709551615 - ((bigN (t.drop 2):Nat):Int)) % 2) == (0:Int)),(⟨#[]⟩:ByteArray)⟩:Ent)=⟨⟨p.toArray⟩,((18446744073709551615 - bigN (t.drop 2)) / 2:Nat),decide ((18446744073709551615 - bigN (t.drop 2)) % 2=0),⟨#[]⟩⟩:=by
    congr 1
    ·omega
    ·rw[Bool.eq_iff_iff,beq_iff_eq,decide_eq_true_eq]
     omega
   simp only[e8,eb]
   have hX:0≤18446744073709551615 - ((bigN (t.drop 2):Nat):Int)∧18446744073709551615 - ((bigN (t.drop 2):Nat):Int)<18446744073709551616:=by omega
   refine wp_i64 (by omega) (wp_scut (by simp only[cutOk]; omega) (wp_sbyte ?_))
   refine wp_callr ?_ (wp_int (comp64 (by omega)) (wp_bstr (wp_int (shr1 _) (wp_int (and1 hX) (wp_call (gChkE_eq (entO p (bigN (t.drop 2)))) (wp_sp (fun hc=>?_) (fun hc=>?_)))))))
   ·have:=dBig (B:= [.cells false 0 ([vs (⟨#[]⟩),vn .u64 0,vb false,vs (⟨#[]⟩)]),byteE.bx 0 p,byteE.bx 0 (t.drop 2)]) (k:=2) (v:=0) (b:=t.drop 2) rfl
    rw[eb] at this
    exact this
   ·have hI:outI s.data.toList=(noE,2):=by
     unfold outI
     rw[ho]
     simp only
     rw[if_neg (by simp[h10]),if_pos]
     rw[←hE]
     simpa using hc
    rw[hI]
    exact wp_leaf rfl (seal_ent noE 2)
   ·have hI:outI s.data.toList=(⟨(⟨p.toArray⟩:ByteArray),(18446744073709551615 - ((bigN (t.drop 2):Nat):Int)) / 2,(((18446744073709551615 - ((bigN (t.drop 2):Nat):Int)) % 2) == (0:Int)),(⟨#[]⟩:ByteArray)⟩,0):=by
     rw[hE]
     unfold outI
     rw[ho]
     simp only
     rw[if_neg (by simp[h10]),if_neg]
     rw[←hE]
     simpa using hc
    rw[hI]
    exact wp_leaf rfl (seal_ent (entO p (bigN (t.drop 2))) 0))
theorem gOuter_eq (s:ByteArray) (h:s.size≤1000000000):gOuter [vs s]=some (.tup [entE.av (outI s.data.toList).1,vi (outI s.data.toList).2]):=relG_eq (by
 rintro args r r' ⟨a,_,h1,rfl⟩ ⟨b,_,h2,rfl⟩
 rw[h1] at h2
 simp at h2
 rw[h2]) ⟨s,h,rfl,rfl⟩
end Go.Ax

namespace Go.Ax
open Go.Proofs Go.RowKit
set_option maxRecDepth 100000

noncomputable def ΓF3:Env:=envP [(iCommon,gCommon)]
noncomputable def ΔF3:REnv:=envR [(iPutL,liftR OPutL),(iPut,liftR OPut)]
noncomputable def ΓF4:Env:=envP [(iInner,gInner)]

abbrev iMkP:Nat:=21
noncomputable abbrev nMkP:Func:=Tryz.f21
theorem hfMkP:DP.funcs[iMkP]? = some nMkP:=by kernel_rfl
theorem heMkP:enters DP iMkP=true:=by kernel_rfl
theorem hbMkP:nMkP.body.isSome=true:=by kernel_rfl
abbrev iOfP:Nat:=22
noncomputable abbrev nOfP:Func:=Tryz.f22
theorem hfOfP:DP.funcs[iOfP]? = some nOfP:=by kernel_rfl
theorem heOfP:enters DP iOfP=true:=by kernel_rfl
theorem hbOfP:nOfP.body.isSome=true:=by kernel_rfl
noncomputable def TMkP_l1_e (L:List Par) (s1:(List UInt8)×(List UInt8)×Int×Int×ByteArray):St:=([(4, .rs 0 0 1 0 s1.1.length),(5, .rs 1 0 1 0 s1.2.1.length),(6,vi s1.2.2.2.1),(7,vs s1.2.2.2.2),(11,vl (L.map parE.f)),(12,vi (L.length:Int)),(13,vi s1.2.2.1)],[byteE.bx 0 s1.1,byteE.bx 0 s1.2.1])
noncomputable def TMkP_l1_x (x1:Int):AE×St:=(.ret,([(2,nilS),(3,vi x1)],[]))
noncomputable def TMkP_l1_x' (y1:Int×(List UInt8)×(List UInt8)):AE×St:=((.exit 0),([(4, .rs 0 0 1 0 y1.2.1.length),(5, .rs 1 0 1 0 y1.2.2.length),(6,vi y1.1)],[byteE.bx 0 y1.2.1,byteE.bx 0 y1.2.2]))
noncomputable def TMkP_j2_e (L:List Par) (s1:(List UInt8)×(List UInt8)×Int×Int×ByteArray) (e1:Par) (j2:Bool):St:=([(4, .rs 0 0 1 0 s1.1.length),(5, .rs 1 0 1 0 s1.2.1.length),(6,vi s1.2.2.2.1),(7,vs s1.2.2.2.2),(8,vi s1.2.2.1),(9, .ptr 2 0 0),(11,vl (L.map parE.f)),(12,vi (L.length:Int)),(13,vi s1.2.2.1),(25,vb j2)],[byteE.bx 0 s1.1,byteE.bx 0 s1.2.1, .cells false 0 ([vs e1.name,vs e1.val])])
noncomputable def TMkP_j3_e (L:List Par) (s1:(List UInt8)×(List UInt8)×Int×Int×ByteArray) (e1:Par) (j3:Int×Int×(List UInt8)):St:=([(4, .rs 0 0 1 0 s1.1.length),(5, .rs 1 0 1 0 j3.2.2.length),(6,vi j3.1),(9, .ptr 2 0 0),(10,vi j3.2.1),(11,vl (L.map parE.f)),(12,vi (L.length:Int)),(13,vi s1.2.2.1)],[byteE.bx 0 s1.1,byteE.bx 0 j3.2.2, .cells false 0 ([vs e1.name,vs e1.val])])
noncomputable def TMkP_j4_e (L:List Par) (s1:(List UInt8)×(List UInt8)×Int×Int×ByteArray) (e1:Par) (j3:Int×Int×(List UInt8)) (j4:(List UInt8)):St:=([(4, .rs 0 0 1 0 j4.length),(5, .rs 1 0 1 0 j3.2.2.length),(6,vi j3.1),(9, .ptr 2 0 0),(10,vi j3.2.1),(11,vl (L.map parE.f)),(12,vi (L.length:Int)),(13,vi s1.2.2.1)],[byteE.bx 0 j4,byteE.bx 0 j3.2.2, .cells false 0 ([vs e1.name,vs e1.val])])
noncomputable def TMkP_j5_e (L:List Par) (s1:(List UInt8)×(List UInt8)×Int×Int×ByteArray) (e1:Par) (j3:Int×Int×(List UInt8)) (j5:(List UInt8)):St:=([(4, .rs 0 0 1 0 j5.length),(5, .rs 1 0 1 0 j3.2.2.length),(6,vi j3.1),(9, .ptr 2 0 0),(11,vl (L.map parE.f)),(12,vi (L.length:Int)),(13,vi s1.2.2.1)],[byteE.bx 0 j5,byteE.bx 0 j3.2.2, .cells false 0 ([vs e1.name,vs e1.val])])
noncomputable def TMkP_j5 (L:List Par) (s1:(List UInt8)×(List UInt8)×Int×Int×ByteArray) (e1:Par) (j3:Int×Int×(List UInt8)) (j5:(List UInt8)):Tree:=
.sp 69 (decide (((j5.length:Nat):Int)>(262144:Int))) (
.leaf ⟨[2,3],[]⟩ [] .ret (some (TMkP_l1_x 6).2)) (
.int 70 (IntKind.i64.wrap (s1.2.2.1+1)) (s1.2.2.1+1) (.leaf ⟨[4,5,6,7,11,12,13],[(0,0,some (j5.map byteE.f)),(1,0,some (j3.2.2.map byteE.f))]⟩ [rowC (j5.map byteE.f),rowC (j3.2.2.map byteE.f)] .normal (some (TMkP_l1_e L (j5,j3.2.2,s1.2.2.1+1,j3.1,e1.name)))))
noncomputable def TMkP_j4 (L:List Par) (s1:(List UInt8)×(List UInt8)×Int×Int×ByteArray) (e1:Par) (j3:Int×Int×(List UInt8)) (j4:(List UInt8)):Tree:=
.any (.scut 60 e1.name (some j3.2.1) none (.fork (
.app 61 (.str (e1.name.extract (loN (some j3.2.1)) (hiN none e1.name.size))) j4.length (rowC (j4.map byteE.f)) byteE j4 ((e1.name.extract (loN (some j3.2.1)) (hiN none e1.name.size)).data.toList) (.app 64 (.str e1.val) ((j4++((e1.name.extract (loN (some j3.2.1)) (hiN none e1.name.size)).data.toList)).length) (rowC ((j4++((e1.name.extract (loN (some j3.2.1)) (hiN none e1.name.size)).data.toList)).map byteE.f)) byteE (j4++((e1.name.extract (loN (some j3.2.1)) (hiN none e1.name.size)).data.toList)) e1.val.data.toList (.join ⟨[4,5,6,9,11,12,13],[(0,2,some (((j4++((e1.name.extract (loN (some j3.2.1)) (hiN none e1.name.size)).data.toList))++e1.val.data.toList).map byteE.f)),(1,0,some (j3.2.2.map byteE.f)),(2,0,none)]⟩ [rowC (((j4++((e1.name.extract (loN (some j3.2.1)) (hiN none e1.name.size)).data.toList))++e1.val.data.toList).map byteE.f),rowC (j3.2.2.map byteE.f)] (some (TMkP_j5_e L s1 e1 j3 ((j4++((e1.name.extract (loN (some j3.2.1)) (hiN none e1.name.size)).data.toList))++e1.val.data.toList))) (TMkP_j5_e L s1 e1 j3) ((j4++((e1.name.extract (loN (some j3.2.1)) (hiN none e1.name.size)).data.toList))++e1.val.data.toList) (TMkP_j5 L s1 e1 j3)))) (
.app 61 (.str (e1.name.extract (loN (some j3.2.1)) (hiN none e1.name.size))) j4.length (rowC (j4.map byteE.f)) byteE j4 ((e1.name.extract (loN (some j3.2.1)) (hiN none e1.name.size)).data.toList) (.app 64 (.str e1.val) ((j4++((e1.name.extract (loN (some j3.2.1)) (hiN none e1.name.size)).data.toList)).length) (rowC ((j4++((e1.name.extract (loN (some j3.2.1)) (hiN none e1.name.size)).data.toList)).map byteE.f)) byteE (j4++((e1.name.extract (loN (some j3.2.1)) (hiN none e1.name.size)).data.toList)) e1.val.data.toList (.join ⟨[4,5,6,9,11,12,13],[(0,2,some (((j4++((e1.name.extract (loN (some j3.2.1)) (hiN none e1.name.size)).data.toList))++e1.val.data.toList).map byteE.f)),(1,0,some (j3.2.2.map byteE.f)),(2,0,none)]⟩ [rowC (((j4++((e1.name.extract (loN (some j3.2.1)) (hiN none e1.name.size)).data.toList))++e1.val.data.toList).map byteE.f),rowC (j3.2.2.map byteE.f)] (some (TMkP_j5_e L s1 e1 j3 ((j4++((e1.name.extract (loN (some j3.2.1)) (hiN none e1.name.size)).data.toList))++e1.val.data.toList))) (TMkP_j5_e L s1 e1 j3) ((j4++((e1.name.extract (loN (some j3.2.1)) (hiN none e1.name.size)).data.toList))++e1.val.data.toList) (TMkP_j5 L s1 e1 j3))))))
noncomputable def TMkP_j3 (L:List Par) (s1:(List UInt8)×(List UInt8)×Int×Int×ByteArray) (e1:Par) (j3:Int×Int×(List UInt8)):Tree:=
.any (.int 42 (IntKind.u64.wrap (j3.2.1)) (j3.2.1) (.fork (
.callr (some 43) (ΔF3 25 [.rs 0 0 1 0 s1.1.length,vn .u64 j3.2.1] [byteE.bx 0 s1.1,byteE.bx 0 j3.2.2, .cells false 0 ([vs e1.name,vs e1.val])] (.rs 3 0 1 0 ((s1.1++putI j3.2.1).length)) [byteE.bx 1 ([]:List UInt8),byteE.bx 0 j3.2.2, .cells false 0 ([vs e1.name,vs e1.val]),byteE.bx 0 (s1.1++putI j3.2.1)]) (.rs 3 0 1 0 ((s1.1++putI j3.2.1).length)) [byteE.bx 1 ([]:List UInt8),byteE.bx 0 j3.2.2, .cells false 0 ([vs e1.name,vs e1.val]),byteE.bx 0 (s1.1++putI j3.2.1)] (.int 48 (IntKind.i64.wrap ((e1.name.size:Int) - j3.2.1)) ((e1.name.size:Int) - j3.2.1) (.int 49 (IntKind.u64.wrap ((e1.name.size:Int) - j3.2.1)) ((e1.name.size:Int) - j3.2.1) (.fork (
.callr (some 50) (ΔF3 25 [.rs 3 0 1 0 ((s1.1++putI j3.2.1).length),vn .u64 ((e1.name.size:Int) - j3.2.1)] [byteE.bx 1 ([]:List UInt8),byteE.bx 0 j3.2.2, .cells false 0 ([vs e1.name,vs e1.val]),byteE.bx 0 (s1.1++putI j3.2.1)] (.rs 4 0 1 0 (((s1.1++putI j3.2.1)++putI ((e1.name.size:Int) - j3.2.1)).length)) [byteE.bx 1 ([]:List UInt8),byteE.bx 0 j3.2.2, .cells false 0 ([vs e1.name,vs e1.val]),byteE.bx 1 ([]:List UInt8),byteE.bx 0 ((s1.1++putI j3.2.1)++putI ((e1.name.size:Int) - j3.2.1))]) (.rs 4 0 1 0 (((s1.1++putI j3.2.1)++putI ((e1.name.size:Int) - j3.2.1)).length)) [byteE.bx 1 ([]:List UInt8),byteE.bx 0 j3.2.2, .cells false 0 ([vs e1.name,vs e1.val]),byteE.bx 1 ([]:List UInt8),byteE.bx 0 ((s1.1++putI j3.2.1)++putI ((e1.name.size:Int) - j3.2.1))] (.int 54 (IntKind.u64.wrap ((e1.val.size:Int))) ((e1.val.size:Int)) (.callr (some 55) (ΔF3 25 [.rs 4 0 1 0 (((s1.1++putI j3.2.1)++putI ((e1.name.size:Int) - j3.2.1)).length),vn .u64 (e1.val.size:Int)] [byteE.bx 1 ([]:List UInt8),byteE.bx 0 j3.2.2, .cells false 0 ([vs e1.name,vs e1.val]),byteE.bx 1 ([]:List UInt8),byteE.bx 0 ((s1.1++putI j3.2.1)++putI ((e1.name.size:Int) - j3.2.1))] (.rs 5 0 1 0 ((((s1.1++putI j3.2.1)++putI ((e1.name.size:Int) - j3.2.1))++putI (e1.val.size:Int)).length)) [byteE.bx 1 ([]:List UInt8),byteE.bx 0 j3.2.2, .cells false 0 ([vs e1.name,vs e1.val]),byteE.bx 1 ([]:List UInt8),byteE.bx 1 ([]:List UInt8),byteE.bx 0 (((s1.1++putI j3.2.1)++putI ((e1.name.size:Int) - j3.2.1))++putI (e1.val.size:Int))]) (.rs 5 0 1 0 ((((s1.1++putI j3.2.1)++putI ((e1.name.size:Int) - j3.2.1))++putI (e1.val.size:Int)).length)) [byteE.bx 1 ([]:List UInt8),byteE.bx 0 j3.2.2, .cells false 0 ([vs e1.name,vs e1.val]),byteE.bx 1 ([]:List UInt8),byteE.bx 1 ([]:List UInt8),byteE.bx 0 (((s1.1++putI j3.2.1)++putI ((e1.name.size:Int) - j3.2.1))++putI (e1.val.size:Int))] (.join ⟨[4,5,6,9,10,11,12,13],[(5,0,some ((((s1.1++putI j3.2.1)++putI ((e1.name.size:Int) - j3.2.1))++putI (e1.val.size:Int)).map byteE.f)),(1,0,some (j3.2.2.map byteE.f)),(2,0,none)]⟩ [rowC ((((s1.1++putI j3.2.1)++putI ((e1.name.size:Int) - j3.2.1))++putI (e1.val.size:Int)).map byteE.f),rowC (j3.2.2.map byteE.f)] (some (TMkP_j4_e L s1 e1 j3 (((s1.1++putI j3.2.1)++putI ((e1.name.size:Int) - j3.2.1))++putI (e1.val.size:Int)))) (TMkP_j4_e L s1 e1 j3) (((s1.1++putI j3.2.1)++putI ((e1.name.size:Int) - j3.2.1))++putI (e1.val.size:Int)) (TMkP_j4 L s1 e1 j3))))) (
.callr (some 50) (ΔF3 25 [.rs 3 0 1 0 ((s1.1++putI j3.2.1).length),vn .u64 ((e1.name.size:Int) - j3.2.1)] [byteE.bx 1 ([]:List UInt8),byteE.bx 0 j3.2.2, .cells false 0 ([vs e1.name,vs e1.val]),byteE.bx 0 (s1.1++putI j3.2.1)] (.rs 4 0 1 0 (((s1.1++putI j3.2.1)++putI ((e1.name.size:Int) - j3.2.1)).length)) [byteE.bx 1 ([]:List UInt8),byteE.bx 0 j3.2.2, .cells false 0 ([vs e1.name,vs e1.val]),byteE.bx 1 ([]:List UInt8),byteE.bx 0 ((s1.1++putI j3.2.1)++putI ((e1.name.size:Int) - j3.2.1))]) (.rs 4 0 1 0 (((s1.1++putI j3.2.1)++putI ((e1.name.size:Int) - j3.2.1)).length)) [byteE.bx 1 ([]:List UInt8),byteE.bx 0 j3.2.2, .cells false 0 ([vs e1.name,vs e1.val]),byteE.bx 1 ([]:List UInt8),byteE.bx 0 ((s1.1++putI j3.2.1)++putI ((e1.name.size:Int) - j3.2.1))] (.int 54 (IntKind.u64.wrap ((e1.val.size:Int))) ((e1.val.size:Int)) (.callr (some 55) (ΔF3 25 [.rs 4 0 1 0 (((s1.1++putI j3.2.1)++putI ((e1.name.size:Int) - j3.2.1)).length),vn .u64 (e1.val.size:Int)] [byteE.bx 1 ([]:List UInt8),byteE.bx 0 j3.2.2, .cells false 0 ([vs e1.name,vs e1.val]),byteE.bx 1 ([]:List UInt8),byteE.bx 0 ((s1.1++putI j3.2.1)++putI ((e1.name.size:Int) - j3.2.1))] (.rs 5 0 1 0 ((((s1.1++putI j3.2.1)++putI ((e1.name.size:Int) - j3.2.1))++putI (e1.val.size:Int)).length)) [byteE.bx 1 ([]:List UInt8),byteE.bx 0 j3.2.2, .cells false 0 ([vs e1.name,vs e1.val]),byteE.bx 1 ([]:List UInt8),byteE.bx 1 ([]:List UInt8),byteE.bx 0 (((s1.1++putI j3.2.1)++putI ((e1.name.size:Int) - j3.2.1))++putI (e1.val.size:Int))]) (.rs 5 0 1 0 ((((s1.1++putI j3.2.1)++putI ((e1.name.size:Int) - j3.2.1))++putI (e1.val.size:Int)).length)) [byteE.bx 1 ([]:List UInt8),byteE.bx 0 j3.2.2, .cells false 0 ([vs e1.name,vs e1.val]),byteE.bx 1 ([]:List UInt8),byteE.bx 1 ([]:List UInt8),byteE.bx 0 (((s1.1++putI j3.2.1)++putI ((e1.name.size:Int) - j3.2.1))++putI (e1.val.size:Int))] (.join ⟨[4,5,6,9,10,11,12,13],[(5,0,some ((((s1.1++putI j3.2.1)++putI ((e1.name.size:Int) - j3.2.1))++putI (e1.val.size:Int)).map byteE.f)),(1,0,some (j3.2.2.map byteE.f)),(2,0,none)]⟩ [rowC ((((s1.1++putI j3.2.1)++putI ((e1.name.size:Int) - j3.2.1))++putI (e1.val.size:Int)).map byteE.f),rowC (j3.2.2.map byteE.f)] (some (TMkP_j4_e L s1 e1 j3 (((s1.1++putI j3.2.1)++putI ((e1.name.size:Int) - j3.2.1))++putI (e1.val.size:Int)))) (TMkP_j4_e L s1 e1 j3) (((s1.1++putI j3.2.1)++putI ((e1.name.size:Int) - j3.2.1))++putI (e1.val.size:Int)) (TMkP_j4 L s1 e1 j3))))))))) (
.fork (
.int 48 (IntKind.i64.wrap ((e1.name.size:Int) - j3.2.1)) ((e1.name.size:Int) - j3.2.1) (.int 49 (IntKind.u64.wrap ((e1.name.size:Int) - j3.2.1)) ((e1.name.size:Int) - j3.2.1) (.fork (
.callr (some 43) (ΔF3 25 [.rs 0 0 1 0 s1.1.length,vn .u64 j3.2.1] [byteE.bx 0 s1.1,byteE.bx 0 j3.2.2, .cells false 0 ([vs e1.name,vs e1.val])] (.rs 3 0 1 0 ((s1.1++putI j3.2.1).length)) [byteE.bx 1 ([]:List UInt8),byteE.bx 0 j3.2.2, .cells false 0 ([vs e1.name,vs e1.val]),byteE.bx 0 (s1.1++putI j3.2.1)]) (.rs 3 0 1 0 ((s1.1++putI j3.2.1).length)) [byteE.bx 1 ([]:List UInt8),byteE.bx 0 j3.2.2, .cells false 0 ([vs e1.name,vs e1.val]),byteE.bx 0 (s1.1++putI j3.2.1)] (.fork (
.callr (some 50) (ΔF3 25 [.rs 3 0 1 0 ((s1.1++putI j3.2.1).length),vn .u64 ((e1.name.size:Int) - j3.2.1)] [byteE.bx 1 ([]:List UInt8),byteE.bx 0 j3.2.2, .cells false 0 ([vs e1.name,vs e1.val]),byteE.bx 0 (s1.1++putI j3.2.1)] (.rs 4 0 1 0 (((s1.1++putI j3.2.1)++putI ((e1.name.size:Int) - j3.2.1)).length)) [byteE.bx 1 ([]:List UInt8),byteE.bx 0 j3.2.2, .cells false 0 ([vs e1.name,vs e1.val]),byteE.bx 1 ([]:List UInt8),byteE.bx 0 ((s1.1++putI j3.2.1)++putI ((e1.name.size:Int) - j3.2.1))]) (.rs 4 0 1 0 (((s1.1++putI j3.2.1)++putI ((e1.name.size:Int) - j3.2.1)).length)) [byteE.bx 1 ([]:List UInt8),byteE.bx 0 j3.2.2, .cells false 0 ([vs e1.name,vs e1.val]),byteE.bx 1 ([]:List UInt8),byteE.bx 0 ((s1.1++putI j3.2.1)++putI ((e1.name.size:Int) - j3.2.1))] (.int 54 (IntKind.u64.wrap ((e1.val.size:Int))) ((e1.val.size:Int)) (.callr (some 55) (ΔF3 25 [.rs 4 0 1 0 (((s1.1++putI j3.2.1)++putI ((e1.name.size:Int) - j3.2.1)).length),vn .u64 (e1.val.size:Int)] [byteE.bx 1 ([]:List UInt8),byteE.bx 0 j3.2.2, .cells false 0 ([vs e1.name,vs e1.val]),byteE.bx 1 ([]:List UInt8),byteE.bx 0 ((s1.1++putI j3.2.1)++putI ((e1.name.size:Int) - j3.2.1))] (.rs 5 0 1 0 ((((s1.1++putI j3.2.1)++putI ((e1.name.size:Int) - j3.2.1))++putI (e1.val.size:Int)).length)) [byteE.bx 1 ([]:List UInt8),byteE.bx 0 j3.2.2, .cells false 0 ([vs e1.name,vs e1.val]),byteE.bx 1 ([]:List UInt8),byteE.bx 1 ([]:List UInt8),byteE.bx 0 (((s1.1++putI j3.2.1)++putI ((e1.name.size:Int) - j3.2.1))++putI (e1.val.size:Int))]) (.rs 5 0 1 0 ((((s1.1++putI j3.2.1)++putI ((e1.name.size:Int) - j3.2.1))++putI (e1.val.size:Int)).length)) [byteE.bx 1 ([]:List UInt8),byteE.bx 0 j3.2.2, .cells false 0 ([vs e1.name,vs e1.val]),byteE.bx 1 ([]:List UInt8),byteE.bx 1 ([]:List UInt8),byteE.bx 0 (((s1.1++putI j3.2.1)++putI ((e1.name.size:Int) - j3.2.1))++putI (e1.val.size:Int))] (.join ⟨[4,5,6,9,10,11,12,13],[(5,0,some ((((s1.1++putI j3.2.1)++putI ((e1.name.size:Int) - j3.2.1))++putI (e1.val.size:Int)).map byteE.f)),(1,0,some (j3.2.2.map byteE.f)),(2,0,none)]⟩ [rowC ((((s1.1++putI j3.2.1)++putI ((e1.name.size:Int) - j3.2.1))++putI (e1.val.size:Int)).map byteE.f),rowC (j3.2.2.map byteE.f)] (some (TMkP_j4_e L s1 e1 j3 (((s1.1++putI j3.2.1)++putI ((e1.name.size:Int) - j3.2.1))++putI (e1.val.size:Int)))) (TMkP_j4_e L s1 e1 j3) (((s1.1++putI j3.2.1)++putI ((e1.name.size:Int) - j3.2.1))++putI (e1.val.size:Int)) (TMkP_j4 L s1 e1 j3))))) (
.callr (some 50) (ΔF3 25 [.rs 3 0 1 0 ((s1.1++putI j3.2.1).length),vn .u64 ((e1.name.size:Int) - j3.2.1)] [byteE.bx 1 ([]:List UInt8),byteE.bx 0 j3.2.2, .cells false 0 ([vs e1.name,vs e1.val]),byteE.bx 0 (s1.1++putI j3.2.1)] (.rs 4 0 1 0 (((s1.1++putI j3.2.1)++putI ((e1.name.size:Int) - j3.2.1)).length)) [byteE.bx 1 ([]:List UInt8),byteE.bx 0 j3.2.2, .cells false 0 ([vs e1.name,vs e1.val]),byteE.bx 1 ([]:List UInt8),byteE.bx 0 ((s1.1++putI j3.2.1)++putI ((e1.name.size:Int) - j3.2.1))]) (.rs 4 0 1 0 (((s1.1++putI j3.2.1)++putI ((e1.name.size:Int) - j3.2.1)).length)) [byteE.bx 1 ([]:List UInt8),byteE.bx 0 j3.2.2, .cells false 0 ([vs e1.name,vs e1.val]),byteE.bx 1 ([]:List UInt8),byteE.bx 0 ((s1.1++putI j3.2.1)++putI ((e1.name.size:Int) - j3.2.1))] (.int 54 (IntKind.u64.wrap ((e1.val.size:Int))) ((e1.val.size:Int)) (.callr (some 55) (ΔF3 25 [.rs 4 0 1 0 (((s1.1++putI j3.2.1)++putI ((e1.name.size:Int) - j3.2.1)).length),vn .u64 (e1.val.size:Int)] [byteE.bx 1 ([]:List UInt8),byteE.bx 0 j3.2.2, .cells false 0 ([vs e1.name,vs e1.val]),byteE.bx 1 ([]:List UInt8),byteE.bx 0 ((s1.1++putI j3.2.1)++putI ((e1.name.size:Int) - j3.2.1))] (.rs 5 0 1 0 ((((s1.1++putI j3.2.1)++putI ((e1.name.size:Int) - j3.2.1))++putI (e1.val.size:Int)).length)) [byteE.bx 1 ([]:List UInt8),byteE.bx 0 j3.2.2, .cells false 0 ([vs e1.name,vs e1.val]),byteE.bx 1 ([]:List UInt8),byteE.bx 1 ([]:List UInt8),byteE.bx 0 (((s1.1++putI j3.2.1)++putI ((e1.name.size:Int) - j3.2.1))++putI (e1.val.size:Int))]) (.rs 5 0 1 0 ((((s1.1++putI j3.2.1)++putI ((e1.name.size:Int) - j3.2.1))++putI (e1.val.size:Int)).length)) [byteE.bx 1 ([]:List UInt8),byteE.bx 0 j3.2.2, .cells false 0 ([vs e1.name,vs e1.val]),byteE.bx 1 ([]:List UInt8),byteE.bx 1 ([]:List UInt8),byteE.bx 0 (((s1.1++putI j3.2.1)++putI ((e1.name.size:Int) - j3.2.1))++putI (e1.val.size:Int))] (.join ⟨[4,5,6,9,10,11,12,13],[(5,0,some ((((s1.1++putI j3.2.1)++putI ((e1.name.size:Int) - j3.2.1))++putI (e1.val.size:Int)).map byteE.f)),(1,0,some (j3.2.2.map byteE.f)),(2,0,none)]⟩ [rowC ((((s1.1++putI j3.2.1)++putI ((e1.name.size:Int) - j3.2.1))++putI (e1.val.size:Int)).map byteE.f),rowC (j3.2.2.map byteE.f)] (some (TMkP_j4_e L s1 e1 j3 (((s1.1++putI j3.2.1)++putI ((e1.name.size:Int) - j3.2.1))++putI (e1.val.size:Int)))) (TMkP_j4_e L s1 e1 j3) (((s1.1++putI j3.2.1)++putI ((e1.name.size:Int) - j3.2.1))++putI (e1.val.size:Int)) (TMkP_j4 L s1 e1 j3))))))) (
.callr (some 43) (ΔF3 25 [.rs 0 0 1 0 s1.1.length,vn .u64 j3.2.1] [byteE.bx 0 s1.1,byteE.bx 0 j3.2.2, .cells false 0 ([vs e1.name,vs e1.val])] (.rs 3 0 1 0 ((s1.1++putI j3.2.1).length)) [byteE.bx 1 ([]:List UInt8),byteE.bx 0 j3.2.2, .cells false 0 ([vs e1.name,vs e1.val]),byteE.bx 0 (s1.1++putI j3.2.1)]) (.rs 3 0 1 0 ((s1.1++putI j3.2.1).length)) [byteE.bx 1 ([]:List UInt8),byteE.bx 0 j3.2.2, .cells false 0 ([vs e1.name,vs e1.val]),byteE.bx 0 (s1.1++putI j3.2.1)] (.callr (some 50) (ΔF3 25 [.rs 3 0 1 0 ((s1.1++putI j3.2.1).length),vn .u64 ((e1.name.size:Int) - j3.2.1)] [byteE.bx 1 ([]:List UInt8),byteE.bx 0 j3.2.2, .cells false 0 ([vs e1.name,vs e1.val]),byteE.bx 0 (s1.1++putI j3.2.1)] (.rs 4 0 1 0 (((s1.1++putI j3.2.1)++putI ((e1.name.size:Int) - j3.2.1)).length)) [byteE.bx 1 ([]:List UInt8),byteE.bx 0 j3.2.2, .cells false 0 ([vs e1.name,vs e1.val]),byteE.bx 1 ([]:List UInt8),byteE.bx 0 ((s1.1++putI j3.2.1)++putI ((e1.name.size:Int) - j3.2.1))]) (.rs 4 0 1 0 (((s1.1++putI j3.2.1)++putI ((e1.name.size:Int) - j3.2.1)).length)) [byteE.bx 1 ([]:List UInt8),byteE.bx 0 j3.2.2, .cells false 0 ([vs e1.name,vs e1.val]),byteE.bx 1 ([]:List UInt8),byteE.bx 0 ((s1.1++putI j3.2.1)++putI ((e1.name.size:Int) - j3.2.1))] (.int 54 (IntKind.u64.wrap ((e1.val.size:Int))) ((e1.val.size:Int)) (.callr (some 55) (ΔF3 25 [.rs 4 0 1 0 (((s1.1++putI j3.2.1)++putI ((e1.name.size:Int) - j3.2.1)).length),vn .u64 (e1.val.size:Int)] [byteE.bx 1 ([]:List UInt8),byteE.bx 0 j3.2.2, .cells false 0 ([vs e1.name,vs e1.val]),byteE.bx 1 ([]:List UInt8),byteE.bx 0 ((s1.1++putI j3.2.1)++putI ((e1.name.size:Int) - j3.2.1))] (.rs 5 0 1 0 ((((s1.1++putI j3.2.1)++putI ((e1.name.size:Int) - j3.2.1))++putI (e1.val.size:Int)).length)) [byteE.bx 1 ([]:List UInt8),byteE.bx 0 j3.2.2, .cells false 0 ([vs e1.name,vs e1.val]),byteE.bx 1 ([]:List UInt8),byteE.bx 1 ([]:List UInt8),byteE.bx 0 (((s1.1++putI j3.2.1)++putI ((e1.name.size:Int) - j3.2.1))++putI (e1.val.size:Int))]) (.rs 5 0 1 0 ((((s1.1++putI j3.2.1)++putI ((e1.name.size:Int) - j3.2.1))++putI (e1.val.size:Int)).length)) [byteE.bx 1 ([]:List UInt8),byteE.bx 0 j3.2.2, .cells false 0 ([vs e1.name,vs e1.val]),byteE.bx 1 ([]:List UInt8),byteE.bx 1 ([]:List UInt8),byteE.bx 0 (((s1.1++putI j3.2.1)++putI ((e1.name.size:Int) - j3.2.1))++putI (e1.val.size:Int))] (.join ⟨[4,5,6,9,10,11,12,13],[(5,0,some ((((s1.1++putI j3.2.1)++putI ((e1.name.size:Int) - j3.2.1))++putI (e1.val.size:Int)).map byteE.f)),(1,0,some (j3.2.2.map byteE.f)),(2,0,none)]⟩ [rowC ((((s1.1++putI j3.2.1)++putI ((e1.name.size:Int) - j3.2.1))++putI (e1.val.size:Int)).map byteE.f),rowC (j3.2.2.map byteE.f)] (some (TMkP_j4_e L s1 e1 j3 (((s1.1++putI j3.2.1)++putI ((e1.name.size:Int) - j3.2.1))++putI (e1.val.size:Int)))) (TMkP_j4_e L s1 e1 j3) (((s1.1++putI j3.2.1)++putI ((e1.name.size:Int) - j3.2.1))++putI (e1.val.size:Int)) (TMkP_j4 L s1 e1 j3))))))))) (
.int 54 (IntKind.u64.wrap ((e1.val.size:Int))) ((e1.val.size:Int)) (.fork (
.callr (some 43) (ΔF3 25 [.rs 0 0 1 0 s1.1.length,vn .u64 j3.2.1] [byteE.bx 0 s1.1,byteE.bx 0 j3.2.2, .cells false 0 ([vs e1.name,vs e1.val])] (.rs 3 0 1 0 ((s1.1++putI j3.2.1).length)) [byteE.bx 1 ([]:List UInt8),byteE.bx 0 j3.2.2, .cells false 0 ([vs e1.name,vs e1.val]),byteE.bx 0 (s1.1++putI j3.2.1)]) (.rs 3 0 1 0 ((s1.1++putI j3.2.1).length)) [byteE.bx 1 ([]:List UInt8),byteE.bx 0 j3.2.2, .cells false 0 ([vs e1.name,vs e1.val]),byteE.bx 0 (s1.1++putI j3.2.1)] (.int 48 (IntKind.i64.wrap ((e1.name.size:Int) - j3.2.1)) ((e1.name.size:Int) - j3.2.1) (.int 49 (IntKind.u64.wrap ((e1.name.size:Int) - j3.2.1)) ((e1.name.size:Int) - j3.2.1) (.callr (some 50) (ΔF3 25 [.rs 3 0 1 0 ((s1.1++putI j3.2.1).length),vn .u64 ((e1.name.size:Int) - j3.2.1)] [byteE.bx 1 ([]:List UInt8),byteE.bx 0 j3.2.2, .cells false 0 ([vs e1.name,vs e1.val]),byteE.bx 0 (s1.1++putI j3.2.1)] (.rs 4 0 1 0 (((s1.1++putI j3.2.1)++putI ((e1.name.size:Int) - j3.2.1)).length)) [byteE.bx 1 ([]:List UInt8),byteE.bx 0 j3.2.2, .cells false 0 ([vs e1.name,vs e1.val]),byteE.bx 1 ([]:List UInt8),byteE.bx 0 ((s1.1++putI j3.2.1)++putI ((e1.name.size:Int) - j3.2.1))]) (.rs 4 0 1 0 (((s1.1++putI j3.2.1)++putI ((e1.name.size:Int) - j3.2.1)).length)) [byteE.bx 1 ([]:List UInt8),byteE.bx 0 j3.2.2, .cells false 0 ([vs e1.name,vs e1.val]),byteE.bx 1 ([]:List UInt8),byteE.bx 0 ((s1.1++putI j3.2.1)++putI ((e1.name.size:Int) - j3.2.1))] (.callr (some 55) (ΔF3 25 [.rs 4 0 1 0 (((s1.1++putI j3.2.1)++putI ((e1.name.size:Int) - j3.2.1)).length),vn .u64 (e1.val.size:Int)] [byteE.bx 1 ([]:List UInt8),byteE.bx 0 j3.2.2, .cells false 0 ([vs e1.name,vs e1.val]),byteE.bx 1 ([]:List UInt8),byteE.bx 0 ((s1.1++putI j3.2.1)++putI ((e1.name.size:Int) - j3.2.1))] (.rs 5 0 1 0 ((((s1.1++putI j3.2.1)++putI ((e1.name.size:Int) - j3.2.1))++putI (e1.val.size:Int)).length)) [byteE.bx 1 ([]:List UInt8),byteE.bx 0 j3.2.2, .cells false 0 ([vs e1.name,vs e1.val]),byteE.bx 1 ([]:List UInt8),byteE.bx 1 ([]:List UInt8),byteE.bx 0 (((s1.1++putI j3.2.1)++putI ((e1.name.size:Int) - j3.2.1))++putI (e1.val.size:Int))]) (.rs 5 0 1 0 ((((s1.1++putI j3.2.1)++putI ((e1.name.size:Int) - j3.2.1))++putI (e1.val.size:Int)).length)) [byteE.bx 1 ([]:List UInt8),byteE.bx 0 j3.2.2, .cells false 0 ([vs e1.name,vs e1.val]),byteE.bx 1 ([]:List UInt8),byteE.bx 1 ([]:List UInt8),byteE.bx 0 (((s1.1++putI j3.2.1)++putI ((e1.name.size:Int) - j3.2.1))++putI (e1.val.size:Int))] (.join ⟨[4,5,6,9,10,11,12,13],[(5,0,some ((((s1.1++putI j3.2.1)++putI ((e1.name.size:Int) - j3.2.1))++putI (e1.val.size:Int)).map byteE.f)),(1,0,some (j3.2.2.map byteE.f)),(2,0,none)]⟩ [rowC ((((s1.1++putI j3.2.1)++putI ((e1.name.size:Int) - j3.2.1))++putI (e1.val.size:Int)).map byteE.f),rowC (j3.2.2.map byteE.f)] (some (TMkP_j4_e L s1 e1 j3 (((s1.1++putI j3.2.1)++putI ((e1.name.size:Int) - j3.2.1))++putI (e1.val.size:Int)))) (TMkP_j4_e L s1 e1 j3) (((s1.1++putI j3.2.1)++putI ((e1.name.size:Int) - j3.2.1))++putI (e1.val.size:Int)) (TMkP_j4 L s1 e1 j3))))))) (
.callr (some 43) (ΔF3 25 [.rs 0 0 1 0 s1.1.length,vn .u64 j3.2.1] [byteE.bx 0 s1.1,byteE.bx 0 j3.2.2, .cells false 0 ([vs e1.name,vs e1.val])] (.rs 3 0 1 0 ((s1.1++putI j3.2.1).length)) [byteE.bx 1 ([]:List UInt8),byteE.bx 0 j3.2.2, .cells false 0 ([vs e1.name,vs e1.val]),byteE.bx 0 (s1.1++putI j3.2.1)]) (.rs 3 0 1 0 ((s1.1++putI j3.2.1).length)) [byteE.bx 1 ([]:List UInt8),byteE.bx 0 j3.2.2, .cells false 0 ([vs e1.name,vs e1.val]),byteE.bx 0 (s1.1++putI j3.2.1)] (.int 48 (IntKind.i64.wrap ((e1.name.size:Int) - j3.2.1)) ((e1.name.size:Int) - j3.2.1) (.int 49 (IntKind.u64.wrap ((e1.name.size:Int) - j3.2.1)) ((e1.name.size:Int) - j3.2.1) (.callr (some 50) (ΔF3 25 [.rs 3 0 1 0 ((s1.1++putI j3.2.1).length),vn .u64 ((e1.name.size:Int) - j3.2.1)] [byteE.bx 1 ([]:List UInt8),byteE.bx 0 j3.2.2, .cells false 0 ([vs e1.name,vs e1.val]),byteE.bx 0 (s1.1++putI j3.2.1)] (.rs 4 0 1 0 (((s1.1++putI j3.2.1)++putI ((e1.name.size:Int) - j3.2.1)).length)) [byteE.bx 1 ([]:List UInt8),byteE.bx 0 j3.2.2, .cells false 0 ([vs e1.name,vs e1.val]),byteE.bx 1 ([]:List UInt8),byteE.bx 0 ((s1.1++putI j3.2.1)++putI ((e1.name.size:Int) - j3.2.1))]) (.rs 4 0 1 0 (((s1.1++putI j3.2.1)++putI ((e1.name.size:Int) - j3.2.1)).length)) [byteE.bx 1 ([]:List UInt8),byteE.bx 0 j3.2.2, .cells false 0 ([vs e1.name,vs e1.val]),byteE.bx 1 ([]:List UInt8),byteE.bx 0 ((s1.1++putI j3.2.1)++putI ((e1.name.size:Int) - j3.2.1))] (.callr (some 55) (ΔF3 25 [.rs 4 0 1 0 (((s1.1++putI j3.2.1)++putI ((e1.name.size:Int) - j3.2.1)).length),vn .u64 (e1.val.size:Int)] [byteE.bx 1 ([]:List UInt8),byteE.bx 0 j3.2.2, .cells false 0 ([vs e1.name,vs e1.val]),byteE.bx 1 ([]:List UInt8),byteE.bx 0 ((s1.1++putI j3.2.1)++putI ((e1.name.size:Int) - j3.2.1))] (.rs 5 0 1 0 ((((s1.1++putI j3.2.1)++putI ((e1.name.size:Int) - j3.2.1))++putI (e1.val.size:Int)).length)) [byteE.bx 1 ([]:List UInt8),byteE.bx 0 j3.2.2, .cells false 0 ([vs e1.name,vs e1.val]),byteE.bx 1 ([]:List UInt8),byteE.bx 1 ([]:List UInt8),byteE.bx 0 (((s1.1++putI j3.2.1)++putI ((e1.name.size:Int) - j3.2.1))++putI (e1.val.size:Int))]) (.rs 5 0 1 0 ((((s1.1++putI j3.2.1)++putI ((e1.name.size:Int) - j3.2.1))++putI (e1.val.size:Int)).length)) [byteE.bx 1 ([]:List UInt8),byteE.bx 0 j3.2.2, .cells false 0 ([vs e1.name,vs e1.val]),byteE.bx 1 ([]:List UInt8),byteE.bx 1 ([]:List UInt8),byteE.bx 0 (((s1.1++putI j3.2.1)++putI ((e1.name.size:Int) - j3.2.1))++putI (e1.val.size:Int))] (.join ⟨[4,5,6,9,10,11,12,13],[(5,0,some ((((s1.1++putI j3.2.1)++putI ((e1.name.size:Int) - j3.2.1))++putI (e1.val.size:Int)).map byteE.f)),(1,0,some (j3.2.2.map byteE.f)),(2,0,none)]⟩ [rowC ((((s1.1++putI j3.2.1)++putI ((e1.name.size:Int) - j3.2.1))++putI (e1.val.size:Int)).map byteE.f),rowC (j3.2.2.map byteE.f)] (some (TMkP_j4_e L s1 e1 j3 (((s1.1++putI j3.2.1)++putI ((e1.name.size:Int) - j3.2.1))++putI (e1.val.size:Int)))) (TMkP_j4_e L s1 e1 j3) (((s1.1++putI j3.2.1)++putI ((e1.name.size:Int) - j3.2.1))++putI (e1.val.size:Int)) (TMkP_j4 L s1 e1 j3))))))))))))
noncomputable def TMkP_j2 (L:List Par) (s1:(List UInt8)×(List UInt8)×Int×Int×ByteArray) (e1:Par) (j2:Bool):Tree:=
.br j2 (
.leaf ⟨[2,3],[]⟩ [] .ret (some (TMkP_l1_x 1).2)) (
.sp 28 ((Int.tmod s1.2.2.1 8) == (0:Int)) (
.int 32 (IntKind.u64.wrap (((s1.1.length:Nat):Int))) (((s1.1.length:Nat):Int)) (.callr (some 33) (ΔF3 28 [.rs 1 0 1 0 s1.2.1.length,vn .u64 ((s1.1.length:Nat):Int),vi 4] [byteE.bx 0 s1.1,byteE.bx 0 s1.2.1, .cells false 0 ([vs e1.name,vs e1.val])] (.rs 3 0 1 0 ((s1.2.1++leI ((s1.1.length:Nat):Int) 4).length)) [byteE.bx 0 s1.1,byteE.bx 1 ([]:List UInt8), .cells false 0 ([vs e1.name,vs e1.val]),byteE.bx 0 (s1.2.1++leI ((s1.1.length:Nat):Int) 4)]) (.rs 3 0 1 0 ((s1.2.1++leI ((s1.1.length:Nat):Int) 4).length)) [byteE.bx 0 s1.1,byteE.bx 1 ([]:List UInt8), .cells false 0 ([vs e1.name,vs e1.val]),byteE.bx 0 (s1.2.1++leI ((s1.1.length:Nat):Int) 4)] (.int 35 (IntKind.i64.wrap (s1.2.2.2.1+1)) (s1.2.2.2.1+1) (.join ⟨[4,5,6,9,10,11,12,13],[(0,0,some (s1.1.map byteE.f)),(3,0,some ((s1.2.1++leI ((s1.1.length:Nat):Int) 4).map byteE.f)),(2,0,none)]⟩ [rowC (s1.1.map byteE.f),rowC ((s1.2.1++leI ((s1.1.length:Nat):Int) 4).map byteE.f)] (some (TMkP_j3_e L s1 e1 (s1.2.2.2.1+1,0,s1.2.1++leI ((s1.1.length:Nat):Int) 4))) (TMkP_j3_e L s1 e1) (s1.2.2.2.1+1,0,s1.2.1++leI ((s1.1.length:Nat):Int) 4) (TMkP_j3 L s1 e1))))) (
.call 39 (gCommon [vs s1.2.2.2.2,vs e1.name]=some (vi ((comN s1.2.2.2.2.data.toList e1.name.data.toList:Nat):Int))) (vi ((comN s1.2.2.2.2.data.toList e1.name.data.toList:Nat):Int)) (.join ⟨[4,5,6,9,10,11,12,13],[(0,0,some (s1.1.map byteE.f)),(1,0,some (s1.2.1.map byteE.f)),(2,0,none)]⟩ [rowC (s1.1.map byteE.f),rowC (s1.2.1.map byteE.f)] (some (TMkP_j3_e L s1 e1 (s1.2.2.2.1,((comN s1.2.2.2.2.data.toList e1.name.data.toList:Nat):Int),s1.2.1))) (TMkP_j3_e L s1 e1) (s1.2.2.2.1,((comN s1.2.2.2.2.data.toList e1.name.data.toList:Nat):Int),s1.2.1) (TMkP_j3 L s1 e1))))
noncomputable def TMkP_l1_b (L:List Par) (s1:(List UInt8)×(List UInt8)×Int×Int×ByteArray):Tree:=
.sp 14 (decide (s1.2.2.1<(L.length:Int))) (
.elem 16 (L.map parE.f) parE L s1.2.2.1 (fun e1=> .sp 19 (decide (s1.2.2.1>(0:Int))) (
.sp 24 (Op.bytesLess e1.name.toList s1.2.2.2.2.toList||(e1.name.toList == s1.2.2.2.2.toList)) (
.join ⟨[4,5,6,7,8,9,11,12,13,25],[(0,0,some (s1.1.map byteE.f)),(1,0,some (s1.2.1.map byteE.f)),(2,0,none)]⟩ [rowC (s1.1.map byteE.f),rowC (s1.2.1.map byteE.f)] (some (TMkP_j2_e L s1 e1 true)) (TMkP_j2_e L s1 e1) true (TMkP_j2 L s1 e1)) (
.join ⟨[4,5,6,7,8,9,11,12,13,25],[(0,0,some (s1.1.map byteE.f)),(1,0,some (s1.2.1.map byteE.f)),(2,0,none)]⟩ [rowC (s1.1.map byteE.f),rowC (s1.2.1.map byteE.f)] (some (TMkP_j2_e L s1 e1 false)) (TMkP_j2_e L s1 e1) false (TMkP_j2 L s1 e1))) (
.join ⟨[4,5,6,7,8,9,11,12,13,25],[(0,0,some (s1.1.map byteE.f)),(1,0,some (s1.2.1.map byteE.f)),(2,0,none)]⟩ [rowC (s1.1.map byteE.f),rowC (s1.2.1.map byteE.f)] (some (TMkP_j2_e L s1 e1 false)) (TMkP_j2_e L s1 e1) false (TMkP_j2 L s1 e1)))) (
.leaf ⟨[4,5,6],[(0,0,some (s1.1.map byteE.f)),(1,0,some (s1.2.1.map byteE.f))]⟩ [rowC (s1.1.map byteE.f),rowC (s1.2.1.map byteE.f)] (.exit 0) (some (TMkP_l1_x' (s1.2.2.2.1,s1.1,s1.2.1)).2))
noncomputable def TMkP (L:List Par):Tree:=
.int 12 ((L.map parE.f).length:Int) (L.length:Int) (.nilrow 4 1 (.nilrow 5 1 (.loop ⟨[4,5,6,7,11,12,13],[(0,0,some (([]:List UInt8).map byteE.f)),(1,0,some (([]:List UInt8).map byteE.f))]⟩ [rowC (([]:List UInt8).map byteE.f),rowC (([]:List UInt8).map byteE.f)] (some (TMkP_l1_e L (([]:List UInt8),([]:List UInt8),0,0,⟨#[]⟩))) (TMkP_l1_e L) (TMkP_l1_x) (TMkP_l1_x') (([]:List UInt8),([]:List UInt8),0,0,⟨#[]⟩) (TMkP_l1_b L) (fun (x1:Int)=> .leaf ⟨[0],[]⟩ [] .ret (some ([(0, .tup [nilS,vi x1])],[]))) (fun (y1:Int×(List UInt8)×(List UInt8))=> .app 73 (.row y1.2.2.length (rowC (y1.2.2.map byteE.f))) y1.2.1.length (rowC (y1.2.1.map byteE.f)) byteE y1.2.1 y1.2.2 (.int 75 (IntKind.u64.wrap (y1.1)) (y1.1) (.callr (some 76) (ΔF3 28 [.rs 0 1 1 0 ((y1.2.1++y1.2.2).length),vn .u64 y1.1,vi 4] [byteE.bx 1 (y1.2.1++y1.2.2),byteE.bx 0 y1.2.2] (.rs 2 0 1 0 (((y1.2.1++y1.2.2)++leI y1.1 4).length)) [byteE.bx 2 ([]:List UInt8),byteE.bx 0 y1.2.2,byteE.bx 0 ((y1.2.1++y1.2.2)++leI y1.1 4)]) (.rs 2 0 1 0 (((y1.2.1++y1.2.2)++leI y1.1 4).length)) [byteE.bx 2 ([]:List UInt8),byteE.bx 0 y1.2.2,byteE.bx 0 ((y1.2.1++y1.2.2)++leI y1.1 4)] (.leaf ⟨[0],[(2,0,some (((y1.2.1++y1.2.2)++leI y1.1 4).map byteE.f))]⟩ [rowC (((y1.2.1++y1.2.2)++leI y1.1 4).map byteE.f)] .ret (some ([(0, .tup [.rs 0 0 1 0 (((y1.2.1++y1.2.2)++leI y1.1 4).length),vi 0])],[byteE.bx 0 ((y1.2.1++y1.2.2)++leI y1.1 4)])))))))))

theorem TMkP_chk (L:List Par):fnC DP ΓF3 ΔF3 Tryz.f21 [vl (L.map parE.f)] [] (TMkP L)=TMkP L:=by kernel_rfl

noncomputable def TOfP_l1_e (L:List Ent) (s1:(List Par)×Int):St:=([(3, .rs 0 0 2 0 s1.1.length),(6,vl (L.map entE.f)),(7,vi (L.length:Int)),(8,vi s1.2)],[parE.bx 0 s1.1])
noncomputable def TOfP_l1_x (x1:(List Par)):AE×St:=((.exit 0),([(3, .rs 0 0 2 0 x1.length)],[parE.bx 0 x1]))
noncomputable def TOfP_l1_b (L:List Ent) (s1:(List Par)×Int):Tree:=
.sp 9 (decide (s1.2<(L.length:Int))) (
.elem 10 (L.map entE.f) entE L s1.2 (fun e1=> .call 14 (gInner [(entE.av e1)]=some (vs (⟨(innB e1).toArray⟩:ByteArray))) (vs (⟨(innB e1).toArray⟩:ByteArray)) (.app 19 (.row 1 ([vs (⟨(innB e1).toArray⟩:ByteArray),vs e1.val])) s1.1.length (rowC (s1.1.map parE.f)) parE s1.1 ([(⟨(⟨(innB e1).toArray⟩:ByteArray),e1.val⟩:Par)]) (.int 20 (IntKind.i64.wrap (s1.2+1)) (s1.2+1) (.leaf ⟨[3,6,7,8],[(0,1,some ((s1.1++([(⟨(⟨(innB e1).toArray⟩:ByteArray),e1.val⟩:Par)])).map parE.f))]⟩ [rowC ((s1.1++([(⟨(⟨(innB e1).toArray⟩:ByteArray),e1.val⟩:Par)])).map parE.f)] .normal (some (TOfP_l1_e L (s1.1++([(⟨(⟨(innB e1).toArray⟩:ByteArray),e1.val⟩:Par)]),s1.2+1)))))))) (
.leaf ⟨[3],[(0,0,some (s1.1.map parE.f))]⟩ [rowC (s1.1.map parE.f)] (.exit 0) (some (TOfP_l1_x s1.1).2))
noncomputable def TOfP (L:List Ent):Tree:=
.int 7 ((L.map entE.f).length:Int) (L.length:Int) (.nilrow 3 2 (.loop ⟨[3,6,7,8],[(0,0,some (([]:List Par).map parE.f))]⟩ [rowC (([]:List Par).map parE.f)] (some (TOfP_l1_e L (([]:List Par),0))) (TOfP_l1_e L) (TOfP_l1_x) noX (([]:List Par),0) (TOfP_l1_b L) (fun (x1:(List Par))=> .leaf ⟨[0],[(0,0,some (x1.map parE.f))]⟩ [rowC (x1.map parE.f)] .ret (some ([(0, .rs 0 0 2 0 x1.length)],[parE.bx 0 x1]))) (fun _=> .stuck)))

theorem TOfP_chk (L:List Ent):fnC DP ΓF4 Δ0 Tryz.f22 [vl (L.map entE.f)] [] (TOfP L)=TOfP L:=by kernel_rfl

end Go.Ax

namespace Go.Ax
open Go.Proofs Go.RowKit
set_option maxRecDepth 100000

theorem ΓF4_ok:∀ f,SoundF DP f (ΓF4 f):=envP_cons SInner envP_nil
def InOk (x:Ent):Prop:=(0≤x.seq∧x.seq<18446744073709551616)∧x.key.size≤400000000
theorem of_rounds (L:List Ent) (hL:∀ x∈L,InOk x) (hN:L.length≤1000000000):∀ (j i:Nat),i+j=L.length→Rounds (TOfP_l1_e L) TOfP_l1_x noX (fun s=>(TOfP_l1_b L s).wp) ((L.take i).map ofE,(i:Int)) (.inl (L.map ofE)):=by
 intro j
 induction j with
 | zero=>
  intro i hi
  rw[List.take_of_length_le (by omega)]
  refine .done (by intro e; cases e) ?_
  unfold TOfP_l1_b
  exact wp_sp (fun h'=>absurd (of_decide_eq_true h') (by simp only; omega)) (fun _=>wp_leaf rfl ⟨rfl,rfl⟩)
 | succ j ih=>
  intro i hi
  obtain ⟨a,ha,ht⟩:=get_snoc (l:=L) (i:=i) (by omega)
  have hm:a∈L:=List.mem_of_getElem? ha
  have hr:=ih (i+1) (by omega)
  rw[ht,List.map_append,List.map_cons,List.map_nil,show ((i+1:Nat):Int)=(i:Int)+1 by omega] at hr
  refine .next ?_ hr
  unfold TOfP_l1_b
  have hl:((List.take i L).map ofE).length≤i:=by rw[List.length_map,List.length_take]; omega
  exact wp_sp (fun _=>wp_elem a (by simp only; omega) (by simpa using ha) (wp_call (gInner_eq a (hL a hm).1 (hL a hm).2) (wp_app ⟨rfl,rfl⟩ rfl (by simp only[List.length_append,List.length_singleton]; omega) (wp_i64 (by simp only; omega) (wp_leaf rfl ⟨rfl,rfl⟩))))) (fun h'=>absurd (of_decide_eq_false h') (by simp only; omega))
def ROfP:List AV→AV→Prop:=fun args r=>∃ L:List Ent,(∀ x∈L,InOk x)∧L.length≤1000000000∧args= [vl (L.map entE.f)]∧r=vl ((L.map ofE).map parE.f)
noncomputable def gOfP:=relG ROfP
theorem SOfP:SoundF DP iOfP (.pure gOfP):=sound_pureT mixedD ΓF4_ok Δ0_ok hfOfP heOfP hbOfP (by
 rintro args r ⟨L,hL,hN,rfl,rfl⟩
 refine ⟨rfl,rfl,_,TOfP_chk L,?_⟩
 unfold TOfP
 have hr:=of_rounds L hL hN L.length 0 (by omega)
 exact wp_len (wp_nilrow (wp_loop _ rfl hr (wp_leaf rfl (parE.elt.sealed trivial rfl)))))
theorem entf_inj {x y:Ent} (e:entE.f x=entE.f y):x=y:=ent_inj (by
 have:(entE.f x).cells=(entE.f y).cells:=by rw[e]
 show AV.agg ((entE.f x).cells.map AV.p)=AV.agg ((entE.f y).cells.map AV.p)
 rw[this])
theorem ents_inj {L M:List Ent} (h:L.map entE.f=M.map entE.f):L=M:=(List.map_inj_right (fun x y e=>entf_inj e)).1 h
theorem gOfP_eq {L:List Ent} (hL:∀ x∈L,InOk x) (hN:L.length≤1000000000):gOfP [vl (L.map entE.f)]=some (vl ((L.map ofE).map parE.f)):=relG_eq (by
 rintro args r r' ⟨a,_,_,h1,rfl⟩ ⟨b,_,_,h2,rfl⟩
 have h:=one_arg' (h1.symm.trans h2)
 simp only[AV.p.injEq,PV.ls.injEq] at h
 rw[ents_inj h]) ⟨L,hL,hN,rfl,rfl⟩
end Go.Ax
