/- A change of its inner name: the contract. -/
import Derived.Test.YtddkloofiknjdaaDoorG11
set_option linter.unusedVariables false
set_option linter.unusedSimpArgs false
set_option linter.unusedSectionVars false
namespace Go.Ax
open Go.Proofs Go.RowKit
set_option maxRecDepth 100000

theorem Hh {S:Nat→Prop} {B:List Box} {l:List AV} (h:∀ x∈l,Sealed S B x x):∀ (j:Nat) (c d:AV),l[j]? = some c→l[j]? = some d→Sealed S B c d:=fun j c d h1 h2=>by
 rw[h1] at h2
 cases h2
 exact h c (List.mem_of_getElem? h1)
theorem S6 {S:Nat→Prop} {B:List Box} {l:List PV}:∀ x∈l.map AV.p,Sealed S B x x:=fun x hx=>by
 obtain ⟨y,_,rfl⟩:=List.mem_map.1 hx
 exact .p y
theorem Ma {S:Nat→Prop} {B:List Box} (x:Ent) (e:Int):Sealed S B (.tup [AB.av x,vi e]) (.tup [AB.av x,vi e]):= .tup _ _ rfl (Hh (fun y hy=>by
 rcases List.mem_cons.1 hy with rfl | hy
 ·exact .agg _ _ rfl (Hh (S6 (l:= [.v (.string x.key), .v (.int .u64 x.seq), .v (.bool x.del), .v (.string x.val)])))
 ·rcases List.mem_cons.1 hy with rfl | hy
  ·exact .p _
  ·cases hy))
def qM:List AV→AV→Prop:=fun args r=>∃ s:ByteArray,s.size≤1000000000∧args= [vs s]∧r= .tup [AB.av (BG s.data.toList).1,vi (BG s.data.toList).2]
noncomputable def Le:=B4 qM
theorem wg {a:Int} (ha:0≤a∧a<18446744073709551616):IntKind.u64.wrap ((BitVec.ofInt IntKind.u64.bits a &&& BitVec.ofInt IntKind.u64.bits 1).toNat)=a % 2:=Vx (k:= .u64) (m:=1) rfl (by decide) ⟨ha.1,by show a.toNat<18446744073709551616; omega⟩
theorem wh (a:Int):Int.fdiv a (2 ^ 1)=a / 2:=KN 2 (by decide)
def qN (p:List UInt8) (n:Nat):Ent:=⟨⟨p.toArray⟩,(18446744073709551615 - (n:Int)) / 2,((18446744073709551615 - (n:Int)) % 2) == (0:Int),⟨#[]⟩⟩
theorem eh:SoundF DP Nl (.pure Le):=A6 AZ ΓF1_ok qL mc md me (by
 rintro args r ⟨s,hN,rfl,rfl⟩
 refine ⟨rfl,rfl,_,bW s,?_⟩
 have hr:=bZ s hN _ _ 0 [] (Nat.le_refl _) List.drop_zero (Nat.zero_add _) (Nat.le_refl _)
 unfold WP
 refine DM ?_
 cases ho:Co s.data.toList with
 | none=>
  rw[ho] at hr
  have hI:BG s.data.toList=(Ag,2):=by unfold BG; rw[ho]
  rw[hI]
  exact BH () rfl hr (wp_leaf rfl (Ma Ag 2))
 | some q=>
  obtain ⟨p,t⟩:=q
  rw[ho] at hr
  obtain ⟨g1,g2,g3⟩:=QS _ p t ho
  have hsz:s.data.toList.length=s.size:=rfl
  have hr':Rounds (FL s) GG (Fk s) (fun z=>(DJ s z).wp) ([],0) (.inr ((s.size:Int) - t.length,p)):=hr
  have ht:(s.size:Int) - ((s.size:Int) - t.length)=t.length:=by omega
  refine Dk _ rfl hr' (AP (by simp only; omega) (AC (fun h=>?_) (fun h=>?_)))
  ·have hI:BG s.data.toList=(Ag,2):=by
    unfold BG
    rw[ho]
    simp only
    rw[if_pos]
    intro e
    simp only[ht,bne_iff_ne,ne_eq] at h
    exact h (by omega)
   rw[hI]
   exact wp_leaf rfl (Ma Ag 2)
  ·have h10:t.length=10:=by
    simp only[ht,bne_eq_false_iff_eq] at h
    omega
   have e8:(s.extract (A8 (some ((s.size:Int) - t.length+2))) (Be none s.size)).data.toList=t.drop 2:=by
    rw[ByteArray.data_extract,Array.toList_extract,List.extract_eq_take_drop]
    show List.take (s.size - Int.toNat ((s.size:Int) - t.length+2)) (s.data.toList.drop (Int.toNat ((s.size:Int) - t.length+2)))=_
    have e:Int.toNat ((s.size:Int) - t.length+2)=(s.data.toList.length - t.length)+2:=by omega
    rw[e,←List.drop_drop,g2,List.take_of_length_le (by rw[List.length_drop]; omega)]
   have eb:Ds (t.drop 2)=((CG (t.drop 2):Nat):Int):=by
    unfold Ds
    rw[List.take_of_length_le (by rw[List.length_drop]; omega)]
   have hb:=Za (t.drop 2)
   rw[show (t.drop 2).length=8 by rw[List.length_drop,h10]] at hb
   have hb':CG (t.drop 2)<18446744073709551616:=hb
   have hE:(⟨(⟨p.toArray⟩:ByteArray),(18446744073709551615 - ((CG (t.drop 2):Nat):Int)) / 2,(((18446744073709551615 - ((CG (t.drop 2):Nat):Int)) % 2) == (0:Int)),(⟨#[]⟩:ByteArray)⟩:Ent)=⟨⟨p.toArray⟩,((18446744073709551615 - CG (t.drop 2)) / 2:Nat),decide ((18446744073709551615 - CG (t.drop 2)) % 2=0),⟨#[]⟩⟩:=by
    congr 1
    ·omega
    ·rw[Bool.eq_iff_iff,beq_iff_eq,decide_eq_true_eq]
     omega
   simp only[e8,eb]
   have hX:0≤18446744073709551615 - ((CG (t.drop 2):Nat):Int)∧18446744073709551615 - ((CG (t.drop 2):Nat):Int)<18446744073709551616:=by omega
   refine AP (by omega) (Gg (by simp only[CE]; omega) (Ju ?_))
   refine AM ?_ (Ai (WQ (by omega)) (O4 (Ai (wh _) (Ai (wg hX) (Ac (Jt (qN p (CG (t.drop 2)))) (AC (fun hc=>?_) (fun hc=>?_)))))))
   ·have:=wd (B:= [.cells false 0 ([vs (⟨#[]⟩),vn .u64 0,vb false,vs (⟨#[]⟩)]),AA.bx 0 p,AA.bx 0 (t.drop 2)]) (k:=2) (v:=0) (b:=t.drop 2) rfl
    rw[eb] at this
    exact this
   ·have hI:BG s.data.toList=(Ag,2):=by
     unfold BG
     rw[ho]
     simp only
     rw[if_neg (by simp[h10]),if_pos]
     rw[←hE]
     simpa using hc
    rw[hI]
    exact wp_leaf rfl (Ma Ag 2)
   ·have hI:BG s.data.toList=(⟨(⟨p.toArray⟩:ByteArray),(18446744073709551615 - ((CG (t.drop 2):Nat):Int)) / 2,(((18446744073709551615 - ((CG (t.drop 2):Nat):Int)) % 2) == (0:Int)),(⟨#[]⟩:ByteArray)⟩,0):=by
     rw[hE]
     unfold BG
     rw[ho]
     simp only
     rw[if_neg (by simp[h10]),if_neg]
     rw[←hE]
     simpa using hc
    rw[hI]
    exact wp_leaf rfl (Ma (qN p (CG (t.drop 2))) 0))
theorem Tr (s:ByteArray) (h:s.size≤1000000000):Le [vs s]=some (.tup [AB.av (BG s.data.toList).1,vi (BG s.data.toList).2]):=BT (by
 rintro args r r' ⟨a,_,h1,rfl⟩ ⟨b,_,h2,rfl⟩
 rw[h1] at h2
 simp at h2
 rw[h2]) ⟨s,h,rfl,rfl⟩

noncomputable def ΓF3:BF:=DG [(O3,O5)]
noncomputable def FH:CB:=CZ [(KO,AX RH),(Sf,AX Na)]
noncomputable def ΓF4:BF:=DG [(Ld,Ie)]

abbrev S7:Nat:=59
noncomputable abbrev qO:Func:=Tryd.f59
theorem uZ:DP.funcs[S7]? = some qO:=by kernel_rfl
theorem ua:Ak DP S7=true:=by kernel_rfl
theorem ub:qO.body.isSome=true:=by kernel_rfl
abbrev ba:Nat:=60
noncomputable abbrev qP:Func:=Tryd.f60
theorem ud:DP.funcs[ba]? = some qP:=by kernel_rfl
theorem ue:Ak DP ba=true:=by kernel_rfl
theorem uf:qP.body.isSome=true:=by kernel_rfl
noncomputable def KT (L:List Par) (s1:(List UInt8)×(List UInt8)×Int×Int×ByteArray):St:=([(4, .rs 0 0 1 0 s1.1.length),(5, .rs 1 0 1 0 s1.2.1.length),(6,vi s1.2.2.2.1),(7,vs s1.2.2.2.2),(11,vl (L.map AK.f)),(12,vi (L.length:Int)),(13,vi s1.2.2.1)],[AA.bx 0 s1.1,AA.bx 0 s1.2.1])
noncomputable def KU (x1:Int):AE×St:=(.ret,([(2,AI),(3,vi x1)],[]))
noncomputable def Mb (y1:Int×(List UInt8)×(List UInt8)):AE×St:=((.exit 0),([(4, .rs 0 0 1 0 y1.2.1.length),(5, .rs 1 0 1 0 y1.2.2.length),(6,vi y1.1)],[AA.bx 0 y1.2.1,AA.bx 0 y1.2.2]))
noncomputable def Gh (L:List Par) (s1:(List UInt8)×(List UInt8)×Int×Int×ByteArray) (e1:Par) (j2:Bool):St:=([(4, .rs 0 0 1 0 s1.1.length),(5, .rs 1 0 1 0 s1.2.1.length),(6,vi s1.2.2.2.1),(7,vs s1.2.2.2.2),(8,vi s1.2.2.1),(9, .ptr 2 0 0),(11,vl (L.map AK.f)),(12,vi (L.length:Int)),(13,vi s1.2.2.1),(25,vb j2)],[AA.bx 0 s1.1,AA.bx 0 s1.2.1, .cells false 0 ([vs e1.name,vs e1.val])])
noncomputable def KV (L:List Par) (s1:(List UInt8)×(List UInt8)×Int×Int×ByteArray) (e1:Par) (j3:Int×Int×(List UInt8)):St:=([(4, .rs 0 0 1 0 s1.1.length),(5, .rs 1 0 1 0 j3.2.2.length),(6,vi j3.1),(9, .ptr 2 0 0),(10,vi j3.2.1),(11,vl (L.map AK.f)),(12,vi (L.length:Int)),(13,vi s1.2.2.1)],[AA.bx 0 s1.1,AA.bx 0 j3.2.2, .cells false 0 ([vs e1.name,vs e1.val])])
noncomputable def Cx (L:List Par) (s1:(List UInt8)×(List UInt8)×Int×Int×ByteArray) (e1:Par) (j3:Int×Int×(List UInt8)) (j4:(List UInt8)):St:=([(4, .rs 0 0 1 0 j4.length),(5, .rs 1 0 1 0 j3.2.2.length),(6,vi j3.1),(9, .ptr 2 0 0),(10,vi j3.2.1),(11,vl (L.map AK.f)),(12,vi (L.length:Int)),(13,vi s1.2.2.1)],[AA.bx 0 j4,AA.bx 0 j3.2.2, .cells false 0 ([vs e1.name,vs e1.val])])
noncomputable def KW (L:List Par) (s1:(List UInt8)×(List UInt8)×Int×Int×ByteArray) (e1:Par) (j3:Int×Int×(List UInt8)) (j5:(List UInt8)):St:=([(4, .rs 0 0 1 0 j5.length),(5, .rs 1 0 1 0 j3.2.2.length),(6,vi j3.1),(9, .ptr 2 0 0),(11,vl (L.map AK.f)),(12,vi (L.length:Int)),(13,vi s1.2.2.1)],[AA.bx 0 j5,AA.bx 0 j3.2.2, .cells false 0 ([vs e1.name,vs e1.val])])
noncomputable def Gi (L:List Par) (s1:(List UInt8)×(List UInt8)×Int×Int×ByteArray) (e1:Par) (j3:Int×Int×(List UInt8)) (j5:(List UInt8)):Tree:=
.sp 69 (decide (((j5.length:Nat):Int)>(262144:Int))) (
.leaf ⟨[2,3],[]⟩ [] .ret (some (KU 6).2)) (
.int 70 (IntKind.i64.wrap (s1.2.2.1+1)) (s1.2.2.1+1) (.leaf ⟨[4,5,6,7,11,12,13],[(0,0,some (j5.map AA.f)),(1,0,some (j3.2.2.map AA.f))]⟩ [rowC (j5.map AA.f),rowC (j3.2.2.map AA.f)] .normal (some (KT L (j5,j3.2.2,s1.2.2.1+1,j3.1,e1.name)))))
noncomputable def FM (L:List Par) (s1:(List UInt8)×(List UInt8)×Int×Int×ByteArray) (e1:Par) (j3:Int×Int×(List UInt8)) (j4:(List UInt8)):Tree:=
.any (.scut 60 e1.name (some j3.2.1) none (.fork (
.app 61 (.str (e1.name.extract (A8 (some j3.2.1)) (Be none e1.name.size))) j4.length (rowC (j4.map AA.f)) AA j4 ((e1.name.extract (A8 (some j3.2.1)) (Be none e1.name.size)).data.toList) (.app 64 (.str e1.val) ((j4++((e1.name.extract (A8 (some j3.2.1)) (Be none e1.name.size)).data.toList)).length) (rowC ((j4++((e1.name.extract (A8 (some j3.2.1)) (Be none e1.name.size)).data.toList)).map AA.f)) AA (j4++((e1.name.extract (A8 (some j3.2.1)) (Be none e1.name.size)).data.toList)) e1.val.data.toList (.join ⟨[4,5,6,9,11,12,13],[(0,2,some (((j4++((e1.name.extract (A8 (some j3.2.1)) (Be none e1.name.size)).data.toList))++e1.val.data.toList).map AA.f)),(1,0,some (j3.2.2.map AA.f)),(2,0,none)]⟩ [rowC (((j4++((e1.name.extract (A8 (some j3.2.1)) (Be none e1.name.size)).data.toList))++e1.val.data.toList).map AA.f),rowC (j3.2.2.map AA.f)] (some (KW L s1 e1 j3 ((j4++((e1.name.extract (A8 (some j3.2.1)) (Be none e1.name.size)).data.toList))++e1.val.data.toList))) (KW L s1 e1 j3) ((j4++((e1.name.extract (A8 (some j3.2.1)) (Be none e1.name.size)).data.toList))++e1.val.data.toList) (Gi L s1 e1 j3)))) (
.app 61 (.str (e1.name.extract (A8 (some j3.2.1)) (Be none e1.name.size))) j4.length (rowC (j4.map AA.f)) AA j4 ((e1.name.extract (A8 (some j3.2.1)) (Be none e1.name.size)).data.toList) (.app 64 (.str e1.val) ((j4++((e1.name.extract (A8 (some j3.2.1)) (Be none e1.name.size)).data.toList)).length) (rowC ((j4++((e1.name.extract (A8 (some j3.2.1)) (Be none e1.name.size)).data.toList)).map AA.f)) AA (j4++((e1.name.extract (A8 (some j3.2.1)) (Be none e1.name.size)).data.toList)) e1.val.data.toList (.join ⟨[4,5,6,9,11,12,13],[(0,2,some (((j4++((e1.name.extract (A8 (some j3.2.1)) (Be none e1.name.size)).data.toList))++e1.val.data.toList).map AA.f)),(1,0,some (j3.2.2.map AA.f)),(2,0,none)]⟩ [rowC (((j4++((e1.name.extract (A8 (some j3.2.1)) (Be none e1.name.size)).data.toList))++e1.val.data.toList).map AA.f),rowC (j3.2.2.map AA.f)] (some (KW L s1 e1 j3 ((j4++((e1.name.extract (A8 (some j3.2.1)) (Be none e1.name.size)).data.toList))++e1.val.data.toList))) (KW L s1 e1 j3) ((j4++((e1.name.extract (A8 (some j3.2.1)) (Be none e1.name.size)).data.toList))++e1.val.data.toList) (Gi L s1 e1 j3))))))
noncomputable def O6 (L:List Par) (s1:(List UInt8)×(List UInt8)×Int×Int×ByteArray) (e1:Par) (j3:Int×Int×(List UInt8)):Tree:=
.any (.int 42 (IntKind.u64.wrap (j3.2.1)) (j3.2.1) (.fork (
.callr (some 43) (FH 62 [.rs 0 0 1 0 s1.1.length,vn .u64 j3.2.1] [AA.bx 0 s1.1,AA.bx 0 j3.2.2, .cells false 0 ([vs e1.name,vs e1.val])] (.rs 3 0 1 0 ((s1.1++AD j3.2.1).length)) [AA.bx 1 ([]:List UInt8),AA.bx 0 j3.2.2, .cells false 0 ([vs e1.name,vs e1.val]),AA.bx 0 (s1.1++AD j3.2.1)]) (.rs 3 0 1 0 ((s1.1++AD j3.2.1).length)) [AA.bx 1 ([]:List UInt8),AA.bx 0 j3.2.2, .cells false 0 ([vs e1.name,vs e1.val]),AA.bx 0 (s1.1++AD j3.2.1)] (.int 48 (IntKind.i64.wrap ((e1.name.size:Int) - j3.2.1)) ((e1.name.size:Int) - j3.2.1) (.int 49 (IntKind.u64.wrap ((e1.name.size:Int) - j3.2.1)) ((e1.name.size:Int) - j3.2.1) (.fork (
.callr (some 50) (FH 62 [.rs 3 0 1 0 ((s1.1++AD j3.2.1).length),vn .u64 ((e1.name.size:Int) - j3.2.1)] [AA.bx 1 ([]:List UInt8),AA.bx 0 j3.2.2, .cells false 0 ([vs e1.name,vs e1.val]),AA.bx 0 (s1.1++AD j3.2.1)] (.rs 4 0 1 0 (((s1.1++AD j3.2.1)++AD ((e1.name.size:Int) - j3.2.1)).length)) [AA.bx 1 ([]:List UInt8),AA.bx 0 j3.2.2, .cells false 0 ([vs e1.name,vs e1.val]),AA.bx 1 ([]:List UInt8),AA.bx 0 ((s1.1++AD j3.2.1)++AD ((e1.name.size:Int) - j3.2.1))]) (.rs 4 0 1 0 (((s1.1++AD j3.2.1)++AD ((e1.name.size:Int) - j3.2.1)).length)) [AA.bx 1 ([]:List UInt8),AA.bx 0 j3.2.2, .cells false 0 ([vs e1.name,vs e1.val]),AA.bx 1 ([]:List UInt8),AA.bx 0 ((s1.1++AD j3.2.1)++AD ((e1.name.size:Int) - j3.2.1))] (.int 54 (IntKind.u64.wrap ((e1.val.size:Int))) ((e1.val.size:Int)) (.callr (some 55) (FH 62 [.rs 4 0 1 0 (((s1.1++AD j3.2.1)++AD ((e1.name.size:Int) - j3.2.1)).length),vn .u64 (e1.val.size:Int)] [AA.bx 1 ([]:List UInt8),AA.bx 0 j3.2.2, .cells false 0 ([vs e1.name,vs e1.val]),AA.bx 1 ([]:List UInt8),AA.bx 0 ((s1.1++AD j3.2.1)++AD ((e1.name.size:Int) - j3.2.1))] (.rs 5 0 1 0 ((((s1.1++AD j3.2.1)++AD ((e1.name.size:Int) - j3.2.1))++AD (e1.val.size:Int)).length)) [AA.bx 1 ([]:List UInt8),AA.bx 0 j3.2.2, .cells false 0 ([vs e1.name,vs e1.val]),AA.bx 1 ([]:List UInt8),AA.bx 1 ([]:List UInt8),AA.bx 0 (((s1.1++AD j3.2.1)++AD ((e1.name.size:Int) - j3.2.1))++AD (e1.val.size:Int))]) (.rs 5 0 1 0 ((((s1.1++AD j3.2.1)++AD ((e1.name.size:Int) - j3.2.1))++AD (e1.val.size:Int)).length)) [AA.bx 1 ([]:List UInt8),AA.bx 0 j3.2.2, .cells false 0 ([vs e1.name,vs e1.val]),AA.bx 1 ([]:List UInt8),AA.bx 1 ([]:List UInt8),AA.bx 0 (((s1.1++AD j3.2.1)++AD ((e1.name.size:Int) - j3.2.1))++AD (e1.val.size:Int))] (.join ⟨[4,5,6,9,10,11,12,13],[(5,0,some ((((s1.1++AD j3.2.1)++AD ((e1.name.size:Int) - j3.2.1))++AD (e1.val.size:Int)).map AA.f)),(1,0,some (j3.2.2.map AA.f)),(2,0,none)]⟩ [rowC ((((s1.1++AD j3.2.1)++AD ((e1.name.size:Int) - j3.2.1))++AD (e1.val.size:Int)).map AA.f),rowC (j3.2.2.map AA.f)] (some (Cx L s1 e1 j3 (((s1.1++AD j3.2.1)++AD ((e1.name.size:Int) - j3.2.1))++AD (e1.val.size:Int)))) (Cx L s1 e1 j3) (((s1.1++AD j3.2.1)++AD ((e1.name.size:Int) - j3.2.1))++AD (e1.val.size:Int)) (FM L s1 e1 j3))))) (
.callr (some 50) (FH 62 [.rs 3 0 1 0 ((s1.1++AD j3.2.1).length),vn .u64 ((e1.name.size:Int) - j3.2.1)] [AA.bx 1 ([]:List UInt8),AA.bx 0 j3.2.2, .cells false 0 ([vs e1.name,vs e1.val]),AA.bx 0 (s1.1++AD j3.2.1)] (.rs 4 0 1 0 (((s1.1++AD j3.2.1)++AD ((e1.name.size:Int) - j3.2.1)).length)) [AA.bx 1 ([]:List UInt8),AA.bx 0 j3.2.2, .cells false 0 ([vs e1.name,vs e1.val]),AA.bx 1 ([]:List UInt8),AA.bx 0 ((s1.1++AD j3.2.1)++AD ((e1.name.size:Int) - j3.2.1))]) (.rs 4 0 1 0 (((s1.1++AD j3.2.1)++AD ((e1.name.size:Int) - j3.2.1)).length)) [AA.bx 1 ([]:List UInt8),AA.bx 0 j3.2.2, .cells false 0 ([vs e1.name,vs e1.val]),AA.bx 1 ([]:List UInt8),AA.bx 0 ((s1.1++AD j3.2.1)++AD ((e1.name.size:Int) - j3.2.1))] (.int 54 (IntKind.u64.wrap ((e1.val.size:Int))) ((e1.val.size:Int)) (.callr (some 55) (FH 62 [.rs 4 0 1 0 (((s1.1++AD j3.2.1)++AD ((e1.name.size:Int) - j3.2.1)).length),vn .u64 (e1.val.size:Int)] [AA.bx 1 ([]:List UInt8),AA.bx 0 j3.2.2, .cells false 0 ([vs e1.name,vs e1.val]),AA.bx 1 ([]:List UInt8),AA.bx 0 ((s1.1++AD j3.2.1)++AD ((e1.name.size:Int) - j3.2.1))] (.rs 5 0 1 0 ((((s1.1++AD j3.2.1)++AD ((e1.name.size:Int) - j3.2.1))++AD (e1.val.size:Int)).length)) [AA.bx 1 ([]:List UInt8),AA.bx 0 j3.2.2, .cells false 0 ([vs e1.name,vs e1.val]),AA.bx 1 ([]:List UInt8),AA.bx 1 ([]:List UInt8),AA.bx 0 (((s1.1++AD j3.2.1)++AD ((e1.name.size:Int) - j3.2.1))++AD (e1.val.size:Int))]) (.rs 5 0 1 0 ((((s1.1++AD j3.2.1)++AD ((e1.name.size:Int) - j3.2.1))++AD (e1.val.size:Int)).length)) [AA.bx 1 ([]:List UInt8),AA.bx 0 j3.2.2, .cells false 0 ([vs e1.name,vs e1.val]),AA.bx 1 ([]:List UInt8),AA.bx 1 ([]:List UInt8),AA.bx 0 (((s1.1++AD j3.2.1)++AD ((e1.name.size:Int) - j3.2.1))++AD (e1.val.size:Int))] (.join ⟨[4,5,6,9,10,11,12,13],[(5,0,some ((((s1.1++AD j3.2.1)++AD ((e1.name.size:Int) - j3.2.1))++AD (e1.val.size:Int)).map AA.f)),(1,0,some (j3.2.2.map AA.f)),(2,0,none)]⟩ [rowC ((((s1.1++AD j3.2.1)++AD ((e1.name.size:Int) - j3.2.1))++AD (e1.val.size:Int)).map AA.f),rowC (j3.2.2.map AA.f)] (some (Cx L s1 e1 j3 (((s1.1++AD j3.2.1)++AD ((e1.name.size:Int) - j3.2.1))++AD (e1.val.size:Int)))) (Cx L s1 e1 j3) (((s1.1++AD j3.2.1)++AD ((e1.name.size:Int) - j3.2.1))++AD (e1.val.size:Int)) (FM L s1 e1 j3))))))))) (
.fork (
.int 48 (IntKind.i64.wrap ((e1.name.size:Int) - j3.2.1)) ((e1.name.size:Int) - j3.2.1) (.int 49 (IntKind.u64.wrap ((e1.name.size:Int) - j3.2.1)) ((e1.name.size:Int) - j3.2.1) (.fork (
.callr (some 43) (FH 62 [.rs 0 0 1 0 s1.1.length,vn .u64 j3.2.1] [AA.bx 0 s1.1,AA.bx 0 j3.2.2, .cells false 0 ([vs e1.name,vs e1.val])] (.rs 3 0 1 0 ((s1.1++AD j3.2.1).length)) [AA.bx 1 ([]:List UInt8),AA.bx 0 j3.2.2, .cells false 0 ([vs e1.name,vs e1.val]),AA.bx 0 (s1.1++AD j3.2.1)]) (.rs 3 0 1 0 ((s1.1++AD j3.2.1).length)) [AA.bx 1 ([]:List UInt8),AA.bx 0 j3.2.2, .cells false 0 ([vs e1.name,vs e1.val]),AA.bx 0 (s1.1++AD j3.2.1)] (.fork (
.callr (some 50) (FH 62 [.rs 3 0 1 0 ((s1.1++AD j3.2.1).length),vn .u64 ((e1.name.size:Int) - j3.2.1)] [AA.bx 1 ([]:List UInt8),AA.bx 0 j3.2.2, .cells false 0 ([vs e1.name,vs e1.val]),AA.bx 0 (s1.1++AD j3.2.1)] (.rs 4 0 1 0 (((s1.1++AD j3.2.1)++AD ((e1.name.size:Int) - j3.2.1)).length)) [AA.bx 1 ([]:List UInt8),AA.bx 0 j3.2.2, .cells false 0 ([vs e1.name,vs e1.val]),AA.bx 1 ([]:List UInt8),AA.bx 0 ((s1.1++AD j3.2.1)++AD ((e1.name.size:Int) - j3.2.1))]) (.rs 4 0 1 0 (((s1.1++AD j3.2.1)++AD ((e1.name.size:Int) - j3.2.1)).length)) [AA.bx 1 ([]:List UInt8),AA.bx 0 j3.2.2, .cells false 0 ([vs e1.name,vs e1.val]),AA.bx 1 ([]:List UInt8),AA.bx 0 ((s1.1++AD j3.2.1)++AD ((e1.name.size:Int) - j3.2.1))] (.int 54 (IntKind.u64.wrap ((e1.val.size:Int))) ((e1.val.size:Int)) (.callr (some 55) (FH 62 [.rs 4 0 1 0 (((s1.1++AD j3.2.1)++AD ((e1.name.size:Int) - j3.2.1)).length),vn .u64 (e1.val.size:Int)] [AA.bx 1 ([]:List UInt8),AA.bx 0 j3.2.2, .cells false 0 ([vs e1.name,vs e1.val]),AA.bx 1 ([]:List UInt8),AA.bx 0 ((s1.1++AD j3.2.1)++AD ((e1.name.size:Int) - j3.2.1))] (.rs 5 0 1 0 ((((s1.1++AD j3.2.1)++AD ((e1.name.size:Int) - j3.2.1))++AD (e1.val.size:Int)).length)) [AA.bx 1 ([]:List UInt8),AA.bx 0 j3.2.2, .cells false 0 ([vs e1.name,vs e1.val]),AA.bx 1 ([]:List UInt8),AA.bx 1 ([]:List UInt8),AA.bx 0 (((s1.1++AD j3.2.1)++AD ((e1.name.size:Int) - j3.2.1))++AD (e1.val.size:Int))]) (.rs 5 0 1 0 ((((s1.1++AD j3.2.1)++AD ((e1.name.size:Int) - j3.2.1))++AD (e1.val.size:Int)).length)) [AA.bx 1 ([]:List UInt8),AA.bx 0 j3.2.2, .cells false 0 ([vs e1.name,vs e1.val]),AA.bx 1 ([]:List UInt8),AA.bx 1 ([]:List UInt8),AA.bx 0 (((s1.1++AD j3.2.1)++AD ((e1.name.size:Int) - j3.2.1))++AD (e1.val.size:Int))] (.join ⟨[4,5,6,9,10,11,12,13],[(5,0,some ((((s1.1++AD j3.2.1)++AD ((e1.name.size:Int) - j3.2.1))++AD (e1.val.size:Int)).map AA.f)),(1,0,some (j3.2.2.map AA.f)),(2,0,none)]⟩ [rowC ((((s1.1++AD j3.2.1)++AD ((e1.name.size:Int) - j3.2.1))++AD (e1.val.size:Int)).map AA.f),rowC (j3.2.2.map AA.f)] (some (Cx L s1 e1 j3 (((s1.1++AD j3.2.1)++AD ((e1.name.size:Int) - j3.2.1))++AD (e1.val.size:Int)))) (Cx L s1 e1 j3) (((s1.1++AD j3.2.1)++AD ((e1.name.size:Int) - j3.2.1))++AD (e1.val.size:Int)) (FM L s1 e1 j3))))) (
.callr (some 50) (FH 62 [.rs 3 0 1 0 ((s1.1++AD j3.2.1).length),vn .u64 ((e1.name.size:Int) - j3.2.1)] [AA.bx 1 ([]:List UInt8),AA.bx 0 j3.2.2, .cells false 0 ([vs e1.name,vs e1.val]),AA.bx 0 (s1.1++AD j3.2.1)] (.rs 4 0 1 0 (((s1.1++AD j3.2.1)++AD ((e1.name.size:Int) - j3.2.1)).length)) [AA.bx 1 ([]:List UInt8),AA.bx 0 j3.2.2, .cells false 0 ([vs e1.name,vs e1.val]),AA.bx 1 ([]:List UInt8),AA.bx 0 ((s1.1++AD j3.2.1)++AD ((e1.name.size:Int) - j3.2.1))]) (.rs 4 0 1 0 (((s1.1++AD j3.2.1)++AD ((e1.name.size:Int) - j3.2.1)).length)) [AA.bx 1 ([]:List UInt8),AA.bx 0 j3.2.2, .cells false 0 ([vs e1.name,vs e1.val]),AA.bx 1 ([]:List UInt8),AA.bx 0 ((s1.1++AD j3.2.1)++AD ((e1.name.size:Int) - j3.2.1))] (.int 54 (IntKind.u64.wrap ((e1.val.size:Int))) ((e1.val.size:Int)) (.callr (some 55) (FH 62 [.rs 4 0 1 0 (((s1.1++AD j3.2.1)++AD ((e1.name.size:Int) - j3.2.1)).length),vn .u64 (e1.val.size:Int)] [AA.bx 1 ([]:List UInt8),AA.bx 0 j3.2.2, .cells false 0 ([vs e1.name,vs e1.val]),AA.bx 1 ([]:List UInt8),AA.bx 0 ((s1.1++AD j3.2.1)++AD ((e1.name.size:Int) - j3.2.1))] (.rs 5 0 1 0 ((((s1.1++AD j3.2.1)++AD ((e1.name.size:Int) - j3.2.1))++AD (e1.val.size:Int)).length)) [AA.bx 1 ([]:List UInt8),AA.bx 0 j3.2.2, .cells false 0 ([vs e1.name,vs e1.val]),AA.bx 1 ([]:List UInt8),AA.bx 1 ([]:List UInt8),AA.bx 0 (((s1.1++AD j3.2.1)++AD ((e1.name.size:Int) - j3.2.1))++AD (e1.val.size:Int))]) (.rs 5 0 1 0 ((((s1.1++AD j3.2.1)++AD ((e1.name.size:Int) - j3.2.1))++AD (e1.val.size:Int)).length)) [AA.bx 1 ([]:List UInt8),AA.bx 0 j3.2.2, .cells false 0 ([vs e1.name,vs e1.val]),AA.bx 1 ([]:List UInt8),AA.bx 1 ([]:List UInt8),AA.bx 0 (((s1.1++AD j3.2.1)++AD ((e1.name.size:Int) - j3.2.1))++AD (e1.val.size:Int))] (.join ⟨[4,5,6,9,10,11,12,13],[(5,0,some ((((s1.1++AD j3.2.1)++AD ((e1.name.size:Int) - j3.2.1))++AD (e1.val.size:Int)).map AA.f)),(1,0,some (j3.2.2.map AA.f)),(2,0,none)]⟩ [rowC ((((s1.1++AD j3.2.1)++AD ((e1.name.size:Int) - j3.2.1))++AD (e1.val.size:Int)).map AA.f),rowC (j3.2.2.map AA.f)] (some (Cx L s1 e1 j3 (((s1.1++AD j3.2.1)++AD ((e1.name.size:Int) - j3.2.1))++AD (e1.val.size:Int)))) (Cx L s1 e1 j3) (((s1.1++AD j3.2.1)++AD ((e1.name.size:Int) - j3.2.1))++AD (e1.val.size:Int)) (FM L s1 e1 j3))))))) (
.callr (some 43) (FH 62 [.rs 0 0 1 0 s1.1.length,vn .u64 j3.2.1] [AA.bx 0 s1.1,AA.bx 0 j3.2.2, .cells false 0 ([vs e1.name,vs e1.val])] (.rs 3 0 1 0 ((s1.1++AD j3.2.1).length)) [AA.bx 1 ([]:List UInt8),AA.bx 0 j3.2.2, .cells false 0 ([vs e1.name,vs e1.val]),AA.bx 0 (s1.1++AD j3.2.1)]) (.rs 3 0 1 0 ((s1.1++AD j3.2.1).length)) [AA.bx 1 ([]:List UInt8),AA.bx 0 j3.2.2, .cells false 0 ([vs e1.name,vs e1.val]),AA.bx 0 (s1.1++AD j3.2.1)] (.callr (some 50) (FH 62 [.rs 3 0 1 0 ((s1.1++AD j3.2.1).length),vn .u64 ((e1.name.size:Int) - j3.2.1)] [AA.bx 1 ([]:List UInt8),AA.bx 0 j3.2.2, .cells false 0 ([vs e1.name,vs e1.val]),AA.bx 0 (s1.1++AD j3.2.1)] (.rs 4 0 1 0 (((s1.1++AD j3.2.1)++AD ((e1.name.size:Int) - j3.2.1)).length)) [AA.bx 1 ([]:List UInt8),AA.bx 0 j3.2.2, .cells false 0 ([vs e1.name,vs e1.val]),AA.bx 1 ([]:List UInt8),AA.bx 0 ((s1.1++AD j3.2.1)++AD ((e1.name.size:Int) - j3.2.1))]) (.rs 4 0 1 0 (((s1.1++AD j3.2.1)++AD ((e1.name.size:Int) - j3.2.1)).length)) [AA.bx 1 ([]:List UInt8),AA.bx 0 j3.2.2, .cells false 0 ([vs e1.name,vs e1.val]),AA.bx 1 ([]:List UInt8),AA.bx 0 ((s1.1++AD j3.2.1)++AD ((e1.name.size:Int) - j3.2.1))] (.int 54 (IntKind.u64.wrap ((e1.val.size:Int))) ((e1.val.size:Int)) (.callr (some 55) (FH 62 [.rs 4 0 1 0 (((s1.1++AD j3.2.1)++AD ((e1.name.size:Int) - j3.2.1)).length),vn .u64 (e1.val.size:Int)] [AA.bx 1 ([]:List UInt8),AA.bx 0 j3.2.2, .cells false 0 ([vs e1.name,vs e1.val]),AA.bx 1 ([]:List UInt8),AA.bx 0 ((s1.1++AD j3.2.1)++AD ((e1.name.size:Int) - j3.2.1))] (.rs 5 0 1 0 ((((s1.1++AD j3.2.1)++AD ((e1.name.size:Int) - j3.2.1))++AD (e1.val.size:Int)).length)) [AA.bx 1 ([]:List UInt8),AA.bx 0 j3.2.2, .cells false 0 ([vs e1.name,vs e1.val]),AA.bx 1 ([]:List UInt8),AA.bx 1 ([]:List UInt8),AA.bx 0 (((s1.1++AD j3.2.1)++AD ((e1.name.size:Int) - j3.2.1))++AD (e1.val.size:Int))]) (.rs 5 0 1 0 ((((s1.1++AD j3.2.1)++AD ((e1.name.size:Int) - j3.2.1))++AD (e1.val.size:Int)).length)) [AA.bx 1 ([]:List UInt8),AA.bx 0 j3.2.2, .cells false 0 ([vs e1.name,vs e1.val]),AA.bx 1 ([]:List UInt8),AA.bx 1 ([]:List UInt8),AA.bx 0 (((s1.1++AD j3.2.1)++AD ((e1.name.size:Int) - j3.2.1))++AD (e1.val.size:Int))] (.join ⟨[4,5,6,9,10,11,12,13],[(5,0,some ((((s1.1++AD j3.2.1)++AD ((e1.name.size:Int) - j3.2.1))++AD (e1.val.size:Int)).map AA.f)),(1,0,some (j3.2.2.map AA.f)),(2,0,none)]⟩ [rowC ((((s1.1++AD j3.2.1)++AD ((e1.name.size:Int) - j3.2.1))++AD (e1.val.size:Int)).map AA.f),rowC (j3.2.2.map AA.f)] (some (Cx L s1 e1 j3 (((s1.1++AD j3.2.1)++AD ((e1.name.size:Int) - j3.2.1))++AD (e1.val.size:Int)))) (Cx L s1 e1 j3) (((s1.1++AD j3.2.1)++AD ((e1.name.size:Int) - j3.2.1))++AD (e1.val.size:Int)) (FM L s1 e1 j3))))))))) (
.int 54 (IntKind.u64.wrap ((e1.val.size:Int))) ((e1.val.size:Int)) (.fork (
.callr (some 43) (FH 62 [.rs 0 0 1 0 s1.1.length,vn .u64 j3.2.1] [AA.bx 0 s1.1,AA.bx 0 j3.2.2, .cells false 0 ([vs e1.name,vs e1.val])] (.rs 3 0 1 0 ((s1.1++AD j3.2.1).length)) [AA.bx 1 ([]:List UInt8),AA.bx 0 j3.2.2, .cells false 0 ([vs e1.name,vs e1.val]),AA.bx 0 (s1.1++AD j3.2.1)]) (.rs 3 0 1 0 ((s1.1++AD j3.2.1).length)) [AA.bx 1 ([]:List UInt8),AA.bx 0 j3.2.2, .cells false 0 ([vs e1.name,vs e1.val]),AA.bx 0 (s1.1++AD j3.2.1)] (.int 48 (IntKind.i64.wrap ((e1.name.size:Int) - j3.2.1)) ((e1.name.size:Int) - j3.2.1) (.int 49 (IntKind.u64.wrap ((e1.name.size:Int) - j3.2.1)) ((e1.name.size:Int) - j3.2.1) (.callr (some 50) (FH 62 [.rs 3 0 1 0 ((s1.1++AD j3.2.1).length),vn .u64 ((e1.name.size:Int) - j3.2.1)] [AA.bx 1 ([]:List UInt8),AA.bx 0 j3.2.2, .cells false 0 ([vs e1.name,vs e1.val]),AA.bx 0 (s1.1++AD j3.2.1)] (.rs 4 0 1 0 (((s1.1++AD j3.2.1)++AD ((e1.name.size:Int) - j3.2.1)).length)) [AA.bx 1 ([]:List UInt8),AA.bx 0 j3.2.2, .cells false 0 ([vs e1.name,vs e1.val]),AA.bx 1 ([]:List UInt8),AA.bx 0 ((s1.1++AD j3.2.1)++AD ((e1.name.size:Int) - j3.2.1))]) (.rs 4 0 1 0 (((s1.1++AD j3.2.1)++AD ((e1.name.size:Int) - j3.2.1)).length)) [AA.bx 1 ([]:List UInt8),AA.bx 0 j3.2.2, .cells false 0 ([vs e1.name,vs e1.val]),AA.bx 1 ([]:List UInt8),AA.bx 0 ((s1.1++AD j3.2.1)++AD ((e1.name.size:Int) - j3.2.1))] (.callr (some 55) (FH 62 [.rs 4 0 1 0 (((s1.1++AD j3.2.1)++AD ((e1.name.size:Int) - j3.2.1)).length),vn .u64 (e1.val.size:Int)] [AA.bx 1 ([]:List UInt8),AA.bx 0 j3.2.2, .cells false 0 ([vs e1.name,vs e1.val]),AA.bx 1 ([]:List UInt8),AA.bx 0 ((s1.1++AD j3.2.1)++AD ((e1.name.size:Int) - j3.2.1))] (.rs 5 0 1 0 ((((s1.1++AD j3.2.1)++AD ((e1.name.size:Int) - j3.2.1))++AD (e1.val.size:Int)).length)) [AA.bx 1 ([]:List UInt8),AA.bx 0 j3.2.2, .cells false 0 ([vs e1.name,vs e1.val]),AA.bx 1 ([]:List UInt8),AA.bx 1 ([]:List UInt8),AA.bx 0 (((s1.1++AD j3.2.1)++AD ((e1.name.size:Int) - j3.2.1))++AD (e1.val.size:Int))]) (.rs 5 0 1 0 ((((s1.1++AD j3.2.1)++AD ((e1.name.size:Int) - j3.2.1))++AD (e1.val.size:Int)).length)) [AA.bx 1 ([]:List UInt8),AA.bx 0 j3.2.2, .cells false 0 ([vs e1.name,vs e1.val]),AA.bx 1 ([]:List UInt8),AA.bx 1 ([]:List UInt8),AA.bx 0 (((s1.1++AD j3.2.1)++AD ((e1.name.size:Int) - j3.2.1))++AD (e1.val.size:Int))] (.join ⟨[4,5,6,9,10,11,12,13],[(5,0,some ((((s1.1++AD j3.2.1)++AD ((e1.name.size:Int) - j3.2.1))++AD (e1.val.size:Int)).map AA.f)),(1,0,some (j3.2.2.map AA.f)),(2,0,none)]⟩ [rowC ((((s1.1++AD j3.2.1)++AD ((e1.name.size:Int) - j3.2.1))++AD (e1.val.size:Int)).map AA.f),rowC (j3.2.2.map AA.f)] (some (Cx L s1 e1 j3 (((s1.1++AD j3.2.1)++AD ((e1.name.size:Int) - j3.2.1))++AD (e1.val.size:Int)))) (Cx L s1 e1 j3) (((s1.1++AD j3.2.1)++AD ((e1.name.size:Int) - j3.2.1))++AD (e1.val.size:Int)) (FM L s1 e1 j3))))))) (
.callr (some 43) (FH 62 [.rs 0 0 1 0 s1.1.length,vn .u64 j3.2.1] [AA.bx 0 s1.1,AA.bx 0 j3.2.2, .cells false 0 ([vs e1.name,vs e1.val])] (.rs 3 0 1 0 ((s1.1++AD j3.2.1).length)) [AA.bx 1 ([]:List UInt8),AA.bx 0 j3.2.2, .cells false 0 ([vs e1.name,vs e1.val]),AA.bx 0 (s1.1++AD j3.2.1)]) (.rs 3 0 1 0 ((s1.1++AD j3.2.1).length)) [AA.bx 1 ([]:List UInt8),AA.bx 0 j3.2.2, .cells false 0 ([vs e1.name,vs e1.val]),AA.bx 0 (s1.1++AD j3.2.1)] (.int 48 (IntKind.i64.wrap ((e1.name.size:Int) - j3.2.1)) ((e1.name.size:Int) - j3.2.1) (.int 49 (IntKind.u64.wrap ((e1.name.size:Int) - j3.2.1)) ((e1.name.size:Int) - j3.2.1) (.callr (some 50) (FH 62 [.rs 3 0 1 0 ((s1.1++AD j3.2.1).length),vn .u64 ((e1.name.size:Int) - j3.2.1)] [AA.bx 1 ([]:List UInt8),AA.bx 0 j3.2.2, .cells false 0 ([vs e1.name,vs e1.val]),AA.bx 0 (s1.1++AD j3.2.1)] (.rs 4 0 1 0 (((s1.1++AD j3.2.1)++AD ((e1.name.size:Int) - j3.2.1)).length)) [AA.bx 1 ([]:List UInt8),AA.bx 0 j3.2.2, .cells false 0 ([vs e1.name,vs e1.val]),AA.bx 1 ([]:List UInt8),AA.bx 0 ((s1.1++AD j3.2.1)++AD ((e1.name.size:Int) - j3.2.1))]) (.rs 4 0 1 0 (((s1.1++AD j3.2.1)++AD ((e1.name.size:Int) - j3.2.1)).length)) [AA.bx 1 ([]:List UInt8),AA.bx 0 j3.2.2, .cells false 0 ([vs e1.name,vs e1.val]),AA.bx 1 ([]:List UInt8),AA.bx 0 ((s1.1++AD j3.2.1)++AD ((e1.name.size:Int) - j3.2.1))] (.callr (some 55) (FH 62 [.rs 4 0 1 0 (((s1.1++AD j3.2.1)++AD ((e1.name.size:Int) - j3.2.1)).length),vn .u64 (e1.val.size:Int)] [AA.bx 1 ([]:List UInt8),AA.bx 0 j3.2.2, .cells false 0 ([vs e1.name,vs e1.val]),AA.bx 1 ([]:List UInt8),AA.bx 0 ((s1.1++AD j3.2.1)++AD ((e1.name.size:Int) - j3.2.1))] (.rs 5 0 1 0 ((((s1.1++AD j3.2.1)++AD ((e1.name.size:Int) - j3.2.1))++AD (e1.val.size:Int)).length)) [AA.bx 1 ([]:List UInt8),AA.bx 0 j3.2.2, .cells false 0 ([vs e1.name,vs e1.val]),AA.bx 1 ([]:List UInt8),AA.bx 1 ([]:List UInt8),AA.bx 0 (((s1.1++AD j3.2.1)++AD ((e1.name.size:Int) - j3.2.1))++AD (e1.val.size:Int))]) (.rs 5 0 1 0 ((((s1.1++AD j3.2.1)++AD ((e1.name.size:Int) - j3.2.1))++AD (e1.val.size:Int)).length)) [AA.bx 1 ([]:List UInt8),AA.bx 0 j3.2.2, .cells false 0 ([vs e1.name,vs e1.val]),AA.bx 1 ([]:List UInt8),AA.bx 1 ([]:List UInt8),AA.bx 0 (((s1.1++AD j3.2.1)++AD ((e1.name.size:Int) - j3.2.1))++AD (e1.val.size:Int))] (.join ⟨[4,5,6,9,10,11,12,13],[(5,0,some ((((s1.1++AD j3.2.1)++AD ((e1.name.size:Int) - j3.2.1))++AD (e1.val.size:Int)).map AA.f)),(1,0,some (j3.2.2.map AA.f)),(2,0,none)]⟩ [rowC ((((s1.1++AD j3.2.1)++AD ((e1.name.size:Int) - j3.2.1))++AD (e1.val.size:Int)).map AA.f),rowC (j3.2.2.map AA.f)] (some (Cx L s1 e1 j3 (((s1.1++AD j3.2.1)++AD ((e1.name.size:Int) - j3.2.1))++AD (e1.val.size:Int)))) (Cx L s1 e1 j3) (((s1.1++AD j3.2.1)++AD ((e1.name.size:Int) - j3.2.1))++AD (e1.val.size:Int)) (FM L s1 e1 j3))))))))))))
noncomputable def Gj (L:List Par) (s1:(List UInt8)×(List UInt8)×Int×Int×ByteArray) (e1:Par) (j2:Bool):Tree:=
.br j2 (
.leaf ⟨[2,3],[]⟩ [] .ret (some (KU 1).2)) (
.sp 28 ((Int.tmod s1.2.2.1 8) == (0:Int)) (
.int 32 (IntKind.u64.wrap (((s1.1.length:Nat):Int))) (((s1.1.length:Nat):Int)) (.callr (some 33) (FH 65 [.rs 1 0 1 0 s1.2.1.length,vn .u64 ((s1.1.length:Nat):Int),vi 4] [AA.bx 0 s1.1,AA.bx 0 s1.2.1, .cells false 0 ([vs e1.name,vs e1.val])] (.rs 3 0 1 0 ((s1.2.1++AW ((s1.1.length:Nat):Int) 4).length)) [AA.bx 0 s1.1,AA.bx 1 ([]:List UInt8), .cells false 0 ([vs e1.name,vs e1.val]),AA.bx 0 (s1.2.1++AW ((s1.1.length:Nat):Int) 4)]) (.rs 3 0 1 0 ((s1.2.1++AW ((s1.1.length:Nat):Int) 4).length)) [AA.bx 0 s1.1,AA.bx 1 ([]:List UInt8), .cells false 0 ([vs e1.name,vs e1.val]),AA.bx 0 (s1.2.1++AW ((s1.1.length:Nat):Int) 4)] (.int 35 (IntKind.i64.wrap (s1.2.2.2.1+1)) (s1.2.2.2.1+1) (.join ⟨[4,5,6,9,10,11,12,13],[(0,0,some (s1.1.map AA.f)),(3,0,some ((s1.2.1++AW ((s1.1.length:Nat):Int) 4).map AA.f)),(2,0,none)]⟩ [rowC (s1.1.map AA.f),rowC ((s1.2.1++AW ((s1.1.length:Nat):Int) 4).map AA.f)] (some (KV L s1 e1 (s1.2.2.2.1+1,0,s1.2.1++AW ((s1.1.length:Nat):Int) 4))) (KV L s1 e1) (s1.2.2.2.1+1,0,s1.2.1++AW ((s1.1.length:Nat):Int) 4) (O6 L s1 e1))))) (
.call 39 (O5 [vs s1.2.2.2.2,vs e1.name]=some (vi ((Dq s1.2.2.2.2.data.toList e1.name.data.toList:Nat):Int))) (vi ((Dq s1.2.2.2.2.data.toList e1.name.data.toList:Nat):Int)) (.join ⟨[4,5,6,9,10,11,12,13],[(0,0,some (s1.1.map AA.f)),(1,0,some (s1.2.1.map AA.f)),(2,0,none)]⟩ [rowC (s1.1.map AA.f),rowC (s1.2.1.map AA.f)] (some (KV L s1 e1 (s1.2.2.2.1,((Dq s1.2.2.2.2.data.toList e1.name.data.toList:Nat):Int),s1.2.1))) (KV L s1 e1) (s1.2.2.2.1,((Dq s1.2.2.2.2.data.toList e1.name.data.toList:Nat):Int),s1.2.1) (O6 L s1 e1))))
noncomputable def If (L:List Par) (s1:(List UInt8)×(List UInt8)×Int×Int×ByteArray):Tree:=
.sp 14 (decide (s1.2.2.1<(L.length:Int))) (
.elem 16 (L.map AK.f) AK L s1.2.2.1 (fun e1=> .sp 19 (decide (s1.2.2.1>(0:Int))) (
.sp 24 (Op.bytesLess e1.name.toList s1.2.2.2.2.toList||(e1.name.toList == s1.2.2.2.2.toList)) (
.join ⟨[4,5,6,7,8,9,11,12,13,25],[(0,0,some (s1.1.map AA.f)),(1,0,some (s1.2.1.map AA.f)),(2,0,none)]⟩ [rowC (s1.1.map AA.f),rowC (s1.2.1.map AA.f)] (some (Gh L s1 e1 true)) (Gh L s1 e1) true (Gj L s1 e1)) (
.join ⟨[4,5,6,7,8,9,11,12,13,25],[(0,0,some (s1.1.map AA.f)),(1,0,some (s1.2.1.map AA.f)),(2,0,none)]⟩ [rowC (s1.1.map AA.f),rowC (s1.2.1.map AA.f)] (some (Gh L s1 e1 false)) (Gh L s1 e1) false (Gj L s1 e1))) (
.join ⟨[4,5,6,7,8,9,11,12,13,25],[(0,0,some (s1.1.map AA.f)),(1,0,some (s1.2.1.map AA.f)),(2,0,none)]⟩ [rowC (s1.1.map AA.f),rowC (s1.2.1.map AA.f)] (some (Gh L s1 e1 false)) (Gh L s1 e1) false (Gj L s1 e1)))) (
.leaf ⟨[4,5,6],[(0,0,some (s1.1.map AA.f)),(1,0,some (s1.2.1.map AA.f))]⟩ [rowC (s1.1.map AA.f),rowC (s1.2.1.map AA.f)] (.exit 0) (some (Mb (s1.2.2.2.1,s1.1,s1.2.1)).2))
noncomputable def jI (L:List Par):Tree:=
.int 12 ((L.map AK.f).length:Int) (L.length:Int) (.nilrow 4 1 (.nilrow 5 1 (.loop ⟨[4,5,6,7,11,12,13],[(0,0,some (([]:List UInt8).map AA.f)),(1,0,some (([]:List UInt8).map AA.f))]⟩ [rowC (([]:List UInt8).map AA.f),rowC (([]:List UInt8).map AA.f)] (some (KT L (([]:List UInt8),([]:List UInt8),0,0,⟨#[]⟩))) (KT L) (KU) (Mb) (([]:List UInt8),([]:List UInt8),0,0,⟨#[]⟩) (If L) (fun (x1:Int)=> .leaf ⟨[0],[]⟩ [] .ret (some ([(0, .tup [AI,vi x1])],[]))) (fun (y1:Int×(List UInt8)×(List UInt8))=> .app 73 (.row y1.2.2.length (rowC (y1.2.2.map AA.f))) y1.2.1.length (rowC (y1.2.1.map AA.f)) AA y1.2.1 y1.2.2 (.int 75 (IntKind.u64.wrap (y1.1)) (y1.1) (.callr (some 76) (FH 65 [.rs 0 1 1 0 ((y1.2.1++y1.2.2).length),vn .u64 y1.1,vi 4] [AA.bx 1 (y1.2.1++y1.2.2),AA.bx 0 y1.2.2] (.rs 2 0 1 0 (((y1.2.1++y1.2.2)++AW y1.1 4).length)) [AA.bx 2 ([]:List UInt8),AA.bx 0 y1.2.2,AA.bx 0 ((y1.2.1++y1.2.2)++AW y1.1 4)]) (.rs 2 0 1 0 (((y1.2.1++y1.2.2)++AW y1.1 4).length)) [AA.bx 2 ([]:List UInt8),AA.bx 0 y1.2.2,AA.bx 0 ((y1.2.1++y1.2.2)++AW y1.1 4)] (.leaf ⟨[0],[(2,0,some (((y1.2.1++y1.2.2)++AW y1.1 4).map AA.f))]⟩ [rowC (((y1.2.1++y1.2.2)++AW y1.1 4).map AA.f)] .ret (some ([(0, .tup [.rs 0 0 1 0 (((y1.2.1++y1.2.2)++AW y1.1 4).length),vi 0])],[AA.bx 0 ((y1.2.1++y1.2.2)++AW y1.1 4)])))))))))

theorem jJ (L:List Par):Av DP ΓF3 FH Tryd.f59 [vl (L.map AK.f)] [] (jI L)=jI L:=by kernel_rfl

noncomputable def KX (L:List Ent) (s1:(List Par)×Int):St:=([(3, .rs 0 0 2 0 s1.1.length),(6,vl (L.map AB.f)),(7,vi (L.length:Int)),(8,vi s1.2)],[AK.bx 0 s1.1])
noncomputable def Nn (x1:(List Par)):AE×St:=((.exit 0),([(3, .rs 0 0 2 0 x1.length)],[AK.bx 0 x1]))
noncomputable def KY (L:List Ent) (s1:(List Par)×Int):Tree:=
.sp 9 (decide (s1.2<(L.length:Int))) (
.elem 10 (L.map AB.f) AB L s1.2 (fun e1=> .call 14 (Ie [(AB.av e1)]=some (vs (⟨(BC e1).toArray⟩:ByteArray))) (vs (⟨(BC e1).toArray⟩:ByteArray)) (.app 19 (.row 1 ([vs (⟨(BC e1).toArray⟩:ByteArray),vs e1.val])) s1.1.length (rowC (s1.1.map AK.f)) AK s1.1 ([(⟨(⟨(BC e1).toArray⟩:ByteArray),e1.val⟩:Par)]) (.int 20 (IntKind.i64.wrap (s1.2+1)) (s1.2+1) (.leaf ⟨[3,6,7,8],[(0,1,some ((s1.1++([(⟨(⟨(BC e1).toArray⟩:ByteArray),e1.val⟩:Par)])).map AK.f))]⟩ [rowC ((s1.1++([(⟨(⟨(BC e1).toArray⟩:ByteArray),e1.val⟩:Par)])).map AK.f)] .normal (some (KX L (s1.1++([(⟨(⟨(BC e1).toArray⟩:ByteArray),e1.val⟩:Par)]),s1.2+1)))))))) (
.leaf ⟨[3],[(0,0,some (s1.1.map AK.f))]⟩ [rowC (s1.1.map AK.f)] (.exit 0) (some (Nn s1.1).2))
noncomputable def jK (L:List Ent):Tree:=
.int 7 ((L.map AB.f).length:Int) (L.length:Int) (.nilrow 3 2 (.loop ⟨[3,6,7,8],[(0,0,some (([]:List Par).map AK.f))]⟩ [rowC (([]:List Par).map AK.f)] (some (KX L (([]:List Par),0))) (KX L) (Nn) CN (([]:List Par),0) (KY L) (fun (x1:(List Par))=> .leaf ⟨[0],[(0,0,some (x1.map AK.f))]⟩ [rowC (x1.map AK.f)] .ret (some ([(0, .rs 0 0 2 0 x1.length)],[AK.bx 0 x1]))) (fun _=> .stuck)))

theorem jL (L:List Ent):Av DP ΓF4 Δ0 Tryd.f60 [vl (L.map AB.f)] [] (jK L)=jK L:=by kernel_rfl


theorem ΓF4_ok:∀ f,SoundF DP f (ΓF4 f):=An WR Bu
def HE (x:Ent):Prop:=(0≤x.seq∧x.seq<18446744073709551616)∧x.key.size≤400000000
theorem eq (L:List Ent) (hL:∀ x∈L,HE x) (hN:L.length≤1000000000):∀ (j i:Nat),i+j=L.length→Rounds (KX L) Nn CN (fun s=>(KY L s).wp) ((L.take i).map Az,(i:Int)) (.inl (L.map Az)):=by
 intro j
 induction j with
 | zero=>
  intro i hi
  rw[List.take_of_length_le (by omega)]
  refine .done (by intro e; cases e) ?_
  unfold KY
  exact AC (fun h'=>absurd (of_decide_eq_true h') (by simp only; omega)) (fun _=>wp_leaf rfl ⟨rfl,rfl⟩)
 | succ j ih=>
  intro i hi
  obtain ⟨a,ha,ht⟩:=Hd (l:=L) (i:=i) (by omega)
  have hm:a∈L:=List.mem_of_getElem? ha
  have hr:=ih (i+1) (by omega)
  rw[ht,List.map_append,List.map_cons,List.map_nil,show ((i+1:Nat):Int)=(i:Int)+1 by omega] at hr
  refine .next ?_ hr
  unfold KY
  have hl:((List.take i L).map Az).length≤i:=by rw[List.length_map,List.length_take]; omega
  exact AC (fun _=>Cm a (by simp only; omega) (by simpa using ha) (Ac (Nm a (hL a hm).1 (hL a hm).2) (BW ⟨rfl,rfl⟩ rfl (by simp only[List.length_append,List.length_singleton]; omega) (AP (by simp only; omega) (wp_leaf rfl ⟨rfl,rfl⟩))))) (fun h'=>absurd (of_decide_eq_false h') (by simp only; omega))
def wk:List AV→AV→Prop:=fun args r=>∃ L:List Ent,(∀ x∈L,HE x)∧L.length≤1000000000∧args= [vl (L.map AB.f)]∧r=vl ((L.map Az).map AK.f)
noncomputable def bc:=B4 wk
theorem wl:SoundF DP ba (.pure bc):=A6 AZ ΓF4_ok Bq ud ue uf (by
 rintro args r ⟨L,hL,hN,rfl,rfl⟩
 refine ⟨rfl,rfl,_,jL L,?_⟩
 unfold jK
 have hr:=eq L hL hN L.length 0 (by omega)
 exact Aq (DM (BH _ rfl hr (wp_leaf rfl (AK.elt.sealed trivial rfl)))))
theorem jM {x y:Ent} (e:AB.f x=AB.f y):x=y:=Lc (by
 have:(AB.f x).cells=(AB.f y).cells:=by rw[e]
 show AV.agg ((AB.f x).cells.map AV.p)=AV.agg ((AB.f y).cells.map AV.p)
 rw[this])
theorem QT {L M:List Ent} (h:L.map AB.f=M.map AB.f):L=M:=(List.map_inj_right (fun x y e=>jM e)).1 h
theorem mh {L:List Ent} (hL:∀ x∈L,HE x) (hN:L.length≤1000000000):bc [vl (L.map AB.f)]=some (vl ((L.map Az).map AK.f)):=BT (by
 rintro args r r' ⟨a,_,_,h1,rfl⟩ ⟨b,_,_,h2,rfl⟩
 have h:=Eb (h1.symm.trans h2)
 simp only[AV.p.injEq,PV.ls.injEq] at h
 rw[QT h]) ⟨L,hL,hN,rfl,rfl⟩

theorem ΓF3_ok:∀ f,SoundF DP f (ΓF3 f):=An mg Bu
theorem qQ:∀ f,SoundR DP f (FH f):=AY (AU bE) (AY (AU ii) BJ)
def No:Nat→List UInt8→List Par→List UInt8→List UInt8→Nat→Int ⊕ (Int×List UInt8×List UInt8)
 | _,_,[],b,w,c=> .inr ((c:Int),b,w)
 | i,last,p::L,b,w,c=>
  if i>0∧¬bl last p.nl then .inl 1 else
  if (b++Dr (CL i last p.nl) p).length>262144 then .inl 6 else
  No (i+1) p.nl L (b++Dr (CL i last p.nl) p) (if i % 8=0 then w++AW b.length 4 else w) (if i % 8=0 then c+1 else c)
theorem lJ:∀ (L:List Par) (i:Nat) (last b w:List UInt8) (c:Nat),WJ i last L b w c=match No i last L b w c with | .inl e=>([],e) | .inr (c,b,w)=>(b++w++AW c 4,0)
 | [],i,last,b,w,c=>rfl
 | p::L,i,last,b,w,c=>by
  rw[WJ,No]
  split
  ·rfl
  ·split
   ·rfl
   ·exact lJ L _ _ _ _ _
theorem Zc (s:ByteArray):(ASrc.str s).ok AA s.data.toList:=⟨rfl,byteCells _,rfl⟩
theorem jN (s:ByteArray) (k:Nat):(s.extract (A8 (some (k:Int))) (Be none s.size)).data.toList=s.data.toList.drop k:=by
 rw[ByteArray.data_extract,Array.toList_extract,List.extract_eq_take_drop]
 show List.take (s.size - Int.toNat (k:Int)) (s.data.toList.drop (Int.toNat (k:Int)))=_
 rw[Int.toNat_natCast,List.take_of_length_le (by rw[List.length_drop]; exact Nat.le_refl _)]
theorem qR (a b:ByteArray):(Op.bytesLess a.toList b.toList||(a.toList == b.toList))=decide (¬bl b.data.toList a.data.toList):=by
 rw[ByteArray.toList_eq,ByteArray.toList_eq,Bool.eq_iff_iff,Bool.or_eq_true,beq_iff_eq,decide_eq_true_eq]
 constructor
 ·rintro (h | h) g
  ·exact HA (He (x:=a.data.toList) h g)
  ·rw[h] at g
   exact HA g
 ·intro g
  rcases RJ a.data.toList b.data.toList with h | h | h
  ·exact .inl h
  ·exact .inr h
  ·exact absurd h g

theorem ug {n:Int} {B:List Box} {b v:Nat} {L:List UInt8} (hn:0≤n∧n<18446744073709551616) (hb:B[b]? = some (AA.bx v L)) (hl:((L.length+(AD n).length:Nat):Int)≤1000000000):
  FH 62 [.rs b v 1 0 L.length,vn .u64 n] B (.rs B.length 0 1 0 (L++AD n).length) (B.set b (AA.bx (v+1) [])++ [AA.bx 0 (L++AD n)]):=eI hn hb hl
theorem WS {n:Int} {B:List Box} {b v:Nat} {L:List UInt8} (hn:0≤n∧n<18446744073709551616) (hb:B[b]? = some (AA.bx v L)) (hl:((L.length+4:Nat):Int)≤1000000000):
  FH 65 [.rs b v 1 0 L.length,vn .u64 n,vi 4] B (.rs B.length 0 1 0 (L++AW n 4).length) (B.set b (AA.bx (v+1) [])++ [AA.bx 0 (L++AW n 4)]):=
 HZ (R:=RH) (pre:= []) ⟨n,hn, .inr ⟨L,by rw[CJ]; exact hl,rfl,rfl,rfl,rfl⟩⟩ hb rfl rfl
section
variable {L : List Par} {b w0 w b4 : List UInt8} {i cc : Int} {l : ByteArray} {e1 : Par} {c : Int} {k : Nat} {K : AE → St → Prop}
theorem uj (hk:k≤e1.name.size) (hn:e1.name.size≤100000000) (hv:e1.val.size≤100000000) (hb:b4.length≤100000000)
  (h:(Gi L (b,w0,i,cc,l) e1 (c,(k:Int),w) (b4++e1.nl.drop k++e1.vl)).wp K):(FM L (b,w0,i,cc,l) e1 (c,(k:Int),w) b4).wp K:=by
 have hx:=jN e1.name k
 have h1:(e1.name.extract (A8 (some (k:Int))) (Be none e1.name.size)).data.toList.length≤100000000:=by
  rw[hx,List.length_drop]
  have:e1.name.data.toList.length=e1.name.size:=rfl
  omega
 have h2:e1.val.data.toList.length≤100000000:=hv
 have h':(Gi L (b,w0,i,cc,l) e1 (c,(k:Int),w) (b4++(e1.name.extract (A8 (some (k:Int))) (Be none e1.name.size)).data.toList++e1.val.data.toList)).wp K:=by rw[hx]; exact h
 unfold FM
 dsimp only
 refine Cg (Gg (by simp only[CE]; omega) (DU ?_ ?_)) <;> exact BW (Zc _) rfl (by rw[List.length_append]; omega) (BW (Zc _) rfl (by rw[List.length_append,List.length_append]; omega) (Ab rfl h'))
theorem lK (hk:k≤e1.name.size) (hn:e1.name.size≤100000000) (hv:e1.val.size≤100000000) (hb:b.length≤262144)
  (h:(Gi L (b,w0,i,cc,l) e1 (c,(k:Int),w) (b++Dr k e1)).wp K):(O6 L (b,w0,i,cc,l) e1 (c,(k:Int),w)).wp K:=by
 have p1:=C8 (k:Int) (by omega)
 have p2:=C8 ((e1.name.size:Int) - k) (by omega)
 have p3:=C8 (e1.val.size:Int) (by omega)
 have h4:(FM L (b,w0,i,cc,l) e1 (c,(k:Int),w) (((b++AD (k:Int))++AD ((e1.name.size:Int) - k))++AD (e1.val.size:Int))).wp K:=by
  refine uj hk hn hv (by simp only[List.length_append]; omega) ?_
  have e:b++AD (k:Int)++AD ((e1.name.size:Int) - k)++AD (e1.val.size:Int)++e1.nl.drop k++e1.vl=b++Dr k e1:=by
   unfold Dr
   have e2:(e1.nl.length:Int)=(e1.name.size:Int):=rfl
   have e3:(e1.vl.length:Int)=(e1.val.size:Int):=rfl
   rw[e2,e3]
   simp only[List.append_assoc]
  rw[e]
  exact h
 unfold O6
 dsimp only
 repeat' first
  | exact h4
  | refine Cg ?_
  | refine DU ?_ ?_
  | refine Ab rfl ?_
  | refine AM (ug (by omega) rfl (by (try simp only[List.length_append]); omega)) ?_
  | refine Ej (by omega) ?_
  | refine AP (by omega) ?_
theorem lL {i c:Nat} (hL:l.size≤100000000) (hn:e1.name.size≤100000000) (hv:e1.val.size≤100000000) (hb:b.length≤262144) (hw:w.length≤500000000) (hc:c≤500000000)
  (h:(Gi L (b,w,(i:Int),(c:Int),l) e1 (((if i % 8=0 then c+1 else c:Nat):Int),(CL i l.data.toList e1.nl:Int),if i % 8=0 then w++AW b.length 4 else w) (b++Dr (CL i l.data.toList e1.nl) e1)).wp K):
  (Gj L (b,w,(i:Int),(c:Int),l) e1 false).wp K:=by
 have hi:Int.tmod (i:Int) 8=((i % 8:Nat):Int):=by rw[Int.tmod_eq_emod_of_nonneg (by omega)]; omega
 unfold Gj
 dsimp only
 refine Ce (fun h'=>by cases h') (fun _=>AC (fun h'=>?_) (fun h'=>?_))
 ·rw[hi,beq_iff_eq] at h'
  have h8:i % 8=0:=by omega
  unfold CL at h
  rw[if_pos h8,if_pos h8,if_pos h8] at h
  exact Ej (by omega) (AM (WS (by omega) rfl (by omega)) (AP (by omega) (Ab rfl (lK (k:=0) (Nat.zero_le _) hn hv hb (by simpa using h)))))
 ·rw[hi,beq_eq_false_iff_ne] at h'
  have h8:¬i % 8=0:=by omega
  unfold CL at h
  rw[if_neg h8,if_neg h8,if_neg h8] at h
  exact Ac (bY l e1.name (by omega)) (Ab rfl (lK (Sz _ _).2 hn hv hb h))
end

def GQ (p:Par):Prop:=p.name.size≤100000000∧p.val.size≤100000000
theorem l1_wp {L:List Par} {b w:List UInt8} {i:Nat} {c:Int} {l:ByteArray} {p:Par} {K:AE→St→Prop} (hN:L.length≤100000000) (hp:L[i]? = some p)
  (h1:(i>0∧¬bl l.data.toList p.nl)→(Gj L (b,w,(i:Int),c,l) p true).wp K) (h2:¬(i>0∧¬bl l.data.toList p.nl)→(Gj L (b,w,(i:Int),c,l) p false).wp K):
  (If L (b,w,(i:Int),c,l)).wp K:=by
 have hlt:=(List.getElem?_eq_some_iff.1 hp).1
 unfold If
 dsimp only
 refine AC (fun _=>Cm p (by omega) (by simpa using hp) (AC (fun h=>?_) (fun h=>?_))) (fun h'=>absurd (of_decide_eq_false h') (by omega))
 ·have hi:=of_decide_eq_true h
  rw[qR]
  refine AC (fun g=>Ab rfl (h1 ⟨by omega,of_decide_eq_true g⟩)) (fun g=>Ab rfl (h2 (fun e=>of_decide_eq_false g e.2)))
 ·have hi:=of_decide_eq_false h
  exact Ab rfl (h2 (fun e=>hi (by omega)))
theorem eu (L:List Par) (hL:∀ p∈L,GQ p) (hN:L.length≤100000000):∀ (M:List Par) (i:Nat) (b w:List UInt8) (c:Nat) (l:ByteArray),L.drop i=M→i+M.length=L.length→b.length≤262144→w.length≤4*i→c≤i→l.size≤100000000→Rounds (KT L) KU Mb (fun s=>(If L s).wp) (b,w,(i:Int),(c:Int),l) (No i l.data.toList M b w c):=by
 intro M
 induction M with
 | nil=>
  intro i b w c l hM hl hb hw hc hz
  simp only[List.length_nil] at hl
  rw[No]
  refine .done' (by intro e; cases e) ?_
  unfold If
  exact AC (fun h'=>absurd (of_decide_eq_true h') (by simp only; omega)) (fun _=>wp_leaf rfl ⟨rfl,rfl⟩)
 | cons p M ih=>
  intro i b w c l hM hl hb hw hc hz
  have gp:L[i]? = some p:=by rw[←List.head?_drop,hM]; rfl
  have hM':L.drop (i+1)=M:=by rw[←List.drop_drop,hM]; rfl
  have hp:=hL p (List.mem_of_getElem? gp)
  simp only[List.length_cons] at hl
  rw[No]
  by_cases h1:i>0∧¬bl l.data.toList p.nl
  ·rw[if_pos h1]
   refine .done (by intro e; cases e) (l1_wp hN gp (fun _=>?_) (fun h=>absurd h1 h))
   unfold Gj
   exact Ce (fun _=>wp_leaf rfl ⟨rfl,rfl⟩) (fun h=>by cases h)
  ·rw[if_neg h1]
   by_cases h2:(b++Dr (CL i l.data.toList p.nl) p).length>262144
   ·rw[if_pos h2]
    refine .done (by intro e; cases e) (l1_wp hN gp (fun h=>absurd h h1) (fun _=>lL hz hp.1 hp.2 hb (by omega) (by omega) ?_))
    unfold Gi
    exact AC (fun _=>wp_leaf rfl ⟨rfl,rfl⟩) (fun h=>absurd (of_decide_eq_false h) (by omega))
   ·rw[if_neg h2]
    have hr:=ih (i+1) (b++Dr (CL i l.data.toList p.nl) p) (if i % 8=0 then w++AW b.length 4 else w) (if i % 8=0 then c+1 else c) p.name hM' (by omega) (by omega) (by split <;> (try rw[List.length_append,CJ]) <;> omega) (by split <;> omega) hp.1
    rw[show ((i+1:Nat):Int)=(i:Int)+1 by omega] at hr
    refine .next (l1_wp hN gp (fun h=>absurd h h1) (fun _=>lL hz hp.1 hp.2 hb (by omega) (by omega) ?_)) hr
    unfold Gi
    exact AC (fun h=>absurd (of_decide_eq_true h) (by omega)) (fun _=>AP (by simp only; omega) (wp_leaf rfl ⟨rfl,rfl⟩))
theorem lM:∀ (M:List Par) (i:Nat) (last b w:List UInt8) (c:Nat) (z:Int×List UInt8×List UInt8),b.length≤262144→w.length≤4*i→c≤i→No i last M b w c= .inr z→(0≤z.1∧z.1≤((i+M.length:Nat):Int))∧z.2.1.length≤262144∧z.2.2.length≤4*(i+M.length)
 | [],i,last,b,w,c,z,hb,hw,hc,h=>by
  rw[No] at h
  cases h
  simp only[List.length_nil]
  omega
 | p::M,i,last,b,w,c,z,hb,hw,hc,h=>by
  rw[No] at h
  split at h
  ·cases h
  ·split at h
   ·cases h
   ·have:=lM M (i+1) _ _ _ _ z (by omega) (by split <;> (try rw[List.length_append,CJ]) <;> omega) (by split <;> omega) h
    rw[List.length_cons]
    have e:i+(M.length+1)=i+1+M.length:=by omega
    rw[e]
    exact this
def wm:List AV→AV→Prop:=fun args r=>∃ L:List Par,(∀ p∈L,GQ p)∧L.length≤100000000∧args= [vl (L.map AK.f)]∧r= .tup [vl ((Af L).1.map AA.f),vi (Af L).2]
noncomputable def QU:=B4 wm
theorem bd {L:List UInt8} {e:Int}:Sealed (fun _=>True) [AA.bx 0 L] (.tup [.rs 0 0 1 0 L.length,vi e]) (.tup [vl (L.map AA.f),vi e]):= .tup _ _ rfl (fun j c d h1 h2=>by
 match j,h1,h2 with
 | 0,h1,h2=>cases h1; cases h2; exact AA.elt.sealed trivial rfl
 | 1,h1,h2=>cases h1; cases h2; exact .p _
 | j+2,h1,h2=>cases h1)
theorem ew {B:List Box} {e:Int}:Sealed (fun _=>True) B (.tup [AI,vi e]) (.tup [vl (([]:List UInt8).map AA.f),vi e]):= .tup _ _ rfl (fun j c d h1 h2=>by
 match j,h1,h2 with
 | 0,h1,h2=>cases h1; cases h2; exact .nil
 | 1,h1,h2=>cases h1; cases h2; exact .p _
 | j+2,h1,h2=>cases h1)
theorem jO:SoundF DP S7 (.pure QU):=A6 AZ ΓF3_ok qQ uZ ua ub (by
 rintro args r ⟨L,hL,hN,rfl,rfl⟩
 refine ⟨rfl,rfl,_,jJ L,?_⟩
 have hr:=eu L hL hN L 0 [] [] 0 ⟨#[]⟩ List.drop_zero (Nat.zero_add _) (by decide) (Nat.le_refl _) (Nat.le_refl _) (by decide)
 have hQ:=lJ L 0 [] [] [] 0
 have hz:=lM L 0 [] [] [] 0
 change Af L=_ at hQ
 change Rounds _ _ _ _ _ (No 0 [] L [] [] 0) at hr
 unfold jI
 refine Aq (DM (DM ?_))
 generalize No 0 [] L [] [] 0=q at hr hQ hz
 cases q with
 | inl e=>
  rw[hQ]
  exact BH _ rfl hr (wp_leaf rfl ew)
 | inr z=>
  obtain ⟨c,b,w⟩:=z
  obtain ⟨z1,z2,z3⟩:=hz (c,b,w) (by decide) (Nat.le_refl _) (Nat.le_refl _) rfl
  simp only[Nat.zero_add] at z1 z2 z3
  rw[hQ]
  exact Dk _ rfl hr (BW ⟨rfl,rfl⟩ rfl (by simp only[List.length_append]; omega) (Ej (by simp only; omega) (AM (WS (by simp only; omega) rfl (by simp only[List.length_append]; omega)) (wp_leaf rfl bd)))))

def Aa:Enc Int:=⟨fun z=> .v (.int .i64 z),1,fun _=>rfl,fun _=>rfl⟩
noncomputable def ΓF5:BF:=DG [(Sh,Nd)]

abbrev be:Nat:=90
noncomputable abbrev qS:Func:=Tryd.f90
theorem um:DP.funcs[be]? = some qS:=by kernel_rfl
theorem un:Ak DP be=true:=by kernel_rfl
theorem uo:qS.body.isSome=true:=by kernel_rfl
abbrev RO:Nat:=72
noncomputable abbrev ey:Func:=Tryd.f72
theorem mj:DP.funcs[RO]? = some ey:=by kernel_rfl
theorem ml:Ak DP RO=true:=by kernel_rfl
theorem mm:ey.body.isSome=true:=by kernel_rfl
noncomputable def Ig (b:List UInt8) (w:List Int) (l:ByteArray) (s2:(List Int)×Int×Int):St:=([(1,vi s2.2.1),(2,vs l),(3, .ptr 0 0 0),(6, .ptr 1 0 0),(9, .ptr 2 0 0),(14,vi s2.2.2)],[.cells false 0 ([vl (b.map AA.f),vl (w.map Aa.f)]), .cells false 0 ([vs (⟨#[]⟩),vs (⟨#[]⟩)]), .cells false 0 (rowC (s2.1.map Aa.f))])
noncomputable def Ih (x2:Unit):AE×St:=(.ret,([(6, .ptr 0 0 0),(7,vi 0),(8,vi 2)],[.cells false 0 ([vs (⟨#[]⟩),vs (⟨#[]⟩)])]))
noncomputable def Mc (b:List UInt8) (w:List Int) (l:ByteArray) (y2:Int×(List Int)):AE×St:=((.exit 0),([(1,vi y2.1),(2,vs l),(3, .ptr 0 0 0),(6, .ptr 1 0 0),(9, .ptr 2 0 0)],[.cells false 0 ([vl (b.map AA.f),vl (w.map Aa.f)]), .cells false 0 ([vs (⟨#[]⟩),vs (⟨#[]⟩)]), .cells false 0 (rowC (y2.2.map Aa.f))]))
noncomputable def Md (b:List UInt8) (w:List Int) (l:ByteArray) (p2a:List Int) (p2b:Int) (p2c:Int):Tree:=
.sp 15 (decide (p2c<(3:Int))) (
.cut 21 (b.map AA.f) (some p2b) none AA b (.call 22 (Nd [vl ((cutL (some p2b) none b).map AA.f)]=some (.tup [vn .u64 ((AJ (cutL (some p2b) none b)).1),vi ((AJ (cutL (some p2b) none b)).2.1),vi ((AJ (cutL (some p2b) none b)).2.2)])) (.tup [vn .u64 ((AJ (cutL (some p2b) none b)).1),vi ((AJ (cutL (some p2b) none b)).2.1),vi ((AJ (cutL (some p2b) none b)).2.2)]) (.sp 27 (((AJ (cutL (some p2b) none b)).2.2) != (0:Int)) (
.leaf ⟨[6,7,8],[(1,0,none)]⟩ [] .ret (some (Ih ()).2)) (
.int 32 ((b.map AA.f).length:Int) (b.length:Int) (.int 33 (IntKind.u64.wrap ((b.length:Int))) ((b.length:Int)) (.sp 34 (decide (((AJ (cutL (some p2b) none b)).1)>(b.length:Int))) (
.leaf ⟨[6,7,8],[(1,0,none)]⟩ [] .ret (some (Ih ()).2)) (
.int 39 (IntKind.i64.wrap ((AJ (cutL (some p2b) none b)).1)) ((AJ (cutL (some p2b) none b)).1) (.int 42 (IntKind.i64.wrap (p2b+((AJ (cutL (some p2b) none b)).2.1))) (p2b+((AJ (cutL (some p2b) none b)).2.1)) (.pidx 43 3 p2c (.rstore none (rowC (p2a.map Aa.f)) (0+Int.toNat p2c*1) [vi ((AJ (cutL (some p2b) none b)).1)] Aa p2a p2c ((AJ (cutL (some p2b) none b)).1) (.int 44 (IntKind.i64.wrap (p2c+1)) (p2c+1) (.leaf ⟨[1,2,3,6,9,14],[(0,0,none),(1,0,none),(2,0,some ((p2a.set (Int.toNat p2c) ((AJ (cutL (some p2b) none b)).1)).map Aa.f))]⟩ [rowC ((p2a.set (Int.toNat p2c) ((AJ (cutL (some p2b) none b)).1)).map Aa.f)] .normal (some (Ig b w l (p2a.set (Int.toNat p2c) ((AJ (cutL (some p2b) none b)).1),p2b+((AJ (cutL (some p2b) none b)).2.1),p2c+1))))))))))))))) (
.leaf ⟨[1,2,3,6,9],[(0,0,none),(1,0,none),(2,0,some (p2a.map Aa.f))]⟩ [rowC (p2a.map Aa.f)] (.exit 0) (some (Mc b w l (p2b,p2a)).2))
noncomputable def Ii (b:List UInt8) (w:List Int) (l:ByteArray) (s2:(List Int)×Int×Int):Tree:=
Md b w l s2.1 s2.2.1 s2.2.2
noncomputable def Dx (j3:Int×Par):St:=([(6, .ptr 0 0 0),(7,vi j3.1),(8,vi 0)],[.cells false 0 ([vs j3.2.name,vs j3.2.val])])
noncomputable def JZ (j3:Int×Par):Tree:=
.leaf ⟨[0],[]⟩ [] .ret (some ([(0, .tup [(AK.av j3.2),vi j3.1,vi 0])],[]))
noncomputable def jP (b:List UInt8) (w:List Int) (a:Int) (l:ByteArray):Tree:=
.loop ⟨[1,2,3,6,9,14],[(0,0,none),(1,0,none),(2,0,none)]⟩ [] (some (Ig b w l ([0,0,0],a,0))) (Ig b w l) (Ih) (Mc b w l) ([0,0,0],a,0) (Ii b w l) (fun (x2:Unit)=> .leaf ⟨[0],[]⟩ [] .ret (some ([(0, .tup [.agg [vs (⟨#[]⟩),vs (⟨#[]⟩)],vi 0,vi 2])],[]))) (fun (y2:Int×(List Int))=> .pidx 45 3 0 (.rload 46 (rowC (y2.2.map Aa.f)) (0+Int.toNat 0*1) Aa y2.2 0 0 (fun e1=> .sp 49 (decide (e1>(l.size:Int))) (
.leaf ⟨[0],[]⟩ [] .ret (some ([(0, .tup [.agg [vs (⟨#[]⟩),vs (⟨#[]⟩)],vi 0,vi 2])],[]))) (
.pidx 51 3 1 (.rload 52 (rowC (y2.2.map Aa.f)) (0+Int.toNat 1*1) Aa y2.2 1 0 (fun e2=> .pidx 53 3 2 (.rload 54 (rowC (y2.2.map Aa.f)) (0+Int.toNat 2*1) Aa y2.2 2 0 (fun e3=> .int 55 (IntKind.i64.wrap (e2+e3)) (e2+e3) (.int 58 ((b.map AA.f).length:Int) (b.length:Int) (.int 60 (IntKind.i64.wrap ((b.length:Int) - y2.1)) ((b.length:Int) - y2.1) (.sp 61 (decide ((e2+e3)>((b.length:Int) - y2.1))) (
.leaf ⟨[0],[]⟩ [] .ret (some ([(0, .tup [.agg [vs (⟨#[]⟩),vs (⟨#[]⟩)],vi 0,vi 2])],[]))) (
.any (.pidx 65 3 0 (.rload 66 (rowC (y2.2.map Aa.f)) (0+Int.toNat 0*1) Aa y2.2 0 0 (fun e4=> .scut 67 l none (some e4) (.pidx 72 3 1 (.rload 73 (rowC (y2.2.map Aa.f)) (0+Int.toNat 1*1) Aa y2.2 1 0 (fun e5=> .int 74 (IntKind.i64.wrap (y2.1+e5)) (y2.1+e5) (.cut 75 (b.map AA.f) (some y2.1) (some (y2.1+e5)) AA b (.bstrl 76 ((cutL (some y2.1) (some (y2.1+e5)) b).map AA.f) (cutL (some y2.1) (some (y2.1+e5)) b) (.val (some 77) ((Io DP .add 9 (vs (l.extract (A8 none) (Be (some e4) l.size))) (vs (⟨(cutL (some y2.1) (some (y2.1+e5)) b).toArray⟩))).map (fun v=>(v,([.cells false 0 ([vl (b.map AA.f),vl (w.map Aa.f)]), .cells false 0 ([vs (⟨#[]⟩),vs (⟨#[]⟩)]), .cells false 0 (rowC (y2.2.map Aa.f))]:List Box)))=some (vs ((l.extract (A8 none) (Be (some e4) l.size))++(⟨(cutL (some y2.1) (some (y2.1+e5)) b).toArray⟩:ByteArray)),[.cells false 0 ([vl (b.map AA.f),vl (w.map Aa.f)]), .cells false 0 ([vs (⟨#[]⟩),vs (⟨#[]⟩)]), .cells false 0 (rowC (y2.2.map Aa.f))])) (vs ((l.extract (A8 none) (Be (some e4) l.size))++(⟨(cutL (some y2.1) (some (y2.1+e5)) b).toArray⟩:ByteArray))) [.cells false 0 ([vl (b.map AA.f),vl (w.map Aa.f)]), .cells false 0 ([vs (⟨#[]⟩),vs (⟨#[]⟩)]), .cells false 0 (rowC (y2.2.map Aa.f))] (.pidx 81 3 1 (.rload 82 (rowC (y2.2.map Aa.f)) (0+Int.toNat 1*1) Aa y2.2 1 0 (fun e6=> .int 83 (IntKind.i64.wrap (y2.1+e6)) (y2.1+e6) (.pidx 85 3 1 (.rload 86 (rowC (y2.2.map Aa.f)) (0+Int.toNat 1*1) Aa y2.2 1 0 (fun e7=> .int 87 (IntKind.i64.wrap (y2.1+e7)) (y2.1+e7) (.pidx 88 3 2 (.rload 89 (rowC (y2.2.map Aa.f)) (0+Int.toNat 2*1) Aa y2.2 2 0 (fun e8=> .int 90 (IntKind.i64.wrap ((y2.1+e7)+e8)) ((y2.1+e7)+e8) (.cut 91 (b.map AA.f) (some (y2.1+e6)) (some ((y2.1+e7)+e8)) AA b (.bstrl 92 ((cutL (some (y2.1+e6)) (some ((y2.1+e7)+e8)) b).map AA.f) (cutL (some (y2.1+e6)) (some ((y2.1+e7)+e8)) b) (.pidx 95 3 1 (.pidx 98 3 2 (.fork (
.rload 96 (rowC (y2.2.map Aa.f)) (0+Int.toNat 1*1) Aa y2.2 1 0 (fun e9=> .int 97 (IntKind.i64.wrap (y2.1+e9)) (y2.1+e9) (.fork (
.rload 99 (rowC (y2.2.map Aa.f)) (0+Int.toNat 2*1) Aa y2.2 2 0 (fun e10=> .int 100 (IntKind.i64.wrap ((y2.1+e9)+e10)) ((y2.1+e9)+e10) (.join ⟨[6,7,8],[(1,0,none)]⟩ [] (some (Dx ((y2.1+e9)+e10,(⟨(l.extract (A8 none) (Be (some e4) l.size))++(⟨(cutL (some y2.1) (some (y2.1+e5)) b).toArray⟩:ByteArray),(⟨(cutL (some (y2.1+e6)) (some ((y2.1+e7)+e8)) b).toArray⟩:ByteArray)⟩:Par)))) (Dx) ((y2.1+e9)+e10,(⟨(l.extract (A8 none) (Be (some e4) l.size))++(⟨(cutL (some y2.1) (some (y2.1+e5)) b).toArray⟩:ByteArray),(⟨(cutL (some (y2.1+e6)) (some ((y2.1+e7)+e8)) b).toArray⟩:ByteArray)⟩:Par)) (JZ)))) (
.rload 99 (rowC (y2.2.map Aa.f)) (0+Int.toNat 2*1) Aa y2.2 2 0 (fun e11=> .int 100 (IntKind.i64.wrap ((y2.1+e9)+e11)) ((y2.1+e9)+e11) (.join ⟨[6,7,8],[(1,0,none)]⟩ [] (some (Dx ((y2.1+e9)+e11,(⟨(l.extract (A8 none) (Be (some e4) l.size))++(⟨(cutL (some y2.1) (some (y2.1+e5)) b).toArray⟩:ByteArray),(⟨(cutL (some (y2.1+e6)) (some ((y2.1+e7)+e8)) b).toArray⟩:ByteArray)⟩:Par)))) (Dx) ((y2.1+e9)+e11,(⟨(l.extract (A8 none) (Be (some e4) l.size))++(⟨(cutL (some y2.1) (some (y2.1+e5)) b).toArray⟩:ByteArray),(⟨(cutL (some (y2.1+e6)) (some ((y2.1+e7)+e8)) b).toArray⟩:ByteArray)⟩:Par)) (JZ))))))) (
.fork (
.rload 99 (rowC (y2.2.map Aa.f)) (0+Int.toNat 2*1) Aa y2.2 2 0 (fun e12=> .fork (
.rload 96 (rowC (y2.2.map Aa.f)) (0+Int.toNat 1*1) Aa y2.2 1 0 (fun e13=> .int 97 (IntKind.i64.wrap (y2.1+e13)) (y2.1+e13) (.int 100 (IntKind.i64.wrap ((y2.1+e13)+e12)) ((y2.1+e13)+e12) (.join ⟨[6,7,8],[(1,0,none)]⟩ [] (some (Dx ((y2.1+e13)+e12,(⟨(l.extract (A8 none) (Be (some e4) l.size))++(⟨(cutL (some y2.1) (some (y2.1+e5)) b).toArray⟩:ByteArray),(⟨(cutL (some (y2.1+e6)) (some ((y2.1+e7)+e8)) b).toArray⟩:ByteArray)⟩:Par)))) (Dx) ((y2.1+e13)+e12,(⟨(l.extract (A8 none) (Be (some e4) l.size))++(⟨(cutL (some y2.1) (some (y2.1+e5)) b).toArray⟩:ByteArray),(⟨(cutL (some (y2.1+e6)) (some ((y2.1+e7)+e8)) b).toArray⟩:ByteArray)⟩:Par)) (JZ))))) (
.rload 96 (rowC (y2.2.map Aa.f)) (0+Int.toNat 1*1) Aa y2.2 1 0 (fun e14=> .int 97 (IntKind.i64.wrap (y2.1+e14)) (y2.1+e14) (.int 100 (IntKind.i64.wrap ((y2.1+e14)+e12)) ((y2.1+e14)+e12) (.join ⟨[6,7,8],[(1,0,none)]⟩ [] (some (Dx ((y2.1+e14)+e12,(⟨(l.extract (A8 none) (Be (some e4) l.size))++(⟨(cutL (some y2.1) (some (y2.1+e5)) b).toArray⟩:ByteArray),(⟨(cutL (some (y2.1+e6)) (some ((y2.1+e7)+e8)) b).toArray⟩:ByteArray)⟩:Par)))) (Dx) ((y2.1+e14)+e12,(⟨(l.extract (A8 none) (Be (some e4) l.size))++(⟨(cutL (some y2.1) (some (y2.1+e5)) b).toArray⟩:ByteArray),(⟨(cutL (some (y2.1+e6)) (some ((y2.1+e7)+e8)) b).toArray⟩:ByteArray)⟩:Par)) (JZ))))))) (
.rload 96 (rowC (y2.2.map Aa.f)) (0+Int.toNat 1*1) Aa y2.2 1 0 (fun e15=> .int 97 (IntKind.i64.wrap (y2.1+e15)) (y2.1+e15) (.rload 99 (rowC (y2.2.map Aa.f)) (0+Int.toNat 2*1) Aa y2.2 2 0 (fun e16=> .int 100 (IntKind.i64.wrap ((y2.1+e15)+e16)) ((y2.1+e15)+e16) (.join ⟨[6,7,8],[(1,0,none)]⟩ [] (some (Dx ((y2.1+e15)+e16,(⟨(l.extract (A8 none) (Be (some e4) l.size))++(⟨(cutL (some y2.1) (some (y2.1+e5)) b).toArray⟩:ByteArray),(⟨(cutL (some (y2.1+e6)) (some ((y2.1+e7)+e8)) b).toArray⟩:ByteArray)⟩:Par)))) (Dx) ((y2.1+e15)+e16,(⟨(l.extract (A8 none) (Be (some e4) l.size))++(⟨(cutL (some y2.1) (some (y2.1+e5)) b).toArray⟩:ByteArray),(⟨(cutL (some (y2.1+e6)) (some ((y2.1+e7)+e8)) b).toArray⟩:ByteArray)⟩:Par)) (JZ))))))))))))))))))))))))))))))))))))))))))

theorem jQ (b:List UInt8) (w:List Int) (a:Int) (l:ByteArray):Av DP ΓF5 Δ0 Tryd.f90 [.agg [vl (b.map AA.f),vl (w.map Aa.f)],vi a,vs l] [] (jP b w a l)=jP b w a l:=by kernel_rfl


theorem Eo {d len:Nat} {i:Int} {k:Tree} {K:AE→St→Prop} (h0:0≤i) (h1:i<(len:Int)) (h:k.wp K):(Tree.pidx d len i k).wp K:=⟨h0,h1,h⟩
theorem ΓF5_ok:∀ f,SoundF DP f (ΓF5 f):=An il Bu
theorem Jv {α:Type} (a:Int) (b:List α):cutL (some a) none b=b.drop a.toNat:=rfl
theorem WT:∀ (b:List UInt8) (i a:Nat),(Db i a b).2.1≤i+b.length
 | [],i,a=>by unfold Db; simp
 | c::b,i,a=>by
  have:=WT b (i+1)
  unfold Db
  simp only[List.length_cons]
  repeat' split
  all_goals (first | (have:=this (a+(c.toNat % 128)*2 ^ (7*i)); omega) | (simp only; omega) | omega)
theorem FI (b:List UInt8):0≤(AJ b).1∧0≤(AJ b).2.1∧(AJ b).2.1≤b.length:=by
 have:=WT b 0 0
 unfold AJ
 simp only
 omega
theorem one_step {b:List UInt8} {w:List Int} {l:ByteArray} {ns:List Int} {a:Int} {i:Nat} {K:AE→St→Prop} (hb:b.length≤1000000000) (hi:i<3) (hn:ns.length=3) (ha:0≤a∧a≤b.length)
  (h1:((AJ (b.drop a.toNat)).2.2≠0∨(AJ (b.drop a.toNat)).1>b.length)→K .ret (Ih ()).2)
  (h2:¬((AJ (b.drop a.toNat)).2.2≠0∨(AJ (b.drop a.toNat)).1>b.length)→K .normal (Ig b w l (ns.set i (AJ (b.drop a.toNat)).1,a+(AJ (b.drop a.toNat)).2.1,(i:Int)+1))):
  (Ii b w l (ns,a,(i:Int))).wp K:=by
 have hd:(b.drop a.toNat).length≤1000000000:=by rw[List.length_drop]; omega
 have hg:=FI (b.drop a.toNat)
 rw[List.length_drop] at hg
 unfold Ii Md
 dsimp only
 simp only[Jv]
 refine AC (fun _=>DB (by simp only[CE]; omega) (Ac (Sn hd) (AC (fun h=>?_) (fun h=>?_)))) (fun h'=>absurd (of_decide_eq_false h') (by omega))
 ·exact wp_leaf rfl (h1 (.inl (by simpa using h)))
 ·have e0:(AJ (b.drop a.toNat)).2.2=0:=by simpa using h
  refine Aq (Ej (by omega) (AC (fun g=>?_) (fun g=>?_)))
  ·exact wp_leaf rfl (h1 (.inr (of_decide_eq_true g)))
  ·have g':=of_decide_eq_false g
   exact AP (by omega) (AP (by omega) (Eo (by omega) (by omega) (NP (by omega) (by omega) rfl rfl (AP (by omega) (wp_leaf rfl (h2 (by rintro (g | g); exact g e0; exact g' g)))))))

def S8 (b:List UInt8):Nat→Int→Nat→List Int→Unit ⊕ (Int×List Int)
 | 0,a,_,ns=> .inr (a,ns)
 | j+1,a,i,ns=>if (AJ (b.drop a.toNat)).2.2≠0∨(AJ (b.drop a.toNat)).1>b.length then .inl () else S8 b j (a+(AJ (b.drop a.toNat)).2.1) (i+1) (ns.set i (AJ (b.drop a.toNat)).1)
theorem bf (b:List UInt8) (w:List Int) (l:ByteArray) (hb:b.length≤1000000000):∀ (j i:Nat) (a:Int) (ns:List Int),i+j=3→ns.length=3→0≤a∧a≤b.length→Rounds (Ig b w l) Ih (Mc b w l) (fun s=>(Ii b w l s).wp) (ns,a,(i:Int)) (S8 b j a i ns):=by
 intro j
 induction j with
 | zero=>
  intro i a ns hi hn ha
  rw[S8]
  refine .done' (by intro e; cases e) ?_
  unfold Ii Md
  exact AC (fun h'=>absurd (of_decide_eq_true h') (by simp only; omega)) (fun _=>wp_leaf rfl ⟨rfl,rfl⟩)
 | succ j ih=>
  intro i a ns hi hn ha
  rw[S8]
  by_cases h:(AJ (b.drop a.toNat)).2.2≠0∨(AJ (b.drop a.toNat)).1>b.length
  ·rw[if_pos h]
   exact .done (by intro e; cases e) (one_step hb (by omega) hn ha (fun _=>⟨rfl,rfl⟩) (fun g=>absurd h g))
  ·rw[if_neg h]
   have hg:=FI (b.drop a.toNat)
   rw[List.length_drop] at hg
   have hr:=ih (i+1) (a+(AJ (b.drop a.toNat)).2.1) (ns.set i (AJ (b.drop a.toNat)).1) (by omega) (by rw[List.length_set]; exact hn) (by omega)
   rw[show ((i+1:Nat):Int)=(i:Int)+1 by omega] at hr
   exact .next (one_step hb (by omega) hn ha (fun g=>absurd g h) (fun _=>⟨rfl,rfl⟩)) hr
theorem qT (b:List UInt8) (a:Int) (ha:0≤a):S8 b 3 a 0 [0,0,0] =
  (let r:=b.drop a.toNat; let r1:=r.drop (AJ r).2.1.toNat; let r2:=r1.drop (AJ r1).2.1.toNat
   if (AJ r).2.2≠0∨(AJ r).1>b.length then .inl () else
   if (AJ r1).2.2≠0∨(AJ r1).1>b.length then .inl () else
   if (AJ r2).2.2≠0∨(AJ r2).1>b.length then .inl () else
   .inr (a+(AJ r).2.1+(AJ r1).2.1+(AJ r2).2.1,[(AJ r).1,(AJ r1).1,(AJ r2).1])):=by
 have h0:=(FI (b.drop a.toNat)).2.1
 have e1:b.drop (a+(AJ (b.drop a.toNat)).2.1).toNat=(b.drop a.toNat).drop (AJ (b.drop a.toNat)).2.1.toNat:=by
  rw[List.drop_drop]
  congr 1
  omega
 have h1:=(FI ((b.drop a.toNat).drop (AJ (b.drop a.toNat)).2.1.toNat)).2.1
 have e2:b.drop (a+(AJ (b.drop a.toNat)).2.1+(AJ ((b.drop a.toNat).drop (AJ (b.drop a.toNat)).2.1.toNat)).2.1).toNat=((b.drop a.toNat).drop (AJ (b.drop a.toNat)).2.1.toNat).drop (AJ ((b.drop a.toNat).drop (AJ (b.drop a.toNat)).2.1.toNat)).2.1.toNat:=by
  rw[←e1,List.drop_drop,e1]
  congr 1
  omega
 simp only[S8,e1,e2]
 rfl

def Cu (b:List UInt8) (a:Int) (l:List UInt8):Par×Int×Int:=match Hg b.length (b.drop a.toNat) l with
 | none=>(⟨⟨#[]⟩,⟨#[]⟩⟩,0,2)
 | some (q,r)=>(q,(b.length:Int) - r.length,0)
theorem Hi {S:Nat→Prop} {B:List Box} (x:Par) (n e:Int):Sealed S B (.tup [AK.av x,vi n,vi e]) (.tup [AK.av x,vi n,vi e]):= .tup _ _ rfl (Hh (fun y hy=>by
 rcases List.mem_cons.1 hy with rfl | hy
 ·exact .agg _ _ rfl (Hh (S6 (l:= [.v (.string x.name), .v (.string x.val)])))
 ·rcases List.mem_cons.1 hy with rfl | hy
  ·exact .p _
  ·rcases List.mem_cons.1 hy with rfl | hy
   ·exact .p _
   ·cases hy))
theorem S9 (b:List UInt8) (x y:Nat):cutL (some (x:Int)) (some ((x:Int)+y)) b=(b.drop x).take y:=by
 show (b.take (Int.toNat ((x:Int)+y))).drop (Int.toNat (x:Int))=_
 rw[Int.toNat_natCast,show Int.toNat ((x:Int)+y)=x+y by omega,List.drop_take]
 congr 1
 omega
theorem mn (l:ByteArray) (n0:Nat) (m:List UInt8):l.extract (A8 none) (Be (some (n0:Int)) l.size)++(⟨m.toArray⟩:ByteArray)=⟨(l.data.toList.take n0++m).toArray⟩:=by
 apply ByteArray.ext
 rw[ByteArray.data_append,ByteArray.data_extract]
 apply Array.toList_inj.1
 rw[Array.toList_append,Array.toList_extract,List.extract_eq_take_drop]
 show List.take (Int.toNat (n0:Int) - 0) (List.drop 0 _)++_=_
 simp

theorem jR {a b:ByteArray} {B:List Box} (h:a.size+b.size≤140737488355328):(Io DP .add 9 (vs a) (vs b)).map (fun v=>(v,B))=some (vs (a++b),B):=by
 show (((if a.size+b.size≤140737488355328 then some (Value.string (a++b)) else none:Option Value)).map _).map _=_
 rw[if_pos h]
 rfl
theorem QV {d:Nat} {L:List UInt8} {k:Tree} {K:AE→St→Prop} (h:k.wp K):(Tree.bstrl d (L.map AA.f) L k).wp K:=⟨rfl,h⟩
def wn:List AV→AV→Prop:=fun args r=>∃ (b:List UInt8) (w:List Int) (a:Int) (l:ByteArray),b.length≤1000000000∧l.size≤1000000000∧(0≤a∧a≤b.length)∧args= [.agg [vl (b.map AA.f),vl (w.map Aa.f)],vi a,vs l]∧r= .tup [AK.av (Cu b a l.data.toList).1,vi (Cu b a l.data.toList).2.1,vi (Cu b a l.data.toList).2.2]
noncomputable def bg:=B4 wn
theorem wq:SoundF DP be (.pure bg):=A6 AZ ΓF5_ok Bq um un uo (by
 rintro args r ⟨b,w,a,l,hb,hl,ha,rfl,rfl⟩
 refine ⟨rfl,rfl,_,jQ b w a l,?_⟩
 have hr:=bf b w l hb 3 0 a [0,0,0] rfl rfl ha
 rw[qT b a ha.1] at hr
 have hP:Cu b a l.data.toList=match Hg b.length (b.drop a.toNat) l.data.toList with | none=>(⟨⟨#[]⟩,⟨#[]⟩⟩,0,2) | some (q,r)=>(q,(b.length:Int) - r.length,0):=rfl
 unfold Hg at hP
 simp only at hr hP
 have f0:=FI (b.drop a.toNat)
 have f1:=FI ((b.drop a.toNat).drop (AJ (b.drop a.toNat)).2.1.toNat)
 have f2:=FI (((b.drop a.toNat).drop (AJ (b.drop a.toNat)).2.1.toNat).drop (AJ ((b.drop a.toNat).drop (AJ (b.drop a.toNat)).2.1.toNat)).2.1.toNat)
 generalize hR0:b.drop a.toNat=R0 at *
 generalize hR1:R0.drop (AJ R0).2.1.toNat=R1 at *
 generalize hR2:R1.drop (AJ R1).2.1.toNat=R2 at *
 have l0:(R0.length:Int)=b.length - a:=by rw[←hR0,List.length_drop]; omega
 have l1:(R1.length:Int)=R0.length - (AJ R0).2.1:=by rw[←hR1,List.length_drop]; omega
 have l2:(R2.length:Int)=R1.length - (AJ R1).2.1:=by rw[←hR2,List.length_drop]; omega
 unfold jP
 by_cases c0:(AJ R0).2.2≠0∨(AJ R0).1>b.length
 ·rw[if_pos c0] at hr hP
  rw[hP]
  exact BH () rfl hr (wp_leaf rfl (Hi ⟨⟨#[]⟩,⟨#[]⟩⟩ 0 2))
 rw[if_neg c0] at hr hP
 by_cases c1:(AJ R1).2.2≠0∨(AJ R1).1>b.length
 ·rw[if_pos c1] at hr hP
  rw[hP]
  exact BH () rfl hr (wp_leaf rfl (Hi ⟨⟨#[]⟩,⟨#[]⟩⟩ 0 2))
 rw[if_neg c1] at hr hP
 by_cases c2:(AJ R2).2.2≠0∨(AJ R2).1>b.length
 ·rw[if_pos c2] at hr hP
  rw[hP]
  exact BH () rfl hr (wp_leaf rfl (Hi ⟨⟨#[]⟩,⟨#[]⟩⟩ 0 2))
 rw[if_neg c2] at hr hP
 have hR3:R2.drop (AJ R2).2.1.toNat=b.drop (a+(AJ R0).2.1+(AJ R1).2.1+(AJ R2).2.1).toNat:=by
  rw[←hR2,←hR1,←hR0,List.drop_drop,List.drop_drop,List.drop_drop,hR0,hR1,hR2]
  congr 1
  omega
 rw[hR3] at hP
 obtain ⟨at3,h3⟩:=Int.eq_ofNat_of_zero_le (show 0≤a+(AJ R0).2.1+(AJ R1).2.1+(AJ R2).2.1 by omega)
 obtain ⟨n0,h0⟩:=Int.eq_ofNat_of_zero_le f0.1
 obtain ⟨n1,h1⟩:=Int.eq_ofNat_of_zero_le f1.1
 obtain ⟨n2,h2⟩:=Int.eq_ofNat_of_zero_le f2.1
 have b3:a+(AJ R0).2.1+(AJ R1).2.1+(AJ R2).2.1≤b.length:=by omega
 have b0:(AJ R0).1≤b.length:=by omega
 have b1:(AJ R1).1≤b.length:=by omega
 have b2:(AJ R2).1≤b.length:=by omega
 rw[h3] at hr hP b3
 rw[h0] at hr hP b0
 rw[h1] at hr hP b1
 rw[h2] at hr hP b2
 have hsz:l.data.toList.length=l.size:=rfl
 rw[List.length_drop,hsz] at hP
 refine Dk _ rfl hr (Eo (by decide) (by decide) (Bb _ (by decide) rfl rfl (AC (fun g=>?_) (fun g=>?_))))
 ·have g:=of_decide_eq_true g
  rw[if_pos (.inl (by omega))] at hP
  rw[hP]
  exact wp_leaf rfl (Hi ⟨⟨#[]⟩,⟨#[]⟩⟩ 0 2)
 ·have g:=of_decide_eq_false g
  refine Eo (by decide) (by decide) (Bb _ (by decide) rfl rfl (Eo (by decide) (by decide) (Bb _ (by decide) rfl rfl (AP (by omega) (Aq (AP (by simp only; omega) (AC (fun k=>?_) (fun k=>?_))))))))
  ·have k:=of_decide_eq_true k
   rw[if_pos (.inr (by simp only at k; omega))] at hP
   rw[hP]
   exact wp_leaf rfl (Hi ⟨⟨#[]⟩,⟨#[]⟩⟩ 0 2)
  ·have k:=of_decide_eq_false k
   simp only at k
   rw[if_neg (by rintro (e | e) <;> omega)] at hP
   have hcat:(l.extract (A8 none) (Be (some (n0:Int)) l.size)).size+(⟨(cutL (some (at3:Int)) (some ((at3:Int)+n1)) b).toArray⟩:ByteArray).size≤140737488355328:=by
    rw[S9,ByteArray.size_extract]
    show _+((b.drop at3).take n1).toArray.size≤_
    simp only[List.size_toArray,List.length_take,List.length_drop]
    omega
   dsimp only
   repeat' first
    | refine Cg ?_
    | refine DU ?_ ?_
    | refine Ab rfl ?_
    | refine Eo (by decide) (by decide) ?_
    | refine Bb _ (by decide) rfl rfl ?_
    | refine Gg (by simp only[CE]; omega) ?_
    | refine DB (by simp only[CE]; omega) ?_
    | refine QV ?_
    | refine Dn (jR hcat) ?_
    | refine AP (by (try simp only); omega) ?_
   all_goals (
    unfold JZ
    have e1:=S9 b (at3+n1) n2
    rw[show ((at3+n1:Nat):Int)=(at3:Int)+n1 by omega] at e1
    rw[mn,S9,e1]
    refine wp_leaf rfl ?_
    rw[hP]
    have e2:(b.length:Int) - (((b.drop (Int.toNat (at3:Int))).drop (Int.toNat ((n1:Int)+n2))).length:Int)=(at3:Int)+n1+n2:=by
     rw[List.length_drop,List.length_drop]; omega
    simp only[Int.toNat_natCast] at e2 ⊢
    rw[e2,show b.drop (at3+n1)=(b.drop at3).drop n1 by rw[List.drop_drop]]
    exact Hi _ _ 0))

noncomputable def ΓF6:BF:=DG [(be,bg)]

noncomputable def Ec (b:List UInt8) (w:List Int) (s1:(List Par)×Int×ByteArray):St:=([(1,vi s1.2.1),(2,vi (-1)),(3, .ptr 0 0 0),(8, .rs 1 0 2 0 s1.1.length),(9,vs s1.2.2)],[.cells false 0 ([vl (b.map AA.f),vl (w.map Aa.f)]),AK.bx 0 s1.1])
noncomputable def GH (x1:Int):AE×St:=(.ret,([(6,AI),(7,vi x1)],[]))
noncomputable def Ep (y1:(List Par)):AE×St:=((.exit 0),([(8, .rs 0 0 2 0 y1.length)],[AK.bx 0 y1]))
noncomputable def HF (b:List UInt8) (w:List Int) (p1a:List Par) (p1b:Int) (p1c:ByteArray):Tree:=
.int 16 ((b.map AA.f).length:Int) (b.length:Int) (.sp 17 (decide (p1b<(b.length:Int))) (
.sp 22 (((p1a.length:Nat):Int) != ((-1):Int)) (
.call 28 (bg [.agg [vl (b.map AA.f),vl (w.map Aa.f)],vi p1b,vs p1c]=some (.tup [(AK.av ((Cu b p1b p1c.data.toList).1)),vi ((Cu b p1b p1c.data.toList).2.1),vi ((Cu b p1b p1c.data.toList).2.2)])) (.tup [(AK.av ((Cu b p1b p1c.data.toList).1)),vi ((Cu b p1b p1c.data.toList).2.1),vi ((Cu b p1b p1c.data.toList).2.2)]) (.sp 33 (((Cu b p1b p1c.data.toList).2.2) != (0:Int)) (
.leaf ⟨[6,7],[]⟩ [] .ret (some (GH ((Cu b p1b p1c.data.toList).2.2)).2)) (
.any (.fork (
.app 38 (.row 1 ([vs (((Cu b p1b p1c.data.toList).1).name),vs (((Cu b p1b p1c.data.toList).1).val)])) p1a.length (rowC (p1a.map AK.f)) AK p1a ([((Cu b p1b p1c.data.toList).1)]) (.leaf ⟨[1,2,3,8,9],[(0,0,none),(1,1,some ((p1a++([((Cu b p1b p1c.data.toList).1)])).map AK.f))]⟩ [rowC ((p1a++([((Cu b p1b p1c.data.toList).1)])).map AK.f)] .normal (some (Ec b w (p1a++([((Cu b p1b p1c.data.toList).1)]),(Cu b p1b p1c.data.toList).2.1,((Cu b p1b p1c.data.toList).1).name))))) (
.app 38 (.row 1 ([vs (((Cu b p1b p1c.data.toList).1).name),vs (((Cu b p1b p1c.data.toList).1).val)])) p1a.length (rowC (p1a.map AK.f)) AK p1a ([((Cu b p1b p1c.data.toList).1)]) (.leaf ⟨[1,2,3,8,9],[(0,0,none),(1,1,some ((p1a++([((Cu b p1b p1c.data.toList).1)])).map AK.f))]⟩ [rowC ((p1a++([((Cu b p1b p1c.data.toList).1)])).map AK.f)] .normal (some (Ec b w (p1a++([((Cu b p1b p1c.data.toList).1)]),(Cu b p1b p1c.data.toList).2.1,((Cu b p1b p1c.data.toList).1).name))))))))) (
.leaf ⟨[8],[(1,0,some (p1a.map AK.f))]⟩ [rowC (p1a.map AK.f)] (.exit 0) (some (Ep p1a).2))) (
.leaf ⟨[8],[(1,0,some (p1a.map AK.f))]⟩ [rowC (p1a.map AK.f)] (.exit 0) (some (Ep p1a).2)))
noncomputable def Ed (b:List UInt8) (w:List Int) (s1:(List Par)×Int×ByteArray):Tree:=
HF b w s1.1 s1.2.1 s1.2.2
noncomputable def WU (b:List UInt8) (w:List Int):Tree:=
.nilrow 8 2 (.loop ⟨[1,2,3,8,9],[(0,0,none),(1,0,some (([]:List Par).map AK.f))]⟩ [rowC (([]:List Par).map AK.f)] (some (Ec b w (([]:List Par),0,⟨#[]⟩))) (Ec b w) (GH) (Ep) (([]:List Par),0,⟨#[]⟩) (Ed b w) (fun (x1:Int)=> .leaf ⟨[0],[]⟩ [] .ret (some ([(0, .tup [AI,vi x1])],[]))) (fun (y1:(List Par))=> .leaf ⟨[0],[(0,0,some (y1.map AK.f))]⟩ [rowC (y1.map AK.f)] .ret (some ([(0, .tup [.rs 0 0 2 0 y1.length,vi 0])],[AK.bx 0 y1]))))

theorem bh (b:List UInt8) (w:List Int):Av DP ΓF6 Δ0 Tryd.f72 [.agg [vl (b.map AA.f),vl (w.map Aa.f)],vi 0,vi (-1)] [] (WU b w)=WU b w:=by kernel_rfl


theorem WV:∀ (b:List UInt8) (i a:Nat),(Db i a b).2.2=0→i+1≤(Db i a b).2.1
 | [],i,a,h=>by unfold Db at h; cases h
 | c::b,i,a,h=>by
  have ih:=WV b (i+1) (a+c.toNat % 128*2 ^ (7*i))
  unfold Db at h ⊢
  split at h
  ·cases h
  ·rename_i h1
   rw[if_neg h1]
   split at h
   ·rename_i h2
    rw[if_pos h2]
    split at h
    ·cases h
    ·rename_i h3
     rw[if_neg h3]
     exact Nat.le_refl _
   ·rename_i h2
    rw[if_neg h2]
    have:=ih h
    omega
theorem jS {b:List UInt8} (h:(AJ b).2.2=0):1≤(AJ b).2.1:=by
 have:=WV b 0 0 (by unfold AJ at h; simp only at h; omega)
 unfold AJ
 simp only
 omega
theorem WW {N:Nat} {r last:List UInt8} {p:Par} {r':List UInt8} (h:Hg N r last=some (p,r')):∃ m,1≤m∧m≤r.length∧r'=r.drop m∧p.nl.length≤last.length+m:=by
 have f0:=FI r
 have f1:=FI (r.drop (AJ r).2.1.toNat)
 have f2:=FI ((r.drop (AJ r).2.1.toNat).drop (AJ (r.drop (AJ r).2.1.toNat)).2.1.toNat)
 unfold Hg at h
 simp only at h
 split at h
 ·cases h
 ·rename_i c0
  split at h
  ·cases h
  ·split at h
   ·cases h
   ·split at h
    ·cases h
    ·rename_i c3
     have g0:=jS (b:=r) (by omega)
     simp only[List.length_drop] at f1 f2 c3
     cases h
     refine ⟨(AJ r).2.1.toNat+(AJ (r.drop (AJ r).2.1.toNat)).2.1.toNat+(AJ ((r.drop (AJ r).2.1.toNat).drop (AJ (r.drop (AJ r).2.1.toNat)).2.1.toNat)).2.1.toNat+((AJ (r.drop (AJ r).2.1.toNat)).1+(AJ ((r.drop (AJ r).2.1.toNat).drop (AJ (r.drop (AJ r).2.1.toNat)).2.1.toNat)).1).toNat,by omega,by omega,?_,?_⟩
     ·rw[List.drop_drop,List.drop_drop,List.drop_drop]
      congr 1
      omega
     ·simp only[Par.nl,List.toList_toArray,List.length_append,List.length_take,List.length_drop]
      omega
def Ar (b:List UInt8):List Par×Int:=match C4 b.length b.length b [] with
 | none=>([],2)
 | some L=>(L,0)
theorem mo {b:List UInt8} {w:List Int} {a:Int} {l:ByteArray} (hb:b.length≤1000000000) (hl:l.size≤1000000000) (ha:0≤a∧a≤b.length):bg [.agg [vl (b.map AA.f),vl (w.map Aa.f)],vi a,vs l]=some (.tup [AK.av (Cu b a l.data.toList).1,vi (Cu b a l.data.toList).2.1,vi (Cu b a l.data.toList).2.2]):=BT (by
 rintro args r r' ⟨b1,w1,a1,l1,_,_,_,h1,rfl⟩ ⟨b2,w2,a2,l2,_,_,_,h2,rfl⟩
 have h:=h1.symm.trans h2
 simp only[List.cons.injEq,AV.agg.injEq,and_true] at h
 obtain ⟨⟨e1,_⟩,e3,e4⟩:=h
 cases e3
 cases e4
 rw[EP e1]) ⟨b,w,a,l,hb,hl,ha,rfl,rfl⟩
theorem ΓF6_ok:∀ f,SoundF DP f (ΓF6 f):=An wq Bu
def RP (out:List Par):Option (List Par)→Int ⊕ List Par
 | none=> .inl 2
 | some L=> .inr (out++L)
theorem Yp (b:List UInt8) (w:List Int) (hb:b.length≤1000000000):∀ (f:Nat) (r:List UInt8) (a:Nat) (out:List Par) (l:ByteArray),b.drop a=r→a+r.length=b.length→r.length≤f→out.length≤a→l.size≤a →
  Rounds (Ec b w) GH Ep (fun s=>(Ed b w s).wp) (out,(a:Int),l) (RP out (C4 b.length f r l.data.toList)):=by
 have stop:∀ (f a:Nat) (out:List Par) (l:ByteArray),b.length≤a→Rounds (Ec b w) GH Ep (fun s=>(Ed b w s).wp) (out,(a:Int),l) (RP out (C4 b.length f [] l.data.toList)):=by
  intro f a out l h
  have e:C4 b.length f [] l.data.toList=some []:=by cases f <;> rfl
  rw[e]
  show Rounds _ _ _ _ _ (.inr (out++ []))
  rw[List.append_nil]
  refine .done' (by intro e; cases e) ?_
  unfold Ed HF
  exact Aq (AC (fun h'=>absurd (of_decide_eq_true h') (by simp only; omega)) (fun _=>wp_leaf rfl ⟨rfl,rfl⟩))
 intro f
 induction f with
 | zero=>
  intro r a out l hr hl hf ho hz
  have:r= []:=List.eq_nil_of_length_eq_zero (by omega)
  subst this
  exact stop 0 a out l (by simp only[List.length_nil] at hl; omega)
 | succ f ih=>
  intro r a out l hr hl hf ho hz
  cases r with
  | nil=>exact stop (f+1) a out l (by simp only[List.length_nil] at hl; omega)
  | cons c r=>
   simp only[List.length_cons] at hl hf
   have hP:Cu b (a:Int) l.data.toList=match Hg b.length (c::r) l.data.toList with
    | none=>(⟨⟨#[]⟩,⟨#[]⟩⟩,0,2)
    | some (q,r)=>(q,(b.length:Int) - r.length,0):=by
    unfold Cu
    rw[Int.toNat_natCast,hr]
    all_goals rfl
   have hcall:=mo (b:=b) (w:=w) (a:=(a:Int)) (l:=l) hb (by omega) (by omega)
   rw[C4]
   cases h1:Hg b.length (c::r) l.data.toList with
   | none=>
    rw[h1] at hP
    simp only at hP
    refine .done (by intro e; cases e) ?_
    unfold Ed HF
    dsimp only
    rw[hP] at hcall ⊢
    exact Aq (AC (fun _=>AC (fun _=>Ac hcall (AC (fun _=>wp_leaf rfl ⟨rfl,rfl⟩) (fun h'=>by simp at h'))) (fun h'=>absurd h' (by rw[bne_eq_false_iff_eq]; omega))) (fun h'=>absurd (of_decide_eq_false h') (by omega)))
   | some z=>
    obtain ⟨p,r'⟩:=z
    rw[h1] at hP
    simp only at hP
    obtain ⟨m,m1,m2,m3,m4⟩:=WW h1
    simp only[List.length_cons] at m2
    have hr':b.drop (a+m)=r':=by rw[←List.drop_drop,hr,m3]
    have hl':a+m+r'.length=b.length:=by rw[m3,List.length_drop,List.length_cons]; omega
    have hsz:p.nl.length=p.name.size:=rfl
    have hsl:l.data.toList.length=l.size:=rfl
    have hi:=ih r' (a+m) (out++ [p]) p.name hr' hl' (by omega) (by rw[List.length_append,List.length_singleton]; omega) (by omega)
    have e:RP (out++ [p]) (C4 b.length f r' p.name.data.toList)=RP out ((C4 b.length f r' p.nl).map (p :: ·)):=by
     show RP (out++ [p]) (C4 b.length f r' p.nl)=_
     cases C4 b.length f r' p.nl with
     | none=>rfl
     | some L=>show Sum.inr _=Sum.inr _; simp
    rw[e,show ((a+m:Nat):Int)=(b.length:Int) - r'.length by omega] at hi
    refine .next ?_ hi
    unfold Ed HF
    dsimp only
    rw[hP] at hcall ⊢
    refine Aq (AC (fun _=>AC (fun _=>Ac hcall (AC (fun h'=>by simp at h') (fun _=>Cg (DU ?_ ?_)))) (fun h'=>absurd h' (by rw[bne_eq_false_iff_eq]; omega))) (fun h'=>absurd (of_decide_eq_false h') (by omega)))
    all_goals exact BW ⟨rfl,rfl⟩ rfl (by rw[List.length_append,List.length_singleton]; omega) (wp_leaf rfl ⟨rfl,rfl⟩)
def qU:List AV→AV→Prop:=fun args r=>∃ (b:List UInt8) (w:List Int),b.length≤1000000000∧args= [.agg [vl (b.map AA.f),vl (w.map Aa.f)],vi 0,vi (-1)]∧r= .tup [vl ((Ar b).1.map AK.f),vi (Ar b).2]
noncomputable def Np:=B4 qU
theorem Nq {α:Type} {E:Enc α} {L:List α} {e:Int}:Sealed (fun _=>True) [E.bx 0 L] (.tup [.rs 0 0 E.sz 0 L.length,vi e]) (.tup [vl (L.map E.f),vi e]):= .tup _ _ rfl (fun j c d h1 h2=>by
 match j,h1,h2 with
 | 0,h1,h2=>cases h1; cases h2; exact E.elt.sealed trivial rfl
 | 1,h1,h2=>cases h1; cases h2; exact .p _
 | j+2,h1,h2=>cases h1)
theorem Nr {α:Type} {E:Enc α} {B:List Box} {e:Int}:Sealed (fun _=>True) B (.tup [AI,vi e]) (.tup [vl (([]:List α).map E.f),vi e]):= .tup _ _ rfl (fun j c d h1 h2=>by
 match j,h1,h2 with
 | 0,h1,h2=>cases h1; cases h2; exact .nil
 | 1,h1,h2=>cases h1; cases h2; exact .p _
 | j+2,h1,h2=>cases h1)
theorem qV:SoundF DP RO (.pure Np):=A6 AZ ΓF6_ok Bq mj ml mm (by
 rintro args r ⟨b,w,hb,rfl,rfl⟩
 refine ⟨rfl,rfl,_,bh b w,?_⟩
 have hr:=Yp b w hb b.length b 0 [] ⟨#[]⟩ List.drop_zero (Nat.zero_add _) (Nat.le_refl _) (Nat.le_refl _) (Nat.le_refl _)
 have e:(⟨#[]⟩:ByteArray).data.toList= []:=rfl
 rw[e] at hr
 unfold WU Ar
 refine DM ?_
 cases hA:C4 b.length b.length b [] with
 | none=>
  rw[hA] at hr
  exact BH 2 rfl hr (wp_leaf rfl Nr)
 | some L=>
  rw[hA] at hr
  have hr:Rounds (Ec b w) GH Ep (fun s=>(Ed b w s).wp) ([],((0:Nat):Int),⟨#[]⟩) (.inr L):=hr
  exact Dk L rfl hr (wp_leaf rfl Nq))
theorem Ts {b:List UInt8} {w:List Int} (hb:b.length≤1000000000):Np [.agg [vl (b.map AA.f),vl (w.map Aa.f)],vi 0,vi (-1)]=some (.tup [vl ((Ar b).1.map AK.f),vi (Ar b).2]):=BT (by
 rintro args r r' ⟨b1,w1,_,h1,rfl⟩ ⟨b2,w2,_,h2,rfl⟩
 have h:=h1.symm.trans h2
 simp only[List.cons.injEq,AV.agg.injEq,and_true] at h
 rw[EP h.1]) ⟨b,w,hb,rfl,rfl⟩
end Go.Ax
