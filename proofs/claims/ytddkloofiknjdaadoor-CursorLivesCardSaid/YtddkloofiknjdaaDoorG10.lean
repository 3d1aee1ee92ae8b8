/- Contracts: numbers read. -/
import Derived.Test.YtddkloofiknjdaaDoorG9
import Derived.Test.YtddkloofiknjdaaDoorG8
import Derived.Shelf.SlIter.Nil
import Derived.Shelf.SortM.Plain
import Derived.Shelf.SortM.SortNone
import Derived.WalkKit
import Derived.ProofKit
import Derived.OwnWalk
import Derived.Lib.Walk
import Derived.Lib.SliceRun
import Derived.Laws.AppendOwn
set_option linter.unusedVariables false
set_option linter.unusedSimpArgs false
set_option linter.unusedSectionVars false
namespace Go.Ax
open Go.Proofs Go.RowKit
set_option maxRecDepth 100000

theorem Sk (l:List UInt8):Hb l<256 ^ l.length:=by
 induction l with
 | nil=>decide
 | cons c l ih=>
  rw[Hb,List.length_cons,Nat.pow_succ]
  have:=c.toNat_lt
  have h2:c.toNat+256*Hb l<256*(Hb l+1):=by omega
  exact Nat.lt_of_lt_of_le h2 (by rw[Nat.mul_comm]; exact Nat.mul_le_mul_right 256 ih)
theorem Nc {m c k:Nat} (h:c<2 ^ k):Bd ((m*2 ^ k:Nat):Int) (c:Int)=((m*2 ^ k+c:Nat):Int):=by
 unfold Bd
 rw[Int.toNat_natCast,Int.toNat_natCast,←Nat.shiftLeft_eq,←Nat.shiftLeft_add_eq_or_of_lt h]
theorem ij (a b:Int):Bd a b=Bd b a:=by unfold Bd; rw[Nat.or_comm]
theorem ZS {n:Nat} (c:UInt8) (h:n<256 ^ 7):Bd (((n:Int)*256) % 18446744073709551616) (c.toNat:Int)=((c.toNat+256*n:Nat):Int):=by
 have e:((n:Int)*256) % 18446744073709551616=((n*2 ^ 8:Nat):Int):=by omega
 rw[e,Nc (by have:=c.toNat_lt; omega)]
 omega

theorem Ua (b:List UInt8) (hb:b.length≤1000000000):∀ (j:Nat),j≤(b.take 8).length→Rounds (G8 b) Jq CN (fun s=>(G9 b s).wp) (((Hb ((b.take 8).drop j):Nat):Int),(j:Int) - 1) (.inl ((Hb (b.take 8):Nat):Int)):=by
 intro j
 induction j with
 | zero=>
  intro _
  refine .done (by intro e; cases e) ?_
  unfold G9
  refine AC (fun h'=>absurd (of_decide_eq_true h') (by simp only; omega)) (fun _=>wp_leaf rfl ⟨rfl,rfl⟩)
 | succ j ih=>
  intro hj
  refine .next ?_ (ih (by omega))
  have hl:(b.take 8).length≤8:=by simp; omega
  have hjb:j<b.length:=by simp at hj; omega
  have ha:b[j]? = some b[j]:=List.getElem?_eq_getElem hjb
  have hd:(b.take 8).drop j=b[j]::(b.take 8).drop (j+1):=by
   rw[List.drop_eq_getElem_cons (by omega)]
   simp
  have hn:Hb ((b.take 8).drop (j+1))<256 ^ 7:=by
   have h1:=Sk ((b.take 8).drop (j+1))
   exact Nat.lt_of_lt_of_le h1 (Nat.pow_le_pow_right (by decide) (by rw[List.length_drop]; omega))
  unfold G9
  refine AC (fun _=>Ai (RD _) (Cm b[j] (by simp only; omega) (by simp only; rw[show (((j+1:Nat):Int) - 1).toNat=j by omega]; exact ha) (Ai (Dl (by have:=G7 b[j]; omega)) (Ai (Sd (by simp only; omega) (by have:=G7 b[j]; omega)) (AP (by simp only; omega) (wp_leaf rfl ⟨rfl,?_⟩)))))) (fun h'=>absurd (of_decide_eq_false h') (by simp only; omega))
  have e1:=ZS b[j] hn
  have e2:((j+1:Nat):Int) - 1 - 1=(j:Int) - 1:=by omega
  simp only[e1,e2,hd,Hb]

def mO:List AV→AV→Prop:=fun args r=>∃ (b:List UInt8),b.length≤1000000000∧args= [vl (b.map AA.f)]∧r=vn .u64 (AO b)
noncomputable def El:=B4 mO
theorem Sl:SoundF DP JV (.pure El):=A6 AZ Γ0_ok Bq iX iY iZ (by
 rintro args r ⟨b,hb,rfl,rfl⟩
 refine ⟨rfl,rfl,_,YW b,?_⟩
 unfold Si
 have hr:=Ua b hb (b.take 8).length (Nat.le_refl _)
 rw[List.drop_of_length_le (Nat.le_refl _)] at hr
 have e:(if (8:Int)<((b.length:Int):Int) then (8:Int) else ((b.length:Int):Int))=(((b.take 8).length:Nat):Int):=by
  rw[List.length_take]; split <;> omega
 rw[e]
 have hl:(b.take 8).length≤8:=by simp; omega
 exact Aq (AP (by omega) (BH _ rfl hr (wp_leaf rfl (.p _)))))

theorem Sm {x s:Int} {B:List Box} (h:0≤s):(Io DP .shl 28 (vn .u64 x) (vi s)).map (fun v=>(v,B))=some (vn .u64 (IntKind.u64.wrap (x*2 ^ (min (Int.toNat s) 64))),B):=by
 show (((if s<0 then none else some _:Option Value)).map _).map _=_
 rw[if_neg (by omega)]
 rfl
theorem ik {a i:Nat} (c:UInt8) (hi:i≤9) (ha:a<2 ^ (7*i)) (hc:i=9→c.toNat≤1):
  Bd (a:Int) (IntKind.u64.wrap (((c.toNat:Int) % 128)*2 ^ (min (Int.toNat (7*(i:Int))) 64)))=((a+c.toNat % 128*2 ^ (7*i):Nat):Int) ∧
  (0≤IntKind.u64.wrap (((c.toNat:Int) % 128)*2 ^ (min (Int.toNat (7*(i:Int))) 64))∧IntKind.u64.wrap (((c.toNat:Int) % 128)*2 ^ (min (Int.toNat (7*(i:Int))) 64))<18446744073709551616):=by
 have e1:min (Int.toNat (7*(i:Int))) 64=7*i:=by omega
 have e2:((c.toNat:Int) % 128)*2 ^ (7*i)=((c.toNat % 128*2 ^ (7*i):Nat):Int):=by simp
 have hlt:c.toNat % 128*2 ^ (7*i)<18446744073709551616:=by
  by_cases h9:i=9
  ·subst h9
   have:=hc rfl
   have h3:c.toNat % 128≤1:=by omega
   exact Nat.lt_of_le_of_lt (Nat.mul_le_mul_right _ h3) (by decide)
  ·have h3:c.toNat % 128≤127:=by omega
   have h4:2 ^ (7*i)≤2 ^ 56:=Nat.pow_le_pow_right (by decide) (by omega)
   exact Nat.lt_of_le_of_lt (Nat.mul_le_mul h3 h4) (by decide)
 rw[e1,e2,Dl (by omega)]
 refine ⟨?_,by omega⟩
 rw[ij,Nc ha,Nat.add_comm]

theorem get_rounds (b:List UInt8) (hb:b.length≤1000000000):∀ (rest:List UInt8) (i a:Nat),b.drop i=rest→i≤9→a<2 ^ (7*i) →
  Rounds (Fi b) Dw I4 (fun s=>(ER b s).wp) ((i:Int),(a:Int)) (.inl (((Db i a rest).1:Int),((Db i a rest).2.1:Int),((Db i a rest).2.2:Int))) ∨
  (Rounds (Fi b) Dw I4 (fun s=>(ER b s).wp) ((i:Int),(a:Int)) (.inr ())∧Db i a rest=(0,0,8)):=by
 intro rest
 induction rest with
 | nil=>
  intro i a hd hi ha
  have hl:b.length≤i:=List.drop_eq_nil_iff.1 hd
  refine .inr ⟨.done' (by intro e; cases e) ?_,rfl⟩
  unfold ER
  exact AC (fun h'=>absurd (of_decide_eq_true h') (by simp only; omega)) (fun _=>wp_leaf rfl ⟨rfl,rfl⟩)
 | cons c r ih=>
  intro i a hd hi ha
  have hlt:i<b.length:=by
   rcases Nat.lt_or_ge i b.length with h | h
   ·exact h
   ·rw[List.drop_of_length_le h] at hd; cases hd
  have hg:b[i]? = some c:=by
   rw[←List.head?_drop,hd]; rfl
  have hdr:b.drop (i+1)=r:=by rw[←List.tail_drop,hd]; rfl
  have hcb:=c.toNat_lt
  have hA:a<18446744073709551616:=Nat.lt_of_lt_of_le ha (Nat.le_trans (Nat.pow_le_pow_right (by decide) (by omega:7*i≤64)) (by decide))
  by_cases herr:i=9∧1<c.toNat
  ·refine .inl (.done (by intro e; cases e) ?_)
   rw[Db,if_pos herr]
   unfold ER
   exact AC (fun _=>Cm c (by simp only; omega) (by simpa using hg) (AC (fun _=>AC (fun _=>wp_leaf rfl ⟨rfl,rfl⟩) (fun h=>absurd (of_decide_eq_false h) (by omega))) (fun h=>absurd h (by simp[herr.1])))) (fun h=>absurd (of_decide_eq_false h) (by simp only; omega))
  ·obtain ⟨s1,s2⟩:=ik c hi ha (fun h=>by omega)
   have hm:(0:Int)≤(c.toNat:Int) % 128∧(c.toNat:Int) % 128<128:=by omega
   have hsz:a+c.toNat % 128*2 ^ (7*i)<2 ^ (7*(i+1)):=by
    rw[show 7*(i+1)=7*i+7 by omega,Nat.pow_add]
    have h3:c.toNat % 128≤127:=by omega
    have:=Nat.mul_le_mul_right (2 ^ (7*i)) h3
    omega
   rw[Db,if_neg herr]
   by_cases h128:c.toNat<128
   ·rw[if_pos h128]
    have hcm:c.toNat % 128=c.toNat:=Nat.mod_eq_of_lt h128
    refine .inl (.done (by intro e; cases e) ?_)
    by_cases hz:c.toNat=0∧0<i
    ·rw[if_pos hz]
     unfold ER
     refine AC (fun _=>Cm c (by simp only; omega) (by simpa using hg) (AC (fun h9=>AC (fun h=>absurd (of_decide_eq_true h) (by simp only[beq_iff_eq] at h9; omega)) (fun _=>?_)) (fun _=>?_))) (fun h=>absurd (of_decide_eq_false h) (by simp only; omega))
     all_goals exact Ai (Vy (by omega)) (Ai (Dl (by omega)) (AP (by simp only; omega) (Dn (Sm (by simp only; omega)) (Ai (Sd (by simp only; omega) s2) (AC (fun _=>AC (fun _=>AC (fun _=>wp_leaf rfl ⟨rfl,rfl⟩) (fun h=>absurd (of_decide_eq_false h) (by simp only; omega))) (fun h=>absurd h (by simp[hz.1]))) (fun h=>absurd (of_decide_eq_false h) (by omega)))))))
    ·rw[if_neg hz]
     unfold ER
     refine AC (fun _=>Cm c (by simp only; omega) (by simpa using hg) (AC (fun h9=>AC (fun h=>absurd (of_decide_eq_true h) (by simp only[beq_iff_eq] at h9; omega)) (fun _=>?_)) (fun _=>?_))) (fun h=>absurd (of_decide_eq_false h) (by simp only; omega))
     all_goals refine Ai (Vy (by omega)) (Ai (Dl (by omega)) (AP (by simp only; omega) (Dn (Sm (by simp only; omega)) (Ai (Sd (by simp only; omega) s2) (AC (fun _=>AC (fun h0=>AC (fun h1=>absurd (of_decide_eq_true h1) (by simp only[beq_iff_eq] at h0; simp only; omega)) (fun _=>AP (by simp only; omega) (wp_leaf rfl ⟨rfl,?_⟩))) (fun _=>AP (by simp only; omega) (wp_leaf rfl ⟨rfl,?_⟩))) (fun h=>absurd (of_decide_eq_false h) (by omega)))))))
     all_goals
      simp only[s1,hcm]
      rfl
   ·rw[if_neg h128]
    have hi8:i+1≤9:=by omega
    have hnext:=ih (i+1) (a+c.toNat % 128*2 ^ (7*i)) hdr hi8 hsz
    have hb1:(ER b ((i:Int),(a:Int))).wp (fun e s=>e= .normal∧s=Fi b (((i+1:Nat):Int),((a+c.toNat % 128*2 ^ (7*i):Nat):Int))):=by
     unfold ER
     refine AC (fun _=>Cm c (by simp only; omega) (by simpa using hg) (AC (fun h9=>AC (fun h=>absurd (of_decide_eq_true h) (by simp only[beq_iff_eq] at h9; omega)) (fun _=>?_)) (fun _=>?_))) (fun h=>absurd (of_decide_eq_false h) (by simp only; omega))
     all_goals refine Ai (Vy (by omega)) (Ai (Dl (by omega)) (AP (by simp only; omega) (Dn (Sm (by simp only; omega)) (Ai (Sd (by simp only; omega) s2) (AC (fun h=>absurd (of_decide_eq_true h) (by omega)) (fun _=>AP (by simp only; omega) (wp_leaf rfl ⟨rfl,?_⟩)))))))
     all_goals
      simp only[s1]
      rfl
    rcases hnext with h | ⟨h,he⟩
    ·exact .inl (.next hb1 h)
    ·exact .inr ⟨.next hb1 h,he⟩

def wY:List AV→AV→Prop:=fun args r=>∃ (b:List UInt8),b.length≤1000000000∧args= [vl (b.map AA.f)]∧r= .tup [vn .u64 (AJ b).1,vi (AJ b).2.1,vi (AJ b).2.2]
noncomputable def Nd:=B4 wY
theorem WA {S:Nat→Prop} {B:List Box} {cs ds:List AV} (h:cs=ds) (hp:cs.all E6=true):Sealed S B (.tup cs) (.tup ds):=by
 subst h
 refine .tup _ _ rfl fun j c d hc hd=>?_
 rw[hc] at hd; cases hd
 have:=List.all_eq_true.1 hp c (List.mem_of_getElem? hc)
 cases c with
 | p x=>exact .p x
 | _=>cases this
theorem il:SoundF DP Sh (.pure Nd):=A6 AZ Γ0_ok Bq tu tv tw (by
 rintro args r ⟨b,hb,rfl,rfl⟩
 refine ⟨rfl,rfl,_,ib b,?_⟩
 unfold ia
 rcases get_rounds b hb b 0 0 rfl (by decide) (by decide) with h | ⟨h,he⟩
 ·exact Aq (BH _ rfl h (wp_leaf rfl (WA rfl rfl)))
 ·refine Aq (Dk _ rfl h (wp_leaf rfl (WA ?_ rfl)))
  unfold AJ
  rw[he]
  rfl)


theorem EO {a b:AV} (h: [a]= [b]):a=b:=by cases h; rfl
theorem mP {a b c d:AV} (h: [a,b]= [c,d]):a=c∧b=d:=by cases h; exact ⟨rfl,rfl⟩
theorem EP {a b:List UInt8} (h:vl (a.map AA.f)=vl (b.map AA.f)):a=b:=by
 have h1:PV.ls (a.map AA.f)=PV.ls (b.map AA.f):=by injection h
 have h2:a.map AA.f=b.map AA.f:=by injection h1
 exact Vw h2
theorem ZT {k:IntKind} {a b:Int} (h:vn k a=vn k b):a=b:=by
 have h1:PV.v (.int k a)=PV.v (.int k b):=by injection h
 have h2:Value.int k a=Value.int k b:=by injection h1
 injection h2

theorem im {s:Int} {b:List UInt8} (hs:0≤s∧s<4294967296) (hb:b.length≤1000000000):Uv [vn .u32 s,vl (b.map AA.f)]=some (vn .u32 (EG s b)):=
 BT (fun args r r' ⟨s1,b1,_,_,h1,h2⟩ ⟨s2,b2,_,_,h3,h4⟩=>by
  obtain ⟨e1,e2⟩:=mP (h1.symm.trans h3)
  rw[h2,h4,ZT e1,EP e2]) ⟨s,b,hs,hb,rfl,rfl⟩
theorem Jr {s:Int} (hs:0≤s∧s<4294967296):I5 [vn .u32 s]=some (vn .u32 (Au s)):=
 BT (fun args r r' ⟨s1,_,h1,h2⟩ ⟨s2,_,h3,h4⟩=>by
  rw[h2,h4,ZT (EO (h1.symm.trans h3))]) ⟨s,hs,rfl,rfl⟩
theorem Fy {b:List UInt8} (hb:b.length≤1000000000):El [vl (b.map AA.f)]=some (vn .u64 (AO b)):=
 BT (fun args r r' ⟨b1,_,h1,h2⟩ ⟨b2,_,h3,h4⟩=>by
  rw[h2,h4,EP (EO (h1.symm.trans h3))]) ⟨b,hb,rfl,rfl⟩
theorem Sn {b:List UInt8} (hb:b.length≤1000000000):Nd [vl (b.map AA.f)]=some (.tup [vn .u64 (AJ b).1,vi (AJ b).2.1,vi (AJ b).2.2]):=
 BT (fun args r r' ⟨b1,_,h1,h2⟩ ⟨b2,_,h3,h4⟩=>by
  rw[h2,h4,EP (EO (h1.symm.trans h3))]) ⟨b,hb,rfl,rfl⟩

noncomputable def Γ1:BF:=DG [(I0,Uv)]
theorem Γ1_ok:∀ f,SoundF DP f (Γ1 f):=An t7 Bu
def Δ1:CB:=CZ [(Sg,AX V8),(I0,AX V9)]
theorem Uw:∀ f,SoundR DP f (Δ1 f):=AY (AU wX) (AY (AU pe) BJ)

noncomputable def So (n:Int):Tree:=
.callr (some 12) (Δ1 87 [AI,vn .u64 n,vi 4] [] (.rs 0 0 1 0 ((AW n 4).length)) [AA.bx 0 (AW n 4)]) (.rs 0 0 1 0 ((AW n 4).length)) [AA.bx 0 (AW n 4)] (.leaf ⟨[0],[(0,0,some ((AW n 4).map AA.f))]⟩ [rowC ((AW n 4).map AA.f)] .ret (some ([(0, .rs 0 0 1 0 ((AW n 4).length))],[AA.bx 0 (AW n 4)])))

theorem Yb (n:Int):Av DP Γ1 Δ1 Tryd.f65 [AI,vn .u64 n,vi 4] [] (So n)=So n:=by kernel_rfl

noncomputable def Sp (L:List UInt8) (n:Int):Tree:=
.callr (some 12) (Δ1 87 [.rs 0 0 1 0 L.length,vn .u64 n,vi 4] [AA.bx 0 L] (.rs 1 0 1 0 ((L++AW n 4).length)) [AA.bx 1 ([]:List UInt8),AA.bx 0 (L++AW n 4)]) (.rs 1 0 1 0 ((L++AW n 4).length)) [AA.bx 1 ([]:List UInt8),AA.bx 0 (L++AW n 4)] (.leaf ⟨[0],[(0,0,some (([]:List UInt8).map AA.f)),(1,0,some ((L++AW n 4).map AA.f))]⟩ [rowC (([]:List UInt8).map AA.f),rowC ((L++AW n 4).map AA.f)] .ret (some ([(0, .rs 1 0 1 0 ((L++AW n 4).length))],[AA.bx 1 ([]:List UInt8),AA.bx 0 (L++AW n 4)])))

theorem Yc (L:List UInt8) (n:Int):Av DP Γ1 Δ1 Tryd.f65 [.rs 0 0 1 0 L.length,vn .u64 n,vi 4] [AA.bx 0 L] (Sp L n)=Sp L n:=by kernel_rfl

noncomputable def io (b:List UInt8):Tree:=
.call 4 (Uv [vn .u32 0,vl (b.map AA.f)]=some (vn .u32 (EG 0 b))) (vn .u32 (EG 0 b)) (.leaf ⟨[0],[]⟩ [] .ret (some ([(0,vn .u32 (EG 0 b))],[])))

theorem ip (b:List UInt8):Av DP Γ1 Δ1 Tryd.f89 [vl (b.map AA.f)] [] (io b)=io b:=by kernel_rfl

noncomputable def bD (L:List UInt8):Tree:=
.callr (some 4) (Δ1 94 [vn .u32 0, .rs 0 0 1 0 L.length] [AA.bx 0 L] (vn .u32 (EG 0 L)) [AA.bx 0 L]) (vn .u32 (EG 0 L)) [AA.bx 0 L] (.leaf ⟨[0],[(0,0,some (L.map AA.f))]⟩ [rowC (L.map AA.f)] .ret (some ([(0,vn .u32 (EG 0 L))],[AA.bx 0 L])))

theorem eH (L:List UInt8):Av DP Γ1 Δ1 Tryd.f89 [.rs 0 0 1 0 L.length] [AA.bx 0 L] (bD L)=bD L:=by kernel_rfl


theorem ph {n:Int} {B:List Box} (hn:0≤n∧n<18446744073709551616):Δ1 Sg [AI,vn .u64 n,vi 4] B (.rs B.length 0 1 0 (AW n 4).length) (B++ [AA.bx 0 (AW n 4)]):=
 Ps (al:= [AI,vn .u64 n,vi 4]) (R:=V8) ⟨n,4,hn,by decide, .inl ⟨rfl,rfl,rfl,rfl⟩⟩ rfl
theorem pi {n:Int} {B:List Box} {b v:Nat} {L:List UInt8} (hn:0≤n∧n<18446744073709551616) (hb:B[b]? = some (AA.bx v L)) (hl:((L.length+4:Nat):Int)≤1000000000):
  Δ1 Sg [.rs b v 1 0 L.length,vn .u64 n,vi 4] B (.rs B.length 0 1 0 (L++AW n 4).length) (B.set b (AA.bx (v+1) [])++ [AA.bx 0 (L++AW n 4)]):=
 HZ (R:=V8) (pre:= []) ⟨n,4,hn,by decide, .inr ⟨L,by rw[CJ]; exact hl,rfl,rfl,rfl,rfl⟩⟩ hb rfl rfl
theorem pj {s:Int} {B:List Box} {b v:Nat} {L:List UInt8} (hs:0≤s∧s<4294967296) (hb:B[b]? = some (AA.bx v L)) (hl:L.length≤1000000000):Δ1 I0 [vn .u32 s, .rs b v 1 0 L.length] B (vn .u32 (EG s L)) B:=
 Pt (R:=V9) (pre:= [vn .u32 s]) (post:= []) ⟨s,L,hs,hl,rfl,rfl,rfl,rfl⟩ hb rfl rfl

def RH:Ae:=fun args B r B'=>∃ n:Int,(0≤n∧n<18446744073709551616)∧ig [] [vn .u64 n,vi 4] (AW n 4) args B r B'
theorem bE:SoundR DP KO RH:=Al AZ Γ1_ok Uw eB eC eD (by
 rintro args B r B' ⟨n,hn,⟨rfl,rfl,rfl,rfl⟩ | ⟨L,hL,rfl,rfl,rfl,rfl⟩⟩
 ·refine ⟨by rw[Vz]; rfl,_,Yb n,?_⟩
  unfold So
  exact AM (ph hn) (wp_leaf rfl ⟨rfl,rfl⟩)
 ·refine ⟨by rw[Vz]; rfl,_,Yc L n,?_⟩
  unfold Sp
  rw[CJ] at hL
  exact AM (pi hn rfl hL) (wp_leaf rfl ⟨rfl,rfl⟩))

def wZ:List AV→AV→Prop:=fun args r=>∃ (b:List UInt8),b.length≤1000000000∧args= [vl (b.map AA.f)]∧r=vn .u32 (Ao b)
noncomputable def Sq:=B4 wZ
theorem wa:SoundF DP MO (.pure Sq):=A6 AZ Γ1_ok Uw ar au aw (by
 rintro args r ⟨b,hb,rfl,rfl⟩
 refine ⟨rfl,rfl,_,ip b,?_⟩
 unfold io
 exact Ac (im (by decide) hb) (wp_leaf rfl (.p _)))
theorem Sr {b:List UInt8} (hb:b.length≤1000000000):Sq [vl (b.map AA.f)]=some (vn .u32 (Ao b)):=
 BT (fun args r r' ⟨b1,_,h1,h2⟩ ⟨b2,_,h3,h4⟩=>by
  rw[h2,h4,EP (EO (h1.symm.trans h3))]) ⟨b,hb,rfl,rfl⟩
def Ux:Ae:=fun args B r B'=>∃ (L:List UInt8),L.length≤1000000000∧args= [.rs 0 0 1 0 L.length]∧B= [AA.bx 0 L]∧r=vn .u32 (Ao L)∧B'=B
theorem lD:SoundR DP MO Ux:=Al AZ Γ1_ok Uw ar au aw (by
 rintro args B r B' ⟨b,hb,rfl,rfl,rfl,rfl⟩
 refine ⟨by rw[k9]; rfl,_,eH b,?_⟩
 unfold bD
 exact AM (pj (by decide) rfl hb) (wp_leaf rfl ⟨rfl,rfl⟩))

noncomputable def Γ2:BF:=DG [(RE,I5),(MO,Sq),(JV,El),(Sh,Nd)]
theorem Γ2_ok:∀ f,SoundF DP f (Γ2 f):=An lC (An wa (An Sl (An il Bu)))
def Δ2:CB:=CZ [(KO,AX RH),(MO,AX Ux),(Sf,AX Na)]
theorem uB:∀ f,SoundR DP f (Δ2 f):=AY (AU bE) (AY (AU lD) (AY (AU ii) BJ))

section
variable {n : Int} {B : List Box} {b v : Nat} {L : List UInt8}
theorem pm (hn:0≤n∧n<18446744073709551616):AX Na [AI,vn .u64 n] B (.rs B.length 0 1 0 (AD n).length) (B++ [AA.bx 0 (AD n)]):=
 Ps (al:= [AI,vn .u64 n]) (R:=Na) ⟨n,hn, .inl ⟨rfl,rfl,rfl,rfl⟩⟩ rfl
theorem eI (hn:0≤n∧n<18446744073709551616) (hb:B[b]? = some (AA.bx v L)) (hl:((L.length+(AD n).length:Nat):Int)≤1000000000):
  AX Na [.rs b v 1 0 L.length,vn .u64 n] B (.rs B.length 0 1 0 (L++AD n).length) (B.set b (AA.bx (v+1) [])++ [AA.bx 0 (L++AD n)]):=
 HZ (R:=Na) (pre:= []) ⟨n,hn, .inr ⟨L,hl,rfl,rfl,rfl,rfl⟩⟩ hb rfl rfl
end

abbrev Uy:Nat:=84
noncomputable abbrev bF:Func:=Tryd.f84
theorem pn:DP.funcs[Uy]? = some bF:=by kernel_rfl
theorem po:Ak DP Uy=true:=by kernel_rfl
theorem pp:bF.body.isSome=true:=by kernel_rfl
theorem pq:bF.ntmps=35:=by kernel_rfl
abbrev Uz:Nat:=70
noncomputable abbrev lE:Func:=Tryd.f70
theorem pr:DP.funcs[Uz]? = some lE:=by kernel_rfl
theorem pt:Ak DP Uz=true:=by kernel_rfl
theorem pu:lE.body.isSome=true:=by kernel_rfl
noncomputable def bG (b:List UInt8):Tree:=
.int 8 ((b.map AA.f).length:Int) (b.length:Int) (.sp 9 (decide ((b.length:Int)<(12:Int))) (
.leaf ⟨[0],[]⟩ [] .ret (some ([(0, .tup [AI,vi 0,vi 8])],[]))) (
.cut 11 (b.map AA.f) none (some 4) AA b (.call 12 (El [vl ((cutL none (some 4) b).map AA.f)]=some (vn .u64 (AO (cutL none (some 4) b)))) (vn .u64 (AO (cutL none (some 4) b))) (.cut 14 (b.map AA.f) (some 4) (some 8) AA b (.call 15 (El [vl ((cutL (some 4) (some 8) b).map AA.f)]=some (vn .u64 (AO (cutL (some 4) (some 8) b)))) (vn .u64 (AO (cutL (some 4) (some 8) b))) (.int 16 (IntKind.u32.wrap (AO (cutL (some 4) (some 8) b))) ((AO (cutL (some 4) (some 8) b)) % 4294967296) (.cut 18 (b.map AA.f) none (some 4) AA b (.call 19 (Sq [vl ((cutL none (some 4) b).map AA.f)]=some (vn .u32 (Ao (cutL none (some 4) b)))) (vn .u32 (Ao (cutL none (some 4) b))) (.call 20 (I5 [vn .u32 (Ao (cutL none (some 4) b))]=some (vn .u32 (Au (Ao (cutL none (some 4) b))))) (vn .u32 (Au (Ao (cutL none (some 4) b)))) (.sp 21 (((AO (cutL (some 4) (some 8) b)) % 4294967296) != (Au (Ao (cutL none (some 4) b)))) (
.leaf ⟨[0],[]⟩ [] .ret (some ([(0, .tup [AI,vi 0,vi 12])],[]))) (
.sp 24 (decide ((AO (cutL none (some 4) b))>(1048576:Int))) (
.leaf ⟨[0],[]⟩ [] .ret (some ([(0, .tup [AI,vi 0,vi 12])],[]))) (
.int 27 ((b.map AA.f).length:Int) (b.length:Int) (.int 28 (IntKind.u64.wrap ((b.length:Int))) ((b.length:Int)) (.int 30 (IntKind.u64.wrap (12+(AO (cutL none (some 4) b)))) (12+(AO (cutL none (some 4) b))) (.sp 31 (decide ((b.length:Int)<(12+(AO (cutL none (some 4) b))))) (
.leaf ⟨[0],[]⟩ [] .ret (some ([(0, .tup [AI,vi 0,vi 8])],[]))) (
.int 34 (IntKind.u64.wrap (12+(AO (cutL none (some 4) b)))) (12+(AO (cutL none (some 4) b))) (.cut 35 (b.map AA.f) (some 12) (some (12+(AO (cutL none (some 4) b)))) AA b (.cut 37 (b.map AA.f) (some 8) (some 12) AA b (.call 38 (El [vl ((cutL (some 8) (some 12) b).map AA.f)]=some (vn .u64 (AO (cutL (some 8) (some 12) b)))) (vn .u64 (AO (cutL (some 8) (some 12) b))) (.int 39 (IntKind.u32.wrap (AO (cutL (some 8) (some 12) b))) ((AO (cutL (some 8) (some 12) b)) % 4294967296) (.call 41 (Sq [vl ((cutL (some 12) (some (12+(AO (cutL none (some 4) b)))) b).map AA.f)]=some (vn .u32 (Ao (cutL (some 12) (some (12+(AO (cutL none (some 4) b)))) b)))) (vn .u32 (Ao (cutL (some 12) (some (12+(AO (cutL none (some 4) b)))) b))) (.call 42 (I5 [vn .u32 (Ao (cutL (some 12) (some (12+(AO (cutL none (some 4) b)))) b))]=some (vn .u32 (Au (Ao (cutL (some 12) (some (12+(AO (cutL none (some 4) b)))) b))))) (vn .u32 (Au (Ao (cutL (some 12) (some (12+(AO (cutL none (some 4) b)))) b)))) (.sp 43 (((AO (cutL (some 8) (some 12) b)) % 4294967296) != (Au (Ao (cutL (some 12) (some (12+(AO (cutL none (some 4) b)))) b)))) (
.leaf ⟨[0],[]⟩ [] .ret (some ([(0, .tup [AI,vi 0,vi 12])],[]))) (
.appn 45 (.ls ((cutL (some 12) (some (12+(AO (cutL none (some 4) b)))) b).map AA.f)) AA (cutL (some 12) (some (12+(AO (cutL none (some 4) b)))) b) (.int 47 (IntKind.i64.wrap ((AO (cutL none (some 4) b)))) ((AO (cutL none (some 4) b))) (.int 48 (IntKind.i64.wrap (12+(AO (cutL none (some 4) b)))) (12+(AO (cutL none (some 4) b))) (.leaf ⟨[0],[(0,0,some ((cutL (some 12) (some (12+(AO (cutL none (some 4) b)))) b).map AA.f))]⟩ [rowC ((cutL (some 12) (some (12+(AO (cutL none (some 4) b)))) b).map AA.f)] .ret (some ([(0, .tup [.rs 0 0 1 0 ((cutL (some 12) (some (12+(AO (cutL none (some 4) b)))) b).length),vi (12+(AO (cutL none (some 4) b))),vi 0])],[AA.bx 0 (cutL (some 12) (some (12+(AO (cutL none (some 4) b)))) b)])))))))))))))))))))))))))))))

theorem eJ (b:List UInt8):Av DP Γ2 Δ2 Tryd.f70 [vl (b.map AA.f)] [] (bG b)=bG b:=by kernel_rfl


theorem EB (d:List UInt8):(AN d).length=d.length+12:=by
 simp only[AN,List.length_append,CJ]; omega

theorem LU {d len:Nat} {lo hi:Option Int} {k:Tree} {K:AE→St→Prop} (h0:CE lo hi len) (h:k.wp K):(Tree.rcut d len lo hi k).wp K:=⟨h0,h⟩

def uC:List AV→AV→Prop:=fun args r=>∃ (b:List UInt8),b.length≤1000000000∧args= [vl (b.map AA.f)]∧r= .tup [vl ((CI b).1.map AA.f),vi (CI b).2.1,vi (CI b).2.2]
noncomputable def bH:=B4 uC
theorem iq {b:List UInt8} (hb:b.length≤1000000000):bH [vl (b.map AA.f)]=some (.tup [vl ((CI b).1.map AA.f),vi (CI b).2.1,vi (CI b).2.2]):=
 BT (fun args r r' ⟨b1,_,h1,h2⟩ ⟨b2,_,h3,h4⟩=>by
  rw[h2,h4,EP (EO (h1.symm.trans h3))]) ⟨b,hb,rfl,rfl⟩
theorem Nf (b:List UInt8):0≤AO b∧AO b<18446744073709551616:=by
 unfold AO
 have h1:=Sk (b.take 8)
 have h2:256 ^ (b.take 8).length≤256 ^ 8:=Nat.pow_le_pow_right (by decide) (by simp; omega)
 omega
theorem IZ {S:Nat→Prop} {B:List Box} {n e:Int} {d:List UInt8} (h:d= []):Sealed S B (.tup [AI,vi n,vi e]) (.tup [vl (d.map AA.f),vi n,vi e]):=by
 subst h
 refine .tup _ _ rfl fun j c d hc hd=>?_
 match j with
 | 0=>cases hc; cases hd; exact .nil
 | 1=>cases hc; cases hd; exact .p _
 | 2=>cases hc; cases hd; exact .p _
 | j+3=>simp at hc
theorem eK {α:Type} {E:Enc α} {B:List Box} {v:Nat} {d:List α} {n e:Int} (hb:B[0]? = some (E.bx v d)):Sealed (fun _=>True) B (.tup [.rs 0 v E.sz 0 d.length,vi n,vi e]) (.tup [vl (d.map E.f),vi n,vi e]):=by
 refine .tup _ _ rfl fun j c d' hc hd=>?_
 match j with
 | 0=>cases hc; cases hd; exact E.elt.sealed trivial hb
 | 1=>cases hc; cases hd; exact .p _
 | 2=>cases hc; cases hd; exact .p _
 | j+3=>simp at hc
theorem Ia (b:List UInt8):CI b = 
 if b.length<12 then ([],0,8) else
 if AO (cutL (some 4) (some 8) b) % 4294967296≠Au (Ao (cutL none (some 4) b))∨AO (cutL none (some 4) b)>1048576 then ([],0,12) else
 if (b.length:Int)<12+AO (cutL none (some 4) b) then ([],0,8) else
 if AO (cutL (some 8) (some 12) b) % 4294967296≠Au (Ao (cutL (some 12) (some (12+AO (cutL none (some 4) b))) b)) then ([],0,12) else
 (cutL (some 12) (some (12+AO (cutL none (some 4) b))) b,12+AO (cutL none (some 4) b),0):=rfl
theorem uD:SoundF DP Uz (.pure bH):=A6 AZ Γ2_ok uB pr pt pu (by
 rintro args r ⟨b,hb,rfl,rfl⟩
 refine ⟨rfl,rfl,_,eJ b,?_⟩
 unfold bG
 refine Aq (AC (fun h=>wp_leaf rfl ?_) (fun h=>?_))
 ·have h:=of_decide_eq_true h
  have e:CI b=([],0,8):=if_pos (by omega)
  rw[e]; exact IZ rfl
 have h:=of_decide_eq_false h
 have h12:12≤b.length:=by omega
 have hl4:(cutL none (some 4) b).length≤1000000000:=by show (b.take 4).length≤_; simp; omega
 have hl48:(cutL (some 4) (some 8) b).length≤1000000000:=by show ((b.take 8).drop 4).length≤_; simp; omega
 have hl812:(cutL (some 8) (some 12) b).length≤1000000000:=by show ((b.take 12).drop 8).length≤_; simp; omega
 have hn:=Nf (cutL none (some 4) b)
 refine DB (by simp only[CE]; omega) (Ac (Fy hl4) (DB (by simp only[CE]; omega) (Ac (Fy hl48) (Ai (LP _) (DB (by simp only[CE]; omega) (Ac (Sr hl4) (Ac (Jr (NZ _)) (AC (fun h=>wp_leaf rfl ?_) (fun h1=>AC (fun h=>wp_leaf rfl ?_) (fun h2=>?_))))))))))
 ·have e:CI b=([],0,12):=by
   rw[Ia,if_neg (by omega),if_pos (.inl (by simpa using h))]
  rw[e]; exact IZ rfl
 ·have e:CI b=([],0,12):=by
   rw[Ia,if_neg (by omega),if_pos (.inr (of_decide_eq_true h))]
  rw[e]; exact IZ rfl
 have h2:=of_decide_eq_false h2
 have hno:¬(AO (cutL (some 4) (some 8) b) % 4294967296≠Au (Ao (cutL none (some 4) b))∨AO (cutL none (some 4) b)>1048576):=by
  rintro (h | h)
  ·exact h (by simpa using h1)
  ·exact h2 h
 refine Aq (Ai (Dl (by omega)) (Ai (Dl (by omega)) (AC (fun h=>wp_leaf rfl ?_) (fun h3=>?_))))
 ·have e:CI b=([],0,8):=by
   rw[Ia,if_neg (by omega),if_neg hno,if_pos (of_decide_eq_true h)]
  rw[e]; exact IZ rfl
 have h3:=of_decide_eq_false h3
 have hld:(cutL (some 12) (some (12+AO (cutL none (some 4) b))) b).length≤1048576:=by
  show ((b.take (12+AO (cutL none (some 4) b)).toNat).drop 12).length≤_
  rw[List.length_drop,List.length_take]; omega
 refine Ai (Dl (by omega)) (DB (by simp only[CE]; omega) (DB (by simp only[CE]; omega) (Ac (Fy hl812) (Ai (LP _) (Ac (Sr (by omega)) (Ac (Jr (NZ _)) (AC (fun h=>wp_leaf rfl ?_) (fun h4=>SS rfl (by omega) (AP (by omega) (AP (by omega) (wp_leaf rfl ?_)))))))))))
 ·have e:CI b=([],0,12):=by
   rw[Ia,if_neg (by omega),if_neg hno,if_neg h3,if_pos (by simpa using h)]
  rw[e]; exact IZ rfl
 ·have e:CI b=(cutL (some 12) (some (12+AO (cutL none (some 4) b))) b,12+AO (cutL none (some 4) b),0):=by
   rw[Ia,if_neg (by omega),if_neg hno,if_neg h3,if_neg (by intro hx; exact hx (by simpa using h4))]
  rw[e]; exact eK (E:=AA) rfl)



theorem bI {fs:List Fil} {x:Fil} (h:x∈fs):(x.b.length:Int)≤(fs.map fun x=>(x.b.length:Int)).sum:=by
 induction fs with
 | nil=>cases h
 | cons y fs ih=>
  have hs:0≤(fs.map fun x=>(x.b.length:Int)).sum:=by
   clear ih h
   induction fs with
   | nil=>simp
   | cons z fs ih=>simp only[List.map_cons,List.sum_cons]; omega
  simp only[List.map_cons,List.sum_cons]
  rcases List.mem_cons.1 h with rfl | h
  ·omega
  ·have:=ih h; omega

theorem bJ (fs:List Fil):0≤(fs.map fun x=>(x.b.length:Int)).sum:=by
 induction fs with
 | nil=>simp
 | cons z fs ih=>simp only[List.map_cons,List.sum_cons]; omega

theorem Dsk.Ok.bnd {D:Dsk} (ok:D.Ok):0≤D.used∧D.used≤67108864∧∀ x∈D.files,(x.b.length:Int)≤D.used:=by
 have h1:=ok.room
 have h2:=ok.le
 have h3:=bJ D.files
 refine ⟨by rw[ok.used]; exact h3,by omega,fun x hx=>by rw[ok.used]; exact bI hx⟩

def U0:Ae:=fun args B r B'=>∃ (D:Dsk) (nm:ByteArray),D.Ok∧args= [.op 0,vs nm]∧B= [.obj [] (AH D)]∧r=vi (Cn D nm).2∧B'= [.obj [] (AH (Cn D nm).1)]

theorem uE:SoundR DP Uo U0:=(SO o5 o6 o7).mono (by
 rintro args B r B' ⟨D,nm,ok,rfl,rfl,rfl,rfl⟩
 have hfu:=ok.fuse.2
 obtain ⟨ro,us,fs,dn,fu⟩:=D
 cases dn with
 | true=>
  refine LO (al:= [vs nm]) rfl rfl rfl (.refl _) (fun hid hh=> .inl ⟨by rw[Q9]; rfl,_,YR ro us fu hid nm,?_⟩)
  unfold SY
  exact AM (Df (.d ro us fu hid nm) []) (wp_leaf rfl ⟨rfl,rfl⟩)
 | false=>
  cases hg:(⟨ro,us,fs,false,fu⟩:Dsk).get nm with
  | none=>
   have hno:=GX hg
   have h2:Cn ⟨ro,us,fs,false,fu⟩ nm=(⟨ro,us,fs,false,fu⟩,4):=by unfold Cn; rw[if_neg (by simp)]; simp only[hg]
   rw[h2]
   refine LO (al:= [vs nm]) rfl rfl rfl (.refl _) (fun hid hh=> .inl ⟨by rw[Q9]; rfl,_,YS ro us fu hid nm,?_⟩)
   unfold SZ
   exact AM (Df (.a ro us fu hid _ nm hh hno) []) (wp_leaf rfl ⟨rfl,rfl⟩)
  | some x=>
   obtain ⟨hx,rfl⟩:=EY hg
   by_cases he:EA fu=0
   ·have h2:Cn ⟨ro,us,fs,false,fu⟩ x.name=(⟨ro,us,FY fs {x with sure:=x.b.length},Da fu,De fu⟩,0):=by
     unfold Cn; rw[if_neg (by simp)]; simp only[hg,he,ne_eq,not_true_eq_false,if_false]; rfl
    rw[h2]
    refine Vv (x':={x with sure:=x.b.length}) (v:=0) (al:= [vs x.name]) ok.nod hx rfl rfl rfl (NS (x':={x with sure:=(x.b.length:Int)}) ok.nod hx rfl) (fun hid hh=> .inl ⟨by rw[Q9]; rfl,_,Pr ro us fu hid x.b x.sure x.name,?_⟩)
    unfold Oi
    exact AM (Df (.p ro us fu hid _ x hh) []) (AM (Oj ro us fu hid [x] (by simp) hfu []) (AC (fun h=>absurd he (QL h)) (fun h=>wp_leaf rfl ⟨rfl,rfl⟩)))
   ·have h2:Cn ⟨ro,us,fs,false,fu⟩ x.name=(⟨ro,us,fs,Da fu,De fu⟩,EA fu):=by
     unfold Cn; rw[if_neg (by simp)]; simp only[hg,ne_eq,he,not_false_eq_true,if_true]; rfl
    rw[h2]
    refine Vv (x':=x) (v:=0) (al:= [vs x.name]) ok.nod hx rfl rfl rfl (Dv ok.nod hx).symm (fun hid hh=> .inl ⟨by rw[Q9]; rfl,_,Pr ro us fu hid x.b x.sure x.name,?_⟩)
    unfold Oi
    exact AM (Df (.p ro us fu hid _ x hh) []) (AM (Oj ro us fu hid [x] (by simp) hfu []) (AC (fun h=>wp_leaf rfl ⟨rfl,rfl⟩) (fun h=>absurd (NY h) he))))

def U1:Ae:=fun args B r B'=>∃ (D:Dsk) (nm:ByteArray),D.Ok∧args= [.op 0,vs nm]∧B= [.obj [] (AH D)]∧r= .tup [vi (BY D nm).1,vi (BY D nm).2]∧B'=B

theorem uF:SoundR DP Uq U1:=(SO pB pC pD).mono (by
 rintro args B r B' ⟨D,nm,ok,rfl,rfl,rfl,rfl⟩
 obtain ⟨ro,us,fs,dn,fu⟩:=D
 cases dn with
 | true=>
  refine LO (al:= [vs nm]) rfl rfl rfl (.refl _) (fun hid hh=> .inl ⟨by rw[Vs]; rfl,_,YT ro us fu hid nm,?_⟩)
  unfold Sa
  exact AM (Df (.d ro us fu hid nm) []) (wp_leaf rfl ⟨rfl,rfl⟩)
 | false=>
  cases hg:(⟨ro,us,fs,false,fu⟩:Dsk).get nm with
  | none=>
   have hno:=GX hg
   have h2:BY ⟨ro,us,fs,false,fu⟩ nm=(0,4):=by unfold BY; rw[if_neg (by simp)]; simp only[hg]
   rw[h2]
   refine LO (al:= [vs nm]) rfl rfl rfl (.refl _) (fun hid hh=> .inl ⟨by rw[Vs]; rfl,_,YU ro us fu hid nm,?_⟩)
   unfold Sb
   exact AM (Df (.a ro us fu hid _ nm hh hno) []) (wp_leaf rfl ⟨rfl,rfl⟩)
  | some x=>
   obtain ⟨hx,rfl⟩:=EY hg
   have h2:BY ⟨ro,us,fs,false,fu⟩ x.name=((x.b.length:Int),0):=by unfold BY; rw[if_neg (by simp)]; simp only[hg]
   rw[h2]
   refine Vv (x':=x) (v:=0) (al:= [vs x.name]) ok.nod hx rfl rfl rfl (Dv ok.nod hx).symm (fun hid hh=> .inl ⟨by rw[Vs]; rfl,_,YV ro us fu hid x.b x.sure x.name,?_⟩)
   unfold Sc
   exact AM (Df (.p ro us fu hid _ x hh) []) (wp_leaf rfl ⟨rfl,rfl⟩))

def Ow:Ae:=fun args B r B'=>∃ (D:Dsk) (nm:ByteArray) (bs:List UInt8),D.Ok∧bs.length≤1000000000∧args= [.op 0,vs nm,vl (bs.map AA.f)]∧B= [.obj [] (AH D)]∧r=vi (BI D nm bs).2∧B'= [.obj [] (AH (BI D nm bs).1)]

theorem mQ:SoundR DP Oh Ow:=(SO iQ iR iS).mono (by
 rintro args B r B' ⟨D,nm,bs,ok,hbs,rfl,rfl,rfl,rfl⟩
 have hfu:=ok.fuse.2
 obtain ⟨b1,b2,b3⟩:=ok.bnd
 have b4:=ok.room
 obtain ⟨ro,us,fs,dn,fu⟩:=D
 cases dn with
 | true=>
  refine LO (al:= [vs nm,vl (bs.map AA.f)]) rfl rfl rfl (.refl _) (fun hid hh=> .inl ⟨by rw[Jo]; rfl,_,UY ro us fu hid nm bs,?_⟩)
  unfold NW
  exact AM (Df (.d ro us fu hid nm) []) (wp_leaf rfl ⟨rfl,rfl⟩)
 | false=>
  cases hg:(⟨ro,us,fs,false,fu⟩:Dsk).get nm with
  | none=>
   have hno:=GX hg
   have h2:BI ⟨ro,us,fs,false,fu⟩ nm bs=(⟨ro,us,fs,false,fu⟩,4):=by unfold BI; rw[if_neg (by simp)]; simp only[hg]
   rw[h2]
   refine LO (al:= [vs nm,vl (bs.map AA.f)]) rfl rfl rfl (.refl _) (fun hid hh=> .inl ⟨by rw[Jo]; rfl,_,UZ ro us fu hid nm bs,?_⟩)
   unfold NX
   exact AM (Df (.a ro us fu hid _ nm hh hno) []) (wp_leaf rfl ⟨rfl,rfl⟩)
  | some x=>
   obtain ⟨hx,rfl⟩:=EY hg
   have hxl:=b3 x hx
   simp only at b1 b2 b4 hxl
   by_cases hfull:(bs.length:Int)>ro - us
   ·have h2:BI ⟨ro,us,fs,false,fu⟩ x.name bs=(⟨ro,us,fs,false,fu⟩,11):=by
     unfold BI; rw[if_neg (by simp)]; simp only[hg,hfull,if_true]
    rw[h2]
    refine Vv (x':=x) (v:=0) (al:= [vs x.name,vl (bs.map AA.f)]) ok.nod hx rfl rfl rfl (Dv ok.nod hx).symm (fun hid hh=> .inl ⟨by rw[Jo]; rfl,_,Ir ro us fu hid x.b x.sure x.name bs,?_⟩)
    unfold IX
    exact AM (Df (.p ro us fu hid _ x hh) []) (Aq (AP (by omega) (AC (fun h=>wp_leaf rfl ⟨rfl,rfl⟩) (fun h=>absurd hfull (of_decide_eq_false h)))))
   ·by_cases he:EA fu=0
    ·have h2:BI ⟨ro,us,fs,false,fu⟩ x.name bs=(⟨ro,us+(bs.length:Int),FY fs {x with b:=x.b++bs},Da fu,De fu⟩,0):=by
      unfold BI; rw[if_neg (by simp)]; simp only[hg,hfull,if_false,he,ne_eq,not_true_eq_false]; rfl
     rw[h2]
     refine Vv (x':={x with b:=x.b++bs}) (v:=1) (al:= [vs x.name,vl (bs.map AA.f)]) ok.nod hx rfl rfl rfl (NS (x':={x with b:=x.b++bs}) ok.nod hx rfl) (fun hid hh=> .inl ⟨by rw[Jo]; rfl,_,Ir ro us fu hid x.b x.sure x.name bs,?_⟩)
     unfold IX
     exact AM (Df (.p ro us fu hid _ x hh) []) (Aq (AP (by omega) (AC (fun h=>absurd (of_decide_eq_true h) hfull) (fun h=>AM (Oj ro us fu hid [x] (by simp) hfu []) (AC (fun h=>absurd he (QL h)) (fun h=>BW rfl rfl (by simp only[List.length_append]; omega) (Aq (AP (by omega) (wp_leaf rfl ⟨rfl,rfl⟩)))))))))
    ·have h2:BI ⟨ro,us,fs,false,fu⟩ x.name bs=(⟨ro,us,fs,Da fu,De fu⟩,EA fu):=by
      unfold BI; rw[if_neg (by simp)]; simp only[hg,hfull,if_false,ne_eq,he,not_false_eq_true,if_true]; rfl
     rw[h2]
     refine Vv (x':=x) (v:=0) (al:= [vs x.name,vl (bs.map AA.f)]) ok.nod hx rfl rfl rfl (Dv ok.nod hx).symm (fun hid hh=> .inl ⟨by rw[Jo]; rfl,_,Ir ro us fu hid x.b x.sure x.name bs,?_⟩)
     unfold IX
     exact AM (Df (.p ro us fu hid _ x hh) []) (Aq (AP (by omega) (AC (fun h=>absurd (of_decide_eq_true h) hfull) (fun h=>AM (Oj ro us fu hid [x] (by simp) hfu []) (AC (fun h=>wp_leaf rfl ⟨rfl,rfl⟩) (fun h=>absurd (NY h) he)))))))


noncomputable def Ss (ro:Int) (us:Int) (fu:Int) (hid:List (Value×Value)) (nm:ByteArray) (ofs:Int) (n:Int):Tree:=
.callr (some 15) (ΔF 47 [.ptr 0 0 0,vs nm] [.cells false 0 ([vi ro,vi us, .mp 1,vb true,vi fu]), .obj [] (AQ [] hid)] (.tup [.p (.v (.pointer none)),vi 10]) [.cells false 0 ([vi ro,vi us, .mp 1,vb true,vi fu]), .obj [] (AQ [] hid)]) (.tup [.p (.v (.pointer none)),vi 10]) [.cells false 0 ([vi ro,vi us, .mp 1,vb true,vi fu]), .obj [] (AQ [] hid)] (.leaf ⟨[0],[(0,0,none),(1,0,none)]⟩ [] .ret (some ([(0, .tup [AI,vi 10])],[.cells false 0 ([vi ro,vi us, .mp 1,vb true,vi fu]), .obj [] (AQ [] hid)])))

theorem Yd (ro:Int) (us:Int) (fu:Int) (hid:List (Value×Value)) (nm:ByteArray) (ofs:Int) (n:Int):Av DP ΓF ΔF Tryd.f68 [.ptr 0 0 0,vs nm,vi ofs,vi n] [.cells false 0 ([vi ro,vi us, .mp 1,vb true,vi fu]), .obj [] (AQ [] hid)] (Ss ro us fu hid nm ofs n)=Ss ro us fu hid nm ofs n:=by kernel_rfl

noncomputable def Su (ro:Int) (us:Int) (fu:Int) (hid:List (Value×Value)) (nm:ByteArray) (ofs:Int) (n:Int):Tree:=
.callr (some 15) (ΔF 47 [.ptr 0 0 0,vs nm] [.cells false 0 ([vi ro,vi us, .mp 1,vb false,vi fu]), .obj [] (AQ [] hid)] (.tup [.p (.v (.pointer none)),vi 4]) [.cells false 0 ([vi ro,vi us, .mp 1,vb false,vi fu]), .obj [] (AQ [] hid)]) (.tup [.p (.v (.pointer none)),vi 4]) [.cells false 0 ([vi ro,vi us, .mp 1,vb false,vi fu]), .obj [] (AQ [] hid)] (.leaf ⟨[0],[(0,0,none),(1,0,none)]⟩ [] .ret (some ([(0, .tup [AI,vi 4])],[.cells false 0 ([vi ro,vi us, .mp 1,vb false,vi fu]), .obj [] (AQ [] hid)])))

theorem Ye (ro:Int) (us:Int) (fu:Int) (hid:List (Value×Value)) (nm:ByteArray) (ofs:Int) (n:Int):Av DP ΓF ΔF Tryd.f68 [.ptr 0 0 0,vs nm,vi ofs,vi n] [.cells false 0 ([vi ro,vi us, .mp 1,vb false,vi fu]), .obj [] (AQ [] hid)] (Su ro us fu hid nm ofs n)=Su ro us fu hid nm ofs n:=by kernel_rfl

noncomputable def Ox (ro:Int) (us:Int) (fu:Int) (hid:List (Value×Value)) (L:List UInt8) (su:Int) (nm:ByteArray) (ofs:Int) (n:Int):Tree:=
.callr (some 15) (ΔF 47 [.ptr 0 0 0,vs nm] [.cells false 0 ([vi ro,vi us, .mp 1,vb false,vi fu]), .obj [.ptr 2 0 0] (AQ [.string nm] hid), .cells false 0 ([.rs 3 0 1 0 L.length,vi su]),AA.bx 0 L] (.tup [.ptr 2 0 0,vi 0]) [.cells false 0 ([vi ro,vi us, .mp 1,vb false,vi fu]), .obj [.ptr 2 0 0] (AQ [.string nm] hid), .cells false 0 ([.rs 3 0 1 0 L.length,vi su]),AA.bx 0 L]) (.tup [.ptr 2 0 0,vi 0]) [.cells false 0 ([vi ro,vi us, .mp 1,vb false,vi fu]), .obj [.ptr 2 0 0] (AQ [.string nm] hid), .cells false 0 ([.rs 3 0 1 0 L.length,vi su]),AA.bx 0 L] (.sp 22 (decide (ofs<(0:Int))) (
.leaf ⟨[0],[(0,0,none),(1,0,none),(2,0,none),(3,0,some (L.map AA.f))]⟩ [rowC (L.map AA.f)] .ret (some ([(0, .tup [AI,vi 1])],[.cells false 0 ([vi ro,vi us, .mp 1,vb false,vi fu]), .obj [.ptr 2 0 0] (AQ [.string nm] hid), .cells false 0 ([.rs 3 0 1 0 L.length,vi su]),AA.bx 0 L]))) (
.sp 30 (decide (ofs>((L.length:Nat):Int))) (
.leaf ⟨[0],[(0,0,none),(1,0,none),(2,0,none),(3,0,some (L.map AA.f))]⟩ [rowC (L.map AA.f)] .ret (some ([(0, .tup [AI,vi 1])],[.cells false 0 ([vi ro,vi us, .mp 1,vb false,vi fu]), .obj [.ptr 2 0 0] (AQ [.string nm] hid), .cells false 0 ([.rs 3 0 1 0 L.length,vi su]),AA.bx 0 L]))) (
.sp 34 (decide (n<(0:Int))) (
.leaf ⟨[0],[(0,0,none),(1,0,none),(2,0,none),(3,0,some (L.map AA.f))]⟩ [rowC (L.map AA.f)] .ret (some ([(0, .tup [AI,vi 1])],[.cells false 0 ([vi ro,vi us, .mp 1,vb false,vi fu]), .obj [.ptr 2 0 0] (AQ [.string nm] hid), .cells false 0 ([.rs 3 0 1 0 L.length,vi su]),AA.bx 0 L]))) (
.int 49 (IntKind.i64.wrap (((L.length:Nat):Int) - ofs)) (((L.length:Nat):Int) - ofs) (.int 51 (IntKind.i64.wrap (ofs+(if (((L.length:Nat):Int) - ofs:Int)<(n:Int) then (((L.length:Nat):Int) - ofs:Int) else (n:Int)))) (ofs+(if (((L.length:Nat):Int) - ofs:Int)<(n:Int) then (((L.length:Nat):Int) - ofs:Int) else (n:Int))) (.rcut 52 L.length (some ofs) (some (ofs+(if (((L.length:Nat):Int) - ofs:Int)<(n:Int) then (((L.length:Nat):Int) - ofs:Int) else (n:Int)))) (.appn 53 (.part (0+A8 (some ofs)*1) (Be (some (ofs+(if (((L.length:Nat):Int) - ofs:Int)<(n:Int) then (((L.length:Nat):Int) - ofs:Int) else (n:Int)))) L.length - A8 (some ofs)) (rowC (L.map AA.f))) AA (cutL (some ofs) (some (ofs+(if (((L.length:Nat):Int) - ofs:Int)<(n:Int) then (((L.length:Nat):Int) - ofs:Int) else (n:Int)))) L) (.leaf ⟨[0],[(0,0,none),(1,0,none),(2,0,none),(3,0,some (L.map AA.f)),(4,0,some ((cutL (some ofs) (some (ofs+(if (((L.length:Nat):Int) - ofs:Int)<(n:Int) then (((L.length:Nat):Int) - ofs:Int) else (n:Int)))) L).map AA.f))]⟩ [rowC (L.map AA.f),rowC ((cutL (some ofs) (some (ofs+(if (((L.length:Nat):Int) - ofs:Int)<(n:Int) then (((L.length:Nat):Int) - ofs:Int) else (n:Int)))) L).map AA.f)] .ret (some ([(0, .tup [.rs 4 0 1 0 ((cutL (some ofs) (some (ofs+(if (((L.length:Nat):Int) - ofs:Int)<(n:Int) then (((L.length:Nat):Int) - ofs:Int) else (n:Int)))) L).length),vi 0])],[.cells false 0 ([vi ro,vi us, .mp 1,vb false,vi fu]), .obj [.ptr 2 0 0] (AQ [.string nm] hid), .cells false 0 ([.rs 3 0 1 0 L.length,vi su]),AA.bx 0 L,AA.bx 0 (cutL (some ofs) (some (ofs+(if (((L.length:Nat):Int) - ofs:Int)<(n:Int) then (((L.length:Nat):Int) - ofs:Int) else (n:Int)))) L)]))))))))))

theorem Pv (ro:Int) (us:Int) (fu:Int) (hid:List (Value×Value)) (L:List UInt8) (su:Int) (nm:ByteArray) (ofs:Int) (n:Int):Av DP ΓF ΔF Tryd.f68 [.ptr 0 0 0,vs nm,vi ofs,vi n] [.cells false 0 ([vi ro,vi us, .mp 1,vb false,vi fu]), .obj [.ptr 2 0 0] (AQ [.string nm] hid), .cells false 0 ([.rs 3 0 1 0 L.length,vi su]),AA.bx 0 L] (Ox ro us fu hid L su nm ofs n)=Ox ro us fu hid L su nm ofs n:=by kernel_rfl

noncomputable def Sv (ro:Int) (us:Int) (fu:Int) (hid:List (Value×Value)):Tree:=
.int 13 (IntKind.i64.wrap (ro - us)) (ro - us) (.leaf ⟨[0],[(0,0,none),(1,0,none)]⟩ [] .ret (some ([(0,vi (ro - us))],[.cells false 0 ([vi ro,vi us, .mp 1,vb true,vi fu]), .obj [] (AQ [] hid)])))

theorem Yf (ro:Int) (us:Int) (fu:Int) (hid:List (Value×Value)):Av DP ΓF ΔF Tryd.f35 [.ptr 0 0 0] [.cells false 0 ([vi ro,vi us, .mp 1,vb true,vi fu]), .obj [] (AQ [] hid)] (Sv ro us fu hid)=Sv ro us fu hid:=by kernel_rfl

noncomputable def Sw (ro:Int) (us:Int) (fu:Int) (hid:List (Value×Value)):Tree:=
.int 13 (IntKind.i64.wrap (ro - us)) (ro - us) (.leaf ⟨[0],[(0,0,none),(1,0,none)]⟩ [] .ret (some ([(0,vi (ro - us))],[.cells false 0 ([vi ro,vi us, .mp 1,vb false,vi fu]), .obj [] (AQ [] hid)])))

theorem Yg (ro:Int) (us:Int) (fu:Int) (hid:List (Value×Value)):Av DP ΓF ΔF Tryd.f35 [.ptr 0 0 0] [.cells false 0 ([vi ro,vi us, .mp 1,vb false,vi fu]), .obj [] (AQ [] hid)] (Sw ro us fu hid)=Sw ro us fu hid:=by kernel_rfl

noncomputable def Sx (ro:Int) (us:Int) (fu:Int) (hid:List (Value×Value)):Tree:=
.leaf ⟨[0],[(0,0,none),(1,0,none)]⟩ [] .ret (some ([(0,vb true)],[.cells false 0 ([vi ro,vi us, .mp 1,vb true,vi fu]), .obj [] (AQ [] hid)]))

theorem Yh (ro:Int) (us:Int) (fu:Int) (hid:List (Value×Value)):Av DP ΓF ΔF Tryd.f34 [.ptr 0 0 0] [.cells false 0 ([vi ro,vi us, .mp 1,vb true,vi fu]), .obj [] (AQ [] hid)] (Sx ro us fu hid)=Sx ro us fu hid:=by kernel_rfl

noncomputable def Sy (ro:Int) (us:Int) (fu:Int) (hid:List (Value×Value)):Tree:=
.leaf ⟨[0],[(0,0,none),(1,0,none)]⟩ [] .ret (some ([(0,vb false)],[.cells false 0 ([vi ro,vi us, .mp 1,vb false,vi fu]), .obj [] (AQ [] hid)]))

theorem Yi (ro:Int) (us:Int) (fu:Int) (hid:List (Value×Value)):Av DP ΓF ΔF Tryd.f34 [.ptr 0 0 0] [.cells false 0 ([vi ro,vi us, .mp 1,vb false,vi fu]), .obj [] (AQ [] hid)] (Sy ro us fu hid)=Sy ro us fu hid:=by kernel_rfl

noncomputable def ir (n:Int):Tree:=
.leaf ⟨[0],[(1,0,none),(0,0,none)]⟩ [] .ret (some ([(0, .ptr 0 0 0)],[.cells false 0 ([vi (if (0:Int)<((if (67108864:Int)<(n:Int) then (67108864:Int) else (n:Int)):Int) then ((if (67108864:Int)<(n:Int) then (67108864:Int) else (n:Int)):Int) else (0:Int)),vi 0, .mp 1,vb false,vi 0]), .obj [] (AQ [] [])]))

theorem iu (n:Int):Av DP ΓF ΔF Tryd.f14 [vi n] [] (ir n)=ir n:=by kernel_rfl


theorem pv {fn:Func} {D:Dsk} {al:List AV} {bs:List UInt8} {e:Int} (hal:al.all Vu=true)
  (h:∀ hid,hid.map (·.1)=DD (D.files.map (·.name))→RG fn (.ptr 0 0 0::al) (BA D [] hid) (.tup [.rs 2 0 1 0 bs.length,vi e]) (BA D [] hid++ [GV 0 bs])):
  MM (RG fn) (.op 0::al) [.obj [] (AH D)] (.tup [.rs 1 0 1 0 bs.length,vi e]) [.obj [] (AH D),GV 0 bs]:=by
 refine ⟨D,D,[],D.files,[],[],[(2,0,bs)],al, .tup [.rs 0 0 1 0 bs.length,vi e], .refl _,Ol hal,by rw[G5 hal],rfl,fun hid hh=>⟨BA D [] hid++ [GV 0 bs],?_,⟨rfl,rfl,fun i hi=>(nomatch hi),by simp,fun z hz=>?_,fun b hb=>absurd hb (by simp)⟩⟩, .refl _,rfl,rfl,rfl,rfl⟩
 ·rw[G5 hal]
  exact h hid (by rw[hh]; simp[Ek])
 ·rcases List.mem_cons.1 hz with rfl | hz
  ·rfl
  ·cases hz

theorem px {fn:Func} {D:Dsk} {x:Fil} {al:List AV} {bs:List UInt8} {e:Int} (ok:(D.files.map (·.name)).Nodup) (hx:x∈D.files) (hal:al.all Vu=true)
  (h:∀ hid,hid.map (·.1)=DD ((Ky D.files x.name).map (·.name))→RG fn (.ptr 0 0 0::al) (BA D [x] hid) (.tup [.rs 4 0 1 0 bs.length,vi e]) (BA D [x] hid++ [GV 0 bs])):
  MM (RG fn) (.op 0::al) [.obj [] (AH D)] (.tup [.rs 1 0 1 0 bs.length,vi e]) [.obj [] (AH D),GV 0 bs]:=by
 refine ⟨D,D,[x],Ky D.files x.name,[],[⟨x,2,3,0⟩],[(4,0,bs)],al, .tup [.rs 0 0 1 0 bs.length,vi e],Dv ok hx,Ol hal,by rw[G5 hal],rfl,fun hid hh=>⟨BA D [x] hid++ [GV 0 bs],?_,⟨rfl,rfl,fun i hi=>?_,by simp,fun z hz=>?_,fun b hb=>absurd hb (by simp)⟩⟩,(Dv ok hx).symm,rfl,rfl,rfl,rfl⟩
 ·rw[G5 hal]
  exact h hid (by rw[hh]; simp[Ek])
 ·rcases List.mem_cons.1 hi with rfl | hi
  ·exact ⟨rfl,rfl⟩
  ·cases hi
 ·rcases List.mem_cons.1 hz with rfl | hz
  ·rfl
  ·cases hz

def U2:Ae:=fun args B r B'=>∃ (D:Dsk) (nm:ByteArray) (ofs n:Int),D.Ok∧args= [.op 0,vs nm,vi ofs,vi n]∧B= [.obj [] (AH D)] ∧
 r= .tup [.rs 1 0 1 0 (Bk D nm ofs n).1.length,vi (Bk D nm ofs n).2]∧B'= [.obj [] (AH D),GV 0 (Bk D nm ofs n).1]

theorem ZU (bs:List UInt8):rowC (bs.map AA.f)=bs.map KC:=(byteCells bs).symm

theorem iv (bs:List UInt8) (lo k k':Nat) {n:Nat} (hn:n=k') (hk:k'=min k (bs.length - lo)):
  ((rowC (bs.map AA.f)).drop (0+lo*1)).take (n*AA.sz)=rowC (((bs.drop lo).take k).map AA.f):=by
 subst hn
 rw[ZU,ZU,←List.map_drop,←List.map_take]
 congr 1
 show ((bs.drop (0+lo*1)).take (n*1))=_
 rw[show 0+lo*1=lo from by omega,Nat.mul_one,hk]
 rw[←List.length_drop,List.take_eq_take_iff]
 omega

theorem iw (L:List UInt8) (ofs n:Int) (h1:0≤ofs) (h2:ofs≤(L.length:Int)) (h3:0≤n):
  cutL (some ofs) (some (ofs+(if (((L.length:Nat):Int) - ofs:Int)<(n:Int) then (((L.length:Nat):Int) - ofs:Int) else (n:Int)))) L=(L.drop ofs.toNat).take (min n (L.length - ofs)).toNat:=by
 show (L.take _).drop ofs.toNat=_
 rw[List.drop_take]
 congr 1
 split <;> omega

theorem uG:SoundR DP Up U2:=(SO o8 o9 pA).mono (by
 rintro args B r B' ⟨D,nm,ofs,n,ok,rfl,rfl,rfl,rfl⟩
 obtain ⟨b1,b2,b3⟩:=ok.bnd
 obtain ⟨ro,us,fs,dn,fu⟩:=D
 cases dn with
 | true=>
  refine pv (bs:= []) (e:=10) (al:= [vs nm,vi ofs,vi n]) rfl (fun hid hh=> .inr (.inr ⟨BA (G3 ro us fu true) [] hid,vi 10,⟨by rw[RA]; rfl,_,Yd ro us fu hid nm ofs n,?_⟩,rfl,rfl⟩))
  unfold Ss
  exact AM (Df (.d ro us fu hid nm) []) (wp_leaf rfl ⟨rfl,rfl⟩)
 | false=>
  cases hg:(⟨ro,us,fs,false,fu⟩:Dsk).get nm with
  | none=>
   have hno:=GX hg
   have h2:Bk ⟨ro,us,fs,false,fu⟩ nm ofs n=([],4):=by unfold Bk; rw[if_neg (by simp)]; simp only[hg]
   rw[h2]
   refine pv (bs:= []) (e:=4) (al:= [vs nm,vi ofs,vi n]) rfl (fun hid hh=> .inr (.inr ⟨BA (G3 ro us fu false) [] hid,vi 4,⟨by rw[RA]; rfl,_,Ye ro us fu hid nm ofs n,?_⟩,rfl,rfl⟩))
   unfold Su
   exact AM (Df (.a ro us fu hid _ nm hh hno) []) (wp_leaf rfl ⟨rfl,rfl⟩)
  | some x=>
   obtain ⟨hx,rfl⟩:=EY hg
   have hxl:=b3 x hx
   simp only at b1 b2 hxl
   by_cases hbad:ofs<0∨ofs>x.b.length∨n<0
   ·have h2:Bk ⟨ro,us,fs,false,fu⟩ x.name ofs n=([],1):=by unfold Bk; rw[if_neg (by simp)]; simp only[hg,hbad,if_true]
    rw[h2]
    refine px (bs:= []) (e:=1) (al:= [vs x.name,vi ofs,vi n]) ok.nod hx rfl (fun hid hh=> .inr (.inr ⟨BA (G3 ro us fu false) [x] hid,vi 1,⟨by rw[RA]; rfl,_,Pv ro us fu hid x.b x.sure x.name ofs n,?_⟩,rfl,rfl⟩))
    unfold Ox
    refine AM (Df (.p ro us fu hid _ x hh) []) (AC (fun h=>wp_leaf rfl ⟨rfl,rfl⟩) (fun h1=>AC (fun h=>wp_leaf rfl ⟨rfl,rfl⟩) (fun h2=>AC (fun h=>wp_leaf rfl ⟨rfl,rfl⟩) (fun h3=>?_))))
    have h1:=of_decide_eq_false h1
    have h2:=of_decide_eq_false h2
    have h3:=of_decide_eq_false h3
    omega
   ·have h2:Bk ⟨ro,us,fs,false,fu⟩ x.name ofs n=((x.b.drop ofs.toNat).take (min n (x.b.length - ofs)).toNat,0):=by unfold Bk; rw[if_neg (by simp)]; simp only[hg,hbad,if_false]
    rw[h2]
    have hc:=iw x.b ofs n (by omega) (by omega) (by omega)
    simp only
    rw[←hc]
    refine px (e:=0) (al:= [vs x.name,vi ofs,vi n]) ok.nod hx rfl (fun hid hh=> .inl ⟨by rw[RA]; rfl,_,Pv ro us fu hid x.b x.sure x.name ofs n,?_⟩)
    unfold Ox
    have hlen:(cutL (some ofs) (some (ofs+(if (((x.b.length:Nat):Int) - ofs:Int)<(n:Int) then (((x.b.length:Nat):Int) - ofs:Int) else (n:Int)))) x.b).length≤x.b.length:=by
     rw[hc]; simp only[List.length_take,List.length_drop]; omega
    refine AM (Df (.p ro us fu hid _ x hh) []) (AC (fun h=>absurd (of_decide_eq_true h) (by omega)) (fun h1=>AC (fun h=>absurd (of_decide_eq_true h) (by omega)) (fun h2=>AC (fun h=>absurd (of_decide_eq_true h) (by omega)) (fun h3=>AP (by omega) (AP (by split <;> omega) ⟨?_,SS ?_ (by omega) (wp_leaf rfl ⟨rfl,rfl⟩)⟩)))))
    ·show 0≤ofs∧ofs≤_∧_≤(x.b.length:Int)
     split <;> omega
    ·refine ⟨?_,?_⟩
     ·rw[hc]
      simp only[Be,A8,List.length_take,List.length_drop]
      split <;> omega
     ·rw[hc]
      refine iv _ _ _ _ rfl ?_
      simp only[Be,A8,List.length_take,List.length_drop]
      split <;> omega)


def U3:Ae:=fun args B r B'=>∃ (D:Dsk),D.Ok∧args= [.op 0]∧B= [.obj [] (AH D)]∧r=vb D.down∧B'=B

theorem uH:SoundR DP Us U3:=(SO pH pI pJ).mono (by
 rintro args B r B' ⟨D,ok,rfl,rfl,rfl,rfl⟩
 obtain ⟨ro,us,fs,dn,fu⟩:=D
 cases dn with
 | true=>
  refine LO (al:= []) rfl rfl rfl (.refl _) (fun hid hh=> .inl ⟨by rw[d9]; rfl,_,Yh ro us fu hid,?_⟩)
  unfold Sx
  exact wp_leaf rfl ⟨rfl,rfl⟩
 | false=>
  refine LO (al:= []) rfl rfl rfl (.refl _) (fun hid hh=> .inl ⟨by rw[d9]; rfl,_,Yi ro us fu hid,?_⟩)
  unfold Sy
  exact wp_leaf rfl ⟨rfl,rfl⟩)

def U4:Ae:=fun args B r B'=>∃ (D:Dsk),D.Ok∧args= [.op 0]∧B= [.obj [] (AH D)]∧r=vi (D.room - D.used)∧B'=B

theorem uI:SoundR DP Ur U4:=(SO pE pF pG).mono (by
 rintro args B r B' ⟨D,ok,rfl,rfl,rfl,rfl⟩
 obtain ⟨b1,b2,b3⟩:=ok.bnd
 have hro:=ok.room
 obtain ⟨ro,us,fs,dn,fu⟩:=D
 simp only at b1 b2 hro
 cases dn with
 | true=>
  refine LO (al:= []) rfl rfl rfl (.refl _) (fun hid hh=> .inl ⟨by rw[d7]; rfl,_,Yf ro us fu hid,?_⟩)
  unfold Sv
  exact AP (by omega) (wp_leaf rfl ⟨rfl,rfl⟩)
 | false=>
  refine LO (al:= []) rfl rfl rfl (.refl _) (fun hid hh=> .inl ⟨by rw[d7]; rfl,_,Yg ro us fu hid,?_⟩)
  unfold Sw
  exact AP (by omega) (wp_leaf rfl ⟨rfl,rfl⟩))

def iy:Ae:=fun args B r B'=>∃ n:Int,args= [vi n]∧B= []∧r= .op 0∧B'= [.obj [] (AH (newD n))]

theorem wb:SoundR DP Vr iy:=(SG tN tO tP).newD.mono (by
 rintro args B r B' ⟨n,rfl,rfl,rfl,rfl⟩
 refine ⟨newD n,rfl, .inl ⟨by rw[tQ]; rfl,_,iu n,?_⟩,rfl,rfl,rfl⟩
 unfold ir
 exact wp_leaf rfl ⟨rfl,rfl⟩)




def Pw (R1 R2:Ae):Ae:=fun a b c d=>R1 a b c d∨R2 a b c d
def Oy (R:Ae):Ae:=Pw (AX R) (KM (AX R))
theorem RI {f:Nat} {R:Ae} (h:SoundR DP f R):SoundR DP f (Oy R):=(AU h).or (AU h).shutRow

section
variable {B : List Box} {b : Nat} {D D1 : Dsk} {nm nn : ByteArray} {e : Int}

theorem wc (n:Int):AX iy [vi n] B (.op B.length) (B++ [.obj [] (AH (newD n))]):=iL ⟨n,rfl,rfl,rfl,rfl⟩ rfl
theorem mR (ok:D.Ok) (hN:nm.size≤1000000000) (hb:B[b]? = some (.obj [] (AH D))):AX Om [.op b,vs nm] B (vi (Ay D nm).2) (B.set b (.obj [] (AH (Ay D nm).1))):=
 GY (R:=Om) ⟨D,nm,ok,hN,rfl,rfl,rfl,rfl⟩ hb rfl rfl
theorem mS {bs:List UInt8} (ok:D.Ok) (hN:bs.length≤1000000000) (hb:B[b]? = some (.obj [] (AH D))):Oy Ow [.op b,vs nm,vl (bs.map AA.f)] B (vi (BI D nm bs).2) (B.set b (.obj [] (AH (BI D nm bs).1))):=
 .inl (GY (R:=Ow) ⟨D,nm,bs,ok,hN,rfl,rfl,rfl,rfl⟩ hb rfl rfl)
theorem uJ (ok:D.Ok) (hb:B[b]? = some (.obj [] (AH D))):AX U0 [.op b,vs nm] B (vi (Cn D nm).2) (B.set b (.obj [] (AH (Cn D nm).1))):=
 GY (R:=U0) ⟨D,nm,ok,rfl,rfl,rfl,rfl⟩ hb rfl rfl
theorem DT {B:List Box} {b:Nat} {x:Box} (hb:B[b]? = some x):B.set b x=B:=by
 refine List.ext_getElem? fun j=>?_
 rw[List.getElem?_set]
 split
 ·rename_i e; subst e
  rw[if_pos (List.getElem?_eq_some_iff.1 hb).1]; exact hb.symm
 ·rfl
theorem uK {ofs n:Int} (ok:D.Ok) (hb:B[b]? = some (.obj [] (AH D))):
  AX U2 [.op b,vs nm,vi ofs,vi n] B (.tup [.rs B.length 0 1 0 (Bk D nm ofs n).1.length,vi (Bk D nm ofs n).2]) (B++ [AA.bx 0 (Bk D nm ofs n).1]):=by
 have:=YJ (R:=U2) (xs:=(Bk D nm ofs n).1.map AA.f) ⟨D,nm,ofs,n,ok,rfl,rfl,rfl,rfl⟩ hb rfl
 rw[DT hb] at this
 exact this
theorem uL (ok:D.Ok) (hb:B[b]? = some (.obj [] (AH D))):AX U3 [.op b] B (vb D.down) B:=by
 have:=GY (R:=U3) (al:= []) ⟨D,ok,rfl,rfl,rfl,rfl⟩ hb rfl rfl
 rwa[DT hb] at this
theorem uM (ok:D.Ok) (hb:B[b]? = some (.obj [] (AH D))):AX U4 [.op b] B (vi (D.room - D.used)) B:=by
 have:=GY (R:=U4) (al:= []) ⟨D,ok,rfl,rfl,rfl,rfl⟩ hb rfl rfl
 rwa[DT hb] at this
theorem uN (ok:D.Ok) (hb:B[b]? = some (.obj [] (AH D))):AX U1 [.op b,vs nm] B (.tup [vi (BY D nm).1,vi (BY D nm).2]) B:=by
 have:=GY (R:=U1) ⟨D,nm,ok,rfl,rfl,rfl,rfl⟩ hb rfl rfl
 rwa[DT hb] at this
end



theorem Cg {x:Tree} {K:AE→St→Prop} (h:x.wp K):(Tree.any x).wp K:=h
theorem C8 (g:Int) (h:0≤g∧g<18446744073709551616):(AD g).length≤10:=RF (by omega)


section
variable {R : Ae} {al : List AV} {B : List Box} {b l : Nat} {D D1 : Dsk} {p g p1 g1 n : Int} {o o1 : Bool} {y : PV} {s : ByteArray}
end


theorem WB (n:Nat):∀ k:Nat,Hb (IY n k)=n % 256 ^ k:=by
 intro k
 induction k generalizing n with
 | zero=>simp[IY,Hb,Nat.mod_one]
 | succ k ih=>
  rw[IY,Hb,ih,UInt8.toNat_ofNat']
  have e:256 ^ (k+1)=256*256 ^ k:=by rw[Nat.pow_succ,Nat.mul_comm]
  rw[e,Nat.mod_mul]
  show n % 256 % 256+_=_
  omega
theorem Ib {n:Int} (h:0≤n∧n<4294967296):AO (AW n 4)=n:=by
 unfold AO AW
 rw[List.take_of_length_le (by rw[Sj]; decide),WB,Nat.mod_eq_of_lt (by show n.toNat<4294967296; omega)]
 omega

theorem MQ {α:Type} {a b:List α} {n:Nat} (h:a.length=n):(a++b).take n=a:=by rw[←h]; simp
theorem iz {d:List UInt8} (hd:d.length≤1048576) (rest:List UInt8):CI (AN d++rest)=(d,((d.length:Int)+12),0):=by
 have hl4:(AW (d.length:Int) 4).length=4:=CJ _ _
 have hm4:(AW (Au (Ao (AW (d.length:Int) 4))) 4).length=4:=CJ _ _
 have hc4:(AW (Au (Ao d)) 4).length=4:=CJ _ _
 have e:AN d++rest=AW (d.length:Int) 4++(AW (Au (Ao (AW (d.length:Int) 4))) 4++(AW (Au (Ao d)) 4++(d++rest))):=by simp[AN]
 have t4:(AN d++rest).take 4=AW (d.length:Int) 4:=by rw[e]; exact MQ hl4
 have t8:((AN d++rest).take 8).drop 4=AW (Au (Ao (AW (d.length:Int) 4))) 4:=by
  rw[e,←List.append_assoc,MQ (by rw[List.length_append,hl4,hm4])]
  rw[List.drop_append_of_le_length (by omega),List.drop_of_length_le (by omega),List.nil_append]
 have t12:((AN d++rest).take 12).drop 8=AW (Au (Ao d)) 4:=by
  rw[e,←List.append_assoc,←List.append_assoc,MQ (by rw[List.length_append,List.length_append,hl4,hm4,hc4])]
  rw[List.drop_append_of_le_length (by rw[List.length_append]; omega),List.drop_of_length_le (by rw[List.length_append]; omega),List.nil_append]
 have l4:AO ((AN d++rest).take 4)=(d.length:Int):=by rw[t4]; exact Ib (by omega)
 have m1:=JU (Ao (AW (d.length:Int) 4))
 have m2:=JU (Ao d)
 have tn:((AN d++rest).take (12+AO ((AN d++rest).take 4)).toNat).drop 12=d:=by
  rw[l4,MQ (by rw[EB]; omega)]
  unfold AN
  rw[List.drop_append_of_le_length (by simp only[List.length_append,CJ]; decide),List.drop_of_length_le (by simp only[List.length_append,CJ]; decide),List.nil_append]
 unfold CI
 rw[if_neg (by rw[List.length_append,EB]; omega),if_neg,if_neg (by rw[List.length_append,EB,l4]; omega),if_neg]
 ·rw[tn,l4]; simp only[Prod.mk.injEq,and_true,true_and]; omega
 ·rw[t12,tn,Ib m2]
  intro h; exact h (by omega)
 ·rw[t8,t4,Ib m1,Ib (by omega)]
  rintro (h | h)
  ·exact h (by omega)
  ·omega

theorem i3:∀ (n i a:Nat),i≤9→n<2 ^ (64 - 7*i)→(0<i→0<n)→Db i a (F7 n)=(a+n*2 ^ (7*i),i+(F7 n).length,0):=by
 intro n
 induction n using Nat.strongRecOn with
 | _ n ih=>
  intro i a hi hn hp
  have h9:i=9→n≤1:=fun e=>by
   subst e
   have:(2:Nat) ^ (64 - 7*9)=2:=by decide
   omega
  by_cases h:n<128
  ·rw[Ou h,Db,UInt8.toNat_ofNat']
   have e:n % 2 ^ 8=n:=Nat.mod_eq_of_lt (by omega)
   rw[e,if_neg (by rintro ⟨h1,h2⟩; have:=h9 h1; omega),if_pos h,if_neg (by rintro ⟨h1,h2⟩; have:=hp h2; omega)]
   rfl
  ·rw[Ov h,Db,UInt8.toNat_ofNat']
   have e:(n % 128+128) % 2 ^ 8=n % 128+128:=Nat.mod_eq_of_lt (by omega)
   have hi8:i+1≤9:=by
    rcases Nat.lt_or_ge i 9 with h1 | h1
    ·omega
    ·have:=h9 (by omega); omega
   have hpow:2 ^ (64 - 7*i)=128*2 ^ (64 - 7*(i+1)):=by
    rw[show 64 - 7*i=7+(64 - 7*(i+1)) by omega,Nat.pow_add]
   rw[e,if_neg (by omega),if_neg (by omega),ih (n / 128) (by omega) (i+1) _ hi8 (by rw[Nat.div_lt_iff_lt_mul (by decide)]; omega) (by omega)]
   have e2:(n % 128+128) % 128=n % 128:=by omega
   have e3:2 ^ (7*(i+1))=128*2 ^ (7*i):=by rw[show 7*(i+1)=7+7*i by omega,Nat.pow_add]
   rw[e2,e3,List.length_cons]
   have e4:n / 128*(128*2 ^ (7*i))=n / 128*128*2 ^ (7*i):=by rw[Nat.mul_assoc]
   have e5:n % 128*2 ^ (7*i)+n / 128*128*2 ^ (7*i)=n*2 ^ (7*i):=by rw[←Nat.add_mul]; congr 1; omega
   simp only[Prod.mk.injEq,and_true]
   rw[e4]
   exact ⟨by omega,by omega⟩
theorem WC {g:Int} (h:0≤g∧g<18446744073709551616):AJ (AD g)=(g,((AD g).length:Int),0):=by
 unfold AJ AD
 rw[i3 g.toNat 0 0 (by decide) (by show g.toNat<18446744073709551616; omega) (by omega)]
 simp only[Nat.zero_add,Nat.mul_zero,Nat.pow_zero,Nat.mul_one,Prod.mk.injEq]
 exact ⟨by omega,trivial,rfl⟩


def Dsk.cont (D:Dsk) (nm:ByteArray):Option (List UInt8):=(D.get nm).map (·.b)
structure Live (D:Dsk):Prop where
 ok:D.Ok
 up:D.down=false
 fu:D.fuse=0

theorem i4:EA 0=0:=by decide
theorem QP {D:Dsk} (h:Live D):D.stepped.down=false∧D.stepped.fuse=0:=by
 unfold Dsk.stepped
 rw[h.fu]
 exact ⟨(by decide:Da 0=false),(by decide:De 0=0)⟩
theorem WD (x:Fil) (nm:ByteArray):∀ fs:List Fil,x.name ∉ fs.map (·.name)→(HW x fs).find? (fun y=>decide (y.name=nm))=if x.name=nm then some x else fs.find? fun y=>decide (y.name=nm)
 | [],_=>by
  simp only[HW,List.find?_cons,List.find?_nil]
  by_cases h:x.name=nm <;> simp[h]
 | y::r,hx=>by
  simp only[List.map_cons,List.mem_cons,not_or] at hx
  unfold HW
  split
  ·rw[List.find?_cons]
   by_cases h:x.name=nm <;> simp[h]
  ·rw[List.find?_cons,WD x nm r hx.2,List.find?_cons]
   by_cases hy:y.name=nm
   ·have hxn:¬x.name=nm:=fun e=>hx.1 (e.trans hy.symm)
    rw[if_neg hxn]
    simp[hy,hxn]
   ·simp[hy]
theorem WE (x:Fil) (nm:ByteArray) (fs:List Fil):(FY fs x).find? (fun y=>decide (y.name=nm))=if x.name=nm then (fs.find? fun y=>decide (y.name=nm)).map fun _=>x else fs.find? fun y=>decide (y.name=nm):=by
 induction fs with
 | nil=>simp[FY]
 | cons y r ih=>
  have e:FY (y::r) x=(if y.name=x.name then x else y)::FY r x:=rfl
  rw[e,List.find?_cons,ih,List.find?_cons]
  by_cases hx:x.name=nm
  ·by_cases hy:y.name=nm
   ·simp[hx,hy]
   ·have:¬y.name=x.name:=fun e=>hy (e.trans hx)
    simp[hx,hy]
  ·by_cases hy:y.name=nm
   ·have:¬y.name=x.name:=fun e=>hx (e.symm.trans hy)
    have h2:¬nm=x.name:=fun e=>hx e.symm
    simp[hx,hy,h2]
   ·by_cases hxy:y.name=x.name
    ·simp[hx,hy,hxy]
    ·simp[hx,hy,hxy]

theorem Yj {D:Dsk} (h:Live D) {nm:ByteArray} (hn:CA nm=true) (hc:D.cont nm=none):
  (Ay D nm).2=0∧Live (Ay D nm).1∧(∀ m,(Ay D nm).1.cont m=if nm=m then some [] else D.cont m)∧(Ay D nm).1.used=D.used∧(Ay D nm).1.room=D.room:=by
 have hg:D.get nm=none:=by
  unfold Dsk.cont at hc
  cases hg:D.get nm with
  | none=>rfl
  | some x=>rw[hg] at hc; cases hc
 have e:Ay D nm=({D.stepped with files:=HW ⟨nm,[],0⟩ D.files},0):=by
  unfold Ay
  rw[hn,if_neg (by decide),if_neg (by simp[h.up])]
  simp only[hg]
  rw[h.fu,if_neg (by simp[i4])]
 have hok:=Q5 h.ok nm
 rw[e] at hok ⊢
 obtain ⟨s1,s2⟩:=QP h
 refine ⟨rfl,⟨hok,s1,s2⟩,fun m=>?_,rfl,rfl⟩
 unfold Dsk.cont Dsk.get
 rw[WD _ _ _ (GX hg)]
 simp only
 split <;> rfl
theorem Yk {D:Dsk} (h:Live D) {nm:ByteArray} {c bs:List UInt8} (hc:D.cont nm=some c) (hr:(bs.length:Int)≤D.room - D.used):
  (BI D nm bs).2=0∧Live (BI D nm bs).1∧(∀ m,(BI D nm bs).1.cont m=if nm=m then some (c++bs) else D.cont m)∧(BI D nm bs).1.used=D.used+bs.length∧(BI D nm bs).1.room=D.room:=by
 obtain ⟨x,hg,rfl⟩:∃ x,D.get nm=some x∧x.b=c:=by
  unfold Dsk.cont at hc
  cases hg:D.get nm with
  | none=>rw[hg] at hc; cases hc
  | some x=>rw[hg] at hc; cases hc; exact ⟨x,rfl,rfl⟩
 obtain ⟨_,hxn⟩:=EY hg
 have e:BI D nm bs=({D.stepped with files:=FY D.files {x with b:=x.b++bs},used:=D.used+bs.length},0):=by
  unfold BI
  rw[if_neg (by simp[h.up])]
  simp only[hg]
  rw[if_neg (by omega),h.fu,if_neg (by simp[i4])]
 have hok:=Q6 h.ok nm bs
 rw[e] at hok ⊢
 obtain ⟨s1,s2⟩:=QP h
 refine ⟨rfl,⟨hok,s1,s2⟩,fun m=>?_,rfl,rfl⟩
 show ((FY D.files {x with b:=x.b++bs}).find? fun y=>decide (y.name=m)).map (·.b)=_
 rw[WE]
 simp only[hxn]
 split
 ·rename_i e
  subst e
  unfold Dsk.get at hg
  rw[hg]; rfl
 ·rfl
theorem eL {D:Dsk} (h:Live D) {nm:ByteArray} {c:List UInt8} (hc:D.cont nm=some c):
  (Cn D nm).2=0∧Live (Cn D nm).1∧(∀ m,(Cn D nm).1.cont m=D.cont m)∧(Cn D nm).1.used=D.used∧(Cn D nm).1.room=D.room:=by
 obtain ⟨x,hg,rfl⟩:∃ x,D.get nm=some x∧x.b=c:=by
  unfold Dsk.cont at hc
  cases hg:D.get nm with
  | none=>rw[hg] at hc; cases hc
  | some x=>rw[hg] at hc; cases hc; exact ⟨x,rfl,rfl⟩
 obtain ⟨_,hxn⟩:=EY hg
 have e:Cn D nm=({D.stepped with files:=FY D.files {x with sure:=x.b.length}},0):=by
  unfold Cn
  rw[if_neg (by simp[h.up])]
  simp only[hg]
  rw[h.fu,if_neg (by simp[i4])]
 have hok:=iK h.ok nm
 rw[e] at hok ⊢
 obtain ⟨s1,s2⟩:=QP h
 refine ⟨rfl,⟨hok,s1,s2⟩,fun m=>?_,rfl,rfl⟩
 show ((FY D.files {x with sure:=(x.b.length:Int)}).find? fun y=>decide (y.name=m)).map (·.b)=((D.files).find? fun y=>decide (y.name=m)).map (·.b)
 rw[WE]
 simp only[hxn]
 split
 ·rename_i e
  subst e
  unfold Dsk.get at hg
  rw[hg]; rfl
 ·rfl
theorem i5 {n:Int}:Live (newD n):=⟨mE n,rfl,rfl⟩
theorem ZV:∀ x:List UInt8,Op.bytesLess x x=false
 | []=>rfl
 | a::x=>by simp[Op.bytesLess,ZV x]
theorem ZW:∀ x y:List UInt8,Op.bytesLess x y=false→Op.bytesLess y x=false→x=y
 | [],[],_,_=>rfl
 | _::_,[],_,h=>by simp[Op.bytesLess] at h
 | [],_::_,h,_=>by simp[Op.bytesLess] at h
 | a::x,b::y,h,h'=>by
  simp only[Op.bytesLess,Bool.or_eq_false_iff,decide_eq_false_iff_not,Bool.and_eq_false_iff,beq_eq_false_iff_ne] at h h'
  have e:a=b:=by
   apply UInt8.toNat_inj.mp
   have h1:=h.1
   have h2:=h'.1
   rw[UInt8.lt_iff_toNat_lt] at h1 h2
   omega
  subst e
  rw[ZW x y (h.2.resolve_left (by simp)) (h'.2.resolve_left (by simp))]

theorem Tl:∀ x y z:List UInt8,Op.bytesLess x y=true→Op.bytesLess y z=true→Op.bytesLess x z=true
 | _,_,[],_,h=>by cases ‹List UInt8› <;> simp[Op.bytesLess] at h
 | [],_,_::_,_,_=>by simp[Op.bytesLess]
 | _::_,[],_::_,h,_=>by simp[Op.bytesLess] at h
 | a::x,b::y,c::z,h,h'=>by
  simp only[Op.bytesLess,Bool.or_eq_true,decide_eq_true_eq,Bool.and_eq_true,beq_iff_eq] at h h' ⊢
  rcases h with h | ⟨h,g⟩
  ·rcases h' with h' | ⟨h',g'⟩
   ·refine .inl ?_
    rw[UInt8.lt_iff_toNat_lt] at h h' ⊢; omega
   ·rw[←h']; exact .inl h
  ·rcases h' with h' | ⟨h',g'⟩
   ·rw[h]; exact .inl h'
   ·exact .inr ⟨h.trans h',Tl x y z g g'⟩


structure Ent where
 key:ByteArray
 seq:Int
 del:Bool
 val:ByteArray

abbrev bl (a b:List UInt8):Prop:=Op.bytesLess a b=true
theorem Cd {a b:UInt8} {x y:List UInt8}:bl (a::x) (b::y)↔a<b∨(a=b∧bl x y):=by
 simp only[bl,Op.bytesLess,Bool.or_eq_true,decide_eq_true_eq,Bool.and_eq_true,beq_iff_eq]
theorem py {b:UInt8} {y:List UInt8}:bl [] (b::y):=by simp[bl,Op.bytesLess]
theorem WF:∀ (p x y:List UInt8),bl (p++x) (p++y)↔bl x y
 | [],x,y=>Iff.rfl
 | a::p,x,y=>by
  rw[List.cons_append,List.cons_append,Cd,WF p x y]
  exact ⟨fun h=>h.elim (fun h=>absurd h (UInt8.lt_irrefl _)) (·.2),fun h=> .inr ⟨rfl,h⟩⟩
theorem HA {x:List UInt8} (h:bl x x):False:=by rw[bl,ZV] at h; cases h
theorem He {x y z:List UInt8} (h:bl x y) (g:bl y z):bl x z:=Tl _ _ _ h g
theorem RJ (x y:List UInt8):bl x y∨x=y∨bl y x:=by
 by_cases h:bl x y
 ·exact .inl h
 ·by_cases g:bl y x
  ·exact .inr (.inr g)
  ·exact .inr (.inl (ZW x y (by simpa [bl] using h) (by simpa [bl] using g)))

def Ch:List UInt8→List UInt8
 | []=> []
 | c::l=>if c=0 then 0::255::Ch l else c::Ch l
theorem eM:∀ (k l s t:List UInt8),bl k l→bl (Ch k++0::1::s) (Ch l++0::1::t)
 | [],[],s,t,h=>absurd h (by simp[bl,Op.bytesLess])
 | [],c::l,s,t,_=>by
  unfold Ch
  split
  ·rename_i hc
   rw[List.nil_append,List.cons_append,List.cons_append,Cd,Cd]
   exact .inr ⟨rfl, .inl (by decide)⟩
  ·rename_i hc
   rw[List.nil_append,List.cons_append,Cd]
   refine .inl ?_
   rw[UInt8.lt_iff_toNat_lt]
   have:c.toNat≠0:=fun e=>hc (UInt8.toNat_inj.mp e)
   show 0<c.toNat
   omega
 | c::k,[],s,t,h=>absurd h (by simp[bl,Op.bytesLess])
 | c::k,d::l,s,t,h=>by
  rw[Cd] at h
  rcases h with h | ⟨rfl,h⟩
  ·have hd:d≠0:=fun e=>by
    rw[e,UInt8.lt_iff_toNat_lt] at h
    exact absurd h (Nat.not_lt_zero _)
   rw[show Ch (d::l)=d::Ch l by rw[Ch,if_neg hd],List.cons_append]
   unfold Ch
   split
   ·rename_i hc
    rw[List.cons_append,Cd]
    exact .inl (by rw[hc] at h; exact h)
   ·rw[List.cons_append,Cd]
    exact .inl h
  ·have ih:=eM k l s t h
   unfold Ch
   split
   ·rw[List.cons_append,List.cons_append,List.cons_append,List.cons_append,Cd,Cd]
    exact .inr ⟨rfl, .inr ⟨rfl,ih⟩⟩
   ·rw[List.cons_append,List.cons_append,Cd]
    exact .inr ⟨rfl,ih⟩

def DL (n:Nat):Nat→List UInt8
 | 0=> []
 | k+1=>UInt8.ofNat (n / 256 ^ k % 256)::DL n k
theorem JY (n:Nat):∀ k,(DL n k).length=k
 | 0=>rfl
 | k+1=>by simp[DL,JY n k]
theorem eN (a b:Nat):∀ k,a % 256 ^ k<b % 256 ^ k→bl (DL a k) (DL b k)
 | 0,h=>by simp[Nat.mod_one] at h
 | k+1,h=>by
  rw[DL,DL,Cd]
  have ha:a % 256 ^ (k+1)=256 ^ k*(a / 256 ^ k % 256)+a % 256 ^ k:=by rw[Nat.pow_succ,Nat.mod_mul,Nat.add_comm]
  have hb:b % 256 ^ (k+1)=256 ^ k*(b / 256 ^ k % 256)+b % 256 ^ k:=by rw[Nat.pow_succ,Nat.mod_mul,Nat.add_comm]
  have h1:a % 256 ^ k<256 ^ k:=Nat.mod_lt _ (Nat.pow_pos (by decide))
  have h2:b % 256 ^ k<256 ^ k:=Nat.mod_lt _ (Nat.pow_pos (by decide))
  rw[ha,hb] at h
  rcases Nat.lt_trichotomy (a / 256 ^ k % 256) (b / 256 ^ k % 256) with e | e | e
  ·refine .inl ?_
   rw[UInt8.lt_iff_toNat_lt,UInt8.toNat_ofNat',UInt8.toNat_ofNat']
   omega
  ·refine .inr ⟨by rw[e],eN a b k ?_⟩
   rw[e] at h
   omega
  ·exfalso
   have:256 ^ k*(b / 256 ^ k % 256)+256 ^ k≤256 ^ k*(a / 256 ^ k % 256):=by
    rw[←Nat.mul_succ]
    exact Nat.mul_le_mul_left _ e
   omega
def CG (l:List UInt8):Nat:=l.foldl (fun n c=>n*256+c.toNat) 0
theorem Hf:∀ (l:List UInt8) (a:Nat),l.foldl (fun n c=>n*256+c.toNat) a=a*256 ^ l.length+CG l
 | [],a=>by simp[CG]
 | c::l,a=>by
  unfold CG
  rw[List.foldl_cons,List.foldl_cons,Hf l,Hf l (0*256+c.toNat),List.length_cons,Nat.pow_succ,Nat.add_mul,Nat.zero_mul,Nat.zero_add,Nat.mul_assoc,Nat.mul_comm 256 (256 ^ l.length)]
  omega
theorem RK (n:Nat):∀ k,CG (DL n k)=n % 256 ^ k
 | 0=>by simp[DL,CG,Nat.mod_one]
 | k+1=>by
  rw[DL]
  unfold CG
  have hu:(UInt8.ofNat (n / 256 ^ k % 256)).toNat=n / 256 ^ k % 256:=by
   rw[UInt8.toNat_ofNat']
   exact Nat.mod_eq_of_lt (Nat.mod_lt _ (by decide))
  have hm:n % 256 ^ (k+1)=n % 256 ^ k+256 ^ k*(n / 256 ^ k % 256):=by rw[Nat.pow_succ,Nat.mod_mul]
  rw[List.foldl_cons,Hf,JY,RK n k,hu,hm,Nat.zero_mul,Nat.zero_add,Nat.mul_comm,Nat.add_comm]
theorem eO:∀ (x y:List UInt8),x.length=y.length→(bl x y↔CG x<CG y)
 | [],[],_=>by simp[bl,Op.bytesLess,CG]
 | [],_::_,h=>by simp at h
 | _::_,[],h=>by simp at h
 | a::x,b::y,h=>by
  have hl:x.length=y.length:=by simpa using h
  have ih:=eO x y hl
  have bx:∀ l:List UInt8,CG l<256 ^ l.length:=fun l=>by
   induction l with
   | nil=>decide
   | cons c l ih=>
    unfold CG
    rw[List.foldl_cons,Hf,List.length_cons,Nat.pow_succ]
    have:=c.toNat_lt
    have h2:(0*256+c.toNat)*256 ^ l.length≤255*256 ^ l.length:=Nat.mul_le_mul_right _ (by omega)
    omega
  have h1:=bx x
  have h2:=bx y
  rw[←hl] at h2
  have e1:CG (a::x)=a.toNat*256 ^ x.length+CG x:=by
   conv=>lhs; unfold CG
   rw[List.foldl_cons,Hf,Nat.zero_mul,Nat.zero_add]
  have e2:CG (b::y)=b.toNat*256 ^ x.length+CG y:=by
   conv=>lhs; unfold CG
   rw[List.foldl_cons,Hf,Nat.zero_mul,Nat.zero_add,hl]
  rw[Cd,ih,e1,e2,UInt8.lt_iff_toNat_lt]
  constructor
  ·rintro (g | ⟨rfl,g⟩)
   ·have:a.toNat*256 ^ x.length+256 ^ x.length≤b.toNat*256 ^ x.length:=by
     rw[←Nat.succ_mul]
     exact Nat.mul_le_mul_right _ g
    omega
   ·omega
  ·intro g
   rcases Nat.lt_trichotomy a.toNat b.toNat with e | e | e
   ·exact .inl e
   ·refine .inr ⟨UInt8.toNat_inj.mp e,?_⟩
    rw[e] at g
    omega
   ·exfalso
    have:b.toNat*256 ^ x.length+256 ^ x.length≤a.toNat*256 ^ x.length:=by
     rw[←Nat.succ_mul]
     exact Nat.mul_le_mul_right _ e
    omega

def GZ (x:Ent):Nat:=2*x.seq.toNat % 18446744073709551616+(if x.del then 0 else 1)
def BC (x:Ent):List UInt8:=Ch x.key.data.toList++0::1::DL (18446744073709551615 - GZ x) 8
def Bz (x y:Ent):Prop:=bl x.key.data.toList y.key.data.toList∨(x.key=y.key∧y.seq<x.seq)
def Dp (x:Ent):Prop:=0≤x.seq∧x.seq≤72057594037927935
theorem LV {x:Ent} (h:Dp x):GZ x=2*x.seq.toNat+(if x.del then 0 else 1)∧GZ x<144115188075855872:=by
 have h1:=h.1
 have h2:=h.2
 unfold GZ
 rw[Nat.mod_eq_of_lt (by omega)]
 refine ⟨rfl,?_⟩
 split <;> omega
theorem WG {x y:Ent} (hx:Dp x) (hy:Dp y) (h:Bz x y):bl (BC x) (BC y):=by
 unfold BC
 rcases h with h | ⟨h,g⟩
 ·exact eM _ _ _ _ h
 ·rw[h,WF,Cd]
  refine .inr ⟨rfl,?_⟩
  rw[Cd]
  refine .inr ⟨rfl,?_⟩
  have h1:=LV hx
  have h2:=LV hy
  have h3:=hx.1
  have h4:=hy.1
  apply eN
  rw[Nat.mod_eq_of_lt (by omega),Nat.mod_eq_of_lt (by omega)]
  have:GZ y<GZ x:=by
   rw[h1.1,h2.1]
   split <;> split <;> omega
  omega

def Co:List UInt8→Option (List UInt8×List UInt8)
 | []=>some ([],[])
 | c::r=>match r with
  | []=>if c=0 then none else some ([c],[])
  | d::r'=>if c=0 then (if d=1 then some ([],c::d::r') else if d=255 then (Co r').map fun p=>(0::p.1,p.2) else none) else (Co (d::r')).map fun p=>(c::p.1,p.2)
def CS (x:Ent):Int:=
 if x.key.size=0∨x.seq>72057594037927935∨(x.del=true∧x.val.size≠0) then 1 else if x.key.size>128∨x.val.size>65536 then 6 else 0
def Ag:Ent:=⟨⟨#[]⟩,0,false,⟨#[]⟩⟩
def BG (s:List UInt8):Ent×Int:=
 match Co s with
 | none=>(Ag,2)
 | some (k,r)=>
  if r.length≠10 then (Ag,2) else
  if CS ⟨⟨k.toArray⟩,((18446744073709551615 - CG (r.drop 2)) / 2:Nat),decide ((18446744073709551615 - CG (r.drop 2)) % 2=0),⟨#[]⟩⟩≠0 then (Ag,2) else
  (⟨⟨k.toArray⟩,((18446744073709551615 - CG (r.drop 2)) / 2:Nat),decide ((18446744073709551615 - CG (r.drop 2)) % 2=0),⟨#[]⟩⟩,0)
theorem WH:∀ (k t:List UInt8),Co (Ch k++0::1::t)=some (k,0::1::t)
 | [],t=>by
  show Co (0::1::t)=_
  unfold Co
  simp
 | c::k,t=>by
  have ih:=WH k t
  unfold Ch
  by_cases hc:c=0
  ·subst hc
   rw[if_pos rfl]
   show Co (0::255::(Ch k++0::1::t))=_
   rw[Co]
   simp only[if_true]
   rw[if_neg (by decide),ih]
   rfl
  ·rw[if_neg hc,List.cons_append]
   cases he:Ch k++0::1::t with
   | nil=>simp at he
   | cons d r=>
    rw[he] at ih
    rw[Co,if_neg hc,ih]
    rfl
theorem ZX {x:Ent} (hs:0≤x.seq) (h:CS x=0):BG (BC x)=(⟨x.key,x.seq,x.del,⟨#[]⟩⟩,0):=by
 have hb:¬(x.key.size=0∨x.seq>72057594037927935∨(x.del=true∧x.val.size≠0)):=fun e=>by
  unfold CS at h
  rw[if_pos e] at h
  cases h
 have hl:¬(x.key.size>128∨x.val.size>65536):=fun e=>by
  unfold CS at h
  rw[if_neg hb,if_pos e] at h
  cases h
 have hq:Dp x:=⟨hs,by omega⟩
 obtain ⟨n1,n2⟩:=LV hq
 unfold BG BC
 rw[WH]
 simp only[List.length_cons,JY,List.drop_succ_cons,List.drop_zero]
 rw[if_neg (by decide),RK,Nat.mod_eq_of_lt (by omega),show 18446744073709551615 - (18446744073709551615 - GZ x)=GZ x by omega]
 have e1:((GZ x / 2:Nat):Int)=x.seq:=by
  rw[n1]
  split <;> omega
 have e2:decide (GZ x % 2=0)=x.del:=by
  rw[n1]
  cases x.del
  ·rw[if_neg (by decide)]; exact decide_eq_false (by omega)
  ·rw[if_pos rfl]; exact decide_eq_true (by omega)
 rw[e1,e2]
 have ek:(⟨x.key.data.toList.toArray⟩:ByteArray)=x.key:=by simp
 rw[ek]
 have hc:CS ⟨x.key,x.seq,x.del,⟨#[]⟩⟩=0:=by
  unfold CS
  rw[if_neg,if_neg]
  ·rintro (e | e)
   ·exact hl (.inl e)
   ·exact absurd e (show ¬(0>65536) by decide)
  ·rintro (e | e | e)
   ·exact hb (.inl e)
   ·exact hb (.inr (.inl e))
   ·exact absurd rfl e.2
 rw[if_neg (by rw[hc]; decide)]

theorem DU {x y:Tree} {K:AE→St→Prop} (hx:x.wp K) (hy:y.wp K):(Tree.fork x y).wp K:=⟨hx,hy⟩



theorem WI:∀ (b r:List UInt8) (i a:Nat),(Db i a b).2.2=0→Db i a (b++r)=Db i a b
 | [],r,i,a,h=>by simp[Db] at h
 | c::b,r,i,a,h=>by
  have ih:=WI b r (i+1) (a+c.toNat % 128*2 ^ (7*i))
  rw[List.cons_append]
  unfold Db at h ⊢
  split
  ·rfl
  ·rename_i h1
   rw[if_neg h1] at h
   split
   ·rfl
   ·rename_i h2
    rw[if_neg h2] at h
    exact ih h
theorem MR {g:Int} (h:0≤g∧g<18446744073709551616) (r:List UInt8):AJ (AD g++r)=(g,((AD g).length:Int),0):=by
 have h1:=WC h
 have h2:(Db 0 0 (AD g)).2.2=0:=by
  have:=congrArg (fun x=>x.2.2) h1
  unfold AJ at this
  simp only at this
  omega
 rw[←h1]
 unfold AJ
 rw[WI _ r 0 0 h2]


structure Par where
 name:ByteArray
 val:ByteArray
abbrev Par.nl (p:Par):List UInt8:=p.name.data.toList
abbrev Par.vl (p:Par):List UInt8:=p.val.data.toList
def Dq:List UInt8→List UInt8→Nat
 | a::x,b::y=>if a=b then Dq x y+1 else 0
 | _,_=>0
theorem Sz:∀ x y:List UInt8,Dq x y≤x.length∧Dq x y≤y.length
 | [],_=>by simp[Dq]
 | _::_,[]=>by simp[Dq]
 | a::x,b::y=>by
  have:=Sz x y
  unfold Dq
  split <;> simp <;> omega
theorem Tm:∀ x y:List UInt8,x.take (Dq x y)=y.take (Dq x y)
 | [],_=>by simp[Dq]
 | _::_,[]=>by simp[Dq]
 | a::x,b::y=>by
  unfold Dq
  split
  ·rename_i h
   rw[List.take_succ_cons,List.take_succ_cons,Tm x y,h]
  ·rfl
def CL (i:Nat) (last n:List UInt8):Nat:=if i % 8=0 then 0 else Dq last n
def Dr (k:Nat) (p:Par):List UInt8:=AD k++AD ((p.nl.length:Int) - k)++AD p.vl.length++p.nl.drop k++p.vl
def WJ:Nat→List UInt8→List Par→List UInt8→List UInt8→Nat→List UInt8×Int
 | _,_,[],b,w,c=>(b++w++AW c 4,0)
 | i,last,p::L,b,w,c=>
  if i>0∧¬bl last p.nl then ([],1) else
  if (b++Dr (CL i last p.nl) p).length>262144 then ([],6) else
  WJ (i+1) p.nl L (b++Dr (CL i last p.nl) p) (if i % 8=0 then w++AW b.length 4 else w) (if i % 8=0 then c+1 else c)
def Af (L:List Par):List UInt8×Int:=WJ 0 [] L [] [] 0
def Hg (N:Nat) (r last:List UInt8):Option (Par×List UInt8):=
 let r1:=r.drop (AJ r).2.1.toNat
 let r2:=r1.drop (AJ r1).2.1.toNat
 let r3:=r2.drop (AJ r2).2.1.toNat
 if (AJ r).2.2≠0∨(AJ r).1>N then none else
 if (AJ r1).2.2≠0∨(AJ r1).1>N then none else
 if (AJ r2).2.2≠0∨(AJ r2).1>N then none else
 if (AJ r).1>last.length∨(AJ r1).1+(AJ r2).1>r3.length then none else
 some (⟨⟨(last.take (AJ r).1.toNat++r3.take (AJ r1).1.toNat).toArray⟩,⟨((r3.drop (AJ r1).1.toNat).take (AJ r2).1.toNat).toArray⟩⟩,r3.drop ((AJ r1).1+(AJ r2).1).toNat)
def C4 (N:Nat):Nat→List UInt8→List UInt8→Option (List Par)
 | _,[],_=>some []
 | 0,_::_,_=>none
 | f+1,c::r,last=>match Hg N (c::r) last with
  | none=>none
  | some (p,r')=>(C4 N f r' p.nl).map (p :: ·)

def CM:Nat→List UInt8→List Par→List UInt8
 | _,_,[]=> []
 | i,last,p::L=>Dr (CL i last p.nl) p++CM (i+1) p.nl L
def HB:Nat→Nat→List UInt8→List Par→List UInt8
 | _,_,_,[]=> []
 | o,i,last,p::L=>(if i % 8=0 then AW o 4 else [])++HB (o+(Dr (CL i last p.nl) p).length) (i+1) p.nl L
def cntL:Nat→List Par→Nat
 | _,[]=>0
 | i,_::L=>(if i % 8=0 then 1 else 0)+cntL (i+1) L
def Tn:List UInt8→List Par→Prop
 | _,[]=>True
 | last,p::L=>bl last p.nl∧Tn p.nl L
def bK:List Par→Prop
 | []=>True
 | p::L=>Tn p.nl L
theorem eP:∀ (L:List Par) (i:Nat) (last b w:List UInt8) (c:Nat),(i=0→∀ p M,L=p::M→Tn p.nl M)→(0<i→Tn last L)→(b++CM i last L).length≤262144 →
  WJ i last L b w c=(b++CM i last L++(w++HB b.length i last L)++AW ((c+cntL i L:Nat):Int) 4,0)
 | [],i,last,b,w,c,_,_,_=>by simp[WJ,CM,HB,cntL]
 | p::L,i,last,b,w,c,h0,h1,hl=>by
  have hup:Tn p.nl L:=by
   rcases Nat.eq_zero_or_pos i with e | e
   ·exact h0 e p L rfl
   ·exact (h1 e).2
  have hnb:¬(i>0∧¬bl last p.nl):=fun e=>e.2 (h1 e.1).1
  have e2:b++CM i last (p::L)=(b++Dr (CL i last p.nl) p)++CM (i+1) p.nl L:=by rw[CM,List.append_assoc]
  rw[e2] at hl
  have hle:(b++Dr (CL i last p.nl) p).length≤262144:=by
   rw[List.length_append] at hl
   omega
  rw[WJ,if_neg hnb,if_neg (by omega),eP L (i+1) p.nl _ _ _ (fun e=>absurd e (by omega)) (fun _=>hup) hl,e2]
  congr 1
  have e3:HB b.length i last (p::L)=(if i % 8=0 then AW b.length 4 else [])++HB (b++Dr (CL i last p.nl) p).length (i+1) p.nl L:=by rw[HB,List.length_append]
  have e4:cntL i (p::L)=(if i % 8=0 then 1 else 0)+cntL (i+1) L:=rfl
  rw[e3,e4]
  by_cases h8:i % 8=0
  ·rw[if_pos h8,if_pos h8,if_pos h8,if_pos h8,List.append_assoc w,Nat.add_assoc]
  ·rw[if_neg h8,if_neg h8,if_neg h8,if_neg h8,List.nil_append,Nat.zero_add]
theorem KP (g:Int):1≤(AD g).length:=by
 unfold AD
 rw[F7]
 split <;> simp
theorem Js (i:Nat) (last n:List UInt8):CL i last n≤last.length∧CL i last n≤n.length:=by
 unfold CL
 split
 ·omega
 ·exact Sz _ _
theorem bL (i:Nat) (last n:List UInt8):last.take (CL i last n)=n.take (CL i last n):=by
 unfold CL
 split
 ·rfl
 ·exact Tm _ _
theorem MS (k:Nat) (p:Par) (hk:k≤p.nl.length):(Dr k p).length=(AD k).length+(AD ((p.nl.length:Int) - k)).length+(AD p.vl.length).length+(p.nl.length - k)+p.vl.length:=by
 simp only[Dr,List.length_append,List.length_drop]
theorem mU {N i:Nat} {last:List UInt8} {p:Par} (hN:N≤1000000000) (hl:last.length≤N) (hn:p.nl.length≤N) (hv:p.vl.length≤N) (r:List UInt8):Hg N (Dr (CL i last p.nl) p++r) last=some (p,r):=by
 obtain ⟨s1,s2⟩:=Js i last p.nl
 have st:=bL i last p.nl
 generalize CL i last p.nl=k at s1 s2 st
 have g0:=MR (g:=(k:Int)) (by omega) (AD ((p.nl.length:Int) - k)++(AD p.vl.length++(p.nl.drop k++(p.vl++r))))
 have g1:=MR (g:=(p.nl.length:Int) - k) (by omega) (AD p.vl.length++(p.nl.drop k++(p.vl++r)))
 have g2:=MR (g:=(p.vl.length:Int)) (by omega) (p.nl.drop k++(p.vl++r))
 have e:Dr k p++r=AD k++(AD ((p.nl.length:Int) - k)++(AD p.vl.length++(p.nl.drop k++(p.vl++r)))):=by simp[Dr]
 have d:∀ (x y:List UInt8),(x++y).drop (x.length:Int).toNat=y:=fun x y=>by rw[Int.toNat_natCast]; exact List.drop_left
 rw[e]
 unfold Hg
 simp only[g0,d,g1,g2]
 rw[if_neg (by omega),if_neg (by omega),if_neg (by omega),if_neg (by simp only[List.length_append,List.length_drop]; omega)]
 congr 2
 ·have t1:(p.nl.drop k++(p.vl++r)).take ((p.nl.length:Int) - k).toNat=p.nl.drop k:=List.take_left' (by rw[List.length_drop]; omega)
  have t2:(p.nl.drop k++(p.vl++r)).drop ((p.nl.length:Int) - k).toNat=p.vl++r:=List.drop_left' (by rw[List.length_drop]; omega)
  rw[t1,t2,Int.toNat_natCast,Int.toNat_natCast,List.take_left,st,List.take_append_drop]
 ·rw[←List.append_assoc]
  exact List.drop_left' (by rw[List.length_append,List.length_drop]; omega)
theorem To:∀ (L:List Par) (i f N P:Nat) (last:List UInt8),N≤1000000000→last.length≤P→P+(CM i last L).length≤N→L.length≤f→C4 N f (CM i last L) last=some L
 | [],i,f,N,P,last,_,_,_,_=>by cases f <;> rfl
 | p::L,i,0,N,P,last,_,_,_,h=>by simp at h
 | p::L,i,f+1,N,P,last,hN,h1,h2,h3=>by
  obtain ⟨s1,s2⟩:=Js i last p.nl
  have hlen:=MS _ p s2
  rw[CM,List.length_append] at h2
  have ih:=To L (i+1) f N (P+(Dr (CL i last p.nl) p).length) p.nl hN (by omega) (by omega) (by simpa using h3)
  have h1e:=mU (N:=N) (i:=i) (last:=last) (p:=p) hN (by omega) (by omega) (by omega) (CM (i+1) p.nl L)
  have hne:=KP (CL i last p.nl)
  rw[CM]
  cases hc:Dr (CL i last p.nl) p++CM (i+1) p.nl L with
  | nil=>
   have:=congrArg List.length hc
   rw[List.length_append,List.length_nil] at this
   omega
  | cons c r=>
   rw[hc] at h1e
   rw[C4,h1e]
   simp only
   rw[ih]
   rfl
end Go.Ax
