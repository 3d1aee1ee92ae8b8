/- Contracts: numbers read. -/
import Derived.Test.YtddkloofiknjdaaDoorG22
import Derived.Test.YtddkloofiknjdaaDoorG20
import Derived.Test.YtddkloofiknjdaaDoorG21
set_option linter.unusedVariables false
set_option linter.unusedSimpArgs false
set_option linter.unusedSectionVars false
namespace Go.Ax
open Go.Proofs Go.RowKit
set_option maxRecDepth 100000

theorem numN_lt (l:List UInt8):numN l<256 ^ l.length:=by
 induction l with
 | nil=>decide
 | cons c l ih=>
  rw[numN,List.length_cons,Nat.pow_succ]
  have:=c.toNat_lt
  have h2:c.toNat+256*numN l<256*(numN l+1):=by omega
  exact Nat.lt_of_lt_of_le h2 (by rw[Nat.mul_comm]; exact Nat.mul_le_mul_right 256 ih)
theorem orI_shift {m c k:Nat} (h:c<2 ^ k):orI ((m*2 ^ k:Nat):Int) (c:Int)=((m*2 ^ k+c:Nat):Int):=by
 unfold orI
 rw[Int.toNat_natCast,Int.toNat_natCast,←Nat.shiftLeft_eq,←Nat.shiftLeft_add_eq_or_of_lt h]
theorem orI_comm (a b:Int):orI a b=orI b a:=by unfold orI; rw[Nat.or_comm]
theorem orI_256 {n:Nat} (c:UInt8) (h:n<256 ^ 7):orI (((n:Int)*256) % 18446744073709551616) (c.toNat:Int)=((c.toNat+256*n:Nat):Int):=by
 have e:((n:Int)*256) % 18446744073709551616=((n*2 ^ 8:Nat):Int):=by omega
 rw[e,orI_shift (by have:=c.toNat_lt; omega)]
 omega

theorem little_rounds (b:List UInt8) (hb:b.length≤1000000000):∀ (j:Nat),j≤(b.take 8).length→Rounds (TLittle_l1_e b) TLittle_l1_x noX (fun s=>(TLittle_l1_b b s).wp) (((numN ((b.take 8).drop j):Nat):Int),(j:Int) - 1) (.inl ((numN (b.take 8):Nat):Int)):=by
 intro j
 induction j with
 | zero=>
  intro _
  refine .done (by intro e; cases e) ?_
  unfold TLittle_l1_b
  refine wp_sp (fun h'=>absurd (of_decide_eq_true h') (by simp only; omega)) (fun _=>wp_leaf rfl ⟨rfl,rfl⟩)
 | succ j ih=>
  intro hj
  refine .next ?_ (ih (by omega))
  have hl:(b.take 8).length≤8:=by simp; omega
  have hjb:j<b.length:=by simp at hj; omega
  have ha:b[j]? = some b[j]:=List.getElem?_eq_getElem hjb
  have hd:(b.take 8).drop j=b[j]::(b.take 8).drop (j+1):=by
   rw[List.drop_eq_getElem_cons (by omega)]
   simp
  have hn:numN ((b.take 8).drop (j+1))<256 ^ 7:=by
   have h1:=numN_lt ((b.take 8).drop (j+1))
   exact Nat.lt_of_lt_of_le h1 (Nat.pow_le_pow_right (by decide) (by rw[List.length_drop]; omega))
  unfold TLittle_l1_b
  refine wp_sp (fun _=>wp_int (wrap64 _) (wp_elem b[j] (by simp only; omega) (by simp only; rw[show (((j+1:Nat):Int) - 1).toNat=j by omega]; exact ha) (wp_int (wrap64id (by have:=u8_b b[j]; omega)) (wp_int (or64 (by simp only; omega) (by have:=u8_b b[j]; omega)) (wp_i64 (by simp only; omega) (wp_leaf rfl ⟨rfl,?_⟩)))))) (fun h'=>absurd (of_decide_eq_false h') (by simp only; omega))
  have e1:=orI_256 b[j] hn
  have e2:((j+1:Nat):Int) - 1 - 1=(j:Int) - 1:=by omega
  simp only[e1,e2,hd,numN]

def RLittle:List AV→AV→Prop:=fun args r=>∃ (b:List UInt8),b.length≤1000000000∧args= [vl (b.map byteE.f)]∧r=vn .u64 (littleI b)
noncomputable def gLittle:=relG RLittle
theorem SLittle:SoundF DP iLittle (.pure gLittle):=sound_pureT mixedD Γ0_ok Δ0_ok hfLittle heLittle hbLittle (by
 rintro args r ⟨b,hb,rfl,rfl⟩
 refine ⟨rfl,rfl,_,TLittle_chk b,?_⟩
 unfold TLittle
 have hr:=little_rounds b hb (b.take 8).length (Nat.le_refl _)
 rw[List.drop_of_length_le (Nat.le_refl _)] at hr
 have e:(if (8:Int)<((b.length:Int):Int) then (8:Int) else ((b.length:Int):Int))=(((b.take 8).length:Nat):Int):=by
  rw[List.length_take]; split <;> omega
 rw[e]
 have hl:(b.take 8).length≤8:=by simp; omega
 exact wp_len (wp_i64 (by omega) (wp_loop _ rfl hr (wp_leaf rfl (.p _)))))

theorem shl_val {x s:Int} {B:List Box} (h:0≤s):(binA DP .shl 28 (vn .u64 x) (vi s)).map (fun v=>(v,B))=some (vn .u64 (IntKind.u64.wrap (x*2 ^ (min (Int.toNat s) 64))),B):=by
 show (((if s<0 then none else some _:Option Value)).map _).map _=_
 rw[if_neg (by omega)]
 rfl
theorem get_step {a i:Nat} (c:UInt8) (hi:i≤9) (ha:a<2 ^ (7*i)) (hc:i=9→c.toNat≤1):
  orI (a:Int) (IntKind.u64.wrap (((c.toNat:Int) % 128)*2 ^ (min (Int.toNat (7*(i:Int))) 64)))=((a+c.toNat % 128*2 ^ (7*i):Nat):Int) ∧
  (0≤IntKind.u64.wrap (((c.toNat:Int) % 128)*2 ^ (min (Int.toNat (7*(i:Int))) 64))∧IntKind.u64.wrap (((c.toNat:Int) % 128)*2 ^ (min (Int.toNat (7*(i:Int))) 64))<18446744073709551616):=by
 have e1:min (Int.toNat (7*(i:Int))) 64=7*i:=by omega
 have e2:((c.toNat:Int) % 128)*2 ^ (7*i)=((c.toNat % 128*2 ^ (7*i):Nat):Int):=by simp
 have hlt:c.toNat % 128*2 ^ (7*i)<18446744073709551616:=by
  by_cases h9:i=9
  ·subst h9
   have:=hc rfl
   have h3:c.toNat % 128≤1:=by omega
   exact Nat.lt_of_le_of_lt (Nat.mul_le_mul_right _ h3) (by decide)
  ·have h3:c.toNat % 128≤127:=by omega
   have h4:2 ^ (7*i)≤2 ^ 56:=Nat.pow_le_pow_right (by decide) (by omega)
   exact Nat.lt_of_le_of_lt (Nat.mul_le_mul h3 h4) (by decide)
 rw[e1,e2,wrap64id (by omega)]
 refine ⟨?_,by omega⟩
 rw[orI_comm,orI_shift ha,Nat.add_comm]

theorem get_rounds (b:List UInt8) (hb:b.length≤1000000000):∀ (rest:List UInt8) (i a:Nat),b.drop i=rest→i≤9→a<2 ^ (7*i) →
  Rounds (TGet_l1_e b) TGet_l1_x TGet_l1_x' (fun s=>(TGet_l1_b b s).wp) ((i:Int),(a:Int)) (.inl (((getA i a rest).1:Int),((getA i a rest).2.1:Int),((getA i a rest).2.2:Int))) ∨
  (Rounds (TGet_l1_e b) TGet_l1_x TGet_l1_x' (fun s=>(TGet_l1_b b s).wp) ((i:Int),(a:Int)) (.inr ())∧getA i a rest=(0,0,8)):=by
 intro rest
 induction rest with
 | nil=>
  intro i a hd hi ha
  have hl:b.length≤i:=List.drop_eq_nil_iff.1 hd
  refine .inr ⟨.done' (by intro e; cases e) ?_,rfl⟩
  unfold TGet_l1_b
  exact wp_sp (fun h'=>absurd (of_decide_eq_true h') (by simp only; omega)) (fun _=>wp_leaf rfl ⟨rfl,rfl⟩)
 | cons c r ih=>
  intro i a hd hi ha
  have hlt:i<b.length:=by
   rcases Nat.lt_or_ge i b.length with h | h
   ·exact h
   ·rw[List.drop_of_length_le h] at hd; cases hd
  have hg:b[i]? = some c:=by
   rw[←List.head?_drop,hd]; rfl
  have hdr:b.drop (i+1)=r:=by rw[←List.tail_drop,hd]; rfl
  have hcb:=c.toNat_lt
  have hA:a<18446744073709551616:=Nat.lt_of_lt_of_le ha (Nat.le_trans (Nat.pow_le_pow_right (by decide) (by omega:7*i≤64)) (by decide))
  by_cases herr:i=9∧1<c.toNat
  ·refine .inl (.done (by intro e; cases e) ?_)
   rw[getA,if_pos herr]
   unfold TGet_l1_b
   exact wp_sp (fun _=>wp_elem c (by simp only; omega) (by simpa using hg) (wp_sp (fun _=>wp_sp (fun _=>wp_leaf rfl ⟨rfl,rfl⟩) (fun h=>absurd (of_decide_eq_false h) (by omega))) (fun h=>absurd h (by simp[herr.1])))) (fun h=>absurd (of_decide_eq_false h) (by simp only; omega))
  ·obtain ⟨s1,s2⟩:=get_step c hi ha (fun h=>by omega)
   have hm:(0:Int)≤(c.toNat:Int) % 128∧(c.toNat:Int) % 128<128:=by omega
   have hsz:a+c.toNat % 128*2 ^ (7*i)<2 ^ (7*(i+1)):=by
    rw[show 7*(i+1)=7*i+7 by omega,Nat.pow_add]
    have h3:c.toNat % 128≤127:=by omega
    have:=Nat.mul_le_mul_right (2 ^ (7*i)) h3
    omega
   rw[getA,if_neg herr]
   by_cases h128:c.toNat<128
   ·rw[if_pos h128]
    have hcm:c.toNat % 128=c.toNat:=Nat.mod_eq_of_lt h128
    refine .inl (.done (by intro e; cases e) ?_)
    by_cases hz:c.toNat=0∧0<i
    ·rw[if_pos hz]
     unfold TGet_l1_b
     refine wp_sp (fun _=>wp_elem c (by simp only; omega) (by simpa using hg) (wp_sp (fun h9=>wp_sp (fun h=>absurd (of_decide_eq_true h) (by simp only[beq_iff_eq] at h9; omega)) (fun _=>?_)) (fun _=>?_))) (fun h=>absurd (of_decide_eq_false h) (by simp only; omega))
     all_goals exact wp_int (and127 (by omega)) (wp_int (wrap64id (by omega)) (wp_i64 (by simp only; omega) (wp_val (shl_val (by simp only; omega)) (wp_int (or64 (by simp only; omega) s2) (wp_sp (fun _=>wp_sp (fun _=>wp_sp (fun _=>wp_leaf rfl ⟨rfl,rfl⟩) (fun h=>absurd (of_decide_eq_false h) (by simp only; omega))) (fun h=>absurd h (by simp[hz.1]))) (fun h=>absurd (of_decide_eq_false h) (by omega)))))))
    ·rw[if_neg hz]
     unfold TGet_l1_b
     refine wp_sp (fun _=>wp_elem c (by simp only; omega) (by simpa using hg) (wp_sp (fun h9=>wp_sp (fun h=>absurd (of_decide_eq_true h) (by simp only[beq_iff_eq] at h9; omega)) (fun _=>?_)) (fun _=>?_))) (fun h=>absurd (of_decide_eq_false h) (by simp only; omega))
     all_goals refine wp_int (and127 (by omega)) (wp_int (wrap64id (by omega)) (wp_i64 (by simp only; omega) (wp_val (shl_val (by simp only; omega)) (wp_int (or64 (by simp only; omega) s2) (wp_sp (fun _=>wp_sp (fun h0=>wp_sp (fun h1=>absurd (of_decide_eq_true h1) (by simp only[beq_iff_eq] at h0; simp only; omega)) (fun _=>wp_i64 (by simp only; omega) (wp_leaf rfl ⟨rfl,?_⟩))) (fun _=>wp_i64 (by simp only; omega) (wp_leaf rfl ⟨rfl,?_⟩))) (fun h=>absurd (of_decide_eq_false h) (by omega)))))))
     all_goals
      simp only[s1,hcm]
      rfl
   ·rw[if_neg h128]
    have hi8:i+1≤9:=by omega
    have hnext:=ih (i+1) (a+c.toNat % 128*2 ^ (7*i)) hdr hi8 hsz
    have hb1:(TGet_l1_b b ((i:Int),(a:Int))).wp (fun e s=>e= .normal∧s=TGet_l1_e b (((i+1:Nat):Int),((a+c.toNat % 128*2 ^ (7*i):Nat):Int))):=by
     unfold TGet_l1_b
     refine wp_sp (fun _=>wp_elem c (by simp only; omega) (by simpa using hg) (wp_sp (fun h9=>wp_sp (fun h=>absurd (of_decide_eq_true h) (by simp only[beq_iff_eq] at h9; omega)) (fun _=>?_)) (fun _=>?_))) (fun h=>absurd (of_decide_eq_false h) (by simp only; omega))
     all_goals refine wp_int (and127 (by omega)) (wp_int (wrap64id (by omega)) (wp_i64 (by simp only; omega) (wp_val (shl_val (by simp only; omega)) (wp_int (or64 (by simp only; omega) s2) (wp_sp (fun h=>absurd (of_decide_eq_true h) (by omega)) (fun _=>wp_i64 (by simp only; omega) (wp_leaf rfl ⟨rfl,?_⟩)))))))
     all_goals
      simp only[s1]
      rfl
    rcases hnext with h | ⟨h,he⟩
    ·exact .inl (.next hb1 h)
    ·exact .inr ⟨.next hb1 h,he⟩

def RGet:List AV→AV→Prop:=fun args r=>∃ (b:List UInt8),b.length≤1000000000∧args= [vl (b.map byteE.f)]∧r= .tup [vn .u64 (getI b).1,vi (getI b).2.1,vi (getI b).2.2]
noncomputable def gGet:=relG RGet
theorem seal_tup {S:Nat→Prop} {B:List Box} {cs ds:List AV} (h:cs=ds) (hp:cs.all isPl=true):Sealed S B (.tup cs) (.tup ds):=by
 subst h
 refine .tup _ _ rfl fun j c d hc hd=>?_
 rw[hc] at hd; cases hd
 have:=List.all_eq_true.1 hp c (List.mem_of_getElem? hc)
 cases c with
 | p x=>exact .p x
 | _=>cases this
theorem SGet:SoundF DP iGet (.pure gGet):=sound_pureT mixedD Γ0_ok Δ0_ok hfGet heGet hbGet (by
 rintro args r ⟨b,hb,rfl,rfl⟩
 refine ⟨rfl,rfl,_,TGet_chk b,?_⟩
 unfold TGet
 rcases get_rounds b hb b 0 0 rfl (by decide) (by decide) with h | ⟨h,he⟩
 ·exact wp_len (wp_loop _ rfl h (wp_leaf rfl (seal_tup rfl rfl)))
 ·refine wp_len (wp_loop' _ rfl h (wp_leaf rfl (seal_tup ?_ rfl)))
  unfold getI
  rw[he]
  rfl)

end Go.Ax

namespace Go.Ax
open Go.Proofs Go.RowKit
set_option maxRecDepth 100000

theorem one_arg {a b:AV} (h: [a]= [b]):a=b:=by cases h; rfl
theorem two_arg {a b c d:AV} (h: [a,b]= [c,d]):a=c∧b=d:=by cases h; exact ⟨rfl,rfl⟩
theorem vl_inj' {a b:List UInt8} (h:vl (a.map byteE.f)=vl (b.map byteE.f)):a=b:=by
 have h1:PV.ls (a.map byteE.f)=PV.ls (b.map byteE.f):=by injection h
 have h2:a.map byteE.f=b.map byteE.f:=by injection h1
 exact byte_inj h2
theorem vn_inj' {k:IntKind} {a b:Int} (h:vn k a=vn k b):a=b:=by
 have h1:PV.v (.int k a)=PV.v (.int k b):=by injection h
 have h2:Value.int k a=Value.int k b:=by injection h1
 injection h2

theorem gMore_eq {s:Int} {b:List UInt8} (hs:0≤s∧s<4294967296) (hb:b.length≤1000000000):gMore [vn .u32 s,vl (b.map byteE.f)]=some (vn .u32 (moreI s b)):=
 relG_eq (fun args r r' ⟨s1,b1,_,_,h1,h2⟩ ⟨s2,b2,_,_,h3,h4⟩=>by
  obtain ⟨e1,e2⟩:=two_arg (h1.symm.trans h3)
  rw[h2,h4,vn_inj' e1,vl_inj' e2]) ⟨s,b,hs,hb,rfl,rfl⟩
theorem gMask_eq {s:Int} (hs:0≤s∧s<4294967296):gMask [vn .u32 s]=some (vn .u32 (maskI s)):=
 relG_eq (fun args r r' ⟨s1,_,h1,h2⟩ ⟨s2,_,h3,h4⟩=>by
  rw[h2,h4,vn_inj' (one_arg (h1.symm.trans h3))]) ⟨s,hs,rfl,rfl⟩
theorem gLittle_eq {b:List UInt8} (hb:b.length≤1000000000):gLittle [vl (b.map byteE.f)]=some (vn .u64 (littleI b)):=
 relG_eq (fun args r r' ⟨b1,_,h1,h2⟩ ⟨b2,_,h3,h4⟩=>by
  rw[h2,h4,vl_inj' (one_arg (h1.symm.trans h3))]) ⟨b,hb,rfl,rfl⟩
theorem gGet_eq {b:List UInt8} (hb:b.length≤1000000000):gGet [vl (b.map byteE.f)]=some (.tup [vn .u64 (getI b).1,vi (getI b).2.1,vi (getI b).2.2]):=
 relG_eq (fun args r r' ⟨b1,_,h1,h2⟩ ⟨b2,_,h3,h4⟩=>by
  rw[h2,h4,vl_inj' (one_arg (h1.symm.trans h3))]) ⟨b,hb,rfl,rfl⟩

noncomputable def Γ1:Env:=envP [(iMore,gMore)]
theorem Γ1_ok:∀ f,SoundF DP f (Γ1 f):=envP_cons SMore envP_nil
def Δ1:REnv:=envR [(iLit,liftR OLit),(iMore,liftR OMoreR)]
theorem Δ1_ok:∀ f,SoundR DP f (Δ1 f):=envR_cons (lift_sound SLit) (envR_cons (lift_sound SMoreR) envR_nil)
end Go.Ax

namespace Go.Ax
open Go.Proofs Go.RowKit
set_option maxRecDepth 100000

noncomputable def TPutL_n (n:Int):Tree:=
.callr (some 12) (Δ1 87 [nilS,vn .u64 n,vi 4] [] (.rs 0 0 1 0 ((leI n 4).length)) [byteE.bx 0 (leI n 4)]) (.rs 0 0 1 0 ((leI n 4).length)) [byteE.bx 0 (leI n 4)] (.leaf ⟨[0],[(0,0,some ((leI n 4).map byteE.f))]⟩ [rowC ((leI n 4).map byteE.f)] .ret (some ([(0, .rs 0 0 1 0 ((leI n 4).length))],[byteE.bx 0 (leI n 4)])))

theorem TPutL_n_chk (n:Int):fnC DP Γ1 Δ1 Tryd.f65 [nilS,vn .u64 n,vi 4] [] (TPutL_n n)=TPutL_n n:=by kernel_rfl

noncomputable def TPutL_r (L:List UInt8) (n:Int):Tree:=
.callr (some 12) (Δ1 87 [.rs 0 0 1 0 L.length,vn .u64 n,vi 4] [byteE.bx 0 L] (.rs 1 0 1 0 ((L++leI n 4).length)) [byteE.bx 1 ([]:List UInt8),byteE.bx 0 (L++leI n 4)]) (.rs 1 0 1 0 ((L++leI n 4).length)) [byteE.bx 1 ([]:List UInt8),byteE.bx 0 (L++leI n 4)] (.leaf ⟨[0],[(0,0,some (([]:List UInt8).map byteE.f)),(1,0,some ((L++leI n 4).map byteE.f))]⟩ [rowC (([]:List UInt8).map byteE.f),rowC ((L++leI n 4).map byteE.f)] .ret (some ([(0, .rs 1 0 1 0 ((L++leI n 4).length))],[byteE.bx 1 ([]:List UInt8),byteE.bx 0 (L++leI n 4)])))

theorem TPutL_r_chk (L:List UInt8) (n:Int):fnC DP Γ1 Δ1 Tryd.f65 [.rs 0 0 1 0 L.length,vn .u64 n,vi 4] [byteE.bx 0 L] (TPutL_r L n)=TPutL_r L n:=by kernel_rfl

noncomputable def TSum (b:List UInt8):Tree:=
.call 4 (gMore [vn .u32 0,vl (b.map byteE.f)]=some (vn .u32 (moreI 0 b))) (vn .u32 (moreI 0 b)) (.leaf ⟨[0],[]⟩ [] .ret (some ([(0,vn .u32 (moreI 0 b))],[])))

theorem TSum_chk (b:List UInt8):fnC DP Γ1 Δ1 Tryd.f89 [vl (b.map byteE.f)] [] (TSum b)=TSum b:=by kernel_rfl

noncomputable def TSumR (L:List UInt8):Tree:=
.callr (some 4) (Δ1 94 [vn .u32 0, .rs 0 0 1 0 L.length] [byteE.bx 0 L] (vn .u32 (moreI 0 L)) [byteE.bx 0 L]) (vn .u32 (moreI 0 L)) [byteE.bx 0 L] (.leaf ⟨[0],[(0,0,some (L.map byteE.f))]⟩ [rowC (L.map byteE.f)] .ret (some ([(0,vn .u32 (moreI 0 L))],[byteE.bx 0 L])))

theorem TSumR_chk (L:List UInt8):fnC DP Γ1 Δ1 Tryd.f89 [.rs 0 0 1 0 L.length] [byteE.bx 0 L] (TSumR L)=TSumR L:=by kernel_rfl

end Go.Ax

namespace Go.Ax
open Go.Proofs Go.RowKit
set_option maxRecDepth 100000

theorem cLit_n {n:Int} {B:List Box} (hn:0≤n∧n<18446744073709551616):Δ1 iLit [nilS,vn .u64 n,vi 4] B (.rs B.length 0 1 0 (leI n 4).length) (B++ [byteE.bx 0 (leI n 4)]):=
 lift_newrow (al:= [nilS,vn .u64 n,vi 4]) (R:=OLit) ⟨n,4,hn,by decide, .inl ⟨rfl,rfl,rfl,rfl⟩⟩ rfl
theorem cLit_r {n:Int} {B:List Box} {b v:Nat} {L:List UInt8} (hn:0≤n∧n<18446744073709551616) (hb:B[b]? = some (byteE.bx v L)) (hl:((L.length+4:Nat):Int)≤1000000000):
  Δ1 iLit [.rs b v 1 0 L.length,vn .u64 n,vi 4] B (.rs B.length 0 1 0 (L++leI n 4).length) (B.set b (byteE.bx (v+1) [])++ [byteE.bx 0 (L++leI n 4)]):=
 lift_row (R:=OLit) (pre:= []) ⟨n,4,hn,by decide, .inr ⟨L,by rw[leI_len]; exact hl,rfl,rfl,rfl,rfl⟩⟩ hb rfl rfl
theorem cMoreR {s:Int} {B:List Box} {b v:Nat} {L:List UInt8} (hs:0≤s∧s<4294967296) (hb:B[b]? = some (byteE.bx v L)) (hl:L.length≤1000000000):Δ1 iMore [vn .u32 s, .rs b v 1 0 L.length] B (vn .u32 (moreI s L)) B:=
 lift_seerow (R:=OMoreR) (pre:= [vn .u32 s]) (post:= []) ⟨s,L,hs,hl,rfl,rfl,rfl,rfl⟩ hb rfl rfl

def OPutL:RSpec:=fun args B r B'=>∃ n:Int,(0≤n∧n<18446744073709551616)∧RowR [] [vn .u64 n,vi 4] (leI n 4) args B r B'
theorem SPutL:SoundR DP iPutL OPutL:=sound_genT mixedD Γ1_ok Δ1_ok hfPutL hePutL hbPutL (by
 rintro args B r B' ⟨n,hn,⟨rfl,rfl,rfl,rfl⟩ | ⟨L,hL,rfl,rfl,rfl,rfl⟩⟩
 ·refine ⟨by rw[hnPutL]; rfl,_,TPutL_n_chk n,?_⟩
  unfold TPutL_n
  exact wp_callr (cLit_n hn) (wp_leaf rfl ⟨rfl,rfl⟩)
 ·refine ⟨by rw[hnPutL]; rfl,_,TPutL_r_chk L n,?_⟩
  unfold TPutL_r
  rw[leI_len] at hL
  exact wp_callr (cLit_r hn rfl hL) (wp_leaf rfl ⟨rfl,rfl⟩))

def RSum:List AV→AV→Prop:=fun args r=>∃ (b:List UInt8),b.length≤1000000000∧args= [vl (b.map byteE.f)]∧r=vn .u32 (crcI b)
noncomputable def gSum:=relG RSum
theorem SSum:SoundF DP iSum (.pure gSum):=sound_pureT mixedD Γ1_ok Δ1_ok hfSum heSum hbSum (by
 rintro args r ⟨b,hb,rfl,rfl⟩
 refine ⟨rfl,rfl,_,TSum_chk b,?_⟩
 unfold TSum
 exact wp_call (gMore_eq (by decide) hb) (wp_leaf rfl (.p _)))
theorem gSum_eq {b:List UInt8} (hb:b.length≤1000000000):gSum [vl (b.map byteE.f)]=some (vn .u32 (crcI b)):=
 relG_eq (fun args r r' ⟨b1,_,h1,h2⟩ ⟨b2,_,h3,h4⟩=>by
  rw[h2,h4,vl_inj' (one_arg (h1.symm.trans h3))]) ⟨b,hb,rfl,rfl⟩
def OSumR:RSpec:=fun args B r B'=>∃ (L:List UInt8),L.length≤1000000000∧args= [.rs 0 0 1 0 L.length]∧B= [byteE.bx 0 L]∧r=vn .u32 (crcI L)∧B'=B
theorem SSumR:SoundR DP iSum OSumR:=sound_genT mixedD Γ1_ok Δ1_ok hfSum heSum hbSum (by
 rintro args B r B' ⟨b,hb,rfl,rfl,rfl,rfl⟩
 refine ⟨by rw[hnSum]; rfl,_,TSumR_chk b,?_⟩
 unfold TSumR
 exact wp_callr (cMoreR (by decide) rfl hb) (wp_leaf rfl ⟨rfl,rfl⟩))

noncomputable def Γ2:Env:=envP [(iMask,gMask),(iSum,gSum),(iLittle,gLittle),(iGet,gGet)]
theorem Γ2_ok:∀ f,SoundF DP f (Γ2 f):=envP_cons SMask (envP_cons SSum (envP_cons SLittle (envP_cons SGet envP_nil)))
def Δ2:REnv:=envR [(iPutL,liftR OPutL),(iSum,liftR OSumR),(iPut,liftR OPut)]
theorem Δ2_ok:∀ f,SoundR DP f (Δ2 f):=envR_cons (lift_sound SPutL) (envR_cons (lift_sound SSumR) (envR_cons (lift_sound SPut) envR_nil))

section
variable {n : Int} {B : List Box} {b v : Nat} {L : List UInt8}
theorem oPut_r (hn:0≤n∧n<18446744073709551616) (hb:B[b]? = some (byteE.bx v L)) (hl:((L.length+(putI n).length:Nat):Int)≤1000000000):
  liftR OPut [.rs b v 1 0 L.length,vn .u64 n] B (.rs B.length 0 1 0 (L++putI n).length) (B.set b (byteE.bx (v+1) [])++ [byteE.bx 0 (L++putI n)]):=
 lift_row (R:=OPut) (pre:= []) ⟨n,hn, .inr ⟨L,hl,rfl,rfl,rfl,rfl⟩⟩ hb rfl rfl
end
end Go.Ax

namespace Go.Ax
open Go.Proofs Go.RowKit
set_option maxRecDepth 100000

abbrev iNext:Nat:=70
noncomputable abbrev nNext:Func:=Tryd.f70
theorem hfNext:DP.funcs[iNext]? = some nNext:=by kernel_rfl
theorem heNext:enters DP iNext=true:=by kernel_rfl
theorem hbNext:nNext.body.isSome=true:=by kernel_rfl
noncomputable def TNext (b:List UInt8):Tree:=
.int 8 ((b.map byteE.f).length:Int) (b.length:Int) (.sp 9 (decide ((b.length:Int)<(12:Int))) (
.leaf ⟨[0],[]⟩ [] .ret (some ([(0, .tup [nilS,vi 0,vi 8])],[]))) (
.cut 11 (b.map byteE.f) none (some 4) byteE b (.call 12 (gLittle [vl ((cutL none (some 4) b).map byteE.f)]=some (vn .u64 (littleI (cutL none (some 4) b)))) (vn .u64 (littleI (cutL none (some 4) b))) (.cut 14 (b.map byteE.f) (some 4) (some 8) byteE b (.call 15 (gLittle [vl ((cutL (some 4) (some 8) b).map byteE.f)]=some (vn .u64 (littleI (cutL (some 4) (some 8) b)))) (vn .u64 (littleI (cutL (some 4) (some 8) b))) (.int 16 (IntKind.u32.wrap (littleI (cutL (some 4) (some 8) b))) ((littleI (cutL (some 4) (some 8) b)) % 4294967296) (.cut 18 (b.map byteE.f) none (some 4) byteE b (.call 19 (gSum [vl ((cutL none (some 4) b).map byteE.f)]=some (vn .u32 (crcI (cutL none (some 4) b)))) (vn .u32 (crcI (cutL none (some 4) b))) (.call 20 (gMask [vn .u32 (crcI (cutL none (some 4) b))]=some (vn .u32 (maskI (crcI (cutL none (some 4) b))))) (vn .u32 (maskI (crcI (cutL none (some 4) b)))) (.sp 21 (((littleI (cutL (some 4) (some 8) b)) % 4294967296) != (maskI (crcI (cutL none (some 4) b)))) (
.leaf ⟨[0],[]⟩ [] .ret (some ([(0, .tup [nilS,vi 0,vi 12])],[]))) (
.sp 24 (decide ((littleI (cutL none (some 4) b))>(1048576:Int))) (
.leaf ⟨[0],[]⟩ [] .ret (some ([(0, .tup [nilS,vi 0,vi 12])],[]))) (
.int 27 ((b.map byteE.f).length:Int) (b.length:Int) (.int 28 (IntKind.u64.wrap ((b.length:Int))) ((b.length:Int)) (.int 30 (IntKind.u64.wrap (12+(littleI (cutL none (some 4) b)))) (12+(littleI (cutL none (some 4) b))) (.sp 31 (decide ((b.length:Int)<(12+(littleI (cutL none (some 4) b))))) (
.leaf ⟨[0],[]⟩ [] .ret (some ([(0, .tup [nilS,vi 0,vi 8])],[]))) (
.int 34 (IntKind.u64.wrap (12+(littleI (cutL none (some 4) b)))) (12+(littleI (cutL none (some 4) b))) (.cut 35 (b.map byteE.f) (some 12) (some (12+(littleI (cutL none (some 4) b)))) byteE b (.cut 37 (b.map byteE.f) (some 8) (some 12) byteE b (.call 38 (gLittle [vl ((cutL (some 8) (some 12) b).map byteE.f)]=some (vn .u64 (littleI (cutL (some 8) (some 12) b)))) (vn .u64 (littleI (cutL (some 8) (some 12) b))) (.int 39 (IntKind.u32.wrap (littleI (cutL (some 8) (some 12) b))) ((littleI (cutL (some 8) (some 12) b)) % 4294967296) (.call 41 (gSum [vl ((cutL (some 12) (some (12+(littleI (cutL none (some 4) b)))) b).map byteE.f)]=some (vn .u32 (crcI (cutL (some 12) (some (12+(littleI (cutL none (some 4) b)))) b)))) (vn .u32 (crcI (cutL (some 12) (some (12+(littleI (cutL none (some 4) b)))) b))) (.call 42 (gMask [vn .u32 (crcI (cutL (some 12) (some (12+(littleI (cutL none (some 4) b)))) b))]=some (vn .u32 (maskI (crcI (cutL (some 12) (some (12+(littleI (cutL none (some 4) b)))) b))))) (vn .u32 (maskI (crcI (cutL (some 12) (some (12+(littleI (cutL none (some 4) b)))) b)))) (.sp 43 (((littleI (cutL (some 8) (some 12) b)) % 4294967296) != (maskI (crcI (cutL (some 12) (some (12+(littleI (cutL none (some 4) b)))) b)))) (
.leaf ⟨[0],[]⟩ [] .ret (some ([(0, .tup [nilS,vi 0,vi 12])],[]))) (
.appn 45 (.ls ((cutL (some 12) (some (12+(littleI (cutL none (some 4) b)))) b).map byteE.f)) byteE (cutL (some 12) (some (12+(littleI (cutL none (some 4) b)))) b) (.int 47 (IntKind.i64.wrap ((littleI (cutL none (some 4) b)))) ((littleI (cutL none (some 4) b))) (.int 48 (IntKind.i64.wrap (12+(littleI (cutL none (some 4) b)))) (12+(littleI (cutL none (some 4) b))) (.leaf ⟨[0],[(0,0,some ((cutL (some 12) (some (12+(littleI (cutL none (some 4) b)))) b).map byteE.f))]⟩ [rowC ((cutL (some 12) (some (12+(littleI (cutL none (some 4) b)))) b).map byteE.f)] .ret (some ([(0, .tup [.rs 0 0 1 0 ((cutL (some 12) (some (12+(littleI (cutL none (some 4) b)))) b).length),vi (12+(littleI (cutL none (some 4) b))),vi 0])],[byteE.bx 0 (cutL (some 12) (some (12+(littleI (cutL none (some 4) b)))) b)])))))))))))))))))))))))))))))

theorem TNext_chk (b:List UInt8):fnC DP Γ2 Δ2 Tryd.f70 [vl (b.map byteE.f)] [] (TNext b)=TNext b:=by kernel_rfl

end Go.Ax

namespace Go.Ax
open Go.Proofs Go.RowKit
set_option maxRecDepth 100000

theorem wp_rcut {d len:Nat} {lo hi:Option Int} {k:Tree} {K:AE→St→Prop} (h0:cutOk lo hi len) (h:k.wp K):(Tree.rcut d len lo hi k).wp K:=⟨h0,h⟩

def RNext:List AV→AV→Prop:=fun args r=>∃ (b:List UInt8),b.length≤1000000000∧args= [vl (b.map byteE.f)]∧r= .tup [vl ((nextI b).1.map byteE.f),vi (nextI b).2.1,vi (nextI b).2.2]
noncomputable def gNext:=relG RNext
theorem gNext_eq {b:List UInt8} (hb:b.length≤1000000000):gNext [vl (b.map byteE.f)]=some (.tup [vl ((nextI b).1.map byteE.f),vi (nextI b).2.1,vi (nextI b).2.2]):=
 relG_eq (fun args r r' ⟨b1,_,h1,h2⟩ ⟨b2,_,h3,h4⟩=>by
  rw[h2,h4,vl_inj' (one_arg (h1.symm.trans h3))]) ⟨b,hb,rfl,rfl⟩
theorem littleI_b (b:List UInt8):0≤littleI b∧littleI b<18446744073709551616:=by
 unfold littleI
 have h1:=numN_lt (b.take 8)
 have h2:256 ^ (b.take 8).length≤256 ^ 8:=Nat.pow_le_pow_right (by decide) (by simp; omega)
 omega
theorem seal_nil3 {S:Nat→Prop} {B:List Box} {n e:Int} {d:List UInt8} (h:d= []):Sealed S B (.tup [nilS,vi n,vi e]) (.tup [vl (d.map byteE.f),vi n,vi e]):=by
 subst h
 refine .tup _ _ rfl fun j c d hc hd=>?_
 match j with
 | 0=>cases hc; cases hd; exact .nil
 | 1=>cases hc; cases hd; exact .p _
 | 2=>cases hc; cases hd; exact .p _
 | j+3=>simp at hc
theorem seal_row3 {α:Type} {E:Enc α} {B:List Box} {v:Nat} {d:List α} {n e:Int} (hb:B[0]? = some (E.bx v d)):Sealed (fun _=>True) B (.tup [.rs 0 v E.sz 0 d.length,vi n,vi e]) (.tup [vl (d.map E.f),vi n,vi e]):=by
 refine .tup _ _ rfl fun j c d' hc hd=>?_
 match j with
 | 0=>cases hc; cases hd; exact E.elt.sealed trivial hb
 | 1=>cases hc; cases hd; exact .p _
 | 2=>cases hc; cases hd; exact .p _
 | j+3=>simp at hc
theorem nextI_cut (b:List UInt8):nextI b = 
 if b.length<12 then ([],0,8) else
 if littleI (cutL (some 4) (some 8) b) % 4294967296≠maskI (crcI (cutL none (some 4) b))∨littleI (cutL none (some 4) b)>1048576 then ([],0,12) else
 if (b.length:Int)<12+littleI (cutL none (some 4) b) then ([],0,8) else
 if littleI (cutL (some 8) (some 12) b) % 4294967296≠maskI (crcI (cutL (some 12) (some (12+littleI (cutL none (some 4) b))) b)) then ([],0,12) else
 (cutL (some 12) (some (12+littleI (cutL none (some 4) b))) b,12+littleI (cutL none (some 4) b),0):=rfl
theorem SNext:SoundF DP iNext (.pure gNext):=sound_pureT mixedD Γ2_ok Δ2_ok hfNext heNext hbNext (by
 rintro args r ⟨b,hb,rfl,rfl⟩
 refine ⟨rfl,rfl,_,TNext_chk b,?_⟩
 unfold TNext
 refine wp_len (wp_sp (fun h=>wp_leaf rfl ?_) (fun h=>?_))
 ·have h:=of_decide_eq_true h
  have e:nextI b=([],0,8):=if_pos (by omega)
  rw[e]; exact seal_nil3 rfl
 have h:=of_decide_eq_false h
 have h12:12≤b.length:=by omega
 have hl4:(cutL none (some 4) b).length≤1000000000:=by show (b.take 4).length≤_; simp; omega
 have hl48:(cutL (some 4) (some 8) b).length≤1000000000:=by show ((b.take 8).drop 4).length≤_; simp; omega
 have hl812:(cutL (some 8) (some 12) b).length≤1000000000:=by show ((b.take 12).drop 8).length≤_; simp; omega
 have hn:=littleI_b (cutL none (some 4) b)
 refine wp_cut (by simp only[cutOk]; omega) (wp_call (gLittle_eq hl4) (wp_cut (by simp only[cutOk]; omega) (wp_call (gLittle_eq hl48) (wp_int (wrap32 _) (wp_cut (by simp only[cutOk]; omega) (wp_call (gSum_eq hl4) (wp_call (gMask_eq (crcI_b _)) (wp_sp (fun h=>wp_leaf rfl ?_) (fun h1=>wp_sp (fun h=>wp_leaf rfl ?_) (fun h2=>?_))))))))))
 ·have e:nextI b=([],0,12):=by
   rw[nextI_cut,if_neg (by omega),if_pos (.inl (by simpa using h))]
  rw[e]; exact seal_nil3 rfl
 ·have e:nextI b=([],0,12):=by
   rw[nextI_cut,if_neg (by omega),if_pos (.inr (of_decide_eq_true h))]
  rw[e]; exact seal_nil3 rfl
 have h2:=of_decide_eq_false h2
 have hno:¬(littleI (cutL (some 4) (some 8) b) % 4294967296≠maskI (crcI (cutL none (some 4) b))∨littleI (cutL none (some 4) b)>1048576):=by
  rintro (h | h)
  ·exact h (by simpa using h1)
  ·exact h2 h
 refine wp_len (wp_int (wrap64id (by omega)) (wp_int (wrap64id (by omega)) (wp_sp (fun h=>wp_leaf rfl ?_) (fun h3=>?_))))
 ·have e:nextI b=([],0,8):=by
   rw[nextI_cut,if_neg (by omega),if_neg hno,if_pos (of_decide_eq_true h)]
  rw[e]; exact seal_nil3 rfl
 have h3:=of_decide_eq_false h3
 have hld:(cutL (some 12) (some (12+littleI (cutL none (some 4) b))) b).length≤1048576:=by
  show ((b.take (12+littleI (cutL none (some 4) b)).toNat).drop 12).length≤_
  rw[List.length_drop,List.length_take]; omega
 refine wp_int (wrap64id (by omega)) (wp_cut (by simp only[cutOk]; omega) (wp_cut (by simp only[cutOk]; omega) (wp_call (gLittle_eq hl812) (wp_int (wrap32 _) (wp_call (gSum_eq (by omega)) (wp_call (gMask_eq (crcI_b _)) (wp_sp (fun h=>wp_leaf rfl ?_) (fun h4=>wp_appn rfl (by omega) (wp_i64 (by omega) (wp_i64 (by omega) (wp_leaf rfl ?_)))))))))))
 ·have e:nextI b=([],0,12):=by
   rw[nextI_cut,if_neg (by omega),if_neg hno,if_neg h3,if_pos (by simpa using h)]
  rw[e]; exact seal_nil3 rfl
 ·have e:nextI b=(cutL (some 12) (some (12+littleI (cutL none (some 4) b))) b,12+littleI (cutL none (some 4) b),0):=by
   rw[nextI_cut,if_neg (by omega),if_neg hno,if_neg h3,if_neg (by intro hx; exact hx (by simpa using h4))]
  rw[e]; exact seal_row3 (E:=byteE) rfl)

end Go.Ax

namespace Go.Ax
open Go.Proofs Go.RowKit
set_option maxRecDepth 100000

end Go.Ax

namespace Go.Ax
open Go.Proofs Go.RowKit
set_option maxRecDepth 100000

theorem len_le_sum {fs:List Fil} {x:Fil} (h:x∈fs):(x.b.length:Int)≤(fs.map fun x=>(x.b.length:Int)).sum:=by
 induction fs with
 | nil=>cases h
 | cons y fs ih=>
  have hs:0≤(fs.map fun x=>(x.b.length:Int)).sum:=by
   clear ih h
   induction fs with
   | nil=>simp
   | cons z fs ih=>simp only[List.map_cons,List.sum_cons]; omega
  simp only[List.map_cons,List.sum_cons]
  rcases List.mem_cons.1 h with rfl | h
  ·omega
  ·have:=ih h; omega

theorem sum_nonneg (fs:List Fil):0≤(fs.map fun x=>(x.b.length:Int)).sum:=by
 induction fs with
 | nil=>simp
 | cons z fs ih=>simp only[List.map_cons,List.sum_cons]; omega

theorem Dsk.Ok.bnd {D:Dsk} (ok:D.Ok):0≤D.used∧D.used≤67108864∧∀ x∈D.files,(x.b.length:Int)≤D.used:=by
 have h1:=ok.room
 have h2:=ok.le
 have h3:=sum_nonneg D.files
 refine ⟨by rw[ok.used]; exact h3,by omega,fun x hx=>by rw[ok.used]; exact len_le_sum hx⟩

end Go.Ax

namespace Go.Ax
open Go.Proofs Go.RowKit
set_option maxRecDepth 100000

noncomputable def TRead_d (ro:Int) (us:Int) (fu:Int) (hid:List (Value×Value)) (nm:ByteArray) (ofs:Int) (n:Int):Tree:=
.callr (some 15) (ΔF 47 [.ptr 0 0 0,vs nm] [.cells false 0 ([vi ro,vi us, .mp 1,vb true,vi fu]), .obj [] (mapP [] hid)] (.tup [.p (.v (.pointer none)),vi 10]) [.cells false 0 ([vi ro,vi us, .mp 1,vb true,vi fu]), .obj [] (mapP [] hid)]) (.tup [.p (.v (.pointer none)),vi 10]) [.cells false 0 ([vi ro,vi us, .mp 1,vb true,vi fu]), .obj [] (mapP [] hid)] (.leaf ⟨[0],[(0,0,none),(1,0,none)]⟩ [] .ret (some ([(0, .tup [nilS,vi 10])],[.cells false 0 ([vi ro,vi us, .mp 1,vb true,vi fu]), .obj [] (mapP [] hid)])))

theorem TRead_d_chk (ro:Int) (us:Int) (fu:Int) (hid:List (Value×Value)) (nm:ByteArray) (ofs:Int) (n:Int):fnC DP ΓF ΔF Tryd.f68 [.ptr 0 0 0,vs nm,vi ofs,vi n] [.cells false 0 ([vi ro,vi us, .mp 1,vb true,vi fu]), .obj [] (mapP [] hid)] (TRead_d ro us fu hid nm ofs n)=TRead_d ro us fu hid nm ofs n:=by kernel_rfl

noncomputable def TRead_a (ro:Int) (us:Int) (fu:Int) (hid:List (Value×Value)) (nm:ByteArray) (ofs:Int) (n:Int):Tree:=
.callr (some 15) (ΔF 47 [.ptr 0 0 0,vs nm] [.cells false 0 ([vi ro,vi us, .mp 1,vb false,vi fu]), .obj [] (mapP [] hid)] (.tup [.p (.v (.pointer none)),vi 4]) [.cells false 0 ([vi ro,vi us, .mp 1,vb false,vi fu]), .obj [] (mapP [] hid)]) (.tup [.p (.v (.pointer none)),vi 4]) [.cells false 0 ([vi ro,vi us, .mp 1,vb false,vi fu]), .obj [] (mapP [] hid)] (.leaf ⟨[0],[(0,0,none),(1,0,none)]⟩ [] .ret (some ([(0, .tup [nilS,vi 4])],[.cells false 0 ([vi ro,vi us, .mp 1,vb false,vi fu]), .obj [] (mapP [] hid)])))

theorem TRead_a_chk (ro:Int) (us:Int) (fu:Int) (hid:List (Value×Value)) (nm:ByteArray) (ofs:Int) (n:Int):fnC DP ΓF ΔF Tryd.f68 [.ptr 0 0 0,vs nm,vi ofs,vi n] [.cells false 0 ([vi ro,vi us, .mp 1,vb false,vi fu]), .obj [] (mapP [] hid)] (TRead_a ro us fu hid nm ofs n)=TRead_a ro us fu hid nm ofs n:=by kernel_rfl

noncomputable def TRead_p (ro:Int) (us:Int) (fu:Int) (hid:List (Value×Value)) (L:List UInt8) (su:Int) (nm:ByteArray) (ofs:Int) (n:Int):Tree:=
.callr (some 15) (ΔF 47 [.ptr 0 0 0,vs nm] [.cells false 0 ([vi ro,vi us, .mp 1,vb false,vi fu]), .obj [.ptr 2 0 0] (mapP [.string nm] hid), .cells false 0 ([.rs 3 0 1 0 L.length,vi su]),byteE.bx 0 L] (.tup [.ptr 2 0 0,vi 0]) [.cells false 0 ([vi ro,vi us, .mp 1,vb false,vi fu]), .obj [.ptr 2 0 0] (mapP [.string nm] hid), .cells false 0 ([.rs 3 0 1 0 L.length,vi su]),byteE.bx 0 L]) (.tup [.ptr 2 0 0,vi 0]) [.cells false 0 ([vi ro,vi us, .mp 1,vb false,vi fu]), .obj [.ptr 2 0 0] (mapP [.string nm] hid), .cells false 0 ([.rs 3 0 1 0 L.length,vi su]),byteE.bx 0 L] (.sp 22 (decide (ofs<(0:Int))) (
.leaf ⟨[0],[(0,0,none),(1,0,none),(2,0,none),(3,0,some (L.map byteE.f))]⟩ [rowC (L.map byteE.f)] .ret (some ([(0, .tup [nilS,vi 1])],[.cells false 0 ([vi ro,vi us, .mp 1,vb false,vi fu]), .obj [.ptr 2 0 0] (mapP [.string nm] hid), .cells false 0 ([.rs 3 0 1 0 L.length,vi su]),byteE.bx 0 L]))) (
.sp 30 (decide (ofs>((L.length:Nat):Int))) (
.leaf ⟨[0],[(0,0,none),(1,0,none),(2,0,none),(3,0,some (L.map byteE.f))]⟩ [rowC (L.map byteE.f)] .ret (some ([(0, .tup [nilS,vi 1])],[.cells false 0 ([vi ro,vi us, .mp 1,vb false,vi fu]), .obj [.ptr 2 0 0] (mapP [.string nm] hid), .cells false 0 ([.rs 3 0 1 0 L.length,vi su]),byteE.bx 0 L]))) (
.sp 34 (decide (n<(0:Int))) (
.leaf ⟨[0],[(0,0,none),(1,0,none),(2,0,none),(3,0,some (L.map byteE.f))]⟩ [rowC (L.map byteE.f)] .ret (some ([(0, .tup [nilS,vi 1])],[.cells false 0 ([vi ro,vi us, .mp 1,vb false,vi fu]), .obj [.ptr 2 0 0] (mapP [.string nm] hid), .cells false 0 ([.rs 3 0 1 0 L.length,vi su]),byteE.bx 0 L]))) (
.int 49 (IntKind.i64.wrap (((L.length:Nat):Int) - ofs)) (((L.length:Nat):Int) - ofs) (.int 51 (IntKind.i64.wrap (ofs+(if (((L.length:Nat):Int) - ofs:Int)<(n:Int) then (((L.length:Nat):Int) - ofs:Int) else (n:Int)))) (ofs+(if (((L.length:Nat):Int) - ofs:Int)<(n:Int) then (((L.length:Nat):Int) - ofs:Int) else (n:Int))) (.rcut 52 L.length (some ofs) (some (ofs+(if (((L.length:Nat):Int) - ofs:Int)<(n:Int) then (((L.length:Nat):Int) - ofs:Int) else (n:Int)))) (.appn 53 (.part (0+loN (some ofs)*1) (hiN (some (ofs+(if (((L.length:Nat):Int) - ofs:Int)<(n:Int) then (((L.length:Nat):Int) - ofs:Int) else (n:Int)))) L.length - loN (some ofs)) (rowC (L.map byteE.f))) byteE (cutL (some ofs) (some (ofs+(if (((L.length:Nat):Int) - ofs:Int)<(n:Int) then (((L.length:Nat):Int) - ofs:Int) else (n:Int)))) L) (.leaf ⟨[0],[(0,0,none),(1,0,none),(2,0,none),(3,0,some (L.map byteE.f)),(4,0,some ((cutL (some ofs) (some (ofs+(if (((L.length:Nat):Int) - ofs:Int)<(n:Int) then (((L.length:Nat):Int) - ofs:Int) else (n:Int)))) L).map byteE.f))]⟩ [rowC (L.map byteE.f),rowC ((cutL (some ofs) (some (ofs+(if (((L.length:Nat):Int) - ofs:Int)<(n:Int) then (((L.length:Nat):Int) - ofs:Int) else (n:Int)))) L).map byteE.f)] .ret (some ([(0, .tup [.rs 4 0 1 0 ((cutL (some ofs) (some (ofs+(if (((L.length:Nat):Int) - ofs:Int)<(n:Int) then (((L.length:Nat):Int) - ofs:Int) else (n:Int)))) L).length),vi 0])],[.cells false 0 ([vi ro,vi us, .mp 1,vb false,vi fu]), .obj [.ptr 2 0 0] (mapP [.string nm] hid), .cells false 0 ([.rs 3 0 1 0 L.length,vi su]),byteE.bx 0 L,byteE.bx 0 (cutL (some ofs) (some (ofs+(if (((L.length:Nat):Int) - ofs:Int)<(n:Int) then (((L.length:Nat):Int) - ofs:Int) else (n:Int)))) L)]))))))))))

theorem TRead_p_chk (ro:Int) (us:Int) (fu:Int) (hid:List (Value×Value)) (L:List UInt8) (su:Int) (nm:ByteArray) (ofs:Int) (n:Int):fnC DP ΓF ΔF Tryd.f68 [.ptr 0 0 0,vs nm,vi ofs,vi n] [.cells false 0 ([vi ro,vi us, .mp 1,vb false,vi fu]), .obj [.ptr 2 0 0] (mapP [.string nm] hid), .cells false 0 ([.rs 3 0 1 0 L.length,vi su]),byteE.bx 0 L] (TRead_p ro us fu hid L su nm ofs n)=TRead_p ro us fu hid L su nm ofs n:=by kernel_rfl

end Go.Ax
