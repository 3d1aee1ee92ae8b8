/- A reader's numbers and texts: what they come to. -/
import Derived.Test.YtjlipmcdnigfcaaDoorG35
import Derived.WalkKit
import Derived.ProofKit
import Derived.OwnWalk
import Derived.Lib.Walk
import Derived.Lib.SliceRun
import Derived.Laws.AppendOwn
import Derived.Test.YtjlipmcdnigfcaaDoorG26
set_option linter.unusedVariables false
set_option linter.unusedSimpArgs false
set_option linter.unusedSectionVars false
namespace Go.Ax
open Go.Proofs Go.RowKit
set_option maxRecDepth 100000

theorem lift_cell {R:RSpec} {al:List AV} {y:PV} {cs cs1:List AV} {B:List Box} {b:Nat} (hR:R (.ptr 0 0 0::al) [.cells false 0 cs] (.p y) [.cells false 0 cs1]) (hb:B[b]? = some (.cells false 0 cs)) (hal:al.all isPl=true) (h1:cs.all isPl=true) (h2:cs1.all isPl=true):
  liftR R (.ptr b 0 0::al) B (.p y) (B.set b (.cells false 0 cs1)):=by
 have hbl:b<B.length:=(List.getElem?_eq_some_iff.1 hb).1
 refine ⟨_,_,_,_,hR,⟨[b],[0],[.cells false 0 cs],[.cells false 0 cs1],[],?_,?_,?_,?_,⟨.cells ?_ ?_ (isPl_low h1 _),trivial⟩,⟨.cells ?_ ?_ (isPl_low h2 _),trivial⟩,?_,?_,rfl⟩⟩
 ·simp[noDup,Nat.blt_eq,hbl]
 ·simp[hb]
 ·rw[AV.rv.rvL,isPl_id hal]; simp[AV.rv,fNew,dNew]
 ·rw[AV.low.allLow,isPl_low hal]; rfl
 ·simp[dNew]
 ·rw[isPl_id h1]
 ·simp[dNew]
 ·rw[isPl_id h2]
 ·simp[outB]
 ·simp[AV.rv]

theorem Γ9_ok:∀ f,SoundF DP f (Γ9 f):=envP_cons SGet envP_nil
theorem getA_le:∀ (b:List UInt8) (i a:Nat),(getA i a b).2.1≤i+b.length
 | [],i,a=>by unfold getA; simp
 | c::r,i,a=>by
  have h:=getA_le r (i+1) (a+c.toNat % 128*2 ^ (7*i))
  unfold getA
  simp only[List.length_cons]
  split
  ·simp
  ·split
   ·split <;> simp <;> omega
   ·omega
theorem get_facts (b:List UInt8):(getI b).2.2=0→0≤(getI b).2.1∧(getI b).2.1≤b.length:=fun _=>by
 have:=getA_le b 0 0
 unfold getI
 simp only
 omega
theorem get_nn (b:List UInt8):0≤(getI b).1:=by
 unfold getI
 simp only
 omega
theorem STake:SoundR DP iTake OTake:=sound_genT mixedD Γ9_ok Δ0_ok hfTake heTake hbTake (by
 rintro args B r B' ⟨⟨b,bad⟩,most,hl,hm,rfl,rfl,rfl,rfl⟩
 refine ⟨by rw[hnTake]; rfl,_,TTake_chk b bad most,?_⟩
 unfold TTake takeI
 simp only
 refine wp_call (gGet_eq hl) (wp_sp (fun h1=>?_) (fun h1=>wp_sp (fun h2=>?_) (fun h2=>wp_sp (fun h3=>?_) (fun h3=>?_))))
 ·rw[if_pos (.inl (by simpa using h1))]
  exact wp_leaf rfl ⟨rfl,rfl⟩
 ·rw[if_pos (.inr (.inl (of_decide_eq_true h2)))]
  exact wp_leaf rfl ⟨rfl,rfl⟩
 ·rw[if_pos (.inr (.inr h3))]
  exact wp_leaf rfl ⟨rfl,rfl⟩
 ·have h1:(getI b).2.2=0:=by simpa using h1
  have h2:=of_decide_eq_false h2
  rw[if_neg (by rintro (h | h | h); exact h h1; exact h2 h; rw[h3] at h; cases h)]
  have:=get_facts b h1
  refine wp_cut (by simp only[cutOk]; omega) (wp_leaf rfl ?_)
  rw[h3]
  exact ⟨rfl,rfl⟩)
theorem take_b {most:Int} {s:List UInt8×Bool} (hm:0≤most):(0≤(takeI most s).1∧(takeI most s).1≤most)∧(takeI most s).2.1.length≤s.1.length:=by
 unfold takeI
 split
 ·exact ⟨⟨Int.le_refl _,hm⟩,Nat.le_refl _⟩
 ·rename_i h
  have:=get_nn s.1
  refine ⟨⟨this,?_⟩,?_⟩
  ·have:¬(getI s.1).1>most:=fun e=>h (.inr (.inl e))
   show (getI s.1).1≤most
   omega
  ·simp only[List.length_drop]; omega
theorem text_b (s:List UInt8×Bool):(textI s).2.1.length≤s.1.length:=by
 have h:=(take_b (most:=128) (s:=s) (by decide)).2
 unfold textI
 split
 ·exact h
 ·simp only[List.length_drop]; omega
theorem oTake {B:List Box} {b:Nat} {s:List UInt8×Bool} {most:Int} (hl:s.1.length≤1000000000) (hm:0≤most∧most≤72057594037927935) (hb:B[b]? = some (rdB s)):
  liftR OTake [.ptr b 0 0,vn .u64 most] B (vn .u64 (takeI most s).1) (B.set b (rdB (takeI most s).2)):=lift_cell (R:=OTake) ⟨s,most,hl,hm,rfl,rfl,rfl,rfl⟩ hb rfl rfl rfl
theorem Δ9a_ok:∀ f,SoundR DP f (Δ9a f):=envR_cons (lift_sound STake) envR_nil
theorem SRText:SoundR DP iRText ORText:=sound_genT mixedD Γ9_ok Δ9a_ok hfRText heRText hbRText (by
 rintro args B r B' ⟨⟨b,bad⟩,hl,rfl,rfl,rfl,rfl⟩
 refine ⟨by rw[hnRText]; rfl,_,TRText_chk b bad,?_⟩
 have hb:=take_b (most:=128) (s:=(b,bad)) (by decide)
 have hl2:(takeI 128 (b,bad)).2.1.length≤1000000000:=Nat.le_trans hb.2 hl
 unfold TRText textI
 refine wp_callr (oTake hl (by decide) rfl) (wp_len (wp_u64 (by omega) (wp_sp (fun h1=>?_) (fun h1=>wp_sp (fun h2=>?_) (fun h2=>?_)))))
 ·rw[if_pos (.inl (of_decide_eq_true h1))]
  exact wp_leaf rfl ⟨rfl,rfl⟩
 ·rw[if_pos (.inr h2)]
  have e2:(takeI 128 (b,bad)).2=((takeI 128 (b,bad)).2.1,true):=by rw[←h2]
  exact wp_leaf rfl ⟨rfl,by show [rdB _]= [rdB _]; rw[e2]⟩
 ·have h1:=of_decide_eq_false h1
  rw[if_neg (by rintro (h | h); exact h1 h; rw[h2] at h; cases h)]
  rw[h2]
  exact wp_cut (by simp only[cutOk]; omega) ⟨rfl,wp_cut (by simp only[cutOk]; omega) (wp_leaf rfl ⟨rfl,rfl⟩)⟩)
theorem oRText {B:List Box} {b:Nat} {s:List UInt8×Bool} (hl:s.1.length≤1000000000) (hb:B[b]? = some (rdB s)):
  liftR ORText [.ptr b 0 0] B (vs (textI s).1) (B.set b (rdB (textI s).2)):=lift_cell (R:=ORText) (al:= []) ⟨s,hl,rfl,rfl,rfl,rfl⟩ hb rfl rfl rfl
theorem Δ9b_ok:∀ f,SoundR DP f (Δ9b f):=envR_cons (lift_sound STake) (envR_cons (lift_sound SRText) envR_nil)
end Go.Ax

namespace Go.Ax
open Go.Proofs Go.RowKit
set_option maxRecDepth 100000

abbrev Rst:=List UInt8×Bool
def delR:Nat→Rst→List Int→Rst×List Int
 | 0,s,L=>(s,L)
 | k+1,s,L=>delR k (takeI 1073741824 s).2 (L++ [(takeI 1073741824 s).1])
def metaR (s:Rst):Meta×Rst:=
 (⟨(takeI 1073741824 s).1,(takeI 5 (takeI 1073741824 s).2).1,(textI (takeI 67108864 (takeI 5 (takeI 1073741824 s).2).2).2).1,
  (textI (textI (takeI 67108864 (takeI 5 (takeI 1073741824 s).2).2).2).2).1,(takeI 67108864 (takeI 5 (takeI 1073741824 s).2).2).1⟩,
  (textI (textI (takeI 67108864 (takeI 5 (takeI 1073741824 s).2).2).2).2).2)
def addR:Nat→Rst→List Meta→Rst×List Meta
 | 0,s,L=>(s,L)
 | k+1,s,L=>addR k (metaR s).2 (L++ [(metaR s).1])
def decH (b:List UInt8):Rst:=(takeI 72057594037927935 (takeI 1073741824 (takeI 1073741824 (b,false)).2).2).2
def decD (b:List UInt8):Rst×List Int:=delR (takeI 1000 (decH b)).1.toNat (takeI 1000 (decH b)).2 []
def decA (b:List UInt8):Rst×List Meta:=addR (takeI 1000 (decD b).1).1.toNat (takeI 1000 (decD b).1).2 []
def decE (b:List UInt8):Edt:=⟨(decA b).2,(decD b).2,(takeI 1073741824 (b,false)).1,(takeI 1073741824 (takeI 1073741824 (b,false)).2).1,(takeI 72057594037927935 (takeI 1073741824 (takeI 1073741824 (b,false)).2).2).1⟩
def decI (b:List UInt8):Edt×Int:=if (decA b).1.2=true∨(decA b).1.1.length>0 then (⟨[],[],0,0,0⟩,2) else (decE b,0)

theorem seal5 {S:Nat→Prop} {B:List Box} {x y x' y':AV} (a b c u:PV) (h:Sealed S B x y) (h':Sealed S B x' y'):Sealed S B (.tup [.agg [x,x', .p a, .p b, .p c], .p u]) (.tup [.agg [y,y', .p a, .p b, .p c], .p u]):=by
 refine .tup _ _ rfl fun j c d hc hd=>?_
 match j with
 | 0=>
  cases hc; cases hd
  refine .agg _ _ rfl fun j c d hc hd=>?_
  match j with
  | 0=>cases hc; cases hd; exact h
  | 1=>cases hc; cases hd; exact h'
  | 2=>cases hc; cases hd; exact .p _
  | 3=>cases hc; cases hd; exact .p _
  | 4=>cases hc; cases hd; exact .p _
  | j+5=>simp at hc
 | 1=>cases hc; cases hd; exact .p _
 | j+2=>simp at hc

section
variable {b : List UInt8}
theorem dec_del {K:Nat} (hK:(takeI 1000 ((takeI 72057594037927935 ((takeI 1073741824 ((takeI 1073741824 (b,false)).2)).2)).2)).1=(K:Int)) (hK2:K≤1000):∀ (j i:Nat) (c:List UInt8) (bad:Bool) (L:List Int),i+j=K→L.length=i→c.length≤1000000000 →
  ∃ (c1:List UInt8) (b1:Bool) (L1:List Int),delR j (c,bad) L=((c1,b1),L1)∧c1.length≤c.length∧L1.length=K∧Rounds (TDec_l1_e b) (TDec_l1_x b) noX (fun s=>(TDec_l1_b b s).wp) (c,bad,L,(i:Int)) (.inl (c1,b1,L1)):=by
 intro j
 induction j with
 | zero=>
  intro i c bad L hi hL hc
  refine ⟨c,bad,L,rfl,Nat.le_refl _,by omega, .done (by intro e; cases e) ?_⟩
  unfold TDec_l1_b
  rw[hK]
  exact wp_sp (fun h'=>absurd (of_decide_eq_true h') (by simp only; omega)) (fun _=>wp_leaf rfl ⟨rfl,rfl⟩)
 | succ j ih=>
  intro i c bad L hi hL hc
  obtain ⟨⟨n1,c1,b1⟩,e1⟩:∃ m,takeI 1073741824 (c,bad)=m:=⟨_,rfl⟩
  have tb:=take_b (most:=1073741824) (s:=(c,bad)) (by decide)
  rw[e1] at tb
  simp only at tb
  obtain ⟨c2,b2,L2,q1,q2,q3,q4⟩:=ih (i+1) c1 b1 (L++ [n1]) (by omega) (by simp[hL]) (by omega)
  have ei:((i+1:Nat):Int)=(i:Int)+1:=by omega
  rw[ei] at q4
  have k1:=fun (B:List Box) (hb:B[1]? = some (rdB (c,bad)))=>oTake (most:=1073741824) hc (by decide) hb
  rw[e1] at k1
  refine ⟨c2,b2,L2,by rw[delR,e1]; exact q1,by omega,q3, .next ?_ q4⟩
  unfold TDec_l1_b
  rw[hK]
  dsimp only
  rw[e1]
  refine wp_sp (fun _=>wp_any (wp_fork ?_ ?_)) (fun h'=>absurd (of_decide_eq_false h') (by omega)) <;>
   exact wp_callr (k1 _ rfl) (wp_i64 (by omega) (wp_app ⟨rfl,rfl⟩ rfl (by simp only[List.length_append,List.length_singleton]; omega) (wp_i64 (by omega) (wp_leaf rfl ⟨rfl,rfl⟩))))
theorem dec_add {x1:List UInt8×Bool×List Int} {K:Nat} (hK:(takeI 1000 (x1.1,x1.2.1)).1=(K:Int)) (hK2:K≤1000):∀ (j i:Nat) (c:List UInt8) (bad:Bool) (L:List Meta),i+j=K→L.length=i→c.length≤1000000000 →
  ∃ (c1:List UInt8) (b1:Bool) (L1:List Meta),addR j (c,bad) L=((c1,b1),L1)∧c1.length≤c.length∧L1.length=K∧Rounds (TDec_l2_e b x1) (TDec_l2_x b x1) noX (fun s=>(TDec_l2_b b x1 s).wp) (c,bad,L,(i:Int)) (.inl (c1,b1,L1)):=by
 intro j
 induction j with
 | zero=>
  intro i c bad L hi hL hc
  refine ⟨c,bad,L,rfl,Nat.le_refl _,by omega, .done (by intro e; cases e) ?_⟩
  unfold TDec_l2_b
  rw[hK]
  exact wp_sp (fun h'=>absurd (of_decide_eq_true h') (by simp only; omega)) (fun _=>wp_leaf rfl ⟨rfl,rfl⟩)
 | succ j ih=>
  intro i c bad L hi hL hc
  obtain ⟨⟨n1,c1,b1⟩,e1⟩:∃ m,takeI 1073741824 (c,bad)=m:=⟨_,rfl⟩
  obtain ⟨⟨n2,c2,b2⟩,e2⟩:∃ m,takeI 5 (c1,b1)=m:=⟨_,rfl⟩
  obtain ⟨⟨n3,c3,b3⟩,e3⟩:∃ m,takeI 67108864 (c2,b2)=m:=⟨_,rfl⟩
  obtain ⟨⟨n4,c4,b4⟩,e4⟩:∃ m,textI (c3,b3)=m:=⟨_,rfl⟩
  obtain ⟨⟨n5,c5,b5⟩,e5⟩:∃ m,textI (c4,b4)=m:=⟨_,rfl⟩
  have t1:=take_b (most:=1073741824) (s:=(c,bad)) (by decide)
  have t2:=take_b (most:=5) (s:=(c1,b1)) (by decide)
  have t3:=take_b (most:=67108864) (s:=(c2,b2)) (by decide)
  have t4:=text_b (c3,b3)
  have t5:=text_b (c4,b4)
  rw[e1] at t1
  rw[e2] at t2
  rw[e3] at t3
  rw[e4] at t4
  rw[e5] at t5
  simp only at t1 t2 t3 t4 t5
  have k1:=fun (B:List Box) (hb:B[1]? = some (rdB (c,bad)))=>oTake (most:=1073741824) hc (by decide) hb
  have k2:=fun (B:List Box) (hb:B[1]? = some (rdB (c1,b1)))=>oTake (most:=5) (by simp only; omega) (by decide) hb
  have k3:=fun (B:List Box) (hb:B[1]? = some (rdB (c2,b2)))=>oTake (most:=67108864) (by simp only; omega) (by decide) hb
  have k4:=fun (B:List Box) (hb:B[1]? = some (rdB (c3,b3)))=>oRText (by simp only; omega) hb
  have k5:=fun (B:List Box) (hb:B[1]? = some (rdB (c4,b4)))=>oRText (by simp only; omega) hb
  rw[e1] at k1
  rw[e2] at k2
  rw[e3] at k3
  rw[e4] at k4
  rw[e5] at k5
  have em:metaR (c,bad)=(⟨n1,n2,n4,n5,n3⟩,(c5,b5)):=by
   unfold metaR
   simp only[e1,e2,e3,e4,e5]
  obtain ⟨c6,b6,L6,q1,q2,q3,q4⟩:=ih (i+1) c5 b5 (L++ [⟨n1,n2,n4,n5,n3⟩]) (by omega) (by simp[hL]) (by omega)
  have ei:((i+1:Nat):Int)=(i:Int)+1:=by omega
  rw[ei] at q4
  refine ⟨c6,b6,L6,by rw[addR,em]; exact q1,by omega,q3, .next ?_ q4⟩
  unfold TDec_l2_b
  rw[hK]
  dsimp only
  simp only[e1,e2,e3,e4,e5]
  exact wp_sp (fun _=>wp_callr (k1 _ rfl) (wp_i64 (by omega) (wp_callr (k2 _ rfl) (wp_i64 (by omega) (wp_callr (k3 _ rfl) (wp_i64 (by omega)
   (wp_callr (k4 _ rfl) (wp_callr (k5 _ rfl) (wp_app ⟨rfl,rfl⟩ rfl (by simp only[List.length_append,List.length_singleton]; omega) (wp_i64 (by omega) (wp_leaf rfl ⟨rfl,rfl⟩)))))))))))
   (fun h'=>absurd (of_decide_eq_false h') (by omega))
end

def RDec:List AV→AV→Prop:=fun args r=>∃ b:List UInt8,b.length≤1000000000∧args= [vl (b.map byteE.f)] ∧
 r= .tup [.agg [vl ((decI b).1.add.map metaE.f),vl ((decI b).1.del.map intE.f),vi (decI b).1.log,vi (decI b).1.next,vn .u64 (decI b).1.seq],vi (decI b).2]
noncomputable def gDec:=relG RDec
theorem gDec_eq {b:List UInt8} (h:b.length≤1000000000):gDec [vl (b.map byteE.f)]=some (.tup [.agg [vl ((decI b).1.add.map metaE.f),vl ((decI b).1.del.map intE.f),vi (decI b).1.log,vi (decI b).1.next,vn .u64 (decI b).1.seq],vi (decI b).2]):=relG_eq (by
 rintro args r r' ⟨x,_,h1,rfl⟩ ⟨y,_,h2,rfl⟩
 rw[vl_inj' (one_arg (h1.symm.trans h2))]) ⟨b,h,rfl,rfl⟩
theorem SDec:SoundF DP iDec (.pure gDec):=sound_pureT mixedD Γ9_ok Δ9b_ok hfDec heDec hbDec (by
 rintro args r ⟨b,hb,rfl,rfl⟩
 refine ⟨rfl,rfl,_,TDec_chk b,?_⟩
 obtain ⟨⟨n1,c1,b1⟩,e1⟩:∃ m,takeI 1073741824 (b,false)=m:=⟨_,rfl⟩
 obtain ⟨⟨n2,c2,b2⟩,e2⟩:∃ m,takeI 1073741824 (c1,b1)=m:=⟨_,rfl⟩
 obtain ⟨⟨n3,c3,b3⟩,e3⟩:∃ m,takeI 72057594037927935 (c2,b2)=m:=⟨_,rfl⟩
 obtain ⟨⟨n4,c4,b4⟩,e4⟩:∃ m,takeI 1000 (c3,b3)=m:=⟨_,rfl⟩
 have t1:=take_b (most:=1073741824) (s:=(b,false)) (by decide)
 have t2:=take_b (most:=1073741824) (s:=(c1,b1)) (by decide)
 have t3:=take_b (most:=72057594037927935) (s:=(c2,b2)) (by decide)
 have t4:=take_b (most:=1000) (s:=(c3,b3)) (by decide)
 rw[e1] at t1
 rw[e2] at t2
 rw[e3] at t3
 rw[e4] at t4
 simp only at t1 t2 t3 t4
 obtain ⟨c5,b5,DL,q1,q2,q3,q4⟩:=dec_del (b:=b) (K:=n4.toNat) (by simp only[e1,e2,e3,e4]; omega) (by omega) n4.toNat 0 c4 b4 [] (by omega) rfl (by omega)
 obtain ⟨⟨n6,c6,b6⟩,e6⟩:∃ m,takeI 1000 (c5,b5)=m:=⟨_,rfl⟩
 have t6:=take_b (most:=1000) (s:=(c5,b5)) (by decide)
 rw[e6] at t6
 simp only at t6
 obtain ⟨c7,b7,AL,r1,r2,r3,r4⟩:=dec_add (b:=b) (x1:=(c5,b5,DL)) (K:=n6.toNat) (by simp only[e6]; omega) (by omega) n6.toNat 0 c6 b6 [] (by omega) rfl (by omega)
 have k1:=fun (B:List Box) (hb:B[1]? = some (rdB (b,false)))=>oTake (most:=1073741824) (by simp only; omega) (by decide) hb
 have k2:=fun (B:List Box) (hb:B[1]? = some (rdB (c1,b1)))=>oTake (most:=1073741824) (by simp only; omega) (by decide) hb
 have k3:=fun (B:List Box) (hb:B[1]? = some (rdB (c2,b2)))=>oTake (most:=72057594037927935) (by simp only; omega) (by decide) hb
 have k4:=fun (B:List Box) (hb:B[1]? = some (rdB (c3,b3)))=>oTake (most:=1000) (by simp only; omega) (by decide) hb
 have k6:=fun (B:List Box) (hb:B[1]? = some (rdB (c5,b5)))=>oTake (most:=1000) (by simp only; omega) (by decide) hb
 rw[e1] at k1
 rw[e2] at k2
 rw[e3] at k3
 rw[e4] at k4
 rw[e6] at k6
 have ed:decI b=if b7=true∨c7.length>0 then (⟨[],[],0,0,0⟩,2) else (⟨AL,DL,n1,n2,n3⟩,0):=by
  simp only[decI,decE,decA,decD,decH,e1,e2,e3,e4,q1,e6,r1]
 rw[ed]
 unfold TDec
 simp only[e1,e2,e3,e4]
 refine wp_callr (k1 _ rfl) (wp_i64 (by omega) (wp_callr (k2 _ rfl) (wp_i64 (by omega) (wp_callr (k3 _ rfl) (wp_callr (k4 _ rfl) (wp_i64 (by omega) ?_))))))
 refine wp_loop _ rfl q4 ?_
 simp only[e6]
 refine wp_callr (k6 _ rfl) (wp_i64 (by omega) ?_)
 refine wp_loop _ rfl r4 ?_
 refine wp_sp (fun h1=>?_) (fun h1=>wp_len (wp_sp (fun h2=>?_) (fun h2=>?_)))
 ·rw[if_pos (.inl h1)]
  exact wp_leaf rfl (seal5 _ _ _ _ .nil .nil)
 ·rw[if_pos (.inr (Int.ofNat_lt.1 (of_decide_eq_true h2)))]
  exact wp_leaf rfl (seal5 _ _ _ _ .nil .nil)
 ·rw[if_neg (by
   rintro (h | h)
   ·exact absurd (h.symm.trans h1) (by decide)
   ·exact of_decide_eq_false h2 (Int.ofNat_lt.2 h))]
  exact wp_leaf rfl (seal5 _ _ _ _ (metaE.elt.sealed trivial rfl) (intE.elt.sealed trivial rfl)))
end Go.Ax

namespace Go.Ax
open Go.Proofs Go.RowKit Go.Lib
set_option maxRecDepth 100000

set_option maxHeartbeats 2000000 in
theorem clone_empty (ad:Addr) (c:Nat) (w:World):Calls DP 75 #[.slice (some ad) 0 c] w fun e w'=>∃ v',e= .returned v'∧w'.ownsRow w.heap.size 53 5 v' 0 []∧Below w.heap.size w w':=by
 obtain ⟨i0,hi,hz0,hz1,hz2⟩:=info_parts (P:=DP) (e:=53) (z:= .agg #[.int .i64 0, .int .i64 0, .string {data := #[]}, .string {data := #[]}, .int .i64 0]) (size:=5) (bytes:=56) (by kernel_rfl)
 have mixed:DP.follows .mixedOrders=true:=mixedD
 have t45:DP.underlying 45=some (.slice 53):=by kernel_rfl
 have q45:∀ (w:World) (a:Option Addr) (n c n' c':Nat),(binOp .eql 45 (.slice a n c) (.slice none n' c')).run DP w= .ok (.bool a.isNone) w:=fun w a n c n' c'=>Lib.run_eql_slice_nil w _ _ a n c n' c' t45
 have u45:∀ w,Sem.run DP (underlying 45) w= .ok (TypeDesc.slice 53) w:=run_underlying t45
 go_enter Tryd.func75,Tryd.ntmps75
 go_wp2_with (at_builtin; refine wpList_append_own _ rfl _ _ 45 rfl w.heap.size 53 i0 (.agg #[.int .i64 0, .int .i64 0, .string {data := #[]}, .string {data := #[]}, .int .i64 0]) 5 56 t45 hi hz0 hz1 hz2 rfl (by decide) _ _ _ rfl (World.ownsRow_made w #[] 0 (Nat.le_refl _) (Nat.zero_le _) rfl) ad 0 c [] rfl rfl ?qc2 ?qc3 ?qc4 ?qc5 ?qc6 ?_)
 case qc2=>intro j u hj; simp at hj
 case qc3=>intro u hu; simp at hu
 case qc4=>unfold maxLen; omega
 case qc5=>omega
 case qc6=>simp
 intro v' w1 hown hgrow hnil
 go_wp2
 go_ret
 exact ⟨v',rfl,by simpa using hown,((Below.refl _ w).alloc (Nat.le_refl _) _).grown hgrow (by simp) (by intro k hk; simp[Value.ownBlock] at hk; omega)⟩

abbrev iClone:Nat:=75
noncomputable abbrev nClone:Func:=Tryd.f75
theorem hfClone:DP.funcs[iClone]? = some nClone:=by kernel_rfl
theorem heClone:enters DP iClone=true:=by kernel_rfl
theorem hbClone:nClone.body.isSome=true:=by kernel_rfl
noncomputable def TClone_n:Tree:=
.leaf ⟨[0],[]⟩ [] .ret (some ([(0,nilS)],[]))

theorem TClone_n_chk:fnC DP Γ0 Δ0 Tryd.f75 [nilS] [] (TClone_n)=TClone_n:=by kernel_rfl

noncomputable def TClone_c (x:Meta) (xs:List Meta):Tree:=
.app 7 (.ls ((x::xs).map metaE.f)) 0 ([]) metaE ([]:List Meta) (x::xs) (.leaf ⟨[0],[(0,1,some ((([]:List Meta)++(x::xs)).map metaE.f))]⟩ [rowC ((([]:List Meta)++(x::xs)).map metaE.f)] .ret (some ([(0, .rs 0 0 5 0 ((([]:List Meta)++(x::xs)).length))],[metaE.bx 0 (([]:List Meta)++(x::xs))])))

theorem TClone_c_chk (x:Meta) (xs:List Meta):fnC DP Γ0 Δ0 Tryd.f75 [vl ((x::xs).map metaE.f)] [] (TClone_c x xs)=TClone_c x xs:=by kernel_rfl

def RClone0:List AV→AV→Prop:=fun args r=>(args= [nilS]∧r=vl [])∨∃ (x:Meta) (xs:List Meta),(x::xs).length≤1000000000∧args= [vl ((x::xs).map metaE.f)]∧r=vl ((x::xs).map metaE.f)
theorem SClone0:SoundF DP iClone (.pure (relG RClone0)):=sound_pureT mixedD Γ0_ok Δ0_ok hfClone heClone hbClone (by
 rintro args r (⟨rfl,rfl⟩ | ⟨x,xs,hl,rfl,rfl⟩)
 ·exact ⟨rfl,rfl,_,TClone_n_chk,wp_leaf rfl .nil⟩
 ·refine ⟨rfl,rfl,_,TClone_c_chk x xs,?_⟩
  unfold TClone_c
  exact wp_app (E:=metaE) rfl rfl (by simp only[List.nil_append,List.length_cons] at hl ⊢; omega) (wp_leaf rfl (metaE.elt.sealed trivial rfl)))
def RClone:List AV→AV→Prop:=fun args r=>∃ (L:List Meta),L.length≤1000000000∧args= [vl (L.map metaE.f)]∧r=vl (L.map metaE.f)
noncomputable def gClone:=relG RClone
theorem RClone0_det {args:List AV} {r r':AV} (h:RClone0 args r) (h':RClone0 args r'):r=r':=by
 rcases h with ⟨h1,rfl⟩ | ⟨x,xs,_,h1,rfl⟩ <;> rcases h' with ⟨h2,rfl⟩ | ⟨y,ys,_,h2,rfl⟩
 ·rfl
 ·rw[h1] at h2; cases h2
 ·rw[h1] at h2; cases h2
 ·exact one_arg (h1.symm.trans h2)
theorem gClone_eq {L:List Meta} (h:L.length≤1000000000):gClone [vl (L.map metaE.f)]=some (vl (L.map metaE.f)):=relG_eq (by
 rintro args r r' ⟨x,_,h1,rfl⟩ ⟨y,_,h2,rfl⟩
 exact one_arg (h1.symm.trans h2)) ⟨L,h,rfl,rfl⟩
theorem SClone:SoundF DP iClone (.pure gClone):=by
 intro args B r B' hs F ρ w us hI hA
 obtain ⟨r',h1,h2⟩:=map_some hs
 cases h2
 obtain ⟨L,hL,rfl,rfl⟩:=relG_some h1
 have hrun:∀ (al:List AV) (y:AV),RClone0 al y→(FSpec.pure (relG RClone0)).run al B=some (y,B):=fun al y h=>by
  show ((relG RClone0 al).map fun r=>(r,B))=_
  rw[relG_eq (R:=RClone0) (fun _ _ _ h h2=>RClone0_det h h2) h]; rfl
 cases L with
 | cons x xs=>exact SClone0 _ B _ B (hrun _ _ (.inr ⟨x,xs,hL,rfl,rfl⟩)) F ρ w us hI hA
 | nil=>
  obtain ⟨v,rfl⟩:∃ v,us= [v]:=by
   match us,hA.1 with
   | [v],_=>exact ⟨v,rfl⟩
  have hv:=hA.2 0 _ _ rfl rfl
  have key:(∃ ad c,v= .slice (some ad) 0 c)∨v= .slice none 0 0:=by
   cases hv with
   | p _ _ hp=>
    cases hp with
    | nil a cap h=>
     cases a with
     | none=>exact .inr (by rw[h.resolve_left (by simp)])
     | some a=>exact .inl ⟨a,cap,rfl⟩
    | ls xs a cap us=>exact .inl ⟨a,cap,rfl⟩
  rcases key with ⟨ad,c,rfl⟩ | rfl
  ·refine .inl ⟨enter_run heClone _ _,(clone_empty ad c w).mono fun e w' hp=>?_⟩
   obtain ⟨v',rfl,ho,hb⟩:=hp
   have hsh:∀ k e n,w.shape? k=some (e,n)→w'.shape? k=some (e,n):=fun k e n h=>by
    have hk:k<w.heap.size:=by
     rcases Nat.lt_or_ge k w.heap.size with h' | h'
     ·exact h'
     ·unfold World.shape? at h
      rw[Array.getElem?_eq_none h'] at h
      cases h
    unfold World.shape? at h ⊢
    rw[hb.block k hk]
    exact h
   obtain ⟨s1,s2⟩:=stands hb.size hb.os hb.tape hb.output hsh (fun k hk=>hb.block k hk) hI
   refine ⟨v',ρ,rfl,s2,s1, .p _ _ ?_⟩
   rcases ho.2 with ⟨rfl,_⟩ | ⟨g,cap,cur,rfl,_⟩
   ·exact .nil none 0 (.inr rfl)
   ·exact .nil (some _) cap (.inl rfl)
  ·exact SClone0 [nilS] B _ B (hrun _ _ (.inl ⟨rfl,rfl⟩)) F ρ w _ hI ⟨rfl,fun j p u hp hu=>by
    match j with
    | 0=>cases hp; cases hu; exact .p _ _ (.v _)
    | j+1=>simp at hp⟩
end Go.Ax

namespace Go.Ax
open Go.Proofs Go.RowKit
set_option maxRecDepth 100000

noncomputable def Γ10:Env:=envP [(75,gClone)]

abbrev iFirst:Nat:=37
noncomputable abbrev nFirst:Func:=Tryd.f37
theorem hfFirst:DP.funcs[iFirst]? = some nFirst:=by kernel_rfl
theorem heFirst:enters DP iFirst=true:=by kernel_rfl
theorem hbFirst:nFirst.body.isSome=true:=by kernel_rfl
abbrev iAllV:Nat:=38
noncomputable abbrev nAllV:Func:=Tryd.f38
theorem hfAllV:DP.funcs[iAllV]? = some nAllV:=by kernel_rfl
theorem heAllV:enters DP iAllV=true:=by kernel_rfl
theorem hbAllV:nAllV.body.isSome=true:=by kernel_rfl
abbrev iNameM:Nat:=51
noncomputable abbrev nNameM:Func:=Tryd.f51
theorem hfNameM:DP.funcs[iNameM]? = some nNameM:=by kernel_rfl
theorem heNameM:enters DP iNameM=true:=by kernel_rfl
theorem hbNameM:nNameM.body.isSome=true:=by kernel_rfl
abbrev iNameF:Nat:=68
noncomputable abbrev nNameF:Func:=Tryd.f68
theorem hfNameF:DP.funcs[iNameF]? = some nNameF:=by kernel_rfl
theorem heNameF:enters DP iNameF=true:=by kernel_rfl
theorem hbNameF:nNameF.body.isSome=true:=by kernel_rfl
abbrev iVer:Nat:=45
noncomputable abbrev nVer:Func:=Tryd.f45
theorem hfVer:DP.funcs[iVer]? = some nVer:=by kernel_rfl
theorem heVer:enters DP iVer=true:=by kernel_rfl
theorem hbVer:nVer.body.isSome=true:=by kernel_rfl
theorem hnVer:nVer.ntmps=16:=by kernel_rfl
abbrev iNumb:Nat:=46
noncomputable abbrev nNumb:Func:=Tryd.f46
theorem hfNumb:DP.funcs[iNumb]? = some nNumb:=by kernel_rfl
theorem heNumb:enters DP iNumb=true:=by kernel_rfl
theorem hbNumb:nNumb.body.isSome=true:=by kernel_rfl
theorem hnNumb:nNumb.ntmps=9:=by kernel_rfl
abbrev iMetaL:Nat:=52
noncomputable abbrev nMetaL:Func:=Tryd.f52
theorem hfMetaL:DP.funcs[iMetaL]? = some nMetaL:=by kernel_rfl
theorem heMetaL:enters DP iMetaL=true:=by kernel_rfl
theorem hbMetaL:nMetaL.body.isSome=true:=by kernel_rfl
noncomputable def TFirst:Tree:=
.leaf ⟨[0],[]⟩ [] .ret (some ([(0, .agg [nilS,vi 1,vi 1,vn .u64 0])],[]))

theorem TFirst_chk:fnC DP Γ4 Δ0 Tryd.f37 [] [] (TFirst)=TFirst:=by kernel_rfl

noncomputable def TNameM (n:Int):Tree:=
.call 4 (gItoa [vi n]=some (vs (itoaB n))) (vs (itoaB n)) (.val (some 5) ((binA DP .add 9 (vs (⟨#[109,97,110,46]⟩)) (vs (itoaB n))).map (fun v=>(v,([]:List Box)))=some (vs ((⟨#[109,97,110,46]⟩:ByteArray)++(itoaB n)),[])) (vs ((⟨#[109,97,110,46]⟩:ByteArray)++(itoaB n))) [] (.leaf ⟨[0],[]⟩ [] .ret (some ([(0,vs ((⟨#[109,97,110,46]⟩:ByteArray)++(itoaB n)))],[]))))

theorem TNameM_chk (n:Int):fnC DP Γ4 Δ0 Tryd.f51 [vi n] [] (TNameM n)=TNameM n:=by kernel_rfl

noncomputable def TNameF (n:Int):Tree:=
.call 4 (gItoa [vi n]=some (vs (itoaB n))) (vs (itoaB n)) (.val (some 5) ((binA DP .add 9 (vs (⟨#[102,105,108,101,46]⟩)) (vs (itoaB n))).map (fun v=>(v,([]:List Box)))=some (vs ((⟨#[102,105,108,101,46]⟩:ByteArray)++(itoaB n)),[])) (vs ((⟨#[102,105,108,101,46]⟩:ByteArray)++(itoaB n))) [] (.leaf ⟨[0],[]⟩ [] .ret (some ([(0,vs ((⟨#[102,105,108,101,46]⟩:ByteArray)++(itoaB n)))],[]))))

theorem TNameF_chk (n:Int):fnC DP Γ4 Δ0 Tryd.f68 [vi n] [] (TNameF n)=TNameF n:=by kernel_rfl

noncomputable def TMetaL (n:Int):Tree:=
.leaf ⟨[0],[]⟩ [] .ret (some ([(0, .agg [vi n,vi 0,vs (⟨#[97]⟩),vs (⟨#[98]⟩),vi 5])],[]))

theorem TMetaL_chk (n:Int):fnC DP Γ4 Δ0 Tryd.f52 [vi n] [] (TMetaL n)=TMetaL n:=by kernel_rfl

noncomputable def TAllV (v:Vers):Tree:=
.any (.call 5 (gClone [vl (v.files.map metaE.f)]=some (vl (v.files.map metaE.f))) (vl (v.files.map metaE.f)) (.leaf ⟨[0],[]⟩ [] .ret (some ([(0, .agg [vl (v.files.map metaE.f),nilS,vi v.log,vi v.next,vn .u64 v.seq])],[]))))

theorem TAllV_chk (v:Vers):fnC DP Γ10 Δ0 Tryd.f38 [.agg [vl (v.files.map metaE.f),vi v.log,vi v.next,vn .u64 v.seq]] [] (TAllV v)=TAllV v:=by kernel_rfl

noncomputable def TVer (n:Int) (v:Vers) (o:Bool) (Φ:ObjP):Tree:=
.call 13 (gClone [vl (v.files.map metaE.f)]=some (vl (v.files.map metaE.f))) (vl (v.files.map metaE.f)) (.leaf ⟨[0],[(0,0,none),(1,0,none)]⟩ [] .ret (some ([(0, .agg [vl (v.files.map metaE.f),vi v.log,vi v.next,vn .u64 v.seq])],[.cells false 0 ([.op 1,vi n,vl (v.files.map metaE.f),vi v.log,vi v.next,vn .u64 v.seq,vb o]), .obj [] Φ])))

theorem TVer_chk (n:Int) (v:Vers) (o:Bool) (Φ:ObjP):fnC DP Γ10 Δ0 Tryd.f45 [.ptr 0 0 0] [.cells false 0 ([.op 1,vi n,vl (v.files.map metaE.f),vi v.log,vi v.next,vn .u64 v.seq,vb o]), .obj [] Φ] (TVer n v o Φ)=TVer n v o Φ:=by kernel_rfl

noncomputable def TNumb (n:Int) (v:Vers) (o:Bool) (Φ:ObjP):Tree:=
.leaf ⟨[0],[(0,0,none),(1,0,none)]⟩ [] .ret (some ([(0,vi n)],[.cells false 0 ([.op 1,vi n,vl (v.files.map metaE.f),vi v.log,vi v.next,vn .u64 v.seq,vb o]), .obj [] Φ]))

theorem TNumb_chk (n:Int) (v:Vers) (o:Bool) (Φ:ObjP):fnC DP Γ10 Δ0 Tryd.f46 [.ptr 0 0 0] [.cells false 0 ([.op 1,vi n,vl (v.files.map metaE.f),vi v.log,vi v.next,vn .u64 v.seq,vb o]), .obj [] Φ] (TNumb n v o Φ)=TNumb n v o Φ:=by kernel_rfl

end Go.Ax

namespace Go.Ax
open Go.Proofs Go.RowKit
set_option maxRecDepth 100000

def manN (n:Int):ByteArray:=(⟨#[109,97,110,46]⟩:ByteArray)++itoaB n
theorem manN_size {n:Int} (hn: -9223372036854775808≤n∧n≤9223372036854775807):(manN n).size≤25:=by
 have:=itoaB_size hn
 have h2:(manN n).size=4+(itoaB n).size:=cat_size _ _
 omega
theorem manN_list {n:Int} (h:0≤n):(manN n).data.toList= [109,97,110,46]++Lib.decDigits n.toNat:=by
 unfold manN
 rw[ByteArray.data_append,Array.toList_append]
 show [109,97,110,46]++(Lib.itoa n).toArray.toList=_
 rw[List.toList_toArray]
 unfold Lib.itoa
 rw[if_neg (by omega)]
theorem manN_is {n:Int} (h:0≤n∧n≤9223372036854775807):isName (manN n)=true:=by
 unfold isName
 have hs:=manN_size (n:=n) (by omega)
 have hz:(manN n).size=4+(itoaB n).size:=cat_size _ _
 rw[Bool.and_eq_true,Bool.and_eq_true,decide_eq_true_eq,decide_eq_true_eq,List.all_eq_true]
 refine ⟨⟨fun c hc=>?_,by omega⟩,by omega⟩
 rw[manN_list h.1] at hc
 rcases List.mem_append.1 hc with hc | hc
 ·have:∀ c∈([109,97,110,46]:List UInt8),okChar c=true:=by decide
  exact this c hc
 ·have:=dec_ok _ c hc
  unfold okChar
  simp only[Bool.or_eq_true,Bool.and_eq_true,decide_eq_true_eq]
  exact .inl (.inr this)

def filN (n:Int):ByteArray:=(⟨#[102,105,108,101,46]⟩:ByteArray)++itoaB n
theorem filN_list {n:Int} (h:0≤n):(filN n).data.toList= [102,105,108,101,46]++Lib.decDigits n.toNat:=by
 unfold filN
 rw[ByteArray.data_append,Array.toList_append]
 show [102,105,108,101,46]++(Lib.itoa n).toArray.toList=_
 rw[List.toList_toArray]
 unfold Lib.itoa
 rw[if_neg (by omega)]
def RNameM:List AV→AV→Prop:=fun args r=>∃ n:Int,(-9223372036854775808≤n∧n≤9223372036854775807)∧args= [vi n]∧r=vs (manN n)
noncomputable def gNameM:=relG RNameM
theorem SNameM:SoundF DP iNameM (.pure gNameM):=sound_pureT mixedD Γ4_ok Δ0_ok hfNameM heNameM hbNameM (by
 rintro args r ⟨n,hn,rfl,rfl⟩
 refine ⟨rfl,rfl,_,TNameM_chk n,?_⟩
 unfold TNameM
 have h:=itoaB_size hn
 exact wp_call (gItoa_eq hn) (wp_val (cat_val (by show 4+(itoaB n).size≤_; omega)) (wp_leaf rfl (.p _))))
theorem gNameM_eq {n:Int} (hn: -9223372036854775808≤n∧n≤9223372036854775807):gNameM [vi n]=some (vs (manN n)):=
 relG_eq (fun args r r' ⟨n1,_,h1,h2⟩ ⟨n2,_,h3,h4⟩=>by
  rw[h2,h4,vn_inj' (one_arg (h1.symm.trans h3))]) ⟨n,hn,rfl,rfl⟩
def RNameF:List AV→AV→Prop:=fun args r=>∃ n:Int,(-9223372036854775808≤n∧n≤9223372036854775807)∧args= [vi n]∧r=vs (filN n)
noncomputable def gNameF:=relG RNameF
theorem SNameF:SoundF DP iNameF (.pure gNameF):=sound_pureT mixedD Γ4_ok Δ0_ok hfNameF heNameF hbNameF (by
 rintro args r ⟨n,hn,rfl,rfl⟩
 refine ⟨rfl,rfl,_,TNameF_chk n,?_⟩
 unfold TNameF
 have h:=itoaB_size hn
 exact wp_call (gItoa_eq hn) (wp_val (cat_val (by show 5+(itoaB n).size≤_; omega)) (wp_leaf rfl (.p _))))
theorem gNameF_eq {n:Int} (hn: -9223372036854775808≤n∧n≤9223372036854775807):gNameF [vi n]=some (vs (filN n)):=
 relG_eq (fun args r r' ⟨n1,_,h1,h2⟩ ⟨n2,_,h3,h4⟩=>by
  rw[h2,h4,vn_inj' (one_arg (h1.symm.trans h3))]) ⟨n,hn,rfl,rfl⟩

def versA (v:Vers):AV:= .agg [vl (v.files.map metaE.f),vi v.log,vi v.next,vn .u64 v.seq]
def edtA (e:Edt):AV:= .agg [vl (e.add.map metaE.f),vl (e.del.map intE.f),vi e.log,vi e.next,vn .u64 e.seq]
def firstV:Vers:=⟨[],1,1,0⟩
def noV:Vers:=⟨[],0,0,0⟩
def allE (v:Vers):Edt:=⟨v.files,[],v.log,v.next,v.seq⟩
theorem sealA4 {S:Nat→Prop} {B:List Box} {x y:AV} (a b c:PV) (h:Sealed S B x y):Sealed S B (.agg [x, .p a, .p b, .p c]) (.agg [y, .p a, .p b, .p c]):=by
 refine .agg _ _ rfl fun j c d hc hd=>?_
 match j with
 | 0=>cases hc; cases hd; exact h
 | 1=>cases hc; cases hd; exact .p _
 | 2=>cases hc; cases hd; exact .p _
 | 3=>cases hc; cases hd; exact .p _
 | j+4=>simp at hc
theorem sealA5 {S:Nat→Prop} {B:List Box} {x y:AV} (p a b c:PV) (h:Sealed S B x y):Sealed S B (.agg [.p p,x, .p a, .p b, .p c]) (.agg [.p p,y, .p a, .p b, .p c]):=by
 refine .agg _ _ rfl fun j c d hc hd=>?_
 match j with
 | 0=>cases hc; cases hd; exact .p _
 | 1=>cases hc; cases hd; exact h
 | 2=>cases hc; cases hd; exact .p _
 | 3=>cases hc; cases hd; exact .p _
 | 4=>cases hc; cases hd; exact .p _
 | j+5=>simp at hc
def RFirst:List AV→AV→Prop:=fun args r=>args= []∧r=versA firstV
noncomputable def gFirst:=relG RFirst
theorem SFirst:SoundF DP iFirst (.pure gFirst):=sound_pureT mixedD Γ4_ok Δ0_ok hfFirst heFirst hbFirst (by
 rintro args r ⟨rfl,rfl⟩
 exact ⟨rfl,rfl,_,TFirst_chk,wp_leaf rfl (sealA4 _ _ _ .nil)⟩)
theorem gFirst_eq:gFirst []=some (versA firstV):=relG_eq (fun _ _ _ h1 h2=>h1.2.trans h2.2.symm) ⟨rfl,rfl⟩
def RMetaL:List AV→AV→Prop:=fun args r=>∃ n:Int,args= [vi n]∧r=metaE.av ⟨n,0,⟨#[97]⟩,⟨#[98]⟩,5⟩
noncomputable def gMetaL:=relG RMetaL
theorem SMetaL:SoundF DP iMetaL (.pure gMetaL):=sound_pureT mixedD Γ4_ok Δ0_ok hfMetaL heMetaL hbMetaL (by
 rintro args r ⟨n,rfl,rfl⟩
 exact ⟨rfl,rfl,_,TMetaL_chk n,wp_leaf rfl (sealAgg [.v (.int .i64 n), .v (.int .i64 0), .v (.string ⟨#[97]⟩), .v (.string ⟨#[98]⟩), .v (.int .i64 5)])⟩)
theorem gMetaL_eq {n:Int}:gMetaL [vi n]=some (metaE.av ⟨n,0,⟨#[97]⟩,⟨#[98]⟩,5⟩):=
 relG_eq (fun args r r' ⟨n1,h1,h2⟩ ⟨n2,h3,h4⟩=>by
  rw[h2,h4,vn_inj' (one_arg (h1.symm.trans h3))]) ⟨n,rfl,rfl⟩
theorem Γ10_ok:∀ f,SoundF DP f (Γ10 f):=envP_cons SClone envP_nil
def RAllV:List AV→AV→Prop:=fun args r=>∃ v:Vers,v.files.length≤1000000000∧args= [versA v]∧r=edtA (allE v)
noncomputable def gAllV:=relG RAllV
theorem SAllV:SoundF DP iAllV (.pure gAllV):=sound_pureT mixedD Γ10_ok Δ0_ok hfAllV heAllV hbAllV (by
 rintro args r ⟨v,hv,rfl,rfl⟩
 exact ⟨rfl,rfl,_,TAllV_chk v,wp_any (wp_call (gClone_eq hv) (wp_leaf rfl (sealA5 _ _ _ _ .nil)))⟩)
theorem gAllV_eq {v:Vers} (h:v.files.length≤1000000000):gAllV [versA v]=some (edtA (allE v)):=
 relG_eq (fun args r r' ⟨v1,_,h1,h2⟩ ⟨v2,_,h3,h4⟩=>by
  rw[h2,h4,vargs_inj (one_arg (h1.symm.trans h3))]) ⟨v,h,rfl,rfl⟩

def manB (b:Nat) (n:Int) (v:Vers) (o:Bool):Box:= .cells false 0 [.op b,vi n,vl (v.files.map metaE.f),vi v.log,vi v.next,vn .u64 v.seq,vb o]
section
variable {R : RSpec} {al : List AV} {y : AV} {B : List Box} {b m : Nat} {Φ Φ1 : ObjP} {n n1 : Int} {v v1 : Vers} {o o1 : Bool}
theorem lift_man (hR:R (.ptr 0 0 0::al) [manB 1 n v o, .obj [] Φ] y [manB 1 n1 v1 o1, .obj [] Φ1]) (hm:B[m]? = some (manB b n v o)) (hb:B[b]? = some (.obj [] Φ)) (hal:∀ f d,AV.rv.rvL f d al=al) (hal2:AV.low.allLow 2 al=true) (hy:∀ f d,y.rv f d=y) (hl:y.low 2=true):
  liftR R (.ptr m 0 0::al) B y ((B.set m (manB b n1 v1 o1)).set b (.obj [] Φ1)):=by
 have hbl:b<B.length:=(List.getElem?_eq_some_iff.1 hb).1
 have hml:m<B.length:=(List.getElem?_eq_some_iff.1 hm).1
 have hne:b≠m:=fun e=>by rw[e,hm] at hb; cases hb
 refine ⟨_,_,_,_,hR,⟨[m,b],[0,0],[manB b n v o, .obj [] Φ],[manB b n1 v1 o1, .obj [] Φ1],[],?_,?_,?_,?_,⟨.cells ?_ ?_ rfl, .objs rfl rfl,trivial⟩,⟨.cells ?_ ?_ rfl, .objs rfl rfl,trivial⟩,?_,(hy _ _).symm,hl⟩⟩
 ·have h1:Nat.beq b m=false:=by
   cases h:Nat.beq b m with
   | false=>rfl
   | true=>exact absurd (Nat.eq_of_beq_eq_true h) hne
  have h2:Nat.beq m b=false:=by
   cases h:Nat.beq m b with
   | false=>rfl
   | true=>exact absurd (Nat.eq_of_beq_eq_true h).symm hne
  simp[noDup,Nat.blt_eq,hbl,hml,h1,h2,manB]
 ·simp[hb,hm]
 ·rw[AV.rv.rvL,hal]; simp[AV.rv,fNew,dNew]
 ·show (_&&AV.low.allLow 2 al)=true
  rw[hal2]; rfl
 ·simp[dNew]
 ·simp[AV.rv.rvL,AV.rv,fNew]
 ·simp[dNew]
 ·simp[AV.rv.rvL,AV.rv,fNew]
 ·simp[outB]
theorem lift_man0 (hR:R (.ptr 0 0 0::al) [manB 1 n v o, .obj [] Φ] y [manB 1 n v o, .obj [] Φ]) (hm:B[m]? = some (manB b n v o)) (hb:B[b]? = some (.obj [] Φ)) (hal:∀ f d,AV.rv.rvL f d al=al) (hal2:AV.low.allLow 2 al=true) (hy:∀ f d,y.rv f d=y) (hl:y.low 2=true):
  liftR R (.ptr m 0 0::al) B y B:=by
 have:=lift_man hR hm hb hal hal2 hy hl
 rwa[set_same hm,set_same hb] at this
end
def OVer:RSpec:=fun args B r B'=>∃ (n:Int) (v:Vers) (o:Bool) (Φ:ObjP),v.files.length≤1000000000∧args= [.ptr 0 0 0]∧B= [manB 1 n v o, .obj [] Φ]∧r=versA v∧B'=B
theorem SVer:SoundR DP iVer OVer:=sound_genT mixedD Γ10_ok Δ0_ok hfVer heVer hbVer (by
 rintro args B r B' ⟨n,v,o,Φ,hv,rfl,rfl,rfl,rfl⟩
 exact ⟨by rw[hnVer]; rfl,_,TVer_chk n v o Φ,wp_call (gClone_eq hv) (wp_leaf rfl ⟨rfl,rfl⟩)⟩)
def ONumb:RSpec:=fun args B r B'=>∃ (n:Int) (v:Vers) (o:Bool) (Φ:ObjP),args= [.ptr 0 0 0]∧B= [manB 1 n v o, .obj [] Φ]∧r=vi n∧B'=B
theorem SNumb:SoundR DP iNumb ONumb:=sound_genT mixedD Γ10_ok Δ0_ok hfNumb heNumb hbNumb (by
 rintro args B r B' ⟨n,v,o,Φ,rfl,rfl,rfl,rfl⟩
 exact ⟨by rw[hnNumb]; rfl,_,TNumb_chk n v o Φ,wp_leaf rfl ⟨rfl,rfl⟩⟩)
end Go.Ax
