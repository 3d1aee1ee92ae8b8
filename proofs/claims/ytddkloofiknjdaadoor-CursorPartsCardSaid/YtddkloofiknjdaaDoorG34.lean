/- Several cursors: Peek and Next: what they come to, whatever the boxes are. -/
import Derived.Test.YtddkloofiknjdaaDoorG33
set_option linter.unusedVariables false
set_option linter.unusedSimpArgs false
set_option linter.unusedSectionVars false
namespace Go.Ax
open Go.Proofs Go.RowKit
set_option maxRecDepth 100000

noncomputable def ΔC2:REnv:=envR [(iFirst,liftR OFirst)]
noncomputable def TPeekM (B B':List Box) (m:Nat) (a:Int) (best:Ent):Tree:=
.callr (some 32) (ΔC2 iFirst [.ptr 0 0 0] (B++ [ebx noE]) (.tup [vi a,entE.av best,vi 0]) (B'++ [ebx noE])) (.tup [vi a,entE.av best,vi 0]) (B'++ [ebx noE]) (.leaf (wdN [0] m) [] .ret (some ([(0, .tup [entE.av best,vb (decide (a≥(0:Int))),vi 0])],B')))
def OPeekM:RSpec:=fun args B r B'=>∃ (D:Dsk) (ks:List Bool) (xs:List LeafD),ks∈shapesM∧xs.length=ks.length∧AllGood D ks xs∧args= [.ptr 0 0 0]∧B=famC ks xs D ∧
 r= .tup [entE.av (firstF D ks xs 0 (-1,noE)).2.2,vb (decide ((firstF D ks xs 0 (-1,noE)).2.1≥0)),vi 0]∧B'=famC ks (firstF D ks xs 0 (-1,noE)).1 D
noncomputable def ΔC3:REnv:=envR [(iFirst,liftR OFirst),(iPeek,liftR OPeekM),(iNextC,liftR ONext)]
noncomputable def TNextM (B B1 B2 B3:List Box) (m a:Nat) (x:Ent) (o:Bool) (best y:Ent) (o2:Bool):Tree:=
.callr (some 13) (ΔC3 iPeek [.ptr 0 0 0] (B++ [ebx noE]) (.tup [entE.av x,vb o,vi 0]) (B1++ [ebx noE])) (.tup [entE.av x,vb o,vi 0]) (B1++ [ebx noE]) (.sp 15 o (
.callr (some 29) (ΔC3 iFirst [.ptr 0 0 0] (B1++ [ebx noE,ebx x]) (.tup [vi (a:Int),entE.av best,vi 0]) (B2++ [ebx noE,ebx x])) (.tup [vi (a:Int),entE.av best,vi 0]) (B2++ [ebx noE,ebx x]) (
.callr (some 40) (ΔC3 iNextC [.ptr (2+a) 0 0] (B2++ [ebx noE,ebx x,ebx best]) (.tup [entE.av y,vb o2,vi 0]) (B3++ [ebx noE,ebx x,ebx best])) (.tup [entE.av y,vb o2,vi 0]) (B3++ [ebx noE,ebx x,ebx best]) (.leaf (wdN [0] m) [] .ret (some ([(0, .tup [entE.av y,vb o2,vi 0])],B3))))) (
.leaf (wdN [0] m) [] .ret (some ([(0, .tup [entE.av x,vb false,vi 0])],B1))))
def RPm (ks:List Bool):Prop:=∀ (D:Dsk) (x0 x1 x2 x3 x4 y0 y1 y2 y3 y4:LeafD) (a:Int) (best:Ent),
 fnC DP Γ0 ΔC2 nPeek [.ptr 0 0 0] (famC ks (l5 ks.length x0 x1 x2 x3 x4) D) (TPeekM (famC ks (l5 ks.length x0 x1 x2 x3 x4) D) (famC ks (l5 ks.length y0 y1 y2 y3 y4) D) (famL ks) a best) =
  TPeekM (famC ks (l5 ks.length x0 x1 x2 x3 x4) D) (famC ks (l5 ks.length y0 y1 y2 y3 y4) D) (famL ks) a best
def RNm (p:List Bool×Nat):Prop:=∀ (D:Dsk) (x0 x1 x2 x3 x4 y0 y1 y2 y3 y4 z0 z1 z2 z3 z4 w0 w1 w2 w3 w4:LeafD) (x:Ent) (o:Bool) (best y:Ent) (o2:Bool),
 fnC DP Γ0 ΔC3 nNextC [.ptr 0 0 0] (famC p.1 (l5 p.1.length x0 x1 x2 x3 x4) D) (TNextM (famC p.1 (l5 p.1.length x0 x1 x2 x3 x4) D) (famC p.1 (l5 p.1.length y0 y1 y2 y3 y4) D) (famC p.1 (l5 p.1.length z0 z1 z2 z3 z4) D) (famC p.1 (l5 p.1.length w0 w1 w2 w3 w4) D) (famL p.1) p.2 x o best y o2) =
  TNextM (famC p.1 (l5 p.1.length x0 x1 x2 x3 x4) D) (famC p.1 (l5 p.1.length y0 y1 y2 y3 y4) D) (famC p.1 (l5 p.1.length z0 z1 z2 z3 z4) D) (famC p.1 (l5 p.1.length w0 w1 w2 w3 w4) D) (famL p.1) p.2 x o best y o2
theorem allPm:allP RPm shapesM:=⟨by intro D x0 x1 x2 x3 x4 y0 y1 y2 y3 y4 a best; kernel_rfl,by intro D x0 x1 x2 x3 x4 y0 y1 y2 y3 y4 a best; kernel_rfl,by intro D x0 x1 x2 x3 x4 y0 y1 y2 y3 y4 a best; kernel_rfl,by intro D x0 x1 x2 x3 x4 y0 y1 y2 y3 y4 a best; kernel_rfl,by intro D x0 x1 x2 x3 x4 y0 y1 y2 y3 y4 a best; kernel_rfl,by intro D x0 x1 x2 x3 x4 y0 y1 y2 y3 y4 a best; kernel_rfl,by intro D x0 x1 x2 x3 x4 y0 y1 y2 y3 y4 a best; kernel_rfl,by intro D x0 x1 x2 x3 x4 y0 y1 y2 y3 y4 a best; kernel_rfl,by intro D x0 x1 x2 x3 x4 y0 y1 y2 y3 y4 a best; kernel_rfl,by intro D x0 x1 x2 x3 x4 y0 y1 y2 y3 y4 a best; kernel_rfl,by intro D x0 x1 x2 x3 x4 y0 y1 y2 y3 y4 a best; kernel_rfl,by intro D x0 x1 x2 x3 x4 y0 y1 y2 y3 y4 a best; kernel_rfl,by intro D x0 x1 x2 x3 x4 y0 y1 y2 y3 y4 a best; kernel_rfl,trivial⟩
theorem allNm:allP RNm pairsM:=⟨by intro D x0 x1 x2 x3 x4 y0 y1 y2 y3 y4 z0 z1 z2 z3 z4 w0 w1 w2 w3 w4 x o best y o2; kernel_rfl,by intro D x0 x1 x2 x3 x4 y0 y1 y2 y3 y4 z0 z1 z2 z3 z4 w0 w1 w2 w3 w4 x o best y o2; kernel_rfl,by intro D x0 x1 x2 x3 x4 y0 y1 y2 y3 y4 z0 z1 z2 z3 z4 w0 w1 w2 w3 w4 x o best y o2; kernel_rfl,by intro D x0 x1 x2 x3 x4 y0 y1 y2 y3 y4 z0 z1 z2 z3 z4 w0 w1 w2 w3 w4 x o best y o2; kernel_rfl,by intro D x0 x1 x2 x3 x4 y0 y1 y2 y3 y4 z0 z1 z2 z3 z4 w0 w1 w2 w3 w4 x o best y o2; kernel_rfl,by intro D x0 x1 x2 x3 x4 y0 y1 y2 y3 y4 z0 z1 z2 z3 z4 w0 w1 w2 w3 w4 x o best y o2; kernel_rfl,by intro D x0 x1 x2 x3 x4 y0 y1 y2 y3 y4 z0 z1 z2 z3 z4 w0 w1 w2 w3 w4 x o best y o2; kernel_rfl,by intro D x0 x1 x2 x3 x4 y0 y1 y2 y3 y4 z0 z1 z2 z3 z4 w0 w1 w2 w3 w4 x o best y o2; kernel_rfl,by intro D x0 x1 x2 x3 x4 y0 y1 y2 y3 y4 z0 z1 z2 z3 z4 w0 w1 w2 w3 w4 x o best y o2; kernel_rfl,by intro D x0 x1 x2 x3 x4 y0 y1 y2 y3 y4 z0 z1 z2 z3 z4 w0 w1 w2 w3 w4 x o best y o2; kernel_rfl,by intro D x0 x1 x2 x3 x4 y0 y1 y2 y3 y4 z0 z1 z2 z3 z4 w0 w1 w2 w3 w4 x o best y o2; kernel_rfl,by intro D x0 x1 x2 x3 x4 y0 y1 y2 y3 y4 z0 z1 z2 z3 z4 w0 w1 w2 w3 w4 x o best y o2; kernel_rfl,by intro D x0 x1 x2 x3 x4 y0 y1 y2 y3 y4 z0 z1 z2 z3 z4 w0 w1 w2 w3 w4 x o best y o2; kernel_rfl,by intro D x0 x1 x2 x3 x4 y0 y1 y2 y3 y4 z0 z1 z2 z3 z4 w0 w1 w2 w3 w4 x o best y o2; kernel_rfl,by intro D x0 x1 x2 x3 x4 y0 y1 y2 y3 y4 z0 z1 z2 z3 z4 w0 w1 w2 w3 w4 x o best y o2; kernel_rfl,by intro D x0 x1 x2 x3 x4 y0 y1 y2 y3 y4 z0 z1 z2 z3 z4 w0 w1 w2 w3 w4 x o best y o2; kernel_rfl,by intro D x0 x1 x2 x3 x4 y0 y1 y2 y3 y4 z0 z1 z2 z3 z4 w0 w1 w2 w3 w4 x o best y o2; kernel_rfl,by intro D x0 x1 x2 x3 x4 y0 y1 y2 y3 y4 z0 z1 z2 z3 z4 w0 w1 w2 w3 w4 x o best y o2; kernel_rfl,by intro D x0 x1 x2 x3 x4 y0 y1 y2 y3 y4 z0 z1 z2 z3 z4 w0 w1 w2 w3 w4 x o best y o2; kernel_rfl,by intro D x0 x1 x2 x3 x4 y0 y1 y2 y3 y4 z0 z1 z2 z3 z4 w0 w1 w2 w3 w4 x o best y o2; kernel_rfl,by intro D x0 x1 x2 x3 x4 y0 y1 y2 y3 y4 z0 z1 z2 z3 z4 w0 w1 w2 w3 w4 x o best y o2; kernel_rfl,by intro D x0 x1 x2 x3 x4 y0 y1 y2 y3 y4 z0 z1 z2 z3 z4 w0 w1 w2 w3 w4 x o best y o2; kernel_rfl,by intro D x0 x1 x2 x3 x4 y0 y1 y2 y3 y4 z0 z1 z2 z3 z4 w0 w1 w2 w3 w4 x o best y o2; kernel_rfl,by intro D x0 x1 x2 x3 x4 y0 y1 y2 y3 y4 z0 z1 z2 z3 z4 w0 w1 w2 w3 w4 x o best y o2; kernel_rfl,by intro D x0 x1 x2 x3 x4 y0 y1 y2 y3 y4 z0 z1 z2 z3 z4 w0 w1 w2 w3 w4 x o best y o2; kernel_rfl,by intro D x0 x1 x2 x3 x4 y0 y1 y2 y3 y4 z0 z1 z2 z3 z4 w0 w1 w2 w3 w4 x o best y o2; kernel_rfl,by intro D x0 x1 x2 x3 x4 y0 y1 y2 y3 y4 z0 z1 z2 z3 z4 w0 w1 w2 w3 w4 x o best y o2; kernel_rfl,by intro D x0 x1 x2 x3 x4 y0 y1 y2 y3 y4 z0 z1 z2 z3 z4 w0 w1 w2 w3 w4 x o best y o2; kernel_rfl,by intro D x0 x1 x2 x3 x4 y0 y1 y2 y3 y4 z0 z1 z2 z3 z4 w0 w1 w2 w3 w4 x o best y o2; kernel_rfl,by intro D x0 x1 x2 x3 x4 y0 y1 y2 y3 y4 z0 z1 z2 z3 z4 w0 w1 w2 w3 w4 x o best y o2; kernel_rfl,by intro D x0 x1 x2 x3 x4 y0 y1 y2 y3 y4 z0 z1 z2 z3 z4 w0 w1 w2 w3 w4 x o best y o2; kernel_rfl,by intro D x0 x1 x2 x3 x4 y0 y1 y2 y3 y4 z0 z1 z2 z3 z4 w0 w1 w2 w3 w4 x o best y o2; kernel_rfl,by intro D x0 x1 x2 x3 x4 y0 y1 y2 y3 y4 z0 z1 z2 z3 z4 w0 w1 w2 w3 w4 x o best y o2; kernel_rfl,by intro D x0 x1 x2 x3 x4 y0 y1 y2 y3 y4 z0 z1 z2 z3 z4 w0 w1 w2 w3 w4 x o best y o2; kernel_rfl,by intro D x0 x1 x2 x3 x4 y0 y1 y2 y3 y4 z0 z1 z2 z3 z4 w0 w1 w2 w3 w4 x o best y o2; kernel_rfl,by intro D x0 x1 x2 x3 x4 y0 y1 y2 y3 y4 z0 z1 z2 z3 z4 w0 w1 w2 w3 w4 x o best y o2; kernel_rfl,by intro D x0 x1 x2 x3 x4 y0 y1 y2 y3 y4 z0 z1 z2 z3 z4 w0 w1 w2 w3 w4 x o best y o2; kernel_rfl,by intro D x0 x1 x2 x3 x4 y0 y1 y2 y3 y4 z0 z1 z2 z3 z4 w0 w1 w2 w3 w4 x o best y o2; kernel_rfl,by intro D x0 x1 x2 x3 x4 y0 y1 y2 y3 y4 z0 z1 z2 z3 z4 w0 w1 w2 w3 w4 x o best y o2; kernel_rfl,by intro D x0 x1 x2 x3 x4 y0 y1 y2 y3 y4 z0 z1 z2 z3 z4 w0 w1 w2 w3 w4 x o best y o2; kernel_rfl,by intro D x0 x1 x2 x3 x4 y0 y1 y2 y3 y4 z0 z1 z2 z3 z4 w0 w1 w2 w3 w4 x o best y o2; kernel_rfl,by intro D x0 x1 x2 x3 x4 y0 y1 y2 y3 y4 z0 z1 z2 z3 z4 w0 w1 w2 w3 w4 x o best y o2; kernel_rfl,by intro D x0 x1 x2 x3 x4 y0 y1 y2 y3 y4 z0 z1 z2 z3 z4 w0 w1 w2 w3 w4 x o best y o2; kernel_rfl,by intro D x0 x1 x2 x3 x4 y0 y1 y2 y3 y4 z0 z1 z2 z3 z4 w0 w1 w2 w3 w4 x o best y o2; kernel_rfl,by intro D x0 x1 x2 x3 x4 y0 y1 y2 y3 y4 z0 z1 z2 z3 z4 w0 w1 w2 w3 w4 x o best y o2; kernel_rfl,by intro D x0 x1 x2 x3 x4 y0 y1 y2 y3 y4 z0 z1 z2 z3 z4 w0 w1 w2 w3 w4 x o best y o2; kernel_rfl,by intro D x0 x1 x2 x3 x4 y0 y1 y2 y3 y4 z0 z1 z2 z3 z4 w0 w1 w2 w3 w4 x o best y o2; kernel_rfl,trivial⟩
end Go.Ax

namespace Go.Ax
open Go.Proofs Go.RowKit
set_option maxRecDepth 100000

section
variable {ks : List Bool} {xs : List LeafD} {D : Dsk} {i : Nat} {k : Bool} {x : LeafD}
theorem low_cur {n:Nat} (q:Bool) {f:Nat} (c:Cur) (h:q=true→f<n):AV.low.allLow n (leafB q f c).cs=true:=by
 cases q with
 | false=>rfl
 | true=>
  have:=h rfl
  simp[leafB,Box.cs,AV.low.allLow,AV.low,Nat.blt_eq,this]
theorem low_leafs (n:Nat):∀ (ks:List Bool) (xs:List LeafD) (f:Nat),xs.length=ks.length→f+nFil ks≤n→∀ b∈leafsC ks xs f,AV.low.allLow n b.cs=true
 | [],[],_,_,_,b,hb=>by cases hb
 | true::ks,x::xs,f,h,hn,b,hb=>by
  have hn:f+(nFil ks+1)≤n:=hn
  rcases List.mem_cons.1 (show b∈curB 2 (.ptr f 0 0) x.c::leafsC ks xs (f+1) from hb) with rfl | hb
  ·exact low_cur true x.c (fun _=>by omega)
  ·exact low_leafs n ks xs (f+1) (by simpa using h) (by omega) b hb
 | false::ks,x::xs,f,h,hn,b,hb=>by
  rcases List.mem_cons.1 (show b∈curB 1 nilQ x.c::leafsC ks xs f from hb) with rfl | hb
  ·exact low_cur (f:=0) false x.c (fun e=>by cases e)
  ·exact low_leafs n ks xs f (by simpa using h) hn b hb
theorem low_fls (n:Nat):∀ (ks:List Bool) (xs:List LeafD) (d:Nat),xs.length=ks.length→(0<nFil ks→d<n)→∀ b∈flsC ks xs d,AV.low.allLow n b.cs=true
 | [],[],_,_,_,b,hb=>by cases hb
 | true::ks,x::xs,d,h,hn,b,hb=>by
  have hd:d<n:=hn (Nat.succ_pos _)
  rcases List.mem_cons.1 (show b∈filC d x.nm x.F::flsC ks xs d from hb) with rfl | hb
  ·simp[Box.cs,AV.low.allLow,AV.low,Nat.blt_eq,hd]
  ·exact low_fls n ks xs d (by simpa using h) (fun _=>hd) b hb
 | false::ks,x::xs,d,h,hn,b,hb=>low_fls n ks xs d (by simpa using h) hn b hb
theorem fam_low (h:xs.length=ks.length):Blow (famL ks) (famC ks xs D):=by
 have hl:famL ks=2+ks.length+nFil ks+(if nFil ks=0 then 0 else 1):=rfl
 intro b hb
 unfold famC at hb
 simp only[List.mem_cons,List.mem_append] at hb
 rcases hb with rfl | rfl | hb | hb | hb
 ·simp[Box.cs,AV.low.allLow,AV.low,Nat.blt_eq]; omega
 ·show AV.low.allLow _ ((List.range ks.length).map fun j=>AV.ptr (2+j) 0 0)=true
  have:∀ (l:List Nat),(∀ j∈l,j<ks.length)→AV.low.allLow (famL ks) (l.map fun j=>AV.ptr (2+j) 0 0)=true:=by
   intro l
   induction l with
   | nil=>intro _; rfl
   | cons a l ih=>
    intro hl'
    have h1:=hl' a (by simp)
    simp only[List.map_cons,AV.low.allLow,AV.low,Nat.blt_eq,Bool.and_eq_true]
    exact ⟨by omega,ih fun j hj=>hl' j (by simp[hj])⟩
  exact this _ fun j hj=>List.mem_range.1 hj
 ·exact low_leafs _ _ _ _ h (by omega) b hb
 ·exact low_fls _ _ _ _ h (fun hp=>by rw[hl,if_neg (by omega)]; omega) b hb
 ·unfold diskC at hb
  split at hb
  ·cases hb
  ·rw[List.mem_singleton.1 hb]; rfl
theorem fam_lift {R:RSpec} {ys:List LeafD} {args:List AV} {r:AV} (hR:R args (famC ks xs D) r (famC ks ys D)) (h:xs.length=ks.length) (h2:ys.length=ks.length) (ha:AV.low.allLow (famL ks) args=true) (hr:r.low (famL ks)=true) (T:List Box):
  liftR R args (famC ks xs D++T) r (famC ks ys D++T):=by
 have e:=fam_len (D:=D) h
 have e2:=fam_len (D:=D) h2
 refine lift_tail hR (by rw[e,e2]) (by rw[e]; exact ha) (by rw[e]; exact fam_low h) (by rw[e]; exact fam_low h2) (by rw[e]; exact hr) T
theorem low0 (ks:List Bool):AV.low.allLow (famL ks) [.ptr 0 0 0]=true:=by
 have h:Nat.blt 0 (famL ks)=true:=by rw[Nat.blt_eq]; show 0<2+_+_+_; omega
 show (Nat.blt 0 (famL ks)&&true)=true
 rw[h]; rfl
theorem ΔC2_ok:∀ f,SoundR DP f (ΔC2 f):=envR_cons (lift_sound SFirst) envR_nil
theorem fam_first (hs:ks∈shapesM) (h:xs.length=ks.length) (hg:AllGood D ks xs) (T:List Box):
  liftR OFirst [.ptr 0 0 0] (famC ks xs D++T) (.tup [vi (firstF D ks xs 0 (-1,noE)).2.1,entE.av (firstF D ks xs 0 (-1,noE)).2.2,vi 0]) (famC ks (firstF D ks xs 0 (-1,noE)).1 D++T):=
 fam_lift (R:=OFirst) ⟨D,ks,xs,hs,h,hg,rfl,rfl,rfl,rfl⟩ h (firstF_len ks xs 0 _ h) (low0 ks) rfl T
theorem pm_of (hs:ks∈shapesM) {ys:List LeafD} (hl:xs.length=ks.length) (hl2:ys.length=ks.length) (a:Int) (best:Ent):
  fnC DP Γ0 ΔC2 nPeek [.ptr 0 0 0] (famC ks xs D) (TPeekM (famC ks xs D) (famC ks ys D) (famL ks) a best)=TPeekM (famC ks xs D) (famC ks ys D) (famL ks) a best:=by
 have hc:fnC DP Γ0 ΔC2 nPeek [.ptr 0 0 0] (famC ks (l5 ks.length (xs.getD 0 zD) (xs.getD 1 zD) (xs.getD 2 zD) (xs.getD 3 zD) (xs.getD 4 zD)) D) (TPeekM (famC ks (l5 ks.length (xs.getD 0 zD) (xs.getD 1 zD) (xs.getD 2 zD) (xs.getD 3 zD) (xs.getD 4 zD)) D) (famC ks (l5 ks.length (ys.getD 0 zD) (ys.getD 1 zD) (ys.getD 2 zD) (ys.getD 3 zD) (ys.getD 4 zD)) D) (famL ks) a best)=_:=allP_mem allPm ks hs D _ _ _ _ _ _ _ _ _ _ a best
 rw[←l5_of zD hl (shape_len ks hs),←l5_of zD hl2 (shape_len ks hs)] at hc
 exact hc
theorem nm_of (hs:ks∈shapesM) {ys zs ws:List LeafD} (hl:xs.length=ks.length) (hl2:ys.length=ks.length) (hl3:zs.length=ks.length) (hl4:ws.length=ks.length) {a:Nat} (ha:a<ks.length) (x:Ent) (o:Bool) (best y:Ent) (o2:Bool):
  fnC DP Γ0 ΔC3 nNextC [.ptr 0 0 0] (famC ks xs D) (TNextM (famC ks xs D) (famC ks ys D) (famC ks zs D) (famC ks ws D) (famL ks) a x o best y o2)=TNextM (famC ks xs D) (famC ks ys D) (famC ks zs D) (famC ks ws D) (famL ks) a x o best y o2:=by
 have hc:fnC DP Γ0 ΔC3 nNextC [.ptr 0 0 0] (famC ks (l5 ks.length (xs.getD 0 zD) (xs.getD 1 zD) (xs.getD 2 zD) (xs.getD 3 zD) (xs.getD 4 zD)) D) (TNextM (famC ks (l5 ks.length (xs.getD 0 zD) (xs.getD 1 zD) (xs.getD 2 zD) (xs.getD 3 zD) (xs.getD 4 zD)) D) (famC ks (l5 ks.length (ys.getD 0 zD) (ys.getD 1 zD) (ys.getD 2 zD) (ys.getD 3 zD) (ys.getD 4 zD)) D) (famC ks (l5 ks.length (zs.getD 0 zD) (zs.getD 1 zD) (zs.getD 2 zD) (zs.getD 3 zD) (zs.getD 4 zD)) D) (famC ks (l5 ks.length (ws.getD 0 zD) (ws.getD 1 zD) (ws.getD 2 zD) (ws.getD 3 zD) (ws.getD 4 zD)) D) (famL ks) a x o best y o2)=_:=allP_mem allNm (ks,a) (pairs_mem ks hs a ha) D _ _ _ _ _ _ _ _ _ _ _ _ _ _ _ _ _ _ _ _ x o best y o2
 rw[←l5_of zD hl (shape_len ks hs),←l5_of zD hl2 (shape_len ks hs),←l5_of zD hl3 (shape_len ks hs),←l5_of zD hl4 (shape_len ks hs)] at hc
 exact hc
end
theorem SPeekM:SoundR DP iPeek OPeekM:=sound_genT mixedD Γ0_ok ΔC2_ok hfPeek hePeek hbPeek (by
 rintro args B r B' ⟨D,ks,xs,hs,hl,hg,rfl,rfl,rfl,rfl⟩
 refine ⟨by rw[hnPeek]; rfl,_,pm_of hs hl (firstF_len (D:=D) ks xs 0 (-1,noE) hl) (firstF D ks xs 0 (-1,noE)).2.1 (firstF D ks xs 0 (-1,noE)).2.2,?_⟩
 unfold TPeekM
 exact wp_callr (fam_first hs hl hg _) (wp_leaf (wdN_ok _ _) ⟨rfl,rfl⟩))
section
variable {ks : List Bool} {xs : List LeafD} {D : Dsk} {i : Nat} {k : Bool} {x : LeafD}
theorem fam_peekM (hs:ks∈shapesM) (h:xs.length=ks.length) (hg:AllGood D ks xs) (T:List Box):
  liftR OPeekM [.ptr 0 0 0] (famC ks xs D++T) (.tup [entE.av (firstF D ks xs 0 (-1,noE)).2.2,vb (decide ((firstF D ks xs 0 (-1,noE)).2.1≥0)),vi 0]) (famC ks (firstF D ks xs 0 (-1,noE)).1 D++T):=
 fam_lift (R:=OPeekM) ⟨D,ks,xs,hs,h,hg,rfl,rfl,rfl,rfl⟩ h (firstF_len ks xs 0 _ h) (low0 ks) rfl T
theorem ΔC3_ok:∀ f,SoundR DP f (ΔC3 f):=envR_cons (lift_sound SFirst) (envR_cons (lift_sound SPeekM) (envR_cons (lift_sound SNextK) envR_nil))
theorem fam_next (h:xs.length=ks.length) (hk:ks[i]? = some k) (hx:xs[i]? = some x) (g:GoodL D k x) {y:Ent} {t:List Ent} (hr:restC (pgsC D k x) x.c=y::t) (T:List Box):
  liftR ONext [.ptr (2+i) 0 0] (famC ks xs D++T) (.tup [entE.av y,vb true,vi 0]) (famC ks (xs.set i (x.put (nextC (pgsC D k x) x.c).1)) D++T):=by
 have hi:i<ks.length:=(List.getElem?_eq_some_iff.1 hk).1
 have hl:2+i<(famC ks xs D).length:=by rw[fam_len h]; unfold famL; omega
 have e1:=fam_leaf (D:=D) h hk hx
 have hB:(famC ks xs D++T)[2+i]? = some (leafB k (2+ks.length+nFil (ks.take i)) x.c):=by rw[List.getElem?_append_left hl,e1]
 obtain ⟨n1,n2,n3⟩:=(next_good g).2 y t hr
 rw[←fam_set h hk hx,←List.set_append_left _ _ hl]
 cases k with
 | false=>
  have ep:=peek_list (pgsC D false x) rfl g.pg.1
  have en:nextC (pgsC D false x) x.c=nextL x.c:=by
   unfold nextC nextL
   rw[ep]
  have:=oNextL (B:=famC ks xs D++T) (l:=2+i) (c:=x.c) hB
  rw[←en,n1] at this
  exact this
 | true=>
  have hd:(famC ks xs D++T)[2+ks.length+nFil ks]? = some (dskB D):=by
   have:=fam_disk (D:=D) h hk
   rw[List.getElem?_append_left (List.getElem?_eq_some_iff.1 this).1,this]
  have hf:(famC ks xs D++T)[2+ks.length+nFil (ks.take i)]? = some (filC (2+ks.length+nFil ks) x.nm x.F):=by
   have:=fam_file (D:=D) h hk hx
   rw[List.getElem?_append_left (List.getElem?_eq_some_iff.1 this).1,this]
  have:=oNextF (l:=2+i) (c:=x.c) (g.rd rfl) g.pg hd hf hB
  rw[show pfC D x.nm x.F=pgsC D true x from rfl,n1] at this
  exact this
end
def nextM (D:Dsk) (ks:List Bool) (xs:List LeafD):List LeafD×(Ent×Bool×Int):=
 let q:=firstF D ks xs 0 (-1,noE)
 if 0≤q.2.1 then
  let q2:=firstF D ks q.1 0 (-1,noE)
  let j:=q2.2.1.toNat
  let x:=q2.1.getD j zD
  (q2.1.set j (x.put (nextC (pgsC D (ks.getD j false) x) x.c).1),q.2.2,true,0)
 else (q.1,q.2.2,false,0)
def ONextM:RSpec:=fun args B r B'=>∃ (D:Dsk) (ks:List Bool) (xs:List LeafD),ks∈shapesM∧xs.length=ks.length∧AllGood D ks xs∧args= [.ptr 0 0 0]∧B=famC ks xs D ∧
 r= .tup [entE.av (nextM D ks xs).2.1,vb (nextM D ks xs).2.2.1,vi (nextM D ks xs).2.2.2]∧B'=famC ks (nextM D ks xs).1 D
theorem nextM_of {D:Dsk} {ks:List Bool} {xs:List LeafD} (h:xs.length=ks.length) (hg:AllGood D ks xs):
  ((pickR (restsF D ks xs) 0 (-1,noE)).1= -1∧nextM D ks xs=((firstF D ks xs 0 (-1,noE)).1,noE,false,0)) ∨
  ∃ (j:Nat) (y:Ent) (t:List Ent) (k:Bool) (x:LeafD),pickR (restsF D ks xs) 0 (-1,noE)=((j:Int),y)∧(restsF D ks xs)[j]? = some (y::t)∧j<ks.length ∧
   let q2:=firstF D ks (firstF D ks xs 0 (-1,noE)).1 0 (-1,noE)
   ks[j]? = some k∧q2.1[j]? = some x∧GoodL D k x∧restC (pgsC D k x) x.c=y::t∧q2.2=((j:Int),y)∧nextM D ks xs=(q2.1.set j (x.put (nextC (pgsC D k x) x.c).1),y,true,0):=by
 obtain ⟨p1,p2,p3⟩:=firstF_pick ks xs 0 (-1,noE) h hg
 have l1:=firstF_len (D:=D) ks xs 0 (-1,noE) h
 obtain ⟨s1,s2,s3⟩:=firstF_pick ks (firstF D ks xs 0 (-1,noE)).1 0 (-1,noE) l1 p3
 have l2:=firstF_len (D:=D) ks (firstF D ks xs 0 (-1,noE)).1 0 (-1,noE) l1
 rcases pick_head (restsF D ks xs) 0 (-1,noE) with e | ⟨j,y,t,e,hj⟩
 ·left
  refine ⟨by rw[e],?_⟩
  unfold nextM
  simp only
  rw[p1,e]
  rfl
 ·right
  rw[Nat.zero_add] at e
  have hjl:j<ks.length:=by
   have:=(List.getElem?_eq_some_iff.1 hj).1
   rw[restsF_len _ _ h] at this
   exact this
  have hk:ks[j]? = some (ks.getD j false):=by rw[List.getD_eq_getElem?_getD,List.getElem?_eq_getElem hjl]; rfl
  have hx:(firstF D ks (firstF D ks xs 0 (-1,noE)).1 0 (-1,noE)).1[j]? = some ((firstF D ks (firstF D ks xs 0 (-1,noE)).1 0 (-1,noE)).1.getD j zD):=by
   rw[List.getD_eq_getElem?_getD,List.getElem?_eq_getElem (by rw[l2]; exact hjl)]; rfl
  refine ⟨j,y,t,ks.getD j false,(firstF D ks (firstF D ks xs 0 (-1,noE)).1 0 (-1,noE)).1.getD j zD,e,hj,hjl,hk,hx,s3 j _ _ hk hx,?_,?_,?_⟩
  ·have:=restsF_get (D:=D) ks _ j _ _ hk hx
   rw[s2,p2,hj] at this
   exact (Option.some.inj this).symm
  ·rw[s1,p2,e]
  ·unfold nextM
   simp only
   rw[p1,e,if_pos (show (0:Int)≤(j:Int) by omega),s1,p2,e]
   simp only[Int.toNat_natCast]
theorem nextM_len {D:Dsk} {ks:List Bool} {xs:List LeafD} (h:xs.length=ks.length):(nextM D ks xs).1.length=ks.length:=by
 have l1:=firstF_len (D:=D) ks xs 0 (-1,noE) h
 unfold nextM
 simp only
 split
 ·rw[List.length_set]; exact firstF_len _ _ _ _ l1
 ·exact l1
theorem shape_pos:∀ ks∈shapesM,0<ks.length:=by decide
theorem SNextM:SoundR DP iNextC ONextM:=sound_genT mixedD Γ0_ok ΔC3_ok hfNextC heNextC hbNextC (by
 rintro args B r B' ⟨D,ks,xs,hs,hl,hg,rfl,rfl,rfl,rfl⟩
 obtain ⟨p1,p2,p3⟩:=firstF_pick ks xs 0 (-1,noE) hl hg
 have l1:=firstF_len (D:=D) ks xs 0 (-1,noE) hl
 have l2:=firstF_len (D:=D) ks (firstF D ks xs 0 (-1,noE)).1 0 (-1,noE) l1
 rcases nextM_of hl hg with ⟨e,hn⟩ | ⟨j,y,t,k,x,e,hj,hjl,q2⟩
 ·rw[hn]
  refine ⟨by rw[hnNextC]; rfl,_,nm_of hs hl l1 l2 l2 (shape_pos ks hs) (firstF D ks xs 0 (-1,noE)).2.2 (decide ((firstF D ks xs 0 (-1,noE)).2.1≥0)) noE noE true,?_⟩
  unfold TNextM
  have e0:(firstF D ks xs 0 (-1,noE)).2=(-1,noE):=by
   rw[p1]
   rcases pick_head (restsF D ks xs) 0 (-1,noE) with h | ⟨j,y,t,h,_⟩
   ·exact h
   ·rw[h] at e; simp only at e; omega
  refine wp_callr (fam_peekM hs hl hg _) (wp_sp (fun q=>?_) (fun q=>?_))
  ·rw[e0] at q; simp at q
  ·rw[e0]; exact wp_leaf (wdN_ok _ _) ⟨rfl,rfl⟩
 ·obtain ⟨hk,hx,g,hr,h2,hn⟩:=q2
  have l3:((firstF D ks (firstF D ks xs 0 (-1,noE)).1 0 (-1,noE)).1.set j (x.put (nextC (pgsC D k x) x.c).1)).length=ks.length:=by rw[List.length_set]; exact l2
  rw[hn]
  have e0:(firstF D ks xs 0 (-1,noE)).2=((j:Int),y):=by rw[p1,e]
  refine ⟨by rw[hnNextC]; rfl,_,nm_of hs hl l1 l2 l3 hjl y true y y true,?_⟩
  unfold TNextM
  have c1:=fam_peekM hs hl hg [ebx noE]
  rw[e0,show decide (((j:Int),y).1≥(0:Int))=true by simp] at c1
  have c2:=fam_first hs l1 p3 [ebx noE,ebx y]
  rw[h2] at c2
  have hg2:=(firstF_pick ks (firstF D ks xs 0 (-1,noE)).1 0 (-1,noE) l1 p3).2.2
  exact wp_callr c1 (wp_sp (fun _=>wp_callr c2 (wp_callr (fam_next l2 hk hx g hr _) (wp_leaf (wdN_ok _ _) ⟨rfl,rfl⟩))) (fun q=>by cases q)))
end Go.Ax

namespace Go.Ax
open Go.Proofs Go.RowKit
set_option maxRecDepth 100000

def fillG (p:Pgs) (s:List Ent×Int):List Ent×Int:=if s.1= []∧s.2<p.np then ((p.pf s.2).1,s.2+1) else s
def OFillG:RSpec:=fun args B r B'=>(∃ (L:List Ent) (pg:Int),args= [.ptr 0 0 0]∧B=lcB ⟨L,pg,0⟩∧r=vi 0∧B'=lcB ⟨L,pg,0⟩) ∨
 ∃ (D:Dsk) (nm:ByteArray) (F:FileR) (L:List Ent) (pg:Int),GoodL D true ⟨⟨L,pg,0⟩,nm,F⟩∧args= [.ptr 2 0 0]∧B=fcB D nm F ⟨L,pg,0⟩∧r=vi 0∧B'=fcB D nm F ⟨(fillG (pfC D nm F) (L,pg)).1,(fillG (pfC D nm F) (L,pg)).2,0⟩
def nilK (R:RSpec):RSpec:=fun args B r B'=>R args B r B'∨∃ (b v i:Nat) (cs:List AV),B[b]? = some (.cells false v cs)∧cs[i]? = some nilS∧R args (B.set b (.cells false v (cs.set i (.p (.ls []))))) r B'
noncomputable def ΓC4:Env:=envP [(iCmpE,gCmpE)]
noncomputable def ΔC4:REnv:=envR [(iFill,nilK (liftR OFillG)),(iFFind,liftR OFFind2)]

noncomputable def TSeekL_l1_e (pg:Int) (x:Ent) (s1:(List Ent)):St:=([(0, .ptr 0 0 0),(3, .ptr 1 0 0)],[.cells false 0 ([vi 1,vl (s1.map entE.f), .p (.v (.pointer none)),vi pg,nilS,vi 0]), .cells false 0 ([vs x.key,vn .u64 x.seq,vb x.del,vs x.val])])
noncomputable def TSeekL_l1_x (pg:Int) (x1:(List Ent)):AE×St:=((.exit 3),([(0, .ptr 0 0 0)],[.cells false 0 ([vi 1,vl (x1.map entE.f), .p (.v (.pointer none)),vi pg,nilS,vi 0])]))
noncomputable def TSeekL_l1_b (pg:Int) (x:Ent) (s1:(List Ent)):Tree:=
.any (.int 91 ((s1.map entE.f).length:Int) (s1.length:Int) (.sp 92 (decide ((s1.length:Int)>(0:Int))) (
.elem 98 (s1.map entE.f) entE s1 0 (fun e1=> .call 101 (gCmpE [(entE.av e1),(entE.av x)]=some (vi (cmpE e1 x))) (vi (cmpE e1 x)) (.sp 102 (decide ((cmpE e1 x)<(0:Int))) (
.cut 109 (s1.map entE.f) (some 1) none entE s1 (.callr (some 113) (ΔC4 29 [.ptr 0 0 0] [.cells false 0 ([vi 1,vl ((cutL (some 1) none s1).map entE.f), .p (.v (.pointer none)),vi pg,nilS,vi 0]), .cells false 0 ([vs x.key,vn .u64 x.seq,vb x.del,vs x.val])] (vi 0) [.cells false 0 ([vi 1,vl ((cutL (some 1) none s1).map entE.f), .p (.v (.pointer none)),vi pg,nilS,vi 0]), .cells false 0 ([vs x.key,vn .u64 x.seq,vb x.del,vs x.val])]) (vi 0) [.cells false 0 ([vi 1,vl ((cutL (some 1) none s1).map entE.f), .p (.v (.pointer none)),vi pg,nilS,vi 0]), .cells false 0 ([vs x.key,vn .u64 x.seq,vb x.del,vs x.val])] (.leaf ⟨[0,3],[(0,0,none),(1,0,none)]⟩ [] .normal (some (TSeekL_l1_e pg x (cutL (some 1) none s1)))))) (
.leaf ⟨[0],[(0,0,none)]⟩ [] (.exit 3) (some (TSeekL_l1_x pg s1).2))))) (
.leaf ⟨[0],[(0,0,none)]⟩ [] (.exit 3) (some (TSeekL_l1_x pg s1).2))))
noncomputable def TSeekL (L:List Ent) (pg:Int) (x:Ent):Tree:=
.loop ⟨[0,3],[(0,0,none),(1,0,none)]⟩ [] (some (TSeekL_l1_e pg x L)) (TSeekL_l1_e pg x) (TSeekL_l1_x pg) noX L (TSeekL_l1_b pg x) (fun (x1:(List Ent))=> .leaf ⟨[0],[(0,0,none)]⟩ [] .ret (some ([(0,vi 0)],[.cells false 0 ([vi 1,vl (x1.map entE.f), .p (.v (.pointer none)),vi pg,nilS,vi 0])]))) (fun _=> .stuck)

theorem TSeekL_chk (L:List Ent) (pg:Int) (x:Ent):fnC DP ΓC4 ΔC4 Tryd.f18 [.ptr 0 0 0,(entE.av x)] [.cells false 0 ([vi 1,vl (L.map entE.f), .p (.v (.pointer none)),vi pg,nilS,vi 0])] (TSeekL L pg x)=TSeekL L pg x:=by kernel_rfl

noncomputable def TSeekF_j1_e (D:Dsk) (nm:ByteArray) (F:FileR) (x:Ent) (j1:(List Ent)×Int):St:=([(0, .ptr 2 0 0),(3, .ptr 3 0 0)],[.obj [] (diskP D), .cells false 0 ([.op 0,vs nm,vl (F.idx.map parE.f),vl (F.bits.map byteE.f),vi F.cnt,vs F.low,vs F.high]), .cells false 0 ([vi 2,vl (j1.1.map entE.f), .ptr 1 0 0,vi j1.2,nilS,vi 0]), .cells false 0 ([vs x.key,vn .u64 x.seq,vb x.del,vs x.val])])
noncomputable def TSeekF_l2_e (D:Dsk) (nm:ByteArray) (F:FileR) (x:Ent) (s2:(List Ent)×Int):St:=([(0, .ptr 2 0 0),(3, .ptr 3 0 0)],[.obj [] (diskP D), .cells false 0 ([.op 0,vs nm,vl (F.idx.map parE.f),vl (F.bits.map byteE.f),vi F.cnt,vs F.low,vs F.high]), .cells false 0 ([vi 2,vl (s2.1.map entE.f), .ptr 1 0 0,vi s2.2,nilS,vi 0]), .cells false 0 ([vs x.key,vn .u64 x.seq,vb x.del,vs x.val])])
noncomputable def TSeekF_l2_x (D:Dsk) (nm:ByteArray) (F:FileR) (x2:(List Ent)×Int):AE×St:=((.exit 3),([(0, .ptr 2 0 0)],[.obj [] (diskP D), .cells false 0 ([.op 0,vs nm,vl (F.idx.map parE.f),vl (F.bits.map byteE.f),vi F.cnt,vs F.low,vs F.high]), .cells false 0 ([vi 2,vl (x2.1.map entE.f), .ptr 1 0 0,vi x2.2,nilS,vi 0])]))
noncomputable def TSeekF_j3_e (D:Dsk) (nm:ByteArray) (F:FileR) (x:Ent) (s2:(List Ent)×Int) (j3:Bool):St:=([(0, .ptr 2 0 0),(3, .ptr 3 0 0),(103,vb j3)],[.obj [] (diskP D), .cells false 0 ([.op 0,vs nm,vl (F.idx.map parE.f),vl (F.bits.map byteE.f),vi F.cnt,vs F.low,vs F.high]), .cells false 0 ([vi 2,vl (s2.1.map entE.f), .ptr 1 0 0,vi s2.2,nilS,vi 0]), .cells false 0 ([vs x.key,vn .u64 x.seq,vb x.del,vs x.val])])
noncomputable def TSeekF_j3 (D:Dsk) (nm:ByteArray) (F:FileR) (x:Ent) (s2:(List Ent)×Int) (j3:Bool):Tree:=
.br j3 (
.cut 109 (s2.1.map entE.f) (some 1) none entE s2.1 (.callr (some 113) (ΔC4 29 [.ptr 2 0 0] [.obj [] (diskP D), .cells false 0 ([.op 0,vs nm,vl (F.idx.map parE.f),vl (F.bits.map byteE.f),vi F.cnt,vs F.low,vs F.high]), .cells false 0 ([vi 2,vl ((cutL (some 1) none s2.1).map entE.f), .ptr 1 0 0,vi s2.2,nilS,vi 0]), .cells false 0 ([vs x.key,vn .u64 x.seq,vb x.del,vs x.val])] (vi 0) [.obj [] (diskP D), .cells false 0 ([.op 0,vs nm,vl (F.idx.map parE.f),vl (F.bits.map byteE.f),vi F.cnt,vs F.low,vs F.high]), .cells false 0 ([vi 2,vl (((fillG (pfC D nm F) (cutL (some 1) none s2.1,s2.2)).1).map entE.f), .ptr 1 0 0,vi ((fillG (pfC D nm F) (cutL (some 1) none s2.1,s2.2)).2),nilS,vi 0]), .cells false 0 ([vs x.key,vn .u64 x.seq,vb x.del,vs x.val])]) (vi 0) [.obj [] (diskP D), .cells false 0 ([.op 0,vs nm,vl (F.idx.map parE.f),vl (F.bits.map byteE.f),vi F.cnt,vs F.low,vs F.high]), .cells false 0 ([vi 2,vl (((fillG (pfC D nm F) (cutL (some 1) none s2.1,s2.2)).1).map entE.f), .ptr 1 0 0,vi ((fillG (pfC D nm F) (cutL (some 1) none s2.1,s2.2)).2),nilS,vi 0]), .cells false 0 ([vs x.key,vn .u64 x.seq,vb x.del,vs x.val])] (.leaf ⟨[0,3],[(0,0,none),(1,0,none),(2,0,none),(3,0,none)]⟩ [] .normal (some (TSeekF_l2_e D nm F x ((fillG (pfC D nm F) (cutL (some 1) none s2.1,s2.2)).1,(fillG (pfC D nm F) (cutL (some 1) none s2.1,s2.2)).2)))))) (
.leaf ⟨[0],[(0,0,none),(1,0,none),(2,0,none)]⟩ [] (.exit 3) (some (TSeekF_l2_x D nm F (s2.1,s2.2)).2))
noncomputable def TSeekF_l2_b (D:Dsk) (nm:ByteArray) (F:FileR) (x:Ent) (s2:(List Ent)×Int):Tree:=
.any (.int 91 ((s2.1.map entE.f).length:Int) (s2.1.length:Int) (.sp 92 (decide ((s2.1.length:Int)>(0:Int))) (
.elem 98 (s2.1.map entE.f) entE s2.1 0 (fun e1=> .call 101 (gCmpE [(entE.av e1),(entE.av x)]=some (vi (cmpE e1 x))) (vi (cmpE e1 x)) (.sp 102 (decide ((cmpE e1 x)<(0:Int))) (
.join ⟨[0,3,103],[(0,0,none),(1,0,none),(2,0,none),(3,0,none)]⟩ [] (some (TSeekF_j3_e D nm F x s2 true)) (TSeekF_j3_e D nm F x s2) true (TSeekF_j3 D nm F x s2)) (
.join ⟨[0,3,103],[(0,0,none),(1,0,none),(2,0,none),(3,0,none)]⟩ [] (some (TSeekF_j3_e D nm F x s2 false)) (TSeekF_j3_e D nm F x s2) false (TSeekF_j3 D nm F x s2))))) (
.join ⟨[0,3,103],[(0,0,none),(1,0,none),(2,0,none),(3,0,none)]⟩ [] (some (TSeekF_j3_e D nm F x s2 false)) (TSeekF_j3_e D nm F x s2) false (TSeekF_j3 D nm F x s2))))
noncomputable def TSeekF_j1 (D:Dsk) (nm:ByteArray) (F:FileR) (x:Ent) (j1:(List Ent)×Int):Tree:=
.loop ⟨[0,3],[(0,0,none),(1,0,none),(2,0,none),(3,0,none)]⟩ [] (some (TSeekF_l2_e D nm F x (j1.1,j1.2))) (TSeekF_l2_e D nm F x) (TSeekF_l2_x D nm F) noX (j1.1,j1.2) (TSeekF_l2_b D nm F x) (fun (x2:(List Ent)×Int)=> .leaf ⟨[0],[(0,0,none),(1,0,none),(2,0,none)]⟩ [] .ret (some ([(0,vi 0)],[.obj [] (diskP D), .cells false 0 ([.op 0,vs nm,vl (F.idx.map parE.f),vl (F.bits.map byteE.f),vi F.cnt,vs F.low,vs F.high]), .cells false 0 ([vi 2,vl (x2.1.map entE.f), .ptr 1 0 0,vi x2.2,nilS,vi 0])]))) (fun _=> .stuck)
noncomputable def TSeekF_j5_e (D:Dsk) (nm:ByteArray) (F:FileR) (L:List Ent) (pg:Int) (x:Ent) (j5:Bool):St:=([(0, .ptr 2 0 0),(3, .ptr 3 0 0),(38,vb j5)],[.obj [] (diskP D), .cells false 0 ([.op 0,vs nm,vl (F.idx.map parE.f),vl (F.bits.map byteE.f),vi F.cnt,vs F.low,vs F.high]), .cells false 0 ([vi 2,vl (L.map entE.f), .ptr 1 0 0,vi pg,nilS,vi 0]), .cells false 0 ([vs x.key,vn .u64 x.seq,vb x.del,vs x.val])])
noncomputable def TSeekF_j6_e (D:Dsk) (nm:ByteArray) (F:FileR) (pg:Int) (x:Ent) (j6:Unit):St:=([(0, .ptr 2 0 0),(3, .ptr 3 0 0)],[.obj [] (diskP D), .cells false 0 ([.op 0,vs nm,vl (F.idx.map parE.f),vl (F.bits.map byteE.f),vi F.cnt,vs F.low,vs F.high]), .cells false 0 ([vi 2,nilS, .ptr 1 0 0,vi (if (pg:Int)<(((findI F.idx x:Nat):Int):Int) then (((findI F.idx x:Nat):Int):Int) else (pg:Int)),nilS,vi 0]), .cells false 0 ([vs x.key,vn .u64 x.seq,vb x.del,vs x.val])])
noncomputable def TSeekF_j6 (D:Dsk) (nm:ByteArray) (F:FileR) (pg:Int) (x:Ent) (j6:Unit):Tree:=
.callr (some 63) (ΔC4 29 [.ptr 2 0 0] [.obj [] (diskP D), .cells false 0 ([.op 0,vs nm,vl (F.idx.map parE.f),vl (F.bits.map byteE.f),vi F.cnt,vs F.low,vs F.high]), .cells false 0 ([vi 2,nilS, .ptr 1 0 0,vi (if (pg:Int)<(((findI F.idx x:Nat):Int):Int) then (((findI F.idx x:Nat):Int):Int) else (pg:Int)),nilS,vi 0]), .cells false 0 ([vs x.key,vn .u64 x.seq,vb x.del,vs x.val])] (vi 0) [.obj [] (diskP D), .cells false 0 ([.op 0,vs nm,vl (F.idx.map parE.f),vl (F.bits.map byteE.f),vi F.cnt,vs F.low,vs F.high]), .cells false 0 ([vi 2,vl (((fillG (pfC D nm F) ([],(if (pg:Int)<(((findI F.idx x:Nat):Int):Int) then (((findI F.idx x:Nat):Int):Int) else (pg:Int)))).1).map entE.f), .ptr 1 0 0,vi ((fillG (pfC D nm F) ([],(if (pg:Int)<(((findI F.idx x:Nat):Int):Int) then (((findI F.idx x:Nat):Int):Int) else (pg:Int)))).2),nilS,vi 0]), .cells false 0 ([vs x.key,vn .u64 x.seq,vb x.del,vs x.val])]) (vi 0) [.obj [] (diskP D), .cells false 0 ([.op 0,vs nm,vl (F.idx.map parE.f),vl (F.bits.map byteE.f),vi F.cnt,vs F.low,vs F.high]), .cells false 0 ([vi 2,vl (((fillG (pfC D nm F) ([],(if (pg:Int)<(((findI F.idx x:Nat):Int):Int) then (((findI F.idx x:Nat):Int):Int) else (pg:Int)))).1).map entE.f), .ptr 1 0 0,vi ((fillG (pfC D nm F) ([],(if (pg:Int)<(((findI F.idx x:Nat):Int):Int) then (((findI F.idx x:Nat):Int):Int) else (pg:Int)))).2),nilS,vi 0]), .cells false 0 ([vs x.key,vn .u64 x.seq,vb x.del,vs x.val])] (.go (.go (.join ⟨[0,3],[(0,0,none),(1,0,none),(2,0,none),(3,0,none)]⟩ [] (some (TSeekF_j1_e D nm F x ((fillG (pfC D nm F) ([],(if (pg:Int)<(((findI F.idx x:Nat):Int):Int) then (((findI F.idx x:Nat):Int):Int) else (pg:Int)))).1,(fillG (pfC D nm F) ([],(if (pg:Int)<(((findI F.idx x:Nat):Int):Int) then (((findI F.idx x:Nat):Int):Int) else (pg:Int)))).2))) (TSeekF_j1_e D nm F x) ((fillG (pfC D nm F) ([],(if (pg:Int)<(((findI F.idx x:Nat):Int):Int) then (((findI F.idx x:Nat):Int):Int) else (pg:Int)))).1,(fillG (pfC D nm F) ([],(if (pg:Int)<(((findI F.idx x:Nat):Int):Int) then (((findI F.idx x:Nat):Int):Int) else (pg:Int)))).2) (TSeekF_j1 D nm F x))))
noncomputable def TSeekF_j7_e (D:Dsk) (nm:ByteArray) (F:FileR) (L:List Ent) (x:Ent) (j7:Int):St:=([(0, .ptr 2 0 0),(3, .ptr 3 0 0)],[.obj [] (diskP D), .cells false 0 ([.op 0,vs nm,vl (F.idx.map parE.f),vl (F.bits.map byteE.f),vi F.cnt,vs F.low,vs F.high]), .cells false 0 ([vi 2,vl (L.map entE.f), .ptr 1 0 0,vi j7,nilS,vi 0]), .cells false 0 ([vs x.key,vn .u64 x.seq,vb x.del,vs x.val])])
noncomputable def TSeekF_j7 (D:Dsk) (nm:ByteArray) (F:FileR) (L:List Ent) (x:Ent) (j7:Int):Tree:=
.callr (some 63) (ΔC4 29 [.ptr 2 0 0] [.obj [] (diskP D), .cells false 0 ([.op 0,vs nm,vl (F.idx.map parE.f),vl (F.bits.map byteE.f),vi F.cnt,vs F.low,vs F.high]), .cells false 0 ([vi 2,vl (L.map entE.f), .ptr 1 0 0,vi j7,nilS,vi 0]), .cells false 0 ([vs x.key,vn .u64 x.seq,vb x.del,vs x.val])] (vi 0) [.obj [] (diskP D), .cells false 0 ([.op 0,vs nm,vl (F.idx.map parE.f),vl (F.bits.map byteE.f),vi F.cnt,vs F.low,vs F.high]), .cells false 0 ([vi 2,vl (((fillG (pfC D nm F) (L,j7)).1).map entE.f), .ptr 1 0 0,vi ((fillG (pfC D nm F) (L,j7)).2),nilS,vi 0]), .cells false 0 ([vs x.key,vn .u64 x.seq,vb x.del,vs x.val])]) (vi 0) [.obj [] (diskP D), .cells false 0 ([.op 0,vs nm,vl (F.idx.map parE.f),vl (F.bits.map byteE.f),vi F.cnt,vs F.low,vs F.high]), .cells false 0 ([vi 2,vl (((fillG (pfC D nm F) (L,j7)).1).map entE.f), .ptr 1 0 0,vi ((fillG (pfC D nm F) (L,j7)).2),nilS,vi 0]), .cells false 0 ([vs x.key,vn .u64 x.seq,vb x.del,vs x.val])] (.go (.go (.join ⟨[0,3],[(0,0,none),(1,0,none),(2,0,none),(3,0,none)]⟩ [] (some (TSeekF_j1_e D nm F x ((fillG (pfC D nm F) (L,j7)).1,(fillG (pfC D nm F) (L,j7)).2))) (TSeekF_j1_e D nm F x) ((fillG (pfC D nm F) (L,j7)).1,(fillG (pfC D nm F) (L,j7)).2) (TSeekF_j1 D nm F x))))
noncomputable def TSeekF_j5 (D:Dsk) (nm:ByteArray) (F:FileR) (L:List Ent) (pg:Int) (x:Ent) (j5:Bool):Tree:=
.br j5 (
.any (.fork (
.callr (some 58) (ΔC4 30 [.ptr 1 0 0,(entE.av x)] [.obj [] (diskP D), .cells false 0 ([.op 0,vs nm,vl (F.idx.map parE.f),vl (F.bits.map byteE.f),vi F.cnt,vs F.low,vs F.high]), .cells false 0 ([vi 2,nilS, .ptr 1 0 0,vi pg,nilS,vi 0]), .cells false 0 ([vs x.key,vn .u64 x.seq,vb x.del,vs x.val])] (vi ((findI F.idx x:Nat):Int)) [.obj [] (diskP D), .cells false 0 ([.op 0,vs nm,vl (F.idx.map parE.f),vl (F.bits.map byteE.f),vi F.cnt,vs F.low,vs F.high]), .cells false 0 ([vi 2,nilS, .ptr 1 0 0,vi pg,nilS,vi 0]), .cells false 0 ([vs x.key,vn .u64 x.seq,vb x.del,vs x.val])]) (vi ((findI F.idx x:Nat):Int)) [.obj [] (diskP D), .cells false 0 ([.op 0,vs nm,vl (F.idx.map parE.f),vl (F.bits.map byteE.f),vi F.cnt,vs F.low,vs F.high]), .cells false 0 ([vi 2,nilS, .ptr 1 0 0,vi pg,nilS,vi 0]), .cells false 0 ([vs x.key,vn .u64 x.seq,vb x.del,vs x.val])] (.join ⟨[0,3],[(0,0,none),(1,0,none),(2,0,none),(3,0,none)]⟩ [] (some (TSeekF_j6_e D nm F pg x ())) (TSeekF_j6_e D nm F pg x) () (TSeekF_j6 D nm F pg x))) (
.callr (some 58) (ΔC4 30 [.ptr 1 0 0,(entE.av x)] [.obj [] (diskP D), .cells false 0 ([.op 0,vs nm,vl (F.idx.map parE.f),vl (F.bits.map byteE.f),vi F.cnt,vs F.low,vs F.high]), .cells false 0 ([vi 2,nilS, .ptr 1 0 0,vi pg,nilS,vi 0]), .cells false 0 ([vs x.key,vn .u64 x.seq,vb x.del,vs x.val])] (vi ((findI F.idx x:Nat):Int)) [.obj [] (diskP D), .cells false 0 ([.op 0,vs nm,vl (F.idx.map parE.f),vl (F.bits.map byteE.f),vi F.cnt,vs F.low,vs F.high]), .cells false 0 ([vi 2,nilS, .ptr 1 0 0,vi pg,nilS,vi 0]), .cells false 0 ([vs x.key,vn .u64 x.seq,vb x.del,vs x.val])]) (vi ((findI F.idx x:Nat):Int)) [.obj [] (diskP D), .cells false 0 ([.op 0,vs nm,vl (F.idx.map parE.f),vl (F.bits.map byteE.f),vi F.cnt,vs F.low,vs F.high]), .cells false 0 ([vi 2,nilS, .ptr 1 0 0,vi pg,nilS,vi 0]), .cells false 0 ([vs x.key,vn .u64 x.seq,vb x.del,vs x.val])] (.join ⟨[0,3],[(0,0,none),(1,0,none),(2,0,none),(3,0,none)]⟩ [] (some (TSeekF_j6_e D nm F pg x ())) (TSeekF_j6_e D nm F pg x) () (TSeekF_j6 D nm F pg x))))) (
.int 46 ((L.map entE.f).length:Int) (L.length:Int) (.sp 47 ((L.length:Int) == (0:Int)) (
.any (.fork (
.callr (some 58) (ΔC4 30 [.ptr 1 0 0,(entE.av x)] [.obj [] (diskP D), .cells false 0 ([.op 0,vs nm,vl (F.idx.map parE.f),vl (F.bits.map byteE.f),vi F.cnt,vs F.low,vs F.high]), .cells false 0 ([vi 2,vl (L.map entE.f), .ptr 1 0 0,vi pg,nilS,vi 0]), .cells false 0 ([vs x.key,vn .u64 x.seq,vb x.del,vs x.val])] (vi ((findI F.idx x:Nat):Int)) [.obj [] (diskP D), .cells false 0 ([.op 0,vs nm,vl (F.idx.map parE.f),vl (F.bits.map byteE.f),vi F.cnt,vs F.low,vs F.high]), .cells false 0 ([vi 2,vl (L.map entE.f), .ptr 1 0 0,vi pg,nilS,vi 0]), .cells false 0 ([vs x.key,vn .u64 x.seq,vb x.del,vs x.val])]) (vi ((findI F.idx x:Nat):Int)) [.obj [] (diskP D), .cells false 0 ([.op 0,vs nm,vl (F.idx.map parE.f),vl (F.bits.map byteE.f),vi F.cnt,vs F.low,vs F.high]), .cells false 0 ([vi 2,vl (L.map entE.f), .ptr 1 0 0,vi pg,nilS,vi 0]), .cells false 0 ([vs x.key,vn .u64 x.seq,vb x.del,vs x.val])] (.join ⟨[0,3],[(0,0,none),(1,0,none),(2,0,none),(3,0,none)]⟩ [] (some (TSeekF_j7_e D nm F L x (if (pg:Int)<(((findI F.idx x:Nat):Int):Int) then (((findI F.idx x:Nat):Int):Int) else (pg:Int)))) (TSeekF_j7_e D nm F L x) (if (pg:Int)<(((findI F.idx x:Nat):Int):Int) then (((findI F.idx x:Nat):Int):Int) else (pg:Int)) (TSeekF_j7 D nm F L x))) (
.callr (some 58) (ΔC4 30 [.ptr 1 0 0,(entE.av x)] [.obj [] (diskP D), .cells false 0 ([.op 0,vs nm,vl (F.idx.map parE.f),vl (F.bits.map byteE.f),vi F.cnt,vs F.low,vs F.high]), .cells false 0 ([vi 2,vl (L.map entE.f), .ptr 1 0 0,vi pg,nilS,vi 0]), .cells false 0 ([vs x.key,vn .u64 x.seq,vb x.del,vs x.val])] (vi ((findI F.idx x:Nat):Int)) [.obj [] (diskP D), .cells false 0 ([.op 0,vs nm,vl (F.idx.map parE.f),vl (F.bits.map byteE.f),vi F.cnt,vs F.low,vs F.high]), .cells false 0 ([vi 2,vl (L.map entE.f), .ptr 1 0 0,vi pg,nilS,vi 0]), .cells false 0 ([vs x.key,vn .u64 x.seq,vb x.del,vs x.val])]) (vi ((findI F.idx x:Nat):Int)) [.obj [] (diskP D), .cells false 0 ([.op 0,vs nm,vl (F.idx.map parE.f),vl (F.bits.map byteE.f),vi F.cnt,vs F.low,vs F.high]), .cells false 0 ([vi 2,vl (L.map entE.f), .ptr 1 0 0,vi pg,nilS,vi 0]), .cells false 0 ([vs x.key,vn .u64 x.seq,vb x.del,vs x.val])] (.join ⟨[0,3],[(0,0,none),(1,0,none),(2,0,none),(3,0,none)]⟩ [] (some (TSeekF_j7_e D nm F L x (if (pg:Int)<(((findI F.idx x:Nat):Int):Int) then (((findI F.idx x:Nat):Int):Int) else (pg:Int)))) (TSeekF_j7_e D nm F L x) (if (pg:Int)<(((findI F.idx x:Nat):Int):Int) then (((findI F.idx x:Nat):Int):Int) else (pg:Int)) (TSeekF_j7 D nm F L x))))) (
.go (.join ⟨[0,3],[(0,0,none),(1,0,none),(2,0,none),(3,0,none)]⟩ [] (some (TSeekF_j7_e D nm F L x pg)) (TSeekF_j7_e D nm F L x) pg (TSeekF_j7 D nm F L x)))))
noncomputable def TSeekF (D:Dsk) (nm:ByteArray) (F:FileR) (L:List Ent) (pg:Int) (x:Ent):Tree:=
.int 23 ((L.map entE.f).length:Int) (L.length:Int) (.any (.sp 25 (decide ((L.length:Int)>(0:Int))) (
.int 32 (IntKind.i64.wrap ((L.length:Int) - 1)) ((L.length:Int) - 1) (.elem 33 (L.map entE.f) entE L ((L.length:Int) - 1) (fun e2=> .call 36 (gCmpE [(entE.av e2),(entE.av x)]=some (vi (cmpE e2 x))) (vi (cmpE e2 x)) (.sp 37 (decide ((cmpE e2 x)<(0:Int))) (
.join ⟨[0,3,38],[(0,0,none),(1,0,none),(2,0,none),(3,0,none)]⟩ [] (some (TSeekF_j5_e D nm F L pg x true)) (TSeekF_j5_e D nm F L pg x) true (TSeekF_j5 D nm F L pg x)) (
.join ⟨[0,3,38],[(0,0,none),(1,0,none),(2,0,none),(3,0,none)]⟩ [] (some (TSeekF_j5_e D nm F L pg x false)) (TSeekF_j5_e D nm F L pg x) false (TSeekF_j5 D nm F L pg x)))))) (
.join ⟨[0,3,38],[(0,0,none),(1,0,none),(2,0,none),(3,0,none)]⟩ [] (some (TSeekF_j5_e D nm F L pg x false)) (TSeekF_j5_e D nm F L pg x) false (TSeekF_j5 D nm F L pg x))))

theorem TSeekF_chk (D:Dsk) (nm:ByteArray) (F:FileR) (L:List Ent) (pg:Int) (x:Ent):fnC DP ΓC4 ΔC4 Tryd.f18 [.ptr 2 0 0,(entE.av x)] [.obj [] (diskP D), .cells false 0 ([.op 0,vs nm,vl (F.idx.map parE.f),vl (F.bits.map byteE.f),vi F.cnt,vs F.low,vs F.high]), .cells false 0 ([vi 2,vl (L.map entE.f), .ptr 1 0 0,vi pg,nilS,vi 0])] (TSeekF D nm F L pg x)=TSeekF D nm F L pg x:=by kernel_rfl

end Go.Ax
