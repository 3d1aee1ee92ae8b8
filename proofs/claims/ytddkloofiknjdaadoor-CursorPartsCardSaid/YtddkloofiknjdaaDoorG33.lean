/- Several cursors beneath one: their boxes; what a round comes to, whatever the boxes are. -/
import Derived.Test.YtddkloofiknjdaaDoorG32
set_option linter.unusedVariables false
set_option linter.unusedSimpArgs false
set_option linter.unusedSectionVars false
namespace Go.Ax
open Go.Proofs Go.RowKit
set_option maxRecDepth 100000

structure LeafD where
 c:Cur
 nm:ByteArray
 F:FileR
abbrev LeafD.put (x:LeafD) (c:Cur):LeafD:=⟨c,x.nm,x.F⟩
def nFil:List Bool→Nat
 | []=>0
 | true::ks=>nFil ks+1
 | false::ks=>nFil ks
def leafsC:List Bool→List LeafD→Nat→List Box
 | true::ks,x::xs,f=>curB 2 (.ptr f 0 0) x.c::leafsC ks xs (f+1)
 | false::ks,x::xs,f=>curB 1 nilQ x.c::leafsC ks xs f
 | _,_,_=> []
def flsC:List Bool→List LeafD→Nat→List Box
 | true::ks,x::xs,d=>filC d x.nm x.F::flsC ks xs d
 | false::ks,_::xs,d=>flsC ks xs d
 | _,_,_=> []
def diskC (ks:List Bool) (D:Dsk):List Box:=match nFil ks with
 | 0=> []
 | _=> [dskB D]
abbrev manyB (n:Nat):Box:= .cells false 0 [vi 3,nilS,nilQ,vi 0, .rs 1 0 1 0 n,vi 0]
abbrev allB (n:Nat):Box:= .cells true 0 ((List.range n).map fun j=> .ptr (2+j) 0 0)
def famC (ks:List Bool) (xs:List LeafD) (D:Dsk):List Box:=manyB ks.length::allB ks.length::(leafsC ks xs (2+ks.length)++(flsC ks xs (2+ks.length+nFil ks)++diskC ks D))
abbrev ebx (e:Ent):Box:= .cells false 0 [vs e.key,vn .u64 e.seq,vb e.del,vs e.val]
def wdN (sl:List Nat) (k:Nat):Wd:=⟨sl,(List.range k).map fun j=>(j,0,none)⟩
abbrev fSl (m n i:Nat) (a:Int):List (Nat×AV):= [(0, .ptr 0 0 0),(3, .ptr m 0 0),(5,vi a),(6, .ptr (m+1) 0 0),(15, .rs 1 0 1 0 n),(16,vi (n:Int)),(17,vi (i:Int))]
noncomputable abbrev cFl:Code:=nav [true,true,true,false,true,false] (bodyOf nFirst)
noncomputable abbrev cFb:Code:=nav [true,true,true,false,true,false,false] (bodyOf nFirst)
noncomputable abbrev cSl:Code:=nav [true,true,false,true,false,true,true,true,false,false,true,false] (bodyOf nSeek)
noncomputable abbrev cSb:Code:=nav [true,true,false,true,false,true,true,true,false,false,true,false,false] (bodyOf nSeek)
noncomputable def ΓC1:Env:=envP [(iCmpE,gCmpE)]
noncomputable def ΔC1:REnv:=envR [(iPeek,liftR OPeek)]
noncomputable def TFb (B B':List Box) (m n i:Nat) (a:Int) (best x:Ent) (o:Bool):Tree:=
.callr (some 24) (ΔC1 iPeek [.ptr (2+i) 0 0] (B++ [ebx noE,ebx best]) (.tup [entE.av x,vb o,vi 0]) (B'++ [ebx noE,ebx best])) (.tup [entE.av x,vb o,vi 0]) (B'++ [ebx noE,ebx best]) (.sp 26 o (
.sp 37 (decide (a<(0:Int))) (
.leaf (wdN [0,3,5,6,15,16,17] (m+2)) [] .normal (some (fSl m n (i+1) i,B'++ [ebx noE,ebx x]))) (
.call 41 (gCmpE [entE.av x,entE.av best]=some (vi (cmpE x best))) (vi (cmpE x best)) (.sp 42 (decide (cmpE x best<(0:Int))) (
.leaf (wdN [0,3,5,6,15,16,17] (m+2)) [] .normal (some (fSl m n (i+1) i,B'++ [ebx noE,ebx x]))) (
.leaf (wdN [0,3,5,6,15,16,17] (m+2)) [] .normal (some (fSl m n (i+1) a,B'++ [ebx noE,ebx best])))))) (
.leaf (wdN [0,3,5,6,15,16,17] (m+2)) [] .normal (some (fSl m n (i+1) a,B'++ [ebx noE,ebx best]))))
noncomputable def TFe (B:List Box) (m:Nat) (a:Int) (best:Ent):Tree:=
.leaf (wdN [0,3,5,6] (m+2)) [] (.exit 0) (some ([(0, .ptr 0 0 0),(3, .ptr m 0 0),(5,vi a),(6, .ptr (m+1) 0 0)],B++ [ebx noE,ebx best]))
noncomputable def TFirst (B B':List Box) (m n:Nat) (a:Int) (best:Ent):Tree:=
.frag none (wdN [0,3,5,6,15,16,17] (m+2)) [] (some (fSl m n 0 (-1),B++ [ebx noE,ebx noE])) (fSl m n 0 (-1),B++ [ebx noE,ebx noE])
 (Tri DP 50 m false cFl (St.as (fSl m n 0 (-1),B++ [ebx noE,ebx noE])) fun e' s'=>e'=(.exit 0)∧s'=St.as ([(0, .ptr 0 0 0),(3, .ptr m 0 0),(5,vi a),(6, .ptr (m+1) 0 0)],B'++ [ebx noE,ebx best]))
 (.exit 0) ([(0, .ptr 0 0 0),(3, .ptr m 0 0),(5,vi a),(6, .ptr (m+1) 0 0)],B'++ [ebx noE,ebx best]) (.leaf (wdN [0] m) [] .ret (some ([(0, .tup [vi a,entE.av best,vi 0])],B')))
def l5 (n:Nat) (x0 x1 x2 x3 x4:LeafD):List LeafD:= [x0,x1,x2,x3,x4].take n
abbrev famL (ks:List Bool):Nat:=2+ks.length+nFil ks+(if nFil ks=0 then 0 else 1)
def updC (B:List Box) (i:Nat) (c:Cur):List Box:=match B[2+i]? with
 | some (.cells r v [k,_,fp,_,n,_])=>B.set (2+i) (.cells r v [k,vl (c.L.map entE.f),fp,vi c.pg,n,vi c.bad])
 | _=>B
def RFb (p:List Bool×Nat):Prop:=∀ (D:Dsk) (x0 x1 x2 x3 x4:LeafD) (c:Cur) (a:Int) (best x:Ent) (o:Bool),
 codeC DP ΓC1 ΔC1 50 (famL p.1) cFb (St.as (fSl (famL p.1) p.1.length p.2 a,famC p.1 (l5 p.1.length x0 x1 x2 x3 x4) D++ [ebx noE,ebx best]))
  (TFb (famC p.1 (l5 p.1.length x0 x1 x2 x3 x4) D) (updC (famC p.1 (l5 p.1.length x0 x1 x2 x3 x4) D) p.2 c) (famL p.1) p.1.length p.2 a best x o) (leafC (famL p.1)) =
  TFb (famC p.1 (l5 p.1.length x0 x1 x2 x3 x4) D) (updC (famC p.1 (l5 p.1.length x0 x1 x2 x3 x4) D) p.2 c) (famL p.1) p.1.length p.2 a best x o
def RFe (ks:List Bool):Prop:=∀ (D:Dsk) (x0 x1 x2 x3 x4:LeafD) (a:Int) (best:Ent),
 codeC DP ΓC1 ΔC1 50 (famL ks) cFb (St.as (fSl (famL ks) ks.length ks.length a,famC ks (l5 ks.length x0 x1 x2 x3 x4) D++ [ebx noE,ebx best]))
  (TFe (famC ks (l5 ks.length x0 x1 x2 x3 x4) D) (famL ks) a best) (leafC (famL ks))=TFe (famC ks (l5 ks.length x0 x1 x2 x3 x4) D) (famL ks) a best
def RFm (ks:List Bool):Prop:=∀ (D:Dsk) (x0 x1 x2 x3 x4 y0 y1 y2 y3 y4:LeafD) (a:Int) (best:Ent),
 fnC DP ΓC1 ΔC1 nFirst [.ptr 0 0 0] (famC ks (l5 ks.length x0 x1 x2 x3 x4) D) (TFirst (famC ks (l5 ks.length x0 x1 x2 x3 x4) D) (famC ks (l5 ks.length y0 y1 y2 y3 y4) D) (famL ks) ks.length a best) =
  TFirst (famC ks (l5 ks.length x0 x1 x2 x3 x4) D) (famC ks (l5 ks.length y0 y1 y2 y3 y4) D) (famL ks) ks.length a best
end Go.Ax

namespace Go.Ax
open Go.Proofs Go.RowKit
set_option maxRecDepth 100000

def allP {α:Type} (P:α→Prop):List α→Prop
 | []=>True
 | a::r=>P a∧allP P r
theorem allP_mem {α:Type} {P:α→Prop}:∀ {l:List α},allP P l→∀ a∈l,P a
 | [],_,a,h=>by cases h
 | b::r,h,a,ha=>by
  rcases List.mem_cons.1 ha with rfl | ha
  ·exact h.1
  ·exact allP_mem h.2 a ha
def shapesM:List (List Bool):= [[false],[false,false],[false,true],[false,false,false],[false,true,false],[false,false,false,false],[false,true,false,false],[false,false,false,true],[false,true,false,true],[false,false,false,false,false],[false,true,false,false,false],[false,false,false,true,false],[false,true,false,true,false]]
def pairsM:List (List Bool×Nat):= [([false],0),([false,false],0),([false,false],1),([false,true],0),([false,true],1),([false,false,false],0),([false,false,false],1),([false,false,false],2),([false,true,false],0),([false,true,false],1),([false,true,false],2),([false,false,false,false],0),([false,false,false,false],1),([false,false,false,false],2),([false,false,false,false],3),([false,true,false,false],0),([false,true,false,false],1),([false,true,false,false],2),([false,true,false,false],3),([false,false,false,true],0),([false,false,false,true],1),([false,false,false,true],2),([false,false,false,true],3),([false,true,false,true],0),([false,true,false,true],1),([false,true,false,true],2),([false,true,false,true],3),([false,false,false,false,false],0),([false,false,false,false,false],1),([false,false,false,false,false],2),([false,false,false,false,false],3),([false,false,false,false,false],4),([false,true,false,false,false],0),([false,true,false,false,false],1),([false,true,false,false,false],2),([false,true,false,false,false],3),([false,true,false,false,false],4),([false,false,false,true,false],0),([false,false,false,true,false],1),([false,false,false,true,false],2),([false,false,false,true,false],3),([false,false,false,true,false],4),([false,true,false,true,false],0),([false,true,false,true,false],1),([false,true,false,true,false],2),([false,true,false,true,false],3),([false,true,false,true,false],4)]
theorem pairs_mem:∀ ks∈shapesM,∀ i<ks.length,(ks,i)∈pairsM:=by decide
theorem shape_len:∀ ks∈shapesM,ks.length≤5:=by decide
theorem allFb:allP RFb pairsM:=⟨by intro D x0 x1 x2 x3 x4 c a best x o; kernel_rfl,by intro D x0 x1 x2 x3 x4 c a best x o; kernel_rfl,by intro D x0 x1 x2 x3 x4 c a best x o; kernel_rfl,by intro D x0 x1 x2 x3 x4 c a best x o; kernel_rfl,by intro D x0 x1 x2 x3 x4 c a best x o; kernel_rfl,by intro D x0 x1 x2 x3 x4 c a best x o; kernel_rfl,by intro D x0 x1 x2 x3 x4 c a best x o; kernel_rfl,by intro D x0 x1 x2 x3 x4 c a best x o; kernel_rfl,by intro D x0 x1 x2 x3 x4 c a best x o; kernel_rfl,by intro D x0 x1 x2 x3 x4 c a best x o; kernel_rfl,by intro D x0 x1 x2 x3 x4 c a best x o; kernel_rfl,by intro D x0 x1 x2 x3 x4 c a best x o; kernel_rfl,by intro D x0 x1 x2 x3 x4 c a best x o; kernel_rfl,by intro D x0 x1 x2 x3 x4 c a best x o; kernel_rfl,by intro D x0 x1 x2 x3 x4 c a best x o; kernel_rfl,by intro D x0 x1 x2 x3 x4 c a best x o; kernel_rfl,by intro D x0 x1 x2 x3 x4 c a best x o; kernel_rfl,by intro D x0 x1 x2 x3 x4 c a best x o; kernel_rfl,by intro D x0 x1 x2 x3 x4 c a best x o; kernel_rfl,by intro D x0 x1 x2 x3 x4 c a best x o; kernel_rfl,by intro D x0 x1 x2 x3 x4 c a best x o; kernel_rfl,by intro D x0 x1 x2 x3 x4 c a best x o; kernel_rfl,by intro D x0 x1 x2 x3 x4 c a best x o; kernel_rfl,by intro D x0 x1 x2 x3 x4 c a best x o; kernel_rfl,by intro D x0 x1 x2 x3 x4 c a best x o; kernel_rfl,by intro D x0 x1 x2 x3 x4 c a best x o; kernel_rfl,by intro D x0 x1 x2 x3 x4 c a best x o; kernel_rfl,by intro D x0 x1 x2 x3 x4 c a best x o; kernel_rfl,by intro D x0 x1 x2 x3 x4 c a best x o; kernel_rfl,by intro D x0 x1 x2 x3 x4 c a best x o; kernel_rfl,by intro D x0 x1 x2 x3 x4 c a best x o; kernel_rfl,by intro D x0 x1 x2 x3 x4 c a best x o; kernel_rfl,by intro D x0 x1 x2 x3 x4 c a best x o; kernel_rfl,by intro D x0 x1 x2 x3 x4 c a best x o; kernel_rfl,by intro D x0 x1 x2 x3 x4 c a best x o; kernel_rfl,by intro D x0 x1 x2 x3 x4 c a best x o; kernel_rfl,by intro D x0 x1 x2 x3 x4 c a best x o; kernel_rfl,by intro D x0 x1 x2 x3 x4 c a best x o; kernel_rfl,by intro D x0 x1 x2 x3 x4 c a best x o; kernel_rfl,by intro D x0 x1 x2 x3 x4 c a best x o; kernel_rfl,by intro D x0 x1 x2 x3 x4 c a best x o; kernel_rfl,by intro D x0 x1 x2 x3 x4 c a best x o; kernel_rfl,by intro D x0 x1 x2 x3 x4 c a best x o; kernel_rfl,by intro D x0 x1 x2 x3 x4 c a best x o; kernel_rfl,by intro D x0 x1 x2 x3 x4 c a best x o; kernel_rfl,by intro D x0 x1 x2 x3 x4 c a best x o; kernel_rfl,by intro D x0 x1 x2 x3 x4 c a best x o; kernel_rfl,trivial⟩
theorem allFe:allP RFe shapesM:=⟨by intro D x0 x1 x2 x3 x4 a best; kernel_rfl,by intro D x0 x1 x2 x3 x4 a best; kernel_rfl,by intro D x0 x1 x2 x3 x4 a best; kernel_rfl,by intro D x0 x1 x2 x3 x4 a best; kernel_rfl,by intro D x0 x1 x2 x3 x4 a best; kernel_rfl,by intro D x0 x1 x2 x3 x4 a best; kernel_rfl,by intro D x0 x1 x2 x3 x4 a best; kernel_rfl,by intro D x0 x1 x2 x3 x4 a best; kernel_rfl,by intro D x0 x1 x2 x3 x4 a best; kernel_rfl,by intro D x0 x1 x2 x3 x4 a best; kernel_rfl,by intro D x0 x1 x2 x3 x4 a best; kernel_rfl,by intro D x0 x1 x2 x3 x4 a best; kernel_rfl,by intro D x0 x1 x2 x3 x4 a best; kernel_rfl,trivial⟩
theorem allFm:allP RFm shapesM:=⟨by intro D x0 x1 x2 x3 x4 y0 y1 y2 y3 y4 a best; kernel_rfl,by intro D x0 x1 x2 x3 x4 y0 y1 y2 y3 y4 a best; kernel_rfl,by intro D x0 x1 x2 x3 x4 y0 y1 y2 y3 y4 a best; kernel_rfl,by intro D x0 x1 x2 x3 x4 y0 y1 y2 y3 y4 a best; kernel_rfl,by intro D x0 x1 x2 x3 x4 y0 y1 y2 y3 y4 a best; kernel_rfl,by intro D x0 x1 x2 x3 x4 y0 y1 y2 y3 y4 a best; kernel_rfl,by intro D x0 x1 x2 x3 x4 y0 y1 y2 y3 y4 a best; kernel_rfl,by intro D x0 x1 x2 x3 x4 y0 y1 y2 y3 y4 a best; kernel_rfl,by intro D x0 x1 x2 x3 x4 y0 y1 y2 y3 y4 a best; kernel_rfl,by intro D x0 x1 x2 x3 x4 y0 y1 y2 y3 y4 a best; kernel_rfl,by intro D x0 x1 x2 x3 x4 y0 y1 y2 y3 y4 a best; kernel_rfl,by intro D x0 x1 x2 x3 x4 y0 y1 y2 y3 y4 a best; kernel_rfl,by intro D x0 x1 x2 x3 x4 y0 y1 y2 y3 y4 a best; kernel_rfl,trivial⟩
end Go.Ax

namespace Go.Ax
open Go.Proofs Go.RowKit
set_option maxRecDepth 100000

theorem l5_of (z:LeafD):∀ {xs:List LeafD} {n:Nat},xs.length=n→n≤5→xs=l5 n (xs.getD 0 z) (xs.getD 1 z) (xs.getD 2 z) (xs.getD 3 z) (xs.getD 4 z)
 | [],_,rfl,_=>rfl
 | [_],_,rfl,_=>rfl
 | [_,_],_,rfl,_=>rfl
 | [_,_,_],_,rfl,_=>rfl
 | [_,_,_,_],_,rfl,_=>rfl
 | [_,_,_,_,_],_,rfl,_=>rfl
 | _::_::_::_::_::_::_,_,rfl,h=>by simp at h
def leafB (k:Bool) (f:Nat) (c:Cur):Box:=if k then curB 2 (.ptr f 0 0) c else curB 1 nilQ c
theorem leafs_get:∀ (ks:List Bool) (xs:List LeafD) (f i:Nat) (k:Bool) (x:LeafD),ks[i]? = some k→xs[i]? = some x→(leafsC ks xs f)[i]? = some (leafB k (f+nFil (ks.take i)) x.c)
 | [],_,_,i,_,_,h,_=>by simp at h
 | _::_,[],_,i,_,_,_,h=>by simp at h
 | b::ks,y::xs,f,0,k,x,h1,h2=>by
  cases h1; cases h2
  cases b <;> rfl
 | b::ks,y::xs,f,i+1,k,x,h1,h2=>by
  have ih:=fun f=>leafs_get ks xs f i k x (by simpa using h1) (by simpa using h2)
  cases b with
  | true=>
   show (curB 2 (.ptr f 0 0) y.c::leafsC ks xs (f+1))[i+1]? = _
   rw[List.getElem?_cons_succ,ih (f+1)]
   show some (leafB k (f+1+nFil (ks.take i)) x.c)=some (leafB k (f+(nFil (ks.take i)+1)) x.c)
   rw[Nat.add_assoc,Nat.add_comm 1]
  | false=>
   show (curB 1 nilQ y.c::leafsC ks xs f)[i+1]? = _
   rw[List.getElem?_cons_succ,ih f]
   rfl
theorem leafs_len:∀ (ks:List Bool) (xs:List LeafD) (f:Nat),xs.length=ks.length→(leafsC ks xs f).length=ks.length
 | [],[],_,_=>rfl
 | true::ks,_::xs,f,h=>by
  show (_::leafsC ks xs (f+1)).length=_
  rw[List.length_cons,leafs_len ks xs (f+1) (by simpa using h)]; rfl
 | false::ks,_::xs,f,h=>by
  show (_::leafsC ks xs f).length=_
  rw[List.length_cons,leafs_len ks xs f (by simpa using h)]; rfl
theorem leafs_set:∀ (ks:List Bool) (xs:List LeafD) (f i:Nat) (k:Bool) (x y:LeafD),ks[i]? = some k→xs[i]? = some x→(leafsC ks xs f).set i (leafB k (f+nFil (ks.take i)) y.c)=leafsC ks (xs.set i y) f
 | [],_,_,i,_,_,_,h,_=>by simp at h
 | _::_,[],_,i,_,_,_,_,h=>by simp at h
 | b::ks,z::xs,f,0,k,x,y,h1,h2=>by
  cases h1; cases h2
  cases b <;> rfl
 | b::ks,z::xs,f,i+1,k,x,y,h1,h2=>by
  have ih:=fun f=>leafs_set ks xs f i k x y (by simpa using h1) (by simpa using h2)
  cases b with
  | true=>
   show _::((leafsC ks xs (f+1)).set i (leafB k (f+(nFil (ks.take i)+1)) y.c))=_::leafsC ks (xs.set i y) (f+1)
   rw[←ih (f+1),Nat.add_assoc,Nat.add_comm 1]
  | false=>
   show _::((leafsC ks xs f).set i (leafB k (f+nFil (ks.take i)) y.c))=_::leafsC ks (xs.set i y) f
   rw[←ih f]
theorem fls_get:∀ (ks:List Bool) (xs:List LeafD) (d i:Nat) (x:LeafD),ks[i]? = some true→xs[i]? = some x→(flsC ks xs d)[nFil (ks.take i)]? = some (filC d x.nm x.F)
 | [],_,_,i,_,h,_=>by simp at h
 | _::_,[],_,i,_,_,h=>by simp at h
 | b::ks,y::xs,d,0,x,h1,h2=>by
  cases h1; cases h2
  rfl
 | b::ks,y::xs,d,i+1,x,h1,h2=>by
  have ih:=fls_get ks xs d i x (by simpa using h1) (by simpa using h2)
  cases b with
  | true=>exact ih
  | false=>exact ih
theorem fls_set:∀ (ks:List Bool) (xs:List LeafD) (d i:Nat) (x:LeafD) (c:Cur),xs[i]? = some x→flsC ks (xs.set i (x.put c)) d=flsC ks xs d
 | [],xs,_,i,_,_,h=>by cases xs <;> cases i <;> rfl
 | _::_,[],_,i,_,_,h=>by simp at h
 | b::ks,y::xs,d,0,x,c,h=>by cases h; cases b <;> rfl
 | b::ks,y::xs,d,i+1,x,c,h=>by
  have ih:=fls_set ks xs d i x c (by simpa using h)
  cases b with
  | true=>show _::flsC ks (xs.set i (x.put c)) d=_::flsC ks xs d; rw[ih]
  | false=>exact ih
theorem fls_len:∀ (ks:List Bool) (xs:List LeafD) (d:Nat),xs.length=ks.length→(flsC ks xs d).length=nFil ks
 | [],[],_,_=>rfl
 | true::ks,_::xs,d,h=>by
  show (_::flsC ks xs d).length=nFil ks+1
  rw[List.length_cons,fls_len ks xs d (by simpa using h)]
 | false::ks,_::xs,d,h=>fls_len ks xs d (by simpa using h)
theorem nFil_pos:∀ {ks:List Bool} {i:Nat},ks[i]? = some true→nFil (ks.take i)<nFil ks
 | [],i,h=>by simp at h
 | b::ks,0,h=>by cases h; show 0<nFil ks+1; omega
 | b::ks,i+1,h=>by
  have ih:=nFil_pos (ks:=ks) (i:=i) (by simpa using h)
  cases b with
  | true=>show nFil (ks.take i)+1<nFil ks+1; omega
  | false=>exact ih
section
variable {ks : List Bool} {xs : List LeafD} {D : Dsk} {i : Nat} {k : Bool} {x : LeafD}
theorem fam_len (h:xs.length=ks.length):(famC ks xs D).length=famL ks:=by
 unfold famC famL
 rw[List.length_cons,List.length_cons,List.length_append,List.length_append,leafs_len _ _ _ h,fls_len _ _ _ h]
 unfold diskC
 split
 ·rename_i e; rw[e]; simp; omega
 ·rename_i e
  rw[if_neg (by omega)]; simp; omega
theorem fam_leaf (h:xs.length=ks.length) (hk:ks[i]? = some k) (hx:xs[i]? = some x):(famC ks xs D)[2+i]? = some (leafB k (2+ks.length+nFil (ks.take i)) x.c):=by
 have hi:i<(leafsC ks xs (2+ks.length)).length:=by rw[leafs_len _ _ _ h]; exact (List.getElem?_eq_some_iff.1 hk).1
 unfold famC
 rw[Nat.add_comm 2 i,List.getElem?_cons_succ,List.getElem?_cons_succ,List.getElem?_append_left hi,leafs_get _ _ _ _ _ _ hk hx]
theorem fam_file (h:xs.length=ks.length) (hk:ks[i]? = some true) (hx:xs[i]? = some x):(famC ks xs D)[2+ks.length+nFil (ks.take i)]? = some (filC (2+ks.length+nFil ks) x.nm x.F):=by
 have hp:=nFil_pos hk
 unfold famC
 rw[show 2+ks.length+nFil (ks.take i)=(ks.length+nFil (ks.take i))+1+1 by omega,List.getElem?_cons_succ,List.getElem?_cons_succ,List.getElem?_append_right (by rw[leafs_len _ _ _ h]; omega),leafs_len _ _ _ h,Nat.add_sub_cancel_left,
  List.getElem?_append_left (by rw[fls_len _ _ _ h]; exact hp),fls_get _ _ _ _ _ hk hx]
theorem fam_disk (h:xs.length=ks.length) (hk:ks[i]? = some true):(famC ks xs D)[2+ks.length+nFil ks]? = some (dskB D):=by
 have hp:=nFil_pos hk
 unfold famC
 rw[show 2+ks.length+nFil ks=(ks.length+nFil ks)+1+1 by omega,List.getElem?_cons_succ,List.getElem?_cons_succ,List.getElem?_append_right (by rw[leafs_len _ _ _ h]; omega),leafs_len _ _ _ h,Nat.add_sub_cancel_left,
  List.getElem?_append_right (by rw[fls_len _ _ _ h]; omega),fls_len _ _ _ h,Nat.sub_self]
 unfold diskC
 split
 ·omega
 ·rfl
theorem fam_set (h:xs.length=ks.length) (hk:ks[i]? = some k) (hx:xs[i]? = some x) (c:Cur):(famC ks xs D).set (2+i) (leafB k (2+ks.length+nFil (ks.take i)) c)=famC ks (xs.set i (x.put c)) D:=by
 have hi:i<(leafsC ks xs (2+ks.length)).length:=by rw[leafs_len _ _ _ h]; exact (List.getElem?_eq_some_iff.1 hk).1
 unfold famC
 rw[Nat.add_comm 2 i,List.set_cons_succ,List.set_cons_succ,List.set_append_left _ _ hi,fls_set _ _ _ _ _ _ hx]
 have:=leafs_set ks xs (2+ks.length) i k x (x.put c) hk hx
 rw[this]
theorem fam_upd (h:xs.length=ks.length) (hk:ks[i]? = some k) (hx:xs[i]? = some x) (c:Cur):updC (famC ks xs D) i c=famC ks (xs.set i (x.put c)) D:=by
 rw[←fam_set h hk hx c]
 unfold updC
 rw[fam_leaf h hk hx]
 cases k <;> rfl
end
def pgsC (D:Dsk) (k:Bool) (x:LeafD):Pgs:=if k then pfC D x.nm x.F else ⟨fun _=>([],0),0⟩
structure GoodL (D:Dsk) (k:Bool) (x:LeafD):Prop where
 bad:x.c.bad=0
 pg:0≤x.c.pg∧x.c.pg≤100000000
 np:(pgsC D k x).np≤100000000
 rd:k=true→RdOk D x.nm x.F
 ok:∀ i,0≤i→i<(pgsC D k x).np→((pgsC D k x).pf i).2=0∧((pgsC D k x).pf i).1≠ []
section
variable {ks : List Bool} {xs : List LeafD} {D : Dsk} {i : Nat} {k : Bool} {x : LeafD}
theorem peek_list (p:Pgs) (hp:p.np=0) {c:Cur} (h:0≤c.pg):peekC p c=(c,peekL c):=by
 have e:fillC p c=(c,c.bad):=by
  unfold fillC
  rw[if_pos (.inr (.inr (by rw[hp]; exact h)))]
 unfold peekC peekL
 rw[e]
 by_cases hb:c.bad≠0
 ·rw[if_pos hb,if_pos hb]
 ·rw[if_neg hb,if_neg hb,if_neg hb]
theorem fill_good (g:GoodL D k x):(fillC (pgsC D k x) x.c).2=0∧(fillC (pgsC D k x) x.c).1.bad=0∧(0≤(fillC (pgsC D k x) x.c).1.pg∧(fillC (pgsC D k x) x.c).1.pg≤100000000):=by
 have h1:=g.pg
 have h2:=g.np
 unfold fillC
 split
 ·exact ⟨g.bad,g.bad,g.pg⟩
 ·rename_i h
  have h:¬(pgsC D k x).np≤x.c.pg:=fun e=>h (.inr (.inr e))
  rw[if_neg (fun e=>e (g.ok _ g.pg.1 (by omega)).1)]
  exact ⟨rfl,g.bad,by simp only; omega,by simp only; omega⟩
theorem peek_good (g:GoodL D k x):peekC (pgsC D k x) x.c=((fillC (pgsC D k x) x.c).1,headE (fillC (pgsC D k x) x.c).1.L):=by
 unfold peekC
 rw[if_neg (fun h=>h g.bad),if_neg (fun h=>h (fill_good g).1)]
theorem headE_err (L:List Ent):(headE L).2.2=0:=by cases L <;> rfl
theorem GoodL.fill (g:GoodL D k x):GoodL D k (x.put (fillC (pgsC D k x) x.c).1):=⟨(fill_good g).2.1,(fill_good g).2.2,g.np,g.rd,g.ok⟩
theorem fam_peek (h:xs.length=ks.length) (hk:ks[i]? = some k) (hx:xs[i]? = some x) (g:GoodL D k x) (T:List Box):
  liftR OPeek [.ptr (2+i) 0 0] (famC ks xs D++T) (.tup [entE.av (headE (fillC (pgsC D k x) x.c).1.L).1,vb (headE (fillC (pgsC D k x) x.c).1.L).2.1,vi 0]) (updC (famC ks xs D) i (fillC (pgsC D k x) x.c).1++T):=by
 have hi:i<ks.length:=(List.getElem?_eq_some_iff.1 hk).1
 have hl:2+i<(famC ks xs D).length:=by rw[fam_len h]; unfold famL; omega
 have e1:=fam_leaf (D:=D) h hk hx
 have hB:(famC ks xs D++T)[2+i]? = some (leafB k (2+ks.length+nFil (ks.take i)) x.c):=by rw[List.getElem?_append_left hl,e1]
 rw[fam_upd h hk hx,←fam_set h hk hx,←List.set_append_left _ _ hl]
 cases k with
 | false=>
  have e:=peek_list (pgsC D false x) rfl g.pg.1
  rw[peek_good g] at e
  have e1:=congrArg Prod.fst e
  have e2:=congrArg Prod.snd e
  simp only at e1 e2
  have:=oPeekL (B:=famC ks xs D++T) (l:=2+i) (c:=x.c) hB
  rw[←e2,headE_err] at this
  rw[e1] at this ⊢
  exact this
 | true=>
  have hd:(famC ks xs D++T)[2+ks.length+nFil ks]? = some (dskB D):=by
   have:=fam_disk (D:=D) h hk
   rw[List.getElem?_append_left (List.getElem?_eq_some_iff.1 this).1,this]
  have hf:(famC ks xs D++T)[2+ks.length+nFil (ks.take i)]? = some (filC (2+ks.length+nFil ks) x.nm x.F):=by
   have:=fam_file (D:=D) h hk hx
   rw[List.getElem?_append_left (List.getElem?_eq_some_iff.1 this).1,this]
  have:=oPeekF (l:=2+i) (c:=x.c) (g.rd rfl) g.pg hd hf hB
  rw[show pfC D x.nm x.F=pgsC D true x from rfl,peek_good g] at this
  simp only[headE_err] at this
  exact this
end
end Go.Ax

namespace Go.Ax
open Go.Proofs Go.RowKit
set_option maxRecDepth 100000

theorem codeC_tri [Glob] {P:Program} {Γ:Env} {Δ:REnv} (hm:P.follows .mixedOrders=true) (hΓ:∀ f,SoundF P f (Γ f)) (hΔ:∀ f,SoundR P f (Δ f)) {n m0:Nat} (c:Code) {s:AS} {T:Tree} {K:AE→St→Prop} (h:(codeC P Γ Δ n m0 c s T (leafC m0)).wp K):
  Tri P n m0 false c s (fun e s2=>∃ c:St,s2=c.as∧K e c):=by
 refine (codeC_sound hm hΓ hΔ c h).weakr fun e s2 hk=>?_
 obtain ⟨T',hT⟩:=hk
 obtain ⟨c,⟨f,d,q1,q2,q3⟩,q4⟩:=leafC_wp hT
 exact ⟨c.as,f,d,q1,q2,q3,c,rfl,q4⟩

theorem wp_frag {r:Option Nat} {W:Wd} {olds:List (List AV)} {E0:St} {p:Prop} {e:AE} {c:St} {k:Tree} {K:AE→St→Prop} (ho:oldsOk W olds) (hp:p) (h:k.wp K):(Tree.frag r W olds (some E0) E0 p e c k).wp K:=⟨ho,rfl,hp,h⟩
theorem ΓC1_ok:∀ f,SoundF DP f (ΓC1 f):=envP_cons SCmpE envP_nil
theorem ΔC1_ok:∀ f,SoundR DP f (ΔC1 f):=envR_cons (lift_sound SPeek) envR_nil
abbrev fillL (D:Dsk) (k:Bool) (x:LeafD):LeafD:=x.put (fillC (pgsC D k x) x.c).1
def fpick (y:Ent×Bool×Int) (i:Nat) (s:Int×Ent):Int×Ent:=if y.2.1=true∧(s.1<0∨cmpE y.1 s.2<0) then ((i:Int),y.1) else s
def firstF (D:Dsk):List Bool→List LeafD→Nat→Int×Ent→List LeafD×(Int×Ent)
 | k::ks,x::xs,i,s=>((fillL D k x)::(firstF D ks xs (i+1) (fpick (headE (fillL D k x).c.L) i s)).1,(firstF D ks xs (i+1) (fpick (headE (fillL D k x).c.L) i s)).2)
 | _,_,_,s=>([],s)
abbrev AllGood (D:Dsk) (ks:List Bool) (xs:List LeafD):Prop:=∀ (i:Nat) (k:Bool) (x:LeafD),ks[i]? = some k→xs[i]? = some x→GoodL D k x
section
variable {D : Dsk} {ks : List Bool}
theorem codeC1 {c:Code} {n m0:Nat} {s:AS} {T:Tree} {K:AE→St→Prop} (hc:codeC DP ΓC1 ΔC1 n m0 c s T (leafC m0)=T) (h:T.wp K):Tri DP n m0 false c s (fun e s2=>∃ c:St,s2=c.as∧K e c):=
 codeC_tri mixedD ΓC1_ok ΔC1_ok c (by rw[hc]; exact h)
def zD:LeafD:=⟨⟨[],0,0⟩,⟨#[]⟩,⟨[],[],0,⟨#[]⟩,⟨#[]⟩⟩⟩
theorem fb_of (hs:ks∈shapesM) {i:Nat} (hi:i<ks.length) {xs:List LeafD} (hl:xs.length=ks.length) (c:Cur) (a:Int) (best x:Ent) (o:Bool):
  codeC DP ΓC1 ΔC1 50 (famL ks) cFb (St.as (fSl (famL ks) ks.length i a,famC ks xs D++ [ebx noE,ebx best])) (TFb (famC ks xs D) (updC (famC ks xs D) i c) (famL ks) ks.length i a best x o) (leafC (famL ks))=TFb (famC ks xs D) (updC (famC ks xs D) i c) (famL ks) ks.length i a best x o:=by
 have hc:codeC DP ΓC1 ΔC1 50 (famL ks) cFb (St.as (fSl (famL ks) ks.length i a,famC ks (l5 ks.length (xs.getD 0 zD) (xs.getD 1 zD) (xs.getD 2 zD) (xs.getD 3 zD) (xs.getD 4 zD)) D++ [ebx noE,ebx best])) (TFb (famC ks (l5 ks.length (xs.getD 0 zD) (xs.getD 1 zD) (xs.getD 2 zD) (xs.getD 3 zD) (xs.getD 4 zD)) D) (updC (famC ks (l5 ks.length (xs.getD 0 zD) (xs.getD 1 zD) (xs.getD 2 zD) (xs.getD 3 zD) (xs.getD 4 zD)) D) i c) (famL ks) ks.length i a best x o) (leafC (famL ks))=_:=allP_mem allFb (ks,i) (pairs_mem ks hs i hi) D _ _ _ _ _ c a best x o
 rw[←l5_of zD hl (shape_len ks hs)] at hc
 exact hc
theorem fe_of (hs:ks∈shapesM) {xs:List LeafD} (hl:xs.length=ks.length) (a:Int) (best:Ent):
  codeC DP ΓC1 ΔC1 50 (famL ks) cFb (St.as (fSl (famL ks) ks.length ks.length a,famC ks xs D++ [ebx noE,ebx best])) (TFe (famC ks xs D) (famL ks) a best) (leafC (famL ks))=TFe (famC ks xs D) (famL ks) a best:=by
 have hc:codeC DP ΓC1 ΔC1 50 (famL ks) cFb (St.as (fSl (famL ks) ks.length ks.length a,famC ks (l5 ks.length (xs.getD 0 zD) (xs.getD 1 zD) (xs.getD 2 zD) (xs.getD 3 zD) (xs.getD 4 zD)) D++ [ebx noE,ebx best])) (TFe (famC ks (l5 ks.length (xs.getD 0 zD) (xs.getD 1 zD) (xs.getD 2 zD) (xs.getD 3 zD) (xs.getD 4 zD)) D) (famL ks) a best) (leafC (famL ks))=_:=allP_mem allFe ks hs D _ _ _ _ _ a best
 rw[←l5_of zD hl (shape_len ks hs)] at hc
 exact hc
theorem fm_of (hs:ks∈shapesM) {xs ys:List LeafD} (hl:xs.length=ks.length) (hl2:ys.length=ks.length) (a:Int) (best:Ent):
  fnC DP ΓC1 ΔC1 nFirst [.ptr 0 0 0] (famC ks xs D) (TFirst (famC ks xs D) (famC ks ys D) (famL ks) ks.length a best)=TFirst (famC ks xs D) (famC ks ys D) (famL ks) ks.length a best:=by
 have hc:fnC DP ΓC1 ΔC1 nFirst [.ptr 0 0 0] (famC ks (l5 ks.length (xs.getD 0 zD) (xs.getD 1 zD) (xs.getD 2 zD) (xs.getD 3 zD) (xs.getD 4 zD)) D) (TFirst (famC ks (l5 ks.length (xs.getD 0 zD) (xs.getD 1 zD) (xs.getD 2 zD) (xs.getD 3 zD) (xs.getD 4 zD)) D) (famC ks (l5 ks.length (ys.getD 0 zD) (ys.getD 1 zD) (ys.getD 2 zD) (ys.getD 3 zD) (ys.getD 4 zD)) D) (famL ks) ks.length a best)=_:=allP_mem allFm ks hs D _ _ _ _ _ _ _ _ _ _ a best
 rw[←l5_of zD hl (shape_len ks hs),←l5_of zD hl2 (shape_len ks hs)] at hc
 exact hc
theorem wdN_ok (sl:List Nat) (k:Nat):oldsOk (wdN sl k) []:=by
 unfold oldsOk wdN
 simp
theorem set_mid {α:Type} (p q:List α) (x y:α):(p++x::q).set p.length y=p++y::q:=by simp
theorem get_mid {α:Type} (p q:List α) (x:α):(p++x::q)[p.length]? = some x:=by simp
theorem first_rounds (hs:ks∈shapesM):∀ (kt kd:List Bool) (xt xd:List LeafD) (s:Int×Ent),ks=kd++kt→xd.length=kd.length→xt.length=kt.length→(∀ (i:Nat) (k:Bool) (x:LeafD),kt[i]? = some k→xt[i]? = some x→GoodL D k x) →
  Tri DP 50 (famL ks) true cFb (St.as (fSl (famL ks) ks.length kd.length s.1,famC ks (xd++xt) D++ [ebx noE,ebx s.2])) fun e' s'=>e'= .exit 0 ∧
   s'=St.as ([(0, .ptr 0 0 0),(3, .ptr (famL ks) 0 0),(5,vi (firstF D kt xt kd.length s).2.1),(6, .ptr (famL ks+1) 0 0)],famC ks (xd++(firstF D kt xt kd.length s).1) D++ [ebx noE,ebx (firstF D kt xt kd.length s).2.2]):=by
 intro kt
 have h5:=shape_len ks hs
 induction kt with
 | nil=>
  intro kd xt xd s hk hd ht _
  obtain rfl:xt= []:=List.length_eq_zero_iff.1 ht
  have hkl:kd.length=ks.length:=by rw[hk]; simp
  have hc:=fe_of (D:=D) hs (xs:=xd++ []) (by simp; omega) s.1 s.2
  rw[hkl]
  refine Tri.round ((codeC1 (K:=fun e c=>e= .exit 0∧c=([(0, .ptr 0 0 0),(3, .ptr (famL ks) 0 0),(5,vi s.1),(6, .ptr (famL ks+1) 0 0)],famC ks (xd++ []) D++ [ebx noE,ebx s.2])) hc (wp_leaf (wdN_ok _ _) ⟨rfl,rfl⟩)).conseq fun e' s' hk=>?_)
  obtain ⟨c,rfl,rfl,rfl⟩:=hk
  exact ⟨rfl,rfl⟩
 | cons k kt ih=>
  intro kd xt xd s hk hd ht hg
  cases xt with
  | nil=>cases ht
  | cons x xt=>
  have hi:kd.length<ks.length:=by rw[hk]; simp
  have hkk:ks[kd.length]? = some k:=by rw[hk]; exact get_mid kd kt k
  have hxx:(xd++x::xt)[kd.length]? = some x:=by rw[←hd]; exact get_mid xd xt x
  have hlen:(xd++x::xt).length=ks.length:=by
   rw[hk]
   simp only[List.length_append,List.length_cons] at ht ⊢
   omega
  have g:=hg 0 k x rfl rfl
  have hc:=fb_of (D:=D) hs hi hlen (fillC (pgsC D k x) x.c).1 s.1 s.2 (headE (fillC (pgsC D k x) x.c).1.L).1 (headE (fillC (pgsC D k x) x.c).1.L).2.1
  have hp:=fam_peek hlen hkk hxx g [ebx noE,ebx s.2]
  have hu:=fam_upd (D:=D) hlen hkk hxx (fillC (pgsC D k x) x.c).1
  have hset:(xd++x::xt).set kd.length (x.put (fillC (pgsC D k x) x.c).1)=(xd++ [fillL D k x])++xt:=by
   rw[←hd,set_mid]; simp
  have hr:=ih (kd++ [k]) xt (xd++ [fillL D k x]) (fpick (headE (fillL D k x).c.L) kd.length s) (by rw[hk]; simp) (by simp[hd]) (by simpa using ht) (fun i k' x' h1 h2=>hg (i+1) k' x' (by simpa using h1) (by simpa using h2))
  have hle:(kd++ [k]).length=kd.length+1:=by simp
  rw[hle] at hr
  have hend:xd++(firstF D (k::kt) (x::xt) kd.length s).1=(xd++ [fillL D k x])++(firstF D kt xt (kd.length+1) (fpick (headE (fillL D k x).c.L) kd.length s)).1:=by
   show xd++(fillL D k x::_)=_
   simp
  rw[hend]
  refine Tri.round ((codeC1 (K:=fun e c=>e= .normal∧c=(fSl (famL ks) ks.length (kd.length+1) (fpick (headE (fillL D k x).c.L) kd.length s).1,famC ks (xd++ [fillL D k x]++xt) D++ [ebx noE,ebx (fpick (headE (fillL D k x).c.L) kd.length s).2])) hc ?_).conseq fun e' s' hk=>?_)
  ·rw[hu,hset] at hp ⊢
   unfold TFb
   have hfp:fpick (headE (fillL D k x).c.L) kd.length s=if (headE (fillC (pgsC D k x) x.c).1.L).2.1=true∧(s.1<0∨cmpE (headE (fillC (pgsC D k x) x.c).1.L).1 s.2<0) then ((kd.length:Int),(headE (fillC (pgsC D k x) x.c).1.L).1) else s:=rfl
   refine wp_callr hp (wp_sp (fun q1=>wp_sp (fun q2=>?_) (fun q2=>wp_call (gCmpE_eq _ _) (wp_sp (fun q3=>?_) (fun q3=>?_)))) (fun q1=>?_))
   ·rw[hfp,if_pos ⟨q1, .inl (of_decide_eq_true q2)⟩]; exact wp_leaf (wdN_ok _ _) ⟨rfl,rfl⟩
   ·rw[hfp,if_pos ⟨q1, .inr (of_decide_eq_true q3)⟩]; exact wp_leaf (wdN_ok _ _) ⟨rfl,rfl⟩
   ·rw[hfp,if_neg (fun h=>h.2.elim (of_decide_eq_false q2) (of_decide_eq_false q3))]; exact wp_leaf (wdN_ok _ _) ⟨rfl,rfl⟩
   ·rw[hfp,if_neg (fun h=>by rw[h.1] at q1; cases q1)]; exact wp_leaf (wdN_ok _ _) ⟨rfl,rfl⟩
  ·obtain ⟨c,rfl,rfl,rfl⟩:=hk
   exact hr
theorem firstF_len:∀ (ks:List Bool) (xs:List LeafD) (i:Nat) (s:Int×Ent),xs.length=ks.length→(firstF D ks xs i s).1.length=ks.length
 | [],[],_,_,_=>rfl
 | k::ks,x::xs,i,s,h=>by
  show (_::(firstF D ks xs (i+1) _).1).length=_
  rw[List.length_cons,firstF_len ks xs _ _ (by simpa using h)]; rfl
theorem cFl_eq:cFl= .loop cFb:=by kernel_rfl
end
def OFirst:RSpec:=fun args B r B'=>∃ (D:Dsk) (ks:List Bool) (xs:List LeafD),ks∈shapesM∧xs.length=ks.length∧AllGood D ks xs∧args= [.ptr 0 0 0]∧B=famC ks xs D ∧
 r= .tup [vi (firstF D ks xs 0 (-1,noE)).2.1,entE.av (firstF D ks xs 0 (-1,noE)).2.2,vi 0]∧B'=famC ks (firstF D ks xs 0 (-1,noE)).1 D
theorem SFirst:SoundR DP iFirst OFirst:=sound_genT mixedD ΓC1_ok ΔC1_ok hfFirst heFirst hbFirst (by
 rintro args B r B' ⟨D,ks,xs,hs,hl,hg,rfl,rfl,rfl,rfl⟩
 have hc:=fm_of (D:=D) hs hl (firstF_len (D:=D) ks xs 0 (-1,noE) hl) (firstF D ks xs 0 (-1,noE)).2.1 (firstF D ks xs 0 (-1,noE)).2.2
 refine ⟨by rw[hnFirst]; rfl,_,hc,?_⟩
 unfold TFirst
 refine wp_frag (wdN_ok _ _) ?_ (wp_leaf (wdN_ok _ _) ⟨rfl,rfl⟩)
 rw[cFl_eq]
 exact .loop (first_rounds hs ks [] xs [] (-1,noE) rfl rfl hl hg))
end Go.Ax

namespace Go.Ax
open Go.Proofs Go.RowKit
set_option maxRecDepth 100000

def restC (p:Pgs) (c:Cur):List Ent:=c.L++((List.range' c.pg.toNat (p.np - c.pg).toNat).map fun (i:Nat)=>(p.pf (i:Int)).1).flatten
section
variable {D : Dsk} {k : Bool} {x : LeafD}
theorem headE_append {L M:List Ent} (h:L≠ []):headE (L++M)=headE L:=by
 cases L with
 | nil=>exact absurd rfl h
 | cons x L=>rfl
theorem rest_fill (g:GoodL D k x):restC (pgsC D k x) (fillC (pgsC D k x) x.c).1=restC (pgsC D k x) x.c∧headE (fillC (pgsC D k x) x.c).1.L=headE (restC (pgsC D k x) x.c)∧((fillC (pgsC D k x) x.c).1.L= []→restC (pgsC D k x) x.c= []):=by
 have h0:=g.pg
 unfold fillC
 by_cases hc:x.c.bad≠0∨0<x.c.L.length∨(pgsC D k x).np≤x.c.pg
 ·rw[if_pos hc]
  refine ⟨rfl,?_,?_⟩
  ·show headE x.c.L=headE (restC _ x.c)
   unfold restC
   rcases hc with h | h | h
   ·exact absurd g.bad h
   ·exact (headE_append (by intro e; rw[e] at h; simp at h)).symm
   ·rw[show ((pgsC D k x).np - x.c.pg).toNat=0 by omega]; simp
  ·intro h
   have h:x.c.L= []:=h
   unfold restC
   rcases hc with h1 | h1 | h1
   ·exact absurd g.bad h1
   ·rw[h] at h1; simp at h1
   ·rw[h,show ((pgsC D k x).np - x.c.pg).toNat=0 by omega]; rfl
 ·rw[if_neg hc]
  have hL:x.c.L= []:=List.length_eq_zero_iff.1 (by
   by_cases e:0<x.c.L.length
   ·exact absurd (.inr (.inl e)) hc
   ·omega)
  have hp:¬(pgsC D k x).np≤x.c.pg:=fun e=>hc (.inr (.inr e))
  have hok:=g.ok x.c.pg h0.1 (by omega)
  rw[if_neg (fun e=>e hok.1)]
  have hr:restC (pgsC D k x) x.c=((pgsC D k x).pf x.c.pg).1++((List.range' (x.c.pg+1).toNat ((pgsC D k x).np - (x.c.pg+1)).toNat).map fun (i:Nat)=>((pgsC D k x).pf (i:Int)).1).flatten:=by
   unfold restC
   rw[hL,List.nil_append,show ((pgsC D k x).np - x.c.pg).toNat=((pgsC D k x).np - (x.c.pg+1)).toNat+1 by omega,List.range'_succ,List.map_cons,List.flatten_cons,Int.toNat_of_nonneg h0.1,show x.c.pg.toNat+1=(x.c.pg+1).toNat by omega]
  refine ⟨hr.symm,?_,fun h=>absurd h hok.2⟩
  rw[hr]
  exact (headE_append hok.2).symm
theorem good_tail (g:GoodL D k x) (L:List Ent):GoodL D k (x.put ⟨L,x.c.pg,x.c.bad⟩):=⟨g.bad,g.pg,g.np,g.rd,g.ok⟩
theorem next_good (g:GoodL D k x):(restC (pgsC D k x) x.c= []→nextC (pgsC D k x) x.c=((fillC (pgsC D k x) x.c).1,noE,false,0)) ∧
  ∀ y r,restC (pgsC D k x) x.c=y::r→(nextC (pgsC D k x) x.c).2=(y,true,0)∧restC (pgsC D k x) (nextC (pgsC D k x) x.c).1=r∧GoodL D k (x.put (nextC (pgsC D k x) x.c).1):=by
 obtain ⟨h1,h2,h3⟩:=rest_fill g
 have hp:=peek_good g
 unfold nextC
 rw[hp]
 simp only
 constructor
 ·intro e
  rw[e] at h2
  rw[h2]
  rfl
 ·intro y r e
  rw[e] at h2
  rw[h2]
  have hk:(headE (y::r)).2.1=true:=rfl
  rw[if_pos hk]
  refine ⟨rfl,?_,good_tail g.fill _⟩
  rw[e] at h1
  obtain ⟨c,hc⟩:∃ c,c=(fillC (pgsC D k x) x.c).1:=⟨_,rfl⟩
  rw[←hc] at h1 h2 ⊢
  unfold restC tailC at *
  cases hL:c.L with
  | nil=>rw[hL] at h2; cases h2
  | cons z L=>
   rw[hL] at h1 h2
   cases h2
   exact (List.cons.inj h1).2
end
def restsF (D:Dsk):List Bool→List LeafD→List (List Ent)
 | k::ks,x::xs=>restC (pgsC D k x) x.c::restsF D ks xs
 | _,_=> []
def pickR:List (List Ent)→Nat→Int×Ent→Int×Ent
 | [],_,s=>s
 | r::rs,i,s=>pickR rs (i+1) (fpick (headE r) i s)
section
variable {D : Dsk}
theorem restsF_len:∀ (ks:List Bool) (xs:List LeafD),xs.length=ks.length→(restsF D ks xs).length=ks.length
 | [],[],_=>rfl
 | k::ks,x::xs,h=>by
  show (_::restsF D ks xs).length=_
  rw[List.length_cons,restsF_len ks xs (by simpa using h)]; rfl
theorem restsF_get:∀ (ks:List Bool) (xs:List LeafD) (i:Nat) (k:Bool) (x:LeafD),ks[i]? = some k→xs[i]? = some x→(restsF D ks xs)[i]? = some (restC (pgsC D k x) x.c)
 | [],_,i,_,_,h,_=>by simp at h
 | _::_,[],i,_,_,_,h=>by simp at h
 | b::ks,y::xs,0,k,x,h1,h2=>by cases h1; cases h2; rfl
 | b::ks,y::xs,i+1,k,x,h1,h2=>by
  show (_::restsF D ks xs)[i+1]? = _
  rw[List.getElem?_cons_succ]
  exact restsF_get ks xs i k x (by simpa using h1) (by simpa using h2)
theorem restsF_set:∀ (ks:List Bool) (xs:List LeafD) (i:Nat) (k:Bool) (x:LeafD) (c:Cur),ks[i]? = some k→xs[i]? = some x→restsF D ks (xs.set i (x.put c))=(restsF D ks xs).set i (restC (pgsC D k x) c)
 | [],_,i,_,_,_,h,_=>by simp at h
 | _::_,[],i,_,_,_,_,h=>by simp at h
 | b::ks,y::xs,0,k,x,c,h1,h2=>by cases h1; cases h2; rfl
 | b::ks,y::xs,i+1,k,x,c,h1,h2=>by
  show _::restsF D ks (xs.set i (x.put c))=_::(restsF D ks xs).set i _
  rw[restsF_set ks xs i k x c (by simpa using h1) (by simpa using h2)]
theorem good_set {ks:List Bool} {xs:List LeafD} (hg:AllGood D ks xs) {i:Nat} {x:LeafD} (hx:∀ k,ks[i]? = some k→GoodL D k x):AllGood D ks (xs.set i x):=fun j k y h1 h2=>by
 rw[List.getElem?_set] at h2
 split at h2
 ·rename_i e
  subst e
  split at h2
  ·cases h2; exact hx k h1
  ·cases h2
 ·exact hg j k y h1 h2
theorem firstF_pick:∀ (ks:List Bool) (xs:List LeafD) (i:Nat) (s:Int×Ent),xs.length=ks.length→AllGood D ks xs →
  (firstF D ks xs i s).2=pickR (restsF D ks xs) i s∧restsF D ks (firstF D ks xs i s).1=restsF D ks xs∧AllGood D ks (firstF D ks xs i s).1
 | [],[],_,_,_,_=>⟨rfl,rfl,fun i k x h=>by simp at h⟩
 | k::ks,x::xs,i,s,h,hg=>by
  have g:=hg 0 k x rfl rfl
  have hg':AllGood D ks xs:=fun j k' x' h1 h2=>hg (j+1) k' x' (by simpa using h1) (by simpa using h2)
  obtain ⟨r1,r2,_⟩:=rest_fill g
  have hh:headE (fillL D k x).c.L=headE (restC (pgsC D k x) x.c):=r2
  obtain ⟨a1,a2,a3⟩:=firstF_pick ks xs (i+1) (fpick (headE (fillL D k x).c.L) i s) (by simpa using h) hg'
  refine ⟨?_,?_,?_⟩
  ·show (firstF D ks xs (i+1) (fpick (headE (fillL D k x).c.L) i s)).2=pickR (restsF D ks xs) (i+1) (fpick (headE (restC (pgsC D k x) x.c)) i s)
   rw[a1,hh]
  ·show restC (pgsC D k (fillL D k x)) (fillL D k x).c::restsF D ks (firstF D ks xs (i+1) _).1=restC (pgsC D k x) x.c::restsF D ks xs
   rw[a2,show restC (pgsC D k (fillL D k x)) (fillL D k x).c=restC (pgsC D k x) x.c from r1]
  ·intro j k' y h1 h2
   cases j with
   | zero=>
    cases h1
    cases h2
    exact g.fill
   | succ j=>exact a3 j k' y (by simpa using h1) (by
     have:((firstF D (k::ks) (x::xs) i s).1)[j+1]? = (firstF D ks xs (i+1) (fpick (headE (fillL D k x).c.L) i s)).1[j]? := List.getElem?_cons_succ
     rw[←this]; exact h2)
theorem pick_head:∀ (rs:List (List Ent)) (i:Nat) (s:Int×Ent),pickR rs i s=s∨∃ (j:Nat) (y:Ent) (t:List Ent),pickR rs i s=(((i+j:Nat):Int),y)∧rs[j]? = some (y::t)
 | [],_,s=> .inl rfl
 | r::rs,i,s=>by
  show pickR rs (i+1) (fpick (headE r) i s)=s∨_
  rcases pick_head rs (i+1) (fpick (headE r) i s) with h | ⟨j,y,t,h1,h2⟩
  ·by_cases hc:(headE r).2.1=true∧(s.1<0∨cmpE (headE r).1 s.2<0)
   ·right
    have e:fpick (headE r) i s=((i:Int),(headE r).1):=if_pos hc
    cases r with
    | nil=>exact absurd hc.1 (by decide)
    | cons z r=>exact ⟨0,z,r,by show pickR rs (i+1) _=_; rw[h,e]; rfl,rfl⟩
   ·left
    rw[h]
    exact if_neg hc
  ·right
   exact ⟨j+1,y,t,by show pickR rs (i+1) _=_; rw[h1,show i+1+j=i+(j+1) by omega],by simpa using h2⟩
end
end Go.Ax
