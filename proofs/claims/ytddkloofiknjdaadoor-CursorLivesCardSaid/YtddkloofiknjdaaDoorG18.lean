/- Live, whatever the cursor is: the contract. -/
import Derived.Test.YtddkloofiknjdaaDoorG17
import Derived.WalkKit
import Derived.ProofKit
import Derived.OwnWalk
import Derived.Lib.Walk
import Derived.Lib.SliceRun
import Derived.Laws.AppendOwn
set_option linter.unusedVariables false
set_option linter.unusedSimpArgs false
set_option linter.unusedSectionVars false
namespace Go.Ax
open Go.Proofs Go.RowKit
set_option maxRecDepth 100000

structure TopR {σ:Type} (TB:σ→List Box) (m:Nat) (good:σ→Prop) (rest:σ→List Ent) (nx:σ→σ) (sk:Ent→σ→σ):Prop where
 next:∀ s,good s→∀ T,UB GL [.ptr 0 0 0] (TB s++T) (.tup [AB.av (headE (rest s)).1,vb (headE (rest s)).2.1,vi 0]) (TB (nx s)++T)
 nextR:∀ s,good s→good (nx s)∧rest (nx s)=(rest s).drop 1
 seek:∀ s e,good s→HE e→Dp e→∀ T,UB F3 [.ptr 0 0 0,AB.av e] (TB s++T) (vi 0) (TB (sk e s)++T)
 seekR:∀ s e,good s→HE e→Dp e→good (sk e s)∧rest (sk e s)=BB e (rest s)
 few:∀ s,good s→(rest s).length≤100000000
def Du (to_:ByteArray) (x:Ent):Bool:=(!(to_.toList == (⟨#[]⟩:ByteArray).toList))&& !(Op.bytesLess x.key.toList to_.toList)
def GR (seq:Int) (last:ByteArray) (seen:Bool) (x:Ent):Bool:=decide (x.seq>seq)||(seen&&(x.key.toList == last.toList))
def Cr (to_:ByteArray) (seq most:Int):List Ent→List Ent→ByteArray→Bool→List Ent×Nat
 | [],out,_,_=>if (out.length:Int)<most then (out,1) else (out,0)
 | x::r,out,last,seen=>
  if (out.length:Int)<most then
   if Du to_ x=true then (out,1) else
   if GR seq last seen x=true then ((Cr to_ seq most r out last seen).1,(Cr to_ seq most r out last seen).2+1) else
   ((Cr to_ seq most r (if x.del then out else out++ [x]) x.key true).1,(Cr to_ seq most r (if x.del then out else out++ [x]) x.key true).2+1)
  else (out,0)
def aA {σ:Type} (f:σ→σ):Nat→σ→σ
 | 0,s=>s
 | n+1,s=>aA f n (f s)
theorem sQ (h:SoundR DP F3 Lt):∀ f,SoundR DP f (UB f):=AY (((AU lf).or (AU h)).or (AU sL)) (AY (((AU gK).or (AU sC)).or (AU sI)) (AY (((AU cm).or (AU gQ)).or (AU gT)) BJ))
theorem Ef {sl:List Nat} {m:Nat} {L:List Ent} (v:Nat):B9 (DH sl m [(m,v,some (L.map AB.f))]) [rowC (L.map AB.f)]:=by
 unfold B9 DH
 simp
theorem Dd {sl:List Nat} {m:Nat} {L:List Ent} (v:Nat):B9 (DH sl m [(m,v,some (L.map AB.f)),(m+1,0,none)]) [rowC (L.map AB.f)]:=by
 unfold B9 DH
 simp
theorem OJ {sl:List Nat} {m:Nat}:B9 (DH sl m []) []:=by
 unfold B9 DH
 simp
section
variable {σ : Type} {TB : σ → List Box} {m : Nat} {good : σ → Prop} {rest : σ → List Ent} {nx : σ → σ} {sk : Ent → σ → σ}
theorem Y2 (h:TopR TB m good rest nx sk) (to_:ByteArray) (seq most:Int):∀ (R:List Ent) (s:σ) (out:List Ent) (last:ByteArray) (seen:Bool),good s→rest s=R→out.length+R.length≤900000000 →
  Rounds (DX TB m to_ seq most) (FE TB m) CN (fun s=>(EV TB m to_ seq most nx (fun s=>(headE (rest s)).1) (fun s=>(headE (rest s)).2.1) s).wp) (s,out,last,seen)
   (.inl (aA nx (Cr to_ seq most R out last seen).2 s,(Cr to_ seq most R out last seen).1)):=by
 intro R
 induction R with
 | nil=>
  intro s out last seen g hr hl
  unfold Cr
  by_cases hm:(out.length:Int)<most
  ·rw[if_pos hm]
   refine .done (by intro e; cases e) ?_
   unfold EV
   refine AC (fun _=>AM (h.next s g _) (AC (fun q=>?_) (fun _=>wp_leaf (Ef 0) ⟨rfl,rfl⟩))) (fun q=>absurd hm (of_decide_eq_false q))
   simp only at q
   rw[hr] at q
   cases q
  ·rw[if_neg hm]
   refine .done (by intro e; cases e) ?_
   unfold EV
   exact AC (fun q=>absurd (of_decide_eq_true q) hm) (fun _=>wp_leaf (Ef 0) ⟨rfl,rfl⟩)
 | cons x R ih=>
  intro s out last seen g hr hl
  have hx:(headE (rest s)).1=x∧(headE (rest s)).2.1=true:=by rw[hr]; exact ⟨rfl,rfl⟩
  obtain ⟨g2,r2⟩:=h.nextR s g
  rw[hr] at r2
  simp only[List.length_cons] at hl
  unfold Cr
  by_cases hm:(out.length:Int)<most
  ·rw[if_pos hm]
   by_cases hst:Du to_ x=true
   ·rw[if_pos hst]
    refine .done (by intro e; cases e) ?_
    have hj:(Fr TB m to_ seq most nx (fun s=>(headE (rest s)).1) (s,out,last,seen) true).wp (fun e c=>e=(FE TB m (nx s,out)).1∧c=(FE TB m (nx s,out)).2):=by
     unfold Fr
     exact Ce (fun _=>wp_leaf (Ef 0) ⟨rfl,rfl⟩) (fun q=>by cases q)
    unfold Du at hst
    rw[Bool.and_eq_true] at hst
    unfold EV
    simp only[hx.1,hx.2]
    have hn:=h.next s g [AB.bx 0 out]
    rw[hx.1,hx.2] at hn
    exact AC (fun _=>AM hn (AC (fun _=>AC (fun _=>AC (fun _=>Ab (Dd 0) hj) (fun q=>by rw[hst.2] at q; cases q)) (fun q=>by rw[hst.1] at q; cases q)) (fun q=>by cases q))) (fun q=>absurd hm (of_decide_eq_false q))
   ·rw[if_neg hst]
    -- the rest of the round
    have fin:∀ (y:σ×List Ent×ByteArray×Bool),(Fr TB m to_ seq most nx (fun s=>(headE (rest s)).1) (s,out,last,seen) false).wp (fun e c=>e=AE.normal∧c=DX TB m to_ seq most y) →
      (EV TB m to_ seq most nx (fun s=>(headE (rest s)).1) (fun s=>(headE (rest s)).2.1) (s,out,last,seen)).wp (fun e c=>e=AE.normal∧c=DX TB m to_ seq most y):=fun y hj=>by
     unfold Du at hst
     unfold EV
     simp only[hx.1,hx.2]
     have hn:=h.next s g [AB.bx 0 out]
     rw[hx.1,hx.2] at hn
     exact AC (fun _=>AM hn (AC (fun _=>AC (fun q1=>AC (fun q2=>absurd (by rw[q1,q2]; rfl) hst) (fun _=>Ab (Dd 0) hj)) (fun _=>Ab (Dd 0) hj)) (fun q=>by cases q))) (fun q=>absurd hm (of_decide_eq_false q))
    by_cases hsk:GR seq last seen x=true
    ·rw[if_pos hsk]
     refine .next (fin (nx s,out,last,seen) ?_) (ih (nx s) out last seen g2 r2 (by omega))
     have hj:(Fq TB m to_ seq most nx (fun s=>(headE (rest s)).1) (s,out,last,seen) true).wp (fun e c=>e=AE.normal∧c=DX TB m to_ seq most (nx s,out,last,seen)):=by
      unfold Fq
      exact Ce (fun _=>wp_leaf (Ef 0) ⟨rfl,rfl⟩) (fun q=>by cases q)
     unfold GR at hsk
     rw[Bool.or_eq_true,Bool.and_eq_true] at hsk
     unfold Fr
     simp only[hx.1]
     exact Ce (fun q=>by cases q) (fun _=>AC (fun _=>Ab (Dd 0) hj) (fun q=>AC (fun q1=>AC (fun _=>Ab (Dd 0) hj) (fun q2=>by
      rcases hsk with h | h
      ·rw[q] at h; cases h
      ·rw[q2] at h; cases h.2)) (fun q1=>by
      rcases hsk with h | h
      ·rw[q] at h; cases h
      ·rw[q1] at h; cases h.1)))
    ·rw[if_neg hsk]
     refine .next (fin (nx s,if x.del then out else out++ [x],x.key,true) ?_) (ih (nx s) _ x.key true g2 r2 (by split <;> (try rw[List.length_append]) <;> (try simp only[List.length_singleton]) <;> omega))
     have hj:(Fq TB m to_ seq most nx (fun s=>(headE (rest s)).1) (s,out,last,seen) false).wp (fun e c=>e=AE.normal∧c=DX TB m to_ seq most (nx s,if x.del then out else out++ [x],x.key,true)):=by
      unfold Fq
      simp only[hx.1]
      refine Ce (fun q=>by cases q) (fun _=>AC (fun q=>?_) (fun q=>?_))
      ·rw[if_pos q]; exact wp_leaf (Ef 0) ⟨rfl,rfl⟩
      ·rw[if_neg (by rw[q]; decide)]
       exact BW (show ASrc.ok AB [x] (.row 1 _) from ⟨rfl,rfl⟩) rfl (by simp; omega) (wp_leaf (Ef 1) ⟨rfl,rfl⟩)
     unfold GR at hsk
     unfold Fr
     simp only[hx.1]
     exact Ce (fun q=>by cases q) (fun _=>AC (fun q=>absurd (by rw[q]; rfl) hsk) (fun q=>AC (fun q1=>AC (fun q2=>absurd (by rw[q,q1,q2]; rfl) hsk) (fun _=>Ab (Dd 0) hj)) (fun _=>Ab (Dd 0) hj)))
  ·rw[if_neg hm]
   refine .done (by intro e; cases e) ?_
   unfold EV
   exact AC (fun q=>absurd (of_decide_eq_true q) hm) (fun _=>wp_leaf (Ef 0) ⟨rfl,rfl⟩)
def Br (k:ByteArray):Ent:=⟨k,72057594037927935,false,⟨#[]⟩⟩
theorem lg (hS:SoundR DP F3 Lt) (h:TopR TB m good rest nx sk) (hc:RLive TB m):SoundR DP JK (fun args B r B'=>∃ (s:σ) (from_ to_:ByteArray) (seq most:Int),good s∧from_.size≤400000000∧args= [.ptr 0 0 0,vs from_,vs to_,vn .u64 seq,vi most]∧B=TB s ∧
  ((72057594037927935<seq∧r= .tup [AI,vi 1]∧B'=TB s)∨(¬72057594037927935<seq∧r= .tup [.rs m 0 4 0 (Cr to_ seq most (BB (Br from_) (rest s)) [] ⟨#[]⟩ false).1.length,vi 0] ∧
   B'=TB (aA nx (Cr to_ seq most (BB (Br from_) (rest s)) [] ⟨#[]⟩ false).2 (sk (Br from_) s))++ [AB.bx 0 (Cr to_ seq most (BB (Br from_) (rest s)) [] ⟨#[]⟩ false).1]))):=Al AZ Γ0_ok (sQ hS) sM sN sO (by
 rintro args B r B' ⟨s,from_,to_,seq,most,g,hf,rfl,rfl,hR⟩
 refine ⟨by rw[sP]; rfl,_,hc s from_ to_ seq most (sk (Br from_)) nx (fun s=>(headE (rest s)).1) (fun s=>(headE (rest s)).2.1),?_⟩
 unfold cu
 rcases hR with ⟨hq,rfl,rfl⟩ | ⟨hq,rfl,rfl⟩
 ·refine AC (fun _=>Ab OJ ?_) (fun q=>absurd hq (of_decide_eq_false q))
  unfold Mo
  exact Ce (fun _=>wp_leaf OJ ⟨rfl,rfl⟩) (fun q=>by cases q)
 ·refine AC (fun q=>absurd (of_decide_eq_true q) hq) (fun _=>Ab OJ ?_)
  have hin:HE (Br from_):=⟨⟨(by decide:(0:Int)≤72057594037927935),(by decide:(72057594037927935:Int)<18446744073709551616)⟩,hf⟩
  have hsq:Dp (Br from_):=⟨(by decide:(0:Int)≤72057594037927935),(by decide:(72057594037927935:Int)≤72057594037927935)⟩
  obtain ⟨g2,r2⟩:=h.seekR s (Br from_) g hin hsq
  have hfew:=h.few _ g2
  have hr:=Y2 h to_ seq most (rest (sk (Br from_) s)) (sk (Br from_) s) [] ⟨#[]⟩ false g2 rfl (by simp; omega)
  rw[r2] at hr
  have hs:=h.seek s (Br from_) g hin hsq []
  rw[List.append_nil,List.append_nil] at hs
  unfold Mo
  refine Ce (fun q=>by cases q) (fun _=>AM hs ?_)
  exact BH _ (Ef (L:= []) 0) hr (wp_leaf (Ef 0) ⟨rfl,rfl⟩))
end

noncomputable def M2:CB:=CZ [(F3,AX Mn)]
abbrev M3 (m n i:Nat):List (Nat×AV):= [(0, .ptr 0 0 0),(3, .ptr m 0 0),(72, .rs 1 0 1 0 n),(73,vi (n:Int)),(74,vi (i:Int))]
noncomputable def aB (B B':List Box) (m n i:Nat) (x:Ent):Tree:=
.callr (some 80) (M2 F3 [.ptr (2+i) 0 0,AB.av x] (B++ [A4 x]) (vi 0) (B'++ [A4 x])) (vi 0) (B'++ [A4 x]) (.leaf (Ik [0,3,72,73,74] (m+1)) [] .normal (some (M3 m n (i+1),B'++ [A4 x])))
noncomputable def gW (B:List Box) (m:Nat):Tree:= .leaf (Ik [0] m) [] (.exit 1) (some ([(0, .ptr 0 0 0)],B))
noncomputable def Lu (B B':List Box) (m n:Nat) (x:Ent):Tree:=
.frag none (Ik [0,3,72,73,74] (m+1)) [] (some (M3 m n 0,B++ [A4 x])) (M3 m n 0,B++ [A4 x])
 (Tri DP 121 m false r9 (St.as (M3 m n 0,B++ [A4 x])) fun e' s'=>e'=(.exit 1)∧s'=St.as ([(0, .ptr 0 0 0)],B'))
 (.exit 1) ([(0, .ptr 0 0 0)],B') (.leaf (Ik [0] m) [] .ret (some ([(0,vi 0)],B')))
def xM (p:List Bool×Nat):Prop:=∀ (D:Dsk) (x0 x1 x2 x3 x4:LeafD) (c:Cur) (x:Ent),
 Bg DP Γ0 M2 121 (Ap p.1) P4 (St.as (M3 (Ap p.1) p.1.length p.2,AT p.1 (l5 p.1.length x0 x1 x2 x3 x4) D++ [A4 x]))
  (aB (AT p.1 (l5 p.1.length x0 x1 x2 x3 x4) D) (HJ (AT p.1 (l5 p.1.length x0 x1 x2 x3 x4) D) p.2 c) (Ap p.1) p.1.length p.2 x) (CP (Ap p.1)) =
  aB (AT p.1 (l5 p.1.length x0 x1 x2 x3 x4) D) (HJ (AT p.1 (l5 p.1.length x0 x1 x2 x3 x4) D) p.2 c) (Ap p.1) p.1.length p.2 x
def xN (ks:List Bool):Prop:=∀ (D:Dsk) (x0 x1 x2 x3 x4:LeafD) (x:Ent),
 Bg DP Γ0 M2 121 (Ap ks) P4 (St.as (M3 (Ap ks) ks.length ks.length,AT ks (l5 ks.length x0 x1 x2 x3 x4) D++ [A4 x])) (gW (AT ks (l5 ks.length x0 x1 x2 x3 x4) D) (Ap ks)) (CP (Ap ks))=gW (AT ks (l5 ks.length x0 x1 x2 x3 x4) D) (Ap ks)
def xO (ks:List Bool):Prop:=∀ (D:Dsk) (x0 x1 x2 x3 x4 y0 y1 y2 y3 y4:LeafD) (x:Ent),
 Av DP Γ0 M2 JF [.ptr 0 0 0,AB.av x] (AT ks (l5 ks.length x0 x1 x2 x3 x4) D) (Lu (AT ks (l5 ks.length x0 x1 x2 x3 x4) D) (AT ks (l5 ks.length y0 y1 y2 y3 y4) D) (Ap ks) ks.length x) =
  Lu (AT ks (l5 ks.length x0 x1 x2 x3 x4) D) (AT ks (l5 ks.length y0 y1 y2 y3 y4) D) (Ap ks) ks.length x
theorem va:Fa xM Rv:=⟨by intro _;intros;kernel_rfl,by intro _;intros;kernel_rfl,by intro _;intros;kernel_rfl,by intro _;intros;kernel_rfl,by intro _;intros;kernel_rfl,by intro _;intros;kernel_rfl,by intro _;intros;kernel_rfl,by intro _;intros;kernel_rfl,by intro _;intros;kernel_rfl,by intro _;intros;kernel_rfl,by intro _;intros;kernel_rfl,by intro _;intros;kernel_rfl,by intro _;intros;kernel_rfl,by intro _;intros;kernel_rfl,by intro _;intros;kernel_rfl,by intro _;intros;kernel_rfl,by intro _;intros;kernel_rfl,by intro _;intros;kernel_rfl,by intro _;intros;kernel_rfl,by intro _;intros;kernel_rfl,by intro _;intros;kernel_rfl,by intro _;intros;kernel_rfl,by intro _;intros;kernel_rfl,by intro _;intros;kernel_rfl,by intro _;intros;kernel_rfl,by intro _;intros;kernel_rfl,by intro _;intros;kernel_rfl,by intro _;intros;kernel_rfl,by intro _;intros;kernel_rfl,by intro _;intros;kernel_rfl,by intro _;intros;kernel_rfl,by intro _;intros;kernel_rfl,by intro _;intros;kernel_rfl,by intro _;intros;kernel_rfl,by intro _;intros;kernel_rfl,by intro _;intros;kernel_rfl,by intro _;intros;kernel_rfl,by intro _;intros;kernel_rfl,by intro _;intros;kernel_rfl,by intro _;intros;kernel_rfl,by intro _;intros;kernel_rfl,by intro _;intros;kernel_rfl,by intro _;intros;kernel_rfl,by intro _;intros;kernel_rfl,by intro _;intros;kernel_rfl,by intro _;intros;kernel_rfl,by intro _;intros;kernel_rfl,trivial⟩
theorem vc:Fa xN BP:=⟨by intro _;intros;kernel_rfl,by intro _;intros;kernel_rfl,by intro _;intros;kernel_rfl,by intro _;intros;kernel_rfl,by intro _;intros;kernel_rfl,by intro _;intros;kernel_rfl,by intro _;intros;kernel_rfl,by intro _;intros;kernel_rfl,by intro _;intros;kernel_rfl,by intro _;intros;kernel_rfl,by intro _;intros;kernel_rfl,by intro _;intros;kernel_rfl,by intro _;intros;kernel_rfl,trivial⟩
theorem vd:Fa xO BP:=⟨by intro _;intros;kernel_rfl,by intro _;intros;kernel_rfl,by intro _;intros;kernel_rfl,by intro _;intros;kernel_rfl,by intro _;intros;kernel_rfl,by intro _;intros;kernel_rfl,by intro _;intros;kernel_rfl,by intro _;intros;kernel_rfl,by intro _;intros;kernel_rfl,by intro _;intros;kernel_rfl,by intro _;intros;kernel_rfl,by intro _;intros;kernel_rfl,by intro _;intros;kernel_rfl,trivial⟩

section
variable {ks : List Bool} {xs : List LeafD} {D : Dsk} {i : Nat} {k : Bool} {x : LeafD}
theorem gX:∀ f,SoundR DP f (M2 f):=AY (AU lf) BJ
theorem gY {c:Code} {n m0:Nat} {s:AS} {T:Tree} {K:AE→St→Prop} (hc:Bg DP Γ0 M2 n m0 c s T (CP m0)=T) (h:T.wp K):Tri DP n m0 false c s (fun e s2=>∃ c:St,s2=c.as∧K e c):=
 Gr AZ Γ0_ok gX c (by rw[hc]; exact h)
theorem ve (hs:ks∈BP) (hi:i<ks.length) (hl:xs.length=ks.length) (c:Cur) (x:Ent):
  Bg DP Γ0 M2 121 (Ap ks) P4 (St.as (M3 (Ap ks) ks.length i,AT ks xs D++ [A4 x])) (aB (AT ks xs D) (HJ (AT ks xs D) i c) (Ap ks) ks.length i x) (CP (Ap ks))=aB (AT ks xs D) (HJ (AT ks xs D) i c) (Ap ks) ks.length i x:=by
 have hc:Bg DP Γ0 M2 121 (Ap ks) P4 (St.as (M3 (Ap ks) ks.length i,AT ks (l5 ks.length (xs.getD 0 zD) (xs.getD 1 zD) (xs.getD 2 zD) (xs.getD 3 zD) (xs.getD 4 zD)) D++ [A4 x])) (aB (AT ks (l5 ks.length (xs.getD 0 zD) (xs.getD 1 zD) (xs.getD 2 zD) (xs.getD 3 zD) (xs.getD 4 zD)) D) (HJ (AT ks (l5 ks.length (xs.getD 0 zD) (xs.getD 1 zD) (xs.getD 2 zD) (xs.getD 3 zD) (xs.getD 4 zD)) D) i c) (Ap ks) ks.length i x) (CP (Ap ks))=_:=Cj va (ks,i) (N8 ks hs i hi) D _ _ _ _ _ c x
 rw[←DR zD hl (Bp ks hs)] at hc
 exact hc
theorem vf (hs:ks∈BP) (hl:xs.length=ks.length) (x:Ent):
  Bg DP Γ0 M2 121 (Ap ks) P4 (St.as (M3 (Ap ks) ks.length ks.length,AT ks xs D++ [A4 x])) (gW (AT ks xs D) (Ap ks)) (CP (Ap ks))=gW (AT ks xs D) (Ap ks):=by
 have hc:Bg DP Γ0 M2 121 (Ap ks) P4 (St.as (M3 (Ap ks) ks.length ks.length,AT ks (l5 ks.length (xs.getD 0 zD) (xs.getD 1 zD) (xs.getD 2 zD) (xs.getD 3 zD) (xs.getD 4 zD)) D++ [A4 x])) (gW (AT ks (l5 ks.length (xs.getD 0 zD) (xs.getD 1 zD) (xs.getD 2 zD) (xs.getD 3 zD) (xs.getD 4 zD)) D) (Ap ks)) (CP (Ap ks))=_:=Cj vc ks hs D _ _ _ _ _ x
 rw[←DR zD hl (Bp ks hs)] at hc
 exact hc
theorem vg (hs:ks∈BP) {ys:List LeafD} (hl:xs.length=ks.length) (hl2:ys.length=ks.length) (x:Ent):
  Av DP Γ0 M2 JF [.ptr 0 0 0,AB.av x] (AT ks xs D) (Lu (AT ks xs D) (AT ks ys D) (Ap ks) ks.length x)=Lu (AT ks xs D) (AT ks ys D) (Ap ks) ks.length x:=by
 have hc:Av DP Γ0 M2 JF [.ptr 0 0 0,AB.av x] (AT ks (l5 ks.length (xs.getD 0 zD) (xs.getD 1 zD) (xs.getD 2 zD) (xs.getD 3 zD) (xs.getD 4 zD)) D) (Lu (AT ks (l5 ks.length (xs.getD 0 zD) (xs.getD 1 zD) (xs.getD 2 zD) (xs.getD 3 zD) (xs.getD 4 zD)) D) (AT ks (l5 ks.length (ys.getD 0 zD) (ys.getD 1 zD) (ys.getD 2 zD) (ys.getD 3 zD) (ys.getD 4 zD)) D) (Ap ks) ks.length x)=_:=Cj vd ks hs D _ _ _ _ _ _ _ _ _ _ x
 rw[←DR zD hl (Bp ks hs),←DR zD hl2 (Bp ks hs)] at hc
 exact hc
theorem kW (h:xs.length=ks.length) (hk:ks[i]? = some k) (hx:xs[i]? = some x) {y:LeafD} {e:Ent} (g:Xh D k x y e) (T:List Box):
  AX Mn [.ptr (2+i) 0 0,AB.av e] (AT ks xs D++T) (vi 0) (HJ (AT ks xs D) i y.c++T)∧y=x.put y.c:=by
 have hi:i<ks.length:=(List.getElem?_eq_some_iff.1 hk).1
 have hl:2+i<(AT ks xs D).length:=by rw[Lo h]; unfold Ap; omega
 have e1:=Mk (D:=D) h hk hx
 have hB:(AT ks xs D++T)[2+i]? = some (F4 k (2+ks.length+BS (ks.take i)) x.c):=by rw[List.getElem?_append_left hl,e1]
 obtain ⟨g1,g2,g3,g4,rfl⟩:=g
 refine ⟨?_,rfl⟩
 rw[PR h hk hx,←PQ h hk hx,←List.set_append_left _ _ hl]
 obtain ⟨c,nm,F⟩:=x
 obtain ⟨L,pg,bad⟩:=c
 have hb:bad=0:=g1.bad
 subst hb
 cases k with
 | false=>exact Hl (R:=Mn) (.inl ⟨L,pg,e,rfl,rfl,rfl,rfl⟩) hB (fun _ _=>rfl) (fun _=>rfl) rfl
 | true=>
  have hd:(AT ks xs D++T)[2+ks.length+BS ks]? = some (BD D):=by
   have:=Qb (D:=D) h hk
   rw[List.getElem?_append_left (List.getElem?_eq_some_iff.1 this).1,this]
  have hf:(AT ks xs D++T)[2+ks.length+BS (ks.take i)]? = some (filC (2+ks.length+BS ks) nm F):=by
   have:=Qa (D:=D) h hk hx
   rw[List.getElem?_append_left (List.getElem?_eq_some_iff.1 this).1,this]
  exact Hk (R:=Mn) (.inr ⟨D,nm,F,L,pg,e,g1,g2,g4 rfl,g3,rfl,rfl,rfl,rfl⟩) hd hf hB (fun _ _=>rfl) (fun _=>rfl) rfl
theorem Y3 (hs:ks∈BP) {e:Ent}:∀ (kt kd:List Bool) (xt xd ys:List LeafD),ks=kd++kt→xd.length=kd.length→xt.length=kt.length→ys.length=kt.length →
  (∀ (i:Nat) (k:Bool) (a b:LeafD),kt[i]? = some k→xt[i]? = some a→ys[i]? = some b→Xh D k a b e) →
  Tri DP 121 (Ap ks) true P4 (St.as (M3 (Ap ks) ks.length kd.length,AT ks (xd++xt) D++ [A4 e])) fun e' s'=>e'= .exit 1∧s'=St.as ([(0, .ptr 0 0 0)],AT ks (xd++ys) D):=by
 intro kt
 have h5:=Bp ks hs
 induction kt with
 | nil=>
  intro kd xt xd ys hk hd ht hy _
  obtain rfl:xt= []:=List.length_eq_zero_iff.1 ht
  obtain rfl:ys= []:=List.length_eq_zero_iff.1 hy
  have hkl:kd.length=ks.length:=by rw[hk]; simp
  have hc:=vf (D:=D) hs (xs:=xd++ []) (by simp; omega) e
  rw[hkl]
  refine Tri.round ((gY (K:=fun e' c=>e'= .exit 1∧c=([(0, .ptr 0 0 0)],AT ks (xd++ []) D)) hc (wp_leaf (wdN_ok _ _) ⟨rfl,rfl⟩)).conseq fun e' s' hk=>?_)
  obtain ⟨c,rfl,rfl,rfl⟩:=hk
  exact ⟨rfl,rfl⟩
 | cons k kt ih=>
  intro kd xt xd ys hk hd ht hy hg
  cases xt with
  | nil=>cases ht
  | cons x xt=>
  cases ys with
  | nil=>cases hy
  | cons y ys=>
  have hi:kd.length<ks.length:=by rw[hk]; simp
  have hkk:ks[kd.length]? = some k:=by rw[hk]; exact PS kd kt k
  have hxx:(xd++x::xt)[kd.length]? = some x:=by rw[←hd]; exact PS xd xt x
  have hlen:(xd++x::xt).length=ks.length:=by
   rw[hk]
   simp only[List.length_append,List.length_cons] at ht ⊢
   omega
  have g:=hg 0 k x y rfl rfl rfl
  obtain ⟨hp,hyc⟩:=kW (D:=D) hlen hkk hxx g [A4 e]
  have hc:=ve (D:=D) hs hi hlen y.c e
  have hu:=PR (D:=D) hlen hkk hxx y.c
  have hset:(xd++x::xt).set kd.length (x.put y.c)=(xd++ [y])++xt:=by
   rw[←hd,TP,←hyc]; simp
  have hr:=ih (kd++ [k]) xt (xd++ [y]) ys (by rw[hk]; simp) (by simp[hd]) (by simpa using ht) (by simpa using hy) (fun i k' a b h1 h2 h3=>hg (i+1) k' a b (by simpa using h1) (by simpa using h2) (by simpa using h3))
  have hle:(kd++ [k]).length=kd.length+1:=by simp
  rw[hle] at hr
  have hend:xd++y::ys=(xd++ [y])++ys:=by simp
  rw[hend]
  refine Tri.round ((gY (K:=fun e' c=>e'= .normal∧c=(M3 (Ap ks) ks.length (kd.length+1),AT ks (xd++ [y]++xt) D++ [A4 e])) hc ?_).conseq fun e' s' hk=>?_)
  ·rw[hu,hset] at hp ⊢
   unfold aB
   exact AM hp (wp_leaf (wdN_ok _ _) ⟨rfl,rfl⟩)
  ·obtain ⟨c,rfl,rfl,rfl⟩:=hk
   exact hr
end
theorem gZ:SoundR DP F3 Lt:=Al AZ Γ0_ok gX Rq Rr Rs (by
 rintro args B r B' ⟨D,ks,xs,ys,x,hs,hl,hl2,hg,rfl,rfl,rfl,rfl⟩
 refine ⟨by rw[Rt]; rfl,_,vg hs hl hl2 x,?_⟩
 unfold Lu
 refine Lp (wdN_ok _ _) ?_ (wp_leaf (wdN_ok _ _) ⟨rfl,rfl⟩)
 rw[gU]
 exact .loop (Y3 hs ks [] xs [] ys rfl rfl hl hl2 hg))
theorem Xi:TopR (σ:=List Ent) (fun L=>Do ⟨L,0,0⟩) 1 (fun L=>L.length≤100000000) (fun L=>L) (fun L=>L.drop 1) (fun e L=>BB e L) where
 next:=fun L h T=>by
  have:=gL (B:=Do ⟨L,0,0⟩++T) (c:=⟨L,0,0⟩) (l:=0) rfl
  refine .inl (.inl ?_)
  cases L with
  | nil=>exact this
  | cons x L=>exact this
 nextR:=fun L h=>⟨by simp; omega,rfl⟩
 seek:=fun L e h he _ T=> .inl (.inl (Hl (R:=Mn) (c:=⟨L,0,0⟩) (c':=⟨BB e L,0,0⟩) (B:=Do ⟨L,0,0⟩++T) (l:=0) (.inl ⟨L,0,e,rfl,rfl,rfl,rfl⟩) rfl (fun _ _=>rfl) (fun _=>rfl) rfl))
 seekR:=fun L e h he _=>⟨Nat.le_trans (List.dropWhile_sublist _).length_le h,rfl⟩
 few:=fun L h=>h

def CQ:Enc (List Ent):=⟨fun L=> .ls (L.map AB.f),1,fun _=>rfl,fun _=>rfl⟩
noncomputable def ΓC7:BF:=DG [(Lj,PK)]

noncomputable def Xj (L:List Ent):Tree:=
.call 4 (PK [vl (L.map AB.f)]=some (vl (L.map AB.f))) (vl (L.map AB.f)) (.leaf ⟨[0],[(0,0,none)]⟩ [] .ret (some ([(0, .ptr 0 0 0)],[.cells false 0 ([vi 1,vl (L.map AB.f), .p (.v (.pointer none)),vi 0,AI,vi 0])])))

theorem cv (L:List Ent):Av DP ΓC7 Δ0 Tryd.f11 [vl (L.map AB.f)] [] (Xj L)=Xj L:=by kernel_rfl

noncomputable def ga (D:Dsk) (nm:ByteArray) (F:FileR):Tree:=
.leaf ⟨[0],[(0,0,none),(1,0,none),(2,0,none)]⟩ [] .ret (some ([(0, .ptr 2 0 0)],[.obj [] (AH D), .cells false 0 ([.op 0,vs nm,vl (F.idx.map AK.f),vl (F.bits.map AA.f),vi F.cnt,vs F.low,vs F.high]), .cells false 0 ([vi 2,AI, .ptr 1 0 0,vi 0,AI,vi 0])]))

theorem cx (D:Dsk) (nm:ByteArray) (F:FileR):Av DP Γ0 Δ0 Tryd.f24 [.ptr 1 0 0] [.obj [] (AH D), .cells false 0 ([.op 0,vs nm,vl (F.idx.map AK.f),vl (F.bits.map AA.f),vi F.cnt,vs F.low,vs F.high])] (ga D nm F)=ga D nm F:=by kernel_rfl

noncomputable def JM (ll:List (List Ent)) (s1:Int):St:=([(10,vl (ll.map CQ.f)),(11,vi (ll.length:Int)),(12,vi s1)],[])
noncomputable def JN (x1:Unit):AE×St:=(.ret,([(2,vb true)],[]))
noncomputable def LF (y1:Unit):AE×St:=((.exit 0),([],[]))
noncomputable def JO (ll:List (List Ent)) (s1:Int) (e1:(List Ent)) (s2:Int):St:=([(10,vl (ll.map CQ.f)),(11,vi (ll.length:Int)),(12,vi s1),(19,vl (e1.map AB.f)),(20,vi (e1.length:Int)),(21,vi s2)],[])
noncomputable def JP (x2:Unit):AE×St:=(.ret,([(2,vb true)],[]))
noncomputable def LG (ll:List (List Ent)) (s1:Int) (y2:Unit):AE×St:=((.exit 2),([(10,vl (ll.map CQ.f)),(11,vi (ll.length:Int)),(12,vi s1)],[]))
noncomputable def HK (ll:List (List Ent)) (s1:Int) (e1:(List Ent)) (s2:Int):Tree:=
.sp 22 (decide (s2<(e1.length:Int))) (
.elem 23 (e1.map AB.f) AB e1 s2 (fun e2=> .sp 28 (decide ((e2.key.size:Int)>(200:Int))) (
.leaf ⟨[2],[]⟩ [] .ret (some (JP ()).2)) (
.sp 33 (decide ((e2.val.size:Int)>(200:Int))) (
.leaf ⟨[2],[]⟩ [] .ret (some (JP ()).2)) (
.int 35 (IntKind.i64.wrap (s2+1)) (s2+1) (.leaf ⟨[10,11,12,19,20,21],[]⟩ [] .normal (some (JO ll s1 e1 (s2+1)))))))) (
.leaf ⟨[10,11,12],[]⟩ [] (.exit 2) (some (LG ll s1 ()).2))
noncomputable def HL (ll:List (List Ent)) (s1:Int):Tree:=
.sp 13 (decide (s1<(ll.length:Int))) (
.elem 14 (ll.map CQ.f) CQ ll s1 (fun e1=> .int 17 ((e1.map AB.f).length:Int) (e1.length:Int) (.sp 18 (decide ((e1.length:Int)>(25:Int))) (
.leaf ⟨[2],[]⟩ [] .ret (some (JN ()).2)) (
.int 20 ((e1.map AB.f).length:Int) (e1.length:Int) (.loop ⟨[10,11,12,19,20,21],[]⟩ [] (some (JO ll s1 e1 0)) (JO ll s1 e1) (JP) (LG ll s1) 0 (HK ll s1 e1) (fun (x2:Unit)=> .leaf ⟨[2],[]⟩ [] .ret (some (JN ()).2)) (fun (y2:Unit)=> .int 36 (IntKind.i64.wrap (s1+1)) (s1+1) (.leaf ⟨[10,11,12],[]⟩ [] .normal (some (JM ll (s1+1)))))))))) (
.leaf ⟨[],[]⟩ [] (.exit 0) (some (LF ()).2))
noncomputable def cy (ll:List (List Ent)):Tree:=
.int 8 ((ll.map CQ.f).length:Int) (ll.length:Int) (.sp 9 (decide ((ll.length:Int)>(5:Int))) (
.leaf ⟨[0],[]⟩ [] .ret (some ([(0,vb true)],[]))) (
.int 11 ((ll.map CQ.f).length:Int) (ll.length:Int) (.loop ⟨[10,11,12],[]⟩ [] (some (JM ll 0)) (JM ll) (JN) (LF) 0 (HL ll) (fun (x1:Unit)=> .leaf ⟨[0],[]⟩ [] .ret (some ([(0,vb true)],[]))) (fun (y1:Unit)=> .leaf ⟨[0],[]⟩ [] .ret (some ([(0,vb false)],[]))))))

theorem gb (ll:List (List Ent)):Av DP Γ0 Δ0 Tryd.f9 [vl (ll.map CQ.f)] [] (cy ll)=cy ll:=by kernel_rfl

abbrev R4:Nat:=8
noncomputable abbrev ge:Func:=Tryd.f8
theorem oG:DP.funcs[R4]? = some ge:=by kernel_rfl
theorem oH:Ak DP R4=true:=by kernel_rfl
theorem oI:ge.body.isSome=true:=by kernel_rfl
abbrev R5:Nat:=9
noncomputable abbrev cz:Func:=Tryd.f9
theorem sR:DP.funcs[R5]? = some cz:=by kernel_rfl
theorem sS:Ak DP R5=true:=by kernel_rfl
theorem sT:cz.body.isSome=true:=by kernel_rfl
theorem sU:cz.ntmps=37:=by kernel_rfl


theorem ΓC7_ok:∀ f,SoundF DP f (ΓC7 f):=An nv Bu
def OK:Ae:=fun args B r B'=>∃ L:List Ent,L.length≤1000000000∧args= [vl (L.map AB.f)]∧B= []∧r= .ptr 0 0 0∧B'=Do ⟨L,0,0⟩
theorem Xk:SoundR DP Ll OK:=Al AZ ΓC7_ok Bq n6 n7 n8 (by
 rintro args B r B' ⟨L,hL,rfl,rfl,rfl,rfl⟩
 refine ⟨by rw[n9]; rfl,_,cv L,?_⟩
 unfold Xj
 exact Ac (cV hL) (wp_leaf rfl ⟨rfl,rfl⟩))
theorem gf {B:List Box} {L:List Ent} (hL:L.length≤1000000000):AX OK [vl (L.map AB.f)] B (.ptr B.length 0 0) (B++Do ⟨L,0,0⟩):=by
 refine ⟨_,_,_,_,⟨L,hL,rfl,rfl,rfl,rfl⟩,⟨[],[],[],[],Do ⟨L,0,0⟩,rfl,rfl,?_,rfl,trivial,⟨.cells ?_ ?_ rfl,trivial⟩,?_,?_,rfl⟩⟩
 ·simp[AV.rv.rvL,AV.rv]
 ·simp[BM]
 ·simp[AV.rv.rvL,AV.rv,Bc,BM]
 ·rw[Bh]
 ·simp[AV.rv,Bc,BM]
abbrev HM (L:List Ent) (from_ to_:ByteArray) (seq most:Int):List Ent:=(Cr to_ seq most (BB (Br from_) L) [] ⟨#[]⟩ false).1
abbrev R6 (L:List Ent) (from_ to_:ByteArray) (seq most:Int):List Ent:=aA (fun L:List Ent=>L.drop 1) (Cr to_ seq most (BB (Br from_) L) [] ⟨#[]⟩ false).2 (BB (Br from_) L)
def Xl:Ae:=fun args B r B'=>∃ (L:List Ent) (from_ to_:ByteArray) (seq most:Int),L.length≤100000000∧from_.size≤400000000∧¬72057594037927935<seq∧args= [.ptr 0 0 0,vs from_,vs to_,vn .u64 seq,vi most]∧B=Do ⟨L,0,0⟩ ∧
 r= .tup [.rs 1 0 4 0 (HM L from_ to_ seq most).length,vi 0]∧B'=Do ⟨R6 L from_ to_ seq most,0,0⟩++ [AB.bx 0 (HM L from_ to_ seq most)]
theorem sV:SoundR DP JK Xl:=(lg gZ Xi gV).mono (by
 rintro args B r B' ⟨L,from_,to_,seq,most,hL,hf,hq,rfl,rfl,rfl,rfl⟩
 exact ⟨L,from_,to_,seq,most,hL,hf,rfl,rfl, .inr ⟨hq,rfl,rfl⟩⟩)
theorem sW {B:List Box} {l:Nat} {L:List Ent} {from_ to_:ByteArray} {seq most:Int} (hL:L.length≤100000000) (hf:from_.size≤400000000) (hq:¬72057594037927935<seq) (hl:B[l]? = some (curB 1 nilQ ⟨L,0,0⟩)):
  AX Xl [.ptr l 0 0,vs from_,vs to_,vn .u64 seq,vi most] B (.tup [.rs B.length 0 4 0 (HM L from_ to_ seq most).length,vi 0]) (B.set l (curB 1 nilQ ⟨R6 L from_ to_ seq most,0,0⟩)++ [AB.bx 0 (HM L from_ to_ seq most)]):=by
 have hll:l<B.length:=(List.getElem?_eq_some_iff.1 hl).1
 refine ⟨_,_,_,_,⟨L,from_,to_,seq,most,hL,hf,hq,rfl,rfl,rfl,rfl⟩,⟨[l],[0],[curB 1 nilQ ⟨L,0,0⟩],[curB 1 nilQ ⟨R6 L from_ to_ seq most,0,0⟩],[AB.bx 0 (HM L from_ to_ seq most)],?_,?_,?_,?_,⟨.cells ?_ ?_ rfl,trivial⟩,⟨.cells ?_ ?_ rfl, .row true 0 _,trivial⟩,?_,?_,rfl⟩⟩
 ·simp[DO,Nat.blt_eq,hll]
 ·simp[hl]
 ·simp[AV.rv.rvL,AV.rv,Bc,BM]
 ·rfl
 all_goals first
  | (simp[BM]; done)
  | (simp[AV.rv.rvL,AV.rv,Bc,BM]; done)
  | (rw[Bh,Bh]; done)
def Mp (x:Ent):Bool:=decide ((x.key.size:Int)>200)||decide ((x.val.size:Int)>200)
def HN (l:List Ent):Bool:=decide ((l.length:Int)>25)||l.any Mp
def GS (ll:List (List Ent)):Bool:=decide ((ll.length:Int)>5)||ll.any HN
theorem gg (ll:List (List Ent)) (s1:Int) (e1:List Ent) (hN:e1.length≤25):∀ (M:List Ent) (j:Nat),e1.drop j=M→j+M.length=e1.length →
  Rounds (JO ll s1 e1) JP (LG ll s1) (fun s=>(HK ll s1 e1 s).wp) (j:Int) (if M.any Mp then .inl () else .inr ()):=by
 intro M
 induction M with
 | nil=>
  intro j hM hl
  simp only[List.length_nil] at hl
  refine .done' (by intro e; cases e) ?_
  unfold HK
  exact AC (fun q=>absurd (of_decide_eq_true q) (by omega)) (fun _=>wp_leaf rfl ⟨rfl,rfl⟩)
 | cons x M ih=>
  intro j hM hl
  simp only[List.length_cons] at hl
  have gx:e1[j]? = some x:=by rw[←List.head?_drop,hM]; rfl
  have hr:=ih (j+1) (by rw[←List.drop_drop,hM]; rfl) (by omega)
  rw[show ((j+1:Nat):Int)=(j:Int)+1 by omega] at hr
  by_cases hb:Mp x=true
  ·rw[List.any_cons,hb,Bool.true_or,if_pos rfl]
   refine .done (by intro e; cases e) ?_
   unfold Mp at hb
   unfold HK
   exact AC (fun _=>Ci x (by omega) (by simpa using gx) (AC (fun _=>wp_leaf rfl ⟨rfl,rfl⟩) (fun q1=>AC (fun _=>wp_leaf rfl ⟨rfl,rfl⟩) (fun q2=>by rw[q1,q2] at hb; cases hb)))) (fun q=>absurd (of_decide_eq_false q) (by omega))
  ·have hb0:Mp x=false:=by simpa using hb
   rw[List.any_cons,hb0,Bool.false_or]
   refine .next ?_ hr
   unfold Mp at hb
   unfold HK
   exact AC (fun _=>Ci x (by omega) (by simpa using gx) (AC (fun q1=>absurd (by rw[q1]; rfl) hb) (fun _=>AC (fun q2=>absurd (by rw[q2,Bool.or_true]) hb) (fun _=>AP (by omega) (wp_leaf rfl ⟨rfl,rfl⟩))))) (fun q=>absurd (of_decide_eq_false q) (by omega))
theorem oJ (ll:List (List Ent)) (hN:ll.length≤5):∀ (M:List (List Ent)) (j:Nat),ll.drop j=M→j+M.length=ll.length →
  Rounds (JM ll) JN LF (fun s=>(HL ll s).wp) (j:Int) (if M.any HN then .inl () else .inr ()):=by
 intro M
 induction M with
 | nil=>
  intro j hM hl
  simp only[List.length_nil] at hl
  refine .done' (by intro e; cases e) ?_
  unfold HL
  exact AC (fun q=>absurd (of_decide_eq_true q) (by omega)) (fun _=>wp_leaf rfl ⟨rfl,rfl⟩)
 | cons l M ih=>
  intro j hM hl
  simp only[List.length_cons] at hl
  have gx:ll[j]? = some l:=by rw[←List.head?_drop,hM]; rfl
  have hr:=ih (j+1) (by rw[←List.drop_drop,hM]; rfl) (by omega)
  rw[show ((j+1:Nat):Int)=(j:Int)+1 by omega] at hr
  by_cases hb:HN l=true
  ·rw[List.any_cons,hb,Bool.true_or,if_pos rfl]
   refine .done (by intro e; cases e) ?_
   unfold HL
   refine AC (fun _=>Ci l (by omega) (by simpa using gx) (Aq (AC (fun _=>wp_leaf rfl ⟨rfl,rfl⟩) (fun q1=>Aq ?_)))) (fun q=>absurd (of_decide_eq_false q) (by omega))
   have hin:=gg ll (j:Int) l (by have:=of_decide_eq_false q1; omega) l 0 List.drop_zero (Nat.zero_add _)
   unfold HN at hb
   rw[q1,Bool.false_or] at hb
   rw[hb,if_pos rfl] at hin
   exact BH _ rfl hin (wp_leaf rfl ⟨rfl,rfl⟩)
  ·have hb0:HN l=false:=by simpa using hb
   rw[List.any_cons,hb0,Bool.false_or]
   refine .next ?_ hr
   unfold HN at hb0
   rw[Bool.or_eq_false_iff] at hb0
   unfold HL
   refine AC (fun _=>Ci l (by omega) (by simpa using gx) (Aq (AC (fun q1=>by rw[hb0.1] at q1; cases q1) (fun q1=>Aq ?_)))) (fun q=>absurd (of_decide_eq_false q) (by omega))
   have hin:=gg ll (j:Int) l (by have:=of_decide_eq_false q1; omega) l 0 List.drop_zero (Nat.zero_add _)
   rw[hb0.2,if_neg (by decide)] at hin
   exact Dk _ rfl hin (AP (by omega) (wp_leaf rfl ⟨rfl,rfl⟩))
theorem vh:SoundR DP R5 (fun args B r B'=>∃ ll:List (List Ent),args= [vl (ll.map CQ.f)]∧B= []∧r=vb (GS ll)∧B'= []):=Al AZ Γ0_ok Bq sR sS sT (by
 rintro args B r B' ⟨ll,rfl,rfl,rfl,rfl⟩
 refine ⟨by rw[sU]; rfl,_,gb ll,?_⟩
 unfold cy GS
 refine Aq (AC (fun q=>?_) (fun q=>Aq ?_))
 ·rw[q,Bool.true_or]; exact wp_leaf rfl ⟨rfl,rfl⟩
 ·have ho:=oJ ll (by have:=of_decide_eq_false q; omega) ll 0 List.drop_zero (Nat.zero_add _)
  rw[q,Bool.false_or]
  by_cases hb:ll.any HN=true
  ·rw[hb,if_pos rfl] at ho
   rw[hb]
   exact BH _ rfl ho (wp_leaf rfl ⟨rfl,rfl⟩)
  ·have hb0:ll.any HN=false:=by simpa using hb
   rw[hb0,if_neg (by decide)] at ho
   rw[hb0]
   exact Dk _ rfl ho (wp_leaf rfl ⟨rfl,rfl⟩))
def c6:Ae:=fun args B r B'=>∃ ll:List (List Ent),args= [vl (ll.map CQ.f)]∧B= []∧r=vb (GS ll)∧B'= []
theorem lh {B:List Box} (ll:List (List Ent)):AX c6 [vl (ll.map CQ.f)] B (vb (GS ll)) B:=fZ (R:=c6) ⟨ll,rfl,rfl,rfl,rfl⟩ (fun _ _=>rfl) (fun _=>rfl) rfl

noncomputable def aC:CB:=CZ [(Ll,Pw (AX OK) (KM (AX OK))),(JK,AX Xl)]

noncomputable def Xm (o1:List Ent) (r1:List Ent) (o2:List Ent) (r2:List Ent):Tree:=
.sealslot 2 1 (rowC (([(⟨(⟨#[97]⟩:ByteArray),5,false,(⟨#[]⟩:ByteArray)⟩:Ent),(⟨(⟨#[98]⟩:ByteArray),4,true,(⟨#[]⟩:ByteArray)⟩:Ent),(⟨(⟨#[98]⟩:ByteArray),2,false,(⟨#[]⟩:ByteArray)⟩:Ent),(⟨(⟨#[99]⟩:ByteArray),9,false,(⟨#[]⟩:ByteArray)⟩:Ent)]).map AB.f)) (([(⟨(⟨#[97]⟩:ByteArray),5,false,(⟨#[]⟩:ByteArray)⟩:Ent),(⟨(⟨#[98]⟩:ByteArray),4,true,(⟨#[]⟩:ByteArray)⟩:Ent),(⟨(⟨#[98]⟩:ByteArray),2,false,(⟨#[]⟩:ByteArray)⟩:Ent),(⟨(⟨#[99]⟩:ByteArray),9,false,(⟨#[]⟩:ByteArray)⟩:Ent)]).length) AB ([(⟨(⟨#[97]⟩:ByteArray),5,false,(⟨#[]⟩:ByteArray)⟩:Ent),(⟨(⟨#[98]⟩:ByteArray),4,true,(⟨#[]⟩:ByteArray)⟩:Ent),(⟨(⟨#[98]⟩:ByteArray),2,false,(⟨#[]⟩:ByteArray)⟩:Ent),(⟨(⟨#[99]⟩:ByteArray),9,false,(⟨#[]⟩:ByteArray)⟩:Ent)]) (.callr (some 13) (aC 11 [vl (([(⟨(⟨#[97]⟩:ByteArray),5,false,(⟨#[]⟩:ByteArray)⟩:Ent),(⟨(⟨#[98]⟩:ByteArray),4,true,(⟨#[]⟩:ByteArray)⟩:Ent),(⟨(⟨#[98]⟩:ByteArray),2,false,(⟨#[]⟩:ByteArray)⟩:Ent),(⟨(⟨#[99]⟩:ByteArray),9,false,(⟨#[]⟩:ByteArray)⟩:Ent)]).map AB.f)] [.dead] (.ptr 1 0 0) [.dead, .cells false 0 ([vi 1,vl (([(⟨(⟨#[97]⟩:ByteArray),5,false,(⟨#[]⟩:ByteArray)⟩:Ent),(⟨(⟨#[98]⟩:ByteArray),4,true,(⟨#[]⟩:ByteArray)⟩:Ent),(⟨(⟨#[98]⟩:ByteArray),2,false,(⟨#[]⟩:ByteArray)⟩:Ent),(⟨(⟨#[99]⟩:ByteArray),9,false,(⟨#[]⟩:ByteArray)⟩:Ent)]).map AB.f), .p (.v (.pointer none)),vi 0,AI,vi 0])]) (.ptr 1 0 0) [.dead, .cells false 0 ([vi 1,vl (([(⟨(⟨#[97]⟩:ByteArray),5,false,(⟨#[]⟩:ByteArray)⟩:Ent),(⟨(⟨#[98]⟩:ByteArray),4,true,(⟨#[]⟩:ByteArray)⟩:Ent),(⟨(⟨#[98]⟩:ByteArray),2,false,(⟨#[]⟩:ByteArray)⟩:Ent),(⟨(⟨#[99]⟩:ByteArray),9,false,(⟨#[]⟩:ByteArray)⟩:Ent)]).map AB.f), .p (.v (.pointer none)),vi 0,AI,vi 0])] (.callr (some 14) (aC 20 [.ptr 1 0 0,vs (⟨#[]⟩),vs (⟨#[]⟩),vn .u64 8,vi 9] [.dead, .cells false 0 ([vi 1,vl (([(⟨(⟨#[97]⟩:ByteArray),5,false,(⟨#[]⟩:ByteArray)⟩:Ent),(⟨(⟨#[98]⟩:ByteArray),4,true,(⟨#[]⟩:ByteArray)⟩:Ent),(⟨(⟨#[98]⟩:ByteArray),2,false,(⟨#[]⟩:ByteArray)⟩:Ent),(⟨(⟨#[99]⟩:ByteArray),9,false,(⟨#[]⟩:ByteArray)⟩:Ent)]).map AB.f), .p (.v (.pointer none)),vi 0,AI,vi 0])] (.tup [.rs 2 0 4 0 o1.length,vi 0]) [.dead, .cells false 0 ([vi 1,vl (r1.map AB.f), .p (.v (.pointer none)),vi 0,AI,vi 0]),AB.bx 0 o1]) (.tup [.rs 2 0 4 0 o1.length,vi 0]) [.dead, .cells false 0 ([vi 1,vl (r1.map AB.f), .p (.v (.pointer none)),vi 0,AI,vi 0]),AB.bx 0 o1] (.callr (some 19) (aC 11 [vl (([(⟨(⟨#[97]⟩:ByteArray),5,false,(⟨#[]⟩:ByteArray)⟩:Ent),(⟨(⟨#[98]⟩:ByteArray),4,true,(⟨#[]⟩:ByteArray)⟩:Ent),(⟨(⟨#[98]⟩:ByteArray),2,false,(⟨#[]⟩:ByteArray)⟩:Ent),(⟨(⟨#[99]⟩:ByteArray),9,false,(⟨#[]⟩:ByteArray)⟩:Ent)]).map AB.f)] [.dead, .cells false 0 ([vi 1,vl (r1.map AB.f), .p (.v (.pointer none)),vi 0,AI,vi 0]),AB.bx 0 o1] (.ptr 3 0 0) [.dead, .cells false 0 ([vi 1,vl (r1.map AB.f), .p (.v (.pointer none)),vi 0,AI,vi 0]),AB.bx 0 o1, .cells false 0 ([vi 1,vl (([(⟨(⟨#[97]⟩:ByteArray),5,false,(⟨#[]⟩:ByteArray)⟩:Ent),(⟨(⟨#[98]⟩:ByteArray),4,true,(⟨#[]⟩:ByteArray)⟩:Ent),(⟨(⟨#[98]⟩:ByteArray),2,false,(⟨#[]⟩:ByteArray)⟩:Ent),(⟨(⟨#[99]⟩:ByteArray),9,false,(⟨#[]⟩:ByteArray)⟩:Ent)]).map AB.f), .p (.v (.pointer none)),vi 0,AI,vi 0])]) (.ptr 3 0 0) [.dead, .cells false 0 ([vi 1,vl (r1.map AB.f), .p (.v (.pointer none)),vi 0,AI,vi 0]),AB.bx 0 o1, .cells false 0 ([vi 1,vl (([(⟨(⟨#[97]⟩:ByteArray),5,false,(⟨#[]⟩:ByteArray)⟩:Ent),(⟨(⟨#[98]⟩:ByteArray),4,true,(⟨#[]⟩:ByteArray)⟩:Ent),(⟨(⟨#[98]⟩:ByteArray),2,false,(⟨#[]⟩:ByteArray)⟩:Ent),(⟨(⟨#[99]⟩:ByteArray),9,false,(⟨#[]⟩:ByteArray)⟩:Ent)]).map AB.f), .p (.v (.pointer none)),vi 0,AI,vi 0])] (.callr (some 20) (aC 20 [.ptr 3 0 0,vs (⟨#[]⟩),vs (⟨#[]⟩),vn .u64 3,vi 9] [.dead, .cells false 0 ([vi 1,vl (r1.map AB.f), .p (.v (.pointer none)),vi 0,AI,vi 0]),AB.bx 0 o1, .cells false 0 ([vi 1,vl (([(⟨(⟨#[97]⟩:ByteArray),5,false,(⟨#[]⟩:ByteArray)⟩:Ent),(⟨(⟨#[98]⟩:ByteArray),4,true,(⟨#[]⟩:ByteArray)⟩:Ent),(⟨(⟨#[98]⟩:ByteArray),2,false,(⟨#[]⟩:ByteArray)⟩:Ent),(⟨(⟨#[99]⟩:ByteArray),9,false,(⟨#[]⟩:ByteArray)⟩:Ent)]).map AB.f), .p (.v (.pointer none)),vi 0,AI,vi 0])] (.tup [.rs 4 0 4 0 o2.length,vi 0]) [.dead, .cells false 0 ([vi 1,vl (r1.map AB.f), .p (.v (.pointer none)),vi 0,AI,vi 0]),AB.bx 0 o1, .cells false 0 ([vi 1,vl (r2.map AB.f), .p (.v (.pointer none)),vi 0,AI,vi 0]),AB.bx 0 o2]) (.tup [.rs 4 0 4 0 o2.length,vi 0]) [.dead, .cells false 0 ([vi 1,vl (r1.map AB.f), .p (.v (.pointer none)),vi 0,AI,vi 0]),AB.bx 0 o1, .cells false 0 ([vi 1,vl (r2.map AB.f), .p (.v (.pointer none)),vi 0,AI,vi 0]),AB.bx 0 o2] (.sp 32 (((o1.length:Nat):Int) == (1:Int)) (
.ridx 36 o1.length 0 (.rload 38 (rowC (o1.map AB.f)) (0+Int.toNat 0*4+0) AB o1 0 0 (fun e1=> .sp 39 (e1.key.toList == (⟨#[97]⟩:ByteArray).toList) (
.sp 44 (((o2.length:Nat):Int) == (1:Int)) (
.ridx 48 o2.length 0 (.rload 50 (rowC (o2.map AB.f)) (0+Int.toNat 0*4+0) AB o2 0 0 (fun e2=> .sp 51 (e2.key.toList == (⟨#[98]⟩:ByteArray).toList) (
.ridx 55 o2.length 0 (.rload 57 (rowC (o2.map AB.f)) (0+Int.toNat 0*4+1) AB o2 0 1 (fun e3=> .leaf ⟨[0],[]⟩ [] .ret (some ([(0,vb (e3.seq == (2:Int)))],[]))))) (
.leaf ⟨[0],[]⟩ [] .ret (some ([(0,vb false)],[])))))) (
.leaf ⟨[0],[]⟩ [] .ret (some ([(0,vb false)],[])))) (
.leaf ⟨[0],[]⟩ [] .ret (some ([(0,vb false)],[])))))) (
.leaf ⟨[0],[]⟩ [] .ret (some ([(0,vb false)],[]))))))))

theorem c7 (o1:List Ent) (r1:List Ent) (o2:List Ent) (r2:List Ent):Av DP Γ0 aC Tryd.f8 [] [] (Xm o1 r1 o2 r2)=Xm o1 r1 o2 r2:=by kernel_rfl


theorem sX:∀ f,SoundR DP f (aC f):=AY ((AU Xk).or (AU Xk).shutRow) (AY (AU sV) BJ)
def Lv:List Ent:= [⟨⟨#[97]⟩,5,false,⟨#[]⟩⟩,⟨⟨#[98]⟩,4,true,⟨#[]⟩⟩,⟨⟨#[98]⟩,2,false,⟨#[]⟩⟩,⟨⟨#[99]⟩,9,false,⟨#[]⟩⟩]
theorem Xn:BB (Br ⟨#[]⟩) Lv=Lv:=by rfl
theorem vk:HM Lv ⟨#[]⟩ ⟨#[]⟩ 8 9= [⟨⟨#[97]⟩,5,false,⟨#[]⟩⟩]:=by
 unfold HM
 rw[Xn]
 simp[Lv,Cr,Du,GR,ByteArray.toList_eq]
theorem vm:HM Lv ⟨#[]⟩ ⟨#[]⟩ 3 9= [⟨⟨#[98]⟩,2,false,⟨#[]⟩⟩]:=by
 unfold HM
 rw[Xn]
 simp[Lv,Cr,Du,GR,ByteArray.toList_eq]
def sY:List AV→AV→Prop:=fun args r=>args= []∧r=vb true
noncomputable def R7:=B4 sY
theorem UC:R7 []=some (vb true):=BT (fun _ _ _ h1 h2=>h1.2.trans h2.2.symm) ⟨rfl,rfl⟩
theorem sZ:SoundF DP R4 (.pure R7):=A6 AZ Γ0_ok sX oG oH oI (by
 rintro args r ⟨rfl,rfl⟩
 refine ⟨rfl,rfl,_,c7 (HM Lv ⟨#[]⟩ ⟨#[]⟩ 8 9) (R6 Lv ⟨#[]⟩ ⟨#[]⟩ 8 9) (HM Lv ⟨#[]⟩ ⟨#[]⟩ 3 9) (R6 Lv ⟨#[]⟩ ⟨#[]⟩ 3 9),?_⟩
 have l1:=fun (B:List Box)=>gf (B:=B) (L:=Lv) (by decide)
 have l2:=fun (s:Int) (h:¬72057594037927935<s) (l:Nat) (B:List Box) (hl:B[l]? = some (curB 1 nilQ ⟨Lv,0,0⟩))=>sW (B:=B) (l:=l) (L:=Lv) (from_:=⟨#[]⟩) (to_:=⟨#[]⟩) (seq:=s) (most:=9) (by decide) (by decide) h hl
 unfold Xm
 refine ⟨rfl,rfl,?_⟩
 refine AM (.inl (l1 _)) (AM (l2 8 (by decide) 1 _ rfl) (AM (.inl (l1 _)) (AM (l2 3 (by decide) 3 _ rfl) ?_)))
 rw[vk,vm]
 refine AC (fun _=>CX (by decide) (by decide) (Bb _ (by decide) rfl rfl (AC (fun _=>?_) (fun q=>absurd q (by simp))))) (fun q=>absurd q (by decide))
 refine AC (fun _=>CX (by decide) (by decide) (Bb _ (by decide) rfl rfl (AC (fun _=>?_) (fun q=>absurd q (by simp))))) (fun q=>absurd q (by decide))
 exact CX (by decide) (by decide) (Bb _ (by decide) rfl rfl (wp_leaf rfl (.p _))))

abbrev VG (m n:Nat):Box:= .cells false 0 [vi 3,AI,nilQ,vi 0, .rs (m+1) 0 1 0 n,vi 0]
theorem oL {sl:List Nat} {m a b:Nat}:B9 (DH sl m [(a,b,none)]) []:=by
 unfold B9 DH
 simp
theorem oM {sl:List Nat} {m a b c d:Nat}:B9 (DH sl m [(a,b,none),(c,d,none)]) []:=by
 unfold B9 DH
 simp


structure FamS where
 x0:LeafD
 x1:LeafD
 x2:LeafD
 x3:LeafD
 x4:LeafD
 AL:List (Nat×Ent)
abbrev FamS.xs (s:FamS) (n:Nat):List LeafD:=l5 n s.x0 s.x1 s.x2 s.x3 s.x4
def Mq (ks:List Bool) (D:Dsk) (s:FamS):List Box:=AT ks (s.xs ks.length) D
def M4 (L:List Ent):LeafD:=⟨⟨L,0,0⟩,⟨#[]⟩,⟨[],[],0,⟨#[]⟩,⟨#[]⟩⟩⟩

def Lw (a b:Nat×Ent):Prop:=Bz a.2 b.2∨((a.2.key=b.2.key∧a.2.seq=b.2.seq)∧a.1<b.1)
def ofL (AL:List (Nat×Ent)) (j:Nat):List Ent:=(AL.filter fun a=>a.1 == j).map (·.2)
structure Shuf (AL:List (Nat×Ent)) (n:Nat) (rs:List (List Ent)):Prop where
 up:AL.Pairwise Lw
 lt:∀ a∈AL,a.1<n
 rs:rs=(List.range n).map (ofL AL)
theorem C9 (a:Nat×Ent) (AL:List (Nat×Ent)) (j:Nat):ofL (a::AL) j=if a.1=j then a.2::ofL AL j else ofL AL j:=by
 unfold ofL
 rw[List.filter_cons]
 by_cases h:a.1=j
 ·rw[if_pos h,if_pos (by simpa using h)]; rfl
 ·rw[if_neg h,if_neg (by simpa using h)]
theorem ofL_mem {AL:List (Nat×Ent)} {j:Nat} {y:Ent} (h:y∈ofL AL j):(j,y)∈AL:=by
 unfold ofL at h
 obtain ⟨a,ha,rfl⟩:=List.mem_map.1 h
 obtain ⟨h1,h2⟩:=List.mem_filter.1 ha
 rw[←show a.1=j by simpa using h2]
 exact h1
theorem gh {y:Ent} {s:Int×Ent} {i:Nat} {r:List Ent} (hr:∀ h t,r=h::t→BK y h<0) (hs:s.1<0∨BK y s.2<0):(fpick (headE r) i s).1<0∨BK y (fpick (headE r) i s).2<0:=by
 unfold fpick
 split
 ·right
  cases r with
  | nil=>rename_i h; exact absurd h.1 (by decide)
  | cons z t=>exact hr z t rfl
 ·exact hs
theorem UD:∀ (rs:List (List Ent)) (i:Nat) (s:Int×Ent),(∀ r∈rs,∀ h t,r=h::t→¬(s.1<0∨BK h s.2<0))→Dt rs i s=s
 | [],_,_,_=>rfl
 | r::rs,i,s,h=>by
  have e:fpick (headE r) i s=s:=by
   unfold fpick
   split
   ·rename_i hc
    cases r with
    | nil=>exact absurd hc.1 (by decide)
    | cons z t=>exact absurd hc.2 (h (z::t) (by simp) z t rfl)
   ·rfl
  show Dt rs (i+1) (fpick (headE r) i s)=s
  rw[e]
  exact UD rs (i+1) s fun r hr=>h r (by simp[hr])
theorem aD {y:Ent} {t:List Ent} {q:List (List Ent)} (hq:∀ r∈q,∀ h t,r=h::t→¬BK h y<0):∀ (p:List (List Ent)) (i:Nat) (s:Int×Ent),(∀ r∈p,∀ h t,r=h::t→BK y h<0)→(s.1<0∨BK y s.2<0) →
  Dt (p++(y::t)::q) i s=(((i+p.length:Nat):Int),y)
 | [],i,s,_,hs=>by
  show Dt q (i+1) (fpick (headE (y::t)) i s)=_
  have e:fpick (headE (y::t)) i s=((i:Int),y):=if_pos ⟨rfl,hs⟩
  rw[e]
  exact UD q (i+1) _ fun r hr h t e2=>by
   rintro (g | g)
   ·simp only at g; omega
   ·exact hq r hr h t e2 g
 | r::p,i,s,hp,hs=>by
  show Dt (p++(y::t)::q) (i+1) (fpick (headE r) i s)=_
  rw[aD hq p (i+1) _ (fun r hr=>hp r (by simp[hr])) (gh (hp r (by simp)) hs),List.length_cons,show i+1+p.length=i+(p.length+1) by omega]
theorem P5 {n j:Nat} (h:j<n):List.range n=List.range j++j::(List.range' (j+1) (n - j - 1)):=by
 rw[List.range_eq_range',List.range_eq_range',show n=j+(1+(n - j - 1)) by omega,←List.range'_append_1,Nat.zero_add,Nat.add_comm 1 _,List.range'_succ]
 rw[show j+(n - j - 1+1) - j - 1=n - j - 1 by omega]
theorem Shuf.empty {n:Nat} {rs:List (List Ent)} (h:Shuf [] n rs):Dt rs 0 (-1,Ag)=(-1,Ag):=by
 have:∀ (l:List Nat) (i:Nat) (s:Int×Ent),Dt (l.map (ofL [])) i s=s:=by
  intro l
  induction l with
  | nil=>intro i s; rfl
  | cons a l ih=>
   intro i s
   show Dt (l.map (ofL [])) (i+1) (fpick (headE []) i s)=s
   rw[show fpick (headE []) i s=s from if_neg (fun h=>absurd h.1 (by decide))]
   exact ih _ _
 rw[h.rs]
 exact this _ _ _
theorem Shuf.pick {j n:Nat} {y:Ent} {AL:List (Nat×Ent)} {rs:List (List Ent)} (h:Shuf ((j,y)::AL) n rs):Dt rs 0 (-1,Ag)=((j:Int),y)∧rs[j]? = some (y::ofL AL j):=by
 have hj:j<n:=h.lt (j,y) (by simp)
 have hb:∀ i z t,ofL ((j,y)::AL) i=z::t→i≠j→Lw (j,y) (i,z):=fun i z t e hi=>by
  rw[C9,if_neg (fun e=>hi e.symm)] at e
  exact List.rel_of_pairwise_cons h.up (ofL_mem (by rw[e]; simp))
 have e:rs=(List.range j).map (ofL ((j,y)::AL))++(y::ofL AL j)::(List.range' (j+1) (n - j - 1)).map (ofL ((j,y)::AL)):=by
  rw[h.rs,P5 hj,List.map_append,List.map_cons,C9 (j,y) AL j,if_pos rfl]
 constructor
 ·rw[e,aD ?_ _ 0 _ ?_ (.inl (by decide))]
  ·simp
  ·intro r hr z t ez
   obtain ⟨i,hi,rfl⟩:=List.mem_map.1 hr
   have hi:=(List.mem_range'_1.1 hi).1
   rw[D5]
   intro hzy
   rcases hb i z t ez (by omega) with g | ⟨g,_⟩
   ·exact PA (Dy hzy g)
   ·simp only at g
    have:=(E8 y z).2 g
    rcases hzy with q | q
    ·rw[g.1] at q; exact HA q
    ·omega
  ·intro r hr z t ez
   obtain ⟨i,hi,rfl⟩:=List.mem_map.1 hr
   have hi:=List.mem_range.1 hi
   rw[D5]
   rcases hb i z t ez (by omega) with g | ⟨_,g⟩
   ·exact g
   ·simp only at g; omega
 ·rw[h.rs,List.getElem?_map,List.getElem?_range hj]
  show some (ofL ((j,y)::AL) j)=_
  rw[C9,if_pos rfl]
theorem Shuf.tail {j n:Nat} {y:Ent} {AL:List (Nat×Ent)} {rs:List (List Ent)} (h:Shuf ((j,y)::AL) n rs):Shuf AL n (rs.set j (ofL AL j)) where
 up:=h.up.of_cons
 lt:=fun a ha=>h.lt a (by simp[ha])
 rs:=by
  have hj:j<n:=h.lt (j,y) (by simp)
  have:∀ l:List Nat,j ∉ l→l.map (ofL ((j,y)::AL))=l.map (ofL AL):=fun l hl=>List.map_congr_left fun i hi=>by
   rw[C9,if_neg]
   rintro rfl
   exact hl hi
  rw[h.rs,P5 hj,List.map_append,List.map_cons,List.map_append,List.map_cons,this _ (by simp),this _ (by simp[List.mem_range'_1]; omega)]
  have e:j=((List.range j).map (ofL AL)).length:=by simp
  conv=>lhs; arg 2; rw[e]
  exact TP _ _ _ _
def PU (e:Ent) (AL:List (Nat×Ent)):List (Nat×Ent):=AL.dropWhile fun a=>decide (BK a.2 e<0)
theorem UE (e:Ent):∀ AL:List (Nat×Ent),(PU e AL).map (·.2)=BB e (AL.map (·.2))
 | []=>rfl
 | a::AL=>by
  unfold PU BB
  rw[List.map_cons,List.dropWhile_cons,List.dropWhile_cons]
  by_cases h:BK a.2 e<0
  ·rw[if_pos (decide_eq_true h),if_pos (decide_eq_true h)]; exact UE e AL
  ·rw[if_neg (by simp[h]),if_neg (by simp[h])]; rfl
theorem oN {a b:Nat×Ent} {e:Ent} (h:Lw a b) (hb:BK b.2 e<0):BK a.2 e<0:=by
 rw[D5] at hb ⊢
 rcases h with h | ⟨⟨h1,h2⟩,_⟩
 ·exact Dy h hb
 ·unfold Bz at hb ⊢
  rw[h1,h2]; exact hb
theorem Xo (e:Ent) (j:Nat):∀ AL:List (Nat×Ent),AL.Pairwise Lw→ofL (PU e AL) j=BB e (ofL AL j)
 | [],_=>rfl
 | a::AL,h=>by
  have ih:=Xo e j AL h.of_cons
  unfold PU BB at *
  rw[List.dropWhile_cons]
  by_cases hc:BK a.2 e<0
  ·rw[if_pos (decide_eq_true hc),ih,C9]
   split
   ·rw[List.dropWhile_cons,if_pos (decide_eq_true hc)]
   ·rfl
  ·rw[if_neg (by simp[hc])]
   cases hL:ofL (a::AL) j with
   | nil=>rfl
   | cons z t=>
    have hz:¬BK z e<0:=by
     rcases List.mem_cons.1 (ofL_mem (show z∈ofL (a::AL) j by rw[hL]; simp)) with g | g
     ·rw[←g] at hc; exact hc
     ·exact fun q=>hc (oN (b:=(j,z)) (List.rel_of_pairwise_cons h g) q)
    rw[List.dropWhile_cons,if_neg (by simp[hz])]
theorem Shuf.drop {AL:List (Nat×Ent)} {n:Nat} {rs:List (List Ent)} (e:Ent) (h:Shuf AL n rs):Shuf (PU e AL) n (rs.map (BB e)) where
 up:=h.up.sublist (List.dropWhile_sublist _)
 lt:=fun a ha=>h.lt a ((List.dropWhile_sublist _).mem ha)
 rs:=by
  rw[h.rs,List.map_map]
  exact List.map_congr_left fun j _=>(Xo e j AL h.up).symm

structure TopN {σ:Type} (TB:σ→List Box) (good:σ→Prop) (rest:σ→List Ent) (nx:σ→σ):Prop where
 next:∀ s,good s→∀ T,UB GL [.ptr 0 0 0] (TB s++T) (.tup [AB.av (headE (rest s)).1,vb (headE (rest s)).2.1,vi 0]) (TB (nx s)++T)
 nextR:∀ s,good s→good (nx s)∧rest (nx s)=(rest s).drop 1
def FamS.of (xs:List LeafD) (AL:List (Nat×Ent)):FamS:=⟨xs.getD 0 zD,xs.getD 1 zD,xs.getD 2 zD,xs.getD 3 zD,xs.getD 4 zD,AL⟩
theorem FamS.of_xs {xs:List LeafD} {n:Nat} (AL:List (Nat×Ent)) (h:xs.length=n) (h5:n≤5):(FamS.of xs AL).xs n=xs:=(DR zD h h5).symm
theorem FamS.xs_len (s:FamS) {n:Nat} (h5:n≤5):(s.xs n).length=n:=by
 show (List.take n [s.x0,s.x1,s.x2,s.x3,s.x4]).length=n
 rw[List.length_take]; simp only[List.length_cons,List.length_nil]; omega
structure GoodF (D:Dsk) (ks:List Bool) (s:FamS):Prop where
 gl:D6 D ks (s.xs ks.length)
 sh:Shuf s.AL ks.length (restsF D ks (s.xs ks.length))
abbrev c8 (s:FamS):List Ent:=s.AL.map (·.2)
def R8 (D:Dsk) (ks:List Bool) (s:FamS):FamS:= .of (EI D ks (s.xs ks.length)).1 (s.AL.drop 1)
theorem Xp {D:Dsk} {ks:List Bool} (hs:ks∈BP):TopN (Mq ks D) (GoodF D ks) c8 (R8 D ks) where
 next:=fun s g T=>by
  have h5:=Bp ks hs
  have hl:=s.xs_len h5
  have h2:=OH (D:=D) hl
  have e:(EI D ks (s.xs ks.length)).2=headE (c8 s):=by
   rcases nextM_of hl g.gl with ⟨e,hn⟩ | ⟨j,y,t,k,x,e,hj,hjl,q2⟩
   ·rw[hn]
    cases hA:s.AL with
    | nil=>show _=headE (List.map _ s.AL); rw[hA]; rfl
    | cons a AL=>
     obtain ⟨i,z⟩:=a
     have hp:=g.sh
     rw[hA] at hp
     rw[hp.pick.1] at e
     simp only at e
     omega
   ·rw[q2.2.2.2.2.2]
    cases hA:s.AL with
    | nil=>
     have hp:=g.sh
     rw[hA] at hp
     rw[hp.empty] at e
     have:=congrArg Prod.fst e
     simp only at this
     omega
    | cons a AL=>
     obtain ⟨i,z⟩:=a
     have hp:=g.sh
     rw[hA] at hp
     rw[hp.pick.1] at e
     have:=congrArg Prod.snd e
     simp only at this
     show _=headE (List.map _ s.AL)
     rw[hA,←this]; rfl
  have hr:AX Ry [.ptr 0 0 0] (Mq ks D s++T) _ (AT ks (EI D ks (s.xs ks.length)).1 D++T):=Mm (R:=Ry) ⟨D,ks,s.xs ks.length,hs,hl,g.gl,rfl,rfl,rfl,rfl⟩ hl h2 (kS ks) rfl T
  have hT:Mq ks D (R8 D ks s)=AT ks (EI D ks (s.xs ks.length)).1 D:=by
   show AT ks ((FamS.of _ _).xs ks.length) D=_
   rw[FamS.of_xs _ h2 h5]
  rw[hT,←e]
  refine .inl (.inr ?_)
  have e2:(EI D ks (s.xs ks.length)).2.2.2=0:=by rw[e]; exact OB _
  rw[e2] at hr
  exact hr
 nextR:=fun s g=>by
  have h5:=Bp ks hs
  have hl:=s.xs_len h5
  have h2:=OH (D:=D) hl
  have hx:(R8 D ks s).xs ks.length=(EI D ks (s.xs ks.length)).1:=FamS.of_xs _ h2 h5
  refine ⟨?_,by show List.map _ (s.AL.drop 1)=List.drop 1 (List.map _ s.AL); rw[List.map_drop]⟩
  obtain ⟨p1,p2,p3⟩:=Ee ks (s.xs ks.length) 0 (-1,Ag) hl g.gl
  have l1:=C6 (D:=D) ks (s.xs ks.length) 0 (-1,Ag) hl
  obtain ⟨s1,s2,s3⟩:=Ee ks (A3 D ks (s.xs ks.length) 0 (-1,Ag)).1 0 (-1,Ag) l1 p3
  rcases nextM_of hl g.gl with ⟨e,hn⟩ | ⟨j,y,t,k,x,e,hj,hjl,q2⟩
  ·cases hA:s.AL with
   | nil=>
    refine ⟨by rw[hx,hn]; exact p3,?_⟩
    rw[hx,hn]
    have hp:=g.sh
    show Shuf (s.AL.drop 1) _ _
    rw[hA] at hp ⊢
    simp only
    rw[p2]
    exact hp
   | cons a AL=>
    obtain ⟨i,z⟩:=a
    have hp:=g.sh
    rw[hA] at hp
    rw[hp.pick.1] at e
    simp only at e
    omega
  ·obtain ⟨hk,hxx,gx,hr,h2',hn⟩:=q2
   obtain ⟨n1,n2,n3⟩:=(T8 gx).2 y t hr
   cases hA:s.AL with
   | nil=>
    have hp:=g.sh
    rw[hA] at hp
    rw[hp.empty] at e
    have:=congrArg Prod.fst e
    simp only at this
    omega
   | cons a AL=>
    obtain ⟨i,z⟩:=a
    have hp:=g.sh
    rw[hA] at hp
    have e1:=hp.pick.1.symm.trans e
    have ei:i=j:=by have:=congrArg Prod.fst e1; simp only at this; omega
    have ez:z=y:=by have:=congrArg Prod.snd e1; simpa using this
    subst ei
    subst ez
    refine ⟨?_,?_⟩
    ·rw[hx,hn]
     exact kR s3 fun k' hk'=>by rw[hk] at hk'; cases hk'; exact n3
    ·rw[hx,hn]
     show Shuf (s.AL.drop 1) _ _
     rw[hA]
     simp only[List.drop_one,List.tail_cons]
     rw[Rx ks _ i k x _ hk hxx,s2,p2,n2]
     have ht:t=ofL AL i:=by
      have:=hp.pick.2.symm.trans hj
      exact (List.cons.inj (Option.some.inj this)).2.symm
     rw[ht]
     exact hp.tail

section
variable {A : List Ent} {parts : Int} {n i : Nat} {lv : List Box}
theorem oO (AL:List (Nat×Ent)) (j:Nat):(ofL AL j).length≤AL.length:=by
 unfold ofL
 rw[List.length_map]
 exact List.length_filter_le _ _
end
section
variable {σ : Type} {TB : σ → List Box} {m : Nat} {good : σ → Prop} {rest : σ → List Ent} {nx : σ → σ} {A : List Ent}
end

theorem oP (D:Dsk) (L:List Ent):GoodL D false (M4 L):=⟨rfl,⟨(by decide:(0:Int)≤0),(by decide:(0:Int)≤100000000)⟩,(by decide:(0:Int)≤100000000),(fun h=>by cases h),fun i h1 h2=>absurd (show i<0 from h2) (by omega)⟩
theorem oQ (D:Dsk) (L:List Ent):Ba (A7 D false (M4 L)) (M4 L).c=L:=by
 show L++((List.range' (0:Int).toNat ((0:Int) - 0).toNat).map _).flatten=L
 simp
section
variable (A : List Ent) (parts : Int) (n : Nat)
end

theorem dA {F:Nat→Prop} {B:List Box} {ρ:Aj} {w:World} (hI:Inv F B ρ w) {b v i:Nat} {cs:List AV} (hb:B[b]? = some (.cells false v cs)) (hi:cs[i]? = some AI):
  Inv F (B.set b (.cells false v (cs.set i (.p (.ls []))))) ρ w∧Ext F B ρ w (B.set b (.cells false v (cs.set i (.p (.ls []))))) ρ w:=by
 obtain ⟨B2,hB2⟩:∃ B2,B2=B.set b (.cells false v (cs.set i (.p (.ls [])))):=⟨_,rfl⟩
 rw[←hB2]
 have hget:∀ (b':Nat) (row:Bool) (v':Nat) (cs':List AV),B2[b']? = some (.cells row v' cs')→(b'=b∧row=false∧v'=v∧cs'=cs.set i (.p (.ls [])))∨(b'≠b∧B[b']? = some (.cells row v' cs')):=by
  intro b' row v' cs' hc
  rw[hB2,List.getElem?_set] at hc
  split at hc
  ·rename_i e
   split at hc
   ·cases hc; exact .inl ⟨e.symm,rfl,rfl,rfl⟩
   ·cases hc
  ·rename_i e
   exact .inr ⟨fun h=>e h.symm,hc⟩
 have hobj:∀ (b':Nat) (cs':List AV) (Φ:ObjP),B2[b']? = some (.obj cs' Φ)→B[b']? = some (.obj cs' Φ):=fun b' cs' Φ hc=>by
  rw[hB2] at hc
  exact obj_set (fun _ _ e=>by cases e) hc
 obtain ⟨hown,hE⟩:=E5 (F:=F) (B:=B) (B':=B2) (ρ:=ρ) (w:=w) (by rw[hB2]; simp) (fun b' row v' cs' hc=>by
  rcases hget b' row v' cs' hc with ⟨rfl,rfl,rfl,rfl⟩ | ⟨_,h2⟩
  ·exact ⟨cs,hb,by simp⟩
  ·exact ⟨cs',h2,rfl⟩) hobj
 refine ⟨Jj (B':=B2) hI (fun b' row v' cs' hc=>?_) hobj hE,hE⟩
 rcases hget b' row v' cs' hc with ⟨rfl,rfl,rfl,rfl⟩ | ⟨_,h2⟩
 ·refine ⟨cs,hb,by simp,?_,fun j c' hc'=>?_⟩
  ·have hl:=hI.leaf _ _ _ _ hb
   rw[List.all_eq_true] at hl ⊢
   intro c hc
   rcases List.mem_or_eq_of_mem_set hc with h | h
   ·exact hl c h
   ·rw[h]; rfl
  ·rw[List.getElem?_set] at hc'
   split at hc'
   ·rename_i e
    subst e
    split at hc'
    ·cases hc'
     refine ⟨AI,hi,fun u hu=>?_⟩
     rw[hu.val]
     exact .p _ _ (.nil Option.none 0 (.inr rfl))
    ·cases hc'
   ·exact ⟨c',hc',fun u hu=>hu.ext hE⟩
 ·exact ⟨cs',h2,rfl,hI.leaf _ _ _ _ h2,fun j c' hc'=>⟨c',hc',fun u hu=>hu.ext hE⟩⟩
theorem SoundR.nilout {P:Program} {f:Nat} {R:Ae} (h:SoundR P f R):SoundR P f (fun args B r B'=>∃ (B1:List Box) (b v i:Nat) (cs:List AV),B1[b]? = some (.cells false v cs)∧cs[i]? = some AI∧R args B r B1∧B'=B1.set b (.cells false v (cs.set i (.p (.ls []))))):=by
 rintro args B r B' ⟨B1,b,v,i,cs,hb,hi,hR,rfl⟩ F ρ w us hI hA
 refine (h args B r B1 hR F ρ w us hI hA).mono fun en w' hp=>?_
 obtain ⟨x,ρ2,rfl,hI3,hE3,hv⟩:=hp
 obtain ⟨hI4,hE4⟩:=dA hI3 hb hi
 exact ⟨x,ρ2,rfl,hI4,hE3.trans hE4,hv.ext hE4⟩
def Xq:Ae:=fun args B r B'=>∃ (D:Dsk) (nm:ByteArray) (F:FileR),args= [.ptr 1 0 0]∧B= [BD D,filC 0 nm F]∧r= .ptr 2 0 0∧B'= [BD D,filC 0 nm F,curB 2 (.ptr 1 0 0) ⟨[],0,0⟩]
theorem sa:SoundR DP N7 Xq:=(Al (R:=fun args B r B'=>∃ (D:Dsk) (nm:ByteArray) (F:FileR),args= [.ptr 1 0 0]∧B= [BD D,filC 0 nm F]∧r= .ptr 2 0 0∧B'= [BD D,filC 0 nm F, .cells false 0 [vi 2,AI, .ptr 1 0 0,vi 0,AI,vi 0]]) AZ Γ0_ok Bq oA oB oC (by
 rintro args B r B' ⟨D,nm,F,rfl,rfl,rfl,rfl⟩
 exact ⟨by rw[oD]; rfl,_,cx D nm F,wp_leaf rfl ⟨rfl,rfl⟩⟩)).nilout.mono (by
 rintro args B r B' ⟨D,nm,F,rfl,rfl,rfl,rfl⟩
 exact ⟨_,2,0,1,_,rfl,rfl,⟨D,nm,F,rfl,rfl,rfl,rfl⟩,rfl⟩)
theorem sb {B:List Box} {d l:Nat} {D:Dsk} {nm:ByteArray} {F:FileR} (hd:B[d]? = some (BD D)) (hl:B[l]? = some (filC d nm F)):AX Xq [.ptr l 0 0] B (.ptr B.length 0 0) (B++ [curB 2 (.ptr l 0 0) ⟨[],0,0⟩]):=by
 have hdl:d<B.length:=(List.getElem?_eq_some_iff.1 hd).1
 have hll:l<B.length:=(List.getElem?_eq_some_iff.1 hl).1
 have hne:d≠l:=fun e=>by rw[e,hl] at hd; cases hd
 have bq:∀ {a b:Nat},a≠b→Nat.beq a b=false:=fun {a b} h=>by
  cases e:Nat.beq a b with
  | false=>rfl
  | true=>exact absurd (Nat.eq_of_beq_eq_true e) h
 refine ⟨_,_,_,_,⟨D,nm,F,rfl,rfl,rfl,rfl⟩,⟨[d,l],[0,0],[BD D,filC d nm F],[BD D,filC d nm F],[curB 2 (.ptr l 0 0) ⟨[],0,0⟩],?_,?_,?_,rfl,⟨.objs rfl rfl, .cells ?_ ?_ rfl,trivial⟩,⟨.objs rfl rfl, .cells ?_ ?_ rfl, .cells ?_ ?_ rfl,trivial⟩,?_,?_,rfl⟩⟩
 ·simp[DO,Nat.blt_eq,hdl,hll,bq hne,bq hne.symm]
 ·simp[hd,hl]
 ·simp[AV.rv.rvL,AV.rv,Bc,BM]
 all_goals first
  | (simp[BM]; done)
  | (simp[AV.rv.rvL,AV.rv,Bc,BM]; done)
  | (rw[Bh,Bh,Bh,DT hd,DT hl]; done)

abbrev Xr:Nat:=15
noncomputable abbrev Qc:Func:=Tryd.f15
theorem vo:DP.funcs[Xr]? = some Qc:=by kernel_rfl
theorem vp:Ak DP Xr=true:=by kernel_rfl
theorem vq:Qc.body.isSome=true:=by kernel_rfl
theorem vt:Qc.ntmps=126:=by kernel_rfl
noncomputable abbrev wL:Code:=Ph [true,true,true,true,false,true,false] (Gz Qc)
noncomputable abbrev Kn:Code:=Ph [true,true,true,true,false,true,false,false] (Gz Qc)
abbrev sc:Box:= .cells true 0 [vs ⟨#[102,48]⟩,vs ⟨#[102,49]⟩,vs ⟨#[102,50]⟩,vs ⟨#[102,51]⟩,vs ⟨#[102,52]⟩]
def Bo:Nat→ByteArray
 | 0=>⟨#[102,48]⟩
 | 1=>⟨#[102,49]⟩
 | 2=>⟨#[102,50]⟩
 | 3=>⟨#[102,51]⟩
 | _=>⟨#[102,52]⟩
abbrev M5 (n:Nat):Box:= .cells true 0 ((List.range n).map fun j=> .ptr (2+j) 0 0)
def Ck (kd:List Bool) (xs:List LeafD) (D:Dsk):List Box:=BD D::M5 kd.length::(Cc kd xs (2+kd.length)++(F9 kd xs 0++ [sc]))
abbrev CR (kd:List Bool):Nat:=3+kd.length+BS kd
def Fe (m i j n:Nat) (times:Int) (lists:List (List Ent)) (A:List Ent):List (Nat×AV):=
 [(0, .op 0),(2,vi times),(9, .rs 1 0 1 0 j),(10, .rs m 0 4 0 A.length),(11, .rs (m - 1) 0 1 0 5),(26,vl (lists.map CQ.f)),(27,vi (n:Int)),(28,vi (i:Int))]
noncomputable def ΓT:BF:=DG [(Rj,Li),(KQ,FA)]
noncomputable def ΔT:CB:=CZ [(Lg,AX PJ),(N2,AX W9),(N7,AX Xq),(Ll,AX OK)]
section
variable (B : List Box) (m i n : Nat) (times : Int) (lists : List (List Ent)) (own : List Ent)
noncomputable def Lx (s:List Ent×Int):St:=(Fe m i (i+1) n times lists s.1++ [(79,vl (own.map AB.f)),(80,vi (own.length:Int)),(81,vi s.2)],B++ [AB.bx 0 s.1])
noncomputable def R9 (x:List Ent):AE×St:=(.exit 2,(Fe m i (i+1) n times lists x,B++ [AB.bx 0 x]))
noncomputable def SA (s:List Ent×Int) (e:Ent) (z:Int):St:=(Fe m i (i+1) n times lists s.1++ [(79,vl (own.map AB.f)),(80,vi (own.length:Int)),(81,vi s.2),(20, .ptr (m+1) 0 0),(21,vi z)],B++ [AB.bx 0 s.1,A4 e])
noncomputable def SB (s:List Ent×Int) (e:Ent) (z:Int):AE×St:=(.exit 4,(Fe m i (i+1) n times lists s.1++ [(79,vl (own.map AB.f)),(80,vi (own.length:Int)),(81,vi s.2),(20, .ptr (m+1) 0 0),(21,vi z)],B++ [AB.bx 0 s.1,A4 e]))
noncomputable def SC (s:List Ent×Int) (e:Ent) (z:Int):Tree:=
.any (.sp 88 (decide (z<((s.1.length:Nat):Int))) (
.ridx 92 s.1.length z (.rload 93 (rowC (s.1.map AB.f)) (0+Int.toNat z*4) AB s.1 z 0 (fun y=> .call 95 (FA [AB.av y,AB.av e]=some (vi (BK y e))) (vi (BK y e)) (.sp 96 (decide (BK y e≤(0:Int))) (
.int 99 (IntKind.i64.wrap (z+1)) (z+1) (.leaf (DH [0,2,9,10,11,26,27,28,79,80,81,20,21] m [(m,0,some (s.1.map AB.f)),(m+1,0,none)]) [rowC (s.1.map AB.f)] .normal (some (SA B m i n times lists own s e (z+1))))) (
.leaf (DH [0,2,9,10,11,26,27,28,79,80,81,20,21] m [(m,0,some (s.1.map AB.f)),(m+1,0,none)]) [rowC (s.1.map AB.f)] (.exit 4) (some (SB B m i n times lists own s e z).2)))))) (
.leaf (DH [0,2,9,10,11,26,27,28,79,80,81,20,21] m [(m,0,some (s.1.map AB.f)),(m+1,0,none)]) [rowC (s.1.map AB.f)] (.exit 4) (some (SB B m i n times lists own s e z).2)))
noncomputable def OL (s:List Ent×Int):Tree:=
.sp 82 (decide (s.2<(own.length:Int))) (
.elem 83 (own.map AB.f) AB own s.2 (fun e=> .loop (DH [0,2,9,10,11,26,27,28,79,80,81,20,21] m [(m,0,some (s.1.map AB.f)),(m+1,0,none)]) [rowC (s.1.map AB.f)] (some (SA B m i n times lists own s e 0)) (SA B m i n times lists own s e) (SB B m i n times lists own s e) CN 0 (SC B m i n times lists own s e) (fun (x:Int)=> .rcut 103 s.1.length none (some x) (.app 104 (.part (0+A8 none*4) (Be (some x) s.1.length - A8 none) (rowC (s.1.map AB.f))) (([]:List Ent).length) (rowC (([]:List Ent).map AB.f)) AB ([]:List Ent) (cutL none (some x) s.1) (.app 108 (.row 1 ([vs e.key,vn .u64 e.seq,vb e.del,vs e.val])) ((([]:List Ent)++(cutL none (some x) s.1)).length) (rowC ((([]:List Ent)++(cutL none (some x) s.1)).map AB.f)) AB (([]:List Ent)++(cutL none (some x) s.1)) ([e]) (.rcut 112 s.1.length (some x) none (.app 113 (.part (0+A8 (some x)*4) (Be none s.1.length - A8 (some x)) (rowC (s.1.map AB.f))) (((([]:List Ent)++(cutL none (some x) s.1))++([e])).length) (rowC (((([]:List Ent)++(cutL none (some x) s.1))++([e])).map AB.f)) AB ((([]:List Ent)++(cutL none (some x) s.1))++([e])) (cutL (some x) none s.1) (.int 114 (IntKind.i64.wrap (s.2+1)) (s.2+1) (.leaf (DH [0,2,9,10,11,26,27,28,79,80,81] m [(m+2,3,some ((((([]:List Ent)++(cutL none (some x) s.1))++([e]))++(cutL (some x) none s.1)).map AB.f))]) [rowC ((((([]:List Ent)++(cutL none (some x) s.1))++([e]))++(cutL (some x) none s.1)).map AB.f)] .normal (some (Lx B m i n times lists own (((([]:List Ent)++(cutL none (some x) s.1))++([e]))++(cutL (some x) none s.1),s.2+1)))))))))) (fun _=> .stuck))) (
.leaf (DH [0,2,9,10,11,26,27,28] m [(m,0,some (s.1.map AB.f))]) [rowC (s.1.map AB.f)] (.exit 2) (some (R9 B m i n times lists s.1).2))
end
section
variable (kd : List Bool) (xs : List LeafD) (D : Dsk) (A : List Ent) (n : Nat) (times : Int) (lists : List (List Ent)) (own : List Ent)
def sd (kd:List Bool) (A:List Ent):Wd:=⟨[0,2,9,10,11,26,27,28,79,80,81],(0,0,none)::(1,1,none)::(((List.range kd.length).map fun j=>(2+j,0,none))++((CR kd+1,0,none)::(((List.range (BS kd)).map fun j=>(2+kd.length+j,0,none))++ [(CR kd - 1,0,none),(CR kd,0,some (A.map AB.f))])))⟩
def se (kd:List Bool) (A:List Ent):Wd:=⟨[0,2,9,10,11,26,27,28,79,80,81],(0,0,none)::(1,1,none)::(((List.range kd.length).map fun j=>(2+j,0,none))++((CR kd+2,0,none)::(((List.range (BS kd)).map fun j=>(2+kd.length+j,0,none))++ [(CR kd+1,0,none),(CR kd - 1,0,none),(CR kd,0,some (A.map AB.f))])))⟩
noncomputable def Xs (c:Cur):Tree:=
.callr (some 76) (ΔT Ll [vl (own.map AB.f)] (Ck kd xs D++ [AB.bx 0 A]) (.ptr (CR kd+1) 0 0) (Ck kd xs D++ [AB.bx 0 A,curB 1 nilQ ⟨own,0,0⟩])) (.ptr (CR kd+1) 0 0) (Ck kd xs D++ [AB.bx 0 A,curB 1 nilQ ⟨own,0,0⟩]) (.int 80 ((own.map AB.f).length:Int) (own.length:Int) (
.loop (sd kd A) [rowC (A.map AB.f)] (some (Lx (Ck (kd++ [false]) (xs++ [M4 own]) D) (CR kd+1) kd.length n times lists own (A,0))) (Lx (Ck (kd++ [false]) (xs++ [M4 own]) D) (CR kd+1) kd.length n times lists own) (R9 (Ck (kd++ [false]) (xs++ [M4 own]) D) (CR kd+1) kd.length n times lists) CN (A,0) (OL (Ck (kd++ [false]) (xs++ [M4 own]) D) (CR kd+1) kd.length n times lists own)
 (fun x=> .leaf (DH [0,2,9,10,11,26,27,28] (CR kd+1) [(CR kd+1,0,some (x.map AB.f))]) [rowC (x.map AB.f)] .normal (some (Fe (CR kd+1) (kd.length+1) (kd.length+1) n times lists x,Ck (kd++ [false]) (xs++ [M4 own]) D++ [AB.bx 0 x]))) (fun _=> .stuck)))
abbrev Xt (nm:ByteArray) (F:FileR):LeafD:=⟨⟨[],0,0⟩,nm,F⟩
noncomputable def dC (D1:Dsk) (n1:Int) (F:FileR):Tree:=
.callr (some 51) (ΔT Lg [.op 0,vs (Bo kd.length),vl (own.map AB.f)] (Ck kd xs D++ [AB.bx 0 A]) (.tup [vi n1,vi 0]) (Ck kd xs D1++ [AB.bx 0 A])) (.tup [vi n1,vi 0]) (Ck kd xs D1++ [AB.bx 0 A]) (
.callr (some 60) (ΔT N2 [.op 0,vs (Bo kd.length)] (Ck kd xs D1++ [AB.bx 0 A]) (.tup [.ptr (CR kd+1) 0 0,vi 0]) (Ck kd xs D1++ [AB.bx 0 A,filC 0 (Bo kd.length) F])) (.tup [.ptr (CR kd+1) 0 0,vi 0]) (Ck kd xs D1++ [AB.bx 0 A,filC 0 (Bo kd.length) F]) (
.callr (some 71) (ΔT N7 [.ptr (CR kd+1) 0 0] (Ck kd xs D1++ [AB.bx 0 A,filC 0 (Bo kd.length) F]) (.ptr (CR kd+2) 0 0) (Ck kd xs D1++ [AB.bx 0 A,filC 0 (Bo kd.length) F,curB 2 (.ptr (CR kd+1) 0 0) ⟨[],0,0⟩])) (.ptr (CR kd+2) 0 0) (Ck kd xs D1++ [AB.bx 0 A,filC 0 (Bo kd.length) F,curB 2 (.ptr (CR kd+1) 0 0) ⟨[],0,0⟩]) (
.int 80 ((own.map AB.f).length:Int) (own.length:Int) (
.loop (se kd A) [rowC (A.map AB.f)] (some (Lx (Ck (kd++ [true]) (xs++ [Xt (Bo kd.length) F]) D1) (CR kd+2) kd.length n times lists own (A,0))) (Lx (Ck (kd++ [true]) (xs++ [Xt (Bo kd.length) F]) D1) (CR kd+2) kd.length n times lists own) (R9 (Ck (kd++ [true]) (xs++ [Xt (Bo kd.length) F]) D1) (CR kd+2) kd.length n times lists) CN (A,0) (OL (Ck (kd++ [true]) (xs++ [Xt (Bo kd.length) F]) D1) (CR kd+2) kd.length n times lists own)
 (fun x=> .leaf (DH [0,2,9,10,11,26,27,28] (CR kd+2) [(CR kd+2,0,some (x.map AB.f))]) [rowC (x.map AB.f)] .normal (some (Fe (CR kd+2) (kd.length+1) (kd.length+1) n times lists x,Ck (kd++ [true]) (xs++ [Xt (Bo kd.length) F]) D1++ [AB.bx 0 x]))) (fun _=> .stuck)))))
noncomputable def Qd:Tree:= .elem 31 (lists.map CQ.f) CQ lists (kd.length:Int) (fun l=> .call 35 (Li [vl (l.map AB.f),vi times]=some (vl (own.map AB.f))) (vl (own.map AB.f)) (Xs kd xs D A n times lists own ⟨own,0,0⟩))
noncomputable def Qe (D1:Dsk) (n1:Int) (F:FileR):Tree:= .elem 31 (lists.map CQ.f) CQ lists (kd.length:Int) (fun l=> .call 35 (Li [vl (l.map AB.f),vi times]=some (vl (own.map AB.f))) (vl (own.map AB.f)) (.int 41 ((own.map AB.f).length:Int) (own.length:Int) (.sp 42 (decide ((own.length:Int)>(0:Int))) (dC kd xs D A n times lists own D1 n1 F) (Xs kd xs D A n times lists own ⟨own,0,0⟩))))
noncomputable def TS:Tree:= .sealslot 5 10 (rowC (A.map AB.f)) A.length AB A (.leaf (Ik [0,9,10] (CR kd - 1)) [] (.exit 0) (some ([(0, .op 0),(9, .rs 1 0 1 0 kd.length),(10,vl (A.map AB.f))],BD D::M5 kd.length::(Cc kd xs (2+kd.length)++F9 kd xs 0))))
end
def xP (p:List Bool×Nat):Prop:=∀ (D:Dsk) (x0 x1 x2 x3 x4:LeafD) (A:List Ent) (times:Int) (lists:List (List Ent)) (own:List Ent),
 Bg DP ΓT ΔT 126 1 Kn (St.as (Fe (CR p.1) p.1.length p.1.length p.2 times lists A,Ck p.1 (l5 p.1.length x0 x1 x2 x3 x4) D++ [AB.bx 0 A])) (Qd p.1 (l5 p.1.length x0 x1 x2 x3 x4) D A p.2 times lists own) (CP 1)=Qd p.1 (l5 p.1.length x0 x1 x2 x3 x4) D A p.2 times lists own
def xQ (p:List Bool×Nat):Prop:=∀ (D D1:Dsk) (n1:Int) (F:FileR) (x0 x1 x2 x3 x4:LeafD) (A:List Ent) (times:Int) (lists:List (List Ent)) (own:List Ent),
 Bg DP ΓT ΔT 126 1 Kn (St.as (Fe (CR p.1) p.1.length p.1.length p.2 times lists A,Ck p.1 (l5 p.1.length x0 x1 x2 x3 x4) D++ [AB.bx 0 A])) (Qe p.1 (l5 p.1.length x0 x1 x2 x3 x4) D A p.2 times lists own D1 n1 F) (CP 1)=Qe p.1 (l5 p.1.length x0 x1 x2 x3 x4) D A p.2 times lists own D1 n1 F
def xR (ks:List Bool):Prop:=∀ (D:Dsk) (x0 x1 x2 x3 x4:LeafD) (A:List Ent) (times:Int) (lists:List (List Ent)),
 Bg DP ΓT ΔT 126 1 Kn (St.as (Fe (CR ks) ks.length ks.length ks.length times lists A,Ck ks (l5 ks.length x0 x1 x2 x3 x4) D++ [AB.bx 0 A])) (TS ks (l5 ks.length x0 x1 x2 x3 x4) D A) (CP 1)=TS ks (l5 ks.length x0 x1 x2 x3 x4) D A
def Jb:List (List Bool×Nat):= [([],1),([],2),([],3),([false,false],3),([false,true],3),([],4),([false,false],4),([false,true],4),([],5),([false,false],5),([false,true],5),([false,false,false,false],5),([false,true,false,false],5),([false,false,false,true],5),([false,true,false,true],5)]
def Ly:List (List Bool×Nat):= [([false],2),([false],3),([false],4),([false,false,false],4),([false,true,false],4),([false],5),([false,false,false],5),([false,true,false],5)]
def FX:List (List Bool):= [[],[false],[false,false],[false,true],[false,false,false],[false,true,false],[false,false,false,false],[false,true,false,false],[false,false,false,true],[false,true,false,true],[false,false,false,false,false],[false,true,false,false,false],[false,false,false,true,false],[false,true,false,true,false]]
theorem vu:Fa xP Jb:=⟨by intro _;intros;kernel_rfl,by intro _;intros;kernel_rfl,by intro _;intros;kernel_rfl,by intro _;intros;kernel_rfl,by intro _;intros;kernel_rfl,by intro _;intros;kernel_rfl,by intro _;intros;kernel_rfl,by intro _;intros;kernel_rfl,by intro _;intros;kernel_rfl,by intro _;intros;kernel_rfl,by intro _;intros;kernel_rfl,by intro _;intros;kernel_rfl,by intro _;intros;kernel_rfl,by intro _;intros;kernel_rfl,by intro _;intros;kernel_rfl,trivial⟩
theorem vw:Fa xQ Ly:=⟨by intro _;intros;kernel_rfl,by intro _;intros;kernel_rfl,by intro _;intros;kernel_rfl,by intro _;intros;kernel_rfl,by intro _;intros;kernel_rfl,by intro _;intros;kernel_rfl,by intro _;intros;kernel_rfl,by intro _;intros;kernel_rfl,trivial⟩
theorem vx:Fa xR FX:=⟨by intro _;intros;kernel_rfl,by intro _;intros;kernel_rfl,by intro _;intros;kernel_rfl,by intro _;intros;kernel_rfl,by intro _;intros;kernel_rfl,by intro _;intros;kernel_rfl,by intro _;intros;kernel_rfl,by intro _;intros;kernel_rfl,by intro _;intros;kernel_rfl,by intro _;intros;kernel_rfl,by intro _;intros;kernel_rfl,by intro _;intros;kernel_rfl,by intro _;intros;kernel_rfl,by intro _;intros;kernel_rfl,trivial⟩
end Go.Ax
namespace Go.Ax
open Go.Proofs Go.RowKit Go.Lib
set_option maxRecDepth 100000

def mT (ks:List Bool) (xs:List LeafD) (D:Dsk):List Box:=BD D::M5 ks.length::(Cc ks xs (2+ks.length)++F9 ks xs 0)
abbrev J5 (ks:List Bool):Nat:=2+ks.length+BS ks
noncomputable def PW (B:List Box) (m n:Nat):Tree:=
.leaf (DH [0] m [(m,1,none)]) [] .ret (some ([(0, .rs m 0 1 0 n)],B++ [M5 n]))
def aE:Ae:=fun args B r B'=>∃ (ks:List Bool) (xs:List LeafD) (D:Dsk),ks∈BP∧xs.length=ks.length∧args= [.rs 1 0 1 0 ks.length]∧B=mT ks xs D∧r= .rs (J5 ks) 0 1 0 ks.length∧B'=mT ks xs D++ [M5 ks.length]
def gi:Ae:=fun args B r B'=>∃ (ks:List Bool) (xs:List LeafD) (D:Dsk),ks∈BP∧xs.length=ks.length∧args= [.rs 1 0 1 0 ks.length]∧B=mT ks xs D∧r= .ptr (J5 ks) 0 0∧B'=mT ks xs D++ [VG (J5 ks) ks.length,M5 ks.length]
noncomputable def li:CB:=CZ [(Gp,aE)]
noncomputable def SD (B:List Box) (m n:Nat):Tree:=
.callr (some 4) (li Gp [.rs 1 0 1 0 n] B (.rs m 0 1 0 n) (B++ [M5 n])) (.rs m 0 1 0 n) (B++ [M5 n]) (.leaf (DH [0] m [(m+1,0,none),(m,0,none)]) [] .ret (some ([(0, .ptr m 0 0)],B++ [VG m n,M5 n])))
def xS (ks:List Bool):Prop:=∀ (D:Dsk) (x0 x1 x2 x3 x4:LeafD),
 Av DP Γ0 Δ0 Ja [.rs 1 0 1 0 ks.length] (mT ks (l5 ks.length x0 x1 x2 x3 x4) D) (PW (mT ks (l5 ks.length x0 x1 x2 x3 x4) D) (J5 ks) ks.length)=PW (mT ks (l5 ks.length x0 x1 x2 x3 x4) D) (J5 ks) ks.length
def xT (ks:List Bool):Prop:=∀ (D:Dsk) (x0 x1 x2 x3 x4:LeafD),
 Av DP Γ0 li Lm [.rs 1 0 1 0 ks.length] (mT ks (l5 ks.length x0 x1 x2 x3 x4) D) (SD (mT ks (l5 ks.length x0 x1 x2 x3 x4) D) (J5 ks) ks.length)=SD (mT ks (l5 ks.length x0 x1 x2 x3 x4) D) (J5 ks) ks.length
theorem vy:Fa xS BP:=⟨by intro _;intros;kernel_rfl,by intro _;intros;kernel_rfl,by intro _;intros;kernel_rfl,by intro _;intros;kernel_rfl,by intro _;intros;kernel_rfl,by intro _;intros;kernel_rfl,by intro _;intros;kernel_rfl,by intro _;intros;kernel_rfl,by intro _;intros;kernel_rfl,by intro _;intros;kernel_rfl,by intro _;intros;kernel_rfl,by intro _;intros;kernel_rfl,by intro _;intros;kernel_rfl,trivial⟩
theorem vz:Fa xT BP:=⟨by intro _;intros;kernel_rfl,by intro _;intros;kernel_rfl,by intro _;intros;kernel_rfl,by intro _;intros;kernel_rfl,by intro _;intros;kernel_rfl,by intro _;intros;kernel_rfl,by intro _;intros;kernel_rfl,by intro _;intros;kernel_rfl,by intro _;intros;kernel_rfl,by intro _;intros;kernel_rfl,by intro _;intros;kernel_rfl,by intro _;intros;kernel_rfl,by intro _;intros;kernel_rfl,trivial⟩
theorem oR:SoundR DP Gp aE:=Al AZ Γ0_ok Bq XJ QY XK (by
 rintro args B r B' ⟨ks,xs,D,hs,hl,rfl,rfl,rfl,rfl⟩
 have hc:Av DP Γ0 Δ0 Ja [.rs 1 0 1 0 ks.length] (mT ks (l5 ks.length (xs.getD 0 zD) (xs.getD 1 zD) (xs.getD 2 zD) (xs.getD 3 zD) (xs.getD 4 zD)) D) (PW (mT ks (l5 ks.length (xs.getD 0 zD) (xs.getD 1 zD) (xs.getD 2 zD) (xs.getD 3 zD) (xs.getD 4 zD)) D) (J5 ks) ks.length)=_:=Cj vy ks hs D _ _ _ _ _
 rw[←DR zD hl (Bp ks hs)] at hc
 refine ⟨by rw[kP]; rfl,_,hc,?_⟩
 unfold PW
 exact wp_leaf oL ⟨rfl,rfl⟩)
theorem sf:∀ f,SoundR DP f (li f):=AY oR BJ
theorem sg:SoundR DP J2 gi:=Al AZ Γ0_ok sf Z0 Z1 Z2 (by
 rintro args B r B' ⟨ks,xs,D,hs,hl,rfl,rfl,rfl,rfl⟩
 have hc:Av DP Γ0 li Lm [.rs 1 0 1 0 ks.length] (mT ks (l5 ks.length (xs.getD 0 zD) (xs.getD 1 zD) (xs.getD 2 zD) (xs.getD 3 zD) (xs.getD 4 zD)) D) (SD (mT ks (l5 ks.length (xs.getD 0 zD) (xs.getD 1 zD) (xs.getD 2 zD) (xs.getD 3 zD) (xs.getD 4 zD)) D) (J5 ks) ks.length)=_:=Cj vz ks hs D _ _ _ _ _
 rw[←DR zD hl (Bp ks hs)] at hc
 refine ⟨by rw[Z3]; rfl,_,hc,?_⟩
 unfold SD
 exact AM ⟨ks,xs,D,hs,hl,rfl,rfl,rfl,rfl⟩ (wp_leaf oM ⟨rfl,rfl⟩))
set_option maxHeartbeats 2000000 in
theorem Xu (ad:Addr) (c:Nat) (w:World):Calls DP 27 #[.slice (some ad) 0 c] w fun e w'=>∃ v',e= .returned v'∧w'.ownsRow w.heap.size 32 1 v' 0 []∧Below w.heap.size w w':=by
 obtain ⟨i0,hi,hz0,hz1,hz2⟩:=info_parts (P:=DP) (e:=32) (z:= .pointer none) (size:=1) (bytes:=8) (by kernel_rfl)
 have mixed:DP.follows .mixedOrders=true:=AZ
 have t45:DP.underlying 27=some (.slice 32):=by kernel_rfl
 have q45:∀ (w:World) (a:Option Addr) (n c n' c':Nat),(binOp .eql 27 (.slice a n c) (.slice none n' c')).run DP w= .ok (.bool a.isNone) w:=fun w a n c n' c'=>Lib.run_eql_slice_nil w _ _ a n c n' c' t45
 have u45:∀ w,Sem.run DP (underlying 27) w= .ok (TypeDesc.slice 32) w:=run_underlying t45
 go_enter Tryd.func27,Tryd.ntmps27
 go_wp2_with (at_builtin; refine wpList_append_own _ rfl _ _ 27 rfl w.heap.size 32 i0 (.pointer none) 1 8 t45 hi hz0 hz1 hz2 rfl (by decide) _ _ _ rfl (World.ownsRow_made w #[] 0 (Nat.le_refl _) (Nat.zero_le _) rfl) ad 0 c [] rfl rfl ?qc2 ?qc3 ?qc4 ?qc5 ?qc6 ?_)
 case qc2=>intro j u hj; simp at hj
 case qc3=>intro u hu; simp at hu
 case qc4=>unfold maxLen; omega
 case qc5=>omega
 case qc6=>simp
 intro v' w1 hown hgrow hnil
 go_wp2
 go_ret
 exact ⟨v',rfl,by simpa using hown,((Below.refl _ w).alloc (Nat.le_refl _) _).grown hgrow (by simp) (by intro k hk; simp[Value.ownBlock] at hk; omega)⟩
noncomputable def UF:Tree:= .leaf ⟨[0],[]⟩ [] .ret (some ([(0,AI)],[]))
theorem Ue:Av DP Γ0 Δ0 Ja [AI] [] UF=UF:=by kernel_rfl
def J6:List AV→AV→Prop:=fun args r=>args= [AI]∧r=vl []
theorem kX:SoundF DP Gp (.pure (B4 J6)):=A6 AZ Γ0_ok Bq XJ QY XK (by
 rintro args r ⟨rfl,rfl⟩
 exact ⟨rfl,rfl,_,Ue,wp_leaf rfl .nil⟩)
def oS:List AV→AV→Prop:=fun args r=>args= [vl []]∧r=vl []
noncomputable def PX:=B4 oS
theorem dD:PX [vl []]=some (vl []):=BT (fun _ _ _ h1 h2=>h1.2.trans h2.2.symm) ⟨rfl,rfl⟩
theorem kY:SoundF DP Gp (.pure PX):=by
 intro args B r B' hs F ρ w us hI hA
 obtain ⟨r',h1,h2⟩:=map_some hs
 cases h2
 obtain ⟨rfl,rfl⟩:=IU h1
 have hrun:∀ (al:List AV) (y:AV),J6 al y→(FSpec.pure (B4 J6)).run al B=some (y,B):=fun al y h=>by
  show ((B4 J6 al).map fun r=>(r,B))=_
  rw[BT (R:=J6) (fun _ _ _ h h2=>h.2.trans h2.2.symm) h]; rfl
 obtain ⟨v,rfl⟩:∃ v,us= [v]:=by
  match us,hA.1 with
  | [v],_=>exact ⟨v,rfl⟩
 have hv:=hA.2 0 _ _ rfl rfl
 have key:(∃ ad c,v= .slice (some ad) 0 c)∨v= .slice none 0 0:=by
  cases hv with
  | p _ _ hp=>
   cases hp with
   | nil a cap h=>
    cases a with
    | none=>exact .inr (by rw[h.resolve_left (by simp)])
    | some a=>exact .inl ⟨a,cap,rfl⟩
   | ls xs a cap us=>exact .inl ⟨a,cap,rfl⟩
 rcases key with ⟨ad,c,rfl⟩ | rfl
 ·refine .inl ⟨Ev QY _ _,(Xu ad c w).mono fun e w' hp=>?_⟩
  obtain ⟨v',rfl,ho,hb⟩:=hp
  have hsh:∀ k e n,w.shape? k=some (e,n)→w'.shape? k=some (e,n):=fun k e n h=>by
   have hk:k<w.heap.size:=by
    rcases Nat.lt_or_ge k w.heap.size with h' | h'
    ·exact h'
    ·unfold World.shape? at h
     rw[Array.getElem?_eq_none h'] at h
     cases h
   unfold World.shape? at h ⊢
   rw[hb.block k hk]
   exact h
  obtain ⟨s1,s2⟩:=LL hb.size hb.os hb.tape hb.output hsh (fun k hk=>hb.block k hk) hI
  refine ⟨v',ρ,rfl,s2,s1, .p _ _ ?_⟩
  rcases ho.2 with ⟨rfl,_⟩ | ⟨g,cap,cur,rfl,_⟩
  ·exact .nil none 0 (.inr rfl)
  ·exact .nil (some _) cap (.inl rfl)
 ·exact kX [AI] B _ B (hrun _ _ ⟨rfl,rfl⟩) F ρ w _ hI ⟨rfl,fun j p u hp hu=>by
   match j with
   | 0=>cases hp; cases hu; exact .p _ _ (.v _)
   | j+1=>simp at hp⟩
noncomputable def ΓCp:BF:=DG [(Gp,PX)]
noncomputable def gk:Tree:= .call 4 (PX [vl []]=some (vl [])) (vl []) (.leaf ⟨[0],[(0,0,none)]⟩ [] .ret (some ([(0, .ptr 0 0 0)],[BO])))
theorem dE:Av DP ΓCp Δ0 Lm [vl []] [] gk=gk:=by kernel_rfl
def Xv:Ae:=fun args B r B'=>args= [vl []]∧B= []∧r= .ptr 0 0 0∧B'= [BO]
theorem si:SoundR DP J2 Xv:=Al AZ (An kY Bu) Bq Z0 Z1 Z2 (by
 rintro args B r B' ⟨rfl,rfl,rfl,rfl⟩
 exact ⟨by rw[Z3]; rfl,_,dE,Ac dD (wp_leaf rfl ⟨rfl,rfl⟩)⟩)
theorem sj {B:List Box}:AX Xv [vl []] B (.ptr B.length 0 0) (B++ [BO]):=by
 refine ⟨_,_,_,_,⟨rfl,rfl,rfl,rfl⟩,⟨[],[],[],[],[BO],rfl,rfl,?_,rfl,trivial,⟨.cells ?_ ?_ rfl,trivial⟩,?_,?_,rfl⟩⟩
 ·simp[AV.rv.rvL,AV.rv]
 ·simp[BM]
 ·simp[AV.rv.rvL,AV.rv,Bc,BM]
 ·rw[Bh]
 ·simp[AV.rv,Bc,BM]
/-- What through leaves: the disk; the cursor, and what is beneath it. -/
def J7 (ks:List Bool) (xs:List LeafD) (D:Dsk):List Box:=match ks,xs with
 | [],_=> [BD D,BO]
 | [_],[x]=> [BD D,curB 1 nilQ x.c]
 | ks,xs=>BD D:: .cells false 0 [vi 3,AI,nilQ,vi 0, .rs 2 0 1 0 ks.length,vi 0]:: .cells true 0 ((List.range ks.length).map fun j=> .ptr (3+j) 0 0)::(Cc ks xs (3+ks.length)++F9 ks xs 0)
noncomputable def gm:CB:=CZ [(J2,Pw gi (KM (AX Xv)))]
noncomputable def xA (ks:List Bool) (xs:List LeafD) (D:Dsk) (A:List Ent):Tree:=match ks with
 | []=> .callr (some 124) (gm J2 [.rs 1 0 1 0 0] [BD D,M5 0] (.ptr 2 0 0) [BD D, .dead,BO]) (.ptr 2 0 0) [BD D, .dead,BO] (.leaf ⟨[0],[(0,0,none),(2,0,none)]⟩ [] .ret (some ([(0, .tup [.ptr 1 0 0,vl (A.map AB.f),vb true])],J7 ks xs D)))
 | [_]=> .leaf ⟨[0],[(0,0,none),(2,0,none)]⟩ [] .ret (some ([(0, .tup [.ptr 1 0 0,vl (A.map AB.f),vb true])],J7 ks xs D))
 | ks=> .callr (some 124) (gm J2 [.rs 1 0 1 0 ks.length] (mT ks xs D) (.ptr (J5 ks) 0 0) (mT ks xs D++ [VG (J5 ks) ks.length,M5 ks.length])) (.ptr (J5 ks) 0 0) (mT ks xs D++ [VG (J5 ks) ks.length,M5 ks.length]) (
  .leaf ⟨[0],(0,0,none)::(J5 ks,0,none)::(J5 ks+1,0,none)::((List.range (ks.length+BS ks)).map fun j=>(2+j,0,none))⟩ [] .ret (some ([(0, .tup [.ptr 1 0 0,vl (A.map AB.f),vb true])],J7 ks xs D)))
noncomputable def dF (ks:List Bool) (xs:List LeafD) (D D':Dsk) (A:List Ent) (times:Int) (lists:List (List Ent)):Tree:=
.int 27 ((lists.map CQ.f).length:Int) (ks.length:Int) (.frag none ⟨[0,2,9,10,11,26,27,28],[(0,0,none),(1,0,none),(3,0,none),(2,0,none)]⟩ [] (some (Fe 3 0 0 ks.length times lists [],Ck [] [] D++ [AB.bx 0 []])) (Fe 3 0 0 ks.length times lists [],Ck [] [] D++ [AB.bx 0 []])
 (Tri DP 126 1 false wL (St.as (Fe 3 0 0 ks.length times lists [],Ck [] [] D++ [AB.bx 0 []])) fun e' s'=>e'=(.exit 0)∧s'=St.as ([(0, .op 0),(9, .rs 1 0 1 0 ks.length),(10,vl (A.map AB.f))],mT ks xs D'))
 (.exit 0) ([(0, .op 0),(9, .rs 1 0 1 0 ks.length),(10,vl (A.map AB.f))],mT ks xs D') (xA ks xs D' A))
def xU (ks:List Bool):Prop:=∀ (D D':Dsk) (x0 x1 x2 x3 x4:LeafD) (A:List Ent) (times:Int) (lists:List (List Ent)),
 Av DP Γ0 gm Qc [.op 0,vl (lists.map CQ.f),vi times] [BD D] (dF ks (l5 ks.length x0 x1 x2 x3 x4) D D' A times lists)=dF ks (l5 ks.length x0 x1 x2 x3 x4) D D' A times lists
theorem v6:Fa xU FX:=⟨by intro _;intros;kernel_rfl,by intro _;intros;kernel_rfl,by intro _;intros;kernel_rfl,by intro _;intros;kernel_rfl,by intro _;intros;kernel_rfl,by intro _;intros;kernel_rfl,by intro _;intros;kernel_rfl,by intro _;intros;kernel_rfl,by intro _;intros;kernel_rfl,by intro _;intros;kernel_rfl,by intro _;intros;kernel_rfl,by intro _;intros;kernel_rfl,by intro _;intros;kernel_rfl,by intro _;intros;kernel_rfl,trivial⟩
end Go.Ax
