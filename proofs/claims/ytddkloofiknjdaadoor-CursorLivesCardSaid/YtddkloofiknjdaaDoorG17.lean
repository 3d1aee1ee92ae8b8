/- Several cursors: which has what comes next: the contract of first. -/
import Derived.Test.YtddkloofiknjdaaDoorG16
set_option linter.unusedVariables false
set_option linter.unusedSimpArgs false
set_option linter.unusedSectionVars false
namespace Go.Ax
open Go.Proofs Go.RowKit
set_option maxRecDepth 100000

theorem Gr [Glob] {P:Program} {Γ:BF} {Δ:CB} (hm:P.follows .mixedOrders=true) (hΓ:∀ f,SoundF P f (Γ f)) (hΔ:∀ f,SoundR P f (Δ f)) {n m0:Nat} (c:Code) {s:AS} {T:Tree} {K:AE→St→Prop} (h:(Bg P Γ Δ n m0 c s T (CP m0)).wp K):
  Tri P n m0 false c s (fun e s2=>∃ c:St,s2=c.as∧K e c):=by
 refine (Po hm hΓ hΔ c h).weakr fun e s2 hk=>?_
 obtain ⟨T',hT⟩:=hk
 obtain ⟨c,⟨f,d,q1,q2,q3⟩,q4⟩:=QG hT
 exact ⟨c.as,f,d,q1,q2,q3,c,rfl,q4⟩

theorem Lp {r:Option Nat} {W:Wd} {olds:List (List AV)} {E0:St} {p:Prop} {e:AE} {c:St} {k:Tree} {K:AE→St→Prop} (ho:B9 W olds) (hp:p) (h:k.wp K):(Tree.frag r W olds (some E0) E0 p e c k).wp K:=⟨ho,rfl,hp,h⟩
theorem ΓC1_ok:∀ f,SoundF DP f (ΓC1 f):=An RT Bu
theorem XT:∀ f,SoundR DP f (Kk f):=AY (AU cm) BJ
abbrev fillL (D:Dsk) (k:Bool) (x:LeafD):LeafD:=x.put (A5 (A7 D k x) x.c).1
def fpick (y:Ent×Bool×Int) (i:Nat) (s:Int×Ent):Int×Ent:=if y.2.1=true∧(s.1<0∨BK y.1 s.2<0) then ((i:Int),y.1) else s
def A3 (D:Dsk):List Bool→List LeafD→Nat→Int×Ent→List LeafD×(Int×Ent)
 | k::ks,x::xs,i,s=>((fillL D k x)::(A3 D ks xs (i+1) (fpick (headE (fillL D k x).c.L) i s)).1,(A3 D ks xs (i+1) (fpick (headE (fillL D k x).c.L) i s)).2)
 | _,_,_,s=>([],s)
abbrev D6 (D:Dsk) (ks:List Bool) (xs:List LeafD):Prop:=∀ (i:Nat) (k:Bool) (x:LeafD),ks[i]? = some k→xs[i]? = some x→GoodL D k x
section
variable {D : Dsk} {ks : List Bool}
theorem XU {c:Code} {n m0:Nat} {s:AS} {T:Tree} {K:AE→St→Prop} (hc:Bg DP ΓC1 Kk n m0 c s T (CP m0)=T) (h:T.wp K):Tri DP n m0 false c s (fun e s2=>∃ c:St,s2=c.as∧K e c):=
 Gr AZ ΓC1_ok XT c (by rw[hc]; exact h)
def zD:LeafD:=⟨⟨[],0,0⟩,⟨#[]⟩,⟨[],[],0,⟨#[]⟩,⟨#[]⟩⟩⟩
theorem vU (hs:ks∈BP) {i:Nat} (hi:i<ks.length) {xs:List LeafD} (hl:xs.length=ks.length) (c:Cur) (a:Int) (best x:Ent) (o:Bool):
  Bg DP ΓC1 Kk 50 (Ap ks) Ru (St.as (J3 (Ap ks) ks.length i a,AT ks xs D++ [A4 Ag,A4 best])) (Z4 (AT ks xs D) (HJ (AT ks xs D) i c) (Ap ks) ks.length i a best x o) (CP (Ap ks))=Z4 (AT ks xs D) (HJ (AT ks xs D) i c) (Ap ks) ks.length i a best x o:=by
 have hc:Bg DP ΓC1 Kk 50 (Ap ks) Ru (St.as (J3 (Ap ks) ks.length i a,AT ks (l5 ks.length (xs.getD 0 zD) (xs.getD 1 zD) (xs.getD 2 zD) (xs.getD 3 zD) (xs.getD 4 zD)) D++ [A4 Ag,A4 best])) (Z4 (AT ks (l5 ks.length (xs.getD 0 zD) (xs.getD 1 zD) (xs.getD 2 zD) (xs.getD 3 zD) (xs.getD 4 zD)) D) (HJ (AT ks (l5 ks.length (xs.getD 0 zD) (xs.getD 1 zD) (xs.getD 2 zD) (xs.getD 3 zD) (xs.getD 4 zD)) D) i c) (Ap ks) ks.length i a best x o) (CP (Ap ks))=_:=Cj vR (ks,i) (N8 ks hs i hi) D _ _ _ _ _ c a best x o
 rw[←DR zD hl (Bp ks hs)] at hc
 exact hc
theorem vV (hs:ks∈BP) {xs:List LeafD} (hl:xs.length=ks.length) (a:Int) (best:Ent):
  Bg DP ΓC1 Kk 50 (Ap ks) Ru (St.as (J3 (Ap ks) ks.length ks.length a,AT ks xs D++ [A4 Ag,A4 best])) (gM (AT ks xs D) (Ap ks) a best) (CP (Ap ks))=gM (AT ks xs D) (Ap ks) a best:=by
 have hc:Bg DP ΓC1 Kk 50 (Ap ks) Ru (St.as (J3 (Ap ks) ks.length ks.length a,AT ks (l5 ks.length (xs.getD 0 zD) (xs.getD 1 zD) (xs.getD 2 zD) (xs.getD 3 zD) (xs.getD 4 zD)) D++ [A4 Ag,A4 best])) (gM (AT ks (l5 ks.length (xs.getD 0 zD) (xs.getD 1 zD) (xs.getD 2 zD) (xs.getD 3 zD) (xs.getD 4 zD)) D) (Ap ks) a best) (CP (Ap ks))=_:=Cj vS ks hs D _ _ _ _ _ a best
 rw[←DR zD hl (Bp ks hs)] at hc
 exact hc
theorem vW (hs:ks∈BP) {xs ys:List LeafD} (hl:xs.length=ks.length) (hl2:ys.length=ks.length) (a:Int) (best:Ent):
  Av DP ΓC1 Kk HI [.ptr 0 0 0] (AT ks xs D) (Ln (AT ks xs D) (AT ks ys D) (Ap ks) ks.length a best)=Ln (AT ks xs D) (AT ks ys D) (Ap ks) ks.length a best:=by
 have hc:Av DP ΓC1 Kk HI [.ptr 0 0 0] (AT ks (l5 ks.length (xs.getD 0 zD) (xs.getD 1 zD) (xs.getD 2 zD) (xs.getD 3 zD) (xs.getD 4 zD)) D) (Ln (AT ks (l5 ks.length (xs.getD 0 zD) (xs.getD 1 zD) (xs.getD 2 zD) (xs.getD 3 zD) (xs.getD 4 zD)) D) (AT ks (l5 ks.length (ys.getD 0 zD) (ys.getD 1 zD) (ys.getD 2 zD) (ys.getD 3 zD) (ys.getD 4 zD)) D) (Ap ks) ks.length a best)=_:=Cj vT ks hs D _ _ _ _ _ _ _ _ _ _ a best
 rw[←DR zD hl (Bp ks hs),←DR zD hl2 (Bp ks hs)] at hc
 exact hc
theorem wdN_ok (sl:List Nat) (k:Nat):B9 (Ik sl k) []:=by
 unfold B9 Ik
 simp
theorem TP {α:Type} (p q:List α) (x y:α):(p++x::q).set p.length y=p++y::q:=by simp
theorem PS {α:Type} (p q:List α) (x:α):(p++x::q)[p.length]? = some x:=by simp
theorem XV (hs:ks∈BP):∀ (kt kd:List Bool) (xt xd:List LeafD) (s:Int×Ent),ks=kd++kt→xd.length=kd.length→xt.length=kt.length→(∀ (i:Nat) (k:Bool) (x:LeafD),kt[i]? = some k→xt[i]? = some x→GoodL D k x) →
  Tri DP 50 (Ap ks) true Ru (St.as (J3 (Ap ks) ks.length kd.length s.1,AT ks (xd++xt) D++ [A4 Ag,A4 s.2])) fun e' s'=>e'= .exit 0 ∧
   s'=St.as ([(0, .ptr 0 0 0),(3, .ptr (Ap ks) 0 0),(5,vi (A3 D kt xt kd.length s).2.1),(6, .ptr (Ap ks+1) 0 0)],AT ks (xd++(A3 D kt xt kd.length s).1) D++ [A4 Ag,A4 (A3 D kt xt kd.length s).2.2]):=by
 intro kt
 have h5:=Bp ks hs
 induction kt with
 | nil=>
  intro kd xt xd s hk hd ht _
  obtain rfl:xt= []:=List.length_eq_zero_iff.1 ht
  have hkl:kd.length=ks.length:=by rw[hk]; simp
  have hc:=vV (D:=D) hs (xs:=xd++ []) (by simp; omega) s.1 s.2
  rw[hkl]
  refine Tri.round ((XU (K:=fun e c=>e= .exit 0∧c=([(0, .ptr 0 0 0),(3, .ptr (Ap ks) 0 0),(5,vi s.1),(6, .ptr (Ap ks+1) 0 0)],AT ks (xd++ []) D++ [A4 Ag,A4 s.2])) hc (wp_leaf (wdN_ok _ _) ⟨rfl,rfl⟩)).conseq fun e' s' hk=>?_)
  obtain ⟨c,rfl,rfl,rfl⟩:=hk
  exact ⟨rfl,rfl⟩
 | cons k kt ih=>
  intro kd xt xd s hk hd ht hg
  cases xt with
  | nil=>cases ht
  | cons x xt=>
  have hi:kd.length<ks.length:=by rw[hk]; simp
  have hkk:ks[kd.length]? = some k:=by rw[hk]; exact PS kd kt k
  have hxx:(xd++x::xt)[kd.length]? = some x:=by rw[←hd]; exact PS xd xt x
  have hlen:(xd++x::xt).length=ks.length:=by
   rw[hk]
   simp only[List.length_append,List.length_cons] at ht ⊢
   omega
  have g:=hg 0 k x rfl rfl
  have hc:=vU (D:=D) hs hi hlen (A5 (A7 D k x) x.c).1 s.1 s.2 (headE (A5 (A7 D k x) x.c).1.L).1 (headE (A5 (A7 D k x) x.c).1.L).2.1
  have hp:=kQ hlen hkk hxx g [A4 Ag,A4 s.2]
  have hu:=PR (D:=D) hlen hkk hxx (A5 (A7 D k x) x.c).1
  have hset:(xd++x::xt).set kd.length (x.put (A5 (A7 D k x) x.c).1)=(xd++ [fillL D k x])++xt:=by
   rw[←hd,TP]; simp
  have hr:=ih (kd++ [k]) xt (xd++ [fillL D k x]) (fpick (headE (fillL D k x).c.L) kd.length s) (by rw[hk]; simp) (by simp[hd]) (by simpa using ht) (fun i k' x' h1 h2=>hg (i+1) k' x' (by simpa using h1) (by simpa using h2))
  have hle:(kd++ [k]).length=kd.length+1:=by simp
  rw[hle] at hr
  have hend:xd++(A3 D (k::kt) (x::xt) kd.length s).1=(xd++ [fillL D k x])++(A3 D kt xt (kd.length+1) (fpick (headE (fillL D k x).c.L) kd.length s)).1:=by
   show xd++(fillL D k x::_)=_
   simp
  rw[hend]
  refine Tri.round ((XU (K:=fun e c=>e= .normal∧c=(J3 (Ap ks) ks.length (kd.length+1) (fpick (headE (fillL D k x).c.L) kd.length s).1,AT ks (xd++ [fillL D k x]++xt) D++ [A4 Ag,A4 (fpick (headE (fillL D k x).c.L) kd.length s).2])) hc ?_).conseq fun e' s' hk=>?_)
  ·rw[hu,hset] at hp ⊢
   unfold Z4
   have hfp:fpick (headE (fillL D k x).c.L) kd.length s=if (headE (A5 (A7 D k x) x.c).1.L).2.1=true∧(s.1<0∨BK (headE (A5 (A7 D k x) x.c).1.L).1 s.2<0) then ((kd.length:Int),(headE (A5 (A7 D k x) x.c).1.L).1) else s:=rfl
   refine AM hp (AC (fun q1=>AC (fun q2=>?_) (fun q2=>Ac (Dm _ _) (AC (fun q3=>?_) (fun q3=>?_)))) (fun q1=>?_))
   ·rw[hfp,if_pos ⟨q1, .inl (of_decide_eq_true q2)⟩]; exact wp_leaf (wdN_ok _ _) ⟨rfl,rfl⟩
   ·rw[hfp,if_pos ⟨q1, .inr (of_decide_eq_true q3)⟩]; exact wp_leaf (wdN_ok _ _) ⟨rfl,rfl⟩
   ·rw[hfp,if_neg (fun h=>h.2.elim (of_decide_eq_false q2) (of_decide_eq_false q3))]; exact wp_leaf (wdN_ok _ _) ⟨rfl,rfl⟩
   ·rw[hfp,if_neg (fun h=>by rw[h.1] at q1; cases q1)]; exact wp_leaf (wdN_ok _ _) ⟨rfl,rfl⟩
  ·obtain ⟨c,rfl,rfl,rfl⟩:=hk
   exact hr
theorem C6:∀ (ks:List Bool) (xs:List LeafD) (i:Nat) (s:Int×Ent),xs.length=ks.length→(A3 D ks xs i s).1.length=ks.length
 | [],[],_,_,_=>rfl
 | k::ks,x::xs,i,s,h=>by
  show (_::(A3 D ks xs (i+1) _).1).length=_
  rw[List.length_cons,C6 ks xs _ _ (by simpa using h)]; rfl
theorem gN:r8= .loop Ru:=by kernel_rfl
end
def OC:Ae:=fun args B r B'=>∃ (D:Dsk) (ks:List Bool) (xs:List LeafD),ks∈BP∧xs.length=ks.length∧D6 D ks xs∧args= [.ptr 0 0 0]∧B=AT ks xs D ∧
 r= .tup [vi (A3 D ks xs 0 (-1,Ag)).2.1,AB.av (A3 D ks xs 0 (-1,Ag)).2.2,vi 0]∧B'=AT ks (A3 D ks xs 0 (-1,Ag)).1 D
theorem gO:SoundR DP GM OC:=Al AZ ΓC1_ok XT Zw Zx Zy (by
 rintro args B r B' ⟨D,ks,xs,hs,hl,hg,rfl,rfl,rfl,rfl⟩
 have hc:=vW (D:=D) hs hl (C6 (D:=D) ks xs 0 (-1,Ag) hl) (A3 D ks xs 0 (-1,Ag)).2.1 (A3 D ks xs 0 (-1,Ag)).2.2
 refine ⟨by rw[Zz]; rfl,_,hc,?_⟩
 unfold Ln
 refine Lp (wdN_ok _ _) ?_ (wp_leaf (wdN_ok _ _) ⟨rfl,rfl⟩)
 rw[gN]
 exact .loop (XV hs ks [] xs [] (-1,Ag) rfl rfl hl hg))

def Ba (p:Pgs) (c:Cur):List Ent:=c.L++((List.range' c.pg.toNat (p.np - c.pg).toNat).map fun (i:Nat)=>(p.pf (i:Int)).1).flatten
section
variable {D : Dsk} {k : Bool} {x : LeafD}
theorem OD {L M:List Ent} (h:L≠ []):headE (L++M)=headE L:=by
 cases L with
 | nil=>exact absurd rfl h
 | cons x L=>rfl
theorem OE (g:GoodL D k x):Ba (A7 D k x) (A5 (A7 D k x) x.c).1=Ba (A7 D k x) x.c∧headE (A5 (A7 D k x) x.c).1.L=headE (Ba (A7 D k x) x.c)∧((A5 (A7 D k x) x.c).1.L= []→Ba (A7 D k x) x.c= []):=by
 have h0:=g.pg
 unfold A5
 by_cases hc:x.c.bad≠0∨0<x.c.L.length∨(A7 D k x).np≤x.c.pg
 ·rw[if_pos hc]
  refine ⟨rfl,?_,?_⟩
  ·show headE x.c.L=headE (Ba _ x.c)
   unfold Ba
   rcases hc with h | h | h
   ·exact absurd g.bad h
   ·exact (OD (by intro e; rw[e] at h; simp at h)).symm
   ·rw[show ((A7 D k x).np - x.c.pg).toNat=0 by omega]; simp
  ·intro h
   have h:x.c.L= []:=h
   unfold Ba
   rcases hc with h1 | h1 | h1
   ·exact absurd g.bad h1
   ·rw[h] at h1; simp at h1
   ·rw[h,show ((A7 D k x).np - x.c.pg).toNat=0 by omega]; rfl
 ·rw[if_neg hc]
  have hL:x.c.L= []:=List.length_eq_zero_iff.1 (by
   by_cases e:0<x.c.L.length
   ·exact absurd (.inr (.inl e)) hc
   ·omega)
  have hp:¬(A7 D k x).np≤x.c.pg:=fun e=>hc (.inr (.inr e))
  have hok:=g.ok x.c.pg h0.1 (by omega)
  rw[if_neg (fun e=>e hok.1)]
  have hr:Ba (A7 D k x) x.c=((A7 D k x).pf x.c.pg).1++((List.range' (x.c.pg+1).toNat ((A7 D k x).np - (x.c.pg+1)).toNat).map fun (i:Nat)=>((A7 D k x).pf (i:Int)).1).flatten:=by
   unfold Ba
   rw[hL,List.nil_append,show ((A7 D k x).np - x.c.pg).toNat=((A7 D k x).np - (x.c.pg+1)).toNat+1 by omega,List.range'_succ,List.map_cons,List.flatten_cons,Int.toNat_of_nonneg h0.1,show x.c.pg.toNat+1=(x.c.pg+1).toNat by omega]
  refine ⟨hr.symm,?_,fun h=>absurd h hok.2⟩
  rw[hr]
  exact (OD hok.2).symm
theorem T7 (g:GoodL D k x) (L:List Ent):GoodL D k (x.put ⟨L,x.c.pg,x.c.bad⟩):=⟨g.bad,g.pg,g.np,g.rd,g.ok⟩
theorem T8 (g:GoodL D k x):(Ba (A7 D k x) x.c= []→Dh (A7 D k x) x.c=((A5 (A7 D k x) x.c).1,Ag,false,0)) ∧
  ∀ y r,Ba (A7 D k x) x.c=y::r→(Dh (A7 D k x) x.c).2=(y,true,0)∧Ba (A7 D k x) (Dh (A7 D k x) x.c).1=r∧GoodL D k (x.put (Dh (A7 D k x) x.c).1):=by
 obtain ⟨h1,h2,h3⟩:=OE g
 have hp:=OA g
 unfold Dh
 rw[hp]
 simp only
 constructor
 ·intro e
  rw[e] at h2
  rw[h2]
  rfl
 ·intro y r e
  rw[e] at h2
  rw[h2]
  have hk:(headE (y::r)).2.1=true:=rfl
  rw[if_pos hk]
  refine ⟨rfl,?_,T7 g.fill _⟩
  rw[e] at h1
  obtain ⟨c,hc⟩:∃ c,c=(A5 (A7 D k x) x.c).1:=⟨_,rfl⟩
  rw[←hc] at h1 h2 ⊢
  unfold Ba cW at *
  cases hL:c.L with
  | nil=>rw[hL] at h2; cases h2
  | cons z L=>
   rw[hL] at h1 h2
   cases h2
   exact (List.cons.inj h1).2
end
def restsF (D:Dsk):List Bool→List LeafD→List (List Ent)
 | k::ks,x::xs=>Ba (A7 D k x) x.c::restsF D ks xs
 | _,_=> []
def Dt:List (List Ent)→Nat→Int×Ent→Int×Ent
 | [],_,s=>s
 | r::rs,i,s=>Dt rs (i+1) (fpick (headE r) i s)
section
variable {D : Dsk}
theorem Rw:∀ (ks:List Bool) (xs:List LeafD),xs.length=ks.length→(restsF D ks xs).length=ks.length
 | [],[],_=>rfl
 | k::ks,x::xs,h=>by
  show (_::restsF D ks xs).length=_
  rw[List.length_cons,Rw ks xs (by simpa using h)]; rfl
theorem Ml:∀ (ks:List Bool) (xs:List LeafD) (i:Nat) (k:Bool) (x:LeafD),ks[i]? = some k→xs[i]? = some x→(restsF D ks xs)[i]? = some (Ba (A7 D k x) x.c)
 | [],_,i,_,_,h,_=>by simp at h
 | _::_,[],i,_,_,_,h=>by simp at h
 | b::ks,y::xs,0,k,x,h1,h2=>by cases h1; cases h2; rfl
 | b::ks,y::xs,i+1,k,x,h1,h2=>by
  show (_::restsF D ks xs)[i+1]? = _
  rw[List.getElem?_cons_succ]
  exact Ml ks xs i k x (by simpa using h1) (by simpa using h2)
theorem Rx:∀ (ks:List Bool) (xs:List LeafD) (i:Nat) (k:Bool) (x:LeafD) (c:Cur),ks[i]? = some k→xs[i]? = some x→restsF D ks (xs.set i (x.put c))=(restsF D ks xs).set i (Ba (A7 D k x) c)
 | [],_,i,_,_,_,h,_=>by simp at h
 | _::_,[],i,_,_,_,_,h=>by simp at h
 | b::ks,y::xs,0,k,x,c,h1,h2=>by cases h1; cases h2; rfl
 | b::ks,y::xs,i+1,k,x,c,h1,h2=>by
  show _::restsF D ks (xs.set i (x.put c))=_::(restsF D ks xs).set i _
  rw[Rx ks xs i k x c (by simpa using h1) (by simpa using h2)]
theorem kR {ks:List Bool} {xs:List LeafD} (hg:D6 D ks xs) {i:Nat} {x:LeafD} (hx:∀ k,ks[i]? = some k→GoodL D k x):D6 D ks (xs.set i x):=fun j k y h1 h2=>by
 rw[List.getElem?_set] at h2
 split at h2
 ·rename_i e
  subst e
  split at h2
  ·cases h2; exact hx k h1
  ·cases h2
 ·exact hg j k y h1 h2
theorem Ee:∀ (ks:List Bool) (xs:List LeafD) (i:Nat) (s:Int×Ent),xs.length=ks.length→D6 D ks xs →
  (A3 D ks xs i s).2=Dt (restsF D ks xs) i s∧restsF D ks (A3 D ks xs i s).1=restsF D ks xs∧D6 D ks (A3 D ks xs i s).1
 | [],[],_,_,_,_=>⟨rfl,rfl,fun i k x h=>by simp at h⟩
 | k::ks,x::xs,i,s,h,hg=>by
  have g:=hg 0 k x rfl rfl
  have hg':D6 D ks xs:=fun j k' x' h1 h2=>hg (j+1) k' x' (by simpa using h1) (by simpa using h2)
  obtain ⟨r1,r2,_⟩:=OE g
  have hh:headE (fillL D k x).c.L=headE (Ba (A7 D k x) x.c):=r2
  obtain ⟨a1,a2,a3⟩:=Ee ks xs (i+1) (fpick (headE (fillL D k x).c.L) i s) (by simpa using h) hg'
  refine ⟨?_,?_,?_⟩
  ·show (A3 D ks xs (i+1) (fpick (headE (fillL D k x).c.L) i s)).2=Dt (restsF D ks xs) (i+1) (fpick (headE (Ba (A7 D k x) x.c)) i s)
   rw[a1,hh]
  ·show Ba (A7 D k (fillL D k x)) (fillL D k x).c::restsF D ks (A3 D ks xs (i+1) _).1=Ba (A7 D k x) x.c::restsF D ks xs
   rw[a2,show Ba (A7 D k (fillL D k x)) (fillL D k x).c=Ba (A7 D k x) x.c from r1]
  ·intro j k' y h1 h2
   cases j with
   | zero=>
    cases h1
    cases h2
    exact g.fill
   | succ j=>exact a3 j k' y (by simpa using h1) (by
     have:((A3 D (k::ks) (x::xs) i s).1)[j+1]? = (A3 D ks xs (i+1) (fpick (headE (fillL D k x).c.L) i s)).1[j]? := List.getElem?_cons_succ
     rw[←this]; exact h2)
theorem pick_head:∀ (rs:List (List Ent)) (i:Nat) (s:Int×Ent),Dt rs i s=s∨∃ (j:Nat) (y:Ent) (t:List Ent),Dt rs i s=(((i+j:Nat):Int),y)∧rs[j]? = some (y::t)
 | [],_,s=> .inl rfl
 | r::rs,i,s=>by
  show Dt rs (i+1) (fpick (headE r) i s)=s∨_
  rcases pick_head rs (i+1) (fpick (headE r) i s) with h | ⟨j,y,t,h1,h2⟩
  ·by_cases hc:(headE r).2.1=true∧(s.1<0∨BK (headE r).1 s.2<0)
   ·right
    have e:fpick (headE r) i s=((i:Int),(headE r).1):=if_pos hc
    cases r with
    | nil=>exact absurd hc.1 (by decide)
    | cons z r=>exact ⟨0,z,r,by show Dt rs (i+1) _=_; rw[h,e]; rfl,rfl⟩
   ·left
    rw[h]
    exact if_neg hc
  ·right
   exact ⟨j+1,y,t,by show Dt rs (i+1) _=_; rw[h1,show i+1+j=i+(j+1) by omega],by simpa using h2⟩
end

noncomputable def gP:CB:=CZ [(GM,AX OC)]
noncomputable def Lq (B B':List Box) (m:Nat) (a:Int) (best:Ent):Tree:=
.callr (some 32) (gP GM [.ptr 0 0 0] (B++ [A4 Ag]) (.tup [vi a,AB.av best,vi 0]) (B'++ [A4 Ag])) (.tup [vi a,AB.av best,vi 0]) (B'++ [A4 Ag]) (.leaf (Ik [0] m) [] .ret (some ([(0, .tup [AB.av best,vb (decide (a≥(0:Int))),vi 0])],B')))
def OF:Ae:=fun args B r B'=>∃ (D:Dsk) (ks:List Bool) (xs:List LeafD),ks∈BP∧xs.length=ks.length∧D6 D ks xs∧args= [.ptr 0 0 0]∧B=AT ks xs D ∧
 r= .tup [AB.av (A3 D ks xs 0 (-1,Ag)).2.2,vb (decide ((A3 D ks xs 0 (-1,Ag)).2.1≥0)),vi 0]∧B'=AT ks (A3 D ks xs 0 (-1,Ag)).1 D
noncomputable def XW:CB:=CZ [(GM,AX OC),(Eh,AX OF),(GL,AX Kj)]
noncomputable def J4 (B B1 B2 B3:List Box) (m a:Nat) (x:Ent) (o:Bool) (best y:Ent) (o2:Bool):Tree:=
.callr (some 13) (XW Eh [.ptr 0 0 0] (B++ [A4 Ag]) (.tup [AB.av x,vb o,vi 0]) (B1++ [A4 Ag])) (.tup [AB.av x,vb o,vi 0]) (B1++ [A4 Ag]) (.sp 15 o (
.callr (some 29) (XW GM [.ptr 0 0 0] (B1++ [A4 Ag,A4 x]) (.tup [vi (a:Int),AB.av best,vi 0]) (B2++ [A4 Ag,A4 x])) (.tup [vi (a:Int),AB.av best,vi 0]) (B2++ [A4 Ag,A4 x]) (
.callr (some 40) (XW GL [.ptr (2+a) 0 0] (B2++ [A4 Ag,A4 x,A4 best]) (.tup [AB.av y,vb o2,vi 0]) (B3++ [A4 Ag,A4 x,A4 best])) (.tup [AB.av y,vb o2,vi 0]) (B3++ [A4 Ag,A4 x,A4 best]) (.leaf (Ik [0] m) [] .ret (some ([(0, .tup [AB.av y,vb o2,vi 0])],B3))))) (
.leaf (Ik [0] m) [] .ret (some ([(0, .tup [AB.av x,vb false,vi 0])],B1))))
def xJ (ks:List Bool):Prop:=∀ (D:Dsk) (x0 x1 x2 x3 x4 y0 y1 y2 y3 y4:LeafD) (a:Int) (best:Ent),
 Av DP Γ0 gP Mj [.ptr 0 0 0] (AT ks (l5 ks.length x0 x1 x2 x3 x4) D) (Lq (AT ks (l5 ks.length x0 x1 x2 x3 x4) D) (AT ks (l5 ks.length y0 y1 y2 y3 y4) D) (Ap ks) a best) =
  Lq (AT ks (l5 ks.length x0 x1 x2 x3 x4) D) (AT ks (l5 ks.length y0 y1 y2 y3 y4) D) (Ap ks) a best
def xL (p:List Bool×Nat):Prop:=∀ (D:Dsk) (x0 x1 x2 x3 x4 y0 y1 y2 y3 y4 z0 z1 z2 z3 z4 w0 w1 w2 w3 w4:LeafD) (x:Ent) (o:Bool) (best y:Ent) (o2:Bool),
 Av DP Γ0 XW J1 [.ptr 0 0 0] (AT p.1 (l5 p.1.length x0 x1 x2 x3 x4) D) (J4 (AT p.1 (l5 p.1.length x0 x1 x2 x3 x4) D) (AT p.1 (l5 p.1.length y0 y1 y2 y3 y4) D) (AT p.1 (l5 p.1.length z0 z1 z2 z3 z4) D) (AT p.1 (l5 p.1.length w0 w1 w2 w3 w4) D) (Ap p.1) p.2 x o best y o2) =
  J4 (AT p.1 (l5 p.1.length x0 x1 x2 x3 x4) D) (AT p.1 (l5 p.1.length y0 y1 y2 y3 y4) D) (AT p.1 (l5 p.1.length z0 z1 z2 z3 z4) D) (AT p.1 (l5 p.1.length w0 w1 w2 w3 w4) D) (Ap p.1) p.2 x o best y o2
theorem vX:Fa xJ BP:=⟨by intro _;intros;kernel_rfl,by intro _;intros;kernel_rfl,by intro _;intros;kernel_rfl,by intro _;intros;kernel_rfl,by intro _;intros;kernel_rfl,by intro _;intros;kernel_rfl,by intro _;intros;kernel_rfl,by intro _;intros;kernel_rfl,by intro _;intros;kernel_rfl,by intro _;intros;kernel_rfl,by intro _;intros;kernel_rfl,by intro _;intros;kernel_rfl,by intro _;intros;kernel_rfl,trivial⟩
theorem vY:Fa xL Rv:=⟨by intro _;intros;kernel_rfl,by intro _;intros;kernel_rfl,by intro _;intros;kernel_rfl,by intro _;intros;kernel_rfl,by intro _;intros;kernel_rfl,by intro _;intros;kernel_rfl,by intro _;intros;kernel_rfl,by intro _;intros;kernel_rfl,by intro _;intros;kernel_rfl,by intro _;intros;kernel_rfl,by intro _;intros;kernel_rfl,by intro _;intros;kernel_rfl,by intro _;intros;kernel_rfl,by intro _;intros;kernel_rfl,by intro _;intros;kernel_rfl,by intro _;intros;kernel_rfl,by intro _;intros;kernel_rfl,by intro _;intros;kernel_rfl,by intro _;intros;kernel_rfl,by intro _;intros;kernel_rfl,by intro _;intros;kernel_rfl,by intro _;intros;kernel_rfl,by intro _;intros;kernel_rfl,by intro _;intros;kernel_rfl,by intro _;intros;kernel_rfl,by intro _;intros;kernel_rfl,by intro _;intros;kernel_rfl,by intro _;intros;kernel_rfl,by intro _;intros;kernel_rfl,by intro _;intros;kernel_rfl,by intro _;intros;kernel_rfl,by intro _;intros;kernel_rfl,by intro _;intros;kernel_rfl,by intro _;intros;kernel_rfl,by intro _;intros;kernel_rfl,by intro _;intros;kernel_rfl,by intro _;intros;kernel_rfl,by intro _;intros;kernel_rfl,by intro _;intros;kernel_rfl,by intro _;intros;kernel_rfl,by intro _;intros;kernel_rfl,by intro _;intros;kernel_rfl,by intro _;intros;kernel_rfl,by intro _;intros;kernel_rfl,by intro _;intros;kernel_rfl,by intro _;intros;kernel_rfl,by intro _;intros;kernel_rfl,trivial⟩

section
variable {ks : List Bool} {xs : List LeafD} {D : Dsk} {i : Nat} {k : Bool} {x : LeafD}
theorem Z7 {n:Nat} (q:Bool) {f:Nat} (c:Cur) (h:q=true→f<n):AV.low.allLow n (F4 q f c).cs=true:=by
 cases q with
 | false=>rfl
 | true=>
  have:=h rfl
  simp[F4,Box.cs,AV.low.allLow,AV.low,Nat.blt_eq,this]
theorem OG (n:Nat):∀ (ks:List Bool) (xs:List LeafD) (f:Nat),xs.length=ks.length→f+BS ks≤n→∀ b∈Cc ks xs f,AV.low.allLow n b.cs=true
 | [],[],_,_,_,b,hb=>by cases hb
 | true::ks,x::xs,f,h,hn,b,hb=>by
  have hn:f+(BS ks+1)≤n:=hn
  rcases List.mem_cons.1 (show b∈curB 2 (.ptr f 0 0) x.c::Cc ks xs (f+1) from hb) with rfl | hb
  ·exact Z7 true x.c (fun _=>by omega)
  ·exact OG n ks xs (f+1) (by simpa using h) (by omega) b hb
 | false::ks,x::xs,f,h,hn,b,hb=>by
  rcases List.mem_cons.1 (show b∈curB 1 nilQ x.c::Cc ks xs f from hb) with rfl | hb
  ·exact Z7 (f:=0) false x.c (fun e=>by cases e)
  ·exact OG n ks xs f (by simpa using h) hn b hb
theorem TQ (n:Nat):∀ (ks:List Bool) (xs:List LeafD) (d:Nat),xs.length=ks.length→(0<BS ks→d<n)→∀ b∈F9 ks xs d,AV.low.allLow n b.cs=true
 | [],[],_,_,_,b,hb=>by cases hb
 | true::ks,x::xs,d,h,hn,b,hb=>by
  have hd:d<n:=hn (Nat.succ_pos _)
  rcases List.mem_cons.1 (show b∈filC d x.nm x.F::F9 ks xs d from hb) with rfl | hb
  ·simp[Box.cs,AV.low.allLow,AV.low,Nat.blt_eq,hd]
  ·exact TQ n ks xs d (by simpa using h) (fun _=>hd) b hb
 | false::ks,x::xs,d,h,hn,b,hb=>TQ n ks xs d (by simpa using h) hn b hb
theorem Z8 (h:xs.length=ks.length):NQ (Ap ks) (AT ks xs D):=by
 have hl:Ap ks=2+ks.length+BS ks+(if BS ks=0 then 0 else 1):=rfl
 intro b hb
 unfold AT at hb
 simp only[List.mem_cons,List.mem_append] at hb
 rcases hb with rfl | rfl | hb | hb | hb
 ·simp[Box.cs,AV.low.allLow,AV.low,Nat.blt_eq]; omega
 ·show AV.low.allLow _ ((List.range ks.length).map fun j=>AV.ptr (2+j) 0 0)=true
  have:∀ (l:List Nat),(∀ j∈l,j<ks.length)→AV.low.allLow (Ap ks) (l.map fun j=>AV.ptr (2+j) 0 0)=true:=by
   intro l
   induction l with
   | nil=>intro _; rfl
   | cons a l ih=>
    intro hl'
    have h1:=hl' a (by simp)
    simp only[List.map_cons,AV.low.allLow,AV.low,Nat.blt_eq,Bool.and_eq_true]
    exact ⟨by omega,ih fun j hj=>hl' j (by simp[hj])⟩
  exact this _ fun j hj=>List.mem_range.1 hj
 ·exact OG _ _ _ _ h (by omega) b hb
 ·exact TQ _ _ _ _ h (fun hp=>by rw[hl,if_neg (by omega)]; omega) b hb
 ·unfold VD at hb
  split at hb
  ·cases hb
  ·rw[List.mem_singleton.1 hb]; rfl
theorem Mm {R:Ae} {ys:List LeafD} {args:List AV} {r:AV} (hR:R args (AT ks xs D) r (AT ks ys D)) (h:xs.length=ks.length) (h2:ys.length=ks.length) (ha:AV.low.allLow (Ap ks) args=true) (hr:r.low (Ap ks)=true) (T:List Box):
  AX R args (AT ks xs D++T) r (AT ks ys D++T):=by
 have e:=Lo (D:=D) h
 have e2:=Lo (D:=D) h2
 refine EQ hR (by rw[e,e2]) (by rw[e]; exact ha) (by rw[e]; exact Z8 h) (by rw[e]; exact Z8 h2) (by rw[e]; exact hr) T
theorem kS (ks:List Bool):AV.low.allLow (Ap ks) [.ptr 0 0 0]=true:=by
 have h:Nat.blt 0 (Ap ks)=true:=by rw[Nat.blt_eq]; show 0<2+_+_+_; omega
 show (Nat.blt 0 (Ap ks)&&true)=true
 rw[h]; rfl
theorem sA:∀ f,SoundR DP f (gP f):=AY (AU gO) BJ
theorem T9 (hs:ks∈BP) (h:xs.length=ks.length) (hg:D6 D ks xs) (T:List Box):
  AX OC [.ptr 0 0 0] (AT ks xs D++T) (.tup [vi (A3 D ks xs 0 (-1,Ag)).2.1,AB.av (A3 D ks xs 0 (-1,Ag)).2.2,vi 0]) (AT ks (A3 D ks xs 0 (-1,Ag)).1 D++T):=
 Mm (R:=OC) ⟨D,ks,xs,hs,h,hg,rfl,rfl,rfl,rfl⟩ h (C6 ks xs 0 _ h) (kS ks) rfl T
theorem vZ (hs:ks∈BP) {ys:List LeafD} (hl:xs.length=ks.length) (hl2:ys.length=ks.length) (a:Int) (best:Ent):
  Av DP Γ0 gP Mj [.ptr 0 0 0] (AT ks xs D) (Lq (AT ks xs D) (AT ks ys D) (Ap ks) a best)=Lq (AT ks xs D) (AT ks ys D) (Ap ks) a best:=by
 have hc:Av DP Γ0 gP Mj [.ptr 0 0 0] (AT ks (l5 ks.length (xs.getD 0 zD) (xs.getD 1 zD) (xs.getD 2 zD) (xs.getD 3 zD) (xs.getD 4 zD)) D) (Lq (AT ks (l5 ks.length (xs.getD 0 zD) (xs.getD 1 zD) (xs.getD 2 zD) (xs.getD 3 zD) (xs.getD 4 zD)) D) (AT ks (l5 ks.length (ys.getD 0 zD) (ys.getD 1 zD) (ys.getD 2 zD) (ys.getD 3 zD) (ys.getD 4 zD)) D) (Ap ks) a best)=_:=Cj vX ks hs D _ _ _ _ _ _ _ _ _ _ a best
 rw[←DR zD hl (Bp ks hs),←DR zD hl2 (Bp ks hs)] at hc
 exact hc
theorem ld (hs:ks∈BP) {ys zs ws:List LeafD} (hl:xs.length=ks.length) (hl2:ys.length=ks.length) (hl3:zs.length=ks.length) (hl4:ws.length=ks.length) {a:Nat} (ha:a<ks.length) (x:Ent) (o:Bool) (best y:Ent) (o2:Bool):
  Av DP Γ0 XW J1 [.ptr 0 0 0] (AT ks xs D) (J4 (AT ks xs D) (AT ks ys D) (AT ks zs D) (AT ks ws D) (Ap ks) a x o best y o2)=J4 (AT ks xs D) (AT ks ys D) (AT ks zs D) (AT ks ws D) (Ap ks) a x o best y o2:=by
 have hc:Av DP Γ0 XW J1 [.ptr 0 0 0] (AT ks (l5 ks.length (xs.getD 0 zD) (xs.getD 1 zD) (xs.getD 2 zD) (xs.getD 3 zD) (xs.getD 4 zD)) D) (J4 (AT ks (l5 ks.length (xs.getD 0 zD) (xs.getD 1 zD) (xs.getD 2 zD) (xs.getD 3 zD) (xs.getD 4 zD)) D) (AT ks (l5 ks.length (ys.getD 0 zD) (ys.getD 1 zD) (ys.getD 2 zD) (ys.getD 3 zD) (ys.getD 4 zD)) D) (AT ks (l5 ks.length (zs.getD 0 zD) (zs.getD 1 zD) (zs.getD 2 zD) (zs.getD 3 zD) (zs.getD 4 zD)) D) (AT ks (l5 ks.length (ws.getD 0 zD) (ws.getD 1 zD) (ws.getD 2 zD) (ws.getD 3 zD) (ws.getD 4 zD)) D) (Ap ks) a x o best y o2)=_:=Cj vY (ks,a) (N8 ks hs a ha) D _ _ _ _ _ _ _ _ _ _ _ _ _ _ _ _ _ _ _ _ x o best y o2
 rw[←DR zD hl (Bp ks hs),←DR zD hl2 (Bp ks hs),←DR zD hl3 (Bp ks hs),←DR zD hl4 (Bp ks hs)] at hc
 exact hc
end
theorem gQ:SoundR DP Eh OF:=Al AZ Γ0_ok sA Rm Rn Ro (by
 rintro args B r B' ⟨D,ks,xs,hs,hl,hg,rfl,rfl,rfl,rfl⟩
 refine ⟨by rw[Rp]; rfl,_,vZ hs hl (C6 (D:=D) ks xs 0 (-1,Ag) hl) (A3 D ks xs 0 (-1,Ag)).2.1 (A3 D ks xs 0 (-1,Ag)).2.2,?_⟩
 unfold Lq
 exact AM (T9 hs hl hg _) (wp_leaf (wdN_ok _ _) ⟨rfl,rfl⟩))
section
variable {ks : List Bool} {xs : List LeafD} {D : Dsk} {i : Nat} {k : Bool} {x : LeafD}
theorem UA (hs:ks∈BP) (h:xs.length=ks.length) (hg:D6 D ks xs) (T:List Box):
  AX OF [.ptr 0 0 0] (AT ks xs D++T) (.tup [AB.av (A3 D ks xs 0 (-1,Ag)).2.2,vb (decide ((A3 D ks xs 0 (-1,Ag)).2.1≥0)),vi 0]) (AT ks (A3 D ks xs 0 (-1,Ag)).1 D++T):=
 Mm (R:=OF) ⟨D,ks,xs,hs,h,hg,rfl,rfl,rfl,rfl⟩ h (C6 ks xs 0 _ h) (kS ks) rfl T
theorem sB:∀ f,SoundR DP f (XW f):=AY (AU gO) (AY (AU gQ) (AY (AU gK) BJ))
theorem kT (h:xs.length=ks.length) (hk:ks[i]? = some k) (hx:xs[i]? = some x) (g:GoodL D k x) {y:Ent} {t:List Ent} (hr:Ba (A7 D k x) x.c=y::t) (T:List Box):
  AX Kj [.ptr (2+i) 0 0] (AT ks xs D++T) (.tup [AB.av y,vb true,vi 0]) (AT ks (xs.set i (x.put (Dh (A7 D k x) x.c).1)) D++T):=by
 have hi:i<ks.length:=(List.getElem?_eq_some_iff.1 hk).1
 have hl:2+i<(AT ks xs D).length:=by rw[Lo h]; unfold Ap; omega
 have e1:=Mk (D:=D) h hk hx
 have hB:(AT ks xs D++T)[2+i]? = some (F4 k (2+ks.length+BS (ks.take i)) x.c):=by rw[List.getElem?_append_left hl,e1]
 obtain ⟨n1,n2,n3⟩:=(T8 g).2 y t hr
 rw[←PQ h hk hx,←List.set_append_left _ _ hl]
 cases k with
 | false=>
  have ep:=T6 (A7 D false x) rfl g.pg.1
  have en:Dh (A7 D false x) x.c=FC x.c:=by
   unfold Dh FC
   rw[ep]
  have:=gL (B:=AT ks xs D++T) (l:=2+i) (c:=x.c) hB
  rw[←en,n1] at this
  exact this
 | true=>
  have hd:(AT ks xs D++T)[2+ks.length+BS ks]? = some (BD D):=by
   have:=Qb (D:=D) h hk
   rw[List.getElem?_append_left (List.getElem?_eq_some_iff.1 this).1,this]
  have hf:(AT ks xs D++T)[2+ks.length+BS (ks.take i)]? = some (filC (2+ks.length+BS ks) x.nm x.F):=by
   have:=Qa (D:=D) h hk hx
   rw[List.getElem?_append_left (List.getElem?_eq_some_iff.1 this).1,this]
  have:=r7 (l:=2+i) (c:=x.c) (g.rd rfl) g.pg hd hf hB
  rw[show Ah D x.nm x.F=A7 D true x from rfl,n1] at this
  exact this
end
def EI (D:Dsk) (ks:List Bool) (xs:List LeafD):List LeafD×(Ent×Bool×Int):=
 let q:=A3 D ks xs 0 (-1,Ag)
 if 0≤q.2.1 then
  let q2:=A3 D ks q.1 0 (-1,Ag)
  let j:=q2.2.1.toNat
  let x:=q2.1.getD j zD
  (q2.1.set j (x.put (Dh (A7 D (ks.getD j false) x) x.c).1),q.2.2,true,0)
 else (q.1,q.2.2,false,0)
def Ry:Ae:=fun args B r B'=>∃ (D:Dsk) (ks:List Bool) (xs:List LeafD),ks∈BP∧xs.length=ks.length∧D6 D ks xs∧args= [.ptr 0 0 0]∧B=AT ks xs D ∧
 r= .tup [AB.av (EI D ks xs).2.1,vb (EI D ks xs).2.2.1,vi (EI D ks xs).2.2.2]∧B'=AT ks (EI D ks xs).1 D
theorem nextM_of {D:Dsk} {ks:List Bool} {xs:List LeafD} (h:xs.length=ks.length) (hg:D6 D ks xs):
  ((Dt (restsF D ks xs) 0 (-1,Ag)).1= -1∧EI D ks xs=((A3 D ks xs 0 (-1,Ag)).1,Ag,false,0)) ∨
  ∃ (j:Nat) (y:Ent) (t:List Ent) (k:Bool) (x:LeafD),Dt (restsF D ks xs) 0 (-1,Ag)=((j:Int),y)∧(restsF D ks xs)[j]? = some (y::t)∧j<ks.length ∧
   let q2:=A3 D ks (A3 D ks xs 0 (-1,Ag)).1 0 (-1,Ag)
   ks[j]? = some k∧q2.1[j]? = some x∧GoodL D k x∧Ba (A7 D k x) x.c=y::t∧q2.2=((j:Int),y)∧EI D ks xs=(q2.1.set j (x.put (Dh (A7 D k x) x.c).1),y,true,0):=by
 obtain ⟨p1,p2,p3⟩:=Ee ks xs 0 (-1,Ag) h hg
 have l1:=C6 (D:=D) ks xs 0 (-1,Ag) h
 obtain ⟨s1,s2,s3⟩:=Ee ks (A3 D ks xs 0 (-1,Ag)).1 0 (-1,Ag) l1 p3
 have l2:=C6 (D:=D) ks (A3 D ks xs 0 (-1,Ag)).1 0 (-1,Ag) l1
 rcases pick_head (restsF D ks xs) 0 (-1,Ag) with e | ⟨j,y,t,e,hj⟩
 ·left
  refine ⟨by rw[e],?_⟩
  unfold EI
  simp only
  rw[p1,e]
  rfl
 ·right
  rw[Nat.zero_add] at e
  have hjl:j<ks.length:=by
   have:=(List.getElem?_eq_some_iff.1 hj).1
   rw[Rw _ _ h] at this
   exact this
  have hk:ks[j]? = some (ks.getD j false):=by rw[List.getD_eq_getElem?_getD,List.getElem?_eq_getElem hjl]; rfl
  have hx:(A3 D ks (A3 D ks xs 0 (-1,Ag)).1 0 (-1,Ag)).1[j]? = some ((A3 D ks (A3 D ks xs 0 (-1,Ag)).1 0 (-1,Ag)).1.getD j zD):=by
   rw[List.getD_eq_getElem?_getD,List.getElem?_eq_getElem (by rw[l2]; exact hjl)]; rfl
  refine ⟨j,y,t,ks.getD j false,(A3 D ks (A3 D ks xs 0 (-1,Ag)).1 0 (-1,Ag)).1.getD j zD,e,hj,hjl,hk,hx,s3 j _ _ hk hx,?_,?_,?_⟩
  ·have:=Ml (D:=D) ks _ j _ _ hk hx
   rw[s2,p2,hj] at this
   exact (Option.some.inj this).symm
  ·rw[s1,p2,e]
  ·unfold EI
   simp only
   rw[p1,e,if_pos (show (0:Int)≤(j:Int) by omega),s1,p2,e]
   simp only[Int.toNat_natCast]
theorem OH {D:Dsk} {ks:List Bool} {xs:List LeafD} (h:xs.length=ks.length):(EI D ks xs).1.length=ks.length:=by
 have l1:=C6 (D:=D) ks xs 0 (-1,Ag) h
 unfold EI
 simp only
 split
 ·rw[List.length_set]; exact C6 _ _ _ _ l1
 ·exact l1
theorem gR:∀ ks∈BP,0<ks.length:=by decide
theorem sC:SoundR DP GL Ry:=Al AZ Γ0_ok sB PN PO PP (by
 rintro args B r B' ⟨D,ks,xs,hs,hl,hg,rfl,rfl,rfl,rfl⟩
 obtain ⟨p1,p2,p3⟩:=Ee ks xs 0 (-1,Ag) hl hg
 have l1:=C6 (D:=D) ks xs 0 (-1,Ag) hl
 have l2:=C6 (D:=D) ks (A3 D ks xs 0 (-1,Ag)).1 0 (-1,Ag) l1
 rcases nextM_of hl hg with ⟨e,hn⟩ | ⟨j,y,t,k,x,e,hj,hjl,q2⟩
 ·rw[hn]
  refine ⟨by rw[Lk]; rfl,_,ld hs hl l1 l2 l2 (gR ks hs) (A3 D ks xs 0 (-1,Ag)).2.2 (decide ((A3 D ks xs 0 (-1,Ag)).2.1≥0)) Ag Ag true,?_⟩
  unfold J4
  have e0:(A3 D ks xs 0 (-1,Ag)).2=(-1,Ag):=by
   rw[p1]
   rcases pick_head (restsF D ks xs) 0 (-1,Ag) with h | ⟨j,y,t,h,_⟩
   ·exact h
   ·rw[h] at e; simp only at e; omega
  refine AM (UA hs hl hg _) (AC (fun q=>?_) (fun q=>?_))
  ·rw[e0] at q; simp at q
  ·rw[e0]; exact wp_leaf (wdN_ok _ _) ⟨rfl,rfl⟩
 ·obtain ⟨hk,hx,g,hr,h2,hn⟩:=q2
  have l3:((A3 D ks (A3 D ks xs 0 (-1,Ag)).1 0 (-1,Ag)).1.set j (x.put (Dh (A7 D k x) x.c).1)).length=ks.length:=by rw[List.length_set]; exact l2
  rw[hn]
  have e0:(A3 D ks xs 0 (-1,Ag)).2=((j:Int),y):=by rw[p1,e]
  refine ⟨by rw[Lk]; rfl,_,ld hs hl l1 l2 l3 hjl y true y y true,?_⟩
  unfold J4
  have c1:=UA hs hl hg [A4 Ag]
  rw[e0,show decide (((j:Int),y).1≥(0:Int))=true by simp] at c1
  have c2:=T9 hs l1 p3 [A4 Ag,A4 y]
  rw[h2] at c2
  have hg2:=(Ee ks (A3 D ks xs 0 (-1,Ag)).1 0 (-1,Ag) l1 p3).2.2
  exact AM c1 (AC (fun _=>AM c2 (AM (kT l2 hk hx g hr _) (wp_leaf (wdN_ok _ _) ⟨rfl,rfl⟩))) (fun q=>by cases q)))

def BL (p:Pgs) (s:List Ent×Int):List Ent×Int:=if s.1= []∧s.2<p.np then ((p.pf s.2).1,s.2+1) else s
def Lr:Ae:=fun args B r B'=>(∃ (L:List Ent) (pg:Int),args= [.ptr 0 0 0]∧B=Do ⟨L,pg,0⟩∧r=vi 0∧B'=Do ⟨L,pg,0⟩) ∨
 ∃ (D:Dsk) (nm:ByteArray) (F:FileR) (L:List Ent) (pg:Int),GoodL D true ⟨⟨L,pg,0⟩,nm,F⟩∧args= [.ptr 2 0 0]∧B=Es D nm F ⟨L,pg,0⟩∧r=vi 0∧B'=Es D nm F ⟨(BL (Ah D nm F) (L,pg)).1,(BL (Ah D nm F) (L,pg)).2,0⟩
def sD (R:Ae):Ae:=fun args B r B'=>R args B r B'∨∃ (b v i:Nat) (cs:List AV),B[b]? = some (.cells false v cs)∧cs[i]? = some AI∧R args (B.set b (.cells false v (cs.set i (.p (.ls []))))) r B'
noncomputable def ΓC4:BF:=DG [(KQ,FA)]
noncomputable def OI:CB:=CZ [(PM,sD (AX Lr)),(N1,AX Lh)]

noncomputable def IP (pg:Int) (x:Ent) (s1:(List Ent)):St:=([(0, .ptr 0 0 0),(3, .ptr 1 0 0)],[.cells false 0 ([vi 1,vl (s1.map AB.f), .p (.v (.pointer none)),vi pg,AI,vi 0]), .cells false 0 ([vs x.key,vn .u64 x.seq,vb x.del,vs x.val])])
noncomputable def IQ (pg:Int) (x1:(List Ent)):AE×St:=((.exit 3),([(0, .ptr 0 0 0)],[.cells false 0 ([vi 1,vl (x1.map AB.f), .p (.v (.pointer none)),vi pg,AI,vi 0])]))
noncomputable def GN (pg:Int) (x:Ent) (s1:(List Ent)):Tree:=
.any (.int 91 ((s1.map AB.f).length:Int) (s1.length:Int) (.sp 92 (decide ((s1.length:Int)>(0:Int))) (
.elem 98 (s1.map AB.f) AB s1 0 (fun e1=> .call 101 (FA [(AB.av e1),(AB.av x)]=some (vi (BK e1 x))) (vi (BK e1 x)) (.sp 102 (decide ((BK e1 x)<(0:Int))) (
.cut 109 (s1.map AB.f) (some 1) none AB s1 (.callr (some 113) (OI 29 [.ptr 0 0 0] [.cells false 0 ([vi 1,vl ((cutL (some 1) none s1).map AB.f), .p (.v (.pointer none)),vi pg,AI,vi 0]), .cells false 0 ([vs x.key,vn .u64 x.seq,vb x.del,vs x.val])] (vi 0) [.cells false 0 ([vi 1,vl ((cutL (some 1) none s1).map AB.f), .p (.v (.pointer none)),vi pg,AI,vi 0]), .cells false 0 ([vs x.key,vn .u64 x.seq,vb x.del,vs x.val])]) (vi 0) [.cells false 0 ([vi 1,vl ((cutL (some 1) none s1).map AB.f), .p (.v (.pointer none)),vi pg,AI,vi 0]), .cells false 0 ([vs x.key,vn .u64 x.seq,vb x.del,vs x.val])] (.leaf ⟨[0,3],[(0,0,none),(1,0,none)]⟩ [] .normal (some (IP pg x (cutL (some 1) none s1)))))) (
.leaf ⟨[0],[(0,0,none)]⟩ [] (.exit 3) (some (IQ pg s1).2))))) (
.leaf ⟨[0],[(0,0,none)]⟩ [] (.exit 3) (some (IQ pg s1).2))))
noncomputable def XX (L:List Ent) (pg:Int) (x:Ent):Tree:=
.loop ⟨[0,3],[(0,0,none),(1,0,none)]⟩ [] (some (IP pg x L)) (IP pg x) (IQ pg) CN L (GN pg x) (fun (x1:(List Ent))=> .leaf ⟨[0],[(0,0,none)]⟩ [] .ret (some ([(0,vi 0)],[.cells false 0 ([vi 1,vl (x1.map AB.f), .p (.v (.pointer none)),vi pg,AI,vi 0])]))) (fun _=> .stuck)

theorem cn (L:List Ent) (pg:Int) (x:Ent):Av DP ΓC4 OI Tryd.f18 [.ptr 0 0 0,(AB.av x)] [.cells false 0 ([vi 1,vl (L.map AB.f), .p (.v (.pointer none)),vi pg,AI,vi 0])] (XX L pg x)=XX L pg x:=by kernel_rfl

noncomputable def IR (D:Dsk) (nm:ByteArray) (F:FileR) (x:Ent) (j1:(List Ent)×Int):St:=([(0, .ptr 2 0 0),(3, .ptr 3 0 0)],[.obj [] (AH D), .cells false 0 ([.op 0,vs nm,vl (F.idx.map AK.f),vl (F.bits.map AA.f),vi F.cnt,vs F.low,vs F.high]), .cells false 0 ([vi 2,vl (j1.1.map AB.f), .ptr 1 0 0,vi j1.2,AI,vi 0]), .cells false 0 ([vs x.key,vn .u64 x.seq,vb x.del,vs x.val])])
noncomputable def FS (D:Dsk) (nm:ByteArray) (F:FileR) (x:Ent) (s2:(List Ent)×Int):St:=([(0, .ptr 2 0 0),(3, .ptr 3 0 0)],[.obj [] (AH D), .cells false 0 ([.op 0,vs nm,vl (F.idx.map AK.f),vl (F.bits.map AA.f),vi F.cnt,vs F.low,vs F.high]), .cells false 0 ([vi 2,vl (s2.1.map AB.f), .ptr 1 0 0,vi s2.2,AI,vi 0]), .cells false 0 ([vs x.key,vn .u64 x.seq,vb x.del,vs x.val])])
noncomputable def D4 (D:Dsk) (nm:ByteArray) (F:FileR) (x2:(List Ent)×Int):AE×St:=((.exit 3),([(0, .ptr 2 0 0)],[.obj [] (AH D), .cells false 0 ([.op 0,vs nm,vl (F.idx.map AK.f),vl (F.bits.map AA.f),vi F.cnt,vs F.low,vs F.high]), .cells false 0 ([vi 2,vl (x2.1.map AB.f), .ptr 1 0 0,vi x2.2,AI,vi 0])]))
noncomputable def FT (D:Dsk) (nm:ByteArray) (F:FileR) (x:Ent) (s2:(List Ent)×Int) (j3:Bool):St:=([(0, .ptr 2 0 0),(3, .ptr 3 0 0),(103,vb j3)],[.obj [] (AH D), .cells false 0 ([.op 0,vs nm,vl (F.idx.map AK.f),vl (F.bits.map AA.f),vi F.cnt,vs F.low,vs F.high]), .cells false 0 ([vi 2,vl (s2.1.map AB.f), .ptr 1 0 0,vi s2.2,AI,vi 0]), .cells false 0 ([vs x.key,vn .u64 x.seq,vb x.del,vs x.val])])
noncomputable def ET (D:Dsk) (nm:ByteArray) (F:FileR) (x:Ent) (s2:(List Ent)×Int) (j3:Bool):Tree:=
.br j3 (
.cut 109 (s2.1.map AB.f) (some 1) none AB s2.1 (.callr (some 113) (OI 29 [.ptr 2 0 0] [.obj [] (AH D), .cells false 0 ([.op 0,vs nm,vl (F.idx.map AK.f),vl (F.bits.map AA.f),vi F.cnt,vs F.low,vs F.high]), .cells false 0 ([vi 2,vl ((cutL (some 1) none s2.1).map AB.f), .ptr 1 0 0,vi s2.2,AI,vi 0]), .cells false 0 ([vs x.key,vn .u64 x.seq,vb x.del,vs x.val])] (vi 0) [.obj [] (AH D), .cells false 0 ([.op 0,vs nm,vl (F.idx.map AK.f),vl (F.bits.map AA.f),vi F.cnt,vs F.low,vs F.high]), .cells false 0 ([vi 2,vl (((BL (Ah D nm F) (cutL (some 1) none s2.1,s2.2)).1).map AB.f), .ptr 1 0 0,vi ((BL (Ah D nm F) (cutL (some 1) none s2.1,s2.2)).2),AI,vi 0]), .cells false 0 ([vs x.key,vn .u64 x.seq,vb x.del,vs x.val])]) (vi 0) [.obj [] (AH D), .cells false 0 ([.op 0,vs nm,vl (F.idx.map AK.f),vl (F.bits.map AA.f),vi F.cnt,vs F.low,vs F.high]), .cells false 0 ([vi 2,vl (((BL (Ah D nm F) (cutL (some 1) none s2.1,s2.2)).1).map AB.f), .ptr 1 0 0,vi ((BL (Ah D nm F) (cutL (some 1) none s2.1,s2.2)).2),AI,vi 0]), .cells false 0 ([vs x.key,vn .u64 x.seq,vb x.del,vs x.val])] (.leaf ⟨[0,3],[(0,0,none),(1,0,none),(2,0,none),(3,0,none)]⟩ [] .normal (some (FS D nm F x ((BL (Ah D nm F) (cutL (some 1) none s2.1,s2.2)).1,(BL (Ah D nm F) (cutL (some 1) none s2.1,s2.2)).2)))))) (
.leaf ⟨[0],[(0,0,none),(1,0,none),(2,0,none)]⟩ [] (.exit 3) (some (D4 D nm F (s2.1,s2.2)).2))
noncomputable def FU (D:Dsk) (nm:ByteArray) (F:FileR) (x:Ent) (s2:(List Ent)×Int):Tree:=
.any (.int 91 ((s2.1.map AB.f).length:Int) (s2.1.length:Int) (.sp 92 (decide ((s2.1.length:Int)>(0:Int))) (
.elem 98 (s2.1.map AB.f) AB s2.1 0 (fun e1=> .call 101 (FA [(AB.av e1),(AB.av x)]=some (vi (BK e1 x))) (vi (BK e1 x)) (.sp 102 (decide ((BK e1 x)<(0:Int))) (
.join ⟨[0,3,103],[(0,0,none),(1,0,none),(2,0,none),(3,0,none)]⟩ [] (some (FT D nm F x s2 true)) (FT D nm F x s2) true (ET D nm F x s2)) (
.join ⟨[0,3,103],[(0,0,none),(1,0,none),(2,0,none),(3,0,none)]⟩ [] (some (FT D nm F x s2 false)) (FT D nm F x s2) false (ET D nm F x s2))))) (
.join ⟨[0,3,103],[(0,0,none),(1,0,none),(2,0,none),(3,0,none)]⟩ [] (some (FT D nm F x s2 false)) (FT D nm F x s2) false (ET D nm F x s2))))
noncomputable def Kl (D:Dsk) (nm:ByteArray) (F:FileR) (x:Ent) (j1:(List Ent)×Int):Tree:=
.loop ⟨[0,3],[(0,0,none),(1,0,none),(2,0,none),(3,0,none)]⟩ [] (some (FS D nm F x (j1.1,j1.2))) (FS D nm F x) (D4 D nm F) CN (j1.1,j1.2) (FU D nm F x) (fun (x2:(List Ent)×Int)=> .leaf ⟨[0],[(0,0,none),(1,0,none),(2,0,none)]⟩ [] .ret (some ([(0,vi 0)],[.obj [] (AH D), .cells false 0 ([.op 0,vs nm,vl (F.idx.map AK.f),vl (F.bits.map AA.f),vi F.cnt,vs F.low,vs F.high]), .cells false 0 ([vi 2,vl (x2.1.map AB.f), .ptr 1 0 0,vi x2.2,AI,vi 0])]))) (fun _=> .stuck)
noncomputable def FV (D:Dsk) (nm:ByteArray) (F:FileR) (L:List Ent) (pg:Int) (x:Ent) (j5:Bool):St:=([(0, .ptr 2 0 0),(3, .ptr 3 0 0),(38,vb j5)],[.obj [] (AH D), .cells false 0 ([.op 0,vs nm,vl (F.idx.map AK.f),vl (F.bits.map AA.f),vi F.cnt,vs F.low,vs F.high]), .cells false 0 ([vi 2,vl (L.map AB.f), .ptr 1 0 0,vi pg,AI,vi 0]), .cells false 0 ([vs x.key,vn .u64 x.seq,vb x.del,vs x.val])])
noncomputable def IS (D:Dsk) (nm:ByteArray) (F:FileR) (pg:Int) (x:Ent) (j6:Unit):St:=([(0, .ptr 2 0 0),(3, .ptr 3 0 0)],[.obj [] (AH D), .cells false 0 ([.op 0,vs nm,vl (F.idx.map AK.f),vl (F.bits.map AA.f),vi F.cnt,vs F.low,vs F.high]), .cells false 0 ([vi 2,AI, .ptr 1 0 0,vi (if (pg:Int)<(((BQ F.idx x:Nat):Int):Int) then (((BQ F.idx x:Nat):Int):Int) else (pg:Int)),AI,vi 0]), .cells false 0 ([vs x.key,vn .u64 x.seq,vb x.del,vs x.val])])
noncomputable def Km (D:Dsk) (nm:ByteArray) (F:FileR) (pg:Int) (x:Ent) (j6:Unit):Tree:=
.callr (some 63) (OI 29 [.ptr 2 0 0] [.obj [] (AH D), .cells false 0 ([.op 0,vs nm,vl (F.idx.map AK.f),vl (F.bits.map AA.f),vi F.cnt,vs F.low,vs F.high]), .cells false 0 ([vi 2,AI, .ptr 1 0 0,vi (if (pg:Int)<(((BQ F.idx x:Nat):Int):Int) then (((BQ F.idx x:Nat):Int):Int) else (pg:Int)),AI,vi 0]), .cells false 0 ([vs x.key,vn .u64 x.seq,vb x.del,vs x.val])] (vi 0) [.obj [] (AH D), .cells false 0 ([.op 0,vs nm,vl (F.idx.map AK.f),vl (F.bits.map AA.f),vi F.cnt,vs F.low,vs F.high]), .cells false 0 ([vi 2,vl (((BL (Ah D nm F) ([],(if (pg:Int)<(((BQ F.idx x:Nat):Int):Int) then (((BQ F.idx x:Nat):Int):Int) else (pg:Int)))).1).map AB.f), .ptr 1 0 0,vi ((BL (Ah D nm F) ([],(if (pg:Int)<(((BQ F.idx x:Nat):Int):Int) then (((BQ F.idx x:Nat):Int):Int) else (pg:Int)))).2),AI,vi 0]), .cells false 0 ([vs x.key,vn .u64 x.seq,vb x.del,vs x.val])]) (vi 0) [.obj [] (AH D), .cells false 0 ([.op 0,vs nm,vl (F.idx.map AK.f),vl (F.bits.map AA.f),vi F.cnt,vs F.low,vs F.high]), .cells false 0 ([vi 2,vl (((BL (Ah D nm F) ([],(if (pg:Int)<(((BQ F.idx x:Nat):Int):Int) then (((BQ F.idx x:Nat):Int):Int) else (pg:Int)))).1).map AB.f), .ptr 1 0 0,vi ((BL (Ah D nm F) ([],(if (pg:Int)<(((BQ F.idx x:Nat):Int):Int) then (((BQ F.idx x:Nat):Int):Int) else (pg:Int)))).2),AI,vi 0]), .cells false 0 ([vs x.key,vn .u64 x.seq,vb x.del,vs x.val])] (.go (.go (.join ⟨[0,3],[(0,0,none),(1,0,none),(2,0,none),(3,0,none)]⟩ [] (some (IR D nm F x ((BL (Ah D nm F) ([],(if (pg:Int)<(((BQ F.idx x:Nat):Int):Int) then (((BQ F.idx x:Nat):Int):Int) else (pg:Int)))).1,(BL (Ah D nm F) ([],(if (pg:Int)<(((BQ F.idx x:Nat):Int):Int) then (((BQ F.idx x:Nat):Int):Int) else (pg:Int)))).2))) (IR D nm F x) ((BL (Ah D nm F) ([],(if (pg:Int)<(((BQ F.idx x:Nat):Int):Int) then (((BQ F.idx x:Nat):Int):Int) else (pg:Int)))).1,(BL (Ah D nm F) ([],(if (pg:Int)<(((BQ F.idx x:Nat):Int):Int) then (((BQ F.idx x:Nat):Int):Int) else (pg:Int)))).2) (Kl D nm F x))))
noncomputable def FW (D:Dsk) (nm:ByteArray) (F:FileR) (L:List Ent) (x:Ent) (j7:Int):St:=([(0, .ptr 2 0 0),(3, .ptr 3 0 0)],[.obj [] (AH D), .cells false 0 ([.op 0,vs nm,vl (F.idx.map AK.f),vl (F.bits.map AA.f),vi F.cnt,vs F.low,vs F.high]), .cells false 0 ([vi 2,vl (L.map AB.f), .ptr 1 0 0,vi j7,AI,vi 0]), .cells false 0 ([vs x.key,vn .u64 x.seq,vb x.del,vs x.val])])
noncomputable def Il (D:Dsk) (nm:ByteArray) (F:FileR) (L:List Ent) (x:Ent) (j7:Int):Tree:=
.callr (some 63) (OI 29 [.ptr 2 0 0] [.obj [] (AH D), .cells false 0 ([.op 0,vs nm,vl (F.idx.map AK.f),vl (F.bits.map AA.f),vi F.cnt,vs F.low,vs F.high]), .cells false 0 ([vi 2,vl (L.map AB.f), .ptr 1 0 0,vi j7,AI,vi 0]), .cells false 0 ([vs x.key,vn .u64 x.seq,vb x.del,vs x.val])] (vi 0) [.obj [] (AH D), .cells false 0 ([.op 0,vs nm,vl (F.idx.map AK.f),vl (F.bits.map AA.f),vi F.cnt,vs F.low,vs F.high]), .cells false 0 ([vi 2,vl (((BL (Ah D nm F) (L,j7)).1).map AB.f), .ptr 1 0 0,vi ((BL (Ah D nm F) (L,j7)).2),AI,vi 0]), .cells false 0 ([vs x.key,vn .u64 x.seq,vb x.del,vs x.val])]) (vi 0) [.obj [] (AH D), .cells false 0 ([.op 0,vs nm,vl (F.idx.map AK.f),vl (F.bits.map AA.f),vi F.cnt,vs F.low,vs F.high]), .cells false 0 ([vi 2,vl (((BL (Ah D nm F) (L,j7)).1).map AB.f), .ptr 1 0 0,vi ((BL (Ah D nm F) (L,j7)).2),AI,vi 0]), .cells false 0 ([vs x.key,vn .u64 x.seq,vb x.del,vs x.val])] (.go (.go (.join ⟨[0,3],[(0,0,none),(1,0,none),(2,0,none),(3,0,none)]⟩ [] (some (IR D nm F x ((BL (Ah D nm F) (L,j7)).1,(BL (Ah D nm F) (L,j7)).2))) (IR D nm F x) ((BL (Ah D nm F) (L,j7)).1,(BL (Ah D nm F) (L,j7)).2) (Kl D nm F x))))
noncomputable def Fp (D:Dsk) (nm:ByteArray) (F:FileR) (L:List Ent) (pg:Int) (x:Ent) (j5:Bool):Tree:=
.br j5 (
.any (.fork (
.callr (some 58) (OI 30 [.ptr 1 0 0,(AB.av x)] [.obj [] (AH D), .cells false 0 ([.op 0,vs nm,vl (F.idx.map AK.f),vl (F.bits.map AA.f),vi F.cnt,vs F.low,vs F.high]), .cells false 0 ([vi 2,AI, .ptr 1 0 0,vi pg,AI,vi 0]), .cells false 0 ([vs x.key,vn .u64 x.seq,vb x.del,vs x.val])] (vi ((BQ F.idx x:Nat):Int)) [.obj [] (AH D), .cells false 0 ([.op 0,vs nm,vl (F.idx.map AK.f),vl (F.bits.map AA.f),vi F.cnt,vs F.low,vs F.high]), .cells false 0 ([vi 2,AI, .ptr 1 0 0,vi pg,AI,vi 0]), .cells false 0 ([vs x.key,vn .u64 x.seq,vb x.del,vs x.val])]) (vi ((BQ F.idx x:Nat):Int)) [.obj [] (AH D), .cells false 0 ([.op 0,vs nm,vl (F.idx.map AK.f),vl (F.bits.map AA.f),vi F.cnt,vs F.low,vs F.high]), .cells false 0 ([vi 2,AI, .ptr 1 0 0,vi pg,AI,vi 0]), .cells false 0 ([vs x.key,vn .u64 x.seq,vb x.del,vs x.val])] (.join ⟨[0,3],[(0,0,none),(1,0,none),(2,0,none),(3,0,none)]⟩ [] (some (IS D nm F pg x ())) (IS D nm F pg x) () (Km D nm F pg x))) (
.callr (some 58) (OI 30 [.ptr 1 0 0,(AB.av x)] [.obj [] (AH D), .cells false 0 ([.op 0,vs nm,vl (F.idx.map AK.f),vl (F.bits.map AA.f),vi F.cnt,vs F.low,vs F.high]), .cells false 0 ([vi 2,AI, .ptr 1 0 0,vi pg,AI,vi 0]), .cells false 0 ([vs x.key,vn .u64 x.seq,vb x.del,vs x.val])] (vi ((BQ F.idx x:Nat):Int)) [.obj [] (AH D), .cells false 0 ([.op 0,vs nm,vl (F.idx.map AK.f),vl (F.bits.map AA.f),vi F.cnt,vs F.low,vs F.high]), .cells false 0 ([vi 2,AI, .ptr 1 0 0,vi pg,AI,vi 0]), .cells false 0 ([vs x.key,vn .u64 x.seq,vb x.del,vs x.val])]) (vi ((BQ F.idx x:Nat):Int)) [.obj [] (AH D), .cells false 0 ([.op 0,vs nm,vl (F.idx.map AK.f),vl (F.bits.map AA.f),vi F.cnt,vs F.low,vs F.high]), .cells false 0 ([vi 2,AI, .ptr 1 0 0,vi pg,AI,vi 0]), .cells false 0 ([vs x.key,vn .u64 x.seq,vb x.del,vs x.val])] (.join ⟨[0,3],[(0,0,none),(1,0,none),(2,0,none),(3,0,none)]⟩ [] (some (IS D nm F pg x ())) (IS D nm F pg x) () (Km D nm F pg x))))) (
.int 46 ((L.map AB.f).length:Int) (L.length:Int) (.sp 47 ((L.length:Int) == (0:Int)) (
.any (.fork (
.callr (some 58) (OI 30 [.ptr 1 0 0,(AB.av x)] [.obj [] (AH D), .cells false 0 ([.op 0,vs nm,vl (F.idx.map AK.f),vl (F.bits.map AA.f),vi F.cnt,vs F.low,vs F.high]), .cells false 0 ([vi 2,vl (L.map AB.f), .ptr 1 0 0,vi pg,AI,vi 0]), .cells false 0 ([vs x.key,vn .u64 x.seq,vb x.del,vs x.val])] (vi ((BQ F.idx x:Nat):Int)) [.obj [] (AH D), .cells false 0 ([.op 0,vs nm,vl (F.idx.map AK.f),vl (F.bits.map AA.f),vi F.cnt,vs F.low,vs F.high]), .cells false 0 ([vi 2,vl (L.map AB.f), .ptr 1 0 0,vi pg,AI,vi 0]), .cells false 0 ([vs x.key,vn .u64 x.seq,vb x.del,vs x.val])]) (vi ((BQ F.idx x:Nat):Int)) [.obj [] (AH D), .cells false 0 ([.op 0,vs nm,vl (F.idx.map AK.f),vl (F.bits.map AA.f),vi F.cnt,vs F.low,vs F.high]), .cells false 0 ([vi 2,vl (L.map AB.f), .ptr 1 0 0,vi pg,AI,vi 0]), .cells false 0 ([vs x.key,vn .u64 x.seq,vb x.del,vs x.val])] (.join ⟨[0,3],[(0,0,none),(1,0,none),(2,0,none),(3,0,none)]⟩ [] (some (FW D nm F L x (if (pg:Int)<(((BQ F.idx x:Nat):Int):Int) then (((BQ F.idx x:Nat):Int):Int) else (pg:Int)))) (FW D nm F L x) (if (pg:Int)<(((BQ F.idx x:Nat):Int):Int) then (((BQ F.idx x:Nat):Int):Int) else (pg:Int)) (Il D nm F L x))) (
.callr (some 58) (OI 30 [.ptr 1 0 0,(AB.av x)] [.obj [] (AH D), .cells false 0 ([.op 0,vs nm,vl (F.idx.map AK.f),vl (F.bits.map AA.f),vi F.cnt,vs F.low,vs F.high]), .cells false 0 ([vi 2,vl (L.map AB.f), .ptr 1 0 0,vi pg,AI,vi 0]), .cells false 0 ([vs x.key,vn .u64 x.seq,vb x.del,vs x.val])] (vi ((BQ F.idx x:Nat):Int)) [.obj [] (AH D), .cells false 0 ([.op 0,vs nm,vl (F.idx.map AK.f),vl (F.bits.map AA.f),vi F.cnt,vs F.low,vs F.high]), .cells false 0 ([vi 2,vl (L.map AB.f), .ptr 1 0 0,vi pg,AI,vi 0]), .cells false 0 ([vs x.key,vn .u64 x.seq,vb x.del,vs x.val])]) (vi ((BQ F.idx x:Nat):Int)) [.obj [] (AH D), .cells false 0 ([.op 0,vs nm,vl (F.idx.map AK.f),vl (F.bits.map AA.f),vi F.cnt,vs F.low,vs F.high]), .cells false 0 ([vi 2,vl (L.map AB.f), .ptr 1 0 0,vi pg,AI,vi 0]), .cells false 0 ([vs x.key,vn .u64 x.seq,vb x.del,vs x.val])] (.join ⟨[0,3],[(0,0,none),(1,0,none),(2,0,none),(3,0,none)]⟩ [] (some (FW D nm F L x (if (pg:Int)<(((BQ F.idx x:Nat):Int):Int) then (((BQ F.idx x:Nat):Int):Int) else (pg:Int)))) (FW D nm F L x) (if (pg:Int)<(((BQ F.idx x:Nat):Int):Int) then (((BQ F.idx x:Nat):Int):Int) else (pg:Int)) (Il D nm F L x))))) (
.go (.join ⟨[0,3],[(0,0,none),(1,0,none),(2,0,none),(3,0,none)]⟩ [] (some (FW D nm F L x pg)) (FW D nm F L x) pg (Il D nm F L x)))))
noncomputable def XY (D:Dsk) (nm:ByteArray) (F:FileR) (L:List Ent) (pg:Int) (x:Ent):Tree:=
.int 23 ((L.map AB.f).length:Int) (L.length:Int) (.any (.sp 25 (decide ((L.length:Int)>(0:Int))) (
.int 32 (IntKind.i64.wrap ((L.length:Int) - 1)) ((L.length:Int) - 1) (.elem 33 (L.map AB.f) AB L ((L.length:Int) - 1) (fun e2=> .call 36 (FA [(AB.av e2),(AB.av x)]=some (vi (BK e2 x))) (vi (BK e2 x)) (.sp 37 (decide ((BK e2 x)<(0:Int))) (
.join ⟨[0,3,38],[(0,0,none),(1,0,none),(2,0,none),(3,0,none)]⟩ [] (some (FV D nm F L pg x true)) (FV D nm F L pg x) true (Fp D nm F L pg x)) (
.join ⟨[0,3,38],[(0,0,none),(1,0,none),(2,0,none),(3,0,none)]⟩ [] (some (FV D nm F L pg x false)) (FV D nm F L pg x) false (Fp D nm F L pg x)))))) (
.join ⟨[0,3,38],[(0,0,none),(1,0,none),(2,0,none),(3,0,none)]⟩ [] (some (FV D nm F L pg x false)) (FV D nm F L pg x) false (Fp D nm F L pg x))))

theorem cp (D:Dsk) (nm:ByteArray) (F:FileR) (L:List Ent) (pg:Int) (x:Ent):Av DP ΓC4 OI Tryd.f18 [.ptr 2 0 0,(AB.av x)] [.obj [] (AH D), .cells false 0 ([.op 0,vs nm,vl (F.idx.map AK.f),vl (F.bits.map AA.f),vi F.cnt,vs F.low,vs F.high]), .cells false 0 ([vi 2,vl (L.map AB.f), .ptr 1 0 0,vi pg,AI,vi 0])] (XY D nm F L pg x)=XY D nm F L pg x:=by kernel_rfl


theorem SoundR.nilbox {P:Program} {f:Nat} {R:Ae} (h:SoundR P f R):SoundR P f (sD R):=h.or (by
 rintro args B r B' ⟨b,v,i,cs,hb,hi,hR⟩ F ρ w us hI hA
 obtain ⟨B2,hB2⟩:∃ B2,B2=B.set b (.cells false v (cs.set i (.p (.ls [])))):=⟨_,rfl⟩
 rw[←hB2] at hR
 have hget:∀ (b':Nat) (row:Bool) (v':Nat) (cs':List AV),B2[b']? = some (.cells row v' cs')→(b'=b∧row=false∧v'=v∧cs'=cs.set i (.p (.ls [])))∨(b'≠b∧B[b']? = some (.cells row v' cs')):=by
  intro b' row v' cs' hc
  rw[hB2,List.getElem?_set] at hc
  split at hc
  ·rename_i e
   split at hc
   ·cases hc; exact .inl ⟨e.symm,rfl,rfl,rfl⟩
   ·cases hc
  ·rename_i e
   exact .inr ⟨fun h=>e h.symm,hc⟩
 have hobj:∀ (b':Nat) (cs':List AV) (Φ:ObjP),B2[b']? = some (.obj cs' Φ)→B[b']? = some (.obj cs' Φ):=fun b' cs' Φ hc=>by
  rw[hB2] at hc
  exact obj_set (fun _ _ e=>by cases e) hc
 obtain ⟨hown,hE⟩:=E5 (F:=F) (B:=B) (B':=B2) (ρ:=ρ) (w:=w) (by rw[hB2]; simp) (fun b' row v' cs' hc=>by
  rcases hget b' row v' cs' hc with ⟨rfl,rfl,rfl,rfl⟩ | ⟨_,h2⟩
  ·exact ⟨cs,hb,by simp⟩
  ·exact ⟨cs',h2,rfl⟩) hobj
 have hI2:=Jj (B':=B2) hI (fun b' row v' cs' hc=>by
  rcases hget b' row v' cs' hc with ⟨rfl,rfl,rfl,rfl⟩ | ⟨_,h2⟩
  ·refine ⟨cs,hb,by simp,?_,fun j c' hc'=>?_⟩
   ·have hl:=hI.leaf _ _ _ _ hb
    rw[List.all_eq_true] at hl ⊢
    intro c hc
    rcases List.mem_or_eq_of_mem_set hc with h | h
    ·exact hl c h
    ·rw[h]; rfl
   ·rw[List.getElem?_set] at hc'
    split at hc'
    ·rename_i e
     subst e
     split at hc'
     ·cases hc'
      refine ⟨AI,hi,fun u hu=>?_⟩
      rw[hu.val]
      exact .p _ _ (.nil Option.none 0 (.inr rfl))
     ·cases hc'
    ·exact ⟨c',hc',fun u hu=>hu.ext hE⟩
  ·exact ⟨cs',h2,rfl,hI.leaf _ _ _ _ h2,fun j c' hc'=>⟨c',hc',fun u hu=>hu.ext hE⟩⟩) hobj hE
 refine (h args B2 r B' hR F ρ w us hI2 ⟨hA.1,fun j p u hp hu=>(hA.2 j p u hp hu).ext hE⟩).mono fun en w' hp=>?_
 obtain ⟨x,ρ2,rfl,hI3,hE3,hv⟩:=hp
 exact ⟨x,ρ2,rfl,hI3,hE.trans hE3,hv⟩)
theorem XZ {D:Dsk} {nm:ByteArray} {F:FileR} {L:List Ent} {pg:Int} (g:GoodL D true ⟨⟨L,pg,0⟩,nm,F⟩):A5 (Ah D nm F) ⟨L,pg,0⟩=(⟨(BL (Ah D nm F) (L,pg)).1,(BL (Ah D nm F) (L,pg)).2,0⟩,0):=by
 have h0:0≤pg∧pg≤100000000:=g.pg
 by_cases hc:L= []∧pg<(Ah D nm F).np
 ·obtain ⟨rfl,h⟩:=hc
  have hok:=g.ok pg h0.1 h
  have e1:BL (Ah D nm F) ([],pg)=(((Ah D nm F).pf pg).1,pg+1):=if_pos ⟨rfl,h⟩
  rw[e1]
  unfold A5
  have n1:¬((⟨[],pg,0⟩:Cur).bad≠0∨0<(⟨[],pg,0⟩:Cur).L.length∨(Ah D nm F).np≤(⟨[],pg,0⟩:Cur).pg):=fun e=>by
   rcases e with e | e | e
   ·exact e rfl
   ·simp at e
   ·have e:(Ah D nm F).np≤pg:=e
    omega
  rw[if_neg n1,if_neg (fun e=>e hok.1)]
 ·have e1:BL (Ah D nm F) (L,pg)=(L,pg):=if_neg hc
  rw[e1]
  unfold A5
  rw[if_pos]
  by_cases hL:L= []
  ·right; right
   have:¬pg<(Ah D nm F).np:=fun e=>hc ⟨hL,e⟩
   show (Ah D nm F).np≤pg
   omega
  ·right; left
   exact List.length_pos_iff.2 hL
theorem sE:SoundR DP PM Lr:=lc.mono (by
 rintro args B r B' (⟨L,pg,rfl,rfl,rfl,rfl⟩ | ⟨D,nm,F,L,pg,g,rfl,rfl,rfl,rfl⟩)
 ·exact .inl ⟨⟨L,pg,0⟩,rfl,rfl,rfl,rfl⟩
 ·refine .inr ⟨D,nm,F,⟨L,pg,0⟩,g.rd rfl,g.pg,rfl,rfl,?_,?_⟩ <;> rw[XZ g])
theorem ΓC4_ok:∀ f,SoundF DP f (ΓC4 f):=An RT Bu
theorem gS:∀ f,SoundR DP f (OI f):=AY (AU sE).nilbox (AY (AU nj) BJ)
section
variable {B : List Box} {D : Dsk} {nm : ByteArray} {F : FileR} {L : List Ent} {pg : Int} {d f l : Nat}
theorem Xa (g:GoodL D true ⟨⟨L,pg,0⟩,nm,F⟩) (hd:B[d]? = some (BD D)) (hf:B[f]? = some (filC d nm F)) (hl:B[l]? = some (curB 2 (.ptr f 0 0) ⟨L,pg,0⟩)):
  AX Lr [.ptr l 0 0] B (vi 0) (B.set l (curB 2 (.ptr f 0 0) ⟨(BL (Ah D nm F) (L,pg)).1,(BL (Ah D nm F) (L,pg)).2,0⟩)):=
 Hk (R:=Lr) (.inr ⟨D,nm,F,L,pg,g,rfl,rfl,rfl,rfl⟩) hd hf hl (fun _ _=>rfl) (fun _=>rfl) rfl
theorem oE (hl:B[l]? = some (curB 1 nilQ ⟨L,pg,0⟩)):AX Lr [.ptr l 0 0] B (vi 0) (B.set l (curB 1 nilQ ⟨L,pg,0⟩)):=
 Hl (R:=Lr) (.inl ⟨L,pg,rfl,rfl,rfl,rfl⟩) hl (fun _ _=>rfl) (fun _=>rfl) rfl
end
def Fd (p:Pgs) (x:Ent):Nat→List Ent×Int→List Ent×Int
 | 0,s=>s
 | n+1,s=>match s.1 with
  | []=>s
  | y::t=>if BK y x<0 then Fd p x n (BL p (t,s.2)) else s
def BB (x:Ent) (L:List Ent):List Ent:=L.dropWhile fun y=>decide (BK y x<0)
theorem Xb (pg:Int) (x:Ent):∀ L:List Ent,Rounds (IP pg x) (IQ pg) CN (fun s=>(GN pg x s).wp) L (.inl (BB x L)):=by
 intro L
 induction L with
 | nil=>
  refine .done (by intro e; cases e) ?_
  unfold GN
  exact Cg (Aq (AC (fun q=>absurd (of_decide_eq_true q) (by simp)) (fun _=>wp_leaf rfl ⟨rfl,rfl⟩)))
 | cons y L ih=>
  by_cases hc:BK y x<0
  ·have e:BB x (y::L)=BB x L:=List.dropWhile_cons_of_pos (decide_eq_true hc)
   rw[e]
   refine .next ?_ ih
   unfold GN
   exact Cg (Aq (AC (fun _=>Ci y (by decide) rfl (Ac (Dm _ _) (AC (fun _=>DB (show 0≤(1:Int)∧(1:Int)≤((y::L).length:Int) by rw[List.length_cons]; omega) (AM (.inl (oE (l:=0) rfl)) (wp_leaf rfl ⟨rfl,rfl⟩))) (fun q=>absurd hc (of_decide_eq_false q))))) (fun q=>absurd (of_decide_eq_false q) (by simp))))
  ·have e:BB x (y::L)=y::L:=List.dropWhile_cons_of_neg (by simpa using hc)
   rw[e]
   refine .done (by intro e; cases e) ?_
   unfold GN
   exact Cg (Aq (AC (fun _=>Ci y (by decide) rfl (Ac (Dm _ _) (AC (fun q=>absurd (of_decide_eq_true q) hc) (fun _=>wp_leaf rfl ⟨rfl,rfl⟩)))) (fun _=>wp_leaf rfl ⟨rfl,rfl⟩)))

section
variable {D : Dsk} {nm : ByteArray} {F : FileR} {L : List Ent} {pg : Int} {x : Ent}
abbrev Ei (nm:ByteArray) (F:FileR) (s:List Ent×Int):LeafD:=⟨⟨s.1,s.2,0⟩,nm,F⟩
theorem Z9 (g:GoodL D true (Ei nm F (L,pg))):(Ei nm F (BL (Ah D nm F) (L,pg))).c=(A5 (A7 D true (Ei nm F (L,pg))) ⟨L,pg,0⟩).1:=by
 rw[show A7 D true (Ei nm F (L,pg))=Ah D nm F from rfl,XZ g]
theorem JH (g:GoodL D true (Ei nm F (L,pg))):GoodL D true (Ei nm F (BL (Ah D nm F) (L,pg))):=by
 have:=g.fill
 rw[←Z9 g] at this
 exact this
abbrev B6 (D:Dsk) (nm:ByteArray) (F:FileR) (s:List Ent×Int):List Ent:=Ba (Ah D nm F) ⟨s.1,s.2,0⟩
theorem JI (g:GoodL D true (Ei nm F (L,pg))):B6 D nm F (BL (Ah D nm F) (L,pg))=B6 D nm F (L,pg)∧((BL (Ah D nm F) (L,pg)).1= []→B6 D nm F (L,pg)= []):=by
 obtain ⟨h1,_,h3⟩:=OE g
 rw[←Z9 g] at h1 h3
 exact ⟨h1,h3⟩
theorem JJ (y:Ent) (t:List Ent) (pg:Int):B6 D nm F (y::t,pg)=y::B6 D nm F (t,pg):=rfl
theorem Rz (y:Ent) (t:List Ent) (pg:Int) (g:GoodL D true (Ei nm F (y::t,pg))):GoodL D true (Ei nm F (t,pg)):=T7 g t
theorem R3 (x:Ent):∀ (n:Nat) (s:List Ent×Int),GoodL D true (Ei nm F s)→(s.1= []→B6 D nm F s= [])→(B6 D nm F s).length≤n →
  GoodL D true (Ei nm F (Fd (Ah D nm F) x n s))∧B6 D nm F (Fd (Ah D nm F) x n s)=BB x (B6 D nm F s)
 | 0,s,g,hf,hn=>by
  have h0:B6 D nm F s= []:=List.length_eq_zero_iff.1 (by omega)
  refine ⟨g,?_⟩
  show B6 D nm F s=BB x (B6 D nm F s)
  rw[h0]; rfl
 | n+1,([],pg),g,hf,hn=>by
  refine ⟨g,?_⟩
  show B6 D nm F ([],pg)=BB x (B6 D nm F ([],pg))
  rw[hf rfl]; rfl
 | n+1,(y::t,pg),g,hf,hn=>by
  have e:Fd (Ah D nm F) x (n+1) (y::t,pg)=if BK y x<0 then Fd (Ah D nm F) x n (BL (Ah D nm F) (t,pg)) else (y::t,pg):=rfl
  have g':=Rz y t pg g
  rw[e,JJ]
  by_cases hc:BK y x<0
  ·rw[if_pos hc]
   obtain ⟨r1,r2⟩:=JI g'
   rw[JJ] at hn
   obtain ⟨a1,a2⟩:=R3 x n (BL (Ah D nm F) (t,pg)) (JH g') (fun h=>by rw[r1]; exact r2 h) (by rw[r1]; simp only[List.length_cons] at hn; omega)
   refine ⟨a1,?_⟩
   rw[a2,r1]
   exact (show BB x (y::B6 D nm F (t,pg))=BB x (B6 D nm F (t,pg)) from List.dropWhile_cons_of_pos (decide_eq_true hc)).symm
  ·rw[if_neg hc]
   refine ⟨g,?_⟩
   rw[JJ]
   exact (show BB x (y::B6 D nm F (t,pg))=y::B6 D nm F (t,pg) from List.dropWhile_cons_of_neg (by simpa using hc)).symm
theorem Xc (x:Ent):∀ (n:Nat) (s:List Ent×Int),GoodL D true (Ei nm F s)→(s.1= []→B6 D nm F s= [])→(B6 D nm F s).length≤n →
  Rounds (FS D nm F x) (D4 D nm F) CN (fun s=>(FU D nm F x s).wp) s (.inl (Fd (Ah D nm F) x n s)):=by
 have stop:∀ (pg:Int),Rounds (FS D nm F x) (D4 D nm F) CN (fun s=>(FU D nm F x s).wp) ([],pg) (.inl ([],pg)):=fun pg=>by
  refine .done (by intro e; cases e) ?_
  have hj:(ET D nm F x ([],pg) false).wp (fun e c=>e=(D4 D nm F ([],pg)).1∧c=(D4 D nm F ([],pg)).2):=by
   unfold ET
   exact Ce (fun q=>by cases q) (fun _=>wp_leaf rfl ⟨rfl,rfl⟩)
  unfold FU
  exact Cg (Aq (AC (fun q=>absurd (of_decide_eq_true q) (by simp)) (fun _=>Ab rfl hj)))
 intro n
 induction n with
 | zero=>
  intro s g hf hn
  have h0:B6 D nm F s= []:=List.length_eq_zero_iff.1 (by omega)
  obtain ⟨L,pg⟩:=s
  cases L with
  | nil=>exact stop pg
  | cons y t=>cases h0
 | succ n ih=>
  intro s g hf hn
  obtain ⟨L,pg⟩:=s
  cases L with
  | nil=>exact stop pg
  | cons y t=>
   have e:Fd (Ah D nm F) x (n+1) (y::t,pg)=if BK y x<0 then Fd (Ah D nm F) x n (BL (Ah D nm F) (t,pg)) else (y::t,pg):=rfl
   have g':=Rz y t pg g
   rw[e]
   by_cases hc:BK y x<0
   ·rw[if_pos hc]
    obtain ⟨r1,r2⟩:=JI g'
    rw[JJ] at hn
    refine .next ?_ (ih (BL (Ah D nm F) (t,pg)) (JH g') (fun h=>by rw[r1]; exact r2 h) (by rw[r1]; simp only[List.length_cons] at hn; omega))
    have hj:(ET D nm F x (y::t,pg) true).wp (fun e c=>e=AE.normal∧c=FS D nm F x (BL (Ah D nm F) (t,pg))):=by
     unfold ET
     exact Ce (fun _=>DB (show 0≤(1:Int)∧(1:Int)≤((y::t).length:Int) by rw[List.length_cons]; omega) (AM (.inl (Xa (L:=t) (d:=0) (f:=1) (l:=2) g' rfl rfl rfl)) (wp_leaf rfl ⟨rfl,rfl⟩))) (fun q=>by cases q)
    unfold FU
    exact Cg (Aq (AC (fun _=>Ci y (by decide) rfl (Ac (Dm _ _) (AC (fun _=>Ab rfl hj) (fun q=>absurd hc (of_decide_eq_false q))))) (fun q=>absurd (of_decide_eq_false q) (by simp only[List.length_cons]; omega))))
   ·rw[if_neg hc]
    refine .done (by intro e; cases e) ?_
    have hj:(ET D nm F x (y::t,pg) false).wp (fun e c=>e=(D4 D nm F (y::t,pg)).1∧c=(D4 D nm F (y::t,pg)).2):=by
     unfold ET
     exact Ce (fun q=>by cases q) (fun _=>wp_leaf rfl ⟨rfl,rfl⟩)
    unfold FU
    exact Cg (Aq (AC (fun _=>Ci y (by decide) rfl (Ac (Dm _ _) (AC (fun q=>absurd (of_decide_eq_true q) hc) (fun _=>Ab rfl hj)))) (fun _=>Ab rfl hj)))
end
def FD (F:FileR) (x:Ent) (s:List Ent×Int):List Ent×Int:=
 if s.1= []∨BK (B5 s.1) x<0 then ([],if s.2<((BQ F.idx x:Nat):Int) then ((BQ F.idx x:Nat):Int) else s.2) else s
def Cy (D:Dsk) (nm:ByteArray) (F:FileR) (x:Ent) (s:List Ent×Int):List Ent×Int:=
 let s3:=BL (Ah D nm F) (FD F x s)
 Fd (Ah D nm F) x (B6 D nm F s3).length s3
def Mn:Ae:=fun args B r B'=>(∃ (L:List Ent) (pg:Int) (x:Ent),args= [.ptr 0 0 0,AB.av x]∧B=Do ⟨L,pg,0⟩∧r=vi 0∧B'=Do ⟨BB x L,pg,0⟩) ∨
 ∃ (D:Dsk) (nm:ByteArray) (F:FileR) (L:List Ent) (pg:Int) (x:Ent),GoodL D true ⟨⟨L,pg,0⟩,nm,F⟩∧L.length≤1000000000∧BQ F.idx x≤F.idx.length∧HE x∧args= [.ptr 2 0 0,AB.av x]∧B=Es D nm F ⟨L,pg,0⟩∧r=vi 0 ∧
  B'=Es D nm F ⟨(Cy D nm F x (L,pg)).1,(Cy D nm F x (L,pg)).2,0⟩
theorem sF:SoundR DP F3 (fun args B r B'=>∃ (L:List Ent) (pg:Int) (x:Ent),args= [.ptr 0 0 0,AB.av x]∧B=Do ⟨L,pg,0⟩∧r=vi 0∧B'=Do ⟨BB x L,pg,0⟩):=Al AZ ΓC4_ok gS Rq Rr Rs (by
 rintro args B r B' ⟨L,pg,x,rfl,rfl,rfl,rfl⟩
 refine ⟨by rw[Rt]; rfl,_,cn L pg x,?_⟩
 unfold XX
 exact BH _ rfl (Xb pg x L) (wp_leaf rfl ⟨rfl,rfl⟩))
theorem sG:SoundR DP F3 (fun args B r B'=>∃ (D:Dsk) (nm:ByteArray) (F:FileR) (L:List Ent) (pg:Int) (x:Ent),GoodL D true ⟨⟨L,pg,0⟩,nm,F⟩∧L.length≤1000000000∧BQ F.idx x≤F.idx.length∧HE x∧args= [.ptr 2 0 0,AB.av x]∧B=Es D nm F ⟨L,pg,0⟩∧r=vi 0 ∧
  B'=Es D nm F ⟨(Cy D nm F x (L,pg)).1,(Cy D nm F x (L,pg)).2,0⟩):=Al AZ ΓC4_ok gS Rq Rr Rs (by
 rintro args B r B' ⟨D,nm,F,L,pg,x,g,hL,hfn,hx,rfl,rfl,rfl,rfl⟩
 refine ⟨by rw[Rt]; rfl,_,cp D nm F L pg x,?_⟩
 have hfew:F.idx.length≤100000000:=(g.rd rfl).few
 have hpg:0≤pg∧pg≤100000000:=g.pg
 obtain ⟨R,hR⟩:∃ R,R=Cy D nm F x (L,pg):=⟨_,rfl⟩
 rw[←hR]
 obtain ⟨q,hq⟩:∃ q:Int,q=if pg<((BQ F.idx x:Nat):Int) then ((BQ F.idx x:Nat):Int) else pg:=⟨_,rfl⟩
 have hq0:0≤q∧q≤100000000:=by rw[hq]; split <;> omega
 have gq:∀ M,GoodL D true (Ei nm F (M,q)):=fun M=>⟨rfl,hq0,g.np,g.rd,g.ok⟩
 -- from the loop on
 have hloop:∀ s0:List Ent×Int,GoodL D true (Ei nm F s0)→R=(let s3:=BL (Ah D nm F) s0; Fd (Ah D nm F) x (B6 D nm F s3).length s3) →
   (Kl D nm F x ((BL (Ah D nm F) s0).1,(BL (Ah D nm F) s0).2)).wp (fun _ c=>tk c.1 0=vi 0∧c.2=Es D nm F ⟨R.1,R.2,0⟩):=fun s0 g0 e=>by
  obtain ⟨r1,r2⟩:=JI (L:=s0.1) (pg:=s0.2) g0
  have hr:=Xc (D:=D) (nm:=nm) (F:=F) x (B6 D nm F (BL (Ah D nm F) s0)).length (BL (Ah D nm F) s0) (JH g0) (fun h=>by rw[show B6 D nm F (BL (Ah D nm F) s0)=B6 D nm F s0 from r1]; exact r2 h) (Nat.le_refl _)
  unfold Kl
  rw[e]
  exact BH _ rfl hr (wp_leaf rfl ⟨rfl,rfl⟩)
 have hf0:∀ (B:List Box),B[0]? = some (BD D)→B[1]? = some (filC 0 nm F)→AX Lh [.ptr 1 0 0,AB.av x] B (vi ((BQ F.idx x:Nat):Int)) B:=fun B h0 h1=>nk hfew hx h0 h1
 have hj5t:(L= []∨BK (B5 L) x<0)→L≠ []→(Fp D nm F L pg x true).wp (fun _ c=>tk c.1 0=vi 0∧c.2=Es D nm F ⟨R.1,R.2,0⟩):=fun hc _=>by
  have e:R=(let s3:=BL (Ah D nm F) ([],q); Fd (Ah D nm F) x (B6 D nm F s3).length s3):=by
   rw[hR]; unfold Cy FD; rw[if_pos hc,←hq]
  have hj6:(Km D nm F pg x ()).wp (fun _ c=>tk c.1 0=vi 0∧c.2=Es D nm F ⟨R.1,R.2,0⟩):=by
   unfold Km
   rw[←hq]
   exact AM (.inr ⟨2,0,1,_,rfl,rfl,Xa (L:= []) (d:=0) (f:=1) (l:=2) (gq []) rfl rfl rfl⟩) (Ab rfl (hloop ([],q) (gq []) e))
  unfold Fp
  refine Ce (fun _=>Cg ?_) (fun q=>by cases q)
  exact DU (AM (hf0 _ rfl rfl) (Ab rfl hj6)) (AM (hf0 _ rfl rfl) (Ab rfl hj6))
 have hj7:∀ j,GoodL D true (Ei nm F (L,j))→R=(let s3:=BL (Ah D nm F) (L,j); Fd (Ah D nm F) x (B6 D nm F s3).length s3)→(Il D nm F L x j).wp (fun _ c=>tk c.1 0=vi 0∧c.2=Es D nm F ⟨R.1,R.2,0⟩):=fun j gj e=>by
  unfold Il
  exact AM (.inl (Xa (L:=L) (d:=0) (f:=1) (l:=2) gj rfl rfl rfl)) (Ab rfl (hloop (L,j) gj e))
 have hj5f:(L= []∨¬BK (B5 L) x<0)→(Fp D nm F L pg x false).wp (fun _ c=>tk c.1 0=vi 0∧c.2=Es D nm F ⟨R.1,R.2,0⟩):=fun hc=>by
  unfold Fp
  refine Ce (fun q=>by cases q) (fun _=>Aq (AC (fun q0=>?_) (fun q0=>?_)))
  ·have hL0:L= []:=List.length_eq_zero_iff.1 (by have:=(beq_iff_eq).1 q0; omega)
   have e:R=(let s3:=BL (Ah D nm F) (L,q); Fd (Ah D nm F) x (B6 D nm F s3).length s3):=by
    rw[hR]; unfold Cy FD; rw[if_pos (.inl hL0),←hq,hL0]
   have h7:=hj7 q (gq L) e
   rw[←hq]
   exact Cg (DU (AM (hf0 _ rfl rfl) (Ab rfl h7)) (AM (hf0 _ rfl rfl) (Ab rfl h7)))
  ·have hL0:L≠ []:=fun e=>by rw[e] at q0; simp at q0
   have e:R=(let s3:=BL (Ah D nm F) (L,pg); Fd (Ah D nm F) x (B6 D nm F s3).length s3):=by
    rw[hR]; unfold Cy FD; rw[if_neg (fun h=>h.elim hL0 (fun h=>hc.elim hL0 (fun h'=>h' h)))]
   exact Ab rfl (hj7 pg g e)
 unfold XY
 refine Aq (Cg (AC (fun q0=>?_) (fun q0=>Ab rfl (hj5f (.inl (List.length_eq_zero_iff.1 (by have:=of_decide_eq_false q0; omega)))))))
 have hL0:L≠ []:=fun e=>by rw[e] at q0; simp at q0
 have hlp:=List.length_pos_iff.2 hL0
 have hla:L[((L.length:Int) - 1).toNat]? = some (B5 L):=by
  have e:((L.length:Int) - 1).toNat=L.length - 1:=by omega
  rw[e,←List.getLast?_eq_getElem?,List.getLast?_eq_some_getLast hL0]
  unfold B5
  rw[List.getLastD_eq_getLast?,List.getLast?_eq_some_getLast hL0]
  rfl
 refine AP (by omega) (Ci (B5 L) (by omega) hla (Ac (Dm _ _) (AC (fun q1=>Ab rfl (hj5t (.inr (of_decide_eq_true q1)) hL0)) (fun q1=>Ab rfl (hj5f (.inr (of_decide_eq_false q1)))))))
 )
theorem lf:SoundR DP F3 Mn:=sF.or sG

abbrev BO:Box:= .cells false 0 [vi 3,AI,nilQ,vi 0, .p (.ls []),vi 0]
noncomputable def TR:Tree:= .frag none ⟨[0,3,5,6,15,16,17],[(0,0,none),(1,0,none),(2,0,none)]⟩ [] (some ([(0, .ptr 0 0 0),(3, .ptr 1 0 0),(5,vi (-1)),(6, .ptr 2 0 0),(15, .p (.ls [])),(16,vi 0),(17,vi 0)],[BO,A4 Ag,A4 Ag])) ([(0, .ptr 0 0 0),(3, .ptr 1 0 0),(5,vi (-1)),(6, .ptr 2 0 0),(15, .p (.ls [])),(16,vi 0),(17,vi 0)],[BO,A4 Ag,A4 Ag])
 (Tri DP 50 1 false r8 (St.as ([(0, .ptr 0 0 0),(3, .ptr 1 0 0),(5,vi (-1)),(6, .ptr 2 0 0),(15, .p (.ls [])),(16,vi 0),(17,vi 0)],[BO,A4 Ag,A4 Ag])) fun e' s'=>e'=(.exit 0)∧s'=St.as ([(0, .ptr 0 0 0),(3, .ptr 1 0 0),(5,vi (-1)),(6, .ptr 2 0 0)],[BO,A4 Ag,A4 Ag]))
 (.exit 0) ([(0, .ptr 0 0 0),(3, .ptr 1 0 0),(5,vi (-1)),(6, .ptr 2 0 0)],[BO,A4 Ag,A4 Ag]) (.leaf ⟨[0],[(0,0,none)]⟩ [] .ret (some ([(0, .tup [vi (-1),AB.av Ag,vi 0])],[BO])))
theorem Y1:Av DP ΓC1 Kk HI [.ptr 0 0 0] [BO] TR=TR:=by kernel_rfl
noncomputable def sH:Tree:= .leaf ⟨[0,3,5,6],[(0,0,none),(1,0,none),(2,0,none)]⟩ [] (.exit 0) (some ([(0, .ptr 0 0 0),(3, .ptr 1 0 0),(5,vi (-1)),(6, .ptr 2 0 0)],[BO,A4 Ag,A4 Ag]))
theorem kU:Bg DP ΓC1 Kk 50 1 Ru (St.as ([(0, .ptr 0 0 0),(3, .ptr 1 0 0),(5,vi (-1)),(6, .ptr 2 0 0),(15, .p (.ls [])),(16,vi 0),(17,vi 0)],[BO,A4 Ag,A4 Ag])) sH (CP 1)=sH:=by kernel_rfl
def PT:Ae:=fun args B r B'=>args= [.ptr 0 0 0]∧B= [BO]∧r= .tup [vi (-1),AB.av Ag,vi 0]∧B'= [BO]
theorem oF:SoundR DP GM PT:=Al AZ ΓC1_ok XT Zw Zx Zy (by
 rintro args B r B' ⟨rfl,rfl,rfl,rfl⟩
 refine ⟨by rw[Zz]; rfl,_,Y1,?_⟩
 unfold TR
 refine Lp rfl ?_ (wp_leaf rfl ⟨rfl,rfl⟩)
 rw[gN]
 refine .loop (Tri.round ((XU (K:=fun e' c=>e'= .exit 0∧c=([(0, .ptr 0 0 0),(3, .ptr 1 0 0),(5,vi (-1)),(6, .ptr 2 0 0)],[BO,A4 Ag,A4 Ag])) kU (wp_leaf rfl ⟨rfl,rfl⟩)).conseq fun e' s' hk=>?_))
 obtain ⟨c,rfl,rfl,rfl⟩:=hk
 exact ⟨rfl,rfl⟩)
theorem VE {R:Ae} {args:List AV} {r:AV} (hR:R args [BO] r [BO]) (ha:AV.low.allLow 1 args=true) (hr:r.low 1=true) (T:List Box):AX R args ([BO]++T) r ([BO]++T):=by
 have hb:NQ [BO].length [BO]:=fun b hb=>by rw[List.mem_singleton.1 hb]; rfl
 exact EQ hR rfl ha hb hb hr T
def Im:Ae:=fun args B r B'=>args= [.ptr 0 0 0]∧B= [BO]∧r= .tup [AB.av Ag,vb false,vi 0]∧B'= [BO]
def Xd:Ae:=fun args B r B'=>∃ x:Ent,args= [.ptr 0 0 0,AB.av x]∧B= [BO]∧r=vi 0∧B'= [BO]
noncomputable def wJ:CB:=CZ [(GM,AX PT)]
noncomputable def wK:CB:=CZ [(Eh,AX Im)]
noncomputable def Xe:Tree:= .callr (some 32) (wJ GM [.ptr 0 0 0] [BO,A4 Ag] (.tup [vi (-1),AB.av Ag,vi 0]) [BO,A4 Ag]) (.tup [vi (-1),AB.av Ag,vi 0]) [BO,A4 Ag] (.leaf ⟨[0],[(0,0,none)]⟩ [] .ret (some ([(0, .tup [AB.av Ag,vb false,vi 0])],[BO])))
theorem cq:Av DP Γ0 wJ Mj [.ptr 0 0 0] [BO] Xe=Xe:=by kernel_rfl
theorem gT:SoundR DP Eh Im:=Al AZ Γ0_ok (AY (AU oF) BJ) Rm Rn Ro (by
 rintro args B r B' ⟨rfl,rfl,rfl,rfl⟩
 have h:AX PT [.ptr 0 0 0] ([BO]++ [A4 Ag]) (.tup [vi (-1),AB.av Ag,vi 0]) ([BO]++ [A4 Ag]):=VE (R:=PT) ⟨rfl,rfl,rfl,rfl⟩ rfl rfl [A4 Ag]
 refine ⟨by rw[Rp]; rfl,_,cq,?_⟩
 unfold Xe
 exact AM h (wp_leaf rfl ⟨rfl,rfl⟩))
noncomputable def Xf:Tree:= .callr (some 13) (wK Eh [.ptr 0 0 0] [BO,A4 Ag] (.tup [AB.av Ag,vb false,vi 0]) [BO,A4 Ag]) (.tup [AB.av Ag,vb false,vi 0]) [BO,A4 Ag] (.leaf ⟨[0],[(0,0,none)]⟩ [] .ret (some ([(0, .tup [AB.av Ag,vb false,vi 0])],[BO])))
theorem cr:Av DP Γ0 wK J1 [.ptr 0 0 0] [BO] Xf=Xf:=by kernel_rfl
theorem sI:SoundR DP GL Im:=Al AZ Γ0_ok (AY (AU gT) BJ) PN PO PP (by
 rintro args B r B' ⟨rfl,rfl,rfl,rfl⟩
 have h:AX Im [.ptr 0 0 0] ([BO]++ [A4 Ag]) (.tup [AB.av Ag,vb false,vi 0]) ([BO]++ [A4 Ag]):=VE (R:=Im) ⟨rfl,rfl,rfl,rfl⟩ rfl rfl [A4 Ag]
 refine ⟨by rw[Lk]; rfl,_,cr,?_⟩
 unfold Xf
 exact AM h (wp_leaf rfl ⟨rfl,rfl⟩))
abbrev s0 (x:Ent):St:=([(0, .ptr 0 0 0),(3, .ptr 1 0 0),(72, .p (.ls [])),(73,vi 0),(74,vi 0)],[BO,A4 x])
noncomputable def Xg (x:Ent):Tree:= .frag none ⟨[0,3,72,73,74],[(0,0,none),(1,0,none)]⟩ [] (some (s0 x)) (s0 x)
 (Tri DP 121 1 false r9 (St.as (s0 x)) fun e' s'=>e'=(.exit 1)∧s'=St.as ([(0, .ptr 0 0 0)],[BO]))
 (.exit 1) ([(0, .ptr 0 0 0)],[BO]) (.leaf ⟨[0],[(0,0,none)]⟩ [] .ret (some ([(0,vi 0)],[BO])))
theorem ct (x:Ent):Av DP Γ0 Δ0 JF [.ptr 0 0 0,AB.av x] [BO] (Xg x)=Xg x:=by kernel_rfl
noncomputable def sJ:Tree:= .leaf ⟨[0],[(0,0,none)]⟩ [] (.exit 1) (some ([(0, .ptr 0 0 0)],[BO]))
theorem kV (x:Ent):Bg DP Γ0 Δ0 121 1 P4 (St.as (s0 x)) sJ (CP 1)=sJ:=by kernel_rfl
theorem gU:r9= .loop P4:=by kernel_rfl
theorem sL:SoundR DP F3 Xd:=Al AZ Γ0_ok Bq Rq Rr Rs (by
 rintro args B r B' ⟨x,rfl,rfl,rfl,rfl⟩
 refine ⟨by rw[Rt]; rfl,_,ct x,?_⟩
 unfold Xg
 refine Lp rfl ?_ (wp_leaf rfl ⟨rfl,rfl⟩)
 rw[gU]
 refine .loop (Tri.round ((Gr AZ Γ0_ok Bq P4 (K:=fun e' c=>e'= .exit 1∧c=([(0, .ptr 0 0 0)],[BO])) (by rw[kV x]; exact wp_leaf rfl ⟨rfl,rfl⟩)).conseq fun e' s' hk=>?_))
 obtain ⟨c,rfl,rfl,rfl⟩:=hk
 exact ⟨rfl,rfl⟩)

def DH (sl:List Nat) (m:Nat) (tl:List (Nat×Nat×Option (List PV))):Wd:=⟨sl,((List.range m).map fun j=>(j,0,none))++tl⟩
def Xh (D:Dsk) (k:Bool) (a b:LeafD) (x:Ent):Prop:=GoodL D k a∧a.c.L.length≤1000000000∧HE x∧(k=true→BQ a.F.idx x≤a.F.idx.length)∧b=a.put (if k then ⟨(Cy D a.nm a.F x (a.c.L,a.c.pg)).1,(Cy D a.nm a.F x (a.c.L,a.c.pg)).2,0⟩ else ⟨BB x a.c.L,a.c.pg,0⟩)
def Lt:Ae:=fun args B r B'=>∃ (D:Dsk) (ks:List Bool) (xs ys:List LeafD) (x:Ent),ks∈BP∧xs.length=ks.length∧ys.length=ks.length∧(∀ (i:Nat) (k:Bool) (a b:LeafD),ks[i]? = some k→xs[i]? = some a→ys[i]? = some b→Xh D k a b x)∧args= [.ptr 0 0 0,AB.av x]∧B=AT ks xs D∧r=vi 0∧B'=AT ks ys D
abbrev JK:Nat:=20
noncomputable abbrev VF:Func:=Tryd.f20
theorem sM:DP.funcs[JK]? = some VF:=by kernel_rfl
theorem sN:Ak DP JK=true:=by kernel_rfl
theorem sO:VF.body.isSome=true:=by kernel_rfl
theorem sP:VF.ntmps=80:=by kernel_rfl
def w7:Ae:=Pw (Pw (AX Mn) (AX Lt)) (AX Xd)
def w8:Ae:=Pw (Pw (AX Kj) (AX Ry)) (AX Im)
def w9:Ae:=Pw (Pw (AX JG) (AX OF)) (AX Im)
noncomputable def UB:CB:=CZ [(F3,w7),(GL,w8),(Eh,w9)]

noncomputable def JL {σ:Type} (TB:σ→List Box) (m:Nat) (top:σ) (from_:ByteArray) (to_:ByteArray) (seq:Int) (most:Int) (j1:Bool):St:=([(0, .ptr 0 0 0),(1,vs from_),(2,vs to_),(3,vn .u64 seq),(4,vi most),(24,vb j1)],(TB top))
noncomputable def DX {σ:Type} (TB:σ→List Box) (m:Nat) (to_:ByteArray) (seq:Int) (most:Int) (s2:σ×(List Ent)×ByteArray×Bool):St:=([(0, .ptr 0 0 0),(2,vs to_),(3,vn .u64 seq),(4,vi most),(13, .rs m 0 4 0 s2.2.1.length),(14,vs s2.2.2.1),(15,vb s2.2.2.2)],(TB s2.1++ [AB.bx 0 s2.2.1]))
noncomputable def FE {σ:Type} (TB:σ→List Box) (m:Nat) (x2:σ×(List Ent)):AE×St:=((.exit 0),([(13, .rs m 0 4 0 x2.2.length)],(TB x2.1++ [AB.bx 0 x2.2])))
noncomputable def F5 {σ:Type} (TB:σ→List Box) (m:Nat) (to_:ByteArray) (seq:Int) (most:Int) (nK:σ→σ) (xK:σ→Ent) (s2:σ×(List Ent)×ByteArray×Bool) (j3:Bool):St:=([(0, .ptr 0 0 0),(2,vs to_),(3,vn .u64 seq),(4,vi most),(13, .rs m 0 4 0 s2.2.1.length),(14,vs s2.2.2.1),(15,vb s2.2.2.2),(16, .ptr (m+1) 0 0),(56,vb j3)],(TB (nK s2.1)++ [AB.bx 0 s2.2.1, .cells false 0 ([vs ((xK s2.1).key),vn .u64 ((xK s2.1).seq),vb ((xK s2.1).del),vs ((xK s2.1).val)])]))
noncomputable def EU {σ:Type} (TB:σ→List Box) (m:Nat) (to_:ByteArray) (seq:Int) (most:Int) (nK:σ→σ) (xK:σ→Ent) (s2:σ×(List Ent)×ByteArray×Bool) (j4:Bool):St:=([(0, .ptr 0 0 0),(2,vs to_),(3,vn .u64 seq),(4,vi most),(13, .rs m 0 4 0 s2.2.1.length),(14,vs s2.2.2.1),(15,vb s2.2.2.2),(16, .ptr (m+1) 0 0),(69,vb j4)],(TB (nK s2.1)++ [AB.bx 0 s2.2.1, .cells false 0 ([vs ((xK s2.1).key),vn .u64 ((xK s2.1).seq),vb ((xK s2.1).del),vs ((xK s2.1).val)])]))
noncomputable def Fq {σ:Type} (TB:σ→List Box) (m:Nat) (to_:ByteArray) (seq:Int) (most:Int) (nK:σ→σ) (xK:σ→Ent) (s2:σ×(List Ent)×ByteArray×Bool) (j4:Bool):Tree:=
.br j4 (
.leaf (DH [0,2,3,4,13,14,15] m [(m,0,some (s2.2.1.map AB.f))]) [rowC (s2.2.1.map AB.f)] .normal (some (DX TB m to_ seq most ((nK s2.1),s2.2.1,s2.2.2.1,s2.2.2.2)))) (
.sp 73 ((xK s2.1).del) (
.leaf (DH [0,2,3,4,13,14,15] m [(m,0,some (s2.2.1.map AB.f))]) [rowC (s2.2.1.map AB.f)] .normal (some (DX TB m to_ seq most ((nK s2.1),s2.2.1,(xK s2.1).key,true)))) (
.app 78 (.row 1 ([vs ((xK s2.1).key),vn .u64 ((xK s2.1).seq),vb ((xK s2.1).del),vs ((xK s2.1).val)])) s2.2.1.length (rowC (s2.2.1.map AB.f)) AB s2.2.1 ([(xK s2.1)]) (.leaf (DH [0,2,3,4,13,14,15] m [(m,1,some ((s2.2.1++([(xK s2.1)])).map AB.f))]) [rowC ((s2.2.1++([(xK s2.1)])).map AB.f)] .normal (some (DX TB m to_ seq most ((nK s2.1),s2.2.1++([(xK s2.1)]),(xK s2.1).key,true))))))
noncomputable def Fr {σ:Type} (TB:σ→List Box) (m:Nat) (to_:ByteArray) (seq:Int) (most:Int) (nK:σ→σ) (xK:σ→Ent) (s2:σ×(List Ent)×ByteArray×Bool) (j3:Bool):Tree:=
.br j3 (
.leaf (DH [13] m [(m,0,some (s2.2.1.map AB.f))]) [rowC (s2.2.1.map AB.f)] (.exit 0) (some (FE TB m ((nK s2.1),s2.2.1)).2)) (
.sp 60 (decide (((xK s2.1).seq)>seq)) (
.join (DH [0,2,3,4,13,14,15,16,69] m [(m,0,some (s2.2.1.map AB.f)),(m+1,0,none)]) [rowC (s2.2.1.map AB.f)] (some (EU TB m to_ seq most nK xK s2 true)) (EU TB m to_ seq most nK xK s2) true (Fq TB m to_ seq most nK xK s2)) (
.sp 62 s2.2.2.2 (
.sp 67 (((xK s2.1).key).toList == s2.2.2.1.toList) (
.join (DH [0,2,3,4,13,14,15,16,69] m [(m,0,some (s2.2.1.map AB.f)),(m+1,0,none)]) [rowC (s2.2.1.map AB.f)] (some (EU TB m to_ seq most nK xK s2 true)) (EU TB m to_ seq most nK xK s2) true (Fq TB m to_ seq most nK xK s2)) (
.join (DH [0,2,3,4,13,14,15,16,69] m [(m,0,some (s2.2.1.map AB.f)),(m+1,0,none)]) [rowC (s2.2.1.map AB.f)] (some (EU TB m to_ seq most nK xK s2 false)) (EU TB m to_ seq most nK xK s2) false (Fq TB m to_ seq most nK xK s2))) (
.join (DH [0,2,3,4,13,14,15,16,69] m [(m,0,some (s2.2.1.map AB.f)),(m+1,0,none)]) [rowC (s2.2.1.map AB.f)] (some (EU TB m to_ seq most nK xK s2 false)) (EU TB m to_ seq most nK xK s2) false (Fq TB m to_ seq most nK xK s2))))
noncomputable def EV {σ:Type} (TB:σ→List Box) (m:Nat) (to_:ByteArray) (seq:Int) (most:Int) (nK:σ→σ) (xK:σ→Ent) (oK:σ→Bool) (s2:σ×(List Ent)×ByteArray×Bool):Tree:=
.sp 35 (decide (((s2.2.1.length:Nat):Int)<most)) (
.callr (some 38) (UB 13 [.ptr 0 0 0] (TB s2.1++ [AB.bx 0 s2.2.1]) (.tup [(AB.av (xK s2.1)),vb (oK s2.1),vi 0]) (TB (nK s2.1)++ [AB.bx 0 s2.2.1])) (.tup [(AB.av (xK s2.1)),vb (oK s2.1),vi 0]) (TB (nK s2.1)++ [AB.bx 0 s2.2.1]) (.sp 40 (oK s2.1) (
.sp 49 (!(to_.toList == (⟨#[]⟩:ByteArray).toList)) (
.sp 54 (!(Op.bytesLess ((xK s2.1).key).toList to_.toList)) (
.join (DH [0,2,3,4,13,14,15,16,56] m [(m,0,some (s2.2.1.map AB.f)),(m+1,0,none)]) [rowC (s2.2.1.map AB.f)] (some (F5 TB m to_ seq most nK xK s2 true)) (F5 TB m to_ seq most nK xK s2) true (Fr TB m to_ seq most nK xK s2)) (
.join (DH [0,2,3,4,13,14,15,16,56] m [(m,0,some (s2.2.1.map AB.f)),(m+1,0,none)]) [rowC (s2.2.1.map AB.f)] (some (F5 TB m to_ seq most nK xK s2 false)) (F5 TB m to_ seq most nK xK s2) false (Fr TB m to_ seq most nK xK s2))) (
.join (DH [0,2,3,4,13,14,15,16,56] m [(m,0,some (s2.2.1.map AB.f)),(m+1,0,none)]) [rowC (s2.2.1.map AB.f)] (some (F5 TB m to_ seq most nK xK s2 false)) (F5 TB m to_ seq most nK xK s2) false (Fr TB m to_ seq most nK xK s2))) (
.leaf (DH [13] m [(m,0,some (s2.2.1.map AB.f))]) [rowC (s2.2.1.map AB.f)] (.exit 0) (some (FE TB m ((nK s2.1),s2.2.1)).2)))) (
.leaf (DH [13] m [(m,0,some (s2.2.1.map AB.f))]) [rowC (s2.2.1.map AB.f)] (.exit 0) (some (FE TB m (s2.1,s2.2.1)).2))
noncomputable def Mo {σ:Type} (TB:σ→List Box) (m:Nat) (top:σ) (from_:ByteArray) (to_:ByteArray) (seq:Int) (most:Int) (sK:σ→σ) (nK:σ→σ) (xK:σ→Ent) (oK:σ→Bool) (j1:Bool):Tree:=
.br j1 (
.leaf (DH [0] m []) [] .ret (some ([(0, .tup [AI,vi 1])],(TB top)))) (
.callr (some 28) (UB 18 [.ptr 0 0 0, .agg [vs from_,vn .u64 72057594037927935,vb false,vs (⟨#[]⟩)]] (TB top) (vi 0) (TB (sK top))) (vi 0) (TB (sK top)) (.nilrow 13 4 (.loop (DH [0,2,3,4,13,14,15] m [(m,0,some (([]:List Ent).map AB.f))]) [rowC (([]:List Ent).map AB.f)] (some (DX TB m to_ seq most ((sK top),([]:List Ent),⟨#[]⟩,false))) (DX TB m to_ seq most) (FE TB m) CN ((sK top),([]:List Ent),⟨#[]⟩,false) (EV TB m to_ seq most nK xK oK) (fun (x2:σ×(List Ent))=> .leaf (DH [0] m [(m,0,some (x2.2.map AB.f))]) [rowC (x2.2.map AB.f)] .ret (some ([(0, .tup [.rs m 0 4 0 x2.2.length,vi 0])],(TB x2.1++ [AB.bx 0 x2.2])))) (fun _=> .stuck))))
noncomputable def cu {σ:Type} (TB:σ→List Box) (m:Nat) (top:σ) (from_:ByteArray) (to_:ByteArray) (seq:Int) (most:Int) (sK:σ→σ) (nK:σ→σ) (xK:σ→Ent) (oK:σ→Bool):Tree:=
.sp 23 (decide (seq>(72057594037927935:Int))) (
.join (DH [0,1,2,3,4,24] m []) [] (some (JL TB m top from_ to_ seq most true)) (JL TB m top from_ to_ seq most) true (Mo TB m top from_ to_ seq most sK nK xK oK)) (
.join (DH [0,1,2,3,4,24] m []) [] (some (JL TB m top from_ to_ seq most false)) (JL TB m top from_ to_ seq most) false (Mo TB m top from_ to_ seq most sK nK xK oK))

def RLive {σ:Type} (TB:σ→List Box) (m:Nat):Prop:=∀ (top:σ) (from_ to_:ByteArray) (seq most:Int) (sK nK:σ→σ) (xK:σ→Ent) (oK:σ→Bool),
 Av DP Γ0 UB VF [.ptr 0 0 0,vs from_,vs to_,vn .u64 seq,vi most] (TB top) (cu TB m top from_ to_ seq most sK nK xK oK)=cu TB m top from_ to_ seq most sK nK xK oK
theorem gV:RLive (σ:=List Ent) (fun L=>Do ⟨L,0,0⟩) 1:=by intro _;intros;kernel_rfl
end Go.Ax
