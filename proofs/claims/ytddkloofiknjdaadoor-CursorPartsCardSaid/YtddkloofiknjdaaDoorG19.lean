/- A disk in memory: opened, and shut again. -/
import Derived.Test.YtddkloofiknjdaaDoorG18
set_option linter.unusedVariables false
set_option linter.unusedSimpArgs false
set_option linter.unusedSectionVars false
namespace Go.Ax
open Go.RowKit

theorem perm_map_inv {α β:Type} {f:α→β} {m m':List β} (h:m.Perm m'):∀ {l:List α},l.map f=m→∃ l',l.Perm l'∧l'.map f=m':=by
 induction h with
 | nil=>intro l e; exact ⟨l, .refl _,e⟩
 | cons x _ ih=>
  intro l e
  cases l with
  | nil=>cases e
  | cons a l=>
   simp only[List.map_cons,List.cons.injEq] at e
   obtain ⟨l',h1,h2⟩:=ih e.2
   exact ⟨a::l',h1.cons a,by simp[e.1,h2]⟩
 | swap x y r=>
  intro l e
  match l,e with
  | a::b::l,e=>
   simp only[List.map_cons,List.cons.injEq] at e
   exact ⟨b::a::l, .swap _ _ _,by simp[e]⟩
 | trans _ _ ih1 ih2=>
  intro l e
  obtain ⟨l1,h1,h2⟩:=ih1 e
  obtain ⟨l2,h3,h4⟩:=ih2 h2
  exact ⟨l2,h1.trans h3,h4⟩

theorem DiskAt.reorder {D:Dsk} {S:Nat→Prop} {k:Nat} {w:World} {L L':FileL} {ρ:Loc} (h:DiskAt D S k w L ρ) (hp:L.Perm L'):DiskAt D S k w L' ρ:=by
 letI:Glob:=noG
 obtain ⟨r1,r2,_⟩:=@Inv.reobj noG noF _ _ _ h.head 1 _ [] _ (mapP [] (L'.map hidOf)) rfl (fun k0 o us hr hh hlen hv=>by
  obtain ⟨q1,es,clock,q2,q3,q4,q5⟩:=hh
  exact ⟨us,⟨q1,es,clock,q2,q3,q4,q5.trans ((hp.map _).append_left _)⟩,hlen,fun i c u hc=>by simp at hc⟩)
 exact ⟨(hp.symm.map _).trans h.perm,r1,h.root,fun x hx=>h.packs x (hp.symm.subset hx),(hp.pairwise_iff (fun {x y} h j a b=>h j b a)).1 h.apart,fun x hx j hj ho=>h.away x (hp.symm.subset hx) j hj ((r2 j).1 ho),
  fun j=>(h.foot j).trans (or_congr (r2 j).symm ⟨fun ⟨x,a,b⟩=>⟨x,hp.subset a,b⟩,fun ⟨x,a,b⟩=>⟨x,hp.symm.subset a,b⟩⟩)⟩

theorem open_files {D:Dsk} {w:World} {hid:List (Value×Value)}:∀ (LX:FileL) (X:List Fil) (ρ:Loc),@Inv noG noF (flatB D X (LX.map hidOf++hid)) ρ w→(∀ x∈LX,packH (fileB x.1) x.2.2 x.2.1 w)→(LX.Pairwise fun x y=>∀ j,x.2.2 j→¬y.2.2 j) →
  (∀ x∈LX,∀ j,x.2.2 j→¬Own noF (flatB D X (LX.map hidOf++hid)) ρ j) →
  ∃ ρ',@Inv noG noF (flatB D (X++LX.map (·.1)) hid) ρ' w∧(∀ j,Own noF (flatB D (X++LX.map (·.1)) hid) ρ' j↔(Own noF (flatB D X (LX.map hidOf++hid)) ρ j∨∃ x∈LX,x.2.2 j))∧∀ b,b<2+2*X.length→ρ' b=ρ b
 | [],X,ρ,h,_,_,_=>⟨ρ,by simpa using h,fun j=>by simp,fun _ _=>rfl⟩
 | x::LX,X,ρ,h,hp,ha,hd=>by
  obtain ⟨ρ1,g1,g2,g3⟩:=open_file (x:=x.1) (k:=x.2.1) (S:=x.2.2) (hid:=LX.map hidOf++hid) h (hp x (by simp)) (fun j a b=>hd x (by simp) j b a)
  rw[List.pairwise_cons] at ha
  obtain ⟨ρ',q1,q2,q3⟩:=open_files LX (X++ [x.1]) ρ1 g1 (fun y hy=>hp y (by simp[hy])) ha.2 (fun y hy j hj ho=>by
   rcases (g2 j).1 ho with h0 | h0
   ·exact hd y (by simp[hy]) j hj h0
   ·exact ha.1 y hy j h0 hj)
  have e:X++ [x.1]++LX.map (·.1)=X++(x::LX).map (·.1):=by simp
  rw[e] at q1 q2
  refine ⟨ρ',q1,fun j=>(q2 j).trans ?_,fun b hb=>(q3 b (by simp; omega)).trans (g3 b hb)⟩
  constructor
  ·rintro (h0 | ⟨y,hy,h0⟩)
   ·rcases (g2 j).1 h0 with h1 | h1
    ·exact .inl h1
    ·exact .inr ⟨x,by simp,h1⟩
   ·exact .inr ⟨y,by simp[hy],h0⟩
  ·rintro (h0 | ⟨y,hy,h0⟩)
   ·exact .inl ((g2 j).2 (.inl h0))
   ·rcases List.mem_cons.1 hy with rfl | hy
    ·exact .inl ((g2 j).2 (.inr h0))
    ·exact .inr ⟨y,hy,h0⟩

abbrev rowsB (Bx:List (Nat×List UInt8)):List Box:=Bx.map fun q=>rowB q.1 q.2

theorem rowsB_get {Bx:List (Nat×List UInt8)} {j:Nat} {x:Box} (h:(rowsB Bx)[j]? = some x):∃ q,Bx[j]? = some q∧x=rowB q.1 q.2:=by
 rw[List.getElem?_map] at h
 obtain ⟨q,h1,h2⟩:=Option.map_eq_some_iff.1 h
 exact ⟨q,h1,h2.symm⟩

theorem rowsB_pl (m:Nat) (Bx:List (Nat×List UInt8)):Bpl m (rowsB Bx):=by
 intro y hy
 obtain ⟨q,_,rfl⟩:=List.mem_map.1 hy
 exact ⟨rowC_pl _,@row_low noG _ _⟩

theorem rowC_rvL (xs:List PV) (f d:Nat→Nat):AV.rv.rvL f d (rowC xs)=rowC xs:=by
 letI:Glob:=noG
 rw[rvL_map]
 refine List.ext_getElem? fun i=>?_
 rw[List.getElem?_map]
 cases hc:(rowC xs)[i]? with
 | none=>rfl
 | some c=>simp only[Option.map_some]; rw[←(row_pure _ i c hc f d 0).1]

theorem rowsB_sh (Bx:List (Nat×List UInt8)) (f d:Nat→Nat):(rowsB Bx).map (Box.sh f d)=rowsB Bx:=by
 rw[rowsB,List.map_map]
 refine List.map_congr_left fun q _=>?_
 simp only[Function.comp,Box.sh,rowC_rvL]

theorem Inv.pick {F:Nat→Prop} [Glob] {B B':List Box} {ρ:Loc} {w:World} {f d:Nat→Nat} (h:Inv F B ρ w) (hlt:∀ j,j<B'.length→f j<B.length) (hinj:∀ i j,i<B'.length→j<B'.length→f i=f j→i=j)
  (hget:∀ j x,B'[j]? = some x→(∃ row v cs cs',x= .cells row v cs'∧B[f j]? = some (.cells row (v+d j) cs)∧cs=AV.rv.rvL f d cs'∧AV.low.allLow B'.length cs'=true)∨∃ cs cs' Φ,x= .obj cs' Φ∧B[f j]? = some (.obj cs Φ)∧cs=AV.rv.rvL f d cs'∧AV.low.allLow B'.length cs'=true):
  Inv F B' (fun j=>ρ (f j)) w∧∀ k,Own F B' (fun j=>ρ (f j)) k→Own F B ρ k:=by
 have parts:∀ {cs cs':List AV},cs=AV.rv.rvL f d cs'→AV.low.allLow B'.length cs'=true→cs.length=cs'.length∧∀ (i:Nat) (c c':AV),cs[i]? = some c→cs'[i]? = some c'→c=c'.rv f d∧c'.low B'.length=true:=by
  intro cs cs' e hl
  subst e
  rw[rvL_map]
  refine ⟨by simp,fun i c c' hc hc'=>?_⟩
  rw[List.getElem?_map,hc'] at hc
  cases hc
  exact ⟨rfl,allLow_get hl i c' hc'⟩
 have hw:Wk ⟨fun _=> .u,B⟩ ⟨fun _=> .u,B'⟩ f d:=by
  refine ⟨fun _=> .inl rfl,hlt,fun j row v cs' hj=>?_,hinj,fun j cs' Φ hj=>?_⟩
  ·rcases hget j _ hj with ⟨row1,v1,cs,cs1,e,h1,h2,h3⟩ | ⟨cs,cs1,Φ,e,_⟩
   ·cases e
    exact ⟨cs,h1,parts h2 h3⟩
   ·cases e
  ·rcases hget j _ hj with ⟨row1,v1,cs,cs1,e,_⟩ | ⟨cs,cs1,Φ1,e,h1,h2,h3⟩
   ·cases e
   ·cases e
    exact ⟨cs,h1,parts h2 h3⟩
 exact ⟨hw.inv h,fun k hk=>hw.sub k hk⟩

structure Opened [Glob] (F:Nat→Prop) (ρ:Loc) (w:World) (D:Dsk) (X:List Fil) (Bx:List (Nat×List UInt8)) (k o:Nat) (LY:FileL) (F':Nat→Prop) (ρ':Loc):Prop where
 at0:ρ 0=some (k,o)
 inv:Inv F' (flatB D X (LY.map hidOf)++rowsB Bx) ρ' w
 at0':ρ' 0=some (k,0)
 own:∀ j,Own F' (flatB D X (LY.map hidOf)++rowsB Bx) ρ' j↔Own F (.obj [] (diskP D)::rowsB Bx) ρ j
 rest:∀ b,b<Bx.length→ρ' (2+2*X.length+b)=ρ (1+b)
 far:∀ j,F' j↔(F j∨∃ y∈LY,y.2.2 j)
 packs:∀ y∈LY,packH (fileB y.1) y.2.2 y.2.1 w
 apart:LY.Pairwise fun x y=>∀ j,x.2.2 j→¬y.2.2 j
 farF:∀ y∈LY,∀ j,y.2.2 j→¬F j

theorem disk_open [Glob] {F:Nat→Prop} {ρ:Loc} {w:World} {D:Dsk} {X Y:List Fil} {Bx:List (Nat×List UInt8)} (hI:Inv F (.obj [] (diskP D)::rowsB Bx) ρ w) (hXY:D.files.Perm (X++Y)):
  ∃ k o LY F' ρ',LY.map (·.1)=Y∧Opened F ρ w D X Bx k o LY F' ρ':=by
 obtain ⟨k,o,us,hr,⟨hus,L,ρh,hA⟩,_⟩:=hI.obox 0 [] (diskP D) rfl
 obtain ⟨L',hp,hL'⟩:=perm_map_inv (hA.perm.trans hXY) rfl
 obtain ⟨LX,LY,rfl,hX,hY⟩:=List.map_eq_append_iff.1 hL'
 have hA:=hA.reorder hp
 rw[List.map_append] at *
 have hap:=List.pairwise_append.1 hA.apart
 obtain ⟨ρ1,g1,g2,g3⟩:=open_files (D:=D) (w:=w) (hid:=LY.map hidOf) LX [] ρh (by have:=hA.head; rw[List.map_append] at this; exact this) (fun x hx=>hA.packs x (by simp[hx])) hap.1
  (fun x hx j hj ho=>hA.away x (by simp[hx]) j hj (by rw[List.map_append]; exact ho))
 simp only[List.nil_append,hX] at g1 g2
 have hS:∀ j,Own noF (flatB D X (LY.map hidOf)) ρ1 j→o.testBit j=true:=fun j hj=>by
  rcases (g2 j).1 hj with h0 | ⟨x,hx,h0⟩
  ·exact (hA.foot j).2 (.inl (by rw[List.map_append]; exact h0))
  ·exact (hA.foot j).2 (.inr ⟨x,by simp[hx],h0⟩)
 -- the rows beside the disk
 obtain ⟨hR,hRo⟩:=hI.pick (B':=rowsB Bx) (f:=fun j=>1+j) (d:=fun _=>0) (fun j hj=>by simp at hj ⊢; omega) (fun i j _ _ h=>by omega) (fun j x hx=>by
  obtain ⟨q,hq,rfl⟩:=rowsB_get hx
  refine .inl ⟨true,q.1,_,_,rfl,?_,(rowC_rvL _ _ _).symm,row_low _ _⟩
  rw[show 1+j=j+1 by omega,List.getElem?_cons_succ,hx]; rfl)
 have hR:=hR.bare
 have hrow:∀ j,Own noF (rowsB Bx) (fun j=>ρ (1+j)) j→∃ b x l,(rowsB Bx)[b]? = some x∧ρ (1+b)=some l∧x.has l j:=fun j hj=>own_congr.1 hj
 have hdis:∀ j,o.testBit j=true→¬Own noF (rowsB Bx) (fun j=>ρ (1+j)) j:=fun j hj ho=>by
  obtain ⟨b,x,l,h1,h2,h3⟩:=hrow j ho
  have:=hI.injx 0 (1+b) (.obj [] (diskP D)) x (k,o) l j rfl (by rw[show 1+b=b+1 by omega,List.getElem?_cons_succ]; exact h1) hr h2 hj h3
  omega
 have hl:=flatB_length D X (LY.map hidOf)
 have hj:=Inv.join g1 hR (by rw[hl]; exact flat_pl _ _ _) (rowsB_pl _ _) (fun j a b=>hdis j (hS j a) b)
 have hoj:=fun j=>own_join (B1:=flatB D X (LY.map hidOf)) (B2:=rowsB Bx) (ρ1:=ρ1) (ρ2:=fun j=>ρ (1+j)) (f:=fun j=>(flatB D X (LY.map hidOf)).length+j) (d:=fun _=>0) j
 rw[rowsB_sh,hl] at hj
 simp only[rowsB_sh,hl] at hoj
 have hall:∀ j,((F j∨∃ y∈LY,y.2.2 j)∨Own noF (flatB D X (LY.map hidOf)++rowsB Bx) (jn (2+2*X.length) ρ1 fun j=>ρ (1+j)) j)↔Own F (.obj [] (diskP D)::rowsB Bx) ρ j:=fun j=>by
  constructor
  ·rintro ((h0 | ⟨y,hy,h0⟩) | h0)
   ·exact .inl h0
   ·exact .inr ⟨0,_,_,rfl,hr,(hA.foot j).2 (.inr ⟨y,by simp[hy],h0⟩)⟩
   ·rcases (hoj j).1 h0 with h1 | h1
    ·exact .inr ⟨0,_,_,rfl,hr,hS j h1⟩
    ·obtain ⟨b,x,l,q1,q2,q3⟩:=hrow j h1
     exact .inr ⟨b+1,x,l,q1,by rw[show b+1=1+b by omega]; exact q2,q3⟩
  ·rintro (h0 | ⟨b,x,l,q1,q2,q3⟩)
   ·exact .inl (.inl h0)
   ·cases b with
    | zero=>
     cases q1
     rw[hr] at q2; cases q2
     rcases (hA.foot j).1 q3 with h1 | ⟨y,hy,h1⟩
     ·exact .inr ((hoj j).2 (.inl ((g2 j).2 (.inl (by rw[List.map_append] at h1; exact h1)))))
     ·rcases List.mem_append.1 hy with hy | hy
      ·exact .inr ((hoj j).2 (.inl ((g2 j).2 (.inr ⟨y,hy,h1⟩))))
      ·exact .inl (.inr ⟨y,hy,h1⟩)
    | succ b=>
     exact .inr ((hoj j).2 (.inr (.inr ⟨b,x,l,q1,by show ρ (1+b)=_; rw[show 1+b=b+1 by omega]; exact q2,q3⟩)))
 have hown:∀ j,Own (fun j=>F j∨∃ y∈LY,y.2.2 j) (flatB D X (LY.map hidOf)++rowsB Bx) (jn (2+2*X.length) ρ1 fun j=>ρ (1+j)) j↔Own F (.obj [] (diskP D)::rowsB Bx) ρ j:=fun j=>by
  refine Iff.trans ?_ (hall j)
  constructor
  ·rintro (h0 | h0)
   ·exact .inl h0
   ·exact .inr (.inr h0)
  ·rintro (h0 | h0)
   ·exact .inl h0
   ·exact .inr (own_congr.1 h0)
 have hlen2:(flatB D X (LY.map hidOf)++rowsB Bx).length=2+2*X.length+Bx.length:=by rw[List.length_append,hl]; simp
 refine ⟨k,o,LY,fun j=>F j∨∃ y∈LY,y.2.2 j,_,hY,hr,Inv.raise hj ?_ (fun j hF ho=>?_) (fun j hF=>?_) (fun g hg=>?_),?_,hown,fun b hb=>?_,fun j=>Iff.rfl,fun y hy=>hA.packs y (by simp[hy]),hap.2.1,fun y hy j hj hF=>hI.farx 0 _ _ j rfl hr ((hA.foot j).2 (.inr ⟨y,by simp[hy],hj⟩)) hF⟩
 ·rw[hlen2]
  intro y hy
  rcases List.mem_append.1 hy with hy | hy
  ·have:=flat_pl D X (LY.map hidOf) y hy
   refine ⟨this.1,?_⟩
   have hmono:∀ (cs:List AV) (m m':Nat),m≤m'→AV.pl.allPl cs=true→AV.low.allLow m cs=true→cs.all AV.leaf=true→AV.low.allLow m' cs=true:=by
    intro cs m m' hm
    induction cs with
    | nil=>intro _ _ _; rfl
    | cons c cs ih=>
     intro h1 h2 h3
     simp only[AV.pl.allPl,AV.low.allLow,List.all_cons,Bool.and_eq_true] at h1 h2 h3 ⊢
     refine ⟨?_,ih h1.2 h2.2 h3.2⟩
     have h2':=h2.1
     cases c <;> simp only[AV.low,Nat.blt_eq] at h2' ⊢ <;> first | omega | (exact absurd (show false=true from h3.1) (by decide)) | (exact absurd (show false=true from h1.1) (by decide)) | skip
   have hleaf:y.cs.all AV.leaf=true:=by
    rcases List.mem_cons.1 hy with rfl | hy
    ·rfl
    ·rcases List.mem_cons.1 hy with rfl | hy
     ·have:∀ (X:List Fil) n,(ptrs n X).all AV.leaf=true:=by
       intro X
       induction X with
       | nil=>intro n; rfl
       | cons x X ih=>intro n; exact ih (n+2)
      exact this X 2
     ·have:∀ (X:List Fil) n,∀ y∈filesC n X,y.cs.all AV.leaf=true:=by
       intro X
       induction X with
       | nil=>intro n y hy; cases hy
       | cons x X ih=>
        intro n y hy
        rcases List.mem_cons.1 hy with rfl | hy
        ·rfl
        ·rcases List.mem_cons.1 hy with rfl | hy
         ·show (rowC (x.b.map byteE.f)).all AV.leaf=true
          exact byteE.elt.rowLeaf x.b
         ·exact ih (n+2) y hy
      exact this X 2 y hy
   exact hmono _ _ _ (by omega) this.1 this.2 hleaf
  ·exact rowsB_pl _ _ y hy
 ·rcases hF with h0 | ⟨y,hy,h0⟩
  ·rcases (hoj j).1 ho with h1 | h1
   ·exact hI.farx 0 _ _ j rfl hr (hS j h1) h0
   ·obtain ⟨b,x,l,q1,q2,q3⟩:=hrow j h1
    exact hI.farx (b+1) x l j q1 (by rw[show b+1=1+b by omega]; exact q2) q3 h0
  ·rcases (hoj j).1 ho with h1 | h1
   ·rcases (g2 j).1 h1 with h2 | ⟨x,hx,h2⟩
    ·exact hA.away y (by simp[hy]) j h0 (by rw[List.map_append]; exact h2)
    ·exact hap.2.2 x hx y hy j h2 h0
   ·exact hdis j ((hA.foot j).2 (.inr ⟨y,by simp[hy],h0⟩)) h1
 ·rcases hF with h0 | ⟨y,hy,h0⟩
  ·exact hI.bound j h0
  ·exact (hA.packs y (by simp[hy])).low j h0
 ·refine ⟨?_,(hI.glob g hg).sz⟩
  cases (hI.glob g hg).v with
  | rp cs a us h1 h2 h3 h4 h5 h6=>
   exact .rp _ _ us h1 (fun h=>h2 ((hown _).1 h)) h3 h4 h5 (fun j p u hp hu=>(h6 j p u hp hu).mono (fun k _ ho=>⟨rfl,fun h=>ho ((hown _).1 h)⟩) (Nat.le_refl _))
 ·show (if 0<2+2*X.length then ρ1 0 else _)=_
  rw[if_pos (by omega),g3 0 (by simp)]
  exact hA.root
 ·show (if 2+2*X.length+b<2+2*X.length then _ else ρ (1+(2+2*X.length+b - (2+2*X.length))))=_
  rw[if_neg (by omega)]
  congr 1
  omega

end Go.Ax

namespace Go.Ax
open Go.RowKit

structure Vis where
 x:Fil
 b:Nat
 r:Nat
 v:Nat

abbrev zB (Z:List (Nat×Nat×List UInt8)):List (Nat×List UInt8):=Z.map (·.2)
abbrev visIx (I:List Vis):List Nat:=I.flatMap fun i=> [i.b,i.r]

structure Shut (n:Nat) (Bx:List (Nat×List UInt8)) (LYh:List (Value×Value)) (D1:Dsk) (I:List Vis) (Z:List (Nat×Nat×List UInt8)) (B:List Box):Prop where
 h0:B[0]? = some (headC D1)
 h1:B[1]? = some (.obj (I.map fun i=> .ptr i.b 0 0) (mapP (I.map fun i=> .string i.x.name) LYh))
 hI:∀ i∈I,B[i.b]? = some (fileC i.r i.v i.x)∧B[i.r]? = some (rowB i.v i.x.b)
 nod:(0::1::(visIx I++Z.map (·.1))).Nodup
 hZ:∀ z∈Z,B[z.1]? = some (rowB z.2.1 z.2.2)
 hX:∀ b,b<Bx.length→(Z[b]?).map (·.1)=some (n+b)

theorem pairwise_of_nodup {α:Type} {l:List α} (h:l.Nodup):∀ (i j:Nat) (a:α),l[i]? = some a→l[j]? = some a→i=j:=by
 intro i j a hi hj
 have hpw:=List.pairwise_iff_getElem.1 h
 obtain ⟨hi1,hi2⟩:=List.getElem?_eq_some_iff.1 hi
 obtain ⟨hj1,hj2⟩:=List.getElem?_eq_some_iff.1 hj
 rcases Nat.lt_trichotomy i j with h | h | h
 ·exact absurd (hi2.trans hj2.symm) (hpw i j hi1 hj1 h)
 ·exact h
 ·exact absurd (hj2.trans hi2.symm) (hpw j i hj1 hi1 h)

theorem disk_shut [Glob] {F:Nat→Prop} {ρ:Loc} {w:World} {D:Dsk} {X:List Fil} {Bx:List (Nat×List UInt8)} {k o:Nat} {LY:FileL} {F':Nat→Prop} {ρ':Loc} (O:Opened F ρ w D X Bx k o LY F' ρ')
  {B:List Box} {ρ2:Loc} {w':World} (hI:Inv F' B ρ2 w') (hE:Ext F' (flatB D X (LY.map hidOf)++rowsB Bx) ρ' w B ρ2 w') {D1:Dsk} {I:List Vis} {Z:List (Nat×Nat×List UInt8)} (hS:Shut (2+2*X.length) Bx (LY.map hidOf) D1 I Z B)
  (hfiles:(I.map (·.x)++LY.map (·.1)).Perm D1.files):
  ∃ ρ3,Inv F (.obj [] (diskP D1)::rowsB (zB Z)) ρ3 w'∧Ext F (.obj [] (diskP D)::rowsB Bx) ρ w (.obj [] (diskP D1)::rowsB (zB Z)) ρ3 w' ∧
   ∀ (y:AV) (u:Value),VRel F' B ρ2 w' (y.rv (fun j=>((Z[j]?).map (·.1)).getD 0) (fun _=>0)) u→y.pl2=true→y.low Z.length=true→VRel F (.obj [] (diskP D1)::rowsB (zB Z)) ρ3 w' (y.rv (fun j=>1+j) (fun _=>0)) u:=by
 have hl:=flatB_length D X (LY.map hidOf)
 have hlen2:(flatB D X (LY.map hidOf)++rowsB Bx).length=2+2*X.length+Bx.length:=by rw[List.length_append,hl]; simp
 let ix:Vis→Nat→Nat:=fun i q=>if q=0 then i.b else i.r
 let fb:Vis→Nat:=fun i=>((ρ2 i.b).map (·.1)).getD 0
 let T:Vis→Nat→Prop:=fun i j=>Own noF (fileB i.x) (fun q=>ρ2 (ix i q)) j
 let LI:FileL:=I.map fun i=>(i.x,fb i,T i)
 let L1:FileL:=LI++LY
 have hfbI:∀ i∈I,ρ2 i.b=some (fb i,0):=fun i hi=>by
  obtain ⟨g1,_⟩:=hS.hI i hi
  rcases hI.box _ _ _ _ g1 with ⟨_,h,_⟩ | ⟨k2,o2,us,e,fr,q1,_⟩
  ·cases h
  ·have:=hI.off0 _ _ _ _ _ g1 q1
   subst this
   simp[fb,q1]
 have hroot:ρ2 0=some (k,0):=by
  obtain ⟨v0,cs0,e1,_,e3⟩:=hE.box 0 _ _ _ (by omega) hS.h0
  cases e1
  rw[(e3 rfl).1]
  exact O.at0'
 -- distinct boxes
 have hnod:=hS.nod
 have hne0:∀ j∈visIx I++Z.map (·.1),j≠0∧j≠1:=fun j hj=>by
  rw[List.nodup_cons,List.nodup_cons] at hnod
  exact ⟨fun e=>hnod.1 (by subst e; simp[hj]),fun e=>hnod.2.1 (by subst e; exact hj)⟩
 have hnodI:(visIx I++Z.map (·.1)).Nodup:=by rw[List.nodup_cons,List.nodup_cons] at hnod; exact hnod.2.2
 have hvis:∀ i∈I,i.b∈visIx I∧i.r∈visIx I:=fun i hi=>⟨List.mem_flatMap.2 ⟨i,hi,by simp⟩,List.mem_flatMap.2 ⟨i,hi,by simp⟩⟩
 have hown:∀ {b:Nat} {x:Box} {l:Nat×Nat} {j:Nat},B[b]? = some x→ρ2 b=some l→x.has l j→Own F' B ρ2 j:=fun a b c=> .inr ⟨_,_,_,a,b,c⟩
 -- what a told file has lies in its boxes
 have hT:∀ i∈I,∀ j,T i j→∃ q x l,(q=i.b∨q=i.r)∧B[q]? = some x∧ρ2 q=some l∧x.has l j:=fun i hi j hj=>by
  obtain ⟨b,x,l,h1,h2,h3⟩:=own_congr.1 hj
  obtain ⟨g1,g2⟩:=hS.hI i hi
  match b,h1 with
  | 0,h1=>cases h1; exact ⟨i.b,_,l, .inl rfl,g1,h2,h3⟩
  | 1,h1=>cases h1; exact ⟨i.r,_,l, .inr rfl,g2,h2,h3⟩
  | b+2,h1=>simp at h1
 have hTF:∀ y∈LY,∀ j,y.2.2 j→F' j:=fun y hy j hj=>(O.far j).2 (.inr ⟨y,hy,hj⟩)
 -- the head, all files hidden
 obtain ⟨r1,r2,_⟩:=hI.reobj (cs':= []) (Φ':=mapP [] (L1.map hidOf)) hS.h1 (fun k0 o0 us hr hh hlen hv=>by
  obtain ⟨q1,es,clock,q2,q3,q4,q5⟩:=hh
  refine ⟨[],⟨q1,es,clock,q2,q3,rfl,?_⟩,rfl,fun i c u hc=>by simp at hc⟩
  have hus:us=I.map fun i=>ptrV (fb i):=by
   apply List.ext_getElem?
   intro j
   rw[List.getElem?_map]
   cases hij:I[j]? with
   | none=>
    have:I.length≤j:=List.getElem?_eq_none_iff.1 hij
    rw[List.getElem?_eq_none (by rw[←hlen]; simpa using this)]; rfl
   | some i=>
    have hjl:=(List.getElem?_eq_some_iff.1 hij).1
    have hjl2:j<us.length:=by rw[←hlen]; simpa using hjl
    have:=hv j (.ptr i.b 0 0) us[j] (by rw[List.getElem?_map,hij]; rfl) (List.getElem?_eq_getElem hjl2)
    rw[List.getElem?_eq_getElem hjl2]
    have him:=List.mem_of_getElem? hij
    generalize us[j]=u at this
    cases this with
    | ptr _ _ _ a hp=>
     obtain ⟨k',o',h1,h2⟩:=(hp.2 _ _ _ (hS.hI i him).1).2 rfl
     rw[hfbI i him] at h1
     cases h1
     rw[h2]; rfl
  refine q5.trans ?_
  rw[hus]
  have:(I.map fun i=>Value.string i.x.name).zip (I.map fun i=>ptrV (fb i))=LI.map hidOf:=by
   simp only[LI,List.map_map]
   rw[List.zip_map']
   rfl
  rw[this]
  simp[L1])
 have hB0:∀ (b:Nat) (x:Box),b≠1→((B.set 1 (.obj [] (mapP [] (L1.map hidOf))))[b]? = some x↔B[b]? = some x):=fun b x hb=>by
  rw[List.getElem?_set,if_neg (fun e=>hb e.symm)]
 have h1lt:1<B.length:=(List.getElem?_eq_some_iff.1 hS.h1).1
 obtain ⟨hH,hHo⟩:=r1.pick (B':= [headC D1, .obj [] (mapP [] (L1.map hidOf))]) (f:=fun j=>j) (d:=fun _=>0) (fun j hj=>by simp at hj ⊢; omega) (fun i j _ _ h=>h) (fun j x hx=>by
  match j,hx with
  | 0,hx=>
   cases hx
   exact .inl ⟨false,0,_,_,rfl,(hB0 0 _ (by omega)).2 hS.h0,rfl,rfl⟩
  | 1,hx=>
   cases hx
   exact .inr ⟨[],[],_,rfl,by rw[List.getElem?_set_self h1lt],rfl,rfl⟩
  | j+2,hx=>simp at hx)
 have hHo':∀ j,Own noF [headC D1, .obj [] (mapP [] (L1.map hidOf))] ρ2 j→∃ q x l,(q=0∨q=1)∧B[q]? = some x∧ρ2 q=some l∧x.has l j:=fun j hj=>by
  obtain ⟨b,x,l,h1,h2,h3⟩:=own_congr.1 hj
  match b,h1 with
  | 0,h1=>cases h1; exact ⟨0,_,l, .inl rfl,hS.h0,h2,h3⟩
  | 1,h1=>cases h1; exact ⟨1,_,l, .inr rfl,hS.h1,h2,h3⟩
  | b+2,h1=>simp at h1
 have hpackI:∀ i∈I,packH (fileB i.x) (T i) (fb i) w':=fun i hi=>by
  obtain ⟨g1,g2⟩:=hS.hI i hi
  have hbr:i.b≠i.r:=fun e=>by rw[e,g2] at g1; cases g1
  obtain ⟨p1,_⟩:=hI.pick (B':=fileB i.x) (f:=ix i) (d:=fun q=>if q=0 then 0 else i.v) (fun j hj=>by
   simp only[List.length_cons,List.length_nil] at hj
   match j,hj with
   | 0,_=>exact (List.getElem?_eq_some_iff.1 g1).1
   | 1,_=>exact (List.getElem?_eq_some_iff.1 g2).1) (fun a b ha hb h=>by
   simp only[List.length_cons,List.length_nil] at ha hb
   match a,b,ha,hb with
   | 0,0,_,_=>rfl
   | 1,1,_,_=>rfl
   | 0,1,_,_=>exact absurd h hbr
   | 1,0,_,_=>exact absurd h.symm hbr) (fun j x hx=>by
   match j,hx with
   | 0,hx=>
    cases hx
    refine .inl ⟨false,0,_,_,rfl,g1,?_,rfl⟩
    simp[AV.rv.rvL,AV.rv,ix]
   | 1,hx=>
    cases hx
    refine .inl ⟨true,0,_,_,rfl,?_,(rowC_rvL _ _ _).symm,row_low _ _⟩
    show B[i.r]? = some (.cells true (0+i.v) _)
    rw[Nat.zero_add]; exact g2
   | j+2,hx=>simp at hx)
  exact ⟨_,p1.bare,hfbI i hi,fun j=>Iff.rfl⟩
 have hS1:∀ j,(Own noF [headC D1, .obj [] (mapP [] (L1.map hidOf))] ρ2 j∨∃ x∈L1,x.2.2 j)→Own F' B ρ2 j:=fun j hj=>by
  rcases hj with h0 | ⟨x,hx,h0⟩
  ·obtain ⟨q,x,l,_,a,b,c⟩:=hHo' j h0
   exact hown a b c
  ·rcases List.mem_append.1 hx with hx | hx
   ·obtain ⟨i,hi,rfl⟩:=List.mem_map.1 hx
    obtain ⟨q,x,l,_,a,b,c⟩:=hT i hi j h0
    exact hown a b c
   ·exact .inl (hTF x hx j h0)
 have hlow:∀ j,(Own noF [headC D1, .obj [] (mapP [] (L1.map hidOf))] ρ2 j∨∃ x∈L1,x.2.2 j)→j<w'.heap.size:=fun j hj=>hI.ownlt j (hS1 j hj)
 -- the rows
 let zf:Nat→Nat:=fun j=>((Z[j]?).map (·.1)).getD 0
 have hzf:∀ (j:Nat) z,Z[j]? = some z→zf j=z.1:=fun j z h=>by simp[zf,h]
 obtain ⟨hR,hRo⟩:=hI.pick (B':=rowsB (zB Z)) (f:=zf) (d:=fun _=>0) (fun j hj=>by
   have hj':j<Z.length:=by simpa using hj
   rw[hzf j _ (List.getElem?_eq_getElem hj')]
   exact (List.getElem?_eq_some_iff.1 (hS.hZ _ (List.getElem_mem hj'))).1) (fun a b ha hb h=>by
   have ha':a<Z.length:=by simpa using ha
   have hb':b<Z.length:=by simpa using hb
   rw[hzf a _ (List.getElem?_eq_getElem ha'),hzf b _ (List.getElem?_eq_getElem hb')] at h
   exact pairwise_of_nodup (List.nodup_append.1 hnodI).2.1 a b Z[a].1 (by rw[List.getElem?_map,List.getElem?_eq_getElem ha']; rfl) (by rw[List.getElem?_map,List.getElem?_eq_getElem hb',h]; rfl)) (fun j x hx=>by
   obtain ⟨q,hq,rfl⟩:=rowsB_get hx
   rw[List.getElem?_map] at hq
   obtain ⟨z,hz,rfl⟩:=Option.map_eq_some_iff.1 hq
   refine .inl ⟨true,z.2.1,_,_,rfl,?_,(rowC_rvL _ _ _).symm,row_low _ _⟩
   show B[zf j]? = some (.cells true (z.2.1+0) _)
   rw[hzf j z hz]
   exact hS.hZ z (List.mem_of_getElem? hz))
 have hRb:=hR.bare
 have hrow:∀ j,Own noF (rowsB (zB Z)) (fun j=>ρ2 (zf j)) j→∃ z x l,z∈Z∧B[z.1]? = some x∧ρ2 z.1=some l∧x.has l j:=fun j hj=>by
  obtain ⟨b,x,l,h1,h2,h3⟩:=own_congr.1 hj
  obtain ⟨q,hq,rfl⟩:=rowsB_get h1
  rw[List.getElem?_map] at hq
  obtain ⟨z,hz,rfl⟩:=Option.map_eq_some_iff.1 hq
  simp only[hzf b z hz] at h2
  exact ⟨z,_,l,List.mem_of_getElem? hz,hS.hZ z (List.mem_of_getElem? hz),h2,h3⟩
 -- the disk
 let S1:Nat→Prop:=fun j=>Own noF [headC D1, .obj [] (mapP [] (L1.map hidOf))] ρ2 j∨∃ x∈L1,x.2.2 j
 have hbit:∀ j,(codeOf S1 w'.heap.size).testBit j=true↔S1 j:=fun j=>(codeOf_bit S1 _ j).trans ⟨fun h=>h.1,fun h=>⟨h,hlow j h⟩⟩
 have hD:DiskAt D1 (fun j=>(codeOf S1 w'.heap.size).testBit j=true) k w' L1 ρ2:=by
  refine ⟨?_,hH.bare,hroot,fun x hx=>?_,List.pairwise_append.2 ⟨?_,O.apart,fun x hx y hy j a b=>?_⟩,fun x hx j hj ho=>?_,hbit⟩
  ·have:L1.map (·.1)=I.map (·.x)++LY.map (·.1):=by simp[L1,LI,Function.comp_def]
   rw[this]; exact hfiles
  ·rcases List.mem_append.1 hx with hx | hx
   ·obtain ⟨i,hi,rfl⟩:=List.mem_map.1 hx
    exact hpackI i hi
   ·exact (O.packs x hx).frame (fileB_pl _) (fun j hj=>hE.far j (hTF x hx j hj) ((O.packs x hx).low j hj))
  ·rw[List.pairwise_map]
   have hnv:=(List.nodup_append.1 hnodI).1
   have hpw:I.Pairwise fun i i'=>∀ a∈ [i.b,i.r],∀ b∈ [i'.b,i'.r],a≠b:=(List.pairwise_flatMap.1 hnv).2
   refine List.Pairwise.imp_of_mem (fun {i i'} hi hi' h j a b=>?_) hpw
   obtain ⟨q,x,l,hq,a1,a2,a3⟩:=hT i hi j a
   obtain ⟨q',x',l',hq',b1,b2,b3⟩:=hT i' hi' j b
   exact h q (by rcases hq with rfl | rfl <;> simp) q' (by rcases hq' with rfl | rfl <;> simp) (hI.injx q q' _ _ _ _ j a1 b1 a2 b2 a3 b3)
  ·obtain ⟨i,hi,rfl⟩:=List.mem_map.1 hx
   obtain ⟨q,x,l,hq,a1,a2,a3⟩:=hT i hi j a
   exact hI.farx q _ _ j a1 a2 a3 (hTF y hy j b)
  ·obtain ⟨q',x',l',hq',b1,b2,b3⟩:=hHo' j ho
   rcases List.mem_append.1 hx with hx | hx
   ·obtain ⟨i,hi,rfl⟩:=List.mem_map.1 hx
    obtain ⟨q,x,l,hq,a1,a2,a3⟩:=hT i hi j hj
    have:=hI.injx q q' _ _ _ _ j a1 b1 a2 b2 a3 b3
    have hqm:q∈visIx I++Z.map (·.1):=List.mem_append_left _ (by rcases hq with rfl | rfl <;> simp[(hvis i hi)])
    have:=hne0 q hqm
    omega
   ·exact hI.farx q' _ _ j b1 b2 b3 (hTF x hx j hj)
 have hO:@Inv noG noF [.obj [] (diskP D1)] (fun _=>some (k,codeOf S1 w'.heap.size)) w':=by
  letI:Glob:=noG
  refine @Inv.mk noG noF _ _ w' (fun b row v cs hb=>?_) (fun b row v cs hb=>?_) (fun b cs Φ hb=>?_) (fun b b' x x' l l' j h1 h2 _ _ _ _=>?_) (fun k hk=>hk.elim) (fun _ _ _ _ _ _ _ h=>h) (fun g hg=>absurd rfl hg) (fun b v cs k o hb=>?_)
  ·cases b <;> simp at hb
  ·cases b <;> simp at hb
  ·cases b with
   | zero=>cases hb; exact ⟨k,_,[],rfl,⟨rfl,L1,ρ2,hD⟩,rfl,fun i c u hc=>by simp at hc⟩
   | succ b=>simp at hb
  ·cases b with
   | zero=>cases b' with
    | zero=>rfl
    | succ b'=>simp at h2
   | succ b=>simp at h1
  ·cases b <;> simp at hb
 have hOo:∀ j,Own noF [.obj [] (diskP D1)] (fun _=>some (k,codeOf S1 w'.heap.size)) j→S1 j:=fun j hj=>by
  obtain ⟨b,x,l,h1,h2,h3⟩:=own_congr.1 hj
  cases b with
  | zero=>cases h1; cases h2; exact (hbit j).1 h3
  | succ b=>simp at h1
 have hdis:∀ j,Own noF [.obj [] (diskP D1)] (fun _=>some (k,codeOf S1 w'.heap.size)) j→¬Own noF (rowsB (zB Z)) (fun j=>ρ2 (zf j)) j:=fun j hj ho=>by
  obtain ⟨z,x,l,hz,a1,a2,a3⟩:=hrow j ho
  have hzm:z.1∈Z.map (·.1):=List.mem_map.2 ⟨z,hz,rfl⟩
  rcases hOo j hj with h0 | ⟨y,hy,h0⟩
  ·obtain ⟨q',x',l',hq',b1,b2,b3⟩:=hHo' j h0
   have:=hI.injx z.1 q' _ _ _ _ j a1 b1 a2 b2 a3 b3
   have:=hne0 z.1 (List.mem_append_right _ hzm)
   omega
  ·rcases List.mem_append.1 hy with hy | hy
   ·obtain ⟨i,hi,rfl⟩:=List.mem_map.1 hy
    obtain ⟨q,x',l',hq,b1,b2,b3⟩:=hT i hi j h0
    have e:=hI.injx z.1 q _ _ _ _ j a1 b1 a2 b2 a3 b3
    refine (List.nodup_append.1 hnodI).2.2 q (by rcases hq with rfl | rfl <;> simp[(hvis i hi)]) z.1 hzm e.symm
   ·exact hI.farx z.1 _ _ j a1 a2 a3 (hTF y hy j h0)
 have hj:=Inv.join hO hRb (fun y hy=>by
   rcases List.mem_cons.1 hy with rfl | hy
   ·exact ⟨rfl,rfl⟩
   ·cases hy) (rowsB_pl _ _) hdis
 have hoj:=fun j=>own_join (B1:= [.obj [] (diskP D1)]) (B2:=rowsB (zB Z)) (ρ1:=fun _=>some (k,codeOf S1 w'.heap.size)) (ρ2:=fun j=>ρ2 (zf j)) (f:=fun j=> [Box.obj [] (diskP D1)].length+j) (d:=fun _=>0) j
 rw[rowsB_sh] at hj
 simp only[rowsB_sh] at hoj
 have hsub:∀ j,Own noF ([.obj [] (diskP D1)]++rowsB (zB Z)) (jn 1 (fun _=>some (k,codeOf S1 w'.heap.size)) fun j=>ρ2 (zf j)) j→∃ P:Prop,P∧Own F' B ρ2 j∧¬F j:=fun j hj=>by
  rcases (hoj j).1 hj with h0 | h0
  ·refine ⟨True,trivial,hS1 j (hOo j h0),fun hF=>?_⟩
   rcases hOo j h0 with h1 | ⟨y,hy,h1⟩
   ·obtain ⟨q',x',l',hq',b1,b2,b3⟩:=hHo' j h1
    exact hI.farx q' _ _ j b1 b2 b3 ((O.far j).2 (.inl hF))
   ·rcases List.mem_append.1 hy with hy | hy
    ·obtain ⟨i,hi,rfl⟩:=List.mem_map.1 hy
     obtain ⟨q,x',l',hq,b1,b2,b3⟩:=hT i hi j h1
     exact hI.farx q _ _ j b1 b2 b3 ((O.far j).2 (.inl hF))
    ·exact O.farF y hy j h1 hF
  ·obtain ⟨z,x,l,hz,a1,a2,a3⟩:=hrow j h0
   exact ⟨True,trivial,hown a1 a2 a3,fun hF=>hI.farx z.1 _ _ j a1 a2 a3 ((O.far j).2 (.inl hF))⟩
 have hsubF:∀ j,Own F ([.obj [] (diskP D1)]++rowsB (zB Z)) (jn 1 (fun _=>some (k,codeOf S1 w'.heap.size)) fun j=>ρ2 (zf j)) j→Own F' B ρ2 j:=fun j hj=>by
  rcases hj with h0 | h0
  ·exact .inl ((O.far j).2 (.inl h0))
  ·obtain ⟨_,_,h,_⟩:=hsub j (.inr h0)
   exact h
 have hInv:Inv F ([.obj [] (diskP D1)]++rowsB (zB Z)) (jn 1 (fun _=>some (k,codeOf S1 w'.heap.size)) fun j=>ρ2 (zf j)) w':=by
  refine Inv.raise hj (fun y hy=>?_) (fun j hF ho=>?_) (fun j hF=>hI.bound j ((O.far j).2 (.inl hF))) (fun g hg=>?_)
  ·rcases List.mem_append.1 hy with hy | hy
   ·rcases List.mem_cons.1 hy with rfl | hy
    ·exact ⟨rfl,rfl⟩
    ·cases hy
   ·exact rowsB_pl _ _ y hy
  ·obtain ⟨_,_,_,h⟩:=hsub j ho
   exact h hF
  ·refine ⟨?_,(hI.glob g hg).sz⟩
   cases (hI.glob g hg).v with
   | rp cs a us h1 h2 h3 h4 h5 h6=>
    exact .rp _ _ us h1 (fun h=>h2 (hsubF _ h)) h3 h4 h5 (fun j p u hp hu=>(h6 j p u hp hu).mono (fun k _ ho=>⟨rfl,fun h=>ho (hsubF _ h)⟩) (Nat.le_refl _))
 refine ⟨_,hInv,⟨hE.size,hE.os,hE.tape,hE.output,fun j hj ho=>?_,hE.shape,?_,fun b row v cs hb hc=>?_,fun b cs Φ hb hc=>?_,fun j hF hj=>hE.far j ((O.far j).2 (.inl hF)) hj⟩,fun y u hv hp hlw=>?_⟩
 ·obtain ⟨g1,g2⟩:=hE.keep j hj (fun h=>ho ((O.own j).1 h))
  exact ⟨g1,fun h=>g2 (hsubF j h)⟩
 ·have:Bx.length≤Z.length:=by
   rcases Nat.lt_or_ge Z.length Bx.length with h | h
   ·have:=hS.hX Z.length h
    simp at this
   ·exact h
  simp; omega
 ·cases b with
  | zero=>cases hc
  | succ b=>
   have hb':b<Bx.length:=by simpa using hb
   rw[List.getElem?_cons_succ] at hc
   obtain ⟨q,hq,e⟩:=rowsB_get hc
   cases e
   rw[List.getElem?_map] at hq
   obtain ⟨z,hz,rfl⟩:=Option.map_eq_some_iff.1 hq
   have hz1:z.1=2+2*X.length+b:=by
    have:=hS.hX b hb'
    rw[hz] at this
    simpa using this
   have hBz:=hS.hZ z (List.mem_of_getElem? hz)
   rw[hz1] at hBz
   obtain ⟨v0,cs0,e1,e2,e3⟩:=hE.box _ _ _ _ (by omega) hBz
   rw[List.getElem?_append_right (by omega),hl,show 2+2*X.length+b - (2+2*X.length)=b by omega] at e1
   refine ⟨v0,cs0,by rw[List.getElem?_cons_succ]; exact e1,e2,fun e=>?_⟩
   obtain ⟨e4,e5⟩:=e3 e
   refine ⟨?_,e5⟩
   show (if b+1<1 then _ else ρ2 (zf (b+1 - 1)))=_
   rw[if_neg (by omega),Nat.add_sub_cancel,hzf b z hz,hz1,e4,O.rest b hb',Nat.add_comm]
 ·cases b with
  | zero=>
   cases hc
   refine ⟨[],diskP D,rfl,?_⟩
   rw[O.at0]; rfl
  | succ b=>
   rw[List.getElem?_cons_succ] at hc
   obtain ⟨q,hq,e⟩:=rowsB_get hc
   cases e
 ·-- what is answered
  have h1:VRel F' (rowsB (zB Z)) (fun j=>ρ2 (zf j)) w' y u:=by
   refine hv.rv (fun j row v cs hj=>?_) (fun j cs Φ hj=>?_) (fun k hk=>hRo k hk) rfl (by simpa using hlw)
   ·obtain ⟨q,hq,e⟩:=rowsB_get hj
    cases e
    rw[List.getElem?_map] at hq
    obtain ⟨z,hz,rfl⟩:=Option.map_eq_some_iff.1 hq
    refine ⟨_,?_,rfl⟩
    show B[zf j]? = _
    rw[hzf j z hz]
    exact hS.hZ z (List.mem_of_getElem? hz)
   ·obtain ⟨q,hq,e⟩:=rowsB_get hj
    cases e
  have hp1:(∃ p,y= .p p)∨y.pl=true:=by
   cases y <;> first | exact .inl ⟨_,rfl⟩ | exact .inr hp
  rcases hp1 with ⟨p,rfl⟩ | hp
  ·cases hv with
   | p _ _ hq=>exact .p _ _ (hq.mono (fun k _ ho=>⟨rfl,fun h=>ho (hsubF k h)⟩) (Nat.le_refl _))
  refine h1.fwdP (fun j hj=>by simp at hj ⊢; omega) (fun j hj=>?_) (fun j row v cs hj hc=>?_) (fun j cs Φ hj hc=>?_) hp (by simpa using hlw)
  ·show (if 1+j<1 then _ else ρ2 (zf (1+j - 1)))=_
   rw[if_neg (by omega),show 1+j - 1=j by omega]
  ·rw[show 1+j=j+1 by omega,List.getElem?_cons_succ] at hc
   exact ⟨v,cs,hc,rfl,rfl⟩
  ·rw[show 1+j=j+1 by omega,List.getElem?_cons_succ] at hc
   exact ⟨cs,Φ,hc⟩

end Go.Ax
