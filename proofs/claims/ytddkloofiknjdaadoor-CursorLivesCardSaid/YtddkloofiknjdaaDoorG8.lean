/- A disk in memory: shut again. -/
import Derived.Test.YtddkloofiknjdaaDoorG7
import Derived.Test.YtddkloofiknjdaaDoorProg
import Derived.Shelf.Strconv.Itoa3
import Derived.Shelf.SlIter.Nil
import Derived.Shelf.SortM.Plain
import Derived.Shelf.SortM.SortNone
set_option linter.unusedVariables false
set_option linter.unusedSimpArgs false
set_option linter.unusedSectionVars false
namespace Go.Ax
open Go.RowKit

structure Vis where
 x:Fil
 b:Nat
 r:Nat
 v:Nat

abbrev zB (Z:List (Nat×Nat×List UInt8)):List (Nat×List UInt8):=Z.map (·.2)
abbrev Oc (I:List Vis):List Nat:=I.flatMap fun i=> [i.b,i.r]

structure Shut (n:Nat) (Bx:List (Nat×List UInt8)) (LYh:List (Value×Value)) (D1:Dsk) (I:List Vis) (Z:List (Nat×Nat×List UInt8)) (B:List Box):Prop where
 h0:B[0]? = some (DQ D1)
 h1:B[1]? = some (.obj (I.map fun i=> .ptr i.b 0 0) (AQ (I.map fun i=> .string i.x.name) LYh))
 hI:∀ i∈I,B[i.b]? = some (Oa i.r i.v i.x)∧B[i.r]? = some (GV i.v i.x.b)
 nod:(0::1::(Oc I++Z.map (·.1))).Nodup
 hZ:∀ z∈Z,B[z.1]? = some (GV z.2.1 z.2.2)
 hX:∀ b,b<Bx.length→(Z[b]?).map (·.1)=some (n+b)

theorem Pc {α:Type} {l:List α} (h:l.Nodup):∀ (i j:Nat) (a:α),l[i]? = some a→l[j]? = some a→i=j:=by
 intro i j a hi hj
 have hpw:=List.pairwise_iff_getElem.1 h
 obtain ⟨hi1,hi2⟩:=List.getElem?_eq_some_iff.1 hi
 obtain ⟨hj1,hj2⟩:=List.getElem?_eq_some_iff.1 hj
 rcases Nat.lt_trichotomy i j with h | h | h
 ·exact absurd (hi2.trans hj2.symm) (hpw i j hi1 hj1 h)
 ·exact h
 ·exact absurd (hj2.trans hi2.symm) (hpw j i hj1 hi1 h)

theorem dw [Glob] {F:Nat→Prop} {ρ:Aj} {w:World} {D:Dsk} {X:List Fil} {Bx:List (Nat×List UInt8)} {k o:Nat} {LY:MH} {F':Nat→Prop} {ρ':Aj} (O:Opened F ρ w D X Bx k o LY F' ρ')
  {B:List Box} {ρ2:Aj} {w':World} (hI:Inv F' B ρ2 w') (hE:Ext F' (BA D X (LY.map CF)++By Bx) ρ' w B ρ2 w') {D1:Dsk} {I:List Vis} {Z:List (Nat×Nat×List UInt8)} (hS:Shut (2+2*X.length) Bx (LY.map CF) D1 I Z B)
  (hfiles:(I.map (·.x)++LY.map (·.1)).Perm D1.files):
  ∃ ρ3,Inv F (.obj [] (AH D1)::By (zB Z)) ρ3 w'∧Ext F (.obj [] (AH D)::By Bx) ρ w (.obj [] (AH D1)::By (zB Z)) ρ3 w' ∧
   ∀ (y:AV) (u:Value),VRel F' B ρ2 w' (y.rv (fun j=>((Z[j]?).map (·.1)).getD 0) (fun _=>0)) u→y.pl2=true→y.low Z.length=true→VRel F (.obj [] (AH D1)::By (zB Z)) ρ3 w' (y.rv (fun j=>1+j) (fun _=>0)) u:=by
 have hl:=C1 D X (LY.map CF)
 have hlen2:(BA D X (LY.map CF)++By Bx).length=2+2*X.length+Bx.length:=by rw[List.length_append,hl]; simp
 let ix:Vis→Nat→Nat:=fun i q=>if q=0 then i.b else i.r
 let fb:Vis→Nat:=fun i=>((ρ2 i.b).map (·.1)).getD 0
 let T:Vis→Nat→Prop:=fun i j=>Own noF (G0 i.x) (fun q=>ρ2 (ix i q)) j
 let LI:MH:=I.map fun i=>(i.x,fb i,T i)
 let L1:MH:=LI++LY
 have hfbI:∀ i∈I,ρ2 i.b=some (fb i,0):=fun i hi=>by
  obtain ⟨g1,_⟩:=hS.hI i hi
  rcases hI.box _ _ _ _ g1 with ⟨_,h,_⟩ | ⟨k2,o2,us,e,fr,q1,_⟩
  ·cases h
  ·have:=hI.off0 _ _ _ _ _ g1 q1
   subst this
   simp[fb,q1]
 have hroot:ρ2 0=some (k,0):=by
  obtain ⟨v0,cs0,e1,_,e3⟩:=hE.box 0 _ _ _ (by omega) hS.h0
  cases e1
  rw[(e3 rfl).1]
  exact O.at0'
 -- distinct boxes
 have hnod:=hS.nod
 have hne0:∀ j∈Oc I++Z.map (·.1),j≠0∧j≠1:=fun j hj=>by
  rw[List.nodup_cons,List.nodup_cons] at hnod
  exact ⟨fun e=>hnod.1 (by subst e; simp[hj]),fun e=>hnod.2.1 (by subst e; exact hj)⟩
 have hnodI:(Oc I++Z.map (·.1)).Nodup:=by rw[List.nodup_cons,List.nodup_cons] at hnod; exact hnod.2.2
 have hvis:∀ i∈I,i.b∈Oc I∧i.r∈Oc I:=fun i hi=>⟨List.mem_flatMap.2 ⟨i,hi,by simp⟩,List.mem_flatMap.2 ⟨i,hi,by simp⟩⟩
 have hown:∀ {b:Nat} {x:Box} {l:Nat×Nat} {j:Nat},B[b]? = some x→ρ2 b=some l→x.has l j→Own F' B ρ2 j:=fun a b c=> .inr ⟨_,_,_,a,b,c⟩
 -- what a told file has lies in its boxes
 have hT:∀ i∈I,∀ j,T i j→∃ q x l,(q=i.b∨q=i.r)∧B[q]? = some x∧ρ2 q=some l∧x.has l j:=fun i hi j hj=>by
  obtain ⟨b,x,l,h1,h2,h3⟩:=Ew.1 hj
  obtain ⟨g1,g2⟩:=hS.hI i hi
  match b,h1 with
  | 0,h1=>cases h1; exact ⟨i.b,_,l, .inl rfl,g1,h2,h3⟩
  | 1,h1=>cases h1; exact ⟨i.r,_,l, .inr rfl,g2,h2,h3⟩
  | b+2,h1=>simp at h1
 have hTF:∀ y∈LY,∀ j,y.2.2 j→F' j:=fun y hy j hj=>(O.far j).2 (.inr ⟨y,hy,hj⟩)
 -- the head, all files hidden
 obtain ⟨r1,r2,_⟩:=hI.reobj (cs':= []) (Φ':=AQ [] (L1.map CF)) hS.h1 (fun k0 o0 us hr hh hlen hv=>by
  obtain ⟨q1,es,clock,q2,q3,q4,q5⟩:=hh
  refine ⟨[],⟨q1,es,clock,q2,q3,rfl,?_⟩,rfl,fun i c u hc=>by simp at hc⟩
  have hus:us=I.map fun i=>G1 (fb i):=by
   apply List.ext_getElem?
   intro j
   rw[List.getElem?_map]
   cases hij:I[j]? with
   | none=>
    have:I.length≤j:=List.getElem?_eq_none_iff.1 hij
    rw[List.getElem?_eq_none (by rw[←hlen]; simpa using this)]; rfl
   | some i=>
    have hjl:=(List.getElem?_eq_some_iff.1 hij).1
    have hjl2:j<us.length:=by rw[←hlen]; simpa using hjl
    have:=hv j (.ptr i.b 0 0) us[j] (by rw[List.getElem?_map,hij]; rfl) (List.getElem?_eq_getElem hjl2)
    rw[List.getElem?_eq_getElem hjl2]
    have him:=List.mem_of_getElem? hij
    generalize us[j]=u at this
    cases this with
    | ptr _ _ _ a hp=>
     obtain ⟨k',o',h1,h2⟩:=(hp.2 _ _ _ (hS.hI i him).1).2 rfl
     rw[hfbI i him] at h1
     cases h1
     rw[h2]; rfl
  refine q5.trans ?_
  rw[hus]
  have:(I.map fun i=>Value.string i.x.name).zip (I.map fun i=>G1 (fb i))=LI.map CF:=by
   simp only[LI,List.map_map]
   rw[List.zip_map']
   rfl
  rw[this]
  simp[L1])
 have hB0:∀ (b:Nat) (x:Box),b≠1→((B.set 1 (.obj [] (AQ [] (L1.map CF))))[b]? = some x↔B[b]? = some x):=fun b x hb=>by
  rw[List.getElem?_set,if_neg (fun e=>hb e.symm)]
 have h1lt:1<B.length:=(List.getElem?_eq_some_iff.1 hS.h1).1
 obtain ⟨hH,hHo⟩:=r1.pick (B':= [DQ D1, .obj [] (AQ [] (L1.map CF))]) (f:=fun j=>j) (d:=fun _=>0) (fun j hj=>by simp at hj ⊢; omega) (fun i j _ _ h=>h) (fun j x hx=>by
  match j,hx with
  | 0,hx=>
   cases hx
   exact .inl ⟨false,0,_,_,rfl,(hB0 0 _ (by omega)).2 hS.h0,rfl,rfl⟩
  | 1,hx=>
   cases hx
   exact .inr ⟨[],[],_,rfl,by rw[List.getElem?_set_self h1lt],rfl,rfl⟩
  | j+2,hx=>simp at hx)
 have hHo':∀ j,Own noF [DQ D1, .obj [] (AQ [] (L1.map CF))] ρ2 j→∃ q x l,(q=0∨q=1)∧B[q]? = some x∧ρ2 q=some l∧x.has l j:=fun j hj=>by
  obtain ⟨b,x,l,h1,h2,h3⟩:=Ew.1 hj
  match b,h1 with
  | 0,h1=>cases h1; exact ⟨0,_,l, .inl rfl,hS.h0,h2,h3⟩
  | 1,h1=>cases h1; exact ⟨1,_,l, .inr rfl,hS.h1,h2,h3⟩
  | b+2,h1=>simp at h1
 have hpackI:∀ i∈I,packH (G0 i.x) (T i) (fb i) w':=fun i hi=>by
  obtain ⟨g1,g2⟩:=hS.hI i hi
  have hbr:i.b≠i.r:=fun e=>by rw[e,g2] at g1; cases g1
  obtain ⟨p1,_⟩:=hI.pick (B':=G0 i.x) (f:=ix i) (d:=fun q=>if q=0 then 0 else i.v) (fun j hj=>by
   simp only[List.length_cons,List.length_nil] at hj
   match j,hj with
   | 0,_=>exact (List.getElem?_eq_some_iff.1 g1).1
   | 1,_=>exact (List.getElem?_eq_some_iff.1 g2).1) (fun a b ha hb h=>by
   simp only[List.length_cons,List.length_nil] at ha hb
   match a,b,ha,hb with
   | 0,0,_,_=>rfl
   | 1,1,_,_=>rfl
   | 0,1,_,_=>exact absurd h hbr
   | 1,0,_,_=>exact absurd h.symm hbr) (fun j x hx=>by
   match j,hx with
   | 0,hx=>
    cases hx
    refine .inl ⟨false,0,_,_,rfl,g1,?_,rfl⟩
    simp[AV.rv.rvL,AV.rv,ix]
   | 1,hx=>
    cases hx
    refine .inl ⟨true,0,_,_,rfl,?_,(MJ _ _ _).symm,Ge _ _⟩
    show B[i.r]? = some (.cells true (0+i.v) _)
    rw[Nat.zero_add]; exact g2
   | j+2,hx=>simp at hx)
  exact ⟨_,p1.bare,hfbI i hi,fun j=>Iff.rfl⟩
 have hS1:∀ j,(Own noF [DQ D1, .obj [] (AQ [] (L1.map CF))] ρ2 j∨∃ x∈L1,x.2.2 j)→Own F' B ρ2 j:=fun j hj=>by
  rcases hj with h0 | ⟨x,hx,h0⟩
  ·obtain ⟨q,x,l,_,a,b,c⟩:=hHo' j h0
   exact hown a b c
  ·rcases List.mem_append.1 hx with hx | hx
   ·obtain ⟨i,hi,rfl⟩:=List.mem_map.1 hx
    obtain ⟨q,x,l,_,a,b,c⟩:=hT i hi j h0
    exact hown a b c
   ·exact .inl (hTF x hx j h0)
 have hlow:∀ j,(Own noF [DQ D1, .obj [] (AQ [] (L1.map CF))] ρ2 j∨∃ x∈L1,x.2.2 j)→j<w'.heap.size:=fun j hj=>hI.ownlt j (hS1 j hj)
 -- the rows
 let zf:Nat→Nat:=fun j=>((Z[j]?).map (·.1)).getD 0
 have hzf:∀ (j:Nat) z,Z[j]? = some z→zf j=z.1:=fun j z h=>by simp[zf,h]
 obtain ⟨hR,hRo⟩:=hI.pick (B':=By (zB Z)) (f:=zf) (d:=fun _=>0) (fun j hj=>by
   have hj':j<Z.length:=by simpa using hj
   rw[hzf j _ (List.getElem?_eq_getElem hj')]
   exact (List.getElem?_eq_some_iff.1 (hS.hZ _ (List.getElem_mem hj'))).1) (fun a b ha hb h=>by
   have ha':a<Z.length:=by simpa using ha
   have hb':b<Z.length:=by simpa using hb
   rw[hzf a _ (List.getElem?_eq_getElem ha'),hzf b _ (List.getElem?_eq_getElem hb')] at h
   exact Pc (List.nodup_append.1 hnodI).2.1 a b Z[a].1 (by rw[List.getElem?_map,List.getElem?_eq_getElem ha']; rfl) (by rw[List.getElem?_map,List.getElem?_eq_getElem hb',h]; rfl)) (fun j x hx=>by
   obtain ⟨q,hq,rfl⟩:=Fh hx
   rw[List.getElem?_map] at hq
   obtain ⟨z,hz,rfl⟩:=Option.map_eq_some_iff.1 hq
   refine .inl ⟨true,z.2.1,_,_,rfl,?_,(MJ _ _ _).symm,Ge _ _⟩
   show B[zf j]? = some (.cells true (z.2.1+0) _)
   rw[hzf j z hz]
   exact hS.hZ z (List.mem_of_getElem? hz))
 have hRb:=hR.bare
 have hrow:∀ j,Own noF (By (zB Z)) (fun j=>ρ2 (zf j)) j→∃ z x l,z∈Z∧B[z.1]? = some x∧ρ2 z.1=some l∧x.has l j:=fun j hj=>by
  obtain ⟨b,x,l,h1,h2,h3⟩:=Ew.1 hj
  obtain ⟨q,hq,rfl⟩:=Fh h1
  rw[List.getElem?_map] at hq
  obtain ⟨z,hz,rfl⟩:=Option.map_eq_some_iff.1 hq
  simp only[hzf b z hz] at h2
  exact ⟨z,_,l,List.mem_of_getElem? hz,hS.hZ z (List.mem_of_getElem? hz),h2,h3⟩
 -- the disk
 let S1:Nat→Prop:=fun j=>Own noF [DQ D1, .obj [] (AQ [] (L1.map CF))] ρ2 j∨∃ x∈L1,x.2.2 j
 have hbit:∀ j,(DK S1 w'.heap.size).testBit j=true↔S1 j:=fun j=>(Iz S1 _ j).trans ⟨fun h=>h.1,fun h=>⟨h,hlow j h⟩⟩
 have hD:DiskAt D1 (fun j=>(DK S1 w'.heap.size).testBit j=true) k w' L1 ρ2:=by
  refine ⟨?_,hH.bare,hroot,fun x hx=>?_,List.pairwise_append.2 ⟨?_,O.apart,fun x hx y hy j a b=>?_⟩,fun x hx j hj ho=>?_,hbit⟩
  ·have:L1.map (·.1)=I.map (·.x)++LY.map (·.1):=by simp[L1,LI,Function.comp_def]
   rw[this]; exact hfiles
  ·rcases List.mem_append.1 hx with hx | hx
   ·obtain ⟨i,hi,rfl⟩:=List.mem_map.1 hx
    exact hpackI i hi
   ·exact (O.packs x hx).frame (QI _) (fun j hj=>hE.far j (hTF x hx j hj) ((O.packs x hx).low j hj))
  ·rw[List.pairwise_map]
   have hnv:=(List.nodup_append.1 hnodI).1
   have hpw:I.Pairwise fun i i'=>∀ a∈ [i.b,i.r],∀ b∈ [i'.b,i'.r],a≠b:=(List.pairwise_flatMap.1 hnv).2
   refine List.Pairwise.imp_of_mem (fun {i i'} hi hi' h j a b=>?_) hpw
   obtain ⟨q,x,l,hq,a1,a2,a3⟩:=hT i hi j a
   obtain ⟨q',x',l',hq',b1,b2,b3⟩:=hT i' hi' j b
   exact h q (by rcases hq with rfl | rfl <;> simp) q' (by rcases hq' with rfl | rfl <;> simp) (hI.injx q q' _ _ _ _ j a1 b1 a2 b2 a3 b3)
  ·obtain ⟨i,hi,rfl⟩:=List.mem_map.1 hx
   obtain ⟨q,x,l,hq,a1,a2,a3⟩:=hT i hi j a
   exact hI.farx q _ _ j a1 a2 a3 (hTF y hy j b)
  ·obtain ⟨q',x',l',hq',b1,b2,b3⟩:=hHo' j ho
   rcases List.mem_append.1 hx with hx | hx
   ·obtain ⟨i,hi,rfl⟩:=List.mem_map.1 hx
    obtain ⟨q,x,l,hq,a1,a2,a3⟩:=hT i hi j hj
    have:=hI.injx q q' _ _ _ _ j a1 b1 a2 b2 a3 b3
    have hqm:q∈Oc I++Z.map (·.1):=List.mem_append_left _ (by rcases hq with rfl | rfl <;> simp[(hvis i hi)])
    have:=hne0 q hqm
    omega
   ·exact hI.farx q' _ _ j b1 b2 b3 (hTF x hx j hj)
 have hO:@Inv DC noF [.obj [] (AH D1)] (fun _=>some (k,DK S1 w'.heap.size)) w':=by
  letI:Glob:=DC
  refine @Inv.mk DC noF _ _ w' (fun b row v cs hb=>?_) (fun b row v cs hb=>?_) (fun b cs Φ hb=>?_) (fun b b' x x' l l' j h1 h2 _ _ _ _=>?_) (fun k hk=>hk.elim) (fun _ _ _ _ _ _ _ h=>h) (fun g hg=>absurd rfl hg) (fun b v cs k o hb=>?_)
  ·cases b <;> simp at hb
  ·cases b <;> simp at hb
  ·cases b with
   | zero=>cases hb; exact ⟨k,_,[],rfl,⟨rfl,L1,ρ2,hD⟩,rfl,fun i c u hc=>by simp at hc⟩
   | succ b=>simp at hb
  ·cases b with
   | zero=>cases b' with
    | zero=>rfl
    | succ b'=>simp at h2
   | succ b=>simp at h1
  ·cases b <;> simp at hb
 have hOo:∀ j,Own noF [.obj [] (AH D1)] (fun _=>some (k,DK S1 w'.heap.size)) j→S1 j:=fun j hj=>by
  obtain ⟨b,x,l,h1,h2,h3⟩:=Ew.1 hj
  cases b with
  | zero=>cases h1; cases h2; exact (hbit j).1 h3
  | succ b=>simp at h1
 have hdis:∀ j,Own noF [.obj [] (AH D1)] (fun _=>some (k,DK S1 w'.heap.size)) j→¬Own noF (By (zB Z)) (fun j=>ρ2 (zf j)) j:=fun j hj ho=>by
  obtain ⟨z,x,l,hz,a1,a2,a3⟩:=hrow j ho
  have hzm:z.1∈Z.map (·.1):=List.mem_map.2 ⟨z,hz,rfl⟩
  rcases hOo j hj with h0 | ⟨y,hy,h0⟩
  ·obtain ⟨q',x',l',hq',b1,b2,b3⟩:=hHo' j h0
   have:=hI.injx z.1 q' _ _ _ _ j a1 b1 a2 b2 a3 b3
   have:=hne0 z.1 (List.mem_append_right _ hzm)
   omega
  ·rcases List.mem_append.1 hy with hy | hy
   ·obtain ⟨i,hi,rfl⟩:=List.mem_map.1 hy
    obtain ⟨q,x',l',hq,b1,b2,b3⟩:=hT i hi j h0
    have e:=hI.injx z.1 q _ _ _ _ j a1 b1 a2 b2 a3 b3
    refine (List.nodup_append.1 hnodI).2.2 q (by rcases hq with rfl | rfl <;> simp[(hvis i hi)]) z.1 hzm e.symm
   ·exact hI.farx z.1 _ _ j a1 a2 a3 (hTF y hy j h0)
 have hj:=Inv.join hO hRb (fun y hy=>by
   rcases List.mem_cons.1 hy with rfl | hy
   ·exact ⟨rfl,rfl⟩
   ·cases hy) (MI _ _) hdis
 have hoj:=fun j=>QH (B1:= [.obj [] (AH D1)]) (B2:=By (zB Z)) (ρ1:=fun _=>some (k,DK S1 w'.heap.size)) (ρ2:=fun j=>ρ2 (zf j)) (f:=fun j=> [Box.obj [] (AH D1)].length+j) (d:=fun _=>0) j
 rw[MK] at hj
 simp only[MK] at hoj
 have hsub:∀ j,Own noF ([.obj [] (AH D1)]++By (zB Z)) (jn 1 (fun _=>some (k,DK S1 w'.heap.size)) fun j=>ρ2 (zf j)) j→∃ P:Prop,P∧Own F' B ρ2 j∧¬F j:=fun j hj=>by
  rcases (hoj j).1 hj with h0 | h0
  ·refine ⟨True,trivial,hS1 j (hOo j h0),fun hF=>?_⟩
   rcases hOo j h0 with h1 | ⟨y,hy,h1⟩
   ·obtain ⟨q',x',l',hq',b1,b2,b3⟩:=hHo' j h1
    exact hI.farx q' _ _ j b1 b2 b3 ((O.far j).2 (.inl hF))
   ·rcases List.mem_append.1 hy with hy | hy
    ·obtain ⟨i,hi,rfl⟩:=List.mem_map.1 hy
     obtain ⟨q,x',l',hq,b1,b2,b3⟩:=hT i hi j h1
     exact hI.farx q _ _ j b1 b2 b3 ((O.far j).2 (.inl hF))
    ·exact O.farF y hy j h1 hF
  ·obtain ⟨z,x,l,hz,a1,a2,a3⟩:=hrow j h0
   exact ⟨True,trivial,hown a1 a2 a3,fun hF=>hI.farx z.1 _ _ j a1 a2 a3 ((O.far j).2 (.inl hF))⟩
 have hsubF:∀ j,Own F ([.obj [] (AH D1)]++By (zB Z)) (jn 1 (fun _=>some (k,DK S1 w'.heap.size)) fun j=>ρ2 (zf j)) j→Own F' B ρ2 j:=fun j hj=>by
  rcases hj with h0 | h0
  ·exact .inl ((O.far j).2 (.inl h0))
  ·obtain ⟨_,_,h,_⟩:=hsub j (.inr h0)
   exact h
 have hInv:Inv F ([.obj [] (AH D1)]++By (zB Z)) (jn 1 (fun _=>some (k,DK S1 w'.heap.size)) fun j=>ρ2 (zf j)) w':=by
  refine Inv.raise hj (fun y hy=>?_) (fun j hF ho=>?_) (fun j hF=>hI.bound j ((O.far j).2 (.inl hF))) (fun g hg=>?_)
  ·rcases List.mem_append.1 hy with hy | hy
   ·rcases List.mem_cons.1 hy with rfl | hy
    ·exact ⟨rfl,rfl⟩
    ·cases hy
   ·exact MI _ _ y hy
  ·obtain ⟨_,_,_,h⟩:=hsub j ho
   exact h hF
  ·refine ⟨?_,(hI.glob g hg).sz⟩
   cases (hI.glob g hg).v with
   | rp cs a us h1 h2 h3 h4 h5 h6=>
    exact .rp _ _ us h1 (fun h=>h2 (hsubF _ h)) h3 h4 h5 (fun j p u hp hu=>(h6 j p u hp hu).mono (fun k _ ho=>⟨rfl,fun h=>ho (hsubF _ h)⟩) (Nat.le_refl _))
 refine ⟨_,hInv,⟨hE.size,hE.os,hE.tape,hE.output,fun j hj ho=>?_,hE.shape,?_,fun b row v cs hb hc=>?_,fun b cs Φ hb hc=>?_,fun j hF hj=>hE.far j ((O.far j).2 (.inl hF)) hj⟩,fun y u hv hp hlw=>?_⟩
 ·obtain ⟨g1,g2⟩:=hE.keep j hj (fun h=>ho ((O.own j).1 h))
  exact ⟨g1,fun h=>g2 (hsubF j h)⟩
 ·have:Bx.length≤Z.length:=by
   rcases Nat.lt_or_ge Z.length Bx.length with h | h
   ·have:=hS.hX Z.length h
    simp at this
   ·exact h
  simp; omega
 ·cases b with
  | zero=>cases hc
  | succ b=>
   have hb':b<Bx.length:=by simpa using hb
   rw[List.getElem?_cons_succ] at hc
   obtain ⟨q,hq,e⟩:=Fh hc
   cases e
   rw[List.getElem?_map] at hq
   obtain ⟨z,hz,rfl⟩:=Option.map_eq_some_iff.1 hq
   have hz1:z.1=2+2*X.length+b:=by
    have:=hS.hX b hb'
    rw[hz] at this
    simpa using this
   have hBz:=hS.hZ z (List.mem_of_getElem? hz)
   rw[hz1] at hBz
   obtain ⟨v0,cs0,e1,e2,e3⟩:=hE.box _ _ _ _ (by omega) hBz
   rw[List.getElem?_append_right (by omega),hl,show 2+2*X.length+b - (2+2*X.length)=b by omega] at e1
   refine ⟨v0,cs0,by rw[List.getElem?_cons_succ]; exact e1,e2,fun e=>?_⟩
   obtain ⟨e4,e5⟩:=e3 e
   refine ⟨?_,e5⟩
   show (if b+1<1 then _ else ρ2 (zf (b+1 - 1)))=_
   rw[if_neg (by omega),Nat.add_sub_cancel,hzf b z hz,hz1,e4,O.rest b hb',Nat.add_comm]
 ·cases b with
  | zero=>
   cases hc
   refine ⟨[],AH D,rfl,?_⟩
   rw[O.at0]; rfl
  | succ b=>
   rw[List.getElem?_cons_succ] at hc
   obtain ⟨q,hq,e⟩:=Fh hc
   cases e
 ·-- what is answered
  have h1:VRel F' (By (zB Z)) (fun j=>ρ2 (zf j)) w' y u:=by
   refine hv.rv (fun j row v cs hj=>?_) (fun j cs Φ hj=>?_) (fun k hk=>hRo k hk) rfl (by simpa using hlw)
   ·obtain ⟨q,hq,e⟩:=Fh hj
    cases e
    rw[List.getElem?_map] at hq
    obtain ⟨z,hz,rfl⟩:=Option.map_eq_some_iff.1 hq
    refine ⟨_,?_,rfl⟩
    show B[zf j]? = _
    rw[hzf j z hz]
    exact hS.hZ z (List.mem_of_getElem? hz)
   ·obtain ⟨q,hq,e⟩:=Fh hj
    cases e
  have hp1:(∃ p,y= .p p)∨y.pl=true:=by
   cases y <;> first | exact .inl ⟨_,rfl⟩ | exact .inr hp
  rcases hp1 with ⟨p,rfl⟩ | hp
  ·cases hv with
   | p _ _ hq=>exact .p _ _ (hq.mono (fun k _ ho=>⟨rfl,fun h=>ho (hsubF k h)⟩) (Nat.le_refl _))
  refine h1.fwdP (fun j hj=>by simp at hj ⊢; omega) (fun j hj=>?_) (fun j row v cs hj hc=>?_) (fun j cs Φ hj hc=>?_) hp (by simpa using hlw)
  ·show (if 1+j<1 then _ else ρ2 (zf (1+j - 1)))=_
   rw[if_neg (by omega),show 1+j - 1=j by omega]
  ·rw[show 1+j=j+1 by omega,List.getElem?_cons_succ] at hc
   exact ⟨v,cs,hc,rfl,rfl⟩
  ·rw[show 1+j=j+1 by omega,List.getElem?_cons_succ] at hc
   exact ⟨cs,Φ,hc⟩

end Go.Ax
namespace Go.Ax
open Go.RowKit
set_option maxRecDepth 100000

section
variable [Glob]
abbrev ML (P:Program) (t:TypeId) (B:List Box) (x k v:AV):Prop:=(JS P t B x k true).map (fun v=>(v,B))=some (v,B)
abbrev iG (P:Program) (t:TypeId) (B:List Box) (x k v:AV) (B':List Box):Prop:=(Fu P t B x k v).map (fun B'=>(AV.u,B'))=some (AV.u,B')
end
def G2 (c:UInt8):Bool:=(decide (97≤c.toNat)&&decide (c.toNat≤122))||(decide (48≤c.toNat)&&decide (c.toNat≤57))||c.toNat == 46
def CA (nm:ByteArray):Bool:=nm.data.toList.all G2&&decide (0<nm.size)&&decide (nm.size≤40)

def Da (fu:Int):Bool:=decide (fu>0)&&(fu - 1 == 0)
def De (fu:Int):Int:=if fu>0 then fu - 1 else fu
def EA (fu:Int):Int:=if Da fu then 10 else 0

def om:List AV→AV→Prop:=fun args r=>∃ nm:ByteArray,nm.size≤1000000000∧args= [vs nm]∧r=vb (CA nm)
noncomputable def Jl:=B4 om
theorem dx (nm:ByteArray) (hN:nm.size≤1000000000):Jl [vs nm]=some (vb (CA nm)):=by
 letI:Glob:=DC
 exact BT (fun args r r' ⟨a,_,h1,h2⟩ ⟨b,_,h3,h4⟩=>by
  rw[h1] at h3
  simp at h3
  rw[h2,h4,h3]) ⟨nm,hN,rfl,rfl⟩

section
variable [Glob] {P : Program}

theorem Jm {n:Nat} {f d:Nat→Nat} (hf:∀ j,j<n→f j=j) (hd:∀ j,j<n→d j=0):∀ {x:AV},x.low n=true→x.rv f d=x:=by
 intro x
 induction x using AV.rec (motive_2:=fun cs=>AV.low.allLow n cs=true→AV.rv.rvL f d cs=cs) with
 | u=>intro _; rfl
 | mp b=>
  intro h
  have:b<n:=by simpa [AV.low,Nat.blt_eq] using h
  simp[AV.rv,hf b this]
 | op b=>
  intro h
  have:b<n:=by simpa [AV.low,Nat.blt_eq] using h
  simp[AV.rv,hf b this]
 | p x=>intro _; rfl
 | ptr b v o=>
  intro h
  have:b<n:=by simpa [AV.low,Nat.blt_eq] using h
  simp[AV.rv,hf b this,hd b this]
 | rs b v z o l=>
  intro h
  have:b<n:=by simpa [AV.low,Nat.blt_eq] using h
  simp[AV.rv,hf b this,hd b this]
 | rp cs=>intro _; rfl
 | agg cs ih=>intro h; simp[AV.rv,ih (by simpa [AV.low] using h)]
 | fn g cs ih=>intro h; simp[AV.rv,ih (by simpa [AV.low] using h)]
 | tup cs ih=>intro h; simp[AV.rv,ih (by simpa [AV.low] using h)]
 | nil=>rfl
 | cons c cs h1 h2=>
  rename_i h
  simp only[AV.low.allLow,Bool.and_eq_true] at h
  simp[AV.rv.rvL,h1 h.1,h2 h.2]

def NQ (n:Nat) (B:List Box):Prop:=∀ x∈B,AV.low.allLow n x.cs=true

theorem SU {n:Nat} {f d:Nat→Nat} (hf:∀ j,j<n→f j=j) (hd:∀ j,j<n→d j=0) {cs:List AV} (h:AV.low.allLow n cs=true):AV.rv.rvL f d cs=cs:=by
 rw[Cz]
 refine (List.map_congr_left fun x hx=>?_).trans (List.map_id cs)
 obtain ⟨j,hj⟩:=List.getElem?_of_mem hx
 exact Jm hf hd (Bw h j x hj)

theorem Kx {n:Nat} {f d:Nat→Nat} (hf:∀ j,j<n→f j=j) (hd:∀ j,d j=0):∀ {B:List Box} {k:Nat},NQ n B→BoxesRen f d n k B B
 | [],_,_=>trivial
 | x::B,k,h=>by
  refine ⟨?_,Kx hf hd (fun y hy=>h y (by simp[hy]))⟩
  have hx:=h x (by simp)
  cases x with
  | dead=>exact .dead
  | cells row v cs=>exact .cells (by rw[hd]; rfl) (SU hf (fun j _=>hd j) hx).symm hx
  | obj cs Φ=>exact .objs (SU hf (fun j _=>hd j) hx).symm hx

theorem Q4:∀ (Bs B:List Box) (k:Nat) (pre:List Box),pre.length=k→Bs.length≤B.length→Bh (pre++B) (List.range' k Bs.length) Bs=pre++(Bs++B.drop Bs.length)
 | [],B,k,pre,_,_=>by simp[Bh]
 | x::Bs,[],k,pre,_,h=>by simp at h
 | x::Bs,y::B,k,pre,hk,h=>by
  rw[List.length_cons,List.range'_succ,Bh]
  have:(pre++y::B).set k x=(pre++ [x])++B:=by
   rw[List.set_append_right _ _ (by omega),hk,Nat.sub_self]; simp
  rw[this,Q4 Bs B (k+1) (pre++ [x]) (by simp[hk]) (by simpa using h)]
  simp

theorem EQ {R:Ae} {args:List AV} {B0 B0':List Box} {r:AV} (hR:R args B0 r B0') (hlen:B0'.length=B0.length) (ha:AV.low.allLow B0.length args=true) (hB:NQ B0.length B0) (hB':NQ B0.length B0') (hr:r.low B0.length=true) (Bx:List Box):
  AX R args (B0++Bx) r (B0'++Bx):=by
 have hfn:∀ j,j<B0.length→Bc (List.range B0.length) (B0++Bx).length j=j:=fun j hj=>by simp[Bc,List.getElem?_range hj]
 have hdn:∀ j,BM (List.replicate B0.length 0) j=0:=fun j=>by
  unfold BM
  rw[List.getElem?_replicate]
  split <;> rfl
 refine ⟨args,B0,r,B0',hR,⟨List.range B0.length,List.replicate B0.length 0,B0,B0',[],?_,?_,(SU hfn (fun j _=>hdn j) ha).symm,ha,Kx hfn hdn hB,?_,?_,(Jm hfn (fun j _=>hdn j) hr).symm,by rw[hlen]; exact hr⟩⟩
 ·simp only[Bool.and_eq_true,List.all_eq_true,List.mem_range,Nat.blt_eq,List.length_append,List.length_range,List.length_replicate,hlen]
  refine ⟨⟨⟨⟨?_,fun j hj=>by omega⟩,Nat.beq_refl _⟩,Nat.beq_refl _⟩,Nat.beq_refl _⟩
  have:∀ (n k:Nat),DO (List.range' k n)=true:=by
   intro n
   induction n with
   | zero=>intro k; rfl
   | succ n ih=>
    intro k
    rw[List.range'_succ,DO,ih (k+1),Bool.and_true,Bool.not_eq_true',List.any_eq_false]
    intro x hx
    rw[List.mem_range'_1] at hx
    intro e
    have:=Nat.eq_of_beq_eq_true e
    omega
  rw[List.range_eq_range']
  exact this _ _
 ·refine List.ext_getElem? fun j=>?_
  rw[List.getElem?_map,List.getElem?_map]
  rcases Nat.lt_or_ge j B0.length with h | h
  ·rw[List.getElem?_range h,List.getElem?_eq_getElem h]
   simp[List.getElem?_append_left h,h]
  ·rw[List.getElem?_eq_none (by simpa using h),List.getElem?_eq_none h]; rfl
 ·rw[List.append_nil,hlen]
  exact Kx hfn hdn hB'
 ·have:=Q4 B0' (B0++Bx) 0 [] rfl (by simp; omega)
  rw[List.nil_append,hlen,←List.range_eq_range'] at this
  rw[this,List.append_nil,←hlen]
  simp[hlen]

end

abbrev DD (ns:List ByteArray):List Value:=ns.map .string

theorem QJ (a b:ByteArray):F6 .string (.string a) (.string b)=true↔b=a:=(@Jf DC .string (.string a) (.string b) rfl rfl).trans (by simp)

theorem NR {P:Program} {t kt et:TypeId} (hu:P.underlying t=some (.map kt et)) (hk:P.underlying kt=some .string) {B:List Box} {b:Nat} {cs:List AV} {ns:List ByteArray} {hid:List (Value×Value)} {hs:List ByteArray} (hb:B[b]? = some (.obj cs (AQ (DD ns) hid))) (hh:hid.map (·.1)=DD hs) (nm:ByteArray):
  KB P t B (.mp b) (vs nm)=some ⟨b,DD ns,hid,cs, .string nm,(DD ns).findIdx? (F6 .string (.string nm)),hid.findIdx? fun h=>F6 .string (.string nm) h.1⟩:=by
 unfold KB
 rw[hu]
 simp only[hk,hb]
 show (if _ then _ else _)=_
 rw[if_pos]
 simp only[HQ,Bool.true_and,Bool.and_eq_true,List.all_eq_true]
 refine ⟨fun x hx=>?_,fun x hx=>?_⟩
 ·obtain ⟨a,_,rfl⟩:=List.mem_map.1 hx; rfl
 ·have:x.1∈DD hs:=by rw[←hh]; exact List.mem_map.2 ⟨x,hx,rfl⟩
  obtain ⟨a,_,e⟩:=List.mem_map.1 this
  rw[←e]

theorem Vn {hid:List (Value×Value)} {hs:List ByteArray} (hh:hid.map (·.1)=DD hs) {nm:ByteArray} (h:nm ∉ hs):hid.findIdx? (fun h=>F6 .string (.string nm) h.1)=none:=by
 rw[List.findIdx?_eq_none_iff]
 intro x hx
 have:x.1∈DD hs:=by rw[←hh]; exact List.mem_map.2 ⟨x,hx,rfl⟩
 obtain ⟨a,ha,e⟩:=List.mem_map.1 this
 rw[←e]
 cases hq:F6 .string (.string nm) (.string a) with
 | false=>rfl
 | true=>exact absurd ((QJ nm a).1 hq▸ha) h

theorem dy (nm:ByteArray) (r:List Value):(Value.string nm::r).findIdx? (F6 .string (.string nm))=some 0:=by
 rw[List.findIdx?_cons,(QJ nm nm).2 rfl]; rfl
theorem mB {a b:ByteArray} (h:b≠a):F6 .string (.string a) (.string b)=false:=by
 cases hq:F6 .string (.string a) (.string b) with
 | false=>rfl
 | true=>exact absurd ((QJ a b).1 hq) h

section
variable [Glob] {P : Program}

def aa (n:Nat):AV→Bool
 | .p _=>true
 | .rs b _ _ _ _=>Nat.blt b n
 | _=>false

def MM (R:Ae):Ae:=fun args B r B'=>∃ (D D1:Dsk) (X Y:List Fil) (Bx:List (Nat×List UInt8)) (I:List Vis) (Z:List (Nat×Nat×List UInt8)) (al:List AV) (y:AV),
 D.files.Perm (X++Y)∧al.all (aa Bx.length)=true∧args= .op 0::al.map (AV.rv (fun j=>1+j) fun _=>0)∧B= .obj [] (AH D)::By Bx ∧
 (∀ hid:List (Value×Value),hid.map (·.1)=Ek Y→∃ Bf,R (.ptr 0 0 0::al.map (AV.rv (fun j=>2+2*X.length+j) fun _=>0)) (BA D X hid++By Bx) (y.rv (fun j=>((Z[j]?).map (·.1)).getD 0) fun _=>0) Bf∧Shut (2+2*X.length) Bx hid D1 I Z Bf) ∧
 (I.map (·.x)++Y).Perm D1.files∧y.pl2=true∧y.low Z.length=true∧r=y.rv (fun j=>1+j) (fun _=>0)∧B'= .obj [] (AH D1)::By (zB Z)

theorem dz {f:Nat} {R:Ae} (hs:SoundR P f R):SoundR P f (MM R):=by
 rintro args B r B' ⟨D,D1,X,Y,Bx,I,Z,al,y,hXY,has,rfl,rfl,hR,hf,hp,hlw,rfl,rfl⟩ F ρ w us hI hA
 obtain ⟨k,o,LY,F',ρ',hY,O⟩:=du hI hXY
 obtain ⟨Bf,hRr,hS⟩:=hR (LY.map CF) (by rw[List.map_map,←hY,Ek,List.map_map]; rfl)
 have hl:=C1 D X (LY.map CF)
 have hA':ArgsRel F' (BA D X (LY.map CF)++By Bx) ρ' w (.ptr 0 0 0::al.map (AV.rv (fun j=>2+2*X.length+j) fun _=>0)) us:=by
  refine ⟨by have:=hA.1; simpa using this,fun j p u hpj hu=>?_⟩
  cases j with
  | zero=>
   cases hpj
   have:=hA.2 0 _ u rfl hu
   cases this with
   | op _ r0 hp0=>
    obtain ⟨o2,e2⟩:=hp0.2 _ _ rfl
    rw[O.at0] at e2
    cases e2
    refine .ptr _ _ _ _ ⟨by rw[List.length_append,hl]; omega,fun row v cs hb=>?_⟩
    rw[List.cons_append,List.getElem?_cons_zero] at hb
    cases hb
    exact ⟨Nat.le_refl _,fun _=>⟨_,0,O.at0',rfl⟩⟩
  | succ j=>
   rw[List.getElem?_cons_succ,List.getElem?_map] at hpj
   obtain ⟨a,ha,rfl⟩:=Option.map_eq_some_iff.1 hpj
   have:=hA.2 (j+1) (a.rv (fun j=>1+j) fun _=>0) u (by rw[List.getElem?_cons_succ,List.getElem?_map,ha]; rfl) hu
   have hok:=List.all_eq_true.1 has a (List.mem_of_getElem? ha)
   cases a with
   | p x=>
    cases this with
    | p _ _ hp0=>exact .p _ _ (hp0.mono (fun k _ ho=>⟨rfl,fun h=>ho ((O.own k).1 h)⟩) (Nat.le_refl _))
   | rs b v z off len=>
    have hb:b<Bx.length:=by simpa [aa,Nat.blt_eq] using hok
    cases this with
    | rs _ _ _ _ _ a cap hp0=>
     refine .rs _ _ _ _ _ a cap ⟨by show 2+2*X.length+b<_; rw[List.length_append,hl]; simp; omega,hp0.2.1,hp0.2.2.1,fun row v' cs hb'=>?_⟩
     change (BA D X (LY.map CF)++By Bx)[2+2*X.length+b]? = _ at hb'
     rw[List.getElem?_append_right (by omega),hl,show 2+2*X.length+b - (2+2*X.length)=b by omega] at hb'
     obtain ⟨q1,q2⟩:=hp0.2.2.2 row v' cs (by show (Box.obj [] (AH D)::By Bx)[1+b]? = _; rw[show 1+b=b+1 by omega,List.getElem?_cons_succ]; exact hb')
     refine ⟨q1,fun e=>?_⟩
     show _∧(_∨∃ k o',ρ' (2+2*X.length+b)=_∧_)
     rw[O.rest b hb]
     exact q2 e
   | _=>cases hok
 refine (hs _ _ _ _ hRr F' ρ' w us O.inv hA').mono fun e w' hp0=>?_
 obtain ⟨x,ρ2,rfl,hI2,hE2,hv⟩:=hp0
 obtain ⟨ρ3,g1,g2,g3⟩:=dw O hI2 hE2 hS (by rw[hY]; exact hf)
 exact ⟨x,ρ3,rfl,g1,g2,g3 y x hv hp hlw⟩

end


abbrev oo:AV:= .p (.v (.pointer none))
abbrev G3 (ro us fu:Int) (dn:Bool):Dsk:=⟨ro,us,[],dn,fu⟩

inductive RFind:Ae
 | d (ro us fu:Int) (hid:List (Value×Value)) (nm:ByteArray):RFind [.ptr 0 0 0,vs nm] (BA (G3 ro us fu true) [] hid) (.tup [oo,vi 10]) (BA (G3 ro us fu true) [] hid)
 | a (ro us fu:Int) (hid:List (Value×Value)) (hs:List ByteArray) (nm:ByteArray):hid.map (·.1)=DD hs→nm ∉ hs→RFind [.ptr 0 0 0,vs nm] (BA (G3 ro us fu false) [] hid) (.tup [oo,vi 4]) (BA (G3 ro us fu false) [] hid)
 | p (ro us fu:Int) (hid:List (Value×Value)) (hs:List ByteArray) (x:Fil):hid.map (·.1)=DD hs→RFind [.ptr 0 0 0,vs x.name] (BA (G3 ro us fu false) [x] hid) (.tup [.ptr 2 0 0,vi 0]) (BA (G3 ro us fu false) [x] hid)
 | q (ro us fu:Int) (hid:List (Value×Value)) (hs:List ByteArray) (x y:Fil):hid.map (·.1)=DD hs→RFind [.ptr 0 0 0,vs x.name] (BA (G3 ro us fu false) [x,y] hid) (.tup [.ptr 2 0 0,vi 0]) (BA (G3 ro us fu false) [x,y] hid)

inductive RStep:Ae
 | mk (ro us fu:Int) (hid:List (Value×Value)) (X:List Fil):X.length≤2→fu<9223372036854775808→RStep [.ptr 0 0 0] (BA (G3 ro us fu false) X hid) (vi (EA fu)) (BA (G3 ro us (De fu) (Da fu)) X hid)

section
variable [Glob] {P : Program} {t kt et : TypeId}

theorem ZI (hu:P.underlying t=some (.map kt et)) (hk:P.underlying kt=some .string) {B:List Box} {c:AV} {cs:List AV} {nm:ByteArray} {ns hs:List ByteArray} {hid:List (Value×Value)} (hb:B[1]? = some (.obj (c::cs) (AQ (DD (nm::ns)) hid))) (hh:hid.map (·.1)=DD hs):ML P t B (.mp 1) (vs nm) (.tup [c,vb true]):=by
 unfold ML JS
 rw[NR hu hk hb hh nm]
 simp only[Option.bind_some,hu]
 rw[show (DD (nm::ns)).findIdx? (F6 .string (.string nm))=some 0 from dy nm _]
 rfl

theorem Ti (hu:P.underlying t=some (.map kt et)) (hk:P.underlying kt=some .string) {ns:List ByteArray} {nm:ByteArray} (h:nm ∉ ns):(DD ns).findIdx? (F6 .string (.string nm))=none:=by
 rw[List.findIdx?_eq_none_iff]
 intro x hx
 obtain ⟨a,ha,rfl⟩:=List.mem_map.1 hx
 exact mB (fun e=>h (e▸ha))

theorem mC (hu:P.underlying t=some (.map kt et)) (hk:P.underlying kt=some .string) {z:AV} (hz:Qp P et=some z) {B:List Box} {cs:List AV} {nm:ByteArray} {ns hs:List ByteArray} {hid:List (Value×Value)} (hb:B[1]? = some (.obj cs (AQ (DD ns) hid))) (hh:hid.map (·.1)=DD hs) (h1:nm ∉ ns) (h2:nm ∉ hs):ML P t B (.mp 1) (vs nm) (.tup [z,vb false]):=by
 unfold ML JS
 rw[NR hu hk hb hh nm]
 simp only[Option.bind_some,hu]
 rw[Ti hu hk h1,Vn hh h2]
 simp only[hz]
 rfl

theorem oq (hu:P.underlying t=some (.map kt et)) (hk:P.underlying kt=some .string) {B:List Box} {cs:List AV} {v:AV} {nm:ByteArray} {ns hs:List ByteArray} {hid:List (Value×Value)} (hb:B[1]? = some (.obj cs (AQ (DD ns) hid))) (hh:hid.map (·.1)=DD hs) (h1:nm ∉ ns) (h2:nm ∉ hs):
  iG P t B (.mp 1) (vs nm) v (B.set 1 (.obj (cs++ [v]) (AQ (DD ns++ [.string nm]) hid))):=by
 unfold iG Fu
 rw[NR hu hk hb hh nm]
 rw[Ti hu hk h1,Vn hh h2]
 rfl

end

end Go.Ax
namespace Go.Ax
open Go.Proofs Go.RowKit
set_option maxRecDepth 100000

def CD:List PV:= [.v (.int .u32 0), .v (.int .u32 274646895), .v (.int .u32 549293790), .v (.int .u32 820201905), .v (.int .u32 1098587580), .v (.int .u32 1361435347), .v (.int .u32 1640403810), .v (.int .u32 1905808397), .v (.int .u32 2197175160), .v (.int .u32 2460548119), .v (.int .u32 2722870694), .v (.int .u32 2987750089), .v (.int .u32 3280807620), .v (.int .u32 3553878443), .v (.int .u32 3811616794), .v (.int .u32 4084100981)]
def iH:Nat→List PV
 | 1=>CD
 | _=> []
instance:Glob:=⟨⟨iH⟩⟩
noncomputable abbrev DP:Program:=Tryd.prog
theorem AZ:DP.follows .mixedOrders=true:=by kernel_rfl

def Δ0:CB:=fun _ _ _ _ _=>False
theorem Bq {P:Program}:∀ f,SoundR P f (Δ0 f):=fun f=> .none f
def Γ0:BF:=fun _=> .none
theorem Γ0_ok {P:Program}:∀ f,SoundF P f (Γ0 f):=fun f=>MA f

end Go.Ax
namespace Go.Ax
end Go.Ax
namespace Go.Ax
open Go.RowKit
set_option maxRecDepth 100000

def Dsk.get (D:Dsk) (nm:ByteArray):Option Fil:=D.files.find? fun x=>decide (x.name=nm)
def Dsk.stepped (D:Dsk):Dsk:={D with down:=Da D.fuse,fuse:=De D.fuse}
def Ky (fs:List Fil) (nm:ByteArray):List Fil:=fs.filter fun y=>decide (y.name≠nm)
def FY (fs:List Fil) (x:Fil):List Fil:=fs.map fun y=>if y.name=x.name then x else y
def HW (x:Fil):List Fil→List Fil
 | []=> [x]
 | y::r=>if Op.bytesLess x.name.toList y.name.toList then x::y::r else y::HW x r

def Ay (D:Dsk) (nm:ByteArray):Dsk×Int:=
 if !CA nm then (D,1) else if D.down then (D,10) else
 match D.get nm with
 | some _=>(D,5)
 | none=>if EA D.fuse≠0 then (D.stepped,EA D.fuse) else ({D.stepped with files:=HW ⟨nm,[],0⟩ D.files},0)
def BI (D:Dsk) (nm:ByteArray) (bs:List UInt8):Dsk×Int:=
 if D.down then (D,10) else
 match D.get nm with
 | none=>(D,4)
 | some x=>if (bs.length:Int)>D.room - D.used then (D,11) else if EA D.fuse≠0 then (D.stepped,EA D.fuse) else ({D.stepped with files:=FY D.files {x with b:=x.b++bs},used:=D.used+bs.length},0)
def Cn (D:Dsk) (nm:ByteArray):Dsk×Int:=
 if D.down then (D,10) else
 match D.get nm with
 | none=>(D,4)
 | some x=>if EA D.fuse≠0 then (D.stepped,EA D.fuse) else ({D.stepped with files:=FY D.files {x with sure:=x.b.length}},0)
def BY (D:Dsk) (nm:ByteArray):Int×Int:=
 if D.down then (0,10) else
 match D.get nm with
 | none=>(0,4)
 | some x=>(x.b.length,0)
def Bk (D:Dsk) (nm:ByteArray) (at_ n:Int):List UInt8×Int:=
 if D.down then ([],10) else
 match D.get nm with
 | none=>([],4)
 | some x=>if at_<0∨at_>x.b.length∨n<0 then ([],1) else ((x.b.drop at_.toNat).take (min n (x.b.length - at_)).toNat,0)
def newD (n:Int):Dsk:=⟨if 0<(if 67108864<n then 67108864 else n) then (if 67108864<n then 67108864 else n) else 0,0,[],false,0⟩

structure Dsk.Ok (D:Dsk):Prop where
 nod:(D.files.map (·.name)).Nodup
 room:0≤D.room∧D.room≤67108864
 used:D.used=((D.files.map fun x=>(x.b.length:Int)).sum)
 le:D.used≤D.room
 fuse:0≤D.fuse∧D.fuse<9223372036854775808
 sure:∀ x∈D.files,0≤x.sure∧x.sure≤x.b.length
 nam:∀ x∈D.files,x.name.size≤40
 srt:D.files.Pairwise fun x y=>x.name.data.toList<y.name.data.toList

theorem EY {D:Dsk} {nm:ByteArray} {x:Fil} (h:D.get nm=some x):x∈D.files∧x.name=nm:=by
 have h1:=List.mem_of_find?_eq_some h
 have h2:=List.find?_some h
 exact ⟨h1,of_decide_eq_true h2⟩
theorem GX {D:Dsk} {nm:ByteArray} (h:D.get nm=none):nm ∉ D.files.map (·.name):=by
 intro hm
 obtain ⟨x,hx,e⟩:=List.mem_map.1 hm
 have:=List.find?_eq_none.1 h x hx
 exact this (by simp[e])

theorem Dv {fs:List Fil} (hn:(fs.map (·.name)).Nodup) {x:Fil} (hx:x∈fs):fs.Perm (x::Ky fs x.name):=by
 induction fs with
 | nil=>cases hx
 | cons y fs ih=>
  rw[List.map_cons,List.nodup_cons] at hn
  unfold Ky at ih ⊢
  rcases List.mem_cons.1 hx with rfl | hx
  ·rw[List.filter_cons_of_neg (by simp)]
   have:fs.filter (fun y=>decide (y.name≠x.name))=fs:=List.filter_eq_self.2 fun z hz=>by
    refine decide_eq_true fun e=>hn.1 (by rw[←e]; exact List.mem_map.2 ⟨z,hz,rfl⟩)
   rw[this]
  ·have hne:y.name≠x.name:=fun e=>hn.1 (by rw[e]; exact List.mem_map.2 ⟨x,hx,rfl⟩)
   rw[List.filter_cons_of_pos (by simpa using hne)]
   exact ((ih hn.2 hx).cons y).trans (List.Perm.swap _ _ _)

theorem NS {fs:List Fil} (hn:(fs.map (·.name)).Nodup) {x x':Fil} (hx:x∈fs) (he:x'.name=x.name):(x'::Ky fs x.name).Perm (FY fs x'):=by
 induction fs with
 | nil=>cases hx
 | cons y fs ih=>
  rw[List.map_cons,List.nodup_cons] at hn
  unfold Ky FY at ih ⊢
  rcases List.mem_cons.1 hx with rfl | hx
  ·rw[List.filter_cons_of_neg (by simp),List.map_cons,if_pos he.symm]
   have h1:fs.filter (fun y=>decide (y.name≠x.name))=fs:=List.filter_eq_self.2 fun z hz=>by
    refine decide_eq_true fun e=>hn.1 (by rw[←e]; exact List.mem_map.2 ⟨z,hz,rfl⟩)
   have h2:fs.map (fun y=>if y.name=x'.name then x' else y)=fs:=by
    refine (List.map_congr_left fun z hz=>?_).trans (List.map_id fs)
    rw[if_neg (fun e=>hn.1 (by rw[←he,←e]; exact List.mem_map.2 ⟨z,hz,rfl⟩))]; rfl
   rw[h1,h2]
  ·have hne:y.name≠x.name:=fun e=>hn.1 (by rw[e]; exact List.mem_map.2 ⟨x,hx,rfl⟩)
   rw[List.filter_cons_of_pos (by simpa using hne),List.map_cons,if_neg (by rw[he]; exact hne)]
   exact (List.Perm.swap _ _ _).trans ((ih hn.2 hx).cons y)

theorem NT (x:Fil) (fs:List Fil):(x::fs).Perm (HW x fs):=by
 induction fs with
 | nil=>exact .refl _
 | cons y fs ih=>
  unfold HW
  split
  ·exact .refl _
  ·exact (List.Perm.swap _ _ _).trans (ih.cons y)

section
variable [Glob] {F : Nat → Prop}

abbrev nilfix (B:List Box) (b i v:Nat) (cs:List AV):List Box:=(B++ [Box.cells true 0 []]).set b (Box.cells false v (cs.set i (.rs B.length 0 1 0 0)))

theorem Inv.nilcell {B:List Box} {ρ:Aj} {w:World} (hI0:Inv F B ρ w) {b i v:Nat} {cs:List AV} (hb:B[b]? = some (.cells false v cs)) (hi:cs[i]? = some AI):
  Inv F (nilfix B b i v cs) (fun b=>if b=B.length then none else ρ b) w∧Ext F B ρ w (nilfix B b i v cs) (fun b=>if b=B.length then none else ρ b) w:=by
 obtain ⟨hI,hE'⟩:=JT hI0
 have hbl:b<B.length:=(List.getElem?_eq_some_iff.1 hb).1
 have hb1:(B++ [Box.cells true 0 []])[b]? = some (.cells false v cs):=by rw[List.getElem?_append_left hbl]; exact hb
 obtain ⟨_,hE2⟩:=E5 (F:=F) (B:=B++ [Box.cells true 0 []]) (B':=nilfix B b i v cs) (ρ:=fun b=>if b=B.length then none else ρ b) (w:=w) (by simp) (fun b' row' v' cs' hc=>by
  rw[List.getElem?_set] at hc
  split at hc
  ·rename_i e
   subst e
   split at hc
   ·cases hc
    exact ⟨cs,hb1,by simp⟩
   ·cases hc
  ·exact ⟨cs',hc,rfl⟩) (fun j cs Φ h=>obj_set (fun _ _ e=>by cases e) h)
 have hI2:=Jj (B':=nilfix B b i v cs) hI (fun b' row' v' cs' hc=>by
  rw[List.getElem?_set] at hc
  split at hc
  ·rename_i e
   subst e
   split at hc
   ·cases hc
    refine ⟨cs,hb1,by simp,SN (hI0.leaf b false v cs hb) rfl,fun j c' hc'=>?_⟩
    rw[List.getElem?_set] at hc'
    split at hc'
    ·rename_i e
     subst e
     split at hc'
     ·cases hc'
      refine ⟨_,hi,fun u hu=>?_⟩
      obtain rfl:=hu.val
      refine VRel.ext hE2 (.rs _ _ _ _ _ none 0 ⟨by simp,Nat.le_refl _,fun h=>absurd h (by omega),fun row v cs hc=>?_⟩)
      rw[List.getElem?_append_right (Nat.le_refl _)] at hc
      simp at hc
      obtain ⟨rfl,rfl,rfl⟩:=hc
      exact ⟨Nat.le_refl _,fun _=>⟨by simp, .inl rfl⟩⟩
     ·cases hc'
    ·exact ⟨c',hc',fun u hu=>hu.ext hE2⟩
   ·cases hc
  ·exact ⟨cs',hc,rfl,hI.leaf _ _ _ _ hc,fun j c' hc'=>⟨c',hc',fun u hu=>hu.ext hE2⟩⟩) (fun j cs Φ h=>obj_set (fun _ _ e=>by cases e) h) hE2
 exact ⟨hI2,hE'.trans hE2⟩

variable {P : Program}

theorem SoundR.mono {f:Nat} {R R':Ae} (h:SoundR P f R) (hr:∀ args B r B',R' args B r B'→R args B r B'):SoundR P f R':=fun args B r B' h'=>h args B r B' (hr _ _ _ _ h')

theorem SoundR.nilfix {f:Nat} {R:Ae} (h:SoundR P f R):SoundR P f (fun args B r B'=>∃ Bf b i v cs,R args B r Bf∧Bf[b]? = some (.cells false v cs)∧cs[i]? = some AI∧B'=nilfix Bf b i v cs):=by
 rintro args B r B' ⟨Bf,b,i,v,cs,h1,h2,h3,rfl⟩ F ρ w us hI hA
 refine (h args B r Bf h1 F ρ w us hI hA).mono fun e w' hp=>?_
 obtain ⟨x,ρ2,rfl,hI2,hE2,hv⟩:=hp
 obtain ⟨g1,g2⟩:=hI2.nilcell h2 h3
 exact ⟨x,_,rfl,g1,hE2.trans g2,hv.ext g2⟩

theorem SoundR.nilans {f:Nat} {R:Ae} (h:SoundR P f R):SoundR P f (fun args B r B'=>∃ Bf e,R args B (.tup [AI,e]) Bf∧r= .tup [.rs Bf.length 0 1 0 0,e]∧B'=Bf++ [.cells true 0 []]):=by
 rintro args B r B' ⟨Bf,e,h1,rfl,rfl⟩ F ρ w us hI hA
 refine (h args B _ Bf h1 F ρ w us hI hA).mono fun en w' hp=>?_
 obtain ⟨x,ρ2,rfl,hI2,hE2,hv⟩:=hp
 obtain ⟨g1,g2⟩:=JT hI2
 refine ⟨x,_,rfl,g1,hE2.trans g2,?_⟩
 cases hv with
 | tup _ us h2 h3=>
  refine .tup _ us h2 (fun j p u hp hu=>?_)
  cases j with
  | zero=>
   cases hp
   have:=(h3 0 AI u rfl hu).val
   subst this
   refine .rs _ _ _ _ _ Option.none 0 ⟨by simp,Nat.le_refl _,fun h=>absurd h (by omega),fun row v cs hc=>?_⟩
   rw[List.getElem?_append_right (Nat.le_refl _)] at hc
   simp at hc
   obtain ⟨rfl,rfl,rfl⟩:=hc
   exact ⟨Nat.le_refl _,fun _=>⟨by simp, .inl rfl⟩⟩
  | succ j=>exact (h3 (j+1) p u hp hu).ext g2

end

theorem tM {n:Nat} {hid:List (Value×Value)} {D1:Dsk} {B:List Box} (h0:B[0]? = some (DQ D1)) (h1:B[1]? = some (.obj [] (AQ [] hid))):Shut n [] hid D1 [] [] B where
 h0:=h0
 h1:=h1
 hI:=fun i hi=>by cases hi
 nod:=by simp
 hZ:=fun z hz=>by cases hz
 hX:=fun b hb=>by simp at hb

theorem k6 {n:Nat} {hid:List (Value×Value)} {D1:Dsk} {B:List Box} {x:Fil} {v:Nat} (h0:B[0]? = some (DQ D1)) (h1:B[1]? = some (.obj [.ptr 2 0 0] (AQ [.string x.name] hid))) (h2:B[2]? = some (Oa 3 v x)) (h3:B[3]? = some (GV v x.b)):
  Shut n [] hid D1 [⟨x,2,3,v⟩] [] B where
 h0:=h0
 h1:=h1
 hI:=fun i hi=>by
  rcases List.mem_cons.1 hi with rfl | hi
  ·exact ⟨h2,h3⟩
  ·cases hi
 nod:=by simp
 hZ:=fun z hz=>by cases hz
 hX:=fun b hb=>by simp at hb

end Go.Ax
namespace Go.Ax
open Go.RowKit
section
variable [Glob] {F : Nat → Prop}

theorem iI {ρ ρ2:Aj} {w w':World} {D:Dsk} (hI:Inv F [DQ D, .obj [] (AQ [] [])] ρ2 w') (hE:Ext F [] ρ w [DQ D, .obj [] (AQ [] [])] ρ2 w') (hf:D.files= []):
  ∃ k o ρ3,ρ2 0=some (k,0)∧ρ3 0=some (k,o)∧Inv F [.obj [] (AH D)] ρ3 w'∧Ext F [] ρ w [.obj [] (AH D)] ρ3 w':=by
 obtain ⟨k,hk⟩:∃ k,ρ2 0=some (k,0):=by
  rcases hI.box 0 _ _ _ rfl with ⟨_,h,_⟩ | ⟨k2,o2,us,e,fr,q1,_⟩
  ·cases h
  ·have:=hI.off0 0 _ _ _ _ rfl q1
   subst this
   exact ⟨k2,q1⟩
 let S:Nat→Prop:=Own noF [DQ D, .obj [] (AQ [] [])] ρ2
 have hS:∀ j,S j→Own F [DQ D, .obj [] (AQ [] [])] ρ2 j:=fun j hj=>hj.elim (fun h=>h.elim) .inr
 have hSF:∀ j,S j→¬F j:=fun j hj=>by
  obtain ⟨b,x,l,h1,h2,h3⟩:=Ew.1 hj
  exact hI.farx b x l j h1 h2 h3
 have hbit:∀ j,(DK S w'.heap.size).testBit j=true↔S j:=fun j=>(Iz S _ j).trans ⟨fun h=>h.1,fun h=>⟨h,hI.ownlt j (hS j h)⟩⟩
 have hD:DiskAt D (fun j=>(DK S w'.heap.size).testBit j=true) k w' [] ρ2:=
  ⟨by rw[hf]; exact .refl _,hI.bare,hk,fun x hx=>(nomatch hx), .nil,fun x hx=>(nomatch hx),fun j=>(hbit j).trans ⟨.inl,fun h=>h.elim id (fun ⟨x,hx,_⟩=>(nomatch hx))⟩⟩
 have hO:@Inv DC noF [.obj [] (AH D)] (fun _=>some (k,DK S w'.heap.size)) w':=by
  letI:Glob:=DC
  refine @Inv.mk DC noF _ _ w' (fun b row v cs hb=>?_) (fun b row v cs hb=>?_) (fun b cs Φ hb=>?_) (fun b b' x x' l l' j h1 h2 _ _ _ _=>?_) (fun k hk=>hk.elim) (fun _ _ _ _ _ _ _ h=>h) (fun g hg=>absurd rfl hg) (fun b v cs k o hb=>?_)
  ·cases b <;> simp at hb
  ·cases b <;> simp at hb
  ·cases b with
   | zero=>cases hb; exact ⟨k,_,[],rfl,⟨rfl,[],ρ2,hD⟩,rfl,fun i c u hc=>by simp at hc⟩
   | succ b=>simp at hb
  ·cases b with
   | zero=>cases b' with
    | zero=>rfl
    | succ b'=>simp at h2
   | succ b=>simp at h1
  ·cases b <;> simp at hb
 have hOo:∀ j,Own noF [.obj [] (AH D)] (fun _=>some (k,DK S w'.heap.size)) j→S j:=fun j hj=>by
  obtain ⟨b,x,l,h1,h2,h3⟩:=Ew.1 hj
  cases b with
  | zero=>cases h1; cases h2; exact (hbit j).1 h3
  | succ b=>simp at h1
 have hsubF:∀ j,Own F [.obj [] (AH D)] (fun _=>some (k,DK S w'.heap.size)) j→Own F [DQ D, .obj [] (AQ [] [])] ρ2 j:=fun j hj=>by
  rcases hj with h0 | h0
  ·exact .inl h0
  ·exact hS j (hOo j (.inr h0))
 refine ⟨k,_,_,hk,rfl,Inv.raise hO (fun y hy=>?_) (fun j hF ho=>hSF j (hOo j ho) hF) hI.bound (fun g hg=>?_),⟨hE.size,hE.os,hE.tape,hE.output,fun j hj ho=>?_,hE.shape,Nat.zero_le _,fun b row v cs hb=>absurd hb (by simp),fun b cs Φ hb=>absurd hb (by simp),hE.far⟩⟩
 ·rcases List.mem_cons.1 hy with rfl | hy
  ·exact ⟨rfl,rfl⟩
  ·cases hy
 ·refine ⟨?_,(hI.glob g hg).sz⟩
  cases (hI.glob g hg).v with
  | rp cs a us h1 h2 h3 h4 h5 h6=>
   exact .rp _ _ us h1 (fun h=>h2 (hsubF _ h)) h3 h4 h5 (fun j p u hp hu=>(h6 j p u hp hu).mono (fun k _ ho=>⟨rfl,fun h=>ho (hsubF _ h)⟩) (Nat.le_refl _))
 ·obtain ⟨g1,g2⟩:=hE.keep j hj ho
  exact ⟨g1,fun h=>g2 (hsubF j h)⟩

variable {P : Program}

theorem SoundR.newD {f:Nat} {R:Ae} (h:SoundR P f R):SoundR P f (fun args B r B'=>∃ D:Dsk,D.files= []∧R args [] (.ptr 0 0 0) [DQ D, .obj [] (AQ [] [])]∧B= []∧r= .op 0∧B'= [.obj [] (AH D)]):=by
 rintro args B r B' ⟨D,hf,h1,rfl,rfl,rfl⟩ F ρ w us hI hA
 refine (h args [] _ _ h1 F ρ w us hI hA).mono fun e w' hp=>?_
 obtain ⟨x,ρ2,rfl,hI2,hE2,hv⟩:=hp
 obtain ⟨k,o,ρ3,g1,g2,g3,g4⟩:=iI hI2 hE2 hf
 refine ⟨x,ρ3,rfl,g3,g4,?_⟩
 cases hv with
 | ptr _ _ _ a hp0=>
  obtain ⟨k',o',e1,e2⟩:=(hp0.2 _ _ _ rfl).2 rfl
  rw[g1] at e1
  cases e1
  rw[e2]
  exact .op _ _ ⟨by simp,fun cs Φ hb=>⟨o,g2⟩⟩
end
end Go.Ax
namespace Go.Ax
open Go.Proofs Go.RowKit

theorem LtN.tr {a b c:List UInt8} (h1:a<b) (h2:b<c):a<c:=List.lt_trans h1 h2

theorem QK {x y:Fil} {fs:List Fil}:y∈HW x fs↔y=x∨y∈fs:=by
 rw[←(NT x fs).mem_iff,List.mem_cons]

theorem ZJ (a b:ByteArray):Op.bytesLess a.toList b.toList=true↔a.data.toList<b.data.toList:=by
 rw[bytesLess_eq,ByteArray.toList_eq,ByteArray.toList_eq,decide_eq_true_iff]

theorem iJ {a b:ByteArray} (h1:¬a.data.toList<b.data.toList) (h2:a≠b):b.data.toList<a.data.toList:=by
 rcases List.le_iff_lt_or_eq.1 (List.not_lt.1 h1) with h | h
 ·exact h
 ·exact absurd (ByteArray.ext (Array.toList_inj.mp h)).symm h2

theorem Vo {x:Fil}:∀ {fs:List Fil},(fs.Pairwise fun x y=>x.name.data.toList<y.name.data.toList)→x.name ∉ fs.map (·.name)→(HW x fs).Pairwise fun x y=>x.name.data.toList<y.name.data.toList
 | [],_,_=>by simp[HW]
 | y::r,h,hn=>by
  rw[List.pairwise_cons] at h
  rw[List.map_cons,List.mem_cons,not_or] at hn
  unfold HW
  split
  ·rename_i hlt
   rw[ZJ] at hlt
   refine List.pairwise_cons.2 ⟨fun z hz=>?_,List.pairwise_cons.2 h⟩
   rcases List.mem_cons.1 hz with rfl | hz
   ·exact hlt
   ·exact LtN.tr hlt (h.1 z hz)
  ·rename_i hlt
   rw[ZJ] at hlt
   have hyx:=iJ hlt hn.1
   refine List.pairwise_cons.2 ⟨fun z hz=>?_,Vo h.2 hn.2⟩
   rcases QK.1 hz with rfl | hz
   ·exact hyx
   ·exact h.1 z hz

abbrev Ip (fs:List Fil):Int:=(fs.map fun x=>(x.b.length:Int)).sum

theorem KK {fs gs:List Fil} (h:fs.Perm gs):Ip fs=Ip gs:=by
 induction h with
 | nil=>rfl
 | cons x _ ih=>simp only[Ip,List.map_cons,List.sum_cons] at ih ⊢; omega
 | swap x y l=>simp only[Ip,List.map_cons,List.sum_cons]; omega
 | trans _ _ ih1 ih2=>exact ih1.trans ih2

theorem KL (x:Fil) (fs:List Fil):Ip (x::fs)=x.b.length+Ip fs:=by simp[Ip]

theorem YI {nm:ByteArray} (h:CA nm=true):nm.size≤40:=by
 unfold CA at h
 simp only[Bool.and_eq_true,decide_eq_true_eq] at h
 exact h.2

theorem mD {fs:List Fil} (h:fs.Pairwise fun x y=>x.name.data.toList<y.name.data.toList):(fs.map (·.name)).Nodup:=by
 unfold List.Nodup
 rw[List.pairwise_map]
 refine h.imp fun hlt e=>?_
 rw[e] at hlt
 exact List.lt_irrefl _ hlt

theorem ab (fs:List Fil) (x:Fil):(FY fs x).map (·.name)=fs.map (·.name):=by
 unfold FY
 rw[List.map_map]
 refine List.map_congr_left fun y _=>?_
 simp only[Function.comp]
 split
 ·rename_i e; exact e.symm
 ·rfl

theorem d6 {fs gs:List Fil} (h:fs.map (·.name)=gs.map (·.name)):(fs.Pairwise fun x y=>x.name.data.toList<y.name.data.toList)↔gs.Pairwise fun x y=>x.name.data.toList<y.name.data.toList:=by
 have key:∀ l:List Fil,(l.Pairwise fun x y=>x.name.data.toList<y.name.data.toList)↔(l.map (·.name)).Pairwise fun a b=>a.data.toList<b.data.toList:=fun l=>by rw[List.pairwise_map]
 rw[key,key,h]

theorem Od {fu:Int} (h:0≤fu∧fu<9223372036854775808):0≤De fu∧De fu<9223372036854775808:=by
 unfold De; split <;> omega

theorem Dsk.Ok.files {D:Dsk} (ok:D.Ok) {fs:List Fil} {us:Int} {dn:Bool} {fu:Int} (hu:us=Ip fs) (hle:us≤D.room) (hf:0≤fu∧fu<9223372036854775808)
  (hs:∀ x∈fs,0≤x.sure∧x.sure≤x.b.length) (hn:∀ x∈fs,x.name.size≤40) (ho:fs.Pairwise fun x y=>x.name.data.toList<y.name.data.toList):Dsk.Ok ⟨D.room,us,fs,dn,fu⟩:=
 ⟨mD ho,ok.room,hu,hle,hf,hs,hn,ho⟩

theorem mE (n:Int):(newD n).Ok:=by
 refine ⟨.nil,?_,rfl,?_,⟨Int.le_refl _,by show (0:Int)<_; decide⟩,fun x hx=>(nomatch hx),fun x hx=>(nomatch hx), .nil⟩
 ·simp only[newD]; split <;> split <;> omega
 ·simp only[newD]; split <;> split <;> omega

theorem Dsk.Ok.stepped {D:Dsk} (ok:D.Ok):D.stepped.Ok:=⟨ok.nod,ok.room,ok.used,ok.le,Od ok.fuse,ok.sure,ok.nam,ok.srt⟩

theorem Dsk.Ok.rep {D:Dsk} (ok:D.Ok) {x x':Fil} (hx:x∈D.files) (he:x'.name=x.name) (hs:0≤x'.sure∧x'.sure≤x'.b.length) {us:Int} (hu:us=D.used - x.b.length+x'.b.length) (hle:us≤D.room) {dn:Bool} {fu:Int}
  (hf:0≤fu∧fu<9223372036854775808):Dsk.Ok ⟨D.room,us,FY D.files x',dn,fu⟩:=by
 have hm:∀ y∈FY D.files x',y=x'∨y∈D.files:=fun y hy=>by
  obtain ⟨z,hz,e⟩:=List.mem_map.1 hy
  split at e
  ·exact .inl e.symm
  ·exact .inr (e▸hz)
 refine ok.files ?_ hle hf (fun y hy=>?_) (fun y hy=>?_) ((d6 (ab _ _)).2 ok.srt)
 ·have h1:=KK (NS ok.nod hx he)
  have h2:=KK (Dv ok.nod hx)
  rw[KL] at h1 h2
  have:=ok.used
  rw[hu,←h1]
  change D.used=Ip D.files at this
  omega
 ·rcases hm y hy with rfl | h
  ·exact hs
  ·exact ok.sure y h
 ·rcases hm y hy with rfl | h
  ·rw[he]; exact ok.nam x hx
  ·exact ok.nam y h

theorem Q5 {D:Dsk} (ok:D.Ok) (nm:ByteArray):(Ay D nm).1.Ok:=by
 unfold Ay
 split
 ·exact ok
 rename_i hn
 split
 ·exact ok
 split
 ·exact ok
 rename_i hg
 split
 ·exact ok.stepped
 ·have hno:=GX hg
  have hsz:nm.size≤40:=YI (by simpa using hn)
  refine ok.files ?_ ok.le (Od ok.fuse) (fun y hy=>?_) (fun y hy=>?_) (Vo ok.srt hno)
  ·have h1:=KK (NT ⟨nm,[],0⟩ D.files)
   rw[KL] at h1
   have:=ok.used
   change D.used=Ip D.files at this
   show D.used=_
   rw[←h1,this]
   simp
  ·rcases QK.1 hy with rfl | h
   ·exact ⟨Int.le_refl _,by simp⟩
   ·exact ok.sure y h
  ·rcases QK.1 hy with rfl | h
   ·exact hsz
   ·exact ok.nam y h

theorem Q6 {D:Dsk} (ok:D.Ok) (nm:ByteArray) (bs:List UInt8):(BI D nm bs).1.Ok:=by
 unfold BI
 split
 ·exact ok
 split
 ·exact ok
 rename_i x hg
 obtain ⟨hx,rfl⟩:=EY hg
 split
 ·exact ok
 rename_i hfull
 split
 ·exact ok.stepped
 ·have:=ok.sure x hx
  exact ok.rep (x':={x with b:=x.b++bs}) hx rfl ⟨this.1,by simp only[List.length_append]; omega⟩ (by simp only[List.length_append]; omega) (by omega) (Od ok.fuse)

theorem iK {D:Dsk} (ok:D.Ok) (nm:ByteArray):(Cn D nm).1.Ok:=by
 unfold Cn
 split
 ·exact ok
 split
 ·exact ok
 rename_i x hg
 obtain ⟨hx,rfl⟩:=EY hg
 split
 ·exact ok.stepped
 ·exact ok.rep (x':={x with sure:=(x.b.length:Int)}) hx rfl ⟨by show (0:Int)≤(x.b.length:Int); omega,Int.le_refl _⟩ (by simp only[Dsk.stepped]; omega) ok.le (Od ok.fuse)

end Go.Ax
namespace Go.Ax
open Go.RowKit
section
variable [Glob] {P : Program}

def KM (R:Ae):Ae:=fun args B r B'=>∃ (i k v:Nat) (α:Type) (E:Enc α) (L:List α),B[k]? = some (.cells true v (rowC (L.map E.f)))∧args[i]? = some (.rs k v E.sz 0 L.length)∧R (args.set i (vl (L.map E.f))) (B.set k .dead) r B'

theorem SoundR.shutRow {f:Nat} {R:Ae} (h:SoundR P f R):SoundR P f (KM R):=by
 rintro args B r B' ⟨i,b,v,α,E,L,hb,hi,hR⟩ F ρ w us hI hA
 have hget:∀ (b':Nat) (row:Bool) (v':Nat) (cs':List AV),(B.set b Box.dead)[b']? = some (.cells row v' cs')→b'≠b∧B[b']? = some (.cells row v' cs'):=by
  intro b' row v' cs' hc
  rw[List.getElem?_set] at hc
  split at hc
  ·split at hc <;> cases hc
  ·rename_i e'
   exact ⟨fun h=>e' h.symm,hc⟩
 obtain ⟨hown,hE2⟩:=E5 (F:=F) (B:=B) (B':=B.set b Box.dead) (ρ:=ρ) (w:=w) (by simp) (fun b' row' v' cs' hc=>⟨cs',(hget b' row' v' cs' hc).2,rfl⟩) (fun j cs Φ h=>obj_set (fun _ _ e=>by cases e) h)
 have hI2:=Jj (B':=B.set b Box.dead) hI (fun b' row' v' cs' hc=>by
  obtain ⟨_,h3⟩:=hget b' row' v' cs' hc
  exact ⟨cs',h3,rfl,hI.leaf _ _ _ _ h3,fun j c' hc'=>⟨c',hc',fun u hu=>hu.ext hE2⟩⟩) (fun j cs Φ h=>obj_set (fun _ _ e=>by cases e) h) hE2
 have hA2:ArgsRel F (B.set b Box.dead) ρ w (args.set i (vl (L.map E.f))) us:=by
  refine ⟨by rw[List.length_set]; exact hA.1,fun j p u hp hu=>?_⟩
  rw[List.getElem?_set] at hp
  split at hp
  ·rename_i e
   subst e
   split at hp
   ·cases hp
    have hv:=hA.2 i _ u hi hu
    refine Sealed.vrel (S:=fun k=>k=b) hI (E.elt.sealed (S:=fun k=>k=b) rfl hb) hv hown fun b0 row0 v0 cs0 k o hS hB hρ=>?_
    subst hS
    rintro (hF | ⟨b3,x3,l3,g1,g2,g3⟩)
    ·exact hI.farb b0 row0 v0 cs0 k o hB hρ hF
    ·rw[List.getElem?_set] at g1
     split at g1
     ·split at g1
      ·cases g1; exact g3.elim
      ·cases g1
     ·rename_i e2
      exact e2 (hI.injx b0 b3 _ _ (k,o) l3 k hB g1 hρ g2 rfl g3)
   ·cases hp
  ·exact (hA.2 j p u hp hu).ext hE2
 exact (h _ _ _ _ hR F ρ w us hI2 hA2).mono fun e w' hp=>by
  obtain ⟨x,ρ2,rfl,q1,q2,q3⟩:=hp
  exact ⟨x,ρ2,rfl,q1,hE2.trans q2,q3⟩

def E6:AV→Bool
 | .p _=>true
 | _=>false
theorem HX:∀ {al:List AV},al.all E6=true→∀ f d,AV.rv.rvL f d al=al
 | [],_,_,_=>rfl
 | a::al,h,f,d=>by
  simp only[List.all_cons,Bool.and_eq_true] at h
  rw[AV.rv.rvL,HX h.2]
  cases a <;> first | rfl | cases h.1
theorem HY:∀ {al:List AV},al.all E6=true→∀ n,AV.low.allLow n al=true
 | [],_,_=>rfl
 | a::al,h,n=>by
  simp only[List.all_cons,Bool.and_eq_true] at h
  rw[AV.low.allLow,HY h.2]
  cases a <;> first | rfl | cases h.1

theorem GY {R:Ae} {al:List AV} {y:AV} {Φ Φ1:ObjP} {B:List Box} {b:Nat} (h:R (.op 0::al) [.obj [] Φ] y [.obj [] Φ1]) (hb:B[b]? = some (.obj [] Φ)) (hal:al.all E6=true) (hl:y.low 0=true):
  AX R (.op b::al) B y (B.set b (.obj [] Φ1)):=by
 have hlt:b<B.length:=(List.getElem?_eq_some_iff.1 hb).1
 have hy:∀ f d,y.rv f d=y:=fun f d=>Jm (n:=0) (fun j hj=>by omega) (fun j hj=>by omega) hl
 have hy1:∀ {y:AV},y.low 0=true→y.low 1=true:=fun {y} h=>HV h
 refine ⟨_,_,_,_,h,⟨[b],[0],[.obj [] Φ],[.obj [] Φ1],[],?_,?_,?_,?_,⟨.objs rfl rfl,trivial⟩,⟨.objs rfl rfl,trivial⟩,?_,(hy _ _).symm,hy1 hl⟩⟩
 ·simp[DO,Nat.blt_eq,hlt]
 ·simp[hb]
 ·rw[AV.rv.rvL,HX hal]; rfl
 ·rw[AV.low.allLow,HY hal]; rfl
 ·simp[Bh]

theorem YJ {R:Ae} {al:List AV} {sz n:Nat} {e:PV} {Φ Φ1:ObjP} {B:List Box} {b:Nat} {xs:List PV} (h:R (.op 0::al) [.obj [] Φ] (.tup [.rs 1 0 sz 0 n, .p e]) [.obj [] Φ1, .cells true 0 (rowC xs)]) (hb:B[b]? = some (.obj [] Φ)) (hal:al.all E6=true):
  AX R (.op b::al) B (.tup [.rs B.length 0 sz 0 n, .p e]) (B.set b (.obj [] Φ1)++ [.cells true 0 (rowC xs)]):=by
 have hlt:b<B.length:=(List.getElem?_eq_some_iff.1 hb).1
 refine ⟨_,_,_,_,h,⟨[b],[0],[.obj [] Φ],[.obj [] Φ1],[.cells true 0 (rowC xs)],?_,?_,?_,?_,⟨.objs rfl rfl,trivial⟩,⟨.objs rfl rfl, .row true 0 xs,trivial⟩,?_,rfl,rfl⟩⟩
 ·simp[DO,Nat.blt_eq,hlt]
 ·simp[hb]
 ·rw[AV.rv.rvL,HX hal]; rfl
 ·rw[AV.low.allLow,HY hal]; rfl
 ·simp[Bh]

theorem iL {R:Ae} {al:List AV} {Φ:ObjP} {B:List Box} (h:R al [] (.op 0) [.obj [] Φ]) (hal:al.all E6=true):AX R al B (.op B.length) (B++ [.obj [] Φ]):=by
 refine ⟨_,_,_,_,h,⟨[],[],[],[],[.obj [] Φ],rfl,rfl,(HX hal _ _).symm,HY hal _,trivial,⟨.objs rfl rfl,trivial⟩,?_,?_,rfl⟩⟩
 ·simp[Bh]
 ·simp[AV.rv,Bc]
end
end Go.Ax
namespace Go.Ax
open Go.Proofs Go.RowKit
set_option maxRecDepth 100000

abbrev Q7:Nat:=66
noncomputable abbrev Vp:Func:=Tryd.f66
theorem mF:DP.funcs[Q7]? = some Vp:=by kernel_rfl
theorem mG:Ak DP Q7=true:=by kernel_rfl
theorem mH:Vp.body.isSome=true:=by kernel_rfl
theorem mI:Vp.ntmps=39:=by kernel_rfl
abbrev Oe:Nat:=47
noncomputable abbrev ae:Func:=Tryd.f47
theorem ot:DP.funcs[Oe]? = some ae:=by kernel_rfl
theorem ou:Ak DP Oe=true:=by kernel_rfl
theorem ov:ae.body.isSome=true:=by kernel_rfl
theorem Q8:ae.ntmps=28:=by kernel_rfl
abbrev Of:Nat:=67
noncomputable abbrev af:Func:=Tryd.f67
theorem ow:DP.funcs[Of]? = some af:=by kernel_rfl
theorem oz:Ak DP Of=true:=by kernel_rfl
theorem o4:af.body.isSome=true:=by kernel_rfl
theorem Vq:af.ntmps=27:=by kernel_rfl
abbrev Vr:Nat:=14
noncomputable abbrev iM:Func:=Tryd.f14
theorem tN:DP.funcs[Vr]? = some iM:=by kernel_rfl
theorem tO:Ak DP Vr=true:=by kernel_rfl
theorem tP:iM.body.isSome=true:=by kernel_rfl
theorem tQ:iM.ntmps=9:=by kernel_rfl
abbrev Og:Nat:=36
noncomputable abbrev SV:Func:=Tryd.f36
theorem iN:DP.funcs[Og]? = some SV:=by kernel_rfl
theorem iO:Ak DP Og=true:=by kernel_rfl
theorem iP:SV.body.isSome=true:=by kernel_rfl
theorem Jn:SV.ntmps=38:=by kernel_rfl
abbrev Oh:Nat:=37
noncomputable abbrev SW:Func:=Tryd.f37
theorem iQ:DP.funcs[Oh]? = some SW:=by kernel_rfl
theorem iR:Ak DP Oh=true:=by kernel_rfl
theorem iS:SW.body.isSome=true:=by kernel_rfl
theorem Jo:SW.ntmps=54:=by kernel_rfl
abbrev Uo:Nat:=38
noncomputable abbrev ag:Func:=Tryd.f38
theorem o5:DP.funcs[Uo]? = some ag:=by kernel_rfl
theorem o6:Ak DP Uo=true:=by kernel_rfl
theorem o7:ag.body.isSome=true:=by kernel_rfl
theorem Q9:ag.ntmps=30:=by kernel_rfl
abbrev Up:Nat:=68
noncomputable abbrev ah:Func:=Tryd.f68
theorem o8:DP.funcs[Up]? = some ah:=by kernel_rfl
theorem o9:Ak DP Up=true:=by kernel_rfl
theorem pA:ah.body.isSome=true:=by kernel_rfl
theorem RA:ah.ntmps=54:=by kernel_rfl
abbrev Uq:Nat:=39
noncomputable abbrev ai:Func:=Tryd.f39
theorem pB:DP.funcs[Uq]? = some ai:=by kernel_rfl
theorem pC:Ak DP Uq=true:=by kernel_rfl
theorem pD:ai.body.isSome=true:=by kernel_rfl
theorem Vs:ai.ntmps=22:=by kernel_rfl
abbrev Ur:Nat:=35
noncomputable abbrev aj:Func:=Tryd.f35
theorem pE:DP.funcs[Ur]? = some aj:=by kernel_rfl
theorem pF:Ak DP Ur=true:=by kernel_rfl
theorem pG:aj.body.isSome=true:=by kernel_rfl
theorem d7:aj.ntmps=14:=by kernel_rfl
abbrev Us:Nat:=34
noncomputable abbrev ak:Func:=Tryd.f34
theorem pH:DP.funcs[Us]? = some ak:=by kernel_rfl
theorem pI:Ak DP Us=true:=by kernel_rfl
theorem pJ:ak.body.isSome=true:=by kernel_rfl
theorem d9:ak.ntmps=11:=by kernel_rfl
abbrev wU:Nat:=69
abbrev pK:Nat:=9
abbrev pL:Nat:=105
theorem Ut:DP.underlying wU=some (.map pK pL):=by kernel_rfl
theorem Uu:DP.underlying pK=some .string:=by kernel_rfl
theorem tR:Qp DP pL=some (.p (.v (.pointer none))):=by kernel_rfl

noncomputable def DI (nm:ByteArray) (s1:Int):St:=([(0,vs nm),(6, .rs 0 0 1 0 nm.data.toList.length),(7,vi ((nm.data.toList.length:Nat):Int)),(8,vi s1)],[AA.bx 0 nm.data.toList])
noncomputable def EZ (x1:Unit):AE×St:=(.ret,([(2,vb false)],[]))
noncomputable def G4 (nm:ByteArray) (y1:Unit):AE×St:=((.exit 0),([(0,vs nm)],[]))
noncomputable def GB (nm:ByteArray) (s1:Int):Tree:=
.sp 9 (decide (s1<((nm.data.toList.length:Nat):Int))) (
.ridx 10 nm.data.toList.length s1 (.rload 11 (rowC (nm.data.toList.map AA.f)) (0+Int.toNat s1*1) AA nm.data.toList s1 0 (fun e1=> .sp 13 (decide ((e1.toNat:Int)<(97:Int))) (
.sp 20 (decide ((e1.toNat:Int)<(48:Int))) (
.sp 28 ((e1.toNat:Int) != (46:Int)) (
.leaf ⟨[2],[]⟩ [] .ret (some (EZ ()).2)) (
.int 30 (IntKind.i64.wrap (s1+1)) (s1+1) (.leaf ⟨[0,6,7,8],[(0,0,some (nm.data.toList.map AA.f))]⟩ [rowC (nm.data.toList.map AA.f)] .normal (some (DI nm (s1+1)))))) (
.sp 23 (decide ((e1.toNat:Int)>(57:Int))) (
.sp 28 ((e1.toNat:Int) != (46:Int)) (
.leaf ⟨[2],[]⟩ [] .ret (some (EZ ()).2)) (
.int 30 (IntKind.i64.wrap (s1+1)) (s1+1) (.leaf ⟨[0,6,7,8],[(0,0,some (nm.data.toList.map AA.f))]⟩ [rowC (nm.data.toList.map AA.f)] .normal (some (DI nm (s1+1)))))) (
.int 30 (IntKind.i64.wrap (s1+1)) (s1+1) (.leaf ⟨[0,6,7,8],[(0,0,some (nm.data.toList.map AA.f))]⟩ [rowC (nm.data.toList.map AA.f)] .normal (some (DI nm (s1+1))))))) (
.sp 16 (decide ((e1.toNat:Int)>(122:Int))) (
.sp 20 (decide ((e1.toNat:Int)<(48:Int))) (
.sp 28 ((e1.toNat:Int) != (46:Int)) (
.leaf ⟨[2],[]⟩ [] .ret (some (EZ ()).2)) (
.int 30 (IntKind.i64.wrap (s1+1)) (s1+1) (.leaf ⟨[0,6,7,8],[(0,0,some (nm.data.toList.map AA.f))]⟩ [rowC (nm.data.toList.map AA.f)] .normal (some (DI nm (s1+1)))))) (
.sp 23 (decide ((e1.toNat:Int)>(57:Int))) (
.sp 28 ((e1.toNat:Int) != (46:Int)) (
.leaf ⟨[2],[]⟩ [] .ret (some (EZ ()).2)) (
.int 30 (IntKind.i64.wrap (s1+1)) (s1+1) (.leaf ⟨[0,6,7,8],[(0,0,some (nm.data.toList.map AA.f))]⟩ [rowC (nm.data.toList.map AA.f)] .normal (some (DI nm (s1+1)))))) (
.int 30 (IntKind.i64.wrap (s1+1)) (s1+1) (.leaf ⟨[0,6,7,8],[(0,0,some (nm.data.toList.map AA.f))]⟩ [rowC (nm.data.toList.map AA.f)] .normal (some (DI nm (s1+1))))))) (
.int 30 (IntKind.i64.wrap (s1+1)) (s1+1) (.leaf ⟨[0,6,7,8],[(0,0,some (nm.data.toList.map AA.f))]⟩ [rowC (nm.data.toList.map AA.f)] .normal (some (DI nm (s1+1))))))))) (
.leaf ⟨[0],[]⟩ [] (.exit 0) (some (G4 nm ()).2))
noncomputable def RB (nm:ByteArray):Tree:=
.sbyte 6 (.loop ⟨[0,6,7,8],[(0,0,some (nm.data.toList.map AA.f))]⟩ [rowC (nm.data.toList.map AA.f)] (some (DI nm 0)) (DI nm) (EZ) (G4 nm) 0 (GB nm) (fun (x1:Unit)=> .leaf ⟨[0],[]⟩ [] .ret (some ([(0,vb false)],[]))) (fun (y1:Unit)=> .sp 33 (decide ((nm.size:Int)>(0:Int))) (
.leaf ⟨[0],[]⟩ [] .ret (some ([(0,vb (decide ((nm.size:Int)≤(40:Int))))],[]))) (
.leaf ⟨[0],[]⟩ [] .ret (some ([(0,vb false)],[])))))

theorem am (nm:ByteArray):Av DP Γ0 Δ0 Tryd.f66 [vs nm] [] (RB nm)=RB nm:=by kernel_rfl


theorem wV (nm:ByteArray):nm.data.toList.length=nm.size:=by simp

theorem Tj (nm:ByteArray) (hN:nm.size≤1000000000):∀ (suf pre:List UInt8),nm.data.toList=pre++suf →
  Rounds (DI nm) EZ (G4 nm) (fun s=>(GB nm s).wp) (pre.length:Int) (if suf.all G2 then .inr () else .inl ())
 | [],pre,h=>by
  have e:nm.data.toList.length=pre.length:=by rw[h]; simp
  rw[if_pos (show ([]:List UInt8).all G2=true from rfl)]
  refine .done' (by simp[G4]) ?_
  unfold GB
  exact AC (fun h=>by have:=of_decide_eq_true h; omega) (fun _=>wp_leaf rfl ⟨rfl,rfl⟩)
 | c::suf,pre,h=>by
  have e:nm.data.toList.length=pre.length+(suf.length+1):=by rw[h]; simp
  have hs:=wV nm
  have hc:nm.data.toList[Int.toNat (pre.length:Int)]? = some c:=by rw[h]; simp
  cases hok:G2 c with
  | false=>
   rw[if_neg (by simp[hok])]
   refine .done (by simp[EZ]) ?_
   unfold GB
   refine AC (fun _=>CX (by omega) (by omega) (Bb c (by omega) (by simp[AA]) hc ?_)) (fun h=>by have:=of_decide_eq_false h; omega)
   repeat' (refine AC (fun _=>?_) (fun _=>?_))
   all_goals first
    | exact wp_leaf rfl ⟨rfl,rfl⟩
    | (exfalso; simp only[G2,Bool.or_eq_false_iff,Bool.and_eq_false_iff,decide_eq_false_iff_not,decide_eq_true_eq,bne_iff_ne,ne_eq,beq_eq_false_iff_ne,bne_eq_false_iff_eq] at *; omega)
  | true=>
   have ih:=Tj nm hN suf (pre++ [c]) (by rw[h]; simp)
   have hlen:((pre++ [c]).length:Int)=(pre.length:Int)+1:=by simp
   have hres:(if (c::suf).all G2=true then (.inr ():Unit ⊕ Unit) else .inl ())=(if suf.all G2=true then .inr () else .inl ()):=by rw[List.all_cons,hok,Bool.true_and]
   rw[hres]
   refine .next ?_ ih
   unfold GB
   refine AC (fun _=>CX (by omega) (by omega) (Bb c (by omega) (by simp[AA]) hc ?_)) (fun h=>by have:=of_decide_eq_false h; omega)
   repeat' (refine AC (fun _=>?_) (fun _=>?_))
   all_goals first
    | exact AP (by omega) (wp_leaf rfl ⟨rfl,by rw[hlen]⟩)
    | (exfalso; simp only[G2,Bool.or_eq_true,Bool.and_eq_true,decide_eq_false_iff_not,decide_eq_true_eq,bne_iff_ne,ne_eq,beq_iff_eq,bne_eq_false_iff_eq] at *; omega)

theorem eA (nm:ByteArray) (hN:nm.size≤1000000000) {K:AE→St→Prop} (h:K .ret ([(0,vb (CA nm))],[])):(RB nm).wp K:=by
 have l:=Tj nm hN nm.data.toList [] rfl
 unfold RB
 cases ha:nm.data.toList.all G2 with
 | false=>
  rw[if_neg (by simp[ha])] at l
  refine BH () rfl l ?_
  have:CA nm=false:=by simp[CA,ha]
  rw[this] at h
  exact wp_leaf rfl h
 | true=>
  rw[if_pos ha] at l
  refine Dk () rfl l (AC (fun h1=>?_) (fun h1=>?_))
  ·have h1:=of_decide_eq_true h1
   have:CA nm=decide ((nm.size:Int)≤(40:Int)):=by
    simp only[CA,ha,Bool.true_and]
    rw[decide_eq_true (show 0<nm.size by omega),Bool.true_and]
    congr 1
    simp
    omega
   rw[this] at h
   exact wp_leaf rfl h
  ·have h1:=of_decide_eq_false h1
   have:CA nm=false:=by
    simp only[CA,ha,Bool.true_and]
    rw[decide_eq_false (show ¬0<nm.size by omega),Bool.false_and]
   rw[this] at h
   exact wp_leaf rfl h

theorem pM:SoundF DP Q7 (.pure Jl):=
 A6 AZ Γ0_ok Bq mF mG mH (fun args r ⟨nm,hN,h1,h2⟩=>by
  subst h1 h2
  exact ⟨by rw[mI]; rfl,rfl,_,am nm,eA nm hN (.p _)⟩)


noncomputable def ZK (ro:Int) (us:Int) (fu:Int) (hid:List (Value×Value)) (nm:ByteArray):Tree:=
.leaf ⟨[0],[(0,0,none),(1,0,none)]⟩ [] .ret (some ([(0, .tup [.p (.v (.pointer none)),vi 10])],[.cells false 0 ([vi ro,vi us, .mp 1,vb true,vi fu]), .obj [] (AQ [] hid)]))

theorem YK (ro:Int) (us:Int) (fu:Int) (hid:List (Value×Value)) (nm:ByteArray):Av DP Γ0 Δ0 Tryd.f47 [.ptr 0 0 0,vs nm] [.cells false 0 ([vi ro,vi us, .mp 1,vb true,vi fu]), .obj [] (AQ [] hid)] (ZK ro us fu hid nm)=ZK ro us fu hid nm:=by kernel_rfl

noncomputable def ZL (ro:Int) (us:Int) (fu:Int) (hid:List (Value×Value)) (nm:ByteArray):Tree:=
.val (some 22) (ML DP 69 [.cells false 0 ([vi ro,vi us, .mp 1,vb false,vi fu]), .obj [] (AQ [] hid)] (.mp 1) (vs nm) (.tup [.p (.v (.pointer none)),vb false])) (.tup [.p (.v (.pointer none)),vb false]) [.cells false 0 ([vi ro,vi us, .mp 1,vb false,vi fu]), .obj [] (AQ [] hid)] (.leaf ⟨[0],[(0,0,none),(1,0,none)]⟩ [] .ret (some ([(0, .tup [.p (.v (.pointer none)),vi 4])],[.cells false 0 ([vi ro,vi us, .mp 1,vb false,vi fu]), .obj [] (AQ [] hid)])))

theorem YL (ro:Int) (us:Int) (fu:Int) (hid:List (Value×Value)) (nm:ByteArray):Av DP Γ0 Δ0 Tryd.f47 [.ptr 0 0 0,vs nm] [.cells false 0 ([vi ro,vi us, .mp 1,vb false,vi fu]), .obj [] (AQ [] hid)] (ZL ro us fu hid nm)=ZL ro us fu hid nm:=by kernel_rfl

noncomputable def ZM (ro:Int) (us:Int) (fu:Int) (hid:List (Value×Value)) (L:List UInt8) (su:Int) (nm:ByteArray):Tree:=
.val (some 22) (ML DP 69 [.cells false 0 ([vi ro,vi us, .mp 1,vb false,vi fu]), .obj [.ptr 2 0 0] (AQ [.string nm] hid), .cells false 0 ([.rs 3 0 1 0 L.length,vi su]),AA.bx 0 L] (.mp 1) (vs nm) (.tup [.ptr 2 0 0,vb true])) (.tup [.ptr 2 0 0,vb true]) [.cells false 0 ([vi ro,vi us, .mp 1,vb false,vi fu]), .obj [.ptr 2 0 0] (AQ [.string nm] hid), .cells false 0 ([.rs 3 0 1 0 L.length,vi su]),AA.bx 0 L] (.leaf ⟨[0],[(0,0,none),(1,0,none),(2,0,none),(3,0,some (L.map AA.f))]⟩ [rowC (L.map AA.f)] .ret (some ([(0, .tup [.ptr 2 0 0,vi 0])],[.cells false 0 ([vi ro,vi us, .mp 1,vb false,vi fu]), .obj [.ptr 2 0 0] (AQ [.string nm] hid), .cells false 0 ([.rs 3 0 1 0 L.length,vi su]),AA.bx 0 L])))

theorem YM (ro:Int) (us:Int) (fu:Int) (hid:List (Value×Value)) (L:List UInt8) (su:Int) (nm:ByteArray):Av DP Γ0 Δ0 Tryd.f47 [.ptr 0 0 0,vs nm] [.cells false 0 ([vi ro,vi us, .mp 1,vb false,vi fu]), .obj [.ptr 2 0 0] (AQ [.string nm] hid), .cells false 0 ([.rs 3 0 1 0 L.length,vi su]),AA.bx 0 L] (ZM ro us fu hid L su nm)=ZM ro us fu hid L su nm:=by kernel_rfl

noncomputable def ZN (ro:Int) (us:Int) (fu:Int) (hid:List (Value×Value)) (L:List UInt8) (su:Int) (M:List UInt8) (sv:Int) (nn:ByteArray) (nm:ByteArray):Tree:=
.val (some 22) (ML DP 69 [.cells false 0 ([vi ro,vi us, .mp 1,vb false,vi fu]), .obj [.ptr 2 0 0, .ptr 4 0 0] (AQ [.string nm, .string nn] hid), .cells false 0 ([.rs 3 0 1 0 L.length,vi su]),AA.bx 0 L, .cells false 0 ([.rs 5 0 1 0 M.length,vi sv]),AA.bx 0 M] (.mp 1) (vs nm) (.tup [.ptr 2 0 0,vb true])) (.tup [.ptr 2 0 0,vb true]) [.cells false 0 ([vi ro,vi us, .mp 1,vb false,vi fu]), .obj [.ptr 2 0 0, .ptr 4 0 0] (AQ [.string nm, .string nn] hid), .cells false 0 ([.rs 3 0 1 0 L.length,vi su]),AA.bx 0 L, .cells false 0 ([.rs 5 0 1 0 M.length,vi sv]),AA.bx 0 M] (.leaf ⟨[0],[(0,0,none),(1,0,none),(2,0,none),(3,0,some (L.map AA.f)),(4,0,none),(5,0,some (M.map AA.f))]⟩ [rowC (L.map AA.f),rowC (M.map AA.f)] .ret (some ([(0, .tup [.ptr 2 0 0,vi 0])],[.cells false 0 ([vi ro,vi us, .mp 1,vb false,vi fu]), .obj [.ptr 2 0 0, .ptr 4 0 0] (AQ [.string nm, .string nn] hid), .cells false 0 ([.rs 3 0 1 0 L.length,vi su]),AA.bx 0 L, .cells false 0 ([.rs 5 0 1 0 M.length,vi sv]),AA.bx 0 M])))

theorem YN (ro:Int) (us:Int) (fu:Int) (hid:List (Value×Value)) (L:List UInt8) (su:Int) (M:List UInt8) (sv:Int) (nn:ByteArray) (nm:ByteArray):Av DP Γ0 Δ0 Tryd.f47 [.ptr 0 0 0,vs nm] [.cells false 0 ([vi ro,vi us, .mp 1,vb false,vi fu]), .obj [.ptr 2 0 0, .ptr 4 0 0] (AQ [.string nm, .string nn] hid), .cells false 0 ([.rs 3 0 1 0 L.length,vi su]),AA.bx 0 L, .cells false 0 ([.rs 5 0 1 0 M.length,vi sv]),AA.bx 0 M] (ZN ro us fu hid L su M sv nn nm)=ZN ro us fu hid L su M sv nn nm:=by kernel_rfl

noncomputable def ZO (ro:Int) (us:Int) (fu:Int) (hid:List (Value×Value)):Tree:=
.sp 7 (decide (fu>(0:Int))) (
.int 12 (IntKind.i64.wrap (fu - 1)) (fu - 1) (.sp 26 ((fu - 1) == (0:Int)) (
.leaf ⟨[0],[(0,0,none),(1,0,none)]⟩ [] .ret (some ([(0,vi 10)],[.cells false 0 ([vi ro,vi us, .mp 1,vb ((fu - 1) == (0:Int)),vi (fu - 1)]), .obj [] (AQ [] hid)]))) (
.leaf ⟨[0],[(0,0,none),(1,0,none)]⟩ [] .ret (some ([(0,vi 0)],[.cells false 0 ([vi ro,vi us, .mp 1,vb ((fu - 1) == (0:Int)),vi (fu - 1)]), .obj [] (AQ [] hid)]))))) (
.leaf ⟨[0],[(0,0,none),(1,0,none)]⟩ [] .ret (some ([(0,vi 0)],[.cells false 0 ([vi ro,vi us, .mp 1,vb false,vi fu]), .obj [] (AQ [] hid)])))

theorem YO (ro:Int) (us:Int) (fu:Int) (hid:List (Value×Value)):Av DP Γ0 Δ0 Tryd.f67 [.ptr 0 0 0] [.cells false 0 ([vi ro,vi us, .mp 1,vb false,vi fu]), .obj [] (AQ [] hid)] (ZO ro us fu hid)=ZO ro us fu hid:=by kernel_rfl

noncomputable def ZP (ro:Int) (us:Int) (fu:Int) (hid:List (Value×Value)) (L:List UInt8) (su:Int) (nm:ByteArray):Tree:=
.sp 7 (decide (fu>(0:Int))) (
.int 12 (IntKind.i64.wrap (fu - 1)) (fu - 1) (.sp 26 ((fu - 1) == (0:Int)) (
.leaf ⟨[0],[(0,0,none),(1,0,none),(2,0,none),(3,0,some (L.map AA.f))]⟩ [rowC (L.map AA.f)] .ret (some ([(0,vi 10)],[.cells false 0 ([vi ro,vi us, .mp 1,vb ((fu - 1) == (0:Int)),vi (fu - 1)]), .obj [.ptr 2 0 0] (AQ [.string nm] hid), .cells false 0 ([.rs 3 0 1 0 L.length,vi su]),AA.bx 0 L]))) (
.leaf ⟨[0],[(0,0,none),(1,0,none),(2,0,none),(3,0,some (L.map AA.f))]⟩ [rowC (L.map AA.f)] .ret (some ([(0,vi 0)],[.cells false 0 ([vi ro,vi us, .mp 1,vb ((fu - 1) == (0:Int)),vi (fu - 1)]), .obj [.ptr 2 0 0] (AQ [.string nm] hid), .cells false 0 ([.rs 3 0 1 0 L.length,vi su]),AA.bx 0 L]))))) (
.leaf ⟨[0],[(0,0,none),(1,0,none),(2,0,none),(3,0,some (L.map AA.f))]⟩ [rowC (L.map AA.f)] .ret (some ([(0,vi 0)],[.cells false 0 ([vi ro,vi us, .mp 1,vb false,vi fu]), .obj [.ptr 2 0 0] (AQ [.string nm] hid), .cells false 0 ([.rs 3 0 1 0 L.length,vi su]),AA.bx 0 L])))

theorem YP (ro:Int) (us:Int) (fu:Int) (hid:List (Value×Value)) (L:List UInt8) (su:Int) (nm:ByteArray):Av DP Γ0 Δ0 Tryd.f67 [.ptr 0 0 0] [.cells false 0 ([vi ro,vi us, .mp 1,vb false,vi fu]), .obj [.ptr 2 0 0] (AQ [.string nm] hid), .cells false 0 ([.rs 3 0 1 0 L.length,vi su]),AA.bx 0 L] (ZP ro us fu hid L su nm)=ZP ro us fu hid L su nm:=by kernel_rfl

noncomputable def ZQ (ro:Int) (us:Int) (fu:Int) (hid:List (Value×Value)) (L:List UInt8) (su:Int) (M:List UInt8) (sv:Int) (nm:ByteArray) (nn:ByteArray):Tree:=
.sp 7 (decide (fu>(0:Int))) (
.int 12 (IntKind.i64.wrap (fu - 1)) (fu - 1) (.sp 26 ((fu - 1) == (0:Int)) (
.leaf ⟨[0],[(0,0,none),(1,0,none),(2,0,none),(3,0,some (L.map AA.f)),(4,0,none),(5,0,some (M.map AA.f))]⟩ [rowC (L.map AA.f),rowC (M.map AA.f)] .ret (some ([(0,vi 10)],[.cells false 0 ([vi ro,vi us, .mp 1,vb ((fu - 1) == (0:Int)),vi (fu - 1)]), .obj [.ptr 2 0 0, .ptr 4 0 0] (AQ [.string nm, .string nn] hid), .cells false 0 ([.rs 3 0 1 0 L.length,vi su]),AA.bx 0 L, .cells false 0 ([.rs 5 0 1 0 M.length,vi sv]),AA.bx 0 M]))) (
.leaf ⟨[0],[(0,0,none),(1,0,none),(2,0,none),(3,0,some (L.map AA.f)),(4,0,none),(5,0,some (M.map AA.f))]⟩ [rowC (L.map AA.f),rowC (M.map AA.f)] .ret (some ([(0,vi 0)],[.cells false 0 ([vi ro,vi us, .mp 1,vb ((fu - 1) == (0:Int)),vi (fu - 1)]), .obj [.ptr 2 0 0, .ptr 4 0 0] (AQ [.string nm, .string nn] hid), .cells false 0 ([.rs 3 0 1 0 L.length,vi su]),AA.bx 0 L, .cells false 0 ([.rs 5 0 1 0 M.length,vi sv]),AA.bx 0 M]))))) (
.leaf ⟨[0],[(0,0,none),(1,0,none),(2,0,none),(3,0,some (L.map AA.f)),(4,0,none),(5,0,some (M.map AA.f))]⟩ [rowC (L.map AA.f),rowC (M.map AA.f)] .ret (some ([(0,vi 0)],[.cells false 0 ([vi ro,vi us, .mp 1,vb false,vi fu]), .obj [.ptr 2 0 0, .ptr 4 0 0] (AQ [.string nm, .string nn] hid), .cells false 0 ([.rs 3 0 1 0 L.length,vi su]),AA.bx 0 L, .cells false 0 ([.rs 5 0 1 0 M.length,vi sv]),AA.bx 0 M])))

theorem YQ (ro:Int) (us:Int) (fu:Int) (hid:List (Value×Value)) (L:List UInt8) (su:Int) (M:List UInt8) (sv:Int) (nm:ByteArray) (nn:ByteArray):Av DP Γ0 Δ0 Tryd.f67 [.ptr 0 0 0] [.cells false 0 ([vi ro,vi us, .mp 1,vb false,vi fu]), .obj [.ptr 2 0 0, .ptr 4 0 0] (AQ [.string nm, .string nn] hid), .cells false 0 ([.rs 3 0 1 0 L.length,vi su]),AA.bx 0 L, .cells false 0 ([.rs 5 0 1 0 M.length,vi sv]),AA.bx 0 M] (ZQ ro us fu hid L su M sv nm nn)=ZQ ro us fu hid L su M sv nm nn:=by kernel_rfl


theorem tS:SoundR DP Oe RFind:=
 Al AZ Γ0_ok Bq ot ou ov (fun args B r B' h=>by
  cases h with
  | d ro us fu hid nm=>exact ⟨by rw[Q8]; rfl,_,YK ro us fu hid nm,wp_leaf rfl ⟨rfl,rfl⟩⟩
  | a ro us fu hid hs nm hh hn=>exact ⟨by rw[Q8]; rfl,_,YL ro us fu hid nm,Dn (mC Ut Uu tR (ns:= []) rfl hh (by simp) hn) (wp_leaf rfl ⟨rfl,rfl⟩)⟩
  | p ro us fu hid hs x hh=>exact ⟨by rw[Q8]; rfl,_,YM ro us fu hid x.b x.sure x.name,Dn (ZI Ut Uu (ns:= []) rfl hh) (wp_leaf rfl ⟨rfl,rfl⟩)⟩
  | q ro us fu hid hs x y hh=>exact ⟨by rw[Q8]; rfl,_,YN ro us fu hid x.b x.sure y.b y.sure y.name x.name,Dn (ZI Ut Uu (ns:= [y.name]) rfl hh) (wp_leaf rfl ⟨rfl,rfl⟩)⟩)

theorem SX {fu:Int} (hfu:fu<9223372036854775808) {T:Int→Bool→Int→Tree} {K:AE→St→Prop}
  (hT:∀ f d e,f=De fu→d=Da fu→e=EA fu→(T f d e).wp K):
  (Tree.sp 7 (decide (fu>(0:Int))) (.int 12 (IntKind.i64.wrap (fu - 1)) (fu - 1) (.sp 26 ((fu - 1) == (0:Int)) (T (fu - 1) ((fu - 1) == (0:Int)) 10) (T (fu - 1) ((fu - 1) == (0:Int)) 0))) (T fu false 0)).wp K:=by
 refine AC (fun h=>AP (by have:=of_decide_eq_true h; omega) (AC (fun h2=>?_) (fun h2=>?_))) (fun h=>?_)
 ·have h:=of_decide_eq_true h
  exact hT _ _ _ (by rw[De,if_pos h]) (by rw[Da,decide_eq_true h,Bool.true_and]) (by rw[EA,Da,decide_eq_true h,Bool.true_and,h2]; rfl)
 ·have h:=of_decide_eq_true h
  exact hT _ _ _ (by rw[De,if_pos h]) (by rw[Da,decide_eq_true h,Bool.true_and]) (by rw[EA,Da,decide_eq_true h,Bool.true_and,h2]; rfl)
 ·have h:=of_decide_eq_false h
  exact hT _ _ _ (by rw[De,if_neg h]) (by rw[Da,decide_eq_false h,Bool.false_and]) (by rw[EA,Da,decide_eq_false h,Bool.false_and]; rfl)

theorem tT:SoundR DP Of RStep:=
 Al AZ Γ0_ok Bq ow oz o4 (fun args B r B' h=>by
  cases h with
  | mk ro us fu hid X hX hfu=>
   match X,hX with
   | [],_=>exact ⟨by rw[Vq]; rfl,_,YO ro us fu hid,SX (T:=fun f d e=> .leaf _ [] .ret (some ([(0,vi e)],BA (G3 ro us f d) [] hid))) hfu (fun f d e h1 h2 h3=>by subst h1 h2 h3; exact wp_leaf rfl ⟨rfl,rfl⟩)⟩
   | [x],_=>exact ⟨by rw[Vq]; rfl,_,YP ro us fu hid x.b x.sure x.name,SX (T:=fun f d e=> .leaf ⟨[0],[(0,0,none),(1,0,none),(2,0,none),(3,0,some (x.b.map AA.f))]⟩ [rowC (x.b.map AA.f)] .ret (some ([(0,vi e)],BA (G3 ro us f d) [x] hid))) hfu (fun f d e h1 h2 h3=>by subst h1 h2 h3; exact wp_leaf rfl ⟨rfl,rfl⟩)⟩
   | [x,y],_=>exact ⟨by rw[Vq]; rfl,_,YQ ro us fu hid x.b x.sure y.b y.sure x.name y.name,SX (T:=fun f d e=> .leaf ⟨[0],[(0,0,none),(1,0,none),(2,0,none),(3,0,some (x.b.map AA.f)),(4,0,none),(5,0,some (y.b.map AA.f))]⟩ [rowC (x.b.map AA.f),rowC (y.b.map AA.f)] .ret (some ([(0,vi e)],BA (G3 ro us f d) [x,y] hid))) hfu (fun f d e h1 h2 h3=>by subst h1 h2 h3; exact wp_leaf rfl ⟨rfl,rfl⟩)⟩
   | _::_::_::_,h=>exact absurd h (by simp))

noncomputable def ΓF:BF:=fun f=>if f=Q7 then .pure Jl else .none
theorem ΓF_ok:∀ f,SoundF DP f (ΓF f):=fun f=>by
 unfold ΓF
 split
 ·rename_i e; rw[e]; exact pM
 ·exact MA f
def ΔF:CB:=fun f=>if f=Oe then AX RFind else if f=Of then AX RStep else fun _ _ _ _=>False
theorem tU:∀ f,SoundR DP f (ΔF f):=fun f=>by
 unfold ΔF
 split
 ·rename_i e; rw[e]; exact AU tS
 split
 ·rename_i e; rw[e]; exact AU tT
 ·exact .none f

end Go.Ax
