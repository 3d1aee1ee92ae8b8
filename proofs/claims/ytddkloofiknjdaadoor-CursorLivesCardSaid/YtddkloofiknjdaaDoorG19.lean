/- through: changes are put behind all that are not above: plain, and the loops. -/
import Derived.Test.YtddkloofiknjdaaDoorG18
set_option linter.unusedVariables false
set_option linter.unusedSimpArgs false
set_option linter.unusedSectionVars false
namespace Go.Ax
open Go.Proofs Go.RowKit
set_option maxRecDepth 100000

def Et (i:Nat) (e:Ent):List (Nat×Ent)→List (Nat×Ent)
 | []=> [(i,e)]
 | a::AL=>if BK a.2 e≤0 then a::Et i e AL else (i,e)::a::AL
theorem Xw {i:Nat} {e:Ent}:∀ {AL:List (Nat×Ent)} {a:Nat×Ent},a∈Et i e AL→a=(i,e)∨a∈AL
 | [],a,h=> .inl (List.mem_singleton.1 h)
 | b::AL,a,h=>by
  unfold Et at h
  split at h
  ·rcases List.mem_cons.1 h with rfl | h
   ·exact .inr (by simp)
   ·rcases Xw h with h | h
    ·exact .inl h
    ·exact .inr (by simp[h])
  ·rcases List.mem_cons.1 h with rfl | h
   ·exact .inl rfl
   ·exact .inr h
theorem oT {x y:Ent} (h:¬BK x y≤0):Bz y x:=by
 rcases ltE_tri x y with g | g | g
 ·have:=(D5 x y).2 g; omega
 ·have:=(E8 x y).2 g; omega
 ·exact g
theorem sm {a b:Nat×Ent} {e:Ent} (h:Bz e a.2) (g:Lw a b):Bz e b.2:=by
 rcases g with g | ⟨⟨g1,g2⟩,_⟩
 ·exact Dy h g
 ·unfold Bz at h ⊢
  rw[←g1,←g2]; exact h
theorem UG {i:Nat} {e:Ent}:∀ {AL:List (Nat×Ent)},AL.Pairwise Lw→(∀ a∈AL,a.1≤i)→(∀ y∈ofL AL i,Bz y e) →
  (Et i e AL).Pairwise Lw∧(∀ a∈Et i e AL,a.1≤i)∧ofL (Et i e AL) i=ofL AL i++ [e]∧∀ j,j≠i→ofL (Et i e AL) j=ofL AL j
 | [],_,_,_=>⟨List.pairwise_singleton _ _,fun a h=>by rw[List.mem_singleton.1 h]; exact Nat.le_refl _,by unfold Et; rw[C9,if_pos rfl]; rfl,fun j hj=>by unfold Et; rw[C9,if_neg (fun h=>hj h.symm)]⟩
 | a::AL,up,lt,hi=>by
  have lt':∀ b∈AL,b.1≤i:=fun b hb=>lt b (by simp[hb])
  have hi':∀ y∈ofL AL i,Bz y e:=fun y hy=>hi y (by
   rw[C9]
   split
   ·simp[hy]
   ·exact hy)
  obtain ⟨q1,q2,q3,q4⟩:=UG up.of_cons lt' hi'
  unfold Et
  split
  ·rename_i hc
   refine ⟨.cons (fun b hb=>?_) q1,fun b hb=>?_,?_,fun j hj=>?_⟩
   ·rcases Xw hb with rfl | hb
    ·rcases ltE_tri a.2 e with g | g | g
     ·exact .inl g
     ·refine .inr ⟨g,?_⟩
      have h1:=lt a (by simp)
      have h2:a.1≠i:=fun e'=>by
       have:=hi a.2 (by rw[C9,if_pos e']; simp)
       have h3:=(D5 a.2 e).2 this
       have h4:=(E8 a.2 e).2 g
       omega
      simp only; omega
     ·exact absurd ((D5 e a.2).2 g) (by
       intro h
       rcases ltE_tri a.2 e with g2 | g2 | g2
       ·exact PA (Dy g g2)
       ·have h5:=(E8 a.2 e).2 g2
        have h6:=(E8 e a.2).2 ⟨g2.1.symm,g2.2.symm⟩
        omega
       ·have h7:¬BK a.2 e<0:=fun z=>PA (Dy ((D5 a.2 e).1 z) g)
        have h8:¬BK a.2 e=0:=fun z=>by
         have:=(E8 a.2 e).1 z
         have h6:=(E8 e a.2).2 ⟨this.1.symm,this.2.symm⟩
         omega
        omega)
    ·exact List.rel_of_pairwise_cons up hb
   ·rcases List.mem_cons.1 hb with rfl | hb
    ·exact lt b (by simp)
    ·exact q2 b hb
   ·rw[C9,C9,q3]
    split <;> rfl
   ·rw[C9,C9,q4 j hj]
  ·rename_i hc
   have hea:=oT hc
   have hall:∀ b∈a::AL,Bz e b.2:=fun b hb=>by
    rcases List.mem_cons.1 hb with rfl | hb
    ·exact hea
    ·exact sm hea (List.rel_of_pairwise_cons up hb)
   have hnil:ofL (a::AL) i= []:=by
    cases h:ofL (a::AL) i with
    | nil=>rfl
    | cons z t=>
     have hz:z∈ofL (a::AL) i:=by rw[h]; simp
     exact absurd (Dy (hi z hz) (hall _ (ofL_mem hz))) (fun h=>PA h)
   refine ⟨.cons (fun b hb=> .inl (hall b hb)) up,fun b hb=>?_,?_,fun j hj=>?_⟩
   ·rcases List.mem_cons.1 hb with rfl | hb
    ·exact Nat.le_refl _
    ·exact lt b hb
   ·rw[C9,if_pos rfl,hnil]; rfl
   ·rw[C9 (i,e),if_neg (fun h=>hj h.symm)]
theorem Qf (i:Nat) (e:Ent):∀ AL:List (Nat×Ent),(Et i e AL).length=AL.length+1
 | []=>rfl
 | a::AL=>by
  unfold Et
  split
  ·rw[List.length_cons,Qf i e AL]; rfl
  ·rfl
def Eg (i:Nat) (own:List Ent) (AL:List (Nat×Ent)):List (Nat×Ent):=own.foldl (fun AL e=>Et i e AL) AL
theorem UH {i:Nat}:∀ {own:List Ent} {AL:List (Nat×Ent)},own.Pairwise Bz→AL.Pairwise Lw→(∀ a∈AL,a.1≤i)→(∀ y∈ofL AL i,∀ e∈own,Bz y e) →
  (Eg i own AL).Pairwise Lw∧(∀ a∈Eg i own AL,a.1≤i)∧ofL (Eg i own AL) i=ofL AL i++own∧(∀ j,j≠i→ofL (Eg i own AL) j=ofL AL j)∧(Eg i own AL).length=AL.length+own.length
 | [],AL,_,up,lt,_=>⟨up,lt,(List.append_nil _).symm,fun _ _=>rfl,rfl⟩
 | e::own,AL,ho,up,lt,hi=>by
  obtain ⟨q1,q2,q3,q4⟩:=UG (e:=e) up lt fun y hy=>hi y hy e (by simp)
  obtain ⟨r1,r2,r3,r4,r5⟩:=UH (own:=own) ho.of_cons q1 q2 (fun y hy z hz=>by
   rw[q3] at hy
   rcases List.mem_append.1 hy with hy | hy
   ·exact hi y hy z (by simp[hz])
   ·rw[List.mem_singleton.1 hy]
    exact List.rel_of_pairwise_cons ho hz)
  refine ⟨r1,r2,?_,fun j hj=>?_,?_⟩
  ·show ofL (Eg i own (Et i e AL)) i=_
   rw[r3,q3,List.append_assoc]; rfl
  ·show ofL (Eg i own (Et i e AL)) j=_
   rw[r4 j hj,q4 j hj]
  ·show (Eg i own (Et i e AL)).length=_
   rw[r5,Qf,List.length_cons]; omega
def atW (e:Ent) (A:List Ent):Nat:=(A.takeWhile fun y=>decide (BK y e≤0)).length
def Gc (e:Ent) (A:List Ent):List Ent:=A.take (atW e A)++e::A.drop (atW e A)
theorem Xx (i:Nat) (e:Ent):∀ AL:List (Nat×Ent),(Et i e AL).map (·.2)=Gc e (AL.map (·.2))
 | []=>rfl
 | a::AL=>by
  have ih:=Xx i e AL
  unfold Et Gc atW
  rw[List.map_cons]
  by_cases h:BK a.2 e≤0
  ·rw[if_pos h,List.takeWhile_cons,if_pos (decide_eq_true h),List.length_cons,List.map_cons,ih]
   rfl
  ·rw[if_neg h,List.takeWhile_cons,if_neg (by rw[decide_eq_false h]; decide)]
   rfl
theorem Xy (i:Nat):∀ (own:List Ent) (AL:List (Nat×Ent)),(Eg i own AL).map (·.2)=own.foldl (fun A e=>Gc e A) (AL.map (·.2))
 | [],_=>rfl
 | e::own,AL=>by
  show (Eg i own (Et i e AL)).map (·.2)=own.foldl _ (Gc e (AL.map (·.2)))
  rw[Xy i own,Xx]
theorem Xz (e:Ent) (A:List Ent):atW e A≤A.length:=(List.takeWhile_prefix _).length_le
theorem gn (e:Ent):∀ (A:List Ent) (i:Nat) (y:Ent),i<atW e A→A[i]? = some y→BK y e≤0
 | [],i,y,h,_=>by simp[atW] at h
 | z::A,i,y,h,hy=>by
  unfold atW at h
  by_cases hz:BK z e≤0
  ·rw[List.takeWhile_cons,if_pos (decide_eq_true hz),List.length_cons] at h
   cases i with
   | zero=>cases hy; exact hz
   | succ i=>exact gn e A i y (by unfold atW; omega) (by simpa using hy)
  ·rw[List.takeWhile_cons,if_neg (by rw[decide_eq_false hz]; decide)] at h
   simp at h
theorem gr (e:Ent):∀ (A:List Ent) (y:Ent),A[atW e A]? = some y→¬BK y e≤0
 | [],y,h=>by simp at h
 | z::A,y,h=>by
  unfold atW at h
  by_cases hz:BK z e≤0
  ·rw[List.takeWhile_cons,if_pos (decide_eq_true hz),List.length_cons,List.getElem?_cons_succ] at h
   exact gr e A y h
  ·rw[List.takeWhile_cons,if_neg (by rw[decide_eq_false hz]; decide)] at h
   cases h
   exact hz
theorem kZ (e:Ent) (A:List Ent):(Gc e A).length=A.length+1:=by
 have:=Xz e A
 unfold Gc
 rw[List.length_append,List.length_take,List.length_cons,List.length_drop]; omega
section
variable {B : List Box} {m i n : Nat} {times : Int} {lists : List (List Ent)} {own : List Ent}
theorem OM {sl:List Nat} {m a v:Nat} {L:List Ent}:B9 (DH sl m [(a,v,some (L.map AB.f))]) [rowC (L.map AB.f)]:=by
 unfold B9 DH
 simp
theorem dG {s:List Ent×Int} {e:Ent} (hO:s.1.length≤1000000):∀ (j z:Nat),z+j=atW e s.1→Rounds (SA B m i n times lists own s e) (SB B m i n times lists own s e) CN (fun z=>(SC B m i n times lists own s e z).wp) (z:Int) (.inl ((atW e s.1:Nat):Int)):=by
 have hle:=Xz e s.1
 intro j
 induction j with
 | zero=>
  intro z hs
  rw[Nat.add_zero] at hs
  subst hs
  refine .done (by intro e; cases e) ?_
  unfold SC
  refine Cg (AC (fun h=>?_) (fun _=>wp_leaf (Dd 0) ⟨rfl,rfl⟩))
  have h:=of_decide_eq_true h
  obtain ⟨y,hy⟩:∃ y,s.1[atW e s.1]? = some y:=⟨_,List.getElem?_eq_getElem (by omega)⟩
  have hn:=gr e s.1 y hy
  exact CX (by omega) (by omega) (Bb y (by omega) (by simp[AB]) (by simpa using hy) (Ac (Dm y e) (AC (fun q=>absurd (of_decide_eq_true q) hn) (fun _=>wp_leaf (Dd 0) ⟨rfl,rfl⟩))))
 | succ j ih=>
  intro z hs
  have hr:=ih (z+1) (by omega)
  rw[show ((z+1:Nat):Int)=(z:Int)+1 by omega] at hr
  obtain ⟨y,hy⟩:∃ y,s.1[z]? = some y:=⟨_,List.getElem?_eq_getElem (by omega)⟩
  have hn:=gn e s.1 z y (by omega) hy
  refine .next ?_ hr
  unfold SC
  exact Cg (AC (fun _=>CX (by omega) (by omega) (Bb y (by omega) (by simp[AB]) (by simpa using hy) (Ac (Dm y e) (AC (fun _=>AP (by omega) (wp_leaf (Dd 0) ⟨rfl,rfl⟩)) (fun q=>absurd hn (of_decide_eq_false q)))))) (fun h'=>absurd (of_decide_eq_false h') (by omega)))
theorem SE (hO:own.length≤100000):∀ (M:List Ent) (j:Nat) (A:List Ent),own.drop j=M→j+M.length=own.length→A.length+M.length≤1000000 →
  Rounds (Lx B m i n times lists own) (R9 B m i n times lists) CN (fun s=>(OL B m i n times lists own s).wp) (A,(j:Int)) (.inl (M.foldl (fun A e=>Gc e A) A)):=by
 intro M
 induction M with
 | nil=>
  intro j A hM hl hA
  simp only[List.length_nil] at hl
  refine .done (by intro e; cases e) ?_
  unfold OL
  exact AC (fun h'=>absurd (of_decide_eq_true h') (by simp only; omega)) (fun _=>wp_leaf (Ef 0) ⟨rfl,rfl⟩)
 | cons e M ih=>
  intro j A hM hl hA
  simp only[List.length_cons] at hl hA
  have gx:own[j]? = some e:=by rw[←List.head?_drop,hM]; rfl
  have hM':own.drop (j+1)=M:=by rw[←List.drop_drop,hM]; rfl
  have hr:=ih (j+1) (Gc e A) hM' (by omega) (by rw[kZ]; omega)
  rw[show ((j+1:Nat):Int)=(j:Int)+1 by omega] at hr
  rw[List.foldl_cons]
  refine .next ?_ hr
  have hk:=Xz e A
  have e1:cutL none (some ((atW e A:Nat):Int)) A=A.take (atW e A):=rfl
  have e2:cutL (some ((atW e A:Nat):Int)) none A=A.drop (atW e A):=rfl
  have l1:(A.take (atW e A)).length≤atW e A:=by rw[List.length_take]; omega
  have l2:(A.drop (atW e A)).length=A.length - atW e A:=List.length_drop
  unfold OL
  refine AC (fun _=>Ci e (by simp only; omega) (by simpa using gx) (BH _ (Dd 0) (dG (s:=(A,(j:Int))) (by simp only; omega) (atW e A) 0 (Nat.zero_add _)) ?_)) (fun h'=>absurd (of_decide_eq_false h') (by simp only; omega))
  refine LU (by simp only[CE]; omega) (BW (Zr hk) rfl ?_ (BW ⟨rfl,?_⟩ rfl ?_ (LU (by simp only[CE]; omega) (BW (Zs hk) rfl ?_ (AP (by simp only; omega) (wp_leaf OM ⟨rfl,?_⟩))))))
  ·rw[e1,List.nil_append]; omega
  ·rfl
  ·rw[e1,List.nil_append,List.length_append]; simp only[List.length_singleton]; omega
  ·rw[e1,e2,List.nil_append,List.length_append,List.length_append]; simp only[List.length_singleton]; omega
  ·have ei:([]++cutL none (some ((atW e A:Nat):Int)) A++ [e])++cutL (some ((atW e A:Nat):Int)) none A=Gc e A:=by
    rw[e1,e2]; unfold Gc; simp
   simp only[ei]
end

/-- Whether it is in a file. -/
def CW (i:Nat) (own:List Ent):Bool:=decide (i % 2=1)&& !own.isEmpty
def Bv:Nat→List (List Ent)→List Bool
 | _,[]=> []
 | i,L::Ls=>CW i L::Bv (i+1) Ls
def GT (i:Nat) (k:Bool) (own:List Ent):LeafD:=if k then Xt (Bo i) (FJ own) else M4 own
def C7:Nat→List (List Ent)→List LeafD
 | _,[]=> []
 | i,L::Ls=>GT i (CW i L) L::C7 (i+1) Ls
def J8 (i:Nat) (own:List Ent) (D:Dsk):Dsk:=if CW i own then (Cb D (Bo i) (As own)).1 else D
def UI:Nat→List (List Ent)→Dsk→Dsk
 | _,[],D=>D
 | i,L::Ls,D=>UI (i+1) Ls (J8 i L D)
def Gs:Nat→List (List Ent)→List (Nat×Ent)→List (Nat×Ent)
 | _,[],AL=>AL
 | i,L::Ls,AL=>Gs (i+1) Ls (Eg i L AL)
theorem Di:∀ (i:Nat) (Ls:List (List Ent)),(Bv i Ls).length=Ls.length
 | _,[]=>rfl
 | i,L::Ls=>by
  show (_::Bv (i+1) Ls).length=_
  rw[List.length_cons,Di (i+1) Ls]; rfl
theorem Hn:∀ (i:Nat) (Ls:List (List Ent)),(C7 i Ls).length=Ls.length
 | _,[]=>rfl
 | i,L::Ls=>by
  show (_::C7 (i+1) Ls).length=_
  rw[List.length_cons,Hn (i+1) Ls]; rfl
theorem X1 (L:List Ent):∀ (i:Nat) (Ls:List (List Ent)),Bv i (Ls++ [L])=Bv i Ls++ [CW (i+Ls.length) L]
 | _,[]=>rfl
 | i,M::Ls=>by
  show CW i M::Bv (i+1) (Ls++ [L])=CW i M::(Bv (i+1) Ls++_)
  rw[X1 L (i+1) Ls,List.length_cons,show i+1+Ls.length=i+(Ls.length+1) by omega]
theorem X2 (L:List Ent):∀ (i:Nat) (Ls:List (List Ent)),C7 i (Ls++ [L])=C7 i Ls++ [GT (i+Ls.length) (CW (i+Ls.length) L) L]
 | _,[]=>rfl
 | i,M::Ls=>by
  show GT i (CW i M) M::C7 (i+1) (Ls++ [L])=GT i (CW i M) M::(C7 (i+1) Ls++_)
  rw[X2 L (i+1) Ls,List.length_cons,show i+1+Ls.length=i+(Ls.length+1) by omega]
theorem Qg (L:List Ent):∀ (i:Nat) (Ls:List (List Ent)) (D:Dsk),UI i (Ls++ [L]) D=J8 (i+Ls.length) L (UI i Ls D)
 | _,[],_=>rfl
 | i,M::Ls,D=>by
  show UI (i+1) (Ls++ [L]) (J8 i M D)=J8 _ L (UI (i+1) Ls (J8 i M D))
  rw[Qg L (i+1) Ls,List.length_cons,show i+1+Ls.length=i+(Ls.length+1) by omega]
theorem Qh (L:List Ent):∀ (i:Nat) (Ls:List (List Ent)) (AL:List (Nat×Ent)),Gs i (Ls++ [L]) AL=Eg (i+Ls.length) L (Gs i Ls AL)
 | _,[],_=>rfl
 | i,M::Ls,AL=>by
  show Gs (i+1) (Ls++ [L]) (Eg i M AL)=Eg _ L (Gs (i+1) Ls (Eg i M AL))
  rw[Qh L (i+1) Ls,List.length_cons,show i+1+Ls.length=i+(Ls.length+1) by omega]
theorem Ko (k:Bool):∀ kd:List Bool,BS (kd++ [k])=BS kd+(if k then 1 else 0)
 | []=>by cases k <;> rfl
 | true::kd=>by
  show BS (kd++ [k])+1=BS kd+1+_
  rw[Ko k kd]; omega
 | false::kd=>Ko k kd
theorem sn:∀ n:Fin 6,0<n.val→([],n.val)∈Jb:=by decide
theorem so:∀ (b:Bool) (n:Fin 6),2<n.val→([false,b],n.val)∈Jb:=by decide
theorem sq:∀ (b d:Bool) (n:Fin 6),4<n.val→([false,b,false,d],n.val)∈Jb:=by decide
theorem sr:∀ n:Fin 6,1<n.val→([false],n.val)∈Ly:=by decide
theorem ss:∀ (b:Bool) (n:Fin 6),3<n.val→([false,b,false],n.val)∈Ly:=by decide
theorem gt:∀ (P:List (List Ent)) (n:Nat),P.length<n→n≤5→P.length % 2=0→(Bv 0 P,n)∈Jb
 | [],n,h,h5,_=>sn ⟨n,by omega⟩ h
 | [_],n,_,_,h=>absurd h (by simp)
 | [a,b],n,h,h5,_=>so (CW 1 b) ⟨n,by omega⟩ h
 | [_,_,_],n,_,_,h=>absurd h (by simp)
 | [a,b,c,d],n,h,h5,_=>sq (CW 1 b) (CW 3 d) ⟨n,by omega⟩ h
 | _::_::_::_::_::P,n,h,h5,_=>by simp only[List.length_cons] at h; omega
theorem gu:∀ (P:List (List Ent)) (n:Nat),P.length<n→n≤5→P.length % 2=1→(Bv 0 P,n)∈Ly
 | [],n,h,h5,h2=>absurd h2 (by decide)
 | [_],n,h,h5,_=>sr ⟨n,by omega⟩ h
 | [_,_],n,_,_,h=>absurd h (by simp)
 | [a,b,c],n,h,h5,_=>ss (CW 1 b) ⟨n,by omega⟩ h
 | [_,_,_,_],n,_,_,h=>absurd h (by simp)
 | _::_::_::_::_::P,n,h,h5,_=>by simp only[List.length_cons] at h; omega
theorem PY:∀ b d:Bool,[]∈FX∧ [false]∈FX∧ [false,b]∈FX∧ [false,b,false]∈FX∧ [false,b,false,d]∈FX∧ [false,b,false,d,false]∈FX:=by decide
theorem SF:∀ b d:Bool,[false]∈BP∧ [false,b]∈BP∧ [false,b,false]∈BP∧ [false,b,false,d]∈BP∧ [false,b,false,d,false]∈BP:=by decide
theorem X3:∀ (P:List (List Ent)),P.length≤5→Bv 0 P∈FX
 | [],_=>(PY true true).1
 | [_],_=>(PY true true).2.1
 | [a,b],_=>(PY (CW 1 b) true).2.2.1
 | [a,b,c],_=>(PY (CW 1 b) true).2.2.2.1
 | [a,b,c,d],_=>(PY (CW 1 b) (CW 3 d)).2.2.2.2.1
 | [a,b,c,d,e],_=>(PY (CW 1 b) (CW 3 d)).2.2.2.2.2
 | _::_::_::_::_::_::P,h=>by simp only[List.length_cons] at h; omega
theorem X4:∀ (P:List (List Ent)),P≠ []→P.length≤5→Bv 0 P∈BP
 | [],h,_=>absurd rfl h
 | [_],_,_=>(SF true true).1
 | [a,b],_,_=>(SF (CW 1 b) true).2.1
 | [a,b,c],_,_=>(SF (CW 1 b) true).2.2.1
 | [a,b,c,d],_,_=>(SF (CW 1 b) (CW 3 d)).2.2.2.1
 | [a,b,c,d,e],_,_=>(SF (CW 1 b) (CW 3 d)).2.2.2.2
 | _::_::_::_::_::_::P,_,h=>by simp only[List.length_cons] at h; omega
section
variable {kd : List Bool} {xs : List LeafD} {D : Dsk} {A : List Ent} {n : Nat} {times : Int} {lists : List (List Ent)} {own : List Ent}
theorem aF (f:Nat→Nat) (l:List Nat):l.filterMap ((fun b:Nat×Nat×Option (List PV)=>Option.map rowC b.2.2) ∘ fun j=>(f j,0,none))= []:=List.filterMap_eq_nil_iff.2 fun _ _=>rfl
theorem TT (h:xs.length=kd.length):(Ck kd xs D).length=CR kd:=by
 unfold Ck
 simp only[List.length_cons,List.length_append,D3 _ _ _ h,Hm _ _ _ h,List.length_nil]
 show _=3+kd.length+BS kd
 omega
theorem ΓT_ok:∀ f,SoundF DP f (ΓT f):=An rl (An RT Bu)
theorem dH:∀ f,SoundR DP f (ΔT f):=AY (AU ng) (AY (AU rg) (AY (AU sa) (AY (AU Xk) BJ)))
theorem v7 (hp:(kd,n)∈Jb) (hl:xs.length=kd.length) (h5:kd.length≤5):
  Bg DP ΓT ΔT 126 1 Kn (St.as (Fe (CR kd) kd.length kd.length n times lists A,Ck kd xs D++ [AB.bx 0 A])) (Qd kd xs D A n times lists own) (CP 1)=Qd kd xs D A n times lists own:=by
 have hc:Bg DP ΓT ΔT 126 1 Kn (St.as (Fe (CR kd) kd.length kd.length n times lists A,Ck kd (l5 kd.length (xs.getD 0 zD) (xs.getD 1 zD) (xs.getD 2 zD) (xs.getD 3 zD) (xs.getD 4 zD)) D++ [AB.bx 0 A])) (Qd kd (l5 kd.length (xs.getD 0 zD) (xs.getD 1 zD) (xs.getD 2 zD) (xs.getD 3 zD) (xs.getD 4 zD)) D A n times lists own) (CP 1)=_:=Cj vu (kd,n) hp D _ _ _ _ _ A times lists own
 rw[←DR zD hl h5] at hc
 exact hc
theorem v8 (hp:(kd,n)∈Ly) (hl:xs.length=kd.length) (h5:kd.length≤5) (D1:Dsk) (n1:Int) (F:FileR):
  Bg DP ΓT ΔT 126 1 Kn (St.as (Fe (CR kd) kd.length kd.length n times lists A,Ck kd xs D++ [AB.bx 0 A])) (Qe kd xs D A n times lists own D1 n1 F) (CP 1)=Qe kd xs D A n times lists own D1 n1 F:=by
 have hc:Bg DP ΓT ΔT 126 1 Kn (St.as (Fe (CR kd) kd.length kd.length n times lists A,Ck kd (l5 kd.length (xs.getD 0 zD) (xs.getD 1 zD) (xs.getD 2 zD) (xs.getD 3 zD) (xs.getD 4 zD)) D++ [AB.bx 0 A])) (Qe kd (l5 kd.length (xs.getD 0 zD) (xs.getD 1 zD) (xs.getD 2 zD) (xs.getD 3 zD) (xs.getD 4 zD)) D A n times lists own D1 n1 F) (CP 1)=_:=Cj vw (kd,n) hp D D1 n1 F _ _ _ _ _ A times lists own
 rw[←DR zD hl h5] at hc
 exact hc
theorem wA (hp:kd∈FX) (hl:xs.length=kd.length) (h5:kd.length≤5):
  Bg DP ΓT ΔT 126 1 Kn (St.as (Fe (CR kd) kd.length kd.length kd.length times lists A,Ck kd xs D++ [AB.bx 0 A])) (TS kd xs D A) (CP 1)=TS kd xs D A:=by
 have hc:Bg DP ΓT ΔT 126 1 Kn (St.as (Fe (CR kd) kd.length kd.length kd.length times lists A,Ck kd (l5 kd.length (xs.getD 0 zD) (xs.getD 1 zD) (xs.getD 2 zD) (xs.getD 3 zD) (xs.getD 4 zD)) D++ [AB.bx 0 A])) (TS kd (l5 kd.length (xs.getD 0 zD) (xs.getD 1 zD) (xs.getD 2 zD) (xs.getD 3 zD) (xs.getD 4 zD)) D A) (CP 1)=_:=Cj vx kd hp D _ _ _ _ _ A times lists
 rw[←DR zD hl h5] at hc
 exact hc
theorem sw (hl:xs.length=kd.length) (hO:own.length≤100000) (hA:A.length+own.length≤1000000) (c:Cur) {K:AE→St→Prop}
  (h:K .normal (Fe (CR (kd++ [false])) (kd.length+1) (kd.length+1) n times lists (own.foldl (fun A e=>Gc e A) A),Ck (kd++ [false]) (xs++ [M4 own]) D++ [AB.bx 0 (own.foldl (fun A e=>Gc e A) A)])):
  (Xs kd xs D A n times lists own c).wp K:=by
 have e:CR (kd++ [false])=CR kd+1:=by
  show 3+(kd++ [false]).length+BS (kd++ [false])=3+kd.length+BS kd+1
  rw[Ko,List.length_append]; simp; omega
 rw[e] at h
 have hc:=gf (B:=Ck kd xs D++ [AB.bx 0 A]) (L:=own) (by omega)
 rw[List.length_append,TT hl,List.append_assoc] at hc
 unfold Xs
 refine AM hc (Aq (BH _ ?_ (SE hO own 0 A List.drop_zero (Nat.zero_add _) hA) (wp_leaf OM h)))
 unfold B9 sd
 simp only[List.filterMap_cons,List.filterMap_append,Option.map_none,List.filterMap_map,Option.map_some,aF,List.nil_append,List.filterMap_nil]
theorem sx (hl:xs.length=kd.length) (hO:own.length≤100000) (hA:A.length+own.length≤1000000) (lv:Live D) (hn:CA (Bo kd.length)=true) (hnl:(Bo kd.length).size≤1000000000) (hc:D.cont (Bo kd.length)=none) (hf:Fits own) (hr:((As own).length:Int)≤D.room - D.used) {K:AE→St→Prop}
  (h:K .normal (Fe (CR (kd++ [true])) (kd.length+1) (kd.length+1) n times lists (own.foldl (fun A e=>Gc e A) A),Ck (kd++ [true]) (xs++ [Xt (Bo kd.length) (FJ own)]) (Cb D (Bo kd.length) (As own)).1++ [AB.bx 0 (own.foldl (fun A e=>Gc e A) A)])):
  (dC kd xs D A n times lists own (Cb D (Bo kd.length) (As own)).1 (As own).length (FJ own)).wp K:=by
 have e:CR (kd++ [true])=CR kd+2:=by
  show 3+(kd++ [true]).length+BS (kd++ [true])=3+kd.length+BS kd+2
  rw[Ko,List.length_append]; simp; omega
 rw[e] at h
 obtain ⟨a1,a2,a3,a4,a5⟩:=Rh lv hn hc hr
 obtain ⟨c1,c2⟩:=Ri (D:=(Cb D (Bo kd.length) (As own)).1) (nm:=Bo kd.length) (c:=As own) (by rw[a3,if_pos rfl])
 have cw:=nh (b:=0) lv.ok hf hnl (B:=Ck kd xs D++ [AB.bx 0 A]) rfl
 rw[a1] at cw
 have co:=rh (b:=0) a2.ok a2.up c2 (by rw[c1,I7 hf]) (B:=Ck kd xs (Cb D (Bo kd.length) (As own)).1++ [AB.bx 0 A]) rfl
 rw[c1,I7 hf,List.length_append,TT hl,List.append_assoc] at co
 have hlen:=TT (D:=(Cb D (Bo kd.length) (As own)).1) hl
 have cf:=sb (B:=Ck kd xs (Cb D (Bo kd.length) (As own)).1++ [AB.bx 0 A,filC 0 (Bo kd.length) (FJ own)]) (d:=0) (l:=CR kd+1) (nm:=Bo kd.length) (F:=FJ own) (D:=(Cb D (Bo kd.length) (As own)).1) rfl (by
  rw[List.getElem?_append_right (by rw[hlen]; omega),hlen,show CR kd+1 - CR kd=1 by omega]; rfl)
 rw[List.length_append,hlen,List.append_assoc] at cf
 unfold dC
 refine AM cw (AM co (AM cf (Aq (BH _ ?_ (SE hO own 0 A List.drop_zero (Nat.zero_add _) hA) (wp_leaf OM h)))))
 unfold B9 se
 simp only[List.filterMap_cons,List.filterMap_append,Option.map_none,List.filterMap_map,Option.map_some,aF,List.nil_append,List.filterMap_nil]
end

structure LawT (lists:List (List Ent)) (times:Int):Prop where
 few:lists.length≤5
 seq:∀ l∈lists,∀ x∈l,JE x
 t: -(2 ^ 63:Int)≤times∧times<2 ^ 63
 len:∀ l∈lists,l.length≤25
 val:∀ l∈lists,∀ x∈l,x.val.size≤200
section
variable {lists : List (List Ent)} {times : Int}
theorem LawT.own (h:LawT lists times) {l:List Ent} (hl:l∈lists):(Ad times l).Pairwise Bz∧(Ad times l).length≤25∧(Ad times l≠ []→Fits (Ad times l)∧(As (Ad times l)).length≤600000):=by
 obtain ⟨g1,g2⟩:=Mf times l fun x hx=>(h.seq l hl x hx).1
 have hn:=h.len l hl
 exact ⟨g1.up,by omega,fq times (fun x hx=>(h.seq l hl x hx).1) (by omega) (h.val l hl)⟩
theorem LawT.call (h:LawT lists times) {l:List Ent} (hl:l∈lists):Li [vl (l.map AB.f),vi times]=some (vl ((Ad times l).map AB.f)):=
 fg h.t (by have:=h.len l hl; omega) (fun x hx=>by have:=h.val l hl x hx; omega)
end
theorem ka:∀ j:Fin 5,CA (Bo j.val)=true∧(Bo j.val).size≤1000000000:=by decide
theorem gv:∀ i j:Fin 5,Bo i.val=Bo j.val→i=j:=by decide
theorem X5 {j:Nat} (h:j<5):CA (Bo j)=true∧(Bo j).size≤1000000000:=ka ⟨j,h⟩
theorem X6 {i j:Nat} (hi:i<5) (hj:j<5) (h:i≠j):Bo i≠Bo j:=fun e=>h (congrArg Fin.val (gv ⟨i,hi⟩ ⟨j,hj⟩ e))
structure ThD (P:List (List Ent)) (D:Dsk):Prop where
 lv:Live D
 room:D.room=4194304
 used:D.used≤600000*(P.length:Int)
 free:∀ j,P.length≤j→j<5→D.cont (Bo j)=none
 cont:∀ j own,P[j]? = some own→CW j own=true→D.cont (Bo j)=some (As own)∧Fits own
theorem aG:ThD [] (newD 4194304):=⟨i5,rfl,by decide,fun _ _ _=>rfl,fun j own h=>by simp at h⟩
theorem ThD.snoc {P:List (List Ent)} {D:Dsk} (h:ThD P D) {own:List Ent} (h5:P.length<5) (ho:own≠ []→Fits own∧(As own).length≤600000):ThD (P++ [own]) (J8 P.length own D) ∧
  (CW P.length own=true→own≠ []∧((As own).length:Int)≤D.room - D.used):=by
 have hne:CW P.length own=true→own≠ []:=fun e e2=>by rw[e2] at e; simp[CW] at e
 have hr:own≠ []→((As own).length:Int)≤D.room - D.used:=fun e=>by
  have:=(ho e).2
  have:=h.room
  have:=h.used
  omega
 refine ⟨?_,fun e=>⟨hne e,hr (hne e)⟩⟩
 unfold J8
 by_cases hc:CW P.length own=true
 ·rw[if_pos hc]
  obtain ⟨a1,a2,a3,a4,a5⟩:=Rh h.lv (X5 h5).1 (h.free P.length (Nat.le_refl _) h5) (hr (hne hc))
  have hl:=(ho (hne hc)).2
  have hu:=h.used
  refine ⟨a2,a5.trans h.room,?_,fun j hj h5j=>?_,fun j o hj hin=>?_⟩
  ·rw[a4,List.length_append]
   simp only[List.length_singleton]
   omega
  ·rw[List.length_append,List.length_singleton] at hj
   rw[a3,if_neg (X6 h5 h5j (by omega))]
   exact h.free j (by omega) h5j
  ·rcases Nat.lt_or_ge j P.length with hlt | hge
   ·rw[List.getElem?_append_left hlt] at hj
    rw[a3,if_neg (X6 h5 (by omega) (by omega))]
    exact h.cont j o hj hin
   ·have hj':=(List.getElem?_eq_some_iff.1 hj).1
    rw[List.length_append,List.length_singleton] at hj'
    obtain rfl:j=P.length:=by omega
    rw[List.getElem?_append_right (Nat.le_refl _),Nat.sub_self] at hj
    cases hj
    rw[a3,if_pos rfl]
    exact ⟨rfl,(ho (hne hc)).1⟩
 ·rw[if_neg hc]
  refine ⟨h.lv,h.room,?_,fun j hj h5j=>?_,fun j o hj hin=>?_⟩
  ·have hu:=h.used
   rw[List.length_append]
   simp only[List.length_singleton]
   omega
  ·rw[List.length_append,List.length_singleton] at hj
   exact h.free j (by omega) h5j
  ·rcases Nat.lt_or_ge j P.length with hlt | hge
   ·rw[List.getElem?_append_left hlt] at hj
    exact h.cont j o hj hin
   ·have hj':=(List.getElem?_eq_some_iff.1 hj).1
    rw[List.length_append,List.length_singleton] at hj'
    obtain rfl:j=P.length:=by omega
    rw[List.getElem?_append_right (Nat.le_refl _),Nat.sub_self] at hj
    cases hj
    exact absurd hin hc
theorem Qi (i:Nat):∀ (own:List Ent) (AL:List (Nat×Ent)),(Eg i own AL).length=AL.length+own.length
 | [],_=>rfl
 | e::own,AL=>by
  show (Eg i own (Et i e AL)).length=_
  rw[Qi i own,Qf,List.length_cons]; omega
abbrev Cv (P:List (List Ent)):List Ent:=(Gs 0 P []).map (·.2)
theorem gw (P:List (List Ent)) (own:List Ent):Cv (P++ [own])=own.foldl (fun A e=>Gc e A) (Cv P):=by
 show (Gs 0 (P++ [own]) []).map (·.2)=_
 rw[Qh,Xy]
section
variable {lists : List (List Ent)} {times : Int}
abbrev EE (P:List (List Ent)):Dsk:=UI 0 P (newD 4194304)
theorem dI (h:LawT lists times):∀ (R P:List (List Ent)),lists.map (Ad times)=P++R→ThD P (EE P)→(Cv P).length≤25*P.length →
  Tri DP 126 1 true Kn (St.as (Fe (CR (Bv 0 P)) (Bv 0 P).length (Bv 0 P).length lists.length times lists (Cv P),Ck (Bv 0 P) (C7 0 P) (EE P)++ [AB.bx 0 (Cv P)])) fun e' s'=>e'= .exit 0 ∧
   s'=St.as ([(0, .op 0),(9, .rs 1 0 1 0 (Bv 0 (P++R)).length),(10,vl ((Cv (P++R)).map AB.f))],mT (Bv 0 (P++R)) (C7 0 (P++R)) (EE (P++R))):=by
 intro R
 have h5:=h.few
 induction R with
 | nil=>
  intro P hP hD hA
  rw[List.append_nil] at hP ⊢
  have hlen:lists.length=(Bv 0 P).length:=by rw[Di,←hP,List.length_map]
  have hx:(C7 0 P).length=(Bv 0 P).length:=by rw[Hn,Di]
  rw[hlen]
  refine Tri.round ((Gr AZ ΓT_ok dH Kn (K:=fun e' c=>e'= .exit 0∧c=([(0, .op 0),(9, .rs 1 0 1 0 (Bv 0 P).length),(10,vl ((Cv P).map AB.f))],mT (Bv 0 P) (C7 0 P) (EE P))) (by
   rw[wA (X3 P (by rw[Di] at hlen; omega)) hx (by omega)]
   unfold TS
   exact ⟨rfl,rfl,wp_leaf (wdN_ok _ _) ⟨rfl,rfl⟩⟩)).conseq fun e' s' hk=>?_)
  obtain ⟨c,rfl,rfl,rfl⟩:=hk
  exact ⟨rfl,rfl⟩
 | cons own R ih=>
  intro P hP hD hA
  have hlen:lists.length=P.length+(R.length+1):=by
   have:=congrArg List.length hP
   rw[List.length_map,List.length_append,List.length_cons] at this
   exact this
  obtain ⟨l,hl,rfl⟩:∃ l,lists[P.length]? = some l∧Ad times l=own:=by
   have:(lists.map (Ad times))[P.length]? = some own:=by rw[hP]; simp
   rw[List.getElem?_map] at this
   cases e:lists[P.length]? with
   | none=>rw[e] at this; cases this
   | some l=>rw[e] at this; exact ⟨l,rfl,Option.some.inj this⟩
  have hm:=List.mem_of_getElem? hl
  obtain ⟨o1,o2,o3⟩:=h.own hm
  have hcall:=h.call hm
  obtain ⟨d1,d2⟩:=hD.snoc (own:=Ad times l) (by omega) o3
  have hx:(C7 0 P).length=(Bv 0 P).length:=by rw[Hn,Di]
  have hkl:(Bv 0 P).length=P.length:=Di 0 P
  have ek:Bv 0 (P++ [Ad times l])=Bv 0 P++ [CW P.length (Ad times l)]:=by rw[X1,Nat.zero_add]
  have el:C7 0 (P++ [Ad times l])=C7 0 P++ [GT P.length (CW P.length (Ad times l)) (Ad times l)]:=by rw[X2,Nat.zero_add]
  have ed:EE (P++ [Ad times l])=J8 P.length (Ad times l) (EE P):=by show UI 0 _ _=_; rw[Qg,Nat.zero_add]
  have ea:=gw P (Ad times l)
  have hr:=ih (P++ [Ad times l]) (by rw[hP]; simp) (by rw[ed]; exact d1) (by
   show (List.map _ _).length≤_
   rw[List.length_map,Qh,Qi,List.length_append]
   have:(Cv P).length=(Gs 0 P []).length:=List.length_map _
   simp only[List.length_singleton]
   omega)
  rw[List.append_assoc,show [Ad times l]++R=Ad times l::R from rfl] at hr
  have hi:((Bv 0 P).length+1)=(Bv 0 P++ [CW P.length (Ad times l)]).length:=by simp
  -- of a list
  have caseL:CW P.length (Ad times l)=false→(Xs (Bv 0 P) (C7 0 P) (EE P) (Cv P) lists.length times lists (Ad times l) ⟨Ad times l,0,0⟩).wp (fun e' c=>e'= .normal ∧
    c=(Fe (CR (Bv 0 (P++ [Ad times l]))) (Bv 0 (P++ [Ad times l])).length (Bv 0 (P++ [Ad times l])).length lists.length times lists (Cv (P++ [Ad times l])),Ck (Bv 0 (P++ [Ad times l])) (C7 0 (P++ [Ad times l])) (EE (P++ [Ad times l]))++ [AB.bx 0 (Cv (P++ [Ad times l]))])):=fun hf=>by
   rw[hf] at ek el hi
   rw[ek,el,ed,ea,←hi]
   unfold J8 GT
   rw[hf]
   exact sw hx (by omega) (by omega) _ ⟨rfl,rfl⟩
  have caseF:CW P.length (Ad times l)=true→(dC (Bv 0 P) (C7 0 P) (EE P) (Cv P) lists.length times lists (Ad times l) (Cb (EE P) (Bo (Bv 0 P).length) (As (Ad times l))).1 (As (Ad times l)).length (FJ (Ad times l))).wp (fun e' c=>e'= .normal ∧
    c=(Fe (CR (Bv 0 (P++ [Ad times l]))) (Bv 0 (P++ [Ad times l])).length (Bv 0 (P++ [Ad times l])).length lists.length times lists (Cv (P++ [Ad times l])),Ck (Bv 0 (P++ [Ad times l])) (C7 0 (P++ [Ad times l])) (EE (P++ [Ad times l]))++ [AB.bx 0 (Cv (P++ [Ad times l]))])):=fun hf=>by
   obtain ⟨e1,e2⟩:=d2 hf
   have nm:=X5 (show P.length<5 by omega)
   have hfree:=hD.free P.length (Nat.le_refl _) (by omega)
   rw[hf] at ek el hi
   rw[ek,el,ed,ea,←hi]
   unfold J8 GT
   rw[hf,if_pos rfl,if_pos rfl]
   rw[←hkl] at nm hfree ⊢
   exact sx hx (by omega) (by omega) hD.lv nm.1 nm.2 hfree (o3 e1).1 e2 ⟨rfl,rfl⟩
  have gl:lists[((Bv 0 P).length:Int).toNat]? = some l:=by rw[hkl,Int.toNat_natCast]; exact hl
  refine Tri.round (Tri.conseq (K:=fun e' s'=>∃ c:St,s'=c.as∧(e'= .normal ∧
    c=(Fe (CR (Bv 0 (P++ [Ad times l]))) (Bv 0 (P++ [Ad times l])).length (Bv 0 (P++ [Ad times l])).length lists.length times lists (Cv (P++ [Ad times l])),Ck (Bv 0 (P++ [Ad times l])) (C7 0 (P++ [Ad times l])) (EE (P++ [Ad times l]))++ [AB.bx 0 (Cv (P++ [Ad times l]))]))) ?_ fun e' s' hk=>?_)
  ·rcases Nat.mod_two_eq_zero_or_one P.length with h2 | h2
   ·refine Gr AZ ΓT_ok dH Kn (T:=Qd (Bv 0 P) (C7 0 P) (EE P) (Cv P) lists.length times lists (Ad times l)) ?_
    rw[v7 (own:=Ad times l) (gt P lists.length (by omega) h5 h2) hx (by omega)]
    unfold Qd
    exact Ci l (by omega) gl (Ac hcall (caseL (by unfold CW; rw[decide_eq_false (by omega)]; rfl)))
   ·refine Gr AZ ΓT_ok dH Kn (T:=Qe (Bv 0 P) (C7 0 P) (EE P) (Cv P) lists.length times lists (Ad times l) (Cb (EE P) (Bo (Bv 0 P).length) (As (Ad times l))).1 (As (Ad times l)).length (FJ (Ad times l))) ?_
    rw[v8 (own:=Ad times l) (gu P lists.length (by omega) h5 h2) hx (by omega) (Cb (EE P) (Bo (Bv 0 P).length) (As (Ad times l))).1 (As (Ad times l)).length (FJ (Ad times l))]
    unfold Qe
    refine Ci l (by omega) gl (Ac hcall (Aq (AC (fun q=>caseF ?_) (fun q=>caseL ?_))))
    ·unfold CW
     rw[decide_eq_true h2,Bool.true_and]
     cases e:Ad times l with
     | nil=>rw[e] at q; cases q
     | cons a t=>rfl
    ·unfold CW
     rw[decide_eq_true h2,Bool.true_and]
     cases e:Ad times l with
     | nil=>rfl
     | cons a t=>rw[e] at q; exact absurd (of_decide_eq_false q) (by simp only[List.length_cons]; omega)
  ·obtain ⟨c,rfl,rfl,rfl⟩:=hk
   exact hr
end
theorem sy:wL= .loop Kn:=by kernel_rfl
theorem s6:∀ f,SoundR DP f (gm f):=AY (sg.or (AU si).shutRow) BJ
def s8:Ae:=fun args B r B'=>∃ (lists:List (List Ent)) (times:Int),LawT lists times∧args= [.op 0,vl (lists.map CQ.f),vi times]∧B= [BD (newD 4194304)] ∧
 r= .tup [.ptr 1 0 0,vl ((Cv (lists.map (Ad times))).map AB.f),vb true]∧B'=J7 (Bv 0 (lists.map (Ad times))) (C7 0 (lists.map (Ad times))) (EE (lists.map (Ad times)))
theorem xB:SoundR DP Xr s8:=Al AZ Γ0_ok s6 vo vp vq (by
 rintro args B r B' ⟨lists,times,h,rfl,rfl,rfl,rfl⟩
 obtain ⟨Ls,hLs⟩:∃ Ls,Ls=lists.map (Ad times):=⟨_,rfl⟩
 have hl:Ls.length=lists.length:=by rw[hLs,List.length_map]
 have h5:=h.few
 have hx:(C7 0 Ls).length=(Bv 0 Ls).length:=by rw[Hn,Di]
 have hkl:(Bv 0 Ls).length=lists.length:=by rw[Di,hl]
 have hc:Av DP Γ0 gm Qc [.op 0,vl (lists.map CQ.f),vi times] [BD (newD 4194304)] (dF (Bv 0 Ls) (l5 (Bv 0 Ls).length ((C7 0 Ls).getD 0 zD) ((C7 0 Ls).getD 1 zD) ((C7 0 Ls).getD 2 zD) ((C7 0 Ls).getD 3 zD) ((C7 0 Ls).getD 4 zD)) (newD 4194304) (EE Ls) (Cv Ls) times lists)=_:=Cj v6 (Bv 0 Ls) (X3 Ls (by omega)) _ _ _ _ _ _ _ _ _ _
 rw[←DR zD hx (by omega)] at hc
 rw[←hLs]
 refine ⟨by rw[vt]; rfl,_,hc,?_⟩
 unfold dF
 have hr:=dI h Ls [] hLs.symm aG (Nat.zero_le _)
 rw[List.nil_append] at hr
 refine Ai (by rw[List.length_map,hkl]) (Lp rfl ?_ ?_)
 ·rw[sy,hkl]
  rw[hkl] at hr
  exact .loop hr
 ·clear hc hr
  match Ls,hl with
  | [],_=>exact AM (.inr ⟨0,1,0,Int,Aa,[],rfl,rfl,sj (B:= [BD (EE []), .dead])⟩) (wp_leaf rfl ⟨rfl,rfl⟩)
  | [a],_=>exact wp_leaf rfl ⟨rfl,rfl⟩
  | a::b::Ls,hl=>
   refine AM (.inl ⟨Bv 0 (a::b::Ls),C7 0 (a::b::Ls),EE (a::b::Ls),X4 _ (by simp) (by omega),hx,rfl,rfl,rfl,rfl⟩) (wp_leaf ?_ ⟨rfl,rfl⟩)
   unfold B9; simp)

theorem dJ {L:List Ent} (h:Fits L):FOk (FJ L):=by
 have:=nf (c:=As L) (by have:=Tp h; omega) (by rw[I7 h])
 rw[I7 h] at this
 exact this
structure OfFile (D:Dsk) (own:List Ent) (nm:ByteArray) (F:FileR):Prop where
 fits:Fits own
 F:F=FJ own
 cont:AF D nm=As own
 ok:D.Ok
 up:D.down=false
abbrev Fs (own:List Ent):List (List Ent):=AG own 0 []
section
variable {D : Dsk} {own : List Ent} {nm : ByteArray} {F : FileR}
theorem OfFile.rd (h:OfFile D own nm F):RdOk D nm F:=by
 refine ⟨h.ok,h.up,?_,?_⟩
 ·rw[h.F]; exact dJ h.fits
 ·rw[h.F]
  show (Bl 0 (Fs own)).length≤_
  rw[ED]
  exact Nat.le_trans h.fits.chunks_len (by decide)
theorem OfFile.np (h:OfFile D own nm F):(Ah D nm F).np=((Fs own).length:Int):=by
 show ((F.idx.length:Nat):Int)=_
 rw[h.F]
 show (((Bl 0 (Fs own)).length:Nat):Int)=_
 rw[ED]
theorem OfFile.page (h:OfFile D own nm F) {i:Nat} (hi:i<(Fs own).length):(Ah D nm F).pf (i:Int)=((Fs own)[i],0):=by
 show BV (AF D nm) F.idx i=_
 rw[h.cont,h.F]
 exact Tq h.fits hi
theorem OfFile.good (h:OfFile D own nm F) {c:Cur} (hb:c.bad=0) (hp:0≤c.pg∧c.pg≤100000000):GoodL D true ⟨c,nm,F⟩:=by
 have hn:=h.np
 have hl:=h.fits.chunks_len
 refine ⟨hb,hp,?_,fun _=>h.rd,fun i h0 h1=>?_⟩
 ·show (Ah D nm F).np≤_
  rw[hn]; show (((AG own 0 []).length:Nat):Int)≤_; omega
 ·have h1:i<(Ah D nm F).np:=h1
  obtain ⟨j,rfl⟩:=Int.eq_ofNat_of_zero_le h0
  have hj:j<(Fs own).length:=by rw[hn] at h1; omega
  show ((Ah D nm F).pf _).2=0∧((Ah D nm F).pf _).1≠ []
  rw[h.page hj]
  exact ⟨rfl,Cw own 0 [] _ (List.getElem_mem hj)⟩
theorem dK {α:Type} {l:List α} {f:Nat→α} (hf:∀ (i:Nat) (h:i<l.length),f i=l[i]) (a:Nat):(List.range' a (l.length - a)).map f=l.drop a:=by
 refine List.ext_getElem (by simp) fun i h1 h2=>?_
 simp only[List.length_map,List.length_range'] at h1
 rw[List.getElem_map,List.getElem_range',List.getElem_drop,hf _ (by omega)]
 congr 1
 omega
theorem OfFile.rest (h:OfFile D own nm F) {c:Cur} (hp:0≤c.pg):Ba (Ah D nm F) c=c.L++((Fs own).drop c.pg.toNat).flatten:=by
 unfold Ba
 rw[h.np,←dK (l:=Fs own) (f:=fun (i:Nat)=>((Ah D nm F).pf (i:Int)).1) (fun i hi=>by rw[h.page hi]) c.pg.toNat]
 rw[show (((Fs own).length:Int) - c.pg).toNat=(Fs own).length - c.pg.toNat by omega]
theorem Kp {e:Ent}:∀ {M N:List Ent},(∀ y∈M,Bz y e)→BB e (M++N)=BB e N
 | [],_,_=>rfl
 | y::M,N,h=>by
  have:BB e (y::M++N)=BB e (M++N):=List.dropWhile_cons_of_pos (decide_eq_true ((D5 y e).2 (h y (by simp))))
  rw[this]
  exact Kp fun z hz=>h z (by simp[hz])
theorem kb {e:Ent} {L:List Ent} (hL:L≠ []) (hs:L.Pairwise Bz) (h:Bz (B5 L) e):∀ y∈L,Bz y e:=fun y hy=>by
 rcases Wf hL hs y hy with g | g
 ·rw[g]; exact h
 ·exact Dy g h
theorem OfFile.seek (h:OfFile D own nm F) {L:List Ent} {pg:Int} (hp:0≤pg∧pg≤100000000) (hs:(Ba (Ah D nm F) ⟨L,pg,0⟩).Pairwise Bz) {e:Ent} (hq:Dp e):
  Ba (Ah D nm F) ⟨(Cy D nm F e (L,pg)).1,(Cy D nm F e (L,pg)).2,0⟩=BB e (Ba (Ah D nm F) ⟨L,pg,0⟩)∧GoodL D true ⟨⟨(Cy D nm F e (L,pg)).1,(Cy D nm F e (L,pg)).2,0⟩,nm,F⟩∧BQ F.idx e≤F.idx.length:=by
 obtain ⟨k,hk,h1,h2⟩:=bo h.fits e
 have hfi:BQ F.idx e=k:=by
  rw[h.F]
  exact fG h.fits (w:=⟨e.key,e.seq,false,e.val⟩) hq rfl k hk h1 h2
 have hil:F.idx.length=(Fs own).length:=by rw[h.F]; exact ED _ _
 have hcl:=h.fits.chunks_len
 have hk':k≤(Fs own).length:=hk
 rw[h.rest hp.1] at hs
 -- what is skipped
 have key:GoodL D true (Ei nm F (FD F e (L,pg)))∧BB e (B6 D nm F (FD F e (L,pg)))=BB e (Ba (Ah D nm F) ⟨L,pg,0⟩):=by
  unfold FD
  split
  ·rename_i hc
   rw[hfi]
   have hL:∀ y∈L,Bz y e:=by
    rcases hc with hc | hc
    ·rw[show L= [] from hc]; intro y hy; cases hy
    ·by_cases hL:L= []
     ·rw[hL]; intro y hy; cases hy
     ·exact kb hL (List.pairwise_append.1 hs).1 ((D5 _ _).1 hc)
   by_cases hlt:pg<((k:Nat):Int)
   ·simp only[if_pos hlt]
    have hb:(0:Int)≤(k:Int)∧(k:Int)≤100000000:=⟨by omega,by have:(Fs own).length≤40:=hcl; omega⟩
    refine ⟨h.good rfl hb,?_⟩
    show BB e (Ba (Ah D nm F) ⟨[],(k:Int),0⟩)=_
    rw[h.rest hb.1,h.rest hp.1]
    simp only[List.nil_append,Int.toNat_natCast]
    rw[Kp hL]
    have hsp:(Fs own).drop pg.toNat=((Fs own).take k).drop pg.toNat++(Fs own).drop k:=by
     conv=>lhs; rw[←List.take_append_drop k (Fs own)]
     rw[List.drop_append_of_le_length (by rw[List.length_take]; omega)]
    rw[hsp,List.flatten_append,Kp]
    intro y hy
    obtain ⟨c,hc',hy⟩:=List.mem_flatten.1 hy
    exact qg h.fits hk h1 y (List.mem_flatten.2 ⟨c,List.mem_of_mem_drop hc',hy⟩)
   ·simp only[if_neg hlt]
    refine ⟨h.good rfl hp,?_⟩
    show BB e (Ba (Ah D nm F) ⟨[],pg,0⟩)=_
    rw[h.rest hp.1,h.rest hp.1]
    simp only[List.nil_append]
    rw[Kp hL]
  ·exact ⟨h.good rfl hp,rfl⟩
 obtain ⟨g1,g2⟩:=key
 obtain ⟨r1,r2⟩:=JI (L:=(FD F e (L,pg)).1) (pg:=(FD F e (L,pg)).2) g1
 have hd:=R3 (D:=D) (nm:=nm) (F:=F) e (B6 D nm F (BL (Ah D nm F) (FD F e (L,pg)))).length (BL (Ah D nm F) (FD F e (L,pg))) (JH g1) (fun hn=>by
  rw[show B6 D nm F (BL (Ah D nm F) (FD F e (L,pg)))=B6 D nm F (FD F e (L,pg)) from r1]
  exact r2 hn) (Nat.le_refl _)
 refine ⟨?_,hd.1,by rw[hfi,hil]; exact hk'⟩
 show B6 D nm F (Cy D nm F e (L,pg))=_
 unfold Cy
 rw[hd.2,show B6 D nm F (BL (Ah D nm F) (FD F e (L,pg)))=B6 D nm F (FD F e (L,pg)) from r1,g2]
end

structure TopP {σ:Type} (TB:σ→List Box) (good:σ→Prop) (rest:σ→List Ent) (pk:σ→σ):Prop where
 peek:∀ s,good s→∀ T,UB Eh [.ptr 0 0 0] (TB s++T) (.tup [AB.av (headE (rest s)).1,vb (headE (rest s)).2.1,vi 0]) (TB (pk s)++T)
 peekR:∀ s,good s→good (pk s)∧rest (pk s)=rest s
def SameF (xs ys:List LeafD):Prop:=∀ (i:Nat) (y:LeafD),ys[i]? = some y→∃ x,xs[i]? = some x∧y.nm=x.nm∧y.F=x.F
theorem SameF.trans {xs ys zs:List LeafD} (h:SameF xs ys) (g:SameF ys zs):SameF xs zs:=fun i z hz=>by
 obtain ⟨y,hy,e1,e2⟩:=g i z hz
 obtain ⟨x,hx,f1,f2⟩:=h i y hy
 exact ⟨x,hx,e1.trans f1,e2.trans f2⟩
theorem SameF.set {xs:List LeafD} {j:Nat} {x:LeafD} (hx:xs[j]? = some x) (c:Cur):SameF xs (xs.set j (x.put c)):=fun i y hy=>by
 rw[List.getElem?_set] at hy
 split at hy
 ·rename_i e
  subst e
  split at hy
  ·cases hy; exact ⟨x,hx,rfl,rfl⟩
  ·cases hy
 ·exact ⟨y,hy,rfl,rfl⟩
section
variable {D : Dsk}
theorem LH:∀ (ks:List Bool) (xs:List LeafD) (i:Nat) (s:Int×Ent),SameF xs (A3 D ks xs i s).1
 | [],xs,_,_=>fun j y h=>by
  have:(A3 D [] xs 0 (0,Ag)).1= []:=by cases xs <;> rfl
  cases xs <;> simp[A3] at h
 | k::ks,[],_,_=>fun j y h=>by simp[A3] at h
 | k::ks,x::xs,i,s=>fun j y h=>by
  have ih:=LH ks xs (i+1) (fpick (headE (fillL D k x).c.L) i s)
  cases j with
  | zero=>
   have h:some (fillL D k x)=some y:=h
   cases h
   exact ⟨x,rfl,rfl,rfl⟩
  | succ j=>
   have h:(A3 D ks xs (i+1) (fpick (headE (fillL D k x).c.L) i s)).1[j]? = some y:=by
    rw[←h]; exact List.getElem?_cons_succ.symm
   exact ih j y h
theorem dL {ks:List Bool} {xs:List LeafD} (h:xs.length=ks.length) (hg:D6 D ks xs):SameF xs (EI D ks xs).1:=by
 have f1:=LH (D:=D) ks xs 0 (-1,Ag)
 have f2:=LH (D:=D) ks (A3 D ks xs 0 (-1,Ag)).1 0 (-1,Ag)
 rcases nextM_of h hg with ⟨_,hn⟩ | ⟨j,y,t,k,x,_,_,_,q⟩
 ·rw[hn]; exact f1
 ·obtain ⟨_,hx,_,_,_,hn⟩:=q
  rw[hn]
  exact (f1.trans f2).trans (.set hx _)
def Eu (D:Dsk) (e:Ent):List Bool→List LeafD→List LeafD
 | k::ks,x::xs=>x.put (if k then ⟨(Cy D x.nm x.F e (x.c.L,x.c.pg)).1,(Cy D x.nm x.F e (x.c.L,x.c.pg)).2,0⟩ else ⟨BB e x.c.L,x.c.pg,0⟩)::Eu D e ks xs
 | _,_=> []
theorem Mr (e:Ent):∀ (ks:List Bool) (xs:List LeafD),xs.length=ks.length→(Eu D e ks xs).length=ks.length
 | [],[],_=>rfl
 | k::ks,x::xs,h=>by
  show (_::Eu D e ks xs).length=_
  rw[List.length_cons,Mr e ks xs (by simpa using h)]; rfl
theorem JQ (e:Ent):∀ (ks:List Bool) (xs:List LeafD) (i:Nat) (k:Bool) (y:LeafD),ks[i]? = some k→(Eu D e ks xs)[i]? = some y →
  ∃ x,xs[i]? = some x∧y=x.put (if k then ⟨(Cy D x.nm x.F e (x.c.L,x.c.pg)).1,(Cy D x.nm x.F e (x.c.L,x.c.pg)).2,0⟩ else ⟨BB e x.c.L,x.c.pg,0⟩)
 | [],_,i,_,_,h,_=>by simp at h
 | _::_,[],i,_,_,_,h=>by simp[Eu] at h
 | b::ks,x::xs,0,k,y,h1,h2=>by
  cases h1
  have h2:some _=some y:=h2
  cases h2
  exact ⟨x,rfl,rfl⟩
 | b::ks,x::xs,i+1,k,y,h1,h2=>by
  have h2:(Eu D e ks xs)[i]? = some y:=by rw[←h2]; exact List.getElem?_cons_succ.symm
  exact JQ e ks xs i k y (by simpa using h1) h2
theorem P6 (e:Ent):∀ (ks:List Bool) (xs:List LeafD),xs.length=ks.length →
  (∀ (i:Nat) (k:Bool) (x:LeafD),ks[i]? = some k→xs[i]? = some x→Ba (A7 D k x) (if k then ⟨(Cy D x.nm x.F e (x.c.L,x.c.pg)).1,(Cy D x.nm x.F e (x.c.L,x.c.pg)).2,0⟩ else ⟨BB e x.c.L,x.c.pg,0⟩)=BB e (Ba (A7 D k x) x.c)) →
  restsF D ks (Eu D e ks xs)=(restsF D ks xs).map (BB e)
 | [],[],_,_=>rfl
 | k::ks,x::xs,h,hr=>by
  have h0:=hr 0 k x rfl rfl
  have ih:=P6 e ks xs (by simpa using h) (fun i k' x' h1 h2=>hr (i+1) k' x' (by simpa using h1) (by simpa using h2))
  show Ba (A7 D k x) _::restsF D ks (Eu D e ks xs)=BB e (Ba (A7 D k x) x.c)::(restsF D ks xs).map (BB e)
  rw[ih,h0]
theorem UJ (x:LeafD) {c:Cur} (hp:0≤c.pg):Ba (A7 D false x) c=c.L:=by
 show c.L++((List.range' c.pg.toNat ((0:Int) - c.pg).toNat).map _).flatten=_
 rw[show ((0:Int) - c.pg).toNat=0 by omega]
 simp
end
theorem s9 {AL:List (Nat×Ent)} (h:AL.Pairwise Lw) (j:Nat):(ofL AL j).Pairwise Bz:=by
 unfold ofL
 rw[List.pairwise_map]
 refine (h.filter _).imp_of_mem fun {a b} ha hb hab=>?_
 have ha:=(List.mem_filter.1 ha).2
 have hb:=(List.mem_filter.1 hb).2
 rcases hab with g | ⟨_,g⟩
 ·exact g
 ·have ea:a.1=j:=by simpa using ha
  have eb:b.1=j:=by simpa using hb
  omega
structure GoodA (D:Dsk) (ks:List Bool) (s:FamS):Prop where
 f:GoodF D ks s
 file:∀ (i:Nat) (x:LeafD),ks[i]? = some true→(s.xs ks.length)[i]? = some x→∃ own,OfFile D own x.nm x.F
 few:s.AL.length≤100000
def dM (D:Dsk) (ks:List Bool) (e:Ent) (s:FamS):FamS:= .of (Eu D e ks (s.xs ks.length)) (PU e s.AL)
section
variable {D : Dsk} {ks : List Bool}
theorem GoodA.same {s:FamS} {xs:List LeafD} (g:GoodA D ks s) (h:SameF (s.xs ks.length) xs):∀ (i:Nat) (x:LeafD),ks[i]? = some true→xs[i]? = some x→∃ own,OfFile D own x.nm x.F:=fun i x hk hx=>by
 obtain ⟨y,hy,e1,e2⟩:=h i x hx
 obtain ⟨own,ho⟩:=g.file i y hk hy
 exact ⟨own,by rw[e1,e2]; exact ho⟩
theorem GoodA.leaf {s:FamS} (hs:ks∈BP) (g:GoodA D ks s) {e:Ent} (hq:Dp e) {i:Nat} {k:Bool} {x:LeafD} (hk:ks[i]? = some k) (hx:(s.xs ks.length)[i]? = some x):
  Ba (A7 D k x) (if k then ⟨(Cy D x.nm x.F e (x.c.L,x.c.pg)).1,(Cy D x.nm x.F e (x.c.L,x.c.pg)).2,0⟩ else ⟨BB e x.c.L,x.c.pg,0⟩)=BB e (Ba (A7 D k x) x.c) ∧
  GoodL D k (x.put (if k then ⟨(Cy D x.nm x.F e (x.c.L,x.c.pg)).1,(Cy D x.nm x.F e (x.c.L,x.c.pg)).2,0⟩ else ⟨BB e x.c.L,x.c.pg,0⟩))∧x.c.L.length≤1000000000∧(k=true→BQ x.F.idx e≤x.F.idx.length):=by
 have gl:=g.f.gl i k x hk hx
 have hrest:Ba (A7 D k x) x.c=ofL s.AL i:=by
  have h1:=Ml (D:=D) ks (s.xs ks.length) i k x hk hx
  rw[g.f.sh.rs,List.getElem?_map,List.getElem?_range (List.getElem?_eq_some_iff.1 hk).1] at h1
  exact (Option.some.inj h1).symm
 have hup:(Ba (A7 D k x) x.c).Pairwise Bz:=by rw[hrest]; exact s9 g.f.sh.up i
 have hlen:x.c.L.length≤1000000000:=by
  have h1:x.c.L.length≤(Ba (A7 D k x) x.c).length:=by unfold Ba; simp
  have h2:=oO s.AL i
  have h3:=g.few
  rw[hrest] at h1
  omega
 obtain ⟨⟨L,pg,bad⟩,nm,F⟩:=x
 have hb:bad=0:=gl.bad
 subst hb
 cases k with
 | false=>
  have hp:0≤pg:=gl.pg.1
  refine ⟨?_,⟨rfl,gl.pg,gl.np,fun h=>by (cases h),gl.ok⟩,hlen,fun h=>by cases h⟩
  rw[if_neg (by decide),UJ _ hp,UJ _ hp]
 | true=>
  obtain ⟨own,ho⟩:=g.file i _ hk hx
  obtain ⟨r1,r2,r3⟩:=ho.seek gl.pg hup hq
  exact ⟨r1,r2,hlen,fun _=>r3⟩
theorem kc (hs:ks∈BP):TopR (Mq ks D) (Ap ks) (GoodA D ks) c8 (R8 D ks) (dM D ks) where
 next:=fun s g T=>(Xp hs).next s g.f T
 nextR:=fun s g=>by
  have h5:=Bp ks hs
  have hl:=s.xs_len h5
  obtain ⟨g1,g2⟩:=(Xp hs).nextR s g.f
  have hx:(R8 D ks s).xs ks.length=(EI D ks (s.xs ks.length)).1:=FamS.of_xs _ (OH (D:=D) hl) h5
  refine ⟨⟨g1,by rw[hx]; exact g.same (dL hl g.f.gl),?_⟩,g2⟩
  show (s.AL.drop 1).length≤_
  have:=g.few
  rw[List.length_drop]; omega
 seek:=fun s e g hi hq T=>by
  have h5:=Bp ks hs
  have hl:=s.xs_len h5
  have h2:=Mr (D:=D) e ks _ hl
  have hr:AX Lt [.ptr 0 0 0,AB.av e] (Mq ks D s++T) (vi 0) (AT ks (Eu D e ks (s.xs ks.length)) D++T):=Mm (R:=Lt) ⟨D,ks,s.xs ks.length,Eu D e ks (s.xs ks.length),e,hs,hl,h2,fun i k a b h1 h2 h3=>by
   obtain ⟨x,hx,rfl⟩:=JQ e ks _ i k b h1 h3
   rw[h2] at hx
   cases hx
   obtain ⟨q1,q2,q3,q4⟩:=g.leaf hs hq h1 h2
   exact ⟨g.f.gl i k a h1 h2,q3,hi,q4,rfl⟩,rfl,rfl,rfl,rfl⟩ hl h2 (by
    show (Nat.blt 0 (Ap ks)&&(AV.low.allLow (Ap ks) [AB.av e]))=true
    have h:Nat.blt 0 (Ap ks)=true:=by rw[Nat.blt_eq]; show 0<2+_+_+_; omega
    rw[h]; rfl) rfl T
  have hT:Mq ks D (dM D ks e s)=AT ks (Eu D e ks (s.xs ks.length)) D:=by
   show AT ks ((FamS.of _ _).xs ks.length) D=_
   rw[FamS.of_xs _ h2 h5]
  rw[hT]
  exact .inl (.inr hr)
 seekR:=fun s e g _ hq=>by
  have h5:=Bp ks hs
  have hl:=s.xs_len h5
  have h2:=Mr (D:=D) e ks _ hl
  have hx:(dM D ks e s).xs ks.length=Eu D e ks (s.xs ks.length):=FamS.of_xs _ h2 h5
  refine ⟨⟨⟨?_,?_⟩,?_,?_⟩,?_⟩
  ·rw[hx]
   intro i k y hk hy
   obtain ⟨x,hx,rfl⟩:=JQ e ks _ i k y hk hy
   exact (g.leaf hs hq hk hx).2.1
  ·rw[hx]
   have:=g.f.sh.drop e
   rw[←P6 e ks _ hl fun i k x hk hx=>(g.leaf hs hq hk hx).1] at this
   exact this
  ·rw[hx]
   exact g.same fun i y hy=>by
    have hk:∃ k,ks[i]? = some k:=⟨_,List.getElem?_eq_getElem (by rw[←h2]; exact (List.getElem?_eq_some_iff.1 hy).1)⟩
    obtain ⟨k,hk⟩:=hk
    obtain ⟨x,hx,rfl⟩:=JQ e ks _ i k y hk hy
    exact ⟨x,hx,rfl,rfl⟩
  ·have:=g.few
   exact Nat.le_trans (List.dropWhile_sublist _).length_le this
  ·exact UE e s.AL
 few:=fun s g=>by
  show (List.map _ s.AL).length≤_
  have:=g.few
  rw[List.length_map]; omega
end

theorem Ms:∀ (Ls:List (List Ent)) (i:Nat) (AL:List (Nat×Ent)),(∀ L∈Ls,L.Pairwise Bz)→AL.Pairwise Lw→(∀ a∈AL,a.1<i) →
  (Gs i Ls AL).Pairwise Lw∧(∀ a∈Gs i Ls AL,a.1<i+Ls.length)∧∀ j,ofL (Gs i Ls AL) j=if j<i then ofL AL j else Ls.getD (j - i) []
 | [],i,AL,_,up,lt=>⟨up,lt,fun j=>by
  split
  ·rfl
  ·rename_i h
   show ofL AL j= [].getD (j - i) []
   cases e:ofL AL j with
   | nil=>simp
   | cons z t=>
    have:=lt _ (ofL_mem (show z∈ofL AL j by rw[e]; simp))
    simp only at this
    omega⟩
 | L::Ls,i,AL,hL,up,lt=>by
  have hz:ofL AL i= []:=by
   cases e:ofL AL i with
   | nil=>rfl
   | cons z t=>
    have:=lt _ (ofL_mem (show z∈ofL AL i by rw[e]; simp))
    simp only at this
    omega
  obtain ⟨q1,q2,q3,q4,_⟩:=UH (i:=i) (own:=L) (AL:=AL) (hL L (by simp)) up (fun a ha=>Nat.le_of_lt (lt a ha)) (fun y hy=>by rw[hz] at hy; cases hy)
  obtain ⟨r1,r2,r3⟩:=Ms Ls (i+1) (Eg i L AL) (fun M hM=>hL M (by simp[hM])) q1 (fun a ha=>by have:=q2 a ha; omega)
  refine ⟨r1,fun a ha=>?_,fun j=>?_⟩
  ·have:=r2 a ha
   rw[List.length_cons]; omega
  ·show ofL (Gs (i+1) Ls (Eg i L AL)) j=_
   rw[r3 j]
   rcases Nat.lt_trichotomy j i with h | h | h
   ·rw[if_pos (by omega),if_pos h,q4 j (by omega)]
   ·subst h
    rw[if_pos (by omega),if_neg (by omega),q3,hz,Nat.sub_self]; rfl
   ·rw[if_neg (by omega),if_neg (by omega),show j - i=(j - (i+1))+1 by omega]; rfl
theorem ke {α:Type} (d:α):∀ (Ls:List α),(List.range Ls.length).map (fun j=>Ls.getD j d)=Ls:=fun Ls=>by
 refine List.ext_getElem (by simp) fun i h1 h2=>?_
 simp[h2]
section
variable {lists : List (List Ent)} {times : Int}
theorem LawT.owns (h:LawT lists times) {own:List Ent} (ho:own∈lists.map (Ad times)):own.Pairwise Bz∧own.length≤25∧(own≠ []→Fits own∧(As own).length≤600000):=by
 obtain ⟨l,hl,rfl⟩:=List.mem_map.1 ho
 exact h.own hl
theorem aH (h:LawT lists times):∀ (R P:List (List Ent)),lists.map (Ad times)=P++R→ThD P (EE P)→ThD (P++R) (EE (P++R))
 | [],P,_,hD=>by rw[List.append_nil]; exact hD
 | own::R,P,hP,hD=>by
  have hlen:lists.length=P.length+(R.length+1):=by
   have:=congrArg List.length hP
   rw[List.length_map,List.length_append,List.length_cons] at this
   exact this
  have h5:=h.few
  have ho:=(h.owns (own:=own) (by rw[hP]; simp)).2.2
  have ed:EE (P++ [own])=J8 P.length own (EE P):=by show UI 0 _ _=_; rw[Qg,Nat.zero_add]
  have:=aH h R (P++ [own]) (by rw[hP]; simp) (by rw[ed]; exact (hD.snoc (own:=own) (by omega) ho).1)
  rw[List.append_assoc] at this
  exact this
theorem TU:∀ (i:Nat) (Ls:List (List Ent)) (AL:List (Nat×Ent)),(∀ L∈Ls,L.length≤25)→(Gs i Ls AL).length≤AL.length+25*Ls.length
 | _,[],_,_=>by show _≤_+25*0; exact Nat.le_refl _
 | i,L::Ls,AL,h=>by
  have h1:=TU (i+1) Ls (Eg i L AL) (fun M hM=>h M (by simp[hM]))
  have h2:=h L (by simp)
  rw[Qi] at h1
  show (Gs (i+1) Ls (Eg i L AL)).length≤_
  rw[List.length_cons]; omega
end
theorem PZ:∀ (i:Nat) (Ls:List (List Ent)) (j:Nat) (k:Bool),(Bv i Ls)[j]? = some k→∃ own,Ls[j]? = some own∧k=CW (i+j) own
 | _,[],j,k,h=>by simp[Bv] at h
 | i,L::Ls,0,k,h=>by cases h; exact ⟨L,rfl,rfl⟩
 | i,L::Ls,j+1,k,h=>by
  have h:(Bv (i+1) Ls)[j]? = some k:=by rw[←h]; exact List.getElem?_cons_succ.symm
  obtain ⟨own,h1,h2⟩:=PZ (i+1) Ls j k h
  exact ⟨own,by rw[List.getElem?_cons_succ]; exact h1,by rw[h2,show i+1+j=i+(j+1) by omega]⟩
theorem Pa:∀ (i:Nat) (Ls:List (List Ent)) (j:Nat) (x:LeafD),(C7 i Ls)[j]? = some x→∃ own,Ls[j]? = some own∧x=GT (i+j) (CW (i+j) own) own
 | _,[],j,x,h=>by simp[C7] at h
 | i,L::Ls,0,x,h=>by cases h; exact ⟨L,rfl,rfl⟩
 | i,L::Ls,j+1,x,h=>by
  have h:(C7 (i+1) Ls)[j]? = some x:=by rw[←h]; exact List.getElem?_cons_succ.symm
  obtain ⟨own,h1,h2⟩:=Pa (i+1) Ls j x h
  exact ⟨own,by rw[List.getElem?_cons_succ]; exact h1,by rw[h2,show i+1+j=i+(j+1) by omega]⟩
section
variable {D : Dsk} {Ls : List (List Ent)}
theorem ThD.file (h:ThD Ls D) {j:Nat} {own:List Ent} (ho:Ls[j]? = some own) (hi:CW j own=true):OfFile D own (Bo j) (FJ own):=by
 obtain ⟨c1,c2⟩:=h.cont j own ho hi
 exact ⟨c2,rfl,(Ri c1).1,h.lv.ok,h.lv.up⟩
theorem ThD.leaf (h:ThD Ls D) {j:Nat} {own:List Ent} (ho:Ls[j]? = some own):GoodL D (CW j own) (GT j (CW j own) own)∧Ba (A7 D (CW j own) (GT j (CW j own) own)) (GT j (CW j own) own).c=own:=by
 unfold GT
 cases hk:CW j own with
 | false=>rw[if_neg (by decide)]; exact ⟨oP D own,oQ D own⟩
 | true=>
  rw[if_pos rfl]
  have hf:=h.file ho hk
  refine ⟨hf.good rfl ⟨Int.le_refl _,by decide⟩,?_⟩
  show Ba (Ah D (Bo j) (FJ own)) ⟨[],0,0⟩=own
  rw[hf.rest (Int.le_refl _)]
  exact hf.fits.flat
theorem SH:∀ (ks:List Bool) (xs:List LeafD) (Ls:List (List Ent)),xs.length=ks.length→Ls.length=ks.length→(∀ (j:Nat) (k:Bool) (x:LeafD) (own:List Ent),ks[j]? = some k→xs[j]? = some x→Ls[j]? = some own→Ba (A7 D k x) x.c=own)→restsF D ks xs=Ls
 | [],[],[],_,_,_=>rfl
 | k::ks,x::xs,L::Ls,h1,h2,h=>by
  show Ba (A7 D k x) x.c::restsF D ks xs=L::Ls
  rw[h 0 k x L rfl rfl rfl,SH ks xs Ls (by simpa using h1) (by simpa using h2) (fun j k' x' o a b c=>h (j+1) k' x' o (by simpa using a) (by simpa using b) (by simpa using c))]
theorem tA (h:ThD Ls D):restsF D (Bv 0 Ls) (C7 0 Ls)=Ls:=SH _ _ _ (by rw[Hn,Di]) (Di 0 Ls).symm fun j k x own hk hx ho=>by
 obtain ⟨o1,a1,a2⟩:=PZ 0 Ls j k hk
 obtain ⟨o2,b1,b2⟩:=Pa 0 Ls j x hx
 rw[ho] at a1 b1
 cases a1
 cases b1
 rw[a2,b2,Nat.zero_add]
 exact (h.leaf ho).2
end
def dN (Ls:List (List Ent)):FamS:= .of (C7 0 Ls) (Gs 0 Ls [])
theorem gy {lists:List (List Ent)} {times:Int} (h:LawT lists times):GoodA (EE (lists.map (Ad times))) (Bv 0 (lists.map (Ad times))) (dN (lists.map (Ad times))):=by
 have hD:=aH h (lists.map (Ad times)) [] rfl aG
 rw[List.nil_append] at hD
 have hown:=fun own ho=>h.owns (own:=own) ho
 have h5:(lists.map (Ad times)).length≤5:=by rw[List.length_map]; exact h.few
 generalize lists.map (Ad times)=Ls at *
 have hkl:(Bv 0 Ls).length=Ls.length:=Di 0 Ls
 have hx:(dN Ls).xs (Bv 0 Ls).length=C7 0 Ls:=FamS.of_xs _ (by rw[Hn,Di]) (by omega)
 obtain ⟨q1,q2,q3⟩:=Ms Ls 0 [] (fun L hL=>(hown L hL).1) .nil (fun a ha=>by cases ha)
 refine ⟨⟨?_,?_⟩,?_,?_⟩
 ·rw[hx]
  intro j k x hk hx
  obtain ⟨o1,a1,a2⟩:=PZ 0 Ls j k hk
  obtain ⟨o2,b1,b2⟩:=Pa 0 Ls j x hx
  rw[a1] at b1
  cases b1
  rw[a2,b2,Nat.zero_add]
  exact (hD.leaf a1).1
 ·rw[hx,tA hD]
  refine ⟨q1,fun a ha=>?_,?_⟩
  ·have:=q2 a ha
   rw[hkl]; omega
  ·rw[hkl]
   conv=>lhs; rw[←ke [] Ls]
   refine List.map_congr_left fun j hj=>?_
   show _=ofL (Gs 0 Ls []) j
   rw[q3 j,if_neg (by omega)]; rfl
 ·rw[hx]
  intro j x hk hx
  obtain ⟨o1,a1,a2⟩:=PZ 0 Ls j true hk
  obtain ⟨o2,b1,b2⟩:=Pa 0 Ls j x hx
  rw[a1] at b1
  cases b1
  rw[Nat.zero_add] at a2 b2
  refine ⟨o1,?_⟩
  rw[b2,←a2]
  exact hD.file a1 a2.symm
 ·show (Gs 0 Ls []).length≤_
  have:=TU 0 Ls [] (fun L hL=>(hown L hL).2.1)
  simp only[List.length_nil] at this
  omega
theorem kf:TopR (σ:=Unit) (fun _=> [BO]) 1 (fun _=>True) (fun _=> []) (fun s=>s) (fun _ s=>s) where
 next:=fun s h T=> .inr (VE (R:=Im) ⟨rfl,rfl,rfl,rfl⟩ rfl rfl T)
 nextR:=fun s h=>⟨trivial,rfl⟩
 seek:=fun s e h _ _ T=> .inr (VE (R:=Xd) ⟨e,rfl,rfl,rfl,rfl⟩ rfl rfl T)
 seekR:=fun s e h _ _=>⟨trivial,rfl⟩
 few:=fun s h=>by decide

abbrev X7:Nat:=5
noncomputable abbrev Lz:Func:=Tryd.f5
theorem oU:DP.funcs[X7]? = some Lz:=by kernel_rfl
theorem aI:Ak DP X7=true:=by kernel_rfl
theorem oV:Lz.body.isSome=true:=by kernel_rfl
noncomputable def ΓL:BF:=DG [(R4,R7)]
def X8:Ae:=fun args B r B'=>∃ (σ:Type) (TB:σ→List Box) (m:Nat) (good:σ→Prop) (rest:σ→List Ent) (nx:σ→σ) (sk:Ent→σ→σ) (s:σ) (from_ to_:ByteArray) (seq most:Int),TopR TB m good rest nx sk∧RLive TB m∧good s∧from_.size≤400000000∧args= [.ptr 0 0 0,vs from_,vs to_,vn .u64 seq,vi most]∧B=TB s ∧
  ((72057594037927935<seq∧r= .tup [AI,vi 1]∧B'=TB s)∨(¬72057594037927935<seq∧r= .tup [.rs m 0 4 0 (Cr to_ seq most (BB (Br from_) (rest s)) [] ⟨#[]⟩ false).1.length,vi 0] ∧
   B'=TB (aA nx (Cr to_ seq most (BB (Br from_) (rest s)) [] ⟨#[]⟩ false).2 (sk (Br from_) s))++ [AB.bx 0 (Cr to_ seq most (BB (Br from_) (rest s)) [] ⟨#[]⟩ false).1]))
noncomputable def ΔL:CB:=CZ [(R5,AX c6),(Vr,AX iy),(Xr,s8),(JK,X8)]
noncomputable def Ft (A:List Ent) (from_:ByteArray) (to_:ByteArray) (seq:Int) (most:Int) (o:List Ent) (s1:(List Ent)×ByteArray×Bool×Int):St:=([(2,vs from_),(3,vs to_),(4,vn .u64 seq),(5,vi most),(17, .rs 0 0 4 0 o.length),(18,vi 0),(19, .rs 1 0 4 0 s1.1.length),(20,vs s1.2.1),(21,vb s1.2.2.1),(69,vl (A.map AB.f)),(70,vi (A.length:Int)),(71,vi s1.2.2.2)],[AB.bx 0 o,AB.bx 0 s1.1])
noncomputable def ON (o:List Ent) (x1:(List Ent)):AE×St:=((.exit 0),([(17, .rs 0 0 4 0 o.length),(18,vi 0),(19, .rs 1 0 4 0 x1.length)],[AB.bx 0 o,AB.bx 0 x1]))
noncomputable def B7 (A:List Ent) (from_:ByteArray) (to_:ByteArray) (seq:Int) (most:Int) (o:List Ent) (s1:(List Ent)×ByteArray×Bool×Int) (e1:Ent) (j2:Bool):St:=([(2,vs from_),(3,vs to_),(4,vn .u64 seq),(5,vi most),(17, .rs 0 0 4 0 o.length),(18,vi 0),(19, .rs 1 0 4 0 s1.1.length),(20,vs s1.2.1),(21,vb s1.2.2.1),(23, .ptr 2 0 0),(69,vl (A.map AB.f)),(70,vi (A.length:Int)),(71,vi s1.2.2.2),(103,vb j2)],[AB.bx 0 o,AB.bx 0 s1.1, .cells false 0 ([vs e1.key,vn .u64 e1.seq,vb e1.del,vs e1.val])])
noncomputable def Gt (A:List Ent) (from_:ByteArray) (to_:ByteArray) (seq:Int) (most:Int) (o:List Ent) (s1:(List Ent)×ByteArray×Bool×Int) (e1:Ent) (j3:Bool):St:=([(2,vs from_),(3,vs to_),(4,vn .u64 seq),(5,vi most),(17, .rs 0 0 4 0 o.length),(18,vi 0),(19, .rs 1 0 4 0 s1.1.length),(20,vs e1.key),(21,vb true),(23, .ptr 2 0 0),(69,vl (A.map AB.f)),(70,vi (A.length:Int)),(71,vi s1.2.2.2),(114,vb j3)],[AB.bx 0 o,AB.bx 0 s1.1, .cells false 0 ([vs e1.key,vn .u64 e1.seq,vb e1.del,vs e1.val])])
noncomputable def Jc (A:List Ent) (from_:ByteArray) (to_:ByteArray) (seq:Int) (most:Int) (o:List Ent) (s1:(List Ent)×ByteArray×Bool×Int) (e1:Ent) (j3:Bool):Tree:=
.br j3 (
.app 118 (.row 1 ([vs e1.key,vn .u64 e1.seq,vb e1.del,vs e1.val])) s1.1.length (rowC (s1.1.map AB.f)) AB s1.1 ([e1]) (.int 119 (IntKind.i64.wrap (s1.2.2.2+1)) (s1.2.2.2+1) (.leaf ⟨[2,3,4,5,17,18,19,20,21,69,70,71],[(0,0,some (o.map AB.f)),(1,1,some ((s1.1++([e1])).map AB.f))]⟩ [rowC (o.map AB.f),rowC ((s1.1++([e1])).map AB.f)] .normal (some (Ft A from_ to_ seq most o (s1.1++([e1]),e1.key,true,s1.2.2.2+1)))))) (
.int 119 (IntKind.i64.wrap (s1.2.2.2+1)) (s1.2.2.2+1) (.leaf ⟨[2,3,4,5,17,18,19,20,21,69,70,71],[(0,0,some (o.map AB.f)),(1,0,some (s1.1.map AB.f))]⟩ [rowC (o.map AB.f),rowC (s1.1.map AB.f)] .normal (some (Ft A from_ to_ seq most o (s1.1,e1.key,true,s1.2.2.2+1)))))
noncomputable def Dj (A:List Ent) (from_:ByteArray) (to_:ByteArray) (seq:Int) (most:Int) (o:List Ent) (s1:(List Ent)×ByteArray×Bool×Int) (e1:Ent) (j2:Bool):Tree:=
.br j2 (
.int 119 (IntKind.i64.wrap (s1.2.2.2+1)) (s1.2.2.2+1) (.leaf ⟨[2,3,4,5,17,18,19,20,21,69,70,71],[(0,0,some (o.map AB.f)),(1,0,some (s1.1.map AB.f))]⟩ [rowC (o.map AB.f),rowC (s1.1.map AB.f)] .normal (some (Ft A from_ to_ seq most o (s1.1,s1.2.1,s1.2.2.1,s1.2.2.2+1))))) (
.sp 107 e1.del (
.join ⟨[2,3,4,5,17,18,19,20,21,23,69,70,71,114],[(0,0,some (o.map AB.f)),(1,0,some (s1.1.map AB.f)),(2,0,none)]⟩ [rowC (o.map AB.f),rowC (s1.1.map AB.f)] (some (Gt A from_ to_ seq most o s1 e1 false)) (Gt A from_ to_ seq most o s1 e1) false (Jc A from_ to_ seq most o s1 e1)) (
.sp 113 (decide (((s1.1.length:Nat):Int)<most)) (
.join ⟨[2,3,4,5,17,18,19,20,21,23,69,70,71,114],[(0,0,some (o.map AB.f)),(1,0,some (s1.1.map AB.f)),(2,0,none)]⟩ [rowC (o.map AB.f),rowC (s1.1.map AB.f)] (some (Gt A from_ to_ seq most o s1 e1 true)) (Gt A from_ to_ seq most o s1 e1) true (Jc A from_ to_ seq most o s1 e1)) (
.join ⟨[2,3,4,5,17,18,19,20,21,23,69,70,71,114],[(0,0,some (o.map AB.f)),(1,0,some (s1.1.map AB.f)),(2,0,none)]⟩ [rowC (o.map AB.f),rowC (s1.1.map AB.f)] (some (Gt A from_ to_ seq most o s1 e1 false)) (Gt A from_ to_ seq most o s1 e1) false (Jc A from_ to_ seq most o s1 e1))))
noncomputable def In (A:List Ent) (from_:ByteArray) (to_:ByteArray) (seq:Int) (most:Int) (o:List Ent) (s1:(List Ent)×ByteArray×Bool×Int):Tree:=
.sp 72 (decide (s1.2.2.2<(A.length:Int))) (
.elem 73 (A.map AB.f) AB A s1.2.2.2 (fun e1=> .sp 78 (Op.bytesLess e1.key.toList from_.toList) (
.join ⟨[2,3,4,5,17,18,19,20,21,23,69,70,71,103],[(0,0,some (o.map AB.f)),(1,0,some (s1.1.map AB.f)),(2,0,none)]⟩ [rowC (o.map AB.f),rowC (s1.1.map AB.f)] (some (B7 A from_ to_ seq most o s1 e1 true)) (B7 A from_ to_ seq most o s1 e1) true (Dj A from_ to_ seq most o s1 e1)) (
.sp 81 (!(to_.toList == (⟨#[]⟩:ByteArray).toList)) (
.sp 86 (!(Op.bytesLess e1.key.toList to_.toList)) (
.join ⟨[2,3,4,5,17,18,19,20,21,23,69,70,71,103],[(0,0,some (o.map AB.f)),(1,0,some (s1.1.map AB.f)),(2,0,none)]⟩ [rowC (o.map AB.f),rowC (s1.1.map AB.f)] (some (B7 A from_ to_ seq most o s1 e1 true)) (B7 A from_ to_ seq most o s1 e1) true (Dj A from_ to_ seq most o s1 e1)) (
.sp 93 (decide (e1.seq>seq)) (
.join ⟨[2,3,4,5,17,18,19,20,21,23,69,70,71,103],[(0,0,some (o.map AB.f)),(1,0,some (s1.1.map AB.f)),(2,0,none)]⟩ [rowC (o.map AB.f),rowC (s1.1.map AB.f)] (some (B7 A from_ to_ seq most o s1 e1 true)) (B7 A from_ to_ seq most o s1 e1) true (Dj A from_ to_ seq most o s1 e1)) (
.sp 96 s1.2.2.1 (
.sp 101 (e1.key.toList == s1.2.1.toList) (
.join ⟨[2,3,4,5,17,18,19,20,21,23,69,70,71,103],[(0,0,some (o.map AB.f)),(1,0,some (s1.1.map AB.f)),(2,0,none)]⟩ [rowC (o.map AB.f),rowC (s1.1.map AB.f)] (some (B7 A from_ to_ seq most o s1 e1 true)) (B7 A from_ to_ seq most o s1 e1) true (Dj A from_ to_ seq most o s1 e1)) (
.join ⟨[2,3,4,5,17,18,19,20,21,23,69,70,71,103],[(0,0,some (o.map AB.f)),(1,0,some (s1.1.map AB.f)),(2,0,none)]⟩ [rowC (o.map AB.f),rowC (s1.1.map AB.f)] (some (B7 A from_ to_ seq most o s1 e1 false)) (B7 A from_ to_ seq most o s1 e1) false (Dj A from_ to_ seq most o s1 e1))) (
.join ⟨[2,3,4,5,17,18,19,20,21,23,69,70,71,103],[(0,0,some (o.map AB.f)),(1,0,some (s1.1.map AB.f)),(2,0,none)]⟩ [rowC (o.map AB.f),rowC (s1.1.map AB.f)] (some (B7 A from_ to_ seq most o s1 e1 false)) (B7 A from_ to_ seq most o s1 e1) false (Dj A from_ to_ seq most o s1 e1))))) (
.sp 93 (decide (e1.seq>seq)) (
.join ⟨[2,3,4,5,17,18,19,20,21,23,69,70,71,103],[(0,0,some (o.map AB.f)),(1,0,some (s1.1.map AB.f)),(2,0,none)]⟩ [rowC (o.map AB.f),rowC (s1.1.map AB.f)] (some (B7 A from_ to_ seq most o s1 e1 true)) (B7 A from_ to_ seq most o s1 e1) true (Dj A from_ to_ seq most o s1 e1)) (
.sp 96 s1.2.2.1 (
.sp 101 (e1.key.toList == s1.2.1.toList) (
.join ⟨[2,3,4,5,17,18,19,20,21,23,69,70,71,103],[(0,0,some (o.map AB.f)),(1,0,some (s1.1.map AB.f)),(2,0,none)]⟩ [rowC (o.map AB.f),rowC (s1.1.map AB.f)] (some (B7 A from_ to_ seq most o s1 e1 true)) (B7 A from_ to_ seq most o s1 e1) true (Dj A from_ to_ seq most o s1 e1)) (
.join ⟨[2,3,4,5,17,18,19,20,21,23,69,70,71,103],[(0,0,some (o.map AB.f)),(1,0,some (s1.1.map AB.f)),(2,0,none)]⟩ [rowC (o.map AB.f),rowC (s1.1.map AB.f)] (some (B7 A from_ to_ seq most o s1 e1 false)) (B7 A from_ to_ seq most o s1 e1) false (Dj A from_ to_ seq most o s1 e1))) (
.join ⟨[2,3,4,5,17,18,19,20,21,23,69,70,71,103],[(0,0,some (o.map AB.f)),(1,0,some (s1.1.map AB.f)),(2,0,none)]⟩ [rowC (o.map AB.f),rowC (s1.1.map AB.f)] (some (B7 A from_ to_ seq most o s1 e1 false)) (B7 A from_ to_ seq most o s1 e1) false (Dj A from_ to_ seq most o s1 e1))))))) (
.leaf ⟨[17,18,19],[(0,0,some (o.map AB.f)),(1,0,some (s1.1.map AB.f))]⟩ [rowC (o.map AB.f),rowC (s1.1.map AB.f)] (.exit 0) (some (ON o s1.1).2))
noncomputable def Kq (o:List Ent) (x1:(List Ent)) (j4:Bool):St:=([(17, .rs 0 0 4 0 o.length),(19, .rs 1 0 4 0 x1.length),(128,vb j4)],[AB.bx 0 o,AB.bx 0 x1])
noncomputable def Kr (o:List Ent) (x1:(List Ent)) (s5:Int):St:=([(17, .rs 0 0 4 0 o.length),(19, .rs 1 0 4 0 x1.length),(130,vi ((x1.length:Nat):Int)),(131,vi s5)],[AB.bx 0 o,AB.bx 0 x1])
noncomputable def OO (x5:Unit):AE×St:=(.ret,([(12,vb false)],[]))
noncomputable def Mt (y5:Unit):AE×St:=((.exit 2),([],[]))
noncomputable def Ks (seq:Int) (o:List Ent) (x1:(List Ent)) (s5:Int):Tree:=
.sp 132 (decide (s5<((x1.length:Nat):Int))) (
.any (.ridx 136 o.length s5 (.rload 137 (rowC (o.map AB.f)) (0+Int.toNat s5*4) AB o s5 0 (fun e2=> .ridx 140 x1.length s5 (.rload 141 (rowC (x1.map AB.f)) (0+Int.toNat s5*4) AB x1 s5 0 (fun e3=> .sp 142 (!(((e2.key:ByteArray).toList == (e3.key:ByteArray).toList)&&(((e2.seq:Int) == (e3.seq:Int))&&((e2.del == e3.del)&&(((e2.val:ByteArray).toList == (e3.val:ByteArray).toList)&&true))))) (
.leaf ⟨[12],[]⟩ [] .ret (some (OO ()).2)) (
.int 143 (IntKind.i64.wrap (s5+1)) (s5+1) (.leaf ⟨[17,19,130,131],[(0,0,some (o.map AB.f)),(1,0,some (x1.map AB.f))]⟩ [rowC (o.map AB.f),rowC (x1.map AB.f)] .normal (some (Kr o x1 (s5+1))))))))))) (
.leaf ⟨[],[]⟩ [] (.exit 2) (some (Mt ()).2))
noncomputable def TV (seq:Int) (o:List Ent) (x1:(List Ent)) (j4:Bool):Tree:=
.br j4 (
.leaf ⟨[0],[]⟩ [] .ret (some ([(0,vb false)],[]))) (
.loop ⟨[17,19,130,131],[(0,0,some (o.map AB.f)),(1,0,some (x1.map AB.f))]⟩ [rowC (o.map AB.f),rowC (x1.map AB.f)] (some (Kr o x1 0)) (Kr o x1) (OO) (Mt) 0 (Ks seq o x1) (fun (x5:Unit)=> .leaf ⟨[0],[]⟩ [] .ret (some ([(0,vb false)],[]))) (fun (y5:Unit)=> .leaf ⟨[0],[]⟩ [] .ret (some ([(0,vb true)],[]))))
noncomputable def kg {σ:Type} (TB:σ→List Box) (from_ to_:ByteArray) (seq most:Int) (top:σ):Tree:=
.callr (some 56) (ΔL JK [.ptr 0 0 0,vs from_,vs to_,vn .u64 seq,vi most] (TB top) (.tup [AI,vi 1]) (TB top)) (.tup [AI,vi 1]) (TB top) (.sp 60 (decide (seq>(72057594037927935:Int))) (.leaf ⟨[0],[]⟩ [] .ret (some ([(0,vb true)],[]))) .stuck)
noncomputable def ki {σ:Type} (TB:σ→List Box) (m:Nat) (A:List Ent) (from_:ByteArray) (to_:ByteArray) (seq:Int) (most:Int) (top r2:σ) (o:List Ent):Tree:=
.callr (some 56) (ΔL JK [.ptr 0 0 0,vs from_,vs to_,vn .u64 seq,vi most] (TB top) (.tup [.rs m 0 4 0 o.length,vi 0]) (TB r2++ [AB.bx 0 o])) (.tup [.rs m 0 4 0 o.length,vi 0]) (TB r2++ [AB.bx 0 o]) (.sp 60 (decide (seq>(72057594037927935:Int))) .stuck (
.int 70 ((A.map AB.f).length:Int) (A.length:Int) (.loop ⟨[2,3,4,5,17,18,19,20,21,69,70,71],[(m,0,some (o.map AB.f)),(m+1,0,some (([]:List Ent).map AB.f))]⟩ [rowC (o.map AB.f),rowC (([]:List Ent).map AB.f)] (some (Ft A from_ to_ seq most o (([]:List Ent),⟨#[]⟩,false,0))) (Ft A from_ to_ seq most o) (ON o) CN (([]:List Ent),⟨#[]⟩,false,0) (In A from_ to_ seq most o) (fun (x1:(List Ent))=> .sp 127 (((o.length:Nat):Int) != ((x1.length:Nat):Int)) (
.join ⟨[17,19,128],[(0,0,some (o.map AB.f)),(1,0,some (x1.map AB.f))]⟩ [rowC (o.map AB.f),rowC (x1.map AB.f)] (some (Kq o x1 true)) (Kq o x1) true (TV seq o x1)) (
.join ⟨[17,19,128],[(0,0,some (o.map AB.f)),(1,0,some (x1.map AB.f))]⟩ [rowC (o.map AB.f),rowC (x1.map AB.f)] (some (Kq o x1 false)) (Kq o x1) false (TV seq o x1))) (fun _=> .stuck))))

def wM {σ:Type} (TB:σ→List Box) (from_ to_:ByteArray) (seq most:Int) (A:List Ent) (z:σ):St:=([(2,vs from_),(3,vs to_),(4,vn .u64 seq),(5,vi most),(14, .ptr 0 0 0),(15,vl (A.map AB.f)),(16,vb true)],TB z)
noncomputable def J9 {σ:Type} (TB:σ→List Box) (F:List Box) (W:Wd) (s0:σ) (K:σ→Tree) (lists:List (List Ent)) (times:Int) (from_:ByteArray) (to_:ByteArray) (seq:Int) (most:Int) (A:List Ent) (D0:Dsk) (h:Bool) (b:Bool):Tree:=
.call 25 (R7 []=some (vb h)) (vb h) (.sp 25 h (
.callr (some 28) (ΔL R5 [vl (lists.map CQ.f)] [] (vb b) []) (vb b) [] (.sp 28 b (
.leaf ⟨[0],[]⟩ [] .ret (some ([(0,vb true)],[]))) (
.sp 32 (decide ((from_.size:Int)>(200:Int))) (
.leaf ⟨[0],[]⟩ [] .ret (some ([(0,vb true)],[]))) (
.sp 37 (decide ((to_.size:Int)>(200:Int))) (
.leaf ⟨[0],[]⟩ [] .ret (some ([(0,vb true)],[]))) (
.callr (some 39) (ΔL Vr [vi 4194304] [] (.op 0) [BD D0]) (.op 0) [BD D0] (.callr (some 44) (ΔL Xr [.op 0,vl (lists.map CQ.f),vi times] [BD D0] (.tup [.ptr 1 0 0,vl (A.map AB.f),vb true]) F) (.tup [.ptr 1 0 0,vl (A.map AB.f),vb true]) F (.join W [] (some (wM TB from_ to_ seq most A s0)) (wM TB from_ to_ seq most A) s0 K))))))) (
.leaf ⟨[0],[]⟩ [] .ret (some ([(0,vb false)],[]))))

abbrev OP (n d:Nat):Wd:=⟨[2,3,4,5,14,15,16],((List.range n).map fun j=>(j+1,0,none))++(if d=0 then [] else [(0,0,none)])⟩
def dO {σ:Type} (TB:σ→List Box) (F:List Box) (W:Wd) (s0:σ):Prop:=∀ (lists:List (List Ent)) (times:Int) (from_ to_:ByteArray) (seq most:Int) (A:List Ent) (D0:Dsk) (h b:Bool),
 Av DP ΓL ΔL Lz [vl (lists.map CQ.f),vi times,vs from_,vs to_,vn .u64 seq,vi most] [] (J9 TB F W s0 (kg TB from_ to_ seq most) lists times from_ to_ seq most A D0 h b)=J9 TB F W s0 (kg TB from_ to_ seq most) lists times from_ to_ seq most A D0 h b
def dP {σ:Type} (TB:σ→List Box) (m:Nat) (F:List Box) (W:Wd) (s0:σ):Prop:=∀ (lists:List (List Ent)) (times:Int) (from_ to_:ByteArray) (seq most:Int) (A:List Ent) (D0:Dsk) (h b:Bool) (rK:σ→σ) (o:List Ent),
 Av DP ΓL ΔL Lz [vl (lists.map CQ.f),vi times,vs from_,vs to_,vn .u64 seq,vi most] [] (J9 TB F W s0 (fun z=>ki TB m A from_ to_ seq most z (rK z) o) lists times from_ to_ seq most A D0 h b)=J9 TB F W s0 (fun z=>ki TB m A from_ to_ seq most z (rK z) o) lists times from_ to_ seq most A D0 h b
def xV (ks:List Bool):Prop:=∀ (D:Dsk) (x0 x1 x2 x3 x4:LeafD) (AL:List (Nat×Ent)),
 dO (Mq ks D) (J7 ks (l5 ks.length x0 x1 x2 x3 x4) D) (OP (2+ks.length+BS ks) (BS ks)) ⟨x0,x1,x2,x3,x4,AL⟩∧dP (Mq ks D) (Ap ks) (J7 ks (l5 ks.length x0 x1 x2 x3 x4) D) (OP (2+ks.length+BS ks) (BS ks)) ⟨x0,x1,x2,x3,x4,AL⟩
def Ho:List (List Bool):= [[false,false],[false,true],[false,false,false],[false,true,false],[false,false,false,false],[false,true,false,false],[false,false,false,true],[false,true,false,true],[false,false,false,false,false],[false,true,false,false,false],[false,false,false,true,false],[false,true,false,true,false]]
theorem wB:Fa xV Ho:=⟨by intro D x0 x1 x2 x3 x4 AL; exact ⟨by intro _;intros;kernel_rfl,by intro _;intros;kernel_rfl⟩,by intro D x0 x1 x2 x3 x4 AL; exact ⟨by intro _;intros;kernel_rfl,by intro _;intros;kernel_rfl⟩,by intro D x0 x1 x2 x3 x4 AL; exact ⟨by intro _;intros;kernel_rfl,by intro _;intros;kernel_rfl⟩,by intro D x0 x1 x2 x3 x4 AL; exact ⟨by intro _;intros;kernel_rfl,by intro _;intros;kernel_rfl⟩,by intro D x0 x1 x2 x3 x4 AL; exact ⟨by intro _;intros;kernel_rfl,by intro _;intros;kernel_rfl⟩,by intro D x0 x1 x2 x3 x4 AL; exact ⟨by intro _;intros;kernel_rfl,by intro _;intros;kernel_rfl⟩,by intro D x0 x1 x2 x3 x4 AL; exact ⟨by intro _;intros;kernel_rfl,by intro _;intros;kernel_rfl⟩,by intro D x0 x1 x2 x3 x4 AL; exact ⟨by intro _;intros;kernel_rfl,by intro _;intros;kernel_rfl⟩,by intro D x0 x1 x2 x3 x4 AL; exact ⟨by intro _;intros;kernel_rfl,by intro _;intros;kernel_rfl⟩,by intro D x0 x1 x2 x3 x4 AL; exact ⟨by intro _;intros;kernel_rfl,by intro _;intros;kernel_rfl⟩,by intro D x0 x1 x2 x3 x4 AL; exact ⟨by intro _;intros;kernel_rfl,by intro _;intros;kernel_rfl⟩,by intro D x0 x1 x2 x3 x4 AL; exact ⟨by intro _;intros;kernel_rfl,by intro _;intros;kernel_rfl⟩,trivial⟩
theorem wC (D:Dsk) (L:List Ent):dO (fun L=>Do ⟨L,0,0⟩) (J7 [false] [M4 L] D) (OP 1 0) L:=by intro _;intros;kernel_rfl
theorem wD (D:Dsk) (L:List Ent):dP (fun L=>Do ⟨L,0,0⟩) 1 (J7 [false] [M4 L] D) (OP 1 0) L:=by intro _;intros;kernel_rfl
theorem lj (D:Dsk):dO (fun _:Unit=> [BO]) (J7 [] [] D) (OP 1 0) ():=by intro _;intros;kernel_rfl
theorem wE (D:Dsk):dP (fun _:Unit=> [BO]) 1 (J7 [] [] D) (OP 1 0) ():=by intro _;intros;kernel_rfl

def EW (from_ to_:ByteArray) (seq:Int) (last:ByteArray) (seen:Bool) (x:Ent):Bool:=Op.bytesLess x.key.toList from_.toList||Du to_ x||GR seq last seen x
def Cs (from_ to_:ByteArray) (seq most:Int) (s:List Ent×ByteArray×Bool) (x:Ent):List Ent×ByteArray×Bool:=
 if EW from_ to_ seq s.2.1 s.2.2 x=true then s else (if x.del=false∧(s.1.length:Int)<most then s.1++ [x] else s.1,x.key,true)
section
variable {from_ to_ : ByteArray} {seq most : Int}
theorem UK:∀ (R:List Ent) (s:List Ent×ByteArray×Bool),¬(s.1.length:Int)<most→(R.foldl (Cs from_ to_ seq most) s).1=s.1
 | [],_,_=>rfl
 | x::R,s,h=>by
  rw[List.foldl_cons]
  have e:(Cs from_ to_ seq most s x).1=s.1:=by
   unfold Cs
   split
   ·rfl
   ·exact if_neg fun g=>h g.2
  rw[UK R _ (by rw[e]; exact h),e]
theorem UL:∀ (R:List Ent) (s:List Ent×ByteArray×Bool),(∀ x∈R,Du to_ x=true)→(R.foldl (Cs from_ to_ seq most) s).1=s.1
 | [],_,_=>rfl
 | x::R,s,h=>by
  rw[List.foldl_cons]
  have e:Cs from_ to_ seq most s x=s:=if_pos (by unfold EW; rw[h x (by simp),Bool.or_true,Bool.true_or])
  rw[e]
  exact UL R s fun y hy=>h y (by simp[hy])
theorem X9:∀ (M R:List Ent) (s:List Ent×ByteArray×Bool),(∀ x∈M,Op.bytesLess x.key.toList from_.toList=true)→(M++R).foldl (Cs from_ to_ seq most) s=R.foldl (Cs from_ to_ seq most) s
 | [],_,_,_=>rfl
 | x::M,R,s,h=>by
  have e:Cs from_ to_ seq most s x=s:=if_pos (by unfold EW; rw[h x (by simp),Bool.true_or,Bool.true_or])
  show (M++R).foldl _ (Cs from_ to_ seq most s x)=_
  rw[e]
  exact X9 M R s fun y hy=>h y (by simp[hy])
theorem oW {x y:Ent} (h:¬bl y.key.data.toList x.key.data.toList) (hs:Du to_ x=true):Du to_ y=true:=by
 unfold Du at hs ⊢
 rw[Bool.and_eq_true] at hs ⊢
 refine ⟨hs.1,?_⟩
 have hx:¬bl x.key.data.toList to_.data.toList:=by
  have:=hs.2
  rw[ByteArray.toList_eq,ByteArray.toList_eq] at this
  simpa [bl] using this
 rw[ByteArray.toList_eq,ByteArray.toList_eq]
 have:¬bl y.key.data.toList to_.data.toList:=fun g=>by
  rcases RJ x.key.data.toList y.key.data.toList with q | q | q
  ·exact hx (He q g)
  ·rw[q] at hx; exact hx g
  ·exact h q
 simpa [bl] using this
abbrev UM (R:List Ent):Prop:=R.Pairwise fun x y=>¬bl y.key.data.toList x.key.data.toList
theorem UN:∀ (R:List Ent) (out:List Ent) (last:ByteArray) (seen:Bool),UM R→(∀ x∈R,Op.bytesLess x.key.toList from_.toList=false) →
  (Cr to_ seq most R out last seen).1=(R.foldl (Cs from_ to_ seq most) (out,last,seen)).1
 | [],out,last,seen,_,_=>by
  unfold Cr
  split <;> rfl
 | x::R,out,last,seen,hu,hf=>by
  unfold Cr
  by_cases hm:(out.length:Int)<most
  ·rw[if_pos hm]
   by_cases hst:Du to_ x=true
   ·rw[if_pos hst]
    exact (UL (x::R) (out,last,seen) fun y hy=>by
     rcases List.mem_cons.1 hy with rfl | hy
     ·exact hst
     ·exact oW (List.rel_of_pairwise_cons hu hy) hst).symm
   ·rw[if_neg hst]
    have hst':Du to_ x=false:=by simpa using hst
    have hf':=hf x (by simp)
    have ih:=fun o l s=>UN R o l s hu.of_cons fun y hy=>hf y (by simp[hy])
    rw[List.foldl_cons]
    by_cases hsk:GR seq last seen x=true
    ·rw[if_pos hsk]
     have e:Cs from_ to_ seq most (out,last,seen) x=(out,last,seen):=if_pos (by unfold EW; rw[hsk,Bool.or_true])
     rw[e]
     exact ih out last seen
    ·rw[if_neg hsk]
     have hsk':GR seq last seen x=false:=by simpa using hsk
     have e:Cs from_ to_ seq most (out,last,seen) x=(if x.del then out else out++ [x],x.key,true):=by
      unfold Cs
      rw[if_neg (by unfold EW; rw[hf',hst',hsk']; decide)]
      congr 1
      cases hd:x.del with
      | true=>rw[if_neg (fun g=>by cases g.1),if_pos rfl]
      | false=>rw[if_pos ⟨rfl,hm⟩,if_neg (by decide)]
     rw[e]
     exact ih _ x.key true
  ·rw[if_neg hm]
   exact (UK (x::R) (out,last,seen) hm).symm
theorem gz:∀ (A:List Ent) (s:List Ent×ByteArray×Bool),UM A→(∀ x∈A,Dp x) →
  A.foldl (Cs from_ to_ seq most) s=(BB (Br from_) A).foldl (Cs from_ to_ seq most) s∧UM (BB (Br from_) A)∧(∀ x∈BB (Br from_) A,Op.bytesLess x.key.toList from_.toList=false):=by
 have hlt:∀ x:Ent,Dp x→(BK x (Br from_)<0↔Op.bytesLess x.key.toList from_.toList=true):=fun x hx=>by
  rw[D5,ByteArray.toList_eq,ByteArray.toList_eq]
  constructor
  ·rintro (h | ⟨_,h⟩)
   ·exact h
   ·have h:(72057594037927935:Int)<x.seq:=h
    have:=hx.2
    omega
  ·exact fun h=> .inl h
 intro A
 induction A with
 | nil=>intro s _ _; exact ⟨rfl, .nil,fun x hx=>by cases hx⟩
 | cons x A ih=>
  intro s hu hq
  have hx:=hlt x (hq x (by simp))
  by_cases hc:BK x (Br from_)<0
  ·have e:BB (Br from_) (x::A)=BB (Br from_) A:=List.dropWhile_cons_of_pos (decide_eq_true hc)
   rw[e]
   obtain ⟨h1,h2,h3⟩:=ih s hu.of_cons fun y hy=>hq y (by simp[hy])
   exact ⟨(X9 [x] A s fun y hy=>by rw[List.mem_singleton.1 hy]; exact hx.1 hc).trans h1,h2,h3⟩
  ·have e:BB (Br from_) (x::A)=x::A:=List.dropWhile_cons_of_neg (by simpa using hc)
   rw[e]
   refine ⟨rfl,hu,fun y hy=>?_⟩
   have hx0:¬bl x.key.data.toList from_.data.toList:=by
    have:=mt hx.2 hc
    rw[ByteArray.toList_eq,ByteArray.toList_eq] at this
    exact this
   have hy0:¬bl y.key.data.toList from_.data.toList:=by
    rcases List.mem_cons.1 hy with rfl | hy
    ·exact hx0
    ·have h:=List.rel_of_pairwise_cons hu hy
     intro g
     rcases RJ x.key.data.toList y.key.data.toList with q | q | q
     ·exact hx0 (He q g)
     ·rw[q] at hx0; exact hx0 g
     ·exact h q
   rw[ByteArray.toList_eq,ByteArray.toList_eq]
   simpa [bl] using hy0
end
theorem oX {AL:List (Nat×Ent)} (h:AL.Pairwise Lw):UM (AL.map (·.2)):=by
 rw[UM,List.pairwise_map]
 refine h.imp fun {a b} hab g=>?_
 rcases hab with (q | ⟨q,_⟩) | ⟨⟨q,_⟩,_⟩
 ·exact HA (He q g)
 ·rw[q] at g; exact HA g
 ·rw[q] at g; exact HA g
theorem kj {A:List Ent} (from_ to_:ByteArray) (seq most:Int) (hu:UM A) (hq:∀ x∈A,Dp x):
  (A.foldl (Cs from_ to_ seq most) ([],⟨#[]⟩,false)).1=(Cr to_ seq most (BB (Br from_) A) [] ⟨#[]⟩ false).1:=by
 obtain ⟨h1,h2,h3⟩:=gz (from_:=from_) (to_:=to_) (seq:=seq) (most:=most) A ([],⟨#[]⟩,false) hu hq
 rw[h1]
 exact (UN _ _ _ _ h2 h3).symm
end Go.Ax
