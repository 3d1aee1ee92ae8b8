/- The law of parts: trees of its loops (turned by gen/mkcd1.py). -/
import Derived.Test.YtddkloofiknjdaaDoorG36
set_option linter.unusedVariables false
set_option linter.unusedSimpArgs false
set_option linter.unusedSectionVars false
namespace Go.Ax
open Go.Proofs Go.RowKit
set_option maxRecDepth 100000

abbrev iParts:Nat:=3
noncomputable abbrev nParts:Func:=Tryd.f3
theorem hfParts:DP.funcs[iParts]? = some nParts:=by kernel_rfl
theorem heParts:enters DP iParts=true:=by kernel_rfl
theorem hbParts:nParts.body.isSome=true:=by kernel_rfl
noncomputable abbrev cPl:Code:=nav [true,true,true,true,true,true,false,true,false] (bodyOf nParts)
noncomputable abbrev cPb:Code:=nav [true,true,true,true,true,true,false,true,false,false] (bodyOf nParts)
noncomputable abbrev cNl:Code:=nav [true,true,true,true,true,true,true,true,false,true,false] (bodyOf nParts)
noncomputable abbrev cNb:Code:=nav [true,true,true,true,true,true,true,true,false,true,false,false] (bodyOf nParts)
def pSl (A:List Ent) (parts n:Int) (i:Nat):List (Nat×AV):= [(1,vi parts),(5,vl (A.map entE.f)),(6, .rs 0 0 1 0 i),(7,vi n),(8,vi ((i:Nat):Int))]
noncomputable def ΔPb:REnv:=envR [(iListC,orR (liftR OListC) (sealR (liftR OListC)))]
noncomputable def ΓPt:Env:=envP [(iHeadC,gHeadC),(iSomeL,gSomeL)]
noncomputable def ΔPt:REnv:=envR [(iBigC,sealR (liftR OBigC)),(iManyC,OManyC),(iNextC,orR (liftR ONext) (liftR ONextM))]
noncomputable def TPb_l1_e (A:List Ent) (lv:List Box) (parts:Int) (n:Int) (i:Nat) (s1:(List Ent)×Int):St:=(pSl A parts n i++ [(9, .rs (i+1) 0 4 0 s1.1.length),(38,vl (A.map entE.f)),(39,vi (A.length:Int)),(40,vi s1.2)],((csX i::lv)++ [entE.bx 0 s1.1]))
noncomputable def TPb_l1_x (A:List Ent) (lv:List Box) (parts:Int) (n:Int) (i:Nat) (x1:(List Ent)):AE×St:=((.exit 2),(pSl A parts n i++ [(9, .rs (i+1) 0 4 0 x1.length)],((csX i::lv)++ [entE.bx 0 x1])))
noncomputable def TPb_l1_b (A:List Ent) (lv:List Box) (parts:Int) (n:Int) (i:Nat) (s1:(List Ent)×Int):Tree:=
.sp 41 (decide (s1.2<(A.length:Int))) (
.elem 43 (A.map entE.f) entE A s1.2 (fun e1=> .int 46 (IntKind.i64.wrap (s1.2*7)) (s1.2*7) (.int 49 (IntKind.i64.wrap ((s1.2*7)+(Int.fdiv parts (2 ^ 3)))) ((s1.2*7)+(Int.fdiv parts (2 ^ 3))) (.int 50 (IntKind.i64.wrap ((BitVec.ofInt IntKind.i64.bits ((s1.2*7)+(Int.fdiv parts (2 ^ 3))) &&& BitVec.ofInt IntKind.i64.bits 3).toNat)) (((s1.2*7)+(Int.fdiv parts (2 ^ 3))) % 4) (.val (some 52) ((binA DP .rem 3 (vi (((s1.2*7)+(Int.fdiv parts (2 ^ 3))) % 4)) (vi n)).map (fun v=>(v,(((csX i::lv)++ [entE.bx 0 s1.1, .cells false 0 ([vs e1.key,vn .u64 e1.seq,vb e1.del,vs e1.val])]):List Box)))=some (vi (Int.tmod (((s1.2*7)+(Int.fdiv parts (2 ^ 3))) % 4) n),((csX i::lv)++ [entE.bx 0 s1.1, .cells false 0 ([vs e1.key,vn .u64 e1.seq,vb e1.del,vs e1.val])]))) (vi (Int.tmod (((s1.2*7)+(Int.fdiv parts (2 ^ 3))) % 4) n)) ((csX i::lv)++ [entE.bx 0 s1.1, .cells false 0 ([vs e1.key,vn .u64 e1.seq,vb e1.del,vs e1.val])]) (.sp 54 ((Int.tmod (((s1.2*7)+(Int.fdiv parts (2 ^ 3))) % 4) n) == ((i:Nat):Int)) (
.app 58 (.row 1 ([vs e1.key,vn .u64 e1.seq,vb e1.del,vs e1.val])) s1.1.length (rowC (s1.1.map entE.f)) entE s1.1 ([e1]) (.int 59 (IntKind.i64.wrap (s1.2+1)) (s1.2+1) (.leaf (wdT [1,5,6,7,8,9,38,39,40] (i+1) [(i+1,1,some ((s1.1++([e1])).map entE.f))]) [rowC ((s1.1++([e1])).map entE.f)] .normal (some (TPb_l1_e A lv parts n i (s1.1++([e1]),s1.2+1)))))) (
.int 59 (IntKind.i64.wrap (s1.2+1)) (s1.2+1) (.leaf (wdT [1,5,6,7,8,9,38,39,40] (i+1) [(i+1,0,some (s1.1.map entE.f))]) [rowC (s1.1.map entE.f)] .normal (some (TPb_l1_e A lv parts n i (s1.1,s1.2+1))))))))))) (
.leaf (wdT [1,5,6,7,8,9] (i+1) [(i+1,0,some (s1.1.map entE.f))]) [rowC (s1.1.map entE.f)] (.exit 2) (some (TPb_l1_x A lv parts n i s1.1).2))
noncomputable def TPb (A:List Ent) (lv:List Box) (parts:Int) (n:Int) (i:Nat):Tree:=
.sp 34 (decide (((i:Nat):Int)<n)) (
.int 39 ((A.map entE.f).length:Int) (A.length:Int) (.loop (wdT [1,5,6,7,8,9,38,39,40] (i+1) [(i+1,0,none)]) [] (some (TPb_l1_e A lv parts n i (([]:List Ent),0))) (TPb_l1_e A lv parts n i) (TPb_l1_x A lv parts n i) noX (([]:List Ent),0) (TPb_l1_b A lv parts n i) (fun (x1:(List Ent))=> .callr (some 62) (ΔPb iListC [.rs (i+1) 0 4 0 x1.length] ((csX i::lv)++ [entE.bx 0 x1]) (.ptr (i+2) 0 0) ((csX i::lv)++ [.dead, .cells false 0 ([vi 1,vl (x1.map entE.f), .p (.v (.pointer none)),vi 0,nilS,vi 0])])) (.ptr (i+2) 0 0) ((csX i::lv)++ [.dead, .cells false 0 ([vi 1,vl (x1.map entE.f), .p (.v (.pointer none)),vi 0,nilS,vi 0])]) (.leaf ⟨[1,5,6,7,8],(0,1,none)::(((List.range i).map fun j=>(j+1,0,none))++ [(i+2,0,none)])⟩ [] .normal (some (pSl A parts n (i+1),csX (i+1)::(lv++ [curB 1 nilQ ⟨x1,0,0⟩]))))) (fun _=> .stuck))) (
.leaf (wdT [5,6] (i+1) []) [] (.exit 0) (some ([(5,vl (A.map entE.f)),(6, .rs 0 0 1 0 i)],(csX i::lv))))

noncomputable def TNb {σ:Type} (TB:σ→List Box) (m:Nat) (A:List Ent) (top:σ) (i:Int) (nK:σ→σ) (xK:σ→Ent) (oK:σ→Bool):Tree:=
.sp 70 (decide (i<(A.length:Int))) (
.elem 71 (A.map entE.f) entE A i (fun e1=> .callr (some 75) (ΔC6 iNextC [.ptr 0 0 0] ((TB top)++ [.cells false 0 ([vs e1.key,vn .u64 e1.seq,vb e1.del,vs e1.val])]) (.tup [(entE.av (xK top)),vb (oK top),vi 0]) ((TB (nK top))++ [.cells false 0 ([vs e1.key,vn .u64 e1.seq,vb e1.del,vs e1.val])])) (.tup [(entE.av (xK top)),vb (oK top),vi 0]) ((TB (nK top))++ [.cells false 0 ([vs e1.key,vn .u64 e1.seq,vb e1.del,vs e1.val])]) (.sp 77 (oK top) (
.sp 88 (!((((xK top).key:ByteArray).toList == (e1.key:ByteArray).toList)&&((((xK top).seq:Int) == (e1.seq:Int))&&((((xK top).del) == e1.del)&&((((xK top).val:ByteArray).toList == (e1.val:ByteArray).toList)&&true))))) (
.leaf ⟨[4],[]⟩ [] .ret (some ([(4,vb false)],[]))) (
.int 90 (IntKind.i64.wrap (i+1)) (i+1) (.leaf (wdT [12,67,68,69] m []) [] .normal (some ([(12, .ptr 0 0 0),(67,vl (A.map entE.f)),(68,vi (A.length:Int)),(69,vi (i+1))],(TB (nK top))))))) (
.leaf ⟨[4],[]⟩ [] .ret (some ([(4,vb false)],[])))))) (
.leaf (wdT [12] m []) [] (.exit 4) (some ([(12, .ptr 0 0 0)],(TB top))))

noncomputable def TParts {σ:Type} (TB:σ→List Box) (m:Nat) (list:List Ent) (parts:Int) (A:List Ent) (n:Nat) (lv:List Box) (top0 top:σ) (nK:σ→σ) (xK:σ→Ent) (oK:σ→Bool) (h:Bool) (b:Bool):Tree:=
.call 21 (gHeadC []=some (vb h)) (vb h) (.sp 21 h (
.callr (some 25) (ΔPt iBigC [.rs 0 0 1 0 1] [.cells true 0 ([vl (list.map entE.f)])] (vb b) [.dead]) (vb b) [.dead] (.sp 25 b (
.leaf ⟨[0],[]⟩ [] .ret (some ([(0,vb true)],[]))) (
.call 27 (gSomeL [vl (list.map entE.f),vi 0]=some (vl (A.map entE.f))) (vl (A.map entE.f)) (.int 30 (IntKind.i64.wrap ((BitVec.ofInt IntKind.i64.bits parts &&& BitVec.ofInt IntKind.i64.bits 3).toNat)) (parts % 4) (.int 31 (IntKind.i64.wrap (1+(parts % 4))) (1+(parts % 4)) (.frag none ⟨[1,5,6,7,8],[(1,0,none)]⟩ [] (some (([(1,vi parts),(5,vl (A.map entE.f)),(6, .rs 0 0 1 0 0),(7,vi (1+(parts % 4))),(8,vi 0)],[.cells true 0 ([])]))) ([(1,vi parts),(5,vl (A.map entE.f)),(6, .rs 0 0 1 0 0),(7,vi (1+(parts % 4))),(8,vi 0)],[.cells true 0 ([])]) (Tri DP 103 0 false cPl (St.as ([(1,vi parts),(5,vl (A.map entE.f)),(6, .rs 0 0 1 0 0),(7,vi (1+(parts % 4))),(8,vi 0)],[.cells true 0 ([])])) fun e' s'=>e'=(.exit 0)∧s'=St.as ([(5,vl (A.map entE.f)),(6, .rs 0 0 1 0 n)],(csX n::lv))) (.exit 0) ([(5,vl (A.map entE.f)),(6, .rs 0 0 1 0 n)],(csX n::lv)) (.callr (some 66) (ΔPt iManyC [.rs 0 0 1 0 n] (csX n::lv) (.ptr (n+1) 0 0) ((csX n::lv)++ [manyX (n+1) n,csX n])) (.ptr (n+1) 0 0) ((csX n::lv)++ [manyX (n+1) n,csX n]) (.int 68 ((A.map entE.f).length:Int) (A.length:Int) (.frag none ⟨[12,67,68,69],(n+1,0,none)::(n+2,0,none)::((List.range n).map fun j=>(j+1,0,none))⟩ [] (some (([(12, .ptr 0 0 0),(67,vl (A.map entE.f)),(68,vi (A.length:Int)),(69,vi 0)],(TB top0)))) ([(12, .ptr 0 0 0),(67,vl (A.map entE.f)),(68,vi (A.length:Int)),(69,vi 0)],(TB top0)) (Tri DP 103 0 false cNl (St.as ([(12, .ptr 0 0 0),(67,vl (A.map entE.f)),(68,vi (A.length:Int)),(69,vi 0)],(TB top0))) fun e' s'=>e'=(.exit 4)∧s'=St.as ([(12, .ptr 0 0 0)],(TB top))) (.exit 4) ([(12, .ptr 0 0 0)],(TB top)) (.callr (some 93) (ΔPt iNextC [.ptr 0 0 0] (TB top) (.tup [(entE.av (xK top)),vb (oK top),vi 0]) (TB (nK top))) (.tup [(entE.av (xK top)),vb (oK top),vi 0]) (TB (nK top)) (.sp 95 (oK top) (
.leaf ⟨[0],[]⟩ [] .ret (some ([(0,vb false)],[]))) (
.leaf ⟨[0],[]⟩ [] .ret (some ([(0,vb true)],[])))))))))))))) (
.leaf ⟨[0],[]⟩ [] .ret (some ([(0,vb false)],[]))))

def RPb (i:Nat):Prop:=∀ (A:List Ent) (parts n:Int) (L0 L1 L2 L3:List Ent),
 codeC DP Γ0 ΔPb 103 0 cPb (St.as (pSl A parts n i,csX i::([curB 1 nilQ ⟨L0,0,0⟩,curB 1 nilQ ⟨L1,0,0⟩,curB 1 nilQ ⟨L2,0,0⟩,curB 1 nilQ ⟨L3,0,0⟩].take i))) (TPb A ([curB 1 nilQ ⟨L0,0,0⟩,curB 1 nilQ ⟨L1,0,0⟩,curB 1 nilQ ⟨L2,0,0⟩,curB 1 nilQ ⟨L3,0,0⟩].take i) parts n i) (leafC 0) =
  TPb A ([curB 1 nilQ ⟨L0,0,0⟩,curB 1 nilQ ⟨L1,0,0⟩,curB 1 nilQ ⟨L2,0,0⟩,curB 1 nilQ ⟨L3,0,0⟩].take i) parts n i
theorem allPb:allP RPb [0,1,2,3,4]:=⟨by intro A parts n L0 L1 L2 L3; kernel_rfl,by intro A parts n L0 L1 L2 L3; kernel_rfl,by intro A parts n L0 L1 L2 L3; kernel_rfl,by intro A parts n L0 L1 L2 L3; kernel_rfl,by intro A parts n L0 L1 L2 L3; kernel_rfl,trivial⟩
end Go.Ax

namespace Go.Ax
open Go.Proofs Go.RowKit
set_option maxRecDepth 100000

structure FamS where
 x0:LeafD
 x1:LeafD
 x2:LeafD
 x3:LeafD
 x4:LeafD
 AL:List (Nat×Ent)
abbrev FamS.xs (s:FamS) (n:Nat):List LeafD:=l5 n s.x0 s.x1 s.x2 s.x3 s.x4
def famT (ks:List Bool) (D:Dsk) (s:FamS):List Box:=famC ks (s.xs ks.length) D
def RNb {σ:Type} (TB:σ→List Box) (m:Nat):Prop:=∀ (A:List Ent) (top:σ) (i:Int) (nK:σ→σ) (xK:σ→Ent) (oK:σ→Bool),
 codeC DP Γ0 ΔC6 103 0 cNb (St.as ([(12, .ptr 0 0 0),(67,vl (A.map entE.f)),(68,vi (A.length:Int)),(69,vi i)],TB top)) (TNb TB m A top i nK xK oK) (leafC 0)=TNb TB m A top i nK xK oK
def lsD (L:List Ent):LeafD:=⟨⟨L,0,0⟩,⟨#[]⟩,⟨[],[],0,⟨#[]⟩,⟨#[]⟩⟩⟩
def lsS (L0 L1 L2 L3:List Ent) (AL:List (Nat×Ent)):FamS:=⟨lsD L0,lsD L1,lsD L2,lsD L3,lsD [],AL⟩
def lvB (n:Nat) (L0 L1 L2 L3:List Ent):List Box:= [curB 1 nilQ ⟨L0,0,0⟩,curB 1 nilQ ⟨L1,0,0⟩,curB 1 nilQ ⟨L2,0,0⟩,curB 1 nilQ ⟨L3,0,0⟩].take n
def RPt (n:Nat):Prop:=∀ (D:Dsk) (list:List Ent) (parts:Int) (A L0 L1 L2 L3:List Ent) (AL:List (Nat×Ent)) (top:FamS) (nK:FamS→FamS) (xK:FamS→Ent) (oK:FamS→Bool) (h b:Bool),
 fnC DP ΓPt ΔPt nParts [vl (list.map entE.f),vi parts] [] (TParts (famT (List.replicate n false) D) (famL (List.replicate n false)) list parts A n (lvB n L0 L1 L2 L3) (lsS L0 L1 L2 L3 AL) top nK xK oK h b) =
  TParts (famT (List.replicate n false) D) (famL (List.replicate n false)) list parts A n (lvB n L0 L1 L2 L3) (lsS L0 L1 L2 L3 AL) top nK xK oK h b
theorem nb_1 (D:Dsk):RNb (famT [false] D) 3:=by intro A top i nK xK oK; kernel_rfl
theorem nb_2 (D:Dsk):RNb (famT [false,false] D) 4:=by intro A top i nK xK oK; kernel_rfl
theorem nb_3 (D:Dsk):RNb (famT [false,false,false] D) 5:=by intro A top i nK xK oK; kernel_rfl
theorem nb_4 (D:Dsk):RNb (famT [false,false,false,false] D) 6:=by intro A top i nK xK oK; kernel_rfl
theorem pt_1:RPt 1:=by intro D list parts A L0 L1 L2 L3 AL top nK xK oK h b; kernel_rfl
theorem pt_2:RPt 2:=by intro D list parts A L0 L1 L2 L3 AL top nK xK oK h b; kernel_rfl
theorem pt_3:RPt 3:=by intro D list parts A L0 L1 L2 L3 AL top nK xK oK h b; kernel_rfl
theorem pt_4:RPt 4:=by intro D list parts A L0 L1 L2 L3 AL top nK xK oK h b; kernel_rfl
end Go.Ax

namespace Go.Ax
open Go.Proofs Go.RowKit
set_option maxRecDepth 100000

def lbE (a b:Nat×Ent):Prop:=ltE a.2 b.2∨((a.2.key=b.2.key∧a.2.seq=b.2.seq)∧a.1<b.1)
def ofL (AL:List (Nat×Ent)) (j:Nat):List Ent:=(AL.filter fun a=>a.1 == j).map (·.2)
structure Shuf (AL:List (Nat×Ent)) (n:Nat) (rs:List (List Ent)):Prop where
 up:AL.Pairwise lbE
 lt:∀ a∈AL,a.1<n
 rs:rs=(List.range n).map (ofL AL)
theorem ofL_cons (a:Nat×Ent) (AL:List (Nat×Ent)) (j:Nat):ofL (a::AL) j=if a.1=j then a.2::ofL AL j else ofL AL j:=by
 unfold ofL
 rw[List.filter_cons]
 by_cases h:a.1=j
 ·rw[if_pos h,if_pos (by simpa using h)]; rfl
 ·rw[if_neg h,if_neg (by simpa using h)]
theorem ofL_mem {AL:List (Nat×Ent)} {j:Nat} {y:Ent} (h:y∈ofL AL j):(j,y)∈AL:=by
 unfold ofL at h
 obtain ⟨a,ha,rfl⟩:=List.mem_map.1 h
 obtain ⟨h1,h2⟩:=List.mem_filter.1 ha
 rw[←show a.1=j by simpa using h2]
 exact h1
theorem fpick_neg {y:Ent} {s:Int×Ent} {i:Nat} {r:List Ent} (hr:∀ h t,r=h::t→cmpE y h<0) (hs:s.1<0∨cmpE y s.2<0):(fpick (headE r) i s).1<0∨cmpE y (fpick (headE r) i s).2<0:=by
 unfold fpick
 split
 ·right
  cases r with
  | nil=>rename_i h; exact absurd h.1 (by decide)
  | cons z t=>exact hr z t rfl
 ·exact hs
theorem pick_stay:∀ (rs:List (List Ent)) (i:Nat) (s:Int×Ent),(∀ r∈rs,∀ h t,r=h::t→¬(s.1<0∨cmpE h s.2<0))→pickR rs i s=s
 | [],_,_,_=>rfl
 | r::rs,i,s,h=>by
  have e:fpick (headE r) i s=s:=by
   unfold fpick
   split
   ·rename_i hc
    cases r with
    | nil=>exact absurd hc.1 (by decide)
    | cons z t=>exact absurd hc.2 (h (z::t) (by simp) z t rfl)
   ·rfl
  show pickR rs (i+1) (fpick (headE r) i s)=s
  rw[e]
  exact pick_stay rs (i+1) s fun r hr=>h r (by simp[hr])
theorem pick_is {y:Ent} {t:List Ent} {q:List (List Ent)} (hq:∀ r∈q,∀ h t,r=h::t→¬cmpE h y<0):∀ (p:List (List Ent)) (i:Nat) (s:Int×Ent),(∀ r∈p,∀ h t,r=h::t→cmpE y h<0)→(s.1<0∨cmpE y s.2<0) →
  pickR (p++(y::t)::q) i s=(((i+p.length:Nat):Int),y)
 | [],i,s,_,hs=>by
  show pickR q (i+1) (fpick (headE (y::t)) i s)=_
  have e:fpick (headE (y::t)) i s=((i:Int),y):=if_pos ⟨rfl,hs⟩
  rw[e]
  exact pick_stay q (i+1) _ fun r hr h t e2=>by
   rintro (g | g)
   ·simp only at g; omega
   ·exact hq r hr h t e2 g
 | r::p,i,s,hp,hs=>by
  show pickR (p++(y::t)::q) (i+1) (fpick (headE r) i s)=_
  rw[pick_is hq p (i+1) _ (fun r hr=>hp r (by simp[hr])) (fpick_neg (hp r (by simp)) hs),List.length_cons,show i+1+p.length=i+(p.length+1) by omega]
theorem range_split {n j:Nat} (h:j<n):List.range n=List.range j++j::(List.range' (j+1) (n - j - 1)):=by
 rw[List.range_eq_range',List.range_eq_range',show n=j+(1+(n - j - 1)) by omega,←List.range'_append_1,Nat.zero_add,Nat.add_comm 1 _,List.range'_succ]
 rw[show j+(n - j - 1+1) - j - 1=n - j - 1 by omega]
theorem Shuf.empty {n:Nat} {rs:List (List Ent)} (h:Shuf [] n rs):pickR rs 0 (-1,noE)=(-1,noE):=by
 have:∀ (l:List Nat) (i:Nat) (s:Int×Ent),pickR (l.map (ofL [])) i s=s:=by
  intro l
  induction l with
  | nil=>intro i s; rfl
  | cons a l ih=>
   intro i s
   show pickR (l.map (ofL [])) (i+1) (fpick (headE []) i s)=s
   rw[show fpick (headE []) i s=s from if_neg (fun h=>absurd h.1 (by decide))]
   exact ih _ _
 rw[h.rs]
 exact this _ _ _
theorem Shuf.pick {j n:Nat} {y:Ent} {AL:List (Nat×Ent)} {rs:List (List Ent)} (h:Shuf ((j,y)::AL) n rs):pickR rs 0 (-1,noE)=((j:Int),y)∧rs[j]? = some (y::ofL AL j):=by
 have hj:j<n:=h.lt (j,y) (by simp)
 have hb:∀ i z t,ofL ((j,y)::AL) i=z::t→i≠j→lbE (j,y) (i,z):=fun i z t e hi=>by
  rw[ofL_cons,if_neg (fun e=>hi e.symm)] at e
  exact List.rel_of_pairwise_cons h.up (ofL_mem (by rw[e]; simp))
 have e:rs=(List.range j).map (ofL ((j,y)::AL))++(y::ofL AL j)::(List.range' (j+1) (n - j - 1)).map (ofL ((j,y)::AL)):=by
  rw[h.rs,range_split hj,List.map_append,List.map_cons,ofL_cons (j,y) AL j,if_pos rfl]
 constructor
 ·rw[e,pick_is ?_ _ 0 _ ?_ (.inl (by decide))]
  ·simp
  ·intro r hr z t ez
   obtain ⟨i,hi,rfl⟩:=List.mem_map.1 hr
   have hi:=(List.mem_range'_1.1 hi).1
   rw[cmp_neg]
   intro hzy
   rcases hb i z t ez (by omega) with g | ⟨g,_⟩
   ·exact ltE_irr (ltE_trans hzy g)
   ·simp only at g
    have:=(cmp_zero y z).2 g
    rcases hzy with q | q
    ·rw[g.1] at q; exact bl_irr q
    ·omega
  ·intro r hr z t ez
   obtain ⟨i,hi,rfl⟩:=List.mem_map.1 hr
   have hi:=List.mem_range.1 hi
   rw[cmp_neg]
   rcases hb i z t ez (by omega) with g | ⟨_,g⟩
   ·exact g
   ·simp only at g; omega
 ·rw[h.rs,List.getElem?_map,List.getElem?_range hj]
  show some (ofL ((j,y)::AL) j)=_
  rw[ofL_cons,if_pos rfl]
theorem Shuf.tail {j n:Nat} {y:Ent} {AL:List (Nat×Ent)} {rs:List (List Ent)} (h:Shuf ((j,y)::AL) n rs):Shuf AL n (rs.set j (ofL AL j)) where
 up:=h.up.of_cons
 lt:=fun a ha=>h.lt a (by simp[ha])
 rs:=by
  have hj:j<n:=h.lt (j,y) (by simp)
  have:∀ l:List Nat,j ∉ l→l.map (ofL ((j,y)::AL))=l.map (ofL AL):=fun l hl=>List.map_congr_left fun i hi=>by
   rw[ofL_cons,if_neg]
   rintro rfl
   exact hl hi
  rw[h.rs,range_split hj,List.map_append,List.map_cons,List.map_append,List.map_cons,this _ (by simp),this _ (by simp[List.mem_range'_1]; omega)]
  have e:j=((List.range j).map (ofL AL)).length:=by simp
  conv=>lhs; arg 2; rw[e]
  exact set_mid _ _ _ _
end Go.Ax

namespace Go.Ax
open Go.Proofs Go.RowKit
set_option maxRecDepth 100000

structure TopN {σ:Type} (TB:σ→List Box) (good:σ→Prop) (rest:σ→List Ent) (nx:σ→σ):Prop where
 next:∀ s,good s→∀ T,ΔC6 iNextC [.ptr 0 0 0] (TB s++T) (.tup [entE.av (headE (rest s)).1,vb (headE (rest s)).2.1,vi 0]) (TB (nx s)++T)
 nextR:∀ s,good s→good (nx s)∧rest (nx s)=(rest s).drop 1
def FamS.of (xs:List LeafD) (AL:List (Nat×Ent)):FamS:=⟨xs.getD 0 zD,xs.getD 1 zD,xs.getD 2 zD,xs.getD 3 zD,xs.getD 4 zD,AL⟩
theorem FamS.of_xs {xs:List LeafD} {n:Nat} (AL:List (Nat×Ent)) (h:xs.length=n) (h5:n≤5):(FamS.of xs AL).xs n=xs:=(l5_of zD h h5).symm
theorem FamS.xs_len (s:FamS) {n:Nat} (h5:n≤5):(s.xs n).length=n:=by
 show (List.take n [s.x0,s.x1,s.x2,s.x3,s.x4]).length=n
 rw[List.length_take]; simp only[List.length_cons,List.length_nil]; omega
structure GoodF (D:Dsk) (ks:List Bool) (s:FamS):Prop where
 gl:AllGood D ks (s.xs ks.length)
 sh:Shuf s.AL ks.length (restsF D ks (s.xs ks.length))
abbrev restA (s:FamS):List Ent:=s.AL.map (·.2)
def nextA (D:Dsk) (ks:List Bool) (s:FamS):FamS:= .of (nextM D ks (s.xs ks.length)).1 (s.AL.drop 1)
theorem fam_topN {D:Dsk} {ks:List Bool} (hs:ks∈shapesM):TopN (famT ks D) (GoodF D ks) restA (nextA D ks) where
 next:=fun s g T=>by
  have h5:=shape_len ks hs
  have hl:=s.xs_len h5
  have h2:=nextM_len (D:=D) hl
  have e:(nextM D ks (s.xs ks.length)).2=headE (restA s):=by
   rcases nextM_of hl g.gl with ⟨e,hn⟩ | ⟨j,y,t,k,x,e,hj,hjl,q2⟩
   ·rw[hn]
    cases hA:s.AL with
    | nil=>show _=headE (List.map _ s.AL); rw[hA]; rfl
    | cons a AL=>
     obtain ⟨i,z⟩:=a
     have hp:=g.sh
     rw[hA] at hp
     rw[hp.pick.1] at e
     simp only at e
     omega
   ·rw[q2.2.2.2.2.2]
    cases hA:s.AL with
    | nil=>
     have hp:=g.sh
     rw[hA] at hp
     rw[hp.empty] at e
     have:=congrArg Prod.fst e
     simp only at this
     omega
    | cons a AL=>
     obtain ⟨i,z⟩:=a
     have hp:=g.sh
     rw[hA] at hp
     rw[hp.pick.1] at e
     have:=congrArg Prod.snd e
     simp only at this
     show _=headE (List.map _ s.AL)
     rw[hA,←this]; rfl
  have hr:liftR ONextM [.ptr 0 0 0] (famT ks D s++T) _ (famC ks (nextM D ks (s.xs ks.length)).1 D++T):=fam_lift (R:=ONextM) ⟨D,ks,s.xs ks.length,hs,hl,g.gl,rfl,rfl,rfl,rfl⟩ hl h2 (low0 ks) rfl T
  have hT:famT ks D (nextA D ks s)=famC ks (nextM D ks (s.xs ks.length)).1 D:=by
   show famC ks ((FamS.of _ _).xs ks.length) D=_
   rw[FamS.of_xs _ h2 h5]
  rw[hT,←e]
  refine .inr ?_
  have e2:(nextM D ks (s.xs ks.length)).2.2.2=0:=by rw[e]; exact headE_err _
  rw[e2] at hr
  exact hr
 nextR:=fun s g=>by
  have h5:=shape_len ks hs
  have hl:=s.xs_len h5
  have h2:=nextM_len (D:=D) hl
  have hx:(nextA D ks s).xs ks.length=(nextM D ks (s.xs ks.length)).1:=FamS.of_xs _ h2 h5
  refine ⟨?_,by show List.map _ (s.AL.drop 1)=List.drop 1 (List.map _ s.AL); rw[List.map_drop]⟩
  obtain ⟨p1,p2,p3⟩:=firstF_pick ks (s.xs ks.length) 0 (-1,noE) hl g.gl
  have l1:=firstF_len (D:=D) ks (s.xs ks.length) 0 (-1,noE) hl
  obtain ⟨s1,s2,s3⟩:=firstF_pick ks (firstF D ks (s.xs ks.length) 0 (-1,noE)).1 0 (-1,noE) l1 p3
  rcases nextM_of hl g.gl with ⟨e,hn⟩ | ⟨j,y,t,k,x,e,hj,hjl,q2⟩
  ·cases hA:s.AL with
   | nil=>
    refine ⟨by rw[hx,hn]; exact p3,?_⟩
    rw[hx,hn]
    have hp:=g.sh
    show Shuf (s.AL.drop 1) _ _
    rw[hA] at hp ⊢
    simp only
    rw[p2]
    exact hp
   | cons a AL=>
    obtain ⟨i,z⟩:=a
    have hp:=g.sh
    rw[hA] at hp
    rw[hp.pick.1] at e
    simp only at e
    omega
  ·obtain ⟨hk,hxx,gx,hr,h2',hn⟩:=q2
   obtain ⟨n1,n2,n3⟩:=(next_good gx).2 y t hr
   cases hA:s.AL with
   | nil=>
    have hp:=g.sh
    rw[hA] at hp
    rw[hp.empty] at e
    have:=congrArg Prod.fst e
    simp only at this
    omega
   | cons a AL=>
    obtain ⟨i,z⟩:=a
    have hp:=g.sh
    rw[hA] at hp
    have e1:=hp.pick.1.symm.trans e
    have ei:i=j:=by have:=congrArg Prod.fst e1; simp only at this; omega
    have ez:z=y:=by have:=congrArg Prod.snd e1; simpa using this
    subst ei
    subst ez
    refine ⟨?_,?_⟩
    ·rw[hx,hn]
     exact good_set s3 fun k' hk'=>by rw[hk] at hk'; cases hk'; exact n3
    ·rw[hx,hn]
     show Shuf (s.AL.drop 1) _ _
     rw[hA]
     simp only[List.drop_one,List.tail_cons]
     rw[restsF_set ks _ i k x _ hk hxx,s2,p2,n2]
     have ht:t=ofL AL i:=by
      have:=hp.pick.2.symm.trans hj
      exact (List.cons.inj (Option.some.inj this)).2.symm
     rw[ht]
     exact hp.tail
end Go.Ax

namespace Go.Ax
open Go.Proofs Go.RowKit
set_option maxRecDepth 100000

theorem remI {a b:Int} {B:List Box} {t:TypeId} (hb:b≠0):(binA DP .rem t (vi a) (vi b)).map (fun v=>(v,B))=some (vi (Int.tmod a b),B):=by
 show (((if b=0 then none else some _:Option Value)).map _).map _=_
 rw[if_neg hb]
 rfl
theorem and3 (t:Int):IntKind.i64.wrap ((BitVec.ofInt IntKind.i64.bits t &&& BitVec.ofInt IntKind.i64.bits 3).toNat)=t % 4:=by
 have h:(BitVec.ofInt IntKind.i64.bits t &&& BitVec.ofInt IntKind.i64.bits 3).toNat=(t % 4).toNat:=by
  show (BitVec.ofInt 64 t &&& BitVec.ofInt 64 3).toNat=_
  rw[BitVec.toNat_and,BitVec.toNat_ofInt,show (BitVec.ofInt 64 3).toNat=2 ^ 2 - 1 by decide,Nat.and_two_pow_sub_one_eq_mod]
  omega
 rw[h,IntKind.wrap_i64]
 omega
def labP (parts n:Int) (k:Nat):Int:=Int.tmod (((k:Int)*7+Int.fdiv parts (2 ^ 3)) % 4) n
def labF (parts n:Int):Nat→List Ent→List (Nat×Ent)
 | _,[]=> []
 | k,x::M=>((labP parts n k).toNat,x)::labF parts n (k+1) M
abbrev ownP (A:List Ent) (parts n:Int) (i:Nat):List Ent:=ofL (labF parts n 0 A) i
theorem labP_b {parts n:Int} (hn:1≤n) (k:Nat):0≤labP parts n k∧labP parts n k<n:=by
 unfold labP
 rw[Int.tmod_eq_emod_of_nonneg (by omega)]
 exact ⟨Int.emod_nonneg _ (by omega),Int.emod_lt_of_pos _ (by omega)⟩
theorem fdiv_b {parts:Int} (hp: -(2 ^ 63:Int)≤parts∧parts<2 ^ 63): -(2 ^ 60:Int)≤Int.fdiv parts (2 ^ 3)∧Int.fdiv parts (2 ^ 3)<2 ^ 60:=by
 rw[Int.fdiv_eq_ediv_of_nonneg _ (by decide)]
 omega
def lvP (A:List Ent) (parts n:Int) (i:Nat):List Box:=lvB i (ownP A parts n 0) (ownP A parts n 1) (ownP A parts n 2) (ownP A parts n 3)
theorem lvP_len {A:List Ent} {parts n:Int} {i:Nat} (h:i≤4):(lvP A parts n i).length=i:=by
 show (List.take i [_,_,_,_]).length=i
 rw[List.length_take]; simp only[List.length_cons,List.length_nil]; omega
theorem lvP_step {A:List Ent} {parts n:Int}:∀ {i:Nat},i<4→lvP A parts n i++ [curB 1 nilQ ⟨ownP A parts n i,0,0⟩]=lvP A parts n (i+1)
 | 0,_=>rfl
 | 1,_=>rfl
 | 2,_=>rfl
 | 3,_=>rfl
 | _+4,h=>absurd h (by omega)
section
variable {A : List Ent} {parts : Int} {n i : Nat} {lv : List Box}
theorem own_rounds (hp: -(2 ^ 63:Int)≤parts∧parts<2 ^ 63) (hA:A.length≤1000000) (hn:1≤n):∀ (M:List Ent) (j:Nat) (out:List Ent),A.drop j=M→j+M.length=A.length→out.length≤j →
  Rounds (TPb_l1_e A lv parts n i) (TPb_l1_x A lv parts n i) noX (fun s=>(TPb_l1_b A lv parts n i s).wp) (out,(j:Int)) (.inl (out++ofL (labF parts n j M) i)):=by
 intro M
 have hf:=fdiv_b hp
 induction M with
 | nil=>
  intro j out hM hl ho
  simp only[List.length_nil] at hl
  refine .done (by intro e; cases e) ?_
  unfold TPb_l1_b
  refine wp_sp (fun h'=>absurd (of_decide_eq_true h') (by simp only; omega)) (fun _=>?_)
  rw[show ofL (labF parts n j []) i= [] from rfl,List.append_nil]
  exact wp_leaf (wdT_olds 0) ⟨rfl,rfl⟩
 | cons x M ih=>
  intro j out hM hl ho
  simp only[List.length_cons] at hl
  have gx:A[j]? = some x:=by rw[←List.head?_drop,hM]; rfl
  have hM':A.drop (j+1)=M:=by rw[←List.drop_drop,hM]; rfl
  have hb:=labP_b (parts:=parts) (n:=(n:Int)) (by omega) j
  have step:∀ {K:AE→St→Prop} {t:Tree},True:=fun {_ _}=>trivial
  by_cases hj:labP parts n j=(i:Int)
  ·have hr:=ih (j+1) (out++ [x]) hM' (by omega) (by simp; omega)
   rw[show ((j+1:Nat):Int)=(j:Int)+1 by omega] at hr
   have e:out++ [x]++ofL (labF parts n (j+1) M) i=out++ofL (labF parts n j (x::M)) i:=by
    show _=out++ofL (((labP parts n j).toNat,x)::labF parts n (j+1) M) i
    rw[ofL_cons,if_pos (by simp only; omega)]; simp
   rw[e] at hr
   refine .next ?_ hr
   unfold TPb_l1_b
   refine wp_sp (fun _=>wp_elem0 x (by simp only; omega) (by simpa using gx) (wp_i64 (by simp only; omega) (wp_i64 (by simp only; omega) (wp_int (and3 _) (wp_val (remI (by omega)) (wp_sp (fun _=>?_) (fun q=>?_))))))) (fun h'=>absurd (of_decide_eq_false h') (by simp only; omega))
   ·exact wp_app (show ASrc.ok entE [x] (.row 1 _) from ⟨rfl,rfl⟩) rfl (by simp; omega) (wp_i64 (by simp only; omega) (wp_leaf (wdT_olds 1) ⟨rfl,rfl⟩))
   ·exact absurd hj (by simpa [labP] using q)
  ·have hr:=ih (j+1) out hM' (by omega) (by omega)
   rw[show ((j+1:Nat):Int)=(j:Int)+1 by omega] at hr
   have e:out++ofL (labF parts n (j+1) M) i=out++ofL (labF parts n j (x::M)) i:=by
    show _=out++ofL (((labP parts n j).toNat,x)::labF parts n (j+1) M) i
    rw[ofL_cons,if_neg (by simp only; omega)]
   rw[e] at hr
   refine .next ?_ hr
   unfold TPb_l1_b
   refine wp_sp (fun _=>wp_elem0 x (by simp only; omega) (by simpa using gx) (wp_i64 (by simp only; omega) (wp_i64 (by simp only; omega) (wp_int (and3 _) (wp_val (remI (by omega)) (wp_sp (fun q=>?_) (fun _=>?_))))))) (fun h'=>absurd (of_decide_eq_false h') (by simp only; omega))
   ·exact absurd (by simpa [labP] using q) hj
   ·exact wp_i64 (by simp only; omega) (wp_leaf (wdT_olds 0) ⟨rfl,rfl⟩)
theorem ΔPb_ok:∀ f,SoundR DP f (ΔPb f):=envR_cons ((lift_sound SListC).or (lift_sound SListC).shutRow) envR_nil
theorem cPl_eq:cPl= .loop cPb:=by kernel_rfl
theorem cNl_eq:cNl= .loop cNb:=by kernel_rfl
theorem labF_len (parts n:Int):∀ (k:Nat) (M:List Ent),(labF parts n k M).length=M.length
 | _,[]=>rfl
 | k,x::M=>by
  show (_::labF parts n (k+1) M).length=_
  rw[List.length_cons,labF_len parts n (k+1) M]; rfl
theorem ofL_len (AL:List (Nat×Ent)) (j:Nat):(ofL AL j).length≤AL.length:=by
 unfold ofL
 rw[List.length_map]
 exact List.length_filter_le _ _
theorem pb_of (A:List Ent) (parts n:Int) {i:Nat} (h:i≤4):codeC DP Γ0 ΔPb 103 0 cPb (St.as (pSl A parts n i,csX i::lvP A parts n i)) (TPb A (lvP A parts n i) parts n i) (leafC 0)=TPb A (lvP A parts n i) parts n i:=
 allP_mem allPb i (by
  match i,h with
  | 0,_=>simp
  | 1,_=>simp
  | 2,_=>simp
  | 3,_=>simp
  | 4,_=>simp) A parts n _ _ _ _
theorem outer_rounds (hp: -(2 ^ 63:Int)≤parts∧parts<2 ^ 63) (hA:A.length≤1000000) (hn:1≤n) (hn4:n≤4):∀ (d i:Nat),i+d=n →
  Tri DP 103 0 true cPb (St.as (pSl A parts n i,csX i::lvP A parts n i)) fun e' s'=>e'= .exit 0∧s'=St.as ([(5,vl (A.map entE.f)),(6, .rs 0 0 1 0 n)],csX n::lvP A parts n n):=by
 intro d
 induction d with
 | zero=>
  intro i hi
  obtain rfl:i=n:=by omega
  refine Tri.round ((codeC_tri mixedD Γ0_ok ΔPb_ok cPb (K:=fun e' c=>e'= .exit 0∧c=([(5,vl (A.map entE.f)),(6, .rs 0 0 1 0 i)],csX i::lvP A parts i i)) (by
   rw[pb_of A parts i hn4]
   unfold TPb
   exact wp_sp (fun q=>absurd (of_decide_eq_true q) (by omega)) (fun _=>wp_leaf wdT_olds0 ⟨rfl,rfl⟩))).conseq fun e' s' hk=>?_)
  obtain ⟨c,rfl,rfl,rfl⟩:=hk
  exact ⟨rfl,rfl⟩
 | succ d ih=>
  intro i hi
  have hr:=ih (i+1) (by omega)
  refine Tri.round ((codeC_tri mixedD Γ0_ok ΔPb_ok cPb (K:=fun e' c=>e'= .normal∧c=(pSl A parts n (i+1),csX (i+1)::lvP A parts n (i+1))) (by
   rw[pb_of A parts n (by omega)]
   unfold TPb
   refine wp_sp (fun _=>wp_len (wp_loop _ wdT_one (own_rounds hp hA hn A 0 [] List.drop_zero (Nat.zero_add _) (Nat.le_refl _)) ?_)) (fun q=>absurd (of_decide_eq_false q) (by omega))
   rw[List.nil_append]
   have hlen:=lvP_len (A:=A) (parts:=parts) (n:=n) (i:=i) (by omega)
   refine wp_callr (.inr ⟨0,i+1,0,Ent,entE,ownP A parts n i,?_,rfl,?_⟩) ?_
   ·rw[List.getElem?_append_right (by simp[hlen])]
    simp[hlen]
   ·have:=oListC (B:=((csX i::lvP A parts n i)++ [entE.bx 0 (ownP A parts n i)]).set (i+1) .dead) (L:=ownP A parts n i) (by have:=ofL_len (labF parts n 0 A) i; rw[labF_len] at this; exact Nat.le_trans this (by omega))
    have e1:((csX i::lvP A parts n i)++ [entE.bx 0 (ownP A parts n i)]).set (i+1) .dead=(csX i::lvP A parts n i)++ [.dead]:=by
     rw[List.set_append_right _ _ (by simp[hlen])]
     simp[hlen]
    rw[e1] at this ⊢
    rw[show ((csX i::lvP A parts n i)++ [Box.dead]).length=i+2 by simp[hlen]] at this
    rw[List.append_assoc] at this
    exact this
   ·refine wp_leaf ?_ ⟨rfl,?_⟩
    ·unfold oldsOk; simp
    ·show (pSl A parts n (i+1),csX (i+1)::(lvP A parts n i++ [curB 1 nilQ ⟨ownP A parts n i,0,0⟩]))=_
     rw[lvP_step (by omega)])).conseq fun e' s' hk=>?_)
  obtain ⟨c,rfl,rfl,rfl⟩:=hk
  exact hr
end
section
variable {σ : Type} {TB : σ → List Box} {m : Nat} {good : σ → Prop} {rest : σ → List Ent} {nx : σ → σ} {A : List Ent}
theorem next_rounds (hsk:SoundR DP iSeek OSeekM) (h:TopN TB good rest nx) (hc:RNb TB m) (hA:A.length≤1000000):∀ (M:List Ent) (k:Nat) (s:σ),good s→rest s=M→A.drop k=M→k+M.length=A.length →
  Tri DP 103 0 true cNb (St.as ([(12, .ptr 0 0 0),(67,vl (A.map entE.f)),(68,vi (A.length:Int)),(69,vi (k:Int))],TB s)) fun e' s'=>e'= .exit 4∧s'=St.as ([(12, .ptr 0 0 0)],TB (itN nx M.length s)):=by
 intro M
 induction M with
 | nil=>
  intro k s g hr hM hl
  simp only[List.length_nil] at hl
  refine Tri.round ((codeC_tri mixedD Γ0_ok (ΔC6_ok hsk) cNb (K:=fun e' c=>e'= .exit 4∧c=([(12, .ptr 0 0 0)],TB s)) (by
   rw[hc A s (k:Int) nx (fun s=>(headE (rest s)).1) (fun s=>(headE (rest s)).2.1)]
   unfold TNb
   exact wp_sp (fun q=>absurd (of_decide_eq_true q) (by omega)) (fun _=>wp_leaf wdT_olds0 ⟨rfl,rfl⟩))).conseq fun e' s' hk=>?_)
  obtain ⟨c,rfl,rfl,rfl⟩:=hk
  exact ⟨rfl,rfl⟩
 | cons x M ih=>
  intro k s g hr hM hl
  simp only[List.length_cons] at hl
  have gx:A[k]? = some x:=by rw[←List.head?_drop,hM]; rfl
  obtain ⟨g2,r2⟩:=h.nextR s g
  rw[hr] at r2
  have hrec:=ih (k+1) (nx s) g2 r2 (by rw[←List.drop_drop,hM]; rfl) (by omega)
  refine Tri.round ((codeC_tri mixedD Γ0_ok (ΔC6_ok hsk) cNb (K:=fun e' c=>e'= .normal∧c=([(12, .ptr 0 0 0),(67,vl (A.map entE.f)),(68,vi (A.length:Int)),(69,vi (((k+1:Nat)):Int))],TB (nx s))) (by
   rw[hc A s (k:Int) nx (fun s=>(headE (rest s)).1) (fun s=>(headE (rest s)).2.1)]
   unfold TNb
   have hn:=h.next s g [ebx x]
   have hx:(headE (rest s)).1=x∧(headE (rest s)).2.1=true:=by rw[hr]; exact ⟨rfl,rfl⟩
   refine wp_sp (fun _=>wp_elem0 x (by omega) (by simpa using gx) (wp_callr hn ?_)) (fun q=>absurd (of_decide_eq_false q) (by omega))
   simp only[hx.1,hx.2]
   refine wp_sp (fun _=>wp_sp (fun q=>?_) (fun _=>wp_i64 (by omega) (wp_leaf wdT_olds0 ⟨rfl,?_⟩))) (fun q=>by cases q)
   ·simp at q
   ·rw[show ((k+1:Nat):Int)=(k:Int)+1 by omega])).conseq fun e' s' hk=>?_)
  obtain ⟨c,rfl,rfl,rfl⟩:=hk
  exact hrec
end
end Go.Ax

namespace Go.Ax
open Go.Proofs Go.RowKit
set_option maxRecDepth 100000

theorem labF_mem {parts n:Int}:∀ {k:Nat} {M:List Ent} {a:Nat×Ent},a∈labF parts n k M→a.2∈M∧∃ j,a.1=(labP parts n j).toNat
 | _,[],a,h=>by cases h
 | k,x::M,a,h=>by
  rcases List.mem_cons.1 (show a∈((labP parts n k).toNat,x)::labF parts n (k+1) M from h) with rfl | h
  ·exact ⟨by simp,k,rfl⟩
  ·obtain ⟨h1,h2⟩:=labF_mem h
   exact ⟨by simp[h1],h2⟩
theorem labF_up (parts n:Int):∀ (k:Nat) (M:List Ent),M.Pairwise ltE→(labF parts n k M).Pairwise lbE
 | _,[],_=> .nil
 | k,x::M,h=> .cons (fun a ha=> .inl (List.rel_of_pairwise_cons h (labF_mem ha).1)) (labF_up parts n (k+1) M h.of_cons)
theorem labF_map (parts n:Int):∀ (k:Nat) (M:List Ent),(labF parts n k M).map (·.2)=M
 | _,[]=>rfl
 | k,x::M=>by
  show x::(labF parts n (k+1) M).map (·.2)=_
  rw[labF_map parts n (k+1) M]
theorem good_ls (D:Dsk) (L:List Ent):GoodL D false (lsD L):=⟨rfl,⟨(by decide:(0:Int)≤0),(by decide:(0:Int)≤100000000)⟩,(by decide:(0:Int)≤100000000),(fun h=>by cases h),fun i h1 h2=>absurd (show i<0 from h2) (by omega)⟩
theorem rest_ls (D:Dsk) (L:List Ent):restC (pgsC D false (lsD L)) (lsD L).c=L:=by
 show L++((List.range' (0:Int).toNat ((0:Int) - 0).toNat).map _).flatten=L
 simp
theorem restsF_ls (D:Dsk):∀ Ls:List (List Ent),restsF D (List.replicate Ls.length false) (Ls.map lsD)=Ls
 | []=>rfl
 | L::Ls=>by
  show restC (pgsC D false (lsD L)) (lsD L).c::restsF D (List.replicate Ls.length false) (Ls.map lsD)=L::Ls
  rw[rest_ls,restsF_ls D Ls]
theorem sh_parts {n:Nat} (h1:1≤n) (h4:n≤4):List.replicate n false∈shapesM:=by
 match n,h1,h4 with
 | 1,_,_=>decide
 | 2,_,_=>decide
 | 3,_,_=>decide
 | 4,_,_=>decide
theorem pt_of {n:Nat} (h1:1≤n) (h4:n≤4):RPt n:=by
 match n,h1,h4 with
 | 1,_,_=>exact pt_1
 | 2,_,_=>exact pt_2
 | 3,_,_=>exact pt_3
 | 4,_,_=>exact pt_4
theorem nb_of (D:Dsk) {n:Nat} (h1:1≤n) (h4:n≤4):RNb (famT (List.replicate n false) D) (famL (List.replicate n false)):=by
 match n,h1,h4 with
 | 1,_,_=>exact nb_1 D
 | 2,_,_=>exact nb_2 D
 | 3,_,_=>exact nb_3 D
 | 4,_,_=>exact nb_4 D
section
variable (A : List Ent) (parts : Int) (n : Nat)
abbrev topP:FamS:=lsS (ownP A parts n 0) (ownP A parts n 1) (ownP A parts n 2) (ownP A parts n 3) (labF parts n 0 A)
theorem topP_xs (h4:n≤4):(topP A parts n).xs n=((List.range n).map (ownP A parts n)).map lsD:=by
 match n,h4 with
 | 0,_=>rfl
 | 1,_=>rfl
 | 2,_=>rfl
 | 3,_=>rfl
 | 4,_=>rfl
theorem topP_good (D:Dsk) (h1:1≤n) (h4:n≤4) (hA:A.Pairwise ltE):GoodF D (List.replicate n false) (topP A parts n):=by
 have hx:=topP_xs A parts n h4
 constructor
 ·intro i k x h1 h2
  rw[List.length_replicate,hx] at h2
  have hk:k=false:=List.eq_of_mem_replicate (List.mem_of_getElem? h1)
  subst hk
  obtain ⟨L,_,rfl⟩:=List.mem_map.1 (List.mem_of_getElem? h2)
  exact good_ls D L
 ·rw[List.length_replicate,hx]
  have:=restsF_ls D ((List.range n).map (ownP A parts n))
  rw[List.length_map,List.length_range] at this
  rw[this]
  refine ⟨labF_up parts n 0 A hA,fun a ha=>?_,rfl⟩
  obtain ⟨_,j,e⟩:=labF_mem ha
  have:=labP_b (parts:=parts) (n:=(n:Int)) (by omega) j
  rw[e]; omega
end
theorem many_parts (D:Dsk) (L0 L1 L2 L3:List Ent) {n:Nat} (h1:1≤n) (h4:n≤4):OManyC [.rs 0 0 1 0 n] (csX n::lvB n L0 L1 L2 L3) (.ptr (n+1) 0 0) ((csX n::lvB n L0 L1 L2 L3)++ [manyX (n+1) n,csX n]):=by
 match n,h1,h4 with
 | 1,_,_=>exact ⟨[false],[lsD L0],D,by decide,rfl,rfl,rfl,rfl,rfl⟩
 | 2,_,_=>exact ⟨[false,false],[lsD L0,lsD L1],D,by decide,rfl,rfl,rfl,rfl,rfl⟩
 | 3,_,_=>exact ⟨[false,false,false],[lsD L0,lsD L1,lsD L2],D,by decide,rfl,rfl,rfl,rfl,rfl⟩
 | 4,_,_=>exact ⟨[false,false,false,false],[lsD L0,lsD L1,lsD L2,lsD L3],D,by decide,rfl,rfl,rfl,rfl,rfl⟩
theorem ΓPt_ok:∀ f,SoundF DP f (ΓPt f):=envP_cons SHeadC (envP_cons SSomeL envP_nil)
theorem ΔPt_ok:∀ f,SoundR DP f (ΔPt f):=envR_cons (lift_sound SBigC).shutRow (envR_cons SManyC (envR_cons ((lift_sound SNextK).or (lift_sound SNextM)) envR_nil))
theorem ΔPt_next {a:List AV} {B B':List Box} {r:AV} (h:ΔC6 iNextC a B r B'):ΔPt iNextC a B r B':=h
theorem itN_good {σ:Type} {TB:σ→List Box} {good:σ→Prop} {rest:σ→List Ent} {nx:σ→σ} (h:TopN TB good rest nx):∀ (n:Nat) (s:σ),good s→good (itN nx n s)∧rest (itN nx n s)=(rest s).drop n
 | 0,s,g=>⟨g,rfl⟩
 | n+1,s,g=>by
  obtain ⟨g2,r2⟩:=h.nextR s g
  obtain ⟨a,b⟩:=itN_good h n (nx s) g2
  exact ⟨a,by show rest (itN nx n (nx s))=_; rw[b,r2,List.drop_drop,Nat.add_comm]⟩
def RParts:List AV→AV→Prop:=fun args r=>∃ (list:List Ent) (parts:Int),(∀ a∈list,seqIn a)∧(-(2 ^ 63:Int)≤parts∧parts<2 ^ 63)∧args= [vl (list.map entE.f),vi parts]∧r=vb true
noncomputable def gParts:=relG RParts
theorem SParts0 (D:Dsk):SoundF DP iParts (.pure gParts):=sound_pureT mixedD ΓPt_ok ΔPt_ok hfParts heParts hbParts (by
 rintro args r ⟨list,parts,hs,hp,rfl,rfl⟩
 obtain ⟨n,hn⟩:∃ n:Nat,1+parts % 4=(n:Int):=⟨(1+parts % 4).toNat,by omega⟩
 have h1:1≤n:=by omega
 have h4:n≤4:=by omega
 have hT:=fam_topN (D:=D) (sh_parts h1 h4)
 have hlen:(List.replicate n false).length=n:=List.length_replicate
 refine ⟨rfl,rfl,_,pt_of h1 h4 D list parts (someL 0 list) (ownP (someL 0 list) parts n 0) (ownP (someL 0 list) parts n 1) (ownP (someL 0 list) parts n 2) (ownP (someL 0 list) parts n 3) (labF parts n 0 (someL 0 list))
  (itN (nextA D (List.replicate n false)) (someL 0 list).length (topP (someL 0 list) parts n)) (nextA D (List.replicate n false)) (fun s=>(headE (restA s)).1) (fun s=>(headE (restA s)).2.1) true (bigLL [list]),?_⟩
 unfold TParts
 rw[hn]
 refine wp_call gHeadC_eq (wp_sp (fun _=>wp_callr ⟨0,0,0,List Ent,entsE,[list],rfl,rfl,oBigC (B:= [.dead]) [list]⟩ (wp_sp (fun _=>wp_leaf rfl (.p _)) (fun hb=>?_))) (fun q=>by cases q))
 have hbl:bigLs list=false:=by
  unfold bigLL at hb
  simpa using hb
 have hl:list.length≤25:=by
  unfold bigLs at hbl
  rw[Bool.or_eq_false_iff] at hbl
  have:=of_decide_eq_false hbl.1
  omega
 have hv:∀ x∈list,x.val.size≤1000000:=fun x hx=>by
  unfold bigLs at hbl
  rw[Bool.or_eq_false_iff] at hbl
  have:=List.any_eq_false.1 hbl.2 x hx
  unfold bigEn at this
  simp only[Bool.or_eq_true,decide_eq_true_eq,not_or] at this
  omega
 obtain ⟨sg,sl⟩:=someL_good 0 list fun x hx=>(hs x hx).1
 have g0:=topP_good (someL 0 list) parts n D h1 h4 sg.up
 have r0:restA (topP (someL 0 list) parts n)=someL 0 list:=labF_map parts n 0 _
 obtain ⟨gE,rE⟩:=itN_good hT (someL 0 list).length _ g0
 rw[r0,List.drop_length] at rE
 have ho:=outer_rounds (A:=someL 0 list) (n:=n) hp (by omega) h1 h4 n 0 (Nat.zero_add n)
 have hx:=next_rounds (A:=someL 0 list) (m:=famL (List.replicate n false)) SSeekM hT (nb_of D h1 h4) (by omega) (someL 0 list) 0 _ g0 r0 List.drop_zero (Nat.zero_add _)
 refine wp_call (gSomeL_eq (by decide) (by omega) hv) (wp_int (and3 _) (wp_int (wrap_i64 (by omega)) ?_))
 refine wp_frag rfl ?_ (wp_callr ?_ (wp_len (wp_frag ?_ ?_ ?_)))
 ·rw[cPl_eq]
  exact .loop ho
 ·exact many_parts D _ _ _ _ h1 h4
 ·unfold oldsOk; simp
 ·rw[cNl_eq]
  exact .loop hx
 ·have hn:=hT.next _ gE []
  rw[List.append_nil,List.append_nil] at hn
  refine wp_callr (ΔPt_next hn) (wp_sp (fun q=>?_) (fun _=>wp_leaf rfl (.p _)))
  simp only[rE] at q
  cases q)
theorem SParts:SoundF DP iParts (.pure gParts):=SParts0 (newD 0)
end Go.Ax
