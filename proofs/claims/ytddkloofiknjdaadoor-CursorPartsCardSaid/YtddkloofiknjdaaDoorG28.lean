/- All pairs of a page's bytes: the contract. -/
import Derived.Test.YtddkloofiknjdaaDoorG27
import Derived.WalkKit
import Derived.ProofKit
import Derived.OwnWalk
import Derived.Lib.Walk
import Derived.Lib.SliceRun
import Derived.Laws.AppendOwn
import Derived.Test.YtddkloofiknjdaaDoorG24
import Derived.Lib.Bytealg
set_option linter.unusedVariables false
set_option linter.unusedSimpArgs false
set_option linter.unusedSectionVars false
namespace Go.Ax
open Go.Proofs Go.RowKit
set_option maxRecDepth 100000

theorem getA_pos:∀ (b:List UInt8) (i a:Nat),(getA i a b).2.2=0→i+1≤(getA i a b).2.1
 | [],i,a,h=>by unfold getA at h; cases h
 | c::b,i,a,h=>by
  have ih:=getA_pos b (i+1) (a+c.toNat % 128*2 ^ (7*i))
  unfold getA at h ⊢
  split at h
  ·cases h
  ·rename_i h1
   rw[if_neg h1]
   split at h
   ·rename_i h2
    rw[if_pos h2]
    split at h
    ·cases h
    ·rename_i h3
     rw[if_neg h3]
     exact Nat.le_refl _
   ·rename_i h2
    rw[if_neg h2]
    have:=ih h
    omega
theorem getI_pos {b:List UInt8} (h:(getI b).2.2=0):1≤(getI b).2.1:=by
 have:=getA_pos b 0 0 (by unfold getI at h; simp only at h; omega)
 unfold getI
 simp only
 omega
theorem one_some {N:Nat} {r last:List UInt8} {p:Par} {r':List UInt8} (h:oneI N r last=some (p,r')):∃ m,1≤m∧m≤r.length∧r'=r.drop m∧p.nl.length≤last.length+m:=by
 have f0:=getI_b r
 have f1:=getI_b (r.drop (getI r).2.1.toNat)
 have f2:=getI_b ((r.drop (getI r).2.1.toNat).drop (getI (r.drop (getI r).2.1.toNat)).2.1.toNat)
 unfold oneI at h
 simp only at h
 split at h
 ·cases h
 ·rename_i c0
  split at h
  ·cases h
  ·split at h
   ·cases h
   ·split at h
    ·cases h
    ·rename_i c3
     have g0:=getI_pos (b:=r) (by omega)
     simp only[List.length_drop] at f1 f2 c3
     cases h
     refine ⟨(getI r).2.1.toNat+(getI (r.drop (getI r).2.1.toNat)).2.1.toNat+(getI ((r.drop (getI r).2.1.toNat).drop (getI (r.drop (getI r).2.1.toNat)).2.1.toNat)).2.1.toNat+((getI (r.drop (getI r).2.1.toNat)).1+(getI ((r.drop (getI r).2.1.toNat).drop (getI (r.drop (getI r).2.1.toNat)).2.1.toNat)).1).toNat,by omega,by omega,?_,?_⟩
     ·rw[List.drop_drop,List.drop_drop,List.drop_drop]
      congr 1
      omega
     ·simp only[Par.nl,List.toList_toArray,List.length_append,List.length_take,List.length_drop]
      omega
def readI (b:List UInt8):List Par×Int:=match readA b.length b.length b [] with
 | none=>([],2)
 | some L=>(L,0)
theorem gOne_eq {b:List UInt8} {w:List Int} {a:Int} {l:ByteArray} (hb:b.length≤1000000000) (hl:l.size≤1000000000) (ha:0≤a∧a≤b.length):gOne [.agg [vl (b.map byteE.f),vl (w.map intE.f)],vi a,vs l]=some (.tup [parE.av (oneP b a l.data.toList).1,vi (oneP b a l.data.toList).2.1,vi (oneP b a l.data.toList).2.2]):=relG_eq (by
 rintro args r r' ⟨b1,w1,a1,l1,_,_,_,h1,rfl⟩ ⟨b2,w2,a2,l2,_,_,_,h2,rfl⟩
 have h:=h1.symm.trans h2
 simp only[List.cons.injEq,AV.agg.injEq,and_true] at h
 obtain ⟨⟨e1,_⟩,e3,e4⟩:=h
 cases e3
 cases e4
 rw[vl_inj' e1]) ⟨b,w,a,l,hb,hl,ha,rfl,rfl⟩
theorem ΓF6_ok:∀ f,SoundF DP f (ΓF6 f):=envP_cons SOne envP_nil
def readX (out:List Par):Option (List Par)→Int ⊕ List Par
 | none=> .inl 2
 | some L=> .inr (out++L)
theorem read_rounds (b:List UInt8) (w:List Int) (hb:b.length≤1000000000):∀ (f:Nat) (r:List UInt8) (a:Nat) (out:List Par) (l:ByteArray),b.drop a=r→a+r.length=b.length→r.length≤f→out.length≤a→l.size≤a →
  Rounds (TReadP_l1_e b w) TReadP_l1_x TReadP_l1_x' (fun s=>(TReadP_l1_b b w s).wp) (out,(a:Int),l) (readX out (readA b.length f r l.data.toList)):=by
 have stop:∀ (f a:Nat) (out:List Par) (l:ByteArray),b.length≤a→Rounds (TReadP_l1_e b w) TReadP_l1_x TReadP_l1_x' (fun s=>(TReadP_l1_b b w s).wp) (out,(a:Int),l) (readX out (readA b.length f [] l.data.toList)):=by
  intro f a out l h
  have e:readA b.length f [] l.data.toList=some []:=by cases f <;> rfl
  rw[e]
  show Rounds _ _ _ _ _ (.inr (out++ []))
  rw[List.append_nil]
  refine .done' (by intro e; cases e) ?_
  unfold TReadP_l1_b TReadP_l1_b0
  exact wp_len (wp_sp (fun h'=>absurd (of_decide_eq_true h') (by simp only; omega)) (fun _=>wp_leaf rfl ⟨rfl,rfl⟩))
 intro f
 induction f with
 | zero=>
  intro r a out l hr hl hf ho hz
  have:r= []:=List.eq_nil_of_length_eq_zero (by omega)
  subst this
  exact stop 0 a out l (by simp only[List.length_nil] at hl; omega)
 | succ f ih=>
  intro r a out l hr hl hf ho hz
  cases r with
  | nil=>exact stop (f+1) a out l (by simp only[List.length_nil] at hl; omega)
  | cons c r=>
   simp only[List.length_cons] at hl hf
   have hP:oneP b (a:Int) l.data.toList=match oneI b.length (c::r) l.data.toList with
    | none=>(⟨⟨#[]⟩,⟨#[]⟩⟩,0,2)
    | some (q,r)=>(q,(b.length:Int) - r.length,0):=by
    unfold oneP
    rw[Int.toNat_natCast,hr]
    rfl
   have hcall:=gOne_eq (b:=b) (w:=w) (a:=(a:Int)) (l:=l) hb (by omega) (by omega)
   rw[readA]
   cases h1:oneI b.length (c::r) l.data.toList with
   | none=>
    rw[h1] at hP
    simp only at hP
    refine .done (by intro e; cases e) ?_
    unfold TReadP_l1_b TReadP_l1_b0
    dsimp only
    rw[hP] at hcall ⊢
    exact wp_len (wp_sp (fun _=>wp_sp (fun _=>wp_call hcall (wp_sp (fun _=>wp_leaf rfl ⟨rfl,rfl⟩) (fun h'=>by simp at h'))) (fun h'=>absurd h' (by rw[bne_eq_false_iff_eq]; omega))) (fun h'=>absurd (of_decide_eq_false h') (by omega)))
   | some z=>
    obtain ⟨p,r'⟩:=z
    rw[h1] at hP
    simp only at hP
    obtain ⟨m,m1,m2,m3,m4⟩:=one_some h1
    simp only[List.length_cons] at m2
    have hr':b.drop (a+m)=r':=by rw[←List.drop_drop,hr,m3]
    have hl':a+m+r'.length=b.length:=by rw[m3,List.length_drop,List.length_cons]; omega
    have hsz:p.nl.length=p.name.size:=rfl
    have hsl:l.data.toList.length=l.size:=rfl
    have hi:=ih r' (a+m) (out++ [p]) p.name hr' hl' (by omega) (by rw[List.length_append,List.length_singleton]; omega) (by omega)
    have e:readX (out++ [p]) (readA b.length f r' p.name.data.toList)=readX out ((readA b.length f r' p.nl).map (p :: ·)):=by
     show readX (out++ [p]) (readA b.length f r' p.nl)=_
     cases readA b.length f r' p.nl with
     | none=>rfl
     | some L=>show Sum.inr _=Sum.inr _; simp
    rw[e,show ((a+m:Nat):Int)=(b.length:Int) - r'.length by omega] at hi
    refine .next ?_ hi
    unfold TReadP_l1_b TReadP_l1_b0
    dsimp only
    rw[hP] at hcall ⊢
    refine wp_len (wp_sp (fun _=>wp_sp (fun _=>wp_call hcall (wp_sp (fun h'=>by simp at h') (fun _=>wp_any (wp_fork ?_ ?_)))) (fun h'=>absurd h' (by rw[bne_eq_false_iff_eq]; omega))) (fun h'=>absurd (of_decide_eq_false h') (by omega)))
    all_goals exact wp_app ⟨rfl,rfl⟩ rfl (by rw[List.length_append,List.length_singleton]; omega) (wp_leaf rfl ⟨rfl,rfl⟩)
def RReadP:List AV→AV→Prop:=fun args r=>∃ (b:List UInt8) (w:List Int),b.length≤1000000000∧args= [.agg [vl (b.map byteE.f),vl (w.map intE.f)],vi 0,vi (-1)]∧r= .tup [vl ((readI b).1.map parE.f),vi (readI b).2]
noncomputable def gReadP:=relG RReadP
theorem seal_row2 {α:Type} {E:Enc α} {L:List α} {e:Int}:Sealed (fun _=>True) [E.bx 0 L] (.tup [.rs 0 0 E.sz 0 L.length,vi e]) (.tup [vl (L.map E.f),vi e]):= .tup _ _ rfl (fun j c d h1 h2=>by
 match j,h1,h2 with
 | 0,h1,h2=>cases h1; cases h2; exact E.elt.sealed trivial rfl
 | 1,h1,h2=>cases h1; cases h2; exact .p _
 | j+2,h1,h2=>cases h1)
theorem seal_nilE {α:Type} {E:Enc α} {B:List Box} {e:Int}:Sealed (fun _=>True) B (.tup [nilS,vi e]) (.tup [vl (([]:List α).map E.f),vi e]):= .tup _ _ rfl (fun j c d h1 h2=>by
 match j,h1,h2 with
 | 0,h1,h2=>cases h1; cases h2; exact .nil
 | 1,h1,h2=>cases h1; cases h2; exact .p _
 | j+2,h1,h2=>cases h1)
theorem SReadP:SoundF DP iReadP (.pure gReadP):=sound_pureT mixedD ΓF6_ok Δ0_ok hfReadP heReadP hbReadP (by
 rintro args r ⟨b,w,hb,rfl,rfl⟩
 refine ⟨rfl,rfl,_,TReadP_chk b w,?_⟩
 have hr:=read_rounds b w hb b.length b 0 [] ⟨#[]⟩ List.drop_zero (Nat.zero_add _) (Nat.le_refl _) (Nat.le_refl _) (Nat.le_refl _)
 have e:(⟨#[]⟩:ByteArray).data.toList= []:=rfl
 rw[e] at hr
 unfold TReadP readI
 refine wp_nilrow ?_
 cases hA:readA b.length b.length b [] with
 | none=>
  rw[hA] at hr
  exact wp_loop 2 rfl hr (wp_leaf rfl seal_nilE)
 | some L=>
  rw[hA] at hr
  have hr:Rounds (TReadP_l1_e b w) TReadP_l1_x TReadP_l1_x' (fun s=>(TReadP_l1_b b w s).wp) ([],((0:Nat):Int),⟨#[]⟩) (.inr L):=hr
  exact wp_loop' L rfl hr (wp_leaf rfl seal_row2))
theorem gReadP_eq {b:List UInt8} {w:List Int} (hb:b.length≤1000000000):gReadP [.agg [vl (b.map byteE.f),vl (w.map intE.f)],vi 0,vi (-1)]=some (.tup [vl ((readI b).1.map parE.f),vi (readI b).2]):=relG_eq (by
 rintro args r r' ⟨b1,w1,_,h1,rfl⟩ ⟨b2,w2,_,h2,rfl⟩
 have h:=h1.symm.trans h2
 simp only[List.cons.injEq,AV.agg.injEq,and_true] at h
 rw[vl_inj' h.1]) ⟨b,w,hb,rfl,rfl⟩
end Go.Ax

namespace Go.Ax
open Go.Proofs Go.RowKit Go.Lib
set_option maxRecDepth 100000

set_option maxHeartbeats 2000000 in
theorem clone_empty (ad:Addr) (c:Nat) (w:World):Calls DP 71 #[.slice (some ad) 0 c] w fun e w'=>∃ v',e= .returned v'∧w'.ownsRow w.heap.size 5 1 v' 0 []∧Below w.heap.size w w':=by
 obtain ⟨i0,hi,hz0,hz1,hz2⟩:=info_parts (P:=DP) (e:=5) (z:= .int .u8 0) (size:=1) (bytes:=1) (by kernel_rfl)
 have mixed:DP.follows .mixedOrders=true:=mixedD
 have t34:DP.underlying 75=some (.slice 5):=by kernel_rfl
 have q34:∀ (w:World) (a:Option Addr) (n c n' c':Nat),(binOp .eql 75 (.slice a n c) (.slice none n' c')).run DP w= .ok (.bool a.isNone) w:=fun w a n c n' c'=>Lib.run_eql_slice_nil w _ _ a n c n' c' t34
 have u34:∀ w,Sem.run DP (underlying 75) w= .ok (TypeDesc.slice 5) w:=run_underlying t34
 go_enter Tryd.func71,Tryd.ntmps71
 go_wp2_with (at_builtin; refine wpList_append_own _ rfl _ _ 75 rfl w.heap.size 5 i0 (.int .u8 0) 1 1 t34 hi hz0 hz1 hz2 rfl (by decide) _ _ _ rfl (World.ownsRow_made w #[] 0 (Nat.le_refl _) (Nat.zero_le _) rfl) ad 0 c [] rfl rfl ?qc2 ?qc3 ?qc4 ?qc5 ?qc6 ?_)
 case qc2=>intro j u hj; simp at hj
 case qc3=>intro u hu; simp at hu
 case qc4=>unfold maxLen; omega
 case qc5=>omega
 case qc6=>simp
 intro v' w1 hown hgrow hnil
 go_wp2
 go_ret
 exact ⟨v',rfl,by simpa using hown,((Below.refl _ w).alloc (Nat.le_refl _) _).grown hgrow (by simp) (by intro k hk; simp[Value.ownBlock] at hk; omega)⟩

abbrev iClone:Nat:=71
noncomputable abbrev nClone:Func:=Tryd.f71
theorem hfClone:DP.funcs[iClone]? = some nClone:=by kernel_rfl
theorem heClone:enters DP iClone=true:=by kernel_rfl
theorem hbClone:nClone.body.isSome=true:=by kernel_rfl
noncomputable def TClone_n:Tree:=
.leaf ⟨[0],[]⟩ [] .ret (some ([(0,nilS)],[]))

theorem TClone_n_chk:fnC DP Γ0 Δ0 Tryd.f71 [nilS] [] (TClone_n)=TClone_n:=by kernel_rfl

noncomputable def TClone_c (x:UInt8) (xs:List UInt8):Tree:=
.app 7 (.ls ((x::xs).map byteE.f)) 0 ([]) byteE ([]:List UInt8) (x::xs) (.leaf ⟨[0],[(0,1,some ((([]:List UInt8)++(x::xs)).map byteE.f))]⟩ [rowC ((([]:List UInt8)++(x::xs)).map byteE.f)] .ret (some ([(0, .rs 0 0 1 0 ((([]:List UInt8)++(x::xs)).length))],[byteE.bx 0 (([]:List UInt8)++(x::xs))])))

theorem TClone_c_chk (x:UInt8) (xs:List UInt8):fnC DP Γ0 Δ0 Tryd.f71 [vl ((x::xs).map byteE.f)] [] (TClone_c x xs)=TClone_c x xs:=by kernel_rfl

def RClone0:List AV→AV→Prop:=fun args r=>(args= [nilS]∧r=vl [])∨∃ (x:UInt8) (xs:List UInt8),(x::xs).length≤1000000000∧args= [vl ((x::xs).map byteE.f)]∧r=vl ((x::xs).map byteE.f)
theorem SClone0:SoundF DP iClone (.pure (relG RClone0)):=sound_pureT mixedD Γ0_ok Δ0_ok hfClone heClone hbClone (by
 rintro args r (⟨rfl,rfl⟩ | ⟨x,xs,hl,rfl,rfl⟩)
 ·exact ⟨rfl,rfl,_,TClone_n_chk,wp_leaf rfl .nil⟩
 ·refine ⟨rfl,rfl,_,TClone_c_chk x xs,?_⟩
  unfold TClone_c
  exact wp_app (E:=byteE) rfl rfl (by simp only[List.nil_append,List.length_cons] at hl ⊢; omega) (wp_leaf rfl (byteE.elt.sealed trivial rfl)))
def RClone:List AV→AV→Prop:=fun args r=>∃ (L:List UInt8),L.length≤1000000000∧args= [vl (L.map byteE.f)]∧r=vl (L.map byteE.f)
noncomputable def gClone:=relG RClone
theorem RClone0_det {args:List AV} {r r':AV} (h:RClone0 args r) (h':RClone0 args r'):r=r':=by
 rcases h with ⟨h1,rfl⟩ | ⟨x,xs,_,h1,rfl⟩ <;> rcases h' with ⟨h2,rfl⟩ | ⟨y,ys,_,h2,rfl⟩
 ·rfl
 ·rw[h1] at h2; cases h2
 ·rw[h1] at h2; cases h2
 ·exact one_arg (h1.symm.trans h2)
theorem gClone_eq {L:List UInt8} (h:L.length≤1000000000):gClone [vl (L.map byteE.f)]=some (vl (L.map byteE.f)):=relG_eq (by
 rintro args r r' ⟨x,_,h1,rfl⟩ ⟨y,_,h2,rfl⟩
 exact one_arg (h1.symm.trans h2)) ⟨L,h,rfl,rfl⟩
theorem SClone:SoundF DP iClone (.pure gClone):=by
 intro args B r B' hs F ρ w us hI hA
 obtain ⟨r',h1,h2⟩:=map_some hs
 cases h2
 obtain ⟨L,hL,rfl,rfl⟩:=relG_some h1
 have hrun:∀ (al:List AV) (y:AV),RClone0 al y→(FSpec.pure (relG RClone0)).run al B=some (y,B):=fun al y h=>by
  show ((relG RClone0 al).map fun r=>(r,B))=_
  rw[relG_eq (R:=RClone0) (fun _ _ _ h h2=>RClone0_det h h2) h]; rfl
 cases L with
 | cons x xs=>exact SClone0 _ B _ B (hrun _ _ (.inr ⟨x,xs,hL,rfl,rfl⟩)) F ρ w us hI hA
 | nil=>
  obtain ⟨v,rfl⟩:∃ v,us= [v]:=by
   match us,hA.1 with
   | [v],_=>exact ⟨v,rfl⟩
  have hv:=hA.2 0 _ _ rfl rfl
  have key:(∃ ad c,v= .slice (some ad) 0 c)∨v= .slice none 0 0:=by
   cases hv with
   | p _ _ hp=>
    cases hp with
    | nil a cap h=>
     cases a with
     | none=>exact .inr (by rw[h.resolve_left (by simp)])
     | some a=>exact .inl ⟨a,cap,rfl⟩
    | ls xs a cap us=>exact .inl ⟨a,cap,rfl⟩
  rcases key with ⟨ad,c,rfl⟩ | rfl
  ·refine .inl ⟨enter_run heClone _ _,(clone_empty ad c w).mono fun e w' hp=>?_⟩
   obtain ⟨v',rfl,ho,hb⟩:=hp
   have hsh:∀ k e n,w.shape? k=some (e,n)→w'.shape? k=some (e,n):=fun k e n h=>by
    have hk:k<w.heap.size:=by
     rcases Nat.lt_or_ge k w.heap.size with h' | h'
     ·exact h'
     ·unfold World.shape? at h
      rw[Array.getElem?_eq_none h'] at h
      cases h
    unfold World.shape? at h ⊢
    rw[hb.block k hk]
    exact h
   obtain ⟨s1,s2⟩:=stands hb.size hb.os hb.tape hb.output hsh (fun k hk=>hb.block k hk) hI
   refine ⟨v',ρ,rfl,s2,s1, .p _ _ ?_⟩
   rcases ho.2 with ⟨rfl,_⟩ | ⟨g,cap,cur,rfl,_⟩
   ·exact .nil none 0 (.inr rfl)
   ·exact .nil (some _) cap (.inl rfl)
  ·exact SClone0 [nilS] B _ B (hrun _ _ (.inl ⟨rfl,rfl⟩)) F ρ w _ hI ⟨rfl,fun j p u hp hu=>by
    match j with
    | 0=>cases hp; cases hu; exact .p _ _ (.v _)
    | j+1=>simp at hp⟩
end Go.Ax

namespace Go.Ax
open Go.Proofs Go.RowKit
set_option maxRecDepth 100000

def cntI (b:List UInt8):Int:=littleI (cutL (some ((b.length:Int) - 4)) none b)
def endZ (b:List UInt8):Int:=((b.length:Int) - 4) - (4*(cntI b))
def bodyI (b:List UInt8):List UInt8:=cutL none (some (endZ b)) b
noncomputable def ΓF7:Env:=envP [(iLittle,gLittle),(iClone,gClone),(iReadP,gReadP),(iMkP,gMkP)]

abbrev iParP:Nat:=42
noncomputable abbrev nParP:Func:=Tryd.f42
theorem hfParP:DP.funcs[iParP]? = some nParP:=by kernel_rfl
theorem heParP:enters DP iParP=true:=by kernel_rfl
theorem hbParP:nParP.body.isSome=true:=by kernel_rfl
abbrev iAllP:Nat:=43
noncomputable abbrev nAllP:Func:=Tryd.f43
theorem hfAllP:DP.funcs[iAllP]? = some nAllP:=by kernel_rfl
theorem heAllP:enters DP iAllP=true:=by kernel_rfl
theorem hbAllP:nAllP.body.isSome=true:=by kernel_rfl
noncomputable def TParP_l1_e (b:List UInt8) (s1:(List Int)×Int):St:=([(0,vl (b.map byteE.f)),(2, .ptr 0 0 0),(5,vi (endZ b)),(6, .ptr 1 0 0),(43,vi (cntI b)),(44,vi s1.2)],[.cells false 0 ([nilS,nilS]), .cells false 0 ([vl ((bodyI b).map byteE.f), .rs 2 0 1 0 s1.1.length]),intE.bx 0 s1.1])
noncomputable def TParP_l1_x (b:List UInt8) (x1:(List Int)):AE×St:=((.exit 0),([(0,vl (b.map byteE.f)),(2, .ptr 0 0 0),(6, .ptr 1 0 0)],[.cells false 0 ([nilS,nilS]), .cells false 0 ([vl ((bodyI b).map byteE.f), .rs 2 0 1 0 x1.length]),intE.bx 0 x1]))
noncomputable def TParP_l1_b (b:List UInt8) (s1:(List Int)×Int):Tree:=
.sp 45 (decide (s1.2<(cntI b))) (
.int 52 (IntKind.i64.wrap (4*s1.2)) (4*s1.2) (.int 53 (IntKind.i64.wrap ((endZ b)+(4*s1.2))) ((endZ b)+(4*s1.2)) (.int 56 (IntKind.i64.wrap (4*s1.2)) (4*s1.2) (.int 57 (IntKind.i64.wrap ((endZ b)+(4*s1.2))) ((endZ b)+(4*s1.2)) (.int 58 (IntKind.i64.wrap (((endZ b)+(4*s1.2))+4)) (((endZ b)+(4*s1.2))+4) (.cut 59 (b.map byteE.f) (some ((endZ b)+(4*s1.2))) (some (((endZ b)+(4*s1.2))+4)) byteE b (.call 60 (gLittle [vl ((cutL (some ((endZ b)+(4*s1.2))) (some (((endZ b)+(4*s1.2))+4)) b).map byteE.f)]=some (vn .u64 (littleI (cutL (some ((endZ b)+(4*s1.2))) (some (((endZ b)+(4*s1.2))+4)) b)))) (vn .u64 (littleI (cutL (some ((endZ b)+(4*s1.2))) (some (((endZ b)+(4*s1.2))+4)) b))) (.int 61 (IntKind.i64.wrap ((littleI (cutL (some ((endZ b)+(4*s1.2))) (some (((endZ b)+(4*s1.2))+4)) b)))) ((littleI (cutL (some ((endZ b)+(4*s1.2))) (some (((endZ b)+(4*s1.2))+4)) b))) (.app 63 (.row 1 ([vi (littleI (cutL (some ((endZ b)+(4*s1.2))) (some (((endZ b)+(4*s1.2))+4)) b))])) s1.1.length (rowC (s1.1.map intE.f)) intE s1.1 ([(littleI (cutL (some ((endZ b)+(4*s1.2))) (some (((endZ b)+(4*s1.2))+4)) b))]) (.int 65 (IntKind.i64.wrap (s1.2+1)) (s1.2+1) (.leaf ⟨[0,2,5,6,43,44],[(0,0,none),(1,0,none),(2,1,some ((s1.1++([(littleI (cutL (some ((endZ b)+(4*s1.2))) (some (((endZ b)+(4*s1.2))+4)) b))])).map intE.f))]⟩ [rowC ((s1.1++([(littleI (cutL (some ((endZ b)+(4*s1.2))) (some (((endZ b)+(4*s1.2))+4)) b))])).map intE.f)] .normal (some (TParP_l1_e b (s1.1++([(littleI (cutL (some ((endZ b)+(4*s1.2))) (some (((endZ b)+(4*s1.2))+4)) b))]),s1.2+1)))))))))))))) (
.leaf ⟨[0,2,6],[(0,0,none),(1,0,none),(2,0,some (s1.1.map intE.f))]⟩ [rowC (s1.1.map intE.f)] (.exit 0) (some (TParP_l1_x b s1.1).2))
noncomputable def TParP (b:List UInt8):Tree:=
.int 13 ((b.map byteE.f).length:Int) (b.length:Int) (.sp 14 (decide ((b.length:Int)<(4:Int))) (
.leaf ⟨[0],[]⟩ [] .ret (some ([(0, .tup [.agg [nilS,nilS],vi 2])],[]))) (
.int 18 ((b.map byteE.f).length:Int) (b.length:Int) (.int 19 (IntKind.i64.wrap ((b.length:Int) - 4)) ((b.length:Int) - 4) (.cut 20 (b.map byteE.f) (some ((b.length:Int) - 4)) none byteE b (.call 21 (gLittle [vl ((cutL (some ((b.length:Int) - 4)) none b).map byteE.f)]=some (vn .u64 (cntI b))) (vn .u64 (cntI b)) (.int 24 ((b.map byteE.f).length:Int) (b.length:Int) (.int 25 (IntKind.i64.wrap ((b.length:Int) - 4)) ((b.length:Int) - 4) (.int 26 (IntKind.u64.wrap ((b.length:Int) - 4)) ((b.length:Int) - 4) (.int 27 (IntKind.u64.wrap (Int.tdiv ((b.length:Int) - 4) 4)) (Int.tdiv ((b.length:Int) - 4) 4) (.sp 28 (decide ((cntI b)>(Int.tdiv ((b.length:Int) - 4) 4))) (
.leaf ⟨[0],[]⟩ [] .ret (some ([(0, .tup [.agg [nilS,nilS],vi 2])],[]))) (
.int 31 ((b.map byteE.f).length:Int) (b.length:Int) (.int 32 (IntKind.i64.wrap ((b.length:Int) - 4)) ((b.length:Int) - 4) (.int 34 (IntKind.i64.wrap ((cntI b))) ((cntI b)) (.int 35 (IntKind.i64.wrap (4*(cntI b))) (4*(cntI b)) (.int 36 (IntKind.i64.wrap (((b.length:Int) - 4) - (4*(cntI b)))) (endZ b) (.cut 39 (b.map byteE.f) none (some (endZ b)) byteE b (.call 40 (gClone [vl ((cutL none (some (endZ b)) b).map byteE.f)]=some (vl ((bodyI b).map byteE.f))) (vl ((bodyI b).map byteE.f)) (.int 43 (IntKind.i64.wrap ((cntI b))) ((cntI b)) (.nilcell 1 1 1 (.loop ⟨[0,2,5,6,43,44],[(0,0,none),(1,0,none),(2,0,some (([]:List Int).map intE.f))]⟩ [rowC (([]:List Int).map intE.f)] (some (TParP_l1_e b (([]:List Int),0))) (TParP_l1_e b) (TParP_l1_x b) noX (([]:List Int),0) (TParP_l1_b b) (fun (x1:(List Int))=> .sealcell 13 1 1 (rowC (x1.map intE.f)) x1.length intE x1 (.call 68 (gReadP [.agg [vl ((bodyI b).map byteE.f),vl (x1.map intE.f)],vi 0,vi (-1)]=some (.tup [vl (((readI (bodyI b)).1).map parE.f),vi ((readI (bodyI b)).2)])) (.tup [vl (((readI (bodyI b)).1).map parE.f),vi ((readI (bodyI b)).2)]) (.sp 72 (((readI (bodyI b)).2) != (0:Int)) (
.leaf ⟨[0],[]⟩ [] .ret (some ([(0, .tup [.agg [nilS,nilS],vi ((readI (bodyI b)).2)])],[]))) (
.call 77 (gMkP [vl (((readI (bodyI b)).1).map parE.f)]=some (.tup [vl (((mkI ((readI (bodyI b)).1)).1).map byteE.f),vi ((mkI ((readI (bodyI b)).1)).2)])) (.tup [vl (((mkI ((readI (bodyI b)).1)).1).map byteE.f),vi ((mkI ((readI (bodyI b)).1)).2)]) (.sp 81 (((mkI ((readI (bodyI b)).1)).2) != (0:Int)) (
.leaf ⟨[0],[]⟩ [] .ret (some ([(0, .tup [.agg [nilS,nilS],vi 2])],[]))) (
.bstrl 84 (((mkI ((readI (bodyI b)).1)).1).map byteE.f) ((mkI ((readI (bodyI b)).1)).1) (.bstrl 86 (b.map byteE.f) b (.sp 87 (!((⟨((mkI ((readI (bodyI b)).1)).1).toArray⟩:ByteArray).toList == (⟨b.toArray⟩:ByteArray).toList)) (
.leaf ⟨[0],[]⟩ [] .ret (some ([(0, .tup [.agg [nilS,nilS],vi 2])],[]))) (
.leaf ⟨[0],[]⟩ [] .ret (some ([(0, .tup [.agg [vl ((bodyI b).map byteE.f),vl (x1.map intE.f)],vi 0])],[]))))))))))) (fun _=> .stuck)))))))))))))))))))))

theorem TParP_chk (b:List UInt8):fnC DP ΓF7 Δ0 Tryd.f42 [vl (b.map byteE.f)] [] (TParP b)=TParP b:=by kernel_rfl

noncomputable def TAllP (b:List UInt8) (w:List Int):Tree:=
.call 7 (gReadP [.agg [vl (b.map byteE.f),vl (w.map intE.f)],vi 0,vi (-1)]=some (.tup [vl (((readI b).1).map parE.f),vi ((readI b).2)])) (.tup [vl (((readI b).1).map parE.f),vi ((readI b).2)]) (.leaf ⟨[0],[]⟩ [] .ret (some ([(0,vl (((readI b).1).map parE.f))],[])))

theorem TAllP_chk (b:List UInt8) (w:List Int):fnC DP ΓF7 Δ0 Tryd.f43 [.agg [vl (b.map byteE.f),vl (w.map intE.f)]] [] (TAllP b w)=TAllP b w:=by kernel_rfl

end Go.Ax

namespace Go.Ax
open Go.Proofs Go.RowKit
set_option maxRecDepth 100000

theorem one_val {N:Nat} {r last:List UInt8} {p:Par} {r':List UInt8} (h:oneI N r last=some (p,r')):p.vl.length≤r.length:=by
 unfold oneI at h
 simp only at h
 split at h
 ·cases h
 ·split at h
  ·cases h
  ·split at h
   ·cases h
   ·split at h
    ·cases h
    ·cases h
     simp only[Par.vl,List.toList_toArray,List.length_take,List.length_drop]
     omega
theorem read_ok (N:Nat):∀ (f:Nat) (r last:List UInt8) (L:List Par),readA N f r last=some L→(∀ p∈L,p.nl.length≤last.length+r.length∧p.vl.length≤r.length)∧L.length≤r.length
 | f,[],last,L,h=>by
  have:L= []:=by cases f <;> (unfold readA at h; cases h; rfl)
  subst this
  exact ⟨fun p hp=>(by cases hp),Nat.le_refl _⟩
 | 0,c::r,last,L,h=>by cases h
 | f+1,c::r,last,L,h=>by
  rw[readA] at h
  cases h1:oneI N (c::r) last with
  | none=>rw[h1] at h; cases h
  | some z=>
   obtain ⟨p,r'⟩:=z
   rw[h1] at h
   simp only at h
   obtain ⟨m,m1,m2,m3,m4⟩:=one_some h1
   have hv:=one_val h1
   cases h2:readA N f r' p.nl with
   | none=>rw[h2] at h; cases h
   | some M=>
    rw[h2] at h
    cases h
    have ih:=read_ok N f r' p.nl M h2
    have hl:r'.length=(c::r).length - m:=by rw[m3,List.length_drop]
    refine ⟨fun q hq=>?_,by rw[List.length_cons]; omega⟩
    rcases List.mem_cons.1 hq with rfl | hq
    ·exact ⟨by omega,hv⟩
    ·have:=ih.1 q hq
     exact ⟨by omega,by omega⟩
def mkW (b:List UInt8) (i:Nat):Int:=littleI (cutL (some (endZ b+4*(i:Int))) (some (endZ b+4*(i:Int)+4)) b)
def pgW0 (b:List UInt8) (i:Nat):List Int:=(List.range i).map (mkW b)
def pgB (b:List UInt8):List UInt8:=match parI b with | none=> [] | some _=>bodyI b
def pgW (b:List UInt8):List Int:=match parI b with | none=> [] | some _=>pgW0 b (cntI b).toNat
def pgE (b:List UInt8):Int:=match parI b with | none=>2 | some _=>0
theorem cntI_b (b:List UInt8):0≤cntI b:=(littleI_b _).1
theorem pw_snoc (b:List UInt8) (i:Nat):pgW0 b (i+1)=pgW0 b i++ [mkW b i]:=by unfold pgW0; rw[List.range_succ,List.map_append]; rfl
theorem pw_len (b:List UInt8) (i:Nat):(pgW0 b i).length=i:=by simp[pgW0]
theorem littleI_b4 (b:List UInt8) (h:b.length=4):0≤littleI b∧littleI b<4294967296:=by
 have h1:=numN_lt (b.take 8)
 rw[List.take_of_length_le (by omega),h] at h1
 unfold littleI
 rw[List.take_of_length_le (by omega)]
 omega
theorem mark_rounds (b:List UInt8) (hb:b.length≤100000000) (he:0≤endZ b∧endZ b+4*cntI b+4≤b.length):∀ (j i:Nat),(i:Int)+j=cntI b→Rounds (TParP_l1_e b) (TParP_l1_x b) noX (fun s=>(TParP_l1_b b s).wp) (pgW0 b i,(i:Int)) (.inl (pgW0 b (cntI b).toNat)):=by
 intro j
 induction j with
 | zero=>
  intro i hi
  rw[show (cntI b).toNat=i by omega]
  refine .done (by intro e; cases e) ?_
  unfold TParP_l1_b
  exact wp_sp (fun h'=>absurd (of_decide_eq_true h') (by simp only; omega)) (fun _=>wp_leaf rfl ⟨rfl,rfl⟩)
 | succ j ih=>
  intro i hi
  have hr:=ih (i+1) (by omega)
  have hm:=littleI_b4 (cutL (some (endZ b+4*(i:Int))) (some (endZ b+4*(i:Int)+4)) b) (by simp only[cutL,List.length_drop,List.length_take]; omega)
  rw[pw_snoc,show ((i+1:Nat):Int)=(i:Int)+1 by omega] at hr
  refine .next ?_ hr
  have hl:=pw_len b i
  unfold TParP_l1_b
  dsimp only
  exact wp_sp (fun _=>wp_i64 (by omega) (wp_i64 (by omega) (wp_i64 (by omega) (wp_i64 (by omega) (wp_i64 (by omega) (wp_cut (by simp only[cutOk]; omega) (wp_call (gLittle_eq (by simp only[cutL,List.length_drop,List.length_take]; omega)) (wp_i64 (by omega) (wp_app ⟨rfl,rfl⟩ rfl (by rw[List.length_append,List.length_singleton]; omega) (wp_i64 (by omega) (wp_leaf rfl ⟨rfl,rfl⟩))))))))))) (fun h'=>absurd (of_decide_eq_false h') (by omega))

theorem cnt_le {b:List UInt8} (h:¬(b.length<4∨littleI (b.drop (b.length - 4))>((b.length - 4) / 4:Nat))):4≤b.length∧cntI b≤((b.length - 4) / 4:Nat)∧cntI b=littleI (b.drop (b.length - 4))∧(endZ b=(endI b:Nat))∧bodyI b=b.take (endI b):=by
 have h4:4≤b.length:=by omega
 have e1:cntI b=littleI (b.drop (b.length - 4)):=by
  show littleI (b.drop (Int.toNat ((b.length:Int) - 4)))=_
  rw[show Int.toNat ((b.length:Int) - 4)=b.length - 4 by omega]
 have hc:=cntI_b b
 have e2:endZ b=(endI b:Nat):=by
  unfold endZ endI
  rw[←e1]
  omega
 refine ⟨h4,by omega,e1,e2,?_⟩
 show b.take (Int.toNat (endZ b))=_
 rw[e2,Int.toNat_natCast]
def RParP:List AV→AV→Prop:=fun args r=>∃ (b:List UInt8),b.length≤100000000∧args= [vl (b.map byteE.f)]∧r= .tup [.agg [vl ((pgB b).map byteE.f),vl ((pgW b).map intE.f)],vi (pgE b)]
noncomputable def gParP:=relG RParP
theorem seal_page0 {B:List Box} {e:Int}:Sealed (fun _=>True) B (.tup [.agg [nilS,nilS],vi e]) (.tup [.agg [vl (([]:List UInt8).map byteE.f),vl (([]:List Int).map intE.f)],vi e]):= .tup _ _ rfl (fun j c d h1 h2=>by
 match j,h1,h2 with
 | 0,h1,h2=>
  cases h1; cases h2
  refine .agg _ _ rfl (fun j c d h1 h2=>?_)
  match j,h1,h2 with
  | 0,h1,h2=>cases h1; cases h2; exact .nil
  | 1,h1,h2=>cases h1; cases h2; exact .nil
  | j+2,h1,h2=>cases h1
 | 1,h1,h2=>cases h1; cases h2; exact .p _
 | j+2,h1,h2=>cases h1)
theorem seal_page1 {B:List Box} {x y:PV} {e:Int}:Sealed (fun _=>True) B (.tup [.agg [.p x, .p y],vi e]) (.tup [.agg [.p x, .p y],vi e]):= .tup _ _ rfl (seal_all (fun z hz=>by
 rcases List.mem_cons.1 hz with rfl | hz
 ·exact .agg _ _ rfl (seal_all (seal_pl (l:= [x,y])))
 ·rcases List.mem_cons.1 hz with rfl | hz
  ·exact .p _
  ·cases hz))
theorem ΓF7_ok:∀ f,SoundF DP f (ΓF7 f):=envP_cons SLittle (envP_cons SClone (envP_cons SReadP (envP_cons SMkP envP_nil)))
theorem gMkP_eq {L:List Par} (hL:∀ p∈L,ParOk p) (hN:L.length≤100000000):gMkP [vl (L.map parE.f)]=some (.tup [vl ((mkI L).1.map byteE.f),vi (mkI L).2]):=relG_eq (by
 rintro args r r' ⟨a,_,_,h1,rfl⟩ ⟨b,_,_,h2,rfl⟩
 have h:=one_arg' (h1.symm.trans h2)
 simp only[AV.p.injEq,PV.ls.injEq] at h
 have:a=b:=(List.map_inj_right (fun x y e=>by
  cases x; cases y
  simp[parE] at e
  simp[e])).1 h
 rw[this]) ⟨L,hL,hN,rfl,rfl⟩
theorem ba_ne (x y:List UInt8):(!((⟨x.toArray⟩:ByteArray).toList == (⟨y.toArray⟩:ByteArray).toList))=decide (x≠y):=by
 rw[ByteArray.toList_eq,ByteArray.toList_eq,Bool.eq_iff_iff,Bool.not_eq_true',beq_eq_false_iff_ne,decide_eq_true_eq]
theorem SParP:SoundF DP iParP (.pure gParP):=sound_pureT mixedD ΓF7_ok Δ0_ok hfParP heParP hbParP (by
 rintro args r ⟨b,hb,rfl,rfl⟩
 refine ⟨rfl,rfl,_,TParP_chk b,?_⟩
 have hP:parI b=if b.length<4 then none else if littleI (b.drop (b.length - 4))>((b.length - 4) / 4:Nat) then none else
  match readA (endI b) (endI b) (b.take (endI b)) [] with
  | none=>none
  | some L=>if (mkI L).2≠0∨(mkI L).1≠b then none else some L:=rfl
 have bad:parI b=none→Sealed (fun _=>True) [] (.tup [.agg [nilS,nilS],vi 2]) (.tup [.agg [vl ((pgB b).map byteE.f),vl ((pgW b).map intE.f)],vi (pgE b)]):=fun h=>by
  unfold pgB pgW pgE
  rw[h]
  exact seal_page0
 unfold TParP
 refine wp_len (wp_sp (fun h=>?_) (fun h=>?_))
 ·have h:=of_decide_eq_true h
  rw[if_pos (by omega)] at hP
  exact wp_leaf rfl (bad hP)
 have h:=of_decide_eq_false h
 rw[if_neg (by omega)] at hP
 have ed:cutL (some ((b.length:Int) - 4)) none b=b.drop (b.length - 4):=by
  show b.drop _=_
  rw[show Int.toNat ((b.length:Int) - 4)=b.length - 4 by omega]
 have hc0:=cntI_b b
 have e1:cntI b=littleI (b.drop (b.length - 4)):=by unfold cntI; rw[ed]
 have ht:Int.tdiv ((b.length:Int) - 4) 4=((b.length - 4) / 4:Nat):=by
  rw[Int.tdiv_eq_ediv_of_nonneg (by omega)]; omega
 refine wp_len (wp_i64 (by omega) (wp_cut (by simp only[cutOk]; omega) (wp_call (gLittle_eq (by rw[ed,List.length_drop]; omega)) (wp_len (wp_i64 (by omega) (wp_u64 (by omega) (wp_u64 (by omega) (wp_sp (fun g=>?_) (fun g=>?_)))))))))
 ·have g:=of_decide_eq_true g
  rw[if_pos (by omega)] at hP
  exact wp_leaf rfl (bad hP)
 have g:=of_decide_eq_false g
 rw[if_neg (by omega)] at hP
 obtain ⟨q1,q2,q3,q4,q5⟩:=cnt_le (b:=b) (by omega)
 have hzz:endZ b=(b.length:Int) - 4 - 4*cntI b:=rfl
 have hr:=mark_rounds b hb (by omega) (cntI b).toNat 0 (by omega)
 refine wp_len (wp_i64 (by omega) (wp_i64 (by omega) (wp_i64 (by omega) (wp_i64 (by omega) (wp_cut (by simp only[cutOk]; omega) (wp_call (gClone_eq (L:=bodyI b) (by rw[q5,List.length_take]; omega)) (wp_i64 (by omega) ?_)))))))
 have hlen:(bodyI b).length=endI b:=by rw[q5,List.length_take]; omega
 have hre:readI (bodyI b)=match readA (endI b) (endI b) (b.take (endI b)) [] with | none=>([],2) | some L=>(L,0):=by
  unfold readI
  rw[hlen,q5]
  all_goals (cases readA (endI b) (endI b) (b.take (endI b)) [] <;> rfl)
 show (Tree.loop _ _ _ _ _ _ _ _ _ _).wp _
 refine wp_loop _ rfl hr ?_
 refine ⟨rfl,rfl,?_⟩
 refine wp_call (gReadP_eq (by rw[hlen]; omega)) ?_
 cases hA:readA (endI b) (endI b) (b.take (endI b)) [] with
 | none=>
  rw[hA] at hre hP
  rw[hre]
  exact wp_sp (fun _=>wp_leaf rfl (bad hP)) (fun h'=>by simp at h')
 | some L=>
  rw[hA] at hre hP
  simp only at hP hre
  obtain ⟨ok1,ok2⟩:=read_ok _ _ _ _ _ hA
  have htl:(b.take (endI b)).length=endI b:=by rw[←q5]; exact hlen
  have hok:∀ p∈L,ParOk p:=fun p hp=>by
   have:=ok1 p hp
   have e1:p.nl.length=p.name.size:=rfl
   have e2:p.vl.length=p.val.size:=rfl
   simp only[List.length_nil] at this
   exact ⟨by omega,by omega⟩
  rw[hre]
  refine wp_sp (fun h'=>by simp at h') (fun _=>wp_call (gMkP_eq hok (show L.length≤100000000 by omega)) (wp_sp (fun k=>?_) (fun k=>?_)))
  ·rw[if_pos (.inl (by simpa using k))] at hP
   exact wp_leaf rfl (bad hP)
  ·have k0:(mkI L).2=0:=by simpa using k
   refine wp_bstrl (wp_bstrl ?_)
   rw[ba_ne]
   refine wp_sp (fun m=>?_) (fun m=>?_)
   ·rw[if_pos (.inr (of_decide_eq_true m))] at hP
    exact wp_leaf rfl (bad hP)
   ·have m:=of_decide_eq_false m
    rw[if_neg (by rintro (e | e); exact e k0; exact m e)] at hP
    refine wp_leaf rfl ?_
    unfold pgB pgW pgE
    rw[hP]
    exact seal_page1)
theorem gParP_eq {b:List UInt8} (hb:b.length≤100000000):gParP [vl (b.map byteE.f)]=some (.tup [.agg [vl ((pgB b).map byteE.f),vl ((pgW b).map intE.f)],vi (pgE b)]):=relG_eq (by
 rintro args r r' ⟨a,_,h1,rfl⟩ ⟨c,_,h2,rfl⟩
 rw[vl_inj' (one_arg (h1.symm.trans h2))]) ⟨b,hb,rfl,rfl⟩
def RAllP:List AV→AV→Prop:=fun args r=>∃ (b:List UInt8) (w:List Int),b.length≤1000000000∧args= [.agg [vl (b.map byteE.f),vl (w.map intE.f)]]∧r=vl ((readI b).1.map parE.f)
noncomputable def gAllP:=relG RAllP
theorem SAllP:SoundF DP iAllP (.pure gAllP):=sound_pureT mixedD ΓF7_ok Δ0_ok hfAllP heAllP hbAllP (by
 rintro args r ⟨b,w,hb,rfl,rfl⟩
 refine ⟨rfl,rfl,_,TAllP_chk b w,?_⟩
 unfold TAllP
 exact wp_call (gReadP_eq hb) (wp_leaf rfl (.p _)))
theorem gAllP_eq {b:List UInt8} {w:List Int} (hb:b.length≤1000000000):gAllP [.agg [vl (b.map byteE.f),vl (w.map intE.f)]]=some (vl ((readI b).1.map parE.f)):=relG_eq (by
 rintro args r r' ⟨a,_,_,h1,rfl⟩ ⟨c,_,_,h2,rfl⟩
 have h:=one_arg' (h1.symm.trans h2)
 simp only[List.cons.injEq,AV.agg.injEq,and_true] at h
 rw[vl_inj' h.1]) ⟨b,w,hb,rfl,rfl⟩
theorem par_all {b:List UInt8} {L:List Par} (h:parI b=some L):readI (pgB b)=(L,0):=by
 unfold pgB
 rw[h]
 simp only
 unfold parI at h
 split at h
 ·cases h
 ·rename_i h1
  split at h
  ·cases h
  ·rename_i h2
   obtain ⟨q1,q2,q3,q4,q5⟩:=cnt_le (b:=b) (by omega)
   have hc0:=cntI_b b
   have hzz:endZ b=(b.length:Int) - 4 - 4*cntI b:=rfl
   have hlen:(bodyI b).length=endI b:=by rw[q5,List.length_take]; omega
   unfold readI
   rw[hlen,q5]
   cases hA:readA (endI b) (endI b) (b.take (endI b)) [] with
   | none=>rw[hA] at h; cases h
   | some M=>
    rw[hA] at h
    simp only at h
    split at h
    ·cases h
    ·cases h
     rfl
theorem pgB_len (b:List UInt8):(pgB b).length≤b.length:=by
 unfold pgB
 split
 ·simp
 ·show (b.take _).length≤_
  rw[List.length_take]; omega
end Go.Ax

namespace Go.Ax
open Go.Proofs Go.RowKit
set_option maxRecDepth 100000

instance (x y:Ent):Decidable (ltE x y):=by unfold ltE; infer_instance
def cmpE (x y:Ent):Int:=if bl x.key.data.toList y.key.data.toList then -1 else if x.key≠y.key then 1 else if y.seq<x.seq then -1 else if x.seq<y.seq then 1 else 0
theorem compareB:∀ x y:List UInt8,Lib.compareBytes x y=if bl x y then -1 else if x≠y then 1 else 0
 | [],[]=>rfl
 | [],b::y=>by rw[if_pos bl_nil]; rfl
 | a::x,[]=>by rw[if_neg (by simp[bl,Op.bytesLess]),if_pos (by simp)]; rfl
 | a::x,b::y=>by
  have ih:=compareB x y
  unfold Lib.compareBytes
  rw[ih]
  by_cases h1:a<b
  ·rw[if_pos h1,if_pos (bl_cons.2 (.inl h1))]
  ·rw[if_neg h1]
   by_cases h2:b<a
   ·have hb:¬bl (a::x) (b::y):=fun h=>by
     rcases bl_cons.1 h with h | h
     ·exact h1 h
     ·rw[h.1] at h2; exact UInt8.lt_irrefl _ h2
    have hn:a::x≠b::y:=fun h=>by
     rw[(List.cons.inj h).1] at h2; exact UInt8.lt_irrefl _ h2
    rw[if_pos h2,if_neg hb,if_pos hn]
   ·rw[if_neg h2]
    have e:a=b:=UInt8.toNat_inj.mp (by rw[UInt8.lt_iff_toNat_lt] at h1 h2; omega)
    subst e
    by_cases h3:bl x y
    ·have hb:bl (a::x) (a::y):=bl_cons.2 (.inr ⟨rfl,h3⟩)
     rw[if_pos h3,if_pos hb]
    ·have hb:¬bl (a::x) (a::y):=fun h=>by
      rcases bl_cons.1 h with h | h
      ·exact h1 h
      ·exact h3 h.2
     rw[if_neg h3,if_neg hb]
     by_cases h4:x=y
     ·subst h4
      rw[if_neg (fun h=>h rfl),if_neg (fun h=>h rfl)]
     ·have hn:a::x≠a::y:=fun h=>h4 (List.cons.inj h).2
      rw[if_pos h4,if_pos hn]
theorem key_tri {x y:Ent} (h:¬bl x.key.data.toList y.key.data.toList):x.key=y.key∨bl y.key.data.toList x.key.data.toList:=by
 rcases bl_tri x.key.data.toList y.key.data.toList with g | g | g
 ·exact absurd g h
 ·exact .inl (ByteArray.ext (Array.toList_inj.1 g))
 ·exact .inr g
theorem cmp_neg (x y:Ent):cmpE x y<0↔ltE x y:=by
 unfold cmpE ltE
 by_cases h1:bl x.key.data.toList y.key.data.toList
 ·rw[if_pos h1]; exact ⟨fun _=> .inl h1,fun _=>by decide⟩
 ·rw[if_neg h1]
  by_cases h2:x.key=y.key
  ·rw[if_neg (fun h=>h h2)]
   by_cases h3:y.seq<x.seq
   ·rw[if_pos h3]; exact ⟨fun _=> .inr ⟨h2,h3⟩,fun _=>by decide⟩
   ·rw[if_neg h3]
    constructor
    ·intro h; split at h <;> exact absurd h (by decide)
    ·rintro (h | h)
     ·exact absurd h h1
     ·exact absurd h.2 h3
  ·rw[if_pos h2]
   exact ⟨fun h=>absurd h (by decide),fun h=>h.elim (fun h=>absurd h h1) (fun h=>absurd h.1 h2)⟩
theorem cmp_zero (x y:Ent):cmpE x y=0↔x.key=y.key∧x.seq=y.seq:=by
 unfold cmpE
 by_cases h1:bl x.key.data.toList y.key.data.toList
 ·rw[if_pos h1]; exact ⟨fun h=>absurd h (by decide),fun h=>by rw[h.1] at h1; exact (bl_irr h1).elim⟩
 ·rw[if_neg h1]
  by_cases h2:x.key=y.key
  ·rw[if_neg (fun h=>h h2)]
   by_cases h3:y.seq<x.seq
   ·rw[if_pos h3]; exact ⟨fun h=>absurd h (by decide),fun h=>by omega⟩
   ·rw[if_neg h3]
    by_cases h4:x.seq<y.seq
    ·rw[if_pos h4]; exact ⟨fun h=>absurd h (by decide),fun h=>by omega⟩
    ·rw[if_neg h4]; exact ⟨fun _=>⟨h2,by omega⟩,fun _=>rfl⟩
  ·rw[if_pos h2]; exact ⟨fun h=>absurd h (by decide),fun h=>absurd h.1 h2⟩
theorem ltE_trans {x y z:Ent} (h:ltE x y) (g:ltE y z):ltE x z:=by
 unfold ltE at *
 rcases h with h | ⟨h,h'⟩
 ·rcases g with g | ⟨g,_⟩
  ·exact .inl (bl_trans h g)
  ·rw[←g]; exact .inl h
 ·rw[h]
  rcases g with g | ⟨g,g'⟩
  ·exact .inl g
  ·exact .inr ⟨g,by omega⟩
theorem ltE_irr {x:Ent} (h:ltE x x):False:=by
 rcases h with h | h
 ·exact bl_irr h
 ·omega
theorem ltE_tri (x y:Ent):ltE x y∨(x.key=y.key∧x.seq=y.seq)∨ltE y x:=by
 by_cases h1:bl x.key.data.toList y.key.data.toList
 ·exact .inl (.inl h1)
 ·rcases key_tri h1 with h | h
  ·rcases Int.lt_trichotomy x.seq y.seq with g | g | g
   ·exact .inr (.inr (.inr ⟨h.symm,g⟩))
   ·exact .inr (.inl ⟨h,g⟩)
   ·exact .inl (.inr ⟨h,g⟩)
  ·exact .inr (.inr (.inl h))
def searchI (p:Nat→Bool):Nat→Nat→Nat→Nat
 | 0,i,_=>i
 | f+1,i,j=>if i<j then (if p ((i+j) / 2) then searchI p f i ((i+j) / 2) else searchI p f ((i+j) / 2+1) j) else i
def least (y:Ent):Ent:=⟨y.key,y.seq,false,y.val⟩
def findI (idx:List Par) (y:Ent):Nat:=searchI (fun i=> !decide (bl (idx.getD i ⟨⟨#[]⟩,⟨#[]⟩⟩).nl (innB (least y)))) idx.length 0 idx.length
end Go.Ax

namespace Go.Ax
open Go.Proofs Go.RowKit
set_option maxRecDepth 100000

section
variable {L : List Ent}
end
end Go.Ax
