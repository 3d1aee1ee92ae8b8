/- A record of a file; pairs as changes: contracts. -/
import Derived.Test.YtbdfbdlfipcleaaDoorG37
set_option linter.unusedVariables false
set_option linter.unusedSimpArgs false
set_option linter.unusedSectionVars false
namespace Go.Ax
open Go.Proofs Go.RowKit
set_option maxRecDepth 100000

theorem bad_sound:SoundF DP iBadF (.pure gBadF):=sound_pureT mixedD Γ0_ok Δ0_ok hfBadF heBadF hbBadF (by
 rintro args r ⟨e,rfl,rfl⟩
 refine ⟨rfl,rfl,_,TBadF_chk e,?_⟩
 unfold TBadF badI
 refine wp_sp (fun h=>?_) (fun h=>wp_sp (fun g=>?_) (fun g=>?_))
 ·rw[if_pos (.inl (beq_iff_eq.1 h))]; exact wp_leaf rfl (.p _)
 ·rw[if_pos (.inr (beq_iff_eq.1 g))]; exact wp_leaf rfl (.p _)
 ·rw[if_neg (by rintro (k | k); exact beq_eq_false_iff_ne.1 h k; exact beq_eq_false_iff_ne.1 g k)]; exact wp_leaf rfl (.p _))
theorem gBadF_eq (e:Int):gBadF [vi e]=some (vi (badI e)):=relG_eq (by
 rintro args r r' ⟨a,h1,rfl⟩ ⟨b,h2,rfl⟩
 rw[h1] at h2
 simp at h2
 rw[h2]) ⟨e,rfl,rfl⟩
theorem ΓL1_ok:∀ f,SoundF DP f (ΓL1 f):=envP_cons bad_sound envP_nil
theorem ΔL1_ok:∀ f,SoundR DP f (ΔL1 f):=envR_cons (lift_sound SRead) (envR_cons (SNext.rel).shutRow envR_nil)
def OGetF:RSpec:=fun args B r B'=>∃ (D:Dsk) (nm:ByteArray) (a n:Int),D.Ok∧D.down=false∧args= [.op 0,vs nm, .agg [vi a,vi n]]∧B= [.obj [] (diskP D)]∧r= .tup [vl ((getF (contF D nm) a n).1.map byteE.f),vi (getF (contF D nm) a n).2]∧B'=B
theorem read_cont {D:Dsk} (hd:D.down=false) (nm:ByteArray) (a n:Int) (h:¬(a<0∨n<0)):((readD D nm a n).2≠0∧badI (readD D nm a n).2=12∧getF (contF D nm) a n=([],12))∨((readD D nm a n).2=0∧getF (contF D nm) a n=if (nextI (readD D nm a n).1).2.2≠0∨(nextI (readD D nm a n).1).2.1≠n then ([],12) else ((nextI (readD D nm a n).1).1,0)):=by
 unfold readD contF
 rw[hd]
 cases hg:D.get nm with
 | none=>exact .inl ⟨by simp,by simp[badI],getF_nil a n⟩
 | some x=>
  simp only[Bool.false_eq_true,if_false]
  by_cases g:a<0∨a>x.b.length∨n<0
  ·rw[if_pos g]
   refine .inl ⟨by simp,by simp[badI],?_⟩
   unfold getF
   rw[if_pos (by omega)]
  ·rw[if_neg g]
   refine .inr ⟨rfl,?_⟩
   conv=>lhs; unfold getF
   rw[if_neg (by omega)]
theorem SGetF:SoundR DP iGetF OGetF:=sound_genW mixedD ΓL1_ok ΔL1_ok hfGetF heGetF hbGetF (by
 rintro args B r B' ⟨D,nm,a,n,ok,hd,rfl,rfl,rfl,rfl⟩
 refine ⟨by rw[hnGetF]; rfl,_,TGetF_chk D nm a n,?_⟩
 unfold TGetF
 have bad:a<0∨n<0→getF (contF D nm) a n=([],12):=fun h=>by
  unfold getF
  rw[if_pos (by omega)]
 refine wp_sp (fun h=>?_) (fun h=>wp_sp (fun g=>?_) (fun g=>?_))
 ·rw[bad (.inl (of_decide_eq_true h))]
  exact wp_leaf rfl ⟨lax_nils,rfl⟩
 ·rw[bad (.inr (of_decide_eq_true g))]
  exact wp_leaf rfl ⟨lax_nils,rfl⟩
 ·have h:=of_decide_eq_false h
  have g:=of_decide_eq_false g
  refine wp_callr (oRead ok rfl) ?_
  rcases read_cont hd nm a n (by omega) with ⟨e1,e2,e3⟩ | ⟨e1,e3⟩
  ·rw[e3]
   refine wp_sp (fun _=>wp_call (gBadF_eq _) (wp_leaf rfl ?_)) (fun q=>absurd (by simpa using q) e1)
   rw[e2]
   exact ⟨lax_nils,rfl⟩
  ·have hlen:(readD D nm a n).1.length≤67108864:=by
    have hc:=contF_len ok nm
    unfold contF at hc
    unfold readD
    rw[hd]
    cases hg:D.get nm with
    | none=>simp
    | some x=>
     rw[hg] at hc
     simp only[Bool.false_eq_true,if_false] at hc ⊢
     split
     ·simp
     ·simp only[List.length_take,List.length_drop]; omega
   refine wp_sp (fun q=>absurd e1 (by simpa using q)) (fun _=>wp_callr ⟨0,2,0,UInt8,byteE,_,rfl,rfl,gNext_eq (by omega),rfl⟩ (wp_sp (fun k=>?_) (fun k=>wp_sp (fun m=>?_) (fun m=>?_))))
   ·rw[if_pos (.inl (by simpa using k))] at e3
    rw[e3]
    exact wp_leaf rfl ⟨lax_nils,rfl⟩
   ·rw[if_pos (.inr (by simpa using m))] at e3
    rw[e3]
    exact wp_leaf rfl ⟨lax_nils,rfl⟩
   ·rw[if_neg (by
     rintro (q | q)
     ·exact q (by simpa using k)
     ·exact q (by simpa using m))] at e3
    rw[e3]
    exact wp_leaf rfl ⟨.refl _,rfl⟩)
theorem ΓL2_ok:∀ f,SoundF DP f (ΓL2 f):=envP_cons SOuter (envP_cons SChkE envP_nil)
def entsQ (out:List Ent):Option (List Ent)→Unit ⊕ List Ent
 | none=> .inl ()
 | some E=> .inr (out++E)
theorem ents_rounds (L:List Par) (hL:∀ p∈L,p.name.size≤1000000000) (hN:L.length≤1000000000):∀ (M:List Par) (i:Nat) (out:List Ent),L.drop i=M→i+M.length=L.length→out.length≤i→Rounds (TEnts_l1_e L) TEnts_l1_x TEnts_l1_x' (fun s=>(TEnts_l1_b L s).wp) (out,(i:Int)) (entsQ out (entsI M)):=by
 intro M
 induction M with
 | nil=>
  intro i out hM hl ho
  simp only[List.length_nil] at hl
  show Rounds _ _ _ _ _ (.inr (out++ []))
  rw[List.append_nil]
  refine .done' (by intro e; cases e) ?_
  unfold TEnts_l1_b
  exact wp_sp (fun h'=>absurd (of_decide_eq_true h') (by simp only; omega)) (fun _=>wp_leaf rfl ⟨rfl,rfl⟩)
 | cons p M ih=>
  intro i out hM hl ho
  have gp:L[i]? = some p:=by rw[←List.head?_drop,hM]; rfl
  have hM':L.drop (i+1)=M:=by rw[←List.drop_drop,hM]; rfl
  have hp:=hL p (List.mem_of_getElem? gp)
  simp only[List.length_cons] at hl
  rw[entsI]
  have go:=gOuter_eq p.name hp
  have hE:(⟨(outI p.name.data.toList).1.key,(outI p.name.data.toList).1.seq,(outI p.name.data.toList).1.del,p.val⟩:Ent)=withV (outI p.nl).1 p.val:=rfl
  by_cases h1:(outI p.nl).2≠0
  ·rw[if_pos (.inl h1)]
   refine .done (by intro e; cases e) ?_
   unfold TEnts_l1_b
   dsimp only
   exact wp_sp (fun _=>wp_elem p (by omega) (by simpa using gp) (wp_call go (wp_sp (fun _=>wp_leaf rfl ⟨rfl,rfl⟩) (fun q=>absurd (by simpa using q) h1)))) (fun h'=>absurd (of_decide_eq_false h') (by omega))
  ·by_cases h2:chkE (withV (outI p.nl).1 p.val)≠0
   ·rw[if_pos (.inr h2)]
    refine .done (by intro e; cases e) ?_
    unfold TEnts_l1_b
    dsimp only
    exact wp_sp (fun _=>wp_elem p (by omega) (by simpa using gp) (wp_call go (wp_sp (fun q=>absurd (by simpa using q) h1) (fun _=>wp_call (gChkE_eq (withV (outI p.nl).1 p.val)) (wp_sp (fun _=>wp_leaf rfl ⟨rfl,rfl⟩) (fun q=>absurd (by simpa [hE] using q) h2)))))) (fun h'=>absurd (of_decide_eq_false h') (by omega))
   ·rw[if_neg (by rintro (e | e); exact h1 e; exact h2 e)]
    have hr:=ih (i+1) (out++ [withV (outI p.nl).1 p.val]) hM' (by omega) (by rw[List.length_append,List.length_singleton]; omega)
    have e:entsQ (out++ [withV (outI p.nl).1 p.val]) (entsI M)=entsQ out ((entsI M).map (withV (outI p.nl).1 p.val :: ·)):=by
     cases entsI M with
     | none=>rfl
     | some E=>show Sum.inr _=Sum.inr _; simp
    rw[e,show ((i+1:Nat):Int)=(i:Int)+1 by omega] at hr
    refine .next ?_ hr
    unfold TEnts_l1_b
    dsimp only
    exact wp_sp (fun _=>wp_elem p (by omega) (by simpa using gp) (wp_call go (wp_sp (fun q=>absurd (by simpa using q) h1) (fun _=>wp_call (gChkE_eq (withV (outI p.nl).1 p.val)) (wp_sp (fun q=>absurd (by simpa [hE] using q) h2) (fun _=>wp_app ⟨rfl,rfl⟩ rfl (by rw[List.length_append,List.length_singleton]; omega) (wp_i64 (by omega) (wp_leaf rfl ⟨rfl,rfl⟩)))))))) (fun h'=>absurd (of_decide_eq_false h') (by omega))
def REnts:List AV→AV→Prop:=fun args r=>∃ L:List Par,(∀ p∈L,p.name.size≤1000000000)∧L.length≤1000000000∧args= [vl (L.map parE.f)]∧r= .tup [vl ((entsX L).1.map entE.f),vi (entsX L).2]
noncomputable def gEnts:=relG REnts
theorem SEnts:SoundF DP iEnts (.pure gEnts):=sound_pureT mixedD ΓL2_ok Δ0_ok hfEnts heEnts hbEnts (by
 rintro args r ⟨L,hL,hN,rfl,rfl⟩
 refine ⟨rfl,rfl,_,TEnts_chk L,?_⟩
 have hr:=ents_rounds L hL hN L 0 [] List.drop_zero (Nat.zero_add _) (Nat.le_refl _)
 unfold TEnts entsX
 refine wp_len (wp_nilrow ?_)
 cases h:entsI L with
 | none=>
  rw[h] at hr
  exact wp_loop _ rfl hr (wp_leaf rfl seal_nilE)
 | some E=>
  rw[h] at hr
  exact wp_loop' _ rfl hr (wp_leaf rfl (seal_row2 (E:=entE))))
theorem par_inj {L M:List Par} (h:L.map parE.f=M.map parE.f):L=M:=(List.map_inj_right (fun x y e=>by
 cases x; cases y
 simp[parE] at e
 simp[e])).1 h
theorem gEnts_eq {L:List Par} (hL:∀ p∈L,p.name.size≤1000000000) (hN:L.length≤1000000000):gEnts [vl (L.map parE.f)]=some (.tup [vl ((entsX L).1.map entE.f),vi (entsX L).2]):=relG_eq (by
 rintro args r r' ⟨a,_,_,h1,rfl⟩ ⟨b,_,_,h2,rfl⟩
 have h:=one_arg' (h1.symm.trans h2)
 simp only[AV.p.injEq,PV.ls.injEq] at h
 rw[par_inj h]) ⟨L,hL,hN,rfl,rfl⟩
end Go.Ax

namespace Go.Ax
open Go.Proofs Go.RowKit
set_option maxRecDepth 100000

abbrev dskB (D:Dsk):Box:= .obj [] (diskP D)
abbrev filC (b:Nat) (nm:ByteArray) (F:FileR):Box:= .cells false 0 [.op b,vs nm,vl (F.idx.map parE.f),vl (F.bits.map byteE.f),vi F.cnt,vs F.low,vs F.high]
def OPairs:RSpec:=fun args B r B'=>∃ (D:Dsk) (nm:ByteArray) (F:FileR) (i:Int) (p:Par),D.Ok∧D.down=false∧0≤i∧F.idx[i.toNat]? = some p∧ParOk p∧args= [.ptr 1 0 0,vi i]∧B= [dskB D,filC 0 nm F] ∧
 r= .tup [.agg [vl ((pgOf (contF D nm) F.idx i).1.map byteE.f),vl ((pgOf (contF D nm) F.idx i).2.1.map intE.f)],vi (pgOf (contF D nm) F.idx i).2.2]∧B'=B
noncomputable def ΓL3:Env:=envP [(iGet,gGet),(iParP,gParP),(iBadF,gBadF)]
noncomputable def ΔL3:REnv:=envR [(iGetF,liftR OGetF)]
noncomputable def ΓL4:Env:=envP [(iAllP,gAllP),(iEnts,gEnts)]
noncomputable def ΔL4:REnv:=envR [(iPairs,liftR OPairs)]

noncomputable def TPairs (D:Dsk) (nm:ByteArray) (F:FileR) (i:Int):Tree:=
.elem 19 (F.idx.map parE.f) parE F.idx i (fun e1=> .sbyte 22 (.sealslot 2 6 (rowC (e1.val.data.toList.map byteE.f)) e1.val.data.toList.length byteE e1.val.data.toList (.call 25 (gGet [vl (e1.val.data.toList.map byteE.f)]=some (.tup [vn .u64 ((getI e1.val.data.toList).1),vi ((getI e1.val.data.toList).2.1),vi ((getI e1.val.data.toList).2.2)])) (.tup [vn .u64 ((getI e1.val.data.toList).1),vi ((getI e1.val.data.toList).2.1),vi ((getI e1.val.data.toList).2.2)]) (.sp 30 (((getI e1.val.data.toList).2.2) != (0:Int)) (
.leaf ⟨[0],[(0,0,none),(1,0,none)]⟩ [] .ret (some ([(0, .tup [.agg [nilS,nilS],vi 12])],[.obj [] (diskP D), .cells false 0 ([.op 0,vs nm,vl (F.idx.map parE.f),vl (F.bits.map byteE.f),vi F.cnt,vs F.low,vs F.high])]))) (
.sp 33 (decide (((getI e1.val.data.toList).1)>(67108864:Int))) (
.leaf ⟨[0],[(0,0,none),(1,0,none)]⟩ [] .ret (some ([(0, .tup [.agg [nilS,nilS],vi 12])],[.obj [] (diskP D), .cells false 0 ([.op 0,vs nm,vl (F.idx.map parE.f),vl (F.bits.map byteE.f),vi F.cnt,vs F.low,vs F.high])]))) (
.cut 39 (e1.val.data.toList.map byteE.f) (some ((getI e1.val.data.toList).2.1)) none byteE e1.val.data.toList (.call 40 (gGet [vl ((cutL (some ((getI e1.val.data.toList).2.1)) none e1.val.data.toList).map byteE.f)]=some (.tup [vn .u64 ((getI (cutL (some ((getI e1.val.data.toList).2.1)) none e1.val.data.toList)).1),vi ((getI (cutL (some ((getI e1.val.data.toList).2.1)) none e1.val.data.toList)).2.1),vi ((getI (cutL (some ((getI e1.val.data.toList).2.1)) none e1.val.data.toList)).2.2)])) (.tup [vn .u64 ((getI (cutL (some ((getI e1.val.data.toList).2.1)) none e1.val.data.toList)).1),vi ((getI (cutL (some ((getI e1.val.data.toList).2.1)) none e1.val.data.toList)).2.1),vi ((getI (cutL (some ((getI e1.val.data.toList).2.1)) none e1.val.data.toList)).2.2)]) (.sp 45 (((getI (cutL (some ((getI e1.val.data.toList).2.1)) none e1.val.data.toList)).2.2) != (0:Int)) (
.leaf ⟨[0],[(0,0,none),(1,0,none)]⟩ [] .ret (some ([(0, .tup [.agg [nilS,nilS],vi 12])],[.obj [] (diskP D), .cells false 0 ([.op 0,vs nm,vl (F.idx.map parE.f),vl (F.bits.map byteE.f),vi F.cnt,vs F.low,vs F.high])]))) (
.int 49 (IntKind.i64.wrap (((getI e1.val.data.toList).2.1)+((getI (cutL (some ((getI e1.val.data.toList).2.1)) none e1.val.data.toList)).2.1))) (((getI e1.val.data.toList).2.1)+((getI (cutL (some ((getI e1.val.data.toList).2.1)) none e1.val.data.toList)).2.1)) (.int 51 ((e1.val.data.toList.map byteE.f).length:Int) (e1.val.data.toList.length:Int) (.sp 52 ((((getI e1.val.data.toList).2.1)+((getI (cutL (some ((getI e1.val.data.toList).2.1)) none e1.val.data.toList)).2.1)) != (e1.val.data.toList.length:Int)) (
.leaf ⟨[0],[(0,0,none),(1,0,none)]⟩ [] .ret (some ([(0, .tup [.agg [nilS,nilS],vi 12])],[.obj [] (diskP D), .cells false 0 ([.op 0,vs nm,vl (F.idx.map parE.f),vl (F.bits.map byteE.f),vi F.cnt,vs F.low,vs F.high])]))) (
.sp 56 (decide (((getI (cutL (some ((getI e1.val.data.toList).2.1)) none e1.val.data.toList)).1)>(67108864:Int))) (
.leaf ⟨[0],[(0,0,none),(1,0,none)]⟩ [] .ret (some ([(0, .tup [.agg [nilS,nilS],vi 12])],[.obj [] (diskP D), .cells false 0 ([.op 0,vs nm,vl (F.idx.map parE.f),vl (F.bits.map byteE.f),vi F.cnt,vs F.low,vs F.high])]))) (
.any (.int 69 (IntKind.i64.wrap ((getI e1.val.data.toList).1)) ((getI e1.val.data.toList).1) (.int 71 (IntKind.i64.wrap ((getI (cutL (some ((getI e1.val.data.toList).2.1)) none e1.val.data.toList)).1)) ((getI (cutL (some ((getI e1.val.data.toList).2.1)) none e1.val.data.toList)).1) (.callr (some 73) (ΔL3 64 [.op 0,vs nm, .agg [vi ((getI e1.val.data.toList).1),vi ((getI (cutL (some ((getI e1.val.data.toList).2.1)) none e1.val.data.toList)).1)]] [.obj [] (diskP D), .cells false 0 ([.op 0,vs nm,vl (F.idx.map parE.f),vl (F.bits.map byteE.f),vi F.cnt,vs F.low,vs F.high]), .cells false 0 ([nilS,nilS]), .dead] (.tup [vl (((getF (contF D nm) ((getI e1.val.data.toList).1) ((getI (cutL (some ((getI e1.val.data.toList).2.1)) none e1.val.data.toList)).1)).1).map byteE.f),vi ((getF (contF D nm) ((getI e1.val.data.toList).1) ((getI (cutL (some ((getI e1.val.data.toList).2.1)) none e1.val.data.toList)).1)).2)]) [.obj [] (diskP D), .cells false 0 ([.op 0,vs nm,vl (F.idx.map parE.f),vl (F.bits.map byteE.f),vi F.cnt,vs F.low,vs F.high]), .cells false 0 ([nilS,nilS]), .dead]) (.tup [vl (((getF (contF D nm) ((getI e1.val.data.toList).1) ((getI (cutL (some ((getI e1.val.data.toList).2.1)) none e1.val.data.toList)).1)).1).map byteE.f),vi ((getF (contF D nm) ((getI e1.val.data.toList).1) ((getI (cutL (some ((getI e1.val.data.toList).2.1)) none e1.val.data.toList)).1)).2)]) [.obj [] (diskP D), .cells false 0 ([.op 0,vs nm,vl (F.idx.map parE.f),vl (F.bits.map byteE.f),vi F.cnt,vs F.low,vs F.high]), .cells false 0 ([nilS,nilS]), .dead] (.sp 77 (((getF (contF D nm) ((getI e1.val.data.toList).1) ((getI (cutL (some ((getI e1.val.data.toList).2.1)) none e1.val.data.toList)).1)).2) != (0:Int)) (
.leaf ⟨[0],[(0,0,none),(1,0,none)]⟩ [] .ret (some ([(0, .tup [.agg [nilS,nilS],vi ((getF (contF D nm) ((getI e1.val.data.toList).1) ((getI (cutL (some ((getI e1.val.data.toList).2.1)) none e1.val.data.toList)).1)).2)])],[.obj [] (diskP D), .cells false 0 ([.op 0,vs nm,vl (F.idx.map parE.f),vl (F.bits.map byteE.f),vi F.cnt,vs F.low,vs F.high])]))) (
.call 82 (gParP [vl (((getF (contF D nm) ((getI e1.val.data.toList).1) ((getI (cutL (some ((getI e1.val.data.toList).2.1)) none e1.val.data.toList)).1)).1).map byteE.f)]=some (.tup [.agg [vl ((pgB ((getF (contF D nm) ((getI e1.val.data.toList).1) ((getI (cutL (some ((getI e1.val.data.toList).2.1)) none e1.val.data.toList)).1)).1)).map byteE.f),vl ((pgW ((getF (contF D nm) ((getI e1.val.data.toList).1) ((getI (cutL (some ((getI e1.val.data.toList).2.1)) none e1.val.data.toList)).1)).1)).map intE.f)],vi (pgE ((getF (contF D nm) ((getI e1.val.data.toList).1) ((getI (cutL (some ((getI e1.val.data.toList).2.1)) none e1.val.data.toList)).1)).1))])) (.tup [.agg [vl ((pgB ((getF (contF D nm) ((getI e1.val.data.toList).1) ((getI (cutL (some ((getI e1.val.data.toList).2.1)) none e1.val.data.toList)).1)).1)).map byteE.f),vl ((pgW ((getF (contF D nm) ((getI e1.val.data.toList).1) ((getI (cutL (some ((getI e1.val.data.toList).2.1)) none e1.val.data.toList)).1)).1)).map intE.f)],vi (pgE ((getF (contF D nm) ((getI e1.val.data.toList).1) ((getI (cutL (some ((getI e1.val.data.toList).2.1)) none e1.val.data.toList)).1)).1))]) (.call 87 (gBadF [vi (pgE ((getF (contF D nm) ((getI e1.val.data.toList).1) ((getI (cutL (some ((getI e1.val.data.toList).2.1)) none e1.val.data.toList)).1)).1))]=some (vi (badI (pgE ((getF (contF D nm) ((getI e1.val.data.toList).1) ((getI (cutL (some ((getI e1.val.data.toList).2.1)) none e1.val.data.toList)).1)).1))))) (vi (badI (pgE ((getF (contF D nm) ((getI e1.val.data.toList).1) ((getI (cutL (some ((getI e1.val.data.toList).2.1)) none e1.val.data.toList)).1)).1)))) (.leaf ⟨[0],[(0,0,none),(1,0,none)]⟩ [] .ret (some ([(0, .tup [.agg [vl ((pgB ((getF (contF D nm) ((getI e1.val.data.toList).1) ((getI (cutL (some ((getI e1.val.data.toList).2.1)) none e1.val.data.toList)).1)).1)).map byteE.f),vl ((pgW ((getF (contF D nm) ((getI e1.val.data.toList).1) ((getI (cutL (some ((getI e1.val.data.toList).2.1)) none e1.val.data.toList)).1)).1)).map intE.f)],vi (badI (pgE ((getF (contF D nm) ((getI e1.val.data.toList).1) ((getI (cutL (some ((getI e1.val.data.toList).2.1)) none e1.val.data.toList)).1)).1)))])],[.obj [] (diskP D), .cells false 0 ([.op 0,vs nm,vl (F.idx.map parE.f),vl (F.bits.map byteE.f),vi F.cnt,vs F.low,vs F.high])]))))))))))))))))))))))

theorem TPairs_chk (D:Dsk) (nm:ByteArray) (F:FileR) (i:Int):fnC DP ΓL3 ΔL3 Tryd.f71 [.ptr 1 0 0,vi i] [.obj [] (diskP D), .cells false 0 ([.op 0,vs nm,vl (F.idx.map parE.f),vl (F.bits.map byteE.f),vi F.cnt,vs F.low,vs F.high])] (TPairs D nm F i)=TPairs D nm F i:=by kernel_rfl

noncomputable def TFPage (D:Dsk) (nm:ByteArray) (F:FileR) (i:Int):Tree:=
.sp 13 (decide (i<(0:Int))) (
.leaf ⟨[0],[(0,0,none),(1,0,none)]⟩ [] .ret (some ([(0, .tup [nilS,vi 1])],[.obj [] (diskP D), .cells false 0 ([.op 0,vs nm,vl (F.idx.map parE.f),vl (F.bits.map byteE.f),vi F.cnt,vs F.low,vs F.high])]))) (
.int 21 ((F.idx.map parE.f).length:Int) (F.idx.length:Int) (.sp 22 (decide (i≥(F.idx.length:Int))) (
.leaf ⟨[0],[(0,0,none),(1,0,none)]⟩ [] .ret (some ([(0, .tup [nilS,vi 1])],[.obj [] (diskP D), .cells false 0 ([.op 0,vs nm,vl (F.idx.map parE.f),vl (F.bits.map byteE.f),vi F.cnt,vs F.low,vs F.high])]))) (
.callr (some 27) (ΔL4 71 [.ptr 1 0 0,vi i] [.obj [] (diskP D), .cells false 0 ([.op 0,vs nm,vl (F.idx.map parE.f),vl (F.bits.map byteE.f),vi F.cnt,vs F.low,vs F.high])] (.tup [.agg [vl (((pgOf (contF D nm) F.idx i).1).map byteE.f),vl (((pgOf (contF D nm) F.idx i).2.1).map intE.f)],vi ((pgOf (contF D nm) F.idx i).2.2)]) [.obj [] (diskP D), .cells false 0 ([.op 0,vs nm,vl (F.idx.map parE.f),vl (F.bits.map byteE.f),vi F.cnt,vs F.low,vs F.high])]) (.tup [.agg [vl (((pgOf (contF D nm) F.idx i).1).map byteE.f),vl (((pgOf (contF D nm) F.idx i).2.1).map intE.f)],vi ((pgOf (contF D nm) F.idx i).2.2)]) [.obj [] (diskP D), .cells false 0 ([.op 0,vs nm,vl (F.idx.map parE.f),vl (F.bits.map byteE.f),vi F.cnt,vs F.low,vs F.high])] (.sp 31 (((pgOf (contF D nm) F.idx i).2.2) != (0:Int)) (
.leaf ⟨[0],[(0,0,none),(1,0,none)]⟩ [] .ret (some ([(0, .tup [nilS,vi ((pgOf (contF D nm) F.idx i).2.2)])],[.obj [] (diskP D), .cells false 0 ([.op 0,vs nm,vl (F.idx.map parE.f),vl (F.bits.map byteE.f),vi F.cnt,vs F.low,vs F.high])]))) (
.call 35 (gAllP [.agg [vl (((pgOf (contF D nm) F.idx i).1).map byteE.f),vl (((pgOf (contF D nm) F.idx i).2.1).map intE.f)]]=some (vl (((readI ((pgOf (contF D nm) F.idx i).1)).1).map parE.f))) (vl (((readI ((pgOf (contF D nm) F.idx i).1)).1).map parE.f)) (.call 36 (gEnts [vl (((readI ((pgOf (contF D nm) F.idx i).1)).1).map parE.f)]=some (.tup [vl (((entsX ((readI ((pgOf (contF D nm) F.idx i).1)).1)).1).map entE.f),vi ((entsX ((readI ((pgOf (contF D nm) F.idx i).1)).1)).2)])) (.tup [vl (((entsX ((readI ((pgOf (contF D nm) F.idx i).1)).1)).1).map entE.f),vi ((entsX ((readI ((pgOf (contF D nm) F.idx i).1)).1)).2)]) (.sp 40 (((entsX ((readI ((pgOf (contF D nm) F.idx i).1)).1)).2) == (0:Int)) (
.int 43 ((((entsX ((readI ((pgOf (contF D nm) F.idx i).1)).1)).1).map entE.f).length:Int) (((entsX ((readI ((pgOf (contF D nm) F.idx i).1)).1)).1).length:Int) (.sp 44 ((((entsX ((readI ((pgOf (contF D nm) F.idx i).1)).1)).1).length:Int) == (0:Int)) (
.leaf ⟨[0],[(0,0,none),(1,0,none)]⟩ [] .ret (some ([(0, .tup [nilS,vi 12])],[.obj [] (diskP D), .cells false 0 ([.op 0,vs nm,vl (F.idx.map parE.f),vl (F.bits.map byteE.f),vi F.cnt,vs F.low,vs F.high])]))) (
.leaf ⟨[0],[(0,0,none),(1,0,none)]⟩ [] .ret (some ([(0, .tup [vl (((entsX ((readI ((pgOf (contF D nm) F.idx i).1)).1)).1).map entE.f),vi ((entsX ((readI ((pgOf (contF D nm) F.idx i).1)).1)).2)])],[.obj [] (diskP D), .cells false 0 ([.op 0,vs nm,vl (F.idx.map parE.f),vl (F.bits.map byteE.f),vi F.cnt,vs F.low,vs F.high])]))))) (
.leaf ⟨[0],[(0,0,none),(1,0,none)]⟩ [] .ret (some ([(0, .tup [vl (((entsX ((readI ((pgOf (contF D nm) F.idx i).1)).1)).1).map entE.f),vi ((entsX ((readI ((pgOf (contF D nm) F.idx i).1)).1)).2)])],[.obj [] (diskP D), .cells false 0 ([.op 0,vs nm,vl (F.idx.map parE.f),vl (F.bits.map byteE.f),vi F.cnt,vs F.low,vs F.high])]))))))))))

theorem TFPage_chk (D:Dsk) (nm:ByteArray) (F:FileR) (i:Int):fnC DP ΓL4 ΔL4 Tryd.f37 [.ptr 1 0 0,vi i] [.obj [] (diskP D), .cells false 0 ([.op 0,vs nm,vl (F.idx.map parE.f),vl (F.bits.map byteE.f),vi F.cnt,vs F.low,vs F.high])] (TFPage D nm F i)=TFPage D nm F i:=by kernel_rfl

end Go.Ax

namespace Go.Ax
open Go.Proofs Go.RowKit
set_option maxRecDepth 100000

structure FOk (F:FileR):Prop where
 idx:F.idx.length≤100000000
 par:∀ p∈F.idx,ParOk p
 bits:F.bits.length≤10000000
section
variable {R : RSpec} {al : List AV} {B : List Box} {b l : Nat} {D : Dsk} {nm : ByteArray} {F : FileR} {y : AV}
theorem low_rv {y:AV} (hy:y.low 0=true) (f d:Nat→Nat):y.rv f d=y:=rv_low (n:=0) (fun j hj=>by omega) (fun j hj=>by omega) hy
theorem lift_see (hR:R (.op 0::al) [dskB D] y [dskB D]) (hb:B[b]? = some (dskB D)) (h1:∀ f d,AV.rv.rvL f d al=al) (h2:∀ n,AV.low.allLow n al=true) (hy:y.low 0=true):liftR R (.op b::al) B y B:=by
 have hlt:b<B.length:=(List.getElem?_eq_some_iff.1 hb).1
 refine ⟨_,_,_,_,hR,⟨[b],[0],[dskB D],[dskB D],[],?_,?_,?_,?_,⟨.objs rfl rfl,trivial⟩,⟨.objs rfl rfl,trivial⟩,?_,(low_rv hy _ _).symm,low_mono hy⟩⟩
 ·simp[noDup,Nat.blt_eq,hlt]
 ·simp[hb]
 ·rw[AV.rv.rvL,h1]; rfl
 ·rw[AV.low.allLow,h2]; rfl
 ·rw[outB,outB,set_same hb,List.append_nil]
theorem lift_file (hR:R (.ptr 1 0 0::al) [dskB D,filC 0 nm F] y [dskB D,filC 0 nm F]) (hb:B[b]? = some (dskB D)) (hl:B[l]? = some (filC b nm F)) (h1:∀ f d,AV.rv.rvL f d al=al) (h2:∀ n,AV.low.allLow n al=true) (hy:y.low 0=true):liftR R (.ptr l 0 0::al) B y B:=by
 have hbl:b<B.length:=(List.getElem?_eq_some_iff.1 hb).1
 have hll:l<B.length:=(List.getElem?_eq_some_iff.1 hl).1
 have hne:b≠l:=fun e=>by rw[e,hl] at hb; cases hb
 refine ⟨_,_,_,_,hR,⟨[b,l],[0,0],[dskB D,filC b nm F],[dskB D,filC b nm F],[],?_,?_,?_,?_,⟨.objs rfl rfl, .cells ?_ ?_ rfl,trivial⟩,⟨.objs rfl rfl, .cells ?_ ?_ rfl,trivial⟩,?_,(low_rv hy _ _).symm,low_mono hy⟩⟩
 ·have h1:Nat.beq l b=false:=by
   cases h:Nat.beq l b with
   | false=>rfl
   | true=>exact absurd (Nat.eq_of_beq_eq_true h).symm hne
  have h2:Nat.beq b l=false:=by
   cases h:Nat.beq b l with
   | false=>rfl
   | true=>exact absurd (Nat.eq_of_beq_eq_true h) hne
  simp[noDup,Nat.blt_eq,hbl,hll,h1,h2]
 ·simp[hb,hl]
 ·rw[AV.rv.rvL,h1]; simp[AV.rv,fNew,dNew]
 ·rw[AV.low.allLow,h2]; rfl
 ·simp[dNew]
 ·simp[AV.rv.rvL,AV.rv,fNew]
 ·simp[dNew]
 ·simp[AV.rv.rvL,AV.rv,fNew]
 ·rw[outB,outB,outB,set_same hb,set_same hl,List.append_nil]
theorem oGetF {a n:Int} (ok:D.Ok) (hd:D.down=false) (hb:B[b]? = some (dskB D)):liftR OGetF [.op b,vs nm, .agg [vi a,vi n]] B (.tup [vl ((getF (contF D nm) a n).1.map byteE.f),vi (getF (contF D nm) a n).2]) B:=
 lift_see (R:=OGetF) ⟨D,nm,a,n,ok,hd,rfl,rfl,rfl,rfl⟩ hb (fun _ _=>rfl) (fun _=>rfl) rfl
end
theorem ΓL3_ok:∀ f,SoundF DP f (ΓL3 f):=envP_cons SGet (envP_cons SParP (envP_cons bad_sound envP_nil))
theorem ΔL3_ok:∀ f,SoundR DP f (ΔL3 f):=envR_cons (lift_sound SGetF) envR_nil
theorem SPairs:SoundR DP iPairs OPairs:=sound_genW mixedD ΓL3_ok ΔL3_ok hfPairs hePairs hbPairs (by
 rintro args B r B' ⟨D,nm,F,i,p,ok,hd,h0,hp,hpo,rfl,rfl,rfl,rfl⟩
 refine ⟨by rw[hnPairs]; rfl,_,TPairs_chk D nm F i,?_⟩
 have hpg:pgOf (contF D nm) F.idx i=match atI p.vl with
  | none=>([],[],12)
  | some (a,n)=>if (getF (contF D nm) a n).2≠0 then ([],[],12) else (pgB (getF (contF D nm) a n).1,pgW (getF (contF D nm) a n).1,badI (pgE (getF (contF D nm) a n).1)):=by
  unfold pgOf
  rw[hp]
  simp only
  cases atI p.vl <;> rfl
 have hat:atI p.vl=if (getI p.vl).2.2≠0∨(getI p.vl).1>67108864 then none else
  if (getI (p.vl.drop (getI p.vl).2.1.toNat)).2.2≠0∨(getI p.vl).2.1+(getI (p.vl.drop (getI p.vl).2.1.toNat)).2.1≠p.vl.length∨(getI (p.vl.drop (getI p.vl).2.1.toNat)).1>67108864 then none else
  some ((getI p.vl).1,(getI (p.vl.drop (getI p.vl).2.1.toNat)).1):=rfl
 have hvl:p.vl.length=p.val.size:=rfl
 have hv:=hpo.2
 have g1:=gGet_eq (b:=p.vl) (by omega)
 have g2:=gGet_eq (b:=p.vl.drop (getI p.vl).2.1.toNat) (by rw[List.length_drop]; omega)
 have f1:=getI_b p.vl
 have f2:=getI_b (p.vl.drop (getI p.vl).2.1.toNat)
 rw[List.length_drop] at f2
 have hc:=contF_len ok nm
 have bad:atI p.vl=none→Lax (.tup [.agg [nilS,nilS],vi 12]) (.tup [.agg [vl ((pgOf (contF D nm) F.idx i).1.map byteE.f),vl ((pgOf (contF D nm) F.idx i).2.1.map intE.f)],vi (pgOf (contF D nm) F.idx i).2.2]):=fun h=>by
  rw[hpg,h]
  exact lax_page
 unfold TPairs
 refine wp_elem p h0 hp (wp_sbyte ⟨rfl,rfl,?_⟩)
 rw[show p.val.data.toList=p.vl from rfl]
 have hpv:p.vl.length≤100000000:=by omega
 clear hvl
 generalize p.vl=v at *
 refine wp_call g1 (wp_sp (fun h=>?_) (fun h=>wp_sp (fun g=>?_) (fun g=>wp_cut ?_ (wp_call g2 (wp_sp (fun k=>?_) (fun k=>wp_i64 ?_ (wp_len (wp_sp (fun m=>?_) (fun m=>wp_sp (fun q=>?_) (fun q=>?_))))))))))
 ·rw[if_pos (.inl (by simpa using h))] at hat
  exact wp_leaf rfl ⟨bad hat,rfl⟩
 ·rw[if_pos (.inr (of_decide_eq_true g))] at hat
  exact wp_leaf rfl ⟨bad hat,rfl⟩
 ·simp only[cutOk]; exact ⟨f1.2.1,f1.2.2⟩
 ·have h:=(bne_eq_false_iff_eq).1 h
  have g:=of_decide_eq_false g
  rw[if_neg (by rintro (e | e); exact e h; exact g e),if_pos (.inl (by simpa [cut_drop] using k))] at hat
  exact wp_leaf rfl ⟨bad hat,rfl⟩
 ·simp only[cut_drop]; omega
 ·have h:=(bne_eq_false_iff_eq).1 h
  have g:=of_decide_eq_false g
  rw[if_neg (by rintro (e | e); exact e h; exact g e),if_pos (.inr (.inl (by simpa [cut_drop] using m)))] at hat
  exact wp_leaf rfl ⟨bad hat,rfl⟩
 ·have h:=(bne_eq_false_iff_eq).1 h
  have g:=of_decide_eq_false g
  rw[if_neg (by rintro (e | e); exact e h; exact g e),if_pos (.inr (.inr (of_decide_eq_true q)))] at hat
  exact wp_leaf rfl ⟨bad hat,rfl⟩
 ·have h:=(bne_eq_false_iff_eq).1 h
  have g:=of_decide_eq_false g
  have k:=(bne_eq_false_iff_eq).1 k
  have m:=(bne_eq_false_iff_eq).1 m
  have q:=of_decide_eq_false q
  simp only[cut_drop] at k m q ⊢
  rw[if_neg (by rintro (e | e); exact e h; exact g e),if_neg (by
   rintro (e | e | e)
   ·exact e k
   ·exact e m
   ·exact q e)] at hat
  rw[hat] at hpg
  simp only at hpg
  have hl:=getF_len (contF D nm) (getI v).1 (getI (v.drop (getI v).2.1.toNat)).1
  refine wp_i64 (d:=0) (by omega) ?_
  refine wp_i64 (by omega) ?_
  refine wp_callr (oGetF ok hd rfl) ?_
  refine wp_sp (fun s=>?_) (fun s=>?_)
  ·rw[if_pos (by simpa using s)] at hpg
   rw[hpg]
   rcases getF_e (contF D nm) (getI v).1 (getI (v.drop (getI v).2.1.toNat)).1 with e | e
   ·exact absurd e (by simpa using s)
   ·rw[e]
    exact wp_leaf rfl ⟨lax_page,rfl⟩
  ·rw[if_neg (by simpa using s)] at hpg
   rw[hpg]
   exact wp_call (gParP_eq (by omega)) (wp_call (gBadF_eq _) (wp_leaf rfl ⟨.refl _,rfl⟩)))
theorem oPairs {B:List Box} {b l:Nat} {D:Dsk} {nm:ByteArray} {F:FileR} {i:Int} {p:Par} (ok:D.Ok) (hd:D.down=false) (h0:0≤i) (hp:F.idx[i.toNat]? = some p) (hpo:ParOk p) (hb:B[b]? = some (dskB D)) (hl:B[l]? = some (filC b nm F)):
  liftR OPairs [.ptr l 0 0,vi i] B (.tup [.agg [vl ((pgOf (contF D nm) F.idx i).1.map byteE.f),vl ((pgOf (contF D nm) F.idx i).2.1.map intE.f)],vi (pgOf (contF D nm) F.idx i).2.2]) B:=
 lift_file (R:=OPairs) ⟨D,nm,F,i,p,ok,hd,h0,hp,hpo,rfl,rfl,rfl,rfl⟩ hb hl (fun _ _=>rfl) (fun _=>rfl) rfl
theorem ΓL4_ok:∀ f,SoundF DP f (ΓL4 f):=envP_cons SAllP (envP_cons SEnts envP_nil)
theorem ΔL4_ok:∀ f,SoundR DP f (ΔL4 f):=envR_cons (lift_sound SPairs) envR_nil
theorem readI_ok {b:List UInt8} {L:List Par} (h:readI b=(L,0)):(∀ p∈L,p.name.size≤b.length)∧L.length≤b.length:=by
 unfold readI at h
 cases hA:readA b.length b.length b [] with
 | none=>rw[hA] at h; cases h
 | some M=>
  rw[hA] at h
  cases h
  obtain ⟨h1,h2⟩:=read_ok _ _ _ _ _ hA
  exact ⟨fun p hp=>by have:=(h1 p hp).1; simpa [Par.nl] using this,h2⟩
def OFPage:RSpec:=fun args B r B'=>∃ (D:Dsk) (nm:ByteArray) (F:FileR) (i:Int),D.Ok∧D.down=false∧FOk F∧args= [.ptr 1 0 0,vi i]∧B= [dskB D,filC 0 nm F] ∧
 r= .tup [vl ((pageI (contF D nm) F.idx i).1.map entE.f),vi (pageI (contF D nm) F.idx i).2]∧B'=B
theorem SFPage:SoundR DP iFPage OFPage:=sound_genW mixedD ΓL4_ok ΔL4_ok hfFPage heFPage hbFPage (by
 rintro args B r B' ⟨D,nm,F,i,ok,hd,hF,rfl,rfl,rfl,rfl⟩
 refine ⟨by rw[hnFPage]; rfl,_,TFPage_chk D nm F i,?_⟩
 have hc:=contF_len ok nm
 have hfi:=hF.idx
 unfold TFPage
 refine wp_sp (fun h=>?_) (fun h=>wp_len (wp_sp (fun g=>?_) (fun g=>?_)))
 ·have:pageI (contF D nm) F.idx i=([],1):=by unfold pageI; rw[if_pos (of_decide_eq_true h)]
  rw[this]
  exact wp_leaf rfl ⟨lax_nils,rfl⟩
 ·have h:=of_decide_eq_false h
  have g:=of_decide_eq_true g
  have:pageI (contF D nm) F.idx i=([],1):=by unfold pageI; rw[if_neg h,List.getElem?_eq_none (by omega)]
  rw[this]
  exact wp_leaf rfl ⟨lax_nils,rfl⟩
 ·have h:=of_decide_eq_false h
  have g:=of_decide_eq_false g
  obtain ⟨p,hp⟩:∃ p,F.idx[i.toNat]? = some p:=⟨_,List.getElem?_eq_getElem (by omega)⟩
  obtain ⟨q1,q2,q3⟩:=pgOf_pairs (c:=contF D nm) hp
  rw[page_of h hp]
  refine wp_callr (oPairs ok hd (by omega) hp (hF.par p (List.mem_of_getElem? hp)) rfl rfl) ?_
  rw[q1]
  refine wp_sp (fun k=>?_) (fun k=>?_)
  ·have k:(pairsI (contF D nm) p).2≠0:=by simpa using k
   rw[if_pos k]
   have:(pairsI (contF D nm) p).2=12:=(pairs_e (contF D nm) p).resolve_left k
   rw[this]
   exact wp_leaf rfl ⟨lax_nils,rfl⟩
  ·have k:(pairsI (contF D nm) p).2=0:=by simpa using k
   have hr:=q2 k
   obtain ⟨o1,o2⟩:=readI_ok hr
   rw[if_neg (fun e=>e k)]
   refine wp_call (gAllP_eq (by omega)) ?_
   rw[hr]
   refine wp_call (gEnts_eq (fun p hp=>by have:=o1 p hp; omega) (by simp only; omega)) (wp_sp (fun m=>wp_len (wp_sp (fun s=>?_) (fun s=>?_))) (fun m=>?_))
   ·have m:=beq_iff_eq.1 m
    have s':((entsX (pairsI (contF D nm) p).1).1.length:Int)=0:=beq_iff_eq.1 s
    rw[if_neg (fun e=>e m),if_pos (List.eq_nil_of_length_eq_zero (by omega))]
    exact wp_leaf rfl ⟨lax_nils,rfl⟩
   ·have m:=beq_iff_eq.1 m
    have s:=beq_eq_false_iff_ne.1 s
    rw[if_neg (fun e=>e m),if_neg (fun e=>by rw[e] at s; exact s rfl)]
    refine wp_leaf rfl ⟨?_,rfl⟩
    simp only[m]
    exact .refl _
   ·have m:=beq_eq_false_iff_ne.1 m
    rw[if_pos m]
    have:entsX (pairsI (contF D nm) p).1=([],12):=by
     unfold entsX at m ⊢
     cases he:entsI (pairsI (contF D nm) p).1 with
     | none=>rfl
     | some E=>rw[he] at m; exact absurd rfl m
    rw[this]
    exact wp_leaf rfl ⟨.refl _,rfl⟩)
theorem oFPage {B:List Box} {b l:Nat} {D:Dsk} {nm:ByteArray} {F:FileR} {i:Int} (ok:D.Ok) (hd:D.down=false) (hF:FOk F) (hb:B[b]? = some (dskB D)) (hl:B[l]? = some (filC b nm F)):
  liftR OFPage [.ptr l 0 0,vi i] B (.tup [vl ((pageI (contF D nm) F.idx i).1.map entE.f),vi (pageI (contF D nm) F.idx i).2]) B:=
 lift_file (R:=OFPage) ⟨D,nm,F,i,ok,hd,hF,rfl,rfl,rfl,rfl⟩ hb hl (fun _ _=>rfl) (fun _=>rfl) rfl
end Go.Ax
