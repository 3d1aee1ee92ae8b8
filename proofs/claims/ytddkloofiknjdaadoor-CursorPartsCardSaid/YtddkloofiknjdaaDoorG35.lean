/- Seek of one through a list, or through a file: contracts. -/
import Derived.Test.YtddkloofiknjdaaDoorG34
set_option linter.unusedVariables false
set_option linter.unusedSimpArgs false
set_option linter.unusedSectionVars false
namespace Go.Ax
open Go.Proofs Go.RowKit
set_option maxRecDepth 100000

theorem SoundR.nilbox {P:Program} {f:Nat} {R:RSpec} (h:SoundR P f R):SoundR P f (nilK R):=h.or (by
 rintro args B r B' ⟨b,v,i,cs,hb,hi,hR⟩ F ρ w us hI hA
 obtain ⟨B2,hB2⟩:∃ B2,B2=B.set b (.cells false v (cs.set i (.p (.ls [])))):=⟨_,rfl⟩
 rw[←hB2] at hR
 have hget:∀ (b':Nat) (row:Bool) (v':Nat) (cs':List AV),B2[b']? = some (.cells row v' cs')→(b'=b∧row=false∧v'=v∧cs'=cs.set i (.p (.ls [])))∨(b'≠b∧B[b']? = some (.cells row v' cs')):=by
  intro b' row v' cs' hc
  rw[hB2,List.getElem?_set] at hc
  split at hc
  ·rename_i e
   split at hc
   ·cases hc; exact .inl ⟨e.symm,rfl,rfl,rfl⟩
   ·cases hc
  ·rename_i e
   exact .inr ⟨fun h=>e h.symm,hc⟩
 have hobj:∀ (b':Nat) (cs':List AV) (Φ:ObjP),B2[b']? = some (.obj cs' Φ)→B[b']? = some (.obj cs' Φ):=fun b' cs' Φ hc=>by
  rw[hB2] at hc
  exact obj_set (fun _ _ e=>by cases e) hc
 obtain ⟨hown,hE⟩:=retell_ext (F:=F) (B:=B) (B':=B2) (ρ:=ρ) (w:=w) (by rw[hB2]; simp) (fun b' row v' cs' hc=>by
  rcases hget b' row v' cs' hc with ⟨rfl,rfl,rfl,rfl⟩ | ⟨_,h2⟩
  ·exact ⟨cs,hb,by simp⟩
  ·exact ⟨cs',h2,rfl⟩) hobj
 have hI2:=retell (B':=B2) hI (fun b' row v' cs' hc=>by
  rcases hget b' row v' cs' hc with ⟨rfl,rfl,rfl,rfl⟩ | ⟨_,h2⟩
  ·refine ⟨cs,hb,by simp,?_,fun j c' hc'=>?_⟩
   ·have hl:=hI.leaf _ _ _ _ hb
    rw[List.all_eq_true] at hl ⊢
    intro c hc
    rcases List.mem_or_eq_of_mem_set hc with h | h
    ·exact hl c h
    ·rw[h]; rfl
   ·rw[List.getElem?_set] at hc'
    split at hc'
    ·rename_i e
     subst e
     split at hc'
     ·cases hc'
      refine ⟨nilS,hi,fun u hu=>?_⟩
      rw[hu.val]
      exact .p _ _ (.nil Option.none 0 (.inr rfl))
     ·cases hc'
    ·exact ⟨c',hc',fun u hu=>hu.ext hE⟩
  ·exact ⟨cs',h2,rfl,hI.leaf _ _ _ _ h2,fun j c' hc'=>⟨c',hc',fun u hu=>hu.ext hE⟩⟩) hobj hE
 refine (h args B2 r B' hR F ρ w us hI2 ⟨hA.1,fun j p u hp hu=>(hA.2 j p u hp hu).ext hE⟩).mono fun en w' hp=>?_
 obtain ⟨x,ρ2,rfl,hI3,hE3,hv⟩:=hp
 exact ⟨x,ρ2,rfl,hI3,hE.trans hE3,hv⟩)
theorem fillG_of {D:Dsk} {nm:ByteArray} {F:FileR} {L:List Ent} {pg:Int} (g:GoodL D true ⟨⟨L,pg,0⟩,nm,F⟩):fillC (pfC D nm F) ⟨L,pg,0⟩=(⟨(fillG (pfC D nm F) (L,pg)).1,(fillG (pfC D nm F) (L,pg)).2,0⟩,0):=by
 have h0:0≤pg∧pg≤100000000:=g.pg
 by_cases hc:L= []∧pg<(pfC D nm F).np
 ·obtain ⟨rfl,h⟩:=hc
  have hok:=g.ok pg h0.1 h
  have e1:fillG (pfC D nm F) ([],pg)=(((pfC D nm F).pf pg).1,pg+1):=if_pos ⟨rfl,h⟩
  rw[e1]
  unfold fillC
  have n1:¬((⟨[],pg,0⟩:Cur).bad≠0∨0<(⟨[],pg,0⟩:Cur).L.length∨(pfC D nm F).np≤(⟨[],pg,0⟩:Cur).pg):=fun e=>by
   rcases e with e | e | e
   ·exact e rfl
   ·simp at e
   ·have e:(pfC D nm F).np≤pg:=e
    omega
  rw[if_neg n1,if_neg (fun e=>e hok.1)]
 ·have e1:fillG (pfC D nm F) (L,pg)=(L,pg):=if_neg hc
  rw[e1]
  unfold fillC
  rw[if_pos]
  by_cases hL:L= []
  ·right; right
   have:¬pg<(pfC D nm F).np:=fun e=>hc ⟨hL,e⟩
   show (pfC D nm F).np≤pg
   omega
  ·right; left
   exact List.length_pos_iff.2 hL
theorem SFillG:SoundR DP iFill OFillG:=SFill.mono (by
 rintro args B r B' (⟨L,pg,rfl,rfl,rfl,rfl⟩ | ⟨D,nm,F,L,pg,g,rfl,rfl,rfl,rfl⟩)
 ·exact .inl ⟨⟨L,pg,0⟩,rfl,rfl,rfl,rfl⟩
 ·refine .inr ⟨D,nm,F,⟨L,pg,0⟩,g.rd rfl,g.pg,rfl,rfl,?_,?_⟩ <;> rw[fillG_of g])
theorem ΓC4_ok:∀ f,SoundF DP f (ΓC4 f):=envP_cons SCmpE envP_nil
theorem ΔC4_ok:∀ f,SoundR DP f (ΔC4 f):=envR_cons (lift_sound SFillG).nilbox (envR_cons (lift_sound SFFind2) envR_nil)
section
variable {B : List Box} {D : Dsk} {nm : ByteArray} {F : FileR} {L : List Ent} {pg : Int} {d f l : Nat}
theorem oFillG (g:GoodL D true ⟨⟨L,pg,0⟩,nm,F⟩) (hd:B[d]? = some (dskB D)) (hf:B[f]? = some (filC d nm F)) (hl:B[l]? = some (curB 2 (.ptr f 0 0) ⟨L,pg,0⟩)):
  liftR OFillG [.ptr l 0 0] B (vi 0) (B.set l (curB 2 (.ptr f 0 0) ⟨(fillG (pfC D nm F) (L,pg)).1,(fillG (pfC D nm F) (L,pg)).2,0⟩)):=
 lift_fcB (R:=OFillG) (.inr ⟨D,nm,F,L,pg,g,rfl,rfl,rfl,rfl⟩) hd hf hl (fun _ _=>rfl) (fun _=>rfl) rfl
theorem oFillGL (hl:B[l]? = some (curB 1 nilQ ⟨L,pg,0⟩)):liftR OFillG [.ptr l 0 0] B (vi 0) (B.set l (curB 1 nilQ ⟨L,pg,0⟩)):=
 lift_lcB (R:=OFillG) (.inl ⟨L,pg,rfl,rfl,rfl,rfl⟩) hl (fun _ _=>rfl) (fun _=>rfl) rfl
end
def dropG (p:Pgs) (x:Ent):Nat→List Ent×Int→List Ent×Int
 | 0,s=>s
 | n+1,s=>match s.1 with
  | []=>s
  | y::t=>if cmpE y x<0 then dropG p x n (fillG p (t,s.2)) else s
def dropW (x:Ent) (L:List Ent):List Ent:=L.dropWhile fun y=>decide (cmpE y x<0)
theorem seekL_rounds (pg:Int) (x:Ent):∀ L:List Ent,Rounds (TSeekL_l1_e pg x) (TSeekL_l1_x pg) noX (fun s=>(TSeekL_l1_b pg x s).wp) L (.inl (dropW x L)):=by
 intro L
 induction L with
 | nil=>
  refine .done (by intro e; cases e) ?_
  unfold TSeekL_l1_b
  exact wp_any (wp_len (wp_sp (fun q=>absurd (of_decide_eq_true q) (by simp)) (fun _=>wp_leaf rfl ⟨rfl,rfl⟩)))
 | cons y L ih=>
  by_cases hc:cmpE y x<0
  ·have e:dropW x (y::L)=dropW x L:=List.dropWhile_cons_of_pos (decide_eq_true hc)
   rw[e]
   refine .next ?_ ih
   unfold TSeekL_l1_b
   exact wp_any (wp_len (wp_sp (fun _=>wp_elem0 y (by decide) rfl (wp_call (gCmpE_eq _ _) (wp_sp (fun _=>wp_cut (show 0≤(1:Int)∧(1:Int)≤((y::L).length:Int) by rw[List.length_cons]; omega) (wp_callr (.inl (oFillGL (l:=0) rfl)) (wp_leaf rfl ⟨rfl,rfl⟩))) (fun q=>absurd hc (of_decide_eq_false q))))) (fun q=>absurd (of_decide_eq_false q) (by simp))))
  ·have e:dropW x (y::L)=y::L:=List.dropWhile_cons_of_neg (by simpa using hc)
   rw[e]
   refine .done (by intro e; cases e) ?_
   unfold TSeekL_l1_b
   exact wp_any (wp_len (wp_sp (fun _=>wp_elem0 y (by decide) rfl (wp_call (gCmpE_eq _ _) (wp_sp (fun q=>absurd (of_decide_eq_true q) hc) (fun _=>wp_leaf rfl ⟨rfl,rfl⟩)))) (fun _=>wp_leaf rfl ⟨rfl,rfl⟩)))
end Go.Ax

namespace Go.Ax
open Go.Proofs Go.RowKit
set_option maxRecDepth 100000

section
variable {D : Dsk} {nm : ByteArray} {F : FileR} {L : List Ent} {pg : Int} {x : Ent}
abbrev leafG (nm:ByteArray) (F:FileR) (s:List Ent×Int):LeafD:=⟨⟨s.1,s.2,0⟩,nm,F⟩
theorem fillG_c (g:GoodL D true (leafG nm F (L,pg))):(leafG nm F (fillG (pfC D nm F) (L,pg))).c=(fillC (pgsC D true (leafG nm F (L,pg))) ⟨L,pg,0⟩).1:=by
 rw[show pgsC D true (leafG nm F (L,pg))=pfC D nm F from rfl,fillG_of g]
theorem goodG_fill (g:GoodL D true (leafG nm F (L,pg))):GoodL D true (leafG nm F (fillG (pfC D nm F) (L,pg))):=by
 have:=g.fill
 rw[←fillG_c g] at this
 exact this
abbrev restG (D:Dsk) (nm:ByteArray) (F:FileR) (s:List Ent×Int):List Ent:=restC (pfC D nm F) ⟨s.1,s.2,0⟩
theorem restG_fill (g:GoodL D true (leafG nm F (L,pg))):restG D nm F (fillG (pfC D nm F) (L,pg))=restG D nm F (L,pg)∧((fillG (pfC D nm F) (L,pg)).1= []→restG D nm F (L,pg)= []):=by
 obtain ⟨h1,_,h3⟩:=rest_fill g
 rw[←fillG_c g] at h1 h3
 exact ⟨h1,h3⟩
theorem restG_cons (y:Ent) (t:List Ent) (pg:Int):restG D nm F (y::t,pg)=y::restG D nm F (t,pg):=rfl
theorem goodG_tail (y:Ent) (t:List Ent) (pg:Int) (g:GoodL D true (leafG nm F (y::t,pg))):GoodL D true (leafG nm F (t,pg)):=good_tail g t
theorem seekF_rounds (x:Ent):∀ (n:Nat) (s:List Ent×Int),GoodL D true (leafG nm F s)→(s.1= []→restG D nm F s= [])→(restG D nm F s).length≤n →
  Rounds (TSeekF_l2_e D nm F x) (TSeekF_l2_x D nm F) noX (fun s=>(TSeekF_l2_b D nm F x s).wp) s (.inl (dropG (pfC D nm F) x n s)):=by
 have stop:∀ (pg:Int),Rounds (TSeekF_l2_e D nm F x) (TSeekF_l2_x D nm F) noX (fun s=>(TSeekF_l2_b D nm F x s).wp) ([],pg) (.inl ([],pg)):=fun pg=>by
  refine .done (by intro e; cases e) ?_
  have hj:(TSeekF_j3 D nm F x ([],pg) false).wp (fun e c=>e=(TSeekF_l2_x D nm F ([],pg)).1∧c=(TSeekF_l2_x D nm F ([],pg)).2):=by
   unfold TSeekF_j3
   exact wp_br (fun q=>by cases q) (fun _=>wp_leaf rfl ⟨rfl,rfl⟩)
  unfold TSeekF_l2_b
  exact wp_any (wp_len (wp_sp (fun q=>absurd (of_decide_eq_true q) (by simp)) (fun _=>wp_join rfl hj)))
 intro n
 induction n with
 | zero=>
  intro s g hf hn
  have h0:restG D nm F s= []:=List.length_eq_zero_iff.1 (by omega)
  obtain ⟨L,pg⟩:=s
  cases L with
  | nil=>exact stop pg
  | cons y t=>cases h0
 | succ n ih=>
  intro s g hf hn
  obtain ⟨L,pg⟩:=s
  cases L with
  | nil=>exact stop pg
  | cons y t=>
   have e:dropG (pfC D nm F) x (n+1) (y::t,pg)=if cmpE y x<0 then dropG (pfC D nm F) x n (fillG (pfC D nm F) (t,pg)) else (y::t,pg):=rfl
   have g':=goodG_tail y t pg g
   rw[e]
   by_cases hc:cmpE y x<0
   ·rw[if_pos hc]
    obtain ⟨r1,r2⟩:=restG_fill g'
    rw[restG_cons] at hn
    refine .next ?_ (ih (fillG (pfC D nm F) (t,pg)) (goodG_fill g') (fun h=>by rw[r1]; exact r2 h) (by rw[r1]; simp only[List.length_cons] at hn; omega))
    have hj:(TSeekF_j3 D nm F x (y::t,pg) true).wp (fun e c=>e=AE.normal∧c=TSeekF_l2_e D nm F x (fillG (pfC D nm F) (t,pg))):=by
     unfold TSeekF_j3
     exact wp_br (fun _=>wp_cut (show 0≤(1:Int)∧(1:Int)≤((y::t).length:Int) by rw[List.length_cons]; omega) (wp_callr (.inl (oFillG (L:=t) (d:=0) (f:=1) (l:=2) g' rfl rfl rfl)) (wp_leaf rfl ⟨rfl,rfl⟩))) (fun q=>by cases q)
    unfold TSeekF_l2_b
    exact wp_any (wp_len (wp_sp (fun _=>wp_elem0 y (by decide) rfl (wp_call (gCmpE_eq _ _) (wp_sp (fun _=>wp_join rfl hj) (fun q=>absurd hc (of_decide_eq_false q))))) (fun q=>absurd (of_decide_eq_false q) (by simp only[List.length_cons]; omega))))
   ·rw[if_neg hc]
    refine .done (by intro e; cases e) ?_
    have hj:(TSeekF_j3 D nm F x (y::t,pg) false).wp (fun e c=>e=(TSeekF_l2_x D nm F (y::t,pg)).1∧c=(TSeekF_l2_x D nm F (y::t,pg)).2):=by
     unfold TSeekF_j3
     exact wp_br (fun q=>by cases q) (fun _=>wp_leaf rfl ⟨rfl,rfl⟩)
    unfold TSeekF_l2_b
    exact wp_any (wp_len (wp_sp (fun _=>wp_elem0 y (by decide) rfl (wp_call (gCmpE_eq _ _) (wp_sp (fun q=>absurd (of_decide_eq_true q) hc) (fun _=>wp_join rfl hj)))) (fun _=>wp_join rfl hj)))
end
def skipG (F:FileR) (x:Ent) (s:List Ent×Int):List Ent×Int:=
 if s.1= []∨cmpE (lastE s.1) x<0 then ([],if s.2<((findI F.idx x:Nat):Int) then ((findI F.idx x:Nat):Int) else s.2) else s
def seekG (D:Dsk) (nm:ByteArray) (F:FileR) (x:Ent) (s:List Ent×Int):List Ent×Int:=
 let s3:=fillG (pfC D nm F) (skipG F x s)
 dropG (pfC D nm F) x (restG D nm F s3).length s3
def OSeek:RSpec:=fun args B r B'=>(∃ (L:List Ent) (pg:Int) (x:Ent),args= [.ptr 0 0 0,entE.av x]∧B=lcB ⟨L,pg,0⟩∧r=vi 0∧B'=lcB ⟨dropW x L,pg,0⟩) ∨
 ∃ (D:Dsk) (nm:ByteArray) (F:FileR) (L:List Ent) (pg:Int) (x:Ent),GoodL D true ⟨⟨L,pg,0⟩,nm,F⟩∧L.length≤1000000000∧findI F.idx x≤F.idx.length∧InOk x∧args= [.ptr 2 0 0,entE.av x]∧B=fcB D nm F ⟨L,pg,0⟩∧r=vi 0 ∧
  B'=fcB D nm F ⟨(seekG D nm F x (L,pg)).1,(seekG D nm F x (L,pg)).2,0⟩
theorem SSeekL:SoundR DP iSeek (fun args B r B'=>∃ (L:List Ent) (pg:Int) (x:Ent),args= [.ptr 0 0 0,entE.av x]∧B=lcB ⟨L,pg,0⟩∧r=vi 0∧B'=lcB ⟨dropW x L,pg,0⟩):=sound_genT mixedD ΓC4_ok ΔC4_ok hfSeek heSeek hbSeek (by
 rintro args B r B' ⟨L,pg,x,rfl,rfl,rfl,rfl⟩
 refine ⟨by rw[hnSeek]; rfl,_,TSeekL_chk L pg x,?_⟩
 unfold TSeekL
 exact wp_loop _ rfl (seekL_rounds pg x L) (wp_leaf rfl ⟨rfl,rfl⟩))
theorem SSeekF:SoundR DP iSeek (fun args B r B'=>∃ (D:Dsk) (nm:ByteArray) (F:FileR) (L:List Ent) (pg:Int) (x:Ent),GoodL D true ⟨⟨L,pg,0⟩,nm,F⟩∧L.length≤1000000000∧findI F.idx x≤F.idx.length∧InOk x∧args= [.ptr 2 0 0,entE.av x]∧B=fcB D nm F ⟨L,pg,0⟩∧r=vi 0 ∧
  B'=fcB D nm F ⟨(seekG D nm F x (L,pg)).1,(seekG D nm F x (L,pg)).2,0⟩):=sound_genT mixedD ΓC4_ok ΔC4_ok hfSeek heSeek hbSeek (by
 rintro args B r B' ⟨D,nm,F,L,pg,x,g,hL,hfn,hx,rfl,rfl,rfl,rfl⟩
 refine ⟨by rw[hnSeek]; rfl,_,TSeekF_chk D nm F L pg x,?_⟩
 have hfew:F.idx.length≤100000000:=(g.rd rfl).few
 have hpg:0≤pg∧pg≤100000000:=g.pg
 obtain ⟨R,hR⟩:∃ R,R=seekG D nm F x (L,pg):=⟨_,rfl⟩
 rw[←hR]
 obtain ⟨q,hq⟩:∃ q:Int,q=if pg<((findI F.idx x:Nat):Int) then ((findI F.idx x:Nat):Int) else pg:=⟨_,rfl⟩
 have hq0:0≤q∧q≤100000000:=by rw[hq]; split <;> omega
 have gq:∀ M,GoodL D true (leafG nm F (M,q)):=fun M=>⟨rfl,hq0,g.np,g.rd,g.ok⟩
 -- from the loop on
 have hloop:∀ s0:List Ent×Int,GoodL D true (leafG nm F s0)→R=(let s3:=fillG (pfC D nm F) s0; dropG (pfC D nm F) x (restG D nm F s3).length s3) →
   (TSeekF_j1 D nm F x ((fillG (pfC D nm F) s0).1,(fillG (pfC D nm F) s0).2)).wp (fun _ c=>tk c.1 0=vi 0∧c.2=fcB D nm F ⟨R.1,R.2,0⟩):=fun s0 g0 e=>by
  obtain ⟨r1,r2⟩:=restG_fill (L:=s0.1) (pg:=s0.2) g0
  have hr:=seekF_rounds (D:=D) (nm:=nm) (F:=F) x (restG D nm F (fillG (pfC D nm F) s0)).length (fillG (pfC D nm F) s0) (goodG_fill g0) (fun h=>by rw[show restG D nm F (fillG (pfC D nm F) s0)=restG D nm F s0 from r1]; exact r2 h) (Nat.le_refl _)
  unfold TSeekF_j1
  rw[e]
  exact wp_loop _ rfl hr (wp_leaf rfl ⟨rfl,rfl⟩)
 have hf0:∀ (B:List Box),B[0]? = some (dskB D)→B[1]? = some (filC 0 nm F)→liftR OFFind2 [.ptr 1 0 0,entE.av x] B (vi ((findI F.idx x:Nat):Int)) B:=fun B h0 h1=>oFFind2 hfew hx h0 h1
 have hj5t:(L= []∨cmpE (lastE L) x<0)→L≠ []→(TSeekF_j5 D nm F L pg x true).wp (fun _ c=>tk c.1 0=vi 0∧c.2=fcB D nm F ⟨R.1,R.2,0⟩):=fun hc _=>by
  have e:R=(let s3:=fillG (pfC D nm F) ([],q); dropG (pfC D nm F) x (restG D nm F s3).length s3):=by
   rw[hR]; unfold seekG skipG; rw[if_pos hc,←hq]
  have hj6:(TSeekF_j6 D nm F pg x ()).wp (fun _ c=>tk c.1 0=vi 0∧c.2=fcB D nm F ⟨R.1,R.2,0⟩):=by
   unfold TSeekF_j6
   rw[←hq]
   exact wp_callr (.inr ⟨2,0,1,_,rfl,rfl,oFillG (L:= []) (d:=0) (f:=1) (l:=2) (gq []) rfl rfl rfl⟩) (wp_join rfl (hloop ([],q) (gq []) e))
  unfold TSeekF_j5
  refine wp_br (fun _=>wp_any ?_) (fun q=>by cases q)
  exact wp_fork (wp_callr (hf0 _ rfl rfl) (wp_join rfl hj6)) (wp_callr (hf0 _ rfl rfl) (wp_join rfl hj6))
 have hj7:∀ j,GoodL D true (leafG nm F (L,j))→R=(let s3:=fillG (pfC D nm F) (L,j); dropG (pfC D nm F) x (restG D nm F s3).length s3)→(TSeekF_j7 D nm F L x j).wp (fun _ c=>tk c.1 0=vi 0∧c.2=fcB D nm F ⟨R.1,R.2,0⟩):=fun j gj e=>by
  unfold TSeekF_j7
  exact wp_callr (.inl (oFillG (L:=L) (d:=0) (f:=1) (l:=2) gj rfl rfl rfl)) (wp_join rfl (hloop (L,j) gj e))
 have hj5f:(L= []∨¬cmpE (lastE L) x<0)→(TSeekF_j5 D nm F L pg x false).wp (fun _ c=>tk c.1 0=vi 0∧c.2=fcB D nm F ⟨R.1,R.2,0⟩):=fun hc=>by
  unfold TSeekF_j5
  refine wp_br (fun q=>by cases q) (fun _=>wp_len (wp_sp (fun q0=>?_) (fun q0=>?_)))
  ·have hL0:L= []:=List.length_eq_zero_iff.1 (by have:=(beq_iff_eq).1 q0; omega)
   have e:R=(let s3:=fillG (pfC D nm F) (L,q); dropG (pfC D nm F) x (restG D nm F s3).length s3):=by
    rw[hR]; unfold seekG skipG; rw[if_pos (.inl hL0),←hq,hL0]
   have h7:=hj7 q (gq L) e
   rw[←hq]
   exact wp_any (wp_fork (wp_callr (hf0 _ rfl rfl) (wp_join rfl h7)) (wp_callr (hf0 _ rfl rfl) (wp_join rfl h7)))
  ·have hL0:L≠ []:=fun e=>by rw[e] at q0; simp at q0
   have e:R=(let s3:=fillG (pfC D nm F) (L,pg); dropG (pfC D nm F) x (restG D nm F s3).length s3):=by
    rw[hR]; unfold seekG skipG; rw[if_neg (fun h=>h.elim hL0 (fun h=>hc.elim hL0 (fun h'=>h' h)))]
   exact wp_join rfl (hj7 pg g e)
 unfold TSeekF
 refine wp_len (wp_any (wp_sp (fun q0=>?_) (fun q0=>wp_join rfl (hj5f (.inl (List.length_eq_zero_iff.1 (by have:=of_decide_eq_false q0; omega)))))))
 have hL0:L≠ []:=fun e=>by rw[e] at q0; simp at q0
 have hlp:=List.length_pos_iff.2 hL0
 have hla:L[((L.length:Int) - 1).toNat]? = some (lastE L):=by
  have e:((L.length:Int) - 1).toNat=L.length - 1:=by omega
  rw[e,←List.getLast?_eq_getElem?,List.getLast?_eq_some_getLast hL0]
  unfold lastE
  rw[List.getLastD_eq_getLast?,List.getLast?_eq_some_getLast hL0]
  rfl
 refine wp_i64 (by omega) (wp_elem0 (lastE L) (by omega) hla (wp_call (gCmpE_eq _ _) (wp_sp (fun q1=>wp_join rfl (hj5t (.inr (of_decide_eq_true q1)) hL0)) (fun q1=>wp_join rfl (hj5f (.inr (of_decide_eq_false q1)))))))
 )
theorem SSeek:SoundR DP iSeek OSeek:=SSeekL.or SSeekF
end Go.Ax

namespace Go.Ax
open Go.Proofs Go.RowKit
set_option maxRecDepth 100000

def wdT (sl:List Nat) (m:Nat) (tl:List (Nat×Nat×Option (List PV))):Wd:=⟨sl,((List.range m).map fun j=>(j,0,none))++tl⟩
def SeekTo (D:Dsk) (k:Bool) (a b:LeafD) (x:Ent):Prop:=GoodL D k a∧a.c.L.length≤1000000000∧InOk x∧(k=true→findI a.F.idx x≤a.F.idx.length)∧b=a.put (if k then ⟨(seekG D a.nm a.F x (a.c.L,a.c.pg)).1,(seekG D a.nm a.F x (a.c.L,a.c.pg)).2,0⟩ else ⟨dropW x a.c.L,a.c.pg,0⟩)
def OSeekM:RSpec:=fun args B r B'=>∃ (D:Dsk) (ks:List Bool) (xs ys:List LeafD) (x:Ent),ks∈shapesM∧xs.length=ks.length∧ys.length=ks.length∧(∀ (i:Nat) (k:Bool) (a b:LeafD),ks[i]? = some k→xs[i]? = some a→ys[i]? = some b→SeekTo D k a b x)∧args= [.ptr 0 0 0,entE.av x]∧B=famC ks xs D∧r=vi 0∧B'=famC ks ys D
abbrev iLive:Nat:=20
noncomputable abbrev nLive:Func:=Tryd.f20
theorem hfLive:DP.funcs[iLive]? = some nLive:=by kernel_rfl
theorem heLive:enters DP iLive=true:=by kernel_rfl
theorem hbLive:nLive.body.isSome=true:=by kernel_rfl
theorem hnLive:nLive.ntmps=80:=by kernel_rfl
noncomputable def ΔC6:REnv:=envR [(iSeek,orR (liftR OSeek) (liftR OSeekM)),(iNextC,orR (liftR ONext) (liftR ONextM))]

noncomputable def TLive_j1_e {σ:Type} (TB:σ→List Box) (m:Nat) (top:σ) (from_:ByteArray) (to_:ByteArray) (seq:Int) (most:Int) (j1:Bool):St:=([(0, .ptr 0 0 0),(1,vs from_),(2,vs to_),(3,vn .u64 seq),(4,vi most),(24,vb j1)],(TB top))
noncomputable def TLive_l2_e {σ:Type} (TB:σ→List Box) (m:Nat) (to_:ByteArray) (seq:Int) (most:Int) (s2:σ×(List Ent)×ByteArray×Bool):St:=([(0, .ptr 0 0 0),(2,vs to_),(3,vn .u64 seq),(4,vi most),(13, .rs m 0 4 0 s2.2.1.length),(14,vs s2.2.2.1),(15,vb s2.2.2.2)],(TB s2.1++ [entE.bx 0 s2.2.1]))
noncomputable def TLive_l2_x {σ:Type} (TB:σ→List Box) (m:Nat) (x2:σ×(List Ent)):AE×St:=((.exit 0),([(13, .rs m 0 4 0 x2.2.length)],(TB x2.1++ [entE.bx 0 x2.2])))
noncomputable def TLive_j3_e {σ:Type} (TB:σ→List Box) (m:Nat) (to_:ByteArray) (seq:Int) (most:Int) (nK:σ→σ) (xK:σ→Ent) (s2:σ×(List Ent)×ByteArray×Bool) (j3:Bool):St:=([(0, .ptr 0 0 0),(2,vs to_),(3,vn .u64 seq),(4,vi most),(13, .rs m 0 4 0 s2.2.1.length),(14,vs s2.2.2.1),(15,vb s2.2.2.2),(16, .ptr (m+1) 0 0),(56,vb j3)],(TB (nK s2.1)++ [entE.bx 0 s2.2.1, .cells false 0 ([vs ((xK s2.1).key),vn .u64 ((xK s2.1).seq),vb ((xK s2.1).del),vs ((xK s2.1).val)])]))
noncomputable def TLive_j4_e {σ:Type} (TB:σ→List Box) (m:Nat) (to_:ByteArray) (seq:Int) (most:Int) (nK:σ→σ) (xK:σ→Ent) (s2:σ×(List Ent)×ByteArray×Bool) (j4:Bool):St:=([(0, .ptr 0 0 0),(2,vs to_),(3,vn .u64 seq),(4,vi most),(13, .rs m 0 4 0 s2.2.1.length),(14,vs s2.2.2.1),(15,vb s2.2.2.2),(16, .ptr (m+1) 0 0),(69,vb j4)],(TB (nK s2.1)++ [entE.bx 0 s2.2.1, .cells false 0 ([vs ((xK s2.1).key),vn .u64 ((xK s2.1).seq),vb ((xK s2.1).del),vs ((xK s2.1).val)])]))
noncomputable def TLive_j4 {σ:Type} (TB:σ→List Box) (m:Nat) (to_:ByteArray) (seq:Int) (most:Int) (nK:σ→σ) (xK:σ→Ent) (s2:σ×(List Ent)×ByteArray×Bool) (j4:Bool):Tree:=
.br j4 (
.leaf (wdT [0,2,3,4,13,14,15] m [(m,0,some (s2.2.1.map entE.f))]) [rowC (s2.2.1.map entE.f)] .normal (some (TLive_l2_e TB m to_ seq most ((nK s2.1),s2.2.1,s2.2.2.1,s2.2.2.2)))) (
.sp 73 ((xK s2.1).del) (
.leaf (wdT [0,2,3,4,13,14,15] m [(m,0,some (s2.2.1.map entE.f))]) [rowC (s2.2.1.map entE.f)] .normal (some (TLive_l2_e TB m to_ seq most ((nK s2.1),s2.2.1,(xK s2.1).key,true)))) (
.app 78 (.row 1 ([vs ((xK s2.1).key),vn .u64 ((xK s2.1).seq),vb ((xK s2.1).del),vs ((xK s2.1).val)])) s2.2.1.length (rowC (s2.2.1.map entE.f)) entE s2.2.1 ([(xK s2.1)]) (.leaf (wdT [0,2,3,4,13,14,15] m [(m,1,some ((s2.2.1++([(xK s2.1)])).map entE.f))]) [rowC ((s2.2.1++([(xK s2.1)])).map entE.f)] .normal (some (TLive_l2_e TB m to_ seq most ((nK s2.1),s2.2.1++([(xK s2.1)]),(xK s2.1).key,true))))))
noncomputable def TLive_j3 {σ:Type} (TB:σ→List Box) (m:Nat) (to_:ByteArray) (seq:Int) (most:Int) (nK:σ→σ) (xK:σ→Ent) (s2:σ×(List Ent)×ByteArray×Bool) (j3:Bool):Tree:=
.br j3 (
.leaf (wdT [13] m [(m,0,some (s2.2.1.map entE.f))]) [rowC (s2.2.1.map entE.f)] (.exit 0) (some (TLive_l2_x TB m ((nK s2.1),s2.2.1)).2)) (
.sp 60 (decide (((xK s2.1).seq)>seq)) (
.join (wdT [0,2,3,4,13,14,15,16,69] m [(m,0,some (s2.2.1.map entE.f)),(m+1,0,none)]) [rowC (s2.2.1.map entE.f)] (some (TLive_j4_e TB m to_ seq most nK xK s2 true)) (TLive_j4_e TB m to_ seq most nK xK s2) true (TLive_j4 TB m to_ seq most nK xK s2)) (
.sp 62 s2.2.2.2 (
.sp 67 (((xK s2.1).key).toList == s2.2.2.1.toList) (
.join (wdT [0,2,3,4,13,14,15,16,69] m [(m,0,some (s2.2.1.map entE.f)),(m+1,0,none)]) [rowC (s2.2.1.map entE.f)] (some (TLive_j4_e TB m to_ seq most nK xK s2 true)) (TLive_j4_e TB m to_ seq most nK xK s2) true (TLive_j4 TB m to_ seq most nK xK s2)) (
.join (wdT [0,2,3,4,13,14,15,16,69] m [(m,0,some (s2.2.1.map entE.f)),(m+1,0,none)]) [rowC (s2.2.1.map entE.f)] (some (TLive_j4_e TB m to_ seq most nK xK s2 false)) (TLive_j4_e TB m to_ seq most nK xK s2) false (TLive_j4 TB m to_ seq most nK xK s2))) (
.join (wdT [0,2,3,4,13,14,15,16,69] m [(m,0,some (s2.2.1.map entE.f)),(m+1,0,none)]) [rowC (s2.2.1.map entE.f)] (some (TLive_j4_e TB m to_ seq most nK xK s2 false)) (TLive_j4_e TB m to_ seq most nK xK s2) false (TLive_j4 TB m to_ seq most nK xK s2))))
noncomputable def TLive_l2_b {σ:Type} (TB:σ→List Box) (m:Nat) (to_:ByteArray) (seq:Int) (most:Int) (nK:σ→σ) (xK:σ→Ent) (oK:σ→Bool) (s2:σ×(List Ent)×ByteArray×Bool):Tree:=
.sp 35 (decide (((s2.2.1.length:Nat):Int)<most)) (
.callr (some 38) (ΔC6 13 [.ptr 0 0 0] (TB s2.1++ [entE.bx 0 s2.2.1]) (.tup [(entE.av (xK s2.1)),vb (oK s2.1),vi 0]) (TB (nK s2.1)++ [entE.bx 0 s2.2.1])) (.tup [(entE.av (xK s2.1)),vb (oK s2.1),vi 0]) (TB (nK s2.1)++ [entE.bx 0 s2.2.1]) (.sp 40 (oK s2.1) (
.sp 49 (!(to_.toList == (⟨#[]⟩:ByteArray).toList)) (
.sp 54 (!(Op.bytesLess ((xK s2.1).key).toList to_.toList)) (
.join (wdT [0,2,3,4,13,14,15,16,56] m [(m,0,some (s2.2.1.map entE.f)),(m+1,0,none)]) [rowC (s2.2.1.map entE.f)] (some (TLive_j3_e TB m to_ seq most nK xK s2 true)) (TLive_j3_e TB m to_ seq most nK xK s2) true (TLive_j3 TB m to_ seq most nK xK s2)) (
.join (wdT [0,2,3,4,13,14,15,16,56] m [(m,0,some (s2.2.1.map entE.f)),(m+1,0,none)]) [rowC (s2.2.1.map entE.f)] (some (TLive_j3_e TB m to_ seq most nK xK s2 false)) (TLive_j3_e TB m to_ seq most nK xK s2) false (TLive_j3 TB m to_ seq most nK xK s2))) (
.join (wdT [0,2,3,4,13,14,15,16,56] m [(m,0,some (s2.2.1.map entE.f)),(m+1,0,none)]) [rowC (s2.2.1.map entE.f)] (some (TLive_j3_e TB m to_ seq most nK xK s2 false)) (TLive_j3_e TB m to_ seq most nK xK s2) false (TLive_j3 TB m to_ seq most nK xK s2))) (
.leaf (wdT [13] m [(m,0,some (s2.2.1.map entE.f))]) [rowC (s2.2.1.map entE.f)] (.exit 0) (some (TLive_l2_x TB m ((nK s2.1),s2.2.1)).2)))) (
.leaf (wdT [13] m [(m,0,some (s2.2.1.map entE.f))]) [rowC (s2.2.1.map entE.f)] (.exit 0) (some (TLive_l2_x TB m (s2.1,s2.2.1)).2))
noncomputable def TLive_j1 {σ:Type} (TB:σ→List Box) (m:Nat) (top:σ) (from_:ByteArray) (to_:ByteArray) (seq:Int) (most:Int) (sK:σ→σ) (nK:σ→σ) (xK:σ→Ent) (oK:σ→Bool) (j1:Bool):Tree:=
.br j1 (
.leaf (wdT [0] m []) [] .ret (some ([(0, .tup [nilS,vi 1])],(TB top)))) (
.callr (some 28) (ΔC6 18 [.ptr 0 0 0, .agg [vs from_,vn .u64 72057594037927935,vb false,vs (⟨#[]⟩)]] (TB top) (vi 0) (TB (sK top))) (vi 0) (TB (sK top)) (.nilrow 13 4 (.loop (wdT [0,2,3,4,13,14,15] m [(m,0,some (([]:List Ent).map entE.f))]) [rowC (([]:List Ent).map entE.f)] (some (TLive_l2_e TB m to_ seq most ((sK top),([]:List Ent),⟨#[]⟩,false))) (TLive_l2_e TB m to_ seq most) (TLive_l2_x TB m) noX ((sK top),([]:List Ent),⟨#[]⟩,false) (TLive_l2_b TB m to_ seq most nK xK oK) (fun (x2:σ×(List Ent))=> .leaf (wdT [0] m [(m,0,some (x2.2.map entE.f))]) [rowC (x2.2.map entE.f)] .ret (some ([(0, .tup [.rs m 0 4 0 x2.2.length,vi 0])],(TB x2.1++ [entE.bx 0 x2.2])))) (fun _=> .stuck))))
noncomputable def TLive {σ:Type} (TB:σ→List Box) (m:Nat) (top:σ) (from_:ByteArray) (to_:ByteArray) (seq:Int) (most:Int) (sK:σ→σ) (nK:σ→σ) (xK:σ→Ent) (oK:σ→Bool):Tree:=
.sp 23 (decide (seq>(72057594037927935:Int))) (
.join (wdT [0,1,2,3,4,24] m []) [] (some (TLive_j1_e TB m top from_ to_ seq most true)) (TLive_j1_e TB m top from_ to_ seq most) true (TLive_j1 TB m top from_ to_ seq most sK nK xK oK)) (
.join (wdT [0,1,2,3,4,24] m []) [] (some (TLive_j1_e TB m top from_ to_ seq most false)) (TLive_j1_e TB m top from_ to_ seq most) false (TLive_j1 TB m top from_ to_ seq most sK nK xK oK))

def RLive {σ:Type} (TB:σ→List Box) (m:Nat):Prop:=∀ (top:σ) (from_ to_:ByteArray) (seq most:Int) (sK nK:σ→σ) (xK:σ→Ent) (oK:σ→Bool),
 fnC DP Γ0 ΔC6 nLive [.ptr 0 0 0,vs from_,vs to_,vn .u64 seq,vi most] (TB top) (TLive TB m top from_ to_ seq most sK nK xK oK)=TLive TB m top from_ to_ seq most sK nK xK oK
theorem live_l:RLive (σ:=List Ent) (fun L=>lcB ⟨L,0,0⟩) 1:=by intro top from_ to_ seq most sK nK xK oK; kernel_rfl
end Go.Ax

namespace Go.Ax
open Go.Proofs Go.RowKit
set_option maxRecDepth 100000

structure TopR {σ:Type} (TB:σ→List Box) (m:Nat) (good:σ→Prop) (rest:σ→List Ent) (nx:σ→σ) (sk:Ent→σ→σ):Prop where
 next:∀ s,good s→∀ T,ΔC6 iNextC [.ptr 0 0 0] (TB s++T) (.tup [entE.av (headE (rest s)).1,vb (headE (rest s)).2.1,vi 0]) (TB (nx s)++T)
 nextR:∀ s,good s→good (nx s)∧rest (nx s)=(rest s).drop 1
 seek:∀ s e,good s→InOk e→∀ T,ΔC6 iSeek [.ptr 0 0 0,entE.av e] (TB s++T) (vi 0) (TB (sk e s)++T)
 seekR:∀ s e,good s→InOk e→good (sk e s)∧rest (sk e s)=dropW e (rest s)
 few:∀ s,good s→(rest s).length≤100000000
def stopL (to_:ByteArray) (x:Ent):Bool:=(!(to_.toList == (⟨#[]⟩:ByteArray).toList))&& !(Op.bytesLess x.key.toList to_.toList)
def skipL (seq:Int) (last:ByteArray) (seen:Bool) (x:Ent):Bool:=decide (x.seq>seq)||(seen&&(x.key.toList == last.toList))
def liveS (to_:ByteArray) (seq most:Int):List Ent→List Ent→ByteArray→Bool→List Ent×Nat
 | [],out,_,_=>if (out.length:Int)<most then (out,1) else (out,0)
 | x::r,out,last,seen=>
  if (out.length:Int)<most then
   if stopL to_ x=true then (out,1) else
   if skipL seq last seen x=true then ((liveS to_ seq most r out last seen).1,(liveS to_ seq most r out last seen).2+1) else
   ((liveS to_ seq most r (if x.del then out else out++ [x]) x.key true).1,(liveS to_ seq most r (if x.del then out else out++ [x]) x.key true).2+1)
  else (out,0)
def itN {σ:Type} (f:σ→σ):Nat→σ→σ
 | 0,s=>s
 | n+1,s=>itN f n (f s)
theorem ΔC6_ok (h:SoundR DP iSeek OSeekM):∀ f,SoundR DP f (ΔC6 f):=envR_cons ((lift_sound SSeek).or (lift_sound h)) (envR_cons ((lift_sound SNextK).or (lift_sound SNextM)) envR_nil)
theorem wdT_olds {sl:List Nat} {m:Nat} {L:List Ent} (v:Nat):oldsOk (wdT sl m [(m,v,some (L.map entE.f))]) [rowC (L.map entE.f)]:=by
 unfold oldsOk wdT
 simp
theorem wdT_olds2 {sl:List Nat} {m:Nat} {L:List Ent} (v:Nat):oldsOk (wdT sl m [(m,v,some (L.map entE.f)),(m+1,0,none)]) [rowC (L.map entE.f)]:=by
 unfold oldsOk wdT
 simp
theorem wdT_olds0 {sl:List Nat} {m:Nat}:oldsOk (wdT sl m []) []:=by
 unfold oldsOk wdT
 simp
section
variable {σ : Type} {TB : σ → List Box} {m : Nat} {good : σ → Prop} {rest : σ → List Ent} {nx : σ → σ} {sk : Ent → σ → σ}
theorem live_rounds (h:TopR TB m good rest nx sk) (to_:ByteArray) (seq most:Int):∀ (R:List Ent) (s:σ) (out:List Ent) (last:ByteArray) (seen:Bool),good s→rest s=R→out.length+R.length≤900000000 →
  Rounds (TLive_l2_e TB m to_ seq most) (TLive_l2_x TB m) noX (fun s=>(TLive_l2_b TB m to_ seq most nx (fun s=>(headE (rest s)).1) (fun s=>(headE (rest s)).2.1) s).wp) (s,out,last,seen)
   (.inl (itN nx (liveS to_ seq most R out last seen).2 s,(liveS to_ seq most R out last seen).1)):=by
 intro R
 induction R with
 | nil=>
  intro s out last seen g hr hl
  unfold liveS
  by_cases hm:(out.length:Int)<most
  ·rw[if_pos hm]
   refine .done (by intro e; cases e) ?_
   unfold TLive_l2_b
   refine wp_sp (fun _=>wp_callr (h.next s g _) (wp_sp (fun q=>?_) (fun _=>wp_leaf (wdT_olds 0) ⟨rfl,rfl⟩))) (fun q=>absurd hm (of_decide_eq_false q))
   simp only at q
   rw[hr] at q
   cases q
  ·rw[if_neg hm]
   refine .done (by intro e; cases e) ?_
   unfold TLive_l2_b
   exact wp_sp (fun q=>absurd (of_decide_eq_true q) hm) (fun _=>wp_leaf (wdT_olds 0) ⟨rfl,rfl⟩)
 | cons x R ih=>
  intro s out last seen g hr hl
  have hx:(headE (rest s)).1=x∧(headE (rest s)).2.1=true:=by rw[hr]; exact ⟨rfl,rfl⟩
  obtain ⟨g2,r2⟩:=h.nextR s g
  rw[hr] at r2
  simp only[List.length_cons] at hl
  unfold liveS
  by_cases hm:(out.length:Int)<most
  ·rw[if_pos hm]
   by_cases hst:stopL to_ x=true
   ·rw[if_pos hst]
    refine .done (by intro e; cases e) ?_
    have hj:(TLive_j3 TB m to_ seq most nx (fun s=>(headE (rest s)).1) (s,out,last,seen) true).wp (fun e c=>e=(TLive_l2_x TB m (nx s,out)).1∧c=(TLive_l2_x TB m (nx s,out)).2):=by
     unfold TLive_j3
     exact wp_br (fun _=>wp_leaf (wdT_olds 0) ⟨rfl,rfl⟩) (fun q=>by cases q)
    unfold stopL at hst
    rw[Bool.and_eq_true] at hst
    unfold TLive_l2_b
    simp only[hx.1,hx.2]
    have hn:=h.next s g [entE.bx 0 out]
    rw[hx.1,hx.2] at hn
    exact wp_sp (fun _=>wp_callr hn (wp_sp (fun _=>wp_sp (fun _=>wp_sp (fun _=>wp_join (wdT_olds2 0) hj) (fun q=>by rw[hst.2] at q; cases q)) (fun q=>by rw[hst.1] at q; cases q)) (fun q=>by cases q))) (fun q=>absurd hm (of_decide_eq_false q))
   ·rw[if_neg hst]
    -- the rest of the round
    have fin:∀ (y:σ×List Ent×ByteArray×Bool),(TLive_j3 TB m to_ seq most nx (fun s=>(headE (rest s)).1) (s,out,last,seen) false).wp (fun e c=>e=AE.normal∧c=TLive_l2_e TB m to_ seq most y) →
      (TLive_l2_b TB m to_ seq most nx (fun s=>(headE (rest s)).1) (fun s=>(headE (rest s)).2.1) (s,out,last,seen)).wp (fun e c=>e=AE.normal∧c=TLive_l2_e TB m to_ seq most y):=fun y hj=>by
     unfold stopL at hst
     unfold TLive_l2_b
     simp only[hx.1,hx.2]
     have hn:=h.next s g [entE.bx 0 out]
     rw[hx.1,hx.2] at hn
     exact wp_sp (fun _=>wp_callr hn (wp_sp (fun _=>wp_sp (fun q1=>wp_sp (fun q2=>absurd (by rw[q1,q2]; rfl) hst) (fun _=>wp_join (wdT_olds2 0) hj)) (fun _=>wp_join (wdT_olds2 0) hj)) (fun q=>by cases q))) (fun q=>absurd hm (of_decide_eq_false q))
    by_cases hsk:skipL seq last seen x=true
    ·rw[if_pos hsk]
     refine .next (fin (nx s,out,last,seen) ?_) (ih (nx s) out last seen g2 r2 (by omega))
     have hj:(TLive_j4 TB m to_ seq most nx (fun s=>(headE (rest s)).1) (s,out,last,seen) true).wp (fun e c=>e=AE.normal∧c=TLive_l2_e TB m to_ seq most (nx s,out,last,seen)):=by
      unfold TLive_j4
      exact wp_br (fun _=>wp_leaf (wdT_olds 0) ⟨rfl,rfl⟩) (fun q=>by cases q)
     unfold skipL at hsk
     rw[Bool.or_eq_true,Bool.and_eq_true] at hsk
     unfold TLive_j3
     simp only[hx.1]
     exact wp_br (fun q=>by cases q) (fun _=>wp_sp (fun _=>wp_join (wdT_olds2 0) hj) (fun q=>wp_sp (fun q1=>wp_sp (fun _=>wp_join (wdT_olds2 0) hj) (fun q2=>by
      rcases hsk with h | h
      ·rw[q] at h; cases h
      ·rw[q2] at h; cases h.2)) (fun q1=>by
      rcases hsk with h | h
      ·rw[q] at h; cases h
      ·rw[q1] at h; cases h.1)))
    ·rw[if_neg hsk]
     refine .next (fin (nx s,if x.del then out else out++ [x],x.key,true) ?_) (ih (nx s) _ x.key true g2 r2 (by split <;> (try rw[List.length_append]) <;> (try simp only[List.length_singleton]) <;> omega))
     have hj:(TLive_j4 TB m to_ seq most nx (fun s=>(headE (rest s)).1) (s,out,last,seen) false).wp (fun e c=>e=AE.normal∧c=TLive_l2_e TB m to_ seq most (nx s,if x.del then out else out++ [x],x.key,true)):=by
      unfold TLive_j4
      simp only[hx.1]
      refine wp_br (fun q=>by cases q) (fun _=>wp_sp (fun q=>?_) (fun q=>?_))
      ·rw[if_pos q]; exact wp_leaf (wdT_olds 0) ⟨rfl,rfl⟩
      ·rw[if_neg (by rw[q]; decide)]
       exact wp_app (show ASrc.ok entE [x] (.row 1 _) from ⟨rfl,rfl⟩) rfl (by simp; omega) (wp_leaf (wdT_olds 1) ⟨rfl,rfl⟩)
     unfold skipL at hsk
     unfold TLive_j3
     simp only[hx.1]
     exact wp_br (fun q=>by cases q) (fun _=>wp_sp (fun q=>absurd (by rw[q]; rfl) hsk) (fun q=>wp_sp (fun q1=>wp_sp (fun q2=>absurd (by rw[q,q1,q2]; rfl) hsk) (fun _=>wp_join (wdT_olds2 0) hj)) (fun _=>wp_join (wdT_olds2 0) hj)))
  ·rw[if_neg hm]
   refine .done (by intro e; cases e) ?_
   unfold TLive_l2_b
   exact wp_sp (fun q=>absurd (of_decide_eq_true q) hm) (fun _=>wp_leaf (wdT_olds 0) ⟨rfl,rfl⟩)
def firstK (k:ByteArray):Ent:=⟨k,72057594037927935,false,⟨#[]⟩⟩
theorem SLive (hS:SoundR DP iSeek OSeekM) (h:TopR TB m good rest nx sk) (hc:RLive TB m):SoundR DP iLive (fun args B r B'=>∃ (s:σ) (from_ to_:ByteArray) (seq most:Int),good s∧from_.size≤400000000∧args= [.ptr 0 0 0,vs from_,vs to_,vn .u64 seq,vi most]∧B=TB s ∧
  ((72057594037927935<seq∧r= .tup [nilS,vi 1]∧B'=TB s)∨(¬72057594037927935<seq∧r= .tup [.rs m 0 4 0 (liveS to_ seq most (dropW (firstK from_) (rest s)) [] ⟨#[]⟩ false).1.length,vi 0] ∧
   B'=TB (itN nx (liveS to_ seq most (dropW (firstK from_) (rest s)) [] ⟨#[]⟩ false).2 (sk (firstK from_) s))++ [entE.bx 0 (liveS to_ seq most (dropW (firstK from_) (rest s)) [] ⟨#[]⟩ false).1]))):=sound_genT mixedD Γ0_ok (ΔC6_ok hS) hfLive heLive hbLive (by
 rintro args B r B' ⟨s,from_,to_,seq,most,g,hf,rfl,rfl,hR⟩
 refine ⟨by rw[hnLive]; rfl,_,hc s from_ to_ seq most (sk (firstK from_)) nx (fun s=>(headE (rest s)).1) (fun s=>(headE (rest s)).2.1),?_⟩
 unfold TLive
 rcases hR with ⟨hq,rfl,rfl⟩ | ⟨hq,rfl,rfl⟩
 ·refine wp_sp (fun _=>wp_join wdT_olds0 ?_) (fun q=>absurd hq (of_decide_eq_false q))
  unfold TLive_j1
  exact wp_br (fun _=>wp_leaf wdT_olds0 ⟨rfl,rfl⟩) (fun q=>by cases q)
 ·refine wp_sp (fun q=>absurd (of_decide_eq_true q) hq) (fun _=>wp_join wdT_olds0 ?_)
  have hin:InOk (firstK from_):=⟨⟨(by decide:(0:Int)≤72057594037927935),(by decide:(72057594037927935:Int)<18446744073709551616)⟩,hf⟩
  obtain ⟨g2,r2⟩:=h.seekR s (firstK from_) g hin
  have hfew:=h.few _ g2
  have hr:=live_rounds h to_ seq most (rest (sk (firstK from_) s)) (sk (firstK from_) s) [] ⟨#[]⟩ false g2 rfl (by simp; omega)
  rw[r2] at hr
  have hs:=h.seek s (firstK from_) g hin []
  rw[List.append_nil,List.append_nil] at hs
  unfold TLive_j1
  refine wp_br (fun q=>by cases q) (fun _=>wp_callr hs ?_)
  exact wp_loop _ (wdT_olds (L:= []) 0) hr (wp_leaf (wdT_olds 0) ⟨rfl,rfl⟩))
end
end Go.Ax

namespace Go.Ax
open Go.Proofs Go.RowKit
set_option maxRecDepth 100000

noncomputable def ΔC5:REnv:=envR [(iSeek,liftR OSeek)]
abbrev sSl (m n i:Nat):List (Nat×AV):= [(0, .ptr 0 0 0),(3, .ptr m 0 0),(72, .rs 1 0 1 0 n),(73,vi (n:Int)),(74,vi (i:Int))]
noncomputable def TSb (B B':List Box) (m n i:Nat) (x:Ent):Tree:=
.callr (some 80) (ΔC5 iSeek [.ptr (2+i) 0 0,entE.av x] (B++ [ebx x]) (vi 0) (B'++ [ebx x])) (vi 0) (B'++ [ebx x]) (.leaf (wdN [0,3,72,73,74] (m+1)) [] .normal (some (sSl m n (i+1),B'++ [ebx x])))
noncomputable def TSe (B:List Box) (m:Nat):Tree:= .leaf (wdN [0] m) [] (.exit 1) (some ([(0, .ptr 0 0 0)],B))
noncomputable def TSeekM (B B':List Box) (m n:Nat) (x:Ent):Tree:=
.frag none (wdN [0,3,72,73,74] (m+1)) [] (some (sSl m n 0,B++ [ebx x])) (sSl m n 0,B++ [ebx x])
 (Tri DP 121 m false cSl (St.as (sSl m n 0,B++ [ebx x])) fun e' s'=>e'=(.exit 1)∧s'=St.as ([(0, .ptr 0 0 0)],B'))
 (.exit 1) ([(0, .ptr 0 0 0)],B') (.leaf (wdN [0] m) [] .ret (some ([(0,vi 0)],B')))
def RSb (p:List Bool×Nat):Prop:=∀ (D:Dsk) (x0 x1 x2 x3 x4:LeafD) (c:Cur) (x:Ent),
 codeC DP Γ0 ΔC5 121 (famL p.1) cSb (St.as (sSl (famL p.1) p.1.length p.2,famC p.1 (l5 p.1.length x0 x1 x2 x3 x4) D++ [ebx x]))
  (TSb (famC p.1 (l5 p.1.length x0 x1 x2 x3 x4) D) (updC (famC p.1 (l5 p.1.length x0 x1 x2 x3 x4) D) p.2 c) (famL p.1) p.1.length p.2 x) (leafC (famL p.1)) =
  TSb (famC p.1 (l5 p.1.length x0 x1 x2 x3 x4) D) (updC (famC p.1 (l5 p.1.length x0 x1 x2 x3 x4) D) p.2 c) (famL p.1) p.1.length p.2 x
def RSe (ks:List Bool):Prop:=∀ (D:Dsk) (x0 x1 x2 x3 x4:LeafD) (x:Ent),
 codeC DP Γ0 ΔC5 121 (famL ks) cSb (St.as (sSl (famL ks) ks.length ks.length,famC ks (l5 ks.length x0 x1 x2 x3 x4) D++ [ebx x])) (TSe (famC ks (l5 ks.length x0 x1 x2 x3 x4) D) (famL ks)) (leafC (famL ks))=TSe (famC ks (l5 ks.length x0 x1 x2 x3 x4) D) (famL ks)
def RSm (ks:List Bool):Prop:=∀ (D:Dsk) (x0 x1 x2 x3 x4 y0 y1 y2 y3 y4:LeafD) (x:Ent),
 fnC DP Γ0 ΔC5 nSeek [.ptr 0 0 0,entE.av x] (famC ks (l5 ks.length x0 x1 x2 x3 x4) D) (TSeekM (famC ks (l5 ks.length x0 x1 x2 x3 x4) D) (famC ks (l5 ks.length y0 y1 y2 y3 y4) D) (famL ks) ks.length x) =
  TSeekM (famC ks (l5 ks.length x0 x1 x2 x3 x4) D) (famC ks (l5 ks.length y0 y1 y2 y3 y4) D) (famL ks) ks.length x
theorem allSb:allP RSb pairsM:=⟨by intro D x0 x1 x2 x3 x4 c x; kernel_rfl,by intro D x0 x1 x2 x3 x4 c x; kernel_rfl,by intro D x0 x1 x2 x3 x4 c x; kernel_rfl,by intro D x0 x1 x2 x3 x4 c x; kernel_rfl,by intro D x0 x1 x2 x3 x4 c x; kernel_rfl,by intro D x0 x1 x2 x3 x4 c x; kernel_rfl,by intro D x0 x1 x2 x3 x4 c x; kernel_rfl,by intro D x0 x1 x2 x3 x4 c x; kernel_rfl,by intro D x0 x1 x2 x3 x4 c x; kernel_rfl,by intro D x0 x1 x2 x3 x4 c x; kernel_rfl,by intro D x0 x1 x2 x3 x4 c x; kernel_rfl,by intro D x0 x1 x2 x3 x4 c x; kernel_rfl,by intro D x0 x1 x2 x3 x4 c x; kernel_rfl,by intro D x0 x1 x2 x3 x4 c x; kernel_rfl,by intro D x0 x1 x2 x3 x4 c x; kernel_rfl,by intro D x0 x1 x2 x3 x4 c x; kernel_rfl,by intro D x0 x1 x2 x3 x4 c x; kernel_rfl,by intro D x0 x1 x2 x3 x4 c x; kernel_rfl,by intro D x0 x1 x2 x3 x4 c x; kernel_rfl,by intro D x0 x1 x2 x3 x4 c x; kernel_rfl,by intro D x0 x1 x2 x3 x4 c x; kernel_rfl,by intro D x0 x1 x2 x3 x4 c x; kernel_rfl,by intro D x0 x1 x2 x3 x4 c x; kernel_rfl,by intro D x0 x1 x2 x3 x4 c x; kernel_rfl,by intro D x0 x1 x2 x3 x4 c x; kernel_rfl,by intro D x0 x1 x2 x3 x4 c x; kernel_rfl,by intro D x0 x1 x2 x3 x4 c x; kernel_rfl,by intro D x0 x1 x2 x3 x4 c x; kernel_rfl,by intro D x0 x1 x2 x3 x4 c x; kernel_rfl,by intro D x0 x1 x2 x3 x4 c x; kernel_rfl,by intro D x0 x1 x2 x3 x4 c x; kernel_rfl,by intro D x0 x1 x2 x3 x4 c x; kernel_rfl,by intro D x0 x1 x2 x3 x4 c x; kernel_rfl,by intro D x0 x1 x2 x3 x4 c x; kernel_rfl,by intro D x0 x1 x2 x3 x4 c x; kernel_rfl,by intro D x0 x1 x2 x3 x4 c x; kernel_rfl,by intro D x0 x1 x2 x3 x4 c x; kernel_rfl,by intro D x0 x1 x2 x3 x4 c x; kernel_rfl,by intro D x0 x1 x2 x3 x4 c x; kernel_rfl,by intro D x0 x1 x2 x3 x4 c x; kernel_rfl,by intro D x0 x1 x2 x3 x4 c x; kernel_rfl,by intro D x0 x1 x2 x3 x4 c x; kernel_rfl,by intro D x0 x1 x2 x3 x4 c x; kernel_rfl,by intro D x0 x1 x2 x3 x4 c x; kernel_rfl,by intro D x0 x1 x2 x3 x4 c x; kernel_rfl,by intro D x0 x1 x2 x3 x4 c x; kernel_rfl,by intro D x0 x1 x2 x3 x4 c x; kernel_rfl,trivial⟩
theorem allSe:allP RSe shapesM:=⟨by intro D x0 x1 x2 x3 x4 x; kernel_rfl,by intro D x0 x1 x2 x3 x4 x; kernel_rfl,by intro D x0 x1 x2 x3 x4 x; kernel_rfl,by intro D x0 x1 x2 x3 x4 x; kernel_rfl,by intro D x0 x1 x2 x3 x4 x; kernel_rfl,by intro D x0 x1 x2 x3 x4 x; kernel_rfl,by intro D x0 x1 x2 x3 x4 x; kernel_rfl,by intro D x0 x1 x2 x3 x4 x; kernel_rfl,by intro D x0 x1 x2 x3 x4 x; kernel_rfl,by intro D x0 x1 x2 x3 x4 x; kernel_rfl,by intro D x0 x1 x2 x3 x4 x; kernel_rfl,by intro D x0 x1 x2 x3 x4 x; kernel_rfl,by intro D x0 x1 x2 x3 x4 x; kernel_rfl,trivial⟩
theorem allSm:allP RSm shapesM:=⟨by intro D x0 x1 x2 x3 x4 y0 y1 y2 y3 y4 x; kernel_rfl,by intro D x0 x1 x2 x3 x4 y0 y1 y2 y3 y4 x; kernel_rfl,by intro D x0 x1 x2 x3 x4 y0 y1 y2 y3 y4 x; kernel_rfl,by intro D x0 x1 x2 x3 x4 y0 y1 y2 y3 y4 x; kernel_rfl,by intro D x0 x1 x2 x3 x4 y0 y1 y2 y3 y4 x; kernel_rfl,by intro D x0 x1 x2 x3 x4 y0 y1 y2 y3 y4 x; kernel_rfl,by intro D x0 x1 x2 x3 x4 y0 y1 y2 y3 y4 x; kernel_rfl,by intro D x0 x1 x2 x3 x4 y0 y1 y2 y3 y4 x; kernel_rfl,by intro D x0 x1 x2 x3 x4 y0 y1 y2 y3 y4 x; kernel_rfl,by intro D x0 x1 x2 x3 x4 y0 y1 y2 y3 y4 x; kernel_rfl,by intro D x0 x1 x2 x3 x4 y0 y1 y2 y3 y4 x; kernel_rfl,by intro D x0 x1 x2 x3 x4 y0 y1 y2 y3 y4 x; kernel_rfl,by intro D x0 x1 x2 x3 x4 y0 y1 y2 y3 y4 x; kernel_rfl,trivial⟩
end Go.Ax
