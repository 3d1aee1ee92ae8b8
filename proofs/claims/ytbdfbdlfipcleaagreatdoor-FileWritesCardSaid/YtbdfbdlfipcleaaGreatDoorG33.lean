/- Plain: what is found in a file that was made. -/
import Derived.Test.YtbdfbdlfipcleaaGreatDoorG32
import Derived.Lib.Repeat
import Derived.Shelf.Small.Strs
import Derived.Shelf.Strings.Repeat
import Derived.Test.YtbdfbdlfipcleaaGreatDoorG22
set_option linter.unusedVariables false
set_option linter.unusedSimpArgs false
set_option linter.unusedSectionVars false
namespace Go.Ax
open Go.Proofs Go.RowKit
set_option maxRecDepth 100000

def firstE (L:List Ent) (w:Ent):Option Ent:=L.find? fun y=> !decide (ltE y w)
theorem fnd_none {α:Type} {p:α→Bool} {L:List α} (h:∀ x∈L,p x=false):L.find? p=none:=List.find?_eq_none.2 (fun x hx=>by rw[h x hx]; decide)
theorem flat_split {α:Type}:∀ (C:List (List α)) (i:Nat) (hi:i<C.length),C.flatten=(C.take i).flatten++(C[i]++(C.drop (i+1)).flatten)
 | [],_,h=>by simp at h
 | c::C,0,_=>by simp
 | c::C,i+1,h=>by
  have ih:=flat_split C i (by simpa using h)
  rw[List.flatten_cons,List.take_succ_cons,List.flatten_cons,List.drop_succ_cons,List.getElem_cons_succ,ih,List.append_assoc]
section
variable {L : List Ent}
theorem Fits.seqOk (h:Fits L) {x:Ent} (hx:x∈L):SeqOk x:=chk_seq (h.good.chk x hx) (h.good.seq x hx)
theorem Fits.last_mem (h:Fits L) {i:Nat} (hi:i<(chunks L 0 []).length):lastE (chunks L 0 [])[i]∈L:=(h.sub (List.getElem_mem hi)).subset (lastE_mem (chunks_ne L 0 [] _ (List.getElem_mem hi)))
theorem Fits.pwE (h:Fits L):(chunks L 0 []).Pairwise (fun c d=>∀ x∈c,∀ y∈d,ltE x y):=by
 have:=h.good.up
 rw[←h.flat,List.pairwise_flatten] at this
 exact this.2
theorem Fits.inE (h:Fits L) {c:List Ent} (hc:c∈chunks L 0 []):c.Pairwise ltE:=by
 have:=h.good.up
 rw[←h.flat,List.pairwise_flatten] at this
 exact this.1 c hc
theorem last_max {c:List Ent} (hc:c≠ []) (hp:c.Pairwise ltE):∀ x∈c,x=lastE c∨ltE x (lastE c):=by
 intro x hx
 unfold lastE
 rw[List.getLastD_eq_getLast?,List.getLast?_eq_some_getLast hc]
 simp only[Option.getD_some]
 have hx':x∈c.dropLast++ [c.getLast hc]:=by rw[List.dropLast_concat_getLast]; exact hx
 have hp':(c.dropLast++ [c.getLast hc]).Pairwise ltE:=by rw[List.dropLast_concat_getLast]; exact hp
 rcases List.mem_append.1 hx' with hx | hx
 ·exact .inr ((List.pairwise_append.1 hp').2.2 x hx _ (by simp))
 ·exact .inl (List.mem_singleton.1 hx)
theorem find_file (h:Fits L) {w:Ent} (hw:SeqOk w) (hd:w.del=false) (k:Nat) (hk:k≤(chunks L 0 []).length) (h1:∀ (i:Nat) (hi:i<(chunks L 0 []).length),i<k→ltE (lastE (chunks L 0 [])[i]) w) (h2:∀ (hi:k<(chunks L 0 []).length),¬ltE (lastE (chunks L 0 [])[k]) w):findI (idxL 0 (chunks L 0 [])) w=k:=by
 have key:∀ (i:Nat) (hi:i<(chunks L 0 []).length),((!decide (bl ((idxL 0 (chunks L 0 [])).getD i ⟨⟨#[]⟩,⟨#[]⟩⟩).nl (innB (least w))))=true↔¬ltE (lastE (chunks L 0 [])[i]) w):=by
  intro i hi
  have e:((idxL 0 (chunks L 0 [])).getD i ⟨⟨#[]⟩,⟨#[]⟩⟩).nl=innB (lastE (chunks L 0 [])[i]):=by
   rw[List.getD_eq_getElem?_getD,idxL_get _ 0 i hi]
   show (List.toArray _).toList=_
   rw[List.toList_toArray]
  have el:innB (least w)=innB w:=by unfold innB innN least; rw[hd]
  rw[e,el,Bool.not_eq_true',decide_eq_false_iff_not,inn_ge (h.seqOk (h.last_mem hi)) hw hd]
 unfold findI
 rw[idxL_len]
 refine search_spec _ k _ 0 _ (by omega) (Nat.zero_le _) hk (fun m _ hm=>?_) (fun m hm hm2=>?_)
 ·have:=(not_congr (key m (by omega))).2 (fun g=>g (h1 m (by omega) hm))
  simpa using this
 ·refine (key m hm2).2 (fun g=>?_)
  rcases Nat.eq_or_lt_of_le hm with e | e
  ·subst e
   exact h2 hm2 g
  ·have hp:=List.pairwise_iff_getElem.1 h.pwE k m (by omega) hm2 e _ (lastE_mem (chunks_ne L 0 [] _ (List.getElem_mem (by omega)))) _ (lastE_mem (chunks_ne L 0 [] _ (List.getElem_mem hm2)))
   exact h2 (by omega) (ltE_trans hp g)
theorem pairs_file (h:Fits L) {i:Nat} (hi:i<(chunks L 0 []).length):∃ p,(idxL 0 (chunks L 0 []))[i]? = some p∧pairsI (fileY L) p=((chunks L 0 [])[i].map ofE,0):=by
 refine ⟨_,idxL_get _ 0 i hi,?_⟩
 have hc:=List.getElem_mem hi
 have h1:=pagesB_le h ((chunks L 0 []).take i) (fun c hc=>List.mem_of_mem_take hc)
 have h2:=h.chunks_len
 have h3:=pageB_le h hc
 rw[List.length_take] at h1
 have ha:=at_put (a:=((0+(pagesB ((chunks L 0 []).take i)).length:Nat):Int)) (n:=((pageB (chunks L 0 [])[i]).length:Int)) (by omega) (by omega)
 unfold pairsI
 show (match atI (List.toArray _).toList with | none=>_ | some (a,n)=>_)=_
 rw[List.toList_toArray,ha]
 simp only[Nat.zero_add]
 rw[get_page h hi]
 simp only
 rw[if_neg (by decide),(h.par hc).1]
theorem ents_file (h:Fits L) {i:Nat} (hi:i<(chunks L 0 []).length):entsI ((chunks L 0 [])[i].map ofE)=some (chunks L 0 [])[i]:=
 ents_of _ (fun x hx=>⟨h.good.chk x ((h.sub (List.getElem_mem hi)).subset hx),h.good.seq x ((h.sub (List.getElem_mem hi)).subset hx)⟩)
theorem all_lt (h:Fits L) {w:Ent} {k:Nat} (hk:k≤(chunks L 0 []).length) (h1:∀ (i:Nat) (hi:i<(chunks L 0 []).length),i<k→ltE (lastE (chunks L 0 [])[i]) w):∀ x∈((chunks L 0 []).take k).flatten,ltE x w:=by
 intro x hx
 obtain ⟨c,hc,hx⟩:=List.mem_flatten.1 hx
 obtain ⟨i,hi,rfl⟩:=List.getElem_of_mem hc
 rw[List.length_take] at hi
 rw[List.getElem_take] at hx
 have hi':i<(chunks L 0 []).length:=by omega
 have hl:=h1 i hi' (by omega)
 rcases last_max (chunks_ne L 0 [] _ (List.getElem_mem hi')) (h.inE (List.getElem_mem hi')) x hx with e | e
 ·rw[e]; exact hl
 ·exact ltE_trans e hl
theorem page_split (h:Fits L) (w:Ent):∃ k,k≤(chunks L 0 []).length∧(∀ (i:Nat) (hi:i<(chunks L 0 []).length),i<k→ltE (lastE (chunks L 0 [])[i]) w)∧(∀ (hi:k<(chunks L 0 []).length),¬ltE (lastE (chunks L 0 [])[k]) w):=by
 have:∀ (n:Nat),n≤(chunks L 0 []).length→(∀ (i:Nat) (hi:i<(chunks L 0 []).length),i<(chunks L 0 []).length - n→ltE (lastE (chunks L 0 [])[i]) w)→∃ k,k≤(chunks L 0 []).length∧(∀ (i:Nat) (hi:i<(chunks L 0 []).length),i<k→ltE (lastE (chunks L 0 [])[i]) w)∧(∀ (hi:k<(chunks L 0 []).length),¬ltE (lastE (chunks L 0 [])[k]) w):=by
  intro n
  induction n with
  | zero=>intro _ h1; exact ⟨_,Nat.le_refl _,fun i hi _=>h1 i hi (by omega),fun hi=>absurd hi (by omega)⟩
  | succ n ih=>
   intro hn h1
   by_cases g:ltE (lastE ((chunks L 0 [])[(chunks L 0 []).length - (n+1)]'(by omega))) w
   ·refine ih (by omega) (fun i hi hi2=>?_)
    rcases Nat.eq_or_lt_of_le (show i≤(chunks L 0 []).length - (n+1) by omega) with e | e
    ·subst e; exact g
    ·exact h1 i hi e
   ·exact ⟨(chunks L 0 []).length - (n+1),by omega,fun i hi hi2=>h1 i hi hi2,fun hi=>g⟩
 exact this (chunks L 0 []).length (Nat.le_refl _) (fun i hi hi2=>absurd hi2 (by omega))
theorem first_none (h:Fits L) {w:Ent} {k:Nat} (hk:k=(chunks L 0 []).length) (h1:∀ (i:Nat) (hi:i<(chunks L 0 []).length),i<k→ltE (lastE (chunks L 0 [])[i]) w):firstE L w=none:=by
 refine fnd_none (fun x hx=>?_)
 have:=all_lt h (by omega) h1 x (by rw[hk,List.take_length,h.flat]; exact hx)
 rw[decide_eq_true this]; rfl
theorem first_page (h:Fits L) {w:Ent} {k:Nat} (hk:k<(chunks L 0 []).length) (h1:∀ (i:Nat) (hi:i<(chunks L 0 []).length),i<k→ltE (lastE (chunks L 0 [])[i]) w) (h2:¬ltE (lastE (chunks L 0 [])[k]) w):firstE L w=firstE (chunks L 0 [])[k] w∧(firstE (chunks L 0 [])[k] w).isSome=true:=by
 have hs:(firstE (chunks L 0 [])[k] w).isSome=true:=by
  unfold firstE
  rw[List.find?_isSome]
  exact ⟨_,lastE_mem (chunks_ne L 0 [] _ (List.getElem_mem hk)),by rw[decide_eq_false h2]; rfl⟩
 refine ⟨?_,hs⟩
 have hf:=flat_split (chunks L 0 []) k hk
 rw[h.flat] at hf
 have hn:(((chunks L 0 []).take k).flatten).find? (fun y=> !decide (ltE y w))=none:=fnd_none (fun x hx=>by rw[decide_eq_true (all_lt h (by omega) h1 x hx)]; rfl)
 conv=>lhs; unfold firstE; rw[hf]
 rw[List.find?_append,hn,List.find?_append]
 unfold firstE at hs ⊢
 obtain ⟨y,hy⟩:=Option.isSome_iff_exists.1 hs
 rw[hy]
 rfl
theorem cmp_ge (w:Ent):(fun y=>decide (0≤cmpE y w))=fun y=> !decide (ltE y w):=by
 funext y
 rw[Bool.eq_iff_iff,decide_eq_true_eq,Bool.not_eq_true',decide_eq_false_iff_not,←cmp_neg]
 omega
def bestE (L:List Ent) (nm:ByteArray) (seq:Int):Option Ent:=L.find? fun y=>decide (y.key=nm∧y.seq≤seq)
theorem first_best (hp:L.Pairwise ltE) (nm:ByteArray) (seq:Int):bestE L nm seq=match firstE L (wantE nm seq) with
  | none=>none
  | some y=>if y.key≠nm then none else some y:=by
 induction L with
 | nil=>rfl
 | cons x L ih=>
  have ih:=ih hp.of_cons
  unfold bestE firstE at *
  rw[List.find?_cons,List.find?_cons]
  by_cases g:ltE x (wantE nm seq)
  ·have e1:decide (x.key=nm∧x.seq≤seq)=false:=decide_eq_false (fun e=>by
    rcases g with g | ⟨_,g⟩
    ·rw[e.1] at g; exact bl_irr g
    ·exact absurd g (by show ¬seq<x.seq; omega))
   rw[decide_eq_true g,e1]
   exact ih
  ·rw[decide_eq_false g]
   simp only[Bool.not_false]
   by_cases hk:x.key=nm
   ·have e1:decide (x.key=nm∧x.seq≤seq)=true:=decide_eq_true ⟨hk,Int.not_lt.1 (fun e=>g (.inr ⟨hk,e⟩))⟩
    rw[e1,if_neg (fun h=>h hk)]
   ·have e1:decide (x.key=nm∧x.seq≤seq)=false:=decide_eq_false (fun e=>hk e.1)
    rw[e1,if_pos hk]
    refine fnd_none (fun y hy=>decide_eq_false (fun e=>?_))
    have hxy:=List.rel_of_pairwise_cons hp hy
    rcases ltE_tri x (wantE nm seq) with q | q | q
    ·exact g q
    ·exact hk q.1
    ·rcases q with q | q
     ·rcases hxy with r | r
      ·rw[e.1] at r; exact bl_irr (bl_trans (x:=nm.data.toList) q r)
      ·exact hk (r.1.trans e.1)
     ·exact hk q.1.symm
theorem names_mem:∀ (L:List Ent) (N:List ByteArray),(∀ n∈N,n∈namesL L N)∧∀ x∈L,x.key∈namesL L N
 | [],N=>⟨fun _ h=>h,fun _ h=>by cases h⟩
 | x::L,N=>by
  unfold namesL
  by_cases e:N.getLast? = some x.key
  ·rw[if_pos e]
   obtain ⟨h1,h2⟩:=names_mem L N
   refine ⟨h1,fun y hy=>?_⟩
   rcases List.mem_cons.1 hy with rfl | hy
   ·exact h1 _ (List.mem_of_getLast? e)
   ·exact h2 y hy
  ·rw[if_neg e]
   obtain ⟨h1,h2⟩:=names_mem L (N++ [x.key])
   refine ⟨fun n hn=>h1 n (by simp[hn]),fun y hy=>?_⟩
   rcases List.mem_cons.1 hy with rfl | hy
   ·exact h1 _ (by simp)
   ·exact h2 y hy
def fileOf (L:List Ent):FileR:=⟨idxL 0 (chunks L 0 []),bloomI (namesL L []),L.length,(L.headD noE).key,(lastE L).key⟩
theorem get_file (h:Fits L) (nm:ByteArray) (seq:Int) (hs:0≤seq):getE (fileY L) (fileOf L) nm seq =
  match (if seq≤72057594037927935 then bestE L nm seq else none) with
  | none=>(noE,false,0)
  | some y=>(y,true,0):=by
 unfold getE
 by_cases hc:chkE (wantE nm seq)=0
 ·have hw:SeqOk (wantE nm seq):=chk_seq hc hs
  have hq:(if seq≤72057594037927935 then bestE L nm seq else none)=bestE L nm seq:=if_pos hw.2
  rw[hq]
  by_cases hm:mayI (fileOf L).bits nm=false
  ·rw[if_pos (.inr hm)]
   have:bestE L nm seq=none:=fnd_none (fun x hx=>decide_eq_false (fun e=>by
    have:=may_of ((names_mem L []).2 x hx)
    rw[e.1] at this
    have h3:mayI (bloomI (namesL L [])) nm=false:=hm
    rw[h3] at this
    cases this))
   rw[this]
  ·rw[if_neg (by rintro (e | e); exact e hc; exact hm e)]
   obtain ⟨k,hk,h1,h2⟩:=page_split h (wantE nm seq)
   have hf:=find_file h hw rfl k hk h1 h2
   have hb:=first_best h.good.up nm seq
   show (match (idxL 0 (chunks L 0 []))[findI (idxL 0 (chunks L 0 [])) (wantE nm seq)]? with | none=>_ | some p=>_)=_
   rw[hf]
   rcases Nat.eq_or_lt_of_le hk with e | e
   ·rw[first_none h e h1] at hb
    rw[hb,List.getElem?_eq_none (by rw[idxL_len]; omega)]
   ·obtain ⟨p,hp,hpp⟩:=pairs_file h e
    obtain ⟨f1,f2⟩:=first_page h e h1 (h2 e)
    rw[hp]
    simp only
    rw[hpp]
    simp only
    rw[if_neg (by decide),ents_file h e]
    simp only
    rw[f1] at hb
    rw[cmp_ge]
    unfold firstE at hb f2
    obtain ⟨y,hy⟩:=Option.isSome_iff_exists.1 f2
    rw[hy] at hb ⊢
    simp only at hb ⊢
    rw[hb]
    split <;> rfl
 ·rw[if_pos (.inl hc)]
  have:(if seq≤72057594037927935 then bestE L nm seq else none)=none:=by
   split
   ·refine fnd_none (fun x hx=>decide_eq_false (fun e=>hc ?_))
    have hk:=chk_key (h.good.chk x hx)
    rw[e.1] at hk
    unfold chkE wantE
    rw[if_neg,if_neg]
    ·rintro (q | q)
     ·simp only at q; omega
     ·exact absurd q (show ¬(0>65536) by decide)
    ·rintro (q | q | q)
     ·simp only at q; omega
     ·simp only at q; omega
     ·exact Bool.noConfusion q.1
   ·rfl
  rw[this]
end
end Go.Ax

namespace Go.Ax
open Go.Proofs Go.RowKit
set_option maxRecDepth 100000

def insE (x:Ent):List Ent→List Ent
 | []=> [x]
 | y::L=>if ltE y x then y::insE x L else if y.key=x.key∧y.seq=x.seq then y::L else x::y::L
def repB (s:ByteArray) (n:Nat):ByteArray:=⟨(Lib.repeatL s.data.toList n).toArray⟩
def repE (t:Int) (x:Ent):Ent:=if x.del then x else ⟨x.key,x.seq,false,repB x.val (1+t % 64).toNat⟩
def someF (t:Int) (out:List Ent) (x:Ent):List Ent:=if chkE (repE t x)≠0 then out else insE (repE t x) out
def someL (t:Int) (L:List Ent):List Ent:=L.foldl (someF t) []
theorem insE_mem (x:Ent):∀ L:List Ent,∀ y∈insE x L,y=x∨y∈L
 | [],y,h=> .inl (List.mem_singleton.1 h)
 | z::L,y,h=>by
  unfold insE at h
  split at h
  ·rcases List.mem_cons.1 h with rfl | h
   ·exact .inr (by simp)
   ·rcases insE_mem x L y h with e | e
    ·exact .inl e
    ·exact .inr (by simp[e])
  ·split at h
   ·exact .inr h
   ·rcases List.mem_cons.1 h with rfl | h
    ·exact .inl rfl
    ·exact .inr h
theorem insE_up (x:Ent):∀ L:List Ent,L.Pairwise ltE→(insE x L).Pairwise ltE
 | [],_=>by unfold insE; simp
 | z::L,h=>by
  unfold insE
  split
  ·rename_i hz
   refine .cons (fun y hy=>?_) (insE_up x L h.of_cons)
   rcases insE_mem x L y hy with rfl | e
   ·exact hz
   ·exact List.rel_of_pairwise_cons h e
  ·rename_i hz
   split
   ·exact h
   ·rename_i hn
    refine .cons (fun y hy=>?_) h
    have hxz:ltE x z:=by
     rcases ltE_tri z x with g | g | g
     ·exact absurd g hz
     ·exact absurd g hn
     ·exact g
    rcases List.mem_cons.1 hy with rfl | hy
    ·exact hxz
    ·exact ltE_trans hxz (List.rel_of_pairwise_cons h hy)
theorem insE_len (x:Ent):∀ L:List Ent,(insE x L).length≤L.length+1
 | []=>Nat.le_refl _
 | z::L=>by
  have:=insE_len x L
  unfold insE
  split
  ·simp only[List.length_cons]; omega
  ·split <;> simp
theorem someL_good (t:Int) (L:List Ent) (hs:∀ x∈L,0≤x.seq):GoodE (someL t L)∧(someL t L).length≤L.length:=by
 have:∀ (M out:List Ent),(∀ x∈M,0≤x.seq)→GoodE out→GoodE (M.foldl (someF t) out)∧(M.foldl (someF t) out).length≤out.length+M.length:=by
  intro M
  induction M with
  | nil=>intro out _ h; exact ⟨h,Nat.le_refl _⟩
  | cons x M ih=>
   intro out hM h
   have hg:GoodE (someF t out x)∧(someF t out x).length≤out.length+1:=by
    unfold someF
    split
    ·exact ⟨h,by omega⟩
    ·rename_i hc
     have hc:chkE (repE t x)=0:=Decidable.not_not.1 hc
     have hq:0≤(repE t x).seq:=by
      have:=hM x (by simp)
      unfold repE
      split <;> exact this
     refine ⟨⟨fun y hy=>?_,fun y hy=>?_,insE_up _ _ h.up⟩,insE_len _ _⟩
     ·rcases insE_mem _ _ y hy with rfl | e
      ·exact hc
      ·exact h.chk y e
     ·rcases insE_mem _ _ y hy with rfl | e
      ·exact hq
      ·exact h.seq y e
   have:=ih (someF t out x) (fun y hy=>hM y (by simp[hy])) hg.1
   rw[List.foldl_cons,List.length_cons]
   exact ⟨this.1,by omega⟩
 have:=this L [] hs ⟨fun x hx=>by (cases hx),fun x hx=>by (cases hx), .nil⟩
 simpa [someL] using this
def insAt (x:Ent) (L:List Ent):Nat:=(L.takeWhile fun y=>decide (ltE y x)).length
theorem insAt_le (x:Ent) (L:List Ent):insAt x L≤L.length:=(List.takeWhile_prefix _).length_le
theorem insE_eq (x:Ent):∀ L:List Ent,insE x L=match L[insAt x L]? with
  | none=>L.take (insAt x L)++x::L.drop (insAt x L)
  | some y=>if y.key=x.key∧y.seq=x.seq then L else L.take (insAt x L)++x::L.drop (insAt x L)
 | []=>rfl
 | z::L=>by
  unfold insE insAt
  by_cases h:ltE z x
  ·have ih:=insE_eq x L
   rw[if_pos h,ih,List.takeWhile_cons,if_pos (decide_eq_true h),List.length_cons]
   show _=match (L[insAt x L]?) with | none=>_ | some y=>_
   cases hg:L[insAt x L]? with
   | none=>rfl
   | some y=>
    simp only
    split <;> rfl
  ·have e:((z::L).takeWhile fun y=>decide (ltE y x))= []:=by rw[List.takeWhile_cons,if_neg (by simp[h])]
   rw[if_neg h,e]
   rfl
theorem insAt_lt (x:Ent):∀ (L:List Ent) (i:Nat) (y:Ent),i<insAt x L→L[i]? = some y→ltE y x
 | [],i,y,h,_=>by simp[insAt] at h
 | z::L,i,y,h,hy=>by
  unfold insAt at h
  by_cases hz:ltE z x
  ·rw[List.takeWhile_cons,if_pos (decide_eq_true hz),List.length_cons] at h
   cases i with
   | zero=>cases hy; exact hz
   | succ i=>exact insAt_lt x L i y (by unfold insAt; omega) (by simpa using hy)
  ·rw[List.takeWhile_cons,if_neg (by rw[decide_eq_false hz]; decide)] at h
   simp at h
theorem insAt_at (x:Ent):∀ (L:List Ent) (y:Ent),L[insAt x L]? = some y→¬ltE y x
 | [],y,h=>by simp at h
 | z::L,y,h=>by
  unfold insAt at h
  by_cases hz:ltE z x
  ·rw[List.takeWhile_cons,if_pos (decide_eq_true hz),List.length_cons,List.getElem?_cons_succ] at h
   exact insAt_at x L y h
  ·rw[List.takeWhile_cons,if_neg (by rw[decide_eq_false hz]; decide)] at h
   cases h
   exact hz
end Go.Ax

namespace Go.Proofs
open Go.Shelf

def Tryz.cmpA_ren:Go.Shelf.Ren:=⟨fun | 106=>56 | 213=>84 | 265=>93 | n=>n,fun | 9=>9 | 3=>3 | n=>n,fun | n=>n⟩
theorem Tryz.cmpA:Go.Proofs.Lays.n106 Tryz.prog Tryz.cmpA_ren:={
 mixed:=by kernel_rfl
 f106:=Tryz.func56.trans (congrArg some (by kernel_rfl))
 f213:=Tryz.func84.trans (congrArg some (by kernel_rfl))
 f265:=Tryz.func93.trans (congrArg some (by kernel_rfl))
 t3:=Tryz.underlying3
 a3:=Tryz.isAgg3
 z3:=Tryz.sizeOf3
 v3:=Tryz.zeroValue3
 t9:=Tryz.underlying9
 a9:=Tryz.isAgg9
 z9:=Tryz.sizeOf9
 v9:=Tryz.zeroValue9}
def Tryz.repA_ren:Go.Shelf.Ren:=⟨fun | 105=>18 | 212=>50 | 99=>51 | 165=>52 | 166=>53 | 170=>54 | 169=>55 | 263=>79 | 264=>80 | 206=>81 | 240=>82 | 241=>83 | 276=>91 | 277=>92 | n=>n,fun | 80=>59 | 9=>9 | 3=>3 | 4=>4 | 20=>20 | 0=>0 | 46=>102 | 109=>103 | 5=>5 | 72=>108 | 76=>111 | 51=>130 | 146=>131 | 53=>44 | 148=>133 | 70=>106 | 37=>26 | 75=>110 | 127=>135 | 164=>144 | n=>n,fun | n=>n⟩
theorem Tryz.repA:Go.Proofs.Lays.n105 Tryz.prog Tryz.repA_ren:={
 mixed:=by kernel_rfl
 f99:=Tryz.func51.trans (congrArg some (by kernel_rfl))
 f105:=Tryz.func18.trans (congrArg some (by kernel_rfl))
 f165:=Tryz.func52.trans (congrArg some (by kernel_rfl))
 f166:=Tryz.func53.trans (congrArg some (by kernel_rfl))
 f169:=Tryz.func55.trans (congrArg some (by kernel_rfl))
 f170:=Tryz.func54.trans (congrArg some (by kernel_rfl))
 f206:=Tryz.func81.trans (congrArg some (by kernel_rfl))
 f212:=Tryz.func50.trans (congrArg some (by kernel_rfl))
 f240:=Tryz.func82.trans (congrArg some (by kernel_rfl))
 f241:=Tryz.func83.trans (congrArg some (by kernel_rfl))
 f263:=Tryz.func79.trans (congrArg some (by kernel_rfl))
 f264:=Tryz.func80.trans (congrArg some (by kernel_rfl))
 f276:=Tryz.func91.trans (congrArg some (by kernel_rfl))
 f277:=Tryz.func92.trans (congrArg some (by kernel_rfl))
 t0:=Tryz.underlying0
 a0:=Tryz.isAgg0
 z0:=Tryz.sizeOf0
 v0:=Tryz.zeroValue0
 t3:=Tryz.underlying3
 a3:=Tryz.isAgg3
 z3:=Tryz.sizeOf3
 v3:=Tryz.zeroValue3
 t4:=Tryz.underlying4
 a4:=Tryz.isAgg4
 z4:=Tryz.sizeOf4
 v4:=Tryz.zeroValue4
 t5:=Tryz.underlying5
 a5:=Tryz.isAgg5
 z5:=Tryz.sizeOf5
 v5:=Tryz.zeroValue5
 t9:=Tryz.underlying9
 a9:=Tryz.isAgg9
 z9:=Tryz.sizeOf9
 v9:=Tryz.zeroValue9
 t20:=Tryz.underlying20
 a20:=Tryz.isAgg20
 z20:=Tryz.sizeOf20
 v20:=Tryz.zeroValue20
 t37:=Tryz.underlying26
 a37:=Tryz.isAgg26
 z37:=Tryz.sizeOf26
 v37:=Tryz.zeroValue26
 t46:=Tryz.underlying102
 a46:=Tryz.isAgg102
 z46:=Tryz.sizeOf102
 v46:=Tryz.zeroValue102
 t51:=Tryz.underlying130
 a51:=Tryz.isAgg130
 z51:=Tryz.sizeOf130
 v51:=Tryz.zeroValue130
 t53:=Tryz.underlying44
 a53:=Tryz.isAgg44
 z53:=Tryz.sizeOf44
 v53:=Tryz.zeroValue44
 t70:=Tryz.underlying106
 a70:=Tryz.isAgg106
 z70:=Tryz.sizeOf106
 v70:=Tryz.zeroValue106
 t72:=Tryz.underlying108
 a72:=Tryz.isAgg108
 z72:=Tryz.sizeOf108
 v72:=Tryz.zeroValue108
 t75:=Tryz.underlying110
 a75:=Tryz.isAgg110
 z75:=Tryz.sizeOf110
 v75:=Tryz.zeroValue110
 t76:=Tryz.underlying111
 a76:=Tryz.isAgg111
 z76:=Tryz.sizeOf111
 v76:=Tryz.zeroValue111
 t109:=Tryz.underlying103
 a109:=Tryz.isAgg103
 z109:=Tryz.sizeOf103
 v109:=Tryz.zeroValue103
 t127:=Tryz.underlying135
 a127:=Tryz.isAgg135
 z127:=Tryz.sizeOf135
 v127:=Tryz.zeroValue135
 t146:=Tryz.underlying131
 a146:=Tryz.isAgg131
 z146:=Tryz.sizeOf131
 v146:=Tryz.zeroValue131
 t148:=Tryz.underlying133
 a148:=Tryz.isAgg133
 z148:=Tryz.sizeOf133
 v148:=Tryz.zeroValue133
 t164:=Tryz.underlying144
 a164:=Tryz.isAgg144
 z164:=Tryz.sizeOf144
 v164:=Tryz.zeroValue144}
theorem Tryz.repX:Builder.Extra Tryz.prog Tryz.repA_ren where
 sizeBuilder:=by kernel_rfl
 liesBuilder:=by kernel_rfl
 t5:=Tryz.underlying5
 a5:=Tryz.isAgg5
 z5:=Tryz.sizeOf5
 v5:=Tryz.zeroValue5
 infoByte:=by kernel_rfl
 cellsByte:=by kernel_rfl
 sizeByte:=by kernel_rfl
 neB5:=by decide
end Go.Proofs
namespace Go.Ax
open Go.Proofs Go.RowKit
set_option maxRecDepth 100000

abbrev iCmpS:Nat:=56
theorem heCmpS:enters DP iCmpS=true:=by kernel_rfl
def cmpS (a b:ByteArray):Int:=Lib.compareBytes a.data.toList b.data.toList
def RCmpS:List AV→AV→Prop:=fun args r=>∃ a b:ByteArray,args= [vs a,vs b]∧r=vi (cmpS a b)
noncomputable def gCmpS:=relG RCmpS
theorem SCmpS:SoundF DP iCmpS (.pure gCmpS):=sound_lib heCmpS (by
 rintro args r ⟨a,b,rfl,rfl⟩
 refine ⟨[.string a, .string b], .int .i64 (cmpS a b),rfl,fun F B ρ w=> .p _ _ (.v _),fun w hg=>?_⟩
 refine (Any.strings_Compare Tryz.cmpA a b w).mono ?_
 rintro e w' ⟨rfl,rfl⟩
 exact ⟨rfl,Below.refl _ _⟩)
theorem gCmpS_eq (a b:ByteArray):gCmpS [vs a,vs b]=some (vi (cmpS a b)):=relG_eq (by
 rintro args r r' ⟨a1,b1,h1,rfl⟩ ⟨a2,b2,h2,rfl⟩
 rw[h1] at h2
 simp at h2
 rw[h2.1,h2.2]) ⟨a,b,rfl,rfl⟩
abbrev iRep:Nat:=18
theorem heRep:enters DP iRep=true:=by kernel_rfl
def RRep:List AV→AV→Prop:=fun args r=>∃ (s:ByteArray) (c:Int),(0≤c∧c≤64)∧s.size≤1000000000∧args= [vs s,vi c]∧r=vs (repB s c.toNat)
noncomputable def gRep:=relG RRep
theorem SRep:SoundF DP iRep (.pure gRep):=sound_lib heRep (by
 rintro args r ⟨s,c,hc,hs,rfl,rfl⟩
 obtain ⟨n,rfl⟩:=Int.eq_ofNat_of_zero_le hc.1
 refine ⟨[.string s, .int .i64 n], .string (repB s n),rfl,fun F B ρ w=> .p _ _ (.v _),fun w hg=>?_⟩
 have hm:s.size*n≤s.size*64:=Nat.mul_le_mul_left _ (by omega)
 exact Any.strings_Repeat Tryz.repA Tryz.repX s n w (by omega) (by omega))
theorem gRep_eq {s:ByteArray} {c:Int} (hc:0≤c∧c≤64) (hs:s.size≤1000000000):gRep [vs s,vi c]=some (vs (repB s c.toNat)):=relG_eq (by
 rintro args r r' ⟨a1,b1,_,_,h1,rfl⟩ ⟨a2,b2,_,_,h2,rfl⟩
 rw[h1] at h2
 simp at h2
 rw[h2.1,h2.2]) ⟨s,c,hc,hs,rfl,rfl⟩
end Go.Ax

namespace Go.Ax
open Go.Proofs Go.RowKit
set_option maxRecDepth 100000

noncomputable def ΓG1:Env:=envP [(iCmpS,gCmpS)]

abbrev iMk1:Nat:=61
noncomputable abbrev nMk1:Func:=Tryz.f61
theorem hfMk1:DP.funcs[iMk1]? = some nMk1:=by kernel_rfl
theorem heMk1:enters DP iMk1=true:=by kernel_rfl
theorem hbMk1:nMk1.body.isSome=true:=by kernel_rfl
theorem hnMk1:nMk1.ntmps=15:=by kernel_rfl
abbrev iMay1:Nat:=77
noncomputable abbrev nMay1:Func:=Tryz.f77
theorem hfMay1:DP.funcs[iMay1]? = some nMay1:=by kernel_rfl
theorem heMay1:enters DP iMay1=true:=by kernel_rfl
theorem hbMay1:nMay1.body.isSome=true:=by kernel_rfl
theorem hnMay1:nMay1.ntmps=20:=by kernel_rfl
abbrev iFBytes:Nat:=27
noncomputable abbrev nFBytes:Func:=Tryz.f27
theorem hfFBytes:DP.funcs[iFBytes]? = some nFBytes:=by kernel_rfl
theorem heFBytes:enters DP iFBytes=true:=by kernel_rfl
theorem hbFBytes:nFBytes.body.isSome=true:=by kernel_rfl
abbrev iBParse:Nat:=41
noncomputable abbrev nBParse:Func:=Tryz.f41
theorem hfBParse:DP.funcs[iBParse]? = some nBParse:=by kernel_rfl
theorem heBParse:enters DP iBParse=true:=by kernel_rfl
theorem hbBParse:nBParse.body.isSome=true:=by kernel_rfl
noncomputable def TCmpE (x:Ent) (y:Ent):Tree:=
.call 10 (gCmpS [vs x.key,vs y.key]=some (vi (cmpS x.key y.key))) (vi (cmpS x.key y.key)) (.sp 12 ((cmpS x.key y.key) != (0:Int)) (
.leaf ⟨[0],[]⟩ [] .ret (some ([(0,vi (cmpS x.key y.key))],[]))) (
.sp 19 (decide (x.seq>y.seq)) (
.leaf ⟨[0],[]⟩ [] .ret (some ([(0,vi (-1))],[]))) (
.sp 25 (decide (x.seq<y.seq)) (
.leaf ⟨[0],[]⟩ [] .ret (some ([(0,vi 1)],[]))) (
.leaf ⟨[0],[]⟩ [] .ret (some ([(0,vi 0)],[]))))))

theorem TCmpE_chk (x:Ent) (y:Ent):fnC DP ΓG1 Δ0 Tryz.f20 [(entE.av x),(entE.av y)] [] (TCmpE x y)=TCmpE x y:=by kernel_rfl

noncomputable def TMk1 (a:Int) (L:List UInt8):Tree:=
.int 7 (IntKind.i64.wrap (Int.tdiv a 8)) (Int.tdiv a 8) (.ridx 8 L.length (Int.tdiv a 8) (.rload 9 (rowC (L.map byteE.f)) (0+Int.toNat (Int.tdiv a 8)*1) byteE L (Int.tdiv a 8) 0 (fun e1=> .val (some 12) ((binA DP .shl 5 (vn .u8 1) (vi (Int.tmod a 8))).map (fun v=>(v,([.cells false 0 ([.rs 1 0 1 0 L.length]),byteE.bx 0 L]:List Box)))=some (vn .u8 (IntKind.u8.wrap (1*2 ^ (min (Int.toNat (Int.tmod a 8)) 8))),[.cells false 0 ([.rs 1 0 1 0 L.length]),byteE.bx 0 L])) (vn .u8 (IntKind.u8.wrap (1*2 ^ (min (Int.toNat (Int.tmod a 8)) 8)))) [.cells false 0 ([.rs 1 0 1 0 L.length]),byteE.bx 0 L] (.int 13 (IntKind.u8.wrap ((BitVec.ofInt IntKind.u8.bits (e1.toNat:Int) ||| BitVec.ofInt IntKind.u8.bits (IntKind.u8.wrap (1*2 ^ (min (Int.toNat (Int.tmod a 8)) 8)))).toNat)) (orI (e1.toNat:Int) (IntKind.u8.wrap (1*2 ^ (min (Int.toNat (Int.tmod a 8)) 8)))) (.ridx 14 L.length (Int.tdiv a 8) (.rstore none (rowC (L.map byteE.f)) (0+Int.toNat (Int.tdiv a 8)*1) [vn .u8 (orI (e1.toNat:Int) (IntKind.u8.wrap (1*2 ^ (min (Int.toNat (Int.tmod a 8)) 8))))] byteE L (Int.tdiv a 8) (UInt8.ofNat (Int.toNat (orI (e1.toNat:Int) (IntKind.u8.wrap (1*2 ^ (min (Int.toNat (Int.tmod a 8)) 8)))))) (.leaf ⟨[0],[(0,0,none),(1,0,some ((L.set (Int.toNat (Int.tdiv a 8)) (UInt8.ofNat (Int.toNat (orI (e1.toNat:Int) (IntKind.u8.wrap (1*2 ^ (min (Int.toNat (Int.tmod a 8)) 8))))))).map byteE.f))]⟩ [rowC ((L.set (Int.toNat (Int.tdiv a 8)) (UInt8.ofNat (Int.toNat (orI (e1.toNat:Int) (IntKind.u8.wrap (1*2 ^ (min (Int.toNat (Int.tmod a 8)) 8))))))).map byteE.f)] .ret (some ([(0,vb true)],[.cells false 0 ([.rs 1 0 1 0 L.length]),byteE.bx 0 (L.set (Int.toNat (Int.tdiv a 8)) (UInt8.ofNat (Int.toNat (orI (e1.toNat:Int) (IntKind.u8.wrap (1*2 ^ (min (Int.toNat (Int.tmod a 8)) 8)))))))])))))))))

theorem TMk1_chk (a:Int) (L:List UInt8):fnC DP Γ0 Δ0 Tryz.f61 [vi a, .ptr 0 0 0] [.cells false 0 ([.rs 1 0 1 0 L.length]),byteE.bx 0 L] (TMk1 a L)=TMk1 a L:=by kernel_rfl

noncomputable def TMay1 (a:Int) (m:Bool) (bits:List UInt8):Tree:=
.sp 5 m (
.int 10 (IntKind.i64.wrap (Int.tdiv a 8)) (Int.tdiv a 8) (.elem 11 (bits.map byteE.f) byteE bits (Int.tdiv a 8) (fun e1=> .val (some 15) ((binA DP .shr 5 (vn .u8 (e1.toNat:Int)) (vi (Int.tmod a 8))).map (fun v=>(v,([.cells false 0 ([vb m]), .cells false 0 ([vl (bits.map byteE.f)])]:List Box)))=some (vn .u8 (Int.fdiv (e1.toNat:Int) (2 ^ (min (Int.toNat (Int.tmod a 8)) 8))),[.cells false 0 ([vb m]), .cells false 0 ([vl (bits.map byteE.f)])])) (vn .u8 (Int.fdiv (e1.toNat:Int) (2 ^ (min (Int.toNat (Int.tmod a 8)) 8)))) [.cells false 0 ([vb m]), .cells false 0 ([vl (bits.map byteE.f)])] (.int 16 (IntKind.u8.wrap ((BitVec.ofInt IntKind.u8.bits (Int.fdiv (e1.toNat:Int) (2 ^ (min (Int.toNat (Int.tmod a 8)) 8))) &&& BitVec.ofInt IntKind.u8.bits 1).toNat)) ((Int.fdiv (e1.toNat:Int) (2 ^ (min (Int.toNat (Int.tmod a 8)) 8))) % 2) (.leaf ⟨[0],[(0,0,none),(1,0,none)]⟩ [] .ret (some ([(0,vb (((Int.fdiv (e1.toNat:Int) (2 ^ (min (Int.toNat (Int.tmod a 8)) 8))) % 2) == (1:Int)))],[.cells false 0 ([vb (((Int.fdiv (e1.toNat:Int) (2 ^ (min (Int.toNat (Int.tmod a 8)) 8))) % 2) == (1:Int))]), .cells false 0 ([vl (bits.map byteE.f)])]))))))) (
.leaf ⟨[0],[(0,0,none),(1,0,none)]⟩ [] .ret (some ([(0,vb false)],[.cells false 0 ([vb false]), .cells false 0 ([vl (bits.map byteE.f)])])))

theorem TMay1_chk (a:Int) (m:Bool) (bits:List UInt8):fnC DP Γ0 Δ0 Tryz.f77 [vi a, .ptr 0 0 0, .ptr 1 0 0] [.cells false 0 ([vb m]), .cells false 0 ([vl (bits.map byteE.f)])] (TMay1 a m bits)=TMay1 a m bits:=by kernel_rfl

noncomputable def TFBytes (bits:List UInt8):Tree:=
.app 6 (.ls (bits.map byteE.f)) 1 ([vn .u8 6]) byteE ([6]) bits (.leaf ⟨[0],[(1,1,some ((([6])++bits).map byteE.f))]⟩ [rowC ((([6])++bits).map byteE.f)] .ret (some ([(0, .rs 0 0 1 0 ((([6])++bits).length))],[byteE.bx 0 (([6])++bits)])))

theorem TFBytes_chk (bits:List UInt8):fnC DP Γ0 Δ0 Tryz.f27 [.agg [vl (bits.map byteE.f)]] [] (TFBytes bits)=TFBytes bits:=by kernel_rfl

noncomputable def TBParse (b:List UInt8):Tree:=
.int 5 ((b.map byteE.f).length:Int) (b.length:Int) (.sp 6 (decide ((b.length:Int)<(9:Int))) (
.leaf ⟨[0],[]⟩ [] .ret (some ([(0, .tup [.agg [nilS],vi 2])],[]))) (
.int 9 ((b.map byteE.f).length:Int) (b.length:Int) (.sp 10 (decide ((b.length:Int)>(1048577:Int))) (
.leaf ⟨[0],[]⟩ [] .ret (some ([(0, .tup [.agg [nilS],vi 2])],[]))) (
.elem 14 (b.map byteE.f) byteE b 0 (fun e1=> .sp 16 ((e1.toNat:Int) != (6:Int)) (
.leaf ⟨[0],[]⟩ [] .ret (some ([(0, .tup [.agg [nilS],vi 2])],[]))) (
.cut 20 (b.map byteE.f) (some 1) none byteE b (.appn 21 (.ls ((cutL (some 1) none b).map byteE.f)) byteE (cutL (some 1) none b) (.leaf ⟨[0],[(1,0,some ((cutL (some 1) none b).map byteE.f))]⟩ [rowC ((cutL (some 1) none b).map byteE.f)] .ret (some ([(0, .tup [.agg [.rs 0 0 1 0 ((cutL (some 1) none b).length)],vi 0])],[byteE.bx 0 (cutL (some 1) none b)]))))))))))

theorem TBParse_chk (b:List UInt8):fnC DP Γ0 Δ0 Tryz.f41 [vl (b.map byteE.f)] [] (TBParse b)=TBParse b:=by kernel_rfl

end Go.Ax
