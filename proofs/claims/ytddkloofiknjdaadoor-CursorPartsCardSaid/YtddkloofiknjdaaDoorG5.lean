/- What one operation does in a world is what the second reading says: append. -/
import Derived.Test.YtddkloofiknjdaaDoorG4
import Derived.WalkSpells
import Derived.Laws.StructEq
import Derived.Laws.BytesString
import Derived.Laws.Concat
set_option linter.unusedVariables false
set_option linter.unusedSimpArgs false
set_option linter.unusedSectionVars false
namespace Go.Ax
open Go.RowKit

variable [Glob] {P : Program} {F : Nat → Prop}

theorem ext_row {B:List Box} {ρ:Loc} {w w':World} {b:Nat} {row:Bool} {v:Nat} {cs:List AV} (hb:B[b]? = some (.cells row v cs)) (cs':List AV) (l:Option (Nat×Nat))
  (hs:w.heap.size≤w'.heap.size) (ho:w'.os=w.os) (ht:w'.tape=w.tape) (hp:w'.output=w.output)
  (hk:∀ k,k<w.heap.size→(∀ k' o',ρ b=some (k',o')→k≠k')→w'.heap[k]? = w.heap[k]?) (hsh:∀ k e n,w.shape? k=some (e,n)→w'.shape? k=some (e,n))
  (hl:∀ k o,l=some (k,o)→w.heap.size≤k∨∃ o',ρ b=some (k,o')) (hF:∀ k o,ρ b=some (k,o)→¬F k):
  Ext F B ρ w (B.set b (.cells row (v+1) cs')) (fun c=>if c=b then l else ρ c) w':=by
 have hlt:b<B.length:=(List.getElem?_eq_some_iff.1 hb).1
 refine ⟨hs,ho,ht,hp,fun k hkl hno=>⟨hk k hkl (fun k' o' hr e=>hno (.cells hb (e▸hr))),?_⟩,hsh,by simp,fun c row' v' cs'' hc h=>?_,fun c cs'' Φ hc h=>?_,fun k hFk hkl=>hk k hkl (fun k' o' hr e=>hF k' o' hr (e▸hFk))⟩
 ·rintro (hFk | ⟨c,x,l',h1,h2,h3⟩)
  ·exact hno (.inl hFk)
  by_cases e:c=b
  ·subst e
   simp only[if_true] at h2
   simp[hlt] at h1
   subst h1
   have e:k=l'.1:=h3
   rcases hl k l'.2 (by rw[e]; exact h2) with h | ⟨o',h⟩
   ·omega
   ·exact hno (.cells hb h)
  ·simp only[e,if_false] at h2
   rw[List.getElem?_set,if_neg (fun h=>e h.symm)] at h1
   exact hno (.inr ⟨c,x,l',h1,h2,h3⟩)
 ·rw[List.getElem?_set] at h
  split at h
  ·rename_i e
   subst e
   simp only[hlt,if_true,Option.some.injEq,Box.cells.injEq] at h
   obtain ⟨rfl,rfl,rfl⟩:=h
   exact ⟨v,cs,hb,by omega,fun h=>by omega⟩
  ·rename_i e
   have e':c≠b:=fun h=>e h.symm
   exact ⟨v',cs'',h,Nat.le_refl _,fun _=>⟨by simp[e'],rfl⟩⟩
 ·rw[List.getElem?_set] at h
  split at h
  ·rename_i e; subst e; simp[hlt] at h
  ·rename_i e
   have e':c≠b:=fun h=>e h.symm
   exact ⟨cs'',Φ,h,by simp[e']⟩

theorem src_run {B:List Box} {ρ:Loc} {w:World} (hI:Inv F B ρ w) {t:TypeId} {sz n:Nat} {x:AV} {u:Value} {new:List AV} (hx:VRel F B ρ w x u) (hm:srcA P t B sz x=some (n,new))
  (hlf:new.all AV.leaf=true) (hlen:new.length=n*sz):∃ us:List Value,Src P sz t u n us w∧CellsRel F B ρ w new us.toArray:=by
 have leaf1:∀ (us:List Value),CellsRel F B ρ w new us.toArray→∀ q∈us,q.oneCell'=true:=by
  intro us h q hq
  obtain ⟨j,hj⟩:=List.getElem?_of_mem hq
  have hjl:j<new.length:=by rw[h.1]; simpa using (List.getElem?_eq_some_iff.1 hj).1
  rw[←vleaf_one]
  exact leaf_of_vrel (h.2 j _ q (List.getElem?_eq_getElem hjl) (by simpa using hj)) (List.all_eq_true.1 hlf _ (List.getElem_mem hjl))
 unfold srcA at hm
 split at hm
 ·rename_i e hu
  cases hm
  cases hx with
  | p _ y hp=>
   cases hp
   exact ⟨[],Src.ofNil w hu 0,⟨rfl,fun i c u h=>by simp at h⟩⟩
 ·rename_i e xs hu
  split at hm
  ·rename_i hall
   cases hm
   cases hx with
   | p _ y hp=>
    cases hp with
    | nil a cap h=>
     refine ⟨[],?_,⟨rfl,fun i c u h=>by simp at h⟩⟩
     cases a with
     | none=>exact Src.ofNil w hu cap
     | some a=>exact Src.ofSlice w hu a 0 cap [] (by simp) (fun j u h=>by simp at h) (fun u h=>by simp at h)
    | ls _ a cap us h1 h2 h3 h4 h5 h6 h7=>
     have hc:CellsRel F B ρ w ((xs.flatMap PV.cells).map AV.p) us.toArray:=by
      refine ⟨by simpa using h5,fun i c u hi hu=>?_⟩
      rw[List.getElem?_map] at hi
      cases hq:(xs.flatMap PV.cells)[i]? with
      | none=>rw[hq] at hi; cases hi
      | some q=>rw[hq] at hi; cases hi; exact .p _ _ (h7 i q u hq (by simpa using hu))
     exact ⟨us,Src.ofSlice w hu a _ cap us (by rw[←h5]; simpa using hlen) h6 (leaf1 us hc),hc⟩
  ·cases hm
 ·rename_i e b ver sz' off len hu
  split at hm
  ·rename_i row vv cs hb
   split at hm
   ·rename_i hc
    cases hm
    simp only[Bool.and_eq_true,beq_iff_eq] at hc
    obtain ⟨hv,rfl⟩:=hc
    have hv':ver=vv:=Nat.eq_of_beq_eq_true hv
    subst hv'
    cases hx with
    | rs _ _ _ _ _ a cap hok=>
     obtain ⟨g1,g2,g3,g4⟩:=hok
     obtain ⟨_,g5⟩:=g4 _ _ _ hb
     obtain ⟨g6,g7⟩:=g5 rfl
     rcases g7 with h0 | ⟨k,o',hr,ha,e',m,hsh,hle⟩
     ·have hn:n=0:=by omega
      subst hn
      refine ⟨[],?_,by simp[CellsRel]⟩
      cases a with
      | none=>exact Src.ofNil w hu cap
      | some a=>exact Src.ofSlice w hu a 0 cap [] (by simp) (fun j u h=>by simp at h) (fun u h=>by simp at h)
     ·obtain ⟨us,e2,fr,q1,q2,q3,q4⟩:=hI.cell hb hr
      have hlen':((cs.drop off).take (n*sz)).length=n*sz:=by simp; omega
      have hus:(us.toList.drop (o'+off)).take (n*sz)=(us.toList.drop (o'+off)).take (n*sz):=rfl
      have hlu:((us.toList.drop (o'+off)).take (n*sz)).length=n*sz:=by simp; omega
      have hc:CellsRel F B ρ w ((cs.drop off).take (n*sz)) ((us.toList.drop (o'+off)).take (n*sz)).toArray:=by
       refine ⟨by simp; omega,fun i c u hi hui=>?_⟩
       rw[List.getElem?_take] at hi
       split at hi
       ·rename_i hlt
        rw[List.getElem?_drop] at hi
        obtain ⟨u',f1,f2⟩:=q4 _ c hi
        have:(us.toList.drop (o'+off))[i]? = some u:=by
         have h:=hui
         simp only[List.getElem?_toArray] at h
         rw[List.getElem?_take,if_pos hlt] at h
         exact h
        rw[List.getElem?_drop] at this
        have e3:us[o'+off+i]? = some u:=by simpa using this
        rw[show o'+(off+i)=o'+off+i by omega] at f1
        rw[e3] at f1
        cases f1
        exact f2
       ·cases hi
      subst ha
      refine ⟨_,Src.ofSlice w hu _ n cap _ hlu (fun j u hj=>?_) (leaf1 _ hc),hc⟩
      rw[List.getElem?_take] at hj
      split at hj
      ·rw[List.getElem?_drop] at hj
       rw[Addr.add_lit,cell_of q1]
       simpa using hj
      ·cases hj
   ·cases hm
  ·cases hm
 ·rename_i s hu
  split at hm
  ·rename_i h1
   have h1':sz=1:=by simpa using h1
   subst h1'
   cases hm
   cases hx with
   | p _ y hp=>
    cases hp
    refine ⟨_,Src.ofString w hu s,?_⟩
    refine ⟨by simp[byteCells],fun i c u hi hui=>?_⟩
    simp only[List.getElem?_map,List.getElem?_toArray,byteCells] at hi hui
    cases hq:s.data.toList[i]? with
    | none=>rw[hq] at hi; cases hi
    | some q=>rw[hq] at hi hui; cases hi; cases hui; exact .p _ _ (.v _)
  ·cases hm
 ·cases hm

theorem append_run {B B':List Box} {ρ:Loc} {w:World} (hI:Inv F B ρ w) {t tx ty:TypeId} {s x v:AV} {us ux:Value} (hs:VRel F B ρ w s us) (hx:VRel F B ρ w x ux)
  (hm:appendA P t tx B s x=some (v,B')):
  ∃ y w' ρ',(Builtin.append_ #[t,tx] ty #[us,ux]).run P w= .ok y w'∧Inv F B' ρ' w'∧Ext F B ρ w B' ρ' w'∧VRel F B' ρ' w' v y:=by
 unfold appendA at hm
 cases he:elemT P t with
 | none=>rw[he] at hm; cases hm
 | some e=>
 rw[he] at hm
 simp only[Option.bind_some] at hm
 cases hsz:sizeT P e with
 | none=>rw[hsz] at hm; cases hm
 | some sz=>
 rw[hsz] at hm
 simp only[Option.bind_some] at hm
 obtain ⟨i,hi,his⟩:=sizeT_info hsz
 rw[hi] at hm
 simp only[Option.map_some,Option.bind_some] at hm
 split at hm
 ·cases hm
 rename_i hcond
 simp only[Bool.or_eq_true,not_or,Bool.not_eq_true,Bool.not_eq_false',beq_iff_eq] at hcond
 obtain ⟨⟨⟨c1,c2⟩,c3⟩,c4⟩:=hcond
 have hsz0:sz≠0:=fun h=>by subst h; cases c1
 have hby0:i.bytes≠0:=fun h=>by rw[h] at c2; cases c2
 cases hz:zeroA P e with
 | none=>rw[hz] at c3; cases c3
 | some z=>
 rw[hz] at c3 c4
 simp only[Option.map_some,Option.some.injEq] at c3 c4
 obtain ⟨zv,hz1,hz2⟩:=zero_run hz w c4
 have hzi:i.zero=some zv:=by
  have:=hz1
  simp only[zeroValue,typeInfo,Sem.run_bind,run_program,Result.andThen_ok,hi,Sem.run_pure] at this
  cases hh:i.zero with
  | none=>rw[hh] at this; simp[unsupported] at this
  | some y=>rw[hh] at this; simp at this; rw[this]
 have hzs:zv.cells.size=sz:=by rw[←(hz2 F B ρ w).1,c3]
 have hu:=elemT_some he
 cases hsr:srcA P tx B sz x with
 | none=>rw[hsr] at hm; cases hm
 | some nn=>
 obtain ⟨n,new⟩:=nn
 rw[hsr] at hm
 simp only[Option.bind_some] at hm
 split at hm
 ·cases hm
 rename_i hcond2
 simp only[Bool.or_eq_true,not_or,Bool.not_eq_true,Bool.not_eq_false'] at hcond2
 obtain ⟨d1,d2⟩:=hcond2
 have hnl:new.length=n*sz:=Nat.eq_of_beq_eq_true d2
 obtain ⟨news,hsrc,hnews⟩:=src_run hI hx hsr d1 hnl
 have hnewsl:news.length=n*sz:=by rw[←hnl]; simpa using hnews.1.symm
 have hsrc':Src P i.size tx ux n news w:=by rw[his]; exact hsrc
 -- a new row, made of old cells and new ones
 have grow:∀ (base:Option Addr) (len cap:Nat) (olds:List Value) (oldA:List AV),us= .slice base len cap→cap<len+n→(len+n)*i.bytes≤140737488355328 →
   (Builtin.firstCells i.size len (.slice base len cap)).run P w.drew= .ok olds.toArray w.drew→CellsRel F B ρ w oldA olds.toArray→oldA.length=len*sz →
   ∃ c,(Builtin.append_ #[t,tx] ty #[us,ux]).run P w= .ok (.slice (some ⟨w.heap.size,0,none⟩) (len+n) c) (w.drew.alloc (.cells ((olds++news).toArray++Builtin.zeroCells zv.cells (c - (len+n))) e))∧len+n≤c ∧
    ((olds++news).toArray++Builtin.zeroCells zv.cells (c - (len+n))).size=c*sz ∧
    ∀ (j:Nat) (q:AV),(oldA++new)[j]? = some q→∃ u,((olds++news).toArray++Builtin.zeroCells zv.cells (c - (len+n)))[j]? = some u∧VRel F B ρ w q u:=by
  intro base len cap olds oldA hus hg hb hold holdR hol
  have hlenb:len+n≤140737488355328:=Nat.le_trans (Nat.le_mul_of_pos_right _ (Nat.pos_of_ne_zero hby0)) hb
  have hr:=run_append_grow_src (P:=P) w t tx ty e i zv hu hi hzi base len cap olds hold ux n news hsrc' hg (by omega) (growslice_fits hg hb)
  have hge:=grownCap_ge w (len+n) cap e
  refine ⟨grownCap w (len+n) cap e,by rw[hus]; exact hr,hge,?_,fun j q hq=>?_⟩
  ·have hol':olds.length=len*sz:=by rw[←hol]; simpa using holdR.1.symm
   simp only[Array.size_append,List.size_toArray,List.length_append,size_zeroCells,hzs,hol',hnewsl,←Nat.add_mul]
   congr 1
   omega
  ·have hol':olds.length=len*sz:=by rw[←hol]; simpa using holdR.1.symm
   rw[List.getElem?_append] at hq
   have hjl:j<olds.length+news.length:=by
    split at hq
    ·omega
    ·have:=(List.getElem?_eq_some_iff.1 hq).1
     omega
   rw[Array.getElem?_append_left (by simpa using hjl)]
   simp only[List.getElem?_toArray]
   split at hq
   ·rename_i hlt
    obtain ⟨u,h1,h2⟩:=holdR.get j q hq
    rw[List.getElem?_append_left (by omega)]
    exact ⟨u,by simpa using h1,h2⟩
   ·rename_i hlt
    obtain ⟨u,h1,h2⟩:=hnews.get _ q hq
    rw[List.getElem?_append_right (by omega),hol',←hol]
    exact ⟨u,by simpa using h1,h2⟩
 split at hm
 ·-- onto the nil slice
  split at hm
  ·rename_i hb
   rw[Nat.ble_eq] at hb
   cases hm
   cases hs with
   | p _ y hp=>
   cases hp
   rcases Nat.eq_zero_or_pos n with h0 | h0
   ·subst h0
    have hnil:new= []:=List.eq_nil_of_length_eq_zero (by simpa using hnl)
    subst hnil
    obtain ⟨g1,g2⟩:=new_nil hI
    refine ⟨.slice none 0 0,w,_,?_,g1,g2, .rs _ _ _ _ _ _ _ ⟨by simp,Nat.le_refl _,fun h=>by omega,fun row v cs' h=>?_⟩⟩
    ·rcases hsrc.kind with ⟨e',hk⟩ | hk <;> simp[Builtin.append_,run_underlying hu,run_underlying hk,sizeOf,typeInfo,hi,hsrc.len,hsrc'.cells]
    ·simp at h
     obtain ⟨rfl,rfl,rfl⟩:=h
     exact ⟨Nat.le_refl _,fun _=>⟨by simp, .inl rfl⟩⟩
   ·obtain ⟨c,r1,r2,r3,r4⟩:=grow none 0 0 [] [] rfl (by omega) (by simpa using hb) (run_firstCells_none w.drew _ _ _ _) ⟨rfl,fun i c u h=>by simp at h⟩ (by simp)
    simp only[Nat.zero_add,List.nil_append] at r1 r2 r3 r4
    obtain ⟨g1,g2⟩:=new_box (w':=w.drew.alloc (.cells (news.toArray++Builtin.zeroCells zv.cells (c - n)) e)) hI true (e:=e) (fr:=(0,0)) d1 (by rw[r3,hnl]; exact Nat.mul_le_mul_right _ r2) r4 (.zero _) rfl rfl rfl rfl
    refine ⟨_,_,_,r1,g1,g2, .rs _ _ _ _ _ _ _ ⟨by simp,r2,fun _=>rfl,fun row v cs' h=>?_⟩⟩
    simp at h
    obtain ⟨rfl,rfl,rfl⟩:=h
    refine ⟨Nat.le_refl _,fun _=>⟨by omega, .inr ⟨w.heap.size,0,by simp,rfl,e,c*sz,?_,by omega⟩⟩⟩
    have hh:∀ o:Obj,(w.drew.alloc o).heap[w.heap.size]? = some o:=fun o=>heap_alloc_new w.drew o
    simp only[World.shape?,hh,r3]
  ·cases hm
 ·-- onto a row
  rename_i b ver sz' off len
  split at hm
  ·rename_i vv cs hbx
   split at hm
   ·rename_i hc
    simp only[Bool.and_eq_true,beq_iff_eq,Nat.ble_eq] at hc
    obtain ⟨⟨hv,rfl⟩,hbd⟩:=hc
    have hv':ver=vv:=Nat.eq_of_beq_eq_true hv
    subst hv'
    cases hm
    have hlt:b<B.length:=(List.getElem?_eq_some_iff.1 hbx).1
    cases hs with
    | rs _ _ _ _ _ a cap hok=>
    obtain ⟨g1,g2,g3,g4⟩:=hok
    obtain ⟨_,g5⟩:=g4 _ _ _ hbx
    obtain ⟨g6,g7⟩:=g5 rfl
    have hcsl:=hI.leaf _ _ _ _ hbx
    have hnewleaf:((cs.drop off).take (len*sz)++new).all AV.leaf=true:=by
     rw[List.all_append,Bool.and_eq_true]
     refine ⟨?_,d1⟩
     rw[List.all_eq_true] at hcsl ⊢
     intro q hq
     exact hcsl q (List.mem_of_mem_drop (List.mem_of_mem_take hq))
    have hpl:((cs.drop off).take (len*sz)).length=len*sz:=by simp; omega
    have hnewlen:((cs.drop off).take (len*sz)++new).length=(len+n)*sz:=by rw[List.length_append,hpl,hnl,Nat.add_mul]
    -- the arm that grows
    have growArm:∀ (olds:List Value),cap<len+n→(Builtin.firstCells i.size len (.slice a len cap)).run P w.drew= .ok olds.toArray w.drew→CellsRel F B ρ w ((cs.drop off).take (len*sz)) olds.toArray →
      ∃ y w' ρ',(Builtin.append_ #[t,tx] ty #[.slice a len cap,ux]).run P w= .ok y w'∧Inv F (B.set b (.cells true (ver+1) ((cs.drop off).take (len*sz)++new))) ρ' w' ∧
       Ext F B ρ w (B.set b (.cells true (ver+1) ((cs.drop off).take (len*sz)++new))) ρ' w'∧VRel F (B.set b (.cells true (ver+1) ((cs.drop off).take (len*sz)++new))) ρ' w' (.rs b (ver+1) sz 0 (len+n)) y:=by
     intro olds hg hold holdR
     obtain ⟨c,r1,r2,r3,r4⟩:=grow a len cap olds _ rfl hg hbd hold holdR hpl
     have hE:Ext F B ρ w (B.set b (.cells true (ver+1) ((cs.drop off).take (len*sz)++new))) (fun c=>if c=b then some (w.heap.size,0) else ρ c) (w.drew.alloc (.cells ((olds++news).toArray++Builtin.zeroCells zv.cells (c - (len+n))) e)):=by
      refine ext_row hbx _ _ (by simp) rfl rfl rfl (fun k hk _=>Below.heap_alloc w.drew _ k hk) (fun k e n h=>?_) (fun k o h=>by cases h; exact .inl (Nat.le_refl _)) (fun k o h=>hI.farb _ _ _ _ _ _ hbx h)
      have hk:k<w.heap.size:=by
       unfold World.shape? at h
       split at h
       ·rename_i hh; exact (Array.getElem?_eq_some_iff.1 hh).1
       ·cases h
      unfold World.shape? at h ⊢
      rw[Below.heap_alloc w.drew _ k hk]
      exact h
     refine ⟨_,_,_,r1,hI.other hbx hE (fun c hc=>by simp[hc]) hnewleaf (fun c x l k hne hc hl hx=>Below.heap_alloc w.drew _ k (hI.haslt hc hl hx)) (fun c x l k o' hne hc hl hx h=>?_) (fun k o h hF=>by simp at h; have:=hI.bound k hF; omega) (fun _ _ h=>by cases h) (.inr ⟨w.heap.size,0,_,e,(0,0),by simp,heap_alloc_new w.drew _,?_, .zero _,fun j q hq=>?_⟩),hE,?_⟩
     ·simp at h
      have:=hI.haslt hc hl hx
      omega
     ·rw[r3,hnewlen,Nat.zero_add]; exact Nat.mul_le_mul_right _ r2
     ·obtain ⟨u,f1,f2⟩:=r4 j q hq
      exact ⟨u,by rw[Nat.zero_add]; exact f1,f2.ext hE⟩
     ·refine .rs _ _ _ _ _ _ _ ⟨by simpa using hlt,r2,fun _=>rfl,fun row v cs' h=>?_⟩
      simp[hlt] at h
      obtain ⟨rfl,rfl,rfl⟩:=h
      refine ⟨Nat.le_refl _,fun _=>⟨by rw[hnewlen]; omega, .inr ⟨w.heap.size,0,by simp,rfl,e,c*sz,?_,by omega⟩⟩⟩
      have hh:∀ o:Obj,(w.drew.alloc o).heap[w.heap.size]? = some o:=fun o=>heap_alloc_new w.drew o
      simp only[World.shape?,hh,r3]
    rcases g7 with hc0 | ⟨k,o',hr,ha,e',m,hsh,hle⟩
    ·-- no capacity
     have hl0:len=0:=by omega
     subst hc0
     subst hl0
     have hfc:∀ w':World,(Builtin.firstCells i.size 0 (.slice a 0 0)).run P w'= .ok (#[]:Array Value) w':=fun w'=>by
      cases a with
      | none=>exact run_firstCells_none w' _ _ _ _
      | some a=>simp[Builtin.firstCells,loadCells,loadCellsFrom]
     have he0:CellsRel F B ρ w ((cs.drop off).take (0*sz)) ([]:List Value).toArray:=⟨by simp,fun i c u h=>by simp at h⟩
     rcases Nat.eq_zero_or_pos n with h0 | h0
     ·subst h0
      have hnil:new= []:=List.eq_nil_of_length_eq_zero (by simpa using hnl)
      subst hnil
      have hE:Ext F B ρ w (B.set b (.cells true (ver+1) ((cs.drop off).take (0*sz)++ []))) (fun c=>if c=b then none else ρ c) w:=
       ext_row hbx _ none (Nat.le_refl _) rfl rfl rfl (fun _ _ _=>rfl) (fun _ _ _ h=>h) (fun _ _ h=>by cases h) (fun k o h=>hI.farb _ _ _ _ _ _ hbx h)
      refine ⟨.slice a 0 0,w,_,?_,hI.other hbx hE (fun c hc=>by simp[hc]) hnewleaf (fun _ _ _ _ _ _ _ _=>rfl) (fun c x l k o' _ _ _ _ h=>by simp at h) (fun k o h=>by simp at h) (fun _ _ h=>by cases h) (.inl ⟨by simp,rfl,by simp⟩),hE,?_⟩
      ·rcases hsrc.kind with ⟨e',hk⟩ | hk <;> (cases a <;> simp[Builtin.append_,run_underlying hu,run_underlying hk,sizeOf,typeInfo,hi,hsrc.len,hsrc'.cells,List.eq_nil_of_length_eq_zero (show news.length=0 by simpa using hnewsl),storeCells])
      ·refine .rs _ _ _ _ _ _ _ ⟨by simpa using hlt,Nat.le_refl _,fun h=>by omega,fun row v cs' h=>?_⟩
       simp[hlt] at h
       obtain ⟨rfl,rfl,rfl⟩:=h
       exact ⟨Nat.le_refl _,fun _=>⟨by simp, .inl rfl⟩⟩
     ·exact growArm [] (by omega) (hfc w.drew) he0
    ·obtain ⟨us2,e2,fr,q1,q2,q3,q4⟩:=hI.cell hbx hr
     have hm2:m=us2.size:=by
      unfold World.shape? at hsh
      rw[q1] at hsh
      simp at hsh
      exact hsh.2.symm
     subst ha
     have hmul:len*sz≤cap*sz:=Nat.mul_le_mul_right _ g2
     by_cases hroom:len+n≤cap
     ·have hmul2:(len+n)*sz≤cap*sz:=Nat.mul_le_mul_right _ hroom
      rw[Nat.add_mul] at hmul2
      have hr2:=run_append_room_src (P:=P) w t tx ty e i hu hi k (o'+off) len cap ux n news hsrc' hroom (fun j hj=>by
       rw[cell_of q1,his]
       have:o'+off+len*sz+j<us2.size:=by omega
       rw[Array.getElem?_eq_getElem this]; rfl) (fun j hj=>by rw[his]; exact q3.no q1 _ (by omega))
      rw[his] at hr2
      obtain ⟨s1,s2,s3,s4⟩:=setCells_rest (w:=w) (k:=k) (o'+off+len*sz) news
      have hE:Ext F B ρ w (B.set b (.cells true (ver+1) ((cs.drop off).take (len*sz)++new))) (fun c=>if c=b then some (k,o'+off) else ρ c) (w.setCells k (o'+off+len*sz) news):=
       ext_row hbx _ _ (Nat.le_of_eq s1.symm) s2 s3 s4 (fun j hj hne=>heap_setCells_other _ _ (hne k o' hr)) (fun j e n h=>shape_setCells _ _ _ h) (fun k2 o2 h=>by cases h; exact .inr ⟨o',hr⟩) (fun k o h=>hI.farb _ _ _ _ _ _ hbx h)
      refine ⟨_,_,_,hr2,hI.other hbx hE (fun c hc=>by simp[hc]) hnewleaf (fun c x l k2 hne hc hl hx=>heap_setCells_other _ _ (fun e=>hne (hI.injx _ _ _ _ _ _ k hc hbx hl hr (e▸hx) rfl)))
       (fun c x l k2 o3 hne hc hl hx h=>?_) (fun k2 o2 h=>by simp at h; exact h.1▸hI.farb _ _ _ _ _ _ hbx hr) (fun _ _ h=>by cases h) (.inr ⟨k,o'+off,_,e2,fr,by simp,heap_setCells _ _ q1,?_,q3.size (arrSet_size _ _ _),fun j q hq=>?_⟩),hE,?_⟩
      ·simp at h
       exact hne (hI.injx _ _ _ _ _ (k2,o') k2 hc hbx hl (h.1▸hr) hx rfl)
      ·rw[arrSet_size,hnewlen,Nat.add_mul]; omega
      ·rw[List.getElem?_append,hpl] at hq
       split at hq
       ·rename_i hlt2
        rw[List.getElem?_take,if_pos hlt2,List.getElem?_drop] at hq
        obtain ⟨u,f1,f2⟩:=q4 _ q hq
        refine ⟨u,?_,f2.ext hE⟩
        rw[arrSet_out _ _ _ _ (by omega),show o'+off+j=o'+(off+j) by omega]
        exact f1
       ·rename_i hge
        obtain ⟨u,f1,f2⟩:=hnews.get _ q hq
        refine ⟨u,?_,f2.ext hE⟩
        have hjn:j - len*sz<news.length:=by
         have:=(List.getElem?_eq_some_iff.1 hq).1
         omega
        have:=arrSet_in us2 (o'+off+len*sz) news (j - len*sz) hjn (by omega)
        rw[show o'+off+len*sz+(j - len*sz)=o'+off+j by omega] at this
        rw[this]
        simpa using f1
      ·refine .rs _ _ _ _ _ _ _ ⟨by simpa using hlt,hroom,fun _=>rfl,fun row v cs' h=>?_⟩
       simp[hlt] at h
       obtain ⟨rfl,rfl,rfl⟩:=h
       exact ⟨Nat.le_refl _,fun _=>⟨by rw[hnewlen]; omega, .inr ⟨k,o'+off,by simp,rfl,e',m,shape_setCells _ _ _ hsh,by omega⟩⟩⟩
     ·have holdc:∀ (j:Nat) (u:Value),((us2.toList.drop (o'+off)).take (len*sz))[j]? = some u→w.cell? ((⟨k,o'+off,none⟩:Addr).add j)=some u:=fun j u hj=>by
       rw[List.getElem?_take] at hj
       split at hj
       ·rw[List.getElem?_drop] at hj
        rw[Addr.add_lit,cell_of q1]
        simpa using hj
       ·cases hj
      refine growArm ((us2.toList.drop (o'+off)).take (len*sz)) (by omega) (run_firstCells_some (P:=P) w.drew i.size len _ len cap _ (by rw[his]; simp; omega) holdc) ⟨by simp; omega,fun j q u hq hu=>?_⟩
      rw[List.getElem?_take] at hq
      split at hq
      ·rename_i hlt2
       rw[List.getElem?_drop] at hq
       obtain ⟨u',f1,f2⟩:=q4 _ q hq
       simp only[List.getElem?_toArray] at hu
       rw[List.getElem?_take,if_pos hlt2,List.getElem?_drop] at hu
       have e3:us2[o'+off+j]? = some u:=by simpa using hu
       rw[show o'+(off+j)=o'+off+j by omega,e3] at f1
       cases f1
       exact f2
      ·cases hq
   ·cases hm
  ·cases hm
 ·cases hm

end Go.Ax

namespace Go.Ax
open Go.RowKit

variable [Glob] {P : Program} {F : Nat → Prop}

theorem VRel.val {B:List Box} {ρ:Loc} {w:World} {x u:Value} (h:VRel F B ρ w (.p (.v x)) u):u=x:=by
 cases h with
 | p _ _ hp=>cases hp; rfl

theorem VRel.agg_inv {B:List Box} {ρ:Loc} {w:World} {cs:List AV} {u:Value} (h:VRel F B ρ w (.agg cs) u):∃ us:List Value,u= .agg us.toArray∧cs.length=us.length ∧
  ∀ (j:Nat) (p:AV) (u:Value),cs[j]? = some p→us[j]? = some u→VRel F B ρ w p u:=by
 cases h with
 | agg _ us h1 h2=>exact ⟨us,rfl,h1,h2⟩

theorem eqCells_struct (d:Nat) (xs ys:List Value) (w:World) {B:List Box} {ρ:Loc}:∀ (fs:List Field) (i:Nat) (ks:List CK) (as bs:List AV) (b:Bool),ckFields P fs i=some ks→eqCells ks as bs=some b →
  (∀ (j:Nat) (p:AV),as[j]? = some p→∃ u,xs[i+j]? = some u∧VRel F B ρ w p u)→(∀ (j:Nat) (p:AV),bs[j]? = some p→∃ u,ys[i+j]? = some u∧VRel F B ρ w p u) →
  (Op.eqFields (d+1) xs.toArray ys.toArray fs).run P w= .ok b w
 | [],i,ks,as,bs,b,hk,he,_,_=>by
  cases hk
  cases as <;> cases bs <;> simp[eqCells] at he
  subst he
  rfl
 | f::fs,i,ks,as,bs,b,hk,he,hx,hy=>by
  simp only[ckFields] at hk
  split at hk
  ·rename_i hc
   simp only[Bool.and_eq_true,beq_iff_eq,Bool.not_eq_true',bne_iff_ne] at hc
   obtain ⟨⟨ho,hn⟩,ha⟩:=hc
   cases hck:ckT P f.type with
   | none=>rw[hck] at hk; cases hk
   | some k=>
   rw[hck] at hk
   simp only[Option.bind_some] at hk
   cases hr:ckFields P fs (i+1) with
   | none=>rw[hr] at hk; cases hk
   | some r=>
   rw[hr] at hk
   cases hk
   cases as with
   | nil=>simp[eqCells] at he
   | cons x as=>
   cases bs with
   | nil=>simp[eqCells] at he
   | cons y bs=>
   simp only[eqCells] at he
   cases hq:eqCell k x y with
   | none=>rw[hq] at he; cases he
   | some c=>
   rw[hq] at he
   simp only[Option.bind_some] at he
   cases hq2:eqCells r as bs with
   | none=>rw[hq2] at he; cases he
   | some c2=>
   rw[hq2] at he
   cases he
   obtain ⟨u,hu1,hu2⟩:=hx 0 x rfl
   obtain ⟨v,hv1,hv2⟩:=hy 0 y rfl
   have ih:=eqCells_struct d xs ys w fs (i+1) r as bs c2 hr hq2 (fun j p hp=>by have:=hx (j+1) p (by simpa using hp); rwa[show i+(j+1)=i+1+j by omega] at this) (fun j p hp=>by have:=hy (j+1) p (by simpa using hp); rwa[show i+(j+1)=i+1+j by omega] at this)
   have hund:∃ dd,P.underlying f.type=some dd:=by
    unfold ckT at hck
    split at hck <;> first | exact ⟨_,by assumption⟩ | cases hck
   obtain ⟨dd,hdd⟩:=hund
   have hp1:(part f.type xs.toArray f.offset).run P w= .ok u w:=by
    simp only[part,Sem.run_bind,isAgg_run f.type w hdd,Result.andThen_ok,ha]
    rw[ho]
    have:xs.toArray[i]? = some u:=by simpa using hu1
    simp[this]
   have hp2:(part f.type ys.toArray f.offset).run P w= .ok v w:=by
    simp only[part,Sem.run_bind,isAgg_run f.type w hdd,Result.andThen_ok,ha]
    rw[ho]
    have:ys.toArray[i]? = some v:=by simpa using hv1
    simp[this]
   have heq:(Op.equalIn (d+1) f.type u v).run P w= .ok c w:=by
    unfold ckT at hck
    unfold eqCell at hq
    split at hq
    ·rename_i j a k' b'
     split at hck <;> cases hck
     rename_i kk hkk
     split at hq
     ·rename_i e
      subst e
      cases hq
      obtain rfl:=hu2.val
      obtain rfl:=hv2.val
      exact run_equalIn_int w d f.type j kk a b' hkk
     ·cases hq
    ·split at hck <;> cases hck
     rename_i hkk
     cases hq
     obtain rfl:=hu2.val
     obtain rfl:=hv2.val
     exact run_equalIn_string w d f.type _ _ hkk
    ·split at hck <;> cases hck
     rename_i hkk
     cases hq
     obtain rfl:=hu2.val
     obtain rfl:=hv2.val
     exact run_equalIn_bool' w d f.type _ _ hkk
    ·cases hq
   simp only[Op.eqFields,if_pos hn,Sem.run_bind,hp1,hp2,heq,Result.andThen_ok]
   cases c
   ·simp
   ·simpa using ih
  ·cases hk

theorem bin_run {B:List Box} {ρ:Loc} {w:World} {op:BinOp} {t:TypeId} {ox oy:Operand} {x y v:AV} {ux uy:Value} (hx:VRel F B ρ w x ux) (hy:VRel F B ρ w y uy) (hm:binA P op t x y=some v):
  ∃ z,(do eqGuard op t ox oy ux uy; binOp op t ux uy:Sem Value).run P w= .ok z w∧VRel F B ρ w v z:=by
 have plain:∀ (z:Value),VRel F B ρ w (.p (.v z)) z:=fun z=> .p _ _ (.v z)
 unfold binA at hm
 split at hm
 ·rename_i k a k' b
  obtain rfl:=hx.val
  obtain rfl:=hy.val
  have hg:(eqGuard op t ox oy (.int k a) (.int k' b)).run P w= .ok () w:=by cases op <;> simp[eqGuard]
  have key:∀ z,(binOp op t (.int k a) (.int k' b)).run P w= .ok z w→v= .p (.v z)→∃ z,(do eqGuard op t ox oy (.int k a) (.int k' b); binOp op t (.int k a) (.int k' b):Sem Value).run P w= .ok z w∧VRel F B ρ w v z:=by
   intro z hz hv
   refine ⟨z,?_,by rw[hv]; exact plain z⟩
   rw[Sem.run_bind,hg]
   exact hz
  have shifts:∀ {r:Option Value},shiftInt op k a b=r→(op= .shl∨op= .shr)→∀ z,r=some z→(binOp op t (.int k a) (.int k' b)).run P w= .ok z w:=by
   intro r hr ho z hz
   subst hz
   unfold shiftInt at hr
   split at hr
   ·cases hr
   ·rename_i hn
    rcases ho with rfl | rfl <;> (simp at hr; subst hr; simp[binOp,Op.shift,hn])
  cases hres:numOp op k a k' b with
  | none=>rw[hres] at hm; cases hm
  | some z=>
   rw[hres] at hm
   simp only[Option.map_some,Option.some.injEq] at hm
   refine key z ?_ hm.symm
   by_cases h1:op= .shl
   ·subst h1; exact shifts hres (.inl rfl) z rfl
   by_cases h2:op= .shr
   ·subst h2; exact shifts hres (.inr rfl) z rfl
   have hres':(if k=k' then binInt op k a b else none)=some z:=by
    cases op <;> first | exact hres | exact absurd rfl h1 | exact absurd rfl h2
   split at hres'
   ·rename_i e
    subst e
    cases op <;> simp[binInt,cmpInt] at hres' <;> first
     | (subst hres'; simp[binOp,Op.intArith,Op.intBits,Op.intCmp]; done)
     | (obtain ⟨hn,rfl⟩:=hres'; simp[binOp,Op.intDiv,hn]; done)
     | exact absurd rfl h1
     | exact absurd rfl h2
   ·cases hres'
 ·rename_i a b
  obtain rfl:=hx.val
  obtain rfl:=hy.val
  have hg:(eqGuard op t ox oy (.string a) (.string b)).run P w= .ok () w:=by cases op <;> simp[eqGuard]
  cases hres:binStr op a b with
  | none=>rw[hres] at hm; cases hm
  | some z=>
   rw[hres] at hm
   simp only[Option.map_some,Option.some.injEq] at hm
   refine ⟨z,?_,by rw[←hm]; exact plain z⟩
   rw[Sem.run_bind,hg]
   simp only[Result.andThen_ok]
   cases op <;> simp[binStr] at hres <;> first
    | (obtain ⟨hn,rfl⟩:=hres; exact (by simpa [binOp] using run_string_add_sum w a b (by omega)))
    | (subst hres; simp[binOp,Op.stringOp]; done)
 ·rename_i a b
  obtain rfl:=hx.val
  obtain rfl:=hy.val
  have hg:(eqGuard op t ox oy (.bool a) (.bool b)).run P w= .ok () w:=by cases op <;> simp[eqGuard]
  split at hm
  ·rename_i hu
   cases hm
   exact ⟨_,by rw[Sem.run_bind,hg]; exact run_eql_bool w t a b hu,plain _⟩
  ·rename_i hu
   cases hm
   exact ⟨_,by rw[Sem.run_bind,hg]; exact run_neq_bool w t a b hu,plain _⟩
  ·cases hm
 ·rename_i xs ys
  cases hck:cellKinds P t with
  | none=>rw[hck] at hm; cases hm
  | some ks=>
   rw[hck] at hm
   simp only[Option.bind_some] at hm
   obtain ⟨us,rfl,hx1,hx2⟩:=hx.agg_inv
   obtain ⟨vs,rfl,hy1,hy2⟩:=hy.agg_inv
   have hx':∀ (j:Nat) (p:AV),xs[j]? = some p→∃ u,us[0+j]? = some u∧VRel F B ρ w p u:=fun j p hp=>by
    have hj:j<us.length:=by rw[←hx1]; exact (List.getElem?_eq_some_iff.1 hp).1
    exact ⟨us[j],by rw[Nat.zero_add]; exact List.getElem?_eq_getElem hj,hx2 j p _ hp (List.getElem?_eq_getElem hj)⟩
   have hy':∀ (j:Nat) (p:AV),ys[j]? = some p→∃ u,vs[0+j]? = some u∧VRel F B ρ w p u:=fun j p hp=>by
    have hj:j<vs.length:=by rw[←hy1]; exact (List.getElem?_eq_some_iff.1 hp).1
    exact ⟨vs[j],by rw[Nat.zero_add]; exact List.getElem?_eq_getElem hj,hy2 j p _ hp (List.getElem?_eq_getElem hj)⟩
   have hguard:P.eqGuardType P.depth t=false:=by
    unfold cellKinds at hck
    split at hck
    ·cases hck
    ·rename_i h; simpa using h
   have hg:(eqGuard op t ox oy (.agg us.toArray) (.agg vs.toArray)).run P w= .ok () w:=run_eqGuard_agg w op t ox oy _ _ hguard
   have heq:∀ b,eqCells ks xs ys=some b→(Op.equalIn 10000 t (.agg us.toArray) (.agg vs.toArray)).run P w= .ok b w:=by
    intro b hb
    unfold cellKinds at hck
    rw[if_neg (by simp[hguard])] at hck
    split at hck
    ·rename_i fs hfs
     split at hck
     ·cases hck
     ·rename_i hst
      have hst':P.stoodInHeld t=false:=by simpa using hst
      have hff:P.fieldsOf t=fs:=by simp[Program.fieldsOf,hfs]
      rw[run_equalIn_struct w 9999 t _ _ (by rw[hff]; exact hfs) hst',hff]
      exact eqCells_struct 9998 us vs w fs.toList 0 ks xs ys b hck hb hx' hy'
    ·cases hck
   split at hm
   ·cases hb:eqCells ks xs ys with
    | none=>rw[hb] at hm; cases hm
    | some b=>
     rw[hb] at hm
     cases hm
     refine ⟨.bool b,?_,plain _⟩
     rw[Sem.run_bind,hg,Result.andThen_ok,run_eql_struct w t,heq b hb]
     rfl
   ·cases hb:eqCells ks xs ys with
    | none=>rw[hb] at hm; cases hm
    | some b=>
     rw[hb] at hm
     cases hm
     refine ⟨.bool (!b),?_,plain _⟩
     rw[Sem.run_bind,hg,Result.andThen_ok,run_neq_struct w t,heq b hb]
     rfl
   ·cases hm
 ·obtain rfl:=hy.val
  cases ht:elemT P t with
  | none=>rw[ht] at hm; cases hm
  | some e=>
   rw[ht] at hm
   simp only[Option.bind_some] at hm
   have hu:P.underlying t=some (.slice e):=by
    unfold elemT at ht
    split at ht
    ·cases ht; assumption
    ·cases ht
   have hsl:∀ q,isNilA x=some q→∃ a n c,ux= .slice a n c∧a.isNone=q:=by
    intro q hq
    unfold isNilA at hq
    split at hq
    ·cases hq
     obtain rfl:=hx.val
     exact ⟨none,_,_,rfl,rfl⟩
    ·cases hq
     cases hx with
     | p _ _ hp=>
      cases hp with
      | ls xs a cap us h1=>exact ⟨some a,_,_,rfl,rfl⟩
    ·split at hq
     ·rename_i hlt
      cases hq
      rw[Nat.blt_eq] at hlt
      cases hx with
      | rs _ _ _ _ _ a cap hok=>
       obtain ⟨_,g1,g2,_⟩:=hok
       have:=g2 (by omega)
       refine ⟨a,_,cap,rfl,?_⟩
       cases a <;> simp_all
     ·cases hq
    ·cases hq
   cases hq:isNilA x with
   | none=>rw[hq] at hm; cases hm
   | some q=>
    rw[hq] at hm
    obtain ⟨a,n,c,rfl,ha⟩:=hsl q hq
    have hg:(eqGuard op t ox oy (.slice a n c) (.slice none 0 0)).run P w= .ok () w:=by cases op <;> simp[eqGuard]
    simp only[Option.bind_some] at hm
    split at hm
    ·cases hm
     refine ⟨.bool q,?_,plain _⟩
     rw[Sem.run_bind,hg,←ha]
     exact Go.Lib.run_eql_slice_nil w t e a n c 0 0 hu
    ·cases hm
     refine ⟨.bool (!q),?_,plain _⟩
     rw[Sem.run_bind,hg,←ha]
     exact Go.run_neq_slice_nil_any w t e a n c 0 0 hu
    ·cases hm
 ·obtain rfl:=hy.val
  have hp:∀ q,isNilP x=some q→∃ a,ux= .pointer a∧a.isNone=q:=by
   intro q hq
   unfold isNilP at hq
   split at hq
   ·cases hq
    obtain rfl:=hx.val
    exact ⟨none,rfl,rfl⟩
   ·cases hq
    cases hx with
    | ptr _ _ _ a _=>exact ⟨some a,rfl,rfl⟩
   ·cases hq
    cases hx with
    | op _ r _=>exact ⟨_,rfl,rfl⟩
   ·cases hq
    cases hx with
    | rp _ a _ _ _ _ _ _ _=>exact ⟨some a,rfl,rfl⟩
   ·cases hq
  cases hq:isNilP x with
  | none=>rw[hq] at hm; cases hm
  | some q=>
   rw[hq] at hm
   obtain ⟨a,rfl,ha⟩:=hp q hq
   have hg:(eqGuard op t ox oy (.pointer a) (.pointer none)).run P w= .ok () w:=by cases op <;> simp[eqGuard]
   simp only[Option.bind_some] at hm
   have heq:∀ e,P.underlying t=some (.pointer e)→(Op.equal t (.pointer a) (.pointer none)).run P w= .ok q w:=by
    intro e hu
    subst ha
    have h:∀ d:Nat,(Op.equalIn (d+1) t (.pointer a) (.pointer none)).run P w= .ok a.isNone w:=fun d=>by
     cases a <;> simp[Op.equalIn,run_underlying hu]
    exact h 9999
   split at hm
   ·rename_i e hu
    cases hm
    refine ⟨.bool q,?_,plain _⟩
    rw[Sem.run_bind,hg]
    simp[binOp,heq e hu]
   ·rename_i e hu
    cases hm
    refine ⟨.bool (!q),?_,plain _⟩
    rw[Sem.run_bind,hg]
    simp[binOp,heq e hu]
   ·cases hm
 ·cases hm

end Go.Ax
