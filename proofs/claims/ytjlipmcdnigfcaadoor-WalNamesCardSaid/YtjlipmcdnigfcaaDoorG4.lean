/- What one operation does in a world is what the second reading says: literals, append. -/
import Derived.Test.YtjlipmcdnigfcaaDoorG3
import Derived.Laws.Tables
import Derived.Great.BuildSlice
set_option linter.unusedVariables false
set_option linter.unusedSimpArgs false
set_option linter.unusedSectionVars false
namespace Go.Ax
open Go.RowKit

variable [Glob] {P : Program} {F : Nat → Prop}

theorem fieldsT_some {t:TypeId} {fs:Array Field} (h:fieldsT P t=some fs):P.underlying t=some (.struct fs):=by
 unfold fieldsT at h
 split at h
 ·cases h; assumption
 ·cases h

theorem build_run {B:List Box} {ρ:Loc} {w:World} {t:TypeId} {parts:List (Nat×AV)} {vs:Array (Nat×Value)} {v:AV} (hl:parts.length=vs.size)
  (hp:∀ (i:Nat) (p:Nat×AV) (v:Nat×Value),parts[i]? = some p→vs[i]? = some v→p.1=v.1∧VRel F B ρ w p.2 v.2) (hm:buildA P t parts=some v):
  ∃ x,(Instr.build t vs).run P w= .ok x w∧VRel F B ρ w v x:=by
 unfold buildA at hm
 cases hz:zeroA P t with
 | none=>rw[hz] at hm; cases hm
 | some z=>
  rw[hz] at hm
  simp only[Option.bind_some] at hm
  split at hm
  ·rename_i hlf
   obtain ⟨u,h1,h2⟩:=zero_run hz w hlf
   have hfin:∀ (place:Nat→Option (Nat×Nat)),(fillA place z parts).map .agg=some v→∃ us,Instr.fill place u.cells vs.toList=some us∧VRel F B ρ w v (.agg us):=by
    intro place hf
    cases hff:fillA place z parts with
    | none=>rw[hff] at hf; cases hf
    | some cs=>
     rw[hff] at hf
     cases hf
     obtain ⟨us,e1,e2,_⟩:=fill_run parts vs.toList z cs u.cells (by simpa using hl) (fun i p v h1 h2=>hp i p v h1 (by simpa using h2)) (h2 F B ρ w) hlf hff
     refine ⟨us,e1,?_⟩
     have:Value.agg us= .agg us.toList.toArray:=by simp
     rw[this]
     exact .agg _ _ (by simpa using e2.1) (fun j p u h3 h4=>e2.2 j p u h3 (by simpa using h4))
   split at hm
   ·rename_i places hpl
    unfold placesT at hpl
    cases hfs:fieldsT P t with
    | none=>rw[hfs] at hpl; cases hpl
    | some fs=>
     rw[hfs] at hpl
     simp only[Option.bind_some] at hpl
     obtain ⟨us,e1,e2⟩:=hfin _ hm
     refine ⟨.agg us,?_,e2⟩
     have hu:=fieldsT_some hfs
     simp[Instr.build,h1,run_underlying hu,Array.mapM_eq_mapM_toList,run_places w _ _ hpl,e1]
   ·cases ha:arrayT P t with
    | none=>rw[ha] at hm; cases hm
    | some q=>
     obtain ⟨n,sz⟩:=q
     rw[ha] at hm
     simp only[Option.bind_some] at hm
     obtain ⟨us,e1,e2⟩:=hfin _ hm
     unfold arrayT at ha
     split at ha
     ·rename_i len e hu
      cases hsz:sizeT P e with
      | none=>rw[hsz] at ha; cases ha
      | some s=>
       rw[hsz] at ha
       cases ha
       refine ⟨.agg us,?_,e2⟩
       simp[Instr.build,h1,run_underlying hu,sizeOf_run w hsz,e1]
     ·cases ha
  ·cases hm

theorem elemT_some {t e:TypeId} (h:elemT P t=some e):P.underlying t=some (.slice e):=by
 unfold elemT at h
 split at h
 ·cases h; assumption
 ·cases h

theorem repeatL_length (z:List AV) (n:Nat):(repeatL z n).length=n*z.length:=by
 induction n with
 | zero=>simp[repeatL]
 | succ n ih=>simp[repeatL,ih,Nat.succ_mul]; omega

theorem repeatL_get (z:List AV) (n i:Nat) (hi:i<n*z.length):(repeatL z n)[i]? = z[i % z.length]? := by
 induction n generalizing i with
 | zero=>simp at hi
 | succ n ih=>
  rw[repeatL,List.getElem?_append]
  split
  ·rename_i h; rw[Nat.mod_eq_of_lt h]
  ·rename_i h
   rw[ih _ (by rw[Nat.succ_mul] at hi; omega)]
   congr 1
   rw[←Nat.mod_eq_sub_mod (by omega)]

theorem repeatL_leaf (z:List AV) (n:Nat) (h:z.all AV.leaf=true):(repeatL z n).all AV.leaf=true:=by
 induction n with
 | zero=>rfl
 | succ n ih=>rw[repeatL,List.all_append,h,ih]; rfl

theorem buildSlice_run {B B':List Box} {ρ:Loc} {w:World} (hI:Inv F B ρ w) {t:TypeId} {len:Nat} {parts:List (Nat×AV)} {vs:Array (Nat×Value)} {v:AV} (hl:parts.length=vs.size)
  (hp:∀ (i:Nat) (p:Nat×AV) (v:Nat×Value),parts[i]? = some p→vs[i]? = some v→p.1=v.1∧VRel F B ρ w p.2 v.2) (hm:buildSliceA P t len parts B=some (v,B')):
  ∃ x w' ρ',(Instr.buildSlice t len vs).run P w= .ok x w'∧Inv F B' ρ' w'∧Ext F B ρ w B' ρ' w'∧VRel F B' ρ' w' v x:=by
 unfold buildSliceA at hm
 cases he:elemT P t with
 | none=>rw[he] at hm; cases hm
 | some e=>
  rw[he] at hm
  simp only[Option.bind_some] at hm
  cases hsz:sizeT P e with
  | none=>rw[hsz] at hm; cases hm
  | some n=>
   rw[hsz] at hm
   simp only[Option.bind_some] at hm
   cases hz:zeroA P e with
   | none=>rw[hz] at hm; cases hm
   | some z=>
    rw[hz] at hm
    simp only[Option.bind_some] at hm
    split at hm
    ·rename_i hc
     simp only[Bool.and_eq_true,beq_iff_eq,Nat.ble_eq] at hc
     obtain ⟨⟨c1,c2⟩,c3⟩:=hc
     cases hf:fillA (fun i=>some (i*n,n)) (repeatL z len) parts with
     | none=>rw[hf] at hm; cases hm
     | some cs=>
      rw[hf] at hm
      simp only[Option.bind_some,Option.some.injEq,Prod.mk.injEq] at hm
      obtain ⟨rfl,rfl⟩:=hm
      obtain ⟨u,h1,h2⟩:=zero_run hz w c3
      have hu:=elemT_some he
      obtain ⟨ie,hie,hies⟩:=sizeT_info hsz
      have hzi:ie.zero=some u:=by
       have:=h1
       simp only[zeroValue,typeInfo,Sem.run_bind,run_program,Result.andThen_ok,hie,Sem.run_pure] at this
       cases hh:ie.zero with
       | none=>rw[hh] at this; simp[unsupported] at this
       | some y=>rw[hh] at this; simp at this; rw[this]
      have hbase:CellsRel F B ρ w (repeatL z len) ((Array.range (len*n)).map (u.cells[· % u.cells.size]!)):=by
       have hzs:=(h2 F B ρ w).1
       refine ⟨by rw[repeatL_length]; simp[c1],fun i c y hi hy=>?_⟩
       have hlt:i<len*n:=by
        have:=(List.getElem?_eq_some_iff.1 hi).1
        rw[repeatL_length] at this; rw[c1]; exact this
       rw[repeatL_get _ _ _ (by rw[←c1]; exact hlt)] at hi
       have hpos:0<z.length:=by
        rcases Nat.eq_zero_or_pos z.length with h0 | h0
        ·rw[c1,h0] at hlt; simp at hlt
        ·exact h0
       have hm:i % z.length<u.cells.size:=by rw[←hzs]; exact Nat.mod_lt _ hpos
       refine (h2 F B ρ w).2 (i % z.length) c y hi ?_
       simp only[Array.getElem?_map,Array.getElem?_range] at hy
       rw[if_pos hlt] at hy
       simp only[Option.map_some,Option.some.injEq] at hy
       rw[←hy,←hzs]
       rw[getElem!_pos u.cells (i % z.length) hm]
       exact Array.getElem?_eq_getElem hm
      obtain ⟨us,e1,e2,e3⟩:=fill_run parts vs.toList _ cs _ (by simpa using hl) (fun i p v h1 h2=>hp i p v h1 (by simpa using h2)) hbase (repeatL_leaf _ _ c3) hf
      obtain ⟨g1,g2⟩:=new_box (w':=w.alloc (.cells us e)) hI true (e:=e) (fr:=(0,0)) e3 (Nat.le_of_eq e2.1) (fun i c h=>e2.get i c h) (.zero _) rfl rfl rfl rfl
      have hcl:cs.length=len*n:=by
       have:∀ (parts:List (Nat×AV)) (a b:List AV),fillA (fun i=>some (i*n,n)) a parts=some b→b.length=a.length:=by
        intro parts
        induction parts with
        | nil=>intro a b h; simp only[fillA,Option.some.injEq] at h; rw[h]
        | cons p r ih=>
         intro a b h
         obtain ⟨i,x⟩:=p
         simp only[fillA] at h
         split at h
         ·rename_i hcond
          simp only[Bool.and_eq_true,beq_iff_eq,Nat.ble_eq] at hcond
          rw[ih _ _ h,splice_length _ _ _ (by rw[hcond.1.1]; exact hcond.1.2)]
         ·cases h
       rw[this _ _ _ hf,repeatL_length,c1]
      refine ⟨.slice (some ⟨w.heap.size,0,none⟩) len len,w.alloc (.cells us e),_,?_,g1,g2, .rs _ _ _ _ _ _ _ ⟨by simp,Nat.le_refl _,fun _=>rfl,fun row v cs' h=>?_⟩⟩
      ·have hsmall:¬len*ie.size>2 ^ 24:=by rw[hies]; omega
       by_cases hpos:len*ie.size=0
       ·have r0:Array.range 0 = #[]:=Array.ext' (by simp)
        have e1':Instr.fill (fun i=>some (i*ie.size,ie.size)) #[] vs.toList=some us:=by
         have e0:len*n=0:=by rw[←hies]; exact hpos
         rw[hies]
         rw[e0,r0] at e1
         rw[Array.map_empty] at e1
         exact e1
        simp only[Instr.buildSlice,Sem.run_bind,run_underlying hu,Result.andThen_ok,sizeOf,typeInfo,run_program,hie,Sem.run_pure,hsmall,if_false,hpos,if_true]
        simp[hpos,r0,e1',newRow]
       ·exact run_buildSlice (P:=P) w t e len vs us ie u hu hie hzi hsmall hpos (by rw[hies]; exact e1)
      ·simp at h
       obtain ⟨rfl,rfl,rfl⟩:=h
       refine ⟨Nat.le_refl _,fun _=>⟨by omega, .inr ⟨w.heap.size,0,by simp,rfl,e,us.size,by unfold World.shape?; rw[heap_alloc_new],by have:=e2.1; omega⟩⟩⟩
    ·cases hm

theorem _root_.List.set_getElem?_self' {α:Type} {l:List α} {i:Nat} {a:α} (h:l[i]? = some a):l.set i a=l:=by
 apply List.ext_getElem?
 intro j
 rw[List.getElem?_set]
 by_cases e:i=j
 ·subst e
  rw[if_pos rfl,if_pos (List.getElem?_eq_some_iff.1 h).1,h]
 ·rw[if_neg e]

theorem zeroCells_get {z:Array Value} {n i:Nat} (hi:i<n*z.size):(Builtin.zeroCells z n)[i]? = z[i % z.size]? := by
 unfold Builtin.zeroCells
 have hz:0<z.size:=by
  rcases Nat.eq_zero_or_pos z.size with h | h
  ·rw[h] at hi; simp at hi
  ·exact h
 have hm:i % z.size<z.size:=Nat.mod_lt _ hz
 rw[Array.getElem?_map,Array.getElem?_range]
 simp[hi,hm]

theorem clear_run {B B':List Box} {ρ:Loc} {w:World} (hI:Inv F B ρ w) {t ty:TypeId} {x:AV} {u:Value} (hx:VRel F B ρ w x u) (hm:clearA P t B x=some B'):
  ∃ w',(Builtin.clear_ #[t] ty #[u]).run P w= .ok (.tuple #[]) w'∧Inv F B' ρ w'∧Ext F B ρ w B' ρ w':=by
 unfold clearA at hm
 obtain ⟨e,he,hm⟩:=Option.bind_eq_some_iff.1 hm
 obtain ⟨sz,hsz,hm⟩:=Option.bind_eq_some_iff.1 hm
 obtain ⟨zz,hz,hm⟩:=Option.bind_eq_some_iff.1 hm
 obtain ⟨b,ver,sz',off,len,a,cap,hp,rfl,rfl⟩:∃ b ver sz' off len a cap,RsOk B ρ w b ver sz' off len a cap∧x= .rs b ver sz' off len∧u= .slice a len cap:=by
  cases hx with
  | rs b ver sz' off len a cap hp=>exact ⟨b,ver,sz',off,len,a,cap,hp,rfl,rfl⟩
  | _=>simp at hm
 simp only at hm
 split at hm
 ·rename_i row vv cs hb
  split at hm
  ·rename_i hc
   cases hm
   simp only[Bool.and_eq_true,beq_iff_eq,Nat.ble_eq] at hc
   obtain ⟨⟨⟨⟨hv,hss⟩,hzl⟩,hlf⟩,hle⟩:=hc
   have hv':ver=vv:=Nat.eq_of_beq_eq_true hv
   have hzl:zz.length=sz:=Nat.eq_of_beq_eq_true hzl
   subst hv' hss
   obtain ⟨g1,g2,g3,g4⟩:=hp
   obtain ⟨_,g5⟩:=g4 _ _ _ hb
   obtain ⟨g6,g7⟩:=g5 rfl
   obtain ⟨zv,hzv,hzr⟩:=zero_run hz w hlf
   have hrl:(repeatL zz len).length=len*sz:=by rw[repeatL_length,hzl]
   have hnil:len=0→(Builtin.clear_ #[t] ty #[.slice a len cap]).run P w= .ok (.tuple #[]) w:=fun h0=>by
    subst h0
    cases a <;> simp[Builtin.clear_,run_underlying (elemT_some he)]
   rcases Nat.eq_zero_or_pos len with h0 | hpos
   ·have hsame:splice cs off (repeatL zz len)=cs:=by
     subst h0
     unfold splice repeatL
     simp
    refine ⟨w,hnil h0,?_,?_⟩
    ·rw[hsame,List.set_getElem?_self' hb]; exact hI
    ·rw[hsame,List.set_getElem?_self' hb]; exact .refl _ _ _
   ·rcases g7 with h0 | ⟨k,o',hr,ha,e',m,hsh,hle2⟩
    ·omega
    ·subst ha
     obtain ⟨us,e0,fr,h1,h2,h3,h4⟩:=hI.cell hb hr
     have hcl:∀ (F:Nat→Prop) (B:List Box) (ρ:Loc) (w':World),(repeatL zz len).length=(Builtin.zeroCells zv.cells len).size∧∀ (i:Nat) (c:AV) (q:Value),(repeatL zz len)[i]? = some c→(Builtin.zeroCells zv.cells len)[i]? = some q→VRel F B ρ w' c q:=fun F B ρ w'=>by
      obtain ⟨q1,q2⟩:=hzr F B ρ w'
      refine ⟨by rw[hrl,size_zeroCells,←q1,hzl],fun i c q hc hq=>?_⟩
      have hi:i<len*zz.length:=by
       have:=(List.getElem?_eq_some_iff.1 hc).1
       rw[repeatL_length] at this; exact this
      rw[repeatL_get _ _ _ hi] at hc
      rw[zeroCells_get (by rw[←q1]; exact hi),←q1] at hq
      exact q2 _ c q hc hq
     generalize hzs:Builtin.zeroCells zv.cells len=zs at hcl
     have hlfr:(repeatL zz len).all AV.leaf=true:=repeatL_leaf zz len hlf
     obtain ⟨hcl1,hcl2⟩:=hcl F B ρ w
     have hlf':∀ q∈zs.toList,q.oneCell'=true:=fun q hq=>by
      obtain ⟨j,hj⟩:=List.getElem?_of_mem hq
      have hj':zs[j]? = some q:=by simpa using hj
      have hjl:j<(repeatL zz len).length:=by rw[hcl1]; exact (Array.getElem?_eq_some_iff.1 hj').1
      have:=hcl2 j _ q (List.getElem?_eq_getElem hjl) hj'
      rw[←vleaf_one]
      exact leaf_of_vrel this (List.all_eq_true.1 hlfr _ (List.getElem_mem hjl))
     have hle':off+(repeatL zz len).length≤cs.length:=by omega
     have hE:Ext F B ρ w (B.set b (.cells row ver (splice cs off (repeatL zz len)))) ρ (w.setCells k (o'+off) zs.toList):=ext_set hb hr (splice_length _ _ _ hle') (hI.farb _ _ _ _ _ _ hb hr) _ _
     refine ⟨w.setCells k (o'+off) zs.toList,?_,?_,hE⟩
     ·have hst:=run_storeCells_cells (P:=P) k (o'+off) zs.toList 0 w (fun j hj=>by
       rw[Nat.add_zero,cell_of h1]
       have hj2:j<zs.size:=by simpa using hj
       have:o'+off+j<us.size:=by omega
       rw[Array.getElem?_eq_getElem this]; rfl) (fun j hj=>by
       rw[Nat.add_zero]
       have hj2:j<zs.size:=by simpa using hj
       exact h3.no h1 _ (by omega)) hlf'
      obtain ⟨l',rfl⟩:∃ l',len=l'+1:=⟨len - 1,by omega⟩
      simp only[Builtin.clear_,Sem.run_bind,run_underlying (elemT_some he),Result.andThen_ok,List.getElem?_toArray,List.getElem?_cons_zero,hzv,hzs]
      rw[show (Addr.mk k (o'+off) none)=⟨k,o'+off,none⟩ from rfl]
      rw[hst]
      rfl
     ·refine hI.other hb hE (fun _ _=>rfl) ?_ (fun c x l k2 hne hc hl hx=>heap_setCells_other _ _ (fun e=>hne (hI.injx _ _ _ _ _ _ k hc hb hl hr (e▸hx) rfl)))
       (fun c x l k2 o3 hne hc hl hx hk'=>hne (hI.injx _ _ _ _ _ _ k2 hc hb hl hk' hx rfl)) (fun k2 o2 h2=>hI.farb _ _ _ _ _ _ hb h2) (fun k2 o2 h0 h2=>by subst h0; exact hI.off0 _ _ _ _ _ hb h2) (.inr ⟨k,o',_,e0,fr,hr,heap_setCells _ _ h1,by rw[arrSet_size,splice_length _ _ _ hle']; exact h2,h3.size (arrSet_size _ _ _),fun i c hc=>?_⟩)
      ·have hcs:=hI.leaf _ _ _ _ hb
       rw[List.all_eq_true] at hcs hlfr ⊢
       intro q hq
       unfold splice at hq
       rcases List.mem_append.1 hq with hq | hq
       ·exact hcs q (List.mem_of_mem_take hq)
       ·rcases List.mem_append.1 hq with hq | hq
        ·exact hlfr q hq
        ·exact hcs q (List.mem_of_mem_drop hq)
      ·rw[splice_get _ _ _ hle'] at hc
       have out:cs[i]? = some c→(i<off∨off+(repeatL zz len).length≤i)→∃ u,(arrSet us (o'+off) zs.toList)[o'+i]? = some u∧VRel F (B.set b (.cells row ver (splice cs off (repeatL zz len)))) ρ (w.setCells k (o'+off) zs.toList) c u:=by
        intro hci hio
        obtain ⟨u,e1,e2⟩:=h4 i c hci
        refine ⟨u,?_,e2.ext hE⟩
        rw[arrSet_out _ _ _ _ (by simp; omega)]
        exact e1
       split at hc
       ·exact out hc (.inl (by assumption))
       ·split at hc
        ·rename_i n1 n2
         have hj:i - off<zs.size:=by omega
         refine ⟨zs[i - off],?_,(hcl2 (i - off) c _ hc (Array.getElem?_eq_getElem hj)).ext hE⟩
         have:=arrSet_in us (o'+off) zs.toList (i - off) (by simpa using hj) (by simp; omega)
         rw[show o'+off+(i - off)=o'+i by omega] at this
         rw[this]
         simp[hj]
        ·exact out hc (.inr (by omega))
  ·cases hm
 ·cases hm

end Go.Ax

namespace Go.Ax
open Go.RowKit

variable [Glob] {P : Program} {F : Nat → Prop}

theorem ext_row {B:List Box} {ρ:Loc} {w w':World} {b:Nat} {row:Bool} {v:Nat} {cs:List AV} (hb:B[b]? = some (.cells row v cs)) (cs':List AV) (l:Option (Nat×Nat))
  (hs:w.heap.size≤w'.heap.size) (ho:w'.os=w.os) (ht:w'.tape=w.tape) (hp:w'.output=w.output)
  (hk:∀ k,k<w.heap.size→(∀ k' o',ρ b=some (k',o')→k≠k')→w'.heap[k]? = w.heap[k]?) (hsh:∀ k e n,w.shape? k=some (e,n)→w'.shape? k=some (e,n))
  (hl:∀ k o,l=some (k,o)→w.heap.size≤k∨∃ o',ρ b=some (k,o')) (hF:∀ k o,ρ b=some (k,o)→¬F k):
  Ext F B ρ w (B.set b (.cells row (v+1) cs')) (fun c=>if c=b then l else ρ c) w':=by
 have hlt:b<B.length:=(List.getElem?_eq_some_iff.1 hb).1
 refine ⟨hs,ho,ht,hp,fun k hkl hno=>⟨hk k hkl (fun k' o' hr e=>hno (.cells hb (e▸hr))),?_⟩,hsh,by simp,fun c row' v' cs'' hc h=>?_,fun c cs'' Φ hc h=>?_,fun k hFk hkl=>hk k hkl (fun k' o' hr e=>hF k' o' hr (e▸hFk))⟩
 ·rintro (hFk | ⟨c,x,l',h1,h2,h3⟩)
  ·exact hno (.inl hFk)
  by_cases e:c=b
  ·subst e
   simp only[if_true] at h2
   simp[hlt] at h1
   subst h1
   have e:k=l'.1:=h3
   rcases hl k l'.2 (by rw[e]; exact h2) with h | ⟨o',h⟩
   ·omega
   ·exact hno (.cells hb h)
  ·simp only[e,if_false] at h2
   rw[List.getElem?_set,if_neg (fun h=>e h.symm)] at h1
   exact hno (.inr ⟨c,x,l',h1,h2,h3⟩)
 ·rw[List.getElem?_set] at h
  split at h
  ·rename_i e
   subst e
   simp only[hlt,if_true,Option.some.injEq,Box.cells.injEq] at h
   obtain ⟨rfl,rfl,rfl⟩:=h
   exact ⟨v,cs,hb,by omega,fun h=>by omega⟩
  ·rename_i e
   have e':c≠b:=fun h=>e h.symm
   exact ⟨v',cs'',h,Nat.le_refl _,fun _=>⟨by simp[e'],rfl⟩⟩
 ·rw[List.getElem?_set] at h
  split at h
  ·rename_i e; subst e; simp[hlt] at h
  ·rename_i e
   have e':c≠b:=fun h=>e h.symm
   exact ⟨cs'',Φ,h,by simp[e']⟩

theorem src_run {B:List Box} {ρ:Loc} {w:World} (hI:Inv F B ρ w) {t:TypeId} {sz n:Nat} {x:AV} {u:Value} {new:List AV} (hx:VRel F B ρ w x u) (hm:srcA P t B sz x=some (n,new))
  (hlf:new.all AV.leaf=true) (hlen:new.length=n*sz):∃ us:List Value,Src P sz t u n us w∧CellsRel F B ρ w new us.toArray:=by
 have leaf1:∀ (us:List Value),CellsRel F B ρ w new us.toArray→∀ q∈us,q.oneCell'=true:=by
  intro us h q hq
  obtain ⟨j,hj⟩:=List.getElem?_of_mem hq
  have hjl:j<new.length:=by rw[h.1]; simpa using (List.getElem?_eq_some_iff.1 hj).1
  rw[←vleaf_one]
  exact leaf_of_vrel (h.2 j _ q (List.getElem?_eq_getElem hjl) (by simpa using hj)) (List.all_eq_true.1 hlf _ (List.getElem_mem hjl))
 unfold srcA at hm
 split at hm
 ·rename_i e hu
  cases hm
  cases hx with
  | p _ y hp=>
   cases hp
   exact ⟨[],Src.ofNil w hu 0,⟨rfl,fun i c u h=>by simp at h⟩⟩
 ·rename_i e xs hu
  split at hm
  ·rename_i hall
   cases hm
   cases hx with
   | p _ y hp=>
    cases hp with
    | nil a cap h=>
     refine ⟨[],?_,⟨rfl,fun i c u h=>by simp at h⟩⟩
     cases a with
     | none=>exact Src.ofNil w hu cap
     | some a=>exact Src.ofSlice w hu a 0 cap [] (by simp) (fun j u h=>by simp at h) (fun u h=>by simp at h)
    | ls _ a cap us h1 h2 h3 h4 h5 h6 h7=>
     have hc:CellsRel F B ρ w ((xs.flatMap PV.cells).map AV.p) us.toArray:=by
      refine ⟨by simpa using h5,fun i c u hi hu=>?_⟩
      rw[List.getElem?_map] at hi
      cases hq:(xs.flatMap PV.cells)[i]? with
      | none=>rw[hq] at hi; cases hi
      | some q=>rw[hq] at hi; cases hi; exact .p _ _ (h7 i q u hq (by simpa using hu))
     exact ⟨us,Src.ofSlice w hu a _ cap us (by rw[←h5]; simpa using hlen) h6 (leaf1 us hc),hc⟩
  ·cases hm
 ·rename_i e b ver sz' off len hu
  split at hm
  ·rename_i row vv cs hb
   split at hm
   ·rename_i hc
    cases hm
    simp only[Bool.and_eq_true,beq_iff_eq] at hc
    obtain ⟨hv,rfl⟩:=hc
    have hv':ver=vv:=Nat.eq_of_beq_eq_true hv
    subst hv'
    cases hx with
    | rs _ _ _ _ _ a cap hok=>
     obtain ⟨g1,g2,g3,g4⟩:=hok
     obtain ⟨_,g5⟩:=g4 _ _ _ hb
     obtain ⟨g6,g7⟩:=g5 rfl
     rcases g7 with h0 | ⟨k,o',hr,ha,e',m,hsh,hle⟩
     ·have hn:n=0:=by omega
      subst hn
      refine ⟨[],?_,by simp[CellsRel]⟩
      cases a with
      | none=>exact Src.ofNil w hu cap
      | some a=>exact Src.ofSlice w hu a 0 cap [] (by simp) (fun j u h=>by simp at h) (fun u h=>by simp at h)
     ·obtain ⟨us,e2,fr,q1,q2,q3,q4⟩:=hI.cell hb hr
      have hlen':((cs.drop off).take (n*sz)).length=n*sz:=by simp; omega
      have hus:(us.toList.drop (o'+off)).take (n*sz)=(us.toList.drop (o'+off)).take (n*sz):=rfl
      have hlu:((us.toList.drop (o'+off)).take (n*sz)).length=n*sz:=by simp; omega
      have hc:CellsRel F B ρ w ((cs.drop off).take (n*sz)) ((us.toList.drop (o'+off)).take (n*sz)).toArray:=by
       refine ⟨by simp; omega,fun i c u hi hui=>?_⟩
       rw[List.getElem?_take] at hi
       split at hi
       ·rename_i hlt
        rw[List.getElem?_drop] at hi
        obtain ⟨u',f1,f2⟩:=q4 _ c hi
        have:(us.toList.drop (o'+off))[i]? = some u:=by
         have h:=hui
         simp only[List.getElem?_toArray] at h
         rw[List.getElem?_take,if_pos hlt] at h
         exact h
        rw[List.getElem?_drop] at this
        have e3:us[o'+off+i]? = some u:=by simpa using this
        rw[show o'+(off+i)=o'+off+i by omega] at f1
        rw[e3] at f1
        cases f1
        exact f2
       ·cases hi
      subst ha
      refine ⟨_,Src.ofSlice w hu _ n cap _ hlu (fun j u hj=>?_) (leaf1 _ hc),hc⟩
      rw[List.getElem?_take] at hj
      split at hj
      ·rw[List.getElem?_drop] at hj
       rw[Addr.add_lit,cell_of q1]
       simpa using hj
      ·cases hj
   ·cases hm
  ·cases hm
 ·rename_i s hu
  split at hm
  ·rename_i h1
   have h1':sz=1:=by simpa using h1
   subst h1'
   cases hm
   cases hx with
   | p _ y hp=>
    cases hp
    refine ⟨_,Src.ofString w hu s,?_⟩
    refine ⟨by simp[byteCells],fun i c u hi hui=>?_⟩
    simp only[List.getElem?_map,List.getElem?_toArray,byteCells] at hi hui
    cases hq:s.data.toList[i]? with
    | none=>rw[hq] at hi; cases hi
    | some q=>rw[hq] at hi hui; cases hi; cases hui; exact .p _ _ (.v _)
  ·cases hm
 ·cases hm

theorem append_run {B B':List Box} {ρ:Loc} {w:World} (hI:Inv F B ρ w) {t tx ty:TypeId} {s x v:AV} {us ux:Value} (hs:VRel F B ρ w s us) (hx:VRel F B ρ w x ux)
  (hm:appendA P t tx B s x=some (v,B')):
  ∃ y w' ρ',(Builtin.append_ #[t,tx] ty #[us,ux]).run P w= .ok y w'∧Inv F B' ρ' w'∧Ext F B ρ w B' ρ' w'∧VRel F B' ρ' w' v y:=by
 unfold appendA at hm
 cases he:elemT P t with
 | none=>rw[he] at hm; cases hm
 | some e=>
 rw[he] at hm
 simp only[Option.bind_some] at hm
 cases hsz:sizeT P e with
 | none=>rw[hsz] at hm; cases hm
 | some sz=>
 rw[hsz] at hm
 simp only[Option.bind_some] at hm
 obtain ⟨i,hi,his⟩:=sizeT_info hsz
 rw[hi] at hm
 simp only[Option.map_some,Option.bind_some] at hm
 split at hm
 ·cases hm
 rename_i hcond
 simp only[Bool.or_eq_true,not_or,Bool.not_eq_true,Bool.not_eq_false',beq_iff_eq] at hcond
 obtain ⟨⟨⟨c1,c2⟩,c3⟩,c4⟩:=hcond
 have hsz0:sz≠0:=fun h=>by subst h; cases c1
 have hby0:i.bytes≠0:=fun h=>by rw[h] at c2; cases c2
 cases hz:zeroA P e with
 | none=>rw[hz] at c3; cases c3
 | some z=>
 rw[hz] at c3 c4
 simp only[Option.map_some,Option.some.injEq] at c3 c4
 obtain ⟨zv,hz1,hz2⟩:=zero_run hz w c4
 have hzi:i.zero=some zv:=by
  have:=hz1
  simp only[zeroValue,typeInfo,Sem.run_bind,run_program,Result.andThen_ok,hi,Sem.run_pure] at this
  cases hh:i.zero with
  | none=>rw[hh] at this; simp[unsupported] at this
  | some y=>rw[hh] at this; simp at this; rw[this]
 have hzs:zv.cells.size=sz:=by rw[←(hz2 F B ρ w).1,c3]
 have hu:=elemT_some he
 cases hsr:srcA P tx B sz x with
 | none=>rw[hsr] at hm; cases hm
 | some nn=>
 obtain ⟨n,new⟩:=nn
 rw[hsr] at hm
 simp only[Option.bind_some] at hm
 split at hm
 ·cases hm
 rename_i hcond2
 simp only[Bool.or_eq_true,not_or,Bool.not_eq_true,Bool.not_eq_false'] at hcond2
 obtain ⟨d1,d2⟩:=hcond2
 have hnl:new.length=n*sz:=Nat.eq_of_beq_eq_true d2
 obtain ⟨news,hsrc,hnews⟩:=src_run hI hx hsr d1 hnl
 have hnewsl:news.length=n*sz:=by rw[←hnl]; simpa using hnews.1.symm
 have hsrc':Src P i.size tx ux n news w:=by rw[his]; exact hsrc
 -- a new row, made of old cells and new ones
 have grow:∀ (base:Option Addr) (len cap:Nat) (olds:List Value) (oldA:List AV),us= .slice base len cap→cap<len+n→(len+n)*i.bytes≤140737488355328 →
   (Builtin.firstCells i.size len (.slice base len cap)).run P w.drew= .ok olds.toArray w.drew→CellsRel F B ρ w oldA olds.toArray→oldA.length=len*sz →
   ∃ c,(Builtin.append_ #[t,tx] ty #[us,ux]).run P w= .ok (.slice (some ⟨w.heap.size,0,none⟩) (len+n) c) (w.drew.alloc (.cells ((olds++news).toArray++Builtin.zeroCells zv.cells (c - (len+n))) e))∧len+n≤c ∧
    ((olds++news).toArray++Builtin.zeroCells zv.cells (c - (len+n))).size=c*sz ∧
    ∀ (j:Nat) (q:AV),(oldA++new)[j]? = some q→∃ u,((olds++news).toArray++Builtin.zeroCells zv.cells (c - (len+n)))[j]? = some u∧VRel F B ρ w q u:=by
  intro base len cap olds oldA hus hg hb hold holdR hol
  have hlenb:len+n≤140737488355328:=Nat.le_trans (Nat.le_mul_of_pos_right _ (Nat.pos_of_ne_zero hby0)) hb
  have hr:=run_append_grow_src (P:=P) w t tx ty e i zv hu hi hzi base len cap olds hold ux n news hsrc' hg (by omega) (growslice_fits hg hb)
  have hge:=grownCap_ge w (len+n) cap e
  refine ⟨grownCap w (len+n) cap e,by rw[hus]; exact hr,hge,?_,fun j q hq=>?_⟩
  ·have hol':olds.length=len*sz:=by rw[←hol]; simpa using holdR.1.symm
   simp only[Array.size_append,List.size_toArray,List.length_append,size_zeroCells,hzs,hol',hnewsl,←Nat.add_mul]
   congr 1
   omega
  ·have hol':olds.length=len*sz:=by rw[←hol]; simpa using holdR.1.symm
   rw[List.getElem?_append] at hq
   have hjl:j<olds.length+news.length:=by
    split at hq
    ·omega
    ·have:=(List.getElem?_eq_some_iff.1 hq).1
     omega
   rw[Array.getElem?_append_left (by simpa using hjl)]
   simp only[List.getElem?_toArray]
   split at hq
   ·rename_i hlt
    obtain ⟨u,h1,h2⟩:=holdR.get j q hq
    rw[List.getElem?_append_left (by omega)]
    exact ⟨u,by simpa using h1,h2⟩
   ·rename_i hlt
    obtain ⟨u,h1,h2⟩:=hnews.get _ q hq
    rw[List.getElem?_append_right (by omega),hol',←hol]
    exact ⟨u,by simpa using h1,h2⟩
 split at hm
 ·-- onto the nil slice
  split at hm
  ·rename_i hb
   rw[Nat.ble_eq] at hb
   cases hm
   cases hs with
   | p _ y hp=>
   cases hp
   rcases Nat.eq_zero_or_pos n with h0 | h0
   ·subst h0
    have hnil:new= []:=List.eq_nil_of_length_eq_zero (by simpa using hnl)
    subst hnil
    obtain ⟨g1,g2⟩:=new_nil hI
    refine ⟨.slice none 0 0,w,_,?_,g1,g2, .rs _ _ _ _ _ _ _ ⟨by simp,Nat.le_refl _,fun h=>by omega,fun row v cs' h=>?_⟩⟩
    ·rcases hsrc.kind with ⟨e',hk⟩ | hk <;> simp[Builtin.append_,run_underlying hu,run_underlying hk,sizeOf,typeInfo,hi,hsrc.len,hsrc'.cells]
    ·simp at h
     obtain ⟨rfl,rfl,rfl⟩:=h
     exact ⟨Nat.le_refl _,fun _=>⟨by simp, .inl rfl⟩⟩
   ·obtain ⟨c,r1,r2,r3,r4⟩:=grow none 0 0 [] [] rfl (by omega) (by simpa using hb) (run_firstCells_none w.drew _ _ _ _) ⟨rfl,fun i c u h=>by simp at h⟩ (by simp)
    simp only[Nat.zero_add,List.nil_append] at r1 r2 r3 r4
    obtain ⟨g1,g2⟩:=new_box (w':=w.drew.alloc (.cells (news.toArray++Builtin.zeroCells zv.cells (c - n)) e)) hI true (e:=e) (fr:=(0,0)) d1 (by rw[r3,hnl]; exact Nat.mul_le_mul_right _ r2) r4 (.zero _) rfl rfl rfl rfl
    refine ⟨_,_,_,r1,g1,g2, .rs _ _ _ _ _ _ _ ⟨by simp,r2,fun _=>rfl,fun row v cs' h=>?_⟩⟩
    simp at h
    obtain ⟨rfl,rfl,rfl⟩:=h
    refine ⟨Nat.le_refl _,fun _=>⟨by omega, .inr ⟨w.heap.size,0,by simp,rfl,e,c*sz,?_,by omega⟩⟩⟩
    have hh:∀ o:Obj,(w.drew.alloc o).heap[w.heap.size]? = some o:=fun o=>heap_alloc_new w.drew o
    simp only[World.shape?,hh,r3]
  ·cases hm
 ·-- onto a row
  rename_i b ver sz' off len
  split at hm
  ·rename_i vv cs hbx
   split at hm
   ·rename_i hc
    simp only[Bool.and_eq_true,beq_iff_eq,Nat.ble_eq] at hc
    obtain ⟨⟨hv,rfl⟩,hbd⟩:=hc
    have hv':ver=vv:=Nat.eq_of_beq_eq_true hv
    subst hv'
    cases hm
    have hlt:b<B.length:=(List.getElem?_eq_some_iff.1 hbx).1
    cases hs with
    | rs _ _ _ _ _ a cap hok=>
    obtain ⟨g1,g2,g3,g4⟩:=hok
    obtain ⟨_,g5⟩:=g4 _ _ _ hbx
    obtain ⟨g6,g7⟩:=g5 rfl
    have hcsl:=hI.leaf _ _ _ _ hbx
    have hnewleaf:((cs.drop off).take (len*sz)++new).all AV.leaf=true:=by
     rw[List.all_append,Bool.and_eq_true]
     refine ⟨?_,d1⟩
     rw[List.all_eq_true] at hcsl ⊢
     intro q hq
     exact hcsl q (List.mem_of_mem_drop (List.mem_of_mem_take hq))
    have hpl:((cs.drop off).take (len*sz)).length=len*sz:=by simp; omega
    have hnewlen:((cs.drop off).take (len*sz)++new).length=(len+n)*sz:=by rw[List.length_append,hpl,hnl,Nat.add_mul]
    -- the arm that grows
    have growArm:∀ (olds:List Value),cap<len+n→(Builtin.firstCells i.size len (.slice a len cap)).run P w.drew= .ok olds.toArray w.drew→CellsRel F B ρ w ((cs.drop off).take (len*sz)) olds.toArray →
      ∃ y w' ρ',(Builtin.append_ #[t,tx] ty #[.slice a len cap,ux]).run P w= .ok y w'∧Inv F (B.set b (.cells true (ver+1) ((cs.drop off).take (len*sz)++new))) ρ' w' ∧
       Ext F B ρ w (B.set b (.cells true (ver+1) ((cs.drop off).take (len*sz)++new))) ρ' w'∧VRel F (B.set b (.cells true (ver+1) ((cs.drop off).take (len*sz)++new))) ρ' w' (.rs b (ver+1) sz 0 (len+n)) y:=by
     intro olds hg hold holdR
     obtain ⟨c,r1,r2,r3,r4⟩:=grow a len cap olds _ rfl hg hbd hold holdR hpl
     have hE:Ext F B ρ w (B.set b (.cells true (ver+1) ((cs.drop off).take (len*sz)++new))) (fun c=>if c=b then some (w.heap.size,0) else ρ c) (w.drew.alloc (.cells ((olds++news).toArray++Builtin.zeroCells zv.cells (c - (len+n))) e)):=by
      refine ext_row hbx _ _ (by simp) rfl rfl rfl (fun k hk _=>Below.heap_alloc w.drew _ k hk) (fun k e n h=>?_) (fun k o h=>by cases h; exact .inl (Nat.le_refl _)) (fun k o h=>hI.farb _ _ _ _ _ _ hbx h)
      have hk:k<w.heap.size:=by
       unfold World.shape? at h
       split at h
       ·rename_i hh; exact (Array.getElem?_eq_some_iff.1 hh).1
       ·cases h
      unfold World.shape? at h ⊢
      rw[Below.heap_alloc w.drew _ k hk]
      exact h
     refine ⟨_,_,_,r1,hI.other hbx hE (fun c hc=>by simp[hc]) hnewleaf (fun c x l k hne hc hl hx=>Below.heap_alloc w.drew _ k (hI.haslt hc hl hx)) (fun c x l k o' hne hc hl hx h=>?_) (fun k o h hF=>by simp at h; have:=hI.bound k hF; omega) (fun _ _ h=>by cases h) (.inr ⟨w.heap.size,0,_,e,(0,0),by simp,heap_alloc_new w.drew _,?_, .zero _,fun j q hq=>?_⟩),hE,?_⟩
     ·simp at h
      have:=hI.haslt hc hl hx
      omega
     ·rw[r3,hnewlen,Nat.zero_add]; exact Nat.mul_le_mul_right _ r2
     ·obtain ⟨u,f1,f2⟩:=r4 j q hq
      exact ⟨u,by rw[Nat.zero_add]; exact f1,f2.ext hE⟩
     ·refine .rs _ _ _ _ _ _ _ ⟨by simpa using hlt,r2,fun _=>rfl,fun row v cs' h=>?_⟩
      simp[hlt] at h
      obtain ⟨rfl,rfl,rfl⟩:=h
      refine ⟨Nat.le_refl _,fun _=>⟨by rw[hnewlen]; omega, .inr ⟨w.heap.size,0,by simp,rfl,e,c*sz,?_,by omega⟩⟩⟩
      have hh:∀ o:Obj,(w.drew.alloc o).heap[w.heap.size]? = some o:=fun o=>heap_alloc_new w.drew o
      simp only[World.shape?,hh,r3]
    rcases g7 with hc0 | ⟨k,o',hr,ha,e',m,hsh,hle⟩
    ·-- no capacity
     have hl0:len=0:=by omega
     subst hc0
     subst hl0
     have hfc:∀ w':World,(Builtin.firstCells i.size 0 (.slice a 0 0)).run P w'= .ok (#[]:Array Value) w':=fun w'=>by
      cases a with
      | none=>exact run_firstCells_none w' _ _ _ _
      | some a=>simp[Builtin.firstCells,loadCells,loadCellsFrom]
     have he0:CellsRel F B ρ w ((cs.drop off).take (0*sz)) ([]:List Value).toArray:=⟨by simp,fun i c u h=>by simp at h⟩
     rcases Nat.eq_zero_or_pos n with h0 | h0
     ·subst h0
      have hnil:new= []:=List.eq_nil_of_length_eq_zero (by simpa using hnl)
      subst hnil
      have hE:Ext F B ρ w (B.set b (.cells true (ver+1) ((cs.drop off).take (0*sz)++ []))) (fun c=>if c=b then none else ρ c) w:=
       ext_row hbx _ none (Nat.le_refl _) rfl rfl rfl (fun _ _ _=>rfl) (fun _ _ _ h=>h) (fun _ _ h=>by cases h) (fun k o h=>hI.farb _ _ _ _ _ _ hbx h)
      refine ⟨.slice a 0 0,w,_,?_,hI.other hbx hE (fun c hc=>by simp[hc]) hnewleaf (fun _ _ _ _ _ _ _ _=>rfl) (fun c x l k o' _ _ _ _ h=>by simp at h) (fun k o h=>by simp at h) (fun _ _ h=>by cases h) (.inl ⟨by simp,rfl,by simp⟩),hE,?_⟩
      ·rcases hsrc.kind with ⟨e',hk⟩ | hk <;> (cases a <;> simp[Builtin.append_,run_underlying hu,run_underlying hk,sizeOf,typeInfo,hi,hsrc.len,hsrc'.cells,List.eq_nil_of_length_eq_zero (show news.length=0 by simpa using hnewsl),storeCells])
      ·refine .rs _ _ _ _ _ _ _ ⟨by simpa using hlt,Nat.le_refl _,fun h=>by omega,fun row v cs' h=>?_⟩
       simp[hlt] at h
       obtain ⟨rfl,rfl,rfl⟩:=h
       exact ⟨Nat.le_refl _,fun _=>⟨by simp, .inl rfl⟩⟩
     ·exact growArm [] (by omega) (hfc w.drew) he0
    ·obtain ⟨us2,e2,fr,q1,q2,q3,q4⟩:=hI.cell hbx hr
     have hm2:m=us2.size:=by
      unfold World.shape? at hsh
      rw[q1] at hsh
      simp at hsh
      exact hsh.2.symm
     subst ha
     have hmul:len*sz≤cap*sz:=Nat.mul_le_mul_right _ g2
     by_cases hroom:len+n≤cap
     ·have hmul2:(len+n)*sz≤cap*sz:=Nat.mul_le_mul_right _ hroom
      rw[Nat.add_mul] at hmul2
      have hr2:=run_append_room_src (P:=P) w t tx ty e i hu hi k (o'+off) len cap ux n news hsrc' hroom (fun j hj=>by
       rw[cell_of q1,his]
       have:o'+off+len*sz+j<us2.size:=by omega
       rw[Array.getElem?_eq_getElem this]; rfl) (fun j hj=>by rw[his]; exact q3.no q1 _ (by omega))
      rw[his] at hr2
      obtain ⟨s1,s2,s3,s4⟩:=setCells_rest (w:=w) (k:=k) (o'+off+len*sz) news
      have hE:Ext F B ρ w (B.set b (.cells true (ver+1) ((cs.drop off).take (len*sz)++new))) (fun c=>if c=b then some (k,o'+off) else ρ c) (w.setCells k (o'+off+len*sz) news):=
       ext_row hbx _ _ (Nat.le_of_eq s1.symm) s2 s3 s4 (fun j hj hne=>heap_setCells_other _ _ (hne k o' hr)) (fun j e n h=>shape_setCells _ _ _ h) (fun k2 o2 h=>by cases h; exact .inr ⟨o',hr⟩) (fun k o h=>hI.farb _ _ _ _ _ _ hbx h)
      refine ⟨_,_,_,hr2,hI.other hbx hE (fun c hc=>by simp[hc]) hnewleaf (fun c x l k2 hne hc hl hx=>heap_setCells_other _ _ (fun e=>hne (hI.injx _ _ _ _ _ _ k hc hbx hl hr (e▸hx) rfl)))
       (fun c x l k2 o3 hne hc hl hx h=>?_) (fun k2 o2 h=>by simp at h; exact h.1▸hI.farb _ _ _ _ _ _ hbx hr) (fun _ _ h=>by cases h) (.inr ⟨k,o'+off,_,e2,fr,by simp,heap_setCells _ _ q1,?_,q3.size (arrSet_size _ _ _),fun j q hq=>?_⟩),hE,?_⟩
      ·simp at h
       exact hne (hI.injx _ _ _ _ _ (k2,o') k2 hc hbx hl (h.1▸hr) hx rfl)
      ·rw[arrSet_size,hnewlen,Nat.add_mul]; omega
      ·rw[List.getElem?_append,hpl] at hq
       split at hq
       ·rename_i hlt2
        rw[List.getElem?_take,if_pos hlt2,List.getElem?_drop] at hq
        obtain ⟨u,f1,f2⟩:=q4 _ q hq
        refine ⟨u,?_,f2.ext hE⟩
        rw[arrSet_out _ _ _ _ (by omega),show o'+off+j=o'+(off+j) by omega]
        exact f1
       ·rename_i hge
        obtain ⟨u,f1,f2⟩:=hnews.get _ q hq
        refine ⟨u,?_,f2.ext hE⟩
        have hjn:j - len*sz<news.length:=by
         have:=(List.getElem?_eq_some_iff.1 hq).1
         omega
        have:=arrSet_in us2 (o'+off+len*sz) news (j - len*sz) hjn (by omega)
        rw[show o'+off+len*sz+(j - len*sz)=o'+off+j by omega] at this
        rw[this]
        simpa using f1
      ·refine .rs _ _ _ _ _ _ _ ⟨by simpa using hlt,hroom,fun _=>rfl,fun row v cs' h=>?_⟩
       simp[hlt] at h
       obtain ⟨rfl,rfl,rfl⟩:=h
       exact ⟨Nat.le_refl _,fun _=>⟨by rw[hnewlen]; omega, .inr ⟨k,o'+off,by simp,rfl,e',m,shape_setCells _ _ _ hsh,by omega⟩⟩⟩
     ·have holdc:∀ (j:Nat) (u:Value),((us2.toList.drop (o'+off)).take (len*sz))[j]? = some u→w.cell? ((⟨k,o'+off,none⟩:Addr).add j)=some u:=fun j u hj=>by
       rw[List.getElem?_take] at hj
       split at hj
       ·rw[List.getElem?_drop] at hj
        rw[Addr.add_lit,cell_of q1]
        simpa using hj
       ·cases hj
      refine growArm ((us2.toList.drop (o'+off)).take (len*sz)) (by omega) (run_firstCells_some (P:=P) w.drew i.size len _ len cap _ (by rw[his]; simp; omega) holdc) ⟨by simp; omega,fun j q u hq hu=>?_⟩
      rw[List.getElem?_take] at hq
      split at hq
      ·rename_i hlt2
       rw[List.getElem?_drop] at hq
       obtain ⟨u',f1,f2⟩:=q4 _ q hq
       simp only[List.getElem?_toArray] at hu
       rw[List.getElem?_take,if_pos hlt2,List.getElem?_drop] at hu
       have e3:us2[o'+off+j]? = some u:=by simpa using hu
       rw[show o'+(off+j)=o'+off+j by omega,e3] at f1
       cases f1
       exact f2
      ·cases hq
   ·cases hm
  ·cases hm
 ·cases hm

end Go.Ax
