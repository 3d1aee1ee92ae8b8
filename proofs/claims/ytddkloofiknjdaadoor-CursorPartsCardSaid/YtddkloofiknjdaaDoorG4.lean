/- What one operation does in a world is what the second reading says: literals, append. -/
import Derived.Test.YtddkloofiknjdaaDoorG3
import Derived.Laws.Tables
import Derived.Great.BuildSlice
import Derived.Laws.MakeOwn
set_option linter.unusedVariables false
set_option linter.unusedSimpArgs false
set_option linter.unusedSectionVars false
namespace Go.Ax
open Go.RowKit

variable [Glob] {P : Program} {F : Nat → Prop}

theorem fieldsT_some {t:TypeId} {fs:Array Field} (h:fieldsT P t=some fs):P.underlying t=some (.struct fs):=by
 unfold fieldsT at h
 split at h
 ·cases h; assumption
 ·cases h

theorem build_run {B:List Box} {ρ:Loc} {w:World} {t:TypeId} {parts:List (Nat×AV)} {vs:Array (Nat×Value)} {v:AV} (hl:parts.length=vs.size)
  (hp:∀ (i:Nat) (p:Nat×AV) (v:Nat×Value),parts[i]? = some p→vs[i]? = some v→p.1=v.1∧VRel F B ρ w p.2 v.2) (hm:buildA P t parts=some v):
  ∃ x,(Instr.build t vs).run P w= .ok x w∧VRel F B ρ w v x:=by
 unfold buildA at hm
 cases hz:zeroA P t with
 | none=>rw[hz] at hm; cases hm
 | some z=>
  rw[hz] at hm
  simp only[Option.bind_some] at hm
  split at hm
  ·rename_i hlf
   obtain ⟨u,h1,h2⟩:=zero_run hz w hlf
   have hfin:∀ (place:Nat→Option (Nat×Nat)),(fillA place z parts).map .agg=some v→∃ us,Instr.fill place u.cells vs.toList=some us∧VRel F B ρ w v (.agg us):=by
    intro place hf
    cases hff:fillA place z parts with
    | none=>rw[hff] at hf; cases hf
    | some cs=>
     rw[hff] at hf
     cases hf
     obtain ⟨us,e1,e2,_⟩:=fill_run parts vs.toList z cs u.cells (by simpa using hl) (fun i p v h1 h2=>hp i p v h1 (by simpa using h2)) (h2 F B ρ w) hlf hff
     refine ⟨us,e1,?_⟩
     have:Value.agg us= .agg us.toList.toArray:=by simp
     rw[this]
     exact .agg _ _ (by simpa using e2.1) (fun j p u h3 h4=>e2.2 j p u h3 (by simpa using h4))
   split at hm
   ·rename_i places hpl
    unfold placesT at hpl
    cases hfs:fieldsT P t with
    | none=>rw[hfs] at hpl; cases hpl
    | some fs=>
     rw[hfs] at hpl
     simp only[Option.bind_some] at hpl
     obtain ⟨us,e1,e2⟩:=hfin _ hm
     refine ⟨.agg us,?_,e2⟩
     have hu:=fieldsT_some hfs
     simp[Instr.build,h1,run_underlying hu,Array.mapM_eq_mapM_toList,run_places w _ _ hpl,e1]
   ·cases ha:arrayT P t with
    | none=>rw[ha] at hm; cases hm
    | some q=>
     obtain ⟨n,sz⟩:=q
     rw[ha] at hm
     simp only[Option.bind_some] at hm
     obtain ⟨us,e1,e2⟩:=hfin _ hm
     unfold arrayT at ha
     split at ha
     ·rename_i len e hu
      cases hsz:sizeT P e with
      | none=>rw[hsz] at ha; cases ha
      | some s=>
       rw[hsz] at ha
       cases ha
       refine ⟨.agg us,?_,e2⟩
       simp[Instr.build,h1,run_underlying hu,sizeOf_run w hsz,e1]
     ·cases ha
  ·cases hm

theorem elemT_some {t e:TypeId} (h:elemT P t=some e):P.underlying t=some (.slice e):=by
 unfold elemT at h
 split at h
 ·cases h; assumption
 ·cases h

theorem repeatL_length (z:List AV) (n:Nat):(repeatL z n).length=n*z.length:=by
 induction n with
 | zero=>simp[repeatL]
 | succ n ih=>simp[repeatL,ih,Nat.succ_mul]; omega

theorem repeatL_get (z:List AV) (n i:Nat) (hi:i<n*z.length):(repeatL z n)[i]? = z[i % z.length]? := by
 induction n generalizing i with
 | zero=>simp at hi
 | succ n ih=>
  rw[repeatL,List.getElem?_append]
  split
  ·rename_i h; rw[Nat.mod_eq_of_lt h]
  ·rename_i h
   rw[ih _ (by rw[Nat.succ_mul] at hi; omega)]
   congr 1
   rw[←Nat.mod_eq_sub_mod (by omega)]

theorem repeatL_leaf (z:List AV) (n:Nat) (h:z.all AV.leaf=true):(repeatL z n).all AV.leaf=true:=by
 induction n with
 | zero=>rfl
 | succ n ih=>rw[repeatL,List.all_append,h,ih]; rfl

theorem makeSlice_run {B B':List Box} {ρ:Loc} {w:World} (hI:Inv F B ρ w) {t:TypeId} {l c:AV} {ul uc:Value} {v:AV} (hl:VRel F B ρ w l ul) (hc:VRel F B ρ w c uc) (hm:makeSliceA P t l c B=some (v,B')):
  ∃ x w' ρ',(Instr.makeSlice t ul uc).run P w= .ok x w'∧Inv F B' ρ' w'∧Ext F B ρ w B' ρ' w'∧VRel F B' ρ' w' v x:=by
 unfold makeSliceA at hm
 obtain ⟨e,he,hm1⟩:=Option.bind_eq_some_iff.1 hm
 obtain ⟨n,hsz,hm2⟩:=Option.bind_eq_some_iff.1 hm1
 obtain ⟨z,hz,hm3⟩:=Option.bind_eq_some_iff.1 hm2
 obtain ⟨ie,hie,hm4⟩:=Option.bind_eq_some_iff.1 hm3
 clear hm hm1 hm2 hm3
 have hm:=hm4
 clear hm4
 split at hm
 ·rename_i k1 a k2 b
  split at hm
  ·rename_i hq
   obtain ⟨rfl,h0,h1,hn,hb,c3⟩:=hq
   cases hm
   have hvl:ul= .int k1 a:=by cases hl; rename_i q; cases q; rfl
   have hvc:uc= .int k2 a:=by cases hc; rename_i q; cases q; rfl
   subst hvl hvc
   obtain ⟨u,g1,h2⟩:=zero_run hz w c3
   have hu:=elemT_some he
   obtain ⟨ie',hie',hies⟩:=sizeT_info hsz
   rw[hie] at hie'
   cases hie'
   have hzi:ie.zero=some u:=by
    have:=g1
    simp only[zeroValue,typeInfo,Sem.run_bind,run_program,Result.andThen_ok,hie,Sem.run_pure] at this
    cases hh:ie.zero with
    | none=>rw[hh] at this; simp[unsupported] at this
    | some y=>rw[hh] at this; simp at this; rw[this]
   have hbase:CellsRel F B ρ w (repeatL z a.toNat) (madeCells u.cells (a.toNat*n)):=by
    have hzs:=(h2 F B ρ w).1
    refine ⟨by rw[repeatL_length,size_madeCells,hn],fun i c y hi hy=>?_⟩
    have hlt:i<a.toNat*n:=by
     have:=(List.getElem?_eq_some_iff.1 hi).1
     rw[repeatL_length] at this; rw[hn]; exact this
    rw[repeatL_get _ _ _ (by rw[←hn]; exact hlt)] at hi
    have hpos:0<z.length:=by
     rcases Nat.eq_zero_or_pos z.length with h0 | h0
     ·rw[hn,h0] at hlt; simp at hlt
     ·exact h0
    have hm:i % z.length<u.cells.size:=by rw[←hzs]; exact Nat.mod_lt _ hpos
    refine (h2 F B ρ w).2 (i % z.length) c y hi ?_
    unfold madeCells at hy
    simp only[Array.getElem?_map,Array.getElem?_range] at hy
    rw[if_pos hlt] at hy
    simp only[Option.map_some,Option.some.injEq] at hy
    rw[←hy,←hzs]
    rw[getElem!_pos u.cells (i % z.length) hm]
    exact Array.getElem?_eq_getElem hm
   have hbytes:(ie.bytes:Int)*a≤281474976710656:=by
    have h3:(ie.bytes:Int)*a≤140000*a:=Int.mul_le_mul_of_nonneg_right (by omega) h0
    omega
   have hrun:=run_make (P:=P) w t e ie u hu hie hzi k1 k2 a a h0 (Int.le_refl _) hbytes (by omega)
   rw[hies] at hrun
   obtain ⟨q1,q2⟩:=new_box (w':=w.alloc (.cells (madeCells u.cells (a.toNat*n)) e)) hI true (e:=e) (fr:=(0,0)) (repeatL_leaf _ _ c3) (Nat.le_of_eq hbase.1) (fun i c h=>hbase.get i c h) (.zero _) rfl rfl rfl rfl
   refine ⟨_,_,_,hrun,q1,q2, .rs _ _ _ _ _ _ _ ⟨by simp,Nat.le_refl _,fun _=>rfl,fun row v cs' h=>?_⟩⟩
   simp at h
   obtain ⟨rfl,rfl,rfl⟩:=h
   have hl:=repeatL_length z a.toNat
   exact ⟨Nat.le_refl _,fun _=>⟨by rw[hl,hn]; omega, .inr ⟨w.heap.size,0,by simp,rfl,e,(madeCells u.cells (a.toNat*n)).size,by unfold World.shape?; rw[heap_alloc_new],by rw[size_madeCells]; omega⟩⟩⟩
  ·cases hm
 ·cases hm

theorem buildSlice_run {B B':List Box} {ρ:Loc} {w:World} (hI:Inv F B ρ w) {t:TypeId} {len:Nat} {parts:List (Nat×AV)} {vs:Array (Nat×Value)} {v:AV} (hl:parts.length=vs.size)
  (hp:∀ (i:Nat) (p:Nat×AV) (v:Nat×Value),parts[i]? = some p→vs[i]? = some v→p.1=v.1∧VRel F B ρ w p.2 v.2) (hm:buildSliceA P t len parts B=some (v,B')):
  ∃ x w' ρ',(Instr.buildSlice t len vs).run P w= .ok x w'∧Inv F B' ρ' w'∧Ext F B ρ w B' ρ' w'∧VRel F B' ρ' w' v x:=by
 unfold buildSliceA at hm
 cases he:elemT P t with
 | none=>rw[he] at hm; cases hm
 | some e=>
  rw[he] at hm
  simp only[Option.bind_some] at hm
  cases hsz:sizeT P e with
  | none=>rw[hsz] at hm; cases hm
  | some n=>
   rw[hsz] at hm
   simp only[Option.bind_some] at hm
   cases hz:zeroA P e with
   | none=>rw[hz] at hm; cases hm
   | some z=>
    rw[hz] at hm
    simp only[Option.bind_some] at hm
    split at hm
    ·rename_i hc
     simp only[Bool.and_eq_true,beq_iff_eq,Nat.ble_eq] at hc
     obtain ⟨⟨c1,c2⟩,c3⟩:=hc
     cases hf:fillA (fun i=>some (i*n,n)) (repeatL z len) parts with
     | none=>rw[hf] at hm; cases hm
     | some cs=>
      rw[hf] at hm
      simp only[Option.bind_some,Option.some.injEq,Prod.mk.injEq] at hm
      obtain ⟨rfl,rfl⟩:=hm
      obtain ⟨u,h1,h2⟩:=zero_run hz w c3
      have hu:=elemT_some he
      obtain ⟨ie,hie,hies⟩:=sizeT_info hsz
      have hzi:ie.zero=some u:=by
       have:=h1
       simp only[zeroValue,typeInfo,Sem.run_bind,run_program,Result.andThen_ok,hie,Sem.run_pure] at this
       cases hh:ie.zero with
       | none=>rw[hh] at this; simp[unsupported] at this
       | some y=>rw[hh] at this; simp at this; rw[this]
      have hbase:CellsRel F B ρ w (repeatL z len) ((Array.range (len*n)).map (u.cells[· % u.cells.size]!)):=by
       have hzs:=(h2 F B ρ w).1
       refine ⟨by rw[repeatL_length]; simp[c1],fun i c y hi hy=>?_⟩
       have hlt:i<len*n:=by
        have:=(List.getElem?_eq_some_iff.1 hi).1
        rw[repeatL_length] at this; rw[c1]; exact this
       rw[repeatL_get _ _ _ (by rw[←c1]; exact hlt)] at hi
       have hpos:0<z.length:=by
        rcases Nat.eq_zero_or_pos z.length with h0 | h0
        ·rw[c1,h0] at hlt; simp at hlt
        ·exact h0
       have hm:i % z.length<u.cells.size:=by rw[←hzs]; exact Nat.mod_lt _ hpos
       refine (h2 F B ρ w).2 (i % z.length) c y hi ?_
       simp only[Array.getElem?_map,Array.getElem?_range] at hy
       rw[if_pos hlt] at hy
       simp only[Option.map_some,Option.some.injEq] at hy
       rw[←hy,←hzs]
       rw[getElem!_pos u.cells (i % z.length) hm]
       exact Array.getElem?_eq_getElem hm
      obtain ⟨us,e1,e2,e3⟩:=fill_run parts vs.toList _ cs _ (by simpa using hl) (fun i p v h1 h2=>hp i p v h1 (by simpa using h2)) hbase (repeatL_leaf _ _ c3) hf
      obtain ⟨g1,g2⟩:=new_box (w':=w.alloc (.cells us e)) hI true (e:=e) (fr:=(0,0)) e3 (Nat.le_of_eq e2.1) (fun i c h=>e2.get i c h) (.zero _) rfl rfl rfl rfl
      have hcl:cs.length=len*n:=by
       have:∀ (parts:List (Nat×AV)) (a b:List AV),fillA (fun i=>some (i*n,n)) a parts=some b→b.length=a.length:=by
        intro parts
        induction parts with
        | nil=>intro a b h; simp only[fillA,Option.some.injEq] at h; rw[h]
        | cons p r ih=>
         intro a b h
         obtain ⟨i,x⟩:=p
         simp only[fillA] at h
         split at h
         ·rename_i hcond
          simp only[Bool.and_eq_true,beq_iff_eq,Nat.ble_eq] at hcond
          rw[ih _ _ h,splice_length _ _ _ (by rw[hcond.1.1]; exact hcond.1.2)]
         ·cases h
       rw[this _ _ _ hf,repeatL_length,c1]
      refine ⟨.slice (some ⟨w.heap.size,0,none⟩) len len,w.alloc (.cells us e),_,?_,g1,g2, .rs _ _ _ _ _ _ _ ⟨by simp,Nat.le_refl _,fun _=>rfl,fun row v cs' h=>?_⟩⟩
      ·have hsmall:¬len*ie.size>2 ^ 24:=by rw[hies]; omega
       by_cases hpos:len*ie.size=0
       ·have r0:Array.range 0 = #[]:=Array.ext' (by simp)
        have e1':Instr.fill (fun i=>some (i*ie.size,ie.size)) #[] vs.toList=some us:=by
         have e0:len*n=0:=by rw[←hies]; exact hpos
         rw[hies]
         rw[e0,r0] at e1
         rw[Array.map_empty] at e1
         exact e1
        simp only[Instr.buildSlice,Sem.run_bind,run_underlying hu,Result.andThen_ok,sizeOf,typeInfo,run_program,hie,Sem.run_pure,hsmall,if_false,hpos,if_true]
        simp[hpos,r0,e1',newRow]
       ·exact run_buildSlice (P:=P) w t e len vs us ie u hu hie hzi hsmall hpos (by rw[hies]; exact e1)
      ·simp at h
       obtain ⟨rfl,rfl,rfl⟩:=h
       refine ⟨Nat.le_refl _,fun _=>⟨by omega, .inr ⟨w.heap.size,0,by simp,rfl,e,us.size,by unfold World.shape?; rw[heap_alloc_new],by have:=e2.1; omega⟩⟩⟩
    ·cases hm

theorem _root_.List.set_getElem?_self' {α:Type} {l:List α} {i:Nat} {a:α} (h:l[i]? = some a):l.set i a=l:=by
 apply List.ext_getElem?
 intro j
 rw[List.getElem?_set]
 by_cases e:i=j
 ·subst e
  rw[if_pos rfl,if_pos (List.getElem?_eq_some_iff.1 h).1,h]
 ·rw[if_neg e]

theorem zeroCells_get {z:Array Value} {n i:Nat} (hi:i<n*z.size):(Builtin.zeroCells z n)[i]? = z[i % z.size]? := by
 unfold Builtin.zeroCells
 have hz:0<z.size:=by
  rcases Nat.eq_zero_or_pos z.size with h | h
  ·rw[h] at hi; simp at hi
  ·exact h
 have hm:i % z.size<z.size:=Nat.mod_lt _ hz
 rw[Array.getElem?_map,Array.getElem?_range]
 simp[hi,hm]

theorem clear_run {B B':List Box} {ρ:Loc} {w:World} (hI:Inv F B ρ w) {t ty:TypeId} {x:AV} {u:Value} (hx:VRel F B ρ w x u) (hm:clearA P t B x=some B'):
  ∃ w',(Builtin.clear_ #[t] ty #[u]).run P w= .ok (.tuple #[]) w'∧Inv F B' ρ w'∧Ext F B ρ w B' ρ w':=by
 unfold clearA at hm
 obtain ⟨e,he,hm⟩:=Option.bind_eq_some_iff.1 hm
 obtain ⟨sz,hsz,hm⟩:=Option.bind_eq_some_iff.1 hm
 obtain ⟨zz,hz,hm⟩:=Option.bind_eq_some_iff.1 hm
 obtain ⟨b,ver,sz',off,len,a,cap,hp,rfl,rfl⟩:∃ b ver sz' off len a cap,RsOk B ρ w b ver sz' off len a cap∧x= .rs b ver sz' off len∧u= .slice a len cap:=by
  cases hx with
  | rs b ver sz' off len a cap hp=>exact ⟨b,ver,sz',off,len,a,cap,hp,rfl,rfl⟩
  | _=>simp at hm
 simp only at hm
 split at hm
 ·rename_i row vv cs hb
  split at hm
  ·rename_i hc
   cases hm
   simp only[Bool.and_eq_true,beq_iff_eq,Nat.ble_eq] at hc
   obtain ⟨⟨⟨⟨hv,hss⟩,hzl⟩,hlf⟩,hle⟩:=hc
   have hv':ver=vv:=Nat.eq_of_beq_eq_true hv
   have hzl:zz.length=sz:=Nat.eq_of_beq_eq_true hzl
   subst hv' hss
   obtain ⟨g1,g2,g3,g4⟩:=hp
   obtain ⟨_,g5⟩:=g4 _ _ _ hb
   obtain ⟨g6,g7⟩:=g5 rfl
   obtain ⟨zv,hzv,hzr⟩:=zero_run hz w hlf
   have hrl:(repeatL zz len).length=len*sz:=by rw[repeatL_length,hzl]
   have hnil:len=0→(Builtin.clear_ #[t] ty #[.slice a len cap]).run P w= .ok (.tuple #[]) w:=fun h0=>by
    subst h0
    cases a <;> simp[Builtin.clear_,run_underlying (elemT_some he)]
   rcases Nat.eq_zero_or_pos len with h0 | hpos
   ·have hsame:splice cs off (repeatL zz len)=cs:=by
     subst h0
     unfold splice repeatL
     simp
    refine ⟨w,hnil h0,?_,?_⟩
    ·rw[hsame,List.set_getElem?_self' hb]; exact hI
    ·rw[hsame,List.set_getElem?_self' hb]; exact .refl _ _ _
   ·rcases g7 with h0 | ⟨k,o',hr,ha,e',m,hsh,hle2⟩
    ·omega
    ·subst ha
     obtain ⟨us,e0,fr,h1,h2,h3,h4⟩:=hI.cell hb hr
     have hcl:∀ (F:Nat→Prop) (B:List Box) (ρ:Loc) (w':World),(repeatL zz len).length=(Builtin.zeroCells zv.cells len).size∧∀ (i:Nat) (c:AV) (q:Value),(repeatL zz len)[i]? = some c→(Builtin.zeroCells zv.cells len)[i]? = some q→VRel F B ρ w' c q:=fun F B ρ w'=>by
      obtain ⟨q1,q2⟩:=hzr F B ρ w'
      refine ⟨by rw[hrl,size_zeroCells,←q1,hzl],fun i c q hc hq=>?_⟩
      have hi:i<len*zz.length:=by
       have:=(List.getElem?_eq_some_iff.1 hc).1
       rw[repeatL_length] at this; exact this
      rw[repeatL_get _ _ _ hi] at hc
      rw[zeroCells_get (by rw[←q1]; exact hi),←q1] at hq
      exact q2 _ c q hc hq
     generalize hzs:Builtin.zeroCells zv.cells len=zs at hcl
     have hlfr:(repeatL zz len).all AV.leaf=true:=repeatL_leaf zz len hlf
     obtain ⟨hcl1,hcl2⟩:=hcl F B ρ w
     have hlf':∀ q∈zs.toList,q.oneCell'=true:=fun q hq=>by
      obtain ⟨j,hj⟩:=List.getElem?_of_mem hq
      have hj':zs[j]? = some q:=by simpa using hj
      have hjl:j<(repeatL zz len).length:=by rw[hcl1]; exact (Array.getElem?_eq_some_iff.1 hj').1
      have:=hcl2 j _ q (List.getElem?_eq_getElem hjl) hj'
      rw[←vleaf_one]
      exact leaf_of_vrel this (List.all_eq_true.1 hlfr _ (List.getElem_mem hjl))
     have hle':off+(repeatL zz len).length≤cs.length:=by omega
     have hE:Ext F B ρ w (B.set b (.cells row ver (splice cs off (repeatL zz len)))) ρ (w.setCells k (o'+off) zs.toList):=ext_set hb hr (splice_length _ _ _ hle') (hI.farb _ _ _ _ _ _ hb hr) _ _
     refine ⟨w.setCells k (o'+off) zs.toList,?_,?_,hE⟩
     ·have hst:=run_storeCells_cells (P:=P) k (o'+off) zs.toList 0 w (fun j hj=>by
       rw[Nat.add_zero,cell_of h1]
       have hj2:j<zs.size:=by simpa using hj
       have:o'+off+j<us.size:=by omega
       rw[Array.getElem?_eq_getElem this]; rfl) (fun j hj=>by
       rw[Nat.add_zero]
       have hj2:j<zs.size:=by simpa using hj
       exact h3.no h1 _ (by omega)) hlf'
      obtain ⟨l',rfl⟩:∃ l',len=l'+1:=⟨len - 1,by omega⟩
      simp only[Builtin.clear_,Sem.run_bind,run_underlying (elemT_some he),Result.andThen_ok,List.getElem?_toArray,List.getElem?_cons_zero,hzv,hzs]
      rw[show (Addr.mk k (o'+off) none)=⟨k,o'+off,none⟩ from rfl]
      rw[hst]
      rfl
     ·refine hI.other hb hE (fun _ _=>rfl) ?_ (fun c x l k2 hne hc hl hx=>heap_setCells_other _ _ (fun e=>hne (hI.injx _ _ _ _ _ _ k hc hb hl hr (e▸hx) rfl)))
       (fun c x l k2 o3 hne hc hl hx hk'=>hne (hI.injx _ _ _ _ _ _ k2 hc hb hl hk' hx rfl)) (fun k2 o2 h2=>hI.farb _ _ _ _ _ _ hb h2) (fun k2 o2 h0 h2=>by subst h0; exact hI.off0 _ _ _ _ _ hb h2) (.inr ⟨k,o',_,e0,fr,hr,heap_setCells _ _ h1,by rw[arrSet_size,splice_length _ _ _ hle']; exact h2,h3.size (arrSet_size _ _ _),fun i c hc=>?_⟩)
      ·have hcs:=hI.leaf _ _ _ _ hb
       rw[List.all_eq_true] at hcs hlfr ⊢
       intro q hq
       unfold splice at hq
       rcases List.mem_append.1 hq with hq | hq
       ·exact hcs q (List.mem_of_mem_take hq)
       ·rcases List.mem_append.1 hq with hq | hq
        ·exact hlfr q hq
        ·exact hcs q (List.mem_of_mem_drop hq)
      ·rw[splice_get _ _ _ hle'] at hc
       have out:cs[i]? = some c→(i<off∨off+(repeatL zz len).length≤i)→∃ u,(arrSet us (o'+off) zs.toList)[o'+i]? = some u∧VRel F (B.set b (.cells row ver (splice cs off (repeatL zz len)))) ρ (w.setCells k (o'+off) zs.toList) c u:=by
        intro hci hio
        obtain ⟨u,e1,e2⟩:=h4 i c hci
        refine ⟨u,?_,e2.ext hE⟩
        rw[arrSet_out _ _ _ _ (by simp; omega)]
        exact e1
       split at hc
       ·exact out hc (.inl (by assumption))
       ·split at hc
        ·rename_i n1 n2
         have hj:i - off<zs.size:=by omega
         refine ⟨zs[i - off],?_,(hcl2 (i - off) c _ hc (Array.getElem?_eq_getElem hj)).ext hE⟩
         have:=arrSet_in us (o'+off) zs.toList (i - off) (by simpa using hj) (by simp; omega)
         rw[show o'+off+(i - off)=o'+i by omega] at this
         rw[this]
         simp[hj]
        ·exact out hc (.inr (by omega))
  ·cases hm
 ·cases hm

end Go.Ax
