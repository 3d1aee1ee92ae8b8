/- What one operation does in a world is what the second reading says: literals, append. -/
import Derived.Test.YtddkloofiknjdaaDoorG1
import Derived.Laws.Tables
import Derived.Great.BuildSlice
import Derived.Laws.MakeOwn
import Derived.WalkSpells
import Derived.Laws.StructEq
import Derived.Laws.BytesString
import Derived.Laws.Concat
import Derived.Laws.Slices
import Derived.Lib.ConvBytes
set_option linter.unusedVariables false
set_option linter.unusedSimpArgs false
set_option linter.unusedSectionVars false
namespace Go.Ax
open Go.RowKit

variable [Glob] {P : Program} {F : Nat → Prop}

theorem NC {t:TypeId} {fs:Array Field} (h:JR P t=some fs):P.underlying t=some (.struct fs):=by
 unfold JR at h
 split at h
 ·cases h; assumption
 ·cases h

theorem dS {B:List Box} {ρ:Aj} {w:World} {t:TypeId} {parts:List (Nat×AV)} {vs:Array (Nat×Value)} {v:AV} (hl:parts.length=vs.size)
  (hp:∀ (i:Nat) (p:Nat×AV) (v:Nat×Value),parts[i]? = some p→vs[i]? = some v→p.1=v.1∧VRel F B ρ w p.2 v.2) (hm:VK P t parts=some v):
  ∃ x,(Instr.build t vs).run P w= .ok x w∧VRel F B ρ w v x:=by
 unfold VK at hm
 cases hz:EF P t with
 | none=>rw[hz] at hm; cases hm
 | some z=>
  rw[hz] at hm
  simp only[Option.bind_some] at hm
  split at hm
  ·rename_i hlf
   obtain ⟨u,h1,h2⟩:=HT hz w hlf
   have hfin:∀ (place:Nat→Option (Nat×Nat)),(fillA place z parts).map .agg=some v→∃ us,Instr.fill place u.cells vs.toList=some us∧VRel F B ρ w v (.agg us):=by
    intro place hf
    cases hff:fillA place z parts with
    | none=>rw[hff] at hf; cases hf
    | some cs=>
     rw[hff] at hf
     cases hf
     obtain ⟨us,e1,e2,_⟩:=P8 parts vs.toList z cs u.cells (by simpa using hl) (fun i p v h1 h2=>hp i p v h1 (by simpa using h2)) (h2 F B ρ w) hlf hff
     refine ⟨us,e1,?_⟩
     have:Value.agg us= .agg us.toList.toArray:=by simp
     rw[this]
     exact .agg _ _ (by simpa using e2.1) (fun j p u h3 h4=>e2.2 j p u h3 (by simpa using h4))
   split at hm
   ·rename_i places hpl
    unfold Y7 at hpl
    cases hfs:JR P t with
    | none=>rw[hfs] at hpl; cases hpl
    | some fs=>
     rw[hfs] at hpl
     simp only[Option.bind_some] at hpl
     obtain ⟨us,e1,e2⟩:=hfin _ hm
     refine ⟨.agg us,?_,e2⟩
     have hu:=NC hfs
     simp[Instr.build,h1,run_underlying hu,Array.mapM_eq_mapM_toList,run_places w _ _ hpl,e1]
   ·cases ha:VJ P t with
    | none=>rw[ha] at hm; cases hm
    | some q=>
     obtain ⟨n,sz⟩:=q
     rw[ha] at hm
     simp only[Option.bind_some] at hm
     obtain ⟨us,e1,e2⟩:=hfin _ hm
     unfold VJ at ha
     split at ha
     ·rename_i len e hu
      cases hsz:BU P e with
      | none=>rw[hsz] at ha; cases ha
      | some s=>
       rw[hsz] at ha
       cases ha
       refine ⟨.agg us,?_,e2⟩
       simp[Instr.build,h1,run_underlying hu,CO w hsz,e1]
     ·cases ha
  ·cases hm

theorem CY {t e:TypeId} (h:C2 P t=some e):P.underlying t=some (.slice e):=by
 unfold C2 at h
 split at h
 ·cases h; assumption
 ·cases h

theorem DA (z:List AV) (n:Nat):(repeatL z n).length=n*z.length:=by
 induction n with
 | zero=>simp[repeatL]
 | succ n ih=>simp[repeatL,ih,Nat.succ_mul]; omega

theorem Kt (z:List AV) (n i:Nat) (hi:i<n*z.length):(repeatL z n)[i]? = z[i % z.length]? := by
 induction n generalizing i with
 | zero=>simp at hi
 | succ n ih=>
  rw[repeatL,List.getElem?_append]
  split
  ·rename_i h; rw[Nat.mod_eq_of_lt h]
  ·rename_i h
   rw[ih _ (by rw[Nat.succ_mul] at hi; omega)]
   congr 1
   rw[←Nat.mod_eq_sub_mod (by omega)]

theorem Je (z:List AV) (n:Nat) (h:z.all AV.leaf=true):(repeatL z n).all AV.leaf=true:=by
 induction n with
 | zero=>rfl
 | succ n ih=>rw[repeatL,List.all_append,h,ih]; rfl

theorem UR {B B':List Box} {ρ:Aj} {w:World} (hI:Inv F B ρ w) {t:TypeId} {l c:AV} {ul uc:Value} {v:AV} (hl:VRel F B ρ w l ul) (hc:VRel F B ρ w c uc) (hm:It P t l c B=some (v,B')):
  ∃ x w' ρ',(Instr.makeSlice t ul uc).run P w= .ok x w'∧Inv F B' ρ' w'∧Ext F B ρ w B' ρ' w'∧VRel F B' ρ' w' v x:=by
 unfold It at hm
 obtain ⟨e,he,hm1⟩:=Option.bind_eq_some_iff.1 hm
 obtain ⟨n,hsz,hm2⟩:=Option.bind_eq_some_iff.1 hm1
 obtain ⟨z,hz,hm3⟩:=Option.bind_eq_some_iff.1 hm2
 obtain ⟨ie,hie,hm4⟩:=Option.bind_eq_some_iff.1 hm3
 clear hm hm1 hm2 hm3
 have hm:=hm4
 clear hm4
 split at hm
 ·rename_i k1 a k2 b
  split at hm
  ·rename_i hq
   obtain ⟨rfl,h0,h1,hn,hb,c3⟩:=hq
   cases hm
   have hvl:ul= .int k1 a:=by cases hl; rename_i q; cases q; rfl
   have hvc:uc= .int k2 a:=by cases hc; rename_i q; cases q; rfl
   subst hvl hvc
   obtain ⟨u,g1,h2⟩:=HT hz w c3
   have hu:=CY he
   obtain ⟨ie',hie',hies⟩:=Gx hsz
   rw[hie] at hie'
   cases hie'
   have hzi:ie.zero=some u:=by
    have:=g1
    simp only[zeroValue,typeInfo,Sem.run_bind,run_program,Result.andThen_ok,hie,Sem.run_pure] at this
    cases hh:ie.zero with
    | none=>rw[hh] at this; simp[unsupported] at this
    | some y=>rw[hh] at this; simp at this; rw[this]
   have hbase:CellsRel F B ρ w (repeatL z a.toNat) (madeCells u.cells (a.toNat*n)):=by
    have hzs:=(h2 F B ρ w).1
    refine ⟨by rw[DA,size_madeCells,hn],fun i c y hi hy=>?_⟩
    have hlt:i<a.toNat*n:=by
     have:=(List.getElem?_eq_some_iff.1 hi).1
     rw[DA] at this; rw[hn]; exact this
    rw[Kt _ _ _ (by rw[←hn]; exact hlt)] at hi
    have hpos:0<z.length:=by
     rcases Nat.eq_zero_or_pos z.length with h0 | h0
     ·rw[hn,h0] at hlt; simp at hlt
     ·exact h0
    have hm:i % z.length<u.cells.size:=by rw[←hzs]; exact Nat.mod_lt _ hpos
    refine (h2 F B ρ w).2 (i % z.length) c y hi ?_
    unfold madeCells at hy
    simp only[Array.getElem?_map,Array.getElem?_range] at hy
    rw[if_pos hlt] at hy
    simp only[Option.map_some,Option.some.injEq] at hy
    rw[←hy,←hzs]
    rw[getElem!_pos u.cells (i % z.length) hm]
    exact Array.getElem?_eq_getElem hm
   have hbytes:(ie.bytes:Int)*a≤281474976710656:=by
    have h3:(ie.bytes:Int)*a≤140000*a:=Int.mul_le_mul_of_nonneg_right (by omega) h0
    omega
   have hrun:=run_make (P:=P) w t e ie u hu hie hzi k1 k2 a a h0 (Int.le_refl _) hbytes (by omega)
   rw[hies] at hrun
   obtain ⟨q1,q2⟩:=OT (w':=w.alloc (.cells (madeCells u.cells (a.toNat*n)) e)) hI true (e:=e) (fr:=(0,0)) (Je _ _ c3) (Nat.le_of_eq hbase.1) (fun i c h=>hbase.get i c h) (.zero _) rfl rfl rfl rfl
   refine ⟨_,_,_,hrun,q1,q2, .rs _ _ _ _ _ _ _ ⟨by simp,Nat.le_refl _,fun _=>rfl,fun row v cs' h=>?_⟩⟩
   simp at h
   obtain ⟨rfl,rfl,rfl⟩:=h
   have hl:=DA z a.toNat
   exact ⟨Nat.le_refl _,fun _=>⟨by rw[hl,hn]; omega, .inr ⟨w.heap.size,0,by simp,rfl,e,(madeCells u.cells (a.toNat*n)).size,by unfold World.shape?; rw[heap_alloc_new],by rw[size_madeCells]; omega⟩⟩⟩
  ·cases hm
 ·cases hm

theorem SI {B B':List Box} {ρ:Aj} {w:World} (hI:Inv F B ρ w) {t:TypeId} {len:Nat} {parts:List (Nat×AV)} {vs:Array (Nat×Value)} {v:AV} (hl:parts.length=vs.size)
  (hp:∀ (i:Nat) (p:Nat×AV) (v:Nat×Value),parts[i]? = some p→vs[i]? = some v→p.1=v.1∧VRel F B ρ w p.2 v.2) (hm:Hp P t len parts B=some (v,B')):
  ∃ x w' ρ',(Instr.buildSlice t len vs).run P w= .ok x w'∧Inv F B' ρ' w'∧Ext F B ρ w B' ρ' w'∧VRel F B' ρ' w' v x:=by
 unfold Hp at hm
 cases he:C2 P t with
 | none=>rw[he] at hm; cases hm
 | some e=>
  rw[he] at hm
  simp only[Option.bind_some] at hm
  cases hsz:BU P e with
  | none=>rw[hsz] at hm; cases hm
  | some n=>
   rw[hsz] at hm
   simp only[Option.bind_some] at hm
   cases hz:EF P e with
   | none=>rw[hz] at hm; cases hm
   | some z=>
    rw[hz] at hm
    simp only[Option.bind_some] at hm
    split at hm
    ·rename_i hc
     simp only[Bool.and_eq_true,beq_iff_eq,Nat.ble_eq] at hc
     obtain ⟨⟨c1,c2⟩,c3⟩:=hc
     cases hf:fillA (fun i=>some (i*n,n)) (repeatL z len) parts with
     | none=>rw[hf] at hm; cases hm
     | some cs=>
      rw[hf] at hm
      simp only[Option.bind_some,Option.some.injEq,Prod.mk.injEq] at hm
      obtain ⟨rfl,rfl⟩:=hm
      obtain ⟨u,h1,h2⟩:=HT hz w c3
      have hu:=CY he
      obtain ⟨ie,hie,hies⟩:=Gx hsz
      have hzi:ie.zero=some u:=by
       have:=h1
       simp only[zeroValue,typeInfo,Sem.run_bind,run_program,Result.andThen_ok,hie,Sem.run_pure] at this
       cases hh:ie.zero with
       | none=>rw[hh] at this; simp[unsupported] at this
       | some y=>rw[hh] at this; simp at this; rw[this]
      have hbase:CellsRel F B ρ w (repeatL z len) ((Array.range (len*n)).map (u.cells[· % u.cells.size]!)):=by
       have hzs:=(h2 F B ρ w).1
       refine ⟨by rw[DA]; simp[c1],fun i c y hi hy=>?_⟩
       have hlt:i<len*n:=by
        have:=(List.getElem?_eq_some_iff.1 hi).1
        rw[DA] at this; rw[c1]; exact this
       rw[Kt _ _ _ (by rw[←c1]; exact hlt)] at hi
       have hpos:0<z.length:=by
        rcases Nat.eq_zero_or_pos z.length with h0 | h0
        ·rw[c1,h0] at hlt; simp at hlt
        ·exact h0
       have hm:i % z.length<u.cells.size:=by rw[←hzs]; exact Nat.mod_lt _ hpos
       refine (h2 F B ρ w).2 (i % z.length) c y hi ?_
       simp only[Array.getElem?_map,Array.getElem?_range] at hy
       rw[if_pos hlt] at hy
       simp only[Option.map_some,Option.some.injEq] at hy
       rw[←hy,←hzs]
       rw[getElem!_pos u.cells (i % z.length) hm]
       exact Array.getElem?_eq_getElem hm
      obtain ⟨us,e1,e2,e3⟩:=P8 parts vs.toList _ cs _ (by simpa using hl) (fun i p v h1 h2=>hp i p v h1 (by simpa using h2)) hbase (Je _ _ c3) hf
      obtain ⟨g1,g2⟩:=OT (w':=w.alloc (.cells us e)) hI true (e:=e) (fr:=(0,0)) e3 (Nat.le_of_eq e2.1) (fun i c h=>e2.get i c h) (.zero _) rfl rfl rfl rfl
      have hcl:cs.length=len*n:=by
       have:∀ (parts:List (Nat×AV)) (a b:List AV),fillA (fun i=>some (i*n,n)) a parts=some b→b.length=a.length:=by
        intro parts
        induction parts with
        | nil=>intro a b h; simp only[fillA,Option.some.injEq] at h; rw[h]
        | cons p r ih=>
         intro a b h
         obtain ⟨i,x⟩:=p
         simp only[fillA] at h
         split at h
         ·rename_i hcond
          simp only[Bool.and_eq_true,beq_iff_eq,Nat.ble_eq] at hcond
          rw[ih _ _ h,EM _ _ _ (by rw[hcond.1.1]; exact hcond.1.2)]
         ·cases h
       rw[this _ _ _ hf,DA,c1]
      refine ⟨.slice (some ⟨w.heap.size,0,none⟩) len len,w.alloc (.cells us e),_,?_,g1,g2, .rs _ _ _ _ _ _ _ ⟨by simp,Nat.le_refl _,fun _=>rfl,fun row v cs' h=>?_⟩⟩
      ·have hsmall:¬len*ie.size>2 ^ 24:=by rw[hies]; omega
       by_cases hpos:len*ie.size=0
       ·have r0:Array.range 0 = #[]:=Array.ext' (by simp)
        have e1':Instr.fill (fun i=>some (i*ie.size,ie.size)) #[] vs.toList=some us:=by
         have e0:len*n=0:=by rw[←hies]; exact hpos
         rw[hies]
         rw[e0,r0] at e1
         rw[Array.map_empty] at e1
         exact e1
        simp only[Instr.buildSlice,Sem.run_bind,run_underlying hu,Result.andThen_ok,sizeOf,typeInfo,run_program,hie,Sem.run_pure,hsmall,if_false,hpos,if_true]
        simp[hpos,r0,e1',newRow]
       ·exact run_buildSlice (P:=P) w t e len vs us ie u hu hie hzi hsmall hpos (by rw[hies]; exact e1)
      ·simp at h
       obtain ⟨rfl,rfl,rfl⟩:=h
       refine ⟨Nat.le_refl _,fun _=>⟨by omega, .inr ⟨w.heap.size,0,by simp,rfl,e,us.size,by unfold World.shape?; rw[heap_alloc_new],by have:=e2.1; omega⟩⟩⟩
    ·cases hm

theorem _root_.List.set_getElem?_self' {α:Type} {l:List α} {i:Nat} {a:α} (h:l[i]? = some a):l.set i a=l:=by
 apply List.ext_getElem?
 intro j
 rw[List.getElem?_set]
 by_cases e:i=j
 ·subst e
  rw[if_pos rfl,if_pos (List.getElem?_eq_some_iff.1 h).1,h]
 ·rw[if_neg e]

theorem US {z:Array Value} {n i:Nat} (hi:i<n*z.size):(Builtin.zeroCells z n)[i]? = z[i % z.size]? := by
 unfold Builtin.zeroCells
 have hz:0<z.size:=by
  rcases Nat.eq_zero_or_pos z.size with h | h
  ·rw[h] at hi; simp at hi
  ·exact h
 have hm:i % z.size<z.size:=Nat.mod_lt _ hz
 rw[Array.getElem?_map,Array.getElem?_range]
 simp[hi,hm]

theorem dT {B B':List Box} {ρ:Aj} {w:World} (hI:Inv F B ρ w) {t ty:TypeId} {x:AV} {u:Value} (hx:VRel F B ρ w x u) (hm:M8 P t B x=some B'):
  ∃ w',(Builtin.clear_ #[t] ty #[u]).run P w= .ok (.tuple #[]) w'∧Inv F B' ρ w'∧Ext F B ρ w B' ρ w':=by
 unfold M8 at hm
 obtain ⟨e,he,hm⟩:=Option.bind_eq_some_iff.1 hm
 obtain ⟨sz,hsz,hm⟩:=Option.bind_eq_some_iff.1 hm
 obtain ⟨zz,hz,hm⟩:=Option.bind_eq_some_iff.1 hm
 obtain ⟨b,ver,sz',off,len,a,cap,hp,rfl,rfl⟩:∃ b ver sz' off len a cap,RsOk B ρ w b ver sz' off len a cap∧x= .rs b ver sz' off len∧u= .slice a len cap:=by
  cases hx with
  | rs b ver sz' off len a cap hp=>exact ⟨b,ver,sz',off,len,a,cap,hp,rfl,rfl⟩
  | _=>simp at hm
 simp only at hm
 split at hm
 ·rename_i row vv cs hb
  split at hm
  ·rename_i hc
   cases hm
   simp only[Bool.and_eq_true,beq_iff_eq,Nat.ble_eq] at hc
   obtain ⟨⟨⟨⟨hv,hss⟩,hzl⟩,hlf⟩,hle⟩:=hc
   have hv':ver=vv:=Nat.eq_of_beq_eq_true hv
   have hzl:zz.length=sz:=Nat.eq_of_beq_eq_true hzl
   subst hv' hss
   obtain ⟨g1,g2,g3,g4⟩:=hp
   obtain ⟨_,g5⟩:=g4 _ _ _ hb
   obtain ⟨g6,g7⟩:=g5 rfl
   obtain ⟨zv,hzv,hzr⟩:=HT hz w hlf
   have hrl:(repeatL zz len).length=len*sz:=by rw[DA,hzl]
   have hnil:len=0→(Builtin.clear_ #[t] ty #[.slice a len cap]).run P w= .ok (.tuple #[]) w:=fun h0=>by
    subst h0
    cases a <;> simp[Builtin.clear_,run_underlying (CY he)]
   rcases Nat.eq_zero_or_pos len with h0 | hpos
   ·have hsame:Cf cs off (repeatL zz len)=cs:=by
     subst h0
     unfold Cf repeatL
     simp
    refine ⟨w,hnil h0,?_,?_⟩
    ·rw[hsame,List.set_getElem?_self' hb]; exact hI
    ·rw[hsame,List.set_getElem?_self' hb]; exact .refl _ _ _
   ·rcases g7 with h0 | ⟨k,o',hr,ha,e',m,hsh,hle2⟩
    ·omega
    ·subst ha
     obtain ⟨us,e0,fr,h1,h2,h3,h4⟩:=hI.cell hb hr
     have hcl:∀ (F:Nat→Prop) (B:List Box) (ρ:Aj) (w':World),(repeatL zz len).length=(Builtin.zeroCells zv.cells len).size∧∀ (i:Nat) (c:AV) (q:Value),(repeatL zz len)[i]? = some c→(Builtin.zeroCells zv.cells len)[i]? = some q→VRel F B ρ w' c q:=fun F B ρ w'=>by
      obtain ⟨q1,q2⟩:=hzr F B ρ w'
      refine ⟨by rw[hrl,size_zeroCells,←q1,hzl],fun i c q hc hq=>?_⟩
      have hi:i<len*zz.length:=by
       have:=(List.getElem?_eq_some_iff.1 hc).1
       rw[DA] at this; exact this
      rw[Kt _ _ _ hi] at hc
      rw[US (by rw[←q1]; exact hi),←q1] at hq
      exact q2 _ c q hc hq
     generalize hzs:Builtin.zeroCells zv.cells len=zs at hcl
     have hlfr:(repeatL zz len).all AV.leaf=true:=Je zz len hlf
     obtain ⟨hcl1,hcl2⟩:=hcl F B ρ w
     have hlf':∀ q∈zs.toList,q.oneCell'=true:=fun q hq=>by
      obtain ⟨j,hj⟩:=List.getElem?_of_mem hq
      have hj':zs[j]? = some q:=by simpa using hj
      have hjl:j<(repeatL zz len).length:=by rw[hcl1]; exact (Array.getElem?_eq_some_iff.1 hj').1
      have:=hcl2 j _ q (List.getElem?_eq_getElem hjl) hj'
      rw[←NB]
      exact Gv this (List.all_eq_true.1 hlfr _ (List.getElem_mem hjl))
     have hle':off+(repeatL zz len).length≤cs.length:=by omega
     have hE:Ext F B ρ w (B.set b (.cells row ver (Cf cs off (repeatL zz len)))) ρ (w.setCells k (o'+off) zs.toList):=Y8 hb hr (EM _ _ _ hle') (hI.farb _ _ _ _ _ _ hb hr) _ _
     refine ⟨w.setCells k (o'+off) zs.toList,?_,?_,hE⟩
     ·have hst:=run_storeCells_cells (P:=P) k (o'+off) zs.toList 0 w (fun j hj=>by
       rw[Nat.add_zero,Fw h1]
       have hj2:j<zs.size:=by simpa using hj
       have:o'+off+j<us.size:=by omega
       rw[Array.getElem?_eq_getElem this]; rfl) (fun j hj=>by
       rw[Nat.add_zero]
       have hj2:j<zs.size:=by simpa using hj
       exact h3.no h1 _ (by omega)) hlf'
      obtain ⟨l',rfl⟩:∃ l',len=l'+1:=⟨len - 1,by omega⟩
      simp only[Builtin.clear_,Sem.run_bind,run_underlying (CY he),Result.andThen_ok,List.getElem?_toArray,List.getElem?_cons_zero,hzv,hzs]
      rw[show (Addr.mk k (o'+off) none)=⟨k,o'+off,none⟩ from rfl]
      rw[hst]
      rfl
     ·refine hI.other hb hE (fun _ _=>rfl) ?_ (fun c x l k2 hne hc hl hx=>Ca _ _ (fun e=>hne (hI.injx _ _ _ _ _ _ k hc hb hl hr (e▸hx) rfl)))
       (fun c x l k2 o3 hne hc hl hx hk'=>hne (hI.injx _ _ _ _ _ _ k2 hc hb hl hk' hx rfl)) (fun k2 o2 h2=>hI.farb _ _ _ _ _ _ hb h2) (fun k2 o2 h0 h2=>by subst h0; exact hI.off0 _ _ _ _ _ hb h2) (.inr ⟨k,o',_,e0,fr,hr,GO _ _ h1,by rw[EX,EM _ _ _ hle']; exact h2,h3.size (EX _ _ _),fun i c hc=>?_⟩)
      ·have hcs:=hI.leaf _ _ _ _ hb
       rw[List.all_eq_true] at hcs hlfr ⊢
       intro q hq
       unfold Cf at hq
       rcases List.mem_append.1 hq with hq | hq
       ·exact hcs q (List.mem_of_mem_take hq)
       ·rcases List.mem_append.1 hq with hq | hq
        ·exact hlfr q hq
        ·exact hcs q (List.mem_of_mem_drop hq)
      ·rw[L7 _ _ _ hle'] at hc
       have out:cs[i]? = some c→(i<off∨off+(repeatL zz len).length≤i)→∃ u,(D9 us (o'+off) zs.toList)[o'+i]? = some u∧VRel F (B.set b (.cells row ver (Cf cs off (repeatL zz len)))) ρ (w.setCells k (o'+off) zs.toList) c u:=by
        intro hci hio
        obtain ⟨u,e1,e2⟩:=h4 i c hci
        refine ⟨u,?_,e2.ext hE⟩
        rw[Gw _ _ _ _ (by simp; omega)]
        exact e1
       split at hc
       ·exact out hc (.inl (by assumption))
       ·split at hc
        ·rename_i n1 n2
         have hj:i - off<zs.size:=by omega
         refine ⟨zs[i - off],?_,(hcl2 (i - off) c _ hc (Array.getElem?_eq_getElem hj)).ext hE⟩
         have:=KD us (o'+off) zs.toList (i - off) (by simpa using hj) (by simp; omega)
         rw[show o'+off+(i - off)=o'+i by omega] at this
         rw[this]
         simp[hj]
        ·exact out hc (.inr (by omega))
  ·cases hm
 ·cases hm

end Go.Ax
namespace Go.Ax
open Go.RowKit

variable [Glob] {P : Program} {F : Nat → Prop}

theorem OU {B:List Box} {ρ:Aj} {w w':World} {b:Nat} {row:Bool} {v:Nat} {cs:List AV} (hb:B[b]? = some (.cells row v cs)) (cs':List AV) (l:Option (Nat×Nat))
  (hs:w.heap.size≤w'.heap.size) (ho:w'.os=w.os) (ht:w'.tape=w.tape) (hp:w'.output=w.output)
  (hk:∀ k,k<w.heap.size→(∀ k' o',ρ b=some (k',o')→k≠k')→w'.heap[k]? = w.heap[k]?) (hsh:∀ k e n,w.shape? k=some (e,n)→w'.shape? k=some (e,n))
  (hl:∀ k o,l=some (k,o)→w.heap.size≤k∨∃ o',ρ b=some (k,o')) (hF:∀ k o,ρ b=some (k,o)→¬F k):
  Ext F B ρ w (B.set b (.cells row (v+1) cs')) (fun c=>if c=b then l else ρ c) w':=by
 have hlt:b<B.length:=(List.getElem?_eq_some_iff.1 hb).1
 refine ⟨hs,ho,ht,hp,fun k hkl hno=>⟨hk k hkl (fun k' o' hr e=>hno (.cells hb (e▸hr))),?_⟩,hsh,by simp,fun c row' v' cs'' hc h=>?_,fun c cs'' Φ hc h=>?_,fun k hFk hkl=>hk k hkl (fun k' o' hr e=>hF k' o' hr (e▸hFk))⟩
 ·rintro (hFk | ⟨c,x,l',h1,h2,h3⟩)
  ·exact hno (.inl hFk)
  by_cases e:c=b
  ·subst e
   simp only[if_true] at h2
   simp[hlt] at h1
   subst h1
   have e:k=l'.1:=h3
   rcases hl k l'.2 (by rw[e]; exact h2) with h | ⟨o',h⟩
   ·omega
   ·exact hno (.cells hb h)
  ·simp only[e,if_false] at h2
   rw[List.getElem?_set,if_neg (fun h=>e h.symm)] at h1
   exact hno (.inr ⟨c,x,l',h1,h2,h3⟩)
 ·rw[List.getElem?_set] at h
  split at h
  ·rename_i e
   subst e
   simp only[hlt,if_true,Option.some.injEq,Box.cells.injEq] at h
   obtain ⟨rfl,rfl,rfl⟩:=h
   exact ⟨v,cs,hb,by omega,fun h=>by omega⟩
  ·rename_i e
   have e':c≠b:=fun h=>e h.symm
   exact ⟨v',cs'',h,Nat.le_refl _,fun _=>⟨by simp[e'],rfl⟩⟩
 ·rw[List.getElem?_set] at h
  split at h
  ·rename_i e; subst e; simp[hlt] at h
  ·rename_i e
   have e':c≠b:=fun h=>e h.symm
   exact ⟨cs'',Φ,h,by simp[e']⟩

theorem ZA {B:List Box} {ρ:Aj} {w:World} (hI:Inv F B ρ w) {t:TypeId} {sz n:Nat} {x:AV} {u:Value} {new:List AV} (hx:VRel F B ρ w x u) (hm:E1 P t B sz x=some (n,new))
  (hlf:new.all AV.leaf=true) (hlen:new.length=n*sz):∃ us:List Value,Src P sz t u n us w∧CellsRel F B ρ w new us.toArray:=by
 have leaf1:∀ (us:List Value),CellsRel F B ρ w new us.toArray→∀ q∈us,q.oneCell'=true:=by
  intro us h q hq
  obtain ⟨j,hj⟩:=List.getElem?_of_mem hq
  have hjl:j<new.length:=by rw[h.1]; simpa using (List.getElem?_eq_some_iff.1 hj).1
  rw[←NB]
  exact Gv (h.2 j _ q (List.getElem?_eq_getElem hjl) (by simpa using hj)) (List.all_eq_true.1 hlf _ (List.getElem_mem hjl))
 unfold E1 at hm
 split at hm
 ·rename_i e hu
  cases hm
  cases hx with
  | p _ y hp=>
   cases hp
   exact ⟨[],Src.ofNil w hu 0,⟨rfl,fun i c u h=>by simp at h⟩⟩
 ·rename_i e xs hu
  split at hm
  ·rename_i hall
   cases hm
   cases hx with
   | p _ y hp=>
    cases hp with
    | nil a cap h=>
     refine ⟨[],?_,⟨rfl,fun i c u h=>by simp at h⟩⟩
     cases a with
     | none=>exact Src.ofNil w hu cap
     | some a=>exact Src.ofSlice w hu a 0 cap [] (by simp) (fun j u h=>by simp at h) (fun u h=>by simp at h)
    | ls _ a cap us h1 h2 h3 h4 h5 h6 h7=>
     have hc:CellsRel F B ρ w ((xs.flatMap PV.cells).map AV.p) us.toArray:=by
      refine ⟨by simpa using h5,fun i c u hi hu=>?_⟩
      rw[List.getElem?_map] at hi
      cases hq:(xs.flatMap PV.cells)[i]? with
      | none=>rw[hq] at hi; cases hi
      | some q=>rw[hq] at hi; cases hi; exact .p _ _ (h7 i q u hq (by simpa using hu))
     exact ⟨us,Src.ofSlice w hu a _ cap us (by rw[←h5]; simpa using hlen) h6 (leaf1 us hc),hc⟩
  ·cases hm
 ·rename_i e b ver sz' off len hu
  split at hm
  ·rename_i row vv cs hb
   split at hm
   ·rename_i hc
    cases hm
    simp only[Bool.and_eq_true,beq_iff_eq] at hc
    obtain ⟨hv,rfl⟩:=hc
    have hv':ver=vv:=Nat.eq_of_beq_eq_true hv
    subst hv'
    cases hx with
    | rs _ _ _ _ _ a cap hok=>
     obtain ⟨g1,g2,g3,g4⟩:=hok
     obtain ⟨_,g5⟩:=g4 _ _ _ hb
     obtain ⟨g6,g7⟩:=g5 rfl
     rcases g7 with h0 | ⟨k,o',hr,ha,e',m,hsh,hle⟩
     ·have hn:n=0:=by omega
      subst hn
      refine ⟨[],?_,by simp[CellsRel]⟩
      cases a with
      | none=>exact Src.ofNil w hu cap
      | some a=>exact Src.ofSlice w hu a 0 cap [] (by simp) (fun j u h=>by simp at h) (fun u h=>by simp at h)
     ·obtain ⟨us,e2,fr,q1,q2,q3,q4⟩:=hI.cell hb hr
      have hlen':((cs.drop off).take (n*sz)).length=n*sz:=by simp; omega
      have hus:(us.toList.drop (o'+off)).take (n*sz)=(us.toList.drop (o'+off)).take (n*sz):=rfl
      have hlu:((us.toList.drop (o'+off)).take (n*sz)).length=n*sz:=by simp; omega
      have hc:CellsRel F B ρ w ((cs.drop off).take (n*sz)) ((us.toList.drop (o'+off)).take (n*sz)).toArray:=by
       refine ⟨by simp; omega,fun i c u hi hui=>?_⟩
       rw[List.getElem?_take] at hi
       split at hi
       ·rename_i hlt
        rw[List.getElem?_drop] at hi
        obtain ⟨u',f1,f2⟩:=q4 _ c hi
        have:(us.toList.drop (o'+off))[i]? = some u:=by
         have h:=hui
         simp only[List.getElem?_toArray] at h
         rw[List.getElem?_take,if_pos hlt] at h
         exact h
        rw[List.getElem?_drop] at this
        have e3:us[o'+off+i]? = some u:=by simpa using this
        rw[show o'+(off+i)=o'+off+i by omega] at f1
        rw[e3] at f1
        cases f1
        exact f2
       ·cases hi
      subst ha
      refine ⟨_,Src.ofSlice w hu _ n cap _ hlu (fun j u hj=>?_) (leaf1 _ hc),hc⟩
      rw[List.getElem?_take] at hj
      split at hj
      ·rw[List.getElem?_drop] at hj
       rw[Addr.add_lit,Fw q1]
       simpa using hj
      ·cases hj
   ·cases hm
  ·cases hm
 ·rename_i s hu
  split at hm
  ·rename_i h1
   have h1':sz=1:=by simpa using h1
   subst h1'
   cases hm
   cases hx with
   | p _ y hp=>
    cases hp
    refine ⟨_,Src.ofString w hu s,?_⟩
    refine ⟨by simp[byteCells],fun i c u hi hui=>?_⟩
    simp only[List.getElem?_map,List.getElem?_toArray,byteCells] at hi hui
    cases hq:s.data.toList[i]? with
    | none=>rw[hq] at hi; cases hi
    | some q=>rw[hq] at hi hui; cases hi; cases hui; exact .p _ _ (.v _)
  ·cases hm
 ·cases hm

theorem aL {B B':List Box} {ρ:Aj} {w:World} (hI:Inv F B ρ w) {t tx ty:TypeId} {s x v:AV} {us ux:Value} (hs:VRel F B ρ w s us) (hx:VRel F B ρ w x ux)
  (hm:Gd P t tx B s x=some (v,B')):
  ∃ y w' ρ',(Builtin.append_ #[t,tx] ty #[us,ux]).run P w= .ok y w'∧Inv F B' ρ' w'∧Ext F B ρ w B' ρ' w'∧VRel F B' ρ' w' v y:=by
 unfold Gd at hm
 cases he:C2 P t with
 | none=>rw[he] at hm; cases hm
 | some e=>
 rw[he] at hm
 simp only[Option.bind_some] at hm
 cases hsz:BU P e with
 | none=>rw[hsz] at hm; cases hm
 | some sz=>
 rw[hsz] at hm
 simp only[Option.bind_some] at hm
 obtain ⟨i,hi,his⟩:=Gx hsz
 rw[hi] at hm
 simp only[Option.map_some,Option.bind_some] at hm
 split at hm
 ·cases hm
 rename_i hcond
 simp only[Bool.or_eq_true,not_or,Bool.not_eq_true,Bool.not_eq_false',beq_iff_eq] at hcond
 obtain ⟨⟨⟨c1,c2⟩,c3⟩,c4⟩:=hcond
 have hsz0:sz≠0:=fun h=>by subst h; cases c1
 have hby0:i.bytes≠0:=fun h=>by rw[h] at c2; cases c2
 cases hz:EF P e with
 | none=>rw[hz] at c3; cases c3
 | some z=>
 rw[hz] at c3 c4
 simp only[Option.map_some,Option.some.injEq] at c3 c4
 obtain ⟨zv,hz1,hz2⟩:=HT hz w c4
 have hzi:i.zero=some zv:=by
  have:=hz1
  simp only[zeroValue,typeInfo,Sem.run_bind,run_program,Result.andThen_ok,hi,Sem.run_pure] at this
  cases hh:i.zero with
  | none=>rw[hh] at this; simp[unsupported] at this
  | some y=>rw[hh] at this; simp at this; rw[this]
 have hzs:zv.cells.size=sz:=by rw[←(hz2 F B ρ w).1,c3]
 have hu:=CY he
 cases hsr:E1 P tx B sz x with
 | none=>rw[hsr] at hm; cases hm
 | some nn=>
 obtain ⟨n,new⟩:=nn
 rw[hsr] at hm
 simp only[Option.bind_some] at hm
 split at hm
 ·cases hm
 rename_i hcond2
 simp only[Bool.or_eq_true,not_or,Bool.not_eq_true,Bool.not_eq_false'] at hcond2
 obtain ⟨d1,d2⟩:=hcond2
 have hnl:new.length=n*sz:=Nat.eq_of_beq_eq_true d2
 obtain ⟨news,hsrc,hnews⟩:=ZA hI hx hsr d1 hnl
 have hnewsl:news.length=n*sz:=by rw[←hnl]; simpa using hnews.1.symm
 have hsrc':Src P i.size tx ux n news w:=by rw[his]; exact hsrc
 -- a new row, made of old cells and new ones
 have grow:∀ (base:Option Addr) (len cap:Nat) (olds:List Value) (oldA:List AV),us= .slice base len cap→cap<len+n→(len+n)*i.bytes≤140737488355328 →
   (Builtin.firstCells i.size len (.slice base len cap)).run P w.drew= .ok olds.toArray w.drew→CellsRel F B ρ w oldA olds.toArray→oldA.length=len*sz →
   ∃ c,(Builtin.append_ #[t,tx] ty #[us,ux]).run P w= .ok (.slice (some ⟨w.heap.size,0,none⟩) (len+n) c) (w.drew.alloc (.cells ((olds++news).toArray++Builtin.zeroCells zv.cells (c - (len+n))) e))∧len+n≤c ∧
    ((olds++news).toArray++Builtin.zeroCells zv.cells (c - (len+n))).size=c*sz ∧
    ∀ (j:Nat) (q:AV),(oldA++new)[j]? = some q→∃ u,((olds++news).toArray++Builtin.zeroCells zv.cells (c - (len+n)))[j]? = some u∧VRel F B ρ w q u:=by
  intro base len cap olds oldA hus hg hb hold holdR hol
  have hlenb:len+n≤140737488355328:=Nat.le_trans (Nat.le_mul_of_pos_right _ (Nat.pos_of_ne_zero hby0)) hb
  have hr:=run_append_grow_src (P:=P) w t tx ty e i zv hu hi hzi base len cap olds hold ux n news hsrc' hg (by omega) (growslice_fits hg hb)
  have hge:=grownCap_ge w (len+n) cap e
  refine ⟨grownCap w (len+n) cap e,by rw[hus]; exact hr,hge,?_,fun j q hq=>?_⟩
  ·have hol':olds.length=len*sz:=by rw[←hol]; simpa using holdR.1.symm
   simp only[Array.size_append,List.size_toArray,List.length_append,size_zeroCells,hzs,hol',hnewsl,←Nat.add_mul]
   congr 1
   omega
  ·have hol':olds.length=len*sz:=by rw[←hol]; simpa using holdR.1.symm
   rw[List.getElem?_append] at hq
   have hjl:j<olds.length+news.length:=by
    split at hq
    ·omega
    ·have:=(List.getElem?_eq_some_iff.1 hq).1
     omega
   rw[Array.getElem?_append_left (by simpa using hjl)]
   simp only[List.getElem?_toArray]
   split at hq
   ·rename_i hlt
    obtain ⟨u,h1,h2⟩:=holdR.get j q hq
    rw[List.getElem?_append_left (by omega)]
    exact ⟨u,by simpa using h1,h2⟩
   ·rename_i hlt
    obtain ⟨u,h1,h2⟩:=hnews.get _ q hq
    rw[List.getElem?_append_right (by omega),hol',←hol]
    exact ⟨u,by simpa using h1,h2⟩
 split at hm
 ·-- onto the nil slice
  split at hm
  ·rename_i hb
   rw[Nat.ble_eq] at hb
   cases hm
   cases hs with
   | p _ y hp=>
   cases hp
   rcases Nat.eq_zero_or_pos n with h0 | h0
   ·subst h0
    have hnil:new= []:=List.eq_nil_of_length_eq_zero (by simpa using hnl)
    subst hnil
    obtain ⟨g1,g2⟩:=JT hI
    refine ⟨.slice none 0 0,w,_,?_,g1,g2, .rs _ _ _ _ _ _ _ ⟨by simp,Nat.le_refl _,fun h=>by omega,fun row v cs' h=>?_⟩⟩
    ·rcases hsrc.kind with ⟨e',hk⟩ | hk <;> simp[Builtin.append_,run_underlying hu,run_underlying hk,sizeOf,typeInfo,hi,hsrc.len,hsrc'.cells]
    ·simp at h
     obtain ⟨rfl,rfl,rfl⟩:=h
     exact ⟨Nat.le_refl _,fun _=>⟨by simp, .inl rfl⟩⟩
   ·obtain ⟨c,r1,r2,r3,r4⟩:=grow none 0 0 [] [] rfl (by omega) (by simpa using hb) (run_firstCells_none w.drew _ _ _ _) ⟨rfl,fun i c u h=>by simp at h⟩ (by simp)
    simp only[Nat.zero_add,List.nil_append] at r1 r2 r3 r4
    obtain ⟨g1,g2⟩:=OT (w':=w.drew.alloc (.cells (news.toArray++Builtin.zeroCells zv.cells (c - n)) e)) hI true (e:=e) (fr:=(0,0)) d1 (by rw[r3,hnl]; exact Nat.mul_le_mul_right _ r2) r4 (.zero _) rfl rfl rfl rfl
    refine ⟨_,_,_,r1,g1,g2, .rs _ _ _ _ _ _ _ ⟨by simp,r2,fun _=>rfl,fun row v cs' h=>?_⟩⟩
    simp at h
    obtain ⟨rfl,rfl,rfl⟩:=h
    refine ⟨Nat.le_refl _,fun _=>⟨by omega, .inr ⟨w.heap.size,0,by simp,rfl,e,c*sz,?_,by omega⟩⟩⟩
    have hh:∀ o:Obj,(w.drew.alloc o).heap[w.heap.size]? = some o:=fun o=>heap_alloc_new w.drew o
    simp only[World.shape?,hh,r3]
  ·cases hm
 ·-- onto a row
  rename_i b ver sz' off len
  split at hm
  ·rename_i vv cs hbx
   split at hm
   ·rename_i hc
    simp only[Bool.and_eq_true,beq_iff_eq,Nat.ble_eq] at hc
    obtain ⟨⟨hv,rfl⟩,hbd⟩:=hc
    have hv':ver=vv:=Nat.eq_of_beq_eq_true hv
    subst hv'
    cases hm
    have hlt:b<B.length:=(List.getElem?_eq_some_iff.1 hbx).1
    cases hs with
    | rs _ _ _ _ _ a cap hok=>
    obtain ⟨g1,g2,g3,g4⟩:=hok
    obtain ⟨_,g5⟩:=g4 _ _ _ hbx
    obtain ⟨g6,g7⟩:=g5 rfl
    have hcsl:=hI.leaf _ _ _ _ hbx
    have hnewleaf:((cs.drop off).take (len*sz)++new).all AV.leaf=true:=by
     rw[List.all_append,Bool.and_eq_true]
     refine ⟨?_,d1⟩
     rw[List.all_eq_true] at hcsl ⊢
     intro q hq
     exact hcsl q (List.mem_of_mem_drop (List.mem_of_mem_take hq))
    have hpl:((cs.drop off).take (len*sz)).length=len*sz:=by simp; omega
    have hnewlen:((cs.drop off).take (len*sz)++new).length=(len+n)*sz:=by rw[List.length_append,hpl,hnl,Nat.add_mul]
    -- the arm that grows
    have growArm:∀ (olds:List Value),cap<len+n→(Builtin.firstCells i.size len (.slice a len cap)).run P w.drew= .ok olds.toArray w.drew→CellsRel F B ρ w ((cs.drop off).take (len*sz)) olds.toArray →
      ∃ y w' ρ',(Builtin.append_ #[t,tx] ty #[.slice a len cap,ux]).run P w= .ok y w'∧Inv F (B.set b (.cells true (ver+1) ((cs.drop off).take (len*sz)++new))) ρ' w' ∧
       Ext F B ρ w (B.set b (.cells true (ver+1) ((cs.drop off).take (len*sz)++new))) ρ' w'∧VRel F (B.set b (.cells true (ver+1) ((cs.drop off).take (len*sz)++new))) ρ' w' (.rs b (ver+1) sz 0 (len+n)) y:=by
     intro olds hg hold holdR
     obtain ⟨c,r1,r2,r3,r4⟩:=grow a len cap olds _ rfl hg hbd hold holdR hpl
     have hE:Ext F B ρ w (B.set b (.cells true (ver+1) ((cs.drop off).take (len*sz)++new))) (fun c=>if c=b then some (w.heap.size,0) else ρ c) (w.drew.alloc (.cells ((olds++news).toArray++Builtin.zeroCells zv.cells (c - (len+n))) e)):=by
      refine OU hbx _ _ (by simp) rfl rfl rfl (fun k hk _=>Below.heap_alloc w.drew _ k hk) (fun k e n h=>?_) (fun k o h=>by cases h; exact .inl (Nat.le_refl _)) (fun k o h=>hI.farb _ _ _ _ _ _ hbx h)
      have hk:k<w.heap.size:=by
       unfold World.shape? at h
       split at h
       ·rename_i hh; exact (Array.getElem?_eq_some_iff.1 hh).1
       ·cases h
      unfold World.shape? at h ⊢
      rw[Below.heap_alloc w.drew _ k hk]
      exact h
     refine ⟨_,_,_,r1,hI.other hbx hE (fun c hc=>by simp[hc]) hnewleaf (fun c x l k hne hc hl hx=>Below.heap_alloc w.drew _ k (hI.haslt hc hl hx)) (fun c x l k o' hne hc hl hx h=>?_) (fun k o h hF=>by simp at h; have:=hI.bound k hF; omega) (fun _ _ h=>by cases h) (.inr ⟨w.heap.size,0,_,e,(0,0),by simp,heap_alloc_new w.drew _,?_, .zero _,fun j q hq=>?_⟩),hE,?_⟩
     ·simp at h
      have:=hI.haslt hc hl hx
      omega
     ·rw[r3,hnewlen,Nat.zero_add]; exact Nat.mul_le_mul_right _ r2
     ·obtain ⟨u,f1,f2⟩:=r4 j q hq
      exact ⟨u,by rw[Nat.zero_add]; exact f1,f2.ext hE⟩
     ·refine .rs _ _ _ _ _ _ _ ⟨by simpa using hlt,r2,fun _=>rfl,fun row v cs' h=>?_⟩
      simp[hlt] at h
      obtain ⟨rfl,rfl,rfl⟩:=h
      refine ⟨Nat.le_refl _,fun _=>⟨by rw[hnewlen]; omega, .inr ⟨w.heap.size,0,by simp,rfl,e,c*sz,?_,by omega⟩⟩⟩
      have hh:∀ o:Obj,(w.drew.alloc o).heap[w.heap.size]? = some o:=fun o=>heap_alloc_new w.drew o
      simp only[World.shape?,hh,r3]
    rcases g7 with hc0 | ⟨k,o',hr,ha,e',m,hsh,hle⟩
    ·-- no capacity
     have hl0:len=0:=by omega
     subst hc0
     subst hl0
     have hfc:∀ w':World,(Builtin.firstCells i.size 0 (.slice a 0 0)).run P w'= .ok (#[]:Array Value) w':=fun w'=>by
      cases a with
      | none=>exact run_firstCells_none w' _ _ _ _
      | some a=>simp[Builtin.firstCells,loadCells,loadCellsFrom]
     have he0:CellsRel F B ρ w ((cs.drop off).take (0*sz)) ([]:List Value).toArray:=⟨by simp,fun i c u h=>by simp at h⟩
     rcases Nat.eq_zero_or_pos n with h0 | h0
     ·subst h0
      have hnil:new= []:=List.eq_nil_of_length_eq_zero (by simpa using hnl)
      subst hnil
      have hE:Ext F B ρ w (B.set b (.cells true (ver+1) ((cs.drop off).take (0*sz)++ []))) (fun c=>if c=b then none else ρ c) w:=
       OU hbx _ none (Nat.le_refl _) rfl rfl rfl (fun _ _ _=>rfl) (fun _ _ _ h=>h) (fun _ _ h=>by cases h) (fun k o h=>hI.farb _ _ _ _ _ _ hbx h)
      refine ⟨.slice a 0 0,w,_,?_,hI.other hbx hE (fun c hc=>by simp[hc]) hnewleaf (fun _ _ _ _ _ _ _ _=>rfl) (fun c x l k o' _ _ _ _ h=>by simp at h) (fun k o h=>by simp at h) (fun _ _ h=>by cases h) (.inl ⟨by simp,rfl,by simp⟩),hE,?_⟩
      ·rcases hsrc.kind with ⟨e',hk⟩ | hk <;> (cases a <;> simp[Builtin.append_,run_underlying hu,run_underlying hk,sizeOf,typeInfo,hi,hsrc.len,hsrc'.cells,List.eq_nil_of_length_eq_zero (show news.length=0 by simpa using hnewsl),storeCells])
      ·refine .rs _ _ _ _ _ _ _ ⟨by simpa using hlt,Nat.le_refl _,fun h=>by omega,fun row v cs' h=>?_⟩
       simp[hlt] at h
       obtain ⟨rfl,rfl,rfl⟩:=h
       exact ⟨Nat.le_refl _,fun _=>⟨by simp, .inl rfl⟩⟩
     ·exact growArm [] (by omega) (hfc w.drew) he0
    ·obtain ⟨us2,e2,fr,q1,q2,q3,q4⟩:=hI.cell hbx hr
     have hm2:m=us2.size:=by
      unfold World.shape? at hsh
      rw[q1] at hsh
      simp at hsh
      exact hsh.2.symm
     subst ha
     have hmul:len*sz≤cap*sz:=Nat.mul_le_mul_right _ g2
     by_cases hroom:len+n≤cap
     ·have hmul2:(len+n)*sz≤cap*sz:=Nat.mul_le_mul_right _ hroom
      rw[Nat.add_mul] at hmul2
      have hr2:=run_append_room_src (P:=P) w t tx ty e i hu hi k (o'+off) len cap ux n news hsrc' hroom (fun j hj=>by
       rw[Fw q1,his]
       have:o'+off+len*sz+j<us2.size:=by omega
       rw[Array.getElem?_eq_getElem this]; rfl) (fun j hj=>by rw[his]; exact q3.no q1 _ (by omega))
      rw[his] at hr2
      obtain ⟨s1,s2,s3,s4⟩:=Mu (w:=w) (k:=k) (o'+off+len*sz) news
      have hE:Ext F B ρ w (B.set b (.cells true (ver+1) ((cs.drop off).take (len*sz)++new))) (fun c=>if c=b then some (k,o'+off) else ρ c) (w.setCells k (o'+off+len*sz) news):=
       OU hbx _ _ (Nat.le_of_eq s1.symm) s2 s3 s4 (fun j hj hne=>Ca _ _ (hne k o' hr)) (fun j e n h=>HS _ _ _ h) (fun k2 o2 h=>by cases h; exact .inr ⟨o',hr⟩) (fun k o h=>hI.farb _ _ _ _ _ _ hbx h)
      refine ⟨_,_,_,hr2,hI.other hbx hE (fun c hc=>by simp[hc]) hnewleaf (fun c x l k2 hne hc hl hx=>Ca _ _ (fun e=>hne (hI.injx _ _ _ _ _ _ k hc hbx hl hr (e▸hx) rfl)))
       (fun c x l k2 o3 hne hc hl hx h=>?_) (fun k2 o2 h=>by simp at h; exact h.1▸hI.farb _ _ _ _ _ _ hbx hr) (fun _ _ h=>by cases h) (.inr ⟨k,o'+off,_,e2,fr,by simp,GO _ _ q1,?_,q3.size (EX _ _ _),fun j q hq=>?_⟩),hE,?_⟩
      ·simp at h
       exact hne (hI.injx _ _ _ _ _ (k2,o') k2 hc hbx hl (h.1▸hr) hx rfl)
      ·rw[EX,hnewlen,Nat.add_mul]; omega
      ·rw[List.getElem?_append,hpl] at hq
       split at hq
       ·rename_i hlt2
        rw[List.getElem?_take,if_pos hlt2,List.getElem?_drop] at hq
        obtain ⟨u,f1,f2⟩:=q4 _ q hq
        refine ⟨u,?_,f2.ext hE⟩
        rw[Gw _ _ _ _ (by omega),show o'+off+j=o'+(off+j) by omega]
        exact f1
       ·rename_i hge
        obtain ⟨u,f1,f2⟩:=hnews.get _ q hq
        refine ⟨u,?_,f2.ext hE⟩
        have hjn:j - len*sz<news.length:=by
         have:=(List.getElem?_eq_some_iff.1 hq).1
         omega
        have:=KD us2 (o'+off+len*sz) news (j - len*sz) hjn (by omega)
        rw[show o'+off+len*sz+(j - len*sz)=o'+off+j by omega] at this
        rw[this]
        simpa using f1
      ·refine .rs _ _ _ _ _ _ _ ⟨by simpa using hlt,hroom,fun _=>rfl,fun row v cs' h=>?_⟩
       simp[hlt] at h
       obtain ⟨rfl,rfl,rfl⟩:=h
       exact ⟨Nat.le_refl _,fun _=>⟨by rw[hnewlen]; omega, .inr ⟨k,o'+off,by simp,rfl,e',m,HS _ _ _ hsh,by omega⟩⟩⟩
     ·have holdc:∀ (j:Nat) (u:Value),((us2.toList.drop (o'+off)).take (len*sz))[j]? = some u→w.cell? ((⟨k,o'+off,none⟩:Addr).add j)=some u:=fun j u hj=>by
       rw[List.getElem?_take] at hj
       split at hj
       ·rw[List.getElem?_drop] at hj
        rw[Addr.add_lit,Fw q1]
        simpa using hj
       ·cases hj
      refine growArm ((us2.toList.drop (o'+off)).take (len*sz)) (by omega) (run_firstCells_some (P:=P) w.drew i.size len _ len cap _ (by rw[his]; simp; omega) holdc) ⟨by simp; omega,fun j q u hq hu=>?_⟩
      rw[List.getElem?_take] at hq
      split at hq
      ·rename_i hlt2
       rw[List.getElem?_drop] at hq
       obtain ⟨u',f1,f2⟩:=q4 _ q hq
       simp only[List.getElem?_toArray] at hu
       rw[List.getElem?_take,if_pos hlt2,List.getElem?_drop] at hu
       have e3:us2[o'+off+j]? = some u:=by simpa using hu
       rw[show o'+(off+j)=o'+off+j by omega,e3] at f1
       cases f1
       exact f2
      ·cases hq
   ·cases hm
  ·cases hm
 ·cases hm

end Go.Ax
namespace Go.Ax
open Go.RowKit

variable [Glob] {P : Program} {F : Nat → Prop}

theorem VRel.val {B:List Box} {ρ:Aj} {w:World} {x u:Value} (h:VRel F B ρ w (.p (.v x)) u):u=x:=by
 cases h with
 | p _ _ hp=>cases hp; rfl

theorem VRel.agg_inv {B:List Box} {ρ:Aj} {w:World} {cs:List AV} {u:Value} (h:VRel F B ρ w (.agg cs) u):∃ us:List Value,u= .agg us.toArray∧cs.length=us.length ∧
  ∀ (j:Nat) (p:AV) (u:Value),cs[j]? = some p→us[j]? = some u→VRel F B ρ w p u:=by
 cases h with
 | agg _ us h1 h2=>exact ⟨us,rfl,h1,h2⟩

theorem LK (d:Nat) (xs ys:List Value) (w:World) {B:List Box} {ρ:Aj}:∀ (fs:List Field) (i:Nat) (ks:List CK) (as bs:List AV) (b:Bool),Jd P fs i=some ks→EL ks as bs=some b →
  (∀ (j:Nat) (p:AV),as[j]? = some p→∃ u,xs[i+j]? = some u∧VRel F B ρ w p u)→(∀ (j:Nat) (p:AV),bs[j]? = some p→∃ u,ys[i+j]? = some u∧VRel F B ρ w p u) →
  (Op.eqFields (d+1) xs.toArray ys.toArray fs).run P w= .ok b w
 | [],i,ks,as,bs,b,hk,he,_,_=>by
  cases hk
  cases as <;> cases bs <;> simp[EL] at he
  subst he
  rfl
 | f::fs,i,ks,as,bs,b,hk,he,hx,hy=>by
  simp only[Jd] at hk
  split at hk
  ·rename_i hc
   simp only[Bool.and_eq_true,beq_iff_eq,Bool.not_eq_true',bne_iff_ne] at hc
   obtain ⟨⟨ho,hn⟩,ha⟩:=hc
   cases hck:ku P f.type with
   | none=>rw[hck] at hk; cases hk
   | some k=>
   rw[hck] at hk
   simp only[Option.bind_some] at hk
   cases hr:Jd P fs (i+1) with
   | none=>rw[hr] at hk; cases hk
   | some r=>
   rw[hr] at hk
   cases hk
   cases as with
   | nil=>simp[EL] at he
   | cons x as=>
   cases bs with
   | nil=>simp[EL] at he
   | cons y bs=>
   simp only[EL] at he
   cases hq:VM k x y with
   | none=>rw[hq] at he; cases he
   | some c=>
   rw[hq] at he
   simp only[Option.bind_some] at he
   cases hq2:EL r as bs with
   | none=>rw[hq2] at he; cases he
   | some c2=>
   rw[hq2] at he
   cases he
   obtain ⟨u,hu1,hu2⟩:=hx 0 x rfl
   obtain ⟨v,hv1,hv2⟩:=hy 0 y rfl
   have ih:=LK d xs ys w fs (i+1) r as bs c2 hr hq2 (fun j p hp=>by have:=hx (j+1) p (by simpa using hp); rwa[show i+(j+1)=i+1+j by omega] at this) (fun j p hp=>by have:=hy (j+1) p (by simpa using hp); rwa[show i+(j+1)=i+1+j by omega] at this)
   have hund:∃ dd,P.underlying f.type=some dd:=by
    unfold ku at hck
    split at hck <;> first | exact ⟨_,by assumption⟩ | cases hck
   obtain ⟨dd,hdd⟩:=hund
   have hp1:(part f.type xs.toArray f.offset).run P w= .ok u w:=by
    simp only[part,Sem.run_bind,IT f.type w hdd,Result.andThen_ok,ha]
    rw[ho]
    have:xs.toArray[i]? = some u:=by simpa using hu1
    simp[this]
   have hp2:(part f.type ys.toArray f.offset).run P w= .ok v w:=by
    simp only[part,Sem.run_bind,IT f.type w hdd,Result.andThen_ok,ha]
    rw[ho]
    have:ys.toArray[i]? = some v:=by simpa using hv1
    simp[this]
   have heq:(Op.equalIn (d+1) f.type u v).run P w= .ok c w:=by
    unfold ku at hck
    unfold VM at hq
    split at hq
    ·rename_i j a k' b'
     split at hck <;> cases hck
     rename_i kk hkk
     split at hq
     ·rename_i e
      subst e
      cases hq
      obtain rfl:=hu2.val
      obtain rfl:=hv2.val
      exact run_equalIn_int w d f.type j kk a b' hkk
     ·cases hq
    ·split at hck <;> cases hck
     rename_i hkk
     cases hq
     obtain rfl:=hu2.val
     obtain rfl:=hv2.val
     exact run_equalIn_string w d f.type _ _ hkk
    ·split at hck <;> cases hck
     rename_i hkk
     cases hq
     obtain rfl:=hu2.val
     obtain rfl:=hv2.val
     exact run_equalIn_bool' w d f.type _ _ hkk
    ·cases hq
   simp only[Op.eqFields,if_pos hn,Sem.run_bind,hp1,hp2,heq,Result.andThen_ok]
   cases c
   ·simp
   ·simpa using ih
  ·cases hk

theorem lp {B:List Box} {ρ:Aj} {w:World} {op:BinOp} {t:TypeId} {ox oy:Operand} {x y v:AV} {ux uy:Value} (hx:VRel F B ρ w x ux) (hy:VRel F B ρ w y uy) (hm:Io P op t x y=some v):
  ∃ z,(do eqGuard op t ox oy ux uy; binOp op t ux uy:Sem Value).run P w= .ok z w∧VRel F B ρ w v z:=by
 have plain:∀ (z:Value),VRel F B ρ w (.p (.v z)) z:=fun z=> .p _ _ (.v z)
 unfold Io at hm
 split at hm
 ·rename_i k a k' b
  obtain rfl:=hx.val
  obtain rfl:=hy.val
  have hg:(eqGuard op t ox oy (.int k a) (.int k' b)).run P w= .ok () w:=by cases op <;> simp[eqGuard]
  have key:∀ z,(binOp op t (.int k a) (.int k' b)).run P w= .ok z w→v= .p (.v z)→∃ z,(do eqGuard op t ox oy (.int k a) (.int k' b); binOp op t (.int k a) (.int k' b):Sem Value).run P w= .ok z w∧VRel F B ρ w v z:=by
   intro z hz hv
   refine ⟨z,?_,by rw[hv]; exact plain z⟩
   rw[Sem.run_bind,hg]
   exact hz
  have shifts:∀ {r:Option Value},L2 op k a b=r→(op= .shl∨op= .shr)→∀ z,r=some z→(binOp op t (.int k a) (.int k' b)).run P w= .ok z w:=by
   intro r hr ho z hz
   subst hz
   unfold L2 at hr
   split at hr
   ·cases hr
   ·rename_i hn
    rcases ho with rfl | rfl <;> (simp at hr; subst hr; simp[binOp,Op.shift,hn])
  cases hres:kr op k a k' b with
  | none=>rw[hres] at hm; cases hm
  | some z=>
   rw[hres] at hm
   simp only[Option.map_some,Option.some.injEq] at hm
   refine key z ?_ hm.symm
   by_cases h1:op= .shl
   ·subst h1; exact shifts hres (.inl rfl) z rfl
   by_cases h2:op= .shr
   ·subst h2; exact shifts hres (.inr rfl) z rfl
   have hres':(if k=k' then binInt op k a b else none)=some z:=by
    cases op <;> first | exact hres | exact absurd rfl h1 | exact absurd rfl h2
   split at hres'
   ·rename_i e
    subst e
    cases op <;> simp[binInt,dR] at hres' <;> first
     | (subst hres'; simp[binOp,Op.intArith,Op.intBits,Op.intCmp]; done)
     | (obtain ⟨hn,rfl⟩:=hres'; simp[binOp,Op.intDiv,hn]; done)
     | exact absurd rfl h1
     | exact absurd rfl h2
   ·cases hres'
 ·rename_i a b
  obtain rfl:=hx.val
  obtain rfl:=hy.val
  have hg:(eqGuard op t ox oy (.string a) (.string b)).run P w= .ok () w:=by cases op <;> simp[eqGuard]
  cases hres:VL op a b with
  | none=>rw[hres] at hm; cases hm
  | some z=>
   rw[hres] at hm
   simp only[Option.map_some,Option.some.injEq] at hm
   refine ⟨z,?_,by rw[←hm]; exact plain z⟩
   rw[Sem.run_bind,hg]
   simp only[Result.andThen_ok]
   cases op <;> simp[VL] at hres <;> first
    | (obtain ⟨hn,rfl⟩:=hres; exact (by simpa [binOp] using run_string_add_sum w a b (by omega)))
    | (subst hres; simp[binOp,Op.stringOp]; done)
 ·rename_i a b
  obtain rfl:=hx.val
  obtain rfl:=hy.val
  have hg:(eqGuard op t ox oy (.bool a) (.bool b)).run P w= .ok () w:=by cases op <;> simp[eqGuard]
  split at hm
  ·rename_i hu
   cases hm
   exact ⟨_,by rw[Sem.run_bind,hg]; exact run_eql_bool w t a b hu,plain _⟩
  ·rename_i hu
   cases hm
   exact ⟨_,by rw[Sem.run_bind,hg]; exact run_neq_bool w t a b hu,plain _⟩
  ·cases hm
 ·rename_i xs ys
  cases hck:KA P t with
  | none=>rw[hck] at hm; cases hm
  | some ks=>
   rw[hck] at hm
   simp only[Option.bind_some] at hm
   obtain ⟨us,rfl,hx1,hx2⟩:=hx.agg_inv
   obtain ⟨vs,rfl,hy1,hy2⟩:=hy.agg_inv
   have hx':∀ (j:Nat) (p:AV),xs[j]? = some p→∃ u,us[0+j]? = some u∧VRel F B ρ w p u:=fun j p hp=>by
    have hj:j<us.length:=by rw[←hx1]; exact (List.getElem?_eq_some_iff.1 hp).1
    exact ⟨us[j],by rw[Nat.zero_add]; exact List.getElem?_eq_getElem hj,hx2 j p _ hp (List.getElem?_eq_getElem hj)⟩
   have hy':∀ (j:Nat) (p:AV),ys[j]? = some p→∃ u,vs[0+j]? = some u∧VRel F B ρ w p u:=fun j p hp=>by
    have hj:j<vs.length:=by rw[←hy1]; exact (List.getElem?_eq_some_iff.1 hp).1
    exact ⟨vs[j],by rw[Nat.zero_add]; exact List.getElem?_eq_getElem hj,hy2 j p _ hp (List.getElem?_eq_getElem hj)⟩
   have hguard:P.eqGuardType P.depth t=false:=by
    unfold KA at hck
    split at hck
    ·cases hck
    ·rename_i h; simpa using h
   have hg:(eqGuard op t ox oy (.agg us.toArray) (.agg vs.toArray)).run P w= .ok () w:=run_eqGuard_agg w op t ox oy _ _ hguard
   have heq:∀ b,EL ks xs ys=some b→(Op.equalIn 10000 t (.agg us.toArray) (.agg vs.toArray)).run P w= .ok b w:=by
    intro b hb
    unfold KA at hck
    rw[if_neg (by simp[hguard])] at hck
    split at hck
    ·rename_i fs hfs
     split at hck
     ·cases hck
     ·rename_i hst
      have hst':P.stoodInHeld t=false:=by simpa using hst
      have hff:P.fieldsOf t=fs:=by simp[Program.fieldsOf,hfs]
      rw[run_equalIn_struct w 9999 t _ _ (by rw[hff]; exact hfs) hst',hff]
      exact LK 9998 us vs w fs.toList 0 ks xs ys b hck hb hx' hy'
    ·cases hck
   split at hm
   ·cases hb:EL ks xs ys with
    | none=>rw[hb] at hm; cases hm
    | some b=>
     rw[hb] at hm
     cases hm
     refine ⟨.bool b,?_,plain _⟩
     rw[Sem.run_bind,hg,Result.andThen_ok,run_eql_struct w t,heq b hb]
     rfl
   ·cases hb:EL ks xs ys with
    | none=>rw[hb] at hm; cases hm
    | some b=>
     rw[hb] at hm
     cases hm
     refine ⟨.bool (!b),?_,plain _⟩
     rw[Sem.run_bind,hg,Result.andThen_ok,run_neq_struct w t,heq b hb]
     rfl
   ·cases hm
 ·obtain rfl:=hy.val
  cases ht:C2 P t with
  | none=>rw[ht] at hm; cases hm
  | some e=>
   rw[ht] at hm
   simp only[Option.bind_some] at hm
   have hu:P.underlying t=some (.slice e):=by
    unfold C2 at ht
    split at ht
    ·cases ht; assumption
    ·cases ht
   have hsl:∀ q,Ql x=some q→∃ a n c,ux= .slice a n c∧a.isNone=q:=by
    intro q hq
    unfold Ql at hq
    split at hq
    ·cases hq
     obtain rfl:=hx.val
     exact ⟨none,_,_,rfl,rfl⟩
    ·cases hq
     cases hx with
     | p _ _ hp=>
      cases hp with
      | ls xs a cap us h1=>exact ⟨some a,_,_,rfl,rfl⟩
    ·split at hq
     ·rename_i hlt
      cases hq
      rw[Nat.blt_eq] at hlt
      cases hx with
      | rs _ _ _ _ _ a cap hok=>
       obtain ⟨_,g1,g2,_⟩:=hok
       have:=g2 (by omega)
       refine ⟨a,_,cap,rfl,?_⟩
       cases a <;> simp_all
     ·cases hq
    ·cases hq
   cases hq:Ql x with
   | none=>rw[hq] at hm; cases hm
   | some q=>
    rw[hq] at hm
    obtain ⟨a,n,c,rfl,ha⟩:=hsl q hq
    have hg:(eqGuard op t ox oy (.slice a n c) (.slice none 0 0)).run P w= .ok () w:=by cases op <;> simp[eqGuard]
    simp only[Option.bind_some] at hm
    split at hm
    ·cases hm
     refine ⟨.bool q,?_,plain _⟩
     rw[Sem.run_bind,hg,←ha]
     exact Go.Lib.run_eql_slice_nil w t e a n c 0 0 hu
    ·cases hm
     refine ⟨.bool (!q),?_,plain _⟩
     rw[Sem.run_bind,hg,←ha]
     exact Go.run_neq_slice_nil_any w t e a n c 0 0 hu
    ·cases hm
 ·obtain rfl:=hy.val
  have hp:∀ q,Qm x=some q→∃ a,ux= .pointer a∧a.isNone=q:=by
   intro q hq
   unfold Qm at hq
   split at hq
   ·cases hq
    obtain rfl:=hx.val
    exact ⟨none,rfl,rfl⟩
   ·cases hq
    cases hx with
    | ptr _ _ _ a _=>exact ⟨some a,rfl,rfl⟩
   ·cases hq
    cases hx with
    | op _ r _=>exact ⟨_,rfl,rfl⟩
   ·cases hq
    cases hx with
    | rp _ a _ _ _ _ _ _ _=>exact ⟨some a,rfl,rfl⟩
   ·cases hq
  cases hq:Qm x with
  | none=>rw[hq] at hm; cases hm
  | some q=>
   rw[hq] at hm
   obtain ⟨a,rfl,ha⟩:=hp q hq
   have hg:(eqGuard op t ox oy (.pointer a) (.pointer none)).run P w= .ok () w:=by cases op <;> simp[eqGuard]
   simp only[Option.bind_some] at hm
   have heq:∀ e,P.underlying t=some (.pointer e)→(Op.equal t (.pointer a) (.pointer none)).run P w= .ok q w:=by
    intro e hu
    subst ha
    have h:∀ d:Nat,(Op.equalIn (d+1) t (.pointer a) (.pointer none)).run P w= .ok a.isNone w:=fun d=>by
     cases a <;> simp[Op.equalIn,run_underlying hu]
    exact h 9999
   split at hm
   ·rename_i e hu
    cases hm
    refine ⟨.bool q,?_,plain _⟩
    rw[Sem.run_bind,hg]
    simp[binOp,heq e hu]
   ·rename_i e hu
    cases hm
    refine ⟨.bool (!q),?_,plain _⟩
    rw[Sem.run_bind,hg]
    simp[binOp,heq e hu]
   ·cases hm
 ·cases hm

end Go.Ax
namespace Go.Ax
open Go.RowKit

variable [Glob] {P : Program} {F : Nat → Prop}

theorem ob {B:List Box} {ρ:Aj} {w:World} {op:UnOp} {x v:AV} {ux:Value} (hx:VRel F B ρ w x ux) (hm:oY op x=some v):∃ z,(Op.unary op ux).run P w= .ok z w∧VRel F B ρ w v z:=by
 unfold oY at hm
 split at hm
 ·obtain rfl:=hx.val; cases hm; exact ⟨_,rfl, .p _ _ (.v _)⟩
 ·obtain rfl:=hx.val; cases hm; exact ⟨_,rfl, .p _ _ (.v _)⟩
 ·obtain rfl:=hx.val; cases hm; exact ⟨_,by simp[Op.unary,Op.intBits], .p _ _ (.v _)⟩
 ·cases hm

theorem Mv {t:TypeId} {j off:Nat} {ft:TypeId} (h:HP P t j=some (off,ft)):∃ fs f,P.underlying t=some (.struct fs)∧fs[j]? = some f∧f.offset=off∧f.type=ft:=by
 unfold HP at h
 cases hf:JR P t with
 | none=>rw[hf] at h; cases h
 | some fs=>
  rw[hf] at h
  simp only[Option.bind_some] at h
  cases hj:fs[j]? with
  | none=>rw[hj] at h; cases h
  | some f=>
   rw[hj] at h
   cases h
   exact ⟨fs,f,NC hf,hj,rfl,rfl⟩

theorem add_add (a:Addr) (i j:Nat) (h:a.spot=none):(a.add i).add j=a.add (i+j):=by
 obtain ⟨b,o,s⟩:=a
 simp only at h
 subst h
 rw[Addr.add_lit,Addr.add_lit,Addr.add_lit,Nat.add_assoc]

theorem ND (a:Addr) (i:Nat) (h:a.spot=none):(a.add i).spot=none∧(a.add i).block=a.block:=by
 obtain ⟨b,o,s⟩:=a
 simp only at h
 subst h
 rw[Addr.add_lit]
 exact ⟨rfl,rfl⟩

theorem ZB {B:List Box} {ρ:Aj} {w:World} {cs:List PV} {a:Addr} (h:VRel F B ρ w (.rp cs) (.pointer (some a))) (n:Nat) (hn:n≤cs.length):VRel F B ρ w (.rp (cs.drop n)) (.pointer (some (a.add n))):=by
 cases h with
 | rp _ _ us h1 h2 h3 h4 h5 h6=>
  obtain ⟨e1,e2⟩:=ND a n h1
  refine .rp _ _ (us.drop n) e1 (by rw[e2]; exact h2) (by rw[e2]; exact h3) (by simp[h4]) (fun j u hj=>?_) (fun j p u hp hu=>?_)
  ·rw[List.getElem?_drop] at hj
   rw[add_add _ _ _ h1]
   exact h5 _ u hj
  ·rw[List.getElem?_drop] at hp hu
   exact h6 _ p u hp hu

theorem ZC {B:List Box} {ρ:Aj} {w:World} {b ver o:Nat} {a:Addr} (h:VRel F B ρ w (.ptr b ver o) (.pointer (some a))) (n:Nat):VRel F B ρ w (.ptr b ver (o+n)) (.pointer (some (a.add n))):=by
 cases h with
 | ptr _ _ _ _ hp=>
  refine .ptr _ _ _ _ ⟨hp.1,fun row v cs hb=>?_⟩
  obtain ⟨h1,h2⟩:=hp.2 row v cs hb
  refine ⟨h1,fun e=>?_⟩
  obtain ⟨k,o',hr,rfl⟩:=h2 e
  exact ⟨k,o',hr,by rw[Addr.add_lit,Nat.add_assoc]⟩

theorem UT {B:List Box} {ρ:Aj} {w:World} {t:TypeId} {j:Nat} {x v:AV} {ux:Value} (hx:VRel F B ρ w x ux) (hm:L3 P t j x=some v):∃ z,(Instr.fieldAt t ux j).run P w= .ok z w∧VRel F B ρ w v z:=by
 unfold L3 at hm
 cases hf:HP P t j with
 | none=>rw[hf] at hm; cases hm
 | some q=>
 obtain ⟨off,ft⟩:=q
 rw[hf] at hm
 simp only[Option.bind_some] at hm
 cases hs:BU P ft with
 | none=>rw[hs] at hm; cases hm
 | some n=>
 rw[hs] at hm
 simp only[Option.bind_some] at hm
 split at hm
 ·cases hm
 rename_i hn
 have hn0:¬(n=0):=fun h=>by subst h; exact hn rfl
 obtain ⟨fs,f,h1,h2,rfl,rfl⟩:=Mv hf
 have run:∀ a:Addr,(Instr.fieldAt t (.pointer (some a)) j).run P w= .ok (.pointer (some (a.add f.offset))) w:=fun a=>by
  simp[Instr.fieldAt,run_underlying h1,h2,Instr.sureAddr,fieldPlace,CO w hs,hn0]
 split at hm
 ·cases hm
  cases hx with
  | ptr _ _ _ a hp=>exact ⟨_,run a,ZC (.ptr _ _ _ _ hp) _⟩
 ·split at hm
  ·rename_i hle
   rw[Nat.ble_eq] at hle
   cases hm
   cases hx with
   | rp _ a us g1 g2 g3 g4 g5 g6=>exact ⟨_,run a,ZB (.rp _ _ _ g1 g2 g3 g4 g5 g6) _ hle⟩
  ·cases hm
 ·cases hm

theorem VS {B:List Box} {ρ:Aj} {w:World} {t:TypeId} {cs:List AV} {us:List Value} {off:Nat} {v:AV} (hl:cs.length=us.length) (hc:∀ (j:Nat) (p:AV) (u:Value),cs[j]? = some p→us[j]? = some u→VRel F B ρ w p u)
  (hm:Uf P t cs off=some v):∃ z,(part t us.toArray off).run P w= .ok z w∧VRel F B ρ w v z:=by
 unfold Uf at hm
 split at hm
 ·cases hm
 rename_i hu
 obtain ⟨d,hd⟩:=TY (P:=P) (t:=t) (by simpa using hu)
 split at hm
 ·rename_i ha
  cases hs:BU P t with
  | none=>rw[hs] at hm; cases hm
  | some n=>
   rw[hs] at hm
   simp only[Option.bind_some] at hm
   split at hm
   ·rename_i hle
    rw[Nat.ble_eq] at hle
    cases hm
    refine ⟨.agg ((us.drop off).take n).toArray,?_, .agg _ _ (by simp[hl]) (fun j p u hp hu=>?_)⟩
    ·simp only[part,Sem.run_bind,IT t w hd,Result.andThen_ok,ha,if_true,CO w hs,Sem.run_pure]
     congr 2
     apply Array.ext'
     simp[List.extract_eq_take_drop]
    ·rw[List.getElem?_take] at hp hu
     split at hp
     ·rename_i hlt
      rw[if_pos hlt] at hu
      rw[List.getElem?_drop] at hp hu
      exact hc _ p u hp hu
     ·cases hp
   ·cases hm
 ·rename_i ha
  have hj:off<us.length:=by rw[←hl]; exact (List.getElem?_eq_some_iff.1 hm).1
  refine ⟨us[off],?_,hc off v _ hm (List.getElem?_eq_getElem hj)⟩
  simp only[part,Sem.run_bind,IT t w hd,Result.andThen_ok,ha]
  simp[hj]

theorem dU {B:List Box} {ρ:Aj} {w:World} {t:TypeId} {j:Nat} {x v:AV} {ux:Value} (hx:VRel F B ρ w x ux) (hm:VN P t j x=some v):∃ z,(Instr.field t ux j).run P w= .ok z w∧VRel F B ρ w v z:=by
 unfold VN at hm
 cases hf:HP P t j with
 | none=>rw[hf] at hm; cases hm
 | some q=>
 obtain ⟨off,ft⟩:=q
 rw[hf] at hm
 simp only[Option.bind_some] at hm
 obtain ⟨fs,f,h1,h2,rfl,rfl⟩:=Mv hf
 split at hm
 ·cases hs:BU P f.type with
  | none=>rw[hs] at hm; cases hm
  | some n=>
   rw[hs] at hm
   simp only[Option.bind_some] at hm
   obtain ⟨us,rfl,g1,g2⟩:=hx.agg_inv
   obtain ⟨z,e1,e2⟩:=VS g1 g2 hm
   refine ⟨z,?_,e2⟩
   simp[Instr.field,run_underlying h1,h2,asAgg,e1]
 ·cases hm

theorem Fg {x:AV} {n:Int} (h:D7 x=some n):∃ k,x= .p (.v (.int k n)):=by
 unfold D7 at h
 split at h
 ·cases h; exact ⟨_,rfl⟩
 ·cases h

theorem ls_inv {B:List Box} {ρ:Aj} {w:World} {xs:List PV} {u:Value} (h:VRel F B ρ w (.p (.ls xs)) u):(∃ a cap,u= .slice a 0 cap∧xs= []∧(a.isSome∨cap=0)) ∨
  ∃ a cap us,u= .slice (some a) xs.length cap∧a.spot=none∧¬Own F B ρ a.block∧a.block<w.heap.size∧xs.length≤cap∧(xs.flatMap PV.cells).length=List.length us∧(∀ (j:Nat) (u:Value),us[j]? = some u→w.cell? (a.add j)=some u) ∧
   ∀ (j:Nat) (p:PV) (u:Value),(xs.flatMap PV.cells)[j]? = some p→us[j]? = some u→PRel (Own F B ρ) w p u:=by
 cases h with
 | p _ _ hp=>
  cases hp with
  | nil a cap h=>exact .inl ⟨a,cap,rfl,rfl,h⟩
  | ls _ a cap us h1 h2 h3 h4 h5 h6 h7=>exact .inr ⟨a,cap,us,rfl,h1,h2,h3,h4,h5,h6,h7⟩

theorem SJ (xs:List PV) (sz:Nat) (h:∀ y∈xs,y.cells.length=sz) (i:Nat) (y:PV) (hy:xs[i]? = some y) (j:Nat) (hj:j<sz):(xs.flatMap PV.cells)[i*sz+j]? = y.cells[j]? := by
 induction xs generalizing i with
 | nil=>simp at hy
 | cons x xs ih=>
  have hx:=h x (List.mem_cons_self ..)
  cases i with
  | zero=>
   simp at hy
   subst hy
   rw[List.flatMap_cons,List.getElem?_append_left (by omega),Nat.zero_mul,Nat.zero_add]
  | succ i=>
   rw[List.flatMap_cons,List.getElem?_append_right (by rw[hx,Nat.succ_mul]; omega),hx,show (i+1)*sz+j - sz=i*sz+j by rw[Nat.succ_mul]; omega]
   exact ih (fun y hy=>h y (List.mem_cons_of_mem _ hy)) i (by simpa using hy)

theorem Hq (xs:List PV) (sz:Nat) (h:∀ y∈xs,y.cells.length=sz):(xs.flatMap PV.cells).length=xs.length*sz:=by
 induction xs with
 | nil=>simp
 | cons x xs ih=>
  rw[List.flatMap_cons,List.length_append,h x (List.mem_cons_self ..),ih (fun y hy=>h y (List.mem_cons_of_mem _ hy)),List.length_cons,Nat.succ_mul]
  omega

theorem Mw {w:World} {t e:TypeId} {n sz:Nat} (h1:P.underlying t=some (.array n e)) (hs:BU P e=some sz) (a:Addr) (k:IntKind) (i:Int) (h0:0≤i) (h2:i<(n:Int)):
  (Instr.indexAt t (.pointer (some a)) (.int k i)).run P w= .ok (.pointer (some (a.add (i.toNat*sz)))) w:=by
 simp[Instr.indexAt,asIntOf,run_underlying h1,Instr.sureAddr,h0,h2,CO w hs]

theorem Mx {w:World} {t e:TypeId} {sz:Nat} (h1:P.underlying t=some (.slice e)) (hs:BU P e=some sz) (a:Addr) (n c:Nat) (k:IntKind) (i:Int) (h0:0≤i) (h2:i<(n:Int)):
  (Instr.indexAt t (.slice (some a) n c) (.int k i)).run P w= .ok (.pointer (some (a.add (i.toNat*sz)))) w:=by
 simp[Instr.indexAt,asIntOf,run_underlying h1,h0,h2,CO w hs]

theorem UU {B:List Box} {ρ:Aj} {w:World} {t:TypeId} {x i v:AV} {ux ui:Value} (hx:VRel F B ρ w x ux) (hi:VRel F B ρ w i ui) (hm:BE P t x i=some v):
  ∃ z,(Instr.indexAt t ux ui).run P w= .ok z w∧VRel F B ρ w v z:=by
 unfold BE at hm
 cases hn:D7 i with
 | none=>rw[hn] at hm; cases hm
 | some n=>
 rw[hn] at hm
 simp only[Option.bind_some] at hm
 obtain ⟨k,rfl⟩:=Fg hn
 obtain rfl:=hi.val
 split at hm
 ·cases hm
 rename_i hneg
 have h0:0≤n:=by omega
 split at hm
 ·rename_i e hu
  cases hs:BU P e with
  | none=>rw[hs] at hm; cases hm
  | some sz=>
  rw[hs] at hm
  simp only[Option.bind_some] at hm
  split at hm
  ·rename_i xs
   split at hm
   ·rename_i hall
    rw[List.all_eq_true] at hall
    have hall':∀ y∈xs,y.cells.length=sz:=fun y hy=>by simpa using hall y hy
    cases hq:xs[n.toNat]? with
    | none=>rw[hq] at hm; cases hm
    | some y=>
     rw[hq] at hm
     cases hm
     have hlt:n.toNat<xs.length:=(List.getElem?_eq_some_iff.1 hq).1
     have hmem:y∈xs:=List.mem_of_getElem? hq
     rcases ls_inv hx with ⟨_,_,_,rfl,_⟩ | ⟨a,cap,us,rfl,g1,g2,g3,g4,g5,g6,g7⟩
     ·simp at hlt
     ·refine ⟨_,Mx hu hs a _ cap k n h0 (by omega),?_⟩
      obtain ⟨e1,e2⟩:=ND a (n.toNat*sz) g1
      have hfl:=Hq xs sz hall'
      have hyl:=hall' y hmem
      have hmul:(n.toNat+1)*sz≤xs.length*sz:=Nat.mul_le_mul_right _ hlt
      rw[Nat.succ_mul] at hmul
      refine .rp _ _ ((us.drop (n.toNat*sz)).take sz) e1 (by rw[e2]; exact g2) (by rw[e2]; exact g3) (by simp; omega) (fun j u hj=>?_) (fun j p u hp hu=>?_)
      ·rw[List.getElem?_take] at hj
       split at hj
       ·rw[List.getElem?_drop] at hj
        rw[add_add _ _ _ g1]
        exact g6 _ u hj
       ·cases hj
      ·rw[List.getElem?_take] at hu
       split at hu
       ·rename_i hjs
        rw[List.getElem?_drop] at hu
        refine g7 _ p u ?_ hu
        rw[SJ xs sz hall' _ y hq j hjs]
        exact hp
       ·cases hu
   ·cases hm
  ·rename_i b ver sz' off len
   split at hm
   ·rename_i hc
    simp only[Bool.and_eq_true,decide_eq_true_eq,beq_iff_eq] at hc
    obtain ⟨hlt,rfl⟩:=hc
    cases hm
    cases hx with
    | rs _ _ _ _ _ a cap hok=>
     obtain ⟨g1,g2,g3,g4⟩:=hok
     have hcap:0<cap:=by omega
     cases a with
     | none=>exact absurd (g3 hcap) (by simp)
     | some a=>
      refine ⟨_,Mx hu hs a _ cap k n h0 (by omega), .ptr _ _ _ _ ⟨g1,fun row v cs hb=>?_⟩⟩
      obtain ⟨l1,l2⟩:=g4 row v cs hb
      refine ⟨l1,fun e=>?_⟩
      obtain ⟨_,l3⟩:=l2 e
      rcases l3 with h | ⟨k',o',hr,ha,_⟩
      ·omega
      ·simp only[Option.some.injEq] at ha
       subst ha
       exact ⟨k',o',hr,by rw[Addr.add_lit,Nat.add_assoc]⟩
   ·cases hm
  ·cases hm
 ·rename_i len e hu
  cases hs:BU P e with
  | none=>rw[hs] at hm; cases hm
  | some sz=>
  rw[hs] at hm
  simp only[Option.bind_some] at hm
  split at hm
  ·split at hm
   ·rename_i hc
    simp only[Bool.and_eq_true,decide_eq_true_eq] at hc
    cases hm
    cases hx with
    | ptr _ _ _ a hp=>exact ⟨_,Mw hu hs a k n h0 (by omega),ZC (.ptr _ _ _ _ hp) _⟩
   ·cases hm
  ·split at hm
   ·rename_i hc
    simp only[Bool.and_eq_true,decide_eq_true_eq,Nat.ble_eq] at hc
    cases hm
    cases hx with
    | rp _ a us g1 g2 g3 g4 g5 g6=>exact ⟨_,Mw hu hs a k n h0 (by omega),ZB (.rp _ _ _ g1 g2 g3 g4 g5 g6) _ hc.1.2⟩
   ·cases hm
  ·cases hm
 ·cases hm

theorem dV {B:List Box} {ρ:Aj} {w:World} {t:TypeId} {x i v:AV} {ux ui:Value} (hx:VRel F B ρ w x ux) (hi:VRel F B ρ w i ui) (hm:Qn P t x i=some v):
  ∃ z,(Instr.index t ux ui).run P w= .ok z w∧VRel F B ρ w v z:=by
 unfold Qn at hm
 cases hn:D7 i with
 | none=>rw[hn] at hm; cases hm
 | some n=>
 rw[hn] at hm
 simp only[Option.bind_some] at hm
 obtain ⟨k,rfl⟩:=Fg hn
 obtain rfl:=hi.val
 split at hm
 ·cases hm
 rename_i hneg
 have h0:0≤n:=by omega
 split at hm
 ·rename_i len e cs hu
  cases hs:BU P e with
  | none=>rw[hs] at hm; cases hm
  | some sz=>
   rw[hs] at hm
   simp only[Option.bind_some] at hm
   split at hm
   ·rename_i hlt
    obtain ⟨us,rfl,g1,g2⟩:=hx.agg_inv
    obtain ⟨z,e1,e2⟩:=VS g1 g2 hm
    refine ⟨z,?_,e2⟩
    have h2:n<(len:Int):=by omega
    simp[Instr.index,asIntOf,run_underlying hu,h0,h2,CO w hs,e1]
   ·cases hm
 ·rename_i s hu
  obtain rfl:=hx.val
  cases hq:s[n.toNat]? with
  | none=>rw[hq] at hm; cases hm
  | some b=>
   rw[hq] at hm
   cases hm
   exact ⟨_,by simp[Instr.index,asIntOf,run_underlying hu,h0,hq], .p _ _ (.v _)⟩
 ·cases hm

end Go.Ax
namespace Go.Ax
open Go.RowKit

variable [Glob] {P : Program} {F : Nat → Prop}

theorem Fx {B:List Box} {ρ:Aj} {w:World} {isSlice:Bool} {len cap l h:Nat} {lo hi:Option AV} {ulo uhi:Option Value} (hcap:len≤cap)
  (h1:∀ x,lo=some x→∃ u,ulo=some u∧VRel F B ρ w x u) (h1n:lo=none→ulo=none) (h2:∀ x,hi=some x→∃ u,uhi=some u∧VRel F B ρ w x u) (h2n:hi=none→uhi=none)
  (hm:boundsA len lo hi=some (l,h)):(Instr.sliceBounds isSlice len cap ulo uhi none).run P w= .ok (l,h,cap) w∧l≤h∧h≤len:=by
 unfold boundsA at hm
 cases hh:D8 len len hi with
 | none=>rw[hh] at hm; cases hm
 | some h'=>
 rw[hh] at hm
 simp only[Option.bind_some] at hm
 cases hl:D8 h' 0 lo with
 | none=>rw[hl] at hm; cases hm
 | some l'=>
 rw[hl] at hm
 simp only[Option.bind_some,Option.some.injEq,Prod.mk.injEq] at hm
 obtain ⟨rfl,rfl⟩:=hm
 have hhi:h'≤len∧((uhi=none∧h'=len)∨∃ k n,uhi=some (.int k n)∧0≤n∧n.toNat=h'):=by
  cases hi with
  | none=>cases hh; exact ⟨Nat.le_refl _, .inl ⟨h2n rfl,rfl⟩⟩
  | some x=>
   obtain ⟨u,rfl,hv⟩:=h2 x rfl
   simp only[D8] at hh
   cases hi':D7 x with
   | none=>rw[hi'] at hh; cases hh
   | some n=>
    obtain ⟨k,rfl⟩:=Fg hi'
    obtain rfl:=hv.val
    rw[hi'] at hh
    simp only[Option.bind_some] at hh
    split at hh
    ·rename_i hc
     cases hh
     exact ⟨by omega, .inr ⟨k,n,rfl,hc.1,rfl⟩⟩
    ·cases hh
 have hlo:l'≤h'∧((ulo=none∧l'=0)∨∃ k n,ulo=some (.int k n)∧0≤n∧n.toNat=l'):=by
  cases lo with
  | none=>cases hl; exact ⟨Nat.zero_le _, .inl ⟨h1n rfl,rfl⟩⟩
  | some x=>
   obtain ⟨u,rfl,hv⟩:=h1 x rfl
   simp only[D8] at hl
   cases hi':D7 x with
   | none=>rw[hi'] at hl; cases hl
   | some n=>
    obtain ⟨k,rfl⟩:=Fg hi'
    obtain rfl:=hv.val
    rw[hi'] at hl
    simp only[Option.bind_some] at hl
    split at hl
    ·rename_i hc
     cases hl
     exact ⟨by omega, .inr ⟨k,n,rfl,hc.1,rfl⟩⟩
    ·cases hl
 refine ⟨?_,hlo.1,hhi.1⟩
 obtain ⟨q1,q2⟩:=hhi
 obtain ⟨q3,q4⟩:=hlo
 rcases q2 with ⟨rfl,rfl⟩ | ⟨k,n,rfl,n0,rfl⟩ <;> rcases q4 with ⟨rfl,rfl⟩ | ⟨k',n',rfl,m0,rfl⟩
 ·simp[Instr.sliceBounds]
 ·have:n'≤(h':Int):=by omega
  simp[Instr.sliceBounds,Instr.sliceBound,asIntOf,m0,this]
 ·have:n≤(cap:Int):=by omega
  simp[Instr.sliceBounds,Instr.sliceBound,asIntOf,n0,this]
 ·have e1:n≤(cap:Int):=by omega
  have e2:n'≤n:=by omega
  have e3:max n 0=n:=by omega
  simp[Instr.sliceBounds,Instr.sliceBound,asIntOf,n0,m0,e1,e2,e3]

theorem dW {B:List Box} {ρ:Aj} {w:World} (hI:Inv F B ρ w) {t:TypeId} {x v:AV} {lo hi:Option AV} {ux:Value} {ulo uhi:Option Value} (hx:VRel F B ρ w x ux)
  (h1:∀ x,lo=some x→∃ u,ulo=some u∧VRel F B ρ w x u) (h1n:lo=none→ulo=none) (h2:∀ x,hi=some x→∃ u,uhi=some u∧VRel F B ρ w x u) (h2n:hi=none→uhi=none)
  (hm:GA P t B x lo hi=some v):∃ z,(Instr.sliceAt t ux ulo uhi none).run P w= .ok z w∧VRel F B ρ w v z:=by
 unfold GA at hm
 split at hm
 ·rename_i s hu
  obtain rfl:=hx.val
  cases hb:boundsA s.size lo hi with
  | none=>rw[hb] at hm; cases hm
  | some q=>
   obtain ⟨l,h⟩:=q
   rw[hb] at hm
   cases hm
   obtain ⟨e1,e2,e3⟩:=Fx (P:=P) (isSlice:=false) (Nat.le_refl _) h1 h1n h2 h2n hb
   exact ⟨.string (s.extract l h),by simp[Instr.sliceAt,Instr.slice,run_underlying hu,e1], .p _ _ (.v _)⟩
 ·rename_i e xs hu
  cases hs:BU P e with
  | none=>rw[hs] at hm; cases hm
  | some sz=>
  rw[hs] at hm
  simp only[Option.bind_some] at hm
  cases hb:boundsA xs.length lo hi with
  | none=>rw[hb] at hm; cases hm
  | some q=>
  obtain ⟨l,h⟩:=q
  rw[hb] at hm
  simp only[Option.bind_some] at hm
  split at hm
  ·rename_i hall
   rw[List.all_eq_true] at hall
   have hall':∀ y∈xs,y.cells.length=sz:=fun y hy=>by simpa using hall y hy
   cases hm
   rcases ls_inv hx with ⟨a,cap,rfl,rfl,hac⟩ | ⟨a,cap,us,rfl,g1,g2,g3,g4,g5,g6,g7⟩
   ·obtain ⟨e1,e2,e3⟩:=Fx (P:=P) (len:=0) (cap:=cap) (isSlice:=true) (Nat.zero_le _) h1 h1n h2 h2n hb
    have hl0:l=0:=by omega
    have hh0:h=0:=by omega
    subst hl0
    subst hh0
    refine ⟨.slice a 0 cap,?_, .p _ _ (.nil a cap hac)⟩
    have hadd:a.map (fun x=>x.add (0*sz))=a:=by cases a <;> simp[Addr.add]
    simp[Instr.sliceAt,Instr.slice,run_underlying hu,e1,CO w hs]
    intro _
    simpa using hadd
   ·obtain ⟨e1,e2,e3⟩:=Fx (P:=P) (cap:=cap) (isSlice:=true) g4 h1 h1n h2 h2n hb
    have hlen:((xs.take h).drop l).length=h - l:=by simp; omega
    have hfl:=Hq xs sz hall'
    have hsub:∀ y∈(xs.take h).drop l,y.cells.length=sz:=fun y hy=>hall' y (List.mem_of_mem_take (List.mem_of_mem_drop hy))
    have hrun:(Instr.sliceAt t (.slice (some a) xs.length cap) ulo uhi none).run P w= .ok (.slice (if cap=l then some a else some (a.add (l*sz))) (h - l) (cap - l)) w:=by
     simp[Instr.sliceAt,Instr.slice,run_underlying hu,e1,CO w hs]
    by_cases hc:cap=l
    ·have hz:h - l=0:=by omega
     have hnil:(xs.take h).drop l= []:=List.eq_nil_of_length_eq_zero (by omega)
     refine ⟨_,by rw[hrun,if_pos hc],?_⟩
     rw[hnil,hz]
     exact .p _ _ (.ls [] a _ [] g1 g2 g3 (by simp) rfl (fun j u h=>by simp at h) (fun j p u h=>by simp at h))
    ·refine ⟨_,by rw[hrun,if_neg hc],?_⟩
     obtain ⟨f1,f2⟩:=ND a (l*sz) g1
     have hmul:h*sz≤xs.length*sz:=Nat.mul_le_mul_right _ e3
     have hmul2:l*sz≤h*sz:=Nat.mul_le_mul_right _ e2
     rw[←hlen]
     have hfs:=Hq _ sz hsub
     rw[hlen,Nat.sub_mul] at hfs
     refine .p _ _ (.ls _ (a.add (l*sz)) _ ((us.drop (l*sz)).take ((h - l)*sz)) f1 (by rw[f2]; exact g2) (by rw[f2]; exact g3) (by rw[hlen]; omega) (by rw[hfs,Nat.sub_mul]; simp; omega) (fun j u hj=>?_) (fun j p u hp hu=>?_))
     ·rw[List.getElem?_take] at hj
      split at hj
      ·rw[List.getElem?_drop] at hj
       rw[add_add _ _ _ g1]
       exact g6 _ u hj
      ·cases hj
     ·rw[List.getElem?_take] at hu
      split at hu
      ·rename_i hjl
       rw[List.getElem?_drop] at hu
       refine g7 _ p u ?_ hu
       have hsz0:0<sz:=by
        rcases Nat.eq_zero_or_pos sz with h0 | h0
        ·subst h0; simp at hjl
        ·exact h0
       have hdiv:j / sz<h - l:=Nat.div_lt_of_lt_mul (by rw[Nat.mul_comm]; exact hjl)
       have hmod:j % sz<sz:=Nat.mod_lt _ hsz0
       have hje:j=j / sz*sz+j % sz:=by rw[Nat.mul_comm]; exact (Nat.div_add_mod j sz).symm
       have hy1:j / sz<((xs.take h).drop l).length:=by omega
       have hget:((xs.take h).drop l)[j / sz]? = some (((xs.take h).drop l)[j / sz]):=List.getElem?_eq_getElem hy1
       have hp':=SJ _ sz hsub (j / sz) _ hget (j % sz) hmod
       rw[←hje] at hp'
       have hget2:xs[l+j / sz]? = some (((xs.take h).drop l)[j / sz]):=by
        rw[List.getElem?_drop,List.getElem?_take] at hget
        split at hget
        ·exact hget
        ·cases hget
       have hp2:=SJ xs sz hall' (l+j / sz) _ hget2 (j % sz) hmod
       rw[show (l+j / sz)*sz+j % sz=l*sz+j by rw[Nat.add_mul]; omega] at hp2
       rw[hp2,←hp']
       exact hp
      ·cases hu
  ·cases hm
 ·rename_i e b ver sz' off len hu
  cases hs:BU P e with
  | none=>rw[hs] at hm; cases hm
  | some sz=>
  rw[hs] at hm
  simp only[Option.bind_some] at hm
  cases hb:boundsA len lo hi with
  | none=>rw[hb] at hm; cases hm
  | some q=>
  obtain ⟨l,h⟩:=q
  rw[hb] at hm
  simp only[Option.bind_some] at hm
  split at hm
  ·rename_i hsz
   have hsz':sz=sz':=by simpa using hsz
   subst hsz'
   cases hm
   cases hx with
   | rs _ _ _ _ _ a cap hok=>
    obtain ⟨g1,g2,g3,g4⟩:=hok
    obtain ⟨e1,e2,e3⟩:=Fx (P:=P) (cap:=cap) (isSlice:=true) g2 h1 h1n h2 h2n hb
    refine ⟨.slice (if cap=l then a else a.map (·.add (l*sz))) (h - l) (cap - l),by simp[Instr.sliceAt,Instr.slice,run_underlying hu,e1,CO w hs], .rs _ _ _ _ _ _ _ ⟨g1,by omega,fun hc=>?_,fun row v cs hb=>?_⟩⟩
    ·have hne:¬cap=l:=by omega
     rw[if_neg hne]
     have:=g3 (by omega)
     cases a with
     | none=>simp at this
     | some a=>rfl
    ·obtain ⟨l1,l2⟩:=g4 row v cs hb
     refine ⟨l1,fun e=>?_⟩
     obtain ⟨l3,l4⟩:=l2 e
     have hmul:h*sz≤len*sz:=Nat.mul_le_mul_right _ e3
     have hmul2:l*sz≤h*sz:=Nat.mul_le_mul_right _ e2
     refine ⟨by rw[Nat.sub_mul]; omega,?_⟩
     by_cases hc:cap=l
     ·exact .inl (by omega)
     ·rcases l4 with h0 | ⟨k,o',hr,ha,e',n,hsh,hle⟩
      ·omega
      ·subst ha
       have hmul3:l*sz≤cap*sz:=Nat.mul_le_mul_right _ (by omega)
       refine .inr ⟨k,o',hr,by rw[if_neg hc,Option.map_some,Addr.add_lit,Nat.add_assoc],e',n,hsh,by rw[Nat.sub_mul]; omega⟩
  ·cases hm
 ·rename_i e hu
  obtain rfl:=hx.val
  cases hm2:BU P e with
  | none=>rw[hm2] at hm; cases hm
  | some sz=>
  rw[hm2] at hm
  simp only[Option.bind_some] at hm
  cases hb:boundsA 0 lo hi with
  | none=>rw[hb] at hm; cases hm
  | some q=>
   obtain ⟨l,h⟩:=q
   rw[hb] at hm
   cases hm
   obtain ⟨e1,e2,e3⟩:=Fx (P:=P) (cap:=0) (isSlice:=true) (Nat.le_refl 0) h1 h1n h2 h2n hb
   have hl0:l=0:=by omega
   have hh0:h=0:=by omega
   subst hl0
   subst hh0
   exact ⟨.slice none 0 0,by simp[Instr.sliceAt,Instr.slice,run_underlying hu,e1,CO w hm2], .p _ _ (.v _)⟩
 ·rename_i n e b ver o hu
  cases hs:BU P e with
  | none=>rw[hs] at hm; cases hm
  | some sz=>
  rw[hs] at hm
  simp only[Option.bind_some] at hm
  cases hb:boundsA n lo hi with
  | none=>rw[hb] at hm; cases hm
  | some q=>
  obtain ⟨l,h⟩:=q
  rw[hb] at hm
  simp only[Option.bind_some] at hm
  split at hm
  ·rename_i row vv cs hbx
   split at hm
   ·rename_i hc
    simp only[Bool.and_eq_true,Nat.ble_eq] at hc
    obtain ⟨hv,hle⟩:=hc
    have hv':ver=vv:=Nat.eq_of_beq_eq_true hv
    subst hv'
    cases hm
    cases hx with
    | ptr _ _ _ a hp=>
     obtain ⟨k,o',hr,rfl⟩:=(hp.2 _ _ _ hbx).2 rfl
     obtain ⟨us,e2,fr,q1,q2,q3,q4⟩:=hI.cell hbx hr
     obtain ⟨e1,e3,e4⟩:=Fx (P:=P) (cap:=n) (isSlice:=false) (Nat.le_refl n) h1 h1n h2 h2n hb
     have hmul:h*sz≤n*sz:=Nat.mul_le_mul_right _ e4
     have hmul2:l*sz≤h*sz:=Nat.mul_le_mul_right _ e3
     refine ⟨.slice (some (if n=l then ⟨k,o'+o,none⟩ else (⟨k,o'+o,none⟩:Addr).add (l*sz))) (h - l) (n - l),by simp[Instr.sliceAt,run_underlying hu,Instr.sureAddr,e1,CO w hs], .rs _ _ _ _ _ _ _ ⟨hp.1,by omega,fun _=>rfl,fun row' v cs' hb=>?_⟩⟩
     rw[hbx] at hb
     cases hb
     refine ⟨Nat.le_refl _,fun _=>⟨by rw[Nat.sub_mul]; omega,?_⟩⟩
     by_cases hc:n=l
     ·exact .inl (by omega)
     ·refine .inr ⟨k,o',hr,by rw[if_neg hc,Addr.add_lit,Nat.add_assoc],e2,us.size,by simp[World.shape?,q1],by rw[Nat.sub_mul]; omega⟩
   ·cases hm
  ·cases hm
 ·cases hm

end Go.Ax
