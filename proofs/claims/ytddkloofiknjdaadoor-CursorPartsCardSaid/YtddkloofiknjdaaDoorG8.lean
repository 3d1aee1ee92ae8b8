/- What one operation does in a world is what the second reading says: maps, slices with three bounds. -/
import Derived.Test.YtddkloofiknjdaaDoorG7
set_option linter.unusedVariables false
set_option linter.unusedSimpArgs false
set_option linter.unusedSectionVars false
namespace Go.Ax
open Go.RowKit

variable [Glob] {P : Program} {F : Nat → Prop}

theorem eraseIdx_map' {α β:Type} (f:α→β):∀ (l:List α) (i:Nat),(l.eraseIdx i).map f=(l.map f).eraseIdx i
 | [],i=>by simp
 | a::l,0=>rfl
 | a::l,i+1=>by simp[eraseIdx_map' f l i]

theorem keyB_isKey {d:TypeDesc} {k:Value} (h:keyB d k=true):MapKept.IsKey d k:=by
 unfold keyB at h
 split at h
 ·trivial
 ·simpa [MapKept.IsKey] using h
 ·trivial
 ·cases h

theorem hasK_iff {d:TypeDesc} {k x:Value} (hk:keyB d k=true) (hx:keyB d x=true):hasK d k x=true↔x=k:=by
 obtain ⟨r,hr,hiff⟩:=MapKept.sameNow_of_keys (keyB_isKey hk) (keyB_isKey hx)
 unfold hasK
 rw[hr]
 cases r with
 | true=>simp[hiff.1 rfl]
 | false=>
  simp only[Bool.false_eq_true,false_iff]
  intro e
  have:=hiff.2 e.symm
  cases this

theorem sameBits_key {d:TypeDesc} {k:Value} (hk:keyB d k=true) (n:Nat):Instr.sameBits n k k=true:=by
 unfold keyB at hk
 split at hk
 ·cases n <;> simp[Instr.sameBits]
 ·cases n <;> simp[Instr.sameBits]
 ·rename_i s
  have:=(MapKept.bytes_beq s s).2 rfl
  cases n <;> exact this
 ·cases hk

abbrev kvs (es:Array MapEntry):List (Value×Value):=es.toList.map fun e=>(e.key,e.val)

structure MapIs (F:Nat→Prop) (B:List Box) (ρ:Loc) (w:World) (P:Program) (t:TypeId) (m:MapA) (d:TypeDesc) (kt et:TypeId) (k o:Nat) (es:Array MapEntry) (clock:Nat) (us:List Value) (Φ:ObjP):Prop where
 ty:P.underlying t=some (.map kt et)
 kd:P.underlying kt=some d
 box:B[m.b]? = some (.obj m.cs Φ)
 loc:ρ m.b=some (k,o)
 foot:∀ j,o.testBit j=true↔j=k
 heap:w.heap[k]? = some (.map es clock)
 stamped:MapKept.Stamped es clock
 ulen:us.length=m.ks.length
 perm:(kvs es).Perm (m.ks.zip us++m.hid)
 len:m.cs.length=us.length
 vals:∀ (i:Nat) (c:AV) (u:Value),m.cs[i]? = some c→us[i]? = some u→VRel F B ρ w c u
 key:keyB d m.kv=true
 keyks:∀ x∈m.ks,keyB d x=true
 keyhid:∀ x∈m.hid,keyB d x.1=true
 fi:m.i=m.ks.findIdx? (hasK d m.kv)
 fj:m.j=m.hid.findIdx? fun h=>hasK d m.kv h.1

theorem mapAt_is {B:List Box} {ρ:Loc} {w:World} (hI:Inv F B ρ w) {t:TypeId} {x k:AV} {m:MapA} (h:mapAt P t B x k=some m) {ux uk:Value} (hx:VRel F B ρ w x ux) (hk:VRel F B ρ w k uk):
  uk=m.kv∧∃ d kt et k' o es clock us Φ,ux= .map (some k')∧MapIs F B ρ w P t m d kt et k' o es clock us Φ:=by
 unfold mapAt at h
 split at h
 ·rename_i kt et b' kv' hu
  split at h
  ·rename_i d cs' Φ hd hb
   split at h
   ·rename_i ks hid hks
    split at h
    ·rename_i hkey
     cases h
     simp only[Bool.and_eq_true,List.all_eq_true] at hkey
     obtain ⟨⟨hk1,hk2⟩,hk3⟩:=hkey
     refine ⟨hk.val,?_⟩
     cases hx with
     | mp _ r0 hp=>
      obtain ⟨k',o,us,g1,g2,g3,g4⟩:=hI.obox _ _ _ hb
      obtain ⟨o2,e2⟩:=hp.2 _ _ hb
      rw[g1] at e2
      cases e2
      rw[Φ.isMap _ hks] at g2
      obtain ⟨f1,es,clock,f2,f3,f4,f5⟩:=g2
      exact ⟨d,kt,et,r0,o,es,clock,us,Φ,rfl,hu,hd,hb,g1,f1,f2,f3,f4,f5,g3,g4,hk1,hk2,hk3,rfl,rfl⟩
    ·cases h
   ·cases h
  ·cases h
 ·cases h

theorem zip_get {α β:Type}:∀ {l:List α} {r:List β} {i:Nat} {a:α} {b:β},l[i]? = some a→r[i]? = some b→(a,b)∈l.zip r
 | [],_,_,_,_,h,_=>by simp at h
 | _::_,[],_,_,_,_,h=>by simp at h
 | x::l,y::r,0,a,b,h1,h2=>by cases h1; cases h2; simp
 | x::l,y::r,i+1,a,b,h1,h2=>by
  have:=zip_get (l:=l) (r:=r) (i:=i) (by simpa using h1) (by simpa using h2)
  simp[this]

theorem MapIs.find {B:List Box} {ρ:Loc} {w:World} {t:TypeId} {m:MapA} {d:TypeDesc} {kt et:TypeId} {k o:Nat} {es:Array MapEntry} {clock:Nat} {us:List Value} {Φ:ObjP} (M:MapIs F B ρ w P t m d kt et k o es clock us Φ):
  (∀ i,m.i=some i→∃ c u,m.cs[i]? = some c∧us[i]? = some u∧m.ks[i]? = some m.kv∧(m.kv,u)∈m.ks.zip us) ∧
  (m.i=none→∀ j,m.j=some j→∃ u,m.hid[j]? = some (m.kv,u)) ∧
  (m.i=none→m.j=none→∀ z∈m.ks.zip us++m.hid,z.1≠m.kv):=by
 refine ⟨fun i hi=>?_,fun _ j hj=>?_,fun hi hj z hz=>?_⟩
 ·rw[M.fi,List.findIdx?_eq_some_iff_getElem] at hi
  obtain ⟨hl,h1,_⟩:=hi
  have hkk:=(hasK_iff M.key (M.keyks _ (List.getElem_mem hl))).1 h1
  have hlu:i<us.length:=by rw[M.ulen]; exact hl
  have hlc:i<m.cs.length:=by rw[M.len]; exact hlu
  have hk:m.ks[i]? = some m.kv:=by rw[List.getElem?_eq_getElem hl,hkk]
  exact ⟨m.cs[i],us[i],List.getElem?_eq_getElem hlc,List.getElem?_eq_getElem hlu,hk,zip_get hk (List.getElem?_eq_getElem hlu)⟩
 ·rw[M.fj,List.findIdx?_eq_some_iff_getElem] at hj
  obtain ⟨hl,h1,_⟩:=hj
  have hkk:=(hasK_iff M.key (M.keyhid _ (List.getElem_mem hl))).1 h1
  exact ⟨m.hid[j].2,by rw[List.getElem?_eq_getElem hl,←hkk]⟩
 ·rw[M.fi,List.findIdx?_eq_none_iff] at hi
  rw[M.fj,List.findIdx?_eq_none_iff] at hj
  intro e
  rcases List.mem_append.1 hz with hz | hz
  ·have hzk:=(List.of_mem_zip (show (z.1,z.2)∈_ from hz)).1
   have:=hi z.1 hzk
   rw[(hasK_iff M.key (M.keyks _ hzk)).2 e] at this
   cases this
  ·have:=hj z hz
   rw[(hasK_iff M.key (M.keyhid _ hz)).2 e] at this
   cases this

theorem MapIs.keys {B:List Box} {ρ:Loc} {w:World} {t:TypeId} {m:MapA} {d:TypeDesc} {kt et:TypeId} {k o:Nat} {es:Array MapEntry} {clock:Nat} {us:List Value} {Φ:ObjP} (M:MapIs F B ρ w P t m d kt et k o es clock us Φ):
  ∀ x∈es.toList,MapKept.IsKey d x.key:=by
 intro x hx
 have:(x.key,x.val)∈m.ks.zip us++m.hid:=M.perm.subset (List.mem_map.2 ⟨x,hx,rfl⟩)
 rcases List.mem_append.1 this with h | h
 ·exact keyB_isKey (M.keyks _ (List.of_mem_zip h).1)
 ·exact keyB_isKey (M.keyhid _ h)

theorem MapIs.there {B:List Box} {ρ:Loc} {w:World} {t:TypeId} {m:MapA} {d:TypeDesc} {kt et:TypeId} {k o:Nat} {es:Array MapEntry} {clock:Nat} {us:List Value} {Φ:ObjP} (M:MapIs F B ρ w P t m d kt et k o es clock us Φ) {u:Value}
  (hu:(m.kv,u)∈m.ks.zip us++m.hid):∃ i e,es[i]? = some e∧e.key=m.kv∧e.val=u∧Instr.findNow d m.kv es.toList 0=some (some (i,u)):=by
 obtain ⟨e0,h0,e1⟩:=List.mem_map.1 (M.perm.symm.subset hu)
 simp only[Prod.mk.injEq] at e1
 rcases MapKept.findNow_spec (keyB_isKey M.key) es.toList 0 M.keys with ⟨_,h2⟩ | ⟨j,e,h1,h2,h3⟩
 ·exact absurd e1.1 (h2 e0 h0)
 ·have hee:e=e0:=by
   obtain ⟨j0,hj0⟩:=List.getElem?_of_mem h0
   have hp:=M.stamped.2.2
   have:j=j0:=by
    have q1:(es.toList.map (·.key))[j]? = some m.kv:=by rw[List.getElem?_map,h2]; simp[h3]
    have q2:(es.toList.map (·.key))[j0]? = some m.kv:=by rw[List.getElem?_map,hj0]; simp[e1.1]
    have hjl:=(List.getElem?_eq_some_iff.1 q1).1
    have hjl0:=(List.getElem?_eq_some_iff.1 q2).1
    have r1:=(List.getElem?_eq_some_iff.1 q1).2
    have r2:=(List.getElem?_eq_some_iff.1 q2).2
    have hpw:=List.pairwise_iff_getElem.1 hp
    rcases Nat.lt_trichotomy j j0 with h | h | h
    ·exact absurd (r1.trans r2.symm) (hpw j j0 hjl hjl0 h)
    ·exact h
    ·exact absurd (r2.trans r1.symm) (hpw j0 j hjl0 hjl h)
   subst this
   rw[h2] at hj0
   cases hj0; rfl
  subst hee
  rw[Nat.zero_add] at h1
  exact ⟨j,e,by simpa using h2,h3,e1.2,by rw[h1,e1.2]⟩

theorem MapIs.away {B:List Box} {ρ:Loc} {w:World} {t:TypeId} {m:MapA} {d:TypeDesc} {kt et:TypeId} {k o:Nat} {es:Array MapEntry} {clock:Nat} {us:List Value} {Φ:ObjP} (M:MapIs F B ρ w P t m d kt et k o es clock us Φ)
  (hu:∀ z∈m.ks.zip us++m.hid,z.1≠m.kv):Instr.findNow d m.kv es.toList 0=some none∧∀ x∈es.toList,x.key≠m.kv:=by
 rcases MapKept.findNow_spec (keyB_isKey M.key) es.toList 0 M.keys with h | ⟨j,e,h1,h2,h3⟩
 ·exact h
 ·have:(e.key,e.val)∈m.ks.zip us++m.hid:=M.perm.subset (List.mem_map.2 ⟨e,List.mem_of_getElem? h2,rfl⟩)
  exact absurd h3 (hu _ this)

theorem zeroV_run {t:TypeId} {z:AV} (h:zeroV P t=some z) (w:World):∃ u,(zeroValue t).run P w= .ok u w∧∀ (F:Nat→Prop) (B:List Box) (ρ:Loc) (w':World),VRel F B ρ w' z u:=by
 unfold zeroV at h
 cases hi:P.info? t with
 | none=>rw[hi] at h; cases h
 | some i=>
  rw[hi] at h
  simp only[Option.bind_some] at h
  cases hz:i.zero with
  | none=>rw[hz] at h; cases h
  | some u=>
   rw[hz] at h
   cases h
   exact ⟨u,by simp[zeroValue,typeInfo,hi,hz],fun F B ρ w'=>vrel_ofV B ρ w' u⟩

theorem lookup_run {B:List Box} {ρ:Loc} {w:World} (hI:Inv F B ρ w) {t:TypeId} {x k v:AV} {ok:Bool} {ux uk:Value} (hx:VRel F B ρ w x ux) (hk:VRel F B ρ w k uk) (hm:lookupA P t B x k ok=some v):
  ∃ z,(Instr.lookup t ux uk ok).run P w= .ok z w∧VRel F B ρ w v z:=by
 unfold lookupA at hm
 cases hq:mapAt P t B x k with
 | none=>rw[hq] at hm; cases hm
 | some m=>
 rw[hq] at hm
 simp only[Option.bind_some] at hm
 obtain ⟨rfl,d,kt,et,k',o,es,clock,us,Φ,rfl,M⟩:=mapAt_is hI hq hx hk
 rw[M.ty] at hm
 simp only at hm
 have hck:∀ e,(Instr.checkKey e 10000 kt m.kv).run P w= .ok () w:=fun e=>MapKept.run_checkKey M.kd (keyB_isKey M.key) e 9999
 have hget:=MapKept.run_getObj_map (P:=P) M.heap
 obtain ⟨f1,f2,f3⟩:=M.find
 have pairV:∀ (u:Value) (c:AV),VRel F B ρ w c u→∀ q,VRel F B ρ w (if ok=true then .tup [c, .p (.v (.bool q))] else c) (if ok=true then .tuple #[u, .bool q] else u):=by
  intro u c hc q
  cases ok with
  | false=>exact hc
  | true=>
   refine VRel.tup [c, .p (.v (.bool q))] [u, .bool q] rfl (fun j p u' hp hu=>?_)
   match j with
   | 0=>cases hp; cases hu; exact hc
   | 1=>cases hp; cases hu; exact .p _ _ (.v _)
   | j+2=>simp at hp
 have fin:∀ (u:Value),(m.kv,u)∈m.ks.zip us++m.hid→∀ c,VRel F B ρ w c u→∃ z,(Instr.lookup t (.map (some k')) m.kv ok).run P w= .ok z w∧VRel F B ρ w (if ok=true then .tup [c, .p (.v (.bool true))] else c) z:=by
  intro u hu c hc
  obtain ⟨i,e,_,_,_,h3⟩:=M.there hu
  refine ⟨_,?_,pairV u c hc true⟩
  simp only[Instr.lookup,Sem.run_bind,run_underlying M.ty,Result.andThen_ok,hget,Sem.run_pure,hck,MapKept.run_findKey M.kd h3]
 cases hi:m.i with
 | some i=>
  obtain ⟨c,u,h1,h2,_,h3⟩:=f1 i hi
  simp only[hi,h1,Option.map_some,Option.some.injEq,Option.isSome_some,Bool.true_or] at hm
  subst hm
  exact fin u (List.mem_append_left _ h3) c (M.vals i c u h1 h2)
 | none=>
  cases hj:m.j with
  | some j=>
   obtain ⟨u,h1⟩:=f2 hi j hj
   simp only[hi,hj,h1,Option.map_some,Option.some.injEq,Option.isSome_some,Bool.or_true] at hm
   subst hm
   exact fin u (List.mem_append_right _ (List.mem_of_getElem? h1)) (.p (.v u)) (.p _ _ (.v _))
  | none=>
   simp only[hi,hj,Option.isSome_none,Bool.or_false] at hm
   obtain ⟨z,hz,rfl⟩:=Option.map_eq_some_iff.1 hm
   obtain ⟨u,h1,h2⟩:=zeroV_run hz w
   refine ⟨_,?_,pairV u z (h2 F B ρ w) false⟩
   simp only[Instr.lookup,Sem.run_bind,run_underlying M.ty,Result.andThen_ok,hget,Sem.run_pure,hck,MapKept.run_findKey M.kd (M.away (f3 hi hj)).1,h1]

abbrev putAt (w:World) (k:Nat) (o:Obj):World:={w with heap:=w.heap.setIfInBounds k o}

theorem map_set {B:List Box} {ρ:Loc} {w:World} (hI:Inv F B ρ w) {b k o:Nat} {cs cs':List AV} {Φ:ObjP} {ks' us':List Value} {hid':List (Value×Value)} {es es':Array MapEntry} {clock clock':Nat} (hb:B[b]? = some (.obj cs Φ)) (hr:ρ b=some (k,o)) (hf:∀ j,o.testBit j=true↔j=k)
  (hh:w.heap[k]? = some (.map es clock)) (h3:MapKept.Stamped es' clock') (h1:us'.length=ks'.length) (h2:(kvs es').Perm (ks'.zip us'++hid')) (hl:cs'.length=us'.length) (hv:∀ (i:Nat) (c:AV) (u:Value),cs'[i]? = some c→us'[i]? = some u→VRel F B ρ w c u):
  Inv F (B.set b (.obj cs' (mapP ks' hid'))) ρ (putAt w k (.map es' clock'))∧Ext F B ρ w (B.set b (.obj cs' (mapP ks' hid'))) ρ (putAt w k (.map es' clock')):=by
 have hlt:b<B.length:=(List.getElem?_eq_some_iff.1 hb).1
 obtain ⟨q1,q2⟩:=MapKept.heap_set (o':= .map es' clock') hh
 have hFk:¬F k:=hI.farx _ _ _ _ hb hr ((hf k).2 rfl)
 have hown:Own F B ρ k:= .inr ⟨b,_,_,hb,hr,(hf k).2 rfl⟩
 have hE:Ext F B ρ w (B.set b (.obj cs' (mapP ks' hid'))) ρ (putAt w k (.map es' clock')):=by
  refine ⟨by simp[putAt],rfl,rfl,rfl,fun j hj ho=>⟨q2 j (fun e=>ho (e▸hown)),fun h=>ho ?_⟩,fun j e n hj=>?_,by simp,fun c row v cs2 hc h=>?_,fun c cs2 Φ2 hc h=>?_,fun j hj _=>q2 j (fun e=>hFk (e▸hj))⟩
  ·rcases h with h | ⟨c,x,l,p1,p2,p3⟩
   ·exact .inl h
   ·rw[List.getElem?_set] at p1
    split at p1
    ·rename_i e
     subst e
     simp[hlt] at p1
     subst p1
     exact .inr ⟨b,_,l,hb,p2,p3⟩
    ·exact .inr ⟨c,x,l,p1,p2,p3⟩
  ·by_cases e0:j=k
   ·subst e0
    unfold World.shape? at hj
    rw[hh] at hj
    cases hj
   ·unfold World.shape? at hj ⊢
    rw[q2 j e0]
    exact hj
  ·rw[List.getElem?_set] at h
   split at h
   ·rename_i e; subst e; simp[hlt] at h
   ·exact ⟨v,cs2,h,Nat.le_refl _,fun _=>⟨rfl,rfl⟩⟩
  ·rw[List.getElem?_set] at h
   split at h
   ·rename_i e; subst e; exact ⟨cs,Φ,hb,rfl⟩
   ·exact ⟨cs2,Φ2,h,rfl⟩
 refine ⟨hI.otherx hb hE (fun _ _=>rfl) (fun c x l j hne hc hl hx=>q2 j (fun e=>hne (hI.injx _ _ _ _ _ (k,o) k hc hb hl hr (e▸hx) ((hf k).2 rfl))))
  (fun c x l l' j hne hc hl hx hl' hx'=>?_) (fun l j hl hx hF=>?_) (fun _ _ _ e=>by cases e) (fun _ _ _ _ e=>by cases e) (fun cs2 Φ2 e=>?_),hE⟩
 ·rw[hr] at hl'; cases hl'
  have hjk:=(hf j).1 hx'
  subst hjk
  exact hne (hI.injx _ _ _ _ _ (j,o) j hc hb hl hr hx ((hf j).2 rfl))
 ·rw[hr] at hl; cases hl
  have hjk:=(hf j).1 hx
  subst hjk
  exact hFk hF
 ·cases e
  exact ⟨k,o,us',hr,⟨hf,es',clock',q1,h3,h1,h2⟩,hl,fun i c u hc hu=>(hv i c u hc hu).ext hE⟩

theorem modify_kvs {es:Array MapEntry} {i:Nat} {e:MapEntry} {kv uv:Value} (he:es[i]? = some e):kvs (es.modify i fun e=>{e with key:=kv,val:=uv})=(kvs es).set i (kv,uv):=by
 obtain ⟨hi,hei⟩:=Array.getElem?_eq_some_iff.1 he
 apply List.ext_getElem?
 intro j
 simp only[kvs,List.getElem?_map,Array.getElem?_toList,Array.getElem?_modify,List.getElem?_set]
 by_cases hij:i=j
 ·subst hij; simp[hei,hi]
 ·simp[hij]

theorem perm_take {α:Type} {l l':List α} {i:Nat} {a:α} (hp:l.Perm l') (hi:l[i]? = some a) {x y:List α} (hl:l'=x++a::y):(l.eraseIdx i).Perm (x++y)∧∀ b,(l.set i b).Perm (b::(x++y)):=by
 have hil:=(List.getElem?_eq_some_iff.1 hi).1
 have hsplit:l=l.take i++a::l.drop (i+1):=by
  have:=List.take_append_drop i l
  rw[List.drop_eq_getElem_cons hil,(List.getElem?_eq_some_iff.1 hi).2] at this
  exact this.symm
 have h1:(a::(l.take i++l.drop (i+1))).Perm (a::(x++y)):=by
  refine List.Perm.trans ?_ (List.Perm.trans (hsplit▸hp) (hl▸List.perm_middle))
  exact List.perm_middle.symm
 have h2:=h1.cons_inv
 have he:l.eraseIdx i=l.take i++l.drop (i+1):=List.eraseIdx_eq_take_drop_succ ..
 refine ⟨he▸h2,fun b=>?_⟩
 rw[List.set_eq_take_append_cons_drop,if_pos hil]
 exact List.perm_middle.trans (h2.cons b)

theorem mapUpdate_run {B B':List Box} {ρ:Loc} {w:World} (hI:Inv F B ρ w) {t:TypeId} {x k v:AV} {ux uk uv:Value} (hx:VRel F B ρ w x ux) (hk:VRel F B ρ w k uk) (hv:VRel F B ρ w v uv) (hm:mapUpdateA P t B x k v=some B'):
  ∃ w',(Instr.mapUpdate t ux uk uv).run P w= .ok () w'∧Inv F B' ρ w'∧Ext F B ρ w B' ρ w':=by
 unfold mapUpdateA at hm
 obtain ⟨m,hq,hm⟩:=Option.map_eq_some_iff.1 hm
 obtain ⟨rfl,d,kt,et,k',o,es,clock,us,Φ,rfl,M⟩:=mapAt_is hI hq hx hk
 have hck:∀ e,(Instr.checkKey e 10000 kt m.kv).run P w= .ok () w:=fun e=>MapKept.run_checkKey M.kd (keyB_isKey M.key) e 9999
 have hget:=MapKept.run_getObj_map (P:=P) M.heap
 obtain ⟨f1,f2,f3⟩:=M.find
 have vapp:∀ (j:Nat) (c:AV) (u:Value),(m.cs++ [v])[j]? = some c→(us++ [uv])[j]? = some u→VRel F B ρ w c u:=fun j c u hc hu=>by
  rw[List.getElem?_append] at hc hu
  split at hc
  ·rename_i hj
   rw[if_pos (by rw[←M.len]; exact hj)] at hu
   exact M.vals j c u hc hu
  ·rename_i hj
   rw[if_neg (by rw[←M.len]; exact hj),←M.len] at hu
   cases hz:j - m.cs.length with
   | zero=>rw[hz] at hc hu; cases hc; cases hu; exact hv
   | succ n=>rw[hz] at hc; simp at hc
 have zapp:∀ hid,((m.ks++ [m.kv]).zip (us++ [uv])++hid)=m.ks.zip us++(m.kv,uv)::hid:=fun hid=>by
  rw[List.zip_append M.ulen.symm]; simp
 -- an entry that is there is other
 have over:∀ (u:Value) (x y:List (Value×Value)),m.ks.zip us++m.hid=x++(m.kv,u)::y→∀ (cs':List AV) (ks' us':List Value) (hid':List (Value×Value)),us'.length=ks'.length→cs'.length=us'.length →
   ((m.kv,uv)::(x++y)).Perm (ks'.zip us'++hid')→(∀ (i:Nat) (c:AV) (u:Value),cs'[i]? = some c→us'[i]? = some u→VRel F B ρ w c u) →
   ∃ w',(Instr.mapUpdate t (.map (some k')) m.kv uv).run P w= .ok () w'∧Inv F (B.set m.b (.obj cs' (mapP ks' hid'))) ρ w'∧Ext F B ρ w (B.set m.b (.obj cs' (mapP ks' hid'))) ρ w':=by
  intro u x y hxy cs' ks' us' hid' hl1 hl2 hp hvs
  obtain ⟨i,e,he,hke,_,h3⟩:=M.there (u:=u) (by rw[hxy]; simp)
  have hki:(kvs es)[i]? = some (m.kv,u):=by
   have h4:(kvs es)[i]? = some (e.key,e.val):=by simp[kvs,he]
   rw[h4,hke]; subst_vars; rfl
  obtain ⟨_,hset⟩:=perm_take M.perm hki hxy
  have:=map_set hI (cs':=cs') (ks':=ks') (us':=us') (hid':=hid') (es':=es.modify i fun e=>{e with key:=m.kv,val:=uv}) (clock':=clock) M.box M.loc M.foot M.heap
   (MapKept.stamped_modify M.stamped i _ (fun _ _=>rfl) (fun e' _ h'=>by rw[he] at h'; cases h'; exact hke.symm)) hl1 (by rw[modify_kvs he]; exact (hset _).trans hp) hl2 hvs
  refine ⟨_,?_,this.1,this.2⟩
  have hkeyOf:((es[i]?).map (·.key)).getD m.kv=m.kv:=by rw[he]; exact hke
  have hst:∀ w,(Instr.keyThatStays m.kv m.kv).run P w= .ok m.kv w:=fun w=>by simp[Instr.keyThatStays,sameBits_key M.key]
  simp only[Instr.mapUpdate,Sem.run_bind,run_underlying M.ty,Result.andThen_ok,hget,hck,MapKept.run_findKey M.kd h3,hkeyOf,hst]
  exact MapKept.run_setObj_map _ M.heap
 cases hi:m.i with
 | some i=>
  simp only[hi] at hm
  subst hm
  obtain ⟨c,u,h1,h2,h4,_⟩:=f1 i hi
  have hzi:(m.ks.zip us)[i]? = some (m.kv,u):=by simp[List.getElem?_zip_eq_some,h4,h2]
  have hil:=(List.getElem?_eq_some_iff.1 hzi).1
  have hsp:m.ks.zip us=(m.ks.zip us).take i++(m.kv,u)::(m.ks.zip us).drop (i+1):=by
   have:=List.take_append_drop i (m.ks.zip us)
   rw[List.drop_eq_getElem_cons hil,(List.getElem?_eq_some_iff.1 hzi).2] at this
   exact this.symm
  have hzs:m.ks.zip (us.set i uv)=(m.ks.zip us).set i (m.kv,uv):=by
   apply List.ext_getElem?
   intro j
   by_cases hij:i=j
   ·subst hij
    have hul:=(List.getElem?_eq_some_iff.1 h2).1
    rw[List.getElem?_set_self hil]
    simp[List.getElem?_zip_eq_some,h4,hul]
   ·rw[List.getElem?_set_ne hij]
    simp only[List.zip,List.getElem?_zipWith,List.getElem?_set_ne hij]
  refine over u ((m.ks.zip us).take i) ((m.ks.zip us).drop (i+1)++m.hid) (by rw[←List.cons_append,←List.append_assoc,←hsp]) _ m.ks (us.set i uv) m.hid (by simp[M.ulen]) (by simp[M.len]) ?_ (fun j c u hc hu=>?_)
  ·rw[hzs,List.set_eq_take_append_cons_drop,if_pos hil]
   simp only[List.append_assoc,List.cons_append]
   exact List.perm_middle.symm
  ·rw[List.getElem?_set] at hc hu
   split at hc
   ·rename_i e0; subst e0
    rw[if_pos rfl] at hu
    split at hc
    ·split at hu
     ·cases hc; cases hu; exact hv
     ·cases hu
    ·cases hc
   ·rename_i e0
    rw[if_neg e0] at hu
    exact M.vals j c u hc hu
 | none=>
  cases hj:m.j with
  | some j=>
   simp only[hi,hj] at hm
   subst hm
   obtain ⟨u,h1⟩:=f2 hi j hj
   have hjl:=(List.getElem?_eq_some_iff.1 h1).1
   have hsp:m.hid=m.hid.take j++(m.kv,u)::m.hid.drop (j+1):=by
    have:=List.take_append_drop j m.hid
    rw[List.drop_eq_getElem_cons hjl,(List.getElem?_eq_some_iff.1 h1).2] at this
    exact this.symm
   refine over u (m.ks.zip us++m.hid.take j) (m.hid.drop (j+1)) (by rw[List.append_assoc,←hsp]) _ (m.ks++ [m.kv]) (us++ [uv]) (m.hid.eraseIdx j) (by simp[M.ulen]) (by simp[M.len]) ?_ vapp
   rw[zapp,List.eraseIdx_eq_take_drop_succ,List.append_assoc]
   exact List.perm_middle.symm
  | none=>
   simp only[hi,hj] at hm
   subst hm
   obtain ⟨h3,h4⟩:=M.away (f3 hi hj)
   have:=map_set hI (cs':=m.cs++ [v]) (ks':=m.ks++ [m.kv]) (us':=us++ [uv]) (hid':=m.hid) (es':=es.push {key:=m.kv,val:=uv,born:=clock}) (clock':=clock+1) M.box M.loc M.foot M.heap
    (MapKept.stamped_push M.stamped h4) (by simp[M.ulen]) (by
     rw[zapp]
     simp only[kvs,Array.toList_push,List.map_append,List.map_cons,List.map_nil]
     refine List.Perm.trans ?_ List.perm_middle.symm
     exact (List.perm_append_comm).trans (M.perm.cons _)) (by simp[M.len]) vapp
   refine ⟨_,?_,this.1,this.2⟩
   simp only[Instr.mapUpdate,Sem.run_bind,run_underlying M.ty,Result.andThen_ok,hget,hck,MapKept.run_findKey M.kd h3]
   exact MapKept.run_setObj_map _ M.heap

theorem delete_run {B B':List Box} {ρ:Loc} {w:World} (hI:Inv F B ρ w) {t tk ty:TypeId} {x k:AV} {ux uk:Value} (hx:VRel F B ρ w x ux) (hk:VRel F B ρ w k uk) (hm:deleteA P t B x k=some B'):
  ∃ w',(Builtin.delete_ #[t,tk] ty #[ux,uk]).run P w= .ok (.tuple #[]) w'∧Inv F B' ρ w'∧Ext F B ρ w B' ρ w':=by
 unfold deleteA at hm
 obtain ⟨m,hq,hm⟩:=Option.map_eq_some_iff.1 hm
 obtain ⟨rfl,d,kt,et,k',o,es,clock,us,Φ,rfl,M⟩:=mapAt_is hI hq hx hk
 have hck:∀ e,(Instr.checkKey e 10000 kt m.kv).run P w= .ok () w:=fun e=>MapKept.run_checkKey M.kd (keyB_isKey M.key) e 9999
 have hget:=MapKept.run_getObj_map (P:=P) M.heap
 obtain ⟨f1,f2,f3⟩:=M.find
 have gone:∀ (u:Value) (x y:List (Value×Value)),m.ks.zip us++m.hid=x++(m.kv,u)::y→∀ (cs':List AV) (ks' us':List Value) (hid':List (Value×Value)),us'.length=ks'.length→cs'.length=us'.length →
   x++y=ks'.zip us'++hid'→(∀ (i:Nat) (c:AV) (u:Value),cs'[i]? = some c→us'[i]? = some u→VRel F B ρ w c u) →
   ∃ w',(Builtin.delete_ #[t,tk] ty #[.map (some k'),m.kv]).run P w= .ok (.tuple #[]) w'∧Inv F (B.set m.b (.obj cs' (mapP ks' hid'))) ρ w'∧Ext F B ρ w (B.set m.b (.obj cs' (mapP ks' hid'))) ρ w':=by
  intro u x y hxy cs' ks' us' hid' hl1 hl2 hp hvs
  obtain ⟨i,e,he,hke,_,h3⟩:=M.there (u:=u) (by rw[hxy]; simp)
  have hki:(kvs es)[i]? = some (m.kv,u):=by
   have h4:(kvs es)[i]? = some (e.key,e.val):=by simp[kvs,he]
   rw[h4,hke]; subst_vars; rfl
  obtain ⟨hers,_⟩:=perm_take M.perm hki hxy
  have hi:i<es.size:=(Array.getElem?_eq_some_iff.1 he).1
  have hlst:kvs (es.eraseIdxIfInBounds i)=(kvs es).eraseIdx i:=by
   unfold Array.eraseIdxIfInBounds
   rw[dif_pos hi]
   simp[kvs,eraseIdx_map']
  have:=map_set hI (cs':=cs') (ks':=ks') (us':=us') (hid':=hid') (es':=es.eraseIdxIfInBounds i) (clock':=clock) M.box M.loc M.foot M.heap (MapKept.stamped_erase M.stamped i) hl1 (by rw[hlst,←hp]; exact hers) hl2 hvs
  refine ⟨_,?_,this.1,this.2⟩
  simp only[Builtin.delete_,List.getElem?_toArray,List.getElem?_cons_zero,List.getElem?_cons_succ,Sem.run_bind,run_underlying M.ty,Result.andThen_ok,hget,hck,MapKept.run_findKey M.kd h3]
  rw[MapKept.run_setObj_map _ M.heap]
  rfl
 cases hi:m.i with
 | some i=>
  simp only[hi] at hm
  subst hm
  obtain ⟨c,u,h1,h2,h4,_⟩:=f1 i hi
  have hzi:(m.ks.zip us)[i]? = some (m.kv,u):=by simp[List.getElem?_zip_eq_some,h4,h2]
  have hil:=(List.getElem?_eq_some_iff.1 hzi).1
  have hsp:m.ks.zip us=(m.ks.zip us).take i++(m.kv,u)::(m.ks.zip us).drop (i+1):=by
   have:=List.take_append_drop i (m.ks.zip us)
   rw[List.drop_eq_getElem_cons hil,(List.getElem?_eq_some_iff.1 hzi).2] at this
   exact this.symm
  have hzs:(m.ks.eraseIdx i).zip (us.eraseIdx i)=(m.ks.zip us).eraseIdx i:=by
   rw[List.eraseIdx_eq_take_drop_succ,List.eraseIdx_eq_take_drop_succ,List.eraseIdx_eq_take_drop_succ,List.zip_append (by simp[M.ulen])]
   simp[List.zip_eq_zipWith,List.take_zipWith,List.drop_zipWith]
  refine gone u ((m.ks.zip us).take i) ((m.ks.zip us).drop (i+1)++m.hid) (by rw[←List.cons_append,←List.append_assoc,←hsp]) _ (m.ks.eraseIdx i) (us.eraseIdx i) m.hid (by simp[List.length_eraseIdx,M.ulen]) (by simp[List.length_eraseIdx,M.len]) ?_ (fun j c u hc hu=>?_)
  ·rw[hzs,List.eraseIdx_eq_take_drop_succ,List.append_assoc]
  ·rw[List.getElem?_eraseIdx] at hc hu
   split at hc
   ·rename_i hj; rw[if_pos hj] at hu; exact M.vals _ c u hc hu
   ·rename_i hj; rw[if_neg hj] at hu; exact M.vals _ c u hc hu
 | none=>
  cases hj:m.j with
  | some j=>
   simp only[hi,hj] at hm
   subst hm
   obtain ⟨u,h1⟩:=f2 hi j hj
   have hjl:=(List.getElem?_eq_some_iff.1 h1).1
   have hsp:m.hid=m.hid.take j++(m.kv,u)::m.hid.drop (j+1):=by
    have:=List.take_append_drop j m.hid
    rw[List.drop_eq_getElem_cons hjl,(List.getElem?_eq_some_iff.1 h1).2] at this
    exact this.symm
   refine gone u (m.ks.zip us++m.hid.take j) (m.hid.drop (j+1)) (by rw[List.append_assoc,←hsp]) _ m.ks us (m.hid.eraseIdx j) M.ulen M.len ?_ M.vals
   rw[List.eraseIdx_eq_take_drop_succ,List.append_assoc]
  | none=>
   simp only[hi,hj] at hm
   subst hm
   obtain ⟨h3,_⟩:=M.away (f3 hi hj)
   have:=map_set hI (cs':=m.cs) (ks':=m.ks) (us':=us) (hid':=m.hid) (es':=es) (clock':=clock) M.box M.loc M.foot M.heap M.stamped M.ulen M.perm M.len M.vals
   refine ⟨_,?_,this.1,this.2⟩
   simp only[Builtin.delete_,List.getElem?_toArray,List.getElem?_cons_zero,List.getElem?_cons_succ,Sem.run_bind,run_underlying M.ty,Result.andThen_ok,hget,hck,MapKept.run_findKey M.kd h3]
   rw[MapKept.run_setObj_map _ M.heap]
   rfl

theorem new_obj {B:List Box} {ρ:Loc} {w w':World} (hI:Inv F B ρ w) (Φ:ObjP) (hΦ:Φ.holds [] (fun j=>(2 ^ w.heap.size).testBit j=true) w.heap.size w') (hs:w.heap.size≤w'.heap.size) (ho:w'.os=w.os) (ht:w'.tape=w.tape) (hp:w'.output=w.output)
  (hk:∀ k,k<w.heap.size→w'.heap[k]? = w.heap[k]?):
  Inv F (B++ [.obj [] Φ]) (fun b=>if b=B.length then some (w.heap.size,2 ^ w.heap.size) else ρ b) w'∧Ext F B ρ w (B++ [.obj [] Φ]) (fun b=>if b=B.length then some (w.heap.size,2 ^ w.heap.size) else ρ b) w':=by
 have hl:∀ (l':Nat×Nat) k,some (w.heap.size,2 ^ w.heap.size)=some l'→(Box.obj [] Φ).has l' k→w.heap.size≤k:=by
  intro l' k e h
  cases e
  have h:(2 ^ w.heap.size).testBit k=true:=h
  rw[Nat.testBit_two_pow] at h
  have:=of_decide_eq_true h
  omega
 have hE:=ext_newx (F:=F) (B:=B) (ρ:=ρ) (.obj [] Φ) (some (w.heap.size,2 ^ w.heap.size)) hl hs ho ht hp hk
 exact ⟨hI.newx hE hl hk (fun _ _ _ e=>by cases e) (fun _ _ _ _ e=>by cases e) (fun _ _ e=>by cases e; exact ⟨_,_,[],rfl,hΦ,rfl,fun i c u h=>by simp at h⟩),hE⟩

theorem makeMap_run {B:List Box} {ρ:Loc} {w:World} (hI:Inv F B ρ w) {t kt et:TypeId} (hu:P.underlying t=some (.map kt et)):
  ∃ z w' ρ',(Instr.makeMap t none).run P w= .ok z w'∧Inv F (B++ [.obj [] (mapP [] [])]) ρ' w'∧Ext F B ρ w (B++ [.obj [] (mapP [] [])]) ρ' w'∧VRel F (B++ [.obj [] (mapP [] [])]) ρ' w' (.mp B.length) z:=by
 obtain ⟨h1,h2⟩:=new_obj (w':=w.alloc (.map #[] 0)) hI (mapP [] []) ⟨fun j=>by show (2 ^ w.heap.size).testBit j=true↔_; rw[Nat.testBit_two_pow]; simp[eq_comm],#[],0,heap_alloc_new w _,MapKept.stamped_empty 0,rfl,List.Perm.refl _⟩ (by simp) rfl rfl rfl (fun k hk=>Below.heap_alloc w _ k hk)
 refine ⟨.map (some w.heap.size),w.alloc (.map #[] 0),_,?_,h1,h2, .mp _ _ ⟨by simp,fun cs Φ _=>⟨2 ^ w.heap.size,by simp⟩⟩⟩
 simp[Instr.makeMap]

theorem boundA_inv {B:List Box} {ρ:Loc} {w:World} {most dflt n:Nat} {x:AV} {u:Value} (h:boundA most dflt (some x)=some n) (hv:VRel F B ρ w x u):n≤most∧∃ k,u= .int k (n:Int):=by
 simp only[boundA] at h
 cases hi:intA x with
 | none=>rw[hi] at h; cases h
 | some m=>
  obtain ⟨k,rfl⟩:=intA_some hi
  obtain rfl:=hv.val
  rw[hi] at h
  simp only[Option.bind_some] at h
  split at h
  ·rename_i hc
   cases h
   exact ⟨by omega,k,by rw[Int.toNat_of_nonneg hc.1]⟩
  ·cases h

theorem bounds3_run {B:List Box} {ρ:Loc} {w:World} {len cap m l h:Nat} {lo hi:Option AV} {ulo uhi:Option Value} {k:IntKind} (hm:m≤cap) (hb:boundsA m lo hi=some (l,h)) (his:hi.isSome=true)
  (h1:∀ x,lo=some x→∃ u,ulo=some u∧VRel F B ρ w x u) (h1n:lo=none→ulo=none) (h2:∀ x,hi=some x→∃ u,uhi=some u∧VRel F B ρ w x u) (q:Bool):
  (Instr.sliceBounds q len cap ulo uhi (some (.int k (m:Int)))).run P w= .ok (l,h,m) w∧l≤h∧h≤m:=by
 unfold boundsA at hb
 cases hh:boundA m m hi with
 | none=>rw[hh] at hb; cases hb
 | some h'=>
 rw[hh] at hb
 simp only[Option.bind_some] at hb
 cases hl:boundA h' 0 lo with
 | none=>rw[hl] at hb; cases hb
 | some l'=>
 rw[hl] at hb
 cases hb
 cases hi with
 | none=>cases his
 | some xh=>
 obtain ⟨uh,rfl,hvh⟩:=h2 xh rfl
 obtain ⟨e1,kh,rfl⟩:=boundA_inv hh hvh
 have c1:((m:Int))≤(cap:Int):=by omega
 have c2:((h:Int))≤(m:Int):=by omega
 cases lo with
 | none=>
  cases hl
  rw[h1n rfl]
  exact ⟨by simp[Instr.sliceBounds,Instr.sliceBound,asIntOf,c1,c2,e1,hm],Nat.zero_le _,e1⟩
 | some xl=>
  obtain ⟨ul,rfl,hvl⟩:=h1 xl rfl
  obtain ⟨e2,kl,rfl⟩:=boundA_inv hl hvl
  have c3:((l:Int))≤(h:Int):=by omega
  exact ⟨by simp[Instr.sliceBounds,Instr.sliceBound,asIntOf,c1,c2,c3,e1,e2,hm],e2,e1⟩

theorem trim_run {B B':List Box} {ρ:Loc} {w:World} (hI:Inv F B ρ w) {b ver sz h:Nat} {v:AV} (hm:trimA B b ver sz h=some (v,B')):
  Inv F B' ρ w∧Ext F B ρ w B' ρ w∧∀ (a:Option Addr) (len cap m:Nat),RsOk B ρ w b ver sz 0 len a cap→h≤m→m≤len→VRel F B' ρ w v (.slice a h m):=by
 unfold trimA at hm
 split at hm
 ·rename_i v0 cs hb
  split at hm
  ·rename_i hc
   obtain ⟨rfl,hle⟩:=hc
   cases hm
   have hbl:b<B.length:=(List.getElem?_eq_some_iff.1 hb).1
   have hρ:(fun c=>if c=b then ρ b else ρ c)=ρ:=by funext c; split <;> simp_all
   have hE:=ext_row (F:=F) (w:=w) (w':=w) hb (cs.take (h*sz)) (ρ b) (Nat.le_refl _) rfl rfl rfl (fun _ _ _=>rfl) (fun _ _ _ h=>h) (fun k o hk=> .inr ⟨o,hk⟩) (fun k o hk=>hI.farb b _ _ _ k o hb hk)
   rw[hρ] at hE
   have has:∀ {j:Nat} {x:Box} {l:Nat×Nat} {k:Nat},(B.set b (.cells true (ver+1) (cs.take (h*sz))))[j]? = some x→x.has l k→∃ x0,B[j]? = some x0∧x0.has l k:=by
    intro j x l k h1 h2
    rw[List.getElem?_set] at h1
    split at h1
    ·rename_i e
     subst e
     cases h1
     exact ⟨_,hb,h2⟩
    ·exact ⟨x,h1,h2⟩
   refine ⟨⟨fun j row v' cs' hj=>?_,fun j row v' cs' hj=>?_,fun j cs' Φ hj=>?_,fun j j' x x' l l' k h1 h2 h3 h4 h5 h6=>?_,hI.bound,fun j x l k h1 h2 h3=>?_,fun g hg=>(hI.glob g hg).ext hE,fun j v' cs' k o h1 h2=>?_⟩,hE,fun a len cap m hok hhm hml=>?_⟩
   ·rw[List.getElem?_set] at hj
    split at hj
    ·rename_i e
     subst e
     cases hj
     rcases hI.box _ _ _ _ hb with ⟨h1,h2,h3⟩ | ⟨k,o,us,e,fr,h1,h2,h3,h4,h5⟩
     ·subst h3
      exact .inl ⟨h1,rfl,by simp⟩
     ·refine .inr ⟨k,o,us,e,fr,h1,h2,by rw[List.length_take]; omega,h4,fun i c hc=>?_⟩
      rw[List.getElem?_take] at hc
      split at hc
      ·obtain ⟨u,e1,e2⟩:=h5 i c hc
       exact ⟨u,e1,e2.ext hE⟩
      ·cases hc
    ·rcases hI.box _ _ _ _ hj with h0 | ⟨k,o,us,e,fr,h1,h2,h3,h4,h5⟩
     ·exact .inl h0
     ·exact .inr ⟨k,o,us,e,fr,h1,h2,h3,h4,fun i c hc=>by obtain ⟨u,e1,e2⟩:=h5 i c hc; exact ⟨u,e1,e2.ext hE⟩⟩
   ·rw[List.getElem?_set] at hj
    split at hj
    ·rename_i e
     subst e
     cases hj
     have:=hI.leaf _ _ _ _ hb
     rw[List.all_eq_true] at this ⊢
     exact fun x hx=>this x (List.mem_of_mem_take hx)
    ·exact hI.leaf _ _ _ _ hj
   ·rw[List.getElem?_set] at hj
    split at hj
    ·rename_i e
     subst e
     cases hj
    ·obtain ⟨k,o,us,g1,g2,g3,g4⟩:=hI.obox _ _ _ hj
     exact ⟨k,o,us,g1,g2,g3,fun i c u h1 h2=>(g4 i c u h1 h2).ext hE⟩
   ·obtain ⟨_,g1,p1⟩:=has h1 h5
    obtain ⟨_,g2,p2⟩:=has h2 h6
    exact hI.injx _ _ _ _ _ _ _ g1 g2 h3 h4 p1 p2
   ·obtain ⟨_,g1,p1⟩:=has h1 h3
    exact hI.farx _ _ _ _ g1 h2 p1
   ·rw[List.getElem?_set] at h1
    split at h1
    ·rename_i e
     subst e
     cases h1
    ·exact hI.off0 _ _ _ _ _ h1 h2
   ·obtain ⟨g1,g2,g3,g4⟩:=hok
    refine .rs _ _ _ _ _ a m ⟨by simpa using g1,hhm,fun h0=>g3 (by omega),fun row v' cs' hj=>?_⟩
    rw[List.getElem?_set_self hbl] at hj
    cases hj
    refine ⟨Nat.le_refl _,fun _=>⟨by rw[List.length_take]; omega,?_⟩⟩
    obtain ⟨_,q⟩:=(g4 _ _ _ hb).2 rfl
    rcases q with h0 | ⟨k,o',hr,ha,e',n,hsh,hle'⟩
    ·exact .inl (by omega)
    ·refine .inr ⟨k,o',hr,ha,e',n,hsh,?_⟩
     have:m*sz≤cap*sz:=Nat.mul_le_mul_right _ (by omega)
     omega
  ·cases hm
 ·cases hm

theorem slice3_run {B B':List Box} {ρ:Loc} {w:World} (hI:Inv F B ρ w) {t:TypeId} {x v mx:AV} {lo hi:Option AV} {fresh:Bool} {ux umx:Value} {ulo uhi:Option Value} (hx:VRel F B ρ w x ux) (hmx:VRel F B ρ w mx umx)
  (h1:∀ x,lo=some x→∃ u,ulo=some u∧VRel F B ρ w x u) (h1n:lo=none→ulo=none) (h2:∀ x,hi=some x→∃ u,uhi=some u∧VRel F B ρ w x u) (h2n:hi=none→uhi=none)
  (hm:slice3A P t B x lo hi mx fresh=some (v,B')):∃ z ρ',(Instr.sliceAt t ux ulo uhi (some umx)).run P w= .ok z w∧Inv F B' ρ' w∧Ext F B ρ w B' ρ' w∧VRel F B' ρ' w v z:=by
 unfold slice3A at hm
 split at hm
 ·rename_i e hu
  cases hs:sizeT P e with
  | none=>rw[hs] at hm; cases hm
  | some sz=>
  rw[hs] at hm
  simp only[Option.bind_some] at hm
  have newRow:∀ (a:Option Addr) (len cap:Nat),ux= .slice a len cap→∀ (kl kh km:IntKind),(lo=none∨lo=some (.p (.v (.int kl 0))))→hi=some (.p (.v (.int kh 0)))→mx= .p (.v (.int km 0))→v= .rs B.length 0 sz 0 0→B'=B++ [.cells true 0 []] →
    ∃ z ρ',(Instr.sliceAt t ux ulo uhi (some umx)).run P w= .ok z w∧Inv F B' ρ' w∧Ext F B ρ w B' ρ' w∧VRel F B' ρ' w v z:=by
   intro a len cap hux kl kh km hlo hhi hmx' hv hB
   subst hux hhi hmx' hv hB
   obtain ⟨g1,g2⟩:=new_nil hI
   obtain rfl:=hmx.val
   have hb:boundsA 0 lo (some (.p (.v (.int kh 0))))=some (0,0):=by
    rcases hlo with rfl | rfl <;> simp[boundsA,boundA,intA]
   obtain ⟨e1,_,_⟩:=bounds3_run (P:=P) (len:=len) (cap:=cap) (k:=km) (Nat.zero_le _) hb rfl h1 h1n h2 true
   refine ⟨.slice a 0 0,_,?_,g1,g2, .rs _ _ _ _ _ a 0 ⟨by simp,Nat.le_refl _,fun h=>absurd h (by omega),fun row v cs hc=>?_⟩⟩
   ·simp at e1
    simp[Instr.sliceAt,Instr.slice,run_underlying hu,e1,sizeOf_run w hs]
   ·simp at hc
    obtain ⟨rfl,rfl,rfl⟩:=hc
    exact ⟨Nat.le_refl _,fun _=>⟨by simp, .inl rfl⟩⟩
  split at hm
  ·obtain rfl:=hx.val
   cases hmi:intA mx with
   | none=>rw[hmi] at hm; cases hm
   | some m=>
   rw[hmi] at hm
   simp only[Option.bind_some] at hm
   cases hb:boundsA 0 lo hi with
   | none=>rw[hb] at hm; cases hm
   | some q=>
   rw[hb] at hm
   simp only[Option.bind_some] at hm
   split at hm
   ·rename_i h0
    obtain ⟨h0,his⟩:=h0
    subst h0
    cases hm
    obtain ⟨l,h⟩:=q
    obtain ⟨km,rfl⟩:=intA_some hmi
    obtain rfl:=hmx.val
    obtain ⟨e1,e2,e3⟩:=bounds3_run (P:=P) (len:=0) (cap:=0) (k:=km) (Nat.zero_le _) hb his h1 h1n h2 true
    have hh0:h=0:=by omega
    have hl0:l=0:=by omega
    subst hh0
    subst hl0
    simp at e1
    exact ⟨.slice none 0 0,ρ,by simp[Instr.sliceAt,Instr.slice,run_underlying hu,e1,sizeOf_run w hs],hI, .refl _ _ _, .p _ _ (.v _)⟩
   ·cases hm
  ·rename_i b ver sz' off len
   split at hm
   ·split at hm
    ·cases hm
     cases hx with
     | rs _ _ _ _ _ a cap hok=>exact newRow a len cap rfl .i64 _ _ (.inl rfl) rfl rfl rfl rfl
    ·cases hm
     cases hx with
     | rs _ _ _ _ _ a cap hok=>exact newRow a len cap rfl _ _ _ (.inr rfl) rfl rfl rfl rfl
    ·cases hm
   ·cases hmi:intA mx with
    | none=>rw[hmi] at hm; cases hm
    | some m=>
    rw[hmi] at hm
    simp only[Option.bind_some] at hm
    split at hm
    ·rename_i hc
     cases hb:boundsA m.toNat lo hi with
     | none=>rw[hb] at hm; cases hm
     | some q=>
     obtain ⟨l,h⟩:=q
     rw[hb] at hm
     simp only[Option.bind_some] at hm
     split at hm
     ·rename_i hc2
      simp only[Bool.and_eq_true,beq_iff_eq] at hc2
      obtain ⟨rfl,his⟩:=hc2
      obtain ⟨km,rfl⟩:=intA_some hmi
      obtain rfl:=hmx.val
      split at hm
      ·rename_i htr
       simp only[Bool.and_eq_true,beq_iff_eq,Option.isNone_iff_eq_none] at htr
       obtain ⟨rfl,rfl⟩:=htr
       cases hx with
       | rs _ _ _ _ _ a cap hok=>
        obtain ⟨e1,e2,e3⟩:=bounds3_run (P:=P) (len:=len) (cap:=cap) (k:=km) (m:=m.toNat) (by have:=hok.2.1; omega) hb his h1 h1n h2 true
        have hmn:m=((m.toNat:Nat):Int):=by omega
        rw[←hmn] at e1
        obtain ⟨q1,q2,q3⟩:=trim_run hI hm
        have hl0:l=0:=by
         unfold boundsA at hb
         cases hq:boundA m.toNat m.toNat hi with
         | none=>rw[hq] at hb; cases hb
         | some h'=>rw[hq] at hb; simp[boundA] at hb; omega
        subst hl0
        refine ⟨.slice a h m.toNat,ρ,?_,q1,q2,q3 a len cap m.toNat hok (by omega) (by omega)⟩
        simp[Instr.sliceAt,Instr.slice,run_underlying hu,e1,sizeOf_run w hs]
        intro hz
        cases a with
        | none=>rfl
        | some a=>simp[Addr.add]
      cases hm
      have hmn:m=((m.toNat:Nat):Int):=by omega
      cases hx with
      | rs _ _ _ _ _ a cap hok=>
       obtain ⟨g1,g2,g3,g4⟩:=hok
       obtain ⟨e1,e2,e3⟩:=bounds3_run (P:=P) (len:=len) (cap:=cap) (k:=km) (m:=m.toNat) (by omega) hb his h1 h1n h2 true
       rw[←hmn] at e1
       refine ⟨.slice (if m.toNat=l then a else a.map (·.add (l*sz))) (h - l) (m.toNat - l),ρ,by simp[Instr.sliceAt,Instr.slice,run_underlying hu,e1,sizeOf_run w hs],hI, .refl _ _ _, .rs _ _ _ _ _ _ _ ⟨g1,by omega,fun h0=>?_,fun row v cs hb'=>?_⟩⟩
       ·rw[if_neg (by omega)]
        have:=g3 (by omega)
        cases a with
        | none=>cases this
        | some a=>rfl
       ·obtain ⟨q1,q2⟩:=g4 row v cs hb'
        refine ⟨q1,fun hv=>?_⟩
        obtain ⟨q3,q4⟩:=q2 hv
        have hmul:h*sz≤len*sz:=Nat.mul_le_mul_right _ (by omega)
        have hmul2:l*sz≤h*sz:=Nat.mul_le_mul_right _ e2
        refine ⟨by rw[Nat.sub_mul]; omega,?_⟩
        by_cases hz:m.toNat=l
        ·exact .inl (by omega)
        ·rw[if_neg hz]
         rcases q4 with h0 | ⟨k,o',hr,ha,e',n,hsh,hle⟩
         ·exact .inl (by omega)
         ·subst ha
          refine .inr ⟨k,o',hr,?_,e',n,hsh,?_⟩
          ·simp only[Option.map_some,Addr.add_lit]
           rw[show o'+off+l*sz=o'+(off+l*sz) by omega]
          ·have h5:m.toNat*sz≤cap*sz:=Nat.mul_le_mul_right _ (by omega)
           have h6:l*sz≤m.toNat*sz:=Nat.mul_le_mul_right _ (by omega)
           rw[Nat.sub_mul]; omega
     ·cases hm
    ·cases hm
  ·rename_i xs
   split at hm
   ·have hsl:∃ a len cap,ux= .slice a len cap:=by
     cases hx with
     | p _ _ hp=>cases hp with
      | nil a cap _=>exact ⟨a,0,cap,rfl⟩
      | ls xs a cap _ _ _ _ _ _ _ _=>exact ⟨some a,_,cap,rfl⟩
    obtain ⟨a,len,cap,hux⟩:=hsl
    split at hm
    ·cases hm
     exact newRow a len cap hux .i64 _ _ (.inl rfl) rfl rfl rfl rfl
    ·cases hm
     exact newRow a len cap hux _ _ _ (.inr rfl) rfl rfl rfl rfl
    ·cases hm
   ·cases hm
  ·cases hm
 ·cases hm

end Go.Ax
