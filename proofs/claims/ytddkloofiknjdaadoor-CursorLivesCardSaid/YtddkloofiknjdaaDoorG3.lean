/- Any operation: what it does in a world is what the second reading says. -/
import Derived.Test.YtddkloofiknjdaaDoorG2
set_option linter.unusedVariables false
set_option linter.unusedSimpArgs false
set_option linter.unusedSectionVars false
namespace Go.Ax
open Go.RowKit

variable [Glob] {P : Program} {F : Nat → Prop}

theorem lq {B:List Box} {ρ:Aj} {w:World} {ts:Array TypeId} {ty t:TypeId} {x v:AV} {ux:Value} (ht:ts[0]? = some t) (hx:VRel F B ρ w x ux) (hm:aK P t x=some v):
  ∃ z,(Builtin.len_ ts ty #[ux]).run P w= .ok z w∧VRel F B ρ w v z:=by
 unfold aK at hm
 split at hm
 ·rename_i s hu
  obtain rfl:=hx.val
  cases hm
  exact ⟨_,by simp[Builtin.len_,ht,run_underlying hu,goInt], .p _ _ (.v _)⟩
 ·rename_i e xs hu
  cases hm
  rcases ls_inv hx with ⟨a,cap,rfl,rfl,_⟩ | ⟨a,cap,us,rfl,_⟩
  ·exact ⟨_,by simp[Builtin.len_,ht,run_underlying hu,goInt], .p _ _ (.v _)⟩
  ·exact ⟨_,by simp[Builtin.len_,ht,run_underlying hu,goInt], .p _ _ (.v _)⟩
 ·rename_i e a n c hu
  obtain rfl:=hx.val
  cases hm
  exact ⟨_,by simp[Builtin.len_,ht,run_underlying hu,goInt], .p _ _ (.v _)⟩
 ·rename_i e b ver sz off len hu
  cases hm
  cases hx with
  | rs _ _ _ _ _ a cap hok=>exact ⟨_,by simp[Builtin.len_,ht,run_underlying hu,goInt], .p _ _ (.v _)⟩
 ·rename_i n e hu
  cases hm
  exact ⟨_,by simp[Builtin.len_,ht,run_underlying hu,goInt], .p _ _ (.v _)⟩
 ·cases hm

theorem g9 {B:List Box} {ρ:Aj} {w:World} {x y v:AV} {ux uy:Value} (hx:VRel F B ρ w x ux) (hy:VRel F B ρ w y uy) (hm:HR true x y=some v):∃ z,(Builtin.min2 ux uy).run P w= .ok z w∧VRel F B ρ w v z:=by
 unfold HR at hm
 split at hm
 ·obtain rfl:=hx.val
  obtain rfl:=hy.val
  split at hm
  ·cases hm; exact ⟨_,rfl, .p _ _ (.v _)⟩
  ·cases hm
 ·obtain rfl:=hx.val
  obtain rfl:=hy.val
  cases hm
  exact ⟨_,by simp[Builtin.min2,Op.stringOp,asBool], .p _ _ (.v _)⟩
 ·cases hm

theorem hJ {B:List Box} {ρ:Aj} {w:World} {x y v:AV} {ux uy:Value} (hx:VRel F B ρ w x ux) (hy:VRel F B ρ w y uy) (hm:HR false x y=some v):∃ z,(Builtin.max2 ux uy).run P w= .ok z w∧VRel F B ρ w v z:=by
 unfold HR at hm
 split at hm
 ·obtain rfl:=hx.val
  obtain rfl:=hy.val
  split at hm
  ·cases hm; exact ⟨_,rfl, .p _ _ (.v _)⟩
  ·cases hm
 ·obtain rfl:=hx.val
  obtain rfl:=hy.val
  cases hm
  exact ⟨_,by simp[Builtin.max2,Op.stringOp,asBool], .p _ _ (.v _)⟩
 ·cases hm

theorem VT {B:List Box} {ρ:Aj} {w:World}:∀ (ys:List AV) (us:List Value) (x v:AV) (ux:Value),VRel F B ρ w x ux→ys.length=us.length →
  (∀ (j:Nat) (p:AV) (u:Value),ys[j]? = some p→us[j]? = some u→VRel F B ρ w p u)→Fv true x ys=some v→∃ z,(us.foldlM Builtin.min2 ux).run P w= .ok z w∧VRel F B ρ w v z
 | [],us,x,v,ux,hx,hl,_,hm=>by
  cases us with
  | cons=>simp at hl
  | nil=>cases hm; exact ⟨ux,rfl,hx⟩
 | y::ys,us,x,v,ux,hx,hl,hr,hm=>by
  cases us with
  | nil=>simp at hl
  | cons u us=>
   simp only[Fv] at hm
   cases hz:HR true x y with
   | none=>rw[hz] at hm; cases hm
   | some q=>
    rw[hz] at hm
    obtain ⟨z,e1,e2⟩:=g9 (P:=P) hx (hr 0 y u rfl rfl) hz
    obtain ⟨z2,e3,e4⟩:=VT ys us q v z e2 (by simpa using hl) (fun j p u h1 h2=>hr (j+1) p u (by simpa using h1) (by simpa using h2)) hm
    exact ⟨z2,by rw[List.foldlM_cons,Sem.run_bind,e1]; exact e3,e4⟩

theorem VU {B:List Box} {ρ:Aj} {w:World}:∀ (ys:List AV) (us:List Value) (x v:AV) (ux:Value),VRel F B ρ w x ux→ys.length=us.length →
  (∀ (j:Nat) (p:AV) (u:Value),ys[j]? = some p→us[j]? = some u→VRel F B ρ w p u)→Fv false x ys=some v→∃ z,(us.foldlM Builtin.max2 ux).run P w= .ok z w∧VRel F B ρ w v z
 | [],us,x,v,ux,hx,hl,_,hm=>by
  cases us with
  | cons=>simp at hl
  | nil=>cases hm; exact ⟨ux,rfl,hx⟩
 | y::ys,us,x,v,ux,hx,hl,hr,hm=>by
  cases us with
  | nil=>simp at hl
  | cons u us=>
   simp only[Fv] at hm
   cases hz:HR false x y with
   | none=>rw[hz] at hm; cases hm
   | some q=>
    rw[hz] at hm
    obtain ⟨z,e1,e2⟩:=hJ (P:=P) hx (hr 0 y u rfl rfl) hz
    obtain ⟨z2,e3,e4⟩:=VU ys us q v z e2 (by simpa using hl) (fun j p u h1 h2=>hr (j+1) p u (by simpa using h1) (by simpa using h2)) hm
    exact ⟨z2,by rw[List.foldlM_cons,Sem.run_bind,e1]; exact e3,e4⟩

theorem Pf:∀ (cs:List AV) (us:List Value) (bs:List UInt8) {B:List Box} {ρ:Aj} {w:World},cs.length=us.length→(∀ (j:Nat) (p:AV) (u:Value),cs[j]? = some p→us[j]? = some u→VRel F B ρ w p u)→C0 cs=some bs →
  ∃ ns:List Int,us=ns.map (Value.int .u8)∧bs=ns.map fun n=>UInt8.ofNat n.toNat
 | [],us,bs,_,_,_,hl,_,hm=>by
  cases us with
  | cons=>simp at hl
  | nil=>cases hm; exact ⟨[],rfl,rfl⟩
 | c::cs,us,bs,B,ρ,w,hl,hr,hm=>by
  cases us with
  | nil=>simp at hl
  | cons u us=>
   unfold C0 at hm
   split at hm
   ·rename_i h; cases h
   ·rename_i n r h
    cases h
    cases hb:C0 cs with
    | none=>rw[hb] at hm; cases hm
    | some bs'=>
     rw[hb] at hm
     cases hm
     obtain ⟨ns,e1,e2⟩:=Pf cs us bs' (by simpa using hl) (fun j p u h1 h2=>hr (j+1) p u (by simpa using h1) (by simpa using h2)) hb
     obtain rfl:=(hr 0 _ u rfl rfl).val
     exact ⟨n::ns,by simp[e1],by simp[e2]⟩
   ·cases hm

theorem dX (ns:List Int):∀ (s:ByteArray),ns.foldl (fun r n=>r.push (UInt8.ofNat n.toNat)) s=⟨(s.data.toList++ns.map fun n=>UInt8.ofNat n.toNat).toArray⟩:=by
 induction ns with
 | nil=>intro s; simp
 | cons n ns ih=>
  intro s
  rw[List.foldl_cons,ih]
  congr 1
  apply Array.ext'
  simp[ByteArray.push]

theorem tH (w:World) (e:TypeId) (s:ByteArray):(Lib.bytesWorld w e s).os=w.os:=by
 unfold Lib.bytesWorld World.freeze; split <;> rfl
theorem lr (w:World) (e:TypeId) (s:ByteArray):(Lib.bytesWorld w e s).tape=w.tape:=by
 unfold Lib.bytesWorld World.freeze; split <;> rfl
theorem dY (w:World) (e:TypeId) (s:ByteArray):(Lib.bytesWorld w e s).output=w.output:=by
 unfold Lib.bytesWorld World.freeze; split <;> rfl

theorem dZ {w:World} {k n:Nat} {us:Array Value} {e:TypeId} {fr:Nat×Nat} (h:w.heap[k]? = some (.cells us e fr)):
  (w.freeze ⟨k,n,none⟩ 1).heap[k]? = some (.cells us e (if fr.1 == fr.2 then (n,n+1) else (min fr.1 n,max fr.2 (n+1))))∧(∀ j,j≠k→(w.freeze ⟨k,n,none⟩ 1).heap[j]? = w.heap[j]?)∧(w.freeze ⟨k,n,none⟩ 1).heap.size=w.heap.size ∧
  (w.freeze ⟨k,n,none⟩ 1).os=w.os∧(w.freeze ⟨k,n,none⟩ 1).tape=w.tape∧(w.freeze ⟨k,n,none⟩ 1).output=w.output:=by
 obtain ⟨lo,hi⟩:=fr
 unfold World.freeze
 rw[if_neg (by decide)]
 refine ⟨?_,fun j hj=>?_,by simp,rfl,rfl,rfl⟩
 ·simp only[Array.getElem?_modify,if_true,h,Option.map_some]
 ·simp only[Array.getElem?_modify]
  rw[if_neg (fun e=>hj e.symm)]

theorem YB {B B':List Box} {ρ:Aj} {w:World} (hI:Inv F B ρ w) {src dst:TypeId} {x v:AV} {ux:Value} (hx:VRel F B ρ w x ux) (hm:E2 P src dst B x=some (v,B')):
  ∃ z w' ρ',(convert src dst ux).run P w= .ok z w'∧Inv F B' ρ' w'∧Ext F B ρ w B' ρ' w'∧VRel F B' ρ' w' v z:=by
 unfold E2 at hm
 split at hm
 ·rename_i d k n hs hd
  obtain rfl:=hx.val
  cases hm
  exact ⟨_,w,ρ,by simp[convert,run_underlying hs,run_underlying hd,Conv.intToInt],hI, .refl _ _ _, .p _ _ (.v _)⟩
 ·rename_i d s hs hd
  obtain rfl:=hx.val
  cases hm
  exact ⟨_,w,ρ,by simp[convert,run_underlying hs,run_underlying hd],hI, .refl _ _ _, .p _ _ (.v _)⟩
 ·rename_i e s hs hd
  obtain rfl:=hx.val
  split at hm
  ·rename_i he
   cases hm
   have hr:=Lib.run_convert_string_bytes (P:=P) w src dst e s hs hd he
   have hlen:s.size≤grownCap w s.size 0 e:=grownCap_ge w s.size 0 e
   have hcs:(Lib.bytesCells w e s).size=grownCap w s.size 0 e:=by
    have hds:s.data.size=s.size:=rfl
    simp[Lib.bytesCells,hds]; omega
   have hal:(s.data.toList.map KC).length=s.size:=by rw[List.length_map,Array.length_toList]; rfl
   obtain ⟨g1,g2⟩:=VR (w':=Lib.bytesWorld w e s) (us:=Lib.bytesCells w e s) (e:=e) (fr:=((Lib.bytesCells w e s).size,(Lib.bytesCells w e s).size+1)) (cs:=s.data.toList.map KC) hI true (List.all_eq_true.2 (fun q hq=>by obtain ⟨b,_,rfl⟩:=List.mem_map.1 hq; rfl))
    (by rw[hal,hcs]; exact hlen) (fun i c hc=>by
     rw[List.getElem?_map] at hc
     cases hq:s.data.toList[i]? with
     | none=>rw[hq] at hc; cases hc
     | some b=>
      rw[hq] at hc
      cases hc
      refine ⟨.int .u8 b.toNat,?_, .p _ _ (.v _)⟩
      have hi:i<s.data.size:=by simpa using (List.getElem?_eq_some_iff.1 hq).1
      rw[Lib.bytesCells,Array.getElem?_append_left (by simpa using hi)]
      have:s.data[i]? = some b:=by simpa using hq
      simp[this]) ⟨by omega,fun i h1 h2=>by omega⟩ (fun k hk=>Lib.bytesWorld_at_old w e s k hk) (Lib.bytesWorld_at_new w e s) (tH w e s) (lr w e s) (dY w e s)
   refine ⟨_,_,_,hr,g1,g2, .rs _ _ _ _ _ _ _ ⟨by simp,hlen,fun _=>rfl,fun row v cs' h=>?_⟩⟩
   simp at h
   obtain ⟨rfl,rfl,rfl⟩:=h
   refine ⟨Nat.le_refl _,fun _=>⟨by rw[hal]; omega, .inr ⟨w.heap.size,0,by simp,rfl,e,(Lib.bytesCells w e s).size,?_,by omega⟩⟩⟩
   unfold World.shape?
   rw[Lib.bytesWorld_at_new]
  ·cases hm
 ·rename_i e0 e b ver sz off len hs hd
  split at hm
  ·rename_i row v0 cs he hb
   split at hm
   ·rename_i hc
    cases hm
    simp only[Bool.and_eq_true,Nat.blt_eq] at hc
    obtain ⟨⟨hsd,hl⟩,hv⟩:=hc
    have hv:=Nat.eq_of_beq_eq_true hv
    have hsd:=Nat.eq_of_beq_eq_true hsd
    subst hv
    subst hsd
    cases hx with
    | rs _ _ _ _ _ a cap hok=>
     obtain ⟨g1,g2,g3,g4⟩:=hok
     obtain ⟨_,g5⟩:=g4 _ _ _ hb
     obtain ⟨g6,g7⟩:=g5 rfl
     rcases g7 with h0 | ⟨k,o',hr,ha,e',m,hsh,hle⟩
     ·omega
     ·subst ha
      obtain ⟨us,e2,fr,q1,q2,q3,q4⟩:=hI.cell hb hr
      have hsh2:w.shape? k=some (e2,us.size):=by unfold World.shape?; rw[q1]
      obtain ⟨f1,f2,f3,f4,f5,f6⟩:=dZ (n:=us.size) q1
      have hset:B.set b (.cells row ver cs)=B:=by
       apply List.ext_getElem?
       intro j
       rw[List.getElem?_set]
       split
       ·rename_i e; subst e; exact hb.symm
       ·rfl
      have hE:Ext F B ρ w B ρ (w.freeze ⟨k,us.size,none⟩ 1):=by
       refine ⟨Nat.le_of_eq f3.symm,f4,f5,f6,fun j hj ho=>⟨f2 j (fun e=>ho (e▸ .cells hb hr)),ho⟩,fun j e n hj=>?_,Nat.le_refl _,fun _ _ v cs _ h=>⟨v,cs,h,Nat.le_refl _,fun _=>⟨rfl,rfl⟩⟩,fun _ cs Φ _ h=>⟨cs,Φ,h,rfl⟩,fun j hj _=>f2 j (fun e=>hI.farb _ _ _ _ _ _ hb hr (e▸hj))⟩
       by_cases ejk:j=k
       ·subst ejk
        unfold World.shape? at hj ⊢
        rw[q1] at hj
        rw[f1]
        exact hj
       ·unfold World.shape? at hj ⊢
        rw[f2 j ejk]
        exact hj
      refine ⟨.slice (some ⟨k,o'+off,none⟩) len cap,w.freeze ⟨k,us.size,none⟩ 1,ρ,?_,?_,hE,(VRel.rs _ _ _ _ _ _ _ ⟨g1,g2,g3,g4⟩).ext hE⟩
      ·have hmk:(markStringish ⟨k,o'+off,none⟩).run P w= .ok () (w.freeze ⟨k,us.size,none⟩ 1):=by
        simp[markStringish,hsh2]
       have hee:e0=e:=by rw[hs] at hd; cases hd; rfl
       subst hee
       simp[convert,run_underlying hs,run_underlying he,hmk]
      ·have:=hI.other (row':=row) (v':=ver) (cs':=cs) (ρ':=ρ) (w':=w.freeze ⟨k,us.size,none⟩ 1) hb (by rw[hset]; exact hE) (fun _ _=>rfl) (hI.leaf _ _ _ _ hb) (fun c x l j hne hc hl hx=>f2 j (fun e=>hne (hI.injx _ _ _ _ _ _ k hc hb hl hr (e▸hx) rfl)))
        (fun c x l j o3 hne hc hl hx hk'=>hne (hI.injx _ _ _ _ _ (j,o3) j hc hb hl hk' hx rfl)) (fun k2 o2 h2=>hI.farb _ _ _ _ _ _ hb h2) (fun k2 o2 h0 h2=>by subst h0; exact hI.off0 _ _ _ _ _ hb h2) (.inr ⟨k,o',us,e2,_,hr,f1,q2,?_,fun i c hc=>?_⟩)
       ·rw[hset] at this
        exact this
       ·obtain ⟨z1,z2⟩:=q3
        obtain ⟨lo,hi⟩:=fr
        simp only at z1 z2 ⊢
        by_cases e:lo=hi
        ·subst e
         simp only[beq_self_eq_true,if_true]
         exact ⟨by omega,fun i h1 h2=>by omega⟩
        ·have e':(lo == hi)=false:=by simpa using e
         rw[e']
         simp only[Bool.false_eq_true,if_false]
         have:us.size≤lo:=by
          rcases Nat.lt_or_ge lo us.size with h | h
          ·exact absurd ⟨Nat.le_refl _,by omega⟩ (z2 lo h)
          ·exact h
         exact ⟨by simp only; omega,fun i h1 h2=>by simp only at h2; omega⟩
       ·obtain ⟨u,e1,e3⟩:=q4 i c hc
        rw[hset]
        exact ⟨u,e1,e3.ext hE⟩
   ·cases hm
  ·cases hm
 ·rename_i x0 _ _ y e hs hd hno
  split at hm
  ·rename_i he
   split at hm
   ·cases hm
    obtain rfl:=hx.val
    rename_i n c
    refine ⟨.string .empty,w,ρ,?_,hI, .refl _ _ _, .p _ _ (.v _)⟩
    rw[run_convert_bytes_string w src dst e _ _ _ hs he hd]
    rfl
   ·rename_i hnn
    cases hsr:E1 P src B 1 x0 with
    | none=>rw[hsr] at hm; cases hm
    | some q=>
    obtain ⟨n,cs⟩:=q
    rw[hsr] at hm
    simp only[Option.bind_some] at hm
    cases hb:C0 cs with
    | none=>rw[hb] at hm; cases hm
    | some bs=>
    rw[hb] at hm
    cases hm
    have hlf:cs.all AV.leaf=true:=by
     clear hsr hI hx
     induction cs generalizing bs with
     | nil=>rfl
     | cons c cs ih=>
      unfold C0 at hb
      split at hb
      ·rename_i h; cases h
      ·rename_i m r h
       cases h
       cases hb':C0 cs with
       | none=>rw[hb'] at hb; cases hb
       | some b2=>rw[List.all_cons,ih b2 hb']; rfl
      ·cases hb
    have hlen:cs.length=n*1:=by
     unfold E1 at hsr
     split at hsr
     ·cases hsr; rfl
     ·split at hsr
      ·rename_i hall
       cases hsr
       rw[List.all_eq_true] at hall
       rw[List.length_map,Hq _ 1 (fun y hy=>by simpa using hall y hy)]
      ·cases hsr
     ·split at hsr
      ·rename_i row vv cs0 hb0
       split at hsr
       ·rename_i hc
        simp only[Bool.and_eq_true,beq_iff_eq] at hc
        obtain ⟨hv,rfl⟩:=hc
        have hv':=Nat.eq_of_beq_eq_true hv
        subst hv'
        cases hsr
        cases hx with
        | rs _ _ _ _ _ a cap hok=>
         have:=((hok.2.2.2 _ _ _ hb0).2 rfl).1
         simp; omega
       ·cases hsr
      ·cases hsr
     ·rename_i s hu
      rw[hs] at hu
      cases hu
     ·cases hsr
    obtain ⟨us,hsrc,hcr⟩:=ZA (P:=P) hI hx hsr hlf hlen
    obtain ⟨ns,e1,e2⟩:=Pf cs us bs hcr.1 (fun j p u h1 h2=>hcr.2 j p u h1 (by simpa using h2)) hb
    have hul:us.length=n:=by have:=hsrc.newsLen; omega
    have hall:∀ (a:Addr) (len c:Nat),ux= .slice (some a) len c→(convert src dst ux).run P w= .ok (.string ⟨bs.toArray⟩) w:=by
     intro a len c hux
     subst hux
     have hfc:=hsrc.cells
     have hln:=hsrc.len w
     simp only[Builtin.lenOf,Sem.run_pure,Result.ok.injEq,and_true] at hln
     subst hln
     simp only[Builtin.firstCells,Nat.mul_one] at hfc
     rw[e1] at hfc
     rw[run_convert_bytes_string w src dst e _ _ _ hs he hd,run_bytesToString w a len c ns hfc,dX,e2]
     rfl
    have hnil:∀ (c:Nat),ux= .slice none 0 c→bs= []→(convert src dst ux).run P w= .ok (.string ⟨bs.toArray⟩) w:=by
     intro c hux hbs
     subst hux
     subst hbs
     rw[run_convert_bytes_string w src dst e _ _ _ hs he hd]
     rfl
    refine ⟨.string ⟨bs.toArray⟩,w,ρ,?_,hI, .refl _ _ _, .p _ _ (.v _)⟩
    have hnb:n=0→bs= []:=fun h0=>by
     have:ns= []:=by
      have hh:us.length=ns.length:=by rw[e1]; simp
      exact List.eq_nil_of_length_eq_zero (by omega)
     rw[e2,this]; rfl
    unfold E1 at hsr
    split at hsr
    ·rename_i hu; obtain rfl:=hx.val; exact absurd rfl (hnn _ _)
    ·split at hsr
     ·cases hsr
      rcases ls_inv hx with ⟨a,cap,rfl,rfl,_⟩ | ⟨a,cap,us',rfl,_⟩
      ·cases a with
       | none=>exact hnil cap rfl (hnb rfl)
       | some a=>exact hall a _ cap rfl
      ·exact hall a _ cap rfl
     ·cases hsr
    ·split at hsr
     ·split at hsr
      ·cases hsr
       cases hx with
       | rs _ _ _ _ _ a cap hok=>
        cases a with
        | some a=>exact hall a _ cap rfl
        | none=>
         have hc0:cap=0:=by
          rcases Nat.eq_zero_or_pos cap with h | h
          ·exact h
          ·have:=hok.2.2.1 h; simp at this
         have hl0:=hok.2.1
         have hn0:n=0:=by omega
         subst hn0
         exact hnil cap rfl (hnb rfl)
      ·cases hsr
     ·cases hsr
    ·rename_i s hu
     rw[hs] at hu
     cases hu
    ·cases hsr
  ·cases hm
 ·cases hm

end Go.Ax
namespace Go.Ax
open Go.RowKit

variable [Glob] {P : Program} {F : Nat → Prop}

theorem My {α β:Type} (f:α→β):∀ (l:List α) (i:Nat),(l.eraseIdx i).map f=(l.map f).eraseIdx i
 | [],i=>by simp
 | a::l,0=>rfl
 | a::l,i+1=>by simp[My f l i]

theorem keyB_isKey {d:TypeDesc} {k:Value} (h:HQ d k=true):MapKept.IsKey d k:=by
 unfold HQ at h
 split at h
 ·trivial
 ·simpa [MapKept.IsKey] using h
 ·trivial
 ·cases h

theorem Jf {d:TypeDesc} {k x:Value} (hk:HQ d k=true) (hx:HQ d x=true):F6 d k x=true↔x=k:=by
 obtain ⟨r,hr,hiff⟩:=MapKept.sameNow_of_keys (keyB_isKey hk) (keyB_isKey hx)
 unfold F6
 rw[hr]
 cases r with
 | true=>simp[hiff.1 rfl]
 | false=>
  simp only[Bool.false_eq_true,false_iff]
  intro e
  have:=hiff.2 e.symm
  cases this

theorem VV {d:TypeDesc} {k:Value} (hk:HQ d k=true) (n:Nat):Instr.sameBits n k k=true:=by
 unfold HQ at hk
 split at hk
 ·cases n <;> simp[Instr.sameBits]
 ·cases n <;> simp[Instr.sameBits]
 ·rename_i s
  have:=(MapKept.bytes_beq s s).2 rfl
  cases n <;> exact this
 ·cases hk

abbrev Jg (es:Array MapEntry):List (Value×Value):=es.toList.map fun e=>(e.key,e.val)

structure MapIs (F:Nat→Prop) (B:List Box) (ρ:Aj) (w:World) (P:Program) (t:TypeId) (m:MapA) (d:TypeDesc) (kt et:TypeId) (k o:Nat) (es:Array MapEntry) (clock:Nat) (us:List Value) (Φ:ObjP):Prop where
 ty:P.underlying t=some (.map kt et)
 kd:P.underlying kt=some d
 box:B[m.b]? = some (.obj m.cs Φ)
 loc:ρ m.b=some (k,o)
 foot:∀ j,o.testBit j=true↔j=k
 heap:w.heap[k]? = some (.map es clock)
 stamped:MapKept.Stamped es clock
 ulen:us.length=m.ks.length
 perm:(Jg es).Perm (m.ks.zip us++m.hid)
 len:m.cs.length=us.length
 vals:∀ (i:Nat) (c:AV) (u:Value),m.cs[i]? = some c→us[i]? = some u→VRel F B ρ w c u
 key:HQ d m.kv=true
 keyks:∀ x∈m.ks,HQ d x=true
 keyhid:∀ x∈m.hid,HQ d x.1=true
 fi:m.i=m.ks.findIdx? (F6 d m.kv)
 fj:m.j=m.hid.findIdx? fun h=>F6 d m.kv h.1

theorem P9 {B:List Box} {ρ:Aj} {w:World} (hI:Inv F B ρ w) {t:TypeId} {x k:AV} {m:MapA} (h:KB P t B x k=some m) {ux uk:Value} (hx:VRel F B ρ w x ux) (hk:VRel F B ρ w k uk):
  uk=m.kv∧∃ d kt et k' o es clock us Φ,ux= .map (some k')∧MapIs F B ρ w P t m d kt et k' o es clock us Φ:=by
 unfold KB at h
 split at h
 ·rename_i kt et b' kv' hu
  split at h
  ·rename_i d cs' Φ hd hb
   split at h
   ·rename_i ks hid hks
    split at h
    ·rename_i hkey
     cases h
     simp only[Bool.and_eq_true,List.all_eq_true] at hkey
     obtain ⟨⟨hk1,hk2⟩,hk3⟩:=hkey
     refine ⟨hk.val,?_⟩
     cases hx with
     | mp _ r0 hp=>
      obtain ⟨k',o,us,g1,g2,g3,g4⟩:=hI.obox _ _ _ hb
      obtain ⟨o2,e2⟩:=hp.2 _ _ hb
      rw[g1] at e2
      cases e2
      rw[Φ.isMap _ hks] at g2
      obtain ⟨f1,es,clock,f2,f3,f4,f5⟩:=g2
      exact ⟨d,kt,et,r0,o,es,clock,us,Φ,rfl,hu,hd,hb,g1,f1,f2,f3,f4,f5,g3,g4,hk1,hk2,hk3,rfl,rfl⟩
    ·cases h
   ·cases h
  ·cases h
 ·cases h

theorem ZD {α β:Type}:∀ {l:List α} {r:List β} {i:Nat} {a:α} {b:β},l[i]? = some a→r[i]? = some b→(a,b)∈l.zip r
 | [],_,_,_,_,h,_=>by simp at h
 | _::_,[],_,_,_,_,h=>by simp at h
 | x::l,y::r,0,a,b,h1,h2=>by cases h1; cases h2; simp
 | x::l,y::r,i+1,a,b,h1,h2=>by
  have:=ZD (l:=l) (r:=r) (i:=i) (by simpa using h1) (by simpa using h2)
  simp[this]

theorem MapIs.find {B:List Box} {ρ:Aj} {w:World} {t:TypeId} {m:MapA} {d:TypeDesc} {kt et:TypeId} {k o:Nat} {es:Array MapEntry} {clock:Nat} {us:List Value} {Φ:ObjP} (M:MapIs F B ρ w P t m d kt et k o es clock us Φ):
  (∀ i,m.i=some i→∃ c u,m.cs[i]? = some c∧us[i]? = some u∧m.ks[i]? = some m.kv∧(m.kv,u)∈m.ks.zip us) ∧
  (m.i=none→∀ j,m.j=some j→∃ u,m.hid[j]? = some (m.kv,u)) ∧
  (m.i=none→m.j=none→∀ z∈m.ks.zip us++m.hid,z.1≠m.kv):=by
 refine ⟨fun i hi=>?_,fun _ j hj=>?_,fun hi hj z hz=>?_⟩
 ·rw[M.fi,List.findIdx?_eq_some_iff_getElem] at hi
  obtain ⟨hl,h1,_⟩:=hi
  have hkk:=(Jf M.key (M.keyks _ (List.getElem_mem hl))).1 h1
  have hlu:i<us.length:=by rw[M.ulen]; exact hl
  have hlc:i<m.cs.length:=by rw[M.len]; exact hlu
  have hk:m.ks[i]? = some m.kv:=by rw[List.getElem?_eq_getElem hl,hkk]
  exact ⟨m.cs[i],us[i],List.getElem?_eq_getElem hlc,List.getElem?_eq_getElem hlu,hk,ZD hk (List.getElem?_eq_getElem hlu)⟩
 ·rw[M.fj,List.findIdx?_eq_some_iff_getElem] at hj
  obtain ⟨hl,h1,_⟩:=hj
  have hkk:=(Jf M.key (M.keyhid _ (List.getElem_mem hl))).1 h1
  exact ⟨m.hid[j].2,by rw[List.getElem?_eq_getElem hl,←hkk]⟩
 ·rw[M.fi,List.findIdx?_eq_none_iff] at hi
  rw[M.fj,List.findIdx?_eq_none_iff] at hj
  intro e
  rcases List.mem_append.1 hz with hz | hz
  ·have hzk:=(List.of_mem_zip (show (z.1,z.2)∈_ from hz)).1
   have:=hi z.1 hzk
   rw[(Jf M.key (M.keyks _ hzk)).2 e] at this
   cases this
  ·have:=hj z hz
   rw[(Jf M.key (M.keyhid _ hz)).2 e] at this
   cases this

theorem MapIs.keys {B:List Box} {ρ:Aj} {w:World} {t:TypeId} {m:MapA} {d:TypeDesc} {kt et:TypeId} {k o:Nat} {es:Array MapEntry} {clock:Nat} {us:List Value} {Φ:ObjP} (M:MapIs F B ρ w P t m d kt et k o es clock us Φ):
  ∀ x∈es.toList,MapKept.IsKey d x.key:=by
 intro x hx
 have:(x.key,x.val)∈m.ks.zip us++m.hid:=M.perm.subset (List.mem_map.2 ⟨x,hx,rfl⟩)
 rcases List.mem_append.1 this with h | h
 ·exact keyB_isKey (M.keyks _ (List.of_mem_zip h).1)
 ·exact keyB_isKey (M.keyhid _ h)

theorem MapIs.there {B:List Box} {ρ:Aj} {w:World} {t:TypeId} {m:MapA} {d:TypeDesc} {kt et:TypeId} {k o:Nat} {es:Array MapEntry} {clock:Nat} {us:List Value} {Φ:ObjP} (M:MapIs F B ρ w P t m d kt et k o es clock us Φ) {u:Value}
  (hu:(m.kv,u)∈m.ks.zip us++m.hid):∃ i e,es[i]? = some e∧e.key=m.kv∧e.val=u∧Instr.findNow d m.kv es.toList 0=some (some (i,u)):=by
 obtain ⟨e0,h0,e1⟩:=List.mem_map.1 (M.perm.symm.subset hu)
 simp only[Prod.mk.injEq] at e1
 rcases MapKept.findNow_spec (keyB_isKey M.key) es.toList 0 M.keys with ⟨_,h2⟩ | ⟨j,e,h1,h2,h3⟩
 ·exact absurd e1.1 (h2 e0 h0)
 ·have hee:e=e0:=by
   obtain ⟨j0,hj0⟩:=List.getElem?_of_mem h0
   have hp:=M.stamped.2.2
   have:j=j0:=by
    have q1:(es.toList.map (·.key))[j]? = some m.kv:=by rw[List.getElem?_map,h2]; simp[h3]
    have q2:(es.toList.map (·.key))[j0]? = some m.kv:=by rw[List.getElem?_map,hj0]; simp[e1.1]
    have hjl:=(List.getElem?_eq_some_iff.1 q1).1
    have hjl0:=(List.getElem?_eq_some_iff.1 q2).1
    have r1:=(List.getElem?_eq_some_iff.1 q1).2
    have r2:=(List.getElem?_eq_some_iff.1 q2).2
    have hpw:=List.pairwise_iff_getElem.1 hp
    rcases Nat.lt_trichotomy j j0 with h | h | h
    ·exact absurd (r1.trans r2.symm) (hpw j j0 hjl hjl0 h)
    ·exact h
    ·exact absurd (r2.trans r1.symm) (hpw j0 j hjl0 hjl h)
   subst this
   rw[h2] at hj0
   cases hj0; rfl
  subst hee
  rw[Nat.zero_add] at h1
  exact ⟨j,e,by simpa using h2,h3,e1.2,by rw[h1,e1.2]⟩

theorem MapIs.away {B:List Box} {ρ:Aj} {w:World} {t:TypeId} {m:MapA} {d:TypeDesc} {kt et:TypeId} {k o:Nat} {es:Array MapEntry} {clock:Nat} {us:List Value} {Φ:ObjP} (M:MapIs F B ρ w P t m d kt et k o es clock us Φ)
  (hu:∀ z∈m.ks.zip us++m.hid,z.1≠m.kv):Instr.findNow d m.kv es.toList 0=some none∧∀ x∈es.toList,x.key≠m.kv:=by
 rcases MapKept.findNow_spec (keyB_isKey M.key) es.toList 0 M.keys with h | ⟨j,e,h1,h2,h3⟩
 ·exact h
 ·have:(e.key,e.val)∈m.ks.zip us++m.hid:=M.perm.subset (List.mem_map.2 ⟨e,List.mem_of_getElem? h2,rfl⟩)
  exact absurd h3 (hu _ this)

theorem da {t:TypeId} {z:AV} (h:Qp P t=some z) (w:World):∃ u,(zeroValue t).run P w= .ok u w∧∀ (F:Nat→Prop) (B:List Box) (ρ:Aj) (w':World),VRel F B ρ w' z u:=by
 unfold Qp at h
 cases hi:P.info? t with
 | none=>rw[hi] at h; cases h
 | some i=>
  rw[hi] at h
  simp only[Option.bind_some] at h
  cases hz:i.zero with
  | none=>rw[hz] at h; cases h
  | some u=>
   rw[hz] at h
   cases h
   exact ⟨u,by simp[zeroValue,typeInfo,hi,hz],fun F B ρ w'=>P7 B ρ w' u⟩

theorem aM {B:List Box} {ρ:Aj} {w:World} (hI:Inv F B ρ w) {t:TypeId} {x k v:AV} {ok:Bool} {ux uk:Value} (hx:VRel F B ρ w x ux) (hk:VRel F B ρ w k uk) (hm:JS P t B x k ok=some v):
  ∃ z,(Instr.lookup t ux uk ok).run P w= .ok z w∧VRel F B ρ w v z:=by
 unfold JS at hm
 cases hq:KB P t B x k with
 | none=>rw[hq] at hm; cases hm
 | some m=>
 rw[hq] at hm
 simp only[Option.bind_some] at hm
 obtain ⟨rfl,d,kt,et,k',o,es,clock,us,Φ,rfl,M⟩:=P9 hI hq hx hk
 rw[M.ty] at hm
 simp only at hm
 have hck:∀ e,(Instr.checkKey e 10000 kt m.kv).run P w= .ok () w:=fun e=>MapKept.run_checkKey M.kd (keyB_isKey M.key) e 9999
 have hget:=MapKept.run_getObj_map (P:=P) M.heap
 obtain ⟨f1,f2,f3⟩:=M.find
 have pairV:∀ (u:Value) (c:AV),VRel F B ρ w c u→∀ q,VRel F B ρ w (if ok=true then .tup [c, .p (.v (.bool q))] else c) (if ok=true then .tuple #[u, .bool q] else u):=by
  intro u c hc q
  cases ok with
  | false=>exact hc
  | true=>
   refine VRel.tup [c, .p (.v (.bool q))] [u, .bool q] rfl (fun j p u' hp hu=>?_)
   match j with
   | 0=>cases hp; cases hu; exact hc
   | 1=>cases hp; cases hu; exact .p _ _ (.v _)
   | j+2=>simp at hp
 have fin:∀ (u:Value),(m.kv,u)∈m.ks.zip us++m.hid→∀ c,VRel F B ρ w c u→∃ z,(Instr.lookup t (.map (some k')) m.kv ok).run P w= .ok z w∧VRel F B ρ w (if ok=true then .tup [c, .p (.v (.bool true))] else c) z:=by
  intro u hu c hc
  obtain ⟨i,e,_,_,_,h3⟩:=M.there hu
  refine ⟨_,?_,pairV u c hc true⟩
  simp only[Instr.lookup,Sem.run_bind,run_underlying M.ty,Result.andThen_ok,hget,Sem.run_pure,hck,MapKept.run_findKey M.kd h3]
 cases hi:m.i with
 | some i=>
  obtain ⟨c,u,h1,h2,_,h3⟩:=f1 i hi
  simp only[hi,h1,Option.map_some,Option.some.injEq,Option.isSome_some,Bool.true_or] at hm
  subst hm
  exact fin u (List.mem_append_left _ h3) c (M.vals i c u h1 h2)
 | none=>
  cases hj:m.j with
  | some j=>
   obtain ⟨u,h1⟩:=f2 hi j hj
   simp only[hi,hj,h1,Option.map_some,Option.some.injEq,Option.isSome_some,Bool.or_true] at hm
   subst hm
   exact fin u (List.mem_append_right _ (List.mem_of_getElem? h1)) (.p (.v u)) (.p _ _ (.v _))
  | none=>
   simp only[hi,hj,Option.isSome_none,Bool.or_false] at hm
   obtain ⟨z,hz,rfl⟩:=Option.map_eq_some_iff.1 hm
   obtain ⟨u,h1,h2⟩:=da hz w
   refine ⟨_,?_,pairV u z (h2 F B ρ w) false⟩
   simp only[Instr.lookup,Sem.run_bind,run_underlying M.ty,Result.andThen_ok,hget,Sem.run_pure,hck,MapKept.run_findKey M.kd (M.away (f3 hi hj)).1,h1]

abbrev Ug (w:World) (k:Nat) (o:Obj):World:={w with heap:=w.heap.setIfInBounds k o}

theorem OV {B:List Box} {ρ:Aj} {w:World} (hI:Inv F B ρ w) {b k o:Nat} {cs cs':List AV} {Φ:ObjP} {ks' us':List Value} {hid':List (Value×Value)} {es es':Array MapEntry} {clock clock':Nat} (hb:B[b]? = some (.obj cs Φ)) (hr:ρ b=some (k,o)) (hf:∀ j,o.testBit j=true↔j=k)
  (hh:w.heap[k]? = some (.map es clock)) (h3:MapKept.Stamped es' clock') (h1:us'.length=ks'.length) (h2:(Jg es').Perm (ks'.zip us'++hid')) (hl:cs'.length=us'.length) (hv:∀ (i:Nat) (c:AV) (u:Value),cs'[i]? = some c→us'[i]? = some u→VRel F B ρ w c u):
  Inv F (B.set b (.obj cs' (AQ ks' hid'))) ρ (Ug w k (.map es' clock'))∧Ext F B ρ w (B.set b (.obj cs' (AQ ks' hid'))) ρ (Ug w k (.map es' clock')):=by
 have hlt:b<B.length:=(List.getElem?_eq_some_iff.1 hb).1
 obtain ⟨q1,q2⟩:=MapKept.heap_set (o':= .map es' clock') hh
 have hFk:¬F k:=hI.farx _ _ _ _ hb hr ((hf k).2 rfl)
 have hown:Own F B ρ k:= .inr ⟨b,_,_,hb,hr,(hf k).2 rfl⟩
 have hE:Ext F B ρ w (B.set b (.obj cs' (AQ ks' hid'))) ρ (Ug w k (.map es' clock')):=by
  refine ⟨by simp[Ug],rfl,rfl,rfl,fun j hj ho=>⟨q2 j (fun e=>ho (e▸hown)),fun h=>ho ?_⟩,fun j e n hj=>?_,by simp,fun c row v cs2 hc h=>?_,fun c cs2 Φ2 hc h=>?_,fun j hj _=>q2 j (fun e=>hFk (e▸hj))⟩
  ·rcases h with h | ⟨c,x,l,p1,p2,p3⟩
   ·exact .inl h
   ·rw[List.getElem?_set] at p1
    split at p1
    ·rename_i e
     subst e
     simp[hlt] at p1
     subst p1
     exact .inr ⟨b,_,l,hb,p2,p3⟩
    ·exact .inr ⟨c,x,l,p1,p2,p3⟩
  ·by_cases e0:j=k
   ·subst e0
    unfold World.shape? at hj
    rw[hh] at hj
    cases hj
   ·unfold World.shape? at hj ⊢
    rw[q2 j e0]
    exact hj
  ·rw[List.getElem?_set] at h
   split at h
   ·rename_i e; subst e; simp[hlt] at h
   ·exact ⟨v,cs2,h,Nat.le_refl _,fun _=>⟨rfl,rfl⟩⟩
  ·rw[List.getElem?_set] at h
   split at h
   ·rename_i e; subst e; exact ⟨cs,Φ,hb,rfl⟩
   ·exact ⟨cs2,Φ2,h,rfl⟩
 refine ⟨hI.otherx hb hE (fun _ _=>rfl) (fun c x l j hne hc hl hx=>q2 j (fun e=>hne (hI.injx _ _ _ _ _ (k,o) k hc hb hl hr (e▸hx) ((hf k).2 rfl))))
  (fun c x l l' j hne hc hl hx hl' hx'=>?_) (fun l j hl hx hF=>?_) (fun _ _ _ e=>by cases e) (fun _ _ _ _ e=>by cases e) (fun cs2 Φ2 e=>?_),hE⟩
 ·rw[hr] at hl'; cases hl'
  have hjk:=(hf j).1 hx'
  subst hjk
  exact hne (hI.injx _ _ _ _ _ (j,o) j hc hb hl hr hx ((hf j).2 rfl))
 ·rw[hr] at hl; cases hl
  have hjk:=(hf j).1 hx
  subst hjk
  exact hFk hF
 ·cases e
  exact ⟨k,o,us',hr,⟨hf,es',clock',q1,h3,h1,h2⟩,hl,fun i c u hc hu=>(hv i c u hc hu).ext hE⟩

theorem aN {es:Array MapEntry} {i:Nat} {e:MapEntry} {kv uv:Value} (he:es[i]? = some e):Jg (es.modify i fun e=>{e with key:=kv,val:=uv})=(Jg es).set i (kv,uv):=by
 obtain ⟨hi,hei⟩:=Array.getElem?_eq_some_iff.1 he
 apply List.ext_getElem?
 intro j
 simp only[Jg,List.getElem?_map,Array.getElem?_toList,Array.getElem?_modify,List.getElem?_set]
 by_cases hij:i=j
 ·subst hij; simp[hei,hi]
 ·simp[hij]

theorem TZ {α:Type} {l l':List α} {i:Nat} {a:α} (hp:l.Perm l') (hi:l[i]? = some a) {x y:List α} (hl:l'=x++a::y):(l.eraseIdx i).Perm (x++y)∧∀ b,(l.set i b).Perm (b::(x++y)):=by
 have hil:=(List.getElem?_eq_some_iff.1 hi).1
 have hsplit:l=l.take i++a::l.drop (i+1):=by
  have:=List.take_append_drop i l
  rw[List.drop_eq_getElem_cons hil,(List.getElem?_eq_some_iff.1 hi).2] at this
  exact this.symm
 have h1:(a::(l.take i++l.drop (i+1))).Perm (a::(x++y)):=by
  refine List.Perm.trans ?_ (List.Perm.trans (hsplit▸hp) (hl▸List.perm_middle))
  exact List.perm_middle.symm
 have h2:=h1.cons_inv
 have he:l.eraseIdx i=l.take i++l.drop (i+1):=List.eraseIdx_eq_take_drop_succ ..
 refine ⟨he▸h2,fun b=>?_⟩
 rw[List.set_eq_take_append_cons_drop,if_pos hil]
 exact List.perm_middle.trans (h2.cons b)

theorem Mz {B B':List Box} {ρ:Aj} {w:World} (hI:Inv F B ρ w) {t:TypeId} {x k v:AV} {ux uk uv:Value} (hx:VRel F B ρ w x ux) (hk:VRel F B ρ w k uk) (hv:VRel F B ρ w v uv) (hm:Fu P t B x k v=some B'):
  ∃ w',(Instr.mapUpdate t ux uk uv).run P w= .ok () w'∧Inv F B' ρ w'∧Ext F B ρ w B' ρ w':=by
 unfold Fu at hm
 obtain ⟨m,hq,hm⟩:=Option.map_eq_some_iff.1 hm
 obtain ⟨rfl,d,kt,et,k',o,es,clock,us,Φ,rfl,M⟩:=P9 hI hq hx hk
 have hck:∀ e,(Instr.checkKey e 10000 kt m.kv).run P w= .ok () w:=fun e=>MapKept.run_checkKey M.kd (keyB_isKey M.key) e 9999
 have hget:=MapKept.run_getObj_map (P:=P) M.heap
 obtain ⟨f1,f2,f3⟩:=M.find
 have vapp:∀ (j:Nat) (c:AV) (u:Value),(m.cs++ [v])[j]? = some c→(us++ [uv])[j]? = some u→VRel F B ρ w c u:=fun j c u hc hu=>by
  rw[List.getElem?_append] at hc hu
  split at hc
  ·rename_i hj
   rw[if_pos (by rw[←M.len]; exact hj)] at hu
   exact M.vals j c u hc hu
  ·rename_i hj
   rw[if_neg (by rw[←M.len]; exact hj),←M.len] at hu
   cases hz:j - m.cs.length with
   | zero=>rw[hz] at hc hu; cases hc; cases hu; exact hv
   | succ n=>rw[hz] at hc; simp at hc
 have zapp:∀ hid,((m.ks++ [m.kv]).zip (us++ [uv])++hid)=m.ks.zip us++(m.kv,uv)::hid:=fun hid=>by
  rw[List.zip_append M.ulen.symm]; simp
 -- an entry that is there is other
 have over:∀ (u:Value) (x y:List (Value×Value)),m.ks.zip us++m.hid=x++(m.kv,u)::y→∀ (cs':List AV) (ks' us':List Value) (hid':List (Value×Value)),us'.length=ks'.length→cs'.length=us'.length →
   ((m.kv,uv)::(x++y)).Perm (ks'.zip us'++hid')→(∀ (i:Nat) (c:AV) (u:Value),cs'[i]? = some c→us'[i]? = some u→VRel F B ρ w c u) →
   ∃ w',(Instr.mapUpdate t (.map (some k')) m.kv uv).run P w= .ok () w'∧Inv F (B.set m.b (.obj cs' (AQ ks' hid'))) ρ w'∧Ext F B ρ w (B.set m.b (.obj cs' (AQ ks' hid'))) ρ w':=by
  intro u x y hxy cs' ks' us' hid' hl1 hl2 hp hvs
  obtain ⟨i,e,he,hke,_,h3⟩:=M.there (u:=u) (by rw[hxy]; simp)
  have hki:(Jg es)[i]? = some (m.kv,u):=by
   have h4:(Jg es)[i]? = some (e.key,e.val):=by simp[Jg,he]
   rw[h4,hke]; subst_vars; rfl
  obtain ⟨_,hset⟩:=TZ M.perm hki hxy
  have:=OV hI (cs':=cs') (ks':=ks') (us':=us') (hid':=hid') (es':=es.modify i fun e=>{e with key:=m.kv,val:=uv}) (clock':=clock) M.box M.loc M.foot M.heap
   (MapKept.stamped_modify M.stamped i _ (fun _ _=>rfl) (fun e' _ h'=>by rw[he] at h'; cases h'; exact hke.symm)) hl1 (by rw[aN he]; exact (hset _).trans hp) hl2 hvs
  refine ⟨_,?_,this.1,this.2⟩
  have hkeyOf:((es[i]?).map (·.key)).getD m.kv=m.kv:=by rw[he]; exact hke
  have hst:∀ w,(Instr.keyThatStays m.kv m.kv).run P w= .ok m.kv w:=fun w=>by simp[Instr.keyThatStays,VV M.key]
  simp only[Instr.mapUpdate,Sem.run_bind,run_underlying M.ty,Result.andThen_ok,hget,hck,MapKept.run_findKey M.kd h3,hkeyOf,hst]
  exact MapKept.run_setObj_map _ M.heap
 cases hi:m.i with
 | some i=>
  simp only[hi] at hm
  subst hm
  obtain ⟨c,u,h1,h2,h4,_⟩:=f1 i hi
  have hzi:(m.ks.zip us)[i]? = some (m.kv,u):=by simp[List.getElem?_zip_eq_some,h4,h2]
  have hil:=(List.getElem?_eq_some_iff.1 hzi).1
  have hsp:m.ks.zip us=(m.ks.zip us).take i++(m.kv,u)::(m.ks.zip us).drop (i+1):=by
   have:=List.take_append_drop i (m.ks.zip us)
   rw[List.drop_eq_getElem_cons hil,(List.getElem?_eq_some_iff.1 hzi).2] at this
   exact this.symm
  have hzs:m.ks.zip (us.set i uv)=(m.ks.zip us).set i (m.kv,uv):=by
   apply List.ext_getElem?
   intro j
   by_cases hij:i=j
   ·subst hij
    have hul:=(List.getElem?_eq_some_iff.1 h2).1
    rw[List.getElem?_set_self hil]
    simp[List.getElem?_zip_eq_some,h4,hul]
   ·rw[List.getElem?_set_ne hij]
    simp only[List.zip,List.getElem?_zipWith,List.getElem?_set_ne hij]
  refine over u ((m.ks.zip us).take i) ((m.ks.zip us).drop (i+1)++m.hid) (by rw[←List.cons_append,←List.append_assoc,←hsp]) _ m.ks (us.set i uv) m.hid (by simp[M.ulen]) (by simp[M.len]) ?_ (fun j c u hc hu=>?_)
  ·rw[hzs,List.set_eq_take_append_cons_drop,if_pos hil]
   simp only[List.append_assoc,List.cons_append]
   exact List.perm_middle.symm
  ·rw[List.getElem?_set] at hc hu
   split at hc
   ·rename_i e0; subst e0
    rw[if_pos rfl] at hu
    split at hc
    ·split at hu
     ·cases hc; cases hu; exact hv
     ·cases hu
    ·cases hc
   ·rename_i e0
    rw[if_neg e0] at hu
    exact M.vals j c u hc hu
 | none=>
  cases hj:m.j with
  | some j=>
   simp only[hi,hj] at hm
   subst hm
   obtain ⟨u,h1⟩:=f2 hi j hj
   have hjl:=(List.getElem?_eq_some_iff.1 h1).1
   have hsp:m.hid=m.hid.take j++(m.kv,u)::m.hid.drop (j+1):=by
    have:=List.take_append_drop j m.hid
    rw[List.drop_eq_getElem_cons hjl,(List.getElem?_eq_some_iff.1 h1).2] at this
    exact this.symm
   refine over u (m.ks.zip us++m.hid.take j) (m.hid.drop (j+1)) (by rw[List.append_assoc,←hsp]) _ (m.ks++ [m.kv]) (us++ [uv]) (m.hid.eraseIdx j) (by simp[M.ulen]) (by simp[M.len]) ?_ vapp
   rw[zapp,List.eraseIdx_eq_take_drop_succ,List.append_assoc]
   exact List.perm_middle.symm
  | none=>
   simp only[hi,hj] at hm
   subst hm
   obtain ⟨h3,h4⟩:=M.away (f3 hi hj)
   have:=OV hI (cs':=m.cs++ [v]) (ks':=m.ks++ [m.kv]) (us':=us++ [uv]) (hid':=m.hid) (es':=es.push {key:=m.kv,val:=uv,born:=clock}) (clock':=clock+1) M.box M.loc M.foot M.heap
    (MapKept.stamped_push M.stamped h4) (by simp[M.ulen]) (by
     rw[zapp]
     simp only[Jg,Array.toList_push,List.map_append,List.map_cons,List.map_nil]
     refine List.Perm.trans ?_ List.perm_middle.symm
     exact (List.perm_append_comm).trans (M.perm.cons _)) (by simp[M.len]) vapp
   refine ⟨_,?_,this.1,this.2⟩
   simp only[Instr.mapUpdate,Sem.run_bind,run_underlying M.ty,Result.andThen_ok,hget,hck,MapKept.run_findKey M.kd h3]
   exact MapKept.run_setObj_map _ M.heap

theorem aO {B B':List Box} {ρ:Aj} {w:World} (hI:Inv F B ρ w) {t tk ty:TypeId} {x k:AV} {ux uk:Value} (hx:VRel F B ρ w x ux) (hk:VRel F B ρ w k uk) (hm:OR P t B x k=some B'):
  ∃ w',(Builtin.delete_ #[t,tk] ty #[ux,uk]).run P w= .ok (.tuple #[]) w'∧Inv F B' ρ w'∧Ext F B ρ w B' ρ w':=by
 unfold OR at hm
 obtain ⟨m,hq,hm⟩:=Option.map_eq_some_iff.1 hm
 obtain ⟨rfl,d,kt,et,k',o,es,clock,us,Φ,rfl,M⟩:=P9 hI hq hx hk
 have hck:∀ e,(Instr.checkKey e 10000 kt m.kv).run P w= .ok () w:=fun e=>MapKept.run_checkKey M.kd (keyB_isKey M.key) e 9999
 have hget:=MapKept.run_getObj_map (P:=P) M.heap
 obtain ⟨f1,f2,f3⟩:=M.find
 have gone:∀ (u:Value) (x y:List (Value×Value)),m.ks.zip us++m.hid=x++(m.kv,u)::y→∀ (cs':List AV) (ks' us':List Value) (hid':List (Value×Value)),us'.length=ks'.length→cs'.length=us'.length →
   x++y=ks'.zip us'++hid'→(∀ (i:Nat) (c:AV) (u:Value),cs'[i]? = some c→us'[i]? = some u→VRel F B ρ w c u) →
   ∃ w',(Builtin.delete_ #[t,tk] ty #[.map (some k'),m.kv]).run P w= .ok (.tuple #[]) w'∧Inv F (B.set m.b (.obj cs' (AQ ks' hid'))) ρ w'∧Ext F B ρ w (B.set m.b (.obj cs' (AQ ks' hid'))) ρ w':=by
  intro u x y hxy cs' ks' us' hid' hl1 hl2 hp hvs
  obtain ⟨i,e,he,hke,_,h3⟩:=M.there (u:=u) (by rw[hxy]; simp)
  have hki:(Jg es)[i]? = some (m.kv,u):=by
   have h4:(Jg es)[i]? = some (e.key,e.val):=by simp[Jg,he]
   rw[h4,hke]; subst_vars; rfl
  obtain ⟨hers,_⟩:=TZ M.perm hki hxy
  have hi:i<es.size:=(Array.getElem?_eq_some_iff.1 he).1
  have hlst:Jg (es.eraseIdxIfInBounds i)=(Jg es).eraseIdx i:=by
   unfold Array.eraseIdxIfInBounds
   rw[dif_pos hi]
   simp[Jg,My]
  have:=OV hI (cs':=cs') (ks':=ks') (us':=us') (hid':=hid') (es':=es.eraseIdxIfInBounds i) (clock':=clock) M.box M.loc M.foot M.heap (MapKept.stamped_erase M.stamped i) hl1 (by rw[hlst,←hp]; exact hers) hl2 hvs
  refine ⟨_,?_,this.1,this.2⟩
  simp only[Builtin.delete_,List.getElem?_toArray,List.getElem?_cons_zero,List.getElem?_cons_succ,Sem.run_bind,run_underlying M.ty,Result.andThen_ok,hget,hck,MapKept.run_findKey M.kd h3]
  rw[MapKept.run_setObj_map _ M.heap]
  rfl
 cases hi:m.i with
 | some i=>
  simp only[hi] at hm
  subst hm
  obtain ⟨c,u,h1,h2,h4,_⟩:=f1 i hi
  have hzi:(m.ks.zip us)[i]? = some (m.kv,u):=by simp[List.getElem?_zip_eq_some,h4,h2]
  have hil:=(List.getElem?_eq_some_iff.1 hzi).1
  have hsp:m.ks.zip us=(m.ks.zip us).take i++(m.kv,u)::(m.ks.zip us).drop (i+1):=by
   have:=List.take_append_drop i (m.ks.zip us)
   rw[List.drop_eq_getElem_cons hil,(List.getElem?_eq_some_iff.1 hzi).2] at this
   exact this.symm
  have hzs:(m.ks.eraseIdx i).zip (us.eraseIdx i)=(m.ks.zip us).eraseIdx i:=by
   rw[List.eraseIdx_eq_take_drop_succ,List.eraseIdx_eq_take_drop_succ,List.eraseIdx_eq_take_drop_succ,List.zip_append (by simp[M.ulen])]
   simp[List.zip_eq_zipWith,List.take_zipWith,List.drop_zipWith]
  refine gone u ((m.ks.zip us).take i) ((m.ks.zip us).drop (i+1)++m.hid) (by rw[←List.cons_append,←List.append_assoc,←hsp]) _ (m.ks.eraseIdx i) (us.eraseIdx i) m.hid (by simp[List.length_eraseIdx,M.ulen]) (by simp[List.length_eraseIdx,M.len]) ?_ (fun j c u hc hu=>?_)
  ·rw[hzs,List.eraseIdx_eq_take_drop_succ,List.append_assoc]
  ·rw[List.getElem?_eraseIdx] at hc hu
   split at hc
   ·rename_i hj; rw[if_pos hj] at hu; exact M.vals _ c u hc hu
   ·rename_i hj; rw[if_neg hj] at hu; exact M.vals _ c u hc hu
 | none=>
  cases hj:m.j with
  | some j=>
   simp only[hi,hj] at hm
   subst hm
   obtain ⟨u,h1⟩:=f2 hi j hj
   have hjl:=(List.getElem?_eq_some_iff.1 h1).1
   have hsp:m.hid=m.hid.take j++(m.kv,u)::m.hid.drop (j+1):=by
    have:=List.take_append_drop j m.hid
    rw[List.drop_eq_getElem_cons hjl,(List.getElem?_eq_some_iff.1 h1).2] at this
    exact this.symm
   refine gone u (m.ks.zip us++m.hid.take j) (m.hid.drop (j+1)) (by rw[List.append_assoc,←hsp]) _ m.ks us (m.hid.eraseIdx j) M.ulen M.len ?_ M.vals
   rw[List.eraseIdx_eq_take_drop_succ,List.append_assoc]
  | none=>
   simp only[hi,hj] at hm
   subst hm
   obtain ⟨h3,_⟩:=M.away (f3 hi hj)
   have:=OV hI (cs':=m.cs) (ks':=m.ks) (us':=us) (hid':=m.hid) (es':=es) (clock':=clock) M.box M.loc M.foot M.heap M.stamped M.ulen M.perm M.len M.vals
   refine ⟨_,?_,this.1,this.2⟩
   simp only[Builtin.delete_,List.getElem?_toArray,List.getElem?_cons_zero,List.getElem?_cons_succ,Sem.run_bind,run_underlying M.ty,Result.andThen_ok,hget,hck,MapKept.run_findKey M.kd h3]
   rw[MapKept.run_setObj_map _ M.heap]
   rfl

theorem lu {B:List Box} {ρ:Aj} {w w':World} (hI:Inv F B ρ w) (Φ:ObjP) (hΦ:Φ.holds [] (fun j=>(2 ^ w.heap.size).testBit j=true) w.heap.size w') (hs:w.heap.size≤w'.heap.size) (ho:w'.os=w.os) (ht:w'.tape=w.tape) (hp:w'.output=w.output)
  (hk:∀ k,k<w.heap.size→w'.heap[k]? = w.heap[k]?):
  Inv F (B++ [.obj [] Φ]) (fun b=>if b=B.length then some (w.heap.size,2 ^ w.heap.size) else ρ b) w'∧Ext F B ρ w (B++ [.obj [] Φ]) (fun b=>if b=B.length then some (w.heap.size,2 ^ w.heap.size) else ρ b) w':=by
 have hl:∀ (l':Nat×Nat) k,some (w.heap.size,2 ^ w.heap.size)=some l'→(Box.obj [] Φ).has l' k→w.heap.size≤k:=by
  intro l' k e h
  cases e
  have h:(2 ^ w.heap.size).testBit k=true:=h
  rw[Nat.testBit_two_pow] at h
  have:=of_decide_eq_true h
  omega
 have hE:=VQ (F:=F) (B:=B) (ρ:=ρ) (.obj [] Φ) (some (w.heap.size,2 ^ w.heap.size)) hl hs ho ht hp hk
 exact ⟨hI.newx hE hl hk (fun _ _ _ e=>by cases e) (fun _ _ _ _ e=>by cases e) (fun _ _ e=>by cases e; exact ⟨_,_,[],rfl,hΦ,rfl,fun i c u h=>by simp at h⟩),hE⟩

theorem YC {B:List Box} {ρ:Aj} {w:World} (hI:Inv F B ρ w) {t kt et:TypeId} (hu:P.underlying t=some (.map kt et)):
  ∃ z w' ρ',(Instr.makeMap t none).run P w= .ok z w'∧Inv F (B++ [.obj [] (AQ [] [])]) ρ' w'∧Ext F B ρ w (B++ [.obj [] (AQ [] [])]) ρ' w'∧VRel F (B++ [.obj [] (AQ [] [])]) ρ' w' (.mp B.length) z:=by
 obtain ⟨h1,h2⟩:=lu (w':=w.alloc (.map #[] 0)) hI (AQ [] []) ⟨fun j=>by show (2 ^ w.heap.size).testBit j=true↔_; rw[Nat.testBit_two_pow]; simp[eq_comm],#[],0,heap_alloc_new w _,MapKept.stamped_empty 0,rfl,List.Perm.refl _⟩ (by simp) rfl rfl rfl (fun k hk=>Below.heap_alloc w _ k hk)
 refine ⟨.map (some w.heap.size),w.alloc (.map #[] 0),_,?_,h1,h2, .mp _ _ ⟨by simp,fun cs Φ _=>⟨2 ^ w.heap.size,by simp⟩⟩⟩
 simp[Instr.makeMap]

theorem Qs {B:List Box} {ρ:Aj} {w:World} {most dflt n:Nat} {x:AV} {u:Value} (h:D8 most dflt (some x)=some n) (hv:VRel F B ρ w x u):n≤most∧∃ k,u= .int k (n:Int):=by
 simp only[D8] at h
 cases hi:D7 x with
 | none=>rw[hi] at h; cases h
 | some m=>
  obtain ⟨k,rfl⟩:=Fg hi
  obtain rfl:=hv.val
  rw[hi] at h
  simp only[Option.bind_some] at h
  split at h
  ·rename_i hc
   cases h
   exact ⟨by omega,k,by rw[Int.toNat_of_nonneg hc.1]⟩
  ·cases h

theorem Hr {B:List Box} {ρ:Aj} {w:World} {len cap m l h:Nat} {lo hi:Option AV} {ulo uhi:Option Value} {k:IntKind} (hm:m≤cap) (hb:boundsA m lo hi=some (l,h)) (his:hi.isSome=true)
  (h1:∀ x,lo=some x→∃ u,ulo=some u∧VRel F B ρ w x u) (h1n:lo=none→ulo=none) (h2:∀ x,hi=some x→∃ u,uhi=some u∧VRel F B ρ w x u) (q:Bool):
  (Instr.sliceBounds q len cap ulo uhi (some (.int k (m:Int)))).run P w= .ok (l,h,m) w∧l≤h∧h≤m:=by
 unfold boundsA at hb
 cases hh:D8 m m hi with
 | none=>rw[hh] at hb; cases hb
 | some h'=>
 rw[hh] at hb
 simp only[Option.bind_some] at hb
 cases hl:D8 h' 0 lo with
 | none=>rw[hl] at hb; cases hb
 | some l'=>
 rw[hl] at hb
 cases hb
 cases hi with
 | none=>cases his
 | some xh=>
 obtain ⟨uh,rfl,hvh⟩:=h2 xh rfl
 obtain ⟨e1,kh,rfl⟩:=Qs hh hvh
 have c1:((m:Int))≤(cap:Int):=by omega
 have c2:((h:Int))≤(m:Int):=by omega
 cases lo with
 | none=>
  cases hl
  rw[h1n rfl]
  exact ⟨by simp[Instr.sliceBounds,Instr.sliceBound,asIntOf,c1,c2,e1,hm],Nat.zero_le _,e1⟩
 | some xl=>
  obtain ⟨ul,rfl,hvl⟩:=h1 xl rfl
  obtain ⟨e2,kl,rfl⟩:=Qs hl hvl
  have c3:((l:Int))≤(h:Int):=by omega
  exact ⟨by simp[Instr.sliceBounds,Instr.sliceBound,asIntOf,c1,c2,c3,e1,e2,hm],e2,e1⟩

theorem hU {B B':List Box} {ρ:Aj} {w:World} (hI:Inv F B ρ w) {b ver sz h:Nat} {v:AV} (hm:Qo B b ver sz h=some (v,B')):
  Inv F B' ρ w∧Ext F B ρ w B' ρ w∧∀ (a:Option Addr) (len cap m:Nat),RsOk B ρ w b ver sz 0 len a cap→h≤m→m≤len→VRel F B' ρ w v (.slice a h m):=by
 unfold Qo at hm
 split at hm
 ·rename_i v0 cs hb
  split at hm
  ·rename_i hc
   obtain ⟨rfl,hle⟩:=hc
   cases hm
   have hbl:b<B.length:=(List.getElem?_eq_some_iff.1 hb).1
   have hρ:(fun c=>if c=b then ρ b else ρ c)=ρ:=by funext c; split <;> simp_all
   have hE:=OU (F:=F) (w:=w) (w':=w) hb (cs.take (h*sz)) (ρ b) (Nat.le_refl _) rfl rfl rfl (fun _ _ _=>rfl) (fun _ _ _ h=>h) (fun k o hk=> .inr ⟨o,hk⟩) (fun k o hk=>hI.farb b _ _ _ k o hb hk)
   rw[hρ] at hE
   have has:∀ {j:Nat} {x:Box} {l:Nat×Nat} {k:Nat},(B.set b (.cells true (ver+1) (cs.take (h*sz))))[j]? = some x→x.has l k→∃ x0,B[j]? = some x0∧x0.has l k:=by
    intro j x l k h1 h2
    rw[List.getElem?_set] at h1
    split at h1
    ·rename_i e
     subst e
     cases h1
     exact ⟨_,hb,h2⟩
    ·exact ⟨x,h1,h2⟩
   refine ⟨⟨fun j row v' cs' hj=>?_,fun j row v' cs' hj=>?_,fun j cs' Φ hj=>?_,fun j j' x x' l l' k h1 h2 h3 h4 h5 h6=>?_,hI.bound,fun j x l k h1 h2 h3=>?_,fun g hg=>(hI.glob g hg).ext hE,fun j v' cs' k o h1 h2=>?_⟩,hE,fun a len cap m hok hhm hml=>?_⟩
   ·rw[List.getElem?_set] at hj
    split at hj
    ·rename_i e
     subst e
     cases hj
     rcases hI.box _ _ _ _ hb with ⟨h1,h2,h3⟩ | ⟨k,o,us,e,fr,h1,h2,h3,h4,h5⟩
     ·subst h3
      exact .inl ⟨h1,rfl,by simp⟩
     ·refine .inr ⟨k,o,us,e,fr,h1,h2,by rw[List.length_take]; omega,h4,fun i c hc=>?_⟩
      rw[List.getElem?_take] at hc
      split at hc
      ·obtain ⟨u,e1,e2⟩:=h5 i c hc
       exact ⟨u,e1,e2.ext hE⟩
      ·cases hc
    ·rcases hI.box _ _ _ _ hj with h0 | ⟨k,o,us,e,fr,h1,h2,h3,h4,h5⟩
     ·exact .inl h0
     ·exact .inr ⟨k,o,us,e,fr,h1,h2,h3,h4,fun i c hc=>by obtain ⟨u,e1,e2⟩:=h5 i c hc; exact ⟨u,e1,e2.ext hE⟩⟩
   ·rw[List.getElem?_set] at hj
    split at hj
    ·rename_i e
     subst e
     cases hj
     have:=hI.leaf _ _ _ _ hb
     rw[List.all_eq_true] at this ⊢
     exact fun x hx=>this x (List.mem_of_mem_take hx)
    ·exact hI.leaf _ _ _ _ hj
   ·rw[List.getElem?_set] at hj
    split at hj
    ·rename_i e
     subst e
     cases hj
    ·obtain ⟨k,o,us,g1,g2,g3,g4⟩:=hI.obox _ _ _ hj
     exact ⟨k,o,us,g1,g2,g3,fun i c u h1 h2=>(g4 i c u h1 h2).ext hE⟩
   ·obtain ⟨_,g1,p1⟩:=has h1 h5
    obtain ⟨_,g2,p2⟩:=has h2 h6
    exact hI.injx _ _ _ _ _ _ _ g1 g2 h3 h4 p1 p2
   ·obtain ⟨_,g1,p1⟩:=has h1 h3
    exact hI.farx _ _ _ _ g1 h2 p1
   ·rw[List.getElem?_set] at h1
    split at h1
    ·rename_i e
     subst e
     cases h1
    ·exact hI.off0 _ _ _ _ _ h1 h2
   ·obtain ⟨g1,g2,g3,g4⟩:=hok
    refine .rs _ _ _ _ _ a m ⟨by simpa using g1,hhm,fun h0=>g3 (by omega),fun row v' cs' hj=>?_⟩
    rw[List.getElem?_set_self hbl] at hj
    cases hj
    refine ⟨Nat.le_refl _,fun _=>⟨by rw[List.length_take]; omega,?_⟩⟩
    obtain ⟨_,q⟩:=(g4 _ _ _ hb).2 rfl
    rcases q with h0 | ⟨k,o',hr,ha,e',n,hsh,hle'⟩
    ·exact .inl (by omega)
    ·refine .inr ⟨k,o',hr,ha,e',n,hsh,?_⟩
     have:m*sz≤cap*sz:=Nat.mul_le_mul_right _ (by omega)
     omega
  ·cases hm
 ·cases hm

theorem aP {B B':List Box} {ρ:Aj} {w:World} (hI:Inv F B ρ w) {t:TypeId} {x v mx:AV} {lo hi:Option AV} {fresh:Bool} {ux umx:Value} {ulo uhi:Option Value} (hx:VRel F B ρ w x ux) (hmx:VRel F B ρ w mx umx)
  (h1:∀ x,lo=some x→∃ u,ulo=some u∧VRel F B ρ w x u) (h1n:lo=none→ulo=none) (h2:∀ x,hi=some x→∃ u,uhi=some u∧VRel F B ρ w x u) (h2n:hi=none→uhi=none)
  (hm:OQ P t B x lo hi mx fresh=some (v,B')):∃ z ρ',(Instr.sliceAt t ux ulo uhi (some umx)).run P w= .ok z w∧Inv F B' ρ' w∧Ext F B ρ w B' ρ' w∧VRel F B' ρ' w v z:=by
 unfold OQ at hm
 split at hm
 ·rename_i e hu
  cases hs:BU P e with
  | none=>rw[hs] at hm; cases hm
  | some sz=>
  rw[hs] at hm
  simp only[Option.bind_some] at hm
  have newRow:∀ (a:Option Addr) (len cap:Nat),ux= .slice a len cap→∀ (kl kh km:IntKind),(lo=none∨lo=some (.p (.v (.int kl 0))))→hi=some (.p (.v (.int kh 0)))→mx= .p (.v (.int km 0))→v= .rs B.length 0 sz 0 0→B'=B++ [.cells true 0 []] →
    ∃ z ρ',(Instr.sliceAt t ux ulo uhi (some umx)).run P w= .ok z w∧Inv F B' ρ' w∧Ext F B ρ w B' ρ' w∧VRel F B' ρ' w v z:=by
   intro a len cap hux kl kh km hlo hhi hmx' hv hB
   subst hux hhi hmx' hv hB
   obtain ⟨g1,g2⟩:=JT hI
   obtain rfl:=hmx.val
   have hb:boundsA 0 lo (some (.p (.v (.int kh 0))))=some (0,0):=by
    rcases hlo with rfl | rfl <;> simp[boundsA,D8,D7]
   obtain ⟨e1,_,_⟩:=Hr (P:=P) (len:=len) (cap:=cap) (k:=km) (Nat.zero_le _) hb rfl h1 h1n h2 true
   refine ⟨.slice a 0 0,_,?_,g1,g2, .rs _ _ _ _ _ a 0 ⟨by simp,Nat.le_refl _,fun h=>absurd h (by omega),fun row v cs hc=>?_⟩⟩
   ·simp at e1
    simp[Instr.sliceAt,Instr.slice,run_underlying hu,e1,CO w hs]
   ·simp at hc
    obtain ⟨rfl,rfl,rfl⟩:=hc
    exact ⟨Nat.le_refl _,fun _=>⟨by simp, .inl rfl⟩⟩
  split at hm
  ·obtain rfl:=hx.val
   cases hmi:D7 mx with
   | none=>rw[hmi] at hm; cases hm
   | some m=>
   rw[hmi] at hm
   simp only[Option.bind_some] at hm
   cases hb:boundsA 0 lo hi with
   | none=>rw[hb] at hm; cases hm
   | some q=>
   rw[hb] at hm
   simp only[Option.bind_some] at hm
   split at hm
   ·rename_i h0
    obtain ⟨h0,his⟩:=h0
    subst h0
    cases hm
    obtain ⟨l,h⟩:=q
    obtain ⟨km,rfl⟩:=Fg hmi
    obtain rfl:=hmx.val
    obtain ⟨e1,e2,e3⟩:=Hr (P:=P) (len:=0) (cap:=0) (k:=km) (Nat.zero_le _) hb his h1 h1n h2 true
    have hh0:h=0:=by omega
    have hl0:l=0:=by omega
    subst hh0
    subst hl0
    simp at e1
    exact ⟨.slice none 0 0,ρ,by simp[Instr.sliceAt,Instr.slice,run_underlying hu,e1,CO w hs],hI, .refl _ _ _, .p _ _ (.v _)⟩
   ·cases hm
  ·rename_i b ver sz' off len
   split at hm
   ·split at hm
    ·cases hm
     cases hx with
     | rs _ _ _ _ _ a cap hok=>exact newRow a len cap rfl .i64 _ _ (.inl rfl) rfl rfl rfl rfl
    ·cases hm
     cases hx with
     | rs _ _ _ _ _ a cap hok=>exact newRow a len cap rfl _ _ _ (.inr rfl) rfl rfl rfl rfl
    ·cases hm
   ·cases hmi:D7 mx with
    | none=>rw[hmi] at hm; cases hm
    | some m=>
    rw[hmi] at hm
    simp only[Option.bind_some] at hm
    split at hm
    ·rename_i hc
     cases hb:boundsA m.toNat lo hi with
     | none=>rw[hb] at hm; cases hm
     | some q=>
     obtain ⟨l,h⟩:=q
     rw[hb] at hm
     simp only[Option.bind_some] at hm
     split at hm
     ·rename_i hc2
      simp only[Bool.and_eq_true,beq_iff_eq] at hc2
      obtain ⟨rfl,his⟩:=hc2
      obtain ⟨km,rfl⟩:=Fg hmi
      obtain rfl:=hmx.val
      split at hm
      ·rename_i htr
       simp only[Bool.and_eq_true,beq_iff_eq,Option.isNone_iff_eq_none] at htr
       obtain ⟨rfl,rfl⟩:=htr
       cases hx with
       | rs _ _ _ _ _ a cap hok=>
        obtain ⟨e1,e2,e3⟩:=Hr (P:=P) (len:=len) (cap:=cap) (k:=km) (m:=m.toNat) (by have:=hok.2.1; omega) hb his h1 h1n h2 true
        have hmn:m=((m.toNat:Nat):Int):=by omega
        rw[←hmn] at e1
        obtain ⟨q1,q2,q3⟩:=hU hI hm
        have hl0:l=0:=by
         unfold boundsA at hb
         cases hq:D8 m.toNat m.toNat hi with
         | none=>rw[hq] at hb; cases hb
         | some h'=>rw[hq] at hb; simp[D8] at hb; omega
        subst hl0
        refine ⟨.slice a h m.toNat,ρ,?_,q1,q2,q3 a len cap m.toNat hok (by omega) (by omega)⟩
        simp[Instr.sliceAt,Instr.slice,run_underlying hu,e1,CO w hs]
        intro hz
        cases a with
        | none=>rfl
        | some a=>simp[Addr.add]
      cases hm
      have hmn:m=((m.toNat:Nat):Int):=by omega
      cases hx with
      | rs _ _ _ _ _ a cap hok=>
       obtain ⟨g1,g2,g3,g4⟩:=hok
       obtain ⟨e1,e2,e3⟩:=Hr (P:=P) (len:=len) (cap:=cap) (k:=km) (m:=m.toNat) (by omega) hb his h1 h1n h2 true
       rw[←hmn] at e1
       refine ⟨.slice (if m.toNat=l then a else a.map (·.add (l*sz))) (h - l) (m.toNat - l),ρ,by simp[Instr.sliceAt,Instr.slice,run_underlying hu,e1,CO w hs],hI, .refl _ _ _, .rs _ _ _ _ _ _ _ ⟨g1,by omega,fun h0=>?_,fun row v cs hb'=>?_⟩⟩
       ·rw[if_neg (by omega)]
        have:=g3 (by omega)
        cases a with
        | none=>cases this
        | some a=>rfl
       ·obtain ⟨q1,q2⟩:=g4 row v cs hb'
        refine ⟨q1,fun hv=>?_⟩
        obtain ⟨q3,q4⟩:=q2 hv
        have hmul:h*sz≤len*sz:=Nat.mul_le_mul_right _ (by omega)
        have hmul2:l*sz≤h*sz:=Nat.mul_le_mul_right _ e2
        refine ⟨by rw[Nat.sub_mul]; omega,?_⟩
        by_cases hz:m.toNat=l
        ·exact .inl (by omega)
        ·rw[if_neg hz]
         rcases q4 with h0 | ⟨k,o',hr,ha,e',n,hsh,hle⟩
         ·exact .inl (by omega)
         ·subst ha
          refine .inr ⟨k,o',hr,?_,e',n,hsh,?_⟩
          ·simp only[Option.map_some,Addr.add_lit]
           rw[show o'+off+l*sz=o'+(off+l*sz) by omega]
          ·have h5:m.toNat*sz≤cap*sz:=Nat.mul_le_mul_right _ (by omega)
           have h6:l*sz≤m.toNat*sz:=Nat.mul_le_mul_right _ (by omega)
           rw[Nat.sub_mul]; omega
     ·cases hm
    ·cases hm
  ·rename_i xs
   split at hm
   ·have hsl:∃ a len cap,ux= .slice a len cap:=by
     cases hx with
     | p _ _ hp=>cases hp with
      | nil a cap _=>exact ⟨a,0,cap,rfl⟩
      | ls xs a cap _ _ _ _ _ _ _ _=>exact ⟨some a,_,cap,rfl⟩
    obtain ⟨a,len,cap,hux⟩:=hsl
    split at hm
    ·cases hm
     exact newRow a len cap hux .i64 _ _ (.inl rfl) rfl rfl rfl rfl
    ·cases hm
     exact newRow a len cap hux _ _ _ (.inr rfl) rfl rfl rfl rfl
    ·cases hm
   ·cases hm
  ·cases hm
 ·cases hm

end Go.Ax
namespace Go.Ax
open Go.RowKit

variable [Glob] {P : Program} {F : Nat → Prop}

def aQ (F:Nat→Prop) (B:List Box) (ρ:Aj) (w:World) (r:AV) (B':List Box):Ending→World→Prop:=
 fun e w'=>∃ v ρ',e= .returned v∧Inv F B' ρ' w'∧Ext F B ρ w B' ρ' w'∧VRel F B' ρ' w' r v

def CallOk (P:Program) (f:FuncId) (args:Array Value) (w:World) (R:Ending→World→Prop):Prop:=
 ((callFunc f args).run P w= .ok (.enter f args) w∧Calls P f args w R)∨∃ v w',(callFunc f args).run P w= .ok (.value v) w'∧R (.returned v) w'

def ArgsRel (F:Nat→Prop) (B:List Box) (ρ:Aj) (w:World) (as:List AV) (us:List Value):Prop:=
 as.length=us.length∧∀ (j:Nat) (p:AV) (u:Value),as[j]? = some p→us[j]? = some u→VRel F B ρ w p u

def SoundF (P:Program) (f:Nat) (s:FSpec):Prop:=
 ∀ args B r B',s.run args B=some (r,B')→∀ (F:Nat→Prop) ρ w us,Inv F B ρ w→ArgsRel F B ρ w args us→CallOk P f us.toArray w (aQ F B ρ w r B')

def QA (F:Nat→Prop) (P:Program) (o:Oper) (a:Act) (w:World) (B:List Box) (ρ:Aj) (v:AV) (B':List Box):Prop:=
 ∀ (K:Act→World→Prop) (Q:Exit→Act→World→Prop),(∀ x w' ρ',Inv F B' ρ' w'→Ext F B ρ w B' ρ' w'→VRel F B' ρ' w' v x→K (a.put o.dst x) w')→o.wp P a w K Q

theorem ok_value {o:Oper} {a:Act} {w w':World} {B B':List Box} {ρ ρ':Aj} {v:AV} {x:Value} (h:(execOp a.eval o).run P w= .ok (.value x) w') (hI:Inv F B' ρ' w') (hE:Ext F B ρ w B' ρ' w') (hv:VRel F B' ρ' w' v x):QA F P o a w B ρ v B':=by
 intro K Q hK
 unfold Oper.wp
 rw[h]
 exact hK x w' ρ' hI hE hv

theorem SK {o:Oper} {a:Act} {w w':World} {B B':List Box} {ρ ρ':Aj} (h:(execOp a.eval o).run P w= .ok .skip w') (hI:Inv F B' ρ' w') (hE:Ext F B ρ w B' ρ' w'):QA F P o a w B ρ .u B':=by
 intro K Q hK
 unfold Oper.wp
 rw[h]
 exact hK undef w' ρ' hI hE (.u _)

theorem lw {o:Oper} {a:Act} {w:World} {B B':List Box} {ρ:Aj} {v:AV} {f:FuncId} {us:Array Value} (h:(execOp a.eval o).run P w=(callFunc f us).run P w) (hc:CallOk P f us w (aQ F B ρ w v B')):QA F P o a w B ρ v B':=by
 intro K Q hK
 unfold Oper.wp
 rw[h]
 rcases hc with ⟨h1,h2⟩ | ⟨x,w',h1,x',ρ',e,hI,hE,hv⟩
 ·rw[h1]
  refine h2.mono fun e w' hp=>?_
  obtain ⟨x,ρ',rfl,hI,hE,hv⟩:=hp
  exact hK x w' ρ' hI hE hv
 ·rw[h1]
  cases e
  exact hK x w' ρ' hI hE hv

theorem QB {B:List Box} {ρ:Aj} {w:World} {n:Nat} {t:T} {a:Act} (hR:Rel F B ρ w n t a) (xs:List Operand):ArgsRel F B ρ w (xs.map (AR t)) (xs.map a.eval):=by
 refine ⟨by simp,fun j p u hp hu=>?_⟩
 rw[List.getElem?_map] at hp hu
 cases hq:xs[j]? with
 | none=>rw[hq] at hp; cases hp
 | some x=>rw[hq] at hp hu; cases hp; cases hu; exact hR.eval x

theorem ArgsRel.append {B:List Box} {ρ:Aj} {w:World} {as bs:List AV} {us vs:List Value} (h:ArgsRel F B ρ w as us) (g:ArgsRel F B ρ w bs vs):ArgsRel F B ρ w (as++bs) (us++vs):=by
 refine ⟨by simp[h.1,g.1],fun j p u hp hu=>?_⟩
 rw[List.getElem?_append] at hp hu
 split at hp
 ·rename_i hlt
  rw[if_pos (by rw[←h.1]; exact hlt)] at hu
  exact h.2 j p u hp hu
 ·rename_i hge
  rw[if_neg (by rw[←h.1]; exact hge),←h.1] at hu
  exact g.2 _ p u hp hu

theorem Ta {B:List Box} {ρ:Aj} {w:World} {n:Nat} {t:T} {a:Act} (hR:Rel F B ρ w n t a) (ps:Array (Nat×Operand)):
  (ps.toList.map fun q=>(q.1,AR t q.2)).length=(ps.map fun (i,x)=>(i,a.eval x)).size ∧
  ∀ (i:Nat) (p:Nat×AV) (v:Nat×Value),(ps.toList.map fun q=>(q.1,AR t q.2))[i]? = some p→(ps.map fun (i,x)=>(i,a.eval x))[i]? = some v→p.1=v.1∧VRel F B ρ w p.2 v.2:=by
 refine ⟨by simp,fun i p v hp hv=>?_⟩
 rw[List.getElem?_map] at hp
 rw[Array.getElem?_map] at hv
 cases hq:ps[i]? with
 | none=>rw[hq] at hv; cases hv
 | some x=>
  have hq':ps.toList[i]? = some x:=by simpa using hq
  rw[hq] at hv
  rw[hq'] at hp
  cases hp
  cases hv
  exact ⟨rfl,hR.eval x.2⟩

theorem YD {Γ:BF} {o:Oper} {a:Act} {w:World} {B B':List Box} {ρ:Aj} {n:Nat} {t:T} {v:AV} (hR:Rel F B ρ w n t a) {b:Builtin} {c:Call} (ho:o.op= .call c) (hb:c.callee= .builtin b)
  (hm:E3 P b c.argTypes B (c.args.toList.map (AR t))=some (v,B')):QA F P o a w B ρ v B':=by
 obtain ⟨cs,hrun⟩:∃ cs,(execOp a.eval o).run P w=(builtin b c.argTypes o.type cs (c.args.map a.eval)).run P w:=⟨_,by
  simp only[execOp,ho,resolve,hb,Sem.run_bind,Sem.run_pure,Result.andThen_ok,invoke]
  rfl⟩
 have har:=QB hR c.args.toList
 have hargs:c.args.map a.eval=(c.args.toList.map a.eval).toArray:=by
  apply Array.ext'; simp
 rw[hargs] at hrun
 generalize c.args.toList.map (AR t)=as at *
 generalize c.args.toList.map a.eval=us at *
 have len2:∀ {x y:AV},as= [x,y]→∃ u z,us= [u,z]∧VRel F B ρ w x u∧VRel F B ρ w y z:=by
  intro x y h
  subst h
  match us,har with
  | [u,z],har=>exact ⟨u,z,rfl,har.2 0 _ _ rfl rfl,har.2 1 _ _ rfl rfl⟩
  | [],har=>exact absurd har.1 (by simp)
  | [_],har=>exact absurd har.1 (by simp)
  | _::_::_::_,har=>exact absurd har.1 (by simp)
 unfold E3 at hm
 split at hm
 ·rename_i x
  match us,har with
  | [],har=>exact absurd har.1 (by simp)
  | _::_::_,har=>exact absurd har.1 (by simp)
  | [u],har=>
   have hx:=har.2 0 _ _ rfl rfl
   cases ht:c.argTypes[0]? with
   | none=>rw[ht] at hm; cases hm
   | some ty=>
    rw[ht] at hm
    simp only[Option.bind_some] at hm
    cases hl:aK P ty x with
    | none=>rw[hl] at hm; cases hm
    | some q=>
     rw[hl] at hm
     cases hm
     obtain ⟨z,e1,e2⟩:=lq (P:=P) (ty:=o.type) ht hx hl
     exact ok_value (by rw[hrun]; simp[builtin,e1]) hR.inv (.refl _ _ _) e2
 ·rename_i s x
  obtain ⟨u,z,rfl,h1,h2⟩:=len2 rfl
  cases ht:c.argTypes[0]? with
  | none=>rw[ht] at hm; cases hm
  | some ty=>
  rw[ht] at hm
  simp only[Option.bind_some] at hm
  cases htx:c.argTypes[1]? with
  | none=>rw[htx] at hm; cases hm
  | some tx=>
  rw[htx] at hm
  simp only[Option.bind_some] at hm
  obtain ⟨y,w',ρ',e1,e2,e3,e4⟩:=aL (P:=P) (ty:=o.type) hR.inv h1 h2 hm
  have hcong:(Builtin.append_ c.argTypes o.type [u,z].toArray).run P w=(Builtin.append_ #[ty,tx] o.type #[u,z]).run P w:=by
   unfold Builtin.append_
   simp[ht,htx]
  exact ok_value (by rw[hrun]; simp only[builtin,Sem.run_bind]; rw[hcong,e1]; rfl) e2 e3 e4
 ·rename_i x rest
  match us,har with
  | [],har=>exact absurd har.1 (by simp)
  | u::us,har=>
   cases hq:Fv true x rest with
   | none=>rw[hq] at hm; cases hm
   | some q=>
    rw[hq] at hm
    cases hm
    obtain ⟨z,e1,e2⟩:=VT (P:=P) rest us x _ u (har.2 0 _ _ rfl rfl) (by simpa using har.1) (fun j p u h1 h2=>har.2 (j+1) p u (by simpa using h1) (by simpa using h2)) hq
    exact ok_value (by rw[hrun]; simp only[builtin,Sem.run_bind,Builtin.min_]; rw[e1]; rfl) hR.inv (.refl _ _ _) e2
 ·rename_i x rest
  match us,har with
  | [],har=>exact absurd har.1 (by simp)
  | u::us,har=>
   cases hq:Fv false x rest with
   | none=>rw[hq] at hm; cases hm
   | some q=>
    rw[hq] at hm
    cases hm
    obtain ⟨z,e1,e2⟩:=VU (P:=P) rest us x _ u (har.2 0 _ _ rfl rfl) (by simpa using har.1) (fun j p u h1 h2=>har.2 (j+1) p u (by simpa using h1) (by simpa using h2)) hq
    exact ok_value (by rw[hrun]; simp only[builtin,Sem.run_bind,Builtin.max_]; rw[e1]; rfl) hR.inv (.refl _ _ _) e2
 ·rename_i x
  match us,har with
  | [],har=>exact absurd har.1 (by simp)
  | _::_::_,har=>exact absurd har.1 (by simp)
  | [u],har=>
   have hx:=har.2 0 _ _ rfl rfl
   cases ht:c.argTypes[0]? with
   | none=>rw[ht] at hm; cases hm
   | some ty=>
    rw[ht] at hm
    simp only[Option.bind_some] at hm
    cases hl:M8 P ty B x with
    | none=>rw[hl] at hm; cases hm
    | some q=>
     rw[hl] at hm
     cases hm
     obtain ⟨w',e1,e2,e3⟩:=dT (P:=P) (ty:=o.type) hR.inv hx hl
     have hcong:(Builtin.clear_ c.argTypes o.type [u].toArray).run P w=(Builtin.clear_ #[ty] o.type #[u]).run P w:=by
      unfold Builtin.clear_
      simp[ht]
     exact ok_value (by rw[hrun]; simp only[builtin,Sem.run_bind]; rw[hcong,e1]; rfl) e2 e3 (.tup [] [] rfl (fun j p u hp=>by simp at hp))
 ·rename_i x k
  obtain ⟨u,z,rfl,h1,h2⟩:=len2 rfl
  cases ht:c.argTypes[0]? with
  | none=>rw[ht] at hm; cases hm
  | some ty=>
  rw[ht] at hm
  simp only[Option.bind_some] at hm
  cases hl:OR P ty B x k with
  | none=>rw[hl] at hm; cases hm
  | some q=>
   rw[hl] at hm
   cases hm
   obtain ⟨w',e1,e2,e3⟩:=aO (P:=P) (tk:=ty) (ty:=o.type) hR.inv h1 h2 hl
   have hcong:(Builtin.delete_ c.argTypes o.type [u,z].toArray).run P w=(Builtin.delete_ #[ty,ty] o.type #[u,z]).run P w:=by
    unfold Builtin.delete_
    simp[ht]
   exact ok_value (by rw[hrun]; simp only[builtin,Sem.run_bind]; rw[hcong,e1]; rfl) e2 e3 (.tup [] [] rfl (fun j p u hp=>by simp at hp))
 ·cases hm

theorem iA {Γ:BF} (hΓ:∀ f,SoundF P f (Γ f)) {o:Oper} {a:Act} {w:World} {B B':List Box} {ρ:Aj} {n:Nat} {t:T} {v:AV} (hR:Rel F B ρ w n t a) {c:Call} (ho:o.op= .call c)
  (hm:E4 P Γ t B c=some (v,B')):QA F P o a w B ρ v B':=by
 unfold E4 at hm
 split at hm
 ·rename_i b hb
  exact YD (Γ:=Γ) hR ho hb hm
 ·rename_i f hf
  split at hm
  ·rename_i g cap hg
   have hv:=hR.eval f
   rw[hg] at hv
   cases hval:a.eval f with
   | func fn first us=>
    rw[hval] at hv
    cases hv with
    | fn _ _ vs h1 h2=>
    have har:=(QB hR c.args.toList).append ⟨h1,h2⟩
    have hargs:c.args.map a.eval=(c.args.toList.map a.eval).toArray:=by
     apply Array.ext'; simp
    have hrun:(execOp a.eval o).run P w=(callFunc g (c.args.toList.map a.eval++vs).toArray).run P w:=by
     simp only[execOp,ho,resolve,hf,hval,Deferred.ofValue,Sem.run_bind,Sem.run_pure,Result.andThen_ok,invoke]
     rw[hargs]
     congr 2
     apply Array.ext'
     simp
    exact lw hrun (hΓ g _ _ _ _ hm F ρ w _ hR.inv har)
   | _=>rw[hval] at hv; cases hv
  ·cases hm
 ·cases hm

end Go.Ax
namespace Go.Ax
open Go.RowKit

variable [Glob] {P : Program} {F : Nat → Prop}

theorem map_some {α β:Type} {f:α→β} {x:Option α} {y:β} (h:x.map f=some y):∃ a,x=some a∧f a=y:=by
 cases x with
 | none=>cases h
 | some a=>exact ⟨a,rfl,by simpa using h⟩

theorem db {Γ:BF} (hΓ:∀ f,SoundF P f (Γ f)) {o:Oper} {a:Act} {w:World} {B B':List Box} {ρ:Aj} {n:Nat} {t:T} {v:AV} (hR:Rel F B ρ w n t a) (hm:CH P Γ t B o.op=some (v,B')):QA F P o a w B ρ v B':=by
 have pureV:∀ {s:Sem Value} {x:AV},(execOp a.eval o=(do pure (Next.value (←s))))→(∃ z,s.run P w= .ok z w∧VRel F B ρ w x z)→some (x,B)=some (v,B')→QA F P o a w B ρ v B':=by
  intro s x h1 ⟨z,h2,h3⟩ h4
  cases h4
  exact ok_value (by rw[h1,Sem.run_bind,h2]; rfl) hR.inv (.refl _ _ _) h3
 cases ho:o.op <;> rw[ho] at hm <;> simp only[CH] at hm
 case move x=>cases hm; exact ok_value (x:=a.eval x) (by simp[execOp,ho]) hR.inv (.refl _ _ _) (hR.eval x)
 case assign x=>cases hm; exact ok_value (x:=a.eval x) (by simp[execOp,ho]) hR.inv (.refl _ _ _) (hR.eval x)
 case pick c x y=>
  obtain ⟨q,h1,h2⟩:=map_some hm
  cases h2
  have hc:=hR.eval c
  unfold L4 at h1
  split at h1
  ·rename_i b hb
   cases h1
   rw[hb] at hc
   have hv:=hc.val
   refine ok_value (x:=if q then a.eval x else a.eval y) (by simp[execOp,ho,hv,asBool]) hR.inv (.refl _ _ _) ?_
   cases q
   ·exact hR.eval y
   ·exact hR.eval x
  ·cases h1
 case alloc e=>
  cases hz:EF P e with
  | none=>rw[hz] at hm; cases hm
  | some z=>
   rw[hz] at hm
   simp only[Option.bind_some] at hm
   split at hm
   ·rename_i hlf
    cases hm
    obtain ⟨u,h1,h2⟩:=HT hz w hlf
    obtain ⟨x,w',ρ',e1,e2,e3,e4⟩:=Qr (P:=P) hR.inv e hlf (h2 F B ρ w)
    refine ok_value (x:=x) (w':=w') ?_ e2 e3 e4
    simp only[execOp,ho,Instr.alloc,Sem.run_bind,h1,Result.andThen_ok]
    simp only[Sem.run_bind] at e1
    rw[e1]
    rfl
   ·cases hm
 case box e x=>
  split at hm
  ·rename_i hlf
   cases hm
   obtain ⟨y,w',ρ',e1,e2,e3,e4⟩:=Qr (P:=P) hR.inv e hlf ((hR.eval x).cells hlf)
   refine ok_value (x:=y) (w':=w') ?_ e2 e3 e4
   simp only[execOp,ho,Instr.box,Sem.run_bind]
   simp only[Sem.run_bind] at e1
   rw[e1]
   rfl
  ·cases hm
 case build ty parts=>
  obtain ⟨x,h1,h2⟩:=map_some hm
  obtain ⟨g1,g2⟩:=Ta hR parts
  exact pureV (by simp[execOp,ho]) (dS g1 g2 h1) (by rw[h2])
 case buildSlice ty len parts=>
  obtain ⟨g1,g2⟩:=Ta hR parts
  obtain ⟨x,w',ρ',e1,e2,e3,e4⟩:=SI (P:=P) hR.inv g1 g2 hm
  refine ok_value (x:=x) (w':=w') ?_ e2 e3 e4
  simp only[execOp,ho,Sem.run_bind]
  rw[e1]
  rfl
 case makeSlice ty l c=>
  obtain ⟨x,w',ρ',e1,e2,e3,e4⟩:=UR (P:=P) hR.inv (hR.eval l) (hR.eval c) hm
  refine ok_value (x:=x) (w':=w') ?_ e2 e3 e4
  simp only[execOp,ho,Sem.run_bind]
  rw[e1]
  rfl
 case load ty x=>
  obtain ⟨y,h1,h2⟩:=map_some hm
  exact pureV (by simp only[execOp,ho]) (Qq hR.inv (hR.eval x) h1) (by rw[h2])
 case store ty x y=>
  obtain ⟨B1,h1,h2⟩:=map_some hm
  cases h2
  obtain ⟨w',e1,e2,e3⟩:=YA (P:=P) hR.inv (hR.eval x) (hR.eval y) h1
  refine SK (w':=w') ?_ e2 e3
  simp only[execOp,ho,Sem.run_bind]
  rw[e1]
  rfl
 case nilCheck x=>
  have hx:=hR.eval x
  split at hm
  ·rename_i b ver off hb
   cases hm
   rw[hb] at hx
   cases hv:a.eval x <;> rw[hv] at hx <;> cases hx
   rename_i ad hp
   exact ok_value (by simp[execOp,ho,hv]) hR.inv (.refl _ _ _) (.ptr _ _ _ _ hp)
  ·rename_i cs hb
   cases hm
   rw[hb] at hx
   cases hv:a.eval x <;> rw[hv] at hx <;> cases hx
   rename_i ad us h3 h1 h2 h4 h5 h6
   exact ok_value (by simp[execOp,ho,hv]) hR.inv (.refl _ _ _) (.rp _ _ us h3 h1 h2 h5 h4 h6)
  ·rename_i b hb
   cases hm
   rw[hb] at hx
   cases hv:a.eval x <;> rw[hv] at hx <;> cases hx
   rename_i r hp
   exact ok_value (by simp[execOp,ho,hv]) hR.inv (.refl _ _ _) (.op _ _ hp)
  ·cases hm
 case binOp op ty x y yt=>
  obtain ⟨z,h1,h2⟩:=map_some hm
  exact pureV (s:=(do eqGuard op ty x y (a.eval x) (a.eval y); binOp op ty (a.eval x) (a.eval y))) (by simp only[execOp,ho]) (lp (ox:=x) (oy:=y) (hR.eval x) (hR.eval y) h1) (by rw[h2])
 case unOp op ty x=>
  obtain ⟨z,h1,h2⟩:=map_some hm
  exact pureV (by simp only[execOp,ho]) (ob (hR.eval x) h1) (by rw[h2])
 case convert src dst x=>
  obtain ⟨z,w',ρ',e1,e2,e3,e4⟩:=YB (P:=P) hR.inv (hR.eval x) hm
  refine ok_value (x:=z) (w':=w') ?_ e2 e3 e4
  simp only[execOp,ho,Sem.run_bind]
  rw[e1]
  rfl
 case makeFunc f first cap=>
  cases f with
  | func f=>
   simp only[] at hm
   split at hm
   ·rename_i hf
    cases hm
    have hfe:first = #[]:=by simpa using hf
    have har:=QB hR cap.toList
    refine ok_value (x:= .func (.func f) #[] (cap.toList.map a.eval).toArray) ?_ hR.inv (.refl _ _ _) (.fn _ _ _ har.1 har.2)
    simp only[execOp,ho,Instr.makeFunc,hfe,Sem.run_bind,Sem.run_pure,Result.andThen_ok]
    have hc:cap.map a.eval=(cap.toList.map a.eval).toArray:=by apply Array.ext'; simp
    rw[hc]
    simp
   ·cases hm
  | _=>cases hm
 case slice ty x lo hi mx=>
  have opt:∀ (q:Option Operand) (y:AV),q.map (AR t)=some y→∃ u,q.map a.eval=some u∧VRel F B ρ w y u:=by
   intro q y hq
   cases q with
   | none=>cases hq
   | some q=>cases hq; exact ⟨_,rfl,hR.eval q⟩
  have optn:∀ (q:Option Operand),q.map (AR t)=none→q.map a.eval=none:=by
   intro q hq
   cases q with
   | none=>rfl
   | some q=>cases hq
  cases mx with
  | some m=>
   obtain ⟨z,ρ',e1,e2,e3,e4⟩:=aP (P:=P) hR.inv (hR.eval x) (hR.eval m) (opt lo) (optn lo) (opt hi) (optn hi) hm
   refine ok_value (x:=z) (w':=w) ?_ e2 e3 e4
   simp only[execOp,ho,Option.map_some,Sem.run_bind]
   rw[e1]
   rfl
  | none=>
   obtain ⟨z,h1,h2⟩:=map_some hm
   have opt:∀ (q:Option Operand) (y:AV),q.map (AR t)=some y→∃ u,q.map a.eval=some u∧VRel F B ρ w y u:=by
    intro q y hq
    cases q with
    | none=>cases hq
    | some q=>cases hq; exact ⟨_,rfl,hR.eval q⟩
   have optn:∀ (q:Option Operand),q.map (AR t)=none→q.map a.eval=none:=by
    intro q hq
    cases q with
    | none=>rfl
    | some q=>cases hq
   exact pureV (s:=Instr.sliceAt ty (a.eval x) (lo.map a.eval) (hi.map a.eval) none) (by simp only[execOp,ho,Option.map_none]) (dW hR.inv (hR.eval x) (opt lo) (optn lo) (opt hi) (optn hi) h1) (by rw[h2])
 case makeMap ty r=>
  cases r with
  | some r=>cases hm
  | none=>
   simp only at hm
   split at hm
   ·rename_i kt et hu
    cases hm
    obtain ⟨z,w',ρ',e1,e2,e3,e4⟩:=YC (P:=P) hR.inv hu
    refine ok_value (x:=z) (w':=w') ?_ e2 e3 e4
    simp only[execOp,ho,Option.map_none,Sem.run_bind]
    rw[e1]
    rfl
   ·cases hm
 case lookup ty x k q=>
  obtain ⟨z,h1,h2⟩:=map_some hm
  exact pureV (by simp only[execOp,ho]) (aM hR.inv (hR.eval x) (hR.eval k) h1) (by rw[h2])
 case mapUpdate ty x k y=>
  obtain ⟨B1,h1,h2⟩:=map_some hm
  cases h2
  obtain ⟨w',e1,e2,e3⟩:=Mz (P:=P) hR.inv (hR.eval x) (hR.eval k) (hR.eval y) h1
  refine SK (w':=w') ?_ e2 e3
  simp only[execOp,ho,Sem.run_bind]
  rw[e1]
  rfl
 case insert ty x k y=>
  obtain ⟨B1,h1,h2⟩:=map_some hm
  cases h2
  obtain ⟨w',e1,e2,e3⟩:=Mz (P:=P) hR.inv (hR.eval x) (hR.eval k) (hR.eval y) h1
  refine SK (w':=w') ?_ e2 e3
  simp only[execOp,ho,Sem.run_bind]
  rw[e1]
  rfl
 case fieldAddr ty x j=>
  obtain ⟨z,h1,h2⟩:=map_some hm
  exact pureV (by simp only[execOp,ho]) (UT (hR.eval x) h1) (by rw[h2])
 case field ty x j=>
  obtain ⟨z,h1,h2⟩:=map_some hm
  exact pureV (by simp only[execOp,ho]) (dU (hR.eval x) h1) (by rw[h2])
 case indexAddr ty x i=>
  obtain ⟨z,h1,h2⟩:=map_some hm
  exact pureV (by simp only[execOp,ho]) (UU (hR.eval x) (hR.eval i) h1) (by rw[h2])
 case index ty x i=>
  obtain ⟨z,h1,h2⟩:=map_some hm
  exact pureV (by simp only[execOp,ho]) (dV (hR.eval x) (hR.eval i) h1) (by rw[h2])
 case extract x i=>
  have hx:=hR.eval x
  split at hm
  ·rename_i vs hb
   obtain ⟨z,h1,h2⟩:=map_some hm
   cases h2
   rw[hb] at hx
   cases hv:a.eval x with
   | tuple us=>
    rw[hv] at hx
    cases hx with
    | tup _ us h3 h4=>
    have hi:i<us.length:=by rw[←h3]; exact (List.getElem?_eq_some_iff.1 h1).1
    refine ok_value (x:=us[i]) ?_ hR.inv (.refl _ _ _) (h4 i v _ h1 (List.getElem?_eq_getElem hi))
    simp[execOp,ho,hv,Instr.extract,hi]
   | _=>rw[hv] at hx; cases hx
  ·cases hm
 case call c=>exact iA hΓ hR ho hm
 all_goals cases hm

theorem dc {B:List Box} {ρ:Aj} {w:World} {n:Nat} {t:T} {a:Act} (hR:Rel F B ρ w n t a) (ops:List Oper) {o:Oper} {q:Bool} (h:Cl ops t o=some q):Region.wanted o (yielded ops.toArray a.tmps)=q:=by
 unfold Cl at h
 unfold Region.wanted
 cases hg:o.guard with
 | none=>rw[hg] at h; cases h; rfl
 | some g=>
  obtain ⟨j,want⟩:=g
  rw[hg] at h
  simp only at h ⊢
  unfold yielded
  have hops:ops.toArray[j]? = ops[j]? := by simp
  rw[hops]
  cases hd:(ops[j]?).bind (·.dst) with
  | none=>rw[hd] at h; cases h
  | some d=>
   rw[hd] at h
   simp only[Option.bind_some] at h ⊢
   have hv:=hR.tm d
   split at h
   ·rename_i b hb
    cases h
    rw[hb] at hv
    have he:=hv.val
    have:a.tmps[d]? = some (.bool b):=by
     rcases Nat.lt_or_ge d a.tmps.size with hlt | hge
     ·simp[hlt] at he; simp[hlt,he]
     ·simp[hge,undef] at he
    rw[this]
    simp
   ·rename_i vs hb
    cases h
    rw[hb] at hv
    have he:=hv.val
    rcases Nat.lt_or_ge d a.tmps.size with hlt | hge
    ·simp[hlt] at he; simp[hlt,he]
    ·simp[hge]
   ·cases h

theorem L8 {Γ:BF} (hΓ:∀ f,SoundF P f (Γ f)) {ops:List Oper} {o:Oper} {n:Nat} {s s':AS} (hs:Gu P Γ n ops o s=some s') {ρ:Aj} {w:World} {a:Act} (hR:Rel F s.B ρ w n s.t a) {K:Act→World→Prop} {Q:Exit→Act→World→Prop}
  (hK:∀ a' w' ρ',Rel F s'.B ρ' w' n s'.t a'→Ext F s.B ρ w s'.B ρ' w'→K a' w'):
  if Region.wanted o (yielded ops.toArray a.tmps) then o.wp P a w K Q else K (a.put o.dst undef) w:=by
 unfold Gu at hs
 cases hw:Cl ops s.t o with
 | none=>rw[hw] at hs; cases hs
 | some q=>
  rw[hw] at hs
  rw[dc hR ops hw]
  simp only[Option.bind_some] at hs
  cases q with
  | true=>
   simp only[if_true] at hs ⊢
   cases hop:CH P Γ s.t s.B o.op with
   | none=>rw[hop] at hs; cases hs
   | some r=>
    obtain ⟨v,B'⟩:=r
    rw[hop] at hs
    simp only[Option.bind_some] at hs
    obtain ⟨t',h1,h2⟩:=map_some hs
    subst h2
    exact db hΓ hR hop K Q (fun x w' ρ' hI hE hv=>hK _ _ _ (hR.put hE hI hv h1) hE)
  | false=>
   simp only[Bool.false_eq_true,if_false] at hs ⊢
   obtain ⟨t',h1,h2⟩:=map_some hs
   subst h2
   exact hK _ _ ρ (hR.put (.refl _ _ _) hR.inv (.p _ _ (.v _)) h1) (.refl _ _ _)

end Go.Ax
