/- Any operation: what it does in a world is what the second reading says. -/
import Derived.Test.YtddkloofiknjdaaDoorG6
set_option linter.unusedVariables false
set_option linter.unusedSimpArgs false
set_option linter.unusedSectionVars false
namespace Go.Ax
open Go.RowKit

variable [Glob] {P : Program} {F : Nat → Prop}

theorem len_run {B:List Box} {ρ:Loc} {w:World} {ts:Array TypeId} {ty t:TypeId} {x v:AV} {ux:Value} (ht:ts[0]? = some t) (hx:VRel F B ρ w x ux) (hm:lenA P t x=some v):
  ∃ z,(Builtin.len_ ts ty #[ux]).run P w= .ok z w∧VRel F B ρ w v z:=by
 unfold lenA at hm
 split at hm
 ·rename_i s hu
  obtain rfl:=hx.val
  cases hm
  exact ⟨_,by simp[Builtin.len_,ht,run_underlying hu,goInt], .p _ _ (.v _)⟩
 ·rename_i e xs hu
  cases hm
  rcases ls_inv hx with ⟨a,cap,rfl,rfl,_⟩ | ⟨a,cap,us,rfl,_⟩
  ·exact ⟨_,by simp[Builtin.len_,ht,run_underlying hu,goInt], .p _ _ (.v _)⟩
  ·exact ⟨_,by simp[Builtin.len_,ht,run_underlying hu,goInt], .p _ _ (.v _)⟩
 ·rename_i e a n c hu
  obtain rfl:=hx.val
  cases hm
  exact ⟨_,by simp[Builtin.len_,ht,run_underlying hu,goInt], .p _ _ (.v _)⟩
 ·rename_i e b ver sz off len hu
  cases hm
  cases hx with
  | rs _ _ _ _ _ a cap hok=>exact ⟨_,by simp[Builtin.len_,ht,run_underlying hu,goInt], .p _ _ (.v _)⟩
 ·rename_i n e hu
  cases hm
  exact ⟨_,by simp[Builtin.len_,ht,run_underlying hu,goInt], .p _ _ (.v _)⟩
 ·cases hm

theorem min2_run {B:List Box} {ρ:Loc} {w:World} {x y v:AV} {ux uy:Value} (hx:VRel F B ρ w x ux) (hy:VRel F B ρ w y uy) (hm:minmaxA true x y=some v):∃ z,(Builtin.min2 ux uy).run P w= .ok z w∧VRel F B ρ w v z:=by
 unfold minmaxA at hm
 split at hm
 ·obtain rfl:=hx.val
  obtain rfl:=hy.val
  split at hm
  ·cases hm; exact ⟨_,rfl, .p _ _ (.v _)⟩
  ·cases hm
 ·obtain rfl:=hx.val
  obtain rfl:=hy.val
  cases hm
  exact ⟨_,by simp[Builtin.min2,Op.stringOp,asBool], .p _ _ (.v _)⟩
 ·cases hm

theorem max2_run {B:List Box} {ρ:Loc} {w:World} {x y v:AV} {ux uy:Value} (hx:VRel F B ρ w x ux) (hy:VRel F B ρ w y uy) (hm:minmaxA false x y=some v):∃ z,(Builtin.max2 ux uy).run P w= .ok z w∧VRel F B ρ w v z:=by
 unfold minmaxA at hm
 split at hm
 ·obtain rfl:=hx.val
  obtain rfl:=hy.val
  split at hm
  ·cases hm; exact ⟨_,rfl, .p _ _ (.v _)⟩
  ·cases hm
 ·obtain rfl:=hx.val
  obtain rfl:=hy.val
  cases hm
  exact ⟨_,by simp[Builtin.max2,Op.stringOp,asBool], .p _ _ (.v _)⟩
 ·cases hm

theorem minL_run {B:List Box} {ρ:Loc} {w:World}:∀ (ys:List AV) (us:List Value) (x v:AV) (ux:Value),VRel F B ρ w x ux→ys.length=us.length →
  (∀ (j:Nat) (p:AV) (u:Value),ys[j]? = some p→us[j]? = some u→VRel F B ρ w p u)→minmaxL true x ys=some v→∃ z,(us.foldlM Builtin.min2 ux).run P w= .ok z w∧VRel F B ρ w v z
 | [],us,x,v,ux,hx,hl,_,hm=>by
  cases us with
  | cons=>simp at hl
  | nil=>cases hm; exact ⟨ux,rfl,hx⟩
 | y::ys,us,x,v,ux,hx,hl,hr,hm=>by
  cases us with
  | nil=>simp at hl
  | cons u us=>
   simp only[minmaxL] at hm
   cases hz:minmaxA true x y with
   | none=>rw[hz] at hm; cases hm
   | some q=>
    rw[hz] at hm
    obtain ⟨z,e1,e2⟩:=min2_run (P:=P) hx (hr 0 y u rfl rfl) hz
    obtain ⟨z2,e3,e4⟩:=minL_run ys us q v z e2 (by simpa using hl) (fun j p u h1 h2=>hr (j+1) p u (by simpa using h1) (by simpa using h2)) hm
    exact ⟨z2,by rw[List.foldlM_cons,Sem.run_bind,e1]; exact e3,e4⟩

theorem maxL_run {B:List Box} {ρ:Loc} {w:World}:∀ (ys:List AV) (us:List Value) (x v:AV) (ux:Value),VRel F B ρ w x ux→ys.length=us.length →
  (∀ (j:Nat) (p:AV) (u:Value),ys[j]? = some p→us[j]? = some u→VRel F B ρ w p u)→minmaxL false x ys=some v→∃ z,(us.foldlM Builtin.max2 ux).run P w= .ok z w∧VRel F B ρ w v z
 | [],us,x,v,ux,hx,hl,_,hm=>by
  cases us with
  | cons=>simp at hl
  | nil=>cases hm; exact ⟨ux,rfl,hx⟩
 | y::ys,us,x,v,ux,hx,hl,hr,hm=>by
  cases us with
  | nil=>simp at hl
  | cons u us=>
   simp only[minmaxL] at hm
   cases hz:minmaxA false x y with
   | none=>rw[hz] at hm; cases hm
   | some q=>
    rw[hz] at hm
    obtain ⟨z,e1,e2⟩:=max2_run (P:=P) hx (hr 0 y u rfl rfl) hz
    obtain ⟨z2,e3,e4⟩:=maxL_run ys us q v z e2 (by simpa using hl) (fun j p u h1 h2=>hr (j+1) p u (by simpa using h1) (by simpa using h2)) hm
    exact ⟨z2,by rw[List.foldlM_cons,Sem.run_bind,e1]; exact e3,e4⟩

theorem bytes_cells:∀ (cs:List AV) (us:List Value) (bs:List UInt8) {B:List Box} {ρ:Loc} {w:World},cs.length=us.length→(∀ (j:Nat) (p:AV) (u:Value),cs[j]? = some p→us[j]? = some u→VRel F B ρ w p u)→bytesOfCells cs=some bs →
  ∃ ns:List Int,us=ns.map (Value.int .u8)∧bs=ns.map fun n=>UInt8.ofNat n.toNat
 | [],us,bs,_,_,_,hl,_,hm=>by
  cases us with
  | cons=>simp at hl
  | nil=>cases hm; exact ⟨[],rfl,rfl⟩
 | c::cs,us,bs,B,ρ,w,hl,hr,hm=>by
  cases us with
  | nil=>simp at hl
  | cons u us=>
   unfold bytesOfCells at hm
   split at hm
   ·rename_i h; cases h
   ·rename_i n r h
    cases h
    cases hb:bytesOfCells cs with
    | none=>rw[hb] at hm; cases hm
    | some bs'=>
     rw[hb] at hm
     cases hm
     obtain ⟨ns,e1,e2⟩:=bytes_cells cs us bs' (by simpa using hl) (fun j p u h1 h2=>hr (j+1) p u (by simpa using h1) (by simpa using h2)) hb
     obtain rfl:=(hr 0 _ u rfl rfl).val
     exact ⟨n::ns,by simp[e1],by simp[e2]⟩
   ·cases hm

theorem push_list (ns:List Int):∀ (s:ByteArray),ns.foldl (fun r n=>r.push (UInt8.ofNat n.toNat)) s=⟨(s.data.toList++ns.map fun n=>UInt8.ofNat n.toNat).toArray⟩:=by
 induction ns with
 | nil=>intro s; simp
 | cons n ns ih=>
  intro s
  rw[List.foldl_cons,ih]
  congr 1
  apply Array.ext'
  simp[ByteArray.push]

theorem bw_os (w:World) (e:TypeId) (s:ByteArray):(Lib.bytesWorld w e s).os=w.os:=by
 unfold Lib.bytesWorld World.freeze; split <;> rfl
theorem bw_tape (w:World) (e:TypeId) (s:ByteArray):(Lib.bytesWorld w e s).tape=w.tape:=by
 unfold Lib.bytesWorld World.freeze; split <;> rfl
theorem bw_output (w:World) (e:TypeId) (s:ByteArray):(Lib.bytesWorld w e s).output=w.output:=by
 unfold Lib.bytesWorld World.freeze; split <;> rfl

theorem freeze_at {w:World} {k n:Nat} {us:Array Value} {e:TypeId} {fr:Nat×Nat} (h:w.heap[k]? = some (.cells us e fr)):
  (w.freeze ⟨k,n,none⟩ 1).heap[k]? = some (.cells us e (if fr.1 == fr.2 then (n,n+1) else (min fr.1 n,max fr.2 (n+1))))∧(∀ j,j≠k→(w.freeze ⟨k,n,none⟩ 1).heap[j]? = w.heap[j]?)∧(w.freeze ⟨k,n,none⟩ 1).heap.size=w.heap.size ∧
  (w.freeze ⟨k,n,none⟩ 1).os=w.os∧(w.freeze ⟨k,n,none⟩ 1).tape=w.tape∧(w.freeze ⟨k,n,none⟩ 1).output=w.output:=by
 obtain ⟨lo,hi⟩:=fr
 unfold World.freeze
 rw[if_neg (by decide)]
 refine ⟨?_,fun j hj=>?_,by simp,rfl,rfl,rfl⟩
 ·simp only[Array.getElem?_modify,if_true,h,Option.map_some]
 ·simp only[Array.getElem?_modify]
  rw[if_neg (fun e=>hj e.symm)]

theorem convert_run {B B':List Box} {ρ:Loc} {w:World} (hI:Inv F B ρ w) {src dst:TypeId} {x v:AV} {ux:Value} (hx:VRel F B ρ w x ux) (hm:convertA P src dst B x=some (v,B')):
  ∃ z w' ρ',(convert src dst ux).run P w= .ok z w'∧Inv F B' ρ' w'∧Ext F B ρ w B' ρ' w'∧VRel F B' ρ' w' v z:=by
 unfold convertA at hm
 split at hm
 ·rename_i d k n hs hd
  obtain rfl:=hx.val
  cases hm
  exact ⟨_,w,ρ,by simp[convert,run_underlying hs,run_underlying hd,Conv.intToInt],hI, .refl _ _ _, .p _ _ (.v _)⟩
 ·rename_i d s hs hd
  obtain rfl:=hx.val
  cases hm
  exact ⟨_,w,ρ,by simp[convert,run_underlying hs,run_underlying hd],hI, .refl _ _ _, .p _ _ (.v _)⟩
 ·rename_i e s hs hd
  obtain rfl:=hx.val
  split at hm
  ·rename_i he
   cases hm
   have hr:=Lib.run_convert_string_bytes (P:=P) w src dst e s hs hd he
   have hlen:s.size≤grownCap w s.size 0 e:=grownCap_ge w s.size 0 e
   have hcs:(Lib.bytesCells w e s).size=grownCap w s.size 0 e:=by
    have hds:s.data.size=s.size:=rfl
    simp[Lib.bytesCells,hds]; omega
   have hal:(s.data.toList.map byteA).length=s.size:=by rw[List.length_map,Array.length_toList]; rfl
   obtain ⟨g1,g2⟩:=new_box' (w':=Lib.bytesWorld w e s) (us:=Lib.bytesCells w e s) (e:=e) (fr:=((Lib.bytesCells w e s).size,(Lib.bytesCells w e s).size+1)) (cs:=s.data.toList.map byteA) hI true (List.all_eq_true.2 (fun q hq=>by obtain ⟨b,_,rfl⟩:=List.mem_map.1 hq; rfl))
    (by rw[hal,hcs]; exact hlen) (fun i c hc=>by
     rw[List.getElem?_map] at hc
     cases hq:s.data.toList[i]? with
     | none=>rw[hq] at hc; cases hc
     | some b=>
      rw[hq] at hc
      cases hc
      refine ⟨.int .u8 b.toNat,?_, .p _ _ (.v _)⟩
      have hi:i<s.data.size:=by simpa using (List.getElem?_eq_some_iff.1 hq).1
      rw[Lib.bytesCells,Array.getElem?_append_left (by simpa using hi)]
      have:s.data[i]? = some b:=by simpa using hq
      simp[this]) ⟨by omega,fun i h1 h2=>by omega⟩ (fun k hk=>Lib.bytesWorld_at_old w e s k hk) (Lib.bytesWorld_at_new w e s) (bw_os w e s) (bw_tape w e s) (bw_output w e s)
   refine ⟨_,_,_,hr,g1,g2, .rs _ _ _ _ _ _ _ ⟨by simp,hlen,fun _=>rfl,fun row v cs' h=>?_⟩⟩
   simp at h
   obtain ⟨rfl,rfl,rfl⟩:=h
   refine ⟨Nat.le_refl _,fun _=>⟨by rw[hal]; omega, .inr ⟨w.heap.size,0,by simp,rfl,e,(Lib.bytesCells w e s).size,?_,by omega⟩⟩⟩
   unfold World.shape?
   rw[Lib.bytesWorld_at_new]
  ·cases hm
 ·rename_i e0 e b ver sz off len hs hd
  split at hm
  ·rename_i row v0 cs he hb
   split at hm
   ·rename_i hc
    cases hm
    simp only[Bool.and_eq_true,Nat.blt_eq] at hc
    obtain ⟨⟨hsd,hl⟩,hv⟩:=hc
    have hv:=Nat.eq_of_beq_eq_true hv
    have hsd:=Nat.eq_of_beq_eq_true hsd
    subst hv
    subst hsd
    cases hx with
    | rs _ _ _ _ _ a cap hok=>
     obtain ⟨g1,g2,g3,g4⟩:=hok
     obtain ⟨_,g5⟩:=g4 _ _ _ hb
     obtain ⟨g6,g7⟩:=g5 rfl
     rcases g7 with h0 | ⟨k,o',hr,ha,e',m,hsh,hle⟩
     ·omega
     ·subst ha
      obtain ⟨us,e2,fr,q1,q2,q3,q4⟩:=hI.cell hb hr
      have hsh2:w.shape? k=some (e2,us.size):=by unfold World.shape?; rw[q1]
      obtain ⟨f1,f2,f3,f4,f5,f6⟩:=freeze_at (n:=us.size) q1
      have hset:B.set b (.cells row ver cs)=B:=by
       apply List.ext_getElem?
       intro j
       rw[List.getElem?_set]
       split
       ·rename_i e; subst e; exact hb.symm
       ·rfl
      have hE:Ext F B ρ w B ρ (w.freeze ⟨k,us.size,none⟩ 1):=by
       refine ⟨Nat.le_of_eq f3.symm,f4,f5,f6,fun j hj ho=>⟨f2 j (fun e=>ho (e▸ .cells hb hr)),ho⟩,fun j e n hj=>?_,Nat.le_refl _,fun _ _ v cs _ h=>⟨v,cs,h,Nat.le_refl _,fun _=>⟨rfl,rfl⟩⟩,fun _ cs Φ _ h=>⟨cs,Φ,h,rfl⟩,fun j hj _=>f2 j (fun e=>hI.farb _ _ _ _ _ _ hb hr (e▸hj))⟩
       by_cases ejk:j=k
       ·subst ejk
        unfold World.shape? at hj ⊢
        rw[q1] at hj
        rw[f1]
        exact hj
       ·unfold World.shape? at hj ⊢
        rw[f2 j ejk]
        exact hj
      refine ⟨.slice (some ⟨k,o'+off,none⟩) len cap,w.freeze ⟨k,us.size,none⟩ 1,ρ,?_,?_,hE,(VRel.rs _ _ _ _ _ _ _ ⟨g1,g2,g3,g4⟩).ext hE⟩
      ·have hmk:(markStringish ⟨k,o'+off,none⟩).run P w= .ok () (w.freeze ⟨k,us.size,none⟩ 1):=by
        simp[markStringish,hsh2]
       have hee:e0=e:=by rw[hs] at hd; cases hd; rfl
       subst hee
       simp[convert,run_underlying hs,run_underlying he,hmk]
      ·have:=hI.other (row':=row) (v':=ver) (cs':=cs) (ρ':=ρ) (w':=w.freeze ⟨k,us.size,none⟩ 1) hb (by rw[hset]; exact hE) (fun _ _=>rfl) (hI.leaf _ _ _ _ hb) (fun c x l j hne hc hl hx=>f2 j (fun e=>hne (hI.injx _ _ _ _ _ _ k hc hb hl hr (e▸hx) rfl)))
        (fun c x l j o3 hne hc hl hx hk'=>hne (hI.injx _ _ _ _ _ (j,o3) j hc hb hl hk' hx rfl)) (fun k2 o2 h2=>hI.farb _ _ _ _ _ _ hb h2) (fun k2 o2 h0 h2=>by subst h0; exact hI.off0 _ _ _ _ _ hb h2) (.inr ⟨k,o',us,e2,_,hr,f1,q2,?_,fun i c hc=>?_⟩)
       ·rw[hset] at this
        exact this
       ·obtain ⟨z1,z2⟩:=q3
        obtain ⟨lo,hi⟩:=fr
        simp only at z1 z2 ⊢
        by_cases e:lo=hi
        ·subst e
         simp only[beq_self_eq_true,if_true]
         exact ⟨by omega,fun i h1 h2=>by omega⟩
        ·have e':(lo == hi)=false:=by simpa using e
         rw[e']
         simp only[Bool.false_eq_true,if_false]
         have:us.size≤lo:=by
          rcases Nat.lt_or_ge lo us.size with h | h
          ·exact absurd ⟨Nat.le_refl _,by omega⟩ (z2 lo h)
          ·exact h
         exact ⟨by simp only; omega,fun i h1 h2=>by simp only at h2; omega⟩
       ·obtain ⟨u,e1,e3⟩:=q4 i c hc
        rw[hset]
        exact ⟨u,e1,e3.ext hE⟩
   ·cases hm
  ·cases hm
 ·rename_i x0 _ _ y e hs hd hno
  split at hm
  ·rename_i he
   split at hm
   ·cases hm
    obtain rfl:=hx.val
    rename_i n c
    refine ⟨.string .empty,w,ρ,?_,hI, .refl _ _ _, .p _ _ (.v _)⟩
    rw[run_convert_bytes_string w src dst e _ _ _ hs he hd]
    rfl
   ·rename_i hnn
    cases hsr:srcA P src B 1 x0 with
    | none=>rw[hsr] at hm; cases hm
    | some q=>
    obtain ⟨n,cs⟩:=q
    rw[hsr] at hm
    simp only[Option.bind_some] at hm
    cases hb:bytesOfCells cs with
    | none=>rw[hb] at hm; cases hm
    | some bs=>
    rw[hb] at hm
    cases hm
    have hlf:cs.all AV.leaf=true:=by
     clear hsr hI hx
     induction cs generalizing bs with
     | nil=>rfl
     | cons c cs ih=>
      unfold bytesOfCells at hb
      split at hb
      ·rename_i h; cases h
      ·rename_i m r h
       cases h
       cases hb':bytesOfCells cs with
       | none=>rw[hb'] at hb; cases hb
       | some b2=>rw[List.all_cons,ih b2 hb']; rfl
      ·cases hb
    have hlen:cs.length=n*1:=by
     unfold srcA at hsr
     split at hsr
     ·cases hsr; rfl
     ·split at hsr
      ·rename_i hall
       cases hsr
       rw[List.all_eq_true] at hall
       rw[List.length_map,flat_length _ 1 (fun y hy=>by simpa using hall y hy)]
      ·cases hsr
     ·split at hsr
      ·rename_i row vv cs0 hb0
       split at hsr
       ·rename_i hc
        simp only[Bool.and_eq_true,beq_iff_eq] at hc
        obtain ⟨hv,rfl⟩:=hc
        have hv':=Nat.eq_of_beq_eq_true hv
        subst hv'
        cases hsr
        cases hx with
        | rs _ _ _ _ _ a cap hok=>
         have:=((hok.2.2.2 _ _ _ hb0).2 rfl).1
         simp; omega
       ·cases hsr
      ·cases hsr
     ·rename_i s hu
      rw[hs] at hu
      cases hu
     ·cases hsr
    obtain ⟨us,hsrc,hcr⟩:=src_run (P:=P) hI hx hsr hlf hlen
    obtain ⟨ns,e1,e2⟩:=bytes_cells cs us bs hcr.1 (fun j p u h1 h2=>hcr.2 j p u h1 (by simpa using h2)) hb
    have hul:us.length=n:=by have:=hsrc.newsLen; omega
    have hall:∀ (a:Addr) (len c:Nat),ux= .slice (some a) len c→(convert src dst ux).run P w= .ok (.string ⟨bs.toArray⟩) w:=by
     intro a len c hux
     subst hux
     have hfc:=hsrc.cells
     have hln:=hsrc.len w
     simp only[Builtin.lenOf,Sem.run_pure,Result.ok.injEq,and_true] at hln
     subst hln
     simp only[Builtin.firstCells,Nat.mul_one] at hfc
     rw[e1] at hfc
     rw[run_convert_bytes_string w src dst e _ _ _ hs he hd,run_bytesToString w a len c ns hfc,push_list,e2]
     rfl
    have hnil:∀ (c:Nat),ux= .slice none 0 c→bs= []→(convert src dst ux).run P w= .ok (.string ⟨bs.toArray⟩) w:=by
     intro c hux hbs
     subst hux
     subst hbs
     rw[run_convert_bytes_string w src dst e _ _ _ hs he hd]
     rfl
    refine ⟨.string ⟨bs.toArray⟩,w,ρ,?_,hI, .refl _ _ _, .p _ _ (.v _)⟩
    have hnb:n=0→bs= []:=fun h0=>by
     have:ns= []:=by
      have hh:us.length=ns.length:=by rw[e1]; simp
      exact List.eq_nil_of_length_eq_zero (by omega)
     rw[e2,this]; rfl
    unfold srcA at hsr
    split at hsr
    ·rename_i hu; obtain rfl:=hx.val; exact absurd rfl (hnn _ _)
    ·split at hsr
     ·cases hsr
      rcases ls_inv hx with ⟨a,cap,rfl,rfl,_⟩ | ⟨a,cap,us',rfl,_⟩
      ·cases a with
       | none=>exact hnil cap rfl (hnb rfl)
       | some a=>exact hall a _ cap rfl
      ·exact hall a _ cap rfl
     ·cases hsr
    ·split at hsr
     ·split at hsr
      ·cases hsr
       cases hx with
       | rs _ _ _ _ _ a cap hok=>
        cases a with
        | some a=>exact hall a _ cap rfl
        | none=>
         have hc0:cap=0:=by
          rcases Nat.eq_zero_or_pos cap with h | h
          ·exact h
          ·have:=hok.2.2.1 h; simp at this
         have hl0:=hok.2.1
         have hn0:n=0:=by omega
         subst hn0
         exact hnil cap rfl (hnb rfl)
      ·cases hsr
     ·cases hsr
    ·rename_i s hu
     rw[hs] at hu
     cases hu
    ·cases hsr
  ·cases hm
 ·cases hm

end Go.Ax
