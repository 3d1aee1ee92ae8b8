/- What one operation does in a world is what the second reading says: addresses, parts, slices, lengths, conversions. -/
import Derived.Test.YtddkloofiknjdaaDoorG5
import Derived.Laws.Slices
import Derived.Lib.ConvBytes
set_option linter.unusedVariables false
set_option linter.unusedSimpArgs false
set_option linter.unusedSectionVars false
namespace Go.Ax
open Go.RowKit

variable [Glob] {P : Program} {F : Nat → Prop}

theorem un_run {B:List Box} {ρ:Loc} {w:World} {op:UnOp} {x v:AV} {ux:Value} (hx:VRel F B ρ w x ux) (hm:unA op x=some v):∃ z,(Op.unary op ux).run P w= .ok z w∧VRel F B ρ w v z:=by
 unfold unA at hm
 split at hm
 ·obtain rfl:=hx.val; cases hm; exact ⟨_,rfl, .p _ _ (.v _)⟩
 ·obtain rfl:=hx.val; cases hm; exact ⟨_,rfl, .p _ _ (.v _)⟩
 ·obtain rfl:=hx.val; cases hm; exact ⟨_,by simp[Op.unary,Op.intBits], .p _ _ (.v _)⟩
 ·cases hm

theorem fieldOff_some {t:TypeId} {j off:Nat} {ft:TypeId} (h:fieldOff P t j=some (off,ft)):∃ fs f,P.underlying t=some (.struct fs)∧fs[j]? = some f∧f.offset=off∧f.type=ft:=by
 unfold fieldOff at h
 cases hf:fieldsT P t with
 | none=>rw[hf] at h; cases h
 | some fs=>
  rw[hf] at h
  simp only[Option.bind_some] at h
  cases hj:fs[j]? with
  | none=>rw[hj] at h; cases h
  | some f=>
   rw[hj] at h
   cases h
   exact ⟨fs,f,fieldsT_some hf,hj,rfl,rfl⟩

theorem add_add (a:Addr) (i j:Nat) (h:a.spot=none):(a.add i).add j=a.add (i+j):=by
 obtain ⟨b,o,s⟩:=a
 simp only at h
 subst h
 rw[Addr.add_lit,Addr.add_lit,Addr.add_lit,Nat.add_assoc]

theorem add_plain (a:Addr) (i:Nat) (h:a.spot=none):(a.add i).spot=none∧(a.add i).block=a.block:=by
 obtain ⟨b,o,s⟩:=a
 simp only at h
 subst h
 rw[Addr.add_lit]
 exact ⟨rfl,rfl⟩

theorem rp_drop {B:List Box} {ρ:Loc} {w:World} {cs:List PV} {a:Addr} (h:VRel F B ρ w (.rp cs) (.pointer (some a))) (n:Nat) (hn:n≤cs.length):VRel F B ρ w (.rp (cs.drop n)) (.pointer (some (a.add n))):=by
 cases h with
 | rp _ _ us h1 h2 h3 h4 h5 h6=>
  obtain ⟨e1,e2⟩:=add_plain a n h1
  refine .rp _ _ (us.drop n) e1 (by rw[e2]; exact h2) (by rw[e2]; exact h3) (by simp[h4]) (fun j u hj=>?_) (fun j p u hp hu=>?_)
  ·rw[List.getElem?_drop] at hj
   rw[add_add _ _ _ h1]
   exact h5 _ u hj
  ·rw[List.getElem?_drop] at hp hu
   exact h6 _ p u hp hu

theorem ptr_add {B:List Box} {ρ:Loc} {w:World} {b ver o:Nat} {a:Addr} (h:VRel F B ρ w (.ptr b ver o) (.pointer (some a))) (n:Nat):VRel F B ρ w (.ptr b ver (o+n)) (.pointer (some (a.add n))):=by
 cases h with
 | ptr _ _ _ _ hp=>
  refine .ptr _ _ _ _ ⟨hp.1,fun row v cs hb=>?_⟩
  obtain ⟨h1,h2⟩:=hp.2 row v cs hb
  refine ⟨h1,fun e=>?_⟩
  obtain ⟨k,o',hr,rfl⟩:=h2 e
  exact ⟨k,o',hr,by rw[Addr.add_lit,Nat.add_assoc]⟩

theorem fieldAddr_run {B:List Box} {ρ:Loc} {w:World} {t:TypeId} {j:Nat} {x v:AV} {ux:Value} (hx:VRel F B ρ w x ux) (hm:fieldAddrA P t j x=some v):∃ z,(Instr.fieldAt t ux j).run P w= .ok z w∧VRel F B ρ w v z:=by
 unfold fieldAddrA at hm
 cases hf:fieldOff P t j with
 | none=>rw[hf] at hm; cases hm
 | some q=>
 obtain ⟨off,ft⟩:=q
 rw[hf] at hm
 simp only[Option.bind_some] at hm
 cases hs:sizeT P ft with
 | none=>rw[hs] at hm; cases hm
 | some n=>
 rw[hs] at hm
 simp only[Option.bind_some] at hm
 split at hm
 ·cases hm
 rename_i hn
 have hn0:¬(n=0):=fun h=>by subst h; exact hn rfl
 obtain ⟨fs,f,h1,h2,rfl,rfl⟩:=fieldOff_some hf
 have run:∀ a:Addr,(Instr.fieldAt t (.pointer (some a)) j).run P w= .ok (.pointer (some (a.add f.offset))) w:=fun a=>by
  simp[Instr.fieldAt,run_underlying h1,h2,Instr.sureAddr,fieldPlace,sizeOf_run w hs,hn0]
 split at hm
 ·cases hm
  cases hx with
  | ptr _ _ _ a hp=>exact ⟨_,run a,ptr_add (.ptr _ _ _ _ hp) _⟩
 ·split at hm
  ·rename_i hle
   rw[Nat.ble_eq] at hle
   cases hm
   cases hx with
   | rp _ a us g1 g2 g3 g4 g5 g6=>exact ⟨_,run a,rp_drop (.rp _ _ _ g1 g2 g3 g4 g5 g6) _ hle⟩
  ·cases hm
 ·cases hm

theorem part_run {B:List Box} {ρ:Loc} {w:World} {t:TypeId} {cs:List AV} {us:List Value} {off:Nat} {v:AV} (hl:cs.length=us.length) (hc:∀ (j:Nat) (p:AV) (u:Value),cs[j]? = some p→us[j]? = some u→VRel F B ρ w p u)
  (hm:partA P t cs off=some v):∃ z,(part t us.toArray off).run P w= .ok z w∧VRel F B ρ w v z:=by
 unfold partA at hm
 split at hm
 ·cases hm
 rename_i hu
 obtain ⟨d,hd⟩:=undT_some (P:=P) (t:=t) (by simpa using hu)
 split at hm
 ·rename_i ha
  cases hs:sizeT P t with
  | none=>rw[hs] at hm; cases hm
  | some n=>
   rw[hs] at hm
   simp only[Option.bind_some] at hm
   split at hm
   ·rename_i hle
    rw[Nat.ble_eq] at hle
    cases hm
    refine ⟨.agg ((us.drop off).take n).toArray,?_, .agg _ _ (by simp[hl]) (fun j p u hp hu=>?_)⟩
    ·simp only[part,Sem.run_bind,isAgg_run t w hd,Result.andThen_ok,ha,if_true,sizeOf_run w hs,Sem.run_pure]
     congr 2
     apply Array.ext'
     simp[List.extract_eq_take_drop]
    ·rw[List.getElem?_take] at hp hu
     split at hp
     ·rename_i hlt
      rw[if_pos hlt] at hu
      rw[List.getElem?_drop] at hp hu
      exact hc _ p u hp hu
     ·cases hp
   ·cases hm
 ·rename_i ha
  have hj:off<us.length:=by rw[←hl]; exact (List.getElem?_eq_some_iff.1 hm).1
  refine ⟨us[off],?_,hc off v _ hm (List.getElem?_eq_getElem hj)⟩
  simp only[part,Sem.run_bind,isAgg_run t w hd,Result.andThen_ok,ha]
  simp[hj]

theorem field_run {B:List Box} {ρ:Loc} {w:World} {t:TypeId} {j:Nat} {x v:AV} {ux:Value} (hx:VRel F B ρ w x ux) (hm:fieldA P t j x=some v):∃ z,(Instr.field t ux j).run P w= .ok z w∧VRel F B ρ w v z:=by
 unfold fieldA at hm
 cases hf:fieldOff P t j with
 | none=>rw[hf] at hm; cases hm
 | some q=>
 obtain ⟨off,ft⟩:=q
 rw[hf] at hm
 simp only[Option.bind_some] at hm
 obtain ⟨fs,f,h1,h2,rfl,rfl⟩:=fieldOff_some hf
 split at hm
 ·cases hs:sizeT P f.type with
  | none=>rw[hs] at hm; cases hm
  | some n=>
   rw[hs] at hm
   simp only[Option.bind_some] at hm
   obtain ⟨us,rfl,g1,g2⟩:=hx.agg_inv
   obtain ⟨z,e1,e2⟩:=part_run g1 g2 hm
   refine ⟨z,?_,e2⟩
   simp[Instr.field,run_underlying h1,h2,asAgg,e1]
 ·cases hm

theorem intA_some {x:AV} {n:Int} (h:intA x=some n):∃ k,x= .p (.v (.int k n)):=by
 unfold intA at h
 split at h
 ·cases h; exact ⟨_,rfl⟩
 ·cases h

theorem ls_inv {B:List Box} {ρ:Loc} {w:World} {xs:List PV} {u:Value} (h:VRel F B ρ w (.p (.ls xs)) u):(∃ a cap,u= .slice a 0 cap∧xs= []∧(a.isSome∨cap=0)) ∨
  ∃ a cap us,u= .slice (some a) xs.length cap∧a.spot=none∧¬Own F B ρ a.block∧a.block<w.heap.size∧xs.length≤cap∧(xs.flatMap PV.cells).length=List.length us∧(∀ (j:Nat) (u:Value),us[j]? = some u→w.cell? (a.add j)=some u) ∧
   ∀ (j:Nat) (p:PV) (u:Value),(xs.flatMap PV.cells)[j]? = some p→us[j]? = some u→PRel (Own F B ρ) w p u:=by
 cases h with
 | p _ _ hp=>
  cases hp with
  | nil a cap h=>exact .inl ⟨a,cap,rfl,rfl,h⟩
  | ls _ a cap us h1 h2 h3 h4 h5 h6 h7=>exact .inr ⟨a,cap,us,rfl,h1,h2,h3,h4,h5,h6,h7⟩

theorem flat_at (xs:List PV) (sz:Nat) (h:∀ y∈xs,y.cells.length=sz) (i:Nat) (y:PV) (hy:xs[i]? = some y) (j:Nat) (hj:j<sz):(xs.flatMap PV.cells)[i*sz+j]? = y.cells[j]? := by
 induction xs generalizing i with
 | nil=>simp at hy
 | cons x xs ih=>
  have hx:=h x (List.mem_cons_self ..)
  cases i with
  | zero=>
   simp at hy
   subst hy
   rw[List.flatMap_cons,List.getElem?_append_left (by omega),Nat.zero_mul,Nat.zero_add]
  | succ i=>
   rw[List.flatMap_cons,List.getElem?_append_right (by rw[hx,Nat.succ_mul]; omega),hx,show (i+1)*sz+j - sz=i*sz+j by rw[Nat.succ_mul]; omega]
   exact ih (fun y hy=>h y (List.mem_cons_of_mem _ hy)) i (by simpa using hy)

theorem flat_length (xs:List PV) (sz:Nat) (h:∀ y∈xs,y.cells.length=sz):(xs.flatMap PV.cells).length=xs.length*sz:=by
 induction xs with
 | nil=>simp
 | cons x xs ih=>
  rw[List.flatMap_cons,List.length_append,h x (List.mem_cons_self ..),ih (fun y hy=>h y (List.mem_cons_of_mem _ hy)),List.length_cons,Nat.succ_mul]
  omega

theorem arr_run_index {w:World} {t e:TypeId} {n sz:Nat} (h1:P.underlying t=some (.array n e)) (hs:sizeT P e=some sz) (a:Addr) (k:IntKind) (i:Int) (h0:0≤i) (h2:i<(n:Int)):
  (Instr.indexAt t (.pointer (some a)) (.int k i)).run P w= .ok (.pointer (some (a.add (i.toNat*sz)))) w:=by
 simp[Instr.indexAt,asIntOf,run_underlying h1,Instr.sureAddr,h0,h2,sizeOf_run w hs]

theorem slc_run_index {w:World} {t e:TypeId} {sz:Nat} (h1:P.underlying t=some (.slice e)) (hs:sizeT P e=some sz) (a:Addr) (n c:Nat) (k:IntKind) (i:Int) (h0:0≤i) (h2:i<(n:Int)):
  (Instr.indexAt t (.slice (some a) n c) (.int k i)).run P w= .ok (.pointer (some (a.add (i.toNat*sz)))) w:=by
 simp[Instr.indexAt,asIntOf,run_underlying h1,h0,h2,sizeOf_run w hs]

theorem indexAddr_run {B:List Box} {ρ:Loc} {w:World} {t:TypeId} {x i v:AV} {ux ui:Value} (hx:VRel F B ρ w x ux) (hi:VRel F B ρ w i ui) (hm:indexAddrA P t x i=some v):
  ∃ z,(Instr.indexAt t ux ui).run P w= .ok z w∧VRel F B ρ w v z:=by
 unfold indexAddrA at hm
 cases hn:intA i with
 | none=>rw[hn] at hm; cases hm
 | some n=>
 rw[hn] at hm
 simp only[Option.bind_some] at hm
 obtain ⟨k,rfl⟩:=intA_some hn
 obtain rfl:=hi.val
 split at hm
 ·cases hm
 rename_i hneg
 have h0:0≤n:=by omega
 split at hm
 ·rename_i e hu
  cases hs:sizeT P e with
  | none=>rw[hs] at hm; cases hm
  | some sz=>
  rw[hs] at hm
  simp only[Option.bind_some] at hm
  split at hm
  ·rename_i xs
   split at hm
   ·rename_i hall
    rw[List.all_eq_true] at hall
    have hall':∀ y∈xs,y.cells.length=sz:=fun y hy=>by simpa using hall y hy
    cases hq:xs[n.toNat]? with
    | none=>rw[hq] at hm; cases hm
    | some y=>
     rw[hq] at hm
     cases hm
     have hlt:n.toNat<xs.length:=(List.getElem?_eq_some_iff.1 hq).1
     have hmem:y∈xs:=List.mem_of_getElem? hq
     rcases ls_inv hx with ⟨_,_,_,rfl,_⟩ | ⟨a,cap,us,rfl,g1,g2,g3,g4,g5,g6,g7⟩
     ·simp at hlt
     ·refine ⟨_,slc_run_index hu hs a _ cap k n h0 (by omega),?_⟩
      obtain ⟨e1,e2⟩:=add_plain a (n.toNat*sz) g1
      have hfl:=flat_length xs sz hall'
      have hyl:=hall' y hmem
      have hmul:(n.toNat+1)*sz≤xs.length*sz:=Nat.mul_le_mul_right _ hlt
      rw[Nat.succ_mul] at hmul
      refine .rp _ _ ((us.drop (n.toNat*sz)).take sz) e1 (by rw[e2]; exact g2) (by rw[e2]; exact g3) (by simp; omega) (fun j u hj=>?_) (fun j p u hp hu=>?_)
      ·rw[List.getElem?_take] at hj
       split at hj
       ·rw[List.getElem?_drop] at hj
        rw[add_add _ _ _ g1]
        exact g6 _ u hj
       ·cases hj
      ·rw[List.getElem?_take] at hu
       split at hu
       ·rename_i hjs
        rw[List.getElem?_drop] at hu
        refine g7 _ p u ?_ hu
        rw[flat_at xs sz hall' _ y hq j hjs]
        exact hp
       ·cases hu
   ·cases hm
  ·rename_i b ver sz' off len
   split at hm
   ·rename_i hc
    simp only[Bool.and_eq_true,decide_eq_true_eq,beq_iff_eq] at hc
    obtain ⟨hlt,rfl⟩:=hc
    cases hm
    cases hx with
    | rs _ _ _ _ _ a cap hok=>
     obtain ⟨g1,g2,g3,g4⟩:=hok
     have hcap:0<cap:=by omega
     cases a with
     | none=>exact absurd (g3 hcap) (by simp)
     | some a=>
      refine ⟨_,slc_run_index hu hs a _ cap k n h0 (by omega), .ptr _ _ _ _ ⟨g1,fun row v cs hb=>?_⟩⟩
      obtain ⟨l1,l2⟩:=g4 row v cs hb
      refine ⟨l1,fun e=>?_⟩
      obtain ⟨_,l3⟩:=l2 e
      rcases l3 with h | ⟨k',o',hr,ha,_⟩
      ·omega
      ·simp only[Option.some.injEq] at ha
       subst ha
       exact ⟨k',o',hr,by rw[Addr.add_lit,Nat.add_assoc]⟩
   ·cases hm
  ·cases hm
 ·rename_i len e hu
  cases hs:sizeT P e with
  | none=>rw[hs] at hm; cases hm
  | some sz=>
  rw[hs] at hm
  simp only[Option.bind_some] at hm
  split at hm
  ·split at hm
   ·rename_i hc
    simp only[Bool.and_eq_true,decide_eq_true_eq] at hc
    cases hm
    cases hx with
    | ptr _ _ _ a hp=>exact ⟨_,arr_run_index hu hs a k n h0 (by omega),ptr_add (.ptr _ _ _ _ hp) _⟩
   ·cases hm
  ·split at hm
   ·rename_i hc
    simp only[Bool.and_eq_true,decide_eq_true_eq,Nat.ble_eq] at hc
    cases hm
    cases hx with
    | rp _ a us g1 g2 g3 g4 g5 g6=>exact ⟨_,arr_run_index hu hs a k n h0 (by omega),rp_drop (.rp _ _ _ g1 g2 g3 g4 g5 g6) _ hc.1.2⟩
   ·cases hm
  ·cases hm
 ·cases hm

theorem index_run {B:List Box} {ρ:Loc} {w:World} {t:TypeId} {x i v:AV} {ux ui:Value} (hx:VRel F B ρ w x ux) (hi:VRel F B ρ w i ui) (hm:indexA P t x i=some v):
  ∃ z,(Instr.index t ux ui).run P w= .ok z w∧VRel F B ρ w v z:=by
 unfold indexA at hm
 cases hn:intA i with
 | none=>rw[hn] at hm; cases hm
 | some n=>
 rw[hn] at hm
 simp only[Option.bind_some] at hm
 obtain ⟨k,rfl⟩:=intA_some hn
 obtain rfl:=hi.val
 split at hm
 ·cases hm
 rename_i hneg
 have h0:0≤n:=by omega
 split at hm
 ·rename_i len e cs hu
  cases hs:sizeT P e with
  | none=>rw[hs] at hm; cases hm
  | some sz=>
   rw[hs] at hm
   simp only[Option.bind_some] at hm
   split at hm
   ·rename_i hlt
    obtain ⟨us,rfl,g1,g2⟩:=hx.agg_inv
    obtain ⟨z,e1,e2⟩:=part_run g1 g2 hm
    refine ⟨z,?_,e2⟩
    have h2:n<(len:Int):=by omega
    simp[Instr.index,asIntOf,run_underlying hu,h0,h2,sizeOf_run w hs,e1]
   ·cases hm
 ·rename_i s hu
  obtain rfl:=hx.val
  cases hq:s[n.toNat]? with
  | none=>rw[hq] at hm; cases hm
  | some b=>
   rw[hq] at hm
   cases hm
   exact ⟨_,by simp[Instr.index,asIntOf,run_underlying hu,h0,hq], .p _ _ (.v _)⟩
 ·cases hm

end Go.Ax

namespace Go.Ax
open Go.RowKit

variable [Glob] {P : Program} {F : Nat → Prop}

theorem bounds_run {B:List Box} {ρ:Loc} {w:World} {isSlice:Bool} {len cap l h:Nat} {lo hi:Option AV} {ulo uhi:Option Value} (hcap:len≤cap)
  (h1:∀ x,lo=some x→∃ u,ulo=some u∧VRel F B ρ w x u) (h1n:lo=none→ulo=none) (h2:∀ x,hi=some x→∃ u,uhi=some u∧VRel F B ρ w x u) (h2n:hi=none→uhi=none)
  (hm:boundsA len lo hi=some (l,h)):(Instr.sliceBounds isSlice len cap ulo uhi none).run P w= .ok (l,h,cap) w∧l≤h∧h≤len:=by
 unfold boundsA at hm
 cases hh:boundA len len hi with
 | none=>rw[hh] at hm; cases hm
 | some h'=>
 rw[hh] at hm
 simp only[Option.bind_some] at hm
 cases hl:boundA h' 0 lo with
 | none=>rw[hl] at hm; cases hm
 | some l'=>
 rw[hl] at hm
 simp only[Option.bind_some,Option.some.injEq,Prod.mk.injEq] at hm
 obtain ⟨rfl,rfl⟩:=hm
 have hhi:h'≤len∧((uhi=none∧h'=len)∨∃ k n,uhi=some (.int k n)∧0≤n∧n.toNat=h'):=by
  cases hi with
  | none=>cases hh; exact ⟨Nat.le_refl _, .inl ⟨h2n rfl,rfl⟩⟩
  | some x=>
   obtain ⟨u,rfl,hv⟩:=h2 x rfl
   simp only[boundA] at hh
   cases hi':intA x with
   | none=>rw[hi'] at hh; cases hh
   | some n=>
    obtain ⟨k,rfl⟩:=intA_some hi'
    obtain rfl:=hv.val
    rw[hi'] at hh
    simp only[Option.bind_some] at hh
    split at hh
    ·rename_i hc
     cases hh
     exact ⟨by omega, .inr ⟨k,n,rfl,hc.1,rfl⟩⟩
    ·cases hh
 have hlo:l'≤h'∧((ulo=none∧l'=0)∨∃ k n,ulo=some (.int k n)∧0≤n∧n.toNat=l'):=by
  cases lo with
  | none=>cases hl; exact ⟨Nat.zero_le _, .inl ⟨h1n rfl,rfl⟩⟩
  | some x=>
   obtain ⟨u,rfl,hv⟩:=h1 x rfl
   simp only[boundA] at hl
   cases hi':intA x with
   | none=>rw[hi'] at hl; cases hl
   | some n=>
    obtain ⟨k,rfl⟩:=intA_some hi'
    obtain rfl:=hv.val
    rw[hi'] at hl
    simp only[Option.bind_some] at hl
    split at hl
    ·rename_i hc
     cases hl
     exact ⟨by omega, .inr ⟨k,n,rfl,hc.1,rfl⟩⟩
    ·cases hl
 refine ⟨?_,hlo.1,hhi.1⟩
 obtain ⟨q1,q2⟩:=hhi
 obtain ⟨q3,q4⟩:=hlo
 rcases q2 with ⟨rfl,rfl⟩ | ⟨k,n,rfl,n0,rfl⟩ <;> rcases q4 with ⟨rfl,rfl⟩ | ⟨k',n',rfl,m0,rfl⟩
 ·simp[Instr.sliceBounds]
 ·have:n'≤(h':Int):=by omega
  simp[Instr.sliceBounds,Instr.sliceBound,asIntOf,m0,this]
 ·have:n≤(cap:Int):=by omega
  simp[Instr.sliceBounds,Instr.sliceBound,asIntOf,n0,this]
 ·have e1:n≤(cap:Int):=by omega
  have e2:n'≤n:=by omega
  have e3:max n 0=n:=by omega
  simp[Instr.sliceBounds,Instr.sliceBound,asIntOf,n0,m0,e1,e2,e3]

theorem slice_run {B:List Box} {ρ:Loc} {w:World} (hI:Inv F B ρ w) {t:TypeId} {x v:AV} {lo hi:Option AV} {ux:Value} {ulo uhi:Option Value} (hx:VRel F B ρ w x ux)
  (h1:∀ x,lo=some x→∃ u,ulo=some u∧VRel F B ρ w x u) (h1n:lo=none→ulo=none) (h2:∀ x,hi=some x→∃ u,uhi=some u∧VRel F B ρ w x u) (h2n:hi=none→uhi=none)
  (hm:sliceA P t B x lo hi=some v):∃ z,(Instr.sliceAt t ux ulo uhi none).run P w= .ok z w∧VRel F B ρ w v z:=by
 unfold sliceA at hm
 split at hm
 ·rename_i s hu
  obtain rfl:=hx.val
  cases hb:boundsA s.size lo hi with
  | none=>rw[hb] at hm; cases hm
  | some q=>
   obtain ⟨l,h⟩:=q
   rw[hb] at hm
   cases hm
   obtain ⟨e1,e2,e3⟩:=bounds_run (P:=P) (isSlice:=false) (Nat.le_refl _) h1 h1n h2 h2n hb
   exact ⟨.string (s.extract l h),by simp[Instr.sliceAt,Instr.slice,run_underlying hu,e1], .p _ _ (.v _)⟩
 ·rename_i e xs hu
  cases hs:sizeT P e with
  | none=>rw[hs] at hm; cases hm
  | some sz=>
  rw[hs] at hm
  simp only[Option.bind_some] at hm
  cases hb:boundsA xs.length lo hi with
  | none=>rw[hb] at hm; cases hm
  | some q=>
  obtain ⟨l,h⟩:=q
  rw[hb] at hm
  simp only[Option.bind_some] at hm
  split at hm
  ·rename_i hall
   rw[List.all_eq_true] at hall
   have hall':∀ y∈xs,y.cells.length=sz:=fun y hy=>by simpa using hall y hy
   cases hm
   rcases ls_inv hx with ⟨a,cap,rfl,rfl,hac⟩ | ⟨a,cap,us,rfl,g1,g2,g3,g4,g5,g6,g7⟩
   ·obtain ⟨e1,e2,e3⟩:=bounds_run (P:=P) (len:=0) (cap:=cap) (isSlice:=true) (Nat.zero_le _) h1 h1n h2 h2n hb
    have hl0:l=0:=by omega
    have hh0:h=0:=by omega
    subst hl0
    subst hh0
    refine ⟨.slice a 0 cap,?_, .p _ _ (.nil a cap hac)⟩
    have hadd:a.map (fun x=>x.add (0*sz))=a:=by cases a <;> simp[Addr.add]
    simp[Instr.sliceAt,Instr.slice,run_underlying hu,e1,sizeOf_run w hs]
    intro _
    simpa using hadd
   ·obtain ⟨e1,e2,e3⟩:=bounds_run (P:=P) (cap:=cap) (isSlice:=true) g4 h1 h1n h2 h2n hb
    have hlen:((xs.take h).drop l).length=h - l:=by simp; omega
    have hfl:=flat_length xs sz hall'
    have hsub:∀ y∈(xs.take h).drop l,y.cells.length=sz:=fun y hy=>hall' y (List.mem_of_mem_take (List.mem_of_mem_drop hy))
    have hrun:(Instr.sliceAt t (.slice (some a) xs.length cap) ulo uhi none).run P w= .ok (.slice (if cap=l then some a else some (a.add (l*sz))) (h - l) (cap - l)) w:=by
     simp[Instr.sliceAt,Instr.slice,run_underlying hu,e1,sizeOf_run w hs]
    by_cases hc:cap=l
    ·have hz:h - l=0:=by omega
     have hnil:(xs.take h).drop l= []:=List.eq_nil_of_length_eq_zero (by omega)
     refine ⟨_,by rw[hrun,if_pos hc],?_⟩
     rw[hnil,hz]
     exact .p _ _ (.ls [] a _ [] g1 g2 g3 (by simp) rfl (fun j u h=>by simp at h) (fun j p u h=>by simp at h))
    ·refine ⟨_,by rw[hrun,if_neg hc],?_⟩
     obtain ⟨f1,f2⟩:=add_plain a (l*sz) g1
     have hmul:h*sz≤xs.length*sz:=Nat.mul_le_mul_right _ e3
     have hmul2:l*sz≤h*sz:=Nat.mul_le_mul_right _ e2
     rw[←hlen]
     have hfs:=flat_length _ sz hsub
     rw[hlen,Nat.sub_mul] at hfs
     refine .p _ _ (.ls _ (a.add (l*sz)) _ ((us.drop (l*sz)).take ((h - l)*sz)) f1 (by rw[f2]; exact g2) (by rw[f2]; exact g3) (by rw[hlen]; omega) (by rw[hfs,Nat.sub_mul]; simp; omega) (fun j u hj=>?_) (fun j p u hp hu=>?_))
     ·rw[List.getElem?_take] at hj
      split at hj
      ·rw[List.getElem?_drop] at hj
       rw[add_add _ _ _ g1]
       exact g6 _ u hj
      ·cases hj
     ·rw[List.getElem?_take] at hu
      split at hu
      ·rename_i hjl
       rw[List.getElem?_drop] at hu
       refine g7 _ p u ?_ hu
       have hsz0:0<sz:=by
        rcases Nat.eq_zero_or_pos sz with h0 | h0
        ·subst h0; simp at hjl
        ·exact h0
       have hdiv:j / sz<h - l:=Nat.div_lt_of_lt_mul (by rw[Nat.mul_comm]; exact hjl)
       have hmod:j % sz<sz:=Nat.mod_lt _ hsz0
       have hje:j=j / sz*sz+j % sz:=by rw[Nat.mul_comm]; exact (Nat.div_add_mod j sz).symm
       have hy1:j / sz<((xs.take h).drop l).length:=by omega
       have hget:((xs.take h).drop l)[j / sz]? = some (((xs.take h).drop l)[j / sz]):=List.getElem?_eq_getElem hy1
       have hp':=flat_at _ sz hsub (j / sz) _ hget (j % sz) hmod
       rw[←hje] at hp'
       have hget2:xs[l+j / sz]? = some (((xs.take h).drop l)[j / sz]):=by
        rw[List.getElem?_drop,List.getElem?_take] at hget
        split at hget
        ·exact hget
        ·cases hget
       have hp2:=flat_at xs sz hall' (l+j / sz) _ hget2 (j % sz) hmod
       rw[show (l+j / sz)*sz+j % sz=l*sz+j by rw[Nat.add_mul]; omega] at hp2
       rw[hp2,←hp']
       exact hp
      ·cases hu
  ·cases hm
 ·rename_i e b ver sz' off len hu
  cases hs:sizeT P e with
  | none=>rw[hs] at hm; cases hm
  | some sz=>
  rw[hs] at hm
  simp only[Option.bind_some] at hm
  cases hb:boundsA len lo hi with
  | none=>rw[hb] at hm; cases hm
  | some q=>
  obtain ⟨l,h⟩:=q
  rw[hb] at hm
  simp only[Option.bind_some] at hm
  split at hm
  ·rename_i hsz
   have hsz':sz=sz':=by simpa using hsz
   subst hsz'
   cases hm
   cases hx with
   | rs _ _ _ _ _ a cap hok=>
    obtain ⟨g1,g2,g3,g4⟩:=hok
    obtain ⟨e1,e2,e3⟩:=bounds_run (P:=P) (cap:=cap) (isSlice:=true) g2 h1 h1n h2 h2n hb
    refine ⟨.slice (if cap=l then a else a.map (·.add (l*sz))) (h - l) (cap - l),by simp[Instr.sliceAt,Instr.slice,run_underlying hu,e1,sizeOf_run w hs], .rs _ _ _ _ _ _ _ ⟨g1,by omega,fun hc=>?_,fun row v cs hb=>?_⟩⟩
    ·have hne:¬cap=l:=by omega
     rw[if_neg hne]
     have:=g3 (by omega)
     cases a with
     | none=>simp at this
     | some a=>rfl
    ·obtain ⟨l1,l2⟩:=g4 row v cs hb
     refine ⟨l1,fun e=>?_⟩
     obtain ⟨l3,l4⟩:=l2 e
     have hmul:h*sz≤len*sz:=Nat.mul_le_mul_right _ e3
     have hmul2:l*sz≤h*sz:=Nat.mul_le_mul_right _ e2
     refine ⟨by rw[Nat.sub_mul]; omega,?_⟩
     by_cases hc:cap=l
     ·exact .inl (by omega)
     ·rcases l4 with h0 | ⟨k,o',hr,ha,e',n,hsh,hle⟩
      ·omega
      ·subst ha
       have hmul3:l*sz≤cap*sz:=Nat.mul_le_mul_right _ (by omega)
       refine .inr ⟨k,o',hr,by rw[if_neg hc,Option.map_some,Addr.add_lit,Nat.add_assoc],e',n,hsh,by rw[Nat.sub_mul]; omega⟩
  ·cases hm
 ·rename_i e hu
  obtain rfl:=hx.val
  cases hm2:sizeT P e with
  | none=>rw[hm2] at hm; cases hm
  | some sz=>
  rw[hm2] at hm
  simp only[Option.bind_some] at hm
  cases hb:boundsA 0 lo hi with
  | none=>rw[hb] at hm; cases hm
  | some q=>
   obtain ⟨l,h⟩:=q
   rw[hb] at hm
   cases hm
   obtain ⟨e1,e2,e3⟩:=bounds_run (P:=P) (cap:=0) (isSlice:=true) (Nat.le_refl 0) h1 h1n h2 h2n hb
   have hl0:l=0:=by omega
   have hh0:h=0:=by omega
   subst hl0
   subst hh0
   exact ⟨.slice none 0 0,by simp[Instr.sliceAt,Instr.slice,run_underlying hu,e1,sizeOf_run w hm2], .p _ _ (.v _)⟩
 ·rename_i n e b ver o hu
  cases hs:sizeT P e with
  | none=>rw[hs] at hm; cases hm
  | some sz=>
  rw[hs] at hm
  simp only[Option.bind_some] at hm
  cases hb:boundsA n lo hi with
  | none=>rw[hb] at hm; cases hm
  | some q=>
  obtain ⟨l,h⟩:=q
  rw[hb] at hm
  simp only[Option.bind_some] at hm
  split at hm
  ·rename_i row vv cs hbx
   split at hm
   ·rename_i hc
    simp only[Bool.and_eq_true,Nat.ble_eq] at hc
    obtain ⟨hv,hle⟩:=hc
    have hv':ver=vv:=Nat.eq_of_beq_eq_true hv
    subst hv'
    cases hm
    cases hx with
    | ptr _ _ _ a hp=>
     obtain ⟨k,o',hr,rfl⟩:=(hp.2 _ _ _ hbx).2 rfl
     obtain ⟨us,e2,fr,q1,q2,q3,q4⟩:=hI.cell hbx hr
     obtain ⟨e1,e3,e4⟩:=bounds_run (P:=P) (cap:=n) (isSlice:=false) (Nat.le_refl n) h1 h1n h2 h2n hb
     have hmul:h*sz≤n*sz:=Nat.mul_le_mul_right _ e4
     have hmul2:l*sz≤h*sz:=Nat.mul_le_mul_right _ e3
     refine ⟨.slice (some (if n=l then ⟨k,o'+o,none⟩ else (⟨k,o'+o,none⟩:Addr).add (l*sz))) (h - l) (n - l),by simp[Instr.sliceAt,run_underlying hu,Instr.sureAddr,e1,sizeOf_run w hs], .rs _ _ _ _ _ _ _ ⟨hp.1,by omega,fun _=>rfl,fun row' v cs' hb=>?_⟩⟩
     rw[hbx] at hb
     cases hb
     refine ⟨Nat.le_refl _,fun _=>⟨by rw[Nat.sub_mul]; omega,?_⟩⟩
     by_cases hc:n=l
     ·exact .inl (by omega)
     ·refine .inr ⟨k,o',hr,by rw[if_neg hc,Addr.add_lit,Nat.add_assoc],e2,us.size,by simp[World.shape?,q1],by rw[Nat.sub_mul]; omega⟩
   ·cases hm
  ·cases hm
 ·cases hm

end Go.Ax
