/- What is done to a disk, laid open and as an object. -/
import Derived.Test.YtjlipmcdnigfcaaDoorG18
import Derived.Test.YtjlipmcdnigfcaaDoorProg
import Derived.Shelf.Strconv.Itoa3
import Derived.Shelf.Strconv.ErrVarAll
import Derived.Shelf.Small.Wraps
set_option linter.unusedVariables false
set_option linter.unusedSimpArgs false
set_option linter.unusedSectionVars false
namespace Go.Ax
open Go.RowKit
set_option maxRecDepth 100000

section
variable [Glob]
abbrev LookE (P:Program) (t:TypeId) (B:List Box) (x k v:AV):Prop:=(lookupA P t B x k true).map (fun v=>(v,B))=some (v,B)
abbrev UpdE (P:Program) (t:TypeId) (B:List Box) (x k v:AV) (B':List Box):Prop:=(mapUpdateA P t B x k v).map (fun B'=>(AV.u,B'))=some (AV.u,B')
abbrev DelE (P:Program) (t:TypeId) (B:List Box) (x k:AV) (B':List Box):Prop:=(deleteA P t B x k).map (fun B'=>(AV.tup [],B'))=some (AV.tup [],B')
end
def okChar (c:UInt8):Bool:=(decide (97≤c.toNat)&&decide (c.toNat≤122))||(decide (48≤c.toNat)&&decide (c.toNat≤57))||c.toNat == 46
def isName (nm:ByteArray):Bool:=nm.data.toList.all okChar&&decide (0<nm.size)&&decide (nm.size≤40)

def stD (fu:Int):Bool:=decide (fu>0)&&(fu - 1 == 0)
def stF (fu:Int):Int:=if fu>0 then fu - 1 else fu
def stE (fu:Int):Int:=if stD fu then 10 else 0

def RNamed:List AV→AV→Prop:=fun args r=>∃ nm:ByteArray,nm.size≤1000000000∧args= [vs nm]∧r=vb (isName nm)
noncomputable def gNamed:=relG RNamed
theorem gNamed_eq (nm:ByteArray) (hN:nm.size≤1000000000):gNamed [vs nm]=some (vb (isName nm)):=by
 letI:Glob:=noG
 exact relG_eq (fun args r r' ⟨a,_,h1,h2⟩ ⟨b,_,h3,h4⟩=>by
  rw[h1] at h3
  simp at h3
  rw[h2,h4,h3]) ⟨nm,hN,rfl,rfl⟩

section
variable [Glob] {P : Program}

theorem rv_low {n:Nat} {f d:Nat→Nat} (hf:∀ j,j<n→f j=j) (hd:∀ j,j<n→d j=0):∀ {x:AV},x.low n=true→x.rv f d=x:=by
 intro x
 induction x using AV.rec (motive_2:=fun cs=>AV.low.allLow n cs=true→AV.rv.rvL f d cs=cs) with
 | u=>intro _; rfl
 | mp b=>
  intro h
  have:b<n:=by simpa [AV.low,Nat.blt_eq] using h
  simp[AV.rv,hf b this]
 | op b=>
  intro h
  have:b<n:=by simpa [AV.low,Nat.blt_eq] using h
  simp[AV.rv,hf b this]
 | p x=>intro _; rfl
 | ptr b v o=>
  intro h
  have:b<n:=by simpa [AV.low,Nat.blt_eq] using h
  simp[AV.rv,hf b this,hd b this]
 | rs b v z o l=>
  intro h
  have:b<n:=by simpa [AV.low,Nat.blt_eq] using h
  simp[AV.rv,hf b this,hd b this]
 | rp cs=>intro _; rfl
 | agg cs ih=>intro h; simp[AV.rv,ih (by simpa [AV.low] using h)]
 | fn g cs ih=>intro h; simp[AV.rv,ih (by simpa [AV.low] using h)]
 | tup cs ih=>intro h; simp[AV.rv,ih (by simpa [AV.low] using h)]
 | nil=>rfl
 | cons c cs h1 h2=>
  rename_i h
  simp only[AV.low.allLow,Bool.and_eq_true] at h
  simp[AV.rv.rvL,h1 h.1,h2 h.2]

def Blow (n:Nat) (B:List Box):Prop:=∀ x∈B,AV.low.allLow n x.cs=true

theorem rvL_low {n:Nat} {f d:Nat→Nat} (hf:∀ j,j<n→f j=j) (hd:∀ j,j<n→d j=0) {cs:List AV} (h:AV.low.allLow n cs=true):AV.rv.rvL f d cs=cs:=by
 rw[rvL_map]
 refine (List.map_congr_left fun x hx=>?_).trans (List.map_id cs)
 obtain ⟨j,hj⟩:=List.getElem?_of_mem hx
 exact rv_low hf hd (allLow_get h j x hj)

theorem boxesRen_id {n:Nat} {f d:Nat→Nat} (hf:∀ j,j<n→f j=j) (hd:∀ j,d j=0):∀ {B:List Box} {k:Nat},Blow n B→BoxesRen f d n k B B
 | [],_,_=>trivial
 | x::B,k,h=>by
  refine ⟨?_,boxesRen_id hf hd (fun y hy=>h y (by simp[hy]))⟩
  have hx:=h x (by simp)
  cases x with
  | dead=>exact .dead
  | cells row v cs=>exact .cells (by rw[hd]; rfl) (rvL_low hf (fun j _=>hd j) hx).symm hx
  | obj cs Φ=>exact .objs (rvL_low hf (fun j _=>hd j) hx).symm hx

theorem outB_range:∀ (Bs B:List Box) (k:Nat) (pre:List Box),pre.length=k→Bs.length≤B.length→outB (pre++B) (List.range' k Bs.length) Bs=pre++(Bs++B.drop Bs.length)
 | [],B,k,pre,_,_=>by simp[outB]
 | x::Bs,[],k,pre,_,h=>by simp at h
 | x::Bs,y::B,k,pre,hk,h=>by
  rw[List.length_cons,List.range'_succ,outB]
  have:(pre++y::B).set k x=(pre++ [x])++B:=by
   rw[List.set_append_right _ _ (by omega),hk,Nat.sub_self]; simp
  rw[this,outB_range Bs B (k+1) (pre++ [x]) (by simp[hk]) (by simpa using h)]
  simp

theorem lift_tail {R:RSpec} {args:List AV} {B0 B0':List Box} {r:AV} (hR:R args B0 r B0') (hlen:B0'.length=B0.length) (ha:AV.low.allLow B0.length args=true) (hB:Blow B0.length B0) (hB':Blow B0.length B0') (hr:r.low B0.length=true) (Bx:List Box):
  liftR R args (B0++Bx) r (B0'++Bx):=by
 have hfn:∀ j,j<B0.length→fNew (List.range B0.length) (B0++Bx).length j=j:=fun j hj=>by simp[fNew,List.getElem?_range hj]
 have hdn:∀ j,dNew (List.replicate B0.length 0) j=0:=fun j=>by
  unfold dNew
  rw[List.getElem?_replicate]
  split <;> rfl
 refine ⟨args,B0,r,B0',hR,⟨List.range B0.length,List.replicate B0.length 0,B0,B0',[],?_,?_,(rvL_low hfn (fun j _=>hdn j) ha).symm,ha,boxesRen_id hfn hdn hB,?_,?_,(rv_low hfn (fun j _=>hdn j) hr).symm,by rw[hlen]; exact hr⟩⟩
 ·simp only[Bool.and_eq_true,List.all_eq_true,List.mem_range,Nat.blt_eq,List.length_append,List.length_range,List.length_replicate,hlen]
  refine ⟨⟨⟨⟨?_,fun j hj=>by omega⟩,Nat.beq_refl _⟩,Nat.beq_refl _⟩,Nat.beq_refl _⟩
  have:∀ (n k:Nat),noDup (List.range' k n)=true:=by
   intro n
   induction n with
   | zero=>intro k; rfl
   | succ n ih=>
    intro k
    rw[List.range'_succ,noDup,ih (k+1),Bool.and_true,Bool.not_eq_true',List.any_eq_false]
    intro x hx
    rw[List.mem_range'_1] at hx
    intro e
    have:=Nat.eq_of_beq_eq_true e
    omega
  rw[List.range_eq_range']
  exact this _ _
 ·refine List.ext_getElem? fun j=>?_
  rw[List.getElem?_map,List.getElem?_map]
  rcases Nat.lt_or_ge j B0.length with h | h
  ·rw[List.getElem?_range h,List.getElem?_eq_getElem h]
   simp[List.getElem?_append_left h,h]
  ·rw[List.getElem?_eq_none (by simpa using h),List.getElem?_eq_none h]; rfl
 ·rw[List.append_nil,hlen]
  exact boxesRen_id hfn hdn hB'
 ·have:=outB_range B0' (B0++Bx) 0 [] rfl (by simp; omega)
  rw[List.nil_append,hlen,←List.range_eq_range'] at this
  rw[this,List.append_nil,←hlen]
  simp[hlen]

end

abbrev strsV (ns:List ByteArray):List Value:=ns.map .string

theorem hasK_str (a b:ByteArray):hasK .string (.string a) (.string b)=true↔b=a:=(@hasK_iff noG .string (.string a) (.string b) rfl rfl).trans (by simp)

theorem mapAt_str {P:Program} {t kt et:TypeId} (hu:P.underlying t=some (.map kt et)) (hk:P.underlying kt=some .string) {B:List Box} {b:Nat} {cs:List AV} {ns:List ByteArray} {hid:List (Value×Value)} {hs:List ByteArray} (hb:B[b]? = some (.obj cs (mapP (strsV ns) hid))) (hh:hid.map (·.1)=strsV hs) (nm:ByteArray):
  mapAt P t B (.mp b) (vs nm)=some ⟨b,strsV ns,hid,cs, .string nm,(strsV ns).findIdx? (hasK .string (.string nm)),hid.findIdx? fun h=>hasK .string (.string nm) h.1⟩:=by
 unfold mapAt
 rw[hu]
 simp only[hk,hb]
 show (if _ then _ else _)=_
 rw[if_pos]
 simp only[keyB,Bool.true_and,Bool.and_eq_true,List.all_eq_true]
 refine ⟨fun x hx=>?_,fun x hx=>?_⟩
 ·obtain ⟨a,_,rfl⟩:=List.mem_map.1 hx; rfl
 ·have:x.1∈strsV hs:=by rw[←hh]; exact List.mem_map.2 ⟨x,hx,rfl⟩
  obtain ⟨a,_,e⟩:=List.mem_map.1 this
  rw[←e]

theorem find_hid {hid:List (Value×Value)} {hs:List ByteArray} (hh:hid.map (·.1)=strsV hs) {nm:ByteArray} (h:nm ∉ hs):hid.findIdx? (fun h=>hasK .string (.string nm) h.1)=none:=by
 rw[List.findIdx?_eq_none_iff]
 intro x hx
 have:x.1∈strsV hs:=by rw[←hh]; exact List.mem_map.2 ⟨x,hx,rfl⟩
 obtain ⟨a,ha,e⟩:=List.mem_map.1 this
 rw[←e]
 cases hq:hasK .string (.string nm) (.string a) with
 | false=>rfl
 | true=>exact absurd ((hasK_str nm a).1 hq▸ha) h

theorem find_vis0 (nm:ByteArray) (r:List Value):(Value.string nm::r).findIdx? (hasK .string (.string nm))=some 0:=by
 rw[List.findIdx?_cons,(hasK_str nm nm).2 rfl]; rfl
theorem hasK_ne {a b:ByteArray} (h:b≠a):hasK .string (.string a) (.string b)=false:=by
 cases hq:hasK .string (.string a) (.string b) with
 | false=>rfl
 | true=>exact absurd ((hasK_str a b).1 hq) h

section
variable [Glob] {P : Program}

def okArg (n:Nat):AV→Bool
 | .p _=>true
 | .rs b _ _ _ _=>Nat.blt b n
 | _=>false

def diskR (R:RSpec):RSpec:=fun args B r B'=>∃ (D D1:Dsk) (X Y:List Fil) (Bx:List (Nat×List UInt8)) (I:List Vis) (Z:List (Nat×Nat×List UInt8)) (al:List AV) (y:AV),
 D.files.Perm (X++Y)∧al.all (okArg Bx.length)=true∧args= .op 0::al.map (AV.rv (fun j=>1+j) fun _=>0)∧B= .obj [] (diskP D)::rowsB Bx ∧
 (∀ hid:List (Value×Value),hid.map (·.1)=keysOf Y→∃ Bf,R (.ptr 0 0 0::al.map (AV.rv (fun j=>2+2*X.length+j) fun _=>0)) (flatB D X hid++rowsB Bx) (y.rv (fun j=>((Z[j]?).map (·.1)).getD 0) fun _=>0) Bf∧Shut (2+2*X.length) Bx hid D1 I Z Bf) ∧
 (I.map (·.x)++Y).Perm D1.files∧y.pl2=true∧y.low Z.length=true∧r=y.rv (fun j=>1+j) (fun _=>0)∧B'= .obj [] (diskP D1)::rowsB (zB Z)

theorem disk_lift {f:Nat} {R:RSpec} (hs:SoundR P f R):SoundR P f (diskR R):=by
 rintro args B r B' ⟨D,D1,X,Y,Bx,I,Z,al,y,hXY,has,rfl,rfl,hR,hf,hp,hlw,rfl,rfl⟩ F ρ w us hI hA
 obtain ⟨k,o,LY,F',ρ',hY,O⟩:=disk_open hI hXY
 obtain ⟨Bf,hRr,hS⟩:=hR (LY.map hidOf) (by rw[List.map_map,←hY,keysOf,List.map_map]; rfl)
 have hl:=flatB_length D X (LY.map hidOf)
 have hA':ArgsRel F' (flatB D X (LY.map hidOf)++rowsB Bx) ρ' w (.ptr 0 0 0::al.map (AV.rv (fun j=>2+2*X.length+j) fun _=>0)) us:=by
  refine ⟨by have:=hA.1; simpa using this,fun j p u hpj hu=>?_⟩
  cases j with
  | zero=>
   cases hpj
   have:=hA.2 0 _ u rfl hu
   cases this with
   | op _ r0 hp0=>
    obtain ⟨o2,e2⟩:=hp0.2 _ _ rfl
    rw[O.at0] at e2
    cases e2
    refine .ptr _ _ _ _ ⟨by rw[List.length_append,hl]; omega,fun row v cs hb=>?_⟩
    rw[List.cons_append,List.getElem?_cons_zero] at hb
    cases hb
    exact ⟨Nat.le_refl _,fun _=>⟨_,0,O.at0',rfl⟩⟩
  | succ j=>
   rw[List.getElem?_cons_succ,List.getElem?_map] at hpj
   obtain ⟨a,ha,rfl⟩:=Option.map_eq_some_iff.1 hpj
   have:=hA.2 (j+1) (a.rv (fun j=>1+j) fun _=>0) u (by rw[List.getElem?_cons_succ,List.getElem?_map,ha]; rfl) hu
   have hok:=List.all_eq_true.1 has a (List.mem_of_getElem? ha)
   cases a with
   | p x=>
    cases this with
    | p _ _ hp0=>exact .p _ _ (hp0.mono (fun k _ ho=>⟨rfl,fun h=>ho ((O.own k).1 h)⟩) (Nat.le_refl _))
   | rs b v z off len=>
    have hb:b<Bx.length:=by simpa [okArg,Nat.blt_eq] using hok
    cases this with
    | rs _ _ _ _ _ a cap hp0=>
     refine .rs _ _ _ _ _ a cap ⟨by show 2+2*X.length+b<_; rw[List.length_append,hl]; simp; omega,hp0.2.1,hp0.2.2.1,fun row v' cs hb'=>?_⟩
     change (flatB D X (LY.map hidOf)++rowsB Bx)[2+2*X.length+b]? = _ at hb'
     rw[List.getElem?_append_right (by omega),hl,show 2+2*X.length+b - (2+2*X.length)=b by omega] at hb'
     obtain ⟨q1,q2⟩:=hp0.2.2.2 row v' cs (by show (Box.obj [] (diskP D)::rowsB Bx)[1+b]? = _; rw[show 1+b=b+1 by omega,List.getElem?_cons_succ]; exact hb')
     refine ⟨q1,fun e=>?_⟩
     show _∧(_∨∃ k o',ρ' (2+2*X.length+b)=_∧_)
     rw[O.rest b hb]
     exact q2 e
   | _=>cases hok
 refine (hs _ _ _ _ hRr F' ρ' w us O.inv hA').mono fun e w' hp0=>?_
 obtain ⟨x,ρ2,rfl,hI2,hE2,hv⟩:=hp0
 obtain ⟨ρ3,g1,g2,g3⟩:=disk_shut O hI2 hE2 hS (by rw[hY]; exact hf)
 exact ⟨x,ρ3,rfl,g1,g2,g3 y x hv hp hlw⟩

end

end Go.Ax

namespace Go.Ax
open Go.RowKit
set_option maxRecDepth 100000

abbrev nilP:AV:= .p (.v (.pointer none))
abbrev dsk (ro us fu:Int) (dn:Bool):Dsk:=⟨ro,us,[],dn,fu⟩

inductive RFind:RSpec
 | d (ro us fu:Int) (hid:List (Value×Value)) (nm:ByteArray):RFind [.ptr 0 0 0,vs nm] (flatB (dsk ro us fu true) [] hid) (.tup [nilP,vi 10]) (flatB (dsk ro us fu true) [] hid)
 | a (ro us fu:Int) (hid:List (Value×Value)) (hs:List ByteArray) (nm:ByteArray):hid.map (·.1)=strsV hs→nm ∉ hs→RFind [.ptr 0 0 0,vs nm] (flatB (dsk ro us fu false) [] hid) (.tup [nilP,vi 4]) (flatB (dsk ro us fu false) [] hid)
 | p (ro us fu:Int) (hid:List (Value×Value)) (hs:List ByteArray) (x:Fil):hid.map (·.1)=strsV hs→RFind [.ptr 0 0 0,vs x.name] (flatB (dsk ro us fu false) [x] hid) (.tup [.ptr 2 0 0,vi 0]) (flatB (dsk ro us fu false) [x] hid)
 | q (ro us fu:Int) (hid:List (Value×Value)) (hs:List ByteArray) (x y:Fil):hid.map (·.1)=strsV hs→RFind [.ptr 0 0 0,vs x.name] (flatB (dsk ro us fu false) [x,y] hid) (.tup [.ptr 2 0 0,vi 0]) (flatB (dsk ro us fu false) [x,y] hid)

inductive RStep:RSpec
 | mk (ro us fu:Int) (hid:List (Value×Value)) (X:List Fil):X.length≤2→fu<9223372036854775808→RStep [.ptr 0 0 0] (flatB (dsk ro us fu false) X hid) (vi (stE fu)) (flatB (dsk ro us (stF fu) (stD fu)) X hid)

section
variable [Glob] {P : Program} {t kt et : TypeId}

theorem look_v0 (hu:P.underlying t=some (.map kt et)) (hk:P.underlying kt=some .string) {B:List Box} {c:AV} {cs:List AV} {nm:ByteArray} {ns hs:List ByteArray} {hid:List (Value×Value)} (hb:B[1]? = some (.obj (c::cs) (mapP (strsV (nm::ns)) hid))) (hh:hid.map (·.1)=strsV hs):LookE P t B (.mp 1) (vs nm) (.tup [c,vb true]):=by
 unfold LookE lookupA
 rw[mapAt_str hu hk hb hh nm]
 simp only[Option.bind_some,hu]
 rw[show (strsV (nm::ns)).findIdx? (hasK .string (.string nm))=some 0 from find_vis0 nm _]
 rfl

theorem find_none (hu:P.underlying t=some (.map kt et)) (hk:P.underlying kt=some .string) {ns:List ByteArray} {nm:ByteArray} (h:nm ∉ ns):(strsV ns).findIdx? (hasK .string (.string nm))=none:=by
 rw[List.findIdx?_eq_none_iff]
 intro x hx
 obtain ⟨a,ha,rfl⟩:=List.mem_map.1 hx
 exact hasK_ne (fun e=>h (e▸ha))

theorem look_no (hu:P.underlying t=some (.map kt et)) (hk:P.underlying kt=some .string) {z:AV} (hz:zeroV P et=some z) {B:List Box} {cs:List AV} {nm:ByteArray} {ns hs:List ByteArray} {hid:List (Value×Value)} (hb:B[1]? = some (.obj cs (mapP (strsV ns) hid))) (hh:hid.map (·.1)=strsV hs) (h1:nm ∉ ns) (h2:nm ∉ hs):LookE P t B (.mp 1) (vs nm) (.tup [z,vb false]):=by
 unfold LookE lookupA
 rw[mapAt_str hu hk hb hh nm]
 simp only[Option.bind_some,hu]
 rw[find_none hu hk h1,find_hid hh h2]
 simp only[hz]
 rfl

theorem upd_no (hu:P.underlying t=some (.map kt et)) (hk:P.underlying kt=some .string) {B:List Box} {cs:List AV} {v:AV} {nm:ByteArray} {ns hs:List ByteArray} {hid:List (Value×Value)} (hb:B[1]? = some (.obj cs (mapP (strsV ns) hid))) (hh:hid.map (·.1)=strsV hs) (h1:nm ∉ ns) (h2:nm ∉ hs):
  UpdE P t B (.mp 1) (vs nm) v (B.set 1 (.obj (cs++ [v]) (mapP (strsV ns++ [.string nm]) hid))):=by
 unfold UpdE mapUpdateA
 rw[mapAt_str hu hk hb hh nm]
 rw[find_none hu hk h1,find_hid hh h2]
 rfl

theorem del_v0 (hu:P.underlying t=some (.map kt et)) (hk:P.underlying kt=some .string) {B:List Box} {c:AV} {cs:List AV} {nm:ByteArray} {ns hs:List ByteArray} {hid:List (Value×Value)} (hb:B[1]? = some (.obj (c::cs) (mapP (strsV (nm::ns)) hid))) (hh:hid.map (·.1)=strsV hs):
  DelE P t B (.mp 1) (vs nm) (B.set 1 (.obj cs (mapP (strsV ns) hid))):=by
 unfold DelE deleteA
 rw[mapAt_str hu hk hb hh nm]
 rw[show (strsV (nm::ns)).findIdx? (hasK .string (.string nm))=some 0 from find_vis0 nm _]
 rfl

end

end Go.Ax

namespace Go.Ax
open Go.Proofs Go.RowKit
set_option maxRecDepth 100000

def halvesP:List PV:= [.v (.int .u32 0), .v (.int .u32 274646895), .v (.int .u32 549293790), .v (.int .u32 820201905), .v (.int .u32 1098587580), .v (.int .u32 1361435347), .v (.int .u32 1640403810), .v (.int .u32 1905808397), .v (.int .u32 2197175160), .v (.int .u32 2460548119), .v (.int .u32 2722870694), .v (.int .u32 2987750089), .v (.int .u32 3280807620), .v (.int .u32 3553878443), .v (.int .u32 3811616794), .v (.int .u32 4084100981)]
def pow10P:List PV:= [.v (.int .u64 1), .v (.int .u64 10), .v (.int .u64 100), .v (.int .u64 1000), .v (.int .u64 10000), .v (.int .u64 100000), .v (.int .u64 1000000), .v (.int .u64 10000000), .v (.int .u64 100000000), .v (.int .u64 1000000000), .v (.int .u64 10000000000), .v (.int .u64 100000000000), .v (.int .u64 1000000000000), .v (.int .u64 10000000000000), .v (.int .u64 100000000000000), .v (.int .u64 1000000000000000), .v (.int .u64 10000000000000000), .v (.int .u64 100000000000000000), .v (.int .u64 1000000000000000000), .v (.int .u64 10000000000000000000)]
def tabG:Nat→List PV
 | 0=>halvesP
 | 3=>pow10P
 | _=> []
instance:Glob:=⟨⟨tabG⟩⟩
noncomputable abbrev DP:Program:=Tryd.prog
theorem mixedD:DP.follows .mixedOrders=true:=by kernel_rfl

def Δ0:REnv:=fun _ _ _ _ _=>False
theorem Δ0_ok {P:Program}:∀ f,SoundR P f (Δ0 f):=fun f=> .none f
def Γ0:Env:=fun _=> .none
theorem Γ0_ok {P:Program}:∀ f,SoundF P f (Γ0 f):=fun f=>sound_none f

end Go.Ax

namespace Go.Proofs
open Go.Shelf

def Tryd.itoaA_ren:Go.Shelf.Ren:=⟨fun | 171=>63 | 243=>90 | 246=>106 | 283=>127 | 284=>128 | 285=>129 | 286=>130 | 129=>126 | 317=>141 | 318=>142 | 319=>143 | 320=>144 | 337=>149 | 338=>150 | n=>n,fun | 3=>3 | 9=>9 | 2=>2 | 4=>4 | 171=>170 | 0=>0 | 53=>46 | 37=>65 | 5=>5 | 173=>172 | 212=>188 | 51=>137 | 20=>20 | 213=>189 | 46=>117 | 232=>199 | 233=>200 | n=>n,fun | 17=>3 | 18=>4 | 19=>5 | n=>n⟩
theorem Tryd.itoaA:Go.Proofs.LaysM.n171 Tryd.prog Tryd.itoaA_ren:={
 mixed:=by kernel_rfl
 f129:=Tryd.func126.trans (congrArg some (by kernel_rfl))
 f171:=Tryd.func63.trans (congrArg some (by kernel_rfl))
 f243:=Tryd.func90.trans (congrArg some (by kernel_rfl))
 f246:=Tryd.func106.trans (congrArg some (by kernel_rfl))
 f283:=Tryd.func127.trans (congrArg some (by kernel_rfl))
 f284:=Tryd.func128.trans (congrArg some (by kernel_rfl))
 f285:=Tryd.func129.trans (congrArg some (by kernel_rfl))
 f286:=Tryd.func130.trans (congrArg some (by kernel_rfl))
 f317:=Tryd.func141.trans (congrArg some (by kernel_rfl))
 f318:=Tryd.func142.trans (congrArg some (by kernel_rfl))
 f319:=Tryd.func143.trans (congrArg some (by kernel_rfl))
 f320:=Tryd.func144.trans (congrArg some (by kernel_rfl))
 f337:=Tryd.func149.trans (congrArg some (by kernel_rfl))
 f338:=Tryd.func150.trans (congrArg some (by kernel_rfl))
 t0:=Tryd.underlying0
 a0:=Tryd.isAgg0
 z0:=Tryd.sizeOf0
 v0:=Tryd.zeroValue0
 t2:=Tryd.underlying2
 a2:=Tryd.isAgg2
 z2:=Tryd.sizeOf2
 v2:=Tryd.zeroValue2
 t3:=Tryd.underlying3
 a3:=Tryd.isAgg3
 z3:=Tryd.sizeOf3
 v3:=Tryd.zeroValue3
 t4:=Tryd.underlying4
 a4:=Tryd.isAgg4
 z4:=Tryd.sizeOf4
 v4:=Tryd.zeroValue4
 t5:=Tryd.underlying5
 a5:=Tryd.isAgg5
 z5:=Tryd.sizeOf5
 v5:=Tryd.zeroValue5
 t9:=Tryd.underlying9
 a9:=Tryd.isAgg9
 z9:=Tryd.sizeOf9
 v9:=Tryd.zeroValue9
 t20:=Tryd.underlying20
 a20:=Tryd.isAgg20
 z20:=Tryd.sizeOf20
 v20:=Tryd.zeroValue20
 t37:=Tryd.underlying65
 a37:=Tryd.isAgg65
 z37:=Tryd.sizeOf65
 v37:=Tryd.zeroValue65
 t46:=Tryd.underlying117
 a46:=Tryd.isAgg117
 z46:=Tryd.sizeOf117
 v46:=Tryd.zeroValue117
 t51:=Tryd.underlying137
 a51:=Tryd.isAgg137
 z51:=Tryd.sizeOf137
 v51:=Tryd.zeroValue137
 t53:=Tryd.underlying46
 a53:=Tryd.isAgg46
 z53:=Tryd.sizeOf46
 v53:=Tryd.zeroValue46
 t171:=Tryd.underlying170
 a171:=Tryd.isAgg170
 z171:=Tryd.sizeOf170
 v171:=Tryd.zeroValue170
 t173:=Tryd.underlying172
 a173:=Tryd.isAgg172
 z173:=Tryd.sizeOf172
 v173:=Tryd.zeroValue172
 t212:=Tryd.underlying188
 a212:=Tryd.isAgg188
 z212:=Tryd.sizeOf188
 v212:=Tryd.zeroValue188
 t213:=Tryd.underlying189
 a213:=Tryd.isAgg189
 z213:=Tryd.sizeOf189
 t232:=Tryd.underlying199
 a232:=Tryd.isAgg199
 z232:=Tryd.sizeOf199
 v232:=Tryd.zeroValue199
 t233:=Tryd.underlying200
 a233:=Tryd.isAgg200
 z233:=Tryd.sizeOf200
 v233:=Tryd.zeroValue200
 g17:=by kernel_rfl
 g18:=by kernel_rfl
 g19:=by kernel_rfl
 i0:=by kernel_rfl
 i2:=by kernel_rfl
 i3:=by kernel_rfl
 i4:=by kernel_rfl
 i5:=by kernel_rfl
 i9:=by kernel_rfl
 i20:=by kernel_rfl
 i37:=by kernel_rfl
 i46:=by kernel_rfl
 i51:=by kernel_rfl
 i53:=by kernel_rfl
 i171:=by kernel_rfl
 i173:=by kernel_rfl
 i212:=by kernel_rfl
 i232:=by kernel_rfl
 i233:=by kernel_rfl
 m17:=by kernel_rfl
 m18:=by kernel_rfl
 m19:=by kernel_rfl}
def Tryd.atoiA_ren:Go.Shelf.Ren:=⟨fun | 172=>67 | 244=>92 | 245=>93 | 247=>108 | 279=>109 | 280=>110 | 281=>111 | 282=>112 | 287=>131 | 316=>132 | 171=>63 | 205=>133 | 321=>145 | 322=>146 | 243=>90 | 246=>106 | 283=>127 | 284=>128 | 285=>129 | 286=>130 | 129=>126 | 317=>141 | 318=>142 | 319=>143 | 320=>144 | 337=>149 | 338=>150 | n=>n,fun | 9=>9 | 3=>3 | 75=>109 | 76=>110 | 4=>4 | 5=>5 | 167=>151 | 37=>65 | 0=>0 | 85=>152 | 2=>2 | 168=>154 | 53=>46 | 175=>174 | 46=>117 | 210=>178 | 127=>192 | 145=>195 | 143=>193 | 21=>21 | 171=>170 | 173=>172 | 212=>188 | 51=>137 | 20=>20 | 213=>189 | 232=>199 | 233=>200 | 80=>123 | n=>n,fun | 15=>1 | 16=>2 | 17=>3 | 18=>4 | 19=>5 | n=>n⟩
theorem Tryd.atoiA:Go.Proofs.LaysC.n172 Tryd.prog Tryd.atoiA_ren:={
 mixed:=by kernel_rfl
 f129:=Tryd.func126.trans (congrArg some (by kernel_rfl))
 f171:=Tryd.func63.trans (congrArg some (by kernel_rfl))
 f172:=Tryd.func67.trans (congrArg some (by kernel_rfl))
 f205:=Tryd.func133.trans (congrArg some (by kernel_rfl))
 f243:=Tryd.func90.trans (congrArg some (by kernel_rfl))
 f244:=Tryd.func92.trans (congrArg some (by kernel_rfl))
 f245:=Tryd.func93.trans (congrArg some (by kernel_rfl))
 f246:=Tryd.func106.trans (congrArg some (by kernel_rfl))
 f247:=Tryd.func108.trans (congrArg some (by kernel_rfl))
 f279:=Tryd.func109.trans (congrArg some (by kernel_rfl))
 f280:=Tryd.func110.trans (congrArg some (by kernel_rfl))
 f281:=Tryd.func111.trans (congrArg some (by kernel_rfl))
 f282:=Tryd.func112.trans (congrArg some (by kernel_rfl))
 f283:=Tryd.func127.trans (congrArg some (by kernel_rfl))
 f284:=Tryd.func128.trans (congrArg some (by kernel_rfl))
 f285:=Tryd.func129.trans (congrArg some (by kernel_rfl))
 f286:=Tryd.func130.trans (congrArg some (by kernel_rfl))
 f287:=Tryd.func131.trans (congrArg some (by kernel_rfl))
 f316:=Tryd.func132.trans (congrArg some (by kernel_rfl))
 f317:=Tryd.func141.trans (congrArg some (by kernel_rfl))
 f318:=Tryd.func142.trans (congrArg some (by kernel_rfl))
 f319:=Tryd.func143.trans (congrArg some (by kernel_rfl))
 f320:=Tryd.func144.trans (congrArg some (by kernel_rfl))
 f321:=Tryd.func145.trans (congrArg some (by kernel_rfl))
 f322:=Tryd.func146.trans (congrArg some (by kernel_rfl))
 f337:=Tryd.func149.trans (congrArg some (by kernel_rfl))
 f338:=Tryd.func150.trans (congrArg some (by kernel_rfl))
 t0:=Tryd.underlying0
 a0:=Tryd.isAgg0
 z0:=Tryd.sizeOf0
 v0:=Tryd.zeroValue0
 t2:=Tryd.underlying2
 a2:=Tryd.isAgg2
 z2:=Tryd.sizeOf2
 v2:=Tryd.zeroValue2
 t3:=Tryd.underlying3
 a3:=Tryd.isAgg3
 z3:=Tryd.sizeOf3
 v3:=Tryd.zeroValue3
 t4:=Tryd.underlying4
 a4:=Tryd.isAgg4
 z4:=Tryd.sizeOf4
 v4:=Tryd.zeroValue4
 t5:=Tryd.underlying5
 a5:=Tryd.isAgg5
 z5:=Tryd.sizeOf5
 v5:=Tryd.zeroValue5
 t9:=Tryd.underlying9
 a9:=Tryd.isAgg9
 z9:=Tryd.sizeOf9
 v9:=Tryd.zeroValue9
 t20:=Tryd.underlying20
 a20:=Tryd.isAgg20
 z20:=Tryd.sizeOf20
 v20:=Tryd.zeroValue20
 t21:=Tryd.underlying21
 a21:=Tryd.isAgg21
 z21:=Tryd.sizeOf21
 v21:=Tryd.zeroValue21
 t37:=Tryd.underlying65
 a37:=Tryd.isAgg65
 z37:=Tryd.sizeOf65
 v37:=Tryd.zeroValue65
 t46:=Tryd.underlying117
 a46:=Tryd.isAgg117
 z46:=Tryd.sizeOf117
 v46:=Tryd.zeroValue117
 t51:=Tryd.underlying137
 a51:=Tryd.isAgg137
 z51:=Tryd.sizeOf137
 v51:=Tryd.zeroValue137
 t53:=Tryd.underlying46
 a53:=Tryd.isAgg46
 z53:=Tryd.sizeOf46
 v53:=Tryd.zeroValue46
 t75:=Tryd.underlying109
 a75:=Tryd.isAgg109
 z75:=Tryd.sizeOf109
 v75:=Tryd.zeroValue109
 t76:=Tryd.underlying110
 a76:=Tryd.isAgg110
 z76:=Tryd.sizeOf110
 v76:=Tryd.zeroValue110
 t85:=Tryd.underlying152
 a85:=Tryd.isAgg152
 z85:=Tryd.sizeOf152
 v85:=Tryd.zeroValue152
 t127:=Tryd.underlying192
 a127:=Tryd.isAgg192
 z127:=Tryd.sizeOf192
 v127:=Tryd.zeroValue192
 t143:=Tryd.underlying193
 a143:=Tryd.isAgg193
 z143:=Tryd.sizeOf193
 v143:=Tryd.zeroValue193
 t145:=Tryd.underlying195
 a145:=Tryd.isAgg195
 z145:=Tryd.sizeOf195
 v145:=Tryd.zeroValue195
 t167:=Tryd.underlying151
 a167:=Tryd.isAgg151
 z167:=Tryd.sizeOf151
 v167:=Tryd.zeroValue151
 t168:=Tryd.underlying154
 a168:=Tryd.isAgg154
 z168:=Tryd.sizeOf154
 v168:=Tryd.zeroValue154
 t171:=Tryd.underlying170
 a171:=Tryd.isAgg170
 z171:=Tryd.sizeOf170
 v171:=Tryd.zeroValue170
 t173:=Tryd.underlying172
 a173:=Tryd.isAgg172
 z173:=Tryd.sizeOf172
 v173:=Tryd.zeroValue172
 t175:=Tryd.underlying174
 a175:=Tryd.isAgg174
 z175:=Tryd.sizeOf174
 v175:=Tryd.zeroValue174
 t210:=Tryd.underlying178
 a210:=Tryd.isAgg178
 z210:=Tryd.sizeOf178
 v210:=Tryd.zeroValue178
 t212:=Tryd.underlying188
 a212:=Tryd.isAgg188
 z212:=Tryd.sizeOf188
 v212:=Tryd.zeroValue188
 t213:=Tryd.underlying189
 a213:=Tryd.isAgg189
 z213:=Tryd.sizeOf189
 t232:=Tryd.underlying199
 a232:=Tryd.isAgg199
 z232:=Tryd.sizeOf199
 v232:=Tryd.zeroValue199
 t233:=Tryd.underlying200
 a233:=Tryd.isAgg200
 z233:=Tryd.sizeOf200
 v233:=Tryd.zeroValue200
 g15:=by kernel_rfl
 g16:=by kernel_rfl
 g17:=by kernel_rfl
 g18:=by kernel_rfl
 g19:=by kernel_rfl
 t80:=Tryd.underlying123
 a80:=Tryd.isAgg123
 z80:=Tryd.sizeOf123
 v80:=Tryd.zeroValue123
 i0:=by kernel_rfl
 i2:=by kernel_rfl
 i3:=by kernel_rfl
 i4:=by kernel_rfl
 i5:=by kernel_rfl
 i9:=by kernel_rfl
 i20:=by kernel_rfl
 i21:=by kernel_rfl
 i37:=by kernel_rfl
 i46:=by kernel_rfl
 i51:=by kernel_rfl
 i53:=by kernel_rfl
 i75:=by kernel_rfl
 i76:=by kernel_rfl
 i80:=by kernel_rfl
 i85:=by kernel_rfl
 i127:=by kernel_rfl
 i143:=by kernel_rfl
 i145:=by kernel_rfl
 i167:=by kernel_rfl
 i168:=by kernel_rfl
 i171:=by kernel_rfl
 i173:=by kernel_rfl
 i175:=by kernel_rfl
 i210:=by kernel_rfl
 i212:=by kernel_rfl
 i232:=by kernel_rfl
 i233:=by kernel_rfl
 m15:=by kernel_rfl
 m16:=by kernel_rfl
 m17:=by kernel_rfl
 m18:=by kernel_rfl
 m19:=by kernel_rfl
 c0:=by kernel_rfl
 c2:=by kernel_rfl
 c3:=by kernel_rfl
 c4:=by kernel_rfl
 c5:=by kernel_rfl
 c9:=by kernel_rfl
 c20:=by kernel_rfl
 c21:=by kernel_rfl
 c37:=by kernel_rfl
 c46:=by kernel_rfl
 c51:=by kernel_rfl
 c53:=by kernel_rfl
 c75:=by kernel_rfl
 c76:=by kernel_rfl
 c80:=by kernel_rfl
 c85:=by kernel_rfl
 c127:=by kernel_rfl
 c143:=by kernel_rfl
 c145:=by kernel_rfl
 c167:=by kernel_rfl
 c168:=by kernel_rfl
 c171:=by kernel_rfl
 c173:=by kernel_rfl
 c175:=by kernel_rfl
 c210:=by kernel_rfl
 c212:=by kernel_rfl
 c213:=by kernel_rfl
 c232:=by kernel_rfl
 c233:=by kernel_rfl}
def Tryd.cutpA_ren:Go.Shelf.Ren:=⟨fun | 103=>66 | 210=>91 | 206=>107 | n=>n,fun | 9=>9 | 4=>4 | 24=>106 | 3=>3 | n=>n,fun | n=>n⟩
theorem Tryd.cutpA:Go.Proofs.Lays.n103 Tryd.prog Tryd.cutpA_ren:={
 mixed:=by kernel_rfl
 f103:=Tryd.func66.trans (congrArg some (by kernel_rfl))
 f206:=Tryd.func107.trans (congrArg some (by kernel_rfl))
 f210:=Tryd.func91.trans (congrArg some (by kernel_rfl))
 t3:=Tryd.underlying3
 a3:=Tryd.isAgg3
 z3:=Tryd.sizeOf3
 v3:=Tryd.zeroValue3
 t4:=Tryd.underlying4
 a4:=Tryd.isAgg4
 z4:=Tryd.sizeOf4
 v4:=Tryd.zeroValue4
 t9:=Tryd.underlying9
 a9:=Tryd.isAgg9
 z9:=Tryd.sizeOf9
 v9:=Tryd.zeroValue9
 t24:=Tryd.underlying106
 a24:=Tryd.isAgg106
 z24:=Tryd.sizeOf106
 v24:=Tryd.zeroValue106}

end Go.Proofs

namespace Go.Ax
open Go.RowKit
set_option maxRecDepth 100000

def Dsk.get (D:Dsk) (nm:ByteArray):Option Fil:=D.files.find? fun x=>decide (x.name=nm)
def Dsk.stepped (D:Dsk):Dsk:={D with down:=stD D.fuse,fuse:=stF D.fuse}
def delF (fs:List Fil) (nm:ByteArray):List Fil:=fs.filter fun y=>decide (y.name≠nm)
def repF (fs:List Fil) (x:Fil):List Fil:=fs.map fun y=>if y.name=x.name then x else y
def insF (x:Fil):List Fil→List Fil
 | []=> [x]
 | y::r=>if Op.bytesLess x.name.toList y.name.toList then x::y::r else y::insF x r

def createD (D:Dsk) (nm:ByteArray):Dsk×Int:=
 if !isName nm then (D,1) else if D.down then (D,10) else
 match D.get nm with
 | some _=>(D,5)
 | none=>if stE D.fuse≠0 then (D.stepped,stE D.fuse) else ({D.stepped with files:=insF ⟨nm,[],0⟩ D.files},0)
def appendD (D:Dsk) (nm:ByteArray) (bs:List UInt8):Dsk×Int:=
 if D.down then (D,10) else
 match D.get nm with
 | none=>(D,4)
 | some x=>if (bs.length:Int)>D.room - D.used then (D,11) else if stE D.fuse≠0 then (D.stepped,stE D.fuse) else ({D.stepped with files:=repF D.files {x with b:=x.b++bs},used:=D.used+bs.length},0)
def syncD (D:Dsk) (nm:ByteArray):Dsk×Int:=
 if D.down then (D,10) else
 match D.get nm with
 | none=>(D,4)
 | some x=>if stE D.fuse≠0 then (D.stepped,stE D.fuse) else ({D.stepped with files:=repF D.files {x with sure:=x.b.length}},0)
def removeD (D:Dsk) (nm:ByteArray):Dsk×Int:=
 if D.down then (D,10) else
 match D.get nm with
 | none=>(D,4)
 | some x=>if stE D.fuse≠0 then (D.stepped,stE D.fuse) else ({D.stepped with files:=delF D.files nm,used:=D.used - x.b.length},0)
def sizeD (D:Dsk) (nm:ByteArray):Int×Int:=
 if D.down then (0,10) else
 match D.get nm with
 | none=>(0,4)
 | some x=>(x.b.length,0)
def readD (D:Dsk) (nm:ByteArray) (at_ n:Int):List UInt8×Int:=
 if D.down then ([],10) else
 match D.get nm with
 | none=>([],4)
 | some x=>if at_<0∨at_>x.b.length∨n<0 then ([],1) else ((x.b.drop at_.toNat).take (min n (x.b.length - at_)).toNat,0)
def spoilD (D:Dsk) (nm:ByteArray) (at_:Int) (bits:UInt8):Dsk×Int:=
 if D.down then (D,10) else
 match D.get nm with
 | none=>(D,4)
 | some x=>if at_<0∨at_≥x.b.length then (D,1) else ({D with files:=repF D.files {x with b:=x.b.modify at_.toNat (· ^^^ bits)}},0)
def newD (n:Int):Dsk:=⟨if 0<(if 67108864<n then 67108864 else n) then (if 67108864<n then 67108864 else n) else 0,0,[],false,0⟩

structure Dsk.Ok (D:Dsk):Prop where
 nod:(D.files.map (·.name)).Nodup
 room:0≤D.room∧D.room≤67108864
 used:D.used=((D.files.map fun x=>(x.b.length:Int)).sum)
 le:D.used≤D.room
 fuse:0≤D.fuse∧D.fuse<9223372036854775808
 sure:∀ x∈D.files,0≤x.sure∧x.sure≤x.b.length
 nam:∀ x∈D.files,x.name.size≤40
 srt:D.files.Pairwise fun x y=>x.name.data.toList<y.name.data.toList

theorem get_some {D:Dsk} {nm:ByteArray} {x:Fil} (h:D.get nm=some x):x∈D.files∧x.name=nm:=by
 have h1:=List.mem_of_find?_eq_some h
 have h2:=List.find?_some h
 exact ⟨h1,of_decide_eq_true h2⟩
theorem get_none {D:Dsk} {nm:ByteArray} (h:D.get nm=none):nm ∉ D.files.map (·.name):=by
 intro hm
 obtain ⟨x,hx,e⟩:=List.mem_map.1 hm
 have:=List.find?_eq_none.1 h x hx
 exact this (by simp[e])

theorem delF_perm {fs:List Fil} (hn:(fs.map (·.name)).Nodup) {x:Fil} (hx:x∈fs):fs.Perm (x::delF fs x.name):=by
 induction fs with
 | nil=>cases hx
 | cons y fs ih=>
  rw[List.map_cons,List.nodup_cons] at hn
  unfold delF at ih ⊢
  rcases List.mem_cons.1 hx with rfl | hx
  ·rw[List.filter_cons_of_neg (by simp)]
   have:fs.filter (fun y=>decide (y.name≠x.name))=fs:=List.filter_eq_self.2 fun z hz=>by
    refine decide_eq_true fun e=>hn.1 (by rw[←e]; exact List.mem_map.2 ⟨z,hz,rfl⟩)
   rw[this]
  ·have hne:y.name≠x.name:=fun e=>hn.1 (by rw[e]; exact List.mem_map.2 ⟨x,hx,rfl⟩)
   rw[List.filter_cons_of_pos (by simpa using hne)]
   exact ((ih hn.2 hx).cons y).trans (List.Perm.swap _ _ _)

theorem repF_perm {fs:List Fil} (hn:(fs.map (·.name)).Nodup) {x x':Fil} (hx:x∈fs) (he:x'.name=x.name):(x'::delF fs x.name).Perm (repF fs x'):=by
 induction fs with
 | nil=>cases hx
 | cons y fs ih=>
  rw[List.map_cons,List.nodup_cons] at hn
  unfold delF repF at ih ⊢
  rcases List.mem_cons.1 hx with rfl | hx
  ·rw[List.filter_cons_of_neg (by simp),List.map_cons,if_pos he.symm]
   have h1:fs.filter (fun y=>decide (y.name≠x.name))=fs:=List.filter_eq_self.2 fun z hz=>by
    refine decide_eq_true fun e=>hn.1 (by rw[←e]; exact List.mem_map.2 ⟨z,hz,rfl⟩)
   have h2:fs.map (fun y=>if y.name=x'.name then x' else y)=fs:=by
    refine (List.map_congr_left fun z hz=>?_).trans (List.map_id fs)
    rw[if_neg (fun e=>hn.1 (by rw[←he,←e]; exact List.mem_map.2 ⟨z,hz,rfl⟩))]; rfl
   rw[h1,h2]
  ·have hne:y.name≠x.name:=fun e=>hn.1 (by rw[e]; exact List.mem_map.2 ⟨x,hx,rfl⟩)
   rw[List.filter_cons_of_pos (by simpa using hne),List.map_cons,if_neg (by rw[he]; exact hne)]
   exact (List.Perm.swap _ _ _).trans ((ih hn.2 hx).cons y)

theorem insF_perm (x:Fil) (fs:List Fil):(x::fs).Perm (insF x fs):=by
 induction fs with
 | nil=>exact .refl _
 | cons y fs ih=>
  unfold insF
  split
  ·exact .refl _
  ·exact (List.Perm.swap _ _ _).trans (ih.cons y)

section
variable [Glob] {F : Nat → Prop}

abbrev nilfix (B:List Box) (b i v:Nat) (cs:List AV):List Box:=(B++ [Box.cells true 0 []]).set b (Box.cells false v (cs.set i (.rs B.length 0 1 0 0)))

theorem Inv.nilcell {B:List Box} {ρ:Loc} {w:World} (hI0:Inv F B ρ w) {b i v:Nat} {cs:List AV} (hb:B[b]? = some (.cells false v cs)) (hi:cs[i]? = some nilS):
  Inv F (nilfix B b i v cs) (fun b=>if b=B.length then none else ρ b) w∧Ext F B ρ w (nilfix B b i v cs) (fun b=>if b=B.length then none else ρ b) w:=by
 obtain ⟨hI,hE'⟩:=new_nil hI0
 have hbl:b<B.length:=(List.getElem?_eq_some_iff.1 hb).1
 have hb1:(B++ [Box.cells true 0 []])[b]? = some (.cells false v cs):=by rw[List.getElem?_append_left hbl]; exact hb
 obtain ⟨_,hE2⟩:=retell_ext (F:=F) (B:=B++ [Box.cells true 0 []]) (B':=nilfix B b i v cs) (ρ:=fun b=>if b=B.length then none else ρ b) (w:=w) (by simp) (fun b' row' v' cs' hc=>by
  rw[List.getElem?_set] at hc
  split at hc
  ·rename_i e
   subst e
   split at hc
   ·cases hc
    exact ⟨cs,hb1,by simp⟩
   ·cases hc
  ·exact ⟨cs',hc,rfl⟩) (fun j cs Φ h=>obj_set (fun _ _ e=>by cases e) h)
 have hI2:=retell (B':=nilfix B b i v cs) hI (fun b' row' v' cs' hc=>by
  rw[List.getElem?_set] at hc
  split at hc
  ·rename_i e
   subst e
   split at hc
   ·cases hc
    refine ⟨cs,hb1,by simp,all_set (hI0.leaf b false v cs hb) rfl,fun j c' hc'=>?_⟩
    rw[List.getElem?_set] at hc'
    split at hc'
    ·rename_i e
     subst e
     split at hc'
     ·cases hc'
      refine ⟨_,hi,fun u hu=>?_⟩
      obtain rfl:=hu.val
      refine VRel.ext hE2 (.rs _ _ _ _ _ none 0 ⟨by simp,Nat.le_refl _,fun h=>absurd h (by omega),fun row v cs hc=>?_⟩)
      rw[List.getElem?_append_right (Nat.le_refl _)] at hc
      simp at hc
      obtain ⟨rfl,rfl,rfl⟩:=hc
      exact ⟨Nat.le_refl _,fun _=>⟨by simp, .inl rfl⟩⟩
     ·cases hc'
    ·exact ⟨c',hc',fun u hu=>hu.ext hE2⟩
   ·cases hc
  ·exact ⟨cs',hc,rfl,hI.leaf _ _ _ _ hc,fun j c' hc'=>⟨c',hc',fun u hu=>hu.ext hE2⟩⟩) (fun j cs Φ h=>obj_set (fun _ _ e=>by cases e) h) hE2
 exact ⟨hI2,hE'.trans hE2⟩

variable {P : Program}

theorem SoundR.mono {f:Nat} {R R':RSpec} (h:SoundR P f R) (hr:∀ args B r B',R' args B r B'→R args B r B'):SoundR P f R':=fun args B r B' h'=>h args B r B' (hr _ _ _ _ h')

theorem SoundR.nilfix {f:Nat} {R:RSpec} (h:SoundR P f R):SoundR P f (fun args B r B'=>∃ Bf b i v cs,R args B r Bf∧Bf[b]? = some (.cells false v cs)∧cs[i]? = some nilS∧B'=nilfix Bf b i v cs):=by
 rintro args B r B' ⟨Bf,b,i,v,cs,h1,h2,h3,rfl⟩ F ρ w us hI hA
 refine (h args B r Bf h1 F ρ w us hI hA).mono fun e w' hp=>?_
 obtain ⟨x,ρ2,rfl,hI2,hE2,hv⟩:=hp
 obtain ⟨g1,g2⟩:=hI2.nilcell h2 h3
 exact ⟨x,_,rfl,g1,hE2.trans g2,hv.ext g2⟩

theorem SoundR.nilans {f:Nat} {R:RSpec} (h:SoundR P f R):SoundR P f (fun args B r B'=>∃ Bf e,R args B (.tup [nilS,e]) Bf∧r= .tup [.rs Bf.length 0 1 0 0,e]∧B'=Bf++ [.cells true 0 []]):=by
 rintro args B r B' ⟨Bf,e,h1,rfl,rfl⟩ F ρ w us hI hA
 refine (h args B _ Bf h1 F ρ w us hI hA).mono fun en w' hp=>?_
 obtain ⟨x,ρ2,rfl,hI2,hE2,hv⟩:=hp
 obtain ⟨g1,g2⟩:=new_nil hI2
 refine ⟨x,_,rfl,g1,hE2.trans g2,?_⟩
 cases hv with
 | tup _ us h2 h3=>
  refine .tup _ us h2 (fun j p u hp hu=>?_)
  cases j with
  | zero=>
   cases hp
   have:=(h3 0 nilS u rfl hu).val
   subst this
   refine .rs _ _ _ _ _ Option.none 0 ⟨by simp,Nat.le_refl _,fun h=>absurd h (by omega),fun row v cs hc=>?_⟩
   rw[List.getElem?_append_right (Nat.le_refl _)] at hc
   simp at hc
   obtain ⟨rfl,rfl,rfl⟩:=hc
   exact ⟨Nat.le_refl _,fun _=>⟨by simp, .inl rfl⟩⟩
  | succ j=>exact (h3 (j+1) p u hp hu).ext g2

end

theorem shut0 {n:Nat} {hid:List (Value×Value)} {D1:Dsk} {B:List Box} (h0:B[0]? = some (headC D1)) (h1:B[1]? = some (.obj [] (mapP [] hid))):Shut n [] hid D1 [] [] B where
 h0:=h0
 h1:=h1
 hI:=fun i hi=>by cases hi
 nod:=by simp
 hZ:=fun z hz=>by cases hz
 hX:=fun b hb=>by simp at hb

theorem shut1 {n:Nat} {hid:List (Value×Value)} {D1:Dsk} {B:List Box} {x:Fil} {v:Nat} (h0:B[0]? = some (headC D1)) (h1:B[1]? = some (.obj [.ptr 2 0 0] (mapP [.string x.name] hid))) (h2:B[2]? = some (fileC 3 v x)) (h3:B[3]? = some (rowB v x.b)):
  Shut n [] hid D1 [⟨x,2,3,v⟩] [] B where
 h0:=h0
 h1:=h1
 hI:=fun i hi=>by
  rcases List.mem_cons.1 hi with rfl | hi
  ·exact ⟨h2,h3⟩
  ·cases hi
 nod:=by simp
 hZ:=fun z hz=>by cases hz
 hX:=fun b hb=>by simp at hb

end Go.Ax
