/- What is done to a disk, laid open and as an object. -/
import Derived.Test.YtddkloofiknjdaaDoorG19
import Derived.Test.YtddkloofiknjdaaDoorProg
import Derived.Shelf.Strconv.Itoa3
import Derived.Shelf.SlIter.Nil
import Derived.Shelf.SortM.Plain
import Derived.Shelf.SortM.SortNone
set_option linter.unusedVariables false
set_option linter.unusedSimpArgs false
set_option linter.unusedSectionVars false
namespace Go.Ax
open Go.RowKit
set_option maxRecDepth 100000

section
variable [Glob]
abbrev LookE (P:Program) (t:TypeId) (B:List Box) (x k v:AV):Prop:=(lookupA P t B x k true).map (fun v=>(v,B))=some (v,B)
end
def okChar (c:UInt8):Bool:=(decide (97≤c.toNat)&&decide (c.toNat≤122))||(decide (48≤c.toNat)&&decide (c.toNat≤57))||c.toNat == 46
def isName (nm:ByteArray):Bool:=nm.data.toList.all okChar&&decide (0<nm.size)&&decide (nm.size≤40)

def stD (fu:Int):Bool:=decide (fu>0)&&(fu - 1 == 0)
def stF (fu:Int):Int:=if fu>0 then fu - 1 else fu
def stE (fu:Int):Int:=if stD fu then 10 else 0

def RNamed:List AV→AV→Prop:=fun args r=>∃ nm:ByteArray,nm.size≤1000000000∧args= [vs nm]∧r=vb (isName nm)
noncomputable def gNamed:=relG RNamed
section
variable [Glob] {P : Program}

theorem rv_low {n:Nat} {f d:Nat→Nat} (hf:∀ j,j<n→f j=j) (hd:∀ j,j<n→d j=0):∀ {x:AV},x.low n=true→x.rv f d=x:=by
 intro x
 induction x using AV.rec (motive_2:=fun cs=>AV.low.allLow n cs=true→AV.rv.rvL f d cs=cs) with
 | u=>intro _; rfl
 | mp b=>
  intro h
  have:b<n:=by simpa [AV.low,Nat.blt_eq] using h
  simp[AV.rv,hf b this]
 | op b=>
  intro h
  have:b<n:=by simpa [AV.low,Nat.blt_eq] using h
  simp[AV.rv,hf b this]
 | p x=>intro _; rfl
 | ptr b v o=>
  intro h
  have:b<n:=by simpa [AV.low,Nat.blt_eq] using h
  simp[AV.rv,hf b this,hd b this]
 | rs b v z o l=>
  intro h
  have:b<n:=by simpa [AV.low,Nat.blt_eq] using h
  simp[AV.rv,hf b this,hd b this]
 | rp cs=>intro _; rfl
 | agg cs ih=>intro h; simp[AV.rv,ih (by simpa [AV.low] using h)]
 | fn g cs ih=>intro h; simp[AV.rv,ih (by simpa [AV.low] using h)]
 | tup cs ih=>intro h; simp[AV.rv,ih (by simpa [AV.low] using h)]
 | nil=>rfl
 | cons c cs h1 h2=>
  rename_i h
  simp only[AV.low.allLow,Bool.and_eq_true] at h
  simp[AV.rv.rvL,h1 h.1,h2 h.2]

def Blow (n:Nat) (B:List Box):Prop:=∀ x∈B,AV.low.allLow n x.cs=true

theorem rvL_low {n:Nat} {f d:Nat→Nat} (hf:∀ j,j<n→f j=j) (hd:∀ j,j<n→d j=0) {cs:List AV} (h:AV.low.allLow n cs=true):AV.rv.rvL f d cs=cs:=by
 rw[rvL_map]
 refine (List.map_congr_left fun x hx=>?_).trans (List.map_id cs)
 obtain ⟨j,hj⟩:=List.getElem?_of_mem hx
 exact rv_low hf hd (allLow_get h j x hj)

theorem boxesRen_id {n:Nat} {f d:Nat→Nat} (hf:∀ j,j<n→f j=j) (hd:∀ j,d j=0):∀ {B:List Box} {k:Nat},Blow n B→BoxesRen f d n k B B
 | [],_,_=>trivial
 | x::B,k,h=>by
  refine ⟨?_,boxesRen_id hf hd (fun y hy=>h y (by simp[hy]))⟩
  have hx:=h x (by simp)
  cases x with
  | dead=>exact .dead
  | cells row v cs=>exact .cells (by rw[hd]; rfl) (rvL_low hf (fun j _=>hd j) hx).symm hx
  | obj cs Φ=>exact .objs (rvL_low hf (fun j _=>hd j) hx).symm hx

theorem outB_range:∀ (Bs B:List Box) (k:Nat) (pre:List Box),pre.length=k→Bs.length≤B.length→outB (pre++B) (List.range' k Bs.length) Bs=pre++(Bs++B.drop Bs.length)
 | [],B,k,pre,_,_=>by simp[outB]
 | x::Bs,[],k,pre,_,h=>by simp at h
 | x::Bs,y::B,k,pre,hk,h=>by
  rw[List.length_cons,List.range'_succ,outB]
  have:(pre++y::B).set k x=(pre++ [x])++B:=by
   rw[List.set_append_right _ _ (by omega),hk,Nat.sub_self]; simp
  rw[this,outB_range Bs B (k+1) (pre++ [x]) (by simp[hk]) (by simpa using h)]
  simp

theorem lift_tail {R:RSpec} {args:List AV} {B0 B0':List Box} {r:AV} (hR:R args B0 r B0') (hlen:B0'.length=B0.length) (ha:AV.low.allLow B0.length args=true) (hB:Blow B0.length B0) (hB':Blow B0.length B0') (hr:r.low B0.length=true) (Bx:List Box):
  liftR R args (B0++Bx) r (B0'++Bx):=by
 have hfn:∀ j,j<B0.length→fNew (List.range B0.length) (B0++Bx).length j=j:=fun j hj=>by simp[fNew,List.getElem?_range hj]
 have hdn:∀ j,dNew (List.replicate B0.length 0) j=0:=fun j=>by
  unfold dNew
  rw[List.getElem?_replicate]
  split <;> rfl
 refine ⟨args,B0,r,B0',hR,⟨List.range B0.length,List.replicate B0.length 0,B0,B0',[],?_,?_,(rvL_low hfn (fun j _=>hdn j) ha).symm,ha,boxesRen_id hfn hdn hB,?_,?_,(rv_low hfn (fun j _=>hdn j) hr).symm,by rw[hlen]; exact hr⟩⟩
 ·simp only[Bool.and_eq_true,List.all_eq_true,List.mem_range,Nat.blt_eq,List.length_append,List.length_range,List.length_replicate,hlen]
  refine ⟨⟨⟨⟨?_,fun j hj=>by omega⟩,Nat.beq_refl _⟩,Nat.beq_refl _⟩,Nat.beq_refl _⟩
  have:∀ (n k:Nat),noDup (List.range' k n)=true:=by
   intro n
   induction n with
   | zero=>intro k; rfl
   | succ n ih=>
    intro k
    rw[List.range'_succ,noDup,ih (k+1),Bool.and_true,Bool.not_eq_true',List.any_eq_false]
    intro x hx
    rw[List.mem_range'_1] at hx
    intro e
    have:=Nat.eq_of_beq_eq_true e
    omega
  rw[List.range_eq_range']
  exact this _ _
 ·refine List.ext_getElem? fun j=>?_
  rw[List.getElem?_map,List.getElem?_map]
  rcases Nat.lt_or_ge j B0.length with h | h
  ·rw[List.getElem?_range h,List.getElem?_eq_getElem h]
   simp[List.getElem?_append_left h,h]
  ·rw[List.getElem?_eq_none (by simpa using h),List.getElem?_eq_none h]; rfl
 ·rw[List.append_nil,hlen]
  exact boxesRen_id hfn hdn hB'
 ·have:=outB_range B0' (B0++Bx) 0 [] rfl (by simp; omega)
  rw[List.nil_append,hlen,←List.range_eq_range'] at this
  rw[this,List.append_nil,←hlen]
  simp[hlen]

end

abbrev strsV (ns:List ByteArray):List Value:=ns.map .string

theorem hasK_str (a b:ByteArray):hasK .string (.string a) (.string b)=true↔b=a:=(@hasK_iff noG .string (.string a) (.string b) rfl rfl).trans (by simp)

theorem mapAt_str {P:Program} {t kt et:TypeId} (hu:P.underlying t=some (.map kt et)) (hk:P.underlying kt=some .string) {B:List Box} {b:Nat} {cs:List AV} {ns:List ByteArray} {hid:List (Value×Value)} {hs:List ByteArray} (hb:B[b]? = some (.obj cs (mapP (strsV ns) hid))) (hh:hid.map (·.1)=strsV hs) (nm:ByteArray):
  mapAt P t B (.mp b) (vs nm)=some ⟨b,strsV ns,hid,cs, .string nm,(strsV ns).findIdx? (hasK .string (.string nm)),hid.findIdx? fun h=>hasK .string (.string nm) h.1⟩:=by
 unfold mapAt
 rw[hu]
 simp only[hk,hb]
 show (if _ then _ else _)=_
 rw[if_pos]
 simp only[keyB,Bool.true_and,Bool.and_eq_true,List.all_eq_true]
 refine ⟨fun x hx=>?_,fun x hx=>?_⟩
 ·obtain ⟨a,_,rfl⟩:=List.mem_map.1 hx; rfl
 ·have:x.1∈strsV hs:=by rw[←hh]; exact List.mem_map.2 ⟨x,hx,rfl⟩
  obtain ⟨a,_,e⟩:=List.mem_map.1 this
  rw[←e]

theorem find_hid {hid:List (Value×Value)} {hs:List ByteArray} (hh:hid.map (·.1)=strsV hs) {nm:ByteArray} (h:nm ∉ hs):hid.findIdx? (fun h=>hasK .string (.string nm) h.1)=none:=by
 rw[List.findIdx?_eq_none_iff]
 intro x hx
 have:x.1∈strsV hs:=by rw[←hh]; exact List.mem_map.2 ⟨x,hx,rfl⟩
 obtain ⟨a,ha,e⟩:=List.mem_map.1 this
 rw[←e]
 cases hq:hasK .string (.string nm) (.string a) with
 | false=>rfl
 | true=>exact absurd ((hasK_str nm a).1 hq▸ha) h

theorem find_vis0 (nm:ByteArray) (r:List Value):(Value.string nm::r).findIdx? (hasK .string (.string nm))=some 0:=by
 rw[List.findIdx?_cons,(hasK_str nm nm).2 rfl]; rfl
theorem hasK_ne {a b:ByteArray} (h:b≠a):hasK .string (.string a) (.string b)=false:=by
 cases hq:hasK .string (.string a) (.string b) with
 | false=>rfl
 | true=>exact absurd ((hasK_str a b).1 hq) h

section
variable [Glob] {P : Program}

def okArg (n:Nat):AV→Bool
 | .p _=>true
 | .rs b _ _ _ _=>Nat.blt b n
 | _=>false

def diskR (R:RSpec):RSpec:=fun args B r B'=>∃ (D D1:Dsk) (X Y:List Fil) (Bx:List (Nat×List UInt8)) (I:List Vis) (Z:List (Nat×Nat×List UInt8)) (al:List AV) (y:AV),
 D.files.Perm (X++Y)∧al.all (okArg Bx.length)=true∧args= .op 0::al.map (AV.rv (fun j=>1+j) fun _=>0)∧B= .obj [] (diskP D)::rowsB Bx ∧
 (∀ hid:List (Value×Value),hid.map (·.1)=keysOf Y→∃ Bf,R (.ptr 0 0 0::al.map (AV.rv (fun j=>2+2*X.length+j) fun _=>0)) (flatB D X hid++rowsB Bx) (y.rv (fun j=>((Z[j]?).map (·.1)).getD 0) fun _=>0) Bf∧Shut (2+2*X.length) Bx hid D1 I Z Bf) ∧
 (I.map (·.x)++Y).Perm D1.files∧y.pl2=true∧y.low Z.length=true∧r=y.rv (fun j=>1+j) (fun _=>0)∧B'= .obj [] (diskP D1)::rowsB (zB Z)

theorem disk_lift {f:Nat} {R:RSpec} (hs:SoundR P f R):SoundR P f (diskR R):=by
 rintro args B r B' ⟨D,D1,X,Y,Bx,I,Z,al,y,hXY,has,rfl,rfl,hR,hf,hp,hlw,rfl,rfl⟩ F ρ w us hI hA
 obtain ⟨k,o,LY,F',ρ',hY,O⟩:=disk_open hI hXY
 obtain ⟨Bf,hRr,hS⟩:=hR (LY.map hidOf) (by rw[List.map_map,←hY,keysOf,List.map_map]; rfl)
 have hl:=flatB_length D X (LY.map hidOf)
 have hA':ArgsRel F' (flatB D X (LY.map hidOf)++rowsB Bx) ρ' w (.ptr 0 0 0::al.map (AV.rv (fun j=>2+2*X.length+j) fun _=>0)) us:=by
  refine ⟨by have:=hA.1; simpa using this,fun j p u hpj hu=>?_⟩
  cases j with
  | zero=>
   cases hpj
   have:=hA.2 0 _ u rfl hu
   cases this with
   | op _ r0 hp0=>
    obtain ⟨o2,e2⟩:=hp0.2 _ _ rfl
    rw[O.at0] at e2
    cases e2
    refine .ptr _ _ _ _ ⟨by rw[List.length_append,hl]; omega,fun row v cs hb=>?_⟩
    rw[List.cons_append,List.getElem?_cons_zero] at hb
    cases hb
    exact ⟨Nat.le_refl _,fun _=>⟨_,0,O.at0',rfl⟩⟩
  | succ j=>
   rw[List.getElem?_cons_succ,List.getElem?_map] at hpj
   obtain ⟨a,ha,rfl⟩:=Option.map_eq_some_iff.1 hpj
   have:=hA.2 (j+1) (a.rv (fun j=>1+j) fun _=>0) u (by rw[List.getElem?_cons_succ,List.getElem?_map,ha]; rfl) hu
   have hok:=List.all_eq_true.1 has a (List.mem_of_getElem? ha)
   cases a with
   | p x=>
    cases this with
    | p _ _ hp0=>exact .p _ _ (hp0.mono (fun k _ ho=>⟨rfl,fun h=>ho ((O.own k).1 h)⟩) (Nat.le_refl _))
   | rs b v z off len=>
    have hb:b<Bx.length:=by simpa [okArg,Nat.blt_eq] using hok
    cases this with
    | rs _ _ _ _ _ a cap hp0=>
     refine .rs _ _ _ _ _ a cap ⟨by show 2+2*X.length+b<_; rw[List.length_append,hl]; simp; omega,hp0.2.1,hp0.2.2.1,fun row v' cs hb'=>?_⟩
     change (flatB D X (LY.map hidOf)++rowsB Bx)[2+2*X.length+b]? = _ at hb'
     rw[List.getElem?_append_right (by omega),hl,show 2+2*X.length+b - (2+2*X.length)=b by omega] at hb'
     obtain ⟨q1,q2⟩:=hp0.2.2.2 row v' cs (by show (Box.obj [] (diskP D)::rowsB Bx)[1+b]? = _; rw[show 1+b=b+1 by omega,List.getElem?_cons_succ]; exact hb')
     refine ⟨q1,fun e=>?_⟩
     show _∧(_∨∃ k o',ρ' (2+2*X.length+b)=_∧_)
     rw[O.rest b hb]
     exact q2 e
   | _=>cases hok
 refine (hs _ _ _ _ hRr F' ρ' w us O.inv hA').mono fun e w' hp0=>?_
 obtain ⟨x,ρ2,rfl,hI2,hE2,hv⟩:=hp0
 obtain ⟨ρ3,g1,g2,g3⟩:=disk_shut O hI2 hE2 hS (by rw[hY]; exact hf)
 exact ⟨x,ρ3,rfl,g1,g2,g3 y x hv hp hlw⟩

end

end Go.Ax

namespace Go.Ax
open Go.RowKit
set_option maxRecDepth 100000

abbrev nilP:AV:= .p (.v (.pointer none))
abbrev dsk (ro us fu:Int) (dn:Bool):Dsk:=⟨ro,us,[],dn,fu⟩

inductive RFind:RSpec
 | d (ro us fu:Int) (hid:List (Value×Value)) (nm:ByteArray):RFind [.ptr 0 0 0,vs nm] (flatB (dsk ro us fu true) [] hid) (.tup [nilP,vi 10]) (flatB (dsk ro us fu true) [] hid)
 | a (ro us fu:Int) (hid:List (Value×Value)) (hs:List ByteArray) (nm:ByteArray):hid.map (·.1)=strsV hs→nm ∉ hs→RFind [.ptr 0 0 0,vs nm] (flatB (dsk ro us fu false) [] hid) (.tup [nilP,vi 4]) (flatB (dsk ro us fu false) [] hid)
 | p (ro us fu:Int) (hid:List (Value×Value)) (hs:List ByteArray) (x:Fil):hid.map (·.1)=strsV hs→RFind [.ptr 0 0 0,vs x.name] (flatB (dsk ro us fu false) [x] hid) (.tup [.ptr 2 0 0,vi 0]) (flatB (dsk ro us fu false) [x] hid)
 | q (ro us fu:Int) (hid:List (Value×Value)) (hs:List ByteArray) (x y:Fil):hid.map (·.1)=strsV hs→RFind [.ptr 0 0 0,vs x.name] (flatB (dsk ro us fu false) [x,y] hid) (.tup [.ptr 2 0 0,vi 0]) (flatB (dsk ro us fu false) [x,y] hid)

inductive RStep:RSpec
 | mk (ro us fu:Int) (hid:List (Value×Value)) (X:List Fil):X.length≤2→fu<9223372036854775808→RStep [.ptr 0 0 0] (flatB (dsk ro us fu false) X hid) (vi (stE fu)) (flatB (dsk ro us (stF fu) (stD fu)) X hid)

section
variable [Glob] {P : Program} {t kt et : TypeId}

theorem look_v0 (hu:P.underlying t=some (.map kt et)) (hk:P.underlying kt=some .string) {B:List Box} {c:AV} {cs:List AV} {nm:ByteArray} {ns hs:List ByteArray} {hid:List (Value×Value)} (hb:B[1]? = some (.obj (c::cs) (mapP (strsV (nm::ns)) hid))) (hh:hid.map (·.1)=strsV hs):LookE P t B (.mp 1) (vs nm) (.tup [c,vb true]):=by
 unfold LookE lookupA
 rw[mapAt_str hu hk hb hh nm]
 simp only[Option.bind_some,hu]
 rw[show (strsV (nm::ns)).findIdx? (hasK .string (.string nm))=some 0 from find_vis0 nm _]
 rfl

theorem find_none (hu:P.underlying t=some (.map kt et)) (hk:P.underlying kt=some .string) {ns:List ByteArray} {nm:ByteArray} (h:nm ∉ ns):(strsV ns).findIdx? (hasK .string (.string nm))=none:=by
 rw[List.findIdx?_eq_none_iff]
 intro x hx
 obtain ⟨a,ha,rfl⟩:=List.mem_map.1 hx
 exact hasK_ne (fun e=>h (e▸ha))

theorem look_no (hu:P.underlying t=some (.map kt et)) (hk:P.underlying kt=some .string) {z:AV} (hz:zeroV P et=some z) {B:List Box} {cs:List AV} {nm:ByteArray} {ns hs:List ByteArray} {hid:List (Value×Value)} (hb:B[1]? = some (.obj cs (mapP (strsV ns) hid))) (hh:hid.map (·.1)=strsV hs) (h1:nm ∉ ns) (h2:nm ∉ hs):LookE P t B (.mp 1) (vs nm) (.tup [z,vb false]):=by
 unfold LookE lookupA
 rw[mapAt_str hu hk hb hh nm]
 simp only[Option.bind_some,hu]
 rw[find_none hu hk h1,find_hid hh h2]
 simp only[hz]
 rfl

end

end Go.Ax

namespace Go.Ax
open Go.Proofs Go.RowKit
set_option maxRecDepth 100000

def halvesP:List PV:= [.v (.int .u32 0), .v (.int .u32 274646895), .v (.int .u32 549293790), .v (.int .u32 820201905), .v (.int .u32 1098587580), .v (.int .u32 1361435347), .v (.int .u32 1640403810), .v (.int .u32 1905808397), .v (.int .u32 2197175160), .v (.int .u32 2460548119), .v (.int .u32 2722870694), .v (.int .u32 2987750089), .v (.int .u32 3280807620), .v (.int .u32 3553878443), .v (.int .u32 3811616794), .v (.int .u32 4084100981)]
def tabG:Nat→List PV
 | 1=>halvesP
 | _=> []
instance:Glob:=⟨⟨tabG⟩⟩
noncomputable abbrev DP:Program:=Tryd.prog
theorem mixedD:DP.follows .mixedOrders=true:=by kernel_rfl

def Δ0:REnv:=fun _ _ _ _ _=>False
theorem Δ0_ok {P:Program}:∀ f,SoundR P f (Δ0 f):=fun f=> .none f
def Γ0:Env:=fun _=> .none
theorem Γ0_ok {P:Program}:∀ f,SoundF P f (Γ0 f):=fun f=>sound_none f

end Go.Ax

namespace Go.Ax
end Go.Ax

namespace Go.Ax
open Go.RowKit
set_option maxRecDepth 100000

def Dsk.get (D:Dsk) (nm:ByteArray):Option Fil:=D.files.find? fun x=>decide (x.name=nm)
def delF (fs:List Fil) (nm:ByteArray):List Fil:=fs.filter fun y=>decide (y.name≠nm)
def readD (D:Dsk) (nm:ByteArray) (at_ n:Int):List UInt8×Int:=
 if D.down then ([],10) else
 match D.get nm with
 | none=>([],4)
 | some x=>if at_<0∨at_>x.b.length∨n<0 then ([],1) else ((x.b.drop at_.toNat).take (min n (x.b.length - at_)).toNat,0)
def newD (n:Int):Dsk:=⟨if 0<(if 67108864<n then 67108864 else n) then (if 67108864<n then 67108864 else n) else 0,0,[],false,0⟩

structure Dsk.Ok (D:Dsk):Prop where
 nod:(D.files.map (·.name)).Nodup
 room:0≤D.room∧D.room≤67108864
 used:D.used=((D.files.map fun x=>(x.b.length:Int)).sum)
 le:D.used≤D.room
 fuse:0≤D.fuse∧D.fuse<9223372036854775808
 sure:∀ x∈D.files,0≤x.sure∧x.sure≤x.b.length
 nam:∀ x∈D.files,x.name.size≤40
 srt:D.files.Pairwise fun x y=>x.name.data.toList<y.name.data.toList

theorem get_some {D:Dsk} {nm:ByteArray} {x:Fil} (h:D.get nm=some x):x∈D.files∧x.name=nm:=by
 have h1:=List.mem_of_find?_eq_some h
 have h2:=List.find?_some h
 exact ⟨h1,of_decide_eq_true h2⟩
theorem get_none {D:Dsk} {nm:ByteArray} (h:D.get nm=none):nm ∉ D.files.map (·.name):=by
 intro hm
 obtain ⟨x,hx,e⟩:=List.mem_map.1 hm
 have:=List.find?_eq_none.1 h x hx
 exact this (by simp[e])

theorem delF_perm {fs:List Fil} (hn:(fs.map (·.name)).Nodup) {x:Fil} (hx:x∈fs):fs.Perm (x::delF fs x.name):=by
 induction fs with
 | nil=>cases hx
 | cons y fs ih=>
  rw[List.map_cons,List.nodup_cons] at hn
  unfold delF at ih ⊢
  rcases List.mem_cons.1 hx with rfl | hx
  ·rw[List.filter_cons_of_neg (by simp)]
   have:fs.filter (fun y=>decide (y.name≠x.name))=fs:=List.filter_eq_self.2 fun z hz=>by
    refine decide_eq_true fun e=>hn.1 (by rw[←e]; exact List.mem_map.2 ⟨z,hz,rfl⟩)
   rw[this]
  ·have hne:y.name≠x.name:=fun e=>hn.1 (by rw[e]; exact List.mem_map.2 ⟨x,hx,rfl⟩)
   rw[List.filter_cons_of_pos (by simpa using hne)]
   exact ((ih hn.2 hx).cons y).trans (List.Perm.swap _ _ _)

section
variable [Glob] {F : Nat → Prop}

abbrev nilfix (B:List Box) (b i v:Nat) (cs:List AV):List Box:=(B++ [Box.cells true 0 []]).set b (Box.cells false v (cs.set i (.rs B.length 0 1 0 0)))

theorem Inv.nilcell {B:List Box} {ρ:Loc} {w:World} (hI0:Inv F B ρ w) {b i v:Nat} {cs:List AV} (hb:B[b]? = some (.cells false v cs)) (hi:cs[i]? = some nilS):
  Inv F (nilfix B b i v cs) (fun b=>if b=B.length then none else ρ b) w∧Ext F B ρ w (nilfix B b i v cs) (fun b=>if b=B.length then none else ρ b) w:=by
 obtain ⟨hI,hE'⟩:=new_nil hI0
 have hbl:b<B.length:=(List.getElem?_eq_some_iff.1 hb).1
 have hb1:(B++ [Box.cells true 0 []])[b]? = some (.cells false v cs):=by rw[List.getElem?_append_left hbl]; exact hb
 obtain ⟨_,hE2⟩:=retell_ext (F:=F) (B:=B++ [Box.cells true 0 []]) (B':=nilfix B b i v cs) (ρ:=fun b=>if b=B.length then none else ρ b) (w:=w) (by simp) (fun b' row' v' cs' hc=>by
  rw[List.getElem?_set] at hc
  split at hc
  ·rename_i e
   subst e
   split at hc
   ·cases hc
    exact ⟨cs,hb1,by simp⟩
   ·cases hc
  ·exact ⟨cs',hc,rfl⟩) (fun j cs Φ h=>obj_set (fun _ _ e=>by cases e) h)
 have hI2:=retell (B':=nilfix B b i v cs) hI (fun b' row' v' cs' hc=>by
  rw[List.getElem?_set] at hc
  split at hc
  ·rename_i e
   subst e
   split at hc
   ·cases hc
    refine ⟨cs,hb1,by simp,all_set (hI0.leaf b false v cs hb) rfl,fun j c' hc'=>?_⟩
    rw[List.getElem?_set] at hc'
    split at hc'
    ·rename_i e
     subst e
     split at hc'
     ·cases hc'
      refine ⟨_,hi,fun u hu=>?_⟩
      obtain rfl:=hu.val
      refine VRel.ext hE2 (.rs _ _ _ _ _ none 0 ⟨by simp,Nat.le_refl _,fun h=>absurd h (by omega),fun row v cs hc=>?_⟩)
      rw[List.getElem?_append_right (Nat.le_refl _)] at hc
      simp at hc
      obtain ⟨rfl,rfl,rfl⟩:=hc
      exact ⟨Nat.le_refl _,fun _=>⟨by simp, .inl rfl⟩⟩
     ·cases hc'
    ·exact ⟨c',hc',fun u hu=>hu.ext hE2⟩
   ·cases hc
  ·exact ⟨cs',hc,rfl,hI.leaf _ _ _ _ hc,fun j c' hc'=>⟨c',hc',fun u hu=>hu.ext hE2⟩⟩) (fun j cs Φ h=>obj_set (fun _ _ e=>by cases e) h) hE2
 exact ⟨hI2,hE'.trans hE2⟩

variable {P : Program}

theorem SoundR.mono {f:Nat} {R R':RSpec} (h:SoundR P f R) (hr:∀ args B r B',R' args B r B'→R args B r B'):SoundR P f R':=fun args B r B' h'=>h args B r B' (hr _ _ _ _ h')

theorem SoundR.nilfix {f:Nat} {R:RSpec} (h:SoundR P f R):SoundR P f (fun args B r B'=>∃ Bf b i v cs,R args B r Bf∧Bf[b]? = some (.cells false v cs)∧cs[i]? = some nilS∧B'=nilfix Bf b i v cs):=by
 rintro args B r B' ⟨Bf,b,i,v,cs,h1,h2,h3,rfl⟩ F ρ w us hI hA
 refine (h args B r Bf h1 F ρ w us hI hA).mono fun e w' hp=>?_
 obtain ⟨x,ρ2,rfl,hI2,hE2,hv⟩:=hp
 obtain ⟨g1,g2⟩:=hI2.nilcell h2 h3
 exact ⟨x,_,rfl,g1,hE2.trans g2,hv.ext g2⟩

theorem SoundR.nilans {f:Nat} {R:RSpec} (h:SoundR P f R):SoundR P f (fun args B r B'=>∃ Bf e,R args B (.tup [nilS,e]) Bf∧r= .tup [.rs Bf.length 0 1 0 0,e]∧B'=Bf++ [.cells true 0 []]):=by
 rintro args B r B' ⟨Bf,e,h1,rfl,rfl⟩ F ρ w us hI hA
 refine (h args B _ Bf h1 F ρ w us hI hA).mono fun en w' hp=>?_
 obtain ⟨x,ρ2,rfl,hI2,hE2,hv⟩:=hp
 obtain ⟨g1,g2⟩:=new_nil hI2
 refine ⟨x,_,rfl,g1,hE2.trans g2,?_⟩
 cases hv with
 | tup _ us h2 h3=>
  refine .tup _ us h2 (fun j p u hp hu=>?_)
  cases j with
  | zero=>
   cases hp
   have:=(h3 0 nilS u rfl hu).val
   subst this
   refine .rs _ _ _ _ _ Option.none 0 ⟨by simp,Nat.le_refl _,fun h=>absurd h (by omega),fun row v cs hc=>?_⟩
   rw[List.getElem?_append_right (Nat.le_refl _)] at hc
   simp at hc
   obtain ⟨rfl,rfl,rfl⟩:=hc
   exact ⟨Nat.le_refl _,fun _=>⟨by simp, .inl rfl⟩⟩
  | succ j=>exact (h3 (j+1) p u hp hu).ext g2

end

end Go.Ax

namespace Go.Ax
open Go.RowKit
section
variable [Glob] {F : Nat → Prop}

variable {P : Program}

end
end Go.Ax

namespace Go.Ax
open Go.Proofs Go.RowKit

abbrev lens (fs:List Fil):Int:=(fs.map fun x=>(x.b.length:Int)).sum

theorem lens_perm {fs gs:List Fil} (h:fs.Perm gs):lens fs=lens gs:=by
 induction h with
 | nil=>rfl
 | cons x _ ih=>simp only[lens,List.map_cons,List.sum_cons] at ih ⊢; omega
 | swap x y l=>simp only[lens,List.map_cons,List.sum_cons]; omega
 | trans _ _ ih1 ih2=>exact ih1.trans ih2

theorem lens_cons (x:Fil) (fs:List Fil):lens (x::fs)=x.b.length+lens fs:=by simp[lens]

end Go.Ax

namespace Go.Ax
open Go.RowKit
section
variable [Glob] {P : Program}

def sealR (R:RSpec):RSpec:=fun args B r B'=>∃ (i k v:Nat) (α:Type) (E:Enc α) (L:List α),B[k]? = some (.cells true v (rowC (L.map E.f)))∧args[i]? = some (.rs k v E.sz 0 L.length)∧R (args.set i (vl (L.map E.f))) (B.set k .dead) r B'

theorem SoundR.shutRow {f:Nat} {R:RSpec} (h:SoundR P f R):SoundR P f (sealR R):=by
 rintro args B r B' ⟨i,b,v,α,E,L,hb,hi,hR⟩ F ρ w us hI hA
 have hget:∀ (b':Nat) (row:Bool) (v':Nat) (cs':List AV),(B.set b Box.dead)[b']? = some (.cells row v' cs')→b'≠b∧B[b']? = some (.cells row v' cs'):=by
  intro b' row v' cs' hc
  rw[List.getElem?_set] at hc
  split at hc
  ·split at hc <;> cases hc
  ·rename_i e'
   exact ⟨fun h=>e' h.symm,hc⟩
 obtain ⟨hown,hE2⟩:=retell_ext (F:=F) (B:=B) (B':=B.set b Box.dead) (ρ:=ρ) (w:=w) (by simp) (fun b' row' v' cs' hc=>⟨cs',(hget b' row' v' cs' hc).2,rfl⟩) (fun j cs Φ h=>obj_set (fun _ _ e=>by cases e) h)
 have hI2:=retell (B':=B.set b Box.dead) hI (fun b' row' v' cs' hc=>by
  obtain ⟨_,h3⟩:=hget b' row' v' cs' hc
  exact ⟨cs',h3,rfl,hI.leaf _ _ _ _ h3,fun j c' hc'=>⟨c',hc',fun u hu=>hu.ext hE2⟩⟩) (fun j cs Φ h=>obj_set (fun _ _ e=>by cases e) h) hE2
 have hA2:ArgsRel F (B.set b Box.dead) ρ w (args.set i (vl (L.map E.f))) us:=by
  refine ⟨by rw[List.length_set]; exact hA.1,fun j p u hp hu=>?_⟩
  rw[List.getElem?_set] at hp
  split at hp
  ·rename_i e
   subst e
   split at hp
   ·cases hp
    have hv:=hA.2 i _ u hi hu
    refine Sealed.vrel (S:=fun k=>k=b) hI (E.elt.sealed (S:=fun k=>k=b) rfl hb) hv hown fun b0 row0 v0 cs0 k o hS hB hρ=>?_
    subst hS
    rintro (hF | ⟨b3,x3,l3,g1,g2,g3⟩)
    ·exact hI.farb b0 row0 v0 cs0 k o hB hρ hF
    ·rw[List.getElem?_set] at g1
     split at g1
     ·split at g1
      ·cases g1; exact g3.elim
      ·cases g1
     ·rename_i e2
      exact e2 (hI.injx b0 b3 _ _ (k,o) l3 k hB g1 hρ g2 rfl g3)
   ·cases hp
  ·exact (hA.2 j p u hp hu).ext hE2
 exact (h _ _ _ _ hR F ρ w us hI2 hA2).mono fun e w' hp=>by
  obtain ⟨x,ρ2,rfl,q1,q2,q3⟩:=hp
  exact ⟨x,ρ2,rfl,q1,hE2.trans q2,q3⟩

def isPl:AV→Bool
 | .p _=>true
 | _=>false
theorem isPl_id:∀ {al:List AV},al.all isPl=true→∀ f d,AV.rv.rvL f d al=al
 | [],_,_,_=>rfl
 | a::al,h,f,d=>by
  simp only[List.all_cons,Bool.and_eq_true] at h
  rw[AV.rv.rvL,isPl_id h.2]
  cases a <;> first | rfl | cases h.1
theorem isPl_low:∀ {al:List AV},al.all isPl=true→∀ n,AV.low.allLow n al=true
 | [],_,_=>rfl
 | a::al,h,n=>by
  simp only[List.all_cons,Bool.and_eq_true] at h
  rw[AV.low.allLow,isPl_low h.2]
  cases a <;> first | rfl | cases h.1

theorem lift_objrow {R:RSpec} {al:List AV} {sz n:Nat} {e:PV} {Φ Φ1:ObjP} {B:List Box} {b:Nat} {xs:List PV} (h:R (.op 0::al) [.obj [] Φ] (.tup [.rs 1 0 sz 0 n, .p e]) [.obj [] Φ1, .cells true 0 (rowC xs)]) (hb:B[b]? = some (.obj [] Φ)) (hal:al.all isPl=true):
  liftR R (.op b::al) B (.tup [.rs B.length 0 sz 0 n, .p e]) (B.set b (.obj [] Φ1)++ [.cells true 0 (rowC xs)]):=by
 have hlt:b<B.length:=(List.getElem?_eq_some_iff.1 hb).1
 refine ⟨_,_,_,_,h,⟨[b],[0],[.obj [] Φ],[.obj [] Φ1],[.cells true 0 (rowC xs)],?_,?_,?_,?_,⟨.objs rfl rfl,trivial⟩,⟨.objs rfl rfl, .row true 0 xs,trivial⟩,?_,rfl,rfl⟩⟩
 ·simp[noDup,Nat.blt_eq,hlt]
 ·simp[hb]
 ·rw[AV.rv.rvL,isPl_id hal]; rfl
 ·rw[AV.low.allLow,isPl_low hal]; rfl
 ·simp[outB]

end
end Go.Ax

namespace Go.Ax
open Go.Proofs Go.RowKit
set_option maxRecDepth 100000

abbrev iNamed:Nat:=66
noncomputable abbrev nNamed:Func:=Tryd.f66
theorem hfNamed:DP.funcs[iNamed]? = some nNamed:=by kernel_rfl
theorem heNamed:enters DP iNamed=true:=by kernel_rfl
theorem hbNamed:nNamed.body.isSome=true:=by kernel_rfl
theorem hnNamed:nNamed.ntmps=39:=by kernel_rfl
abbrev iFind:Nat:=47
noncomputable abbrev nFind:Func:=Tryd.f47
theorem hfFind:DP.funcs[iFind]? = some nFind:=by kernel_rfl
theorem heFind:enters DP iFind=true:=by kernel_rfl
theorem hbFind:nFind.body.isSome=true:=by kernel_rfl
theorem hnFind:nFind.ntmps=28:=by kernel_rfl
abbrev iStep:Nat:=67
noncomputable abbrev nStep:Func:=Tryd.f67
theorem hfStep:DP.funcs[iStep]? = some nStep:=by kernel_rfl
theorem heStep:enters DP iStep=true:=by kernel_rfl
theorem hbStep:nStep.body.isSome=true:=by kernel_rfl
theorem hnStep:nStep.ntmps=27:=by kernel_rfl
abbrev iRead:Nat:=68
noncomputable abbrev nRead:Func:=Tryd.f68
theorem hfRead:DP.funcs[iRead]? = some nRead:=by kernel_rfl
theorem heRead:enters DP iRead=true:=by kernel_rfl
theorem hbRead:nRead.body.isSome=true:=by kernel_rfl
theorem hnRead:nRead.ntmps=54:=by kernel_rfl
abbrev tMap:Nat:=69
abbrev tKey:Nat:=9
abbrev tVal:Nat:=105
theorem htMap:DP.underlying tMap=some (.map tKey tVal):=by kernel_rfl
theorem htKey:DP.underlying tKey=some .string:=by kernel_rfl
theorem htVal:zeroV DP tVal=some (.p (.v (.pointer none))):=by kernel_rfl

noncomputable def TNamed_l1_e (nm:ByteArray) (s1:Int):St:=([(0,vs nm),(6, .rs 0 0 1 0 nm.data.toList.length),(7,vi ((nm.data.toList.length:Nat):Int)),(8,vi s1)],[byteE.bx 0 nm.data.toList])
noncomputable def TNamed_l1_x (x1:Unit):AE×St:=(.ret,([(2,vb false)],[]))
noncomputable def TNamed_l1_x' (nm:ByteArray) (y1:Unit):AE×St:=((.exit 0),([(0,vs nm)],[]))
noncomputable def TNamed_l1_b (nm:ByteArray) (s1:Int):Tree:=
.sp 9 (decide (s1<((nm.data.toList.length:Nat):Int))) (
.ridx 10 nm.data.toList.length s1 (.rload 11 (rowC (nm.data.toList.map byteE.f)) (0+Int.toNat s1*1) byteE nm.data.toList s1 0 (fun e1=> .sp 13 (decide ((e1.toNat:Int)<(97:Int))) (
.sp 20 (decide ((e1.toNat:Int)<(48:Int))) (
.sp 28 ((e1.toNat:Int) != (46:Int)) (
.leaf ⟨[2],[]⟩ [] .ret (some (TNamed_l1_x ()).2)) (
.int 30 (IntKind.i64.wrap (s1+1)) (s1+1) (.leaf ⟨[0,6,7,8],[(0,0,some (nm.data.toList.map byteE.f))]⟩ [rowC (nm.data.toList.map byteE.f)] .normal (some (TNamed_l1_e nm (s1+1)))))) (
.sp 23 (decide ((e1.toNat:Int)>(57:Int))) (
.sp 28 ((e1.toNat:Int) != (46:Int)) (
.leaf ⟨[2],[]⟩ [] .ret (some (TNamed_l1_x ()).2)) (
.int 30 (IntKind.i64.wrap (s1+1)) (s1+1) (.leaf ⟨[0,6,7,8],[(0,0,some (nm.data.toList.map byteE.f))]⟩ [rowC (nm.data.toList.map byteE.f)] .normal (some (TNamed_l1_e nm (s1+1)))))) (
.int 30 (IntKind.i64.wrap (s1+1)) (s1+1) (.leaf ⟨[0,6,7,8],[(0,0,some (nm.data.toList.map byteE.f))]⟩ [rowC (nm.data.toList.map byteE.f)] .normal (some (TNamed_l1_e nm (s1+1))))))) (
.sp 16 (decide ((e1.toNat:Int)>(122:Int))) (
.sp 20 (decide ((e1.toNat:Int)<(48:Int))) (
.sp 28 ((e1.toNat:Int) != (46:Int)) (
.leaf ⟨[2],[]⟩ [] .ret (some (TNamed_l1_x ()).2)) (
.int 30 (IntKind.i64.wrap (s1+1)) (s1+1) (.leaf ⟨[0,6,7,8],[(0,0,some (nm.data.toList.map byteE.f))]⟩ [rowC (nm.data.toList.map byteE.f)] .normal (some (TNamed_l1_e nm (s1+1)))))) (
.sp 23 (decide ((e1.toNat:Int)>(57:Int))) (
.sp 28 ((e1.toNat:Int) != (46:Int)) (
.leaf ⟨[2],[]⟩ [] .ret (some (TNamed_l1_x ()).2)) (
.int 30 (IntKind.i64.wrap (s1+1)) (s1+1) (.leaf ⟨[0,6,7,8],[(0,0,some (nm.data.toList.map byteE.f))]⟩ [rowC (nm.data.toList.map byteE.f)] .normal (some (TNamed_l1_e nm (s1+1)))))) (
.int 30 (IntKind.i64.wrap (s1+1)) (s1+1) (.leaf ⟨[0,6,7,8],[(0,0,some (nm.data.toList.map byteE.f))]⟩ [rowC (nm.data.toList.map byteE.f)] .normal (some (TNamed_l1_e nm (s1+1))))))) (
.int 30 (IntKind.i64.wrap (s1+1)) (s1+1) (.leaf ⟨[0,6,7,8],[(0,0,some (nm.data.toList.map byteE.f))]⟩ [rowC (nm.data.toList.map byteE.f)] .normal (some (TNamed_l1_e nm (s1+1))))))))) (
.leaf ⟨[0],[]⟩ [] (.exit 0) (some (TNamed_l1_x' nm ()).2))
noncomputable def TNamed (nm:ByteArray):Tree:=
.sbyte 6 (.loop ⟨[0,6,7,8],[(0,0,some (nm.data.toList.map byteE.f))]⟩ [rowC (nm.data.toList.map byteE.f)] (some (TNamed_l1_e nm 0)) (TNamed_l1_e nm) (TNamed_l1_x) (TNamed_l1_x' nm) 0 (TNamed_l1_b nm) (fun (x1:Unit)=> .leaf ⟨[0],[]⟩ [] .ret (some ([(0,vb false)],[]))) (fun (y1:Unit)=> .sp 33 (decide ((nm.size:Int)>(0:Int))) (
.leaf ⟨[0],[]⟩ [] .ret (some ([(0,vb (decide ((nm.size:Int)≤(40:Int))))],[]))) (
.leaf ⟨[0],[]⟩ [] .ret (some ([(0,vb false)],[])))))

theorem TNamed_chk (nm:ByteArray):fnC DP Γ0 Δ0 Tryd.f66 [vs nm] [] (TNamed nm)=TNamed nm:=by kernel_rfl

end Go.Ax

namespace Go.Ax
open Go.Proofs Go.RowKit
set_option maxRecDepth 100000

theorem nlen (nm:ByteArray):nm.data.toList.length=nm.size:=by simp

theorem TNamed_l1 (nm:ByteArray) (hN:nm.size≤1000000000):∀ (suf pre:List UInt8),nm.data.toList=pre++suf →
  Rounds (TNamed_l1_e nm) TNamed_l1_x (TNamed_l1_x' nm) (fun s=>(TNamed_l1_b nm s).wp) (pre.length:Int) (if suf.all okChar then .inr () else .inl ())
 | [],pre,h=>by
  have e:nm.data.toList.length=pre.length:=by rw[h]; simp
  rw[if_pos (show ([]:List UInt8).all okChar=true from rfl)]
  refine .done' (by simp[TNamed_l1_x']) ?_
  unfold TNamed_l1_b
  exact wp_sp (fun h=>by have:=of_decide_eq_true h; omega) (fun _=>wp_leaf rfl ⟨rfl,rfl⟩)
 | c::suf,pre,h=>by
  have e:nm.data.toList.length=pre.length+(suf.length+1):=by rw[h]; simp
  have hs:=nlen nm
  have hc:nm.data.toList[Int.toNat (pre.length:Int)]? = some c:=by rw[h]; simp
  cases hok:okChar c with
  | false=>
   rw[if_neg (by simp[hok])]
   refine .done (by simp[TNamed_l1_x]) ?_
   unfold TNamed_l1_b
   refine wp_sp (fun _=>wp_ridx (by omega) (by omega) (wp_rload c (by omega) (by simp[byteE]) hc ?_)) (fun h=>by have:=of_decide_eq_false h; omega)
   repeat' (refine wp_sp (fun _=>?_) (fun _=>?_))
   all_goals first
    | exact wp_leaf rfl ⟨rfl,rfl⟩
    | (exfalso; simp only[okChar,Bool.or_eq_false_iff,Bool.and_eq_false_iff,decide_eq_false_iff_not,decide_eq_true_eq,bne_iff_ne,ne_eq,beq_eq_false_iff_ne,bne_eq_false_iff_eq] at *; omega)
  | true=>
   have ih:=TNamed_l1 nm hN suf (pre++ [c]) (by rw[h]; simp)
   have hlen:((pre++ [c]).length:Int)=(pre.length:Int)+1:=by simp
   have hres:(if (c::suf).all okChar=true then (.inr ():Unit ⊕ Unit) else .inl ())=(if suf.all okChar=true then .inr () else .inl ()):=by rw[List.all_cons,hok,Bool.true_and]
   rw[hres]
   refine .next ?_ ih
   unfold TNamed_l1_b
   refine wp_sp (fun _=>wp_ridx (by omega) (by omega) (wp_rload c (by omega) (by simp[byteE]) hc ?_)) (fun h=>by have:=of_decide_eq_false h; omega)
   repeat' (refine wp_sp (fun _=>?_) (fun _=>?_))
   all_goals first
    | exact wp_i64 (by omega) (wp_leaf rfl ⟨rfl,by rw[hlen]⟩)
    | (exfalso; simp only[okChar,Bool.or_eq_true,Bool.and_eq_true,decide_eq_false_iff_not,decide_eq_true_eq,bne_iff_ne,ne_eq,beq_iff_eq,bne_eq_false_iff_eq] at *; omega)

theorem TNamed_wp (nm:ByteArray) (hN:nm.size≤1000000000) {K:AE→St→Prop} (h:K .ret ([(0,vb (isName nm))],[])):(TNamed nm).wp K:=by
 have l:=TNamed_l1 nm hN nm.data.toList [] rfl
 unfold TNamed
 cases ha:nm.data.toList.all okChar with
 | false=>
  rw[if_neg (by simp[ha])] at l
  refine wp_loop () rfl l ?_
  have:isName nm=false:=by simp[isName,ha]
  rw[this] at h
  exact wp_leaf rfl h
 | true=>
  rw[if_pos ha] at l
  refine wp_loop' () rfl l (wp_sp (fun h1=>?_) (fun h1=>?_))
  ·have h1:=of_decide_eq_true h1
   have:isName nm=decide ((nm.size:Int)≤(40:Int)):=by
    simp only[isName,ha,Bool.true_and]
    rw[decide_eq_true (show 0<nm.size by omega),Bool.true_and]
    congr 1
    simp
    omega
   rw[this] at h
   exact wp_leaf rfl h
  ·have h1:=of_decide_eq_false h1
   have:isName nm=false:=by
    simp only[isName,ha,Bool.true_and]
    rw[decide_eq_false (show ¬0<nm.size by omega),Bool.false_and]
   rw[this] at h
   exact wp_leaf rfl h

theorem SNamed:SoundF DP iNamed (.pure gNamed):=
 sound_pureT mixedD Γ0_ok Δ0_ok hfNamed heNamed hbNamed (fun args r ⟨nm,hN,h1,h2⟩=>by
  subst h1 h2
  exact ⟨by rw[hnNamed]; rfl,rfl,_,TNamed_chk nm,TNamed_wp nm hN (.p _)⟩)

end Go.Ax
