/- Trees: what code comes to, told step by step over typed things; the check that a tree tells what code does. -/
import Derived.Test.YtddkloofiknjdaaDoorG12
set_option linter.unusedVariables false
set_option linter.unusedSimpArgs false
set_option linter.unusedSectionVars false
namespace Go.Ax
open Go.RowKit
variable [Glob]

structure Enc (α:Type) where
 f:α→PV
 sz:Nat
 size:∀ a,(f a).cells.length=sz
 leaf:∀ a,(f a).cells.all PV.leaf=true

abbrev Enc.av {α:Type} (E:Enc α) (a:α):AV:= .agg ((E.f a).cells.map .p)
abbrev Enc.bx {α:Type} (E:Enc α) (v:Nat) (L:List α):Box:= .cells true v (rowC (L.map E.f))

theorem Enc.elt {α:Type} (E:Enc α):Elt α E.f E.sz:=⟨E.size,E.leaf⟩

abbrev St:=List (Nat×AV)×List Box
def noX:Empty→AE×List (Nat×AV)×List Box:=fun _=>(.exit 99999,[],[])

def St.as (c:St):AS:=⟨tk c.1,c.2⟩

structure Wd where
 slots:List Nat
 boxes:List (Nat×Nat×Option (List PV))

theorem byteCells (bs:List UInt8):bs.map byteA=rowC (bs.map fun b=> .v (.int .u8 b.toNat)):=by
 induction bs with
 | nil=>rfl
 | cons b bs ih=>simp only[List.map_cons,ih]; rfl

def byteE:Enc UInt8:=⟨fun b=> .v (.int .u8 b.toNat),1,fun _=>rfl,fun _=>rfl⟩

inductive ASrc where
 | ls (xs:List PV)
 | row (len:Nat) (cs:List AV)
 | part (off len:Nat) (cs:List AV)
 | str (s:ByteArray)
 | nil

def ASrc.ok {α:Type} (E:Enc α) (M:List α):ASrc→Prop
 | .ls xs=>xs=M.map E.f
 | .row n cs=>n=M.length∧cs=rowC (M.map E.f)
 | .part off n cs=>n=M.length∧(cs.drop off).take (n*E.sz)=rowC (M.map E.f)
 | .str s=>E.sz=1∧s.data.toList.map byteA=rowC (M.map E.f)∧s.size=M.length
 | .nil=>M= []

def cutL {α:Type} (lo hi:Option Int) (L:List α):List α:=
 match lo,hi with
 | none,none=>L
 | some l,none=>L.drop l.toNat
 | none,some h=>L.take h.toNat
 | some l,some h=>(L.take h.toNat).drop l.toNat

def cutOk (lo hi:Option Int) (n:Nat):Prop:=
 match lo,hi with
 | none,none=>True
 | some l,none=>0≤l∧l≤(n:Int)
 | none,some h=>0≤h∧h≤(n:Int)
 | some l,some h=>0≤l∧l≤h∧h≤(n:Int)

def loN (lo:Option Int):Nat:=match lo with | some l=>l.toNat | none=>0
def hiN (hi:Option Int) (n:Nat):Nat:=match hi with | some h=>h.toNat | none=>n

abbrev RSpec:=List AV→List Box→AV→List Box→Prop
abbrev REnv:=Nat→RSpec

inductive Tree:Type 1 where
 | stuck
 | leaf (W:Wd) (olds:List (List AV)) (e:AE) (cur:Option St)
 | br (b:Bool) (x y:Tree)
 | dec (x:Tree)
 | go (x:Tree)
 | sp (d:Nat) (b:Bool) (x y:Tree)
 | int (d:Nat) (z y:Int) (k:Tree)
 | val (d:Option Nat) (p:Prop) (v:AV) (B:List Box) (k:Tree)
 | call (d:Nat) (p:Prop) (v:AV) (k:Tree)
 | callr (d:Option Nat) (p:Prop) (v:AV) (B:List Box) (k:Tree)
 | callx {β:Type} (d:Option Nat) (p:β→Prop) (v:β→AV) (B:β→List Box) (k:β→Tree)
 | elem {α:Type} (d:Nat) (xs:List PV) (E:Enc α) (L:List α) (i:Int) (k:α→Tree)
 | elemk {α:Type} (d:Nat) (xs:List PV) (E:Enc α) (L:List α) (i:Int) (a:α) (k:Tree)
 | rload {α:Type} (d:Nat) (cs:List AV) (off:Nat) (E:Enc α) (L:List α) (i:Int) (q:Nat) (k:α→Tree)
 | ridx (d:Nat) (len:Nat) (i:Int) (k:Tree)
 | pidx (d:Nat) (len:Nat) (i:Int) (k:Tree)
 | rstore {α:Type} (d:Option Nat) (cs:List AV) (off:Nat) (new:List AV) (E:Enc α) (L:List α) (i:Int) (a:α) (k:Tree)
 | rclr {α:Type} (d:Option Nat) (off len:Nat) (cs zz:List AV) (E:Enc α) (L:List α) (i:Nat) (z:α) (k:Tree)
 | app {α:Type} (d:Nat) (src:ASrc) (len:Nat) (cs:List AV) (E:Enc α) (L M:List α) (k:Tree)
 | appn {α:Type} (d:Nat) (src:ASrc) (E:Enc α) (M:List α) (k:Tree)
 | cut {α:Type} (d:Nat) (xs:List PV) (lo hi:Option Int) (E:Enc α) (L:List α) (k:Tree)
 | scut (d:Nat) (s:ByteArray) (lo hi:Option Int) (k:Tree)
 | rcut (d:Nat) (len:Nat) (lo hi:Option Int) (k:Tree)
 | rcut3 {α:Type} (d:Nat) (len:Nat) (cs:List AV) (E:Enc α) (L:List α) (h m:Int) (k:Tree)
 | sidx (d:Nat) (s:ByteArray) (i:Int) (k:UInt8→Tree)
 | bstr (d:Nat) (len:Nat) (cs:List AV) (L:List UInt8) (k:Tree)
 | bstrl (d:Nat) (xs:List PV) (L:List UInt8) (k:Tree)
 | sbyte (d:Nat) (k:Tree)
 | mks {α:Type} (d:Nat) (z y:Int) (zz:List AV) (E:Enc α) (a:α) (k:Tree)
 | nilrow (i sz:Nat) (k:Tree)
 | nills (i:Nat) (k:Tree)
 | mvrow (i:Nat) (k:Tree)
 | any (x:Tree)
 | nilcell (b i sz:Nat) (k:Tree)
 | fork (x y:Tree)
 | sealslot {α:Type} (r i:Nat) (cs:List AV) (len:Nat) (E:Enc α) (L:List α) (k:Tree)
 | sealcell {α:Type} (r b2 i:Nat) (cs:List AV) (len:Nat) (E:Enc α) (L:List α) (k:Tree)
 | frag (r:Option Nat) (W:Wd) (olds:List (List AV)) (cur:Option St) (E0:St) (p:Prop) (e:AE) (c:St) (k:Tree)
 | join {σ:Type} (W:Wd) (olds:List (List AV)) (cur:Option St) (E:σ→St) (s0:σ) (k:σ→Tree)
 | loop {σ ε ε':Type} (W:Wd) (olds:List (List AV)) (cur:Option St) (E:σ→St) (X:ε→AE×St) (X':ε'→AE×St) (s0:σ) (body:σ→Tree) (k:ε→Tree) (k':ε'→Tree)

/-- The rounds of a loop, told by what one round comes to. -/
inductive Rounds {σ ε ε':Type} (E:σ→St) (X:ε→AE×St) (X':ε'→AE×St) (body:σ→(AE→St→Prop)→Prop):σ→ε ⊕ ε'→Prop
 | next {s s':σ} {x:ε ⊕ ε'}:body s (fun e c=>e= .normal∧c=E s')→Rounds E X X' body s' x→Rounds E X X' body s x
 | done {s:σ} {x:ε}:(X x).1≠ .normal→body s (fun e c=>e=(X x).1∧c=(X x).2)→Rounds E X X' body s (.inl x)
 | done' {s:σ} {x:ε'}:(X' x).1≠ .normal→body s (fun e c=>e=(X' x).1∧c=(X' x).2)→Rounds E X X' body s (.inr x)

def oldsOk (W:Wd) (olds:List (List AV)):Prop:=olds=W.boxes.filterMap fun b=>b.2.2.map rowC

def Tree.wp:Tree→(AE→St→Prop)→Prop
 | .stuck,_=>False
 | .leaf W olds e cur,K=>oldsOk W olds∧∃ c,cur=some c∧K e c
 | .br b x y,K=>(b=true→x.wp K)∧(b=false→y.wp K)
 | .dec x,K=>x.wp K
 | .go x,K=>x.wp K
 | .sp _ b x y,K=>(b=true→x.wp K)∧(b=false→y.wp K)
 | .int _ z y k,K=>z=y∧k.wp K
 | .val _ p _ _ k,K=>p∧k.wp K
 | .call _ p _ k,K=>p∧k.wp K
 | .callr _ p _ _ k,K=>p∧k.wp K
 | .callx _ p _ _ k,K=>∃ y,p y∧(k y).wp K
 | .elem _ xs E L i k,K=>xs=L.map E.f∧0≤i∧∃ a,L[i.toNat]? = some a∧(k a).wp K
 | .elemk _ xs E L i a k,K=>xs=L.map E.f∧0≤i∧L[i.toNat]? = some a∧k.wp K
 | .rload _ cs off E L i q k,K=>cs=rowC (L.map E.f)∧0≤i∧off=0+i.toNat*E.sz+q∧∃ a,L[i.toNat]? = some a∧(k a).wp K
 | .ridx _ len i k,K=>0≤i∧i<(len:Int)∧k.wp K
 | .pidx _ len i k,K=>0≤i∧i<(len:Int)∧k.wp K
 | .rstore _ cs off new E L i a k,K=>cs=rowC (L.map E.f)∧0≤i∧i<(L.length:Int)∧off=0+i.toNat*E.sz∧new=(E.f a).cells.map .p∧k.wp K
 | .rclr _ off len cs zz E L i z k,K=>cs=rowC (L.map E.f)∧zz=(E.f z).cells.map .p∧off=0+i*E.sz∧i+len=L.length∧k.wp K
 | .app _ src len cs E L M k,K=>src.ok E M∧len=L.length∧cs=rowC (L.map E.f)∧((L++M).length:Int)≤1000000000∧k.wp K
 | .appn _ src E M k,K=>src.ok E M∧(M.length:Int)≤1000000000∧k.wp K
 | .cut _ xs lo hi E L k,K=>xs=L.map E.f∧cutOk lo hi L.length∧k.wp K
 | .scut _ s lo hi k,K=>cutOk lo hi s.size∧k.wp K
 | .rcut _ len lo hi k,K=>cutOk lo hi len∧k.wp K
 | .rcut3 _ len cs E L h m k,K=>cs=rowC (L.map E.f)∧len=L.length∧0≤h∧h≤m∧m≤(len:Int)∧k.wp K
 | .sidx _ s i k,K=>0≤i∧∃ c,s[i.toNat]? = some c∧(k c).wp K
 | .bstr _ len cs L k,K=>len=L.length∧cs=rowC (L.map byteE.f)∧k.wp K
 | .bstrl _ xs L k,K=>xs=L.map byteE.f∧k.wp K
 | .sbyte _ k,K=>k.wp K
 | .mks _ z y zz E a k,K=>z=y∧0≤z∧z≤1000000000∧zz=(E.f a).cells.map .p∧k.wp K
 | .nilrow _ _ k,K=>k.wp K
 | .nills _ k,K=>k.wp K
 | .mvrow _ k,K=>k.wp K
 | .any x,K=>x.wp K
 | .nilcell _ _ _ k,K=>k.wp K
 | .fork x y,K=>x.wp K∧y.wp K
 | .sealslot _ _ cs len E L k,K=>cs=rowC (L.map E.f)∧len=L.length∧k.wp K
 | .sealcell _ _ _ cs len E L k,K=>cs=rowC (L.map E.f)∧len=L.length∧k.wp K
 | .frag _ W olds cur E0 p _ _ k,K=>oldsOk W olds∧cur=some E0∧p∧k.wp K
 | .join W olds cur E s0 k,K=>oldsOk W olds∧cur=some (E s0)∧(k s0).wp K
 | .loop W olds cur E X X' s0 body k k',K=>oldsOk W olds∧cur=some (E s0)∧((∃ x,Rounds E X X' (fun s=>(body s).wp) s0 (.inl x)∧(k x).wp K)∨∃ x,Rounds E X X' (fun s=>(body s).wp) s0 (.inr x)∧(k' x).wp K)

def idxB:List (Nat×Nat×Option (List PV))→Nat→Nat→Option (Nat×Nat)
 | [],_,_=>none
 | (b',d,_)::r,b,j=>bif Nat.beq b' b then some (j,d) else idxB r b (j+1)

def AV.inv (l:List (Nat×Nat×Option (List PV))):AV→Option AV
 | .u=>none
 | .p x=>some (.p x)
 | .rp cs=>some (.rp cs)
 | .mp b=>match idxB l b 0 with
  | some (j,_)=>some (.mp j)
  | none=>none
 | .op b=>match idxB l b 0 with
  | some (j,_)=>some (.op j)
  | none=>none
 | .ptr b v o=>match idxB l b 0 with
  | some (j,d)=>bif Nat.ble d v then some (.ptr j (v - d) o) else none
  | none=>none
 | .rs b v z o n=>match idxB l b 0 with
  | some (j,d)=>bif Nat.ble d v then some (.rs j (v - d) z o n) else none
  | none=>none
 | .agg cs=>match invL l cs with
  | some ds=>some (.agg ds)
  | none=>none
 | .fn g cs=>match invL l cs with
  | some ds=>some (.fn g ds)
  | none=>none
 | .tup cs=>match invL l cs with
  | some ds=>some (.tup ds)
  | none=>none
 where
 invL (l:List (Nat×Nat×Option (List PV))):List AV→Option (List AV)
  | []=>some []
  | c::cs=>match c.inv l with
   | some d=>match invL l cs with
    | some ds=>some (d::ds)
    | none=>none
   | none=>none

def invSlot (l:List (Nat×Nat×Option (List PV))) (x:AV):AV:=match x.inv l with
 | some y=>y
 | none=> .u

def invBoxes (l:List (Nat×Nat×Option (List PV))) (B:List Box):List (Nat×Nat×Option (List PV))→Option (List (List AV)×List Box)
 | []=>some ([],[])
 | (b,d,r)::rest=>
  match B[b]? with
  | some (.cells row v cs)=>
   bif Nat.ble d v then
    match invBoxes l B rest with
    | some (olds,Bs)=>
     match r with
     | some xs=>some (cs::olds, .cells row (v - d) (rowC xs)::Bs)
     | none=>match AV.inv.invL l cs with
      | some ds=>some (olds, .cells row (v - d) ds::Bs)
      | none=>none
    | none=>none
   else none
  | some (.obj cs Φ)=>
   match invBoxes l B rest,r,AV.inv.invL l cs with
   | some (olds,Bs),none,some ds=>some (olds, .obj ds Φ::Bs)
   | _,_,_=>none
  | _=>none

def noDupB:List (Nat×Nat×Option (List PV))→Bool
 | []=>true
 | x::r=> !(r.any fun y=>Nat.beq x.1 y.1)&&noDupB r

def staysB (m0:Nat):Nat→List (Nat×Nat×Option (List PV))→Bool
 | _,[]=>true
 | j,x::r=>(Nat.ble m0 j||(Nat.beq x.1 j&&Nat.beq x.2.1 0))&&staysB m0 (j+1) r

def weakC (m0:Nat) (W:Wd) (s:AS):Option (List (List AV)×St):=
 bif noDupB W.boxes&&staysB m0 0 W.boxes&&Nat.ble m0 W.boxes.length then
  match invBoxes W.boxes s.B W.boxes with
  | some (olds,Bs)=>some (olds,(W.slots.map fun i=>(i,invSlot W.boxes (s.t i)),Bs))
  | none=>none
 else none

section
variable (P : Program) (Γ : Env) (Δ : REnv) (n m0 : Nat)

def putC (s:AS) (d:Option Nat) (v:AV) (B:List Box) (κ:AS→Tree):Tree:=match putA n s.t d v with
 | some t'=>κ ⟨t',B⟩
 | none=> .stuck

def isDst (d:Option Nat) (d':Nat):Bool:=match d with
 | some e=>Nat.beq e d'
 | none=>false

def putS (s:AS) (d:Option Nat) (v:AV) (B:List Box) (T:Tree) (κ:AS→Tree→Tree):Tree:=match T with
 | .sp d' _ x y=>bif isDst d d' then
   match v with
   | .p (.v (.bool q))=> .sp d' q (putC n s d (vb true) B fun s'=>κ s' x) (putC n s d (vb false) B fun s'=>κ s' y)
   | _=> .stuck
  else putC n s d v B fun s'=>κ s' T
 | T=>putC n s d v B fun s'=>κ s' T

def plainC (o:Oper) (s:AS) (T:Tree) (κ:AS→Tree→Tree):Tree:=match opA P Γ s.t s.B o.op with
 | some (v,B)=>putS n s o.dst v B T κ
 | none=> .stuck

def isD (o:Oper) (d:Nat):Bool:=match o.dst with
 | some e=>Nat.beq e d
 | none=>false

def isO (o:Oper) (d:Option Nat):Bool:=match o.dst,d with
 | some e,some d=>Nat.beq e d
 | none,none=>true
 | _,_=>false

def notSt:Op→Bool
 | .store .. => false
 | _=>true

def rowTyC (t:TypeId) (sz:Nat):Bool:=match elemT P t with
 | some e=>match sizeT P e,P.info? e,zeroA P e with
  | some n,some i,some z=>Nat.beq n sz&&Nat.ble i.bytes 140000&& !(Nat.beq sz 0||Nat.beq i.bytes 0)&&Nat.beq z.length sz&&z.all AV.leaf
  | _,_,_=>false
 | none=>false

def srcC (tx:TypeId) (B:List Box) (sz:Nat) (x:AV) (h:ASrc):Option ASrc:=
 match P.underlying tx,x with
 | some (.slice _), .p (.v (.slice none 0 0))=>some .nil
 | some (.slice _), .p (.ls xs)=>bif rowTyC P tx sz then some (.ls xs) else none
 | some (.slice _), .rs b ver sz' off len=>match B[b]? with
  | some (.cells _ v cs)=>bif Nat.beq ver v&&Nat.beq sz sz' then
    match h with
    | .row _ _=>bif Nat.beq off 0 then some (.row len cs) else none
    | .part _ _ _=>some (.part off len cs)
    | _=>none
   else none
  | _=>none
 | some .string, .p (.v (.string s))=>some (.str s)
 | _,_=>none

def bndC (t:T):Option Operand→Option (Option Int)
 | none=>some none
 | some x=>match evalA t x with
  | .p (.v (.int _ i))=>some (some i)
  | _=>none

def slC (o:Oper) (s:AS) (κ:TypeId→AV→Option Int→Option Int→Tree):Tree:=match o.op with
 | .slice t x lo hi none=>match bndC s.t lo,bndC s.t hi with
  | some l,some h=>κ t (evalA s.t x) l h
  | _,_=> .stuck
 | _=> .stuck

def opC (o:Oper) (s:AS) (T:Tree) (κ:AS→Tree→Tree):Tree:=
 match T with
 | .stuck=> .stuck
 | .int d _ y k=>bif isD o d then
   match opA P Γ s.t s.B o.op with
   | some (.p (.v (.int kd z)),B)=> .int d z y (putS n s o.dst (.p (.v (.int kd y))) B k κ)
   | _=> .stuck
  else plainC P Γ n o s T κ
 | .val d _ v B k=>bif isO o d&&notSt o.op then .val d (opA P Γ s.t s.B o.op=some (v,B)) v B (putS n s o.dst v B k κ)
  else plainC P Γ n o s T κ
 | .call d _ v k=>bif isD o d then
   match o.op with
   | .call c=>match c.callee with
    | .value f=>match evalA s.t f with
     | .fn g cap=>match Γ g with
      | .pure h=> .call d (h (c.args.toList.map (evalA s.t)++cap)=some v) v (putS n s o.dst v s.B k κ)
      | _=> .stuck
     | _=> .stuck
    | _=> .stuck
   | _=> .stuck
  else plainC P Γ n o s T κ
 | .elem d _ E L _ k=>bif isD o d then
   match o.op with
   | .indexAddr t a i=>match evalA s.t a,evalA s.t i,elemT P t with
    | .p (.ls xs), .p (.v (.int _ j)),some e=>match sizeT P e with
     | some sz=>bif Nat.beq sz E.sz then .elem d xs E L j fun x=>putS n s o.dst (.rp (E.f x).cells) s.B (k x) κ else .stuck
     | none=> .stuck
    | _,_,_=> .stuck
   | _=> .stuck
  else plainC P Γ n o s T κ
 | .elemk d _ E L _ x k=>bif isD o d then
   match o.op with
   | .indexAddr t a i=>match evalA s.t a,evalA s.t i,elemT P t with
    | .p (.ls xs), .p (.v (.int _ j)),some e=>match sizeT P e with
     | some sz=>bif Nat.beq sz E.sz then .elemk d xs E L j x (putS n s o.dst (.rp (E.f x).cells) s.B k κ) else .stuck
     | none=> .stuck
    | _,_,_=> .stuck
   | _=> .stuck
  else plainC P Γ n o s T κ
 | .rload d _ _ E L i q k=>bif isD o d then
   match o.op with
   | .load t x=>match evalA s.t x with
    | .ptr b ver off=>match s.B[b]? with
     | some (.cells _ v cs)=>bif Nat.beq ver v then .rload d cs off E L i q fun a=>match mkA P t (((E.f a).cells.drop q).map .p) with
       | some v=>putS n s o.dst v s.B (k a) κ
       | none=> .stuck
      else .stuck
     | _=> .stuck
    | _=> .stuck
   | _=> .stuck
  else plainC P Γ n o s T κ
 | .ridx d _ _ k=>bif isD o d then
   match o.op with
   | .indexAddr t a i=>match evalA s.t a,evalA s.t i,elemT P t with
    | .rs b ver sz off len, .p (.v (.int _ j)),some e=>match sizeT P e with
     | some sz'=>bif Nat.beq sz' sz then .ridx d len j (putS n s o.dst (.ptr b ver (off+j.toNat*sz)) s.B k κ) else .stuck
     | none=> .stuck
    | _,_,_=> .stuck
   | _=> .stuck
  else plainC P Γ n o s T κ
 | .pidx d _ _ k=>bif isD o d then
   match o.op with
   | .indexAddr t a i=>match evalA s.t a,evalA s.t i,P.underlying t with
    | .ptr b ver off, .p (.v (.int _ j)),some (.array len e)=>match sizeT P e with
     | some sz=>bif !Nat.beq sz 0 then .pidx d len j (putS n s o.dst (.ptr b ver (off+j.toNat*sz)) s.B k κ) else .stuck
     | none=> .stuck
    | _,_,_=> .stuck
   | _=> .stuck
  else plainC P Γ n o s T κ
 | .rstore d _ _ _ E L i a k=>bif isO o d then
   match o.op with
   | .store t x y=>match evalA s.t x with
    | .ptr b ver off=>match s.B[b]? with
     | some (.cells row v cs)=>bif Nat.beq ver v&&(match sizeT P t with | some sz=>Nat.beq sz E.sz | none=>false) then
       .rstore d cs off (evalA s.t y).cells E L i a (putS n s o.dst .u (s.B.set b (.cells row v (rowC ((L.set i.toNat a).map E.f)))) k κ)
      else .stuck
     | _=> .stuck
    | _=> .stuck
   | _=> .stuck
  else plainC P Γ n o s T κ
 | .rclr d _ _ _ _ E L i z k=>bif isO o d then
   match o.op with
   | .call c=>match c.callee,c.args.toList.map (evalA s.t),c.argTypes[0]? with
    | .builtin .clear,[.rs b ver sz off len],some t=>match s.B[b]?,(elemT P t).bind (zeroA P) with
     | some (.cells row v cs),some zz=>bif Nat.beq ver v&&Nat.beq sz E.sz&&Nat.beq zz.length E.sz&&(match (elemT P t).bind (sizeT P) with | some m=>Nat.beq m E.sz | none=>false) then
        .rclr d off len cs zz E L i z (putS n s o.dst (.tup []) (s.B.set b (.cells row v (rowC ((L.take i++List.replicate len z).map E.f)))) k κ)
       else .stuck
     | _,_=> .stuck
    | _,_,_=> .stuck
   | _=> .stuck
  else plainC P Γ n o s T κ
 | .app d src _ _ E L M k=>bif isD o d then
   match o.op with
   | .call c=>match c.callee,c.args.toList.map (evalA s.t),c.argTypes[0]?,c.argTypes[1]? with
    | .builtin .append,[.rs b ver sz off len,x],some t,some tx=>match s.B[b]? with
     | some (.cells true v cs)=>bif Nat.beq ver v&&Nat.beq sz E.sz&&Nat.beq off 0&&rowTyC P t E.sz then
       match srcC P tx s.B E.sz x src with
       | some src'=> .app d src' len cs E L M (putS n s o.dst (.rs b (v+1) E.sz 0 (L++M).length) (s.B.set b (.cells true (v+1) (rowC ((L++M).map E.f)))) k κ)
       | none=> .stuck
      else .stuck
     | _=> .stuck
    | _,_,_,_=> .stuck
   | _=> .stuck
  else plainC P Γ n o s T κ
 | .appn d src E M k=>bif isD o d then
   match o.op with
   | .call c=>match c.callee,c.args.toList.map (evalA s.t),c.argTypes[0]?,c.argTypes[1]? with
    | .builtin .append,[.p (.v (.slice none 0 0)),x],some t,some tx=>bif rowTyC P t E.sz then
       match srcC P tx s.B E.sz x src with
       | some src'=> .appn d src' E M (putS n s o.dst (.rs s.B.length 0 E.sz 0 M.length) (s.B++ [.cells true 0 (rowC (M.map E.f))]) k κ)
       | none=> .stuck
      else .stuck
    | _,_,_,_=> .stuck
   | _=> .stuck
  else plainC P Γ n o s T κ
 | .cut d _ _ _ E L k=>bif isD o d then
   slC o s fun t x l h=>match x with
    | .p (.ls xs)=>match elemT P t with
     | some e=>match sizeT P e with
      | some sz=>bif Nat.beq sz E.sz then .cut d xs l h E L (putS n s o.dst (vl ((cutL l h L).map E.f)) s.B k κ) else .stuck
      | none=> .stuck
     | none=> .stuck
    | _=> .stuck
  else plainC P Γ n o s T κ
 | .scut d _ _ _ k=>bif isD o d then
   slC o s fun t x l h=>match P.underlying t,x with
    | some .string, .p (.v (.string b))=> .scut d b l h (putS n s o.dst (vs (b.extract (loN l) (hiN h b.size))) s.B k κ)
    | _,_=> .stuck
  else plainC P Γ n o s T κ
 | .rcut d _ _ _ k=>bif isD o d then
   slC o s fun t x l h=>match x with
    | .rs b ver sz off len=>match elemT P t with
     | some e=>match sizeT P e with
      | some sz'=>bif Nat.beq sz' sz then .rcut d len l h (putS n s o.dst (.rs b ver sz (off+loN l*sz) (hiN h len - loN l)) s.B k κ) else .stuck
      | none=> .stuck
     | none=> .stuck
    | _=> .stuck
  else plainC P Γ n o s T κ
 | .rcut3 d _ _ E L _ _ k=>bif isD o d then
   match o.op with
   | .slice t x none (some y) (some (.tmp mi))=>match evalA s.t x,evalA s.t y,s.t mi with
    | .rs b ver sz off len, .p (.v (.int _ h)), .p (.v (.int _ m))=>match s.B[b]?,elemT P t with
     | some (.cells true v cs),some e=>match sizeT P e with
      | some sz'=>bif Nat.beq sz' sz&&Nat.beq ver v&&Nat.beq off 0&&Nat.beq sz E.sz then
        .rcut3 d len cs E L h m (putS n s o.dst (.rs b (v+1) sz 0 h.toNat) (s.B.set b (.cells true (v+1) (rowC ((L.take h.toNat).map E.f)))) k κ) else .stuck
      | none=> .stuck
     | _,_=> .stuck
    | _,_,_=> .stuck
   | _=> .stuck
  else plainC P Γ n o s T κ
 | .sidx d _ _ k=>bif isD o d then
   match o.op with
   | .index t x i=>match P.underlying t,evalA s.t x,evalA s.t i with
    | some .string, .p (.v (.string b)), .p (.v (.int _ j))=> .sidx d b j fun c=>putS n s o.dst (byteA c) s.B (k c) κ
    | _,_,_=> .stuck
   | _=> .stuck
  else plainC P Γ n o s T κ
 | .bstr d _ _ L k=>bif isD o d then
   match o.op with
   | .convert src dst x=>match elemT P src,P.underlying dst,evalA s.t x with
    | some e,some .string, .rs b ver sz off len=>match P.underlying e,s.B[b]? with
     | some (.int .u8),some (.cells _ v cs)=>bif Nat.beq ver v&&Nat.beq sz 1&&Nat.beq off 0 then .bstr d len cs L (putS n s o.dst (vs ⟨L.toArray⟩) s.B k κ) else .stuck
     | _,_=> .stuck
    | _,_,_=> .stuck
   | _=> .stuck
  else plainC P Γ n o s T κ
 | .bstrl d _ L k=>bif isD o d then
   match o.op with
   | .convert src dst x=>match elemT P src,P.underlying dst,evalA s.t x with
    | some e,some .string, .p (.ls xs)=>match P.underlying e with
     | some (.int .u8)=> .bstrl d xs L (putS n s o.dst (vs ⟨L.toArray⟩) s.B k κ)
     | _=> .stuck
    | _,_,_=> .stuck
   | _=> .stuck
  else plainC P Γ n o s T κ
 | .sbyte d k=>bif isD o d then
   match o.op with
   | .convert src dst x=>match P.underlying src,elemT P dst,evalA s.t x with
    | some .string,some e, .p (.v (.string b))=>match P.underlying e with
     | some (.int .u8)=> .sbyte d (putS n s o.dst (.rs s.B.length 0 1 0 b.data.toList.length) (s.B++ [.cells true 0 (rowC (b.data.toList.map byteE.f))]) k κ)
     | _=> .stuck
    | _,_,_=> .stuck
   | _=> .stuck
  else plainC P Γ n o s T κ
 | .mks d _ _ _ E a k=>bif isD o d then
   match o.op with
   | .makeSlice t l c=>match evalA s.t l,evalA s.t c,elemT P t with
    | .p (.v (.int _ z)), .p (.v (.int _ y)),some e=>match sizeT P e,zeroA P e,P.info? e with
     | some sz,some zz,some ie=>bif Nat.beq sz E.sz&&Nat.beq zz.length E.sz&&Nat.ble ie.bytes 140000&&zz.all AV.leaf then
       .mks d z y zz E a (putS n s o.dst (.rs s.B.length 0 E.sz 0 (List.replicate z.toNat a).length) (s.B++ [.cells true 0 (rowC ((List.replicate z.toNat a).map E.f))]) k κ)
      else .stuck
     | _,_,_=> .stuck
    | _,_,_=> .stuck
   | _=> .stuck
  else plainC P Γ n o s T κ
 | T=>plainC P Γ n o s T κ

def callrC (o:Oper) (s:AS) (d:Option Nat) (v:AV) (B:List Box) (k:Tree) (κ:AS→Tree→Tree):Tree:=match o.op with
 | .call c=>match c.callee with
  | .value f=>match evalA s.t f with
   | .fn g cap=> .callr d (Δ g (c.args.toList.map (evalA s.t)++cap) s.B v B) v B (putS n s o.dst v B k κ)
   | _=> .stuck
  | _=> .stuck
 | _=> .stuck

def callxC {β:Type} (o:Oper) (s:AS) (d:Option Nat) (v:β→AV) (B:β→List Box) (k:β→Tree) (κ:AS→Tree→Tree):Tree:=match o.op with
 | .call c=>match c.callee with
  | .value f=>match evalA s.t f with
   | .fn g cap=> .callx d (fun y=>Δ g (c.args.toList.map (evalA s.t)++cap) s.B (v y) (B y)) v B (fun y=>putS n s o.dst (v y) (B y) (k y) κ)
   | _=> .stuck
  | _=> .stuck
 | _=> .stuck

def stepC (draw:Option Nat) (ops:List Oper) (o:Oper) (s:AS) (T:Tree) (κ:AS→Tree→Tree):Tree:=
 match wantedA ops s.t o with
 | some true=>bif okD P Γ draw ops o.op s then
   match draw,T with
   | none, .callr d _ v B k=>bif isO o d then callrC Δ n o s d v B k κ else plainC P Γ n o s T κ
   | none, .callx d _ v B k=>bif isO o d then callxC Δ n o s d v B k κ else plainC P Γ n o s T κ
   | _,_=>opC P Γ n o s T κ
  else .stuck
 | some false=>putC n s o.dst (.p (.v undef)) s.B fun s'=>κ s' T
 | none=> .stuck

def opsC (draw:Option Nat) (ops:List Oper):List Oper→AS→Tree→(AS→Tree→Tree)→Tree
 | [],s,T,κ=>κ s T
 | o::rest,s,T,κ=>stepC P Γ Δ n draw ops o s T fun s' T'=>opsC draw ops rest s' T' κ

def calleeN (t:T) (op:Op):Bool:=match op with
 | .call c=>match c.callee with
  | .value f=>match evalA t f with
   | .fn g _=>match Γ g with
    | .none=>true
    | _=>false
   | _=>false
  | _=>false
 | _=>false

def stepXC (n0:Nat) (ops:List Oper) (o:Oper) (s:AS) (T:Tree) (κ:AS→Tree→Tree):Tree:=match T with
 | .callr d q v B k=>match wantedA ops s.t o with
  | some true=>bif isO o d&&okD P Γ (some n0) ops o.op s&&calleeN Γ s.t o.op then callrC Δ n o s d v B k κ else stepC P Γ Δ n (some n0) ops o s (.callr d q v B k) κ
  | _=>stepC P Γ Δ n (some n0) ops o s (.callr d q v B k) κ
 | T=>stepC P Γ Δ n (some n0) ops o s T κ

def freeL (ops:List Oper) (L:Array Bool) (i:Nat) (oi:Oper):Nat→List Oper→Bool
 | _,[]=>true
 | j,oj::rest=>(Nat.beq j i||L.getD j true||reach ops 24 j i||(oi.apart ops.toArray oj&& !(clsOf P Γ ops oi.op).clash (clsOf P Γ ops oj.op)))&&freeL ops L i oi (j+1) rest
def freeC (ops:List Oper) (L:Array Bool) (i:Nat):Bool:=match ops[i]? with
 | some oi=>freeL P Γ ops L i oi 0 ops
 | none=>false

def forkC (body:Nat→Tree→Tree):List Nat→Tree→Tree
 | [],_=> .stuck
 | i::r,T=>match r with
  | []=>body i T
  | _=>match T with
   | .fork x y=> .fork (body i x) (forkC body r y)
   | _=> .stuck

def anyC (n0:Nat) (ops:List Oper) (κ:AS→Tree→Tree):Nat→Array Bool→AS→Tree→Tree
 | 0,L,s,T=>match Region.ready .any ops.toArray L with
  | []=>κ s T
  | _=> .stuck
 | f+1,L,s,T=>match Region.ready .any ops.toArray L with
  | []=>κ s T
  | r=>match r.find? (freeC P Γ ops L) with
   | some i=>match ops[i]? with
    | some o=>stepXC P Γ Δ n n0 ops o s T (fun s' T'=>anyC n0 ops κ f (L.setIfInBounds i true) s' T')
    | none=> .stuck
   | none=>forkC (fun i T=>match ops[i]? with
    | some o=>stepXC P Γ Δ n n0 ops o s T (fun s' T'=>anyC n0 ops κ f (L.setIfInBounds i true) s' T')
    | none=> .stuck) r T

def nilC (s:AS) (i sz:Nat) (κ:AS→Tree):Tree:=match s.t i with
 | .p (.v (.slice none 0 0))=> .nilrow i sz (κ ⟨upd s.t i (.rs s.B.length 0 sz 0 0),s.B++ [.cells true 0 []]⟩)
 | _=> .stuck

def leafC (e:AE) (s:AS) (T:Tree):Tree:=match T with
 | .leaf W _ _ _=>match weakC m0 W s with
  | some (olds,c)=> .leaf W olds e (some c)
  | none=> .stuck
 | _=> .stuck

def nillsC (s:AS) (i:Nat) (κ:AS→Tree):Tree:=match s.t i with
 | .p (.v (.slice none 0 0))=> .nills i (κ ⟨upd s.t i (.p (.ls [])),s.B⟩)
 | _=> .stuck

def nilcellC (s:AS) (b i sz:Nat) (κ:AS→Tree):Tree:=match s.B[b]? with
 | some (.cells row v cs)=>match cs[i]? with
  | some (.p (.v (.slice none 0 0)))=> .nilcell b i sz (κ ⟨s.t,(s.B++ [Box.cells true 0 []]).set b (Box.cells row v (cs.set i (.rs s.B.length 0 sz 0 0)))⟩)
  | _=> .stuck
 | _=> .stuck

def sealcellC {α:Type} (r:Nat) (s:AS) (b2 i:Nat) (E:Enc α) (L:List α) (κ:AS→Tree):Tree:=match s.B[b2]? with
 | some (.cells false v2 cs2)=>match cs2[i]? with
  | some (.rs b v sz off len)=>match s.B[b]? with
   | some (.cells true v' cs)=>bif Nat.beq v v'&&Nat.beq sz E.sz&&Nat.beq off 0 then
     .sealcell r b2 i cs len E L (κ ⟨s.t,(s.B.set b Box.dead).set b2 (Box.cells false v2 (cs2.set i (vl (L.map E.f))))⟩)
    else .stuck
   | _=> .stuck
  | _=> .stuck
 | _=> .stuck

def sealslotC {α:Type} (r:Nat) (s:AS) (i:Nat) (E:Enc α) (L:List α) (κ:AS→Tree):Tree:=match s.t i with
 | .rs b v sz off len=>match s.B[b]? with
  | some (.cells true v' cs)=>bif Nat.beq v v'&&Nat.beq sz E.sz&&Nat.beq off 0 then .sealslot r i cs len E L (κ ⟨upd s.t i (vl (L.map E.f)),s.B.set b Box.dead⟩) else .stuck
  | _=> .stuck
 | _=> .stuck

def sealP (id:Nat) (s:AS) (T:Tree) (κ:AS→Tree→Tree):Tree:=match T with
 | .sealcell r b2 i cs len E L k=>bif Nat.beq r id then sealcellC r s b2 i E L fun s'=>κ s' k else κ s (.sealcell r b2 i cs len E L k)
 | .sealslot r i cs len E L k=>bif Nat.beq r id then sealslotC r s i E L fun s'=>κ s' k else κ s (.sealslot r i cs len E L k)
 | T=>κ s T
def sealP2 (id:Nat) (s:AS) (T:Tree) (κ:AS→Tree→Tree):Tree:=sealP id s T fun s T=>sealP id s T κ

def mvC (s:AS) (i:Nat) (κ:AS→Tree):Tree:=match s.t i with
 | .rs b ver sz off len=>match s.B[b]? with
  | some (.cells true v cs)=>bif Nat.beq v ver&&Nat.beq off 0 then .mvrow i (κ ⟨upd s.t i (.rs s.B.length 0 sz 0 len),s.B.set b (.cells true (v+1) [])++ [.cells true 0 cs]⟩) else .stuck
  | _=> .stuck
 | _=> .stuck

def preC (s:AS) (T:Tree) (κ:AS→Tree→Tree):Tree:=match T with
 | .nilrow i sz k=>nilC s i sz fun s'=>κ s' k
 | .nills i k=>nillsC s i fun s'=>κ s' k
 | .mvrow i k=>mvC s i fun s'=>κ s' k
 | .nilcell b i sz k=>nilcellC s b i sz fun s'=>κ s' k
 | T=>κ s T

def preC4 (s:AS) (T:Tree) (κ:AS→Tree→Tree):Tree:=preC s T fun s T=>preC s T fun s T=>preC s T fun s T=>preC s T κ

def sameR:Option Nat→Option Nat→Bool
 | none,none=>true
 | some i,some j=>Nat.beq i j
 | _,_=>false
def fragOr (r:Option Nat) (cd:Code) (s:AS) (T:Tree) (κ:AE→AS→Tree→Tree) (dflt:Tree):Tree:=match T with
 | .frag r' W _ _ E0 _ e c k=>bif sameR r r' then
   match weakC m0 W s with
   | some (olds,c0)=> .frag r' W olds (some c0) E0 (Tri P n m0 false cd E0.as fun e' s'=>e'=e∧s'=c.as) e c (κ e c.as k)
   | none=> .stuck
  else dflt
 | _=>dflt

def codeC:Code→AS→Tree→(AE→AS→Tree→Tree)→Tree
 | .skip,s,T,κ=>κ .normal s T
 | .region id ops draw,s,T,κ=>fragOr P n m0 (some id) (.region id ops draw) s T κ (sealP2 id s T fun s T=>
  bif draw then (match T with
   | .any T1=> .any (anyC P Γ Δ n s.B.length ops.toList (fun s' T'=>κ .normal s' T') ops.size (Array.replicate ops.size false) s T1)
   | T=>bif drawOk P Γ ops.toList then opsC P Γ Δ n (some s.B.length) ops.toList ops.toList s T fun s' T'=>κ .normal s' T'
   else anyC P Γ Δ n s.B.length ops.toList (fun s' T'=>κ .normal s' T') ops.size (Array.replicate ops.size false) s T)
  else opsC P Γ Δ n none ops.toList ops.toList s T fun s' T'=>κ .normal s' T')
 | .seq a b,s,T,κ=>codeC a s T fun e s' T'=>match e with
  | .normal=>match T' with
   | .join W _ _ E s0 k=>match weakC m0 W s' with
    | some (olds,c)=> .join W olds (some c) E s0 (fun z=>codeC b (E z).as (k z) κ)
    | none=> .stuck
   | .go k=> .go (codeC b s' k κ)
   | T'=>codeC b s' T' κ
  | .exit i=>κ (.exit i) s' T'
  | .ret=>κ .ret s' T'
 | .cond c x y,s,T,κ=>match boolA (evalA s.t c) with
  | some q=>match T with
   | .stuck=> .stuck
   | .br _ Tx Ty=> .br q (codeC x s Tx κ) (codeC y s Ty κ)
   | .dec T'=> .dec (bif q then codeC x s T' κ else codeC y s T' κ)
   | T=>bif q then codeC x s T κ else codeC y s T κ
  | none=> .stuck
 | .block id b,s,T,κ=>codeC b s T fun e s' T'=>match e with
  | .exit i=>bif Nat.beq i id then κ .normal s' T' else κ (.exit i) s' T'
  | .normal=>κ .normal s' T'
  | .ret=>κ .ret s' T'
 | .loop b,s,T,κ=>fragOr P n m0 none (.loop b) s T κ (preC4 s T fun s T=>match T with
  | .loop W _ _ E X X' s0 body k k'=>match weakC m0 W s with
   | some (olds,c)=> .loop W olds (some c) E X X' s0 (fun z=>codeC b (E z).as (body z) (leafC m0)) (fun x=>κ (X x).1 (X x).2.as (k x)) (fun x=>κ (X' x).1 (X' x).2.as (k' x))
   | none=> .stuck
  | _=> .stuck)
 | .exit id,s,T,κ=>κ (.exit id) s T
 | .ret,s,T,κ=>κ .ret s T
 | _,_,_,_=> .stuck
end

end Go.Ax
