/- The words of a second reading of a Go text: memory by value. Definitions alone: values, boxes, what one operation does, what code does. -/
import Derived.Below
import Derived.Orders
import Derived.KernelRfl
import Derived.Deep.LoopGhost
import Derived.MapKept
set_option linter.unusedVariables false
set_option linter.unusedSimpArgs false
set_option linter.unusedSectionVars false
namespace Go.Ax
open Go.RowKit

inductive PV where
 | v (x:Value)
 | ls (xs:List PV)
 | agg (cs:List PV)
 deriving Inhabited

def PV.cells:PV→List PV
 | .agg cs=>cs
 | .v x=> [.v x]
 | .ls xs=> [.ls xs]

inductive AV where
 | u
 | mp (b:Nat)
 | op (b:Nat)
 | p (x:PV)
 | ptr (b ver o:Nat)
 | rs (b ver sz off len:Nat)
 | rp (cs:List PV)
 | agg (cs:List AV)
 | fn (f:Nat) (cap:List AV)
 | tup (xs:List AV)
 deriving Inhabited

def mapHolds (ks:List Value) (hid:List (Value×Value)) (us:List Value) (S:Nat→Prop) (k:Nat) (w:World):Prop:=
 (∀ j,S j↔j=k)∧∃ (es:Array MapEntry) (clock:Nat),w.heap[k]? = some (.map es clock)∧MapKept.Stamped es clock∧us.length=ks.length∧(es.toList.map fun e=>(e.key,e.val)).Perm (ks.zip us++hid)

structure ObjP where
 keys:Option (List Value×List (Value×Value))
 holds:List Value→(Nat→Prop)→Nat→World→Prop
 frame:∀ us S k w w',holds us S k w→(∀ j,S j→w'.heap[j]? = w.heap[j]?)→holds us S k w'
 root:∀ us S k w,holds us S k w→S k
 low:∀ us S k w j,holds us S k w→S j→j<w.heap.size
 isMap:∀ q,keys=some q→holds=mapHolds q.1 q.2

def mapP (ks:List Value) (hid:List (Value×Value)):ObjP where
 keys:=some (ks,hid)
 holds:=mapHolds ks hid
 frame:=fun us S k w w' ⟨h1,es,clock,h2,h3⟩ h=>⟨h1,es,clock,(h k ((h1 k).2 rfl)).trans h2,h3⟩
 root:=fun us S k w ⟨h1,_⟩=>(h1 k).2 rfl
 low:=fun us S k w j ⟨h1,es,clock,h2,_⟩ h=>by rw[(h1 j).1 h]; exact (Array.getElem?_eq_some_iff.1 h2).1
 isMap:=fun q h=>by cases h; rfl

inductive Box where
 | dead
 | cells (row:Bool) (ver:Nat) (cs:List AV)
 | obj (cs:List AV) (Φ:ObjP)
 deriving Inhabited

structure GlobT where
 tab:Nat→List PV
abbrev Glob:=Inhabited GlobT
abbrev Glob.tab [g:Glob]:Nat→List PV:=g.default.tab
variable [Glob]

abbrev T:=Nat→AV

def upd (t:T) (i:Nat) (v:AV):T:=fun j=>bif Nat.beq j i then v else t j

@[simp] theorem upd_same (t:T) (i:Nat) (v:AV):upd t i v i=v:=by simp[upd]
theorem upd_ne (t:T) (i j:Nat) (v:AV) (h:j≠i):upd t i v j=t j:=by
 unfold upd
 cases e:Nat.beq j i with
 | true=>exact absurd (Nat.eq_of_beq_eq_true e) h
 | false=>rfl

def vleaf:Value→Bool
 | .agg _ | .tuple _=>false
 | _=>true

def PV.leaf:PV→Bool
 | .v x=>vleaf x
 | .ls _=>true
 | .agg _=>false

def AV.leaf:AV→Bool
 | .p x=>x.leaf
 | .ptr .. | .rs .. | .rp .. | .fn .. | .mp _ | .op _=>true
 | .u | .agg _ | .tup _=>false

def AV.cells:AV→List AV
 | .agg cs=>cs
 | .p (.agg cs)=>cs.map .p
 | x=> [x]

def ofV:Value→AV
 | .agg cs=> .agg (cs.toList.map fun x=> .p (.v x))
 | x=> .p (.v x)

def evalA (t:T):Operand→AV
 | .tmp i=>t i
 | .const v=>ofV v
 | .global g=>match Glob.tab g with
  | []=> .u
  | cs=> .rp cs
 | .func f=> .fn f []

def isAggT (P:Program) (t:TypeId):Bool:=
 match P.underlying t with
 | some (.struct _) | some (.array _ _)=>true
 | _=>false
def sizeT (P:Program) (t:TypeId):Option Nat:=(P.info? t).map (·.size)
def elemT (P:Program) (t:TypeId):Option TypeId:=
 match P.underlying t with
 | some (.slice e)=>some e
 | _=>none

def undT (P:Program) (t:TypeId):Bool:=(P.underlying t).isSome

def mkA (P:Program) (t:TypeId) (cs:List AV):Option AV:=
 if !undT P t then none else
 if isAggT P t then (sizeT P t).bind fun n=>if n≤cs.length then some (.agg (cs.take n)) else none
 else cs.head?

def loadA (P:Program) (t:TypeId) (B:List Box):AV→Option AV
 | .ptr b ver o=>
  match B[b]? with
  | some (.cells _ v cs)=>if Nat.beq ver v then mkA P t (cs.drop o) else none
  | _=>none
 | .rp cs=>mkA P t (cs.map .p)
 | _=>none

def splice (cs:List AV) (o:Nat) (new:List AV):List AV:=cs.take o++(new++cs.drop (o+new.length))

def storeA (P:Program) (t:TypeId) (B:List Box) (x:AV):AV→Option (List Box)
 | .ptr b ver o=>
  match B[b]? with
  | some (.cells row v cs)=>
   if Nat.beq ver v&&sizeT P t == some x.cells.length&&Nat.ble (o+x.cells.length) cs.length&&x.cells.all AV.leaf then some (B.set b (.cells row v (splice cs o x.cells))) else none
  | _=>none
 | _=>none

def fillA (place:Nat→Option (Nat×Nat)) (cells:List AV):List (Nat×AV)→Option (List AV)
 | []=>some cells
 | (i,v)::rest=>
  match place i with
  | none=>none
  | some (off,size)=>
   if v.cells.length == size&&Nat.ble (off+size) cells.length&&v.cells.all AV.leaf then fillA place (splice cells off v.cells) rest else none

def zeroA (P:Program) (t:TypeId):Option (List AV):=((P.info? t).bind (·.zero)).map fun z=>(ofV z).cells

def fieldsT (P:Program) (t:TypeId):Option (Array Field):=
 match P.underlying t with
 | some (.struct fs)=>some fs
 | _=>none

def placesT (P:Program) (t:TypeId):Option (List (Nat×Nat)):=
 (fieldsT P t).bind fun fs=>fs.toList.mapM fun f=>(P.info? f.type).map fun i=>(f.offset,i.size)

def arrayT (P:Program) (t:TypeId):Option (Nat×Nat):=
 match P.underlying t with
 | some (.array n e)=>(sizeT P e).map fun sz=>(n,sz)
 | _=>none

def buildA (P:Program) (t:TypeId) (parts:List (Nat×AV)):Option AV:=
 (zeroA P t).bind fun z=>if z.all AV.leaf then
  match placesT P t with
  | some places=>(fillA (fun i=>places[i]?) z parts).map .agg
  | none=>(arrayT P t).bind fun (_,n)=>(fillA (fun i=>some (i*n,n)) z parts).map .agg
 else none

def repeatL (z:List AV):Nat→List AV
 | 0=> []
 | n+1=>z++repeatL z n

def buildSliceA (P:Program) (t:TypeId) (len:Nat) (parts:List (Nat×AV)) (B:List Box):Option (AV×List Box):=
 (elemT P t).bind fun e=>(sizeT P e).bind fun n=>(zeroA P e).bind fun z=>
  if n == z.length&&Nat.ble (len*n) 16777216&&z.all AV.leaf then
   (fillA (fun i=>some (i*n,n)) (repeatL z len) parts).bind fun cs=>some (.rs B.length 0 n 0 len,B++ [.cells true 0 cs])
  else none

def makeSliceA (P:Program) (t:TypeId) (l c:AV) (B:List Box):Option (AV×List Box):=
 (elemT P t).bind fun e=>(sizeT P e).bind fun n=>(zeroA P e).bind fun z=>(P.info? e).bind fun ie=>
  match l,c with
  | .p (.v (.int _ a)), .p (.v (.int _ b))=>if a=b∧0≤a∧a≤1000000000∧n=z.length∧ie.bytes≤140000∧z.all AV.leaf=true then some (.rs B.length 0 n 0 a.toNat,B++ [.cells true 0 (repeatL z a.toNat)]) else none
  | _,_=>none

def intA:AV→Option Int
 | .p (.v (.int _ n))=>some n
 | _=>none

def cmpInt (op:BinOp) (x y:Int):Option Value:=
 match op with
 | .eql=>some (.bool (x == y))
 | .neq=>some (.bool (x != y))
 | .lss=>some (.bool (x<y))
 | .leq=>some (.bool (x≤y))
 | .gtr=>some (.bool (x>y))
 | .geq=>some (.bool (x≥y))
 | _=>none

def binInt (op:BinOp) (k:IntKind) (x y:Int):Option Value:=
 match op with
 | .add=>some (.int k (k.wrap (x+y)))
 | .sub=>some (.int k (k.wrap (x - y)))
 | .mul=>some (.int k (k.wrap (x*y)))
 | .quo=>if y=0 then none else some (.int k (k.wrap (x.tdiv y)))
 | .rem=>if y=0 then none else some (.int k (x.tmod y))
 | .and=>some (.int k (k.wrap (BitVec.ofInt k.bits x &&& BitVec.ofInt k.bits y).toNat))
 | .or=>some (.int k (k.wrap (BitVec.ofInt k.bits x ||| BitVec.ofInt k.bits y).toNat))
 | .xor=>some (.int k (k.wrap (BitVec.ofInt k.bits x ^^^ BitVec.ofInt k.bits y).toNat))
 | .andNot=>some (.int k (k.wrap (BitVec.ofInt k.bits x &&& ~~~(BitVec.ofInt k.bits y)).toNat))
 | _=>cmpInt op x y

def binStr (op:BinOp) (x y:ByteArray):Option Value:=
 match op with
 | .add=>if x.size+y.size≤140737488355328 then some (.string (x++y)) else none
 | .eql=>some (.bool (x.toList == y.toList))
 | .neq=>some (.bool !(x.toList == y.toList))
 | .lss=>some (.bool (Op.bytesLess x.toList y.toList))
 | .leq=>some (.bool (Op.bytesLess x.toList y.toList||x.toList == y.toList))
 | .gtr=>some (.bool !(Op.bytesLess x.toList y.toList||x.toList == y.toList))
 | .geq=>some (.bool !(Op.bytesLess x.toList y.toList))
 | _=>none

def shiftInt (op:BinOp) (k:IntKind) (x y:Int):Option Value:=
 if y<0 then none else
 match op with
 | .shl=>some (.int k (k.wrap (x*2 ^ (min y.toNat k.bits))))
 | .shr=>some (.int k (x.fdiv (2 ^ (min y.toNat k.bits))))
 | _=>none

def numOp (op:BinOp) (k:IntKind) (a:Int) (k':IntKind) (b:Int):Option Value:=
 match op with
 | .shl=>shiftInt .shl k a b
 | .shr=>shiftInt .shr k a b
 | op=>if k=k' then binInt op k a b else none

inductive CK where
 | i | s | b
 deriving DecidableEq

def ckT (P:Program) (t:TypeId):Option CK:=
 match P.underlying t with
 | some (.int _)=>some .i
 | some .string=>some .s
 | some .bool=>some .b
 | _=>none

def eqCell:CK→AV→AV→Option Bool
 | .i, .p (.v (.int j a)), .p (.v (.int k b))=>if j=k then some (a == b) else none
 | .s, .p (.v (.string a)), .p (.v (.string b))=>some (a.toList == b.toList)
 | .b, .p (.v (.bool a)), .p (.v (.bool b))=>some (a == b)
 | _,_,_=>none

def eqCells:List CK→List AV→List AV→Option Bool
 | [],[],[]=>some true
 | k::ks,x::xs,y::ys=>(eqCell k x y).bind fun b=>(eqCells ks xs ys).map fun c=>b&&c
 | _,_,_=>none

def ckFields (P:Program):List Field→Nat→Option (List CK)
 | [],_=>some []
 | f :: fs, i => if f.offset == i && f.name != "_" && !isAggT P f.type then (ckT P f.type).bind fun k => (ckFields P fs (i + 1)).map fun r => k :: r else none

def cellKinds (P:Program) (t:TypeId):Option (List CK):=
 if P.eqGuardType P.depth t then none else
 match P.underlying t with
 | some (.struct fs)=>if P.stoodInHeld t then none else ckFields P fs.toList 0
 | _=>none

def isNilA:AV→Option Bool
 | .p (.v (.slice none _ _))=>some true
 | .p (.ls (_::_))=>some false
 | .rs _ _ _ _ len=>if Nat.blt 0 len then some false else none
 | _=>none

def isNilP:AV→Option Bool
 | .p (.v (.pointer none))=>some true
 | .ptr .. | .op _ | .rp _=>some false
 | _=>none

def binA (P:Program) (op:BinOp) (t:TypeId) (x y:AV):Option AV:=
 match x,y with
 | .p (.v (.int k a)), .p (.v (.int k' b))=>
  (numOp op k a k' b).map fun v=> .p (.v v)
 | .p (.v (.string a)), .p (.v (.string b))=>(binStr op a b).map fun v=> .p (.v v)
 | .p (.v (.bool a)), .p (.v (.bool b))=>
  match op,P.underlying t with
  | .eql,some .bool=>some (.p (.v (.bool (a == b))))
  | .neq,some .bool=>some (.p (.v (.bool !(a == b))))
  | _,_=>none
 | .agg xs, .agg ys=>
  (cellKinds P t).bind fun ks=>
   match op with
   | .eql=>(eqCells ks xs ys).map fun b=> .p (.v (.bool b))
   | .neq=>(eqCells ks xs ys).map fun b=> .p (.v (.bool !b))
   | _=>none
 | x, .p (.v (.slice none 0 0))=>(elemT P t).bind fun _=>(isNilA x).bind fun q=>
  match op with
  | .eql=>some (.p (.v (.bool q)))
  | .neq=>some (.p (.v (.bool !q)))
  | _=>none
 | x, .p (.v (.pointer none))=>(isNilP x).bind fun q=>
  match op,P.underlying t with
  | .eql,some (.pointer _)=>some (.p (.v (.bool q)))
  | .neq,some (.pointer _)=>some (.p (.v (.bool !q)))
  | _,_=>none
 | _,_=>none

def unA (op:UnOp) (x:AV):Option AV:=
 match op,x with
 | .not, .p (.v (.bool b))=>some (.p (.v (.bool !b)))
 | .neg, .p (.v (.int k n))=>some (.p (.v (.int k (k.wrap (0 - n)))))
 | .xor, .p (.v (.int k n))=>some (.p (.v (.int k (k.wrap (BitVec.ofInt k.bits (if k.signed then -1 else k.max) ^^^ BitVec.ofInt k.bits n).toNat))))
 | _,_=>none

def fieldOff (P:Program) (t:TypeId) (j:Nat):Option (Nat×TypeId):=
 (fieldsT P t).bind fun fs=>(fs[j]?).map fun f=>(f.offset,f.type)

def fieldAddrA (P:Program) (t:TypeId) (j:Nat) (x:AV):Option AV:=
 (fieldOff P t j).bind fun (off,ft)=>(sizeT P ft).bind fun n=>if Nat.beq n 0 then none else
  match x with
  | .ptr b ver o=>some (.ptr b ver (o+off))
  | .rp cs=>if Nat.ble off cs.length then some (.rp (cs.drop off)) else none
  | _=>none

def partA (P:Program) (t:TypeId) (cs:List AV) (off:Nat):Option AV:=
 if !undT P t then none else
 if isAggT P t then (sizeT P t).bind fun n=>if Nat.ble (off+n) cs.length then some (.agg ((cs.drop off).take n)) else none
 else cs[off]?

def fieldA (P:Program) (t:TypeId) (j:Nat) (x:AV):Option AV:=
 (fieldOff P t j).bind fun (off,ft)=>
  match x with
  | .agg cs=>(sizeT P ft).bind fun _=>partA P ft cs off
  | _=>none

def indexAddrA (P:Program) (t:TypeId) (x i:AV):Option AV:=
 (intA i).bind fun n=>if n<0 then none else
  match P.underlying t with
  | some (.slice e)=>(sizeT P e).bind fun sz=>
   match x with
   | .p (.ls xs)=>if xs.all fun y=>y.cells.length == sz then (xs[n.toNat]?).map fun y=> .rp y.cells else none
   | .rs b ver sz' off len=>if n.toNat<len&&sz == sz' then some (.ptr b ver (off+n.toNat*sz)) else none
   | _=>none
  | some (.array len e)=>(sizeT P e).bind fun sz=>
   match x with
   | .ptr b ver o=>if n.toNat<len&& !Nat.beq sz 0 then some (.ptr b ver (o+n.toNat*sz)) else none
   | .rp cs=>if n.toNat<len&&Nat.ble (n.toNat*sz) cs.length&& !Nat.beq sz 0 then some (.rp (cs.drop (n.toNat*sz))) else none
   | _=>none
  | _=>none

def indexA (P:Program) (t:TypeId) (x i:AV):Option AV:=
 (intA i).bind fun n=>if n<0 then none else
  match P.underlying t,x with
  | some (.array len e), .agg cs=>(sizeT P e).bind fun sz=>if n.toNat<len then partA P e cs (n.toNat*sz) else none
  | some .string, .p (.v (.string s))=>(s[n.toNat]?).map fun b=> .p (.v (.int .u8 b.toNat))
  | _,_=>none

def boundA (most dflt:Nat):Option AV→Option Nat
 | none=>some dflt
 | some x=>(intA x).bind fun n=>if 0≤n∧n≤(most:Int) then some n.toNat else none

def boundsA (len:Nat) (lo hi:Option AV):Option (Nat×Nat):=
 (boundA len len hi).bind fun h=>(boundA h 0 lo).bind fun l=>some (l,h)

def sliceA (P:Program) (t:TypeId) (B:List Box) (x:AV) (lo hi:Option AV):Option AV:=
 match P.underlying t,x with
 | some .string, .p (.v (.string s))=>(boundsA s.size lo hi).map fun (l,h)=> .p (.v (.string (s.extract l h)))
 | some (.slice e), .p (.ls xs)=>(sizeT P e).bind fun sz=>(boundsA xs.length lo hi).bind fun (l,h)=>
   if xs.all fun y=>y.cells.length == sz then some (.p (.ls ((xs.take h).drop l))) else none
 | some (.slice e), .rs b ver sz' off len=>(sizeT P e).bind fun sz=>(boundsA len lo hi).bind fun (l,h)=>
   if sz == sz' then some (.rs b ver sz (off+l*sz) (h - l)) else none
 | some (.slice e), .p (.v (.slice none 0 0))=>(sizeT P e).bind fun _=>(boundsA 0 lo hi).map fun _=> .p (.v (.slice none 0 0))
 | some (.array n e), .ptr b ver o=>(sizeT P e).bind fun sz=>(boundsA n lo hi).bind fun (l,h)=>
   match B[b]? with
   | some (.cells _ v cs)=>if Nat.beq ver v&&Nat.ble (o+n*sz) cs.length then some (.rs b ver sz (o+l*sz) (h - l)) else none
   | _=>none
 | _,_=>none

def trimA (B:List Box) (b ver sz h:Nat):Option (AV×List Box):=match B[b]? with
 | some (.cells true v cs)=>if ver=v∧h*sz≤cs.length then some (.rs b (v+1) sz 0 h,B.set b (.cells true (v+1) (cs.take (h*sz)))) else none
 | _=>none

def slice3A (P:Program) (t:TypeId) (B:List Box) (x:AV) (lo hi:Option AV) (mx:AV) (fresh:Bool):Option (AV×List Box):=
 match P.underlying t with
 | some (.slice e)=>(sizeT P e).bind fun sz=>
  match x with
  | .p (.v (.slice none 0 0))=>(intA mx).bind fun m=>(boundsA 0 lo hi).bind fun _=>if m=0∧hi.isSome=true then some (.p (.v (.slice none 0 0)),B) else none
  | .rs b ver sz' off len=>
   if fresh then
    match lo,hi,mx with
    | none,some (.p (.v (.int _ 0))), .p (.v (.int _ 0)) | some (.p (.v (.int _ 0))),some (.p (.v (.int _ 0))), .p (.v (.int _ 0))=>some (.rs B.length 0 sz 0 0,B++ [.cells true 0 []])
    | _,_,_=>none
   else (intA mx).bind fun m=>if 0≤m∧m≤(len:Int) then (boundsA m.toNat lo hi).bind fun (l,h)=>if sz == sz'&&hi.isSome then (if lo.isNone&&off == 0 then trimA B b ver sz h else some (.rs b ver sz (off+l*sz) (h - l),B)) else none else none
  | .p (.ls _)=>
   if fresh then
    match lo,hi,mx with
    | none,some (.p (.v (.int _ 0))), .p (.v (.int _ 0)) | some (.p (.v (.int _ 0))),some (.p (.v (.int _ 0))), .p (.v (.int _ 0))=>some (.rs B.length 0 sz 0 0,B++ [.cells true 0 []])
    | _,_,_=>none
   else none
  | _=>none
 | _=>none

/-- A key that is at once found or not: a bool, a whole number, a string. -/
def keyB:TypeDesc→Value→Bool
 | .bool, .bool _=>true
 | .int k, .int k' _=>k'=k
 | .string, .string _=>true
 | _,_=>false

def hasK (d:TypeDesc) (k x:Value):Bool:=match Instr.sameNow d k x with
 | some true=>true
 | _=>false

structure MapA where
 b:Nat
 ks:List Value
 hid:List (Value×Value)
 cs:List AV
 kv:Value
 i:Option Nat
 j:Option Nat

def mapAt (P:Program) (t:TypeId) (B:List Box) (x k:AV):Option MapA:=
 match P.underlying t,x,k with
 | some (.map kt _), .mp b, .p (.v kv)=>
  match P.underlying kt,B[b]? with
  | some d,some (.obj cs Φ)=>match Φ.keys with
   | some (ks,hid)=>if keyB d kv&&ks.all (keyB d)&&hid.all fun h=>keyB d h.1 then some ⟨b,ks,hid,cs,kv,ks.findIdx? (hasK d kv),hid.findIdx? fun h=>hasK d kv h.1⟩ else none
   | none=>none
  | _,_=>none
 | _,_,_=>none

def zeroV (P:Program) (t:TypeId):Option AV:=((P.info? t).bind (·.zero)).map ofV

def lookupA (P:Program) (t:TypeId) (B:List Box) (x k:AV) (ok:Bool):Option AV:=
 (mapAt P t B x k).bind fun m=>match P.underlying t with
  | some (.map _ et)=>(match m.i,m.j with
   | some i,_=>m.cs[i]?
   | none,some j=>(m.hid[j]?).map fun (h:Value×Value)=>AV.p (.v h.2)
   | none,none=>zeroV P et).map fun v=>if ok then .tup [v, .p (.v (.bool (m.i.isSome||m.j.isSome)))] else v
  | _=>none

def mapUpdateA (P:Program) (t:TypeId) (B:List Box) (x k v:AV):Option (List Box):=
 (mapAt P t B x k).map fun m=>match m.i,m.j with
  | some i,_=>B.set m.b (.obj (m.cs.set i v) (mapP m.ks m.hid))
  | none,some j=>B.set m.b (.obj (m.cs++ [v]) (mapP (m.ks++ [m.kv]) (m.hid.eraseIdx j)))
  | none,none=>B.set m.b (.obj (m.cs++ [v]) (mapP (m.ks++ [m.kv]) m.hid))

def deleteA (P:Program) (t:TypeId) (B:List Box) (x k:AV):Option (List Box):=
 (mapAt P t B x k).map fun m=>match m.i,m.j with
  | some i,_=>B.set m.b (.obj (m.cs.eraseIdx i) (mapP (m.ks.eraseIdx i) m.hid))
  | none,some j=>B.set m.b (.obj m.cs (mapP m.ks (m.hid.eraseIdx j)))
  | none,none=>B.set m.b (.obj m.cs (mapP m.ks m.hid))

def lenA (P:Program) (t:TypeId) (x:AV):Option AV:=
 match P.underlying t,x with
 | some .string, .p (.v (.string s))=>some (.p (.v (.int .i64 s.size)))
 | some (.slice _), .p (.ls xs)=>some (.p (.v (.int .i64 xs.length)))
 | some (.slice _), .p (.v (.slice _ n _))=>some (.p (.v (.int .i64 n)))
 | some (.slice _), .rs _ _ _ _ len=>some (.p (.v (.int .i64 len)))
 | some (.array n _),_=>some (.p (.v (.int .i64 n)))
 | _,_=>none

def byteA (b:UInt8):AV:= .p (.v (.int .u8 b.toNat))

def srcA (P:Program) (t:TypeId) (B:List Box) (sz:Nat) (x:AV):Option (Nat×List AV):=
 match P.underlying t,x with
 | some (.slice _), .p (.v (.slice none 0 0))=>some (0,[])
 | some (.slice _), .p (.ls xs)=>if xs.all fun y=>y.cells.length == sz then some (xs.length,(xs.flatMap PV.cells).map .p) else none
 | some (.slice _), .rs b ver sz' off len=>
  match B[b]? with
  | some (.cells _ v cs)=>if Nat.beq ver v&&sz == sz' then some (len,(cs.drop off).take (len*sz)) else none
  | _=>none
 | some .string, .p (.v (.string s))=>if sz == 1 then some (s.size,s.data.toList.map byteA) else none
 | _,_=>none

def appendA (P:Program) (t tx:TypeId) (B:List Box) (s x:AV):Option (AV×List Box):=
 (elemT P t).bind fun e=>(sizeT P e).bind fun sz=>((P.info? e).map (·.bytes)).bind fun bytes=>
 if Nat.beq sz 0||Nat.beq bytes 0|| !((zeroA P e).map (·.length) == some sz)|| !((zeroA P e).map (·.all AV.leaf) == some true) then none else
 (srcA P tx B sz x).bind fun (n,new)=>
 if !(new.all AV.leaf)|| !Nat.beq new.length (n*sz) then none else
 match s with
 | .p (.v (.slice none 0 0))=>if Nat.ble (n*bytes) 140737488355328 then some (.rs B.length 0 sz 0 n,B++ [.cells true 0 new]) else none
 | .rs b ver sz' off len=>
  match B[b]? with
  | some (.cells true v cs)=>
   if Nat.beq ver v&&sz == sz'&&Nat.ble ((len+n)*bytes) 140737488355328 then
    some (.rs b (v+1) sz 0 (len+n),B.set b (.cells true (v+1) ((cs.drop off).take (len*sz)++new)))
   else none
  | _=>none
 | _=>none

def minmaxA (isMin:Bool) (x y:AV):Option AV:=
 match x,y with
 | .p (.v (.int k a)), .p (.v (.int k' b))=>if k=k' then some (.p (.v (.int k (if isMin then (if b<a then b else a) else (if a<b then b else a))))) else none
 | .p (.v (.string a)), .p (.v (.string b))=>
  some (.p (.v (.string (if isMin then (if Op.bytesLess a.toList b.toList||a.toList == b.toList then a else b) else (if !(Op.bytesLess a.toList b.toList) then a else b)))))
 | _,_=>none

def minmaxL (isMin:Bool):AV→List AV→Option AV
 | x,[]=>some x
 | x,y::r=>(minmaxA isMin x y).bind fun z=>minmaxL isMin z r

def bytesOfCells:List AV→Option (List UInt8)
 | []=>some []
 | .p (.v (.int .u8 n))::r=>(bytesOfCells r).map fun bs=>UInt8.ofNat n.toNat::bs
 | _=>none

def convertA (P:Program) (src dst:TypeId) (B:List Box) (x:AV):Option (AV×List Box):=
 match P.underlying src,P.underlying dst,x with
 | some _,some (.int k), .p (.v (.int _ n))=>some (.p (.v (.int k (k.wrap n))),B)
 | some _,some .string, .p (.v (.string s))=>some (.p (.v (.string s)),B)
 | some .string,some (.slice e), .p (.v (.string s))=>
  match P.underlying e with
  | some (.int .u8)=>some (.rs B.length 0 1 0 s.size,B++ [.cells true 0 (s.data.toList.map byteA)])
  | _=>none
 | some (.slice _),some (.slice e), .rs b ver sz off len=>
  match P.underlying e,B[b]? with
  | some (.int .u8),some (.cells _ v _)=>if Nat.beq src dst&&Nat.blt 0 len&&Nat.beq ver v then some (.rs b ver sz off len,B) else none
  | _,_=>none
 | some (.slice e),some .string,y=>
  match P.underlying e with
  | some (.int .u8)=>
   match y with
   | .p (.v (.slice none _ _))=>some (.p (.v (.string .empty)),B)
   | y=>(srcA P src B 1 y).bind fun (_,cs)=>(bytesOfCells cs).map fun bs=>(.p (.v (.string ⟨bs.toArray⟩)),B)
  | _=>none
 | _,_,_=>none

inductive FSpec where
 | none
 | pure (g:List AV→Option AV)
 | gen (g:List AV→List Box→Option (AV×List Box))

def FSpec.run:FSpec→List AV→List Box→Option (AV×List Box)
 | .none,_,_=>Option.none
 | .pure g,args,B=>(g args).map fun v=>(v,B)
 | .gen g,args,B=>g args B

abbrev Env:=Nat→FSpec

def clearA (P:Program) (t:TypeId) (B:List Box) (x:AV):Option (List Box):=
 (elemT P t).bind fun e=>(sizeT P e).bind fun sz=>(zeroA P e).bind fun z=>
  match x with
  | .rs b ver sz' off len=>
   match B[b]? with
   | some (.cells row v cs)=>if Nat.beq ver v&&sz == sz'&&Nat.beq z.length sz&&z.all AV.leaf&&Nat.ble (off+len*sz) cs.length then some (B.set b (.cells row v (splice cs off (repeatL z len)))) else none
   | _=>none
  | _=>none

def builtinA (P:Program) (b:Builtin) (argTypes:Array TypeId) (B:List Box) (args:List AV):Option (AV×List Box):=
 match b,args with
 | .len,[x]=>(argTypes[0]?).bind fun t=>(lenA P t x).map fun v=>(v,B)
 | .append,[s,x]=>(argTypes[0]?).bind fun t=>(argTypes[1]?).bind fun tx=>appendA P t tx B s x
 | .min,x::rest=>(minmaxL true x rest).map fun v=>(v,B)
 | .max,x::rest=>(minmaxL false x rest).map fun v=>(v,B)
 | .clear,[x]=>(argTypes[0]?).bind fun t=>(clearA P t B x).map fun B'=>(.tup [],B')
 | .delete,[x,k]=>(argTypes[0]?).bind fun t=>(deleteA P t B x k).map fun B'=>(.tup [],B')
 | _,_=>none

def callA (P:Program) (Γ:Env) (t:T) (B:List Box) (c:Call):Option (AV×List Box):=
 match c.callee with
 | .builtin b=>builtinA P b c.argTypes B (c.args.toList.map (evalA t))
 | .value f=>
  match evalA t f with
  | .fn g cap=>(Γ g).run (c.args.toList.map (evalA t)++cap) B
  | _=>none
 | .invoke _ _=>none

def boolA:AV→Option Bool
 | .p (.v (.bool b))=>some b
 | _=>none

def opA (P:Program) (Γ:Env) (t:T) (B:List Box):Op→Option (AV×List Box)
 | .move x | .assign x=>some (evalA t x,B)
 | .pick c a b=>(boolA (evalA t c)).map fun q=>(if q then evalA t a else evalA t b,B)
 | .alloc e=>(zeroA P e).bind fun z=>if z.all AV.leaf then some (.ptr B.length 0 0,B++ [.cells false 0 z]) else none
 | .box _ x=>if (evalA t x).cells.all AV.leaf then some (.ptr B.length 0 0,B++ [.cells false 0 (evalA t x).cells]) else none
 | .build ty parts=>(buildA P ty (parts.toList.map fun q=>(q.1,evalA t q.2))).map fun v=>(v,B)
 | .buildSlice ty len parts=>buildSliceA P ty len (parts.toList.map fun q=>(q.1,evalA t q.2)) B
 | .makeSlice ty l c=>makeSliceA P ty (evalA t l) (evalA t c) B
 | .load ty x=>(loadA P ty B (evalA t x)).map fun v=>(v,B)
 | .store ty x y=>(storeA P ty B (evalA t y) (evalA t x)).map fun B'=>(.u,B')
 | .nilCheck x=>match evalA t x with
  | .ptr b v o=>some (.ptr b v o,B)
  | .rp cs=>some (.rp cs,B)
  | .op b=>some (.op b,B)
  | _=>none
 | .binOp op ty x y _=>(binA P op ty (evalA t x) (evalA t y)).map fun v=>(v,B)
 | .unOp op _ x=>(unA op (evalA t x)).map fun v=>(v,B)
 | .convert src dst x=>convertA P src dst B (evalA t x)
 | .makeFunc (.func f) first captured=>if first.isEmpty then some (.fn f (captured.toList.map (evalA t)),B) else none
 | .slice ty x lo hi none=>(sliceA P ty B (evalA t x) (lo.map (evalA t)) (hi.map (evalA t))).map fun v=>(v,B)
 | .slice ty x lo hi (some mx)=>slice3A P ty B (evalA t x) (lo.map (evalA t)) (hi.map (evalA t)) (evalA t mx) (match mx with | .const _=>true | _=>false)
 | .makeMap ty none=>(match P.underlying ty with
  | some (.map _ _)=>some (.mp B.length,B++ [.obj [] (mapP [] [])])
  | _=>none)
 | .lookup ty x k ok=>(lookupA P ty B (evalA t x) (evalA t k) ok).map fun v=>(v,B)
 | .mapUpdate ty x k v=>(mapUpdateA P ty B (evalA t x) (evalA t k) (evalA t v)).map fun B'=>(.u,B')
 | .insert ty x k v=>(mapUpdateA P ty B (evalA t x) (evalA t k) (evalA t v)).map fun B'=>(.u,B')
 | .fieldAddr ty x j=>(fieldAddrA P ty j (evalA t x)).map fun v=>(v,B)
 | .field ty x j=>(fieldA P ty j (evalA t x)).map fun v=>(v,B)
 | .indexAddr ty x i=>(indexAddrA P ty (evalA t x) (evalA t i)).map fun v=>(v,B)
 | .index ty x i=>(indexA P ty (evalA t x) (evalA t i)).map fun v=>(v,B)
 | .extract x i=>match evalA t x with
  | .tup vs=>(vs[i]?).map fun v=>(v,B)
  | _=>none
 | .call c=>callA P Γ t B c
 | _=>none

structure AS where
 t:T
 B:List Box

def wantedA (ops:List Oper) (t:T) (o:Oper):Option Bool:=
 match o.guard with
 | none=>some true
 | some (j,want)=>
  match (ops[j]?).bind (·.dst) with
  | none=>none
  | some d=>
   match t d with
   | .p (.v (.bool b))=>some (b == want)
   | .p (.v (.tuple _))=>some false
   | _=>none

def putA (n:Nat) (t:T) (d:Option Nat) (v:AV):Option T:=
 match d with
 | none=>some t
 | some i=>if Nat.blt i n then some (upd t i v) else none

def stepA (P:Program) (Γ:Env) (n:Nat) (ops:List Oper) (o:Oper) (s:AS):Option AS:=
 (wantedA ops s.t o).bind fun w=>
  if w then (opA P Γ s.t s.B o.op).bind fun (v,B')=>(putA n s.t o.dst v).map fun t'=>⟨t',B'⟩
  else (putA n s.t o.dst (.p (.v undef))).map fun t'=>⟨t',s.B⟩

def opsA (P:Program) (Γ:Env) (n:Nat) (ops:List Oper):List Oper→AS→Option AS
 | [],s=>some s
 | o::rest,s=>(stepA P Γ n ops o s).bind (opsA P Γ n ops rest)

inductive Cls where
 | p | ro | ri | rb | wi | wo
 deriving DecidableEq

def innerSlot (ops:List Oper):Nat→Nat→Bool
 | 0,_=>false
 | fuel+1,d=>ops.any fun o=>(match o.dst with | some e=>Nat.beq e d | none=>false) &&
  match o.op with
  | .alloc _ | .box .. | .buildSlice .. => true
  | .fieldAddr _ (.tmp x) _ | .indexAddr _ (.tmp x) _ | .move (.tmp x) | .assign (.tmp x) | .slice _ (.tmp x) _ _ _=>innerSlot ops fuel x
  | .call c=>
   match c.callee,c.args.toList with
   | .builtin .append, .const _::_=>true
   | .builtin .append, .tmp x::_=>innerSlot ops fuel x
   | _,_=>false
  | _=>false

def innerX (ops:List Oper):Operand→Bool
 | .tmp d=>innerSlot ops 8 d
 | _=>false

def isPure:FSpec→Bool
 | .pure _=>true
 | _=>false

def clsOf (P:Program) (Γ:Env) (ops:List Oper) (o:Op):Cls:=
 match o with
 | .load _ x=>if innerX ops x then .ri else .ro
 | .store _ x _=>if innerX ops x then .wi else .wo
 | .alloc _ | .box .. | .buildSlice .. => .wi
 | .convert src dst _=>
  match P.underlying src,P.underlying dst with
  | some (.slice _),_=> .rb
  | _,some (.slice _)=> .wi
  | _,_=> .p
 | .makeMap .. | .makeSlice .. | .lookup .. | .mapUpdate .. | .insert .. => .wo
 | .slice t _ _ _ mx=>
  match P.underlying t,mx with
  | _,some _=> .wo
  | some (.array _ _),_=> .rb
  | _,_=> .p
 | .call c=>
  match c.callee,c.args.toList with
  | .builtin .append, .const _::_=> .wi
  | .builtin .append,x::_=>if innerX ops x then .wi else .wo
  | .builtin .len,_ | .builtin .min,_ | .builtin .max,_=> .p
  | .value (.func f),_=>if isPure (Γ f) then .p else .wo
  | _,_=> .wo
 | _=> .p

def okCls (c:Cls) (n0:Nat) (t:T) (o:Op):Bool:=
 match c,o with
 | .ro, .load _ x=>match evalA t x with
  | .ptr b _ _=>Nat.blt b n0
  | .rp _=>true
  | _=>false
 | .ri, .load _ x=>match evalA t x with
  | .ptr b _ _=>Nat.ble n0 b
  | _=>false
 | .wi, .store _ x _=>match evalA t x with
  | .ptr b _ _=>Nat.ble n0 b
  | _=>false
 | .wi, .call c=>match (c.args.toList.map (evalA t)).head? with
  | some (.rs b _ _ _ _)=>Nat.ble n0 b
  | some (.p (.v _))=>true
  | _=>false
 | _,_=>true

def Cls.clash:Cls→Cls→Bool
 | .p,_ | _, .p=>false
 | .wo,_ | _, .wo=>true
 | .wi, .wi | .wi, .ri | .ri, .wi | .wi, .rb | .rb, .wi=>true
 | _,_=>false

def stepD (P:Program) (Γ:Env) (n n0:Nat) (ops:List Oper) (o:Oper) (s:AS):Option AS:=
 (wantedA ops s.t o).bind fun w=>
  if w then if okCls (clsOf P Γ ops o.op) n0 s.t o.op&&(clsOf P Γ ops o.op != .wi||Nat.ble n0 s.B.length) then (opA P Γ s.t s.B o.op).bind fun (v,B')=>(putA n s.t o.dst v).map fun t'=>⟨t',B'⟩ else none
  else (putA n s.t o.dst (.p (.v undef))).map fun t'=>⟨t',s.B⟩

def opsD (P:Program) (Γ:Env) (n n0:Nat) (ops:List Oper):List Oper→AS→Option AS
 | [],s=>some s
 | o::rest,s=>(stepD P Γ n n0 ops o s).bind (opsD P Γ n n0 ops rest)

def reach (ops:List Oper):Nat→Nat→Nat→Bool
 | 0,_,_=>false
 | fuel+1,j,i=>
  match ops[j]? with
  | none=>false
  | some o=>o.after.toList.any fun e=>Region.binds .any e&&(Nat.beq e.on i||reach ops fuel e.on i)

def pairsOk (P:Program) (Γ:Env) (ops:List Oper) (i:Nat) (oi:Oper):Nat→List Oper→Bool
 | _,[]=>true
 | j,oj::rest=>(reach ops 24 j i||(oi.apart ops.toArray oj&& !(clsOf P Γ ops oi.op).clash (clsOf P Γ ops oj.op)))&&pairsOk P Γ ops i oi (j+1) rest

def allPairs (P:Program) (Γ:Env) (ops:List Oper):Nat→List Oper→Bool
 | _,[]=>true
 | i,oi::rest=>(oi.after.toList.all fun e=> !Region.binds .any e||Nat.blt e.on i)&&pairsOk P Γ ops i oi (i+1) rest&&allPairs P Γ ops (i+1) rest

def drawOk (P:Program) (Γ:Env) (ops:List Oper):Bool:=Region.noSelect ops.toArray&&allPairs P Γ ops 0 ops

inductive AE where
 | normal
 | exit (id:Nat)
 | ret

def AE.to:AE→Exit
 | .normal=> .normal
 | .exit id=> .exit id
 | .ret=> .ret

inductive Loops {S R:Type} (body:S→Option (S ⊕ R)):Nat→S→R→Prop
 | done {s r}:body s=some (.inr r)→Loops body 0 s r
 | step {n s s' r}:body s=some (.inl s')→Loops body n s' r→Loops body (n+1) s r

open Classical in
noncomputable def loopM {S R:Type} (body:S→Option (S ⊕ R)) (s:S):Option R:=
 if h:∃ r n,Loops body n s r then some (Classical.choose h) else none

def roundOf:Option (AE×AS)→Option (AS ⊕ (AE×AS))
 | none=>none
 | some (.normal,s)=>some (.inl s)
 | some (e,s)=>some (.inr (e,s))

noncomputable def codeA (P:Program) (Γ:Env) (n:Nat):Code→AS→Option (AE×AS)
 | .skip,s=>some (.normal,s)
 | .region _ ops draw,s=>
  if draw then (if drawOk P Γ ops.toList then (opsD P Γ n s.B.length ops.toList ops.toList s).map fun s'=>(.normal,s') else none)
  else (opsA P Γ n ops.toList ops.toList s).map fun s'=>(.normal,s')
 | .seq a b,s=>
  (codeA P Γ n a s).bind fun r=>
   match r with
   | (.normal,s')=>codeA P Γ n b s'
   | r=>some r
 | .cond c x y,s=>(boolA (evalA s.t c)).bind fun q=>if q then codeA P Γ n x s else codeA P Γ n y s
 | .block id b,s=>
  (codeA P Γ n b s).map fun r=>
   match r with
   | (.exit i,s')=>if Nat.beq i id then (.normal,s') else (.exit i,s')
   | r=>r
 | .loop b,s=>loopM (fun s=>roundOf (codeA P Γ n b s)) s
 | .exit id,s=>some (.exit id,s)
 | .ret,s=>some (.ret,s)
 | _,_=>none

end Go.Ax
