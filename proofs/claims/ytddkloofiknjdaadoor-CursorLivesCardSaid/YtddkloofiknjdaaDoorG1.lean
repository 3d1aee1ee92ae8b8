/- The words of a second reading of a Go text: memory by value. Definitions alone: values, boxes, what one operation does, what code does. -/
import Derived.Below
import Derived.Orders
import Derived.KernelRfl
import Derived.Deep.LoopGhost
import Derived.MapKept
import Derived.Laws.IdiomCopy
import Derived.Deep.AppendSrc
import Derived.Laws.AppendOwn
import Derived.WalkKit
set_option linter.unusedVariables false
set_option linter.unusedSimpArgs false
set_option linter.unusedSectionVars false
namespace Go.Ax
open Go.RowKit

inductive PV where
 | v (x:Value)
 | ls (xs:List PV)
 | agg (cs:List PV)
 deriving Inhabited

def PV.cells:PV→List PV
 | .agg cs=>cs
 | .v x=> [.v x]
 | .ls xs=> [.ls xs]

inductive AV where
 | u
 | mp (b:Nat)
 | op (b:Nat)
 | p (x:PV)
 | ptr (b ver o:Nat)
 | rs (b ver sz off len:Nat)
 | rp (cs:List PV)
 | agg (cs:List AV)
 | fn (f:Nat) (cap:List AV)
 | tup (xs:List AV)
 deriving Inhabited

def VI (ks:List Value) (hid:List (Value×Value)) (us:List Value) (S:Nat→Prop) (k:Nat) (w:World):Prop:=
 (∀ j,S j↔j=k)∧∃ (es:Array MapEntry) (clock:Nat),w.heap[k]? = some (.map es clock)∧MapKept.Stamped es clock∧us.length=ks.length∧(es.toList.map fun e=>(e.key,e.val)).Perm (ks.zip us++hid)

structure ObjP where
 keys:Option (List Value×List (Value×Value))
 holds:List Value→(Nat→Prop)→Nat→World→Prop
 frame:∀ us S k w w',holds us S k w→(∀ j,S j→w'.heap[j]? = w.heap[j]?)→holds us S k w'
 root:∀ us S k w,holds us S k w→S k
 low:∀ us S k w j,holds us S k w→S j→j<w.heap.size
 isMap:∀ q,keys=some q→holds=VI q.1 q.2

def AQ (ks:List Value) (hid:List (Value×Value)):ObjP where
 keys:=some (ks,hid)
 holds:=VI ks hid
 frame:=fun us S k w w' ⟨h1,es,clock,h2,h3⟩ h=>⟨h1,es,clock,(h k ((h1 k).2 rfl)).trans h2,h3⟩
 root:=fun us S k w ⟨h1,_⟩=>(h1 k).2 rfl
 low:=fun us S k w j ⟨h1,es,clock,h2,_⟩ h=>by rw[(h1 j).1 h]; exact (Array.getElem?_eq_some_iff.1 h2).1
 isMap:=fun q h=>by cases h; rfl

inductive Box where
 | dead
 | cells (row:Bool) (ver:Nat) (cs:List AV)
 | obj (cs:List AV) (Φ:ObjP)
 deriving Inhabited

structure GlobT where
 tab:Nat→List PV
abbrev Glob:=Inhabited GlobT
abbrev Glob.tab [g:Glob]:Nat→List PV:=g.default.tab
variable [Glob]

abbrev T:=Nat→AV

def Ff (t:T) (i:Nat) (v:AV):T:=fun j=>bif Nat.beq j i then v else t j

@[simp] theorem Ez (t:T) (i:Nat) (v:AV):Ff t i v i=v:=by simp[Ff]
theorem FF (t:T) (i j:Nat) (v:AV) (h:j≠i):Ff t i v j=t j:=by
 unfold Ff
 cases e:Nat.beq j i with
 | true=>exact absurd (Nat.eq_of_beq_eq_true e) h
 | false=>rfl

def Qk:Value→Bool
 | .agg _ | .tuple _=>false
 | _=>true

def PV.leaf:PV→Bool
 | .v x=>Qk x
 | .ls _=>true
 | .agg _=>false

def AV.leaf:AV→Bool
 | .p x=>x.leaf
 | .ptr .. | .rs .. | .rp .. | .fn .. | .mp _ | .op _=>true
 | .u | .agg _ | .tup _=>false

def AV.cells:AV→List AV
 | .agg cs=>cs
 | .p (.agg cs)=>cs.map .p
 | x=> [x]

def kq:Value→AV
 | .agg cs=> .agg (cs.toList.map fun x=> .p (.v x))
 | x=> .p (.v x)

def AR (t:T):Operand→AV
 | .tmp i=>t i
 | .const v=>kq v
 | .global g=>match Glob.tab g with
  | []=> .u
  | cs=> .rp cs
 | .func f=> .fn f []

def M6 (P:Program) (t:TypeId):Bool:=
 match P.underlying t with
 | some (.struct _) | some (.array _ _)=>true
 | _=>false
def BU (P:Program) (t:TypeId):Option Nat:=(P.info? t).map (·.size)
def C2 (P:Program) (t:TypeId):Option TypeId:=
 match P.underlying t with
 | some (.slice e)=>some e
 | _=>none

def aJ (P:Program) (t:TypeId):Bool:=(P.underlying t).isSome

def TX (P:Program) (t:TypeId) (cs:List AV):Option AV:=
 if !aJ P t then none else
 if M6 P t then (BU P t).bind fun n=>if n≤cs.length then some (.agg (cs.take n)) else none
 else cs.head?

def L0 (P:Program) (t:TypeId) (B:List Box):AV→Option AV
 | .ptr b ver o=>
  match B[b]? with
  | some (.cells _ v cs)=>if Nat.beq ver v then TX P t (cs.drop o) else none
  | _=>none
 | .rp cs=>TX P t (cs.map .p)
 | _=>none

def Cf (cs:List AV) (o:Nat) (new:List AV):List AV:=cs.take o++(new++cs.drop (o+new.length))

def M7 (P:Program) (t:TypeId) (B:List Box) (x:AV):AV→Option (List Box)
 | .ptr b ver o=>
  match B[b]? with
  | some (.cells row v cs)=>
   if Nat.beq ver v&&BU P t == some x.cells.length&&Nat.ble (o+x.cells.length) cs.length&&x.cells.all AV.leaf then some (B.set b (.cells row v (Cf cs o x.cells))) else none
  | _=>none
 | _=>none

def fillA (place:Nat→Option (Nat×Nat)) (cells:List AV):List (Nat×AV)→Option (List AV)
 | []=>some cells
 | (i,v)::rest=>
  match place i with
  | none=>none
  | some (off,size)=>
   if v.cells.length == size&&Nat.ble (off+size) cells.length&&v.cells.all AV.leaf then fillA place (Cf cells off v.cells) rest else none

def EF (P:Program) (t:TypeId):Option (List AV):=((P.info? t).bind (·.zero)).map fun z=>(kq z).cells

def JR (P:Program) (t:TypeId):Option (Array Field):=
 match P.underlying t with
 | some (.struct fs)=>some fs
 | _=>none

def Y7 (P:Program) (t:TypeId):Option (List (Nat×Nat)):=
 (JR P t).bind fun fs=>fs.toList.mapM fun f=>(P.info? f.type).map fun i=>(f.offset,i.size)

def VJ (P:Program) (t:TypeId):Option (Nat×Nat):=
 match P.underlying t with
 | some (.array n e)=>(BU P e).map fun sz=>(n,sz)
 | _=>none

def VK (P:Program) (t:TypeId) (parts:List (Nat×AV)):Option AV:=
 (EF P t).bind fun z=>if z.all AV.leaf then
  match Y7 P t with
  | some places=>(fillA (fun i=>places[i]?) z parts).map .agg
  | none=>(VJ P t).bind fun (_,n)=>(fillA (fun i=>some (i*n,n)) z parts).map .agg
 else none

def repeatL (z:List AV):Nat→List AV
 | 0=> []
 | n+1=>z++repeatL z n

def Hp (P:Program) (t:TypeId) (len:Nat) (parts:List (Nat×AV)) (B:List Box):Option (AV×List Box):=
 (C2 P t).bind fun e=>(BU P e).bind fun n=>(EF P e).bind fun z=>
  if n == z.length&&Nat.ble (len*n) 16777216&&z.all AV.leaf then
   (fillA (fun i=>some (i*n,n)) (repeatL z len) parts).bind fun cs=>some (.rs B.length 0 n 0 len,B++ [.cells true 0 cs])
  else none

def It (P:Program) (t:TypeId) (l c:AV) (B:List Box):Option (AV×List Box):=
 (C2 P t).bind fun e=>(BU P e).bind fun n=>(EF P e).bind fun z=>(P.info? e).bind fun ie=>
  match l,c with
  | .p (.v (.int _ a)), .p (.v (.int _ b))=>if a=b∧0≤a∧a≤1000000000∧n=z.length∧ie.bytes≤140000∧z.all AV.leaf=true then some (.rs B.length 0 n 0 a.toNat,B++ [.cells true 0 (repeatL z a.toNat)]) else none
  | _,_=>none

def D7:AV→Option Int
 | .p (.v (.int _ n))=>some n
 | _=>none

def dR (op:BinOp) (x y:Int):Option Value:=
 match op with
 | .eql=>some (.bool (x == y))
 | .neq=>some (.bool (x != y))
 | .lss=>some (.bool (x<y))
 | .leq=>some (.bool (x≤y))
 | .gtr=>some (.bool (x>y))
 | .geq=>some (.bool (x≥y))
 | _=>none

def binInt (op:BinOp) (k:IntKind) (x y:Int):Option Value:=
 match op with
 | .add=>some (.int k (k.wrap (x+y)))
 | .sub=>some (.int k (k.wrap (x - y)))
 | .mul=>some (.int k (k.wrap (x*y)))
 | .quo=>if y=0 then none else some (.int k (k.wrap (x.tdiv y)))
 | .rem=>if y=0 then none else some (.int k (x.tmod y))
 | .and=>some (.int k (k.wrap (BitVec.ofInt k.bits x &&& BitVec.ofInt k.bits y).toNat))
 | .or=>some (.int k (k.wrap (BitVec.ofInt k.bits x ||| BitVec.ofInt k.bits y).toNat))
 | .xor=>some (.int k (k.wrap (BitVec.ofInt k.bits x ^^^ BitVec.ofInt k.bits y).toNat))
 | .andNot=>some (.int k (k.wrap (BitVec.ofInt k.bits x &&& ~~~(BitVec.ofInt k.bits y)).toNat))
 | _=>dR op x y

def VL (op:BinOp) (x y:ByteArray):Option Value:=
 match op with
 | .add=>if x.size+y.size≤140737488355328 then some (.string (x++y)) else none
 | .eql=>some (.bool (x.toList == y.toList))
 | .neq=>some (.bool !(x.toList == y.toList))
 | .lss=>some (.bool (Op.bytesLess x.toList y.toList))
 | .leq=>some (.bool (Op.bytesLess x.toList y.toList||x.toList == y.toList))
 | .gtr=>some (.bool !(Op.bytesLess x.toList y.toList||x.toList == y.toList))
 | .geq=>some (.bool !(Op.bytesLess x.toList y.toList))
 | _=>none

def L2 (op:BinOp) (k:IntKind) (x y:Int):Option Value:=
 if y<0 then none else
 match op with
 | .shl=>some (.int k (k.wrap (x*2 ^ (min y.toNat k.bits))))
 | .shr=>some (.int k (x.fdiv (2 ^ (min y.toNat k.bits))))
 | _=>none

def kr (op:BinOp) (k:IntKind) (a:Int) (k':IntKind) (b:Int):Option Value:=
 match op with
 | .shl=>L2 .shl k a b
 | .shr=>L2 .shr k a b
 | op=>if k=k' then binInt op k a b else none

inductive CK where
 | i | s | b
 deriving DecidableEq

def ku (P:Program) (t:TypeId):Option CK:=
 match P.underlying t with
 | some (.int _)=>some .i
 | some .string=>some .s
 | some .bool=>some .b
 | _=>none

def VM:CK→AV→AV→Option Bool
 | .i, .p (.v (.int j a)), .p (.v (.int k b))=>if j=k then some (a == b) else none
 | .s, .p (.v (.string a)), .p (.v (.string b))=>some (a.toList == b.toList)
 | .b, .p (.v (.bool a)), .p (.v (.bool b))=>some (a == b)
 | _,_,_=>none

def EL:List CK→List AV→List AV→Option Bool
 | [],[],[]=>some true
 | k::ks,x::xs,y::ys=>(VM k x y).bind fun b=>(EL ks xs ys).map fun c=>b&&c
 | _,_,_=>none

def Jd (P:Program):List Field→Nat→Option (List CK)
 | [],_=>some []
 | f :: fs, i => if f.offset == i && f.name != "_" && !M6 P f.type then (ku P f.type).bind fun k => (Jd P fs (i + 1)).map fun r => k :: r else none

def KA (P:Program) (t:TypeId):Option (List CK):=
 if P.eqGuardType P.depth t then none else
 match P.underlying t with
 | some (.struct fs)=>if P.stoodInHeld t then none else Jd P fs.toList 0
 | _=>none

def Ql:AV→Option Bool
 | .p (.v (.slice none _ _))=>some true
 | .p (.ls (_::_))=>some false
 | .rs _ _ _ _ len=>if Nat.blt 0 len then some false else none
 | _=>none

def Qm:AV→Option Bool
 | .p (.v (.pointer none))=>some true
 | .ptr .. | .op _ | .rp _=>some false
 | _=>none

def Io (P:Program) (op:BinOp) (t:TypeId) (x y:AV):Option AV:=
 match x,y with
 | .p (.v (.int k a)), .p (.v (.int k' b))=>
  (kr op k a k' b).map fun v=> .p (.v v)
 | .p (.v (.string a)), .p (.v (.string b))=>(VL op a b).map fun v=> .p (.v v)
 | .p (.v (.bool a)), .p (.v (.bool b))=>
  match op,P.underlying t with
  | .eql,some .bool=>some (.p (.v (.bool (a == b))))
  | .neq,some .bool=>some (.p (.v (.bool !(a == b))))
  | _,_=>none
 | .agg xs, .agg ys=>
  (KA P t).bind fun ks=>
   match op with
   | .eql=>(EL ks xs ys).map fun b=> .p (.v (.bool b))
   | .neq=>(EL ks xs ys).map fun b=> .p (.v (.bool !b))
   | _=>none
 | x, .p (.v (.slice none 0 0))=>(C2 P t).bind fun _=>(Ql x).bind fun q=>
  match op with
  | .eql=>some (.p (.v (.bool q)))
  | .neq=>some (.p (.v (.bool !q)))
  | _=>none
 | x, .p (.v (.pointer none))=>(Qm x).bind fun q=>
  match op,P.underlying t with
  | .eql,some (.pointer _)=>some (.p (.v (.bool q)))
  | .neq,some (.pointer _)=>some (.p (.v (.bool !q)))
  | _,_=>none
 | _,_=>none

def oY (op:UnOp) (x:AV):Option AV:=
 match op,x with
 | .not, .p (.v (.bool b))=>some (.p (.v (.bool !b)))
 | .neg, .p (.v (.int k n))=>some (.p (.v (.int k (k.wrap (0 - n)))))
 | .xor, .p (.v (.int k n))=>some (.p (.v (.int k (k.wrap (BitVec.ofInt k.bits (if k.signed then -1 else k.max) ^^^ BitVec.ofInt k.bits n).toNat))))
 | _,_=>none

def HP (P:Program) (t:TypeId) (j:Nat):Option (Nat×TypeId):=
 (JR P t).bind fun fs=>(fs[j]?).map fun f=>(f.offset,f.type)

def L3 (P:Program) (t:TypeId) (j:Nat) (x:AV):Option AV:=
 (HP P t j).bind fun (off,ft)=>(BU P ft).bind fun n=>if Nat.beq n 0 then none else
  match x with
  | .ptr b ver o=>some (.ptr b ver (o+off))
  | .rp cs=>if Nat.ble off cs.length then some (.rp (cs.drop off)) else none
  | _=>none

def Uf (P:Program) (t:TypeId) (cs:List AV) (off:Nat):Option AV:=
 if !aJ P t then none else
 if M6 P t then (BU P t).bind fun n=>if Nat.ble (off+n) cs.length then some (.agg ((cs.drop off).take n)) else none
 else cs[off]?

def VN (P:Program) (t:TypeId) (j:Nat) (x:AV):Option AV:=
 (HP P t j).bind fun (off,ft)=>
  match x with
  | .agg cs=>(BU P ft).bind fun _=>Uf P ft cs off
  | _=>none

def BE (P:Program) (t:TypeId) (x i:AV):Option AV:=
 (D7 i).bind fun n=>if n<0 then none else
  match P.underlying t with
  | some (.slice e)=>(BU P e).bind fun sz=>
   match x with
   | .p (.ls xs)=>if xs.all fun y=>y.cells.length == sz then (xs[n.toNat]?).map fun y=> .rp y.cells else none
   | .rs b ver sz' off len=>if n.toNat<len&&sz == sz' then some (.ptr b ver (off+n.toNat*sz)) else none
   | _=>none
  | some (.array len e)=>(BU P e).bind fun sz=>
   match x with
   | .ptr b ver o=>if n.toNat<len&& !Nat.beq sz 0 then some (.ptr b ver (o+n.toNat*sz)) else none
   | .rp cs=>if n.toNat<len&&Nat.ble (n.toNat*sz) cs.length&& !Nat.beq sz 0 then some (.rp (cs.drop (n.toNat*sz))) else none
   | _=>none
  | _=>none

def Qn (P:Program) (t:TypeId) (x i:AV):Option AV:=
 (D7 i).bind fun n=>if n<0 then none else
  match P.underlying t,x with
  | some (.array len e), .agg cs=>(BU P e).bind fun sz=>if n.toNat<len then Uf P e cs (n.toNat*sz) else none
  | some .string, .p (.v (.string s))=>(s[n.toNat]?).map fun b=> .p (.v (.int .u8 b.toNat))
  | _,_=>none

def D8 (most dflt:Nat):Option AV→Option Nat
 | none=>some dflt
 | some x=>(D7 x).bind fun n=>if 0≤n∧n≤(most:Int) then some n.toNat else none

def boundsA (len:Nat) (lo hi:Option AV):Option (Nat×Nat):=
 (D8 len len hi).bind fun h=>(D8 h 0 lo).bind fun l=>some (l,h)

def GA (P:Program) (t:TypeId) (B:List Box) (x:AV) (lo hi:Option AV):Option AV:=
 match P.underlying t,x with
 | some .string, .p (.v (.string s))=>(boundsA s.size lo hi).map fun (l,h)=> .p (.v (.string (s.extract l h)))
 | some (.slice e), .p (.ls xs)=>(BU P e).bind fun sz=>(boundsA xs.length lo hi).bind fun (l,h)=>
   if xs.all fun y=>y.cells.length == sz then some (.p (.ls ((xs.take h).drop l))) else none
 | some (.slice e), .rs b ver sz' off len=>(BU P e).bind fun sz=>(boundsA len lo hi).bind fun (l,h)=>
   if sz == sz' then some (.rs b ver sz (off+l*sz) (h - l)) else none
 | some (.slice e), .p (.v (.slice none 0 0))=>(BU P e).bind fun _=>(boundsA 0 lo hi).map fun _=> .p (.v (.slice none 0 0))
 | some (.array n e), .ptr b ver o=>(BU P e).bind fun sz=>(boundsA n lo hi).bind fun (l,h)=>
   match B[b]? with
   | some (.cells _ v cs)=>if Nat.beq ver v&&Nat.ble (o+n*sz) cs.length then some (.rs b ver sz (o+l*sz) (h - l)) else none
   | _=>none
 | _,_=>none

def Qo (B:List Box) (b ver sz h:Nat):Option (AV×List Box):=match B[b]? with
 | some (.cells true v cs)=>if ver=v∧h*sz≤cs.length then some (.rs b (v+1) sz 0 h,B.set b (.cells true (v+1) (cs.take (h*sz)))) else none
 | _=>none

def OQ (P:Program) (t:TypeId) (B:List Box) (x:AV) (lo hi:Option AV) (mx:AV) (fresh:Bool):Option (AV×List Box):=
 match P.underlying t with
 | some (.slice e)=>(BU P e).bind fun sz=>
  match x with
  | .p (.v (.slice none 0 0))=>(D7 mx).bind fun m=>(boundsA 0 lo hi).bind fun _=>if m=0∧hi.isSome=true then some (.p (.v (.slice none 0 0)),B) else none
  | .rs b ver sz' off len=>
   if fresh then
    match lo,hi,mx with
    | none,some (.p (.v (.int _ 0))), .p (.v (.int _ 0)) | some (.p (.v (.int _ 0))),some (.p (.v (.int _ 0))), .p (.v (.int _ 0))=>some (.rs B.length 0 sz 0 0,B++ [.cells true 0 []])
    | _,_,_=>none
   else (D7 mx).bind fun m=>if 0≤m∧m≤(len:Int) then (boundsA m.toNat lo hi).bind fun (l,h)=>if sz == sz'&&hi.isSome then (if lo.isNone&&off == 0 then Qo B b ver sz h else some (.rs b ver sz (off+l*sz) (h - l),B)) else none else none
  | .p (.ls _)=>
   if fresh then
    match lo,hi,mx with
    | none,some (.p (.v (.int _ 0))), .p (.v (.int _ 0)) | some (.p (.v (.int _ 0))),some (.p (.v (.int _ 0))), .p (.v (.int _ 0))=>some (.rs B.length 0 sz 0 0,B++ [.cells true 0 []])
    | _,_,_=>none
   else none
  | _=>none
 | _=>none

/-- A key that is at once found or not: a bool, a whole number, a string. -/
def HQ:TypeDesc→Value→Bool
 | .bool, .bool _=>true
 | .int k, .int k' _=>k'=k
 | .string, .string _=>true
 | _,_=>false

def F6 (d:TypeDesc) (k x:Value):Bool:=match Instr.sameNow d k x with
 | some true=>true
 | _=>false

structure MapA where
 b:Nat
 ks:List Value
 hid:List (Value×Value)
 cs:List AV
 kv:Value
 i:Option Nat
 j:Option Nat

def KB (P:Program) (t:TypeId) (B:List Box) (x k:AV):Option MapA:=
 match P.underlying t,x,k with
 | some (.map kt _), .mp b, .p (.v kv)=>
  match P.underlying kt,B[b]? with
  | some d,some (.obj cs Φ)=>match Φ.keys with
   | some (ks,hid)=>if HQ d kv&&ks.all (HQ d)&&hid.all fun h=>HQ d h.1 then some ⟨b,ks,hid,cs,kv,ks.findIdx? (F6 d kv),hid.findIdx? fun h=>F6 d kv h.1⟩ else none
   | none=>none
  | _,_=>none
 | _,_,_=>none

def Qp (P:Program) (t:TypeId):Option AV:=((P.info? t).bind (·.zero)).map kq

def JS (P:Program) (t:TypeId) (B:List Box) (x k:AV) (ok:Bool):Option AV:=
 (KB P t B x k).bind fun m=>match P.underlying t with
  | some (.map _ et)=>(match m.i,m.j with
   | some i,_=>m.cs[i]?
   | none,some j=>(m.hid[j]?).map fun (h:Value×Value)=>AV.p (.v h.2)
   | none,none=>Qp P et).map fun v=>if ok then .tup [v, .p (.v (.bool (m.i.isSome||m.j.isSome)))] else v
  | _=>none

def Fu (P:Program) (t:TypeId) (B:List Box) (x k v:AV):Option (List Box):=
 (KB P t B x k).map fun m=>match m.i,m.j with
  | some i,_=>B.set m.b (.obj (m.cs.set i v) (AQ m.ks m.hid))
  | none,some j=>B.set m.b (.obj (m.cs++ [v]) (AQ (m.ks++ [m.kv]) (m.hid.eraseIdx j)))
  | none,none=>B.set m.b (.obj (m.cs++ [v]) (AQ (m.ks++ [m.kv]) m.hid))

def OR (P:Program) (t:TypeId) (B:List Box) (x k:AV):Option (List Box):=
 (KB P t B x k).map fun m=>match m.i,m.j with
  | some i,_=>B.set m.b (.obj (m.cs.eraseIdx i) (AQ (m.ks.eraseIdx i) m.hid))
  | none,some j=>B.set m.b (.obj m.cs (AQ m.ks (m.hid.eraseIdx j)))
  | none,none=>B.set m.b (.obj m.cs (AQ m.ks m.hid))

def aK (P:Program) (t:TypeId) (x:AV):Option AV:=
 match P.underlying t,x with
 | some .string, .p (.v (.string s))=>some (.p (.v (.int .i64 s.size)))
 | some (.slice _), .p (.ls xs)=>some (.p (.v (.int .i64 xs.length)))
 | some (.slice _), .p (.v (.slice _ n _))=>some (.p (.v (.int .i64 n)))
 | some (.slice _), .rs _ _ _ _ len=>some (.p (.v (.int .i64 len)))
 | some (.array n _),_=>some (.p (.v (.int .i64 n)))
 | _,_=>none

def KC (b:UInt8):AV:= .p (.v (.int .u8 b.toNat))

def E1 (P:Program) (t:TypeId) (B:List Box) (sz:Nat) (x:AV):Option (Nat×List AV):=
 match P.underlying t,x with
 | some (.slice _), .p (.v (.slice none 0 0))=>some (0,[])
 | some (.slice _), .p (.ls xs)=>if xs.all fun y=>y.cells.length == sz then some (xs.length,(xs.flatMap PV.cells).map .p) else none
 | some (.slice _), .rs b ver sz' off len=>
  match B[b]? with
  | some (.cells _ v cs)=>if Nat.beq ver v&&sz == sz' then some (len,(cs.drop off).take (len*sz)) else none
  | _=>none
 | some .string, .p (.v (.string s))=>if sz == 1 then some (s.size,s.data.toList.map KC) else none
 | _,_=>none

def Gd (P:Program) (t tx:TypeId) (B:List Box) (s x:AV):Option (AV×List Box):=
 (C2 P t).bind fun e=>(BU P e).bind fun sz=>((P.info? e).map (·.bytes)).bind fun bytes=>
 if Nat.beq sz 0||Nat.beq bytes 0|| !((EF P e).map (·.length) == some sz)|| !((EF P e).map (·.all AV.leaf) == some true) then none else
 (E1 P tx B sz x).bind fun (n,new)=>
 if !(new.all AV.leaf)|| !Nat.beq new.length (n*sz) then none else
 match s with
 | .p (.v (.slice none 0 0))=>if Nat.ble (n*bytes) 140737488355328 then some (.rs B.length 0 sz 0 n,B++ [.cells true 0 new]) else none
 | .rs b ver sz' off len=>
  match B[b]? with
  | some (.cells true v cs)=>
   if Nat.beq ver v&&sz == sz'&&Nat.ble ((len+n)*bytes) 140737488355328 then
    some (.rs b (v+1) sz 0 (len+n),B.set b (.cells true (v+1) ((cs.drop off).take (len*sz)++new)))
   else none
  | _=>none
 | _=>none

def HR (isMin:Bool) (x y:AV):Option AV:=
 match x,y with
 | .p (.v (.int k a)), .p (.v (.int k' b))=>if k=k' then some (.p (.v (.int k (if isMin then (if b<a then b else a) else (if a<b then b else a))))) else none
 | .p (.v (.string a)), .p (.v (.string b))=>
  some (.p (.v (.string (if isMin then (if Op.bytesLess a.toList b.toList||a.toList == b.toList then a else b) else (if !(Op.bytesLess a.toList b.toList) then a else b)))))
 | _,_=>none

def Fv (isMin:Bool):AV→List AV→Option AV
 | x,[]=>some x
 | x,y::r=>(HR isMin x y).bind fun z=>Fv isMin z r

def C0:List AV→Option (List UInt8)
 | []=>some []
 | .p (.v (.int .u8 n))::r=>(C0 r).map fun bs=>UInt8.ofNat n.toNat::bs
 | _=>none

def E2 (P:Program) (src dst:TypeId) (B:List Box) (x:AV):Option (AV×List Box):=
 match P.underlying src,P.underlying dst,x with
 | some _,some (.int k), .p (.v (.int _ n))=>some (.p (.v (.int k (k.wrap n))),B)
 | some _,some .string, .p (.v (.string s))=>some (.p (.v (.string s)),B)
 | some .string,some (.slice e), .p (.v (.string s))=>
  match P.underlying e with
  | some (.int .u8)=>some (.rs B.length 0 1 0 s.size,B++ [.cells true 0 (s.data.toList.map KC)])
  | _=>none
 | some (.slice _),some (.slice e), .rs b ver sz off len=>
  match P.underlying e,B[b]? with
  | some (.int .u8),some (.cells _ v _)=>if Nat.beq src dst&&Nat.blt 0 len&&Nat.beq ver v then some (.rs b ver sz off len,B) else none
  | _,_=>none
 | some (.slice e),some .string,y=>
  match P.underlying e with
  | some (.int .u8)=>
   match y with
   | .p (.v (.slice none _ _))=>some (.p (.v (.string .empty)),B)
   | y=>(E1 P src B 1 y).bind fun (_,cs)=>(C0 cs).map fun bs=>(.p (.v (.string ⟨bs.toArray⟩)),B)
  | _=>none
 | _,_,_=>none

inductive FSpec where
 | none
 | pure (g:List AV→Option AV)
 | gen (g:List AV→List Box→Option (AV×List Box))

def FSpec.run:FSpec→List AV→List Box→Option (AV×List Box)
 | .none,_,_=>Option.none
 | .pure g,args,B=>(g args).map fun v=>(v,B)
 | .gen g,args,B=>g args B

abbrev BF:=Nat→FSpec

def M8 (P:Program) (t:TypeId) (B:List Box) (x:AV):Option (List Box):=
 (C2 P t).bind fun e=>(BU P e).bind fun sz=>(EF P e).bind fun z=>
  match x with
  | .rs b ver sz' off len=>
   match B[b]? with
   | some (.cells row v cs)=>if Nat.beq ver v&&sz == sz'&&Nat.beq z.length sz&&z.all AV.leaf&&Nat.ble (off+len*sz) cs.length then some (B.set b (.cells row v (Cf cs off (repeatL z len)))) else none
   | _=>none
  | _=>none

def E3 (P:Program) (b:Builtin) (argTypes:Array TypeId) (B:List Box) (args:List AV):Option (AV×List Box):=
 match b,args with
 | .len,[x]=>(argTypes[0]?).bind fun t=>(aK P t x).map fun v=>(v,B)
 | .append,[s,x]=>(argTypes[0]?).bind fun t=>(argTypes[1]?).bind fun tx=>Gd P t tx B s x
 | .min,x::rest=>(Fv true x rest).map fun v=>(v,B)
 | .max,x::rest=>(Fv false x rest).map fun v=>(v,B)
 | .clear,[x]=>(argTypes[0]?).bind fun t=>(M8 P t B x).map fun B'=>(.tup [],B')
 | .delete,[x,k]=>(argTypes[0]?).bind fun t=>(OR P t B x k).map fun B'=>(.tup [],B')
 | _,_=>none

def E4 (P:Program) (Γ:BF) (t:T) (B:List Box) (c:Call):Option (AV×List Box):=
 match c.callee with
 | .builtin b=>E3 P b c.argTypes B (c.args.toList.map (AR t))
 | .value f=>
  match AR t f with
  | .fn g cap=>(Γ g).run (c.args.toList.map (AR t)++cap) B
  | _=>none
 | .invoke _ _=>none

def L4:AV→Option Bool
 | .p (.v (.bool b))=>some b
 | _=>none

def CH (P:Program) (Γ:BF) (t:T) (B:List Box):Op→Option (AV×List Box)
 | .move x | .assign x=>some (AR t x,B)
 | .pick c a b=>(L4 (AR t c)).map fun q=>(if q then AR t a else AR t b,B)
 | .alloc e=>(EF P e).bind fun z=>if z.all AV.leaf then some (.ptr B.length 0 0,B++ [.cells false 0 z]) else none
 | .box _ x=>if (AR t x).cells.all AV.leaf then some (.ptr B.length 0 0,B++ [.cells false 0 (AR t x).cells]) else none
 | .build ty parts=>(VK P ty (parts.toList.map fun q=>(q.1,AR t q.2))).map fun v=>(v,B)
 | .buildSlice ty len parts=>Hp P ty len (parts.toList.map fun q=>(q.1,AR t q.2)) B
 | .makeSlice ty l c=>It P ty (AR t l) (AR t c) B
 | .load ty x=>(L0 P ty B (AR t x)).map fun v=>(v,B)
 | .store ty x y=>(M7 P ty B (AR t y) (AR t x)).map fun B'=>(.u,B')
 | .nilCheck x=>match AR t x with
  | .ptr b v o=>some (.ptr b v o,B)
  | .rp cs=>some (.rp cs,B)
  | .op b=>some (.op b,B)
  | _=>none
 | .binOp op ty x y _=>(Io P op ty (AR t x) (AR t y)).map fun v=>(v,B)
 | .unOp op _ x=>(oY op (AR t x)).map fun v=>(v,B)
 | .convert src dst x=>E2 P src dst B (AR t x)
 | .makeFunc (.func f) first captured=>if first.isEmpty then some (.fn f (captured.toList.map (AR t)),B) else none
 | .slice ty x lo hi none=>(GA P ty B (AR t x) (lo.map (AR t)) (hi.map (AR t))).map fun v=>(v,B)
 | .slice ty x lo hi (some mx)=>OQ P ty B (AR t x) (lo.map (AR t)) (hi.map (AR t)) (AR t mx) (match mx with | .const _=>true | _=>false)
 | .makeMap ty none=>(match P.underlying ty with
  | some (.map _ _)=>some (.mp B.length,B++ [.obj [] (AQ [] [])])
  | _=>none)
 | .lookup ty x k ok=>(JS P ty B (AR t x) (AR t k) ok).map fun v=>(v,B)
 | .mapUpdate ty x k v=>(Fu P ty B (AR t x) (AR t k) (AR t v)).map fun B'=>(.u,B')
 | .insert ty x k v=>(Fu P ty B (AR t x) (AR t k) (AR t v)).map fun B'=>(.u,B')
 | .fieldAddr ty x j=>(L3 P ty j (AR t x)).map fun v=>(v,B)
 | .field ty x j=>(VN P ty j (AR t x)).map fun v=>(v,B)
 | .indexAddr ty x i=>(BE P ty (AR t x) (AR t i)).map fun v=>(v,B)
 | .index ty x i=>(Qn P ty (AR t x) (AR t i)).map fun v=>(v,B)
 | .extract x i=>match AR t x with
  | .tup vs=>(vs[i]?).map fun v=>(v,B)
  | _=>none
 | .call c=>E4 P Γ t B c
 | _=>none

structure AS where
 t:T
 B:List Box

def Cl (ops:List Oper) (t:T) (o:Oper):Option Bool:=
 match o.guard with
 | none=>some true
 | some (j,want)=>
  match (ops[j]?).bind (·.dst) with
  | none=>none
  | some d=>
   match t d with
   | .p (.v (.bool b))=>some (b == want)
   | .p (.v (.tuple _))=>some false
   | _=>none

def EJ (n:Nat) (t:T) (d:Option Nat) (v:AV):Option T:=
 match d with
 | none=>some t
 | some i=>if Nat.blt i n then some (Ff t i v) else none

def Gu (P:Program) (Γ:BF) (n:Nat) (ops:List Oper) (o:Oper) (s:AS):Option AS:=
 (Cl ops s.t o).bind fun w=>
  if w then (CH P Γ s.t s.B o.op).bind fun (v,B')=>(EJ n s.t o.dst v).map fun t'=>⟨t',B'⟩
  else (EJ n s.t o.dst (.p (.v undef))).map fun t'=>⟨t',s.B⟩

def oZ (P:Program) (Γ:BF) (n:Nat) (ops:List Oper):List Oper→AS→Option AS
 | [],s=>some s
 | o::rest,s=>(Gu P Γ n ops o s).bind (oZ P Γ n ops rest)

inductive Cls where
 | p | ro | ri | rb | wi | wo
 deriving DecidableEq

def M9 (ops:List Oper):Nat→Nat→Bool
 | 0,_=>false
 | fuel+1,d=>ops.any fun o=>(match o.dst with | some e=>Nat.beq e d | none=>false) &&
  match o.op with
  | .alloc _ | .box .. | .buildSlice .. => true
  | .fieldAddr _ (.tmp x) _ | .indexAddr _ (.tmp x) _ | .move (.tmp x) | .assign (.tmp x) | .slice _ (.tmp x) _ _ _=>M9 ops fuel x
  | .call c=>
   match c.callee,c.args.toList with
   | .builtin .append, .const _::_=>true
   | .builtin .append, .tmp x::_=>M9 ops fuel x
   | _,_=>false
  | _=>false

def VO (ops:List Oper):Operand→Bool
 | .tmp d=>M9 ops 8 d
 | _=>false

def FG:FSpec→Bool
 | .pure _=>true
 | _=>false

def clsOf (P:Program) (Γ:BF) (ops:List Oper) (o:Op):Cls:=
 match o with
 | .load _ x=>if VO ops x then .ri else .ro
 | .store _ x _=>if VO ops x then .wi else .wo
 | .alloc _ | .box .. | .buildSlice .. => .wi
 | .convert src dst _=>
  match P.underlying src,P.underlying dst with
  | some (.slice _),_=> .rb
  | _,some (.slice _)=> .wi
  | _,_=> .p
 | .makeMap .. | .makeSlice .. | .lookup .. | .mapUpdate .. | .insert .. => .wo
 | .slice t _ _ _ mx=>
  match P.underlying t,mx with
  | _,some _=> .wo
  | some (.array _ _),_=> .rb
  | _,_=> .p
 | .call c=>
  match c.callee,c.args.toList with
  | .builtin .append, .const _::_=> .wi
  | .builtin .append,x::_=>if VO ops x then .wi else .wo
  | .builtin .len,_ | .builtin .min,_ | .builtin .max,_=> .p
  | .value (.func f),_=>if FG (Γ f) then .p else .wo
  | _,_=> .wo
 | _=> .p

def Fb (c:Cls) (n0:Nat) (t:T) (o:Op):Bool:=
 match c,o with
 | .ro, .load _ x=>match AR t x with
  | .ptr b _ _=>Nat.blt b n0
  | .rp _=>true
  | _=>false
 | .ri, .load _ x=>match AR t x with
  | .ptr b _ _=>Nat.ble n0 b
  | _=>false
 | .wi, .store _ x _=>match AR t x with
  | .ptr b _ _=>Nat.ble n0 b
  | _=>false
 | .wi, .call c=>match (c.args.toList.map (AR t)).head? with
  | some (.rs b _ _ _ _)=>Nat.ble n0 b
  | some (.p (.v _))=>true
  | _=>false
 | _,_=>true

def Cls.clash:Cls→Cls→Bool
 | .p,_ | _, .p=>false
 | .wo,_ | _, .wo=>true
 | .wi, .wi | .wi, .ri | .ri, .wi | .wi, .rb | .rb, .wi=>true
 | _,_=>false

def C3 (P:Program) (Γ:BF) (n n0:Nat) (ops:List Oper) (o:Oper) (s:AS):Option AS:=
 (Cl ops s.t o).bind fun w=>
  if w then if Fb (clsOf P Γ ops o.op) n0 s.t o.op&&(clsOf P Γ ops o.op != .wi||Nat.ble n0 s.B.length) then (CH P Γ s.t s.B o.op).bind fun (v,B')=>(EJ n s.t o.dst v).map fun t'=>⟨t',B'⟩ else none
  else (EJ n s.t o.dst (.p (.v undef))).map fun t'=>⟨t',s.B⟩

def NA (P:Program) (Γ:BF) (n n0:Nat) (ops:List Oper):List Oper→AS→Option AS
 | [],s=>some s
 | o::rest,s=>(C3 P Γ n n0 ops o s).bind (NA P Γ n n0 ops rest)

def Iu (ops:List Oper):Nat→Nat→Nat→Bool
 | 0,_,_=>false
 | fuel+1,j,i=>
  match ops[j]? with
  | none=>false
  | some o=>o.after.toList.any fun e=>Region.binds .any e&&(Nat.beq e.on i||Iu ops fuel e.on i)

def OS (P:Program) (Γ:BF) (ops:List Oper) (i:Nat) (oi:Oper):Nat→List Oper→Bool
 | _,[]=>true
 | j,oj::rest=>(Iu ops 24 j i||(oi.apart ops.toArray oj&& !(clsOf P Γ ops oi.op).clash (clsOf P Γ ops oj.op)))&&OS P Γ ops i oi (j+1) rest

def L5 (P:Program) (Γ:BF) (ops:List Oper):Nat→List Oper→Bool
 | _,[]=>true
 | i,oi::rest=>(oi.after.toList.all fun e=> !Region.binds .any e||Nat.blt e.on i)&&OS P Γ ops i oi (i+1) rest&&L5 P Γ ops (i+1) rest

def LJ (P:Program) (Γ:BF) (ops:List Oper):Bool:=Region.noSelect ops.toArray&&L5 P Γ ops 0 ops

inductive AE where
 | normal
 | exit (id:Nat)
 | ret

def AE.to:AE→Exit
 | .normal=> .normal
 | .exit id=> .exit id
 | .ret=> .ret

inductive Loops {S R:Type} (body:S→Option (S ⊕ R)):Nat→S→R→Prop
 | done {s r}:body s=some (.inr r)→Loops body 0 s r
 | step {n s s' r}:body s=some (.inl s')→Loops body n s' r→Loops body (n+1) s r

open Classical in
noncomputable def tG {S R:Type} (body:S→Option (S ⊕ R)) (s:S):Option R:=
 if h:∃ r n,Loops body n s r then some (Classical.choose h) else none

def lm:Option (AE×AS)→Option (AS ⊕ (AE×AS))
 | none=>none
 | some (.normal,s)=>some (.inl s)
 | some (e,s)=>some (.inr (e,s))

noncomputable def L6 (P:Program) (Γ:BF) (n:Nat):Code→AS→Option (AE×AS)
 | .skip,s=>some (.normal,s)
 | .region _ ops draw,s=>
  if draw then (if LJ P Γ ops.toList then (NA P Γ n s.B.length ops.toList ops.toList s).map fun s'=>(.normal,s') else none)
  else (oZ P Γ n ops.toList ops.toList s).map fun s'=>(.normal,s')
 | .seq a b,s=>
  (L6 P Γ n a s).bind fun r=>
   match r with
   | (.normal,s')=>L6 P Γ n b s'
   | r=>some r
 | .cond c x y,s=>(L4 (AR s.t c)).bind fun q=>if q then L6 P Γ n x s else L6 P Γ n y s
 | .block id b,s=>
  (L6 P Γ n b s).map fun r=>
   match r with
   | (.exit i,s')=>if Nat.beq i id then (.normal,s') else (.exit i,s')
   | r=>r
 | .loop b,s=>tG (fun s=>lm (L6 P Γ n b s)) s
 | .exit id,s=>some (.exit id,s)
 | .ret,s=>some (.ret,s)
 | _,_=>none

end Go.Ax
namespace Go.Ax
open Go.RowKit

abbrev Aj:=Nat→Option (Nat×Nat)

variable [Glob] {F : Nat → Prop}

def Box.has:Box→Nat×Nat→Nat→Prop
 | .dead,_,_=>False
 | .cells ..,l,k=>k=l.1
 | .obj ..,l,k=>l.2.testBit k=true

def Own (F:Nat→Prop) (B:List Box) (ρ:Aj) (k:Nat):Prop:=F k∨∃ b x l,B[b]? = some x∧ρ b=some l∧x.has l k

theorem Own.cells {B:List Box} {ρ:Aj} {b:Nat} {row:Bool} {v:Nat} {cs:List AV} {k o:Nat} (hb:B[b]? = some (.cells row v cs)) (hr:ρ b=some (k,o)):Own F B ρ k:= .inr ⟨b,_,_,hb,hr,rfl⟩

inductive PRel (O:Nat→Prop) (w:World):PV→Value→Prop
 | v (x:Value):PRel O w (.v x) x
 | nil (a:Option Addr) (cap:Nat):(a.isSome∨cap=0)→PRel O w (.ls []) (.slice a 0 cap)
 | ls (xs:List PV) (a:Addr) (cap:Nat) (us:List Value):a.spot=none→¬O a.block→a.block<w.heap.size→xs.length≤cap →
   (xs.flatMap PV.cells).length=us.length→(∀ (j:Nat) (u:Value),us[j]? = some u→w.cell? (a.add j)=some u) →
   (∀ (j:Nat) (p:PV) (u:Value),(xs.flatMap PV.cells)[j]? = some p→us[j]? = some u→PRel O w p u)→PRel O w (.ls xs) (.slice (some a) xs.length cap)
 | agg (cs:List PV) (us:List Value):cs.length=us.length→(∀ (j:Nat) (p:PV) (u:Value),cs[j]? = some p→us[j]? = some u→PRel O w p u)→PRel O w (.agg cs) (.agg us.toArray)

theorem PRel.mono {O O':Nat→Prop} {w w':World} (hk:∀ k,k<w.heap.size→¬O k→w'.heap[k]? = w.heap[k]? ∧ ¬O' k) (hs:w.heap.size≤w'.heap.size) {p:PV} {u:Value}
  (h:PRel O w p u):PRel O' w' p u:=by
 induction h with
 | v x=>exact .v x
 | nil a cap h=>exact .nil a cap h
 | ls xs a cap us h1 h2 h3 h4 h5 h6 _ ih=>
  refine .ls xs a cap us h1 (hk _ h3 h2).2 (by omega) h4 h5 (fun j u hj=>?_) ih
  have hb:(a.add j).block=a.block:=by unfold Addr.add; split <;> rfl
  have:=h6 j u hj
  rw[World.cell?_of_block (w:=w) (by rw[hb]; exact (hk _ h3 h2).1)]
  exact this
 | agg cs us h1 _ ih=>exact .agg cs us h1 ih

def PtrOk (B:List Box) (ρ:Aj) (b ver o:Nat) (a:Addr):Prop:=
 b<B.length∧∀ (row:Bool) (v:Nat) (cs:List AV),B[b]? = some (.cells row v cs)→ver≤v∧(ver=v→∃ k o',ρ b=some (k,o')∧a=⟨k,o'+o,none⟩)

def MpOk (B:List Box) (ρ:Aj) (b r:Nat):Prop:=b<B.length∧∀ (cs:List AV) (Φ:ObjP),B[b]? = some (.obj cs Φ)→∃ o,ρ b=some (r,o)

def RsOk (B:List Box) (ρ:Aj) (w:World) (b ver sz off len:Nat) (a:Option Addr) (cap:Nat):Prop:=
 b<B.length∧len≤cap∧(0<cap→a.isSome)∧∀ (row:Bool) (v:Nat) (cs:List AV),B[b]? = some (.cells row v cs)→ver≤v∧(ver=v→off+len*sz≤cs.length ∧
  (cap=0∨∃ k o',ρ b=some (k,o')∧a=some ⟨k,o'+off,none⟩∧∃ e n,w.shape? k=some (e,n)∧o'+off+cap*sz≤n))

inductive VRel (F:Nat→Prop) (B:List Box) (ρ:Aj) (w:World):AV→Value→Prop
 | u (x:Value):VRel F B ρ w .u x
 | mp (b r:Nat):MpOk B ρ b r→VRel F B ρ w (.mp b) (.map (some r))
 | op (b r:Nat):MpOk B ρ b r→VRel F B ρ w (.op b) (.pointer (some ⟨r,0,none⟩))
 | p (x:PV) (y:Value):PRel (Own F B ρ) w x y→VRel F B ρ w (.p x) y
 | ptr (b ver o:Nat) (a:Addr):PtrOk B ρ b ver o a→VRel F B ρ w (.ptr b ver o) (.pointer (some a))
 | rs (b ver sz off len:Nat) (a:Option Addr) (cap:Nat):RsOk B ρ w b ver sz off len a cap→VRel F B ρ w (.rs b ver sz off len) (.slice a len cap)
 | rp (cs:List PV) (a:Addr) (us:List Value):a.spot=none→¬Own F B ρ a.block→a.block<w.heap.size→cs.length=us.length →
   (∀ (j:Nat) (u:Value),us[j]? = some u→w.cell? (a.add j)=some u)→(∀ (j:Nat) (p:PV) (u:Value),cs[j]? = some p→us[j]? = some u→PRel (Own F B ρ) w p u)→VRel F B ρ w (.rp cs) (.pointer (some a))
 | agg (cs:List AV) (us:List Value):cs.length=us.length→(∀ (j:Nat) (p:AV) (u:Value),cs[j]? = some p→us[j]? = some u→VRel F B ρ w p u)→VRel F B ρ w (.agg cs) (.agg us.toArray)
 | fn (f:Nat) (cs:List AV) (us:List Value):cs.length=us.length→(∀ (j:Nat) (p:AV) (u:Value),cs[j]? = some p→us[j]? = some u→VRel F B ρ w p u)→VRel F B ρ w (.fn f cs) (.func (.func f) #[] us.toArray)
 | tup (cs:List AV) (us:List Value):cs.length=us.length→(∀ (j:Nat) (p:AV) (u:Value),cs[j]? = some p→us[j]? = some u→VRel F B ρ w p u)→VRel F B ρ w (.tup cs) (.tuple us.toArray)

structure Ext (F:Nat→Prop) (B:List Box) (ρ:Aj) (w:World) (B':List Box) (ρ':Aj) (w':World):Prop where
 size:w.heap.size≤w'.heap.size
 os:w'.os=w.os
 tape:w'.tape=w.tape
 output:w'.output=w.output
 keep:∀ k,k<w.heap.size→¬Own F B ρ k→w'.heap[k]? = w.heap[k]? ∧ ¬Own F B' ρ' k
 shape:∀ k e n,w.shape? k=some (e,n)→w'.shape? k=some (e,n)
 len:B.length≤B'.length
 box:∀ (b:Nat) (row:Bool) (v:Nat) (cs:List AV),b<B.length→B'[b]? = some (.cells row v cs)→∃ v0 cs0,B[b]? = some (.cells row v0 cs0)∧v0≤v∧(v0=v→ρ' b=ρ b∧cs.length=cs0.length)
 obj:∀ (b:Nat) (cs:List AV) (Φ:ObjP),b<B.length→B'[b]? = some (.obj cs Φ)→∃ cs0 Φ0,B[b]? = some (.obj cs0 Φ0)∧(ρ' b).map Prod.fst=(ρ b).map Prod.fst
 far:∀ k,F k→k<w.heap.size→w'.heap[k]? = w.heap[k]?

theorem Ext.refl (B:List Box) (ρ:Aj) (w:World):Ext F B ρ w B ρ w:=
 ⟨Nat.le_refl _,rfl,rfl,rfl,fun _ _ h=>⟨rfl,h⟩,fun _ _ _ h=>h,Nat.le_refl _,fun _ _ v cs _ h=>⟨v,cs,h,Nat.le_refl _,fun _=>⟨rfl,rfl⟩⟩,fun _ cs Φ _ h=>⟨cs,Φ,h,rfl⟩,fun _ _ _=>rfl⟩

theorem Ext.trans {B B1 B2:List Box} {ρ ρ1 ρ2:Aj} {w w1 w2:World} (h:Ext F B ρ w B1 ρ1 w1) (g:Ext F B1 ρ1 w1 B2 ρ2 w2):Ext F B ρ w B2 ρ2 w2:=by
 refine ⟨Nat.le_trans h.size g.size,g.os.trans h.os,g.tape.trans h.tape,g.output.trans h.output,fun k hk ho=>?_,fun k e n hs=>g.shape k e n (h.shape k e n hs),Nat.le_trans h.len g.len,fun b row v cs hb hc=>?_,fun b cs Φ hb hc=>?_,fun k hF hk=>(g.far k hF (Nat.lt_of_lt_of_le hk h.size)).trans (h.far k hF hk)⟩
 ·have h1:=h.keep k hk ho
  have h2:=g.keep k (Nat.lt_of_lt_of_le hk h.size) h1.2
  exact ⟨h2.1.trans h1.1,h2.2⟩
 ·obtain ⟨v1,cs1,e1,l1,q1⟩:=g.box b row v cs (Nat.lt_of_lt_of_le hb h.len) hc
  obtain ⟨v0,cs0,e0,l0,q0⟩:=h.box b row v1 cs1 hb e1
  refine ⟨v0,cs0,e0,Nat.le_trans l0 l1,fun e=>?_⟩
  obtain ⟨a1,b1⟩:=q1 (by omega)
  obtain ⟨a0,b0⟩:=q0 (by omega)
  exact ⟨a1.trans a0,b1.trans b0⟩
 ·obtain ⟨cs1,Φ1,e1,r1⟩:=g.obj b cs Φ (Nat.lt_of_lt_of_le hb h.len) hc
  obtain ⟨cs0,Φ0,e0,r0⟩:=h.obj b cs1 Φ1 hb e1
  exact ⟨cs0,Φ0,e0,r1.trans r0⟩

theorem PtrOk.ext {B B':List Box} {ρ ρ':Aj} {w w':World} (h:Ext F B ρ w B' ρ' w') {b ver o:Nat} {a:Addr} (k:PtrOk B ρ b ver o a):PtrOk B' ρ' b ver o a:=by
 refine ⟨Nat.lt_of_lt_of_le k.1 h.len,fun row v cs hc=>?_⟩
 obtain ⟨v0,cs0,e0,l0,q0⟩:=h.box b row v cs k.1 hc
 obtain ⟨l1,q1⟩:=k.2 row v0 cs0 e0
 refine ⟨Nat.le_trans l1 l0,fun e=>?_⟩
 obtain ⟨k',o',hr,ha⟩:=q1 (by omega)
 exact ⟨k',o',(q0 (by omega)).1.trans hr,ha⟩

theorem MpOk.ext {B B':List Box} {ρ ρ':Aj} {w w':World} (h:Ext F B ρ w B' ρ' w') {b r:Nat} (k:MpOk B ρ b r):MpOk B' ρ' b r:=by
 refine ⟨Nat.lt_of_lt_of_le k.1 h.len,fun cs Φ hc=>?_⟩
 obtain ⟨cs0,Φ0,e0,r0⟩:=h.obj b cs Φ k.1 hc
 obtain ⟨o',hr⟩:=k.2 cs0 Φ0 e0
 rw[hr] at r0
 obtain ⟨⟨k2,o2⟩,hr2,e2⟩:=Option.map_eq_some_iff.1 r0
 cases e2
 exact ⟨o2,hr2⟩

theorem RsOk.ext {B B':List Box} {ρ ρ':Aj} {w w':World} (h:Ext F B ρ w B' ρ' w') {b ver sz off len cap:Nat} {a:Option Addr} (k:RsOk B ρ w b ver sz off len a cap):RsOk B' ρ' w' b ver sz off len a cap:=by
 refine ⟨Nat.lt_of_lt_of_le k.1 h.len,k.2.1,k.2.2.1,fun row v cs hc=>?_⟩
 obtain ⟨v0,cs0,e0,l0,q0⟩:=h.box b row v cs k.1 hc
 obtain ⟨l1,q1⟩:=k.2.2.2 row v0 cs0 e0
 refine ⟨Nat.le_trans l1 l0,fun e=>?_⟩
 obtain ⟨m1,m2⟩:=q1 (by omega)
 obtain ⟨n1,n2⟩:=q0 (by omega)
 refine ⟨by omega,m2.imp id ?_⟩
 rintro ⟨k',o',hr,ha,e',n,hsh,hle⟩
 exact ⟨k',o',n1.trans hr,ha,e',n,h.shape _ _ _ hsh,hle⟩

theorem Ext.prel {B B':List Box} {ρ ρ':Aj} {w w':World} (h:Ext F B ρ w B' ρ' w') {p:PV} {u:Value} (k:PRel (Own F B ρ) w p u):PRel (Own F B' ρ') w' p u:=k.mono h.keep h.size

theorem VRel.ext {B B':List Box} {ρ ρ':Aj} {w w':World} (h:Ext F B ρ w B' ρ' w') {x:AV} {u:Value} (k:VRel F B ρ w x u):VRel F B' ρ' w' x u:=by
 induction k with
 | u x=>exact .u x
 | p x y hp=>exact .p x y (h.prel hp)
 | mp b r hp=>exact .mp b r (hp.ext h)
 | op b r hp=>exact .op b r (hp.ext h)
 | ptr b ver o a hp=>exact .ptr b ver o a (hp.ext h)
 | rs b ver sz off len a cap hp=>exact .rs b ver sz off len a cap (hp.ext h)
 | rp cs a us h1 h2 h3 h4 h5 h6=>
  refine .rp cs a us h1 (h.keep _ h3 h2).2 (Nat.lt_of_lt_of_le h3 h.size) h4 (fun j u hj=>?_) (fun j p u hp hu=>h.prel (h6 j p u hp hu))
  have hb:(a.add j).block=a.block:=by unfold Addr.add; split <;> rfl
  rw[World.cell?_of_block (w:=w) (by rw[hb]; exact (h.keep _ h3 h2).1)]
  exact h5 j u hj
 | agg cs us h1 _ ih=>exact .agg cs us h1 ih
 | fn f cs us h1 _ ih=>exact .fn f cs us h1 ih
 | tup cs us h1 _ ih=>exact .tup cs us h1 ih

structure GRel (F:Nat→Prop) (B:List Box) (ρ:Aj) (w:World) (g:Nat):Prop where
 v:VRel F B ρ w (.rp (Glob.tab g)) (.pointer (some ⟨g,0,none⟩))
 sz:∃ us e fr,w.heap[g]? = some (.cells us e fr)∧us.size=(Glob.tab g).length

theorem GRel.ext {B B':List Box} {ρ ρ':Aj} {w w':World} (h:Ext F B ρ w B' ρ' w') {g:Nat} (k:GRel F B ρ w g):GRel F B' ρ' w' g:=by
 refine ⟨k.v.ext h,?_⟩
 obtain ⟨us,e,fr,h1,h2⟩:=k.sz
 refine ⟨us,e,fr,?_,h2⟩
 have hv:=k.v
 generalize hx:Glob.tab g=cs at hv
 cases hv with
 | rp _ a us' q1 q2 q3 q4 q5 q6=>exact (h.keep g q3 q2).1.trans h1

def Fz (us:Array Value) (fr:Nat×Nat):Prop:=fr.1≤fr.2∧∀ i,i<us.size→¬(fr.1≤i∧i<fr.2)

theorem Fz.no {us:Array Value} {fr:Nat×Nat} (hz:Fz us fr) {w:World} {k:Nat} {e:TypeId} (h:w.heap[k]? = some (.cells us e fr)) (i:Nat) (hi:i<us.size):w.frozen? ⟨k,i,none⟩=false:=by
 have:=hz.2 i hi
 obtain ⟨lo,hi'⟩:=fr
 simp only[World.frozen?,h]
 simpa using this

theorem Fz.size {us us':Array Value} {fr:Nat×Nat} (hz:Fz us fr) (h:us'.size=us.size):Fz us' fr:=⟨hz.1,fun i hi=>hz.2 i (by omega)⟩
theorem Fz.zero (us:Array Value):Fz us (0,0):=⟨Nat.le_refl _,fun i _ h=>by simp at h⟩

structure Inv (F:Nat→Prop) (B:List Box) (ρ:Aj) (w:World):Prop where
 box:∀ (b:Nat) (row:Bool) (v:Nat) (cs:List AV),B[b]? = some (.cells row v cs)→(ρ b=none∧row=true∧cs= []) ∨
  ∃ k o us e fr,ρ b=some (k,o)∧w.heap[k]? = some (.cells us e fr)∧o+cs.length≤us.size∧Fz us fr ∧
   ∀ (i:Nat) (c:AV),cs[i]? = some c→∃ u,us[o+i]? = some u∧VRel F B ρ w c u
 leaf:∀ (b:Nat) (row:Bool) (v:Nat) (cs:List AV),B[b]? = some (.cells row v cs)→cs.all AV.leaf=true
 obox:∀ (b:Nat) (cs:List AV) (Φ:ObjP),B[b]? = some (.obj cs Φ)→∃ k o us,ρ b=some (k,o)∧Φ.holds us (fun j=>o.testBit j=true) k w∧cs.length=us.length∧∀ (i:Nat) (c:AV) (u:Value),cs[i]? = some c→us[i]? = some u→VRel F B ρ w c u
 injx:∀ (b b':Nat) (x x':Box) (l l':Nat×Nat) (k:Nat),B[b]? = some x→B[b']? = some x'→ρ b=some l→ρ b'=some l'→x.has l k→x'.has l' k→b=b'
 bound:∀ k,F k→k<w.heap.size
 farx:∀ (b:Nat) (x:Box) (l:Nat×Nat) (k:Nat),B[b]? = some x→ρ b=some l→x.has l k→¬F k
 glob:∀ g,Glob.tab g≠ []→GRel F B ρ w g
 off0:∀ (b:Nat) (v:Nat) (cs:List AV) (k o:Nat),B[b]? = some (.cells false v cs)→ρ b=some (k,o)→o=0

theorem Inv.farb {B:List Box} {ρ:Aj} {w:World} (h:Inv F B ρ w) (b:Nat) (row:Bool) (v:Nat) (cs:List AV) (k o:Nat) (h1:B[b]? = some (.cells row v cs)) (h2:ρ b=some (k,o)):¬F k:=h.farx b _ _ k h1 h2 rfl

theorem Inv.haslt {B:List Box} {ρ:Aj} {w:World} (h:Inv F B ρ w) {b:Nat} {x:Box} {l:Nat×Nat} {k:Nat} (h1:B[b]? = some x) (h2:ρ b=some l) (h3:x.has l k):k<w.heap.size:=by
 cases x with
 | dead=>exact h3.elim
 | cells row v cs=>
  obtain ⟨k',o'⟩:=l
  cases (h3:k=k')
  rcases h.box b row v cs h1 with ⟨h0,_⟩ | ⟨k2,o2,us,e,fr,g1,g2,_⟩
  ·rw[h2] at h0; cases h0
  ·rw[h2] at g1; cases g1; exact (Array.getElem?_eq_some_iff.1 g2).1
 | obj cs Φ=>
  obtain ⟨k',o',us,g1,g2,_⟩:=h.obox b cs Φ h1
  rw[h2] at g1; cases g1
  exact Φ.low _ _ _ _ k g2 h3

theorem VP {O:Nat→Prop} {w:World} {p:PV} {u:Value} (h:PRel O w p u) (hl:p.leaf=true):Qk u=true:=by
 cases h with
 | v x=>exact hl
 | nil=>rfl
 | ls=>rfl
 | agg=>cases hl

theorem Gv {B:List Box} {ρ:Aj} {w:World} {x:AV} {u:Value} (h:VRel F B ρ w x u) (hl:x.leaf=true):Qk u=true:=by
 cases h with
 | u=>cases hl
 | p x y hp=>exact VP hp hl
 | ptr=>rfl
 | rs=>rfl
 | rp=>rfl
 | agg=>cases hl
 | fn=>rfl
 | mp=>rfl
 | op=>rfl
 | tup=>cases hl

theorem UP {u:Value} (h:Qk u=true):u.cells = #[u]:=by
 cases u <;> first | rfl | cases h

theorem VRel.cells {B:List Box} {ρ:Aj} {w:World} {x:AV} {u:Value} (h:VRel F B ρ w x u) (hl:x.cells.all AV.leaf=true):
  x.cells.length=u.cells.size∧∀ (j:Nat) (p:AV) (v:Value),x.cells[j]? = some p→u.cells[j]? = some v→VRel F B ρ w p v:=by
 have single:∀ (y:AV),y.cells= [y]→VRel F B ρ w y u→y.leaf=true→y.cells.length=u.cells.size∧∀ (j:Nat) (p:AV) (v:Value),y.cells[j]? = some p→u.cells[j]? = some v→VRel F B ρ w p v:=by
  intro y hy hr hly
  rw[hy,UP (Gv hr hly)]
  refine ⟨rfl,fun j p v hp hv=>?_⟩
  cases j with
  | zero=>simp at hp hv; subst hp; subst hv; exact hr
  | succ j=>simp at hp
 cases h with
 | u=>simp[AV.cells,AV.leaf] at hl
 | p x y hp=>
  cases x with
  | agg cs=>
   cases hp with
   | agg _ us h1 h2=>
    refine ⟨by simpa [AV.cells,Value.cells] using h1,fun j p v hp hv=>?_⟩
    simp only[AV.cells,List.getElem?_map] at hp
    simp only[Value.cells,List.getElem?_toArray] at hv
    cases hc:cs[j]? with
    | none=>rw[hc] at hp; cases hp
    | some c=>rw[hc] at hp; cases hp; exact .p _ _ (h2 j c v hc hv)
  | v z=>exact single (.p (.v z)) rfl (.p _ _ hp) (by simpa [AV.cells] using hl)
  | ls xs=>exact single (.p (.ls xs)) rfl (.p _ _ hp) rfl
 | mp b r hp=>exact single (.mp b) rfl (.mp _ _ hp) rfl
 | op b r hp=>exact single (.op b) rfl (.op _ _ hp) rfl
 | ptr b ver o a hp=>exact single (.ptr b ver o) rfl (.ptr _ _ _ _ hp) rfl
 | rs b ver sz off len a cap hp=>exact single (.rs b ver sz off len) rfl (.rs _ _ _ _ _ _ _ hp) rfl
 | rp cs a us h1 h2 h3 h4 h5 h6=>exact single (.rp cs) rfl (.rp _ _ _ h1 h2 h3 h4 h5 h6) rfl
 | agg cs us h1 h2=>
  refine ⟨by simpa [AV.cells,Value.cells] using h1,fun j p v hp hv=>?_⟩
  simp only[Value.cells,List.getElem?_toArray] at hv
  exact h2 j p v hp hv
 | fn f cs us h1 h2=>exact single (.fn f cs) rfl (.fn _ _ _ h1 h2) rfl
 | tup cs us h1 h2=>simp[AV.cells,AV.leaf] at hl

theorem P7 (B:List Box) (ρ:Aj) (w:World) (x:Value):VRel F B ρ w (kq x) x:=by
 have plain:∀ y,VRel F B ρ w (.p (.v y)) y:=fun y=> .p _ _ (.v y)
 cases x <;> try exact plain _
 rename_i cs
 have:Value.agg cs= .agg cs.toList.toArray:=by simp
 rw[this]
 refine .agg _ _ (by simp) (fun j p u hp hu=>?_)
 simp only[List.getElem?_map] at hp
 rw[List.toList_toArray] at hp
 rw[hu] at hp
 cases hp
 exact plain u

structure Rel (F:Nat→Prop) (B:List Box) (ρ:Aj) (w:World) (n:Nat) (t:T) (a:Act):Prop where
 inv:Inv F B ρ w
 tm:∀ i,VRel F B ρ w (t i) (a.tmps.getD i undef)
 df:a.defers= []
 size:a.tmps.size=n

theorem Rel.eval {B:List Box} {ρ:Aj} {w:World} {n:Nat} {t:T} {a:Act} (h:Rel F B ρ w n t a) (x:Operand):VRel F B ρ w (AR t x) (a.eval x):=by
 cases x with
 | tmp i=>exact h.tm i
 | const v=>exact P7 B ρ w v
 | global g=>
  show VRel F B ρ w (match Glob.tab g with | []=> .u | cs=> .rp cs) (.pointer (some ⟨g,0,none⟩))
  have hg:=h.inv.glob g
  cases hc:Glob.tab g with
  | nil=>exact .u _
  | cons c cs=>
   have:=(hg (by rw[hc]; simp)).v
   rw[hc] at this
   exact this
 | func f=>exact .fn f [] [] rfl (fun j p u hp=>by simp at hp)

theorem Rel.put {B B':List Box} {ρ ρ':Aj} {w w':World} {n:Nat} {t t':T} {a:Act} {d:Option Nat} {v:AV} {x:Value} (h:Rel F B ρ w n t a) (he:Ext F B ρ w B' ρ' w') (hi:Inv F B' ρ' w') (hv:VRel F B' ρ' w' v x)
  (hp:EJ n t d v=some t'):Rel F B' ρ' w' n t' (a.put d x):=by
 cases d with
 | none=>cases hp; exact ⟨hi,fun i=>(h.tm i).ext he,h.df,h.size⟩
 | some d=>
  simp only[EJ] at hp
  split at hp
  ·rename_i hlt
   cases hp
   have hd:d<a.tmps.size:=by rw[h.size]; simpa [Nat.blt_eq] using hlt
   refine ⟨hi,fun i=>?_,h.df,by simp[Act.put,h.size]⟩
   by_cases e:i=d
   ·subst e
    simpa [Act.put,hd] using hv
   ·rw[FF _ _ _ _ e]
    have:(a.put (some d) x).tmps.getD i undef=a.tmps.getD i undef:=by
     simp[Act.put,Array.getElem?_setIfInBounds_ne (Ne.symm e)]
    rw[this]
    exact (h.tm i).ext he
  ·cases hp

end Go.Ax
namespace Go.Ax
open Go.RowKit

variable [Glob] {P : Program} {F : Nat → Prop}

def D9 (us:Array Value) (o:Nat):List Value→Array Value
 | []=>us
 | v::r=>D9 (us.setIfInBounds o v) (o+1) r

@[simp] theorem EX (us:Array Value) (o:Nat) (vs:List Value):(D9 us o vs).size=us.size:=by
 induction vs generalizing us o with
 | nil=>rfl
 | cons v r ih=>simp[D9,ih]

theorem Gw (us:Array Value) (o:Nat) (vs:List Value) (i:Nat) (h:i<o∨o+vs.length≤i):(D9 us o vs)[i]? = us[i]? := by
 induction vs generalizing us o with
 | nil=>rfl
 | cons v r ih=>
  rw[D9,ih _ _ (by simp at h; omega),Array.getElem?_setIfInBounds_ne (by simp at h; omega)]

theorem KD (us:Array Value) (o:Nat) (vs:List Value) (j:Nat) (hj:j<vs.length) (hs:o+vs.length≤us.size):(D9 us o vs)[o+j]? = vs[j]? := by
 induction vs generalizing us o j with
 | nil=>simp at hj
 | cons v r ih=>
  rw[D9]
  cases j with
  | zero=>
   rw[Gw _ _ _ _ (by omega)]
   have hlt:o<us.size:=by simp at hs; omega
   simp[hlt]
  | succ j=>
   have:=ih (us.setIfInBounds o v) (o+1) j (by simpa using hj) (by simp at hs ⊢; omega)
   rw[show o+(j+1)=o+1+j by omega,this]
   rfl

theorem GO {w:World} {k:Nat} {us:Array Value} {e:TypeId} {fr:Nat×Nat} (o:Nat) (vs:List Value) (h:w.heap[k]? = some (.cells us e fr)):
  (w.setCells k o vs).heap[k]? = some (.cells (D9 us o vs) e fr):=by
 induction vs generalizing w us o with
 | nil=>exact h
 | cons v r ih=>
  rw[World.setCells,D9]
  refine ih (o+1) ?_
  simp[World.setCell,Array.getElem?_modify,h]

theorem Ca {w:World} {k i:Nat} (o:Nat) (vs:List Value) (h:i≠k):(w.setCells k o vs).heap[i]? = w.heap[i]? := by
 induction vs generalizing w o with
 | nil=>rfl
 | cons v r ih=>
  rw[World.setCells,ih]
  exact Below.heap_setCell w _ _ _ h

theorem Mu {w:World} {k:Nat} (o:Nat) (vs:List Value):(w.setCells k o vs).heap.size=w.heap.size∧(w.setCells k o vs).os=w.os∧(w.setCells k o vs).tape=w.tape∧(w.setCells k o vs).output=w.output:=by
 induction vs generalizing w o with
 | nil=>exact ⟨rfl,rfl,rfl,rfl⟩
 | cons v r ih=>
  rw[World.setCells]
  obtain ⟨h1,h2,h3,h4⟩:=ih (w:=w.setCell ⟨k,o,none⟩ v) (o+1)
  exact ⟨by rw[h1]; simp[World.setCell],h2,h3,h4⟩

theorem HS {w:World} {k:Nat} (o:Nat) (vs:List Value) (i:Nat) {e:TypeId} {n:Nat} (h:w.shape? i=some (e,n)):(w.setCells k o vs).shape? i=some (e,n):=by
 by_cases hi:i=k
 ·subst hi
  unfold World.shape? at h ⊢
  split at h
  ·rename_i us e' fr hh
   rw[GO o vs hh]
   simpa using h
  ·cases h
 ·unfold World.shape? at h ⊢
  rw[Ca o vs hi]
  exact h

theorem Fw {w:World} {k:Nat} {us:Array Value} {e:TypeId} {fr:Nat×Nat} (h:w.heap[k]? = some (.cells us e fr)) (i:Nat):w.cell? ⟨k,i,none⟩=us[i]? := by
 simp[World.cell?,h]

theorem NB (u:Value):Qk u=u.oneCell':=by cases u <;> rfl

theorem IT (t:TypeId) (w:World) {d:TypeDesc} (h:P.underlying t=some d):(isAgg t).run P w= .ok (M6 P t) w:=by
 unfold isAgg M6
 simp only[Sem.run_bind,run_underlying h,Result.andThen_ok,h]
 cases d <;> rfl

theorem Gx {t:TypeId} {n:Nat} (h:BU P t=some n):∃ i,P.info? t=some i∧i.size=n:=by
 unfold BU at h
 cases hi:P.info? t with
 | none=>rw[hi] at h; cases h
 | some i=>rw[hi] at h; exact ⟨i,rfl,by simpa using h⟩

theorem CO {t:TypeId} {n:Nat} (w:World) (h:BU P t=some n):(sizeOf t).run P w= .ok n w:=by
 obtain ⟨i,hi,rfl⟩:=Gx h
 simp[sizeOf,typeInfo,hi]

theorem Pd {α:Type} (n:Nat) (p:Nat→α→Prop) (h:∀ i,i<n→∃ u,p i u):∃ us:List α,us.length=n∧∀ i u,us[i]? = some u→p i u:=by
 induction n with
 | zero=>exact ⟨[],rfl,fun i u hu=>by simp at hu⟩
 | succ n ih=>
  obtain ⟨us,hl,hp⟩:=ih (fun i hi=>h i (by omega))
  obtain ⟨u,hu⟩:=h n (by omega)
  refine ⟨us++ [u],by simp[hl],fun i v hv=>?_⟩
  rw[List.getElem?_append] at hv
  split at hv
  ·exact hp i v hv
  ·rename_i hge
   have hi:i=n:=by
    have:=(List.getElem?_eq_some_iff.1 hv).1
    simp at this; omega
   subst hi
   simp[hl] at hv
   subst hv
   exact hu

def oa (P:Program) (t:TypeId):Prop:=∃ d,P.underlying t=some d

theorem TY {t:TypeId} (h:aJ P t=true):oa P t:=by
 unfold aJ at h
 cases hd:P.underlying t with
 | none=>rw[hd] at h; cases h
 | some d=>exact ⟨d,hd⟩

theorem Pe {B:List Box} {ρ:Aj} {w:World} {t:TypeId} {a:Addr} {cs:List AV} {v:AV} (h:∀ (i:Nat) (c:AV),cs[i]? = some c→∃ u,w.cell? (a.add i)=some u∧VRel F B ρ w c u)
  (hm:TX P t cs=some v):∃ x,(loadVar t a).run P w= .ok x w∧VRel F B ρ w v x:=by
 unfold TX at hm
 split at hm
 ·cases hm
 rename_i hu
 obtain ⟨d,hd⟩:=TY (P:=P) (t:=t) (by simpa using hu)
 unfold loadVar
 simp only[Sem.run_bind,IT t w hd,Result.andThen_ok]
 split at hm
 ·rename_i hagg
  rw[if_pos hagg]
  cases hn:BU P t with
  | none=>rw[hn] at hm; cases hm
  | some n=>
   rw[hn] at hm
   simp only[Option.bind_some] at hm
   split at hm
   ·rename_i hle
    cases hm
    obtain ⟨us,hl,hp⟩:=Pd n (fun i u=>w.cell? (a.add i)=some u∧∀ c,cs[i]? = some c→VRel F B ρ w c u) (fun i hi=>by
     have hi':i<cs.length:=by omega
     obtain ⟨u,h1,h2⟩:=h i cs[i] (List.getElem?_eq_getElem hi')
     exact ⟨u,h1,fun c hc=>by rw[List.getElem?_eq_getElem hi'] at hc; cases hc; exact h2⟩)
    refine ⟨.agg us.toArray,?_, .agg _ _ (by simp; omega) (fun j p u hj hu=>?_)⟩
    ·have:=run_loadCells_list (P:=P) w a us (fun j u hj=>(hp j u hj).1)
     simp only[Sem.run_bind,CO w hn,Result.andThen_ok]
     rw[←hl,this]
     rfl
    ·rw[List.getElem?_take] at hj
     split at hj
     ·exact (hp j u hu).2 p hj
     ·cases hj
   ·cases hm
 ·rename_i hagg
  rw[if_neg hagg]
  cases cs with
  | nil=>cases hm
  | cons c cs=>
   cases hm
   obtain ⟨u,h1,h2⟩:=h 0 v rfl
   refine ⟨u,?_,h2⟩
   have:a.add 0=a:=rfl
   rw[this] at h1
   simp[h1]

theorem Inv.cell {B:List Box} {ρ:Aj} {w:World} (h:Inv F B ρ w) {b:Nat} {row:Bool} {v:Nat} {cs:List AV} {k o:Nat} (hb:B[b]? = some (.cells row v cs)) (hr:ρ b=some (k,o)):
  ∃ us e fr,w.heap[k]? = some (.cells us e fr)∧o+cs.length≤us.size∧Fz us fr∧∀ (i:Nat) (c:AV),cs[i]? = some c→∃ u,us[o+i]? = some u∧VRel F B ρ w c u:=by
 rcases h.box b row v cs hb with ⟨h0,_⟩ | ⟨k',o',us,e,fr,h1,h2⟩
 ·rw[hr] at h0; cases h0
 ·rw[hr] at h1; cases h1; exact ⟨us,e,fr,h2⟩

theorem Qq {B:List Box} {ρ:Aj} {w:World} (hI:Inv F B ρ w) {t:TypeId} {x:AV} {u:Value} {v:AV} (hx:VRel F B ρ w x u) (hm:L0 P t B x=some v):
  ∃ y,(Instr.loadAt t u).run P w= .ok y w∧VRel F B ρ w v y:=by
 cases hx <;> simp only[L0] at hm <;> try (cases hm; done)
 ·rename_i b ver o a hp
  split at hm
  ·rename_i row vv cs hb
   split at hm
   ·rename_i hv
    have hv':ver=vv:=Nat.eq_of_beq_eq_true hv
    obtain ⟨k,o',hr,rfl⟩:=(hp.2 row vv cs hb).2 hv'
    obtain ⟨us,e,fr,h1,h2,h3,h4⟩:=hI.cell hb hr
    have:=Pe (P:=P) (a:=⟨k,o'+o,none⟩) (fun i c hc=>by
     rw[List.getElem?_drop] at hc
     obtain ⟨u,e1,e2⟩:=h4 _ c hc
     refine ⟨u,?_,e2⟩
     rw[Addr.add_lit,Fw h1]
     rw[show o'+o+i=o'+(o+i) by omega]
     exact e1) hm
    simpa [Instr.loadAt,Instr.sureAddr] using this
   ·cases hm
  ·cases hm
 ·rename_i cs a us h1 h2 h3 h4 h5 h6
  have:=Pe (P:=P) (a:=a) (fun i c hc=>by
   rw[List.getElem?_map] at hc
   cases hcs:cs[i]? with
   | none=>rw[hcs] at hc; cases hc
   | some q=>
    rw[hcs] at hc
    cases hc
    have hi:i<us.length:=by rw[←h4]; exact (List.getElem?_eq_some_iff.1 hcs).1
    exact ⟨us[i],h5 i _ (List.getElem?_eq_getElem hi), .p _ _ (h6 i q _ hcs (List.getElem?_eq_getElem hi))⟩) hm
  simpa [Instr.loadAt,Instr.sureAddr] using this

theorem ln {B:List Box} {ρ:Aj} {b:Nat} {row:Bool} {v v':Nat} {cs cs':List AV} (hb:B[b]? = some (.cells row v cs)) (k:Nat):Own F (B.set b (.cells row v' cs')) ρ k↔Own F B ρ k:=by
 have hlt:b<B.length:=(List.getElem?_eq_some_iff.1 hb).1
 constructor
 ·rintro (hF | ⟨c,x,l,h1,h2,h3⟩)
  ·exact .inl hF
  rw[List.getElem?_set] at h1
  split at h1
  ·rename_i e; subst e
   simp only[hlt,if_true,Option.some.injEq] at h1
   subst h1
   exact .inr ⟨_,_,l,hb,h2,h3⟩
  ·exact .inr ⟨c,_,l,h1,h2,h3⟩
 ·rintro (hF | ⟨c,x,l,h1,h2,h3⟩)
  ·exact .inl hF
  by_cases e:b=c
  ·subst e
   rw[hb] at h1; cases h1
   exact .inr ⟨b, .cells row v' cs',l,by rw[List.getElem?_set]; simp[hlt],h2,h3⟩
  ·exact .inr ⟨c,x,l,by rw[List.getElem?_set,if_neg e]; exact h1,h2,h3⟩

theorem L7 (cs:List AV) (o:Nat) (new:List AV) (h:o+new.length≤cs.length) (i:Nat):
  (Cf cs o new)[i]? = if i<o then cs[i]? else if i<o+new.length then new[i - o]? else cs[i]? := by
 unfold Cf
 have h1:(cs.take o).length=o:=by simp; omega
 rw[List.getElem?_append,h1]
 split
 ·rw[List.getElem?_take,if_pos (by assumption)]
 ·rename_i h2
  rw[List.getElem?_append]
  split
  ·rw[if_pos (by omega)]
  ·rw[if_neg (by omega),List.getElem?_drop]
   congr 1
   omega

theorem EM (cs:List AV) (o:Nat) (new:List AV) (h:o+new.length≤cs.length):(Cf cs o new).length=cs.length:=by
 simp[Cf]; omega

theorem Y8 {B:List Box} {ρ:Aj} {w:World} {b k o:Nat} {row:Bool} {v:Nat} {cs cs':List AV} (hb:B[b]? = some (.cells row v cs)) (hr:ρ b=some (k,o)) (hl:cs'.length=cs.length) (hF:¬F k) (q:Nat) (vs:List Value):
  Ext F B ρ w (B.set b (.cells row v cs')) ρ (w.setCells k q vs):=by
 have hlt:b<B.length:=(List.getElem?_eq_some_iff.1 hb).1
 obtain ⟨r1,r2,r3,r4⟩:=Mu (w:=w) (k:=k) q vs
 refine ⟨Nat.le_of_eq r1.symm,r2,r3,r4,fun i hi ho=>⟨?_,fun h=>ho ((ln hb i).1 h)⟩,fun i e n h=>HS q vs i h,by simp,fun c row' v' cs'' hc h=>?_,fun c cs'' Φ hc h=>?_,fun i hi _=>Ca q vs (fun e=>hF (e▸hi))⟩
 ·refine Ca q vs (fun e=>ho ?_)
  subst e
  exact .cells hb hr
 ·rw[List.getElem?_set] at h
  split at h
  ·rename_i e
   subst e
   simp only[hlt,if_true,Option.some.injEq,Box.cells.injEq] at h
   obtain ⟨rfl,rfl,rfl⟩:=h
   exact ⟨v,cs,hb,Nat.le_refl _,fun _=>⟨rfl,hl⟩⟩
  ·exact ⟨v',cs'',h,Nat.le_refl _,fun _=>⟨rfl,rfl⟩⟩
 ·rw[List.getElem?_set] at h
  split at h
  ·rename_i e; subst e; simp[hlt] at h
  ·exact ⟨cs'',Φ,h,rfl⟩

theorem Inv.otherx {B:List Box} {ρ ρ':Aj} {w w':World} (hI:Inv F B ρ w) {b:Nat} {X0 X:Box} (hb:B[b]? = some X0)
  (hE:Ext F B ρ w (B.set b X) ρ' w') (hρ:∀ c,c≠b→ρ' c=ρ c)
  (hheap:∀ c x l k,c≠b→B[c]? = some x→ρ c=some l→x.has l k→w'.heap[k]? = w.heap[k]?)
  (hinj:∀ c x l l' k,c≠b→B[c]? = some x→ρ c=some l→x.has l k→ρ' b=some l'→X.has l' k→False)
  (hFb:∀ l k,ρ' b=some l→X.has l k→¬F k)
  (hnew:∀ row v cs,X= .cells row v cs→cs.all AV.leaf=true∧((ρ' b=none∧row=true∧cs= [])∨∃ k o us e fr,ρ' b=some (k,o)∧w'.heap[k]? = some (.cells us e fr)∧o+cs.length≤us.size∧Fz us fr ∧
   ∀ (i:Nat) (c:AV),cs[i]? = some c→∃ u,us[o+i]? = some u∧VRel F (B.set b X) ρ' w' c u))
  (hoff:∀ v cs k o,X= .cells false v cs→ρ' b=some (k,o)→o=0)
  (hobj:∀ cs Φ,X= .obj cs Φ→∃ k o us,ρ' b=some (k,o)∧Φ.holds us (fun j=>o.testBit j=true) k w'∧cs.length=us.length∧∀ (i:Nat) (c:AV) (u:Value),cs[i]? = some c→us[i]? = some u→VRel F (B.set b X) ρ' w' c u):Inv F (B.set b X) ρ' w':=by
 have hlt:b<B.length:=(List.getElem?_eq_some_iff.1 hb).1
 have at_:∀ {c:Nat} {x:Box},(B.set b X)[c]? = some x→(c=b∧x=X)∨(c≠b∧B[c]? = some x):=by
  intro c x h
  rw[List.getElem?_set] at h
  split at h
  ·rename_i e
   subst e
   simp only[hlt,if_true,Option.some.injEq] at h
   exact .inl ⟨rfl,h.symm⟩
  ·rename_i e
   exact .inr ⟨fun h=>e h.symm,h⟩
 refine ⟨fun c row1 v1 cs1 hc=>?_,fun c row1 v1 cs1 hc=>?_,fun c cs1 Φ1 hc=>?_,fun c c' x x' l l' k q1 q2 q3 q4 q5 q6=>?_,fun k hF=>Nat.lt_of_lt_of_le (hI.bound k hF) hE.size,fun c x l k hc hr hx=>?_,fun g hg=>(hI.glob g hg).ext hE,fun c v2 cs2 k o hc hr=>?_⟩
 ·rcases at_ hc with ⟨rfl,e⟩ | ⟨hne,hc⟩
  ·exact (hnew _ _ _ e.symm).2
  ·rcases hI.box c row1 v1 cs1 hc with ⟨g1,g2,g3⟩ | ⟨k2,o2,us2,e2,fr2,g1,g2,g3,g4,g5⟩
   ·exact .inl ⟨(hρ c hne).trans g1,g2,g3⟩
   ·have hk:=hheap c _ _ k2 hne hc g1 rfl
    refine .inr ⟨k2,o2,us2,e2,fr2,(hρ c hne).trans g1,hk.trans g2,g3,g4,fun i c hc=>?_⟩
    ·obtain ⟨u,f1,f2⟩:=g5 i c hc
     exact ⟨u,f1,f2.ext hE⟩
 ·rcases at_ hc with ⟨rfl,e⟩ | ⟨_,hc⟩
  ·exact (hnew _ _ _ e.symm).1
  ·exact hI.leaf _ _ _ _ hc
 ·rcases at_ hc with ⟨rfl,e⟩ | ⟨hne,hc⟩
  ·exact hobj _ _ e.symm
  ·obtain ⟨k,o,us,g1,g2,g3,g4⟩:=hI.obox c cs1 Φ1 hc
   exact ⟨k,o,us,(hρ c hne).trans g1,Φ1.frame _ _ _ _ _ g2 (fun j hj=>hheap c _ _ j hne hc g1 hj),g3,fun i c u h1 h2=>(g4 i c u h1 h2).ext hE⟩
 ·rcases at_ q1 with ⟨rfl,rfl⟩ | ⟨n1,p1⟩ <;> rcases at_ q2 with ⟨rfl,rfl⟩ | ⟨n2,p2⟩
  ·rfl
  ·exact (hinj c' _ _ _ k n2 p2 ((hρ c' n2).symm.trans q4) q6 q3 q5).elim
  ·exact (hinj c _ _ _ k n1 p1 ((hρ c n1).symm.trans q3) q5 q4 q6).elim
  ·exact hI.injx c c' _ _ _ _ k p1 p2 ((hρ c n1).symm.trans q3) ((hρ c' n2).symm.trans q4) q5 q6
 ·rcases at_ hc with ⟨rfl,rfl⟩ | ⟨hne,hc⟩
  ·exact hFb l k hr hx
  ·exact hI.farx c _ _ k hc ((hρ c hne).symm.trans hr) hx
 ·rcases at_ hc with ⟨rfl,e⟩ | ⟨hne,hc⟩
  ·exact hoff _ _ k o e.symm hr
  ·exact hI.off0 c _ _ k o hc ((hρ c hne).symm.trans hr)

theorem Inv.other {B:List Box} {ρ ρ':Aj} {w w':World} (hI:Inv F B ρ w) {b:Nat} {row row':Bool} {v v':Nat} {cs cs':List AV} (hb:B[b]? = some (.cells row v cs))
  (hE:Ext F B ρ w (B.set b (.cells row' v' cs')) ρ' w') (hρ:∀ c,c≠b→ρ' c=ρ c) (hlf:cs'.all AV.leaf=true)
  (hheap:∀ c x l k,c≠b→B[c]? = some x→ρ c=some l→x.has l k→w'.heap[k]? = w.heap[k]?)
  (hinj:∀ c x l k o',c≠b→B[c]? = some x→ρ c=some l→x.has l k→ρ' b=some (k,o')→False)
  (hFb:∀ k o,ρ' b=some (k,o)→¬F k) (hoff:∀ k o,row'=false→ρ' b=some (k,o)→o=0)
  (hnew:(ρ' b=none∧row'=true∧cs'= [])∨∃ k o us e fr,ρ' b=some (k,o)∧w'.heap[k]? = some (.cells us e fr)∧o+cs'.length≤us.size∧Fz us fr ∧
   ∀ (i:Nat) (c:AV),cs'[i]? = some c→∃ u,us[o+i]? = some u∧VRel F (B.set b (.cells row' v' cs')) ρ' w' c u):Inv F (B.set b (.cells row' v' cs')) ρ' w':=
 hI.otherx hb hE hρ hheap (fun c x l l' k h1 h2 h3 h4 h5 h6=>hinj c x l k l'.2 h1 h2 h3 h4 (by have e:k=l'.1:=h6; rw[e]; exact h5))
  (fun l k h1 h2=>hFb k l.2 (by have e:k=l.1:=h2; rw[e]; exact h1)) (fun _ _ _ e=>by cases e; exact ⟨hlf,hnew⟩) (fun _ _ k o e h=>by cases e; exact hoff k o rfl h) (fun _ _ e=>by cases e)

theorem YA {B B':List Box} {ρ:Aj} {w:World} (hI:Inv F B ρ w) {t:TypeId} {x y:AV} {u z:Value} (hx:VRel F B ρ w x u) (hy:VRel F B ρ w y z) (hm:M7 P t B y x=some B'):
  ∃ w',(Instr.storeAt t u z).run P w= .ok () w'∧Inv F B' ρ w'∧Ext F B ρ w B' ρ w':=by
 cases hx <;> simp only[M7] at hm <;> try (cases hm; done)
 rename_i b ver o a hp
 split at hm
 ·rename_i row vv cs hb
  split at hm
  ·rename_i hc
   cases hm
   simp only[Bool.and_eq_true,beq_iff_eq,Nat.ble_eq] at hc
   obtain ⟨⟨⟨hv,hsz⟩,hle⟩,hlf⟩:=hc
   have hv':ver=vv:=Nat.eq_of_beq_eq_true hv
   subst hv'
   obtain ⟨k,o',hr,rfl⟩:=(hp.2 row ver cs hb).2 rfl
   obtain ⟨us,e,fr,h1,h2,h3,h4⟩:=hI.cell hb hr
   obtain ⟨hcl,hcr⟩:=hy.cells hlf
   have hlt:b<B.length:=hp.1
   have hlf':∀ q∈z.cells.toList,q.oneCell'=true:=fun q hq=>by
    obtain ⟨j,hj⟩:=List.getElem?_of_mem hq
    have hj':z.cells[j]? = some q:=by simpa using hj
    have hjl:j<y.cells.length:=by rw[hcl]; exact (Array.getElem?_eq_some_iff.1 hj').1
    have:=hcr j y.cells[j] q (List.getElem?_eq_getElem hjl) hj'
    rw[←NB]
    exact Gv this (List.all_eq_true.1 hlf _ (List.getElem_mem hjl))
   have hE:Ext F B ρ w (B.set b (.cells row ver (Cf cs o y.cells))) ρ (w.setCells k (o'+o) z.cells.toList):=Y8 hb hr (EM _ _ _ hle) (hI.farb _ _ _ _ _ _ hb hr) _ _
   refine ⟨w.setCells k (o'+o) z.cells.toList,?_,?_,hE⟩
   ·have hst:=run_storeCells_cells (P:=P) k (o'+o) z.cells.toList 0 w (fun j hj=>by
     rw[Nat.add_zero,Fw h1]
     have hj2:j<z.cells.size:=by simpa using hj
     have:o'+o+j<us.size:=by omega
     rw[Array.getElem?_eq_getElem this]; rfl) (fun j hj=>by
     rw[Nat.add_zero]
     have hj2:j<z.cells.size:=by simpa using hj
     exact h3.no h1 _ (by omega)) hlf'
    obtain ⟨i,hi,hisz⟩:=Gx hsz
    have hne:¬(z.cells.size≠i.size):=by rw[hisz,hcl]; simp
    simp only[Instr.storeAt,Instr.sureAddr,storeVar,Sem.run_bind,Sem.run_pure,Result.andThen_ok,sizeOf,typeInfo,run_program,hi]
    simp only[Sem.run_pure,Result.andThen_ok,hne,if_false]
    simpa using hst
   ·refine hI.other hb hE (fun _ _=>rfl) ?_ (fun c x l k2 hne hc hl hx=>Ca _ _ (fun e=>hne (hI.injx _ _ _ _ _ _ k hc hb hl hr (e▸hx) rfl)))
     (fun c x l k2 o3 hne hc hl hx hk'=>hne (hI.injx _ _ _ _ _ _ k2 hc hb hl hk' hx rfl)) (fun k2 o2 h2=>hI.farb _ _ _ _ _ _ hb h2) (fun k2 o2 h0 h2=>by subst h0; exact hI.off0 _ _ _ _ _ hb h2) (.inr ⟨k,o',_,e,fr,hr,GO _ _ h1,by rw[EX,EM _ _ _ hle]; exact h2,h3.size (EX _ _ _),fun i c hc=>?_⟩)
    ·have hcs:=hI.leaf _ _ _ _ hb
     rw[List.all_eq_true] at hcs hlf ⊢
     intro q hq
     unfold Cf at hq
     rcases List.mem_append.1 hq with hq | hq
     ·exact hcs q (List.mem_of_mem_take hq)
     ·rcases List.mem_append.1 hq with hq | hq
      ·exact hlf q hq
      ·exact hcs q (List.mem_of_mem_drop hq)
    ·rw[L7 _ _ _ hle] at hc
     have out:cs[i]? = some c→(i<o∨o+y.cells.length≤i)→∃ u,(D9 us (o'+o) z.cells.toList)[o'+i]? = some u∧VRel F (B.set b (.cells row ver (Cf cs o y.cells))) ρ (w.setCells k (o'+o) z.cells.toList) c u:=by
      intro hci hio
      obtain ⟨u,e1,e2⟩:=h4 i c hci
      refine ⟨u,?_,e2.ext hE⟩
      rw[Gw _ _ _ _ (by simp; omega)]
      exact e1
     split at hc
     ·exact out hc (.inl (by assumption))
     ·split at hc
      ·rename_i n1 n2
       have hj:i - o<z.cells.size:=by omega
       refine ⟨z.cells[i - o],?_,(hcr (i - o) c _ hc (Array.getElem?_eq_getElem hj)).ext hE⟩
       have:=KD us (o'+o) z.cells.toList (i - o) (by simpa using hj) (by simp; omega)
       rw[show o'+o+(i - o)=o'+i by omega] at this
       rw[this]
       simp[hj]
      ·exact out hc (.inr (by omega))
  ·cases hm
 ·cases hm

theorem VQ {B:List Box} {ρ:Aj} {w w':World} (X:Box) (l:Option (Nat×Nat)) (hl:∀ l' k,l=some l'→X.has l' k→w.heap.size≤k)
  (hs:w.heap.size≤w'.heap.size) (ho:w'.os=w.os) (ht:w'.tape=w.tape) (hp:w'.output=w.output) (hk:∀ k,k<w.heap.size→w'.heap[k]? = w.heap[k]?):
  Ext F B ρ w (B++ [X]) (fun b=>if b=B.length then l else ρ b) w':=by
 refine ⟨hs,ho,ht,hp,fun k hlt hno=>⟨hk k hlt,?_⟩,fun k e n h=>?_,by simp,fun b row' v cs' hb h=>?_,fun b cs' Φ hb h=>?_,fun k _ hlt=>hk k hlt⟩
 ·rintro (hF | ⟨b,x,l',h1,h2,h3⟩)
  ·exact hno (.inl hF)
  by_cases e:b=B.length
  ·subst e
   simp only[if_true] at h2
   simp at h1
   subst h1
   have:=hl l' k h2 h3
   omega
  ·simp only[e,if_false] at h2
   have hb:b<B.length:=by
    have:=(List.getElem?_eq_some_iff.1 h1).1
    simp at this; omega
   rw[List.getElem?_append_left hb] at h1
   exact hno (.inr ⟨b,x,l',h1,h2,h3⟩)
 ·have hlt:k<w.heap.size:=by
   unfold World.shape? at h
   split at h
   ·rename_i hh; exact (Array.getElem?_eq_some_iff.1 hh).1
   ·cases h
  unfold World.shape? at h ⊢
  rw[hk k hlt]
  exact h
 ·rw[List.getElem?_append_left hb] at h
  refine ⟨v,cs',h,Nat.le_refl _,fun _=>⟨?_,rfl⟩⟩
  have:b≠B.length:=by omega
  simp[this]
 ·rw[List.getElem?_append_left hb] at h
  refine ⟨cs',Φ,h,?_⟩
  have:b≠B.length:=by omega
  simp[this]

theorem Y9 {B:List Box} {ρ:Aj} {w w':World} (row:Bool) (cs:List AV) (l:Option (Nat×Nat)) (hl:∀ k o,l=some (k,o)→w.heap.size≤k)
  (hs:w.heap.size≤w'.heap.size) (ho:w'.os=w.os) (ht:w'.tape=w.tape) (hp:w'.output=w.output) (hk:∀ k,k<w.heap.size→w'.heap[k]? = w.heap[k]?) (hdom:∀ b,B.length≤b→True):
  Ext F B ρ w (B++ [.cells row 0 cs]) (fun b=>if b=B.length then l else ρ b) w':=
 VQ _ l (fun l' k h1 h2=>hl k l'.2 (by have e:k=l'.1:=h2; rw[e]; exact h1)) hs ho ht hp hk

theorem Inv.newx {B:List Box} {ρ:Aj} {w w':World} (hI:Inv F B ρ w) {X:Box} {l:Option (Nat×Nat)}
  (hE:Ext F B ρ w (B++ [X]) (fun b=>if b=B.length then l else ρ b) w') (hl:∀ l' k,l=some l'→X.has l' k→w.heap.size≤k)
  (hk:∀ k,k<w.heap.size→w'.heap[k]? = w.heap[k]?)
  (hnew:∀ row v cs,X= .cells row v cs→cs.all AV.leaf=true∧((l=none∧row=true∧cs= [])∨∃ k o us e fr,l=some (k,o)∧w'.heap[k]? = some (.cells us e fr)∧o+cs.length≤us.size∧Fz us fr ∧
   ∀ (i:Nat) (c:AV),cs[i]? = some c→∃ u,us[o+i]? = some u∧VRel F (B++ [X]) (fun b=>if b=B.length then l else ρ b) w' c u))
  (hoff:∀ v cs k o,X= .cells false v cs→l=some (k,o)→o=0)
  (hobj:∀ cs Φ,X= .obj cs Φ→∃ k o us,l=some (k,o)∧Φ.holds us (fun j=>o.testBit j=true) k w'∧cs.length=us.length∧∀ (i:Nat) (c:AV) (u:Value),cs[i]? = some c→us[i]? = some u→VRel F (B++ [X]) (fun b=>if b=B.length then l else ρ b) w' c u):
  Inv F (B++ [X]) (fun b=>if b=B.length then l else ρ b) w':=by
 have at_:∀ {c:Nat} {x:Box},(B++ [X])[c]? = some x→(c=B.length∧x=X)∨(c≠B.length∧B[c]? = some x):=by
  intro c x h
  by_cases e:c<B.length
  ·rw[List.getElem?_append_left e] at h
   exact .inr ⟨by omega,h⟩
  ·have hc:c=B.length:=by
    have:=(List.getElem?_eq_some_iff.1 h).1
    simp at this; omega
   subst hc
   simp at h
   exact .inl ⟨rfl,h.symm⟩
 refine ⟨fun c row1 v1 cs1 hc=>?_,fun c row1 v1 cs1 hc=>?_,fun c cs1 Φ1 hc=>?_,fun c c' x x' l1 l2 k q1 q2 q3 q4 q5 q6=>?_,fun k hF=>Nat.lt_of_lt_of_le (hI.bound k hF) hE.size,fun c x l1 k hc hr hx hF=>?_,fun g hg=>(hI.glob g hg).ext hE,fun c v2 cs2 k o hc hr=>?_⟩
 ·rcases at_ hc with ⟨rfl,e⟩ | ⟨hne,hc⟩
  ·simpa using (hnew _ _ _ e.symm).2
  ·rcases hI.box c row1 v1 cs1 hc with ⟨g1,g2,g3⟩ | ⟨k2,o2,us2,e2,fr2,g1,g2,g3,g4,g5⟩
   ·exact .inl ⟨by simpa [hne] using g1,g2,g3⟩
   ·have hlt:k2<w.heap.size:=(Array.getElem?_eq_some_iff.1 g2).1
    refine .inr ⟨k2,o2,us2,e2,fr2,by simpa [hne] using g1,(hk _ hlt).trans g2,g3,g4,fun i c hc=>?_⟩
    ·obtain ⟨u,f1,f2⟩:=g5 i c hc
     exact ⟨u,f1,f2.ext hE⟩
 ·rcases at_ hc with ⟨rfl,e⟩ | ⟨_,hc⟩
  ·exact (hnew _ _ _ e.symm).1
  ·exact hI.leaf _ _ _ _ hc
 ·rcases at_ hc with ⟨rfl,e⟩ | ⟨hne,hc⟩
  ·simpa using hobj _ _ e.symm
  ·obtain ⟨k,o,us,g1,g2,g3,g4⟩:=hI.obox c cs1 Φ1 hc
   exact ⟨k,o,us,by simpa [hne] using g1,Φ1.frame _ _ _ _ _ g2 (fun j hj=>hk j (Φ1.low _ _ _ _ j g2 hj)),g3,fun i c u h1 h2=>(g4 i c u h1 h2).ext hE⟩
 ·have low:∀ {c x l1},c≠B.length→B[c]? = some x→(if c=B.length then l else ρ c)=some l1→x.has l1 k→k<w.heap.size∧ρ c=some l1:=by
   intro c x l1 hne hc hr hx
   rw[if_neg hne] at hr
   exact ⟨hI.haslt hc hr hx,hr⟩
  rcases at_ q1 with ⟨rfl,rfl⟩ | ⟨n1,p1⟩ <;> rcases at_ q2 with ⟨rfl,rfl⟩ | ⟨n2,p2⟩
  ·rfl
  ·have:=(low n2 p2 q4 q6).1
   simp at q3
   have:=hl _ _ q3 q5
   omega
  ·have:=(low n1 p1 q3 q5).1
   simp at q4
   have:=hl _ _ q4 q6
   omega
  ·exact hI.injx c c' _ _ _ _ k p1 p2 (low n1 p1 q3 q5).2 (low n2 p2 q4 q6).2 q5 q6
 ·rcases at_ hc with ⟨rfl,rfl⟩ | ⟨hne,hc⟩
  ·simp at hr
   have h1:=hl _ _ hr hx
   have h2:=hI.bound k hF
   omega
  ·exact hI.farx c _ _ k hc (by simpa [hne] using hr) hx hF
 ·rcases at_ hc with ⟨rfl,e⟩ | ⟨hne,hc⟩
  ·exact hoff _ _ k o e.symm (by simpa using hr)
  ·exact hI.off0 c _ _ k o hc (by simpa [hne] using hr)

theorem Inv.new {B:List Box} {ρ:Aj} {w w':World} (hI:Inv F B ρ w) {row:Bool} {cs:List AV} {l:Option (Nat×Nat)}
  (hE:Ext F B ρ w (B++ [.cells row 0 cs]) (fun b=>if b=B.length then l else ρ b) w') (hlf:cs.all AV.leaf=true) (hl:∀ k o,l=some (k,o)→w.heap.size≤k) (hoff:∀ k o,row=false→l=some (k,o)→o=0)
  (hk:∀ k,k<w.heap.size→w'.heap[k]? = w.heap[k]?)
  (hnew:(l=none∧row=true∧cs= [])∨∃ k o us e fr,l=some (k,o)∧w'.heap[k]? = some (.cells us e fr)∧o+cs.length≤us.size∧Fz us fr ∧
   ∀ (i:Nat) (c:AV),cs[i]? = some c→∃ u,us[o+i]? = some u∧VRel F (B++ [.cells row 0 cs]) (fun b=>if b=B.length then l else ρ b) w' c u):
  Inv F (B++ [.cells row 0 cs]) (fun b=>if b=B.length then l else ρ b) w':=
 hI.newx hE (fun l' k h1 h2=>hl k l'.2 (by have e:k=l'.1:=h2; rw[e]; exact h1)) hk (fun _ _ _ e=>by cases e; exact ⟨hlf,hnew⟩) (fun _ _ k o e h=>by cases e; exact hoff k o rfl h) (fun _ _ e=>by cases e)

end Go.Ax
namespace Go.Ax
open Go.RowKit

variable [Glob] {P : Program} {F : Nat → Prop}

theorem VR {B:List Box} {ρ:Aj} {w w':World} (hI:Inv F B ρ w) (row:Bool) {cs:List AV} {us:Array Value} {e:TypeId} {fr:Nat×Nat} (hlf:cs.all AV.leaf=true) (hl:cs.length≤us.size)
  (hc:∀ (i:Nat) (c:AV),cs[i]? = some c→∃ u,us[i]? = some u∧VRel F B ρ w c u) (hfr:Fz us fr)
  (hk:∀ k,k<w.heap.size→w'.heap[k]? = w.heap[k]?) (hnew:w'.heap[w.heap.size]? = some (.cells us e fr)) (ho:w'.os=w.os) (ht:w'.tape=w.tape) (hp:w'.output=w.output):
  Inv F (B++ [.cells row 0 cs]) (fun b=>if b=B.length then some (w.heap.size,0) else ρ b) w'∧Ext F B ρ w (B++ [.cells row 0 cs]) (fun b=>if b=B.length then some (w.heap.size,0) else ρ b) w':=by
 have hl1:∀ k o,some (w.heap.size,0)=some (k,o)→w.heap.size≤k:=fun k o h=>by cases h; exact Nat.le_refl _
 have hsz:w.heap.size≤w'.heap.size:=Nat.le_of_lt (Array.getElem?_eq_some_iff.1 hnew).1
 have hE:Ext F B ρ w (B++ [.cells row 0 cs]) (fun b=>if b=B.length then some (w.heap.size,0) else ρ b) w':=
  Y9 row cs (some (w.heap.size,0)) hl1 hsz ho ht hp hk (fun _ _=>trivial)
 refine ⟨hI.new hE hlf hl1 (fun k o _ h=>by cases h; rfl) hk (.inr ⟨w.heap.size,0,us,e,fr,rfl,hnew,by omega,hfr,fun i c hci=>?_⟩),hE⟩
 obtain ⟨u,h1,h2⟩:=hc i c hci
 exact ⟨u,by simpa using h1,h2.ext hE⟩

theorem OT {B:List Box} {ρ:Aj} {w w':World} (hI:Inv F B ρ w) (row:Bool) {cs:List AV} {us:Array Value} {e:TypeId} {fr:Nat×Nat} (hlf:cs.all AV.leaf=true) (hl:cs.length≤us.size)
  (hc:∀ (i:Nat) (c:AV),cs[i]? = some c→∃ u,us[i]? = some u∧VRel F B ρ w c u) (hfr:Fz us fr)
  (hh:w'.heap=w.heap.push (.cells us e fr)) (ho:w'.os=w.os) (ht:w'.tape=w.tape) (hp:w'.output=w.output):
  Inv F (B++ [.cells row 0 cs]) (fun b=>if b=B.length then some (w.heap.size,0) else ρ b) w'∧Ext F B ρ w (B++ [.cells row 0 cs]) (fun b=>if b=B.length then some (w.heap.size,0) else ρ b) w':=
 VR (us:=us) (e:=e) (fr:=fr) hI row hlf hl hc hfr (fun k hk=>by rw[hh,Array.getElem?_push,if_neg (by omega)]) (by rw[hh]; simp) ho ht hp

theorem JT {B:List Box} {ρ:Aj} {w:World} (hI:Inv F B ρ w):Inv F (B++ [.cells true 0 []]) (fun b=>if b=B.length then none else ρ b) w∧Ext F B ρ w (B++ [.cells true 0 []]) (fun b=>if b=B.length then none else ρ b) w:=by
 have hE:Ext F B ρ w (B++ [.cells true 0 []]) (fun b=>if b=B.length then none else ρ b) w:=Y9 true [] none (fun _ _ h=>by cases h) (Nat.le_refl _) rfl rfl rfl (fun _ _=>rfl) (fun _ _=>trivial)
 exact ⟨hI.new hE rfl (fun _ _ h=>by cases h) (fun _ _ h=>by cases h) (fun _ _=>rfl) (.inl ⟨rfl,rfl,rfl⟩),hE⟩

def CellsRel (F:Nat→Prop) (B:List Box) (ρ:Aj) (w:World) (cs:List AV) (us:Array Value):Prop:=
 cs.length=us.size∧∀ (i:Nat) (c:AV) (u:Value),cs[i]? = some c→us[i]? = some u→VRel F B ρ w c u

theorem CellsRel.get {B:List Box} {ρ:Aj} {w:World} {cs:List AV} {us:Array Value} (h:CellsRel F B ρ w cs us) (i:Nat) (c:AV) (hc:cs[i]? = some c):∃ u,us[i]? = some u∧VRel F B ρ w c u:=by
 have hi:i<us.size:=by rw[←h.1]; exact (List.getElem?_eq_some_iff.1 hc).1
 exact ⟨us[i],Array.getElem?_eq_getElem hi,h.2 i c _ hc (Array.getElem?_eq_getElem hi)⟩

theorem HT {t:TypeId} {z:List AV} (h:EF P t=some z) (w:World) (hlf:z.all AV.leaf=true):
  ∃ u,(zeroValue t).run P w= .ok u w∧∀ (F:Nat→Prop) (B:List Box) (ρ:Aj) (w':World),CellsRel F B ρ w' z u.cells:=by
 unfold EF at h
 cases hi:P.info? t with
 | none=>rw[hi] at h; cases h
 | some i=>
  rw[hi] at h
  simp only[Option.bind_some] at h
  cases hz:i.zero with
  | none=>rw[hz] at h; cases h
  | some u=>
   rw[hz] at h
   cases h
   refine ⟨u,by simp[zeroValue,typeInfo,hi,hz],fun F B ρ w'=>?_⟩
   exact (P7 B ρ w' u).cells hlf

theorem Qr {B:List Box} {ρ:Aj} {w:World} (hI:Inv F B ρ w) (t:TypeId) {u:Value} {cs:List AV} (hlf:cs.all AV.leaf=true) (hc:CellsRel F B ρ w cs u.cells):
  ∃ x w' ρ',(do pure (Value.pointer (some (←newVar t u))):Sem Value).run P w= .ok x w'∧Inv F (B++ [.cells false 0 cs]) ρ' w'∧Ext F B ρ w (B++ [.cells false 0 cs]) ρ' w'∧VRel F (B++ [.cells false 0 cs]) ρ' w' (.ptr B.length 0 0) x:=by
 obtain ⟨h1,h2⟩:=OT (w':=w.alloc (.cells u.cells t)) hI false (e:=t) (fr:=(0,0)) hlf (Nat.le_of_eq hc.1) (fun i c h=>hc.get i c h) (.zero _) rfl rfl rfl rfl
 refine ⟨.pointer (some ⟨w.heap.size,0,none⟩),w.alloc (.cells u.cells t),_,?_,h1,h2, .ptr _ _ _ _ ⟨by simp,fun row v cs' h=>?_⟩⟩
 ·simp[newVar,newRow]
 ·simp at h
  obtain ⟨rfl,rfl,rfl⟩:=h
  exact ⟨Nat.le_refl _,fun _=>⟨w.heap.size,0,by simp,rfl⟩⟩

theorem UQ (l:List Value):∀ (k off:Nat) (us:Array Value),(l.zipIdx k).foldl (fun cs (x:Value×Nat)=>cs.setIfInBounds (off+x.2) x.1) us=D9 us (off+k) l:=by
 induction l with
 | nil=>intro k off us; rfl
 | cons v r ih=>
  intro k off us
  rw[List.zipIdx_cons,List.foldl_cons,ih,D9]
  rfl

theorem P8 {B:List Box} {ρ:Aj} {w:World} {place:Nat→Option (Nat×Nat)}:∀ (parts:List (Nat×AV)) (vs:List (Nat×Value)) (cs cs':List AV) (us:Array Value),
  parts.length=vs.length→(∀ (i:Nat) (p:Nat×AV) (v:Nat×Value),parts[i]? = some p→vs[i]? = some v→p.1=v.1∧VRel F B ρ w p.2 v.2) →
  CellsRel F B ρ w cs us→cs.all AV.leaf=true→fillA place cs parts=some cs'→∃ us',Instr.fill place us vs=some us'∧CellsRel F B ρ w cs' us'∧cs'.all AV.leaf=true
 | [],vs,cs,cs',us,hl,_,hc,hlf,hf=>by
  cases vs with
  | cons v vs=>simp at hl
  | nil=>simp only[fillA,Option.some.injEq] at hf; subst hf; exact ⟨us,rfl,hc,hlf⟩
 | (i,x)::rest,vs,cs,cs',us,hl,hp,hc,hlf,hf=>by
  cases vs with
  | nil=>simp at hl
  | cons v vs=>
   obtain ⟨h1,h2⟩:=hp 0 (i,x) v rfl rfl
   obtain ⟨j,u⟩:=v
   simp only at h1 h2
   subst h1
   simp only[fillA] at hf
   split at hf
   ·cases hf
   ·rename_i off size hpl
    split at hf
    ·rename_i hcond
     simp only[Bool.and_eq_true,beq_iff_eq,Nat.ble_eq] at hcond
     obtain ⟨⟨c1,c2⟩,c3⟩:=hcond
     obtain ⟨d1,d2⟩:=h2.cells c3
     have hle:off+x.cells.length≤cs.length:=by omega
     have hcs':CellsRel F B ρ w (Cf cs off x.cells) (D9 us off u.cells.toList):=by
      refine ⟨by rw[EM _ _ _ hle,EX,hc.1],fun q c y hq hy=>?_⟩
      rw[L7 _ _ _ hle] at hq
      have out:(q<off∨off+x.cells.length≤q)→cs[q]? = some c→VRel F B ρ w c y:=fun ho hcq=>by
       rw[Gw _ _ _ _ (by simp; omega)] at hy
       exact hc.2 q c y hcq hy
      split at hq
      ·exact out (.inl (by assumption)) hq
      ·split at hq
       ·rename_i n1 n2
        have:=KD us off u.cells.toList (q - off) (by simp; omega) (by have:=hc.1; simp; omega)
        rw[show off+(q - off)=q by omega] at this
        rw[this] at hy
        exact d2 (q - off) c y hq (by simpa using hy)
       ·exact out (.inr (by omega)) hq
     have hlf':(Cf cs off x.cells).all AV.leaf=true:=by
      rw[List.all_eq_true] at hlf c3 ⊢
      intro q hq
      unfold Cf at hq
      rcases List.mem_append.1 hq with hq | hq
      ·exact hlf q (List.mem_of_mem_take hq)
      ·rcases List.mem_append.1 hq with hq | hq
       ·exact c3 q hq
       ·exact hlf q (List.mem_of_mem_drop hq)
     obtain ⟨us',e1,e2,e3⟩:=P8 rest vs _ cs' _ (by simpa using hl) (fun q p v hp' hv=>hp (q+1) p v (by simpa using hp') (by simpa using hv)) hcs' hlf' hf
     refine ⟨us',?_,e2,e3⟩
     rw[Instr.fill,hpl]
     have n1:¬((u.cells.size≠size||off+u.cells.size>us.size)=true):=by
      have:=hc.1
      simp only[Bool.or_eq_true,decide_eq_true_eq,ne_eq,not_or]
      omega
     simp only[n1]
     have hz:(u.cells.zipIdx.foldl (fun cs (c,j)=>cs.setIfInBounds (off+j) c) us)=D9 us off u.cells.toList:=by
      have:=UQ u.cells.toList 0 off us
      rw[Nat.add_zero] at this
      rw[←this,←Array.foldl_toList]
      simp
     rw[if_neg (by simp)]
     rw[hz]
     exact e1
    ·cases hf

end Go.Ax
