/- Plain words of changes and their inner names: order, and back. -/
import Derived.Test.YtbdfbdlfipcleaaGreatDoorG26
import Derived.WalkKit
import Derived.ProofKit
import Derived.OwnWalk
import Derived.Lib.Walk
import Derived.Lib.SliceRun
import Derived.Laws.AppendOwn
import Derived.Test.YtbdfbdlfipcleaaGreatDoorG25
set_option linter.unusedVariables false
set_option linter.unusedSimpArgs false
set_option linter.unusedSectionVars false
namespace Go.Ax
open Go.Proofs Go.RowKit
set_option maxRecDepth 100000

structure Ent where
 key:ByteArray
 seq:Int
 del:Bool
 val:ByteArray

abbrev bl (a b:List UInt8):Prop:=Op.bytesLess a b=true
theorem bl_cons {a b:UInt8} {x y:List UInt8}:bl (a::x) (b::y)↔a<b∨(a=b∧bl x y):=by
 simp only[bl,Op.bytesLess,Bool.or_eq_true,decide_eq_true_eq,Bool.and_eq_true,beq_iff_eq]
theorem bl_nil {b:UInt8} {y:List UInt8}:bl [] (b::y):=by simp[bl,Op.bytesLess]
theorem bl_app:∀ (p x y:List UInt8),bl (p++x) (p++y)↔bl x y
 | [],x,y=>Iff.rfl
 | a::p,x,y=>by
  rw[List.cons_append,List.cons_append,bl_cons,bl_app p x y]
  exact ⟨fun h=>h.elim (fun h=>absurd h (UInt8.lt_irrefl _)) (·.2),fun h=> .inr ⟨rfl,h⟩⟩
theorem bl_irr {x:List UInt8} (h:bl x x):False:=by rw[bl,ltB_irr] at h; cases h
theorem bl_trans {x y z:List UInt8} (h:bl x y) (g:bl y z):bl x z:=ltB_trans _ _ _ h g
theorem bl_tri (x y:List UInt8):bl x y∨x=y∨bl y x:=by
 by_cases h:bl x y
 ·exact .inl h
 ·by_cases g:bl y x
  ·exact .inr (.inr g)
  ·exact .inr (.inl (ltB_tri x y (by simpa [bl] using h) (by simpa [bl] using g)))

def escL:List UInt8→List UInt8
 | []=> []
 | c::l=>if c=0 then 0::255::escL l else c::escL l
theorem esc_lt:∀ (k l s t:List UInt8),bl k l→bl (escL k++0::1::s) (escL l++0::1::t)
 | [],[],s,t,h=>absurd h (by simp[bl,Op.bytesLess])
 | [],c::l,s,t,_=>by
  unfold escL
  split
  ·rename_i hc
   rw[List.nil_append,List.cons_append,List.cons_append,bl_cons,bl_cons]
   exact .inr ⟨rfl, .inl (by decide)⟩
  ·rename_i hc
   rw[List.nil_append,List.cons_append,bl_cons]
   refine .inl ?_
   rw[UInt8.lt_iff_toNat_lt]
   have:c.toNat≠0:=fun e=>hc (UInt8.toNat_inj.mp e)
   show 0<c.toNat
   omega
 | c::k,[],s,t,h=>absurd h (by simp[bl,Op.bytesLess])
 | c::k,d::l,s,t,h=>by
  rw[bl_cons] at h
  rcases h with h | ⟨rfl,h⟩
  ·have hd:d≠0:=fun e=>by
    rw[e,UInt8.lt_iff_toNat_lt] at h
    exact absurd h (Nat.not_lt_zero _)
   rw[show escL (d::l)=d::escL l by rw[escL,if_neg hd],List.cons_append]
   unfold escL
   split
   ·rename_i hc
    rw[List.cons_append,bl_cons]
    exact .inl (by rw[hc] at h; exact h)
   ·rw[List.cons_append,bl_cons]
    exact .inl h
  ·have ih:=esc_lt k l s t h
   unfold escL
   split
   ·rw[List.cons_append,List.cons_append,List.cons_append,List.cons_append,bl_cons,bl_cons]
    exact .inr ⟨rfl, .inr ⟨rfl,ih⟩⟩
   ·rw[List.cons_append,List.cons_append,bl_cons]
    exact .inr ⟨rfl,ih⟩

def beN (n:Nat):Nat→List UInt8
 | 0=> []
 | k+1=>UInt8.ofNat (n / 256 ^ k % 256)::beN n k
theorem beN_len (n:Nat):∀ k,(beN n k).length=k
 | 0=>rfl
 | k+1=>by simp[beN,beN_len n k]
theorem beN_lt (a b:Nat):∀ k,a % 256 ^ k<b % 256 ^ k→bl (beN a k) (beN b k)
 | 0,h=>by simp[Nat.mod_one] at h
 | k+1,h=>by
  rw[beN,beN,bl_cons]
  have ha:a % 256 ^ (k+1)=256 ^ k*(a / 256 ^ k % 256)+a % 256 ^ k:=by rw[Nat.pow_succ,Nat.mod_mul,Nat.add_comm]
  have hb:b % 256 ^ (k+1)=256 ^ k*(b / 256 ^ k % 256)+b % 256 ^ k:=by rw[Nat.pow_succ,Nat.mod_mul,Nat.add_comm]
  have h1:a % 256 ^ k<256 ^ k:=Nat.mod_lt _ (Nat.pow_pos (by decide))
  have h2:b % 256 ^ k<256 ^ k:=Nat.mod_lt _ (Nat.pow_pos (by decide))
  rw[ha,hb] at h
  rcases Nat.lt_trichotomy (a / 256 ^ k % 256) (b / 256 ^ k % 256) with e | e | e
  ·refine .inl ?_
   rw[UInt8.lt_iff_toNat_lt,UInt8.toNat_ofNat',UInt8.toNat_ofNat']
   omega
  ·refine .inr ⟨by rw[e],beN_lt a b k ?_⟩
   rw[e] at h
   omega
  ·exfalso
   have:256 ^ k*(b / 256 ^ k % 256)+256 ^ k≤256 ^ k*(a / 256 ^ k % 256):=by
    rw[←Nat.mul_succ]
    exact Nat.mul_le_mul_left _ e
   omega
def bigN (l:List UInt8):Nat:=l.foldl (fun n c=>n*256+c.toNat) 0
theorem big_acc:∀ (l:List UInt8) (a:Nat),l.foldl (fun n c=>n*256+c.toNat) a=a*256 ^ l.length+bigN l
 | [],a=>by simp[bigN]
 | c::l,a=>by
  unfold bigN
  rw[List.foldl_cons,List.foldl_cons,big_acc l,big_acc l (0*256+c.toNat),List.length_cons,Nat.pow_succ,Nat.add_mul,Nat.zero_mul,Nat.zero_add,Nat.mul_assoc,Nat.mul_comm 256 (256 ^ l.length)]
  omega
theorem big_be (n:Nat):∀ k,bigN (beN n k)=n % 256 ^ k
 | 0=>by simp[beN,bigN,Nat.mod_one]
 | k+1=>by
  rw[beN]
  unfold bigN
  have hu:(UInt8.ofNat (n / 256 ^ k % 256)).toNat=n / 256 ^ k % 256:=by
   rw[UInt8.toNat_ofNat']
   exact Nat.mod_eq_of_lt (Nat.mod_lt _ (by decide))
  have hm:n % 256 ^ (k+1)=n % 256 ^ k+256 ^ k*(n / 256 ^ k % 256):=by rw[Nat.pow_succ,Nat.mod_mul]
  rw[List.foldl_cons,big_acc,beN_len,big_be n k,hu,hm,Nat.zero_mul,Nat.zero_add,Nat.mul_comm,Nat.add_comm]
theorem bl_big:∀ (x y:List UInt8),x.length=y.length→(bl x y↔bigN x<bigN y)
 | [],[],_=>by simp[bl,Op.bytesLess,bigN]
 | [],_::_,h=>by simp at h
 | _::_,[],h=>by simp at h
 | a::x,b::y,h=>by
  have hl:x.length=y.length:=by simpa using h
  have ih:=bl_big x y hl
  have bx:∀ l:List UInt8,bigN l<256 ^ l.length:=fun l=>by
   induction l with
   | nil=>decide
   | cons c l ih=>
    unfold bigN
    rw[List.foldl_cons,big_acc,List.length_cons,Nat.pow_succ]
    have:=c.toNat_lt
    have h2:(0*256+c.toNat)*256 ^ l.length≤255*256 ^ l.length:=Nat.mul_le_mul_right _ (by omega)
    omega
  have h1:=bx x
  have h2:=bx y
  rw[←hl] at h2
  have e1:bigN (a::x)=a.toNat*256 ^ x.length+bigN x:=by
   conv=>lhs; unfold bigN
   rw[List.foldl_cons,big_acc,Nat.zero_mul,Nat.zero_add]
  have e2:bigN (b::y)=b.toNat*256 ^ x.length+bigN y:=by
   conv=>lhs; unfold bigN
   rw[List.foldl_cons,big_acc,Nat.zero_mul,Nat.zero_add,hl]
  rw[bl_cons,ih,e1,e2,UInt8.lt_iff_toNat_lt]
  constructor
  ·rintro (g | ⟨rfl,g⟩)
   ·have:a.toNat*256 ^ x.length+256 ^ x.length≤b.toNat*256 ^ x.length:=by
     rw[←Nat.succ_mul]
     exact Nat.mul_le_mul_right _ g
    omega
   ·omega
  ·intro g
   rcases Nat.lt_trichotomy a.toNat b.toNat with e | e | e
   ·exact .inl e
   ·refine .inr ⟨UInt8.toNat_inj.mp e,?_⟩
    rw[e] at g
    omega
   ·exfalso
    have:b.toNat*256 ^ x.length+256 ^ x.length≤a.toNat*256 ^ x.length:=by
     rw[←Nat.succ_mul]
     exact Nat.mul_le_mul_right _ e
    omega

def innN (x:Ent):Nat:=2*x.seq.toNat % 18446744073709551616+(if x.del then 0 else 1)
def innB (x:Ent):List UInt8:=escL x.key.data.toList++0::1::beN (18446744073709551615 - innN x) 8
def ltE (x y:Ent):Prop:=bl x.key.data.toList y.key.data.toList∨(x.key=y.key∧y.seq<x.seq)
def SeqOk (x:Ent):Prop:=0≤x.seq∧x.seq≤72057594037927935
theorem innN_lt {x:Ent} (h:SeqOk x):innN x=2*x.seq.toNat+(if x.del then 0 else 1)∧innN x<144115188075855872:=by
 have h1:=h.1
 have h2:=h.2
 unfold innN
 rw[Nat.mod_eq_of_lt (by omega)]
 refine ⟨rfl,?_⟩
 split <;> omega
theorem inn_lt {x y:Ent} (hx:SeqOk x) (hy:SeqOk y) (h:ltE x y):bl (innB x) (innB y):=by
 unfold innB
 rcases h with h | ⟨h,g⟩
 ·exact esc_lt _ _ _ _ h
 ·rw[h,bl_app,bl_cons]
  refine .inr ⟨rfl,?_⟩
  rw[bl_cons]
  refine .inr ⟨rfl,?_⟩
  have h1:=innN_lt hx
  have h2:=innN_lt hy
  have h3:=hx.1
  have h4:=hy.1
  apply beN_lt
  rw[Nat.mod_eq_of_lt (by omega),Nat.mod_eq_of_lt (by omega)]
  have:innN y<innN x:=by
   rw[h1.1,h2.1]
   split <;> split <;> omega
  omega
end Go.Ax

namespace Go.Ax
open Go.Proofs Go.RowKit
set_option maxRecDepth 100000

def outA:List UInt8→Option (List UInt8×List UInt8)
 | []=>some ([],[])
 | c::r=>match r with
  | []=>if c=0 then none else some ([c],[])
  | d::r'=>if c=0 then (if d=1 then some ([],c::d::r') else if d=255 then (outA r').map fun p=>(0::p.1,p.2) else none) else (outA (d::r')).map fun p=>(c::p.1,p.2)
def chkE (x:Ent):Int:=
 if x.key.size=0∨x.seq>72057594037927935∨(x.del=true∧x.val.size≠0) then 1 else if x.key.size>128∨x.val.size>65536 then 6 else 0
def noE:Ent:=⟨⟨#[]⟩,0,false,⟨#[]⟩⟩
def outI (s:List UInt8):Ent×Int:=
 match outA s with
 | none=>(noE,2)
 | some (k,r)=>
  if r.length≠10 then (noE,2) else
  if chkE ⟨⟨k.toArray⟩,((18446744073709551615 - bigN (r.drop 2)) / 2:Nat),decide ((18446744073709551615 - bigN (r.drop 2)) % 2=0),⟨#[]⟩⟩≠0 then (noE,2) else
  (⟨⟨k.toArray⟩,((18446744073709551615 - bigN (r.drop 2)) / 2:Nat),decide ((18446744073709551615 - bigN (r.drop 2)) % 2=0),⟨#[]⟩⟩,0)
theorem outA_esc:∀ (k t:List UInt8),outA (escL k++0::1::t)=some (k,0::1::t)
 | [],t=>by
  show outA (0::1::t)=_
  unfold outA
  simp
 | c::k,t=>by
  have ih:=outA_esc k t
  unfold escL
  by_cases hc:c=0
  ·subst hc
   rw[if_pos rfl]
   show outA (0::255::(escL k++0::1::t))=_
   rw[outA]
   simp only[if_true]
   rw[if_neg (by decide),ih]
   rfl
  ·rw[if_neg hc,List.cons_append]
   cases he:escL k++0::1::t with
   | nil=>simp at he
   | cons d r=>
    rw[he] at ih
    rw[outA,if_neg hc,ih]
    rfl
theorem out_inn {x:Ent} (hs:0≤x.seq) (h:chkE x=0):outI (innB x)=(⟨x.key,x.seq,x.del,⟨#[]⟩⟩,0):=by
 have hb:¬(x.key.size=0∨x.seq>72057594037927935∨(x.del=true∧x.val.size≠0)):=fun e=>by
  unfold chkE at h
  rw[if_pos e] at h
  cases h
 have hl:¬(x.key.size>128∨x.val.size>65536):=fun e=>by
  unfold chkE at h
  rw[if_neg hb,if_pos e] at h
  cases h
 have hq:SeqOk x:=⟨hs,by omega⟩
 obtain ⟨n1,n2⟩:=innN_lt hq
 unfold outI innB
 rw[outA_esc]
 simp only[List.length_cons,beN_len,List.drop_succ_cons,List.drop_zero]
 rw[if_neg (by decide),big_be,Nat.mod_eq_of_lt (by omega),show 18446744073709551615 - (18446744073709551615 - innN x)=innN x by omega]
 have e1:((innN x / 2:Nat):Int)=x.seq:=by
  rw[n1]
  split <;> omega
 have e2:decide (innN x % 2=0)=x.del:=by
  rw[n1]
  cases x.del
  ·rw[if_neg (by decide)]; exact decide_eq_false (by omega)
  ·rw[if_pos rfl]; exact decide_eq_true (by omega)
 rw[e1,e2]
 have ek:(⟨x.key.data.toList.toArray⟩:ByteArray)=x.key:=by simp
 rw[ek]
 have hc:chkE ⟨x.key,x.seq,x.del,⟨#[]⟩⟩=0:=by
  unfold chkE
  rw[if_neg,if_neg]
  ·rintro (e | e)
   ·exact hl (.inl e)
   ·exact absurd e (show ¬(0>65536) by decide)
  ·rintro (e | e | e)
   ·exact hb (.inl e)
   ·exact hb (.inr (.inl e))
   ·exact absurd rfl e.2
 rw[if_neg (by rw[hc]; decide)]
end Go.Ax

namespace Go.Ax
open Go.Proofs Go.RowKit
set_option maxRecDepth 100000

theorem wp_fork {x y:Tree} {K:AE→St→Prop} (hx:x.wp K) (hy:y.wp K):(Tree.fork x y).wp K:=⟨hx,hy⟩

end Go.Ax

namespace Go.Ax
open Go.Proofs Go.RowKit
set_option maxRecDepth 100000

end Go.Ax

namespace Go.Ax
open Go.Proofs Go.RowKit
set_option maxRecDepth 100000

theorem getA_app:∀ (b r:List UInt8) (i a:Nat),(getA i a b).2.2=0→getA i a (b++r)=getA i a b
 | [],r,i,a,h=>by simp[getA] at h
 | c::b,r,i,a,h=>by
  have ih:=getA_app b r (i+1) (a+c.toNat % 128*2 ^ (7*i))
  rw[List.cons_append]
  unfold getA at h ⊢
  split
  ·rfl
  ·rename_i h1
   rw[if_neg h1] at h
   split
   ·rfl
   ·rename_i h2
    rw[if_neg h2] at h
    exact ih h
theorem getI_app {g:Int} (h:0≤g∧g<18446744073709551616) (r:List UInt8):getI (putI g++r)=(g,((putI g).length:Int),0):=by
 have h1:=getI_put h
 have h2:(getA 0 0 (putI g)).2.2=0:=by
  have:=congrArg (fun x=>x.2.2) h1
  unfold getI at this
  simp only at this
  omega
 rw[←h1]
 unfold getI
 rw[getA_app _ r 0 0 h2]

end Go.Ax

namespace Go.Ax
open Go.Proofs Go.RowKit
set_option maxRecDepth 100000

structure Par where
 name:ByteArray
 val:ByteArray
abbrev Par.nl (p:Par):List UInt8:=p.name.data.toList
abbrev Par.vl (p:Par):List UInt8:=p.val.data.toList
def comN:List UInt8→List UInt8→Nat
 | a::x,b::y=>if a=b then comN x y+1 else 0
 | _,_=>0
theorem comN_le:∀ x y:List UInt8,comN x y≤x.length∧comN x y≤y.length
 | [],_=>by simp[comN]
 | _::_,[]=>by simp[comN]
 | a::x,b::y=>by
  have:=comN_le x y
  unfold comN
  split <;> simp <;> omega
theorem comN_take:∀ x y:List UInt8,x.take (comN x y)=y.take (comN x y)
 | [],_=>by simp[comN]
 | _::_,[]=>by simp[comN]
 | a::x,b::y=>by
  unfold comN
  split
  ·rename_i h
   rw[List.take_succ_cons,List.take_succ_cons,comN_take x y,h]
  ·rfl
def sameN (i:Nat) (last n:List UInt8):Nat:=if i % 8=0 then 0 else comN last n
def entB (k:Nat) (p:Par):List UInt8:=putI k++putI ((p.nl.length:Int) - k)++putI p.vl.length++p.nl.drop k++p.vl
def mkP:Nat→List UInt8→List Par→List UInt8→List UInt8→Nat→List UInt8×Int
 | _,_,[],b,w,c=>(b++w++leI c 4,0)
 | i,last,p::L,b,w,c=>
  if i>0∧¬bl last p.nl then ([],1) else
  if (b++entB (sameN i last p.nl) p).length>262144 then ([],6) else
  mkP (i+1) p.nl L (b++entB (sameN i last p.nl) p) (if i % 8=0 then w++leI b.length 4 else w) (if i % 8=0 then c+1 else c)
def mkI (L:List Par):List UInt8×Int:=mkP 0 [] L [] [] 0
def oneI (N:Nat) (r last:List UInt8):Option (Par×List UInt8):=
 let r1:=r.drop (getI r).2.1.toNat
 let r2:=r1.drop (getI r1).2.1.toNat
 let r3:=r2.drop (getI r2).2.1.toNat
 if (getI r).2.2≠0∨(getI r).1>N then none else
 if (getI r1).2.2≠0∨(getI r1).1>N then none else
 if (getI r2).2.2≠0∨(getI r2).1>N then none else
 if (getI r).1>last.length∨(getI r1).1+(getI r2).1>r3.length then none else
 some (⟨⟨(last.take (getI r).1.toNat++r3.take (getI r1).1.toNat).toArray⟩,⟨((r3.drop (getI r1).1.toNat).take (getI r2).1.toNat).toArray⟩⟩,r3.drop ((getI r1).1+(getI r2).1).toNat)
def readA (N:Nat):Nat→List UInt8→List UInt8→Option (List Par)
 | _,[],_=>some []
 | 0,_::_,_=>none
 | f+1,c::r,last=>match oneI N (c::r) last with
  | none=>none
  | some (p,r')=>(readA N f r' p.nl).map (p :: ·)

def bodyL:Nat→List UInt8→List Par→List UInt8
 | _,_,[]=> []
 | i,last,p::L=>entB (sameN i last p.nl) p++bodyL (i+1) p.nl L
def wholeL:Nat→Nat→List UInt8→List Par→List UInt8
 | _,_,_,[]=> []
 | o,i,last,p::L=>(if i % 8=0 then leI o 4 else [])++wholeL (o+(entB (sameN i last p.nl) p).length) (i+1) p.nl L
def cntL:Nat→List Par→Nat
 | _,[]=>0
 | i,_::L=>(if i % 8=0 then 1 else 0)+cntL (i+1) L
def upL:List UInt8→List Par→Prop
 | _,[]=>True
 | last,p::L=>bl last p.nl∧upL p.nl L
def upL0:List Par→Prop
 | []=>True
 | p::L=>upL p.nl L
theorem mkP_ok:∀ (L:List Par) (i:Nat) (last b w:List UInt8) (c:Nat),(i=0→∀ p M,L=p::M→upL p.nl M)→(0<i→upL last L)→(b++bodyL i last L).length≤262144 →
  mkP i last L b w c=(b++bodyL i last L++(w++wholeL b.length i last L)++leI ((c+cntL i L:Nat):Int) 4,0)
 | [],i,last,b,w,c,_,_,_=>by simp[mkP,bodyL,wholeL,cntL]
 | p::L,i,last,b,w,c,h0,h1,hl=>by
  have hup:upL p.nl L:=by
   rcases Nat.eq_zero_or_pos i with e | e
   ·exact h0 e p L rfl
   ·exact (h1 e).2
  have hnb:¬(i>0∧¬bl last p.nl):=fun e=>e.2 (h1 e.1).1
  have e2:b++bodyL i last (p::L)=(b++entB (sameN i last p.nl) p)++bodyL (i+1) p.nl L:=by rw[bodyL,List.append_assoc]
  rw[e2] at hl
  have hle:(b++entB (sameN i last p.nl) p).length≤262144:=by
   rw[List.length_append] at hl
   omega
  rw[mkP,if_neg hnb,if_neg (by omega),mkP_ok L (i+1) p.nl _ _ _ (fun e=>absurd e (by omega)) (fun _=>hup) hl,e2]
  congr 1
  have e3:wholeL b.length i last (p::L)=(if i % 8=0 then leI b.length 4 else [])++wholeL (b++entB (sameN i last p.nl) p).length (i+1) p.nl L:=by rw[wholeL,List.length_append]
  have e4:cntL i (p::L)=(if i % 8=0 then 1 else 0)+cntL (i+1) L:=rfl
  rw[e3,e4]
  by_cases h8:i % 8=0
  ·rw[if_pos h8,if_pos h8,if_pos h8,if_pos h8,List.append_assoc w,Nat.add_assoc]
  ·rw[if_neg h8,if_neg h8,if_neg h8,if_neg h8,List.nil_append,Nat.zero_add]
theorem putI_len1 (g:Int):1≤(putI g).length:=by
 unfold putI
 rw[putN]
 split <;> simp
theorem sameN_le (i:Nat) (last n:List UInt8):sameN i last n≤last.length∧sameN i last n≤n.length:=by
 unfold sameN
 split
 ·omega
 ·exact comN_le _ _
theorem sameN_take (i:Nat) (last n:List UInt8):last.take (sameN i last n)=n.take (sameN i last n):=by
 unfold sameN
 split
 ·rfl
 ·exact comN_take _ _
theorem entB_len (k:Nat) (p:Par) (hk:k≤p.nl.length):(entB k p).length=(putI k).length+(putI ((p.nl.length:Int) - k)).length+(putI p.vl.length).length+(p.nl.length - k)+p.vl.length:=by
 simp only[entB,List.length_append,List.length_drop]
theorem one_ent {N i:Nat} {last:List UInt8} {p:Par} (hN:N≤1000000000) (hl:last.length≤N) (hn:p.nl.length≤N) (hv:p.vl.length≤N) (r:List UInt8):oneI N (entB (sameN i last p.nl) p++r) last=some (p,r):=by
 obtain ⟨s1,s2⟩:=sameN_le i last p.nl
 have st:=sameN_take i last p.nl
 generalize sameN i last p.nl=k at s1 s2 st
 have g0:=getI_app (g:=(k:Int)) (by omega) (putI ((p.nl.length:Int) - k)++(putI p.vl.length++(p.nl.drop k++(p.vl++r))))
 have g1:=getI_app (g:=(p.nl.length:Int) - k) (by omega) (putI p.vl.length++(p.nl.drop k++(p.vl++r)))
 have g2:=getI_app (g:=(p.vl.length:Int)) (by omega) (p.nl.drop k++(p.vl++r))
 have e:entB k p++r=putI k++(putI ((p.nl.length:Int) - k)++(putI p.vl.length++(p.nl.drop k++(p.vl++r)))):=by simp[entB]
 have d:∀ (x y:List UInt8),(x++y).drop (x.length:Int).toNat=y:=fun x y=>by rw[Int.toNat_natCast]; exact List.drop_left
 rw[e]
 unfold oneI
 simp only[g0,d,g1,g2]
 rw[if_neg (by omega),if_neg (by omega),if_neg (by omega),if_neg (by simp only[List.length_append,List.length_drop]; omega)]
 congr 2
 ·have t1:(p.nl.drop k++(p.vl++r)).take ((p.nl.length:Int) - k).toNat=p.nl.drop k:=List.take_left' (by rw[List.length_drop]; omega)
  have t2:(p.nl.drop k++(p.vl++r)).drop ((p.nl.length:Int) - k).toNat=p.vl++r:=List.drop_left' (by rw[List.length_drop]; omega)
  rw[t1,t2,Int.toNat_natCast,Int.toNat_natCast,List.take_left,st,List.take_append_drop]
 ·rw[←List.append_assoc]
  exact List.drop_left' (by rw[List.length_append,List.length_drop]; omega)
theorem read_body:∀ (L:List Par) (i f N P:Nat) (last:List UInt8),N≤1000000000→last.length≤P→P+(bodyL i last L).length≤N→L.length≤f→readA N f (bodyL i last L) last=some L
 | [],i,f,N,P,last,_,_,_,_=>by cases f <;> rfl
 | p::L,i,0,N,P,last,_,_,_,h=>by simp at h
 | p::L,i,f+1,N,P,last,hN,h1,h2,h3=>by
  obtain ⟨s1,s2⟩:=sameN_le i last p.nl
  have hlen:=entB_len _ p s2
  rw[bodyL,List.length_append] at h2
  have ih:=read_body L (i+1) f N (P+(entB (sameN i last p.nl) p).length) p.nl hN (by omega) (by omega) (by simpa using h3)
  have h1e:=one_ent (N:=N) (i:=i) (last:=last) (p:=p) hN (by omega) (by omega) (by omega) (bodyL (i+1) p.nl L)
  have hne:=putI_len1 (sameN i last p.nl)
  rw[bodyL]
  cases hc:entB (sameN i last p.nl) p++bodyL (i+1) p.nl L with
  | nil=>
   have:=congrArg List.length hc
   rw[List.length_append,List.length_nil] at this
   omega
  | cons c r=>
   rw[hc] at h1e
   rw[readA,h1e]
   simp only
   rw[ih]
   rfl
end Go.Ax

namespace Go.Ax
open Go.Proofs Go.RowKit
set_option maxRecDepth 100000

theorem wholeL_len:∀ (L:List Par) (o i:Nat) (last:List UInt8),(wholeL o i last L).length=4*cntL i L
 | [],_,_,_=>rfl
 | p::L,o,i,last=>by
  have ih:=wholeL_len L (o+(entB (sameN i last p.nl) p).length) (i+1) p.nl
  rw[wholeL,cntL,List.length_append,ih]
  split
  ·rw[leI_len]; show 4+_=_; omega
  ·simp
theorem cntL_le:∀ (L:List Par) (i:Nat),cntL i L≤L.length
 | [],_=>Nat.le_refl _
 | p::L,i=>by
  have:=cntL_le L (i+1)
  rw[cntL,List.length_cons]
  split <;> omega
theorem body_len:∀ (L:List Par) (i:Nat) (last:List UInt8),3*L.length≤(bodyL i last L).length
 | [],_,_=>Nat.le_refl _
 | p::L,i,last=>by
  obtain ⟨_,s2⟩:=sameN_le i last p.nl
  have:=body_len L (i+1) p.nl
  have h:=entB_len _ p s2
  have a:=putI_len1 (sameN i last p.nl)
  have b:=putI_len1 ((p.nl.length:Int) - sameN i last p.nl)
  have c:=putI_len1 p.vl.length
  rw[bodyL,List.length_append,List.length_cons]
  omega
def endI (b:List UInt8):Nat:=b.length - 4 - 4*(littleI (b.drop (b.length - 4))).toNat
def parI (b:List UInt8):Option (List Par):=
 if b.length<4 then none else
 if littleI (b.drop (b.length - 4))>((b.length - 4) / 4:Nat) then none else
 match readA (endI b) (endI b) (b.take (endI b)) [] with
 | none=>none
 | some L=>if (mkI L).2≠0∨(mkI L).1≠b then none else some L
theorem mkI_ok {L:List Par} (h:upL0 L) (hl:(bodyL 0 [] L).length≤262144):mkI L=(bodyL 0 [] L++wholeL 0 0 [] L++leI (cntL 0 L:Nat) 4,0):=by
 unfold mkI
 rw[mkP_ok L 0 [] [] [] 0 (fun _ p M e=>by subst e; exact h) (fun h=>absurd h (by omega)) (by simpa using hl)]
 simp
theorem par_mk {L:List Par} (h:upL0 L) (hl:(bodyL 0 [] L).length≤262144):parI (mkI L).1=some L∧endI (mkI L).1=(bodyL 0 [] L).length∧(mkI L).1.take (bodyL 0 [] L).length=bodyL 0 [] L:=by
 have hm:=mkI_ok h hl
 have hc:=cntL_le L 0
 have hb:=body_len L 0 []
 have hw:=wholeL_len L 0 0 []
 have h4:(leI (cntL 0 L:Nat) 4).length=4:=leI_len _ _
 have hlen:(mkI L).1.length=(bodyL 0 [] L).length+4*cntL 0 L+4:=by rw[hm]; simp only[List.length_append]; omega
 have hd:(mkI L).1.drop ((mkI L).1.length - 4)=leI (cntL 0 L:Nat) 4:=by
  rw[hlen,hm]
  exact List.drop_left' (by rw[List.length_append,hw]; omega)
 have hlt:littleI (leI (cntL 0 L:Nat) 4)=(cntL 0 L:Nat):=little_le (by omega)
 have he:endI (mkI L).1=(bodyL 0 [] L).length:=by unfold endI; rw[hd,hlt,hlen]; omega
 have ht:(mkI L).1.take (bodyL 0 [] L).length=bodyL 0 [] L:=by
  rw[hm,List.append_assoc]
  exact List.take_left
 have hr:=read_body L 0 (bodyL 0 [] L).length (bodyL 0 [] L).length 0 [] (by omega) (Nat.le_refl _) (by omega) (by omega)
 refine ⟨?_,he,ht⟩
 unfold parI
 rw[if_neg (by omega),hd,hlt,if_neg (by omega),he,ht,hr]
 simp only
 rw[if_neg]
 rintro (e | e)
 ·rw[hm] at e; exact e rfl
 ·exact e rfl
end Go.Ax

namespace Go.Ax
open Go.Proofs Go.RowKit
set_option maxRecDepth 100000

def ofE (x:Ent):Par:=⟨⟨(innB x).toArray⟩,x.val⟩
theorem ofE_nl (x:Ent):(ofE x).nl=innB x:=by simp[ofE,Par.nl]
def szE (x:Ent):Nat:=x.key.size+x.val.size
def chunks:List Ent→Nat→List Ent→List (List Ent)
 | [],_,cur=>if cur= [] then [] else [cur]
 | x::L,sz,cur=>if sz+szE x<1024∧L≠ [] then chunks L (sz+szE x) (cur++ [x]) else (cur++ [x])::chunks L 0 []
theorem chunks_flat:∀ (L:List Ent) (sz:Nat) (cur:List Ent),(chunks L sz cur).flatten=cur++L
 | [],sz,cur=>by
  unfold chunks
  split
  ·rename_i h; rw[h]; rfl
  ·simp
 | x::L,sz,cur=>by
  unfold chunks
  split
  ·rw[chunks_flat L]; simp
  ·rw[List.flatten_cons,chunks_flat L]; simp
theorem chunks_ne:∀ (L:List Ent) (sz:Nat) (cur:List Ent),∀ c∈chunks L sz cur,c≠ []
 | [],sz,cur,c,h=>by
  unfold chunks at h
  split at h
  ·simp at h
  ·rename_i hn
   rw[List.mem_singleton.1 h]; exact hn
 | x::L,sz,cur,c,h=>by
  unfold chunks at h
  split at h
  ·exact chunks_ne L _ _ c h
  ·rcases List.mem_cons.1 h with rfl | h
   ·simp
   ·exact chunks_ne L _ _ c h
theorem chunks_size:∀ (L:List Ent) (sz:Nat) (cur:List Ent) (m:Nat),(∀ x∈L,szE x≤m)→(cur.map szE).sum=sz→sz≤1024→∀ c∈chunks L sz cur,(c.map szE).sum≤1024+m
 | [],sz,cur,m,_,hs,hz,c,h=>by
  unfold chunks at h
  split at h
  ·simp at h
  ·rw[List.mem_singleton.1 h]; omega
 | x::L,sz,cur,m,hm,hs,hz,c,h=>by
  have hx:=hm x (by simp)
  have hL:∀ y∈L,szE y≤m:=fun y hy=>hm y (by simp[hy])
  unfold chunks at h
  split at h
  ·rename_i hc
   exact chunks_size L _ _ m hL (by simp[hs]) (by omega) c h
  ·rcases List.mem_cons.1 h with rfl | h
   ·simp only[List.map_append,List.map_cons,List.map_nil,List.sum_append,List.sum_cons,List.sum_nil]
    omega
   ·exact chunks_size L 0 [] m hL rfl (by omega) c h
def pageB (c:List Ent):List UInt8:=recB (mkI (c.map ofE)).1
def lastE (c:List Ent):Ent:=c.getLastD noE
def idxL:Nat→List (List Ent)→List Par
 | _,[]=> []
 | o,c::C=>⟨⟨(innB (lastE c)).toArray⟩,⟨(putI o++putI (pageB c).length).toArray⟩⟩::idxL (o+(pageB c).length) C
def pagesB:List (List Ent)→List UInt8
 | []=> []
 | c::C=>pageB c++pagesB C
def namesL:List Ent→List ByteArray→List ByteArray
 | [],N=>N
 | x::L,N=>namesL L (if N.getLast? = some x.key then N else N++ [x.key])
structure GoodE (L:List Ent):Prop where
 chk:∀ x∈L,chkE x=0
 seq:∀ x∈L,0≤x.seq
 up:L.Pairwise ltE
theorem chk_seq {x:Ent} (h:chkE x=0) (hs:0≤x.seq):SeqOk x:=by
 refine ⟨hs,?_⟩
 unfold chkE at h
 split at h
 ·cases h
 ·omega
theorem chk_key {x:Ent} (h:chkE x=0):1≤x.key.size∧x.key.size≤128∧x.val.size≤65536:=by
 unfold chkE at h
 split at h
 ·cases h
 ·split at h
  ·cases h
  ·omega
theorem upL_of:∀ (L:List Ent) (last:List UInt8),(∀ x∈L,bl last (innB x))→L.Pairwise (fun x y=>bl (innB x) (innB y))→upL last (L.map ofE)
 | [],_,_,_=>trivial
 | x::L,last,h,hp=>by
  rw[List.map_cons]
  refine ⟨by rw[ofE_nl]; exact h x (by simp),?_⟩
  rw[ofE_nl]
  exact upL_of L _ (fun y hy=>List.rel_of_pairwise_cons hp hy) hp.of_cons
theorem upL0_of {L:List Ent} (h:L.Pairwise (fun x y=>bl (innB x) (innB y))):upL0 (L.map ofE):=by
 cases L with
 | nil=>trivial
 | cons x L=>
  show upL (ofE x).nl (L.map ofE)
  rw[ofE_nl]
  exact upL_of L _ (fun y hy=>List.rel_of_pairwise_cons h hy) h.of_cons
theorem GoodE.inn {L:List Ent} (h:GoodE L):L.Pairwise (fun x y=>bl (innB x) (innB y)):=by
 refine List.Pairwise.imp_of_mem (fun {a b} ha hb hab=>inn_lt (chk_seq (h.chk a ha) (h.seq a ha)) (chk_seq (h.chk b hb) (h.seq b hb)) hab) h.up
theorem GoodE.sub {L M:List Ent} (h:GoodE L) (hs:M.Sublist L):GoodE M:=⟨fun x hx=>h.chk x (hs.subset hx),fun x hx=>h.seq x (hs.subset hx),h.up.sublist hs⟩
theorem esc_len:∀ l:List UInt8,(escL l).length≤2*l.length
 | []=>Nat.le_refl _
 | c::l=>by
  have:=esc_len l
  unfold escL
  split <;> simp <;> omega
theorem inn_len {x:Ent} (h:chkE x=0):(innB x).length≤266:=by
 have:=esc_len x.key.data.toList
 have hk:=chk_key h
 have hl:x.key.data.toList.length=x.key.size:=rfl
 unfold innB
 simp only[List.length_append,List.length_cons,beN_len]
 omega
theorem ent_len {i:Nat} {last:List UInt8} {x:Ent} (h:chkE x=0):(entB (sameN i last (ofE x).nl) (ofE x)).length≤300+szE x:=by
 obtain ⟨s1,s2⟩:=sameN_le i last (ofE x).nl
 have h1:=entB_len _ _ s2
 have hi:=inn_len h
 rw[←ofE_nl] at hi
 have hk:=chk_key h
 have hv:(ofE x).vl.length=x.val.size:=rfl
 have p1:=putI_len (sameN i last (ofE x).nl) (by omega)
 have p2:=putI_len (((ofE x).nl.length:Int) - sameN i last (ofE x).nl) (by omega)
 have p3:=putI_len ((ofE x).vl.length:Int) (by omega)
 unfold szE
 omega
theorem body_le:∀ (L:List Ent) (i:Nat) (last:List UInt8),(∀ x∈L,chkE x=0)→(bodyL i last (L.map ofE)).length≤300*L.length+(L.map szE).sum
 | [],_,_,_=>by simp[bodyL]
 | x::L,i,last,h=>by
  have ih:=body_le L (i+1) (ofE x).nl (fun y hy=>h y (by simp[hy]))
  have he:=ent_len (i:=i) (last:=last) (h x (by simp))
  rw[List.map_cons,bodyL,List.length_append,List.length_cons,List.map_cons,List.sum_cons]
  omega
end Go.Ax

namespace Go.Ax
open Go.Proofs Go.RowKit
set_option maxRecDepth 100000

end Go.Ax

namespace Go.Ax
open Go.Proofs Go.RowKit
set_option maxRecDepth 100000

def posA (n b:Nat):Nat→Nat→List Nat
 | 0,_=> []
 | k+1,a=>a*n / 4294967296::posA n b k ((a+b) % 4294967296)
def bloomH (s:List UInt8):Nat:=(crcI s).toNat
def bloomS (s:List UInt8):Nat:=(maskI (crcI s)).toNat ||| 1
def posL (s:List UInt8) (n:Nat):List Nat:=posA n (bloomS s) 6 (bloomH s)
def setB (bits:List UInt8) (i:Nat):List UInt8:=bits.modify (i / 8) fun x=>x ||| UInt8.ofNat (2 ^ (i % 8))
def tstB (bits:List UInt8) (i:Nat):Bool:=(bits.getD (i / 8) 0).toNat / 2 ^ (i % 8) % 2 == 1
def setL (bits:List UInt8) (P:List Nat):List UInt8:=P.foldl setB bits
def bloomI (N:List ByteArray):List UInt8:=N.foldl (fun bits s=>setL bits (posL s.data.toList (8*bits.length))) (List.replicate (max ((N.length*10+7) / 8) 8) 0)
def mayI (bits:List UInt8) (s:ByteArray):Bool:=decide (0<bits.length)&&(posL s.data.toList (8*bits.length)).all (tstB bits)
theorem setB_len (bits:List UInt8) (i:Nat):(setB bits i).length=bits.length:=List.length_modify _ _ _
theorem setL_len:∀ (P:List Nat) (bits:List UInt8),(setL bits P).length=bits.length
 | [],_=>rfl
 | i::P,bits=>by
  show (setL (setB bits i) P).length=_
  rw[setL_len P,setB_len]
theorem tst_or (x:UInt8) (i j:Nat) (hi:i<8) (hj:j<8):(x ||| UInt8.ofNat (2 ^ i)).toNat / 2 ^ j % 2=if i=j then 1 else x.toNat / 2 ^ j % 2:=by
 have hx:=x.toNat_lt
 have e:(x ||| UInt8.ofNat (2 ^ i)).toNat=x.toNat ||| 2 ^ i:=by
  rw[UInt8.toNat_or,UInt8.toNat_ofNat']
  congr 1
  have:2 ^ i≤2 ^ 7:=Nat.pow_le_pow_right (by decide) (by omega)
  exact Nat.mod_eq_of_lt (by omega)
 have t:∀ n:Nat,n / 2 ^ j % 2=(n.testBit j).toNat:=fun n=>by
  rw[Nat.testBit_eq_decide_div_mod_eq]
  rcases Nat.mod_two_eq_zero_or_one (n / 2 ^ j) with h | h <;> simp[h]
 rw[e,t,t,Nat.testBit_or,Nat.testBit_two_pow]
 by_cases h:i=j
 ·rw[if_pos h,decide_eq_true h,Bool.or_true]; rfl
 ·rw[if_neg h,decide_eq_false h,Bool.or_false]
theorem tst_set {bits:List UInt8} {i:Nat} (hi:i<8*bits.length) (j:Nat):tstB (setB bits i) j=(decide (i=j)||tstB bits j):=by
 unfold tstB setB
 by_cases h:i / 8=j / 8
 ·have hlt:i / 8<bits.length:=by omega
  have e1:(bits.modify (i / 8) fun x=>x ||| UInt8.ofNat (2 ^ (i % 8))).getD (j / 8) 0=bits[i / 8] ||| UInt8.ofNat (2 ^ (i % 8)):=by
   rw[←h,List.getD_eq_getElem?_getD,List.getElem?_modify_eq,List.getElem?_eq_getElem hlt]
   rfl
  have e2:bits.getD (j / 8) 0=bits[i / 8]:=by rw[←h,List.getD_eq_getElem?_getD,List.getElem?_eq_getElem hlt]; rfl
  rw[e1,e2,tst_or _ _ _ (by omega) (by omega)]
  by_cases h2:i=j
  ·subst h2; simp
  ·rw[if_neg (by omega),decide_eq_false h2,Bool.false_or]
 ·rw[List.getD_eq_getElem?_getD,List.getElem?_modify_ne _ _ h,←List.getD_eq_getElem?_getD,decide_eq_false (by omega),Bool.false_or]
theorem tst_setL:∀ (P:List Nat) (bits:List UInt8) (j:Nat),(∀ i∈P,i<8*bits.length)→(j∈P∨tstB bits j=true)→tstB (setL bits P) j=true
 | [],bits,j,_,h=>h.resolve_left (by simp)
 | i::P,bits,j,hP,h=>by
  show tstB (setL (setB bits i) P) j=true
  refine tst_setL P _ j (fun k hk=>by rw[setB_len]; exact hP k (by simp[hk])) ?_
  rw[tst_set (hP i (by simp))]
  rcases h with h | h
  ·rcases List.mem_cons.1 h with rfl | h
   ·exact .inr (by simp)
   ·exact .inl h
  ·exact .inr (by rw[h,Bool.or_true])
theorem posA_lt {n b:Nat} (hn:0<n):∀ (k a:Nat),a<4294967296→∀ i∈posA n b k a,i<n
 | 0,_,_,i,h=>by simp[posA] at h
 | k+1,a,ha,i,h=>by
  unfold posA at h
  rcases List.mem_cons.1 h with rfl | h
  ·exact Nat.div_lt_of_lt_mul (Nat.mul_lt_mul_of_pos_right ha hn)
  ·exact posA_lt hn k _ (Nat.mod_lt _ (by decide)) i h
theorem pos_lt {s:List UInt8} {n:Nat} (hn:0<n):∀ i∈posL s n,i<n:=posA_lt hn 6 _ (by
 have:=crcI_b s
 unfold bloomH
 omega)
theorem bloomF_len (N:List ByteArray):∀ bits:List UInt8,(N.foldl (fun bits s=>setL bits (posL s.data.toList (8*bits.length))) bits).length=bits.length:=by
 induction N with
 | nil=>intro _; rfl
 | cons s N ih=>intro bits; rw[List.foldl_cons,ih,setL_len]
theorem bloomF_has (N:List ByteArray):∀ (bits:List UInt8) (j:Nat),0<bits.length→((∃ s∈N,j∈posL s.data.toList (8*bits.length))∨tstB bits j=true)→tstB (N.foldl (fun bits s=>setL bits (posL s.data.toList (8*bits.length))) bits) j=true:=by
 induction N with
 | nil=>intro bits j _ h; exact h.resolve_left (by simp)
 | cons s N ih=>
  intro bits j h0 h
  rw[List.foldl_cons]
  refine ih _ j (by rw[setL_len]; exact h0) ?_
  rw[setL_len]
  have hp:=pos_lt (s:=s.data.toList) (n:=8*bits.length) (by omega)
  rcases h with ⟨t,ht,hj⟩ | h
  ·rcases List.mem_cons.1 ht with rfl | ht
   ·exact .inr (tst_setL _ _ _ hp (.inl hj))
   ·exact .inl ⟨t,ht,hj⟩
  ·exact .inr (tst_setL _ _ _ hp (.inr h))
theorem bloom_len (N:List ByteArray):(bloomI N).length=max ((N.length*10+7) / 8) 8:=by
 unfold bloomI
 rw[bloomF_len,List.length_replicate]
theorem may_of {N:List ByteArray} {s:ByteArray} (h:s∈N):mayI (bloomI N) s=true:=by
 have hl:=bloom_len N
 unfold mayI
 rw[decide_eq_true (by omega),Bool.true_and,List.all_eq_true]
 intro j hj
 unfold bloomI
 refine bloomF_has N _ j (by rw[List.length_replicate]; omega) (.inl ⟨s,h,?_⟩)
 rw[List.length_replicate,←hl]
 exact hj

/-- The record that stands somewhere. -/
def getF (c:List UInt8) (at_ n:Int):List UInt8×Int:=
 if at_<0∨n<0∨at_>c.length then ([],12) else
 if (nextI ((c.drop at_.toNat).take (min n (c.length - at_)).toNat)).2.2≠0∨(nextI ((c.drop at_.toNat).take (min n (c.length - at_)).toNat)).2.1≠n then ([],12) else
 ((nextI ((c.drop at_.toNat).take (min n (c.length - at_)).toNat)).1,0)
theorem get_rec {A d B:List UInt8} (hd:d.length≤1048576):getF (A++(recB d++B)) A.length (recB d).length=(d,0):=by
 have hr:(recB d).length=d.length+12:=recB_len d
 have e:((A++(recB d++B)).drop (A.length:Int).toNat).take (min ((recB d).length:Int) ((A++(recB d++B)).length - (A.length:Int))).toNat=recB d:=by
  rw[Int.toNat_natCast,List.drop_left]
  refine List.take_left' ?_
  simp only[List.length_append]
  omega
 have hn:=next_rec hd []
 rw[List.append_nil] at hn
 unfold getF
 rw[if_neg (by simp only[List.length_append]; omega),e,hn,if_neg]
 rintro (h | h)
 ·exact h rfl
 ·simp only at h
  omega
end Go.Ax
