/- Read, New, the small ones, bytes in a live row: contracts of the disk as an object. -/
import Derived.Test.YtddkloofiknjdaaDoorG23
import Derived.Test.YtddkloofiknjdaaDoorG20
import Derived.Test.YtddkloofiknjdaaDoorG21
import Derived.Shelf.SlIter.Nil
import Derived.Shelf.SortM.Plain
import Derived.Shelf.SortM.SortNone
import Derived.WalkKit
import Derived.ProofKit
import Derived.OwnWalk
import Derived.Lib.Walk
import Derived.Lib.SliceRun
import Derived.Laws.AppendOwn
import Derived.Test.YtddkloofiknjdaaDoorTie
import Derived.Test.YtddkloofiknjdaaDoorG11
import Derived.OpenShut
import Derived.LaidMore
import Derived.LaidLaws
import Derived.LaidHandle
import Derived.Lib.LaidTab
import Derived.Stop.Joined
set_option linter.unusedVariables false
set_option linter.unusedSimpArgs false
set_option linter.unusedSectionVars false
namespace Go.Ax
open Go.Proofs Go.RowKit
set_option maxRecDepth 100000

theorem obAR {fn:Func} {D:Dsk} {al:List AV} {bs:List UInt8} {e:Int} (hal:al.all isP=true)
  (h:∀ hid,hid.map (·.1)=strsV (D.files.map (·.name))→RG fn (.ptr 0 0 0::al) (flatB D [] hid) (.tup [.rs 2 0 1 0 bs.length,vi e]) (flatB D [] hid++ [rowB 0 bs])):
  diskR (RG fn) (.op 0::al) [.obj [] (diskP D)] (.tup [.rs 1 0 1 0 bs.length,vi e]) [.obj [] (diskP D),rowB 0 bs]:=by
 refine ⟨D,D,[],D.files,[],[],[(2,0,bs)],al, .tup [.rs 0 0 1 0 bs.length,vi e], .refl _,al_ok hal,by rw[al_id hal],rfl,fun hid hh=>⟨flatB D [] hid++ [rowB 0 bs],?_,⟨rfl,rfl,fun i hi=>(nomatch hi),by simp,fun z hz=>?_,fun b hb=>absurd hb (by simp)⟩⟩, .refl _,rfl,rfl,rfl,rfl⟩
 ·rw[al_id hal]
  exact h hid (by rw[hh]; simp[keysOf])
 ·rcases List.mem_cons.1 hz with rfl | hz
  ·rfl
  ·cases hz

theorem obPR {fn:Func} {D:Dsk} {x:Fil} {al:List AV} {bs:List UInt8} {e:Int} (ok:(D.files.map (·.name)).Nodup) (hx:x∈D.files) (hal:al.all isP=true)
  (h:∀ hid,hid.map (·.1)=strsV ((delF D.files x.name).map (·.name))→RG fn (.ptr 0 0 0::al) (flatB D [x] hid) (.tup [.rs 4 0 1 0 bs.length,vi e]) (flatB D [x] hid++ [rowB 0 bs])):
  diskR (RG fn) (.op 0::al) [.obj [] (diskP D)] (.tup [.rs 1 0 1 0 bs.length,vi e]) [.obj [] (diskP D),rowB 0 bs]:=by
 refine ⟨D,D,[x],delF D.files x.name,[],[⟨x,2,3,0⟩],[(4,0,bs)],al, .tup [.rs 0 0 1 0 bs.length,vi e],delF_perm ok hx,al_ok hal,by rw[al_id hal],rfl,fun hid hh=>⟨flatB D [x] hid++ [rowB 0 bs],?_,⟨rfl,rfl,fun i hi=>?_,by simp,fun z hz=>?_,fun b hb=>absurd hb (by simp)⟩⟩,(delF_perm ok hx).symm,rfl,rfl,rfl,rfl⟩
 ·rw[al_id hal]
  exact h hid (by rw[hh]; simp[keysOf])
 ·rcases List.mem_cons.1 hi with rfl | hi
  ·exact ⟨rfl,rfl⟩
  ·cases hi
 ·rcases List.mem_cons.1 hz with rfl | hz
  ·rfl
  ·cases hz

def ORead:RSpec:=fun args B r B'=>∃ (D:Dsk) (nm:ByteArray) (ofs n:Int),D.Ok∧args= [.op 0,vs nm,vi ofs,vi n]∧B= [.obj [] (diskP D)] ∧
 r= .tup [.rs 1 0 1 0 (readD D nm ofs n).1.length,vi (readD D nm ofs n).2]∧B'= [.obj [] (diskP D),rowB 0 (readD D nm ofs n).1]

theorem rowByte (bs:List UInt8):rowC (bs.map byteE.f)=bs.map byteA:=(byteCells bs).symm

theorem row_part (bs:List UInt8) (lo k k':Nat) {n:Nat} (hn:n=k') (hk:k'=min k (bs.length - lo)):
  ((rowC (bs.map byteE.f)).drop (0+lo*1)).take (n*byteE.sz)=rowC (((bs.drop lo).take k).map byteE.f):=by
 subst hn
 rw[rowByte,rowByte,←List.map_drop,←List.map_take]
 congr 1
 show ((bs.drop (0+lo*1)).take (n*1))=_
 rw[show 0+lo*1=lo from by omega,Nat.mul_one,hk]
 rw[←List.length_drop,List.take_eq_take_iff]
 omega

theorem cut_read (L:List UInt8) (ofs n:Int) (h1:0≤ofs) (h2:ofs≤(L.length:Int)) (h3:0≤n):
  cutL (some ofs) (some (ofs+(if (((L.length:Nat):Int) - ofs:Int)<(n:Int) then (((L.length:Nat):Int) - ofs:Int) else (n:Int)))) L=(L.drop ofs.toNat).take (min n (L.length - ofs)).toNat:=by
 show (L.take _).drop ofs.toNat=_
 rw[List.drop_take]
 congr 1
 split <;> omega

theorem SRead:SoundR DP iRead ORead:=(SO hfRead heRead hbRead).mono (by
 rintro args B r B' ⟨D,nm,ofs,n,ok,rfl,rfl,rfl,rfl⟩
 obtain ⟨b1,b2,b3⟩:=ok.bnd
 obtain ⟨ro,us,fs,dn,fu⟩:=D
 cases dn with
 | true=>
  refine obAR (bs:= []) (e:=10) (al:= [vs nm,vi ofs,vi n]) rfl (fun hid hh=> .inr (.inr ⟨flatB (dsk ro us fu true) [] hid,vi 10,⟨by rw[hnRead]; rfl,_,TRead_d_chk ro us fu hid nm ofs n,?_⟩,rfl,rfl⟩))
  unfold TRead_d
  exact wp_callr (dFind (.d ro us fu hid nm) []) (wp_leaf rfl ⟨rfl,rfl⟩)
 | false=>
  cases hg:(⟨ro,us,fs,false,fu⟩:Dsk).get nm with
  | none=>
   have hno:=get_none hg
   have h2:readD ⟨ro,us,fs,false,fu⟩ nm ofs n=([],4):=by unfold readD; rw[if_neg (by simp)]; simp only[hg]
   rw[h2]
   refine obAR (bs:= []) (e:=4) (al:= [vs nm,vi ofs,vi n]) rfl (fun hid hh=> .inr (.inr ⟨flatB (dsk ro us fu false) [] hid,vi 4,⟨by rw[hnRead]; rfl,_,TRead_a_chk ro us fu hid nm ofs n,?_⟩,rfl,rfl⟩))
   unfold TRead_a
   exact wp_callr (dFind (.a ro us fu hid _ nm hh hno) []) (wp_leaf rfl ⟨rfl,rfl⟩)
  | some x=>
   obtain ⟨hx,rfl⟩:=get_some hg
   have hxl:=b3 x hx
   simp only at b1 b2 hxl
   by_cases hbad:ofs<0∨ofs>x.b.length∨n<0
   ·have h2:readD ⟨ro,us,fs,false,fu⟩ x.name ofs n=([],1):=by unfold readD; rw[if_neg (by simp)]; simp only[hg,hbad,if_true]
    rw[h2]
    refine obPR (bs:= []) (e:=1) (al:= [vs x.name,vi ofs,vi n]) ok.nod hx rfl (fun hid hh=> .inr (.inr ⟨flatB (dsk ro us fu false) [x] hid,vi 1,⟨by rw[hnRead]; rfl,_,TRead_p_chk ro us fu hid x.b x.sure x.name ofs n,?_⟩,rfl,rfl⟩))
    unfold TRead_p
    refine wp_callr (dFind (.p ro us fu hid _ x hh) []) (wp_sp (fun h=>wp_leaf rfl ⟨rfl,rfl⟩) (fun h1=>wp_sp (fun h=>wp_leaf rfl ⟨rfl,rfl⟩) (fun h2=>wp_sp (fun h=>wp_leaf rfl ⟨rfl,rfl⟩) (fun h3=>?_))))
    have h1:=of_decide_eq_false h1
    have h2:=of_decide_eq_false h2
    have h3:=of_decide_eq_false h3
    omega
   ·have h2:readD ⟨ro,us,fs,false,fu⟩ x.name ofs n=((x.b.drop ofs.toNat).take (min n (x.b.length - ofs)).toNat,0):=by unfold readD; rw[if_neg (by simp)]; simp only[hg,hbad,if_false]
    rw[h2]
    have hc:=cut_read x.b ofs n (by omega) (by omega) (by omega)
    simp only
    rw[←hc]
    refine obPR (e:=0) (al:= [vs x.name,vi ofs,vi n]) ok.nod hx rfl (fun hid hh=> .inl ⟨by rw[hnRead]; rfl,_,TRead_p_chk ro us fu hid x.b x.sure x.name ofs n,?_⟩)
    unfold TRead_p
    have hlen:(cutL (some ofs) (some (ofs+(if (((x.b.length:Nat):Int) - ofs:Int)<(n:Int) then (((x.b.length:Nat):Int) - ofs:Int) else (n:Int)))) x.b).length≤x.b.length:=by
     rw[hc]; simp only[List.length_take,List.length_drop]; omega
    refine wp_callr (dFind (.p ro us fu hid _ x hh) []) (wp_sp (fun h=>absurd (of_decide_eq_true h) (by omega)) (fun h1=>wp_sp (fun h=>absurd (of_decide_eq_true h) (by omega)) (fun h2=>wp_sp (fun h=>absurd (of_decide_eq_true h) (by omega)) (fun h3=>wp_i64 (by omega) (wp_i64 (by split <;> omega) ⟨?_,wp_appn ?_ (by omega) (wp_leaf rfl ⟨rfl,rfl⟩)⟩)))))
    ·show 0≤ofs∧ofs≤_∧_≤(x.b.length:Int)
     split <;> omega
    ·refine ⟨?_,?_⟩
     ·rw[hc]
      simp only[hiN,loN,List.length_take,List.length_drop]
      split <;> omega
     ·rw[hc]
      refine row_part _ _ _ _ rfl ?_
      simp only[hiN,loN,List.length_take,List.length_drop]
      split <;> omega)

end Go.Ax

namespace Go.Ax
open Go.Proofs Go.RowKit
set_option maxRecDepth 100000

end Go.Ax

namespace Go.Ax
open Go.Proofs Go.RowKit
set_option maxRecDepth 100000

end Go.Ax

namespace Go.Ax
open Go.Proofs Go.RowKit
set_option maxRecDepth 100000

end Go.Ax

namespace Go.Ax
open Go.Proofs Go.RowKit
set_option maxRecDepth 100000

def orR (R1 R2:RSpec):RSpec:=fun a b c d=>R1 a b c d∨R2 a b c d
section
variable {B : List Box} {b : Nat} {D D1 : Dsk} {nm nn : ByteArray} {e : Int}

theorem set_same {B:List Box} {b:Nat} {x:Box} (hb:B[b]? = some x):B.set b x=B:=by
 refine List.ext_getElem? fun j=>?_
 rw[List.getElem?_set]
 split
 ·rename_i e; subst e
  rw[if_pos (List.getElem?_eq_some_iff.1 hb).1]; exact hb.symm
 ·rfl
theorem oRead {ofs n:Int} (ok:D.Ok) (hb:B[b]? = some (.obj [] (diskP D))):
  liftR ORead [.op b,vs nm,vi ofs,vi n] B (.tup [.rs B.length 0 1 0 (readD D nm ofs n).1.length,vi (readD D nm ofs n).2]) (B++ [byteE.bx 0 (readD D nm ofs n).1]):=by
 have:=lift_objrow (R:=ORead) (xs:=(readD D nm ofs n).1.map byteE.f) ⟨D,nm,ofs,n,ok,rfl,rfl,rfl,rfl⟩ hb rfl
 rw[set_same hb] at this
 exact this
end

end Go.Ax

namespace Go.Ax
open Go.Proofs Go.RowKit
set_option maxRecDepth 100000

end Go.Ax

namespace Go.Ax
open Go.Proofs Go.RowKit
set_option maxRecDepth 100000

theorem wp_any {x:Tree} {K:AE→St→Prop} (h:x.wp K):(Tree.any x).wp K:=h
theorem putI_len (g:Int) (h:0≤g∧g<18446744073709551616):(putI g).length≤10:=putN_len64 (by omega)

end Go.Ax

namespace Go.Ax
open Go.Proofs Go.RowKit
set_option maxRecDepth 100000

section
variable {R : RSpec} {al : List AV} {B : List Box} {b l : Nat} {D D1 : Dsk} {p g p1 g1 n : Int} {o o1 : Bool} {y : PV} {s : ByteArray}
end

end Go.Ax

namespace Go.Ax
open Go.Proofs Go.RowKit
set_option maxRecDepth 100000

end Go.Ax

namespace Go.Ax
open Go.Proofs Go.RowKit
set_option maxRecDepth 100000

structure Live (D:Dsk):Prop where
 ok:D.Ok
 up:D.down=false
 fu:D.fuse=0

end Go.Ax

namespace Go.Ax
open Go.Proofs Go.RowKit
set_option maxRecDepth 100000
theorem ltB_irr:∀ x:List UInt8,Op.bytesLess x x=false
 | []=>rfl
 | a::x=>by simp[Op.bytesLess,ltB_irr x]
theorem ltB_tri:∀ x y:List UInt8,Op.bytesLess x y=false→Op.bytesLess y x=false→x=y
 | [],[],_,_=>rfl
 | _::_,[],_,h=>by simp[Op.bytesLess] at h
 | [],_::_,h,_=>by simp[Op.bytesLess] at h
 | a::x,b::y,h,h'=>by
  simp only[Op.bytesLess,Bool.or_eq_false_iff,decide_eq_false_iff_not,Bool.and_eq_false_iff,beq_eq_false_iff_ne] at h h'
  have e:a=b:=by
   apply UInt8.toNat_inj.mp
   have h1:=h.1
   have h2:=h'.1
   rw[UInt8.lt_iff_toNat_lt] at h1 h2
   omega
  subst e
  rw[ltB_tri x y (h.2.resolve_left (by simp)) (h'.2.resolve_left (by simp))]

theorem ltB_trans:∀ x y z:List UInt8,Op.bytesLess x y=true→Op.bytesLess y z=true→Op.bytesLess x z=true
 | _,_,[],_,h=>by cases ‹List UInt8› <;> simp[Op.bytesLess] at h
 | [],_,_::_,_,_=>by simp[Op.bytesLess]
 | _::_,[],_::_,h,_=>by simp[Op.bytesLess] at h
 | a::x,b::y,c::z,h,h'=>by
  simp only[Op.bytesLess,Bool.or_eq_true,decide_eq_true_eq,Bool.and_eq_true,beq_iff_eq] at h h' ⊢
  rcases h with h | ⟨h,g⟩
  ·rcases h' with h' | ⟨h',g'⟩
   ·refine .inl ?_
    rw[UInt8.lt_iff_toNat_lt] at h h' ⊢; omega
   ·rw[←h']; exact .inl h
  ·rcases h' with h' | ⟨h',g'⟩
   ·rw[h]; exact .inl h'
   ·exact .inr ⟨h.trans h',ltB_trans x y z g g'⟩

end Go.Ax

namespace Go.Ax
open Go.Proofs Go.RowKit
set_option maxRecDepth 100000

structure Ent where
 key:ByteArray
 seq:Int
 del:Bool
 val:ByteArray

abbrev bl (a b:List UInt8):Prop:=Op.bytesLess a b=true
theorem bl_cons {a b:UInt8} {x y:List UInt8}:bl (a::x) (b::y)↔a<b∨(a=b∧bl x y):=by
 simp only[bl,Op.bytesLess,Bool.or_eq_true,decide_eq_true_eq,Bool.and_eq_true,beq_iff_eq]
theorem bl_nil {b:UInt8} {y:List UInt8}:bl [] (b::y):=by simp[bl,Op.bytesLess]
theorem bl_irr {x:List UInt8} (h:bl x x):False:=by rw[bl,ltB_irr] at h; cases h
theorem bl_trans {x y z:List UInt8} (h:bl x y) (g:bl y z):bl x z:=ltB_trans _ _ _ h g
theorem bl_tri (x y:List UInt8):bl x y∨x=y∨bl y x:=by
 by_cases h:bl x y
 ·exact .inl h
 ·by_cases g:bl y x
  ·exact .inr (.inr g)
  ·exact .inr (.inl (ltB_tri x y (by simpa [bl] using h) (by simpa [bl] using g)))

def escL:List UInt8→List UInt8
 | []=> []
 | c::l=>if c=0 then 0::255::escL l else c::escL l
def beN (n:Nat):Nat→List UInt8
 | 0=> []
 | k+1=>UInt8.ofNat (n / 256 ^ k % 256)::beN n k
def bigN (l:List UInt8):Nat:=l.foldl (fun n c=>n*256+c.toNat) 0
theorem big_acc:∀ (l:List UInt8) (a:Nat),l.foldl (fun n c=>n*256+c.toNat) a=a*256 ^ l.length+bigN l
 | [],a=>by simp[bigN]
 | c::l,a=>by
  unfold bigN
  rw[List.foldl_cons,List.foldl_cons,big_acc l,big_acc l (0*256+c.toNat),List.length_cons,Nat.pow_succ,Nat.add_mul,Nat.zero_mul,Nat.zero_add,Nat.mul_assoc,Nat.mul_comm 256 (256 ^ l.length)]
  omega
def innN (x:Ent):Nat:=2*x.seq.toNat % 18446744073709551616+(if x.del then 0 else 1)
def innB (x:Ent):List UInt8:=escL x.key.data.toList++0::1::beN (18446744073709551615 - innN x) 8
def ltE (x y:Ent):Prop:=bl x.key.data.toList y.key.data.toList∨(x.key=y.key∧y.seq<x.seq)
end Go.Ax

namespace Go.Ax
open Go.Proofs Go.RowKit
set_option maxRecDepth 100000

def outA:List UInt8→Option (List UInt8×List UInt8)
 | []=>some ([],[])
 | c::r=>match r with
  | []=>if c=0 then none else some ([c],[])
  | d::r'=>if c=0 then (if d=1 then some ([],c::d::r') else if d=255 then (outA r').map fun p=>(0::p.1,p.2) else none) else (outA (d::r')).map fun p=>(c::p.1,p.2)
def chkE (x:Ent):Int:=
 if x.key.size=0∨x.seq>72057594037927935∨(x.del=true∧x.val.size≠0) then 1 else if x.key.size>128∨x.val.size>65536 then 6 else 0
def noE:Ent:=⟨⟨#[]⟩,0,false,⟨#[]⟩⟩
def outI (s:List UInt8):Ent×Int:=
 match outA s with
 | none=>(noE,2)
 | some (k,r)=>
  if r.length≠10 then (noE,2) else
  if chkE ⟨⟨k.toArray⟩,((18446744073709551615 - bigN (r.drop 2)) / 2:Nat),decide ((18446744073709551615 - bigN (r.drop 2)) % 2=0),⟨#[]⟩⟩≠0 then (noE,2) else
  (⟨⟨k.toArray⟩,((18446744073709551615 - bigN (r.drop 2)) / 2:Nat),decide ((18446744073709551615 - bigN (r.drop 2)) % 2=0),⟨#[]⟩⟩,0)
end Go.Ax

namespace Go.Ax
open Go.Proofs Go.RowKit
set_option maxRecDepth 100000

theorem wp_fork {x y:Tree} {K:AE→St→Prop} (hx:x.wp K) (hy:y.wp K):(Tree.fork x y).wp K:=⟨hx,hy⟩

end Go.Ax

namespace Go.Ax
open Go.Proofs Go.RowKit
set_option maxRecDepth 100000

end Go.Ax

namespace Go.Ax
open Go.Proofs Go.RowKit
set_option maxRecDepth 100000

end Go.Ax

namespace Go.Ax
open Go.Proofs Go.RowKit
set_option maxRecDepth 100000

structure Par where
 name:ByteArray
 val:ByteArray
abbrev Par.nl (p:Par):List UInt8:=p.name.data.toList
abbrev Par.vl (p:Par):List UInt8:=p.val.data.toList
def comN:List UInt8→List UInt8→Nat
 | a::x,b::y=>if a=b then comN x y+1 else 0
 | _,_=>0
theorem comN_le:∀ x y:List UInt8,comN x y≤x.length∧comN x y≤y.length
 | [],_=>by simp[comN]
 | _::_,[]=>by simp[comN]
 | a::x,b::y=>by
  have:=comN_le x y
  unfold comN
  split <;> simp <;> omega
def sameN (i:Nat) (last n:List UInt8):Nat:=if i % 8=0 then 0 else comN last n
def entB (k:Nat) (p:Par):List UInt8:=putI k++putI ((p.nl.length:Int) - k)++putI p.vl.length++p.nl.drop k++p.vl
def mkP:Nat→List UInt8→List Par→List UInt8→List UInt8→Nat→List UInt8×Int
 | _,_,[],b,w,c=>(b++w++leI c 4,0)
 | i,last,p::L,b,w,c=>
  if i>0∧¬bl last p.nl then ([],1) else
  if (b++entB (sameN i last p.nl) p).length>262144 then ([],6) else
  mkP (i+1) p.nl L (b++entB (sameN i last p.nl) p) (if i % 8=0 then w++leI b.length 4 else w) (if i % 8=0 then c+1 else c)
def mkI (L:List Par):List UInt8×Int:=mkP 0 [] L [] [] 0
def oneI (N:Nat) (r last:List UInt8):Option (Par×List UInt8):=
 let r1:=r.drop (getI r).2.1.toNat
 let r2:=r1.drop (getI r1).2.1.toNat
 let r3:=r2.drop (getI r2).2.1.toNat
 if (getI r).2.2≠0∨(getI r).1>N then none else
 if (getI r1).2.2≠0∨(getI r1).1>N then none else
 if (getI r2).2.2≠0∨(getI r2).1>N then none else
 if (getI r).1>last.length∨(getI r1).1+(getI r2).1>r3.length then none else
 some (⟨⟨(last.take (getI r).1.toNat++r3.take (getI r1).1.toNat).toArray⟩,⟨((r3.drop (getI r1).1.toNat).take (getI r2).1.toNat).toArray⟩⟩,r3.drop ((getI r1).1+(getI r2).1).toNat)
def readA (N:Nat):Nat→List UInt8→List UInt8→Option (List Par)
 | _,[],_=>some []
 | 0,_::_,_=>none
 | f+1,c::r,last=>match oneI N (c::r) last with
  | none=>none
  | some (p,r')=>(readA N f r' p.nl).map (p :: ·)

end Go.Ax

namespace Go.Ax
open Go.Proofs Go.RowKit
set_option maxRecDepth 100000

def endI (b:List UInt8):Nat:=b.length - 4 - 4*(littleI (b.drop (b.length - 4))).toNat
def parI (b:List UInt8):Option (List Par):=
 if b.length<4 then none else
 if littleI (b.drop (b.length - 4))>((b.length - 4) / 4:Nat) then none else
 match readA (endI b) (endI b) (b.take (endI b)) [] with
 | none=>none
 | some L=>if (mkI L).2≠0∨(mkI L).1≠b then none else some L
end Go.Ax

namespace Go.Ax
open Go.Proofs Go.RowKit
set_option maxRecDepth 100000

def lastE (c:List Ent):Ent:=c.getLastD noE
structure GoodE (L:List Ent):Prop where
 chk:∀ x∈L,chkE x=0
 seq:∀ x∈L,0≤x.seq
 up:L.Pairwise ltE
theorem esc_len:∀ l:List UInt8,(escL l).length≤2*l.length
 | []=>Nat.le_refl _
 | c::l=>by
  have:=esc_len l
  unfold escL
  split <;> simp <;> omega
end Go.Ax

namespace Go.Ax
open Go.Proofs Go.RowKit
set_option maxRecDepth 100000

end Go.Ax

namespace Go.Ax
open Go.Proofs Go.RowKit
set_option maxRecDepth 100000

/-- The record that stands somewhere. -/
def getF (c:List UInt8) (at_ n:Int):List UInt8×Int:=
 if at_<0∨n<0∨at_>c.length then ([],12) else
 if (nextI ((c.drop at_.toNat).take (min n (c.length - at_)).toNat)).2.2≠0∨(nextI ((c.drop at_.toNat).take (min n (c.length - at_)).toNat)).2.1≠n then ([],12) else
 ((nextI ((c.drop at_.toNat).take (min n (c.length - at_)).toNat)).1,0)
end Go.Ax

namespace Go.Ax
open Go.Proofs Go.RowKit
set_option maxRecDepth 100000

def atI (v:List UInt8):Option (Int×Int):=
 if (getI v).2.2≠0∨(getI v).1>67108864 then none else
 if (getI (v.drop (getI v).2.1.toNat)).2.2≠0∨(getI v).2.1+(getI (v.drop (getI v).2.1.toNat)).2.1≠v.length∨(getI (v.drop (getI v).2.1.toNat)).1>67108864 then none else
 some ((getI v).1,(getI (v.drop (getI v).2.1.toNat)).1)
def pairsI (c:List UInt8) (p:Par):List Par×Int:=match atI p.vl with
 | none=>([],12)
 | some (a,n)=>if (getF c a n).2≠0 then ([],12) else match parI (getF c a n).1 with
  | none=>([],12)
  | some L=>(L,0)
def withV (x:Ent) (v:ByteArray):Ent:=⟨x.key,x.seq,x.del,v⟩
def entsI:List Par→Option (List Ent)
 | []=>some []
 | p::L=>if (outI p.nl).2≠0∨chkE (withV (outI p.nl).1 p.val)≠0 then none else (entsI L).map (withV (outI p.nl).1 p.val :: ·)
def pageI (c:List UInt8) (idx:List Par) (i:Int):List Ent×Int:=
 if i<0 then ([],1) else match idx[i.toNat]? with
 | none=>([],1)
 | some p=>if (pairsI c p).2≠0 then ([],12) else match entsI (pairsI c p).1 with
  | none=>([],12)
  | some L=>if L= [] then ([],12) else (L,0)
structure FileR where
 idx:List Par
 bits:List UInt8
 cnt:Int
 low:ByteArray
 high:ByteArray
structure Fits (L:List Ent):Prop where
 good:GoodE L
 ne:L≠ []
 few:L.length≤40
section
variable {L : List Ent}
end
end Go.Ax

namespace Go.Ax
open Go.Proofs Go.RowKit
set_option maxRecDepth 100000

section
variable {L : List Ent}
end
end Go.Ax

namespace Go.Ax
open Go.Proofs Go.RowKit
set_option maxRecDepth 100000

end Go.Ax

namespace Go.Ax
open Go.Proofs Go.RowKit
set_option maxRecDepth 100000

section
variable {parts : List (List ByteArray)} {at_ : Int} {bits : UInt8} {s1 : Int × Int × Bool × Dsk × List Int × Int × Int} {e1 : List ByteArray}
end

end Go.Ax

namespace Go.Ax
open Go.Proofs Go.RowKit
set_option maxRecDepth 100000

end Go.Ax

namespace Go.Ax
open Go.Proofs Go.RowKit
set_option maxRecDepth 100000

end Go.Ax

namespace Go.Ax
open Go.Proofs Go.RowKit
set_option maxRecDepth 100000

def entE:Enc Ent:=⟨fun e=> .agg [.v (.string e.key), .v (.int .u64 e.seq), .v (.bool e.del), .v (.string e.val)],4,fun _=>rfl,fun _=>rfl⟩
def parE:Enc Par:=⟨fun e=> .agg [.v (.string e.name), .v (.string e.val)],2,fun _=>rfl,fun _=>rfl⟩
end Go.Ax

namespace Go.Ax
open Go.Proofs Go.RowKit
set_option maxRecDepth 100000

abbrev iPutB:Nat:=81
noncomputable abbrev nPutB:Func:=Tryd.f81
theorem hfPutB:DP.funcs[iPutB]? = some nPutB:=by kernel_rfl
theorem hePutB:enters DP iPutB=true:=by kernel_rfl
theorem hbPutB:nPutB.body.isSome=true:=by kernel_rfl
theorem hnPutB:nPutB.ntmps=25:=by kernel_rfl
abbrev iBig:Nat:=75
noncomputable abbrev nBig:Func:=Tryd.f75
theorem hfBig:DP.funcs[iBig]? = some nBig:=by kernel_rfl
theorem heBig:enters DP iBig=true:=by kernel_rfl
theorem hbBig:nBig.body.isSome=true:=by kernel_rfl
abbrev iChkE:Nat:=16
noncomputable abbrev nChkE:Func:=Tryd.f16
theorem hfChkE:DP.funcs[iChkE]? = some nChkE:=by kernel_rfl
theorem heChkE:enters DP iChkE=true:=by kernel_rfl
theorem hbChkE:nChkE.body.isSome=true:=by kernel_rfl
abbrev iCmpE:Nat:=19
noncomputable abbrev nCmpE:Func:=Tryd.f19
theorem hfCmpE:DP.funcs[iCmpE]? = some nCmpE:=by kernel_rfl
theorem heCmpE:enters DP iCmpE=true:=by kernel_rfl
theorem hbCmpE:nCmpE.body.isSome=true:=by kernel_rfl
noncomputable def TPutB_l1_e (n:Int) (s1:(List UInt8)×Int):St:=([(0, .rs 1 0 1 0 s1.1.length),(1,vn .u64 n),(7,vi s1.2)],[byteE.bx 1 ([]:List UInt8),byteE.bx 0 s1.1])
noncomputable def TPutB_l1_x (x1:(List UInt8)):AE×St:=((.exit 0),([(0, .rs 1 0 1 0 x1.length)],[byteE.bx 1 ([]:List UInt8),byteE.bx 0 x1]))
noncomputable def TPutB_l1_b (n:Int) (s1:(List UInt8)×Int):Tree:=
.sp 13 (decide (s1.2≥(0:Int))) (
.int 19 (IntKind.i64.wrap (8*s1.2)) (8*s1.2) (.val (some 20) ((binA DP .shr 28 (vn .u64 n) (vi (8*s1.2))).map (fun v=>(v,([byteE.bx 1 ([]:List UInt8),byteE.bx 0 s1.1]:List Box)))=some (vn .u64 (Int.fdiv n (2 ^ (min (Int.toNat (8*s1.2)) 64))),[byteE.bx 1 ([]:List UInt8),byteE.bx 0 s1.1])) (vn .u64 (Int.fdiv n (2 ^ (min (Int.toNat (8*s1.2)) 64)))) [byteE.bx 1 ([]:List UInt8),byteE.bx 0 s1.1] (.int 21 (IntKind.u8.wrap (Int.fdiv n (2 ^ (min (Int.toNat (8*s1.2)) 64)))) ((Int.fdiv n (2 ^ (min (Int.toNat (8*s1.2)) 64))) % 256) (.app 23 (.row 1 ([vn .u8 ((Int.fdiv n (2 ^ (min (Int.toNat (8*s1.2)) 64))) % 256)])) s1.1.length (rowC (s1.1.map byteE.f)) byteE s1.1 ([(UInt8.ofNat (Int.toNat ((Int.fdiv n (2 ^ (min (Int.toNat (8*s1.2)) 64))) % 256)))]) (.int 15 (IntKind.i64.wrap (s1.2 - 1)) (s1.2 - 1) (.leaf ⟨[0,1,7],[(0,0,some (([]:List UInt8).map byteE.f)),(1,1,some ((s1.1++([(UInt8.ofNat (Int.toNat ((Int.fdiv n (2 ^ (min (Int.toNat (8*s1.2)) 64))) % 256)))])).map byteE.f))]⟩ [rowC (([]:List UInt8).map byteE.f),rowC ((s1.1++([(UInt8.ofNat (Int.toNat ((Int.fdiv n (2 ^ (min (Int.toNat (8*s1.2)) 64))) % 256)))])).map byteE.f)] .normal (some (TPutB_l1_e n (s1.1++([(UInt8.ofNat (Int.toNat ((Int.fdiv n (2 ^ (min (Int.toNat (8*s1.2)) 64))) % 256)))]),s1.2 - 1))))))))) (
.leaf ⟨[0],[(0,0,some (([]:List UInt8).map byteE.f)),(1,0,some (s1.1.map byteE.f))]⟩ [rowC (([]:List UInt8).map byteE.f),rowC (s1.1.map byteE.f)] (.exit 0) (some (TPutB_l1_x s1.1).2))
noncomputable def TPutB (L:List UInt8) (n:Int):Tree:=
.mvrow 0 (.loop ⟨[0,1,7],[(0,0,some (([]:List UInt8).map byteE.f)),(1,0,some (L.map byteE.f))]⟩ [rowC (([]:List UInt8).map byteE.f),rowC (L.map byteE.f)] (some (TPutB_l1_e n (L,7))) (TPutB_l1_e n) (TPutB_l1_x) noX (L,7) (TPutB_l1_b n) (fun (x1:(List UInt8))=> .leaf ⟨[0],[(0,0,some (([]:List UInt8).map byteE.f)),(1,0,some (x1.map byteE.f))]⟩ [rowC (([]:List UInt8).map byteE.f),rowC (x1.map byteE.f)] .ret (some ([(0, .rs 1 0 1 0 x1.length)],[byteE.bx 1 ([]:List UInt8),byteE.bx 0 x1]))) (fun _=> .stuck))

theorem TPutB_chk (L:List UInt8) (n:Int):fnC DP Γ0 Δ0 Tryd.f81 [.rs 0 0 1 0 L.length,vn .u64 n,vi 8] [byteE.bx 0 L] (TPutB L n)=TPutB L n:=by kernel_rfl

noncomputable def TBig_l1_e (b:List UInt8) (s1:Int×Int):St:=([(3,vn .u64 s1.2),(10,vl ((cutL none (some (if (8:Int)<((b.length:Int):Int) then (8:Int) else ((b.length:Int):Int))) b).map byteE.f)),(11,vi ((cutL none (some (if (8:Int)<((b.length:Int):Int) then (8:Int) else ((b.length:Int):Int))) b).length:Int)),(12,vi s1.1)],[])
noncomputable def TBig_l1_x (x1:Int):AE×St:=((.exit 0),([(3,vn .u64 x1)],[]))
noncomputable def TBig_l1_b (b:List UInt8) (s1:Int×Int):Tree:=
.sp 13 (decide (s1.1<((cutL none (some (if (8:Int)<((b.length:Int):Int) then (8:Int) else ((b.length:Int):Int))) b).length:Int))) (
.elem 14 ((cutL none (some (if (8:Int)<((b.length:Int):Int) then (8:Int) else ((b.length:Int):Int))) b).map byteE.f) byteE (cutL none (some (if (8:Int)<((b.length:Int):Int) then (8:Int) else ((b.length:Int):Int))) b) s1.1 (fun e1=> .int 17 (IntKind.u64.wrap (s1.2*2 ^ 8)) ((s1.2*256) % 18446744073709551616) (.int 19 (IntKind.u64.wrap (e1.toNat:Int)) ((e1.toNat:Int)) (.int 20 (IntKind.u64.wrap ((BitVec.ofInt IntKind.u64.bits ((s1.2*256) % 18446744073709551616) ||| BitVec.ofInt IntKind.u64.bits (e1.toNat:Int)).toNat)) (orI ((s1.2*256) % 18446744073709551616) (e1.toNat:Int)) (.int 21 (IntKind.i64.wrap (s1.1+1)) (s1.1+1) (.leaf ⟨[3,10,11,12],[]⟩ [] .normal (some (TBig_l1_e b (s1.1+1,orI ((s1.2*256) % 18446744073709551616) (e1.toNat:Int)))))))))) (
.leaf ⟨[3],[]⟩ [] (.exit 0) (some (TBig_l1_x s1.2).2))
noncomputable def TBig (b:List UInt8):Tree:=
.int 8 ((b.map byteE.f).length:Int) (b.length:Int) (.cut 10 (b.map byteE.f) none (some (if (8:Int)<((b.length:Int):Int) then (8:Int) else ((b.length:Int):Int))) byteE b (.int 11 (((cutL none (some (if (8:Int)<((b.length:Int):Int) then (8:Int) else ((b.length:Int):Int))) b).map byteE.f).length:Int) ((cutL none (some (if (8:Int)<((b.length:Int):Int) then (8:Int) else ((b.length:Int):Int))) b).length:Int) (.loop ⟨[3,10,11,12],[]⟩ [] (some (TBig_l1_e b (0,0))) (TBig_l1_e b) (TBig_l1_x) noX (0,0) (TBig_l1_b b) (fun (x1:Int)=> .leaf ⟨[0],[]⟩ [] .ret (some ([(0,vn .u64 x1)],[]))) (fun _=> .stuck))))

theorem TBig_chk (b:List UInt8):fnC DP Γ0 Δ0 Tryd.f75 [vl (b.map byteE.f)] [] (TBig b)=TBig b:=by kernel_rfl

noncomputable def TChkE (x:Ent):Tree:=
.sp 7 ((x.key.size:Int) == (0:Int)) (
.leaf ⟨[0],[]⟩ [] .ret (some ([(0,vi 1)],[]))) (
.sp 11 (decide (x.seq>(72057594037927935:Int))) (
.leaf ⟨[0],[]⟩ [] .ret (some ([(0,vi 1)],[]))) (
.sp 15 x.del (
.sp 19 (!(x.val.toList == (⟨#[]⟩:ByteArray).toList)) (
.leaf ⟨[0],[]⟩ [] .ret (some ([(0,vi 1)],[]))) (
.sp 26 (decide ((x.key.size:Int)>(128:Int))) (
.leaf ⟨[0],[]⟩ [] .ret (some ([(0,vi 6)],[]))) (
.sp 31 (decide ((x.val.size:Int)>(65536:Int))) (
.leaf ⟨[0],[]⟩ [] .ret (some ([(0,vi 6)],[]))) (
.leaf ⟨[0],[]⟩ [] .ret (some ([(0,vi 0)],[])))))) (
.sp 26 (decide ((x.key.size:Int)>(128:Int))) (
.leaf ⟨[0],[]⟩ [] .ret (some ([(0,vi 6)],[]))) (
.sp 31 (decide ((x.val.size:Int)>(65536:Int))) (
.leaf ⟨[0],[]⟩ [] .ret (some ([(0,vi 6)],[]))) (
.leaf ⟨[0],[]⟩ [] .ret (some ([(0,vi 0)],[])))))))

theorem TChkE_chk (x:Ent):fnC DP Γ0 Δ0 Tryd.f16 [(entE.av x)] [] (TChkE x)=TChkE x:=by kernel_rfl

end Go.Ax

namespace Go.Ax
open Go.Proofs Go.RowKit
set_option maxRecDepth 100000

theorem shr_val {x s:Int} {B:List Box} {t:TypeId} (h:0≤s):(binA DP .shr t (vn .u64 x) (vi s)).map (fun v=>(v,B))=some (vn .u64 (Int.fdiv x (2 ^ (min (Int.toNat s) 64))),B):=by
 show (((if s<0 then none else some _:Option Value)).map _).map _=_
 rw[if_neg (by omega)]
 rfl
theorem fdiv_pow {m i:Nat} (hi:i<8):Int.fdiv (m:Int) (2 ^ (min (Int.toNat (8*(i:Int))) 64))=((m / 256 ^ i:Nat):Int):=by
 have e:min (Int.toNat (8*(i:Int))) 64=8*i:=by omega
 rw[e,show (2:Int) ^ (8*i)=((2 ^ (8*i):Nat):Int) by simp,Int.fdiv_eq_ediv_of_nonneg _ (Int.natCast_nonneg _),←Int.natCast_ediv,Nat.pow_mul]
theorem putb_rounds (m:Nat):∀ (j:Nat) (L:List UInt8),j≤8→((L.length+j:Nat):Int)≤1000000000→Rounds (TPutB_l1_e (m:Int)) TPutB_l1_x noX (fun s=>(TPutB_l1_b (m:Int) s).wp) (L,(j:Int) - 1) (.inl (L++beN m j)):=by
 intro j
 induction j with
 | zero=>
  intro L _ _
  refine .done (by intro e; cases e) ?_
  unfold TPutB_l1_b
  refine wp_sp (fun h'=>absurd (of_decide_eq_true h') (by simp only; omega)) (fun _=>wp_leaf rfl ⟨rfl,?_⟩)
  simp only[beN,List.append_nil]
 | succ j ih=>
  intro L hj hL
  have hr:=ih (L++ [UInt8.ofNat (m / 256 ^ j % 256)]) (by omega) (by simp only[List.length_append,List.length_singleton]; omega)
  have e2:L++beN m (j+1)=(L++ [UInt8.ofNat (m / 256 ^ j % 256)])++beN m j:=by rw[beN,List.append_assoc]; rfl
  rw[e2]
  refine .next ?_ hr
  have ej:((j+1:Nat):Int) - 1=(j:Int):=by omega
  have ef:=fdiv_pow (m:=m) (i:=j) (by omega)
  unfold TPutB_l1_b
  simp only[ej,ef]
  refine wp_sp (fun _=>wp_i64 (by omega) (wp_val (by rw[←ef]; exact shr_val (by omega)) (wp_int (wrap8 _) (wp_app (src_one (mod256_b _)) rfl (by simp only[List.length_append,List.length_singleton]; omega) (wp_i64 (by omega) (wp_leaf rfl ⟨rfl,?_⟩)))))) (fun h'=>absurd (of_decide_eq_false h') (by omega))
  have e:(((m / 256 ^ j:Nat):Int) % 256).toNat=m / 256 ^ j % 256:=by omega
  rw[e]
def OPutB:RSpec:=fun args B r B'=>∃ n:Int,(0≤n∧n<18446744073709551616)∧∃ L:List UInt8,((L.length+8:Nat):Int)≤1000000000∧args= [.rs 0 0 1 0 L.length,vn .u64 n,vi 8]∧B= [byteE.bx 0 L] ∧
 r= .rs 1 0 1 0 (L++beN n.toNat 8).length∧B'= [byteE.bx 1 [],byteE.bx 0 (L++beN n.toNat 8)]
theorem SPutB:SoundR DP iPutB OPutB:=sound_genT mixedD Γ0_ok Δ0_ok hfPutB hePutB hbPutB (by
 rintro args B r B' ⟨n,hn,L,hL,rfl,rfl,rfl,rfl⟩
 obtain ⟨m,rfl⟩:=Int.eq_ofNat_of_zero_le hn.1
 refine ⟨by rw[hnPutB]; rfl,_,TPutB_chk L m,?_⟩
 unfold TPutB
 exact wp_loop _ rfl (putb_rounds m 8 L (by omega) hL) (wp_leaf rfl ⟨rfl,rfl⟩))

def bigI (b:List UInt8):Int:=((bigN (b.take 8):Nat):Int)
theorem bigN_lt (l:List UInt8):bigN l<256 ^ l.length:=by
 induction l with
 | nil=>decide
 | cons c l ih=>
  unfold bigN
  rw[List.foldl_cons,big_acc,List.length_cons,Nat.pow_succ]
  have:=c.toNat_lt
  have h2:(0*256+c.toNat)*256 ^ l.length≤255*256 ^ l.length:=Nat.mul_le_mul_right _ (by omega)
  omega
theorem bigN_snoc (l:List UInt8) (c:UInt8):bigN (l++ [c])=bigN l*256+c.toNat:=by simp[bigN,List.foldl_append]
theorem big_cut (b:List UInt8):cutL none (some (if (8:Int)<((b.length:Int):Int) then (8:Int) else ((b.length:Int):Int))) b=b.take 8:=by
 show b.take _=_
 split
 ·rfl
 ·rw[Int.toNat_natCast,List.take_of_length_le (Nat.le_refl _),List.take_of_length_le (by omega)]
theorem big_rounds (b:List UInt8):∀ (j i:Nat),i+j=(b.take 8).length→Rounds (TBig_l1_e b) TBig_l1_x noX (fun s=>(TBig_l1_b b s).wp) ((i:Int),((bigN ((b.take 8).take i):Nat):Int)) (.inl (bigI b)):=by
 have hl:(b.take 8).length≤8:=by simp; omega
 intro j
 induction j with
 | zero=>
  intro i hi
  rw[List.take_of_length_le (by omega)]
  refine .done (by intro e; cases e) ?_
  unfold TBig_l1_b
  simp only[big_cut]
  exact wp_sp (fun h'=>absurd (of_decide_eq_true h') (by omega)) (fun _=>wp_leaf rfl ⟨rfl,rfl⟩)
 | succ j ih=>
  intro i hi
  obtain ⟨a,ha,ht⟩:=get_snoc (l:=b.take 8) (i:=i) (by omega)
  have hr:=ih (i+1) (by omega)
  have hlt:=bigN_lt ((b.take 8).take i)
  have hp:256 ^ ((b.take 8).take i).length≤256 ^ 7:=Nat.pow_le_pow_right (by decide) (by rw[List.length_take]; omega)
  have hb:bigN ((b.take 8).take i)<256 ^ 7:=by omega
  have e1:=orI_256 a hb
  rw[ht,bigN_snoc,show ((i+1:Nat):Int)=(i:Int)+1 by omega] at hr
  refine .next ?_ hr
  unfold TBig_l1_b
  simp only[big_cut]
  refine wp_sp (fun _=>wp_elem a (by omega) (by simpa using ha) (wp_int (wrap64 _) (wp_int (wrap64id (by have:=u8_b a; omega)) (wp_int (or64 (by omega) (by have:=u8_b a; omega)) (wp_i64 (by omega) (wp_leaf rfl ⟨rfl,?_⟩)))))) (fun h'=>absurd (of_decide_eq_false h') (by omega))
  have e3:((bigN ((b.take 8).take i)*256+a.toNat:Nat):Int)=((a.toNat+256*bigN ((b.take 8).take i):Nat):Int):=by omega
  rw[e1,e3]
def RBigF:List AV→AV→Prop:=fun args r=>∃ (b:List UInt8),args= [vl (b.map byteE.f)]∧r=vn .u64 (bigI b)
noncomputable def gBigF:=relG RBigF
theorem SBigF:SoundF DP iBig (.pure gBigF):=sound_pureT mixedD Γ0_ok Δ0_ok hfBig heBig hbBig (by
 rintro args r ⟨b,rfl,rfl⟩
 refine ⟨rfl,rfl,_,TBig_chk b,?_⟩
 unfold TBig
 have hr:=big_rounds b (b.take 8).length 0 (by omega)
 simp only[big_cut]
 exact wp_len (wp_cut (by simp only[cutOk]; split <;> omega) (wp_len (wp_loop _ rfl (by simpa [bigN] using hr) (wp_leaf rfl (.p _)))))
 )

theorem ent_inj {x y:Ent} (h:entE.av x=entE.av y):x=y:=by
 cases x; cases y
 simp[Enc.av,entE,PV.cells] at h
 simp[h]
def RChkE:List AV→AV→Prop:=fun args r=>∃ x:Ent,args= [entE.av x]∧r=vi (chkE x)
noncomputable def gChkE:=relG RChkE
theorem one_arg' {x y:AV} (h: [x]= [y]):x=y:=by simpa using h
theorem gChkE_eq (x:Ent):gChkE [entE.av x]=some (vi (chkE x)):=relG_eq (by
 rintro args r r' ⟨a,h1,rfl⟩ ⟨b,h2,rfl⟩
 rw[ent_inj (one_arg' (h1.symm.trans h2))]) ⟨x,rfl,rfl⟩
theorem val_ne (s:ByteArray):(!(s.toList == (⟨#[]⟩:ByteArray).toList))=decide (s.size≠0):=by
 have e:s.size=s.toList.length:=by rw[ByteArray.toList_eq]; rfl
 have e0:(⟨#[]⟩:ByteArray).toList= []:=by rw[ByteArray.toList_eq]
 rw[e,e0]
 cases s.toList with
 | nil=>rfl
 | cons a l=>symm; show decide _=true; rw[decide_eq_true_eq,List.length_cons]; omega
theorem SChkE:SoundF DP iChkE (.pure gChkE):=sound_pureT mixedD Γ0_ok Δ0_ok hfChkE heChkE hbChkE (by
 rintro args r ⟨x,rfl,rfl⟩
 refine ⟨rfl,rfl,_,TChkE_chk x,?_⟩
 have key:∀ z:Int,z=chkE x→Sealed (fun _=>True) [] (vi z) (vi (chkE x)):=fun z h=>by rw[h]; exact .p _
 unfold TChkE
 simp only[val_ne]
 unfold chkE at key ⊢
 repeat' first
  | refine wp_sp (fun _=>?_) (fun _=>?_)
  | refine wp_leaf rfl (key _ ?_)
 all_goals simp only[beq_iff_eq,beq_eq_false_iff_ne,decide_eq_true_eq,decide_eq_false_iff_not] at *
 all_goals (split <;> first | rfl | (split <;> first | rfl | omega | simp_all) | omega | (simp_all <;> omega)))
end Go.Ax
