/- Spoil: a contract of the disk as an object. -/
import Derived.Test.YtbdfbdlfipcleaaDoorG25
import Derived.Test.YtbdfbdlfipcleaaDoorG22
import Derived.Test.YtbdfbdlfipcleaaDoorG20
import Derived.Shelf.SlIter.Nil
import Derived.Shelf.SortM.Plain
import Derived.Shelf.SortM.SortNone
import Derived.Test.YtbdfbdlfipcleaaDoorG21
import Derived.WalkKit
import Derived.ProofKit
import Derived.OwnWalk
import Derived.Lib.Walk
import Derived.Lib.SliceRun
import Derived.Laws.AppendOwn
set_option linter.unusedVariables false
set_option linter.unusedSimpArgs false
set_option linter.unusedSectionVars false
namespace Go.Ax
open Go.Proofs Go.RowKit
set_option maxRecDepth 100000

theorem wrap_u8 {x:Int} (h:0≤x∧x<256):IntKind.u8.wrap x=x:=by
 simp[IntKind.wrap,IntKind.bits,IntKind.signed]
 omega

theorem xor_u8 (c d:UInt8):UInt8.ofNat (Int.toNat (IntKind.u8.wrap ((BitVec.ofInt IntKind.u8.bits (c.toNat:Int) ^^^ BitVec.ofInt IntKind.u8.bits (d.toNat:Int)).toNat)))=c ^^^ d:=by
 have h1:∀ x:UInt8,BitVec.ofInt 8 (x.toNat:Int)=x.toBitVec:=fun x=>by
  rw[BitVec.ofInt_natCast]
  exact BitVec.ofNat_toNat _ _ |>.trans (by simp)
 show UInt8.ofNat (Int.toNat (IntKind.u8.wrap (((BitVec.ofInt 8 (c.toNat:Int) ^^^ BitVec.ofInt 8 (d.toNat:Int):BitVec 8).toNat:Nat))))=c ^^^ d
 rw[h1,h1]
 have h2:(c.toBitVec ^^^ d.toBitVec).toNat<256:=(c.toBitVec ^^^ d.toBitVec).isLt
 rw[wrap_u8 (by omega),Int.toNat_natCast]
 apply UInt8.toNat_inj.1
 rw[UInt8.toNat_ofNat',Nat.mod_eq_of_lt h2]
 rfl

theorem xor_w (c d:UInt8):IntKind.u8.wrap ((BitVec.ofInt IntKind.u8.bits (c.toNat:Int) ^^^ BitVec.ofInt IntKind.u8.bits (d.toNat:Int)).toNat)=((c ^^^ d).toNat:Int):=by
 have h1:∀ x:UInt8,BitVec.ofInt 8 (x.toNat:Int)=x.toBitVec:=fun x=>by
  rw[BitVec.ofInt_natCast]
  exact BitVec.ofNat_toNat _ _ |>.trans (by simp)
 show IntKind.u8.wrap (((BitVec.ofInt 8 (c.toNat:Int) ^^^ BitVec.ofInt 8 (d.toNat:Int):BitVec 8).toNat:Nat))=_
 rw[h1,h1]
 have h2:(c.toBitVec ^^^ d.toBitVec).toNat<256:=(c.toBitVec ^^^ d.toBitVec).isLt
 rw[wrap_u8 (by omega)]
 rfl

def OSpoil:RSpec:=fun args B r B'=>∃ (D:Dsk) (nm:ByteArray) (ofs:Int) (bits:UInt8),D.Ok∧args= [.op 0,vs nm,vi ofs,vn .u8 (bits.toNat:Int)]∧B= [.obj [] (diskP D)]∧r=vi (spoilD D nm ofs bits).2∧B'= [.obj [] (diskP (spoilD D nm ofs bits).1)]

theorem SSpoil:SoundR DP iSpoil OSpoil:=(SO hfSpoil heSpoil hbSpoil).mono (by
 rintro args B r B' ⟨D,nm,ofs,bits,ok,rfl,rfl,rfl,rfl⟩
 obtain ⟨b1,b2,b3⟩:=ok.bnd
 obtain ⟨ro,us,fs,dn,fu⟩:=D
 cases dn with
 | true=>
  refine obA (al:= [vs nm,vi ofs,vn .u8 (bits.toNat:Int)]) rfl rfl rfl (.refl _) (fun hid hh=> .inl ⟨by rw[hnSpoil]; rfl,_,TSpoil_d_chk ro us fu hid nm ofs bits,?_⟩)
  unfold TSpoil_d
  exact wp_callr (dFind (.d ro us fu hid nm) []) (wp_leaf rfl ⟨rfl,rfl⟩)
 | false=>
  cases hg:(⟨ro,us,fs,false,fu⟩:Dsk).get nm with
  | none=>
   have hno:=get_none hg
   have h2:spoilD ⟨ro,us,fs,false,fu⟩ nm ofs bits=(⟨ro,us,fs,false,fu⟩,4):=by unfold spoilD; rw[if_neg (by simp)]; simp only[hg]
   rw[h2]
   refine obA (al:= [vs nm,vi ofs,vn .u8 (bits.toNat:Int)]) rfl rfl rfl (.refl _) (fun hid hh=> .inl ⟨by rw[hnSpoil]; rfl,_,TSpoil_a_chk ro us fu hid nm ofs bits,?_⟩)
   unfold TSpoil_a
   exact wp_callr (dFind (.a ro us fu hid _ nm hh hno) []) (wp_leaf rfl ⟨rfl,rfl⟩)
  | some x=>
   obtain ⟨hx,rfl⟩:=get_some hg
   have hxl:=b3 x hx
   simp only at b1 b2 hxl
   by_cases hbad:ofs<0∨ofs≥x.b.length
   ·have h2:spoilD ⟨ro,us,fs,false,fu⟩ x.name ofs bits=(⟨ro,us,fs,false,fu⟩,1):=by unfold spoilD; rw[if_neg (by simp)]; simp only[hg,hbad,if_true]
    rw[h2]
    refine obP (x':=x) (v:=0) (al:= [vs x.name,vi ofs,vn .u8 (bits.toNat:Int)]) ok.nod hx rfl rfl rfl (delF_perm ok.nod hx).symm (fun hid hh=> .inl ⟨by rw[hnSpoil]; rfl,_,TSpoil_p_chk ro us fu hid x.b x.sure x.name ofs bits,?_⟩)
    unfold TSpoil_p
    refine wp_callr (dFind (.p ro us fu hid _ x hh) []) (wp_sp (fun h=>wp_leaf rfl ⟨rfl,rfl⟩) (fun h1=>wp_sp (fun h=>wp_leaf rfl ⟨rfl,rfl⟩) (fun h2=>?_)))
    have h1:=of_decide_eq_false h1
    have h2:=of_decide_eq_false h2
    omega
   ·have h2:spoilD ⟨ro,us,fs,false,fu⟩ x.name ofs bits=(⟨ro,us,repF fs {x with b:=x.b.modify ofs.toNat (· ^^^ bits)},false,fu⟩,0):=by
     unfold spoilD; rw[if_neg (by simp)]; simp only[hg,hbad,if_false]
    rw[h2]
    have hlt:ofs.toNat<x.b.length:=by omega
    have hm:x.b.modify ofs.toNat (· ^^^ bits)=x.b.set ofs.toNat (x.b[ofs.toNat] ^^^ bits):=by
     apply List.ext_getElem?
     intro j
     rw[List.getElem?_modify,List.getElem?_set]
     split
     ·rename_i e
      subst e
      rw[List.getElem?_eq_getElem hlt]; rfl
     ·simp
    refine obP (x':={x with b:=x.b.modify ofs.toNat (· ^^^ bits)}) (v:=0) (al:= [vs x.name,vi ofs,vn .u8 (bits.toNat:Int)]) ok.nod hx rfl rfl rfl (repF_perm (x':={x with b:=x.b.modify ofs.toNat (· ^^^ bits)}) ok.nod hx rfl) (fun hid hh=> .inl ⟨by rw[hnSpoil]; rfl,_,TSpoil_p_chk ro us fu hid x.b x.sure x.name ofs bits,?_⟩)
    unfold TSpoil_p
    refine wp_callr (dFind (.p ro us fu hid _ x hh) []) (wp_sp (fun h=>absurd (of_decide_eq_true h) (by omega)) (fun _=>wp_sp (fun h=>absurd (of_decide_eq_true h) (by omega)) (fun _=>wp_ridx (by omega) (by omega) (wp_rload x.b[ofs.toNat] (by omega) (by simp[byteE]) (List.getElem?_eq_getElem hlt) (wp_ridx (by omega) (by omega) (wp_rstore (by omega) (by omega) (by simp[byteE]) ?_ ?_))))))
    ·rw[xor_w,show (((x.b[ofs.toNat] ^^^ bits).toNat:Nat):Int).toNat=(x.b[ofs.toNat] ^^^ bits).toNat from Int.toNat_natCast _,UInt8.ofNat_toNat]
     rfl
    ·rw[xor_u8,←hm]
     refine wp_leaf rfl ⟨rfl,?_⟩
     show _=flatV _ _ _ _
     simp only[flatV,fileC,List.length_modify])

end Go.Ax

namespace Go.Ax
open Go.Proofs Go.RowKit
set_option maxRecDepth 100000

def orR (R1 R2:RSpec):RSpec:=fun a b c d=>R1 a b c d∨R2 a b c d
def takeR (R:RSpec):RSpec:=orR (liftR R) (sealR (liftR R))
theorem take_sound {f:Nat} {R:RSpec} (h:SoundR DP f R):SoundR DP f (takeR R):=(lift_sound h).or (lift_sound h).shutRow

section
variable {B : List Box} {b : Nat} {D D1 : Dsk} {nm nn : ByteArray} {e : Int}

theorem oNew (n:Int):liftR ONew [vi n] B (.op B.length) (B++ [.obj [] (diskP (newD n))]):=lift_new ⟨n,rfl,rfl,rfl,rfl⟩ rfl
theorem oCreate (ok:D.Ok) (hN:nm.size≤1000000000) (hb:B[b]? = some (.obj [] (diskP D))):liftR OCreate [.op b,vs nm] B (vi (createD D nm).2) (B.set b (.obj [] (diskP (createD D nm).1))):=
 lift_obj (R:=OCreate) ⟨D,nm,ok,hN,rfl,rfl,rfl,rfl⟩ hb rfl rfl
theorem oAppend {bs:List UInt8} (ok:D.Ok) (hN:bs.length≤1000000000) (hb:B[b]? = some (.obj [] (diskP D))):takeR OAppend [.op b,vs nm,vl (bs.map byteE.f)] B (vi (appendD D nm bs).2) (B.set b (.obj [] (diskP (appendD D nm bs).1))):=
 .inl (lift_obj (R:=OAppend) ⟨D,nm,bs,ok,hN,rfl,rfl,rfl,rfl⟩ hb rfl rfl)
theorem oSync (ok:D.Ok) (hb:B[b]? = some (.obj [] (diskP D))):liftR OSync [.op b,vs nm] B (vi (syncD D nm).2) (B.set b (.obj [] (diskP (syncD D nm).1))):=
 lift_obj (R:=OSync) ⟨D,nm,ok,rfl,rfl,rfl,rfl⟩ hb rfl rfl
theorem set_same {B:List Box} {b:Nat} {x:Box} (hb:B[b]? = some x):B.set b x=B:=by
 refine List.ext_getElem? fun j=>?_
 rw[List.getElem?_set]
 split
 ·rename_i e; subst e
  rw[if_pos (List.getElem?_eq_some_iff.1 hb).1]; exact hb.symm
 ·rfl
theorem oRead {ofs n:Int} (ok:D.Ok) (hb:B[b]? = some (.obj [] (diskP D))):
  liftR ORead [.op b,vs nm,vi ofs,vi n] B (.tup [.rs B.length 0 1 0 (readD D nm ofs n).1.length,vi (readD D nm ofs n).2]) (B++ [byteE.bx 0 (readD D nm ofs n).1]):=by
 have:=lift_objrow (R:=ORead) (xs:=(readD D nm ofs n).1.map byteE.f) ⟨D,nm,ofs,n,ok,rfl,rfl,rfl,rfl⟩ hb rfl
 rw[set_same hb] at this
 exact this
theorem oDown (ok:D.Ok) (hb:B[b]? = some (.obj [] (diskP D))):liftR ODown [.op b] B (vb D.down) B:=by
 have:=lift_obj (R:=ODown) (al:= []) ⟨D,ok,rfl,rfl,rfl,rfl⟩ hb rfl rfl
 rwa[set_same hb] at this
theorem oRoom (ok:D.Ok) (hb:B[b]? = some (.obj [] (diskP D))):liftR ORoom [.op b] B (vi (D.room - D.used)) B:=by
 have:=lift_obj (R:=ORoom) (al:= []) ⟨D,ok,rfl,rfl,rfl,rfl⟩ hb rfl rfl
 rwa[set_same hb] at this
theorem oSize (ok:D.Ok) (hb:B[b]? = some (.obj [] (diskP D))):liftR OSize [.op b,vs nm] B (.tup [vi (sizeD D nm).1,vi (sizeD D nm).2]) B:=by
 have:=lift_obj (R:=OSize) ⟨D,nm,ok,rfl,rfl,rfl,rfl⟩ hb rfl rfl
 rwa[set_same hb] at this
theorem oSpoil {ofs:Int} {bits:UInt8} (ok:D.Ok) (hb:B[b]? = some (.obj [] (diskP D))):liftR OSpoil [.op b,vs nm,vi ofs,vn .u8 (bits.toNat:Int)] B (vi (spoilD D nm ofs bits).2) (B.set b (.obj [] (diskP (spoilD D nm ofs bits).1))):=
 lift_obj (R:=OSpoil) ⟨D,nm,ofs,bits,ok,rfl,rfl,rfl,rfl⟩ hb rfl rfl
end

end Go.Ax

namespace Go.Ax
open Go.Proofs Go.RowKit
set_option maxRecDepth 100000

end Go.Ax

namespace Go.Ax
open Go.Proofs Go.RowKit
set_option maxRecDepth 100000

theorem wp_any {x:Tree} {K:AE→St→Prop} (h:x.wp K):(Tree.any x).wp K:=h
theorem putI_len (g:Int) (h:0≤g∧g<18446744073709551616):(putI g).length≤10:=putN_len64 (by omega)

end Go.Ax

namespace Go.Ax
open Go.Proofs Go.RowKit
set_option maxRecDepth 100000

section
variable {R : RSpec} {al : List AV} {B : List Box} {b l : Nat} {D D1 : Dsk} {p g p1 g1 n : Int} {o o1 : Bool} {y : PV} {s : ByteArray}
end

end Go.Ax

namespace Go.Ax
open Go.Proofs Go.RowKit
set_option maxRecDepth 100000

theorem numN_leN (n:Nat):∀ k:Nat,numN (leN n k)=n % 256 ^ k:=by
 intro k
 induction k generalizing n with
 | zero=>simp[leN,numN,Nat.mod_one]
 | succ k ih=>
  rw[leN,numN,ih,UInt8.toNat_ofNat']
  have e:256 ^ (k+1)=256*256 ^ k:=by rw[Nat.pow_succ,Nat.mul_comm]
  rw[e,Nat.mod_mul]
  show n % 256 % 256+_=_
  omega
theorem little_le {n:Int} (h:0≤n∧n<4294967296):littleI (leI n 4)=n:=by
 unfold littleI leI
 rw[List.take_of_length_le (by rw[leN_len]; decide),numN_leN,Nat.mod_eq_of_lt (by show n.toNat<4294967296; omega)]
 omega

theorem take_app {α:Type} {a b:List α} {n:Nat} (h:a.length=n):(a++b).take n=a:=by rw[←h]; simp
theorem next_rec {d:List UInt8} (hd:d.length≤1048576) (rest:List UInt8):nextI (recB d++rest)=(d,((d.length:Int)+12),0):=by
 have hl4:(leI (d.length:Int) 4).length=4:=leI_len _ _
 have hm4:(leI (maskI (crcI (leI (d.length:Int) 4))) 4).length=4:=leI_len _ _
 have hc4:(leI (maskI (crcI d)) 4).length=4:=leI_len _ _
 have e:recB d++rest=leI (d.length:Int) 4++(leI (maskI (crcI (leI (d.length:Int) 4))) 4++(leI (maskI (crcI d)) 4++(d++rest))):=by simp[recB]
 have t4:(recB d++rest).take 4=leI (d.length:Int) 4:=by rw[e]; exact take_app hl4
 have t8:((recB d++rest).take 8).drop 4=leI (maskI (crcI (leI (d.length:Int) 4))) 4:=by
  rw[e,←List.append_assoc,take_app (by rw[List.length_append,hl4,hm4])]
  rw[List.drop_append_of_le_length (by omega),List.drop_of_length_le (by omega),List.nil_append]
 have t12:((recB d++rest).take 12).drop 8=leI (maskI (crcI d)) 4:=by
  rw[e,←List.append_assoc,←List.append_assoc,take_app (by rw[List.length_append,List.length_append,hl4,hm4,hc4])]
  rw[List.drop_append_of_le_length (by rw[List.length_append]; omega),List.drop_of_length_le (by rw[List.length_append]; omega),List.nil_append]
 have l4:littleI ((recB d++rest).take 4)=(d.length:Int):=by rw[t4]; exact little_le (by omega)
 have m1:=maskI_b (crcI (leI (d.length:Int) 4))
 have m2:=maskI_b (crcI d)
 have tn:((recB d++rest).take (12+littleI ((recB d++rest).take 4)).toNat).drop 12=d:=by
  rw[l4,take_app (by rw[recB_len]; omega)]
  unfold recB
  rw[List.drop_append_of_le_length (by simp only[List.length_append,leI_len]; decide),List.drop_of_length_le (by simp only[List.length_append,leI_len]; decide),List.nil_append]
 unfold nextI
 rw[if_neg (by rw[List.length_append,recB_len]; omega),if_neg,if_neg (by rw[List.length_append,recB_len,l4]; omega),if_neg]
 ·rw[tn,l4]; simp only[Prod.mk.injEq,and_true,true_and]; omega
 ·rw[t12,tn,little_le m2]
  intro h; exact h (by omega)
 ·rw[t8,t4,little_le m1,little_le (by omega)]
  rintro (h | h)
  ·exact h (by omega)
  ·omega

theorem getA_put:∀ (n i a:Nat),i≤9→n<2 ^ (64 - 7*i)→(0<i→0<n)→getA i a (putN n)=(a+n*2 ^ (7*i),i+(putN n).length,0):=by
 intro n
 induction n using Nat.strongRecOn with
 | _ n ih=>
  intro i a hi hn hp
  have h9:i=9→n≤1:=fun e=>by
   subst e
   have:(2:Nat) ^ (64 - 7*9)=2:=by decide
   omega
  by_cases h:n<128
  ·rw[putN_lt h,getA,UInt8.toNat_ofNat']
   have e:n % 2 ^ 8=n:=Nat.mod_eq_of_lt (by omega)
   rw[e,if_neg (by rintro ⟨h1,h2⟩; have:=h9 h1; omega),if_pos h,if_neg (by rintro ⟨h1,h2⟩; have:=hp h2; omega)]
   rfl
  ·rw[putN_ge h,getA,UInt8.toNat_ofNat']
   have e:(n % 128+128) % 2 ^ 8=n % 128+128:=Nat.mod_eq_of_lt (by omega)
   have hi8:i+1≤9:=by
    rcases Nat.lt_or_ge i 9 with h1 | h1
    ·omega
    ·have:=h9 (by omega); omega
   have hpow:2 ^ (64 - 7*i)=128*2 ^ (64 - 7*(i+1)):=by
    rw[show 64 - 7*i=7+(64 - 7*(i+1)) by omega,Nat.pow_add]
   rw[e,if_neg (by omega),if_neg (by omega),ih (n / 128) (by omega) (i+1) _ hi8 (by rw[Nat.div_lt_iff_lt_mul (by decide)]; omega) (by omega)]
   have e2:(n % 128+128) % 128=n % 128:=by omega
   have e3:2 ^ (7*(i+1))=128*2 ^ (7*i):=by rw[show 7*(i+1)=7+7*i by omega,Nat.pow_add]
   rw[e2,e3,List.length_cons]
   have e4:n / 128*(128*2 ^ (7*i))=n / 128*128*2 ^ (7*i):=by rw[Nat.mul_assoc]
   have e5:n % 128*2 ^ (7*i)+n / 128*128*2 ^ (7*i)=n*2 ^ (7*i):=by rw[←Nat.add_mul]; congr 1; omega
   simp only[Prod.mk.injEq,and_true]
   rw[e4]
   exact ⟨by omega,by omega⟩
theorem getI_put {g:Int} (h:0≤g∧g<18446744073709551616):getI (putI g)=(g,((putI g).length:Int),0):=by
 unfold getI putI
 rw[getA_put g.toNat 0 0 (by decide) (by show g.toNat<18446744073709551616; omega) (by omega)]
 simp only[Nat.zero_add,Nat.mul_zero,Nat.pow_zero,Nat.mul_one,Prod.mk.injEq]
 exact ⟨by omega,trivial,rfl⟩

end Go.Ax

namespace Go.Ax
open Go.Proofs Go.RowKit
set_option maxRecDepth 100000

def Dsk.cont (D:Dsk) (nm:ByteArray):Option (List UInt8):=(D.get nm).map (·.b)
structure Live (D:Dsk):Prop where
 ok:D.Ok
 up:D.down=false
 fu:D.fuse=0

theorem stE0:stE 0=0:=by decide
theorem stepped0 {D:Dsk} (h:Live D):D.stepped.down=false∧D.stepped.fuse=0:=by
 unfold Dsk.stepped
 rw[h.fu]
 exact ⟨(by decide:stD 0=false),(by decide:stF 0=0)⟩
theorem find_ins (x:Fil) (nm:ByteArray):∀ fs:List Fil,x.name ∉ fs.map (·.name)→(insF x fs).find? (fun y=>decide (y.name=nm))=if x.name=nm then some x else fs.find? fun y=>decide (y.name=nm)
 | [],_=>by
  simp only[insF,List.find?_cons,List.find?_nil]
  by_cases h:x.name=nm <;> simp[h]
 | y::r,hx=>by
  simp only[List.map_cons,List.mem_cons,not_or] at hx
  unfold insF
  split
  ·rw[List.find?_cons]
   by_cases h:x.name=nm <;> simp[h]
  ·rw[List.find?_cons,find_ins x nm r hx.2,List.find?_cons]
   by_cases hy:y.name=nm
   ·have hxn:¬x.name=nm:=fun e=>hx.1 (e.trans hy.symm)
    rw[if_neg hxn]
    simp[hy,hxn]
   ·simp[hy]
theorem find_rep (x:Fil) (nm:ByteArray) (fs:List Fil):(repF fs x).find? (fun y=>decide (y.name=nm))=if x.name=nm then (fs.find? fun y=>decide (y.name=nm)).map fun _=>x else fs.find? fun y=>decide (y.name=nm):=by
 induction fs with
 | nil=>simp[repF]
 | cons y r ih=>
  have e:repF (y::r) x=(if y.name=x.name then x else y)::repF r x:=rfl
  rw[e,List.find?_cons,ih,List.find?_cons]
  by_cases hx:x.name=nm
  ·by_cases hy:y.name=nm
   ·simp[hx,hy]
   ·have:¬y.name=x.name:=fun e=>hy (e.trans hx)
    simp[hx,hy]
  ·by_cases hy:y.name=nm
   ·have:¬y.name=x.name:=fun e=>hx (e.symm.trans hy)
    have h2:¬nm=x.name:=fun e=>hx e.symm
    simp[hx,hy,h2]
   ·by_cases hxy:y.name=x.name
    ·simp[hx,hy,hxy]
    ·simp[hx,hy,hxy]

theorem cont_create {D:Dsk} (h:Live D) {nm:ByteArray} (hn:isName nm=true) (hc:D.cont nm=none):
  (createD D nm).2=0∧Live (createD D nm).1∧(∀ m,(createD D nm).1.cont m=if nm=m then some [] else D.cont m)∧(createD D nm).1.used=D.used∧(createD D nm).1.room=D.room:=by
 have hg:D.get nm=none:=by
  unfold Dsk.cont at hc
  cases hg:D.get nm with
  | none=>rfl
  | some x=>rw[hg] at hc; cases hc
 have e:createD D nm=({D.stepped with files:=insF ⟨nm,[],0⟩ D.files},0):=by
  unfold createD
  rw[hn,if_neg (by decide),if_neg (by simp[h.up])]
  simp only[hg]
  rw[h.fu,if_neg (by simp[stE0])]
 have hok:=createD_ok h.ok nm
 rw[e] at hok ⊢
 obtain ⟨s1,s2⟩:=stepped0 h
 refine ⟨rfl,⟨hok,s1,s2⟩,fun m=>?_,rfl,rfl⟩
 unfold Dsk.cont Dsk.get
 rw[find_ins _ _ _ (get_none hg)]
 simp only
 split <;> rfl
theorem cont_append {D:Dsk} (h:Live D) {nm:ByteArray} {c bs:List UInt8} (hc:D.cont nm=some c) (hr:(bs.length:Int)≤D.room - D.used):
  (appendD D nm bs).2=0∧Live (appendD D nm bs).1∧(∀ m,(appendD D nm bs).1.cont m=if nm=m then some (c++bs) else D.cont m)∧(appendD D nm bs).1.used=D.used+bs.length∧(appendD D nm bs).1.room=D.room:=by
 obtain ⟨x,hg,rfl⟩:∃ x,D.get nm=some x∧x.b=c:=by
  unfold Dsk.cont at hc
  cases hg:D.get nm with
  | none=>rw[hg] at hc; cases hc
  | some x=>rw[hg] at hc; cases hc; exact ⟨x,rfl,rfl⟩
 obtain ⟨_,hxn⟩:=get_some hg
 have e:appendD D nm bs=({D.stepped with files:=repF D.files {x with b:=x.b++bs},used:=D.used+bs.length},0):=by
  unfold appendD
  rw[if_neg (by simp[h.up])]
  simp only[hg]
  rw[if_neg (by omega),h.fu,if_neg (by simp[stE0])]
 have hok:=appendD_ok h.ok nm bs
 rw[e] at hok ⊢
 obtain ⟨s1,s2⟩:=stepped0 h
 refine ⟨rfl,⟨hok,s1,s2⟩,fun m=>?_,rfl,rfl⟩
 show ((repF D.files {x with b:=x.b++bs}).find? fun y=>decide (y.name=m)).map (·.b)=_
 rw[find_rep]
 simp only[hxn]
 split
 ·rename_i e
  subst e
  unfold Dsk.get at hg
  rw[hg]; rfl
 ·rfl
theorem cont_sync {D:Dsk} (h:Live D) {nm:ByteArray} {c:List UInt8} (hc:D.cont nm=some c):
  (syncD D nm).2=0∧Live (syncD D nm).1∧(∀ m,(syncD D nm).1.cont m=D.cont m)∧(syncD D nm).1.used=D.used∧(syncD D nm).1.room=D.room:=by
 obtain ⟨x,hg,rfl⟩:∃ x,D.get nm=some x∧x.b=c:=by
  unfold Dsk.cont at hc
  cases hg:D.get nm with
  | none=>rw[hg] at hc; cases hc
  | some x=>rw[hg] at hc; cases hc; exact ⟨x,rfl,rfl⟩
 obtain ⟨_,hxn⟩:=get_some hg
 have e:syncD D nm=({D.stepped with files:=repF D.files {x with sure:=x.b.length}},0):=by
  unfold syncD
  rw[if_neg (by simp[h.up])]
  simp only[hg]
  rw[h.fu,if_neg (by simp[stE0])]
 have hok:=syncD_ok h.ok nm
 rw[e] at hok ⊢
 obtain ⟨s1,s2⟩:=stepped0 h
 refine ⟨rfl,⟨hok,s1,s2⟩,fun m=>?_,rfl,rfl⟩
 show ((repF D.files {x with sure:=(x.b.length:Int)}).find? fun y=>decide (y.name=m)).map (·.b)=((D.files).find? fun y=>decide (y.name=m)).map (·.b)
 rw[find_rep]
 simp only[hxn]
 split
 ·rename_i e
  subst e
  unfold Dsk.get at hg
  rw[hg]; rfl
 ·rfl
theorem live_new {n:Int}:Live (newD n):=⟨newD_ok n,rfl,rfl⟩
theorem cont_new (n:Int) (m:ByteArray):(newD n).cont m=none:=rfl

end Go.Ax

namespace Go.Ax
open Go.Proofs Go.RowKit
set_option maxRecDepth 100000
theorem ltB_irr:∀ x:List UInt8,Op.bytesLess x x=false
 | []=>rfl
 | a::x=>by simp[Op.bytesLess,ltB_irr x]
theorem ltB_tri:∀ x y:List UInt8,Op.bytesLess x y=false→Op.bytesLess y x=false→x=y
 | [],[],_,_=>rfl
 | _::_,[],_,h=>by simp[Op.bytesLess] at h
 | [],_::_,h,_=>by simp[Op.bytesLess] at h
 | a::x,b::y,h,h'=>by
  simp only[Op.bytesLess,Bool.or_eq_false_iff,decide_eq_false_iff_not,Bool.and_eq_false_iff,beq_eq_false_iff_ne] at h h'
  have e:a=b:=by
   apply UInt8.toNat_inj.mp
   have h1:=h.1
   have h2:=h'.1
   rw[UInt8.lt_iff_toNat_lt] at h1 h2
   omega
  subst e
  rw[ltB_tri x y (h.2.resolve_left (by simp)) (h'.2.resolve_left (by simp))]

theorem ltB_trans:∀ x y z:List UInt8,Op.bytesLess x y=true→Op.bytesLess y z=true→Op.bytesLess x z=true
 | _,_,[],_,h=>by cases ‹List UInt8› <;> simp[Op.bytesLess] at h
 | [],_,_::_,_,_=>by simp[Op.bytesLess]
 | _::_,[],_::_,h,_=>by simp[Op.bytesLess] at h
 | a::x,b::y,c::z,h,h'=>by
  simp only[Op.bytesLess,Bool.or_eq_true,decide_eq_true_eq,Bool.and_eq_true,beq_iff_eq] at h h' ⊢
  rcases h with h | ⟨h,g⟩
  ·rcases h' with h' | ⟨h',g'⟩
   ·refine .inl ?_
    rw[UInt8.lt_iff_toNat_lt] at h h' ⊢; omega
   ·rw[←h']; exact .inl h
  ·rcases h' with h' | ⟨h',g'⟩
   ·rw[h]; exact .inl h'
   ·exact .inr ⟨h.trans h',ltB_trans x y z g g'⟩

end Go.Ax

namespace Go.Ax
open Go.Proofs Go.RowKit
set_option maxRecDepth 100000

structure Ent where
 key:ByteArray
 seq:Int
 del:Bool
 val:ByteArray

abbrev bl (a b:List UInt8):Prop:=Op.bytesLess a b=true
theorem bl_cons {a b:UInt8} {x y:List UInt8}:bl (a::x) (b::y)↔a<b∨(a=b∧bl x y):=by
 simp only[bl,Op.bytesLess,Bool.or_eq_true,decide_eq_true_eq,Bool.and_eq_true,beq_iff_eq]
theorem bl_nil {b:UInt8} {y:List UInt8}:bl [] (b::y):=by simp[bl,Op.bytesLess]
theorem bl_app:∀ (p x y:List UInt8),bl (p++x) (p++y)↔bl x y
 | [],x,y=>Iff.rfl
 | a::p,x,y=>by
  rw[List.cons_append,List.cons_append,bl_cons,bl_app p x y]
  exact ⟨fun h=>h.elim (fun h=>absurd h (UInt8.lt_irrefl _)) (·.2),fun h=> .inr ⟨rfl,h⟩⟩
theorem bl_irr {x:List UInt8} (h:bl x x):False:=by rw[bl,ltB_irr] at h; cases h
theorem bl_trans {x y z:List UInt8} (h:bl x y) (g:bl y z):bl x z:=ltB_trans _ _ _ h g
theorem bl_tri (x y:List UInt8):bl x y∨x=y∨bl y x:=by
 by_cases h:bl x y
 ·exact .inl h
 ·by_cases g:bl y x
  ·exact .inr (.inr g)
  ·exact .inr (.inl (ltB_tri x y (by simpa [bl] using h) (by simpa [bl] using g)))

def escL:List UInt8→List UInt8
 | []=> []
 | c::l=>if c=0 then 0::255::escL l else c::escL l
theorem esc_lt:∀ (k l s t:List UInt8),bl k l→bl (escL k++0::1::s) (escL l++0::1::t)
 | [],[],s,t,h=>absurd h (by simp[bl,Op.bytesLess])
 | [],c::l,s,t,_=>by
  unfold escL
  split
  ·rename_i hc
   rw[List.nil_append,List.cons_append,List.cons_append,bl_cons,bl_cons]
   exact .inr ⟨rfl, .inl (by decide)⟩
  ·rename_i hc
   rw[List.nil_append,List.cons_append,bl_cons]
   refine .inl ?_
   rw[UInt8.lt_iff_toNat_lt]
   have:c.toNat≠0:=fun e=>hc (UInt8.toNat_inj.mp e)
   show 0<c.toNat
   omega
 | c::k,[],s,t,h=>absurd h (by simp[bl,Op.bytesLess])
 | c::k,d::l,s,t,h=>by
  rw[bl_cons] at h
  rcases h with h | ⟨rfl,h⟩
  ·have hd:d≠0:=fun e=>by
    rw[e,UInt8.lt_iff_toNat_lt] at h
    exact absurd h (Nat.not_lt_zero _)
   rw[show escL (d::l)=d::escL l by rw[escL,if_neg hd],List.cons_append]
   unfold escL
   split
   ·rename_i hc
    rw[List.cons_append,bl_cons]
    exact .inl (by rw[hc] at h; exact h)
   ·rw[List.cons_append,bl_cons]
    exact .inl h
  ·have ih:=esc_lt k l s t h
   unfold escL
   split
   ·rw[List.cons_append,List.cons_append,List.cons_append,List.cons_append,bl_cons,bl_cons]
    exact .inr ⟨rfl, .inr ⟨rfl,ih⟩⟩
   ·rw[List.cons_append,List.cons_append,bl_cons]
    exact .inr ⟨rfl,ih⟩

def beN (n:Nat):Nat→List UInt8
 | 0=> []
 | k+1=>UInt8.ofNat (n / 256 ^ k % 256)::beN n k
theorem beN_len (n:Nat):∀ k,(beN n k).length=k
 | 0=>rfl
 | k+1=>by simp[beN,beN_len n k]
theorem beN_lt (a b:Nat):∀ k,a % 256 ^ k<b % 256 ^ k→bl (beN a k) (beN b k)
 | 0,h=>by simp[Nat.mod_one] at h
 | k+1,h=>by
  rw[beN,beN,bl_cons]
  have ha:a % 256 ^ (k+1)=256 ^ k*(a / 256 ^ k % 256)+a % 256 ^ k:=by rw[Nat.pow_succ,Nat.mod_mul,Nat.add_comm]
  have hb:b % 256 ^ (k+1)=256 ^ k*(b / 256 ^ k % 256)+b % 256 ^ k:=by rw[Nat.pow_succ,Nat.mod_mul,Nat.add_comm]
  have h1:a % 256 ^ k<256 ^ k:=Nat.mod_lt _ (Nat.pow_pos (by decide))
  have h2:b % 256 ^ k<256 ^ k:=Nat.mod_lt _ (Nat.pow_pos (by decide))
  rw[ha,hb] at h
  rcases Nat.lt_trichotomy (a / 256 ^ k % 256) (b / 256 ^ k % 256) with e | e | e
  ·refine .inl ?_
   rw[UInt8.lt_iff_toNat_lt,UInt8.toNat_ofNat',UInt8.toNat_ofNat']
   omega
  ·refine .inr ⟨by rw[e],beN_lt a b k ?_⟩
   rw[e] at h
   omega
  ·exfalso
   have:256 ^ k*(b / 256 ^ k % 256)+256 ^ k≤256 ^ k*(a / 256 ^ k % 256):=by
    rw[←Nat.mul_succ]
    exact Nat.mul_le_mul_left _ e
   omega
def bigN (l:List UInt8):Nat:=l.foldl (fun n c=>n*256+c.toNat) 0
theorem big_acc:∀ (l:List UInt8) (a:Nat),l.foldl (fun n c=>n*256+c.toNat) a=a*256 ^ l.length+bigN l
 | [],a=>by simp[bigN]
 | c::l,a=>by
  unfold bigN
  rw[List.foldl_cons,List.foldl_cons,big_acc l,big_acc l (0*256+c.toNat),List.length_cons,Nat.pow_succ,Nat.add_mul,Nat.zero_mul,Nat.zero_add,Nat.mul_assoc,Nat.mul_comm 256 (256 ^ l.length)]
  omega
theorem big_be (n:Nat):∀ k,bigN (beN n k)=n % 256 ^ k
 | 0=>by simp[beN,bigN,Nat.mod_one]
 | k+1=>by
  rw[beN]
  unfold bigN
  have hu:(UInt8.ofNat (n / 256 ^ k % 256)).toNat=n / 256 ^ k % 256:=by
   rw[UInt8.toNat_ofNat']
   exact Nat.mod_eq_of_lt (Nat.mod_lt _ (by decide))
  have hm:n % 256 ^ (k+1)=n % 256 ^ k+256 ^ k*(n / 256 ^ k % 256):=by rw[Nat.pow_succ,Nat.mod_mul]
  rw[List.foldl_cons,big_acc,beN_len,big_be n k,hu,hm,Nat.zero_mul,Nat.zero_add,Nat.mul_comm,Nat.add_comm]
theorem bl_big:∀ (x y:List UInt8),x.length=y.length→(bl x y↔bigN x<bigN y)
 | [],[],_=>by simp[bl,Op.bytesLess,bigN]
 | [],_::_,h=>by simp at h
 | _::_,[],h=>by simp at h
 | a::x,b::y,h=>by
  have hl:x.length=y.length:=by simpa using h
  have ih:=bl_big x y hl
  have bx:∀ l:List UInt8,bigN l<256 ^ l.length:=fun l=>by
   induction l with
   | nil=>decide
   | cons c l ih=>
    unfold bigN
    rw[List.foldl_cons,big_acc,List.length_cons,Nat.pow_succ]
    have:=c.toNat_lt
    have h2:(0*256+c.toNat)*256 ^ l.length≤255*256 ^ l.length:=Nat.mul_le_mul_right _ (by omega)
    omega
  have h1:=bx x
  have h2:=bx y
  rw[←hl] at h2
  have e1:bigN (a::x)=a.toNat*256 ^ x.length+bigN x:=by
   conv=>lhs; unfold bigN
   rw[List.foldl_cons,big_acc,Nat.zero_mul,Nat.zero_add]
  have e2:bigN (b::y)=b.toNat*256 ^ x.length+bigN y:=by
   conv=>lhs; unfold bigN
   rw[List.foldl_cons,big_acc,Nat.zero_mul,Nat.zero_add,hl]
  rw[bl_cons,ih,e1,e2,UInt8.lt_iff_toNat_lt]
  constructor
  ·rintro (g | ⟨rfl,g⟩)
   ·have:a.toNat*256 ^ x.length+256 ^ x.length≤b.toNat*256 ^ x.length:=by
     rw[←Nat.succ_mul]
     exact Nat.mul_le_mul_right _ g
    omega
   ·omega
  ·intro g
   rcases Nat.lt_trichotomy a.toNat b.toNat with e | e | e
   ·exact .inl e
   ·refine .inr ⟨UInt8.toNat_inj.mp e,?_⟩
    rw[e] at g
    omega
   ·exfalso
    have:b.toNat*256 ^ x.length+256 ^ x.length≤a.toNat*256 ^ x.length:=by
     rw[←Nat.succ_mul]
     exact Nat.mul_le_mul_right _ e
    omega

def innN (x:Ent):Nat:=2*x.seq.toNat % 18446744073709551616+(if x.del then 0 else 1)
def innB (x:Ent):List UInt8:=escL x.key.data.toList++0::1::beN (18446744073709551615 - innN x) 8
def ltE (x y:Ent):Prop:=bl x.key.data.toList y.key.data.toList∨(x.key=y.key∧y.seq<x.seq)
def SeqOk (x:Ent):Prop:=0≤x.seq∧x.seq≤72057594037927935
theorem innN_lt {x:Ent} (h:SeqOk x):innN x=2*x.seq.toNat+(if x.del then 0 else 1)∧innN x<144115188075855872:=by
 have h1:=h.1
 have h2:=h.2
 unfold innN
 rw[Nat.mod_eq_of_lt (by omega)]
 refine ⟨rfl,?_⟩
 split <;> omega
theorem inn_lt {x y:Ent} (hx:SeqOk x) (hy:SeqOk y) (h:ltE x y):bl (innB x) (innB y):=by
 unfold innB
 rcases h with h | ⟨h,g⟩
 ·exact esc_lt _ _ _ _ h
 ·rw[h,bl_app,bl_cons]
  refine .inr ⟨rfl,?_⟩
  rw[bl_cons]
  refine .inr ⟨rfl,?_⟩
  have h1:=innN_lt hx
  have h2:=innN_lt hy
  have h3:=hx.1
  have h4:=hy.1
  apply beN_lt
  rw[Nat.mod_eq_of_lt (by omega),Nat.mod_eq_of_lt (by omega)]
  have:innN y<innN x:=by
   rw[h1.1,h2.1]
   split <;> split <;> omega
  omega
end Go.Ax

namespace Go.Ax
open Go.Proofs Go.RowKit
set_option maxRecDepth 100000

def outA:List UInt8→Option (List UInt8×List UInt8)
 | []=>some ([],[])
 | c::r=>match r with
  | []=>if c=0 then none else some ([c],[])
  | d::r'=>if c=0 then (if d=1 then some ([],c::d::r') else if d=255 then (outA r').map fun p=>(0::p.1,p.2) else none) else (outA (d::r')).map fun p=>(c::p.1,p.2)
def chkE (x:Ent):Int:=
 if x.key.size=0∨x.seq>72057594037927935∨(x.del=true∧x.val.size≠0) then 1 else if x.key.size>128∨x.val.size>65536 then 6 else 0
def noE:Ent:=⟨⟨#[]⟩,0,false,⟨#[]⟩⟩
def outI (s:List UInt8):Ent×Int:=
 match outA s with
 | none=>(noE,2)
 | some (k,r)=>
  if r.length≠10 then (noE,2) else
  if chkE ⟨⟨k.toArray⟩,((18446744073709551615 - bigN (r.drop 2)) / 2:Nat),decide ((18446744073709551615 - bigN (r.drop 2)) % 2=0),⟨#[]⟩⟩≠0 then (noE,2) else
  (⟨⟨k.toArray⟩,((18446744073709551615 - bigN (r.drop 2)) / 2:Nat),decide ((18446744073709551615 - bigN (r.drop 2)) % 2=0),⟨#[]⟩⟩,0)
theorem outA_esc:∀ (k t:List UInt8),outA (escL k++0::1::t)=some (k,0::1::t)
 | [],t=>by
  show outA (0::1::t)=_
  unfold outA
  simp
 | c::k,t=>by
  have ih:=outA_esc k t
  unfold escL
  by_cases hc:c=0
  ·subst hc
   rw[if_pos rfl]
   show outA (0::255::(escL k++0::1::t))=_
   rw[outA]
   simp only[if_true]
   rw[if_neg (by decide),ih]
   rfl
  ·rw[if_neg hc,List.cons_append]
   cases he:escL k++0::1::t with
   | nil=>simp at he
   | cons d r=>
    rw[he] at ih
    rw[outA,if_neg hc,ih]
    rfl
theorem out_inn {x:Ent} (hs:0≤x.seq) (h:chkE x=0):outI (innB x)=(⟨x.key,x.seq,x.del,⟨#[]⟩⟩,0):=by
 have hb:¬(x.key.size=0∨x.seq>72057594037927935∨(x.del=true∧x.val.size≠0)):=fun e=>by
  unfold chkE at h
  rw[if_pos e] at h
  cases h
 have hl:¬(x.key.size>128∨x.val.size>65536):=fun e=>by
  unfold chkE at h
  rw[if_neg hb,if_pos e] at h
  cases h
 have hq:SeqOk x:=⟨hs,by omega⟩
 obtain ⟨n1,n2⟩:=innN_lt hq
 unfold outI innB
 rw[outA_esc]
 simp only[List.length_cons,beN_len,List.drop_succ_cons,List.drop_zero]
 rw[if_neg (by decide),big_be,Nat.mod_eq_of_lt (by omega),show 18446744073709551615 - (18446744073709551615 - innN x)=innN x by omega]
 have e1:((innN x / 2:Nat):Int)=x.seq:=by
  rw[n1]
  split <;> omega
 have e2:decide (innN x % 2=0)=x.del:=by
  rw[n1]
  cases x.del
  ·rw[if_neg (by decide)]; exact decide_eq_false (by omega)
  ·rw[if_pos rfl]; exact decide_eq_true (by omega)
 rw[e1,e2]
 have ek:(⟨x.key.data.toList.toArray⟩:ByteArray)=x.key:=by simp
 rw[ek]
 have hc:chkE ⟨x.key,x.seq,x.del,⟨#[]⟩⟩=0:=by
  unfold chkE
  rw[if_neg,if_neg]
  ·rintro (e | e)
   ·exact hl (.inl e)
   ·exact absurd e (show ¬(0>65536) by decide)
  ·rintro (e | e | e)
   ·exact hb (.inl e)
   ·exact hb (.inr (.inl e))
   ·exact absurd rfl e.2
 rw[if_neg (by rw[hc]; decide)]
end Go.Ax

namespace Go.Ax
open Go.Proofs Go.RowKit
set_option maxRecDepth 100000

theorem wp_fork {x y:Tree} {K:AE→St→Prop} (hx:x.wp K) (hy:y.wp K):(Tree.fork x y).wp K:=⟨hx,hy⟩

end Go.Ax

namespace Go.Ax
open Go.Proofs Go.RowKit
set_option maxRecDepth 100000

end Go.Ax

namespace Go.Ax
open Go.Proofs Go.RowKit
set_option maxRecDepth 100000

theorem getA_app:∀ (b r:List UInt8) (i a:Nat),(getA i a b).2.2=0→getA i a (b++r)=getA i a b
 | [],r,i,a,h=>by simp[getA] at h
 | c::b,r,i,a,h=>by
  have ih:=getA_app b r (i+1) (a+c.toNat % 128*2 ^ (7*i))
  rw[List.cons_append]
  unfold getA at h ⊢
  split
  ·rfl
  ·rename_i h1
   rw[if_neg h1] at h
   split
   ·rfl
   ·rename_i h2
    rw[if_neg h2] at h
    exact ih h
theorem getI_app {g:Int} (h:0≤g∧g<18446744073709551616) (r:List UInt8):getI (putI g++r)=(g,((putI g).length:Int),0):=by
 have h1:=getI_put h
 have h2:(getA 0 0 (putI g)).2.2=0:=by
  have:=congrArg (fun x=>x.2.2) h1
  unfold getI at this
  simp only at this
  omega
 rw[←h1]
 unfold getI
 rw[getA_app _ r 0 0 h2]

end Go.Ax

namespace Go.Ax
open Go.Proofs Go.RowKit
set_option maxRecDepth 100000

structure Par where
 name:ByteArray
 val:ByteArray
abbrev Par.nl (p:Par):List UInt8:=p.name.data.toList
abbrev Par.vl (p:Par):List UInt8:=p.val.data.toList
def comN:List UInt8→List UInt8→Nat
 | a::x,b::y=>if a=b then comN x y+1 else 0
 | _,_=>0
theorem comN_le:∀ x y:List UInt8,comN x y≤x.length∧comN x y≤y.length
 | [],_=>by simp[comN]
 | _::_,[]=>by simp[comN]
 | a::x,b::y=>by
  have:=comN_le x y
  unfold comN
  split <;> simp <;> omega
theorem comN_take:∀ x y:List UInt8,x.take (comN x y)=y.take (comN x y)
 | [],_=>by simp[comN]
 | _::_,[]=>by simp[comN]
 | a::x,b::y=>by
  unfold comN
  split
  ·rename_i h
   rw[List.take_succ_cons,List.take_succ_cons,comN_take x y,h]
  ·rfl
def sameN (i:Nat) (last n:List UInt8):Nat:=if i % 8=0 then 0 else comN last n
def entB (k:Nat) (p:Par):List UInt8:=putI k++putI ((p.nl.length:Int) - k)++putI p.vl.length++p.nl.drop k++p.vl
def mkP:Nat→List UInt8→List Par→List UInt8→List UInt8→Nat→List UInt8×Int
 | _,_,[],b,w,c=>(b++w++leI c 4,0)
 | i,last,p::L,b,w,c=>
  if i>0∧¬bl last p.nl then ([],1) else
  if (b++entB (sameN i last p.nl) p).length>262144 then ([],6) else
  mkP (i+1) p.nl L (b++entB (sameN i last p.nl) p) (if i % 8=0 then w++leI b.length 4 else w) (if i % 8=0 then c+1 else c)
def mkI (L:List Par):List UInt8×Int:=mkP 0 [] L [] [] 0
def oneI (N:Nat) (r last:List UInt8):Option (Par×List UInt8):=
 let r1:=r.drop (getI r).2.1.toNat
 let r2:=r1.drop (getI r1).2.1.toNat
 let r3:=r2.drop (getI r2).2.1.toNat
 if (getI r).2.2≠0∨(getI r).1>N then none else
 if (getI r1).2.2≠0∨(getI r1).1>N then none else
 if (getI r2).2.2≠0∨(getI r2).1>N then none else
 if (getI r).1>last.length∨(getI r1).1+(getI r2).1>r3.length then none else
 some (⟨⟨(last.take (getI r).1.toNat++r3.take (getI r1).1.toNat).toArray⟩,⟨((r3.drop (getI r1).1.toNat).take (getI r2).1.toNat).toArray⟩⟩,r3.drop ((getI r1).1+(getI r2).1).toNat)
def readA (N:Nat):Nat→List UInt8→List UInt8→Option (List Par)
 | _,[],_=>some []
 | 0,_::_,_=>none
 | f+1,c::r,last=>match oneI N (c::r) last with
  | none=>none
  | some (p,r')=>(readA N f r' p.nl).map (p :: ·)

def bodyL:Nat→List UInt8→List Par→List UInt8
 | _,_,[]=> []
 | i,last,p::L=>entB (sameN i last p.nl) p++bodyL (i+1) p.nl L
def wholeL:Nat→Nat→List UInt8→List Par→List UInt8
 | _,_,_,[]=> []
 | o,i,last,p::L=>(if i % 8=0 then leI o 4 else [])++wholeL (o+(entB (sameN i last p.nl) p).length) (i+1) p.nl L
def cntL:Nat→List Par→Nat
 | _,[]=>0
 | i,_::L=>(if i % 8=0 then 1 else 0)+cntL (i+1) L
def upL:List UInt8→List Par→Prop
 | _,[]=>True
 | last,p::L=>bl last p.nl∧upL p.nl L
def upL0:List Par→Prop
 | []=>True
 | p::L=>upL p.nl L
theorem mkP_ok:∀ (L:List Par) (i:Nat) (last b w:List UInt8) (c:Nat),(i=0→∀ p M,L=p::M→upL p.nl M)→(0<i→upL last L)→(b++bodyL i last L).length≤262144 →
  mkP i last L b w c=(b++bodyL i last L++(w++wholeL b.length i last L)++leI ((c+cntL i L:Nat):Int) 4,0)
 | [],i,last,b,w,c,_,_,_=>by simp[mkP,bodyL,wholeL,cntL]
 | p::L,i,last,b,w,c,h0,h1,hl=>by
  have hup:upL p.nl L:=by
   rcases Nat.eq_zero_or_pos i with e | e
   ·exact h0 e p L rfl
   ·exact (h1 e).2
  have hnb:¬(i>0∧¬bl last p.nl):=fun e=>e.2 (h1 e.1).1
  have e2:b++bodyL i last (p::L)=(b++entB (sameN i last p.nl) p)++bodyL (i+1) p.nl L:=by rw[bodyL,List.append_assoc]
  rw[e2] at hl
  have hle:(b++entB (sameN i last p.nl) p).length≤262144:=by
   rw[List.length_append] at hl
   omega
  rw[mkP,if_neg hnb,if_neg (by omega),mkP_ok L (i+1) p.nl _ _ _ (fun e=>absurd e (by omega)) (fun _=>hup) hl,e2]
  congr 1
  have e3:wholeL b.length i last (p::L)=(if i % 8=0 then leI b.length 4 else [])++wholeL (b++entB (sameN i last p.nl) p).length (i+1) p.nl L:=by rw[wholeL,List.length_append]
  have e4:cntL i (p::L)=(if i % 8=0 then 1 else 0)+cntL (i+1) L:=rfl
  rw[e3,e4]
  by_cases h8:i % 8=0
  ·rw[if_pos h8,if_pos h8,if_pos h8,if_pos h8,List.append_assoc w,Nat.add_assoc]
  ·rw[if_neg h8,if_neg h8,if_neg h8,if_neg h8,List.nil_append,Nat.zero_add]
theorem putI_len1 (g:Int):1≤(putI g).length:=by
 unfold putI
 rw[putN]
 split <;> simp
theorem sameN_le (i:Nat) (last n:List UInt8):sameN i last n≤last.length∧sameN i last n≤n.length:=by
 unfold sameN
 split
 ·omega
 ·exact comN_le _ _
theorem sameN_take (i:Nat) (last n:List UInt8):last.take (sameN i last n)=n.take (sameN i last n):=by
 unfold sameN
 split
 ·rfl
 ·exact comN_take _ _
theorem entB_len (k:Nat) (p:Par) (hk:k≤p.nl.length):(entB k p).length=(putI k).length+(putI ((p.nl.length:Int) - k)).length+(putI p.vl.length).length+(p.nl.length - k)+p.vl.length:=by
 simp only[entB,List.length_append,List.length_drop]
theorem one_ent {N i:Nat} {last:List UInt8} {p:Par} (hN:N≤1000000000) (hl:last.length≤N) (hn:p.nl.length≤N) (hv:p.vl.length≤N) (r:List UInt8):oneI N (entB (sameN i last p.nl) p++r) last=some (p,r):=by
 obtain ⟨s1,s2⟩:=sameN_le i last p.nl
 have st:=sameN_take i last p.nl
 generalize sameN i last p.nl=k at s1 s2 st
 have g0:=getI_app (g:=(k:Int)) (by omega) (putI ((p.nl.length:Int) - k)++(putI p.vl.length++(p.nl.drop k++(p.vl++r))))
 have g1:=getI_app (g:=(p.nl.length:Int) - k) (by omega) (putI p.vl.length++(p.nl.drop k++(p.vl++r)))
 have g2:=getI_app (g:=(p.vl.length:Int)) (by omega) (p.nl.drop k++(p.vl++r))
 have e:entB k p++r=putI k++(putI ((p.nl.length:Int) - k)++(putI p.vl.length++(p.nl.drop k++(p.vl++r)))):=by simp[entB]
 have d:∀ (x y:List UInt8),(x++y).drop (x.length:Int).toNat=y:=fun x y=>by rw[Int.toNat_natCast]; exact List.drop_left
 rw[e]
 unfold oneI
 simp only[g0,d,g1,g2]
 rw[if_neg (by omega),if_neg (by omega),if_neg (by omega),if_neg (by simp only[List.length_append,List.length_drop]; omega)]
 congr 2
 ·have t1:(p.nl.drop k++(p.vl++r)).take ((p.nl.length:Int) - k).toNat=p.nl.drop k:=List.take_left' (by rw[List.length_drop]; omega)
  have t2:(p.nl.drop k++(p.vl++r)).drop ((p.nl.length:Int) - k).toNat=p.vl++r:=List.drop_left' (by rw[List.length_drop]; omega)
  rw[t1,t2,Int.toNat_natCast,Int.toNat_natCast,List.take_left,st,List.take_append_drop]
 ·rw[←List.append_assoc]
  exact List.drop_left' (by rw[List.length_append,List.length_drop]; omega)
theorem read_body:∀ (L:List Par) (i f N P:Nat) (last:List UInt8),N≤1000000000→last.length≤P→P+(bodyL i last L).length≤N→L.length≤f→readA N f (bodyL i last L) last=some L
 | [],i,f,N,P,last,_,_,_,_=>by cases f <;> rfl
 | p::L,i,0,N,P,last,_,_,_,h=>by simp at h
 | p::L,i,f+1,N,P,last,hN,h1,h2,h3=>by
  obtain ⟨s1,s2⟩:=sameN_le i last p.nl
  have hlen:=entB_len _ p s2
  rw[bodyL,List.length_append] at h2
  have ih:=read_body L (i+1) f N (P+(entB (sameN i last p.nl) p).length) p.nl hN (by omega) (by omega) (by simpa using h3)
  have h1e:=one_ent (N:=N) (i:=i) (last:=last) (p:=p) hN (by omega) (by omega) (by omega) (bodyL (i+1) p.nl L)
  have hne:=putI_len1 (sameN i last p.nl)
  rw[bodyL]
  cases hc:entB (sameN i last p.nl) p++bodyL (i+1) p.nl L with
  | nil=>
   have:=congrArg List.length hc
   rw[List.length_append,List.length_nil] at this
   omega
  | cons c r=>
   rw[hc] at h1e
   rw[readA,h1e]
   simp only
   rw[ih]
   rfl
end Go.Ax
