/- The disk's functions, for their callers; rows handed over. -/
import Derived.Test.YtjlipmcdnigfcaaDoorG25
import Derived.Test.YtjlipmcdnigfcaaDoorG21
import Derived.Test.YtjlipmcdnigfcaaDoorG24
import Derived.Test.YtjlipmcdnigfcaaDoorG20
import Derived.Test.YtjlipmcdnigfcaaDoorG19
set_option linter.unusedVariables false
set_option linter.unusedSimpArgs false
set_option linter.unusedSectionVars false
namespace Go.Ax
open Go.Proofs Go.RowKit
set_option maxRecDepth 100000

def orR (R1 R2:RSpec):RSpec:=fun a b c d=>R1 a b c d∨R2 a b c d
def takeR (R:RSpec):RSpec:=orR (liftR R) (sealR (liftR R))
theorem take_sound {f:Nat} {R:RSpec} (h:SoundR DP f R):SoundR DP f (takeR R):=(lift_sound h).or (lift_sound h).shutRow

section
variable {B : List Box} {b : Nat} {D D1 : Dsk} {nm nn : ByteArray} {e : Int}

theorem oNew (n:Int):liftR ONew [vi n] B (.op B.length) (B++ [.obj [] (diskP (newD n))]):=lift_new ⟨n,rfl,rfl,rfl,rfl⟩ rfl
theorem oCreate (ok:D.Ok) (hN:nm.size≤1000000000) (hb:B[b]? = some (.obj [] (diskP D))):liftR OCreate [.op b,vs nm] B (vi (createD D nm).2) (B.set b (.obj [] (diskP (createD D nm).1))):=
 lift_obj (R:=OCreate) ⟨D,nm,ok,hN,rfl,rfl,rfl,rfl⟩ hb rfl rfl
theorem oAppend {bs:List UInt8} (ok:D.Ok) (hN:bs.length≤1000000000) (hb:B[b]? = some (.obj [] (diskP D))):takeR OAppend [.op b,vs nm,vl (bs.map byteE.f)] B (vi (appendD D nm bs).2) (B.set b (.obj [] (diskP (appendD D nm bs).1))):=
 .inl (lift_obj (R:=OAppend) ⟨D,nm,bs,ok,hN,rfl,rfl,rfl,rfl⟩ hb rfl rfl)
theorem oSync (ok:D.Ok) (hb:B[b]? = some (.obj [] (diskP D))):liftR OSync [.op b,vs nm] B (vi (syncD D nm).2) (B.set b (.obj [] (diskP (syncD D nm).1))):=
 lift_obj (R:=OSync) ⟨D,nm,ok,rfl,rfl,rfl,rfl⟩ hb rfl rfl
theorem oRemove (ok:D.Ok) (hb:B[b]? = some (.obj [] (diskP D))):liftR ORemove [.op b,vs nm] B (vi (removeD D nm).2) (B.set b (.obj [] (diskP (removeD D nm).1))):=
 lift_obj (R:=ORemove) ⟨D,nm,ok,rfl,rfl,rfl,rfl⟩ hb rfl rfl
theorem oRename (ok:D.Ok) (hN:nn.size≤1000000000) (hb:B[b]? = some (.obj [] (diskP D))):liftR ORename [.op b,vs nm,vs nn] B (vi (renameD D nm nn).2) (B.set b (.obj [] (diskP (renameD D nm nn).1))):=
 lift_obj (R:=ORename) ⟨D,nm,nn,ok,hN,rfl,rfl,rfl,rfl⟩ hb rfl rfl
theorem set_same {B:List Box} {b:Nat} {x:Box} (hb:B[b]? = some x):B.set b x=B:=by
 refine List.ext_getElem? fun j=>?_
 rw[List.getElem?_set]
 split
 ·rename_i e; subst e
  rw[if_pos (List.getElem?_eq_some_iff.1 hb).1]; exact hb.symm
 ·rfl
theorem oRead {ofs n:Int} (ok:D.Ok) (hb:B[b]? = some (.obj [] (diskP D))):
  liftR ORead [.op b,vs nm,vi ofs,vi n] B (.tup [.rs B.length 0 1 0 (readD D nm ofs n).1.length,vi (readD D nm ofs n).2]) (B++ [byteE.bx 0 (readD D nm ofs n).1]):=by
 have:=lift_objrow (R:=ORead) (xs:=(readD D nm ofs n).1.map byteE.f) ⟨D,nm,ofs,n,ok,rfl,rfl,rfl,rfl⟩ hb rfl
 rw[set_same hb] at this
 exact this
theorem oDown (ok:D.Ok) (hb:B[b]? = some (.obj [] (diskP D))):liftR ODown [.op b] B (vb D.down) B:=by
 have:=lift_obj (R:=ODown) (al:= []) ⟨D,ok,rfl,rfl,rfl,rfl⟩ hb rfl rfl
 rwa[set_same hb] at this
theorem oRoom (ok:D.Ok) (hb:B[b]? = some (.obj [] (diskP D))):liftR ORoom [.op b] B (vi (D.room - D.used)) B:=by
 have:=lift_obj (R:=ORoom) (al:= []) ⟨D,ok,rfl,rfl,rfl,rfl⟩ hb rfl rfl
 rwa[set_same hb] at this
theorem oSize (ok:D.Ok) (hb:B[b]? = some (.obj [] (diskP D))):liftR OSize [.op b,vs nm] B (.tup [vi (sizeD D nm).1,vi (sizeD D nm).2]) B:=by
 have:=lift_obj (R:=OSize) ⟨D,nm,ok,rfl,rfl,rfl,rfl⟩ hb rfl rfl
 rwa[set_same hb] at this
end

end Go.Ax

namespace Go.Ax
open Go.Proofs Go.RowKit
set_option maxRecDepth 100000

end Go.Ax

namespace Go.Ax
open Go.Proofs Go.RowKit
set_option maxRecDepth 100000

end Go.Ax

namespace Go.Ax
open Go.Proofs Go.RowKit
set_option maxRecDepth 100000

theorem Dsk.Ok.len {D:Dsk} (ok:D.Ok) {nm:ByteArray} {x:Fil} (h:D.get nm=some x):(x.b.length:Int)≤67108864:=by
 obtain ⟨hx,_⟩:=get_some h
 have h1:=lens_perm (delF_perm ok.nod hx)
 rw[lens_cons] at h1
 have h2:=ok.used
 change D.used=lens D.files at h2
 have h3:=ok.le
 have h4:=ok.room
 have h5:∀ fs:List Fil,0≤lens fs:=fun fs=>by
  induction fs with
  | nil=>exact Int.le_refl _
  | cons y fs ih=>rw[lens_cons]; omega
 have:=h5 (delF D.files x.name)
 omega
theorem oRPut {B:List Box} {d:List UInt8} (hd:d.length≤1048576):takeR ORPut [nilS,vl (d.map byteE.f)] B (.tup [.rs B.length 0 1 0 (recB d).length,vi 0]) (B++ [byteE.bx 0 (recB d)]):=by
 refine .inl ⟨_,_,_,_,⟨d,by omega,rfl,rfl, .inr ⟨hd,rfl,rfl⟩⟩,⟨[],[],[],[],[byteE.bx 0 (recB d)],rfl,rfl,rfl,rfl,trivial,⟨.rowv (by simp[dNew]),trivial⟩,?_,?_,rfl⟩⟩
 ·simp[outB]
 ·simp[AV.rv,AV.rv.rvL,fNew,dNew]
theorem oRPutS {B:List Box} {d:List UInt8} {k v:Nat} (hd:d.length≤1048576) (hk:B[k]? = some (byteE.bx v d)):
  takeR ORPut [nilS, .rs k v 1 0 d.length] B (.tup [.rs B.length 0 1 0 (recB d).length,vi 0]) (B.set k .dead++ [byteE.bx 0 (recB d)]):=by
 refine .inr ⟨1,k,v,UInt8,byteE,d,hk,rfl,?_⟩
 refine ⟨_,_,_,_,⟨d,by omega,rfl,rfl, .inr ⟨hd,rfl,rfl⟩⟩,⟨[],[],[],[],[byteE.bx 0 (recB d)],rfl,rfl,rfl,rfl,trivial,⟨.rowv (by simp[dNew]),trivial⟩,?_,?_,rfl⟩⟩
 ·simp[outB]
 ·simp[AV.rv,AV.rv.rvL,fNew,dNew]

end Go.Ax

namespace Go.Ax
open Go.Proofs Go.RowKit
set_option maxRecDepth 100000

end Go.Ax

namespace Go.Ax
open Go.Proofs Go.RowKit
set_option maxRecDepth 100000

section
variable {D : Dsk} {frm : Int} {s1 : Int × Int × List ByteArray × Int}
end

end Go.Ax

namespace Go.Ax
open Go.Proofs Go.RowKit
set_option maxRecDepth 100000

theorem wp_any {x:Tree} {K:AE→St→Prop} (h:x.wp K):(Tree.any x).wp K:=h
abbrev dkB (D:Dsk):Box:= .obj [] (diskP D)
theorem putI_len (g:Int) (h:0≤g∧g<18446744073709551616):(putI g).length≤10:=putN_len64 (by omega)

end Go.Ax

namespace Go.Ax
open Go.Proofs Go.RowKit
set_option maxRecDepth 100000

end Go.Ax

namespace Go.Ax
open Go.Proofs Go.RowKit
set_option maxRecDepth 100000

section
variable {R : RSpec} {al : List AV} {B : List Box} {b l : Nat} {D D1 : Dsk} {p g p1 g1 n : Int} {o o1 : Bool} {y : PV} {s : ByteArray}
end

end Go.Ax

namespace Go.Ax
open Go.Proofs Go.RowKit
set_option maxRecDepth 100000

end Go.Ax

namespace Go.Ax
open Go.Proofs Go.RowKit
set_option maxRecDepth 100000

theorem dec_ok (u:Nat):∀ c∈Lib.decDigits u,48≤c.toNat∧c.toNat≤57:=by
 induction u using Nat.strongRecOn with
 | _ u ih=>
  rw[Lib.decDigits]
  split
  ·rename_i h
   intro c hc
   rw[List.mem_singleton.1 hc,UInt8.toNat_ofNat']
   omega
  ·rename_i h
   intro c hc
   rcases List.mem_append.1 hc with hc | hc
   ·exact ih (u / 10) (by omega) c hc
   ·rw[List.mem_singleton.1 hc,UInt8.toNat_ofNat']
    omega
theorem numN_leN (n:Nat):∀ k:Nat,numN (leN n k)=n % 256 ^ k:=by
 intro k
 induction k generalizing n with
 | zero=>simp[leN,numN,Nat.mod_one]
 | succ k ih=>
  rw[leN,numN,ih,UInt8.toNat_ofNat']
  have e:256 ^ (k+1)=256*256 ^ k:=by rw[Nat.pow_succ,Nat.mul_comm]
  rw[e,Nat.mod_mul]
  show n % 256 % 256+_=_
  omega
theorem little_le {n:Int} (h:0≤n∧n<4294967296):littleI (leI n 4)=n:=by
 unfold littleI leI
 rw[List.take_of_length_le (by rw[leN_len]; decide),numN_leN,Nat.mod_eq_of_lt (by show n.toNat<4294967296; omega)]
 omega

theorem take_app {α:Type} {a b:List α} {n:Nat} (h:a.length=n):(a++b).take n=a:=by rw[←h]; simp
theorem next_rec {d:List UInt8} (hd:d.length≤1048576) (rest:List UInt8):nextI (recB d++rest)=(d,((d.length:Int)+12),0):=by
 have hl4:(leI (d.length:Int) 4).length=4:=leI_len _ _
 have hm4:(leI (maskI (crcI (leI (d.length:Int) 4))) 4).length=4:=leI_len _ _
 have hc4:(leI (maskI (crcI d)) 4).length=4:=leI_len _ _
 have e:recB d++rest=leI (d.length:Int) 4++(leI (maskI (crcI (leI (d.length:Int) 4))) 4++(leI (maskI (crcI d)) 4++(d++rest))):=by simp[recB]
 have t4:(recB d++rest).take 4=leI (d.length:Int) 4:=by rw[e]; exact take_app hl4
 have t8:((recB d++rest).take 8).drop 4=leI (maskI (crcI (leI (d.length:Int) 4))) 4:=by
  rw[e,←List.append_assoc,take_app (by rw[List.length_append,hl4,hm4])]
  rw[List.drop_append_of_le_length (by omega),List.drop_of_length_le (by omega),List.nil_append]
 have t12:((recB d++rest).take 12).drop 8=leI (maskI (crcI d)) 4:=by
  rw[e,←List.append_assoc,←List.append_assoc,take_app (by rw[List.length_append,List.length_append,hl4,hm4,hc4])]
  rw[List.drop_append_of_le_length (by rw[List.length_append]; omega),List.drop_of_length_le (by rw[List.length_append]; omega),List.nil_append]
 have l4:littleI ((recB d++rest).take 4)=(d.length:Int):=by rw[t4]; exact little_le (by omega)
 have m1:=maskI_b (crcI (leI (d.length:Int) 4))
 have m2:=maskI_b (crcI d)
 have tn:((recB d++rest).take (12+littleI ((recB d++rest).take 4)).toNat).drop 12=d:=by
  rw[l4,take_app (by rw[recB_len]; omega)]
  unfold recB
  rw[List.drop_append_of_le_length (by simp only[List.length_append,leI_len]; decide),List.drop_of_length_le (by simp only[List.length_append,leI_len]; decide),List.nil_append]
 unfold nextI
 rw[if_neg (by rw[List.length_append,recB_len]; omega),if_neg,if_neg (by rw[List.length_append,recB_len,l4]; omega),if_neg]
 ·rw[tn,l4]; simp only[Prod.mk.injEq,and_true,true_and]; omega
 ·rw[t12,tn,little_le m2]
  intro h; exact h (by omega)
 ·rw[t8,t4,little_le m1,little_le (by omega)]
  rintro (h | h)
  ·exact h (by omega)
  ·omega

theorem getA_put:∀ (n i a:Nat),i≤9→n<2 ^ (64 - 7*i)→(0<i→0<n)→getA i a (putN n)=(a+n*2 ^ (7*i),i+(putN n).length,0):=by
 intro n
 induction n using Nat.strongRecOn with
 | _ n ih=>
  intro i a hi hn hp
  have h9:i=9→n≤1:=fun e=>by
   subst e
   have:(2:Nat) ^ (64 - 7*9)=2:=by decide
   omega
  by_cases h:n<128
  ·rw[putN_lt h,getA,UInt8.toNat_ofNat']
   have e:n % 2 ^ 8=n:=Nat.mod_eq_of_lt (by omega)
   rw[e,if_neg (by rintro ⟨h1,h2⟩; have:=h9 h1; omega),if_pos h,if_neg (by rintro ⟨h1,h2⟩; have:=hp h2; omega)]
   rfl
  ·rw[putN_ge h,getA,UInt8.toNat_ofNat']
   have e:(n % 128+128) % 2 ^ 8=n % 128+128:=Nat.mod_eq_of_lt (by omega)
   have hi8:i+1≤9:=by
    rcases Nat.lt_or_ge i 9 with h1 | h1
    ·omega
    ·have:=h9 (by omega); omega
   have hpow:2 ^ (64 - 7*i)=128*2 ^ (64 - 7*(i+1)):=by
    rw[show 64 - 7*i=7+(64 - 7*(i+1)) by omega,Nat.pow_add]
   rw[e,if_neg (by omega),if_neg (by omega),ih (n / 128) (by omega) (i+1) _ hi8 (by rw[Nat.div_lt_iff_lt_mul (by decide)]; omega) (by omega)]
   have e2:(n % 128+128) % 128=n % 128:=by omega
   have e3:2 ^ (7*(i+1))=128*2 ^ (7*i):=by rw[show 7*(i+1)=7+7*i by omega,Nat.pow_add]
   rw[e2,e3,List.length_cons]
   have e4:n / 128*(128*2 ^ (7*i))=n / 128*128*2 ^ (7*i):=by rw[Nat.mul_assoc]
   have e5:n % 128*2 ^ (7*i)+n / 128*128*2 ^ (7*i)=n*2 ^ (7*i):=by rw[←Nat.add_mul]; congr 1; omega
   simp only[Prod.mk.injEq,and_true]
   rw[e4]
   exact ⟨by omega,by omega⟩
theorem getI_put {g:Int} (h:0≤g∧g<18446744073709551616):getI (putI g)=(g,((putI g).length:Int),0):=by
 unfold getI putI
 rw[getA_put g.toNat 0 0 (by decide) (by show g.toNat<18446744073709551616; omega) (by omega)]
 simp only[Nat.zero_add,Nat.mul_zero,Nat.pow_zero,Nat.mul_one,Prod.mk.injEq]
 exact ⟨by omega,trivial,rfl⟩

theorem allA_recs:∀ (ds:List (List UInt8)) (pre:List UInt8) (f:Nat) (out:List (List UInt8)),(∀ d∈ds,d.length≤1048576)→(pre++(ds.map recB).flatten).length≤pre.length+f →
  allA f (pre++(ds.map recB).flatten) pre.length out=(out++ds,((pre++(ds.map recB).flatten).length:Int),0)
 | [],pre,f,out,_,_=>by
  simp only[List.map_nil,List.flatten_nil,List.append_nil]
  cases f with
  | zero=>rfl
  | succ f=>rw[allA,if_pos (Nat.le_refl _)]
 | d::ds,pre,f,out,hd,hf=>by
  have hdl:=hd d (by simp)
  simp only[List.map_cons,List.flatten_cons,List.length_append,recB_len] at hf
  cases f with
  | zero=>omega
  | succ f=>
   have hdrop:(pre++((d::ds).map recB).flatten).drop pre.length=recB d++(ds.map recB).flatten:=by simp
   have hn:=next_rec hdl (ds.map recB).flatten
   rw[allA,if_neg (by simp only[List.map_cons,List.flatten_cons,List.length_append,recB_len]; omega),hdrop,hn]
   simp only
   rw[if_neg (by decide),if_neg (by decide)]
   have hpre:pre++((d::ds).map recB).flatten=(pre++recB d)++(ds.map recB).flatten:=by simp
   have hat:pre.length+((d.length:Int)+12).toNat=(pre++recB d).length:=by rw[List.length_append,recB_len]; omega
   rw[hpre,hat,allA_recs ds (pre++recB d) f (out++ [d]) (fun x hx=>hd x (by simp[hx])) (by simp only[List.length_append,recB_len]; omega)]
   simp
theorem allI_recs {ds:List (List UInt8)} (h:∀ d∈ds,d.length≤1048576):allI (ds.map recB).flatten=(ds,((ds.map recB).flatten.length:Int),0):=by
 have:=allA_recs ds [] (ds.map recB).flatten.length [] h (by simp)
 simpa [allI] using this

def partB (g:Int) (ts:List (List UInt8)):List UInt8:=((putI g::ts).map recB).flatten
end Go.Ax

namespace Go.Ax
open Go.Proofs Go.RowKit
set_option maxRecDepth 100000

def Dsk.cont (D:Dsk) (nm:ByteArray):Option (List UInt8):=(D.get nm).map (·.b)
structure Live (D:Dsk):Prop where
 ok:D.Ok
 up:D.down=false
 fu:D.fuse=0

theorem stE0:stE 0=0:=by decide
theorem stepped0 {D:Dsk} (h:Live D):D.stepped.down=false∧D.stepped.fuse=0:=by
 unfold Dsk.stepped
 rw[h.fu]
 exact ⟨(by decide:stD 0=false),(by decide:stF 0=0)⟩
theorem find_ins (x:Fil) (nm:ByteArray):∀ fs:List Fil,x.name ∉ fs.map (·.name)→(insF x fs).find? (fun y=>decide (y.name=nm))=if x.name=nm then some x else fs.find? fun y=>decide (y.name=nm)
 | [],_=>by
  simp only[insF,List.find?_cons,List.find?_nil]
  by_cases h:x.name=nm <;> simp[h]
 | y::r,hx=>by
  simp only[List.map_cons,List.mem_cons,not_or] at hx
  unfold insF
  split
  ·rw[List.find?_cons]
   by_cases h:x.name=nm <;> simp[h]
  ·rw[List.find?_cons,find_ins x nm r hx.2,List.find?_cons]
   by_cases hy:y.name=nm
   ·have hxn:¬x.name=nm:=fun e=>hx.1 (e.trans hy.symm)
    rw[if_neg hxn]
    simp[hy,hxn]
   ·simp[hy]
theorem find_rep (x:Fil) (nm:ByteArray) (fs:List Fil):(repF fs x).find? (fun y=>decide (y.name=nm))=if x.name=nm then (fs.find? fun y=>decide (y.name=nm)).map fun _=>x else fs.find? fun y=>decide (y.name=nm):=by
 induction fs with
 | nil=>simp[repF]
 | cons y r ih=>
  have e:repF (y::r) x=(if y.name=x.name then x else y)::repF r x:=rfl
  rw[e,List.find?_cons,ih,List.find?_cons]
  by_cases hx:x.name=nm
  ·by_cases hy:y.name=nm
   ·simp[hx,hy]
   ·have:¬y.name=x.name:=fun e=>hy (e.trans hx)
    simp[hx,hy]
  ·by_cases hy:y.name=nm
   ·have:¬y.name=x.name:=fun e=>hx (e.symm.trans hy)
    have h2:¬nm=x.name:=fun e=>hx e.symm
    simp[hx,hy,h2]
   ·by_cases hxy:y.name=x.name
    ·simp[hx,hy,hxy]
    ·simp[hx,hy,hxy]

theorem cont_create {D:Dsk} (h:Live D) {nm:ByteArray} (hn:isName nm=true) (hc:D.cont nm=none):
  (createD D nm).2=0∧Live (createD D nm).1∧(∀ m,(createD D nm).1.cont m=if nm=m then some [] else D.cont m)∧(createD D nm).1.used=D.used∧(createD D nm).1.room=D.room:=by
 have hg:D.get nm=none:=by
  unfold Dsk.cont at hc
  cases hg:D.get nm with
  | none=>rfl
  | some x=>rw[hg] at hc; cases hc
 have e:createD D nm=({D.stepped with files:=insF ⟨nm,[],0⟩ D.files},0):=by
  unfold createD
  rw[hn,if_neg (by decide),if_neg (by simp[h.up])]
  simp only[hg]
  rw[h.fu,if_neg (by simp[stE0])]
 have hok:=createD_ok h.ok nm
 rw[e] at hok ⊢
 obtain ⟨s1,s2⟩:=stepped0 h
 refine ⟨rfl,⟨hok,s1,s2⟩,fun m=>?_,rfl,rfl⟩
 unfold Dsk.cont Dsk.get
 rw[find_ins _ _ _ (get_none hg)]
 simp only
 split <;> rfl
theorem cont_append {D:Dsk} (h:Live D) {nm:ByteArray} {c bs:List UInt8} (hc:D.cont nm=some c) (hr:(bs.length:Int)≤D.room - D.used):
  (appendD D nm bs).2=0∧Live (appendD D nm bs).1∧(∀ m,(appendD D nm bs).1.cont m=if nm=m then some (c++bs) else D.cont m)∧(appendD D nm bs).1.used=D.used+bs.length∧(appendD D nm bs).1.room=D.room:=by
 obtain ⟨x,hg,rfl⟩:∃ x,D.get nm=some x∧x.b=c:=by
  unfold Dsk.cont at hc
  cases hg:D.get nm with
  | none=>rw[hg] at hc; cases hc
  | some x=>rw[hg] at hc; cases hc; exact ⟨x,rfl,rfl⟩
 obtain ⟨_,hxn⟩:=get_some hg
 have e:appendD D nm bs=({D.stepped with files:=repF D.files {x with b:=x.b++bs},used:=D.used+bs.length},0):=by
  unfold appendD
  rw[if_neg (by simp[h.up])]
  simp only[hg]
  rw[if_neg (by omega),h.fu,if_neg (by simp[stE0])]
 have hok:=appendD_ok h.ok nm bs
 rw[e] at hok ⊢
 obtain ⟨s1,s2⟩:=stepped0 h
 refine ⟨rfl,⟨hok,s1,s2⟩,fun m=>?_,rfl,rfl⟩
 show ((repF D.files {x with b:=x.b++bs}).find? fun y=>decide (y.name=m)).map (·.b)=_
 rw[find_rep]
 simp only[hxn]
 split
 ·rename_i e
  subst e
  unfold Dsk.get at hg
  rw[hg]; rfl
 ·rfl
theorem cont_sync {D:Dsk} (h:Live D) {nm:ByteArray} {c:List UInt8} (hc:D.cont nm=some c):
  (syncD D nm).2=0∧Live (syncD D nm).1∧(∀ m,(syncD D nm).1.cont m=D.cont m)∧(syncD D nm).1.used=D.used∧(syncD D nm).1.room=D.room:=by
 obtain ⟨x,hg,rfl⟩:∃ x,D.get nm=some x∧x.b=c:=by
  unfold Dsk.cont at hc
  cases hg:D.get nm with
  | none=>rw[hg] at hc; cases hc
  | some x=>rw[hg] at hc; cases hc; exact ⟨x,rfl,rfl⟩
 obtain ⟨_,hxn⟩:=get_some hg
 have e:syncD D nm=({D.stepped with files:=repF D.files {x with sure:=x.b.length}},0):=by
  unfold syncD
  rw[if_neg (by simp[h.up])]
  simp only[hg]
  rw[h.fu,if_neg (by simp[stE0])]
 have hok:=syncD_ok h.ok nm
 rw[e] at hok ⊢
 obtain ⟨s1,s2⟩:=stepped0 h
 refine ⟨rfl,⟨hok,s1,s2⟩,fun m=>?_,rfl,rfl⟩
 show ((repF D.files {x with sure:=(x.b.length:Int)}).find? fun y=>decide (y.name=m)).map (·.b)=((D.files).find? fun y=>decide (y.name=m)).map (·.b)
 rw[find_rep]
 simp only[hxn]
 split
 ·rename_i e
  subst e
  unfold Dsk.get at hg
  rw[hg]; rfl
 ·rfl
theorem live_new {n:Int}:Live (newD n):=⟨newD_ok n,rfl,rfl⟩
theorem cont_new (n:Int) (m:ByteArray):(newD n).cont m=none:=rfl

def Holds (D:Dsk):Int→Int→List (List (List UInt8))→Prop
 | n,_,[]=>D.cont (wname n)=none
 | n,g,ts::r=>D.cont (wname n)=some (partB g ts)∧Holds D (n+1) (partB g ts).length r
def lastG:Int→List (List (List UInt8))→Int
 | g,[]=>g
 | g,ts::r=>lastG (partB g ts).length r
structure Wr (D:Dsk) (P:List (List (List UInt8))):Prop where
 live:Live D
 holds:Holds D 1 0 P
 none:∀ n:Int,P.length<n→n≤1073741824→D.cont (wname n)=Option.none
 sg:0≤lastG 0 P∧lastG 0 P≤67108864

end Go.Ax

namespace Go.Ax
open Go.Proofs Go.RowKit
set_option maxRecDepth 100000

section
variable {B : List Box} {b l : Nat} {D : Dsk} {P : List (List (List UInt8))} {ts : List (List UInt8)} {p g n : Int} {o : Bool} {s : ByteArray}
end

theorem dec_lt {u:Nat} (h:u<10):Lib.decDigits u= [UInt8.ofNat (48+u)]:=by rw[Lib.decDigits,dif_pos h]
end Go.Ax

namespace Go.Ax
open Go.Proofs Go.RowKit
set_option maxRecDepth 100000

end Go.Ax

namespace Go.Proofs
open Go.RowKit Go.Maps Go.Sort Go.Shelf

end Go.Proofs

namespace Go.Ax
open Go.Proofs Go.RowKit Go.Maps
set_option maxRecDepth 100000

end Go.Ax

namespace Go.Ax
open Go.Proofs Go.RowKit
set_option maxRecDepth 100000

end Go.Ax

namespace Go.Ax
open Go.Proofs Go.RowKit
set_option maxRecDepth 100000

end Go.Ax

namespace Go.Ax
open Go.Proofs Go.RowKit
set_option maxRecDepth 100000

end Go.Ax

namespace Go.Ax
open Go.Proofs Go.RowKit
set_option maxRecDepth 100000

end Go.Ax

namespace Go.Ax
open Go.Proofs Go.RowKit
set_option maxRecDepth 100000

structure Meta where
 num:Int
 level:Int
 low:ByteArray
 high:ByteArray
 size:Int
structure Vers where
 files:List Meta
 log:Int
 next:Int
 seq:Int
structure Edt where
 add:List Meta
 del:List Int
 log:Int
 next:Int
 seq:Int
def metaE:Enc Meta:=⟨fun e=> .agg [.v (.int .i64 e.num), .v (.int .i64 e.level), .v (.string e.low), .v (.string e.high), .v (.int .i64 e.size)],5,fun _=>rfl,fun _=>rfl⟩
def veB (v:Vers):Box:= .cells false 0 [vl (v.files.map metaE.f),vi v.log,vi v.next,vn .u64 v.seq]
def edB (e:Edt):Box:= .cells false 0 [vl (e.add.map metaE.f),vl (e.del.map intE.f),vi e.log,vi e.next,vn .u64 e.seq]
end Go.Ax
