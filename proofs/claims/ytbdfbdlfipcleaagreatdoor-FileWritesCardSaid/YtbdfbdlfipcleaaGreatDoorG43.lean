/- Plain: a short prefix of a file is none. -/
import Derived.Test.YtbdfbdlfipcleaaGreatDoorG42
import Derived.Test.YtbdfbdlfipcleaaGreatDoorG40
import Derived.Test.YtbdfbdlfipcleaaGreatDoorG21
import Derived.Test.YtbdfbdlfipcleaaGreatDoorG41
import Derived.Test.YtbdfbdlfipcleaaGreatDoorTie
import Derived.Test.YtbdfbdlfipcleaaGreatDoorG11
import Derived.OpenShut
import Derived.WalkKit
import Derived.ProofKit
import Derived.LaidMore
import Derived.LaidLaws
import Derived.LaidHandle
import Derived.Lib.LaidTab
import Derived.Stop.Joined
set_option linter.unusedVariables false
set_option linter.unusedSimpArgs false
set_option linter.unusedSectionVars false
namespace Go.Ax
open Go.Proofs Go.RowKit
set_option maxRecDepth 100000

theorem getF_next {c:List UInt8} {k n:Nat} (h:k+n≤c.length) (h0:(getF c (k:Int) (n:Int)).2=0):(nextI ((c.drop k).take n)).2.2=0∧(nextI ((c.drop k).take n)).2.1=n∧(getF c (k:Int) (n:Int)).1=(nextI ((c.drop k).take n)).1:=by
 unfold getF at h0 ⊢
 rw[if_neg (by omega)] at h0 ⊢
 have e:(min (n:Int) ((c.length:Int) - (k:Int))).toNat=n:=by omega
 rw[Int.toNat_natCast,e] at h0 ⊢
 by_cases a:(nextI ((c.drop k).take n)).2.2≠0∨(nextI ((c.drop k).take n)).2.1≠n
 ·rw[if_pos a] at h0; cases h0
 ·rw[if_neg a]
  exact ⟨Decidable.not_not.1 (fun e=>a (.inl e)),Decidable.not_not.1 (fun e=>a (.inr e)),rfl⟩
theorem getF_far {c:List UInt8} {a n:Int} (h:a<0∨a>c.length):(getF c a n).2≠0:=by
 unfold getF
 rw[if_pos (by omega)]
 decide
theorem short_none {A:List Ent} (h:Fits A) (hl:(fileY A).length≤4095) {j:Nat} (hj:j≤63):headI ((fileY A).take j)=none:=by
 obtain ⟨L,x,y,b1,b2,t,t',eq,ex,hx,h10,h2,hL,hL3⟩:=file_head h
 have hcl:((fileY A).take j).length=j:=by rw[List.length_take]; omega
 unfold headI
 by_cases h0:(getF ((fileY A).take j) (((fileY A).take j).length - 52) 52).2≠0
 ·rw[if_pos (.inl h0)]
 have h0:=Decidable.not_not.1 h0
 rw[hcl] at h0 ⊢
 have hj52:52≤j:=by
  rcases Nat.lt_or_ge j 52 with e | e
  ·exact absurd h0 (getF_far (.inl (by omega)))
  ·exact e
 obtain ⟨k,rfl⟩:∃ k,j=k+52:=⟨j - 52,by omega⟩
 have ek:((k+52:Nat):Int) - 52=(k:Int):=by omega
 rw[ek] at h0 ⊢
 obtain ⟨n0,n1,n2⟩:=getF_next (c:=(fileY A).take (k+52)) (k:=k) (n:=52) (by omega) h0
 have ew:(((fileY A).take (k+52)).drop k).take 52=((fileY A).drop k).take 52:=by
  rw[List.drop_take,List.take_take,show k+52 - k=52 by omega,Nat.min_self]
 rw[ew] at n0 n1 n2
 obtain ⟨m1,m2,m3⟩:=next_4 n0 n1
 rw[m3] at n2
 have hq:fileY A=UInt8.ofNat (L % 256)::UInt8.ofNat (L / 256 % 256)::UInt8.ofNat (L / 256 / 256 % 256)::UInt8.ofNat (L / 256 / 256 / 256 % 256)::UInt8.ofNat (x % 256)::UInt8.ofNat (x / 256 % 256)::UInt8.ofNat (x / 256 / 256 % 256)::UInt8.ofNat (x / 256 / 256 / 256 % 256)::(leI y 4++(0::b1::b2::t)):=by
  rw[eq,le4,le4]
  rfl
 obtain ⟨y0,y1,y2,y3,ey⟩:∃ y0 y1 y2 y3,leI y 4= [y0,y1,y2,y3]:=⟨_,_,_,_,rfl⟩
 rw[ey] at hq
 have hq:fileY A=UInt8.ofNat (L % 256)::UInt8.ofNat (L / 256 % 256)::UInt8.ofNat (L / 256 / 256 % 256)::UInt8.ofNat (L / 256 / 256 / 256 % 256)::UInt8.ofNat (x % 256)::UInt8.ofNat (x / 256 % 256)::UInt8.ofNat (x / 256 / 256 % 256)::UInt8.ofNat (x / 256 / 256 / 256 % 256)::y0::y1::y2::y3::0::b1::b2::t:=hq
 have on:∀ n,(UInt8.ofNat (n % 256)).toNat=n % 256:=fun n=>by rw[UInt8.toNat_ofNat']; omega
 have hLl:L≤4095:=by omega
 have z0:(0:UInt8).toNat=0:=rfl
 match k,hj with
 | 0,_=>
  rw[hq,List.take_take,Nat.min_self] at n2
  have hf:(getF ((fileY A).take (0+52)) ((0:Nat):Int) 52).1=0::b1::b2::(t.take 37):=by
   rw[hq]
   exact n2
  have hcl:((fileY A).take (0+52)).length=52:=hcl
  generalize (fileY A).take (0+52)=c at *
  rw[hf]
  by_cases g1:(getF c ((0:Nat):Int) 52).2≠0∨(0::b1::b2::t.take 37).length≠40
  ·rw[if_pos g1]
  rw[if_neg g1]
  split
  ·rfl
  ·rw[if_pos]
   refine getF_far (.inr ?_)
   rw[hcl]
   have:numF (0::b1::b2::t.take 37) 0=((0:UInt8).toNat+256*(b1.toNat+256*numN ((b2::t.take 37).take 6)):Nat):=by
    unfold numF
    rw[Nat.mul_zero,List.drop_zero]
    unfold littleI
    rw[List.take_take]
    rfl
   rw[this,z0]
   omega
 | 1,_=>rw[hq] at m1; obtain ⟨a,_⟩:=bytes4 m1; rw[on] at a; omega
 | 2,_=>rw[hq] at m1; obtain ⟨a,_⟩:=bytes4 m1; rw[on] at a; omega
 | 3,_=>rw[hq] at m1; obtain ⟨a,_⟩:=bytes4 m1; rw[on] at a; omega
 | 4,_=>
  rw[hq] at m1
  obtain ⟨a1,a2,a3,a4⟩:=bytes4 m1
  rw[on] at a1 a2 a3 a4
  have hx40:x=40:=by omega
  have:=List.all_eq_true.1 no_len40 L (List.mem_range.2 (by omega))
  rw[←ex,hx40] at this
  cases this
 | 5,_=>rw[hq] at m1 m2; obtain ⟨_,a⟩:=bytes8 m1 m2; rw[z0] at a; omega
 | 6,_=>rw[hq] at m1 m2; obtain ⟨a,_⟩:=bytes8 m1 m2; rw[z0] at a; omega
 | 7,_=>rw[hq] at m1 m2; obtain ⟨_,a⟩:=bytes6 m1 m2; rw[z0] at a; omega
 | 8,_=>rw[hq] at m1 m2; obtain ⟨a,_⟩:=bytes6 m1 m2; rw[z0] at a; omega
 | 9,_=>rw[hq] at m1 m2; obtain ⟨a,b⟩:=bytes6 m1 m2; have:=h2 (by omega); omega
 | 10,_=>rw[hq] at m1; obtain ⟨_,_,_,a⟩:=bytes4 m1; omega
 | 11,_=>rw[hq] at m1; obtain ⟨_,_,a,_⟩:=bytes4 m1; omega
 | k+12,hj=>omega
theorem short_open {A:List Ent} (h:Fits A) (hl:(fileY A).length≤4095) {j:Nat} (hj:j≤63):openI ((fileY A).take j)=(noFile,12):=by
 unfold openI
 rw[short_none h hl hj]
end Go.Ax

namespace Go.Ax
open Go.Proofs Go.RowKit
set_option maxRecDepth 100000

def fuseN (room fz:Int):Dsk:=⟨room,0,[],false,fz⟩
theorem fuse_new {room fz:Int} (hr:0<room∧room≤4095) (hz:0≤fz):fuseD (newD room) fz=fuseN room fz:=by
 have e:newD room=⟨room,0,[],false,0⟩:=by
  unfold newD
  rw[if_neg (show ¬67108864<room by omega),if_pos hr.1]
 rw[e]
 unfold fuseD fuseN
 rw[if_neg (fun h=>by cases h)]
 by_cases h:0<fz
 ·rw[if_pos h]
 ·rw[if_neg h,show fz=0 by omega]
abbrev fN:ByteArray:=⟨#[102]⟩
section
variable {room : Int} {q : List UInt8}
theorem write_full {D:Dsk} (hd:D.down=false) (h:(q.length:Int)>D.room - D.used):writeD D fN q=(D,0,11):=by
 unfold writeD
 rw[hd,if_neg (by decide),if_pos h]
theorem write_f1 (hr:(q.length:Int)≤room):writeD (fuseN room 1) fN q=(⟨room,0,[],true,0⟩,0,10):=by
 have e:createD (fuseN room 1) fN=(⟨room,0,[],true,0⟩,10):=rfl
 unfold writeD
 rw[if_neg (fun h=>by cases h),if_neg (by show ¬(q.length:Int)>room - 0; omega),e,if_pos (show (10:Int)≠0 by decide)]
theorem write_f2 (hr:(q.length:Int)≤room):writeD (fuseN room 2) fN q=(⟨room,0,[⟨fN,[],0⟩],true,0⟩,0,10):=by
 have e:createD (fuseN room 2) fN=(⟨room,0,[⟨fN,[],0⟩],false,1⟩,0):=rfl
 have e2:appendD ⟨room,0,[⟨fN,[],0⟩],false,1⟩ fN q=(⟨room,0,[⟨fN,[],0⟩],true,0⟩,10):=by
  unfold appendD
  have hg:(⟨room,0,[⟨fN,[],0⟩],false,1⟩:Dsk).get fN=some ⟨fN,[],0⟩:=rfl
  rw[if_neg (fun h=>by cases h),hg]
  simp only
  rw[if_neg (by omega),if_pos (show stE 1≠0 by decide)]
  rfl
 unfold writeD
 rw[if_neg (fun h=>by cases h),if_neg (by show ¬(q.length:Int)>room - 0; omega),e,if_neg (fun h=>h rfl),e2,if_pos (show (10:Int)≠0 by decide)]
theorem write_f3 (hr:(q.length:Int)≤room):writeD (fuseN room 3) fN q=(⟨room,(q.length:Int),[⟨fN,q,0⟩],true,0⟩,(q.length:Int),10):=by
 have e:createD (fuseN room 3) fN=(⟨room,0,[⟨fN,[],0⟩],false,2⟩,0):=rfl
 have e2:appendD ⟨room,0,[⟨fN,[],0⟩],false,2⟩ fN q=(⟨room,(q.length:Int),[⟨fN,q,0⟩],false,1⟩,0):=by
  unfold appendD
  have hg:(⟨room,0,[⟨fN,[],0⟩],false,2⟩:Dsk).get fN=some ⟨fN,[],0⟩:=rfl
  rw[if_neg (fun h=>by cases h),hg]
  simp only
  rw[if_neg (by omega),if_neg (show ¬stE 2≠0 by decide)]
  show ((⟨room,0+(q.length:Int),[⟨fN,[]++q,0⟩],false,1⟩:Dsk),(0:Int))=_
  rw[List.nil_append,Int.zero_add]
 have e3:syncD ⟨room,(q.length:Int),[⟨fN,q,0⟩],false,1⟩ fN=(⟨room,(q.length:Int),[⟨fN,q,0⟩],true,0⟩,10):=rfl
 unfold writeD
 rw[if_neg (fun h=>by cases h),if_neg (by show ¬(q.length:Int)>room - 0; omega),e,if_neg (fun h=>h rfl),e2,if_neg (fun h=>h rfl),e3]
theorem crash_one {k:Int} (hk:0≤k∧k≤63) (hq:0<q.length):∃ j:Nat,j≤63∧∀ nm,(crashD ⟨room,(q.length:Int),[⟨fN,q,0⟩],true,0⟩ [k]).get nm=if fN=nm then some ⟨fN,q.take j,(j:Int)⟩ else none:=by
 have e:crashF [⟨fN,q,0⟩] [k]= [cutF ⟨fN,q,0⟩ (keepK ⟨fN,q,0⟩ [k])]:=by
  unfold crashF
  rw[if_neg (by simp only; omega)]
  rfl
 have hb:0≤keepK ⟨fN,q,0⟩ [k]∧keepK ⟨fN,q,0⟩ [k]≤63:=by
  unfold keepK
  simp only
  omega
 refine ⟨(keepK ⟨fN,q,0⟩ [k]).toNat,by omega,fun nm=>?_⟩
 unfold crashD
 rw[e]
 unfold Dsk.get cutF
 simp only[List.find?_cons,List.find?_nil,Int.zero_add]
 by_cases h:fN=nm
 ·rw[if_pos h,decide_eq_true h,Int.toNat_of_nonneg hb.1]
 ·rw[if_neg h,decide_eq_false h]
end
end Go.Ax

namespace Go.Ax
open Go.Proofs Go.RowKit
set_option maxRecDepth 100000

theorem fw_power {A:List Ent} (h:Fits A) {room fz k:Int} (hr:((fileY A).length:Int)≤room) (hm:room≤4095) (hz:fz=1∨fz=2∨fz=3) (hk:0≤k∧k≤63):
  (writeD (fuseN room fz) fN (fileY A)).2.2=10∧((crashD (writeD (fuseN room fz) fN (fileY A)).1 [k]).get fN=none∨((crashD (writeD (fuseN room fz) fN (fileY A)).1 [k]).get fN≠none∧(openI (contF (crashD (writeD (fuseN room fz) fN (fileY A)).1 [k]) fN)).2≠0)):=by
 have hpos:0<(fileY A).length:=by
  have:=footB_len A
  simp only[fileY,List.length_append]
  omega
 rcases hz with rfl | rfl | rfl
 ·rw[write_f1 hr]
  exact ⟨rfl, .inl rfl⟩
 ·rw[write_f2 hr]
  have hg:(crashD (⟨room,0,[⟨fN,[],0⟩],true,0⟩:Dsk) [k]).get fN=some ⟨fN,[],0⟩:=rfl
  refine ⟨rfl, .inr ⟨by rw[hg]; simp,?_⟩⟩
  have hc:contF (crashD (⟨room,0,[⟨fN,[],0⟩],true,0⟩:Dsk) [k]) fN=(fileY A).take 0:=by
   unfold contF
   rw[hg]
   rfl
  show (openI (contF (crashD (⟨room,0,[⟨fN,[],0⟩],true,0⟩:Dsk) [k]) fN)).2≠0
  rw[hc,short_open h (by omega) (by omega)]
  decide
 ·rw[write_f3 hr]
  obtain ⟨j,hj,hg⟩:=crash_one (room:=room) hk hpos
  have hg:=hg fN
  rw[if_pos rfl] at hg
  refine ⟨rfl, .inr ⟨?_,?_⟩⟩
  ·show (crashD _ [k]).get fN≠none
   rw[hg]; simp
  ·have hc:contF (crashD (⟨room,((fileY A).length:Int),[⟨fN,fileY A,0⟩],true,0⟩:Dsk) [k]) fN=(fileY A).take j:=by
    unfold contF
    rw[hg]
   show (openI (contF (crashD (⟨room,((fileY A).length:Int),[⟨fN,fileY A,0⟩],true,0⟩:Dsk) [k]) fN)).2≠0
   rw[hc,short_open h (by omega) hj]
   decide
def wholeN (room:Int) (q:List UInt8):Dsk:=⟨room,(q.length:Int),[⟨fN,q,(q.length:Int)⟩],false,0⟩
section
variable {room : Int} {q : List UInt8}
theorem write_f0 (hr:(q.length:Int)≤room):writeD (fuseN room 0) fN q=(wholeN room q,(q.length:Int),0):=by
 have e:createD (fuseN room 0) fN=(⟨room,0,[⟨fN,[],0⟩],false,0⟩,0):=rfl
 have e2:appendD ⟨room,0,[⟨fN,[],0⟩],false,0⟩ fN q=(⟨room,(q.length:Int),[⟨fN,q,0⟩],false,0⟩,0):=by
  unfold appendD
  have hg:(⟨room,0,[⟨fN,[],0⟩],false,0⟩:Dsk).get fN=some ⟨fN,[],0⟩:=rfl
  rw[if_neg (fun h=>by cases h),hg]
  simp only
  rw[if_neg (by omega),if_neg (show ¬stE 0≠0 by decide)]
  show ((⟨room,0+(q.length:Int),[⟨fN,[]++q,0⟩],false,0⟩:Dsk),(0:Int))=_
  rw[List.nil_append,Int.zero_add]
 have e3:syncD ⟨room,(q.length:Int),[⟨fN,q,0⟩],false,0⟩ fN=(wholeN room q,0):=rfl
 unfold writeD
 rw[if_neg (fun h=>by cases h),if_neg (by show ¬(q.length:Int)>room - 0; omega),e,if_neg (fun h=>h rfl),e2,if_neg (fun h=>h rfl),e3]
theorem crash_whole (ks:List Int):crashD (wholeN room q) ks=wholeN room q:=by
 have e:crashF [⟨fN,q,(q.length:Int)⟩] ks= [⟨fN,q,(q.length:Int)⟩]:=by
  unfold crashF
  rw[if_pos (by simp only; omega)]
  rfl
 unfold crashD wholeN
 rw[e]
 simp[lens]
theorem whole_cont:contF (wholeN room q) fN=q∧(wholeN room q).get fN≠none:=⟨rfl,by simp[wholeN,Dsk.get]⟩
theorem write_again:(writeD (wholeN room q) fN q).2.2=5∨(writeD (wholeN room q) fN q).2.2=11:=by
 unfold writeD
 rw[if_neg (fun h=>by cases h)]
 split
 ·exact .inr rfl
 ·have e:createD (wholeN room q) fN=(wholeN room q,5):=rfl
  rw[e,if_pos (show (5:Int)≠0 by decide)]
  exact .inl rfl
end
end Go.Ax

namespace Go.Ax
open Go.Proofs Go.RowKit
set_option maxRecDepth 100000

theorem SoundR.nilin {P:Program} {f:Nat} {R:RSpec} (h:SoundR P f R):SoundR P f (fun args B r B'=>∃ i,args[i]? = some nilS∧R (args.set i (.p (.ls []))) B r B'):=by
 rintro args B r B' ⟨i,hi,hR⟩ F ρ w us hI hA
 refine h _ B r B' hR F ρ w us hI ⟨by rw[List.length_set]; exact hA.1,fun j p u hp hu=>?_⟩
 rw[List.getElem?_set] at hp
 split at hp
 ·rename_i e
  subst e
  split at hp
  ·cases hp
   have hv:=(hA.2 i _ u hi hu).val
   subst hv
   exact .p _ _ (.nil Option.none 0 (.inr rfl))
  ·cases hp
 ·exact hA.2 j p u hp hu
def OFWriteN:RSpec:=fun args B r B'=>∃ (nm:ByteArray) (L:List Ent),Fits L∧args= [nilQ,vs nm,vl (L.map entE.f)]∧B= []∧r= .tup [vi 0,vi 1]∧B'= []
theorem SFWriteN:SoundR DP iFWrite OFWriteN:=sound_genT mixedD ΓO2_ok Δ0_ok hfFWrite heFWrite hbFWrite (by
 rintro args B r B' ⟨nm,L,hf,rfl,rfl,rfl,rfl⟩
 refine ⟨by rw[hnFWrite]; rfl,_,TFWriteN_chk nm L,?_⟩
 unfold TFWriteN
 exact wp_call (gFMake_eq hf) (wp_leaf rfl ⟨rfl,rfl⟩))
def OCrashN:RSpec:=fun args B r B'=>∃ i,args[i]? = some nilS∧OCrash (args.set i (.p (.ls []))) B r B'
theorem SCrashN:SoundR DP iCrash OCrashN:=SCrash.nilin
section
variable {B : List Box} {b : Nat} {D : Dsk}
theorem oFuse {n:Int} (ok:D.Ok) (hb:B[b]? = some (dskB D)):liftR OFuse [.op b,vi n] B (.tup []) (B.set b (dskB (fuseD D n))):=lift_obj (R:=OFuse) ⟨D,n,ok,rfl,rfl,rfl,rfl⟩ hb rfl rfl
theorem oCrash {ks:List Int} (ok:D.Ok) (hl:D.files.length≤1000000) (hb:B[b]? = some (dskB D)):liftR OCrash [.op b,vl (ks.map intE.f)] B (.tup []) (B.set b (dskB (crashD D ks))):=lift_obj (R:=OCrash) ⟨D,ks,ok,hl,rfl,rfl,rfl,rfl⟩ hb rfl rfl
theorem oCrashN (ok:D.Ok) (hl:D.files.length≤1000000) (hb:B[b]? = some (dskB D)):liftR OCrashN [.op b,nilS] B (.tup []) (B.set b (dskB (crashD D []))):=lift_obj (R:=OCrashN) ⟨1,rfl,D,[],ok,hl,rfl,rfl,rfl,rfl⟩ hb rfl rfl
theorem oListZ (ok:D.Ok) (hl:D.files.length≤1000000) (hb:B[b]? = some (dskB D)):liftR OList [.op b] B (vl ((listD D).map nameE.f)) B:=lift_see (R:=OList) ⟨D,ok,hl,rfl,rfl,rfl,rfl⟩ hb (fun _ _=>rfl) (fun _=>rfl) rfl
theorem oFWriteN {nm:ByteArray} {L:List Ent} (hf:Fits L):liftR OFWriteN [nilQ,vs nm,vl (L.map entE.f)] B (.tup [vi 0,vi 1]) B:=lift_none (R:=OFWriteN) ⟨nm,L,hf,rfl,rfl,rfl,rfl⟩ (fun _ _=>rfl) (fun _=>rfl) rfl
end
end Go.Ax

namespace Go.Ax
open Go.Proofs Go.RowKit
set_option maxRecDepth 100000

noncomputable def ΓS6:Env:=envP [(iHeadF,gHeadF),(iBigL,gBigL),(iSomeL,gSomeL),(iFMake,gFMake)]
noncomputable def ΔS6:REnv:=envR [(iNew,liftR ONew),(iFuse,liftR OFuse),(iFWrite,orR (liftR OFWrite) (liftR OFWriteN)),(iFOpen,liftR OFOpen),(iFCount,liftR OFCount),(iList,liftR OList),(iCrash,orR (takeR OCrash) (liftR OCrashN))]

abbrev iWrites:Nat:=3
noncomputable abbrev nWrites:Func:=Tryz.f3
theorem hfWrites:DP.funcs[iWrites]? = some nWrites:=by kernel_rfl
theorem heWrites:enters DP iWrites=true:=by kernel_rfl
theorem hbWrites:nWrites.body.isSome=true:=by kernel_rfl
noncomputable def TWrites_j1_e (j1:Bool):St:=([(6,vb j1)],[])
noncomputable def TWrites_j1 (j1:Bool):Tree:=
.leaf ⟨[0],[]⟩ [] .ret (some ([(0,vb j1)],[]))
noncomputable def TWrites_j2_e (j2:Bool):St:=([(6,vb j2)],[])
noncomputable def TWrites_j2 (j2:Bool):Tree:=
.leaf ⟨[0],[]⟩ [] .ret (some ([(0,vb j2)],[]))
noncomputable def TWrites (L:List Ent) (room:Int) (fz:Int) (A:List Ent) (Y:List UInt8) (N:List ByteArray) (D0:Dsk) (D1:Dsk) (D2:Dsk) (D3:Dsk) (D4:Dsk) (D5:Dsk) (F1:FileR) (n1:Int) (f1:Int) (g1:Int) (n2:Int) (h2:Int):Tree:=
.call 21 (gHeadF []=some (vb true)) (vb true) (.call 24 (gBigL [vl (L.map entE.f)]=some (vb (bigE L))) (vb (bigE L)) (.sp 24 (bigE L) (
.leaf ⟨[0],[]⟩ [] .ret (some ([(0,vb true)],[]))) (
.call 26 (gSomeL [vl (L.map entE.f),vi 1]=some (vl (A.map entE.f))) (vl (A.map entE.f)) (.int 28 ((A.map entE.f).length:Int) (A.length:Int) (.sp 29 ((A.length:Int) == (0:Int)) (
.leaf ⟨[0],[]⟩ [] .ret (some ([(0,vb true)],[]))) (
.call 32 (gFMake [vl (A.map entE.f)]=some (.tup [vl (Y.map byteE.f),vi 0])) (.tup [vl (Y.map byteE.f),vi 0]) (.int 38 (IntKind.i64.wrap ((BitVec.ofInt IntKind.i64.bits room &&& BitVec.ofInt IntKind.i64.bits 4095).toNat)) (room % 4096) (.callr (some 40) (ΔS6 8 [vi (room % 4096)] [] (.op 0) [.obj [] (diskP D0)]) (.op 0) [.obj [] (diskP D0)] (.int 43 (IntKind.i64.wrap ((BitVec.ofInt IntKind.i64.bits fz &&& BitVec.ofInt IntKind.i64.bits 3).toNat)) (fz % 4) (.callr (some 44) (ΔS6 9 [.op 0,vi (fz % 4)] [.obj [] (diskP D0)] (.tup []) [.obj [] (diskP D1)]) (.tup []) [.obj [] (diskP D1)] (.callr (some 48) (ΔS6 10 [.op 0,vs (⟨#[102]⟩),vl (A.map entE.f)] [.obj [] (diskP D1)] (.tup [vi n1,vi f1]) [.obj [] (diskP D2)]) (.tup [vi n1,vi f1]) [.obj [] (diskP D2)] (.int 53 ((Y.map byteE.f).length:Int) (Y.length:Int) (.sp 55 (decide ((Y.length:Int)>(room % 4096))) (
.sp 57 (f1 == (11:Int)) (
.sp 60 (n1 == (0:Int)) (
.callr (some 64) (ΔS6 11 [.op 0] [.obj [] (diskP D2)] (vl (N.map nameE.f)) [.obj [] (diskP D2)]) (vl (N.map nameE.f)) [.obj [] (diskP D2)] (.int 65 ((N.map nameE.f).length:Int) (N.length:Int) (.join ⟨[6],[]⟩ [] (some (TWrites_j1_e ((N.length:Int) == (0:Int)))) (TWrites_j1_e) ((N.length:Int) == (0:Int)) (TWrites_j1)))) (
.join ⟨[6],[]⟩ [] (some (TWrites_j1_e false)) (TWrites_j1_e) false (TWrites_j1))) (
.join ⟨[6],[]⟩ [] (some (TWrites_j1_e false)) (TWrites_j1_e) false (TWrites_j1))) (
.int 70 (IntKind.i64.wrap ((BitVec.ofInt IntKind.i64.bits fz &&& BitVec.ofInt IntKind.i64.bits 3).toNat)) (fz % 4) (.sp 71 ((fz % 4) != (0:Int)) (
.sp 73 (f1 != (10:Int)) (
.leaf ⟨[0],[]⟩ [] .ret (some ([(0,vb false)],[]))) (
.int 76 (IntKind.i64.wrap ((BitVec.ofInt IntKind.i64.bits (room % 4096) &&& BitVec.ofInt IntKind.i64.bits 63).toNat)) ((room % 4096) % 64) (.callr (some 78) (ΔS6 12 [.op 0, .rs 1 0 1 0 1] [.obj [] (diskP D2), .cells true 0 ([vi ((room % 4096) % 64)])] (.tup []) [.obj [] (diskP D3), .dead]) (.tup []) [.obj [] (diskP D3), .dead] (.callr (some 81) (ΔS6 13 [.op 0,vs (⟨#[102]⟩)] [.obj [] (diskP D3), .dead] (.tup [.p (.v (.pointer none)),vi g1]) [.obj [] (diskP D3), .dead]) (.tup [.p (.v (.pointer none)),vi g1]) [.obj [] (diskP D3), .dead] (.sp 88 (g1 != (0:Int)) (
.join ⟨[6],[]⟩ [] (some (TWrites_j2_e true)) (TWrites_j2_e) true (TWrites_j2)) (
.join ⟨[6],[]⟩ [] (some (TWrites_j2_e false)) (TWrites_j2_e) false (TWrites_j2))))))) (
.callr (some 102) (ΔS6 12 [.op 0,nilS] [.obj [] (diskP D2)] (.tup []) [.obj [] (diskP D4)]) (.tup []) [.obj [] (diskP D4)] (.callr (some 105) (ΔS6 13 [.op 0,vs (⟨#[102]⟩)] [.obj [] (diskP D4)] (.tup [.ptr 1 0 0,vi 0]) [.obj [] (diskP D4), .cells false 0 ([.op 0,vs (⟨#[102]⟩:ByteArray),vl (F1.idx.map parE.f),vl (F1.bits.map byteE.f),vi F1.cnt,vs F1.low,vs F1.high])]) (.tup [.ptr 1 0 0,vi 0]) [.obj [] (diskP D4), .cells false 0 ([.op 0,vs (⟨#[102]⟩:ByteArray),vl (F1.idx.map parE.f),vl (F1.bits.map byteE.f),vi F1.cnt,vs F1.low,vs F1.high])] (.callr (some 111) (ΔS6 10 [.op 0,vs (⟨#[102]⟩),vl (A.map entE.f)] [.obj [] (diskP D4), .cells false 0 ([.op 0,vs (⟨#[102]⟩:ByteArray),vl (F1.idx.map parE.f),vl (F1.bits.map byteE.f),vi F1.cnt,vs F1.low,vs F1.high])] (.tup [vi n2,vi h2]) [.obj [] (diskP D5), .cells false 0 ([.op 0,vs (⟨#[102]⟩:ByteArray),vl (F1.idx.map parE.f),vl (F1.bits.map byteE.f),vi F1.cnt,vs F1.low,vs F1.high])]) (.tup [vi n2,vi h2]) [.obj [] (diskP D5), .cells false 0 ([.op 0,vs (⟨#[102]⟩:ByteArray),vl (F1.idx.map parE.f),vl (F1.bits.map byteE.f),vi F1.cnt,vs F1.low,vs F1.high])] (.callr (some 116) (ΔS6 10 [.p (.v (.pointer none)),vs (⟨#[102]⟩),vl (A.map entE.f)] [.obj [] (diskP D5), .cells false 0 ([.op 0,vs (⟨#[102]⟩:ByteArray),vl (F1.idx.map parE.f),vl (F1.bits.map byteE.f),vi F1.cnt,vs F1.low,vs F1.high])] (.tup [vi 0,vi 1]) [.obj [] (diskP D5), .cells false 0 ([.op 0,vs (⟨#[102]⟩:ByteArray),vl (F1.idx.map parE.f),vl (F1.bits.map byteE.f),vi F1.cnt,vs F1.low,vs F1.high])]) (.tup [vi 0,vi 1]) [.obj [] (diskP D5), .cells false 0 ([.op 0,vs (⟨#[102]⟩:ByteArray),vl (F1.idx.map parE.f),vl (F1.bits.map byteE.f),vi F1.cnt,vs F1.low,vs F1.high])] (.sp 120 (f1 == (0:Int)) (
.int 124 ((Y.map byteE.f).length:Int) (Y.length:Int) (.sp 125 (n1 == (Y.length:Int)) (
.callr (some 133) (ΔS6 14 [.ptr 1 0 0] [.obj [] (diskP D5), .cells false 0 ([.op 0,vs (⟨#[102]⟩:ByteArray),vl (F1.idx.map parE.f),vl (F1.bits.map byteE.f),vi F1.cnt,vs F1.low,vs F1.high])] (vi F1.cnt) [.obj [] (diskP D5), .cells false 0 ([.op 0,vs (⟨#[102]⟩:ByteArray),vl (F1.idx.map parE.f),vl (F1.bits.map byteE.f),vi F1.cnt,vs F1.low,vs F1.high])]) (vi F1.cnt) [.obj [] (diskP D5), .cells false 0 ([.op 0,vs (⟨#[102]⟩:ByteArray),vl (F1.idx.map parE.f),vl (F1.bits.map byteE.f),vi F1.cnt,vs F1.low,vs F1.high])] (.int 135 ((A.map entE.f).length:Int) (A.length:Int) (.sp 136 (F1.cnt == (A.length:Int)) (
.sp 140 (h2 == (5:Int)) (
.leaf ⟨[0],[]⟩ [] .ret (some ([(0,vb true)],[]))) (
.sp 143 (h2 == (11:Int)) (
.leaf ⟨[0],[]⟩ [] .ret (some ([(0,vb true)],[]))) (
.leaf ⟨[0],[]⟩ [] .ret (some ([(0,vb false)],[]))))) (
.leaf ⟨[0],[]⟩ [] .ret (some ([(0,vb false)],[])))))) (
.leaf ⟨[0],[]⟩ [] .ret (some ([(0,vb false)],[]))))) (
.leaf ⟨[0],[]⟩ [] .ret (some ([(0,vb false)],[])))))))))))))))))))))))

theorem TWrites_chk (L:List Ent) (room:Int) (fz:Int) (A:List Ent) (Y:List UInt8) (N:List ByteArray) (D0:Dsk) (D1:Dsk) (D2:Dsk) (D3:Dsk) (D4:Dsk) (D5:Dsk) (F1:FileR) (n1:Int) (f1:Int) (g1:Int) (n2:Int) (h2:Int):fnC DP ΓS6 ΔS6 Tryz.f3 [vl (L.map entE.f),vi room,vi fz] [] (TWrites L room fz A Y N D0 D1 D2 D3 D4 D5 F1 n1 f1 g1 n2 h2)=TWrites L room fz A Y N D0 D1 D2 D3 D4 D5 F1 n1 f1 g1 n2 h2:=by kernel_rfl

end Go.Ax

namespace Go.Ax
open Go.Proofs Go.RowKit
set_option maxRecDepth 100000

def seqIn (a:Ent):Prop:=0≤a.seq∧a.seq<18446744073709551616
def LawL (L:List Ent) (t:Int):Prop:=(∀ x∈L,seqIn x)∧(-(2 ^ 63:Int)≤t∧t<2 ^ 63)
theorem law_some {L:List Ent} {t:Int} (h:LawL L t) (hb:bigE L=false):gSomeL [vl (L.map entE.f),vi t]=some (vl ((someL t L).map entE.f))∧(someL t L≠ []→Fits (someL t L)∧(fileY (someL t L)).length≤600000):=by
 obtain ⟨b1,b2⟩:=bigE_false hb
 exact ⟨gSomeL_eq h.2 (by omega) (fun x hx=>by have:=(b2 x hx).2; omega),some_fits t (fun x hx=>(h.1 x hx).1) b1 (fun x hx=>(b2 x hx).2)⟩
theorem andI64 {a:Int} (m:Nat) (hm:m≤32):IntKind.i64.wrap ((BitVec.ofInt IntKind.i64.bits a &&& BitVec.ofInt IntKind.i64.bits ((2 ^ m - 1:Nat):Int)).toNat)=a % ((2 ^ m:Nat):Int):=by
 have h2:2 ^ m - 1<2 ^ 64:=Nat.lt_of_lt_of_le (Nat.sub_lt (Nat.two_pow_pos m) Nat.one_pos) (Nat.pow_le_pow_right (by decide) (by omega))
 have hp:(2:Nat) ^ m≤2 ^ 32:=Nat.pow_le_pow_right (by decide) hm
 show IntKind.i64.wrap (((BitVec.ofInt 64 a &&& BitVec.ofInt 64 ((2 ^ m - 1:Nat):Int)).toNat:Nat):Int)=_
 rw[BitVec.toNat_and,BitVec.ofInt_natCast,BitVec.toNat_ofNat,Nat.mod_eq_of_lt h2,Nat.and_two_pow_sub_one_eq_mod,BitVec.toNat_ofInt]
 have hpos:0<(2:Nat) ^ m:=Nat.two_pow_pos m
 have hd:((2 ^ m:Nat):Int) ∣ ((2 ^ 64:Nat):Int):=Int.natCast_dvd_natCast.2 (Nat.pow_dvd_pow 2 (by omega))
 have hnn:0≤a % ((2 ^ 64:Nat):Int):=Int.emod_nonneg _ (by decide)
 have e:(((a % ((2 ^ 64:Nat):Int)).toNat % 2 ^ m:Nat):Int)=a % ((2 ^ m:Nat):Int):=by
  rw[Int.natCast_emod,Int.toNat_of_nonneg hnn,Int.emod_emod_of_dvd _ hd]
 rw[e]
 have h3:=Int.emod_lt_of_pos a (b:=((2 ^ m:Nat):Int)) (by omega)
 have h4:=Int.emod_nonneg a (b:=((2 ^ m:Nat):Int)) (by omega)
 have h5:((2 ^ m:Nat):Int)≤4294967296:=by
  have:(2:Nat) ^ 32=4294967296:=by decide
  omega
 exact wrap_i64 (by omega)
theorem ΓS6_ok:∀ f,SoundF DP f (ΓS6 f):=envP_cons SHeadF (envP_cons SBigL (envP_cons SSomeL (envP_cons SFMake envP_nil)))
theorem ΔS6_ok:∀ f,SoundR DP f (ΔS6 f):=envR_cons (lift_sound SNew)<|envR_cons (lift_sound SFuse)<|envR_cons ((lift_sound SFWrite).or (lift_sound SFWriteN))<|envR_cons (lift_sound SFOpen)<|envR_cons (lift_sound SFCount)<|envR_cons (lift_sound SList)<|envR_cons ((take_sound SCrash).or (lift_sound SCrashN)) envR_nil
theorem fuse_new0 {r z:Int} (hr:0≤r∧r≤4095) (hz:0≤z):fuseD (newD r) z=fuseN r z:=by
 rcases Int.lt_or_le 0 r with h | h
 ·exact fuse_new ⟨h,hr.2⟩ hz
 ·have e:r=0:=by omega
  subst e
  have e:newD 0=⟨0,0,[],false,0⟩:=rfl
  rw[e]
  unfold fuseD fuseN
  rw[if_neg (fun h=>by cases h)]
  by_cases h:0<z
  ·rw[if_pos h]
  ·rw[if_neg h,show z=0 by omega]
def RWrites:List AV→AV→Prop:=fun args r=>∃ (L:List Ent) (room fz:Int),(∀ x∈L,seqIn x)∧(-(2 ^ 63:Int)≤room∧room<2 ^ 63)∧(-(2 ^ 63:Int)≤fz∧fz<2 ^ 63)∧args= [vl (L.map entE.f),vi room,vi fz]∧r=vb true
noncomputable def gWrites:=relG RWrites
theorem SWrites:SoundF DP iWrites (.pure gWrites):=sound_pureT mixedD ΓS6_ok ΔS6_ok hfWrites heWrites hbWrites (by
 rintro args r ⟨L,room,fz,hL1,_,_,rfl,rfl⟩
 have hL:LawL L 1:=⟨hL1,by decide,by decide⟩
 obtain ⟨A,hA⟩:∃ A,A=someL 1 L:=⟨_,rfl⟩
 obtain ⟨r,hr⟩:∃ r,r=room % 4096:=⟨_,rfl⟩
 obtain ⟨z,hz⟩:∃ z,z=fz % 4:=⟨_,rfl⟩
 have hr0:0≤r∧r≤4095:=by omega
 have hz0:0≤z∧z≤3:=by omega
 have front:∀ hb:bigE L=false,gSomeL [vl (L.map entE.f),vi 1]=some (vl (A.map entE.f))∧(A≠ []→Fits A∧(fileY A).length≤600000):=fun hb=>by
  have:=law_some hL hb
  rw[←hA] at this
  exact this
 have ok1:(fuseN r z).Ok:=by
  rw[←fuse_new0 hr0 hz0.1]
  exact fuseD_ok (newD_ok r) (by omega)
 obtain ⟨D2,h2⟩:∃ D2,D2=(writeD (fuseN r z) fN (fileY A)).1:=⟨_,rfl⟩
 obtain ⟨D3,h3⟩:∃ D3,D3=crashD D2 [r % 64]:=⟨_,rfl⟩
 obtain ⟨g1,hg1⟩:∃ g1:Int,g1=if D3.get fN=none then 4 else 12:=⟨_,rfl⟩
 obtain ⟨F1,hF1⟩:∃ F1,F1=(openI (contF (crashD D2 []) fN)).1:=⟨_,rfl⟩
 refine ⟨rfl,rfl,_,TWrites_chk L room fz A (fileY A) (listD D2) (newD r) (fuseN r z) D2 D3 (crashD D2 []) (writeD (crashD D2 []) fN (fileY A)).1 F1 (writeD (fuseN r z) fN (fileY A)).2.1 (writeD (fuseN r z) fN (fileY A)).2.2 g1 (writeD (crashD D2 []) fN (fileY A)).2.1 (writeD (crashD D2 []) fN (fileY A)).2.2,?_⟩
 unfold TWrites
 rw[←hr,←hz]
 refine wp_call gHeadF_eq (wp_call (gBigL_eq L) (wp_sp (fun _=>wp_leaf rfl (.p _)) (fun hb=>?_)))
 obtain ⟨s1,s2⟩:=front hb
 refine wp_call s1 (wp_len (wp_sp (fun _=>wp_leaf rfl (.p _)) (fun hz1=>?_)))
 have hz1:A≠ []:=fun e=>by rw[e] at hz1; exact absurd hz1 (by decide)
 obtain ⟨hf,hlen⟩:=s2 hz1
 have hpos:0<(fileY A).length:=by
  have:=footB_len A
  simp only[fileY,List.length_append]
  omega
 have cf:=fun (B:List Box) (hb:B[0]? = some (dskB (newD r)))=>oFuse (b:=0) (n:=z) (newD_ok r) hb
 rw[fuse_new0 hr0 hz0.1] at cf
 have cw:=fun (B:List Box) (hb:B[0]? = some (dskB (fuseN r z)))=>oFWrite (b:=0) ok1 hf (nm:=fN) (by decide) hb
 rw[←h2] at cw
 refine wp_call (gFMake_eq hf) (wp_int (by rw[hr]; exact andI64 12 (by decide)) (wp_callr (oNew r) (wp_int (by rw[hz]; exact andI64 2 (by decide)) (wp_callr (cf _ rfl) (wp_callr (.inl (cw _ rfl)) (wp_len ?_))))))
 by_cases hfull:((fileY A).length:Int)>r
 ·have hw:writeD (fuseN r z) fN (fileY A)=(fuseN r z,0,11):=write_full rfl (by show _>r - 0; omega)
  rw[hw] at h2 ⊢
  have h2:D2=fuseN r z:=h2
  have hl0:listD D2= []:=by rw[h2]; rfl
  have cl:=fun (B:List Box) (hb:B[0]? = some (dskB D2))=>oListZ (b:=0) (by rw[h2]; exact ok1) (by rw[h2]; exact Nat.zero_le _) hb
  refine wp_sp (fun _=>wp_sp (fun _=>wp_sp (fun _=>wp_callr (cl _ rfl) (wp_len (wp_join rfl ?_))) (fun q=>by simp at q)) (fun q=>by simp at q)) (fun q=>absurd (of_decide_eq_false q) (by omega))
  unfold TWrites_j1
  refine wp_leaf rfl ?_
  show Sealed _ _ (vb _) (vb true)
  rw[hl0]
  exact .p _
 ·refine wp_sp (fun q=>absurd (of_decide_eq_true q) hfull) (fun _=>wp_int (by rw[hz]; exact andI64 2 (by decide)) ?_)
  by_cases hzz:z=0
  ·subst hzz
   have hw:=write_f0 (room:=r) (q:=fileY A) (by omega)
   rw[hw] at h2 ⊢
   have h2:D2=wholeN r (fileY A):=h2
   have hcr:crashD D2 []=wholeN r (fileY A):=by rw[h2]; exact crash_whole _
   obtain ⟨hc1,hc2⟩:=whole_cont (room:=r) (q:=fileY A)
   have ok2:D2.Ok:=by
    have:=syncD_ok (appendD_ok (createD_ok ok1 fN) fN (fileY A)) fN
    have e:(writeD (fuseN r 0) fN (fileY A)).1=(syncD (appendD (createD (fuseN r 0) fN).1 fN (fileY A)).1 fN).1:=by
     have e1:(createD (fuseN r 0) fN).2=0:=rfl
     unfold writeD
     rw[if_neg (fun h=>by cases h),if_neg (by show ¬((fileY A).length:Int)>r - 0; omega),if_neg (fun h=>h e1)]
     split
     ·rename_i hne
      exfalso
      have:writeD (fuseN r 0) fN (fileY A)=((appendD (createD (fuseN r 0) fN).1 fN (fileY A)).1,0,(appendD (createD (fuseN r 0) fN).1 fN (fileY A)).2):=by
       unfold writeD
       rw[if_neg (fun h=>by cases h),if_neg (by show ¬((fileY A).length:Int)>r - 0; omega),if_neg (fun h=>h e1),if_pos hne]
      rw[hw] at this
      have h9:=congrArg (fun x=>x.2.2) this
      exact hne h9.symm
     ·rfl
    rw[hw] at e
    rw[h2]
    have e:wholeN r (fileY A)=(syncD (appendD (createD (fuseN r 0) fN).1 fN (fileY A)).1 fN).1:=e
    rw[e]
    exact this
   have ok4:(crashD D2 []).Ok:=crashD_ok ok2 []
   have ho:openI (contF (crashD D2 []) fN)=(fileOf A,0):=by rw[hcr,hc1,openI_file hf]; rfl
   have cc:=fun (B:List Box) (hb:B[0]? = some (dskB D2))=>oCrashN (b:=0) ok2 (by rw[h2]; exact Nat.le_of_ble_eq_true rfl) hb
   have co:=fun (B:List Box) (hb:B[0]? = some (dskB (crashD D2 [])))=>oFOpen (b:=0) (nm:=fN) ok4 (by rw[hcr]; rfl) (by rw[hcr]; exact hc2) (by rw[ho]) hb
   rw[←hF1] at co
   have hFe:F1=fileOf A:=by rw[hF1,ho]
   have cw2:=fun (B:List Box) (hb:B[0]? = some (dskB (crashD D2 [])))=>oFWrite (b:=0) ok4 hf (nm:=fN) (by decide) hb
   have hag:(writeD (crashD D2 []) fN (fileY A)).2.2=5∨(writeD (crashD D2 []) fN (fileY A)).2.2=11:=by rw[hcr]; exact write_again
   obtain ⟨h9,hh9⟩:∃ h9,h9=(writeD (crashD D2 []) fN (fileY A)).2.2:=⟨_,rfl⟩
   rw[←hh9] at hag cw2 ⊢
   refine wp_sp (fun q=>by simp at q) (fun _=>?_)
   refine wp_callr (.inr (cc _ rfl)) (wp_callr (co _ rfl) (wp_callr (.inl (cw2 _ rfl)) (wp_callr (.inr (oFWriteN hf)) ?_)))
   refine wp_sp (fun _=>wp_len (wp_sp (fun _=>wp_callr (oFil (l:=1) (b:=0) rfl rfl rfl) (wp_len (wp_sp (fun _=>wp_sp (fun _=>wp_leaf rfl (.p _)) (fun q=>wp_sp (fun _=>wp_leaf rfl (.p _)) (fun q2=>?_))) (fun q=>?_)))) (fun q=>by simp at q))) (fun q=>by simp at q)
   ·exfalso
    rcases hag with e | e
    ·rw[e] at q; simp at q
    ·rw[e] at q2; simp at q2
   ·exfalso
    rw[hFe] at q
    have:((fileOf A).cnt == (A.length:Int))=true:=by simp[fileOf]
    rw[this] at q
    cases q
  ·obtain ⟨hf1,hpw⟩:=fw_power hf (room:=r) (fz:=z) (k:=r % 64) (by omega) hr0.2 (by omega) (by omega)
   rw[←h2,←h3] at hpw
   have ok2:D2.Ok:=by
    have g1:=createD_ok ok1 fN
    have g2:=appendD_ok g1 fN (fileY A)
    have g3:=syncD_ok g2 fN
    rw[h2]
    unfold writeD
    split
    ·exact ok1
    ·split
     ·exact ok1
     ·split
      ·exact g1
      ·split
       ·exact g2
       ·exact g3
   have hfl:D2.files.length≤1000000:=by
    rw[h2]
    have:z=1∨z=2∨z=3:=by omega
    rcases this with e | e | e <;> rw[e]
    ·rw[write_f1 (by omega)]; exact Nat.zero_le _
    ·rw[write_f2 (by omega)]; exact Nat.le_of_ble_eq_true rfl
    ·rw[write_f3 (by omega)]; exact Nat.le_of_ble_eq_true rfl
   have ok3:D3.Ok:=by rw[h3]; exact crashD_ok ok2 _
   have hup:D3.down=false:=by rw[h3]; rfl
   have cc:takeR OCrash [.op 0, .rs 1 0 1 0 1] [dskB D2, .cells true 0 [vi (r % 64)]] (.tup []) [dskB D3, .dead]:=by
    refine .inr ⟨1,1,0,Int,intE,[r % 64],rfl,rfl,?_⟩
    have:=oCrash (B:= [dskB D2, .dead]) (b:=0) (ks:= [r % 64]) ok2 hfl rfl
    rw[←h3] at this
    exact this
   have co:∀ B:List Box,B[0]? = some (dskB D3)→liftR OFOpen [.op 0,vs fN] B (.tup [nilQ,vi g1]) B:=fun B hb=>by
    rcases hpw with h | ⟨h,h'⟩
    ·rw[hg1,if_pos h]; exact oFOpenN ok3 hup h hb
    ·rw[hg1,if_neg h]; exact oFOpenF ok3 hup h h' hb
   have hg0:g1≠0:=by rw[hg1]; split <;> decide
   rw[hf1]
   refine wp_sp (fun _=>wp_sp (fun q=>by simp at q) (fun _=>wp_int (by exact andI64 6 (by decide)) (wp_callr (.inl cc) (wp_callr (co _ rfl) (wp_sp (fun _=>wp_join rfl ?_) (fun q=>?_)))))) (fun q=>absurd (by simpa using q) hzz)
   ·unfold TWrites_j2
    exact wp_leaf rfl (.p _)
   ·simp at q; exact absurd q hg0)
end Go.Ax

namespace Go.Ax
open Go.Proofs Go.ChangeShapes Go.WideShapes Go.ChangeAt Go.RowKit
set_option maxRecDepth 100000

theorem tabRel {W:World} {g:Nat} {us:Array Value} {e:TypeId} {fr:Nat×Nat} (hh:W.heap[g]? = some (.cells us e fr)) (hu:us.toList.map PV.v=Glob.tab g):∀ ρ,GRel noF [] ρ W g:=fun ρ=>by
 have hl:(Glob.tab g).length=us.toList.length:=by rw[←hu]; simp
 refine ⟨.rp _ ⟨g,0,none⟩ us.toList rfl not_own (Array.getElem?_eq_some_iff.1 hh).1 hl (fun j u hj=>?_) (fun j p u hp hv=>?_),us,e,fr,hh,by rw[hl]; simp⟩
 ·rw[Addr.add_lit,Nat.zero_add,cell_of hh]
  simpa using hj
 ·rw[←hu,List.getElem?_map,hv] at hp
  cases hp
  exact .v _

theorem var_block {P:Program} {W:World} {n:String} {g:Nat} {cs:Array Value} (hg:P.globalNamed n=some g) (h:W.var? P n=some cs):∃ e fr,W.heap[g]? = some (.cells cs e fr):=by
 unfold World.var? at h
 rw[hg,Option.bind_some] at h
 split at h
 ·rename_i cs' e fr hc
  cases h
  exact ⟨e,fr,hc⟩
 ·cases h

abbrev laid1 : List (String × DataW Unit) := [("tailrace/crc.halves", YtbdfbdlfipcleaaGreatDoor.Rows.laid_tailrace_crc_halves)]

theorem gHalves : DP.globalNamed "tailrace/crc.halves" = some 1 := by kernel_rfl
theorem tHalves:(DP.globals[1]?).map (·.type)=some 159:=by kernel_rfl

theorem globW_of {W:World} (h:laidMetH DP laid1 W):GlobW W:=by
 rw[MakeChecks.laidMetH_plain _ _ _ (by kernel_rfl)] at h
 obtain ⟨ps,⟨g3,t3,cs3,f3,p3,q3,hg3,ht3,hv3,hd3,_,_⟩,_⟩:=h
 obtain rfl:=Option.some.inj (gHalves.symm.trans hg3)
 obtain rfl:=Option.some.inj (tHalves.symm.trans ht3)
 have c3:=Lib.cells_of_tab (k:= .u32) (zs:=halvesL) (n:=16) (e:=130) (by kernel_rfl) (by kernel_rfl) (by kernel_rfl) (by kernel_rfl) hd3
 obtain ⟨e3,r3,b3⟩:=var_block hg3 hv3
 intro g hg
 match g with
 | 1=>exact tabRel b3 (by rw[c3]; rfl)
 | 0=>exact absurd rfl hg
 | g+2=>exact absurd rfl hg

theorem door1 (os:Os) (args:Array Value):laidMetH DP laid1 ((World.doorLaid DP 17 os).forCall (fun _ _=>0) ⟨#[],args,[]⟩).memory:=
 laidMetH_of_parts3 (fuel:=8) (laidMet_of_run' 8 (by kernel_rfl) (by kernel_rfl)) (by kernel_rfl) (by kernel_rfl)

theorem i64_in {n:Int} (h:(Lit.int .i64 n).wf=true): -(2 ^ 63:Int)≤n∧n<2 ^ 63:=by
 simp only[Lit.wf,Bool.and_eq_true,decide_eq_true_eq] at h
 have h1:IntKind.i64.min= -9223372036854775808:=by decide
 have h2:IntKind.i64.max=9223372036854775807:=by decide
 omega
theorem u64_in {n:Int} (h:(Lit.int .u64 n).wf=true):0≤n∧n<18446744073709551616:=by
 simp only[Lit.wf,Bool.and_eq_true,decide_eq_true_eq] at h
 have h1:IntKind.u64.min=0:=by decide
 have h2:IntKind.u64.max=18446744073709551615:=by decide
 omega
section
variable {H : Type} {enc : TypeId × Value → H} {w : World} {base : Nat} {spare : Nat → Bool} {held : Bool} {O : Nat → Prop}
theorem in_ent (n:Nat) (cs':List Value) (y:DataW H×List MemPlace) (h:DataW.trod enc DP w base spare held n 46 cs'=some y):
  ∃ a:Ent,seqIn a∧cs'.length=4∧∀ (r:Nat) (p:PV) (u:Value),(entE.f a).cells[r]? = some p→cs'[r]? = some u→PRel O w p u:=by
 obtain ⟨xs,n,_,rfl,hl,hlen,hf⟩:=DataW.trod_struct Tryz.underlying46 h
 have hc:DP.cellsOf 46=4:=by kernel_rfl
 have c9:DP.cellsOf 9=1:=by kernel_rfl
 have c50:DP.cellsOf 44=1:=by kernel_rfl
 have c4:DP.cellsOf 4=1:=by kernel_rfl
 rw[hc] at hl
 have h0:DataW.trod enc DP w base spare held n 9 ((cs'.drop 0).take (DP.cellsOf 9))=xs[0]? := hf 0 _ rfl
 have h1:DataW.trod enc DP w base spare held n 44 ((cs'.drop 1).take (DP.cellsOf 44))=xs[1]? := hf 1 _ rfl
 have h2:DataW.trod enc DP w base spare held n 4 ((cs'.drop 2).take (DP.cellsOf 4))=xs[2]? := hf 2 _ rfl
 have h3:DataW.trod enc DP w base spare held n 9 ((cs'.drop 3).take (DP.cellsOf 9))=xs[3]? := hf 3 _ rfl
 rw[c9] at h0 h3
 rw[c50] at h1
 rw[c4] at h2
 match cs',hl,xs,hlen with
 | [v0,v1,v2,v3],_,[x0,x1,x2,x3],_=>
  obtain ⟨a,e0,_,_⟩:=DataW.trod_string Tryz.underlying9 h0
  obtain ⟨b,e1,_,hw⟩:=DataW.trod_int Tryz.underlying44 h1
  obtain ⟨c,e2,_⟩:=DataW.trod_bool Tryz.underlying4 h2
  obtain ⟨d,e3,_,_⟩:=DataW.trod_string Tryz.underlying9 h3
  simp at e0 e1 e2 e3
  subst e0 e1 e2 e3
  refine ⟨⟨a,b,c,d⟩,u64_in hw,rfl,fun r p u hp hu=>?_⟩
  match r with
  | 0=>cases hp; cases hu; exact .v _
  | 1=>cases hp; cases hu; exact .v _
  | 2=>cases hp; cases hu; exact .v _
  | 3=>cases hp; cases hu; exact .v _
  | r+4=>simp[entE,PV.cells] at hp
theorem in_ents (hO:∀ k,¬O k) {fuel:Nat} {v:Value} {x:DataW H×List MemPlace} (h:DataW.trod enc DP w base spare held fuel 22 [v]=some x):
  ∃ L:List Ent,(∀ a∈L,seqIn a)∧PRel O w (.ls (L.map entE.f)) v:=open_list hO Tryz.underlying22 entE.elt (by decide) (by kernel_rfl) (fun n cs' y hy=>in_ent n cs' y hy) h
end
end Go.Ax
