/- Plain: how long a file is at most. -/
import Derived.Test.YtbdfbdlfipcleaaDoorG32
import Derived.Test.YtbdfbdlfipcleaaDoorG40
import Derived.Test.YtbdfbdlfipcleaaDoorTie
import Derived.Test.YtbdfbdlfipcleaaDoorG11
import Derived.OpenShut
import Derived.WalkKit
import Derived.ProofKit
import Derived.LaidMore
import Derived.LaidLaws
import Derived.LaidHandle
import Derived.Lib.LaidTab
import Derived.Stop.Joined
set_option linter.unusedVariables false
set_option linter.unusedSimpArgs false
set_option linter.unusedSectionVars false
namespace Go.Ax
open Go.Proofs Go.RowKit
set_option maxRecDepth 100000

section
variable {L : List Ent}
theorem pageB_sum (h:Fits L) {c:List Ent} (hc:c∈chunks L 0 []):(pageB c).length≤304*c.length+(c.map szE).sum+16:=by
 have hs:=h.sub hc
 have hB:=body_le c 0 [] (fun x hx=>h.good.chk x (hs.subset hx))
 have hp:=h.page hc
 have hu:=upL0_of (h.good.sub hs).inn
 have hm:=mkI_ok hu (by omega)
 have hw:=wholeL_len (c.map ofE) 0 0 []
 have hcn:=cntL_le (c.map ofE) 0
 rw[List.length_map] at hcn
 unfold pageB
 rw[recB_len,hm]
 simp only[List.length_append,leI_len]
 omega
theorem pagesB_sum (h:Fits L):∀ C:List (List Ent),(∀ c∈C,c∈chunks L 0 [])→(pagesB C).length≤304*C.flatten.length+(C.flatten.map szE).sum+16*C.length
 | [],_=>Nat.zero_le _
 | c::C,hC=>by
  have h1:=pagesB_sum h C (fun d hd=>hC d (by simp[hd]))
  have h2:=pageB_sum h (hC c (by simp))
  rw[pagesB,List.length_append,List.length_cons,List.flatten_cons,List.length_append,List.map_append,List.sum_append]
  omega
theorem szE_sum {V:Nat}:∀ {L:List Ent},(∀ x∈L,x.key.size≤128∧x.val.size≤V)→(L.map szE).sum≤(128+V)*L.length
 | [],_=>Nat.zero_le _
 | x::L,h=>by
  have h1:=h x (by simp)
  have h2:=szE_sum (L:=L) (fun y hy=>h y (by simp[hy]))
  have h3:szE x=x.key.size+x.val.size:=rfl
  rw[List.map_cons,List.sum_cons,List.length_cons,Nat.mul_succ]
  omega
theorem Fits.len2 (h:Fits L) {V:Nat} (hv:∀ x∈L,x.val.size≤V):(fileY L).length≤(128+V)*L.length+304*L.length+21000:=by
 have h1:=pagesB_sum h (chunks L 0 []) (fun c hc=>hc)
 have h2:=h.chunks_len
 have h3:=idxY_len h
 have h4:=filB_len h
 have h5:=footB_len L
 rw[h.flat] at h1
 have h6:=szE_sum (L:=L) (V:=V) (fun x hx=>⟨by have:=chk_key (h.good.chk x hx); omega,hv x hx⟩)
 simp only[fileY,List.length_append]
 omega
end
theorem repeatL_len (l:List UInt8):∀ n:Nat,(Lib.repeatL l n).length=n*l.length
 | 0=>by simp[Lib.repeatL]
 | n+1=>by rw[Lib.repeatL,List.length_append,repeatL_len l n,Nat.succ_mul,Nat.add_comm]
theorem repB_size (s:ByteArray) (n:Nat):(repB s n).size=n*s.size:=by
 show (Lib.repeatL s.data.toList n).toArray.size=_
 rw[List.size_toArray,repeatL_len]
 rfl
theorem repE_size (t:Int) (x:Ent):(repE t x).val.size≤64*x.val.size:=by
 unfold repE
 split
 ·omega
 ·show (repB x.val (1+t % 64).toNat).size≤_
  rw[repB_size]
  exact Nat.mul_le_mul_right _ (by omega)
theorem someL_mem (t:Int) (L:List Ent):∀ y∈someL t L,∃ x∈L,y=repE t x:=by
 have:∀ (M out:List Ent),(∀ y∈out,∃ x∈L,y=repE t x)→(∀ x∈M,x∈L)→∀ y∈M.foldl (someF t) out,∃ x∈L,y=repE t x:=by
  intro M
  induction M with
  | nil=>intro out h _; exact h
  | cons x M ih=>
   intro out h hM
   rw[List.foldl_cons]
   refine ih _ (fun y hy=>?_) (fun z hz=>hM z (by simp[hz]))
   unfold someF at hy
   split at hy
   ·exact h y hy
   ·rcases insE_mem _ _ y hy with rfl | e
    ·exact ⟨x,hM x (by simp),rfl⟩
    ·exact h y e
 exact this L [] (fun y hy=>by cases hy) (fun x hx=>hx)
theorem some_fits {L:List Ent} (t:Int) (hs:∀ x∈L,0≤x.seq) (hn:L.length≤40) (hv:∀ x∈L,x.val.size≤200) (hA:someL t L≠ []):Fits (someL t L)∧(fileY (someL t L)).length≤600000:=by
 obtain ⟨g1,g2⟩:=someL_good t L hs
 have hf:Fits (someL t L):=⟨g1,hA,by omega⟩
 refine ⟨hf,?_⟩
 have:=hf.len2 (V:=12800) (fun y hy=>by
  obtain ⟨x,hx,rfl⟩:=someL_mem t L y hy
  have h1:=repE_size t x
  have h2:=hv x hx
  omega)
 have h40:=hf.few
 omega
end Go.Ax

namespace Go.Ax
open Go.Proofs Go.RowKit
set_option maxRecDepth 100000

def seqIn (a:Ent):Prop:=0≤a.seq∧a.seq<18446744073709551616
def LawL (L:List Ent) (t:Int):Prop:=(∀ x∈L,seqIn x)∧(-(2 ^ 63:Int)≤t∧t<2 ^ 63)
theorem law_some {L:List Ent} {t:Int} (h:LawL L t) (hb:bigE L=false):gSomeL [vl (L.map entE.f),vi t]=some (vl ((someL t L).map entE.f))∧(someL t L≠ []→Fits (someL t L)∧(fileY (someL t L)).length≤600000):=by
 obtain ⟨b1,b2⟩:=bigE_false hb
 exact ⟨gSomeL_eq h.2 (by omega) (fun x hx=>by have:=(b2 x hx).2; omega),some_fits t (fun x hx=>(h.1 x hx).1) b1 (fun x hx=>(b2 x hx).2)⟩
theorem ΓS1_ok:∀ f,SoundF DP f (ΓS1 f):=envP_cons SHeadF (envP_cons SBigL (envP_cons SSomeL envP_nil))
section
variable {k : ByteArray} {seq : Int} {A : List Ent} {D1 : Dsk} {F1 : FileR} {u : Ent} {o : Bool}
theorem ent_eqb {x y:Ent} (h:x=y):((x.key.toList == y.key.toList)&&(((x.seq:Int) == (y.seq:Int))&&((x.del == y.del)&&((x.val.toList == y.val.toList)&&true))))=true:=by
 subst h; simp
end
end Go.Ax

namespace Go.Ax
open Go.Proofs Go.RowKit
set_option maxRecDepth 100000

end Go.Ax

namespace Go.Ax
open Go.Proofs Go.RowKit
set_option maxRecDepth 100000

section
variable {y : Ent} {A : List Ent} {C : List (List Ent)} {D1 : Dsk} {F1 : FileR}
end
end Go.Ax

namespace Go.Ax
open Go.Proofs Go.RowKit
set_option maxRecDepth 100000

end Go.Ax

namespace Go.Ax
open Go.Proofs Go.RowKit
set_option maxRecDepth 100000

theorem andI64 {a:Int} (m:Nat) (hm:m≤32):IntKind.i64.wrap ((BitVec.ofInt IntKind.i64.bits a &&& BitVec.ofInt IntKind.i64.bits ((2 ^ m - 1:Nat):Int)).toNat)=a % ((2 ^ m:Nat):Int):=by
 have h2:2 ^ m - 1<2 ^ 64:=Nat.lt_of_lt_of_le (Nat.sub_lt (Nat.two_pow_pos m) Nat.one_pos) (Nat.pow_le_pow_right (by decide) (by omega))
 have hp:(2:Nat) ^ m≤2 ^ 32:=Nat.pow_le_pow_right (by decide) hm
 show IntKind.i64.wrap (((BitVec.ofInt 64 a &&& BitVec.ofInt 64 ((2 ^ m - 1:Nat):Int)).toNat:Nat):Int)=_
 rw[BitVec.toNat_and,BitVec.ofInt_natCast,BitVec.toNat_ofNat,Nat.mod_eq_of_lt h2,Nat.and_two_pow_sub_one_eq_mod,BitVec.toNat_ofInt]
 have hpos:0<(2:Nat) ^ m:=Nat.two_pow_pos m
 have hd:((2 ^ m:Nat):Int) ∣ ((2 ^ 64:Nat):Int):=Int.natCast_dvd_natCast.2 (Nat.pow_dvd_pow 2 (by omega))
 have hnn:0≤a % ((2 ^ 64:Nat):Int):=Int.emod_nonneg _ (by decide)
 have e:(((a % ((2 ^ 64:Nat):Int)).toNat % 2 ^ m:Nat):Int)=a % ((2 ^ m:Nat):Int):=by
  rw[Int.natCast_emod,Int.toNat_of_nonneg hnn,Int.emod_emod_of_dvd _ hd]
 rw[e]
 have h3:=Int.emod_lt_of_pos a (b:=((2 ^ m:Nat):Int)) (by omega)
 have h4:=Int.emod_nonneg a (b:=((2 ^ m:Nat):Int)) (by omega)
 have h5:((2 ^ m:Nat):Int)≤4294967296:=by
  have:(2:Nat) ^ 32=4294967296:=by decide
  omega
 exact wrap_i64 (by omega)
section
variable {A : List Ent} {C : List (List Ent)} {D2 : Dsk} {F1 : FileR} {bits : UInt8} {seq : Int} {P : Int → List Ent × Int}
end
end Go.Ax

namespace Go.Ax
open Go.Proofs Go.RowKit
set_option maxRecDepth 100000

noncomputable def ΔS4:REnv:=envR [(iNew,liftR ONew),(iFWrite,liftR OFWrite),(iFOpen,liftR OFOpen),(iFGet,liftR OFGet),(iFCount,liftR OFCount)]

abbrev iSameF:Nat:=6
noncomputable abbrev nSameF:Func:=Tryd.f6
theorem hfSameF:DP.funcs[iSameF]? = some nSameF:=by kernel_rfl
theorem heSameF:enters DP iSameF=true:=by kernel_rfl
theorem hbSameF:nSameF.body.isSome=true:=by kernel_rfl
noncomputable def TSameF_j1_e (L:List Ent) (a:Int) (k:ByteArray) (seq:Int) (j1:Bool):St:=([(0,vl (L.map entE.f)),(1,vi a),(2,vs k),(3,vn .u64 seq),(37,vb j1)],[])
noncomputable def TSameF_j2_e (k:ByteArray) (seq:Int) (D3:Dsk) (F1:FileR) (F2:FileR) (F3:FileR) (j2:Bool):St:=([(2,vs k),(3,vn .u64 seq),(17, .ptr 0 0 0),(19, .ptr 1 0 0),(21, .ptr 2 0 0),(119,vb j2)],[.cells false 0 ([.op 3,vs (⟨#[97]⟩:ByteArray),vl (F1.idx.map parE.f),vl (F1.bits.map byteE.f),vi F1.cnt,vs F1.low,vs F1.high]), .cells false 0 ([.op 3,vs (⟨#[98]⟩:ByteArray),vl (F2.idx.map parE.f),vl (F2.bits.map byteE.f),vi F2.cnt,vs F2.low,vs F2.high]), .cells false 0 ([.op 3,vs (⟨#[99]⟩:ByteArray),vl (F3.idx.map parE.f),vl (F3.bits.map byteE.f),vi F3.cnt,vs F3.low,vs F3.high]), .obj [] (diskP D3)])
noncomputable def TSameF_j3_e (seq:Int) (u:Ent) (o:Bool) (w:Ent) (j3:Bool):St:=([(23, .ptr 0 0 0),(24,vb o),(25,vi 0),(26, .ptr 1 0 0),(27,vb j3),(28,vi 0)],[.cells false 0 ([vs u.key,vn .u64 u.seq,vb u.del,vs u.val]), .cells false 0 ([vs w.key,vn .u64 w.seq,vb w.del,vs w.val])])
noncomputable def TSameF_j3 (seq:Int) (u:Ent) (o:Bool) (w:Ent) (j3:Bool):Tree:=
.sp 159 (o == j3) (
.leaf ⟨[0],[]⟩ [] .ret (some ([(0,vb (((w.key:ByteArray).toList == (u.key:ByteArray).toList)&&(((w.seq:Int) == (u.seq:Int))&&((w.del == u.del)&&(((w.val:ByteArray).toList == (u.val:ByteArray).toList)&&true)))))],[]))) (
.leaf ⟨[0],[]⟩ [] .ret (some ([(0,vb false)],[])))
noncomputable def TSameF_j2 (k:ByteArray) (seq:Int) (D3:Dsk) (F1:FileR) (F2:FileR) (F3:FileR) (u:Ent) (o:Bool) (v:Ent) (p:Bool) (w:Ent) (q:Bool) (j2:Bool):Tree:=
.br j2 (
.leaf ⟨[0],[]⟩ [] .ret (some ([(0,vb false)],[]))) (
.callr (some 124) (ΔS4 34 [.ptr 0 0 0,vs k,vn .u64 seq] [.cells false 0 ([.op 3,vs (⟨#[97]⟩:ByteArray),vl (F1.idx.map parE.f),vl (F1.bits.map byteE.f),vi F1.cnt,vs F1.low,vs F1.high]), .cells false 0 ([.op 3,vs (⟨#[98]⟩:ByteArray),vl (F2.idx.map parE.f),vl (F2.bits.map byteE.f),vi F2.cnt,vs F2.low,vs F2.high]), .cells false 0 ([.op 3,vs (⟨#[99]⟩:ByteArray),vl (F3.idx.map parE.f),vl (F3.bits.map byteE.f),vi F3.cnt,vs F3.low,vs F3.high]), .obj [] (diskP D3)] (.tup [(entE.av u),vb o,vi 0]) [.cells false 0 ([.op 3,vs (⟨#[97]⟩:ByteArray),vl (F1.idx.map parE.f),vl (F1.bits.map byteE.f),vi F1.cnt,vs F1.low,vs F1.high]), .cells false 0 ([.op 3,vs (⟨#[98]⟩:ByteArray),vl (F2.idx.map parE.f),vl (F2.bits.map byteE.f),vi F2.cnt,vs F2.low,vs F2.high]), .cells false 0 ([.op 3,vs (⟨#[99]⟩:ByteArray),vl (F3.idx.map parE.f),vl (F3.bits.map byteE.f),vi F3.cnt,vs F3.low,vs F3.high]), .obj [] (diskP D3)]) (.tup [(entE.av u),vb o,vi 0]) [.cells false 0 ([.op 3,vs (⟨#[97]⟩:ByteArray),vl (F1.idx.map parE.f),vl (F1.bits.map byteE.f),vi F1.cnt,vs F1.low,vs F1.high]), .cells false 0 ([.op 3,vs (⟨#[98]⟩:ByteArray),vl (F2.idx.map parE.f),vl (F2.bits.map byteE.f),vi F2.cnt,vs F2.low,vs F2.high]), .cells false 0 ([.op 3,vs (⟨#[99]⟩:ByteArray),vl (F3.idx.map parE.f),vl (F3.bits.map byteE.f),vi F3.cnt,vs F3.low,vs F3.high]), .obj [] (diskP D3)] (.callr (some 132) (ΔS4 34 [.ptr 1 0 0,vs k,vn .u64 seq] [.cells false 0 ([.op 3,vs (⟨#[97]⟩:ByteArray),vl (F1.idx.map parE.f),vl (F1.bits.map byteE.f),vi F1.cnt,vs F1.low,vs F1.high]), .cells false 0 ([.op 3,vs (⟨#[98]⟩:ByteArray),vl (F2.idx.map parE.f),vl (F2.bits.map byteE.f),vi F2.cnt,vs F2.low,vs F2.high]), .cells false 0 ([.op 3,vs (⟨#[99]⟩:ByteArray),vl (F3.idx.map parE.f),vl (F3.bits.map byteE.f),vi F3.cnt,vs F3.low,vs F3.high]), .obj [] (diskP D3), .cells false 0 ([vs u.key,vn .u64 u.seq,vb u.del,vs u.val])] (.tup [(entE.av v),vb p,vi 0]) [.cells false 0 ([.op 3,vs (⟨#[97]⟩:ByteArray),vl (F1.idx.map parE.f),vl (F1.bits.map byteE.f),vi F1.cnt,vs F1.low,vs F1.high]), .cells false 0 ([.op 3,vs (⟨#[98]⟩:ByteArray),vl (F2.idx.map parE.f),vl (F2.bits.map byteE.f),vi F2.cnt,vs F2.low,vs F2.high]), .cells false 0 ([.op 3,vs (⟨#[99]⟩:ByteArray),vl (F3.idx.map parE.f),vl (F3.bits.map byteE.f),vi F3.cnt,vs F3.low,vs F3.high]), .obj [] (diskP D3), .cells false 0 ([vs u.key,vn .u64 u.seq,vb u.del,vs u.val])]) (.tup [(entE.av v),vb p,vi 0]) [.cells false 0 ([.op 3,vs (⟨#[97]⟩:ByteArray),vl (F1.idx.map parE.f),vl (F1.bits.map byteE.f),vi F1.cnt,vs F1.low,vs F1.high]), .cells false 0 ([.op 3,vs (⟨#[98]⟩:ByteArray),vl (F2.idx.map parE.f),vl (F2.bits.map byteE.f),vi F2.cnt,vs F2.low,vs F2.high]), .cells false 0 ([.op 3,vs (⟨#[99]⟩:ByteArray),vl (F3.idx.map parE.f),vl (F3.bits.map byteE.f),vi F3.cnt,vs F3.low,vs F3.high]), .obj [] (diskP D3), .cells false 0 ([vs u.key,vn .u64 u.seq,vb u.del,vs u.val])] (.sp 134 p (
.sp 159 (o == true) (
.leaf ⟨[0],[]⟩ [] .ret (some ([(0,vb (((v.key:ByteArray).toList == (u.key:ByteArray).toList)&&(((v.seq:Int) == (u.seq:Int))&&((v.del == u.del)&&(((v.val:ByteArray).toList == (u.val:ByteArray).toList)&&true)))))],[]))) (
.leaf ⟨[0],[]⟩ [] .ret (some ([(0,vb false)],[])))) (
.callr (some 146) (ΔS4 34 [.ptr 2 0 0,vs k,vn .u64 seq] [.cells false 0 ([.op 3,vs (⟨#[97]⟩:ByteArray),vl (F1.idx.map parE.f),vl (F1.bits.map byteE.f),vi F1.cnt,vs F1.low,vs F1.high]), .cells false 0 ([.op 3,vs (⟨#[98]⟩:ByteArray),vl (F2.idx.map parE.f),vl (F2.bits.map byteE.f),vi F2.cnt,vs F2.low,vs F2.high]), .cells false 0 ([.op 3,vs (⟨#[99]⟩:ByteArray),vl (F3.idx.map parE.f),vl (F3.bits.map byteE.f),vi F3.cnt,vs F3.low,vs F3.high]), .obj [] (diskP D3), .cells false 0 ([vs u.key,vn .u64 u.seq,vb u.del,vs u.val]), .cells false 0 ([vs v.key,vn .u64 v.seq,vb v.del,vs v.val])] (.tup [(entE.av w),vb q,vi 0]) [.cells false 0 ([.op 3,vs (⟨#[97]⟩:ByteArray),vl (F1.idx.map parE.f),vl (F1.bits.map byteE.f),vi F1.cnt,vs F1.low,vs F1.high]), .cells false 0 ([.op 3,vs (⟨#[98]⟩:ByteArray),vl (F2.idx.map parE.f),vl (F2.bits.map byteE.f),vi F2.cnt,vs F2.low,vs F2.high]), .cells false 0 ([.op 3,vs (⟨#[99]⟩:ByteArray),vl (F3.idx.map parE.f),vl (F3.bits.map byteE.f),vi F3.cnt,vs F3.low,vs F3.high]), .obj [] (diskP D3), .cells false 0 ([vs u.key,vn .u64 u.seq,vb u.del,vs u.val]), .cells false 0 ([vs v.key,vn .u64 v.seq,vb v.del,vs v.val])]) (.tup [(entE.av w),vb q,vi 0]) [.cells false 0 ([.op 3,vs (⟨#[97]⟩:ByteArray),vl (F1.idx.map parE.f),vl (F1.bits.map byteE.f),vi F1.cnt,vs F1.low,vs F1.high]), .cells false 0 ([.op 3,vs (⟨#[98]⟩:ByteArray),vl (F2.idx.map parE.f),vl (F2.bits.map byteE.f),vi F2.cnt,vs F2.low,vs F2.high]), .cells false 0 ([.op 3,vs (⟨#[99]⟩:ByteArray),vl (F3.idx.map parE.f),vl (F3.bits.map byteE.f),vi F3.cnt,vs F3.low,vs F3.high]), .obj [] (diskP D3), .cells false 0 ([vs u.key,vn .u64 u.seq,vb u.del,vs u.val]), .cells false 0 ([vs v.key,vn .u64 v.seq,vb v.del,vs v.val])] (.sp 148 q (
.join ⟨[23,24,25,26,27,28],[(4,0,none),(5,0,none)]⟩ [] (some (TSameF_j3_e seq u o w true)) (TSameF_j3_e seq u o w) true (TSameF_j3 seq u o w)) (
.join ⟨[23,24,25,26,27,28],[(4,0,none),(5,0,none)]⟩ [] (some (TSameF_j3_e seq u o w false)) (TSameF_j3_e seq u o w) false (TSameF_j3 seq u o w)))))))
noncomputable def TSameF_j1 (L:List Ent) (a:Int) (k:ByteArray) (seq:Int) (A:List Ent) (D0:Dsk) (D1:Dsk) (D2:Dsk) (D3:Dsk) (F1:FileR) (F2:FileR) (F3:FileR) (n1:Int) (n2:Int) (n3:Int) (u:Ent) (o:Bool) (v:Ent) (p:Bool) (w:Ent) (q:Bool) (j1:Bool):Tree:=
.br j1 (
.leaf ⟨[0],[]⟩ [] .ret (some ([(0,vb true)],[]))) (
.call 39 (gSomeL [vl (L.map entE.f),vi 30]=some (vl (A.map entE.f))) (vl (A.map entE.f)) (.int 41 ((A.map entE.f).length:Int) (A.length:Int) (.sp 42 (decide ((A.length:Int)<(2:Int))) (
.leaf ⟨[0],[]⟩ [] .ret (some ([(0,vb true)],[]))) (
.int 44 (IntKind.i64.wrap ((BitVec.ofInt IntKind.i64.bits a &&& BitVec.ofInt IntKind.i64.bits 255).toNat)) (a % 256) (.int 46 ((A.map entE.f).length:Int) (A.length:Int) (.int 47 (IntKind.i64.wrap ((A.length:Int) - 1)) ((A.length:Int) - 1) (.val (some 48) ((binA DP .rem 3 (vi (a % 256)) (vi ((A.length:Int) - 1))).map (fun v=>(v,([]:List Box)))=some (vi (Int.tmod (a % 256) ((A.length:Int) - 1)),[])) (vi (Int.tmod (a % 256) ((A.length:Int) - 1))) [] (.int 49 (IntKind.i64.wrap (1+(Int.tmod (a % 256) ((A.length:Int) - 1)))) (1+(Int.tmod (a % 256) ((A.length:Int) - 1))) (.callr (some 50) (ΔS4 30 [vi 4194304] [] (.op 0) [.obj [] (diskP D0)]) (.op 0) [.obj [] (diskP D0)] (.callr (some 54) (ΔS4 31 [.op 0,vs (⟨#[97]⟩),vl (A.map entE.f)] [.obj [] (diskP D0)] (.tup [vi n1,vi 0]) [.obj [] (diskP D1)]) (.tup [vi n1,vi 0]) [.obj [] (diskP D1)] (.cut 61 (A.map entE.f) none (some (1+(Int.tmod (a % 256) ((A.length:Int) - 1)))) entE A (.callr (some 62) (ΔS4 31 [.op 0,vs (⟨#[98]⟩),vl ((cutL none (some (1+(Int.tmod (a % 256) ((A.length:Int) - 1)))) A).map entE.f)] [.obj [] (diskP D1)] (.tup [vi n2,vi 0]) [.obj [] (diskP D2)]) (.tup [vi n2,vi 0]) [.obj [] (diskP D2)] (.cut 69 (A.map entE.f) (some (1+(Int.tmod (a % 256) ((A.length:Int) - 1)))) none entE A (.callr (some 70) (ΔS4 31 [.op 0,vs (⟨#[99]⟩),vl ((cutL (some (1+(Int.tmod (a % 256) ((A.length:Int) - 1)))) none A).map entE.f)] [.obj [] (diskP D2)] (.tup [vi n3,vi 0]) [.obj [] (diskP D3)]) (.tup [vi n3,vi 0]) [.obj [] (diskP D3)] (.callr (some 75) (ΔS4 32 [.op 0,vs (⟨#[97]⟩)] [.obj [] (diskP D3)] (.tup [.ptr 1 0 0,vi 0]) [.obj [] (diskP D3), .cells false 0 ([.op 0,vs (⟨#[97]⟩:ByteArray),vl (F1.idx.map parE.f),vl (F1.bits.map byteE.f),vi F1.cnt,vs F1.low,vs F1.high])]) (.tup [.ptr 1 0 0,vi 0]) [.obj [] (diskP D3), .cells false 0 ([.op 0,vs (⟨#[97]⟩:ByteArray),vl (F1.idx.map parE.f),vl (F1.bits.map byteE.f),vi F1.cnt,vs F1.low,vs F1.high])] (.callr (some 80) (ΔS4 32 [.op 0,vs (⟨#[98]⟩)] [.obj [] (diskP D3), .cells false 0 ([.op 0,vs (⟨#[97]⟩:ByteArray),vl (F1.idx.map parE.f),vl (F1.bits.map byteE.f),vi F1.cnt,vs F1.low,vs F1.high])] (.tup [.ptr 2 0 0,vi 0]) [.obj [] (diskP D3), .cells false 0 ([.op 0,vs (⟨#[97]⟩:ByteArray),vl (F1.idx.map parE.f),vl (F1.bits.map byteE.f),vi F1.cnt,vs F1.low,vs F1.high]), .cells false 0 ([.op 0,vs (⟨#[98]⟩:ByteArray),vl (F2.idx.map parE.f),vl (F2.bits.map byteE.f),vi F2.cnt,vs F2.low,vs F2.high])]) (.tup [.ptr 2 0 0,vi 0]) [.obj [] (diskP D3), .cells false 0 ([.op 0,vs (⟨#[97]⟩:ByteArray),vl (F1.idx.map parE.f),vl (F1.bits.map byteE.f),vi F1.cnt,vs F1.low,vs F1.high]), .cells false 0 ([.op 0,vs (⟨#[98]⟩:ByteArray),vl (F2.idx.map parE.f),vl (F2.bits.map byteE.f),vi F2.cnt,vs F2.low,vs F2.high])] (.callr (some 85) (ΔS4 32 [.op 0,vs (⟨#[99]⟩)] [.obj [] (diskP D3), .cells false 0 ([.op 0,vs (⟨#[97]⟩:ByteArray),vl (F1.idx.map parE.f),vl (F1.bits.map byteE.f),vi F1.cnt,vs F1.low,vs F1.high]), .cells false 0 ([.op 0,vs (⟨#[98]⟩:ByteArray),vl (F2.idx.map parE.f),vl (F2.bits.map byteE.f),vi F2.cnt,vs F2.low,vs F2.high])] (.tup [.ptr 3 0 0,vi 0]) [.obj [] (diskP D3), .cells false 0 ([.op 0,vs (⟨#[97]⟩:ByteArray),vl (F1.idx.map parE.f),vl (F1.bits.map byteE.f),vi F1.cnt,vs F1.low,vs F1.high]), .cells false 0 ([.op 0,vs (⟨#[98]⟩:ByteArray),vl (F2.idx.map parE.f),vl (F2.bits.map byteE.f),vi F2.cnt,vs F2.low,vs F2.high]), .cells false 0 ([.op 0,vs (⟨#[99]⟩:ByteArray),vl (F3.idx.map parE.f),vl (F3.bits.map byteE.f),vi F3.cnt,vs F3.low,vs F3.high])]) (.tup [.ptr 3 0 0,vi 0]) [.obj [] (diskP D3), .cells false 0 ([.op 0,vs (⟨#[97]⟩:ByteArray),vl (F1.idx.map parE.f),vl (F1.bits.map byteE.f),vi F1.cnt,vs F1.low,vs F1.high]), .cells false 0 ([.op 0,vs (⟨#[98]⟩:ByteArray),vl (F2.idx.map parE.f),vl (F2.bits.map byteE.f),vi F2.cnt,vs F2.low,vs F2.high]), .cells false 0 ([.op 0,vs (⟨#[99]⟩:ByteArray),vl (F3.idx.map parE.f),vl (F3.bits.map byteE.f),vi F3.cnt,vs F3.low,vs F3.high])] (.callr (some 112) (ΔS4 33 [.ptr 2 0 0] [.obj [] (diskP D3), .cells false 0 ([.op 0,vs (⟨#[97]⟩:ByteArray),vl (F1.idx.map parE.f),vl (F1.bits.map byteE.f),vi F1.cnt,vs F1.low,vs F1.high]), .cells false 0 ([.op 0,vs (⟨#[98]⟩:ByteArray),vl (F2.idx.map parE.f),vl (F2.bits.map byteE.f),vi F2.cnt,vs F2.low,vs F2.high]), .cells false 0 ([.op 0,vs (⟨#[99]⟩:ByteArray),vl (F3.idx.map parE.f),vl (F3.bits.map byteE.f),vi F3.cnt,vs F3.low,vs F3.high])] (vi F2.cnt) [.obj [] (diskP D3), .cells false 0 ([.op 0,vs (⟨#[97]⟩:ByteArray),vl (F1.idx.map parE.f),vl (F1.bits.map byteE.f),vi F1.cnt,vs F1.low,vs F1.high]), .cells false 0 ([.op 0,vs (⟨#[98]⟩:ByteArray),vl (F2.idx.map parE.f),vl (F2.bits.map byteE.f),vi F2.cnt,vs F2.low,vs F2.high]), .cells false 0 ([.op 0,vs (⟨#[99]⟩:ByteArray),vl (F3.idx.map parE.f),vl (F3.bits.map byteE.f),vi F3.cnt,vs F3.low,vs F3.high])]) (vi F2.cnt) [.obj [] (diskP D3), .cells false 0 ([.op 0,vs (⟨#[97]⟩:ByteArray),vl (F1.idx.map parE.f),vl (F1.bits.map byteE.f),vi F1.cnt,vs F1.low,vs F1.high]), .cells false 0 ([.op 0,vs (⟨#[98]⟩:ByteArray),vl (F2.idx.map parE.f),vl (F2.bits.map byteE.f),vi F2.cnt,vs F2.low,vs F2.high]), .cells false 0 ([.op 0,vs (⟨#[99]⟩:ByteArray),vl (F3.idx.map parE.f),vl (F3.bits.map byteE.f),vi F3.cnt,vs F3.low,vs F3.high])] (.callr (some 114) (ΔS4 33 [.ptr 3 0 0] [.obj [] (diskP D3), .cells false 0 ([.op 0,vs (⟨#[97]⟩:ByteArray),vl (F1.idx.map parE.f),vl (F1.bits.map byteE.f),vi F1.cnt,vs F1.low,vs F1.high]), .cells false 0 ([.op 0,vs (⟨#[98]⟩:ByteArray),vl (F2.idx.map parE.f),vl (F2.bits.map byteE.f),vi F2.cnt,vs F2.low,vs F2.high]), .cells false 0 ([.op 0,vs (⟨#[99]⟩:ByteArray),vl (F3.idx.map parE.f),vl (F3.bits.map byteE.f),vi F3.cnt,vs F3.low,vs F3.high])] (vi F3.cnt) [.obj [] (diskP D3), .cells false 0 ([.op 0,vs (⟨#[97]⟩:ByteArray),vl (F1.idx.map parE.f),vl (F1.bits.map byteE.f),vi F1.cnt,vs F1.low,vs F1.high]), .cells false 0 ([.op 0,vs (⟨#[98]⟩:ByteArray),vl (F2.idx.map parE.f),vl (F2.bits.map byteE.f),vi F2.cnt,vs F2.low,vs F2.high]), .cells false 0 ([.op 0,vs (⟨#[99]⟩:ByteArray),vl (F3.idx.map parE.f),vl (F3.bits.map byteE.f),vi F3.cnt,vs F3.low,vs F3.high])]) (vi F3.cnt) [.obj [] (diskP D3), .cells false 0 ([.op 0,vs (⟨#[97]⟩:ByteArray),vl (F1.idx.map parE.f),vl (F1.bits.map byteE.f),vi F1.cnt,vs F1.low,vs F1.high]), .cells false 0 ([.op 0,vs (⟨#[98]⟩:ByteArray),vl (F2.idx.map parE.f),vl (F2.bits.map byteE.f),vi F2.cnt,vs F2.low,vs F2.high]), .cells false 0 ([.op 0,vs (⟨#[99]⟩:ByteArray),vl (F3.idx.map parE.f),vl (F3.bits.map byteE.f),vi F3.cnt,vs F3.low,vs F3.high])] (.int 115 (IntKind.i64.wrap (F2.cnt+F3.cnt)) (F2.cnt+F3.cnt) (.callr (some 117) (ΔS4 33 [.ptr 1 0 0] [.obj [] (diskP D3), .cells false 0 ([.op 0,vs (⟨#[97]⟩:ByteArray),vl (F1.idx.map parE.f),vl (F1.bits.map byteE.f),vi F1.cnt,vs F1.low,vs F1.high]), .cells false 0 ([.op 0,vs (⟨#[98]⟩:ByteArray),vl (F2.idx.map parE.f),vl (F2.bits.map byteE.f),vi F2.cnt,vs F2.low,vs F2.high]), .cells false 0 ([.op 0,vs (⟨#[99]⟩:ByteArray),vl (F3.idx.map parE.f),vl (F3.bits.map byteE.f),vi F3.cnt,vs F3.low,vs F3.high])] (vi F1.cnt) [.obj [] (diskP D3), .cells false 0 ([.op 0,vs (⟨#[97]⟩:ByteArray),vl (F1.idx.map parE.f),vl (F1.bits.map byteE.f),vi F1.cnt,vs F1.low,vs F1.high]), .cells false 0 ([.op 0,vs (⟨#[98]⟩:ByteArray),vl (F2.idx.map parE.f),vl (F2.bits.map byteE.f),vi F2.cnt,vs F2.low,vs F2.high]), .cells false 0 ([.op 0,vs (⟨#[99]⟩:ByteArray),vl (F3.idx.map parE.f),vl (F3.bits.map byteE.f),vi F3.cnt,vs F3.low,vs F3.high])]) (vi F1.cnt) [.obj [] (diskP D3), .cells false 0 ([.op 0,vs (⟨#[97]⟩:ByteArray),vl (F1.idx.map parE.f),vl (F1.bits.map byteE.f),vi F1.cnt,vs F1.low,vs F1.high]), .cells false 0 ([.op 0,vs (⟨#[98]⟩:ByteArray),vl (F2.idx.map parE.f),vl (F2.bits.map byteE.f),vi F2.cnt,vs F2.low,vs F2.high]), .cells false 0 ([.op 0,vs (⟨#[99]⟩:ByteArray),vl (F3.idx.map parE.f),vl (F3.bits.map byteE.f),vi F3.cnt,vs F3.low,vs F3.high])] (.sp 118 ((F2.cnt+F3.cnt) != F1.cnt) (
.join ⟨[2,3,17,19,21,119],[(1,0,none),(2,0,none),(3,0,none),(0,0,none)]⟩ [] (some (TSameF_j2_e k seq D3 F1 F2 F3 true)) (TSameF_j2_e k seq D3 F1 F2 F3) true (TSameF_j2 k seq D3 F1 F2 F3 u o v p w q)) (
.join ⟨[2,3,17,19,21,119],[(1,0,none),(2,0,none),(3,0,none),(0,0,none)]⟩ [] (some (TSameF_j2_e k seq D3 F1 F2 F3 false)) (TSameF_j2_e k seq D3 F1 F2 F3) false (TSameF_j2 k seq D3 F1 F2 F3 u o v p w q))))))))))))))))))))))))
noncomputable def TSameF (L:List Ent) (a:Int) (k:ByteArray) (seq:Int) (A:List Ent) (D0:Dsk) (D1:Dsk) (D2:Dsk) (D3:Dsk) (F1:FileR) (F2:FileR) (F3:FileR) (n1:Int) (n2:Int) (n3:Int) (u:Ent) (o:Bool) (v:Ent) (p:Bool) (w:Ent) (q:Bool):Tree:=
.call 29 (gHeadF []=some (vb true)) (vb true) (.call 32 (gBigL [vl (L.map entE.f)]=some (vb (bigE L))) (vb (bigE L)) (.sp 32 (bigE L) (
.join ⟨[0,1,2,3,37],[]⟩ [] (some (TSameF_j1_e L a k seq true)) (TSameF_j1_e L a k seq) true (TSameF_j1 L a k seq A D0 D1 D2 D3 F1 F2 F3 n1 n2 n3 u o v p w q)) (
.sp 36 (decide ((k.size:Int)>(300:Int))) (
.join ⟨[0,1,2,3,37],[]⟩ [] (some (TSameF_j1_e L a k seq true)) (TSameF_j1_e L a k seq) true (TSameF_j1 L a k seq A D0 D1 D2 D3 F1 F2 F3 n1 n2 n3 u o v p w q)) (
.join ⟨[0,1,2,3,37],[]⟩ [] (some (TSameF_j1_e L a k seq false)) (TSameF_j1_e L a k seq) false (TSameF_j1 L a k seq A D0 D1 D2 D3 F1 F2 F3 n1 n2 n3 u o v p w q)))))

theorem TSameF_chk (L:List Ent) (a:Int) (k:ByteArray) (seq:Int) (A:List Ent) (D0:Dsk) (D1:Dsk) (D2:Dsk) (D3:Dsk) (F1:FileR) (F2:FileR) (F3:FileR) (n1:Int) (n2:Int) (n3:Int) (u:Ent) (o:Bool) (v:Ent) (p:Bool) (w:Ent) (q:Bool):fnC DP ΓS1 ΔS4 Tryd.f6 [vl (L.map entE.f),vi a,vs k,vn .u64 seq] [] (TSameF L a k seq A D0 D1 D2 D3 F1 F2 F3 n1 n2 n3 u o v p w q)=TSameF L a k seq A D0 D1 D2 D3 F1 F2 F3 n1 n2 n3 u o v p w q:=by kernel_rfl

end Go.Ax

namespace Go.Ax
open Go.Proofs Go.RowKit
set_option maxRecDepth 100000

theorem ΔS4_ok:∀ f,SoundR DP f (ΔS4 f):=envR_cons (lift_sound SNew)<|envR_cons (lift_sound SFWrite)<|envR_cons (lift_sound SFOpen)<|envR_cons (lift_sound SFGet)<|envR_cons (lift_sound SFCount) envR_nil
def findP (k:ByteArray) (seq:Int) (y:Ent):Bool:=decide (y.key=k∧y.seq≤seq∧seq≤72057594037927935)
theorem get_find {A:List Ent} (hf:Fits A) (k:ByteArray) (seq:Int) (hs:0≤seq):getE (fileY A) (fileOf A) k seq=match A.find? (findP k seq) with
  | none=>(noE,false,0)
  | some y=>(y,true,0):=by
 rw[get_file hf k seq hs]
 have:(if seq≤72057594037927935 then bestE A k seq else none)=A.find? (findP k seq):=by
  split
  ·rename_i h
   unfold bestE
   congr 1
   funext y
   simp[findP,h]
  ·rename_i h
   exact (fnd_none (fun x _=>by simp[findP,h])).symm
 rw[this]
 all_goals (cases A.find? (findP k seq) <;> rfl)
theorem fits_len {A:List Ent} (hf:Fits A) (hv:∀ y∈A,y.val.size≤12800):(fileY A).length≤600000:=by
 have:=hf.len2 hv
 have:=hf.few
 omega
theorem some_val {L:List Ent} (t:Int) (hv:∀ x∈L,x.val.size≤200):∀ y∈someL t L,y.val.size≤12800:=fun y hy=>by
 obtain ⟨x,hx,rfl⟩:=someL_mem t L y hy
 have h1:=repE_size t x
 have h2:=hv x hx
 omega
theorem three {D0 D1 D2 D3:Dsk} {A B C:List Ent} (hl:Live D0) (hr:D0.room=4194304∧D0.used=0) (hc:∀ m,D0.cont m=none) (hA:Fits A) (hB:Fits B) (hC:Fits C) (lA:(fileY A).length≤600000) (lB:(fileY B).length≤600000) (lC:(fileY C).length≤600000)
  (h1:D1=(writeD D0 ⟨#[97]⟩ (fileY A)).1) (h2:D2=(writeD D1 ⟨#[98]⟩ (fileY B)).1) (h3:D3=(writeD D2 ⟨#[99]⟩ (fileY C)).1):
  (writeD D0 ⟨#[97]⟩ (fileY A)).2=(((fileY A).length:Int),0)∧(writeD D1 ⟨#[98]⟩ (fileY B)).2=(((fileY B).length:Int),0)∧(writeD D2 ⟨#[99]⟩ (fileY C)).2=(((fileY C).length:Int),0)∧Live D1∧Live D2∧Live D3 ∧
  (contF D3 ⟨#[97]⟩=fileY A∧D3.get ⟨#[97]⟩≠none)∧(contF D3 ⟨#[98]⟩=fileY B∧D3.get ⟨#[98]⟩≠none)∧(contF D3 ⟨#[99]⟩=fileY C∧D3.get ⟨#[99]⟩≠none):=by
 obtain ⟨a1,a2,a3,a4,a5⟩:=write_live hl (nm:=⟨#[97]⟩) (by decide) (hc _) (b:=fileY A) (by omega)
 rw[←h1] at a2 a3 a4 a5
 obtain ⟨b1,b2,b3,b4,b5⟩:=write_live a2 (nm:=⟨#[98]⟩) (by decide) (by rw[a3,if_neg (by decide)]; exact hc _) (b:=fileY B) (by omega)
 rw[←h2] at b2 b3 b4 b5
 obtain ⟨c1,c2,c3,c4,c5⟩:=write_live b2 (nm:=⟨#[99]⟩) (by decide) (by rw[b3,if_neg (by decide),a3,if_neg (by decide)]; exact hc _) (b:=fileY C) (by omega)
 rw[←h3] at c2 c3 c4 c5
 exact ⟨a1,b1,c1,a2,b2,c2,contF_some (by rw[c3,if_neg (by decide),b3,if_neg (by decide),a3,if_pos rfl]),contF_some (by rw[c3,if_neg (by decide),b3,if_pos rfl]),contF_some (by rw[c3,if_pos rfl])⟩
def RSameF:List AV→AV→Prop:=fun args r=>∃ (L:List Ent) (a:Int) (k:ByteArray) (seq:Int),(∀ x∈L,seqIn x)∧(-(2 ^ 63:Int)≤a∧a<2 ^ 63)∧(0≤seq∧seq<18446744073709551616)∧args= [vl (L.map entE.f),vi a,vs k,vn .u64 seq]∧r=vb true
noncomputable def gSameF:=relG RSameF
theorem SSameF:SoundF DP iSameF (.pure gSameF):=sound_pureT mixedD ΓS1_ok ΔS4_ok hfSameF heSameF hbSameF (by
 rintro args r ⟨L,a,k,seq,hL1,ha,hs,rfl,rfl⟩
 have hL:LawL L 30:=⟨hL1,by decide⟩
 have hl:Live (newD 4194304):=live_new
 obtain ⟨A,hA⟩:∃ A,A=someL 30 L:=⟨_,rfl⟩
 obtain ⟨x,hx⟩:∃ x,x=1+Int.tmod (a % ((2 ^ 8:Nat):Int)) ((A.length:Int) - 1):=⟨_,rfl⟩
 obtain ⟨B,hB⟩:∃ B,B=cutL none (some x) A:=⟨_,rfl⟩
 obtain ⟨C,hC⟩:∃ C,C=cutL (some x) none A:=⟨_,rfl⟩
 obtain ⟨D1,h1⟩:∃ D1,D1=(writeD (newD 4194304) ⟨#[97]⟩ (fileY A)).1:=⟨_,rfl⟩
 obtain ⟨D2,h2⟩:∃ D2,D2=(writeD D1 ⟨#[98]⟩ (fileY B)).1:=⟨_,rfl⟩
 obtain ⟨D3,h3⟩:∃ D3,D3=(writeD D2 ⟨#[99]⟩ (fileY C)).1:=⟨_,rfl⟩
 obtain ⟨G1,hG1⟩:∃ G,G=getE (fileY A) (fileOf A) k seq:=⟨_,rfl⟩
 obtain ⟨G2,hG2⟩:∃ G,G=getE (fileY B) (fileOf B) k seq:=⟨_,rfl⟩
 obtain ⟨G3,hG3⟩:∃ G,G=getE (fileY C) (fileOf C) k seq:=⟨_,rfl⟩
 refine ⟨rfl,rfl,_,TSameF_chk L a k seq A (newD 4194304) D1 D2 D3 (fileOf A) (fileOf B) (fileOf C) (fileY A).length (fileY B).length (fileY C).length G1.1 G1.2.1 G2.1 G2.2.1 G3.1 G3.2.1,?_⟩
 have j1:∀ K:AE→St→Prop,K .ret ([(0,vb true)],[])→(TSameF_j1 L a k seq A (newD 4194304) D1 D2 D3 (fileOf A) (fileOf B) (fileOf C) (fileY A).length (fileY B).length (fileY C).length G1.1 G1.2.1 G2.1 G2.2.1 G3.1 G3.2.1 true).wp K:=fun K hK=>by
  unfold TSameF_j1
  exact wp_br (fun _=>wp_leaf rfl hK) (fun q=>by cases q)
 unfold TSameF
 refine wp_call gHeadF_eq (wp_call (gBigL_eq L) (wp_sp (fun _=>wp_join rfl (j1 _ (.p _))) (fun hb=>wp_sp (fun _=>wp_join rfl (j1 _ (.p _))) (fun hk=>wp_join rfl ?_))))
 have hk:=of_decide_eq_false hk
 have front:=law_some hL hb
 obtain ⟨b1,b2⟩:=bigE_false hb
 have hval:=some_val 30 (L:=L) (fun x hx=>(b2 x hx).2)
 rw[←hA] at front hval
 obtain ⟨s1,s2⟩:=front
 unfold TSameF_j1
 refine wp_br (fun q=>by cases q) (fun _=>wp_call s1 (wp_len (wp_sp (fun _=>wp_leaf rfl (.p _)) (fun hz=>?_))))
 have hz:=of_decide_eq_false hz
 have hne:A≠ []:=fun e=>by rw[e] at hz; exact hz (by decide)
 obtain ⟨hf,hlen⟩:=s2 hne
 have hfew:=hf.few
 have hm:0≤a % ((2 ^ 8:Nat):Int):=Int.emod_nonneg _ (by decide)
 have hx0:1≤x∧x<A.length:=by
  rw[hx,Int.tmod_eq_emod_of_nonneg hm]
  have e1:=Int.emod_nonneg (a % ((2 ^ 8:Nat):Int)) (b:=(A.length:Int) - 1) (by omega)
  have e2:=Int.emod_lt_of_pos (a % ((2 ^ 8:Nat):Int)) (b:=(A.length:Int) - 1) (by omega)
  omega
 have hBt:B=A.take x.toNat:=hB
 have hCt:C=A.drop x.toNat:=hC
 have lB:B.length=x.toNat:=by rw[hBt,List.length_take]; omega
 have lC:C.length=A.length - x.toNat:=by rw[hCt,List.length_drop]
 have fB:Fits B:=⟨hf.good.sub (by rw[hBt]; exact List.take_sublist _ _),fun e=>by rw[e] at lB; simp at lB; omega,by omega⟩
 have fC:Fits C:=⟨hf.good.sub (by rw[hCt]; exact List.drop_sublist _ _),fun e=>by rw[e] at lC; simp at lC; omega,by omega⟩
 have hBC:A=B++C:=by rw[hBt,hCt,List.take_append_drop]
 have yB:=fits_len fB (fun y hy=>hval y (by rw[hBC]; exact List.mem_append_left _ hy))
 have yC:=fits_len fC (fun y hy=>hval y (by rw[hBC]; exact List.mem_append_right _ hy))
 obtain ⟨a1,b1,c1,l1,l2,l3,⟨e1,g1⟩,⟨e2,g2⟩,⟨e3,g3⟩⟩:=three hl ⟨rfl,rfl⟩ (fun m=>cont_new _ m) hf fB fC hlen yB yC h1 h2 h3
 have cw1:=fun (Q:List Box) (hb:Q[0]? = some (dskB (newD 4194304)))=>oFWrite (b:=0) hl.ok hf (nm:=⟨#[97]⟩) (by decide) hb
 rw[a1,←h1] at cw1
 have cw2:=fun (Q:List Box) (hb:Q[0]? = some (dskB D1))=>oFWrite (b:=0) l1.ok fB (nm:=⟨#[98]⟩) (by decide) hb
 rw[b1,←h2] at cw2
 have cw3:=fun (Q:List Box) (hb:Q[0]? = some (dskB D2))=>oFWrite (b:=0) l2.ok fC (nm:=⟨#[99]⟩) (by decide) hb
 rw[c1,←h3] at cw3
 have co1:=fun (Q:List Box) (hb:Q[0]? = some (dskB D3))=>oFOpen (b:=0) (nm:=⟨#[97]⟩) l3.ok l3.up g1 (by rw[e1,openI_file hf]) hb
 rw[e1,openI_file hf] at co1
 have co2:=fun (Q:List Box) (hb:Q[0]? = some (dskB D3))=>oFOpen (b:=0) (nm:=⟨#[98]⟩) l3.ok l3.up g2 (by rw[e2,openI_file fB]) hb
 rw[e2,openI_file fB] at co2
 have co3:=fun (Q:List Box) (hb:Q[0]? = some (dskB D3))=>oFOpen (b:=0) (nm:=⟨#[99]⟩) l3.ok l3.up g3 (by rw[e3,openI_file fC]) hb
 rw[e3,openI_file fC] at co3
 have k1:=get_find hf k seq hs.1
 have k2:=get_find fB k seq hs.1
 have k3:=get_find fC k seq hs.1
 rw[←hG1,hBC,List.find?_append] at k1
 rw[←hG2] at k2
 rw[←hG3] at k3
 have z1:G1.2.2=0:=by rw[k1]; split <;> rfl
 have z2:G2.2.2=0:=by rw[k2]; split <;> rfl
 have z3:G3.2.2=0:=by rw[k3]; split <;> rfl
 have cg1:=fun (Q:List Box) (hb:Q[3]? = some (dskB D3)) (hq:Q[0]? = some (filC 3 ⟨#[97]⟩ (fileOf A)))=>oFGet (l:=0) (b:=3) (k:=k) (seq:=seq) l3.ok l3.up (fileOf_ok hf) (by omega) hs hb hq
 rw[e1,←hG1,z1] at cg1
 have cg2:=fun (Q:List Box) (hb:Q[3]? = some (dskB D3)) (hq:Q[1]? = some (filC 3 ⟨#[98]⟩ (fileOf B)))=>oFGet (l:=1) (b:=3) (k:=k) (seq:=seq) l3.ok l3.up (fileOf_ok fB) (by omega) hs hb hq
 rw[e2,←hG2,z2] at cg2
 have cg3:=fun (Q:List Box) (hb:Q[3]? = some (dskB D3)) (hq:Q[2]? = some (filC 3 ⟨#[99]⟩ (fileOf C)))=>oFGet (l:=2) (b:=3) (k:=k) (seq:=seq) l3.ok l3.up (fileOf_ok fC) (by omega) hs hb hq
 rw[e3,←hG3,z3] at cg3
 have hj2:(TSameF_j2 k seq D3 (fileOf A) (fileOf B) (fileOf C) G1.1 G1.2.1 G2.1 G2.2.1 G3.1 G3.2.1 false).wp (fun _ c=>Sealed (fun _=>True) c.2 (tk c.1 0) (vb true)):=by
  unfold TSameF_j2
  refine wp_br (fun q=>by cases q) (fun _=>wp_callr (cg1 _ rfl rfl) (wp_callr (cg2 _ rfl rfl) ?_))
  cases hq:B.find? (findP k seq) with
  | some y=>
   rw[hq] at k1 k2
   simp only[Option.some_or] at k1
   rw[k1,k2]
   refine wp_sp (fun _=>wp_sp (fun _=>wp_leaf rfl ?_) (fun q=>by simp at q)) (fun q=>by cases q)
   show Sealed _ _ (vb _) (vb true)
   rw[ent_eqb rfl]
   exact .p _
  | none=>
   rw[hq] at k1 k2
   simp only[Option.none_or] at k1
   have e:G1=G3:=k1.trans k3.symm
   rw[k2,e]
   have hj3:(TSameF_j3 seq G3.1 G3.2.1 G3.1 G3.2.1).wp (fun _ c=>Sealed (fun _=>True) c.2 (tk c.1 0) (vb true)):=by
    unfold TSameF_j3
    refine wp_sp (fun _=>wp_leaf rfl ?_) (fun q=>by simp at q)
    show Sealed _ _ (vb _) (vb true)
    rw[ent_eqb rfl]
    exact .p _
   refine wp_sp (fun q=>by cases q) (fun _=>wp_callr (cg3 _ rfl rfl) (wp_sp (fun q=>?_) (fun q=>?_)))
   ·rw[q] at hj3
    exact wp_join (by rfl) (by rw[q]; exact hj3)
   ·rw[q] at hj3
    exact wp_join (by rfl) (by rw[q]; exact hj3)
 have n0:(A.length:Int) - 1≠0:=by omega
 have hxe:1+Int.tmod (a % 256) ((A.length:Int) - 1)=x:=hx.symm
 refine wp_int (andI64 8 (by decide)) (wp_len (wp_i64 (by omega) (wp_val (rem_val n0) ?_)))
 rw[hxe,←hB,←hC]
 have hsum:(fileOf B).cnt+(fileOf C).cnt=(fileOf A).cnt:=by
  show (B.length:Int)+C.length=A.length
  omega
 have hcB:(fileOf B).cnt+(fileOf C).cnt=(A.length:Int):=hsum
 refine wp_i64 (by omega) ?_
 refine wp_callr (oNew 4194304) (wp_callr (cw1 _ rfl) (wp_cut (by simp only[cutOk]; omega) (wp_callr (cw2 _ rfl) (wp_cut (by simp only[cutOk]; omega) (wp_callr (cw3 _ rfl) (wp_callr (co1 _ rfl) (wp_callr (co2 _ rfl) (wp_callr (co3 _ rfl) ?_))))))))
 refine wp_callr (oFil (b:=0) (l:=2) rfl rfl rfl) (wp_callr (oFil (b:=0) (l:=3) rfl rfl rfl) (wp_i64 (by omega) (wp_callr (oFil (b:=0) (l:=1) rfl rfl rfl) (wp_sp (fun q=>absurd q (by rw[hsum]; simp)) (fun _=>wp_join rfl hj2))))))
end Go.Ax

namespace Go.Ax
open Go.Proofs Go.ChangeShapes Go.WideShapes Go.ChangeAt Go.RowKit
set_option maxRecDepth 100000

theorem tabRel {W:World} {g:Nat} {us:Array Value} {e:TypeId} {fr:Nat×Nat} (hh:W.heap[g]? = some (.cells us e fr)) (hu:us.toList.map PV.v=Glob.tab g):∀ ρ,GRel noF [] ρ W g:=fun ρ=>by
 have hl:(Glob.tab g).length=us.toList.length:=by rw[←hu]; simp
 refine ⟨.rp _ ⟨g,0,none⟩ us.toList rfl not_own (Array.getElem?_eq_some_iff.1 hh).1 hl (fun j u hj=>?_) (fun j p u hp hv=>?_),us,e,fr,hh,by rw[hl]; simp⟩
 ·rw[Addr.add_lit,Nat.zero_add,cell_of hh]
  simpa using hj
 ·rw[←hu,List.getElem?_map,hv] at hp
  cases hp
  exact .v _

theorem var_block {P:Program} {W:World} {n:String} {g:Nat} {cs:Array Value} (hg:P.globalNamed n=some g) (h:W.var? P n=some cs):∃ e fr,W.heap[g]? = some (.cells cs e fr):=by
 unfold World.var? at h
 rw[hg,Option.bind_some] at h
 split at h
 ·rename_i cs' e fr hc
  cases h
  exact ⟨e,fr,hc⟩
 ·cases h

abbrev laid1 : List (String × DataW Unit) := [("tailrace/crc.halves", YtbdfbdlfipcleaaDoor.Rows.laid_tailrace_crc_halves)]

theorem gHalves : DP.globalNamed "tailrace/crc.halves" = some 2 := by kernel_rfl
theorem tHalves:(DP.globals[2]?).map (·.type)=some 140:=by kernel_rfl

theorem globW_of {W:World} (h:laidMetH DP laid1 W):GlobW W:=by
 rw[MakeChecks.laidMetH_plain _ _ _ (by kernel_rfl)] at h
 obtain ⟨ps,⟨g3,t3,cs3,f3,p3,q3,hg3,ht3,hv3,hd3,_,_⟩,_⟩:=h
 obtain rfl:=Option.some.inj (gHalves.symm.trans hg3)
 obtain rfl:=Option.some.inj (tHalves.symm.trans ht3)
 have c3:=Lib.cells_of_tab (k:= .u32) (zs:=halvesL) (n:=16) (e:=94) (by kernel_rfl) (by kernel_rfl) (by kernel_rfl) (by kernel_rfl) hd3
 obtain ⟨e3,r3,b3⟩:=var_block hg3 hv3
 intro g hg
 match g with
 | 2=>exact tabRel b3 (by rw[c3]; rfl)
 | 0=>exact absurd rfl hg
 | 1=>exact absurd rfl hg
 | g+3=>exact absurd rfl hg

theorem door1 (os:Os) (args:Array Value):laidMetH DP laid1 ((World.doorLaid DP 65 os).forCall (fun _ _=>0) ⟨#[],args,[]⟩).memory:=
 laidMetH_of_parts3 (fuel:=8) (laidMet_of_run' 8 (by kernel_rfl) (by kernel_rfl)) (by kernel_rfl) (by kernel_rfl)

theorem i64_in {n:Int} (h:(Lit.int .i64 n).wf=true): -(2 ^ 63:Int)≤n∧n<2 ^ 63:=by
 simp only[Lit.wf,Bool.and_eq_true,decide_eq_true_eq] at h
 have h1:IntKind.i64.min= -9223372036854775808:=by decide
 have h2:IntKind.i64.max=9223372036854775807:=by decide
 omega
theorem u64_in {n:Int} (h:(Lit.int .u64 n).wf=true):0≤n∧n<18446744073709551616:=by
 simp only[Lit.wf,Bool.and_eq_true,decide_eq_true_eq] at h
 have h1:IntKind.u64.min=0:=by decide
 have h2:IntKind.u64.max=18446744073709551615:=by decide
 omega
section
variable {H : Type} {enc : TypeId × Value → H} {w : World} {base : Nat} {spare : Nat → Bool} {held : Bool} {O : Nat → Prop}
theorem in_ent (n:Nat) (cs':List Value) (y:DataW H×List MemPlace) (h:DataW.trod enc DP w base spare held n 52 cs'=some y):
  ∃ a:Ent,seqIn a∧cs'.length=4∧∀ (r:Nat) (p:PV) (u:Value),(entE.f a).cells[r]? = some p→cs'[r]? = some u→PRel O w p u:=by
 obtain ⟨xs,n,_,rfl,hl,hlen,hf⟩:=DataW.trod_struct Tryd.underlying52 h
 have hc:DP.cellsOf 52=4:=by kernel_rfl
 have c9:DP.cellsOf 9=1:=by kernel_rfl
 have c50:DP.cellsOf 50=1:=by kernel_rfl
 have c4:DP.cellsOf 4=1:=by kernel_rfl
 rw[hc] at hl
 have h0:DataW.trod enc DP w base spare held n 9 ((cs'.drop 0).take (DP.cellsOf 9))=xs[0]? := hf 0 _ rfl
 have h1:DataW.trod enc DP w base spare held n 50 ((cs'.drop 1).take (DP.cellsOf 50))=xs[1]? := hf 1 _ rfl
 have h2:DataW.trod enc DP w base spare held n 4 ((cs'.drop 2).take (DP.cellsOf 4))=xs[2]? := hf 2 _ rfl
 have h3:DataW.trod enc DP w base spare held n 9 ((cs'.drop 3).take (DP.cellsOf 9))=xs[3]? := hf 3 _ rfl
 rw[c9] at h0 h3
 rw[c50] at h1
 rw[c4] at h2
 match cs',hl,xs,hlen with
 | [v0,v1,v2,v3],_,[x0,x1,x2,x3],_=>
  obtain ⟨a,e0,_,_⟩:=DataW.trod_string Tryd.underlying9 h0
  obtain ⟨b,e1,_,hw⟩:=DataW.trod_int Tryd.underlying50 h1
  obtain ⟨c,e2,_⟩:=DataW.trod_bool Tryd.underlying4 h2
  obtain ⟨d,e3,_,_⟩:=DataW.trod_string Tryd.underlying9 h3
  simp at e0 e1 e2 e3
  subst e0 e1 e2 e3
  refine ⟨⟨a,b,c,d⟩,u64_in hw,rfl,fun r p u hp hu=>?_⟩
  match r with
  | 0=>cases hp; cases hu; exact .v _
  | 1=>cases hp; cases hu; exact .v _
  | 2=>cases hp; cases hu; exact .v _
  | 3=>cases hp; cases hu; exact .v _
  | r+4=>simp[entE,PV.cells] at hp
theorem in_ents (hO:∀ k,¬O k) {fuel:Nat} {v:Value} {x:DataW H×List MemPlace} (h:DataW.trod enc DP w base spare held fuel 42 [v]=some x):
  ∃ L:List Ent,(∀ a∈L,seqIn a)∧PRel O w (.ls (L.map entE.f)) v:=open_list hO Tryd.underlying42 entE.elt (by decide) (by kernel_rfl) (fun n cs' y hy=>in_ent n cs' y hy) h
end
end Go.Ax
