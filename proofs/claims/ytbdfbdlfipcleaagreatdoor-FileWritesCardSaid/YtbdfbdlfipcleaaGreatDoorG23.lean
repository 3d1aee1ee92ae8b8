/- Words for numbers, checks and records; what the model's words for numbers come to. -/
import Derived.Test.YtbdfbdlfipcleaaGreatDoorG20
set_option linter.unusedVariables false
set_option linter.unusedSimpArgs false
set_option linter.unusedSectionVars false
namespace Go.Ax
open Go.Proofs Go.RowKit
set_option maxRecDepth 100000

theorem wrapU {k:IntKind} (hk:k.signed=false) (z:Int):k.wrap z=z % 2 ^ k.bits:=by
 simp[IntKind.wrap,hk]
theorem wrap8 (z:Int):IntKind.u8.wrap z=z % 256:=wrapU rfl z
theorem wrap32 (z:Int):IntKind.u32.wrap z=z % 4294967296:=wrapU rfl z
theorem wrap64 (z:Int):IntKind.u64.wrap z=z % 18446744073709551616:=wrapU rfl z
theorem wrap32id {z:Int} (h:0≤z∧z<4294967296):IntKind.u32.wrap z=z:=by rw[wrap32]; omega
theorem wrap64id {z:Int} (h:0≤z∧z<18446744073709551616):IntKind.u64.wrap z=z:=by rw[wrap64]; omega

def xorI (a b:Int):Int:=((a.toNat ^^^ b.toNat:Nat):Int)
def orI (a b:Int):Int:=((a.toNat ||| b.toNat:Nat):Int)
def andI (a b:Int):Int:=((a.toNat &&& b.toNat:Nat):Int)

theorem ofIntN {n:Nat} {a:Int} (h0:0≤a) (h1:a.toNat<2 ^ n):(BitVec.ofInt n a).toNat=a.toNat:=by
 obtain ⟨m,rfl⟩:=Int.eq_ofNat_of_zero_le h0
 rw[BitVec.ofInt_natCast,BitVec.toNat_ofNat]
 exact Nat.mod_eq_of_lt h1
theorem xorU {k:IntKind} (hk:k.signed=false) {a b:Int} (ha:0≤a∧a.toNat<2 ^ k.bits) (hb:0≤b∧b.toNat<2 ^ k.bits):k.wrap ((BitVec.ofInt k.bits a ^^^ BitVec.ofInt k.bits b).toNat:Nat)=xorI a b:=by
 rw[wrapU hk,BitVec.toNat_xor,ofIntN ha.1 ha.2,ofIntN hb.1 hb.2]
 have:=Nat.xor_lt_two_pow ha.2 hb.2
 unfold xorI
 have h2:((2:Int) ^ k.bits)=((2 ^ k.bits:Nat):Int):=by simp
 rw[h2,←Int.natCast_emod,Nat.mod_eq_of_lt this]
theorem orU {k:IntKind} (hk:k.signed=false) {a b:Int} (ha:0≤a∧a.toNat<2 ^ k.bits) (hb:0≤b∧b.toNat<2 ^ k.bits):k.wrap ((BitVec.ofInt k.bits a ||| BitVec.ofInt k.bits b).toNat:Nat)=orI a b:=by
 rw[wrapU hk,BitVec.toNat_or,ofIntN ha.1 ha.2,ofIntN hb.1 hb.2]
 have:=Nat.or_lt_two_pow ha.2 hb.2
 unfold orI
 have h2:((2:Int) ^ k.bits)=((2 ^ k.bits:Nat):Int):=by simp
 rw[h2,←Int.natCast_emod,Nat.mod_eq_of_lt this]
theorem andU {k:IntKind} (hk:k.signed=false) {a b:Int} (ha:0≤a∧a.toNat<2 ^ k.bits) (hb:0≤b∧b.toNat<2 ^ k.bits):k.wrap ((BitVec.ofInt k.bits a &&& BitVec.ofInt k.bits b).toNat:Nat)=andI a b:=by
 rw[wrapU hk,BitVec.toNat_and,ofIntN ha.1 ha.2,ofIntN hb.1 hb.2]
 have:=Nat.and_lt_two_pow (y:=b.toNat) a.toNat hb.2
 unfold andI
 have h2:((2:Int) ^ k.bits)=((2 ^ k.bits:Nat):Int):=by simp
 rw[h2,←Int.natCast_emod,Nat.mod_eq_of_lt this]
theorem xor32 {a b:Int} (ha:0≤a∧a<4294967296) (hb:0≤b∧b<4294967296):IntKind.u32.wrap ((BitVec.ofInt IntKind.u32.bits a ^^^ BitVec.ofInt IntKind.u32.bits b).toNat)=xorI a b:=xorU rfl ⟨ha.1,by show a.toNat<4294967296; omega⟩ ⟨hb.1,by show b.toNat<4294967296; omega⟩
theorem or32 {a b:Int} (ha:0≤a∧a<4294967296) (hb:0≤b∧b<4294967296):IntKind.u32.wrap ((BitVec.ofInt IntKind.u32.bits a ||| BitVec.ofInt IntKind.u32.bits b).toNat)=orI a b:=orU rfl ⟨ha.1,by show a.toNat<4294967296; omega⟩ ⟨hb.1,by show b.toNat<4294967296; omega⟩
theorem or64 {a b:Int} (ha:0≤a∧a<18446744073709551616) (hb:0≤b∧b<18446744073709551616):IntKind.u64.wrap ((BitVec.ofInt IntKind.u64.bits a ||| BitVec.ofInt IntKind.u64.bits b).toNat)=orI a b:=orU rfl ⟨ha.1,by show a.toNat<18446744073709551616; omega⟩ ⟨hb.1,by show b.toNat<18446744073709551616; omega⟩
theorem or8 {a b:Int} (ha:0≤a∧a<256) (hb:0≤b∧b<256):IntKind.u8.wrap ((BitVec.ofInt IntKind.u8.bits a ||| BitVec.ofInt IntKind.u8.bits b).toNat)=orI a b:=orU rfl ⟨ha.1,by show a.toNat<256; omega⟩ ⟨hb.1,by show b.toNat<256; omega⟩
theorem andMod {k:IntKind} (hk:k.signed=false) {a:Int} {m:Nat} (hm:m≤k.bits) (ha:0≤a∧a.toNat<2 ^ k.bits):k.wrap ((BitVec.ofInt k.bits a &&& BitVec.ofInt k.bits ((2 ^ m - 1:Nat):Int)).toNat)=a % ((2 ^ m:Nat):Int):=by
 have h2:2 ^ m - 1<2 ^ k.bits:=Nat.lt_of_lt_of_le (Nat.sub_lt (Nat.two_pow_pos m) Nat.one_pos) (Nat.pow_le_pow_right (by decide) hm)
 rw[andU hk ha ⟨Int.natCast_nonneg _,by rw[Int.toNat_natCast]; exact h2⟩]
 unfold andI
 rw[Int.toNat_natCast,Nat.and_two_pow_sub_one_eq_mod]
 obtain ⟨n,rfl⟩:=Int.eq_ofNat_of_zero_le ha.1
 simp
theorem and15 {a:Int} (ha:0≤a∧a<4294967296):IntKind.u32.wrap ((BitVec.ofInt IntKind.u32.bits a &&& BitVec.ofInt IntKind.u32.bits 15).toNat)=a % 16:=andMod (k:= .u32) (m:=4) rfl (by decide) ⟨ha.1,by show a.toNat<4294967296; omega⟩
theorem and127 {a:Int} (ha:0≤a∧a<256):IntKind.u8.wrap ((BitVec.ofInt IntKind.u8.bits a &&& BitVec.ofInt IntKind.u8.bits 127).toNat)=a % 128:=andMod (k:= .u8) (m:=7) rfl (by decide) ⟨ha.1,by show a.toNat<256; omega⟩
theorem comp32 {a:Int} (ha:0≤a∧a<4294967296):IntKind.u32.wrap ((BitVec.ofInt IntKind.u32.bits IntKind.u32.max ^^^ BitVec.ofInt IntKind.u32.bits a).toNat)=4294967295 - a:=by
 rw[xor32 (by decide) ha]
 obtain ⟨n,rfl⟩:=Int.eq_ofNat_of_zero_le ha.1
 unfold xorI
 have hm:(IntKind.u32.max).toNat=2 ^ 32 - 1:=by decide
 rw[hm,Int.toNat_natCast,Nat.xor_comm]
 have h1:n<2 ^ 32:=by omega
 have h2:(~~~ (BitVec.ofNat 32 n)).toNat=2 ^ 32 - 1 - n:=by
  rw[BitVec.toNat_not,BitVec.toNat_ofNat,Nat.mod_eq_of_lt h1]
 have h3:n ^^^ (2 ^ 32 - 1)=2 ^ 32 - 1 - n:=by
  rw[←h2,BitVec.toNat_not,BitVec.toNat_ofNat,Nat.mod_eq_of_lt h1]
  apply Nat.eq_of_testBit_eq
  intro i
  rw[Nat.testBit_xor,Nat.testBit_two_pow_sub_one]
  have h4:=Nat.testBit_two_pow_sub_succ (x:=n) (n:=32) h1 i
  have h5:2 ^ 32 - (n+1)=2 ^ 32 - 1 - n:=by omega
  rw[h5] at h4
  rw[h4]
  by_cases hi:i<32
  ·simp[hi]
  ·simp only[hi,decide_false,Bool.false_and,Bool.xor_false]
   exact Nat.testBit_lt_two_pow (Nat.lt_of_lt_of_le h1 (Nat.pow_le_pow_right (by decide) (by omega)))
 rw[h3]
 omega
theorem fdivP {a:Int} (b:Int) (hb:0≤b):Int.fdiv a b=a / b:=Int.fdiv_eq_ediv_of_nonneg a hb
theorem shr4 (a:Int):Int.fdiv a (2 ^ 4)=a / 16:=fdivP 16 (by decide)
theorem shr7 (a:Int):Int.fdiv a (2 ^ 7)=a / 128:=fdivP 128 (by decide)
theorem shr8 (a:Int):Int.fdiv a (2 ^ 8)=a / 256:=fdivP 256 (by decide)
theorem shr15 (a:Int):Int.fdiv a (2 ^ 15)=a / 32768:=fdivP 32768 (by decide)
theorem xorI_b {a b:Int} {n:Nat} (ha:0≤a∧a.toNat<2 ^ n) (hb:0≤b∧b.toNat<2 ^ n):0≤xorI a b∧(xorI a b).toNat<2 ^ n:=
 ⟨Int.natCast_nonneg _,by unfold xorI; rw[Int.toNat_natCast]; exact Nat.xor_lt_two_pow ha.2 hb.2⟩
theorem xorI_32 {a b:Int} (ha:0≤a∧a<4294967296) (hb:0≤b∧b<4294967296):0≤xorI a b∧xorI a b<4294967296:=by
 have:=xorI_b (n:=32) ⟨ha.1,by show a.toNat<4294967296; omega⟩ ⟨hb.1,by show b.toNat<4294967296; omega⟩
 exact ⟨this.1,by have:=this.2; change _<4294967296 at this; omega⟩
def halvesL:List Int:= [0,274646895,549293790,820201905,1098587580,1361435347,1640403810,1905808397,2197175160,2460548119,2722870694,2987750089,3280807620,3553878443,3811616794,4084100981]
def hA (i:Int):Int:=(halvesL[i.toNat]?).getD 0
def hR (i:Int):List PV:=halvesP.drop (i.toNat+1)
def halfI (x:Int):Int:=xorI (x / 16) (hA (x % 16))
def stepI (r:Int) (c:UInt8):Int:=halfI (halfI (xorI r (c.toNat:Int)))
def moreI (s:Int) (b:List UInt8):Int:=4294967295 - b.foldl stepI (4294967295 - s)
def crcI (b:List UInt8):Int:=moreI 0 b
def maskI (s:Int):Int:=(orI (s / 32768) ((s*131072) % 4294967296)+2726488792) % 4294967296

theorem hA_b (i:Int):0≤hA i∧hA i<4294967296:=by
 unfold hA
 have:∀ x∈halvesL,0≤x∧x<4294967296:=by decide
 cases h:halvesL[i.toNat]? with
 | none=>exact ⟨Int.le_refl _,by decide⟩
 | some x=>exact this x (List.mem_of_getElem? h)
theorem halfI_b {x:Int} (h:0≤x∧x<4294967296):0≤halfI x∧halfI x<4294967296:=xorI_32 (by omega) (hA_b _)
theorem u8_b (c:UInt8):0≤(c.toNat:Int)∧(c.toNat:Int)<256:=by have:=c.toNat_lt; omega
theorem stepI_b {r:Int} (h:0≤r∧r<4294967296) (c:UInt8):0≤stepI r c∧stepI r c<4294967296:=halfI_b (halfI_b (xorI_32 h (by have:=u8_b c; omega)))
theorem fold_b {r:Int} (h:0≤r∧r<4294967296) (b:List UInt8):0≤b.foldl stepI r∧b.foldl stepI r<4294967296:=by
 induction b generalizing r with
 | nil=>exact h
 | cons c b ih=>exact ih (stepI_b h c)
theorem moreI_b {s:Int} (h:0≤s∧s<4294967296) (b:List UInt8):0≤moreI s b∧moreI s b<4294967296:=by
 have:=fold_b (r:=4294967295 - s) (by omega) b
 unfold moreI; omega
theorem crcI_b (b:List UInt8):0≤crcI b∧crcI b<4294967296:=moreI_b (by decide) b
theorem maskI_b (s:Int):0≤maskI s∧maskI s<4294967296:=by unfold maskI; omega

theorem tab_0:indexAddrA DP 159 (.rp halvesP) (vn .u32 0)=some (.rp (.v (.int .u32 (hA 0))::hR 0)):=by kernel_rfl
theorem tab_1:indexAddrA DP 159 (.rp halvesP) (vn .u32 1)=some (.rp (.v (.int .u32 (hA 1))::hR 1)):=by kernel_rfl
theorem tab_2:indexAddrA DP 159 (.rp halvesP) (vn .u32 2)=some (.rp (.v (.int .u32 (hA 2))::hR 2)):=by kernel_rfl
theorem tab_3:indexAddrA DP 159 (.rp halvesP) (vn .u32 3)=some (.rp (.v (.int .u32 (hA 3))::hR 3)):=by kernel_rfl
theorem tab_4:indexAddrA DP 159 (.rp halvesP) (vn .u32 4)=some (.rp (.v (.int .u32 (hA 4))::hR 4)):=by kernel_rfl
theorem tab_5:indexAddrA DP 159 (.rp halvesP) (vn .u32 5)=some (.rp (.v (.int .u32 (hA 5))::hR 5)):=by kernel_rfl
theorem tab_6:indexAddrA DP 159 (.rp halvesP) (vn .u32 6)=some (.rp (.v (.int .u32 (hA 6))::hR 6)):=by kernel_rfl
theorem tab_7:indexAddrA DP 159 (.rp halvesP) (vn .u32 7)=some (.rp (.v (.int .u32 (hA 7))::hR 7)):=by kernel_rfl
theorem tab_8:indexAddrA DP 159 (.rp halvesP) (vn .u32 8)=some (.rp (.v (.int .u32 (hA 8))::hR 8)):=by kernel_rfl
theorem tab_9:indexAddrA DP 159 (.rp halvesP) (vn .u32 9)=some (.rp (.v (.int .u32 (hA 9))::hR 9)):=by kernel_rfl
theorem tab_10:indexAddrA DP 159 (.rp halvesP) (vn .u32 10)=some (.rp (.v (.int .u32 (hA 10))::hR 10)):=by kernel_rfl
theorem tab_11:indexAddrA DP 159 (.rp halvesP) (vn .u32 11)=some (.rp (.v (.int .u32 (hA 11))::hR 11)):=by kernel_rfl
theorem tab_12:indexAddrA DP 159 (.rp halvesP) (vn .u32 12)=some (.rp (.v (.int .u32 (hA 12))::hR 12)):=by kernel_rfl
theorem tab_13:indexAddrA DP 159 (.rp halvesP) (vn .u32 13)=some (.rp (.v (.int .u32 (hA 13))::hR 13)):=by kernel_rfl
theorem tab_14:indexAddrA DP 159 (.rp halvesP) (vn .u32 14)=some (.rp (.v (.int .u32 (hA 14))::hR 14)):=by kernel_rfl
theorem tab_15:indexAddrA DP 159 (.rp halvesP) (vn .u32 15)=some (.rp (.v (.int .u32 (hA 15))::hR 15)):=by kernel_rfl
theorem table_at {i:Int} (h:0≤i∧i<16):indexAddrA DP 159 (.rp halvesP) (vn .u32 i)=some (.rp (.v (.int .u32 (hA i))::hR i)):=by
 have hn2:i=0∨i=1∨i=2∨i=3∨i=4∨i=5∨i=6∨i=7∨i=8∨i=9∨i=10∨i=11∨i=12∨i=13∨i=14∨i=15:=by omega
 rcases hn2 with rfl | rfl | rfl | rfl | rfl | rfl | rfl | rfl | rfl | rfl | rfl | rfl | rfl | rfl | rfl | rfl
 ·exact tab_0
 ·exact tab_1
 ·exact tab_2
 ·exact tab_3
 ·exact tab_4
 ·exact tab_5
 ·exact tab_6
 ·exact tab_7
 ·exact tab_8
 ·exact tab_9
 ·exact tab_10
 ·exact tab_11
 ·exact tab_12
 ·exact tab_13
 ·exact tab_14
 ·exact tab_15

def putN (n:Nat):List UInt8:=if h:n<128 then [UInt8.ofNat n] else UInt8.ofNat (n % 128+128)::putN (n / 128)
termination_by n
decreasing_by omega
def putI (n:Int):List UInt8:=putN n.toNat
def leN (n:Nat):Nat→List UInt8
 | 0=> []
 | k+1=>UInt8.ofNat (n % 256)::leN (n / 256) k
def leI (n k:Int):List UInt8:=leN n.toNat k.toNat
def numN:List UInt8→Nat
 | []=>0
 | c::r=>c.toNat+256*numN r
def littleI (b:List UInt8):Int:=numN (b.take 8)
def getA:Nat→Nat→List UInt8→Nat×Nat×Nat
 | _,_,[]=>(0,0,8)
 | i,a,c::r=>if i=9∧1<c.toNat then (0,0,2) else if c.toNat<128 then (if c.toNat=0∧0<i then (0,0,2) else (a+c.toNat*2 ^ (7*i),i+1,0)) else getA (i+1) (a+c.toNat % 128*2 ^ (7*i)) r
def getI (b:List UInt8):Int×Int×Int:=((getA 0 0 b).1,(getA 0 0 b).2.1,(getA 0 0 b).2.2)

def recB (d:List UInt8):List UInt8:=leI d.length 4++leI (maskI (crcI (leI d.length 4))) 4++leI (maskI (crcI d)) 4++d
def nextI (b:List UInt8):List UInt8×Int×Int:=
 if b.length<12 then ([],0,8) else
 if littleI ((b.take 8).drop 4) % 4294967296≠maskI (crcI (b.take 4))∨littleI (b.take 4)>1048576 then ([],0,12) else
 if (b.length:Int)<12+littleI (b.take 4) then ([],0,8) else
 if littleI ((b.take 12).drop 8) % 4294967296≠maskI (crcI ((b.take (12+littleI (b.take 4)).toNat).drop 12)) then ([],0,12) else
 ((b.take (12+littleI (b.take 4)).toNat).drop 12,12+littleI (b.take 4),0)
end Go.Ax

namespace Go.Ax
open Go.Proofs Go.RowKit
set_option maxRecDepth 100000

abbrev iPut:Nat:=25
noncomputable abbrev nPut:Func:=Tryz.f25
theorem hfPut:DP.funcs[iPut]? = some nPut:=by kernel_rfl
theorem hePut:enters DP iPut=true:=by kernel_rfl
theorem hbPut:nPut.body.isSome=true:=by kernel_rfl
theorem hnPut:nPut.ntmps=20:=by kernel_rfl
abbrev iLit:Nat:=62
noncomputable abbrev nLit:Func:=Tryz.f62
theorem hfLit:DP.funcs[iLit]? = some nLit:=by kernel_rfl
theorem heLit:enters DP iLit=true:=by kernel_rfl
theorem hbLit:nLit.body.isSome=true:=by kernel_rfl
theorem hnLit:nLit.ntmps=19:=by kernel_rfl
abbrev iPutL:Nat:=28
noncomputable abbrev nPutL:Func:=Tryz.f28
theorem hfPutL:DP.funcs[iPutL]? = some nPutL:=by kernel_rfl
theorem hePutL:enters DP iPutL=true:=by kernel_rfl
theorem hbPutL:nPutL.body.isSome=true:=by kernel_rfl
theorem hnPutL:nPutL.ntmps=13:=by kernel_rfl
abbrev iMore:Nat:=94
noncomputable abbrev nMore:Func:=Tryz.f94
theorem hfMore:DP.funcs[iMore]? = some nMore:=by kernel_rfl
theorem heMore:enters DP iMore=true:=by kernel_rfl
theorem hbMore:nMore.body.isSome=true:=by kernel_rfl
theorem hnMore:nMore.ntmps=37:=by kernel_rfl
abbrev iSum:Nat:=86
noncomputable abbrev nSum:Func:=Tryz.f86
theorem hfSum:DP.funcs[iSum]? = some nSum:=by kernel_rfl
theorem heSum:enters DP iSum=true:=by kernel_rfl
theorem hbSum:nSum.body.isSome=true:=by kernel_rfl
theorem hnSum:nSum.ntmps=5:=by kernel_rfl
abbrev iMask:Nat:=85
noncomputable abbrev nMask:Func:=Tryz.f85
theorem hfMask:DP.funcs[iMask]? = some nMask:=by kernel_rfl
theorem heMask:enters DP iMask=true:=by kernel_rfl
theorem hbMask:nMask.body.isSome=true:=by kernel_rfl
abbrev iLittle:Nat:=38
noncomputable abbrev nLittle:Func:=Tryz.f38
theorem hfLittle:DP.funcs[iLittle]? = some nLittle:=by kernel_rfl
theorem heLittle:enters DP iLittle=true:=by kernel_rfl
theorem hbLittle:nLittle.body.isSome=true:=by kernel_rfl
abbrev iGet:Nat:=78
noncomputable abbrev nGet:Func:=Tryz.f78
theorem hfGet:DP.funcs[iGet]? = some nGet:=by kernel_rfl
theorem heGet:enters DP iGet=true:=by kernel_rfl
theorem hbGet:nGet.body.isSome=true:=by kernel_rfl
noncomputable def TPut_n_l1_e (s1:(List UInt8)×Int):St:=([(0, .rs 0 0 1 0 s1.1.length),(1,vn .u64 s1.2)],[byteE.bx 0 s1.1])
noncomputable def TPut_n_l1_x (x1:Int×(List UInt8)):AE×St:=((.exit 0),([(0, .rs 0 0 1 0 x1.2.length),(1,vn .u64 x1.1)],[byteE.bx 0 x1.2]))
noncomputable def TPut_n_l1_b (s1:(List UInt8)×Int):Tree:=
.sp 6 (decide (s1.2≥(128:Int))) (
.int 9 (IntKind.u8.wrap s1.2) (s1.2 % 256) (.int 10 (IntKind.u8.wrap ((BitVec.ofInt IntKind.u8.bits (s1.2 % 256) ||| BitVec.ofInt IntKind.u8.bits 128).toNat)) (orI (s1.2 % 256) 128) (.app 12 (.row 1 ([vn .u8 (orI (s1.2 % 256) 128)])) s1.1.length (rowC (s1.1.map byteE.f)) byteE s1.1 ([(UInt8.ofNat (Int.toNat (orI (s1.2 % 256) 128)))]) (.int 14 (Int.fdiv s1.2 (2 ^ 7)) (s1.2 / 128) (.leaf ⟨[0,1],[(0,1,some ((s1.1++([(UInt8.ofNat (Int.toNat (orI (s1.2 % 256) 128)))])).map byteE.f))]⟩ [rowC ((s1.1++([(UInt8.ofNat (Int.toNat (orI (s1.2 % 256) 128)))])).map byteE.f)] .normal (some (TPut_n_l1_e (s1.1++([(UInt8.ofNat (Int.toNat (orI (s1.2 % 256) 128)))]),s1.2 / 128)))))))) (
.leaf ⟨[0,1],[(0,0,some (s1.1.map byteE.f))]⟩ [rowC (s1.1.map byteE.f)] (.exit 0) (some (TPut_n_l1_x (s1.2,s1.1)).2))
noncomputable def TPut_n (n:Int):Tree:=
.nilrow 0 1 (.loop ⟨[0,1],[(0,0,some (([]:List UInt8).map byteE.f))]⟩ [rowC (([]:List UInt8).map byteE.f)] (some (TPut_n_l1_e (([]:List UInt8),n))) (TPut_n_l1_e) (TPut_n_l1_x) noX (([]:List UInt8),n) (TPut_n_l1_b) (fun (x1:Int×(List UInt8))=> .int 17 (IntKind.u8.wrap x1.1) (x1.1 % 256) (.app 19 (.row 1 ([vn .u8 (x1.1 % 256)])) x1.2.length (rowC (x1.2.map byteE.f)) byteE x1.2 ([(UInt8.ofNat (Int.toNat (x1.1 % 256)))]) (.leaf ⟨[0],[(0,1,some ((x1.2++([(UInt8.ofNat (Int.toNat (x1.1 % 256)))])).map byteE.f))]⟩ [rowC ((x1.2++([(UInt8.ofNat (Int.toNat (x1.1 % 256)))])).map byteE.f)] .ret (some ([(0, .rs 0 0 1 0 ((x1.2++([(UInt8.ofNat (Int.toNat (x1.1 % 256)))])).length))],[byteE.bx 0 (x1.2++([(UInt8.ofNat (Int.toNat (x1.1 % 256)))]))]))))) (fun _=> .stuck))

theorem TPut_n_chk (n:Int):fnC DP Γ0 Δ0 Tryz.f25 [nilS,vn .u64 n] [] (TPut_n n)=TPut_n n:=by kernel_rfl

noncomputable def TLit_n_l1_e (k:Int) (s1:(List UInt8)×Int×Int):St:=([(0, .rs 0 0 1 0 s1.1.length),(1,vn .u64 s1.2.1),(7,vi k),(8,vi s1.2.2)],[byteE.bx 0 s1.1])
noncomputable def TLit_n_l1_x (x1:(List UInt8)):AE×St:=((.exit 0),([(0, .rs 0 0 1 0 x1.length)],[byteE.bx 0 x1]))
noncomputable def TLit_n_l1_b (k:Int) (s1:(List UInt8)×Int×Int):Tree:=
.sp 9 (decide (s1.2.2<k)) (
.int 12 (IntKind.u8.wrap s1.2.1) (s1.2.1 % 256) (.app 14 (.row 1 ([vn .u8 (s1.2.1 % 256)])) s1.1.length (rowC (s1.1.map byteE.f)) byteE s1.1 ([(UInt8.ofNat (Int.toNat (s1.2.1 % 256)))]) (.int 16 (Int.fdiv s1.2.1 (2 ^ 8)) (s1.2.1 / 256) (.int 17 (IntKind.i64.wrap (s1.2.2+1)) (s1.2.2+1) (.leaf ⟨[0,1,7,8],[(0,1,some ((s1.1++([(UInt8.ofNat (Int.toNat (s1.2.1 % 256)))])).map byteE.f))]⟩ [rowC ((s1.1++([(UInt8.ofNat (Int.toNat (s1.2.1 % 256)))])).map byteE.f)] .normal (some (TLit_n_l1_e k (s1.1++([(UInt8.ofNat (Int.toNat (s1.2.1 % 256)))]),s1.2.1 / 256,s1.2.2+1)))))))) (
.leaf ⟨[0],[(0,0,some (s1.1.map byteE.f))]⟩ [rowC (s1.1.map byteE.f)] (.exit 0) (some (TLit_n_l1_x s1.1).2))
noncomputable def TLit_n (n:Int) (k:Int):Tree:=
.nilrow 0 1 (.loop ⟨[0,1,7,8],[(0,0,some (([]:List UInt8).map byteE.f))]⟩ [rowC (([]:List UInt8).map byteE.f)] (some (TLit_n_l1_e k (([]:List UInt8),n,0))) (TLit_n_l1_e k) (TLit_n_l1_x) noX (([]:List UInt8),n,0) (TLit_n_l1_b k) (fun (x1:(List UInt8))=> .leaf ⟨[0],[(0,0,some (x1.map byteE.f))]⟩ [rowC (x1.map byteE.f)] .ret (some ([(0, .rs 0 0 1 0 x1.length)],[byteE.bx 0 x1]))) (fun _=> .stuck))

theorem TLit_n_chk (n:Int) (k:Int):fnC DP Γ0 Δ0 Tryz.f62 [nilS,vn .u64 n,vi k] [] (TLit_n n k)=TLit_n n k:=by kernel_rfl

noncomputable def TPut_r_l1_e (s1:(List UInt8)×Int):St:=([(0, .rs 1 0 1 0 s1.1.length),(1,vn .u64 s1.2)],[byteE.bx 1 ([]:List UInt8),byteE.bx 0 s1.1])
noncomputable def TPut_r_l1_x (x1:Int×(List UInt8)):AE×St:=((.exit 0),([(0, .rs 1 0 1 0 x1.2.length),(1,vn .u64 x1.1)],[byteE.bx 1 ([]:List UInt8),byteE.bx 0 x1.2]))
noncomputable def TPut_r_l1_b (s1:(List UInt8)×Int):Tree:=
.sp 6 (decide (s1.2≥(128:Int))) (
.int 9 (IntKind.u8.wrap s1.2) (s1.2 % 256) (.int 10 (IntKind.u8.wrap ((BitVec.ofInt IntKind.u8.bits (s1.2 % 256) ||| BitVec.ofInt IntKind.u8.bits 128).toNat)) (orI (s1.2 % 256) 128) (.app 12 (.row 1 ([vn .u8 (orI (s1.2 % 256) 128)])) s1.1.length (rowC (s1.1.map byteE.f)) byteE s1.1 ([(UInt8.ofNat (Int.toNat (orI (s1.2 % 256) 128)))]) (.int 14 (Int.fdiv s1.2 (2 ^ 7)) (s1.2 / 128) (.leaf ⟨[0,1],[(0,0,some (([]:List UInt8).map byteE.f)),(1,1,some ((s1.1++([(UInt8.ofNat (Int.toNat (orI (s1.2 % 256) 128)))])).map byteE.f))]⟩ [rowC (([]:List UInt8).map byteE.f),rowC ((s1.1++([(UInt8.ofNat (Int.toNat (orI (s1.2 % 256) 128)))])).map byteE.f)] .normal (some (TPut_r_l1_e (s1.1++([(UInt8.ofNat (Int.toNat (orI (s1.2 % 256) 128)))]),s1.2 / 128)))))))) (
.leaf ⟨[0,1],[(0,0,some (([]:List UInt8).map byteE.f)),(1,0,some (s1.1.map byteE.f))]⟩ [rowC (([]:List UInt8).map byteE.f),rowC (s1.1.map byteE.f)] (.exit 0) (some (TPut_r_l1_x (s1.2,s1.1)).2))
noncomputable def TPut_r (L:List UInt8) (n:Int):Tree:=
.mvrow 0 (.loop ⟨[0,1],[(0,0,some (([]:List UInt8).map byteE.f)),(1,0,some (L.map byteE.f))]⟩ [rowC (([]:List UInt8).map byteE.f),rowC (L.map byteE.f)] (some (TPut_r_l1_e (L,n))) (TPut_r_l1_e) (TPut_r_l1_x) noX (L,n) (TPut_r_l1_b) (fun (x1:Int×(List UInt8))=> .int 17 (IntKind.u8.wrap x1.1) (x1.1 % 256) (.app 19 (.row 1 ([vn .u8 (x1.1 % 256)])) x1.2.length (rowC (x1.2.map byteE.f)) byteE x1.2 ([(UInt8.ofNat (Int.toNat (x1.1 % 256)))]) (.leaf ⟨[0],[(0,0,some (([]:List UInt8).map byteE.f)),(1,1,some ((x1.2++([(UInt8.ofNat (Int.toNat (x1.1 % 256)))])).map byteE.f))]⟩ [rowC (([]:List UInt8).map byteE.f),rowC ((x1.2++([(UInt8.ofNat (Int.toNat (x1.1 % 256)))])).map byteE.f)] .ret (some ([(0, .rs 1 0 1 0 ((x1.2++([(UInt8.ofNat (Int.toNat (x1.1 % 256)))])).length))],[byteE.bx 1 ([]:List UInt8),byteE.bx 0 (x1.2++([(UInt8.ofNat (Int.toNat (x1.1 % 256)))]))]))))) (fun _=> .stuck))

theorem TPut_r_chk (L:List UInt8) (n:Int):fnC DP Γ0 Δ0 Tryz.f25 [.rs 0 0 1 0 L.length,vn .u64 n] [byteE.bx 0 L] (TPut_r L n)=TPut_r L n:=by kernel_rfl

noncomputable def TLit_r_l1_e (k:Int) (s1:(List UInt8)×Int×Int):St:=([(0, .rs 1 0 1 0 s1.1.length),(1,vn .u64 s1.2.1),(7,vi k),(8,vi s1.2.2)],[byteE.bx 1 ([]:List UInt8),byteE.bx 0 s1.1])
noncomputable def TLit_r_l1_x (x1:(List UInt8)):AE×St:=((.exit 0),([(0, .rs 1 0 1 0 x1.length)],[byteE.bx 1 ([]:List UInt8),byteE.bx 0 x1]))
noncomputable def TLit_r_l1_b (k:Int) (s1:(List UInt8)×Int×Int):Tree:=
.sp 9 (decide (s1.2.2<k)) (
.int 12 (IntKind.u8.wrap s1.2.1) (s1.2.1 % 256) (.app 14 (.row 1 ([vn .u8 (s1.2.1 % 256)])) s1.1.length (rowC (s1.1.map byteE.f)) byteE s1.1 ([(UInt8.ofNat (Int.toNat (s1.2.1 % 256)))]) (.int 16 (Int.fdiv s1.2.1 (2 ^ 8)) (s1.2.1 / 256) (.int 17 (IntKind.i64.wrap (s1.2.2+1)) (s1.2.2+1) (.leaf ⟨[0,1,7,8],[(0,0,some (([]:List UInt8).map byteE.f)),(1,1,some ((s1.1++([(UInt8.ofNat (Int.toNat (s1.2.1 % 256)))])).map byteE.f))]⟩ [rowC (([]:List UInt8).map byteE.f),rowC ((s1.1++([(UInt8.ofNat (Int.toNat (s1.2.1 % 256)))])).map byteE.f)] .normal (some (TLit_r_l1_e k (s1.1++([(UInt8.ofNat (Int.toNat (s1.2.1 % 256)))]),s1.2.1 / 256,s1.2.2+1)))))))) (
.leaf ⟨[0],[(0,0,some (([]:List UInt8).map byteE.f)),(1,0,some (s1.1.map byteE.f))]⟩ [rowC (([]:List UInt8).map byteE.f),rowC (s1.1.map byteE.f)] (.exit 0) (some (TLit_r_l1_x s1.1).2))
noncomputable def TLit_r (L:List UInt8) (n:Int) (k:Int):Tree:=
.mvrow 0 (.loop ⟨[0,1,7,8],[(0,0,some (([]:List UInt8).map byteE.f)),(1,0,some (L.map byteE.f))]⟩ [rowC (([]:List UInt8).map byteE.f),rowC (L.map byteE.f)] (some (TLit_r_l1_e k (L,n,0))) (TLit_r_l1_e k) (TLit_r_l1_x) noX (L,n,0) (TLit_r_l1_b k) (fun (x1:(List UInt8))=> .leaf ⟨[0],[(0,0,some (([]:List UInt8).map byteE.f)),(1,0,some (x1.map byteE.f))]⟩ [rowC (([]:List UInt8).map byteE.f),rowC (x1.map byteE.f)] .ret (some ([(0, .rs 1 0 1 0 x1.length)],[byteE.bx 1 ([]:List UInt8),byteE.bx 0 x1]))) (fun _=> .stuck))

theorem TLit_r_chk (L:List UInt8) (n:Int) (k:Int):fnC DP Γ0 Δ0 Tryz.f62 [.rs 0 0 1 0 L.length,vn .u64 n,vi k] [byteE.bx 0 L] (TLit_r L n k)=TLit_r L n k:=by kernel_rfl

noncomputable def TMore_l1_e (b:List UInt8) (s1:Int×Int):St:=([(5,vn .u32 s1.2),(10,vl (b.map byteE.f)),(11,vi (b.length:Int)),(12,vi s1.1)],[])
noncomputable def TMore_l1_x (x1:Int):AE×St:=((.exit 0),([(5,vn .u32 x1)],[]))
noncomputable def TMore_l1_b (b:List UInt8) (s1:Int×Int):Tree:=
.sp 13 (decide (s1.1<(b.length:Int))) (
.elem 14 (b.map byteE.f) byteE b s1.1 (fun e1=> .int 18 (IntKind.u32.wrap (e1.toNat:Int)) ((e1.toNat:Int)) (.int 19 (IntKind.u32.wrap ((BitVec.ofInt IntKind.u32.bits s1.2 ^^^ BitVec.ofInt IntKind.u32.bits (e1.toNat:Int)).toNat)) (xorI s1.2 (e1.toNat:Int)) (.int 21 (Int.fdiv (xorI s1.2 (e1.toNat:Int)) (2 ^ 4)) ((xorI s1.2 (e1.toNat:Int)) / 16) (.int 23 (IntKind.u32.wrap ((BitVec.ofInt IntKind.u32.bits (xorI s1.2 (e1.toNat:Int)) &&& BitVec.ofInt IntKind.u32.bits 15).toNat)) ((xorI s1.2 (e1.toNat:Int)) % 16) (.val (some 24) ((indexAddrA DP 159 (.rp halvesP) (vn .u32 ((xorI s1.2 (e1.toNat:Int)) % 16))).map (fun v=>(v,([]:List Box)))=some (.rp ((.v (.int .u32 (hA ((xorI s1.2 (e1.toNat:Int)) % 16))))::hR ((xorI s1.2 (e1.toNat:Int)) % 16)),[])) (.rp ((.v (.int .u32 (hA ((xorI s1.2 (e1.toNat:Int)) % 16))))::hR ((xorI s1.2 (e1.toNat:Int)) % 16))) [] (.int 26 (IntKind.u32.wrap ((BitVec.ofInt IntKind.u32.bits ((xorI s1.2 (e1.toNat:Int)) / 16) ^^^ BitVec.ofInt IntKind.u32.bits (hA ((xorI s1.2 (e1.toNat:Int)) % 16))).toNat)) (halfI (xorI s1.2 (e1.toNat:Int))) (.int 28 (Int.fdiv (halfI (xorI s1.2 (e1.toNat:Int))) (2 ^ 4)) ((halfI (xorI s1.2 (e1.toNat:Int))) / 16) (.int 30 (IntKind.u32.wrap ((BitVec.ofInt IntKind.u32.bits (halfI (xorI s1.2 (e1.toNat:Int))) &&& BitVec.ofInt IntKind.u32.bits 15).toNat)) ((halfI (xorI s1.2 (e1.toNat:Int))) % 16) (.val (some 31) ((indexAddrA DP 159 (.rp halvesP) (vn .u32 ((halfI (xorI s1.2 (e1.toNat:Int))) % 16))).map (fun v=>(v,([]:List Box)))=some (.rp ((.v (.int .u32 (hA ((halfI (xorI s1.2 (e1.toNat:Int))) % 16))))::hR ((halfI (xorI s1.2 (e1.toNat:Int))) % 16)),[])) (.rp ((.v (.int .u32 (hA ((halfI (xorI s1.2 (e1.toNat:Int))) % 16))))::hR ((halfI (xorI s1.2 (e1.toNat:Int))) % 16))) [] (.int 33 (IntKind.u32.wrap ((BitVec.ofInt IntKind.u32.bits ((halfI (xorI s1.2 (e1.toNat:Int))) / 16) ^^^ BitVec.ofInt IntKind.u32.bits (hA ((halfI (xorI s1.2 (e1.toNat:Int))) % 16))).toNat)) (halfI (halfI (xorI s1.2 (e1.toNat:Int)))) (.int 34 (IntKind.i64.wrap (s1.1+1)) (s1.1+1) (.leaf ⟨[5,10,11,12],[]⟩ [] .normal (some (TMore_l1_e b (s1.1+1,halfI (halfI (xorI s1.2 (e1.toNat:Int))))))))))))))))))) (
.leaf ⟨[5],[]⟩ [] (.exit 0) (some (TMore_l1_x s1.2).2))
noncomputable def TMore (s:Int) (b:List UInt8):Tree:=
.int 9 (IntKind.u32.wrap ((BitVec.ofInt IntKind.u32.bits IntKind.u32.max ^^^ BitVec.ofInt IntKind.u32.bits s).toNat)) (4294967295 - s) (.int 11 ((b.map byteE.f).length:Int) (b.length:Int) (.loop ⟨[5,10,11,12],[]⟩ [] (some (TMore_l1_e b (0,4294967295 - s))) (TMore_l1_e b) (TMore_l1_x) noX (0,4294967295 - s) (TMore_l1_b b) (fun (x1:Int)=> .int 36 (IntKind.u32.wrap ((BitVec.ofInt IntKind.u32.bits IntKind.u32.max ^^^ BitVec.ofInt IntKind.u32.bits x1).toNat)) (4294967295 - x1) (.leaf ⟨[0],[]⟩ [] .ret (some ([(0,vn .u32 (4294967295 - x1))],[])))) (fun _=> .stuck)))

theorem TMore_chk (s:Int) (b:List UInt8):fnC DP Γ0 Δ0 Tryz.f94 [vn .u32 s,vl (b.map byteE.f)] [] (TMore s b)=TMore s b:=by kernel_rfl

noncomputable def TMoreR_l1_e (L:List UInt8) (s1:Int×Int):St:=([(5,vn .u32 s1.2),(10, .rs 0 0 1 0 L.length),(11,vi ((L.length:Nat):Int)),(12,vi s1.1)],[byteE.bx 0 L])
noncomputable def TMoreR_l1_x (L:List UInt8) (x1:Int):AE×St:=((.exit 0),([(5,vn .u32 x1)],[byteE.bx 0 L]))
noncomputable def TMoreR_l1_b (L:List UInt8) (s1:Int×Int):Tree:=
.sp 13 (decide (s1.1<((L.length:Nat):Int))) (
.ridx 14 L.length s1.1 (.rload 15 (rowC (L.map byteE.f)) (0+Int.toNat s1.1*1) byteE L s1.1 0 (fun e1=> .int 18 (IntKind.u32.wrap (e1.toNat:Int)) ((e1.toNat:Int)) (.int 19 (IntKind.u32.wrap ((BitVec.ofInt IntKind.u32.bits s1.2 ^^^ BitVec.ofInt IntKind.u32.bits (e1.toNat:Int)).toNat)) (xorI s1.2 (e1.toNat:Int)) (.int 21 (Int.fdiv (xorI s1.2 (e1.toNat:Int)) (2 ^ 4)) ((xorI s1.2 (e1.toNat:Int)) / 16) (.int 23 (IntKind.u32.wrap ((BitVec.ofInt IntKind.u32.bits (xorI s1.2 (e1.toNat:Int)) &&& BitVec.ofInt IntKind.u32.bits 15).toNat)) ((xorI s1.2 (e1.toNat:Int)) % 16) (.val (some 24) ((indexAddrA DP 159 (.rp halvesP) (vn .u32 ((xorI s1.2 (e1.toNat:Int)) % 16))).map (fun v=>(v,([byteE.bx 0 L]:List Box)))=some (.rp ((.v (.int .u32 (hA ((xorI s1.2 (e1.toNat:Int)) % 16))))::hR ((xorI s1.2 (e1.toNat:Int)) % 16)),[byteE.bx 0 L])) (.rp ((.v (.int .u32 (hA ((xorI s1.2 (e1.toNat:Int)) % 16))))::hR ((xorI s1.2 (e1.toNat:Int)) % 16))) [byteE.bx 0 L] (.int 26 (IntKind.u32.wrap ((BitVec.ofInt IntKind.u32.bits ((xorI s1.2 (e1.toNat:Int)) / 16) ^^^ BitVec.ofInt IntKind.u32.bits (hA ((xorI s1.2 (e1.toNat:Int)) % 16))).toNat)) (halfI (xorI s1.2 (e1.toNat:Int))) (.int 28 (Int.fdiv (halfI (xorI s1.2 (e1.toNat:Int))) (2 ^ 4)) ((halfI (xorI s1.2 (e1.toNat:Int))) / 16) (.int 30 (IntKind.u32.wrap ((BitVec.ofInt IntKind.u32.bits (halfI (xorI s1.2 (e1.toNat:Int))) &&& BitVec.ofInt IntKind.u32.bits 15).toNat)) ((halfI (xorI s1.2 (e1.toNat:Int))) % 16) (.val (some 31) ((indexAddrA DP 159 (.rp halvesP) (vn .u32 ((halfI (xorI s1.2 (e1.toNat:Int))) % 16))).map (fun v=>(v,([byteE.bx 0 L]:List Box)))=some (.rp ((.v (.int .u32 (hA ((halfI (xorI s1.2 (e1.toNat:Int))) % 16))))::hR ((halfI (xorI s1.2 (e1.toNat:Int))) % 16)),[byteE.bx 0 L])) (.rp ((.v (.int .u32 (hA ((halfI (xorI s1.2 (e1.toNat:Int))) % 16))))::hR ((halfI (xorI s1.2 (e1.toNat:Int))) % 16))) [byteE.bx 0 L] (.int 33 (IntKind.u32.wrap ((BitVec.ofInt IntKind.u32.bits ((halfI (xorI s1.2 (e1.toNat:Int))) / 16) ^^^ BitVec.ofInt IntKind.u32.bits (hA ((halfI (xorI s1.2 (e1.toNat:Int))) % 16))).toNat)) (halfI (halfI (xorI s1.2 (e1.toNat:Int)))) (.int 34 (IntKind.i64.wrap (s1.1+1)) (s1.1+1) (.leaf ⟨[5,10,11,12],[(0,0,some (L.map byteE.f))]⟩ [rowC (L.map byteE.f)] .normal (some (TMoreR_l1_e L (s1.1+1,halfI (halfI (xorI s1.2 (e1.toNat:Int)))))))))))))))))))) (
.leaf ⟨[5],[(0,0,some (L.map byteE.f))]⟩ [rowC (L.map byteE.f)] (.exit 0) (some (TMoreR_l1_x L s1.2).2))
noncomputable def TMoreR (s:Int) (L:List UInt8):Tree:=
.int 9 (IntKind.u32.wrap ((BitVec.ofInt IntKind.u32.bits IntKind.u32.max ^^^ BitVec.ofInt IntKind.u32.bits s).toNat)) (4294967295 - s) (.loop ⟨[5,10,11,12],[(0,0,some (L.map byteE.f))]⟩ [rowC (L.map byteE.f)] (some (TMoreR_l1_e L (0,4294967295 - s))) (TMoreR_l1_e L) (TMoreR_l1_x L) noX (0,4294967295 - s) (TMoreR_l1_b L) (fun (x1:Int)=> .int 36 (IntKind.u32.wrap ((BitVec.ofInt IntKind.u32.bits IntKind.u32.max ^^^ BitVec.ofInt IntKind.u32.bits x1).toNat)) (4294967295 - x1) (.leaf ⟨[0],[(0,0,some (L.map byteE.f))]⟩ [rowC (L.map byteE.f)] .ret (some ([(0,vn .u32 (4294967295 - x1))],[byteE.bx 0 L])))) (fun _=> .stuck))

theorem TMoreR_chk (s:Int) (L:List UInt8):fnC DP Γ0 Δ0 Tryz.f94 [vn .u32 s, .rs 0 0 1 0 L.length] [byteE.bx 0 L] (TMoreR s L)=TMoreR s L:=by kernel_rfl

noncomputable def TMask (s:Int):Tree:=
.int 4 (Int.fdiv s (2 ^ 15)) (s / 32768) (.int 6 (IntKind.u32.wrap (s*2 ^ 17)) ((s*131072) % 4294967296) (.int 7 (IntKind.u32.wrap ((BitVec.ofInt IntKind.u32.bits (s / 32768) ||| BitVec.ofInt IntKind.u32.bits ((s*131072) % 4294967296)).toNat)) (orI (s / 32768) ((s*131072) % 4294967296)) (.int 8 (IntKind.u32.wrap ((orI (s / 32768) ((s*131072) % 4294967296))+2726488792)) (((orI (s / 32768) ((s*131072) % 4294967296))+2726488792) % 4294967296) (.leaf ⟨[0],[]⟩ [] .ret (some ([(0,vn .u32 (((orI (s / 32768) ((s*131072) % 4294967296))+2726488792) % 4294967296))],[]))))))

theorem TMask_chk (s:Int):fnC DP Γ0 Δ0 Tryz.f85 [vn .u32 s] [] (TMask s)=TMask s:=by kernel_rfl

noncomputable def TLittle_l1_e (b:List UInt8) (s1:Int×Int):St:=([(0,vl (b.map byteE.f)),(3,vn .u64 s1.1),(4,vi s1.2)],[])
noncomputable def TLittle_l1_x (x1:Int):AE×St:=((.exit 0),([(3,vn .u64 x1)],[]))
noncomputable def TLittle_l1_b (b:List UInt8) (s1:Int×Int):Tree:=
.sp 10 (decide (s1.2≥(0:Int))) (
.int 14 (IntKind.u64.wrap (s1.1*2 ^ 8)) ((s1.1*256) % 18446744073709551616) (.elem 17 (b.map byteE.f) byteE b s1.2 (fun e1=> .int 19 (IntKind.u64.wrap (e1.toNat:Int)) ((e1.toNat:Int)) (.int 20 (IntKind.u64.wrap ((BitVec.ofInt IntKind.u64.bits ((s1.1*256) % 18446744073709551616) ||| BitVec.ofInt IntKind.u64.bits (e1.toNat:Int)).toNat)) (orI ((s1.1*256) % 18446744073709551616) (e1.toNat:Int)) (.int 12 (IntKind.i64.wrap (s1.2 - 1)) (s1.2 - 1) (.leaf ⟨[0,3,4],[]⟩ [] .normal (some (TLittle_l1_e b (orI ((s1.1*256) % 18446744073709551616) (e1.toNat:Int),s1.2 - 1))))))))) (
.leaf ⟨[3],[]⟩ [] (.exit 0) (some (TLittle_l1_x s1.1).2))
noncomputable def TLittle (b:List UInt8):Tree:=
.int 6 ((b.map byteE.f).length:Int) (b.length:Int) (.int 8 (IntKind.i64.wrap ((if (8:Int)<((b.length:Int):Int) then (8:Int) else ((b.length:Int):Int)) - 1)) ((if (8:Int)<((b.length:Int):Int) then (8:Int) else ((b.length:Int):Int)) - 1) (.loop ⟨[0,3,4],[]⟩ [] (some (TLittle_l1_e b (0,(if (8:Int)<((b.length:Int):Int) then (8:Int) else ((b.length:Int):Int)) - 1))) (TLittle_l1_e b) (TLittle_l1_x) noX (0,(if (8:Int)<((b.length:Int):Int) then (8:Int) else ((b.length:Int):Int)) - 1) (TLittle_l1_b b) (fun (x1:Int)=> .leaf ⟨[0],[]⟩ [] .ret (some ([(0,vn .u64 x1)],[]))) (fun _=> .stuck)))

theorem TLittle_chk (b:List UInt8):fnC DP Γ0 Δ0 Tryz.f38 [vl (b.map byteE.f)] [] (TLittle b)=TLittle b:=by kernel_rfl

noncomputable def TGet_l1_e (b:List UInt8) (s1:Int×Int):St:=([(5,vn .u64 s1.2),(8,vl (b.map byteE.f)),(9,vi (b.length:Int)),(10,vi s1.1)],[])
noncomputable def TGet_l1_x (x1:Int×Int×Int):AE×St:=(.ret,([(2,vn .u64 x1.1),(3,vi x1.2.1),(4,vi x1.2.2)],[]))
noncomputable def TGet_l1_x' (y1:Unit):AE×St:=((.exit 0),([],[]))
noncomputable def TGet_l1_b (b:List UInt8) (s1:Int×Int):Tree:=
.sp 11 (decide (s1.1<(b.length:Int))) (
.elem 13 (b.map byteE.f) byteE b s1.1 (fun e1=> .sp 16 (s1.1 == (9:Int)) (
.sp 19 (decide ((e1.toNat:Int)>(1:Int))) (
.leaf ⟨[2,3,4],[]⟩ [] .ret (some (TGet_l1_x (0,0,2)).2)) (
.int 23 (IntKind.u8.wrap ((BitVec.ofInt IntKind.u8.bits (e1.toNat:Int) &&& BitVec.ofInt IntKind.u8.bits 127).toNat)) ((e1.toNat:Int) % 128) (.int 24 (IntKind.u64.wrap ((e1.toNat:Int) % 128)) ((e1.toNat:Int) % 128) (.int 26 (IntKind.i64.wrap (7*s1.1)) (7*s1.1) (.val (some 27) ((binA DP .shl 44 (vn .u64 ((e1.toNat:Int) % 128)) (vi (7*s1.1))).map (fun v=>(v,([]:List Box)))=some (vn .u64 (IntKind.u64.wrap (((e1.toNat:Int) % 128)*2 ^ (min (Int.toNat (7*s1.1)) 64))),[])) (vn .u64 (IntKind.u64.wrap (((e1.toNat:Int) % 128)*2 ^ (min (Int.toNat (7*s1.1)) 64)))) [] (.int 28 (IntKind.u64.wrap ((BitVec.ofInt IntKind.u64.bits s1.2 ||| BitVec.ofInt IntKind.u64.bits (IntKind.u64.wrap (((e1.toNat:Int) % 128)*2 ^ (min (Int.toNat (7*s1.1)) 64)))).toNat)) (orI s1.2 (IntKind.u64.wrap (((e1.toNat:Int) % 128)*2 ^ (min (Int.toNat (7*s1.1)) 64)))) (.sp 30 (decide ((e1.toNat:Int)<(128:Int))) (
.sp 32 ((e1.toNat:Int) == (0:Int)) (
.sp 35 (decide (s1.1>(0:Int))) (
.leaf ⟨[2,3,4],[]⟩ [] .ret (some (TGet_l1_x (0,0,2)).2)) (
.int 39 (IntKind.i64.wrap (s1.1+1)) (s1.1+1) (.leaf ⟨[2,3,4],[]⟩ [] .ret (some (TGet_l1_x (orI s1.2 (IntKind.u64.wrap (((e1.toNat:Int) % 128)*2 ^ (min (Int.toNat (7*s1.1)) 64))),s1.1+1,0)).2)))) (
.int 39 (IntKind.i64.wrap (s1.1+1)) (s1.1+1) (.leaf ⟨[2,3,4],[]⟩ [] .ret (some (TGet_l1_x (orI s1.2 (IntKind.u64.wrap (((e1.toNat:Int) % 128)*2 ^ (min (Int.toNat (7*s1.1)) 64))),s1.1+1,0)).2)))) (
.int 40 (IntKind.i64.wrap (s1.1+1)) (s1.1+1) (.leaf ⟨[5,8,9,10],[]⟩ [] .normal (some (TGet_l1_e b (s1.1+1,orI s1.2 (IntKind.u64.wrap (((e1.toNat:Int) % 128)*2 ^ (min (Int.toNat (7*s1.1)) 64))))))))))))))) (
.int 23 (IntKind.u8.wrap ((BitVec.ofInt IntKind.u8.bits (e1.toNat:Int) &&& BitVec.ofInt IntKind.u8.bits 127).toNat)) ((e1.toNat:Int) % 128) (.int 24 (IntKind.u64.wrap ((e1.toNat:Int) % 128)) ((e1.toNat:Int) % 128) (.int 26 (IntKind.i64.wrap (7*s1.1)) (7*s1.1) (.val (some 27) ((binA DP .shl 44 (vn .u64 ((e1.toNat:Int) % 128)) (vi (7*s1.1))).map (fun v=>(v,([]:List Box)))=some (vn .u64 (IntKind.u64.wrap (((e1.toNat:Int) % 128)*2 ^ (min (Int.toNat (7*s1.1)) 64))),[])) (vn .u64 (IntKind.u64.wrap (((e1.toNat:Int) % 128)*2 ^ (min (Int.toNat (7*s1.1)) 64)))) [] (.int 28 (IntKind.u64.wrap ((BitVec.ofInt IntKind.u64.bits s1.2 ||| BitVec.ofInt IntKind.u64.bits (IntKind.u64.wrap (((e1.toNat:Int) % 128)*2 ^ (min (Int.toNat (7*s1.1)) 64)))).toNat)) (orI s1.2 (IntKind.u64.wrap (((e1.toNat:Int) % 128)*2 ^ (min (Int.toNat (7*s1.1)) 64)))) (.sp 30 (decide ((e1.toNat:Int)<(128:Int))) (
.sp 32 ((e1.toNat:Int) == (0:Int)) (
.sp 35 (decide (s1.1>(0:Int))) (
.leaf ⟨[2,3,4],[]⟩ [] .ret (some (TGet_l1_x (0,0,2)).2)) (
.int 39 (IntKind.i64.wrap (s1.1+1)) (s1.1+1) (.leaf ⟨[2,3,4],[]⟩ [] .ret (some (TGet_l1_x (orI s1.2 (IntKind.u64.wrap (((e1.toNat:Int) % 128)*2 ^ (min (Int.toNat (7*s1.1)) 64))),s1.1+1,0)).2)))) (
.int 39 (IntKind.i64.wrap (s1.1+1)) (s1.1+1) (.leaf ⟨[2,3,4],[]⟩ [] .ret (some (TGet_l1_x (orI s1.2 (IntKind.u64.wrap (((e1.toNat:Int) % 128)*2 ^ (min (Int.toNat (7*s1.1)) 64))),s1.1+1,0)).2)))) (
.int 40 (IntKind.i64.wrap (s1.1+1)) (s1.1+1) (.leaf ⟨[5,8,9,10],[]⟩ [] .normal (some (TGet_l1_e b (s1.1+1,orI s1.2 (IntKind.u64.wrap (((e1.toNat:Int) % 128)*2 ^ (min (Int.toNat (7*s1.1)) 64)))))))))))))))) (
.leaf ⟨[],[]⟩ [] (.exit 0) (some (TGet_l1_x' ()).2))
noncomputable def TGet (b:List UInt8):Tree:=
.int 9 ((b.map byteE.f).length:Int) (b.length:Int) (.loop ⟨[5,8,9,10],[]⟩ [] (some (TGet_l1_e b (0,0))) (TGet_l1_e b) (TGet_l1_x) (TGet_l1_x') (0,0) (TGet_l1_b b) (fun (x1:Int×Int×Int)=> .leaf ⟨[0],[]⟩ [] .ret (some ([(0, .tup [vn .u64 x1.1,vi x1.2.1,vi x1.2.2])],[]))) (fun (y1:Unit)=> .leaf ⟨[0],[]⟩ [] .ret (some ([(0, .tup [vn .u64 0,vi 0,vi 8])],[]))))

theorem TGet_chk (b:List UInt8):fnC DP Γ0 Δ0 Tryz.f78 [vl (b.map byteE.f)] [] (TGet b)=TGet b:=by kernel_rfl

end Go.Ax
