/- Trees, printed by gen/w1.py. -/
import Derived.Test.YtjlipmcdnigfcaaDoorG23
import Derived.Test.YtjlipmcdnigfcaaDoorG22
import Derived.WalkKit
import Derived.ProofKit
import Derived.OwnWalk
import Derived.Lib.Walk
set_option linter.unusedVariables false
set_option linter.unusedSimpArgs false
set_option linter.unusedSectionVars false
namespace Go.Ax
open Go.Proofs Go.RowKit
set_option maxRecDepth 100000

abbrev iRPut:Nat:=58
noncomputable abbrev nRPut:Func:=Tryd.f58
theorem hfRPut:DP.funcs[iRPut]? = some nRPut:=by kernel_rfl
theorem heRPut:enters DP iRPut=true:=by kernel_rfl
theorem hbRPut:nRPut.body.isSome=true:=by kernel_rfl
theorem hnRPut:nRPut.ntmps=35:=by kernel_rfl
abbrev iNext:Nat:=79
noncomputable abbrev nNext:Func:=Tryd.f79
theorem hfNext:DP.funcs[iNext]? = some nNext:=by kernel_rfl
theorem heNext:enters DP iNext=true:=by kernel_rfl
theorem hbNext:nNext.body.isSome=true:=by kernel_rfl
abbrev iAll:Nat:=50
noncomputable abbrev nAll:Func:=Tryd.f50
theorem hfAll:DP.funcs[iAll]? = some nAll:=by kernel_rfl
theorem heAll:enters DP iAll=true:=by kernel_rfl
theorem hbAll:nAll.body.isSome=true:=by kernel_rfl
abbrev iHeadW:Nat:=59
noncomputable abbrev nHeadW:Func:=Tryd.f59
theorem hfHeadW:DP.funcs[iHeadW]? = some nHeadW:=by kernel_rfl
theorem heHeadW:enters DP iHeadW=true:=by kernel_rfl
theorem hbHeadW:nHeadW.body.isSome=true:=by kernel_rfl
abbrev iParse:Nat:=57
noncomputable abbrev nParse:Func:=Tryd.f57
theorem hfParse:DP.funcs[iParse]? = some nParse:=by kernel_rfl
theorem heParse:enters DP iParse=true:=by kernel_rfl
theorem hbParse:nParse.body.isSome=true:=by kernel_rfl
noncomputable def TRPut (data:List UInt8):Tree:=
.int 8 ((data.map byteE.f).length:Int) (data.length:Int) (.sp 9 (decide ((data.length:Int)>(1048576:Int))) (
.leaf ⟨[0],[]⟩ [] .ret (some ([(0, .tup [nilS,vi 6])],[]))) (
.int 15 ((data.map byteE.f).length:Int) (data.length:Int) (.int 16 (IntKind.u64.wrap ((data.length:Int))) ((data.length:Int)) (.callr (some 17) (Δ2 87 [nilS,vn .u64 (data.length:Int),vi 4] [] (.rs 0 0 1 0 ((leI (data.length:Int) 4).length)) [byteE.bx 0 (leI (data.length:Int) 4)]) (.rs 0 0 1 0 ((leI (data.length:Int) 4).length)) [byteE.bx 0 (leI (data.length:Int) 4)] (.rcut 21 ((leI (data.length:Int) 4).length) (some 0) none (.callr (some 22) (Δ2 89 [.rs 0 0 1 (0+loN (some 0)*1) (hiN none ((leI (data.length:Int) 4).length) - loN (some 0))] [byteE.bx 0 (leI (data.length:Int) 4)] (vn .u32 (crcI (leI (data.length:Int) 4))) [byteE.bx 0 (leI (data.length:Int) 4)]) (vn .u32 (crcI (leI (data.length:Int) 4))) [byteE.bx 0 (leI (data.length:Int) 4)] (.call 23 (gMask [vn .u32 (crcI (leI (data.length:Int) 4))]=some (vn .u32 (maskI (crcI (leI (data.length:Int) 4))))) (vn .u32 (maskI (crcI (leI (data.length:Int) 4)))) (.int 24 (IntKind.u64.wrap (maskI (crcI (leI (data.length:Int) 4)))) ((maskI (crcI (leI (data.length:Int) 4)))) (.callr (some 25) (Δ2 87 [.rs 0 0 1 0 ((leI (data.length:Int) 4).length),vn .u64 (maskI (crcI (leI (data.length:Int) 4))),vi 4] [byteE.bx 0 (leI (data.length:Int) 4)] (.rs 1 0 1 0 (((leI (data.length:Int) 4)++leI (maskI (crcI (leI (data.length:Int) 4))) 4).length)) [byteE.bx 1 ([]:List UInt8),byteE.bx 0 ((leI (data.length:Int) 4)++leI (maskI (crcI (leI (data.length:Int) 4))) 4)]) (.rs 1 0 1 0 (((leI (data.length:Int) 4)++leI (maskI (crcI (leI (data.length:Int) 4))) 4).length)) [byteE.bx 1 ([]:List UInt8),byteE.bx 0 ((leI (data.length:Int) 4)++leI (maskI (crcI (leI (data.length:Int) 4))) 4)] (.call 28 (gSum [vl (data.map byteE.f)]=some (vn .u32 (crcI data))) (vn .u32 (crcI data)) (.call 29 (gMask [vn .u32 (crcI data)]=some (vn .u32 (maskI (crcI data)))) (vn .u32 (maskI (crcI data))) (.int 30 (IntKind.u64.wrap (maskI (crcI data))) ((maskI (crcI data))) (.callr (some 31) (Δ2 87 [.rs 1 0 1 0 (((leI (data.length:Int) 4)++leI (maskI (crcI (leI (data.length:Int) 4))) 4).length),vn .u64 (maskI (crcI data)),vi 4] [byteE.bx 1 ([]:List UInt8),byteE.bx 0 ((leI (data.length:Int) 4)++leI (maskI (crcI (leI (data.length:Int) 4))) 4)] (.rs 2 0 1 0 ((((leI (data.length:Int) 4)++leI (maskI (crcI (leI (data.length:Int) 4))) 4)++leI (maskI (crcI data)) 4).length)) [byteE.bx 1 ([]:List UInt8),byteE.bx 1 ([]:List UInt8),byteE.bx 0 (((leI (data.length:Int) 4)++leI (maskI (crcI (leI (data.length:Int) 4))) 4)++leI (maskI (crcI data)) 4)]) (.rs 2 0 1 0 ((((leI (data.length:Int) 4)++leI (maskI (crcI (leI (data.length:Int) 4))) 4)++leI (maskI (crcI data)) 4).length)) [byteE.bx 1 ([]:List UInt8),byteE.bx 1 ([]:List UInt8),byteE.bx 0 (((leI (data.length:Int) 4)++leI (maskI (crcI (leI (data.length:Int) 4))) 4)++leI (maskI (crcI data)) 4)] (.app 34 (.ls (data.map byteE.f)) ((((leI (data.length:Int) 4)++leI (maskI (crcI (leI (data.length:Int) 4))) 4)++leI (maskI (crcI data)) 4).length) (rowC ((((leI (data.length:Int) 4)++leI (maskI (crcI (leI (data.length:Int) 4))) 4)++leI (maskI (crcI data)) 4).map byteE.f)) byteE (((leI (data.length:Int) 4)++leI (maskI (crcI (leI (data.length:Int) 4))) 4)++leI (maskI (crcI data)) 4) data (.leaf ⟨[0],[(2,1,some (((((leI (data.length:Int) 4)++leI (maskI (crcI (leI (data.length:Int) 4))) 4)++leI (maskI (crcI data)) 4)++data).map byteE.f))]⟩ [rowC (((((leI (data.length:Int) 4)++leI (maskI (crcI (leI (data.length:Int) 4))) 4)++leI (maskI (crcI data)) 4)++data).map byteE.f)] .ret (some ([(0, .tup [.rs 0 0 1 0 (((((leI (data.length:Int) 4)++leI (maskI (crcI (leI (data.length:Int) 4))) 4)++leI (maskI (crcI data)) 4)++data).length),vi 0])],[byteE.bx 0 ((((leI (data.length:Int) 4)++leI (maskI (crcI (leI (data.length:Int) 4))) 4)++leI (maskI (crcI data)) 4)++data)])))))))))))))))))

theorem TRPut_chk (data:List UInt8):fnC DP Γ2 Δ2 Tryd.f58 [nilS,vl (data.map byteE.f)] [] (TRPut data)=TRPut data:=by kernel_rfl

noncomputable def TNext (b:List UInt8):Tree:=
.int 8 ((b.map byteE.f).length:Int) (b.length:Int) (.sp 9 (decide ((b.length:Int)<(12:Int))) (
.leaf ⟨[0],[]⟩ [] .ret (some ([(0, .tup [nilS,vi 0,vi 8])],[]))) (
.cut 11 (b.map byteE.f) none (some 4) byteE b (.call 12 (gLittle [vl ((cutL none (some 4) b).map byteE.f)]=some (vn .u64 (littleI (cutL none (some 4) b)))) (vn .u64 (littleI (cutL none (some 4) b))) (.cut 14 (b.map byteE.f) (some 4) (some 8) byteE b (.call 15 (gLittle [vl ((cutL (some 4) (some 8) b).map byteE.f)]=some (vn .u64 (littleI (cutL (some 4) (some 8) b)))) (vn .u64 (littleI (cutL (some 4) (some 8) b))) (.int 16 (IntKind.u32.wrap (littleI (cutL (some 4) (some 8) b))) ((littleI (cutL (some 4) (some 8) b)) % 4294967296) (.cut 18 (b.map byteE.f) none (some 4) byteE b (.call 19 (gSum [vl ((cutL none (some 4) b).map byteE.f)]=some (vn .u32 (crcI (cutL none (some 4) b)))) (vn .u32 (crcI (cutL none (some 4) b))) (.call 20 (gMask [vn .u32 (crcI (cutL none (some 4) b))]=some (vn .u32 (maskI (crcI (cutL none (some 4) b))))) (vn .u32 (maskI (crcI (cutL none (some 4) b)))) (.sp 21 (((littleI (cutL (some 4) (some 8) b)) % 4294967296) != (maskI (crcI (cutL none (some 4) b)))) (
.leaf ⟨[0],[]⟩ [] .ret (some ([(0, .tup [nilS,vi 0,vi 12])],[]))) (
.sp 24 (decide ((littleI (cutL none (some 4) b))>(1048576:Int))) (
.leaf ⟨[0],[]⟩ [] .ret (some ([(0, .tup [nilS,vi 0,vi 12])],[]))) (
.int 27 ((b.map byteE.f).length:Int) (b.length:Int) (.int 28 (IntKind.u64.wrap ((b.length:Int))) ((b.length:Int)) (.int 30 (IntKind.u64.wrap (12+(littleI (cutL none (some 4) b)))) (12+(littleI (cutL none (some 4) b))) (.sp 31 (decide ((b.length:Int)<(12+(littleI (cutL none (some 4) b))))) (
.leaf ⟨[0],[]⟩ [] .ret (some ([(0, .tup [nilS,vi 0,vi 8])],[]))) (
.int 34 (IntKind.u64.wrap (12+(littleI (cutL none (some 4) b)))) (12+(littleI (cutL none (some 4) b))) (.cut 35 (b.map byteE.f) (some 12) (some (12+(littleI (cutL none (some 4) b)))) byteE b (.cut 37 (b.map byteE.f) (some 8) (some 12) byteE b (.call 38 (gLittle [vl ((cutL (some 8) (some 12) b).map byteE.f)]=some (vn .u64 (littleI (cutL (some 8) (some 12) b)))) (vn .u64 (littleI (cutL (some 8) (some 12) b))) (.int 39 (IntKind.u32.wrap (littleI (cutL (some 8) (some 12) b))) ((littleI (cutL (some 8) (some 12) b)) % 4294967296) (.call 41 (gSum [vl ((cutL (some 12) (some (12+(littleI (cutL none (some 4) b)))) b).map byteE.f)]=some (vn .u32 (crcI (cutL (some 12) (some (12+(littleI (cutL none (some 4) b)))) b)))) (vn .u32 (crcI (cutL (some 12) (some (12+(littleI (cutL none (some 4) b)))) b))) (.call 42 (gMask [vn .u32 (crcI (cutL (some 12) (some (12+(littleI (cutL none (some 4) b)))) b))]=some (vn .u32 (maskI (crcI (cutL (some 12) (some (12+(littleI (cutL none (some 4) b)))) b))))) (vn .u32 (maskI (crcI (cutL (some 12) (some (12+(littleI (cutL none (some 4) b)))) b)))) (.sp 43 (((littleI (cutL (some 8) (some 12) b)) % 4294967296) != (maskI (crcI (cutL (some 12) (some (12+(littleI (cutL none (some 4) b)))) b)))) (
.leaf ⟨[0],[]⟩ [] .ret (some ([(0, .tup [nilS,vi 0,vi 12])],[]))) (
.appn 45 (.ls ((cutL (some 12) (some (12+(littleI (cutL none (some 4) b)))) b).map byteE.f)) byteE (cutL (some 12) (some (12+(littleI (cutL none (some 4) b)))) b) (.int 47 (IntKind.i64.wrap ((littleI (cutL none (some 4) b)))) ((littleI (cutL none (some 4) b))) (.int 48 (IntKind.i64.wrap (12+(littleI (cutL none (some 4) b)))) (12+(littleI (cutL none (some 4) b))) (.leaf ⟨[0],[(0,0,some ((cutL (some 12) (some (12+(littleI (cutL none (some 4) b)))) b).map byteE.f))]⟩ [rowC ((cutL (some 12) (some (12+(littleI (cutL none (some 4) b)))) b).map byteE.f)] .ret (some ([(0, .tup [.rs 0 0 1 0 ((cutL (some 12) (some (12+(littleI (cutL none (some 4) b)))) b).length),vi (12+(littleI (cutL none (some 4) b))),vi 0])],[byteE.bx 0 (cutL (some 12) (some (12+(littleI (cutL none (some 4) b)))) b)])))))))))))))))))))))))))))))

theorem TNext_chk (b:List UInt8):fnC DP Γ2 Δ2 Tryd.f79 [vl (b.map byteE.f)] [] (TNext b)=TNext b:=by kernel_rfl

noncomputable def THeadW (n:Int):Tree:=
.int 4 (IntKind.u64.wrap (n)) (n) (.callr (some 5) (Δ2 40 [nilS,vn .u64 n] [] (.rs 0 0 1 0 ((putI n).length)) [byteE.bx 0 (putI n)]) (.rs 0 0 1 0 ((putI n).length)) [byteE.bx 0 (putI n)] (.leaf ⟨[0],[(0,0,some ((putI n).map byteE.f))]⟩ [rowC ((putI n).map byteE.f)] .ret (some ([(0, .rs 0 0 1 0 ((putI n).length))],[byteE.bx 0 (putI n)]))))

theorem THeadW_chk (n:Int):fnC DP Γ2 Δ2 Tryd.f59 [vi n] [] (THeadW n)=THeadW n:=by kernel_rfl

noncomputable def TParse (all:List (List UInt8)):Tree:=
.int 9 ((all.map bytesE.f).length:Int) (all.length:Int) (.sp 10 ((all.length:Int) == (0:Int)) (
.leaf ⟨[0],[]⟩ [] .ret (some ([(0, .tup [vi 0,vb false,vi 0])],[]))) (
.elem 13 (all.map bytesE.f) bytesE all 0 (fun e1=> .call 15 (gGet [vl (e1.map byteE.f)]=some (.tup [vn .u64 ((getI e1).1),vi ((getI e1).2.1),vi ((getI e1).2.2)])) (.tup [vn .u64 ((getI e1).1),vi ((getI e1).2.1),vi ((getI e1).2.2)]) (.sp 20 (((getI e1).2.2) != (0:Int)) (
.leaf ⟨[0],[]⟩ [] .ret (some ([(0, .tup [vi 0,vb false,vi 12])],[]))) (
.elemk 24 (all.map bytesE.f) bytesE all 0 e1 (.int 26 ((e1.map byteE.f).length:Int) (e1.length:Int) (.sp 27 (((getI e1).2.1) != (e1.length:Int)) (
.leaf ⟨[0],[]⟩ [] .ret (some ([(0, .tup [vi 0,vb false,vi 12])],[]))) (
.sp 31 (decide (((getI e1).1)>(67108864:Int))) (
.leaf ⟨[0],[]⟩ [] .ret (some ([(0, .tup [vi 0,vb false,vi 12])],[]))) (
.int 34 (IntKind.i64.wrap ((getI e1).1)) ((getI e1).1) (.leaf ⟨[0],[]⟩ [] .ret (some ([(0, .tup [vi ((getI e1).1),vb true,vi 0])],[]))))))))))))

theorem TParse_chk (all:List (List UInt8)):fnC DP Γ2 Δ2 Tryd.f57 [vl (all.map bytesE.f)] [] (TParse all)=TParse all:=by kernel_rfl

end Go.Ax

namespace Go.Ax
open Go.Proofs Go.RowKit
set_option maxRecDepth 100000

theorem recB_len (d:List UInt8):(recB d).length=d.length+12:=by
 simp only[recB,List.length_append,leI_len]; omega

theorem wp_rcut {d len:Nat} {lo hi:Option Int} {k:Tree} {K:AE→St→Prop} (h0:cutOk lo hi len) (h:k.wp K):(Tree.rcut d len lo hi k).wp K:=⟨h0,h⟩

def ORPut:RSpec:=fun args B r B'=>∃ d:List UInt8,d.length≤1000000000∧args= [nilS,vl (d.map byteE.f)]∧B= [] ∧
 ((1048576<d.length∧r= .tup [nilS,vi 6]∧B'= [])∨(d.length≤1048576∧r= .tup [.rs 0 0 1 0 (recB d).length,vi 0]∧B'= [byteE.bx 0 (recB d)]))
theorem SRPut:SoundR DP iRPut ORPut:=sound_genT mixedD Γ2_ok Δ2_ok hfRPut heRPut hbRPut (by
 rintro args B r B' ⟨d,hd,rfl,rfl,⟨h1,rfl,rfl⟩ | ⟨h1,rfl,rfl⟩⟩
 ·refine ⟨by rw[hnRPut]; rfl,_,TRPut_chk d,?_⟩
  unfold TRPut
  exact wp_len (wp_sp (fun _=>wp_leaf rfl ⟨rfl,rfl⟩) (fun h=>absurd (of_decide_eq_false h) (by omega)))
 ·refine ⟨by rw[hnRPut]; rfl,_,TRPut_chk d,?_⟩
  unfold TRPut
  have hc:=crcI_b (leI (d.length:Int) 4)
  have hm:=maskI_b (crcI (leI (d.length:Int) 4))
  have hc2:=crcI_b d
  have hm2:=maskI_b (crcI d)
  have e1:(leI (d.length:Int) 4).length=4:=leI_len _ _
  have e2:(leI (d.length:Int) 4++leI (maskI (crcI (leI (d.length:Int) 4))) 4).length=8:=by rw[List.length_append,leI_len,leI_len]; rfl
  have e3:(leI (d.length:Int) 4++leI (maskI (crcI (leI (d.length:Int) 4))) 4++leI (maskI (crcI d)) 4).length=12:=by rw[List.length_append,e2,leI_len]; rfl
  refine wp_len (wp_sp (fun h=>absurd (of_decide_eq_true h) (by omega)) (fun _=>wp_len (wp_int (wrap64id (by omega)) (wp_callr (cPutL_n (by omega)) (wp_rcut (by simp only[cutOk]; omega) ?_)))))
  refine wp_callr (cSumR rfl (by omega)) (wp_call (gMask_eq hc) (wp_int (wrap64id (by omega)) (wp_callr (cPutL_r (by omega) rfl (by omega)) ?_)))
  refine wp_call (gSum_eq hd) (wp_call (gMask_eq hc2) (wp_int (wrap64id (by omega)) (wp_callr (cPutL_r (by omega) rfl (by omega)) ?_)))
  exact wp_app rfl rfl (by rw[List.length_append,e3]; omega) (wp_leaf rfl ⟨rfl,rfl⟩))

def RNext:List AV→AV→Prop:=fun args r=>∃ (b:List UInt8),b.length≤1000000000∧args= [vl (b.map byteE.f)]∧r= .tup [vl ((nextI b).1.map byteE.f),vi (nextI b).2.1,vi (nextI b).2.2]
noncomputable def gNext:=relG RNext
theorem gNext_eq {b:List UInt8} (hb:b.length≤1000000000):gNext [vl (b.map byteE.f)]=some (.tup [vl ((nextI b).1.map byteE.f),vi (nextI b).2.1,vi (nextI b).2.2]):=
 relG_eq (fun args r r' ⟨b1,_,h1,h2⟩ ⟨b2,_,h3,h4⟩=>by
  rw[h2,h4,vl_inj' (one_arg (h1.symm.trans h3))]) ⟨b,hb,rfl,rfl⟩
theorem littleI_b (b:List UInt8):0≤littleI b∧littleI b<18446744073709551616:=by
 unfold littleI
 have h1:=numN_lt (b.take 8)
 have h2:256 ^ (b.take 8).length≤256 ^ 8:=Nat.pow_le_pow_right (by decide) (by simp; omega)
 omega
theorem seal_nil3 {S:Nat→Prop} {B:List Box} {n e:Int} {d:List UInt8} (h:d= []):Sealed S B (.tup [nilS,vi n,vi e]) (.tup [vl (d.map byteE.f),vi n,vi e]):=by
 subst h
 refine .tup _ _ rfl fun j c d hc hd=>?_
 match j with
 | 0=>cases hc; cases hd; exact .nil
 | 1=>cases hc; cases hd; exact .p _
 | 2=>cases hc; cases hd; exact .p _
 | j+3=>simp at hc
theorem seal_row3 {α:Type} {E:Enc α} {B:List Box} {v:Nat} {d:List α} {n e:Int} (hb:B[0]? = some (E.bx v d)):Sealed (fun _=>True) B (.tup [.rs 0 v E.sz 0 d.length,vi n,vi e]) (.tup [vl (d.map E.f),vi n,vi e]):=by
 refine .tup _ _ rfl fun j c d' hc hd=>?_
 match j with
 | 0=>cases hc; cases hd; exact E.elt.sealed trivial hb
 | 1=>cases hc; cases hd; exact .p _
 | 2=>cases hc; cases hd; exact .p _
 | j+3=>simp at hc
theorem nextI_cut (b:List UInt8):nextI b = 
 if b.length<12 then ([],0,8) else
 if littleI (cutL (some 4) (some 8) b) % 4294967296≠maskI (crcI (cutL none (some 4) b))∨littleI (cutL none (some 4) b)>1048576 then ([],0,12) else
 if (b.length:Int)<12+littleI (cutL none (some 4) b) then ([],0,8) else
 if littleI (cutL (some 8) (some 12) b) % 4294967296≠maskI (crcI (cutL (some 12) (some (12+littleI (cutL none (some 4) b))) b)) then ([],0,12) else
 (cutL (some 12) (some (12+littleI (cutL none (some 4) b))) b,12+littleI (cutL none (some 4) b),0):=rfl
theorem SNext:SoundF DP iNext (.pure gNext):=sound_pureT mixedD Γ2_ok Δ2_ok hfNext heNext hbNext (by
 rintro args r ⟨b,hb,rfl,rfl⟩
 refine ⟨rfl,rfl,_,TNext_chk b,?_⟩
 unfold TNext
 refine wp_len (wp_sp (fun h=>wp_leaf rfl ?_) (fun h=>?_))
 ·have h:=of_decide_eq_true h
  have e:nextI b=([],0,8):=if_pos (by omega)
  rw[e]; exact seal_nil3 rfl
 have h:=of_decide_eq_false h
 have h12:12≤b.length:=by omega
 have hl4:(cutL none (some 4) b).length≤1000000000:=by show (b.take 4).length≤_; simp; omega
 have hl48:(cutL (some 4) (some 8) b).length≤1000000000:=by show ((b.take 8).drop 4).length≤_; simp; omega
 have hl812:(cutL (some 8) (some 12) b).length≤1000000000:=by show ((b.take 12).drop 8).length≤_; simp; omega
 have hn:=littleI_b (cutL none (some 4) b)
 refine wp_cut (by simp only[cutOk]; omega) (wp_call (gLittle_eq hl4) (wp_cut (by simp only[cutOk]; omega) (wp_call (gLittle_eq hl48) (wp_int (wrap32 _) (wp_cut (by simp only[cutOk]; omega) (wp_call (gSum_eq hl4) (wp_call (gMask_eq (crcI_b _)) (wp_sp (fun h=>wp_leaf rfl ?_) (fun h1=>wp_sp (fun h=>wp_leaf rfl ?_) (fun h2=>?_))))))))))
 ·have e:nextI b=([],0,12):=by
   rw[nextI_cut,if_neg (by omega),if_pos (.inl (by simpa using h))]
  rw[e]; exact seal_nil3 rfl
 ·have e:nextI b=([],0,12):=by
   rw[nextI_cut,if_neg (by omega),if_pos (.inr (of_decide_eq_true h))]
  rw[e]; exact seal_nil3 rfl
 have h2:=of_decide_eq_false h2
 have hno:¬(littleI (cutL (some 4) (some 8) b) % 4294967296≠maskI (crcI (cutL none (some 4) b))∨littleI (cutL none (some 4) b)>1048576):=by
  rintro (h | h)
  ·exact h (by simpa using h1)
  ·exact h2 h
 refine wp_len (wp_int (wrap64id (by omega)) (wp_int (wrap64id (by omega)) (wp_sp (fun h=>wp_leaf rfl ?_) (fun h3=>?_))))
 ·have e:nextI b=([],0,8):=by
   rw[nextI_cut,if_neg (by omega),if_neg hno,if_pos (of_decide_eq_true h)]
  rw[e]; exact seal_nil3 rfl
 have h3:=of_decide_eq_false h3
 have hld:(cutL (some 12) (some (12+littleI (cutL none (some 4) b))) b).length≤1048576:=by
  show ((b.take (12+littleI (cutL none (some 4) b)).toNat).drop 12).length≤_
  rw[List.length_drop,List.length_take]; omega
 refine wp_int (wrap64id (by omega)) (wp_cut (by simp only[cutOk]; omega) (wp_cut (by simp only[cutOk]; omega) (wp_call (gLittle_eq hl812) (wp_int (wrap32 _) (wp_call (gSum_eq (by omega)) (wp_call (gMask_eq (crcI_b _)) (wp_sp (fun h=>wp_leaf rfl ?_) (fun h4=>wp_appn rfl (by omega) (wp_i64 (by omega) (wp_i64 (by omega) (wp_leaf rfl ?_)))))))))))
 ·have e:nextI b=([],0,12):=by
   rw[nextI_cut,if_neg (by omega),if_neg hno,if_neg h3,if_pos (by simpa using h)]
  rw[e]; exact seal_nil3 rfl
 ·have e:nextI b=(cutL (some 12) (some (12+littleI (cutL none (some 4) b))) b,12+littleI (cutL none (some 4) b),0):=by
   rw[nextI_cut,if_neg (by omega),if_neg hno,if_neg h3,if_neg (by intro hx; exact hx (by simpa using h4))]
  rw[e]; exact seal_row3 (E:=byteE) rfl)

def RHeadW:List AV→AV→Prop:=fun args r=>∃ (n:Int),(0≤n∧n<9223372036854775808)∧args= [vi n]∧r=vl ((putI n).map byteE.f)
noncomputable def gHeadW:=relG RHeadW
theorem SHeadW:SoundF DP iHeadW (.pure gHeadW):=sound_pureT mixedD Γ2_ok Δ2_ok hfHeadW heHeadW hbHeadW (by
 rintro args r ⟨n,hn,rfl,rfl⟩
 refine ⟨rfl,rfl,_,THeadW_chk n,?_⟩
 unfold THeadW
 exact wp_int (wrap64id (by omega)) (wp_callr (oPut_n (by omega)) (wp_leaf rfl (byteE.elt.sealed trivial rfl))))
theorem gHeadW_eq {n:Int} (hn:0≤n∧n<9223372036854775808):gHeadW [vi n]=some (vl ((putI n).map byteE.f)):=
 relG_eq (fun args r r' ⟨n1,_,h1,h2⟩ ⟨n2,_,h3,h4⟩=>by
  rw[h2,h4,vn_inj' (one_arg (h1.symm.trans h3))]) ⟨n,hn,rfl,rfl⟩

def parseI (all:List (List UInt8)):Int×Bool×Int:=match all with
 | []=>(0,false,0)
 | x::_=>if (getI x).2.2≠0∨(getI x).2.1≠x.length∨(getI x).1>67108864 then (0,false,12) else ((getI x).1,true,0)
def RParse:List AV→AV→Prop:=fun args r=>∃ (all:List (List UInt8)),all.length≤1000000000∧(∀ x∈all,x.length≤1000000000)∧args= [vl (all.map bytesE.f)]∧r= .tup [vi (parseI all).1,vb (parseI all).2.1,vi (parseI all).2.2]
noncomputable def gParse:=relG RParse
theorem gParse_eq {all:List (List UInt8)} (h1:all.length≤1000000000) (h2:∀ x∈all,x.length≤1000000000):gParse [vl (all.map bytesE.f)]=some (.tup [vi (parseI all).1,vb (parseI all).2.1,vi (parseI all).2.2]):=
 relG_eq (fun args r r' ⟨b1,_,_,h1,h2⟩ ⟨b2,_,_,h3,h4⟩=>by
  rw[h2,h4,vll_inj (one_arg (h1.symm.trans h3))]) ⟨all,h1,h2,rfl,rfl⟩
theorem SParse:SoundF DP iParse (.pure gParse):=sound_pureT mixedD Γ2_ok Δ2_ok hfParse heParse hbParse (by
 rintro args r ⟨all,hl,hx,rfl,rfl⟩
 refine ⟨rfl,rfl,_,TParse_chk all,?_⟩
 unfold TParse
 cases all with
 | nil=>exact wp_len (wp_sp (fun _=>wp_leaf rfl (seal_tup rfl rfl)) (fun h=>absurd h (by simp)))
 | cons x r=>
  have hxl:=hx x (by simp)
  have hg:0≤(getI x).1:=Int.natCast_nonneg _
  refine wp_len (wp_sp (fun h=>absurd h (by simp; omega)) (fun _=>wp_elem x (by decide) rfl (wp_call (gGet_eq hxl) (wp_sp (fun h=>wp_leaf rfl (seal_tup ?_ rfl)) (fun h1=>wp_elemk (by decide) rfl (wp_len (wp_sp (fun h=>wp_leaf rfl (seal_tup ?_ rfl)) (fun h2=>wp_sp (fun h=>wp_leaf rfl (seal_tup ?_ rfl)) (fun h3=>wp_i64 ?_ (wp_leaf rfl (seal_tup ?_ rfl)))))))))))
  ·rw[parseI,if_pos (.inl (by simpa using h))]
  ·rw[parseI,if_pos (.inr (.inl (by simpa using h)))]
  ·rw[parseI,if_pos (.inr (.inr (of_decide_eq_true h)))]
  ·have:=of_decide_eq_false h3; omega
  ·rw[parseI,if_neg]
   rintro (h | h | h)
   ·exact h (by simpa using h1)
   ·exact h (by simpa using h2)
   ·exact of_decide_eq_false h3 h)

noncomputable def Γ3:Env:=envP [(iNext,gNext)]
theorem Γ3_ok:∀ f,SoundF DP f (Γ3 f):=envP_cons SNext envP_nil

end Go.Ax

namespace Go.Ax
open Go.Proofs Go.RowKit
set_option maxRecDepth 100000

noncomputable def TAll_l1_e (b:List UInt8) (s1:(List (List UInt8))×Int):St:=([(0,vl (b.map byteE.f)),(5, .rs 0 0 1 0 s1.1.length),(6,vi s1.2)],[bytesE.bx 0 s1.1])
noncomputable def TAll_l1_x (x1:Int×(List (List UInt8))):AE×St:=((.exit 0),([(5, .rs 0 0 1 0 x1.2.length),(6,vi x1.1)],[bytesE.bx 0 x1.2]))
noncomputable def TAll_l1_x' (y1:Int×Int×(List (List UInt8))):AE×St:=(.ret,([(2, .rs 0 0 1 0 y1.2.2.length),(3,vi y1.1),(4,vi y1.2.1)],[bytesE.bx 0 y1.2.2]))
noncomputable def TAll_l1_b (b:List UInt8) (s1:(List (List UInt8))×Int):Tree:=
.int 12 ((b.map byteE.f).length:Int) (b.length:Int) (.sp 13 (decide (s1.2<(b.length:Int))) (
.cut 17 (b.map byteE.f) (some s1.2) none byteE b (.call 18 (gNext [vl ((cutL (some s1.2) none b).map byteE.f)]=some (.tup [vl (((nextI (cutL (some s1.2) none b)).1).map byteE.f),vi ((nextI (cutL (some s1.2) none b)).2.1),vi ((nextI (cutL (some s1.2) none b)).2.2)])) (.tup [vl (((nextI (cutL (some s1.2) none b)).1).map byteE.f),vi ((nextI (cutL (some s1.2) none b)).2.1),vi ((nextI (cutL (some s1.2) none b)).2.2)]) (.sp 23 (((nextI (cutL (some s1.2) none b)).2.2) == (8:Int)) (
.leaf ⟨[5,6],[(0,0,some (s1.1.map bytesE.f))]⟩ [rowC (s1.1.map bytesE.f)] (.exit 0) (some (TAll_l1_x (s1.2,s1.1)).2)) (
.sp 25 (((nextI (cutL (some s1.2) none b)).2.2) != (0:Int)) (
.leaf ⟨[2,3,4],[(0,0,some (s1.1.map bytesE.f))]⟩ [rowC (s1.1.map bytesE.f)] .ret (some (TAll_l1_x' (s1.2,(nextI (cutL (some s1.2) none b)).2.2,s1.1)).2)) (
.app 32 (.row 1 ([vl (((nextI (cutL (some s1.2) none b)).1).map byteE.f)])) s1.1.length (rowC (s1.1.map bytesE.f)) bytesE s1.1 ([(nextI (cutL (some s1.2) none b)).1]) (.int 35 (IntKind.i64.wrap (s1.2+((nextI (cutL (some s1.2) none b)).2.1))) (s1.2+((nextI (cutL (some s1.2) none b)).2.1)) (.leaf ⟨[0,5,6],[(0,1,some ((s1.1++([(nextI (cutL (some s1.2) none b)).1])).map bytesE.f))]⟩ [rowC ((s1.1++([(nextI (cutL (some s1.2) none b)).1])).map bytesE.f)] .normal (some (TAll_l1_e b (s1.1++([(nextI (cutL (some s1.2) none b)).1]),s1.2+((nextI (cutL (some s1.2) none b)).2.1))))))))))) (
.leaf ⟨[5,6],[(0,0,some (s1.1.map bytesE.f))]⟩ [rowC (s1.1.map bytesE.f)] (.exit 0) (some (TAll_l1_x (s1.2,s1.1)).2)))
noncomputable def TAll (b:List UInt8):Tree:=
.nilrow 5 1 (.loop ⟨[0,5,6],[(0,0,some (([]:List (List UInt8)).map bytesE.f))]⟩ [rowC (([]:List (List UInt8)).map bytesE.f)] (some (TAll_l1_e b (([]:List (List UInt8)),0))) (TAll_l1_e b) (TAll_l1_x) (TAll_l1_x') (([]:List (List UInt8)),0) (TAll_l1_b b) (fun (x1:Int×(List (List UInt8)))=> .leaf ⟨[0],[(0,0,some (x1.2.map bytesE.f))]⟩ [rowC (x1.2.map bytesE.f)] .ret (some ([(0, .tup [.rs 0 0 1 0 x1.2.length,vi x1.1,vi 0])],[bytesE.bx 0 x1.2]))) (fun (y1:Int×Int×(List (List UInt8)))=> .leaf ⟨[0],[(0,0,some (y1.2.2.map bytesE.f))]⟩ [rowC (y1.2.2.map bytesE.f)] .ret (some ([(0, .tup [.rs 0 0 1 0 y1.2.2.length,vi y1.1,vi y1.2.1])],[bytesE.bx 0 y1.2.2]))))

theorem TAll_chk (b:List UInt8):fnC DP Γ3 Δ0 Tryd.f50 [vl (b.map byteE.f)] [] (TAll b)=TAll b:=by kernel_rfl

end Go.Ax

namespace Go.Ax
open Go.Proofs Go.RowKit
set_option maxRecDepth 100000

theorem nextI_ok {b:List UInt8} (h:(nextI b).2.2=0):12≤(nextI b).2.1∧(nextI b).2.1≤b.length∧(nextI b).1.length+12=(nextI b).2.1.toNat∧(nextI b).1.length≤1048576:=by
 have hn:=littleI_b (b.take 4)
 revert h
 unfold nextI
 split
 ·intro h; exact absurd h (by decide)
 split
 ·intro h; exact absurd h (by decide)
 rename_i h2
 split
 ·intro h; exact absurd h (by decide)
 rename_i h3
 split
 ·intro h; exact absurd h (by decide)
 ·intro _
  have h5:¬littleI (b.take 4)>1048576:=fun h=>h2 (.inr h)
  simp only[List.length_drop,List.length_take]
  omega
theorem nextI_e (b:List UInt8):(nextI b).2.2=0∨(nextI b).2.2=8∨(nextI b).2.2=12:=by
 unfold nextI
 split
 ·exact .inr (.inl rfl)
 split
 ·exact .inr (.inr rfl)
 split
 ·exact .inr (.inl rfl)
 split
 ·exact .inr (.inr rfl)
 ·exact .inl rfl

theorem allA_facts (b:List UInt8):∀ (f at_:Nat) (out:List (List UInt8)),at_≤b.length→out.length≤at_→(∀ x∈out,x.length≤1048576) →
  (0≤(allA f b at_ out).2.1∧(allA f b at_ out).2.1≤b.length)∧((allA f b at_ out).1.length:Int)≤(allA f b at_ out).2.1∧(∀ x∈(allA f b at_ out).1,x.length≤1048576)∧((allA f b at_ out).2.2=0∨(allA f b at_ out).2.2=12)
 | 0,at_,out,h1,h2,h3=>⟨⟨by simp only[allA]; omega,by simp only[allA]; omega⟩,by simp only[allA]; omega,h3, .inl rfl⟩
 | f+1,at_,out,h1,h2,h3=>by
  unfold allA
  split
  ·exact ⟨⟨by simp only; omega,by simp only; omega⟩,by simp only; omega,h3, .inl rfl⟩
  split
  ·exact ⟨⟨by simp only; omega,by simp only; omega⟩,by simp only; omega,h3, .inl rfl⟩
  rename_i h8
  split
  ·rename_i h0
   refine ⟨⟨by simp only; omega,by simp only; omega⟩,by simp only; omega,h3, .inr ?_⟩
   rcases nextI_e (b.drop at_) with h | h | h
   ·exact absurd h h0
   ·exact absurd h h8
   ·exact h
  ·rename_i h0
   obtain ⟨n1,n2,n3,n4⟩:=nextI_ok (Classical.byContradiction h0)
   rw[List.length_drop] at n2
   refine allA_facts b f _ _ (by omega) (by simp only[List.length_append,List.length_singleton]; omega) (fun x hx=>?_)
   rcases List.mem_append.1 hx with hx | hx
   ·exact h3 x hx
   ·rw[List.mem_singleton.1 hx]; exact n4

theorem all_rounds (b:List UInt8) (hb:b.length≤1000000000):∀ (f at_:Nat) (out:List (List UInt8)),b.length≤at_+f→at_≤b.length→out.length≤at_ →
  ((allA f b at_ out).2.2=0∧Rounds (TAll_l1_e b) TAll_l1_x TAll_l1_x' (fun s=>(TAll_l1_b b s).wp) (out,(at_:Int)) (.inl ((allA f b at_ out).2.1,(allA f b at_ out).1))) ∨
  ((allA f b at_ out).2.2≠0∧Rounds (TAll_l1_e b) TAll_l1_x TAll_l1_x' (fun s=>(TAll_l1_b b s).wp) (out,(at_:Int)) (.inr ((allA f b at_ out).2.1,(allA f b at_ out).2.2,(allA f b at_ out).1)))
 | f,at_,out,h0,h1,h2=>by
  by_cases hend:b.length≤at_
  ·have e:allA f b at_ out=(out,(at_:Int),0):=by
    cases f with
    | zero=>rfl
    | succ f=>rw[allA,if_pos hend]
   rw[e]
   refine .inl ⟨rfl, .done (by intro e; cases e) ?_⟩
   unfold TAll_l1_b
   exact wp_len (wp_sp (fun h=>absurd (of_decide_eq_true h) (by simp only; omega)) (fun _=>wp_leaf rfl ⟨rfl,rfl⟩))
  ·cases f with
   | zero=>omega
   | succ f=>
    have hcut:(cutL (some ((at_:Nat):Int)) none b)=b.drop at_:=by show b.drop (Int.toNat _)=_; rw[Int.toNat_natCast]
    have hdl:(b.drop at_).length≤1000000000:=by simp; omega
    have hbody:∀ K:AE→St→Prop,((nextI (b.drop at_)).2.2=8→K (.exit 0) (TAll_l1_x ((at_:Int),out)).2)→((nextI (b.drop at_)).2.2≠8→(nextI (b.drop at_)).2.2≠0→K .ret (TAll_l1_x' ((at_:Int),(nextI (b.drop at_)).2.2,out)).2) →
      ((nextI (b.drop at_)).2.2=0→K .normal (TAll_l1_e b (out++ [(nextI (b.drop at_)).1],(at_:Int)+(nextI (b.drop at_)).2.1)))→(TAll_l1_b b (out,(at_:Int))).wp K:=by
     intro K k1 k2 k3
     unfold TAll_l1_b
     simp only[hcut]
     refine wp_len (wp_sp (fun _=>wp_cut (by simp only[cutOk]; omega) ?_) (fun h=>absurd (of_decide_eq_false h) (by omega)))
     refine wp_call (gNext_eq hdl) (wp_sp (fun h=>wp_leaf rfl (k1 (by simpa using h))) (fun h8=>wp_sp (fun h=>wp_leaf rfl (k2 (by simpa using h8) (by simpa using h))) (fun h0=>?_)))
     have he:(nextI (b.drop at_)).2.2=0:=by simpa using h0
     obtain ⟨n1,n2,n3,n4⟩:=nextI_ok he
     rw[List.length_drop] at n2
     exact wp_app ⟨rfl,rfl⟩ rfl (by simp only[List.length_append,List.length_singleton]; omega) (wp_i64 (by omega) (wp_leaf rfl (k3 he)))
    rw[allA,if_neg hend]
    by_cases h8:(nextI (b.drop at_)).2.2=8
    ·rw[if_pos h8]
     exact .inl ⟨rfl, .done (by intro e; cases e) (hbody _ (fun _=>⟨rfl,rfl⟩) (fun h=>absurd h8 h) (fun h=>absurd (h.symm.trans h8) (by decide)))⟩
    ·rw[if_neg h8]
     by_cases hz:(nextI (b.drop at_)).2.2=0
     ·rw[if_neg (fun h=>h hz)]
      obtain ⟨n1,n2,n3,n4⟩:=nextI_ok hz
      rw[List.length_drop] at n2
      have hst:(at_:Int)+(nextI (b.drop at_)).2.1=((at_+(nextI (b.drop at_)).2.1.toNat:Nat):Int):=by omega
      have hnx:=hbody (fun e c=>e= .normal∧c=TAll_l1_e b (out++ [(nextI (b.drop at_)).1],((at_+(nextI (b.drop at_)).2.1.toNat:Nat):Int))) (fun h=>absurd h h8) (fun _ h=>absurd hz h) (fun _=>⟨rfl,by rw[hst]⟩)
      rcases all_rounds b hb f (at_+(nextI (b.drop at_)).2.1.toNat) (out++ [(nextI (b.drop at_)).1]) (by omega) (by omega) (by simp only[List.length_append,List.length_singleton]; omega) with ⟨g1,g2⟩ | ⟨g1,g2⟩
      ·exact .inl ⟨g1, .next hnx g2⟩
      ·exact .inr ⟨g1, .next hnx g2⟩
     ·rw[if_pos hz]
      exact .inr ⟨hz, .done' (by intro e; cases e) (hbody _ (fun h=>absurd h h8) (fun _ _=>⟨rfl,rfl⟩) (fun h=>absurd h hz))⟩

def RAll:List AV→AV→Prop:=fun args r=>∃ (b:List UInt8),b.length≤1000000000∧args= [vl (b.map byteE.f)]∧r= .tup [vl ((allI b).1.map bytesE.f),vi (allI b).2.1,vi (allI b).2.2]
noncomputable def gAll:=relG RAll
theorem gAll_eq {b:List UInt8} (hb:b.length≤1000000000):gAll [vl (b.map byteE.f)]=some (.tup [vl ((allI b).1.map bytesE.f),vi (allI b).2.1,vi (allI b).2.2]):=
 relG_eq (fun args r r' ⟨b1,_,h1,h2⟩ ⟨b2,_,h3,h4⟩=>by
  rw[h2,h4,vl_inj' (one_arg (h1.symm.trans h3))]) ⟨b,hb,rfl,rfl⟩
theorem SAll:SoundF DP iAll (.pure gAll):=sound_pureT mixedD Γ3_ok Δ0_ok hfAll heAll hbAll (by
 rintro args r ⟨b,hb,rfl,rfl⟩
 refine ⟨rfl,rfl,_,TAll_chk b,?_⟩
 unfold TAll
 rcases all_rounds b hb b.length 0 [] (by omega) (by omega) (by simp) with ⟨g1,g2⟩ | ⟨g1,g2⟩
 ·have e:(allI b).2.2=0:=g1
  rw[e]
  exact wp_loop _ rfl g2 (wp_leaf rfl (seal_row3 (E:=bytesE) rfl))
 ·exact wp_loop' _ rfl g2 (wp_leaf rfl (seal_row3 (E:=bytesE) rfl)))
theorem allI_facts (b:List UInt8):(0≤(allI b).2.1∧(allI b).2.1≤b.length)∧((allI b).1.length:Int)≤(allI b).2.1∧(∀ x∈(allI b).1,x.length≤1048576)∧((allI b).2.2=0∨(allI b).2.2=12):=
 allA_facts b b.length 0 [] (by omega) (by simp) (by simp)

end Go.Ax

namespace Go.Ax
open Go.Proofs Go.RowKit
set_option maxRecDepth 100000

theorem gItoa_eq {n:Int} (hn: -9223372036854775808≤n∧n≤9223372036854775807):gItoa [vi n]=some (vs (itoaB n)):=
 relG_eq (fun args r r' ⟨n1,_,h1,h2⟩ ⟨n2,_,h3,h4⟩=>by
  rw[h2,h4,vn_inj' (one_arg (h1.symm.trans h3))]) ⟨n,hn,rfl,rfl⟩
noncomputable def Γ4:Env:=envP [(iItoa,gItoa)]
theorem Γ4_ok:∀ f,SoundF DP f (Γ4 f):=envP_cons SItoa envP_nil

theorem decDigits_len:∀ {k u:Nat},u<10 ^ (k+1)→(Lib.decDigits u).length≤k+1
 | k,u,h=>by
  rw[Lib.decDigits]
  split
  ·simp
  ·rename_i hu
   cases k with
   | zero=>omega
   | succ k=>
    have:=decDigits_len (k:=k) (u:=u / 10) (by rw[Nat.div_lt_iff_lt_mul (by decide)]; rw[Nat.pow_succ] at h; exact h)
    simp only[List.length_append,List.length_singleton]; omega
theorem itoaB_size {n:Int} (hn: -9223372036854775808≤n∧n≤9223372036854775807):(itoaB n).size≤21:=by
 show (Lib.itoa n).toArray.size≤21
 rw[List.size_toArray]
 unfold Lib.itoa
 split
 ·have:=decDigits_len (k:=19) (u:=n.natAbs) (by omega)
  rw[List.length_cons]; omega
 ·have:=decDigits_len (k:=19) (u:=n.toNat) (by omega)
  omega
theorem cat_size (a b:ByteArray):(a++b).size=a.size+b.size:=by
 show (a++b).data.size=_
 rw[ByteArray.data_append,Array.size_append]; rfl
theorem wname_size {n:Int} (hn: -9223372036854775808≤n∧n≤9223372036854775807):(wname n).size≤25:=by
 have:=itoaB_size hn
 have h2:(wname n).size=4+(itoaB n).size:=cat_size _ _
 omega
theorem cat_val {a b:ByteArray} {B:List Box} (h:a.size+b.size≤140737488355328):(binA DP .add 9 (vs a) (vs b)).map (fun v=>(v,B))=some (vs (a++b),B):=by
 show (((if a.size+b.size≤140737488355328 then some (Value.string (a++b)) else none:Option Value)).map _).map _=_
 rw[if_pos h]
 rfl
end Go.Ax

namespace Go.Ax
open Go.Proofs Go.RowKit Go.Lib
set_option maxRecDepth 100000

def logP:ByteArray:=⟨#[108,111,103,46]⟩
def restB (name:ByteArray):ByteArray:=⟨(Lib.trimPrefix name.data.toList logP.data.toList).toArray⟩
set_option maxHeartbeats 2000000 in
theorem number_no (name:ByteArray) (w:World) (h:Lib.hasPrefix name.data.toList logP.data.toList=false):
  Calls DP 28 #[.string name] w fun e w'=>e= .returned (.tuple #[.int .i64 0, .bool false])∧Below w.heap.size w w':=by
 have mixed:DP.follows .mixedOrders=true:=mixedD
 have e66:∀ args w,(callFunc 66 args).run DP w= .ok (.enter 66 args) w:=enters_of Tryd.func66 (by kernel_rfl) rfl
 go_enter Tryd.func28,Tryd.ntmps28
 go_wp2_with (go_at_fn 66; refine (Any.strings_CutPrefix Tryd.cutpA name logP _).mono ?_)
 rintro e w' ⟨rfl,rfl⟩
 rw[h]
 go_wp2
 go_ret2
 exact ⟨rfl,Below.refl _ _⟩
theorem rest_size (name:ByteArray):(restB name).size≤name.size:=by
 unfold restB Lib.trimPrefix
 have h0:name.data.toList.length=name.size:=rfl
 show (List.toArray _).size≤_
 rw[List.size_toArray]
 split
 ·rw[List.length_drop]; omega
 ·omega
set_option maxHeartbeats 2000000 in
theorem number_syn (name : ByteArray) (hs : name.size ≤ 1000) (w : World) (h : Lib.hasPrefix name.data.toList logP.data.toList = true) (ha : Lib.atoiAll (restB name).data.toList = .«syntax») (tp : TypeId) (p : Value) (hv : w.var? DP "strconv.ErrSyntax" = some #[.iface tp p]) :
  Calls DP 28 #[.string name] w fun e w'=>e= .returned (.tuple #[.int .i64 0, .bool false])∧Below w.heap.size w w':=by
 have mixed:DP.follows .mixedOrders=true:=mixedD
 have e66:∀ args w,(callFunc 66 args).run DP w= .ok (.enter 66 args) w:=enters_of Tryd.func66 (by kernel_rfl) rfl
 have e67:∀ args w,(callFunc 67 args).run DP w= .ok (.enter 67 args) w:=enters_of Tryd.func67 (by kernel_rfl) rfl
 go_enter Tryd.func28,Tryd.ntmps28
 go_wp2_with (go_at_fn 66; refine (Any.strings_CutPrefix Tryd.cutpA name logP _).mono ?_)
 rintro e w' ⟨rfl,rfl⟩
 rw[h]
 have hr:=rest_size name
 go_wp2_with (go_at_fn 67; refine (Any.strconv_Atoi_syntax_var Tryd.atoiA (restB name) (by omega) ha tp p _ hv).mono ?_)
 rintro e w' ⟨N,rfl,h1,h2,h3⟩
 go_wp2
 go_ret2
 exact ⟨rfl,h3⟩
set_option maxHeartbeats 2000000 in
theorem number_rng (name : ByteArray) (hs : name.size ≤ 1000) (w : World) (h : Lib.hasPrefix name.data.toList logP.data.toList = true) (ha : Lib.atoiAll (restB name).data.toList = .range) (tp : TypeId) (p : Value) (hv : w.var? DP "strconv.ErrRange" = some #[.iface tp p]) :
  Calls DP 28 #[.string name] w fun e w'=>e= .returned (.tuple #[.int .i64 0, .bool false])∧Below w.heap.size w w':=by
 have mixed:DP.follows .mixedOrders=true:=mixedD
 have e66:∀ args w,(callFunc 66 args).run DP w= .ok (.enter 66 args) w:=enters_of Tryd.func66 (by kernel_rfl) rfl
 have e67:∀ args w,(callFunc 67 args).run DP w= .ok (.enter 67 args) w:=enters_of Tryd.func67 (by kernel_rfl) rfl
 go_enter Tryd.func28,Tryd.ntmps28
 go_wp2_with (go_at_fn 66; refine (Any.strings_CutPrefix Tryd.cutpA name logP _).mono ?_)
 rintro e w' ⟨rfl,rfl⟩
 rw[h]
 have hr:=rest_size name
 go_wp2_with (go_at_fn 67; refine (Any.strconv_Atoi_range_var Tryd.atoiA (restB name) (by omega) ha tp p _ hv).mono ?_)
 rintro e w' ⟨N,rfl,h1,h2,h3⟩
 go_wp2
 go_ret2
 exact ⟨rfl,h3⟩
theorem rest_eq {v:Int} {name:ByteArray} (h:itoaB v=restB name):itoa v=trimPrefix name.data.toList logP.data.toList:=by
 have:=congrArg (fun s:ByteArray=>s.data.toList) h
 simpa [itoaB,restB] using this
set_option maxHeartbeats 2000000 in
theorem number_ok (name : ByteArray) (hs : name.size ≤ 1000) (w : World) (h : Lib.hasPrefix name.data.toList logP.data.toList = true) (v : Int) (ha : Lib.atoiAll (restB name).data.toList = .ok v) (hp : Lib.TabIs DP w "internal/strconv.uint64pow10" .u64 Lib.pow10Tab) :
  Calls DP 28 #[.string name] w fun e w'=>(((1≤v∧v≤1073741824)∧itoaB v=restB name∧e= .returned (.tuple #[.int .i64 v, .bool true]))∨(¬((1≤v∧v≤1073741824)∧itoaB v=restB name)∧e= .returned (.tuple #[.int .i64 0, .bool false])))∧Below w.heap.size w w':=by
 have mixed:DP.follows .mixedOrders=true:=mixedD
 have e66:∀ args w,(callFunc 66 args).run DP w= .ok (.enter 66 args) w:=enters_of Tryd.func66 (by kernel_rfl) rfl
 have e67:∀ args w,(callFunc 67 args).run DP w= .ok (.enter 67 args) w:=enters_of Tryd.func67 (by kernel_rfl) rfl
 have e63:∀ args w,(callFunc 63 args).run DP w= .ok (.enter 63 args) w:=enters_of Tryd.func63 (by kernel_rfl) rfl
 have hr:=rest_size name
 have below:∀ {w w':World},(w'=w∨∃ t,w'=Lib.bytesWorld w (Tryd.atoiA_ren.t 5) t)→Below w.heap.size w w':=fun h=>by
  rcases h with rfl | ⟨t,rfl⟩
  ·exact Below.refl _ _
  ·exact Lib.bytesWorld_below _ _ _
 rcases Int.lt_or_le v 1 with v1 | v1
 ·go_enter Tryd.func28,Tryd.ntmps28
  go_wp2_with (go_at_fn 66; refine (Any.strings_CutPrefix Tryd.cutpA name logP _).mono ?_)
  rintro e w' ⟨rfl,rfl⟩
  rw[h]
  go_wp2_with (go_at_fn 67; refine (Any.strconv_Atoi_ok Tryd.atoiA (restB name) (by omega) v ha _).mono ?_)
  rintro e w' ⟨rfl,hW⟩
  go_wp2
  go_ret2
  exact ⟨.inr ⟨by omega,rfl⟩,below hW⟩
 rcases Int.lt_or_le 1073741824 v with v2 | v2
 ·go_enter Tryd.func28,Tryd.ntmps28
  go_wp2_with (go_at_fn 66; refine (Any.strings_CutPrefix Tryd.cutpA name logP _).mono ?_)
  rintro e w' ⟨rfl,rfl⟩
  rw[h]
  go_wp2_with (go_at_fn 67; refine (Any.strconv_Atoi_ok Tryd.atoiA (restB name) (by omega) v ha _).mono ?_)
  rintro e w' ⟨rfl,hW⟩
  go_wp2
  go_ret2
  exact ⟨.inr ⟨by omega,rfl⟩,below hW⟩
 ·go_enter Tryd.func28,Tryd.ntmps28
  go_wp2_with (go_at_fn 66; refine (Any.strings_CutPrefix Tryd.cutpA name logP _).mono ?_)
  rintro e w' ⟨rfl,rfl⟩
  rw[h]
  go_wp2_with (go_at_fn 67; refine (Any.strconv_Atoi_ok Tryd.atoiA (restB name) (by omega) v ha _).mono ?_)
  rintro e w1 ⟨rfl,hW⟩
  have hb:=below hW
  have hp1:=Joins.tab_stays (g:=3) (by kernel_rfl) hp hb (Nat.le_refl _)
  clear hW
  go_wp2_with (go_at_fn 63; refine (Any.strconv_Itoa Tryd.itoaA v (by omega) (by omega) _ hp1).mono ?_)
  rintro e w2 ⟨rfl,k,os,hw2⟩
  have hb2:Below w'.heap.size w' w2:=by
   subst hw2
   refine hb.trans ?_
   refine ⟨rfl,rfl,rfl,?_,fun j hj=>?_⟩
   ·show w1.heap.size≤(w1.heap++os).size
    rw[Array.size_append]; omega
   ·show (w1.heap++os)[j]? = _
    rw[Array.getElem?_append_left (Nat.lt_of_lt_of_le hj hb.size)]
  clear hw2
  go_wp2
  all_goals go_ret2
  ·rename_i hc
   refine ⟨.inr ⟨fun hh=>?_,rfl⟩,hb2⟩
   rcases hc with hc | hc
   ·omega
   ·rw[rest_eq hh.2,beq_self_eq_true] at hc
    cases hc
  ·rename_i hc
   refine ⟨.inl ⟨⟨v1,v2⟩,?_,rfl⟩,hb2⟩
   have h2:itoa v=trimPrefix name.data.toList logP.data.toList:=by simpa using hc.2
   show (⟨(Lib.itoa v).toArray⟩:ByteArray)=⟨_⟩
   rw[h2]
end Go.Ax

namespace Go.Ax
open Go.Proofs Go.RowKit
set_option maxRecDepth 100000

abbrev iNameW:Nat:=23
noncomputable abbrev nNameW:Func:=Tryd.f23
theorem hfNameW:DP.funcs[iNameW]? = some nNameW:=by kernel_rfl
theorem heNameW:enters DP iNameW=true:=by kernel_rfl
theorem hbNameW:nNameW.body.isSome=true:=by kernel_rfl
noncomputable def TNameW (n:Int):Tree:=
.call 4 (gItoa [vi n]=some (vs (itoaB n))) (vs (itoaB n)) (.val (some 5) ((binA DP .add 9 (vs (⟨#[108,111,103,46]⟩)) (vs (itoaB n))).map (fun v=>(v,([]:List Box)))=some (vs ((⟨#[108,111,103,46]⟩:ByteArray)++(itoaB n)),[])) (vs ((⟨#[108,111,103,46]⟩:ByteArray)++(itoaB n))) [] (.leaf ⟨[0],[]⟩ [] .ret (some ([(0,vs ((⟨#[108,111,103,46]⟩:ByteArray)++(itoaB n)))],[]))))

theorem TNameW_chk (n:Int):fnC DP Γ4 Δ0 Tryd.f23 [vi n] [] (TNameW n)=TNameW n:=by kernel_rfl

end Go.Ax
