/- Trees, printed by gen/w1.py. -/
import Derived.Test.YtjlipmcdnigfcaaDoorG23
import Derived.Test.YtjlipmcdnigfcaaDoorG22
import Derived.Test.YtjlipmcdnigfcaaDoorG21
set_option linter.unusedVariables false
set_option linter.unusedSimpArgs false
set_option linter.unusedSectionVars false
namespace Go.Ax
open Go.Proofs Go.RowKit
set_option maxRecDepth 100000

abbrev iRPut:Nat:=58
noncomputable abbrev nRPut:Func:=Tryd.f58
theorem hfRPut:DP.funcs[iRPut]? = some nRPut:=by kernel_rfl
theorem heRPut:enters DP iRPut=true:=by kernel_rfl
theorem hbRPut:nRPut.body.isSome=true:=by kernel_rfl
theorem hnRPut:nRPut.ntmps=35:=by kernel_rfl
abbrev iNext:Nat:=79
noncomputable abbrev nNext:Func:=Tryd.f79
theorem hfNext:DP.funcs[iNext]? = some nNext:=by kernel_rfl
theorem heNext:enters DP iNext=true:=by kernel_rfl
theorem hbNext:nNext.body.isSome=true:=by kernel_rfl
abbrev iAll:Nat:=50
noncomputable abbrev nAll:Func:=Tryd.f50
theorem hfAll:DP.funcs[iAll]? = some nAll:=by kernel_rfl
theorem heAll:enters DP iAll=true:=by kernel_rfl
theorem hbAll:nAll.body.isSome=true:=by kernel_rfl
noncomputable def TRPut (data:List UInt8):Tree:=
.int 8 ((data.map byteE.f).length:Int) (data.length:Int) (.sp 9 (decide ((data.length:Int)>(1048576:Int))) (
.leaf ⟨[0],[]⟩ [] .ret (some ([(0, .tup [nilS,vi 6])],[]))) (
.int 15 ((data.map byteE.f).length:Int) (data.length:Int) (.int 16 (IntKind.u64.wrap ((data.length:Int))) ((data.length:Int)) (.callr (some 17) (Δ2 87 [nilS,vn .u64 (data.length:Int),vi 4] [] (.rs 0 0 1 0 ((leI (data.length:Int) 4).length)) [byteE.bx 0 (leI (data.length:Int) 4)]) (.rs 0 0 1 0 ((leI (data.length:Int) 4).length)) [byteE.bx 0 (leI (data.length:Int) 4)] (.rcut 21 ((leI (data.length:Int) 4).length) (some 0) none (.callr (some 22) (Δ2 89 [.rs 0 0 1 (0+loN (some 0)*1) (hiN none ((leI (data.length:Int) 4).length) - loN (some 0))] [byteE.bx 0 (leI (data.length:Int) 4)] (vn .u32 (crcI (leI (data.length:Int) 4))) [byteE.bx 0 (leI (data.length:Int) 4)]) (vn .u32 (crcI (leI (data.length:Int) 4))) [byteE.bx 0 (leI (data.length:Int) 4)] (.call 23 (gMask [vn .u32 (crcI (leI (data.length:Int) 4))]=some (vn .u32 (maskI (crcI (leI (data.length:Int) 4))))) (vn .u32 (maskI (crcI (leI (data.length:Int) 4)))) (.int 24 (IntKind.u64.wrap (maskI (crcI (leI (data.length:Int) 4)))) ((maskI (crcI (leI (data.length:Int) 4)))) (.callr (some 25) (Δ2 87 [.rs 0 0 1 0 ((leI (data.length:Int) 4).length),vn .u64 (maskI (crcI (leI (data.length:Int) 4))),vi 4] [byteE.bx 0 (leI (data.length:Int) 4)] (.rs 1 0 1 0 (((leI (data.length:Int) 4)++leI (maskI (crcI (leI (data.length:Int) 4))) 4).length)) [byteE.bx 1 ([]:List UInt8),byteE.bx 0 ((leI (data.length:Int) 4)++leI (maskI (crcI (leI (data.length:Int) 4))) 4)]) (.rs 1 0 1 0 (((leI (data.length:Int) 4)++leI (maskI (crcI (leI (data.length:Int) 4))) 4).length)) [byteE.bx 1 ([]:List UInt8),byteE.bx 0 ((leI (data.length:Int) 4)++leI (maskI (crcI (leI (data.length:Int) 4))) 4)] (.call 28 (gSum [vl (data.map byteE.f)]=some (vn .u32 (crcI data))) (vn .u32 (crcI data)) (.call 29 (gMask [vn .u32 (crcI data)]=some (vn .u32 (maskI (crcI data)))) (vn .u32 (maskI (crcI data))) (.int 30 (IntKind.u64.wrap (maskI (crcI data))) ((maskI (crcI data))) (.callr (some 31) (Δ2 87 [.rs 1 0 1 0 (((leI (data.length:Int) 4)++leI (maskI (crcI (leI (data.length:Int) 4))) 4).length),vn .u64 (maskI (crcI data)),vi 4] [byteE.bx 1 ([]:List UInt8),byteE.bx 0 ((leI (data.length:Int) 4)++leI (maskI (crcI (leI (data.length:Int) 4))) 4)] (.rs 2 0 1 0 ((((leI (data.length:Int) 4)++leI (maskI (crcI (leI (data.length:Int) 4))) 4)++leI (maskI (crcI data)) 4).length)) [byteE.bx 1 ([]:List UInt8),byteE.bx 1 ([]:List UInt8),byteE.bx 0 (((leI (data.length:Int) 4)++leI (maskI (crcI (leI (data.length:Int) 4))) 4)++leI (maskI (crcI data)) 4)]) (.rs 2 0 1 0 ((((leI (data.length:Int) 4)++leI (maskI (crcI (leI (data.length:Int) 4))) 4)++leI (maskI (crcI data)) 4).length)) [byteE.bx 1 ([]:List UInt8),byteE.bx 1 ([]:List UInt8),byteE.bx 0 (((leI (data.length:Int) 4)++leI (maskI (crcI (leI (data.length:Int) 4))) 4)++leI (maskI (crcI data)) 4)] (.app 34 (.ls (data.map byteE.f)) ((((leI (data.length:Int) 4)++leI (maskI (crcI (leI (data.length:Int) 4))) 4)++leI (maskI (crcI data)) 4).length) (rowC ((((leI (data.length:Int) 4)++leI (maskI (crcI (leI (data.length:Int) 4))) 4)++leI (maskI (crcI data)) 4).map byteE.f)) byteE (((leI (data.length:Int) 4)++leI (maskI (crcI (leI (data.length:Int) 4))) 4)++leI (maskI (crcI data)) 4) data (.leaf ⟨[0],[(2,1,some (((((leI (data.length:Int) 4)++leI (maskI (crcI (leI (data.length:Int) 4))) 4)++leI (maskI (crcI data)) 4)++data).map byteE.f))]⟩ [rowC (((((leI (data.length:Int) 4)++leI (maskI (crcI (leI (data.length:Int) 4))) 4)++leI (maskI (crcI data)) 4)++data).map byteE.f)] .ret (some ([(0, .tup [.rs 0 0 1 0 (((((leI (data.length:Int) 4)++leI (maskI (crcI (leI (data.length:Int) 4))) 4)++leI (maskI (crcI data)) 4)++data).length),vi 0])],[byteE.bx 0 ((((leI (data.length:Int) 4)++leI (maskI (crcI (leI (data.length:Int) 4))) 4)++leI (maskI (crcI data)) 4)++data)])))))))))))))))))

theorem TRPut_chk (data:List UInt8):fnC DP Γ2 Δ2 Tryd.f58 [nilS,vl (data.map byteE.f)] [] (TRPut data)=TRPut data:=by kernel_rfl

noncomputable def TNext (b:List UInt8):Tree:=
.int 8 ((b.map byteE.f).length:Int) (b.length:Int) (.sp 9 (decide ((b.length:Int)<(12:Int))) (
.leaf ⟨[0],[]⟩ [] .ret (some ([(0, .tup [nilS,vi 0,vi 8])],[]))) (
.cut 11 (b.map byteE.f) none (some 4) byteE b (.call 12 (gLittle [vl ((cutL none (some 4) b).map byteE.f)]=some (vn .u64 (littleI (cutL none (some 4) b)))) (vn .u64 (littleI (cutL none (some 4) b))) (.cut 14 (b.map byteE.f) (some 4) (some 8) byteE b (.call 15 (gLittle [vl ((cutL (some 4) (some 8) b).map byteE.f)]=some (vn .u64 (littleI (cutL (some 4) (some 8) b)))) (vn .u64 (littleI (cutL (some 4) (some 8) b))) (.int 16 (IntKind.u32.wrap (littleI (cutL (some 4) (some 8) b))) ((littleI (cutL (some 4) (some 8) b)) % 4294967296) (.cut 18 (b.map byteE.f) none (some 4) byteE b (.call 19 (gSum [vl ((cutL none (some 4) b).map byteE.f)]=some (vn .u32 (crcI (cutL none (some 4) b)))) (vn .u32 (crcI (cutL none (some 4) b))) (.call 20 (gMask [vn .u32 (crcI (cutL none (some 4) b))]=some (vn .u32 (maskI (crcI (cutL none (some 4) b))))) (vn .u32 (maskI (crcI (cutL none (some 4) b)))) (.sp 21 (((littleI (cutL (some 4) (some 8) b)) % 4294967296) != (maskI (crcI (cutL none (some 4) b)))) (
.leaf ⟨[0],[]⟩ [] .ret (some ([(0, .tup [nilS,vi 0,vi 12])],[]))) (
.sp 24 (decide ((littleI (cutL none (some 4) b))>(1048576:Int))) (
.leaf ⟨[0],[]⟩ [] .ret (some ([(0, .tup [nilS,vi 0,vi 12])],[]))) (
.int 27 ((b.map byteE.f).length:Int) (b.length:Int) (.int 28 (IntKind.u64.wrap ((b.length:Int))) ((b.length:Int)) (.int 30 (IntKind.u64.wrap (12+(littleI (cutL none (some 4) b)))) (12+(littleI (cutL none (some 4) b))) (.sp 31 (decide ((b.length:Int)<(12+(littleI (cutL none (some 4) b))))) (
.leaf ⟨[0],[]⟩ [] .ret (some ([(0, .tup [nilS,vi 0,vi 8])],[]))) (
.int 34 (IntKind.u64.wrap (12+(littleI (cutL none (some 4) b)))) (12+(littleI (cutL none (some 4) b))) (.cut 35 (b.map byteE.f) (some 12) (some (12+(littleI (cutL none (some 4) b)))) byteE b (.cut 37 (b.map byteE.f) (some 8) (some 12) byteE b (.call 38 (gLittle [vl ((cutL (some 8) (some 12) b).map byteE.f)]=some (vn .u64 (littleI (cutL (some 8) (some 12) b)))) (vn .u64 (littleI (cutL (some 8) (some 12) b))) (.int 39 (IntKind.u32.wrap (littleI (cutL (some 8) (some 12) b))) ((littleI (cutL (some 8) (some 12) b)) % 4294967296) (.call 41 (gSum [vl ((cutL (some 12) (some (12+(littleI (cutL none (some 4) b)))) b).map byteE.f)]=some (vn .u32 (crcI (cutL (some 12) (some (12+(littleI (cutL none (some 4) b)))) b)))) (vn .u32 (crcI (cutL (some 12) (some (12+(littleI (cutL none (some 4) b)))) b))) (.call 42 (gMask [vn .u32 (crcI (cutL (some 12) (some (12+(littleI (cutL none (some 4) b)))) b))]=some (vn .u32 (maskI (crcI (cutL (some 12) (some (12+(littleI (cutL none (some 4) b)))) b))))) (vn .u32 (maskI (crcI (cutL (some 12) (some (12+(littleI (cutL none (some 4) b)))) b)))) (.sp 43 (((littleI (cutL (some 8) (some 12) b)) % 4294967296) != (maskI (crcI (cutL (some 12) (some (12+(littleI (cutL none (some 4) b)))) b)))) (
.leaf ⟨[0],[]⟩ [] .ret (some ([(0, .tup [nilS,vi 0,vi 12])],[]))) (
.appn 45 (.ls ((cutL (some 12) (some (12+(littleI (cutL none (some 4) b)))) b).map byteE.f)) byteE (cutL (some 12) (some (12+(littleI (cutL none (some 4) b)))) b) (.int 47 (IntKind.i64.wrap ((littleI (cutL none (some 4) b)))) ((littleI (cutL none (some 4) b))) (.int 48 (IntKind.i64.wrap (12+(littleI (cutL none (some 4) b)))) (12+(littleI (cutL none (some 4) b))) (.leaf ⟨[0],[(0,0,some ((cutL (some 12) (some (12+(littleI (cutL none (some 4) b)))) b).map byteE.f))]⟩ [rowC ((cutL (some 12) (some (12+(littleI (cutL none (some 4) b)))) b).map byteE.f)] .ret (some ([(0, .tup [.rs 0 0 1 0 ((cutL (some 12) (some (12+(littleI (cutL none (some 4) b)))) b).length),vi (12+(littleI (cutL none (some 4) b))),vi 0])],[byteE.bx 0 (cutL (some 12) (some (12+(littleI (cutL none (some 4) b)))) b)])))))))))))))))))))))))))))))

theorem TNext_chk (b:List UInt8):fnC DP Γ2 Δ2 Tryd.f79 [vl (b.map byteE.f)] [] (TNext b)=TNext b:=by kernel_rfl

end Go.Ax

namespace Go.Ax
open Go.Proofs Go.RowKit
set_option maxRecDepth 100000

theorem recB_len (d:List UInt8):(recB d).length=d.length+12:=by
 simp only[recB,List.length_append,leI_len]; omega

theorem wp_rcut {d len:Nat} {lo hi:Option Int} {k:Tree} {K:AE→St→Prop} (h0:cutOk lo hi len) (h:k.wp K):(Tree.rcut d len lo hi k).wp K:=⟨h0,h⟩

def ORPut:RSpec:=fun args B r B'=>∃ d:List UInt8,d.length≤1000000000∧args= [nilS,vl (d.map byteE.f)]∧B= [] ∧
 ((1048576<d.length∧r= .tup [nilS,vi 6]∧B'= [])∨(d.length≤1048576∧r= .tup [.rs 0 0 1 0 (recB d).length,vi 0]∧B'= [byteE.bx 0 (recB d)]))
theorem SRPut:SoundR DP iRPut ORPut:=sound_genT mixedD Γ2_ok Δ2_ok hfRPut heRPut hbRPut (by
 rintro args B r B' ⟨d,hd,rfl,rfl,⟨h1,rfl,rfl⟩ | ⟨h1,rfl,rfl⟩⟩
 ·refine ⟨by rw[hnRPut]; rfl,_,TRPut_chk d,?_⟩
  unfold TRPut
  exact wp_len (wp_sp (fun _=>wp_leaf rfl ⟨rfl,rfl⟩) (fun h=>absurd (of_decide_eq_false h) (by omega)))
 ·refine ⟨by rw[hnRPut]; rfl,_,TRPut_chk d,?_⟩
  unfold TRPut
  have hc:=crcI_b (leI (d.length:Int) 4)
  have hm:=maskI_b (crcI (leI (d.length:Int) 4))
  have hc2:=crcI_b d
  have hm2:=maskI_b (crcI d)
  have e1:(leI (d.length:Int) 4).length=4:=leI_len _ _
  have e2:(leI (d.length:Int) 4++leI (maskI (crcI (leI (d.length:Int) 4))) 4).length=8:=by rw[List.length_append,leI_len,leI_len]; rfl
  have e3:(leI (d.length:Int) 4++leI (maskI (crcI (leI (d.length:Int) 4))) 4++leI (maskI (crcI d)) 4).length=12:=by rw[List.length_append,e2,leI_len]; rfl
  refine wp_len (wp_sp (fun h=>absurd (of_decide_eq_true h) (by omega)) (fun _=>wp_len (wp_int (wrap64id (by omega)) (wp_callr (cPutL_n (by omega)) (wp_rcut (by simp only[cutOk]; omega) ?_)))))
  refine wp_callr (cSumR rfl (by omega)) (wp_call (gMask_eq hc) (wp_int (wrap64id (by omega)) (wp_callr (cPutL_r (by omega) rfl (by omega)) ?_)))
  refine wp_call (gSum_eq hd) (wp_call (gMask_eq hc2) (wp_int (wrap64id (by omega)) (wp_callr (cPutL_r (by omega) rfl (by omega)) ?_)))
  exact wp_app rfl rfl (by rw[List.length_append,e3]; omega) (wp_leaf rfl ⟨rfl,rfl⟩))

def RNext:List AV→AV→Prop:=fun args r=>∃ (b:List UInt8),b.length≤1000000000∧args= [vl (b.map byteE.f)]∧r= .tup [vl ((nextI b).1.map byteE.f),vi (nextI b).2.1,vi (nextI b).2.2]
noncomputable def gNext:=relG RNext
theorem gNext_eq {b:List UInt8} (hb:b.length≤1000000000):gNext [vl (b.map byteE.f)]=some (.tup [vl ((nextI b).1.map byteE.f),vi (nextI b).2.1,vi (nextI b).2.2]):=
 relG_eq (fun args r r' ⟨b1,_,h1,h2⟩ ⟨b2,_,h3,h4⟩=>by
  rw[h2,h4,vl_inj' (one_arg (h1.symm.trans h3))]) ⟨b,hb,rfl,rfl⟩
theorem littleI_b (b:List UInt8):0≤littleI b∧littleI b<18446744073709551616:=by
 unfold littleI
 have h1:=numN_lt (b.take 8)
 have h2:256 ^ (b.take 8).length≤256 ^ 8:=Nat.pow_le_pow_right (by decide) (by simp; omega)
 omega
theorem seal_nil3 {S:Nat→Prop} {B:List Box} {n e:Int} {d:List UInt8} (h:d= []):Sealed S B (.tup [nilS,vi n,vi e]) (.tup [vl (d.map byteE.f),vi n,vi e]):=by
 subst h
 refine .tup _ _ rfl fun j c d hc hd=>?_
 match j with
 | 0=>cases hc; cases hd; exact .nil
 | 1=>cases hc; cases hd; exact .p _
 | 2=>cases hc; cases hd; exact .p _
 | j+3=>simp at hc
theorem seal_row3 {α:Type} {E:Enc α} {B:List Box} {v:Nat} {d:List α} {n e:Int} (hb:B[0]? = some (E.bx v d)):Sealed (fun _=>True) B (.tup [.rs 0 v E.sz 0 d.length,vi n,vi e]) (.tup [vl (d.map E.f),vi n,vi e]):=by
 refine .tup _ _ rfl fun j c d' hc hd=>?_
 match j with
 | 0=>cases hc; cases hd; exact E.elt.sealed trivial hb
 | 1=>cases hc; cases hd; exact .p _
 | 2=>cases hc; cases hd; exact .p _
 | j+3=>simp at hc
theorem nextI_cut (b:List UInt8):nextI b = 
 if b.length<12 then ([],0,8) else
 if littleI (cutL (some 4) (some 8) b) % 4294967296≠maskI (crcI (cutL none (some 4) b))∨littleI (cutL none (some 4) b)>1048576 then ([],0,12) else
 if (b.length:Int)<12+littleI (cutL none (some 4) b) then ([],0,8) else
 if littleI (cutL (some 8) (some 12) b) % 4294967296≠maskI (crcI (cutL (some 12) (some (12+littleI (cutL none (some 4) b))) b)) then ([],0,12) else
 (cutL (some 12) (some (12+littleI (cutL none (some 4) b))) b,12+littleI (cutL none (some 4) b),0):=rfl
theorem SNext:SoundF DP iNext (.pure gNext):=sound_pureT mixedD Γ2_ok Δ2_ok hfNext heNext hbNext (by
 rintro args r ⟨b,hb,rfl,rfl⟩
 refine ⟨rfl,rfl,_,TNext_chk b,?_⟩
 unfold TNext
 refine wp_len (wp_sp (fun h=>wp_leaf rfl ?_) (fun h=>?_))
 ·have h:=of_decide_eq_true h
  have e:nextI b=([],0,8):=if_pos (by omega)
  rw[e]; exact seal_nil3 rfl
 have h:=of_decide_eq_false h
 have h12:12≤b.length:=by omega
 have hl4:(cutL none (some 4) b).length≤1000000000:=by show (b.take 4).length≤_; simp; omega
 have hl48:(cutL (some 4) (some 8) b).length≤1000000000:=by show ((b.take 8).drop 4).length≤_; simp; omega
 have hl812:(cutL (some 8) (some 12) b).length≤1000000000:=by show ((b.take 12).drop 8).length≤_; simp; omega
 have hn:=littleI_b (cutL none (some 4) b)
 refine wp_cut (by simp only[cutOk]; omega) (wp_call (gLittle_eq hl4) (wp_cut (by simp only[cutOk]; omega) (wp_call (gLittle_eq hl48) (wp_int (wrap32 _) (wp_cut (by simp only[cutOk]; omega) (wp_call (gSum_eq hl4) (wp_call (gMask_eq (crcI_b _)) (wp_sp (fun h=>wp_leaf rfl ?_) (fun h1=>wp_sp (fun h=>wp_leaf rfl ?_) (fun h2=>?_))))))))))
 ·have e:nextI b=([],0,12):=by
   rw[nextI_cut,if_neg (by omega),if_pos (.inl (by simpa using h))]
  rw[e]; exact seal_nil3 rfl
 ·have e:nextI b=([],0,12):=by
   rw[nextI_cut,if_neg (by omega),if_pos (.inr (of_decide_eq_true h))]
  rw[e]; exact seal_nil3 rfl
 have h2:=of_decide_eq_false h2
 have hno:¬(littleI (cutL (some 4) (some 8) b) % 4294967296≠maskI (crcI (cutL none (some 4) b))∨littleI (cutL none (some 4) b)>1048576):=by
  rintro (h | h)
  ·exact h (by simpa using h1)
  ·exact h2 h
 refine wp_len (wp_int (wrap64id (by omega)) (wp_int (wrap64id (by omega)) (wp_sp (fun h=>wp_leaf rfl ?_) (fun h3=>?_))))
 ·have e:nextI b=([],0,8):=by
   rw[nextI_cut,if_neg (by omega),if_neg hno,if_pos (of_decide_eq_true h)]
  rw[e]; exact seal_nil3 rfl
 have h3:=of_decide_eq_false h3
 have hld:(cutL (some 12) (some (12+littleI (cutL none (some 4) b))) b).length≤1048576:=by
  show ((b.take (12+littleI (cutL none (some 4) b)).toNat).drop 12).length≤_
  rw[List.length_drop,List.length_take]; omega
 refine wp_int (wrap64id (by omega)) (wp_cut (by simp only[cutOk]; omega) (wp_cut (by simp only[cutOk]; omega) (wp_call (gLittle_eq hl812) (wp_int (wrap32 _) (wp_call (gSum_eq (by omega)) (wp_call (gMask_eq (crcI_b _)) (wp_sp (fun h=>wp_leaf rfl ?_) (fun h4=>wp_appn rfl (by omega) (wp_i64 (by omega) (wp_i64 (by omega) (wp_leaf rfl ?_)))))))))))
 ·have e:nextI b=([],0,12):=by
   rw[nextI_cut,if_neg (by omega),if_neg hno,if_neg h3,if_pos (by simpa using h)]
  rw[e]; exact seal_nil3 rfl
 ·have e:nextI b=(cutL (some 12) (some (12+littleI (cutL none (some 4) b))) b,12+littleI (cutL none (some 4) b),0):=by
   rw[nextI_cut,if_neg (by omega),if_neg hno,if_neg h3,if_neg (by intro hx; exact hx (by simpa using h4))]
  rw[e]; exact seal_row3 (E:=byteE) rfl)

noncomputable def Γ3:Env:=envP [(iNext,gNext)]
theorem Γ3_ok:∀ f,SoundF DP f (Γ3 f):=envP_cons SNext envP_nil

end Go.Ax

namespace Go.Ax
open Go.Proofs Go.RowKit
set_option maxRecDepth 100000

noncomputable def TAll_l1_e (b:List UInt8) (s1:(List (List UInt8))×Int):St:=([(0,vl (b.map byteE.f)),(5, .rs 0 0 1 0 s1.1.length),(6,vi s1.2)],[bytesE.bx 0 s1.1])
noncomputable def TAll_l1_x (x1:Int×(List (List UInt8))):AE×St:=((.exit 0),([(5, .rs 0 0 1 0 x1.2.length),(6,vi x1.1)],[bytesE.bx 0 x1.2]))
noncomputable def TAll_l1_x' (y1:Int×Int×(List (List UInt8))):AE×St:=(.ret,([(2, .rs 0 0 1 0 y1.2.2.length),(3,vi y1.1),(4,vi y1.2.1)],[bytesE.bx 0 y1.2.2]))
noncomputable def TAll_l1_b (b:List UInt8) (s1:(List (List UInt8))×Int):Tree:=
.int 12 ((b.map byteE.f).length:Int) (b.length:Int) (.sp 13 (decide (s1.2<(b.length:Int))) (
.cut 17 (b.map byteE.f) (some s1.2) none byteE b (.call 18 (gNext [vl ((cutL (some s1.2) none b).map byteE.f)]=some (.tup [vl (((nextI (cutL (some s1.2) none b)).1).map byteE.f),vi ((nextI (cutL (some s1.2) none b)).2.1),vi ((nextI (cutL (some s1.2) none b)).2.2)])) (.tup [vl (((nextI (cutL (some s1.2) none b)).1).map byteE.f),vi ((nextI (cutL (some s1.2) none b)).2.1),vi ((nextI (cutL (some s1.2) none b)).2.2)]) (.sp 23 (((nextI (cutL (some s1.2) none b)).2.2) == (8:Int)) (
.leaf ⟨[5,6],[(0,0,some (s1.1.map bytesE.f))]⟩ [rowC (s1.1.map bytesE.f)] (.exit 0) (some (TAll_l1_x (s1.2,s1.1)).2)) (
.sp 25 (((nextI (cutL (some s1.2) none b)).2.2) != (0:Int)) (
.leaf ⟨[2,3,4],[(0,0,some (s1.1.map bytesE.f))]⟩ [rowC (s1.1.map bytesE.f)] .ret (some (TAll_l1_x' (s1.2,(nextI (cutL (some s1.2) none b)).2.2,s1.1)).2)) (
.app 32 (.row 1 ([vl (((nextI (cutL (some s1.2) none b)).1).map byteE.f)])) s1.1.length (rowC (s1.1.map bytesE.f)) bytesE s1.1 ([(nextI (cutL (some s1.2) none b)).1]) (.int 35 (IntKind.i64.wrap (s1.2+((nextI (cutL (some s1.2) none b)).2.1))) (s1.2+((nextI (cutL (some s1.2) none b)).2.1)) (.leaf ⟨[0,5,6],[(0,1,some ((s1.1++([(nextI (cutL (some s1.2) none b)).1])).map bytesE.f))]⟩ [rowC ((s1.1++([(nextI (cutL (some s1.2) none b)).1])).map bytesE.f)] .normal (some (TAll_l1_e b (s1.1++([(nextI (cutL (some s1.2) none b)).1]),s1.2+((nextI (cutL (some s1.2) none b)).2.1))))))))))) (
.leaf ⟨[5,6],[(0,0,some (s1.1.map bytesE.f))]⟩ [rowC (s1.1.map bytesE.f)] (.exit 0) (some (TAll_l1_x (s1.2,s1.1)).2)))
noncomputable def TAll (b:List UInt8):Tree:=
.nilrow 5 1 (.loop ⟨[0,5,6],[(0,0,some (([]:List (List UInt8)).map bytesE.f))]⟩ [rowC (([]:List (List UInt8)).map bytesE.f)] (some (TAll_l1_e b (([]:List (List UInt8)),0))) (TAll_l1_e b) (TAll_l1_x) (TAll_l1_x') (([]:List (List UInt8)),0) (TAll_l1_b b) (fun (x1:Int×(List (List UInt8)))=> .leaf ⟨[0],[(0,0,some (x1.2.map bytesE.f))]⟩ [rowC (x1.2.map bytesE.f)] .ret (some ([(0, .tup [.rs 0 0 1 0 x1.2.length,vi x1.1,vi 0])],[bytesE.bx 0 x1.2]))) (fun (y1:Int×Int×(List (List UInt8)))=> .leaf ⟨[0],[(0,0,some (y1.2.2.map bytesE.f))]⟩ [rowC (y1.2.2.map bytesE.f)] .ret (some ([(0, .tup [.rs 0 0 1 0 y1.2.2.length,vi y1.1,vi y1.2.1])],[bytesE.bx 0 y1.2.2]))))

theorem TAll_chk (b:List UInt8):fnC DP Γ3 Δ0 Tryd.f50 [vl (b.map byteE.f)] [] (TAll b)=TAll b:=by kernel_rfl

end Go.Ax

namespace Go.Ax
open Go.Proofs Go.RowKit
set_option maxRecDepth 100000

theorem nextI_ok {b:List UInt8} (h:(nextI b).2.2=0):12≤(nextI b).2.1∧(nextI b).2.1≤b.length∧(nextI b).1.length+12=(nextI b).2.1.toNat∧(nextI b).1.length≤1048576:=by
 have hn:=littleI_b (b.take 4)
 revert h
 unfold nextI
 split
 ·intro h; exact absurd h (by decide)
 split
 ·intro h; exact absurd h (by decide)
 rename_i h2
 split
 ·intro h; exact absurd h (by decide)
 rename_i h3
 split
 ·intro h; exact absurd h (by decide)
 ·intro _
  have h5:¬littleI (b.take 4)>1048576:=fun h=>h2 (.inr h)
  simp only[List.length_drop,List.length_take]
  omega
theorem nextI_e (b:List UInt8):(nextI b).2.2=0∨(nextI b).2.2=8∨(nextI b).2.2=12:=by
 unfold nextI
 split
 ·exact .inr (.inl rfl)
 split
 ·exact .inr (.inr rfl)
 split
 ·exact .inr (.inl rfl)
 split
 ·exact .inr (.inr rfl)
 ·exact .inl rfl

theorem allA_facts (b:List UInt8):∀ (f at_:Nat) (out:List (List UInt8)),at_≤b.length→out.length≤at_→(∀ x∈out,x.length≤1048576) →
  (0≤(allA f b at_ out).2.1∧(allA f b at_ out).2.1≤b.length)∧((allA f b at_ out).1.length:Int)≤(allA f b at_ out).2.1∧(∀ x∈(allA f b at_ out).1,x.length≤1048576)∧((allA f b at_ out).2.2=0∨(allA f b at_ out).2.2=12)
 | 0,at_,out,h1,h2,h3=>⟨⟨by simp only[allA]; omega,by simp only[allA]; omega⟩,by simp only[allA]; omega,h3, .inl rfl⟩
 | f+1,at_,out,h1,h2,h3=>by
  unfold allA
  split
  ·exact ⟨⟨by simp only; omega,by simp only; omega⟩,by simp only; omega,h3, .inl rfl⟩
  split
  ·exact ⟨⟨by simp only; omega,by simp only; omega⟩,by simp only; omega,h3, .inl rfl⟩
  rename_i h8
  split
  ·rename_i h0
   refine ⟨⟨by simp only; omega,by simp only; omega⟩,by simp only; omega,h3, .inr ?_⟩
   rcases nextI_e (b.drop at_) with h | h | h
   ·exact absurd h h0
   ·exact absurd h h8
   ·exact h
  ·rename_i h0
   obtain ⟨n1,n2,n3,n4⟩:=nextI_ok (Classical.byContradiction h0)
   rw[List.length_drop] at n2
   refine allA_facts b f _ _ (by omega) (by simp only[List.length_append,List.length_singleton]; omega) (fun x hx=>?_)
   rcases List.mem_append.1 hx with hx | hx
   ·exact h3 x hx
   ·rw[List.mem_singleton.1 hx]; exact n4

theorem all_rounds (b:List UInt8) (hb:b.length≤1000000000):∀ (f at_:Nat) (out:List (List UInt8)),b.length≤at_+f→at_≤b.length→out.length≤at_ →
  ((allA f b at_ out).2.2=0∧Rounds (TAll_l1_e b) TAll_l1_x TAll_l1_x' (fun s=>(TAll_l1_b b s).wp) (out,(at_:Int)) (.inl ((allA f b at_ out).2.1,(allA f b at_ out).1))) ∨
  ((allA f b at_ out).2.2≠0∧Rounds (TAll_l1_e b) TAll_l1_x TAll_l1_x' (fun s=>(TAll_l1_b b s).wp) (out,(at_:Int)) (.inr ((allA f b at_ out).2.1,(allA f b at_ out).2.2,(allA f b at_ out).1)))
 | f,at_,out,h0,h1,h2=>by
  by_cases hend:b.length≤at_
  ·have e:allA f b at_ out=(out,(at_:Int),0):=by
    cases f with
    | zero=>rfl
    | succ f=>rw[allA,if_pos hend]
   rw[e]
   refine .inl ⟨rfl, .done (by intro e; cases e) ?_⟩
   unfold TAll_l1_b
   exact wp_len (wp_sp (fun h=>absurd (of_decide_eq_true h) (by simp only; omega)) (fun _=>wp_leaf rfl ⟨rfl,rfl⟩))
  ·cases f with
   | zero=>omega
   | succ f=>
    have hcut:(cutL (some ((at_:Nat):Int)) none b)=b.drop at_:=by show b.drop (Int.toNat _)=_; rw[Int.toNat_natCast]
    have hdl:(b.drop at_).length≤1000000000:=by simp; omega
    have hbody:∀ K:AE→St→Prop,((nextI (b.drop at_)).2.2=8→K (.exit 0) (TAll_l1_x ((at_:Int),out)).2)→((nextI (b.drop at_)).2.2≠8→(nextI (b.drop at_)).2.2≠0→K .ret (TAll_l1_x' ((at_:Int),(nextI (b.drop at_)).2.2,out)).2) →
      ((nextI (b.drop at_)).2.2=0→K .normal (TAll_l1_e b (out++ [(nextI (b.drop at_)).1],(at_:Int)+(nextI (b.drop at_)).2.1)))→(TAll_l1_b b (out,(at_:Int))).wp K:=by
     intro K k1 k2 k3
     unfold TAll_l1_b
     simp only[hcut]
     refine wp_len (wp_sp (fun _=>wp_cut (by simp only[cutOk]; omega) ?_) (fun h=>absurd (of_decide_eq_false h) (by omega)))
     refine wp_call (gNext_eq hdl) (wp_sp (fun h=>wp_leaf rfl (k1 (by simpa using h))) (fun h8=>wp_sp (fun h=>wp_leaf rfl (k2 (by simpa using h8) (by simpa using h))) (fun h0=>?_)))
     have he:(nextI (b.drop at_)).2.2=0:=by simpa using h0
     obtain ⟨n1,n2,n3,n4⟩:=nextI_ok he
     rw[List.length_drop] at n2
     exact wp_app ⟨rfl,rfl⟩ rfl (by simp only[List.length_append,List.length_singleton]; omega) (wp_i64 (by omega) (wp_leaf rfl (k3 he)))
    rw[allA,if_neg hend]
    by_cases h8:(nextI (b.drop at_)).2.2=8
    ·rw[if_pos h8]
     exact .inl ⟨rfl, .done (by intro e; cases e) (hbody _ (fun _=>⟨rfl,rfl⟩) (fun h=>absurd h8 h) (fun h=>absurd (h.symm.trans h8) (by decide)))⟩
    ·rw[if_neg h8]
     by_cases hz:(nextI (b.drop at_)).2.2=0
     ·rw[if_neg (fun h=>h hz)]
      obtain ⟨n1,n2,n3,n4⟩:=nextI_ok hz
      rw[List.length_drop] at n2
      have hst:(at_:Int)+(nextI (b.drop at_)).2.1=((at_+(nextI (b.drop at_)).2.1.toNat:Nat):Int):=by omega
      have hnx:=hbody (fun e c=>e= .normal∧c=TAll_l1_e b (out++ [(nextI (b.drop at_)).1],((at_+(nextI (b.drop at_)).2.1.toNat:Nat):Int))) (fun h=>absurd h h8) (fun _ h=>absurd hz h) (fun _=>⟨rfl,by rw[hst]⟩)
      rcases all_rounds b hb f (at_+(nextI (b.drop at_)).2.1.toNat) (out++ [(nextI (b.drop at_)).1]) (by omega) (by omega) (by simp only[List.length_append,List.length_singleton]; omega) with ⟨g1,g2⟩ | ⟨g1,g2⟩
      ·exact .inl ⟨g1, .next hnx g2⟩
      ·exact .inr ⟨g1, .next hnx g2⟩
     ·rw[if_pos hz]
      exact .inr ⟨hz, .done' (by intro e; cases e) (hbody _ (fun h=>absurd h h8) (fun _ _=>⟨rfl,rfl⟩) (fun h=>absurd h hz))⟩

def RAll:List AV→AV→Prop:=fun args r=>∃ (b:List UInt8),b.length≤1000000000∧args= [vl (b.map byteE.f)]∧r= .tup [vl ((allI b).1.map bytesE.f),vi (allI b).2.1,vi (allI b).2.2]
noncomputable def gAll:=relG RAll
theorem gAll_eq {b:List UInt8} (hb:b.length≤1000000000):gAll [vl (b.map byteE.f)]=some (.tup [vl ((allI b).1.map bytesE.f),vi (allI b).2.1,vi (allI b).2.2]):=
 relG_eq (fun args r r' ⟨b1,_,h1,h2⟩ ⟨b2,_,h3,h4⟩=>by
  rw[h2,h4,vl_inj' (one_arg (h1.symm.trans h3))]) ⟨b,hb,rfl,rfl⟩
theorem SAll:SoundF DP iAll (.pure gAll):=sound_pureT mixedD Γ3_ok Δ0_ok hfAll heAll hbAll (by
 rintro args r ⟨b,hb,rfl,rfl⟩
 refine ⟨rfl,rfl,_,TAll_chk b,?_⟩
 unfold TAll
 rcases all_rounds b hb b.length 0 [] (by omega) (by omega) (by simp) with ⟨g1,g2⟩ | ⟨g1,g2⟩
 ·have e:(allI b).2.2=0:=g1
  rw[e]
  exact wp_loop _ rfl g2 (wp_leaf rfl (seal_row3 (E:=bytesE) rfl))
 ·exact wp_loop' _ rfl g2 (wp_leaf rfl (seal_row3 (E:=bytesE) rfl)))
theorem allI_facts (b:List UInt8):(0≤(allI b).2.1∧(allI b).2.1≤b.length)∧((allI b).1.length:Int)≤(allI b).2.1∧(∀ x∈(allI b).1,x.length≤1048576)∧((allI b).2.2=0∨(allI b).2.2=12):=
 allA_facts b b.length 0 [] (by omega) (by simp) (by simp)

end Go.Ax

namespace Go.Ax
open Go.Proofs Go.RowKit
set_option maxRecDepth 100000

theorem gItoa_eq {n:Int} (hn: -9223372036854775808≤n∧n≤9223372036854775807):gItoa [vi n]=some (vs (itoaB n)):=
 relG_eq (fun args r r' ⟨n1,_,h1,h2⟩ ⟨n2,_,h3,h4⟩=>by
  rw[h2,h4,vn_inj' (one_arg (h1.symm.trans h3))]) ⟨n,hn,rfl,rfl⟩
noncomputable def Γ4:Env:=envP [(iItoa,gItoa)]
theorem Γ4_ok:∀ f,SoundF DP f (Γ4 f):=envP_cons SItoa envP_nil

theorem decDigits_len:∀ {k u:Nat},u<10 ^ (k+1)→(Lib.decDigits u).length≤k+1
 | k,u,h=>by
  rw[Lib.decDigits]
  split
  ·simp
  ·rename_i hu
   cases k with
   | zero=>omega
   | succ k=>
    have:=decDigits_len (k:=k) (u:=u / 10) (by rw[Nat.div_lt_iff_lt_mul (by decide)]; rw[Nat.pow_succ] at h; exact h)
    simp only[List.length_append,List.length_singleton]; omega
theorem itoaB_size {n:Int} (hn: -9223372036854775808≤n∧n≤9223372036854775807):(itoaB n).size≤21:=by
 show (Lib.itoa n).toArray.size≤21
 rw[List.size_toArray]
 unfold Lib.itoa
 split
 ·have:=decDigits_len (k:=19) (u:=n.natAbs) (by omega)
  rw[List.length_cons]; omega
 ·have:=decDigits_len (k:=19) (u:=n.toNat) (by omega)
  omega
theorem cat_size (a b:ByteArray):(a++b).size=a.size+b.size:=by
 show (a++b).data.size=_
 rw[ByteArray.data_append,Array.size_append]; rfl
theorem cat_val {a b:ByteArray} {B:List Box} (h:a.size+b.size≤140737488355328):(binA DP .add 9 (vs a) (vs b)).map (fun v=>(v,B))=some (vs (a++b),B):=by
 show (((if a.size+b.size≤140737488355328 then some (Value.string (a++b)) else none:Option Value)).map _).map _=_
 rw[if_pos h]
 rfl
end Go.Ax

namespace Go.Ax
open Go.Proofs Go.RowKit
set_option maxRecDepth 100000

end Go.Ax

namespace Go.Ax
open Go.Proofs Go.RowKit
set_option maxRecDepth 100000

theorem len_le_sum {fs:List Fil} {x:Fil} (h:x∈fs):(x.b.length:Int)≤(fs.map fun x=>(x.b.length:Int)).sum:=by
 induction fs with
 | nil=>cases h
 | cons y fs ih=>
  have hs:0≤(fs.map fun x=>(x.b.length:Int)).sum:=by
   clear ih h
   induction fs with
   | nil=>simp
   | cons z fs ih=>simp only[List.map_cons,List.sum_cons]; omega
  simp only[List.map_cons,List.sum_cons]
  rcases List.mem_cons.1 h with rfl | h
  ·omega
  ·have:=ih h; omega

theorem sum_nonneg (fs:List Fil):0≤(fs.map fun x=>(x.b.length:Int)).sum:=by
 induction fs with
 | nil=>simp
 | cons z fs ih=>simp only[List.map_cons,List.sum_cons]; omega

theorem Dsk.Ok.bnd {D:Dsk} (ok:D.Ok):0≤D.used∧D.used≤67108864∧∀ x∈D.files,(x.b.length:Int)≤D.used:=by
 have h1:=ok.room
 have h2:=ok.le
 have h3:=sum_nonneg D.files
 refine ⟨by rw[ok.used]; exact h3,by omega,fun x hx=>by rw[ok.used]; exact len_le_sum hx⟩

def OSync:RSpec:=fun args B r B'=>∃ (D:Dsk) (nm:ByteArray),D.Ok∧args= [.op 0,vs nm]∧B= [.obj [] (diskP D)]∧r=vi (syncD D nm).2∧B'= [.obj [] (diskP (syncD D nm).1)]

theorem SSync:SoundR DP iSync OSync:=(SO hfSync heSync hbSync).mono (by
 rintro args B r B' ⟨D,nm,ok,rfl,rfl,rfl,rfl⟩
 have hfu:=ok.fuse.2
 obtain ⟨ro,us,fs,dn,fu⟩:=D
 cases dn with
 | true=>
  refine obA (al:= [vs nm]) rfl rfl rfl (.refl _) (fun hid hh=> .inl ⟨by rw[hnSync]; rfl,_,TSync_d_chk ro us fu hid nm,?_⟩)
  unfold TSync_d
  exact wp_callr (dFind (.d ro us fu hid nm) []) (wp_leaf rfl ⟨rfl,rfl⟩)
 | false=>
  cases hg:(⟨ro,us,fs,false,fu⟩:Dsk).get nm with
  | none=>
   have hno:=get_none hg
   have h2:syncD ⟨ro,us,fs,false,fu⟩ nm=(⟨ro,us,fs,false,fu⟩,4):=by unfold syncD; rw[if_neg (by simp)]; simp only[hg]
   rw[h2]
   refine obA (al:= [vs nm]) rfl rfl rfl (.refl _) (fun hid hh=> .inl ⟨by rw[hnSync]; rfl,_,TSync_a_chk ro us fu hid nm,?_⟩)
   unfold TSync_a
   exact wp_callr (dFind (.a ro us fu hid _ nm hh hno) []) (wp_leaf rfl ⟨rfl,rfl⟩)
  | some x=>
   obtain ⟨hx,rfl⟩:=get_some hg
   by_cases he:stE fu=0
   ·have h2:syncD ⟨ro,us,fs,false,fu⟩ x.name=(⟨ro,us,repF fs {x with sure:=x.b.length},stD fu,stF fu⟩,0):=by
     unfold syncD; rw[if_neg (by simp)]; simp only[hg,he,ne_eq,not_true_eq_false,if_false]; rfl
    rw[h2]
    refine obP (x':={x with sure:=x.b.length}) (v:=0) (al:= [vs x.name]) ok.nod hx rfl rfl rfl (repF_perm (x':={x with sure:=(x.b.length:Int)}) ok.nod hx rfl) (fun hid hh=> .inl ⟨by rw[hnSync]; rfl,_,TSync_p_chk ro us fu hid x.b x.sure x.name,?_⟩)
    unfold TSync_p
    exact wp_callr (dFind (.p ro us fu hid _ x hh) []) (wp_callr (dStep ro us fu hid [x] (by simp) hfu []) (wp_sp (fun h=>absurd he (bne_true h)) (fun h=>wp_leaf rfl ⟨rfl,rfl⟩)))
   ·have h2:syncD ⟨ro,us,fs,false,fu⟩ x.name=(⟨ro,us,fs,stD fu,stF fu⟩,stE fu):=by
     unfold syncD; rw[if_neg (by simp)]; simp only[hg,ne_eq,he,not_false_eq_true,if_true]; rfl
    rw[h2]
    refine obP (x':=x) (v:=0) (al:= [vs x.name]) ok.nod hx rfl rfl rfl (delF_perm ok.nod hx).symm (fun hid hh=> .inl ⟨by rw[hnSync]; rfl,_,TSync_p_chk ro us fu hid x.b x.sure x.name,?_⟩)
    unfold TSync_p
    exact wp_callr (dFind (.p ro us fu hid _ x hh) []) (wp_callr (dStep ro us fu hid [x] (by simp) hfu []) (wp_sp (fun h=>wp_leaf rfl ⟨rfl,rfl⟩) (fun h=>absurd (bne_false h) he))))

def ORemove:RSpec:=fun args B r B'=>∃ (D:Dsk) (nm:ByteArray),D.Ok∧args= [.op 0,vs nm]∧B= [.obj [] (diskP D)]∧r=vi (removeD D nm).2∧B'= [.obj [] (diskP (removeD D nm).1)]

theorem SRemove:SoundR DP iRemove ORemove:=(SO hfRemove heRemove hbRemove).mono (by
 rintro args B r B' ⟨D,nm,ok,rfl,rfl,rfl,rfl⟩
 have hfu:=ok.fuse.2
 obtain ⟨b1,b2,b3⟩:=ok.bnd
 obtain ⟨ro,us,fs,dn,fu⟩:=D
 cases dn with
 | true=>
  refine obA (al:= [vs nm]) rfl rfl rfl (.refl _) (fun hid hh=> .inl ⟨by rw[hnRemove]; rfl,_,TRemove_d_chk ro us fu hid nm,?_⟩)
  unfold TRemove_d
  exact wp_callr (dFind (.d ro us fu hid nm) []) (wp_leaf rfl ⟨rfl,rfl⟩)
 | false=>
  cases hg:(⟨ro,us,fs,false,fu⟩:Dsk).get nm with
  | none=>
   have hno:=get_none hg
   have h2:removeD ⟨ro,us,fs,false,fu⟩ nm=(⟨ro,us,fs,false,fu⟩,4):=by unfold removeD; rw[if_neg (by simp)]; simp only[hg]
   rw[h2]
   refine obA (al:= [vs nm]) rfl rfl rfl (.refl _) (fun hid hh=> .inl ⟨by rw[hnRemove]; rfl,_,TRemove_a_chk ro us fu hid nm,?_⟩)
   unfold TRemove_a
   exact wp_callr (dFind (.a ro us fu hid _ nm hh hno) []) (wp_leaf rfl ⟨rfl,rfl⟩)
  | some x=>
   obtain ⟨hx,rfl⟩:=get_some hg
   have hxl:=b3 x hx
   simp only at b1 b2 hxl
   by_cases he:stE fu=0
   ·have h2:removeD ⟨ro,us,fs,false,fu⟩ x.name=(⟨ro,us - (x.b.length:Int),delF fs x.name,stD fu,stF fu⟩,0):=by
     unfold removeD; rw[if_neg (by simp)]; simp only[hg,he,ne_eq,not_true_eq_false,if_false]; rfl
    rw[h2]
    refine obG (al:= [vs x.name]) ok.nod hx rfl rfl rfl (.refl _) (fun hid hh=> .inl ⟨by rw[hnRemove]; rfl,_,TRemove_p_chk ro us fu hid x.b x.sure x.name,?_⟩)
    unfold TRemove_p
    refine wp_callr (dFind (.p ro us fu hid _ x hh) []) (wp_callr (dStep ro us fu hid [x] (by simp) hfu []) (wp_sp (fun h=>absurd he (bne_true h)) (fun h=>wp_i64 (by omega) (wp_val ?_ (wp_leaf rfl ⟨rfl,rfl⟩)))))
    exact del_v0 htMap htKey (ns:= []) (cs:= []) (c:= .ptr 2 0 0) (B:= [.cells false 0 ([vi ro,vi (us - ((x.b.length:Nat):Int)), .mp 1,vb (stD fu),vi (stF fu)]), .obj [.ptr 2 0 0] (mapP [.string x.name] hid), .cells false 0 ([.rs 3 0 1 0 x.b.length,vi x.sure]),byteE.bx 0 x.b]) rfl hh
   ·have h2:removeD ⟨ro,us,fs,false,fu⟩ x.name=(⟨ro,us,fs,stD fu,stF fu⟩,stE fu):=by
     unfold removeD; rw[if_neg (by simp)]; simp only[hg,ne_eq,he,not_false_eq_true,if_true]; rfl
    rw[h2]
    refine obP (x':=x) (v:=0) (al:= [vs x.name]) ok.nod hx rfl rfl rfl (delF_perm ok.nod hx).symm (fun hid hh=> .inl ⟨by rw[hnRemove]; rfl,_,TRemove_p_chk ro us fu hid x.b x.sure x.name,?_⟩)
    unfold TRemove_p
    exact wp_callr (dFind (.p ro us fu hid _ x hh) []) (wp_callr (dStep ro us fu hid [x] (by simp) hfu []) (wp_sp (fun h=>wp_leaf rfl ⟨rfl,rfl⟩) (fun h=>absurd (bne_false h) he))))

def OSize:RSpec:=fun args B r B'=>∃ (D:Dsk) (nm:ByteArray),D.Ok∧args= [.op 0,vs nm]∧B= [.obj [] (diskP D)]∧r= .tup [vi (sizeD D nm).1,vi (sizeD D nm).2]∧B'=B

theorem SSize:SoundR DP iSize OSize:=(SO hfSize heSize hbSize).mono (by
 rintro args B r B' ⟨D,nm,ok,rfl,rfl,rfl,rfl⟩
 obtain ⟨ro,us,fs,dn,fu⟩:=D
 cases dn with
 | true=>
  refine obA (al:= [vs nm]) rfl rfl rfl (.refl _) (fun hid hh=> .inl ⟨by rw[hnSize]; rfl,_,TSize_d_chk ro us fu hid nm,?_⟩)
  unfold TSize_d
  exact wp_callr (dFind (.d ro us fu hid nm) []) (wp_leaf rfl ⟨rfl,rfl⟩)
 | false=>
  cases hg:(⟨ro,us,fs,false,fu⟩:Dsk).get nm with
  | none=>
   have hno:=get_none hg
   have h2:sizeD ⟨ro,us,fs,false,fu⟩ nm=(0,4):=by unfold sizeD; rw[if_neg (by simp)]; simp only[hg]
   rw[h2]
   refine obA (al:= [vs nm]) rfl rfl rfl (.refl _) (fun hid hh=> .inl ⟨by rw[hnSize]; rfl,_,TSize_a_chk ro us fu hid nm,?_⟩)
   unfold TSize_a
   exact wp_callr (dFind (.a ro us fu hid _ nm hh hno) []) (wp_leaf rfl ⟨rfl,rfl⟩)
  | some x=>
   obtain ⟨hx,rfl⟩:=get_some hg
   have h2:sizeD ⟨ro,us,fs,false,fu⟩ x.name=((x.b.length:Int),0):=by unfold sizeD; rw[if_neg (by simp)]; simp only[hg]
   rw[h2]
   refine obP (x':=x) (v:=0) (al:= [vs x.name]) ok.nod hx rfl rfl rfl (delF_perm ok.nod hx).symm (fun hid hh=> .inl ⟨by rw[hnSize]; rfl,_,TSize_p_chk ro us fu hid x.b x.sure x.name,?_⟩)
   unfold TSize_p
   exact wp_callr (dFind (.p ro us fu hid _ x hh) []) (wp_leaf rfl ⟨rfl,rfl⟩))

def OAppend:RSpec:=fun args B r B'=>∃ (D:Dsk) (nm:ByteArray) (bs:List UInt8),D.Ok∧bs.length≤1000000000∧args= [.op 0,vs nm,vl (bs.map byteE.f)]∧B= [.obj [] (diskP D)]∧r=vi (appendD D nm bs).2∧B'= [.obj [] (diskP (appendD D nm bs).1)]

theorem SAppend:SoundR DP iAppend OAppend:=(SO hfAppend heAppend hbAppend).mono (by
 rintro args B r B' ⟨D,nm,bs,ok,hbs,rfl,rfl,rfl,rfl⟩
 have hfu:=ok.fuse.2
 obtain ⟨b1,b2,b3⟩:=ok.bnd
 have b4:=ok.room
 obtain ⟨ro,us,fs,dn,fu⟩:=D
 cases dn with
 | true=>
  refine obA (al:= [vs nm,vl (bs.map byteE.f)]) rfl rfl rfl (.refl _) (fun hid hh=> .inl ⟨by rw[hnAppend]; rfl,_,TAppend_d_chk ro us fu hid nm bs,?_⟩)
  unfold TAppend_d
  exact wp_callr (dFind (.d ro us fu hid nm) []) (wp_leaf rfl ⟨rfl,rfl⟩)
 | false=>
  cases hg:(⟨ro,us,fs,false,fu⟩:Dsk).get nm with
  | none=>
   have hno:=get_none hg
   have h2:appendD ⟨ro,us,fs,false,fu⟩ nm bs=(⟨ro,us,fs,false,fu⟩,4):=by unfold appendD; rw[if_neg (by simp)]; simp only[hg]
   rw[h2]
   refine obA (al:= [vs nm,vl (bs.map byteE.f)]) rfl rfl rfl (.refl _) (fun hid hh=> .inl ⟨by rw[hnAppend]; rfl,_,TAppend_a_chk ro us fu hid nm bs,?_⟩)
   unfold TAppend_a
   exact wp_callr (dFind (.a ro us fu hid _ nm hh hno) []) (wp_leaf rfl ⟨rfl,rfl⟩)
  | some x=>
   obtain ⟨hx,rfl⟩:=get_some hg
   have hxl:=b3 x hx
   simp only at b1 b2 b4 hxl
   by_cases hfull:(bs.length:Int)>ro - us
   ·have h2:appendD ⟨ro,us,fs,false,fu⟩ x.name bs=(⟨ro,us,fs,false,fu⟩,11):=by
     unfold appendD; rw[if_neg (by simp)]; simp only[hg,hfull,if_true]
    rw[h2]
    refine obP (x':=x) (v:=0) (al:= [vs x.name,vl (bs.map byteE.f)]) ok.nod hx rfl rfl rfl (delF_perm ok.nod hx).symm (fun hid hh=> .inl ⟨by rw[hnAppend]; rfl,_,TAppend_p_chk ro us fu hid x.b x.sure x.name bs,?_⟩)
    unfold TAppend_p
    exact wp_callr (dFind (.p ro us fu hid _ x hh) []) (wp_len (wp_i64 (by omega) (wp_sp (fun h=>wp_leaf rfl ⟨rfl,rfl⟩) (fun h=>absurd hfull (of_decide_eq_false h)))))
   ·by_cases he:stE fu=0
    ·have h2:appendD ⟨ro,us,fs,false,fu⟩ x.name bs=(⟨ro,us+(bs.length:Int),repF fs {x with b:=x.b++bs},stD fu,stF fu⟩,0):=by
      unfold appendD; rw[if_neg (by simp)]; simp only[hg,hfull,if_false,he,ne_eq,not_true_eq_false]; rfl
     rw[h2]
     refine obP (x':={x with b:=x.b++bs}) (v:=1) (al:= [vs x.name,vl (bs.map byteE.f)]) ok.nod hx rfl rfl rfl (repF_perm (x':={x with b:=x.b++bs}) ok.nod hx rfl) (fun hid hh=> .inl ⟨by rw[hnAppend]; rfl,_,TAppend_p_chk ro us fu hid x.b x.sure x.name bs,?_⟩)
     unfold TAppend_p
     exact wp_callr (dFind (.p ro us fu hid _ x hh) []) (wp_len (wp_i64 (by omega) (wp_sp (fun h=>absurd (of_decide_eq_true h) hfull) (fun h=>wp_callr (dStep ro us fu hid [x] (by simp) hfu []) (wp_sp (fun h=>absurd he (bne_true h)) (fun h=>wp_app rfl rfl (by simp only[List.length_append]; omega) (wp_len (wp_i64 (by omega) (wp_leaf rfl ⟨rfl,rfl⟩)))))))))
    ·have h2:appendD ⟨ro,us,fs,false,fu⟩ x.name bs=(⟨ro,us,fs,stD fu,stF fu⟩,stE fu):=by
      unfold appendD; rw[if_neg (by simp)]; simp only[hg,hfull,if_false,ne_eq,he,not_false_eq_true,if_true]; rfl
     rw[h2]
     refine obP (x':=x) (v:=0) (al:= [vs x.name,vl (bs.map byteE.f)]) ok.nod hx rfl rfl rfl (delF_perm ok.nod hx).symm (fun hid hh=> .inl ⟨by rw[hnAppend]; rfl,_,TAppend_p_chk ro us fu hid x.b x.sure x.name bs,?_⟩)
     unfold TAppend_p
     exact wp_callr (dFind (.p ro us fu hid _ x hh) []) (wp_len (wp_i64 (by omega) (wp_sp (fun h=>absurd (of_decide_eq_true h) hfull) (fun h=>wp_callr (dStep ro us fu hid [x] (by simp) hfu []) (wp_sp (fun h=>wp_leaf rfl ⟨rfl,rfl⟩) (fun h=>absurd (bne_false h) he)))))))

end Go.Ax
