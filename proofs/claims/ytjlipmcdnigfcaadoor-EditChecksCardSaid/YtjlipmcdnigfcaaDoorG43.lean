/- Trees, printed by gen/w1.py. -/
import Derived.Test.YtjlipmcdnigfcaaDoorG42
import Derived.Test.YtjlipmcdnigfcaaDoorG26
import Derived.Test.YtjlipmcdnigfcaaDoorTie
import Derived.Test.YtjlipmcdnigfcaaDoorG10
import Derived.OpenShut
import Derived.WalkKit
import Derived.ProofKit
import Derived.LaidMore
import Derived.LaidLaws
import Derived.LaidHandle
import Derived.Lib.LaidTab
import Derived.Stop.Joined
import Derived.Test.YtjlipmcdnigfcaaDoorG36
set_option linter.unusedVariables false
set_option linter.unusedSimpArgs false
set_option linter.unusedSectionVars false
namespace Go.Ax
open Go.Proofs Go.RowKit
set_option maxRecDepth 100000

noncomputable def ΓC:Env:=envP [(29,gHeadE),(30,gBig),(32,gLChk),(31,g15),(33,gOf)]

abbrev iEditChecks:Nat:=7
noncomputable abbrev nEditChecks:Func:=Tryd.f7
theorem hfEditChecks:DP.funcs[iEditChecks]? = some nEditChecks:=by kernel_rfl
theorem heEditChecks:enters DP iEditChecks=true:=by kernel_rfl
theorem hbEditChecks:nEditChecks.body.isSome=true:=by kernel_rfl
noncomputable def TECs_l1_e (v:Vers) (lv:Int) (s1:Int×Int):St:=([(1,vi lv),(2, .ptr 0 0 0),(5,vl ((ofL lv v.files).map metaE.f)),(6,vi s1.2),(27,vl (v.files.map metaE.f)),(28,vi (v.files.length:Int)),(29,vi s1.1)],[veB v])
noncomputable def TECs_l1_x (v:Vers) (lv:Int) (x1:Int):AE×St:=((.exit 0),([(1,vi lv),(2, .ptr 0 0 0),(5,vl ((ofL lv v.files).map metaE.f)),(6,vi x1)],[veB v]))
noncomputable def TECs_l1_b (v:Vers) (lv:Int) (s1:Int×Int):Tree:=
.sp 30 (decide (s1.1<(v.files.length:Int))) (
.elem 31 (v.files.map metaE.f) metaE v.files s1.1 (fun e1=> .sp 36 (e1.level == lv) (
.int 38 (IntKind.i64.wrap (s1.2+1)) (s1.2+1) (.int 39 (IntKind.i64.wrap (s1.1+1)) (s1.1+1) (.leaf ⟨[1,2,5,6,27,28,29],[(0,0,none)]⟩ [] .normal (some (TECs_l1_e v lv (s1.1+1,s1.2+1)))))) (
.int 39 (IntKind.i64.wrap (s1.1+1)) (s1.1+1) (.leaf ⟨[1,2,5,6,27,28,29],[(0,0,none)]⟩ [] .normal (some (TECs_l1_e v lv (s1.1+1,s1.2))))))) (
.leaf ⟨[1,2,5,6],[(0,0,none)]⟩ [] (.exit 0) (some (TECs_l1_x v lv s1.2).2))
noncomputable def TECs_l2_e (v:Vers) (lv:Int) (s2:Int):St:=([(1,vi lv),(2, .ptr 0 0 0),(5,vl ((ofL lv v.files).map metaE.f)),(47,vl ((ofL lv v.files).map metaE.f)),(48,vi ((ofL lv v.files).length:Int)),(49,vi s2)],[veB v])
noncomputable def TECs_l2_x (x2:Unit):AE×St:=(.ret,([(4,vb false)],[]))
noncomputable def TECs_l2_x' (y2:Unit):AE×St:=((.exit 2),([],[]))
noncomputable def TECs_l3_e (v:Vers) (lv:Int) (s2:Int) (e2:Meta) (s3:Bool×Int):St:=([(1,vi lv),(2, .ptr 0 0 0),(5,vl ((ofL lv v.files).map metaE.f)),(9,vi s2),(10, .ptr 1 0 0),(11,vb s3.1),(47,vl ((ofL lv v.files).map metaE.f)),(48,vi ((ofL lv v.files).length:Int)),(49,vi s2),(55,vl (v.files.map metaE.f)),(56,vi (v.files.length:Int)),(57,vi s3.2)],[veB v, .cells false 0 ([vi e2.num,vi e2.level,vs e2.low,vs e2.high,vi e2.size])])
noncomputable def TECs_l3_x (v:Vers) (lv:Int) (s2:Int) (e2:Meta) (x3:Bool):AE×St:=((.exit 4),([(1,vi lv),(2, .ptr 0 0 0),(5,vl ((ofL lv v.files).map metaE.f)),(9,vi s2),(10, .ptr 1 0 0),(11,vb x3),(47,vl ((ofL lv v.files).map metaE.f)),(48,vi ((ofL lv v.files).length:Int)),(49,vi s2)],[veB v, .cells false 0 ([vi e2.num,vi e2.level,vs e2.low,vs e2.high,vi e2.size])]))
noncomputable def TECs_l3_b (v:Vers) (lv:Int) (s2:Int) (e2:Meta) (s3:Bool×Int):Tree:=
.sp 58 (decide (s3.2<(v.files.length:Int))) (
.elem 59 (v.files.map metaE.f) metaE v.files s3.2 (fun e3=> .sp 61 s3.1 (
.int 67 (IntKind.i64.wrap (s3.2+1)) (s3.2+1) (.leaf ⟨[1,2,5,9,10,11,47,48,49,55,56,57],[(0,0,none),(1,0,none)]⟩ [] .normal (some (TECs_l3_e v lv s2 e2 (true,s3.2+1))))) (
.sp 65 (((e3.num:Int) == (e2.num:Int))&&(((e3.level:Int) == (e2.level:Int))&&(((e3.low:ByteArray).toList == (e2.low:ByteArray).toList)&&(((e3.high:ByteArray).toList == (e2.high:ByteArray).toList)&&(((e3.size:Int) == (e2.size:Int))&&true))))) (
.int 67 (IntKind.i64.wrap (s3.2+1)) (s3.2+1) (.leaf ⟨[1,2,5,9,10,11,47,48,49,55,56,57],[(0,0,none),(1,0,none)]⟩ [] .normal (some (TECs_l3_e v lv s2 e2 (true,s3.2+1))))) (
.int 67 (IntKind.i64.wrap (s3.2+1)) (s3.2+1) (.leaf ⟨[1,2,5,9,10,11,47,48,49,55,56,57],[(0,0,none),(1,0,none)]⟩ [] .normal (some (TECs_l3_e v lv s2 e2 (false,s3.2+1)))))))) (
.leaf ⟨[1,2,5,9,10,11,47,48,49],[(0,0,none),(1,0,none)]⟩ [] (.exit 4) (some (TECs_l3_x v lv s2 e2 s3.1).2))
noncomputable def TECs_l2_b (v:Vers) (lv:Int) (s2:Int):Tree:=
.sp 50 (decide (s2<((ofL lv v.files).length:Int))) (
.elem 52 ((ofL lv v.files).map metaE.f) metaE (ofL lv v.files) s2 (fun e2=> .int 56 ((v.files.map metaE.f).length:Int) (v.files.length:Int) (.loop ⟨[1,2,5,9,10,11,47,48,49,55,56,57],[(0,0,none),(1,0,none)]⟩ [] (some (TECs_l3_e v lv s2 e2 (false,0))) (TECs_l3_e v lv s2 e2) (TECs_l3_x v lv s2 e2) noX (false,0) (TECs_l3_b v lv s2 e2) (fun (x3:Bool)=> .sp 68 x3 (
.sp 74 (e2.level != lv) (
.leaf ⟨[4],[]⟩ [] .ret (some (TECs_l2_x ()).2)) (
.sp 77 (decide (s2>(0:Int))) (
.sp 80 (lv == (0:Int)) (
.int 84 (IntKind.i64.wrap (s2 - 1)) (s2 - 1) (.elem 85 ((ofL lv v.files).map metaE.f) metaE (ofL lv v.files) (s2 - 1) (fun e4=> .sp 90 (decide (e4.num≤e2.num)) (
.leaf ⟨[4],[]⟩ [] .ret (some (TECs_l2_x ()).2)) (
.sp 94 (decide (lv>(0:Int))) (
.int 98 (IntKind.i64.wrap (s2 - 1)) (s2 - 1) (.elemk 99 ((ofL lv v.files).map metaE.f) metaE (ofL lv v.files) (s2 - 1) e4 (.sp 104 (!(Op.bytesLess e4.high.toList e2.low.toList)) (
.leaf ⟨[4],[]⟩ [] .ret (some (TECs_l2_x ()).2)) (
.int 108 (IntKind.i64.wrap (s2+1)) (s2+1) (.leaf ⟨[1,2,5,47,48,49],[(0,0,none)]⟩ [] .normal (some (TECs_l2_e v lv (s2+1)))))))) (
.int 108 (IntKind.i64.wrap (s2+1)) (s2+1) (.leaf ⟨[1,2,5,47,48,49],[(0,0,none)]⟩ [] .normal (some (TECs_l2_e v lv (s2+1))))))))) (
.sp 94 (decide (lv>(0:Int))) (
.int 98 (IntKind.i64.wrap (s2 - 1)) (s2 - 1) (.elem 99 ((ofL lv v.files).map metaE.f) metaE (ofL lv v.files) (s2 - 1) (fun e5=> .sp 104 (!(Op.bytesLess e5.high.toList e2.low.toList)) (
.leaf ⟨[4],[]⟩ [] .ret (some (TECs_l2_x ()).2)) (
.int 108 (IntKind.i64.wrap (s2+1)) (s2+1) (.leaf ⟨[1,2,5,47,48,49],[(0,0,none)]⟩ [] .normal (some (TECs_l2_e v lv (s2+1)))))))) (
.int 108 (IntKind.i64.wrap (s2+1)) (s2+1) (.leaf ⟨[1,2,5,47,48,49],[(0,0,none)]⟩ [] .normal (some (TECs_l2_e v lv (s2+1))))))) (
.int 108 (IntKind.i64.wrap (s2+1)) (s2+1) (.leaf ⟨[1,2,5,47,48,49],[(0,0,none)]⟩ [] .normal (some (TECs_l2_e v lv (s2+1))))))) (
.leaf ⟨[4],[]⟩ [] .ret (some (TECs_l2_x ()).2))) (fun _=> .stuck)))) (
.leaf ⟨[],[]⟩ [] (.exit 2) (some (TECs_l2_x' ()).2))
noncomputable def TECs (v:Vers) (lv:Int):Tree:=
.call 14 (gHeadE []=some (vb true)) (vb true) (.call 17 (gBig [.agg [vl (v.files.map metaE.f),vi v.log,vi v.next,vn .u64 v.seq]]=some (vb (bigB v))) (vb (bigB v)) (.sp 17 (bigB v) (
.leaf ⟨[0],[]⟩ [] .ret (some ([(0,vb true)],[]))) (
.call 19 (g15 [.agg [vl (v.files.map metaE.f),vi v.log,vi v.next,vn .u64 v.seq]]=some (vi (Vers.check v))) (vi (Vers.check v)) (.call 21 (gLChk [.agg [vl (v.files.map metaE.f),vi v.log,vi v.next,vn .u64 v.seq]]=some (vi (Vers.check v))) (vi (Vers.check v)) (.sp 22 ((Vers.check v) != (Vers.check v)) (
.leaf ⟨[0],[]⟩ [] .ret (some ([(0,vb false)],[]))) (
.call 25 (gOf [.agg [vl (v.files.map metaE.f),vi v.log,vi v.next,vn .u64 v.seq],vi lv]=some (vl ((ofL lv v.files).map metaE.f))) (vl ((ofL lv v.files).map metaE.f)) (.int 28 ((v.files.map metaE.f).length:Int) (v.files.length:Int) (.loop ⟨[1,2,5,6,27,28,29],[(0,0,none)]⟩ [] (some (TECs_l1_e v lv (0,0))) (TECs_l1_e v lv) (TECs_l1_x v lv) noX (0,0) (TECs_l1_b v lv) (fun (x1:Int)=> .int 41 (((ofL lv v.files).map metaE.f).length:Int) ((ofL lv v.files).length:Int) (.sp 43 (((ofL lv v.files).length:Int) != x1) (
.leaf ⟨[0],[]⟩ [] .ret (some ([(0,vb false)],[]))) (
.call 45 (gLChk [.agg [vl (v.files.map metaE.f),vi v.log,vi v.next,vn .u64 v.seq]]=some (vi (Vers.check v))) (vi (Vers.check v)) (.sp 46 ((Vers.check v) != (0:Int)) (
.leaf ⟨[0],[]⟩ [] .ret (some ([(0,vb true)],[]))) (
.int 48 (((ofL lv v.files).map metaE.f).length:Int) ((ofL lv v.files).length:Int) (.loop ⟨[1,2,5,47,48,49],[(0,0,none)]⟩ [] (some (TECs_l2_e v lv 0)) (TECs_l2_e v lv) (TECs_l2_x) (TECs_l2_x') 0 (TECs_l2_b v lv) (fun (x2:Unit)=> .leaf ⟨[0],[]⟩ [] .ret (some ([(0,vb false)],[]))) (fun (y2:Unit)=> .leaf ⟨[0],[]⟩ [] .ret (some ([(0,vb true)],[]))))))))) (fun _=> .stuck)))))))))

theorem TECs_chk (v:Vers) (lv:Int):fnC DP ΓC Δ0 Tryd.f7 [.agg [vl (v.files.map metaE.f),vi v.log,vi v.next,vn .u64 v.seq],vi lv] [] (TECs v lv)=TECs v lv:=by kernel_rfl

end Go.Ax

namespace Go.Ax
open Go.Proofs Go.RowKit
set_option maxRecDepth 100000

theorem ΓC_ok:∀ f,SoundF DP f (ΓC f):=envP_cons SHeadE<|envP_cons SBig<|envP_cons SLChk<|envP_cons sound15<|envP_cons sound17 envP_nil
theorem meta_eq {a b:Meta}:(((a.num:Int) == (b.num:Int))&&(((a.level:Int) == (b.level:Int))&&(((a.low:ByteArray).toList == (b.low:ByteArray).toList)&&(((a.high:ByteArray).toList == (b.high:ByteArray).toList)&&(((a.size:Int) == (b.size:Int))&&true)))))=true↔a=b:=
 ⟨meta_eq_of,fun h=>by subst h; simp⟩
section
variable {v : Vers} {lv : Int}
theorem ec_count (hv:v.files.length≤1000):∀ (suf pre:List Meta) (n:Nat),v.files=pre++suf→n≤pre.length →
  Rounds (TECs_l1_e v lv) (TECs_l1_x v lv) noX (fun s=>(TECs_l1_b v lv s).wp) ((pre.length:Int),(n:Int)) (.inl ((n+(suf.filter fun m=>m.level == lv).length:Nat):Int))
 | [],pre,n,h,hn=>by
  have e:v.files.length=pre.length:=by rw[h]; simp
  refine .done (by simp[TECs_l1_x]) ?_
  unfold TECs_l1_b
  exact wp_sp (fun h'=>absurd (of_decide_eq_true h') (by simp only; omega)) (fun _=>wp_leaf rfl ⟨rfl,rfl⟩)
 | m::suf,pre,n,h,hn=>by
  have e:v.files.length=pre.length+(suf.length+1):=by rw[h]; simp
  have hm:v.files[Int.toNat (pre.length:Int)]? = some m:=by rw[h]; simp
  have hnx:v.files=(pre++ [m])++suf:=by rw[h]; simp
  have hlen:((pre++ [m]).length:Int)=(pre.length:Int)+1:=by simp
  cases hl:m.level == lv with
  | true=>
   have ih:=ec_count hv suf (pre++ [m]) (n+1) hnx (by simp; omega)
   rw[List.filter_cons_of_pos (p:=fun m:Meta=>m.level == lv) hl,List.length_cons,show n+((suf.filter fun m=>m.level == lv).length+1)=n+1+(suf.filter fun m=>m.level == lv).length by omega]
   rw[hlen,show ((n+1:Nat):Int)=(n:Int)+1 by omega] at ih
   refine .next ?_ ih
   unfold TECs_l1_b
   exact wp_sp (fun _=>wp_elem m (by simp only; omega) hm (wp_sp (fun _=>wp_i64 (by simp only; omega) (wp_i64 (by simp only; omega) (wp_leaf rfl ⟨rfl,rfl⟩))) (fun h=>by rw[hl] at h; cases h))) (fun h'=>absurd (of_decide_eq_false h') (by simp only; omega))
  | false=>
   have ih:=ec_count hv suf (pre++ [m]) n hnx (by simp; omega)
   rw[List.filter_cons_of_neg (p:=fun m:Meta=>m.level == lv) (by simp[hl])]
   rw[hlen] at ih
   refine .next ?_ ih
   unfold TECs_l1_b
   exact wp_sp (fun _=>wp_elem m (by simp only; omega) hm (wp_sp (fun h=>by rw[hl] at h; cases h) (fun _=>wp_i64 (by simp only; omega) (wp_leaf rfl ⟨rfl,rfl⟩)))) (fun h'=>absurd (of_decide_eq_false h') (by simp only; omega))
theorem ec_in {m:Meta} {s:Int} (hv:v.files.length≤1000):∀ (suf pre:List Meta) (b:Bool),v.files=pre++suf→(b=true∨m∈suf) →
  Rounds (TECs_l3_e v lv s m) (TECs_l3_x v lv s m) noX (fun q=>(TECs_l3_b v lv s m q).wp) (b,(pre.length:Int)) (.inl true)
 | [],pre,b,h,hb=>by
  have e:v.files.length=pre.length:=by rw[h]; simp
  obtain rfl:b=true:=hb.resolve_right (by simp)
  refine .done (by simp[TECs_l3_x]) ?_
  unfold TECs_l3_b
  exact wp_sp (fun h'=>absurd (of_decide_eq_true h') (by simp only; omega)) (fun _=>wp_leaf rfl ⟨rfl,rfl⟩)
 | x::suf,pre,b,h,hb=>by
  have e:v.files.length=pre.length+(suf.length+1):=by rw[h]; simp
  have hm:v.files[Int.toNat (pre.length:Int)]? = some x:=by rw[h]; simp
  have hnx:v.files=(pre++ [x])++suf:=by rw[h]; simp
  have hlen:((pre++ [x]).length:Int)=(pre.length:Int)+1:=by simp
  have yes:Rounds (TECs_l3_e v lv s m) (TECs_l3_x v lv s m) noX (fun q=>(TECs_l3_b v lv s m q).wp) (true,(pre.length:Int)+1) (.inl true):=by
   rw[←hlen]; exact ec_in hv suf (pre++ [x]) true hnx (.inl rfl)
  cases b with
  | true=>
   refine .next ?_ yes
   unfold TECs_l3_b
   exact wp_sp (fun _=>wp_elem x (by simp only; omega) hm (wp_sp (fun _=>wp_i64 (by simp only; omega) (wp_leaf rfl ⟨rfl,rfl⟩)) (fun h=>by cases h))) (fun h'=>absurd (of_decide_eq_false h') (by simp only; omega))
  | false=>
   by_cases hx:x=m
   ·refine .next ?_ yes
    unfold TECs_l3_b
    exact wp_sp (fun _=>wp_elem x (by simp only; omega) hm (wp_sp (fun h=>by cases h) (fun _=>wp_sp (fun _=>wp_i64 (by simp only; omega) (wp_leaf rfl ⟨rfl,rfl⟩)) (fun h=>by rw[meta_eq.2 hx] at h; cases h)))) (fun h'=>absurd (of_decide_eq_false h') (by simp only; omega))
   ·have hb:m∈suf:=by
     rcases List.mem_cons.1 (hb.resolve_left (by simp)) with h | h
     ·exact absurd h.symm hx
     ·exact h
    have ih:=ec_in (s:=s) hv suf (pre++ [x]) false hnx (.inr hb)
    rw[hlen] at ih
    refine .next ?_ ih
    unfold TECs_l3_b
    exact wp_sp (fun _=>wp_elem x (by simp only; omega) hm (wp_sp (fun h=>by cases h) (fun _=>wp_sp (fun h=>absurd (meta_eq.1 h) hx) (fun _=>wp_i64 (by simp only; omega) (wp_leaf rfl ⟨rfl,rfl⟩))))) (fun h'=>absurd (of_decide_eq_false h') (by simp only; omega))
theorem c0_ordr:Ordr (cOf 0) (fun m=>1≤m.num∧m.num≤1073741824) where
 asym x y hx hy h:=by
  have e:∀ a b:Meta,cOf 0 a b=IntKind.i64.wrap (b.num - a.num):=fun a b=>rfl
  rw[e,wrap_i64 (by omega)] at h ⊢
  omega
 trans x y z hx hy hz h g:=by
  have e:∀ a b:Meta,cOf 0 a b=IntKind.i64.wrap (b.num - a.num):=fun a b=>rfl
  rw[e,wrap_i64 (by omega)] at h g ⊢
  omega
theorem of_step (hr:Right v) {i:Nat} (h1:0<i) (hi:i<(ofL lv v.files).length):
  (lv=0→(at' (ofL lv v.files) i).num<(at' (ofL lv v.files) (i - 1)).num)∧(0<lv→Op.bytesLess (at' (ofL lv v.files) (i - 1)).high.toList (at' (ofL lv v.files) i).low.toList=true):=by
 have hl:v.files.length≤1000000:=by have:=hr.len; omega
 have hp:=ofL_perm lv hl
 have hmem:∀ m∈ofL lv v.files,m∈v.files∧m.level=lv:=fun m hm=>by
  have:=List.mem_filter.mp (hp.mem_iff.mp hm)
  exact ⟨this.1,by simpa using this.2⟩
 have hfl:(v.files.filter fun m=>m.level == lv).length≤1000000:=Nat.le_trans (List.length_filter_le _ _) hl
 constructor
 ·rintro rfl
  have hs:Sorted (cOf 0) (ofL 0 v.files) 0 (v.files.filter fun m=>m.level == 0).length:=(sortOf_spec 0 hfl).2.2 _ c0_ordr (fun x hx=>by
   have:=(hr.ok x (List.mem_filter.1 hx).1).1
   simp only[Meta.ok,Bool.and_eq_true,decide_eq_true_eq] at this
   omega)
  have h2:=hs (i - 1) i (by omega) (by omega) (by rw[←hp.length_eq]; exact hi)
  rw[at_eq hi,at_eq (by omega)] at h2 ⊢
  have m1:=hmem _ (List.getElem_mem hi)
  have m2:=hmem _ (List.getElem_mem (show i - 1<(ofL 0 v.files).length by omega))
  have o1:=(hr.ok _ m1.1).1
  have o2:=(hr.ok _ m2.1).1
  simp only[Meta.ok,Bool.and_eq_true,decide_eq_true_eq] at o1 o2
  have e:∀ a b:Meta,cOf 0 a b=IntKind.i64.wrap (b.num - a.num):=fun a b=>rfl
  rw[e,wrap_i64 (by omega)] at h2
  have hne:(ofL 0 v.files)[i].num≠(ofL 0 v.files)[i - 1].num:=fun he=>by
   have hnd:(v.files.filter fun m=>m.level == 0).Pairwise (fun a b=>a.num≠b.num):=(hr.up.imp fun {a b} h=>(by omega:a.num≠b.num)).filter _
   have:=(hp.pairwise_iff (fun {a b} (h:a.num≠b.num)=>h.symm)).mpr hnd
   exact List.pairwise_iff_getElem.1 this (i - 1) i (by omega) hi (by omega) he.symm
  omega
 ·intro hlv
  have m1:=hmem _ (List.getElem_mem hi)
  have o1:=(hr.ok _ m1.1).1
  simp only[Meta.ok,Bool.and_eq_true,decide_eq_true_eq] at o1
  have:=hr.lev lv (by omega) (by omega)
  unfold levelOk at this
  rw[List.all_eq_true] at this
  have:=this (i - 1) (by simp; omega)
  rwa[show i - 1+1=i by omega] at this
theorem ec_list (hr:Right v):∀ (k i:Nat),i+k=(ofL lv v.files).length→Rounds (TECs_l2_e v lv) TECs_l2_x TECs_l2_x' (fun s=>(TECs_l2_b v lv s).wp) (i:Int) (.inr ()):=by
 have hl:v.files.length≤1000:=hr.len
 have hle:=ofL_len lv (show v.files.length≤1000000 by omega)
 have hp:=ofL_perm lv (show v.files.length≤1000000 by omega)
 intro k
 induction k with
 | zero=>
  intro i hi
  refine .done' (by simp[TECs_l2_x']) ?_
  unfold TECs_l2_b
  exact wp_sp (fun h'=>absurd (of_decide_eq_true h') (by omega)) (fun _=>wp_leaf rfl ⟨rfl,rfl⟩)
 | succ k ih=>
  intro i hi
  have ih:=ih (i+1) (by omega)
  have ha:(ofL lv v.files)[Int.toNat (i:Int)]? = some (at' (ofL lv v.files) i):=at_get (by omega)
  have hm:at' (ofL lv v.files) i∈ofL lv v.files:=List.mem_of_getElem? ha
  have hm:=List.mem_filter.1 (hp.mem_iff.1 hm)
  have l3:=ec_in (v:=v) (lv:=lv) (m:=at' (ofL lv v.files) i) (s:=(i:Int)) hl v.files [] false rfl (.inr hm.1)
  refine .next ?_ ih
  unfold TECs_l2_b
  refine wp_sp (fun _=>wp_elem _ (by omega) ha (wp_len (wp_loop _ rfl l3 (wp_sp (fun _=>wp_sp (fun h=>?_) (fun _=>wp_sp (fun h=>?_) (fun _=>wp_i64 (by omega) (wp_leaf rfl ⟨rfl,rfl⟩)))) (fun h=>by cases h))))) (fun h'=>absurd (of_decide_eq_false h') (by omega))
  ·have:(at' (ofL lv v.files) i).level=lv:=by simpa using hm.2
   rw[this] at h
   simp at h
  ·have h0:0<i:=by have:=of_decide_eq_true h; omega
   obtain ⟨s1,s2⟩:=of_step (lv:=lv) hr h0 (by omega)
   have hb:(ofL lv v.files)[Int.toNat ((i:Int) - 1)]? = some (at' (ofL lv v.files) (i - 1)):=by rw[toN1]; exact at_get (by omega)
   refine wp_sp (fun e=>?_) (fun e=>?_)
   ·have e:lv=0:=by simpa using e
    have s1:=s1 e
    exact wp_i64 (by omega) (wp_elem _ (by omega) hb (wp_sp (fun h=>by have:=of_decide_eq_true h; omega) (fun _=>wp_sp (fun h=>by have:=of_decide_eq_true h; omega) (fun _=>wp_i64 (by omega) (wp_leaf rfl ⟨rfl,rfl⟩)))))
   ·refine wp_sp (fun g=>?_) (fun _=>wp_i64 (by omega) (wp_leaf rfl ⟨rfl,rfl⟩))
    have s2:=s2 (of_decide_eq_true g)
    exact wp_i64 (by omega) (wp_elem _ (by omega) hb (wp_sp (fun h=>by rw[s2] at h; cases h) (fun _=>wp_i64 (by omega) (wp_leaf rfl ⟨rfl,rfl⟩))))
end
def REditChecks:List AV→AV→Prop:=fun args r=>∃ (v:Vers) (lv:Int),v.files.length≤9223372036854775807∧0≤v.seq∧args= [versA v,vi lv]∧r=vb true
theorem SEditChecks:SoundF DP iEditChecks (.pure (relG REditChecks)):=sound_pureT mixedD ΓC_ok Δ0_ok hfEditChecks heEditChecks hbEditChecks (by
 rintro args r ⟨v,lv,_,_,rfl,rfl⟩
 refine ⟨rfl,rfl,_,TECs_chk v lv,?_⟩
 unfold TECs
 refine wp_call gHeadE_eq (wp_call (gBig_eq v) (wp_sp (fun _=>wp_leaf rfl (.p _)) (fun hb=>?_)))
 have hb:v.files.length≤30:=by have:=of_decide_eq_false hb; omega
 have hp:=ofL_perm lv (show v.files.length≤1000000 by omega)
 have l1:=ec_count (v:=v) (lv:=lv) (by omega) v.files [] 0 rfl (Nat.le_refl _)
 rw[Nat.zero_add,←hp.length_eq] at l1
 refine wp_call (g15_eq v) (wp_call (gLChk_eq v) (wp_sp (fun h=>by simp at h) (fun _=>wp_call (gOf_eq (by omega)) (wp_len (wp_loop _ rfl l1 (wp_len (wp_sp (fun h=>by simp at h) (fun _=>wp_call (gLChk_eq v) (wp_sp (fun _=>wp_leaf rfl (.p _)) (fun hc=>wp_len ?_))))))))))
 have hr:Right v:=right_of (by simpa using hc)
 exact wp_loop' _ rfl (ec_list hr (ofL lv v.files).length 0 (by omega)) (wp_leaf rfl (.p _)))
end Go.Ax

namespace Go.Ax
open Go.Proofs Go.ChangeShapes Go.WideShapes Go.ChangeAt Go.RowKit
set_option maxRecDepth 100000

theorem tabRel {W:World} {g:Nat} {us:Array Value} {e:TypeId} {fr:Nat×Nat} (hh:W.heap[g]? = some (.cells us e fr)) (hu:us.toList.map PV.v=Glob.tab g):∀ ρ,GRel noF [] ρ W g:=fun ρ=>by
 have hl:(Glob.tab g).length=us.toList.length:=by rw[←hu]; simp
 refine ⟨.rp _ ⟨g,0,none⟩ us.toList rfl not_own (Array.getElem?_eq_some_iff.1 hh).1 hl (fun j u hj=>?_) (fun j p u hp hv=>?_),us,e,fr,hh,by rw[hl]; simp⟩
 ·rw[Addr.add_lit,Nat.zero_add,cell_of hh]
  simpa using hj
 ·rw[←hu,List.getElem?_map,hv] at hp
  cases hp
  exact .v _

theorem var_block {P:Program} {W:World} {n:String} {g:Nat} {cs:Array Value} (hg:P.globalNamed n=some g) (h:W.var? P n=some cs):∃ e fr,W.heap[g]? = some (.cells cs e fr):=by
 unfold World.var? at h
 rw[hg,Option.bind_some] at h
 split at h
 ·rename_i cs' e fr hc
  cases h
  exact ⟨e,fr,hc⟩
 ·cases h

abbrev laid4 : List (String × DataW Unit) := [("math/bits.deBruijn32tab", YtjlipmcdnigfcaaDoor.Rows.laid_math_bits_deBruijn32tab), ("math/bits.deBruijn64tab", YtjlipmcdnigfcaaDoor.Rows.laid_math_bits_deBruijn64tab), ("internal/strconv.uint64pow10", YtjlipmcdnigfcaaDoor.Rows.laid_internal_strconv_uint64pow10), ("tailrace/crc.halves", YtjlipmcdnigfcaaDoor.Rows.laid_tailrace_crc_halves)]

theorem gHalves : DP.globalNamed "tailrace/crc.halves" = some 0 := by kernel_rfl
theorem gPow : DP.globalNamed "internal/strconv.uint64pow10" = some 3 := by kernel_rfl
theorem tHalves:(DP.globals[0]?).map (·.type)=some 169:=by kernel_rfl

theorem tPow:(DP.globals[3]?).map (·.type)=some 188:=by kernel_rfl

theorem globW_of {W:World} (h:laidMetH DP laid4 W):GlobW W:=by
 rw[MakeChecks.laidMetH_plain _ _ _ (by kernel_rfl)] at h
 obtain ⟨ps,⟨g0,t0,cs0,f0,p0,q0,hg0,ht0,hv0,hd0,⟨g1,t1,cs1,f1,p1,q1,hg1,ht1,hv1,hd1,⟨g2,t2,cs2,f2,p2,q2,hg2,ht2,hv2,hd2,⟨g3,t3,cs3,f3,p3,q3,hg3,ht3,hv3,hd3,_,_⟩,_⟩,_⟩,_⟩,_,_⟩:=h
 obtain rfl:=Option.some.inj (gPow.symm.trans hg2)
 obtain rfl:=Option.some.inj (gHalves.symm.trans hg3)
 obtain rfl:=Option.some.inj (tPow.symm.trans ht2)
 obtain rfl:=Option.some.inj (tHalves.symm.trans ht3)
 have c2:=Lib.cells_of_tab (k:= .u64) (zs:=Lib.pow10Tab) (n:=20) (e:=46) (by kernel_rfl) (by kernel_rfl) (by kernel_rfl) (by kernel_rfl) hd2
 have c3:=Lib.cells_of_tab (k:= .u32) (zs:=halvesL) (n:=16) (e:=137) (by kernel_rfl) (by kernel_rfl) (by kernel_rfl) (by kernel_rfl) hd3
 obtain ⟨e2,r2,b2⟩:=var_block hg2 hv2
 obtain ⟨e3,r3,b3⟩:=var_block hg3 hv3
 intro g hg
 match g with
 | 0=>exact tabRel b3 (by rw[c3]; rfl)
 | 3=>exact tabRel b2 (by rw[c2]; rfl)
 | 1=>exact absurd rfl hg
 | 2=>exact absurd rfl hg
 | g+4=>exact absurd rfl hg

theorem door4 (os:Os) (args:Array Value):laidMetH DP laid4 ((World.doorLaid DP 67 os).forCall (fun _ _=>0) ⟨#[],args,[]⟩).memory:=
 laidMetH_of_parts3 (fuel:=8) (laidMet_of_run' 8 (by kernel_rfl) (by kernel_rfl)) (by kernel_rfl) (by kernel_rfl)

section
variable {H : Type} {enc : TypeId × Value → H} {w : World} {base : Nat} {spare : Nat → Bool} {held : Bool} {O : Nat → Prop}
end
end Go.Ax

namespace Go.Ax
open Go.Proofs Go.RowKit
end Go.Ax

namespace Go.Ax
open Go.Proofs Go.RowKit
set_option maxRecDepth 100000

section
variable {H : Type} {enc : TypeId × Value → H} {w : World} {base : Nat} {spare : Nat → Bool} {held : Bool} {O : Nat → Prop}
theorem in_meta (n:Nat) (cs':List Value) (y:DataW H×List MemPlace) (h:DataW.trod enc DP w base spare held n 53 cs'=some y):
  ∃ a:Meta,True∧cs'.length=5∧∀ (r:Nat) (p:PV) (u:Value),(metaE.f a).cells[r]? = some p→cs'[r]? = some u→PRel O w p u:=by
 obtain ⟨xs,n,_,rfl,hl,hlen,hf⟩:=DataW.trod_struct Tryd.underlying53 h
 have hc:DP.cellsOf 53=5:=by kernel_rfl
 have c9:DP.cellsOf 9=1:=by kernel_rfl
 have c3:DP.cellsOf 3=1:=by kernel_rfl
 rw[hc] at hl
 have h0:DataW.trod enc DP w base spare held n 3 ((cs'.drop 0).take (DP.cellsOf 3))=xs[0]? := hf 0 _ rfl
 have h1:DataW.trod enc DP w base spare held n 3 ((cs'.drop 1).take (DP.cellsOf 3))=xs[1]? := hf 1 _ rfl
 have h2:DataW.trod enc DP w base spare held n 9 ((cs'.drop 2).take (DP.cellsOf 9))=xs[2]? := hf 2 _ rfl
 have h3:DataW.trod enc DP w base spare held n 9 ((cs'.drop 3).take (DP.cellsOf 9))=xs[3]? := hf 3 _ rfl
 have h4:DataW.trod enc DP w base spare held n 3 ((cs'.drop 4).take (DP.cellsOf 3))=xs[4]? := hf 4 _ rfl
 rw[c3] at h0 h1 h4
 rw[c9] at h2 h3
 match cs',hl,xs,hlen with
 | [v0,v1,v2,v3,v4],_,[x0,x1,x2,x3,x4],_=>
  obtain ⟨a,e0,_,_⟩:=DataW.trod_int Tryd.underlying3 h0
  obtain ⟨b,e1,_,_⟩:=DataW.trod_int Tryd.underlying3 h1
  obtain ⟨c,e2,_,_⟩:=DataW.trod_string Tryd.underlying9 h2
  obtain ⟨d,e3,_,_⟩:=DataW.trod_string Tryd.underlying9 h3
  obtain ⟨e,e4,_,_⟩:=DataW.trod_int Tryd.underlying3 h4
  simp at e0 e1 e2 e3 e4
  subst e0 e1 e2 e3 e4
  refine ⟨⟨a,b,c,d,e⟩,trivial,rfl,fun r p u hp hu=>?_⟩
  match r with
  | 0=>cases hp; cases hu; exact .v _
  | 1=>cases hp; cases hu; exact .v _
  | 2=>cases hp; cases hu; exact .v _
  | 3=>cases hp; cases hu; exact .v _
  | 4=>cases hp; cases hu; exact .v _
  | r+5=>simp[metaE,PV.cells] at hp
theorem in_metas (hO:∀ k,¬O k) {fuel:Nat} {v:Value} {x:DataW H×List MemPlace} (h:DataW.trod enc DP w base spare held fuel 45 [v]=some x):
  ∃ L:List Meta,(∀ a∈L,True)∧L.length≤maxLen∧PRel O w (.ls (L.map metaE.f)) v:=open_listL hO Tryd.underlying45 metaE.elt (by decide) (by kernel_rfl) (fun n cs' y hy=>in_meta n cs' y hy) h
theorem vrel_i {ρ:Loc} (k:IntKind) (n:Int):VRel noF [] ρ w (vn k n) (.int k n):= .p _ _ (.v _)
theorem open_vers {ρ:Loc} {r:Reach} {b0:Nat} {v:Value} {d:DataW H} {p:List MemPlace} (hv:Value.okWide DP w r b0 48 v) (h:DataW.Trod enc DP w base spare held 48 v d p):
  ∃ V:Vers,(V.files.length≤maxLen∧0≤V.seq)∧VRel noF [] ρ w (versA V) v:=by
 obtain ⟨v0,v1,v2,v3,y0,y1,y2,y3,n,rfl,_,_,h0,h1,h2,h3⟩:=Go.Joins.open_agg4 Tryd.underlying48 (by kernel_rfl) (by kernel_rfl) hv h
 obtain ⟨L,_,hL,w0⟩:=in_metas (O:=Own noF [] ρ) (fun k=>not_own) h0
 obtain ⟨a,e1,_,_⟩:=DataW.trod_int Tryd.underlying3 h1
 obtain ⟨b,e2,_,_⟩:=DataW.trod_int Tryd.underlying3 h2
 obtain ⟨c,e3,_,hw⟩:=DataW.trod_int Tryd.underlying46 h3
 have hb:0≤c:=by
  simp only[Lit.wf,Bool.and_eq_true,decide_eq_true_eq] at hw
  have h1:IntKind.u64.min=0:=by decide
  omega
 simp at e1 e2 e3
 subst e1 e2 e3
 refine ⟨⟨L,a,b,c⟩,⟨hL,hb⟩, .agg _ [v0, .int .i64 a, .int .i64 b, .int .u64 c] rfl fun j p u hp hu=>?_⟩
 match j with
 | 0=>cases hp; cases hu; exact .p _ _ w0
 | 1=>cases hp; cases hu; exact vrel_i _ _
 | 2=>cases hp; cases hu; exact vrel_i _ _
 | 3=>cases hp; cases hu; exact vrel_i _ _
 | j+4=>simp at hp
end
end Go.Ax
