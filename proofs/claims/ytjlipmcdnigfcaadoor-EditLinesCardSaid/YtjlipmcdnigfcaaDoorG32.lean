/- Trees, printed by gen/w1.py. -/
import Derived.Test.YtjlipmcdnigfcaaDoorG31
set_option linter.unusedVariables false
set_option linter.unusedSimpArgs false
set_option linter.unusedSectionVars false
namespace Go.Ax
open Go.Proofs Go.RowKit
set_option maxRecDepth 100000

noncomputable def T15_j1_e (v:Vers) (j1:Bool):St:=([(1, .ptr 0 0 0),(30,vb j1)],[.cells false 0 ([vl (v.files.map metaE.f),vi v.log,vi v.next,vn .u64 v.seq])])
noncomputable def T15_l2_e (v:Vers) (s2:Int):St:=([(1, .ptr 0 0 0),(36,vl (v.files.map metaE.f)),(37,vi (v.files.length:Int)),(38,vi s2)],[.cells false 0 ([vl (v.files.map metaE.f),vi v.log,vi v.next,vn .u64 v.seq])])
noncomputable def T15_l2_x (x2:Unit):AE×St:=(.ret,([(2,vi 1)],[]))
noncomputable def T15_l2_x' (v:Vers) (y2:Unit):AE×St:=((.exit 0),([(1, .ptr 0 0 0)],[.cells false 0 ([vl (v.files.map metaE.f),vi v.log,vi v.next,vn .u64 v.seq])]))
noncomputable def T15_l2_b (v:Vers) (s2:Int):Tree:=
.sp 39 (decide (s2<(v.files.length:Int))) (
.elem 41 (v.files.map metaE.f) metaE v.files s2 (fun e1=> .call 44 (g27 [(metaE.av e1)]=some (vb e1.ok)) (vb e1.ok) (.sp 44 e1.ok (
.sp 51 (decide (e1.num≥v.next)) (
.leaf ⟨[2],[]⟩ [] .ret (some (T15_l2_x ()).2)) (
.sp 55 (decide (s2>(0:Int))) (
.int 60 (IntKind.i64.wrap (s2 - 1)) (s2 - 1) (.elem 61 (v.files.map metaE.f) metaE v.files (s2 - 1) (fun e2=> .sp 66 (decide (e2.num≥e1.num)) (
.leaf ⟨[2],[]⟩ [] .ret (some (T15_l2_x ()).2)) (
.int 69 (IntKind.i64.wrap (s2+1)) (s2+1) (.leaf ⟨[1,36,37,38],[(0,0,none)]⟩ [] .normal (some (T15_l2_e v (s2+1)))))))) (
.int 69 (IntKind.i64.wrap (s2+1)) (s2+1) (.leaf ⟨[1,36,37,38],[(0,0,none)]⟩ [] .normal (some (T15_l2_e v (s2+1))))))) (
.leaf ⟨[2],[]⟩ [] .ret (some (T15_l2_x ()).2))))) (
.leaf ⟨[1],[(0,0,none)]⟩ [] (.exit 0) (some (T15_l2_x' v ()).2))
noncomputable def T15_l3_e (v:Vers) (s3:Int):St:=([(1, .ptr 0 0 0),(5,vi s3)],[.cells false 0 ([vl (v.files.map metaE.f),vi v.log,vi v.next,vn .u64 v.seq])])
noncomputable def T15_l3_x (x3:Unit):AE×St:=(.ret,([(2,vi 1)],[]))
noncomputable def T15_l3_x' (y3:Unit):AE×St:=((.exit 2),([],[]))
noncomputable def T15_l4_e (v:Vers) (s3:Int) (s4:Int):St:=([(1, .ptr 0 0 0),(5,vi s3),(6,vl ((ofL s3 v.files).map metaE.f)),(7,vi s4)],[.cells false 0 ([vl (v.files.map metaE.f),vi v.log,vi v.next,vn .u64 v.seq])])
noncomputable def T15_l4_x (x4:Unit):AE×St:=(.ret,([(2,vi 1)],[]))
noncomputable def T15_l4_x' (v:Vers) (s3:Int) (y4:Unit):AE×St:=((.exit 4),([(1, .ptr 0 0 0),(5,vi s3)],[.cells false 0 ([vl (v.files.map metaE.f),vi v.log,vi v.next,vn .u64 v.seq])]))
noncomputable def T15_l4_b (v:Vers) (s3:Int) (s4:Int):Tree:=
.int 79 (((ofL s3 v.files).map metaE.f).length:Int) ((ofL s3 v.files).length:Int) (.sp 80 (decide (s4<((ofL s3 v.files).length:Int))) (
.int 85 (IntKind.i64.wrap (s4 - 1)) (s4 - 1) (.elem 86 ((ofL s3 v.files).map metaE.f) metaE (ofL s3 v.files) (s4 - 1) (fun e3=> .elem 91 ((ofL s3 v.files).map metaE.f) metaE (ofL s3 v.files) s4 (fun e4=> .sp 94 (!(Op.bytesLess e3.high.toList e4.low.toList)) (
.leaf ⟨[2],[]⟩ [] .ret (some (T15_l4_x ()).2)) (
.int 82 (IntKind.i64.wrap (s4+1)) (s4+1) (.leaf ⟨[1,5,6,7],[(0,0,none)]⟩ [] .normal (some (T15_l4_e v s3 (s4+1))))))))) (
.leaf ⟨[1,5],[(0,0,none)]⟩ [] (.exit 4) (some (T15_l4_x' v s3 ()).2)))
noncomputable def T15_l3_b (v:Vers) (s3:Int):Tree:=
.sp 71 (decide (s3<(6:Int))) (
.call 76 (gOf [.agg [vl (v.files.map metaE.f),vi v.log,vi v.next,vn .u64 v.seq],vi s3]=some (vl ((ofL s3 v.files).map metaE.f))) (vl ((ofL s3 v.files).map metaE.f)) (.loop ⟨[1,5,6,7],[(0,0,none)]⟩ [] (some (T15_l4_e v s3 1)) (T15_l4_e v s3) (T15_l4_x) (T15_l4_x' v s3) 1 (T15_l4_b v s3) (fun (x4:Unit)=> .leaf ⟨[2],[]⟩ [] .ret (some (T15_l3_x ()).2)) (fun (y4:Unit)=> .int 73 (IntKind.i64.wrap (s3+1)) (s3+1) (.leaf ⟨[1,5],[(0,0,none)]⟩ [] .normal (some (T15_l3_e v (s3+1))))))) (
.leaf ⟨[],[]⟩ [] (.exit 2) (some (T15_l3_x' ()).2))
noncomputable def T15_j1 (v:Vers) (j1:Bool):Tree:=
.br j1 (
.leaf ⟨[0],[]⟩ [] .ret (some ([(0,vi 1)],[]))) (
.int 33 ((v.files.map metaE.f).length:Int) (v.files.length:Int) (.sp 34 (decide ((v.files.length:Int)>(1000:Int))) (
.leaf ⟨[0],[]⟩ [] .ret (some ([(0,vi 3)],[]))) (
.int 37 ((v.files.map metaE.f).length:Int) (v.files.length:Int) (.loop ⟨[1,36,37,38],[(0,0,none)]⟩ [] (some (T15_l2_e v 0)) (T15_l2_e v) (T15_l2_x) (T15_l2_x' v) 0 (T15_l2_b v) (fun (x2:Unit)=> .leaf ⟨[0],[]⟩ [] .ret (some ([(0,vi 1)],[]))) (fun (y2:Unit)=> .loop ⟨[1,5],[(0,0,none)]⟩ [] (some (T15_l3_e v 1)) (T15_l3_e v) (T15_l3_x) (T15_l3_x') 1 (T15_l3_b v) (fun (x3:Unit)=> .leaf ⟨[0],[]⟩ [] .ret (some ([(0,vi 1)],[]))) (fun (y3:Unit)=> .leaf ⟨[0],[]⟩ [] .ret (some ([(0,vi 0)],[]))))))))
noncomputable def T15 (v:Vers):Tree:=
.sp 10 (decide (v.log<(1:Int))) (
.join ⟨[1,30],[(0,0,none)]⟩ [] (some (T15_j1_e v true)) (T15_j1_e v) true (T15_j1 v)) (
.sp 14 (decide (v.log>(1073741824:Int))) (
.join ⟨[1,30],[(0,0,none)]⟩ [] (some (T15_j1_e v true)) (T15_j1_e v) true (T15_j1 v)) (
.sp 19 (decide (v.next<(1:Int))) (
.join ⟨[1,30],[(0,0,none)]⟩ [] (some (T15_j1_e v true)) (T15_j1_e v) true (T15_j1 v)) (
.sp 24 (decide (v.next>(1073741824:Int))) (
.join ⟨[1,30],[(0,0,none)]⟩ [] (some (T15_j1_e v true)) (T15_j1_e v) true (T15_j1 v)) (
.sp 29 (decide (v.seq>(72057594037927935:Int))) (
.join ⟨[1,30],[(0,0,none)]⟩ [] (some (T15_j1_e v true)) (T15_j1_e v) true (T15_j1 v)) (
.join ⟨[1,30],[(0,0,none)]⟩ [] (some (T15_j1_e v false)) (T15_j1_e v) false (T15_j1 v))))))

theorem T15_chk (v:Vers):fnC DP Γ15 Δ0 Tryd.f31 [.agg [vl (v.files.map metaE.f),vi v.log,vi v.next,vn .u64 v.seq]] [] (T15 v)=T15 v:=by kernel_rfl

end Go.Ax

namespace Go.Ax
open Go.Proofs Go.RowKit
set_option maxRecDepth 100000
theorem vargs_inj {v w:Vers} (h:AV.agg [vl (v.files.map metaE.f),vi v.log,vi v.next,vn .u64 v.seq]=AV.agg [vl (w.files.map metaE.f),vi w.log,vi w.next,vn .u64 w.seq]):v=w:=by
 cases v; cases w
 simp at h
 obtain ⟨h1,h2,h3,h4⟩:=h
 have h1:=f_inj (by simpa using h1)
 simp[h1,h2,h3,h4]

theorem sealAgg {S:Nat→Prop} {B:List Box} (cs:List PV):Sealed S B (.agg (cs.map .p)) (.agg (cs.map .p)):=
 .agg _ _ rfl fun j c d hc hd=>by
  rw[hc] at hd
  cases hd
  rw[List.getElem?_map] at hc
  cases hx:cs[j]? with
  | none=>rw[hx] at hc; cases hc
  | some x=>rw[hx] at hc; cases hc; exact .p x

noncomputable def levelOk (n:Int) (files:List Meta):Bool:=(List.range ((ofL n files).length - 1)).all fun i=>Op.bytesLess (at' (ofL n files) i).high.toList (at' (ofL n files) (i+1)).low.toList
def fileOk (v:Vers) (i:Nat):Bool:=(at' v.files i).ok&&decide ((at' v.files i).num<v.next)&&(decide (i=0)||decide ((at' v.files (i - 1)).num<(at' v.files i).num))
noncomputable def Vers.check (v:Vers):Int:=
 if v.log<1∨v.log>1073741824∨v.next<1∨v.next>1073741824∨v.seq>72057594037927935 then 1 else
 if v.files.length>1000 then 3 else
 if ¬(List.range v.files.length).all (fileOk v)=true then 1 else
 if ([1,2,3,4,5]:List Int).all (fun n=>levelOk n v.files) then 0 else 1

theorem T15_l2 (v:Vers) (hv:v.files.length≤1000):∀ (k i:Nat),i+k=v.files.length→Rounds (T15_l2_e v) T15_l2_x (T15_l2_x' v) (fun s=>(T15_l2_b v s).wp) (i:Int) (if (List.range' i k).all (fileOk v) then .inr () else .inl ())
 | 0,i,h=>by
  rw[if_pos (by simp)]
  refine .done' (by simp[T15_l2_x']) ?_
  unfold T15_l2_b
  exact wp_sp (fun h=>by have:=of_decide_eq_true h; omega) (fun _=>wp_leaf rfl ⟨rfl,rfl⟩)
 | k+1,i,h=>by
  have ih:=T15_l2 v hv k (i+1) (by omega)
  have hi:v.files[Int.toNat (i:Int)]? = some (at' v.files i):=at_get (by omega)
  rw[List.range'_succ,List.all_cons]
  cases hf:fileOk v i with
  | true=>
   rw[Bool.true_and]
   refine .next ?_ ih
   simp only[fileOk,Bool.and_eq_true,decide_eq_true_eq,Bool.or_eq_true] at hf
   obtain ⟨⟨f1,f2⟩,f3⟩:=hf
   unfold T15_l2_b
   refine wp_sp (fun _=>wp_elem (at' v.files i) (by omega) hi (wp_call (g27_eq _) (wp_sp (fun _=>wp_sp (fun h=>by have:=of_decide_eq_true h; omega) (fun _=>wp_sp (fun h=>?_) (fun h=>?_))) (fun h=>by rw[f1] at h; cases h)))) (fun h=>by have:=of_decide_eq_false h; omega)
   ·have h:=of_decide_eq_true h
    refine wp_i64 (by omega) (wp_elem (at' v.files (i - 1)) (by omega) (by rw[toN1]; exact at_get (by omega)) (wp_sp (fun h=>by have:=of_decide_eq_true h; omega) (fun _=>wp_i64 (by omega) (wp_leaf rfl ⟨rfl,rfl⟩))))
   ·exact wp_i64 (by omega) (wp_leaf rfl ⟨rfl,rfl⟩)
  | false=>
   rw[Bool.false_and,if_neg (by simp)]
   refine .done (by simp[T15_l2_x]) ?_
   unfold T15_l2_b
   refine wp_sp (fun _=>wp_elem (at' v.files i) (by omega) hi (wp_call (g27_eq _) (wp_sp (fun h1=>wp_sp (fun h=>wp_leaf rfl ⟨rfl,rfl⟩) (fun h2=>wp_sp (fun h3=>?_) (fun h3=>?_))) (fun h=>wp_leaf rfl ⟨rfl,rfl⟩)))) (fun h=>by have:=of_decide_eq_false h; omega)
   ·have h3:=of_decide_eq_true h3
    refine wp_i64 (by omega) (wp_elem (at' v.files (i - 1)) (by omega) (by rw[toN1]; exact at_get (by omega)) (wp_sp (fun h=>wp_leaf rfl ⟨rfl,rfl⟩) (fun h4=>?_)))
    have h2:=of_decide_eq_false h2
    have h4:=of_decide_eq_false h4
    have:fileOk v i=true:=by
     simp only[fileOk,Bool.and_eq_true,decide_eq_true_eq,Bool.or_eq_true]
     exact ⟨⟨h1,by omega⟩, .inr (by omega)⟩
    rw[hf] at this; cases this
   ·have h2:=of_decide_eq_false h2
    have h3:=of_decide_eq_false h3
    have:fileOk v i=true:=by
     simp only[fileOk,Bool.and_eq_true,decide_eq_true_eq,Bool.or_eq_true]
     exact ⟨⟨h1,by omega⟩, .inl (by omega)⟩
    rw[hf] at this; cases this

theorem T15_l4 (v:Vers) (n:Int) (hv:v.files.length≤1000):∀ (k i:Nat),1≤i→i+k=max 1 (ofL n v.files).length→Rounds (T15_l4_e v n) T15_l4_x (T15_l4_x' v n) (fun s=>(T15_l4_b v n s).wp) (i:Int)
  (if (List.range' (i - 1) k).all fun i=>Op.bytesLess (at' (ofL n v.files) i).high.toList (at' (ofL n v.files) (i+1)).low.toList then .inr () else .inl ())
 | 0,i,h1,h=>by
  rw[if_pos (by simp)]
  refine .done' (by simp[T15_l4_x']) ?_
  unfold T15_l4_b
  exact wp_len (wp_sp (fun h=>by have:=of_decide_eq_true h; omega) (fun _=>wp_leaf rfl ⟨rfl,rfl⟩))
 | k+1,i,h1,h=>by
  have hle:=ofL_len n (show v.files.length≤1000000 by omega)
  have ih:=T15_l4 v n hv k (i+1) (by omega) (by omega)
  rw[show i+1 - 1=i by omega] at ih
  rw[List.range'_succ,List.all_cons,show i - 1+1=i by omega]
  have hi:(ofL n v.files)[Int.toNat (i:Int)]? = some (at' (ofL n v.files) i):=at_get (by omega)
  have hi1:(ofL n v.files)[Int.toNat ((i:Int) - 1)]? = some (at' (ofL n v.files) (i - 1)):=by rw[toN1]; exact at_get (by omega)
  cases hb:Op.bytesLess (at' (ofL n v.files) (i - 1)).high.toList (at' (ofL n v.files) i).low.toList with
  | true=>
   rw[Bool.true_and]
   refine .next ?_ ih
   unfold T15_l4_b
   exact wp_len (wp_sp (fun _=>wp_i64 (by omega) (wp_elem _ (by omega) hi1 (wp_elem _ (by omega) hi (wp_sp (fun h=>by rw[hb] at h; cases h) (fun _=>wp_i64 (by omega) (wp_leaf rfl ⟨rfl,rfl⟩)))))) (fun h=>by have:=of_decide_eq_false h; omega))
  | false=>
   rw[Bool.false_and,if_neg (by simp)]
   refine .done (by simp[T15_l4_x]) ?_
   unfold T15_l4_b
   exact wp_len (wp_sp (fun _=>wp_i64 (by omega) (wp_elem _ (by omega) hi1 (wp_elem _ (by omega) hi (wp_sp (fun _=>wp_leaf rfl ⟨rfl,rfl⟩) (fun h=>by rw[hb] at h; cases h))))) (fun h=>by have:=of_decide_eq_false h; omega))

theorem T15_l3 (v:Vers) (hv:v.files.length≤1000):∀ (k i:Nat),i+k=6→1≤i→Rounds (T15_l3_e v) T15_l3_x T15_l3_x' (fun s=>(T15_l3_b v s).wp) (i:Int) (if (List.range' i k).all fun n=>levelOk (n:Int) v.files then .inr () else .inl ())
 | 0,i,h,h1=>by
  rw[if_pos (by simp)]
  refine .done' (by simp[T15_l3_x']) ?_
  unfold T15_l3_b
  exact wp_sp (fun h=>by have:=of_decide_eq_true h; omega) (fun _=>wp_leaf rfl ⟨rfl,rfl⟩)
 | k+1,i,h,h1=>by
  have ih:=T15_l3 v hv k (i+1) (by omega) (by omega)
  have l4:=T15_l4 v (i:Int) hv (max 1 (ofL (i:Int) v.files).length - 1) 1 (by omega) (by omega)
  have hlv:levelOk (i:Int) v.files=(List.range' (1 - 1) (max 1 (ofL (i:Int) v.files).length - 1)).all fun j=>Op.bytesLess (at' (ofL (i:Int) v.files) j).high.toList (at' (ofL (i:Int) v.files) (j+1)).low.toList:=by
   unfold levelOk
   rw[List.range_eq_range',show max 1 (ofL (i:Int) v.files).length - 1=(ofL (i:Int) v.files).length - 1 by omega]
  rw[List.range'_succ,List.all_cons]
  rw[←hlv] at l4
  cases hl:levelOk (i:Int) v.files with
  | true=>
   rw[Bool.true_and]
   rw[hl,if_pos rfl] at l4
   refine .next ?_ ih
   unfold T15_l3_b
   exact wp_sp (fun _=>wp_call (gOf_eq (by omega)) (wp_loop' _ rfl l4 (wp_i64 (by omega) (wp_leaf rfl ⟨rfl,rfl⟩)))) (fun h=>by have:=of_decide_eq_false h; omega)
  | false=>
   rw[Bool.false_and,if_neg (by simp)]
   rw[hl,if_neg (by simp)] at l4
   refine .done (by simp[T15_l3_x]) ?_
   unfold T15_l3_b
   exact wp_sp (fun _=>wp_call (gOf_eq (by omega)) (wp_loop _ rfl l4 (wp_leaf rfl ⟨rfl,rfl⟩))) (fun h=>by have:=of_decide_eq_false h; omega)

theorem T15_wp (v:Vers) {K:AE→St→Prop} (h:K .ret ([(0,vi v.check)],[])):(T15 v).wp K:=by
 have step:∀ b:Bool,b=decide (v.log<1∨v.log>1073741824∨v.next<1∨v.next>1073741824∨v.seq>72057594037927935)→(T15_j1 v b).wp K:=by
  intro b hb
  unfold Vers.check at h
  unfold T15_j1
  refine wp_br (fun e=>?_) (fun e=>?_)
  ·rw[e] at hb
   rw[if_pos (of_decide_eq_true hb.symm)] at h
   exact wp_leaf rfl h
  ·rw[e] at hb
   rw[if_neg (of_decide_eq_false hb.symm)] at h
   refine wp_len (wp_sp (fun e=>?_) (fun e=>?_))
   ·have e:=of_decide_eq_true e
    rw[if_pos (by omega)] at h
    exact wp_leaf rfl h
   ·have e:=of_decide_eq_false e
    rw[if_neg (by omega)] at h
    have l2:=T15_l2 v (by omega) v.files.length 0 (by omega)
    rw[←List.range_eq_range'] at l2
    refine wp_len ?_
    cases hf:(List.range v.files.length).all (fileOk v) with
    | false=>
     rw[hf,if_neg (by simp)] at l2
     rw[hf,if_pos (by simp)] at h
     exact wp_loop _ rfl l2 (wp_leaf rfl h)
    | true=>
     rw[hf,if_pos rfl] at l2
     rw[hf,if_neg (by simp)] at h
     have l3:=T15_l3 v (by omega) 5 1 rfl (by omega)
     have e5:((List.range' 1 5).all fun n=>levelOk (n:Int) v.files)=(([1,2,3,4,5]:List Int).all fun n=>levelOk n v.files):=rfl
     rw[e5] at l3
     refine wp_loop' _ rfl l2 ?_
     cases hl:(([1,2,3,4,5]:List Int).all fun n=>levelOk n v.files) with
     | true=>
      rw[hl,if_pos rfl] at l3 h
      exact wp_loop' _ rfl l3 (wp_leaf rfl h)
     | false=>
      rw[hl,if_neg (by simp)] at l3 h
      exact wp_loop _ rfl l3 (wp_leaf rfl h)
 unfold T15
 repeat' first | refine wp_join rfl ?_ | refine wp_sp (fun _=>?_) (fun _=>?_)
 all_goals simp only[decide_eq_true_eq,decide_eq_false_iff_not] at *
 all_goals refine step _ ?_
 all_goals first | (symm; apply decide_eq_true; omega) | (symm; apply decide_eq_false; omega)

def R15:List AV→AV→Prop:=fun args r=>∃ v:Vers,args= [.agg [vl (v.files.map metaE.f),vi v.log,vi v.next,vn .u64 v.seq]]∧r=vi v.check
noncomputable def g15:=relG R15
theorem g15_eq (v:Vers):g15 [.agg [vl (v.files.map metaE.f),vi v.log,vi v.next,vn .u64 v.seq]]=some (vi v.check):=relG_eq (by
 rintro args r r' ⟨x1,e1,rfl⟩ ⟨x2,e2,rfl⟩
 rw[e1] at e2
 simp only[List.cons.injEq,and_true] at e2
 rw[vargs_inj e2]) ⟨v,rfl,rfl⟩
theorem sound15:SoundF DP 31 (.pure g15):=sound_pureT (Γ:=Γ15) (Δ:=Δ0) (fn:=Tryd.f31) mixedD Γ15_ok Δ0_ok (by kernel_rfl) (by kernel_rfl) (by kernel_rfl) (by
 rintro args r ⟨v,rfl,rfl⟩
 exact ⟨rfl,rfl,_,T15_chk v,T15_wp v (.p _)⟩)

theorem fI_inj:∀ {L M:List Int},L.map intE.f=M.map intE.f→L=M
 | [],[],_=>rfl
 | [],_::_,h=>by simp at h
 | _::_,[],h=>by simp at h
 | x::L,y::M,h=>by
  simp only[List.map_cons,List.cons.injEq] at h
  have h1:x=y:=by simpa [intE] using h.1
  rw[h1,fI_inj h.2]

theorem T41_l1 (L:List Int) (x:Int) (hN:L.length≤1000000):∀ (suf pre:List Int),L=pre++suf →
  Rounds (T41_l1_e L x) T41_l1_x T41_l1_x' (fun s=>(T41_l1_b L x s).wp) (pre.length:Int) (if idxIN x suf<suf.length then .inl ((pre.length+idxIN x suf:Nat):Int) else .inr ())
 | [],pre,h=>by
  have e:L.length=pre.length:=by rw[h]; simp
  rw[if_neg (by simp)]
  refine .done' (by simp[T41_l1_x']) ?_
  unfold T41_l1_b
  exact wp_sp (fun h=>by have:=of_decide_eq_true h; omega) (fun _=>wp_leaf rfl ⟨rfl,rfl⟩)
 | m::suf,pre,h=>by
  have e:L.length=pre.length+(suf.length+1):=by rw[h]; simp
  have hm:L[Int.toNat (pre.length:Int)]? = some m:=by rw[h]; simp
  cases hmi:x == m with
  | true=>
   have:idxIN x (m::suf)=0:=by simp only[idxIN,hmi,if_true]
   rw[this,if_pos (by simp)]
   refine .done (by simp[T41_l1_x]) ?_
   unfold T41_l1_b
   exact wp_sp (fun _=>wp_elem m (by omega) hm (wp_sp (fun _=>wp_leaf rfl ⟨rfl,rfl⟩) (fun h=>by rw[hmi] at h; cases h))) (fun h=>by have:=of_decide_eq_false h; omega)
  | false=>
   have hi1:idxIN x (m::suf)=idxIN x suf+1:=by rw[idxIN,hmi]; rfl
   have ih:=T41_l1 L x hN suf (pre++ [m]) (by rw[h]; simp)
   have hlen:(pre++ [m]).length=pre.length+1:=by simp
   have hres:(if idxIN x (m::suf)<(m::suf).length then (.inl ((pre.length+idxIN x (m::suf):Nat):Int):Int ⊕ Unit) else .inr ())=(if idxIN x suf<suf.length then .inl (((pre++ [m]).length+idxIN x suf:Nat):Int) else .inr ()):=by
    rw[hi1,hlen,List.length_cons]
    by_cases hh:idxIN x suf<suf.length
    ·rw[if_pos (by omega),if_pos hh]; congr 2; omega
    ·rw[if_neg (by omega),if_neg hh]
   rw[hres]
   refine .next ?_ ih
   unfold T41_l1_b
   refine wp_sp (fun _=>wp_elem m (by omega) hm (wp_sp (fun h=>by rw[hmi] at h; cases h) (fun _=>wp_i64 (by omega) (wp_leaf rfl ⟨rfl,?_⟩)))) (fun h=>by have:=of_decide_eq_false h; omega)
   rw[hlen]; rfl

theorem T41_wp (L:List Int) (x:Int) (hN:L.length≤1000000) {K:AE→St→Prop} (h:K .ret ([(0,vi (idxI L x))],[])):(T41 L x).wp K:=by
 have l:=T41_l1 L x hN L [] rfl
 unfold idxI at h
 unfold T41
 refine wp_len ?_
 by_cases hh:idxIN x L<L.length
 ·rw[if_pos hh] at h l
  rw[show (([]:List Int).length+idxIN x L:Nat)=idxIN x L by simp] at l
  exact wp_loop _ rfl l (wp_leaf rfl h)
 ·rw[if_neg hh] at h l
  exact wp_loop' _ rfl l (wp_leaf rfl h)

theorem RI_inj {L M:List Int} {x y:Int} (h:([vl (L.map intE.f),vi x]:List AV)= [vl (M.map intE.f),vi y]):L=M∧x=y:=by
 simp only[List.cons.injEq,and_true] at h
 exact ⟨fI_inj (by simpa using h.1),by simpa using h.2⟩
theorem g41_eq {L:List Int} {x:Int} (hN:L.length≤1000000):g41 [vl (L.map intE.f),vi x]=some (vi (idxI L x)):=relG_eq (by
 rintro args r r' ⟨L1,x1,_,e1,rfl⟩ ⟨L2,x2,_,e2,rfl⟩
 rw[e1] at e2
 obtain ⟨rfl,rfl⟩:=RI_inj e2
 rfl) ⟨L,x,hN,rfl,rfl⟩
theorem sound41:SoundF DP 95 (.pure g41):=sound_pureT (Γ:=Γ0) (Δ:=Δ0) (fn:=Tryd.f95) mixedD Γ0_ok Δ0_ok (by kernel_rfl) (by kernel_rfl) (by kernel_rfl) (by
 rintro args r ⟨L,x,hN,rfl,rfl⟩
 exact ⟨rfl,rfl,_,T41_chk L x,T41_wp L x hN (.p _)⟩)
theorem Γ41_ok:∀ f,SoundF DP f (Γ41 f):=envP_ok (by simp; exact sound41)

def hasI (L:List Int) (x:Int):Bool:=L.contains x
theorem idx_has (x:Int):∀ L:List Int,decide (idxIN x L<L.length)=L.contains x
 | []=>rfl
 | y::L=>by
  have ih:=idx_has x L
  rw[List.contains_cons,←ih]
  cases h:x == y with
  | true=>simp[idxIN,h]
  | false=>
   have:idxIN x (y::L)=idxIN x L+1:=by rw[idxIN,h]; rfl
   rw[this]
   simp
theorem hasI_eq (L:List Int) (x:Int):decide (idxI L x≥(0:Int))=hasI L x:=by
 unfold hasI
 rw[←idx_has]
 unfold idxI
 by_cases h:idxIN x L<L.length
 ·rw[if_pos h,decide_eq_true h]; exact decide_eq_true (by omega)
 ·rw[if_neg h,decide_eq_false h]; rfl
def RH:List AV→AV→Prop:=fun args r=>∃ (L:List Int) (x:Int),L.length≤1000000∧args= [vl (L.map intE.f),vi x]∧r=vb (hasI L x)
noncomputable def g34:=relG RH
theorem g34_eq {L:List Int} {x:Int} (hN:L.length≤1000000):g34 [vl (L.map intE.f),vi x]=some (vb (hasI L x)):=relG_eq (by
 rintro args r r' ⟨L1,x1,_,e1,rfl⟩ ⟨L2,x2,_,e2,rfl⟩
 rw[e1] at e2
 obtain ⟨rfl,rfl⟩:=RI_inj e2
 rfl) ⟨L,x,hN,rfl,rfl⟩
theorem T34_wp (L:List Int) (x:Int) (hN:L.length≤1000000) {K:AE→St→Prop} (h:K .ret ([(0,vb (hasI L x))],[])):(T34 L x).wp K:=by
 unfold T34
 rw[←hasI_eq] at h
 exact wp_call (g41_eq hN) (wp_leaf rfl h)
theorem sound34:SoundF DP 73 (.pure g34):=sound_pureT (Γ:=Γ41) (Δ:=Δ0) (fn:=Tryd.f73) mixedD Γ41_ok Δ0_ok (by kernel_rfl) (by kernel_rfl) (by kernel_rfl) (by
 rintro args r ⟨L,x,hN,rfl,rfl⟩
 exact ⟨rfl,rfl,_,T34_chk L x,T34_wp L x hN (.p _)⟩)

noncomputable def g35:=relG R31
theorem g35_eq (x y:Meta):g35 [metaE.av x,metaE.av y]=some (vi (c31 x y)):=g31_eq x y
theorem sound35:SoundF DP 74 (.pure g35):=sound_pureT (Γ:=Γ0) (Δ:=Δ0) (fn:=Tryd.f74) mixedD Γ0_ok Δ0_ok (by kernel_rfl) (by kernel_rfl) (by kernel_rfl) (by
 rintro args r ⟨x,y,rfl,rfl⟩
 exact ⟨rfl,rfl,_,T35_chk x y,by unfold T35; exact wp_leaf rfl (.p _)⟩)
noncomputable def Γ35:Env:=envP [(74,g35)]
theorem Γ35_ok:∀ f,SoundF DP f (Γ35 f):=envP_ok (by simp; exact sound35)
theorem cmp35:Cmpp Γ35 c31 74:=fun x y L=>by
 show ((g35 [metaE.av x,metaE.av y]).map fun r=>(r,[metaE.bx 0 L]))=_
 rw[g35_eq]
 rfl

theorem num_ex {L:List Meta} (h:L.length≤1000000):∃ L',R32p Γ35 c31 74 [.rs 0 0 5 0 L.length, .fn 74 []] [metaE.bx 0 L] (.tup []) [metaE.bx 0 L']∧L'.Perm L∧∀ Q,Ordr c31 Q→(∀ x∈L,Q x)→Sorted c31 L' 0 L.length:=
 S32p cmp35 h
open Classical in
/-- Files as the stable sort by number leaves them. -/
noncomputable def byNum (L:List Meta):List Meta:=if h:L.length≤1000000 then Classical.choose (num_ex h) else L
theorem byNum_spec {L:List Meta} (h:L.length≤1000000):R32p Γ35 c31 74 [.rs 0 0 5 0 L.length, .fn 74 []] [metaE.bx 0 L] (.tup []) [metaE.bx 0 (byNum L)]∧(byNum L).Perm L∧∀ Q,Ordr c31 Q→(∀ x∈L,Q x)→Sorted c31 (byNum L) 0 L.length:=by
 unfold byNum
 rw[dif_pos h]
 exact Classical.choose_spec (num_ex h)

noncomputable def Γ20:Env:=envP [(73,g34),(31,g15)]
theorem Γ20_ok:∀ f,SoundF DP f (Γ20 f):=envP_ok (by simp; exact ⟨sound34,sound15⟩)
def Δ20:REnv:=envR [(71,liftR (R32p Γ35 c31 74))]
theorem Δ20_ok:∀ f,SoundR DP f (Δ20 f):=envR_ok (by simp; exact lift_sound (R32p_ok Γ35_ok c31 74))

end Go.Ax

namespace Go.Ax
open Go.Proofs Go.RowKit
set_option maxRecDepth 100000

noncomputable def T20_j1_e (v:Vers) (e:Edt) (j1:Int):St:=([(2, .ptr 0 0 0),(3, .ptr 1 0 0),(4, .ptr 2 0 0),(6, .ptr 3 0 0)],[.cells false 0 ([vl (v.files.map metaE.f),vi v.log,vi v.next,vn .u64 v.seq]), .cells false 0 ([vl (e.add.map metaE.f),vl (e.del.map intE.f),vi e.log,vi e.next,vn .u64 e.seq]), .cells false 0 ([nilS,vi 0,vi 0,vn .u64 0]), .cells false 0 ([nilS,vi j1,vi v.next,vn .u64 v.seq])])
noncomputable def T20_j2_e (v:Vers) (e:Edt) (j1:Int) (j2:Int):St:=([(2, .ptr 0 0 0),(3, .ptr 1 0 0),(4, .ptr 2 0 0),(6, .ptr 3 0 0)],[.cells false 0 ([vl (v.files.map metaE.f),vi v.log,vi v.next,vn .u64 v.seq]), .cells false 0 ([vl (e.add.map metaE.f),vl (e.del.map intE.f),vi e.log,vi e.next,vn .u64 e.seq]), .cells false 0 ([nilS,vi 0,vi 0,vn .u64 0]), .cells false 0 ([nilS,vi j1,vi j2,vn .u64 v.seq])])
noncomputable def T20_j3_e (v:Vers) (e:Edt) (j1:Int) (j2:Int) (j3:Int):St:=([(2, .ptr 0 0 0),(3, .ptr 1 0 0),(4, .ptr 2 0 0),(6, .ptr 3 0 0)],[.cells false 0 ([vl (v.files.map metaE.f),vi v.log,vi v.next,vn .u64 v.seq]), .cells false 0 ([vl (e.add.map metaE.f),vl (e.del.map intE.f),vi e.log,vi e.next,vn .u64 e.seq]), .cells false 0 ([nilS,vi 0,vi 0,vn .u64 0]), .cells false 0 ([nilS,vi j1,vi j2,vn .u64 j3])])
noncomputable def T20_l4_e (v:Vers) (e:Edt) (j1:Int) (j2:Int) (j3:Int) (s4:(List Meta)×Int×Int):St:=([(2, .ptr 0 0 0),(3, .ptr 1 0 0),(4, .ptr 2 0 0),(6, .ptr 3 0 0),(7,vi s4.2.2),(37,vl (v.files.map metaE.f)),(38,vi (v.files.length:Int)),(39,vi s4.2.1)],[.cells false 0 ([vl (v.files.map metaE.f),vi v.log,vi v.next,vn .u64 v.seq]), .cells false 0 ([vl (e.add.map metaE.f),vl (e.del.map intE.f),vi e.log,vi e.next,vn .u64 e.seq]), .cells false 0 ([nilS,vi 0,vi 0,vn .u64 0]), .cells false 0 ([.rs 4 0 5 0 s4.1.length,vi j1,vi j2,vn .u64 j3]),metaE.bx 0 s4.1])
noncomputable def T20_l4_x (v:Vers) (e:Edt) (j1:Int) (j2:Int) (j3:Int) (x4:Int×(List Meta)):AE×St:=((.exit 0),([(2, .ptr 0 0 0),(3, .ptr 1 0 0),(4, .ptr 2 0 0),(6, .ptr 3 0 0),(7,vi x4.1)],[.cells false 0 ([vl (v.files.map metaE.f),vi v.log,vi v.next,vn .u64 v.seq]), .cells false 0 ([vl (e.add.map metaE.f),vl (e.del.map intE.f),vi e.log,vi e.next,vn .u64 e.seq]), .cells false 0 ([nilS,vi 0,vi 0,vn .u64 0]), .cells false 0 ([.rs 4 0 5 0 x4.2.length,vi j1,vi j2,vn .u64 j3]),metaE.bx 0 x4.2]))
noncomputable def T20_l4_b (v:Vers) (e:Edt) (j1:Int) (j2:Int) (j3:Int) (s4:(List Meta)×Int×Int):Tree:=
.sp 40 (decide (s4.2.1<(v.files.length:Int))) (
.elem 41 (v.files.map metaE.f) metaE v.files s4.2.1 (fun e1=> .call 47 (g34 [vl (e.del.map intE.f),vi e1.num]=some (vb (hasI e.del e1.num))) (vb (hasI e.del e1.num)) (.sp 47 (hasI e.del e1.num) (
.int 49 (IntKind.i64.wrap (s4.2.2+1)) (s4.2.2+1) (.int 56 (IntKind.i64.wrap (s4.2.1+1)) (s4.2.1+1) (.leaf ⟨[2,3,4,6,7,37,38,39],[(0,0,none),(1,0,none),(2,0,none),(3,0,none),(4,0,some (s4.1.map metaE.f))]⟩ [rowC (s4.1.map metaE.f)] .normal (some (T20_l4_e v e j1 j2 j3 (s4.1,s4.2.1+1,s4.2.2+1)))))) (
.app 54 (.row 1 ([vi e1.num,vi e1.level,vs e1.low,vs e1.high,vi e1.size])) s4.1.length (rowC (s4.1.map metaE.f)) metaE s4.1 ([e1]) (.int 56 (IntKind.i64.wrap (s4.2.1+1)) (s4.2.1+1) (.leaf ⟨[2,3,4,6,7,37,38,39],[(0,0,none),(1,0,none),(2,0,none),(3,0,none),(4,1,some ((s4.1++([e1])).map metaE.f))]⟩ [rowC ((s4.1++([e1])).map metaE.f)] .normal (some (T20_l4_e v e j1 j2 j3 (s4.1++([e1]),s4.2.1+1,s4.2.2))))))))) (
.leaf ⟨[2,3,4,6,7],[(0,0,none),(1,0,none),(2,0,none),(3,0,none),(4,0,some (s4.1.map metaE.f))]⟩ [rowC (s4.1.map metaE.f)] (.exit 0) (some (T20_l4_x v e j1 j2 j3 (s4.2.2,s4.1)).2))
noncomputable def T20_j5_e (e:Edt) (j1:Int) (j2:Int) (j3:Int) (x4:Int×(List Meta)) (j5:Bool):St:=([(3, .ptr 0 0 0),(4, .ptr 1 0 0),(6, .ptr 2 0 0),(82,vb j5)],[.cells false 0 ([vl (e.add.map metaE.f),vl (e.del.map intE.f),vi e.log,vi e.next,vn .u64 e.seq]), .cells false 0 ([nilS,vi 0,vi 0,vn .u64 0]), .cells false 0 ([.rs 3 0 5 0 x4.2.length,vi j1,vi j2,vn .u64 j3]),metaE.bx 0 x4.2])
noncomputable def T20_j5 (e:Edt) (j1:Int) (j2:Int) (j3:Int) (x4:Int×(List Meta)) (j5:Bool):Tree:=
.br j5 (
.leaf ⟨[0],[]⟩ [] .ret (some ([(0, .tup [.agg [nilS,vi 0,vi 0,vn .u64 0],vi 1])],[]))) (
.app 88 (.ls (e.add.map metaE.f)) x4.2.length (rowC (x4.2.map metaE.f)) metaE x4.2 e.add (.callx (some 92) (fun (R2:List Meta)=>Δ20 71 [.rs 3 1 5 0 ((x4.2++e.add).length), .fn 74 []] [.cells false 0 ([vl (e.add.map metaE.f),vl (e.del.map intE.f),vi e.log,vi e.next,vn .u64 e.seq]), .cells false 0 ([nilS,vi 0,vi 0,vn .u64 0]), .cells false 0 ([.rs 3 1 5 0 ((x4.2++e.add).length),vi j1,vi j2,vn .u64 j3]),metaE.bx 1 (x4.2++e.add)] (.tup []) [.cells false 0 ([vl (e.add.map metaE.f),vl (e.del.map intE.f),vi e.log,vi e.next,vn .u64 e.seq]), .cells false 0 ([nilS,vi 0,vi 0,vn .u64 0]), .cells false 0 ([.rs 3 1 5 0 ((x4.2++e.add).length),vi j1,vi j2,vn .u64 j3]),metaE.bx 1 R2]) (fun (R2:List Meta)=> .tup []) (fun (R2:List Meta)=> [.cells false 0 ([vl (e.add.map metaE.f),vl (e.del.map intE.f),vi e.log,vi e.next,vn .u64 e.seq]), .cells false 0 ([nilS,vi 0,vi 0,vn .u64 0]), .cells false 0 ([.rs 3 1 5 0 ((x4.2++e.add).length),vi j1,vi j2,vn .u64 j3]),metaE.bx 1 R2]) (fun (R2:List Meta)=> .sealcell 20 2 0 (rowC (R2.map metaE.f)) ((x4.2++e.add).length) metaE R2 (.call 94 (g15 [.agg [vl (R2.map metaE.f),vi j1,vi j2,vn .u64 j3]]=some (vi (Vers.check (⟨R2,j1,j2,j3⟩:Vers)))) (vi (Vers.check (⟨R2,j1,j2,j3⟩:Vers))) (.sp 96 ((Vers.check (⟨R2,j1,j2,j3⟩:Vers)) != (0:Int)) (
.leaf ⟨[0],[]⟩ [] .ret (some ([(0, .tup [.agg [nilS,vi 0,vi 0,vn .u64 0],vi (Vers.check (⟨R2,j1,j2,j3⟩:Vers))])],[]))) (
.leaf ⟨[0],[]⟩ [] .ret (some ([(0, .tup [.agg [vl (R2.map metaE.f),vi j1,vi j2,vn .u64 j3],vi 0])],[]))))))))
noncomputable def T20_j3 (v:Vers) (e:Edt) (j1:Int) (j2:Int) (j3:Int):Tree:=
.int 38 ((v.files.map metaE.f).length:Int) (v.files.length:Int) (.nilcell 3 0 5 (.loop ⟨[2,3,4,6,7,37,38,39],[(0,0,none),(1,0,none),(2,0,none),(3,0,none),(4,0,some (([]:List Meta).map metaE.f))]⟩ [rowC (([]:List Meta).map metaE.f)] (some (T20_l4_e v e j1 j2 j3 (([]:List Meta),0,0))) (T20_l4_e v e j1 j2 j3) (T20_l4_x v e j1 j2 j3) noX (([]:List Meta),0,0) (T20_l4_b v e j1 j2 j3) (fun (x4:Int×(List Meta))=> .int 60 ((e.del.map intE.f).length:Int) (e.del.length:Int) (.sp 61 (x4.1 != (e.del.length:Int)) (
.join ⟨[3,4,6,82],[(1,0,none),(2,0,none),(3,0,none),(4,0,some (x4.2.map metaE.f))]⟩ [rowC (x4.2.map metaE.f)] (some (T20_j5_e e j1 j2 j3 x4 true)) (T20_j5_e e j1 j2 j3 x4) true (T20_j5 e j1 j2 j3 x4)) (
.sp 67 (decide (j1<v.log)) (
.join ⟨[3,4,6,82],[(1,0,none),(2,0,none),(3,0,none),(4,0,some (x4.2.map metaE.f))]⟩ [rowC (x4.2.map metaE.f)] (some (T20_j5_e e j1 j2 j3 x4 true)) (T20_j5_e e j1 j2 j3 x4) true (T20_j5 e j1 j2 j3 x4)) (
.sp 74 (decide (j2<v.next)) (
.join ⟨[3,4,6,82],[(1,0,none),(2,0,none),(3,0,none),(4,0,some (x4.2.map metaE.f))]⟩ [rowC (x4.2.map metaE.f)] (some (T20_j5_e e j1 j2 j3 x4 true)) (T20_j5_e e j1 j2 j3 x4) true (T20_j5 e j1 j2 j3 x4)) (
.sp 81 (decide (j3<v.seq)) (
.join ⟨[3,4,6,82],[(1,0,none),(2,0,none),(3,0,none),(4,0,some (x4.2.map metaE.f))]⟩ [rowC (x4.2.map metaE.f)] (some (T20_j5_e e j1 j2 j3 x4 true)) (T20_j5_e e j1 j2 j3 x4) true (T20_j5 e j1 j2 j3 x4)) (
.join ⟨[3,4,6,82],[(1,0,none),(2,0,none),(3,0,none),(4,0,some (x4.2.map metaE.f))]⟩ [rowC (x4.2.map metaE.f)] (some (T20_j5_e e j1 j2 j3 x4 false)) (T20_j5_e e j1 j2 j3 x4) false (T20_j5 e j1 j2 j3 x4))))))) (fun _=> .stuck)))
noncomputable def T20_j2 (v:Vers) (e:Edt) (j1:Int) (j2:Int):Tree:=
.sp 32 (decide (e.seq>(0:Int))) (
.go (.join ⟨[2,3,4,6],[(0,0,none),(1,0,none),(2,0,none),(3,0,none)]⟩ [] (some (T20_j3_e v e j1 j2 e.seq)) (T20_j3_e v e j1 j2) e.seq (T20_j3 v e j1 j2))) (
.go (.join ⟨[2,3,4,6],[(0,0,none),(1,0,none),(2,0,none),(3,0,none)]⟩ [] (some (T20_j3_e v e j1 j2 v.seq)) (T20_j3_e v e j1 j2) v.seq (T20_j3 v e j1 j2)))
noncomputable def T20_j1 (v:Vers) (e:Edt) (j1:Int):Tree:=
.sp 26 (decide (e.next>(0:Int))) (
.go (.join ⟨[2,3,4,6],[(0,0,none),(1,0,none),(2,0,none),(3,0,none)]⟩ [] (some (T20_j2_e v e j1 e.next)) (T20_j2_e v e j1) e.next (T20_j2 v e j1))) (
.go (.join ⟨[2,3,4,6],[(0,0,none),(1,0,none),(2,0,none),(3,0,none)]⟩ [] (some (T20_j2_e v e j1 v.next)) (T20_j2_e v e j1) v.next (T20_j2 v e j1)))
noncomputable def T20 (v:Vers) (e:Edt):Tree:=
.sp 20 (decide (e.log>(0:Int))) (
.go (.join ⟨[2,3,4,6],[(0,0,none),(1,0,none),(2,0,none),(3,0,none)]⟩ [] (some (T20_j1_e v e e.log)) (T20_j1_e v e) e.log (T20_j1 v e))) (
.go (.join ⟨[2,3,4,6],[(0,0,none),(1,0,none),(2,0,none),(3,0,none)]⟩ [] (some (T20_j1_e v e v.log)) (T20_j1_e v e) v.log (T20_j1 v e)))

theorem T20_chk (v:Vers) (e:Edt):fnC DP Γ20 Δ20 Tryd.f34 [.agg [vl (v.files.map metaE.f),vi v.log,vi v.next,vn .u64 v.seq], .agg [vl (e.add.map metaE.f),vl (e.del.map intE.f),vi e.log,vi e.next,vn .u64 e.seq]] [] (T20 v e)=T20 v e:=by kernel_rfl

end Go.Ax

namespace Go.Ax
open Go.Proofs Go.RowKit
set_option maxRecDepth 100000

def leftL (del:List Int) (L:List Meta):List Meta:=L.filter fun m=> !hasI del m.num
def goneN (del:List Int) (L:List Meta):Nat:=(L.filter fun m=>hasI del m.num).length
def newI (a b:Int):Int:=if a>0 then a else b
noncomputable def applyW (v:Vers) (e:Edt):Vers:=⟨byNum (leftL e.del v.files++e.add),newI e.log v.log,newI e.next v.next,newI e.seq v.seq⟩
noncomputable def applyL (v:Vers) (e:Edt):Vers×Int:=
 if (goneN e.del v.files:Int)≠(e.del.length:Int)∨newI e.log v.log<v.log∨newI e.next v.next<v.next∨newI e.seq v.seq<v.seq then (⟨[],0,0,0⟩,1) else
 if (applyW v e).check=0 then (applyW v e,0) else (⟨[],0,0,0⟩,(applyW v e).check)

theorem left_len (del:List Int) (L:List Meta):(leftL del L).length≤L.length:=List.length_filter_le _ _
theorem left_cons (del:List Int) (m:Meta) (L:List Meta):leftL del (m::L)=if hasI del m.num then leftL del L else m::leftL del L:=by
 unfold leftL
 cases h:hasI del m.num <;> simp[h]
theorem gone_cons (del:List Int) (m:Meta) (L:List Meta):goneN del (m::L)=if hasI del m.num then goneN del L+1 else goneN del L:=by
 unfold goneN
 cases h:hasI del m.num <;> simp[h]

theorem T20_l4 (v:Vers) (e:Edt) (j1 j2 j3:Int) (hv:v.files.length≤1000000) (hd:e.del.length≤1000000):∀ (suf pre L:List Meta) (g:Nat),v.files=pre++suf→L.length≤pre.length→g≤pre.length →
  Rounds (T20_l4_e v e j1 j2 j3) (T20_l4_x v e j1 j2 j3) noX (fun s=>(T20_l4_b v e j1 j2 j3 s).wp) (L,(pre.length:Int),(g:Int)) (.inl (((g+goneN e.del suf:Nat):Int),L++leftL e.del suf))
 | [],pre,L,g,h,hL,hg=>by
  have en:v.files.length=pre.length:=by rw[h]; simp
  refine .done (by simp[T20_l4_x]) ?_
  unfold T20_l4_b
  simp only[leftL,goneN,List.filter_nil,List.append_nil,List.length_nil,Nat.add_zero]
  exact wp_sp (fun h=>by have:=of_decide_eq_true h; omega) (fun _=>wp_leaf rfl ⟨rfl,rfl⟩)
 | m::suf,pre,L,g,h,hL,hg=>by
  have en:v.files.length=pre.length+(suf.length+1):=by rw[h]; simp
  have hm:v.files[Int.toNat (pre.length:Int)]? = some m:=by rw[h]; simp
  have hnx:v.files=(pre++ [m])++suf:=by rw[h]; simp
  have hlen:(pre++ [m]).length=pre.length+1:=by simp
  rw[left_cons,gone_cons]
  cases hh:hasI e.del m.num with
  | true=>
   have ih:=T20_l4 v e j1 j2 j3 hv hd suf (pre++ [m]) L (g+1) hnx (by omega) (by omega)
   rw[if_pos rfl,if_pos rfl]
   rw[hlen,show g+1+goneN e.del suf=g+(goneN e.del suf+1) by omega] at ih
   refine .next ?_ ih
   unfold T20_l4_b
   dsimp only
   exact wp_sp (fun _=>wp_elem m (by omega) hm (wp_call (g34_eq hd) (wp_sp (fun _=>wp_i64 (by omega) (wp_i64 (by omega) (wp_leaf rfl ⟨rfl,rfl⟩))) (fun h=>by rw[hh] at h; cases h)))) (fun h=>by have:=of_decide_eq_false h; omega)
  | false=>
   have ih:=T20_l4 v e j1 j2 j3 hv hd suf (pre++ [m]) (L++ [m]) g hnx (by simp; omega) (by omega)
   rw[if_neg (by simp),if_neg (by simp)]
   rw[hlen,List.append_assoc] at ih
   refine .next ?_ ih
   unfold T20_l4_b
   dsimp only
   exact wp_sp (fun _=>wp_elem m (by omega) hm (wp_call (g34_eq hd) (wp_sp (fun h=>by rw[hh] at h; cases h) (fun _=>wp_app ⟨rfl,rfl⟩ rfl (by simp; omega) (wp_i64 (by omega) (wp_leaf rfl ⟨rfl,rfl⟩)))))) (fun h=>by have:=of_decide_eq_false h; omega)

def EdtOk (v:Vers) (e:Edt):Prop:=v.files.length≤500000∧e.del.length≤500000∧e.add.length≤500000

theorem L32 {L:List Meta} (hL:L.length≤1000000) (b0 b1 b2:List AV):liftR (R32p Γ35 c31 74) [.rs 3 1 5 0 L.length, .fn 74 []] [.cells false 0 b0, .cells false 0 b1, .cells false 0 b2,metaE.bx 1 L] (.tup []) [.cells false 0 b0, .cells false 0 b1, .cells false 0 b2,metaE.bx 1 (byNum L)]:=
 ⟨_,_,_,_,(byNum_spec hL).1,⟨[3],[1],[metaE.bx 1 L],[metaE.bx 1 (byNum L)],[],rfl,rfl,rfl,rfl,⟨.row true 0 _,trivial⟩,⟨.row true 0 _,trivial⟩,rfl,rfl,rfl⟩⟩

theorem T20_j5_wp (v:Vers) (e:Edt) (h0:EdtOk v e) (b:Bool) (hb:b=decide ((goneN e.del v.files:Int)≠(e.del.length:Int)∨newI e.log v.log<v.log∨newI e.next v.next<v.next∨newI e.seq v.seq<v.seq)) {K:AE→St→Prop}
  (hz:(applyL v e).1=⟨[],0,0,0⟩→K .ret ([(0, .tup [.agg [nilS,vi 0,vi 0,vn .u64 0],vi (applyL v e).2])],[]))
  (hr:K .ret ([(0, .tup [.agg [vl ((applyL v e).1.files.map metaE.f),vi (applyL v e).1.log,vi (applyL v e).1.next,vn .u64 (applyL v e).1.seq],vi (applyL v e).2])],[])):
  (T20_j5 e (newI e.log v.log) (newI e.next v.next) (newI e.seq v.seq) ((goneN e.del v.files:Int),leftL e.del v.files) b).wp K:=by
 obtain ⟨h1,h2,h3⟩:=h0
 have hl:=left_len e.del v.files
 have hlen:(leftL e.del v.files++e.add).length≤1000000:=by rw[List.length_append]; omega
 have hpl:=(byNum_spec hlen).2.1.length_eq
 unfold applyL at hz hr
 unfold T20_j5
 refine wp_br (fun e1=>?_) (fun e1=>?_)
 ·rw[hb] at e1
  rw[if_pos (of_decide_eq_true e1)] at hz
  exact wp_leaf rfl (hz rfl)
 ·rw[hb] at e1
  rw[if_neg (of_decide_eq_false e1)] at hz hr
  refine wp_app rfl rfl (by dsimp only; omega) (wp_callx (byNum (leftL e.del v.files++e.add)) ?_ (show Tree.wp _ _ from ⟨rfl,hpl.symm,wp_call (g15_eq (applyW v e)) (wp_sp (fun hc=>?_) (fun hc=>?_))⟩))
  ·exact L32 hlen _ _ _
  ·have hc:¬(applyW v e).check=0:=by
    have hc:((applyW v e).check != 0)=true:=hc
    simpa using hc
   rw[if_neg hc] at hz
   exact wp_leaf rfl (hz rfl)
  ·have hc:(applyW v e).check=0:=by
    have hc:((applyW v e).check != 0)=false:=hc
    simpa using hc
   rw[if_pos hc] at hr
   exact wp_leaf rfl hr

theorem T20_wp (v:Vers) (e:Edt) (h0:EdtOk v e) {K:AE→St→Prop}
  (hz:(applyL v e).1=⟨[],0,0,0⟩→K .ret ([(0, .tup [.agg [nilS,vi 0,vi 0,vn .u64 0],vi (applyL v e).2])],[]))
  (hr:K .ret ([(0, .tup [.agg [vl ((applyL v e).1.files.map metaE.f),vi (applyL v e).1.log,vi (applyL v e).1.next,vn .u64 (applyL v e).1.seq],vi (applyL v e).2])],[])):(T20 v e).wp K:=by
 have step3:(T20_j3 v e (newI e.log v.log) (newI e.next v.next) (newI e.seq v.seq)).wp K:=by
  obtain ⟨h1,h2,h3⟩:=id h0
  have l:=T20_l4 v e (newI e.log v.log) (newI e.next v.next) (newI e.seq v.seq) (by omega) (by omega) v.files [] [] 0 rfl (Nat.le_refl _) (Nat.le_refl _)
  rw[List.nil_append,Nat.zero_add] at l
  unfold T20_j3
  refine wp_len (show Tree.wp _ _ from wp_loop _ rfl l (wp_len (wp_sp (fun a=>wp_join rfl ?_) (fun a=>wp_sp (fun b=>wp_join rfl ?_) (fun b=>wp_sp (fun c=>wp_join rfl ?_) (fun c=>wp_sp (fun d=>wp_join rfl ?_) (fun d=>wp_join rfl ?_)))))))
  all_goals refine T20_j5_wp v e h0 _ ?_ hz hr
  all_goals symm
  all_goals dsimp only at *
  all_goals simp only[decide_eq_true_eq,decide_eq_false_iff_not,bne_iff_ne,ne_eq,bne_eq_false_iff_eq] at *
  ·exact .inl a
  ·exact .inr (.inl b)
  ·exact .inr (.inr (.inl c))
  ·exact .inr (.inr (.inr d))
  ·omega
 have step2:(T20_j2 v e (newI e.log v.log) (newI e.next v.next)).wp K:=by
  unfold T20_j2
  refine wp_sp (fun h=>wp_go (wp_join rfl ?_)) (fun h=>wp_go (wp_join rfl ?_))
  ·have:newI e.seq v.seq=e.seq:=if_pos (of_decide_eq_true h)
   rw[←this]; exact step3
  ·have:newI e.seq v.seq=v.seq:=if_neg (of_decide_eq_false h)
   rw[this] at step3; exact step3
 have step1:(T20_j1 v e (newI e.log v.log)).wp K:=by
  unfold T20_j1
  refine wp_sp (fun h=>wp_go (wp_join rfl ?_)) (fun h=>wp_go (wp_join rfl ?_))
  ·have:newI e.next v.next=e.next:=if_pos (of_decide_eq_true h)
   rw[this] at step2; exact step2
  ·have:newI e.next v.next=v.next:=if_neg (of_decide_eq_false h)
   rw[this] at step2; exact step2
 unfold T20
 refine wp_sp (fun h=>wp_go (wp_join rfl ?_)) (fun h=>wp_go (wp_join rfl ?_))
 ·have:newI e.log v.log=e.log:=if_pos (of_decide_eq_true h)
  rw[this] at step1; exact step1
 ·have:newI e.log v.log=v.log:=if_neg (of_decide_eq_false h)
  rw[this] at step1; exact step1

theorem edt_inj {x y:Edt} (h:AV.agg [vl (x.add.map metaE.f),vl (x.del.map intE.f),vi x.log,vi x.next,vn .u64 x.seq]=AV.agg [vl (y.add.map metaE.f),vl (y.del.map intE.f),vi y.log,vi y.next,vn .u64 y.seq]):x=y:=by
 cases x; cases y
 simp at h
 obtain ⟨h1,h2,h3,h4,h5⟩:=h
 have h1:=f_inj (by simpa using h1)
 have h2:=fI_inj (by simpa using h2)
 simp[h1,h2,h3,h4,h5]

def R20:List AV→AV→Prop:=fun args r=>∃ (v:Vers) (e:Edt),EdtOk v e∧args= [.agg [vl (v.files.map metaE.f),vi v.log,vi v.next,vn .u64 v.seq], .agg [vl (e.add.map metaE.f),vl (e.del.map intE.f),vi e.log,vi e.next,vn .u64 e.seq]] ∧
 r= .tup [.agg [vl ((applyL v e).1.files.map metaE.f),vi (applyL v e).1.log,vi (applyL v e).1.next,vn .u64 (applyL v e).1.seq],vi (applyL v e).2]
noncomputable def g20:=relG R20
theorem g20_eq {v:Vers} {e:Edt} (h:EdtOk v e):g20 [.agg [vl (v.files.map metaE.f),vi v.log,vi v.next,vn .u64 v.seq], .agg [vl (e.add.map metaE.f),vl (e.del.map intE.f),vi e.log,vi e.next,vn .u64 e.seq]] =
  some (.tup [.agg [vl ((applyL v e).1.files.map metaE.f),vi (applyL v e).1.log,vi (applyL v e).1.next,vn .u64 (applyL v e).1.seq],vi (applyL v e).2]):=relG_eq (by
 rintro args r r' ⟨v1,x1,_,e1,rfl⟩ ⟨v2,x2,_,e2,rfl⟩
 rw[e1] at e2
 simp only[List.cons.injEq,and_true] at e2
 obtain ⟨h1,h2⟩:=e2
 have:=vargs_inj h1
 have:=edt_inj h2
 subst this
 subst v1
 rfl) ⟨v,e,h,rfl,rfl⟩

theorem seal4 {S:Nat→Prop} {B:List Box} {x y:AV} (a b c u:PV) (h:Sealed S B x y):Sealed S B (.tup [.agg [x, .p a, .p b, .p c], .p u]) (.tup [.agg [y, .p a, .p b, .p c], .p u]):=by
 refine .tup _ _ rfl fun j c d hc hd=>?_
 match j with
 | 0=>
  cases hc; cases hd
  refine .agg _ _ rfl fun j c d hc hd=>?_
  match j with
  | 0=>cases hc; cases hd; exact h
  | 1=>cases hc; cases hd; exact .p _
  | 2=>cases hc; cases hd; exact .p _
  | 3=>cases hc; cases hd; exact .p _
  | j+4=>simp at hc
 | 1=>cases hc; cases hd; exact .p _
 | j+2=>simp at hc

theorem sound20:SoundF DP 34 (.pure g20):=sound_pureT (Γ:=Γ20) (Δ:=Δ20) (fn:=Tryd.f34) mixedD Γ20_ok Δ20_ok (by kernel_rfl) (by kernel_rfl) (by kernel_rfl) (by
 rintro args r ⟨v,e,h,rfl,rfl⟩
 refine ⟨rfl,rfl,_,T20_chk v e,T20_wp v e h (fun hz=>?_) ?_⟩
 ·rw[hz]
  exact seal4 _ _ _ _ .nil
 ·exact seal4 _ _ _ _ (.p _))

end Go.Ax
