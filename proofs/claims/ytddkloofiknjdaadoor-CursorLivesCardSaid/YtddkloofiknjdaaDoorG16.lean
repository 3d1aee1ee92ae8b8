/- Changes put in order; whether there are too many: contracts. -/
import Derived.Test.YtddkloofiknjdaaDoorG15
import Derived.Test.YtddkloofiknjdaaDoorG13
import Derived.WalkKit
import Derived.ProofKit
import Derived.OwnWalk
import Derived.Lib.Walk
import Derived.Lib.SliceRun
import Derived.Laws.AppendOwn
import Derived.Test.YtddkloofiknjdaaDoorTie
import Derived.Test.YtddkloofiknjdaaDoorG4
import Derived.OpenShut
import Derived.LaidMore
import Derived.LaidLaws
import Derived.LaidHandle
import Derived.Lib.LaidTab
import Derived.Stop.Joined
set_option linter.unusedVariables false
set_option linter.unusedSimpArgs false
set_option linter.unusedSectionVars false
namespace Go.Ax
open Go.Proofs Go.RowKit
set_option maxRecDepth 100000

theorem vN (t:Int):IntKind.i64.wrap ((BitVec.ofInt IntKind.i64.bits t &&& BitVec.ofInt IntKind.i64.bits 63).toNat)=t % 64:=by
 have h:(BitVec.ofInt IntKind.i64.bits t &&& BitVec.ofInt IntKind.i64.bits 63).toNat=(t % 64).toNat:=by
  show (BitVec.ofInt 64 t &&& BitVec.ofInt 64 63).toNat=_
  rw[BitVec.toNat_and,BitVec.toNat_ofInt,show (BitVec.ofInt 64 63).toNat=2 ^ 6 - 1 by decide,Nat.and_two_pow_sub_one_eq_mod]
  omega
 rw[h,IntKind.wrap_i64]
 omega
theorem ΓQ1_ok:∀ f,SoundF DP f (ΓQ1 f):=An wt (An U6 (An RT Bu))
section
variable {L : List Ent} {t : Int} {out : List Ent} {i : Nat} {x : Ent} {K : AE → St → Prop}
theorem ff (hO:out.length≤1000000):∀ (j s:Nat),s+j=insAt x out→Rounds (II L t (out,(i:Int)) x) (IJ L t (out,(i:Int)) x) CN (fun z=>(IK L t (out,(i:Int)) x z).wp) (s:Int) (.inl ((insAt x out:Nat):Int)):=by
 have hle:=Wg x out
 intro j
 induction j with
 | zero=>
  intro s hs
  rw[Nat.add_zero] at hs
  subst hs
  refine .done (by intro e; cases e) ?_
  unfold IK
  refine AC (fun h=>?_) (fun _=>wp_leaf rfl ⟨rfl,rfl⟩)
  have h:=of_decide_eq_true h
  simp only at h
  obtain ⟨y,hy⟩:∃ y,out[insAt x out]? = some y:=⟨_,List.getElem?_eq_getElem (by omega)⟩
  have hn:=Wi x out y hy
  rw[←D5] at hn
  exact CX (by omega) (by simp only; omega) (Bb y (by omega) (by simp[AB]) (by simpa using hy) (Ac (Dm y x) (AC (fun q=>absurd (of_decide_eq_true q) hn) (fun _=>wp_leaf rfl ⟨rfl,rfl⟩))))
 | succ j ih=>
  intro s hs
  have hr:=ih (s+1) (by omega)
  rw[show ((s+1:Nat):Int)=(s:Int)+1 by omega] at hr
  obtain ⟨y,hy⟩:∃ y,out[s]? = some y:=⟨_,List.getElem?_eq_getElem (by omega)⟩
  have hn:=Wh x out s y (by omega) hy
  rw[←D5] at hn
  refine .next ?_ hr
  unfold IK
  exact AC (fun _=>CX (by omega) (by simp only; omega) (Bb y (by omega) (by simp[AB]) (by simpa using hy) (Ac (Dm y x) (AC (fun _=>AP (by omega) (wp_leaf rfl ⟨rfl,rfl⟩)) (fun q=>absurd hn (of_decide_eq_false q)))))) (fun h'=>absurd (of_decide_eq_false h') (by simp only; omega))
theorem kK (hi:i≤1000000) (k:Int) (h:K .normal (DW L t (out,(i:Int)+1))):(Fo L t (out,(i:Int)) x k true).wp K:=by
 unfold Fo
 exact Ce (fun _=>AP (by simp only; omega) (wp_leaf rfl h)) (fun q=>by cases q)
theorem kL (out:List Ent) (k:Nat):(rowC (out.map AB.f)).drop (k*AB.sz)=rowC ((out.drop k).map AB.f):=by
 have h:=congrArg (fun z=>rowC (z.map AB.f)) (List.take_append_drop k out)
 simp only[List.map_append,Kv] at h
 rw[←Jk] at h
 exact (List.append_cancel_left (h.trans (List.take_append_drop _ _).symm)).symm
theorem Zr {out:List Ent} {k:Nat} (h:k≤out.length):(ASrc.part (0+A8 none*4) (Be (some (k:Int)) out.length - A8 none) (rowC (out.map AB.f))).ok AB (cutL none (some (k:Int)) out):=by
 refine ⟨?_,?_⟩
 ·show Int.toNat (k:Int) - 0=(out.take (Int.toNat (k:Int))).length
  rw[Int.toNat_natCast,List.length_take]; omega
 ·show ((rowC (out.map AB.f)).drop (0+0*4)).take ((Int.toNat (k:Int) - 0)*AB.sz)=rowC ((out.take (Int.toNat (k:Int))).map AB.f)
  rw[Int.toNat_natCast,Nat.zero_mul,Nat.add_zero,List.drop_zero,Nat.sub_zero,Jk]
theorem Zs {out:List Ent} {k:Nat} (h:k≤out.length):(ASrc.part (0+A8 (some (k:Int))*4) (Be none out.length - A8 (some (k:Int))) (rowC (out.map AB.f))).ok AB (cutL (some (k:Int)) none out):=by
 refine ⟨?_,?_⟩
 ·show out.length - Int.toNat (k:Int)=(out.drop (Int.toNat (k:Int))).length
  rw[List.length_drop]
 ·show ((rowC (out.map AB.f)).drop (0+Int.toNat (k:Int)*4)).take ((out.length - Int.toNat (k:Int))*AB.sz)=rowC ((out.drop (Int.toNat (k:Int))).map AB.f)
  rw[Int.toNat_natCast,Nat.zero_add,show k*4=k*AB.sz from rfl,kL,List.take_of_length_le]
  rw[AB.elt.rowLen,List.length_drop]
  exact Nat.le_refl _
theorem XB (hi:i≤1000000) (hO:out.length≤1000000) {k:Nat} (hk:k≤out.length) (h:K .normal (DW L t (out.take k++x::out.drop k,(i:Int)+1))):(Fo L t (out,(i:Int)) x (k:Int) false).wp K:=by
 have e1:cutL none (some (k:Int)) out=out.take k:=rfl
 have e2:cutL (some (k:Int)) none out=out.drop k:=rfl
 have l1:(out.take k).length≤k:=by rw[List.length_take]; omega
 have l2:(out.drop k).length=out.length - k:=List.length_drop
 unfold Fo
 refine Ce (fun q=>by cases q) (fun _=>LU (by simp only[CE]; omega) (BW (Zr hk) rfl ?_ (BW ⟨rfl,?_⟩ rfl ?_ (LU (by simp only[CE]; omega) (BW (Zs hk) rfl ?_ (AP (by simp only; omega) (wp_leaf rfl ?_)))))))
 ·rw[e1,List.nil_append]; omega
 ·rfl
 ·rw[e1,List.nil_append,List.length_append]; simp only[List.length_singleton]; omega
 ·rw[e1,e2,List.nil_append,List.length_append,List.length_append]; simp only[List.length_singleton]; omega
 ·rw[e1,e2,List.nil_append,List.append_assoc]
  exact h
theorem Zt (hi:i≤1000000) (hO:out.length≤1000000) (h:K .normal (DW L t (if CS x≠0 then out else Is x out,(i:Int)+1))):(Kg L t (out,(i:Int)) x).wp K:=by
 unfold Kg
 refine Ac (Jt x) (AC (fun q=>?_) (fun q=>?_))
 ·have q:CS x≠0:=by simpa using q
  rw[if_pos q] at h
  exact AP (by simp only; omega) (wp_leaf rfl h)
 have q:CS x=0:=by simpa using q
 rw[if_neg (by rw[q]; exact fun z=>z rfl),Zg] at h
 have hle:=Wg x out
 refine BH _ rfl (ff hO (insAt x out) 0 (by omega)) (AC (fun g=>?_) (fun g=>?_))
 ·have g:=of_decide_eq_true g
  simp only at g
  obtain ⟨y,hy⟩:∃ y,out[insAt x out]? = some y:=⟨_,List.getElem?_eq_getElem (by omega)⟩
  rw[hy] at h
  simp only at h
  refine CX (by omega) (by simp only; omega) (Bb y (by omega) (by simp[AB]) (by simpa using hy) (Ac (Dm y x) (AC (fun w=>Ab rfl (kK hi _ ?_)) (fun w=>Ab rfl (XB hi hO hle ?_)))))
  ·rw[if_pos ((E8 y x).1 (by simpa using w))] at h
   exact h
  ·rw[if_neg (fun z=>by have:=(E8 y x).2 z; simp[this] at w)] at h
   exact h
 ·have g:=of_decide_eq_false g
  simp only at g
  have hy:out[insAt x out]? = none:=List.getElem?_eq_none (by omega)
  rw[hy] at h
  exact Ab rfl (XB hi hO hle h)
theorem rj (ht: -(2 ^ 63:Int)≤t∧t<2 ^ 63) (hN:L.length≤1000000) (hv:∀ x∈L,x.val.size≤1000000):∀ (M:List Ent) (i:Nat) (out:List Ent),L.drop i=M→i+M.length=L.length→out.length≤i→Rounds (DW L t) LE CN (fun s=>(IL L t s).wp) (out,(i:Int)) (.inl (M.foldl (E9 t) out)):=by
 intro M
 induction M with
 | nil=>
  intro i out hM hl ho
  simp only[List.length_nil] at hl
  refine .done (by intro e; cases e) ?_
  unfold IL
  exact AC (fun h'=>absurd (of_decide_eq_true h') (by simp only; omega)) (fun _=>wp_leaf rfl ⟨rfl,rfl⟩)
 | cons x M ih=>
  intro i out hM hl ho
  simp only[List.length_cons] at hl
  have gx:L[i]? = some x:=by rw[←List.head?_drop,hM]; rfl
  have hM':L.drop (i+1)=M:=by rw[←List.drop_drop,hM]; rfl
  have ho':(E9 t out x).length≤i+1:=by
   unfold E9
   split
   ·omega
   ·have:=QX (Ga t x) out; omega
  have hr:=ih (i+1) (E9 t out x) hM' (by omega) ho'
  rw[show ((i+1:Nat):Int)=(i:Int)+1 by omega] at hr
  rw[List.foldl_cons]
  refine .next ?_ hr
  unfold IL
  have hvx:=hv x (List.mem_of_getElem? gx)
  refine AC (fun _=>Ci x (by simp only; omega) (by simpa using gx) (AC (fun q=>?_) (fun q=>?_))) (fun h'=>absurd (of_decide_eq_false h') (by simp only; omega))
  ·refine Ab rfl (Zt (by omega) (by omega) ⟨rfl,?_⟩)
   have e:Ga t x=x:=by unfold Ga; rw[if_pos q]
   unfold E9
   rw[e]
  ·have e:Ga t x=⟨x.key,x.seq,x.del,Jw x.val (1+t % 64).toNat⟩:=by unfold Ga; rw[if_neg (by rw[q]; decide),q]
   refine Ai (vN t) (AP (by omega) (Ac (my (by omega) (by omega)) (Ab rfl (Zt (by omega) (by omega) ⟨rfl,?_⟩))))
   unfold E9
   rw[e]
end
def rk:List AV→AV→Prop:=fun args r=>∃ (L:List Ent) (t:Int),(-(2 ^ 63:Int)≤t∧t<2 ^ 63)∧L.length≤1000000∧(∀ x∈L,x.val.size≤1000000)∧args= [vl (L.map AB.f),vi t]∧r=vl ((Ad t L).map AB.f)
noncomputable def Li:=B4 rk
theorem rl:SoundF DP Rj (.pure Li):=A6 AZ ΓQ1_ok Bq nq nr nt (by
 rintro args r ⟨L,t,ht,hN,hv,rfl,rfl⟩
 refine ⟨rfl,rfl,_,cU L t,?_⟩
 unfold XA
 exact Aq (BH _ rfl (rj ht hN hv L 0 [] List.drop_zero (Nat.zero_add _) (Nat.le_refl _)) (wp_leaf rfl (AB.elt.sealed trivial rfl))))
theorem fg {L:List Ent} {t:Int} (ht: -(2 ^ 63:Int)≤t∧t<2 ^ 63) (hN:L.length≤1000000) (hv:∀ x∈L,x.val.size≤1000000):Li [vl (L.map AB.f),vi t]=some (vl ((Ad t L).map AB.f)):=BT (by
 rintro args r r' ⟨a,t1,_,_,_,h1,rfl⟩ ⟨b,t2,_,_,_,h2,rfl⟩
 have h:=h1.symm.trans h2
 injection h with h h'
 injection h' with h' _
 simp only[AV.p.injEq,PV.ls.injEq] at h
 have e:=QT h
 have e2:t1=t2:=by simpa [vi] using h'
 rw[e,e2]) ⟨L,t,ht,hN,hv,rfl,rfl⟩

section
variable {L : List Ent}
theorem fh (h:Fits L) {c:List Ent} (hc:c∈AG L 0 []):(DE c).length≤304*c.length+(c.map EC).sum+16:=by
 have hs:=h.sub hc
 have hB:=S2 c 0 [] (fun x hx=>h.good.chk x (hs.subset hx))
 have hp:=h.page hc
 have hu:=ZY (h.good.sub hs).inn
 have hm:=RL hu (by omega)
 have hw:=HC (c.map Az) 0 0 []
 have hcn:=LW (c.map Az) 0
 rw[List.length_map] at hcn
 unfold DE
 rw[EB,hm]
 simp only[List.length_append,CJ]
 omega
theorem Rk (h:Fits L):∀ C:List (List Ent),(∀ c∈C,c∈AG L 0 [])→(Am C).length≤304*C.flatten.length+(C.flatten.map EC).sum+16*C.length
 | [],_=>Nat.zero_le _
 | c::C,hC=>by
  have h1:=Rk h C (fun d hd=>hC d (by simp[hd]))
  have h2:=fh h (hC c (by simp))
  rw[Am,List.length_append,List.length_cons,List.flatten_cons,List.length_append,List.map_append,List.sum_append]
  omega
theorem Zu {V:Nat}:∀ {L:List Ent},(∀ x∈L,x.key.size≤128∧x.val.size≤V)→(L.map EC).sum≤(128+V)*L.length
 | [],_=>Nat.zero_le _
 | x::L,h=>by
  have h1:=h x (by simp)
  have h2:=Zu (L:=L) (fun y hy=>h y (by simp[hy]))
  have h3:EC x=x.key.size+x.val.size:=rfl
  rw[List.map_cons,List.sum_cons,List.length_cons,Nat.mul_succ]
  omega
theorem Fits.len2 (h:Fits L) {V:Nat} (hv:∀ x∈L,x.val.size≤V):(As L).length≤(128+V)*L.length+304*L.length+21000:=by
 have h1:=Rk h (AG L 0 []) (fun c hc=>hc)
 have h2:=h.chunks_len
 have h3:=MV h
 have h4:=MX h
 have h5:=Ni L
 rw[h.flat] at h1
 have h6:=Zu (L:=L) (V:=V) (fun x hx=>⟨by have:=Gf (h.good.chk x hx); omega,hv x hx⟩)
 simp only[As,List.length_append]
 omega
end
theorem P3 (l:List UInt8):∀ n:Nat,(Lib.repeatL l n).length=n*l.length
 | 0=>by simp[Lib.repeatL]
 | n+1=>by rw[Lib.repeatL,List.length_append,P3 l n,Nat.succ_mul,Nat.add_comm]
theorem fk (s:ByteArray) (n:Nat):(Jw s n).size=n*s.size:=by
 show (Lib.repeatL s.data.toList n).toArray.size=_
 rw[List.size_toArray,P3]
 rfl
theorem fm (t:Int) (x:Ent):(Ga t x).val.size≤64*x.val.size:=by
 unfold Ga
 split
 ·omega
 ·show (Jw x.val (1+t % 64).toNat).size≤_
  rw[fk]
  exact Nat.mul_le_mul_right _ (by omega)
theorem fo (t:Int) (L:List Ent):∀ y∈Ad t L,∃ x∈L,y=Ga t x:=by
 have:∀ (M out:List Ent),(∀ y∈out,∃ x∈L,y=Ga t x)→(∀ x∈M,x∈L)→∀ y∈M.foldl (E9 t) out,∃ x∈L,y=Ga t x:=by
  intro M
  induction M with
  | nil=>intro out h _; exact h
  | cons x M ih=>
   intro out h hM
   rw[List.foldl_cons]
   refine ih _ (fun y hy=>?_) (fun z hz=>hM z (by simp[hz]))
   unfold E9 at hy
   split at hy
   ·exact h y hy
   ·rcases Jx _ _ y hy with rfl | e
    ·exact ⟨x,hM x (by simp),rfl⟩
    ·exact h y e
 exact this L [] (fun y hy=>by cases hy) (fun x hx=>hx)
theorem fq {L:List Ent} (t:Int) (hs:∀ x∈L,0≤x.seq) (hn:L.length≤40) (hv:∀ x∈L,x.val.size≤200) (hA:Ad t L≠ []):Fits (Ad t L)∧(As (Ad t L)).length≤600000:=by
 obtain ⟨g1,g2⟩:=Mf t L hs
 have hf:Fits (Ad t L):=⟨g1,hA,by omega⟩
 refine ⟨hf,?_⟩
 have:=hf.len2 (V:=12800) (fun y hy=>by
  obtain ⟨x,hx,rfl⟩:=fo t L y hy
  have h1:=fm t x
  have h2:=hv x hx
  omega)
 have h40:=hf.few
 omega
end Go.Ax
namespace Go.Ax
open Go.Proofs Go.RowKit Go.Lib
set_option maxRecDepth 100000

def JE (a:Ent):Prop:=0≤a.seq∧a.seq<18446744073709551616
set_option maxHeartbeats 2000000 in
theorem XC (ad:Addr) (c:Nat) (w:World):Calls DP 26 #[.slice (some ad) 0 c] w fun e w'=>∃ v',e= .returned v'∧w'.ownsRow w.heap.size 30 4 v' 0 []∧Below w.heap.size w w':=by
 obtain ⟨i0,hi,hz0,hz1,hz2⟩:=info_parts (P:=DP) (e:=30) (z:= .agg #[.string {data := #[]}, .int .u64 0, .bool false, .string {data := #[]}]) (size:=4) (bytes:=48) (by kernel_rfl)
 have mixed:DP.follows .mixedOrders=true:=AZ
 have t45:DP.underlying 22=some (.slice 30):=by kernel_rfl
 have q45:∀ (w:World) (a:Option Addr) (n c n' c':Nat),(binOp .eql 22 (.slice a n c) (.slice none n' c')).run DP w= .ok (.bool a.isNone) w:=fun w a n c n' c'=>Lib.run_eql_slice_nil w _ _ a n c n' c' t45
 have u45:∀ w,Sem.run DP (underlying 22) w= .ok (TypeDesc.slice 30) w:=run_underlying t45
 go_enter Tryd.func26,Tryd.ntmps26
 go_wp2_with (at_builtin; refine wpList_append_own _ rfl _ _ 22 rfl w.heap.size 30 i0 (.agg #[.string {data := #[]}, .int .u64 0, .bool false, .string {data := #[]}]) 4 48 t45 hi hz0 hz1 hz2 rfl (by decide) _ _ _ rfl (World.ownsRow_made w #[] 0 (Nat.le_refl _) (Nat.zero_le _) rfl) ad 0 c [] rfl rfl ?qc2 ?qc3 ?qc4 ?qc5 ?qc6 ?_)
 case qc2=>intro j u hj; simp at hj
 case qc3=>intro u hu; simp at hu
 case qc4=>unfold maxLen; omega
 case qc5=>omega
 case qc6=>simp
 intro v' w1 hown hgrow hnil
 go_wp2
 go_ret
 exact ⟨v',rfl,by simpa using hown,((Below.refl _ w).alloc (Nat.le_refl _) _).grown hgrow (by simp) (by intro k hk; simp[Value.ownBlock] at hk; omega)⟩

abbrev Lj:Nat:=26
noncomputable abbrev Zv:Func:=Tryd.f26
theorem kM:DP.funcs[Lj]? = some Zv:=by kernel_rfl
theorem XD:Ak DP Lj=true:=by kernel_rfl
theorem kN:Zv.body.isSome=true:=by kernel_rfl
noncomputable def T3:Tree:=
.leaf ⟨[0],[]⟩ [] .ret (some ([(0,AI)],[]))

theorem Uc:Av DP Γ0 Δ0 Tryd.f26 [AI] [] (T3)=T3:=by kernel_rfl

noncomputable def N6 (x:Ent) (xs:List Ent):Tree:=
.app 7 (.ls ((x::xs).map AB.f)) 0 ([]) AB ([]:List Ent) (x::xs) (.leaf ⟨[0],[(0,1,some ((([]:List Ent)++(x::xs)).map AB.f))]⟩ [rowC ((([]:List Ent)++(x::xs)).map AB.f)] .ret (some ([(0, .rs 0 0 4 0 ((([]:List Ent)++(x::xs)).length))],[AB.bx 0 (([]:List Ent)++(x::xs))])))

theorem Ud (x:Ent) (xs:List Ent):Av DP Γ0 Δ0 Tryd.f26 [vl ((x::xs).map AB.f)] [] (N6 x xs)=N6 x xs:=by kernel_rfl

def Gb:List AV→AV→Prop:=fun args r=>(args= [AI]∧r=vl [])∨∃ (x:Ent) (xs:List Ent),(x::xs).length≤1000000000∧args= [vl ((x::xs).map AB.f)]∧r=vl ((x::xs).map AB.f)
theorem XE:SoundF DP Lj (.pure (B4 Gb)):=A6 AZ Γ0_ok Bq kM XD kN (by
 rintro args r (⟨rfl,rfl⟩ | ⟨x,xs,hl,rfl,rfl⟩)
 ·exact ⟨rfl,rfl,_,Uc,wp_leaf rfl .nil⟩
 ·refine ⟨rfl,rfl,_,Ud x xs,?_⟩
  unfold N6
  exact BW (E:=AB) rfl rfl (by simp only[List.nil_append,List.length_cons] at hl ⊢; omega) (wp_leaf rfl (AB.elt.sealed trivial rfl)))
def nu:List AV→AV→Prop:=fun args r=>∃ (L:List Ent),L.length≤1000000000∧args= [vl (L.map AB.f)]∧r=vl (L.map AB.f)
noncomputable def PK:=B4 nu
theorem XF {args:List AV} {r r':AV} (h:Gb args r) (h':Gb args r'):r=r':=by
 rcases h with ⟨h1,rfl⟩ | ⟨x,xs,_,h1,rfl⟩ <;> rcases h' with ⟨h2,rfl⟩ | ⟨y,ys,_,h2,rfl⟩
 ·rfl
 ·rw[h1] at h2; cases h2
 ·rw[h1] at h2; cases h2
 ·exact EO (h1.symm.trans h2)
theorem cV {L:List Ent} (h:L.length≤1000000000):PK [vl (L.map AB.f)]=some (vl (L.map AB.f)):=BT (by
 rintro args r r' ⟨x,_,h1,rfl⟩ ⟨y,_,h2,rfl⟩
 exact EO (h1.symm.trans h2)) ⟨L,h,rfl,rfl⟩
theorem nv:SoundF DP Lj (.pure PK):=by
 intro args B r B' hs F ρ w us hI hA
 obtain ⟨r',h1,h2⟩:=map_some hs
 cases h2
 obtain ⟨L,hL,rfl,rfl⟩:=IU h1
 have hrun:∀ (al:List AV) (y:AV),Gb al y→(FSpec.pure (B4 Gb)).run al B=some (y,B):=fun al y h=>by
  show ((B4 Gb al).map fun r=>(r,B))=_
  rw[BT (R:=Gb) (fun _ _ _ h h2=>XF h h2) h]; rfl
 cases L with
 | cons x xs=>exact XE _ B _ B (hrun _ _ (.inr ⟨x,xs,hL,rfl,rfl⟩)) F ρ w us hI hA
 | nil=>
  obtain ⟨v,rfl⟩:∃ v,us= [v]:=by
   match us,hA.1 with
   | [v],_=>exact ⟨v,rfl⟩
  have hv:=hA.2 0 _ _ rfl rfl
  have key:(∃ ad c,v= .slice (some ad) 0 c)∨v= .slice none 0 0:=by
   cases hv with
   | p _ _ hp=>
    cases hp with
    | nil a cap h=>
     cases a with
     | none=>exact .inr (by rw[h.resolve_left (by simp)])
     | some a=>exact .inl ⟨a,cap,rfl⟩
    | ls xs a cap us=>exact .inl ⟨a,cap,rfl⟩
  rcases key with ⟨ad,c,rfl⟩ | rfl
  ·refine .inl ⟨Ev XD _ _,(XC ad c w).mono fun e w' hp=>?_⟩
   obtain ⟨v',rfl,ho,hb⟩:=hp
   have hsh:∀ k e n,w.shape? k=some (e,n)→w'.shape? k=some (e,n):=fun k e n h=>by
    have hk:k<w.heap.size:=by
     rcases Nat.lt_or_ge k w.heap.size with h' | h'
     ·exact h'
     ·unfold World.shape? at h
      rw[Array.getElem?_eq_none h'] at h
      cases h
    unfold World.shape? at h ⊢
    rw[hb.block k hk]
    exact h
   obtain ⟨s1,s2⟩:=LL hb.size hb.os hb.tape hb.output hsh (fun k hk=>hb.block k hk) hI
   refine ⟨v',ρ,rfl,s2,s1, .p _ _ ?_⟩
   rcases ho.2 with ⟨rfl,_⟩ | ⟨g,cap,cur,rfl,_⟩
   ·exact .nil none 0 (.inr rfl)
   ·exact .nil (some _) cap (.inl rfl)
  ·exact XE [AI] B _ B (hrun _ _ (.inl ⟨rfl,rfl⟩)) F ρ w _ hI ⟨rfl,fun j p u hp hu=>by
    match j with
    | 0=>cases hp; cases hu; exact .p _ _ (.v _)
    | j+1=>simp at hp⟩
end Go.Ax
namespace Go.Ax
open Go.Proofs Go.ChangeShapes Go.WideShapes Go.ChangeAt Go.RowKit
set_option maxRecDepth 100000

theorem rm {W:World} {g:Nat} {us:Array Value} {e:TypeId} {fr:Nat×Nat} (hh:W.heap[g]? = some (.cells us e fr)) (hu:us.toList.map PV.v=Glob.tab g):∀ ρ,GRel noF [] ρ W g:=fun ρ=>by
 have hl:(Glob.tab g).length=us.toList.length:=by rw[←hu]; simp
 refine ⟨.rp _ ⟨g,0,none⟩ us.toList rfl SM (Array.getElem?_eq_some_iff.1 hh).1 hl (fun j u hj=>?_) (fun j p u hp hv=>?_),us,e,fr,hh,by rw[hl]; simp⟩
 ·rw[Addr.add_lit,Nat.zero_add,Fw hh]
  simpa using hj
 ·rw[←hu,List.getElem?_map,hv] at hp
  cases hp
  exact .v _

theorem fv {P:Program} {W:World} {n:String} {g:Nat} {cs:Array Value} (hg:P.globalNamed n=some g) (h:W.var? P n=some cs):∃ e fr,W.heap[g]? = some (.cells cs e fr):=by
 unfold World.var? at h
 rw[hg,Option.bind_some] at h
 split at h
 ·rename_i cs' e fr hc
  cases h
  exact ⟨e,fr,hc⟩
 ·cases h

abbrev Rl : List (String × DataW Unit) := [("tailrace/crc.halves", YtddkloofiknjdaaDoor.Rows.laid_tailrace_crc_halves)]

theorem ny : DP.globalNamed "tailrace/crc.halves" = some 1 := by kernel_rfl
theorem nz:(DP.globals[1]?).map (·.type)=some 161:=by kernel_rfl

theorem kO {W:World} (h:laidMetH DP Rl W):Uk W:=by
 rw[MakeChecks.laidMetH_plain _ _ _ (by kernel_rfl)] at h
 obtain ⟨ps,⟨g3,t3,cs3,f3,p3,q3,hg3,ht3,hv3,hd3,_,_⟩,_⟩:=h
 obtain rfl:=Option.some.inj (ny.symm.trans hg3)
 obtain rfl:=Option.some.inj (nz.symm.trans ht3)
 have c3:=Lib.cells_of_tab (k:= .u32) (zs:=Ot) (n:=16) (e:=142) (by kernel_rfl) (by kernel_rfl) (by kernel_rfl) (by kernel_rfl) hd3
 obtain ⟨e3,r3,b3⟩:=fv hg3 hv3
 intro g hg
 match g with
 | 1=>exact rm b3 (by rw[c3]; rfl)
 | 0=>exact absurd rfl hg
 | g+2=>exact absurd rfl hg

theorem vO (os:Os) (args:Array Value):laidMetH DP Rl ((World.doorLaid DP 17 os).forCall (fun _ _=>0) ⟨#[],args,[]⟩).memory:=
 laidMetH_of_parts3 (fuel:=8) (laidMet_of_run' 8 (by kernel_rfl) (by kernel_rfl)) (by kernel_rfl) (by kernel_rfl)

theorem fw {n:Int} (h:(Lit.int .i64 n).wf=true): -(2 ^ 63:Int)≤n∧n<2 ^ 63:=by
 simp only[Lit.wf,Bool.and_eq_true,decide_eq_true_eq] at h
 have h1:IntKind.i64.min= -9223372036854775808:=by decide
 have h2:IntKind.i64.max=9223372036854775807:=by decide
 omega
theorem fx {n:Int} (h:(Lit.int .u64 n).wf=true):0≤n∧n<18446744073709551616:=by
 simp only[Lit.wf,Bool.and_eq_true,decide_eq_true_eq] at h
 have h1:IntKind.u64.min=0:=by decide
 have h2:IntKind.u64.max=18446744073709551615:=by decide
 omega
section
variable {H : Type} {enc : TypeId × Value → H} {w : World} {base : Nat} {spare : Nat → Bool} {held : Bool} {O : Nat → Prop}
theorem rn (n:Nat) (cs':List Value) (y:DataW H×List MemPlace) (h:DataW.trod enc DP w base spare held n 30 cs'=some y):
  ∃ a:Ent,JE a∧cs'.length=4∧∀ (r:Nat) (p:PV) (u:Value),(AB.f a).cells[r]? = some p→cs'[r]? = some u→PRel O w p u:=by
 obtain ⟨xs,n,_,rfl,hl,hlen,hf⟩:=DataW.trod_struct Tryd.underlying30 h
 have hc:DP.cellsOf 30=4:=by kernel_rfl
 have c9:DP.cellsOf 9=1:=by kernel_rfl
 have c50:DP.cellsOf 28=1:=by kernel_rfl
 have c4:DP.cellsOf 4=1:=by kernel_rfl
 rw[hc] at hl
 have h0:DataW.trod enc DP w base spare held n 9 ((cs'.drop 0).take (DP.cellsOf 9))=xs[0]? := hf 0 _ rfl
 have h1:DataW.trod enc DP w base spare held n 28 ((cs'.drop 1).take (DP.cellsOf 28))=xs[1]? := hf 1 _ rfl
 have h2:DataW.trod enc DP w base spare held n 4 ((cs'.drop 2).take (DP.cellsOf 4))=xs[2]? := hf 2 _ rfl
 have h3:DataW.trod enc DP w base spare held n 9 ((cs'.drop 3).take (DP.cellsOf 9))=xs[3]? := hf 3 _ rfl
 rw[c9] at h0 h3
 rw[c50] at h1
 rw[c4] at h2
 match cs',hl,xs,hlen with
 | [v0,v1,v2,v3],_,[x0,x1,x2,x3],_=>
  obtain ⟨a,e0,_,_⟩:=DataW.trod_string Tryd.underlying9 h0
  obtain ⟨b,e1,_,hw⟩:=DataW.trod_int Tryd.underlying28 h1
  obtain ⟨c,e2,_⟩:=DataW.trod_bool Tryd.underlying4 h2
  obtain ⟨d,e3,_,_⟩:=DataW.trod_string Tryd.underlying9 h3
  simp at e0 e1 e2 e3
  subst e0 e1 e2 e3
  refine ⟨⟨a,b,c,d⟩,fx hw,rfl,fun r p u hp hu=>?_⟩
  match r with
  | 0=>cases hp; cases hu; exact .v _
  | 1=>cases hp; cases hu; exact .v _
  | 2=>cases hp; cases hu; exact .v _
  | 3=>cases hp; cases hu; exact .v _
  | r+4=>simp[AB,PV.cells] at hp
theorem n5 (hO:∀ k,¬O k) {fuel:Nat} {v:Value} {x:DataW H×List MemPlace} (h:DataW.trod enc DP w base spare held fuel 22 [v]=some x):
  ∃ L:List Ent,(∀ a∈L,JE a)∧PRel O w (.ls (L.map AB.f)) v:=Tf hO Tryd.underlying22 AB.elt (by decide) (by kernel_rfl) (fun n cs' y hy=>rn n cs' y hy) h
end
end Go.Ax
namespace Go.Ax
open Go.Proofs Go.RowKit
set_option maxRecDepth 100000

structure Cur where
 L:List Ent
 pg:Int
 bad:Int
abbrev curB (k:Int) (fp:AV) (c:Cur):Box:= .cells false 0 [vi k,vl (c.L.map AB.f),fp,vi c.pg,AI,vi c.bad]
abbrev Es (D:Dsk) (nm:ByteArray) (F:FileR) (c:Cur):List Box:= [BD D,filC 0 nm F,curB 2 (.ptr 1 0 0) c]
abbrev Do (c:Cur):List Box:= [curB 1 nilQ c]
structure Pgs where
 pf:Int→List Ent×Int
 np:Int
def Ah (D:Dsk) (nm:ByteArray) (F:FileR):Pgs:=⟨fun i=>BV (AF D nm) F.idx i,F.idx.length⟩
def ES (c:Cur) (e:Int):Cur:=⟨c.L,c.pg,if c.bad=0 then e else c.bad⟩
def A5 (p:Pgs) (c:Cur):Cur×Int:=
 if c.bad≠0∨0<c.L.length∨p.np≤c.pg then (c,c.bad) else
 if (p.pf c.pg).2≠0 then (ES c (p.pf c.pg).2,(ES c (p.pf c.pg).2).bad) else (⟨(p.pf c.pg).1,c.pg+1,c.bad⟩,0)
def headE (L:List Ent):Ent×Bool×Int:=match L with
 | []=>(Ag,false,0)
 | x::_=>(x,true,0)
def Cq (c:Cur):Ent×Bool×Int:=if c.bad≠0 then (Ag,false,c.bad) else headE c.L
def BZ (p:Pgs) (c:Cur):Cur×(Ent×Bool×Int):=
 if c.bad≠0 then (c,Ag,false,c.bad) else
 if (A5 p c).2≠0 then ((A5 p c).1,Ag,false,(A5 p c).2) else ((A5 p c).1,headE (A5 p c).1.L)
def cW (c:Cur):Cur:=⟨c.L.drop 1,c.pg,c.bad⟩
def FC (c:Cur):Cur×(Ent×Bool×Int):=if (Cq c).2.1=true then (cW c,(Cq c).1,true,0) else (c,Cq c)
def Dh (p:Pgs) (c:Cur):Cur×(Ent×Bool×Int):=
 if (BZ p c).2.2.1=true then (cW (BZ p c).1,(BZ p c).2.1,true,0) else BZ p c
structure RdOk (D:Dsk) (nm:ByteArray) (F:FileR):Prop where
 ok:D.Ok
 up:D.down=false
 fok:FOk F
 few:F.idx.length≤100000000
def cX:Ae:=fun args B r B'=>∃ (D:Dsk) (nm:ByteArray) (F:FileR) (c:Cur) (e:Int),args= [.ptr 2 0 0,vi e]∧B=Es D nm F c∧r=vi (ES c e).bad∧B'=Es D nm F (ES c e)
def PL:Ae:=fun args B r B'=>(∃ c:Cur,args= [.ptr 0 0 0]∧B=Do c∧r=vi c.bad∧B'=Do c) ∨
 ∃ (D:Dsk) (nm:ByteArray) (F:FileR) (c:Cur),RdOk D nm F∧(0≤c.pg∧c.pg≤100000000)∧args= [.ptr 2 0 0]∧B=Es D nm F c∧r=vi (A5 (Ah D nm F) c).2∧B'=Es D nm F (A5 (Ah D nm F) c).1

noncomputable def XG:CB:=CZ [(PI,AX TO),(Nx,AX Nz),(31,AX cX)]

abbrev cY:Nat:=31
noncomputable abbrev cZ:Func:=Tryd.f31
theorem rq:DP.funcs[cY]? = some cZ:=by kernel_rfl
theorem rr:Ak DP cY=true:=by kernel_rfl
theorem rt:cZ.body.isSome=true:=by kernel_rfl
theorem ru:cZ.ntmps=18:=by kernel_rfl
abbrev PM:Nat:=29
noncomputable abbrev ca:Func:=Tryd.f29
theorem fy:DP.funcs[PM]? = some ca:=by kernel_rfl
theorem fz:Ak DP PM=true:=by kernel_rfl
theorem f7:ca.body.isSome=true:=by kernel_rfl
theorem gA:ca.ntmps=69:=by kernel_rfl
abbrev Eh:Nat:=17
noncomputable abbrev Mj:Func:=Tryd.f17
theorem Rm:DP.funcs[Eh]? = some Mj:=by kernel_rfl
theorem Rn:Ak DP Eh=true:=by kernel_rfl
theorem Ro:Mj.body.isSome=true:=by kernel_rfl
theorem Rp:Mj.ntmps=59:=by kernel_rfl
abbrev GL:Nat:=13
noncomputable abbrev J1:Func:=Tryd.f13
theorem PN:DP.funcs[GL]? = some J1:=by kernel_rfl
theorem PO:Ak DP GL=true:=by kernel_rfl
theorem PP:J1.body.isSome=true:=by kernel_rfl
theorem Lk:J1.ntmps=53:=by kernel_rfl
abbrev F3:Nat:=18
noncomputable abbrev JF:Func:=Tryd.f18
theorem Rq:DP.funcs[F3]? = some JF:=by kernel_rfl
theorem Rr:Ak DP F3=true:=by kernel_rfl
theorem Rs:JF.body.isSome=true:=by kernel_rfl
theorem Rt:JF.ntmps=121:=by kernel_rfl
abbrev GM:Nat:=28
noncomputable abbrev HI:Func:=Tryd.f28
theorem Zw:DP.funcs[GM]? = some HI:=by kernel_rfl
theorem Zx:Ak DP GM=true:=by kernel_rfl
theorem Zy:HI.body.isSome=true:=by kernel_rfl
theorem Zz:HI.ntmps=50:=by kernel_rfl
abbrev Ll:Nat:=11
noncomputable abbrev XH:Func:=Tryd.f11
theorem n6:DP.funcs[Ll]? = some XH:=by kernel_rfl
theorem n7:Ak DP Ll=true:=by kernel_rfl
theorem n8:XH.body.isSome=true:=by kernel_rfl
theorem n9:XH.ntmps=7:=by kernel_rfl
abbrev N7:Nat:=24
noncomputable abbrev XI:Func:=Tryd.f24
theorem oA:DP.funcs[N7]? = some XI:=by kernel_rfl
theorem oB:Ak DP N7=true:=by kernel_rfl
theorem oC:XI.body.isSome=true:=by kernel_rfl
theorem oD:XI.ntmps=6:=by kernel_rfl
abbrev J2:Nat:=12
noncomputable abbrev Lm:Func:=Tryd.f12
theorem Z0:DP.funcs[J2]? = some Lm:=by kernel_rfl
theorem Z1:Ak DP J2=true:=by kernel_rfl
theorem Z2:Lm.body.isSome=true:=by kernel_rfl
theorem Z3:Lm.ntmps=7:=by kernel_rfl
abbrev Gp:Nat:=27
noncomputable abbrev Ja:Func:=Tryd.f27
theorem XJ:DP.funcs[Gp]? = some Ja:=by kernel_rfl
theorem QY:Ak DP Gp=true:=by kernel_rfl
theorem XK:Ja.body.isSome=true:=by kernel_rfl
theorem kP:Ja.ntmps=8:=by kernel_rfl

noncomputable def XL (D:Dsk) (nm:ByteArray) (F:FileR) (c:Cur) (e:Int):Tree:=
.sp 9 (c.bad == (0:Int)) (
.leaf ⟨[0],[(0,0,none),(1,0,none),(2,0,none)]⟩ [] .ret (some ([(0,vi e)],[.obj [] (AH D), .cells false 0 ([.op 0,vs nm,vl (F.idx.map AK.f),vl (F.bits.map AA.f),vi F.cnt,vs F.low,vs F.high]), .cells false 0 ([vi 2,vl (c.L.map AB.f), .ptr 1 0 0,vi c.pg,AI,vi e])]))) (
.leaf ⟨[0],[(0,0,none),(1,0,none),(2,0,none)]⟩ [] .ret (some ([(0,vi c.bad)],[.obj [] (AH D), .cells false 0 ([.op 0,vs nm,vl (F.idx.map AK.f),vl (F.bits.map AA.f),vi F.cnt,vs F.low,vs F.high]), .cells false 0 ([vi 2,vl (c.L.map AB.f), .ptr 1 0 0,vi c.pg,AI,vi c.bad])])))

theorem cb (D:Dsk) (nm:ByteArray) (F:FileR) (c:Cur) (e:Int):Av DP Γ0 Δ0 Tryd.f31 [.ptr 2 0 0,vi e] [.obj [] (AH D), .cells false 0 ([.op 0,vs nm,vl (F.idx.map AK.f),vl (F.bits.map AA.f),vi F.cnt,vs F.low,vs F.high]), .cells false 0 ([vi 2,vl (c.L.map AB.f), .ptr 1 0 0,vi c.pg,AI,vi c.bad])] (XL D nm F c e)=XL D nm F c e:=by kernel_rfl

noncomputable def D2 (c:Cur) (j1:Unit):St:=([(0, .ptr 0 0 0),(36,vb true)],[.cells false 0 ([vi 1,vl (c.L.map AB.f), .p (.v (.pointer none)),vi c.pg,AI,vi c.bad])])
noncomputable def Gq (c:Cur) (j1:Unit):Tree:=
.leaf ⟨[0],[(0,0,none)]⟩ [] .ret (some ([(0,vi c.bad)],[.cells false 0 ([vi 1,vl (c.L.map AB.f), .p (.v (.pointer none)),vi c.pg,AI,vi c.bad])]))
noncomputable def XM (c:Cur):Tree:=
.any (.sp 9 (c.bad != (0:Int)) (
.fork (
.join ⟨[0,36],[(0,0,none)]⟩ [] (some (D2 c ())) (D2 c) () (Gq c)) (
.join ⟨[0,36],[(0,0,none)]⟩ [] (some (D2 c ())) (D2 c) () (Gq c))) (
.fork (
.join ⟨[0,36],[(0,0,none)]⟩ [] (some (D2 c ())) (D2 c) () (Gq c)) (
.join ⟨[0,36],[(0,0,none)]⟩ [] (some (D2 c ())) (D2 c) () (Gq c))))

theorem ce (c:Cur):Av DP Γ0 XG Tryd.f29 [.ptr 0 0 0] [.cells false 0 ([vi 1,vl (c.L.map AB.f), .p (.v (.pointer none)),vi c.pg,AI,vi c.bad])] (XM c)=XM c:=by kernel_rfl

noncomputable def B8 (D:Dsk) (nm:ByteArray) (F:FileR) (c:Cur) (j1:Bool):St:=([(0, .ptr 2 0 0),(36,vb j1)],[.obj [] (AH D), .cells false 0 ([.op 0,vs nm,vl (F.idx.map AK.f),vl (F.bits.map AA.f),vi F.cnt,vs F.low,vs F.high]), .cells false 0 ([vi 2,vl (c.L.map AB.f), .ptr 1 0 0,vi c.pg,AI,vi c.bad])])
noncomputable def Dc (D:Dsk) (nm:ByteArray) (F:FileR) (c:Cur) (j1:Bool):Tree:=
.br j1 (
.leaf ⟨[0],[(0,0,none),(1,0,none),(2,0,none)]⟩ [] .ret (some ([(0,vi c.bad)],[.obj [] (AH D), .cells false 0 ([.op 0,vs nm,vl (F.idx.map AK.f),vl (F.bits.map AA.f),vi F.cnt,vs F.low,vs F.high]), .cells false 0 ([vi 2,vl (c.L.map AB.f), .ptr 1 0 0,vi c.pg,AI,vi c.bad])]))) (
.any (.callr (some 50) (XG 45 [.ptr 1 0 0,vi c.pg] [.obj [] (AH D), .cells false 0 ([.op 0,vs nm,vl (F.idx.map AK.f),vl (F.bits.map AA.f),vi F.cnt,vs F.low,vs F.high]), .cells false 0 ([vi 2,vl (c.L.map AB.f), .ptr 1 0 0,vi c.pg,AI,vi c.bad])] (.tup [vl (((BV (AF D nm) F.idx c.pg).1).map AB.f),vi ((BV (AF D nm) F.idx c.pg).2)]) [.obj [] (AH D), .cells false 0 ([.op 0,vs nm,vl (F.idx.map AK.f),vl (F.bits.map AA.f),vi F.cnt,vs F.low,vs F.high]), .cells false 0 ([vi 2,vl (c.L.map AB.f), .ptr 1 0 0,vi c.pg,AI,vi c.bad])]) (.tup [vl (((BV (AF D nm) F.idx c.pg).1).map AB.f),vi ((BV (AF D nm) F.idx c.pg).2)]) [.obj [] (AH D), .cells false 0 ([.op 0,vs nm,vl (F.idx.map AK.f),vl (F.bits.map AA.f),vi F.cnt,vs F.low,vs F.high]), .cells false 0 ([vi 2,vl (c.L.map AB.f), .ptr 1 0 0,vi c.pg,AI,vi c.bad])] (.sp 54 (((BV (AF D nm) F.idx c.pg).2) != (0:Int)) (
.callr (some 57) (XG 31 [.ptr 2 0 0,vi ((BV (AF D nm) F.idx c.pg).2)] [.obj [] (AH D), .cells false 0 ([.op 0,vs nm,vl (F.idx.map AK.f),vl (F.bits.map AA.f),vi F.cnt,vs F.low,vs F.high]), .cells false 0 ([vi 2,vl (c.L.map AB.f), .ptr 1 0 0,vi c.pg,AI,vi c.bad])] (vi ((ES c ((BV (AF D nm) F.idx c.pg).2)).bad)) [.obj [] (AH D), .cells false 0 ([.op 0,vs nm,vl (F.idx.map AK.f),vl (F.bits.map AA.f),vi F.cnt,vs F.low,vs F.high]), .cells false 0 ([vi 2,vl (((ES c ((BV (AF D nm) F.idx c.pg).2)).L).map AB.f), .ptr 1 0 0,vi ((ES c ((BV (AF D nm) F.idx c.pg).2)).pg),AI,vi ((ES c ((BV (AF D nm) F.idx c.pg).2)).bad)])]) (vi ((ES c ((BV (AF D nm) F.idx c.pg).2)).bad)) [.obj [] (AH D), .cells false 0 ([.op 0,vs nm,vl (F.idx.map AK.f),vl (F.bits.map AA.f),vi F.cnt,vs F.low,vs F.high]), .cells false 0 ([vi 2,vl (((ES c ((BV (AF D nm) F.idx c.pg).2)).L).map AB.f), .ptr 1 0 0,vi ((ES c ((BV (AF D nm) F.idx c.pg).2)).pg),AI,vi ((ES c ((BV (AF D nm) F.idx c.pg).2)).bad)])] (.leaf ⟨[0],[(0,0,none),(1,0,none),(2,0,none)]⟩ [] .ret (some ([(0,vi ((ES c ((BV (AF D nm) F.idx c.pg).2)).bad))],[.obj [] (AH D), .cells false 0 ([.op 0,vs nm,vl (F.idx.map AK.f),vl (F.bits.map AA.f),vi F.cnt,vs F.low,vs F.high]), .cells false 0 ([vi 2,vl (((ES c ((BV (AF D nm) F.idx c.pg).2)).L).map AB.f), .ptr 1 0 0,vi ((ES c ((BV (AF D nm) F.idx c.pg).2)).pg),AI,vi ((ES c ((BV (AF D nm) F.idx c.pg).2)).bad)])])))) (
.int 66 (IntKind.i64.wrap (c.pg+1)) (c.pg+1) (.leaf ⟨[0],[(0,0,none),(1,0,none),(2,0,none)]⟩ [] .ret (some ([(0,vi 0)],[.obj [] (AH D), .cells false 0 ([.op 0,vs nm,vl (F.idx.map AK.f),vl (F.bits.map AA.f),vi F.cnt,vs F.low,vs F.high]), .cells false 0 ([vi 2,vl (((BV (AF D nm) F.idx c.pg).1).map AB.f), .ptr 1 0 0,vi (c.pg+1),AI,vi c.bad])])))))))
noncomputable def XN (D:Dsk) (nm:ByteArray) (F:FileR) (c:Cur):Tree:=
.any (.sp 9 (c.bad != (0:Int)) (
.fork (
.join ⟨[0,36],[(0,0,none),(1,0,none),(2,0,none)]⟩ [] (some (B8 D nm F c true)) (B8 D nm F c) true (Dc D nm F c)) (
.join ⟨[0,36],[(0,0,none),(1,0,none),(2,0,none)]⟩ [] (some (B8 D nm F c true)) (B8 D nm F c) true (Dc D nm F c))) (
.int 22 ((c.L.map AB.f).length:Int) (c.L.length:Int) (.sp 23 (decide ((c.L.length:Int)>(0:Int))) (
.fork (
.join ⟨[0,36],[(0,0,none),(1,0,none),(2,0,none)]⟩ [] (some (B8 D nm F c true)) (B8 D nm F c) true (Dc D nm F c)) (
.join ⟨[0,36],[(0,0,none),(1,0,none),(2,0,none)]⟩ [] (some (B8 D nm F c true)) (B8 D nm F c) true (Dc D nm F c))) (
.fork (
.callr (some 34) (XG 54 [.ptr 1 0 0] [.obj [] (AH D), .cells false 0 ([.op 0,vs nm,vl (F.idx.map AK.f),vl (F.bits.map AA.f),vi F.cnt,vs F.low,vs F.high]), .cells false 0 ([vi 2,vl (c.L.map AB.f), .ptr 1 0 0,vi c.pg,AI,vi c.bad])] (vi (F.idx.length:Int)) [.obj [] (AH D), .cells false 0 ([.op 0,vs nm,vl (F.idx.map AK.f),vl (F.bits.map AA.f),vi F.cnt,vs F.low,vs F.high]), .cells false 0 ([vi 2,vl (c.L.map AB.f), .ptr 1 0 0,vi c.pg,AI,vi c.bad])]) (vi (F.idx.length:Int)) [.obj [] (AH D), .cells false 0 ([.op 0,vs nm,vl (F.idx.map AK.f),vl (F.bits.map AA.f),vi F.cnt,vs F.low,vs F.high]), .cells false 0 ([vi 2,vl (c.L.map AB.f), .ptr 1 0 0,vi c.pg,AI,vi c.bad])] (.sp 35 (decide (c.pg≥(F.idx.length:Int))) (
.join ⟨[0,36],[(0,0,none),(1,0,none),(2,0,none)]⟩ [] (some (B8 D nm F c true)) (B8 D nm F c) true (Dc D nm F c)) (
.join ⟨[0,36],[(0,0,none),(1,0,none),(2,0,none)]⟩ [] (some (B8 D nm F c false)) (B8 D nm F c) false (Dc D nm F c)))) (
.callr (some 34) (XG 54 [.ptr 1 0 0] [.obj [] (AH D), .cells false 0 ([.op 0,vs nm,vl (F.idx.map AK.f),vl (F.bits.map AA.f),vi F.cnt,vs F.low,vs F.high]), .cells false 0 ([vi 2,vl (c.L.map AB.f), .ptr 1 0 0,vi c.pg,AI,vi c.bad])] (vi (F.idx.length:Int)) [.obj [] (AH D), .cells false 0 ([.op 0,vs nm,vl (F.idx.map AK.f),vl (F.bits.map AA.f),vi F.cnt,vs F.low,vs F.high]), .cells false 0 ([vi 2,vl (c.L.map AB.f), .ptr 1 0 0,vi c.pg,AI,vi c.bad])]) (vi (F.idx.length:Int)) [.obj [] (AH D), .cells false 0 ([.op 0,vs nm,vl (F.idx.map AK.f),vl (F.bits.map AA.f),vi F.cnt,vs F.low,vs F.high]), .cells false 0 ([vi 2,vl (c.L.map AB.f), .ptr 1 0 0,vi c.pg,AI,vi c.bad])] (.sp 35 (decide (c.pg≥(F.idx.length:Int))) (
.join ⟨[0,36],[(0,0,none),(1,0,none),(2,0,none)]⟩ [] (some (B8 D nm F c true)) (B8 D nm F c) true (Dc D nm F c)) (
.join ⟨[0,36],[(0,0,none),(1,0,none),(2,0,none)]⟩ [] (some (B8 D nm F c false)) (B8 D nm F c) false (Dc D nm F c))))))))

theorem cg (D:Dsk) (nm:ByteArray) (F:FileR) (c:Cur):Av DP Γ0 XG Tryd.f29 [.ptr 2 0 0] [.obj [] (AH D), .cells false 0 ([.op 0,vs nm,vl (F.idx.map AK.f),vl (F.bits.map AA.f),vi F.cnt,vs F.low,vs F.high]), .cells false 0 ([vi 2,vl (c.L.map AB.f), .ptr 1 0 0,vi c.pg,AI,vi c.bad])] (XN D nm F c)=XN D nm F c:=by kernel_rfl


theorem vP:SoundR DP cY cX:=Al AZ Γ0_ok Bq rq rr rt (by
 rintro args B r B' ⟨D,nm,F,c,e,rfl,rfl,rfl,rfl⟩
 refine ⟨by rw[ru]; rfl,_,cb D nm F c e,?_⟩
 unfold XL ES
 refine AC (fun q=>?_) (fun q=>?_)
 ·have q:c.bad=0:=by simpa using q
  simp only[if_pos q]
  exact wp_leaf rfl ⟨rfl,rfl⟩
 ·have q:¬c.bad=0:=by simpa using q
  simp only[if_neg q]
  exact wp_leaf rfl ⟨rfl,rfl⟩)
theorem gB:∀ f,SoundR DP f (XG f):=AY (AU ni)<|AY (AU fV)<|AY (AU vP) BJ
theorem Hk {R:Ae} {al:List AV} {y:AV} {D:Dsk} {nm:ByteArray} {F:FileR} {c c':Cur} {B:List Box} {d f l:Nat} (hR:R (.ptr 2 0 0::al) (Es D nm F c) y (Es D nm F c'))
  (hd:B[d]? = some (BD D)) (hf:B[f]? = some (filC d nm F)) (hl:B[l]? = some (curB 2 (.ptr f 0 0) c)) (h1:∀ f d,AV.rv.rvL f d al=al) (h2:∀ n,AV.low.allLow n al=true) (hy:y.low 0=true):
  AX R (.ptr l 0 0::al) B y (B.set l (curB 2 (.ptr f 0 0) c')):=by
 have hdl:d<B.length:=(List.getElem?_eq_some_iff.1 hd).1
 have hfl:f<B.length:=(List.getElem?_eq_some_iff.1 hf).1
 have hll:l<B.length:=(List.getElem?_eq_some_iff.1 hl).1
 have n1:d≠f:=fun e=>by rw[e,hf] at hd; cases hd
 have n2:d≠l:=fun e=>by rw[e,hl] at hd; cases hd
 have n3:f≠l:=fun e=>by
  rw[e,hl] at hf
  have:=congrArg (fun o=>match o with | some (.cells _ _ cs)=>cs.length | _=>0) hf
  simp at this
 have bq:∀ {a b:Nat},a≠b→Nat.beq a b=false:=fun {a b} h=>by
  cases e:Nat.beq a b with
  | false=>rfl
  | true=>exact absurd (Nat.eq_of_beq_eq_true e) h
 refine ⟨_,_,_,_,hR,⟨[d,f,l],[0,0,0],[BD D,filC d nm F,curB 2 (.ptr f 0 0) c],[BD D,filC d nm F,curB 2 (.ptr f 0 0) c'],[],?_,?_,?_,?_,⟨.objs rfl rfl, .cells ?_ ?_ rfl, .cells ?_ ?_ rfl,trivial⟩,⟨.objs rfl rfl, .cells ?_ ?_ rfl, .cells ?_ ?_ rfl,trivial⟩,?_,(Ny hy _ _).symm,HV hy⟩⟩
 ·simp[DO,Nat.blt_eq,hdl,hfl,hll,bq n1,bq n2,bq n3,bq n1.symm,bq n2.symm,bq n3.symm]
 ·simp[hd,hf,hl]
 ·rw[AV.rv.rvL,h1]; simp[AV.rv,Bc,BM]
 ·rw[AV.low.allLow,h2]; rfl
 all_goals first
  | (simp[BM]; done)
  | (simp[AV.rv.rvL,AV.rv,Bc,BM]; done)
  | (rw[Bh,Bh,Bh,Bh,DT hd,DT hf,List.append_nil])
theorem Hl {R:Ae} {al:List AV} {y:AV} {c c':Cur} {B:List Box} {l:Nat} (hR:R (.ptr 0 0 0::al) (Do c) y (Do c')) (hl:B[l]? = some (curB 1 nilQ c)) (h1:∀ f d,AV.rv.rvL f d al=al) (h2:∀ n,AV.low.allLow n al=true) (hy:y.low 0=true):
  AX R (.ptr l 0 0::al) B y (B.set l (curB 1 nilQ c')):=by
 have hll:l<B.length:=(List.getElem?_eq_some_iff.1 hl).1
 refine ⟨_,_,_,_,hR,⟨[l],[0],[curB 1 nilQ c],[curB 1 nilQ c'],[],?_,?_,?_,?_,⟨.cells ?_ ?_ rfl,trivial⟩,⟨.cells ?_ ?_ rfl,trivial⟩,?_,(Ny hy _ _).symm,HV hy⟩⟩
 ·simp[DO,Nat.blt_eq,hll]
 ·simp[hl]
 ·rw[AV.rv.rvL,h1]; simp[AV.rv,Bc,BM]
 ·rw[AV.low.allLow,h2]; rfl
 all_goals first
  | (simp[BM]; done)
  | (simp[AV.rv.rvL,AV.rv,Bc,BM]; done)
  | (rw[Bh,Bh,List.append_nil])
theorem w5 {B:List Box} {d l:Nat} {D:Dsk} {nm:ByteArray} {F:FileR} (hb:B[d]? = some (BD D)) (hl:B[l]? = some (filC d nm F)):AX TO [.ptr l 0 0] B (vi (F.idx.length:Int)) B:=
 wz (f:=fun _ F=>vi (F.idx.length:Int)) (z:=vi 0) hb hl rfl
theorem lc:SoundR DP PM PL:=(Al (R:=fun args B r B'=>∃ c:Cur,args= [.ptr 0 0 0]∧B=Do c∧r=vi c.bad∧B'=Do c) AZ Γ0_ok gB fy fz f7 (by
 rintro args B r B' ⟨c,rfl,rfl,rfl,rfl⟩
 refine ⟨by rw[gA]; rfl,_,ce c,?_⟩
 have h:(Gq c ()).wp (fun _ x=>tk x.1 0=vi c.bad∧x.2=Do c):=by
  unfold Gq
  exact wp_leaf rfl ⟨rfl,rfl⟩
 unfold XM
 exact Cg (AC (fun _=>DU (Ab rfl h) (Ab rfl h)) (fun _=>DU (Ab rfl h) (Ab rfl h))))).or (Al AZ Γ0_ok gB fy fz f7 (by
 rintro args B r B' ⟨D,nm,F,c,hr,hp,rfl,rfl,rfl,rfl⟩
 refine ⟨by rw[gA]; rfl,_,cg D nm F c,?_⟩
 obtain ⟨R,hR⟩:∃ R,R=A5 (Ah D nm F) c:=⟨_,rfl⟩
 rw[←hR]
 unfold A5 at hR
 have jT:R=(c,c.bad)→(Dc D nm F c true).wp (fun _ c=>tk c.1 0=(vi R.2,Es D nm F R.1).1∧c.2=(vi R.2,Es D nm F R.1).2):=fun e=>by
  rw[e]
  unfold Dc
  exact Ce (fun _=>wp_leaf rfl ⟨rfl,rfl⟩) (fun q=>by cases q)
 unfold XN
 refine Cg (AC (fun q=>?_) (fun q=>Aq (AC (fun q2=>?_) (fun q2=>?_))))
 ·have q:c.bad≠0:=by simpa using q
  have:=jT (by rw[hR,if_pos (.inl q)])
  exact DU (Ab rfl this) (Ab rfl this)
 ·have:=jT (by rw[hR,if_pos (.inr (.inl (by have:=of_decide_eq_true q2; omega)))])
  exact DU (Ab rfl this) (Ab rfl this)
 refine (fun h=>DU h h) (AM (w5 (d:=0) (l:=1) rfl rfl) (AC (fun q3=>Ab rfl (jT (by rw[hR,if_pos (.inr (.inr (of_decide_eq_true q3)))]))) (fun q3=>Ab rfl ?_)))
 have q:c.bad=0:=by simpa using q
 have q2:=of_decide_eq_false q2
 have q3:¬(F.idx.length:Int)≤c.pg:=of_decide_eq_false q3
 rw[if_neg (show ¬(c.bad≠0∨0<c.L.length∨(Ah D nm F).np≤c.pg) from fun h=>by
  rcases h with h | h | h
  ·exact h q
  ·omega
  ·exact q3 h)] at hR
 unfold Dc
 refine Ce (fun q=>by cases q) (fun _=>Cg<|AM (fW (b:=0) (l:=1) hr.ok hr.up hr.fok rfl rfl) (AC (fun q4=>?_) (fun q4=>AP (by omega) ?_)))
 ·have q4:(BV (AF D nm) F.idx c.pg).2≠0:=by simpa using q4
  rw[if_pos (show ((Ah D nm F).pf c.pg).2≠0 from q4)] at hR
  rw[hR]
  exact AM (Hk (R:=cX) (d:=0) (f:=1) (l:=2) (B:=Es D nm F c) ⟨D,nm,F,c,_,rfl,rfl,rfl,rfl⟩ rfl rfl rfl (fun _ _=>rfl) (fun _=>rfl) rfl) (wp_leaf rfl ⟨rfl,rfl⟩)
 ·have q4:(BV (AF D nm) F.idx c.pg).2=0:=by simpa using q4
  rw[if_neg (show ¬((Ah D nm F).pf c.pg).2≠0 from fun h=>h q4)] at hR
  rw[hR]
  exact wp_leaf rfl ⟨rfl,rfl⟩))
section
variable {B : List Box} {D : Dsk} {nm : ByteArray} {F : FileR} {c : Cur} {d f l : Nat}
theorem rx (hr:RdOk D nm F) (hp:0≤c.pg∧c.pg≤100000000) (hd:B[d]? = some (BD D)) (hf:B[f]? = some (filC d nm F)) (hl:B[l]? = some (curB 2 (.ptr f 0 0) c)):
  AX PL [.ptr l 0 0] B (vi (A5 (Ah D nm F) c).2) (B.set l (curB 2 (.ptr f 0 0) (A5 (Ah D nm F) c).1)):=
 Hk (R:=PL) (.inr ⟨D,nm,F,c,hr,hp,rfl,rfl,rfl,rfl⟩) hd hf hl (fun _ _=>rfl) (fun _=>rfl) rfl
theorem ry (hl:B[l]? = some (curB 1 nilQ c)):AX PL [.ptr l 0 0] B (vi c.bad) (B.set l (curB 1 nilQ c)):=
 Hl (R:=PL) (.inl ⟨c,rfl,rfl,rfl,rfl⟩) hl (fun _ _=>rfl) (fun _=>rfl) rfl
end

noncomputable def gC:CB:=CZ [(PM,AX PL)]
def JG:Ae:=fun args B r B'=>(∃ c:Cur,args= [.ptr 0 0 0]∧B=Do c∧r= .tup [AB.av (Cq c).1,vb (Cq c).2.1,vi (Cq c).2.2]∧B'=Do c) ∨
 ∃ (D:Dsk) (nm:ByteArray) (F:FileR) (c:Cur),RdOk D nm F∧(0≤c.pg∧c.pg≤100000000)∧args= [.ptr 2 0 0]∧B=Es D nm F c∧r= .tup [AB.av (BZ (Ah D nm F) c).2.1,vb (BZ (Ah D nm F) c).2.2.1,vi (BZ (Ah D nm F) c).2.2.2]∧B'=Es D nm F (BZ (Ah D nm F) c).1
noncomputable def gD:CB:=CZ [(Eh,AX JG)]

noncomputable def IM (c:Cur) (j1:Unit):St:=([(2, .ptr 1 0 0),(3,vb false),(4,vi c.bad)],[.cells false 0 ([vi 1,vl (c.L.map AB.f), .p (.v (.pointer none)),vi c.pg,AI,vi c.bad]), .cells false 0 ([vs (⟨#[]⟩),vn .u64 0,vb false,vs (⟨#[]⟩)])])
noncomputable def Kh (c:Cur) (j1:Unit):Tree:=
.leaf ⟨[0],[(0,0,none)]⟩ [] .ret (some ([(0, .tup [.agg [vs (⟨#[]⟩),vn .u64 0,vb false,vs (⟨#[]⟩)],vb false,vi c.bad])],[.cells false 0 ([vi 1,vl (c.L.map AB.f), .p (.v (.pointer none)),vi c.pg,AI,vi c.bad])]))
noncomputable def XO (c:Cur):Tree:=
.sp 18 (c.bad != (0:Int)) (
.any (.fork (
.join ⟨[2,3,4],[(0,0,none),(1,0,none)]⟩ [] (some (IM c ())) (IM c) () (Kh c)) (
.join ⟨[2,3,4],[(0,0,none),(1,0,none)]⟩ [] (some (IM c ())) (IM c) () (Kh c)))) (
.callr (some 41) (gC 29 [.ptr 0 0 0] [.cells false 0 ([vi 1,vl (c.L.map AB.f), .p (.v (.pointer none)),vi c.pg,AI,vi c.bad]), .cells false 0 ([vs (⟨#[]⟩),vn .u64 0,vb false,vs (⟨#[]⟩)])] (vi c.bad) [.cells false 0 ([vi 1,vl (c.L.map AB.f), .p (.v (.pointer none)),vi c.pg,AI,vi c.bad]), .cells false 0 ([vs (⟨#[]⟩),vn .u64 0,vb false,vs (⟨#[]⟩)])]) (vi c.bad) [.cells false 0 ([vi 1,vl (c.L.map AB.f), .p (.v (.pointer none)),vi c.pg,AI,vi c.bad]), .cells false 0 ([vs (⟨#[]⟩),vn .u64 0,vb false,vs (⟨#[]⟩)])] (.sp 43 (c.bad != (0:Int)) .stuck (.int 50 ((c.L.map AB.f).length:Int) (c.L.length:Int) (.sp 51 ((c.L.length:Int) == (0:Int)) (
.leaf ⟨[0],[(0,0,none)]⟩ [] .ret (some ([(0, .tup [.agg [vs (⟨#[]⟩),vn .u64 0,vb false,vs (⟨#[]⟩)],vb false,vi 0])],[.cells false 0 ([vi 1,vl (c.L.map AB.f), .p (.v (.pointer none)),vi c.pg,AI,vi c.bad])]))) (
.elem 57 (c.L.map AB.f) AB c.L 0 (fun e1=> .leaf ⟨[0],[(0,0,none)]⟩ [] .ret (some ([(0, .tup [(AB.av e1),vb true,vi 0])],[.cells false 0 ([vi 1,vl (c.L.map AB.f), .p (.v (.pointer none)),vi c.pg,AI,vi c.bad])]))))))))

theorem ci (c:Cur):Av DP Γ0 gC Tryd.f17 [.ptr 0 0 0] [.cells false 0 ([vi 1,vl (c.L.map AB.f), .p (.v (.pointer none)),vi c.pg,AI,vi c.bad])] (XO c)=XO c:=by kernel_rfl

noncomputable def IN (D:Dsk) (nm:ByteArray) (F:FileR) (c:Cur) (j1:Unit):St:=([(2, .ptr 3 0 0),(3,vb false),(4,vi c.bad)],[.obj [] (AH D), .cells false 0 ([.op 0,vs nm,vl (F.idx.map AK.f),vl (F.bits.map AA.f),vi F.cnt,vs F.low,vs F.high]), .cells false 0 ([vi 2,vl (c.L.map AB.f), .ptr 1 0 0,vi c.pg,AI,vi c.bad]), .cells false 0 ([vs (⟨#[]⟩),vn .u64 0,vb false,vs (⟨#[]⟩)])])
noncomputable def Ki (D:Dsk) (nm:ByteArray) (F:FileR) (c:Cur) (j1:Unit):Tree:=
.leaf ⟨[0],[(0,0,none),(1,0,none),(2,0,none)]⟩ [] .ret (some ([(0, .tup [.agg [vs (⟨#[]⟩),vn .u64 0,vb false,vs (⟨#[]⟩)],vb false,vi c.bad])],[.obj [] (AH D), .cells false 0 ([.op 0,vs nm,vl (F.idx.map AK.f),vl (F.bits.map AA.f),vi F.cnt,vs F.low,vs F.high]), .cells false 0 ([vi 2,vl (c.L.map AB.f), .ptr 1 0 0,vi c.pg,AI,vi c.bad])]))
noncomputable def XP (D:Dsk) (nm:ByteArray) (F:FileR) (c:Cur):Tree:=
.sp 18 (c.bad != (0:Int)) (
.any (.fork (
.join ⟨[2,3,4],[(0,0,none),(1,0,none),(2,0,none),(3,0,none)]⟩ [] (some (IN D nm F c ())) (IN D nm F c) () (Ki D nm F c)) (
.join ⟨[2,3,4],[(0,0,none),(1,0,none),(2,0,none),(3,0,none)]⟩ [] (some (IN D nm F c ())) (IN D nm F c) () (Ki D nm F c)))) (
.callr (some 41) (gC 29 [.ptr 2 0 0] [.obj [] (AH D), .cells false 0 ([.op 0,vs nm,vl (F.idx.map AK.f),vl (F.bits.map AA.f),vi F.cnt,vs F.low,vs F.high]), .cells false 0 ([vi 2,vl (c.L.map AB.f), .ptr 1 0 0,vi c.pg,AI,vi c.bad]), .cells false 0 ([vs (⟨#[]⟩),vn .u64 0,vb false,vs (⟨#[]⟩)])] (vi ((A5 (Ah D nm F) c).2)) [.obj [] (AH D), .cells false 0 ([.op 0,vs nm,vl (F.idx.map AK.f),vl (F.bits.map AA.f),vi F.cnt,vs F.low,vs F.high]), .cells false 0 ([vi 2,vl (((A5 (Ah D nm F) c).1.L).map AB.f), .ptr 1 0 0,vi ((A5 (Ah D nm F) c).1.pg),AI,vi ((A5 (Ah D nm F) c).1.bad)]), .cells false 0 ([vs (⟨#[]⟩),vn .u64 0,vb false,vs (⟨#[]⟩)])]) (vi ((A5 (Ah D nm F) c).2)) [.obj [] (AH D), .cells false 0 ([.op 0,vs nm,vl (F.idx.map AK.f),vl (F.bits.map AA.f),vi F.cnt,vs F.low,vs F.high]), .cells false 0 ([vi 2,vl (((A5 (Ah D nm F) c).1.L).map AB.f), .ptr 1 0 0,vi ((A5 (Ah D nm F) c).1.pg),AI,vi ((A5 (Ah D nm F) c).1.bad)]), .cells false 0 ([vs (⟨#[]⟩),vn .u64 0,vb false,vs (⟨#[]⟩)])] (.sp 43 (((A5 (Ah D nm F) c).2) != (0:Int)) (
.leaf ⟨[0],[(0,0,none),(1,0,none),(2,0,none)]⟩ [] .ret (some ([(0, .tup [.agg [vs (⟨#[]⟩),vn .u64 0,vb false,vs (⟨#[]⟩)],vb false,vi ((A5 (Ah D nm F) c).2)])],[.obj [] (AH D), .cells false 0 ([.op 0,vs nm,vl (F.idx.map AK.f),vl (F.bits.map AA.f),vi F.cnt,vs F.low,vs F.high]), .cells false 0 ([vi 2,vl (((A5 (Ah D nm F) c).1.L).map AB.f), .ptr 1 0 0,vi ((A5 (Ah D nm F) c).1.pg),AI,vi ((A5 (Ah D nm F) c).1.bad)])]))) (
.int 50 ((((A5 (Ah D nm F) c).1.L).map AB.f).length:Int) (((A5 (Ah D nm F) c).1.L).length:Int) (.sp 51 ((((A5 (Ah D nm F) c).1.L).length:Int) == (0:Int)) (
.leaf ⟨[0],[(0,0,none),(1,0,none),(2,0,none)]⟩ [] .ret (some ([(0, .tup [.agg [vs (⟨#[]⟩),vn .u64 0,vb false,vs (⟨#[]⟩)],vb false,vi 0])],[.obj [] (AH D), .cells false 0 ([.op 0,vs nm,vl (F.idx.map AK.f),vl (F.bits.map AA.f),vi F.cnt,vs F.low,vs F.high]), .cells false 0 ([vi 2,vl (((A5 (Ah D nm F) c).1.L).map AB.f), .ptr 1 0 0,vi ((A5 (Ah D nm F) c).1.pg),AI,vi ((A5 (Ah D nm F) c).1.bad)])]))) (
.elem 57 (((A5 (Ah D nm F) c).1.L).map AB.f) AB ((A5 (Ah D nm F) c).1.L) 0 (fun e1=> .leaf ⟨[0],[(0,0,none),(1,0,none),(2,0,none)]⟩ [] .ret (some ([(0, .tup [(AB.av e1),vb true,vi 0])],[.obj [] (AH D), .cells false 0 ([.op 0,vs nm,vl (F.idx.map AK.f),vl (F.bits.map AA.f),vi F.cnt,vs F.low,vs F.high]), .cells false 0 ([vi 2,vl (((A5 (Ah D nm F) c).1.L).map AB.f), .ptr 1 0 0,vi ((A5 (Ah D nm F) c).1.pg),AI,vi ((A5 (Ah D nm F) c).1.bad)])]))))))))

theorem cj (D:Dsk) (nm:ByteArray) (F:FileR) (c:Cur):Av DP Γ0 gC Tryd.f17 [.ptr 2 0 0] [.obj [] (AH D), .cells false 0 ([.op 0,vs nm,vl (F.idx.map AK.f),vl (F.bits.map AA.f),vi F.cnt,vs F.low,vs F.high]), .cells false 0 ([vi 2,vl (c.L.map AB.f), .ptr 1 0 0,vi c.pg,AI,vi c.bad])] (XP D nm F c)=XP D nm F c:=by kernel_rfl

noncomputable def XQ (c:Cur):Tree:=
.callr (some 13) (gD 17 [.ptr 0 0 0] [.cells false 0 ([vi 1,vl (c.L.map AB.f), .p (.v (.pointer none)),vi c.pg,AI,vi c.bad]), .cells false 0 ([vs (⟨#[]⟩),vn .u64 0,vb false,vs (⟨#[]⟩)])] (.tup [(AB.av ((Cq c).1)),vb ((Cq c).2.1),vi ((Cq c).2.2)]) [.cells false 0 ([vi 1,vl (c.L.map AB.f), .p (.v (.pointer none)),vi c.pg,AI,vi c.bad]), .cells false 0 ([vs (⟨#[]⟩),vn .u64 0,vb false,vs (⟨#[]⟩)])]) (.tup [(AB.av ((Cq c).1)),vb ((Cq c).2.1),vi ((Cq c).2.2)]) [.cells false 0 ([vi 1,vl (c.L.map AB.f), .p (.v (.pointer none)),vi c.pg,AI,vi c.bad]), .cells false 0 ([vs (⟨#[]⟩),vn .u64 0,vb false,vs (⟨#[]⟩)])] (.sp 15 ((Cq c).2.1) (
.cut 49 (c.L.map AB.f) (some 1) none AB c.L (.leaf ⟨[0],[(0,0,none)]⟩ [] .ret (some ([(0, .tup [(AB.av ((Cq c).1)),vb true,vi 0])],[.cells false 0 ([vi 1,vl ((cutL (some 1) none c.L).map AB.f), .p (.v (.pointer none)),vi c.pg,AI,vi c.bad])])))) (
.leaf ⟨[0],[(0,0,none)]⟩ [] .ret (some ([(0, .tup [(AB.av ((Cq c).1)),vb false,vi ((Cq c).2.2)])],[.cells false 0 ([vi 1,vl (c.L.map AB.f), .p (.v (.pointer none)),vi c.pg,AI,vi c.bad])]))))

theorem ck (c:Cur):Av DP Γ0 gD Tryd.f13 [.ptr 0 0 0] [.cells false 0 ([vi 1,vl (c.L.map AB.f), .p (.v (.pointer none)),vi c.pg,AI,vi c.bad])] (XQ c)=XQ c:=by kernel_rfl

noncomputable def XR (D:Dsk) (nm:ByteArray) (F:FileR) (c:Cur):Tree:=
.callr (some 13) (gD 17 [.ptr 2 0 0] [.obj [] (AH D), .cells false 0 ([.op 0,vs nm,vl (F.idx.map AK.f),vl (F.bits.map AA.f),vi F.cnt,vs F.low,vs F.high]), .cells false 0 ([vi 2,vl (c.L.map AB.f), .ptr 1 0 0,vi c.pg,AI,vi c.bad]), .cells false 0 ([vs (⟨#[]⟩),vn .u64 0,vb false,vs (⟨#[]⟩)])] (.tup [(AB.av ((BZ (Ah D nm F) c).2.1)),vb ((BZ (Ah D nm F) c).2.2.1),vi ((BZ (Ah D nm F) c).2.2.2)]) [.obj [] (AH D), .cells false 0 ([.op 0,vs nm,vl (F.idx.map AK.f),vl (F.bits.map AA.f),vi F.cnt,vs F.low,vs F.high]), .cells false 0 ([vi 2,vl (((BZ (Ah D nm F) c).1.L).map AB.f), .ptr 1 0 0,vi ((BZ (Ah D nm F) c).1.pg),AI,vi ((BZ (Ah D nm F) c).1.bad)]), .cells false 0 ([vs (⟨#[]⟩),vn .u64 0,vb false,vs (⟨#[]⟩)])]) (.tup [(AB.av ((BZ (Ah D nm F) c).2.1)),vb ((BZ (Ah D nm F) c).2.2.1),vi ((BZ (Ah D nm F) c).2.2.2)]) [.obj [] (AH D), .cells false 0 ([.op 0,vs nm,vl (F.idx.map AK.f),vl (F.bits.map AA.f),vi F.cnt,vs F.low,vs F.high]), .cells false 0 ([vi 2,vl (((BZ (Ah D nm F) c).1.L).map AB.f), .ptr 1 0 0,vi ((BZ (Ah D nm F) c).1.pg),AI,vi ((BZ (Ah D nm F) c).1.bad)]), .cells false 0 ([vs (⟨#[]⟩),vn .u64 0,vb false,vs (⟨#[]⟩)])] (.sp 15 ((BZ (Ah D nm F) c).2.2.1) (
.cut 49 (((BZ (Ah D nm F) c).1.L).map AB.f) (some 1) none AB ((BZ (Ah D nm F) c).1.L) (.leaf ⟨[0],[(0,0,none),(1,0,none),(2,0,none)]⟩ [] .ret (some ([(0, .tup [(AB.av ((BZ (Ah D nm F) c).2.1)),vb true,vi 0])],[.obj [] (AH D), .cells false 0 ([.op 0,vs nm,vl (F.idx.map AK.f),vl (F.bits.map AA.f),vi F.cnt,vs F.low,vs F.high]), .cells false 0 ([vi 2,vl ((cutL (some 1) none ((BZ (Ah D nm F) c).1.L)).map AB.f), .ptr 1 0 0,vi ((BZ (Ah D nm F) c).1.pg),AI,vi ((BZ (Ah D nm F) c).1.bad)])])))) (
.leaf ⟨[0],[(0,0,none),(1,0,none),(2,0,none)]⟩ [] .ret (some ([(0, .tup [(AB.av ((BZ (Ah D nm F) c).2.1)),vb false,vi ((BZ (Ah D nm F) c).2.2.2)])],[.obj [] (AH D), .cells false 0 ([.op 0,vs nm,vl (F.idx.map AK.f),vl (F.bits.map AA.f),vi F.cnt,vs F.low,vs F.high]), .cells false 0 ([vi 2,vl (((BZ (Ah D nm F) c).1.L).map AB.f), .ptr 1 0 0,vi ((BZ (Ah D nm F) c).1.pg),AI,vi ((BZ (Ah D nm F) c).1.bad)])]))))

theorem cl (D:Dsk) (nm:ByteArray) (F:FileR) (c:Cur):Av DP Γ0 gD Tryd.f13 [.ptr 2 0 0] [.obj [] (AH D), .cells false 0 ([.op 0,vs nm,vl (F.idx.map AK.f),vl (F.bits.map AA.f),vi F.cnt,vs F.low,vs F.high]), .cells false 0 ([vi 2,vl (c.L.map AB.f), .ptr 1 0 0,vi c.pg,AI,vi c.bad])] (XR D nm F c)=XR D nm F c:=by kernel_rfl


theorem gE:∀ f,SoundR DP f (gC f):=AY (AU lc) BJ
theorem rz:SoundR DP Eh (fun args B r B'=>∃ c:Cur,args= [.ptr 0 0 0]∧B=Do c∧r= .tup [AB.av (Cq c).1,vb (Cq c).2.1,vi (Cq c).2.2]∧B'=Do c):=Al AZ Γ0_ok gE Rm Rn Ro (by
 rintro args B r B' ⟨c,rfl,rfl,rfl,rfl⟩
 refine ⟨by rw[Rp]; rfl,_,ci c,?_⟩
 unfold XO Cq
 refine AC (fun q=>?_) (fun q=>AM (ry (l:=0) rfl) (AC (fun q2=>by rw[q] at q2; cases q2) (fun _=>Aq ?_)))
 ·have q:c.bad≠0:=by simpa using q
  have h:(Kh c ()).wp (fun _ x=>tk x.1 0= .tup [AB.av Ag,vb false,vi c.bad]∧x.2=Do c):=by
   unfold Kh
   exact wp_leaf rfl ⟨rfl,rfl⟩
  simp only[if_pos q]
  exact Cg (DU (Ab rfl h) (Ab rfl h))
 ·have q:c.bad=0:=by simpa using q
  rw[if_neg (fun h=>h q)]
  obtain ⟨L,pg,bad⟩:=c
  cases L with
  | nil=>exact AC (fun _=>wp_leaf rfl ⟨rfl,rfl⟩) (fun q=>by simp at q)
  | cons x L=>exact AC (fun q=>absurd q (by simp; omega)) (fun _=>Cm x (by decide) rfl (wp_leaf rfl ⟨rfl,rfl⟩)))
theorem r6:SoundR DP Eh (fun args B r B'=>∃ (D:Dsk) (nm:ByteArray) (F:FileR) (c:Cur),RdOk D nm F∧(0≤c.pg∧c.pg≤100000000)∧args= [.ptr 2 0 0]∧B=Es D nm F c∧r= .tup [AB.av (BZ (Ah D nm F) c).2.1,vb (BZ (Ah D nm F) c).2.2.1,vi (BZ (Ah D nm F) c).2.2.2]∧B'=Es D nm F (BZ (Ah D nm F) c).1):=Al AZ Γ0_ok gE Rm Rn Ro (by
 rintro args B r B' ⟨D,nm,F,c,hr,hp,rfl,rfl,rfl,rfl⟩
 refine ⟨by rw[Rp]; rfl,_,cj D nm F c,?_⟩
 unfold XP BZ
 refine AC (fun q=>?_) (fun q=>AM (rx (d:=0) (f:=1) (l:=2) hr hp rfl rfl rfl) (AC (fun q2=>?_) (fun q2=>Aq ?_)))
 ·have q:c.bad≠0:=by simpa using q
  have h:(Ki D nm F c ()).wp (fun _ x=>tk x.1 0= .tup [AB.av Ag,vb false,vi c.bad]∧x.2=Es D nm F c):=by
   unfold Ki
   exact wp_leaf rfl ⟨rfl,rfl⟩
  simp only[if_pos q]
  exact Cg (DU (Ab rfl h) (Ab rfl h))
 ·have q:c.bad=0:=by simpa using q
  have q2:(A5 (Ah D nm F) c).2≠0:=by simpa using q2
  rw[if_neg (fun h=>h q),if_pos q2]
  exact wp_leaf rfl ⟨rfl,rfl⟩
 ·have q:c.bad=0:=by simpa using q
  have q2:(A5 (Ah D nm F) c).2=0:=by simpa using q2
  rw[if_neg (fun h=>h q),if_neg (fun h=>h q2)]
  generalize (A5 (Ah D nm F) c).1=c2
  obtain ⟨L,pg,bad⟩:=c2
  cases L with
  | nil=>exact AC (fun _=>wp_leaf rfl ⟨rfl,rfl⟩) (fun q=>by simp at q)
  | cons x L=>exact AC (fun q=>absurd q (by simp; omega)) (fun _=>Cm x (by decide) rfl (wp_leaf rfl ⟨rfl,rfl⟩)))
theorem cm:SoundR DP Eh JG:=rz.or r6
section
variable {B : List Box} {D : Dsk} {nm : ByteArray} {F : FileR} {c : Cur} {d f l : Nat}
theorem gF (hr:RdOk D nm F) (hp:0≤c.pg∧c.pg≤100000000) (hd:B[d]? = some (BD D)) (hf:B[f]? = some (filC d nm F)) (hl:B[l]? = some (curB 2 (.ptr f 0 0) c)):
  AX JG [.ptr l 0 0] B (.tup [AB.av (BZ (Ah D nm F) c).2.1,vb (BZ (Ah D nm F) c).2.2.1,vi (BZ (Ah D nm F) c).2.2.2]) (B.set l (curB 2 (.ptr f 0 0) (BZ (Ah D nm F) c).1)):=
 Hk (R:=JG) (.inr ⟨D,nm,F,c,hr,hp,rfl,rfl,rfl,rfl⟩) hd hf hl (fun _ _=>rfl) (fun _=>rfl) rfl
theorem gG (hl:B[l]? = some (curB 1 nilQ c)):AX JG [.ptr l 0 0] B (.tup [AB.av (Cq c).1,vb (Cq c).2.1,vi (Cq c).2.2]) (B.set l (curB 1 nilQ c)):=
 Hl (R:=JG) (.inl ⟨c,rfl,rfl,rfl,rfl⟩) hl (fun _ _=>rfl) (fun _=>rfl) rfl
end
theorem gH:∀ f,SoundR DP f (gD f):=AY (AU cm) BJ
theorem XS {L:List Ent} (h:(headE L).2.1=true):1≤L.length:=by
 cases L with
 | nil=>cases h
 | cons x L=>simp
theorem gI {p:Pgs} {c:Cur} (h:(BZ p c).2.2.1=true):1≤(BZ p c).1.L.length:=by
 unfold BZ at h ⊢
 split at h
 ·cases h
 ·split at h
  ·cases h
  ·rename_i h1 h2
   rw[if_neg h1,if_neg h2]
   exact XS h
theorem gJ {c:Cur} (h:(Cq c).2.1=true):1≤c.L.length:=by
 unfold Cq at h
 split at h
 ·cases h
 ·exact XS h
def Kj:Ae:=fun args B r B'=>(∃ c:Cur,args= [.ptr 0 0 0]∧B=Do c∧r= .tup [AB.av (FC c).2.1,vb (FC c).2.2.1,vi (FC c).2.2.2]∧B'=Do (FC c).1) ∨
 ∃ (D:Dsk) (nm:ByteArray) (F:FileR) (c:Cur),RdOk D nm F∧(0≤c.pg∧c.pg≤100000000)∧args= [.ptr 2 0 0]∧B=Es D nm F c∧r= .tup [AB.av (Dh (Ah D nm F) c).2.1,vb (Dh (Ah D nm F) c).2.2.1,vi (Dh (Ah D nm F) c).2.2.2]∧B'=Es D nm F (Dh (Ah D nm F) c).1
theorem gK:SoundR DP GL Kj:=(Al (R:=fun args B r B'=>∃ c:Cur,args= [.ptr 0 0 0]∧B=Do c∧r= .tup [AB.av (FC c).2.1,vb (FC c).2.2.1,vi (FC c).2.2.2]∧B'=Do (FC c).1) AZ Γ0_ok gH PN PO PP (by
 rintro args B r B' ⟨c,rfl,rfl,rfl,rfl⟩
 refine ⟨by rw[Lk]; rfl,_,ck c,?_⟩
 unfold XQ FC
 refine AM (gG (l:=0) rfl) (AC (fun q=>?_) (fun q=>?_))
 ·have:=gJ q
  rw[if_pos q]
  exact DB (show 0≤(1:Int)∧(1:Int)≤c.L.length by omega) (wp_leaf rfl ⟨rfl,rfl⟩)
 ·rw[if_neg (by rw[q]; decide)]
  refine wp_leaf rfl ⟨?_,rfl⟩
  show AV.tup _=AV.tup _
  rw[q])).or (Al AZ Γ0_ok gH PN PO PP (by
 rintro args B r B' ⟨D,nm,F,c,hr,hp,rfl,rfl,rfl,rfl⟩
 refine ⟨by rw[Lk]; rfl,_,cl D nm F c,?_⟩
 unfold XR Dh
 refine AM (gF (d:=0) (f:=1) (l:=2) hr hp rfl rfl rfl) (AC (fun q=>?_) (fun q=>?_))
 ·have:=gI q
  rw[if_pos q]
  exact DB (show 0≤(1:Int)∧(1:Int)≤(BZ (Ah D nm F) c).1.L.length by omega) (wp_leaf rfl ⟨rfl,rfl⟩)
 ·rw[if_neg (by rw[q]; decide)]
  refine wp_leaf rfl ⟨?_,rfl⟩
  show AV.tup _=AV.tup _
  rw[q]))
section
variable {B : List Box} {D : Dsk} {nm : ByteArray} {F : FileR} {c : Cur} {d f l : Nat}
theorem r7 (hr:RdOk D nm F) (hp:0≤c.pg∧c.pg≤100000000) (hd:B[d]? = some (BD D)) (hf:B[f]? = some (filC d nm F)) (hl:B[l]? = some (curB 2 (.ptr f 0 0) c)):
  AX Kj [.ptr l 0 0] B (.tup [AB.av (Dh (Ah D nm F) c).2.1,vb (Dh (Ah D nm F) c).2.2.1,vi (Dh (Ah D nm F) c).2.2.2]) (B.set l (curB 2 (.ptr f 0 0) (Dh (Ah D nm F) c).1)):=
 Hk (R:=Kj) (.inr ⟨D,nm,F,c,hr,hp,rfl,rfl,rfl,rfl⟩) hd hf hl (fun _ _=>rfl) (fun _=>rfl) rfl
theorem gL (hl:B[l]? = some (curB 1 nilQ c)):AX Kj [.ptr l 0 0] B (.tup [AB.av (FC c).2.1,vb (FC c).2.2.1,vi (FC c).2.2.2]) (B.set l (curB 1 nilQ (FC c).1)):=
 Hl (R:=Kj) (.inl ⟨c,rfl,rfl,rfl,rfl⟩) hl (fun _ _=>rfl) (fun _=>rfl) rfl
end

structure LeafD where
 c:Cur
 nm:ByteArray
 F:FileR
abbrev LeafD.put (x:LeafD) (c:Cur):LeafD:=⟨c,x.nm,x.F⟩
def BS:List Bool→Nat
 | []=>0
 | true::ks=>BS ks+1
 | false::ks=>BS ks
def Cc:List Bool→List LeafD→Nat→List Box
 | true::ks,x::xs,f=>curB 2 (.ptr f 0 0) x.c::Cc ks xs (f+1)
 | false::ks,x::xs,f=>curB 1 nilQ x.c::Cc ks xs f
 | _,_,_=> []
def F9:List Bool→List LeafD→Nat→List Box
 | true::ks,x::xs,d=>filC d x.nm x.F::F9 ks xs d
 | false::ks,_::xs,d=>F9 ks xs d
 | _,_,_=> []
def VD (ks:List Bool) (D:Dsk):List Box:=match BS ks with
 | 0=> []
 | _=> [BD D]
abbrev vQ (n:Nat):Box:= .cells false 0 [vi 3,AI,nilQ,vi 0, .rs 1 0 1 0 n,vi 0]
abbrev w6 (n:Nat):Box:= .cells true 0 ((List.range n).map fun j=> .ptr (2+j) 0 0)
def AT (ks:List Bool) (xs:List LeafD) (D:Dsk):List Box:=vQ ks.length::w6 ks.length::(Cc ks xs (2+ks.length)++(F9 ks xs (2+ks.length+BS ks)++VD ks D))
abbrev A4 (e:Ent):Box:= .cells false 0 [vs e.key,vn .u64 e.seq,vb e.del,vs e.val]
def Ik (sl:List Nat) (k:Nat):Wd:=⟨sl,(List.range k).map fun j=>(j,0,none)⟩
abbrev J3 (m n i:Nat) (a:Int):List (Nat×AV):= [(0, .ptr 0 0 0),(3, .ptr m 0 0),(5,vi a),(6, .ptr (m+1) 0 0),(15, .rs 1 0 1 0 n),(16,vi (n:Int)),(17,vi (i:Int))]
noncomputable abbrev r8:Code:=Ph [true,true,true,false,true,false] (Gz HI)
noncomputable abbrev Ru:Code:=Ph [true,true,true,false,true,false,false] (Gz HI)
noncomputable abbrev r9:Code:=Ph [true,true,false,true,false,true,true,true,false,false,true,false] (Gz JF)
noncomputable abbrev P4:Code:=Ph [true,true,false,true,false,true,true,true,false,false,true,false,false] (Gz JF)
noncomputable def ΓC1:BF:=DG [(KQ,FA)]
noncomputable def Kk:CB:=CZ [(Eh,AX JG)]
noncomputable def Z4 (B B':List Box) (m n i:Nat) (a:Int) (best x:Ent) (o:Bool):Tree:=
.callr (some 24) (Kk Eh [.ptr (2+i) 0 0] (B++ [A4 Ag,A4 best]) (.tup [AB.av x,vb o,vi 0]) (B'++ [A4 Ag,A4 best])) (.tup [AB.av x,vb o,vi 0]) (B'++ [A4 Ag,A4 best]) (.sp 26 o (
.sp 37 (decide (a<(0:Int))) (
.leaf (Ik [0,3,5,6,15,16,17] (m+2)) [] .normal (some (J3 m n (i+1) i,B'++ [A4 Ag,A4 x]))) (
.call 41 (FA [AB.av x,AB.av best]=some (vi (BK x best))) (vi (BK x best)) (.sp 42 (decide (BK x best<(0:Int))) (
.leaf (Ik [0,3,5,6,15,16,17] (m+2)) [] .normal (some (J3 m n (i+1) i,B'++ [A4 Ag,A4 x]))) (
.leaf (Ik [0,3,5,6,15,16,17] (m+2)) [] .normal (some (J3 m n (i+1) a,B'++ [A4 Ag,A4 best])))))) (
.leaf (Ik [0,3,5,6,15,16,17] (m+2)) [] .normal (some (J3 m n (i+1) a,B'++ [A4 Ag,A4 best]))))
noncomputable def gM (B:List Box) (m:Nat) (a:Int) (best:Ent):Tree:=
.leaf (Ik [0,3,5,6] (m+2)) [] (.exit 0) (some ([(0, .ptr 0 0 0),(3, .ptr m 0 0),(5,vi a),(6, .ptr (m+1) 0 0)],B++ [A4 Ag,A4 best]))
noncomputable def Ln (B B':List Box) (m n:Nat) (a:Int) (best:Ent):Tree:=
.frag none (Ik [0,3,5,6,15,16,17] (m+2)) [] (some (J3 m n 0 (-1),B++ [A4 Ag,A4 Ag])) (J3 m n 0 (-1),B++ [A4 Ag,A4 Ag])
 (Tri DP 50 m false r8 (St.as (J3 m n 0 (-1),B++ [A4 Ag,A4 Ag])) fun e' s'=>e'=(.exit 0)∧s'=St.as ([(0, .ptr 0 0 0),(3, .ptr m 0 0),(5,vi a),(6, .ptr (m+1) 0 0)],B'++ [A4 Ag,A4 best]))
 (.exit 0) ([(0, .ptr 0 0 0),(3, .ptr m 0 0),(5,vi a),(6, .ptr (m+1) 0 0)],B'++ [A4 Ag,A4 best]) (.leaf (Ik [0] m) [] .ret (some ([(0, .tup [vi a,AB.av best,vi 0])],B')))
def l5 (n:Nat) (x0 x1 x2 x3 x4:LeafD):List LeafD:= [x0,x1,x2,x3,x4].take n
abbrev Ap (ks:List Bool):Nat:=2+ks.length+BS ks+(if BS ks=0 then 0 else 1)
def HJ (B:List Box) (i:Nat) (c:Cur):List Box:=match B[2+i]? with
 | some (.cells r v [k,_,fp,_,n,_])=>B.set (2+i) (.cells r v [k,vl (c.L.map AB.f),fp,vi c.pg,n,vi c.bad])
 | _=>B
def xG (p:List Bool×Nat):Prop:=∀ (D:Dsk) (x0 x1 x2 x3 x4:LeafD) (c:Cur) (a:Int) (best x:Ent) (o:Bool),
 Bg DP ΓC1 Kk 50 (Ap p.1) Ru (St.as (J3 (Ap p.1) p.1.length p.2 a,AT p.1 (l5 p.1.length x0 x1 x2 x3 x4) D++ [A4 Ag,A4 best]))
  (Z4 (AT p.1 (l5 p.1.length x0 x1 x2 x3 x4) D) (HJ (AT p.1 (l5 p.1.length x0 x1 x2 x3 x4) D) p.2 c) (Ap p.1) p.1.length p.2 a best x o) (CP (Ap p.1)) =
  Z4 (AT p.1 (l5 p.1.length x0 x1 x2 x3 x4) D) (HJ (AT p.1 (l5 p.1.length x0 x1 x2 x3 x4) D) p.2 c) (Ap p.1) p.1.length p.2 a best x o
def xH (ks:List Bool):Prop:=∀ (D:Dsk) (x0 x1 x2 x3 x4:LeafD) (a:Int) (best:Ent),
 Bg DP ΓC1 Kk 50 (Ap ks) Ru (St.as (J3 (Ap ks) ks.length ks.length a,AT ks (l5 ks.length x0 x1 x2 x3 x4) D++ [A4 Ag,A4 best]))
  (gM (AT ks (l5 ks.length x0 x1 x2 x3 x4) D) (Ap ks) a best) (CP (Ap ks))=gM (AT ks (l5 ks.length x0 x1 x2 x3 x4) D) (Ap ks) a best
def xI (ks:List Bool):Prop:=∀ (D:Dsk) (x0 x1 x2 x3 x4 y0 y1 y2 y3 y4:LeafD) (a:Int) (best:Ent),
 Av DP ΓC1 Kk HI [.ptr 0 0 0] (AT ks (l5 ks.length x0 x1 x2 x3 x4) D) (Ln (AT ks (l5 ks.length x0 x1 x2 x3 x4) D) (AT ks (l5 ks.length y0 y1 y2 y3 y4) D) (Ap ks) ks.length a best) =
  Ln (AT ks (l5 ks.length x0 x1 x2 x3 x4) D) (AT ks (l5 ks.length y0 y1 y2 y3 y4) D) (Ap ks) ks.length a best

def Fa {α:Type} (P:α→Prop):List α→Prop
 | []=>True
 | a::r=>P a∧Fa P r
theorem Cj {α:Type} {P:α→Prop}:∀ {l:List α},Fa P l→∀ a∈l,P a
 | [],_,a,h=>by cases h
 | b::r,h,a,ha=>by
  rcases List.mem_cons.1 ha with rfl | ha
  ·exact h.1
  ·exact Cj h.2 a ha
def BP:List (List Bool):= [[false],[false,false],[false,true],[false,false,false],[false,true,false],[false,false,false,false],[false,true,false,false],[false,false,false,true],[false,true,false,true],[false,false,false,false,false],[false,true,false,false,false],[false,false,false,true,false],[false,true,false,true,false]]
def Rv:List (List Bool×Nat):= [([false],0),([false,false],0),([false,false],1),([false,true],0),([false,true],1),([false,false,false],0),([false,false,false],1),([false,false,false],2),([false,true,false],0),([false,true,false],1),([false,true,false],2),([false,false,false,false],0),([false,false,false,false],1),([false,false,false,false],2),([false,false,false,false],3),([false,true,false,false],0),([false,true,false,false],1),([false,true,false,false],2),([false,true,false,false],3),([false,false,false,true],0),([false,false,false,true],1),([false,false,false,true],2),([false,false,false,true],3),([false,true,false,true],0),([false,true,false,true],1),([false,true,false,true],2),([false,true,false,true],3),([false,false,false,false,false],0),([false,false,false,false,false],1),([false,false,false,false,false],2),([false,false,false,false,false],3),([false,false,false,false,false],4),([false,true,false,false,false],0),([false,true,false,false,false],1),([false,true,false,false,false],2),([false,true,false,false,false],3),([false,true,false,false,false],4),([false,false,false,true,false],0),([false,false,false,true,false],1),([false,false,false,true,false],2),([false,false,false,true,false],3),([false,false,false,true,false],4),([false,true,false,true,false],0),([false,true,false,true,false],1),([false,true,false,true,false],2),([false,true,false,true,false],3),([false,true,false,true,false],4)]
theorem N8:∀ ks∈BP,∀ i<ks.length,(ks,i)∈Rv:=by decide
theorem Bp:∀ ks∈BP,ks.length≤5:=by decide
theorem vR:Fa xG Rv:=⟨by intro _;intros;kernel_rfl,by intro _;intros;kernel_rfl,by intro _;intros;kernel_rfl,by intro _;intros;kernel_rfl,by intro _;intros;kernel_rfl,by intro _;intros;kernel_rfl,by intro _;intros;kernel_rfl,by intro _;intros;kernel_rfl,by intro _;intros;kernel_rfl,by intro _;intros;kernel_rfl,by intro _;intros;kernel_rfl,by intro _;intros;kernel_rfl,by intro _;intros;kernel_rfl,by intro _;intros;kernel_rfl,by intro _;intros;kernel_rfl,by intro _;intros;kernel_rfl,by intro _;intros;kernel_rfl,by intro _;intros;kernel_rfl,by intro _;intros;kernel_rfl,by intro _;intros;kernel_rfl,by intro _;intros;kernel_rfl,by intro _;intros;kernel_rfl,by intro _;intros;kernel_rfl,by intro _;intros;kernel_rfl,by intro _;intros;kernel_rfl,by intro _;intros;kernel_rfl,by intro _;intros;kernel_rfl,by intro _;intros;kernel_rfl,by intro _;intros;kernel_rfl,by intro _;intros;kernel_rfl,by intro _;intros;kernel_rfl,by intro _;intros;kernel_rfl,by intro _;intros;kernel_rfl,by intro _;intros;kernel_rfl,by intro _;intros;kernel_rfl,by intro _;intros;kernel_rfl,by intro _;intros;kernel_rfl,by intro _;intros;kernel_rfl,by intro _;intros;kernel_rfl,by intro _;intros;kernel_rfl,by intro _;intros;kernel_rfl,by intro _;intros;kernel_rfl,by intro _;intros;kernel_rfl,by intro _;intros;kernel_rfl,by intro _;intros;kernel_rfl,by intro _;intros;kernel_rfl,by intro _;intros;kernel_rfl,trivial⟩
theorem vS:Fa xH BP:=⟨by intro _;intros;kernel_rfl,by intro _;intros;kernel_rfl,by intro _;intros;kernel_rfl,by intro _;intros;kernel_rfl,by intro _;intros;kernel_rfl,by intro _;intros;kernel_rfl,by intro _;intros;kernel_rfl,by intro _;intros;kernel_rfl,by intro _;intros;kernel_rfl,by intro _;intros;kernel_rfl,by intro _;intros;kernel_rfl,by intro _;intros;kernel_rfl,by intro _;intros;kernel_rfl,trivial⟩
theorem vT:Fa xI BP:=⟨by intro _;intros;kernel_rfl,by intro _;intros;kernel_rfl,by intro _;intros;kernel_rfl,by intro _;intros;kernel_rfl,by intro _;intros;kernel_rfl,by intro _;intros;kernel_rfl,by intro _;intros;kernel_rfl,by intro _;intros;kernel_rfl,by intro _;intros;kernel_rfl,by intro _;intros;kernel_rfl,by intro _;intros;kernel_rfl,by intro _;intros;kernel_rfl,by intro _;intros;kernel_rfl,trivial⟩

theorem DR (z:LeafD):∀ {xs:List LeafD} {n:Nat},xs.length=n→n≤5→xs=l5 n (xs.getD 0 z) (xs.getD 1 z) (xs.getD 2 z) (xs.getD 3 z) (xs.getD 4 z)
 | [],_,rfl,_=>rfl
 | [_],_,rfl,_=>rfl
 | [_,_],_,rfl,_=>rfl
 | [_,_,_],_,rfl,_=>rfl
 | [_,_,_,_],_,rfl,_=>rfl
 | [_,_,_,_,_],_,rfl,_=>rfl
 | _::_::_::_::_::_::_,_,rfl,h=>by simp at h
def F4 (k:Bool) (f:Nat) (c:Cur):Box:=if k then curB 2 (.ptr f 0 0) c else curB 1 nilQ c
theorem T4:∀ (ks:List Bool) (xs:List LeafD) (f i:Nat) (k:Bool) (x:LeafD),ks[i]? = some k→xs[i]? = some x→(Cc ks xs f)[i]? = some (F4 k (f+BS (ks.take i)) x.c)
 | [],_,_,i,_,_,h,_=>by simp at h
 | _::_,[],_,i,_,_,_,h=>by simp at h
 | b::ks,y::xs,f,0,k,x,h1,h2=>by
  cases h1; cases h2
  cases b <;> rfl
 | b::ks,y::xs,f,i+1,k,x,h1,h2=>by
  have ih:=fun f=>T4 ks xs f i k x (by simpa using h1) (by simpa using h2)
  cases b with
  | true=>
   show (curB 2 (.ptr f 0 0) y.c::Cc ks xs (f+1))[i+1]? = _
   rw[List.getElem?_cons_succ,ih (f+1)]
   show some (F4 k (f+1+BS (ks.take i)) x.c)=some (F4 k (f+(BS (ks.take i)+1)) x.c)
   rw[Nat.add_assoc,Nat.add_comm 1]
  | false=>
   show (curB 1 nilQ y.c::Cc ks xs f)[i+1]? = _
   rw[List.getElem?_cons_succ,ih f]
   rfl
theorem D3:∀ (ks:List Bool) (xs:List LeafD) (f:Nat),xs.length=ks.length→(Cc ks xs f).length=ks.length
 | [],[],_,_=>rfl
 | true::ks,_::xs,f,h=>by
  show (_::Cc ks xs (f+1)).length=_
  rw[List.length_cons,D3 ks xs (f+1) (by simpa using h)]; rfl
 | false::ks,_::xs,f,h=>by
  show (_::Cc ks xs f).length=_
  rw[List.length_cons,D3 ks xs f (by simpa using h)]; rfl
theorem T5:∀ (ks:List Bool) (xs:List LeafD) (f i:Nat) (k:Bool) (x y:LeafD),ks[i]? = some k→xs[i]? = some x→(Cc ks xs f).set i (F4 k (f+BS (ks.take i)) y.c)=Cc ks (xs.set i y) f
 | [],_,_,i,_,_,_,h,_=>by simp at h
 | _::_,[],_,i,_,_,_,_,h=>by simp at h
 | b::ks,z::xs,f,0,k,x,y,h1,h2=>by
  cases h1; cases h2
  cases b <;> rfl
 | b::ks,z::xs,f,i+1,k,x,y,h1,h2=>by
  have ih:=fun f=>T5 ks xs f i k x y (by simpa using h1) (by simpa using h2)
  cases b with
  | true=>
   show _::((Cc ks xs (f+1)).set i (F4 k (f+(BS (ks.take i)+1)) y.c))=_::Cc ks (xs.set i y) (f+1)
   rw[←ih (f+1),Nat.add_assoc,Nat.add_comm 1]
  | false=>
   show _::((Cc ks xs f).set i (F4 k (f+BS (ks.take i)) y.c))=_::Cc ks (xs.set i y) f
   rw[←ih f]
theorem Z5:∀ (ks:List Bool) (xs:List LeafD) (d i:Nat) (x:LeafD),ks[i]? = some true→xs[i]? = some x→(F9 ks xs d)[BS (ks.take i)]? = some (filC d x.nm x.F)
 | [],_,_,i,_,h,_=>by simp at h
 | _::_,[],_,i,_,_,h=>by simp at h
 | b::ks,y::xs,d,0,x,h1,h2=>by
  cases h1; cases h2
  rfl
 | b::ks,y::xs,d,i+1,x,h1,h2=>by
  have ih:=Z5 ks xs d i x (by simpa using h1) (by simpa using h2)
  cases b with
  | true=>exact ih
  | false=>exact ih
theorem Z6:∀ (ks:List Bool) (xs:List LeafD) (d i:Nat) (x:LeafD) (c:Cur),xs[i]? = some x→F9 ks (xs.set i (x.put c)) d=F9 ks xs d
 | [],xs,_,i,_,_,h=>by cases xs <;> cases i <;> rfl
 | _::_,[],_,i,_,_,h=>by simp at h
 | b::ks,y::xs,d,0,x,c,h=>by cases h; cases b <;> rfl
 | b::ks,y::xs,d,i+1,x,c,h=>by
  have ih:=Z6 ks xs d i x c (by simpa using h)
  cases b with
  | true=>show _::F9 ks (xs.set i (x.put c)) d=_::F9 ks xs d; rw[ih]
  | false=>exact ih
theorem Hm:∀ (ks:List Bool) (xs:List LeafD) (d:Nat),xs.length=ks.length→(F9 ks xs d).length=BS ks
 | [],[],_,_=>rfl
 | true::ks,_::xs,d,h=>by
  show (_::F9 ks xs d).length=BS ks+1
  rw[List.length_cons,Hm ks xs d (by simpa using h)]
 | false::ks,_::xs,d,h=>Hm ks xs d (by simpa using h)
theorem QZ:∀ {ks:List Bool} {i:Nat},ks[i]? = some true→BS (ks.take i)<BS ks
 | [],i,h=>by simp at h
 | b::ks,0,h=>by cases h; show 0<BS ks+1; omega
 | b::ks,i+1,h=>by
  have ih:=QZ (ks:=ks) (i:=i) (by simpa using h)
  cases b with
  | true=>show BS (ks.take i)+1<BS ks+1; omega
  | false=>exact ih
section
variable {ks : List Bool} {xs : List LeafD} {D : Dsk} {i : Nat} {k : Bool} {x : LeafD}
theorem Lo (h:xs.length=ks.length):(AT ks xs D).length=Ap ks:=by
 unfold AT Ap
 rw[List.length_cons,List.length_cons,List.length_append,List.length_append,D3 _ _ _ h,Hm _ _ _ h]
 unfold VD
 split
 ·rename_i e; rw[e]; simp; omega
 ·rename_i e
  rw[if_neg (by omega)]; simp; omega
theorem Mk (h:xs.length=ks.length) (hk:ks[i]? = some k) (hx:xs[i]? = some x):(AT ks xs D)[2+i]? = some (F4 k (2+ks.length+BS (ks.take i)) x.c):=by
 have hi:i<(Cc ks xs (2+ks.length)).length:=by rw[D3 _ _ _ h]; exact (List.getElem?_eq_some_iff.1 hk).1
 unfold AT
 rw[Nat.add_comm 2 i,List.getElem?_cons_succ,List.getElem?_cons_succ,List.getElem?_append_left hi,T4 _ _ _ _ _ _ hk hx]
theorem Qa (h:xs.length=ks.length) (hk:ks[i]? = some true) (hx:xs[i]? = some x):(AT ks xs D)[2+ks.length+BS (ks.take i)]? = some (filC (2+ks.length+BS ks) x.nm x.F):=by
 have hp:=QZ hk
 unfold AT
 rw[show 2+ks.length+BS (ks.take i)=(ks.length+BS (ks.take i))+1+1 by omega,List.getElem?_cons_succ,List.getElem?_cons_succ,List.getElem?_append_right (by rw[D3 _ _ _ h]; omega),D3 _ _ _ h,Nat.add_sub_cancel_left,
  List.getElem?_append_left (by rw[Hm _ _ _ h]; exact hp),Z5 _ _ _ _ _ hk hx]
theorem Qb (h:xs.length=ks.length) (hk:ks[i]? = some true):(AT ks xs D)[2+ks.length+BS ks]? = some (BD D):=by
 have hp:=QZ hk
 unfold AT
 rw[show 2+ks.length+BS ks=(ks.length+BS ks)+1+1 by omega,List.getElem?_cons_succ,List.getElem?_cons_succ,List.getElem?_append_right (by rw[D3 _ _ _ h]; omega),D3 _ _ _ h,Nat.add_sub_cancel_left,
  List.getElem?_append_right (by rw[Hm _ _ _ h]; omega),Hm _ _ _ h,Nat.sub_self]
 unfold VD
 split
 ·omega
 ·rfl
theorem PQ (h:xs.length=ks.length) (hk:ks[i]? = some k) (hx:xs[i]? = some x) (c:Cur):(AT ks xs D).set (2+i) (F4 k (2+ks.length+BS (ks.take i)) c)=AT ks (xs.set i (x.put c)) D:=by
 have hi:i<(Cc ks xs (2+ks.length)).length:=by rw[D3 _ _ _ h]; exact (List.getElem?_eq_some_iff.1 hk).1
 unfold AT
 rw[Nat.add_comm 2 i,List.set_cons_succ,List.set_cons_succ,List.set_append_left _ _ hi,Z6 _ _ _ _ _ _ hx]
 have:=T5 ks xs (2+ks.length) i k x (x.put c) hk hx
 rw[this]
theorem PR (h:xs.length=ks.length) (hk:ks[i]? = some k) (hx:xs[i]? = some x) (c:Cur):HJ (AT ks xs D) i c=AT ks (xs.set i (x.put c)) D:=by
 rw[←PQ h hk hx c]
 unfold HJ
 rw[Mk h hk hx]
 cases k <;> rfl
end
def A7 (D:Dsk) (k:Bool) (x:LeafD):Pgs:=if k then Ah D x.nm x.F else ⟨fun _=>([],0),0⟩
structure GoodL (D:Dsk) (k:Bool) (x:LeafD):Prop where
 bad:x.c.bad=0
 pg:0≤x.c.pg∧x.c.pg≤100000000
 np:(A7 D k x).np≤100000000
 rd:k=true→RdOk D x.nm x.F
 ok:∀ i,0≤i→i<(A7 D k x).np→((A7 D k x).pf i).2=0∧((A7 D k x).pf i).1≠ []
section
variable {ks : List Bool} {xs : List LeafD} {D : Dsk} {i : Nat} {k : Bool} {x : LeafD}
theorem T6 (p:Pgs) (hp:p.np=0) {c:Cur} (h:0≤c.pg):BZ p c=(c,Cq c):=by
 have e:A5 p c=(c,c.bad):=by
  unfold A5
  rw[if_pos (.inr (.inr (by rw[hp]; exact h)))]
 unfold BZ Cq
 rw[e]
 by_cases hb:c.bad≠0
 ·rw[if_pos hb,if_pos hb]
 ·rw[if_neg hb,if_neg hb,if_neg hb]
theorem N9 (g:GoodL D k x):(A5 (A7 D k x) x.c).2=0∧(A5 (A7 D k x) x.c).1.bad=0∧(0≤(A5 (A7 D k x) x.c).1.pg∧(A5 (A7 D k x) x.c).1.pg≤100000000):=by
 have h1:=g.pg
 have h2:=g.np
 unfold A5
 split
 ·exact ⟨g.bad,g.bad,g.pg⟩
 ·rename_i h
  have h:¬(A7 D k x).np≤x.c.pg:=fun e=>h (.inr (.inr e))
  rw[if_neg (fun e=>e (g.ok _ g.pg.1 (by omega)).1)]
  exact ⟨rfl,g.bad,by simp only; omega,by simp only; omega⟩
theorem OA (g:GoodL D k x):BZ (A7 D k x) x.c=((A5 (A7 D k x) x.c).1,headE (A5 (A7 D k x) x.c).1.L):=by
 unfold BZ
 rw[if_neg (fun h=>h g.bad),if_neg (fun h=>h (N9 g).1)]
theorem OB (L:List Ent):(headE L).2.2=0:=by cases L <;> rfl
theorem GoodL.fill (g:GoodL D k x):GoodL D k (x.put (A5 (A7 D k x) x.c).1):=⟨(N9 g).2.1,(N9 g).2.2,g.np,g.rd,g.ok⟩
theorem kQ (h:xs.length=ks.length) (hk:ks[i]? = some k) (hx:xs[i]? = some x) (g:GoodL D k x) (T:List Box):
  AX JG [.ptr (2+i) 0 0] (AT ks xs D++T) (.tup [AB.av (headE (A5 (A7 D k x) x.c).1.L).1,vb (headE (A5 (A7 D k x) x.c).1.L).2.1,vi 0]) (HJ (AT ks xs D) i (A5 (A7 D k x) x.c).1++T):=by
 have hi:i<ks.length:=(List.getElem?_eq_some_iff.1 hk).1
 have hl:2+i<(AT ks xs D).length:=by rw[Lo h]; unfold Ap; omega
 have e1:=Mk (D:=D) h hk hx
 have hB:(AT ks xs D++T)[2+i]? = some (F4 k (2+ks.length+BS (ks.take i)) x.c):=by rw[List.getElem?_append_left hl,e1]
 rw[PR h hk hx,←PQ h hk hx,←List.set_append_left _ _ hl]
 cases k with
 | false=>
  have e:=T6 (A7 D false x) rfl g.pg.1
  rw[OA g] at e
  have e1:=congrArg Prod.fst e
  have e2:=congrArg Prod.snd e
  simp only at e1 e2
  have:=gG (B:=AT ks xs D++T) (l:=2+i) (c:=x.c) hB
  rw[←e2,OB] at this
  rw[e1] at this ⊢
  exact this
 | true=>
  have hd:(AT ks xs D++T)[2+ks.length+BS ks]? = some (BD D):=by
   have:=Qb (D:=D) h hk
   rw[List.getElem?_append_left (List.getElem?_eq_some_iff.1 this).1,this]
  have hf:(AT ks xs D++T)[2+ks.length+BS (ks.take i)]? = some (filC (2+ks.length+BS ks) x.nm x.F):=by
   have:=Qa (D:=D) h hk hx
   rw[List.getElem?_append_left (List.getElem?_eq_some_iff.1 this).1,this]
  have:=gF (l:=2+i) (c:=x.c) (g.rd rfl) g.pg hd hf hB
  rw[show Ah D x.nm x.F=A7 D true x from rfl,OA g] at this
  simp only[OB] at this
  exact this
end
end Go.Ax
