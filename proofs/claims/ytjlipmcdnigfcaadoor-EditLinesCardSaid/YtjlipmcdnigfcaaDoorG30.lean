/- The symmetric merge, the stable sort: what they come to. -/
import Derived.Test.YtjlipmcdnigfcaaDoorG29
set_option linter.unusedVariables false
set_option linter.unusedSimpArgs false
set_option linter.unusedSectionVars false
namespace Go.Ax
open Go.Proofs Go.RowKit
set_option maxRecDepth 100000

theorem fd (i j:Nat):Int.fdiv ((i:Int)+(j:Int)) (2 ^ 1)=(((i+j) / 2:Nat):Int):=by
 rw[show (2:Int) ^ 1=2 from by decide,Int.fdiv_eq_ediv_of_nonneg _ (by omega)]
 omega

def upF (L:List Meta) (k:Nat):Nat→List Meta
 | 0=>L
 | m+1=>upF (swapA L k (k+1)) (k+1) m
def dnF (L:List Meta) (k:Nat):Nat→List Meta
 | 0=>L
 | m+1=>dnF (swapA L k (k - 1)) (k - 1) m

theorem up_spec:∀ (m k:Nat) (L:List Meta),k+m<L.length→(upF L k m).Perm L∧∀ x,at' (upF L k m) x=rotT L k (k+1) (k+m+1) x
 | 0,k,L,h=>⟨.refl _,fun x=>by
  unfold rotT upF
  rw[if_neg (by omega)]
  by_cases e:x=k
  ·subst e; rw[if_pos (by omega)]; congr 1; omega
  ·rw[if_neg (by omega)]⟩
 | m+1,k,L,h=>by
  obtain ⟨g1,g2⟩:=up_spec m (k+1) (swapA L k (k+1)) (by rw[swap_len]; omega)
  have hs:∀ y,at' (swapA L k (k+1)) y=if y=k+1 then at' L k else if y=k then at' L (k+1) else at' L y:=fun y=>@swap_at L k (k+1) y (by omega) (by omega)
  refine ⟨g1.trans (@swap_perm L k (k+1) (by omega) (by omega)),fun x=>?_⟩
  rw[upF,g2]
  unfold rotT
  rw[hs,hs,hs]
  by_cases c1:x=k
  ·subst c1
   rw[if_neg (by omega),if_neg (by omega),if_neg (by omega),if_pos rfl,if_pos (by omega)]
   congr 1; omega
  ·by_cases c2:k+1≤x∧x<k+1+(k+1+m+1 - (k+1+1))
   ·rw[if_pos c2,if_neg (by omega),if_neg (by omega),if_pos (by omega)]
    congr 1; omega
   ·rw[if_neg c2]
    by_cases c3:k+1+(k+1+m+1 - (k+1+1))≤x∧x<k+1+m+1
    ·rw[if_pos c3,if_pos (by omega),if_neg (by omega),if_pos (by omega)]
     congr 1; omega
    ·rw[if_neg c3,if_neg (by omega),if_neg (by omega),if_neg (by omega),if_neg (by omega)]

theorem dn_spec:∀ (m k:Nat) (L:List Meta),m≤k→k<L.length→(dnF L k m).Perm L∧∀ x,at' (dnF L k m) x=rotT L (k - m) k (k+1) x
 | 0,k,L,h,hk=>⟨.refl _,fun x=>by
  unfold rotT dnF
  by_cases e:x=k
  ·subst e; rw[if_pos (by omega)]; congr 1; omega
  ·rw[if_neg (by omega),if_neg (by omega)]⟩
 | m+1,k,L,h,hk=>by
  obtain ⟨g1,g2⟩:=dn_spec m (k - 1) (swapA L k (k - 1)) (by omega) (by rw[swap_len]; omega)
  have hs:∀ y,at' (swapA L k (k - 1)) y=if y=k - 1 then at' L k else if y=k then at' L (k - 1) else at' L y:=fun y=>@swap_at L k (k - 1) y (by omega) (by omega)
  refine ⟨g1.trans (@swap_perm L k (k - 1) (by omega) (by omega)),fun x=>?_⟩
  rw[dnF,g2]
  unfold rotT
  rw[hs,hs,hs]
  by_cases c1:x=k
  ·subst c1
   rw[if_neg (by omega),if_neg (by omega),if_neg (by omega),if_pos rfl,if_neg (by omega),if_pos (by omega)]
   congr 1; omega
  ·by_cases c2:k - 1 - m≤x∧x<k - 1 - m+(k - 1+1 - (k - 1))
   ·rw[if_pos c2,if_pos (by omega),if_pos (by omega)]
    congr 1; omega
   ·rw[if_neg c2]
    by_cases c3:k - 1 - m+(k - 1+1 - (k - 1))≤x∧x<k - 1+1
    ·rw[if_pos c3,if_neg (by omega),if_neg (by omega),if_neg (by omega),if_pos (by omega)]
     congr 1; omega
    ·rw[if_neg c3,if_neg (by omega),if_neg (by omega),if_neg (by omega),if_neg (by omega)]
def ΔBp (R:RSpec):REnv:=fun f=>bif Nat.beq f 134 then R47p else bif Nat.beq f 114 then R else fun _ _ _ _=>False
theorem ΔBp_ok {R:RSpec} (hR:SoundR DP 114 R):∀ f,SoundR DP f (ΔBp R f):=fun f=>by
 unfold ΔBp
 cases h:Nat.beq f 134 with
 | true=>have:=Nat.eq_of_beq_eq_true h; subst this; exact R47p_ok
 | false=>
  cases h:Nat.beq f 114 with
  | true=>have:=Nat.eq_of_beq_eq_true h; subst this; exact hR
  | false=>exact .none f

def R45p (Γ:Env) (c:Meta→Meta→Int) (g:Nat):Nat→RSpec
 | 0=>fun _ _ _ _=>False
 | k+1=>fun args B r B'=>∃  (n:Nat) (L:List Meta) (a m b:Int),args= [.rs 0 0 5 0 n,vi a,vi m,vi b, .fn g []]∧B= [metaE.bx 0 L]∧(T45p Γ (ΔBp (R45p Γ c g k)) c g n L a m b).wp fun _ st=>tk st.1 0=r∧st.2=B'
theorem R45p_ok {Γ:Env} (hΓ:∀ f,SoundF DP f (Γ f)) (c:Meta→Meta→Int) (g:Nat):∀ k,SoundR DP 114 (R45p Γ c g k)
 | 0=> .none 114
 | k+1=>sound_genT (Γ:=Γ) (Δ:=ΔBp (R45p Γ c g k)) (fn:=Tryd.f114) mixedD hΓ (ΔBp_ok (R45p_ok hΓ c g k)) (by kernel_rfl) (by kernel_rfl) (by kernel_rfl) (by
  rintro args B r B' ⟨n,L,a,m,b,rfl,rfl,h⟩
  exact ⟨rfl,_,T45p_chk Γ _ c g n L a m b,h⟩)

theorem S45pl1 {Γ:Env} {c:Meta→Meta→Int} {g:Nat} (hc:Cmpp Γ c g) {n a:Nat} {L:List Meta} (hN:n≤1000000) (hL:L.length=n) (ha:a<n):∀ (f i j:Nat),i≤j→j - i≤f→j≤n →
  Rounds (T45p_l1_e g n L a) (T45p_l1_x n L a) noX (fun s=>(T45p_l1_b Γ c g n L a s).wp) ((i:Int),(j:Int)) (.inl ((bsF (fun h=>decide (c (at' L h) (at' L a)<0)) f i j:Nat):Int))
 | 0,i,j,h1,h2,hj=>by
  refine .done (by simp[T45p_l1_x]) ?_
  unfold T45p_l1_b
  exact wp_sp (fun h=>by have:=of_decide_eq_true h; simp at this; omega) (fun _=>wp_leaf rfl ⟨rfl,rfl⟩)
 | f+1,i,j,h1,h2,hj=>by
  unfold bsF
  by_cases hij:i<j
  ·rw[if_pos hij]
   have hh:(i+j) / 2<j∧i≤(i+j) / 2:=by omega
   cases hP:decide (c (at' L ((i+j) / 2)) (at' L a)<0) with
   | true=>
    rw[if_pos rfl]
    refine .next ?_ (S45pl1 hc hN hL ha f ((i+j) / 2+1) j (by omega) (by omega) hj)
    unfold T45p_l1_b
    dsimp only
    rw[fd]
    refine wp_sp (fun _=>?_) (fun h=>by have:=of_decide_eq_false h; simp at this; omega)
    exact wp_i64 (by omega) (wp_u64 (by omega) (wp_i64 (by omega) (wp_ridx (by omega) (by omega) (wp_rload (at' L ((i+j) / 2)) (by omega) rfl (at_get (by omega)) (wp_ridx (by omega) (by omega) (wp_rload (at' L a) (by omega) rfl (at_get (by omega))
     (wp_val (hc _ _ _) (wp_sp (fun _=>wp_i64 (by omega) (wp_leaf rfl ⟨rfl,rfl⟩)) (fun h=>by rw[hP] at h; cases h)))))))))
   | false=>
    rw[if_neg (by simp)]
    refine .next ?_ (S45pl1 hc hN hL ha f i ((i+j) / 2) (by omega) (by omega) (by omega))
    unfold T45p_l1_b
    dsimp only
    rw[fd]
    refine wp_sp (fun _=>?_) (fun h=>by have:=of_decide_eq_false h; simp at this; omega)
    exact wp_i64 (by omega) (wp_u64 (by omega) (wp_i64 (by omega) (wp_ridx (by omega) (by omega) (wp_rload (at' L ((i+j) / 2)) (by omega) rfl (at_get (by omega)) (wp_ridx (by omega) (by omega) (wp_rload (at' L a) (by omega) rfl (at_get (by omega))
     (wp_val (hc _ _ _) (wp_sp (fun h=>by rw[hP] at h; cases h) (fun _=>wp_leaf rfl ⟨rfl,rfl⟩)))))))))
  ·rw[if_neg hij]
   refine .done (by simp[T45p_l1_x]) ?_
   unfold T45p_l1_b
   exact wp_sp (fun h=>by have:=of_decide_eq_true h; simp at this; omega) (fun _=>wp_leaf rfl ⟨rfl,rfl⟩)

theorem S45pl3 {Γ:Env} {c:Meta→Meta→Int} {g:Nat} (hc:Cmpp Γ c g) {n m:Nat} {L:List Meta} (hN:n≤1000000) (hL:L.length=n) (ha:m<n):∀ (f i j:Nat),i≤j→j - i≤f→j≤n →
  Rounds (T45p_l3_e g n L m) (T45p_l3_x n L m) noX (fun s=>(T45p_l3_b Γ c g n L m s).wp) ((i:Int),(j:Int)) (.inl ((bsF (fun h=> !decide (c (at' L m) (at' L h)<0)) f i j:Nat):Int))
 | 0,i,j,h1,h2,hj=>by
  refine .done (by simp[T45p_l3_x]) ?_
  unfold T45p_l3_b
  exact wp_sp (fun h=>by have:=of_decide_eq_true h; simp at this; omega) (fun _=>wp_leaf rfl ⟨rfl,rfl⟩)
 | f+1,i,j,h1,h2,hj=>by
  unfold bsF
  by_cases hij:i<j
  ·rw[if_pos hij]
   have hh:(i+j) / 2<j∧i≤(i+j) / 2:=by omega
   cases hP:decide (c (at' L m) (at' L ((i+j) / 2))<0) with
   | false=>
    rw[if_pos (by rfl)]
    refine .next ?_ (S45pl3 hc hN hL ha f ((i+j) / 2+1) j (by omega) (by omega) hj)
    unfold T45p_l3_b
    dsimp only
    rw[fd]
    refine wp_sp (fun _=>?_) (fun h=>by have:=of_decide_eq_false h; simp at this; omega)
    exact wp_i64 (by omega) (wp_u64 (by omega) (wp_i64 (by omega) (wp_ridx (by omega) (by omega) (wp_rload (at' L m) (by omega) rfl (at_get (by omega)) (wp_ridx (by omega) (by omega) (wp_rload (at' L ((i+j) / 2)) (by omega) rfl (at_get (by omega))
     (wp_val (hc _ _ _) (wp_sp (fun h=>by rw[hP] at h; cases h) (fun _=>wp_i64 (by omega) (wp_leaf rfl ⟨rfl,rfl⟩))))))))))
   | true=>
    rw[if_neg (by simp)]
    refine .next ?_ (S45pl3 hc hN hL ha f i ((i+j) / 2) (by omega) (by omega) (by omega))
    unfold T45p_l3_b
    dsimp only
    rw[fd]
    refine wp_sp (fun _=>?_) (fun h=>by have:=of_decide_eq_false h; simp at this; omega)
    exact wp_i64 (by omega) (wp_u64 (by omega) (wp_i64 (by omega) (wp_ridx (by omega) (by omega) (wp_rload (at' L m) (by omega) rfl (at_get (by omega)) (wp_ridx (by omega) (by omega) (wp_rload (at' L ((i+j) / 2)) (by omega) rfl (at_get (by omega))
     (wp_val (hc _ _ _) (wp_sp (fun _=>wp_leaf rfl ⟨rfl,rfl⟩) (fun h=>by rw[hP] at h; cases h)))))))))
  ·rw[if_neg hij]
   refine .done (by simp[T45p_l3_x]) ?_
   unfold T45p_l3_b
   exact wp_sp (fun h=>by have:=of_decide_eq_true h; simp at this; omega) (fun _=>wp_leaf rfl ⟨rfl,rfl⟩)

theorem S45pl6 {Γ:Env} {c:Meta→Meta→Int} {g:Nat} (hc:Cmpp Γ c g) {n a m b:Nat} {L:List Meta} (hN:n≤1000000) (hL:L.length=n) (hb:b≤n) {hi0:Nat} (hh0:hi0≤(a+b) / 2+m) (hh1:hi0≤n):∀ (f i j:Nat),i≤j→j - i≤f→j≤hi0→(a+b) / 2+m - i≤n →
  Rounds (T45p_l6_e g n L a m b) (T45p_l6_x g n L a m b) noX (fun s=>(T45p_l6_b Γ c g n L a m b s).wp) ((i:Int),(j:Int)) (.inl ((bsF (fun h=> !decide (c (at' L ((a+b) / 2+m - 1 - h)) (at' L h)<0)) f i j:Nat):Int))
 | 0,i,j,h1,h2,hj,hin=>by
  refine .done (by simp[T45p_l6_x]) ?_
  unfold T45p_l6_b
  exact wp_sp (fun h=>by have:=of_decide_eq_true h; simp at this; omega) (fun _=>wp_leaf rfl ⟨rfl,rfl⟩)
 | f+1,i,j,h1,h2,hj,hin=>by
  unfold bsF
  by_cases hij:i<j
  ·rw[if_pos hij]
   have hh:(i+j) / 2<j∧i≤(i+j) / 2:=by omega
   have hN1:Int.toNat (((((a+b) / 2:Nat):Int)+(m:Int)) - 1 - (((i+j) / 2:Nat):Int))=(a+b) / 2+m - 1 - (i+j) / 2:=by omega
   cases hP:decide (c (at' L ((a+b) / 2+m - 1 - (i+j) / 2)) (at' L ((i+j) / 2))<0) with
   | false=>
    rw[if_pos (by rfl)]
    refine .next ?_ (S45pl6 hc hN hL hb hh0 hh1 f ((i+j) / 2+1) j (by omega) (by omega) hj (by omega))
    unfold T45p_l6_b
    dsimp only
    rw[fd,fd]
    refine wp_sp (fun _=>?_) (fun h=>by have:=of_decide_eq_false h; simp at this; omega)
    exact wp_i64 (by omega) (wp_u64 (by omega) (wp_i64 (by omega) (wp_i64 (by omega) (wp_ridx (by omega) (by omega) (wp_rload (at' L ((a+b) / 2+m - 1 - (i+j) / 2)) (by omega) rfl (by rw[hN1]; exact at_get (by omega)) (wp_ridx (by omega) (by omega) (wp_rload (at' L ((i+j) / 2)) (by omega) rfl (at_get (by omega))
     (wp_val (hc _ _ _) (wp_sp (fun h=>by rw[hP] at h; cases h) (fun _=>wp_i64 (by omega) (wp_leaf rfl ⟨rfl,rfl⟩)))))))))))
   | true=>
    rw[if_neg (by simp)]
    refine .next ?_ (S45pl6 hc hN hL hb hh0 hh1 f i ((i+j) / 2) (by omega) (by omega) (by omega) (by omega))
    unfold T45p_l6_b
    dsimp only
    rw[fd,fd]
    refine wp_sp (fun _=>?_) (fun h=>by have:=of_decide_eq_false h; simp at this; omega)
    exact wp_i64 (by omega) (wp_u64 (by omega) (wp_i64 (by omega) (wp_i64 (by omega) (wp_ridx (by omega) (by omega) (wp_rload (at' L ((a+b) / 2+m - 1 - (i+j) / 2)) (by omega) rfl (by rw[hN1]; exact at_get (by omega)) (wp_ridx (by omega) (by omega) (wp_rload (at' L ((i+j) / 2)) (by omega) rfl (at_get (by omega))
     (wp_val (hc _ _ _) (wp_sp (fun _=>wp_leaf rfl ⟨rfl,rfl⟩) (fun h=>by rw[hP] at h; cases h))))))))))
  ·rw[if_neg hij]
   refine .done (by simp[T45p_l6_x]) ?_
   unfold T45p_l6_b
   exact wp_sp (fun h=>by have:=of_decide_eq_true h; simp at this; omega) (fun _=>wp_leaf rfl ⟨rfl,rfl⟩)

theorem S45pl2 {n x:Nat} (hN:n≤1000000) (hx:x≤n):∀ (d k:Nat) (L:List Meta),k+d+1=x→L.length=n →
  Rounds (T45p_l2_e n x) (T45p_l2_x) noX (fun s=>(T45p_l2_b n x s).wp) (L,(k:Int)) (.inl (upF L k d))
 | 0,k,L,hk,hL=>by
  refine .done (by simp[T45p_l2_x]) ?_
  unfold T45p_l2_b
  exact wp_i64 (by omega) (wp_sp (fun h=>by have:=of_decide_eq_true h; simp at this; omega) (fun _=>wp_leaf rfl ⟨rfl,rfl⟩))
 | d+1,k,L,hk,hL=>by
  refine .next ?_ (S45pl2 hN hx d (k+1) (swapA L k (k+1)) (by omega) (by rw[swap_len,hL]))
  unfold T45p_l2_b
  dsimp only
  refine wp_i64 (by omega) (wp_sp (fun _=>?_) (fun h=>by have:=of_decide_eq_false h; simp at this; omega))
  exact wp_i64 (by omega) (wp_i64 (by omega) (wp_ridx (by omega) (by omega) (wp_rload (at' L (k+1)) (by omega) rfl (at_get (by omega)) (wp_ridx (by omega) (by omega) (wp_rload (at' L k) (by omega) rfl (at_get (by omega))
   (wp_ridx (by omega) (by omega) (wp_rstore (by omega) (by omega) rfl rfl (wp_ridx (by omega) (by omega) (wp_rstore (by omega) (by rw[List.length_set]; omega) rfl rfl (wp_i64 (by omega) (wp_leaf rfl ⟨rfl,rfl⟩)))))))))))

theorem S45pl4 {n x:Nat} (hN:n≤1000000):∀ (d k:Nat) (L:List Meta),x+d=k→k<n→L.length=n →
  Rounds (T45p_l4_e n x) (T45p_l4_x) noX (fun s=>(T45p_l4_b n x s).wp) (L,(k:Int)) (.inl (dnF L k d))
 | 0,k,L,hk,hkn,hL=>by
  refine .done (by simp[T45p_l4_x]) ?_
  unfold T45p_l4_b
  exact wp_sp (fun h=>by have:=of_decide_eq_true h; simp at this; omega) (fun _=>wp_leaf rfl ⟨rfl,rfl⟩)
 | d+1,k,L,hk,hkn,hL=>by
  have hk1:Int.toNat ((k:Int) - 1)=k - 1:=toN1
  refine .next ?_ (S45pl4 hN d (k - 1) (swapA L k (k - 1)) (by omega) (by omega) (by rw[swap_len,hL]))
  unfold T45p_l4_b
  dsimp only
  refine wp_sp (fun _=>?_) (fun h=>by have:=of_decide_eq_false h; simp at this; omega)
  refine wp_i64 (by omega) (wp_i64 (by omega) (wp_ridx (by omega) (by omega) (wp_rload (at' L (k - 1)) (by omega) rfl (by rw[hk1]; exact at_get (by omega)) (wp_ridx (by omega) (by omega) (wp_rload (at' L k) (by omega) rfl (at_get (by omega))
   (wp_ridx (by omega) (by omega) (wp_rstore (by omega) (by omega) rfl rfl (wp_ridx (by omega) (by omega) (wp_rstore (by omega) (by rw[List.length_set]; omega) rfl rfl (wp_i64 (by omega) (wp_leaf rfl ⟨rfl,?_⟩)))))))))))
  rw[hk1,show ((k:Int) - 1)=((k - 1:Nat):Int) by omega]
  rfl
def ΔBq (R:RSpec):REnv:=fun f=>bif Nat.beq f 134 then R47q else bif Nat.beq f 114 then R else fun _ _ _ _=>False
theorem ΔBq_ok {R:RSpec} (hR:SoundR DP 114 R):∀ f,SoundR DP f (ΔBq R f):=fun f=>by
 unfold ΔBq
 cases h:Nat.beq f 134 with
 | true=>have:=Nat.eq_of_beq_eq_true h; subst this; exact R47q_ok
 | false=>
  cases h:Nat.beq f 114 with
  | true=>have:=Nat.eq_of_beq_eq_true h; subst this; exact hR
  | false=>exact .none f

def R45q (Γ:Env) (c:Meta→Meta→Int) (g:Nat):Nat→RSpec
 | 0=>fun _ _ _ _=>False
 | k+1=>fun args B r B'=>∃  (lv:Int) (n:Nat) (L:List Meta) (a m b:Int),args= [.rs 0 0 5 0 n,vi a,vi m,vi b, .fn g [.ptr 1 0 0]]∧B= [metaE.bx 0 L, .cells false 0 [vi lv]]∧(T45q Γ (ΔBq (R45q Γ c g k)) c g lv n L a m b).wp fun _ st=>tk st.1 0=r∧st.2=B'
theorem R45q_ok {Γ:Env} (hΓ:∀ f,SoundF DP f (Γ f)) (c:Meta→Meta→Int) (g:Nat):∀ k,SoundR DP 114 (R45q Γ c g k)
 | 0=> .none 114
 | k+1=>sound_genT (Γ:=Γ) (Δ:=ΔBq (R45q Γ c g k)) (fn:=Tryd.f114) mixedD hΓ (ΔBq_ok (R45q_ok hΓ c g k)) (by kernel_rfl) (by kernel_rfl) (by kernel_rfl) (by
  rintro args B r B' ⟨lv,n,L,a,m,b,rfl,rfl,h⟩
  exact ⟨rfl,_,T45q_chk Γ _ c g lv n L a m b,h⟩)

theorem S45ql1 {Γ:Env} {c:Meta→Meta→Int} {g:Nat} (lv:Int) (hc:Cmpq Γ c g lv) {n a:Nat} {L:List Meta} (hN:n≤1000000) (hL:L.length=n) (ha:a<n):∀ (f i j:Nat),i≤j→j - i≤f→j≤n →
  Rounds (T45q_l1_e g lv n L a) (T45q_l1_x lv n L a) noX (fun s=>(T45q_l1_b Γ c g lv n L a s).wp) ((i:Int),(j:Int)) (.inl ((bsF (fun h=>decide (c (at' L h) (at' L a)<0)) f i j:Nat):Int))
 | 0,i,j,h1,h2,hj=>by
  refine .done (by simp[T45q_l1_x]) ?_
  unfold T45q_l1_b
  exact wp_sp (fun h=>by have:=of_decide_eq_true h; simp at this; omega) (fun _=>wp_leaf rfl ⟨rfl,rfl⟩)
 | f+1,i,j,h1,h2,hj=>by
  unfold bsF
  by_cases hij:i<j
  ·rw[if_pos hij]
   have hh:(i+j) / 2<j∧i≤(i+j) / 2:=by omega
   cases hP:decide (c (at' L ((i+j) / 2)) (at' L a)<0) with
   | true=>
    rw[if_pos rfl]
    refine .next ?_ (S45ql1 lv hc hN hL ha f ((i+j) / 2+1) j (by omega) (by omega) hj)
    unfold T45q_l1_b
    dsimp only
    rw[fd]
    refine wp_sp (fun _=>?_) (fun h=>by have:=of_decide_eq_false h; simp at this; omega)
    exact wp_i64 (by omega) (wp_u64 (by omega) (wp_i64 (by omega) (wp_ridx (by omega) (by omega) (wp_rload (at' L ((i+j) / 2)) (by omega) rfl (at_get (by omega)) (wp_ridx (by omega) (by omega) (wp_rload (at' L a) (by omega) rfl (at_get (by omega))
     (wp_val (hc _ _ _) (wp_sp (fun _=>wp_i64 (by omega) (wp_leaf rfl ⟨rfl,rfl⟩)) (fun h=>by rw[hP] at h; cases h)))))))))
   | false=>
    rw[if_neg (by simp)]
    refine .next ?_ (S45ql1 lv hc hN hL ha f i ((i+j) / 2) (by omega) (by omega) (by omega))
    unfold T45q_l1_b
    dsimp only
    rw[fd]
    refine wp_sp (fun _=>?_) (fun h=>by have:=of_decide_eq_false h; simp at this; omega)
    exact wp_i64 (by omega) (wp_u64 (by omega) (wp_i64 (by omega) (wp_ridx (by omega) (by omega) (wp_rload (at' L ((i+j) / 2)) (by omega) rfl (at_get (by omega)) (wp_ridx (by omega) (by omega) (wp_rload (at' L a) (by omega) rfl (at_get (by omega))
     (wp_val (hc _ _ _) (wp_sp (fun h=>by rw[hP] at h; cases h) (fun _=>wp_leaf rfl ⟨rfl,rfl⟩)))))))))
  ·rw[if_neg hij]
   refine .done (by simp[T45q_l1_x]) ?_
   unfold T45q_l1_b
   exact wp_sp (fun h=>by have:=of_decide_eq_true h; simp at this; omega) (fun _=>wp_leaf rfl ⟨rfl,rfl⟩)

theorem S45ql3 {Γ:Env} {c:Meta→Meta→Int} {g:Nat} (lv:Int) (hc:Cmpq Γ c g lv) {n m:Nat} {L:List Meta} (hN:n≤1000000) (hL:L.length=n) (ha:m<n):∀ (f i j:Nat),i≤j→j - i≤f→j≤n →
  Rounds (T45q_l3_e g lv n L m) (T45q_l3_x lv n L m) noX (fun s=>(T45q_l3_b Γ c g lv n L m s).wp) ((i:Int),(j:Int)) (.inl ((bsF (fun h=> !decide (c (at' L m) (at' L h)<0)) f i j:Nat):Int))
 | 0,i,j,h1,h2,hj=>by
  refine .done (by simp[T45q_l3_x]) ?_
  unfold T45q_l3_b
  exact wp_sp (fun h=>by have:=of_decide_eq_true h; simp at this; omega) (fun _=>wp_leaf rfl ⟨rfl,rfl⟩)
 | f+1,i,j,h1,h2,hj=>by
  unfold bsF
  by_cases hij:i<j
  ·rw[if_pos hij]
   have hh:(i+j) / 2<j∧i≤(i+j) / 2:=by omega
   cases hP:decide (c (at' L m) (at' L ((i+j) / 2))<0) with
   | false=>
    rw[if_pos (by rfl)]
    refine .next ?_ (S45ql3 lv hc hN hL ha f ((i+j) / 2+1) j (by omega) (by omega) hj)
    unfold T45q_l3_b
    dsimp only
    rw[fd]
    refine wp_sp (fun _=>?_) (fun h=>by have:=of_decide_eq_false h; simp at this; omega)
    exact wp_i64 (by omega) (wp_u64 (by omega) (wp_i64 (by omega) (wp_ridx (by omega) (by omega) (wp_rload (at' L m) (by omega) rfl (at_get (by omega)) (wp_ridx (by omega) (by omega) (wp_rload (at' L ((i+j) / 2)) (by omega) rfl (at_get (by omega))
     (wp_val (hc _ _ _) (wp_sp (fun h=>by rw[hP] at h; cases h) (fun _=>wp_i64 (by omega) (wp_leaf rfl ⟨rfl,rfl⟩))))))))))
   | true=>
    rw[if_neg (by simp)]
    refine .next ?_ (S45ql3 lv hc hN hL ha f i ((i+j) / 2) (by omega) (by omega) (by omega))
    unfold T45q_l3_b
    dsimp only
    rw[fd]
    refine wp_sp (fun _=>?_) (fun h=>by have:=of_decide_eq_false h; simp at this; omega)
    exact wp_i64 (by omega) (wp_u64 (by omega) (wp_i64 (by omega) (wp_ridx (by omega) (by omega) (wp_rload (at' L m) (by omega) rfl (at_get (by omega)) (wp_ridx (by omega) (by omega) (wp_rload (at' L ((i+j) / 2)) (by omega) rfl (at_get (by omega))
     (wp_val (hc _ _ _) (wp_sp (fun _=>wp_leaf rfl ⟨rfl,rfl⟩) (fun h=>by rw[hP] at h; cases h)))))))))
  ·rw[if_neg hij]
   refine .done (by simp[T45q_l3_x]) ?_
   unfold T45q_l3_b
   exact wp_sp (fun h=>by have:=of_decide_eq_true h; simp at this; omega) (fun _=>wp_leaf rfl ⟨rfl,rfl⟩)

theorem S45ql6 {Γ:Env} {c:Meta→Meta→Int} {g:Nat} (lv:Int) (hc:Cmpq Γ c g lv) {n a m b:Nat} {L:List Meta} (hN:n≤1000000) (hL:L.length=n) (hb:b≤n) {hi0:Nat} (hh0:hi0≤(a+b) / 2+m) (hh1:hi0≤n):∀ (f i j:Nat),i≤j→j - i≤f→j≤hi0→(a+b) / 2+m - i≤n →
  Rounds (T45q_l6_e g lv n L a m b) (T45q_l6_x g lv n L a m b) noX (fun s=>(T45q_l6_b Γ c g lv n L a m b s).wp) ((i:Int),(j:Int)) (.inl ((bsF (fun h=> !decide (c (at' L ((a+b) / 2+m - 1 - h)) (at' L h)<0)) f i j:Nat):Int))
 | 0,i,j,h1,h2,hj,hin=>by
  refine .done (by simp[T45q_l6_x]) ?_
  unfold T45q_l6_b
  exact wp_sp (fun h=>by have:=of_decide_eq_true h; simp at this; omega) (fun _=>wp_leaf rfl ⟨rfl,rfl⟩)
 | f+1,i,j,h1,h2,hj,hin=>by
  unfold bsF
  by_cases hij:i<j
  ·rw[if_pos hij]
   have hh:(i+j) / 2<j∧i≤(i+j) / 2:=by omega
   have hN1:Int.toNat (((((a+b) / 2:Nat):Int)+(m:Int)) - 1 - (((i+j) / 2:Nat):Int))=(a+b) / 2+m - 1 - (i+j) / 2:=by omega
   cases hP:decide (c (at' L ((a+b) / 2+m - 1 - (i+j) / 2)) (at' L ((i+j) / 2))<0) with
   | false=>
    rw[if_pos (by rfl)]
    refine .next ?_ (S45ql6 lv hc hN hL hb hh0 hh1 f ((i+j) / 2+1) j (by omega) (by omega) hj (by omega))
    unfold T45q_l6_b
    dsimp only
    rw[fd,fd]
    refine wp_sp (fun _=>?_) (fun h=>by have:=of_decide_eq_false h; simp at this; omega)
    exact wp_i64 (by omega) (wp_u64 (by omega) (wp_i64 (by omega) (wp_i64 (by omega) (wp_ridx (by omega) (by omega) (wp_rload (at' L ((a+b) / 2+m - 1 - (i+j) / 2)) (by omega) rfl (by rw[hN1]; exact at_get (by omega)) (wp_ridx (by omega) (by omega) (wp_rload (at' L ((i+j) / 2)) (by omega) rfl (at_get (by omega))
     (wp_val (hc _ _ _) (wp_sp (fun h=>by rw[hP] at h; cases h) (fun _=>wp_i64 (by omega) (wp_leaf rfl ⟨rfl,rfl⟩)))))))))))
   | true=>
    rw[if_neg (by simp)]
    refine .next ?_ (S45ql6 lv hc hN hL hb hh0 hh1 f i ((i+j) / 2) (by omega) (by omega) (by omega) (by omega))
    unfold T45q_l6_b
    dsimp only
    rw[fd,fd]
    refine wp_sp (fun _=>?_) (fun h=>by have:=of_decide_eq_false h; simp at this; omega)
    exact wp_i64 (by omega) (wp_u64 (by omega) (wp_i64 (by omega) (wp_i64 (by omega) (wp_ridx (by omega) (by omega) (wp_rload (at' L ((a+b) / 2+m - 1 - (i+j) / 2)) (by omega) rfl (by rw[hN1]; exact at_get (by omega)) (wp_ridx (by omega) (by omega) (wp_rload (at' L ((i+j) / 2)) (by omega) rfl (at_get (by omega))
     (wp_val (hc _ _ _) (wp_sp (fun _=>wp_leaf rfl ⟨rfl,rfl⟩) (fun h=>by rw[hP] at h; cases h))))))))))
  ·rw[if_neg hij]
   refine .done (by simp[T45q_l6_x]) ?_
   unfold T45q_l6_b
   exact wp_sp (fun h=>by have:=of_decide_eq_true h; simp at this; omega) (fun _=>wp_leaf rfl ⟨rfl,rfl⟩)

theorem S45ql2 (lv:Int) {n x:Nat} (hN:n≤1000000) (hx:x≤n):∀ (d k:Nat) (L:List Meta),k+d+1=x→L.length=n →
  Rounds (T45q_l2_e lv n x) (T45q_l2_x lv) noX (fun s=>(T45q_l2_b lv n x s).wp) (L,(k:Int)) (.inl (upF L k d))
 | 0,k,L,hk,hL=>by
  refine .done (by simp[T45q_l2_x]) ?_
  unfold T45q_l2_b
  exact wp_i64 (by omega) (wp_sp (fun h=>by have:=of_decide_eq_true h; simp at this; omega) (fun _=>wp_leaf rfl ⟨rfl,rfl⟩))
 | d+1,k,L,hk,hL=>by
  refine .next ?_ (S45ql2 lv hN hx d (k+1) (swapA L k (k+1)) (by omega) (by rw[swap_len,hL]))
  unfold T45q_l2_b
  dsimp only
  refine wp_i64 (by omega) (wp_sp (fun _=>?_) (fun h=>by have:=of_decide_eq_false h; simp at this; omega))
  exact wp_i64 (by omega) (wp_i64 (by omega) (wp_ridx (by omega) (by omega) (wp_rload (at' L (k+1)) (by omega) rfl (at_get (by omega)) (wp_ridx (by omega) (by omega) (wp_rload (at' L k) (by omega) rfl (at_get (by omega))
   (wp_ridx (by omega) (by omega) (wp_rstore (by omega) (by omega) rfl rfl (wp_ridx (by omega) (by omega) (wp_rstore (by omega) (by rw[List.length_set]; omega) rfl rfl (wp_i64 (by omega) (wp_leaf rfl ⟨rfl,rfl⟩)))))))))))

theorem S45ql4 (lv:Int) {n x:Nat} (hN:n≤1000000):∀ (d k:Nat) (L:List Meta),x+d=k→k<n→L.length=n →
  Rounds (T45q_l4_e lv n x) (T45q_l4_x lv) noX (fun s=>(T45q_l4_b lv n x s).wp) (L,(k:Int)) (.inl (dnF L k d))
 | 0,k,L,hk,hkn,hL=>by
  refine .done (by simp[T45q_l4_x]) ?_
  unfold T45q_l4_b
  exact wp_sp (fun h=>by have:=of_decide_eq_true h; simp at this; omega) (fun _=>wp_leaf rfl ⟨rfl,rfl⟩)
 | d+1,k,L,hk,hkn,hL=>by
  have hk1:Int.toNat ((k:Int) - 1)=k - 1:=toN1
  refine .next ?_ (S45ql4 lv hN d (k - 1) (swapA L k (k - 1)) (by omega) (by omega) (by rw[swap_len,hL]))
  unfold T45q_l4_b
  dsimp only
  refine wp_sp (fun _=>?_) (fun h=>by have:=of_decide_eq_false h; simp at this; omega)
  refine wp_i64 (by omega) (wp_i64 (by omega) (wp_ridx (by omega) (by omega) (wp_rload (at' L (k - 1)) (by omega) rfl (by rw[hk1]; exact at_get (by omega)) (wp_ridx (by omega) (by omega) (wp_rload (at' L k) (by omega) rfl (at_get (by omega))
   (wp_ridx (by omega) (by omega) (wp_rstore (by omega) (by omega) rfl rfl (wp_ridx (by omega) (by omega) (wp_rstore (by omega) (by rw[List.length_set]; omega) rfl rfl (wp_i64 (by omega) (wp_leaf rfl ⟨rfl,?_⟩)))))))))))
  rw[hk1,show ((k:Int) - 1)=((k - 1:Nat):Int) by omega]
  rfl
--plain
theorem wp_go {k:Tree} {K:AE→St→Prop} (h:k.wp K):(Tree.go k).wp K:=h
theorem rot_id {L:List Meta} {s m e:Nat} (h:s=m∨e=m) (x:Nat):at' L x=rotT L s m e x:=by
 unfold rotT
 rcases h with rfl | rfl
 ·by_cases c1:s≤x∧x<s+(e - s)
  ·rw[if_pos c1]; congr 1; omega
  ·rw[if_neg c1,if_neg (by omega)]
 ·rw[if_neg (by omega)]
  by_cases c1:s+(e - e)≤x∧x<e
  ·rw[if_pos c1]; congr 1; omega
  ·rw[if_neg c1]
theorem S45pw {Γ:Env} {c:Meta→Meta→Int} {g:Nat} {n:Nat} (hN:n≤1000000) {k a m b mid s lo hi:Nat} {L L1 L2 L3:List Meta} (h3:b≤n) (hmid:mid=(a+b) / 2) (hs1:a≤s∧s≤m∧s≤mid∧m≤mid+m - s∧mid≤mid+m - s∧mid+m - s≤b) (hm:1≤mid+m)
  (hl6:Rounds (T45p_l6_e g n L a m b) (T45p_l6_x g n L a m b) noX (fun s=>(T45p_l6_b Γ c g n L a m b s).wp) ((lo:Int),(hi:Int)) (.inl (s:Int)))
  (r1:(s<m∧m<mid+m - s→R47p [.rs 0 0 5 0 n,vi s,vi m,vi (mid+m - s:Nat), .fn g []] [metaE.bx 0 L] (.tup []) [metaE.bx 0 L1])∧(¬(s<m∧m<mid+m - s)→L1=L))
  (r2:(a<s∧s<mid→R45p Γ c g k [.rs 0 0 5 0 n,vi a,vi s,vi mid, .fn g []] [metaE.bx 0 L1] (.tup []) [metaE.bx 0 L2])∧(¬(a<s∧s<mid)→L2=L1))
  (r3:(mid<mid+m - s∧mid+m - s<b→R45p Γ c g k [.rs 0 0 5 0 n,vi mid,vi (mid+m - s:Nat),vi b, .fn g []] [metaE.bx 0 L2] (.tup []) [metaE.bx 0 L3])∧(¬(mid<mid+m - s∧mid+m - s<b)→L3=L2)):
  (T45p_j5 Γ (ΔBp (R45p Γ c g k)) c g n L a m b ((lo:Int),(hi:Int))).wp fun _ st=>tk st.1 0= .tup []∧st.2= [metaE.bx 0 L3]:=by
 have he:((mid:Int)+(m:Int) - (s:Int))=((mid+m - s:Nat):Int):=by omega
 have hj8:(T45p_j8 (ΔBp (R45p Γ c g k)) g n a m b s L1 (decide (a<s∧s<mid))).wp fun _ st=>tk st.1 0= .tup []∧st.2= [metaE.bx 0 L3]:=by
  unfold T45p_j8
  rw[fd,←hmid,he]
  by_cases c3:mid<mid+m - s∧mid+m - s<b
  ·refine wp_br (fun h=>wp_callx L2 (r2.1 (of_decide_eq_true h)) ?_) (fun h=>?_)
   ·exact wp_sp (fun _=>wp_sp (fun _=>wp_callx L3 (r3.1 c3) (wp_leaf rfl ⟨rfl,rfl⟩)) (fun h=>by have:=of_decide_eq_false h; omega)) (fun h=>by have:=of_decide_eq_false h; omega)
   ·have e2:=r2.2 (of_decide_eq_false h)
    subst e2
    exact wp_sp (fun _=>wp_sp (fun _=>wp_callx L3 (r3.1 c3) (wp_leaf rfl ⟨rfl,rfl⟩)) (fun h=>by have:=of_decide_eq_false h; omega)) (fun h=>by have:=of_decide_eq_false h; omega)
  ·have e3:=r3.2 c3
   subst e3
   refine wp_br (fun h=>wp_callx L3 (r2.1 (of_decide_eq_true h)) ?_) (fun h=>?_)
   ·exact wp_sp (fun h0=>wp_sp (fun h=>by have:=of_decide_eq_true h0; have:=of_decide_eq_true h; omega) (fun _=>wp_leaf rfl ⟨rfl,rfl⟩)) (fun _=>wp_leaf rfl ⟨rfl,rfl⟩)
   ·have e2:=r2.2 (of_decide_eq_false h)
    subst e2
    exact wp_sp (fun h0=>wp_sp (fun h=>by have:=of_decide_eq_true h0; have:=of_decide_eq_true h; omega) (fun _=>wp_leaf rfl ⟨rfl,rfl⟩)) (fun _=>wp_leaf rfl ⟨rfl,rfl⟩)
 have hj7:(T45p_j7 (ΔBp (R45p Γ c g k)) g n a m b s L1).wp fun _ st=>tk st.1 0= .tup []∧st.2= [metaE.bx 0 L3]:=by
  unfold T45p_j7
  rw[fd,←hmid]
  refine wp_sp (fun h=>wp_sp (fun h'=>wp_join rfl ?_) (fun h'=>wp_join rfl ?_)) (fun h=>wp_join rfl ?_)
  ·have:decide (a<s∧s<mid)=true:=decide_eq_true (by have:=of_decide_eq_true h; have:=of_decide_eq_true h'; omega)
   have h8:=hj8; rw[this] at h8; exact h8
  ·have:decide (a<s∧s<mid)=false:=decide_eq_false (by have:=of_decide_eq_false h'; omega)
   have h8:=hj8; rw[this] at h8; exact h8
  ·have:decide (a<s∧s<mid)=false:=decide_eq_false (by have:=of_decide_eq_false h; omega)
   have h8:=hj8; rw[this] at h8; exact h8
 have hj9:(T45p_j9 (ΔBp (R45p Γ c g k)) g n L a m b s (decide (s<m∧m<mid+m - s))).wp fun _ st=>tk st.1 0= .tup []∧st.2= [metaE.bx 0 L3]:=by
  unfold T45p_j9
  rw[fd,←hmid,he]
  refine wp_br (fun h=>wp_callx L1 (r1.1 (of_decide_eq_true h)) (wp_join rfl hj7)) (fun h=>wp_join rfl ?_)
  have e2:=r1.2 (of_decide_eq_false h)
  rw[←e2]; exact hj7
 have hj5:(T45p_j5 Γ (ΔBp (R45p Γ c g k)) c g n L a m b ((lo:Int),(hi:Int))).wp fun _ st=>tk st.1 0= .tup []∧st.2= [metaE.bx 0 L3]:=by
  unfold T45p_j5
  rw[fd,←hmid]
  refine wp_i64 (by omega) (wp_loop _ rfl hl6 ?_)
  rw[he]
  refine wp_i64 (by omega) (wp_sp (fun h=>wp_sp (fun h'=>wp_join rfl ?_) (fun h'=>wp_join rfl ?_)) (fun h=>wp_join rfl ?_))
  ·have:decide (s<m∧m<mid+m - s)=true:=decide_eq_true (by have:=of_decide_eq_true h; have:=of_decide_eq_true h'; omega)
   have h8:=hj9; rw[this] at h8; exact h8
  ·have:decide (s<m∧m<mid+m - s)=false:=decide_eq_false (by have:=of_decide_eq_false h'; omega)
   have h8:=hj9; rw[this] at h8; exact h8
  ·have:decide (s<m∧m<mid+m - s)=false:=decide_eq_false (by have:=of_decide_eq_false h; omega)
   have h8:=hj9; rw[this] at h8; exact h8
 exact hj5

theorem S45p {Γ:Env} {c:Meta→Meta→Int} {g:Nat} (hc:Cmpp Γ c g) {n:Nat} (hN:n≤1000000):∀ (k a m b:Nat) (L:List Meta),L.length=n→a<m→m<b→b≤n→b - a≤k →
  ∃ L',R45p Γ c g k [.rs 0 0 5 0 n,vi a,vi m,vi b, .fn g []] [metaE.bx 0 L] (.tup []) [metaE.bx 0 L']∧Turn L L' a b∧∀ Q,Ordr c Q→AllQ Q L→Sorted c L a m→Sorted c L m b→Sorted c L' a b
 | 0,a,m,b,L,hL,h1,h2,h3,h4=>by omega
 | k+1,a,m,b,L,hL,h1,h2,h3,h4=>by
  by_cases ca:m=a+1
  ·subst ca
   obtain ⟨i,hi⟩:∃ i,i=bsF (fun h=>decide (c (at' L h) (at' L a)<0)) (b - (a+1)) (a+1) b:=⟨_,rfl⟩
   obtain ⟨g1,g2,_⟩:=bs_spec (fun h=>decide (c (at' L h) (at' L a)<0)) (b - (a+1)) (a+1) b (by omega) (Nat.le_refl _)
   rw[←hi] at g1 g2
   obtain ⟨u1,u2⟩:=up_spec (i - 1 - a) a L (by omega)
   rw[show a+(i - 1 - a)+1=i by omega] at u2
   refine ⟨upF L a (i - 1 - a),⟨n,L,a,(a+1:Nat),b,rfl,rfl,?_⟩,(turn_rot (by omega) (by omega) u1 u2).wide (Nat.le_refl _) g2,fun Q hO hQ _ hs=>ins_front hO hQ (by omega) h2 hs hi u2⟩
   unfold T45p
   refine wp_i64 (by omega) (wp_sp (fun _=>?_) (fun h=>by simp at h; omega))
   have l1:=S45pl1 hc hN hL (show a<n by omega) (b - (a+1)) (a+1) b (by omega) (Nat.le_refl _) h3
   rw[←hi] at l1
   exact wp_loop _ rfl l1 (wp_loop _ rfl (S45pl2 hN (by omega) (i - 1 - a) a L (by omega) hL) (wp_leaf rfl ⟨rfl,rfl⟩))
  ·by_cases cb:b=m+1
   ·subst cb
    obtain ⟨i,hi⟩:∃ i,i=bsF (fun h=> !decide (c (at' L m) (at' L h)<0)) (m - a) a m:=⟨_,rfl⟩
    obtain ⟨g1,g2,_⟩:=bs_spec (fun h=> !decide (c (at' L m) (at' L h)<0)) (m - a) a m (by omega) (Nat.le_refl _)
    rw[←hi] at g1 g2
    obtain ⟨u1,u2⟩:=dn_spec (m - i) m L (by omega) (by omega)
    rw[show m - (m - i)=i by omega] at u2
    refine ⟨dnF L m (m - i),⟨n,L,a,m,(m+1:Nat),rfl,rfl,?_⟩,(turn_rot (by omega) (by omega) u1 u2).wide g1 (Nat.le_refl _),fun Q hO hQ hs _=>ins_back hO hQ (by omega) h1 hs hi u2⟩
    unfold T45p
    refine wp_i64 (by omega) (wp_sp (fun h=>by simp at h; omega) (fun _=>wp_i64 (by omega) (wp_sp (fun _=>?_) (fun h=>by simp at h; omega))))
    have l3:=S45pl3 hc hN hL (show m<n by omega) (m - a) a m (by omega) (Nat.le_refl _) (by omega)
    rw[←hi] at l3
    exact wp_loop _ rfl l3 (wp_loop _ rfl (S45pl4 hN (m - i) m L (by omega) (by omega) hL) (wp_leaf rfl ⟨rfl,rfl⟩))
   ·obtain ⟨mid,hmid⟩:∃ mid,mid=(a+b) / 2:=⟨_,rfl⟩
    obtain ⟨lo,hi,hlh⟩:∃ lo hi,(mid<m∧lo=mid+m - b∧hi=mid)∨(m≤mid∧lo=a∧hi=m):=by
     rcases Nat.lt_or_ge mid m with h | h
     ·exact ⟨_,_, .inl ⟨h,rfl,rfl⟩⟩
     ·exact ⟨_,_, .inr ⟨h,rfl,rfl⟩⟩
    obtain ⟨s,hs⟩:∃ s,s=bsF (fun h=> !decide (c (at' L (mid+m - 1 - h)) (at' L h)<0)) (hi - lo) lo hi:=⟨_,rfl⟩
    obtain ⟨g1,g2,_⟩:=bs_spec (fun h=> !decide (c (at' L (mid+m - 1 - h)) (at' L h)<0)) (hi - lo) lo hi (by omega) (Nat.le_refl _)
    rw[←hs] at g1 g2
    have hl6:=S45pl6 hc (a:=a) (m:=m) (b:=b) hN hL h3 (hi0:=hi) (by omega) (by omega) (hi - lo) lo hi (by omega) (Nat.le_refl _) (Nat.le_refl _) (by omega)
    rw[←hmid,←hs] at hl6
    have hs1:a≤s∧s≤m∧s≤mid∧m≤mid+m - s∧mid≤mid+m - s∧mid+m - s≤b:=by omega
    -- the parts are changed over
    obtain ⟨L1,r1,p1,e1⟩:∃ L1,((s<m∧m<mid+m - s→R47p [.rs 0 0 5 0 n,vi s,vi m,vi (mid+m - s:Nat), .fn g []] [metaE.bx 0 L] (.tup []) [metaE.bx 0 L1])∧(¬(s<m∧m<mid+m - s)→L1=L))∧L1.Perm L∧∀ x,at' L1 x=rotT L s m (mid+m - s) x:=by
     by_cases h:s<m∧m<mid+m - s
     ·obtain ⟨L1,q1,q2,q3⟩:=S47p c g hN hL h.1 h.2 (by omega)
      exact ⟨L1,⟨fun _=>q1,fun hn=>absurd h hn⟩,q2,q3⟩
     ·exact ⟨L,⟨fun hn=>absurd hn h,fun _=>rfl⟩, .refl _,rot_id (by omega)⟩
    have t1:Turn L L1 a b:=(turn_rot (by omega) (by omega) p1 e1).wide (by omega) (by omega)
    have len1:L1.length=n:=by rw[t1.len,hL]
    -- the first half
    obtain ⟨L2,r2,t2,s2⟩:∃ L2,((a<s∧s<mid→R45p Γ c g k [.rs 0 0 5 0 n,vi a,vi s,vi mid, .fn g []] [metaE.bx 0 L1] (.tup []) [metaE.bx 0 L2])∧(¬(a<s∧s<mid)→L2=L1))∧Turn L1 L2 a mid ∧
      ∀ Q,Ordr c Q→AllQ Q L1→Sorted c L1 a s→Sorted c L1 s mid→Sorted c L2 a mid:=by
     by_cases h:a<s∧s<mid
     ·obtain ⟨L2,q1,q2,q3⟩:=S45p hc hN k a s mid L1 len1 h.1 h.2 (by omega) (by omega)
      exact ⟨L2,⟨fun _=>q1,fun hn=>absurd h hn⟩,q2,q3⟩
     ·refine ⟨L1,⟨fun hn=>absurd hn h,fun _=>rfl⟩, .refl _ _ _,fun Q _ _ f1 f2=>?_⟩
      rcases Nat.lt_or_ge a s with hh | hh
      ·rw[show mid=s by omega]; exact f1
      ·rw[show a=s by omega]; exact f2
    have len2:L2.length=n:=by rw[t2.len,len1]
    -- the second half
    obtain ⟨L3,r3,t3,s3⟩:∃ L3,((mid<mid+m - s∧mid+m - s<b→R45p Γ c g k [.rs 0 0 5 0 n,vi mid,vi (mid+m - s:Nat),vi b, .fn g []] [metaE.bx 0 L2] (.tup []) [metaE.bx 0 L3])∧(¬(mid<mid+m - s∧mid+m - s<b)→L3=L2))∧Turn L2 L3 mid b ∧
      ∀ Q,Ordr c Q→AllQ Q L2→Sorted c L2 mid (mid+m - s)→Sorted c L2 (mid+m - s) b→Sorted c L3 mid b:=by
     by_cases h:mid<mid+m - s∧mid+m - s<b
     ·obtain ⟨L3,q1,q2,q3⟩:=S45p hc hN k mid (mid+m - s) b L2 len2 h.1 h.2 h3 (by omega)
      exact ⟨L3,⟨fun _=>q1,fun hn=>absurd h hn⟩,q2,q3⟩
     ·refine ⟨L2,⟨fun hn=>absurd hn h,fun _=>rfl⟩, .refl _ _ _,fun Q _ _ f1 f2=>?_⟩
      rcases Nat.lt_or_ge mid (mid+m - s) with hh | hh
      ·rw[show b=mid+m - s by omega]; exact f1
      ·have:mid+m - s=mid:=by omega
       rw[this] at f2; exact f2
    have hj5:=S45pw hN h3 hmid hs1 (by omega) hl6 r1 r2 r3
    refine ⟨L3,⟨n,L,a,m,b,rfl,rfl,?_⟩,(t1.trans (t2.wide (Nat.le_refl _) (by omega))).trans (t3.wide (by omega) (Nat.le_refl _)),fun Q hO hQ f1 f2=>?_⟩
    ·unfold T45p
     rw[fd,←hmid]
     refine wp_i64 (by omega) (wp_sp (fun h=>by simp at h; omega) (fun _=>wp_i64 (by omega) (wp_sp (fun h=>by simp at h; omega) (fun _=>wp_i64 (by omega) (wp_u64 (by omega) (wp_i64 (by omega) (wp_i64 (by omega) (wp_sp (fun h=>?_) (fun h=>?_)))))))))
     ·have h:=of_decide_eq_true h
      rw[show ((mid:Int)+(m:Int) - (b:Int))=((mid+m - b:Nat):Int) by omega]
      have e1:mid+m - b=lo:=by omega
      have e2:hi=mid:=by omega
      subst e2
      rw[e1]
      exact wp_i64 (by omega) (wp_go (wp_join rfl hj5))
     ·have h:=of_decide_eq_false h
      have e1:lo=a:=by omega
      have e2:hi=m:=by omega
      subst e1 e2
      exact wp_go (wp_go (wp_join rfl hj5))
    ·have hp:=part_of hO hQ (by omega) h1 h2 f1 f2 hmid hlh hs
     obtain ⟨x0,x1,x2,x3,x4⟩:=part_cross hO (by omega) f1 f2 hp e1
     have hQ1:=hQ.turn t1 (by omega)
     have hQ2:=hQ1.turn t2 (by omega)
     exact halves (by omega) (by omega) x0 t2 t3 (s2 Q hO hQ1 x1 x2) (s3 Q hO hQ2 (x3.congr fun i q1 q2=>t2.out i (.inr q1)) (x4.congr fun i q1 q2=>t2.out i (.inr (by omega))))
theorem S45qw {Γ:Env} {c:Meta→Meta→Int} {g:Nat} (lv:Int) {n:Nat} (hN:n≤1000000) {k a m b mid s lo hi:Nat} {L L1 L2 L3:List Meta} (h3:b≤n) (hmid:mid=(a+b) / 2) (hs1:a≤s∧s≤m∧s≤mid∧m≤mid+m - s∧mid≤mid+m - s∧mid+m - s≤b) (hm:1≤mid+m)
  (hl6:Rounds (T45q_l6_e g lv n L a m b) (T45q_l6_x g lv n L a m b) noX (fun s=>(T45q_l6_b Γ c g lv n L a m b s).wp) ((lo:Int),(hi:Int)) (.inl (s:Int)))
  (r1:(s<m∧m<mid+m - s→R47q [.rs 0 0 5 0 n,vi s,vi m,vi (mid+m - s:Nat), .fn g [.ptr 1 0 0]] [metaE.bx 0 L, .cells false 0 [vi lv]] (.tup []) [metaE.bx 0 L1, .cells false 0 [vi lv]])∧(¬(s<m∧m<mid+m - s)→L1=L))
  (r2:(a<s∧s<mid→R45q Γ c g k [.rs 0 0 5 0 n,vi a,vi s,vi mid, .fn g [.ptr 1 0 0]] [metaE.bx 0 L1, .cells false 0 [vi lv]] (.tup []) [metaE.bx 0 L2, .cells false 0 [vi lv]])∧(¬(a<s∧s<mid)→L2=L1))
  (r3:(mid<mid+m - s∧mid+m - s<b→R45q Γ c g k [.rs 0 0 5 0 n,vi mid,vi (mid+m - s:Nat),vi b, .fn g [.ptr 1 0 0]] [metaE.bx 0 L2, .cells false 0 [vi lv]] (.tup []) [metaE.bx 0 L3, .cells false 0 [vi lv]])∧(¬(mid<mid+m - s∧mid+m - s<b)→L3=L2)):
  (T45q_j5 Γ (ΔBq (R45q Γ c g k)) c g lv n L a m b ((lo:Int),(hi:Int))).wp fun _ st=>tk st.1 0= .tup []∧st.2= [metaE.bx 0 L3, .cells false 0 [vi lv]]:=by
 have he:((mid:Int)+(m:Int) - (s:Int))=((mid+m - s:Nat):Int):=by omega
 have hj8:(T45q_j8 (ΔBq (R45q Γ c g k)) g lv n a m b s L1 (decide (a<s∧s<mid))).wp fun _ st=>tk st.1 0= .tup []∧st.2= [metaE.bx 0 L3, .cells false 0 [vi lv]]:=by
  unfold T45q_j8
  rw[fd,←hmid,he]
  by_cases c3:mid<mid+m - s∧mid+m - s<b
  ·refine wp_br (fun h=>wp_callx L2 (r2.1 (of_decide_eq_true h)) ?_) (fun h=>?_)
   ·exact wp_sp (fun _=>wp_sp (fun _=>wp_callx L3 (r3.1 c3) (wp_leaf rfl ⟨rfl,rfl⟩)) (fun h=>by have:=of_decide_eq_false h; omega)) (fun h=>by have:=of_decide_eq_false h; omega)
   ·have e2:=r2.2 (of_decide_eq_false h)
    subst e2
    exact wp_sp (fun _=>wp_sp (fun _=>wp_callx L3 (r3.1 c3) (wp_leaf rfl ⟨rfl,rfl⟩)) (fun h=>by have:=of_decide_eq_false h; omega)) (fun h=>by have:=of_decide_eq_false h; omega)
  ·have e3:=r3.2 c3
   subst e3
   refine wp_br (fun h=>wp_callx L3 (r2.1 (of_decide_eq_true h)) ?_) (fun h=>?_)
   ·exact wp_sp (fun h0=>wp_sp (fun h=>by have:=of_decide_eq_true h0; have:=of_decide_eq_true h; omega) (fun _=>wp_leaf rfl ⟨rfl,rfl⟩)) (fun _=>wp_leaf rfl ⟨rfl,rfl⟩)
   ·have e2:=r2.2 (of_decide_eq_false h)
    subst e2
    exact wp_sp (fun h0=>wp_sp (fun h=>by have:=of_decide_eq_true h0; have:=of_decide_eq_true h; omega) (fun _=>wp_leaf rfl ⟨rfl,rfl⟩)) (fun _=>wp_leaf rfl ⟨rfl,rfl⟩)
 have hj7:(T45q_j7 (ΔBq (R45q Γ c g k)) g lv n a m b s L1).wp fun _ st=>tk st.1 0= .tup []∧st.2= [metaE.bx 0 L3, .cells false 0 [vi lv]]:=by
  unfold T45q_j7
  rw[fd,←hmid]
  refine wp_sp (fun h=>wp_sp (fun h'=>wp_join rfl ?_) (fun h'=>wp_join rfl ?_)) (fun h=>wp_join rfl ?_)
  ·have:decide (a<s∧s<mid)=true:=decide_eq_true (by have:=of_decide_eq_true h; have:=of_decide_eq_true h'; omega)
   have h8:=hj8; rw[this] at h8; exact h8
  ·have:decide (a<s∧s<mid)=false:=decide_eq_false (by have:=of_decide_eq_false h'; omega)
   have h8:=hj8; rw[this] at h8; exact h8
  ·have:decide (a<s∧s<mid)=false:=decide_eq_false (by have:=of_decide_eq_false h; omega)
   have h8:=hj8; rw[this] at h8; exact h8
 have hj9:(T45q_j9 (ΔBq (R45q Γ c g k)) g lv n L a m b s (decide (s<m∧m<mid+m - s))).wp fun _ st=>tk st.1 0= .tup []∧st.2= [metaE.bx 0 L3, .cells false 0 [vi lv]]:=by
  unfold T45q_j9
  rw[fd,←hmid,he]
  refine wp_br (fun h=>wp_callx L1 (r1.1 (of_decide_eq_true h)) (wp_join rfl hj7)) (fun h=>wp_join rfl ?_)
  have e2:=r1.2 (of_decide_eq_false h)
  rw[←e2]; exact hj7
 have hj5:(T45q_j5 Γ (ΔBq (R45q Γ c g k)) c g lv n L a m b ((lo:Int),(hi:Int))).wp fun _ st=>tk st.1 0= .tup []∧st.2= [metaE.bx 0 L3, .cells false 0 [vi lv]]:=by
  unfold T45q_j5
  rw[fd,←hmid]
  refine wp_i64 (by omega) (wp_loop _ rfl hl6 ?_)
  rw[he]
  refine wp_i64 (by omega) (wp_sp (fun h=>wp_sp (fun h'=>wp_join rfl ?_) (fun h'=>wp_join rfl ?_)) (fun h=>wp_join rfl ?_))
  ·have:decide (s<m∧m<mid+m - s)=true:=decide_eq_true (by have:=of_decide_eq_true h; have:=of_decide_eq_true h'; omega)
   have h8:=hj9; rw[this] at h8; exact h8
  ·have:decide (s<m∧m<mid+m - s)=false:=decide_eq_false (by have:=of_decide_eq_false h'; omega)
   have h8:=hj9; rw[this] at h8; exact h8
  ·have:decide (s<m∧m<mid+m - s)=false:=decide_eq_false (by have:=of_decide_eq_false h; omega)
   have h8:=hj9; rw[this] at h8; exact h8
 exact hj5

theorem S45q {Γ:Env} {c:Meta→Meta→Int} {g:Nat} (lv:Int) (hc:Cmpq Γ c g lv) {n:Nat} (hN:n≤1000000):∀ (k a m b:Nat) (L:List Meta),L.length=n→a<m→m<b→b≤n→b - a≤k →
  ∃ L',R45q Γ c g k [.rs 0 0 5 0 n,vi a,vi m,vi b, .fn g [.ptr 1 0 0]] [metaE.bx 0 L, .cells false 0 [vi lv]] (.tup []) [metaE.bx 0 L', .cells false 0 [vi lv]]∧Turn L L' a b∧∀ Q,Ordr c Q→AllQ Q L→Sorted c L a m→Sorted c L m b→Sorted c L' a b
 | 0,a,m,b,L,hL,h1,h2,h3,h4=>by omega
 | k+1,a,m,b,L,hL,h1,h2,h3,h4=>by
  by_cases ca:m=a+1
  ·subst ca
   obtain ⟨i,hi⟩:∃ i,i=bsF (fun h=>decide (c (at' L h) (at' L a)<0)) (b - (a+1)) (a+1) b:=⟨_,rfl⟩
   obtain ⟨g1,g2,_⟩:=bs_spec (fun h=>decide (c (at' L h) (at' L a)<0)) (b - (a+1)) (a+1) b (by omega) (Nat.le_refl _)
   rw[←hi] at g1 g2
   obtain ⟨u1,u2⟩:=up_spec (i - 1 - a) a L (by omega)
   rw[show a+(i - 1 - a)+1=i by omega] at u2
   refine ⟨upF L a (i - 1 - a),⟨lv,n,L,a,(a+1:Nat),b,rfl,rfl,?_⟩,(turn_rot (by omega) (by omega) u1 u2).wide (Nat.le_refl _) g2,fun Q hO hQ _ hs=>ins_front hO hQ (by omega) h2 hs hi u2⟩
   unfold T45q
   refine wp_i64 (by omega) (wp_sp (fun _=>?_) (fun h=>by simp at h; omega))
   have l1:=S45ql1 lv hc hN hL (show a<n by omega) (b - (a+1)) (a+1) b (by omega) (Nat.le_refl _) h3
   rw[←hi] at l1
   exact wp_loop _ rfl l1 (wp_loop _ rfl (S45ql2 lv hN (by omega) (i - 1 - a) a L (by omega) hL) (wp_leaf rfl ⟨rfl,rfl⟩))
  ·by_cases cb:b=m+1
   ·subst cb
    obtain ⟨i,hi⟩:∃ i,i=bsF (fun h=> !decide (c (at' L m) (at' L h)<0)) (m - a) a m:=⟨_,rfl⟩
    obtain ⟨g1,g2,_⟩:=bs_spec (fun h=> !decide (c (at' L m) (at' L h)<0)) (m - a) a m (by omega) (Nat.le_refl _)
    rw[←hi] at g1 g2
    obtain ⟨u1,u2⟩:=dn_spec (m - i) m L (by omega) (by omega)
    rw[show m - (m - i)=i by omega] at u2
    refine ⟨dnF L m (m - i),⟨lv,n,L,a,m,(m+1:Nat),rfl,rfl,?_⟩,(turn_rot (by omega) (by omega) u1 u2).wide g1 (Nat.le_refl _),fun Q hO hQ hs _=>ins_back hO hQ (by omega) h1 hs hi u2⟩
    unfold T45q
    refine wp_i64 (by omega) (wp_sp (fun h=>by simp at h; omega) (fun _=>wp_i64 (by omega) (wp_sp (fun _=>?_) (fun h=>by simp at h; omega))))
    have l3:=S45ql3 lv hc hN hL (show m<n by omega) (m - a) a m (by omega) (Nat.le_refl _) (by omega)
    rw[←hi] at l3
    exact wp_loop _ rfl l3 (wp_loop _ rfl (S45ql4 lv hN (m - i) m L (by omega) (by omega) hL) (wp_leaf rfl ⟨rfl,rfl⟩))
   ·obtain ⟨mid,hmid⟩:∃ mid,mid=(a+b) / 2:=⟨_,rfl⟩
    obtain ⟨lo,hi,hlh⟩:∃ lo hi,(mid<m∧lo=mid+m - b∧hi=mid)∨(m≤mid∧lo=a∧hi=m):=by
     rcases Nat.lt_or_ge mid m with h | h
     ·exact ⟨_,_, .inl ⟨h,rfl,rfl⟩⟩
     ·exact ⟨_,_, .inr ⟨h,rfl,rfl⟩⟩
    obtain ⟨s,hs⟩:∃ s,s=bsF (fun h=> !decide (c (at' L (mid+m - 1 - h)) (at' L h)<0)) (hi - lo) lo hi:=⟨_,rfl⟩
    obtain ⟨g1,g2,_⟩:=bs_spec (fun h=> !decide (c (at' L (mid+m - 1 - h)) (at' L h)<0)) (hi - lo) lo hi (by omega) (Nat.le_refl _)
    rw[←hs] at g1 g2
    have hl6:=S45ql6 lv hc (a:=a) (m:=m) (b:=b) hN hL h3 (hi0:=hi) (by omega) (by omega) (hi - lo) lo hi (by omega) (Nat.le_refl _) (Nat.le_refl _) (by omega)
    rw[←hmid,←hs] at hl6
    have hs1:a≤s∧s≤m∧s≤mid∧m≤mid+m - s∧mid≤mid+m - s∧mid+m - s≤b:=by omega
    -- the parts are changed over
    obtain ⟨L1,r1,p1,e1⟩:∃ L1,((s<m∧m<mid+m - s→R47q [.rs 0 0 5 0 n,vi s,vi m,vi (mid+m - s:Nat), .fn g [.ptr 1 0 0]] [metaE.bx 0 L, .cells false 0 [vi lv]] (.tup []) [metaE.bx 0 L1, .cells false 0 [vi lv]])∧(¬(s<m∧m<mid+m - s)→L1=L))∧L1.Perm L∧∀ x,at' L1 x=rotT L s m (mid+m - s) x:=by
     by_cases h:s<m∧m<mid+m - s
     ·obtain ⟨L1,q1,q2,q3⟩:=S47q c g lv hN hL h.1 h.2 (by omega)
      exact ⟨L1,⟨fun _=>q1,fun hn=>absurd h hn⟩,q2,q3⟩
     ·exact ⟨L,⟨fun hn=>absurd hn h,fun _=>rfl⟩, .refl _,rot_id (by omega)⟩
    have t1:Turn L L1 a b:=(turn_rot (by omega) (by omega) p1 e1).wide (by omega) (by omega)
    have len1:L1.length=n:=by rw[t1.len,hL]
    -- the first half
    obtain ⟨L2,r2,t2,s2⟩:∃ L2,((a<s∧s<mid→R45q Γ c g k [.rs 0 0 5 0 n,vi a,vi s,vi mid, .fn g [.ptr 1 0 0]] [metaE.bx 0 L1, .cells false 0 [vi lv]] (.tup []) [metaE.bx 0 L2, .cells false 0 [vi lv]])∧(¬(a<s∧s<mid)→L2=L1))∧Turn L1 L2 a mid ∧
      ∀ Q,Ordr c Q→AllQ Q L1→Sorted c L1 a s→Sorted c L1 s mid→Sorted c L2 a mid:=by
     by_cases h:a<s∧s<mid
     ·obtain ⟨L2,q1,q2,q3⟩:=S45q lv hc hN k a s mid L1 len1 h.1 h.2 (by omega) (by omega)
      exact ⟨L2,⟨fun _=>q1,fun hn=>absurd h hn⟩,q2,q3⟩
     ·refine ⟨L1,⟨fun hn=>absurd hn h,fun _=>rfl⟩, .refl _ _ _,fun Q _ _ f1 f2=>?_⟩
      rcases Nat.lt_or_ge a s with hh | hh
      ·rw[show mid=s by omega]; exact f1
      ·rw[show a=s by omega]; exact f2
    have len2:L2.length=n:=by rw[t2.len,len1]
    -- the second half
    obtain ⟨L3,r3,t3,s3⟩:∃ L3,((mid<mid+m - s∧mid+m - s<b→R45q Γ c g k [.rs 0 0 5 0 n,vi mid,vi (mid+m - s:Nat),vi b, .fn g [.ptr 1 0 0]] [metaE.bx 0 L2, .cells false 0 [vi lv]] (.tup []) [metaE.bx 0 L3, .cells false 0 [vi lv]])∧(¬(mid<mid+m - s∧mid+m - s<b)→L3=L2))∧Turn L2 L3 mid b ∧
      ∀ Q,Ordr c Q→AllQ Q L2→Sorted c L2 mid (mid+m - s)→Sorted c L2 (mid+m - s) b→Sorted c L3 mid b:=by
     by_cases h:mid<mid+m - s∧mid+m - s<b
     ·obtain ⟨L3,q1,q2,q3⟩:=S45q lv hc hN k mid (mid+m - s) b L2 len2 h.1 h.2 h3 (by omega)
      exact ⟨L3,⟨fun _=>q1,fun hn=>absurd h hn⟩,q2,q3⟩
     ·refine ⟨L2,⟨fun hn=>absurd hn h,fun _=>rfl⟩, .refl _ _ _,fun Q _ _ f1 f2=>?_⟩
      rcases Nat.lt_or_ge mid (mid+m - s) with hh | hh
      ·rw[show b=mid+m - s by omega]; exact f1
      ·have:mid+m - s=mid:=by omega
       rw[this] at f2; exact f2
    have hj5:=S45qw lv hN h3 hmid hs1 (by omega) hl6 r1 r2 r3
    refine ⟨L3,⟨lv,n,L,a,m,b,rfl,rfl,?_⟩,(t1.trans (t2.wide (Nat.le_refl _) (by omega))).trans (t3.wide (by omega) (Nat.le_refl _)),fun Q hO hQ f1 f2=>?_⟩
    ·unfold T45q
     rw[fd,←hmid]
     refine wp_i64 (by omega) (wp_sp (fun h=>by simp at h; omega) (fun _=>wp_i64 (by omega) (wp_sp (fun h=>by simp at h; omega) (fun _=>wp_i64 (by omega) (wp_u64 (by omega) (wp_i64 (by omega) (wp_i64 (by omega) (wp_sp (fun h=>?_) (fun h=>?_)))))))))
     ·have h:=of_decide_eq_true h
      rw[show ((mid:Int)+(m:Int) - (b:Int))=((mid+m - b:Nat):Int) by omega]
      have e1:mid+m - b=lo:=by omega
      have e2:hi=mid:=by omega
      subst e2
      rw[e1]
      exact wp_i64 (by omega) (wp_go (wp_join rfl hj5))
     ·have h:=of_decide_eq_false h
      have e1:lo=a:=by omega
      have e2:hi=m:=by omega
      subst e1 e2
      exact wp_go (wp_go (wp_join rfl hj5))
    ·have hp:=part_of hO hQ (by omega) h1 h2 f1 f2 hmid hlh hs
     obtain ⟨x0,x1,x2,x3,x4⟩:=part_cross hO (by omega) f1 f2 hp e1
     have hQ1:=hQ.turn t1 (by omega)
     have hQ2:=hQ1.turn t2 (by omega)
     exact halves (by omega) (by omega) x0 t2 t3 (s2 Q hO hQ1 x1 x2) (s3 Q hO hQ2 (x3.congr fun i q1 q2=>t2.out i (.inr q1)) (x4.congr fun i q1 q2=>t2.out i (.inr (by omega))))

end Go.Ax
