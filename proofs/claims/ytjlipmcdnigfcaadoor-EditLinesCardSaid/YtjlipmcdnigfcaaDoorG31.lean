/- The stable sort as a whole. -/
import Derived.Test.YtjlipmcdnigfcaaDoorG30
set_option linter.unusedVariables false
set_option linter.unusedSimpArgs false
set_option linter.unusedSectionVars false
namespace Go.Ax
open Go.Proofs Go.RowKit
set_option maxRecDepth 100000

inductive Runs (c:Meta→Meta→Int) (L:List Meta) (w n:Nat):Nat→Prop
 | done {a:Nat}:n≤a→Runs c L w n a
 | step {a:Nat}:Sorted c L a (min (a+w) n)→Runs c L w n (a+w)→Runs c L w n a

theorem Runs.congr {c:Meta→Meta→Int} {L L':List Meta} {w n a:Nat} (h:Runs c L w n a):(∀ i,a≤i→i<n→at' L' i=at' L i)→Runs c L' w n a:=by
 induction h with
 | done h=>exact fun _=> .done h
 | step h1 _ ih=>exact fun e=> .step (h1.congr fun i q1 q2=>e i q1 (by omega)) (ih fun i q1 q2=>e i (by omega) q2)

theorem Runs.all {c:Meta→Meta→Int} {L:List Meta} {w n:Nat} (h:Runs c L w n 0) (hw:n≤w):Sorted c L 0 n:=by
 cases h with
 | done h=>exact fun p q h1 h2 h3=>by omega
 | step h1 _=>exact h1.sub (Nat.le_refl _) (by omega)

theorem Runs.next {c:Meta→Meta→Int} {L:List Meta} {w n a:Nat} (h:Runs c L w n a) (ha:a<n):Sorted c L a (min (a+w) n)∧Runs c L w n (a+w):=by
 cases h with
 | done h=>omega
 | step h1 h2=>exact ⟨h1,h2⟩
def R45ip (Γ:Env) (c:Meta→Meta→Int) (g:Nat):RSpec:=fun args B r B'=>∃ k,R45p Γ c g k args B r B'
theorem R45ip_ok {Γ:Env} (hΓ:∀ f,SoundF DP f (Γ f)) (c:Meta→Meta→Int) (g:Nat):SoundR DP 114 (R45ip Γ c g):=fun args B r B' ⟨k,h⟩=>R45p_ok hΓ c g k args B r B' h
def ΔCp (Γ:Env) (c:Meta→Meta→Int) (g:Nat):REnv:=fun f=>bif Nat.beq f 113 then R44p Γ c g else bif Nat.beq f 114 then R45ip Γ c g else fun _ _ _ _=>False
theorem ΔCp_ok {Γ:Env} (hΓ:∀ f,SoundF DP f (Γ f)) (c:Meta→Meta→Int) (g:Nat):∀ f,SoundR DP f (ΔCp Γ c g f):=fun f=>by
 unfold ΔCp
 cases h:Nat.beq f 113 with
 | true=>have:=Nat.eq_of_beq_eq_true h; subst this; exact R44p_ok hΓ c g
 | false=>
  cases h:Nat.beq f 114 with
  | true=>have:=Nat.eq_of_beq_eq_true h; subst this; exact R45ip_ok hΓ c g
  | false=>exact .none f

def R40p (Γ:Env) (c:Meta→Meta→Int) (g:Nat):RSpec:=fun args B r B'=>∃  (n:Nat) (L:List Meta) (m:Int),args= [.rs 0 0 5 0 n,vi m, .fn g []]∧B= [metaE.bx 0 L]∧(T40p Γ (ΔCp Γ c g) c g n L m).wp fun _ st=>tk st.1 0=r∧st.2=B'
theorem R40p_ok {Γ:Env} (hΓ:∀ f,SoundF DP f (Γ f)) (c:Meta→Meta→Int) (g:Nat):SoundR DP 94 (R40p Γ c g):=sound_genT (Γ:=Γ) (Δ:=ΔCp Γ c g) (fn:=Tryd.f94) mixedD hΓ (ΔCp_ok hΓ c g) (by kernel_rfl) (by kernel_rfl) (by kernel_rfl) (by
 rintro args B r B' ⟨n,L,m,rfl,rfl,h⟩
 exact ⟨rfl,_,T40p_chk Γ _ c g n L m,h⟩)

theorem S40pl1 {Γ:Env} {c:Meta→Meta→Int} {g:Nat} (hc:Cmpp Γ c g) {n:Nat} (hN:n≤1000000):∀ (d a:Nat) (L:List Meta),n - a≤d→a≤n→L.length=n →
  ∃ (a':Nat) (L1 L2:List Meta),Rounds (T40p_l1_e g n n) (T40p_l1_x g n n) noX (fun s=>(T40p_l1_b (ΔCp Γ c g) g n n s).wp) (L,(a:Int),((a+20:Nat):Int)) (.inl ((a':Int),L1)) ∧
   R44p Γ c g [.rs 0 0 5 0 n,vi a',vi n, .fn g []] [metaE.bx 0 L1] (.tup []) [metaE.bx 0 L2]∧Turn L L2 a n∧∀ Q,Ordr c Q→AllQ Q L→Runs c L2 20 n a
 | d,a,L,hd,ha,hL=>by
  by_cases hb:a+20≤n
  ·match d,hd with
   | 0,hd=>omega
   | d+1,hd=>
    obtain ⟨L0,q1,q2,q3⟩:=S44p hc (L:=L) (a:=a) (b:=a+20) hN hL (by omega) hb
    obtain ⟨a',L1,L2,p1,p2,p3,p4⟩:=S40pl1 hc hN d (a+20) L0 (by omega) hb (by rw[q2.len,hL])
    refine ⟨a',L1,L2, .next ?_ p1,p2,(q2.wide (Nat.le_refl _) hb).trans (p3.wide (by omega) (Nat.le_refl _)),fun Q hO hQ=> .step ?_ (p4 Q hO (hQ.turn q2 (by omega)))⟩
    ·unfold T40p_l1_b
     exact wp_sp (fun _=>wp_callx L0 q1 (wp_i64 (by dsimp only; omega) (wp_leaf rfl ⟨rfl,rfl⟩))) (fun h=>by have:=of_decide_eq_false h; dsimp only at this; omega)
    ·have:=q3 Q hO hQ
     rw[show min (a+20) n=a+20 by omega]
     exact this.congr fun i e1 e2=>p3.out i (.inl e2)
  ·obtain ⟨L2,q1,q2,q3⟩:=S44p hc (L:=L) (a:=a) (b:=n) hN hL ha (Nat.le_refl _)
   refine ⟨a,L,L2, .done (by simp[T40p_l1_x]) ?_,q1,q2,fun Q hO hQ=> .step ?_ (.done (by omega))⟩
   ·unfold T40p_l1_b
    exact wp_sp (fun h=>by have:=of_decide_eq_true h; dsimp only at this; omega) (fun _=>wp_leaf rfl ⟨rfl,rfl⟩)
   ·rw[show min (a+20) n=n by omega]
    exact q3 Q hO hQ

theorem S40pl3 {Γ:Env} {c:Meta→Meta→Int} {g:Nat} (hc:Cmpp Γ c g) {n w:Nat} {L0:List Meta} (hN:n≤1000000) (hw:0<w) (hwn:w<n):∀ (d a:Nat) (L:List Meta),n - a≤d→a≤n→L.length=n →
  ∃ (a':Nat) (L1 L2:List Meta),Rounds (T40p_l3_e g n n (L0,(w:Int))) (T40p_l3_x g n n (L0,(w:Int))) noX (fun s=>(T40p_l3_b (ΔCp Γ c g) g n n (L0,(w:Int)) s).wp) (L,(a:Int),((a+2*w:Nat):Int)) (.inl ((a':Int),L1))∧a'≤n ∧
   ((a'+w<n→R45ip Γ c g [.rs 0 0 5 0 n,vi a',vi (a'+w:Nat),vi n, .fn g []] [metaE.bx 0 L1] (.tup []) [metaE.bx 0 L2])∧(¬a'+w<n→L2=L1))∧Turn L L2 a n∧∀ Q,Ordr c Q→AllQ Q L→Runs c L w n a→Runs c L2 (2*w) n a
 | d,a,L,hd,ha,hL=>by
  by_cases hb:a+2*w≤n
  ·match d,hd with
   | 0,hd=>omega
   | d+1,hd=>
    obtain ⟨L3,q1,q2,q3⟩:=S45p hc hN (2*w) a (a+w) (a+2*w) L hL (by omega) (by omega) hb (by omega)
    obtain ⟨a',L1,L2,p1,p2,p3,p4,p5⟩:=S40pl3 hc (L0:=L0) hN hw hwn d (a+2*w) L3 (by omega) hb (by rw[q2.len,hL])
    refine ⟨a',L1,L2, .next ?_ p1,p2,p3,(q2.wide (Nat.le_refl _) hb).trans (p4.wide (by omega) (Nat.le_refl _)),fun Q hO hQ hr=>?_⟩
    ·unfold T40p_l3_b
     dsimp only
     rw[show ((a:Int)+(w:Int))=((a+w:Nat):Int) by omega]
     exact wp_sp (fun _=>wp_i64 (by omega) (wp_callx L3 ⟨_,q1⟩ (wp_i64 (by omega) (wp_i64 (by omega) (wp_leaf rfl ⟨rfl,rfl⟩))))) (fun h=>by have:=of_decide_eq_false h; omega)
    ·obtain ⟨s1,hr1⟩:=hr.next (by omega)
     obtain ⟨s2,hr2⟩:=hr1.next (by omega)
     rw[show min (a+w) n=a+w by omega] at s1
     rw[show min (a+w+w) n=a+2*w by omega] at s2
     rw[show a+w+w=a+2*w by omega] at hr2
     refine .step ?_ (p5 Q hO (hQ.turn q2 (by omega)) (hr2.congr fun i e1 e2=>q2.out i (.inr e1)))
     rw[show min (a+2*w) n=a+2*w by omega]
     exact (q3 Q hO hQ s1 s2).congr fun i e1 e2=>p4.out i (.inl e2)
  ·have hdone:Rounds (T40p_l3_e g n n (L0,(w:Int))) (T40p_l3_x g n n (L0,(w:Int))) noX (fun s=>(T40p_l3_b (ΔCp Γ c g) g n n (L0,(w:Int)) s).wp) (L,(a:Int),((a+2*w:Nat):Int)) (.inl ((a:Int),L)):=by
    refine .done (by simp[T40p_l3_x]) ?_
    unfold T40p_l3_b
    exact wp_sp (fun h=>by have:=of_decide_eq_true h; dsimp only at this; omega) (fun _=>wp_leaf rfl ⟨rfl,rfl⟩)
   by_cases ht:a+w<n
   ·obtain ⟨L3,q1,q2,q3⟩:=S45p hc hN n a (a+w) n L hL (by omega) ht (Nat.le_refl _) (by omega)
    refine ⟨a,L,L3,hdone,ha,⟨fun _=>⟨_,q1⟩,fun hn=>absurd ht hn⟩,q2,fun Q hO hQ hr=> .step ?_ (.done (by omega))⟩
    obtain ⟨s1,hr1⟩:=hr.next (by omega)
    obtain ⟨s2,hr2⟩:=hr1.next (by omega)
    rw[show min (a+w) n=a+w by omega] at s1
    rw[show min (a+w+w) n=n by omega] at s2
    rw[show min (a+2*w) n=n by omega]
    exact q3 Q hO hQ s1 s2
   ·refine ⟨a,L,L,hdone,ha,⟨fun hn=>absurd hn ht,fun _=>rfl⟩, .refl _ _ _,fun Q hO hQ hr=>?_⟩
    by_cases han:a<n
    ·obtain ⟨s1,_⟩:=hr.next han
     rw[show min (a+w) n=n by omega] at s1
     exact .step (s1.sub (Nat.le_refl _) (by omega)) (.done (by omega))
    ·exact .done (by omega)

theorem S40pl2 {Γ:Env} {c:Meta→Meta→Int} {g:Nat} (hc:Cmpp Γ c g) {n:Nat} (hN:n≤1000000):∀ (d w:Nat) (L:List Meta),n - w≤d→0<w→L.length=n →
  ∃ L',Rounds (T40p_l2_e g n n) (T40p_l2_x) noX (fun s=>(T40p_l2_b (ΔCp Γ c g) g n n s).wp) (L,(w:Int)) (.inl L')∧Turn L L' 0 n∧∀ Q,Ordr c Q→AllQ Q L→Runs c L w n 0→Sorted c L' 0 n
 | d,w,L,hd,hw,hL=>by
  by_cases hwn:w<n
  ·match d,hd with
   | 0,hd=>omega
   | d+1,hd=>
    obtain ⟨a',L1,L2,p1,p2,p3,p4,p5⟩:=S40pl3 hc (L0:=L) hN hw hwn n 0 L (by omega) (by omega) hL
    rw[Nat.zero_add] at p1
    obtain ⟨L',q1,q2,q3⟩:=S40pl2 hc hN d (2*w) L2 (by omega) (by omega) (by rw[p4.len,hL])
    refine ⟨L', .next ?_ q1,p4.trans q2,fun Q hO hQ hr=>q3 Q hO (hQ.turn p4 (by omega)) (p5 Q hO hQ hr)⟩
    unfold T40p_l2_b
    dsimp only
    refine wp_sp (fun _=>wp_i64 (by omega) (wp_loop _ rfl p1 ?_)) (fun h=>by have:=of_decide_eq_false h; omega)
    rw[show ((a':Int)+(w:Int))=((a'+w:Nat):Int) by omega]
    have hwi:((w:Int)*2)=((2*w:Nat):Int):=by omega
    refine wp_i64 (by omega) (wp_sp (fun h=>?_) (fun h=>?_))
    ·have h:=of_decide_eq_true h
     refine wp_callx L2 (p3.1 (by omega)) (wp_i64 (by omega) (wp_leaf rfl ⟨rfl,?_⟩))
     rw[hwi]
    ·have h:=of_decide_eq_false h
     have e:=p3.2 (by omega)
     subst e
     refine wp_i64 (by omega) (wp_leaf rfl ⟨rfl,?_⟩)
     rw[hwi]
  ·refine ⟨L, .done (by simp[T40p_l2_x]) ?_, .refl _ _ _,fun Q hO hQ hr=>hr.all (by omega)⟩
   unfold T40p_l2_b
   exact wp_sp (fun h=>by have:=of_decide_eq_true h; dsimp only at this; omega) (fun _=>wp_leaf rfl ⟨rfl,rfl⟩)

theorem S40p {Γ:Env} {c:Meta→Meta→Int} {g:Nat} (hc:Cmpp Γ c g) {n:Nat} {L:List Meta} (hN:n≤1000000) (hL:L.length=n):
  ∃ L',R40p Γ c g [.rs 0 0 5 0 n,vi n, .fn g []] [metaE.bx 0 L] (.tup []) [metaE.bx 0 L']∧Turn L L' 0 n∧∀ Q,Ordr c Q→AllQ Q L→Sorted c L' 0 n:=by
 obtain ⟨a',L1,L2,p1,p2,p3,p4⟩:=S40pl1 hc hN n 0 L (by omega) (by omega) hL
 obtain ⟨L',q1,q2,q3⟩:=S40pl2 hc hN n 20 L2 (by omega) (by omega) (by rw[p3.len,hL])
 refine ⟨L',⟨n,L,n,rfl,rfl,?_⟩,p3.trans q2,fun Q hO hQ=>q3 Q hO (hQ.turn p3 (by omega)) (p4 Q hO hQ)⟩
 unfold T40p
 exact wp_loop _ rfl p1 (wp_callx L2 p2 (wp_loop _ rfl q1 (wp_leaf rfl ⟨rfl,rfl⟩)))

def ΔDp (Γ:Env) (c:Meta→Meta→Int) (g:Nat):REnv:=fun f=>bif Nat.beq f 94 then R40p Γ c g else fun _ _ _ _=>False
theorem ΔDp_ok {Γ:Env} (hΓ:∀ f,SoundF DP f (Γ f)) (c:Meta→Meta→Int) (g:Nat):∀ f,SoundR DP f (ΔDp Γ c g f):=fun f=>by
 unfold ΔDp
 cases h:Nat.beq f 94 with
 | true=>have:=Nat.eq_of_beq_eq_true h; subst this; exact R40p_ok hΓ c g
 | false=>exact .none f
def R32p (Γ:Env) (c:Meta→Meta→Int) (g:Nat):RSpec:=fun args B r B'=>∃  (n:Nat) (L:List Meta),args= [.rs 0 0 5 0 n, .fn g []]∧B= [metaE.bx 0 L]∧(T32p Γ (ΔDp Γ c g) c g n L).wp fun _ st=>tk st.1 0=r∧st.2=B'
theorem R32p_ok {Γ:Env} (hΓ:∀ f,SoundF DP f (Γ f)) (c:Meta→Meta→Int) (g:Nat):SoundR DP 71 (R32p Γ c g):=sound_genT (Γ:=Γ) (Δ:=ΔDp Γ c g) (fn:=Tryd.f71) mixedD hΓ (ΔDp_ok hΓ c g) (by kernel_rfl) (by kernel_rfl) (by kernel_rfl) (by
 rintro args B r B' ⟨n,L,rfl,rfl,h⟩
 exact ⟨rfl,_,T32p_chk Γ _ c g n L,h⟩)

theorem S32p {Γ:Env} {c:Meta→Meta→Int} {g:Nat} (hc:Cmpp Γ c g) {L:List Meta} (hN:L.length≤1000000):
  ∃ L',R32p Γ c g [.rs 0 0 5 0 L.length, .fn g []] [metaE.bx 0 L] (.tup []) [metaE.bx 0 L']∧L'.Perm L∧∀ Q,Ordr c Q→(∀ x∈L,Q x)→Sorted c L' 0 L.length:=by
 obtain ⟨L',q1,q2,q3⟩:=S40p hc hN (L:=L) rfl
 refine ⟨L',⟨L.length,L,rfl,rfl,?_⟩,q2.perm,fun Q hO hQ=>q3 Q hO fun i hi=>hQ _ (List.mem_of_getElem? (at_get hi))⟩
 unfold T32p
 exact wp_callx L' q1 (wp_leaf rfl ⟨rfl,rfl⟩)
def R45iq (Γ:Env) (c:Meta→Meta→Int) (g:Nat):RSpec:=fun args B r B'=>∃ k,R45q Γ c g k args B r B'
theorem R45iq_ok {Γ:Env} (hΓ:∀ f,SoundF DP f (Γ f)) (c:Meta→Meta→Int) (g:Nat):SoundR DP 114 (R45iq Γ c g):=fun args B r B' ⟨k,h⟩=>R45q_ok hΓ c g k args B r B' h
def ΔCq (Γ:Env) (c:Meta→Meta→Int) (g:Nat):REnv:=fun f=>bif Nat.beq f 113 then R44q Γ c g else bif Nat.beq f 114 then R45iq Γ c g else fun _ _ _ _=>False
theorem ΔCq_ok {Γ:Env} (hΓ:∀ f,SoundF DP f (Γ f)) (c:Meta→Meta→Int) (g:Nat):∀ f,SoundR DP f (ΔCq Γ c g f):=fun f=>by
 unfold ΔCq
 cases h:Nat.beq f 113 with
 | true=>have:=Nat.eq_of_beq_eq_true h; subst this; exact R44q_ok hΓ c g
 | false=>
  cases h:Nat.beq f 114 with
  | true=>have:=Nat.eq_of_beq_eq_true h; subst this; exact R45iq_ok hΓ c g
  | false=>exact .none f

def R40q (Γ:Env) (c:Meta→Meta→Int) (g:Nat):RSpec:=fun args B r B'=>∃  (lv:Int) (n:Nat) (L:List Meta) (m:Int),args= [.rs 0 0 5 0 n,vi m, .fn g [.ptr 1 0 0]]∧B= [metaE.bx 0 L, .cells false 0 [vi lv]]∧(T40q Γ (ΔCq Γ c g) c g lv n L m).wp fun _ st=>tk st.1 0=r∧st.2=B'
theorem R40q_ok {Γ:Env} (hΓ:∀ f,SoundF DP f (Γ f)) (c:Meta→Meta→Int) (g:Nat):SoundR DP 94 (R40q Γ c g):=sound_genT (Γ:=Γ) (Δ:=ΔCq Γ c g) (fn:=Tryd.f94) mixedD hΓ (ΔCq_ok hΓ c g) (by kernel_rfl) (by kernel_rfl) (by kernel_rfl) (by
 rintro args B r B' ⟨lv,n,L,m,rfl,rfl,h⟩
 exact ⟨rfl,_,T40q_chk Γ _ c g lv n L m,h⟩)

theorem S40ql1 {Γ:Env} {c:Meta→Meta→Int} {g:Nat} (lv:Int) (hc:Cmpq Γ c g lv) {n:Nat} (hN:n≤1000000):∀ (d a:Nat) (L:List Meta),n - a≤d→a≤n→L.length=n →
  ∃ (a':Nat) (L1 L2:List Meta),Rounds (T40q_l1_e g lv n n) (T40q_l1_x g lv n n) noX (fun s=>(T40q_l1_b (ΔCq Γ c g) g lv n n s).wp) (L,(a:Int),((a+20:Nat):Int)) (.inl ((a':Int),L1)) ∧
   R44q Γ c g [.rs 0 0 5 0 n,vi a',vi n, .fn g [.ptr 1 0 0]] [metaE.bx 0 L1, .cells false 0 [vi lv]] (.tup []) [metaE.bx 0 L2, .cells false 0 [vi lv]]∧Turn L L2 a n∧∀ Q,Ordr c Q→AllQ Q L→Runs c L2 20 n a
 | d,a,L,hd,ha,hL=>by
  by_cases hb:a+20≤n
  ·match d,hd with
   | 0,hd=>omega
   | d+1,hd=>
    obtain ⟨L0,q1,q2,q3⟩:=S44q lv hc (L:=L) (a:=a) (b:=a+20) hN hL (by omega) hb
    obtain ⟨a',L1,L2,p1,p2,p3,p4⟩:=S40ql1 lv hc hN d (a+20) L0 (by omega) hb (by rw[q2.len,hL])
    refine ⟨a',L1,L2, .next ?_ p1,p2,(q2.wide (Nat.le_refl _) hb).trans (p3.wide (by omega) (Nat.le_refl _)),fun Q hO hQ=> .step ?_ (p4 Q hO (hQ.turn q2 (by omega)))⟩
    ·unfold T40q_l1_b
     exact wp_sp (fun _=>wp_callx L0 q1 (wp_i64 (by dsimp only; omega) (wp_leaf rfl ⟨rfl,rfl⟩))) (fun h=>by have:=of_decide_eq_false h; dsimp only at this; omega)
    ·have:=q3 Q hO hQ
     rw[show min (a+20) n=a+20 by omega]
     exact this.congr fun i e1 e2=>p3.out i (.inl e2)
  ·obtain ⟨L2,q1,q2,q3⟩:=S44q lv hc (L:=L) (a:=a) (b:=n) hN hL ha (Nat.le_refl _)
   refine ⟨a,L,L2, .done (by simp[T40q_l1_x]) ?_,q1,q2,fun Q hO hQ=> .step ?_ (.done (by omega))⟩
   ·unfold T40q_l1_b
    exact wp_sp (fun h=>by have:=of_decide_eq_true h; dsimp only at this; omega) (fun _=>wp_leaf rfl ⟨rfl,rfl⟩)
   ·rw[show min (a+20) n=n by omega]
    exact q3 Q hO hQ

theorem S40ql3 {Γ:Env} {c:Meta→Meta→Int} {g:Nat} (lv:Int) (hc:Cmpq Γ c g lv) {n w:Nat} {L0:List Meta} (hN:n≤1000000) (hw:0<w) (hwn:w<n):∀ (d a:Nat) (L:List Meta),n - a≤d→a≤n→L.length=n →
  ∃ (a':Nat) (L1 L2:List Meta),Rounds (T40q_l3_e g lv n n (L0,(w:Int))) (T40q_l3_x g lv n n (L0,(w:Int))) noX (fun s=>(T40q_l3_b (ΔCq Γ c g) g lv n n (L0,(w:Int)) s).wp) (L,(a:Int),((a+2*w:Nat):Int)) (.inl ((a':Int),L1))∧a'≤n ∧
   ((a'+w<n→R45iq Γ c g [.rs 0 0 5 0 n,vi a',vi (a'+w:Nat),vi n, .fn g [.ptr 1 0 0]] [metaE.bx 0 L1, .cells false 0 [vi lv]] (.tup []) [metaE.bx 0 L2, .cells false 0 [vi lv]])∧(¬a'+w<n→L2=L1))∧Turn L L2 a n∧∀ Q,Ordr c Q→AllQ Q L→Runs c L w n a→Runs c L2 (2*w) n a
 | d,a,L,hd,ha,hL=>by
  by_cases hb:a+2*w≤n
  ·match d,hd with
   | 0,hd=>omega
   | d+1,hd=>
    obtain ⟨L3,q1,q2,q3⟩:=S45q lv hc hN (2*w) a (a+w) (a+2*w) L hL (by omega) (by omega) hb (by omega)
    obtain ⟨a',L1,L2,p1,p2,p3,p4,p5⟩:=S40ql3 lv hc (L0:=L0) hN hw hwn d (a+2*w) L3 (by omega) hb (by rw[q2.len,hL])
    refine ⟨a',L1,L2, .next ?_ p1,p2,p3,(q2.wide (Nat.le_refl _) hb).trans (p4.wide (by omega) (Nat.le_refl _)),fun Q hO hQ hr=>?_⟩
    ·unfold T40q_l3_b
     dsimp only
     rw[show ((a:Int)+(w:Int))=((a+w:Nat):Int) by omega]
     exact wp_sp (fun _=>wp_i64 (by omega) (wp_callx L3 ⟨_,q1⟩ (wp_i64 (by omega) (wp_i64 (by omega) (wp_leaf rfl ⟨rfl,rfl⟩))))) (fun h=>by have:=of_decide_eq_false h; omega)
    ·obtain ⟨s1,hr1⟩:=hr.next (by omega)
     obtain ⟨s2,hr2⟩:=hr1.next (by omega)
     rw[show min (a+w) n=a+w by omega] at s1
     rw[show min (a+w+w) n=a+2*w by omega] at s2
     rw[show a+w+w=a+2*w by omega] at hr2
     refine .step ?_ (p5 Q hO (hQ.turn q2 (by omega)) (hr2.congr fun i e1 e2=>q2.out i (.inr e1)))
     rw[show min (a+2*w) n=a+2*w by omega]
     exact (q3 Q hO hQ s1 s2).congr fun i e1 e2=>p4.out i (.inl e2)
  ·have hdone:Rounds (T40q_l3_e g lv n n (L0,(w:Int))) (T40q_l3_x g lv n n (L0,(w:Int))) noX (fun s=>(T40q_l3_b (ΔCq Γ c g) g lv n n (L0,(w:Int)) s).wp) (L,(a:Int),((a+2*w:Nat):Int)) (.inl ((a:Int),L)):=by
    refine .done (by simp[T40q_l3_x]) ?_
    unfold T40q_l3_b
    exact wp_sp (fun h=>by have:=of_decide_eq_true h; dsimp only at this; omega) (fun _=>wp_leaf rfl ⟨rfl,rfl⟩)
   by_cases ht:a+w<n
   ·obtain ⟨L3,q1,q2,q3⟩:=S45q lv hc hN n a (a+w) n L hL (by omega) ht (Nat.le_refl _) (by omega)
    refine ⟨a,L,L3,hdone,ha,⟨fun _=>⟨_,q1⟩,fun hn=>absurd ht hn⟩,q2,fun Q hO hQ hr=> .step ?_ (.done (by omega))⟩
    obtain ⟨s1,hr1⟩:=hr.next (by omega)
    obtain ⟨s2,hr2⟩:=hr1.next (by omega)
    rw[show min (a+w) n=a+w by omega] at s1
    rw[show min (a+w+w) n=n by omega] at s2
    rw[show min (a+2*w) n=n by omega]
    exact q3 Q hO hQ s1 s2
   ·refine ⟨a,L,L,hdone,ha,⟨fun hn=>absurd hn ht,fun _=>rfl⟩, .refl _ _ _,fun Q hO hQ hr=>?_⟩
    by_cases han:a<n
    ·obtain ⟨s1,_⟩:=hr.next han
     rw[show min (a+w) n=n by omega] at s1
     exact .step (s1.sub (Nat.le_refl _) (by omega)) (.done (by omega))
    ·exact .done (by omega)

theorem S40ql2 {Γ:Env} {c:Meta→Meta→Int} {g:Nat} (lv:Int) (hc:Cmpq Γ c g lv) {n:Nat} (hN:n≤1000000):∀ (d w:Nat) (L:List Meta),n - w≤d→0<w→L.length=n →
  ∃ L',Rounds (T40q_l2_e g lv n n) (T40q_l2_x lv) noX (fun s=>(T40q_l2_b (ΔCq Γ c g) g lv n n s).wp) (L,(w:Int)) (.inl L')∧Turn L L' 0 n∧∀ Q,Ordr c Q→AllQ Q L→Runs c L w n 0→Sorted c L' 0 n
 | d,w,L,hd,hw,hL=>by
  by_cases hwn:w<n
  ·match d,hd with
   | 0,hd=>omega
   | d+1,hd=>
    obtain ⟨a',L1,L2,p1,p2,p3,p4,p5⟩:=S40ql3 lv hc (L0:=L) hN hw hwn n 0 L (by omega) (by omega) hL
    rw[Nat.zero_add] at p1
    obtain ⟨L',q1,q2,q3⟩:=S40ql2 lv hc hN d (2*w) L2 (by omega) (by omega) (by rw[p4.len,hL])
    refine ⟨L', .next ?_ q1,p4.trans q2,fun Q hO hQ hr=>q3 Q hO (hQ.turn p4 (by omega)) (p5 Q hO hQ hr)⟩
    unfold T40q_l2_b
    dsimp only
    refine wp_sp (fun _=>wp_i64 (by omega) (wp_loop _ rfl p1 ?_)) (fun h=>by have:=of_decide_eq_false h; omega)
    rw[show ((a':Int)+(w:Int))=((a'+w:Nat):Int) by omega]
    have hwi:((w:Int)*2)=((2*w:Nat):Int):=by omega
    refine wp_i64 (by omega) (wp_sp (fun h=>?_) (fun h=>?_))
    ·have h:=of_decide_eq_true h
     refine wp_callx L2 (p3.1 (by omega)) (wp_i64 (by omega) (wp_leaf rfl ⟨rfl,?_⟩))
     rw[hwi]
    ·have h:=of_decide_eq_false h
     have e:=p3.2 (by omega)
     subst e
     refine wp_i64 (by omega) (wp_leaf rfl ⟨rfl,?_⟩)
     rw[hwi]
  ·refine ⟨L, .done (by simp[T40q_l2_x]) ?_, .refl _ _ _,fun Q hO hQ hr=>hr.all (by omega)⟩
   unfold T40q_l2_b
   exact wp_sp (fun h=>by have:=of_decide_eq_true h; dsimp only at this; omega) (fun _=>wp_leaf rfl ⟨rfl,rfl⟩)

theorem S40q {Γ:Env} {c:Meta→Meta→Int} {g:Nat} (lv:Int) (hc:Cmpq Γ c g lv) {n:Nat} {L:List Meta} (hN:n≤1000000) (hL:L.length=n):
  ∃ L',R40q Γ c g [.rs 0 0 5 0 n,vi n, .fn g [.ptr 1 0 0]] [metaE.bx 0 L, .cells false 0 [vi lv]] (.tup []) [metaE.bx 0 L', .cells false 0 [vi lv]]∧Turn L L' 0 n∧∀ Q,Ordr c Q→AllQ Q L→Sorted c L' 0 n:=by
 obtain ⟨a',L1,L2,p1,p2,p3,p4⟩:=S40ql1 lv hc hN n 0 L (by omega) (by omega) hL
 obtain ⟨L',q1,q2,q3⟩:=S40ql2 lv hc hN n 20 L2 (by omega) (by omega) (by rw[p3.len,hL])
 refine ⟨L',⟨lv,n,L,n,rfl,rfl,?_⟩,p3.trans q2,fun Q hO hQ=>q3 Q hO (hQ.turn p3 (by omega)) (p4 Q hO hQ)⟩
 unfold T40q
 exact wp_loop _ rfl p1 (wp_callx L2 p2 (wp_loop _ rfl q1 (wp_leaf rfl ⟨rfl,rfl⟩)))

def ΔDq (Γ:Env) (c:Meta→Meta→Int) (g:Nat):REnv:=fun f=>bif Nat.beq f 94 then R40q Γ c g else fun _ _ _ _=>False
theorem ΔDq_ok {Γ:Env} (hΓ:∀ f,SoundF DP f (Γ f)) (c:Meta→Meta→Int) (g:Nat):∀ f,SoundR DP f (ΔDq Γ c g f):=fun f=>by
 unfold ΔDq
 cases h:Nat.beq f 94 with
 | true=>have:=Nat.eq_of_beq_eq_true h; subst this; exact R40q_ok hΓ c g
 | false=>exact .none f
def R32q (Γ:Env) (c:Meta→Meta→Int) (g:Nat):RSpec:=fun args B r B'=>∃  (lv:Int) (n:Nat) (L:List Meta),args= [.rs 0 0 5 0 n, .fn g [.ptr 1 0 0]]∧B= [metaE.bx 0 L, .cells false 0 [vi lv]]∧(T32q Γ (ΔDq Γ c g) c g lv n L).wp fun _ st=>tk st.1 0=r∧st.2=B'
theorem R32q_ok {Γ:Env} (hΓ:∀ f,SoundF DP f (Γ f)) (c:Meta→Meta→Int) (g:Nat):SoundR DP 71 (R32q Γ c g):=sound_genT (Γ:=Γ) (Δ:=ΔDq Γ c g) (fn:=Tryd.f71) mixedD hΓ (ΔDq_ok hΓ c g) (by kernel_rfl) (by kernel_rfl) (by kernel_rfl) (by
 rintro args B r B' ⟨lv,n,L,rfl,rfl,h⟩
 exact ⟨rfl,_,T32q_chk Γ _ c g lv n L,h⟩)

theorem S32q {Γ:Env} {c:Meta→Meta→Int} {g:Nat} (lv:Int) (hc:Cmpq Γ c g lv) {L:List Meta} (hN:L.length≤1000000):
  ∃ L',R32q Γ c g [.rs 0 0 5 0 L.length, .fn g [.ptr 1 0 0]] [metaE.bx 0 L, .cells false 0 [vi lv]] (.tup []) [metaE.bx 0 L', .cells false 0 [vi lv]]∧L'.Perm L∧∀ Q,Ordr c Q→(∀ x∈L,Q x)→Sorted c L' 0 L.length:=by
 obtain ⟨L',q1,q2,q3⟩:=S40q lv hc hN (L:=L) rfl
 refine ⟨L',⟨lv,L.length,L,rfl,rfl,?_⟩,q2.perm,fun Q hO hQ=>q3 Q hO fun i hi=>hQ _ (List.mem_of_getElem? (at_get hi))⟩
 unfold T32q
 exact wp_callx L' q1 (wp_leaf rfl ⟨rfl,rfl⟩)

end Go.Ax

namespace Go.Ax
open Go.Proofs Go.RowKit
set_option maxRecDepth 100000

def cOf (lv:Int) (x y:Meta):Int:=
 if lv == 0 then IntKind.i64.wrap (y.num - x.num) else if Op.bytesLess x.low.toList y.low.toList then -1 else if !(Op.bytesLess x.low.toList y.low.toList||(x.low.toList == y.low.toList)) then 1 else 0
def c31 (x y:Meta):Int:=IntKind.i64.wrap (x.num - y.num)
def idxIN (x:Int):List Int→Nat
 | []=>0
 | y::L=>if x == y then 0 else idxIN x L+1
def idxI (L:List Int) (x:Int):Int:=if idxIN x L<L.length then (idxIN x L:Int) else -1
def RI:List AV→AV→Prop:=fun args r=>∃ (L:List Int) (x:Int),L.length≤1000000∧args= [vl (L.map intE.f),vi x]∧r=vi (idxI L x)
noncomputable def g41:=relG RI
noncomputable def Γ41:Env:=envP [(95,g41)]

noncomputable def T33 (x:Meta) (y:Meta) (L:List Meta) (lv:Int):Tree:=
.sp 8 (lv == (0:Int)) (
.leaf ⟨[0],[(0,0,some (L.map metaE.f)),(1,0,none)]⟩ [rowC (L.map metaE.f)] .ret (some ([(0,vi (IntKind.i64.wrap (y.num - x.num)))],[metaE.bx 0 L, .cells false 0 ([vi lv])]))) (
.sp 19 (Op.bytesLess x.low.toList y.low.toList) (
.leaf ⟨[0],[(0,0,some (L.map metaE.f)),(1,0,none)]⟩ [rowC (L.map metaE.f)] .ret (some ([(0,vi (-1))],[metaE.bx 0 L, .cells false 0 ([vi lv])]))) (
.sp 25 (!(Op.bytesLess x.low.toList y.low.toList||(x.low.toList == y.low.toList))) (
.leaf ⟨[0],[(0,0,some (L.map metaE.f)),(1,0,none)]⟩ [rowC (L.map metaE.f)] .ret (some ([(0,vi 1)],[metaE.bx 0 L, .cells false 0 ([vi lv])]))) (
.leaf ⟨[0],[(0,0,some (L.map metaE.f)),(1,0,none)]⟩ [rowC (L.map metaE.f)] .ret (some ([(0,vi 0)],[metaE.bx 0 L, .cells false 0 ([vi lv])])))))

theorem T33_chk (x:Meta) (y:Meta) (L:List Meta) (lv:Int):fnC DP Γ0 Δ0 Tryd.f72 [(metaE.av x),(metaE.av y), .ptr 1 0 0] [metaE.bx 0 L, .cells false 0 ([vi lv])] (T33 x y L lv)=T33 x y L lv:=by kernel_rfl

noncomputable def T35 (x:Meta) (y:Meta):Tree:=
.leaf ⟨[0],[]⟩ [] .ret (some ([(0,vi (IntKind.i64.wrap (x.num - y.num)))],[]))

theorem T35_chk (x:Meta) (y:Meta):fnC DP Γ0 Δ0 Tryd.f74 [(metaE.av x),(metaE.av y)] [] (T35 x y)=T35 x y:=by kernel_rfl

noncomputable def T17_l1_e (v:Vers) (lv:Int) (s1:(List Meta)×Int):St:=([(3, .ptr 0 0 0),(5, .rs 1 0 5 0 s1.1.length),(9,vl (v.files.map metaE.f)),(10,vi (v.files.length:Int)),(11,vi s1.2)],[.cells false 0 ([vi lv]),metaE.bx 0 s1.1])
noncomputable def T17_l1_x (lv:Int) (x1:(List Meta)):AE×St:=((.exit 0),([(3, .ptr 0 0 0),(5, .rs 1 0 5 0 x1.length)],[.cells false 0 ([vi lv]),metaE.bx 0 x1]))
noncomputable def T17_l1_b (v:Vers) (lv:Int) (s1:(List Meta)×Int):Tree:=
.sp 12 (decide (s1.2<(v.files.length:Int))) (
.elem 13 (v.files.map metaE.f) metaE v.files s1.2 (fun e1=> .sp 18 (e1.level == lv) (
.app 22 (.row 1 ([vi e1.num,vi e1.level,vs e1.low,vs e1.high,vi e1.size])) s1.1.length (rowC (s1.1.map metaE.f)) metaE s1.1 ([e1]) (.int 23 (IntKind.i64.wrap (s1.2+1)) (s1.2+1) (.leaf ⟨[3,5,9,10,11],[(0,0,none),(1,1,some ((s1.1++([e1])).map metaE.f))]⟩ [rowC ((s1.1++([e1])).map metaE.f)] .normal (some (T17_l1_e v lv (s1.1++([e1]),s1.2+1)))))) (
.int 23 (IntKind.i64.wrap (s1.2+1)) (s1.2+1) (.leaf ⟨[3,5,9,10,11],[(0,0,none),(1,0,some (s1.1.map metaE.f))]⟩ [rowC (s1.1.map metaE.f)] .normal (some (T17_l1_e v lv (s1.1,s1.2+1))))))) (
.leaf ⟨[3,5],[(0,0,none),(1,0,some (s1.1.map metaE.f))]⟩ [rowC (s1.1.map metaE.f)] (.exit 0) (some (T17_l1_x lv s1.1).2))
noncomputable def T17 (Δ:REnv) (v:Vers) (lv:Int):Tree:=
.int 10 ((v.files.map metaE.f).length:Int) (v.files.length:Int) (.nilrow 5 5 (.loop ⟨[3,5,9,10,11],[(1,0,none),(2,0,some (([]:List Meta).map metaE.f))]⟩ [rowC (([]:List Meta).map metaE.f)] (some (T17_l1_e v lv (([]:List Meta),0))) (T17_l1_e v lv) (T17_l1_x lv) noX (([]:List Meta),0) (T17_l1_b v lv) (fun (x1:(List Meta))=> .callx (some 26) (fun (R2:List Meta)=>Δ 71 [.rs 1 0 5 0 x1.length, .fn 72 [.ptr 0 0 0]] [.cells false 0 ([vi lv]),metaE.bx 0 x1] (.tup []) [.cells false 0 ([vi lv]),metaE.bx 0 R2]) (fun (R2:List Meta)=> .tup []) (fun (R2:List Meta)=> [.cells false 0 ([vi lv]),metaE.bx 0 R2]) (fun (R2:List Meta)=> .leaf ⟨[0],[(1,0,some (R2.map metaE.f))]⟩ [rowC (R2.map metaE.f)] .ret (some ([(0, .rs 0 0 5 0 x1.length)],[metaE.bx 0 R2])))) (fun _=> .stuck)))

theorem T17_chk (Δ:REnv) (v:Vers) (lv:Int):fnC DP Γ0 Δ Tryd.f33 [.agg [vl (v.files.map metaE.f),vi v.log,vi v.next,vn .u64 v.seq],vi lv] [] (T17 Δ v lv)=T17 Δ v lv:=by kernel_rfl

noncomputable def T27 (m:Meta):Tree:=
.sp 5 (decide (m.num≥(1:Int))) (
.sp 9 (decide (m.num≤(1073741824:Int))) (
.sp 14 (decide (m.level≥(0:Int))) (
.sp 19 (decide (m.level<(6:Int))) (
.sp 24 (!(m.low.toList == (⟨#[]⟩:ByteArray).toList)) (
.sp 31 (Op.bytesLess m.low.toList m.high.toList||(m.low.toList == m.high.toList)) (
.sp 37 (decide ((m.low.size:Int)≤(128:Int))) (
.sp 43 (decide ((m.high.size:Int)≤(128:Int))) (
.sp 48 (decide (m.size≥(0:Int))) (
.leaf ⟨[0],[]⟩ [] .ret (some ([(0,vb (decide (m.size≤(67108864:Int))))],[]))) (
.leaf ⟨[0],[]⟩ [] .ret (some ([(0,vb false)],[])))) (
.leaf ⟨[0],[]⟩ [] .ret (some ([(0,vb false)],[])))) (
.leaf ⟨[0],[]⟩ [] .ret (some ([(0,vb false)],[])))) (
.leaf ⟨[0],[]⟩ [] .ret (some ([(0,vb false)],[])))) (
.leaf ⟨[0],[]⟩ [] .ret (some ([(0,vb false)],[])))) (
.leaf ⟨[0],[]⟩ [] .ret (some ([(0,vb false)],[])))) (
.leaf ⟨[0],[]⟩ [] .ret (some ([(0,vb false)],[])))) (
.leaf ⟨[0],[]⟩ [] .ret (some ([(0,vb false)],[])))) (
.leaf ⟨[0],[]⟩ [] .ret (some ([(0,vb false)],[])))

theorem T27_chk (m:Meta):fnC DP Γ0 Δ0 Tryd.f69 [(metaE.av m)] [] (T27 m)=T27 m:=by kernel_rfl

noncomputable def T41_l1_e (L:List Int) (x:Int) (s1:Int):St:=([(0,vl (L.map intE.f)),(1,vi x),(7,vi (L.length:Int)),(8,vi s1)],[])
noncomputable def T41_l1_x (x1:Int):AE×St:=(.ret,([(4,vi x1)],[]))
noncomputable def T41_l1_x' (y1:Unit):AE×St:=((.exit 0),([],[]))
noncomputable def T41_l1_b (L:List Int) (x:Int) (s1:Int):Tree:=
.sp 9 (decide (s1<(L.length:Int))) (
.elem 14 (L.map intE.f) intE L s1 (fun e1=> .sp 16 (x == e1) (
.leaf ⟨[4],[]⟩ [] .ret (some (T41_l1_x s1).2)) (
.int 18 (IntKind.i64.wrap (s1+1)) (s1+1) (.leaf ⟨[0,1,7,8],[]⟩ [] .normal (some (T41_l1_e L x (s1+1))))))) (
.leaf ⟨[],[]⟩ [] (.exit 0) (some (T41_l1_x' ()).2))
noncomputable def T41 (L:List Int) (x:Int):Tree:=
.int 7 ((L.map intE.f).length:Int) (L.length:Int) (.loop ⟨[0,1,7,8],[]⟩ [] (some (T41_l1_e L x 0)) (T41_l1_e L x) (T41_l1_x) (T41_l1_x') 0 (T41_l1_b L x) (fun (x1:Int)=> .leaf ⟨[0],[]⟩ [] .ret (some ([(0,vi x1)],[]))) (fun (y1:Unit)=> .leaf ⟨[0],[]⟩ [] .ret (some ([(0,vi (-1))],[]))))

theorem T41_chk (L:List Int) (x:Int):fnC DP Γ0 Δ0 Tryd.f95 [vl (L.map intE.f),vi x] [] (T41 L x)=T41 L x:=by kernel_rfl

noncomputable def T34 (L:List Int) (x:Int):Tree:=
.call 7 (g41 [vl (L.map intE.f),vi x]=some (vi (idxI L x))) (vi (idxI L x)) (.leaf ⟨[0],[]⟩ [] .ret (some ([(0,vb (decide ((idxI L x)≥(0:Int))))],[])))

theorem T34_chk (L:List Int) (x:Int):fnC DP Γ41 Δ0 Tryd.f73 [vl (L.map intE.f),vi x] [] (T34 L x)=T34 L x:=by kernel_rfl

end Go.Ax

namespace Go.Ax
open Go.Proofs Go.RowKit
set_option maxRecDepth 100000

theorem envP_ok {P:Program}:∀ {l:List (Nat×(List AV→Option AV))},(∀ p∈l,SoundF P p.1 (.pure p.2))→∀ f,SoundF P f (envP l f)
 | [],_=>envP_nil
 | _::_,h=>envP_cons (h _ (by simp)) (envP_ok fun p hp=>h p (by simp[hp]))
theorem envR_ok {P:Program}:∀ {l:List (Nat×RSpec)},(∀ p∈l,SoundR P p.1 p.2)→∀ f,SoundR P f (envR l f)
 | [],_=>envR_nil
 | _::_,h=>envR_cons (h _ (by simp)) (envR_ok fun p hp=>h p (by simp[hp]))

theorem SoundR.gen {P:Program} {f:Nat} {R:RSpec} (h:SoundR P f R):SoundF P f (.gen (relG2 fun args B r=>R args B r.1 r.2)):=fun args B r B' hs F ρ w us hI hA=>h args B r B' (relG2_some (show relG2 (fun args B r=>R args B r.1 r.2) args B=some (r,B') from hs)) F ρ w us hI hA

theorem av_inj {x y:Meta} (h:metaE.av x=metaE.av y):x=y:=by
 cases x; cases y
 simp[Enc.av,metaE,PV.cells] at h
 simp[h]

theorem T33_wp (x y:Meta) (L:List Meta) (lv:Int) {K:AE→St→Prop} (h:K .ret ([(0,vi (cOf lv x y))],[metaE.bx 0 L, .cells false 0 [vi lv]])):(T33 x y L lv).wp K:=by
 unfold cOf at h
 unfold T33
 repeat' first | refine wp_leaf rfl ?_ | refine wp_sp (fun _=>?_) (fun _=>?_) | refine wp_br (fun _=>?_) (fun _=>?_)
 all_goals simp_all

def R33:RSpec:=fun args B r B'=>∃ (x y:Meta) (L:List Meta) (lv:Int),args= [metaE.av x,metaE.av y, .ptr 1 0 0]∧B= [metaE.bx 0 L, .cells false 0 [vi lv]]∧r=vi (cOf lv x y)∧B'=B
theorem R33_ok:SoundR DP 72 R33:=sound_genT (Γ:=Γ0) (Δ:=Δ0) (fn:=Tryd.f72) mixedD Γ0_ok Δ0_ok (by kernel_rfl) (by kernel_rfl) (by kernel_rfl) (by
 rintro args B r B' ⟨x,y,L,lv,rfl,rfl,rfl,rfl⟩
 exact ⟨rfl,_,T33_chk x y L lv,T33_wp x y L lv ⟨rfl,rfl⟩⟩)

noncomputable def Γ33:Env:=fun f=>bif Nat.beq f 72 then .gen (relG2 fun args B r=>R33 args B r.1 r.2) else .none
theorem Γ33_ok:∀ f,SoundF DP f (Γ33 f):=fun f=>by
 unfold Γ33
 cases h:Nat.beq f 72 with
 | true=>have:=Nat.eq_of_beq_eq_true h; subst this; exact R33_ok.gen
 | false=>exact sound_none f

theorem row_inj {L M:List Meta} (h:rowC (L.map metaE.f)=rowC (M.map metaE.f)):L=M:=by
 have hl:L.length=M.length:=by
  have:=congrArg List.length h
  rw[metaE.elt.rowLen,metaE.elt.rowLen] at this
  have e:metaE.sz=5:=rfl
  rw[e] at this
  omega
 induction L generalizing M with
 | nil=>cases M with
  | nil=>rfl
  | cons y M=>simp at hl
 | cons x L ih=>
  cases M with
  | nil=>simp at hl
  | cons y M=>
   have e:∀ (z:Meta) (Y:List PV),rowC (metaE.f z::Y)=(metaE.f z).cells.map .p++rowC Y:=by
    intro z Y; unfold rowC; rw[List.flatMap_cons,List.map_append]
   rw[List.map_cons,List.map_cons,e,e] at h
   obtain ⟨h1,h2⟩:=List.append_inj h (by rw[List.length_map,List.length_map,metaE.size,metaE.size])
   have:=av_inj (congrArg AV.agg h1)
   subst this
   rw[ih h2 (by simpa using hl)]

theorem cmpOf (lv:Int):Cmpq Γ33 (cOf lv) 72 lv:=fun x y L=>by
 show relG2 (fun args B r=>R33 args B r.1 r.2) [metaE.av x,metaE.av y, .ptr 1 0 0] [metaE.bx 0 L, .cells false 0 [vi lv]]=some (vi (cOf lv x y),[metaE.bx 0 L, .cells false 0 [vi lv]])
 refine relG2_eq (fun args B r r' h h'=>?_) ⟨x,y,L,lv,rfl,rfl,rfl,rfl⟩
 obtain ⟨x1,y1,L1,lv1,e1,e2,e3,e4⟩:=h
 obtain ⟨x2,y2,L2,lv2,f1,f2,f3,f4⟩:=h'
 rw[e1] at f1
 rw[e2] at f2
 simp only[List.cons.injEq,and_true] at f1
 have hx:=av_inj f1.1
 have hy:=av_inj f1.2
 simp only[List.cons.injEq,Box.cells.injEq,and_true,true_and] at f2
 obtain ⟨_,hlv⟩:=f2
 have hlv:lv1=lv2:=by simpa using hlv
 subst hx hy hlv
 cases r; cases r'
 simp_all

theorem sort_ex (lv:Int) {L:List Meta} (h:L.length≤1000000):∃ L',R32q Γ33 (cOf lv) 72 [.rs 0 0 5 0 L.length, .fn 72 [.ptr 1 0 0]] [metaE.bx 0 L, .cells false 0 [vi lv]] (.tup []) [metaE.bx 0 L', .cells false 0 [vi lv]]∧L'.Perm L∧∀ Q,Ordr (cOf lv) Q→(∀ x∈L,Q x)→Sorted (cOf lv) L' 0 L.length:=
 S32q lv (cmpOf lv) h

open Classical in
/-- A list as the stable sort leaves it. -/
noncomputable def sortOf (lv:Int) (L:List Meta):List Meta:=if h:L.length≤1000000 then Classical.choose (sort_ex lv h) else L
theorem sortOf_spec (lv:Int) {L:List Meta} (h:L.length≤1000000):R32q Γ33 (cOf lv) 72 [.rs 0 0 5 0 L.length, .fn 72 [.ptr 1 0 0]] [metaE.bx 0 L, .cells false 0 [vi lv]] (.tup []) [metaE.bx 0 (sortOf lv L), .cells false 0 [vi lv]]∧(sortOf lv L).Perm L∧∀ Q,Ordr (cOf lv) Q→(∀ x∈L,Q x)→Sorted (cOf lv) (sortOf lv L) 0 L.length:=by
 unfold sortOf
 rw[dif_pos h]
 exact Classical.choose_spec (sort_ex lv h)

noncomputable def ofL (lv:Int) (files:List Meta):List Meta:=sortOf lv (files.filter fun m=>m.level == lv)

theorem ofL_perm (lv:Int) {files:List Meta} (h:files.length≤1000000):(ofL lv files).Perm (files.filter fun m=>m.level == lv):=(sortOf_spec lv (Nat.le_trans (List.length_filter_le _ _) h)).2.1
theorem ofL_len (lv:Int) {files:List Meta} (h:files.length≤1000000):(ofL lv files).length≤files.length:=by rw[(ofL_perm lv h).length_eq]; exact List.length_filter_le _ _

def R32a:RSpec:=fun args B r B'=>∃ lv,R32q Γ33 (cOf lv) 72 args B r B'
theorem R32a_ok:SoundR DP 71 R32a:=fun args B r B' ⟨lv,h⟩=>R32q_ok Γ33_ok (cOf lv) 72 args B r B' h
def Δ17:REnv:=fun f=>bif Nat.beq f 71 then liftR R32a else fun _ _ _ _=>False
theorem Δ17_ok:∀ f,SoundR DP f (Δ17 f):=fun f=>by
 unfold Δ17
 cases h:Nat.beq f 71 with
 | true=>have:=Nat.eq_of_beq_eq_true h; subst this; exact lift_sound R32a_ok
 | false=>exact .none f

theorem T17_l1 (v:Vers) (lv:Int) (hv:v.files.length≤1000000):∀ (suf pre:List Meta) (L:List Meta),v.files=pre++suf→L.length≤pre.length →
  Rounds (T17_l1_e v lv) (T17_l1_x lv) noX (fun s=>(T17_l1_b v lv s).wp) (L,(pre.length:Int)) (.inl (L++suf.filter fun m=>m.level == lv))
 | [],pre,L,h,hL=>by
  have e:v.files.length=pre.length:=by rw[h]; simp
  refine .done (by simp[T17_l1_x]) ?_
  unfold T17_l1_b
  rw[List.filter_nil,List.append_nil]
  exact wp_sp (fun h=>by have:=of_decide_eq_true h; dsimp only at this; omega) (fun _=>wp_leaf rfl ⟨rfl,rfl⟩)
 | m::suf,pre,L,h,hL=>by
  have e:v.files.length=pre.length+(suf.length+1):=by rw[h]; simp
  have hm:v.files[Int.toNat (pre.length:Int)]? = some m:=by rw[h]; simp
  have hnx:v.files=(pre++ [m])++suf:=by rw[h]; simp
  have hlen:(pre++ [m]).length=pre.length+1:=by simp
  cases hlv:m.level == lv with
  | true=>
   have ih:=T17_l1 v lv hv suf (pre++ [m]) (L++ [m]) hnx (by simp; omega)
   rw[List.filter_cons_of_pos (by simpa using hlv)]
   rw[List.append_assoc] at ih
   refine .next ?_ ih
   unfold T17_l1_b
   dsimp only
   refine wp_sp (fun _=>wp_elem m (by omega) hm (wp_sp (fun _=>wp_app ⟨rfl,rfl⟩ rfl (by simp; omega) (wp_i64 (by omega) (wp_leaf rfl ⟨rfl,?_⟩))) (fun h=>by rw[hlv] at h; cases h))) (fun h=>by have:=of_decide_eq_false h; omega)
   rw[hlen]; rfl
  | false=>
   have ih:=T17_l1 v lv hv suf (pre++ [m]) L hnx (by simp; omega)
   rw[List.filter_cons_of_neg (by simpa using hlv)]
   refine .next ?_ ih
   unfold T17_l1_b
   dsimp only
   refine wp_sp (fun _=>wp_elem m (by omega) hm (wp_sp (fun h=>by rw[hlv] at h; cases h) (fun _=>wp_i64 (by omega) (wp_leaf rfl ⟨rfl,?_⟩)))) (fun h=>by have:=of_decide_eq_false h; omega)
   rw[hlen]; rfl

theorem T17_wp (v:Vers) (lv:Int) (hv:v.files.length≤1000000) {K:AE→St→Prop} (h:K .ret ([(0, .rs 0 0 5 0 (ofL lv v.files).length)],[metaE.bx 0 (ofL lv v.files)])):(T17 Δ17 v lv).wp K:=by
 have hl:(v.files.filter fun m=>m.level == lv).length≤1000000:=Nat.le_trans (List.length_filter_le _ _) hv
 obtain ⟨s1,s2,_⟩:=sortOf_spec lv hl
 have l1:=T17_l1 v lv hv v.files [] [] rfl (Nat.le_refl _)
 rw[List.nil_append] at l1
 unfold T17
 refine wp_len (show Tree.wp _ _ from wp_loop _ rfl l1 (wp_callx (ofL lv v.files) ?_ (wp_leaf rfl ?_)))
 ·refine ⟨_,_,_,_,⟨lv,s1⟩,⟨[1,0],[0,0],[metaE.bx 0 (v.files.filter fun m=>m.level == lv), .cells false 0 [vi lv]],[metaE.bx 0 (ofL lv v.files), .cells false 0 [vi lv]],[],rfl,rfl,rfl,rfl,⟨.row true 0 _, .cells rfl rfl rfl,trivial⟩,⟨.row true 0 _, .cells rfl rfl rfl,trivial⟩,rfl,rfl,rfl⟩⟩
 ·have:=s2.length_eq
  unfold ofL at h ⊢
  rw[this] at h
  exact h

def Rof:List AV→AV→Prop:=fun args r=>∃ (v:Vers) (lv:Int),v.files.length≤1000000∧args= [.agg [vl (v.files.map metaE.f),vi v.log,vi v.next,vn .u64 v.seq],vi lv]∧r=vl ((ofL lv v.files).map metaE.f)
noncomputable def gOf:=relG Rof

theorem f_inj:∀ {L M:List Meta},L.map metaE.f=M.map metaE.f→L=M:=fun h=>row_inj (congrArg rowC h)

theorem gOf_eq {v:Vers} {lv:Int} (hv:v.files.length≤1000000):gOf [.agg [vl (v.files.map metaE.f),vi v.log,vi v.next,vn .u64 v.seq],vi lv]=some (vl ((ofL lv v.files).map metaE.f)):=
 relG_eq (by
  rintro args r r' ⟨v1,lv1,_,e1,rfl⟩ ⟨v2,lv2,_,e2,rfl⟩
  rw[e1] at e2
  simp at e2
  obtain ⟨⟨h1,_⟩,h2⟩:=e2
  have h1:v1.files=v2.files:=f_inj (by simpa using h1)
  rw[h1,h2]) ⟨v,lv,hv,rfl,rfl⟩

theorem sealRow {L:List Meta}:Sealed (fun _=>True) [metaE.bx 0 L] (.rs 0 0 5 0 L.length) (vl (L.map metaE.f)):=metaE.elt.sealed trivial rfl

theorem sound17:SoundF DP 33 (.pure gOf):=sound_pureT (Γ:=Γ0) (Δ:=Δ17) (fn:=Tryd.f33) mixedD Γ0_ok Δ17_ok (by kernel_rfl) (by kernel_rfl) (by kernel_rfl) (by
 rintro args r ⟨v,lv,hv,rfl,rfl⟩
 exact ⟨rfl,rfl,_,T17_chk Δ17 v lv,T17_wp v lv hv sealRow⟩)

def Meta.ok (m:Meta):Bool:=decide (m.num≥1)&&decide (m.num≤1073741824)&&decide (m.level≥0)&&decide (m.level<6)&& !(m.low.toList == (⟨#[]⟩:ByteArray).toList)&&(Op.bytesLess m.low.toList m.high.toList||(m.low.toList == m.high.toList))&&decide ((m.low.size:Int)≤128)&&decide ((m.high.size:Int)≤128)&&decide (m.size≥0)&&decide (m.size≤67108864)

theorem T27_wp (m:Meta) {K:AE→St→Prop} (h:K .ret ([(0,vb m.ok)],[])):(T27 m).wp K:=by
 unfold Meta.ok at h
 unfold T27
 repeat' first | refine wp_leaf rfl ?_ | refine wp_sp (fun _=>?_) (fun _=>?_)
 all_goals (simp only[*,Bool.true_and,Bool.and_true,Bool.false_and,Bool.and_false] at h; exact h)

def R31:List AV→AV→Prop:=fun args r=>∃ x y:Meta,args= [metaE.av x,metaE.av y]∧r=vi (c31 x y)
noncomputable def g31:=relG R31
theorem g31_eq (x y:Meta):g31 [metaE.av x,metaE.av y]=some (vi (c31 x y)):=relG_eq (by
 rintro args r r' ⟨x1,y1,e1,rfl⟩ ⟨x2,y2,e2,rfl⟩
 rw[e1] at e2
 simp only[List.cons.injEq,and_true] at e2
 rw[av_inj e2.1,av_inj e2.2]) ⟨x,y,rfl,rfl⟩
def R27:List AV→AV→Prop:=fun args r=>∃ x:Meta,args= [metaE.av x]∧r=vb x.ok
noncomputable def g27:=relG R27
theorem g27_eq (x:Meta):g27 [metaE.av x]=some (vb x.ok):=relG_eq (by
 rintro args r r' ⟨x1,e1,rfl⟩ ⟨x2,e2,rfl⟩
 rw[e1] at e2
 simp only[List.cons.injEq,and_true] at e2
 rw[av_inj e2]) ⟨x,rfl,rfl⟩
theorem sound27:SoundF DP 69 (.pure g27):=sound_pureT (Γ:=Γ0) (Δ:=Δ0) (fn:=Tryd.f69) mixedD Γ0_ok Δ0_ok (by kernel_rfl) (by kernel_rfl) (by kernel_rfl) (by
 rintro args r ⟨x,rfl,rfl⟩
 exact ⟨rfl,rfl,_,T27_chk x,T27_wp x (.p _)⟩)

noncomputable def Γ15:Env:=envP [(69,g27),(33,gOf)]
theorem Γ15_ok:∀ f,SoundF DP f (Γ15 f):=envP_ok (by simp; exact ⟨sound27,sound17⟩)
end Go.Ax
