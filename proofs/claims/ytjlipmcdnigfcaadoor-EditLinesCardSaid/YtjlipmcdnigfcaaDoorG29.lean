/- The stable sort: what its functions come to. -/
import Derived.Test.YtjlipmcdnigfcaaDoorG27
import Derived.Test.YtjlipmcdnigfcaaDoorG28
set_option linter.unusedVariables false
set_option linter.unusedSimpArgs false
set_option linter.unusedSectionVars false
namespace Go.Ax
open Go.Proofs Go.RowKit
set_option maxRecDepth 100000

theorem toNa (a b:Nat):Int.toNat ((a:Int)+(b:Int))=a+b:=by omega
theorem toN1 {a:Nat}:Int.toNat ((a:Int) - 1)=a - 1:=by omega

def swapsA (L:List Meta) (a b i:Nat):Nat→List Meta
 | 0=>L
 | k+1=>swapsA (swapA L (a+i) (b+i)) a b (i+1) k

theorem swaps_spec {a b:Nat}:∀ (k i:Nat) (L:List Meta),a+i+k≤b→b+i+k≤L.length→(swapsA L a b i k).Perm L ∧
  ∀ x,at' (swapsA L a b i k) x=if a+i≤x∧x<a+i+k then at' L (x - a+b) else if b+i≤x∧x<b+i+k then at' L (x - b+a) else at' L x
 | 0,i,L,_,_=>⟨.refl _,fun x=>by rw[if_neg (by omega),if_neg (by omega)]; rfl⟩
 | k+1,i,L,h1,h2=>by
  obtain ⟨g1,g2⟩:=swaps_spec (a:=a) (b:=b) k (i+1) (swapA L (a+i) (b+i)) (by omega) (by rw[swap_len]; omega)
  refine ⟨g1.trans (@swap_perm L (a+i) (b+i) (by omega) (by omega)),fun x=>?_⟩
  have hs:∀ y,at' (swapA L (a+i) (b+i)) y=if y=b+i then at' L (a+i) else if y=a+i then at' L (b+i) else at' L y:=fun y=>@swap_at L (a+i) (b+i) y (by omega) (by omega)
  rw[swapsA,g2 x,hs,hs,hs]
  by_cases c1:x=a+i
  ·subst c1
   rw[if_neg (by omega),if_neg (by omega),if_neg (by omega),if_pos rfl,if_pos (by omega)]
   congr 1; omega
  ·by_cases c2:x=b+i
   ·subst c2
    rw[if_neg (by omega),if_neg (by omega),if_pos rfl,if_neg (by omega),if_pos (by omega)]
    congr 1; omega
   ·by_cases c3:a+(i+1)≤x∧x<a+(i+1)+k
    ·rw[if_pos c3,if_neg (by omega),if_neg (by omega),if_pos (by omega)]
    ·rw[if_neg c3]
     by_cases c4:b+(i+1)≤x∧x<b+(i+1)+k
     ·rw[if_pos c4,if_neg (by omega),if_neg (by omega),if_neg (by omega),if_pos (by omega)]
     ·rw[if_neg c4,if_neg c2,if_neg c1,if_neg (by omega),if_neg (by omega)]
def Cmpp (Γ:Env) (c:Meta→Meta→Int) (g:Nat):Prop:=∀ (x y:Meta) (L:List Meta),(Γ g).run [(metaE.av x),(metaE.av y)] [metaE.bx 0 L]=some (vi (c x y),[metaE.bx 0 L])

def R48p:RSpec:=fun args B r B'=>∃ (c:Meta→Meta→Int) (g:Nat) (n:Nat) (L:List Meta) (a b m:Int),args= [.rs 0 0 5 0 n,vi a,vi b,vi m, .fn g []]∧B= [metaE.bx 0 L]∧(T48p Γ0 c g n L a b m).wp fun _ st=>tk st.1 0=r∧st.2=B'
theorem R48p_ok:SoundR DP 147 R48p:=sound_genT (Γ:=Γ0) (Δ:=Δ0) (fn:=Tryd.f147) mixedD Γ0_ok Δ0_ok (by kernel_rfl) (by kernel_rfl) (by kernel_rfl) (by
 rintro args B r B' ⟨c,g,n,L,a,b,m,rfl,rfl,h⟩
 exact ⟨rfl,_,T48p_chk Γ0 c g n L a b m,h⟩)

theorem S48pl {n a b m:Nat} (hN:n≤1000000) (hab:a+m≤b) (hb:b+m≤n):∀ (k i:Nat) (L:List Meta),i+k=m→L.length=n →
  Rounds (T48p_l1_e n a b m) (T48p_l1_x) noX (fun s=>(T48p_l1_b n a b m s).wp) (L,(i:Int)) (.inl (swapsA L a b i k))
 | 0,i,L,hk,hL=>by
  refine .done (by simp[T48p_l1_x]) ?_
  unfold T48p_l1_b
  exact wp_sp (fun h=>by have:=of_decide_eq_true h; simp at this; omega) (fun _=>wp_leaf rfl ⟨rfl,rfl⟩)
 | k+1,i,L,hk,hL=>by
  have ih:=S48pl hN hab hb k (i+1) (swapA L (a+i) (b+i)) (by omega) (by rw[swap_len,hL])
  refine .next ?_ ih
  unfold T48p_l1_b
  refine wp_sp (fun _=>?_) (fun h=>by have:=of_decide_eq_false h; simp at this; omega)
  dsimp only
  refine wp_i64 (by omega) (wp_i64 (by omega) (wp_i64 (by omega) (wp_ridx (by omega) (by omega) (wp_rload (at' L (b+i)) (by omega) rfl (by rw[toNa]; exact at_get (by omega)) (wp_i64 (by omega) (wp_ridx (by omega) (by omega)
   (wp_rload (at' L (a+i)) (by omega) rfl (by rw[toNa]; exact at_get (by omega)) (wp_ridx (by omega) (by omega) (wp_rstore (by omega) (by omega) rfl rfl (wp_ridx (by omega) (by omega) (wp_rstore (by omega) (by rw[List.length_set]; omega) rfl rfl
    (wp_i64 (by omega) (wp_leaf rfl ⟨rfl,?_⟩)))))))))))))
  rw[toNa,toNa]
  rfl

theorem S48p (c:Meta→Meta→Int) (g:Nat) {n a b m:Nat} {L:List Meta} (hN:n≤1000000) (hL:L.length=n) (hab:a+m≤b) (hb:b+m≤n):
  R48p [.rs 0 0 5 0 n,vi a,vi b,vi m, .fn g []] [metaE.bx 0 L] (.tup []) [metaE.bx 0 (swapsA L a b 0 m)]:=by
 refine ⟨c,g,n,L,a,b,m,rfl,rfl,?_⟩
 unfold T48p
 exact wp_loop _ rfl (S48pl hN hab hb m 0 L (by omega) hL) (wp_leaf rfl ⟨rfl,rfl⟩)
def Cmpq (Γ:Env) (c:Meta→Meta→Int) (g:Nat) (lv:Int):Prop:=∀ (x y:Meta) (L:List Meta),(Γ g).run [(metaE.av x),(metaE.av y), .ptr 1 0 0] [metaE.bx 0 L, .cells false 0 [vi lv]]=some (vi (c x y),[metaE.bx 0 L, .cells false 0 [vi lv]])

def R48q:RSpec:=fun args B r B'=>∃ (c:Meta→Meta→Int) (g:Nat) (lv:Int) (n:Nat) (L:List Meta) (a b m:Int),args= [.rs 0 0 5 0 n,vi a,vi b,vi m, .fn g [.ptr 1 0 0]]∧B= [metaE.bx 0 L, .cells false 0 [vi lv]]∧(T48q Γ0 c g lv n L a b m).wp fun _ st=>tk st.1 0=r∧st.2=B'
theorem R48q_ok:SoundR DP 147 R48q:=sound_genT (Γ:=Γ0) (Δ:=Δ0) (fn:=Tryd.f147) mixedD Γ0_ok Δ0_ok (by kernel_rfl) (by kernel_rfl) (by kernel_rfl) (by
 rintro args B r B' ⟨c,g,lv,n,L,a,b,m,rfl,rfl,h⟩
 exact ⟨rfl,_,T48q_chk Γ0 c g lv n L a b m,h⟩)

theorem S48ql (lv:Int) {n a b m:Nat} (hN:n≤1000000) (hab:a+m≤b) (hb:b+m≤n):∀ (k i:Nat) (L:List Meta),i+k=m→L.length=n →
  Rounds (T48q_l1_e lv n a b m) (T48q_l1_x lv) noX (fun s=>(T48q_l1_b lv n a b m s).wp) (L,(i:Int)) (.inl (swapsA L a b i k))
 | 0,i,L,hk,hL=>by
  refine .done (by simp[T48q_l1_x]) ?_
  unfold T48q_l1_b
  exact wp_sp (fun h=>by have:=of_decide_eq_true h; simp at this; omega) (fun _=>wp_leaf rfl ⟨rfl,rfl⟩)
 | k+1,i,L,hk,hL=>by
  have ih:=S48ql lv hN hab hb k (i+1) (swapA L (a+i) (b+i)) (by omega) (by rw[swap_len,hL])
  refine .next ?_ ih
  unfold T48q_l1_b
  refine wp_sp (fun _=>?_) (fun h=>by have:=of_decide_eq_false h; simp at this; omega)
  dsimp only
  refine wp_i64 (by omega) (wp_i64 (by omega) (wp_i64 (by omega) (wp_ridx (by omega) (by omega) (wp_rload (at' L (b+i)) (by omega) rfl (by rw[toNa]; exact at_get (by omega)) (wp_i64 (by omega) (wp_ridx (by omega) (by omega)
   (wp_rload (at' L (a+i)) (by omega) rfl (by rw[toNa]; exact at_get (by omega)) (wp_ridx (by omega) (by omega) (wp_rstore (by omega) (by omega) rfl rfl (wp_ridx (by omega) (by omega) (wp_rstore (by omega) (by rw[List.length_set]; omega) rfl rfl
    (wp_i64 (by omega) (wp_leaf rfl ⟨rfl,?_⟩)))))))))))))
  rw[toNa,toNa]
  rfl

theorem S48q (c:Meta→Meta→Int) (g:Nat) (lv:Int) {n a b m:Nat} {L:List Meta} (hN:n≤1000000) (hL:L.length=n) (hab:a+m≤b) (hb:b+m≤n):
  R48q [.rs 0 0 5 0 n,vi a,vi b,vi m, .fn g [.ptr 1 0 0]] [metaE.bx 0 L, .cells false 0 [vi lv]] (.tup []) [metaE.bx 0 (swapsA L a b 0 m), .cells false 0 [vi lv]]:=by
 refine ⟨c,g,lv,n,L,a,b,m,rfl,rfl,?_⟩
 unfold T48q
 exact wp_loop _ rfl (S48ql lv hN hab hb m 0 L (by omega) hL) (wp_leaf rfl ⟨rfl,rfl⟩)
--plain
structure Rot (m:Nat) (T:Nat→Meta) (L:List Meta) (i j:Nat):Prop where
 lo:∀ k,k<j→T (m - i+k)=at' L (m+k)
 hi:∀ k,k<i→T (m - i+j+k)=at' L (m - i+k)
 out:∀ x,x<m - i∨m+j≤x→T x=at' L x

theorem rot1 {m i j:Nat} {T:Nat→Meta} {L:List Meta} (hij:j<i) (him:i≤m) (hl:m+j≤L.length) (h:Rot m T L i j):Rot m T (swapsA L (m - i) m 0 j) (i - j) j:=by
 obtain ⟨_,g⟩:=swaps_spec (a:=m - i) (b:=m) j 0 L (by omega) (by omega)
 refine ⟨fun k hk=>?_,fun k hk=>?_,fun x hx=>?_⟩
 ·rw[g,if_neg (by omega),if_pos (by omega),←show T (m - i+j+k)=at' L (m+k - m+(m - i)) from (h.hi k (by omega)).trans (by congr 1; omega)]
  congr 1; omega
 ·rw[g,if_neg (by omega),if_neg (by omega),←show T (m - i+j+(j+k))=at' L (m - (i - j)+k) from (h.hi (j+k) (by omega)).trans (by congr 1; omega)]
  congr 1; omega
 ·rw[g]
  by_cases c1:m - i≤x∧x<m - i+j
  ·rw[if_pos (by omega),←show T (m - i+(x - (m - i)))=at' L (x - (m - i)+m) from (h.lo (x - (m - i)) (by omega)).trans (by congr 1; omega)]
   congr 1; omega
  ·rw[if_neg (by omega),if_neg (by omega)]
   exact h.out x (by omega)

theorem rot2 {m i j:Nat} {T:Nat→Meta} {L:List Meta} (hij:i<j) (him:i≤m) (hl:m+j≤L.length) (h:Rot m T L i j):Rot m T (swapsA L (m - i) (m+j - i) 0 i) i (j - i):=by
 obtain ⟨_,g⟩:=swaps_spec (a:=m - i) (b:=m+j - i) i 0 L (by omega) (by omega)
 refine ⟨fun k hk=>?_,fun k hk=>?_,fun x hx=>?_⟩
 ·rw[g,if_neg (by omega),if_neg (by omega)]
  exact h.lo k (by omega)
 ·rw[g,if_pos (by omega),←show T (m - i+(j - i+k))=at' L (m - i+k - (m - i)+(m+j - i)) from (h.lo (j - i+k) (by omega)).trans (by congr 1; omega)]
  congr 1; omega
 ·rw[g]
  by_cases c1:m+j - i≤x∧x<m+j
  ·rw[if_neg (by omega),if_pos (by omega),←show T (m - i+j+(x - (m+j - i)))=at' L (x - (m+j - i)+(m - i)) from (h.hi (x - (m+j - i)) (by omega)).trans (by congr 1; omega)]
   congr 1; omega
  ·rw[if_neg (by omega),if_neg (by omega)]
   exact h.out x (by omega)

theorem rot3 {m d:Nat} {T:Nat→Meta} {L:List Meta} (him:d≤m) (hl:m+d≤L.length) (h:Rot m T L d d) (x:Nat):at' (swapsA L (m - d) m 0 d) x=T x:=by
 obtain ⟨_,g⟩:=swaps_spec (a:=m - d) (b:=m) d 0 L (by omega) (by omega)
 rw[g]
 by_cases c1:m - d≤x∧x<m
 ·rw[if_pos (by omega),show at' L (x - (m - d)+m)=T (m - d+(x - (m - d))) from (Eq.trans (by congr 1; omega) (h.lo (x - (m - d)) (by omega)).symm)]
  congr 1; omega
 ·rw[if_neg (by omega)]
  by_cases c2:m≤x∧x<m+d
  ·rw[if_pos (by omega),show at' L (x - m+(m - d))=T (m - d+d+(x - m)) from (Eq.trans (by congr 1; omega) (h.hi (x - m) (by omega)).symm)]
   congr 1; omega
  ·rw[if_neg (by omega)]
   exact (h.out x (by omega)).symm

theorem rot0 {L:List Meta} {a m b:Nat} (h1:a≤m) (h2:m≤b):Rot m (rotT L a m b) L (m - a) (b - m):=
 ⟨fun k hk=>by unfold rotT; rw[if_pos (by omega)]; congr 1; omega,fun k hk=>by unfold rotT; rw[if_neg (by omega),if_pos (by omega)]; congr 1; omega,fun x hx=>by unfold rotT; rw[if_neg (by omega),if_neg (by omega)]⟩

def ΔAp:REnv:=fun f=>bif Nat.beq f 147 then R48p else fun _ _ _ _=>False
theorem ΔAp_ok:∀ f,SoundR DP f (ΔAp f):=fun f=>by
 unfold ΔAp
 cases h:Nat.beq f 147 with
 | true=>have:=Nat.eq_of_beq_eq_true h; subst this; exact R48p_ok
 | false=>exact .none f

def R47p:RSpec:=fun args B r B'=>∃ (c:Meta→Meta→Int) (g:Nat) (n:Nat) (L:List Meta) (a m b:Int),args= [.rs 0 0 5 0 n,vi a,vi m,vi b, .fn g []]∧B= [metaE.bx 0 L]∧(T47p Γ0 ΔAp c g n L a m b).wp fun _ st=>tk st.1 0=r∧st.2=B'
theorem R47p_ok:SoundR DP 134 R47p:=sound_genT (Γ:=Γ0) (Δ:=ΔAp) (fn:=Tryd.f134) mixedD Γ0_ok ΔAp_ok (by kernel_rfl) (by kernel_rfl) (by kernel_rfl) (by
 rintro args B r B' ⟨c,g,n,L,a,m,b,rfl,rfl,h⟩
 exact ⟨rfl,_,T47p_chk Γ0 ΔAp c g n L a m b,h⟩)

theorem S47pl (g:Nat) {n m:Nat} {T:Nat→Meta} (hN:n≤1000000):∀ (k i j:Nat) (L:List Meta),i+j≤k→0<i→0<j→i≤m→m+j≤n→L.length=n→Rot m T L i j →
  ∃ (d:Nat) (L':List Meta),Rounds (T47p_l1_e g n m) (T47p_l1_x g n m) noX (fun s=>(T47p_l1_b ΔAp g n m s).wp) (L,(i:Int),(j:Int)) (.inl ((d:Int),L'))∧0<d∧d≤i∧d≤j∧L'.Perm L∧Rot m T L' d d
 | 0,i,j,L,hk,hi,_,_,_,_,_=>by omega
 | k+1,i,j,L,hk,hi,hj,him,hmn,hL,hr=>by
  by_cases e:i=j
  ·subst e
   refine ⟨i,L, .done (by simp[T47p_l1_x]) ?_,hi,Nat.le_refl _,Nat.le_refl _, .refl _,hr⟩
   unfold T47p_l1_b
   exact wp_sp (fun h=>by simp at h) (fun _=>wp_leaf rfl ⟨rfl,rfl⟩)
  ·have ne:(((i:Int) != (j:Int))=true):=by simp; omega
   by_cases hlt:j<i
   ·have hs:=swaps_spec (a:=m - i) (b:=m) j 0 L (by omega) (by omega)
    have hlen:=hs.1.length_eq
    obtain ⟨d,L',q1,q2,q3,q4,q5,q6⟩:=S47pl g hN k (i - j) j (swapsA L (m - i) m 0 j) (by omega) (by omega) hj (by omega) hmn (by omega) (rot1 hlt him (by omega) hr)
    refine ⟨d,L', .next ?_ q1,q2,by omega,q4,q5.trans hs.1,q6⟩
    unfold T47p_l1_b
    refine wp_sp (fun _=>?_) (fun h=>by rw[ne] at h; cases h)
    refine wp_sp (fun _=>?_) (fun h=>by have:=of_decide_eq_false h; simp at this; omega)
    refine wp_i64 (by dsimp only; omega) (wp_callx (swapsA L (m - i) m 0 j) ?_ (wp_i64 (by dsimp only; omega) (wp_leaf rfl ⟨rfl,?_⟩)))
    ·dsimp only
     rw[show ((m:Int) - (i:Int))=((m - i:Nat):Int) by omega]
     exact S48p (fun _ _=>0) g hN hL (by omega) (by omega)
    ·dsimp only
     rw[show ((i:Int) - (j:Int))=((i - j:Nat):Int) by omega]
   ·have hs:=swaps_spec (a:=m - i) (b:=m+j - i) i 0 L (by omega) (by omega)
    have hlen:=hs.1.length_eq
    obtain ⟨d,L',q1,q2,q3,q4,q5,q6⟩:=S47pl g hN k i (j - i) (swapsA L (m - i) (m+j - i) 0 i) (by omega) hi (by omega) him (by omega) (by omega) (rot2 (by omega) him (by omega) hr)
    refine ⟨d,L', .next ?_ q1,q2,q3,by omega,q5.trans hs.1,q6⟩
    unfold T47p_l1_b
    refine wp_sp (fun _=>?_) (fun h=>by rw[ne] at h; cases h)
    refine wp_sp (fun h=>by have:=of_decide_eq_true h; simp at this; omega) (fun _=>?_)
    refine wp_i64 (by dsimp only; omega) (wp_i64 (by dsimp only; omega) (wp_i64 (by dsimp only; omega) (wp_callx (swapsA L (m - i) (m+j - i) 0 i) ?_ (wp_i64 (by dsimp only; omega) (wp_leaf rfl ⟨rfl,?_⟩)))))
    ·dsimp only
     rw[show ((m:Int) - (i:Int))=((m - i:Nat):Int) by omega,show ((m:Int)+(j:Int) - (i:Int))=((m+j - i:Nat):Int) by omega]
     exact S48p (fun _ _=>0) g hN hL (by omega) (by omega)
    ·dsimp only
     rw[show ((j:Int) - (i:Int))=((j - i:Nat):Int) by omega]

theorem S47p (c:Meta→Meta→Int) (g:Nat) {n a m b:Nat} {L:List Meta} (hN:n≤1000000) (hL:L.length=n) (h1:a<m) (h2:m<b) (h3:b≤n):
  ∃ L',R47p [.rs 0 0 5 0 n,vi a,vi m,vi b, .fn g []] [metaE.bx 0 L] (.tup []) [metaE.bx 0 L']∧L'.Perm L∧∀ x,at' L' x=rotT L a m b x:=by
 obtain ⟨d,L',q1,q2,q3,q4,q5,q6⟩:=S47pl g (T:=rotT L a m b) hN _ (m - a) (b - m) L (Nat.le_refl _) (by omega) (by omega) (by omega) (by omega) hL (rot0 (by omega) (by omega))
 have hlen:=q5.length_eq
 have hs:=swaps_spec (a:=m - d) (b:=m) d 0 L' (by omega) (by omega)
 refine ⟨swapsA L' (m - d) m 0 d,⟨c,g,n,L,a,m,b,rfl,rfl,?_⟩,hs.1.trans q5,rot3 (by omega) (by omega) q6⟩
 unfold T47p
 refine wp_i64 (by omega) (wp_i64 (by omega) ?_)
 rw[show ((m:Int) - (a:Int))=((m - a:Nat):Int) by omega,show ((b:Int) - (m:Int))=((b - m:Nat):Int) by omega]
 refine wp_loop _ rfl q1 (wp_i64 (by dsimp only; omega) (wp_callx (swapsA L' (m - d) m 0 d) ?_ (wp_leaf rfl ⟨rfl,rfl⟩)))
 dsimp only
 rw[show ((m:Int) - (d:Int))=((m - d:Nat):Int) by omega]
 exact S48p (fun _ _=>0) g hN (by omega) (by omega) (by omega)
def ΔAq:REnv:=fun f=>bif Nat.beq f 147 then R48q else fun _ _ _ _=>False
theorem ΔAq_ok:∀ f,SoundR DP f (ΔAq f):=fun f=>by
 unfold ΔAq
 cases h:Nat.beq f 147 with
 | true=>have:=Nat.eq_of_beq_eq_true h; subst this; exact R48q_ok
 | false=>exact .none f

def R47q:RSpec:=fun args B r B'=>∃ (c:Meta→Meta→Int) (g:Nat) (lv:Int) (n:Nat) (L:List Meta) (a m b:Int),args= [.rs 0 0 5 0 n,vi a,vi m,vi b, .fn g [.ptr 1 0 0]]∧B= [metaE.bx 0 L, .cells false 0 [vi lv]]∧(T47q Γ0 ΔAq c g lv n L a m b).wp fun _ st=>tk st.1 0=r∧st.2=B'
theorem R47q_ok:SoundR DP 134 R47q:=sound_genT (Γ:=Γ0) (Δ:=ΔAq) (fn:=Tryd.f134) mixedD Γ0_ok ΔAq_ok (by kernel_rfl) (by kernel_rfl) (by kernel_rfl) (by
 rintro args B r B' ⟨c,g,lv,n,L,a,m,b,rfl,rfl,h⟩
 exact ⟨rfl,_,T47q_chk Γ0 ΔAq c g lv n L a m b,h⟩)

theorem S47ql (g:Nat) (lv:Int) {n m:Nat} {T:Nat→Meta} (hN:n≤1000000):∀ (k i j:Nat) (L:List Meta),i+j≤k→0<i→0<j→i≤m→m+j≤n→L.length=n→Rot m T L i j →
  ∃ (d:Nat) (L':List Meta),Rounds (T47q_l1_e g lv n m) (T47q_l1_x g lv n m) noX (fun s=>(T47q_l1_b ΔAq g lv n m s).wp) (L,(i:Int),(j:Int)) (.inl ((d:Int),L'))∧0<d∧d≤i∧d≤j∧L'.Perm L∧Rot m T L' d d
 | 0,i,j,L,hk,hi,_,_,_,_,_=>by omega
 | k+1,i,j,L,hk,hi,hj,him,hmn,hL,hr=>by
  by_cases e:i=j
  ·subst e
   refine ⟨i,L, .done (by simp[T47q_l1_x]) ?_,hi,Nat.le_refl _,Nat.le_refl _, .refl _,hr⟩
   unfold T47q_l1_b
   exact wp_sp (fun h=>by simp at h) (fun _=>wp_leaf rfl ⟨rfl,rfl⟩)
  ·have ne:(((i:Int) != (j:Int))=true):=by simp; omega
   by_cases hlt:j<i
   ·have hs:=swaps_spec (a:=m - i) (b:=m) j 0 L (by omega) (by omega)
    have hlen:=hs.1.length_eq
    obtain ⟨d,L',q1,q2,q3,q4,q5,q6⟩:=S47ql g lv hN k (i - j) j (swapsA L (m - i) m 0 j) (by omega) (by omega) hj (by omega) hmn (by omega) (rot1 hlt him (by omega) hr)
    refine ⟨d,L', .next ?_ q1,q2,by omega,q4,q5.trans hs.1,q6⟩
    unfold T47q_l1_b
    refine wp_sp (fun _=>?_) (fun h=>by rw[ne] at h; cases h)
    refine wp_sp (fun _=>?_) (fun h=>by have:=of_decide_eq_false h; simp at this; omega)
    refine wp_i64 (by dsimp only; omega) (wp_callx (swapsA L (m - i) m 0 j) ?_ (wp_i64 (by dsimp only; omega) (wp_leaf rfl ⟨rfl,?_⟩)))
    ·dsimp only
     rw[show ((m:Int) - (i:Int))=((m - i:Nat):Int) by omega]
     exact S48q (fun _ _=>0) g lv hN hL (by omega) (by omega)
    ·dsimp only
     rw[show ((i:Int) - (j:Int))=((i - j:Nat):Int) by omega]
   ·have hs:=swaps_spec (a:=m - i) (b:=m+j - i) i 0 L (by omega) (by omega)
    have hlen:=hs.1.length_eq
    obtain ⟨d,L',q1,q2,q3,q4,q5,q6⟩:=S47ql g lv hN k i (j - i) (swapsA L (m - i) (m+j - i) 0 i) (by omega) hi (by omega) him (by omega) (by omega) (rot2 (by omega) him (by omega) hr)
    refine ⟨d,L', .next ?_ q1,q2,q3,by omega,q5.trans hs.1,q6⟩
    unfold T47q_l1_b
    refine wp_sp (fun _=>?_) (fun h=>by rw[ne] at h; cases h)
    refine wp_sp (fun h=>by have:=of_decide_eq_true h; simp at this; omega) (fun _=>?_)
    refine wp_i64 (by dsimp only; omega) (wp_i64 (by dsimp only; omega) (wp_i64 (by dsimp only; omega) (wp_callx (swapsA L (m - i) (m+j - i) 0 i) ?_ (wp_i64 (by dsimp only; omega) (wp_leaf rfl ⟨rfl,?_⟩)))))
    ·dsimp only
     rw[show ((m:Int) - (i:Int))=((m - i:Nat):Int) by omega,show ((m:Int)+(j:Int) - (i:Int))=((m+j - i:Nat):Int) by omega]
     exact S48q (fun _ _=>0) g lv hN hL (by omega) (by omega)
    ·dsimp only
     rw[show ((j:Int) - (i:Int))=((j - i:Nat):Int) by omega]

theorem S47q (c:Meta→Meta→Int) (g:Nat) (lv:Int) {n a m b:Nat} {L:List Meta} (hN:n≤1000000) (hL:L.length=n) (h1:a<m) (h2:m<b) (h3:b≤n):
  ∃ L',R47q [.rs 0 0 5 0 n,vi a,vi m,vi b, .fn g [.ptr 1 0 0]] [metaE.bx 0 L, .cells false 0 [vi lv]] (.tup []) [metaE.bx 0 L', .cells false 0 [vi lv]]∧L'.Perm L∧∀ x,at' L' x=rotT L a m b x:=by
 obtain ⟨d,L',q1,q2,q3,q4,q5,q6⟩:=S47ql g lv (T:=rotT L a m b) hN _ (m - a) (b - m) L (Nat.le_refl _) (by omega) (by omega) (by omega) (by omega) hL (rot0 (by omega) (by omega))
 have hlen:=q5.length_eq
 have hs:=swaps_spec (a:=m - d) (b:=m) d 0 L' (by omega) (by omega)
 refine ⟨swapsA L' (m - d) m 0 d,⟨c,g,lv,n,L,a,m,b,rfl,rfl,?_⟩,hs.1.trans q5,rot3 (by omega) (by omega) q6⟩
 unfold T47q
 refine wp_i64 (by omega) (wp_i64 (by omega) ?_)
 rw[show ((m:Int) - (a:Int))=((m - a:Nat):Int) by omega,show ((b:Int) - (m:Int))=((b - m:Nat):Int) by omega]
 refine wp_loop _ rfl q1 (wp_i64 (by dsimp only; omega) (wp_callx (swapsA L' (m - d) m 0 d) ?_ (wp_leaf rfl ⟨rfl,rfl⟩)))
 dsimp only
 rw[show ((m:Int) - (d:Int))=((m - d:Nat):Int) by omega]
 exact S48q (fun _ _=>0) g lv hN (by omega) (by omega) (by omega)
def R44p (Γ:Env) (c:Meta→Meta→Int) (g:Nat):RSpec:=fun args B r B'=>∃  (n:Nat) (L:List Meta) (a b:Int),args= [.rs 0 0 5 0 n,vi a,vi b, .fn g []]∧B= [metaE.bx 0 L]∧(T44p Γ c g n L a b).wp fun _ st=>tk st.1 0=r∧st.2=B'
theorem R44p_ok {Γ:Env} (hΓ:∀ f,SoundF DP f (Γ f)) (c:Meta→Meta→Int) (g:Nat):SoundR DP 113 (R44p Γ c g):=sound_genT (Γ:=Γ) (Δ:=Δ0) (fn:=Tryd.f113) mixedD hΓ Δ0_ok (by kernel_rfl) (by kernel_rfl) (by kernel_rfl) (by
 rintro args B r B' ⟨n,L,a,b,rfl,rfl,h⟩
 exact ⟨rfl,_,T44p_chk Γ c g n L a b,h⟩)

theorem S44pi {Γ:Env} {c:Meta→Meta→Int} {g:Nat} (hc:Cmpp Γ c g) {n a i:Nat} {b:Int} {L0:List Meta} (hN:n≤1000000) (hi:i<n):∀ (k j:Nat) (L:List Meta),a+k=j→j≤i→L.length=n →
  ∃ L',Rounds (T44p_l2_e g n a b (L0,(i:Int))) (T44p_l2_x g n a b (L0,(i:Int))) noX (fun s=>(T44p_l2_b Γ c g n a b (L0,(i:Int)) s).wp) (L,(j:Int)) (.inl L')∧Turn L L' a (i+1) ∧
   ∀ Q,Ordr c Q→AllQ Q L→(∀ p q,a≤p→p<q→q≤i→q≠j→¬c (at' L q) (at' L p)<0)→Sorted c L' a (i+1)
 | 0,j,L,hk,hji,hL=>by
  refine ⟨L, .done (by simp[T44p_l2_x]) ?_, .refl _ _ _,fun Q _ _ hs p q h1 h2 h3=>hs p q h1 h2 (by omega) (by omega)⟩
  unfold T44p_l2_b
  refine wp_sp (fun h=>by have:=of_decide_eq_true h; simp at this; omega) (fun _=>wp_join rfl ?_)
  unfold T44p_j3
  exact wp_br (fun h=>by cases h) (fun _=>wp_leaf rfl ⟨rfl,rfl⟩)
 | k+1,j,L,hk,hji,hL=>by
  have hj1:Int.toNat ((j:Int) - 1)=j - 1:=toN1
  by_cases hlt:c (at' L j) (at' L (j - 1))<0
  ·obtain ⟨L',q1,q2,q3⟩:=S44pi (a:=a) (b:=b) (L0:=L0) hc hN hi k (j - 1) (swapA L j (j - 1)) (by omega) (by omega) (by rw[swap_len,hL])
   have ht:Turn L (swapA L j (j - 1)) a (i+1):= .swap (by omega) (by omega) (by omega) (by omega) (by omega) (by omega)
   refine ⟨L', .next ?_ q1,ht.trans q2,fun Q hO hQ hs=>q3 Q hO (hQ.turn ht (by omega)) ?_⟩
   ·unfold T44p_l2_b
    refine wp_sp (fun _=>?_) (fun h=>by have:=of_decide_eq_false h; simp at this; omega)
    refine wp_ridx (by dsimp only; omega) (by dsimp only; omega) (wp_rload (at' L j) (by dsimp only; omega) rfl (by dsimp only; exact at_get (by omega)) (wp_i64 (by dsimp only; omega) (wp_ridx (by dsimp only; omega) (by dsimp only; omega)
     (wp_rload (at' L (j - 1)) (by dsimp only; omega) rfl (by dsimp only; rw[hj1]; exact at_get (by omega)) (wp_val (hc _ _ _) (wp_sp (fun _=>wp_join rfl ?_) (fun h=>absurd hlt (of_decide_eq_false h))))))))
    unfold T44p_j3
    refine wp_br (fun _=>?_) (fun h=>by cases h)
    refine wp_i64 (by dsimp only; omega) (wp_i64 (by dsimp only; omega) (wp_ridx (by dsimp only; omega) (by dsimp only; omega) (wp_rload (at' L (j - 1)) (by dsimp only; omega) rfl (by dsimp only; rw[hj1]; exact at_get (by omega))
     (wp_ridx (by dsimp only; omega) (by dsimp only; omega) (wp_rload (at' L j) (by dsimp only; omega) rfl (by dsimp only; exact at_get (by omega)) (wp_ridx (by dsimp only; omega) (by dsimp only; omega) (wp_rstore (by dsimp only; omega) (by dsimp only; omega) rfl rfl
      (wp_ridx (by dsimp only; omega) (by dsimp only; omega) (wp_rstore (by dsimp only; omega) (by dsimp only; rw[List.length_set]; omega) rfl rfl (wp_i64 (by dsimp only; omega) (wp_leaf rfl ⟨rfl,?_⟩)))))))))))
    dsimp only
    rw[hj1,show ((j:Int) - 1)=((j - 1:Nat):Int) by omega]
    rfl
   ·intro p q h1 h2 h3 h4
    have hsw:∀ y,at' (swapA L j (j - 1)) y=if y=j - 1 then at' L j else if y=j then at' L (j - 1) else at' L y:=fun y=>@swap_at L j (j - 1) y (by omega) (by omega)
    rw[hsw,hsw,if_neg h4]
    by_cases e1:q=j
    ·subst e1
     rw[if_pos rfl]
     by_cases e2:p=q - 1
     ·rw[if_pos e2]
      exact hO.asym _ _ (hQ _ (by omega)) (hQ _ (by omega)) hlt
     ·rw[if_neg e2,if_neg (by omega)]
      exact hs p (q - 1) h1 (by omega) (by omega) (by omega)
    ·rw[if_neg e1]
     by_cases e2:p=j - 1
     ·rw[if_pos e2]
      exact hs j q (by omega) (by omega) h3 e1
     ·rw[if_neg e2]
      by_cases e3:p=j
      ·rw[if_pos e3]
       exact hs (j - 1) q (by omega) (by omega) h3 e1
      ·rw[if_neg e3]
       exact hs p q h1 h2 h3 e1
  ·refine ⟨L, .done (by simp[T44p_l2_x]) ?_, .refl _ _ _,fun Q hO hQ hs p q h1 h2 h3=>?_⟩
   ·unfold T44p_l2_b
    refine wp_sp (fun _=>?_) (fun h=>by have:=of_decide_eq_false h; simp at this; omega)
    refine wp_ridx (by dsimp only; omega) (by dsimp only; omega) (wp_rload (at' L j) (by dsimp only; omega) rfl (by dsimp only; exact at_get (by omega)) (wp_i64 (by dsimp only; omega) (wp_ridx (by dsimp only; omega) (by dsimp only; omega)
     (wp_rload (at' L (j - 1)) (by dsimp only; omega) rfl (by dsimp only; rw[hj1]; exact at_get (by omega)) (wp_val (hc _ _ _) (wp_sp (fun h=>absurd (of_decide_eq_true h) hlt) (fun _=>wp_join rfl ?_)))))))
    unfold T44p_j3
    exact wp_br (fun h=>by cases h) (fun _=>wp_leaf rfl ⟨rfl,rfl⟩)
   ·by_cases e1:q=j
    ·subst e1
     by_cases e2:p=q - 1
     ·rw[e2]; exact hlt
     ·exact hO.trans _ _ _ (hQ _ (by omega)) (hQ (q - 1) (by omega)) (hQ _ (by omega)) (hs p (q - 1) h1 (by omega) (by omega) (by omega)) hlt
    ·exact hs p q h1 h2 (by omega) e1

theorem S44po {Γ:Env} {c:Meta→Meta→Int} {g:Nat} (hc:Cmpp Γ c g) {n a b:Nat} (hN:n≤1000000) (hb:b≤n):∀ (k i:Nat) (L:List Meta),i+k=b→a<i→L.length=n →
  ∃ L',Rounds (T44p_l1_e g n a b) (T44p_l1_x) noX (fun s=>(T44p_l1_b Γ c g n a b s).wp) (L,(i:Int)) (.inl L')∧Turn L L' a b∧∀ Q,Ordr c Q→AllQ Q L→Sorted c L a i→Sorted c L' a b
 | 0,i,L,hk,hai,hL=>by
  refine ⟨L, .done (by simp[T44p_l1_x]) ?_, .refl _ _ _,fun Q _ _ hs=>hs.sub (Nat.le_refl _) (by omega)⟩
  unfold T44p_l1_b
  exact wp_sp (fun h=>by have:=of_decide_eq_true h; simp at this; omega) (fun _=>wp_leaf rfl ⟨rfl,rfl⟩)
 | k+1,i,L,hk,hai,hL=>by
  obtain ⟨L1,q1,q2,q3⟩:=S44pi (a:=a) (b:=(b:Int)) (L0:=L) hc hN (show i<n by omega) (i - a) i L (by omega) (Nat.le_refl _) hL
  obtain ⟨L2,p1,p2,p3⟩:=S44po (a:=a) hc hN hb k (i+1) L1 (by omega) (by omega) (by rw[q2.len,hL])
  refine ⟨L2, .next ?_ p1,(q2.wide (Nat.le_refl _) (by omega)).trans p2,fun Q hO hQ hs=>p3 Q hO (hQ.turn q2 (by omega)) (q3 Q hO hQ fun p q h1 h2 h3 h4=>hs p q h1 h2 (by omega))⟩
  unfold T44p_l1_b
  refine wp_sp (fun _=>?_) (fun h=>by have:=of_decide_eq_false h; simp at this; omega)
  exact wp_loop _ rfl q1 (wp_i64 (by dsimp only; omega) (wp_leaf rfl ⟨rfl,rfl⟩))

theorem S44p {Γ:Env} {c:Meta→Meta→Int} {g:Nat} (hc:Cmpp Γ c g) {n a b:Nat} {L:List Meta} (hN:n≤1000000) (hL:L.length=n) (h1:a≤b) (h3:b≤n):
  ∃ L',R44p Γ c g [.rs 0 0 5 0 n,vi a,vi b, .fn g []] [metaE.bx 0 L] (.tup []) [metaE.bx 0 L']∧Turn L L' a b∧∀ Q,Ordr c Q→AllQ Q L→Sorted c L' a b:=by
 by_cases e:a=b
 ·subst e
  refine ⟨L,⟨n,L,a,a,rfl,rfl,?_⟩, .refl _ _ _,fun Q _ _ p q h1 h2 h3=>by omega⟩
  unfold T44p
  refine wp_i64 (by omega) (wp_loop L rfl (.done (by simp[T44p_l1_x]) ?_) (wp_leaf rfl ⟨rfl,rfl⟩))
  unfold T44p_l1_b
  exact wp_sp (fun h=>by have:=of_decide_eq_true h; simp at this; omega) (fun _=>wp_leaf rfl ⟨rfl,rfl⟩)
 ·obtain ⟨L',q1,q2,q3⟩:=S44po (a:=a) hc hN h3 (b - (a+1)) (a+1) L (by omega) (by omega) hL
  refine ⟨L',⟨n,L,a,b,rfl,rfl,?_⟩,q2,fun Q hO hQ=>q3 Q hO hQ fun p q h1 h2 h3=>by omega⟩
  unfold T44p
  exact wp_i64 (by omega) (wp_loop _ rfl q1 (wp_leaf rfl ⟨rfl,rfl⟩))
def R44q (Γ:Env) (c:Meta→Meta→Int) (g:Nat):RSpec:=fun args B r B'=>∃  (lv:Int) (n:Nat) (L:List Meta) (a b:Int),args= [.rs 0 0 5 0 n,vi a,vi b, .fn g [.ptr 1 0 0]]∧B= [metaE.bx 0 L, .cells false 0 [vi lv]]∧(T44q Γ c g lv n L a b).wp fun _ st=>tk st.1 0=r∧st.2=B'
theorem R44q_ok {Γ:Env} (hΓ:∀ f,SoundF DP f (Γ f)) (c:Meta→Meta→Int) (g:Nat):SoundR DP 113 (R44q Γ c g):=sound_genT (Γ:=Γ) (Δ:=Δ0) (fn:=Tryd.f113) mixedD hΓ Δ0_ok (by kernel_rfl) (by kernel_rfl) (by kernel_rfl) (by
 rintro args B r B' ⟨lv,n,L,a,b,rfl,rfl,h⟩
 exact ⟨rfl,_,T44q_chk Γ c g lv n L a b,h⟩)

theorem S44qi {Γ:Env} {c:Meta→Meta→Int} {g:Nat} (lv:Int) (hc:Cmpq Γ c g lv) {n a i:Nat} {b:Int} {L0:List Meta} (hN:n≤1000000) (hi:i<n):∀ (k j:Nat) (L:List Meta),a+k=j→j≤i→L.length=n →
  ∃ L',Rounds (T44q_l2_e g lv n a b (L0,(i:Int))) (T44q_l2_x g lv n a b (L0,(i:Int))) noX (fun s=>(T44q_l2_b Γ c g lv n a b (L0,(i:Int)) s).wp) (L,(j:Int)) (.inl L')∧Turn L L' a (i+1) ∧
   ∀ Q,Ordr c Q→AllQ Q L→(∀ p q,a≤p→p<q→q≤i→q≠j→¬c (at' L q) (at' L p)<0)→Sorted c L' a (i+1)
 | 0,j,L,hk,hji,hL=>by
  refine ⟨L, .done (by simp[T44q_l2_x]) ?_, .refl _ _ _,fun Q _ _ hs p q h1 h2 h3=>hs p q h1 h2 (by omega) (by omega)⟩
  unfold T44q_l2_b
  refine wp_sp (fun h=>by have:=of_decide_eq_true h; simp at this; omega) (fun _=>wp_join rfl ?_)
  unfold T44q_j3
  exact wp_br (fun h=>by cases h) (fun _=>wp_leaf rfl ⟨rfl,rfl⟩)
 | k+1,j,L,hk,hji,hL=>by
  have hj1:Int.toNat ((j:Int) - 1)=j - 1:=toN1
  by_cases hlt:c (at' L j) (at' L (j - 1))<0
  ·obtain ⟨L',q1,q2,q3⟩:=S44qi lv (a:=a) (b:=b) (L0:=L0) hc hN hi k (j - 1) (swapA L j (j - 1)) (by omega) (by omega) (by rw[swap_len,hL])
   have ht:Turn L (swapA L j (j - 1)) a (i+1):= .swap (by omega) (by omega) (by omega) (by omega) (by omega) (by omega)
   refine ⟨L', .next ?_ q1,ht.trans q2,fun Q hO hQ hs=>q3 Q hO (hQ.turn ht (by omega)) ?_⟩
   ·unfold T44q_l2_b
    refine wp_sp (fun _=>?_) (fun h=>by have:=of_decide_eq_false h; simp at this; omega)
    refine wp_ridx (by dsimp only; omega) (by dsimp only; omega) (wp_rload (at' L j) (by dsimp only; omega) rfl (by dsimp only; exact at_get (by omega)) (wp_i64 (by dsimp only; omega) (wp_ridx (by dsimp only; omega) (by dsimp only; omega)
     (wp_rload (at' L (j - 1)) (by dsimp only; omega) rfl (by dsimp only; rw[hj1]; exact at_get (by omega)) (wp_val (hc _ _ _) (wp_sp (fun _=>wp_join rfl ?_) (fun h=>absurd hlt (of_decide_eq_false h))))))))
    unfold T44q_j3
    refine wp_br (fun _=>?_) (fun h=>by cases h)
    refine wp_i64 (by dsimp only; omega) (wp_i64 (by dsimp only; omega) (wp_ridx (by dsimp only; omega) (by dsimp only; omega) (wp_rload (at' L (j - 1)) (by dsimp only; omega) rfl (by dsimp only; rw[hj1]; exact at_get (by omega))
     (wp_ridx (by dsimp only; omega) (by dsimp only; omega) (wp_rload (at' L j) (by dsimp only; omega) rfl (by dsimp only; exact at_get (by omega)) (wp_ridx (by dsimp only; omega) (by dsimp only; omega) (wp_rstore (by dsimp only; omega) (by dsimp only; omega) rfl rfl
      (wp_ridx (by dsimp only; omega) (by dsimp only; omega) (wp_rstore (by dsimp only; omega) (by dsimp only; rw[List.length_set]; omega) rfl rfl (wp_i64 (by dsimp only; omega) (wp_leaf rfl ⟨rfl,?_⟩)))))))))))
    dsimp only
    rw[hj1,show ((j:Int) - 1)=((j - 1:Nat):Int) by omega]
    rfl
   ·intro p q h1 h2 h3 h4
    have hsw:∀ y,at' (swapA L j (j - 1)) y=if y=j - 1 then at' L j else if y=j then at' L (j - 1) else at' L y:=fun y=>@swap_at L j (j - 1) y (by omega) (by omega)
    rw[hsw,hsw,if_neg h4]
    by_cases e1:q=j
    ·subst e1
     rw[if_pos rfl]
     by_cases e2:p=q - 1
     ·rw[if_pos e2]
      exact hO.asym _ _ (hQ _ (by omega)) (hQ _ (by omega)) hlt
     ·rw[if_neg e2,if_neg (by omega)]
      exact hs p (q - 1) h1 (by omega) (by omega) (by omega)
    ·rw[if_neg e1]
     by_cases e2:p=j - 1
     ·rw[if_pos e2]
      exact hs j q (by omega) (by omega) h3 e1
     ·rw[if_neg e2]
      by_cases e3:p=j
      ·rw[if_pos e3]
       exact hs (j - 1) q (by omega) (by omega) h3 e1
      ·rw[if_neg e3]
       exact hs p q h1 h2 h3 e1
  ·refine ⟨L, .done (by simp[T44q_l2_x]) ?_, .refl _ _ _,fun Q hO hQ hs p q h1 h2 h3=>?_⟩
   ·unfold T44q_l2_b
    refine wp_sp (fun _=>?_) (fun h=>by have:=of_decide_eq_false h; simp at this; omega)
    refine wp_ridx (by dsimp only; omega) (by dsimp only; omega) (wp_rload (at' L j) (by dsimp only; omega) rfl (by dsimp only; exact at_get (by omega)) (wp_i64 (by dsimp only; omega) (wp_ridx (by dsimp only; omega) (by dsimp only; omega)
     (wp_rload (at' L (j - 1)) (by dsimp only; omega) rfl (by dsimp only; rw[hj1]; exact at_get (by omega)) (wp_val (hc _ _ _) (wp_sp (fun h=>absurd (of_decide_eq_true h) hlt) (fun _=>wp_join rfl ?_)))))))
    unfold T44q_j3
    exact wp_br (fun h=>by cases h) (fun _=>wp_leaf rfl ⟨rfl,rfl⟩)
   ·by_cases e1:q=j
    ·subst e1
     by_cases e2:p=q - 1
     ·rw[e2]; exact hlt
     ·exact hO.trans _ _ _ (hQ _ (by omega)) (hQ (q - 1) (by omega)) (hQ _ (by omega)) (hs p (q - 1) h1 (by omega) (by omega) (by omega)) hlt
    ·exact hs p q h1 h2 (by omega) e1

theorem S44qo {Γ:Env} {c:Meta→Meta→Int} {g:Nat} (lv:Int) (hc:Cmpq Γ c g lv) {n a b:Nat} (hN:n≤1000000) (hb:b≤n):∀ (k i:Nat) (L:List Meta),i+k=b→a<i→L.length=n →
  ∃ L',Rounds (T44q_l1_e g lv n a b) (T44q_l1_x lv) noX (fun s=>(T44q_l1_b Γ c g lv n a b s).wp) (L,(i:Int)) (.inl L')∧Turn L L' a b∧∀ Q,Ordr c Q→AllQ Q L→Sorted c L a i→Sorted c L' a b
 | 0,i,L,hk,hai,hL=>by
  refine ⟨L, .done (by simp[T44q_l1_x]) ?_, .refl _ _ _,fun Q _ _ hs=>hs.sub (Nat.le_refl _) (by omega)⟩
  unfold T44q_l1_b
  exact wp_sp (fun h=>by have:=of_decide_eq_true h; simp at this; omega) (fun _=>wp_leaf rfl ⟨rfl,rfl⟩)
 | k+1,i,L,hk,hai,hL=>by
  obtain ⟨L1,q1,q2,q3⟩:=S44qi lv (a:=a) (b:=(b:Int)) (L0:=L) hc hN (show i<n by omega) (i - a) i L (by omega) (Nat.le_refl _) hL
  obtain ⟨L2,p1,p2,p3⟩:=S44qo lv (a:=a) hc hN hb k (i+1) L1 (by omega) (by omega) (by rw[q2.len,hL])
  refine ⟨L2, .next ?_ p1,(q2.wide (Nat.le_refl _) (by omega)).trans p2,fun Q hO hQ hs=>p3 Q hO (hQ.turn q2 (by omega)) (q3 Q hO hQ fun p q h1 h2 h3 h4=>hs p q h1 h2 (by omega))⟩
  unfold T44q_l1_b
  refine wp_sp (fun _=>?_) (fun h=>by have:=of_decide_eq_false h; simp at this; omega)
  exact wp_loop _ rfl q1 (wp_i64 (by dsimp only; omega) (wp_leaf rfl ⟨rfl,rfl⟩))

theorem S44q {Γ:Env} {c:Meta→Meta→Int} {g:Nat} (lv:Int) (hc:Cmpq Γ c g lv) {n a b:Nat} {L:List Meta} (hN:n≤1000000) (hL:L.length=n) (h1:a≤b) (h3:b≤n):
  ∃ L',R44q Γ c g [.rs 0 0 5 0 n,vi a,vi b, .fn g [.ptr 1 0 0]] [metaE.bx 0 L, .cells false 0 [vi lv]] (.tup []) [metaE.bx 0 L', .cells false 0 [vi lv]]∧Turn L L' a b∧∀ Q,Ordr c Q→AllQ Q L→Sorted c L' a b:=by
 by_cases e:a=b
 ·subst e
  refine ⟨L,⟨lv,n,L,a,a,rfl,rfl,?_⟩, .refl _ _ _,fun Q _ _ p q h1 h2 h3=>by omega⟩
  unfold T44q
  refine wp_i64 (by omega) (wp_loop L rfl (.done (by simp[T44q_l1_x]) ?_) (wp_leaf rfl ⟨rfl,rfl⟩))
  unfold T44q_l1_b
  exact wp_sp (fun h=>by have:=of_decide_eq_true h; simp at this; omega) (fun _=>wp_leaf rfl ⟨rfl,rfl⟩)
 ·obtain ⟨L',q1,q2,q3⟩:=S44qo lv (a:=a) hc hN h3 (b - (a+1)) (a+1) L (by omega) (by omega) hL
  refine ⟨L',⟨lv,n,L,a,b,rfl,rfl,?_⟩,q2,fun Q hO hQ=>q3 Q hO hQ fun p q h1 h2 h3=>by omega⟩
  unfold T44q
  exact wp_i64 (by omega) (wp_loop _ rfl q1 (wp_leaf rfl ⟨rfl,rfl⟩))

end Go.Ax
