/- Contracts: numbers laid and read; checks. -/
import Derived.Test.YtbdfbdlfipcleaaGreatDoorG23
import Derived.Test.YtbdfbdlfipcleaaGreatDoorG21
import Derived.Test.YtbdfbdlfipcleaaGreatDoorG22
set_option linter.unusedVariables false
set_option linter.unusedSimpArgs false
set_option linter.unusedSectionVars false
namespace Go.Ax
open Go.Proofs Go.RowKit
set_option maxRecDepth 100000

theorem wp_int {d:Nat} {z y:Int} {k:Tree} {K:AE→St→Prop} (hz:z=y) (h:k.wp K):(Tree.int d z y k).wp K:=⟨hz,h⟩
theorem u8_of {x:Int} (h:0≤x∧x<256):(((UInt8.ofNat x.toNat).toNat:Nat):Int)=x:=by
 rw[UInt8.toNat_ofNat']
 omega
theorem src_one {x:Int} (h:0≤x∧x<256):(ASrc.row 1 [vn .u8 x]).ok byteE [UInt8.ofNat x.toNat]:=
 ⟨rfl,by show [vn .u8 x]= [vn .u8 (((UInt8.ofNat x.toNat).toNat:Nat):Int)]; rw[u8_of h]⟩
theorem or128 (n:Nat):orI ((n:Int) % 256) 128=((n % 128+128:Nat):Int):=by
 have key:∀ m:Fin 256,m.val ||| 128=m.val % 128+128:=by decide
 have:=key ⟨n % 256,by omega⟩
 unfold orI
 have h1:((n:Int) % 256).toNat=n % 256:=by omega
 rw[h1]
 change (((n % 256 ||| 128:Nat)):Int)=_
 rw[this,Nat.mod_mod_of_dvd n (by decide:128 ∣ 256)]

theorem putN_lt {n:Nat} (h:n<128):putN n= [UInt8.ofNat n]:=by rw[putN,dif_pos h]
theorem putN_ge {n:Nat} (h:¬n<128):putN n=UInt8.ofNat (n % 128+128)::putN (n / 128):=by rw[putN,dif_neg h]
theorem putN_len {n:Nat}:∀ {k:Nat},n<128 ^ (k+1)→(putN n).length≤k+1:=by
 induction n using Nat.strongRecOn with
 | _ n ih=>
  intro k hk
  by_cases h:n<128
  ·rw[putN_lt h]; simp
  ·rw[putN_ge h]
   cases k with
   | zero=>omega
   | succ k=>
    have:=ih (n / 128) (by omega) (k:=k) (by rw[Nat.div_lt_iff_lt_mul (by decide)]; rw[Nat.pow_succ] at hk; exact hk)
    simp only[List.length_cons]; omega
theorem putN_len64 {n:Nat} (h:n<18446744073709551616):(putN n).length≤10:=putN_len (k:=9) (by omega)

theorem putn_rounds:∀ (n:Nat) (L:List UInt8),n<18446744073709551616→((L.length+(putN n).length:Nat):Int)≤1000000000→∃ x:Int×List UInt8,Rounds TPut_n_l1_e TPut_n_l1_x noX (fun s=>(TPut_n_l1_b s).wp) (L,(n:Int)) (.inl x)∧(0≤x.1∧x.1<128)∧x.2++ [UInt8.ofNat x.1.toNat]=L++putN n∧((x.2.length+1:Nat):Int)≤1000000000:=by
 intro n
 induction n using Nat.strongRecOn with
 | _ n ih=>
  intro L hn hL
  by_cases h:n<128
  ·rw[putN_lt h] at hL ⊢
   refine ⟨((n:Int),L), .done (by intro e; cases e) ?_,by simp only; omega,by simp,by simpa using hL⟩
   unfold TPut_n_l1_b
   exact wp_sp (fun h'=>absurd (of_decide_eq_true h') (by simp only; omega)) (fun _=>wp_leaf rfl ⟨rfl,rfl⟩)
  ·rw[putN_ge h] at hL ⊢
   simp only[List.length_cons] at hL
   obtain ⟨x,hr,h1,h2,h3⟩:=ih (n / 128) (by omega) (L++ [UInt8.ofNat (n % 128+128)]) (by omega) (by simp only[List.length_append,List.length_singleton]; omega)
   refine ⟨x, .next ?_ hr,h1,by rw[h2]; simp,h3⟩
   unfold TPut_n_l1_b
   have e1:=or128 n
   refine wp_sp (fun _=>wp_int (wrap8 _) (wp_int (or8 (by simp only; omega) (by decide)) (wp_app (src_one (by simp only; omega)) rfl (by simp only[List.length_append,List.length_singleton]; omega) (wp_int (shr7 _) (wp_leaf rfl ⟨rfl,?_⟩))))) (fun h'=>absurd (of_decide_eq_false h') (by simp only; omega))
   simp only[e1,Int.toNat_natCast]
   rfl

theorem putr_rounds:∀ (n:Nat) (L:List UInt8),n<18446744073709551616→((L.length+(putN n).length:Nat):Int)≤1000000000→∃ x:Int×List UInt8,Rounds TPut_r_l1_e TPut_r_l1_x noX (fun s=>(TPut_r_l1_b s).wp) (L,(n:Int)) (.inl x)∧(0≤x.1∧x.1<128)∧x.2++ [UInt8.ofNat x.1.toNat]=L++putN n∧((x.2.length+1:Nat):Int)≤1000000000:=by
 intro n
 induction n using Nat.strongRecOn with
 | _ n ih=>
  intro L hn hL
  by_cases h:n<128
  ·rw[putN_lt h] at hL ⊢
   refine ⟨((n:Int),L), .done (by intro e; cases e) ?_,by simp only; omega,by simp,by simpa using hL⟩
   unfold TPut_r_l1_b
   exact wp_sp (fun h'=>absurd (of_decide_eq_true h') (by simp only; omega)) (fun _=>wp_leaf rfl ⟨rfl,rfl⟩)
  ·rw[putN_ge h] at hL ⊢
   simp only[List.length_cons] at hL
   obtain ⟨x,hr,h1,h2,h3⟩:=ih (n / 128) (by omega) (L++ [UInt8.ofNat (n % 128+128)]) (by omega) (by simp only[List.length_append,List.length_singleton]; omega)
   refine ⟨x, .next ?_ hr,h1,by rw[h2]; simp,h3⟩
   unfold TPut_r_l1_b
   have e1:=or128 n
   refine wp_sp (fun _=>wp_int (wrap8 _) (wp_int (or8 (by simp only; omega) (by decide)) (wp_app (src_one (by simp only; omega)) rfl (by simp only[List.length_append,List.length_singleton]; omega) (wp_int (shr7 _) (wp_leaf rfl ⟨rfl,?_⟩))))) (fun h'=>absurd (of_decide_eq_false h') (by simp only; omega))
   simp only[e1,Int.toNat_natCast]
   rfl

def RowR (pre:List AV) (post:List AV) (M:List UInt8):RSpec:=fun args B r B'=>
 (args=pre++nilS::post∧B= []∧r= .rs 0 0 1 0 M.length∧B'= [byteE.bx 0 M]) ∨
 ∃ L:List UInt8,((L.length+M.length:Nat):Int)≤1000000000∧args=pre++ .rs 0 0 1 0 L.length::post∧B= [byteE.bx 0 L]∧r= .rs 1 0 1 0 (L++M).length∧B'= [byteE.bx 1 [],byteE.bx 0 (L++M)]
def OPut:RSpec:=fun args B r B'=>∃ n:Int,(0≤n∧n<18446744073709551616)∧RowR [] [vn .u64 n] (putI n) args B r B'

theorem SPut:SoundR DP iPut OPut:=sound_genT mixedD Γ0_ok Δ0_ok hfPut hePut hbPut (by
 rintro args B r B' ⟨n,hn,⟨rfl,rfl,rfl,rfl⟩ | ⟨L,hL,rfl,rfl,rfl,rfl⟩⟩
 ·refine ⟨by rw[hnPut]; rfl,_,TPut_n_chk n,?_⟩
  unfold TPut_n
  obtain ⟨m,rfl⟩:=Int.eq_ofNat_of_zero_le hn.1
  obtain ⟨x,hr,h1,h2,h3⟩:=putn_rounds m [] (by omega) (by have:=putN_len64 (n:=m) (by omega); simp only[List.length_nil]; omega)
  refine wp_loop x rfl hr (wp_int (wrap8 _) (wp_app (src_one (by omega)) rfl (by simpa using h3) (wp_leaf rfl ?_)))
  have e:x.2++ [UInt8.ofNat (x.1 % 256).toNat]=putI (m:Int):=by
   rw[show x.1 % 256=x.1 by omega,h2,putI,Int.toNat_natCast]; rfl
  rw[e]
  exact ⟨rfl,rfl⟩
 ·refine ⟨by rw[hnPut]; rfl,_,TPut_r_chk L n,?_⟩
  unfold TPut_r
  obtain ⟨m,rfl⟩:=Int.eq_ofNat_of_zero_le hn.1
  obtain ⟨x,hr,h1,h2,h3⟩:=putr_rounds m L (by omega) (by simpa [putI] using hL)
  refine wp_loop x rfl hr (wp_int (wrap8 _) (wp_app (src_one (by omega)) rfl (by simpa using h3) (wp_leaf rfl ?_)))
  have e:x.2++ [UInt8.ofNat (x.1 % 256).toNat]=L++putI (m:Int):=by
   rw[show x.1 % 256=x.1 by omega,h2,putI,Int.toNat_natCast]
  rw[e]
  exact ⟨rfl,rfl⟩)

theorem leN_len (n k:Nat):(leN n k).length=k:=by
 induction k generalizing n with
 | zero=>rfl
 | succ k ih=>rw[leN,List.length_cons,ih]
theorem leI_len (n:Int) (k:Int):(leI n k).length=k.toNat:=leN_len _ _

theorem mod256_b (x:Int):0≤x % 256∧x % 256<256:=by omega
theorem litn_rounds (k:Int) (hk:k≤100) (j:Nat):∀ (i:Int) (n:Nat) (L:List UInt8),0≤i→i+j=k→n<18446744073709551616→((L.length+j:Nat):Int)≤1000000000→Rounds (TLit_n_l1_e k) TLit_n_l1_x noX (fun s=>(TLit_n_l1_b k s).wp) (L,(n:Int),i) (.inl (L++leN n j)):=by
 induction j with
 | zero=>
  intro i n L h0 h1 hn hL
  refine .done (by intro e; cases e) ?_
  unfold TLit_n_l1_b
  refine wp_sp (fun h'=>absurd (of_decide_eq_true h') (by simp only; omega)) (fun _=>wp_leaf rfl ⟨rfl,?_⟩)
  simp only[leN,List.append_nil]
 | succ j ih=>
  intro i n L h0 h1 hn hL
  have hr:=ih (i+1) (n / 256) (L++ [UInt8.ofNat (n % 256)]) (by omega) (by omega) (by omega) (by simp only[List.length_append,List.length_singleton]; omega)
  have e2:L++leN n (j+1)=(L++ [UInt8.ofNat (n % 256)])++leN (n / 256) j:=by rw[leN,List.append_assoc]; rfl
  rw[e2]
  refine .next ?_ hr
  unfold TLit_n_l1_b
  refine wp_sp (fun _=>wp_int (wrap8 _) (wp_app (src_one (mod256_b _)) rfl (by simp only[List.length_append,List.length_singleton]; omega) (wp_int (shr8 _) (wp_i64 (by simp only; omega) (wp_leaf rfl ⟨rfl,?_⟩))))) (fun h'=>absurd (of_decide_eq_false h') (by simp only; omega))
  have e:((n:Int) % 256).toNat=n % 256:=by omega
  have e3:(n:Int) / 256=((n / 256:Nat):Int):=by omega
  simp only[e,e3]
theorem litr_rounds (k:Int) (hk:k≤100) (j:Nat):∀ (i:Int) (n:Nat) (L:List UInt8),0≤i→i+j=k→n<18446744073709551616→((L.length+j:Nat):Int)≤1000000000→Rounds (TLit_r_l1_e k) TLit_r_l1_x noX (fun s=>(TLit_r_l1_b k s).wp) (L,(n:Int),i) (.inl (L++leN n j)):=by
 induction j with
 | zero=>
  intro i n L h0 h1 hn hL
  refine .done (by intro e; cases e) ?_
  unfold TLit_r_l1_b
  refine wp_sp (fun h'=>absurd (of_decide_eq_true h') (by simp only; omega)) (fun _=>wp_leaf rfl ⟨rfl,?_⟩)
  simp only[leN,List.append_nil]
 | succ j ih=>
  intro i n L h0 h1 hn hL
  have hr:=ih (i+1) (n / 256) (L++ [UInt8.ofNat (n % 256)]) (by omega) (by omega) (by omega) (by simp only[List.length_append,List.length_singleton]; omega)
  have e2:L++leN n (j+1)=(L++ [UInt8.ofNat (n % 256)])++leN (n / 256) j:=by rw[leN,List.append_assoc]; rfl
  rw[e2]
  refine .next ?_ hr
  unfold TLit_r_l1_b
  refine wp_sp (fun _=>wp_int (wrap8 _) (wp_app (src_one (mod256_b _)) rfl (by simp only[List.length_append,List.length_singleton]; omega) (wp_int (shr8 _) (wp_i64 (by simp only; omega) (wp_leaf rfl ⟨rfl,?_⟩))))) (fun h'=>absurd (of_decide_eq_false h') (by simp only; omega))
  have e:((n:Int) % 256).toNat=n % 256:=by omega
  have e3:(n:Int) / 256=((n / 256:Nat):Int):=by omega
  simp only[e,e3]
def OLit:RSpec:=fun args B r B'=>∃ n k:Int,(0≤n∧n<18446744073709551616)∧(0≤k∧k≤8)∧RowR [] [vn .u64 n,vi k] (leI n k) args B r B'
theorem SLit:SoundR DP iLit OLit:=sound_genT mixedD Γ0_ok Δ0_ok hfLit heLit hbLit (by
 rintro args B r B' ⟨n,k,hn,hk,⟨rfl,rfl,rfl,rfl⟩ | ⟨L,hL,rfl,rfl,rfl,rfl⟩⟩
 ·refine ⟨by rw[hnLit]; rfl,_,TLit_n_chk n k,?_⟩
  unfold TLit_n
  obtain ⟨m,rfl⟩:=Int.eq_ofNat_of_zero_le hn.1
  have hr:=litn_rounds k (by omega) k.toNat 0 m [] (by omega) (by omega) (by omega) (by simp only[List.length_nil]; omega)
  refine wp_loop (leI m k) rfl (by simpa [leI] using hr) (wp_leaf rfl ⟨rfl,rfl⟩)
 ·refine ⟨by rw[hnLit]; rfl,_,TLit_r_chk L n k,?_⟩
  unfold TLit_r
  obtain ⟨m,rfl⟩:=Int.eq_ofNat_of_zero_le hn.1
  rw[leI_len] at hL
  have hr:=litr_rounds k (by omega) k.toNat 0 m L (by omega) (by omega) (by omega) hL
  refine wp_loop (L++leI m k) rfl (by simpa [leI] using hr) (wp_leaf rfl ⟨rfl,rfl⟩))

theorem div16_b {x:Int} (h:0≤x∧x<4294967296):0≤x / 16∧x / 16<4294967296:=by omega
theorem mod16_b (x:Int):0≤x % 16∧x % 16<16:=by omega

theorem get_snoc {α:Type} {l:List α} {i:Nat} (h:i<l.length):∃ a,l[i]? = some a∧l.take (i+1)=l.take i++ [a]:=by
 refine ⟨l[i],List.getElem?_eq_getElem h,?_⟩
 rw[List.take_add_one,List.getElem?_eq_getElem h]; rfl

theorem more_rounds (b:List UInt8) (hb:b.length≤1000000000) (r0:Int) (h0:0≤r0∧r0<4294967296):∀ (j i:Nat),i+j=b.length→Rounds (TMore_l1_e b) TMore_l1_x noX (fun s=>(TMore_l1_b b s).wp) ((i:Int),(b.take i).foldl stepI r0) (.inl (b.foldl stepI r0))
 | 0,i,hi=>by
  refine .done (by intro e; cases e) ?_
  unfold TMore_l1_b
  refine wp_sp (fun h'=>absurd (of_decide_eq_true h') (by simp only; omega)) (fun _=>wp_leaf rfl ⟨rfl,?_⟩)
  rw[List.take_of_length_le (by omega)]
 | j+1,i,hi=>by
  obtain ⟨a,ha,ht⟩:=get_snoc (l:=b) (i:=i) (by omega)
  refine .next ?_ (more_rounds b hb r0 h0 j (i+1) (by omega))
  have hr:=fold_b h0 (b.take i)
  have hx:=xorI_32 hr (by have:=u8_b a; omega:0≤(a.toNat:Int)∧(a.toNat:Int)<4294967296)
  have hh:=halfI_b hx
  unfold TMore_l1_b
  refine wp_sp (fun _=>wp_elem a (by simp only; omega) (by simpa using ha) (wp_int (wrap32id (by have:=u8_b a; omega)) (wp_int (xor32 hr (by have:=u8_b a; omega)) (wp_int (shr4 _) (wp_int (and15 hx) (wp_val (by rw[table_at (mod16_b _)]; rfl) (wp_int (xor32 (div16_b hx) (hA_b _)) (wp_int (shr4 _) (wp_int (and15 hh) (wp_val (by rw[table_at (mod16_b _)]; rfl) (wp_int (xor32 (div16_b hh) (hA_b _)) (wp_i64 (by simp only; omega) (wp_leaf rfl ⟨rfl,?_⟩))))))))))))) (fun h'=>absurd (of_decide_eq_false h') (by simp only; omega))
  rw[ht,List.foldl_append]
  rfl
theorem morer_rounds (b:List UInt8) (hb:b.length≤1000000000) (r0:Int) (h0:0≤r0∧r0<4294967296):∀ (j i:Nat),i+j=b.length→Rounds (TMoreR_l1_e b) (TMoreR_l1_x b) noX (fun s=>(TMoreR_l1_b b s).wp) ((i:Int),(b.take i).foldl stepI r0) (.inl (b.foldl stepI r0))
 | 0,i,hi=>by
  refine .done (by intro e; cases e) ?_
  unfold TMoreR_l1_b
  refine wp_sp (fun h'=>absurd (of_decide_eq_true h') (by simp only; omega)) (fun _=>wp_leaf rfl ⟨rfl,?_⟩)
  rw[List.take_of_length_le (by omega)]
 | j+1,i,hi=>by
  obtain ⟨a,ha,ht⟩:=get_snoc (l:=b) (i:=i) (by omega)
  refine .next ?_ (morer_rounds b hb r0 h0 j (i+1) (by omega))
  have hr:=fold_b h0 (b.take i)
  have hx:=xorI_32 hr (by have:=u8_b a; omega:0≤(a.toNat:Int)∧(a.toNat:Int)<4294967296)
  have hh:=halfI_b hx
  unfold TMoreR_l1_b
  refine wp_sp (fun _=>wp_ridx (by simp only; omega) (by simp only; omega) (wp_rload a (by simp only; omega) rfl (by simpa using ha) (wp_int (wrap32id (by have:=u8_b a; omega)) (wp_int (xor32 hr (by have:=u8_b a; omega)) (wp_int (shr4 _) (wp_int (and15 hx) (wp_val (by rw[table_at (mod16_b _)]; rfl) (wp_int (xor32 (div16_b hx) (hA_b _)) (wp_int (shr4 _) (wp_int (and15 hh) (wp_val (by rw[table_at (mod16_b _)]; rfl) (wp_int (xor32 (div16_b hh) (hA_b _)) (wp_i64 (by simp only; omega) (wp_leaf rfl ⟨rfl,?_⟩)))))))))))))) (fun h'=>absurd (of_decide_eq_false h') (by simp only; omega))
  rw[ht,List.foldl_append]
  rfl

def RMore:List AV→AV→Prop:=fun args r=>∃ (s:Int) (b:List UInt8),(0≤s∧s<4294967296)∧b.length≤1000000000∧args= [vn .u32 s,vl (b.map byteE.f)]∧r=vn .u32 (moreI s b)
noncomputable def gMore:=relG RMore
theorem SMore:SoundF DP iMore (.pure gMore):=sound_pureT mixedD Γ0_ok Δ0_ok hfMore heMore hbMore (by
 rintro args r ⟨s,b,hs,hb,rfl,rfl⟩
 refine ⟨rfl,rfl,_,TMore_chk s b,?_⟩
 unfold TMore
 have hr:=more_rounds b hb (4294967295 - s) (by omega) b.length 0 (by omega)
 have hf:=fold_b (r:=4294967295 - s) (by omega) b
 exact wp_int (comp32 hs) (wp_len (wp_loop _ rfl hr (wp_int (comp32 hf) (wp_leaf rfl (.p _))))))
def OMoreR:RSpec:=fun args B r B'=>∃ (s:Int) (L:List UInt8),(0≤s∧s<4294967296)∧L.length≤1000000000∧args= [vn .u32 s, .rs 0 0 1 0 L.length]∧B= [byteE.bx 0 L]∧r=vn .u32 (moreI s L)∧B'=B
theorem SMoreR:SoundR DP iMore OMoreR:=sound_genT mixedD Γ0_ok Δ0_ok hfMore heMore hbMore (by
 rintro args B r B' ⟨s,b,hs,hb,rfl,rfl,rfl,rfl⟩
 refine ⟨by rw[hnMore]; rfl,_,TMoreR_chk s b,?_⟩
 unfold TMoreR
 have hr:=morer_rounds b hb (4294967295 - s) (by omega) b.length 0 (by omega)
 have hf:=fold_b (r:=4294967295 - s) (by omega) b
 exact wp_int (comp32 hs) (wp_loop _ rfl hr (wp_int (comp32 hf) (wp_leaf rfl ⟨rfl,rfl⟩))))

def RMask:List AV→AV→Prop:=fun args r=>∃ (s:Int),(0≤s∧s<4294967296)∧args= [vn .u32 s]∧r=vn .u32 (maskI s)
noncomputable def gMask:=relG RMask
theorem SMask:SoundF DP iMask (.pure gMask):=sound_pureT mixedD Γ0_ok Δ0_ok hfMask heMask hbMask (by
 rintro args r ⟨s,hs,rfl,rfl⟩
 refine ⟨rfl,rfl,_,TMask_chk s,?_⟩
 unfold TMask
 exact wp_int (shr15 _) (wp_int (wrap32 _) (wp_int (or32 (by omega) (by omega)) (wp_int (wrap32 _) (wp_leaf rfl (.p _))))))

end Go.Ax

namespace Go.Ax
open Go.Proofs Go.RowKit
set_option maxRecDepth 100000

theorem numN_lt (l:List UInt8):numN l<256 ^ l.length:=by
 induction l with
 | nil=>decide
 | cons c l ih=>
  rw[numN,List.length_cons,Nat.pow_succ]
  have:=c.toNat_lt
  have h2:c.toNat+256*numN l<256*(numN l+1):=by omega
  exact Nat.lt_of_lt_of_le h2 (by rw[Nat.mul_comm]; exact Nat.mul_le_mul_right 256 ih)
theorem orI_shift {m c k:Nat} (h:c<2 ^ k):orI ((m*2 ^ k:Nat):Int) (c:Int)=((m*2 ^ k+c:Nat):Int):=by
 unfold orI
 rw[Int.toNat_natCast,Int.toNat_natCast,←Nat.shiftLeft_eq,←Nat.shiftLeft_add_eq_or_of_lt h]
theorem orI_comm (a b:Int):orI a b=orI b a:=by unfold orI; rw[Nat.or_comm]
theorem orI_256 {n:Nat} (c:UInt8) (h:n<256 ^ 7):orI (((n:Int)*256) % 18446744073709551616) (c.toNat:Int)=((c.toNat+256*n:Nat):Int):=by
 have e:((n:Int)*256) % 18446744073709551616=((n*2 ^ 8:Nat):Int):=by omega
 rw[e,orI_shift (by have:=c.toNat_lt; omega)]
 omega

theorem little_rounds (b:List UInt8) (hb:b.length≤1000000000):∀ (j:Nat),j≤(b.take 8).length→Rounds (TLittle_l1_e b) TLittle_l1_x noX (fun s=>(TLittle_l1_b b s).wp) (((numN ((b.take 8).drop j):Nat):Int),(j:Int) - 1) (.inl ((numN (b.take 8):Nat):Int)):=by
 intro j
 induction j with
 | zero=>
  intro _
  refine .done (by intro e; cases e) ?_
  unfold TLittle_l1_b
  refine wp_sp (fun h'=>absurd (of_decide_eq_true h') (by simp only; omega)) (fun _=>wp_leaf rfl ⟨rfl,rfl⟩)
 | succ j ih=>
  intro hj
  refine .next ?_ (ih (by omega))
  have hl:(b.take 8).length≤8:=by simp; omega
  have hjb:j<b.length:=by simp at hj; omega
  have ha:b[j]? = some b[j]:=List.getElem?_eq_getElem hjb
  have hd:(b.take 8).drop j=b[j]::(b.take 8).drop (j+1):=by
   rw[List.drop_eq_getElem_cons (by omega)]
   simp
  have hn:numN ((b.take 8).drop (j+1))<256 ^ 7:=by
   have h1:=numN_lt ((b.take 8).drop (j+1))
   exact Nat.lt_of_lt_of_le h1 (Nat.pow_le_pow_right (by decide) (by rw[List.length_drop]; omega))
  unfold TLittle_l1_b
  refine wp_sp (fun _=>wp_int (wrap64 _) (wp_elem b[j] (by simp only; omega) (by simp only; rw[show (((j+1:Nat):Int) - 1).toNat=j by omega]; exact ha) (wp_int (wrap64id (by have:=u8_b b[j]; omega)) (wp_int (or64 (by simp only; omega) (by have:=u8_b b[j]; omega)) (wp_i64 (by simp only; omega) (wp_leaf rfl ⟨rfl,?_⟩)))))) (fun h'=>absurd (of_decide_eq_false h') (by simp only; omega))
  have e1:=orI_256 b[j] hn
  have e2:((j+1:Nat):Int) - 1 - 1=(j:Int) - 1:=by omega
  simp only[e1,e2,hd,numN]

def RLittle:List AV→AV→Prop:=fun args r=>∃ (b:List UInt8),b.length≤1000000000∧args= [vl (b.map byteE.f)]∧r=vn .u64 (littleI b)
noncomputable def gLittle:=relG RLittle
theorem SLittle:SoundF DP iLittle (.pure gLittle):=sound_pureT mixedD Γ0_ok Δ0_ok hfLittle heLittle hbLittle (by
 rintro args r ⟨b,hb,rfl,rfl⟩
 refine ⟨rfl,rfl,_,TLittle_chk b,?_⟩
 unfold TLittle
 have hr:=little_rounds b hb (b.take 8).length (Nat.le_refl _)
 rw[List.drop_of_length_le (Nat.le_refl _)] at hr
 have e:(if (8:Int)<((b.length:Int):Int) then (8:Int) else ((b.length:Int):Int))=(((b.take 8).length:Nat):Int):=by
  rw[List.length_take]; split <;> omega
 rw[e]
 have hl:(b.take 8).length≤8:=by simp; omega
 exact wp_len (wp_i64 (by omega) (wp_loop _ rfl hr (wp_leaf rfl (.p _)))))

theorem shl_val {x s:Int} {B:List Box} (h:0≤s):(binA DP .shl 44 (vn .u64 x) (vi s)).map (fun v=>(v,B))=some (vn .u64 (IntKind.u64.wrap (x*2 ^ (min (Int.toNat s) 64))),B):=by
 show (((if s<0 then none else some _:Option Value)).map _).map _=_
 rw[if_neg (by omega)]
 rfl
theorem get_step {a i:Nat} (c:UInt8) (hi:i≤9) (ha:a<2 ^ (7*i)) (hc:i=9→c.toNat≤1):
  orI (a:Int) (IntKind.u64.wrap (((c.toNat:Int) % 128)*2 ^ (min (Int.toNat (7*(i:Int))) 64)))=((a+c.toNat % 128*2 ^ (7*i):Nat):Int) ∧
  (0≤IntKind.u64.wrap (((c.toNat:Int) % 128)*2 ^ (min (Int.toNat (7*(i:Int))) 64))∧IntKind.u64.wrap (((c.toNat:Int) % 128)*2 ^ (min (Int.toNat (7*(i:Int))) 64))<18446744073709551616):=by
 have e1:min (Int.toNat (7*(i:Int))) 64=7*i:=by omega
 have e2:((c.toNat:Int) % 128)*2 ^ (7*i)=((c.toNat % 128*2 ^ (7*i):Nat):Int):=by simp
 have hlt:c.toNat % 128*2 ^ (7*i)<18446744073709551616:=by
  by_cases h9:i=9
  ·subst h9
   have:=hc rfl
   have h3:c.toNat % 128≤1:=by omega
   exact Nat.lt_of_le_of_lt (Nat.mul_le_mul_right _ h3) (by decide)
  ·have h3:c.toNat % 128≤127:=by omega
   have h4:2 ^ (7*i)≤2 ^ 56:=Nat.pow_le_pow_right (by decide) (by omega)
   exact Nat.lt_of_le_of_lt (Nat.mul_le_mul h3 h4) (by decide)
 rw[e1,e2,wrap64id (by omega)]
 refine ⟨?_,by omega⟩
 rw[orI_comm,orI_shift ha,Nat.add_comm]

theorem get_rounds (b:List UInt8) (hb:b.length≤1000000000):∀ (rest:List UInt8) (i a:Nat),b.drop i=rest→i≤9→a<2 ^ (7*i) →
  Rounds (TGet_l1_e b) TGet_l1_x TGet_l1_x' (fun s=>(TGet_l1_b b s).wp) ((i:Int),(a:Int)) (.inl (((getA i a rest).1:Int),((getA i a rest).2.1:Int),((getA i a rest).2.2:Int))) ∨
  (Rounds (TGet_l1_e b) TGet_l1_x TGet_l1_x' (fun s=>(TGet_l1_b b s).wp) ((i:Int),(a:Int)) (.inr ())∧getA i a rest=(0,0,8)):=by
 intro rest
 induction rest with
 | nil=>
  intro i a hd hi ha
  have hl:b.length≤i:=List.drop_eq_nil_iff.1 hd
  refine .inr ⟨.done' (by intro e; cases e) ?_,rfl⟩
  unfold TGet_l1_b
  exact wp_sp (fun h'=>absurd (of_decide_eq_true h') (by simp only; omega)) (fun _=>wp_leaf rfl ⟨rfl,rfl⟩)
 | cons c r ih=>
  intro i a hd hi ha
  have hlt:i<b.length:=by
   rcases Nat.lt_or_ge i b.length with h | h
   ·exact h
   ·rw[List.drop_of_length_le h] at hd; cases hd
  have hg:b[i]? = some c:=by
   rw[←List.head?_drop,hd]; rfl
  have hdr:b.drop (i+1)=r:=by rw[←List.tail_drop,hd]; rfl
  have hcb:=c.toNat_lt
  have hA:a<18446744073709551616:=Nat.lt_of_lt_of_le ha (Nat.le_trans (Nat.pow_le_pow_right (by decide) (by omega:7*i≤64)) (by decide))
  by_cases herr:i=9∧1<c.toNat
  ·refine .inl (.done (by intro e; cases e) ?_)
   rw[getA,if_pos herr]
   unfold TGet_l1_b
   exact wp_sp (fun _=>wp_elem c (by simp only; omega) (by simpa using hg) (wp_sp (fun _=>wp_sp (fun _=>wp_leaf rfl ⟨rfl,rfl⟩) (fun h=>absurd (of_decide_eq_false h) (by omega))) (fun h=>absurd h (by simp[herr.1])))) (fun h=>absurd (of_decide_eq_false h) (by simp only; omega))
  ·obtain ⟨s1,s2⟩:=get_step c hi ha (fun h=>by omega)
   have hm:(0:Int)≤(c.toNat:Int) % 128∧(c.toNat:Int) % 128<128:=by omega
   have hsz:a+c.toNat % 128*2 ^ (7*i)<2 ^ (7*(i+1)):=by
    rw[show 7*(i+1)=7*i+7 by omega,Nat.pow_add]
    have h3:c.toNat % 128≤127:=by omega
    have:=Nat.mul_le_mul_right (2 ^ (7*i)) h3
    omega
   rw[getA,if_neg herr]
   by_cases h128:c.toNat<128
   ·rw[if_pos h128]
    have hcm:c.toNat % 128=c.toNat:=Nat.mod_eq_of_lt h128
    refine .inl (.done (by intro e; cases e) ?_)
    by_cases hz:c.toNat=0∧0<i
    ·rw[if_pos hz]
     unfold TGet_l1_b
     refine wp_sp (fun _=>wp_elem c (by simp only; omega) (by simpa using hg) (wp_sp (fun h9=>wp_sp (fun h=>absurd (of_decide_eq_true h) (by simp only[beq_iff_eq] at h9; omega)) (fun _=>?_)) (fun _=>?_))) (fun h=>absurd (of_decide_eq_false h) (by simp only; omega))
     all_goals exact wp_int (and127 (by omega)) (wp_int (wrap64id (by omega)) (wp_i64 (by simp only; omega) (wp_val (shl_val (by simp only; omega)) (wp_int (or64 (by simp only; omega) s2) (wp_sp (fun _=>wp_sp (fun _=>wp_sp (fun _=>wp_leaf rfl ⟨rfl,rfl⟩) (fun h=>absurd (of_decide_eq_false h) (by simp only; omega))) (fun h=>absurd h (by simp[hz.1]))) (fun h=>absurd (of_decide_eq_false h) (by omega)))))))
    ·rw[if_neg hz]
     unfold TGet_l1_b
     refine wp_sp (fun _=>wp_elem c (by simp only; omega) (by simpa using hg) (wp_sp (fun h9=>wp_sp (fun h=>absurd (of_decide_eq_true h) (by simp only[beq_iff_eq] at h9; omega)) (fun _=>?_)) (fun _=>?_))) (fun h=>absurd (of_decide_eq_false h) (by simp only; omega))
     all_goals refine wp_int (and127 (by omega)) (wp_int (wrap64id (by omega)) (wp_i64 (by simp only; omega) (wp_val (shl_val (by simp only; omega)) (wp_int (or64 (by simp only; omega) s2) (wp_sp (fun _=>wp_sp (fun h0=>wp_sp (fun h1=>absurd (of_decide_eq_true h1) (by simp only[beq_iff_eq] at h0; simp only; omega)) (fun _=>wp_i64 (by simp only; omega) (wp_leaf rfl ⟨rfl,?_⟩))) (fun _=>wp_i64 (by simp only; omega) (wp_leaf rfl ⟨rfl,?_⟩))) (fun h=>absurd (of_decide_eq_false h) (by omega)))))))
     all_goals
      simp only[s1,hcm]
      rfl
   ·rw[if_neg h128]
    have hi8:i+1≤9:=by omega
    have hnext:=ih (i+1) (a+c.toNat % 128*2 ^ (7*i)) hdr hi8 hsz
    have hb1:(TGet_l1_b b ((i:Int),(a:Int))).wp (fun e s=>e= .normal∧s=TGet_l1_e b (((i+1:Nat):Int),((a+c.toNat % 128*2 ^ (7*i):Nat):Int))):=by
     unfold TGet_l1_b
     refine wp_sp (fun _=>wp_elem c (by simp only; omega) (by simpa using hg) (wp_sp (fun h9=>wp_sp (fun h=>absurd (of_decide_eq_true h) (by simp only[beq_iff_eq] at h9; omega)) (fun _=>?_)) (fun _=>?_))) (fun h=>absurd (of_decide_eq_false h) (by simp only; omega))
     all_goals refine wp_int (and127 (by omega)) (wp_int (wrap64id (by omega)) (wp_i64 (by simp only; omega) (wp_val (shl_val (by simp only; omega)) (wp_int (or64 (by simp only; omega) s2) (wp_sp (fun h=>absurd (of_decide_eq_true h) (by omega)) (fun _=>wp_i64 (by simp only; omega) (wp_leaf rfl ⟨rfl,?_⟩)))))))
     all_goals
      simp only[s1]
      rfl
    rcases hnext with h | ⟨h,he⟩
    ·exact .inl (.next hb1 h)
    ·exact .inr ⟨.next hb1 h,he⟩

def RGet:List AV→AV→Prop:=fun args r=>∃ (b:List UInt8),b.length≤1000000000∧args= [vl (b.map byteE.f)]∧r= .tup [vn .u64 (getI b).1,vi (getI b).2.1,vi (getI b).2.2]
noncomputable def gGet:=relG RGet
theorem seal_tup {S:Nat→Prop} {B:List Box} {cs ds:List AV} (h:cs=ds) (hp:cs.all isPl=true):Sealed S B (.tup cs) (.tup ds):=by
 subst h
 refine .tup _ _ rfl fun j c d hc hd=>?_
 rw[hc] at hd; cases hd
 have:=List.all_eq_true.1 hp c (List.mem_of_getElem? hc)
 cases c with
 | p x=>exact .p x
 | _=>cases this
theorem SGet:SoundF DP iGet (.pure gGet):=sound_pureT mixedD Γ0_ok Δ0_ok hfGet heGet hbGet (by
 rintro args r ⟨b,hb,rfl,rfl⟩
 refine ⟨rfl,rfl,_,TGet_chk b,?_⟩
 unfold TGet
 rcases get_rounds b hb b 0 0 rfl (by decide) (by decide) with h | ⟨h,he⟩
 ·exact wp_len (wp_loop _ rfl h (wp_leaf rfl (seal_tup rfl rfl)))
 ·refine wp_len (wp_loop' _ rfl h (wp_leaf rfl (seal_tup ?_ rfl)))
  unfold getI
  rw[he]
  rfl)

end Go.Ax

namespace Go.Ax
open Go.Proofs Go.RowKit
set_option maxRecDepth 100000

theorem one_arg {a b:AV} (h: [a]= [b]):a=b:=by cases h; rfl
theorem two_arg {a b c d:AV} (h: [a,b]= [c,d]):a=c∧b=d:=by cases h; exact ⟨rfl,rfl⟩
theorem vl_inj' {a b:List UInt8} (h:vl (a.map byteE.f)=vl (b.map byteE.f)):a=b:=by
 have h1:PV.ls (a.map byteE.f)=PV.ls (b.map byteE.f):=by injection h
 have h2:a.map byteE.f=b.map byteE.f:=by injection h1
 exact byte_inj h2
theorem vn_inj' {k:IntKind} {a b:Int} (h:vn k a=vn k b):a=b:=by
 have h1:PV.v (.int k a)=PV.v (.int k b):=by injection h
 have h2:Value.int k a=Value.int k b:=by injection h1
 injection h2

theorem gMore_eq {s:Int} {b:List UInt8} (hs:0≤s∧s<4294967296) (hb:b.length≤1000000000):gMore [vn .u32 s,vl (b.map byteE.f)]=some (vn .u32 (moreI s b)):=
 relG_eq (fun args r r' ⟨s1,b1,_,_,h1,h2⟩ ⟨s2,b2,_,_,h3,h4⟩=>by
  obtain ⟨e1,e2⟩:=two_arg (h1.symm.trans h3)
  rw[h2,h4,vn_inj' e1,vl_inj' e2]) ⟨s,b,hs,hb,rfl,rfl⟩
theorem gMask_eq {s:Int} (hs:0≤s∧s<4294967296):gMask [vn .u32 s]=some (vn .u32 (maskI s)):=
 relG_eq (fun args r r' ⟨s1,_,h1,h2⟩ ⟨s2,_,h3,h4⟩=>by
  rw[h2,h4,vn_inj' (one_arg (h1.symm.trans h3))]) ⟨s,hs,rfl,rfl⟩
theorem gLittle_eq {b:List UInt8} (hb:b.length≤1000000000):gLittle [vl (b.map byteE.f)]=some (vn .u64 (littleI b)):=
 relG_eq (fun args r r' ⟨b1,_,h1,h2⟩ ⟨b2,_,h3,h4⟩=>by
  rw[h2,h4,vl_inj' (one_arg (h1.symm.trans h3))]) ⟨b,hb,rfl,rfl⟩
theorem gGet_eq {b:List UInt8} (hb:b.length≤1000000000):gGet [vl (b.map byteE.f)]=some (.tup [vn .u64 (getI b).1,vi (getI b).2.1,vi (getI b).2.2]):=
 relG_eq (fun args r r' ⟨b1,_,h1,h2⟩ ⟨b2,_,h3,h4⟩=>by
  rw[h2,h4,vl_inj' (one_arg (h1.symm.trans h3))]) ⟨b,hb,rfl,rfl⟩

noncomputable def Γ1:Env:=envP [(iMore,gMore)]
theorem Γ1_ok:∀ f,SoundF DP f (Γ1 f):=envP_cons SMore envP_nil
def Δ1:REnv:=envR [(iLit,liftR OLit),(iMore,liftR OMoreR)]
theorem Δ1_ok:∀ f,SoundR DP f (Δ1 f):=envR_cons (lift_sound SLit) (envR_cons (lift_sound SMoreR) envR_nil)
end Go.Ax

namespace Go.Ax
open Go.Proofs Go.RowKit
set_option maxRecDepth 100000

noncomputable def TPutL_n (n:Int):Tree:=
.callr (some 12) (Δ1 62 [nilS,vn .u64 n,vi 4] [] (.rs 0 0 1 0 ((leI n 4).length)) [byteE.bx 0 (leI n 4)]) (.rs 0 0 1 0 ((leI n 4).length)) [byteE.bx 0 (leI n 4)] (.leaf ⟨[0],[(0,0,some ((leI n 4).map byteE.f))]⟩ [rowC ((leI n 4).map byteE.f)] .ret (some ([(0, .rs 0 0 1 0 ((leI n 4).length))],[byteE.bx 0 (leI n 4)])))

theorem TPutL_n_chk (n:Int):fnC DP Γ1 Δ1 Tryz.f28 [nilS,vn .u64 n,vi 4] [] (TPutL_n n)=TPutL_n n:=by kernel_rfl

noncomputable def TPutL_r (L:List UInt8) (n:Int):Tree:=
.callr (some 12) (Δ1 62 [.rs 0 0 1 0 L.length,vn .u64 n,vi 4] [byteE.bx 0 L] (.rs 1 0 1 0 ((L++leI n 4).length)) [byteE.bx 1 ([]:List UInt8),byteE.bx 0 (L++leI n 4)]) (.rs 1 0 1 0 ((L++leI n 4).length)) [byteE.bx 1 ([]:List UInt8),byteE.bx 0 (L++leI n 4)] (.leaf ⟨[0],[(0,0,some (([]:List UInt8).map byteE.f)),(1,0,some ((L++leI n 4).map byteE.f))]⟩ [rowC (([]:List UInt8).map byteE.f),rowC ((L++leI n 4).map byteE.f)] .ret (some ([(0, .rs 1 0 1 0 ((L++leI n 4).length))],[byteE.bx 1 ([]:List UInt8),byteE.bx 0 (L++leI n 4)])))

theorem TPutL_r_chk (L:List UInt8) (n:Int):fnC DP Γ1 Δ1 Tryz.f28 [.rs 0 0 1 0 L.length,vn .u64 n,vi 4] [byteE.bx 0 L] (TPutL_r L n)=TPutL_r L n:=by kernel_rfl

noncomputable def TSum (b:List UInt8):Tree:=
.call 4 (gMore [vn .u32 0,vl (b.map byteE.f)]=some (vn .u32 (moreI 0 b))) (vn .u32 (moreI 0 b)) (.leaf ⟨[0],[]⟩ [] .ret (some ([(0,vn .u32 (moreI 0 b))],[])))

theorem TSum_chk (b:List UInt8):fnC DP Γ1 Δ1 Tryz.f86 [vl (b.map byteE.f)] [] (TSum b)=TSum b:=by kernel_rfl

noncomputable def TSumR (L:List UInt8):Tree:=
.callr (some 4) (Δ1 94 [vn .u32 0, .rs 0 0 1 0 L.length] [byteE.bx 0 L] (vn .u32 (moreI 0 L)) [byteE.bx 0 L]) (vn .u32 (moreI 0 L)) [byteE.bx 0 L] (.leaf ⟨[0],[(0,0,some (L.map byteE.f))]⟩ [rowC (L.map byteE.f)] .ret (some ([(0,vn .u32 (moreI 0 L))],[byteE.bx 0 L])))

theorem TSumR_chk (L:List UInt8):fnC DP Γ1 Δ1 Tryz.f86 [.rs 0 0 1 0 L.length] [byteE.bx 0 L] (TSumR L)=TSumR L:=by kernel_rfl

end Go.Ax

namespace Go.Ax
open Go.Proofs Go.RowKit
set_option maxRecDepth 100000

theorem cLit_n {n:Int} {B:List Box} (hn:0≤n∧n<18446744073709551616):Δ1 iLit [nilS,vn .u64 n,vi 4] B (.rs B.length 0 1 0 (leI n 4).length) (B++ [byteE.bx 0 (leI n 4)]):=
 lift_newrow (al:= [nilS,vn .u64 n,vi 4]) (R:=OLit) ⟨n,4,hn,by decide, .inl ⟨rfl,rfl,rfl,rfl⟩⟩ rfl
theorem cLit_r {n:Int} {B:List Box} {b v:Nat} {L:List UInt8} (hn:0≤n∧n<18446744073709551616) (hb:B[b]? = some (byteE.bx v L)) (hl:((L.length+4:Nat):Int)≤1000000000):
  Δ1 iLit [.rs b v 1 0 L.length,vn .u64 n,vi 4] B (.rs B.length 0 1 0 (L++leI n 4).length) (B.set b (byteE.bx (v+1) [])++ [byteE.bx 0 (L++leI n 4)]):=
 lift_row (R:=OLit) (pre:= []) ⟨n,4,hn,by decide, .inr ⟨L,by rw[leI_len]; exact hl,rfl,rfl,rfl,rfl⟩⟩ hb rfl rfl
theorem cMoreR {s:Int} {B:List Box} {b v:Nat} {L:List UInt8} (hs:0≤s∧s<4294967296) (hb:B[b]? = some (byteE.bx v L)) (hl:L.length≤1000000000):Δ1 iMore [vn .u32 s, .rs b v 1 0 L.length] B (vn .u32 (moreI s L)) B:=
 lift_seerow (R:=OMoreR) (pre:= [vn .u32 s]) (post:= []) ⟨s,L,hs,hl,rfl,rfl,rfl,rfl⟩ hb rfl rfl

def OPutL:RSpec:=fun args B r B'=>∃ n:Int,(0≤n∧n<18446744073709551616)∧RowR [] [vn .u64 n,vi 4] (leI n 4) args B r B'
theorem SPutL:SoundR DP iPutL OPutL:=sound_genT mixedD Γ1_ok Δ1_ok hfPutL hePutL hbPutL (by
 rintro args B r B' ⟨n,hn,⟨rfl,rfl,rfl,rfl⟩ | ⟨L,hL,rfl,rfl,rfl,rfl⟩⟩
 ·refine ⟨by rw[hnPutL]; rfl,_,TPutL_n_chk n,?_⟩
  unfold TPutL_n
  exact wp_callr (cLit_n hn) (wp_leaf rfl ⟨rfl,rfl⟩)
 ·refine ⟨by rw[hnPutL]; rfl,_,TPutL_r_chk L n,?_⟩
  unfold TPutL_r
  rw[leI_len] at hL
  exact wp_callr (cLit_r hn rfl hL) (wp_leaf rfl ⟨rfl,rfl⟩))

def RSum:List AV→AV→Prop:=fun args r=>∃ (b:List UInt8),b.length≤1000000000∧args= [vl (b.map byteE.f)]∧r=vn .u32 (crcI b)
noncomputable def gSum:=relG RSum
theorem SSum:SoundF DP iSum (.pure gSum):=sound_pureT mixedD Γ1_ok Δ1_ok hfSum heSum hbSum (by
 rintro args r ⟨b,hb,rfl,rfl⟩
 refine ⟨rfl,rfl,_,TSum_chk b,?_⟩
 unfold TSum
 exact wp_call (gMore_eq (by decide) hb) (wp_leaf rfl (.p _)))
theorem gSum_eq {b:List UInt8} (hb:b.length≤1000000000):gSum [vl (b.map byteE.f)]=some (vn .u32 (crcI b)):=
 relG_eq (fun args r r' ⟨b1,_,h1,h2⟩ ⟨b2,_,h3,h4⟩=>by
  rw[h2,h4,vl_inj' (one_arg (h1.symm.trans h3))]) ⟨b,hb,rfl,rfl⟩
def OSumR:RSpec:=fun args B r B'=>∃ (L:List UInt8),L.length≤1000000000∧args= [.rs 0 0 1 0 L.length]∧B= [byteE.bx 0 L]∧r=vn .u32 (crcI L)∧B'=B
theorem SSumR:SoundR DP iSum OSumR:=sound_genT mixedD Γ1_ok Δ1_ok hfSum heSum hbSum (by
 rintro args B r B' ⟨b,hb,rfl,rfl,rfl,rfl⟩
 refine ⟨by rw[hnSum]; rfl,_,TSumR_chk b,?_⟩
 unfold TSumR
 exact wp_callr (cMoreR (by decide) rfl hb) (wp_leaf rfl ⟨rfl,rfl⟩))

noncomputable def Γ2:Env:=envP [(iMask,gMask),(iSum,gSum),(iLittle,gLittle),(iGet,gGet)]
theorem Γ2_ok:∀ f,SoundF DP f (Γ2 f):=envP_cons SMask (envP_cons SSum (envP_cons SLittle (envP_cons SGet envP_nil)))
def Δ2:REnv:=envR [(iPutL,liftR OPutL),(iSum,liftR OSumR),(iPut,liftR OPut)]
theorem Δ2_ok:∀ f,SoundR DP f (Δ2 f):=envR_cons (lift_sound SPutL) (envR_cons (lift_sound SSumR) (envR_cons (lift_sound SPut) envR_nil))

section
variable {n : Int} {B : List Box} {b v : Nat} {L : List UInt8}
theorem oPut_n (hn:0≤n∧n<18446744073709551616):liftR OPut [nilS,vn .u64 n] B (.rs B.length 0 1 0 (putI n).length) (B++ [byteE.bx 0 (putI n)]):=
 lift_newrow (al:= [nilS,vn .u64 n]) (R:=OPut) ⟨n,hn, .inl ⟨rfl,rfl,rfl,rfl⟩⟩ rfl
theorem oPut_r (hn:0≤n∧n<18446744073709551616) (hb:B[b]? = some (byteE.bx v L)) (hl:((L.length+(putI n).length:Nat):Int)≤1000000000):
  liftR OPut [.rs b v 1 0 L.length,vn .u64 n] B (.rs B.length 0 1 0 (L++putI n).length) (B.set b (byteE.bx (v+1) [])++ [byteE.bx 0 (L++putI n)]):=
 lift_row (R:=OPut) (pre:= []) ⟨n,hn, .inr ⟨L,hl,rfl,rfl,rfl,rfl⟩⟩ hb rfl rfl
end
end Go.Ax

namespace Go.Ax
open Go.Proofs Go.RowKit
set_option maxRecDepth 100000

abbrev iRPut:Nat:=58
noncomputable abbrev nRPut:Func:=Tryz.f58
theorem hfRPut:DP.funcs[iRPut]? = some nRPut:=by kernel_rfl
theorem heRPut:enters DP iRPut=true:=by kernel_rfl
theorem hbRPut:nRPut.body.isSome=true:=by kernel_rfl
theorem hnRPut:nRPut.ntmps=35:=by kernel_rfl
abbrev iNext:Nat:=71
noncomputable abbrev nNext:Func:=Tryz.f71
theorem hfNext:DP.funcs[iNext]? = some nNext:=by kernel_rfl
theorem heNext:enters DP iNext=true:=by kernel_rfl
theorem hbNext:nNext.body.isSome=true:=by kernel_rfl
noncomputable def TNext (b:List UInt8):Tree:=
.int 8 ((b.map byteE.f).length:Int) (b.length:Int) (.sp 9 (decide ((b.length:Int)<(12:Int))) (
.leaf ⟨[0],[]⟩ [] .ret (some ([(0, .tup [nilS,vi 0,vi 8])],[]))) (
.cut 11 (b.map byteE.f) none (some 4) byteE b (.call 12 (gLittle [vl ((cutL none (some 4) b).map byteE.f)]=some (vn .u64 (littleI (cutL none (some 4) b)))) (vn .u64 (littleI (cutL none (some 4) b))) (.cut 14 (b.map byteE.f) (some 4) (some 8) byteE b (.call 15 (gLittle [vl ((cutL (some 4) (some 8) b).map byteE.f)]=some (vn .u64 (littleI (cutL (some 4) (some 8) b)))) (vn .u64 (littleI (cutL (some 4) (some 8) b))) (.int 16 (IntKind.u32.wrap (littleI (cutL (some 4) (some 8) b))) ((littleI (cutL (some 4) (some 8) b)) % 4294967296) (.cut 18 (b.map byteE.f) none (some 4) byteE b (.call 19 (gSum [vl ((cutL none (some 4) b).map byteE.f)]=some (vn .u32 (crcI (cutL none (some 4) b)))) (vn .u32 (crcI (cutL none (some 4) b))) (.call 20 (gMask [vn .u32 (crcI (cutL none (some 4) b))]=some (vn .u32 (maskI (crcI (cutL none (some 4) b))))) (vn .u32 (maskI (crcI (cutL none (some 4) b)))) (.sp 21 (((littleI (cutL (some 4) (some 8) b)) % 4294967296) != (maskI (crcI (cutL none (some 4) b)))) (
.leaf ⟨[0],[]⟩ [] .ret (some ([(0, .tup [nilS,vi 0,vi 12])],[]))) (
.sp 24 (decide ((littleI (cutL none (some 4) b))>(1048576:Int))) (
.leaf ⟨[0],[]⟩ [] .ret (some ([(0, .tup [nilS,vi 0,vi 12])],[]))) (
.int 27 ((b.map byteE.f).length:Int) (b.length:Int) (.int 28 (IntKind.u64.wrap ((b.length:Int))) ((b.length:Int)) (.int 30 (IntKind.u64.wrap (12+(littleI (cutL none (some 4) b)))) (12+(littleI (cutL none (some 4) b))) (.sp 31 (decide ((b.length:Int)<(12+(littleI (cutL none (some 4) b))))) (
.leaf ⟨[0],[]⟩ [] .ret (some ([(0, .tup [nilS,vi 0,vi 8])],[]))) (
.int 34 (IntKind.u64.wrap (12+(littleI (cutL none (some 4) b)))) (12+(littleI (cutL none (some 4) b))) (.cut 35 (b.map byteE.f) (some 12) (some (12+(littleI (cutL none (some 4) b)))) byteE b (.cut 37 (b.map byteE.f) (some 8) (some 12) byteE b (.call 38 (gLittle [vl ((cutL (some 8) (some 12) b).map byteE.f)]=some (vn .u64 (littleI (cutL (some 8) (some 12) b)))) (vn .u64 (littleI (cutL (some 8) (some 12) b))) (.int 39 (IntKind.u32.wrap (littleI (cutL (some 8) (some 12) b))) ((littleI (cutL (some 8) (some 12) b)) % 4294967296) (.call 41 (gSum [vl ((cutL (some 12) (some (12+(littleI (cutL none (some 4) b)))) b).map byteE.f)]=some (vn .u32 (crcI (cutL (some 12) (some (12+(littleI (cutL none (some 4) b)))) b)))) (vn .u32 (crcI (cutL (some 12) (some (12+(littleI (cutL none (some 4) b)))) b))) (.call 42 (gMask [vn .u32 (crcI (cutL (some 12) (some (12+(littleI (cutL none (some 4) b)))) b))]=some (vn .u32 (maskI (crcI (cutL (some 12) (some (12+(littleI (cutL none (some 4) b)))) b))))) (vn .u32 (maskI (crcI (cutL (some 12) (some (12+(littleI (cutL none (some 4) b)))) b)))) (.sp 43 (((littleI (cutL (some 8) (some 12) b)) % 4294967296) != (maskI (crcI (cutL (some 12) (some (12+(littleI (cutL none (some 4) b)))) b)))) (
.leaf ⟨[0],[]⟩ [] .ret (some ([(0, .tup [nilS,vi 0,vi 12])],[]))) (
.appn 45 (.ls ((cutL (some 12) (some (12+(littleI (cutL none (some 4) b)))) b).map byteE.f)) byteE (cutL (some 12) (some (12+(littleI (cutL none (some 4) b)))) b) (.int 47 (IntKind.i64.wrap ((littleI (cutL none (some 4) b)))) ((littleI (cutL none (some 4) b))) (.int 48 (IntKind.i64.wrap (12+(littleI (cutL none (some 4) b)))) (12+(littleI (cutL none (some 4) b))) (.leaf ⟨[0],[(0,0,some ((cutL (some 12) (some (12+(littleI (cutL none (some 4) b)))) b).map byteE.f))]⟩ [rowC ((cutL (some 12) (some (12+(littleI (cutL none (some 4) b)))) b).map byteE.f)] .ret (some ([(0, .tup [.rs 0 0 1 0 ((cutL (some 12) (some (12+(littleI (cutL none (some 4) b)))) b).length),vi (12+(littleI (cutL none (some 4) b))),vi 0])],[byteE.bx 0 (cutL (some 12) (some (12+(littleI (cutL none (some 4) b)))) b)])))))))))))))))))))))))))))))

theorem TNext_chk (b:List UInt8):fnC DP Γ2 Δ2 Tryz.f71 [vl (b.map byteE.f)] [] (TNext b)=TNext b:=by kernel_rfl

end Go.Ax
