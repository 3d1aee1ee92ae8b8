/- FileTurns: the contract. -/
import Derived.Test.YtbdfbdlfipcleaaDoorG43
import Derived.Test.YtbdfbdlfipcleaaDoorG42
import Derived.Test.YtbdfbdlfipcleaaDoorTie
import Derived.Test.YtbdfbdlfipcleaaDoorG11
import Derived.OpenShut
import Derived.WalkKit
import Derived.ProofKit
import Derived.LaidMore
import Derived.LaidLaws
import Derived.LaidHandle
import Derived.Lib.LaidTab
import Derived.Stop.Joined
set_option linter.unusedVariables false
set_option linter.unusedSimpArgs false
set_option linter.unusedSectionVars false
namespace Go.Ax
open Go.Proofs Go.RowKit
set_option maxRecDepth 100000

theorem ΔS3_ok:∀ f,SoundR DP f (ΔS3 f):=envR_cons (lift_sound SNew)<|envR_cons (lift_sound SFWrite)<|envR_cons (lift_sound SFOpen)<|envR_cons (lift_sound SFGet)<|envR_cons (lift_sound SSpoil)<|envR_cons (lift_sound SFPages)<|envR_cons (lift_sound SFPage) envR_nil
theorem andI64 {a:Int} (m:Nat) (hm:m≤32):IntKind.i64.wrap ((BitVec.ofInt IntKind.i64.bits a &&& BitVec.ofInt IntKind.i64.bits ((2 ^ m - 1:Nat):Int)).toNat)=a % ((2 ^ m:Nat):Int):=by
 have h2:2 ^ m - 1<2 ^ 64:=Nat.lt_of_lt_of_le (Nat.sub_lt (Nat.two_pow_pos m) Nat.one_pos) (Nat.pow_le_pow_right (by decide) (by omega))
 have hp:(2:Nat) ^ m≤2 ^ 32:=Nat.pow_le_pow_right (by decide) hm
 show IntKind.i64.wrap (((BitVec.ofInt 64 a &&& BitVec.ofInt 64 ((2 ^ m - 1:Nat):Int)).toNat:Nat):Int)=_
 rw[BitVec.toNat_and,BitVec.ofInt_natCast,BitVec.toNat_ofNat,Nat.mod_eq_of_lt h2,Nat.and_two_pow_sub_one_eq_mod,BitVec.toNat_ofInt]
 have hpos:0<(2:Nat) ^ m:=Nat.two_pow_pos m
 have hd:((2 ^ m:Nat):Int) ∣ ((2 ^ 64:Nat):Int):=Int.natCast_dvd_natCast.2 (Nat.pow_dvd_pow 2 (by omega))
 have hnn:0≤a % ((2 ^ 64:Nat):Int):=Int.emod_nonneg _ (by decide)
 have e:(((a % ((2 ^ 64:Nat):Int)).toNat % 2 ^ m:Nat):Int)=a % ((2 ^ m:Nat):Int):=by
  rw[Int.natCast_emod,Int.toNat_of_nonneg hnn,Int.emod_emod_of_dvd _ hd]
 rw[e]
 have h3:=Int.emod_lt_of_pos a (b:=((2 ^ m:Nat):Int)) (by omega)
 have h4:=Int.emod_nonneg a (b:=((2 ^ m:Nat):Int)) (by omega)
 have h5:((2 ^ m:Nat):Int)≤4294967296:=by
  have:(2:Nat) ^ 32=4294967296:=by decide
  omega
 exact wrap_i64 (by omega)
section
variable {A : List Ent} {C : List (List Ent)} {D2 : Dsk} {F1 : FileR} {bits : UInt8} {seq : Int} {P : Int → List Ent × Int}
theorem turns_in {c:List Ent} {k0:Nat} {s1:Int×Int} (hc:(P s1.2).1=c) (hN:A.length≤1000) (hk:k0+c.length≤A.length) (hs:∀ (j:Nat) (x:Ent),c[j]? = some x→A[k0+j]? = some x):∀ (M:List Ent) (j:Nat),c.drop j=M→j+M.length=c.length →
  Rounds (TTurns_l5_e bits A D2 F1 P s1) TTurns_l5_x (TTurns_l5_x' bits A D2 F1 s1) (fun z=>(TTurns_l5_b bits seq A D2 F1 P s1 z).wp) ((j:Int),((k0+j:Nat):Int)) (.inr ((k0+c.length:Nat):Int)):=by
 intro M
 induction M with
 | nil=>
  intro j hM hl
  simp only[List.length_nil] at hl
  refine .done' (by intro e; cases e) ?_
  unfold TTurns_l5_b
  rw[hc]
  refine wp_sp (fun h'=>absurd (of_decide_eq_true h') (by simp only; omega)) (fun _=>wp_leaf rfl ⟨rfl,?_⟩)
  rw[show j=c.length by omega]
 | cons x M ih=>
  intro j hM hl
  simp only[List.length_cons] at hl
  have gx:c[j]? = some x:=by rw[←List.head?_drop,hM]; rfl
  have ga:=hs j x gx
  have hr:=ih (j+1) (by rw[←List.drop_drop,hM]; rfl) (by omega)
  rw[show ((k0+(j+1):Nat):Int)=((k0+j:Nat):Int)+1 by omega,show ((j+1:Nat):Int)=(j:Int)+1 by omega] at hr
  refine .next ?_ hr
  have hJ:(TTurns_j6 bits A D2 F1 P s1 ((j:Int),((k0+j:Nat):Int)) false).wp (fun e s=>e=AE.normal∧s=TTurns_l5_e bits A D2 F1 P s1 ((j:Int)+1,((k0+j:Nat):Int)+1)):=by
   unfold TTurns_j6
   exact wp_br (fun q=>by cases q) (fun _=>wp_i64 (by first | omega | (simp only; omega)) (wp_i64 (by first | omega | (simp only; omega)) (wp_leaf rfl ⟨rfl,rfl⟩)))
  unfold TTurns_l5_b
  rw[hc]
  exact wp_sp (fun _=>wp_elem0 x (by simp only; omega) (by simpa using gx) (wp_len (wp_sp (fun q=>absurd (of_decide_eq_true q) (by simp only; omega)) (fun _=>wp_elem0 x (by simp only; omega) (by show A[Int.toNat ((k0+j:Nat):Int)]? = some x; rw[Int.toNat_natCast]; exact ga) (wp_sp (fun q=>by rw[ent_eqb rfl] at q; cases q) (fun _=>wp_join rfl hJ)))))) (fun h'=>absurd (of_decide_eq_false h') (by simp only; omega))
theorem turns_r (h:Fits A) (hl:Live D2) (hF:F1=fileOf A) (ht:Turn (fileY A) (contF D2 ⟨#[102]⟩)) (hP:P=pageI (contF D2 ⟨#[102]⟩) F1.idx) (hC:C=chunks A 0 []):∀ (M:List (List Ent)) (i:Nat),C.drop i=M→i+M.length=C.length →
  ∃ x,(x= .inl true∨x= .inr (A.length:Int))∧Rounds (TTurns_l4_e bits A D2 F1) TTurns_l4_x (TTurns_l4_x' A) (fun s=>(TTurns_l4_b bits seq A D2 F1 P s).wp) ((((C.take i).flatten.length:Nat):Int),(i:Int)) x:=by
 have hfew:=h.few
 have hcl:=h.chunks_len
 have hfl:=h.flat
 have hok:=fileOf_ok h
 have hix:F1.idx.length=C.length:=by rw[hF,hC]; exact idxL_len _ _
 rw[←hC] at hfl hcl
 intro M
 induction M with
 | nil=>
  intro i hM hm
  simp only[List.length_nil] at hm
  refine ⟨.inr (A.length:Int), .inr rfl, .done' (by intro e; cases e) ?_⟩
  unfold TTurns_l4_b
  refine wp_callr (oFil (b:=1) (l:=0) rfl rfl rfl) (wp_sp (fun h'=>absurd (of_decide_eq_true h') (by simp only; omega)) (fun _=>wp_leaf rfl ⟨rfl,?_⟩))
  rw[show i=C.length by omega,List.take_length,hfl]
 | cons c M ih=>
  intro i hM hm
  simp only[List.length_cons] at hm
  have hi:i<C.length:=by omega
  have gx:C[i]? = some c:=by rw[←List.head?_drop,hM]; rfl
  have gi:C[i]=c:=by rw[List.getElem?_eq_getElem hi] at gx; exact Option.some.inj gx
  obtain ⟨x,hx,hr⟩:=ih (i+1) (by rw[←List.drop_drop,hM]; rfl) (by omega)
  have cp:=fun (B:List Box) (hb:B[1]? = some (dskB D2)) (hl':B[0]? = some (filC 1 ⟨#[102]⟩ F1))=>oFPage (l:=0) (b:=1) (i:=(i:Int)) hl.ok hl.up (by rw[hF]; exact hok) hb hl'
  rw[←hP] at cp
  have hpg:P (i:Int)=(c,0)∨P (i:Int)=([],12):=by
   have hi':i<(chunks A 0 []).length:=by rw[←hC]; exact hi
   have h1:=page_file h hi'
   have h2:=page_turn h ht (i:Int)
   simp only[←hC] at h1 h2
   rw[gi] at h1
   rw[h1] at h2
   rw[hP,hF]
   show pageI _ (idxL 0 (chunks A 0 [])) i=_∨pageI _ (idxL 0 (chunks A 0 [])) i=_
   rw[←hC]
   exact h2
  rcases hpg with hp | hp
  ·refine ⟨x,hx,?_⟩
   have hcm:c∈chunks A 0 []:=by rw[←hC,←gi]; exact List.getElem_mem hi
   have hsp:=flat_split C i hi
   rw[hfl,gi] at hsp
   have hAl:=congrArg List.length hsp
   simp only[List.length_append] at hAl
   have htk:((C.take (i+1)).flatten.length:Int)=(((C.take i).flatten.length+c.length:Nat):Int):=by
    rw[List.take_succ_eq_append_getElem hi,gi]; simp
   rw[htk,show ((i+1:Nat):Int)=(i:Int)+1 by omega] at hr
   have hin:=turns_in (bits:=bits) (seq:=seq) (D2:=D2) (F1:=F1) (P:=P) (A:=A) (c:=c) (k0:=(C.take i).flatten.length) (s1:=((((C.take i).flatten.length:Nat):Int),(i:Int))) (by show (P (i:Int)).1=c; rw[hp]) (by omega) (by omega) (fun j x hj=>by
    have hjl:j<c.length:=(List.getElem?_eq_some_iff.1 hj).1
    rw[hsp,List.getElem?_append_right (by omega),Nat.add_sub_cancel_left,List.getElem?_append_left hjl]
    exact hj) c 0 List.drop_zero (Nat.zero_add _)
   refine .next ?_ hr
   unfold TTurns_l4_b
   refine wp_callr (oFil (b:=1) (l:=0) rfl rfl rfl) (wp_sp (fun _=>?_) (fun h'=>absurd (of_decide_eq_false h') (by simp only; omega)))
   refine wp_callr (cp _ rfl rfl) (wp_sp (fun q=>?_) (fun _=>wp_len (wp_loop' _ rfl hin (wp_i64 (by first | omega | (simp only; omega)) (wp_leaf rfl ⟨rfl,rfl⟩)))))
   have q:(P (i:Int)).2=12:=by simpa using q
   rw[hp] at q
   cases q
  ·refine ⟨.inl true, .inl rfl, .done (by intro e; cases e) ?_⟩
   unfold TTurns_l4_b
   refine wp_callr (oFil (b:=1) (l:=0) rfl rfl rfl) (wp_sp (fun _=>?_) (fun h'=>absurd (of_decide_eq_false h') (by simp only; omega)))
   refine wp_callr (cp _ rfl rfl) (wp_sp (fun q=>wp_leaf rfl ⟨rfl,rfl⟩) (fun q=>?_))
   have q:(P (i:Int)).2≠12:=by simpa using q
   rw[hp] at q
   exact absurd rfl q
end
theorem turn_disk {A:List Ent} (hf:Fits A) (hlen:(fileY A).length≤600000) (a:Int) (bits:UInt8) {D1 D2:Dsk} {p:Int} (h1:D1=(writeD (newD 1048576) ⟨#[102]⟩ (fileY A)).1) (hp:p=Int.tmod (a % ((2 ^ 20:Nat):Int)) ((fileY A).length:Int)) (h2:D2=(spoilD D1 ⟨#[102]⟩ p bits).1):
  (writeD (newD 1048576) ⟨#[102]⟩ (fileY A)).2=(((fileY A).length:Int),0)∧Live D1∧contF D1 ⟨#[102]⟩=fileY A∧D1.get ⟨#[102]⟩≠none∧((fileY A).length:Int)≠0∧(spoilD D1 ⟨#[102]⟩ p bits).2=0∧Live D2∧D2.get ⟨#[102]⟩≠none∧Turn (fileY A) (contF D2 ⟨#[102]⟩):=by
 have hl:Live (newD 1048576):=live_new
 obtain ⟨a1,a2,a3,a4,a5,a6⟩:=write_open hl (nm:=⟨#[102]⟩) (by decide) (cont_new _ _) hf (by show _≤(1048576:Int) - 0; omega)
 rw[←h1] at a2 a3 a4 a5
 have hpos:52≤(fileY A).length:=by
  have:=footB_len A
  simp only[fileY,List.length_append]
  omega
 have hm:0≤a % ((2 ^ 20:Nat):Int):=Int.emod_nonneg _ (by decide)
 have hp0:0≤p∧p<(fileY A).length:=by
  rw[hp,Int.tmod_eq_emod_of_nonneg hm]
  exact ⟨Int.emod_nonneg _ (by omega),Int.emod_lt_of_pos _ (by omega)⟩
 obtain ⟨c1,c2,c3⟩:=cont_spoil a2 a3 hp0 bits
 rw[←h2] at c2 c3
 have c4:=c3 ⟨#[102]⟩
 rw[if_pos rfl] at c4
 obtain ⟨c5,c6⟩:=contF_some c4
 exact ⟨a1,a2,a4,a5,by omega,c1,c2,c6,p.toNat,bits,by omega,c5⟩
def RTurns:List AV→AV→Prop:=fun args r=>∃ (L:List Ent) (t a:Int) (bits:UInt8) (k:ByteArray) (seq:Int),(∀ x∈L,seqIn x)∧(-(2 ^ 63:Int)≤t∧t<2 ^ 63)∧(-(2 ^ 63:Int)≤a∧a<2 ^ 63)∧(0≤seq∧seq<18446744073709551616)∧args= [vl (L.map entE.f),vi t,vi a,vn .u8 (bits.toNat:Int),vs k,vn .u64 seq]∧r=vb true
noncomputable def gTurns:=relG RTurns
theorem STurns:SoundF DP iTurns (.pure gTurns):=sound_pureT mixedD ΓS1_ok ΔS3_ok hfTurns heTurns hbTurns (by
 rintro args r ⟨L,t,a,bits,k,seq,hL1,hL2,ha,hs,rfl,rfl⟩
 have hL:LawL L t:=⟨hL1,hL2⟩
 have hl:Live (newD 1048576):=live_new
 obtain ⟨A,hA⟩:∃ A,A=someL t L:=⟨_,rfl⟩
 obtain ⟨D1,h1⟩:∃ D1,D1=(writeD (newD 1048576) ⟨#[102]⟩ (fileY A)).1:=⟨_,rfl⟩
 obtain ⟨p,hp⟩:∃ p,p=Int.tmod (a % ((2 ^ 20:Nat):Int)) ((fileY A).length:Int):=⟨_,rfl⟩
 obtain ⟨D2,h2⟩:∃ D2,D2=(spoilD D1 ⟨#[102]⟩ p bits).1:=⟨_,rfl⟩
 have front:∀ hb:bigE L=false,gSomeL [vl (L.map entE.f),vi t]=some (vl (A.map entE.f))∧(A≠ []→Fits A∧(fileY A).length≤600000):=fun hb=>by
  have:=law_some hL hb
  rw[←hA] at this
  exact this
 obtain ⟨G,hG⟩:∃ G,G=getE (contF D2 ⟨#[102]⟩) (fileOf A) k seq:=⟨_,rfl⟩
 obtain ⟨G1,hG1⟩:∃ G,G=getE (fileY A) (fileOf A) k seq:=⟨_,rfl⟩
 have cw:=fun (hf:Fits A) (B:List Box) (hb:B[0]? = some (dskB (newD 1048576)))=>oFWrite (b:=0) hl.ok hf (nm:=⟨#[102]⟩) (by decide) hb
 rw[←h1] at cw
 by_cases hop:(openI (contF D2 ⟨#[102]⟩)).2=0
 ·refine ⟨rfl,rfl,_,TTurns_chk L t a bits k seq A (newD 1048576) D1 D2 (fileOf A) (fileY A).length G1.1 G1.2.1 G.1 G.2.1 G.2.2 G.1 G.2.1 G.2.2 (pageI (contF D2 ⟨#[102]⟩) (fileOf A).idx),?_⟩
  have j1:∀ K:AE→St→Prop,K .ret ([(0,vb true)],[])→(TTurns_j1 L t a bits k seq A (newD 1048576) D1 D2 (fileOf A) (fileY A).length G1.1 G1.2.1 G.1 G.2.1 G.2.2 G.1 G.2.1 G.2.2 (pageI (contF D2 ⟨#[102]⟩) (fileOf A).idx) true).wp K:=fun K hK=>by
   unfold TTurns_j1
   exact wp_br (fun _=>wp_leaf rfl hK) (fun q=>by cases q)
  unfold TTurns
  refine wp_call gHeadF_eq (wp_call (gBigL_eq L) (wp_sp (fun _=>wp_join rfl (j1 _ (.p _))) (fun hb=>wp_sp (fun _=>wp_join rfl (j1 _ (.p _))) (fun hk=>wp_join rfl ?_))))
  have hk:=of_decide_eq_false hk
  obtain ⟨s1,s2⟩:=front hb
  unfold TTurns_j1
  refine wp_br (fun q=>by cases q) (fun _=>wp_call s1 (wp_len (wp_sp (fun _=>wp_leaf rfl (.p _)) (fun hz=>?_))))
  have hz:A≠ []:=fun e=>by rw[e] at hz; exact absurd hz (by decide)
  obtain ⟨hf,hlen⟩:=s2 hz
  have hfew:=hf.few
  obtain ⟨a1,a2,a4,a5,n0,c1,c2,c6,ht⟩:=turn_disk hf hlen a bits h1 hp h2
  have cw:=cw hf
  rw[a1] at cw
  have co:=fun (B:List Box) (hb:B[0]? = some (dskB D1))=>oFOpen (b:=0) a2.ok a2.up a5 (by rw[a4,openI_file hf]) hb
  rw[a4,openI_file hf] at co
  obtain ⟨u,o,hgf,hu⟩:=get_at hf k seq hs.1
  rw[←hG1] at hgf
  have cg:=fun (B:List Box) (hb:B[0]? = some (dskB D1)) (hl:B[1]? = some (filC 0 ⟨#[102]⟩ (fileOf A)))=>oFGet (l:=1) (b:=0) (k:=k) (seq:=seq) a2.ok a2.up (fileOf_ok hf) (by omega) hs hb hl
  rw[a4,←hG1,hgf] at cg
  have cs:=fun (B:List Box) (hb:B[0]? = some (dskB D1))=>oSpoil (nm:=⟨#[102]⟩) (ofs:=p) (bits:=bits) a2.ok hb
  rw[c1,←h2] at cs
  have cg2:=fun (l:Nat) (B:List Box) (hb:B[0]? = some (dskB D2)) (hl:B[l]? = some (filC 0 ⟨#[102]⟩ (fileOf A)))=>oFGet (l:=l) (b:=0) (k:=k) (seq:=seq) c2.ok c2.up (fileOf_ok hf) (by omega) hs hb hl
  rw[←hG] at cg2
  have hop2:openI (contF D2 ⟨#[102]⟩)=(fileOf A,0):=by
   rcases open_turn hf ht with e | e
   ·exact e
   ·rw[e] at hop; cases hop
  have co2:=fun (B:List Box) (hb:B[0]? = some (dskB D2))=>oFOpen (b:=0) c2.ok c2.up c6 hop hb
  rw[hop2] at co2
  have hgt:G=(u,o,0)∨G=(noE,false,12):=by
   rw[hG,←hgf,hG1]
   exact getE_turn hf ht k seq
  obtain ⟨x,hx,hr⟩:=turns_r (bits:=bits) (seq:=seq) (P:=pageI (contF D2 ⟨#[102]⟩) (fileOf A).idx) (F1:=fileOf A) (C:=chunks A 0 []) hf c2 rfl ht rfl rfl (chunks A 0 []) 0 List.drop_zero (Nat.zero_add _)
  rw[hgf]
  have hj3:(TTurns_j3 bits seq A D2 (fileOf A) (pageI (contF D2 ⟨#[102]⟩) (fileOf A).idx) false).wp (fun _ c=>Sealed (fun _=>True) c.2 (tk c.1 0) (vb true)):=by
   unfold TTurns_j3
   refine wp_br (fun q=>by cases q) (fun _=>?_)
   rcases hx with rfl | rfl
   ·exact wp_loop _ rfl hr (wp_leaf rfl (.p _))
   ·refine wp_loop' _ rfl hr (wp_len (wp_leaf rfl ?_))
    show Sealed _ _ (vb _) (vb true)
    rw[beq_self_eq_true]
    exact .p _
  have hj2:(TTurns_j2 bits k seq A D2 (fileOf A) u o G.1 G.1 G.2.1 G.2.2 (pageI (contF D2 ⟨#[102]⟩) (fileOf A).idx) false).wp (fun _ c=>Sealed (fun _=>True) c.2 (tk c.1 0) (vb true)):=by
   unfold TTurns_j2
   refine wp_br (fun q=>by cases q) (fun _=>wp_callr (co2 _ rfl) (wp_callr (cg2 3 _ rfl rfl) ?_))
   rcases hgt with e | e
   ·rw[e]
    refine wp_sp (fun _=>wp_sp (fun q=>by rw[ent_eqb rfl] at q; cases q) (fun _=>wp_sp (fun q=>by simp at q) (fun _=>wp_sp (fun q=>by simp at q) (fun _=>wp_join rfl hj3)))) (fun q=>by simp at q)
   ·rw[e]
    refine wp_sp (fun q=>by simp at q) (fun _=>wp_sp (fun _=>wp_sp (fun q=>by simp at q) (fun _=>wp_join rfl hj3)) (fun q=>by simp at q))
  refine wp_callr (oNew 1048576) (wp_callr (cw _ rfl) (wp_callr (co _ rfl) (wp_callr (cg _ rfl rfl) (wp_int (andI64 20 (by decide)) (wp_val (rem_val n0) ?_)))))
  rw[show Int.tmod (a % 1048576) ((fileY A).length:Int)=p from hp.symm]
  refine wp_callr (cs _ rfl) (wp_callr (cg2 1 _ rfl rfl) ?_)
  rcases hgt with e | e
  ·rw[e] at hj2 ⊢
   exact wp_sp (fun _=>wp_sp (fun q=>by rw[ent_eqb rfl] at q; cases q) (fun _=>wp_sp (fun q=>by simp at q) (fun _=>wp_sp (fun q=>by simp at q) (fun _=>wp_join rfl hj2)))) (fun q=>by simp at q)
  ·rw[e] at hj2 ⊢
   exact wp_sp (fun q=>by simp at q) (fun _=>wp_sp (fun _=>wp_sp (fun q=>by simp at q) (fun _=>wp_join rfl hj2)) (fun q=>by simp at q))
 ·refine ⟨rfl,rfl,_,TTurnsN_chk L t a bits k seq A (newD 1048576) D1 D2 (fileOf A) (fileY A).length G1.1 G1.2.1 G.1 G.2.1 G.2.2 G.1 G.2.1 G.2.2 (pageI (contF D2 ⟨#[102]⟩) (fileOf A).idx),?_⟩
  have j1:∀ K:AE→St→Prop,K .ret ([(0,vb true)],[])→(TTurnsN_j1 L t a bits k seq A (newD 1048576) D1 D2 (fileOf A) (fileY A).length G1.1 G1.2.1 G.1 G.2.1 G.2.2 true).wp K:=fun K hK=>by
   unfold TTurnsN_j1
   exact wp_br (fun _=>wp_leaf rfl hK) (fun q=>by cases q)
  unfold TTurnsN
  refine wp_call gHeadF_eq (wp_call (gBigL_eq L) (wp_sp (fun _=>wp_join rfl (j1 _ (.p _))) (fun hb=>wp_sp (fun _=>wp_join rfl (j1 _ (.p _))) (fun hk=>wp_join rfl ?_))))
  have hk:=of_decide_eq_false hk
  obtain ⟨s1,s2⟩:=front hb
  unfold TTurnsN_j1
  refine wp_br (fun q=>by cases q) (fun _=>wp_call s1 (wp_len (wp_sp (fun _=>wp_leaf rfl (.p _)) (fun hz=>?_))))
  have hz:A≠ []:=fun e=>by rw[e] at hz; exact absurd hz (by decide)
  obtain ⟨hf,hlen⟩:=s2 hz
  have hfew:=hf.few
  obtain ⟨a1,a2,a4,a5,n0,c1,c2,c6,ht⟩:=turn_disk hf hlen a bits h1 hp h2
  have cw:=cw hf
  rw[a1] at cw
  have co:=fun (B:List Box) (hb:B[0]? = some (dskB D1))=>oFOpen (b:=0) a2.ok a2.up a5 (by rw[a4,openI_file hf]) hb
  rw[a4,openI_file hf] at co
  obtain ⟨u,o,hgf,hu⟩:=get_at hf k seq hs.1
  rw[←hG1] at hgf
  have cg:=fun (B:List Box) (hb:B[0]? = some (dskB D1)) (hl:B[1]? = some (filC 0 ⟨#[102]⟩ (fileOf A)))=>oFGet (l:=1) (b:=0) (k:=k) (seq:=seq) a2.ok a2.up (fileOf_ok hf) (by omega) hs hb hl
  rw[a4,←hG1,hgf] at cg
  have cs:=fun (B:List Box) (hb:B[0]? = some (dskB D1))=>oSpoil (nm:=⟨#[102]⟩) (ofs:=p) (bits:=bits) a2.ok hb
  rw[c1,←h2] at cs
  have cg2:=fun (l:Nat) (B:List Box) (hb:B[0]? = some (dskB D2)) (hl:B[l]? = some (filC 0 ⟨#[102]⟩ (fileOf A)))=>oFGet (l:=l) (b:=0) (k:=k) (seq:=seq) c2.ok c2.up (fileOf_ok hf) (by omega) hs hb hl
  rw[←hG] at cg2
  have hgt:G=(u,o,0)∨G=(noE,false,12):=by
   rw[hG,←hgf,hG1]
   exact getE_turn hf ht k seq
  rw[hgf]
  have hj2:(TTurnsN_j2 seq D2 u G.1 G.2.1 false).wp (fun _ c=>Sealed (fun _=>True) c.2 (tk c.1 0) (vb true)):=by
   unfold TTurnsN_j2
   exact wp_br (fun q=>by cases q) (fun _=>wp_callr (oFOpenF (b:=0) c2.ok c2.up c6 hop rfl) (wp_leaf rfl (.p _)))
  refine wp_callr (oNew 1048576) (wp_callr (cw _ rfl) (wp_callr (co _ rfl) (wp_callr (cg _ rfl rfl) (wp_int (andI64 20 (by decide)) (wp_val (rem_val n0) ?_)))))
  rw[show Int.tmod (a % 1048576) ((fileY A).length:Int)=p from hp.symm]
  refine wp_callr (cs _ rfl) (wp_callr (cg2 1 _ rfl rfl) ?_)
  rcases hgt with e | e
  ·rw[e] at hj2 ⊢
   exact wp_sp (fun _=>wp_sp (fun q=>by rw[ent_eqb rfl] at q; cases q) (fun _=>wp_sp (fun q=>by simp at q) (fun _=>wp_sp (fun q=>by simp at q) (fun _=>wp_join rfl hj2)))) (fun q=>by simp at q)
  ·rw[e] at hj2 ⊢
   exact wp_sp (fun q=>by simp at q) (fun _=>wp_sp (fun _=>wp_sp (fun q=>by simp at q) (fun _=>wp_join rfl hj2)) (fun q=>by simp at q)))
end Go.Ax

namespace Go.Ax
open Go.Proofs Go.ChangeShapes Go.WideShapes Go.ChangeAt Go.RowKit
set_option maxRecDepth 100000

theorem tabRel {W:World} {g:Nat} {us:Array Value} {e:TypeId} {fr:Nat×Nat} (hh:W.heap[g]? = some (.cells us e fr)) (hu:us.toList.map PV.v=Glob.tab g):∀ ρ,GRel noF [] ρ W g:=fun ρ=>by
 have hl:(Glob.tab g).length=us.toList.length:=by rw[←hu]; simp
 refine ⟨.rp _ ⟨g,0,none⟩ us.toList rfl not_own (Array.getElem?_eq_some_iff.1 hh).1 hl (fun j u hj=>?_) (fun j p u hp hv=>?_),us,e,fr,hh,by rw[hl]; simp⟩
 ·rw[Addr.add_lit,Nat.zero_add,cell_of hh]
  simpa using hj
 ·rw[←hu,List.getElem?_map,hv] at hp
  cases hp
  exact .v _

theorem var_block {P:Program} {W:World} {n:String} {g:Nat} {cs:Array Value} (hg:P.globalNamed n=some g) (h:W.var? P n=some cs):∃ e fr,W.heap[g]? = some (.cells cs e fr):=by
 unfold World.var? at h
 rw[hg,Option.bind_some] at h
 split at h
 ·rename_i cs' e fr hc
  cases h
  exact ⟨e,fr,hc⟩
 ·cases h

abbrev laid1 : List (String × DataW Unit) := [("tailrace/crc.halves", YtbdfbdlfipcleaaDoor.Rows.laid_tailrace_crc_halves)]

theorem gHalves : DP.globalNamed "tailrace/crc.halves" = some 2 := by kernel_rfl
theorem tHalves:(DP.globals[2]?).map (·.type)=some 140:=by kernel_rfl

theorem globW_of {W:World} (h:laidMetH DP laid1 W):GlobW W:=by
 rw[MakeChecks.laidMetH_plain _ _ _ (by kernel_rfl)] at h
 obtain ⟨ps,⟨g3,t3,cs3,f3,p3,q3,hg3,ht3,hv3,hd3,_,_⟩,_⟩:=h
 obtain rfl:=Option.some.inj (gHalves.symm.trans hg3)
 obtain rfl:=Option.some.inj (tHalves.symm.trans ht3)
 have c3:=Lib.cells_of_tab (k:= .u32) (zs:=halvesL) (n:=16) (e:=94) (by kernel_rfl) (by kernel_rfl) (by kernel_rfl) (by kernel_rfl) hd3
 obtain ⟨e3,r3,b3⟩:=var_block hg3 hv3
 intro g hg
 match g with
 | 2=>exact tabRel b3 (by rw[c3]; rfl)
 | 0=>exact absurd rfl hg
 | 1=>exact absurd rfl hg
 | g+3=>exact absurd rfl hg

theorem door1 (os:Os) (args:Array Value):laidMetH DP laid1 ((World.doorLaid DP 65 os).forCall (fun _ _=>0) ⟨#[],args,[]⟩).memory:=
 laidMetH_of_parts3 (fuel:=8) (laidMet_of_run' 8 (by kernel_rfl) (by kernel_rfl)) (by kernel_rfl) (by kernel_rfl)

theorem i64_in {n:Int} (h:(Lit.int .i64 n).wf=true): -(2 ^ 63:Int)≤n∧n<2 ^ 63:=by
 simp only[Lit.wf,Bool.and_eq_true,decide_eq_true_eq] at h
 have h1:IntKind.i64.min= -9223372036854775808:=by decide
 have h2:IntKind.i64.max=9223372036854775807:=by decide
 omega
theorem u64_in {n:Int} (h:(Lit.int .u64 n).wf=true):0≤n∧n<18446744073709551616:=by
 simp only[Lit.wf,Bool.and_eq_true,decide_eq_true_eq] at h
 have h1:IntKind.u64.min=0:=by decide
 have h2:IntKind.u64.max=18446744073709551615:=by decide
 omega
theorem u8_in {s:Int} (hw:(Lit.int .u8 s).wf=true):∃ b:UInt8,s=(b.toNat:Int):=by
 simp only[Lit.wf,Bool.and_eq_true,decide_eq_true_eq] at hw
 have h1:IntKind.u8.min=0:=by decide
 have h2:IntKind.u8.max=255:=by decide
 refine ⟨UInt8.ofNat s.toNat,?_⟩
 rw[UInt8.toNat_ofNat']
 omega
section
variable {H : Type} {enc : TypeId × Value → H} {w : World} {base : Nat} {spare : Nat → Bool} {held : Bool} {O : Nat → Prop}
theorem in_ent (n:Nat) (cs':List Value) (y:DataW H×List MemPlace) (h:DataW.trod enc DP w base spare held n 52 cs'=some y):
  ∃ a:Ent,seqIn a∧cs'.length=4∧∀ (r:Nat) (p:PV) (u:Value),(entE.f a).cells[r]? = some p→cs'[r]? = some u→PRel O w p u:=by
 obtain ⟨xs,n,_,rfl,hl,hlen,hf⟩:=DataW.trod_struct Tryd.underlying52 h
 have hc:DP.cellsOf 52=4:=by kernel_rfl
 have c9:DP.cellsOf 9=1:=by kernel_rfl
 have c50:DP.cellsOf 50=1:=by kernel_rfl
 have c4:DP.cellsOf 4=1:=by kernel_rfl
 rw[hc] at hl
 have h0:DataW.trod enc DP w base spare held n 9 ((cs'.drop 0).take (DP.cellsOf 9))=xs[0]? := hf 0 _ rfl
 have h1:DataW.trod enc DP w base spare held n 50 ((cs'.drop 1).take (DP.cellsOf 50))=xs[1]? := hf 1 _ rfl
 have h2:DataW.trod enc DP w base spare held n 4 ((cs'.drop 2).take (DP.cellsOf 4))=xs[2]? := hf 2 _ rfl
 have h3:DataW.trod enc DP w base spare held n 9 ((cs'.drop 3).take (DP.cellsOf 9))=xs[3]? := hf 3 _ rfl
 rw[c9] at h0 h3
 rw[c50] at h1
 rw[c4] at h2
 match cs',hl,xs,hlen with
 | [v0,v1,v2,v3],_,[x0,x1,x2,x3],_=>
  obtain ⟨a,e0,_,_⟩:=DataW.trod_string Tryd.underlying9 h0
  obtain ⟨b,e1,_,hw⟩:=DataW.trod_int Tryd.underlying50 h1
  obtain ⟨c,e2,_⟩:=DataW.trod_bool Tryd.underlying4 h2
  obtain ⟨d,e3,_,_⟩:=DataW.trod_string Tryd.underlying9 h3
  simp at e0 e1 e2 e3
  subst e0 e1 e2 e3
  refine ⟨⟨a,b,c,d⟩,u64_in hw,rfl,fun r p u hp hu=>?_⟩
  match r with
  | 0=>cases hp; cases hu; exact .v _
  | 1=>cases hp; cases hu; exact .v _
  | 2=>cases hp; cases hu; exact .v _
  | 3=>cases hp; cases hu; exact .v _
  | r+4=>simp[entE,PV.cells] at hp
theorem in_ents (hO:∀ k,¬O k) {fuel:Nat} {v:Value} {x:DataW H×List MemPlace} (h:DataW.trod enc DP w base spare held fuel 42 [v]=some x):
  ∃ L:List Ent,(∀ a∈L,seqIn a)∧PRel O w (.ls (L.map entE.f)) v:=open_list hO Tryd.underlying42 entE.elt (by decide) (by kernel_rfl) (fun n cs' y hy=>in_ent n cs' y hy) h
end
end Go.Ax
