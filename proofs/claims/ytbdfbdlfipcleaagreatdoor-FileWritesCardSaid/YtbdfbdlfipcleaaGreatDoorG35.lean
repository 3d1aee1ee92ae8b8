/- Trees, printed by gen/w1.py. -/
import Derived.Test.YtbdfbdlfipcleaaGreatDoorG34
set_option linter.unusedVariables false
set_option linter.unusedSimpArgs false
set_option linter.unusedSectionVars false
namespace Go.Ax
open Go.Proofs Go.RowKit
set_option maxRecDepth 100000

def OMoreP:RSpec:=fun args B r B'=>∃ (s:Int) (L:List UInt8) (o:Nat),(0≤s∧s<4294967296)∧L.length≤1000000000∧o≤L.length∧args= [vn .u32 s, .rs 0 0 1 (0+o*1) (L.length - o)]∧B= [byteE.bx 0 L]∧r=vn .u32 (moreI s (L.drop o))∧B'=B
def OSumP:RSpec:=fun args B r B'=>∃ (L:List UInt8) (o:Nat),L.length≤1000000000∧o≤L.length∧args= [.rs 0 0 1 (0+o*1) (L.length - o)]∧B= [byteE.bx 0 L]∧r=vn .u32 (crcI (L.drop o))∧B'=B
noncomputable def ΔH1:REnv:=envR [(iMore,liftR OMoreP)]

noncomputable def TMoreP_l1_e (L:List UInt8) (o:Nat) (s1:Int×Int):St:=([(5,vn .u32 s1.2),(10, .rs 0 0 1 (0+o*1) (L.length - o)),(11,vi ((L.length - o:Nat):Int)),(12,vi s1.1)],[byteE.bx 0 L])
noncomputable def TMoreP_l1_x (L:List UInt8) (x1:Int):AE×St:=((.exit 0),([(5,vn .u32 x1)],[byteE.bx 0 L]))
noncomputable def TMoreP_l1_b (L:List UInt8) (o:Nat) (s1:Int×Int):Tree:=
.sp 13 (decide (s1.1<((L.length - o:Nat):Int))) (
.ridx 14 (L.length - o) s1.1 (.rload 15 (rowC (L.map byteE.f)) ((0+o*1)+Int.toNat s1.1*1) byteE L (((o:Nat):Int)+s1.1) 0 (fun e1=> .int 18 (IntKind.u32.wrap (e1.toNat:Int)) ((e1.toNat:Int)) (.int 19 (IntKind.u32.wrap ((BitVec.ofInt IntKind.u32.bits s1.2 ^^^ BitVec.ofInt IntKind.u32.bits (e1.toNat:Int)).toNat)) (xorI s1.2 (e1.toNat:Int)) (.int 21 (Int.fdiv (xorI s1.2 (e1.toNat:Int)) (2 ^ 4)) ((xorI s1.2 (e1.toNat:Int)) / 16) (.int 23 (IntKind.u32.wrap ((BitVec.ofInt IntKind.u32.bits (xorI s1.2 (e1.toNat:Int)) &&& BitVec.ofInt IntKind.u32.bits 15).toNat)) ((xorI s1.2 (e1.toNat:Int)) % 16) (.val (some 24) ((indexAddrA DP 159 (.rp halvesP) (vn .u32 ((xorI s1.2 (e1.toNat:Int)) % 16))).map (fun v=>(v,([byteE.bx 0 L]:List Box)))=some (.rp ((.v (.int .u32 (hA ((xorI s1.2 (e1.toNat:Int)) % 16))))::hR ((xorI s1.2 (e1.toNat:Int)) % 16)),[byteE.bx 0 L])) (.rp ((.v (.int .u32 (hA ((xorI s1.2 (e1.toNat:Int)) % 16))))::hR ((xorI s1.2 (e1.toNat:Int)) % 16))) [byteE.bx 0 L] (.int 26 (IntKind.u32.wrap ((BitVec.ofInt IntKind.u32.bits ((xorI s1.2 (e1.toNat:Int)) / 16) ^^^ BitVec.ofInt IntKind.u32.bits (hA ((xorI s1.2 (e1.toNat:Int)) % 16))).toNat)) (halfI (xorI s1.2 (e1.toNat:Int))) (.int 28 (Int.fdiv (halfI (xorI s1.2 (e1.toNat:Int))) (2 ^ 4)) ((halfI (xorI s1.2 (e1.toNat:Int))) / 16) (.int 30 (IntKind.u32.wrap ((BitVec.ofInt IntKind.u32.bits (halfI (xorI s1.2 (e1.toNat:Int))) &&& BitVec.ofInt IntKind.u32.bits 15).toNat)) ((halfI (xorI s1.2 (e1.toNat:Int))) % 16) (.val (some 31) ((indexAddrA DP 159 (.rp halvesP) (vn .u32 ((halfI (xorI s1.2 (e1.toNat:Int))) % 16))).map (fun v=>(v,([byteE.bx 0 L]:List Box)))=some (.rp ((.v (.int .u32 (hA ((halfI (xorI s1.2 (e1.toNat:Int))) % 16))))::hR ((halfI (xorI s1.2 (e1.toNat:Int))) % 16)),[byteE.bx 0 L])) (.rp ((.v (.int .u32 (hA ((halfI (xorI s1.2 (e1.toNat:Int))) % 16))))::hR ((halfI (xorI s1.2 (e1.toNat:Int))) % 16))) [byteE.bx 0 L] (.int 33 (IntKind.u32.wrap ((BitVec.ofInt IntKind.u32.bits ((halfI (xorI s1.2 (e1.toNat:Int))) / 16) ^^^ BitVec.ofInt IntKind.u32.bits (hA ((halfI (xorI s1.2 (e1.toNat:Int))) % 16))).toNat)) (halfI (halfI (xorI s1.2 (e1.toNat:Int)))) (.int 34 (IntKind.i64.wrap (s1.1+1)) (s1.1+1) (.leaf ⟨[5,10,11,12],[(0,0,some (L.map byteE.f))]⟩ [rowC (L.map byteE.f)] .normal (some (TMoreP_l1_e L o (s1.1+1,halfI (halfI (xorI s1.2 (e1.toNat:Int)))))))))))))))))))) (
.leaf ⟨[5],[(0,0,some (L.map byteE.f))]⟩ [rowC (L.map byteE.f)] (.exit 0) (some (TMoreP_l1_x L s1.2).2))
noncomputable def TMoreP (s:Int) (L:List UInt8) (o:Nat):Tree:=
.int 9 (IntKind.u32.wrap ((BitVec.ofInt IntKind.u32.bits IntKind.u32.max ^^^ BitVec.ofInt IntKind.u32.bits s).toNat)) (4294967295 - s) (.loop ⟨[5,10,11,12],[(0,0,some (L.map byteE.f))]⟩ [rowC (L.map byteE.f)] (some (TMoreP_l1_e L o (0,4294967295 - s))) (TMoreP_l1_e L o) (TMoreP_l1_x L) noX (0,4294967295 - s) (TMoreP_l1_b L o) (fun (x1:Int)=> .int 36 (IntKind.u32.wrap ((BitVec.ofInt IntKind.u32.bits IntKind.u32.max ^^^ BitVec.ofInt IntKind.u32.bits x1).toNat)) (4294967295 - x1) (.leaf ⟨[0],[(0,0,some (L.map byteE.f))]⟩ [rowC (L.map byteE.f)] .ret (some ([(0,vn .u32 (4294967295 - x1))],[byteE.bx 0 L])))) (fun _=> .stuck))

theorem TMoreP_chk (s:Int) (L:List UInt8) (o:Nat):fnC DP Γ0 Δ0 Tryz.f94 [vn .u32 s, .rs 0 0 1 (0+o*1) (L.length - o)] [byteE.bx 0 L] (TMoreP s L o)=TMoreP s L o:=by kernel_rfl

noncomputable def TSumP (L:List UInt8) (o:Nat):Tree:=
.callr (some 4) (ΔH1 94 [vn .u32 0, .rs 0 0 1 (0+o*1) (L.length - o)] [byteE.bx 0 L] (vn .u32 (moreI 0 (L.drop o))) [byteE.bx 0 L]) (vn .u32 (moreI 0 (L.drop o))) [byteE.bx 0 L] (.leaf ⟨[0],[(0,0,some (L.map byteE.f))]⟩ [rowC (L.map byteE.f)] .ret (some ([(0,vn .u32 (moreI 0 (L.drop o)))],[byteE.bx 0 L])))

theorem TSumP_chk (L:List UInt8) (o:Nat):fnC DP Γ0 ΔH1 Tryz.f86 [.rs 0 0 1 (0+o*1) (L.length - o)] [byteE.bx 0 L] (TSumP L o)=TSumP L o:=by kernel_rfl

end Go.Ax

namespace Go.Ax
open Go.Proofs Go.RowKit
set_option maxRecDepth 100000

theorem lift_seepart {R:RSpec} {pre post:List AV} {B:List Box} {b v off n:Nat} {L:List UInt8} {x:PV} (hR:R (pre++ .rs 0 0 1 off n::post) [byteE.bx 0 L] (.p x) [byteE.bx 0 L]) (hb:B[b]? = some (byteE.bx v L)) (h1:pre.all isPl=true) (h2:post.all isPl=true):
  liftR R (pre++ .rs b v 1 off n::post) B (.p x) B:=by
 have hlt:b<B.length:=(List.getElem?_eq_some_iff.1 hb).1
 refine ⟨_,_,_,_,hR,⟨[b],[v],[byteE.bx v L],[byteE.bx v L],[],?_,?_,?_,?_,⟨?_,trivial⟩,⟨?_,trivial⟩,?_,?_,rfl⟩⟩
 ·simp[noDup,Nat.blt_eq,hlt]
 ·simp[hb]
 ·rw[rvL_mid _ _ h1 h2]; simp[AV.rv,fNew,dNew]
 ·exact low_mid h1 h2 rfl
 ·exact .rowv (by simp[dNew])
 ·exact .rowv (by simp[dNew])
 ·rw[outB,outB,List.append_nil]
  exact (set_same hb).symm
 ·rfl
theorem mp_rounds (L:List UInt8) (o:Nat) (hb:L.length≤1000000000) (ho:o≤L.length) (r0:Int) (h0:0≤r0∧r0<4294967296):∀ (j i:Nat),i+j=(L.drop o).length→Rounds (TMoreP_l1_e L o) (TMoreP_l1_x L) noX (fun s=>(TMoreP_l1_b L o s).wp) ((i:Int),((L.drop o).take i).foldl stepI r0) (.inl ((L.drop o).foldl stepI r0))
 | 0,i,hi=>by
  rw[List.length_drop] at hi
  refine .done (by intro e; cases e) ?_
  unfold TMoreP_l1_b
  refine wp_sp (fun h'=>absurd (of_decide_eq_true h') (by simp only; omega)) (fun _=>wp_leaf rfl ⟨rfl,?_⟩)
  rw[List.take_of_length_le (by rw[List.length_drop]; omega)]
 | j+1,i,hi=>by
  obtain ⟨a,ha,ht⟩:=get_snoc (l:=L.drop o) (i:=i) (by omega)
  refine .next ?_ (mp_rounds L o hb ho r0 h0 j (i+1) (by omega))
  rw[List.length_drop] at hi
  rw[List.getElem?_drop] at ha
  have hr:=fold_b h0 ((L.drop o).take i)
  have hx:=xorI_32 hr (by have:=u8_b a; omega:0≤(a.toNat:Int)∧(a.toNat:Int)<4294967296)
  have hh:=halfI_b hx
  unfold TMoreP_l1_b
  refine wp_sp (fun _=>wp_ridx (by simp only; omega) (by simp only; omega) (wp_rload a (by simp only; omega) (by simp only[byteE] <;> omega) (by rw[←ha]; congr 1 <;> omega) (wp_int (wrap32id (by have:=u8_b a; omega)) (wp_int (xor32 hr (by have:=u8_b a; omega)) (wp_int (shr4 _) (wp_int (and15 hx) (wp_val (by rw[table_at (mod16_b _)]; rfl) (wp_int (xor32 (div16_b hx) (hA_b _)) (wp_int (shr4 _) (wp_int (and15 hh) (wp_val (by rw[table_at (mod16_b _)]; rfl) (wp_int (xor32 (div16_b hh) (hA_b _)) (wp_i64 (by simp only; omega) (wp_leaf rfl ⟨rfl,?_⟩)))))))))))))) (fun h'=>absurd (of_decide_eq_false h') (by simp only; omega))
  rw[ht,List.foldl_append]
  rfl
theorem SMoreP:SoundR DP iMore OMoreP:=sound_genT mixedD Γ0_ok Δ0_ok hfMore heMore hbMore (by
 rintro args B r B' ⟨s,L,o,hs,hb,ho,rfl,rfl,rfl,rfl⟩
 refine ⟨by rw[hnMore]; rfl,_,TMoreP_chk s L o,?_⟩
 unfold TMoreP
 have hr:=mp_rounds L o hb ho (4294967295 - s) (by omega) (L.drop o).length 0 (by omega)
 have hf:=fold_b (r:=4294967295 - s) (by omega) (L.drop o)
 exact wp_int (comp32 hs) (wp_loop _ rfl hr (wp_int (comp32 hf) (wp_leaf rfl ⟨rfl,rfl⟩))))
theorem ΔH1_ok:∀ f,SoundR DP f (ΔH1 f):=envR_cons (lift_sound SMoreP) envR_nil
theorem SSumP:SoundR DP iSum OSumP:=sound_genT mixedD Γ0_ok ΔH1_ok hfSum heSum hbSum (by
 rintro args B r B' ⟨L,o,hb,ho,rfl,rfl,rfl,rfl⟩
 refine ⟨by rw[hnSum]; rfl,_,TSumP_chk L o,?_⟩
 unfold TSumP
 exact wp_callr (lift_seepart (R:=OMoreP) (pre:= [vn .u32 0]) (post:= []) ⟨0,L,o,by decide,hb,ho,rfl,rfl,rfl,rfl⟩ rfl rfl rfl) (wp_leaf rfl ⟨rfl,rfl⟩))
end Go.Ax

namespace Go.Ax
open Go.Proofs Go.RowKit
set_option maxRecDepth 100000

def ΔH2:REnv:=envR [(iPutL,liftR OPutL),(iSum,liftR OSumP)]

noncomputable def TRPutR (L:List UInt8) (d:List UInt8):Tree:=
.int 8 ((d.map byteE.f).length:Int) (d.length:Int) (.sp 9 (decide ((d.length:Int)>(1048576:Int))) (
.leaf ⟨[0],[(0,0,some (L.map byteE.f))]⟩ [rowC (L.map byteE.f)] .ret (some ([(0, .tup [.rs 0 0 1 0 L.length,vi 6])],[byteE.bx 0 L]))) (
.int 15 ((d.map byteE.f).length:Int) (d.length:Int) (.int 16 (IntKind.u64.wrap ((d.length:Int))) ((d.length:Int)) (.callr (some 17) (ΔH2 28 [.rs 0 0 1 0 L.length,vn .u64 (d.length:Int),vi 4] [byteE.bx 0 L] (.rs 1 0 1 0 ((L++leI (d.length:Int) 4).length)) [byteE.bx 1 ([]:List UInt8),byteE.bx 0 (L++leI (d.length:Int) 4)]) (.rs 1 0 1 0 ((L++leI (d.length:Int) 4).length)) [byteE.bx 1 ([]:List UInt8),byteE.bx 0 (L++leI (d.length:Int) 4)] (.rcut 21 ((L++leI (d.length:Int) 4).length) (some ((L.length:Nat):Int)) none (.callr (some 22) (ΔH2 86 [.rs 1 0 1 (0+loN (some ((L.length:Nat):Int))*1) (hiN none ((L++leI (d.length:Int) 4).length) - loN (some ((L.length:Nat):Int)))] [byteE.bx 1 ([]:List UInt8),byteE.bx 0 (L++leI (d.length:Int) 4)] (vn .u32 (crcI (List.drop (loN (some ((L.length:Nat):Int))) (L++leI (d.length:Int) 4)))) [byteE.bx 1 ([]:List UInt8),byteE.bx 0 (L++leI (d.length:Int) 4)]) (vn .u32 (crcI (List.drop (loN (some ((L.length:Nat):Int))) (L++leI (d.length:Int) 4)))) [byteE.bx 1 ([]:List UInt8),byteE.bx 0 (L++leI (d.length:Int) 4)] (.call 23 (gMask [vn .u32 (crcI (List.drop (loN (some ((L.length:Nat):Int))) (L++leI (d.length:Int) 4)))]=some (vn .u32 (maskI (crcI (List.drop (loN (some ((L.length:Nat):Int))) (L++leI (d.length:Int) 4)))))) (vn .u32 (maskI (crcI (List.drop (loN (some ((L.length:Nat):Int))) (L++leI (d.length:Int) 4))))) (.int 24 (IntKind.u64.wrap (maskI (crcI (List.drop (loN (some ((L.length:Nat):Int))) (L++leI (d.length:Int) 4))))) ((maskI (crcI (List.drop (loN (some ((L.length:Nat):Int))) (L++leI (d.length:Int) 4))))) (.callr (some 25) (ΔH2 28 [.rs 1 0 1 0 ((L++leI (d.length:Int) 4).length),vn .u64 (maskI (crcI (List.drop (loN (some ((L.length:Nat):Int))) (L++leI (d.length:Int) 4)))),vi 4] [byteE.bx 1 ([]:List UInt8),byteE.bx 0 (L++leI (d.length:Int) 4)] (.rs 2 0 1 0 (((L++leI (d.length:Int) 4)++leI (maskI (crcI (List.drop (loN (some ((L.length:Nat):Int))) (L++leI (d.length:Int) 4)))) 4).length)) [byteE.bx 1 ([]:List UInt8),byteE.bx 1 ([]:List UInt8),byteE.bx 0 ((L++leI (d.length:Int) 4)++leI (maskI (crcI (List.drop (loN (some ((L.length:Nat):Int))) (L++leI (d.length:Int) 4)))) 4)]) (.rs 2 0 1 0 (((L++leI (d.length:Int) 4)++leI (maskI (crcI (List.drop (loN (some ((L.length:Nat):Int))) (L++leI (d.length:Int) 4)))) 4).length)) [byteE.bx 1 ([]:List UInt8),byteE.bx 1 ([]:List UInt8),byteE.bx 0 ((L++leI (d.length:Int) 4)++leI (maskI (crcI (List.drop (loN (some ((L.length:Nat):Int))) (L++leI (d.length:Int) 4)))) 4)] (.call 28 (gSum [vl (d.map byteE.f)]=some (vn .u32 (crcI d))) (vn .u32 (crcI d)) (.call 29 (gMask [vn .u32 (crcI d)]=some (vn .u32 (maskI (crcI d)))) (vn .u32 (maskI (crcI d))) (.int 30 (IntKind.u64.wrap (maskI (crcI d))) ((maskI (crcI d))) (.callr (some 31) (ΔH2 28 [.rs 2 0 1 0 (((L++leI (d.length:Int) 4)++leI (maskI (crcI (List.drop (loN (some ((L.length:Nat):Int))) (L++leI (d.length:Int) 4)))) 4).length),vn .u64 (maskI (crcI d)),vi 4] [byteE.bx 1 ([]:List UInt8),byteE.bx 1 ([]:List UInt8),byteE.bx 0 ((L++leI (d.length:Int) 4)++leI (maskI (crcI (List.drop (loN (some ((L.length:Nat):Int))) (L++leI (d.length:Int) 4)))) 4)] (.rs 3 0 1 0 ((((L++leI (d.length:Int) 4)++leI (maskI (crcI (List.drop (loN (some ((L.length:Nat):Int))) (L++leI (d.length:Int) 4)))) 4)++leI (maskI (crcI d)) 4).length)) [byteE.bx 1 ([]:List UInt8),byteE.bx 1 ([]:List UInt8),byteE.bx 1 ([]:List UInt8),byteE.bx 0 (((L++leI (d.length:Int) 4)++leI (maskI (crcI (List.drop (loN (some ((L.length:Nat):Int))) (L++leI (d.length:Int) 4)))) 4)++leI (maskI (crcI d)) 4)]) (.rs 3 0 1 0 ((((L++leI (d.length:Int) 4)++leI (maskI (crcI (List.drop (loN (some ((L.length:Nat):Int))) (L++leI (d.length:Int) 4)))) 4)++leI (maskI (crcI d)) 4).length)) [byteE.bx 1 ([]:List UInt8),byteE.bx 1 ([]:List UInt8),byteE.bx 1 ([]:List UInt8),byteE.bx 0 (((L++leI (d.length:Int) 4)++leI (maskI (crcI (List.drop (loN (some ((L.length:Nat):Int))) (L++leI (d.length:Int) 4)))) 4)++leI (maskI (crcI d)) 4)] (.app 34 (.ls (d.map byteE.f)) ((((L++leI (d.length:Int) 4)++leI (maskI (crcI (List.drop (loN (some ((L.length:Nat):Int))) (L++leI (d.length:Int) 4)))) 4)++leI (maskI (crcI d)) 4).length) (rowC ((((L++leI (d.length:Int) 4)++leI (maskI (crcI (List.drop (loN (some ((L.length:Nat):Int))) (L++leI (d.length:Int) 4)))) 4)++leI (maskI (crcI d)) 4).map byteE.f)) byteE (((L++leI (d.length:Int) 4)++leI (maskI (crcI (List.drop (loN (some ((L.length:Nat):Int))) (L++leI (d.length:Int) 4)))) 4)++leI (maskI (crcI d)) 4) d (.leaf ⟨[0],[(0,0,some (([]:List UInt8).map byteE.f)),(3,1,some (((((L++leI (d.length:Int) 4)++leI (maskI (crcI (List.drop (loN (some ((L.length:Nat):Int))) (L++leI (d.length:Int) 4)))) 4)++leI (maskI (crcI d)) 4)++d).map byteE.f))]⟩ [rowC (([]:List UInt8).map byteE.f),rowC (((((L++leI (d.length:Int) 4)++leI (maskI (crcI (List.drop (loN (some ((L.length:Nat):Int))) (L++leI (d.length:Int) 4)))) 4)++leI (maskI (crcI d)) 4)++d).map byteE.f)] .ret (some ([(0, .tup [.rs 1 0 1 0 (((((L++leI (d.length:Int) 4)++leI (maskI (crcI (List.drop (loN (some ((L.length:Nat):Int))) (L++leI (d.length:Int) 4)))) 4)++leI (maskI (crcI d)) 4)++d).length),vi 0])],[byteE.bx 1 ([]:List UInt8),byteE.bx 0 ((((L++leI (d.length:Int) 4)++leI (maskI (crcI (List.drop (loN (some ((L.length:Nat):Int))) (L++leI (d.length:Int) 4)))) 4)++leI (maskI (crcI d)) 4)++d)])))))))))))))))))

theorem TRPutR_chk (L:List UInt8) (d:List UInt8):fnC DP Γ2 ΔH2 Tryz.f58 [.rs 0 0 1 0 L.length,vl (d.map byteE.f)] [byteE.bx 0 L] (TRPutR L d)=TRPutR L d:=by kernel_rfl

end Go.Ax

namespace Go.Ax
open Go.Proofs Go.RowKit
set_option maxRecDepth 100000

theorem ΔH2_ok:∀ f,SoundR DP f (ΔH2 f):=envR_cons (lift_sound SPutL) (envR_cons (lift_sound SSumP) envR_nil)
def ORPutR:RSpec:=fun args B r B'=>∃ (L d:List UInt8),d.length≤1048576∧L.length≤500000000∧args= [.rs 0 0 1 0 L.length,vl (d.map byteE.f)]∧B= [byteE.bx 0 L]∧r= .tup [.rs 1 0 1 0 (L++recB d).length,vi 0]∧B'= [byteE.bx 1 [],byteE.bx 0 (L++recB d)]
theorem oPutL2 {n:Int} {B:List Box} {b v:Nat} {L:List UInt8} (hn:0≤n∧n<18446744073709551616) (hb:B[b]? = some (byteE.bx v L)) (hl:((L.length+4:Nat):Int)≤1000000000):
  ΔH2 28 [.rs b v 1 0 L.length,vn .u64 n,vi 4] B (.rs B.length 0 1 0 (L++leI n 4).length) (B.set b (byteE.bx (v+1) [])++ [byteE.bx 0 (L++leI n 4)]):=dPutLF hn hb hl
theorem SRPutR:SoundR DP iRPut ORPutR:=sound_genT mixedD Γ2_ok ΔH2_ok hfRPut heRPut hbRPut (by
 rintro args B r B' ⟨L,d,hd,hL,rfl,rfl,rfl,rfl⟩
 refine ⟨by rw[hnRPut]; rfl,_,TRPutR_chk L d,?_⟩
 have e0:List.drop (loN (some ((L.length:Nat):Int))) (L++leI (d.length:Int) 4)=leI (d.length:Int) 4:=by
  show List.drop (Int.toNat ((L.length:Nat):Int)) _=_
  rw[Int.toNat_natCast,List.drop_left]
 have hc:=crcI_b (leI (d.length:Int) 4)
 have hm:=maskI_b (crcI (leI (d.length:Int) 4))
 have hc2:=crcI_b d
 have hm2:=maskI_b (crcI d)
 have e1:(leI (d.length:Int) 4).length=4:=leI_len _ _
 have l1:(L++leI (d.length:Int) 4).length=L.length+4:=by rw[List.length_append,e1]
 have hs:ΔH2 86 [.rs 1 0 1 (0+loN (some ((L.length:Nat):Int))*1) (hiN none ((L++leI (d.length:Int) 4).length) - loN (some ((L.length:Nat):Int)))] [byteE.bx 1 ([]:List UInt8),byteE.bx 0 (L++leI (d.length:Int) 4)] (vn .u32 (crcI (List.drop (loN (some ((L.length:Nat):Int))) (L++leI (d.length:Int) 4)))) [byteE.bx 1 ([]:List UInt8),byteE.bx 0 (L++leI (d.length:Int) 4)]:=
  lift_seepart (R:=OSumP) (pre:= []) (post:= []) ⟨L++leI (d.length:Int) 4,L.length,by omega,by omega,rfl,rfl,rfl,rfl⟩ rfl rfl rfl
 rw[e0] at hs
 unfold TRPutR
 rw[e0]
 refine wp_len (wp_sp (fun h=>absurd (of_decide_eq_true h) (by omega)) (fun _=>wp_len (wp_int (wrap64id (by omega)) (wp_callr (oPutL2 (by omega) rfl (by omega)) (wp_rcut (by simp only[cutOk]; omega) ?_)))))
 have l2:(L++leI (d.length:Int) 4++leI (maskI (crcI (leI (d.length:Int) 4))) 4).length=L.length+8:=by rw[List.length_append,l1,leI_len]; rfl
 have l3:(L++leI (d.length:Int) 4++leI (maskI (crcI (leI (d.length:Int) 4))) 4++leI (maskI (crcI d)) 4).length=L.length+12:=by rw[List.length_append,l2,leI_len]; rfl
 refine wp_callr hs (wp_call (gMask_eq hc) (wp_int (wrap64id (by omega)) (wp_callr (oPutL2 (by omega) rfl (by omega)) ?_)))
 refine wp_call (gSum_eq (by omega)) (wp_call (gMask_eq hc2) (wp_int (wrap64id (by omega)) (wp_callr (oPutL2 (by omega) rfl (by omega)) ?_)))
 have er:L++leI (d.length:Int) 4++leI (maskI (crcI (leI (d.length:Int) 4))) 4++leI (maskI (crcI d)) 4++d=L++recB d:=by simp[recB]
 refine wp_app rfl rfl (by rw[List.length_append,l3]; omega) (wp_leaf rfl ?_)
 rw[er]
 exact ⟨rfl,rfl⟩)
end Go.Ax

namespace Go.Ax
open Go.Proofs Go.RowKit
set_option maxRecDepth 100000

noncomputable def ΔK1:REnv:=envR [(iRPut,liftR ORPutR)]

abbrev iLayF:Nat:=23
noncomputable abbrev nLayF:Func:=Tryz.f23
theorem hfLayF:DP.funcs[iLayF]? = some nLayF:=by kernel_rfl
theorem heLayF:enters DP iLayF=true:=by kernel_rfl
theorem hbLayF:nLayF.body.isSome=true:=by kernel_rfl
theorem hnLayF:nLayF.ntmps=25:=by kernel_rfl

noncomputable def TLayF (L:List UInt8) (d:List UInt8):Tree:=
.callr (some 14) (ΔK1 58 [.rs 0 0 1 0 L.length,vl (d.map byteE.f)] [byteE.bx 0 L, .cells false 0 ([vi 0,vi 0])] (.tup [.rs 2 0 1 0 ((L++recB d).length),vi 0]) [byteE.bx 1 ([]:List UInt8), .cells false 0 ([vi 0,vi 0]),byteE.bx 0 (L++recB d)]) (.tup [.rs 2 0 1 0 ((L++recB d).length),vi 0]) [byteE.bx 1 ([]:List UInt8), .cells false 0 ([vi 0,vi 0]),byteE.bx 0 (L++recB d)] (.int 22 (IntKind.i64.wrap ((((L++recB d).length:Nat):Int) - ((L.length:Nat):Int))) ((((L++recB d).length:Nat):Int) - ((L.length:Nat):Int)) (.leaf ⟨[0],[(0,0,some (([]:List UInt8).map byteE.f)),(2,0,some ((L++recB d).map byteE.f))]⟩ [rowC (([]:List UInt8).map byteE.f),rowC ((L++recB d).map byteE.f)] .ret (some ([(0, .tup [.rs 1 0 1 0 ((L++recB d).length), .agg [vi ((L.length:Nat):Int),vi ((((L++recB d).length:Nat):Int) - ((L.length:Nat):Int))],vi 0])],[byteE.bx 1 ([]:List UInt8),byteE.bx 0 (L++recB d)]))))

theorem TLayF_chk (L:List UInt8) (d:List UInt8):fnC DP Γ0 ΔK1 Tryz.f23 [.rs 0 0 1 0 L.length,vl (d.map byteE.f)] [byteE.bx 0 L] (TLayF L d)=TLayF L d:=by kernel_rfl

noncomputable def TPutL8 (L:List UInt8) (n:Int):Tree:=
.callr (some 12) (Δ1 62 [.rs 0 0 1 0 L.length,vn .u64 n,vi 8] [byteE.bx 0 L] (.rs 1 0 1 0 ((L++leI n 8).length)) [byteE.bx 1 ([]:List UInt8),byteE.bx 0 (L++leI n 8)]) (.rs 1 0 1 0 ((L++leI n 8).length)) [byteE.bx 1 ([]:List UInt8),byteE.bx 0 (L++leI n 8)] (.leaf ⟨[0],[(0,0,some (([]:List UInt8).map byteE.f)),(1,0,some ((L++leI n 8).map byteE.f))]⟩ [rowC (([]:List UInt8).map byteE.f),rowC ((L++leI n 8).map byteE.f)] .ret (some ([(0, .rs 1 0 1 0 ((L++leI n 8).length))],[byteE.bx 1 ([]:List UInt8),byteE.bx 0 (L++leI n 8)])))

theorem TPutL8_chk (L:List UInt8) (n:Int):fnC DP Γ1 Δ1 Tryz.f28 [.rs 0 0 1 0 L.length,vn .u64 n,vi 8] [byteE.bx 0 L] (TPutL8 L n)=TPutL8 L n:=by kernel_rfl

end Go.Ax

namespace Go.Ax
open Go.Proofs Go.RowKit
set_option maxRecDepth 100000

theorem lift_rowt {R:RSpec} {pre post rs:List AV} {B:List Box} {b v n:Nat} {L M:List UInt8} (hR:R (pre++ .rs 0 0 1 0 L.length::post) [byteE.bx 0 L] (.tup (.rs 1 0 1 0 n::rs)) [byteE.bx 1 [],byteE.bx 0 M]) (hb:B[b]? = some (byteE.bx v L)) (h1:pre.all isPl=true) (h2:post.all isPl=true) (h3:∀ f d,AV.rv.rvL f d rs=rs) (h4:AV.low.allLow 2 rs=true):
  liftR R (pre++ .rs b v 1 0 L.length::post) B (.tup (.rs B.length 0 1 0 n::rs)) (B.set b (byteE.bx (v+1) [])++ [byteE.bx 0 M]):=by
 have hlt:b<B.length:=(List.getElem?_eq_some_iff.1 hb).1
 refine ⟨_,_,_,_,hR,⟨[b],[v],[byteE.bx v L],[byteE.bx (v+1) []],[byteE.bx 0 M],?_,?_,?_,?_,⟨?_,trivial⟩,⟨?_,?_,trivial⟩,?_,?_,?_⟩⟩
 ·simp[noDup,Nat.blt_eq,hlt]
 ·simp[hb]
 ·rw[rvL_mid _ _ h1 h2]; simp[AV.rv,fNew,dNew]
 ·exact low_mid h1 h2 rfl
 ·exact .rowv (by simp[dNew])
 ·exact .rowv (by simp[dNew]; omega)
 ·exact .rowv (by simp[dNew])
 ·simp[outB]
 ·simp[AV.rv,AV.rv.rvL,fNew,dNew,h3]
 ·show AV.low.allLow 2 (.rs 1 0 1 0 n::rs)=true
  rw[AV.low.allLow,h4]; rfl
theorem ΔK1_ok:∀ f,SoundR DP f (ΔK1 f):=envR_cons (lift_sound SRPutR) envR_nil
def OPutL8:RSpec:=fun args B r B'=>∃ (n:Int) (L:List UInt8),(0≤n∧n<18446744073709551616)∧((L.length+8:Nat):Int)≤1000000000∧args= [.rs 0 0 1 0 L.length,vn .u64 n,vi 8]∧B= [byteE.bx 0 L]∧r= .rs 1 0 1 0 (L++leI n 8).length∧B'= [byteE.bx 1 [],byteE.bx 0 (L++leI n 8)]
theorem SPutL8:SoundR DP iPutL OPutL8:=sound_genT mixedD Γ1_ok Δ1_ok hfPutL hePutL hbPutL (by
 rintro args B r B' ⟨n,L,hn,hL,rfl,rfl,rfl,rfl⟩
 refine ⟨by rw[hnPutL]; rfl,_,TPutL8_chk L n,?_⟩
 unfold TPutL8
 exact wp_callr (lift_row (R:=OLit) (pre:= []) ⟨n,8,hn,by decide, .inr ⟨L,by rw[leI_len]; exact hL,rfl,rfl,rfl,rfl⟩⟩ rfl rfl rfl) (wp_leaf rfl ⟨rfl,rfl⟩))
def OLayF:RSpec:=fun args B r B'=>∃ (L d:List UInt8),d.length≤1048576∧L.length≤500000000∧args= [.rs 0 0 1 0 L.length,vl (d.map byteE.f)]∧B= [byteE.bx 0 L]∧r= .tup [.rs 1 0 1 0 (L++recB d).length, .agg [vi (L.length:Int),vi ((recB d).length:Int)],vi 0]∧B'= [byteE.bx 1 [],byteE.bx 0 (L++recB d)]
theorem SLayF:SoundR DP iLayF OLayF:=sound_genT mixedD Γ0_ok ΔK1_ok hfLayF heLayF hbLayF (by
 rintro args B r B' ⟨L,d,hd,hL,rfl,rfl,rfl,rfl⟩
 refine ⟨by rw[hnLayF]; rfl,_,TLayF_chk L d,?_⟩
 have hr:=recB_len d
 have e:(((L++recB d).length:Nat):Int) - ((L.length:Nat):Int)=((recB d).length:Int):=by rw[List.length_append]; omega
 unfold TLayF
 simp only[e]
 refine wp_callr ?_ (wp_i64 (by omega) (wp_leaf rfl ⟨rfl,rfl⟩))
 exact lift_rowt (R:=ORPutR) (pre:= []) (post:= [vl (d.map byteE.f)]) (b:=0) (v:=0) (B:= [byteE.bx 0 L, .cells false 0 [vi 0,vi 0]]) ⟨L,d,hd,hL,rfl,rfl,rfl,rfl⟩ rfl rfl rfl (fun f d=>rfl) rfl)
theorem oLayF {B:List Box} {b v:Nat} {L d:List UInt8} (hd:d.length≤1048576) (hL:L.length≤500000000) (hb:B[b]? = some (byteE.bx v L)):
  takeR OLayF [.rs b v 1 0 L.length,vl (d.map byteE.f)] B (.tup [.rs B.length 0 1 0 (L++recB d).length, .agg [vi (L.length:Int),vi ((recB d).length:Int)],vi 0]) (B.set b (byteE.bx (v+1) [])++ [byteE.bx 0 (L++recB d)]):=
 .inl (lift_rowt (R:=OLayF) (pre:= []) (post:= [vl (d.map byteE.f)]) ⟨L,d,hd,hL,rfl,rfl,rfl,rfl⟩ hb rfl rfl (fun f d=>rfl) rfl)
theorem oLayS {B:List Box} {b v k u:Nat} {L d:List UInt8} (hd:d.length≤1048576) (hL:L.length≤500000000) (hb:B[b]? = some (byteE.bx v L)) (hk:B[k]? = some (byteE.bx u d)) (hne:k≠b):
  takeR OLayF [.rs b v 1 0 L.length, .rs k u 1 0 d.length] B (.tup [.rs B.length 0 1 0 (L++recB d).length, .agg [vi (L.length:Int),vi ((recB d).length:Int)],vi 0]) ((B.set k .dead).set b (byteE.bx (v+1) [])++ [byteE.bx 0 (L++recB d)]):=by
 refine .inr ⟨1,k,u,UInt8,byteE,d,hk,rfl,?_⟩
 have h:(B.set k .dead)[b]? = some (byteE.bx v L):=by rw[List.getElem?_set_ne hne]; exact hb
 have:=lift_rowt (R:=OLayF) (pre:= []) (post:= [vl (d.map byteE.f)]) ⟨L,d,hd,hL,rfl,rfl,rfl,rfl⟩ h rfl rfl (fun f d=>rfl) rfl
 rw[List.length_set] at this
 exact this
end Go.Ax
