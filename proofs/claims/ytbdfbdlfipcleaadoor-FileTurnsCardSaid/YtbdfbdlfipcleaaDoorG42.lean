/- Trees, printed by gen/w1.py. -/
import Derived.Test.YtbdfbdlfipcleaaDoorG41
import Derived.Test.YtbdfbdlfipcleaaDoorG33
set_option linter.unusedVariables false
set_option linter.unusedSimpArgs false
set_option linter.unusedSectionVars false
namespace Go.Ax
open Go.Proofs Go.RowKit
set_option maxRecDepth 100000

noncomputable def ΔR1:REnv:=envR [(iNew,liftR ONew),(iFWrite,sealR (liftR OFWrite)),(iFOpen,liftR OFOpen),(iFPages,liftR OFPages),(iUsed,liftR OUsed),(iFGet,liftR OFGet)]

abbrev iHeadF:Nat:=18
noncomputable abbrev nHeadF:Func:=Tryd.f18
theorem hfHeadF:DP.funcs[iHeadF]? = some nHeadF:=by kernel_rfl
theorem heHeadF:enters DP iHeadF=true:=by kernel_rfl
theorem hbHeadF:nHeadF.body.isSome=true:=by kernel_rfl
noncomputable def THeadF (D0:Dsk) (D1:Dsk) (F1:FileR) (n1:Int) (x1:Ent):Tree:=
.callr (some 10) (ΔR1 30 [vi 10000] [] (.op 0) [.obj [] (diskP D0)]) (.op 0) [.obj [] (diskP D0)] (.callr (some 16) (ΔR1 31 [.op 0,vs (⟨#[102]⟩), .rs 2 0 4 0 1] [.obj [] (diskP D0), .cells false 0 ([vs (⟨#[97]⟩),vn .u64 5,vb false,vs (⟨#[118]⟩)]), .cells true 0 ([vs (⟨#[97]⟩),vn .u64 5,vb false,vs (⟨#[118]⟩)])] (.tup [vi n1,vi 0]) [.obj [] (diskP D1), .cells false 0 ([vs (⟨#[97]⟩),vn .u64 5,vb false,vs (⟨#[118]⟩)]), .dead]) (.tup [vi n1,vi 0]) [.obj [] (diskP D1), .cells false 0 ([vs (⟨#[97]⟩),vn .u64 5,vb false,vs (⟨#[118]⟩)]), .dead] (.callr (some 21) (ΔR1 32 [.op 0,vs (⟨#[102]⟩)] [.obj [] (diskP D1), .cells false 0 ([vs (⟨#[97]⟩),vn .u64 5,vb false,vs (⟨#[118]⟩)]), .dead] (.tup [.ptr 3 0 0,vi 0]) [.obj [] (diskP D1), .cells false 0 ([vs (⟨#[97]⟩),vn .u64 5,vb false,vs (⟨#[118]⟩)]), .dead, .cells false 0 ([.op 0,vs (⟨#[102]⟩:ByteArray),vl (F1.idx.map parE.f),vl (F1.bits.map byteE.f),vi F1.cnt,vs F1.low,vs F1.high])]) (.tup [.ptr 3 0 0,vi 0]) [.obj [] (diskP D1), .cells false 0 ([vs (⟨#[97]⟩),vn .u64 5,vb false,vs (⟨#[118]⟩)]), .dead, .cells false 0 ([.op 0,vs (⟨#[102]⟩:ByteArray),vl (F1.idx.map parE.f),vl (F1.bits.map byteE.f),vi F1.cnt,vs F1.low,vs F1.high])] (.callr (some 36) (ΔR1 36 [.ptr 3 0 0] [.obj [] (diskP D1), .cells false 0 ([vs (⟨#[97]⟩),vn .u64 5,vb false,vs (⟨#[118]⟩)]), .dead, .cells false 0 ([.op 0,vs (⟨#[102]⟩:ByteArray),vl (F1.idx.map parE.f),vl (F1.bits.map byteE.f),vi F1.cnt,vs F1.low,vs F1.high])] (vi (F1.idx.length:Int)) [.obj [] (diskP D1), .cells false 0 ([vs (⟨#[97]⟩),vn .u64 5,vb false,vs (⟨#[118]⟩)]), .dead, .cells false 0 ([.op 0,vs (⟨#[102]⟩:ByteArray),vl (F1.idx.map parE.f),vl (F1.bits.map byteE.f),vi F1.cnt,vs F1.low,vs F1.high])]) (vi (F1.idx.length:Int)) [.obj [] (diskP D1), .cells false 0 ([vs (⟨#[97]⟩),vn .u64 5,vb false,vs (⟨#[118]⟩)]), .dead, .cells false 0 ([.op 0,vs (⟨#[102]⟩:ByteArray),vl (F1.idx.map parE.f),vl (F1.bits.map byteE.f),vi F1.cnt,vs F1.low,vs F1.high])] (.sp 37 ((F1.idx.length:Int) != (1:Int)) (
.leaf ⟨[0],[]⟩ [] .ret (some ([(0,vb false)],[]))) (
.callr (some 42) (ΔR1 38 [.op 0] [.obj [] (diskP D1), .cells false 0 ([vs (⟨#[97]⟩),vn .u64 5,vb false,vs (⟨#[118]⟩)]), .dead, .cells false 0 ([.op 0,vs (⟨#[102]⟩:ByteArray),vl (F1.idx.map parE.f),vl (F1.bits.map byteE.f),vi F1.cnt,vs F1.low,vs F1.high])] (vi n1) [.obj [] (diskP D1), .cells false 0 ([vs (⟨#[97]⟩),vn .u64 5,vb false,vs (⟨#[118]⟩)]), .dead, .cells false 0 ([.op 0,vs (⟨#[102]⟩:ByteArray),vl (F1.idx.map parE.f),vl (F1.bits.map byteE.f),vi F1.cnt,vs F1.low,vs F1.high])]) (vi n1) [.obj [] (diskP D1), .cells false 0 ([vs (⟨#[97]⟩),vn .u64 5,vb false,vs (⟨#[118]⟩)]), .dead, .cells false 0 ([.op 0,vs (⟨#[102]⟩:ByteArray),vl (F1.idx.map parE.f),vl (F1.bits.map byteE.f),vi F1.cnt,vs F1.low,vs F1.high])] (.sp 43 (n1 != n1) (
.leaf ⟨[0],[]⟩ [] .ret (some ([(0,vb false)],[]))) (
.callr (some 47) (ΔR1 34 [.ptr 3 0 0,vs (⟨#[97]⟩),vn .u64 5] [.obj [] (diskP D1), .cells false 0 ([vs (⟨#[97]⟩),vn .u64 5,vb false,vs (⟨#[118]⟩)]), .dead, .cells false 0 ([.op 0,vs (⟨#[102]⟩:ByteArray),vl (F1.idx.map parE.f),vl (F1.bits.map byteE.f),vi F1.cnt,vs F1.low,vs F1.high])] (.tup [(entE.av x1),vb true,vi 0]) [.obj [] (diskP D1), .cells false 0 ([vs (⟨#[97]⟩),vn .u64 5,vb false,vs (⟨#[118]⟩)]), .dead, .cells false 0 ([.op 0,vs (⟨#[102]⟩:ByteArray),vl (F1.idx.map parE.f),vl (F1.bits.map byteE.f),vi F1.cnt,vs F1.low,vs F1.high])]) (.tup [(entE.av x1),vb true,vi 0]) [.obj [] (diskP D1), .cells false 0 ([vs (⟨#[97]⟩),vn .u64 5,vb false,vs (⟨#[118]⟩)]), .dead, .cells false 0 ([.op 0,vs (⟨#[102]⟩:ByteArray),vl (F1.idx.map parE.f),vl (F1.bits.map byteE.f),vi F1.cnt,vs F1.low,vs F1.high])] (.leaf ⟨[0],[]⟩ [] .ret (some ([(0,vb (((x1.key:ByteArray).toList == (⟨#[97]⟩:ByteArray).toList)&&(((x1.seq:Int) == (5:Int))&&((x1.del == false)&&(((x1.val:ByteArray).toList == (⟨#[118]⟩:ByteArray).toList)&&true)))))],[]))))))))))

theorem THeadF_chk (D0:Dsk) (D1:Dsk) (F1:FileR) (n1:Int) (x1:Ent):fnC DP Γ0 ΔR1 Tryd.f18 [] [] (THeadF D0 D1 F1 n1 x1)=THeadF D0 D1 F1 n1 x1:=by kernel_rfl

end Go.Ax

namespace Go.Ax
open Go.Proofs Go.RowKit
set_option maxRecDepth 100000

theorem ΔR1_ok:∀ f,SoundR DP f (ΔR1 f):=envR_cons (lift_sound SNew)<|envR_cons (lift_sound SFWrite).shutRow<|envR_cons (lift_sound SFOpen)<|envR_cons (lift_sound SFPages)<|envR_cons (lift_sound SUsed)<|envR_cons (lift_sound SFGet) envR_nil
def exE:Ent:=⟨⟨#[97]⟩,5,false,⟨#[118]⟩⟩
theorem exE_chk:chkE exE=0:=by decide
theorem ex_fits:Fits [exE]:=⟨⟨fun x hx=>by rw[List.mem_singleton.1 hx]; exact exE_chk,fun x hx=>by rw[List.mem_singleton.1 hx]; decide,List.pairwise_singleton _ _⟩,by simp,by decide⟩
theorem ex_chunks:chunks [exE] 0 []= [[exE]]:=by
 unfold chunks
 rw[if_neg (fun h=>h.2 rfl)]
 unfold chunks
 rw[if_pos rfl,List.nil_append]
theorem ex_idx:(fileOf [exE]).idx.length=1:=by
 show (idxL 0 (chunks [exE] 0 [])).length=1
 rw[idxL_len,ex_chunks]; rfl
theorem mk_le {L:List Par} (hu:upL0 L) {a b:Nat} (hb:b<1000) (ha:a<1000) (hn:L.length≤40) (h:∀ p∈L,p.nl.length≤a∧p.vl.length≤b):(mkI L).1.length≤(a+b+30)*L.length+4*L.length+8:=by
 have hB:=body_le2 (a:=a) (b:=b) (by omega) (by omega) L 0 [] h
 have hq:(a+b+30)*L.length≤2030*40:=Nat.mul_le_mul (by omega) hn
 have hm:=mkI_ok hu (by omega)
 have hw:=wholeL_len L 0 0 []
 have hcn:=cntL_le L 0
 rw[hm]
 simp only[List.length_append,leI_len]
 show _+_+4≤_
 omega
theorem ex_len:(fileY [exE]).length≤2000:=by
 have h:=ex_fits
 have hc: [exE]∈chunks [exE] 0 []:=by rw[ex_chunks]; simp
 have h1:=mk_le (upL0_of (h.good.sub (h.sub hc)).inn) (a:=266) (b:=1) (by decide) (by decide) (by decide) (fun p hp=>by
  obtain ⟨y,hy,rfl⟩:=List.mem_map.1 hp
  rw[List.mem_singleton.1 hy,ofE_nl]
  exact ⟨inn_len exE_chk,by decide⟩)
 have h2:=mk_le (upL0_pair (idx_pair _ 0 (chunks_ne [exE] 0 []) h.pw)) (a:=266) (b:=20) (by decide) (by decide) (by rw[idxL_len]; exact h.chunks_len) (fun p hp=>by
  obtain ⟨c,hc',e1,o',e2,e3⟩:=idx_mem _ _ p hp
  have hpb:=pageB_le h hc'
  have hpl:=pagesB_le h (chunks [exE] 0 []) (fun c hc=>hc)
  have hcl:=h.chunks_len
  have hm:=lastE_mem (chunks_ne [exE] 0 [] c hc')
  rw[e1,e2,List.length_append]
  have g1:=inn_len (h.good.chk _ ((h.sub hc').subset hm))
  have g2:=putI_len (o':Int) (by omega)
  have g3:=putI_len ((pageB c).length:Int) (by omega)
  omega)
 rw[idxL_len,ex_chunks] at h2
 rw[List.length_map] at h1
 have h4:=filB_len h
 have h5:=footB_len [exE]
 simp only[fileY,List.length_append]
 have e1:(pagesB (chunks [exE] 0 [])).length=(mkI ([exE].map ofE)).1.length+12:=by
  rw[ex_chunks,pagesB,pagesB,List.append_nil]
  unfold pageB
  rw[recB_len]
 have e2:(idxY (chunks [exE] 0 [])).length=(mkI (idxL 0 [[exE]])).1.length+12:=by
  unfold idxY
  rw[recB_len,ex_chunks]
 rw[e1,e2]
 simp only[List.length_cons,List.length_nil] at h1 h2
 omega
theorem ex_best:bestE [exE] ⟨#[97]⟩ 5=some exE:=by
 unfold bestE
 rw[List.find?_cons_of_pos (by decide)]
theorem write_open {D:Dsk} (h:Live D) {nm:ByteArray} (hn:isName nm=true) (hc:D.cont nm=none) {L:List Ent} (hf:Fits L) (hr:((fileY L).length:Int)≤D.room - D.used):
  (writeD D nm (fileY L)).2=(((fileY L).length:Int),0)∧Live (writeD D nm (fileY L)).1∧(writeD D nm (fileY L)).1.cont nm=some (fileY L)∧contF (writeD D nm (fileY L)).1 nm=fileY L∧(writeD D nm (fileY L)).1.get nm≠none∧(writeD D nm (fileY L)).1.used=D.used+(fileY L).length:=by
 obtain ⟨a1,a2,a3,a4,a5⟩:=write_live h hn hc hr
 have a6:=contF_some (D:=(writeD D nm (fileY L)).1) (nm:=nm) (c:=fileY L) (by rw[a3,if_pos rfl])
 exact ⟨a1,a2,by rw[a3,if_pos rfl],a6.1,a6.2,a4⟩
theorem fileOf_ok {L:List Ent} (h:Fits L):FOk (fileOf L):=by
 have:=open_ok (c:=fileY L) (by have:=fileY_len h; omega) (by rw[openI_file h])
 rw[openI_file h] at this
 exact this
def RHeadF:List AV→AV→Prop:=fun args r=>args= []∧r=vb true
noncomputable def gHeadF:=relG RHeadF
theorem gHeadF_eq:gHeadF []=some (vb true):=relG_eq (fun _ _ _ h1 h2=>h1.2.trans h2.2.symm) ⟨rfl,rfl⟩
theorem SHeadF:SoundF DP iHeadF (.pure gHeadF):=sound_pureT mixedD Γ0_ok ΔR1_ok hfHeadF heHeadF hbHeadF (by
 rintro args r ⟨rfl,rfl⟩
 have hl:Live (newD 10000):=live_new
 have hf:=ex_fits
 have hlen:=ex_len
 obtain ⟨a1,a2,a3,a4,a5,a6⟩:=write_open hl (nm:=⟨#[102]⟩) (by decide) (cont_new _ _) hf (by show _≤(10000:Int) - 0; omega)
 rw[show (newD 10000).used=0 from rfl,Int.zero_add] at a6
 have hg:=get_file hf ⟨#[97]⟩ 5 (by decide)
 rw[if_pos (by decide),ex_best] at hg
 refine ⟨rfl,rfl,_,THeadF_chk (newD 10000) (writeD (newD 10000) ⟨#[102]⟩ (fileY [exE])).1 (fileOf [exE]) (fileY [exE]).length exE,?_⟩
 have cw:=fun (B:List Box) (hb:B[0]? = some (dskB (newD 10000)))=>oFWrite (b:=0) hl.ok hf (nm:=⟨#[102]⟩) (by decide) hb
 rw[a1] at cw
 have co:=fun (B:List Box) (hb:B[0]? = some (dskB (writeD (newD 10000) ⟨#[102]⟩ (fileY [exE])).1))=>oFOpen (b:=0) a2.ok a2.up a5 (by rw[a4,openI_file hf]) hb
 rw[a4,openI_file hf] at co
 have cg:=fun (B:List Box) (hb:B[0]? = some (dskB (writeD (newD 10000) ⟨#[102]⟩ (fileY [exE])).1)) (hl:B[3]? = some (filC 0 ⟨#[102]⟩ (fileOf [exE])))=>oFGet (l:=3) (b:=0) (k:=⟨#[97]⟩) (seq:=5) a2.ok a2.up (fileOf_ok hf) (by decide) (by decide) hb hl
 rw[a4,hg] at cg
 have cu:=fun (B:List Box) (hb:B[0]? = some (dskB (writeD (newD 10000) ⟨#[102]⟩ (fileY [exE])).1))=>oUsed a2.ok hb
 rw[a6] at cu
 unfold THeadF
 exact wp_callr (oNew 10000) (wp_callr ⟨2,2,0,Ent,entE,[exE],rfl,rfl,cw _ rfl⟩ (wp_callr (co _ rfl) (wp_callr (oFil (l:=3) rfl rfl rfl) (wp_sp (fun h=>absurd h (by rw[ex_idx]; decide)) (fun _=>wp_callr (cu _ rfl) (wp_sp (fun h=>absurd h (by simp)) (fun _=>wp_callr (cg _ rfl rfl) (wp_leaf rfl (by
  show Sealed _ _ (vb _) (vb true)
  have:(((exE.key:ByteArray).toList == (⟨#[97]⟩:ByteArray).toList)&&(((exE.seq:Int) == (5:Int))&&((exE.del == false)&&(((exE.val:ByteArray).toList == (⟨#[118]⟩:ByteArray).toList)&&true))))=true:=by simp[exE]
  rw[this]
  exact .p _))))))))))
end Go.Ax

namespace Go.Ax
open Go.Proofs Go.RowKit
set_option maxRecDepth 100000

noncomputable def ΓS1:Env:=envP [(18,gHeadF),(19,gBigL),(20,gSomeL)]
end Go.Ax

namespace Go.Ax
open Go.Proofs Go.RowKit
set_option maxRecDepth 100000

section
variable {L : List Ent}
theorem pageB_sum (h:Fits L) {c:List Ent} (hc:c∈chunks L 0 []):(pageB c).length≤304*c.length+(c.map szE).sum+16:=by
 have hs:=h.sub hc
 have hB:=body_le c 0 [] (fun x hx=>h.good.chk x (hs.subset hx))
 have hp:=h.page hc
 have hu:=upL0_of (h.good.sub hs).inn
 have hm:=mkI_ok hu (by omega)
 have hw:=wholeL_len (c.map ofE) 0 0 []
 have hcn:=cntL_le (c.map ofE) 0
 rw[List.length_map] at hcn
 unfold pageB
 rw[recB_len,hm]
 simp only[List.length_append,leI_len]
 omega
theorem pagesB_sum (h:Fits L):∀ C:List (List Ent),(∀ c∈C,c∈chunks L 0 [])→(pagesB C).length≤304*C.flatten.length+(C.flatten.map szE).sum+16*C.length
 | [],_=>Nat.zero_le _
 | c::C,hC=>by
  have h1:=pagesB_sum h C (fun d hd=>hC d (by simp[hd]))
  have h2:=pageB_sum h (hC c (by simp))
  rw[pagesB,List.length_append,List.length_cons,List.flatten_cons,List.length_append,List.map_append,List.sum_append]
  omega
theorem szE_sum {V:Nat}:∀ {L:List Ent},(∀ x∈L,x.key.size≤128∧x.val.size≤V)→(L.map szE).sum≤(128+V)*L.length
 | [],_=>Nat.zero_le _
 | x::L,h=>by
  have h1:=h x (by simp)
  have h2:=szE_sum (L:=L) (fun y hy=>h y (by simp[hy]))
  have h3:szE x=x.key.size+x.val.size:=rfl
  rw[List.map_cons,List.sum_cons,List.length_cons,Nat.mul_succ]
  omega
theorem Fits.len2 (h:Fits L) {V:Nat} (hv:∀ x∈L,x.val.size≤V):(fileY L).length≤(128+V)*L.length+304*L.length+21000:=by
 have h1:=pagesB_sum h (chunks L 0 []) (fun c hc=>hc)
 have h2:=h.chunks_len
 have h3:=idxY_len h
 have h4:=filB_len h
 have h5:=footB_len L
 rw[h.flat] at h1
 have h6:=szE_sum (L:=L) (V:=V) (fun x hx=>⟨by have:=chk_key (h.good.chk x hx); omega,hv x hx⟩)
 simp only[fileY,List.length_append]
 omega
end
theorem repeatL_len (l:List UInt8):∀ n:Nat,(Lib.repeatL l n).length=n*l.length
 | 0=>by simp[Lib.repeatL]
 | n+1=>by rw[Lib.repeatL,List.length_append,repeatL_len l n,Nat.succ_mul,Nat.add_comm]
theorem repB_size (s:ByteArray) (n:Nat):(repB s n).size=n*s.size:=by
 show (Lib.repeatL s.data.toList n).toArray.size=_
 rw[List.size_toArray,repeatL_len]
 rfl
theorem repE_size (t:Int) (x:Ent):(repE t x).val.size≤64*x.val.size:=by
 unfold repE
 split
 ·omega
 ·show (repB x.val (1+t % 64).toNat).size≤_
  rw[repB_size]
  exact Nat.mul_le_mul_right _ (by omega)
theorem someL_mem (t:Int) (L:List Ent):∀ y∈someL t L,∃ x∈L,y=repE t x:=by
 have:∀ (M out:List Ent),(∀ y∈out,∃ x∈L,y=repE t x)→(∀ x∈M,x∈L)→∀ y∈M.foldl (someF t) out,∃ x∈L,y=repE t x:=by
  intro M
  induction M with
  | nil=>intro out h _; exact h
  | cons x M ih=>
   intro out h hM
   rw[List.foldl_cons]
   refine ih _ (fun y hy=>?_) (fun z hz=>hM z (by simp[hz]))
   unfold someF at hy
   split at hy
   ·exact h y hy
   ·rcases insE_mem _ _ y hy with rfl | e
    ·exact ⟨x,hM x (by simp),rfl⟩
    ·exact h y e
 exact this L [] (fun y hy=>by cases hy) (fun x hx=>hx)
theorem some_fits {L:List Ent} (t:Int) (hs:∀ x∈L,0≤x.seq) (hn:L.length≤40) (hv:∀ x∈L,x.val.size≤200) (hA:someL t L≠ []):Fits (someL t L)∧(fileY (someL t L)).length≤600000:=by
 obtain ⟨g1,g2⟩:=someL_good t L hs
 have hf:Fits (someL t L):=⟨g1,hA,by omega⟩
 refine ⟨hf,?_⟩
 have:=hf.len2 (V:=12800) (fun y hy=>by
  obtain ⟨x,hx,rfl⟩:=someL_mem t L y hy
  have h1:=repE_size t x
  have h2:=hv x hx
  omega)
 have h40:=hf.few
 omega
def atE (A:List Ent) (k:ByteArray) (seq:Int):Option Nat:=A.findIdx? fun y=>decide (y.key=k∧y.seq≤seq∧seq≤72057594037927935)
theorem atE_best (A:List Ent) (k:ByteArray) (seq:Int):(if seq≤72057594037927935 then bestE A k seq else none)=(atE A k seq).bind (fun i=>A[i]?):=by
 unfold atE
 rw[←List.find?_eq_bind_findIdx?_getElem?]
 split
 ·rename_i h
  unfold bestE
  congr 1
  funext y
  simp[h]
 ·rename_i h
  exact (fnd_none (fun x _=>by simp[h])).symm
end Go.Ax

namespace Go.Ax
open Go.Proofs Go.RowKit
set_option maxRecDepth 100000

def seqIn (a:Ent):Prop:=0≤a.seq∧a.seq<18446744073709551616
def LawL (L:List Ent) (t:Int):Prop:=(∀ x∈L,seqIn x)∧(-(2 ^ 63:Int)≤t∧t<2 ^ 63)
theorem law_some {L:List Ent} {t:Int} (h:LawL L t) (hb:bigE L=false):gSomeL [vl (L.map entE.f),vi t]=some (vl ((someL t L).map entE.f))∧(someL t L≠ []→Fits (someL t L)∧(fileY (someL t L)).length≤600000):=by
 obtain ⟨b1,b2⟩:=bigE_false hb
 exact ⟨gSomeL_eq h.2 (by omega) (fun x hx=>by have:=(b2 x hx).2; omega),some_fits t (fun x hx=>(h.1 x hx).1) b1 (fun x hx=>(b2 x hx).2)⟩
theorem ΓS1_ok:∀ f,SoundF DP f (ΓS1 f):=envP_cons SHeadF (envP_cons SBigL (envP_cons SSomeL envP_nil))
section
variable {k : ByteArray} {seq : Int} {A : List Ent} {D1 : Dsk} {F1 : FileR} {u : Ent} {o : Bool}
theorem ent_eqb {x y:Ent} (h:x=y):((x.key.toList == y.key.toList)&&(((x.seq:Int) == (y.seq:Int))&&((x.del == y.del)&&((x.val.toList == y.val.toList)&&true))))=true:=by
 subst h; simp
end
theorem get_at {A:List Ent} (hf:Fits A) (k:ByteArray) (seq:Int) (hs:0≤seq):∃ u o,getE (fileY A) (fileOf A) k seq=(u,o,0)∧((o=false∧u=noE∧atE A k seq=none)∨(o=true∧∃ j,atE A k seq=some j∧A[j]? = some u)):=by
 have hgf:=get_file hf k seq hs
 rw[atE_best] at hgf
 cases hq:atE A k seq with
 | none=>
  rw[hq] at hgf
  exact ⟨noE,false,hgf, .inl ⟨rfl,rfl,rfl⟩⟩
 | some j=>
  rw[hq] at hgf
  have hj:j<A.length:=by
   unfold atE at hq
   exact (List.findIdx?_eq_some_iff_getElem.1 hq).1
  have hu:A[j]? = some A[j]:=List.getElem?_eq_getElem hj
  simp only[Option.bind_some] at hgf
  rw[hu] at hgf
  exact ⟨A[j],true,hgf, .inr ⟨rfl,j,rfl,hu⟩⟩
end Go.Ax

namespace Go.Ax
open Go.Proofs Go.RowKit
set_option maxRecDepth 100000

end Go.Ax

namespace Go.Ax
open Go.Proofs Go.RowKit
set_option maxRecDepth 100000

section
variable {y : Ent} {A : List Ent} {C : List (List Ent)} {D1 : Dsk} {F1 : FileR}
end
end Go.Ax
