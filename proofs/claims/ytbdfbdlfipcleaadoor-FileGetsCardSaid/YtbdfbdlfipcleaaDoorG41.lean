/- The document's example of file holds. -/
import Derived.Test.YtbdfbdlfipcleaaDoorG40
import Derived.Test.YtbdfbdlfipcleaaDoorG32
import Derived.Test.YtbdfbdlfipcleaaDoorTie
import Derived.Test.YtbdfbdlfipcleaaDoorG11
import Derived.OpenShut
import Derived.WalkKit
import Derived.ProofKit
import Derived.LaidMore
import Derived.LaidLaws
import Derived.LaidHandle
import Derived.Lib.LaidTab
import Derived.Stop.Joined
set_option linter.unusedVariables false
set_option linter.unusedSimpArgs false
set_option linter.unusedSectionVars false
namespace Go.Ax
open Go.Proofs Go.RowKit
set_option maxRecDepth 100000

theorem ΔR1_ok:∀ f,SoundR DP f (ΔR1 f):=envR_cons (lift_sound SNew)<|envR_cons (lift_sound SFWrite).shutRow<|envR_cons (lift_sound SFOpen)<|envR_cons (lift_sound SFPages)<|envR_cons (lift_sound SUsed)<|envR_cons (lift_sound SFGet) envR_nil
def exE:Ent:=⟨⟨#[97]⟩,5,false,⟨#[118]⟩⟩
theorem exE_chk:chkE exE=0:=by decide
theorem ex_fits:Fits [exE]:=⟨⟨fun x hx=>by rw[List.mem_singleton.1 hx]; exact exE_chk,fun x hx=>by rw[List.mem_singleton.1 hx]; decide,List.pairwise_singleton _ _⟩,by simp,by decide⟩
theorem ex_chunks:chunks [exE] 0 []= [[exE]]:=by
 unfold chunks
 rw[if_neg (fun h=>h.2 rfl)]
 unfold chunks
 rw[if_pos rfl,List.nil_append]
theorem ex_idx:(fileOf [exE]).idx.length=1:=by
 show (idxL 0 (chunks [exE] 0 [])).length=1
 rw[idxL_len,ex_chunks]; rfl
theorem mk_le {L:List Par} (hu:upL0 L) {a b:Nat} (hb:b<1000) (ha:a<1000) (hn:L.length≤40) (h:∀ p∈L,p.nl.length≤a∧p.vl.length≤b):(mkI L).1.length≤(a+b+30)*L.length+4*L.length+8:=by
 have hB:=body_le2 (a:=a) (b:=b) (by omega) (by omega) L 0 [] h
 have hq:(a+b+30)*L.length≤2030*40:=Nat.mul_le_mul (by omega) hn
 have hm:=mkI_ok hu (by omega)
 have hw:=wholeL_len L 0 0 []
 have hcn:=cntL_le L 0
 rw[hm]
 simp only[List.length_append,leI_len]
 show _+_+4≤_
 omega
theorem ex_len:(fileY [exE]).length≤2000:=by
 have h:=ex_fits
 have hc: [exE]∈chunks [exE] 0 []:=by rw[ex_chunks]; simp
 have h1:=mk_le (upL0_of (h.good.sub (h.sub hc)).inn) (a:=266) (b:=1) (by decide) (by decide) (by decide) (fun p hp=>by
  obtain ⟨y,hy,rfl⟩:=List.mem_map.1 hp
  rw[List.mem_singleton.1 hy,ofE_nl]
  exact ⟨inn_len exE_chk,by decide⟩)
 have h2:=mk_le (upL0_pair (idx_pair _ 0 (chunks_ne [exE] 0 []) h.pw)) (a:=266) (b:=20) (by decide) (by decide) (by rw[idxL_len]; exact h.chunks_len) (fun p hp=>by
  obtain ⟨c,hc',e1,o',e2,e3⟩:=idx_mem _ _ p hp
  have hpb:=pageB_le h hc'
  have hpl:=pagesB_le h (chunks [exE] 0 []) (fun c hc=>hc)
  have hcl:=h.chunks_len
  have hm:=lastE_mem (chunks_ne [exE] 0 [] c hc')
  rw[e1,e2,List.length_append]
  have g1:=inn_len (h.good.chk _ ((h.sub hc').subset hm))
  have g2:=putI_len (o':Int) (by omega)
  have g3:=putI_len ((pageB c).length:Int) (by omega)
  omega)
 rw[idxL_len,ex_chunks] at h2
 rw[List.length_map] at h1
 have h4:=filB_len h
 have h5:=footB_len [exE]
 simp only[fileY,List.length_append]
 have e1:(pagesB (chunks [exE] 0 [])).length=(mkI ([exE].map ofE)).1.length+12:=by
  rw[ex_chunks,pagesB,pagesB,List.append_nil]
  unfold pageB
  rw[recB_len]
 have e2:(idxY (chunks [exE] 0 [])).length=(mkI (idxL 0 [[exE]])).1.length+12:=by
  unfold idxY
  rw[recB_len,ex_chunks]
 rw[e1,e2]
 simp only[List.length_cons,List.length_nil] at h1 h2
 omega
theorem ex_best:bestE [exE] ⟨#[97]⟩ 5=some exE:=by
 unfold bestE
 rw[List.find?_cons_of_pos (by decide)]
theorem write_open {D:Dsk} (h:Live D) {nm:ByteArray} (hn:isName nm=true) (hc:D.cont nm=none) {L:List Ent} (hf:Fits L) (hr:((fileY L).length:Int)≤D.room - D.used):
  (writeD D nm (fileY L)).2=(((fileY L).length:Int),0)∧Live (writeD D nm (fileY L)).1∧(writeD D nm (fileY L)).1.cont nm=some (fileY L)∧contF (writeD D nm (fileY L)).1 nm=fileY L∧(writeD D nm (fileY L)).1.get nm≠none∧(writeD D nm (fileY L)).1.used=D.used+(fileY L).length:=by
 obtain ⟨a1,a2,a3,a4,a5⟩:=write_live h hn hc hr
 have a6:=contF_some (D:=(writeD D nm (fileY L)).1) (nm:=nm) (c:=fileY L) (by rw[a3,if_pos rfl])
 exact ⟨a1,a2,by rw[a3,if_pos rfl],a6.1,a6.2,a4⟩
theorem fileOf_ok {L:List Ent} (h:Fits L):FOk (fileOf L):=by
 have:=open_ok (c:=fileY L) (by have:=fileY_len h; omega) (by rw[openI_file h])
 rw[openI_file h] at this
 exact this
def RHeadF:List AV→AV→Prop:=fun args r=>args= []∧r=vb true
noncomputable def gHeadF:=relG RHeadF
theorem gHeadF_eq:gHeadF []=some (vb true):=relG_eq (fun _ _ _ h1 h2=>h1.2.trans h2.2.symm) ⟨rfl,rfl⟩
theorem SHeadF:SoundF DP iHeadF (.pure gHeadF):=sound_pureT mixedD Γ0_ok ΔR1_ok hfHeadF heHeadF hbHeadF (by
 rintro args r ⟨rfl,rfl⟩
 have hl:Live (newD 10000):=live_new
 have hf:=ex_fits
 have hlen:=ex_len
 obtain ⟨a1,a2,a3,a4,a5,a6⟩:=write_open hl (nm:=⟨#[102]⟩) (by decide) (cont_new _ _) hf (by show _≤(10000:Int) - 0; omega)
 rw[show (newD 10000).used=0 from rfl,Int.zero_add] at a6
 have hg:=get_file hf ⟨#[97]⟩ 5 (by decide)
 rw[if_pos (by decide),ex_best] at hg
 refine ⟨rfl,rfl,_,THeadF_chk (newD 10000) (writeD (newD 10000) ⟨#[102]⟩ (fileY [exE])).1 (fileOf [exE]) (fileY [exE]).length exE,?_⟩
 have cw:=fun (B:List Box) (hb:B[0]? = some (dskB (newD 10000)))=>oFWrite (b:=0) hl.ok hf (nm:=⟨#[102]⟩) (by decide) hb
 rw[a1] at cw
 have co:=fun (B:List Box) (hb:B[0]? = some (dskB (writeD (newD 10000) ⟨#[102]⟩ (fileY [exE])).1))=>oFOpen (b:=0) a2.ok a2.up a5 (by rw[a4,openI_file hf]) hb
 rw[a4,openI_file hf] at co
 have cg:=fun (B:List Box) (hb:B[0]? = some (dskB (writeD (newD 10000) ⟨#[102]⟩ (fileY [exE])).1)) (hl:B[3]? = some (filC 0 ⟨#[102]⟩ (fileOf [exE])))=>oFGet (l:=3) (b:=0) (k:=⟨#[97]⟩) (seq:=5) a2.ok a2.up (fileOf_ok hf) (by decide) (by decide) hb hl
 rw[a4,hg] at cg
 have cu:=fun (B:List Box) (hb:B[0]? = some (dskB (writeD (newD 10000) ⟨#[102]⟩ (fileY [exE])).1))=>oUsed a2.ok hb
 rw[a6] at cu
 unfold THeadF
 exact wp_callr (oNew 10000) (wp_callr ⟨2,2,0,Ent,entE,[exE],rfl,rfl,cw _ rfl⟩ (wp_callr (co _ rfl) (wp_callr (oFil (l:=3) rfl rfl rfl) (wp_sp (fun h=>absurd h (by rw[ex_idx]; decide)) (fun _=>wp_callr (cu _ rfl) (wp_sp (fun h=>absurd h (by simp)) (fun _=>wp_callr (cg _ rfl rfl) (wp_leaf rfl (by
  show Sealed _ _ (vb _) (vb true)
  have:(((exE.key:ByteArray).toList == (⟨#[97]⟩:ByteArray).toList)&&(((exE.seq:Int) == (5:Int))&&((exE.del == false)&&(((exE.val:ByteArray).toList == (⟨#[118]⟩:ByteArray).toList)&&true))))=true:=by simp[exE]
  rw[this]
  exact .p _))))))))))
end Go.Ax

namespace Go.Ax
open Go.Proofs Go.RowKit
set_option maxRecDepth 100000

noncomputable def ΓS1:Env:=envP [(18,gHeadF),(19,gBigL),(20,gSomeL)]
noncomputable def ΔS1:REnv:=envR [(iNew,liftR ONew),(iFWrite,liftR OFWrite),(iFOpen,liftR OFOpen),(iFGet,liftR OFGet),(iFPages,liftR OFPages),(iFFind,liftR OFFind2),(iFCount,liftR OFCount),(iFLow,liftR OFLow),(iFHigh,liftR OFHigh)]

abbrev iGets:Nat:=9
noncomputable abbrev nGets:Func:=Tryd.f9
theorem hfGets:DP.funcs[iGets]? = some nGets:=by kernel_rfl
theorem heGets:enters DP iGets=true:=by kernel_rfl
theorem hbGets:nGets.body.isSome=true:=by kernel_rfl
noncomputable def TGets_l1_e (k:ByteArray) (seq:Int) (A:List Ent) (D1:Dsk) (F1:FileR) (s1:Int×Int):St:=([(2,vs k),(3,vn .u64 seq),(9,vl (A.map entE.f)),(13, .ptr 0 0 0),(15,vi s1.1),(58,vl (A.map entE.f)),(59,vi (A.length:Int)),(60,vi s1.2)],[.cells false 0 ([.op 1,vs (⟨#[102]⟩:ByteArray),vl (F1.idx.map parE.f),vl (F1.bits.map byteE.f),vi F1.cnt,vs F1.low,vs F1.high]), .obj [] (diskP D1)])
noncomputable def TGets_l1_x (k:ByteArray) (seq:Int) (A:List Ent) (D1:Dsk) (F1:FileR) (x1:Int):AE×St:=((.exit 0),([(2,vs k),(3,vn .u64 seq),(9,vl (A.map entE.f)),(13, .ptr 0 0 0),(15,vi x1)],[.cells false 0 ([.op 1,vs (⟨#[102]⟩:ByteArray),vl (F1.idx.map parE.f),vl (F1.bits.map byteE.f),vi F1.cnt,vs F1.low,vs F1.high]), .obj [] (diskP D1)]))
noncomputable def TGets_l1_b (k:ByteArray) (seq:Int) (A:List Ent) (D1:Dsk) (F1:FileR) (s1:Int×Int):Tree:=
.sp 61 (decide (s1.2<(A.length:Int))) (
.elem 63 (A.map entE.f) entE A s1.2 (fun e1=> .sp 68 (e1.key.toList == k.toList) (
.sp 73 (decide (e1.seq≤seq)) (
.sp 77 (decide (seq≤(72057594037927935:Int))) (
.sp 81 (decide (s1.1<(0:Int))) (
.int 84 (IntKind.i64.wrap (s1.2+1)) (s1.2+1) (.leaf ⟨[2,3,9,13,15,58,59,60],[(0,0,none),(1,0,none)]⟩ [] .normal (some (TGets_l1_e k seq A D1 F1 (s1.2,s1.2+1))))) (
.int 84 (IntKind.i64.wrap (s1.2+1)) (s1.2+1) (.leaf ⟨[2,3,9,13,15,58,59,60],[(0,0,none),(1,0,none)]⟩ [] .normal (some (TGets_l1_e k seq A D1 F1 (s1.1,s1.2+1)))))) (
.int 84 (IntKind.i64.wrap (s1.2+1)) (s1.2+1) (.leaf ⟨[2,3,9,13,15,58,59,60],[(0,0,none),(1,0,none)]⟩ [] .normal (some (TGets_l1_e k seq A D1 F1 (s1.1,s1.2+1)))))) (
.int 84 (IntKind.i64.wrap (s1.2+1)) (s1.2+1) (.leaf ⟨[2,3,9,13,15,58,59,60],[(0,0,none),(1,0,none)]⟩ [] .normal (some (TGets_l1_e k seq A D1 F1 (s1.1,s1.2+1)))))) (
.int 84 (IntKind.i64.wrap (s1.2+1)) (s1.2+1) (.leaf ⟨[2,3,9,13,15,58,59,60],[(0,0,none),(1,0,none)]⟩ [] .normal (some (TGets_l1_e k seq A D1 F1 (s1.1,s1.2+1))))))) (
.leaf ⟨[2,3,9,13,15],[(0,0,none),(1,0,none)]⟩ [] (.exit 0) (some (TGets_l1_x k seq A D1 F1 s1.1).2))
noncomputable def TGets (L:List Ent) (t:Int) (k:ByteArray) (seq:Int) (A:List Ent) (D0:Dsk) (D1:Dsk) (F1:FileR) (n1:Int) (u:Ent) (o:Bool):Tree:=
.call 25 (gHeadF []=some (vb true)) (vb true) (.call 28 (gBigL [vl (L.map entE.f)]=some (vb (bigE L))) (vb (bigE L)) (.sp 28 (bigE L) (
.leaf ⟨[0],[]⟩ [] .ret (some ([(0,vb true)],[]))) (
.sp 32 (decide ((k.size:Int)>(300:Int))) (
.leaf ⟨[0],[]⟩ [] .ret (some ([(0,vb true)],[]))) (
.call 36 (gSomeL [vl (L.map entE.f),vi t]=some (vl (A.map entE.f))) (vl (A.map entE.f)) (.int 38 ((A.map entE.f).length:Int) (A.length:Int) (.sp 39 ((A.length:Int) == (0:Int)) (
.leaf ⟨[0],[]⟩ [] .ret (some ([(0,vb true)],[]))) (
.callr (some 40) (ΔS1 30 [vi 1048576] [] (.op 0) [.obj [] (diskP D0)]) (.op 0) [.obj [] (diskP D0)] (.callr (some 44) (ΔS1 31 [.op 0,vs (⟨#[102]⟩),vl (A.map entE.f)] [.obj [] (diskP D0)] (.tup [vi n1,vi 0]) [.obj [] (diskP D1)]) (.tup [vi n1,vi 0]) [.obj [] (diskP D1)] (.callr (some 49) (ΔS1 32 [.op 0,vs (⟨#[102]⟩)] [.obj [] (diskP D1)] (.tup [.ptr 1 0 0,vi 0]) [.obj [] (diskP D1), .cells false 0 ([.op 0,vs (⟨#[102]⟩:ByteArray),vl (F1.idx.map parE.f),vl (F1.bits.map byteE.f),vi F1.cnt,vs F1.low,vs F1.high])]) (.tup [.ptr 1 0 0,vi 0]) [.obj [] (diskP D1), .cells false 0 ([.op 0,vs (⟨#[102]⟩:ByteArray),vl (F1.idx.map parE.f),vl (F1.bits.map byteE.f),vi F1.cnt,vs F1.low,vs F1.high])] (.int 59 ((A.map entE.f).length:Int) (A.length:Int) (.loop ⟨[2,3,9,13,15,58,59,60],[(1,0,none),(0,0,none)]⟩ [] (some (TGets_l1_e k seq A D1 F1 ((-1),0))) (TGets_l1_e k seq A D1 F1) (TGets_l1_x k seq A D1 F1) noX ((-1),0) (TGets_l1_b k seq A D1 F1) (fun (x1:Int)=> .callr (some 89) (ΔS1 34 [.ptr 0 0 0,vs k,vn .u64 seq] [.cells false 0 ([.op 1,vs (⟨#[102]⟩:ByteArray),vl (F1.idx.map parE.f),vl (F1.bits.map byteE.f),vi F1.cnt,vs F1.low,vs F1.high]), .obj [] (diskP D1)] (.tup [(entE.av u),vb o,vi 0]) [.cells false 0 ([.op 1,vs (⟨#[102]⟩:ByteArray),vl (F1.idx.map parE.f),vl (F1.bits.map byteE.f),vi F1.cnt,vs F1.low,vs F1.high]), .obj [] (diskP D1)]) (.tup [(entE.av u),vb o,vi 0]) [.cells false 0 ([.op 1,vs (⟨#[102]⟩:ByteArray),vl (F1.idx.map parE.f),vl (F1.bits.map byteE.f),vi F1.cnt,vs F1.low,vs F1.high]), .obj [] (diskP D1)] (.sp 91 o (
.callr (some 97) (ΔS1 34 [.p (.v (.pointer none)),vs k,vn .u64 seq] [.cells false 0 ([.op 1,vs (⟨#[102]⟩:ByteArray),vl (F1.idx.map parE.f),vl (F1.bits.map byteE.f),vi F1.cnt,vs F1.low,vs F1.high]), .obj [] (diskP D1), .cells false 0 ([vs u.key,vn .u64 u.seq,vb u.del,vs u.val])] (.tup [(entE.av noE),vb false,vi 1]) [.cells false 0 ([.op 1,vs (⟨#[102]⟩:ByteArray),vl (F1.idx.map parE.f),vl (F1.bits.map byteE.f),vi F1.cnt,vs F1.low,vs F1.high]), .obj [] (diskP D1), .cells false 0 ([vs u.key,vn .u64 u.seq,vb u.del,vs u.val])]) (.tup [(entE.av noE),vb false,vi 1]) [.cells false 0 ([.op 1,vs (⟨#[102]⟩:ByteArray),vl (F1.idx.map parE.f),vl (F1.bits.map byteE.f),vi F1.cnt,vs F1.low,vs F1.high]), .obj [] (diskP D1), .cells false 0 ([vs u.key,vn .u64 u.seq,vb u.del,vs u.val])] (.callr (some 105) (ΔS1 36 [.p (.v (.pointer none))] [.cells false 0 ([.op 1,vs (⟨#[102]⟩:ByteArray),vl (F1.idx.map parE.f),vl (F1.bits.map byteE.f),vi F1.cnt,vs F1.low,vs F1.high]), .obj [] (diskP D1), .cells false 0 ([vs u.key,vn .u64 u.seq,vb u.del,vs u.val]), .cells false 0 ([vs noE.key,vn .u64 noE.seq,vb noE.del,vs noE.val])] (vi 0) [.cells false 0 ([.op 1,vs (⟨#[102]⟩:ByteArray),vl (F1.idx.map parE.f),vl (F1.bits.map byteE.f),vi F1.cnt,vs F1.low,vs F1.high]), .obj [] (diskP D1), .cells false 0 ([vs u.key,vn .u64 u.seq,vb u.del,vs u.val]), .cells false 0 ([vs noE.key,vn .u64 noE.seq,vb noE.del,vs noE.val])]) (vi 0) [.cells false 0 ([.op 1,vs (⟨#[102]⟩:ByteArray),vl (F1.idx.map parE.f),vl (F1.bits.map byteE.f),vi F1.cnt,vs F1.low,vs F1.high]), .obj [] (diskP D1), .cells false 0 ([vs u.key,vn .u64 u.seq,vb u.del,vs u.val]), .cells false 0 ([vs noE.key,vn .u64 noE.seq,vb noE.del,vs noE.val])] (.callr (some 111) (ΔS1 43 [.p (.v (.pointer none)), .agg [vs (⟨#[]⟩),vn .u64 0,vb false,vs (⟨#[]⟩)]] [.cells false 0 ([.op 1,vs (⟨#[102]⟩:ByteArray),vl (F1.idx.map parE.f),vl (F1.bits.map byteE.f),vi F1.cnt,vs F1.low,vs F1.high]), .obj [] (diskP D1), .cells false 0 ([vs u.key,vn .u64 u.seq,vb u.del,vs u.val]), .cells false 0 ([vs noE.key,vn .u64 noE.seq,vb noE.del,vs noE.val])] (vi 0) [.cells false 0 ([.op 1,vs (⟨#[102]⟩:ByteArray),vl (F1.idx.map parE.f),vl (F1.bits.map byteE.f),vi F1.cnt,vs F1.low,vs F1.high]), .obj [] (diskP D1), .cells false 0 ([vs u.key,vn .u64 u.seq,vb u.del,vs u.val]), .cells false 0 ([vs noE.key,vn .u64 noE.seq,vb noE.del,vs noE.val])]) (vi 0) [.cells false 0 ([.op 1,vs (⟨#[102]⟩:ByteArray),vl (F1.idx.map parE.f),vl (F1.bits.map byteE.f),vi F1.cnt,vs F1.low,vs F1.high]), .obj [] (diskP D1), .cells false 0 ([vs u.key,vn .u64 u.seq,vb u.del,vs u.val]), .cells false 0 ([vs noE.key,vn .u64 noE.seq,vb noE.del,vs noE.val])] (.callr (some 116) (ΔS1 33 [.p (.v (.pointer none))] [.cells false 0 ([.op 1,vs (⟨#[102]⟩:ByteArray),vl (F1.idx.map parE.f),vl (F1.bits.map byteE.f),vi F1.cnt,vs F1.low,vs F1.high]), .obj [] (diskP D1), .cells false 0 ([vs u.key,vn .u64 u.seq,vb u.del,vs u.val]), .cells false 0 ([vs noE.key,vn .u64 noE.seq,vb noE.del,vs noE.val])] (vi 0) [.cells false 0 ([.op 1,vs (⟨#[102]⟩:ByteArray),vl (F1.idx.map parE.f),vl (F1.bits.map byteE.f),vi F1.cnt,vs F1.low,vs F1.high]), .obj [] (diskP D1), .cells false 0 ([vs u.key,vn .u64 u.seq,vb u.del,vs u.val]), .cells false 0 ([vs noE.key,vn .u64 noE.seq,vb noE.del,vs noE.val])]) (vi 0) [.cells false 0 ([.op 1,vs (⟨#[102]⟩:ByteArray),vl (F1.idx.map parE.f),vl (F1.bits.map byteE.f),vi F1.cnt,vs F1.low,vs F1.high]), .obj [] (diskP D1), .cells false 0 ([vs u.key,vn .u64 u.seq,vb u.del,vs u.val]), .cells false 0 ([vs noE.key,vn .u64 noE.seq,vb noE.del,vs noE.val])] (.callr (some 121) (ΔS1 39 [.p (.v (.pointer none))] [.cells false 0 ([.op 1,vs (⟨#[102]⟩:ByteArray),vl (F1.idx.map parE.f),vl (F1.bits.map byteE.f),vi F1.cnt,vs F1.low,vs F1.high]), .obj [] (diskP D1), .cells false 0 ([vs u.key,vn .u64 u.seq,vb u.del,vs u.val]), .cells false 0 ([vs noE.key,vn .u64 noE.seq,vb noE.del,vs noE.val])] (vs (⟨#[]⟩)) [.cells false 0 ([.op 1,vs (⟨#[102]⟩:ByteArray),vl (F1.idx.map parE.f),vl (F1.bits.map byteE.f),vi F1.cnt,vs F1.low,vs F1.high]), .obj [] (diskP D1), .cells false 0 ([vs u.key,vn .u64 u.seq,vb u.del,vs u.val]), .cells false 0 ([vs noE.key,vn .u64 noE.seq,vb noE.del,vs noE.val])]) (vs (⟨#[]⟩)) [.cells false 0 ([.op 1,vs (⟨#[102]⟩:ByteArray),vl (F1.idx.map parE.f),vl (F1.bits.map byteE.f),vi F1.cnt,vs F1.low,vs F1.high]), .obj [] (diskP D1), .cells false 0 ([vs u.key,vn .u64 u.seq,vb u.del,vs u.val]), .cells false 0 ([vs noE.key,vn .u64 noE.seq,vb noE.del,vs noE.val])] (.sp 122 (!((⟨#[]⟩:ByteArray).toList == (⟨#[]⟩:ByteArray).toList)) (
.leaf ⟨[0],[]⟩ [] .ret (some ([(0,vb false)],[]))) (
.callr (some 126) (ΔS1 40 [.p (.v (.pointer none))] [.cells false 0 ([.op 1,vs (⟨#[102]⟩:ByteArray),vl (F1.idx.map parE.f),vl (F1.bits.map byteE.f),vi F1.cnt,vs F1.low,vs F1.high]), .obj [] (diskP D1), .cells false 0 ([vs u.key,vn .u64 u.seq,vb u.del,vs u.val]), .cells false 0 ([vs noE.key,vn .u64 noE.seq,vb noE.del,vs noE.val])] (vs (⟨#[]⟩)) [.cells false 0 ([.op 1,vs (⟨#[102]⟩:ByteArray),vl (F1.idx.map parE.f),vl (F1.bits.map byteE.f),vi F1.cnt,vs F1.low,vs F1.high]), .obj [] (diskP D1), .cells false 0 ([vs u.key,vn .u64 u.seq,vb u.del,vs u.val]), .cells false 0 ([vs noE.key,vn .u64 noE.seq,vb noE.del,vs noE.val])]) (vs (⟨#[]⟩)) [.cells false 0 ([.op 1,vs (⟨#[102]⟩:ByteArray),vl (F1.idx.map parE.f),vl (F1.bits.map byteE.f),vi F1.cnt,vs F1.low,vs F1.high]), .obj [] (diskP D1), .cells false 0 ([vs u.key,vn .u64 u.seq,vb u.del,vs u.val]), .cells false 0 ([vs noE.key,vn .u64 noE.seq,vb noE.del,vs noE.val])] (.sp 127 (!((⟨#[]⟩:ByteArray).toList == (⟨#[]⟩:ByteArray).toList)) .stuck (.sp 135 (true == (decide (x1≥(0:Int)))) (
.elem 151 (A.map entE.f) entE A x1 (fun e2=> .leaf ⟨[0],[]⟩ [] .ret (some ([(0,vb (((u.key:ByteArray).toList == (e2.key:ByteArray).toList)&&(((u.seq:Int) == (e2.seq:Int))&&((u.del == e2.del)&&(((u.val:ByteArray).toList == (e2.val:ByteArray).toList)&&true)))))],[])))) (
.leaf ⟨[0],[]⟩ [] .ret (some ([(0,vb false)],[])))))))))))) (
.callr (some 97) (ΔS1 34 [.p (.v (.pointer none)),vs k,vn .u64 seq] [.cells false 0 ([.op 1,vs (⟨#[102]⟩:ByteArray),vl (F1.idx.map parE.f),vl (F1.bits.map byteE.f),vi F1.cnt,vs F1.low,vs F1.high]), .obj [] (diskP D1), .cells false 0 ([vs u.key,vn .u64 u.seq,vb u.del,vs u.val])] (.tup [(entE.av noE),vb false,vi 1]) [.cells false 0 ([.op 1,vs (⟨#[102]⟩:ByteArray),vl (F1.idx.map parE.f),vl (F1.bits.map byteE.f),vi F1.cnt,vs F1.low,vs F1.high]), .obj [] (diskP D1), .cells false 0 ([vs u.key,vn .u64 u.seq,vb u.del,vs u.val])]) (.tup [(entE.av noE),vb false,vi 1]) [.cells false 0 ([.op 1,vs (⟨#[102]⟩:ByteArray),vl (F1.idx.map parE.f),vl (F1.bits.map byteE.f),vi F1.cnt,vs F1.low,vs F1.high]), .obj [] (diskP D1), .cells false 0 ([vs u.key,vn .u64 u.seq,vb u.del,vs u.val])] (.callr (some 105) (ΔS1 36 [.p (.v (.pointer none))] [.cells false 0 ([.op 1,vs (⟨#[102]⟩:ByteArray),vl (F1.idx.map parE.f),vl (F1.bits.map byteE.f),vi F1.cnt,vs F1.low,vs F1.high]), .obj [] (diskP D1), .cells false 0 ([vs u.key,vn .u64 u.seq,vb u.del,vs u.val]), .cells false 0 ([vs noE.key,vn .u64 noE.seq,vb noE.del,vs noE.val])] (vi 0) [.cells false 0 ([.op 1,vs (⟨#[102]⟩:ByteArray),vl (F1.idx.map parE.f),vl (F1.bits.map byteE.f),vi F1.cnt,vs F1.low,vs F1.high]), .obj [] (diskP D1), .cells false 0 ([vs u.key,vn .u64 u.seq,vb u.del,vs u.val]), .cells false 0 ([vs noE.key,vn .u64 noE.seq,vb noE.del,vs noE.val])]) (vi 0) [.cells false 0 ([.op 1,vs (⟨#[102]⟩:ByteArray),vl (F1.idx.map parE.f),vl (F1.bits.map byteE.f),vi F1.cnt,vs F1.low,vs F1.high]), .obj [] (diskP D1), .cells false 0 ([vs u.key,vn .u64 u.seq,vb u.del,vs u.val]), .cells false 0 ([vs noE.key,vn .u64 noE.seq,vb noE.del,vs noE.val])] (.callr (some 111) (ΔS1 43 [.p (.v (.pointer none)), .agg [vs (⟨#[]⟩),vn .u64 0,vb false,vs (⟨#[]⟩)]] [.cells false 0 ([.op 1,vs (⟨#[102]⟩:ByteArray),vl (F1.idx.map parE.f),vl (F1.bits.map byteE.f),vi F1.cnt,vs F1.low,vs F1.high]), .obj [] (diskP D1), .cells false 0 ([vs u.key,vn .u64 u.seq,vb u.del,vs u.val]), .cells false 0 ([vs noE.key,vn .u64 noE.seq,vb noE.del,vs noE.val])] (vi 0) [.cells false 0 ([.op 1,vs (⟨#[102]⟩:ByteArray),vl (F1.idx.map parE.f),vl (F1.bits.map byteE.f),vi F1.cnt,vs F1.low,vs F1.high]), .obj [] (diskP D1), .cells false 0 ([vs u.key,vn .u64 u.seq,vb u.del,vs u.val]), .cells false 0 ([vs noE.key,vn .u64 noE.seq,vb noE.del,vs noE.val])]) (vi 0) [.cells false 0 ([.op 1,vs (⟨#[102]⟩:ByteArray),vl (F1.idx.map parE.f),vl (F1.bits.map byteE.f),vi F1.cnt,vs F1.low,vs F1.high]), .obj [] (diskP D1), .cells false 0 ([vs u.key,vn .u64 u.seq,vb u.del,vs u.val]), .cells false 0 ([vs noE.key,vn .u64 noE.seq,vb noE.del,vs noE.val])] (.callr (some 116) (ΔS1 33 [.p (.v (.pointer none))] [.cells false 0 ([.op 1,vs (⟨#[102]⟩:ByteArray),vl (F1.idx.map parE.f),vl (F1.bits.map byteE.f),vi F1.cnt,vs F1.low,vs F1.high]), .obj [] (diskP D1), .cells false 0 ([vs u.key,vn .u64 u.seq,vb u.del,vs u.val]), .cells false 0 ([vs noE.key,vn .u64 noE.seq,vb noE.del,vs noE.val])] (vi 0) [.cells false 0 ([.op 1,vs (⟨#[102]⟩:ByteArray),vl (F1.idx.map parE.f),vl (F1.bits.map byteE.f),vi F1.cnt,vs F1.low,vs F1.high]), .obj [] (diskP D1), .cells false 0 ([vs u.key,vn .u64 u.seq,vb u.del,vs u.val]), .cells false 0 ([vs noE.key,vn .u64 noE.seq,vb noE.del,vs noE.val])]) (vi 0) [.cells false 0 ([.op 1,vs (⟨#[102]⟩:ByteArray),vl (F1.idx.map parE.f),vl (F1.bits.map byteE.f),vi F1.cnt,vs F1.low,vs F1.high]), .obj [] (diskP D1), .cells false 0 ([vs u.key,vn .u64 u.seq,vb u.del,vs u.val]), .cells false 0 ([vs noE.key,vn .u64 noE.seq,vb noE.del,vs noE.val])] (.callr (some 121) (ΔS1 39 [.p (.v (.pointer none))] [.cells false 0 ([.op 1,vs (⟨#[102]⟩:ByteArray),vl (F1.idx.map parE.f),vl (F1.bits.map byteE.f),vi F1.cnt,vs F1.low,vs F1.high]), .obj [] (diskP D1), .cells false 0 ([vs u.key,vn .u64 u.seq,vb u.del,vs u.val]), .cells false 0 ([vs noE.key,vn .u64 noE.seq,vb noE.del,vs noE.val])] (vs (⟨#[]⟩)) [.cells false 0 ([.op 1,vs (⟨#[102]⟩:ByteArray),vl (F1.idx.map parE.f),vl (F1.bits.map byteE.f),vi F1.cnt,vs F1.low,vs F1.high]), .obj [] (diskP D1), .cells false 0 ([vs u.key,vn .u64 u.seq,vb u.del,vs u.val]), .cells false 0 ([vs noE.key,vn .u64 noE.seq,vb noE.del,vs noE.val])]) (vs (⟨#[]⟩)) [.cells false 0 ([.op 1,vs (⟨#[102]⟩:ByteArray),vl (F1.idx.map parE.f),vl (F1.bits.map byteE.f),vi F1.cnt,vs F1.low,vs F1.high]), .obj [] (diskP D1), .cells false 0 ([vs u.key,vn .u64 u.seq,vb u.del,vs u.val]), .cells false 0 ([vs noE.key,vn .u64 noE.seq,vb noE.del,vs noE.val])] (.sp 122 (!((⟨#[]⟩:ByteArray).toList == (⟨#[]⟩:ByteArray).toList)) (
.leaf ⟨[0],[]⟩ [] .ret (some ([(0,vb false)],[]))) (
.callr (some 126) (ΔS1 40 [.p (.v (.pointer none))] [.cells false 0 ([.op 1,vs (⟨#[102]⟩:ByteArray),vl (F1.idx.map parE.f),vl (F1.bits.map byteE.f),vi F1.cnt,vs F1.low,vs F1.high]), .obj [] (diskP D1), .cells false 0 ([vs u.key,vn .u64 u.seq,vb u.del,vs u.val]), .cells false 0 ([vs noE.key,vn .u64 noE.seq,vb noE.del,vs noE.val])] (vs (⟨#[]⟩)) [.cells false 0 ([.op 1,vs (⟨#[102]⟩:ByteArray),vl (F1.idx.map parE.f),vl (F1.bits.map byteE.f),vi F1.cnt,vs F1.low,vs F1.high]), .obj [] (diskP D1), .cells false 0 ([vs u.key,vn .u64 u.seq,vb u.del,vs u.val]), .cells false 0 ([vs noE.key,vn .u64 noE.seq,vb noE.del,vs noE.val])]) (vs (⟨#[]⟩)) [.cells false 0 ([.op 1,vs (⟨#[102]⟩:ByteArray),vl (F1.idx.map parE.f),vl (F1.bits.map byteE.f),vi F1.cnt,vs F1.low,vs F1.high]), .obj [] (diskP D1), .cells false 0 ([vs u.key,vn .u64 u.seq,vb u.del,vs u.val]), .cells false 0 ([vs noE.key,vn .u64 noE.seq,vb noE.del,vs noE.val])] (.sp 127 (!((⟨#[]⟩:ByteArray).toList == (⟨#[]⟩:ByteArray).toList)) .stuck (.sp 135 (false == (decide (x1≥(0:Int)))) (
.sp 143 (((u.key:ByteArray).toList == (⟨#[]⟩:ByteArray).toList)&&(((u.seq:Int) == (0:Int))&&((u.del == false)&&(((u.val:ByteArray).toList == (⟨#[]⟩:ByteArray).toList)&&true)))) (
.leaf ⟨[0],[]⟩ [] .ret (some ([(0,vb true)],[]))) (
.leaf ⟨[0],[]⟩ [] .ret (some ([(0,vb false)],[])))) (
.leaf ⟨[0],[]⟩ [] .ret (some ([(0,vb false)],[])))))))))))))) (fun _=> .stuck))))))))))))

theorem TGets_chk (L:List Ent) (t:Int) (k:ByteArray) (seq:Int) (A:List Ent) (D0:Dsk) (D1:Dsk) (F1:FileR) (n1:Int) (u:Ent) (o:Bool):fnC DP ΓS1 ΔS1 Tryd.f9 [vl (L.map entE.f),vi t,vs k,vn .u64 seq] [] (TGets L t k seq A D0 D1 F1 n1 u o)=TGets L t k seq A D0 D1 F1 n1 u o:=by kernel_rfl

end Go.Ax

namespace Go.Ax
open Go.Proofs Go.RowKit
set_option maxRecDepth 100000

section
variable {L : List Ent}
theorem pageB_sum (h:Fits L) {c:List Ent} (hc:c∈chunks L 0 []):(pageB c).length≤304*c.length+(c.map szE).sum+16:=by
 have hs:=h.sub hc
 have hB:=body_le c 0 [] (fun x hx=>h.good.chk x (hs.subset hx))
 have hp:=h.page hc
 have hu:=upL0_of (h.good.sub hs).inn
 have hm:=mkI_ok hu (by omega)
 have hw:=wholeL_len (c.map ofE) 0 0 []
 have hcn:=cntL_le (c.map ofE) 0
 rw[List.length_map] at hcn
 unfold pageB
 rw[recB_len,hm]
 simp only[List.length_append,leI_len]
 omega
theorem pagesB_sum (h:Fits L):∀ C:List (List Ent),(∀ c∈C,c∈chunks L 0 [])→(pagesB C).length≤304*C.flatten.length+(C.flatten.map szE).sum+16*C.length
 | [],_=>Nat.zero_le _
 | c::C,hC=>by
  have h1:=pagesB_sum h C (fun d hd=>hC d (by simp[hd]))
  have h2:=pageB_sum h (hC c (by simp))
  rw[pagesB,List.length_append,List.length_cons,List.flatten_cons,List.length_append,List.map_append,List.sum_append]
  omega
theorem szE_sum {V:Nat}:∀ {L:List Ent},(∀ x∈L,x.key.size≤128∧x.val.size≤V)→(L.map szE).sum≤(128+V)*L.length
 | [],_=>Nat.zero_le _
 | x::L,h=>by
  have h1:=h x (by simp)
  have h2:=szE_sum (L:=L) (fun y hy=>h y (by simp[hy]))
  have h3:szE x=x.key.size+x.val.size:=rfl
  rw[List.map_cons,List.sum_cons,List.length_cons,Nat.mul_succ]
  omega
theorem Fits.len2 (h:Fits L) {V:Nat} (hv:∀ x∈L,x.val.size≤V):(fileY L).length≤(128+V)*L.length+304*L.length+21000:=by
 have h1:=pagesB_sum h (chunks L 0 []) (fun c hc=>hc)
 have h2:=h.chunks_len
 have h3:=idxY_len h
 have h4:=filB_len h
 have h5:=footB_len L
 rw[h.flat] at h1
 have h6:=szE_sum (L:=L) (V:=V) (fun x hx=>⟨by have:=chk_key (h.good.chk x hx); omega,hv x hx⟩)
 simp only[fileY,List.length_append]
 omega
end
theorem repeatL_len (l:List UInt8):∀ n:Nat,(Lib.repeatL l n).length=n*l.length
 | 0=>by simp[Lib.repeatL]
 | n+1=>by rw[Lib.repeatL,List.length_append,repeatL_len l n,Nat.succ_mul,Nat.add_comm]
theorem repB_size (s:ByteArray) (n:Nat):(repB s n).size=n*s.size:=by
 show (Lib.repeatL s.data.toList n).toArray.size=_
 rw[List.size_toArray,repeatL_len]
 rfl
theorem repE_size (t:Int) (x:Ent):(repE t x).val.size≤64*x.val.size:=by
 unfold repE
 split
 ·omega
 ·show (repB x.val (1+t % 64).toNat).size≤_
  rw[repB_size]
  exact Nat.mul_le_mul_right _ (by omega)
theorem someL_mem (t:Int) (L:List Ent):∀ y∈someL t L,∃ x∈L,y=repE t x:=by
 have:∀ (M out:List Ent),(∀ y∈out,∃ x∈L,y=repE t x)→(∀ x∈M,x∈L)→∀ y∈M.foldl (someF t) out,∃ x∈L,y=repE t x:=by
  intro M
  induction M with
  | nil=>intro out h _; exact h
  | cons x M ih=>
   intro out h hM
   rw[List.foldl_cons]
   refine ih _ (fun y hy=>?_) (fun z hz=>hM z (by simp[hz]))
   unfold someF at hy
   split at hy
   ·exact h y hy
   ·rcases insE_mem _ _ y hy with rfl | e
    ·exact ⟨x,hM x (by simp),rfl⟩
    ·exact h y e
 exact this L [] (fun y hy=>by cases hy) (fun x hx=>hx)
theorem some_fits {L:List Ent} (t:Int) (hs:∀ x∈L,0≤x.seq) (hn:L.length≤40) (hv:∀ x∈L,x.val.size≤200) (hA:someL t L≠ []):Fits (someL t L)∧(fileY (someL t L)).length≤600000:=by
 obtain ⟨g1,g2⟩:=someL_good t L hs
 have hf:Fits (someL t L):=⟨g1,hA,by omega⟩
 refine ⟨hf,?_⟩
 have:=hf.len2 (V:=12800) (fun y hy=>by
  obtain ⟨x,hx,rfl⟩:=someL_mem t L y hy
  have h1:=repE_size t x
  have h2:=hv x hx
  omega)
 have h40:=hf.few
 omega
def atE (A:List Ent) (k:ByteArray) (seq:Int):Option Nat:=A.findIdx? fun y=>decide (y.key=k∧y.seq≤seq∧seq≤72057594037927935)
theorem atE_best (A:List Ent) (k:ByteArray) (seq:Int):(if seq≤72057594037927935 then bestE A k seq else none)=(atE A k seq).bind (fun i=>A[i]?):=by
 unfold atE
 rw[←List.find?_eq_bind_findIdx?_getElem?]
 split
 ·rename_i h
  unfold bestE
  congr 1
  funext y
  simp[h]
 ·rename_i h
  exact (fnd_none (fun x _=>by simp[h])).symm
end Go.Ax

namespace Go.Ax
open Go.Proofs Go.RowKit
set_option maxRecDepth 100000

def seqIn (a:Ent):Prop:=0≤a.seq∧a.seq<18446744073709551616
def LawL (L:List Ent) (t:Int):Prop:=(∀ x∈L,seqIn x)∧(-(2 ^ 63:Int)≤t∧t<2 ^ 63)
theorem law_some {L:List Ent} {t:Int} (h:LawL L t) (hb:bigE L=false):gSomeL [vl (L.map entE.f),vi t]=some (vl ((someL t L).map entE.f))∧(someL t L≠ []→Fits (someL t L)∧(fileY (someL t L)).length≤600000):=by
 obtain ⟨b1,b2⟩:=bigE_false hb
 exact ⟨gSomeL_eq h.2 (by omega) (fun x hx=>by have:=(b2 x hx).2; omega),some_fits t (fun x hx=>(h.1 x hx).1) b1 (fun x hx=>(b2 x hx).2)⟩
theorem ΓS1_ok:∀ f,SoundF DP f (ΓS1 f):=envP_cons SHeadF (envP_cons SBigL (envP_cons SSomeL envP_nil))
theorem ΔS1_ok:∀ f,SoundR DP f (ΔS1 f):=envR_cons (lift_sound SNew)<|envR_cons (lift_sound SFWrite)<|envR_cons (lift_sound SFOpen)<|envR_cons (lift_sound SFGet)<|envR_cons (lift_sound SFPages)<|envR_cons (lift_sound SFFind2)<|envR_cons (lift_sound SFCount)<|envR_cons (lift_sound SFLow)<|envR_cons (lift_sound SFHigh) envR_nil
section
variable {k : ByteArray} {seq : Int} {A : List Ent} {D1 : Dsk} {F1 : FileR} {u : Ent} {o : Bool}
theorem str_eq {a b:ByteArray}:(a.toList == b.toList)=decide (a=b):=by
 by_cases h:a=b
 ·subst h; simp
 ·rw[decide_eq_false h]
  apply beq_eq_false_iff_ne.2
  intro e
  apply h
  rw[ByteArray.toList_eq,ByteArray.toList_eq] at e
  exact ByteArray.ext (Array.toList_inj.1 e)
theorem ent_eqb {x y:Ent} (h:x=y):((x.key.toList == y.key.toList)&&(((x.seq:Int) == (y.seq:Int))&&((x.del == y.del)&&((x.val.toList == y.val.toList)&&true))))=true:=by
 subst h; simp
theorem gets_r (hN:A.length≤1000):∀ (M:List Ent) (i:Nat) (b:Int),A.drop i=M→i+M.length=A.length→Rounds (TGets_l1_e k seq A D1 F1) (TGets_l1_x k seq A D1 F1) noX (fun s=>(TGets_l1_b k seq A D1 F1 s).wp) (b,(i:Int)) (.inl (if b<0 then (match atE M k seq with | none=>b | some j=>((i+j:Nat):Int)) else b)):=by
 intro M
 induction M with
 | nil=>
  intro i b hM hl
  simp only[List.length_nil] at hl
  refine .done (by intro e; cases e) ?_
  unfold TGets_l1_b
  refine wp_sp (fun h'=>absurd (of_decide_eq_true h') (by simp only; omega)) (fun _=>wp_leaf rfl ⟨rfl,?_⟩)
  have:atE [] k seq=none:=rfl
  rw[this]
  split <;> rfl
 | cons x M ih=>
  intro i b hM hl
  simp only[List.length_cons] at hl
  have gx:A[i]? = some x:=by rw[←List.head?_drop,hM]; rfl
  have hM':A.drop (i+1)=M:=by rw[←List.drop_drop,hM]; rfl
  have e:atE (x::M) k seq=if decide (x.key=k∧x.seq≤seq∧seq≤72057594037927935)=true then some 0 else (atE M k seq).map (· + 1):=by
   unfold atE
   rw[List.findIdx?_cons]
  by_cases hp:b<0∧x.key=k∧x.seq≤seq∧seq≤72057594037927935
  ·have hr:=ih (i+1) (i:Int) hM' (by omega)
   rw[if_neg (by omega),show ((i+1:Nat):Int)=(i:Int)+1 by omega] at hr
   rw[if_pos hp.1,e,if_pos (decide_eq_true hp.2)]
   refine .next ?_ hr
   unfold TGets_l1_b
   refine wp_sp (fun _=>wp_elem0 x (by simp only; omega) (by simpa using gx) (wp_sp (fun _=>wp_sp (fun _=>wp_sp (fun _=>wp_sp (fun _=>wp_i64 (by simp only; omega) (wp_leaf rfl ⟨rfl,rfl⟩)) (fun q=>absurd hp.1 (of_decide_eq_false q))) (fun q=>absurd hp.2.2.2 (of_decide_eq_false q))) (fun q=>absurd hp.2.2.1 (of_decide_eq_false q))) (fun q=>?_))) (fun h'=>absurd (of_decide_eq_false h') (by simp only; omega))
   rw[str_eq] at q
   exact absurd hp.2.1 (of_decide_eq_false q)
  ·have hr:=ih (i+1) b hM' (by omega)
   rw[show ((i+1:Nat):Int)=(i:Int)+1 by omega] at hr
   have e2:(if b<0 then (match atE (x::M) k seq with | none=>b | some j=>((i+j:Nat):Int)) else b)=if b<0 then (match atE M k seq with | none=>b | some j=>((i+1+j:Nat):Int)) else b:=by
    split
    ·rename_i hb
     rw[e,if_neg (fun h=>hp ⟨hb,of_decide_eq_true h⟩)]
     cases atE M k seq with
     | none=>rfl
     | some j=>show ((i+(j+1):Nat):Int)=((i+1+j:Nat):Int); omega
    ·rfl
   rw[e2]
   refine .next ?_ hr
   unfold TGets_l1_b
   refine wp_sp (fun _=>wp_elem0 x (by simp only; omega) (by simpa using gx) (wp_sp (fun q1=>wp_sp (fun q2=>wp_sp (fun q3=>wp_sp (fun q4=>?_) (fun _=>wp_i64 (by simp only; omega) (wp_leaf rfl ⟨rfl,rfl⟩))) (fun _=>wp_i64 (by simp only; omega) (wp_leaf rfl ⟨rfl,rfl⟩))) (fun _=>wp_i64 (by simp only; omega) (wp_leaf rfl ⟨rfl,rfl⟩))) (fun _=>wp_i64 (by simp only; omega) (wp_leaf rfl ⟨rfl,rfl⟩)))) (fun h'=>absurd (of_decide_eq_false h') (by simp only; omega))
   rw[str_eq] at q1
   exact absurd ⟨of_decide_eq_true q4,of_decide_eq_true q1,of_decide_eq_true q2,of_decide_eq_true q3⟩ hp
end
theorem get_at {A:List Ent} (hf:Fits A) (k:ByteArray) (seq:Int) (hs:0≤seq):∃ u o,getE (fileY A) (fileOf A) k seq=(u,o,0)∧((o=false∧u=noE∧atE A k seq=none)∨(o=true∧∃ j,atE A k seq=some j∧A[j]? = some u)):=by
 have hgf:=get_file hf k seq hs
 rw[atE_best] at hgf
 cases hq:atE A k seq with
 | none=>
  rw[hq] at hgf
  exact ⟨noE,false,hgf, .inl ⟨rfl,rfl,rfl⟩⟩
 | some j=>
  rw[hq] at hgf
  have hj:j<A.length:=by
   unfold atE at hq
   exact (List.findIdx?_eq_some_iff_getElem.1 hq).1
  have hu:A[j]? = some A[j]:=List.getElem?_eq_getElem hj
  simp only[Option.bind_some] at hgf
  rw[hu] at hgf
  exact ⟨A[j],true,hgf, .inr ⟨rfl,j,rfl,hu⟩⟩
def RGets:List AV→AV→Prop:=fun args r=>∃ (L:List Ent) (t:Int) (k:ByteArray) (seq:Int),(∀ x∈L,seqIn x)∧(-(2 ^ 63:Int)≤t∧t<2 ^ 63)∧(0≤seq∧seq<18446744073709551616)∧args= [vl (L.map entE.f),vi t,vs k,vn .u64 seq]∧r=vb true
noncomputable def gGets:=relG RGets
theorem SGets:SoundF DP iGets (.pure gGets):=sound_pureT mixedD ΓS1_ok ΔS1_ok hfGets heGets hbGets (by
 rintro args r ⟨L,t,k,seq,hL1,hL2,hs,rfl,rfl⟩
 have hL:LawL L t:=⟨hL1,hL2⟩
 have hl:Live (newD 1048576):=live_new
 refine ⟨rfl,rfl,_,TGets_chk L t k seq (someL t L) (newD 1048576) (writeD (newD 1048576) ⟨#[102]⟩ (fileY (someL t L))).1 (fileOf (someL t L)) (fileY (someL t L)).length (getE (fileY (someL t L)) (fileOf (someL t L)) k seq).1 (getE (fileY (someL t L)) (fileOf (someL t L)) k seq).2.1,?_⟩
 unfold TGets
 refine wp_call gHeadF_eq (wp_call (gBigL_eq L) (wp_sp (fun _=>wp_leaf rfl (.p _)) (fun hb=>wp_sp (fun _=>wp_leaf rfl (.p _)) (fun hk=>?_))))
 have hk:=of_decide_eq_false hk
 obtain ⟨s1,s2⟩:=law_some hL hb
 refine wp_call s1 (wp_len (wp_sp (fun _=>wp_leaf rfl (.p _)) (fun hz=>?_)))
 have hz:someL t L≠ []:=fun e=>by rw[e] at hz; exact absurd hz (by decide)
 obtain ⟨hf,hlen⟩:=s2 hz
 have hfew:=hf.few
 obtain ⟨a1,a2,a3,a4,a5,a6⟩:=write_open hl (nm:=⟨#[102]⟩) (by decide) (cont_new _ _) hf (by show _≤(1048576:Int) - 0; omega)
 generalize someL t L=A at *
 obtain ⟨u,o,hgf,hu⟩:=get_at hf k seq hs.1
 have cw:=fun (B:List Box) (hb:B[0]? = some (dskB (newD 1048576)))=>oFWrite (b:=0) hl.ok hf (nm:=⟨#[102]⟩) (by decide) hb
 rw[a1] at cw
 have co:=fun (B:List Box) (hb:B[0]? = some (dskB (writeD (newD 1048576) ⟨#[102]⟩ (fileY A)).1))=>oFOpen (b:=0) a2.ok a2.up a5 (by rw[a4,openI_file hf]) hb
 rw[a4,openI_file hf] at co
 have cg:=fun (B:List Box) (hb:B[1]? = some (dskB (writeD (newD 1048576) ⟨#[102]⟩ (fileY A)).1)) (hl:B[0]? = some (filC 1 ⟨#[102]⟩ (fileOf A)))=>oFGet (l:=0) (b:=1) (k:=k) (seq:=seq) a2.ok a2.up (fileOf_ok hf) (by omega) hs hb hl
 rw[a4,hgf] at cg
 rw[hgf]
 refine wp_callr (oNew 1048576) (wp_callr (cw _ rfl) (wp_callr (co _ rfl) (wp_len ?_)))
 have hr:=gets_r (k:=k) (seq:=seq) (A:=A) (D1:=(writeD (newD 1048576) ⟨#[102]⟩ (fileY A)).1) (F1:=fileOf A) (by omega) A 0 (-1) List.drop_zero (Nat.zero_add _)
 rw[if_pos (by decide)] at hr
 rcases hu with ⟨rfl,rfl,hq⟩ | ⟨rfl,j,hq,hj⟩
 ·rw[hq] at hr
  refine wp_loop _ rfl hr (wp_callr (cg _ rfl rfl) (wp_sp (fun q=>by cases q) (fun _=>?_)))
  refine wp_callr oFGetN (wp_callr (oFilN rfl) (wp_callr (oFFindN (y:=noE)) (wp_callr (oFilN rfl) (wp_callr (oFilN rfl) (wp_sp (fun q=>absurd q (by simp)) (fun _=>wp_callr (oFilN rfl) (wp_sp (fun q=>absurd q (by simp)) (fun _=>wp_sp (fun _=>wp_sp (fun _=>wp_leaf rfl (.p _)) (fun q=>absurd q (by simp[noE]))) (fun q=>absurd q (by decide))))))))))
 ·rw[hq] at hr
  refine wp_loop _ rfl hr (wp_callr (cg _ rfl rfl) (wp_sp (fun _=>?_) (fun q=>by cases q)))
  refine wp_callr oFGetN (wp_callr (oFilN rfl) (wp_callr (oFFindN (y:=noE)) (wp_callr (oFilN rfl) (wp_callr (oFilN rfl) (wp_sp (fun q=>absurd q (by simp)) (fun _=>wp_callr (oFilN rfl) (wp_sp (fun q=>absurd q (by simp)) (fun _=>wp_sp (fun _=>wp_elem0 u (by show (0:Int)≤((0+j:Nat):Int); omega) (by simpa using hj) (wp_leaf rfl ?_)) (fun q=>?_)))))))))
  ·show Sealed _ _ (vb _) (vb true)
   rw[ent_eqb rfl]
   exact .p _
  ·have:decide (((0+j:Nat):Int)≥0)=true:=decide_eq_true (by omega)
   rw[this] at q
   cases q)
end Go.Ax

namespace Go.Ax
open Go.Proofs Go.ChangeShapes Go.WideShapes Go.ChangeAt Go.RowKit
set_option maxRecDepth 100000

theorem tabRel {W:World} {g:Nat} {us:Array Value} {e:TypeId} {fr:Nat×Nat} (hh:W.heap[g]? = some (.cells us e fr)) (hu:us.toList.map PV.v=Glob.tab g):∀ ρ,GRel noF [] ρ W g:=fun ρ=>by
 have hl:(Glob.tab g).length=us.toList.length:=by rw[←hu]; simp
 refine ⟨.rp _ ⟨g,0,none⟩ us.toList rfl not_own (Array.getElem?_eq_some_iff.1 hh).1 hl (fun j u hj=>?_) (fun j p u hp hv=>?_),us,e,fr,hh,by rw[hl]; simp⟩
 ·rw[Addr.add_lit,Nat.zero_add,cell_of hh]
  simpa using hj
 ·rw[←hu,List.getElem?_map,hv] at hp
  cases hp
  exact .v _

theorem var_block {P:Program} {W:World} {n:String} {g:Nat} {cs:Array Value} (hg:P.globalNamed n=some g) (h:W.var? P n=some cs):∃ e fr,W.heap[g]? = some (.cells cs e fr):=by
 unfold World.var? at h
 rw[hg,Option.bind_some] at h
 split at h
 ·rename_i cs' e fr hc
  cases h
  exact ⟨e,fr,hc⟩
 ·cases h

abbrev laid1 : List (String × DataW Unit) := [("tailrace/crc.halves", YtbdfbdlfipcleaaDoor.Rows.laid_tailrace_crc_halves)]

theorem gHalves : DP.globalNamed "tailrace/crc.halves" = some 2 := by kernel_rfl
theorem tHalves:(DP.globals[2]?).map (·.type)=some 140:=by kernel_rfl

theorem globW_of {W:World} (h:laidMetH DP laid1 W):GlobW W:=by
 rw[MakeChecks.laidMetH_plain _ _ _ (by kernel_rfl)] at h
 obtain ⟨ps,⟨g3,t3,cs3,f3,p3,q3,hg3,ht3,hv3,hd3,_,_⟩,_⟩:=h
 obtain rfl:=Option.some.inj (gHalves.symm.trans hg3)
 obtain rfl:=Option.some.inj (tHalves.symm.trans ht3)
 have c3:=Lib.cells_of_tab (k:= .u32) (zs:=halvesL) (n:=16) (e:=94) (by kernel_rfl) (by kernel_rfl) (by kernel_rfl) (by kernel_rfl) hd3
 obtain ⟨e3,r3,b3⟩:=var_block hg3 hv3
 intro g hg
 match g with
 | 2=>exact tabRel b3 (by rw[c3]; rfl)
 | 0=>exact absurd rfl hg
 | 1=>exact absurd rfl hg
 | g+3=>exact absurd rfl hg

theorem door1 (os:Os) (args:Array Value):laidMetH DP laid1 ((World.doorLaid DP 65 os).forCall (fun _ _=>0) ⟨#[],args,[]⟩).memory:=
 laidMetH_of_parts3 (fuel:=8) (laidMet_of_run' 8 (by kernel_rfl) (by kernel_rfl)) (by kernel_rfl) (by kernel_rfl)

theorem i64_in {n:Int} (h:(Lit.int .i64 n).wf=true): -(2 ^ 63:Int)≤n∧n<2 ^ 63:=by
 simp only[Lit.wf,Bool.and_eq_true,decide_eq_true_eq] at h
 have h1:IntKind.i64.min= -9223372036854775808:=by decide
 have h2:IntKind.i64.max=9223372036854775807:=by decide
 omega
theorem u64_in {n:Int} (h:(Lit.int .u64 n).wf=true):0≤n∧n<18446744073709551616:=by
 simp only[Lit.wf,Bool.and_eq_true,decide_eq_true_eq] at h
 have h1:IntKind.u64.min=0:=by decide
 have h2:IntKind.u64.max=18446744073709551615:=by decide
 omega
section
variable {H : Type} {enc : TypeId × Value → H} {w : World} {base : Nat} {spare : Nat → Bool} {held : Bool} {O : Nat → Prop}
theorem in_ent (n:Nat) (cs':List Value) (y:DataW H×List MemPlace) (h:DataW.trod enc DP w base spare held n 52 cs'=some y):
  ∃ a:Ent,seqIn a∧cs'.length=4∧∀ (r:Nat) (p:PV) (u:Value),(entE.f a).cells[r]? = some p→cs'[r]? = some u→PRel O w p u:=by
 obtain ⟨xs,n,_,rfl,hl,hlen,hf⟩:=DataW.trod_struct Tryd.underlying52 h
 have hc:DP.cellsOf 52=4:=by kernel_rfl
 have c9:DP.cellsOf 9=1:=by kernel_rfl
 have c50:DP.cellsOf 50=1:=by kernel_rfl
 have c4:DP.cellsOf 4=1:=by kernel_rfl
 rw[hc] at hl
 have h0:DataW.trod enc DP w base spare held n 9 ((cs'.drop 0).take (DP.cellsOf 9))=xs[0]? := hf 0 _ rfl
 have h1:DataW.trod enc DP w base spare held n 50 ((cs'.drop 1).take (DP.cellsOf 50))=xs[1]? := hf 1 _ rfl
 have h2:DataW.trod enc DP w base spare held n 4 ((cs'.drop 2).take (DP.cellsOf 4))=xs[2]? := hf 2 _ rfl
 have h3:DataW.trod enc DP w base spare held n 9 ((cs'.drop 3).take (DP.cellsOf 9))=xs[3]? := hf 3 _ rfl
 rw[c9] at h0 h3
 rw[c50] at h1
 rw[c4] at h2
 match cs',hl,xs,hlen with
 | [v0,v1,v2,v3],_,[x0,x1,x2,x3],_=>
  obtain ⟨a,e0,_,_⟩:=DataW.trod_string Tryd.underlying9 h0
  obtain ⟨b,e1,_,hw⟩:=DataW.trod_int Tryd.underlying50 h1
  obtain ⟨c,e2,_⟩:=DataW.trod_bool Tryd.underlying4 h2
  obtain ⟨d,e3,_,_⟩:=DataW.trod_string Tryd.underlying9 h3
  simp at e0 e1 e2 e3
  subst e0 e1 e2 e3
  refine ⟨⟨a,b,c,d⟩,u64_in hw,rfl,fun r p u hp hu=>?_⟩
  match r with
  | 0=>cases hp; cases hu; exact .v _
  | 1=>cases hp; cases hu; exact .v _
  | 2=>cases hp; cases hu; exact .v _
  | 3=>cases hp; cases hu; exact .v _
  | r+4=>simp[entE,PV.cells] at hp
theorem in_ents (hO:∀ k,¬O k) {fuel:Nat} {v:Value} {x:DataW H×List MemPlace} (h:DataW.trod enc DP w base spare held fuel 42 [v]=some x):
  ∃ L:List Ent,(∀ a∈L,seqIn a)∧PRel O w (.ls (L.map entE.f)) v:=open_list hO Tryd.underlying42 entE.elt (by decide) (by kernel_rfl) (fun n cs' y hy=>in_ent n cs' y hy) h
end
end Go.Ax
