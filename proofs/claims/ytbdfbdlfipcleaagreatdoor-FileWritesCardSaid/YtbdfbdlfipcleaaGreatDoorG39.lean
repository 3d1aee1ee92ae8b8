/- To find a change in a file: contracts. -/
import Derived.Test.YtbdfbdlfipcleaaGreatDoorG38
set_option linter.unusedVariables false
set_option linter.unusedSimpArgs false
set_option linter.unusedSectionVars false
namespace Go.Ax
open Go.Proofs Go.RowKit
set_option maxRecDepth 100000

theorem wp_elem0 {α:Type} {d:Nat} {E:Enc α} {L:List α} {i:Int} {k:α→Tree} {K:AE→St→Prop} (a:α) (h0:0≤i) (ha:L[i.toNat]? = some a) (h:(k a).wp K):(Tree.elem d (L.map E.f) E L i k).wp K:=⟨rfl,h0,a,ha,h⟩
theorem SFind1:SoundR DP iFind1 OFind1:=sound_genT mixedD Γ0_ok Δ0_ok hfFind1 heFind1 hbFind1 (by
 rintro args B r B' ⟨D,nm,F,key,i,hn,hi,rfl,rfl,rfl,rfl⟩
 refine ⟨by rw[hnFind1]; rfl,_,TFind1_chk i D nm F key,?_⟩
 obtain ⟨p,hp⟩:∃ p,F.idx[i.toNat]? = some p:=⟨_,List.getElem?_eq_getElem (by omega)⟩
 have e:geI F.idx key.data.toList i.toNat= !(Op.bytesLess p.name.toList key.toList):=by
  unfold geI
  rw[List.getD_eq_getElem?_getD,hp,ByteArray.toList_eq,ByteArray.toList_eq]
  show (!decide (Op.bytesLess p.name.data.toList key.data.toList=true))=_
  cases Op.bytesLess p.name.data.toList key.data.toList <;> rfl
 unfold TFind1
 refine wp_elem0 p hi.1 hp (wp_leaf rfl ?_)
 rw[e]
 exact ⟨rfl,rfl⟩)
theorem Blow4 {n:Nat} {a b c d:Box} (h1:AV.low.allLow n a.cs=true) (h2:AV.low.allLow n b.cs=true) (h3:AV.low.allLow n c.cs=true) (h4:AV.low.allLow n d.cs=true):Blow n [a,b,c,d]:=fun z hz=>by
 simp only[List.mem_cons,List.mem_nil_iff,or_false] at hz
 rcases hz with rfl | rfl | rfl | rfl <;> assumption
theorem ΔM1_ok:∀ f,SoundR DP f (ΔM1 f):=envR_cons (lift_sound SFind1) envR_nil
section
variable {D : Dsk} {nm : ByteArray} {F : FileR} {key : ByteArray}
theorem oFind1 {i:Int} (hn:F.idx.length≤100000000) (hi:0≤i∧i<F.idx.length):
  liftR OFind1 [vi i, .ptr 2 0 0, .ptr 3 0 0] [dskB D,filC 0 nm F, .cells false 0 [.ptr 1 0 0], .cells false 0 [vs key]] (vb (geI F.idx key.data.toList i.toNat)) [dskB D,filC 0 nm F, .cells false 0 [.ptr 1 0 0], .cells false 0 [vs key]]:=
 lift_tail (R:=OFind1) ⟨D,nm,F,key,i,hn,hi,rfl,rfl,rfl,rfl⟩ rfl rfl (Blow4 rfl rfl rfl rfl) (Blow4 rfl rfl rfl rfl) rfl []
theorem search_rounds (hn:F.idx.length≤100000000):∀ (f i j:Nat),j≤i+f→i≤j→j≤F.idx.length→Rounds (TSearch_l1_e D nm F key) (TSearch_l1_x D nm F key) noX (fun s=>(TSearch_l1_b D nm F key s).wp) ((i:Int),(j:Int)) (.inl ((searchI (geI F.idx key.data.toList) f i j:Nat):Int)):=by
 have stop:∀ i j:Nat,¬i<j→Rounds (TSearch_l1_e D nm F key) (TSearch_l1_x D nm F key) noX (fun s=>(TSearch_l1_b D nm F key s).wp) ((i:Int),(j:Int)) (.inl (i:Int)):=fun i j h=>by
  refine .done (by intro e; cases e) ?_
  unfold TSearch_l1_b
  exact wp_sp (fun h'=>absurd (of_decide_eq_true h') (by simp only; omega)) (fun _=>wp_leaf rfl ⟨rfl,rfl⟩)
 intro f
 induction f with
 | zero=>
  intro i j h1 h2 h3
  rw[searchI]
  exact stop i j (by omega)
 | succ f ih=>
  intro i j h1 h2 h3
  rw[searchI]
  by_cases hij:i<j
  ·rw[if_pos hij]
   have em:((i:Int)+(j:Int)) / 2=(((i+j) / 2:Nat):Int):=by omega
   have hc:=oFind1 (D:=D) (nm:=nm) (F:=F) (key:=key) (i:=(((i+j) / 2:Nat):Int)) hn (by omega)
   rw[Int.toNat_natCast] at hc
   by_cases hp:geI F.idx key.data.toList ((i+j) / 2)=true
   ·rw[if_pos hp]
    refine .next ?_ (ih i ((i+j) / 2) (by omega) (by omega) (by omega))
    unfold TSearch_l1_b
    dsimp only
    rw[em]
    simp only[Int.toNat_natCast]
    refine wp_sp (fun _=>wp_i64 (by omega) (wp_u64 (by omega) (wp_int ?_ (wp_i64 (by omega) (wp_callr hc (wp_sp (fun _=>wp_leaf rfl ⟨rfl,rfl⟩) (fun q=>absurd hp (by rw[q]; decide)))))))) (fun h'=>absurd (of_decide_eq_false h') (by omega))
    rw[←em]; exact fdivP 2 (by decide)
   ·rw[if_neg hp]
    have hr:=ih ((i+j) / 2+1) j (by omega) (by omega) (by omega)
    rw[show (((i+j) / 2+1:Nat):Int)=(((i+j) / 2:Nat):Int)+1 by omega] at hr
    refine .next ?_ hr
    unfold TSearch_l1_b
    dsimp only
    rw[em]
    simp only[Int.toNat_natCast]
    refine wp_sp (fun _=>wp_i64 (by omega) (wp_u64 (by omega) (wp_int ?_ (wp_i64 (by omega) (wp_callr hc (wp_sp (fun q=>absurd q hp) (fun _=>wp_i64 (by omega) (wp_leaf rfl ⟨rfl,rfl⟩)))))))) (fun h'=>absurd (of_decide_eq_false h') (by omega))
    rw[←em]; exact fdivP 2 (by decide)
  ·rw[if_neg hij]
   exact stop i j hij
end
theorem SSearch:SoundR DP iSearch OSearch:=sound_genT mixedD Γ0_ok ΔM1_ok hfSearch heSearch hbSearch (by
 rintro args B r B' ⟨D,nm,F,key,hn,rfl,rfl,rfl,rfl⟩
 refine ⟨by rw[hnSearch]; rfl,_,TSearch_chk (F.idx.length:Int) D nm F key,?_⟩
 have hr:=search_rounds (D:=D) (nm:=nm) (F:=F) (key:=key) hn F.idx.length 0 F.idx.length (by omega) (by omega) (Nat.le_refl _)
 unfold TSearch
 exact wp_loop _ rfl hr (wp_leaf rfl ⟨rfl,rfl⟩))
theorem ΓM2_ok:∀ f,SoundF DP f (ΓM2 f):=envP_cons SInner envP_nil
theorem ΔM2_ok:∀ f,SoundR DP f (ΔM2 f):=envR_cons (lift_sound SSearch) envR_nil
def OFFind:RSpec:=fun args B r B'=>∃ (D:Dsk) (nm:ByteArray) (F:FileR) (y:Ent),F.idx.length≤100000000∧InOk y∧args= [.ptr 1 0 0,entE.av y]∧B= [dskB D,filC 0 nm F]∧r=vi ((findI F.idx y:Nat):Int)∧B'=B
theorem oSearch {D:Dsk} {nm:ByteArray} {F:FileR} {key:ByteArray} {x:Box} (hn:F.idx.length≤100000000):
  liftR OSearch [vi (F.idx.length:Int), .fn 76 [.ptr 2 0 0, .ptr 4 0 0]] [dskB D,filC 0 nm F, .cells false 0 [.ptr 1 0 0],x, .cells false 0 [vs key]] (vi (searchK F.idx key)) [dskB D,filC 0 nm F, .cells false 0 [.ptr 1 0 0],x, .cells false 0 [vs key]]:=by
 refine ⟨_,_,_,_,⟨D,nm,F,key,hn,rfl,rfl,rfl,rfl⟩,⟨[0,1,2,4],[0,0,0,0],[dskB D,filC 0 nm F, .cells false 0 [.ptr 1 0 0], .cells false 0 [vs key]],[dskB D,filC 0 nm F, .cells false 0 [.ptr 1 0 0], .cells false 0 [vs key]],[],?_,?_,?_,?_,⟨.objs rfl rfl, .cells ?_ ?_ rfl, .cells ?_ ?_ rfl, .cells ?_ ?_ rfl,trivial⟩,⟨.objs rfl rfl, .cells ?_ ?_ rfl, .cells ?_ ?_ rfl, .cells ?_ ?_ rfl,trivial⟩,?_,rfl,rfl⟩⟩
 ·rfl
 ·simp
 ·simp[AV.rv.rvL,AV.rv,fNew,dNew]
 ·rfl
 all_goals first
  | (simp[dNew]; done)
  | (simp[AV.rv.rvL,AV.rv,fNew,dNew]; done)
  | (simp[outB]; done)
theorem SFFind:SoundR DP iFFind OFFind:=sound_genT mixedD ΓM2_ok ΔM2_ok hfFFind heFFind hbFFind (by
 rintro args B r B' ⟨D,nm,F,y,hn,hy,rfl,rfl,rfl,rfl⟩
 refine ⟨by rw[hnFFind]; rfl,_,TFFind_chk D nm F y,?_⟩
 have hi:=gInner_eq (least y) hy.1 hy.2
 have e:searchK F.idx (⟨(innB (least y)).toArray⟩:ByteArray)=((findI F.idx y:Nat):Int):=by
  unfold searchK
  rw[show (⟨(innB (least y)).toArray⟩:ByteArray).data.toList=innB (least y) by simp]
  rfl
 unfold TFFind
 refine wp_call hi (wp_len (wp_callr (oSearch hn) (wp_leaf rfl ?_)))
 have e':searchK F.idx (⟨(innB (⟨y.key,y.seq,false,y.val⟩:Ent)).toArray⟩:ByteArray)=((findI F.idx y:Nat):Int):=e
 rw[e']
 exact ⟨rfl,rfl⟩)
theorem oFFind {B:List Box} {b l:Nat} {D:Dsk} {nm:ByteArray} {F:FileR} {y:Ent} (hn:F.idx.length≤100000000) (hy:InOk y) (hb:B[b]? = some (dskB D)) (hl:B[l]? = some (filC b nm F)):
  liftR OFFind [.ptr l 0 0,entE.av y] B (vi ((findI F.idx y:Nat):Int)) B:=
 lift_file (R:=OFFind) ⟨D,nm,F,y,hn,hy,rfl,rfl,rfl,rfl⟩ hb hl (fun _ _=>rfl) (fun _=>rfl) rfl

theorem ΓM3_ok:∀ f,SoundF DP f (ΓM3 f):=envP_cons SCmpE envP_nil
theorem SGet1:SoundR DP iGet1 OGet1:=sound_genT mixedD ΓM3_ok Δ0_ok hfGet1 heGet1 hbGet1 (by
 rintro args B r B' ⟨y,w,rfl,rfl,rfl,rfl⟩
 refine ⟨by rw[hnGet1]; rfl,_,TGet1_chk y w,?_⟩
 unfold TGet1
 exact wp_call (gCmpE_eq y w) (wp_leaf rfl ⟨rfl,rfl⟩))
theorem ΔM3_ok:∀ f,SoundR DP f (ΔM3 f):=envR_cons (lift_sound SGet1) envR_nil
theorem oGet1 {y w:Ent}:liftR OGet1 [entE.av y, .ptr 0 0 0] [wantB w] (vb (decide (0≤cmpE y w))) [wantB w]:=
 lift_tail (R:=OGet1) ⟨y,w,rfl,rfl,rfl,rfl⟩ rfl rfl (fun z hz=>by rw[List.mem_singleton.1 hz]; rfl) (fun z hz=>by rw[List.mem_singleton.1 hz]; rfl) rfl []
def idxX (L:List Ent) (w:Ent) (i:Nat):Int ⊕ Unit:=match (L.drop i).findIdx? (fun y=>decide (0≤cmpE y w)) with
 | none=> .inr ()
 | some k=> .inl ((i+k:Nat):Int)
theorem idx_rounds (L:List Ent) (w:Ent) (hN:L.length≤1000000000):∀ (j i:Nat),i+j=L.length→Rounds (TIdxF_l1_e L w) (TIdxF_l1_x w) (TIdxF_l1_x' w) (fun s=>(TIdxF_l1_b L w s).wp) (i:Int) (idxX L w i):=by
 intro j
 induction j with
 | zero=>
  intro i hi
  unfold idxX
  rw[List.drop_of_length_le (by omega)]
  refine .done' (by intro e; cases e) ?_
  unfold TIdxF_l1_b
  exact wp_sp (fun h'=>absurd (of_decide_eq_true h') (by omega)) (fun _=>wp_leaf rfl ⟨rfl,rfl⟩)
 | succ j ih=>
  intro i hi
  have hlt:i<L.length:=by omega
  have hr:=ih (i+1) (by omega)
  have hd:=List.drop_eq_getElem_cons hlt
  unfold idxX
  rw[hd,List.findIdx?_cons]
  by_cases hc:decide (0≤cmpE L[i] w)=true
  ·rw[if_pos hc]
   refine .done (by intro e; cases e) ?_
   unfold TIdxF_l1_b
   exact wp_sp (fun _=>wp_elem0 L[i] (by omega) (by simp[hlt]) (wp_callr oGet1 (wp_sp (fun _=>wp_leaf rfl ⟨rfl,rfl⟩) (fun q=>absurd hc (by rw[q]; decide))))) (fun h'=>absurd (of_decide_eq_false h') (by omega))
  ·rw[if_neg hc]
   have e:idxX L w (i+1)=match ((L.drop (i+1)).findIdx? (fun y=>decide (0≤cmpE y w))).map (· + 1) with | none=> .inr () | some k=> .inl ((i+k:Nat):Int):=by
    unfold idxX
    cases (L.drop (i+1)).findIdx? (fun y=>decide (0≤cmpE y w)) with
    | none=>rfl
    | some k=>show Sum.inl _=Sum.inl _; congr 1; simp only; omega
   rw[e,show ((i+1:Nat):Int)=(i:Int)+1 by omega] at hr
   refine .next ?_ hr
   unfold TIdxF_l1_b
   exact wp_sp (fun _=>wp_elem0 L[i] (by omega) (by simp[hlt]) (wp_callr oGet1 (wp_sp (fun q=>absurd q hc) (fun _=>wp_i64 (by omega) (wp_leaf rfl ⟨rfl,rfl⟩))))) (fun h'=>absurd (of_decide_eq_false h') (by omega))
def OIdxF:RSpec:=fun args B r B'=>∃ (L:List Ent) (w:Ent),L.length≤1000000000∧args= [vl (L.map entE.f), .fn 49 [.ptr 0 0 0]]∧B= [wantB w]∧r=vi (idxE L w)∧B'=B
theorem SIdxF:SoundR DP iIdxF OIdxF:=sound_genT mixedD Γ0_ok ΔM3_ok hfIdxF heIdxF hbIdxF (by
 rintro args B r B' ⟨L,w,hN,rfl,rfl,rfl,rfl⟩
 refine ⟨by rw[hnIdxF]; rfl,_,TIdxF_chk L w,?_⟩
 have hr:=idx_rounds L w hN L.length 0 (by omega)
 unfold idxX at hr
 rw[List.drop_zero] at hr
 unfold TIdxF idxE
 refine wp_len ?_
 cases hc:L.findIdx? (fun y=>decide (0≤cmpE y w)) with
 | none=>
  rw[hc] at hr
  exact wp_loop' _ rfl hr (wp_leaf rfl ⟨rfl,rfl⟩)
 | some k=>
  rw[hc] at hr
  simp only[Nat.zero_add] at hr
  exact wp_loop _ rfl hr (wp_leaf rfl ⟨rfl,rfl⟩))
end Go.Ax

namespace Go.Ax
open Go.Proofs Go.RowKit
set_option maxRecDepth 100000

noncomputable def ΓN1:Env:=envP [(iChkE,gChkE),(iMay,gMay),(iAllP,gAllP),(iEnts,gEnts)]
noncomputable def ΔN1:REnv:=envR [(iFFind,liftR OFFind),(iPairs,liftR OPairs),(iIdxF,liftR OIdxF)]

abbrev iFGet:Nat:=17
noncomputable abbrev nFGet:Func:=Tryz.f17
theorem hfFGet:DP.funcs[iFGet]? = some nFGet:=by kernel_rfl
theorem heFGet:enters DP iFGet=true:=by kernel_rfl
theorem hbFGet:nFGet.body.isSome=true:=by kernel_rfl
theorem hnFGet:nFGet.ntmps=85:=by kernel_rfl
abbrev iFPages:Nat:=15
noncomputable abbrev nFPages:Func:=Tryz.f15
theorem hfFPages:DP.funcs[iFPages]? = some nFPages:=by kernel_rfl
theorem heFPages:enters DP iFPages=true:=by kernel_rfl
theorem hbFPages:nFPages.body.isSome=true:=by kernel_rfl
theorem hnFPages:nFPages.ntmps=10:=by kernel_rfl
abbrev iFCount:Nat:=14
noncomputable abbrev nFCount:Func:=Tryz.f14
theorem hfFCount:DP.funcs[iFCount]? = some nFCount:=by kernel_rfl
theorem heFCount:enters DP iFCount=true:=by kernel_rfl
theorem hbFCount:nFCount.body.isSome=true:=by kernel_rfl
theorem hnFCount:nFCount.ntmps=9:=by kernel_rfl
noncomputable def TFGet_j1_e (D:Dsk) (nm:ByteArray) (F:FileR) (k:ByteArray) (seq:Int) (j1:Int×Bool):St:=([(0, .ptr 1 0 0),(1,vs k),(6, .ptr 2 0 0),(9, .ptr 3 0 0),(10,vi j1.1),(44,vb j1.2)],[.obj [] (diskP D), .cells false 0 ([.op 0,vs nm,vl (F.idx.map parE.f),vl (F.bits.map byteE.f),vi F.cnt,vs F.low,vs F.high]), .cells false 0 ([vs (⟨#[]⟩),vn .u64 0,vb false,vs (⟨#[]⟩)]), .cells false 0 ([vs k,vn .u64 seq,vb false,vs (⟨#[]⟩)])])
noncomputable def TFGet_j2_e (D:Dsk) (nm:ByteArray) (F:FileR) (j2:(List Ent)×Int×Bool):St:=([(6, .ptr 2 0 0),(13,vl (j2.1.map entE.f)),(14,vi j2.2.1),(79,vb j2.2.2)],[.obj [] (diskP D), .cells false 0 ([.op 0,vs nm,vl (F.idx.map parE.f),vl (F.bits.map byteE.f),vi F.cnt,vs F.low,vs F.high]), .cells false 0 ([vs (⟨#[]⟩),vn .u64 0,vb false,vs (⟨#[]⟩)])])
noncomputable def TFGet_j2 (D:Dsk) (nm:ByteArray) (F:FileR) (j2:(List Ent)×Int×Bool):Tree:=
.br j2.2.2 (
.leaf ⟨[0],[(0,0,none),(1,0,none)]⟩ [] .ret (some ([(0, .tup [.agg [vs (⟨#[]⟩),vn .u64 0,vb false,vs (⟨#[]⟩)],vb false,vi 0])],[.obj [] (diskP D), .cells false 0 ([.op 0,vs nm,vl (F.idx.map parE.f),vl (F.bits.map byteE.f),vi F.cnt,vs F.low,vs F.high])]))) (
.elem 83 (j2.1.map entE.f) entE j2.1 j2.2.1 (fun e1=> .leaf ⟨[0],[(0,0,none),(1,0,none)]⟩ [] .ret (some ([(0, .tup [(entE.av e1),vb true,vi 0])],[.obj [] (diskP D), .cells false 0 ([.op 0,vs nm,vl (F.idx.map parE.f),vl (F.bits.map byteE.f),vi F.cnt,vs F.low,vs F.high])]))))
noncomputable def TFGet_j1 (D:Dsk) (nm:ByteArray) (F:FileR) (k:ByteArray) (seq:Int) (j1:Int×Bool):Tree:=
.br j1.2 (
.leaf ⟨[0],[(0,0,none),(1,0,none)]⟩ [] .ret (some ([(0, .tup [.agg [vs (⟨#[]⟩),vn .u64 0,vb false,vs (⟨#[]⟩)],vb false,vi 0])],[.obj [] (diskP D), .cells false 0 ([.op 0,vs nm,vl (F.idx.map parE.f),vl (F.bits.map byteE.f),vi F.cnt,vs F.low,vs F.high])]))) (
.callr (some 49) (ΔN1 46 [.ptr 1 0 0,vi j1.1] [.obj [] (diskP D), .cells false 0 ([.op 0,vs nm,vl (F.idx.map parE.f),vl (F.bits.map byteE.f),vi F.cnt,vs F.low,vs F.high]), .cells false 0 ([vs (⟨#[]⟩),vn .u64 0,vb false,vs (⟨#[]⟩)]), .cells false 0 ([vs k,vn .u64 seq,vb false,vs (⟨#[]⟩)])] (.tup [.agg [vl (((pgOf (contF D nm) F.idx j1.1).1).map byteE.f),vl (((pgOf (contF D nm) F.idx j1.1).2.1).map intE.f)],vi ((pgOf (contF D nm) F.idx j1.1).2.2)]) [.obj [] (diskP D), .cells false 0 ([.op 0,vs nm,vl (F.idx.map parE.f),vl (F.bits.map byteE.f),vi F.cnt,vs F.low,vs F.high]), .cells false 0 ([vs (⟨#[]⟩),vn .u64 0,vb false,vs (⟨#[]⟩)]), .cells false 0 ([vs k,vn .u64 seq,vb false,vs (⟨#[]⟩)])]) (.tup [.agg [vl (((pgOf (contF D nm) F.idx j1.1).1).map byteE.f),vl (((pgOf (contF D nm) F.idx j1.1).2.1).map intE.f)],vi ((pgOf (contF D nm) F.idx j1.1).2.2)]) [.obj [] (diskP D), .cells false 0 ([.op 0,vs nm,vl (F.idx.map parE.f),vl (F.bits.map byteE.f),vi F.cnt,vs F.low,vs F.high]), .cells false 0 ([vs (⟨#[]⟩),vn .u64 0,vb false,vs (⟨#[]⟩)]), .cells false 0 ([vs k,vn .u64 seq,vb false,vs (⟨#[]⟩)])] (.sp 53 (((pgOf (contF D nm) F.idx j1.1).2.2) != (0:Int)) (
.leaf ⟨[0],[(0,0,none),(1,0,none)]⟩ [] .ret (some ([(0, .tup [.agg [vs (⟨#[]⟩),vn .u64 0,vb false,vs (⟨#[]⟩)],vb false,vi ((pgOf (contF D nm) F.idx j1.1).2.2)])],[.obj [] (diskP D), .cells false 0 ([.op 0,vs nm,vl (F.idx.map parE.f),vl (F.bits.map byteE.f),vi F.cnt,vs F.low,vs F.high])]))) (
.call 58 (gAllP [.agg [vl (((pgOf (contF D nm) F.idx j1.1).1).map byteE.f),vl (((pgOf (contF D nm) F.idx j1.1).2.1).map intE.f)]]=some (vl (((readI ((pgOf (contF D nm) F.idx j1.1).1)).1).map parE.f))) (vl (((readI ((pgOf (contF D nm) F.idx j1.1).1)).1).map parE.f)) (.call 59 (gEnts [vl (((readI ((pgOf (contF D nm) F.idx j1.1).1)).1).map parE.f)]=some (.tup [vl (((entsX ((readI ((pgOf (contF D nm) F.idx j1.1).1)).1)).1).map entE.f),vi ((entsX ((readI ((pgOf (contF D nm) F.idx j1.1).1)).1)).2)])) (.tup [vl (((entsX ((readI ((pgOf (contF D nm) F.idx j1.1).1)).1)).1).map entE.f),vi ((entsX ((readI ((pgOf (contF D nm) F.idx j1.1).1)).1)).2)]) (.sp 63 (((entsX ((readI ((pgOf (contF D nm) F.idx j1.1).1)).1)).2) != (0:Int)) (
.leaf ⟨[0],[(0,0,none),(1,0,none)]⟩ [] .ret (some ([(0, .tup [.agg [vs (⟨#[]⟩),vn .u64 0,vb false,vs (⟨#[]⟩)],vb false,vi ((entsX ((readI ((pgOf (contF D nm) F.idx j1.1).1)).1)).2)])],[.obj [] (diskP D), .cells false 0 ([.op 0,vs nm,vl (F.idx.map parE.f),vl (F.bits.map byteE.f),vi F.cnt,vs F.low,vs F.high])]))) (
.callr (some 68) (ΔN1 48 [vl (((entsX ((readI ((pgOf (contF D nm) F.idx j1.1).1)).1)).1).map entE.f), .fn 49 [.ptr 3 0 0]] [.obj [] (diskP D), .cells false 0 ([.op 0,vs nm,vl (F.idx.map parE.f),vl (F.bits.map byteE.f),vi F.cnt,vs F.low,vs F.high]), .cells false 0 ([vs (⟨#[]⟩),vn .u64 0,vb false,vs (⟨#[]⟩)]), .cells false 0 ([vs k,vn .u64 seq,vb false,vs (⟨#[]⟩)]), .cells false 0 ([vl (((pgOf (contF D nm) F.idx j1.1).1).map byteE.f),vl (((pgOf (contF D nm) F.idx j1.1).2.1).map intE.f)])] (vi (idxE ((entsX ((readI ((pgOf (contF D nm) F.idx j1.1).1)).1)).1) (⟨k,seq,false,(⟨#[]⟩:ByteArray)⟩:Ent))) [.obj [] (diskP D), .cells false 0 ([.op 0,vs nm,vl (F.idx.map parE.f),vl (F.bits.map byteE.f),vi F.cnt,vs F.low,vs F.high]), .cells false 0 ([vs (⟨#[]⟩),vn .u64 0,vb false,vs (⟨#[]⟩)]), .cells false 0 ([vs k,vn .u64 seq,vb false,vs (⟨#[]⟩)]), .cells false 0 ([vl (((pgOf (contF D nm) F.idx j1.1).1).map byteE.f),vl (((pgOf (contF D nm) F.idx j1.1).2.1).map intE.f)])]) (vi (idxE ((entsX ((readI ((pgOf (contF D nm) F.idx j1.1).1)).1)).1) (⟨k,seq,false,(⟨#[]⟩:ByteArray)⟩:Ent))) [.obj [] (diskP D), .cells false 0 ([.op 0,vs nm,vl (F.idx.map parE.f),vl (F.bits.map byteE.f),vi F.cnt,vs F.low,vs F.high]), .cells false 0 ([vs (⟨#[]⟩),vn .u64 0,vb false,vs (⟨#[]⟩)]), .cells false 0 ([vs k,vn .u64 seq,vb false,vs (⟨#[]⟩)]), .cells false 0 ([vl (((pgOf (contF D nm) F.idx j1.1).1).map byteE.f),vl (((pgOf (contF D nm) F.idx j1.1).2.1).map intE.f)])] (.sp 70 (decide ((idxE ((entsX ((readI ((pgOf (contF D nm) F.idx j1.1).1)).1)).1) (⟨k,seq,false,(⟨#[]⟩:ByteArray)⟩:Ent))<(0:Int))) (
.join ⟨[6,13,14,79],[(0,0,none),(1,0,none),(2,0,none)]⟩ [] (some (TFGet_j2_e D nm F ((entsX ((readI ((pgOf (contF D nm) F.idx j1.1).1)).1)).1,(idxE ((entsX ((readI ((pgOf (contF D nm) F.idx j1.1).1)).1)).1) (⟨k,seq,false,(⟨#[]⟩:ByteArray)⟩:Ent)),true))) (TFGet_j2_e D nm F) ((entsX ((readI ((pgOf (contF D nm) F.idx j1.1).1)).1)).1,(idxE ((entsX ((readI ((pgOf (contF D nm) F.idx j1.1).1)).1)).1) (⟨k,seq,false,(⟨#[]⟩:ByteArray)⟩:Ent)),true) (TFGet_j2 D nm F)) (
.elem 74 (((entsX ((readI ((pgOf (contF D nm) F.idx j1.1).1)).1)).1).map entE.f) entE ((entsX ((readI ((pgOf (contF D nm) F.idx j1.1).1)).1)).1) (idxE ((entsX ((readI ((pgOf (contF D nm) F.idx j1.1).1)).1)).1) (⟨k,seq,false,(⟨#[]⟩:ByteArray)⟩:Ent)) (fun e2=> .sp 78 (!(e2.key.toList == k.toList)) (
.join ⟨[6,13,14,79],[(0,0,none),(1,0,none),(2,0,none)]⟩ [] (some (TFGet_j2_e D nm F ((entsX ((readI ((pgOf (contF D nm) F.idx j1.1).1)).1)).1,(idxE ((entsX ((readI ((pgOf (contF D nm) F.idx j1.1).1)).1)).1) (⟨k,seq,false,(⟨#[]⟩:ByteArray)⟩:Ent)),true))) (TFGet_j2_e D nm F) ((entsX ((readI ((pgOf (contF D nm) F.idx j1.1).1)).1)).1,(idxE ((entsX ((readI ((pgOf (contF D nm) F.idx j1.1).1)).1)).1) (⟨k,seq,false,(⟨#[]⟩:ByteArray)⟩:Ent)),true) (TFGet_j2 D nm F)) (
.join ⟨[6,13,14,79],[(0,0,none),(1,0,none),(2,0,none)]⟩ [] (some (TFGet_j2_e D nm F ((entsX ((readI ((pgOf (contF D nm) F.idx j1.1).1)).1)).1,(idxE ((entsX ((readI ((pgOf (contF D nm) F.idx j1.1).1)).1)).1) (⟨k,seq,false,(⟨#[]⟩:ByteArray)⟩:Ent)),false))) (TFGet_j2_e D nm F) ((entsX ((readI ((pgOf (contF D nm) F.idx j1.1).1)).1)).1,(idxE ((entsX ((readI ((pgOf (contF D nm) F.idx j1.1).1)).1)).1) (⟨k,seq,false,(⟨#[]⟩:ByteArray)⟩:Ent)),false) (TFGet_j2 D nm F)))))))))))
noncomputable def TFGet (D:Dsk) (nm:ByteArray) (F:FileR) (k:ByteArray) (seq:Int):Tree:=
.callr (some 23) (ΔN1 44 [.ptr 1 0 0, .agg [vs k,vn .u64 seq,vb false,vs (⟨#[]⟩)]] [.obj [] (diskP D), .cells false 0 ([.op 0,vs nm,vl (F.idx.map parE.f),vl (F.bits.map byteE.f),vi F.cnt,vs F.low,vs F.high]), .cells false 0 ([vs (⟨#[]⟩),vn .u64 0,vb false,vs (⟨#[]⟩)]), .cells false 0 ([vs k,vn .u64 seq,vb false,vs (⟨#[]⟩)])] (vi ((findI F.idx (⟨k,seq,false,(⟨#[]⟩:ByteArray)⟩:Ent):Nat):Int)) [.obj [] (diskP D), .cells false 0 ([.op 0,vs nm,vl (F.idx.map parE.f),vl (F.bits.map byteE.f),vi F.cnt,vs F.low,vs F.high]), .cells false 0 ([vs (⟨#[]⟩),vn .u64 0,vb false,vs (⟨#[]⟩)]), .cells false 0 ([vs k,vn .u64 seq,vb false,vs (⟨#[]⟩)])]) (vi ((findI F.idx (⟨k,seq,false,(⟨#[]⟩:ByteArray)⟩:Ent):Nat):Int)) [.obj [] (diskP D), .cells false 0 ([.op 0,vs nm,vl (F.idx.map parE.f),vl (F.bits.map byteE.f),vi F.cnt,vs F.low,vs F.high]), .cells false 0 ([vs (⟨#[]⟩),vn .u64 0,vb false,vs (⟨#[]⟩)]), .cells false 0 ([vs k,vn .u64 seq,vb false,vs (⟨#[]⟩)])] (.call 25 (gChkE [.agg [vs k,vn .u64 seq,vb false,vs (⟨#[]⟩)]]=some (vi (chkE (⟨k,seq,false,(⟨#[]⟩:ByteArray)⟩:Ent)))) (vi (chkE (⟨k,seq,false,(⟨#[]⟩:ByteArray)⟩:Ent))) (.sp 26 ((chkE (⟨k,seq,false,(⟨#[]⟩:ByteArray)⟩:Ent)) != (0:Int)) (
.join ⟨[0,1,6,9,10,44],[(0,0,none),(1,0,none),(2,0,none),(3,0,none)]⟩ [] (some (TFGet_j1_e D nm F k seq (((findI F.idx (⟨k,seq,false,(⟨#[]⟩:ByteArray)⟩:Ent):Nat):Int),true))) (TFGet_j1_e D nm F k seq) (((findI F.idx (⟨k,seq,false,(⟨#[]⟩:ByteArray)⟩:Ent):Nat):Int),true) (TFGet_j1 D nm F k seq)) (
.call 33 (gMay [.agg [vl (F.bits.map byteE.f)],vs k]=some (vb (mayI F.bits k))) (vb (mayI F.bits k)) (.sp 33 (mayI F.bits k) (
.int 42 ((F.idx.map parE.f).length:Int) (F.idx.length:Int) (.sp 43 (((findI F.idx (⟨k,seq,false,(⟨#[]⟩:ByteArray)⟩:Ent):Nat):Int) == (F.idx.length:Int)) (
.join ⟨[0,1,6,9,10,44],[(0,0,none),(1,0,none),(2,0,none),(3,0,none)]⟩ [] (some (TFGet_j1_e D nm F k seq (((findI F.idx (⟨k,seq,false,(⟨#[]⟩:ByteArray)⟩:Ent):Nat):Int),true))) (TFGet_j1_e D nm F k seq) (((findI F.idx (⟨k,seq,false,(⟨#[]⟩:ByteArray)⟩:Ent):Nat):Int),true) (TFGet_j1 D nm F k seq)) (
.join ⟨[0,1,6,9,10,44],[(0,0,none),(1,0,none),(2,0,none),(3,0,none)]⟩ [] (some (TFGet_j1_e D nm F k seq (((findI F.idx (⟨k,seq,false,(⟨#[]⟩:ByteArray)⟩:Ent):Nat):Int),false))) (TFGet_j1_e D nm F k seq) (((findI F.idx (⟨k,seq,false,(⟨#[]⟩:ByteArray)⟩:Ent):Nat):Int),false) (TFGet_j1 D nm F k seq)))) (
.join ⟨[0,1,6,9,10,44],[(0,0,none),(1,0,none),(2,0,none),(3,0,none)]⟩ [] (some (TFGet_j1_e D nm F k seq (((findI F.idx (⟨k,seq,false,(⟨#[]⟩:ByteArray)⟩:Ent):Nat):Int),true))) (TFGet_j1_e D nm F k seq) (((findI F.idx (⟨k,seq,false,(⟨#[]⟩:ByteArray)⟩:Ent):Nat):Int),true) (TFGet_j1 D nm F k seq))))))

theorem TFGet_chk (D:Dsk) (nm:ByteArray) (F:FileR) (k:ByteArray) (seq:Int):fnC DP ΓN1 ΔN1 Tryz.f17 [.ptr 1 0 0,vs k,vn .u64 seq] [.obj [] (diskP D), .cells false 0 ([.op 0,vs nm,vl (F.idx.map parE.f),vl (F.bits.map byteE.f),vi F.cnt,vs F.low,vs F.high])] (TFGet D nm F k seq)=TFGet D nm F k seq:=by kernel_rfl

noncomputable def TNGet (k:ByteArray) (seq:Int):Tree:=
.leaf ⟨[0],[]⟩ [] .ret (some ([(0, .tup [.agg [vs (⟨#[]⟩),vn .u64 0,vb false,vs (⟨#[]⟩)],vb false,vi 1])],[]))

theorem TNGet_chk (k:ByteArray) (seq:Int):fnC DP Γ0 Δ0 Tryz.f17 [.p (.v (.pointer none)),vs k,vn .u64 seq] [] (TNGet k seq)=TNGet k seq:=by kernel_rfl

noncomputable def TFPages (D:Dsk) (nm:ByteArray) (F:FileR):Tree:=
.int 9 ((F.idx.map parE.f).length:Int) (F.idx.length:Int) (.leaf ⟨[0],[(0,0,none),(1,0,none)]⟩ [] .ret (some ([(0,vi (F.idx.length:Int))],[.obj [] (diskP D), .cells false 0 ([.op 0,vs nm,vl (F.idx.map parE.f),vl (F.bits.map byteE.f),vi F.cnt,vs F.low,vs F.high])])))

theorem TFPages_chk (D:Dsk) (nm:ByteArray) (F:FileR):fnC DP Γ0 Δ0 Tryz.f15 [.ptr 1 0 0] [.obj [] (diskP D), .cells false 0 ([.op 0,vs nm,vl (F.idx.map parE.f),vl (F.bits.map byteE.f),vi F.cnt,vs F.low,vs F.high])] (TFPages D nm F)=TFPages D nm F:=by kernel_rfl

noncomputable def TNPages:Tree:=
.leaf ⟨[0],[]⟩ [] .ret (some ([(0,vi 0)],[]))

theorem TNPages_chk:fnC DP Γ0 Δ0 Tryz.f15 [.p (.v (.pointer none))] [] (TNPages)=TNPages:=by kernel_rfl

noncomputable def TFCount (D:Dsk) (nm:ByteArray) (F:FileR):Tree:=
.leaf ⟨[0],[(0,0,none),(1,0,none)]⟩ [] .ret (some ([(0,vi F.cnt)],[.obj [] (diskP D), .cells false 0 ([.op 0,vs nm,vl (F.idx.map parE.f),vl (F.bits.map byteE.f),vi F.cnt,vs F.low,vs F.high])]))

theorem TFCount_chk (D:Dsk) (nm:ByteArray) (F:FileR):fnC DP Γ0 Δ0 Tryz.f14 [.ptr 1 0 0] [.obj [] (diskP D), .cells false 0 ([.op 0,vs nm,vl (F.idx.map parE.f),vl (F.bits.map byteE.f),vi F.cnt,vs F.low,vs F.high])] (TFCount D nm F)=TFCount D nm F:=by kernel_rfl

noncomputable def TNCount:Tree:=
.leaf ⟨[0],[]⟩ [] .ret (some ([(0,vi 0)],[]))

theorem TNCount_chk:fnC DP Γ0 Δ0 Tryz.f14 [.p (.v (.pointer none))] [] (TNCount)=TNCount:=by kernel_rfl

end Go.Ax

namespace Go.Ax
open Go.Proofs Go.RowKit
set_option maxRecDepth 100000

abbrev nilQ:AV:= .p (.v (.pointer none))
theorem find_idx {α:Type} (p:α→Bool):∀ L:List α,L.find? p=(L.findIdx? p).bind fun k=>L[k]?
 | []=>rfl
 | x::L=>by
  rw[List.find?_cons,List.findIdx?_cons,find_idx p L]
  cases hx:p x with
  | true=>rfl
  | false=>
   simp only[Bool.false_eq_true,if_false]
   cases L.findIdx? p with
   | none=>rfl
   | some k=>rfl
theorem lift_none {R:RSpec} {al:List AV} {B:List Box} {y:AV} (hR:R al [] y []) (h1:∀ f d,AV.rv.rvL f d al=al) (h2:∀ n,AV.low.allLow n al=true) (hy:y.low 0=true):liftR R al B y B:=by
 refine ⟨_,_,_,_,hR,⟨[],[],[],[],[],rfl,rfl,(h1 _ _).symm,h2 _,trivial,trivial,?_,(low_rv hy _ _).symm,low_mono hy⟩⟩
 simp[outB]
theorem ΓN1_ok:∀ f,SoundF DP f (ΓN1 f):=envP_cons SChkE (envP_cons SMay (envP_cons SAllP (envP_cons SEnts envP_nil)))
theorem ΔN1_ok:∀ f,SoundR DP f (ΔN1 f):=envR_cons (lift_sound SFFind) (envR_cons (lift_sound SPairs) (envR_cons (lift_sound SIdxF) envR_nil))
theorem oIdxF {L:List Ent} {w:Ent} {B:List Box} {b:Nat} (hN:L.length≤1000000000) (hb:B[b]? = some (wantB w)):liftR OIdxF [vl (L.map entE.f), .fn 49 [.ptr b 0 0]] B (vi (idxE L w)) B:=by
 have hlt:b<B.length:=(List.getElem?_eq_some_iff.1 hb).1
 refine ⟨_,_,_,_,⟨L,w,hN,rfl,rfl,rfl,rfl⟩,⟨[b],[0],[wantB w],[wantB w],[],?_,?_,?_,rfl,⟨.cells ?_ ?_ rfl,trivial⟩,⟨.cells ?_ ?_ rfl,trivial⟩,?_,rfl,rfl⟩⟩
 ·simp[noDup,Nat.blt_eq,hlt]
 ·simp[hb]
 ·simp[AV.rv.rvL,AV.rv,fNew,dNew]
 ·simp[dNew]
 ·simp[AV.rv.rvL,AV.rv]
 ·simp[dNew]
 ·simp[AV.rv.rvL,AV.rv]
 ·rw[outB,outB,set_same hb,List.append_nil]
def OFGet:RSpec:=fun args B r B'=>(∃ (D:Dsk) (nm:ByteArray) (F:FileR) (k:ByteArray) (seq:Int),D.Ok∧D.down=false∧FOk F∧k.size≤1000000∧(0≤seq∧seq<18446744073709551616)∧args= [.ptr 1 0 0,vs k,vn .u64 seq]∧B= [dskB D,filC 0 nm F] ∧
 r= .tup [entE.av (getE (contF D nm) F k seq).1,vb (getE (contF D nm) F k seq).2.1,vi (getE (contF D nm) F k seq).2.2]∧B'=B) ∨
 (∃ (k:ByteArray) (seq:Int),args= [nilQ,vs k,vn .u64 seq]∧B= []∧r= .tup [entE.av noE,vb false,vi 1]∧B'=B)
theorem SFGet:SoundR DP iFGet OFGet:=(SoundR.or (R1:=fun args B r B'=>(∃ (D:Dsk) (nm:ByteArray) (F:FileR) (k:ByteArray) (seq:Int),D.Ok∧D.down=false∧FOk F∧k.size≤1000000∧(0≤seq∧seq<18446744073709551616)∧args= [.ptr 1 0 0,vs k,vn .u64 seq]∧B= [dskB D,filC 0 nm F] ∧
 r= .tup [entE.av (getE (contF D nm) F k seq).1,vb (getE (contF D nm) F k seq).2.1,vi (getE (contF D nm) F k seq).2.2]∧B'=B))
 (R2:=fun args B r B'=>(∃ (k:ByteArray) (seq:Int),args= [nilQ,vs k,vn .u64 seq]∧B= []∧r= .tup [entE.av noE,vb false,vi 1]∧B'=B))
 (sound_genT mixedD ΓN1_ok ΔN1_ok hfFGet heFGet hbFGet (by
 rintro args B r B' ⟨D,nm,F,k,seq,ok,hd,hF,hk,hs,rfl,rfl,rfl,rfl⟩
 refine ⟨by rw[hnFGet]; rfl,_,TFGet_chk D nm F k seq,?_⟩
 have hc:=contF_len ok nm
 have hfi:=hF.idx
 have hE:getE (contF D nm) F k seq=(if chkE (⟨k,seq,false,⟨#[]⟩⟩:Ent)≠0∨mayI F.bits k=false then (noE,false,0) else
  match F.idx[findI F.idx (⟨k,seq,false,⟨#[]⟩⟩:Ent)]? with
  | none=>(noE,false,0)
  | some p=>if (pairsI (contF D nm) p).2≠0 then (noE,false,12) else
   match entsI (pairsI (contF D nm) p).1 with
   | none=>(noE,false,12)
   | some L=>match L.find? (fun y=>decide (0≤cmpE y (⟨k,seq,false,⟨#[]⟩⟩:Ent))) with
    | none=>(noE,false,0)
    | some y=>if y.key≠k then (noE,false,0) else (y,true,0):Ent×Bool×Int):=rfl
 have hin:InOk (⟨k,seq,false,⟨#[]⟩⟩:Ent):=⟨hs,by show k.size≤_; omega⟩
 have none0:getE (contF D nm) F k seq=(noE,false,0)→∀ i:Int,(TFGet_j1 D nm F k seq (i,true)).wp (fun _ c=>tk c.1 0=AV.tup [entE.av (getE (contF D nm) F k seq).1,vb (getE (contF D nm) F k seq).2.1,vi (getE (contF D nm) F k seq).2.2]∧c.2= [dskB D,filC 0 nm F]):=fun h i=>by
  rw[h]
  unfold TFGet_j1
  exact wp_br (fun _=>wp_leaf rfl ⟨rfl,rfl⟩) (fun q=>by cases q)
 generalize hw:findI F.idx (⟨k,seq,false,⟨#[]⟩⟩:Ent)=m at *
 unfold TFGet
 refine wp_callr (oFFind hfi hin rfl rfl) ?_
 rw[hw]
 refine wp_call (gChkE_eq (⟨k,seq,false,⟨#[]⟩⟩:Ent)) (wp_sp (fun a=>?_) (fun a=>wp_call (gMay_eq (by omega) hF.bits) (wp_sp (fun b=>wp_len (wp_sp (fun c=>?_) (fun c=>?_))) (fun b=>?_))))
 ·rw[if_pos (.inl (by simpa using a))] at hE
  exact wp_join rfl (none0 hE _)
 ·have a:chkE (⟨k,seq,false,⟨#[]⟩⟩:Ent)=0:=by simpa using a
  rw[if_neg (by rintro (e | e); exact e a; rw[b] at e; cases e),List.getElem?_eq_none (by have:=beq_iff_eq.1 c; omega)] at hE
  exact wp_join rfl (none0 hE _)
 ·have a:chkE (⟨k,seq,false,⟨#[]⟩⟩:Ent)=0:=by simpa using a
  have hm:m≤F.idx.length:=by
   rw[←hw]
   unfold findI
   exact (search_le _ _ _ _ (Nat.zero_le _)).2
  have c:=beq_eq_false_iff_ne.1 c
  obtain ⟨p,hp⟩:∃ p,F.idx[m]? = some p:=⟨_,List.getElem?_eq_getElem (by omega)⟩
  rw[if_neg (by rintro (e | e); exact e a; rw[b] at e; cases e),hp] at hE
  simp only at hE
  have hp':F.idx[((m:Nat):Int).toNat]? = some p:=by rw[Int.toNat_natCast]; exact hp
  obtain ⟨q1,q2,q3⟩:=pgOf_pairs (c:=contF D nm) hp'
  refine wp_join rfl ?_
  unfold TFGet_j1
  refine wp_br (fun q=>by cases q) (fun _=>wp_callr (oPairs ok hd (by simp only; omega) hp' (hF.par p (List.mem_of_getElem? hp)) rfl rfl) ?_)
  dsimp only
  rw[q1]
  refine wp_sp (fun x=>?_) (fun x=>?_)
  ·have x:(pairsI (contF D nm) p).2≠0:=by simpa using x
   rw[if_pos x] at hE
   rw[hE,(pairs_e (contF D nm) p).resolve_left x]
   exact wp_leaf rfl ⟨rfl,rfl⟩
  ·have x:(pairsI (contF D nm) p).2=0:=by simpa using x
   rw[if_neg (fun e=>e x)] at hE
   have hr:=q2 x
   obtain ⟨o1,o2⟩:=readI_ok hr
   refine wp_call (gAllP_eq (by omega)) ?_
   rw[hr]
   dsimp only
   refine wp_call (gEnts_eq (fun p hp=>by have:=o1 p hp; omega) (by omega)) ?_
   have hX:entsX (pairsI (contF D nm) p).1=match entsI (pairsI (contF D nm) p).1 with | none=>([],12) | some E=>(E,0):=rfl
   have hEl:∀ (L:List Par) (E:List Ent),entsI L=some E→E.length=L.length:=by
    intro L
    induction L with
    | nil=>intro E h; cases h; rfl
    | cons q L ih=>
     intro E h
     rw[entsI] at h
     split at h
     ·cases h
     ·cases he:entsI L with
      | none=>rw[he] at h; cases h
      | some G=>rw[he] at h; cases h; rw[List.length_cons,List.length_cons,ih G he]
   cases he:entsI (pairsI (contF D nm) p).1 with
   | none=>
    rw[he] at hE hX
    simp only at hE hX
    rw[hX,hE]
    exact wp_sp (fun _=>wp_leaf rfl ⟨rfl,rfl⟩) (fun q=>by simp at q)
   | some L=>
    have hll:=hEl _ _ he
    rw[he] at hE hX
    simp only at hE hX
    rw[hX]
    dsimp only
    rw[find_idx] at hE
    refine wp_sp (fun q=>by simp at q) (fun _=>wp_callr (oIdxF (b:=3) (w:=(⟨k,seq,false,⟨#[]⟩⟩:Ent)) (by omega) rfl) ?_)
    have hI:idxE L (⟨k,seq,false,⟨#[]⟩⟩:Ent)=match L.findIdx? (fun y=>decide (0≤cmpE y (⟨k,seq,false,⟨#[]⟩⟩:Ent))) with | none=> -1 | some k=>k:=rfl
    cases hf:L.findIdx? (fun y=>decide (0≤cmpE y (⟨k,seq,false,⟨#[]⟩⟩:Ent))) with
    | none=>
     rw[hf] at hE hI
     simp only[Option.bind_none] at hE hI
     rw[hI,hE]
     refine wp_sp (fun _=>wp_join rfl ?_) (fun q=>absurd (of_decide_eq_false q) (by decide))
     unfold TFGet_j2
     exact wp_br (fun _=>wp_leaf rfl ⟨rfl,rfl⟩) (fun q=>by cases q)
    | some t=>
     rw[hf] at hE hI
     simp only[Option.bind_some] at hE hI
     have htl:t<L.length:=by
      obtain ⟨h,_⟩:=List.findIdx?_eq_some_iff_getElem.1 hf
      exact h
     obtain ⟨y,hy⟩:∃ y,L[t]? = some y:=⟨_,List.getElem?_eq_getElem htl⟩
     rw[hy] at hE
     simp only at hE
     rw[hI]
     refine wp_sp (fun q=>absurd (of_decide_eq_true q) (by omega)) (fun _=>wp_elem0 y (by omega) (by rw[Int.toNat_natCast]; exact hy) (wp_sp (fun q=>wp_join rfl ?_) (fun q=>wp_join rfl ?_)))
     ·have hne:y.key≠k:=fun e=>by rw[e] at q; simp at q
      rw[if_pos hne] at hE
      rw[hE]
      unfold TFGet_j2
      exact wp_br (fun _=>wp_leaf rfl ⟨rfl,rfl⟩) (fun q=>by cases q)
     ·have heq:y.key=k:=by
       have q:(y.key.toList == k.toList)=true:=by simpa using q
       rw[ByteArray.toList_eq,ByteArray.toList_eq,beq_iff_eq] at q
       exact ByteArray.ext (Array.toList_inj.1 q)
      rw[if_neg (fun e=>e heq)] at hE
      rw[hE]
      unfold TFGet_j2
      exact wp_br (fun q=>by cases q) (fun _=>wp_elem0 y (by simp only; omega) (by simp only; rw[Int.toNat_natCast]; exact hy) (wp_leaf rfl ⟨rfl,rfl⟩))
 ·rw[if_pos (.inr b)] at hE
  exact wp_join rfl (none0 hE _)))
 (sound_genT mixedD Γ0_ok Δ0_ok hfFGet heFGet hbFGet (by
 rintro args B r B' ⟨k,seq,rfl,rfl,rfl,rfl⟩
 refine ⟨by rw[hnFGet]; rfl,_,TNGet_chk k seq,?_⟩
 unfold TNGet
 exact wp_leaf rfl ⟨rfl,rfl⟩))).mono (fun _ _ _ _ h=>h)
section
variable {B : List Box} {b l : Nat} {D : Dsk} {nm : ByteArray} {F : FileR} {k : ByteArray} {seq : Int}
theorem oFGet (ok:D.Ok) (hd:D.down=false) (hF:FOk F) (hk:k.size≤1000000) (hs:0≤seq∧seq<18446744073709551616) (hb:B[b]? = some (dskB D)) (hl:B[l]? = some (filC b nm F)):
  liftR OFGet [.ptr l 0 0,vs k,vn .u64 seq] B (.tup [entE.av (getE (contF D nm) F k seq).1,vb (getE (contF D nm) F k seq).2.1,vi (getE (contF D nm) F k seq).2.2]) B:=
 lift_file (R:=OFGet) (.inl ⟨D,nm,F,k,seq,ok,hd,hF,hk,hs,rfl,rfl,rfl,rfl⟩) hb hl (fun _ _=>rfl) (fun _=>rfl) rfl
end
end Go.Ax
