/- Trees, printed by gen/w1.py. -/
import Derived.Test.YtbdfbdlfipcleaaDoorG38
set_option linter.unusedVariables false
set_option linter.unusedSimpArgs false
set_option linter.unusedSectionVars false
namespace Go.Ax
open Go.Proofs Go.RowKit
set_option maxRecDepth 100000

def geI (idx:List Par) (key:List UInt8) (m:Nat):Bool:= !decide (bl (idx.getD m ⟨⟨#[]⟩,⟨#[]⟩⟩).nl key)
def searchK (idx:List Par) (key:ByteArray):Int:=((searchI (geI idx key.data.toList) idx.length 0 idx.length:Nat):Int)
def idxE (L:List Ent) (w:Ent):Int:=match L.findIdx? (fun y=>decide (0≤cmpE y w)) with
 | none=> -1
 | some k=>k
abbrev wantB (w:Ent):Box:= .cells false 0 [vs w.key,vn .u64 w.seq,vb w.del,vs w.val]
def OFind1:RSpec:=fun args B r B'=>∃ (D:Dsk) (nm:ByteArray) (F:FileR) (key:ByteArray) (i:Int),F.idx.length≤100000000∧(0≤i∧i<F.idx.length)∧args= [vi i, .ptr 2 0 0, .ptr 3 0 0]∧B= [dskB D,filC 0 nm F, .cells false 0 [.ptr 1 0 0], .cells false 0 [vs key]]∧r=vb (geI F.idx key.data.toList i.toNat)∧B'=B
def OSearch:RSpec:=fun args B r B'=>∃ (D:Dsk) (nm:ByteArray) (F:FileR) (key:ByteArray),F.idx.length≤100000000∧args= [vi (F.idx.length:Int), .fn 78 [.ptr 2 0 0, .ptr 3 0 0]]∧B= [dskB D,filC 0 nm F, .cells false 0 [.ptr 1 0 0], .cells false 0 [vs key]]∧r=vi (searchK F.idx key)∧B'=B
def OGet1:RSpec:=fun args B r B'=>∃ (y w:Ent),args= [entE.av y, .ptr 0 0 0]∧B= [wantB w]∧r=vb (decide (0≤cmpE y w))∧B'=B
noncomputable def ΔM1:REnv:=envR [(78,liftR OFind1)]
noncomputable def ΓM2:Env:=envP [(iInner,gInner)]
noncomputable def ΔM2:REnv:=envR [(77,liftR OSearch)]
noncomputable def ΓM3:Env:=envP [(iCmpE,gCmpE)]
noncomputable def ΔM3:REnv:=envR [(74,liftR OGet1)]

abbrev iFind1:Nat:=78
noncomputable abbrev nFind1:Func:=Tryd.f78
theorem hfFind1:DP.funcs[iFind1]? = some nFind1:=by kernel_rfl
theorem heFind1:enters DP iFind1=true:=by kernel_rfl
theorem hbFind1:nFind1.body.isSome=true:=by kernel_rfl
theorem hnFind1:nFind1.ntmps=15:=by kernel_rfl
abbrev iSearch:Nat:=77
noncomputable abbrev nSearch:Func:=Tryd.f77
theorem hfSearch:DP.funcs[iSearch]? = some nSearch:=by kernel_rfl
theorem heSearch:enters DP iSearch=true:=by kernel_rfl
theorem hbSearch:nSearch.body.isSome=true:=by kernel_rfl
theorem hnSearch:nSearch.ntmps=26:=by kernel_rfl
abbrev iFFind:Nat:=43
noncomputable abbrev nFFind:Func:=Tryd.f43
theorem hfFFind:DP.funcs[iFFind]? = some nFFind:=by kernel_rfl
theorem heFFind:enters DP iFFind=true:=by kernel_rfl
theorem hbFFind:nFFind.body.isSome=true:=by kernel_rfl
theorem hnFFind:nFFind.ntmps=18:=by kernel_rfl
abbrev iGet1:Nat:=74
noncomputable abbrev nGet1:Func:=Tryd.f74
theorem hfGet1:DP.funcs[iGet1]? = some nGet1:=by kernel_rfl
theorem heGet1:enters DP iGet1=true:=by kernel_rfl
theorem hbGet1:nGet1.body.isSome=true:=by kernel_rfl
theorem hnGet1:nGet1.ntmps=8:=by kernel_rfl
abbrev iIdxF:Nat:=73
noncomputable abbrev nIdxF:Func:=Tryd.f73
theorem hfIdxF:DP.funcs[iIdxF]? = some nIdxF:=by kernel_rfl
theorem heIdxF:enters DP iIdxF=true:=by kernel_rfl
theorem hbIdxF:nIdxF.body.isSome=true:=by kernel_rfl
theorem hnIdxF:nIdxF.ntmps=19:=by kernel_rfl

noncomputable def TFind1 (i:Int) (D:Dsk) (nm:ByteArray) (F:FileR) (key:ByteArray):Tree:=
.elem 10 (F.idx.map parE.f) parE F.idx i (fun e1=> .leaf ⟨[0],[(0,0,none),(1,0,none),(2,0,none),(3,0,none)]⟩ [] .ret (some ([(0,vb (!(Op.bytesLess e1.name.toList key.toList)))],[.obj [] (diskP D), .cells false 0 ([.op 0,vs nm,vl (F.idx.map parE.f),vl (F.bits.map byteE.f),vi F.cnt,vs F.low,vs F.high]), .cells false 0 ([.ptr 1 0 0]), .cells false 0 ([vs key])])))

theorem TFind1_chk (i:Int) (D:Dsk) (nm:ByteArray) (F:FileR) (key:ByteArray):fnC DP Γ0 Δ0 Tryd.f78 [vi i, .ptr 2 0 0, .ptr 3 0 0] [.obj [] (diskP D), .cells false 0 ([.op 0,vs nm,vl (F.idx.map parE.f),vl (F.bits.map byteE.f),vi F.cnt,vs F.low,vs F.high]), .cells false 0 ([.ptr 1 0 0]), .cells false 0 ([vs key])] (TFind1 i D nm F key)=TFind1 i D nm F key:=by kernel_rfl

noncomputable def TSearch_l1_e (D:Dsk) (nm:ByteArray) (F:FileR) (key:ByteArray) (s1:Int×Int):St:=([(1, .fn 78 [.ptr 2 0 0, .ptr 3 0 0]),(5,vi s1.1),(6,vi s1.2)],[.obj [] (diskP D), .cells false 0 ([.op 0,vs nm,vl (F.idx.map parE.f),vl (F.bits.map byteE.f),vi F.cnt,vs F.low,vs F.high]), .cells false 0 ([.ptr 1 0 0]), .cells false 0 ([vs key])])
noncomputable def TSearch_l1_x (D:Dsk) (nm:ByteArray) (F:FileR) (key:ByteArray) (x1:Int):AE×St:=((.exit 0),([(5,vi x1)],[.obj [] (diskP D), .cells false 0 ([.op 0,vs nm,vl (F.idx.map parE.f),vl (F.bits.map byteE.f),vi F.cnt,vs F.low,vs F.high]), .cells false 0 ([.ptr 1 0 0]), .cells false 0 ([vs key])]))
noncomputable def TSearch_l1_b (D:Dsk) (nm:ByteArray) (F:FileR) (key:ByteArray) (s1:Int×Int):Tree:=
.sp 11 (decide (s1.1<s1.2)) (
.int 14 (IntKind.i64.wrap (s1.1+s1.2)) (s1.1+s1.2) (.int 15 (IntKind.u64.wrap (s1.1+s1.2)) (s1.1+s1.2) (.int 16 (Int.fdiv (s1.1+s1.2) (2 ^ 1)) ((s1.1+s1.2) / 2) (.int 17 (IntKind.i64.wrap ((s1.1+s1.2) / 2)) ((s1.1+s1.2) / 2) (.callr (some 20) (ΔM1 78 [vi ((s1.1+s1.2) / 2), .ptr 2 0 0, .ptr 3 0 0] [.obj [] (diskP D), .cells false 0 ([.op 0,vs nm,vl (F.idx.map parE.f),vl (F.bits.map byteE.f),vi F.cnt,vs F.low,vs F.high]), .cells false 0 ([.ptr 1 0 0]), .cells false 0 ([vs key])] (vb (geI F.idx key.data.toList (Int.toNat ((s1.1+s1.2) / 2)))) [.obj [] (diskP D), .cells false 0 ([.op 0,vs nm,vl (F.idx.map parE.f),vl (F.bits.map byteE.f),vi F.cnt,vs F.low,vs F.high]), .cells false 0 ([.ptr 1 0 0]), .cells false 0 ([vs key])]) (vb (geI F.idx key.data.toList (Int.toNat ((s1.1+s1.2) / 2)))) [.obj [] (diskP D), .cells false 0 ([.op 0,vs nm,vl (F.idx.map parE.f),vl (F.bits.map byteE.f),vi F.cnt,vs F.low,vs F.high]), .cells false 0 ([.ptr 1 0 0]), .cells false 0 ([vs key])] (.sp 20 (geI F.idx key.data.toList (Int.toNat ((s1.1+s1.2) / 2))) (
.leaf ⟨[1,5,6],[(0,0,none),(1,0,none),(2,0,none),(3,0,none)]⟩ [] .normal (some (TSearch_l1_e D nm F key (s1.1,(s1.1+s1.2) / 2)))) (
.int 23 (IntKind.i64.wrap (((s1.1+s1.2) / 2)+1)) (((s1.1+s1.2) / 2)+1) (.leaf ⟨[1,5,6],[(0,0,none),(1,0,none),(2,0,none),(3,0,none)]⟩ [] .normal (some (TSearch_l1_e D nm F key (((s1.1+s1.2) / 2)+1,s1.2))))))))))) (
.leaf ⟨[5],[(0,0,none),(1,0,none),(2,0,none),(3,0,none)]⟩ [] (.exit 0) (some (TSearch_l1_x D nm F key s1.1).2))
noncomputable def TSearch (n:Int) (D:Dsk) (nm:ByteArray) (F:FileR) (key:ByteArray):Tree:=
.loop ⟨[1,5,6],[(0,0,none),(1,0,none),(2,0,none),(3,0,none)]⟩ [] (some (TSearch_l1_e D nm F key (0,n))) (TSearch_l1_e D nm F key) (TSearch_l1_x D nm F key) noX (0,n) (TSearch_l1_b D nm F key) (fun (x1:Int)=> .leaf ⟨[0],[(0,0,none),(1,0,none),(2,0,none),(3,0,none)]⟩ [] .ret (some ([(0,vi x1)],[.obj [] (diskP D), .cells false 0 ([.op 0,vs nm,vl (F.idx.map parE.f),vl (F.bits.map byteE.f),vi F.cnt,vs F.low,vs F.high]), .cells false 0 ([.ptr 1 0 0]), .cells false 0 ([vs key])]))) (fun _=> .stuck)

theorem TSearch_chk (n:Int) (D:Dsk) (nm:ByteArray) (F:FileR) (key:ByteArray):fnC DP Γ0 ΔM1 Tryd.f77 [vi n, .fn 78 [.ptr 2 0 0, .ptr 3 0 0]] [.obj [] (diskP D), .cells false 0 ([.op 0,vs nm,vl (F.idx.map parE.f),vl (F.bits.map byteE.f),vi F.cnt,vs F.low,vs F.high]), .cells false 0 ([.ptr 1 0 0]), .cells false 0 ([vs key])] (TSearch n D nm F key)=TSearch n D nm F key:=by kernel_rfl

noncomputable def TFFind (D:Dsk) (nm:ByteArray) (F:FileR) (y:Ent):Tree:=
.call 10 (gInner [.agg [vs y.key,vn .u64 y.seq,vb false,vs y.val]]=some (vs (⟨(innB (⟨y.key,y.seq,false,y.val⟩:Ent)).toArray⟩:ByteArray))) (vs (⟨(innB (⟨y.key,y.seq,false,y.val⟩:Ent)).toArray⟩:ByteArray)) (.int 15 ((F.idx.map parE.f).length:Int) (F.idx.length:Int) (.callr (some 17) (ΔM2 77 [vi (F.idx.length:Int), .fn 78 [.ptr 2 0 0, .ptr 4 0 0]] [.obj [] (diskP D), .cells false 0 ([.op 0,vs nm,vl (F.idx.map parE.f),vl (F.bits.map byteE.f),vi F.cnt,vs F.low,vs F.high]), .cells false 0 ([.ptr 1 0 0]), .cells false 0 ([vs y.key,vn .u64 y.seq,vb false,vs y.val]), .cells false 0 ([vs (⟨(innB (⟨y.key,y.seq,false,y.val⟩:Ent)).toArray⟩:ByteArray)])] (vi (searchK F.idx (⟨(innB (⟨y.key,y.seq,false,y.val⟩:Ent)).toArray⟩:ByteArray))) [.obj [] (diskP D), .cells false 0 ([.op 0,vs nm,vl (F.idx.map parE.f),vl (F.bits.map byteE.f),vi F.cnt,vs F.low,vs F.high]), .cells false 0 ([.ptr 1 0 0]), .cells false 0 ([vs y.key,vn .u64 y.seq,vb false,vs y.val]), .cells false 0 ([vs (⟨(innB (⟨y.key,y.seq,false,y.val⟩:Ent)).toArray⟩:ByteArray)])]) (vi (searchK F.idx (⟨(innB (⟨y.key,y.seq,false,y.val⟩:Ent)).toArray⟩:ByteArray))) [.obj [] (diskP D), .cells false 0 ([.op 0,vs nm,vl (F.idx.map parE.f),vl (F.bits.map byteE.f),vi F.cnt,vs F.low,vs F.high]), .cells false 0 ([.ptr 1 0 0]), .cells false 0 ([vs y.key,vn .u64 y.seq,vb false,vs y.val]), .cells false 0 ([vs (⟨(innB (⟨y.key,y.seq,false,y.val⟩:Ent)).toArray⟩:ByteArray)])] (.leaf ⟨[0],[(0,0,none),(1,0,none)]⟩ [] .ret (some ([(0,vi (searchK F.idx (⟨(innB (⟨y.key,y.seq,false,y.val⟩:Ent)).toArray⟩:ByteArray)))],[.obj [] (diskP D), .cells false 0 ([.op 0,vs nm,vl (F.idx.map parE.f),vl (F.bits.map byteE.f),vi F.cnt,vs F.low,vs F.high])])))))

theorem TFFind_chk (D:Dsk) (nm:ByteArray) (F:FileR) (y:Ent):fnC DP ΓM2 ΔM2 Tryd.f43 [.ptr 1 0 0,(entE.av y)] [.obj [] (diskP D), .cells false 0 ([.op 0,vs nm,vl (F.idx.map parE.f),vl (F.bits.map byteE.f),vi F.cnt,vs F.low,vs F.high])] (TFFind D nm F y)=TFFind D nm F y:=by kernel_rfl

noncomputable def TGet1 (y:Ent) (w:Ent):Tree:=
.call 6 (gCmpE [(entE.av y),(entE.av w)]=some (vi (cmpE y w))) (vi (cmpE y w)) (.leaf ⟨[0],[(0,0,none)]⟩ [] .ret (some ([(0,vb (decide ((cmpE y w)≥(0:Int))))],[.cells false 0 ([vs w.key,vn .u64 w.seq,vb w.del,vs w.val])])))

theorem TGet1_chk (y:Ent) (w:Ent):fnC DP ΓM3 Δ0 Tryd.f74 [(entE.av y), .ptr 0 0 0] [.cells false 0 ([vs w.key,vn .u64 w.seq,vb w.del,vs w.val])] (TGet1 y w)=TGet1 y w:=by kernel_rfl

noncomputable def TIdxF_l1_e (L:List Ent) (w:Ent) (s1:Int):St:=([(0,vl (L.map entE.f)),(1, .fn 74 [.ptr 0 0 0]),(7,vi (L.length:Int)),(8,vi s1)],[.cells false 0 ([vs w.key,vn .u64 w.seq,vb w.del,vs w.val])])
noncomputable def TIdxF_l1_x (w:Ent) (x1:Int):AE×St:=(.ret,([(4,vi x1)],[.cells false 0 ([vs w.key,vn .u64 w.seq,vb w.del,vs w.val])]))
noncomputable def TIdxF_l1_x' (w:Ent) (y1:Unit):AE×St:=((.exit 0),([],[.cells false 0 ([vs w.key,vn .u64 w.seq,vb w.del,vs w.val])]))
noncomputable def TIdxF_l1_b (L:List Ent) (w:Ent) (s1:Int):Tree:=
.sp 9 (decide (s1<(L.length:Int))) (
.elem 14 (L.map entE.f) entE L s1 (fun e1=> .callr (some 16) (ΔM3 74 [(entE.av e1), .ptr 0 0 0] [.cells false 0 ([vs w.key,vn .u64 w.seq,vb w.del,vs w.val])] (vb (decide (0≤cmpE e1 w))) [.cells false 0 ([vs w.key,vn .u64 w.seq,vb w.del,vs w.val])]) (vb (decide (0≤cmpE e1 w))) [.cells false 0 ([vs w.key,vn .u64 w.seq,vb w.del,vs w.val])] (.sp 16 (decide (0≤cmpE e1 w)) (
.leaf ⟨[4],[(0,0,none)]⟩ [] .ret (some (TIdxF_l1_x w s1).2)) (
.int 18 (IntKind.i64.wrap (s1+1)) (s1+1) (.leaf ⟨[0,1,7,8],[(0,0,none)]⟩ [] .normal (some (TIdxF_l1_e L w (s1+1)))))))) (
.leaf ⟨[],[(0,0,none)]⟩ [] (.exit 0) (some (TIdxF_l1_x' w ()).2))
noncomputable def TIdxF (L:List Ent) (w:Ent):Tree:=
.int 7 ((L.map entE.f).length:Int) (L.length:Int) (.loop ⟨[0,1,7,8],[(0,0,none)]⟩ [] (some (TIdxF_l1_e L w 0)) (TIdxF_l1_e L w) (TIdxF_l1_x w) (TIdxF_l1_x' w) 0 (TIdxF_l1_b L w) (fun (x1:Int)=> .leaf ⟨[0],[(0,0,none)]⟩ [] .ret (some ([(0,vi x1)],[.cells false 0 ([vs w.key,vn .u64 w.seq,vb w.del,vs w.val])]))) (fun (y1:Unit)=> .leaf ⟨[0],[(0,0,none)]⟩ [] .ret (some ([(0,vi (-1))],[.cells false 0 ([vs w.key,vn .u64 w.seq,vb w.del,vs w.val])]))))

theorem TIdxF_chk (L:List Ent) (w:Ent):fnC DP Γ0 ΔM3 Tryd.f73 [vl (L.map entE.f), .fn 74 [.ptr 0 0 0]] [.cells false 0 ([vs w.key,vn .u64 w.seq,vb w.del,vs w.val])] (TIdxF L w)=TIdxF L w:=by kernel_rfl

end Go.Ax

namespace Go.Ax
open Go.Proofs Go.RowKit
set_option maxRecDepth 100000

theorem wp_elem0 {α:Type} {d:Nat} {E:Enc α} {L:List α} {i:Int} {k:α→Tree} {K:AE→St→Prop} (a:α) (h0:0≤i) (ha:L[i.toNat]? = some a) (h:(k a).wp K):(Tree.elem d (L.map E.f) E L i k).wp K:=⟨rfl,h0,a,ha,h⟩
theorem SFind1:SoundR DP iFind1 OFind1:=sound_genT mixedD Γ0_ok Δ0_ok hfFind1 heFind1 hbFind1 (by
 rintro args B r B' ⟨D,nm,F,key,i,hn,hi,rfl,rfl,rfl,rfl⟩
 refine ⟨by rw[hnFind1]; rfl,_,TFind1_chk i D nm F key,?_⟩
 obtain ⟨p,hp⟩:∃ p,F.idx[i.toNat]? = some p:=⟨_,List.getElem?_eq_getElem (by omega)⟩
 have e:geI F.idx key.data.toList i.toNat= !(Op.bytesLess p.name.toList key.toList):=by
  unfold geI
  rw[List.getD_eq_getElem?_getD,hp,ByteArray.toList_eq,ByteArray.toList_eq]
  show (!decide (Op.bytesLess p.name.data.toList key.data.toList=true))=_
  cases Op.bytesLess p.name.data.toList key.data.toList <;> rfl
 unfold TFind1
 refine wp_elem0 p hi.1 hp (wp_leaf rfl ?_)
 rw[e]
 exact ⟨rfl,rfl⟩)
theorem Blow4 {n:Nat} {a b c d:Box} (h1:AV.low.allLow n a.cs=true) (h2:AV.low.allLow n b.cs=true) (h3:AV.low.allLow n c.cs=true) (h4:AV.low.allLow n d.cs=true):Blow n [a,b,c,d]:=fun z hz=>by
 simp only[List.mem_cons,List.mem_nil_iff,or_false] at hz
 rcases hz with rfl | rfl | rfl | rfl <;> assumption
theorem ΔM1_ok:∀ f,SoundR DP f (ΔM1 f):=envR_cons (lift_sound SFind1) envR_nil
section
variable {D : Dsk} {nm : ByteArray} {F : FileR} {key : ByteArray}
theorem oFind1 {i:Int} (hn:F.idx.length≤100000000) (hi:0≤i∧i<F.idx.length):
  liftR OFind1 [vi i, .ptr 2 0 0, .ptr 3 0 0] [dskB D,filC 0 nm F, .cells false 0 [.ptr 1 0 0], .cells false 0 [vs key]] (vb (geI F.idx key.data.toList i.toNat)) [dskB D,filC 0 nm F, .cells false 0 [.ptr 1 0 0], .cells false 0 [vs key]]:=
 lift_tail (R:=OFind1) ⟨D,nm,F,key,i,hn,hi,rfl,rfl,rfl,rfl⟩ rfl rfl (Blow4 rfl rfl rfl rfl) (Blow4 rfl rfl rfl rfl) rfl []
theorem search_rounds (hn:F.idx.length≤100000000):∀ (f i j:Nat),j≤i+f→i≤j→j≤F.idx.length→Rounds (TSearch_l1_e D nm F key) (TSearch_l1_x D nm F key) noX (fun s=>(TSearch_l1_b D nm F key s).wp) ((i:Int),(j:Int)) (.inl ((searchI (geI F.idx key.data.toList) f i j:Nat):Int)):=by
 have stop:∀ i j:Nat,¬i<j→Rounds (TSearch_l1_e D nm F key) (TSearch_l1_x D nm F key) noX (fun s=>(TSearch_l1_b D nm F key s).wp) ((i:Int),(j:Int)) (.inl (i:Int)):=fun i j h=>by
  refine .done (by intro e; cases e) ?_
  unfold TSearch_l1_b
  exact wp_sp (fun h'=>absurd (of_decide_eq_true h') (by simp only; omega)) (fun _=>wp_leaf rfl ⟨rfl,rfl⟩)
 intro f
 induction f with
 | zero=>
  intro i j h1 h2 h3
  rw[searchI]
  exact stop i j (by omega)
 | succ f ih=>
  intro i j h1 h2 h3
  rw[searchI]
  by_cases hij:i<j
  ·rw[if_pos hij]
   have em:((i:Int)+(j:Int)) / 2=(((i+j) / 2:Nat):Int):=by omega
   have hc:=oFind1 (D:=D) (nm:=nm) (F:=F) (key:=key) (i:=(((i+j) / 2:Nat):Int)) hn (by omega)
   rw[Int.toNat_natCast] at hc
   by_cases hp:geI F.idx key.data.toList ((i+j) / 2)=true
   ·rw[if_pos hp]
    refine .next ?_ (ih i ((i+j) / 2) (by omega) (by omega) (by omega))
    unfold TSearch_l1_b
    dsimp only
    rw[em]
    simp only[Int.toNat_natCast]
    refine wp_sp (fun _=>wp_i64 (by omega) (wp_u64 (by omega) (wp_int ?_ (wp_i64 (by omega) (wp_callr hc (wp_sp (fun _=>wp_leaf rfl ⟨rfl,rfl⟩) (fun q=>absurd hp (by rw[q]; decide)))))))) (fun h'=>absurd (of_decide_eq_false h') (by omega))
    rw[←em]; exact fdivP 2 (by decide)
   ·rw[if_neg hp]
    have hr:=ih ((i+j) / 2+1) j (by omega) (by omega) (by omega)
    rw[show (((i+j) / 2+1:Nat):Int)=(((i+j) / 2:Nat):Int)+1 by omega] at hr
    refine .next ?_ hr
    unfold TSearch_l1_b
    dsimp only
    rw[em]
    simp only[Int.toNat_natCast]
    refine wp_sp (fun _=>wp_i64 (by omega) (wp_u64 (by omega) (wp_int ?_ (wp_i64 (by omega) (wp_callr hc (wp_sp (fun q=>absurd q hp) (fun _=>wp_i64 (by omega) (wp_leaf rfl ⟨rfl,rfl⟩)))))))) (fun h'=>absurd (of_decide_eq_false h') (by omega))
    rw[←em]; exact fdivP 2 (by decide)
  ·rw[if_neg hij]
   exact stop i j hij
end
theorem SSearch:SoundR DP iSearch OSearch:=sound_genT mixedD Γ0_ok ΔM1_ok hfSearch heSearch hbSearch (by
 rintro args B r B' ⟨D,nm,F,key,hn,rfl,rfl,rfl,rfl⟩
 refine ⟨by rw[hnSearch]; rfl,_,TSearch_chk (F.idx.length:Int) D nm F key,?_⟩
 have hr:=search_rounds (D:=D) (nm:=nm) (F:=F) (key:=key) hn F.idx.length 0 F.idx.length (by omega) (by omega) (Nat.le_refl _)
 unfold TSearch
 exact wp_loop _ rfl hr (wp_leaf rfl ⟨rfl,rfl⟩))
theorem ΓM2_ok:∀ f,SoundF DP f (ΓM2 f):=envP_cons SInner envP_nil
theorem ΔM2_ok:∀ f,SoundR DP f (ΔM2 f):=envR_cons (lift_sound SSearch) envR_nil
def OFFind:RSpec:=fun args B r B'=>∃ (D:Dsk) (nm:ByteArray) (F:FileR) (y:Ent),F.idx.length≤100000000∧InOk y∧args= [.ptr 1 0 0,entE.av y]∧B= [dskB D,filC 0 nm F]∧r=vi ((findI F.idx y:Nat):Int)∧B'=B
theorem oSearch {D:Dsk} {nm:ByteArray} {F:FileR} {key:ByteArray} {x:Box} (hn:F.idx.length≤100000000):
  liftR OSearch [vi (F.idx.length:Int), .fn 78 [.ptr 2 0 0, .ptr 4 0 0]] [dskB D,filC 0 nm F, .cells false 0 [.ptr 1 0 0],x, .cells false 0 [vs key]] (vi (searchK F.idx key)) [dskB D,filC 0 nm F, .cells false 0 [.ptr 1 0 0],x, .cells false 0 [vs key]]:=by
 refine ⟨_,_,_,_,⟨D,nm,F,key,hn,rfl,rfl,rfl,rfl⟩,⟨[0,1,2,4],[0,0,0,0],[dskB D,filC 0 nm F, .cells false 0 [.ptr 1 0 0], .cells false 0 [vs key]],[dskB D,filC 0 nm F, .cells false 0 [.ptr 1 0 0], .cells false 0 [vs key]],[],?_,?_,?_,?_,⟨.objs rfl rfl, .cells ?_ ?_ rfl, .cells ?_ ?_ rfl, .cells ?_ ?_ rfl,trivial⟩,⟨.objs rfl rfl, .cells ?_ ?_ rfl, .cells ?_ ?_ rfl, .cells ?_ ?_ rfl,trivial⟩,?_,rfl,rfl⟩⟩
 ·rfl
 ·simp
 ·simp[AV.rv.rvL,AV.rv,fNew,dNew]
 ·rfl
 all_goals first
  | (simp[dNew]; done)
  | (simp[AV.rv.rvL,AV.rv,fNew,dNew]; done)
  | (simp[outB]; done)
theorem SFFind:SoundR DP iFFind OFFind:=sound_genT mixedD ΓM2_ok ΔM2_ok hfFFind heFFind hbFFind (by
 rintro args B r B' ⟨D,nm,F,y,hn,hy,rfl,rfl,rfl,rfl⟩
 refine ⟨by rw[hnFFind]; rfl,_,TFFind_chk D nm F y,?_⟩
 have hi:=gInner_eq (least y) hy.1 hy.2
 have e:searchK F.idx (⟨(innB (least y)).toArray⟩:ByteArray)=((findI F.idx y:Nat):Int):=by
  unfold searchK
  rw[show (⟨(innB (least y)).toArray⟩:ByteArray).data.toList=innB (least y) by simp]
  rfl
 unfold TFFind
 refine wp_call hi (wp_len (wp_callr (oSearch hn) (wp_leaf rfl ?_)))
 have e':searchK F.idx (⟨(innB (⟨y.key,y.seq,false,y.val⟩:Ent)).toArray⟩:ByteArray)=((findI F.idx y:Nat):Int):=e
 rw[e']
 exact ⟨rfl,rfl⟩)
theorem oFFind {B:List Box} {b l:Nat} {D:Dsk} {nm:ByteArray} {F:FileR} {y:Ent} (hn:F.idx.length≤100000000) (hy:InOk y) (hb:B[b]? = some (dskB D)) (hl:B[l]? = some (filC b nm F)):
  liftR OFFind [.ptr l 0 0,entE.av y] B (vi ((findI F.idx y:Nat):Int)) B:=
 lift_file (R:=OFFind) ⟨D,nm,F,y,hn,hy,rfl,rfl,rfl,rfl⟩ hb hl (fun _ _=>rfl) (fun _=>rfl) rfl

theorem ΓM3_ok:∀ f,SoundF DP f (ΓM3 f):=envP_cons SCmpE envP_nil
theorem SGet1:SoundR DP iGet1 OGet1:=sound_genT mixedD ΓM3_ok Δ0_ok hfGet1 heGet1 hbGet1 (by
 rintro args B r B' ⟨y,w,rfl,rfl,rfl,rfl⟩
 refine ⟨by rw[hnGet1]; rfl,_,TGet1_chk y w,?_⟩
 unfold TGet1
 exact wp_call (gCmpE_eq y w) (wp_leaf rfl ⟨rfl,rfl⟩))
theorem ΔM3_ok:∀ f,SoundR DP f (ΔM3 f):=envR_cons (lift_sound SGet1) envR_nil
theorem oGet1 {y w:Ent}:liftR OGet1 [entE.av y, .ptr 0 0 0] [wantB w] (vb (decide (0≤cmpE y w))) [wantB w]:=
 lift_tail (R:=OGet1) ⟨y,w,rfl,rfl,rfl,rfl⟩ rfl rfl (fun z hz=>by rw[List.mem_singleton.1 hz]; rfl) (fun z hz=>by rw[List.mem_singleton.1 hz]; rfl) rfl []
def idxX (L:List Ent) (w:Ent) (i:Nat):Int ⊕ Unit:=match (L.drop i).findIdx? (fun y=>decide (0≤cmpE y w)) with
 | none=> .inr ()
 | some k=> .inl ((i+k:Nat):Int)
theorem idx_rounds (L:List Ent) (w:Ent) (hN:L.length≤1000000000):∀ (j i:Nat),i+j=L.length→Rounds (TIdxF_l1_e L w) (TIdxF_l1_x w) (TIdxF_l1_x' w) (fun s=>(TIdxF_l1_b L w s).wp) (i:Int) (idxX L w i):=by
 intro j
 induction j with
 | zero=>
  intro i hi
  unfold idxX
  rw[List.drop_of_length_le (by omega)]
  refine .done' (by intro e; cases e) ?_
  unfold TIdxF_l1_b
  exact wp_sp (fun h'=>absurd (of_decide_eq_true h') (by omega)) (fun _=>wp_leaf rfl ⟨rfl,rfl⟩)
 | succ j ih=>
  intro i hi
  have hlt:i<L.length:=by omega
  have hr:=ih (i+1) (by omega)
  have hd:=List.drop_eq_getElem_cons hlt
  unfold idxX
  rw[hd,List.findIdx?_cons]
  by_cases hc:decide (0≤cmpE L[i] w)=true
  ·rw[if_pos hc]
   refine .done (by intro e; cases e) ?_
   unfold TIdxF_l1_b
   exact wp_sp (fun _=>wp_elem0 L[i] (by omega) (by simp[hlt]) (wp_callr oGet1 (wp_sp (fun _=>wp_leaf rfl ⟨rfl,rfl⟩) (fun q=>absurd hc (by rw[q]; decide))))) (fun h'=>absurd (of_decide_eq_false h') (by omega))
  ·rw[if_neg hc]
   have e:idxX L w (i+1)=match ((L.drop (i+1)).findIdx? (fun y=>decide (0≤cmpE y w))).map (· + 1) with | none=> .inr () | some k=> .inl ((i+k:Nat):Int):=by
    unfold idxX
    cases (L.drop (i+1)).findIdx? (fun y=>decide (0≤cmpE y w)) with
    | none=>rfl
    | some k=>show Sum.inl _=Sum.inl _; congr 1; simp only; omega
   rw[e,show ((i+1:Nat):Int)=(i:Int)+1 by omega] at hr
   refine .next ?_ hr
   unfold TIdxF_l1_b
   exact wp_sp (fun _=>wp_elem0 L[i] (by omega) (by simp[hlt]) (wp_callr oGet1 (wp_sp (fun q=>absurd q hc) (fun _=>wp_i64 (by omega) (wp_leaf rfl ⟨rfl,rfl⟩))))) (fun h'=>absurd (of_decide_eq_false h') (by omega))
def OIdxF:RSpec:=fun args B r B'=>∃ (L:List Ent) (w:Ent),L.length≤1000000000∧args= [vl (L.map entE.f), .fn 74 [.ptr 0 0 0]]∧B= [wantB w]∧r=vi (idxE L w)∧B'=B
theorem SIdxF:SoundR DP iIdxF OIdxF:=sound_genT mixedD Γ0_ok ΔM3_ok hfIdxF heIdxF hbIdxF (by
 rintro args B r B' ⟨L,w,hN,rfl,rfl,rfl,rfl⟩
 refine ⟨by rw[hnIdxF]; rfl,_,TIdxF_chk L w,?_⟩
 have hr:=idx_rounds L w hN L.length 0 (by omega)
 unfold idxX at hr
 rw[List.drop_zero] at hr
 unfold TIdxF idxE
 refine wp_len ?_
 cases hc:L.findIdx? (fun y=>decide (0≤cmpE y w)) with
 | none=>
  rw[hc] at hr
  exact wp_loop' _ rfl hr (wp_leaf rfl ⟨rfl,rfl⟩)
 | some k=>
  rw[hc] at hr
  simp only[Nat.zero_add] at hr
  exact wp_loop _ rfl hr (wp_leaf rfl ⟨rfl,rfl⟩))
end Go.Ax

namespace Go.Ax
open Go.Proofs Go.RowKit
set_option maxRecDepth 100000

noncomputable def ΓN1:Env:=envP [(iChkE,gChkE),(iMay,gMay),(iAllP,gAllP),(iEnts,gEnts)]
noncomputable def ΔN1:REnv:=envR [(iFFind,liftR OFFind),(iPairs,liftR OPairs),(iIdxF,liftR OIdxF)]

abbrev iFGet:Nat:=34
noncomputable abbrev nFGet:Func:=Tryd.f34
theorem hfFGet:DP.funcs[iFGet]? = some nFGet:=by kernel_rfl
theorem heFGet:enters DP iFGet=true:=by kernel_rfl
theorem hbFGet:nFGet.body.isSome=true:=by kernel_rfl
theorem hnFGet:nFGet.ntmps=85:=by kernel_rfl
abbrev iFPages:Nat:=36
noncomputable abbrev nFPages:Func:=Tryd.f36
theorem hfFPages:DP.funcs[iFPages]? = some nFPages:=by kernel_rfl
theorem heFPages:enters DP iFPages=true:=by kernel_rfl
theorem hbFPages:nFPages.body.isSome=true:=by kernel_rfl
theorem hnFPages:nFPages.ntmps=10:=by kernel_rfl
noncomputable def TFGet_j1_e (D:Dsk) (nm:ByteArray) (F:FileR) (k:ByteArray) (seq:Int) (j1:Int×Bool):St:=([(0, .ptr 1 0 0),(1,vs k),(6, .ptr 2 0 0),(9, .ptr 3 0 0),(10,vi j1.1),(44,vb j1.2)],[.obj [] (diskP D), .cells false 0 ([.op 0,vs nm,vl (F.idx.map parE.f),vl (F.bits.map byteE.f),vi F.cnt,vs F.low,vs F.high]), .cells false 0 ([vs (⟨#[]⟩),vn .u64 0,vb false,vs (⟨#[]⟩)]), .cells false 0 ([vs k,vn .u64 seq,vb false,vs (⟨#[]⟩)])])
noncomputable def TFGet_j2_e (D:Dsk) (nm:ByteArray) (F:FileR) (j2:(List Ent)×Int×Bool):St:=([(6, .ptr 2 0 0),(13,vl (j2.1.map entE.f)),(14,vi j2.2.1),(79,vb j2.2.2)],[.obj [] (diskP D), .cells false 0 ([.op 0,vs nm,vl (F.idx.map parE.f),vl (F.bits.map byteE.f),vi F.cnt,vs F.low,vs F.high]), .cells false 0 ([vs (⟨#[]⟩),vn .u64 0,vb false,vs (⟨#[]⟩)])])
noncomputable def TFGet_j2 (D:Dsk) (nm:ByteArray) (F:FileR) (j2:(List Ent)×Int×Bool):Tree:=
.br j2.2.2 (
.leaf ⟨[0],[(0,0,none),(1,0,none)]⟩ [] .ret (some ([(0, .tup [.agg [vs (⟨#[]⟩),vn .u64 0,vb false,vs (⟨#[]⟩)],vb false,vi 0])],[.obj [] (diskP D), .cells false 0 ([.op 0,vs nm,vl (F.idx.map parE.f),vl (F.bits.map byteE.f),vi F.cnt,vs F.low,vs F.high])]))) (
.elem 83 (j2.1.map entE.f) entE j2.1 j2.2.1 (fun e1=> .leaf ⟨[0],[(0,0,none),(1,0,none)]⟩ [] .ret (some ([(0, .tup [(entE.av e1),vb true,vi 0])],[.obj [] (diskP D), .cells false 0 ([.op 0,vs nm,vl (F.idx.map parE.f),vl (F.bits.map byteE.f),vi F.cnt,vs F.low,vs F.high])]))))
noncomputable def TFGet_j1 (D:Dsk) (nm:ByteArray) (F:FileR) (k:ByteArray) (seq:Int) (j1:Int×Bool):Tree:=
.br j1.2 (
.leaf ⟨[0],[(0,0,none),(1,0,none)]⟩ [] .ret (some ([(0, .tup [.agg [vs (⟨#[]⟩),vn .u64 0,vb false,vs (⟨#[]⟩)],vb false,vi 0])],[.obj [] (diskP D), .cells false 0 ([.op 0,vs nm,vl (F.idx.map parE.f),vl (F.bits.map byteE.f),vi F.cnt,vs F.low,vs F.high])]))) (
.callr (some 49) (ΔN1 71 [.ptr 1 0 0,vi j1.1] [.obj [] (diskP D), .cells false 0 ([.op 0,vs nm,vl (F.idx.map parE.f),vl (F.bits.map byteE.f),vi F.cnt,vs F.low,vs F.high]), .cells false 0 ([vs (⟨#[]⟩),vn .u64 0,vb false,vs (⟨#[]⟩)]), .cells false 0 ([vs k,vn .u64 seq,vb false,vs (⟨#[]⟩)])] (.tup [.agg [vl (((pgOf (contF D nm) F.idx j1.1).1).map byteE.f),vl (((pgOf (contF D nm) F.idx j1.1).2.1).map intE.f)],vi ((pgOf (contF D nm) F.idx j1.1).2.2)]) [.obj [] (diskP D), .cells false 0 ([.op 0,vs nm,vl (F.idx.map parE.f),vl (F.bits.map byteE.f),vi F.cnt,vs F.low,vs F.high]), .cells false 0 ([vs (⟨#[]⟩),vn .u64 0,vb false,vs (⟨#[]⟩)]), .cells false 0 ([vs k,vn .u64 seq,vb false,vs (⟨#[]⟩)])]) (.tup [.agg [vl (((pgOf (contF D nm) F.idx j1.1).1).map byteE.f),vl (((pgOf (contF D nm) F.idx j1.1).2.1).map intE.f)],vi ((pgOf (contF D nm) F.idx j1.1).2.2)]) [.obj [] (diskP D), .cells false 0 ([.op 0,vs nm,vl (F.idx.map parE.f),vl (F.bits.map byteE.f),vi F.cnt,vs F.low,vs F.high]), .cells false 0 ([vs (⟨#[]⟩),vn .u64 0,vb false,vs (⟨#[]⟩)]), .cells false 0 ([vs k,vn .u64 seq,vb false,vs (⟨#[]⟩)])] (.sp 53 (((pgOf (contF D nm) F.idx j1.1).2.2) != (0:Int)) (
.leaf ⟨[0],[(0,0,none),(1,0,none)]⟩ [] .ret (some ([(0, .tup [.agg [vs (⟨#[]⟩),vn .u64 0,vb false,vs (⟨#[]⟩)],vb false,vi ((pgOf (contF D nm) F.idx j1.1).2.2)])],[.obj [] (diskP D), .cells false 0 ([.op 0,vs nm,vl (F.idx.map parE.f),vl (F.bits.map byteE.f),vi F.cnt,vs F.low,vs F.high])]))) (
.call 58 (gAllP [.agg [vl (((pgOf (contF D nm) F.idx j1.1).1).map byteE.f),vl (((pgOf (contF D nm) F.idx j1.1).2.1).map intE.f)]]=some (vl (((readI ((pgOf (contF D nm) F.idx j1.1).1)).1).map parE.f))) (vl (((readI ((pgOf (contF D nm) F.idx j1.1).1)).1).map parE.f)) (.call 59 (gEnts [vl (((readI ((pgOf (contF D nm) F.idx j1.1).1)).1).map parE.f)]=some (.tup [vl (((entsX ((readI ((pgOf (contF D nm) F.idx j1.1).1)).1)).1).map entE.f),vi ((entsX ((readI ((pgOf (contF D nm) F.idx j1.1).1)).1)).2)])) (.tup [vl (((entsX ((readI ((pgOf (contF D nm) F.idx j1.1).1)).1)).1).map entE.f),vi ((entsX ((readI ((pgOf (contF D nm) F.idx j1.1).1)).1)).2)]) (.sp 63 (((entsX ((readI ((pgOf (contF D nm) F.idx j1.1).1)).1)).2) != (0:Int)) (
.leaf ⟨[0],[(0,0,none),(1,0,none)]⟩ [] .ret (some ([(0, .tup [.agg [vs (⟨#[]⟩),vn .u64 0,vb false,vs (⟨#[]⟩)],vb false,vi ((entsX ((readI ((pgOf (contF D nm) F.idx j1.1).1)).1)).2)])],[.obj [] (diskP D), .cells false 0 ([.op 0,vs nm,vl (F.idx.map parE.f),vl (F.bits.map byteE.f),vi F.cnt,vs F.low,vs F.high])]))) (
.callr (some 68) (ΔN1 73 [vl (((entsX ((readI ((pgOf (contF D nm) F.idx j1.1).1)).1)).1).map entE.f), .fn 74 [.ptr 3 0 0]] [.obj [] (diskP D), .cells false 0 ([.op 0,vs nm,vl (F.idx.map parE.f),vl (F.bits.map byteE.f),vi F.cnt,vs F.low,vs F.high]), .cells false 0 ([vs (⟨#[]⟩),vn .u64 0,vb false,vs (⟨#[]⟩)]), .cells false 0 ([vs k,vn .u64 seq,vb false,vs (⟨#[]⟩)]), .cells false 0 ([vl (((pgOf (contF D nm) F.idx j1.1).1).map byteE.f),vl (((pgOf (contF D nm) F.idx j1.1).2.1).map intE.f)])] (vi (idxE ((entsX ((readI ((pgOf (contF D nm) F.idx j1.1).1)).1)).1) (⟨k,seq,false,(⟨#[]⟩:ByteArray)⟩:Ent))) [.obj [] (diskP D), .cells false 0 ([.op 0,vs nm,vl (F.idx.map parE.f),vl (F.bits.map byteE.f),vi F.cnt,vs F.low,vs F.high]), .cells false 0 ([vs (⟨#[]⟩),vn .u64 0,vb false,vs (⟨#[]⟩)]), .cells false 0 ([vs k,vn .u64 seq,vb false,vs (⟨#[]⟩)]), .cells false 0 ([vl (((pgOf (contF D nm) F.idx j1.1).1).map byteE.f),vl (((pgOf (contF D nm) F.idx j1.1).2.1).map intE.f)])]) (vi (idxE ((entsX ((readI ((pgOf (contF D nm) F.idx j1.1).1)).1)).1) (⟨k,seq,false,(⟨#[]⟩:ByteArray)⟩:Ent))) [.obj [] (diskP D), .cells false 0 ([.op 0,vs nm,vl (F.idx.map parE.f),vl (F.bits.map byteE.f),vi F.cnt,vs F.low,vs F.high]), .cells false 0 ([vs (⟨#[]⟩),vn .u64 0,vb false,vs (⟨#[]⟩)]), .cells false 0 ([vs k,vn .u64 seq,vb false,vs (⟨#[]⟩)]), .cells false 0 ([vl (((pgOf (contF D nm) F.idx j1.1).1).map byteE.f),vl (((pgOf (contF D nm) F.idx j1.1).2.1).map intE.f)])] (.sp 70 (decide ((idxE ((entsX ((readI ((pgOf (contF D nm) F.idx j1.1).1)).1)).1) (⟨k,seq,false,(⟨#[]⟩:ByteArray)⟩:Ent))<(0:Int))) (
.join ⟨[6,13,14,79],[(0,0,none),(1,0,none),(2,0,none)]⟩ [] (some (TFGet_j2_e D nm F ((entsX ((readI ((pgOf (contF D nm) F.idx j1.1).1)).1)).1,(idxE ((entsX ((readI ((pgOf (contF D nm) F.idx j1.1).1)).1)).1) (⟨k,seq,false,(⟨#[]⟩:ByteArray)⟩:Ent)),true))) (TFGet_j2_e D nm F) ((entsX ((readI ((pgOf (contF D nm) F.idx j1.1).1)).1)).1,(idxE ((entsX ((readI ((pgOf (contF D nm) F.idx j1.1).1)).1)).1) (⟨k,seq,false,(⟨#[]⟩:ByteArray)⟩:Ent)),true) (TFGet_j2 D nm F)) (
.elem 74 (((entsX ((readI ((pgOf (contF D nm) F.idx j1.1).1)).1)).1).map entE.f) entE ((entsX ((readI ((pgOf (contF D nm) F.idx j1.1).1)).1)).1) (idxE ((entsX ((readI ((pgOf (contF D nm) F.idx j1.1).1)).1)).1) (⟨k,seq,false,(⟨#[]⟩:ByteArray)⟩:Ent)) (fun e2=> .sp 78 (!(e2.key.toList == k.toList)) (
.join ⟨[6,13,14,79],[(0,0,none),(1,0,none),(2,0,none)]⟩ [] (some (TFGet_j2_e D nm F ((entsX ((readI ((pgOf (contF D nm) F.idx j1.1).1)).1)).1,(idxE ((entsX ((readI ((pgOf (contF D nm) F.idx j1.1).1)).1)).1) (⟨k,seq,false,(⟨#[]⟩:ByteArray)⟩:Ent)),true))) (TFGet_j2_e D nm F) ((entsX ((readI ((pgOf (contF D nm) F.idx j1.1).1)).1)).1,(idxE ((entsX ((readI ((pgOf (contF D nm) F.idx j1.1).1)).1)).1) (⟨k,seq,false,(⟨#[]⟩:ByteArray)⟩:Ent)),true) (TFGet_j2 D nm F)) (
.join ⟨[6,13,14,79],[(0,0,none),(1,0,none),(2,0,none)]⟩ [] (some (TFGet_j2_e D nm F ((entsX ((readI ((pgOf (contF D nm) F.idx j1.1).1)).1)).1,(idxE ((entsX ((readI ((pgOf (contF D nm) F.idx j1.1).1)).1)).1) (⟨k,seq,false,(⟨#[]⟩:ByteArray)⟩:Ent)),false))) (TFGet_j2_e D nm F) ((entsX ((readI ((pgOf (contF D nm) F.idx j1.1).1)).1)).1,(idxE ((entsX ((readI ((pgOf (contF D nm) F.idx j1.1).1)).1)).1) (⟨k,seq,false,(⟨#[]⟩:ByteArray)⟩:Ent)),false) (TFGet_j2 D nm F)))))))))))
noncomputable def TFGet (D:Dsk) (nm:ByteArray) (F:FileR) (k:ByteArray) (seq:Int):Tree:=
.callr (some 23) (ΔN1 43 [.ptr 1 0 0, .agg [vs k,vn .u64 seq,vb false,vs (⟨#[]⟩)]] [.obj [] (diskP D), .cells false 0 ([.op 0,vs nm,vl (F.idx.map parE.f),vl (F.bits.map byteE.f),vi F.cnt,vs F.low,vs F.high]), .cells false 0 ([vs (⟨#[]⟩),vn .u64 0,vb false,vs (⟨#[]⟩)]), .cells false 0 ([vs k,vn .u64 seq,vb false,vs (⟨#[]⟩)])] (vi ((findI F.idx (⟨k,seq,false,(⟨#[]⟩:ByteArray)⟩:Ent):Nat):Int)) [.obj [] (diskP D), .cells false 0 ([.op 0,vs nm,vl (F.idx.map parE.f),vl (F.bits.map byteE.f),vi F.cnt,vs F.low,vs F.high]), .cells false 0 ([vs (⟨#[]⟩),vn .u64 0,vb false,vs (⟨#[]⟩)]), .cells false 0 ([vs k,vn .u64 seq,vb false,vs (⟨#[]⟩)])]) (vi ((findI F.idx (⟨k,seq,false,(⟨#[]⟩:ByteArray)⟩:Ent):Nat):Int)) [.obj [] (diskP D), .cells false 0 ([.op 0,vs nm,vl (F.idx.map parE.f),vl (F.bits.map byteE.f),vi F.cnt,vs F.low,vs F.high]), .cells false 0 ([vs (⟨#[]⟩),vn .u64 0,vb false,vs (⟨#[]⟩)]), .cells false 0 ([vs k,vn .u64 seq,vb false,vs (⟨#[]⟩)])] (.call 25 (gChkE [.agg [vs k,vn .u64 seq,vb false,vs (⟨#[]⟩)]]=some (vi (chkE (⟨k,seq,false,(⟨#[]⟩:ByteArray)⟩:Ent)))) (vi (chkE (⟨k,seq,false,(⟨#[]⟩:ByteArray)⟩:Ent))) (.sp 26 ((chkE (⟨k,seq,false,(⟨#[]⟩:ByteArray)⟩:Ent)) != (0:Int)) (
.join ⟨[0,1,6,9,10,44],[(0,0,none),(1,0,none),(2,0,none),(3,0,none)]⟩ [] (some (TFGet_j1_e D nm F k seq (((findI F.idx (⟨k,seq,false,(⟨#[]⟩:ByteArray)⟩:Ent):Nat):Int),true))) (TFGet_j1_e D nm F k seq) (((findI F.idx (⟨k,seq,false,(⟨#[]⟩:ByteArray)⟩:Ent):Nat):Int),true) (TFGet_j1 D nm F k seq)) (
.call 33 (gMay [.agg [vl (F.bits.map byteE.f)],vs k]=some (vb (mayI F.bits k))) (vb (mayI F.bits k)) (.sp 33 (mayI F.bits k) (
.int 42 ((F.idx.map parE.f).length:Int) (F.idx.length:Int) (.sp 43 (((findI F.idx (⟨k,seq,false,(⟨#[]⟩:ByteArray)⟩:Ent):Nat):Int) == (F.idx.length:Int)) (
.join ⟨[0,1,6,9,10,44],[(0,0,none),(1,0,none),(2,0,none),(3,0,none)]⟩ [] (some (TFGet_j1_e D nm F k seq (((findI F.idx (⟨k,seq,false,(⟨#[]⟩:ByteArray)⟩:Ent):Nat):Int),true))) (TFGet_j1_e D nm F k seq) (((findI F.idx (⟨k,seq,false,(⟨#[]⟩:ByteArray)⟩:Ent):Nat):Int),true) (TFGet_j1 D nm F k seq)) (
.join ⟨[0,1,6,9,10,44],[(0,0,none),(1,0,none),(2,0,none),(3,0,none)]⟩ [] (some (TFGet_j1_e D nm F k seq (((findI F.idx (⟨k,seq,false,(⟨#[]⟩:ByteArray)⟩:Ent):Nat):Int),false))) (TFGet_j1_e D nm F k seq) (((findI F.idx (⟨k,seq,false,(⟨#[]⟩:ByteArray)⟩:Ent):Nat):Int),false) (TFGet_j1 D nm F k seq)))) (
.join ⟨[0,1,6,9,10,44],[(0,0,none),(1,0,none),(2,0,none),(3,0,none)]⟩ [] (some (TFGet_j1_e D nm F k seq (((findI F.idx (⟨k,seq,false,(⟨#[]⟩:ByteArray)⟩:Ent):Nat):Int),true))) (TFGet_j1_e D nm F k seq) (((findI F.idx (⟨k,seq,false,(⟨#[]⟩:ByteArray)⟩:Ent):Nat):Int),true) (TFGet_j1 D nm F k seq))))))

theorem TFGet_chk (D:Dsk) (nm:ByteArray) (F:FileR) (k:ByteArray) (seq:Int):fnC DP ΓN1 ΔN1 Tryd.f34 [.ptr 1 0 0,vs k,vn .u64 seq] [.obj [] (diskP D), .cells false 0 ([.op 0,vs nm,vl (F.idx.map parE.f),vl (F.bits.map byteE.f),vi F.cnt,vs F.low,vs F.high])] (TFGet D nm F k seq)=TFGet D nm F k seq:=by kernel_rfl

noncomputable def TNGet (k:ByteArray) (seq:Int):Tree:=
.leaf ⟨[0],[]⟩ [] .ret (some ([(0, .tup [.agg [vs (⟨#[]⟩),vn .u64 0,vb false,vs (⟨#[]⟩)],vb false,vi 1])],[]))

theorem TNGet_chk (k:ByteArray) (seq:Int):fnC DP Γ0 Δ0 Tryd.f34 [.p (.v (.pointer none)),vs k,vn .u64 seq] [] (TNGet k seq)=TNGet k seq:=by kernel_rfl

noncomputable def TFPages (D:Dsk) (nm:ByteArray) (F:FileR):Tree:=
.int 9 ((F.idx.map parE.f).length:Int) (F.idx.length:Int) (.leaf ⟨[0],[(0,0,none),(1,0,none)]⟩ [] .ret (some ([(0,vi (F.idx.length:Int))],[.obj [] (diskP D), .cells false 0 ([.op 0,vs nm,vl (F.idx.map parE.f),vl (F.bits.map byteE.f),vi F.cnt,vs F.low,vs F.high])])))

theorem TFPages_chk (D:Dsk) (nm:ByteArray) (F:FileR):fnC DP Γ0 Δ0 Tryd.f36 [.ptr 1 0 0] [.obj [] (diskP D), .cells false 0 ([.op 0,vs nm,vl (F.idx.map parE.f),vl (F.bits.map byteE.f),vi F.cnt,vs F.low,vs F.high])] (TFPages D nm F)=TFPages D nm F:=by kernel_rfl

noncomputable def TNPages:Tree:=
.leaf ⟨[0],[]⟩ [] .ret (some ([(0,vi 0)],[]))

theorem TNPages_chk:fnC DP Γ0 Δ0 Tryd.f36 [.p (.v (.pointer none))] [] (TNPages)=TNPages:=by kernel_rfl

end Go.Ax
