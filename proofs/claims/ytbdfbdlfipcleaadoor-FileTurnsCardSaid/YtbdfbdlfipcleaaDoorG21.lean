/- A live row handed over for good; calls at any place of the boxes. -/
import Derived.Test.YtbdfbdlfipcleaaDoorG20
set_option linter.unusedVariables false
set_option linter.unusedSimpArgs false
set_option linter.unusedSectionVars false
namespace Go.Ax
open Go.RowKit
section
variable [Glob] {P : Program}

def sealR (R:RSpec):RSpec:=fun args B r B'=>∃ (i k v:Nat) (α:Type) (E:Enc α) (L:List α),B[k]? = some (.cells true v (rowC (L.map E.f)))∧args[i]? = some (.rs k v E.sz 0 L.length)∧R (args.set i (vl (L.map E.f))) (B.set k .dead) r B'

theorem SoundR.shutRow {f:Nat} {R:RSpec} (h:SoundR P f R):SoundR P f (sealR R):=by
 rintro args B r B' ⟨i,b,v,α,E,L,hb,hi,hR⟩ F ρ w us hI hA
 have hget:∀ (b':Nat) (row:Bool) (v':Nat) (cs':List AV),(B.set b Box.dead)[b']? = some (.cells row v' cs')→b'≠b∧B[b']? = some (.cells row v' cs'):=by
  intro b' row v' cs' hc
  rw[List.getElem?_set] at hc
  split at hc
  ·split at hc <;> cases hc
  ·rename_i e'
   exact ⟨fun h=>e' h.symm,hc⟩
 obtain ⟨hown,hE2⟩:=retell_ext (F:=F) (B:=B) (B':=B.set b Box.dead) (ρ:=ρ) (w:=w) (by simp) (fun b' row' v' cs' hc=>⟨cs',(hget b' row' v' cs' hc).2,rfl⟩) (fun j cs Φ h=>obj_set (fun _ _ e=>by cases e) h)
 have hI2:=retell (B':=B.set b Box.dead) hI (fun b' row' v' cs' hc=>by
  obtain ⟨_,h3⟩:=hget b' row' v' cs' hc
  exact ⟨cs',h3,rfl,hI.leaf _ _ _ _ h3,fun j c' hc'=>⟨c',hc',fun u hu=>hu.ext hE2⟩⟩) (fun j cs Φ h=>obj_set (fun _ _ e=>by cases e) h) hE2
 have hA2:ArgsRel F (B.set b Box.dead) ρ w (args.set i (vl (L.map E.f))) us:=by
  refine ⟨by rw[List.length_set]; exact hA.1,fun j p u hp hu=>?_⟩
  rw[List.getElem?_set] at hp
  split at hp
  ·rename_i e
   subst e
   split at hp
   ·cases hp
    have hv:=hA.2 i _ u hi hu
    refine Sealed.vrel (S:=fun k=>k=b) hI (E.elt.sealed (S:=fun k=>k=b) rfl hb) hv hown fun b0 row0 v0 cs0 k o hS hB hρ=>?_
    subst hS
    rintro (hF | ⟨b3,x3,l3,g1,g2,g3⟩)
    ·exact hI.farb b0 row0 v0 cs0 k o hB hρ hF
    ·rw[List.getElem?_set] at g1
     split at g1
     ·split at g1
      ·cases g1; exact g3.elim
      ·cases g1
     ·rename_i e2
      exact e2 (hI.injx b0 b3 _ _ (k,o) l3 k hB g1 hρ g2 rfl g3)
   ·cases hp
  ·exact (hA.2 j p u hp hu).ext hE2
 exact (h _ _ _ _ hR F ρ w us hI2 hA2).mono fun e w' hp=>by
  obtain ⟨x,ρ2,rfl,q1,q2,q3⟩:=hp
  exact ⟨x,ρ2,rfl,q1,hE2.trans q2,q3⟩

def isPl:AV→Bool
 | .p _=>true
 | _=>false
theorem isPl_id:∀ {al:List AV},al.all isPl=true→∀ f d,AV.rv.rvL f d al=al
 | [],_,_,_=>rfl
 | a::al,h,f,d=>by
  simp only[List.all_cons,Bool.and_eq_true] at h
  rw[AV.rv.rvL,isPl_id h.2]
  cases a <;> first | rfl | cases h.1
theorem isPl_low:∀ {al:List AV},al.all isPl=true→∀ n,AV.low.allLow n al=true
 | [],_,_=>rfl
 | a::al,h,n=>by
  simp only[List.all_cons,Bool.and_eq_true] at h
  rw[AV.low.allLow,isPl_low h.2]
  cases a <;> first | rfl | cases h.1

theorem lift_obj {R:RSpec} {al:List AV} {y:AV} {Φ Φ1:ObjP} {B:List Box} {b:Nat} (h:R (.op 0::al) [.obj [] Φ] y [.obj [] Φ1]) (hb:B[b]? = some (.obj [] Φ)) (hal:al.all isPl=true) (hl:y.low 0=true):
  liftR R (.op b::al) B y (B.set b (.obj [] Φ1)):=by
 have hlt:b<B.length:=(List.getElem?_eq_some_iff.1 hb).1
 have hy:∀ f d,y.rv f d=y:=fun f d=>rv_low (n:=0) (fun j hj=>by omega) (fun j hj=>by omega) hl
 have hy1:∀ {y:AV},y.low 0=true→y.low 1=true:=fun {y} h=>low_mono h
 refine ⟨_,_,_,_,h,⟨[b],[0],[.obj [] Φ],[.obj [] Φ1],[],?_,?_,?_,?_,⟨.objs rfl rfl,trivial⟩,⟨.objs rfl rfl,trivial⟩,?_,(hy _ _).symm,hy1 hl⟩⟩
 ·simp[noDup,Nat.blt_eq,hlt]
 ·simp[hb]
 ·rw[AV.rv.rvL,isPl_id hal]; rfl
 ·rw[AV.low.allLow,isPl_low hal]; rfl
 ·simp[outB]

theorem lift_objrow {R:RSpec} {al:List AV} {sz n:Nat} {e:PV} {Φ Φ1:ObjP} {B:List Box} {b:Nat} {xs:List PV} (h:R (.op 0::al) [.obj [] Φ] (.tup [.rs 1 0 sz 0 n, .p e]) [.obj [] Φ1, .cells true 0 (rowC xs)]) (hb:B[b]? = some (.obj [] Φ)) (hal:al.all isPl=true):
  liftR R (.op b::al) B (.tup [.rs B.length 0 sz 0 n, .p e]) (B.set b (.obj [] Φ1)++ [.cells true 0 (rowC xs)]):=by
 have hlt:b<B.length:=(List.getElem?_eq_some_iff.1 hb).1
 refine ⟨_,_,_,_,h,⟨[b],[0],[.obj [] Φ],[.obj [] Φ1],[.cells true 0 (rowC xs)],?_,?_,?_,?_,⟨.objs rfl rfl,trivial⟩,⟨.objs rfl rfl, .row true 0 xs,trivial⟩,?_,rfl,rfl⟩⟩
 ·simp[noDup,Nat.blt_eq,hlt]
 ·simp[hb]
 ·rw[AV.rv.rvL,isPl_id hal]; rfl
 ·rw[AV.low.allLow,isPl_low hal]; rfl
 ·simp[outB]

theorem lift_new {R:RSpec} {al:List AV} {Φ:ObjP} {B:List Box} (h:R al [] (.op 0) [.obj [] Φ]) (hal:al.all isPl=true):liftR R al B (.op B.length) (B++ [.obj [] Φ]):=by
 refine ⟨_,_,_,_,h,⟨[],[],[],[],[.obj [] Φ],rfl,rfl,(isPl_id hal _ _).symm,isPl_low hal _,trivial,⟨.objs rfl rfl,trivial⟩,?_,?_,rfl⟩⟩
 ·simp[outB]
 ·simp[AV.rv,fNew]
end
end Go.Ax

namespace Go.Ax
open Go.Proofs Go.RowKit
set_option maxRecDepth 100000

abbrev iNamed:Nat:=88
noncomputable abbrev nNamed:Func:=Tryd.f88
theorem hfNamed:DP.funcs[iNamed]? = some nNamed:=by kernel_rfl
theorem heNamed:enters DP iNamed=true:=by kernel_rfl
theorem hbNamed:nNamed.body.isSome=true:=by kernel_rfl
theorem hnNamed:nNamed.ntmps=39:=by kernel_rfl
abbrev iFind:Nat:=75
noncomputable abbrev nFind:Func:=Tryd.f75
theorem hfFind:DP.funcs[iFind]? = some nFind:=by kernel_rfl
theorem heFind:enters DP iFind=true:=by kernel_rfl
theorem hbFind:nFind.body.isSome=true:=by kernel_rfl
theorem hnFind:nFind.ntmps=28:=by kernel_rfl
abbrev iStep:Nat:=89
noncomputable abbrev nStep:Func:=Tryd.f89
theorem hfStep:DP.funcs[iStep]? = some nStep:=by kernel_rfl
theorem heStep:enters DP iStep=true:=by kernel_rfl
theorem hbStep:nStep.body.isSome=true:=by kernel_rfl
theorem hnStep:nStep.ntmps=27:=by kernel_rfl
abbrev iNew:Nat:=30
noncomputable abbrev nNew:Func:=Tryd.f30
theorem hfNew:DP.funcs[iNew]? = some nNew:=by kernel_rfl
theorem heNew:enters DP iNew=true:=by kernel_rfl
theorem hbNew:nNew.body.isSome=true:=by kernel_rfl
theorem hnNew:nNew.ntmps=9:=by kernel_rfl
abbrev iCreate:Nat:=60
noncomputable abbrev nCreate:Func:=Tryd.f60
theorem hfCreate:DP.funcs[iCreate]? = some nCreate:=by kernel_rfl
theorem heCreate:enters DP iCreate=true:=by kernel_rfl
theorem hbCreate:nCreate.body.isSome=true:=by kernel_rfl
theorem hnCreate:nCreate.ntmps=38:=by kernel_rfl
abbrev iAppend:Nat:=61
noncomputable abbrev nAppend:Func:=Tryd.f61
theorem hfAppend:DP.funcs[iAppend]? = some nAppend:=by kernel_rfl
theorem heAppend:enters DP iAppend=true:=by kernel_rfl
theorem hbAppend:nAppend.body.isSome=true:=by kernel_rfl
theorem hnAppend:nAppend.ntmps=54:=by kernel_rfl
abbrev iSync:Nat:=62
noncomputable abbrev nSync:Func:=Tryd.f62
theorem hfSync:DP.funcs[iSync]? = some nSync:=by kernel_rfl
theorem heSync:enters DP iSync=true:=by kernel_rfl
theorem hbSync:nSync.body.isSome=true:=by kernel_rfl
theorem hnSync:nSync.ntmps=30:=by kernel_rfl
abbrev iRead:Nat:=90
noncomputable abbrev nRead:Func:=Tryd.f90
theorem hfRead:DP.funcs[iRead]? = some nRead:=by kernel_rfl
theorem heRead:enters DP iRead=true:=by kernel_rfl
theorem hbRead:nRead.body.isSome=true:=by kernel_rfl
theorem hnRead:nRead.ntmps=54:=by kernel_rfl
abbrev iSize:Nat:=63
noncomputable abbrev nSize:Func:=Tryd.f63
theorem hfSize:DP.funcs[iSize]? = some nSize:=by kernel_rfl
theorem heSize:enters DP iSize=true:=by kernel_rfl
theorem hbSize:nSize.body.isSome=true:=by kernel_rfl
theorem hnSize:nSize.ntmps=22:=by kernel_rfl
abbrev iRoom:Nat:=59
noncomputable abbrev nRoom:Func:=Tryd.f59
theorem hfRoom:DP.funcs[iRoom]? = some nRoom:=by kernel_rfl
theorem heRoom:enters DP iRoom=true:=by kernel_rfl
theorem hbRoom:nRoom.body.isSome=true:=by kernel_rfl
theorem hnRoom:nRoom.ntmps=14:=by kernel_rfl
abbrev iDown:Nat:=58
noncomputable abbrev nDown:Func:=Tryd.f58
theorem hfDown:DP.funcs[iDown]? = some nDown:=by kernel_rfl
theorem heDown:enters DP iDown=true:=by kernel_rfl
theorem hbDown:nDown.body.isSome=true:=by kernel_rfl
theorem hnDown:nDown.ntmps=11:=by kernel_rfl
abbrev iSpoil:Nat:=35
noncomputable abbrev nSpoil:Func:=Tryd.f35
theorem hfSpoil:DP.funcs[iSpoil]? = some nSpoil:=by kernel_rfl
theorem heSpoil:enters DP iSpoil=true:=by kernel_rfl
theorem hbSpoil:nSpoil.body.isSome=true:=by kernel_rfl
theorem hnSpoil:nSpoil.ntmps=41:=by kernel_rfl
abbrev tMap:Nat:=109
abbrev tKey:Nat:=9
abbrev tVal:Nat:=133
theorem htMap:DP.underlying tMap=some (.map tKey tVal):=by kernel_rfl
theorem htKey:DP.underlying tKey=some .string:=by kernel_rfl
theorem htVal:zeroV DP tVal=some (.p (.v (.pointer none))):=by kernel_rfl

noncomputable def TNamed_l1_e (nm:ByteArray) (s1:Int):St:=([(0,vs nm),(6, .rs 0 0 1 0 nm.data.toList.length),(7,vi ((nm.data.toList.length:Nat):Int)),(8,vi s1)],[byteE.bx 0 nm.data.toList])
noncomputable def TNamed_l1_x (x1:Unit):AE×St:=(.ret,([(2,vb false)],[]))
noncomputable def TNamed_l1_x' (nm:ByteArray) (y1:Unit):AE×St:=((.exit 0),([(0,vs nm)],[]))
noncomputable def TNamed_l1_b (nm:ByteArray) (s1:Int):Tree:=
.sp 9 (decide (s1<((nm.data.toList.length:Nat):Int))) (
.ridx 10 nm.data.toList.length s1 (.rload 11 (rowC (nm.data.toList.map byteE.f)) (0+Int.toNat s1*1) byteE nm.data.toList s1 0 (fun e1=> .sp 13 (decide ((e1.toNat:Int)<(97:Int))) (
.sp 20 (decide ((e1.toNat:Int)<(48:Int))) (
.sp 28 ((e1.toNat:Int) != (46:Int)) (
.leaf ⟨[2],[]⟩ [] .ret (some (TNamed_l1_x ()).2)) (
.int 30 (IntKind.i64.wrap (s1+1)) (s1+1) (.leaf ⟨[0,6,7,8],[(0,0,some (nm.data.toList.map byteE.f))]⟩ [rowC (nm.data.toList.map byteE.f)] .normal (some (TNamed_l1_e nm (s1+1)))))) (
.sp 23 (decide ((e1.toNat:Int)>(57:Int))) (
.sp 28 ((e1.toNat:Int) != (46:Int)) (
.leaf ⟨[2],[]⟩ [] .ret (some (TNamed_l1_x ()).2)) (
.int 30 (IntKind.i64.wrap (s1+1)) (s1+1) (.leaf ⟨[0,6,7,8],[(0,0,some (nm.data.toList.map byteE.f))]⟩ [rowC (nm.data.toList.map byteE.f)] .normal (some (TNamed_l1_e nm (s1+1)))))) (
.int 30 (IntKind.i64.wrap (s1+1)) (s1+1) (.leaf ⟨[0,6,7,8],[(0,0,some (nm.data.toList.map byteE.f))]⟩ [rowC (nm.data.toList.map byteE.f)] .normal (some (TNamed_l1_e nm (s1+1))))))) (
.sp 16 (decide ((e1.toNat:Int)>(122:Int))) (
.sp 20 (decide ((e1.toNat:Int)<(48:Int))) (
.sp 28 ((e1.toNat:Int) != (46:Int)) (
.leaf ⟨[2],[]⟩ [] .ret (some (TNamed_l1_x ()).2)) (
.int 30 (IntKind.i64.wrap (s1+1)) (s1+1) (.leaf ⟨[0,6,7,8],[(0,0,some (nm.data.toList.map byteE.f))]⟩ [rowC (nm.data.toList.map byteE.f)] .normal (some (TNamed_l1_e nm (s1+1)))))) (
.sp 23 (decide ((e1.toNat:Int)>(57:Int))) (
.sp 28 ((e1.toNat:Int) != (46:Int)) (
.leaf ⟨[2],[]⟩ [] .ret (some (TNamed_l1_x ()).2)) (
.int 30 (IntKind.i64.wrap (s1+1)) (s1+1) (.leaf ⟨[0,6,7,8],[(0,0,some (nm.data.toList.map byteE.f))]⟩ [rowC (nm.data.toList.map byteE.f)] .normal (some (TNamed_l1_e nm (s1+1)))))) (
.int 30 (IntKind.i64.wrap (s1+1)) (s1+1) (.leaf ⟨[0,6,7,8],[(0,0,some (nm.data.toList.map byteE.f))]⟩ [rowC (nm.data.toList.map byteE.f)] .normal (some (TNamed_l1_e nm (s1+1))))))) (
.int 30 (IntKind.i64.wrap (s1+1)) (s1+1) (.leaf ⟨[0,6,7,8],[(0,0,some (nm.data.toList.map byteE.f))]⟩ [rowC (nm.data.toList.map byteE.f)] .normal (some (TNamed_l1_e nm (s1+1))))))))) (
.leaf ⟨[0],[]⟩ [] (.exit 0) (some (TNamed_l1_x' nm ()).2))
noncomputable def TNamed (nm:ByteArray):Tree:=
.sbyte 6 (.loop ⟨[0,6,7,8],[(0,0,some (nm.data.toList.map byteE.f))]⟩ [rowC (nm.data.toList.map byteE.f)] (some (TNamed_l1_e nm 0)) (TNamed_l1_e nm) (TNamed_l1_x) (TNamed_l1_x' nm) 0 (TNamed_l1_b nm) (fun (x1:Unit)=> .leaf ⟨[0],[]⟩ [] .ret (some ([(0,vb false)],[]))) (fun (y1:Unit)=> .sp 33 (decide ((nm.size:Int)>(0:Int))) (
.leaf ⟨[0],[]⟩ [] .ret (some ([(0,vb (decide ((nm.size:Int)≤(40:Int))))],[]))) (
.leaf ⟨[0],[]⟩ [] .ret (some ([(0,vb false)],[])))))

theorem TNamed_chk (nm:ByteArray):fnC DP Γ0 Δ0 Tryd.f88 [vs nm] [] (TNamed nm)=TNamed nm:=by kernel_rfl

end Go.Ax

namespace Go.Ax
open Go.Proofs Go.RowKit
set_option maxRecDepth 100000

theorem nlen (nm:ByteArray):nm.data.toList.length=nm.size:=by simp

theorem TNamed_l1 (nm:ByteArray) (hN:nm.size≤1000000000):∀ (suf pre:List UInt8),nm.data.toList=pre++suf →
  Rounds (TNamed_l1_e nm) TNamed_l1_x (TNamed_l1_x' nm) (fun s=>(TNamed_l1_b nm s).wp) (pre.length:Int) (if suf.all okChar then .inr () else .inl ())
 | [],pre,h=>by
  have e:nm.data.toList.length=pre.length:=by rw[h]; simp
  rw[if_pos (show ([]:List UInt8).all okChar=true from rfl)]
  refine .done' (by simp[TNamed_l1_x']) ?_
  unfold TNamed_l1_b
  exact wp_sp (fun h=>by have:=of_decide_eq_true h; omega) (fun _=>wp_leaf rfl ⟨rfl,rfl⟩)
 | c::suf,pre,h=>by
  have e:nm.data.toList.length=pre.length+(suf.length+1):=by rw[h]; simp
  have hs:=nlen nm
  have hc:nm.data.toList[Int.toNat (pre.length:Int)]? = some c:=by rw[h]; simp
  cases hok:okChar c with
  | false=>
   rw[if_neg (by simp[hok])]
   refine .done (by simp[TNamed_l1_x]) ?_
   unfold TNamed_l1_b
   refine wp_sp (fun _=>wp_ridx (by omega) (by omega) (wp_rload c (by omega) (by simp[byteE]) hc ?_)) (fun h=>by have:=of_decide_eq_false h; omega)
   repeat' (refine wp_sp (fun _=>?_) (fun _=>?_))
   all_goals first
    | exact wp_leaf rfl ⟨rfl,rfl⟩
    | (exfalso; simp only[okChar,Bool.or_eq_false_iff,Bool.and_eq_false_iff,decide_eq_false_iff_not,decide_eq_true_eq,bne_iff_ne,ne_eq,beq_eq_false_iff_ne,bne_eq_false_iff_eq] at *; omega)
  | true=>
   have ih:=TNamed_l1 nm hN suf (pre++ [c]) (by rw[h]; simp)
   have hlen:((pre++ [c]).length:Int)=(pre.length:Int)+1:=by simp
   have hres:(if (c::suf).all okChar=true then (.inr ():Unit ⊕ Unit) else .inl ())=(if suf.all okChar=true then .inr () else .inl ()):=by rw[List.all_cons,hok,Bool.true_and]
   rw[hres]
   refine .next ?_ ih
   unfold TNamed_l1_b
   refine wp_sp (fun _=>wp_ridx (by omega) (by omega) (wp_rload c (by omega) (by simp[byteE]) hc ?_)) (fun h=>by have:=of_decide_eq_false h; omega)
   repeat' (refine wp_sp (fun _=>?_) (fun _=>?_))
   all_goals first
    | exact wp_i64 (by omega) (wp_leaf rfl ⟨rfl,by rw[hlen]⟩)
    | (exfalso; simp only[okChar,Bool.or_eq_true,Bool.and_eq_true,decide_eq_false_iff_not,decide_eq_true_eq,bne_iff_ne,ne_eq,beq_iff_eq,bne_eq_false_iff_eq] at *; omega)

theorem TNamed_wp (nm:ByteArray) (hN:nm.size≤1000000000) {K:AE→St→Prop} (h:K .ret ([(0,vb (isName nm))],[])):(TNamed nm).wp K:=by
 have l:=TNamed_l1 nm hN nm.data.toList [] rfl
 unfold TNamed
 cases ha:nm.data.toList.all okChar with
 | false=>
  rw[if_neg (by simp[ha])] at l
  refine wp_loop () rfl l ?_
  have:isName nm=false:=by simp[isName,ha]
  rw[this] at h
  exact wp_leaf rfl h
 | true=>
  rw[if_pos ha] at l
  refine wp_loop' () rfl l (wp_sp (fun h1=>?_) (fun h1=>?_))
  ·have h1:=of_decide_eq_true h1
   have:isName nm=decide ((nm.size:Int)≤(40:Int)):=by
    simp only[isName,ha,Bool.true_and]
    rw[decide_eq_true (show 0<nm.size by omega),Bool.true_and]
    congr 1
    simp
    omega
   rw[this] at h
   exact wp_leaf rfl h
  ·have h1:=of_decide_eq_false h1
   have:isName nm=false:=by
    simp only[isName,ha,Bool.true_and]
    rw[decide_eq_false (show ¬0<nm.size by omega),Bool.false_and]
   rw[this] at h
   exact wp_leaf rfl h

theorem SNamed:SoundF DP iNamed (.pure gNamed):=
 sound_pureT mixedD Γ0_ok Δ0_ok hfNamed heNamed hbNamed (fun args r ⟨nm,hN,h1,h2⟩=>by
  subst h1 h2
  exact ⟨by rw[hnNamed]; rfl,rfl,_,TNamed_chk nm,TNamed_wp nm hN (.p _)⟩)

end Go.Ax

namespace Go.Ax
open Go.Proofs Go.RowKit
set_option maxRecDepth 100000

noncomputable def TFind_d (ro:Int) (us:Int) (fu:Int) (hid:List (Value×Value)) (nm:ByteArray):Tree:=
.leaf ⟨[0],[(0,0,none),(1,0,none)]⟩ [] .ret (some ([(0, .tup [.p (.v (.pointer none)),vi 10])],[.cells false 0 ([vi ro,vi us, .mp 1,vb true,vi fu]), .obj [] (mapP [] hid)]))

theorem TFind_d_chk (ro:Int) (us:Int) (fu:Int) (hid:List (Value×Value)) (nm:ByteArray):fnC DP Γ0 Δ0 Tryd.f75 [.ptr 0 0 0,vs nm] [.cells false 0 ([vi ro,vi us, .mp 1,vb true,vi fu]), .obj [] (mapP [] hid)] (TFind_d ro us fu hid nm)=TFind_d ro us fu hid nm:=by kernel_rfl

noncomputable def TFind_a (ro:Int) (us:Int) (fu:Int) (hid:List (Value×Value)) (nm:ByteArray):Tree:=
.val (some 22) (LookE DP 109 [.cells false 0 ([vi ro,vi us, .mp 1,vb false,vi fu]), .obj [] (mapP [] hid)] (.mp 1) (vs nm) (.tup [.p (.v (.pointer none)),vb false])) (.tup [.p (.v (.pointer none)),vb false]) [.cells false 0 ([vi ro,vi us, .mp 1,vb false,vi fu]), .obj [] (mapP [] hid)] (.leaf ⟨[0],[(0,0,none),(1,0,none)]⟩ [] .ret (some ([(0, .tup [.p (.v (.pointer none)),vi 4])],[.cells false 0 ([vi ro,vi us, .mp 1,vb false,vi fu]), .obj [] (mapP [] hid)])))

theorem TFind_a_chk (ro:Int) (us:Int) (fu:Int) (hid:List (Value×Value)) (nm:ByteArray):fnC DP Γ0 Δ0 Tryd.f75 [.ptr 0 0 0,vs nm] [.cells false 0 ([vi ro,vi us, .mp 1,vb false,vi fu]), .obj [] (mapP [] hid)] (TFind_a ro us fu hid nm)=TFind_a ro us fu hid nm:=by kernel_rfl

noncomputable def TFind_p (ro:Int) (us:Int) (fu:Int) (hid:List (Value×Value)) (L:List UInt8) (su:Int) (nm:ByteArray):Tree:=
.val (some 22) (LookE DP 109 [.cells false 0 ([vi ro,vi us, .mp 1,vb false,vi fu]), .obj [.ptr 2 0 0] (mapP [.string nm] hid), .cells false 0 ([.rs 3 0 1 0 L.length,vi su]),byteE.bx 0 L] (.mp 1) (vs nm) (.tup [.ptr 2 0 0,vb true])) (.tup [.ptr 2 0 0,vb true]) [.cells false 0 ([vi ro,vi us, .mp 1,vb false,vi fu]), .obj [.ptr 2 0 0] (mapP [.string nm] hid), .cells false 0 ([.rs 3 0 1 0 L.length,vi su]),byteE.bx 0 L] (.leaf ⟨[0],[(0,0,none),(1,0,none),(2,0,none),(3,0,some (L.map byteE.f))]⟩ [rowC (L.map byteE.f)] .ret (some ([(0, .tup [.ptr 2 0 0,vi 0])],[.cells false 0 ([vi ro,vi us, .mp 1,vb false,vi fu]), .obj [.ptr 2 0 0] (mapP [.string nm] hid), .cells false 0 ([.rs 3 0 1 0 L.length,vi su]),byteE.bx 0 L])))

theorem TFind_p_chk (ro:Int) (us:Int) (fu:Int) (hid:List (Value×Value)) (L:List UInt8) (su:Int) (nm:ByteArray):fnC DP Γ0 Δ0 Tryd.f75 [.ptr 0 0 0,vs nm] [.cells false 0 ([vi ro,vi us, .mp 1,vb false,vi fu]), .obj [.ptr 2 0 0] (mapP [.string nm] hid), .cells false 0 ([.rs 3 0 1 0 L.length,vi su]),byteE.bx 0 L] (TFind_p ro us fu hid L su nm)=TFind_p ro us fu hid L su nm:=by kernel_rfl

noncomputable def TFind_q (ro:Int) (us:Int) (fu:Int) (hid:List (Value×Value)) (L:List UInt8) (su:Int) (M:List UInt8) (sv:Int) (nn:ByteArray) (nm:ByteArray):Tree:=
.val (some 22) (LookE DP 109 [.cells false 0 ([vi ro,vi us, .mp 1,vb false,vi fu]), .obj [.ptr 2 0 0, .ptr 4 0 0] (mapP [.string nm, .string nn] hid), .cells false 0 ([.rs 3 0 1 0 L.length,vi su]),byteE.bx 0 L, .cells false 0 ([.rs 5 0 1 0 M.length,vi sv]),byteE.bx 0 M] (.mp 1) (vs nm) (.tup [.ptr 2 0 0,vb true])) (.tup [.ptr 2 0 0,vb true]) [.cells false 0 ([vi ro,vi us, .mp 1,vb false,vi fu]), .obj [.ptr 2 0 0, .ptr 4 0 0] (mapP [.string nm, .string nn] hid), .cells false 0 ([.rs 3 0 1 0 L.length,vi su]),byteE.bx 0 L, .cells false 0 ([.rs 5 0 1 0 M.length,vi sv]),byteE.bx 0 M] (.leaf ⟨[0],[(0,0,none),(1,0,none),(2,0,none),(3,0,some (L.map byteE.f)),(4,0,none),(5,0,some (M.map byteE.f))]⟩ [rowC (L.map byteE.f),rowC (M.map byteE.f)] .ret (some ([(0, .tup [.ptr 2 0 0,vi 0])],[.cells false 0 ([vi ro,vi us, .mp 1,vb false,vi fu]), .obj [.ptr 2 0 0, .ptr 4 0 0] (mapP [.string nm, .string nn] hid), .cells false 0 ([.rs 3 0 1 0 L.length,vi su]),byteE.bx 0 L, .cells false 0 ([.rs 5 0 1 0 M.length,vi sv]),byteE.bx 0 M])))

theorem TFind_q_chk (ro:Int) (us:Int) (fu:Int) (hid:List (Value×Value)) (L:List UInt8) (su:Int) (M:List UInt8) (sv:Int) (nn:ByteArray) (nm:ByteArray):fnC DP Γ0 Δ0 Tryd.f75 [.ptr 0 0 0,vs nm] [.cells false 0 ([vi ro,vi us, .mp 1,vb false,vi fu]), .obj [.ptr 2 0 0, .ptr 4 0 0] (mapP [.string nm, .string nn] hid), .cells false 0 ([.rs 3 0 1 0 L.length,vi su]),byteE.bx 0 L, .cells false 0 ([.rs 5 0 1 0 M.length,vi sv]),byteE.bx 0 M] (TFind_q ro us fu hid L su M sv nn nm)=TFind_q ro us fu hid L su M sv nn nm:=by kernel_rfl

noncomputable def TStep_a (ro:Int) (us:Int) (fu:Int) (hid:List (Value×Value)):Tree:=
.sp 7 (decide (fu>(0:Int))) (
.int 12 (IntKind.i64.wrap (fu - 1)) (fu - 1) (.sp 26 ((fu - 1) == (0:Int)) (
.leaf ⟨[0],[(0,0,none),(1,0,none)]⟩ [] .ret (some ([(0,vi 10)],[.cells false 0 ([vi ro,vi us, .mp 1,vb ((fu - 1) == (0:Int)),vi (fu - 1)]), .obj [] (mapP [] hid)]))) (
.leaf ⟨[0],[(0,0,none),(1,0,none)]⟩ [] .ret (some ([(0,vi 0)],[.cells false 0 ([vi ro,vi us, .mp 1,vb ((fu - 1) == (0:Int)),vi (fu - 1)]), .obj [] (mapP [] hid)]))))) (
.leaf ⟨[0],[(0,0,none),(1,0,none)]⟩ [] .ret (some ([(0,vi 0)],[.cells false 0 ([vi ro,vi us, .mp 1,vb false,vi fu]), .obj [] (mapP [] hid)])))

theorem TStep_a_chk (ro:Int) (us:Int) (fu:Int) (hid:List (Value×Value)):fnC DP Γ0 Δ0 Tryd.f89 [.ptr 0 0 0] [.cells false 0 ([vi ro,vi us, .mp 1,vb false,vi fu]), .obj [] (mapP [] hid)] (TStep_a ro us fu hid)=TStep_a ro us fu hid:=by kernel_rfl

noncomputable def TStep_p (ro:Int) (us:Int) (fu:Int) (hid:List (Value×Value)) (L:List UInt8) (su:Int) (nm:ByteArray):Tree:=
.sp 7 (decide (fu>(0:Int))) (
.int 12 (IntKind.i64.wrap (fu - 1)) (fu - 1) (.sp 26 ((fu - 1) == (0:Int)) (
.leaf ⟨[0],[(0,0,none),(1,0,none),(2,0,none),(3,0,some (L.map byteE.f))]⟩ [rowC (L.map byteE.f)] .ret (some ([(0,vi 10)],[.cells false 0 ([vi ro,vi us, .mp 1,vb ((fu - 1) == (0:Int)),vi (fu - 1)]), .obj [.ptr 2 0 0] (mapP [.string nm] hid), .cells false 0 ([.rs 3 0 1 0 L.length,vi su]),byteE.bx 0 L]))) (
.leaf ⟨[0],[(0,0,none),(1,0,none),(2,0,none),(3,0,some (L.map byteE.f))]⟩ [rowC (L.map byteE.f)] .ret (some ([(0,vi 0)],[.cells false 0 ([vi ro,vi us, .mp 1,vb ((fu - 1) == (0:Int)),vi (fu - 1)]), .obj [.ptr 2 0 0] (mapP [.string nm] hid), .cells false 0 ([.rs 3 0 1 0 L.length,vi su]),byteE.bx 0 L]))))) (
.leaf ⟨[0],[(0,0,none),(1,0,none),(2,0,none),(3,0,some (L.map byteE.f))]⟩ [rowC (L.map byteE.f)] .ret (some ([(0,vi 0)],[.cells false 0 ([vi ro,vi us, .mp 1,vb false,vi fu]), .obj [.ptr 2 0 0] (mapP [.string nm] hid), .cells false 0 ([.rs 3 0 1 0 L.length,vi su]),byteE.bx 0 L])))

theorem TStep_p_chk (ro:Int) (us:Int) (fu:Int) (hid:List (Value×Value)) (L:List UInt8) (su:Int) (nm:ByteArray):fnC DP Γ0 Δ0 Tryd.f89 [.ptr 0 0 0] [.cells false 0 ([vi ro,vi us, .mp 1,vb false,vi fu]), .obj [.ptr 2 0 0] (mapP [.string nm] hid), .cells false 0 ([.rs 3 0 1 0 L.length,vi su]),byteE.bx 0 L] (TStep_p ro us fu hid L su nm)=TStep_p ro us fu hid L su nm:=by kernel_rfl

noncomputable def TStep_q (ro:Int) (us:Int) (fu:Int) (hid:List (Value×Value)) (L:List UInt8) (su:Int) (M:List UInt8) (sv:Int) (nm:ByteArray) (nn:ByteArray):Tree:=
.sp 7 (decide (fu>(0:Int))) (
.int 12 (IntKind.i64.wrap (fu - 1)) (fu - 1) (.sp 26 ((fu - 1) == (0:Int)) (
.leaf ⟨[0],[(0,0,none),(1,0,none),(2,0,none),(3,0,some (L.map byteE.f)),(4,0,none),(5,0,some (M.map byteE.f))]⟩ [rowC (L.map byteE.f),rowC (M.map byteE.f)] .ret (some ([(0,vi 10)],[.cells false 0 ([vi ro,vi us, .mp 1,vb ((fu - 1) == (0:Int)),vi (fu - 1)]), .obj [.ptr 2 0 0, .ptr 4 0 0] (mapP [.string nm, .string nn] hid), .cells false 0 ([.rs 3 0 1 0 L.length,vi su]),byteE.bx 0 L, .cells false 0 ([.rs 5 0 1 0 M.length,vi sv]),byteE.bx 0 M]))) (
.leaf ⟨[0],[(0,0,none),(1,0,none),(2,0,none),(3,0,some (L.map byteE.f)),(4,0,none),(5,0,some (M.map byteE.f))]⟩ [rowC (L.map byteE.f),rowC (M.map byteE.f)] .ret (some ([(0,vi 0)],[.cells false 0 ([vi ro,vi us, .mp 1,vb ((fu - 1) == (0:Int)),vi (fu - 1)]), .obj [.ptr 2 0 0, .ptr 4 0 0] (mapP [.string nm, .string nn] hid), .cells false 0 ([.rs 3 0 1 0 L.length,vi su]),byteE.bx 0 L, .cells false 0 ([.rs 5 0 1 0 M.length,vi sv]),byteE.bx 0 M]))))) (
.leaf ⟨[0],[(0,0,none),(1,0,none),(2,0,none),(3,0,some (L.map byteE.f)),(4,0,none),(5,0,some (M.map byteE.f))]⟩ [rowC (L.map byteE.f),rowC (M.map byteE.f)] .ret (some ([(0,vi 0)],[.cells false 0 ([vi ro,vi us, .mp 1,vb false,vi fu]), .obj [.ptr 2 0 0, .ptr 4 0 0] (mapP [.string nm, .string nn] hid), .cells false 0 ([.rs 3 0 1 0 L.length,vi su]),byteE.bx 0 L, .cells false 0 ([.rs 5 0 1 0 M.length,vi sv]),byteE.bx 0 M])))

theorem TStep_q_chk (ro:Int) (us:Int) (fu:Int) (hid:List (Value×Value)) (L:List UInt8) (su:Int) (M:List UInt8) (sv:Int) (nm:ByteArray) (nn:ByteArray):fnC DP Γ0 Δ0 Tryd.f89 [.ptr 0 0 0] [.cells false 0 ([vi ro,vi us, .mp 1,vb false,vi fu]), .obj [.ptr 2 0 0, .ptr 4 0 0] (mapP [.string nm, .string nn] hid), .cells false 0 ([.rs 3 0 1 0 L.length,vi su]),byteE.bx 0 L, .cells false 0 ([.rs 5 0 1 0 M.length,vi sv]),byteE.bx 0 M] (TStep_q ro us fu hid L su M sv nm nn)=TStep_q ro us fu hid L su M sv nm nn:=by kernel_rfl

end Go.Ax

namespace Go.Ax
open Go.Proofs Go.RowKit
set_option maxRecDepth 100000

theorem SFind:SoundR DP iFind RFind:=
 sound_genT mixedD Γ0_ok Δ0_ok hfFind heFind hbFind (fun args B r B' h=>by
  cases h with
  | d ro us fu hid nm=>exact ⟨by rw[hnFind]; rfl,_,TFind_d_chk ro us fu hid nm,wp_leaf rfl ⟨rfl,rfl⟩⟩
  | a ro us fu hid hs nm hh hn=>exact ⟨by rw[hnFind]; rfl,_,TFind_a_chk ro us fu hid nm,wp_val (look_no htMap htKey htVal (ns:= []) rfl hh (by simp) hn) (wp_leaf rfl ⟨rfl,rfl⟩)⟩
  | p ro us fu hid hs x hh=>exact ⟨by rw[hnFind]; rfl,_,TFind_p_chk ro us fu hid x.b x.sure x.name,wp_val (look_v0 htMap htKey (ns:= []) rfl hh) (wp_leaf rfl ⟨rfl,rfl⟩)⟩
  | q ro us fu hid hs x y hh=>exact ⟨by rw[hnFind]; rfl,_,TFind_q_chk ro us fu hid x.b x.sure y.b y.sure y.name x.name,wp_val (look_v0 htMap htKey (ns:= [y.name]) rfl hh) (wp_leaf rfl ⟨rfl,rfl⟩)⟩)

theorem step_wp {fu:Int} (hfu:fu<9223372036854775808) {T:Int→Bool→Int→Tree} {K:AE→St→Prop}
  (hT:∀ f d e,f=stF fu→d=stD fu→e=stE fu→(T f d e).wp K):
  (Tree.sp 7 (decide (fu>(0:Int))) (.int 12 (IntKind.i64.wrap (fu - 1)) (fu - 1) (.sp 26 ((fu - 1) == (0:Int)) (T (fu - 1) ((fu - 1) == (0:Int)) 10) (T (fu - 1) ((fu - 1) == (0:Int)) 0))) (T fu false 0)).wp K:=by
 refine wp_sp (fun h=>wp_i64 (by have:=of_decide_eq_true h; omega) (wp_sp (fun h2=>?_) (fun h2=>?_))) (fun h=>?_)
 ·have h:=of_decide_eq_true h
  exact hT _ _ _ (by rw[stF,if_pos h]) (by rw[stD,decide_eq_true h,Bool.true_and]) (by rw[stE,stD,decide_eq_true h,Bool.true_and,h2]; rfl)
 ·have h:=of_decide_eq_true h
  exact hT _ _ _ (by rw[stF,if_pos h]) (by rw[stD,decide_eq_true h,Bool.true_and]) (by rw[stE,stD,decide_eq_true h,Bool.true_and,h2]; rfl)
 ·have h:=of_decide_eq_false h
  exact hT _ _ _ (by rw[stF,if_neg h]) (by rw[stD,decide_eq_false h,Bool.false_and]) (by rw[stE,stD,decide_eq_false h,Bool.false_and]; rfl)

theorem SStep:SoundR DP iStep RStep:=
 sound_genT mixedD Γ0_ok Δ0_ok hfStep heStep hbStep (fun args B r B' h=>by
  cases h with
  | mk ro us fu hid X hX hfu=>
   match X,hX with
   | [],_=>exact ⟨by rw[hnStep]; rfl,_,TStep_a_chk ro us fu hid,step_wp (T:=fun f d e=> .leaf _ [] .ret (some ([(0,vi e)],flatB (dsk ro us f d) [] hid))) hfu (fun f d e h1 h2 h3=>by subst h1 h2 h3; exact wp_leaf rfl ⟨rfl,rfl⟩)⟩
   | [x],_=>exact ⟨by rw[hnStep]; rfl,_,TStep_p_chk ro us fu hid x.b x.sure x.name,step_wp (T:=fun f d e=> .leaf ⟨[0],[(0,0,none),(1,0,none),(2,0,none),(3,0,some (x.b.map byteE.f))]⟩ [rowC (x.b.map byteE.f)] .ret (some ([(0,vi e)],flatB (dsk ro us f d) [x] hid))) hfu (fun f d e h1 h2 h3=>by subst h1 h2 h3; exact wp_leaf rfl ⟨rfl,rfl⟩)⟩
   | [x,y],_=>exact ⟨by rw[hnStep]; rfl,_,TStep_q_chk ro us fu hid x.b x.sure y.b y.sure x.name y.name,step_wp (T:=fun f d e=> .leaf ⟨[0],[(0,0,none),(1,0,none),(2,0,none),(3,0,some (x.b.map byteE.f)),(4,0,none),(5,0,some (y.b.map byteE.f))]⟩ [rowC (x.b.map byteE.f),rowC (y.b.map byteE.f)] .ret (some ([(0,vi e)],flatB (dsk ro us f d) [x,y] hid))) hfu (fun f d e h1 h2 h3=>by subst h1 h2 h3; exact wp_leaf rfl ⟨rfl,rfl⟩)⟩
   | _::_::_::_,h=>exact absurd h (by simp))

noncomputable def ΓF:Env:=fun f=>if f=iNamed then .pure gNamed else .none
theorem ΓF_ok:∀ f,SoundF DP f (ΓF f):=fun f=>by
 unfold ΓF
 split
 ·rename_i e; rw[e]; exact SNamed
 ·exact sound_none f
def ΔF:REnv:=fun f=>if f=iFind then liftR RFind else if f=iStep then liftR RStep else fun _ _ _ _=>False
theorem ΔF_ok:∀ f,SoundR DP f (ΔF f):=fun f=>by
 unfold ΔF
 split
 ·rename_i e; rw[e]; exact lift_sound SFind
 split
 ·rename_i e; rw[e]; exact lift_sound SStep
 ·exact .none f

end Go.Ax
