/- The calls of a law of wal. -/
import Derived.Test.YtjlipmcdnigfcaaDoorG28
import Derived.Test.YtjlipmcdnigfcaaDoorTie
import Derived.Test.YtjlipmcdnigfcaaDoorG10
import Derived.OpenShut
import Derived.WalkKit
import Derived.ProofKit
import Derived.LaidMore
import Derived.LaidLaws
import Derived.LaidHandle
import Derived.Lib.LaidTab
import Derived.Stop.Joined
set_option linter.unusedVariables false
set_option linter.unusedSimpArgs false
set_option linter.unusedSectionVars false
namespace Go.Ax
open Go.Proofs Go.RowKit
set_option maxRecDepth 100000

def begB (got all:List ByteArray) (k:Int):Bool:=decide (k≤(got.length:Int))&&decide (got.length≤all.length)&&decide (got=all.take got.length)

theorem beg_rounds (got all:List ByteArray) (hl:got.length≤all.length) (hg:got.length≤1000000000):∀ (j i:Nat),i+j=got.length →
  (got.drop i=(all.take got.length).drop i∧Rounds (TBeg_l1_e got all) (TBeg_l1_x all) (TBeg_l1_x' all) (fun s=>(TBeg_l1_b got all s).wp) (i:Int) (.inr ())) ∨
  (got.drop i≠(all.take got.length).drop i∧Rounds (TBeg_l1_e got all) (TBeg_l1_x all) (TBeg_l1_x' all) (fun s=>(TBeg_l1_b got all s).wp) (i:Int) (.inl ())):=by
 intro j
 induction j with
 | zero=>
  intro i hi
  refine .inl ⟨by rw[List.drop_of_length_le (by omega),List.drop_of_length_le (by simp; omega)], .done' (by intro e; cases e) ?_⟩
  unfold TBeg_l1_b
  exact wp_sp (fun h=>absurd (of_decide_eq_true h) (by omega)) (fun _=>wp_leaf rfl ⟨rfl,rfl⟩)
 | succ j ih=>
  intro i hi
  have h1:i<got.length:=by omega
  have h2:i<all.length:=by omega
  have e1:got.drop i=got[i]::got.drop (i+1):=List.drop_eq_getElem_cons h1
  have e2:(all.take got.length).drop i=all[i]::(all.take got.length).drop (i+1):=by
   rw[List.drop_eq_getElem_cons (by simp; omega)]; simp
  have hbody:∀ K:AE→St→Prop,(got[i]≠all[i]→K .ret (TBeg_l1_x all ()).2)→(got[i]=all[i]→K .normal (TBeg_l1_e got all ((i+1:Nat):Int)))→(TBeg_l1_b got all (i:Int)).wp K:=by
   intro K k1 k2
   unfold TBeg_l1_b
   refine wp_sp (fun _=>wp_elem got[i] (by omega) (List.getElem?_eq_getElem h1) (wp_ridx (by omega) (by omega) (wp_rload all[i] (by omega) rfl (List.getElem?_eq_getElem h2) (wp_sp (fun h=>wp_leaf rfl (k1 ?_)) (fun h=>wp_i64 (by omega) (wp_leaf rfl ?_)))))) (fun h=>absurd (of_decide_eq_false h) (by omega))
   ·intro e; rw[e] at h; simp at h
   ·have:got[i]=all[i]:=by
     have h3:got[i].toList=all[i].toList:=by simpa using h
     rw[ByteArray.toList_eq,ByteArray.toList_eq] at h3
     exact ByteArray.ext (Array.toList_inj.mp h3)
    exact k2 this
  by_cases he:got[i]=all[i]
  ·rcases ih (i+1) (by omega) with ⟨g1,g2⟩ | ⟨g1,g2⟩
   ·exact .inl ⟨by rw[e1,e2,he,g1], .next (hbody _ (fun h=>absurd he h) (fun _=>⟨rfl,rfl⟩)) g2⟩
   ·exact .inr ⟨by rw[e1,e2,he]; intro h; exact g1 (List.cons.inj h).2, .next (hbody _ (fun h=>absurd he h) (fun _=>⟨rfl,rfl⟩)) g2⟩
  ·exact .inr ⟨by rw[e1,e2]; intro h; exact he (List.cons.inj h).1, .done (by intro e; cases e) (hbody _ (fun _=>⟨rfl,rfl⟩) (fun h=>absurd h he))⟩

def OBeg:RSpec:=fun args B r B'=>∃ (got all:List ByteArray) (k:Int),got.length≤1000000000∧args= [vl (got.map nameE.f), .rs 0 0 1 0 all.length,vi k]∧B= [nameE.bx 0 all]∧r=vb (begB got all k)∧B'=B
theorem SBeg:SoundR DP iBeg OBeg:=sound_genT mixedD Γ0_ok Δ0_ok hfBeg heBeg hbBeg (by
 rintro args B r B' ⟨got,all,k,hg,rfl,rfl,rfl,rfl⟩
 refine ⟨by rw[hnBeg]; rfl,_,TBeg_chk got all k,?_⟩
 unfold TBeg
 refine wp_len (wp_sp (fun h=>wp_leaf rfl ?_) (fun hk=>wp_len (wp_sp (fun h=>wp_leaf rfl ?_) (fun hl=>wp_len ?_))))
 ·have:begB got all k=false:=by unfold begB; rw[decide_eq_false (by have:=of_decide_eq_true h; omega)]; rfl
  rw[this]; exact ⟨rfl,rfl⟩
 ·have:begB got all k=false:=by unfold begB; rw[decide_eq_false (p:=got.length≤all.length) (by have:=of_decide_eq_true h; omega)]; simp
  rw[this]; exact ⟨rfl,rfl⟩
 ·have hk:=of_decide_eq_false hk
  have hl:=of_decide_eq_false hl
  have hb:begB got all k=decide (got=all.take got.length):=by
   unfold begB
   rw[decide_eq_true (by omega),decide_eq_true (by omega)]; rfl
  rcases beg_rounds got all (by omega) hg got.length 0 (by omega) with ⟨g1,g2⟩ | ⟨g1,g2⟩
  ·rw[List.drop_zero,List.drop_zero] at g1
   rw[hb,decide_eq_true g1]
   exact wp_loop' _ rfl g2 (wp_leaf rfl ⟨rfl,rfl⟩)
  ·rw[List.drop_zero,List.drop_zero] at g1
   rw[hb,decide_eq_false g1]
   exact wp_loop _ rfl g2 (wp_leaf rfl ⟨rfl,rfl⟩))
section
variable {R : RSpec} {al : List AV} {B : List Box} {b l : Nat} {D D1 : Dsk} {p g p1 g1 n : Int} {o o1 : Bool} {y : PV} {s : ByteArray}
theorem lift_log (hR:R (.ptr 1 0 0::al) [dkB D,logC 0 p g o] (.p y) [dkB D1,logC 0 p1 g1 o1]) (hb:B[b]? = some (dkB D)) (hl:B[l]? = some (logC b p g o)) (hal:al.all isPl=true):
  liftR R (.ptr l 0 0::al) B (.p y) ((B.set b (dkB D1)).set l (logC b p1 g1 o1)):=by
 have hbl:b<B.length:=(List.getElem?_eq_some_iff.1 hb).1
 have hll:l<B.length:=(List.getElem?_eq_some_iff.1 hl).1
 have hne:b≠l:=fun e=>by rw[e,hl] at hb; cases hb
 refine ⟨_,_,_,_,hR,⟨[b,l],[0,0],[dkB D,logC b p g o],[dkB D1,logC b p1 g1 o1],[],?_,?_,?_,?_,⟨.objs rfl rfl, .cells ?_ ?_ rfl,trivial⟩,⟨.objs rfl rfl, .cells ?_ ?_ rfl,trivial⟩,?_,?_,rfl⟩⟩
 ·have h1:Nat.beq l b=false:=by
   cases h:Nat.beq l b with
   | false=>rfl
   | true=>exact absurd (Nat.eq_of_beq_eq_true h).symm hne
  have h2:Nat.beq b l=false:=by
   cases h:Nat.beq b l with
   | false=>rfl
   | true=>exact absurd (Nat.eq_of_beq_eq_true h) hne
  simp[noDup,Nat.blt_eq,hbl,hll,h1,h2]
 ·simp[hb,hl]
 ·rw[AV.rv.rvL,isPl_id hal]; simp[AV.rv,fNew,dNew]
 ·rw[AV.low.allLow,isPl_low hal]; rfl
 ·simp[dNew]
 ·simp[AV.rv.rvL,AV.rv,fNew]
 ·simp[dNew]
 ·simp[AV.rv.rvL,AV.rv,fNew]
 ·simp[outB]
 ·simp[AV.rv]
theorem oStart (ok:D.Ok) (hd:D.down=false) (hp:0≤p∧p≤1073741824) (hg:0≤g∧g≤67108864) (hn:1≤n∧n≤1073741824∧¬(0<p∧n≤p)) (hs:0<p→(syncD D (wname p)).2=0) (hr:((recB (putI g)).length:Int)≤(syncIf D p).room - (syncIf D p).used)
  (hz:(sizeD (syncIf D p) (wname n)).2≠0) (hc:(createD (syncIf D p) (wname n)).2=0) (ha:(appendD (createD (syncIf D p) (wname n)).1 (wname n) (recB (putI g))).2=0) (hb:B[b]? = some (dkB D)) (hl:B[l]? = some (logC b p g o)):
  liftR OStart [.ptr l 0 0,vi n] B (vi 0) ((B.set b (dkB (startD D p g n))).set l (logC b n (recB (putI g)).length true)):=
 lift_log (R:=OStart) ⟨D,p,g,o,n,ok,hd,hp,hg,by omega,rfl,rfl, .inr ⟨hn,hs,hr,hz,hc,ha,rfl,rfl⟩⟩ hb hl rfl
theorem oAdd (ok:D.Ok) (hp:0≤p∧p≤1073741824) (hg:0≤g∧g≤4611686018427387904) (hs:s.size≤1048576) (hb:B[b]? = some (dkB D)) (hl:B[l]? = some (logC b p g true)):
  liftR OAdd [.ptr l 0 0,vs s] B (vi (appendD D (wname p) (recB s.data.toList)).2) ((B.set b (dkB (appendD D (wname p) (recB s.data.toList)).1)).set l (logC b p (addG D p g s) true)):=
 lift_log (R:=OAdd) ⟨D,p,g,true,s,ok,hp,hg,hs,rfl,rfl, .inr ⟨rfl,rfl,rfl⟩⟩ hb hl rfl
theorem oOpen {out:List ByteArray} (ok:D.Ok) (hd:D.down=false) (hn:1≤n∧n≤1073741824) (hres:openA D n 10 n 0 0 []=some (0,p,g,out)) (hb:B[b]? = some (dkB D)):
  liftR OOpen [.op b,vi n] B (.tup [.ptr B.length 0 0, .rs (B.length+1) 0 1 0 out.length,vi 0]) (B++ [logC b p g false,nameE.bx 0 out]):=by
 have hbl:b<B.length:=(List.getElem?_eq_some_iff.1 hb).1
 refine ⟨_,_,_,_,⟨D,n,ok,hd,by omega,rfl,rfl, .inr ⟨hn,_,hres, .inl ⟨rfl,rfl,rfl⟩⟩⟩,⟨[b],[0],[dkB D],[dkB D],[logC b p g false,nameE.bx 0 out],?_,?_,?_,rfl,⟨.objs rfl rfl,trivial⟩,⟨.objs rfl rfl, .cells ?_ ?_ rfl, .rowv ?_,trivial⟩,?_,?_,rfl⟩⟩
 ·simp[noDup,Nat.blt_eq,hbl]
 ·simp[hb]
 ·simp[AV.rv.rvL,AV.rv,fNew]
 ·simp[dNew]
 ·simp[AV.rv.rvL,AV.rv,fNew]
 ·simp[dNew]
 ·rw[outB,outB,set_same hb]
 ·simp[AV.rv,AV.rv.rvL,fNew,dNew]
end

noncomputable def Γ7h:Env:=envP [(iNameW,gNameW)]
theorem Γ7h_ok:∀ f,SoundF DP f (Γ7h f):=envP_cons SNameW envP_nil
noncomputable def L7:List (Nat×RSpec):= [(iNew,liftR ONew),(iOpen,orR (liftR OOpen) (liftR (NilR fun a r=>∃ n,a= [nilP,vi n]∧r= .tup [nilP,nilS,vi 1]))),
 (iStart,orR (liftR OStart) (liftR (NilR fun a r=>∃ n,a= [nilP,vi n]∧r=vi 1))),(iAdd,orR (liftR OAdd) (liftR (NilR fun a r=>∃ s,a= [nilP,vs s]∧r=vi 1))),
 (iPart,orR (liftR OPart) (liftR (NilR fun a r=>a= [nilP]∧r=vi 0))),(iSizeW,orR (liftR OSizeW) (liftR (NilR fun a r=>a= [nilP]∧r=vi 0))),(iOpened,orR (liftR OOpened) (liftR (NilR fun a r=>a= [nilP]∧r=vb false))),
 (iSyncW,liftR (NilR fun a r=>a= [nilP]∧r=vi 1)),(iBeg,sealR (liftR OBeg)),(iSync,liftR OSync),(iSpoil,liftR OSpoil),(iRoom,liftR ORoom),(iCreate,liftR OCreate),(iAppend,takeR OAppend),(iRead,liftR ORead)]
theorem L7_ok:∀ f,SoundR DP f (envR L7 f):=
 envR_cons (lift_sound SNew)<|envR_cons ((lift_sound SOpen).or (lift_sound SNOpen))<|envR_cons ((lift_sound SStart).or (lift_sound SNStart))<|envR_cons ((lift_sound SAdd).or (lift_sound SNAdd)) <|
 envR_cons ((lift_sound SPart).or (lift_sound SNPart))<|envR_cons ((lift_sound SSizeW).or (lift_sound SNSize))<|envR_cons ((lift_sound SOpened).or (lift_sound SNOpened))<|envR_cons (lift_sound SNSync) <|
 envR_cons (lift_sound SBeg).shutRow<|envR_cons (lift_sound SSync)<|envR_cons (lift_sound SSpoil)<|envR_cons (lift_sound SRoom)<|envR_cons (lift_sound SCreate)<|envR_cons (take_sound SAppend)<|envR_cons (lift_sound SRead)<|envR_nil
noncomputable def Δ7:REnv:=envR L7
theorem Δ7_ok:∀ f,SoundR DP f (Δ7 f):=L7_ok

end Go.Ax

namespace Go.Ax
open Go.Proofs Go.RowKit
set_option maxRecDepth 100000

noncomputable def THeadL (D0:Dsk) (D1:Dsk) (D2:Dsk) (D3:Dsk) (D4:Dsk) (g1:Int) (g2:Int) (g3:Int):Tree:=
.callr (some 8) (Δ7 15 [vi 1000] [] (.op 0) [.obj [] (diskP D0)]) (.op 0) [.obj [] (diskP D0)] (.callr (some 11) (Δ7 16 [.op 0,vi 1] [.obj [] (diskP D0)] (.tup [.ptr 1 0 0, .rs 2 0 1 0 (([]:List ByteArray).length),vi 0]) [.obj [] (diskP D0), .cells false 0 ([.op 0,vi 0,vi 0,vb false]),nameE.bx 0 ([]:List ByteArray)]) (.tup [.ptr 1 0 0, .rs 2 0 1 0 (([]:List ByteArray).length),vi 0]) [.obj [] (diskP D0), .cells false 0 ([.op 0,vi 0,vi 0,vb false]),nameE.bx 0 ([]:List ByteArray)] (.sp 24 (((([]:List ByteArray).length:Nat):Int) != (0:Int)) (
.leaf ⟨[0],[]⟩ [] .ret (some ([(0,vb false)],[]))) (
.callr (some 28) (Δ7 17 [.ptr 1 0 0,vi 1] [.obj [] (diskP D0), .cells false 0 ([.op 0,vi 0,vi 0,vb false]),nameE.bx 0 ([]:List ByteArray)] (vi 0) [.obj [] (diskP D1), .cells false 0 ([.op 0,vi 1,vi g1,vb true]),nameE.bx 0 ([]:List ByteArray)]) (vi 0) [.obj [] (diskP D1), .cells false 0 ([.op 0,vi 1,vi g1,vb true]),nameE.bx 0 ([]:List ByteArray)] (.callr (some 33) (Δ7 19 [.ptr 1 0 0,vs (⟨#[97]⟩)] [.obj [] (diskP D1), .cells false 0 ([.op 0,vi 1,vi g1,vb true]),nameE.bx 0 ([]:List ByteArray)] (vi 0) [.obj [] (diskP D2), .cells false 0 ([.op 0,vi 1,vi g2,vb true]),nameE.bx 0 ([]:List ByteArray)]) (vi 0) [.obj [] (diskP D2), .cells false 0 ([.op 0,vi 1,vi g2,vb true]),nameE.bx 0 ([]:List ByteArray)] (.callr (some 38) (Δ7 19 [.ptr 1 0 0,vs (⟨#[98]⟩)] [.obj [] (diskP D2), .cells false 0 ([.op 0,vi 1,vi g2,vb true]),nameE.bx 0 ([]:List ByteArray)] (vi 0) [.obj [] (diskP D3), .cells false 0 ([.op 0,vi 1,vi g3,vb true]),nameE.bx 0 ([]:List ByteArray)]) (vi 0) [.obj [] (diskP D3), .cells false 0 ([.op 0,vi 1,vi g3,vb true]),nameE.bx 0 ([]:List ByteArray)] (.callr (some 43) (Δ7 54 [.op 0,vs (⟨#[108,111,103,46,49]⟩)] [.obj [] (diskP D3), .cells false 0 ([.op 0,vi 1,vi g3,vb true]),nameE.bx 0 ([]:List ByteArray)] (vi 0) [.obj [] (diskP D4), .cells false 0 ([.op 0,vi 1,vi g3,vb true]),nameE.bx 0 ([]:List ByteArray)]) (vi 0) [.obj [] (diskP D4), .cells false 0 ([.op 0,vi 1,vi g3,vb true]),nameE.bx 0 ([]:List ByteArray)] (.callr (some 48) (Δ7 16 [.op 0,vi 1] [.obj [] (diskP D4), .cells false 0 ([.op 0,vi 1,vi g3,vb true]),nameE.bx 0 ([]:List ByteArray)] (.tup [.ptr 3 0 0, .rs 4 0 1 0 (([(⟨#[97]⟩:ByteArray),(⟨#[98]⟩:ByteArray)]).length),vi 0]) [.obj [] (diskP D4), .cells false 0 ([.op 0,vi 1,vi g3,vb true]),nameE.bx 0 ([]:List ByteArray), .cells false 0 ([.op 0,vi 1,vi g3,vb false]),nameE.bx 0 ([(⟨#[97]⟩:ByteArray),(⟨#[98]⟩:ByteArray)])]) (.tup [.ptr 3 0 0, .rs 4 0 1 0 (([(⟨#[97]⟩:ByteArray),(⟨#[98]⟩:ByteArray)]).length),vi 0]) [.obj [] (diskP D4), .cells false 0 ([.op 0,vi 1,vi g3,vb true]),nameE.bx 0 ([]:List ByteArray), .cells false 0 ([.op 0,vi 1,vi g3,vb false]),nameE.bx 0 ([(⟨#[97]⟩:ByteArray),(⟨#[98]⟩:ByteArray)])] (.sp 57 (((([(⟨#[97]⟩:ByteArray),(⟨#[98]⟩:ByteArray)]).length:Nat):Int) == (2:Int)) (
.ridx 61 (([(⟨#[97]⟩:ByteArray),(⟨#[98]⟩:ByteArray)]).length) 0 (.rload 62 (rowC (([(⟨#[97]⟩:ByteArray),(⟨#[98]⟩:ByteArray)]).map nameE.f)) (0+Int.toNat 0*1) nameE ([(⟨#[97]⟩:ByteArray),(⟨#[98]⟩:ByteArray)]) 0 0 (fun e1=> .sp 63 (e1.toList == (⟨#[97]⟩:ByteArray).toList) (
.ridx 67 (([(⟨#[97]⟩:ByteArray),(⟨#[98]⟩:ByteArray)]).length) 1 (.rload 68 (rowC (([(⟨#[97]⟩:ByteArray),(⟨#[98]⟩:ByteArray)]).map nameE.f)) (0+Int.toNat 1*1) nameE ([(⟨#[97]⟩:ByteArray),(⟨#[98]⟩:ByteArray)]) 1 0 (fun e2=> .sp 69 (e2.toList == (⟨#[98]⟩:ByteArray).toList) (
.call 72 (gNameW [vi 7]=some (vs (wname 7))) (vs (wname 7)) (.leaf ⟨[0],[]⟩ [] .ret (some ([(0,vb ((wname 7).toList == (⟨#[108,111,103,46,55]⟩:ByteArray).toList))],[])))) (
.leaf ⟨[0],[]⟩ [] .ret (some ([(0,vb false)],[])))))) (
.leaf ⟨[0],[]⟩ [] .ret (some ([(0,vb false)],[])))))) (
.leaf ⟨[0],[]⟩ [] .ret (some ([(0,vb false)],[])))))))))))

theorem THeadL_chk (D0:Dsk) (D1:Dsk) (D2:Dsk) (D3:Dsk) (D4:Dsk) (g1:Int) (g2:Int) (g3:Int):fnC DP Γ7h Δ7 Tryd.f14 [] [] (THeadL D0 D1 D2 D3 D4 g1 g2 g3)=THeadL D0 D1 D2 D3 D4 g1 g2 g3:=by kernel_rfl

end Go.Ax

namespace Go.Ax
open Go.Proofs Go.RowKit
set_option maxRecDepth 100000

def Dsk.cont (D:Dsk) (nm:ByteArray):Option (List UInt8):=(D.get nm).map (·.b)
structure Live (D:Dsk):Prop where
 ok:D.Ok
 up:D.down=false
 fu:D.fuse=0

theorem stE0:stE 0=0:=by decide
theorem stepped0 {D:Dsk} (h:Live D):D.stepped.down=false∧D.stepped.fuse=0:=by
 unfold Dsk.stepped
 rw[h.fu]
 exact ⟨(by decide:stD 0=false),(by decide:stF 0=0)⟩
theorem find_ins (x:Fil) (nm:ByteArray):∀ fs:List Fil,x.name ∉ fs.map (·.name)→(insF x fs).find? (fun y=>decide (y.name=nm))=if x.name=nm then some x else fs.find? fun y=>decide (y.name=nm)
 | [],_=>by
  simp only[insF,List.find?_cons,List.find?_nil]
  by_cases h:x.name=nm <;> simp[h]
 | y::r,hx=>by
  simp only[List.map_cons,List.mem_cons,not_or] at hx
  unfold insF
  split
  ·rw[List.find?_cons]
   by_cases h:x.name=nm <;> simp[h]
  ·rw[List.find?_cons,find_ins x nm r hx.2,List.find?_cons]
   by_cases hy:y.name=nm
   ·have hxn:¬x.name=nm:=fun e=>hx.1 (e.trans hy.symm)
    rw[if_neg hxn]
    simp[hy,hxn]
   ·simp[hy]
theorem find_rep (x:Fil) (nm:ByteArray) (fs:List Fil):(repF fs x).find? (fun y=>decide (y.name=nm))=if x.name=nm then (fs.find? fun y=>decide (y.name=nm)).map fun _=>x else fs.find? fun y=>decide (y.name=nm):=by
 induction fs with
 | nil=>simp[repF]
 | cons y r ih=>
  have e:repF (y::r) x=(if y.name=x.name then x else y)::repF r x:=rfl
  rw[e,List.find?_cons,ih,List.find?_cons]
  by_cases hx:x.name=nm
  ·by_cases hy:y.name=nm
   ·simp[hx,hy]
   ·have:¬y.name=x.name:=fun e=>hy (e.trans hx)
    simp[hx,hy]
  ·by_cases hy:y.name=nm
   ·have:¬y.name=x.name:=fun e=>hx (e.symm.trans hy)
    have h2:¬nm=x.name:=fun e=>hx e.symm
    simp[hx,hy,h2]
   ·by_cases hxy:y.name=x.name
    ·simp[hx,hy,hxy]
    ·simp[hx,hy,hxy]

theorem cont_size {D:Dsk} (h:Live D) {nm:ByteArray}:(sizeD D nm).2=if D.cont nm=none then 4 else 0:=by
 unfold sizeD Dsk.cont
 rw[if_neg (by simp[h.up])]
 cases D.get nm with
 | none=>rfl
 | some x=>rfl
theorem cont_read {D:Dsk} {n:Int} {c:List UInt8} (h:D.cont (wname n)=some c):readW D n=allI c:=by
 unfold Dsk.cont at h
 unfold readW
 cases hg:D.get (wname n) with
 | none=>rw[hg] at h; cases h
 | some x=>rw[hg] at h; cases h; rfl
theorem cont_readN {D:Dsk} {n:Int} (h:D.cont (wname n)=none):readW D n=([],0,4):=by
 unfold Dsk.cont at h
 unfold readW
 cases hg:D.get (wname n) with
 | none=>rfl
 | some x=>rw[hg] at h; cases h

theorem Live.len {D:Dsk} (h:Live D) {nm:ByteArray} {c:List UInt8} (hc:D.cont nm=some c):(c.length:Int)≤67108864:=by
 unfold Dsk.cont at hc
 cases hg:D.get nm with
 | none=>rw[hg] at hc; cases hc
 | some x=>
  rw[hg] at hc
  have e:x.b=c:=Option.some.inj hc
  rw[←e]; exact h.ok.len hg

theorem cont_create {D:Dsk} (h:Live D) {nm:ByteArray} (hn:isName nm=true) (hc:D.cont nm=none):
  (createD D nm).2=0∧Live (createD D nm).1∧(∀ m,(createD D nm).1.cont m=if nm=m then some [] else D.cont m)∧(createD D nm).1.used=D.used∧(createD D nm).1.room=D.room:=by
 have hg:D.get nm=none:=by
  unfold Dsk.cont at hc
  cases hg:D.get nm with
  | none=>rfl
  | some x=>rw[hg] at hc; cases hc
 have e:createD D nm=({D.stepped with files:=insF ⟨nm,[],0⟩ D.files},0):=by
  unfold createD
  rw[hn,if_neg (by decide),if_neg (by simp[h.up])]
  simp only[hg]
  rw[h.fu,if_neg (by simp[stE0])]
 have hok:=createD_ok h.ok nm
 rw[e] at hok ⊢
 obtain ⟨s1,s2⟩:=stepped0 h
 refine ⟨rfl,⟨hok,s1,s2⟩,fun m=>?_,rfl,rfl⟩
 unfold Dsk.cont Dsk.get
 rw[find_ins _ _ _ (get_none hg)]
 simp only
 split <;> rfl
theorem cont_append {D:Dsk} (h:Live D) {nm:ByteArray} {c bs:List UInt8} (hc:D.cont nm=some c) (hr:(bs.length:Int)≤D.room - D.used):
  (appendD D nm bs).2=0∧Live (appendD D nm bs).1∧(∀ m,(appendD D nm bs).1.cont m=if nm=m then some (c++bs) else D.cont m)∧(appendD D nm bs).1.used=D.used+bs.length∧(appendD D nm bs).1.room=D.room:=by
 obtain ⟨x,hg,rfl⟩:∃ x,D.get nm=some x∧x.b=c:=by
  unfold Dsk.cont at hc
  cases hg:D.get nm with
  | none=>rw[hg] at hc; cases hc
  | some x=>rw[hg] at hc; cases hc; exact ⟨x,rfl,rfl⟩
 obtain ⟨_,hxn⟩:=get_some hg
 have e:appendD D nm bs=({D.stepped with files:=repF D.files {x with b:=x.b++bs},used:=D.used+bs.length},0):=by
  unfold appendD
  rw[if_neg (by simp[h.up])]
  simp only[hg]
  rw[if_neg (by omega),h.fu,if_neg (by simp[stE0])]
 have hok:=appendD_ok h.ok nm bs
 rw[e] at hok ⊢
 obtain ⟨s1,s2⟩:=stepped0 h
 refine ⟨rfl,⟨hok,s1,s2⟩,fun m=>?_,rfl,rfl⟩
 show ((repF D.files {x with b:=x.b++bs}).find? fun y=>decide (y.name=m)).map (·.b)=_
 rw[find_rep]
 simp only[hxn]
 split
 ·rename_i e
  subst e
  unfold Dsk.get at hg
  rw[hg]; rfl
 ·rfl
theorem cont_sync {D:Dsk} (h:Live D) {nm:ByteArray} {c:List UInt8} (hc:D.cont nm=some c):
  (syncD D nm).2=0∧Live (syncD D nm).1∧(∀ m,(syncD D nm).1.cont m=D.cont m)∧(syncD D nm).1.used=D.used∧(syncD D nm).1.room=D.room:=by
 obtain ⟨x,hg,rfl⟩:∃ x,D.get nm=some x∧x.b=c:=by
  unfold Dsk.cont at hc
  cases hg:D.get nm with
  | none=>rw[hg] at hc; cases hc
  | some x=>rw[hg] at hc; cases hc; exact ⟨x,rfl,rfl⟩
 obtain ⟨_,hxn⟩:=get_some hg
 have e:syncD D nm=({D.stepped with files:=repF D.files {x with sure:=x.b.length}},0):=by
  unfold syncD
  rw[if_neg (by simp[h.up])]
  simp only[hg]
  rw[h.fu,if_neg (by simp[stE0])]
 have hok:=syncD_ok h.ok nm
 rw[e] at hok ⊢
 obtain ⟨s1,s2⟩:=stepped0 h
 refine ⟨rfl,⟨hok,s1,s2⟩,fun m=>?_,rfl,rfl⟩
 show ((repF D.files {x with sure:=(x.b.length:Int)}).find? fun y=>decide (y.name=m)).map (·.b)=((D.files).find? fun y=>decide (y.name=m)).map (·.b)
 rw[find_rep]
 simp only[hxn]
 split
 ·rename_i e
  subst e
  unfold Dsk.get at hg
  rw[hg]; rfl
 ·rfl
theorem live_new {n:Int}:Live (newD n):=⟨newD_ok n,rfl,rfl⟩
def Holds (D:Dsk):Int→Int→List (List (List UInt8))→Prop
 | n,_,[]=>D.cont (wname n)=none
 | n,g,ts::r=>D.cont (wname n)=some (partB g ts)∧Holds D (n+1) (partB g ts).length r
def lastG:Int→List (List (List UInt8))→Int
 | g,[]=>g
 | g,ts::r=>lastG (partB g ts).length r
def Small (P:List (List (List UInt8))):Prop:=∀ ts∈P,∀ d∈ts,d.length≤1048576

theorem open_holds {D:Dsk} (h:Live D) {frm:Int}:∀ (P:List (List (List UInt8))) (f:Nat) (n p g0 g:Int) (out:List ByteArray),Holds D n g0 P→Small P→P.length<f→n+P.length≤1073741824→(0≤g0∧g0≤67108864)→(frm<n→g0=g) →
  openA D frm f n p g out=some (0,(if P= [] then p else n+P.length - 1),(if P= [] then g else lastG g0 P),out++P.flatten.map toB)
 | [],f,n,p,g0,g,out,hh,_,hf,hn,_,_=>by
  cases f with
  | zero=>simp at hf
  | succ f=>
   simp only[List.length_nil] at hn
   rw[openA,if_neg (by omega),cont_readN hh,if_pos rfl]
   simp
 | ts::r,f,n,p,g0,g,out,⟨h1,h2⟩,hs,hf,hn,hg,hq=>by
  cases f with
  | zero=>simp at hf
  | succ f=>
   simp only[List.length_cons] at hf hn
   have hsm:∀ d∈ts,d.length≤1048576:=hs ts (by simp)
   have hr:=cont_read h1
   rw[allI_part hg hsm] at hr
   have hlen:((partB g0 ts).length:Int)≤67108864:=h.len h1
   rw[openA,if_neg (by omega),hr]
   simp only
   rw[if_neg (by decide),if_neg (by decide),parseI_part hg]
   simp only
   rw[if_neg (by decide),if_neg (by decide),if_neg (fun hx=>hx.2 (hq hx.1)),open_holds h r f (n+1) n _ _ _ h2 (fun x hx=>hs x (by simp[hx])) (by omega) (by omega) (by omega) (fun _=>rfl)]
   simp only[List.drop_succ_cons,List.drop_zero,List.flatten_cons,List.map_append,List.append_assoc,lastG]
   congr 1
   simp only[Prod.mk.injEq,true_and]
   cases r with
   | nil=>exact ⟨by simp only[if_pos,List.length_singleton]; rw[if_neg (by simp)]; omega,by simp[lastG],trivial⟩
   | cons a b=>exact ⟨by rw[if_neg (by simp),if_neg (by simp)]; simp only[List.length_cons]; omega,by rw[if_neg (by simp),if_neg (by simp)],trivial⟩

theorem Holds.drop {D:Dsk}:∀ {P:List (List (List UInt8))} {n g:Int} (j:Nat),Holds D n g P→j≤P.length→Holds D (n+j) (lastG g (P.take j)) (P.drop j)
 | P,n,g,0,h,_=>by simpa [lastG] using h
 | [],n,g,j+1,h,hj=>by simp at hj
 | ts::r,n,g,j+1,h,hj=>by
  have:=Holds.drop (P:=r) j h.2 (by simpa using hj)
  simp only[List.take_succ_cons,List.drop_succ_cons,lastG]
  rw[show n+((j+1:Nat):Int)=n+1+j by omega]
  exact this

theorem Holds.mono {D D1:Dsk}:∀ {P:List (List (List UInt8))} {n g:Int},Holds D n g P→(∀ i:Nat,i≤P.length→D1.cont (wname (n+i))=D.cont (wname (n+i)))→Holds D1 n g P
 | [],n,g,h,hc=>by
  have:=hc 0 (Nat.le_refl _)
  simp only[Int.ofNat_zero,Int.natCast_zero,Int.add_zero] at this
  exact this.trans h
 | ts::r,n,g,h,hc=>by
  have h0:=hc 0 (Nat.zero_le _)
  simp only[Int.natCast_zero,Int.add_zero] at h0
  refine ⟨h0.trans h.1,Holds.mono h.2 fun i hi=>?_⟩
  have:=hc (i+1) (by simp; omega)
  rw[show n+((i+1:Nat):Int)=n+1+i by omega] at this
  exact this

theorem Holds.snoc {D:Dsk}:∀ {P:List (List (List UInt8))} {n g:Int} {ts:List (List UInt8)},Holds D n g (P++ [ts])↔((∀ i:Nat,(hi:i<P.length)→D.cont (wname (n+i))=some (partB (lastG g (P.take i)) P[i]))∧D.cont (wname (n+P.length))=some (partB (lastG g P) ts)∧D.cont (wname (n+P.length+1))=none)
 | [],n,g,ts=>by
  simp only[List.nil_append,Holds,List.length_nil,Int.natCast_zero,Int.add_zero,lastG]
  exact ⟨fun h=>⟨fun i hi=>absurd hi (by omega),h⟩,fun h=>h.2⟩
 | us::r,n,g,ts=>by
  have ih:=Holds.snoc (D:=D) (P:=r) (n:=n+1) (g:=(partB g us).length) (ts:=ts)
  rw[List.cons_append,Holds,ih]
  have e1:n+1+(r.length:Int)=n+((us::r).length:Int):=by simp only[List.length_cons]; omega
  rw[e1]
  constructor
  ·rintro ⟨h0,h1,h2,h3⟩
   refine ⟨fun i hi=>?_,h2,h3⟩
   cases i with
   | zero=>simpa [lastG] using h0
   | succ i=>
    have:=h1 i (by simpa using hi)
    rw[show n+1+(i:Int)=n+((i+1:Nat):Int) by omega] at this
    simpa [lastG] using this
  ·rintro ⟨h1,h2,h3⟩
   refine ⟨by have:=h1 0 (by simp); simp only[Int.natCast_zero,Int.add_zero,List.take_zero,lastG] at this; exact this,fun i hi=>?_,h2,h3⟩
   have:=h1 (i+1) (by simpa using hi)
   rw[show n+((i+1:Nat):Int)=n+1+(i:Int) by omega] at this
   simpa [lastG] using this

theorem lastG_snoc (P:List (List (List UInt8))) (g:Int) (ts:List (List UInt8)):lastG g (P++ [ts])=(partB (lastG g P) ts).length:=by
 induction P generalizing g with
 | nil=>rfl
 | cons a P ih=>exact ih _

structure Wr (D:Dsk) (P:List (List (List UInt8))):Prop where
 live:Live D
 holds:Holds D 1 0 P
 none:∀ n:Int,P.length<n→n≤1073741824→D.cont (wname n)=Option.none
 sg:0≤lastG 0 P∧lastG 0 P≤67108864

theorem lastG_b {P:List (List (List UInt8))} {g:Int} (h:0≤g):0≤lastG g P:=by
 induction P generalizing g with
 | nil=>exact h
 | cons a P ih=>exact ih (by omega)

theorem Wr.new {n:Int}:Wr (newD n) []:=⟨live_new,rfl,fun m _ _=>rfl,by decide⟩

theorem recB_head {g:Int} (h:0≤g∧g≤67108864):(recB (putI g)).length≤22:=by
 have:=putN_len64 (n:=g.toNat) (by omega)
 rw[recB_len]; unfold putI; omega

theorem Wr.sync {D:Dsk} {P:List (List (List UInt8))} (w:Wr D P) (hP:P≠ []):(syncD D (wname P.length)).2=0∧Wr (syncD D (wname P.length)).1 P∧(syncD D (wname P.length)).1.used=D.used∧(syncD D (wname P.length)).1.room=D.room:=by
 obtain ⟨Q,ts,rfl⟩:∃ Q ts,P=Q++ [ts]:=⟨P.dropLast,P.getLast hP,(List.dropLast_concat_getLast hP).symm⟩
 obtain ⟨h1,h2,h3⟩:=Holds.snoc.1 w.holds
 have hl:((Q++ [ts]).length:Int)=1+Q.length:=by simp; omega
 rw[hl]
 obtain ⟨s1,s2,s3,s4,s5⟩:=cont_sync w.live h2
 exact ⟨s1,⟨s2,w.holds.mono fun i _=>s3 _,fun n hn hm=>(s3 _).trans (w.none n hn hm),w.sg⟩,s4,s5⟩

theorem Wr.start {D:Dsk} {P:List (List (List UInt8))} (w:Wr D P) (hp:P.length<1000) (hr:22≤D.room - D.used):
  (0<(P.length:Int)→(syncD D (wname P.length)).2=0)∧((recB (putI (lastG 0 P))).length:Int)≤(syncIf D P.length).room - (syncIf D P.length).used∧(sizeD (syncIf D P.length) (wname (1+P.length))).2≠0 ∧
  (createD (syncIf D P.length) (wname (1+P.length))).2=0∧(appendD (createD (syncIf D P.length) (wname (1+P.length))).1 (wname (1+P.length)) (recB (putI (lastG 0 P)))).2=0 ∧
  Wr (startD D P.length (lastG 0 P) (1+P.length)) (P++ [[]])∧(startD D P.length (lastG 0 P) (1+P.length)).used=D.used+(recB (putI (lastG 0 P))).length∧(startD D P.length (lastG 0 P) (1+P.length)).room=D.room:=by
 have hrl:=recB_head w.sg
 have hsy:(0<(P.length:Int)→(syncD D (wname P.length)).2=0)∧Wr (syncIf D P.length) P∧(syncIf D P.length).used=D.used∧(syncIf D P.length).room=D.room:=by
  unfold syncIf
  split
  ·rename_i h
   obtain ⟨s1,s2,s3,s4⟩:=w.sync (fun e=>by rw[e] at h; simp at h)
   exact ⟨fun _=>s1,s2,s3,s4⟩
  ·rename_i h
   exact ⟨fun h'=>absurd h' h,w,rfl,rfl⟩
 obtain ⟨s0,w1,u1,r1⟩:=hsy
 have hno:(syncIf D P.length).cont (wname (1+P.length))=Option.none:=w1.none _ (by omega) (by omega)
 obtain ⟨c1,c2,c3,c4,c5⟩:=cont_create w1.live (wname_is (n:=1+P.length) (by omega)) hno
 have hc:(createD (syncIf D P.length) (wname (1+P.length))).1.cont (wname (1+P.length))=some []:=by rw[c3,if_pos rfl]
 obtain ⟨a1,a2,a3,a4,a5⟩:=cont_append c2 (bs:=recB (putI (lastG 0 P))) hc (by omega)
 refine ⟨s0,by omega,by rw[cont_size w1.live,if_pos hno]; decide,c1,a1,?_,by unfold startD; omega,by unfold startD; omega⟩
 have hfin:∀ m,(startD D P.length (lastG 0 P) (1+P.length)).cont m=if wname (1+P.length)=m then some (recB (putI (lastG 0 P))) else (syncIf D P.length).cont m:=fun m=>by
  unfold startD
  rw[a3,c3]
  split <;> rfl
 have hne:∀ k:Int,0≤k→k≠1+P.length→wname (1+P.length)≠wname k:=fun k hk hne e=>hne (wname_inj (by omega) hk e).symm
 have hlast:((P++ [[]]).length:Int)=1+P.length:=by simp; omega
 refine ⟨a2,Holds.snoc.2 ⟨fun i hi=>?_,?_,?_⟩,fun n hn hm=>?_,?_⟩
 ·rw[hfin,if_neg (hne _ (by omega) (by omega))]
  have hd:=Holds.drop i w1.holds (by omega)
  rw[List.drop_eq_getElem_cons hi] at hd
  exact hd.1
 ·rw[hfin,if_pos rfl,partB_nil]
 ·rw[hfin,if_neg (hne _ (by omega) (by omega))]
  exact w1.none _ (by omega) (by omega)
 ·rw[hlast] at hn
  rw[hfin,if_neg (hne _ (by omega) (by omega))]
  exact w1.none _ (by omega) hm
 ·rw[lastG_snoc,partB_nil]
  omega

theorem Wr.add {D:Dsk} {P:List (List (List UInt8))} {ts:List (List UInt8)} {d:List UInt8} (w:Wr D (P++ [ts])) (hp:P.length<1000) (hr:((recB d).length:Int)≤D.room - D.used):
  (appendD D (wname (1+P.length)) (recB d)).2=0∧Wr (appendD D (wname (1+P.length)) (recB d)).1 (P++ [ts++ [d]])∧(appendD D (wname (1+P.length)) (recB d)).1.used=D.used+(recB d).length∧(appendD D (wname (1+P.length)) (recB d)).1.room=D.room ∧
  lastG 0 (P++ [ts++ [d]])=lastG 0 (P++ [ts])+(recB d).length:=by
 obtain ⟨h1,h2,h3⟩:=Holds.snoc.1 w.holds
 obtain ⟨a1,a2,a3,a4,a5⟩:=cont_append w.live (bs:=recB d) h2 hr
 have hne:∀ k:Int,0≤k→k≠1+P.length→wname (1+P.length)≠wname k:=fun k hk hne e=>hne (wname_inj (by omega) hk e).symm
 have hpl:∀ us:List (List UInt8),((P++ [us]).length:Int)=1+P.length:=fun us=>by simp; omega
 have hlast:lastG 0 (P++ [ts++ [d]])=lastG 0 (P++ [ts])+(recB d).length:=by
  rw[lastG_snoc,lastG_snoc,partB_snoc,List.length_append]; omega
 refine ⟨a1,⟨a2,Holds.snoc.2 ⟨fun i hi=>?_,?_,?_⟩,fun n hn hm=>?_,?_⟩,a4,a5,hlast⟩
 ·rw[a3,if_neg (hne _ (by omega) (by omega))]; exact h1 i hi
 ·rw[a3,if_pos rfl,partB_snoc]
 ·rw[a3,if_neg (hne _ (by omega) (by omega))]; exact h3
 ·rw[hpl] at hn
  rw[a3,if_neg (hne _ (by omega) (by omega))]
  exact w.none n (by rw[hpl]; omega) hm
 ·refine ⟨lastG_b (Int.le_refl _),?_⟩
  have hc:(appendD D (wname (1+P.length)) (recB d)).1.cont (wname (1+P.length))=some (partB (lastG 0 P) (ts++ [d])):=by rw[a3,if_pos rfl,partB_snoc]
  rw[lastG_snoc]
  exact a2.len hc

theorem Wr.open {D:Dsk} {P:List (List (List UInt8))} (w:Wr D P) (hs:Small P) (hp:P.length<9) (j:Nat) (hj:j<P.length):
  openA D (1+j) 10 (1+j) 0 0 []=some (0,(P.length:Int),lastG 0 P,(P.drop j).flatten.map toB):=by
 have hd:=Holds.drop j w.holds (by omega)
 have hg:0≤lastG 0 (P.take j)∧lastG 0 (P.take j)≤67108864:=by
  refine ⟨lastG_b (Int.le_refl _),?_⟩
  cases j with
  | zero=>simp[lastG]
  | succ j=>
   have hd:=Holds.drop j w.holds (by omega)
   rw[List.drop_eq_getElem_cons (by omega)] at hd
   have hc:=hd.1
   have ht:P.take (j+1)=P.take j++ [P[j]]:=by
    rw[List.take_add_one,List.getElem?_eq_getElem (by omega)]; rfl
   rw[ht,lastG_snoc]
   exact w.live.len hc
 have:=open_holds w.live (frm:=1+j) (P.drop j) 10 (1+j) 0 (lastG 0 (P.take j)) 0 [] hd (fun ts ht=>hs ts (List.mem_of_mem_drop ht)) (by rw[List.length_drop]; omega) (by rw[List.length_drop]; omega) hg (fun h=>absurd h (by omega))
 have hne:P.drop j≠ []:=by
  intro e
  have:=congrArg List.length e
  rw[List.length_drop] at this
  simp at this; omega
 rw[this,if_neg hne,if_neg hne,List.length_drop]
 congr 1
 simp only[Prod.mk.injEq,true_and,List.nil_append,and_true]
 refine ⟨by omega,?_⟩
 have key:∀ (A B:List (List (List UInt8))) (g:Int),lastG (lastG g A) B=lastG g (A++B):=fun A=>by
  induction A with
  | nil=>intro B g; rfl
  | cons a A ih=>intro B g; exact ih B _
 rw[key,List.take_append_drop]
end Go.Ax

namespace Go.Ax
open Go.Proofs Go.RowKit
set_option maxRecDepth 100000

section
variable {B : List Box} {b l : Nat} {D : Dsk} {P : List (List (List UInt8))} {ts : List (List UInt8)} {p g n : Int} {o : Bool} {s : ByteArray}
theorem Wr.oStart (w:Wr D P) (hp:p=P.length) (hg:g=lastG 0 P) (hn:n=1+p) (hlt:P.length<1000) (hr:22≤D.room - D.used) (hb:B[b]? = some (dkB D)) (hl:B[l]? = some (logC b p g o)):
  Δ7 iStart [.ptr l 0 0,vi n] B (vi 0) ((B.set b (dkB (startD D p g n))).set l (logC b n (recB (putI g)).length true))∧Wr (startD D p g n) (P++ [[]])∧(startD D p g n).used=D.used+(recB (putI g)).length∧(startD D p g n).room=D.room∧lastG 0 (P++ [[]])=(recB (putI g)).length:=by
 subst hp hg hn
 obtain ⟨s0,s1,s2,s3,s4,s5,s6,s7⟩:=w.start hlt hr
 exact ⟨.inl (Go.Ax.oStart w.live.ok w.live.up (by omega) w.sg (by omega) s0 s1 s2 s3 s4 hb hl),s5,s6,s7,by rw[lastG_snoc,partB_nil]⟩
theorem Wr.oAdd (w:Wr D (P++ [ts])) (hp:p=1+P.length) (hg:g=lastG 0 (P++ [ts])) (hlt:P.length<1000) (hs:s.size≤1048576) (hr:((recB s.data.toList).length:Int)≤D.room - D.used) (hb:B[b]? = some (dkB D)) (hl:B[l]? = some (logC b p g true)):
  Δ7 iAdd [.ptr l 0 0,vs s] B (vi 0) ((B.set b (dkB (appendD D (wname p) (recB s.data.toList)).1)).set l (logC b p (g+(recB s.data.toList).length) true))∧Wr (appendD D (wname p) (recB s.data.toList)).1 (P++ [ts++ [s.data.toList]]) ∧
   (appendD D (wname p) (recB s.data.toList)).1.used=D.used+(recB s.data.toList).length∧(appendD D (wname p) (recB s.data.toList)).1.room=D.room∧lastG 0 (P++ [ts++ [s.data.toList]])=g+(recB s.data.toList).length:=by
 subst hp hg
 obtain ⟨a1,a2,a3,a4,a5⟩:=w.add (d:=s.data.toList) hlt hr
 have:=Go.Ax.oAdd (s:=s) w.live.ok (p:=1+P.length) (by omega) (g:=lastG 0 (P++ [ts])) (by have:=w.sg; omega) hs hb hl
 unfold addG at this
 rw[a1,if_pos rfl] at this
 exact ⟨.inl this,a2,a3,a4,a5⟩
theorem Wr.oOpen (w:Wr D P) (hs:Small P) (hp:P.length<9) {j:Nat} (hj:j<P.length) (hn:n=1+j) (hb:B[b]? = some (dkB D)):
  Δ7 iOpen [.op b,vi n] B (.tup [.ptr B.length 0 0, .rs (B.length+1) 0 1 0 ((P.drop j).flatten.map toB).length,vi 0]) (B++ [logC b P.length (lastG 0 P) false,nameE.bx 0 ((P.drop j).flatten.map toB)]):=by
 subst hn
 exact .inl (Go.Ax.oOpen w.live.ok w.live.up (by omega) (w.open hs hp j hj) hb)
theorem oOpenNew {m:Int} (hb:B[b]? = some (dkB (newD m))):Δ7 iOpen [.op b,vi 1] B (.tup [.ptr B.length 0 0, .rs (B.length+1) 0 1 0 ([]:List ByteArray).length,vi 0]) (B++ [logC b 0 0 false,nameE.bx 0 []]):=by
 refine .inl (Go.Ax.oOpen (newD_ok m) rfl (by decide) ?_ hb)
 rw[openA,if_neg (by decide),cont_readN (D:=newD m) (n:=1) rfl,if_pos rfl]
end

theorem dec_lt {u:Nat} (h:u<10):Lib.decDigits u= [UInt8.ofNat (48+u)]:=by rw[Lib.decDigits,dif_pos h]
theorem wname_digit {n:Int} (h:0≤n∧n<10):wname n=toB [108,111,103,46,UInt8.ofNat (48+n.toNat)]:=by
 apply ByteArray.ext
 apply Array.toList_inj.mp
 rw[wname_list h.1,dec_lt (by omega)]
 rfl
theorem wname_1:wname 1=(⟨#[108,111,103,46,49]⟩:ByteArray):=wname_digit (by decide)
theorem wname_7:wname 7=(⟨#[108,111,103,46,55]⟩:ByteArray):=wname_digit (by decide)

def RHeadL:List AV→AV→Prop:=fun args r=>args= []∧r=vb true
noncomputable def gHeadL:=relG RHeadL
theorem SHeadL:SoundF DP iHeadL (.pure gHeadL):=sound_pureT mixedD Γ7h_ok Δ7_ok hfHeadL heHeadL hbHeadL (by
 rintro args r ⟨rfl,rfl⟩
 let A:ByteArray:=⟨#[97]⟩
 let C:ByteArray:=⟨#[98]⟩
 have w0:Wr (newD 1000) []:= .new
 obtain ⟨c1,w1,u1,r1,l1⟩:=w0.oStart (B:= [dkB (newD 1000),logC 0 0 0 false,nameE.bx 0 []]) (b:=0) (l:=1) (p:=0) (g:=0) (n:=1) (o:=false) rfl rfl rfl (by decide) (by decide) rfl rfl
 have hu0:(newD 1000).used=0:=rfl
 have hr0:(newD 1000).room=1000:=rfl
 have hA:(recB A.data.toList).length=13:=recB_len _
 have hC:(recB C.data.toList).length=13:=recB_len _
 have hh:=recB_head (g:=0) (by decide)
 obtain ⟨c2,w2,u2,r2,l2⟩:=Wr.oAdd (P:= []) (ts:= []) (s:=A) w1 (B:= [dkB (startD (newD 1000) 0 0 1),logC 0 1 (recB (putI 0)).length true,nameE.bx 0 []]) (b:=0) (l:=1) (p:=1) rfl l1.symm (by decide) (by decide) (by rw[u1,r1,hA]; omega) rfl rfl
 obtain ⟨c3,w3,u3,r3,l3⟩:=Wr.oAdd (P:= []) (ts:= [A.data.toList]) (s:=C) w2 (B:= [dkB (appendD (startD (newD 1000) 0 0 1) (wname 1) (recB A.data.toList)).1,logC 0 1 ((recB (putI 0)).length+(recB A.data.toList).length) true,nameE.bx 0 []]) (b:=0) (l:=1) (p:=1) rfl l2.symm (by decide) (by decide) (by rw[u2,r2,u1,r1,hA,hC]; omega) rfl rfl
 obtain ⟨s1,w4,u4,r4⟩:=w3.sync (by simp)
 change (syncD _ (wname 1)).2=0 at s1
 change Wr (syncD _ (wname 1)).1 _ at w4
 have c4:=oSync (nm:=wname 1) w3.live.ok (B:= [dkB (appendD (appendD (startD (newD 1000) 0 0 1) (wname 1) (recB A.data.toList)).1 (wname 1) (recB C.data.toList)).1,logC 0 1 ((recB (putI 0)).length+(recB A.data.toList).length+(recB C.data.toList).length) true,nameE.bx 0 []]) (b:=0) rfl
 rw[s1] at c4
 have hsm:Small ([]++ [[]++ [A.data.toList]++ [C.data.toList]]):=by
  intro ts ht d hd
  simp at ht
  subst ht
  simp at hd
  rcases hd with rfl | rfl <;> decide
 have c5:=w4.oOpen (B:= [dkB (syncD (appendD (appendD (startD (newD 1000) 0 0 1) (wname 1) (recB A.data.toList)).1 (wname 1) (recB C.data.toList)).1 (wname 1)).1,logC 0 1 ((recB (putI 0)).length+(recB A.data.toList).length+(recB C.data.toList).length) true,nameE.bx 0 []]) (b:=0) (n:=1) hsm (by decide) (j:=0) (by decide) rfl rfl
 rw[l3] at c5
 rw[wname_1] at c4
 refine ⟨rfl,rfl,_,THeadL_chk (newD 1000) (startD (newD 1000) 0 0 1) (appendD (startD (newD 1000) 0 0 1) (wname 1) (recB A.data.toList)).1 (appendD (appendD (startD (newD 1000) 0 0 1) (wname 1) (recB A.data.toList)).1 (wname 1) (recB C.data.toList)).1
  (syncD (appendD (appendD (startD (newD 1000) 0 0 1) (wname 1) (recB A.data.toList)).1 (wname 1) (recB C.data.toList)).1 (wname 1)).1 (recB (putI 0)).length ((recB (putI 0)).length+(recB A.data.toList).length) ((recB (putI 0)).length+(recB A.data.toList).length+(recB C.data.toList).length),?_⟩
 unfold THeadL
 refine wp_callr (oNew 1000) (wp_callr (oOpenNew rfl) (wp_sp (fun h=>absurd h (by decide)) (fun _=>wp_callr c1 (wp_callr c2 (wp_callr c3 (wp_callr ?_ (wp_callr c5 ?_)))))))
 ·rw[wname_1]; exact c4
 refine wp_sp (fun _=>wp_ridx (by decide) (by decide) (wp_rload A (by decide) rfl rfl (wp_sp (fun _=>wp_ridx (by decide) (by decide) (wp_rload C (by decide) rfl rfl (wp_sp (fun _=>wp_call (gNameW_eq (by decide)) (wp_leaf rfl ?_)) (fun h=>absurd h (by simp[C]))))) (fun h=>absurd h (by simp[A]))))) (fun h=>absurd h (by decide))
 rw[wname_7,beq_self_eq_true]
 exact .p _)
theorem gHeadL_eq:gHeadL []=some (vb true):=relG_eq (fun _ _ _ h1 h2=>h1.2.trans h2.2.symm) ⟨rfl,rfl⟩

end Go.Ax

namespace Go.Ax
open Go.Proofs Go.ChangeShapes Go.WideShapes Go.ChangeAt Go.RowKit
set_option maxRecDepth 100000

theorem tabRel {W:World} {g:Nat} {us:Array Value} {e:TypeId} {fr:Nat×Nat} (hh:W.heap[g]? = some (.cells us e fr)) (hu:us.toList.map PV.v=Glob.tab g):∀ ρ,GRel noF [] ρ W g:=fun ρ=>by
 have hl:(Glob.tab g).length=us.toList.length:=by rw[←hu]; simp
 refine ⟨.rp _ ⟨g,0,none⟩ us.toList rfl not_own (Array.getElem?_eq_some_iff.1 hh).1 hl (fun j u hj=>?_) (fun j p u hp hv=>?_),us,e,fr,hh,by rw[hl]; simp⟩
 ·rw[Addr.add_lit,Nat.zero_add,cell_of hh]
  simpa using hj
 ·rw[←hu,List.getElem?_map,hv] at hp
  cases hp
  exact .v _

theorem var_block {P:Program} {W:World} {n:String} {g:Nat} {cs:Array Value} (hg:P.globalNamed n=some g) (h:W.var? P n=some cs):∃ e fr,W.heap[g]? = some (.cells cs e fr):=by
 unfold World.var? at h
 rw[hg,Option.bind_some] at h
 split at h
 ·rename_i cs' e fr hc
  cases h
  exact ⟨e,fr,hc⟩
 ·cases h

theorem gHalves : DP.globalNamed "tailrace/crc.halves" = some 0 := by kernel_rfl
theorem gPow : DP.globalNamed "internal/strconv.uint64pow10" = some 3 := by kernel_rfl
theorem tHalves:(DP.globals[0]?).map (·.type)=some 169:=by kernel_rfl

theorem tPow:(DP.globals[3]?).map (·.type)=some 188:=by kernel_rfl

section
variable {H : Type} {enc : TypeId × Value → H} {w : World} {base : Nat} {spare : Nat → Bool} {held : Bool} {O : Nat → Prop}
end
end Go.Ax
