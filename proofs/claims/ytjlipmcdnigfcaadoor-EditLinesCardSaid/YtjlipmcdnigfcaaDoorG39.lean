/- A new list is written: what it comes to. -/
import Derived.Test.YtjlipmcdnigfcaaDoorG38
set_option linter.unusedVariables false
set_option linter.unusedSimpArgs false
set_option linter.unusedSectionVars false
namespace Go.Ax
open Go.Proofs Go.RowKit
set_option maxRecDepth 100000

def soonN:ByteArray:=⟨#[115,111,111,110]⟩
def nowN:ByteArray:=⟨#[110,111,119]⟩
def oldD (D:Dsk) (nm:ByteArray):Dsk×Int:=if (sizeD D nm).2=0 then removeD D nm else (D,0)
def writeD (D:Dsk) (nm:ByteArray) (bs:List UInt8):Dsk×Int:=if (oldD D nm).2≠0 then oldD D nm else thenS (thenA (createD (oldD D nm).1 nm) nm bs) nm
noncomputable def freshD (D:Dsk) (n:Int) (w:Vers):Dsk×Int:=
 if n+1>1073741824 then (D,3) else
 if ((recB (encI (allE w))).length:Int)+(recB (putI (n+1))).length>D.room - D.used then (D,11) else
 if (writeD D (manN (n+1)) (recB (encI (allE w)))).2≠0 then writeD D (manN (n+1)) (recB (encI (allE w))) else
 if (writeD (writeD D (manN (n+1)) (recB (encI (allE w)))).1 soonN (recB (putI (n+1)))).2≠0 then writeD (writeD D (manN (n+1)) (recB (encI (allE w)))).1 soonN (recB (putI (n+1))) else
 renameD (writeD (writeD D (manN (n+1)) (recB (encI (allE w)))).1 soonN (recB (putI (n+1)))).1 soonN nowN

theorem oldD_ok {D:Dsk} (ok:D.Ok) (nm:ByteArray):(oldD D nm).1.Ok:=by
 unfold oldD
 split
 ·exact removeD_ok ok nm
 ·exact ok
theorem thenA_ok {x:Dsk×Int} (ok:x.1.Ok) (nm:ByteArray) (bs:List UInt8):(thenA x nm bs).1.Ok:=by
 unfold thenA
 split
 ·exact appendD_ok ok nm bs
 ·exact ok
theorem thenS_ok {x:Dsk×Int} (ok:x.1.Ok) (nm:ByteArray):(thenS x nm).1.Ok:=by
 unfold thenS
 split
 ·exact syncD_ok ok nm
 ·exact ok
theorem writeD_ok {D:Dsk} (ok:D.Ok) (nm:ByteArray) (bs:List UInt8):(writeD D nm bs).1.Ok:=by
 unfold writeD
 split
 ·exact oldD_ok ok nm
 ·exact thenS_ok (thenA_ok (createD_ok (oldD_ok ok nm) nm) nm bs) nm
theorem freshD_ok {D:Dsk} (ok:D.Ok) (n:Int) (w:Vers):(freshD D n w).1.Ok:=by
 unfold freshD
 split
 ·exact ok
 split
 ·exact ok
 split
 ·exact writeD_ok ok _ _
 split
 ·exact writeD_ok (writeD_ok ok _ _) _ _
 ·exact renameD_ok (writeD_ok (writeD_ok ok _ _) _ _) _ _

theorem Γ13_ok:∀ f,SoundF DP f (Γ13 f):=envP_cons SNameM (envP_cons SAllV (envP_cons SEnc envP_nil))
theorem Δ13_ok:∀ f,SoundR DP f (Δ13 f):=envR_cons ((lift_sound SStep97).or (lift_sound SStep98))<|envR_cons (lift_sound SPut)<|envR_cons (take_sound SRPut)<|envR_cons (lift_sound SRoom)<|envR_cons (lift_sound SSize)<|envR_cons (lift_sound SRemove)<|envR_cons (lift_sound SCreate)<|envR_cons (lift_sound SRename) envR_nil

section
variable {n : Int} {v w : Vers} {o : Bool} {x : Dsk × Int} {nm : ByteArray} {bs : List UInt8} {V NR Y : Box}
theorem cStep97 (ok:x.1.Ok) (hl:bs.length≤1000000000):Δ13 iStepE [vi x.2, .fn 97 [.ptr 2 0 0, .ptr 5 0 0, .ptr 6 0 0]] [manB 1 n v o, .obj [] (diskP x.1), .cells false 0 [.ptr 0 0 0],V,NR, .cells false 0 [vs nm], .cells false 0 [vl (bs.map byteE.f)]] (vi (thenA x nm bs).2)
  [manB 1 n v o, .obj [] (diskP (thenA x nm bs).1), .cells false 0 [.ptr 0 0 0],V,NR, .cells false 0 [vs nm], .cells false 0 [vl (bs.map byteE.f)]]:=
 .inl ⟨_,_,_,_,⟨n,v,o,x,nm,bs,ok,hl,rfl,rfl,rfl,rfl⟩,⟨[2,5,6,0,1],[0,0,0,0,0],[.cells false 0 [.ptr 0 0 0], .cells false 0 [vs nm], .cells false 0 [vl (bs.map byteE.f)],manB 1 n v o, .obj [] (diskP x.1)],[.cells false 0 [.ptr 0 0 0], .cells false 0 [vs nm], .cells false 0 [vl (bs.map byteE.f)],manB 1 n v o, .obj [] (diskP (thenA x nm bs).1)],[],rfl,rfl,rfl,rfl,
  ⟨.cells rfl rfl rfl, .cells rfl rfl rfl, .cells rfl rfl rfl, .cells rfl rfl rfl, .objs rfl rfl,trivial⟩,⟨.cells rfl rfl rfl, .cells rfl rfl rfl, .cells rfl rfl rfl, .cells rfl rfl rfl, .objs rfl rfl,trivial⟩,rfl,rfl,rfl⟩⟩
theorem cStep98 (ok:x.1.Ok):Δ13 iStepE [vi x.2, .fn 98 [.ptr 2 0 0, .ptr 5 0 0]] [manB 1 n v o, .obj [] (diskP x.1), .cells false 0 [.ptr 0 0 0],V,NR, .cells false 0 [vs nm],Y] (vi (thenS x nm).2)
  [manB 1 n v o, .obj [] (diskP (thenS x nm).1), .cells false 0 [.ptr 0 0 0],V,NR, .cells false 0 [vs nm],Y]:=
 .inr ⟨_,_,_,_,⟨n,v,o,x,nm,ok,rfl,rfl,rfl,rfl⟩,⟨[2,5,0,1],[0,0,0,0],[.cells false 0 [.ptr 0 0 0], .cells false 0 [vs nm],manB 1 n v o, .obj [] (diskP x.1)],[.cells false 0 [.ptr 0 0 0], .cells false 0 [vs nm],manB 1 n v o, .obj [] (diskP (thenS x nm).1)],[],rfl,rfl,rfl,rfl,
  ⟨.cells rfl rfl rfl, .cells rfl rfl rfl, .cells rfl rfl rfl, .objs rfl rfl,trivial⟩,⟨.cells rfl rfl rfl, .cells rfl rfl rfl, .cells rfl rfl rfl, .objs rfl rfl,trivial⟩,rfl,rfl,rfl⟩⟩

theorem ne_of_bne {x:Int} (h:(x != 0)=true):x≠0:=by simpa using h
theorem eq_of_bne {x:Int} (h:(x != 0)=false):x=0:=by simpa using h
theorem toList_eq {a b:ByteArray}:(a.toList == b.toList)=true→a=b:=fun h=>by
 have h:=eq_of_beq h
 rw[ByteArray.toList_eq,ByteArray.toList_eq] at h
 exact ByteArray.ext (Array.toList_inj.mp h)
theorem fresh_b {D:Dsk} {e1:ByteArray} {i:Nat} {K:AE→St→Prop} (ok:D.Ok) (hi:i<2) (he: [manN (n+1),soonN][i]? = some e1) (hsz:e1.size≤1000000000)
  (hb:bs=if e1=soonN then recB (putI (n+1)) else recB (encI (allE w))) (hbl:bs.length≤1000000000)
  (hret:(writeD D e1 bs).2≠0→K .ret (TFresh_l1_x n v o ((writeD D e1 bs).2,(writeD D e1 bs).1)).2) (hnorm:(writeD D e1 bs).2=0→K .normal (TFresh_l1_e n v o w ((writeD D e1 bs).1,(i:Int)+1))):
  (TFresh_l1_b n v o w (D,(i:Int))).wp K:=by
 have fin:∀ (D1:Dsk),D1.Ok→writeD D e1 bs=thenS (thenA (createD D1 e1) e1 bs) e1 →
   ((thenS (thenA (createD D1 e1) e1 bs) e1).2≠0→K .ret (TFresh_l1_x n v o ((thenS (thenA (createD D1 e1) e1 bs) e1).2,(thenS (thenA (createD D1 e1) e1 bs) e1).1)).2) ∧
   ((thenS (thenA (createD D1 e1) e1 bs) e1).2=0→K .normal (TFresh_l1_e n v o w ((thenS (thenA (createD D1 e1) e1 bs) e1).1,(i:Int)+1))):=fun D1 _ h=>by
  rw[h] at hret hnorm
  exact ⟨hret,hnorm⟩
 unfold TFresh_l1_b
 refine wp_sp (fun _=>wp_ridx (by simp only; omega) (by simp only[List.length_cons,List.length_nil]; omega) (wp_rload e1 (by simp only; omega) (by rfl) (by simpa [soonN] using he) (wp_any (wp_callr (oSize (b:=1) ok rfl) (wp_sp (fun hs=>?_) (fun hs=>?_)))))) (fun h=>absurd (of_decide_eq_false h) (by simp only[List.length_cons,List.length_nil]; omega))
 ·have hs:(sizeD D e1).2=0:=by simpa using hs
  have hold:oldD D e1=removeD D e1:=by unfold oldD; rw[if_pos hs]
  have okr:=removeD_ok ok e1
  refine wp_any (wp_callr (oRemove (b:=1) ok rfl) (wp_sp (fun h1=>?_) (fun h1=>?_)))
  ·have h1:(removeD D e1).2≠0:=by simpa using h1
   have hw:writeD D e1 bs=removeD D e1:=by unfold writeD; rw[hold,if_pos h1]
   rw[hw] at hret
   exact wp_leaf rfl (hret h1)
  ·have h1:(removeD D e1).2=0:=by simpa using h1
   have hw:writeD D e1 bs=thenS (thenA (createD (removeD D e1).1 e1) e1 bs) e1:=by unfold writeD; rw[hold,if_neg (by omega)]
   obtain ⟨f1,f2⟩:=fin _ okr hw
   refine wp_sp (fun hq=>?_) (fun hq=>?_)
   ·rw[if_pos (show e1=soonN from toList_eq hq)] at hb
    subst hb
    exact wp_any (wp_callr (oCreate (b:=1) okr hsz rfl) (wp_callr (cStep97 (createD_ok okr e1) hbl) (wp_callr (cStep98 (thenA_ok (createD_ok okr e1) e1 _)) (wp_sp (fun h=>wp_leaf rfl (f1 (ne_of_bne h))) (fun h=>wp_i64 (by simp only; omega) (wp_leaf rfl (f2 (eq_of_bne h))))))))
   ·rw[if_neg (fun h=>by rw[h] at hq; exact absurd hq (by simp[soonN]))] at hb
    subst hb
    exact wp_any (wp_callr (oCreate (b:=1) okr hsz rfl) (wp_callr (cStep97 (createD_ok okr e1) hbl) (wp_callr (cStep98 (thenA_ok (createD_ok okr e1) e1 _)) (wp_sp (fun h=>wp_leaf rfl (f1 (ne_of_bne h))) (fun h=>wp_i64 (by simp only; omega) (wp_leaf rfl (f2 (eq_of_bne h))))))))
 ·have hs:(sizeD D e1).2≠0:=by simpa using hs
  have hold:oldD D e1=(D,0):=by unfold oldD; rw[if_neg hs]
  have hw:writeD D e1 bs=thenS (thenA (createD D e1) e1 bs) e1:=by unfold writeD; rw[hold,if_neg (by simp)]
  obtain ⟨f1,f2⟩:=fin _ ok hw
  refine wp_sp (fun hq=>?_) (fun hq=>?_)
  ·rw[if_pos (show e1=soonN from toList_eq hq)] at hb
   subst hb
   exact wp_any (wp_callr (oCreate (b:=1) ok hsz rfl) (wp_callr (cStep97 (createD_ok ok e1) hbl) (wp_callr (cStep98 (thenA_ok (createD_ok ok e1) e1 _)) (wp_sp (fun h=>wp_leaf rfl (f1 (ne_of_bne h))) (fun h=>wp_i64 (by simp only; omega) (wp_leaf rfl (f2 (eq_of_bne h))))))))
  ·rw[if_neg (fun h=>by rw[h] at hq; exact absurd hq (by simp[soonN]))] at hb
   subst hb
   exact wp_any (wp_callr (oCreate (b:=1) ok hsz rfl) (wp_callr (cStep97 (createD_ok ok e1) hbl) (wp_callr (cStep98 (thenA_ok (createD_ok ok e1) e1 _)) (wp_sp (fun h=>wp_leaf rfl (f1 (ne_of_bne h))) (fun h=>wp_i64 (by simp only; omega) (wp_leaf rfl (f2 (eq_of_bne h))))))))
end

theorem manN_ne {n:Int} (h:0≤n):manN n≠soonN:=by
 intro e
 have:(manN n).data.toList=soonN.data.toList:=by rw[e]
 rw[manN_list h] at this
 exact absurd (congrArg List.head? this) (by simp[soonN])
noncomputable def freshM (D:Dsk) (n:Int) (v w:Vers) (o:Bool):Int×Vers×Bool:=if (freshD D n w).2=0 then (n+1,w,true) else (n,v,o)
noncomputable def freshB (D:Dsk) (n:Int) (v w:Vers) (o:Bool) (b:Nat):Box:=manB b (freshM D n v w o).1 (freshM D n v w o).2.1 (freshM D n v w o).2.2
def OFresh:RSpec:=fun args B r B'=>∃ (n:Int) (v w:Vers) (o:Bool) (D:Dsk),D.Ok∧(0≤n∧n≤1073741824)∧w.files.length≤1000000000∧EncOk (allE w)∧(encI (allE w)).length≤1048576∧args= [.ptr 0 0 0,versA w] ∧
 B= [manB 1 n v o, .obj [] (diskP D)]∧r=vi (freshD D n w).2∧B'= [freshB D n v w o 1, .obj [] (diskP (freshD D n w).1)]
theorem SFresh:SoundR DP iFresh OFresh:=sound_genT mixedD Γ13_ok Δ13_ok hfFresh heFresh hbFresh (by
 rintro args B r B' ⟨n,v,w,o,D,ok,hn,hfl,hen,hlen,rfl,rfl,rfl,rfl⟩
 refine ⟨by rw[hnFresh]; rfl,_,TFresh_chk n v o D w,?_⟩
 have hf1:(recB (encI (allE w))).length=(encI (allE w)).length+12:=recB_len _
 have hpn:(putI (n+1)).length≤10:=putI_len _ (by omega)
 have hf2:(recB (putI (n+1))).length=(putI (n+1)).length+12:=recB_len _
 have hro:=ok.room
 have hle:=ok.le
 unfold TFresh
 refine wp_call (gAllV_eq hfl) (wp_call (gEnc_eq hen) (wp_callr (oRPut hlen) ⟨rfl,rfl,wp_i64 (by omega) (wp_u64 (by omega) (wp_callr (oPut_n (by omega)) (wp_callr (oRPutS (v:=0) (by omega) rfl) ⟨rfl,rfl,?_⟩)))⟩))
 refine wp_i64 (by omega) (wp_sp (fun h=>?_) (fun h=>?_))
 ·have hd:freshD D n w=(D,3):=by unfold freshD; rw[if_pos (of_decide_eq_true h)]
  unfold freshB freshM
  rw[hd]
  exact wp_leaf rfl ⟨rfl,rfl⟩
 have h:=of_decide_eq_false h
 have hsum: -9223372036854775808≤((recB (encI (allE w))).length:Int)+((recB (putI (n+1))).length:Int)∧((recB (encI (allE w))).length:Int)+((recB (putI (n+1))).length:Int)<9223372036854775808:=by omega
 refine wp_len (wp_len (wp_i64 hsum (wp_callr (oRoom (b:=1) ok rfl) (wp_sp (fun h2=>?_) (fun h2=>?_)))))
 ·have hd:freshD D n w=(D,11):=by unfold freshD; rw[if_neg h,if_pos (show ((recB (encI (allE w))).length:Int)+(recB (putI (n+1))).length>D.room - D.used from of_decide_eq_true h2)]
  unfold freshB freshM
  rw[hd]
  exact wp_leaf rfl ⟨rfl,rfl⟩
 have h2:¬((recB (encI (allE w))).length:Int)+(recB (putI (n+1))).length>D.room - D.used:=of_decide_eq_false h2
 refine wp_i64 (by omega) (wp_call (gNameM_eq (by omega)) ?_)
 have hne:manN (n+1)≠soonN:=manN_ne (by omega)
 have hms:=manN_size (n:=n+1) (by omega)
 have b0:=fun K=>fresh_b (n:=n) (v:=v) (w:=w) (o:=o) (bs:=recB (encI (allE w))) (D:=D) (e1:=manN (n+1)) (i:=0) (K:=K) ok (by decide) rfl (by omega) (by rw[if_neg hne]) (by omega)
 have b1:=fun K=>fresh_b (n:=n) (v:=v) (w:=w) (o:=o) (bs:=recB (putI (n+1))) (D:=(writeD D (manN (n+1)) (recB (encI (allE w)))).1) (e1:=soonN) (i:=1) (K:=K) (writeD_ok ok _ _) (by decide) rfl (by decide) (by rw[if_pos rfl]) (by omega)
 by_cases e1:(writeD D (manN (n+1)) (recB (encI (allE w)))).2≠0
 ·have hd:freshD D n w=writeD D (manN (n+1)) (recB (encI (allE w))):=by unfold freshD; rw[if_neg h,if_neg h2,if_pos e1]
  have hr:Rounds (TFresh_l1_e n v o w) (TFresh_l1_x n v o) (TFresh_l1_x' n v o w) (fun s=>(TFresh_l1_b n v o w s).wp) (D,0) (.inl ((writeD D (manN (n+1)) (recB (encI (allE w)))).2,(writeD D (manN (n+1)) (recB (encI (allE w)))).1)):=
   .done (by intro e; cases e) (b0 _ (fun _=>⟨rfl,rfl⟩) (fun h0=>absurd h0 e1))
  unfold freshB freshM
  rw[hd,if_neg e1]
  exact wp_loop _ rfl hr (wp_leaf rfl ⟨rfl,rfl⟩)
 have n0:∀ r,Rounds (TFresh_l1_e n v o w) (TFresh_l1_x n v o) (TFresh_l1_x' n v o w) (fun s=>(TFresh_l1_b n v o w s).wp) ((writeD D (manN (n+1)) (recB (encI (allE w)))).1,((0:Nat):Int)+1) r→Rounds (TFresh_l1_e n v o w) (TFresh_l1_x n v o) (TFresh_l1_x' n v o w) (fun s=>(TFresh_l1_b n v o w s).wp) (D,0) r:=fun r h0=>
  .next (b0 _ (fun h0=>absurd h0 e1) (fun _=>⟨rfl,rfl⟩)) h0
 by_cases e2:(writeD (writeD D (manN (n+1)) (recB (encI (allE w)))).1 soonN (recB (putI (n+1)))).2≠0
 ·have hd:freshD D n w=writeD (writeD D (manN (n+1)) (recB (encI (allE w)))).1 soonN (recB (putI (n+1))):=by unfold freshD; rw[if_neg h,if_neg h2,if_neg e1,if_pos e2]
  have hr:=n0 (.inl ((writeD (writeD D (manN (n+1)) (recB (encI (allE w)))).1 soonN (recB (putI (n+1)))).2,(writeD (writeD D (manN (n+1)) (recB (encI (allE w)))).1 soonN (recB (putI (n+1)))).1)) (.done (by intro e; cases e) (b1 _ (fun _=>⟨rfl,rfl⟩) (fun h0=>absurd h0 e2)))
  unfold freshB freshM
  rw[hd,if_neg e2]
  exact wp_loop _ rfl hr (wp_leaf rfl ⟨rfl,rfl⟩)
 have hd:freshD D n w=renameD (writeD (writeD D (manN (n+1)) (recB (encI (allE w)))).1 soonN (recB (putI (n+1)))).1 soonN nowN:=by unfold freshD; rw[if_neg h,if_neg h2,if_neg e1,if_neg e2]
 have hr:=n0 (.inr (writeD (writeD D (manN (n+1)) (recB (encI (allE w)))).1 soonN (recB (putI (n+1)))).1) (.next (b1 _ (fun h0=>absurd h0 e2) (fun _=>⟨rfl,rfl⟩)) (.done' (by intro e; cases e) (by
  unfold TFresh_l1_b
  exact wp_sp (fun h'=>absurd (of_decide_eq_true h') (by simp)) (fun _=>wp_leaf rfl ⟨rfl,rfl⟩))))
 have okw:=writeD_ok (writeD_ok ok (manN (n+1)) (recB (encI (allE w)))) soonN (recB (putI (n+1)))
 unfold freshB freshM
 rw[hd]
 refine wp_loop' _ rfl hr (wp_callr (oRename (b:=1) okw (by decide) rfl) (wp_sp (fun h3=>?_) (fun h3=>?_)))
 ·rw[if_neg (show ¬(renameD _ soonN nowN).2=0 from ne_of_bne h3)]
  exact wp_leaf rfl ⟨rfl,rfl⟩
 ·have h3:(renameD (writeD (writeD D (manN (n+1)) (recB (encI (allE w)))).1 soonN (recB (putI (n+1)))).1 soonN nowN).2=0:=eq_of_bne h3
  rw[if_pos h3,h3]
  have hfin:∀ K:AE→St→Prop,K .ret ([(0,vi 0)],[manB 1 (n+1) w true, .obj [] (diskP (renameD (writeD (writeD D (manN (n+1)) (recB (encI (allE w)))).1 soonN (recB (putI (n+1)))).1 soonN nowN).1)]) →
   (TFresh_j2 n w (writeD (writeD D (manN (n+1)) (recB (encI (allE w)))).1 soonN (recB (putI (n+1)))).1 ()).wp K:=fun K hK=>by
   unfold TFresh_j2
   exact wp_leaf rfl hK
  refine wp_any (wp_i64 (by omega) ?_)
  repeat' first
   | exact wp_join rfl (hfin _ ⟨rfl,rfl⟩)
   | refine wp_fork ?_ ?_)
end Go.Ax
