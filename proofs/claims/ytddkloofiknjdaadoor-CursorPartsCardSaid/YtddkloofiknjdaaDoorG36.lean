/- Several cursors: Seek: the contract. -/
import Derived.Test.YtddkloofiknjdaaDoorG35
set_option linter.unusedVariables false
set_option linter.unusedSimpArgs false
set_option linter.unusedSectionVars false
namespace Go.Ax
open Go.Proofs Go.RowKit
set_option maxRecDepth 100000

section
variable {ks : List Bool} {xs : List LeafD} {D : Dsk} {i : Nat} {k : Bool} {x : LeafD}
theorem ΔC5_ok:∀ f,SoundR DP f (ΔC5 f):=envR_cons (lift_sound SSeek) envR_nil
theorem codeC5 {c:Code} {n m0:Nat} {s:AS} {T:Tree} {K:AE→St→Prop} (hc:codeC DP Γ0 ΔC5 n m0 c s T (leafC m0)=T) (h:T.wp K):Tri DP n m0 false c s (fun e s2=>∃ c:St,s2=c.as∧K e c):=
 codeC_tri mixedD Γ0_ok ΔC5_ok c (by rw[hc]; exact h)
theorem sb_of (hs:ks∈shapesM) (hi:i<ks.length) (hl:xs.length=ks.length) (c:Cur) (x:Ent):
  codeC DP Γ0 ΔC5 121 (famL ks) cSb (St.as (sSl (famL ks) ks.length i,famC ks xs D++ [ebx x])) (TSb (famC ks xs D) (updC (famC ks xs D) i c) (famL ks) ks.length i x) (leafC (famL ks))=TSb (famC ks xs D) (updC (famC ks xs D) i c) (famL ks) ks.length i x:=by
 have hc:codeC DP Γ0 ΔC5 121 (famL ks) cSb (St.as (sSl (famL ks) ks.length i,famC ks (l5 ks.length (xs.getD 0 zD) (xs.getD 1 zD) (xs.getD 2 zD) (xs.getD 3 zD) (xs.getD 4 zD)) D++ [ebx x])) (TSb (famC ks (l5 ks.length (xs.getD 0 zD) (xs.getD 1 zD) (xs.getD 2 zD) (xs.getD 3 zD) (xs.getD 4 zD)) D) (updC (famC ks (l5 ks.length (xs.getD 0 zD) (xs.getD 1 zD) (xs.getD 2 zD) (xs.getD 3 zD) (xs.getD 4 zD)) D) i c) (famL ks) ks.length i x) (leafC (famL ks))=_:=allP_mem allSb (ks,i) (pairs_mem ks hs i hi) D _ _ _ _ _ c x
 rw[←l5_of zD hl (shape_len ks hs)] at hc
 exact hc
theorem se_of (hs:ks∈shapesM) (hl:xs.length=ks.length) (x:Ent):
  codeC DP Γ0 ΔC5 121 (famL ks) cSb (St.as (sSl (famL ks) ks.length ks.length,famC ks xs D++ [ebx x])) (TSe (famC ks xs D) (famL ks)) (leafC (famL ks))=TSe (famC ks xs D) (famL ks):=by
 have hc:codeC DP Γ0 ΔC5 121 (famL ks) cSb (St.as (sSl (famL ks) ks.length ks.length,famC ks (l5 ks.length (xs.getD 0 zD) (xs.getD 1 zD) (xs.getD 2 zD) (xs.getD 3 zD) (xs.getD 4 zD)) D++ [ebx x])) (TSe (famC ks (l5 ks.length (xs.getD 0 zD) (xs.getD 1 zD) (xs.getD 2 zD) (xs.getD 3 zD) (xs.getD 4 zD)) D) (famL ks)) (leafC (famL ks))=_:=allP_mem allSe ks hs D _ _ _ _ _ x
 rw[←l5_of zD hl (shape_len ks hs)] at hc
 exact hc
theorem sm_of (hs:ks∈shapesM) {ys:List LeafD} (hl:xs.length=ks.length) (hl2:ys.length=ks.length) (x:Ent):
  fnC DP Γ0 ΔC5 nSeek [.ptr 0 0 0,entE.av x] (famC ks xs D) (TSeekM (famC ks xs D) (famC ks ys D) (famL ks) ks.length x)=TSeekM (famC ks xs D) (famC ks ys D) (famL ks) ks.length x:=by
 have hc:fnC DP Γ0 ΔC5 nSeek [.ptr 0 0 0,entE.av x] (famC ks (l5 ks.length (xs.getD 0 zD) (xs.getD 1 zD) (xs.getD 2 zD) (xs.getD 3 zD) (xs.getD 4 zD)) D) (TSeekM (famC ks (l5 ks.length (xs.getD 0 zD) (xs.getD 1 zD) (xs.getD 2 zD) (xs.getD 3 zD) (xs.getD 4 zD)) D) (famC ks (l5 ks.length (ys.getD 0 zD) (ys.getD 1 zD) (ys.getD 2 zD) (ys.getD 3 zD) (ys.getD 4 zD)) D) (famL ks) ks.length x)=_:=allP_mem allSm ks hs D _ _ _ _ _ _ _ _ _ _ x
 rw[←l5_of zD hl (shape_len ks hs),←l5_of zD hl2 (shape_len ks hs)] at hc
 exact hc
theorem fam_seek (h:xs.length=ks.length) (hk:ks[i]? = some k) (hx:xs[i]? = some x) {y:LeafD} {e:Ent} (g:SeekTo D k x y e) (T:List Box):
  liftR OSeek [.ptr (2+i) 0 0,entE.av e] (famC ks xs D++T) (vi 0) (updC (famC ks xs D) i y.c++T)∧y=x.put y.c:=by
 have hi:i<ks.length:=(List.getElem?_eq_some_iff.1 hk).1
 have hl:2+i<(famC ks xs D).length:=by rw[fam_len h]; unfold famL; omega
 have e1:=fam_leaf (D:=D) h hk hx
 have hB:(famC ks xs D++T)[2+i]? = some (leafB k (2+ks.length+nFil (ks.take i)) x.c):=by rw[List.getElem?_append_left hl,e1]
 obtain ⟨g1,g2,g3,g4,rfl⟩:=g
 refine ⟨?_,rfl⟩
 rw[fam_upd h hk hx,←fam_set h hk hx,←List.set_append_left _ _ hl]
 obtain ⟨c,nm,F⟩:=x
 obtain ⟨L,pg,bad⟩:=c
 have hb:bad=0:=g1.bad
 subst hb
 cases k with
 | false=>exact lift_lcB (R:=OSeek) (.inl ⟨L,pg,e,rfl,rfl,rfl,rfl⟩) hB (fun _ _=>rfl) (fun _=>rfl) rfl
 | true=>
  have hd:(famC ks xs D++T)[2+ks.length+nFil ks]? = some (dskB D):=by
   have:=fam_disk (D:=D) h hk
   rw[List.getElem?_append_left (List.getElem?_eq_some_iff.1 this).1,this]
  have hf:(famC ks xs D++T)[2+ks.length+nFil (ks.take i)]? = some (filC (2+ks.length+nFil ks) nm F):=by
   have:=fam_file (D:=D) h hk hx
   rw[List.getElem?_append_left (List.getElem?_eq_some_iff.1 this).1,this]
  exact lift_fcB (R:=OSeek) (.inr ⟨D,nm,F,L,pg,e,g1,g2,g4 rfl,g3,rfl,rfl,rfl,rfl⟩) hd hf hB (fun _ _=>rfl) (fun _=>rfl) rfl
theorem seek_rounds (hs:ks∈shapesM) {e:Ent}:∀ (kt kd:List Bool) (xt xd ys:List LeafD),ks=kd++kt→xd.length=kd.length→xt.length=kt.length→ys.length=kt.length →
  (∀ (i:Nat) (k:Bool) (a b:LeafD),kt[i]? = some k→xt[i]? = some a→ys[i]? = some b→SeekTo D k a b e) →
  Tri DP 121 (famL ks) true cSb (St.as (sSl (famL ks) ks.length kd.length,famC ks (xd++xt) D++ [ebx e])) fun e' s'=>e'= .exit 1∧s'=St.as ([(0, .ptr 0 0 0)],famC ks (xd++ys) D):=by
 intro kt
 have h5:=shape_len ks hs
 induction kt with
 | nil=>
  intro kd xt xd ys hk hd ht hy _
  obtain rfl:xt= []:=List.length_eq_zero_iff.1 ht
  obtain rfl:ys= []:=List.length_eq_zero_iff.1 hy
  have hkl:kd.length=ks.length:=by rw[hk]; simp
  have hc:=se_of (D:=D) hs (xs:=xd++ []) (by simp; omega) e
  rw[hkl]
  refine Tri.round ((codeC5 (K:=fun e' c=>e'= .exit 1∧c=([(0, .ptr 0 0 0)],famC ks (xd++ []) D)) hc (wp_leaf (wdN_ok _ _) ⟨rfl,rfl⟩)).conseq fun e' s' hk=>?_)
  obtain ⟨c,rfl,rfl,rfl⟩:=hk
  exact ⟨rfl,rfl⟩
 | cons k kt ih=>
  intro kd xt xd ys hk hd ht hy hg
  cases xt with
  | nil=>cases ht
  | cons x xt=>
  cases ys with
  | nil=>cases hy
  | cons y ys=>
  have hi:kd.length<ks.length:=by rw[hk]; simp
  have hkk:ks[kd.length]? = some k:=by rw[hk]; exact get_mid kd kt k
  have hxx:(xd++x::xt)[kd.length]? = some x:=by rw[←hd]; exact get_mid xd xt x
  have hlen:(xd++x::xt).length=ks.length:=by
   rw[hk]
   simp only[List.length_append,List.length_cons] at ht ⊢
   omega
  have g:=hg 0 k x y rfl rfl rfl
  obtain ⟨hp,hyc⟩:=fam_seek (D:=D) hlen hkk hxx g [ebx e]
  have hc:=sb_of (D:=D) hs hi hlen y.c e
  have hu:=fam_upd (D:=D) hlen hkk hxx y.c
  have hset:(xd++x::xt).set kd.length (x.put y.c)=(xd++ [y])++xt:=by
   rw[←hd,set_mid,←hyc]; simp
  have hr:=ih (kd++ [k]) xt (xd++ [y]) ys (by rw[hk]; simp) (by simp[hd]) (by simpa using ht) (by simpa using hy) (fun i k' a b h1 h2 h3=>hg (i+1) k' a b (by simpa using h1) (by simpa using h2) (by simpa using h3))
  have hle:(kd++ [k]).length=kd.length+1:=by simp
  rw[hle] at hr
  have hend:xd++y::ys=(xd++ [y])++ys:=by simp
  rw[hend]
  refine Tri.round ((codeC5 (K:=fun e' c=>e'= .normal∧c=(sSl (famL ks) ks.length (kd.length+1),famC ks (xd++ [y]++xt) D++ [ebx e])) hc ?_).conseq fun e' s' hk=>?_)
  ·rw[hu,hset] at hp ⊢
   unfold TSb
   exact wp_callr hp (wp_leaf (wdN_ok _ _) ⟨rfl,rfl⟩)
  ·obtain ⟨c,rfl,rfl,rfl⟩:=hk
   exact hr
theorem cSl_eq:cSl= .loop cSb:=by kernel_rfl
end
theorem SSeekM:SoundR DP iSeek OSeekM:=sound_genT mixedD Γ0_ok ΔC5_ok hfSeek heSeek hbSeek (by
 rintro args B r B' ⟨D,ks,xs,ys,x,hs,hl,hl2,hg,rfl,rfl,rfl,rfl⟩
 refine ⟨by rw[hnSeek]; rfl,_,sm_of hs hl hl2 x,?_⟩
 unfold TSeekM
 refine wp_frag (wdN_ok _ _) ?_ (wp_leaf (wdN_ok _ _) ⟨rfl,rfl⟩)
 rw[cSl_eq]
 exact .loop (seek_rounds hs ks [] xs [] ys rfl rfl hl hl2 hg))
theorem top_list:TopR (σ:=List Ent) (fun L=>lcB ⟨L,0,0⟩) 1 (fun L=>L.length≤100000000) (fun L=>L) (fun L=>L.drop 1) (fun e L=>dropW e L) where
 next:=fun L h T=>by
  have:=oNextL (B:=lcB ⟨L,0,0⟩++T) (c:=⟨L,0,0⟩) (l:=0) rfl
  refine .inl ?_
  cases L with
  | nil=>exact this
  | cons x L=>exact this
 nextR:=fun L h=>⟨by simp; omega,rfl⟩
 seek:=fun L e h he T=> .inl (lift_lcB (R:=OSeek) (c:=⟨L,0,0⟩) (c':=⟨dropW e L,0,0⟩) (B:=lcB ⟨L,0,0⟩++T) (l:=0) (.inl ⟨L,0,e,rfl,rfl,rfl,rfl⟩) rfl (fun _ _=>rfl) (fun _=>rfl) rfl)
 seekR:=fun L e h he=>⟨Nat.le_trans (List.dropWhile_sublist _).length_le h,rfl⟩
 few:=fun L h=>h
end Go.Ax

namespace Go.Ax
open Go.Proofs Go.RowKit
set_option maxRecDepth 100000

def entsE:Enc (List Ent):=⟨fun L=> .ls (L.map entE.f),1,fun _=>rfl,fun _=>rfl⟩
noncomputable def ΓC7:Env:=envP [(iCloneE,gCloneE)]

noncomputable def TListC (L:List Ent):Tree:=
.call 4 (gCloneE [vl (L.map entE.f)]=some (vl (L.map entE.f))) (vl (L.map entE.f)) (.leaf ⟨[0],[(0,0,none)]⟩ [] .ret (some ([(0, .ptr 0 0 0)],[.cells false 0 ([vi 1,vl (L.map entE.f), .p (.v (.pointer none)),vi 0,nilS,vi 0])])))

theorem TListC_chk (L:List Ent):fnC DP ΓC7 Δ0 Tryd.f11 [vl (L.map entE.f)] [] (TListC L)=TListC L:=by kernel_rfl

noncomputable def TBigC_l1_e (ll:List (List Ent)) (s1:Int):St:=([(10,vl (ll.map entsE.f)),(11,vi (ll.length:Int)),(12,vi s1)],[])
noncomputable def TBigC_l1_x (x1:Unit):AE×St:=(.ret,([(2,vb true)],[]))
noncomputable def TBigC_l1_x' (y1:Unit):AE×St:=((.exit 0),([],[]))
noncomputable def TBigC_l2_e (ll:List (List Ent)) (s1:Int) (e1:(List Ent)) (s2:Int):St:=([(10,vl (ll.map entsE.f)),(11,vi (ll.length:Int)),(12,vi s1),(19,vl (e1.map entE.f)),(20,vi (e1.length:Int)),(21,vi s2)],[])
noncomputable def TBigC_l2_x (x2:Unit):AE×St:=(.ret,([(2,vb true)],[]))
noncomputable def TBigC_l2_x' (ll:List (List Ent)) (s1:Int) (y2:Unit):AE×St:=((.exit 2),([(10,vl (ll.map entsE.f)),(11,vi (ll.length:Int)),(12,vi s1)],[]))
noncomputable def TBigC_l2_b (ll:List (List Ent)) (s1:Int) (e1:(List Ent)) (s2:Int):Tree:=
.sp 22 (decide (s2<(e1.length:Int))) (
.elem 23 (e1.map entE.f) entE e1 s2 (fun e2=> .sp 28 (decide ((e2.key.size:Int)>(200:Int))) (
.leaf ⟨[2],[]⟩ [] .ret (some (TBigC_l2_x ()).2)) (
.sp 33 (decide ((e2.val.size:Int)>(200:Int))) (
.leaf ⟨[2],[]⟩ [] .ret (some (TBigC_l2_x ()).2)) (
.int 35 (IntKind.i64.wrap (s2+1)) (s2+1) (.leaf ⟨[10,11,12,19,20,21],[]⟩ [] .normal (some (TBigC_l2_e ll s1 e1 (s2+1)))))))) (
.leaf ⟨[10,11,12],[]⟩ [] (.exit 2) (some (TBigC_l2_x' ll s1 ()).2))
noncomputable def TBigC_l1_b (ll:List (List Ent)) (s1:Int):Tree:=
.sp 13 (decide (s1<(ll.length:Int))) (
.elem 14 (ll.map entsE.f) entsE ll s1 (fun e1=> .int 17 ((e1.map entE.f).length:Int) (e1.length:Int) (.sp 18 (decide ((e1.length:Int)>(25:Int))) (
.leaf ⟨[2],[]⟩ [] .ret (some (TBigC_l1_x ()).2)) (
.int 20 ((e1.map entE.f).length:Int) (e1.length:Int) (.loop ⟨[10,11,12,19,20,21],[]⟩ [] (some (TBigC_l2_e ll s1 e1 0)) (TBigC_l2_e ll s1 e1) (TBigC_l2_x) (TBigC_l2_x' ll s1) 0 (TBigC_l2_b ll s1 e1) (fun (x2:Unit)=> .leaf ⟨[2],[]⟩ [] .ret (some (TBigC_l1_x ()).2)) (fun (y2:Unit)=> .int 36 (IntKind.i64.wrap (s1+1)) (s1+1) (.leaf ⟨[10,11,12],[]⟩ [] .normal (some (TBigC_l1_e ll (s1+1)))))))))) (
.leaf ⟨[],[]⟩ [] (.exit 0) (some (TBigC_l1_x' ()).2))
noncomputable def TBigC (ll:List (List Ent)):Tree:=
.int 8 ((ll.map entsE.f).length:Int) (ll.length:Int) (.sp 9 (decide ((ll.length:Int)>(5:Int))) (
.leaf ⟨[0],[]⟩ [] .ret (some ([(0,vb true)],[]))) (
.int 11 ((ll.map entsE.f).length:Int) (ll.length:Int) (.loop ⟨[10,11,12],[]⟩ [] (some (TBigC_l1_e ll 0)) (TBigC_l1_e ll) (TBigC_l1_x) (TBigC_l1_x') 0 (TBigC_l1_b ll) (fun (x1:Unit)=> .leaf ⟨[0],[]⟩ [] .ret (some ([(0,vb true)],[]))) (fun (y1:Unit)=> .leaf ⟨[0],[]⟩ [] .ret (some ([(0,vb false)],[]))))))

theorem TBigC_chk (ll:List (List Ent)):fnC DP Γ0 Δ0 Tryd.f9 [vl (ll.map entsE.f)] [] (TBigC ll)=TBigC ll:=by kernel_rfl

abbrev iHeadC:Nat:=8
noncomputable abbrev nHeadC:Func:=Tryd.f8
theorem hfHeadC:DP.funcs[iHeadC]? = some nHeadC:=by kernel_rfl
theorem heHeadC:enters DP iHeadC=true:=by kernel_rfl
theorem hbHeadC:nHeadC.body.isSome=true:=by kernel_rfl
abbrev iBigC:Nat:=9
noncomputable abbrev nBigC:Func:=Tryd.f9
theorem hfBigC:DP.funcs[iBigC]? = some nBigC:=by kernel_rfl
theorem heBigC:enters DP iBigC=true:=by kernel_rfl
theorem hbBigC:nBigC.body.isSome=true:=by kernel_rfl
theorem hnBigC:nBigC.ntmps=37:=by kernel_rfl

end Go.Ax

namespace Go.Ax
open Go.Proofs Go.RowKit
set_option maxRecDepth 100000

theorem ΓC7_ok:∀ f,SoundF DP f (ΓC7 f):=envP_cons SCloneE envP_nil
def OListC:RSpec:=fun args B r B'=>∃ L:List Ent,L.length≤1000000000∧args= [vl (L.map entE.f)]∧B= []∧r= .ptr 0 0 0∧B'=lcB ⟨L,0,0⟩
theorem SListC:SoundR DP iListC OListC:=sound_genT mixedD ΓC7_ok Δ0_ok hfListC heListC hbListC (by
 rintro args B r B' ⟨L,hL,rfl,rfl,rfl,rfl⟩
 refine ⟨by rw[hnListC]; rfl,_,TListC_chk L,?_⟩
 unfold TListC
 exact wp_call (gClone_eqE hL) (wp_leaf rfl ⟨rfl,rfl⟩))
theorem oListC {B:List Box} {L:List Ent} (hL:L.length≤1000000000):liftR OListC [vl (L.map entE.f)] B (.ptr B.length 0 0) (B++lcB ⟨L,0,0⟩):=by
 refine ⟨_,_,_,_,⟨L,hL,rfl,rfl,rfl,rfl⟩,⟨[],[],[],[],lcB ⟨L,0,0⟩,rfl,rfl,?_,rfl,trivial,⟨.cells ?_ ?_ rfl,trivial⟩,?_,?_,rfl⟩⟩
 ·simp[AV.rv.rvL,AV.rv]
 ·simp[dNew]
 ·simp[AV.rv.rvL,AV.rv,fNew,dNew]
 ·rw[outB]
 ·simp[AV.rv,fNew,dNew]
abbrev liveO (L:List Ent) (from_ to_:ByteArray) (seq most:Int):List Ent:=(liveS to_ seq most (dropW (firstK from_) L) [] ⟨#[]⟩ false).1
abbrev liveC (L:List Ent) (from_ to_:ByteArray) (seq most:Int):List Ent:=itN (fun L:List Ent=>L.drop 1) (liveS to_ seq most (dropW (firstK from_) L) [] ⟨#[]⟩ false).2 (dropW (firstK from_) L)
def OLiveL:RSpec:=fun args B r B'=>∃ (L:List Ent) (from_ to_:ByteArray) (seq most:Int),L.length≤100000000∧from_.size≤400000000∧¬72057594037927935<seq∧args= [.ptr 0 0 0,vs from_,vs to_,vn .u64 seq,vi most]∧B=lcB ⟨L,0,0⟩ ∧
 r= .tup [.rs 1 0 4 0 (liveO L from_ to_ seq most).length,vi 0]∧B'=lcB ⟨liveC L from_ to_ seq most,0,0⟩++ [entE.bx 0 (liveO L from_ to_ seq most)]
theorem SLiveL:SoundR DP iLive OLiveL:=(SLive SSeekM top_list live_l).mono (by
 rintro args B r B' ⟨L,from_,to_,seq,most,hL,hf,hq,rfl,rfl,rfl,rfl⟩
 exact ⟨L,from_,to_,seq,most,hL,hf,rfl,rfl, .inr ⟨hq,rfl,rfl⟩⟩)
theorem oLiveL {B:List Box} {l:Nat} {L:List Ent} {from_ to_:ByteArray} {seq most:Int} (hL:L.length≤100000000) (hf:from_.size≤400000000) (hq:¬72057594037927935<seq) (hl:B[l]? = some (curB 1 nilQ ⟨L,0,0⟩)):
  liftR OLiveL [.ptr l 0 0,vs from_,vs to_,vn .u64 seq,vi most] B (.tup [.rs B.length 0 4 0 (liveO L from_ to_ seq most).length,vi 0]) (B.set l (curB 1 nilQ ⟨liveC L from_ to_ seq most,0,0⟩)++ [entE.bx 0 (liveO L from_ to_ seq most)]):=by
 have hll:l<B.length:=(List.getElem?_eq_some_iff.1 hl).1
 refine ⟨_,_,_,_,⟨L,from_,to_,seq,most,hL,hf,hq,rfl,rfl,rfl,rfl⟩,⟨[l],[0],[curB 1 nilQ ⟨L,0,0⟩],[curB 1 nilQ ⟨liveC L from_ to_ seq most,0,0⟩],[entE.bx 0 (liveO L from_ to_ seq most)],?_,?_,?_,?_,⟨.cells ?_ ?_ rfl,trivial⟩,⟨.cells ?_ ?_ rfl, .row true 0 _,trivial⟩,?_,?_,rfl⟩⟩
 ·simp[noDup,Nat.blt_eq,hll]
 ·simp[hl]
 ·simp[AV.rv.rvL,AV.rv,fNew,dNew]
 ·rfl
 all_goals first
  | (simp[dNew]; done)
  | (simp[AV.rv.rvL,AV.rv,fNew,dNew]; done)
  | (rw[outB,outB]; done)
def bigEn (x:Ent):Bool:=decide ((x.key.size:Int)>200)||decide ((x.val.size:Int)>200)
def bigLs (l:List Ent):Bool:=decide ((l.length:Int)>25)||l.any bigEn
def bigLL (ll:List (List Ent)):Bool:=decide ((ll.length:Int)>5)||ll.any bigLs
theorem big_in (ll:List (List Ent)) (s1:Int) (e1:List Ent) (hN:e1.length≤25):∀ (M:List Ent) (j:Nat),e1.drop j=M→j+M.length=e1.length →
  Rounds (TBigC_l2_e ll s1 e1) TBigC_l2_x (TBigC_l2_x' ll s1) (fun s=>(TBigC_l2_b ll s1 e1 s).wp) (j:Int) (if M.any bigEn then .inl () else .inr ()):=by
 intro M
 induction M with
 | nil=>
  intro j hM hl
  simp only[List.length_nil] at hl
  refine .done' (by intro e; cases e) ?_
  unfold TBigC_l2_b
  exact wp_sp (fun q=>absurd (of_decide_eq_true q) (by omega)) (fun _=>wp_leaf rfl ⟨rfl,rfl⟩)
 | cons x M ih=>
  intro j hM hl
  simp only[List.length_cons] at hl
  have gx:e1[j]? = some x:=by rw[←List.head?_drop,hM]; rfl
  have hr:=ih (j+1) (by rw[←List.drop_drop,hM]; rfl) (by omega)
  rw[show ((j+1:Nat):Int)=(j:Int)+1 by omega] at hr
  by_cases hb:bigEn x=true
  ·rw[List.any_cons,hb,Bool.true_or,if_pos rfl]
   refine .done (by intro e; cases e) ?_
   unfold bigEn at hb
   unfold TBigC_l2_b
   exact wp_sp (fun _=>wp_elem0 x (by omega) (by simpa using gx) (wp_sp (fun _=>wp_leaf rfl ⟨rfl,rfl⟩) (fun q1=>wp_sp (fun _=>wp_leaf rfl ⟨rfl,rfl⟩) (fun q2=>by rw[q1,q2] at hb; cases hb)))) (fun q=>absurd (of_decide_eq_false q) (by omega))
  ·have hb0:bigEn x=false:=by simpa using hb
   rw[List.any_cons,hb0,Bool.false_or]
   refine .next ?_ hr
   unfold bigEn at hb
   unfold TBigC_l2_b
   exact wp_sp (fun _=>wp_elem0 x (by omega) (by simpa using gx) (wp_sp (fun q1=>absurd (by rw[q1]; rfl) hb) (fun _=>wp_sp (fun q2=>absurd (by rw[q2,Bool.or_true]) hb) (fun _=>wp_i64 (by omega) (wp_leaf rfl ⟨rfl,rfl⟩))))) (fun q=>absurd (of_decide_eq_false q) (by omega))
theorem big_out (ll:List (List Ent)) (hN:ll.length≤5):∀ (M:List (List Ent)) (j:Nat),ll.drop j=M→j+M.length=ll.length →
  Rounds (TBigC_l1_e ll) TBigC_l1_x TBigC_l1_x' (fun s=>(TBigC_l1_b ll s).wp) (j:Int) (if M.any bigLs then .inl () else .inr ()):=by
 intro M
 induction M with
 | nil=>
  intro j hM hl
  simp only[List.length_nil] at hl
  refine .done' (by intro e; cases e) ?_
  unfold TBigC_l1_b
  exact wp_sp (fun q=>absurd (of_decide_eq_true q) (by omega)) (fun _=>wp_leaf rfl ⟨rfl,rfl⟩)
 | cons l M ih=>
  intro j hM hl
  simp only[List.length_cons] at hl
  have gx:ll[j]? = some l:=by rw[←List.head?_drop,hM]; rfl
  have hr:=ih (j+1) (by rw[←List.drop_drop,hM]; rfl) (by omega)
  rw[show ((j+1:Nat):Int)=(j:Int)+1 by omega] at hr
  by_cases hb:bigLs l=true
  ·rw[List.any_cons,hb,Bool.true_or,if_pos rfl]
   refine .done (by intro e; cases e) ?_
   unfold TBigC_l1_b
   refine wp_sp (fun _=>wp_elem0 l (by omega) (by simpa using gx) (wp_len (wp_sp (fun _=>wp_leaf rfl ⟨rfl,rfl⟩) (fun q1=>wp_len ?_)))) (fun q=>absurd (of_decide_eq_false q) (by omega))
   have hin:=big_in ll (j:Int) l (by have:=of_decide_eq_false q1; omega) l 0 List.drop_zero (Nat.zero_add _)
   unfold bigLs at hb
   rw[q1,Bool.false_or] at hb
   rw[hb,if_pos rfl] at hin
   exact wp_loop _ rfl hin (wp_leaf rfl ⟨rfl,rfl⟩)
  ·have hb0:bigLs l=false:=by simpa using hb
   rw[List.any_cons,hb0,Bool.false_or]
   refine .next ?_ hr
   unfold bigLs at hb0
   rw[Bool.or_eq_false_iff] at hb0
   unfold TBigC_l1_b
   refine wp_sp (fun _=>wp_elem0 l (by omega) (by simpa using gx) (wp_len (wp_sp (fun q1=>by rw[hb0.1] at q1; cases q1) (fun q1=>wp_len ?_)))) (fun q=>absurd (of_decide_eq_false q) (by omega))
   have hin:=big_in ll (j:Int) l (by have:=of_decide_eq_false q1; omega) l 0 List.drop_zero (Nat.zero_add _)
   rw[hb0.2,if_neg (by decide)] at hin
   exact wp_loop' _ rfl hin (wp_i64 (by omega) (wp_leaf rfl ⟨rfl,rfl⟩))
theorem SBigC:SoundR DP iBigC (fun args B r B'=>∃ ll:List (List Ent),args= [vl (ll.map entsE.f)]∧B= []∧r=vb (bigLL ll)∧B'= []):=sound_genT mixedD Γ0_ok Δ0_ok hfBigC heBigC hbBigC (by
 rintro args B r B' ⟨ll,rfl,rfl,rfl,rfl⟩
 refine ⟨by rw[hnBigC]; rfl,_,TBigC_chk ll,?_⟩
 unfold TBigC bigLL
 refine wp_len (wp_sp (fun q=>?_) (fun q=>wp_len ?_))
 ·rw[q,Bool.true_or]; exact wp_leaf rfl ⟨rfl,rfl⟩
 ·have ho:=big_out ll (by have:=of_decide_eq_false q; omega) ll 0 List.drop_zero (Nat.zero_add _)
  rw[q,Bool.false_or]
  by_cases hb:ll.any bigLs=true
  ·rw[hb,if_pos rfl] at ho
   rw[hb]
   exact wp_loop _ rfl ho (wp_leaf rfl ⟨rfl,rfl⟩)
  ·have hb0:ll.any bigLs=false:=by simpa using hb
   rw[hb0,if_neg (by decide)] at ho
   rw[hb0]
   exact wp_loop' _ rfl ho (wp_leaf rfl ⟨rfl,rfl⟩))
def OBigC:RSpec:=fun args B r B'=>∃ ll:List (List Ent),args= [vl (ll.map entsE.f)]∧B= []∧r=vb (bigLL ll)∧B'= []
theorem oBigC {B:List Box} (ll:List (List Ent)):liftR OBigC [vl (ll.map entsE.f)] B (vb (bigLL ll)) B:=lift_none (R:=OBigC) ⟨ll,rfl,rfl,rfl,rfl⟩ (fun _ _=>rfl) (fun _=>rfl) rfl
end Go.Ax

namespace Go.Ax
open Go.Proofs Go.RowKit
set_option maxRecDepth 100000

noncomputable def ΔC8:REnv:=envR [(iListC,orR (liftR OListC) (sealR (liftR OListC))),(iLive,liftR OLiveL)]

noncomputable def THeadC (o1:List Ent) (r1:List Ent) (o2:List Ent) (r2:List Ent):Tree:=
.sealslot 2 1 (rowC (([(⟨(⟨#[97]⟩:ByteArray),5,false,(⟨#[]⟩:ByteArray)⟩:Ent),(⟨(⟨#[98]⟩:ByteArray),4,true,(⟨#[]⟩:ByteArray)⟩:Ent),(⟨(⟨#[98]⟩:ByteArray),2,false,(⟨#[]⟩:ByteArray)⟩:Ent),(⟨(⟨#[99]⟩:ByteArray),9,false,(⟨#[]⟩:ByteArray)⟩:Ent)]).map entE.f)) (([(⟨(⟨#[97]⟩:ByteArray),5,false,(⟨#[]⟩:ByteArray)⟩:Ent),(⟨(⟨#[98]⟩:ByteArray),4,true,(⟨#[]⟩:ByteArray)⟩:Ent),(⟨(⟨#[98]⟩:ByteArray),2,false,(⟨#[]⟩:ByteArray)⟩:Ent),(⟨(⟨#[99]⟩:ByteArray),9,false,(⟨#[]⟩:ByteArray)⟩:Ent)]).length) entE ([(⟨(⟨#[97]⟩:ByteArray),5,false,(⟨#[]⟩:ByteArray)⟩:Ent),(⟨(⟨#[98]⟩:ByteArray),4,true,(⟨#[]⟩:ByteArray)⟩:Ent),(⟨(⟨#[98]⟩:ByteArray),2,false,(⟨#[]⟩:ByteArray)⟩:Ent),(⟨(⟨#[99]⟩:ByteArray),9,false,(⟨#[]⟩:ByteArray)⟩:Ent)]) (.callr (some 13) (ΔC8 11 [vl (([(⟨(⟨#[97]⟩:ByteArray),5,false,(⟨#[]⟩:ByteArray)⟩:Ent),(⟨(⟨#[98]⟩:ByteArray),4,true,(⟨#[]⟩:ByteArray)⟩:Ent),(⟨(⟨#[98]⟩:ByteArray),2,false,(⟨#[]⟩:ByteArray)⟩:Ent),(⟨(⟨#[99]⟩:ByteArray),9,false,(⟨#[]⟩:ByteArray)⟩:Ent)]).map entE.f)] [.dead] (.ptr 1 0 0) [.dead, .cells false 0 ([vi 1,vl (([(⟨(⟨#[97]⟩:ByteArray),5,false,(⟨#[]⟩:ByteArray)⟩:Ent),(⟨(⟨#[98]⟩:ByteArray),4,true,(⟨#[]⟩:ByteArray)⟩:Ent),(⟨(⟨#[98]⟩:ByteArray),2,false,(⟨#[]⟩:ByteArray)⟩:Ent),(⟨(⟨#[99]⟩:ByteArray),9,false,(⟨#[]⟩:ByteArray)⟩:Ent)]).map entE.f), .p (.v (.pointer none)),vi 0,nilS,vi 0])]) (.ptr 1 0 0) [.dead, .cells false 0 ([vi 1,vl (([(⟨(⟨#[97]⟩:ByteArray),5,false,(⟨#[]⟩:ByteArray)⟩:Ent),(⟨(⟨#[98]⟩:ByteArray),4,true,(⟨#[]⟩:ByteArray)⟩:Ent),(⟨(⟨#[98]⟩:ByteArray),2,false,(⟨#[]⟩:ByteArray)⟩:Ent),(⟨(⟨#[99]⟩:ByteArray),9,false,(⟨#[]⟩:ByteArray)⟩:Ent)]).map entE.f), .p (.v (.pointer none)),vi 0,nilS,vi 0])] (.callr (some 14) (ΔC8 20 [.ptr 1 0 0,vs (⟨#[]⟩),vs (⟨#[]⟩),vn .u64 8,vi 9] [.dead, .cells false 0 ([vi 1,vl (([(⟨(⟨#[97]⟩:ByteArray),5,false,(⟨#[]⟩:ByteArray)⟩:Ent),(⟨(⟨#[98]⟩:ByteArray),4,true,(⟨#[]⟩:ByteArray)⟩:Ent),(⟨(⟨#[98]⟩:ByteArray),2,false,(⟨#[]⟩:ByteArray)⟩:Ent),(⟨(⟨#[99]⟩:ByteArray),9,false,(⟨#[]⟩:ByteArray)⟩:Ent)]).map entE.f), .p (.v (.pointer none)),vi 0,nilS,vi 0])] (.tup [.rs 2 0 4 0 o1.length,vi 0]) [.dead, .cells false 0 ([vi 1,vl (r1.map entE.f), .p (.v (.pointer none)),vi 0,nilS,vi 0]),entE.bx 0 o1]) (.tup [.rs 2 0 4 0 o1.length,vi 0]) [.dead, .cells false 0 ([vi 1,vl (r1.map entE.f), .p (.v (.pointer none)),vi 0,nilS,vi 0]),entE.bx 0 o1] (.callr (some 19) (ΔC8 11 [vl (([(⟨(⟨#[97]⟩:ByteArray),5,false,(⟨#[]⟩:ByteArray)⟩:Ent),(⟨(⟨#[98]⟩:ByteArray),4,true,(⟨#[]⟩:ByteArray)⟩:Ent),(⟨(⟨#[98]⟩:ByteArray),2,false,(⟨#[]⟩:ByteArray)⟩:Ent),(⟨(⟨#[99]⟩:ByteArray),9,false,(⟨#[]⟩:ByteArray)⟩:Ent)]).map entE.f)] [.dead, .cells false 0 ([vi 1,vl (r1.map entE.f), .p (.v (.pointer none)),vi 0,nilS,vi 0]),entE.bx 0 o1] (.ptr 3 0 0) [.dead, .cells false 0 ([vi 1,vl (r1.map entE.f), .p (.v (.pointer none)),vi 0,nilS,vi 0]),entE.bx 0 o1, .cells false 0 ([vi 1,vl (([(⟨(⟨#[97]⟩:ByteArray),5,false,(⟨#[]⟩:ByteArray)⟩:Ent),(⟨(⟨#[98]⟩:ByteArray),4,true,(⟨#[]⟩:ByteArray)⟩:Ent),(⟨(⟨#[98]⟩:ByteArray),2,false,(⟨#[]⟩:ByteArray)⟩:Ent),(⟨(⟨#[99]⟩:ByteArray),9,false,(⟨#[]⟩:ByteArray)⟩:Ent)]).map entE.f), .p (.v (.pointer none)),vi 0,nilS,vi 0])]) (.ptr 3 0 0) [.dead, .cells false 0 ([vi 1,vl (r1.map entE.f), .p (.v (.pointer none)),vi 0,nilS,vi 0]),entE.bx 0 o1, .cells false 0 ([vi 1,vl (([(⟨(⟨#[97]⟩:ByteArray),5,false,(⟨#[]⟩:ByteArray)⟩:Ent),(⟨(⟨#[98]⟩:ByteArray),4,true,(⟨#[]⟩:ByteArray)⟩:Ent),(⟨(⟨#[98]⟩:ByteArray),2,false,(⟨#[]⟩:ByteArray)⟩:Ent),(⟨(⟨#[99]⟩:ByteArray),9,false,(⟨#[]⟩:ByteArray)⟩:Ent)]).map entE.f), .p (.v (.pointer none)),vi 0,nilS,vi 0])] (.callr (some 20) (ΔC8 20 [.ptr 3 0 0,vs (⟨#[]⟩),vs (⟨#[]⟩),vn .u64 3,vi 9] [.dead, .cells false 0 ([vi 1,vl (r1.map entE.f), .p (.v (.pointer none)),vi 0,nilS,vi 0]),entE.bx 0 o1, .cells false 0 ([vi 1,vl (([(⟨(⟨#[97]⟩:ByteArray),5,false,(⟨#[]⟩:ByteArray)⟩:Ent),(⟨(⟨#[98]⟩:ByteArray),4,true,(⟨#[]⟩:ByteArray)⟩:Ent),(⟨(⟨#[98]⟩:ByteArray),2,false,(⟨#[]⟩:ByteArray)⟩:Ent),(⟨(⟨#[99]⟩:ByteArray),9,false,(⟨#[]⟩:ByteArray)⟩:Ent)]).map entE.f), .p (.v (.pointer none)),vi 0,nilS,vi 0])] (.tup [.rs 4 0 4 0 o2.length,vi 0]) [.dead, .cells false 0 ([vi 1,vl (r1.map entE.f), .p (.v (.pointer none)),vi 0,nilS,vi 0]),entE.bx 0 o1, .cells false 0 ([vi 1,vl (r2.map entE.f), .p (.v (.pointer none)),vi 0,nilS,vi 0]),entE.bx 0 o2]) (.tup [.rs 4 0 4 0 o2.length,vi 0]) [.dead, .cells false 0 ([vi 1,vl (r1.map entE.f), .p (.v (.pointer none)),vi 0,nilS,vi 0]),entE.bx 0 o1, .cells false 0 ([vi 1,vl (r2.map entE.f), .p (.v (.pointer none)),vi 0,nilS,vi 0]),entE.bx 0 o2] (.sp 32 (((o1.length:Nat):Int) == (1:Int)) (
.ridx 36 o1.length 0 (.rload 38 (rowC (o1.map entE.f)) (0+Int.toNat 0*4+0) entE o1 0 0 (fun e1=> .sp 39 (e1.key.toList == (⟨#[97]⟩:ByteArray).toList) (
.sp 44 (((o2.length:Nat):Int) == (1:Int)) (
.ridx 48 o2.length 0 (.rload 50 (rowC (o2.map entE.f)) (0+Int.toNat 0*4+0) entE o2 0 0 (fun e2=> .sp 51 (e2.key.toList == (⟨#[98]⟩:ByteArray).toList) (
.ridx 55 o2.length 0 (.rload 57 (rowC (o2.map entE.f)) (0+Int.toNat 0*4+1) entE o2 0 1 (fun e3=> .leaf ⟨[0],[]⟩ [] .ret (some ([(0,vb (e3.seq == (2:Int)))],[]))))) (
.leaf ⟨[0],[]⟩ [] .ret (some ([(0,vb false)],[])))))) (
.leaf ⟨[0],[]⟩ [] .ret (some ([(0,vb false)],[])))) (
.leaf ⟨[0],[]⟩ [] .ret (some ([(0,vb false)],[])))))) (
.leaf ⟨[0],[]⟩ [] .ret (some ([(0,vb false)],[]))))))))

theorem THeadC_chk (o1:List Ent) (r1:List Ent) (o2:List Ent) (r2:List Ent):fnC DP Γ0 ΔC8 Tryd.f8 [] [] (THeadC o1 r1 o2 r2)=THeadC o1 r1 o2 r2:=by kernel_rfl

end Go.Ax

namespace Go.Ax
open Go.Proofs Go.RowKit
set_option maxRecDepth 100000

theorem ΔC8_ok:∀ f,SoundR DP f (ΔC8 f):=envR_cons ((lift_sound SListC).or (lift_sound SListC).shutRow) (envR_cons (lift_sound SLiveL) envR_nil)
def exC:List Ent:= [⟨⟨#[97]⟩,5,false,⟨#[]⟩⟩,⟨⟨#[98]⟩,4,true,⟨#[]⟩⟩,⟨⟨#[98]⟩,2,false,⟨#[]⟩⟩,⟨⟨#[99]⟩,9,false,⟨#[]⟩⟩]
theorem exC_drop:dropW (firstK ⟨#[]⟩) exC=exC:=by rfl
theorem exC_1:liveO exC ⟨#[]⟩ ⟨#[]⟩ 8 9= [⟨⟨#[97]⟩,5,false,⟨#[]⟩⟩]:=by
 unfold liveO
 rw[exC_drop]
 simp[exC,liveS,stopL,skipL,ByteArray.toList_eq]
theorem exC_2:liveO exC ⟨#[]⟩ ⟨#[]⟩ 3 9= [⟨⟨#[98]⟩,2,false,⟨#[]⟩⟩]:=by
 unfold liveO
 rw[exC_drop]
 simp[exC,liveS,stopL,skipL,ByteArray.toList_eq]
def RHeadC:List AV→AV→Prop:=fun args r=>args= []∧r=vb true
noncomputable def gHeadC:=relG RHeadC
theorem gHeadC_eq:gHeadC []=some (vb true):=relG_eq (fun _ _ _ h1 h2=>h1.2.trans h2.2.symm) ⟨rfl,rfl⟩
theorem SHeadC:SoundF DP iHeadC (.pure gHeadC):=sound_pureT mixedD Γ0_ok ΔC8_ok hfHeadC heHeadC hbHeadC (by
 rintro args r ⟨rfl,rfl⟩
 refine ⟨rfl,rfl,_,THeadC_chk (liveO exC ⟨#[]⟩ ⟨#[]⟩ 8 9) (liveC exC ⟨#[]⟩ ⟨#[]⟩ 8 9) (liveO exC ⟨#[]⟩ ⟨#[]⟩ 3 9) (liveC exC ⟨#[]⟩ ⟨#[]⟩ 3 9),?_⟩
 have l1:=fun (B:List Box)=>oListC (B:=B) (L:=exC) (by decide)
 have l2:=fun (s:Int) (h:¬72057594037927935<s) (l:Nat) (B:List Box) (hl:B[l]? = some (curB 1 nilQ ⟨exC,0,0⟩))=>oLiveL (B:=B) (l:=l) (L:=exC) (from_:=⟨#[]⟩) (to_:=⟨#[]⟩) (seq:=s) (most:=9) (by decide) (by decide) h hl
 unfold THeadC
 refine ⟨rfl,rfl,?_⟩
 refine wp_callr (.inl (l1 _)) (wp_callr (l2 8 (by decide) 1 _ rfl) (wp_callr (.inl (l1 _)) (wp_callr (l2 3 (by decide) 3 _ rfl) ?_)))
 rw[exC_1,exC_2]
 refine wp_sp (fun _=>wp_ridx (by decide) (by decide) (wp_rload _ (by decide) rfl rfl (wp_sp (fun _=>?_) (fun q=>absurd q (by simp))))) (fun q=>absurd q (by decide))
 refine wp_sp (fun _=>wp_ridx (by decide) (by decide) (wp_rload _ (by decide) rfl rfl (wp_sp (fun _=>?_) (fun q=>absurd q (by simp))))) (fun q=>absurd q (by decide))
 exact wp_ridx (by decide) (by decide) (wp_rload _ (by decide) rfl rfl (wp_leaf rfl (.p _))))
end Go.Ax

namespace Go.Ax
open Go.Proofs Go.RowKit
set_option maxRecDepth 100000

abbrev csX (n:Nat):Box:= .cells true 0 ((List.range n).map fun j=> .ptr (1+j) 0 0)
def mB (ks:List Bool) (xs:List LeafD) (D:Dsk):List Box:=csX ks.length::(leafsC ks xs (1+ks.length)++(flsC ks xs (1+ks.length+nFil ks)++diskC ks D))
abbrev mL (ks:List Bool):Nat:=1+ks.length+nFil ks+(if nFil ks=0 then 0 else 1)
abbrev manyX (m n:Nat):Box:= .cells false 0 [vi 3,nilS,nilQ,vi 0, .rs (m+1) 0 1 0 n,vi 0]
noncomputable def TCloneP (B:List Box) (m n:Nat):Tree:=
.leaf (wdT [0] m [(m,1,none)]) [] .ret (some ([(0, .rs m 0 1 0 n)],B++ [csX n]))
theorem wdT_one {sl:List Nat} {m a b:Nat}:oldsOk (wdT sl m [(a,b,none)]) []:=by
 unfold oldsOk wdT
 simp
theorem wdT_two {sl:List Nat} {m a b c d:Nat}:oldsOk (wdT sl m [(a,b,none),(c,d,none)]) []:=by
 unfold oldsOk wdT
 simp
def OCloneP:RSpec:=fun args B r B'=>∃ (ks:List Bool) (xs:List LeafD) (D:Dsk),ks∈shapesM∧xs.length=ks.length∧args= [.rs 0 0 1 0 ks.length]∧B=mB ks xs D∧r= .rs (mL ks) 0 1 0 ks.length∧B'=mB ks xs D++ [csX ks.length]
def OManyC:RSpec:=fun args B r B'=>∃ (ks:List Bool) (xs:List LeafD) (D:Dsk),ks∈shapesM∧xs.length=ks.length∧args= [.rs 0 0 1 0 ks.length]∧B=mB ks xs D∧r= .ptr (mL ks) 0 0∧B'=mB ks xs D++ [manyX (mL ks) ks.length,csX ks.length]
noncomputable def ΔC9:REnv:=envR [(iCloneP,OCloneP)]
noncomputable def TManyC (B:List Box) (m n:Nat):Tree:=
.callr (some 4) (ΔC9 iCloneP [.rs 0 0 1 0 n] B (.rs m 0 1 0 n) (B++ [csX n])) (.rs m 0 1 0 n) (B++ [csX n]) (.leaf (wdT [0] m [(m+1,0,none),(m,0,none)]) [] .ret (some ([(0, .ptr m 0 0)],B++ [manyX m n,csX n])))
def RCp (ks:List Bool):Prop:=∀ (D:Dsk) (x0 x1 x2 x3 x4:LeafD),
 fnC DP Γ0 Δ0 nCloneP [.rs 0 0 1 0 ks.length] (mB ks (l5 ks.length x0 x1 x2 x3 x4) D) (TCloneP (mB ks (l5 ks.length x0 x1 x2 x3 x4) D) (mL ks) ks.length)=TCloneP (mB ks (l5 ks.length x0 x1 x2 x3 x4) D) (mL ks) ks.length
def RMc (ks:List Bool):Prop:=∀ (D:Dsk) (x0 x1 x2 x3 x4:LeafD),
 fnC DP Γ0 ΔC9 nManyC [.rs 0 0 1 0 ks.length] (mB ks (l5 ks.length x0 x1 x2 x3 x4) D) (TManyC (mB ks (l5 ks.length x0 x1 x2 x3 x4) D) (mL ks) ks.length)=TManyC (mB ks (l5 ks.length x0 x1 x2 x3 x4) D) (mL ks) ks.length
theorem allCp:allP RCp shapesM:=⟨by intro D x0 x1 x2 x3 x4; kernel_rfl,by intro D x0 x1 x2 x3 x4; kernel_rfl,by intro D x0 x1 x2 x3 x4; kernel_rfl,by intro D x0 x1 x2 x3 x4; kernel_rfl,by intro D x0 x1 x2 x3 x4; kernel_rfl,by intro D x0 x1 x2 x3 x4; kernel_rfl,by intro D x0 x1 x2 x3 x4; kernel_rfl,by intro D x0 x1 x2 x3 x4; kernel_rfl,by intro D x0 x1 x2 x3 x4; kernel_rfl,by intro D x0 x1 x2 x3 x4; kernel_rfl,by intro D x0 x1 x2 x3 x4; kernel_rfl,by intro D x0 x1 x2 x3 x4; kernel_rfl,by intro D x0 x1 x2 x3 x4; kernel_rfl,trivial⟩
theorem allMc:allP RMc shapesM:=⟨by intro D x0 x1 x2 x3 x4; kernel_rfl,by intro D x0 x1 x2 x3 x4; kernel_rfl,by intro D x0 x1 x2 x3 x4; kernel_rfl,by intro D x0 x1 x2 x3 x4; kernel_rfl,by intro D x0 x1 x2 x3 x4; kernel_rfl,by intro D x0 x1 x2 x3 x4; kernel_rfl,by intro D x0 x1 x2 x3 x4; kernel_rfl,by intro D x0 x1 x2 x3 x4; kernel_rfl,by intro D x0 x1 x2 x3 x4; kernel_rfl,by intro D x0 x1 x2 x3 x4; kernel_rfl,by intro D x0 x1 x2 x3 x4; kernel_rfl,by intro D x0 x1 x2 x3 x4; kernel_rfl,by intro D x0 x1 x2 x3 x4; kernel_rfl,trivial⟩
theorem SCloneP:SoundR DP iCloneP OCloneP:=sound_genT mixedD Γ0_ok Δ0_ok hfCloneP heCloneP hbCloneP (by
 rintro args B r B' ⟨ks,xs,D,hs,hl,rfl,rfl,rfl,rfl⟩
 have hc:fnC DP Γ0 Δ0 nCloneP [.rs 0 0 1 0 ks.length] (mB ks (l5 ks.length (xs.getD 0 zD) (xs.getD 1 zD) (xs.getD 2 zD) (xs.getD 3 zD) (xs.getD 4 zD)) D) (TCloneP (mB ks (l5 ks.length (xs.getD 0 zD) (xs.getD 1 zD) (xs.getD 2 zD) (xs.getD 3 zD) (xs.getD 4 zD)) D) (mL ks) ks.length)=_:=allP_mem allCp ks hs D _ _ _ _ _
 rw[←l5_of zD hl (shape_len ks hs)] at hc
 refine ⟨by rw[hnCloneP]; rfl,_,hc,?_⟩
 unfold TCloneP
 exact wp_leaf wdT_one ⟨rfl,rfl⟩)
theorem ΔC9_ok:∀ f,SoundR DP f (ΔC9 f):=envR_cons SCloneP envR_nil
theorem SManyC:SoundR DP iManyC OManyC:=sound_genT mixedD Γ0_ok ΔC9_ok hfManyC heManyC hbManyC (by
 rintro args B r B' ⟨ks,xs,D,hs,hl,rfl,rfl,rfl,rfl⟩
 have hc:fnC DP Γ0 ΔC9 nManyC [.rs 0 0 1 0 ks.length] (mB ks (l5 ks.length (xs.getD 0 zD) (xs.getD 1 zD) (xs.getD 2 zD) (xs.getD 3 zD) (xs.getD 4 zD)) D) (TManyC (mB ks (l5 ks.length (xs.getD 0 zD) (xs.getD 1 zD) (xs.getD 2 zD) (xs.getD 3 zD) (xs.getD 4 zD)) D) (mL ks) ks.length)=_:=allP_mem allMc ks hs D _ _ _ _ _
 rw[←l5_of zD hl (shape_len ks hs)] at hc
 refine ⟨by rw[hnManyC]; rfl,_,hc,?_⟩
 unfold TManyC
 exact wp_callr ⟨ks,xs,D,hs,hl,rfl,rfl,rfl,rfl⟩ (wp_leaf wdT_two ⟨rfl,rfl⟩))
end Go.Ax
