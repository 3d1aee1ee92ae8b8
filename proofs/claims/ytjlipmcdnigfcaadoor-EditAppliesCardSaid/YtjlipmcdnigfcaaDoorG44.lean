/- The law EditApplies is true. -/
import Derived.Test.YtjlipmcdnigfcaaDoorG43
import Derived.Test.YtjlipmcdnigfcaaDoorG26
import Derived.Test.YtjlipmcdnigfcaaDoorTie
import Derived.Test.YtjlipmcdnigfcaaDoorG10
import Derived.OpenShut
import Derived.WalkKit
import Derived.ProofKit
import Derived.LaidMore
import Derived.LaidLaws
import Derived.LaidHandle
import Derived.Lib.LaidTab
import Derived.Stop.Joined
import Derived.Test.YtjlipmcdnigfcaaDoorG36
set_option linter.unusedVariables false
set_option linter.unusedSimpArgs false
set_option linter.unusedSectionVars false
namespace Go.Ax
open Go.Proofs Go.RowKit
set_option maxRecDepth 100000

theorem ΓE_ok:∀ f,SoundF DP f (ΓE f):=envP_cons SHeadE<|envP_cons SBig<|envP_cons SLChk<|envP_cons sound20<|envP_cons SLAp<|envP_cons SSame<|envP_cons SFirst<|envP_cons SAllV envP_nil
theorem apply_few (v:Vers) (e:Edt) (hv:v.files.length≤500000) (ha:e.add.length≤500000):(applyL v e).1.files.length≤1000000:=by
 unfold applyL
 split
 ·exact Nat.zero_le _
 split
 ·have hl:=left_len e.del v.files
  have hlen:(leftL e.del v.files++e.add).length≤1000000:=by rw[List.length_append]; omega
  show (byNum (leftL e.del v.files++e.add)).length≤1000000
  rw[(byNum_spec hlen).2.1.length_eq]
  exact hlen
 ·exact Nat.zero_le _
def REditApplies:List AV→AV→Prop:=fun args r=>∃ (v:Vers) (e:Edt),v.files.length≤9223372036854775807∧0≤v.seq∧e.add.length≤9223372036854775807∧e.del.length≤9223372036854775807∧0≤e.seq∧args= [versA v,edtA e]∧r=vb true
theorem SEditApplies:SoundF DP iEditApplies (.pure (relG REditApplies)):=sound_pureT mixedD ΓE_ok Δ0_ok hfEditApplies heEditApplies hbEditApplies (by
 rintro args r ⟨v,e,_,hs,_,_,_,rfl,rfl⟩
 refine ⟨rfl,rfl,_,TEAp_chk v e,?_⟩
 unfold TEAp
 refine wp_call gHeadE_eq (wp_call (gBig_eq v) (wp_sp (fun _=>wp_leaf rfl (.p _)) (fun hb=>wp_len (wp_sp (fun _=>wp_leaf rfl (.p _)) (fun ha=>wp_len (wp_sp (fun _=>wp_leaf rfl (.p _)) (fun hd=>wp_call (gLChk_eq v) (wp_sp (fun _=>wp_leaf rfl (.p _)) (fun hc=>?_)))))))))
 have hb:v.files.length≤30:=by have:=of_decide_eq_false hb; omega
 have ha:=of_decide_eq_false ha
 have hd:=of_decide_eq_false hd
 have hr:Right v:=right_of (by simpa using hc)
 have hf:=apply_few v e (by omega) (by omega)
 refine wp_call (g20_eq ⟨by omega,by omega,by omega⟩) (wp_call (gLAp_eq hr (by omega) (by omega)) (wp_sp (fun h=>by simp at h) (fun _=>wp_call (gSame_eq (by omega)) (wp_sp (fun _=>?_) (fun h=>by rw[sameB_t rfl] at h; cases h)))))
 have hz:applyL firstV (⟨v.files,([]:List Int),v.log,v.next,v.seq⟩:Edt)=(v,0):=apply_all hr hs
 refine wp_call gFirst_eq (wp_call (gAllV_eq (by omega)) (wp_call (g20_eq (v:=firstV) (e:=⟨v.files,[],v.log,v.next,v.seq⟩) ⟨Nat.zero_le _,Nat.zero_le _,by show v.files.length≤_; omega⟩) ?_))
 rw[hz]
 refine wp_sp (fun _=>wp_call (gSame_eq (by omega)) (wp_leaf rfl ?_)) (fun h=>by simp at h)
 rw[sameB_t rfl]
 exact .p _)
end Go.Ax

namespace Go.Ax
open Go.Proofs Go.ChangeShapes Go.WideShapes Go.ChangeAt Go.RowKit
set_option maxRecDepth 100000

theorem tabRel {W:World} {g:Nat} {us:Array Value} {e:TypeId} {fr:Nat×Nat} (hh:W.heap[g]? = some (.cells us e fr)) (hu:us.toList.map PV.v=Glob.tab g):∀ ρ,GRel noF [] ρ W g:=fun ρ=>by
 have hl:(Glob.tab g).length=us.toList.length:=by rw[←hu]; simp
 refine ⟨.rp _ ⟨g,0,none⟩ us.toList rfl not_own (Array.getElem?_eq_some_iff.1 hh).1 hl (fun j u hj=>?_) (fun j p u hp hv=>?_),us,e,fr,hh,by rw[hl]; simp⟩
 ·rw[Addr.add_lit,Nat.zero_add,cell_of hh]
  simpa using hj
 ·rw[←hu,List.getElem?_map,hv] at hp
  cases hp
  exact .v _

theorem var_block {P:Program} {W:World} {n:String} {g:Nat} {cs:Array Value} (hg:P.globalNamed n=some g) (h:W.var? P n=some cs):∃ e fr,W.heap[g]? = some (.cells cs e fr):=by
 unfold World.var? at h
 rw[hg,Option.bind_some] at h
 split at h
 ·rename_i cs' e fr hc
  cases h
  exact ⟨e,fr,hc⟩
 ·cases h

abbrev laid4 : List (String × DataW Unit) := [("math/bits.deBruijn32tab", YtjlipmcdnigfcaaDoor.Rows.laid_math_bits_deBruijn32tab), ("math/bits.deBruijn64tab", YtjlipmcdnigfcaaDoor.Rows.laid_math_bits_deBruijn64tab), ("internal/strconv.uint64pow10", YtjlipmcdnigfcaaDoor.Rows.laid_internal_strconv_uint64pow10), ("tailrace/crc.halves", YtjlipmcdnigfcaaDoor.Rows.laid_tailrace_crc_halves)]

theorem gHalves : DP.globalNamed "tailrace/crc.halves" = some 0 := by kernel_rfl
theorem gPow : DP.globalNamed "internal/strconv.uint64pow10" = some 3 := by kernel_rfl
theorem tHalves:(DP.globals[0]?).map (·.type)=some 169:=by kernel_rfl

theorem tPow:(DP.globals[3]?).map (·.type)=some 188:=by kernel_rfl

theorem globW_of {W:World} (h:laidMetH DP laid4 W):GlobW W:=by
 rw[MakeChecks.laidMetH_plain _ _ _ (by kernel_rfl)] at h
 obtain ⟨ps,⟨g0,t0,cs0,f0,p0,q0,hg0,ht0,hv0,hd0,⟨g1,t1,cs1,f1,p1,q1,hg1,ht1,hv1,hd1,⟨g2,t2,cs2,f2,p2,q2,hg2,ht2,hv2,hd2,⟨g3,t3,cs3,f3,p3,q3,hg3,ht3,hv3,hd3,_,_⟩,_⟩,_⟩,_⟩,_,_⟩:=h
 obtain rfl:=Option.some.inj (gPow.symm.trans hg2)
 obtain rfl:=Option.some.inj (gHalves.symm.trans hg3)
 obtain rfl:=Option.some.inj (tPow.symm.trans ht2)
 obtain rfl:=Option.some.inj (tHalves.symm.trans ht3)
 have c2:=Lib.cells_of_tab (k:= .u64) (zs:=Lib.pow10Tab) (n:=20) (e:=46) (by kernel_rfl) (by kernel_rfl) (by kernel_rfl) (by kernel_rfl) hd2
 have c3:=Lib.cells_of_tab (k:= .u32) (zs:=halvesL) (n:=16) (e:=137) (by kernel_rfl) (by kernel_rfl) (by kernel_rfl) (by kernel_rfl) hd3
 obtain ⟨e2,r2,b2⟩:=var_block hg2 hv2
 obtain ⟨e3,r3,b3⟩:=var_block hg3 hv3
 intro g hg
 match g with
 | 0=>exact tabRel b3 (by rw[c3]; rfl)
 | 3=>exact tabRel b2 (by rw[c2]; rfl)
 | 1=>exact absurd rfl hg
 | 2=>exact absurd rfl hg
 | g+4=>exact absurd rfl hg

theorem door4 (os:Os) (args:Array Value):laidMetH DP laid4 ((World.doorLaid DP 67 os).forCall (fun _ _=>0) ⟨#[],args,[]⟩).memory:=
 laidMetH_of_parts3 (fuel:=8) (laidMet_of_run' 8 (by kernel_rfl) (by kernel_rfl)) (by kernel_rfl) (by kernel_rfl)

section
variable {H : Type} {enc : TypeId × Value → H} {w : World} {base : Nat} {spare : Nat → Bool} {held : Bool} {O : Nat → Prop}
end
end Go.Ax

namespace Go.Ax
open Go.Proofs Go.RowKit
end Go.Ax

namespace Go.Ax
open Go.Proofs Go.RowKit
set_option maxRecDepth 100000

def edtE:Enc Edt:=⟨fun e=> .agg [.ls (e.add.map metaE.f), .ls (e.del.map intE.f), .v (.int .i64 e.log), .v (.int .i64 e.next), .v (.int .u64 e.seq)],5,fun _=>rfl,fun _=>rfl⟩
section
variable {H : Type} {enc : TypeId × Value → H} {w : World} {base : Nat} {spare : Nat → Bool} {held : Bool} {O : Nat → Prop}
theorem in_meta (n:Nat) (cs':List Value) (y:DataW H×List MemPlace) (h:DataW.trod enc DP w base spare held n 53 cs'=some y):
  ∃ a:Meta,True∧cs'.length=5∧∀ (r:Nat) (p:PV) (u:Value),(metaE.f a).cells[r]? = some p→cs'[r]? = some u→PRel O w p u:=by
 obtain ⟨xs,n,_,rfl,hl,hlen,hf⟩:=DataW.trod_struct Tryd.underlying53 h
 have hc:DP.cellsOf 53=5:=by kernel_rfl
 have c9:DP.cellsOf 9=1:=by kernel_rfl
 have c3:DP.cellsOf 3=1:=by kernel_rfl
 rw[hc] at hl
 have h0:DataW.trod enc DP w base spare held n 3 ((cs'.drop 0).take (DP.cellsOf 3))=xs[0]? := hf 0 _ rfl
 have h1:DataW.trod enc DP w base spare held n 3 ((cs'.drop 1).take (DP.cellsOf 3))=xs[1]? := hf 1 _ rfl
 have h2:DataW.trod enc DP w base spare held n 9 ((cs'.drop 2).take (DP.cellsOf 9))=xs[2]? := hf 2 _ rfl
 have h3:DataW.trod enc DP w base spare held n 9 ((cs'.drop 3).take (DP.cellsOf 9))=xs[3]? := hf 3 _ rfl
 have h4:DataW.trod enc DP w base spare held n 3 ((cs'.drop 4).take (DP.cellsOf 3))=xs[4]? := hf 4 _ rfl
 rw[c3] at h0 h1 h4
 rw[c9] at h2 h3
 match cs',hl,xs,hlen with
 | [v0,v1,v2,v3,v4],_,[x0,x1,x2,x3,x4],_=>
  obtain ⟨a,e0,_,_⟩:=DataW.trod_int Tryd.underlying3 h0
  obtain ⟨b,e1,_,_⟩:=DataW.trod_int Tryd.underlying3 h1
  obtain ⟨c,e2,_,_⟩:=DataW.trod_string Tryd.underlying9 h2
  obtain ⟨d,e3,_,_⟩:=DataW.trod_string Tryd.underlying9 h3
  obtain ⟨e,e4,_,_⟩:=DataW.trod_int Tryd.underlying3 h4
  simp at e0 e1 e2 e3 e4
  subst e0 e1 e2 e3 e4
  refine ⟨⟨a,b,c,d,e⟩,trivial,rfl,fun r p u hp hu=>?_⟩
  match r with
  | 0=>cases hp; cases hu; exact .v _
  | 1=>cases hp; cases hu; exact .v _
  | 2=>cases hp; cases hu; exact .v _
  | 3=>cases hp; cases hu; exact .v _
  | 4=>cases hp; cases hu; exact .v _
  | r+5=>simp[metaE,PV.cells] at hp
theorem in_i64 (n:Nat) (cs':List Value) (y:DataW H×List MemPlace) (h:DataW.trod enc DP w base spare held n 3 cs'=some y):
  ∃ a:Int,True∧cs'.length=1∧∀ (r:Nat) (p:PV) (u:Value),(intE.f a).cells[r]? = some p→cs'[r]? = some u→PRel O w p u:=by
 obtain ⟨s,rfl,_,_⟩:=DataW.trod_int Tryd.underlying3 h
 refine ⟨s,trivial,rfl,fun r p u hp hu=>?_⟩
 match r with
 | 0=>cases hp; cases hu; exact .v _
 | r+1=>simp[intE,PV.cells] at hp
theorem in_metas (hO:∀ k,¬O k) {fuel:Nat} {v:Value} {x:DataW H×List MemPlace} (h:DataW.trod enc DP w base spare held fuel 45 [v]=some x):
  ∃ L:List Meta,(∀ a∈L,True)∧L.length≤maxLen∧PRel O w (.ls (L.map metaE.f)) v:=open_listL hO Tryd.underlying45 metaE.elt (by decide) (by kernel_rfl) (fun n cs' y hy=>in_meta n cs' y hy) h
theorem in_ints (hO:∀ k,¬O k) {fuel:Nat} {v:Value} {x:DataW H×List MemPlace} (h:DataW.trod enc DP w base spare held fuel 36 [v]=some x):
  ∃ L:List Int,(∀ a∈L,True)∧L.length≤maxLen∧PRel O w (.ls (L.map intE.f)) v:=open_listL hO Tryd.underlying36 intE.elt (by decide) (by kernel_rfl) (fun n cs' y hy=>in_i64 n cs' y hy) h
def Edt.fits (a:Edt):Prop:=a.add.length≤maxLen∧a.del.length≤maxLen∧0≤a.seq
theorem in_edt (hO:∀ k,¬O k) (n:Nat) (cs':List Value) (y:DataW H×List MemPlace) (h:DataW.trod enc DP w base spare held n 56 cs'=some y):
  ∃ a:Edt,a.fits∧cs'.length=5∧∀ (r:Nat) (p:PV) (u:Value),(edtE.f a).cells[r]? = some p→cs'[r]? = some u→PRel O w p u:=by
 obtain ⟨xs,n,_,rfl,hl,hlen,hf⟩:=DataW.trod_struct Tryd.underlying56 h
 have hc:DP.cellsOf 56=5:=by kernel_rfl
 have c45:DP.cellsOf 45=1:=by kernel_rfl
 have c36:DP.cellsOf 36=1:=by kernel_rfl
 have c3:DP.cellsOf 3=1:=by kernel_rfl
 have c46:DP.cellsOf 46=1:=by kernel_rfl
 rw[hc] at hl
 have h0:DataW.trod enc DP w base spare held n 45 ((cs'.drop 0).take (DP.cellsOf 45))=xs[0]? := hf 0 _ rfl
 have h1:DataW.trod enc DP w base spare held n 36 ((cs'.drop 1).take (DP.cellsOf 36))=xs[1]? := hf 1 _ rfl
 have h2:DataW.trod enc DP w base spare held n 3 ((cs'.drop 2).take (DP.cellsOf 3))=xs[2]? := hf 2 _ rfl
 have h3:DataW.trod enc DP w base spare held n 3 ((cs'.drop 3).take (DP.cellsOf 3))=xs[3]? := hf 3 _ rfl
 have h4:DataW.trod enc DP w base spare held n 46 ((cs'.drop 4).take (DP.cellsOf 46))=xs[4]? := hf 4 _ rfl
 rw[c3] at h2 h3
 rw[c45] at h0
 rw[c36] at h1
 rw[c46] at h4
 match cs',hl,xs,hlen with
 | [v0,v1,v2,v3,v4],_,[x0,x1,x2,x3,x4],_=>
  obtain ⟨L,_,hL,p0⟩:=in_metas (O:=O) hO h0
  obtain ⟨M,_,hM,p1⟩:=in_ints (O:=O) hO h1
  obtain ⟨b,e2,_,_⟩:=DataW.trod_int Tryd.underlying3 h2
  obtain ⟨c,e3,_,_⟩:=DataW.trod_int Tryd.underlying3 h3
  obtain ⟨d,e4,_,hw⟩:=DataW.trod_int Tryd.underlying46 h4
  have hb:0≤d:=by
   simp only[Lit.wf,Bool.and_eq_true,decide_eq_true_eq] at hw
   have h1:IntKind.u64.min=0:=by decide
   omega
  simp at e2 e3 e4
  subst e2 e3 e4
  refine ⟨⟨L,M,b,c,d⟩,⟨hL,hM,hb⟩,rfl,fun r p u hp hu=>?_⟩
  match r with
  | 0=>cases hp; cases hu; exact p0
  | 1=>cases hp; cases hu; exact p1
  | 2=>cases hp; cases hu; exact .v _
  | 3=>cases hp; cases hu; exact .v _
  | 4=>cases hp; cases hu; exact .v _
  | r+5=>simp[edtE,PV.cells] at hp
theorem vrel_i {ρ:Loc} (k:IntKind) (n:Int):VRel noF [] ρ w (vn k n) (.int k n):= .p _ _ (.v _)
theorem open_edt {ρ:Loc} {r:Reach} {b0:Nat} {v:Value} {d:DataW H} {p:List MemPlace} (hv:Value.okWide DP w r b0 56 v) (h:DataW.Trod enc DP w base spare held 56 v d p):
  ∃ e:Edt,e.fits∧VRel noF [] ρ w (edtA e) v:=by
 unfold Value.okWide at hv
 rw[Tryd.underlying56] at hv
 obtain ⟨cs,rfl,_⟩:=hv
 obtain ⟨fuel,hf⟩:=h
 obtain ⟨a,ha,hl,hp⟩:=in_edt (O:=Own noF [] ρ) (fun k=>not_own) fuel _ _ hf
 refine ⟨a,ha, .agg _ cs.toList ?_ fun j p u hp' hu=>?_⟩
 ·exact hl.symm
 ·match j with
  | 0=>cases hp'; exact .p _ _ (hp 0 _ _ rfl hu)
  | 1=>cases hp'; exact .p _ _ (hp 1 _ _ rfl hu)
  | 2=>cases hp'; exact .p _ _ (hp 2 _ _ rfl hu)
  | 3=>cases hp'; exact .p _ _ (hp 3 _ _ rfl hu)
  | 4=>cases hp'; exact .p _ _ (hp 4 _ _ rfl hu)
  | j+5=>simp at hp'
theorem open_vers {ρ:Loc} {r:Reach} {b0:Nat} {v:Value} {d:DataW H} {p:List MemPlace} (hv:Value.okWide DP w r b0 48 v) (h:DataW.Trod enc DP w base spare held 48 v d p):
  ∃ V:Vers,(V.files.length≤maxLen∧0≤V.seq)∧VRel noF [] ρ w (versA V) v:=by
 obtain ⟨v0,v1,v2,v3,y0,y1,y2,y3,n,rfl,_,_,h0,h1,h2,h3⟩:=Go.Joins.open_agg4 Tryd.underlying48 (by kernel_rfl) (by kernel_rfl) hv h
 obtain ⟨L,_,hL,w0⟩:=in_metas (O:=Own noF [] ρ) (fun k=>not_own) h0
 obtain ⟨a,e1,_,_⟩:=DataW.trod_int Tryd.underlying3 h1
 obtain ⟨b,e2,_,_⟩:=DataW.trod_int Tryd.underlying3 h2
 obtain ⟨c,e3,_,hw⟩:=DataW.trod_int Tryd.underlying46 h3
 have hb:0≤c:=by
  simp only[Lit.wf,Bool.and_eq_true,decide_eq_true_eq] at hw
  have h1:IntKind.u64.min=0:=by decide
  omega
 simp at e1 e2 e3
 subst e1 e2 e3
 refine ⟨⟨L,a,b,c⟩,⟨hL,hb⟩, .agg _ [v0, .int .i64 a, .int .i64 b, .int .u64 c] rfl fun j p u hp hu=>?_⟩
 match j with
 | 0=>cases hp; cases hu; exact .p _ _ w0
 | 1=>cases hp; cases hu; exact vrel_i _ _
 | 2=>cases hp; cases hu; exact vrel_i _ _
 | 3=>cases hp; cases hu; exact vrel_i _ _
 | j+4=>simp at hp
end
end Go.Ax
