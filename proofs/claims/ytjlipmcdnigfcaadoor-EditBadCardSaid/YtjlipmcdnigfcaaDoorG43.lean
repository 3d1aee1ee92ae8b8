/- What the listed variables read as, for the walks; what comes in: lists of lists of texts. -/
import Derived.Test.YtjlipmcdnigfcaaDoorG26
import Derived.Test.YtjlipmcdnigfcaaDoorTie
import Derived.Test.YtjlipmcdnigfcaaDoorG10
import Derived.OpenShut
import Derived.WalkKit
import Derived.ProofKit
import Derived.LaidMore
import Derived.LaidLaws
import Derived.LaidHandle
import Derived.Lib.LaidTab
import Derived.Stop.Joined
import Derived.Test.YtjlipmcdnigfcaaDoorG36
import Derived.Test.YtjlipmcdnigfcaaDoorG42
set_option linter.unusedVariables false
set_option linter.unusedSimpArgs false
set_option linter.unusedSectionVars false
namespace Go.Ax
open Go.Proofs Go.ChangeShapes Go.WideShapes Go.ChangeAt Go.RowKit
set_option maxRecDepth 100000

theorem tabRel {W:World} {g:Nat} {us:Array Value} {e:TypeId} {fr:Nat×Nat} (hh:W.heap[g]? = some (.cells us e fr)) (hu:us.toList.map PV.v=Glob.tab g):∀ ρ,GRel noF [] ρ W g:=fun ρ=>by
 have hl:(Glob.tab g).length=us.toList.length:=by rw[←hu]; simp
 refine ⟨.rp _ ⟨g,0,none⟩ us.toList rfl not_own (Array.getElem?_eq_some_iff.1 hh).1 hl (fun j u hj=>?_) (fun j p u hp hv=>?_),us,e,fr,hh,by rw[hl]; simp⟩
 ·rw[Addr.add_lit,Nat.zero_add,cell_of hh]
  simpa using hj
 ·rw[←hu,List.getElem?_map,hv] at hp
  cases hp
  exact .v _

theorem var_block {P:Program} {W:World} {n:String} {g:Nat} {cs:Array Value} (hg:P.globalNamed n=some g) (h:W.var? P n=some cs):∃ e fr,W.heap[g]? = some (.cells cs e fr):=by
 unfold World.var? at h
 rw[hg,Option.bind_some] at h
 split at h
 ·rename_i cs' e fr hc
  cases h
  exact ⟨e,fr,hc⟩
 ·cases h

abbrev laid4 : List (String × DataW Unit) := [("math/bits.deBruijn32tab", YtjlipmcdnigfcaaDoor.Rows.laid_math_bits_deBruijn32tab), ("math/bits.deBruijn64tab", YtjlipmcdnigfcaaDoor.Rows.laid_math_bits_deBruijn64tab), ("internal/strconv.uint64pow10", YtjlipmcdnigfcaaDoor.Rows.laid_internal_strconv_uint64pow10), ("tailrace/crc.halves", YtjlipmcdnigfcaaDoor.Rows.laid_tailrace_crc_halves)]

theorem gHalves : DP.globalNamed "tailrace/crc.halves" = some 0 := by kernel_rfl
theorem gPow : DP.globalNamed "internal/strconv.uint64pow10" = some 3 := by kernel_rfl
theorem tHalves:(DP.globals[0]?).map (·.type)=some 169:=by kernel_rfl

theorem tPow:(DP.globals[3]?).map (·.type)=some 188:=by kernel_rfl

theorem globW_of {W:World} (h:laidMetH DP laid4 W):GlobW W:=by
 rw[MakeChecks.laidMetH_plain _ _ _ (by kernel_rfl)] at h
 obtain ⟨ps,⟨g0,t0,cs0,f0,p0,q0,hg0,ht0,hv0,hd0,⟨g1,t1,cs1,f1,p1,q1,hg1,ht1,hv1,hd1,⟨g2,t2,cs2,f2,p2,q2,hg2,ht2,hv2,hd2,⟨g3,t3,cs3,f3,p3,q3,hg3,ht3,hv3,hd3,_,_⟩,_⟩,_⟩,_⟩,_,_⟩:=h
 obtain rfl:=Option.some.inj (gPow.symm.trans hg2)
 obtain rfl:=Option.some.inj (gHalves.symm.trans hg3)
 obtain rfl:=Option.some.inj (tPow.symm.trans ht2)
 obtain rfl:=Option.some.inj (tHalves.symm.trans ht3)
 have c2:=Lib.cells_of_tab (k:= .u64) (zs:=Lib.pow10Tab) (n:=20) (e:=46) (by kernel_rfl) (by kernel_rfl) (by kernel_rfl) (by kernel_rfl) hd2
 have c3:=Lib.cells_of_tab (k:= .u32) (zs:=halvesL) (n:=16) (e:=137) (by kernel_rfl) (by kernel_rfl) (by kernel_rfl) (by kernel_rfl) hd3
 obtain ⟨e2,r2,b2⟩:=var_block hg2 hv2
 obtain ⟨e3,r3,b3⟩:=var_block hg3 hv3
 intro g hg
 match g with
 | 0=>exact tabRel b3 (by rw[c3]; rfl)
 | 3=>exact tabRel b2 (by rw[c2]; rfl)
 | 1=>exact absurd rfl hg
 | 2=>exact absurd rfl hg
 | g+4=>exact absurd rfl hg

theorem door4 (os:Os) (args:Array Value):laidMetH DP laid4 ((World.doorLaid DP 67 os).forCall (fun _ _=>0) ⟨#[],args,[]⟩).memory:=
 laidMetH_of_parts3 (fuel:=8) (laidMet_of_run' 8 (by kernel_rfl) (by kernel_rfl)) (by kernel_rfl) (by kernel_rfl)

section
variable {H : Type} {enc : TypeId × Value → H} {w : World} {base : Nat} {spare : Nat → Bool} {held : Bool} {O : Nat → Prop}
theorem in_u8 (n:Nat) (cs':List Value) (y:DataW H×List MemPlace) {t:TypeId} (ht:DP.underlying t=some (.int .u8)) (h:DataW.trod enc DP w base spare held n t cs'=some y):
  ∃ a:UInt8,True∧cs'.length=1∧∀ (r:Nat) (p:PV) (u:Value),(byteE.f a).cells[r]? = some p→cs'[r]? = some u→PRel O w p u:=by
 obtain ⟨s,rfl,_,hw⟩:=DataW.trod_int ht h
 have hb:0≤s∧s<256:=by
  simp only[Lit.wf,Bool.and_eq_true,decide_eq_true_eq] at hw
  have h1:IntKind.u8.min=0:=by decide
  have h2:IntKind.u8.max=255:=by decide
  omega
 refine ⟨UInt8.ofNat s.toNat,trivial,rfl,fun r p u hp hu=>?_⟩
 match r with
 | 0=>
  cases hu
  have:((UInt8.ofNat s.toNat).toNat:Int)=s:=by
   rw[UInt8.toNat_ofNat']
   omega
  change some (PV.v (.int .u8 ((UInt8.ofNat s.toNat).toNat:Int)))=some p at hp
  rw[this] at hp
  cases hp
  exact .v _
 | r+1=>simp[byteE,PV.cells] at hp
theorem in_bytes (hO:∀ k,¬O k) {fuel:Nat} {v:Value} {x:DataW H×List MemPlace} (h:DataW.trod enc DP w base spare held fuel 65 [v]=some x):
  ∃ L:List UInt8,(∀ a∈L,True)∧PRel O w (.ls (L.map byteE.f)) v:=open_list hO (Tryd.underlying65) byteE.elt (by decide) (by kernel_rfl) (fun n cs' y hy=>in_u8 n cs' y Tryd.underlying5 hy) h
end
end Go.Ax

namespace Go.Ax
open Go.Proofs Go.RowKit
end Go.Ax

namespace Go.Ax
open Go.Proofs Go.RowKit
set_option maxRecDepth 100000

def versE:Enc Vers:=⟨fun v=> .agg [.ls (v.files.map metaE.f), .v (.int .i64 v.log), .v (.int .i64 v.next), .v (.int .u64 v.seq)],4,fun _=>rfl,fun _=>rfl⟩
section
variable {H : Type} {enc : TypeId × Value → H} {w : World} {base : Nat} {spare : Nat → Bool} {held : Bool} {O : Nat → Prop}
end
end Go.Ax

namespace Go.Ax
open Go.Proofs Go.RowKit
set_option maxRecDepth 100000

end Go.Ax

namespace Go.Ax
open Go.Proofs Go.RowKit
set_option maxRecDepth 100000

theorem replay_cons (t:List UInt8) (ts:List (List UInt8)) (a:Vers):replay (t::ts) a=if (decI t).2≠0 then none else if (applyL a (decI t).1).2≠0 then none else replay ts (applyL a (decI t).1).1:=by rw[replay]
structure EInv (D:Dsk) (n:Int) (v:Vers) (o:Bool) (k:Nat):Prop where
 live:Live D
 room:D.room=4194304
 right:Right v
 seq:0≤v.seq
 few:v.files.length≤20*k
 st:(o=false∧n=0∧v=firstV∧D.cont nowN=none∧D.used=0) ∨
  (o=true∧n=1∧D.cont nowN=some (recB (putI 1))∧D.used≤62000+6500*k∧∃ ts:List (List UInt8),ts≠ []∧(∀ t∈ts,t.length≤1048576)∧D.cont (manN 1)=some (ts.map recB).flatten∧replay ts firstV=some v)
end Go.Ax

namespace Go.Ax
open Go.Proofs Go.RowKit
set_option maxRecDepth 100000

noncomputable def ΓBd:Env:=envP [(29,gHeadE),(51,gNameM),(32,gLChk),(52,gMetaL),(37,gFirst),(36,gSame)]
noncomputable def ΔBd:REnv:=envR [(iNew,liftR ONew),(iCreate,liftR OCreate),(iAppend,takeR OAppend),(iLoad,orR (liftR OLoad) (liftR (NilR fun a r=>a= [nilP]∧r= .tup [nilP,vi 1]))),(iDo,orR (sealX (liftR ODo)) (sealX (liftR (NilR fun a r=>(∃ x,a= [nilP,edtA x])∧r=vi 1)))),
 (iVer,orR (liftR OVer) (liftR (NilR fun a r=>a= [nilP]∧r= .agg [nilS,vi 0,vi 0,vn .u64 0]))),(iNumb,orR (liftR ONumb) (liftR (NilR fun a r=>a= [nilP]∧r=vi 0))),(iNamedM,liftR (NilR fun a r=>a= [nilP]∧r=nilS))]

abbrev iEditBad:Nat:=13
noncomputable abbrev nEditBad:Func:=Tryd.f13
theorem hfEditBad:DP.funcs[iEditBad]? = some nEditBad:=by kernel_rfl
theorem heEditBad:enters DP iEditBad=true:=by kernel_rfl
theorem hbEditBad:nEditBad.body.isSome=true:=by kernel_rfl
noncomputable def TEBdF (now:List UInt8) (list:List UInt8) (n:Int) (room:Int) (D0:Dsk) (D1:Dsk) (D2:Dsk) (D3:Dsk) (D4:Dsk) (E0:Dsk) (E1:Dsk) (n1:Int) (v1:Vers) (o1:Bool) (r1:Int) (n2:Int) (v2:Vers):Tree:=
.call 21 (gHeadE []=some (vb true)) (vb true) (.int 24 ((now.map byteE.f).length:Int) (now.length:Int) (.sp 25 (decide ((now.length:Int)>(200:Int))) (
.leaf ⟨[0],[]⟩ [] .ret (some ([(0,vb true)],[]))) (
.int 28 ((list.map byteE.f).length:Int) (list.length:Int) (.sp 29 (decide ((list.length:Int)>(500:Int))) (
.leaf ⟨[0],[]⟩ [] .ret (some ([(0,vb true)],[]))) (
.callr (some 31) (ΔBd 15 [vi 1048576] [] (.op 0) [.obj [] (diskP D0)]) (.op 0) [.obj [] (diskP D0)] (.int 33 (IntKind.i64.wrap ((BitVec.ofInt IntKind.i64.bits n &&& BitVec.ofInt IntKind.i64.bits 3).toNat)) (n % 4) (.int 34 (IntKind.i64.wrap (1+(n % 4))) (1+(n % 4)) (.callr (some 36) (ΔBd 24 [.op 0,vs (⟨#[110,111,119]⟩)] [.obj [] (diskP D0)] (vi 0) [.obj [] (diskP D1)]) (vi 0) [.obj [] (diskP D1)] (.callr (some 41) (ΔBd 47 [.op 0,vs (⟨#[110,111,119]⟩),vl (now.map byteE.f)] [.obj [] (diskP D1)] (vi 0) [.obj [] (diskP D2)]) (vi 0) [.obj [] (diskP D2)] (.call 47 (gNameM [vi (1+(n % 4))]=some (vs (manN (1+(n % 4))))) (vs (manN (1+(n % 4)))) (.callr (some 48) (ΔBd 24 [.op 0,vs (manN (1+(n % 4)))] [.obj [] (diskP D2)] (vi 0) [.obj [] (diskP D3)]) (vi 0) [.obj [] (diskP D3)] (.call 54 (gNameM [vi (1+(n % 4))]=some (vs (manN (1+(n % 4))))) (vs (manN (1+(n % 4)))) (.callr (some 56) (ΔBd 47 [.op 0,vs (manN (1+(n % 4))),vl (list.map byteE.f)] [.obj [] (diskP D3)] (vi 0) [.obj [] (diskP D4)]) (vi 0) [.obj [] (diskP D4)] (.callr (some 61) (ΔBd 43 [.op 0] [.obj [] (diskP D4)] (.tup [.p (.v (.pointer none)),vi 12]) [.obj [] (diskP D4)]) (.tup [.p (.v (.pointer none)),vi 12]) [.obj [] (diskP D4)] (.int 90 (IntKind.i64.wrap ((BitVec.ofInt IntKind.i64.bits room &&& BitVec.ofInt IntKind.i64.bits 63).toNat)) (room % 64) (.callr (some 91) (ΔBd 15 [vi (room % 64)] [.obj [] (diskP D4)] (.op 1) [.obj [] (diskP D4), .obj [] (diskP E0)]) (.op 1) [.obj [] (diskP D4), .obj [] (diskP E0)] (.callr (some 94) (ΔBd 43 [.op 1] [.obj [] (diskP D4), .obj [] (diskP E0)] (.tup [.ptr 2 0 0,vi 0]) [.obj [] (diskP D4), .obj [] (diskP E0),manB 1 0 firstV false]) (.tup [.ptr 2 0 0,vi 0]) [.obj [] (diskP D4), .obj [] (diskP E0),manB 1 0 firstV false] (.call 98 (gMetaL [vi 1]=some (.agg [vi 1,vi 0,vs (⟨#[97]⟩),vs (⟨#[98]⟩),vi 5])) (.agg [vi 1,vi 0,vs (⟨#[97]⟩),vs (⟨#[98]⟩),vi 5]) (.callr (some 101) (ΔBd 44 [.ptr 2 0 0, .agg [.rs 3 0 5 0 1,nilS,vi 0,vi 2,vn .u64 0]] [.obj [] (diskP D4), .obj [] (diskP E0),manB 1 0 firstV false, .cells true 0 ([vi 1,vi 0,vs (⟨#[97]⟩),vs (⟨#[98]⟩),vi 5])] (vi r1) [.obj [] (diskP D4), .obj [] (diskP E1),manB 1 n1 v1 o1, .dead]) (vi r1) [.obj [] (diskP D4), .obj [] (diskP E1),manB 1 n1 v1 o1, .dead] (.callr (some 104) (ΔBd 43 [.op 1] [.obj [] (diskP D4), .obj [] (diskP E1),manB 1 n1 v1 o1, .dead] (.tup [.ptr 4 0 0,vi 0]) [.obj [] (diskP D4), .obj [] (diskP E1),manB 1 n1 v1 o1, .dead,manB 1 n2 v2 false]) (.tup [.ptr 4 0 0,vi 0]) [.obj [] (diskP D4), .obj [] (diskP E1),manB 1 n1 v1 o1, .dead,manB 1 n2 v2 false] (.sp 115 (r1 != (0:Int)) (
.sp 118 (r1 != (11:Int)) (
.leaf ⟨[0],[]⟩ [] .ret (some ([(0,vb false)],[]))) (
.callr (some 121) (ΔBd 45 [.ptr 4 0 0] [.obj [] (diskP D4), .obj [] (diskP E1),manB 1 n1 v1 o1, .dead,manB 1 n2 v2 false] ((versE.av v2)) [.obj [] (diskP D4), .obj [] (diskP E1),manB 1 n1 v1 o1, .dead,manB 1 n2 v2 false]) ((versE.av v2)) [.obj [] (diskP D4), .obj [] (diskP E1),manB 1 n1 v1 o1, .dead,manB 1 n2 v2 false] (.call 122 (gFirst []=some ((versE.av firstV))) ((versE.av firstV)) (.call 123 (gSame [(versE.av v2),(versE.av firstV)]=some (vb (sameB v2 firstV))) (vb (sameB v2 firstV)) (.sp 123 (sameB v2 firstV) (
.callr (some 129) (ΔBd 43 [.p (.v (.pointer none))] [.obj [] (diskP D4), .obj [] (diskP E1),manB 1 n1 v1 o1, .dead,manB 1 n2 v2 false] (.tup [.p (.v (.pointer none)),vi 1]) [.obj [] (diskP D4), .obj [] (diskP E1),manB 1 n1 v1 o1, .dead,manB 1 n2 v2 false]) (.tup [.p (.v (.pointer none)),vi 1]) [.obj [] (diskP D4), .obj [] (diskP E1),manB 1 n1 v1 o1, .dead,manB 1 n2 v2 false] (.callr (some 137) (ΔBd 44 [.p (.v (.pointer none)), .agg [nilS,nilS,vi 0,vi 0,vn .u64 0]] [.obj [] (diskP D4), .obj [] (diskP E1),manB 1 n1 v1 o1, .dead,manB 1 n2 v2 false] (vi 1) [.obj [] (diskP D4), .obj [] (diskP E1),manB 1 n1 v1 o1, .dead,manB 1 n2 v2 false]) (vi 1) [.obj [] (diskP D4), .obj [] (diskP E1),manB 1 n1 v1 o1, .dead,manB 1 n2 v2 false] (.callr (some 142) (ΔBd 46 [.p (.v (.pointer none))] [.obj [] (diskP D4), .obj [] (diskP E1),manB 1 n1 v1 o1, .dead,manB 1 n2 v2 false] (vi 0) [.obj [] (diskP D4), .obj [] (diskP E1),manB 1 n1 v1 o1, .dead,manB 1 n2 v2 false]) (vi 0) [.obj [] (diskP D4), .obj [] (diskP E1),manB 1 n1 v1 o1, .dead,manB 1 n2 v2 false] (.callr (some 147) (ΔBd 53 [.p (.v (.pointer none))] [.obj [] (diskP D4), .obj [] (diskP E1),manB 1 n1 v1 o1, .dead,manB 1 n2 v2 false] (nilS) [.obj [] (diskP D4), .obj [] (diskP E1),manB 1 n1 v1 o1, .dead,manB 1 n2 v2 false]) (nilS) [.obj [] (diskP D4), .obj [] (diskP E1),manB 1 n1 v1 o1, .dead,manB 1 n2 v2 false] (.callr (some 153) (ΔBd 45 [.p (.v (.pointer none))] [.obj [] (diskP D4), .obj [] (diskP E1),manB 1 n1 v1 o1, .dead,manB 1 n2 v2 false] (.agg [nilS,vi 0,vi 0,vn .u64 0]) [.obj [] (diskP D4), .obj [] (diskP E1),manB 1 n1 v1 o1, .dead,manB 1 n2 v2 false]) (.agg [nilS,vi 0,vi 0,vn .u64 0]) [.obj [] (diskP D4), .obj [] (diskP E1),manB 1 n1 v1 o1, .dead,manB 1 n2 v2 false] (.leaf ⟨[0],[]⟩ [] .ret (some ([(0,vb true)],[])))))))) (
.leaf ⟨[0],[]⟩ [] .ret (some ([(0,vb false)],[])))))))) (
.callr (some 129) (ΔBd 43 [.p (.v (.pointer none))] [.obj [] (diskP D4), .obj [] (diskP E1),manB 1 n1 v1 o1, .dead,manB 1 n2 v2 false] (.tup [.p (.v (.pointer none)),vi 1]) [.obj [] (diskP D4), .obj [] (diskP E1),manB 1 n1 v1 o1, .dead,manB 1 n2 v2 false]) (.tup [.p (.v (.pointer none)),vi 1]) [.obj [] (diskP D4), .obj [] (diskP E1),manB 1 n1 v1 o1, .dead,manB 1 n2 v2 false] (.callr (some 137) (ΔBd 44 [.p (.v (.pointer none)), .agg [nilS,nilS,vi 0,vi 0,vn .u64 0]] [.obj [] (diskP D4), .obj [] (diskP E1),manB 1 n1 v1 o1, .dead,manB 1 n2 v2 false] (vi 1) [.obj [] (diskP D4), .obj [] (diskP E1),manB 1 n1 v1 o1, .dead,manB 1 n2 v2 false]) (vi 1) [.obj [] (diskP D4), .obj [] (diskP E1),manB 1 n1 v1 o1, .dead,manB 1 n2 v2 false] (.callr (some 142) (ΔBd 46 [.p (.v (.pointer none))] [.obj [] (diskP D4), .obj [] (diskP E1),manB 1 n1 v1 o1, .dead,manB 1 n2 v2 false] (vi 0) [.obj [] (diskP D4), .obj [] (diskP E1),manB 1 n1 v1 o1, .dead,manB 1 n2 v2 false]) (vi 0) [.obj [] (diskP D4), .obj [] (diskP E1),manB 1 n1 v1 o1, .dead,manB 1 n2 v2 false] (.callr (some 147) (ΔBd 53 [.p (.v (.pointer none))] [.obj [] (diskP D4), .obj [] (diskP E1),manB 1 n1 v1 o1, .dead,manB 1 n2 v2 false] (nilS) [.obj [] (diskP D4), .obj [] (diskP E1),manB 1 n1 v1 o1, .dead,manB 1 n2 v2 false]) (nilS) [.obj [] (diskP D4), .obj [] (diskP E1),manB 1 n1 v1 o1, .dead,manB 1 n2 v2 false] (.callr (some 153) (ΔBd 45 [.p (.v (.pointer none))] [.obj [] (diskP D4), .obj [] (diskP E1),manB 1 n1 v1 o1, .dead,manB 1 n2 v2 false] (.agg [nilS,vi 0,vi 0,vn .u64 0]) [.obj [] (diskP D4), .obj [] (diskP E1),manB 1 n1 v1 o1, .dead,manB 1 n2 v2 false]) (.agg [nilS,vi 0,vi 0,vn .u64 0]) [.obj [] (diskP D4), .obj [] (diskP E1),manB 1 n1 v1 o1, .dead,manB 1 n2 v2 false] (.leaf ⟨[0],[]⟩ [] .ret (some ([(0,vb true)],[])))))))))))))))))))))))))))))

theorem TEBdF_chk (now:List UInt8) (list:List UInt8) (n:Int) (room:Int) (D0:Dsk) (D1:Dsk) (D2:Dsk) (D3:Dsk) (D4:Dsk) (E0:Dsk) (E1:Dsk) (n1:Int) (v1:Vers) (o1:Bool) (r1:Int) (n2:Int) (v2:Vers):fnC DP ΓBd ΔBd Tryd.f13 [vl (now.map byteE.f),vl (list.map byteE.f),vi n,vi room] [] (TEBdF now list n room D0 D1 D2 D3 D4 E0 E1 n1 v1 o1 r1 n2 v2)=TEBdF now list n room D0 D1 D2 D3 D4 E0 E1 n1 v1 o1 r1 n2 v2:=by kernel_rfl

noncomputable def TEBd (now:List UInt8) (list:List UInt8) (n:Int) (room:Int) (k:Int) (w:Vers) (D0:Dsk) (D1:Dsk) (D2:Dsk) (D3:Dsk) (D4:Dsk) (E0:Dsk) (E1:Dsk) (n1:Int) (v1:Vers) (o1:Bool) (r1:Int) (n2:Int) (v2:Vers):Tree:=
.call 21 (gHeadE []=some (vb true)) (vb true) (.int 24 ((now.map byteE.f).length:Int) (now.length:Int) (.sp 25 (decide ((now.length:Int)>(200:Int))) (
.leaf ⟨[0],[]⟩ [] .ret (some ([(0,vb true)],[]))) (
.int 28 ((list.map byteE.f).length:Int) (list.length:Int) (.sp 29 (decide ((list.length:Int)>(500:Int))) (
.leaf ⟨[0],[]⟩ [] .ret (some ([(0,vb true)],[]))) (
.callr (some 31) (ΔBd 15 [vi 1048576] [] (.op 0) [.obj [] (diskP D0)]) (.op 0) [.obj [] (diskP D0)] (.int 33 (IntKind.i64.wrap ((BitVec.ofInt IntKind.i64.bits n &&& BitVec.ofInt IntKind.i64.bits 3).toNat)) (n % 4) (.int 34 (IntKind.i64.wrap (1+(n % 4))) (1+(n % 4)) (.callr (some 36) (ΔBd 24 [.op 0,vs (⟨#[110,111,119]⟩)] [.obj [] (diskP D0)] (vi 0) [.obj [] (diskP D1)]) (vi 0) [.obj [] (diskP D1)] (.callr (some 41) (ΔBd 47 [.op 0,vs (⟨#[110,111,119]⟩),vl (now.map byteE.f)] [.obj [] (diskP D1)] (vi 0) [.obj [] (diskP D2)]) (vi 0) [.obj [] (diskP D2)] (.call 47 (gNameM [vi (1+(n % 4))]=some (vs (manN (1+(n % 4))))) (vs (manN (1+(n % 4)))) (.callr (some 48) (ΔBd 24 [.op 0,vs (manN (1+(n % 4)))] [.obj [] (diskP D2)] (vi 0) [.obj [] (diskP D3)]) (vi 0) [.obj [] (diskP D3)] (.call 54 (gNameM [vi (1+(n % 4))]=some (vs (manN (1+(n % 4))))) (vs (manN (1+(n % 4)))) (.callr (some 56) (ΔBd 47 [.op 0,vs (manN (1+(n % 4))),vl (list.map byteE.f)] [.obj [] (diskP D3)] (vi 0) [.obj [] (diskP D4)]) (vi 0) [.obj [] (diskP D4)] (.callr (some 61) (ΔBd 43 [.op 0] [.obj [] (diskP D4)] (.tup [.ptr 1 0 0,vi 0]) [.obj [] (diskP D4),manB 0 k w false]) (.tup [.ptr 1 0 0,vi 0]) [.obj [] (diskP D4),manB 0 k w false] (.callr (some 68) (ΔBd 45 [.ptr 1 0 0] [.obj [] (diskP D4),manB 0 k w false] ((versE.av w)) [.obj [] (diskP D4),manB 0 k w false]) ((versE.av w)) [.obj [] (diskP D4),manB 0 k w false] (.call 69 (gLChk [(versE.av w)]=some (vi (Vers.check w))) (vi (Vers.check w)) (.sp 70 ((Vers.check w) != (0:Int)) (
.leaf ⟨[0],[]⟩ [] .ret (some ([(0,vb false)],[]))) (
.callr (some 73) (ΔBd 46 [.ptr 1 0 0] [.obj [] (diskP D4),manB 0 k w false] (vi k) [.obj [] (diskP D4),manB 0 k w false]) (vi k) [.obj [] (diskP D4),manB 0 k w false] (.sp 74 (decide (k<(1:Int))) (
.leaf ⟨[0],[]⟩ [] .ret (some ([(0,vb false)],[]))) (
.int 90 (IntKind.i64.wrap ((BitVec.ofInt IntKind.i64.bits room &&& BitVec.ofInt IntKind.i64.bits 63).toNat)) (room % 64) (.callr (some 91) (ΔBd 15 [vi (room % 64)] [.obj [] (diskP D4),manB 0 k w false] (.op 2) [.obj [] (diskP D4),manB 0 k w false, .obj [] (diskP E0)]) (.op 2) [.obj [] (diskP D4),manB 0 k w false, .obj [] (diskP E0)] (.callr (some 94) (ΔBd 43 [.op 2] [.obj [] (diskP D4),manB 0 k w false, .obj [] (diskP E0)] (.tup [.ptr 3 0 0,vi 0]) [.obj [] (diskP D4),manB 0 k w false, .obj [] (diskP E0),manB 2 0 firstV false]) (.tup [.ptr 3 0 0,vi 0]) [.obj [] (diskP D4),manB 0 k w false, .obj [] (diskP E0),manB 2 0 firstV false] (.call 98 (gMetaL [vi 1]=some (.agg [vi 1,vi 0,vs (⟨#[97]⟩),vs (⟨#[98]⟩),vi 5])) (.agg [vi 1,vi 0,vs (⟨#[97]⟩),vs (⟨#[98]⟩),vi 5]) (.callr (some 101) (ΔBd 44 [.ptr 3 0 0, .agg [.rs 4 0 5 0 1,nilS,vi 0,vi 2,vn .u64 0]] [.obj [] (diskP D4),manB 0 k w false, .obj [] (diskP E0),manB 2 0 firstV false, .cells true 0 ([vi 1,vi 0,vs (⟨#[97]⟩),vs (⟨#[98]⟩),vi 5])] (vi r1) [.obj [] (diskP D4),manB 0 k w false, .obj [] (diskP E1),manB 2 n1 v1 o1, .dead]) (vi r1) [.obj [] (diskP D4),manB 0 k w false, .obj [] (diskP E1),manB 2 n1 v1 o1, .dead] (.callr (some 104) (ΔBd 43 [.op 2] [.obj [] (diskP D4),manB 0 k w false, .obj [] (diskP E1),manB 2 n1 v1 o1, .dead] (.tup [.ptr 5 0 0,vi 0]) [.obj [] (diskP D4),manB 0 k w false, .obj [] (diskP E1),manB 2 n1 v1 o1, .dead,manB 2 n2 v2 false]) (.tup [.ptr 5 0 0,vi 0]) [.obj [] (diskP D4),manB 0 k w false, .obj [] (diskP E1),manB 2 n1 v1 o1, .dead,manB 2 n2 v2 false] (.sp 115 (r1 != (0:Int)) (
.sp 118 (r1 != (11:Int)) (
.leaf ⟨[0],[]⟩ [] .ret (some ([(0,vb false)],[]))) (
.callr (some 121) (ΔBd 45 [.ptr 5 0 0] [.obj [] (diskP D4),manB 0 k w false, .obj [] (diskP E1),manB 2 n1 v1 o1, .dead,manB 2 n2 v2 false] ((versE.av v2)) [.obj [] (diskP D4),manB 0 k w false, .obj [] (diskP E1),manB 2 n1 v1 o1, .dead,manB 2 n2 v2 false]) ((versE.av v2)) [.obj [] (diskP D4),manB 0 k w false, .obj [] (diskP E1),manB 2 n1 v1 o1, .dead,manB 2 n2 v2 false] (.call 122 (gFirst []=some ((versE.av firstV))) ((versE.av firstV)) (.call 123 (gSame [(versE.av v2),(versE.av firstV)]=some (vb (sameB v2 firstV))) (vb (sameB v2 firstV)) (.sp 123 (sameB v2 firstV) (
.callr (some 129) (ΔBd 43 [.p (.v (.pointer none))] [.obj [] (diskP D4),manB 0 k w false, .obj [] (diskP E1),manB 2 n1 v1 o1, .dead,manB 2 n2 v2 false] (.tup [.p (.v (.pointer none)),vi 1]) [.obj [] (diskP D4),manB 0 k w false, .obj [] (diskP E1),manB 2 n1 v1 o1, .dead,manB 2 n2 v2 false]) (.tup [.p (.v (.pointer none)),vi 1]) [.obj [] (diskP D4),manB 0 k w false, .obj [] (diskP E1),manB 2 n1 v1 o1, .dead,manB 2 n2 v2 false] (.callr (some 137) (ΔBd 44 [.p (.v (.pointer none)), .agg [nilS,nilS,vi 0,vi 0,vn .u64 0]] [.obj [] (diskP D4),manB 0 k w false, .obj [] (diskP E1),manB 2 n1 v1 o1, .dead,manB 2 n2 v2 false] (vi 1) [.obj [] (diskP D4),manB 0 k w false, .obj [] (diskP E1),manB 2 n1 v1 o1, .dead,manB 2 n2 v2 false]) (vi 1) [.obj [] (diskP D4),manB 0 k w false, .obj [] (diskP E1),manB 2 n1 v1 o1, .dead,manB 2 n2 v2 false] (.callr (some 142) (ΔBd 46 [.p (.v (.pointer none))] [.obj [] (diskP D4),manB 0 k w false, .obj [] (diskP E1),manB 2 n1 v1 o1, .dead,manB 2 n2 v2 false] (vi 0) [.obj [] (diskP D4),manB 0 k w false, .obj [] (diskP E1),manB 2 n1 v1 o1, .dead,manB 2 n2 v2 false]) (vi 0) [.obj [] (diskP D4),manB 0 k w false, .obj [] (diskP E1),manB 2 n1 v1 o1, .dead,manB 2 n2 v2 false] (.callr (some 147) (ΔBd 53 [.p (.v (.pointer none))] [.obj [] (diskP D4),manB 0 k w false, .obj [] (diskP E1),manB 2 n1 v1 o1, .dead,manB 2 n2 v2 false] (nilS) [.obj [] (diskP D4),manB 0 k w false, .obj [] (diskP E1),manB 2 n1 v1 o1, .dead,manB 2 n2 v2 false]) (nilS) [.obj [] (diskP D4),manB 0 k w false, .obj [] (diskP E1),manB 2 n1 v1 o1, .dead,manB 2 n2 v2 false] (.callr (some 153) (ΔBd 45 [.p (.v (.pointer none))] [.obj [] (diskP D4),manB 0 k w false, .obj [] (diskP E1),manB 2 n1 v1 o1, .dead,manB 2 n2 v2 false] (.agg [nilS,vi 0,vi 0,vn .u64 0]) [.obj [] (diskP D4),manB 0 k w false, .obj [] (diskP E1),manB 2 n1 v1 o1, .dead,manB 2 n2 v2 false]) (.agg [nilS,vi 0,vi 0,vn .u64 0]) [.obj [] (diskP D4),manB 0 k w false, .obj [] (diskP E1),manB 2 n1 v1 o1, .dead,manB 2 n2 v2 false] (.leaf ⟨[0],[]⟩ [] .ret (some ([(0,vb true)],[])))))))) (
.leaf ⟨[0],[]⟩ [] .ret (some ([(0,vb false)],[])))))))) (
.callr (some 129) (ΔBd 43 [.p (.v (.pointer none))] [.obj [] (diskP D4),manB 0 k w false, .obj [] (diskP E1),manB 2 n1 v1 o1, .dead,manB 2 n2 v2 false] (.tup [.p (.v (.pointer none)),vi 1]) [.obj [] (diskP D4),manB 0 k w false, .obj [] (diskP E1),manB 2 n1 v1 o1, .dead,manB 2 n2 v2 false]) (.tup [.p (.v (.pointer none)),vi 1]) [.obj [] (diskP D4),manB 0 k w false, .obj [] (diskP E1),manB 2 n1 v1 o1, .dead,manB 2 n2 v2 false] (.callr (some 137) (ΔBd 44 [.p (.v (.pointer none)), .agg [nilS,nilS,vi 0,vi 0,vn .u64 0]] [.obj [] (diskP D4),manB 0 k w false, .obj [] (diskP E1),manB 2 n1 v1 o1, .dead,manB 2 n2 v2 false] (vi 1) [.obj [] (diskP D4),manB 0 k w false, .obj [] (diskP E1),manB 2 n1 v1 o1, .dead,manB 2 n2 v2 false]) (vi 1) [.obj [] (diskP D4),manB 0 k w false, .obj [] (diskP E1),manB 2 n1 v1 o1, .dead,manB 2 n2 v2 false] (.callr (some 142) (ΔBd 46 [.p (.v (.pointer none))] [.obj [] (diskP D4),manB 0 k w false, .obj [] (diskP E1),manB 2 n1 v1 o1, .dead,manB 2 n2 v2 false] (vi 0) [.obj [] (diskP D4),manB 0 k w false, .obj [] (diskP E1),manB 2 n1 v1 o1, .dead,manB 2 n2 v2 false]) (vi 0) [.obj [] (diskP D4),manB 0 k w false, .obj [] (diskP E1),manB 2 n1 v1 o1, .dead,manB 2 n2 v2 false] (.callr (some 147) (ΔBd 53 [.p (.v (.pointer none))] [.obj [] (diskP D4),manB 0 k w false, .obj [] (diskP E1),manB 2 n1 v1 o1, .dead,manB 2 n2 v2 false] (nilS) [.obj [] (diskP D4),manB 0 k w false, .obj [] (diskP E1),manB 2 n1 v1 o1, .dead,manB 2 n2 v2 false]) (nilS) [.obj [] (diskP D4),manB 0 k w false, .obj [] (diskP E1),manB 2 n1 v1 o1, .dead,manB 2 n2 v2 false] (.callr (some 153) (ΔBd 45 [.p (.v (.pointer none))] [.obj [] (diskP D4),manB 0 k w false, .obj [] (diskP E1),manB 2 n1 v1 o1, .dead,manB 2 n2 v2 false] (.agg [nilS,vi 0,vi 0,vn .u64 0]) [.obj [] (diskP D4),manB 0 k w false, .obj [] (diskP E1),manB 2 n1 v1 o1, .dead,manB 2 n2 v2 false]) (.agg [nilS,vi 0,vi 0,vn .u64 0]) [.obj [] (diskP D4),manB 0 k w false, .obj [] (diskP E1),manB 2 n1 v1 o1, .dead,manB 2 n2 v2 false] (.leaf ⟨[0],[]⟩ [] .ret (some ([(0,vb true)],[]))))))))))))))))))))))))))))))))))

theorem TEBd_chk (now:List UInt8) (list:List UInt8) (n:Int) (room:Int) (k:Int) (w:Vers) (D0:Dsk) (D1:Dsk) (D2:Dsk) (D3:Dsk) (D4:Dsk) (E0:Dsk) (E1:Dsk) (n1:Int) (v1:Vers) (o1:Bool) (r1:Int) (n2:Int) (v2:Vers):fnC DP ΓBd ΔBd Tryd.f13 [vl (now.map byteE.f),vl (list.map byteE.f),vi n,vi room] [] (TEBd now list n room k w D0 D1 D2 D3 D4 E0 E1 n1 v1 o1 r1 n2 v2)=TEBd now list n room k w D0 D1 D2 D3 D4 E0 E1 n1 v1 o1 r1 n2 v2:=by kernel_rfl

end Go.Ax

namespace Go.Ax
open Go.Proofs Go.RowKit
set_option maxRecDepth 100000

end Go.Ax

namespace Go.Ax
open Go.Proofs Go.RowKit
set_option maxRecDepth 100000

section
variable {parts : List (List ByteArray)} {frm : Int} {s1 : Int × Int × Bool × Dsk × List ByteArray × List ByteArray × Int} {e1 : List ByteArray}

end

end Go.Ax

namespace Go.Ax
open Go.Proofs Go.RowKit
set_option maxRecDepth 100000

theorem andI64 {a:Int} (m:Nat) (hm:m≤32):IntKind.i64.wrap ((BitVec.ofInt IntKind.i64.bits a &&& BitVec.ofInt IntKind.i64.bits ((2 ^ m - 1:Nat):Int)).toNat)=a % ((2 ^ m:Nat):Int):=by
 have h2:2 ^ m - 1<2 ^ 64:=Nat.lt_of_lt_of_le (Nat.sub_lt (Nat.two_pow_pos m) Nat.one_pos) (Nat.pow_le_pow_right (by decide) (by omega))
 have hp:(2:Nat) ^ m≤2 ^ 32:=Nat.pow_le_pow_right (by decide) hm
 show IntKind.i64.wrap (((BitVec.ofInt 64 a &&& BitVec.ofInt 64 ((2 ^ m - 1:Nat):Int)).toNat:Nat):Int)=_
 rw[BitVec.toNat_and,BitVec.ofInt_natCast,BitVec.toNat_ofNat,Nat.mod_eq_of_lt h2,Nat.and_two_pow_sub_one_eq_mod,BitVec.toNat_ofInt]
 have hpos:0<(2:Nat) ^ m:=Nat.two_pow_pos m
 have hd:((2 ^ m:Nat):Int) ∣ ((2 ^ 64:Nat):Int):=Int.natCast_dvd_natCast.2 (Nat.pow_dvd_pow 2 (by omega))
 have hnn:0≤a % ((2 ^ 64:Nat):Int):=Int.emod_nonneg _ (by decide)
 have e:(((a % ((2 ^ 64:Nat):Int)).toNat % 2 ^ m:Nat):Int)=a % ((2 ^ m:Nat):Int):=by
  rw[Int.natCast_emod,Int.toNat_of_nonneg hnn,Int.emod_emod_of_dvd _ hd]
 rw[e]
 have h3:=Int.emod_lt_of_pos a (b:=((2 ^ m:Nat):Int)) (by omega)
 have h4:=Int.emod_nonneg a (b:=((2 ^ m:Nat):Int)) (by omega)
 have h5:((2 ^ m:Nat):Int)≤4294967296:=by
  have:(2:Nat) ^ 32=4294967296:=by decide
  omega
 exact wrap_i64 (by omega)
end Go.Ax

namespace Go.Ax
open Go.Proofs Go.RowKit
set_option maxRecDepth 100000

theorem replay_right (ts:List (List UInt8)) (hne:ts≠ []):∀ (a v:Vers),replay ts a=some v→Right v:=by
 induction ts with
 | nil=>exact absurd rfl hne
 | cons t ts ih=>
  intro a v h
  rw[replay_cons] at h
  by_cases h1:(decI t).2≠0
  ·rw[if_pos h1] at h; cases h
  ·rw[if_neg h1] at h
   by_cases h2:(applyL a (decI t).1).2≠0
   ·rw[if_pos h2] at h; cases h
   ·rw[if_neg h2] at h
    cases ts with
    | nil=>
     rw[replay] at h
     obtain rfl:=Option.some.inj h
     exact apply_right (Classical.byContradiction h2)
    | cons x ts=>exact ih (by simp) _ v h
theorem load_some {D:Dsk} (h:Live D) {c:List UInt8} (hc:D.cont nowN=some c):((loadD D).1=0∧1≤(loadD D).2.1∧Right (loadD D).2.2)∨(loadD D).1=12:=by
 unfold loadD
 rw[cont_sizeI h hc]
 simp only
 rw[if_neg (by decide),if_neg (by decide)]
 split
 ·exact .inr rfl
 split
 ·exact .inr rfl
 rename_i h2
 split
 ·exact .inr rfl
 split
 ·exact .inr rfl
 rename_i h4
 cases hr:replay (allI (listR D (numR D).1)).1 firstV with
 | none=>exact .inr rfl
 | some v=>exact .inl ⟨rfl,by simp only; omega,replay_right _ (fun e=>h4 (.inr (by rw[e]; rfl))) _ _ hr⟩
theorem small_do {E:Dsk} (h:Live E) (hn:E.cont nowN=none):DoOk firstV false edit1∧∃ (r1:Int) (E1:Dsk) (n1:Int) (v1:Vers) (o1:Bool) (n2:Int) (v2:Vers),
  doD E 0 firstV false edit1=(E1,r1)∧doM E 0 firstV false edit1=(n1,v1,o1)∧E1.Ok∧loadD E1=(0,n2,v2)∧v2.files.length≤10∧(r1=0∨(r1=11∧v2=firstV)):=by
 have hl1:Live (newD 1000):=live_new
 have hok:=(do1 hl1 (by decide)).1
 refine ⟨hok,?_⟩
 by_cases hf:((recB (encI (allE vers1))).length:Int)+(recB (putI 1)).length≤E.room - E.used
 ·obtain ⟨_,d2,d3,d4,d5⟩:=do1g h hf
  exact ⟨_,_,_,_,_,_,_,rfl,rfl,d4.ok,d5,by decide, .inl d2⟩
 ·have ef:freshD E 0 vers1=(E,11):=by
   unfold freshD
   rw[if_neg (by decide),if_pos (by show ((recB (encI (allE vers1))).length:Int)+(recB (putI 1)).length>_; omega)]
  have ed:doD E 0 firstV false edit1=(E,11):=by
   unfold doD
   rw[apply1,if_neg (by decide),if_neg (by rw[h.up]; decide),if_pos rfl]
   exact ef
  have em:doM E 0 firstV false edit1=(0,firstV,false):=by
   unfold doM
   rw[apply1,if_neg (by decide),if_neg (by rw[h.up]; decide),if_pos rfl]
   unfold freshM
   simp only
   rw[ef,if_neg (show ¬((11:Int)=0) by decide)]
  refine ⟨11,E,0,firstV,false,0,firstV,ed,em,h.ok,?_,by decide, .inr ⟨rfl,rfl⟩⟩
  unfold loadD
  rw[cont_sizeN h hn,if_pos rfl]

theorem ΓBd_ok:∀ f,SoundF DP f (ΓBd f):=envP_cons SHeadE<|envP_cons SNameM<|envP_cons SLChk<|envP_cons SMetaL<|envP_cons SFirst<|envP_cons SSame envP_nil
theorem ΔBd_ok:∀ f,SoundR DP f (ΔBd f):=envR_cons (lift_sound SNew)<|envR_cons (lift_sound SCreate)<|envR_cons (take_sound SAppend)<|envR_cons ((lift_sound SLoad).or (lift_sound SLoad_n))<|envR_cons ((SoundR.shutX (lift_sound SDo)).or (SoundR.shutX (lift_sound SDo_n))) <|
 envR_cons ((lift_sound SVer).or (lift_sound SVer_n))<|envR_cons ((lift_sound SNumb).or (lift_sound SNumb_n))<|envR_cons (lift_sound SNamed_n) envR_nil
theorem all0_id:∀ {al:List AV},AV.low.allLow 0 al=true→∀ f d,AV.rv.rvL f d al=al
 | [],_,_,_=>rfl
 | a::al,h,f,d=>by
  simp only[AV.low.allLow,Bool.and_eq_true] at h
  rw[AV.rv.rvL,all0_id h.2,rv_low (n:=0) (fun j hj=>by omega) (fun j hj=>by omega) h.1]
theorem all0_low:∀ {al:List AV},AV.low.allLow 0 al=true→∀ n,AV.low.allLow n al=true
 | [],_,_=>rfl
 | a::al,h,n=>by
  simp only[AV.low.allLow,Bool.and_eq_true] at h
  rw[AV.low.allLow,all0_low h.2,low_mono h.1]
  rfl
theorem lift_nil0 {post:List AV→AV→Prop} {r:AV} {al:List AV} {B:List Box} (h:post al r) (hal:AV.low.allLow 0 al=true) (hr:r.low 0=true):liftR (NilR post) al B r B:=by
 refine ⟨_,_,_,_,⟨rfl,rfl,h⟩,⟨[],[],[],[],[],rfl,rfl,(all0_id hal _ _).symm,all0_low hal _,trivial,trivial,?_,?_,hr⟩⟩
 ·simp[outB]
 ·exact (rv_low (n:=0) (fun j hj=>by omega) (fun j hj=>by omega) hr).symm
section
variable {B : List Box} {b k m : Nat} {n : Int} {v : Vers} {o : Bool} {Φ : ObjP}
theorem bVer (hv:v.files.length≤1000000000) (hm:B[m]? = some (manB b n v o)) (hb:B[b]? = some (.obj [] Φ)):ΔBd iVer [.ptr m 0 0] B (versE.av v) B:= .inl (oVer hv hm hb)
theorem bNumb (hm:B[m]? = some (manB b n v o)) (hb:B[b]? = some (.obj [] Φ)):ΔBd iNumb [.ptr m 0 0] B (vi n) B:= .inl (oNumb hm hb)
theorem bLoadN:ΔBd iLoad [nilP] B (.tup [nilP,vi 1]) B:= .inr (lift_nil ⟨rfl,rfl⟩ rfl rfl)
theorem bVerN:ΔBd iVer [nilP] B (.agg [nilS,vi 0,vi 0,vn .u64 0]) B:= .inr (lift_nil ⟨rfl,rfl⟩ rfl rfl)
theorem bNumbN:ΔBd iNumb [nilP] B (vi 0) B:= .inr (lift_nil ⟨rfl,rfl⟩ rfl rfl)
theorem bNamedN:ΔBd iNamedM [nilP] B nilS B:=lift_nil ⟨rfl,rfl⟩ rfl rfl
theorem bDoN (hk:B.set k .dead=B):ΔBd iDo [nilP, .agg [nilS,nilS,vi 0,vi 0,vn .u64 0]] B (vi 1) B:= .inr (by
 refine ⟨1,k,_,edtA ⟨[],[],0,0,0⟩,?_,rfl,?_⟩
 ·refine .agg _ _ rfl fun j c d hc hd=>?_
  match j with
  | 0=>cases hc; cases hd; exact .nil
  | 1=>cases hc; cases hd; exact .nil
  | 2=>cases hc; cases hd; exact .p _
  | 3=>cases hc; cases hd; exact .p _
  | 4=>cases hc; cases hd; exact .p _
  | j+5=>simp at hc
 ·rw[hk]
  exact lift_nil0 ⟨⟨_,rfl⟩,rfl⟩ rfl rfl)
end
def REditBad:List AV→AV→Prop:=fun args r=>∃ (now list:List UInt8) (n room:Int),args= [vl (now.map byteE.f),vl (list.map byteE.f),vi n,vi room]∧r=vb true
theorem SEditBad:SoundF DP iEditBad (.pure (relG REditBad)):=sound_pureT mixedD ΓBd_ok ΔBd_ok hfEditBad heEditBad hbEditBad (by
 rintro args r ⟨now,list,n,room,rfl,rfl⟩
 have hE:Live (newD (room % 64)):=live_new
 obtain ⟨hdo,r1,E1,n1,v1,o1,n2,v2,hD,hM,hE1,hL,hv2,hr1⟩:=small_do hE (cont_new _ _)
 by_cases h1:now.length>200
 ·refine ⟨rfl,rfl,_,TEBdF_chk now list n room E1 E1 E1 E1 E1 E1 E1 0 v2 false 0 0 v2,?_⟩
  unfold TEBdF
  exact wp_call gHeadE_eq (wp_len (wp_sp (fun _=>wp_leaf rfl (.p _)) (fun h=>absurd (of_decide_eq_false h) (by omega))))
 by_cases h2:list.length>500
 ·refine ⟨rfl,rfl,_,TEBdF_chk now list n room E1 E1 E1 E1 E1 E1 E1 0 v2 false 0 0 v2,?_⟩
  unfold TEBdF
  exact wp_call gHeadE_eq (wp_len (wp_sp (fun h=>absurd (of_decide_eq_true h) (by omega)) (fun _=>wp_len (wp_sp (fun _=>wp_leaf rfl (.p _)) (fun h=>absurd (of_decide_eq_false h) (by omega))))))
 have hk:0≤1+n % 4:=by omega
 have hl0:Live (newD 1048576):=live_new
 have hroom:(newD 1048576).room=1048576:=by decide
 have hused:(newD 1048576).used=0:=rfl
 obtain ⟨c1,c2,c3,c4,c5⟩:=cont_create hl0 (nm:=nowN) now_is (cont_new _ _)
 obtain ⟨a1,a2,a3,a4,a5⟩:=cont_append c2 (nm:=nowN) (c:= []) (bs:=now) (by rw[c3,if_pos rfl]) (by omega)
 have hm0:(appendD (createD (newD 1048576) nowN).1 nowN now).1.cont (manN (1+n % 4))=none:=by
  rw[a3,if_neg (manN_nn hk).symm,c3,if_neg (manN_nn hk).symm,cont_new]
 obtain ⟨e1,e2,e3,e4,e5⟩:=cont_create a2 (nm:=manN (1+n % 4)) (manN_is (by omega)) hm0
 obtain ⟨b1,b2,b3,b4,b5⟩:=cont_append e2 (nm:=manN (1+n % 4)) (c:= []) (bs:=list) (by rw[e3,if_pos rfl]) (by omega)
 have hnow:(appendD (createD (appendD (createD (newD 1048576) nowN).1 nowN now).1 (manN (1+n % 4))).1 (manN (1+n % 4)) list).1.cont nowN=some now:=by
  rw[b3,if_neg (manN_nn hk),e3,if_neg (manN_nn hk),a3,if_pos rfl]; rfl
 have hls:=load_some b2 hnow
 have k1:=fun (B:List Box) (hb:B[0]? = some (dkB (newD 1048576)))=>oCreate (nm:=nowN) (b:=0) hl0.ok (by decide) hb
 have k2:=fun (B:List Box) (hb:B[0]? = some (dkB (createD (newD 1048576) nowN).1))=>oAppend (nm:=nowN) (bs:=now) (b:=0) c2.ok (by omega) hb
 have k3:=fun (B:List Box) (hb:B[0]? = some (dkB (appendD (createD (newD 1048576) nowN).1 nowN now).1))=>oCreate (nm:=manN (1+n % 4)) (b:=0) a2.ok (by have:=isName_size (manN_is (n:=1+n % 4) (by omega)); omega) hb
 have k4:=fun (B:List Box) (hb:B[0]? = some (dkB (createD (appendD (createD (newD 1048576) nowN).1 nowN now).1 (manN (1+n % 4))).1))=>oAppend (nm:=manN (1+n % 4)) (bs:=list) (b:=0) e2.ok (by omega) hb
 rw[c1] at k1
 rw[a1] at k2
 rw[e1] at k3
 rw[b1] at k4
 have q0:=fun (B:List Box) (b:Nat) (hb:B[b]? = some (dkB (newD (room % 64))))=>oLoad hE.ok (by rw[load_new]) hb
 have q1:=fun (B:List Box) (b:Nat) (hb:B[b]? = some (dkB E1))=>oLoad hE1 (by rw[hL]) hb
 rw[load_new] at q0
 rw[hL] at q1
 have cd:=fun (B:List Box) (m b k:Nat) (hm:B[m]? = some (manB b 0 firstV false)) (hb:B[b]? = some (dkB (newD (room % 64)))) (hk:B[k]? = some (metaE.bx 0 [meta1])) (h1:k≠m) (h2:k≠b)=>oDoX (L:= [meta1]) (lg:=0) (nx:=2) (sq:=0) hE.ok (by decide) hdo hm hb hk h1 h2
 change ∀ (B:List Box) (m b k:Nat),_→_→_→_→_→sealX (liftR ODo) [.ptr m 0 0, .agg [.rs k 0 5 0 [meta1].length,nilS,vi 0,vi 2,vn .u64 0]] B (vi (doD (newD (room % 64)) 0 firstV false edit1).2) (((B.set k .dead).set m (manB b (doM (newD (room % 64)) 0 firstV false edit1).1 (doM (newD (room % 64)) 0 firstV false edit1).2.1 (doM (newD (room % 64)) 0 firstV false edit1).2.2)).set b (.obj [] (diskP (doD (newD (room % 64)) 0 firstV false edit1).1))) at cd
 rw[hD,hM] at cd
 rcases hls with ⟨z1,z2,z3⟩ | z1
 ·have ql:=fun (B:List Box) (hb:B[0]? = some (dkB (appendD (createD (appendD (createD (newD 1048576) nowN).1 nowN now).1 (manN (1+n % 4))).1 (manN (1+n % 4)) list).1))=>oLoad b2.ok z1 hb
  refine ⟨rfl,rfl,_,TEBd_chk now list n room (loadD (appendD (createD (appendD (createD (newD 1048576) nowN).1 nowN now).1 (manN (1+n % 4))).1 (manN (1+n % 4)) list).1).2.1 (loadD (appendD (createD (appendD (createD (newD 1048576) nowN).1 nowN now).1 (manN (1+n % 4))).1 (manN (1+n % 4)) list).1).2.2 (newD 1048576) (createD (newD 1048576) nowN).1 (appendD (createD (newD 1048576) nowN).1 nowN now).1 (createD (appendD (createD (newD 1048576) nowN).1 nowN now).1 (manN (1+n % 4))).1 (appendD (createD (appendD (createD (newD 1048576) nowN).1 nowN now).1 (manN (1+n % 4))).1 (manN (1+n % 4)) list).1 (newD (room % 64)) E1 n1 v1 o1 r1 n2 v2,?_⟩
  unfold TEBd
  refine wp_call gHeadE_eq (wp_len (wp_sp (fun h=>absurd (of_decide_eq_true h) (by omega)) (fun _=>?_)))
  refine wp_len (wp_sp (fun h=>absurd (of_decide_eq_true h) (by omega)) (fun _=>?_))
  refine wp_callr (oNew _) (wp_int (andI64 2 (by decide)) (wp_i64 (by omega) ?_))
  refine wp_callr (k1 _ rfl) (wp_callr (k2 _ rfl) (wp_call (gNameM_eq (by omega)) ?_))
  refine wp_callr (k3 _ rfl) (wp_call (gNameM_eq (by omega)) (wp_callr (k4 _ rfl) ?_))
  refine wp_callr (.inl (ql _ rfl)) ?_
  have hz3:=z3.len
  refine wp_callr (bVer (b:=0) (by omega) rfl rfl) (wp_call (gLChk_eq _) ?_)
  refine wp_sp (fun h=>absurd (of_right z3) (ne_of_bne h)) (fun _=>?_)
  refine wp_callr (bNumb (b:=0) rfl rfl) (wp_sp (fun h=>absurd (of_decide_eq_true h) (by omega)) (fun _=>?_))
  refine wp_int (andI64 6 (by decide)) (wp_callr (oNew _) ?_)
  refine wp_callr (.inl (q0 _ 2 rfl)) (wp_call gMetaL_eq ?_)
  refine wp_callr (.inl (cd _ 3 2 4 rfl rfl rfl (by decide) (by decide))) ?_
  refine wp_callr (.inl (q1 _ 2 rfl)) ?_
  repeat' first
   | exact wp_leaf rfl (.p _)
   | refine wp_callr bLoadN ?_
   | refine wp_callr (bDoN (k:=4) rfl) ?_
   | refine wp_callr bNumbN ?_
   | refine wp_callr bNamedN ?_
   | refine wp_callr bVerN ?_
   | refine wp_callr (bVer (b:=2) (by omega) rfl rfl) ?_
   | refine wp_call gFirst_eq ?_
   | refine wp_call (gSame_eq (by omega)) ?_
   | exact wp_sp (fun h1=>by
     have h1:=ne_of_bne h1
     rcases hr1 with e | ⟨e,e2⟩
     ·exact absurd e h1
     subst e2
     refine wp_sp (fun h=>absurd e (bne_iff_ne.1 h)) (fun _=>?_)
     refine wp_callr (bVer (b:=2) (by omega) rfl rfl) (wp_call gFirst_eq (wp_call (gSame_eq (by omega)) ?_))
     refine wp_sp (fun _=>?_) (fun h=>Bool.noConfusion (h.symm.trans (sameB_t rfl)))
     exact wp_callr bLoadN (wp_callr (bDoN (k:=4) rfl) (wp_callr bNumbN (wp_callr bNamedN (wp_callr bVerN (wp_leaf rfl (.p _))))))) (fun _=>by
     exact wp_callr bLoadN (wp_callr (bDoN (k:=4) rfl) (wp_callr bNumbN (wp_callr bNamedN (wp_callr bVerN (wp_leaf rfl (.p _)))))))
 ·have ql:=fun (B:List Box) (hb:B[0]? = some (dkB (appendD (createD (appendD (createD (newD 1048576) nowN).1 nowN now).1 (manN (1+n % 4))).1 (manN (1+n % 4)) list).1))=>oLoadF b2.ok (by rw[z1]; decide) hb
  rw[z1] at ql
  refine ⟨rfl,rfl,_,TEBdF_chk now list n room (newD 1048576) (createD (newD 1048576) nowN).1 (appendD (createD (newD 1048576) nowN).1 nowN now).1 (createD (appendD (createD (newD 1048576) nowN).1 nowN now).1 (manN (1+n % 4))).1 (appendD (createD (appendD (createD (newD 1048576) nowN).1 nowN now).1 (manN (1+n % 4))).1 (manN (1+n % 4)) list).1 (newD (room % 64)) E1 n1 v1 o1 r1 n2 v2,?_⟩
  unfold TEBdF
  refine wp_call gHeadE_eq (wp_len (wp_sp (fun h=>absurd (of_decide_eq_true h) (by omega)) (fun _=>?_)))
  refine wp_len (wp_sp (fun h=>absurd (of_decide_eq_true h) (by omega)) (fun _=>?_))
  refine wp_callr (oNew _) (wp_int (andI64 2 (by decide)) (wp_i64 (by omega) ?_))
  refine wp_callr (k1 _ rfl) (wp_callr (k2 _ rfl) (wp_call (gNameM_eq (by omega)) ?_))
  refine wp_callr (k3 _ rfl) (wp_call (gNameM_eq (by omega)) (wp_callr (k4 _ rfl) ?_))
  refine wp_callr (.inl (ql _ rfl)) ?_
  refine wp_int (andI64 6 (by decide)) (wp_callr (oNew _) ?_)
  refine wp_callr (.inl (q0 _ 1 rfl)) (wp_call gMetaL_eq ?_)
  refine wp_callr (.inl (cd _ 2 1 3 rfl rfl rfl (by decide) (by decide))) ?_
  refine wp_callr (.inl (q1 _ 1 rfl)) ?_
  repeat' first
   | exact wp_leaf rfl (.p _)
   | refine wp_callr bLoadN ?_
   | refine wp_callr (bDoN (k:=3) rfl) ?_
   | refine wp_callr bNumbN ?_
   | refine wp_callr bNamedN ?_
   | refine wp_callr bVerN ?_
   | refine wp_callr (bVer (b:=1) (by omega) rfl rfl) ?_
   | refine wp_call gFirst_eq ?_
   | refine wp_call (gSame_eq (by omega)) ?_
   | exact wp_sp (fun h1=>by
     have h1:=ne_of_bne h1
     rcases hr1 with e | ⟨e,e2⟩
     ·exact absurd e h1
     subst e2
     refine wp_sp (fun h=>absurd e (bne_iff_ne.1 h)) (fun _=>?_)
     refine wp_callr (bVer (b:=1) (by omega) rfl rfl) (wp_call gFirst_eq (wp_call (gSame_eq (by omega)) ?_))
     refine wp_sp (fun _=>?_) (fun h=>Bool.noConfusion (h.symm.trans (sameB_t rfl)))
     exact wp_callr bLoadN (wp_callr (bDoN (k:=3) rfl) (wp_callr bNumbN (wp_callr bNamedN (wp_callr bVerN (wp_leaf rfl (.p _))))))) (fun _=>by
     exact wp_callr bLoadN (wp_callr (bDoN (k:=3) rfl) (wp_callr bNumbN (wp_callr bNamedN (wp_callr bVerN (wp_leaf rfl (.p _))))))))
end Go.Ax
