/- Trees, printed by gen/w1.py. -/
import Derived.Test.YtjlipmcdnigfcaaDoorG26
import Derived.Test.YtjlipmcdnigfcaaDoorG43
import Derived.Test.YtjlipmcdnigfcaaDoorTie
import Derived.Test.YtjlipmcdnigfcaaDoorG10
import Derived.OpenShut
import Derived.WalkKit
import Derived.ProofKit
import Derived.LaidMore
import Derived.LaidLaws
import Derived.LaidHandle
import Derived.Lib.LaidTab
import Derived.Stop.Joined
import Derived.Test.YtjlipmcdnigfcaaDoorG36
set_option linter.unusedVariables false
set_option linter.unusedSimpArgs false
set_option linter.unusedSectionVars false
namespace Go.Ax
open Go.Proofs Go.RowKit
set_option maxRecDepth 100000

end Go.Ax

namespace Go.Ax
open Go.Proofs Go.RowKit
set_option maxRecDepth 100000

section
variable {parts : List (List ByteArray)} {frm : Int} {s1 : Int × Int × Bool × Dsk × List ByteArray × List ByteArray × Int} {e1 : List ByteArray}

end

end Go.Ax

namespace Go.Ax
open Go.Proofs Go.RowKit
set_option maxRecDepth 100000

theorem andI64 {a:Int} (m:Nat) (hm:m≤32):IntKind.i64.wrap ((BitVec.ofInt IntKind.i64.bits a &&& BitVec.ofInt IntKind.i64.bits ((2 ^ m - 1:Nat):Int)).toNat)=a % ((2 ^ m:Nat):Int):=by
 have h2:2 ^ m - 1<2 ^ 64:=Nat.lt_of_lt_of_le (Nat.sub_lt (Nat.two_pow_pos m) Nat.one_pos) (Nat.pow_le_pow_right (by decide) (by omega))
 have hp:(2:Nat) ^ m≤2 ^ 32:=Nat.pow_le_pow_right (by decide) hm
 show IntKind.i64.wrap (((BitVec.ofInt 64 a &&& BitVec.ofInt 64 ((2 ^ m - 1:Nat):Int)).toNat:Nat):Int)=_
 rw[BitVec.toNat_and,BitVec.ofInt_natCast,BitVec.toNat_ofNat,Nat.mod_eq_of_lt h2,Nat.and_two_pow_sub_one_eq_mod,BitVec.toNat_ofInt]
 have hpos:0<(2:Nat) ^ m:=Nat.two_pow_pos m
 have hd:((2 ^ m:Nat):Int) ∣ ((2 ^ 64:Nat):Int):=Int.natCast_dvd_natCast.2 (Nat.pow_dvd_pow 2 (by omega))
 have hnn:0≤a % ((2 ^ 64:Nat):Int):=Int.emod_nonneg _ (by decide)
 have e:(((a % ((2 ^ 64:Nat):Int)).toNat % 2 ^ m:Nat):Int)=a % ((2 ^ m:Nat):Int):=by
  rw[Int.natCast_emod,Int.toNat_of_nonneg hnn,Int.emod_emod_of_dvd _ hd]
 rw[e]
 have h3:=Int.emod_lt_of_pos a (b:=((2 ^ m:Nat):Int)) (by omega)
 have h4:=Int.emod_nonneg a (b:=((2 ^ m:Nat):Int)) (by omega)
 have h5:((2 ^ m:Nat):Int)≤4294967296:=by
  have:(2:Nat) ^ 32=4294967296:=by decide
  omega
 exact wrap_i64 (by omega)
theorem rem_val {a b:Int} {B:List Box} {t:TypeId} (hb:b≠0):(binA DP .rem t (vi a) (vi b)).map (fun v=>(v,B))=some (vi (Int.tmod a b),B):=by
 show (((if b=0 then none else some _:Option Value)).map _).map _=_
 rw[if_neg hb]
 rfl

end Go.Ax

namespace Go.Ax
open Go.Proofs Go.RowKit
set_option maxRecDepth 100000

theorem Γ18_ok:∀ f,SoundF DP f (Γ18 f):=envP_cons SHeadE<|envP_cons SDec<|envP_cons SEnc<|envP_cons SNeg envP_nil
theorem Δ18_ok:∀ f,SoundR DP f (Δ18 f):=envR_cons (lift_sound SPut) (envR_cons (SDec.rel).shutRow envR_nil)
theorem cDecS {B:List Box} {k v:Nat} {b:List UInt8} (hb:b.length≤1000000000) (hk:B[k]? = some (byteE.bx v b)):
  sealR (pureR gDec) [.rs k v 1 0 b.length] B (.tup [.agg [vl ((decI b).1.add.map metaE.f),vl ((decI b).1.del.map intE.f),vi (decI b).1.log,vi (decI b).1.next,vn .u64 (decI b).1.seq],vi (decI b).2]) (B.set k .dead):=
 ⟨0,k,v,UInt8,byteE,b,hk,rfl,gDec_eq hb,rfl⟩
section
variable {e : Edt} {at_ : Int} {more : UInt8}
theorem ew_del (h:∀ n∈e.del,0≤n∧n≤1073741824) (P:List UInt8) (hl:(P++delI e.del).length≤1000000000) (hd:e.del.length≤1000):∀ (j i:Nat),i+j=e.del.length →
  Rounds (TEW_l2_e e at_ more) (TEW_l2_x e at_ more) noX (fun s=>(TEW_l2_b e at_ more s).wp) (P++delI (e.del.take i),(i:Int)) (.inl (P++delI e.del)):=by
 intro j
 induction j with
 | zero=>
  intro i hi
  rw[List.take_of_length_le (by omega)]
  refine .done (by intro e; cases e) ?_
  unfold TEW_l2_b
  exact wp_sp (fun h'=>absurd (of_decide_eq_true h') (by simp only; omega)) (fun _=>wp_leaf rfl ⟨rfl,rfl⟩)
 | succ j ih=>
  intro i hi
  obtain ⟨a,ha,ht⟩:=get_snoc (l:=e.del) (i:=i) (by omega)
  have hr:=ih (i+1) (by omega)
  have ei:((i+1:Nat):Int)=(i:Int)+1:=by omega
  have hab:=h a (List.mem_of_getElem? ha)
  have hs:delI (e.del.take (i+1))=delI (e.del.take i)++putI a:=by rw[ht]; simp[delI,mx_id hab.1]
  have hft:(delI (e.del.take (i+1))).length≤(delI e.del).length:=flat_take _ _ _
  rw[hs,List.length_append] at hft
  rw[hs,←List.append_assoc,ei] at hr
  rw[List.length_append] at hl
  refine .next ?_ hr
  unfold TEW_l2_b
  exact wp_sp (fun _=>wp_elem a (by simp only; omega) (by simpa using ha) (wp_u64 (by omega) (wp_callr (oPut_r (by omega) rfl (by simp only[List.length_append]; omega)) (wp_i64 (by simp only; omega) (wp_leaf rfl ⟨rfl,rfl⟩))))) (fun h'=>absurd (of_decide_eq_false h') (by simp only; omega))
theorem ew_add (h:∀ m∈e.add,(0≤m.num∧m.num≤1073741824)∧(0≤m.level∧m.level≤5)∧(0≤m.size∧m.size≤67108864)∧m.low.size≤128∧m.high.size≤128) (P:List UInt8) (hl:(P++addI e.add).length≤1000000000) (hd:e.add.length≤1000):∀ (j i:Nat),i+j=e.add.length →
  Rounds (TEW_l3_e e at_ more) (TEW_l3_x e at_ more) noX (fun s=>(TEW_l3_b e at_ more s).wp) (P++addI (e.add.take i),(i:Int)) (.inl (P++addI e.add)):=by
 intro j
 induction j with
 | zero=>
  intro i hi
  rw[List.take_of_length_le (by omega)]
  refine .done (by intro e; cases e) ?_
  unfold TEW_l3_b
  exact wp_sp (fun h'=>absurd (of_decide_eq_true h') (by simp only; omega)) (fun _=>wp_leaf rfl ⟨rfl,rfl⟩)
 | succ j ih=>
  intro i hi
  obtain ⟨a,ha,ht⟩:=get_snoc (l:=e.add) (i:=i) (by omega)
  have hr:=ih (i+1) (by omega)
  have ei:((i+1:Nat):Int)=(i:Int)+1:=by omega
  obtain ⟨h1,h2,h3,h4,h5⟩:=h a (List.mem_of_getElem? ha)
  have hs:addI (e.add.take (i+1))=addI (e.add.take i)++(putI a.num++putI a.level++putI a.size++(putI (a.low.size:Int)++a.low.data.toList)++(putI (a.high.size:Int)++a.high.data.toList)):=by
   rw[ht]; simp[addI,metaI,txtI,mx_id h1.1,mx_id h2.1,mx_id h3.1]
  have hft:(addI (e.add.take (i+1))).length≤(addI e.add).length:=flat_take _ _ _
  rw[hs] at hft
  simp only[List.length_append] at hft hl
  rw[hs,ei] at hr
  simp only[←List.append_assoc] at hr
  generalize hQ:P++addI (e.add.take i)=Q at hr ⊢
  have hQl:Q.length=P.length+(addI (e.add.take i)).length:=by rw[←hQ,List.length_append]
  have g1:a.low.data.toList.length=a.low.size:=rfl
  have g2:a.high.data.toList.length=a.high.size:=rfl
  refine .next ?_ hr
  have fin5:(TEW_j5 e at_ more (Q,(i:Int)) a ()).wp (fun x c=>x= .normal∧c=TEW_l3_e e at_ more (Q++putI a.num++putI a.level++putI a.size++putI (a.low.size:Int)++a.low.data.toList++putI (a.high.size:Int)++a.high.data.toList,(i:Int)+1)):=by
   unfold TEW_j5
   refine wp_any (wp_u64 (by omega) (wp_fork ?_ ?_)) <;> exact wp_callr (oPut_r (by omega) rfl (by simp only[List.length_append]; omega)) (wp_app ⟨rfl,byteCells _,rfl⟩ rfl (by simp only[List.length_append]; omega) (wp_i64 (by simp only; omega) (wp_leaf rfl ⟨rfl,rfl⟩)))
  have fin4:(TEW_j4 e at_ more (Q,(i:Int)) a ()).wp (fun x c=>x= .normal∧c=TEW_l3_e e at_ more (Q++putI a.num++putI a.level++putI a.size++putI (a.low.size:Int)++a.low.data.toList++putI (a.high.size:Int)++a.high.data.toList,(i:Int)+1)):=by
   unfold TEW_j4
   refine wp_any (wp_u64 (by omega) (wp_fork ?_ ?_)) <;> exact wp_callr (oPut_r (by omega) rfl (by simp only[List.length_append]; omega)) (wp_app ⟨rfl,byteCells _,rfl⟩ rfl (by simp only[List.length_append]; omega) (wp_join rfl fin5))
  unfold TEW_l3_b
  refine wp_sp (fun _=>wp_elem a (by simp only; omega) (by simpa using ha) (wp_any ?_)) (fun h'=>absurd (of_decide_eq_false h') (by simp only; omega))
  have u1:0≤a.num∧a.num<9223372036854775808:=by omega
  have u2:0≤a.level∧a.level<9223372036854775808:=by omega
  have u3:0≤a.size∧a.size<9223372036854775808:=by omega
  have v1:0≤a.num∧a.num<18446744073709551616:=by omega
  have v2:0≤a.level∧a.level<18446744073709551616:=by omega
  have v3:0≤a.size∧a.size<18446744073709551616:=by omega
  repeat' first
   | exact wp_join rfl fin4
   | refine wp_u64 u1 ?_
   | refine wp_u64 u2 ?_
   | refine wp_u64 u3 ?_
   | refine wp_callr (oPut_r (v:=0) v1 rfl (by simp only[List.length_append]; omega)) ?_
   | refine wp_callr (oPut_r (v:=0) v2 rfl (by simp only[List.length_append]; omega)) ?_
   | refine wp_callr (oPut_r (v:=0) v3 rfl (by simp only[List.length_append]; omega)) ?_
   | refine wp_fork ?_ ?_
end
def REditWrites:List AV→AV→Prop:=fun args r=>∃ (e:Edt) (at_:Int) (more:UInt8),e.add.length≤9223372036854775807∧e.del.length≤9223372036854775807∧0≤e.seq∧args= [edtA e,vi at_,vn .u8 (more.toNat:Int)]∧r=vb true
theorem SEditWrites:SoundF DP iEditWrites (.pure (relG REditWrites)):=sound_pureT mixedD Γ18_ok Δ18_ok hfEditWrites heEditWrites hbEditWrites (by
 rintro args r ⟨e,at_,more,ha,hd,hsq,rfl,rfl⟩
 refine ⟨rfl,rfl,_,TEW_chk e at_ more,?_⟩
 unfold TEW
 refine wp_call gHeadE_eq (wp_call (gNeg_eq ha hd) (wp_sp (fun _=>wp_leaf rfl (.p _)) (fun hn=>?_)))
 obtain ⟨hok,ha20,hd20⟩:=neg_num hn hsq
 have hlen:=enc_len hok
 have eb:encI e=putI e.log++putI e.next++putI e.seq++putI (e.del.length:Int)++delI e.del++putI (e.add.length:Int)++addI e.add:=by
  unfold encI headE
  rw[mx_id hok.log.1,mx_id hok.next.1]
 have hl2:=hlen
 rw[eb] at hl2
 simp only[List.length_append] at hl2
 have hlog:=hok.log
 have hnext:=hok.next
 have hseq:=hok.seq
 have hfin:(TEW_j1 e at_ more ()).wp (fun _ c=>Sealed (fun _=>True) c.2 (tk c.1 0) (vb true)):=by
  have d0:=ew_del (e:=e) (at_:=at_) (more:=more) hok.del (putI e.log++putI e.next++putI e.seq++putI (e.del.length:Int)) (by simp only[List.length_append]; omega) hok.dl e.del.length 0 (by omega)
  have a0:=ew_add (e:=e) (at_:=at_) (more:=more) hok.add (putI e.log++putI e.next++putI e.seq++putI (e.del.length:Int)++delI e.del++putI (e.add.length:Int)) (by simp only[List.length_append]; omega) hok.al e.add.length 0 (by omega)
  rw[show putI e.log++putI e.next++putI e.seq++putI (e.del.length:Int)++delI (e.del.take 0)=putI e.log++putI e.next++putI e.seq++putI (e.del.length:Int) by simp[delI]] at d0
  rw[show putI e.log++putI e.next++putI e.seq++putI (e.del.length:Int)++delI e.del++putI (e.add.length:Int)++addI (e.add.take 0)=putI e.log++putI e.next++putI e.seq++putI (e.del.length:Int)++delI e.del++putI (e.add.length:Int) by simp[addI]] at a0
  rw[←eb] at a0
  unfold TEW_j1
  refine wp_len (wp_u64 (by omega) (wp_callr (oPut_r (v:=0) (by omega) rfl (by simp only[List.length_append]; omega)) (wp_len (wp_loop _ rfl d0 (wp_len (wp_u64 (by omega) (wp_callr (oPut_r (v:=0) (by omega) rfl (by simp only[List.length_append]; omega)) (wp_len (wp_loop _ rfl a0 ?_)))))))))
  refine wp_call (gEnc_eq hok.enc) ⟨rfl,rfl,rfl,wp_sp (fun h=>absurd h (by simp)) (fun _=>wp_call (gDec_eq (by omega)) ?_)⟩
  rw[decI_enc hok]
  have hne:((encI e).length:Int)≠0:=by
   have:0<(putI e.log).length:=by
    have:=getI_canon (b:=putI e.log) (by rw[getI_put (by omega)])
    rcases Nat.eq_zero_or_pos (putI e.log).length with h0 | h0
    ·have e0:=List.length_eq_zero_iff.1 h0
     have e1:=getI_put (g:=e.log) (by omega)
     rw[e0] at e1
     have e2:(getI []).2.2=8:=rfl
     rw[e1] at e2
     cases e2
    ·exact h0
   rw[eb]
   simp only[List.length_append]
   omega
  have hk1:0≤Int.tmod (at_ % 65536) (encI e).length:=Int.tmod_nonneg _ (by omega)
  have hk2:Int.tmod (at_ % 65536) (encI e).length<(encI e).length:=Int.tmod_lt_of_pos _ (by omega)
  have hcut:=decI_cut hok (k:=(Int.tmod (at_ % 65536) (encI e).length).toNat) (by omega)
  have hmore:=decI_more hok (r:= [more]) (by simp)
  refine wp_any (wp_sp (fun h=>absurd h (by simp)) (fun _=>wp_call (gEnc_eq hok.enc) ⟨rfl,rfl,wp_sp (fun h=>absurd h (by simp)) (fun _=>wp_len (wp_len (wp_sp (fun h=>absurd h (by simp)) (fun _=>wp_len (wp_len (wp_sp (fun h=>absurd h (by simp)) (fun _=>?_)))))))⟩))
  refine wp_int (andI64 16 (by decide)) (wp_len (wp_val (rem_val hne) (wp_cut (by simp only[cutOk]; omega) (wp_call (gDec_eq (by show ((encI e).take _).length≤_; rw[List.length_take]; omega)) ?_))))
  refine wp_app rfl rfl (by simp only[List.nil_append]; omega) (wp_app ⟨rfl,rfl⟩ rfl (by simp only[List.nil_append,List.length_append,List.length_singleton]; omega) (wp_callr (cDecS (by simp only[List.nil_append,List.length_append,List.length_singleton]; omega) rfl) (wp_sp (fun _=>wp_leaf rfl ?_) (fun h=>absurd h ?_))))
  ·rw[List.nil_append,hmore]
   exact .p _
  ·show ¬((decI ((encI e).take (Int.tmod (at_ % 65536) (encI e).length).toNat)).2 == 2)=false
   rw[hcut]
   decide
 refine wp_any ?_
 have u1:0≤e.log∧e.log<9223372036854775808:=by omega
 have u2:0≤e.next∧e.next<9223372036854775808:=by omega
 have v1:0≤e.log∧e.log<18446744073709551616:=by omega
 have v2:0≤e.next∧e.next<18446744073709551616:=by omega
 have v3:0≤e.seq∧e.seq<18446744073709551616:=by omega
 repeat' first
  | exact wp_join rfl hfin
  | refine wp_u64 u1 ?_
  | refine wp_u64 u2 ?_
  | refine wp_callr (oPut_n v1) ?_
  | refine wp_callr (oPut_r (v:=0) v2 rfl (by omega)) ?_
  | refine wp_callr (oPut_r (v:=0) v3 rfl (by simp only[List.length_append]; omega)) ?_
  | refine wp_fork ?_ ?_)
end Go.Ax

namespace Go.Ax
open Go.Proofs Go.ChangeShapes Go.WideShapes Go.ChangeAt Go.RowKit
set_option maxRecDepth 100000

theorem tabRel {W:World} {g:Nat} {us:Array Value} {e:TypeId} {fr:Nat×Nat} (hh:W.heap[g]? = some (.cells us e fr)) (hu:us.toList.map PV.v=Glob.tab g):∀ ρ,GRel noF [] ρ W g:=fun ρ=>by
 have hl:(Glob.tab g).length=us.toList.length:=by rw[←hu]; simp
 refine ⟨.rp _ ⟨g,0,none⟩ us.toList rfl not_own (Array.getElem?_eq_some_iff.1 hh).1 hl (fun j u hj=>?_) (fun j p u hp hv=>?_),us,e,fr,hh,by rw[hl]; simp⟩
 ·rw[Addr.add_lit,Nat.zero_add,cell_of hh]
  simpa using hj
 ·rw[←hu,List.getElem?_map,hv] at hp
  cases hp
  exact .v _

theorem var_block {P:Program} {W:World} {n:String} {g:Nat} {cs:Array Value} (hg:P.globalNamed n=some g) (h:W.var? P n=some cs):∃ e fr,W.heap[g]? = some (.cells cs e fr):=by
 unfold World.var? at h
 rw[hg,Option.bind_some] at h
 split at h
 ·rename_i cs' e fr hc
  cases h
  exact ⟨e,fr,hc⟩
 ·cases h

abbrev laid4 : List (String × DataW Unit) := [("math/bits.deBruijn32tab", YtjlipmcdnigfcaaDoor.Rows.laid_math_bits_deBruijn32tab), ("math/bits.deBruijn64tab", YtjlipmcdnigfcaaDoor.Rows.laid_math_bits_deBruijn64tab), ("internal/strconv.uint64pow10", YtjlipmcdnigfcaaDoor.Rows.laid_internal_strconv_uint64pow10), ("tailrace/crc.halves", YtjlipmcdnigfcaaDoor.Rows.laid_tailrace_crc_halves)]

theorem gHalves : DP.globalNamed "tailrace/crc.halves" = some 0 := by kernel_rfl
theorem gPow : DP.globalNamed "internal/strconv.uint64pow10" = some 3 := by kernel_rfl
theorem tHalves:(DP.globals[0]?).map (·.type)=some 169:=by kernel_rfl

theorem tPow:(DP.globals[3]?).map (·.type)=some 188:=by kernel_rfl

theorem globW_of {W:World} (h:laidMetH DP laid4 W):GlobW W:=by
 rw[MakeChecks.laidMetH_plain _ _ _ (by kernel_rfl)] at h
 obtain ⟨ps,⟨g0,t0,cs0,f0,p0,q0,hg0,ht0,hv0,hd0,⟨g1,t1,cs1,f1,p1,q1,hg1,ht1,hv1,hd1,⟨g2,t2,cs2,f2,p2,q2,hg2,ht2,hv2,hd2,⟨g3,t3,cs3,f3,p3,q3,hg3,ht3,hv3,hd3,_,_⟩,_⟩,_⟩,_⟩,_,_⟩:=h
 obtain rfl:=Option.some.inj (gPow.symm.trans hg2)
 obtain rfl:=Option.some.inj (gHalves.symm.trans hg3)
 obtain rfl:=Option.some.inj (tPow.symm.trans ht2)
 obtain rfl:=Option.some.inj (tHalves.symm.trans ht3)
 have c2:=Lib.cells_of_tab (k:= .u64) (zs:=Lib.pow10Tab) (n:=20) (e:=46) (by kernel_rfl) (by kernel_rfl) (by kernel_rfl) (by kernel_rfl) hd2
 have c3:=Lib.cells_of_tab (k:= .u32) (zs:=halvesL) (n:=16) (e:=137) (by kernel_rfl) (by kernel_rfl) (by kernel_rfl) (by kernel_rfl) hd3
 obtain ⟨e2,r2,b2⟩:=var_block hg2 hv2
 obtain ⟨e3,r3,b3⟩:=var_block hg3 hv3
 intro g hg
 match g with
 | 0=>exact tabRel b3 (by rw[c3]; rfl)
 | 3=>exact tabRel b2 (by rw[c2]; rfl)
 | 1=>exact absurd rfl hg
 | 2=>exact absurd rfl hg
 | g+4=>exact absurd rfl hg

theorem door4 (os:Os) (args:Array Value):laidMetH DP laid4 ((World.doorLaid DP 67 os).forCall (fun _ _=>0) ⟨#[],args,[]⟩).memory:=
 laidMetH_of_parts3 (fuel:=8) (laidMet_of_run' 8 (by kernel_rfl) (by kernel_rfl)) (by kernel_rfl) (by kernel_rfl)

section
variable {H : Type} {enc : TypeId × Value → H} {w : World} {base : Nat} {spare : Nat → Bool} {held : Bool} {O : Nat → Prop}
end
end Go.Ax

namespace Go.Ax
open Go.Proofs Go.RowKit
theorem u8_in {s:Int} (hw:(Lit.int .u8 s).wf=true):∃ b:UInt8,s=(b.toNat:Int):=by
 simp only[Lit.wf,Bool.and_eq_true,decide_eq_true_eq] at hw
 have h1:IntKind.u8.min=0:=by decide
 have h2:IntKind.u8.max=255:=by decide
 refine ⟨UInt8.ofNat s.toNat,?_⟩
 rw[UInt8.toNat_ofNat']
 omega
end Go.Ax

namespace Go.Ax
open Go.Proofs Go.RowKit
set_option maxRecDepth 100000

def edtE:Enc Edt:=⟨fun e=> .agg [.ls (e.add.map metaE.f), .ls (e.del.map intE.f), .v (.int .i64 e.log), .v (.int .i64 e.next), .v (.int .u64 e.seq)],5,fun _=>rfl,fun _=>rfl⟩
section
variable {H : Type} {enc : TypeId × Value → H} {w : World} {base : Nat} {spare : Nat → Bool} {held : Bool} {O : Nat → Prop}
theorem in_meta (n:Nat) (cs':List Value) (y:DataW H×List MemPlace) (h:DataW.trod enc DP w base spare held n 53 cs'=some y):
  ∃ a:Meta,True∧cs'.length=5∧∀ (r:Nat) (p:PV) (u:Value),(metaE.f a).cells[r]? = some p→cs'[r]? = some u→PRel O w p u:=by
 obtain ⟨xs,n,_,rfl,hl,hlen,hf⟩:=DataW.trod_struct Tryd.underlying53 h
 have hc:DP.cellsOf 53=5:=by kernel_rfl
 have c9:DP.cellsOf 9=1:=by kernel_rfl
 have c3:DP.cellsOf 3=1:=by kernel_rfl
 rw[hc] at hl
 have h0:DataW.trod enc DP w base spare held n 3 ((cs'.drop 0).take (DP.cellsOf 3))=xs[0]? := hf 0 _ rfl
 have h1:DataW.trod enc DP w base spare held n 3 ((cs'.drop 1).take (DP.cellsOf 3))=xs[1]? := hf 1 _ rfl
 have h2:DataW.trod enc DP w base spare held n 9 ((cs'.drop 2).take (DP.cellsOf 9))=xs[2]? := hf 2 _ rfl
 have h3:DataW.trod enc DP w base spare held n 9 ((cs'.drop 3).take (DP.cellsOf 9))=xs[3]? := hf 3 _ rfl
 have h4:DataW.trod enc DP w base spare held n 3 ((cs'.drop 4).take (DP.cellsOf 3))=xs[4]? := hf 4 _ rfl
 rw[c3] at h0 h1 h4
 rw[c9] at h2 h3
 match cs',hl,xs,hlen with
 | [v0,v1,v2,v3,v4],_,[x0,x1,x2,x3,x4],_=>
  obtain ⟨a,e0,_,_⟩:=DataW.trod_int Tryd.underlying3 h0
  obtain ⟨b,e1,_,_⟩:=DataW.trod_int Tryd.underlying3 h1
  obtain ⟨c,e2,_,_⟩:=DataW.trod_string Tryd.underlying9 h2
  obtain ⟨d,e3,_,_⟩:=DataW.trod_string Tryd.underlying9 h3
  obtain ⟨e,e4,_,_⟩:=DataW.trod_int Tryd.underlying3 h4
  simp at e0 e1 e2 e3 e4
  subst e0 e1 e2 e3 e4
  refine ⟨⟨a,b,c,d,e⟩,trivial,rfl,fun r p u hp hu=>?_⟩
  match r with
  | 0=>cases hp; cases hu; exact .v _
  | 1=>cases hp; cases hu; exact .v _
  | 2=>cases hp; cases hu; exact .v _
  | 3=>cases hp; cases hu; exact .v _
  | 4=>cases hp; cases hu; exact .v _
  | r+5=>simp[metaE,PV.cells] at hp
theorem in_i64 (n:Nat) (cs':List Value) (y:DataW H×List MemPlace) (h:DataW.trod enc DP w base spare held n 3 cs'=some y):
  ∃ a:Int,True∧cs'.length=1∧∀ (r:Nat) (p:PV) (u:Value),(intE.f a).cells[r]? = some p→cs'[r]? = some u→PRel O w p u:=by
 obtain ⟨s,rfl,_,_⟩:=DataW.trod_int Tryd.underlying3 h
 refine ⟨s,trivial,rfl,fun r p u hp hu=>?_⟩
 match r with
 | 0=>cases hp; cases hu; exact .v _
 | r+1=>simp[intE,PV.cells] at hp
theorem in_metas (hO:∀ k,¬O k) {fuel:Nat} {v:Value} {x:DataW H×List MemPlace} (h:DataW.trod enc DP w base spare held fuel 45 [v]=some x):
  ∃ L:List Meta,(∀ a∈L,True)∧L.length≤maxLen∧PRel O w (.ls (L.map metaE.f)) v:=open_listL hO Tryd.underlying45 metaE.elt (by decide) (by kernel_rfl) (fun n cs' y hy=>in_meta n cs' y hy) h
theorem in_ints (hO:∀ k,¬O k) {fuel:Nat} {v:Value} {x:DataW H×List MemPlace} (h:DataW.trod enc DP w base spare held fuel 36 [v]=some x):
  ∃ L:List Int,(∀ a∈L,True)∧L.length≤maxLen∧PRel O w (.ls (L.map intE.f)) v:=open_listL hO Tryd.underlying36 intE.elt (by decide) (by kernel_rfl) (fun n cs' y hy=>in_i64 n cs' y hy) h
def Edt.fits (a:Edt):Prop:=a.add.length≤maxLen∧a.del.length≤maxLen∧0≤a.seq
theorem in_edt (hO:∀ k,¬O k) (n:Nat) (cs':List Value) (y:DataW H×List MemPlace) (h:DataW.trod enc DP w base spare held n 56 cs'=some y):
  ∃ a:Edt,a.fits∧cs'.length=5∧∀ (r:Nat) (p:PV) (u:Value),(edtE.f a).cells[r]? = some p→cs'[r]? = some u→PRel O w p u:=by
 obtain ⟨xs,n,_,rfl,hl,hlen,hf⟩:=DataW.trod_struct Tryd.underlying56 h
 have hc:DP.cellsOf 56=5:=by kernel_rfl
 have c45:DP.cellsOf 45=1:=by kernel_rfl
 have c36:DP.cellsOf 36=1:=by kernel_rfl
 have c3:DP.cellsOf 3=1:=by kernel_rfl
 have c46:DP.cellsOf 46=1:=by kernel_rfl
 rw[hc] at hl
 have h0:DataW.trod enc DP w base spare held n 45 ((cs'.drop 0).take (DP.cellsOf 45))=xs[0]? := hf 0 _ rfl
 have h1:DataW.trod enc DP w base spare held n 36 ((cs'.drop 1).take (DP.cellsOf 36))=xs[1]? := hf 1 _ rfl
 have h2:DataW.trod enc DP w base spare held n 3 ((cs'.drop 2).take (DP.cellsOf 3))=xs[2]? := hf 2 _ rfl
 have h3:DataW.trod enc DP w base spare held n 3 ((cs'.drop 3).take (DP.cellsOf 3))=xs[3]? := hf 3 _ rfl
 have h4:DataW.trod enc DP w base spare held n 46 ((cs'.drop 4).take (DP.cellsOf 46))=xs[4]? := hf 4 _ rfl
 rw[c3] at h2 h3
 rw[c45] at h0
 rw[c36] at h1
 rw[c46] at h4
 match cs',hl,xs,hlen with
 | [v0,v1,v2,v3,v4],_,[x0,x1,x2,x3,x4],_=>
  obtain ⟨L,_,hL,p0⟩:=in_metas (O:=O) hO h0
  obtain ⟨M,_,hM,p1⟩:=in_ints (O:=O) hO h1
  obtain ⟨b,e2,_,_⟩:=DataW.trod_int Tryd.underlying3 h2
  obtain ⟨c,e3,_,_⟩:=DataW.trod_int Tryd.underlying3 h3
  obtain ⟨d,e4,_,hw⟩:=DataW.trod_int Tryd.underlying46 h4
  have hb:0≤d:=by
   simp only[Lit.wf,Bool.and_eq_true,decide_eq_true_eq] at hw
   have h1:IntKind.u64.min=0:=by decide
   omega
  simp at e2 e3 e4
  subst e2 e3 e4
  refine ⟨⟨L,M,b,c,d⟩,⟨hL,hM,hb⟩,rfl,fun r p u hp hu=>?_⟩
  match r with
  | 0=>cases hp; cases hu; exact p0
  | 1=>cases hp; cases hu; exact p1
  | 2=>cases hp; cases hu; exact .v _
  | 3=>cases hp; cases hu; exact .v _
  | 4=>cases hp; cases hu; exact .v _
  | r+5=>simp[edtE,PV.cells] at hp
theorem open_edt {ρ:Loc} {r:Reach} {b0:Nat} {v:Value} {d:DataW H} {p:List MemPlace} (hv:Value.okWide DP w r b0 56 v) (h:DataW.Trod enc DP w base spare held 56 v d p):
  ∃ e:Edt,e.fits∧VRel noF [] ρ w (edtA e) v:=by
 unfold Value.okWide at hv
 rw[Tryd.underlying56] at hv
 obtain ⟨cs,rfl,_⟩:=hv
 obtain ⟨fuel,hf⟩:=h
 obtain ⟨a,ha,hl,hp⟩:=in_edt (O:=Own noF [] ρ) (fun k=>not_own) fuel _ _ hf
 refine ⟨a,ha, .agg _ cs.toList ?_ fun j p u hp' hu=>?_⟩
 ·exact hl.symm
 ·match j with
  | 0=>cases hp'; exact .p _ _ (hp 0 _ _ rfl hu)
  | 1=>cases hp'; exact .p _ _ (hp 1 _ _ rfl hu)
  | 2=>cases hp'; exact .p _ _ (hp 2 _ _ rfl hu)
  | 3=>cases hp'; exact .p _ _ (hp 3 _ _ rfl hu)
  | 4=>cases hp'; exact .p _ _ (hp 4 _ _ rfl hu)
  | j+5=>simp at hp'
end
end Go.Ax
