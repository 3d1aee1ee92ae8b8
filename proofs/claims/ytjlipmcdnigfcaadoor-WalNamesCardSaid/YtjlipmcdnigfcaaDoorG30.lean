/- The law WalNames: the kit's walk. -/
import Derived.Test.YtjlipmcdnigfcaaDoorG28
import Derived.Test.YtjlipmcdnigfcaaDoorG29
set_option linter.unusedVariables false
set_option linter.unusedSimpArgs false
set_option linter.unusedSectionVars false
namespace Go.Ax
open Go.Proofs Go.RowKit Go.Lib
set_option maxRecDepth 100000

structure Lies (W:World) (t1 t2:TypeId) (p1 p2:Value):Prop where
 half:∃ us e fr,W.heap[0]? = some (.cells us e fr)∧us.toList.map PV.v=Glob.tab 0
 pow:∃ us e fr,W.heap[3]? = some (.cells us e fr)∧us.toList.map PV.v=Glob.tab 3
 syn : W.var? DP "strconv.ErrSyntax" = some #[.iface t1 p1]
 rng : W.var? DP "strconv.ErrRange" = some #[.iface t2 p2]
theorem Lies.glob {W:World} {t1 t2:TypeId} {p1 p2:Value} (h:Lies W t1 t2 p1 p2):GlobW W:=by
 obtain ⟨u0,e0,r0,b0,c0⟩:=h.half
 obtain ⟨u3,e3,r3,b3,c3⟩:=h.pow
 intro g hg
 match g with
 | 0=>exact tabRel b0 c0
 | 3=>exact tabRel b3 c3
 | 1=>exact absurd rfl hg
 | 2=>exact absurd rfl hg
 | g+4=>exact absurd rfl hg
theorem heap_lt {W:World} {g:Nat} {o:Obj} (h:W.heap[g]? = some o):g<W.heap.size:=by
 rcases Nat.lt_or_ge g W.heap.size with h' | h'
 ·exact h'
 ·rw[Array.getElem?_eq_none h'] at h; cases h
theorem gSyn : ∃ g, DP.globalNamed "strconv.ErrSyntax" = some g := ⟨1, by kernel_rfl⟩
theorem gRng : ∃ g, DP.globalNamed "strconv.ErrRange" = some g := ⟨2, by kernel_rfl⟩
theorem Lies.stays {W W':World} {t1 t2:TypeId} {p1 p2:Value} (h:Lies W t1 t2 p1 p2) (hb:Below W.heap.size W W'):Lies W' t1 t2 p1 p2:=by
 obtain ⟨u0,e0,r0,b0,c0⟩:=h.half
 obtain ⟨u3,e3,r3,b3,c3⟩:=h.pow
 obtain ⟨g1,hg1⟩:=gSyn
 obtain ⟨g2,hg2⟩:=gRng
 exact ⟨⟨u0,e0,r0,by rw[hb.block 0 (heap_lt b0)]; exact b0,c0⟩,⟨u3,e3,r3,by rw[hb.block 3 (heap_lt b3)]; exact b3,c3⟩,Joins.var_stays hg1 h.syn hb (Nat.le_refl _),Joins.var_stays hg2 h.rng hb (Nat.le_refl _)⟩
theorem Lies.tab {W : World} {t1 t2 : TypeId} {p1 p2 : Value} (h : Lies W t1 t2 p1 p2) : Lib.TabIs DP W "internal/strconv.uint64pow10" .u64 Lib.pow10Tab := tab_pow10 (fun g hg => by
 match g with
 | 0=>exact h.half
 | 3=>exact h.pow
 | 1=>exact absurd rfl hg
 | 2=>exact absurd rfl hg
 | g+4=>exact absurd rfl hg)
theorem name_calls (n:Int) (hn: -9223372036854775808≤n∧n≤9223372036854775807) {W:World} (hg:GlobW W):Calls DP 23 #[.int .i64 n] W fun e w'=>e= .returned (.string (wname n))∧Below W.heap.size W w':=by
 have hA:ArgsRel noF [] (fun _=>none) W [vi n] [.int .i64 n]:=by
  refine ⟨rfl,fun j p u hp hu=>?_⟩
  match j with
  | 0=>cases hp; cases hu; exact .p _ _ (.v _)
  | j+1=>simp at hp
 refine (calls_of SNameW heNameW (gNameW_eq hn) hA hg).mono fun e w' hp=>?_
 obtain ⟨v,ρ,rfl,hb,hv⟩:=hp
 rw[hv.val]
 exact ⟨rfl,hb⟩
theorem head_calls {W:World} (hg:GlobW W):Calls DP 14 #[] W fun e w'=>e= .returned (.bool true)∧Below W.heap.size W w':=by
 have hA:ArgsRel noF [] (fun _=>none) W [] []:=⟨rfl,fun j p u hp hu=>by simp at hp⟩
 refine (calls_of SHeadL heHeadL gHeadL_eq hA hg).mono fun e w' hp=>?_
 obtain ⟨v,ρ,rfl,hb,hv⟩:=hp
 rw[hv.val]
 exact ⟨rfl,hb⟩
theorem wname_sz (n:Int) (hn: -9223372036854775808≤n∧n≤9223372036854775807):(wname n).size≤1000:=by
 have:=itoaB_size hn
 have h2:(wname n).size=4+(itoaB n).size:=cat_size _ _
 omega
set_option maxHeartbeats 4000000 in
theorem names_walk (n:Int) (hn: -9223372036854775808≤n∧n≤9223372036854775807) (name:ByteArray) {W:World} {t1 t2:TypeId} {p1 p2:Value} (hl:Lies W t1 t2 p1 p2):
  Calls DP 6 #[.int .i64 n, .string name] W fun e w'=>e= .returned (.bool true)∧Below W.heap.size W w':=by
 have mixed:DP.follows .mixedOrders=true:=mixedD
 have e14:∀ args w,(callFunc 14 args).run DP w= .ok (.enter 14 args) w:=enters_of Tryd.func14 (by kernel_rfl) rfl
 have e23:∀ args w,(callFunc 23 args).run DP w= .ok (.enter 23 args) w:=enters_of Tryd.func23 (by kernel_rfl) rfl
 have e28:∀ args w,(callFunc 28 args).run DP w= .ok (.enter 28 args) w:=enters_of Tryd.func28 (by kernel_rfl) rfl
 go_enter Tryd.func6,Tryd.ntmps6
 go_wp2_with (go_at_fn 14; refine (head_calls hl.glob).mono ?_)
 rintro e w1 ⟨rfl,b1⟩
 have l1:=hl.stays b1
 rcases Nat.lt_or_ge 100 name.size with hs | hs
 ·go_wp2
  go_ret
  exact ⟨rfl,b1⟩
 ·go_wp2_with (go_at_fn 23; refine (name_calls n hn l1.glob).mono ?_)
  rintro e w2 ⟨rfl,b2⟩
  have l2:=l1.stays b2
  go_wp2_with (go_at_fn 28; refine (number_all (wname n) (wname_sz n hn) _ l2.syn l2.rng l2.tab).mono ?_)
  rintro e w3 ⟨he,b3⟩
  have l3:=l2.stays b3
  rcases he with ⟨v,hv,ev,rfl⟩ | ⟨hno,rfl⟩
  ·have env:v=n:=itoa_inj (by omega) hn (by
    have:=congrArg (fun s:ByteArray=>s.data.toList) ev
    simp only[wname_listI] at this
    exact (List.append_cancel_left this).symm)
   subst env
   have v1:=hv.1
   have v2:=hv.2
   go_wp2_with (go_at_fn 28; refine (number_all name (by omega) _ l3.syn l3.rng l3.tab).mono ?_)
   try simp only[and_imp]
   rintro e w4 he2 b4
   have l4:=l3.stays b4
   have b14:=((b1.trans (b2.mono b1.size)).trans (b3.mono (Nat.le_trans b1.size b2.size))).trans (b4.mono (Nat.le_trans (Nat.le_trans b1.size b2.size) b3.size))
   rcases he2 with ⟨u,hu,eu,rfl⟩ | ⟨_,rfl⟩
   ·have u1:=hu.1
    have u2:=hu.2
    go_wp2_with (go_at_fn 23; refine (name_calls u (by omega) l4.glob).mono ?_)
    try simp only[and_imp]
    rintro e w5 he5 b5
    subst he5
    rw[←eu]
    go_wp2
    go_ret
    exact ⟨by simp[u1,u2],b14.trans (b5.mono (Nat.le_trans (Nat.le_trans (Nat.le_trans b1.size b2.size) b3.size) b4.size))⟩
   ·go_wp2
    go_ret
    exact ⟨rfl,b14⟩
  ·have hr:n<1∨1073741824<n:=by
    rcases Int.lt_or_le n 1 with h | h
    ·exact .inl h
    ·rcases Int.lt_or_le 1073741824 n with h2 | h2
     ·exact .inr h2
     ·exact absurd rfl (hno n h h2)
   clear hno
   rcases hr with hr | hr
   ·go_wp2_with (go_at_fn 28; refine (number_all name (by omega) _ l3.syn l3.rng l3.tab).mono ?_)
    try simp only[and_imp]
    rintro e w4 he2 b4
    have l4:=l3.stays b4
    have b14:=((b1.trans (b2.mono b1.size)).trans (b3.mono (Nat.le_trans b1.size b2.size))).trans (b4.mono (Nat.le_trans (Nat.le_trans b1.size b2.size) b3.size))
    rcases he2 with ⟨u,hu,eu,rfl⟩ | ⟨_,rfl⟩
    ·have u1:=hu.1
     have u2:=hu.2
     go_wp2_with (go_at_fn 23; refine (name_calls u (by omega) l4.glob).mono ?_)
     try simp only[and_imp]
     rintro e w5 he5 b5
     subst he5
     rw[←eu]
     go_wp2
     go_ret
     exact ⟨by simp[u1,u2],b14.trans (b5.mono (Nat.le_trans (Nat.le_trans (Nat.le_trans b1.size b2.size) b3.size) b4.size))⟩
    ·go_wp2
     go_ret
     exact ⟨rfl,b14⟩
   ·have hr1:1≤n:=by omega
    go_wp2_with (go_at_fn 28; refine (number_all name (by omega) _ l3.syn l3.rng l3.tab).mono ?_)
    try simp only[and_imp]
    rintro e w4 he2 b4
    have l4:=l3.stays b4
    have b14:=((b1.trans (b2.mono b1.size)).trans (b3.mono (Nat.le_trans b1.size b2.size))).trans (b4.mono (Nat.le_trans (Nat.le_trans b1.size b2.size) b3.size))
    rcases he2 with ⟨u,hu,eu,rfl⟩ | ⟨_,rfl⟩
    ·have u1:=hu.1
     have u2:=hu.2
     go_wp2_with (go_at_fn 23; refine (name_calls u (by omega) l4.glob).mono ?_)
     try simp only[and_imp]
     rintro e w5 he5 b5
     subst he5
     rw[←eu]
     go_wp2
     go_ret
     exact ⟨by simp[u1,u2],b14.trans (b5.mono (Nat.le_trans (Nat.le_trans (Nat.le_trans b1.size b2.size) b3.size) b4.size))⟩
    ·go_wp2
     go_ret
     exact ⟨rfl,b14⟩
end Go.Ax

namespace Go.Ax
open Go.Proofs Go.ChangeShapes Go.WideShapes Go.ChangeAt Go.RowKit
set_option maxRecDepth 100000

abbrev laid6 : List (String × DataW Unit) := [("math/bits.deBruijn32tab", YtjlipmcdnigfcaaDoor.Rows.laid_math_bits_deBruijn32tab), ("math/bits.deBruijn64tab", YtjlipmcdnigfcaaDoor.Rows.laid_math_bits_deBruijn64tab), ("internal/strconv.uint64pow10", YtjlipmcdnigfcaaDoor.Rows.laid_internal_strconv_uint64pow10), ("tailrace/crc.halves", YtjlipmcdnigfcaaDoor.Rows.laid_tailrace_crc_halves),
 ("strconv.ErrRange", YtjlipmcdnigfcaaDoor.Rows.laid_strconv_ErrRange), ("strconv.ErrSyntax", YtjlipmcdnigfcaaDoor.Rows.laid_strconv_ErrSyntax)]
theorem tRng:(DP.globals[2]?).map (·.type)=some 109:=by kernel_rfl
theorem tSyn:(DP.globals[1]?).map (·.type)=some 109:=by kernel_rfl
theorem gSyn1 : DP.globalNamed "strconv.ErrSyntax" = some 1 := by kernel_rfl
theorem gRng2 : DP.globalNamed "strconv.ErrRange" = some 2 := by kernel_rfl
theorem lies_of {W:World} (h:laidMetH DP laid6 W):∃ t1 t2 p1 p2,Lies W t1 t2 p1 p2:=by
 rw[MakeChecks.laidMetH_plain _ _ _ (by kernel_rfl)] at h
 obtain ⟨ps,⟨g0,t0,cs0,f0,p0,q0,hg0,ht0,hv0,hd0,⟨g1,t1,cs1,f1,p1,q1,hg1,ht1,hv1,hd1,⟨g2,t2,cs2,f2,p2,q2,hg2,ht2,hv2,hd2,⟨g3,t3,cs3,f3,p3,q3,hg3,ht3,hv3,hd3,
  ⟨g4,t4,cs4,f4,p4,q4,hg4,ht4,hv4,hd4,⟨g5,t5,cs5,f5,p5,q5,hg5,ht5,hv5,hd5,_,_⟩,_⟩,_⟩,_⟩,_⟩,_⟩,_,_⟩:=h
 obtain rfl:=Option.some.inj (gPow.symm.trans hg2)
 obtain rfl:=Option.some.inj (gHalves.symm.trans hg3)
 obtain rfl:=Option.some.inj (gRng2.symm.trans hg4)
 obtain rfl:=Option.some.inj (gSyn1.symm.trans hg5)
 obtain rfl:=Option.some.inj (tPow.symm.trans ht2)
 obtain rfl:=Option.some.inj (tHalves.symm.trans ht3)
 obtain rfl:=Option.some.inj (tRng.symm.trans ht4)
 obtain rfl:=Option.some.inj (tSyn.symm.trans ht5)
 have c2:=Lib.cells_of_tab (k:= .u64) (zs:=Lib.pow10Tab) (n:=20) (e:=46) (by kernel_rfl) (by kernel_rfl) (by kernel_rfl) (by kernel_rfl) hd2
 have c3:=Lib.cells_of_tab (k:= .u32) (zs:=halvesL) (n:=16) (e:=137) (by kernel_rfl) (by kernel_rfl) (by kernel_rfl) (by kernel_rfl) hd3
 obtain ⟨e2,r2,b2⟩:=var_block hg2 hv2
 obtain ⟨e3,r3,b3⟩:=var_block hg3 hv3
 obtain ⟨_,u4,v4,d4,_,_⟩:=iface_of_trod Tryd.underlying109 hd4
 obtain ⟨_,u5,v5,d5,_,_⟩:=iface_of_trod Tryd.underlying109 hd5
 have x4:cs4 = #[.iface u4 v4]:=Array.toList_inj.mp d4
 have x5:cs5 = #[.iface u5 v5]:=Array.toList_inj.mp d5
 subst x4 x5
 exact ⟨u5,u4,v5,v4,⟨_,e3,r3,b3,by rw[c3]; rfl⟩,⟨_,e2,r2,b2,by rw[c2]; rfl⟩,hv5,hv4⟩
theorem door6 (os:Os) (args:Array Value):laidMetH DP laid6 ((World.doorLaid DP 67 os).forCall (fun _ _=>0) ⟨#[],args,[]⟩).memory:=
 laidMetH_of_parts3 (fuel:=8) (laidMet_of_run' 8 (by kernel_rfl) (by kernel_rfl)) (by kernel_rfl) (by kernel_rfl)
end Go.Ax
