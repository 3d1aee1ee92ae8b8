/- Trees, printed by gen/k1.py: the disk's functions, the disk laid open. -/
import Derived.Test.YtbdfbdlfipcleaaGreatDoorG26
import Derived.Test.YtbdfbdlfipcleaaGreatDoorG25
import Derived.Test.YtbdfbdlfipcleaaGreatDoorG33
set_option linter.unusedVariables false
set_option linter.unusedSimpArgs false
set_option linter.unusedSectionVars false
namespace Go.Ax
open Go.Proofs Go.RowKit
set_option maxRecDepth 100000

noncomputable abbrev cCr1:Code:=nav [true,false] (bodyOf nCrash)
noncomputable abbrev cCrL:Code:=nav [true,true,true,true,false] (bodyOf nCrash)
noncomputable abbrev cCrB:Code:=nav [true,true,true,true,false,false] (bodyOf nCrash)

noncomputable def TCr1_t (ro:Int) (us:Int) (fu:Int) (hid:List (Value×Value)) (ks:List Int):Tree:=
.leaf ⟨[0,1],[(0,0,none),(1,0,none)]⟩ [] .normal (some ([(0, .ptr 0 0 0),(1,vl (ks.map intE.f))],[.cells false 0 ([vi ro,vi us, .mp 1,vb false,vi 0]), .obj [] (mapP [] hid)]))

theorem TCr1_t_chk (ro:Int) (us:Int) (fu:Int) (hid:List (Value×Value)) (ks:List Int):codeC DP ΓF ΔF 95 2 cCr1 (St.as ([(0, .ptr 0 0 0),(1,vl (ks.map intE.f))],[.cells false 0 ([vi ro,vi us, .mp 1,vb true,vi fu]), .obj [] (mapP [] hid)])) (TCr1_t ro us fu hid ks) (leafC 2)=TCr1_t ro us fu hid ks:=by kernel_rfl

noncomputable def TCr1_f (ro:Int) (us:Int) (fu:Int) (hid:List (Value×Value)) (ks:List Int):Tree:=
.leaf ⟨[0,1],[(0,0,none),(1,0,none)]⟩ [] .normal (some ([(0, .ptr 0 0 0),(1,vl (ks.map intE.f))],[.cells false 0 ([vi ro,vi us, .mp 1,vb false,vi 0]), .obj [] (mapP [] hid)]))

theorem TCr1_f_chk (ro:Int) (us:Int) (fu:Int) (hid:List (Value×Value)) (ks:List Int):codeC DP ΓF ΔF 95 2 cCr1 (St.as ([(0, .ptr 0 0 0),(1,vl (ks.map intE.f))],[.cells false 0 ([vi ro,vi us, .mp 1,vb false,vi fu]), .obj [] (mapP [] hid)])) (TCr1_f ro us fu hid ks) (leafC 2)=TCr1_f ro us fu hid ks:=by kernel_rfl

noncomputable def TCrB_p (ro:Int) (us:Int) (fu:Int) (hid:List (Value×Value)) (L:List UInt8) (su:Int) (nm:ByteArray) (ks:List Int) (i:Int) (names:List ByteArray) (j:Int):Tree:=
.sp 22 (decide (j<((names.length:Nat):Int))) (
.elemk 23 (names.map nameE.f) nameE names j nm (.val (some 30) (LookE0 DP 69 [.cells false 0 ([vi ro,vi us, .mp 1,vb false,vi fu]), .obj [.ptr 2 0 0] (mapP [.string nm] hid), .cells false 0 ([.rs 3 0 1 0 L.length,vi su]),byteE.bx 0 L] (.mp 1) (vs nm) (.ptr 2 0 0)) (.ptr 2 0 0) [.cells false 0 ([vi ro,vi us, .mp 1,vb false,vi fu]), .obj [.ptr 2 0 0] (mapP [.string nm] hid), .cells false 0 ([.rs 3 0 1 0 L.length,vi su]),byteE.bx 0 L] (.int 40 (IntKind.i64.wrap (((L.length:Nat):Int) - su)) (((L.length:Nat):Int) - su) (.sp 42 ((((L.length:Nat):Int) - su) == (0:Int)) (
.int 94 (IntKind.i64.wrap (j+1)) (j+1) (.leaf ⟨[0,1,4,19,20,21],[(0,0,none),(1,0,none),(2,0,none),(3,0,some (L.map byteE.f))]⟩ [rowC (L.map byteE.f)] .normal (some ([(0, .ptr 0 0 0),(1,vl (ks.map intE.f)),(4,vi i),(19,vl (names.map nameE.f)),(20,vi ((names.length:Nat):Int)),(21,vi (j+1))],[.cells false 0 ([vi ro,vi us, .mp 1,vb false,vi fu]), .obj [.ptr 2 0 0] (mapP [.string nm] hid), .cells false 0 ([.rs 3 0 1 0 L.length,vi su]),byteE.bx 0 L])))) (
.int 45 ((ks.map intE.f).length:Int) (ks.length:Int) (.sp 46 (decide (i<(ks.length:Int))) (
.elem 49 (ks.map intE.f) intE ks i (fun e1=> .int 55 (IntKind.i64.wrap (i+1)) (i+1) (.int 62 (IntKind.i64.wrap ((((L.length:Nat):Int) - su) - (if (0:Int)<((if (((L.length:Nat):Int) - su:Int)<(e1:Int) then (((L.length:Nat):Int) - su:Int) else (e1:Int)):Int) then ((if (((L.length:Nat):Int) - su:Int)<(e1:Int) then (((L.length:Nat):Int) - su:Int) else (e1:Int)):Int) else (0:Int)))) ((((L.length:Nat):Int) - su) - (if (0:Int)<((if (((L.length:Nat):Int) - su:Int)<(e1:Int) then (((L.length:Nat):Int) - su:Int) else (e1:Int)):Int) then ((if (((L.length:Nat):Int) - su:Int)<(e1:Int) then (((L.length:Nat):Int) - su:Int) else (e1:Int)):Int) else (0:Int))) (.int 63 (IntKind.i64.wrap (us - ((((L.length:Nat):Int) - su) - (if (0:Int)<((if (((L.length:Nat):Int) - su:Int)<(e1:Int) then (((L.length:Nat):Int) - su:Int) else (e1:Int)):Int) then ((if (((L.length:Nat):Int) - su:Int)<(e1:Int) then (((L.length:Nat):Int) - su:Int) else (e1:Int)):Int) else (0:Int))))) (us - ((((L.length:Nat):Int) - su) - (if (0:Int)<((if (((L.length:Nat):Int) - su:Int)<(e1:Int) then (((L.length:Nat):Int) - su:Int) else (e1:Int)):Int) then ((if (((L.length:Nat):Int) - su:Int)<(e1:Int) then (((L.length:Nat):Int) - su:Int) else (e1:Int)):Int) else (0:Int)))) (.int 76 (IntKind.i64.wrap (su+(if (0:Int)<((if (((L.length:Nat):Int) - su:Int)<(e1:Int) then (((L.length:Nat):Int) - su:Int) else (e1:Int)):Int) then ((if (((L.length:Nat):Int) - su:Int)<(e1:Int) then (((L.length:Nat):Int) - su:Int) else (e1:Int)):Int) else (0:Int)))) (su+(if (0:Int)<((if (((L.length:Nat):Int) - su:Int)<(e1:Int) then (((L.length:Nat):Int) - su:Int) else (e1:Int)):Int) then ((if (((L.length:Nat):Int) - su:Int)<(e1:Int) then (((L.length:Nat):Int) - su:Int) else (e1:Int)):Int) else (0:Int))) (.int 82 (IntKind.i64.wrap (su+(if (0:Int)<((if (((L.length:Nat):Int) - su:Int)<(e1:Int) then (((L.length:Nat):Int) - su:Int) else (e1:Int)):Int) then ((if (((L.length:Nat):Int) - su:Int)<(e1:Int) then (((L.length:Nat):Int) - su:Int) else (e1:Int)):Int) else (0:Int)))) (su+(if (0:Int)<((if (((L.length:Nat):Int) - su:Int)<(e1:Int) then (((L.length:Nat):Int) - su:Int) else (e1:Int)):Int) then ((if (((L.length:Nat):Int) - su:Int)<(e1:Int) then (((L.length:Nat):Int) - su:Int) else (e1:Int)):Int) else (0:Int))) (.rcut3 83 L.length (rowC (L.map byteE.f)) byteE L (su+(if (0:Int)<((if (((L.length:Nat):Int) - su:Int)<(e1:Int) then (((L.length:Nat):Int) - su:Int) else (e1:Int)):Int) then ((if (((L.length:Nat):Int) - su:Int)<(e1:Int) then (((L.length:Nat):Int) - su:Int) else (e1:Int)):Int) else (0:Int))) (su+(if (0:Int)<((if (((L.length:Nat):Int) - su:Int)<(e1:Int) then (((L.length:Nat):Int) - su:Int) else (e1:Int)):Int) then ((if (((L.length:Nat):Int) - su:Int)<(e1:Int) then (((L.length:Nat):Int) - su:Int) else (e1:Int)):Int) else (0:Int))) (.int 94 (IntKind.i64.wrap (j+1)) (j+1) (.leaf ⟨[0,1,4,19,20,21],[(0,0,none),(1,0,none),(2,0,none),(3,0,some ((L.take (Int.toNat (su+(if (0:Int)<((if (((L.length:Nat):Int) - su:Int)<(e1:Int) then (((L.length:Nat):Int) - su:Int) else (e1:Int)):Int) then ((if (((L.length:Nat):Int) - su:Int)<(e1:Int) then (((L.length:Nat):Int) - su:Int) else (e1:Int)):Int) else (0:Int))))).map byteE.f))]⟩ [rowC ((L.take (Int.toNat (su+(if (0:Int)<((if (((L.length:Nat):Int) - su:Int)<(e1:Int) then (((L.length:Nat):Int) - su:Int) else (e1:Int)):Int) then ((if (((L.length:Nat):Int) - su:Int)<(e1:Int) then (((L.length:Nat):Int) - su:Int) else (e1:Int)):Int) else (0:Int))))).map byteE.f)] .normal (some ([(0, .ptr 0 0 0),(1,vl (ks.map intE.f)),(4,vi (i+1)),(19,vl (names.map nameE.f)),(20,vi ((names.length:Nat):Int)),(21,vi (j+1))],[.cells false 0 ([vi ro,vi (us - ((((L.length:Nat):Int) - su) - (if (0:Int)<((if (((L.length:Nat):Int) - su:Int)<(e1:Int) then (((L.length:Nat):Int) - su:Int) else (e1:Int)):Int) then ((if (((L.length:Nat):Int) - su:Int)<(e1:Int) then (((L.length:Nat):Int) - su:Int) else (e1:Int)):Int) else (0:Int)))), .mp 1,vb false,vi fu]), .obj [.ptr 2 0 0] (mapP [.string nm] hid), .cells false 0 ([.rs 3 1 1 0 (Int.toNat (su+(if (0:Int)<((if (((L.length:Nat):Int) - su:Int)<(e1:Int) then (((L.length:Nat):Int) - su:Int) else (e1:Int)):Int) then ((if (((L.length:Nat):Int) - su:Int)<(e1:Int) then (((L.length:Nat):Int) - su:Int) else (e1:Int)):Int) else (0:Int)))),vi ((Int.toNat (su+(if (0:Int)<((if (((L.length:Nat):Int) - su:Int)<(e1:Int) then (((L.length:Nat):Int) - su:Int) else (e1:Int)):Int) then ((if (((L.length:Nat):Int) - su:Int)<(e1:Int) then (((L.length:Nat):Int) - su:Int) else (e1:Int)):Int) else (0:Int))):Nat):Int)]),byteE.bx 1 (L.take (Int.toNat (su+(if (0:Int)<((if (((L.length:Nat):Int) - su:Int)<(e1:Int) then (((L.length:Nat):Int) - su:Int) else (e1:Int)):Int) then ((if (((L.length:Nat):Int) - su:Int)<(e1:Int) then (((L.length:Nat):Int) - su:Int) else (e1:Int)):Int) else (0:Int)))))]))))))))))) (
.int 55 (IntKind.i64.wrap (i+1)) (i+1) (.int 62 (IntKind.i64.wrap ((((L.length:Nat):Int) - su) - 0)) ((((L.length:Nat):Int) - su) - 0) (.int 63 (IntKind.i64.wrap (us - ((((L.length:Nat):Int) - su) - 0))) (us - ((((L.length:Nat):Int) - su) - 0)) (.int 76 (IntKind.i64.wrap (su+0)) (su+0) (.int 82 (IntKind.i64.wrap (su+0)) (su+0) (.rcut3 83 L.length (rowC (L.map byteE.f)) byteE L (su+0) (su+0) (.int 94 (IntKind.i64.wrap (j+1)) (j+1) (.leaf ⟨[0,1,4,19,20,21],[(0,0,none),(1,0,none),(2,0,none),(3,0,some ((L.take (Int.toNat (su+0))).map byteE.f))]⟩ [rowC ((L.take (Int.toNat (su+0))).map byteE.f)] .normal (some ([(0, .ptr 0 0 0),(1,vl (ks.map intE.f)),(4,vi (i+1)),(19,vl (names.map nameE.f)),(20,vi ((names.length:Nat):Int)),(21,vi (j+1))],[.cells false 0 ([vi ro,vi (us - ((((L.length:Nat):Int) - su) - 0)), .mp 1,vb false,vi fu]), .obj [.ptr 2 0 0] (mapP [.string nm] hid), .cells false 0 ([.rs 3 1 1 0 (Int.toNat (su+0)),vi ((Int.toNat (su+0):Nat):Int)]),byteE.bx 1 (L.take (Int.toNat (su+0)))])))))))))))))))) (
.leaf ⟨[],[(0,0,none),(1,0,none),(2,0,none),(3,0,some (L.map byteE.f))]⟩ [rowC (L.map byteE.f)] (.exit 0) (some ([],[.cells false 0 ([vi ro,vi us, .mp 1,vb false,vi fu]), .obj [.ptr 2 0 0] (mapP [.string nm] hid), .cells false 0 ([.rs 3 0 1 0 L.length,vi su]),byteE.bx 0 L])))

theorem TCrB_p_chk (ro:Int) (us:Int) (fu:Int) (hid:List (Value×Value)) (L:List UInt8) (su:Int) (nm:ByteArray) (ks:List Int) (i:Int) (names:List ByteArray) (j:Int):codeC DP ΓF ΔF 95 4 cCrB (St.as ([(0, .ptr 0 0 0),(1,vl (ks.map intE.f)),(4,vi i),(19,vl (names.map nameE.f)),(20,vi ((names.length:Nat):Int)),(21,vi j)],[.cells false 0 ([vi ro,vi us, .mp 1,vb false,vi fu]), .obj [.ptr 2 0 0] (mapP [.string nm] hid), .cells false 0 ([.rs 3 0 1 0 L.length,vi su]),byteE.bx 0 L])) (TCrB_p ro us fu hid L su nm ks i names j) (leafC 4)=TCrB_p ro us fu hid L su nm ks i names j:=by kernel_rfl

noncomputable def TCrB_e (ro:Int) (us:Int) (fu:Int) (hid:List (Value×Value)) (ks:List Int) (i:Int) (names:List ByteArray) (j:Int):Tree:=
.sp 22 (decide (j<((names.length:Nat):Int))) .stuck (.leaf ⟨[],[(0,0,none),(1,0,none)]⟩ [] (.exit 0) (some ([],[.cells false 0 ([vi ro,vi us, .mp 1,vb false,vi fu]), .obj [] (mapP [] hid)])))

theorem TCrB_e_chk (ro:Int) (us:Int) (fu:Int) (hid:List (Value×Value)) (ks:List Int) (i:Int) (names:List ByteArray) (j:Int):codeC DP ΓF ΔF 95 2 cCrB (St.as ([(0, .ptr 0 0 0),(1,vl (ks.map intE.f)),(4,vi i),(19,vl (names.map nameE.f)),(20,vi ((names.length:Nat):Int)),(21,vi j)],[.cells false 0 ([vi ro,vi us, .mp 1,vb false,vi fu]), .obj [] (mapP [] hid)])) (TCrB_e ro us fu hid ks i names j) (leafC 2)=TCrB_e ro us fu hid ks i names j:=by kernel_rfl

noncomputable def TCrash (D:Dsk) (ks:List Int):Tree:=
.frag (some 1) ⟨[0,1],[(0,0,none)]⟩ [] (some (([(0, .op 0),(1,vl (ks.map intE.f))],[.obj [] (diskP D)]))) ([(0, .op 0),(1,vl (ks.map intE.f))],[.obj [] (diskP D)]) (Tri DP 95 1 false cCr1 (St.as ([(0, .op 0),(1,vl (ks.map intE.f))],[.obj [] (diskP D)])) fun e' s'=>e'= .normal∧s'=St.as ([(0, .op 0),(1,vl (ks.map intE.f))],[.obj [] (diskP (riseD D))])) .normal ([(0, .op 0),(1,vl (ks.map intE.f))],[.obj [] (diskP (riseD D))]) (.callr (some 19) (ΔC 11 [.op 0] [.obj [] (diskP (riseD D))] (vl ((listD (riseD D)).map nameE.f)) [.obj [] (diskP (riseD D))]) (vl ((listD (riseD D)).map nameE.f)) [.obj [] (diskP (riseD D))] (.int 20 (((listD (riseD D)).map nameE.f).length:Int) ((listD (riseD D)).length:Int) (.frag none ⟨[0,1,4,19,20,21],[(0,0,none)]⟩ [] (some (([(0, .op 0),(1,vl (ks.map intE.f)),(4,vi 0),(19,vl ((listD (riseD D)).map nameE.f)),(20,vi ((listD (riseD D)).length:Int)),(21,vi 0)],[.obj [] (diskP (riseD D))]))) ([(0, .op 0),(1,vl (ks.map intE.f)),(4,vi 0),(19,vl ((listD (riseD D)).map nameE.f)),(20,vi ((listD (riseD D)).length:Int)),(21,vi 0)],[.obj [] (diskP (riseD D))]) (Tri DP 95 1 false cCrL (St.as ([(0, .op 0),(1,vl (ks.map intE.f)),(4,vi 0),(19,vl ((listD (riseD D)).map nameE.f)),(20,vi ((listD (riseD D)).length:Int)),(21,vi 0)],[.obj [] (diskP (riseD D))])) fun e' s'=>e'=(.exit 0)∧s'=St.as ([],[.obj [] (diskP (crashD D ks))])) (.exit 0) ([],[.obj [] (diskP (crashD D ks))]) (.leaf ⟨[0],[(0,0,none)]⟩ [] .ret (some ([(0, .tup [])],[.obj [] (diskP (crashD D ks))]))))))

theorem TCrash_chk (D:Dsk) (ks:List Int):fnC DP ΓF ΔC Tryz.f12 [.op 0,vl (ks.map intE.f)] [.obj [] (diskP D)] (TCrash D ks)=TCrash D ks:=by kernel_rfl

end Go.Ax

namespace Go.Ax
open Go.Proofs Go.RowKit
set_option maxRecDepth 100000

theorem wp_frag {r:Option Nat} {W:Wd} {olds:List (List AV)} {E0:St} {p:Prop} {e:AE} {c:St} {k:Tree} {K:AE→St→Prop} (ho:oldsOk W olds) (hp:p) (h:k.wp K):(Tree.frag r W olds (some E0) E0 p e c k).wp K:=⟨ho,rfl,hp,h⟩
theorem wp_rcut3 {α:Type} {d:Nat} {len:Nat} {E:Enc α} {L:List α} {h m:Int} {k:Tree} {K:AE→St→Prop} (hl:len=L.length) (h0:0≤h) (h1:h≤m) (h2:m≤(len:Int)) (hk:k.wp K):(Tree.rcut3 d len (rowC (L.map E.f)) E L h m k).wp K:=⟨rfl,hl,h0,h1,h2,hk⟩

inductive Sl2 (R:AV→AV→Prop):List (Nat×AV)→List (Nat×AV)→Prop
 | nil:Sl2 R [] []
 | cons {a b:Nat×AV} {l l':List (Nat×AV)}:(a.1=b.1∧R a.2 b.2)→Sl2 R l l'→Sl2 R (a::l) (b::l')

theorem tk_rel {R:AV→AV→Prop} (h0:R .u .u):∀ {l l':List (Nat×AV)},Sl2 R l l'→∀ i,R (tk l i) (tk l' i)
 | _,_, .nil,i=>h0
 | a::l,b::l', .cons h hr,i=>by
  obtain ⟨h1,h2⟩:=h
  unfold tk
  rw[List.find?_cons,List.find?_cons,←h1]
  cases hb:Nat.beq a.1 i with
  | true=>exact h2
  | false=>exact tk_rel h0 hr i

theorem codeD {c:Code} {n m0:Nat} {s:AS} {T:Tree} {K:AE→St→Prop} (hc:codeC DP ΓF ΔF n m0 c s T (leafC m0)=T) (h:T.wp K):Tri DP n m0 false c s (fun e s2=>∃ c:St,s2=c.as∧K e c):=
 codeC_tri mixedD ΓF_ok ΔF_ok c (by rw[hc]; exact h)

theorem crash1 (D:Dsk) (ks:List Int):Tri DP 95 1 false cCr1 (St.as ([(0, .op 0),(1,vl (ks.map intE.f))],[.obj [] (diskP D)])) fun e' s'=>e'= .normal∧s'=St.as ([(0, .op 0),(1,vl (ks.map intE.f))],[.obj [] (diskP (riseD D))]):=by
 refine Tri.disk (X:= []) (Y:=D.files) (Bx:= []) (tf:=tk [(0, .ptr 0 0 0),(1,vl (ks.map intE.f))]) rfl (.refl _) (tk_rel (.u _) (.cons ⟨rfl, .d⟩ (.cons ⟨rfl, .p _⟩ .nil))) (fun hid hh=>?_)
 have:Tri DP 95 2 false cCr1 (St.as ([(0, .ptr 0 0 0),(1,vl (ks.map intE.f))],flatB D [] hid)) (fun e s2=>∃ c:St,s2=c.as∧(e= .normal∧c=([(0, .ptr 0 0 0),(1,vl (ks.map intE.f))],flatB (riseD D) [] hid))):=by
  obtain ⟨ro,us,fs,dn,fu⟩:=D
  cases dn with
  | true=>exact codeD (TCr1_t_chk ro us fu hid ks) (by unfold TCr1_t; exact wp_leaf rfl ⟨rfl,rfl⟩)
  | false=>exact codeD (TCr1_f_chk ro us fu hid ks) (by unfold TCr1_f; exact wp_leaf rfl ⟨rfl,rfl⟩)
 refine this.conseq fun e s' hk=>?_
 obtain ⟨c,rfl,rfl,rfl⟩:=hk
 exact ⟨riseD D,[],[],tk [(0, .op 0),(1,vl (ks.map intE.f))],shut0 rfl rfl, .refl _,tk_rel (.u _) (.cons ⟨rfl, .d⟩ (.cons ⟨rfl, .p _⟩ .nil)),rfl,rfl⟩

abbrev midD (ro:Int) (ks:List Int) (p q:List Fil):Dsk:=⟨ro,lens (crashF p ks++q),crashF p ks++q,false,0⟩
abbrev midS (d:AV) (ks:List Int) (names:List ByteArray) (i j:Int):List (Nat×AV):= [(0,d),(1,vl (ks.map intE.f)),(4,vi i),(19,vl (names.map nameE.f)),(20,vi ((names.length:Nat):Int)),(21,vi j)]

theorem lens_app (p q:List Fil):lens (p++q)=lens p+lens q:=by
 induction p with
 | nil=>simp[lens]
 | cons x p ih=>rw[List.cons_append,lens_cons,lens_cons,ih]; omega

theorem midS_rel (ks:List Int) (names:List ByteArray) (i j:Int) (n0:Nat):∀ k,SlotO 0 n0 (tk (midS (.op 0) ks names i j) k) (tk (midS (.ptr 0 0 0) ks names i j) k):=
 tk_rel (.u _) (.cons ⟨rfl, .d⟩ (.cons ⟨rfl, .p _⟩ (.cons ⟨rfl, .p _⟩ (.cons ⟨rfl, .p _⟩ (.cons ⟨rfl, .p _⟩ (.cons ⟨rfl, .p _⟩ .nil))))))
theorem midS_rel' (ks:List Int) (names:List ByteArray) (i j:Int):∀ k,SlotC [] (tk (midS (.ptr 0 0 0) ks names i j) k) (tk (midS (.op 0) ks names i j) k):=
 tk_rel (.u _) (.cons ⟨rfl, .d⟩ (.cons ⟨rfl, .p _⟩ (.cons ⟨rfl, .p _⟩ (.cons ⟨rfl, .p _⟩ (.cons ⟨rfl, .p _⟩ (.cons ⟨rfl, .p _⟩ .nil))))))

theorem crashEnd (ro:Int) (ks:List Int) (p:List Fil) (names:List ByteArray) (i j:Int) (hj:¬j<(names.length:Int)):
  Tri DP 95 1 false cCrB (St.as (midS (.op 0) ks names i j,[.obj [] (diskP (midD ro ks p []))])) fun e' s'=>e'= .exit 0∧s'=St.as ([],[.obj [] (diskP (midD ro ks p []))]):=by
 refine Tri.disk (X:= []) (Y:=crashF p ks++ []) (Bx:= []) (tf:=tk (midS (.ptr 0 0 0) ks names i j)) rfl (.refl _) (midS_rel _ _ _ _ _) (fun hid hh=>?_)
 have:Tri DP 95 2 false cCrB (St.as (midS (.ptr 0 0 0) ks names i j,flatB (midD ro ks p []) [] hid)) (fun e s2=>∃ c:St,s2=c.as∧(e= .exit 0∧c=([],flatB (midD ro ks p []) [] hid))):=
  codeD (TCrB_e_chk ro (lens (crashF p ks++ [])) 0 hid ks i names j) (by unfold TCrB_e; exact wp_sp (fun h=>absurd (of_decide_eq_true h) hj) (fun _=>wp_leaf rfl ⟨rfl,rfl⟩))
 refine this.conseq fun e s' hk=>?_
 obtain ⟨c,rfl,rfl,rfl⟩:=hk
 exact ⟨midD ro ks p [],[],[],tk [],shut0 rfl rfl, .refl _,tk_rel (.u _) .nil,rfl,rfl⟩

theorem keepK_some {x:Fil} {ks:List Int} {i:Nat} {k:Int} (h:ks[i]? = some k):keepK x (ks.drop i)=if 0<(if (x.b.length:Int) - x.sure<k then (x.b.length:Int) - x.sure else k) then (if (x.b.length:Int) - x.sure<k then (x.b.length:Int) - x.sure else k) else 0:=by
 obtain ⟨hi,rfl⟩:=List.getElem?_eq_some_iff.1 h
 rw[List.drop_eq_getElem_cons hi]
 rfl
theorem keepK_none {x:Fil} {ks:List Int} {i:Nat} (h:ks.length≤i):keepK x (ks.drop i)=0:=by
 rw[List.drop_eq_nil_of_le h]; rfl

theorem crashRound (ro:Int) (ks:List Int) (p q:List Fil) (x:Fil) (names:List ByteArray) (hx:0≤x.sure∧x.sure≤x.b.length) (hn:names[p.length]? = some x.name) (hp:p.length≤1000000) (hl:lens (crashF p ks++x::q)≤67108864):
  Tri DP 95 1 false cCrB (St.as (midS (.op 0) ks names (lookF p) p.length,[.obj [] (diskP (midD ro ks p (x::q)))])) fun e' s'=>e'= .normal∧s'=St.as (midS (.op 0) ks names (lookF (p++ [x])) (p++ [x]).length,[.obj [] (diskP (midD ro ks (p++ [x]) q))]):=by
 have hpl:(lookF p:Int)≤1000000:=by
  have:lookF p≤p.length:=List.length_filter_le _ _
  omega
 have hnl:(p.length:Int)<(names.length:Int):=by
  have:=(List.getElem?_eq_some_iff.1 hn).1
  omega
 have hmid:lens (crashF p ks++x::q)=lens (crashF p ks)+x.b.length+lens q:=by rw[lens_app,lens_cons]; omega
 have h0p:0≤lens (crashF p ks):=sum_nonneg _
 have h0q:0≤lens q:=sum_nonneg _
 have hperm:(crashF p ks++x::q).Perm ([x]++(crashF p ks++q)):=List.perm_middle
 refine Tri.disk (X:= [x]) (Y:=crashF p ks++q) (Bx:= []) (tf:=tk (midS (.ptr 0 0 0) ks names (lookF p) p.length)) rfl hperm (midS_rel _ _ _ _ _) (fun hid hh=>?_)
 have hh':hid.map (·.1)=strsV ((crashF p ks++q).map (·.name)):=by rw[hh,keysOf,strsV,List.map_map]; rfl
 by_cases h0:(x.b.length:Int) - x.sure=0
 ·have hlk:lookF (p++ [x])=lookF p:=by unfold lookF; rw[List.filter_append,List.filter_cons_of_neg (by simpa using h0)]; simp
  have hfs:crashF (p++ [x]) ks++q=crashF p ks++x::q:=by
   rw[crashF_append]
   unfold crashF
   rw[if_pos h0]
   unfold crashF
   simp
  have:Tri DP 95 4 false cCrB (St.as (midS (.ptr 0 0 0) ks names (lookF p) p.length,flatB (midD ro ks p (x::q)) [x] hid)) (fun e s2=>∃ c:St,s2=c.as∧(e= .normal∧c=(midS (.ptr 0 0 0) ks names (lookF p) ((p.length:Int)+1),flatB (midD ro ks p (x::q)) [x] hid))):=
   codeD (TCrB_p_chk ro (lens (crashF p ks++x::q)) 0 hid x.b x.sure x.name ks (lookF p) names p.length) (by
    unfold TCrB_p
    refine wp_sp (fun _=>wp_elemk (by omega) (by simpa using hn) (wp_val ?_ (wp_i64 (by omega) (wp_sp (fun _=>wp_i64 (by omega) (wp_leaf rfl ⟨rfl,rfl⟩)) (fun h=>absurd h0 (by simpa using h)))))) (fun h=>absurd hnl (of_decide_eq_false h))
    exact look0_v0 htMap htKey (ns:= []) rfl hh')
  refine this.conseq fun e s' hk=>?_
  obtain ⟨c,rfl,rfl,rfl⟩:=hk
  refine ⟨midD ro ks (p++ [x]) q,[⟨x,2,3,0⟩],[],tk (midS (.op 0) ks names (lookF p) ((p.length:Int)+1)),shut1 ?_ rfl rfl rfl,?_,midS_rel' _ _ _ _,rfl,?_⟩
  ·show some (Box.cells false 0 [vi ro,vi (lens (crashF p ks++x::q)), .mp 1,vb false,vi 0])=some (Box.cells false 0 [vi ro,vi (lens (crashF (p++ [x]) ks++q)), .mp 1,vb false,vi 0])
   rw[hfs]
  ·show ([x]++(crashF p ks++q)).Perm (crashF (p++ [x]) ks++q)
   rw[hfs]; exact hperm.symm
  ·rw[hlk,List.length_append]; rfl
 ·have hlk:lookF (p++ [x])=lookF p+1:=by unfold lookF; rw[List.filter_append,List.filter_cons_of_pos (by simpa using h0)]; simp
  have hfs:crashF (p++ [x]) ks++q=crashF p ks++cutF x (keepK x (ks.drop (lookF p)))::q:=by
   rw[crashF_append]
   rw[show crashF [x] (ks.drop (lookF p))= [cutF x (keepK x (ks.drop (lookF p)))] by unfold crashF; rw[if_neg h0]; unfold crashF; rfl]
   simp
  have hk:=keepK_le hx (ks.drop (lookF p))
  have hcl:=cutF_len hx.1 hk
  have hmid':lens (crashF (p++ [x]) ks++q)=lens (crashF p ks)+(x.sure+keepK x (ks.drop (lookF p)))+lens q:=by rw[hfs,lens_app,lens_cons,hcl]; omega
  let cend:Int→St:=fun k=>(midS (.ptr 0 0 0) ks names ((lookF p:Int)+1) ((p.length:Int)+1),[.cells false 0 ([vi ro,vi (lens (crashF p ks++x::q) - (((x.b.length:Nat):Int) - x.sure - k)), .mp 1,vb false,vi 0]), .obj [.ptr 2 0 0] (mapP [.string x.name] hid), .cells false 0 ([.rs 3 1 1 0 (Int.toNat (x.sure+k)),vi ((Int.toNat (x.sure+k):Nat):Int)]),byteE.bx 1 (x.b.take (Int.toNat (x.sure+k)))])
  have:Tri DP 95 4 false cCrB (St.as (midS (.ptr 0 0 0) ks names (lookF p) p.length,flatB (midD ro ks p (x::q)) [x] hid)) (fun e s2=>∃ c:St,s2=c.as∧(e= .normal∧∃ k,k=keepK x (ks.drop (lookF p))∧c=cend k)):=
   codeD (TCrB_p_chk ro (lens (crashF p ks++x::q)) 0 hid x.b x.sure x.name ks (lookF p) names p.length) (by
    unfold TCrB_p
    refine wp_sp (fun _=>wp_elemk (by omega) (by simpa using hn) (wp_val ?_ (wp_i64 (by omega) (wp_sp (fun h=>absurd (by simpa using h) h0) (fun _=>wp_len (wp_sp (fun hi=>?_) (fun hi=>?_))))))) (fun h=>absurd hnl (of_decide_eq_false h))
    ·exact look0_v0 htMap htKey (ns:= []) rfl hh'
    ·have hi:=of_decide_eq_true hi
     have hi':lookF p<ks.length:=by omega
     have hks:=keepK_some (x:=x) (List.getElem?_eq_getElem hi')
     refine wp_elem ks[lookF p] (by omega) (by simp) (wp_i64 (by omega) ?_)
     generalize ks[lookF p]=e1 at hks
     rw[hks] at hk
     refine wp_i64 (by omega) (wp_i64 (by omega) (wp_i64 (by omega) (wp_i64 (by omega) (wp_rcut3 rfl (by omega) (by omega) (by omega) (wp_i64 (by omega) (wp_leaf rfl ⟨rfl,_,hks.symm,rfl⟩))))))
    ·have hi:=of_decide_eq_false hi
     have hks:=keepK_none (x:=x) (ks:=ks) (i:=lookF p) (by omega)
     rw[hks] at hk
     refine wp_i64 (by omega) (wp_i64 (by omega) (wp_i64 (by omega) (wp_i64 (by omega) (wp_i64 (by omega) (wp_rcut3 rfl (by omega) (by omega) (by omega) (wp_i64 (by omega) (wp_leaf rfl ⟨rfl,_,hks.symm,rfl⟩)))))))
    )
  refine this.conseq fun e s' hkk=>?_
  obtain ⟨c,rfl,rfl,k,rfl,rfl⟩:=hkk
  have hlen:(x.b.take (Int.toNat (x.sure+keepK x (ks.drop (lookF p))))).length=Int.toNat (x.sure+keepK x (ks.drop (lookF p))):=by rw[List.length_take]; omega
  refine ⟨midD ro ks (p++ [x]) q,[⟨cutF x (keepK x (ks.drop (lookF p))),2,3,1⟩],[],tk (midS (.op 0) ks names ((lookF p:Int)+1) ((p.length:Int)+1)),shut1 ?_ rfl ?_ rfl,?_,midS_rel' _ _ _ _,rfl,?_⟩
  ·show some (Box.cells false 0 [vi ro,vi (lens (crashF p ks++x::q) - (((x.b.length:Nat):Int) - x.sure - keepK x (ks.drop (lookF p)))), .mp 1,vb false,vi 0])=some (headC (midD ro ks (p++ [x]) q))
   rw[show lens (crashF p ks++x::q) - (((x.b.length:Nat):Int) - x.sure - keepK x (ks.drop (lookF p)))=lens (crashF (p++ [x]) ks++q) by rw[hmid']; omega]
  ·show some (Box.cells false 0 [.rs 3 1 1 0 (Int.toNat (x.sure+keepK x (ks.drop (lookF p)))),vi ((Int.toNat (x.sure+keepK x (ks.drop (lookF p))):Nat):Int)])=some (Box.cells false 0 [.rs 3 1 1 0 (x.b.take (Int.toNat (x.sure+keepK x (ks.drop (lookF p))))).length,vi (x.sure+keepK x (ks.drop (lookF p)))])
   rw[hlen,show ((Int.toNat (x.sure+keepK x (ks.drop (lookF p))):Nat):Int)=x.sure+keepK x (ks.drop (lookF p)) by omega]
  ·show ([cutF x (keepK x (ks.drop (lookF p)))]++(crashF p ks++q)).Perm (crashF (p++ [x]) ks++q)
   rw[hfs,List.singleton_append]; exact List.perm_middle.symm
  ·rw[hlk,List.length_append]
   simp only[Int.natCast_add]
   rfl

theorem crashLoop (D:Dsk) (ks:List Int) (ok:D.Ok) (hlen:D.files.length≤1000000):∀ (q p:List Fil),D.files=p++q →
  Tri DP 95 1 true cCrB (St.as (midS (.op 0) ks (D.files.map (·.name)) (lookF p) p.length,[.obj [] (diskP (midD D.room ks p q))])) fun e' s'=>e'= .exit 0∧s'=St.as ([],[.obj [] (diskP (crashD D ks))])
 | [],p,h=>by
  rw[List.append_nil] at h
  refine Tri.round ((crashEnd D.room ks p (D.files.map (·.name)) (lookF p) p.length (by rw[h]; simp)).conseq fun e s' hk=>?_)
  obtain ⟨rfl,rfl⟩:=hk
  refine ⟨rfl,?_⟩
  unfold crashD midD
  rw[List.append_nil,h]
 | x::q,p,h=>by
  have hx:x∈D.files:=by rw[h]; simp
  have hle:p.length≤1000000:=by rw[h,List.length_append] at hlen; omega
  have hn:(D.files.map (·.name))[p.length]? = some x.name:=by rw[h]; simp
  have hu:=ok.used
  change D.used=lens D.files at hu
  have h1:=ok.le
  have h2:=ok.room
  have hc:=(crashF_sure p ks (fun y hy=>ok.sure y (by rw[h]; simp[hy]))).1
  have hl:lens (crashF p ks++x::q)≤67108864:=by
   rw[h,lens_app] at hu
   rw[lens_app]
   omega
  refine Tri.round ((crashRound D.room ks p q x (D.files.map (·.name)) (ok.sure x hx) hn hle hl).conseq fun e s' hk=>?_)
  obtain ⟨rfl,rfl⟩:=hk
  exact crashLoop D ks ok hlen q (p++ [x]) (by rw[h]; simp)

theorem cCrL_eq:cCrL= .loop cCrB:=by kernel_rfl

def OCrash:RSpec:=fun args B r B'=>∃ (D:Dsk) (ks:List Int),D.Ok∧D.files.length≤1000000∧args= [.op 0,vl (ks.map intE.f)]∧B= [.obj [] (diskP D)]∧r= .tup []∧B'= [.obj [] (diskP (crashD D ks))]

theorem SCrash:SoundR DP iCrash OCrash:=sound_genT mixedD ΓF_ok ΔC_ok hfCrash heCrash hbCrash (by
 rintro args B r B' ⟨D,ks,ok,hlen,rfl,rfl,rfl,rfl⟩
 refine ⟨by rw[hnCrash]; rfl,_,TCrash_chk D ks,?_⟩
 unfold TCrash
 refine wp_frag rfl (crash1 D ks) (wp_callr ?_ (wp_len (wp_frag rfl ?_ (wp_leaf rfl ⟨rfl,rfl⟩))))
 ·show ΔC iList _ _ _ _
  rw[ΔC_list]
  exact ⟨_,_,_,_,⟨riseD D,riseD_ok ok,hlen,rfl,rfl,rfl,rfl⟩,⟨[0],[0],[.obj [] (diskP (riseD D))],[.obj [] (diskP (riseD D))],[],rfl,rfl,rfl,rfl,⟨.objs rfl rfl,trivial⟩,⟨.objs rfl rfl,trivial⟩,rfl,rfl,rfl⟩⟩
 ·rw[cCrL_eq]
  have hu:=ok.used
  change D.used=lens D.files at hu
  have he:riseD D=midD D.room ks [] D.files:=by
   unfold riseD
   rw[hu]
   rfl
  have hl:listD (riseD D)=D.files.map (·.name):=rfl
  rw[hl,he]
  refine .loop ?_
  have:=crashLoop D ks ok hlen D.files [] rfl
  exact this)

end Go.Ax

namespace Go.Ax
open Go.Proofs Go.RowKit
set_option maxRecDepth 100000

def OFuse:RSpec:=fun args B r B'=>∃ (D:Dsk) (n:Int),D.Ok∧args= [.op 0,vi n]∧B= [.obj [] (diskP D)]∧r= .tup []∧B'= [.obj [] (diskP (fuseD D n))]

theorem SFuse:SoundR DP iFuse OFuse:=(SO hfFuse heFuse hbFuse).mono (by
 rintro args B r B' ⟨D,n,ok,rfl,rfl,rfl,rfl⟩
 obtain ⟨ro,us,fs,dn,fu⟩:=D
 cases dn with
 | true=>
  refine obA (al:= [vi n]) rfl rfl rfl (.refl _) (fun hid hh=> .inl ⟨by rw[hnFuse]; rfl,_,TFuse_t_chk ro us fu hid n,?_⟩)
  unfold TFuse_t
  exact wp_leaf rfl ⟨rfl,rfl⟩
 | false=>
  refine obA (D1:=fuseD ⟨ro,us,fs,false,fu⟩ n) (al:= [vi n]) rfl rfl rfl (.refl _) (fun hid hh=> .inl ⟨by rw[hnFuse]; rfl,_,TFuse_f_chk ro us fu hid n,?_⟩)
  unfold TFuse_f
  exact wp_leaf rfl ⟨rfl,rfl⟩)

end Go.Ax

namespace Go.Ax
open Go.Proofs Go.RowKit
set_option maxRecDepth 100000

section
variable {L : List Ent}
theorem pageB_sum (h:Fits L) {c:List Ent} (hc:c∈chunks L 0 []):(pageB c).length≤304*c.length+(c.map szE).sum+16:=by
 have hs:=h.sub hc
 have hB:=body_le c 0 [] (fun x hx=>h.good.chk x (hs.subset hx))
 have hp:=h.page hc
 have hu:=upL0_of (h.good.sub hs).inn
 have hm:=mkI_ok hu (by omega)
 have hw:=wholeL_len (c.map ofE) 0 0 []
 have hcn:=cntL_le (c.map ofE) 0
 rw[List.length_map] at hcn
 unfold pageB
 rw[recB_len,hm]
 simp only[List.length_append,leI_len]
 omega
theorem pagesB_sum (h:Fits L):∀ C:List (List Ent),(∀ c∈C,c∈chunks L 0 [])→(pagesB C).length≤304*C.flatten.length+(C.flatten.map szE).sum+16*C.length
 | [],_=>Nat.zero_le _
 | c::C,hC=>by
  have h1:=pagesB_sum h C (fun d hd=>hC d (by simp[hd]))
  have h2:=pageB_sum h (hC c (by simp))
  rw[pagesB,List.length_append,List.length_cons,List.flatten_cons,List.length_append,List.map_append,List.sum_append]
  omega
theorem szE_sum {V:Nat}:∀ {L:List Ent},(∀ x∈L,x.key.size≤128∧x.val.size≤V)→(L.map szE).sum≤(128+V)*L.length
 | [],_=>Nat.zero_le _
 | x::L,h=>by
  have h1:=h x (by simp)
  have h2:=szE_sum (L:=L) (fun y hy=>h y (by simp[hy]))
  have h3:szE x=x.key.size+x.val.size:=rfl
  rw[List.map_cons,List.sum_cons,List.length_cons,Nat.mul_succ]
  omega
theorem Fits.len2 (h:Fits L) {V:Nat} (hv:∀ x∈L,x.val.size≤V):(fileY L).length≤(128+V)*L.length+304*L.length+21000:=by
 have h1:=pagesB_sum h (chunks L 0 []) (fun c hc=>hc)
 have h2:=h.chunks_len
 have h3:=idxY_len h
 have h4:=filB_len h
 have h5:=footB_len L
 rw[h.flat] at h1
 have h6:=szE_sum (L:=L) (V:=V) (fun x hx=>⟨by have:=chk_key (h.good.chk x hx); omega,hv x hx⟩)
 simp only[fileY,List.length_append]
 omega
end
theorem repeatL_len (l:List UInt8):∀ n:Nat,(Lib.repeatL l n).length=n*l.length
 | 0=>by simp[Lib.repeatL]
 | n+1=>by rw[Lib.repeatL,List.length_append,repeatL_len l n,Nat.succ_mul,Nat.add_comm]
theorem repB_size (s:ByteArray) (n:Nat):(repB s n).size=n*s.size:=by
 show (Lib.repeatL s.data.toList n).toArray.size=_
 rw[List.size_toArray,repeatL_len]
 rfl
theorem repE_size (t:Int) (x:Ent):(repE t x).val.size≤64*x.val.size:=by
 unfold repE
 split
 ·omega
 ·show (repB x.val (1+t % 64).toNat).size≤_
  rw[repB_size]
  exact Nat.mul_le_mul_right _ (by omega)
theorem someL_mem (t:Int) (L:List Ent):∀ y∈someL t L,∃ x∈L,y=repE t x:=by
 have:∀ (M out:List Ent),(∀ y∈out,∃ x∈L,y=repE t x)→(∀ x∈M,x∈L)→∀ y∈M.foldl (someF t) out,∃ x∈L,y=repE t x:=by
  intro M
  induction M with
  | nil=>intro out h _; exact h
  | cons x M ih=>
   intro out h hM
   rw[List.foldl_cons]
   refine ih _ (fun y hy=>?_) (fun z hz=>hM z (by simp[hz]))
   unfold someF at hy
   split at hy
   ·exact h y hy
   ·rcases insE_mem _ _ y hy with rfl | e
    ·exact ⟨x,hM x (by simp),rfl⟩
    ·exact h y e
 exact this L [] (fun y hy=>by cases hy) (fun x hx=>hx)
theorem some_fits {L:List Ent} (t:Int) (hs:∀ x∈L,0≤x.seq) (hn:L.length≤40) (hv:∀ x∈L,x.val.size≤200) (hA:someL t L≠ []):Fits (someL t L)∧(fileY (someL t L)).length≤600000:=by
 obtain ⟨g1,g2⟩:=someL_good t L hs
 have hf:Fits (someL t L):=⟨g1,hA,by omega⟩
 refine ⟨hf,?_⟩
 have:=hf.len2 (V:=12800) (fun y hy=>by
  obtain ⟨x,hx,rfl⟩:=someL_mem t L y hy
  have h1:=repE_size t x
  have h2:=hv x hx
  omega)
 have h40:=hf.few
 omega
end Go.Ax

namespace Go.Ax
open Go.Proofs Go.RowKit
set_option maxRecDepth 100000

theorem mask40:maskI (crcI [40,0,0,0])=467123428:=by decide +kernel
theorem no_len40:((List.range 4096).all fun L=>maskI (crcI (leI (L:Int) 4)) != 40)=true:=by decide +kernel
theorem little4 (a b c d:UInt8):littleI [a,b,c,d]=a.toNat+256*(b.toNat+256*(c.toNat+256*d.toNat):Nat):=rfl
theorem le4 (n:Nat):leI (n:Int) 4= [UInt8.ofNat (n % 256),UInt8.ofNat (n / 256 % 256),UInt8.ofNat (n / 256 / 256 % 256),UInt8.ofNat (n / 256 / 256 / 256 % 256)]:=rfl
theorem numN_two (a b:UInt8) (t:List UInt8):numN (a::b::t)=a.toNat+256*(b.toNat+256*numN t):=rfl
theorem next_4 {w:List UInt8} (h0:(nextI w).2.2=0) (h1:(nextI w).2.1=52):littleI (w.take 4)=40∧littleI ((w.take 8).drop 4) % 4294967296=maskI (crcI (w.take 4))∧(nextI w).1=(w.take 52).drop 12:=by
 unfold nextI at h0 h1 ⊢
 by_cases a:w.length<12
 ·rw[if_pos a] at h0; cases h0
 rw[if_neg a] at h0 h1 ⊢
 by_cases b:littleI ((w.take 8).drop 4) % 4294967296≠maskI (crcI (w.take 4))∨littleI (w.take 4)>1048576
 ·rw[if_pos b] at h0; cases h0
 rw[if_neg b] at h0 h1 ⊢
 by_cases c:(w.length:Int)<12+littleI (w.take 4)
 ·rw[if_pos c] at h0; cases h0
 rw[if_neg c] at h0 h1 ⊢
 by_cases d:littleI ((w.take 12).drop 8) % 4294967296≠maskI (crcI ((w.take (12+littleI (w.take 4)).toNat).drop 12))
 ·rw[if_pos d] at h0; cases h0
 rw[if_neg d] at h1 ⊢
 have h1:12+littleI (w.take 4)=52:=h1
 refine ⟨by omega,?_,?_⟩
 ·exact Decidable.not_not.1 (fun e=>b (.inl e))
 ·rw[h1]; rfl
theorem bytes4 {a b c d:UInt8} {t:List UInt8} (h:littleI ((a::b::c::d::t).take 4)=40):a.toNat=40∧b.toNat=0∧c.toNat=0∧d.toNat=0:=by
 have h:littleI [a,b,c,d]=40:=h
 rw[little4] at h
 omega
theorem bytes6 {a b c d e f:UInt8} {t:List UInt8} (h:littleI ((a::b::c::d::e::f::t).take 4)=40) (g:littleI (((a::b::c::d::e::f::t).take 8).drop 4) % 4294967296=maskI (crcI ((a::b::c::d::e::f::t).take 4))):e.toNat=228∧f.toNat=188:=by
 obtain ⟨h1,h2,h3,h4⟩:=bytes4 h
 have ea:a=40:=UInt8.toNat_inj.1 h1
 have eb:b=0:=UInt8.toNat_inj.1 h2
 have ec:c=0:=UInt8.toNat_inj.1 h3
 have ed:d=0:=UInt8.toNat_inj.1 h4
 subst ea eb ec ed
 have g:((numN (e::f::t.take 2):Nat):Int) % 4294967296=maskI (crcI [40,0,0,0]):=by
  have e8:(((40:UInt8)::0::0::0::e::f::t).take 8).drop 4=e::f::t.take 2:=rfl
  rw[e8] at g
  have:littleI (e::f::t.take 2)=numN (e::f::t.take 2):=by
   unfold littleI
   rw[List.take_of_length_le (by simp only[List.length_cons,List.length_take]; omega)]
  rw[this] at g
  exact g
 rw[mask40,numN_two] at g
 have:=e.toNat_lt
 have:=f.toNat_lt
 omega
theorem bytes8 {a b c d e f g h:UInt8} {t:List UInt8} (h1:littleI ((a::b::c::d::e::f::g::h::t).take 4)=40) (h2:littleI (((a::b::c::d::e::f::g::h::t).take 8).drop 4) % 4294967296=maskI (crcI ((a::b::c::d::e::f::g::h::t).take 4))):g.toNat=215∧h.toNat=27:=by
 obtain ⟨x1,x2,x3,x4⟩:=bytes4 h1
 have ea:a=40:=UInt8.toNat_inj.1 x1
 have eb:b=0:=UInt8.toNat_inj.1 x2
 have ec:c=0:=UInt8.toNat_inj.1 x3
 have ed:d=0:=UInt8.toNat_inj.1 x4
 subst ea eb ec ed
 have h2:littleI [e,f,g,h] % 4294967296=maskI (crcI [40,0,0,0]):=h2
 rw[mask40,little4] at h2
 have:=e.toNat_lt
 have:=f.toNat_lt
 have:=g.toNat_lt
 have:=h.toNat_lt
 omega
end Go.Ax

namespace Go.Ax
open Go.Proofs Go.RowKit
set_option maxRecDepth 100000

theorem putN_head (n:Nat) (h1:10≤n) (h2:n≤300):∃ (b1:UInt8) (r:List UInt8),putN n=b1::r∧10≤b1.toNat∧(r≠ []→∃ b2,r= [b2]∧b2.toNat≤2)∧(128≤b1.toNat→r≠ []):=by
 rw[putN]
 split
 ·rename_i h
  have e:(UInt8.ofNat n).toNat=n:=by rw[UInt8.toNat_ofNat']; omega
  exact ⟨_,_,rfl,by omega,fun e=>absurd rfl e,fun g=>by omega⟩
 ·rename_i h
  have e:(UInt8.ofNat (n % 128+128)).toNat=n % 128+128:=by rw[UInt8.toNat_ofNat']; omega
  have e2:(UInt8.ofNat (n / 128)).toNat=n / 128:=by rw[UInt8.toNat_ofNat']; omega
  refine ⟨_,_,rfl,by omega,fun _=>?_,fun _=>?_⟩
  ·rw[putN,dif_pos (by omega)]
   exact ⟨_,rfl,by omega⟩
  ·rw[putN,dif_pos (by omega)]
   simp
theorem putN_ne (n:Nat):∃ b r,putN n=b::r:=by
 rw[putN]
 split
 ·exact ⟨_,_,rfl⟩
 ·exact ⟨_,_,rfl⟩
theorem page_head {A:List Ent} (h:Fits A) {c:List Ent} (hc:c∈chunks A 0 []):∃ b1 b2 t,(mkI (c.map ofE)).1=0::b1::b2::t∧10≤b1.toNat∧(128≤b1.toNat→b2.toNat≤2):=by
 have hp:=h.page hc
 have hs:=h.sub hc
 have hu:=upL0_of (h.good.sub hs).inn
 have hm:=mkI_ok hu (by omega)
 cases c with
 | nil=>exact absurd rfl (chunks_ne A 0 [] _ hc)
 | cons x c=>
  have hx:x∈A:=hs.subset (by simp)
  have hi:=inn_len (h.good.chk x hx)
  have hlow:10≤(innB x).length:=by unfold innB; simp[beN_len]
  obtain ⟨b1,r,e1,e2,e3,e4⟩:=putN_head (innB x).length hlow (by omega)
  obtain ⟨v1,vr,ev⟩:=putN_ne x.val.size
  have p0:putI ((0:Nat):Int)= [0]:=by
   show putN 0= [0]
   rw[putN]
   rfl
  have p1:putI (((ofE x).nl.length:Int) - ((0:Nat):Int))=b1::r:=by
   rw[ofE_nl]
   show putN (((innB x).length:Int) - 0).toNat=_
   rw[show (((innB x).length:Int) - 0).toNat=(innB x).length by omega,e1]
  have p2:putI ((ofE x).vl.length:Int)=v1::vr:=by
   show putN ((ofE x).vl.length:Int).toNat=_
   rw[Int.toNat_natCast]
   exact ev
  rw[hm,List.map_cons,bodyL]
  have s0:sameN 0 [] (ofE x).nl=0:=rfl
  rw[s0]
  unfold entB
  rw[p0,p1,p2]
  cases r with
  | nil=>exact ⟨b1,v1,_,by simp only[List.cons_append,List.nil_append,List.append_assoc]; rfl,e2,fun g=>absurd rfl (e4 g)⟩
  | cons b2 r=>
   obtain ⟨b3,e5,e6⟩:=e3 (by simp)
   cases e5
   exact ⟨b1,b2,_,by simp only[List.cons_append,List.nil_append,List.append_assoc]; rfl,e2,fun _=>e6⟩
theorem file_head {A:List Ent} (h:Fits A):∃ (L x:Nat) (y:Int) (b1 b2:UInt8) (t t':List UInt8),fileY A=leI (L:Int) 4++leI (x:Int) 4++leI y 4++(0::b1::b2::t)∧(x:Int)=maskI (crcI (leI (L:Int) 4))∧x<4294967296∧10≤b1.toNat∧(128≤b1.toNat→b2.toNat≤2)∧L+64≤(fileY A).length∧3≤L:=by
 have hne:chunks A 0 []≠ []:=fun e=>by
  have:=h.flat
  rw[e] at this
  exact h.ne this.symm
 obtain ⟨c,C,hC⟩:∃ c C,chunks A 0 []=c::C:=by
  cases hc:chunks A 0 [] with
  | nil=>exact absurd hc hne
  | cons c C=>exact ⟨c,C,rfl⟩
 obtain ⟨b1,b2,t,e1,e2,e3⟩:=page_head h (c:=c) (by rw[hC]; simp)
 have hx:=maskI_b (crcI (leI ((mkI (c.map ofE)).1.length:Int) 4))
 have ef:fileY A=recB (mkI (c.map ofE)).1++(pagesB C++(idxY (chunks A 0 [])++(filB A++footB A))):=by
  unfold fileY
  rw[hC,pagesB]
  show (pageB c++pagesB C)++_=pageB c++_
  rw[List.append_assoc]
 have hlen:(mkI (c.map ofE)).1.length+64≤(fileY A).length:=by
  have h5:=footB_len A
  have hr:=recB_len (mkI (c.map ofE)).1
  rw[ef]
  simp only[List.length_append]
  omega
 refine ⟨(mkI (c.map ofE)).1.length,(maskI (crcI (leI ((mkI (c.map ofE)).1.length:Int) 4))).toNat,maskI (crcI (mkI (c.map ofE)).1),b1,b2,t++(pagesB C++(idxY (chunks A 0 [])++(filB A++footB A))),[],?_,by omega,by omega,e2,e3,hlen,by rw[e1]; simp⟩
 rw[ef,Int.toNat_of_nonneg hx.1]
 unfold recB
 rw[e1]
 simp only[List.cons_append,List.append_assoc]
end Go.Ax
