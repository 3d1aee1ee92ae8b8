/- Trees, printed by gen/w1.py. -/
import Derived.Test.YtddkloofiknjdaaDoorG13
set_option linter.unusedVariables false
set_option linter.unusedSimpArgs false
set_option linter.unusedSectionVars false
namespace Go.Ax
open Go.Proofs Go.RowKit
set_option maxRecDepth 100000

def Tv:CB:=CZ [(KO,AX RH),(MO,AX b8)]

noncomputable def Wo (L:List UInt8) (d:List UInt8):Tree:=
.int 8 ((d.map AA.f).length:Int) (d.length:Int) (.sp 9 (decide ((d.length:Int)>(1048576:Int))) (
.leaf ⟨[0],[(0,0,some (L.map AA.f))]⟩ [rowC (L.map AA.f)] .ret (some ([(0, .tup [.rs 0 0 1 0 L.length,vi 6])],[AA.bx 0 L]))) (
.int 15 ((d.map AA.f).length:Int) (d.length:Int) (.int 16 (IntKind.u64.wrap ((d.length:Int))) ((d.length:Int)) (.callr (some 17) (Tv 65 [.rs 0 0 1 0 L.length,vn .u64 (d.length:Int),vi 4] [AA.bx 0 L] (.rs 1 0 1 0 ((L++AW (d.length:Int) 4).length)) [AA.bx 1 ([]:List UInt8),AA.bx 0 (L++AW (d.length:Int) 4)]) (.rs 1 0 1 0 ((L++AW (d.length:Int) 4).length)) [AA.bx 1 ([]:List UInt8),AA.bx 0 (L++AW (d.length:Int) 4)] (.rcut 21 ((L++AW (d.length:Int) 4).length) (some ((L.length:Nat):Int)) none (.callr (some 22) (Tv 89 [.rs 1 0 1 (0+A8 (some ((L.length:Nat):Int))*1) (Be none ((L++AW (d.length:Int) 4).length) - A8 (some ((L.length:Nat):Int)))] [AA.bx 1 ([]:List UInt8),AA.bx 0 (L++AW (d.length:Int) 4)] (vn .u32 (Ao (List.drop (A8 (some ((L.length:Nat):Int))) (L++AW (d.length:Int) 4)))) [AA.bx 1 ([]:List UInt8),AA.bx 0 (L++AW (d.length:Int) 4)]) (vn .u32 (Ao (List.drop (A8 (some ((L.length:Nat):Int))) (L++AW (d.length:Int) 4)))) [AA.bx 1 ([]:List UInt8),AA.bx 0 (L++AW (d.length:Int) 4)] (.call 23 (I5 [vn .u32 (Ao (List.drop (A8 (some ((L.length:Nat):Int))) (L++AW (d.length:Int) 4)))]=some (vn .u32 (Au (Ao (List.drop (A8 (some ((L.length:Nat):Int))) (L++AW (d.length:Int) 4)))))) (vn .u32 (Au (Ao (List.drop (A8 (some ((L.length:Nat):Int))) (L++AW (d.length:Int) 4))))) (.int 24 (IntKind.u64.wrap (Au (Ao (List.drop (A8 (some ((L.length:Nat):Int))) (L++AW (d.length:Int) 4))))) ((Au (Ao (List.drop (A8 (some ((L.length:Nat):Int))) (L++AW (d.length:Int) 4))))) (.callr (some 25) (Tv 65 [.rs 1 0 1 0 ((L++AW (d.length:Int) 4).length),vn .u64 (Au (Ao (List.drop (A8 (some ((L.length:Nat):Int))) (L++AW (d.length:Int) 4)))),vi 4] [AA.bx 1 ([]:List UInt8),AA.bx 0 (L++AW (d.length:Int) 4)] (.rs 2 0 1 0 (((L++AW (d.length:Int) 4)++AW (Au (Ao (List.drop (A8 (some ((L.length:Nat):Int))) (L++AW (d.length:Int) 4)))) 4).length)) [AA.bx 1 ([]:List UInt8),AA.bx 1 ([]:List UInt8),AA.bx 0 ((L++AW (d.length:Int) 4)++AW (Au (Ao (List.drop (A8 (some ((L.length:Nat):Int))) (L++AW (d.length:Int) 4)))) 4)]) (.rs 2 0 1 0 (((L++AW (d.length:Int) 4)++AW (Au (Ao (List.drop (A8 (some ((L.length:Nat):Int))) (L++AW (d.length:Int) 4)))) 4).length)) [AA.bx 1 ([]:List UInt8),AA.bx 1 ([]:List UInt8),AA.bx 0 ((L++AW (d.length:Int) 4)++AW (Au (Ao (List.drop (A8 (some ((L.length:Nat):Int))) (L++AW (d.length:Int) 4)))) 4)] (.call 28 (Sq [vl (d.map AA.f)]=some (vn .u32 (Ao d))) (vn .u32 (Ao d)) (.call 29 (I5 [vn .u32 (Ao d)]=some (vn .u32 (Au (Ao d)))) (vn .u32 (Au (Ao d))) (.int 30 (IntKind.u64.wrap (Au (Ao d))) ((Au (Ao d))) (.callr (some 31) (Tv 65 [.rs 2 0 1 0 (((L++AW (d.length:Int) 4)++AW (Au (Ao (List.drop (A8 (some ((L.length:Nat):Int))) (L++AW (d.length:Int) 4)))) 4).length),vn .u64 (Au (Ao d)),vi 4] [AA.bx 1 ([]:List UInt8),AA.bx 1 ([]:List UInt8),AA.bx 0 ((L++AW (d.length:Int) 4)++AW (Au (Ao (List.drop (A8 (some ((L.length:Nat):Int))) (L++AW (d.length:Int) 4)))) 4)] (.rs 3 0 1 0 ((((L++AW (d.length:Int) 4)++AW (Au (Ao (List.drop (A8 (some ((L.length:Nat):Int))) (L++AW (d.length:Int) 4)))) 4)++AW (Au (Ao d)) 4).length)) [AA.bx 1 ([]:List UInt8),AA.bx 1 ([]:List UInt8),AA.bx 1 ([]:List UInt8),AA.bx 0 (((L++AW (d.length:Int) 4)++AW (Au (Ao (List.drop (A8 (some ((L.length:Nat):Int))) (L++AW (d.length:Int) 4)))) 4)++AW (Au (Ao d)) 4)]) (.rs 3 0 1 0 ((((L++AW (d.length:Int) 4)++AW (Au (Ao (List.drop (A8 (some ((L.length:Nat):Int))) (L++AW (d.length:Int) 4)))) 4)++AW (Au (Ao d)) 4).length)) [AA.bx 1 ([]:List UInt8),AA.bx 1 ([]:List UInt8),AA.bx 1 ([]:List UInt8),AA.bx 0 (((L++AW (d.length:Int) 4)++AW (Au (Ao (List.drop (A8 (some ((L.length:Nat):Int))) (L++AW (d.length:Int) 4)))) 4)++AW (Au (Ao d)) 4)] (.app 34 (.ls (d.map AA.f)) ((((L++AW (d.length:Int) 4)++AW (Au (Ao (List.drop (A8 (some ((L.length:Nat):Int))) (L++AW (d.length:Int) 4)))) 4)++AW (Au (Ao d)) 4).length) (rowC ((((L++AW (d.length:Int) 4)++AW (Au (Ao (List.drop (A8 (some ((L.length:Nat):Int))) (L++AW (d.length:Int) 4)))) 4)++AW (Au (Ao d)) 4).map AA.f)) AA (((L++AW (d.length:Int) 4)++AW (Au (Ao (List.drop (A8 (some ((L.length:Nat):Int))) (L++AW (d.length:Int) 4)))) 4)++AW (Au (Ao d)) 4) d (.leaf ⟨[0],[(0,0,some (([]:List UInt8).map AA.f)),(3,1,some (((((L++AW (d.length:Int) 4)++AW (Au (Ao (List.drop (A8 (some ((L.length:Nat):Int))) (L++AW (d.length:Int) 4)))) 4)++AW (Au (Ao d)) 4)++d).map AA.f))]⟩ [rowC (([]:List UInt8).map AA.f),rowC (((((L++AW (d.length:Int) 4)++AW (Au (Ao (List.drop (A8 (some ((L.length:Nat):Int))) (L++AW (d.length:Int) 4)))) 4)++AW (Au (Ao d)) 4)++d).map AA.f)] .ret (some ([(0, .tup [.rs 1 0 1 0 (((((L++AW (d.length:Int) 4)++AW (Au (Ao (List.drop (A8 (some ((L.length:Nat):Int))) (L++AW (d.length:Int) 4)))) 4)++AW (Au (Ao d)) 4)++d).length),vi 0])],[AA.bx 1 ([]:List UInt8),AA.bx 0 ((((L++AW (d.length:Int) 4)++AW (Au (Ao (List.drop (A8 (some ((L.length:Nat):Int))) (L++AW (d.length:Int) 4)))) 4)++AW (Au (Ao d)) 4)++d)])))))))))))))))))

theorem cB (L:List UInt8) (d:List UInt8):Av DP Γ2 Tv Tryd.f84 [.rs 0 0 1 0 L.length,vl (d.map AA.f)] [AA.bx 0 L] (Wo L d)=Wo L d:=by kernel_rfl


theorem qr:∀ f,SoundR DP f (Tv f):=AY (AU bE) (AY (AU vD) BJ)
def Wp:Ae:=fun args B r B'=>∃ (L d:List UInt8),d.length≤1048576∧L.length≤500000000∧args= [.rs 0 0 1 0 L.length,vl (d.map AA.f)]∧B= [AA.bx 0 L]∧r= .tup [.rs 1 0 1 0 (L++AN d).length,vi 0]∧B'= [AA.bx 1 [],AA.bx 0 (L++AN d)]
theorem Wq {n:Int} {B:List Box} {b v:Nat} {L:List UInt8} (hn:0≤n∧n<18446744073709551616) (hb:B[b]? = some (AA.bx v L)) (hl:((L.length+4:Nat):Int)≤1000000000):
  Tv 65 [.rs b v 1 0 L.length,vn .u64 n,vi 4] B (.rs B.length 0 1 0 (L++AW n 4).length) (B.set b (AA.bx (v+1) [])++ [AA.bx 0 (L++AW n 4)]):=WS hn hb hl
theorem qt:SoundR DP Uy Wp:=Al AZ Γ2_ok qr pn po pp (by
 rintro args B r B' ⟨L,d,hd,hL,rfl,rfl,rfl,rfl⟩
 refine ⟨by rw[pq]; rfl,_,cB L d,?_⟩
 have e0:List.drop (A8 (some ((L.length:Nat):Int))) (L++AW (d.length:Int) 4)=AW (d.length:Int) 4:=by
  show List.drop (Int.toNat ((L.length:Nat):Int)) _=_
  rw[Int.toNat_natCast,List.drop_left]
 have hc:=NZ (AW (d.length:Int) 4)
 have hm:=JU (Ao (AW (d.length:Int) 4))
 have hc2:=NZ d
 have hm2:=JU (Ao d)
 have e1:(AW (d.length:Int) 4).length=4:=CJ _ _
 have l1:(L++AW (d.length:Int) 4).length=L.length+4:=by rw[List.length_append,e1]
 have hs:Tv 89 [.rs 1 0 1 (0+A8 (some ((L.length:Nat):Int))*1) (Be none ((L++AW (d.length:Int) 4).length) - A8 (some ((L.length:Nat):Int)))] [AA.bx 1 ([]:List UInt8),AA.bx 0 (L++AW (d.length:Int) 4)] (vn .u32 (Ao (List.drop (A8 (some ((L.length:Nat):Int))) (L++AW (d.length:Int) 4)))) [AA.bx 1 ([]:List UInt8),AA.bx 0 (L++AW (d.length:Int) 4)]:=
  Nv (R:=b8) (pre:= []) (post:= []) ⟨L++AW (d.length:Int) 4,L.length,by omega,by omega,rfl,rfl,rfl,rfl⟩ rfl rfl rfl
 rw[e0] at hs
 unfold Wo
 rw[e0]
 refine Aq (AC (fun h=>absurd (of_decide_eq_true h) (by omega)) (fun _=>Aq (Ai (Dl (by omega)) (AM (Wq (by omega) rfl (by omega)) (LU (by simp only[CE]; omega) ?_)))))
 have l2:(L++AW (d.length:Int) 4++AW (Au (Ao (AW (d.length:Int) 4))) 4).length=L.length+8:=by rw[List.length_append,l1,CJ]; rfl
 have l3:(L++AW (d.length:Int) 4++AW (Au (Ao (AW (d.length:Int) 4))) 4++AW (Au (Ao d)) 4).length=L.length+12:=by rw[List.length_append,l2,CJ]; rfl
 refine AM hs (Ac (Jr hc) (Ai (Dl (by omega)) (AM (Wq (by omega) rfl (by omega)) ?_)))
 refine Ac (Sr (by omega)) (Ac (Jr hc2) (Ai (Dl (by omega)) (AM (Wq (by omega) rfl (by omega)) ?_)))
 have er:L++AW (d.length:Int) 4++AW (Au (Ao (AW (d.length:Int) 4))) 4++AW (Au (Ao d)) 4++d=L++AN d:=by simp[AN]
 refine BW rfl rfl (by rw[List.length_append,l3]; omega) (wp_leaf rfl ?_)
 rw[er]
 exact ⟨rfl,rfl⟩)

noncomputable def qu:CB:=CZ [(Uy,AX Wp)]

abbrev U8:Nat:=61
noncomputable abbrev cC:Func:=Tryd.f61
theorem qv:DP.funcs[U8]? = some cC:=by kernel_rfl
theorem qw:Ak DP U8=true:=by kernel_rfl
theorem qx:cC.body.isSome=true:=by kernel_rfl
theorem qy:cC.ntmps=25:=by kernel_rfl

noncomputable def cD (L:List UInt8) (d:List UInt8):Tree:=
.callr (some 14) (qu 84 [.rs 0 0 1 0 L.length,vl (d.map AA.f)] [AA.bx 0 L, .cells false 0 ([vi 0,vi 0])] (.tup [.rs 2 0 1 0 ((L++AN d).length),vi 0]) [AA.bx 1 ([]:List UInt8), .cells false 0 ([vi 0,vi 0]),AA.bx 0 (L++AN d)]) (.tup [.rs 2 0 1 0 ((L++AN d).length),vi 0]) [AA.bx 1 ([]:List UInt8), .cells false 0 ([vi 0,vi 0]),AA.bx 0 (L++AN d)] (.int 22 (IntKind.i64.wrap ((((L++AN d).length:Nat):Int) - ((L.length:Nat):Int))) ((((L++AN d).length:Nat):Int) - ((L.length:Nat):Int)) (.leaf ⟨[0],[(0,0,some (([]:List UInt8).map AA.f)),(2,0,some ((L++AN d).map AA.f))]⟩ [rowC (([]:List UInt8).map AA.f),rowC ((L++AN d).map AA.f)] .ret (some ([(0, .tup [.rs 1 0 1 0 ((L++AN d).length), .agg [vi ((L.length:Nat):Int),vi ((((L++AN d).length:Nat):Int) - ((L.length:Nat):Int))],vi 0])],[AA.bx 1 ([]:List UInt8),AA.bx 0 (L++AN d)]))))

theorem fO (L:List UInt8) (d:List UInt8):Av DP Γ0 qu Tryd.f61 [.rs 0 0 1 0 L.length,vl (d.map AA.f)] [AA.bx 0 L] (cD L d)=cD L d:=by kernel_rfl

noncomputable def Wr (L:List UInt8) (n:Int):Tree:=
.callr (some 12) (Δ1 87 [.rs 0 0 1 0 L.length,vn .u64 n,vi 8] [AA.bx 0 L] (.rs 1 0 1 0 ((L++AW n 8).length)) [AA.bx 1 ([]:List UInt8),AA.bx 0 (L++AW n 8)]) (.rs 1 0 1 0 ((L++AW n 8).length)) [AA.bx 1 ([]:List UInt8),AA.bx 0 (L++AW n 8)] (.leaf ⟨[0],[(0,0,some (([]:List UInt8).map AA.f)),(1,0,some ((L++AW n 8).map AA.f))]⟩ [rowC (([]:List UInt8).map AA.f),rowC ((L++AW n 8).map AA.f)] .ret (some ([(0, .rs 1 0 1 0 ((L++AW n 8).length))],[AA.bx 1 ([]:List UInt8),AA.bx 0 (L++AW n 8)])))

theorem cE (L:List UInt8) (n:Int):Av DP Γ1 Δ1 Tryd.f65 [.rs 0 0 1 0 L.length,vn .u64 n,vi 8] [AA.bx 0 L] (Wr L n)=Wr L n:=by kernel_rfl


theorem Nw {R:Ae} {pre post rs:List AV} {B:List Box} {b v n:Nat} {L M:List UInt8} (hR:R (pre++ .rs 0 0 1 0 L.length::post) [AA.bx 0 L] (.tup (.rs 1 0 1 0 n::rs)) [AA.bx 1 [],AA.bx 0 M]) (hb:B[b]? = some (AA.bx v L)) (h1:pre.all E6=true) (h2:post.all E6=true) (h3:∀ f d,AV.rv.rvL f d rs=rs) (h4:AV.low.allLow 2 rs=true):
  AX R (pre++ .rs b v 1 0 L.length::post) B (.tup (.rs B.length 0 1 0 n::rs)) (B.set b (AA.bx (v+1) [])++ [AA.bx 0 M]):=by
 have hlt:b<B.length:=(List.getElem?_eq_some_iff.1 hb).1
 refine ⟨_,_,_,_,hR,⟨[b],[v],[AA.bx v L],[AA.bx (v+1) []],[AA.bx 0 M],?_,?_,?_,?_,⟨?_,trivial⟩,⟨?_,?_,trivial⟩,?_,?_,?_⟩⟩
 ·simp[DO,Nat.blt_eq,hlt]
 ·simp[hb]
 ·rw[On _ _ h1 h2]; simp[AV.rv,Bc,BM]
 ·exact Oo h1 h2 rfl
 ·exact .rowv (by simp[BM])
 ·exact .rowv (by simp[BM]; omega)
 ·exact .rowv (by simp[BM])
 ·simp[Bh]
 ·simp[AV.rv,AV.rv.rvL,Bc,BM,h3]
 ·show AV.low.allLow 2 (.rs 1 0 1 0 n::rs)=true
  rw[AV.low.allLow,h4]; rfl
theorem qz:∀ f,SoundR DP f (qu f):=AY (AU qt) BJ
def Ws:Ae:=fun args B r B'=>∃ (n:Int) (L:List UInt8),(0≤n∧n<18446744073709551616)∧((L.length+8:Nat):Int)≤1000000000∧args= [.rs 0 0 1 0 L.length,vn .u64 n,vi 8]∧B= [AA.bx 0 L]∧r= .rs 1 0 1 0 (L++AW n 8).length∧B'= [AA.bx 1 [],AA.bx 0 (L++AW n 8)]
theorem q8:SoundR DP KO Ws:=Al AZ Γ1_ok Uw eB eC eD (by
 rintro args B r B' ⟨n,L,hn,hL,rfl,rfl,rfl,rfl⟩
 refine ⟨by rw[Vz]; rfl,_,cE L n,?_⟩
 unfold Wr
 exact AM (HZ (R:=V8) (pre:= []) ⟨n,8,hn,by decide, .inr ⟨L,by rw[CJ]; exact hL,rfl,rfl,rfl,rfl⟩⟩ rfl rfl rfl) (wp_leaf rfl ⟨rfl,rfl⟩))
def PG:Ae:=fun args B r B'=>∃ (L d:List UInt8),d.length≤1048576∧L.length≤500000000∧args= [.rs 0 0 1 0 L.length,vl (d.map AA.f)]∧B= [AA.bx 0 L]∧r= .tup [.rs 1 0 1 0 (L++AN d).length, .agg [vi (L.length:Int),vi ((AN d).length:Int)],vi 0]∧B'= [AA.bx 1 [],AA.bx 0 (L++AN d)]
theorem vE:SoundR DP U8 PG:=Al AZ Γ0_ok qz qv qw qx (by
 rintro args B r B' ⟨L,d,hd,hL,rfl,rfl,rfl,rfl⟩
 refine ⟨by rw[qy]; rfl,_,fO L d,?_⟩
 have hr:=EB d
 have e:(((L++AN d).length:Nat):Int) - ((L.length:Nat):Int)=((AN d).length:Int):=by rw[List.length_append]; omega
 unfold cD
 simp only[e]
 refine AM ?_ (AP (by omega) (wp_leaf rfl ⟨rfl,rfl⟩))
 exact Nw (R:=Wp) (pre:= []) (post:= [vl (d.map AA.f)]) (b:=0) (v:=0) (B:= [AA.bx 0 L, .cells false 0 [vi 0,vi 0]]) ⟨L,d,hd,hL,rfl,rfl,rfl,rfl⟩ rfl rfl rfl (fun f d=>rfl) rfl)
theorem cF {B:List Box} {b v:Nat} {L d:List UInt8} (hd:d.length≤1048576) (hL:L.length≤500000000) (hb:B[b]? = some (AA.bx v L)):
  Oy PG [.rs b v 1 0 L.length,vl (d.map AA.f)] B (.tup [.rs B.length 0 1 0 (L++AN d).length, .agg [vi (L.length:Int),vi ((AN d).length:Int)],vi 0]) (B.set b (AA.bx (v+1) [])++ [AA.bx 0 (L++AN d)]):=
 .inl (Nw (R:=PG) (pre:= []) (post:= [vl (d.map AA.f)]) ⟨L,d,hd,hL,rfl,rfl,rfl,rfl⟩ hb rfl rfl (fun f d=>rfl) rfl)
theorem vF {B:List Box} {b v k u:Nat} {L d:List UInt8} (hd:d.length≤1048576) (hL:L.length≤500000000) (hb:B[b]? = some (AA.bx v L)) (hk:B[k]? = some (AA.bx u d)) (hne:k≠b):
  Oy PG [.rs b v 1 0 L.length, .rs k u 1 0 d.length] B (.tup [.rs B.length 0 1 0 (L++AN d).length, .agg [vi (L.length:Int),vi ((AN d).length:Int)],vi 0]) ((B.set k .dead).set b (AA.bx (v+1) [])++ [AA.bx 0 (L++AN d)]):=by
 refine .inr ⟨1,k,u,UInt8,AA,d,hk,rfl,?_⟩
 have h:(B.set k .dead)[b]? = some (AA.bx v L):=by rw[List.getElem?_set_ne hne]; exact hb
 have:=Nw (R:=PG) (pre:= []) (post:= [vl (d.map AA.f)]) ⟨L,d,hd,hL,rfl,rfl,rfl,rfl⟩ h rfl rfl (fun f d=>rfl) rfl
 rw[List.length_set] at this
 exact this

def C5 (b:List UInt8) (I:List Par) (N:List ByteArray) (L:List Ent):List Int:= [(b.length:Int),((AN (Af I).1).length:Int),((b++AN (Af I).1).length:Int),((AN (6::A9 N)).length:Int),(L.length:Int)]
noncomputable def ΓK2:BF:=DG [(MY,H6),(KQ,FA),(S7,QU),(ba,bc),(Ld,Ie),(PB,PD)]
noncomputable def Lf:CB:=CZ [(U8,Oy PG),(Sf,AX Na),(KO,AX Ws),(S7,KM (RC QU)),(RU,KM (RC Wl))]

abbrev RV:Nat:=33
noncomputable abbrev fP:Func:=Tryd.f33
theorem nE:DP.funcs[RV]? = some fP:=by kernel_rfl
theorem nF:Ak DP RV=true:=by kernel_rfl
theorem nG:fP.body.isSome=true:=by kernel_rfl
noncomputable def Dz (L:List Ent) (s1:(List UInt8)×(List Par)×(List ByteArray)×Int×Int×Int):St:=([(0,vl (L.map AB.f)),(4, .rs 0 0 1 0 s1.1.length),(5, .rs 1 0 2 0 s1.2.1.length),(6, .rs 2 0 1 0 s1.2.2.1.length),(7,vi s1.2.2.2.2.1),(8,vi s1.2.2.2.2.2),(26,vl (L.map AB.f)),(27,vi (L.length:Int)),(28,vi s1.2.2.2.1)],[AA.bx 0 s1.1,AK.bx 0 s1.2.1,At.bx 0 s1.2.2.1])
noncomputable def GI (x1:Int):AE×St:=(.ret,([(2,AI),(3,vi x1)],[]))
noncomputable def Jy (L:List Ent) (y1:(List UInt8)×(List Par)×(List ByteArray)):AE×St:=((.exit 0),([(0,vl (L.map AB.f)),(4, .rs 0 0 1 0 y1.1.length),(5, .rs 1 0 2 0 y1.2.1.length),(6, .rs 2 0 1 0 y1.2.2.length)],[AA.bx 0 y1.1,AK.bx 0 y1.2.1,At.bx 0 y1.2.2]))
noncomputable def FO (L:List Ent) (s1:(List UInt8)×(List Par)×(List ByteArray)×Int×Int×Int) (e1:Ent) (j2:Bool):St:=([(0,vl (L.map AB.f)),(4, .rs 0 0 1 0 s1.1.length),(5, .rs 1 0 2 0 s1.2.1.length),(6, .rs 2 0 1 0 s1.2.2.1.length),(7,vi s1.2.2.2.2.1),(8,vi s1.2.2.2.2.2),(9,vi s1.2.2.2.1),(10, .ptr 3 0 0),(26,vl (L.map AB.f)),(27,vi (L.length:Int)),(28,vi s1.2.2.2.1),(49,vb j2)],[AA.bx 0 s1.1,AK.bx 0 s1.2.1,At.bx 0 s1.2.2.1, .cells false 0 ([vs e1.key,vn .u64 e1.seq,vb e1.del,vs e1.val])])
noncomputable def IB (L:List Ent) (s1:(List UInt8)×(List Par)×(List ByteArray)×Int×Int×Int) (e1:Ent) (j3:(List ByteArray)):St:=([(0,vl (L.map AB.f)),(4, .rs 0 0 1 0 s1.1.length),(5, .rs 1 0 2 0 s1.2.1.length),(6, .rs 2 0 1 0 j3.length),(7,vi s1.2.2.2.2.1),(8,vi s1.2.2.2.2.2),(9,vi s1.2.2.2.1),(10, .ptr 3 0 0),(26,vl (L.map AB.f)),(27,vi (L.length:Int)),(28,vi s1.2.2.2.1)],[AA.bx 0 s1.1,AK.bx 0 s1.2.1,At.bx 0 j3, .cells false 0 ([vs e1.key,vn .u64 e1.seq,vb e1.del,vs e1.val])])
noncomputable def FP (L:List Ent) (s1:(List UInt8)×(List Par)×(List ByteArray)×Int×Int×Int) (e1:Ent) (j3:(List ByteArray)) (j4:Int×Bool):St:=([(0,vl (L.map AB.f)),(4, .rs 0 0 1 0 s1.1.length),(5, .rs 1 0 2 0 s1.2.1.length),(6, .rs 2 0 1 0 j3.length),(7,vi s1.2.2.2.2.1),(8,vi j4.1),(9,vi s1.2.2.2.1),(10, .ptr 3 0 0),(26,vl (L.map AB.f)),(27,vi (L.length:Int)),(28,vi s1.2.2.2.1),(86,vb j4.2)],[AA.bx 0 s1.1,AK.bx 0 s1.2.1,At.bx 0 j3, .cells false 0 ([vs e1.key,vn .u64 e1.seq,vb e1.del,vs e1.val])])
noncomputable def IC (L:List Ent) (s1:(List UInt8)×(List Par)×(List ByteArray)×Int×Int×Int) (j3:(List ByteArray)) (j5:(List UInt8)×(List Par)):St:=([(0,vl (L.map AB.f)),(4, .rs 0 0 1 0 j5.1.length),(5, .rs 1 0 2 0 j5.2.length),(6, .rs 2 0 1 0 j3.length),(9,vi s1.2.2.2.1),(26,vl (L.map AB.f)),(27,vi (L.length:Int)),(28,vi s1.2.2.2.1)],[AA.bx 0 j5.1,AK.bx 0 j5.2,At.bx 0 j3])
noncomputable def Kd (L:List Ent) (s1:(List UInt8)×(List Par)×(List ByteArray)×Int×Int×Int) (j3:(List ByteArray)) (j5:(List UInt8)×(List Par)):Tree:=
.int 126 (IntKind.i64.wrap (s1.2.2.2.1+1)) (s1.2.2.2.1+1) (.int 127 (IntKind.i64.wrap (s1.2.2.2.1+1)) (s1.2.2.2.1+1) (.leaf ⟨[0,4,5,6,7,8,26,27,28],[(0,0,some (j5.1.map AA.f)),(1,0,some (j5.2.map AK.f)),(2,0,some (j3.map At.f))]⟩ [rowC (j5.1.map AA.f),rowC (j5.2.map AK.f),rowC (j3.map At.f)] .normal (some (Dz L (j5.1,j5.2,j3,s1.2.2.2.1+1,s1.2.2.2.1+1,0)))))
noncomputable def Fn (L:List Ent) (s1:(List UInt8)×(List Par)×(List ByteArray)×Int×Int×Int) (e1:Ent) (j3:(List ByteArray)) (j4:Int×Bool):Tree:=
.br j4.2 (
.int 127 (IntKind.i64.wrap (s1.2.2.2.1+1)) (s1.2.2.2.1+1) (.leaf ⟨[0,4,5,6,7,8,26,27,28],[(0,0,some (s1.1.map AA.f)),(1,0,some (s1.2.1.map AK.f)),(2,0,some (j3.map At.f))]⟩ [rowC (s1.1.map AA.f),rowC (s1.2.1.map AK.f),rowC (j3.map At.f)] .normal (some (Dz L (s1.1,s1.2.1,j3,s1.2.2.2.1+1,s1.2.2.2.2.1,j4.1))))) (
.int 91 (IntKind.i64.wrap (s1.2.2.2.1+1)) (s1.2.2.2.1+1) (.cut 92 (L.map AB.f) (some s1.2.2.2.2.1) (some (s1.2.2.2.1+1)) AB L (.call 93 (bc [vl ((cutL (some s1.2.2.2.2.1) (some (s1.2.2.2.1+1)) L).map AB.f)]=some (vl (((cutL (some s1.2.2.2.2.1) (some (s1.2.2.2.1+1)) L).map Az).map AK.f))) (vl (((cutL (some s1.2.2.2.2.1) (some (s1.2.2.2.1+1)) L).map Az).map AK.f)) (.call 94 (QU [vl (((cutL (some s1.2.2.2.2.1) (some (s1.2.2.2.1+1)) L).map Az).map AK.f)]=some (.tup [vl (((Af ((cutL (some s1.2.2.2.2.1) (some (s1.2.2.2.1+1)) L).map Az)).1).map AA.f),vi ((Af ((cutL (some s1.2.2.2.2.1) (some (s1.2.2.2.1+1)) L).map Az)).2)])) (.tup [vl (((Af ((cutL (some s1.2.2.2.2.1) (some (s1.2.2.2.1+1)) L).map Az)).1).map AA.f),vi ((Af ((cutL (some s1.2.2.2.2.1) (some (s1.2.2.2.1+1)) L).map Az)).2)]) (.sp 98 (((Af ((cutL (some s1.2.2.2.2.1) (some (s1.2.2.2.1+1)) L).map Az)).2) != (0:Int)) (
.leaf ⟨[2,3],[]⟩ [] .ret (some (GI ((Af ((cutL (some s1.2.2.2.2.1) (some (s1.2.2.2.1+1)) L).map Az)).2)).2)) (
.callr (some 103) (Lf 61 [.rs 0 0 1 0 s1.1.length,vl (((Af ((cutL (some s1.2.2.2.2.1) (some (s1.2.2.2.1+1)) L).map Az)).1).map AA.f)] [AA.bx 0 s1.1,AK.bx 0 s1.2.1,At.bx 0 j3, .cells false 0 ([vs e1.key,vn .u64 e1.seq,vb e1.del,vs e1.val]), .cells false 0 ([vi 0,vi 0])] (.tup [.rs 5 0 1 0 ((s1.1++AN ((Af ((cutL (some s1.2.2.2.2.1) (some (s1.2.2.2.1+1)) L).map Az)).1)).length), .agg [vi (s1.1.length:Int),vi ((AN ((Af ((cutL (some s1.2.2.2.2.1) (some (s1.2.2.2.1+1)) L).map Az)).1)).length:Int)],vi 0]) [AA.bx 1 ([]:List UInt8),AK.bx 0 s1.2.1,At.bx 0 j3, .cells false 0 ([vs e1.key,vn .u64 e1.seq,vb e1.del,vs e1.val]), .cells false 0 ([vi 0,vi 0]),AA.bx 0 (s1.1++AN ((Af ((cutL (some s1.2.2.2.2.1) (some (s1.2.2.2.1+1)) L).map Az)).1))]) (.tup [.rs 5 0 1 0 ((s1.1++AN ((Af ((cutL (some s1.2.2.2.2.1) (some (s1.2.2.2.1+1)) L).map Az)).1)).length), .agg [vi (s1.1.length:Int),vi ((AN ((Af ((cutL (some s1.2.2.2.2.1) (some (s1.2.2.2.1+1)) L).map Az)).1)).length:Int)],vi 0]) [AA.bx 1 ([]:List UInt8),AK.bx 0 s1.2.1,At.bx 0 j3, .cells false 0 ([vs e1.key,vn .u64 e1.seq,vb e1.del,vs e1.val]), .cells false 0 ([vi 0,vi 0]),AA.bx 0 (s1.1++AN ((Af ((cutL (some s1.2.2.2.2.1) (some (s1.2.2.2.1+1)) L).map Az)).1))] (.any (.call 112 (Ie [(AB.av e1)]=some (vs (⟨(BC e1).toArray⟩:ByteArray))) (vs (⟨(BC e1).toArray⟩:ByteArray)) (.int 115 (IntKind.u64.wrap ((s1.1.length:Int))) ((s1.1.length:Int)) (.fork (
.callr (some 116) (Lf 62 [AI,vn .u64 (s1.1.length:Int)] [AA.bx 1 ([]:List UInt8),AK.bx 0 s1.2.1,At.bx 0 j3, .cells false 0 ([vs e1.key,vn .u64 e1.seq,vb e1.del,vs e1.val]), .cells false 0 ([vi (s1.1.length:Int),vi ((AN ((Af ((cutL (some s1.2.2.2.2.1) (some (s1.2.2.2.1+1)) L).map Az)).1)).length:Int)]),AA.bx 0 (s1.1++AN ((Af ((cutL (some s1.2.2.2.2.1) (some (s1.2.2.2.1+1)) L).map Az)).1))] (.rs 6 0 1 0 ((AD (s1.1.length:Int)).length)) [AA.bx 1 ([]:List UInt8),AK.bx 0 s1.2.1,At.bx 0 j3, .cells false 0 ([vs e1.key,vn .u64 e1.seq,vb e1.del,vs e1.val]), .cells false 0 ([vi (s1.1.length:Int),vi ((AN ((Af ((cutL (some s1.2.2.2.2.1) (some (s1.2.2.2.1+1)) L).map Az)).1)).length:Int)]),AA.bx 0 (s1.1++AN ((Af ((cutL (some s1.2.2.2.2.1) (some (s1.2.2.2.1+1)) L).map Az)).1)),AA.bx 0 (AD (s1.1.length:Int))]) (.rs 6 0 1 0 ((AD (s1.1.length:Int)).length)) [AA.bx 1 ([]:List UInt8),AK.bx 0 s1.2.1,At.bx 0 j3, .cells false 0 ([vs e1.key,vn .u64 e1.seq,vb e1.del,vs e1.val]), .cells false 0 ([vi (s1.1.length:Int),vi ((AN ((Af ((cutL (some s1.2.2.2.2.1) (some (s1.2.2.2.1+1)) L).map Az)).1)).length:Int)]),AA.bx 0 (s1.1++AN ((Af ((cutL (some s1.2.2.2.2.1) (some (s1.2.2.2.1+1)) L).map Az)).1)),AA.bx 0 (AD (s1.1.length:Int))] (.int 119 (IntKind.u64.wrap (((AN ((Af ((cutL (some s1.2.2.2.2.1) (some (s1.2.2.2.1+1)) L).map Az)).1)).length:Int))) (((AN ((Af ((cutL (some s1.2.2.2.2.1) (some (s1.2.2.2.1+1)) L).map Az)).1)).length:Int)) (.callr (some 120) (Lf 62 [.rs 6 0 1 0 ((AD (s1.1.length:Int)).length),vn .u64 ((AN ((Af ((cutL (some s1.2.2.2.2.1) (some (s1.2.2.2.1+1)) L).map Az)).1)).length:Int)] [AA.bx 1 ([]:List UInt8),AK.bx 0 s1.2.1,At.bx 0 j3, .cells false 0 ([vs e1.key,vn .u64 e1.seq,vb e1.del,vs e1.val]), .cells false 0 ([vi (s1.1.length:Int),vi ((AN ((Af ((cutL (some s1.2.2.2.2.1) (some (s1.2.2.2.1+1)) L).map Az)).1)).length:Int)]),AA.bx 0 (s1.1++AN ((Af ((cutL (some s1.2.2.2.2.1) (some (s1.2.2.2.1+1)) L).map Az)).1)),AA.bx 0 (AD (s1.1.length:Int))] (.rs 7 0 1 0 (((AD (s1.1.length:Int))++AD ((AN ((Af ((cutL (some s1.2.2.2.2.1) (some (s1.2.2.2.1+1)) L).map Az)).1)).length:Int)).length)) [AA.bx 1 ([]:List UInt8),AK.bx 0 s1.2.1,At.bx 0 j3, .cells false 0 ([vs e1.key,vn .u64 e1.seq,vb e1.del,vs e1.val]), .cells false 0 ([vi (s1.1.length:Int),vi ((AN ((Af ((cutL (some s1.2.2.2.2.1) (some (s1.2.2.2.1+1)) L).map Az)).1)).length:Int)]),AA.bx 0 (s1.1++AN ((Af ((cutL (some s1.2.2.2.2.1) (some (s1.2.2.2.1+1)) L).map Az)).1)),AA.bx 1 ([]:List UInt8),AA.bx 0 ((AD (s1.1.length:Int))++AD ((AN ((Af ((cutL (some s1.2.2.2.2.1) (some (s1.2.2.2.1+1)) L).map Az)).1)).length:Int))]) (.rs 7 0 1 0 (((AD (s1.1.length:Int))++AD ((AN ((Af ((cutL (some s1.2.2.2.2.1) (some (s1.2.2.2.1+1)) L).map Az)).1)).length:Int)).length)) [AA.bx 1 ([]:List UInt8),AK.bx 0 s1.2.1,At.bx 0 j3, .cells false 0 ([vs e1.key,vn .u64 e1.seq,vb e1.del,vs e1.val]), .cells false 0 ([vi (s1.1.length:Int),vi ((AN ((Af ((cutL (some s1.2.2.2.2.1) (some (s1.2.2.2.1+1)) L).map Az)).1)).length:Int)]),AA.bx 0 (s1.1++AN ((Af ((cutL (some s1.2.2.2.2.1) (some (s1.2.2.2.1+1)) L).map Az)).1)),AA.bx 1 ([]:List UInt8),AA.bx 0 ((AD (s1.1.length:Int))++AD ((AN ((Af ((cutL (some s1.2.2.2.2.1) (some (s1.2.2.2.1+1)) L).map Az)).1)).length:Int))] (.bstr 121 (((AD (s1.1.length:Int))++AD ((AN ((Af ((cutL (some s1.2.2.2.2.1) (some (s1.2.2.2.1+1)) L).map Az)).1)).length:Int)).length) (rowC (((AD (s1.1.length:Int))++AD ((AN ((Af ((cutL (some s1.2.2.2.2.1) (some (s1.2.2.2.1+1)) L).map Az)).1)).length:Int)).map AA.f)) ((AD (s1.1.length:Int))++AD ((AN ((Af ((cutL (some s1.2.2.2.2.1) (some (s1.2.2.2.1+1)) L).map Az)).1)).length:Int)) (.app 124 (.row 1 ([vs (⟨(BC e1).toArray⟩:ByteArray),vs (⟨((AD (s1.1.length:Int))++AD ((AN ((Af ((cutL (some s1.2.2.2.2.1) (some (s1.2.2.2.1+1)) L).map Az)).1)).length:Int)).toArray⟩)])) s1.2.1.length (rowC (s1.2.1.map AK.f)) AK s1.2.1 ([(⟨(⟨(BC e1).toArray⟩:ByteArray),(⟨((AD (s1.1.length:Int))++AD ((AN ((Af ((cutL (some s1.2.2.2.2.1) (some (s1.2.2.2.1+1)) L).map Az)).1)).length:Int)).toArray⟩:ByteArray)⟩:Par)]) (.join ⟨[0,4,5,6,9,26,27,28],[(5,0,some ((s1.1++AN ((Af ((cutL (some s1.2.2.2.2.1) (some (s1.2.2.2.1+1)) L).map Az)).1)).map AA.f)),(1,1,some ((s1.2.1++([(⟨(⟨(BC e1).toArray⟩:ByteArray),(⟨((AD (s1.1.length:Int))++AD ((AN ((Af ((cutL (some s1.2.2.2.2.1) (some (s1.2.2.2.1+1)) L).map Az)).1)).length:Int)).toArray⟩:ByteArray)⟩:Par)])).map AK.f)),(2,0,some (j3.map At.f))]⟩ [rowC ((s1.1++AN ((Af ((cutL (some s1.2.2.2.2.1) (some (s1.2.2.2.1+1)) L).map Az)).1)).map AA.f),rowC ((s1.2.1++([(⟨(⟨(BC e1).toArray⟩:ByteArray),(⟨((AD (s1.1.length:Int))++AD ((AN ((Af ((cutL (some s1.2.2.2.2.1) (some (s1.2.2.2.1+1)) L).map Az)).1)).length:Int)).toArray⟩:ByteArray)⟩:Par)])).map AK.f),rowC (j3.map At.f)] (some (IC L s1 j3 (s1.1++AN ((Af ((cutL (some s1.2.2.2.2.1) (some (s1.2.2.2.1+1)) L).map Az)).1),s1.2.1++([(⟨(⟨(BC e1).toArray⟩:ByteArray),(⟨((AD (s1.1.length:Int))++AD ((AN ((Af ((cutL (some s1.2.2.2.2.1) (some (s1.2.2.2.1+1)) L).map Az)).1)).length:Int)).toArray⟩:ByteArray)⟩:Par)])))) (IC L s1 j3) (s1.1++AN ((Af ((cutL (some s1.2.2.2.2.1) (some (s1.2.2.2.1+1)) L).map Az)).1),s1.2.1++([(⟨(⟨(BC e1).toArray⟩:ByteArray),(⟨((AD (s1.1.length:Int))++AD ((AN ((Af ((cutL (some s1.2.2.2.2.1) (some (s1.2.2.2.1+1)) L).map Az)).1)).length:Int)).toArray⟩:ByteArray)⟩:Par)])) (Kd L s1 j3))))))) (
.callr (some 116) (Lf 62 [AI,vn .u64 (s1.1.length:Int)] [AA.bx 1 ([]:List UInt8),AK.bx 0 s1.2.1,At.bx 0 j3, .cells false 0 ([vs e1.key,vn .u64 e1.seq,vb e1.del,vs e1.val]), .cells false 0 ([vi (s1.1.length:Int),vi ((AN ((Af ((cutL (some s1.2.2.2.2.1) (some (s1.2.2.2.1+1)) L).map Az)).1)).length:Int)]),AA.bx 0 (s1.1++AN ((Af ((cutL (some s1.2.2.2.2.1) (some (s1.2.2.2.1+1)) L).map Az)).1))] (.rs 6 0 1 0 ((AD (s1.1.length:Int)).length)) [AA.bx 1 ([]:List UInt8),AK.bx 0 s1.2.1,At.bx 0 j3, .cells false 0 ([vs e1.key,vn .u64 e1.seq,vb e1.del,vs e1.val]), .cells false 0 ([vi (s1.1.length:Int),vi ((AN ((Af ((cutL (some s1.2.2.2.2.1) (some (s1.2.2.2.1+1)) L).map Az)).1)).length:Int)]),AA.bx 0 (s1.1++AN ((Af ((cutL (some s1.2.2.2.2.1) (some (s1.2.2.2.1+1)) L).map Az)).1)),AA.bx 0 (AD (s1.1.length:Int))]) (.rs 6 0 1 0 ((AD (s1.1.length:Int)).length)) [AA.bx 1 ([]:List UInt8),AK.bx 0 s1.2.1,At.bx 0 j3, .cells false 0 ([vs e1.key,vn .u64 e1.seq,vb e1.del,vs e1.val]), .cells false 0 ([vi (s1.1.length:Int),vi ((AN ((Af ((cutL (some s1.2.2.2.2.1) (some (s1.2.2.2.1+1)) L).map Az)).1)).length:Int)]),AA.bx 0 (s1.1++AN ((Af ((cutL (some s1.2.2.2.2.1) (some (s1.2.2.2.1+1)) L).map Az)).1)),AA.bx 0 (AD (s1.1.length:Int))] (.int 119 (IntKind.u64.wrap (((AN ((Af ((cutL (some s1.2.2.2.2.1) (some (s1.2.2.2.1+1)) L).map Az)).1)).length:Int))) (((AN ((Af ((cutL (some s1.2.2.2.2.1) (some (s1.2.2.2.1+1)) L).map Az)).1)).length:Int)) (.callr (some 120) (Lf 62 [.rs 6 0 1 0 ((AD (s1.1.length:Int)).length),vn .u64 ((AN ((Af ((cutL (some s1.2.2.2.2.1) (some (s1.2.2.2.1+1)) L).map Az)).1)).length:Int)] [AA.bx 1 ([]:List UInt8),AK.bx 0 s1.2.1,At.bx 0 j3, .cells false 0 ([vs e1.key,vn .u64 e1.seq,vb e1.del,vs e1.val]), .cells false 0 ([vi (s1.1.length:Int),vi ((AN ((Af ((cutL (some s1.2.2.2.2.1) (some (s1.2.2.2.1+1)) L).map Az)).1)).length:Int)]),AA.bx 0 (s1.1++AN ((Af ((cutL (some s1.2.2.2.2.1) (some (s1.2.2.2.1+1)) L).map Az)).1)),AA.bx 0 (AD (s1.1.length:Int))] (.rs 7 0 1 0 (((AD (s1.1.length:Int))++AD ((AN ((Af ((cutL (some s1.2.2.2.2.1) (some (s1.2.2.2.1+1)) L).map Az)).1)).length:Int)).length)) [AA.bx 1 ([]:List UInt8),AK.bx 0 s1.2.1,At.bx 0 j3, .cells false 0 ([vs e1.key,vn .u64 e1.seq,vb e1.del,vs e1.val]), .cells false 0 ([vi (s1.1.length:Int),vi ((AN ((Af ((cutL (some s1.2.2.2.2.1) (some (s1.2.2.2.1+1)) L).map Az)).1)).length:Int)]),AA.bx 0 (s1.1++AN ((Af ((cutL (some s1.2.2.2.2.1) (some (s1.2.2.2.1+1)) L).map Az)).1)),AA.bx 1 ([]:List UInt8),AA.bx 0 ((AD (s1.1.length:Int))++AD ((AN ((Af ((cutL (some s1.2.2.2.2.1) (some (s1.2.2.2.1+1)) L).map Az)).1)).length:Int))]) (.rs 7 0 1 0 (((AD (s1.1.length:Int))++AD ((AN ((Af ((cutL (some s1.2.2.2.2.1) (some (s1.2.2.2.1+1)) L).map Az)).1)).length:Int)).length)) [AA.bx 1 ([]:List UInt8),AK.bx 0 s1.2.1,At.bx 0 j3, .cells false 0 ([vs e1.key,vn .u64 e1.seq,vb e1.del,vs e1.val]), .cells false 0 ([vi (s1.1.length:Int),vi ((AN ((Af ((cutL (some s1.2.2.2.2.1) (some (s1.2.2.2.1+1)) L).map Az)).1)).length:Int)]),AA.bx 0 (s1.1++AN ((Af ((cutL (some s1.2.2.2.2.1) (some (s1.2.2.2.1+1)) L).map Az)).1)),AA.bx 1 ([]:List UInt8),AA.bx 0 ((AD (s1.1.length:Int))++AD ((AN ((Af ((cutL (some s1.2.2.2.2.1) (some (s1.2.2.2.1+1)) L).map Az)).1)).length:Int))] (.bstr 121 (((AD (s1.1.length:Int))++AD ((AN ((Af ((cutL (some s1.2.2.2.2.1) (some (s1.2.2.2.1+1)) L).map Az)).1)).length:Int)).length) (rowC (((AD (s1.1.length:Int))++AD ((AN ((Af ((cutL (some s1.2.2.2.2.1) (some (s1.2.2.2.1+1)) L).map Az)).1)).length:Int)).map AA.f)) ((AD (s1.1.length:Int))++AD ((AN ((Af ((cutL (some s1.2.2.2.2.1) (some (s1.2.2.2.1+1)) L).map Az)).1)).length:Int)) (.app 124 (.row 1 ([vs (⟨(BC e1).toArray⟩:ByteArray),vs (⟨((AD (s1.1.length:Int))++AD ((AN ((Af ((cutL (some s1.2.2.2.2.1) (some (s1.2.2.2.1+1)) L).map Az)).1)).length:Int)).toArray⟩)])) s1.2.1.length (rowC (s1.2.1.map AK.f)) AK s1.2.1 ([(⟨(⟨(BC e1).toArray⟩:ByteArray),(⟨((AD (s1.1.length:Int))++AD ((AN ((Af ((cutL (some s1.2.2.2.2.1) (some (s1.2.2.2.1+1)) L).map Az)).1)).length:Int)).toArray⟩:ByteArray)⟩:Par)]) (.join ⟨[0,4,5,6,9,26,27,28],[(5,0,some ((s1.1++AN ((Af ((cutL (some s1.2.2.2.2.1) (some (s1.2.2.2.1+1)) L).map Az)).1)).map AA.f)),(1,1,some ((s1.2.1++([(⟨(⟨(BC e1).toArray⟩:ByteArray),(⟨((AD (s1.1.length:Int))++AD ((AN ((Af ((cutL (some s1.2.2.2.2.1) (some (s1.2.2.2.1+1)) L).map Az)).1)).length:Int)).toArray⟩:ByteArray)⟩:Par)])).map AK.f)),(2,0,some (j3.map At.f))]⟩ [rowC ((s1.1++AN ((Af ((cutL (some s1.2.2.2.2.1) (some (s1.2.2.2.1+1)) L).map Az)).1)).map AA.f),rowC ((s1.2.1++([(⟨(⟨(BC e1).toArray⟩:ByteArray),(⟨((AD (s1.1.length:Int))++AD ((AN ((Af ((cutL (some s1.2.2.2.2.1) (some (s1.2.2.2.1+1)) L).map Az)).1)).length:Int)).toArray⟩:ByteArray)⟩:Par)])).map AK.f),rowC (j3.map At.f)] (some (IC L s1 j3 (s1.1++AN ((Af ((cutL (some s1.2.2.2.2.1) (some (s1.2.2.2.1+1)) L).map Az)).1),s1.2.1++([(⟨(⟨(BC e1).toArray⟩:ByteArray),(⟨((AD (s1.1.length:Int))++AD ((AN ((Af ((cutL (some s1.2.2.2.2.1) (some (s1.2.2.2.1+1)) L).map Az)).1)).length:Int)).toArray⟩:ByteArray)⟩:Par)])))) (IC L s1 j3) (s1.1++AN ((Af ((cutL (some s1.2.2.2.2.1) (some (s1.2.2.2.1+1)) L).map Az)).1),s1.2.1++([(⟨(⟨(BC e1).toArray⟩:ByteArray),(⟨((AD (s1.1.length:Int))++AD ((AN ((Af ((cutL (some s1.2.2.2.2.1) (some (s1.2.2.2.1+1)) L).map Az)).1)).length:Int)).toArray⟩:ByteArray)⟩:Par)])) (Kd L s1 j3)))))))))))))))))
noncomputable def Gl (L:List Ent) (s1:(List UInt8)×(List Par)×(List ByteArray)×Int×Int×Int) (e1:Ent) (j3:(List ByteArray)):Tree:=
.int 76 (IntKind.i64.wrap ((e1.key.size:Int)+(e1.val.size:Int))) ((e1.key.size:Int)+(e1.val.size:Int)) (.int 77 (IntKind.i64.wrap (s1.2.2.2.2.2+((e1.key.size:Int)+(e1.val.size:Int)))) (s1.2.2.2.2.2+((e1.key.size:Int)+(e1.val.size:Int))) (.sp 79 (decide ((s1.2.2.2.2.2+((e1.key.size:Int)+(e1.val.size:Int)))<(1024:Int))) (
.int 82 (IntKind.i64.wrap (s1.2.2.2.1+1)) (s1.2.2.2.1+1) (.int 84 ((L.map AB.f).length:Int) (L.length:Int) (.sp 85 (decide ((s1.2.2.2.1+1)<(L.length:Int))) (
.join ⟨[0,4,5,6,7,8,9,10,26,27,28,86],[(0,0,some (s1.1.map AA.f)),(1,0,some (s1.2.1.map AK.f)),(2,0,some (j3.map At.f)),(3,0,none)]⟩ [rowC (s1.1.map AA.f),rowC (s1.2.1.map AK.f),rowC (j3.map At.f)] (some (FP L s1 e1 j3 (s1.2.2.2.2.2+((e1.key.size:Int)+(e1.val.size:Int)),true))) (FP L s1 e1 j3) (s1.2.2.2.2.2+((e1.key.size:Int)+(e1.val.size:Int)),true) (Fn L s1 e1 j3)) (
.join ⟨[0,4,5,6,7,8,9,10,26,27,28,86],[(0,0,some (s1.1.map AA.f)),(1,0,some (s1.2.1.map AK.f)),(2,0,some (j3.map At.f)),(3,0,none)]⟩ [rowC (s1.1.map AA.f),rowC (s1.2.1.map AK.f),rowC (j3.map At.f)] (some (FP L s1 e1 j3 (s1.2.2.2.2.2+((e1.key.size:Int)+(e1.val.size:Int)),false))) (FP L s1 e1 j3) (s1.2.2.2.2.2+((e1.key.size:Int)+(e1.val.size:Int)),false) (Fn L s1 e1 j3))))) (
.join ⟨[0,4,5,6,7,8,9,10,26,27,28,86],[(0,0,some (s1.1.map AA.f)),(1,0,some (s1.2.1.map AK.f)),(2,0,some (j3.map At.f)),(3,0,none)]⟩ [rowC (s1.1.map AA.f),rowC (s1.2.1.map AK.f),rowC (j3.map At.f)] (some (FP L s1 e1 j3 (s1.2.2.2.2.2+((e1.key.size:Int)+(e1.val.size:Int)),false))) (FP L s1 e1 j3) (s1.2.2.2.2.2+((e1.key.size:Int)+(e1.val.size:Int)),false) (Fn L s1 e1 j3))))
noncomputable def FQ (L:List Ent) (s1:(List UInt8)×(List Par)×(List ByteArray)×Int×Int×Int) (e1:Ent) (j6:Bool):St:=([(0,vl (L.map AB.f)),(4, .rs 0 0 1 0 s1.1.length),(5, .rs 1 0 2 0 s1.2.1.length),(6, .rs 2 0 1 0 s1.2.2.1.length),(7,vi s1.2.2.2.2.1),(8,vi s1.2.2.2.2.2),(9,vi s1.2.2.2.1),(10, .ptr 3 0 0),(26,vl (L.map AB.f)),(27,vi (L.length:Int)),(28,vi s1.2.2.2.1),(63,vb j6)],[AA.bx 0 s1.1,AK.bx 0 s1.2.1,At.bx 0 s1.2.2.1, .cells false 0 ([vs e1.key,vn .u64 e1.seq,vb e1.del,vs e1.val])])
noncomputable def Gm (L:List Ent) (s1:(List UInt8)×(List Par)×(List ByteArray)×Int×Int×Int) (e1:Ent) (j6:Bool):Tree:=
.br j6 (
.app 68 (.row 1 ([vs e1.key])) s1.2.2.1.length (rowC (s1.2.2.1.map At.f)) At s1.2.2.1 ([e1.key]) (.join ⟨[0,4,5,6,7,8,9,10,26,27,28],[(0,0,some (s1.1.map AA.f)),(1,0,some (s1.2.1.map AK.f)),(2,1,some ((s1.2.2.1++([e1.key])).map At.f)),(3,0,none)]⟩ [rowC (s1.1.map AA.f),rowC (s1.2.1.map AK.f),rowC ((s1.2.2.1++([e1.key])).map At.f)] (some (IB L s1 e1 (s1.2.2.1++([e1.key])))) (IB L s1 e1) (s1.2.2.1++([e1.key])) (Gl L s1 e1))) (
.join ⟨[0,4,5,6,7,8,9,10,26,27,28],[(0,0,some (s1.1.map AA.f)),(1,0,some (s1.2.1.map AK.f)),(2,0,some (s1.2.2.1.map At.f)),(3,0,none)]⟩ [rowC (s1.1.map AA.f),rowC (s1.2.1.map AK.f),rowC (s1.2.2.1.map At.f)] (some (IB L s1 e1 s1.2.2.1)) (IB L s1 e1) s1.2.2.1 (Gl L s1 e1))
noncomputable def Ij (L:List Ent) (s1:(List UInt8)×(List Par)×(List ByteArray)×Int×Int×Int) (e1:Ent) (j2:Bool):Tree:=
.br j2 (
.leaf ⟨[2,3],[]⟩ [] .ret (some (GI 1).2)) (
.sp 52 (((s1.2.2.1.length:Nat):Int) == (0:Int)) (
.join ⟨[0,4,5,6,7,8,9,10,26,27,28,63],[(0,0,some (s1.1.map AA.f)),(1,0,some (s1.2.1.map AK.f)),(2,0,some (s1.2.2.1.map At.f)),(3,0,none)]⟩ [rowC (s1.1.map AA.f),rowC (s1.2.1.map AK.f),rowC (s1.2.2.1.map At.f)] (some (FQ L s1 e1 true)) (FQ L s1 e1) true (Gm L s1 e1)) (
.int 57 (IntKind.i64.wrap (((s1.2.2.1.length:Nat):Int) - 1)) (((s1.2.2.1.length:Nat):Int) - 1) (.ridx 58 s1.2.2.1.length (((s1.2.2.1.length:Nat):Int) - 1) (.rload 59 (rowC (s1.2.2.1.map At.f)) (0+Int.toNat (((s1.2.2.1.length:Nat):Int) - 1)*1) At s1.2.2.1 (((s1.2.2.1.length:Nat):Int) - 1) 0 (fun e2=> .sp 62 (!(e2.toList == e1.key.toList)) (
.join ⟨[0,4,5,6,7,8,9,10,26,27,28,63],[(0,0,some (s1.1.map AA.f)),(1,0,some (s1.2.1.map AK.f)),(2,0,some (s1.2.2.1.map At.f)),(3,0,none)]⟩ [rowC (s1.1.map AA.f),rowC (s1.2.1.map AK.f),rowC (s1.2.2.1.map At.f)] (some (FQ L s1 e1 true)) (FQ L s1 e1) true (Gm L s1 e1)) (
.join ⟨[0,4,5,6,7,8,9,10,26,27,28,63],[(0,0,some (s1.1.map AA.f)),(1,0,some (s1.2.1.map AK.f)),(2,0,some (s1.2.2.1.map At.f)),(3,0,none)]⟩ [rowC (s1.1.map AA.f),rowC (s1.2.1.map AK.f),rowC (s1.2.2.1.map At.f)] (some (FQ L s1 e1 false)) (FQ L s1 e1) false (Gm L s1 e1)))))))
noncomputable def GJ (L:List Ent) (s1:(List UInt8)×(List Par)×(List ByteArray)×Int×Int×Int):Tree:=
.sp 29 (decide (s1.2.2.2.1<(L.length:Int))) (
.elem 31 (L.map AB.f) AB L s1.2.2.2.1 (fun e1=> .call 34 (H6 [(AB.av e1)]=some (vi (CS e1))) (vi (CS e1)) (.sp 36 ((CS e1) != (0:Int)) (
.leaf ⟨[2,3],[]⟩ [] .ret (some (GI (CS e1)).2)) (
.sp 39 (decide (s1.2.2.2.1>(0:Int))) (
.int 43 (IntKind.i64.wrap (s1.2.2.2.1 - 1)) (s1.2.2.2.1 - 1) (.elem 44 (L.map AB.f) AB L (s1.2.2.2.1 - 1) (fun e3=> .call 47 (FA [(AB.av e3),(AB.av e1)]=some (vi (BK e3 e1))) (vi (BK e3 e1)) (.sp 48 (decide ((BK e3 e1)≥(0:Int))) (
.join ⟨[0,4,5,6,7,8,9,10,26,27,28,49],[(0,0,some (s1.1.map AA.f)),(1,0,some (s1.2.1.map AK.f)),(2,0,some (s1.2.2.1.map At.f)),(3,0,none)]⟩ [rowC (s1.1.map AA.f),rowC (s1.2.1.map AK.f),rowC (s1.2.2.1.map At.f)] (some (FO L s1 e1 true)) (FO L s1 e1) true (Ij L s1 e1)) (
.join ⟨[0,4,5,6,7,8,9,10,26,27,28,49],[(0,0,some (s1.1.map AA.f)),(1,0,some (s1.2.1.map AK.f)),(2,0,some (s1.2.2.1.map At.f)),(3,0,none)]⟩ [rowC (s1.1.map AA.f),rowC (s1.2.1.map AK.f),rowC (s1.2.2.1.map At.f)] (some (FO L s1 e1 false)) (FO L s1 e1) false (Ij L s1 e1)))))) (
.join ⟨[0,4,5,6,7,8,9,10,26,27,28,49],[(0,0,some (s1.1.map AA.f)),(1,0,some (s1.2.1.map AK.f)),(2,0,some (s1.2.2.1.map At.f)),(3,0,none)]⟩ [rowC (s1.1.map AA.f),rowC (s1.2.1.map AK.f),rowC (s1.2.2.1.map At.f)] (some (FO L s1 e1 false)) (FO L s1 e1) false (Ij L s1 e1)))))) (
.leaf ⟨[0,4,5,6],[(0,0,some (s1.1.map AA.f)),(1,0,some (s1.2.1.map AK.f)),(2,0,some (s1.2.2.1.map At.f))]⟩ [rowC (s1.1.map AA.f),rowC (s1.2.1.map AK.f),rowC (s1.2.2.1.map At.f)] (.exit 0) (some (Jy L (s1.1,s1.2.1,s1.2.2.1)).2))
noncomputable def ID (L:List Ent) (y1:(List UInt8)×(List Par)×(List ByteArray)) (s7:(List UInt8)×Int):St:=([(4, .rs 0 0 1 0 (((y1.1++AN ((Af y1.2.1).1))++AN (6::(A9 y1.2.2))).length)),(20, .rs 1 0 1 0 s7.1.length),(175, .rs 2 0 1 0 ((C5 y1.1 y1.2.1 y1.2.2 L).length)),(176,vi (((C5 y1.1 y1.2.1 y1.2.2 L).length:Nat):Int)),(177,vi s7.2)],[AA.bx 0 ((y1.1++AN ((Af y1.2.1).1))++AN (6::(A9 y1.2.2))),AA.bx 0 s7.1,Aa.bx 0 (C5 y1.1 y1.2.1 y1.2.2 L)])
noncomputable def LB (y1:(List UInt8)×(List Par)×(List ByteArray)) (x7:(List UInt8)):AE×St:=((.exit 2),([(4, .rs 0 0 1 0 (((y1.1++AN ((Af y1.2.1).1))++AN (6::(A9 y1.2.2))).length)),(20, .rs 1 0 1 0 x7.length)],[AA.bx 0 ((y1.1++AN ((Af y1.2.1).1))++AN (6::(A9 y1.2.2))),AA.bx 0 x7]))
noncomputable def IE (L:List Ent) (y1:(List UInt8)×(List Par)×(List ByteArray)) (s7:(List UInt8)×Int):Tree:=
.sp 178 (decide (s7.2<(((C5 y1.1 y1.2.1 y1.2.2 L).length:Nat):Int))) (
.ridx 179 ((C5 y1.1 y1.2.1 y1.2.2 L).length) s7.2 (.rload 180 (rowC ((C5 y1.1 y1.2.1 y1.2.2 L).map Aa.f)) (0+Int.toNat s7.2*1) Aa (C5 y1.1 y1.2.1 y1.2.2 L) s7.2 0 (fun e4=> .int 183 (IntKind.u64.wrap (e4)) (e4) (.callr (some 184) (Lf 65 [.rs 1 0 1 0 s7.1.length,vn .u64 e4,vi 8] [AA.bx 0 ((y1.1++AN ((Af y1.2.1).1))++AN (6::(A9 y1.2.2))),AA.bx 0 s7.1,Aa.bx 0 (C5 y1.1 y1.2.1 y1.2.2 L)] (.rs 3 0 1 0 ((s7.1++AW e4 8).length)) [AA.bx 0 ((y1.1++AN ((Af y1.2.1).1))++AN (6::(A9 y1.2.2))),AA.bx 1 ([]:List UInt8),Aa.bx 0 (C5 y1.1 y1.2.1 y1.2.2 L),AA.bx 0 (s7.1++AW e4 8)]) (.rs 3 0 1 0 ((s7.1++AW e4 8).length)) [AA.bx 0 ((y1.1++AN ((Af y1.2.1).1))++AN (6::(A9 y1.2.2))),AA.bx 1 ([]:List UInt8),Aa.bx 0 (C5 y1.1 y1.2.1 y1.2.2 L),AA.bx 0 (s7.1++AW e4 8)] (.int 185 (IntKind.i64.wrap (s7.2+1)) (s7.2+1) (.leaf ⟨[4,20,175,176,177],[(0,0,some (((y1.1++AN ((Af y1.2.1).1))++AN (6::(A9 y1.2.2))).map AA.f)),(3,0,some ((s7.1++AW e4 8).map AA.f)),(2,0,some ((C5 y1.1 y1.2.1 y1.2.2 L).map Aa.f))]⟩ [rowC (((y1.1++AN ((Af y1.2.1).1))++AN (6::(A9 y1.2.2))).map AA.f),rowC ((s7.1++AW e4 8).map AA.f),rowC ((C5 y1.1 y1.2.1 y1.2.2 L).map Aa.f)] .normal (some (ID L y1 (s7.1++AW e4 8,s7.2+1))))))))) (
.leaf ⟨[4,20],[(0,0,some (((y1.1++AN ((Af y1.2.1).1))++AN (6::(A9 y1.2.2))).map AA.f)),(1,0,some (s7.1.map AA.f))]⟩ [rowC (((y1.1++AN ((Af y1.2.1).1))++AN (6::(A9 y1.2.2))).map AA.f),rowC (s7.1.map AA.f)] (.exit 2) (some (LB y1 s7.1).2))
noncomputable def RW (L:List Ent):Tree:=
.int 24 ((L.map AB.f).length:Int) (L.length:Int) (.sp 25 ((L.length:Int) == (0:Int)) (
.leaf ⟨[0],[]⟩ [] .ret (some ([(0, .tup [AI,vi 1])],[]))) (
.int 27 ((L.map AB.f).length:Int) (L.length:Int) (.nilrow 6 1 (.nilrow 4 1 (.nilrow 5 2 (.loop ⟨[0,4,5,6,7,8,26,27,28],[(1,0,some (([]:List UInt8).map AA.f)),(2,0,some (([]:List Par).map AK.f)),(0,0,some (([]:List ByteArray).map At.f))]⟩ [rowC (([]:List UInt8).map AA.f),rowC (([]:List Par).map AK.f),rowC (([]:List ByteArray).map At.f)] (some (Dz L (([]:List UInt8),([]:List Par),([]:List ByteArray),0,0,0))) (Dz L) (GI) (Jy L) (([]:List UInt8),([]:List Par),([]:List ByteArray),0,0,0) (GJ L) (fun (x1:Int)=> .leaf ⟨[0],[]⟩ [] .ret (some ([(0, .tup [AI,vi x1])],[]))) (fun (y1:(List UInt8)×(List Par)×(List ByteArray))=> .callr (some 130) (Lf 59 [.rs 1 0 2 0 y1.2.1.length] [AA.bx 0 y1.1,AK.bx 0 y1.2.1,At.bx 0 y1.2.2] (.tup [vl (((Af y1.2.1).1).map AA.f),vi ((Af y1.2.1).2)]) [AA.bx 0 y1.1, .dead,At.bx 0 y1.2.2]) (.tup [vl (((Af y1.2.1).1).map AA.f),vi ((Af y1.2.1).2)]) [AA.bx 0 y1.1, .dead,At.bx 0 y1.2.2] (.sp 134 (((Af y1.2.1).2) != (0:Int)) (
.leaf ⟨[0],[]⟩ [] .ret (some ([(0, .tup [AI,vi ((Af y1.2.1).2)])],[]))) (
.callr (some 139) (Lf 61 [.rs 0 0 1 0 y1.1.length,vl (((Af y1.2.1).1).map AA.f)] [AA.bx 0 y1.1, .dead,At.bx 0 y1.2.2] (.tup [.rs 3 0 1 0 ((y1.1++AN ((Af y1.2.1).1)).length), .agg [vi (y1.1.length:Int),vi ((AN ((Af y1.2.1).1)).length:Int)],vi 0]) [AA.bx 1 ([]:List UInt8), .dead,At.bx 0 y1.2.2,AA.bx 0 (y1.1++AN ((Af y1.2.1).1))]) (.tup [.rs 3 0 1 0 ((y1.1++AN ((Af y1.2.1).1)).length), .agg [vi (y1.1.length:Int),vi ((AN ((Af y1.2.1).1)).length:Int)],vi 0]) [AA.bx 1 ([]:List UInt8), .dead,At.bx 0 y1.2.2,AA.bx 0 (y1.1++AN ((Af y1.2.1).1))] (.callr (some 148) (Lf 63 [.rs 2 0 1 0 y1.2.2.length] [AA.bx 1 ([]:List UInt8), .dead,At.bx 0 y1.2.2,AA.bx 0 (y1.1++AN ((Af y1.2.1).1)), .cells false 0 ([vi (y1.1.length:Int),vi ((AN ((Af y1.2.1).1)).length:Int)])] (.tup [.agg [vl ((A9 y1.2.2).map AA.f)],vi 0]) [AA.bx 1 ([]:List UInt8), .dead, .dead,AA.bx 0 (y1.1++AN ((Af y1.2.1).1)), .cells false 0 ([vi (y1.1.length:Int),vi ((AN ((Af y1.2.1).1)).length:Int)])]) (.tup [.agg [vl ((A9 y1.2.2).map AA.f)],vi 0]) [AA.bx 1 ([]:List UInt8), .dead, .dead,AA.bx 0 (y1.1++AN ((Af y1.2.1).1)), .cells false 0 ([vi (y1.1.length:Int),vi ((AN ((Af y1.2.1).1)).length:Int)])] (.call 157 (PD [.agg [vl ((A9 y1.2.2).map AA.f)]]=some (vl ((6::(A9 y1.2.2)).map AA.f))) (vl ((6::(A9 y1.2.2)).map AA.f)) (.callr (some 158) (Lf 61 [.rs 3 0 1 0 ((y1.1++AN ((Af y1.2.1).1)).length),vl ((6::(A9 y1.2.2)).map AA.f)] [AA.bx 1 ([]:List UInt8), .dead, .dead,AA.bx 0 (y1.1++AN ((Af y1.2.1).1)), .cells false 0 ([vi (y1.1.length:Int),vi ((AN ((Af y1.2.1).1)).length:Int)]), .cells false 0 ([vl ((A9 y1.2.2).map AA.f)])] (.tup [.rs 6 0 1 0 (((y1.1++AN ((Af y1.2.1).1))++AN (6::(A9 y1.2.2))).length), .agg [vi ((y1.1++AN ((Af y1.2.1).1)).length:Int),vi ((AN (6::(A9 y1.2.2))).length:Int)],vi 0]) [AA.bx 1 ([]:List UInt8), .dead, .dead,AA.bx 1 ([]:List UInt8), .cells false 0 ([vi (y1.1.length:Int),vi ((AN ((Af y1.2.1).1)).length:Int)]), .cells false 0 ([vl ((A9 y1.2.2).map AA.f)]),AA.bx 0 ((y1.1++AN ((Af y1.2.1).1))++AN (6::(A9 y1.2.2)))]) (.tup [.rs 6 0 1 0 (((y1.1++AN ((Af y1.2.1).1))++AN (6::(A9 y1.2.2))).length), .agg [vi ((y1.1++AN ((Af y1.2.1).1)).length:Int),vi ((AN (6::(A9 y1.2.2))).length:Int)],vi 0]) [AA.bx 1 ([]:List UInt8), .dead, .dead,AA.bx 1 ([]:List UInt8), .cells false 0 ([vi (y1.1.length:Int),vi ((AN ((Af y1.2.1).1)).length:Int)]), .cells false 0 ([vl ((A9 y1.2.2).map AA.f)]),AA.bx 0 ((y1.1++AN ((Af y1.2.1).1))++AN (6::(A9 y1.2.2)))] (.int 174 ((L.map AB.f).length:Int) (L.length:Int) (.nilrow 20 1 (.loop ⟨[4,20,175,176,177],[(6,0,some (((y1.1++AN ((Af y1.2.1).1))++AN (6::(A9 y1.2.2))).map AA.f)),(9,0,some (([]:List UInt8).map AA.f)),(8,0,some ((C5 y1.1 y1.2.1 y1.2.2 L).map Aa.f))]⟩ [rowC (((y1.1++AN ((Af y1.2.1).1))++AN (6::(A9 y1.2.2))).map AA.f),rowC (([]:List UInt8).map AA.f),rowC ((C5 y1.1 y1.2.1 y1.2.2 L).map Aa.f)] (some (ID L y1 (([]:List UInt8),0))) (ID L y1) (LB y1) CN (([]:List UInt8),0) (IE L y1) (fun (x7:(List UInt8))=> .callr (some 189) (Lf 61 [.rs 0 0 1 0 (((y1.1++AN ((Af y1.2.1).1))++AN (6::(A9 y1.2.2))).length), .rs 1 0 1 0 x7.length] [AA.bx 0 ((y1.1++AN ((Af y1.2.1).1))++AN (6::(A9 y1.2.2))),AA.bx 0 x7] (.tup [.rs 2 0 1 0 ((((y1.1++AN ((Af y1.2.1).1))++AN (6::(A9 y1.2.2)))++AN x7).length), .agg [vi (((y1.1++AN ((Af y1.2.1).1))++AN (6::(A9 y1.2.2))).length:Int),vi ((AN x7).length:Int)],vi 0]) [AA.bx 1 ([]:List UInt8), .dead,AA.bx 0 (((y1.1++AN ((Af y1.2.1).1))++AN (6::(A9 y1.2.2)))++AN x7)]) (.tup [.rs 2 0 1 0 ((((y1.1++AN ((Af y1.2.1).1))++AN (6::(A9 y1.2.2)))++AN x7).length), .agg [vi (((y1.1++AN ((Af y1.2.1).1))++AN (6::(A9 y1.2.2))).length:Int),vi ((AN x7).length:Int)],vi 0]) [AA.bx 1 ([]:List UInt8), .dead,AA.bx 0 (((y1.1++AN ((Af y1.2.1).1))++AN (6::(A9 y1.2.2)))++AN x7)] (.leaf ⟨[0],[(2,0,some ((((y1.1++AN ((Af y1.2.1).1))++AN (6::(A9 y1.2.2)))++AN x7).map AA.f))]⟩ [rowC ((((y1.1++AN ((Af y1.2.1).1))++AN (6::(A9 y1.2.2)))++AN x7).map AA.f)] .ret (some ([(0, .tup [.rs 0 0 1 0 ((((y1.1++AN ((Af y1.2.1).1))++AN (6::(A9 y1.2.2)))++AN x7).length),vi 0])],[AA.bx 0 (((y1.1++AN ((Af y1.2.1).1))++AN (6::(A9 y1.2.2)))++AN x7)])))) (fun _=> .stuck))))))))))))))))

theorem RX (L:List Ent):Av DP ΓK2 Lf Tryd.f33 [vl (L.map AB.f)] [] (RW L)=RW L:=by kernel_rfl


theorem ΓK2_ok:∀ f,SoundF DP f (ΓK2 f):=An U6 (An RT (An jO (An wl (An WR (An m7 Bu)))))
theorem q9:∀ f,SoundR DP f (Lf f):=AY (RI vE) (AY (AU ii) (AY (AU q8) (AY (jO.rel).shutRow (AY (qn.rel).shutRow BJ))))
section
variable {L : List Ent} {b : List UInt8} {I : List Par} {N j3 : List ByteArray} {i fr : Nat} {sz sz' : Int} {e1 : Ent} {c : List Ent} {K : AE → St → Prop}
theorem vG (hL:L.length≤100000) (hi:i<L.length) {b2:List UInt8} {I2:List Par} (h:K .normal (Dz L (b2,I2,j3,(i:Int)+1,(i:Int)+1,0))):(Kd L (b,I,N,(i:Int),(fr:Int),sz) j3 (b2,I2)).wp K:=by
 unfold Kd
 exact AP (by simp only; omega) (AP (by simp only; omega) (wp_leaf rfl h))
theorem vH (hL:L.length≤100000) (hi:i<L.length) (hf:fr≤i) (hc:cutL (some (fr:Int)) (some ((i:Int)+1)) L=c) (hin:∀ x∈c,HE x) (hpar:∀ p∈c.map Az,GQ p) (hm:(Af (c.map Az)).2=0) (hml:(Af (c.map Az)).1.length≤1048576) (hb:b.length≤500000000) (hI:I.length≤100000) (he:HE e1)
  (h:K .normal (Dz L (b++DE c,I++ [⟨⟨(BC e1).toArray⟩,⟨(AD (b.length:Int)++AD ((DE c).length:Int)).toArray⟩⟩],j3,(i:Int)+1,(i:Int)+1,0))):
  (Fn L (b,I,N,(i:Int),(fr:Int),sz) e1 j3 (sz',false)).wp K:=by
 have hcl:c.length≤L.length:=by rw[←hc]; simp only[cutL,List.length_drop,List.length_take]; omega
 have hr:=EB (Af (c.map Az)).1
 have p1:=C8 (b.length:Int) (by omega)
 have p2:=C8 ((AN (Af (c.map Az)).1).length:Int) (by omega)
 unfold Fn
 dsimp only
 rw[hc,hm]
 refine Ce (fun h=>by cases h) (fun _=>AP (by omega) (DB (by simp only[CE]; omega) (Ac (mh hin (by omega)) (Ac ?_ (AC (fun h=>by simp at h) (fun _=>AM (cF hml hb rfl) ?_))))))
 ·rw[TA hpar (by rw[List.length_map]; omega),hm]
 ·repeat' first
   | exact vG hL hi h
   | refine Cg ?_
   | refine DU ?_ ?_
   | refine Ab rfl ?_
   | refine Ac (Nm e1 he.1 he.2) ?_
   | refine AM (pm (by omega)) ?_
   | refine AM (eI (by omega) rfl (by omega)) ?_
   | refine Ej (by omega) ?_
   | refine O4 ?_
   | refine BW ⟨rfl,rfl⟩ rfl (by simp only[List.length_append,List.length_singleton]; omega) ?_
end

theorem Pz (x:Ent):∀ (M:List Ent) (N:List ByteArray),BN (M++ [x]) N=if (BN M N).getLast? = some x.key then BN M N else BN M N++ [x.key]
 | [],N=>by rw[List.nil_append,BN,BN,BN]
 | y::M,N=>by rw[List.cons_append,BN,BN]; exact Pz x M _
theorem P0 (c:List Ent):∀ D:List (List Ent),Am (D++ [c])=Am D++DE c
 | []=>by simp[Am]
 | d::D=>by rw[List.cons_append,Am,Am,P0 c D,List.append_assoc]
theorem Tw (c:List Ent):∀ (D:List (List Ent)) (o:Nat),Bl o (D++ [c])=Bl o D++ [⟨⟨(BC (B5 c)).toArray⟩,⟨(AD ((o+(Am D).length:Nat):Int)++AD (DE c).length).toArray⟩⟩]
 | [],o=>by simp[Bl,Am]
 | d::D,o=>by
  rw[List.cons_append,Bl,Bl,Tw c D,Am,List.length_append,List.cons_append,show o+(DE d).length+(Am D).length=o+((DE d).length+(Am D).length) by omega]
theorem cG (cur:List Ent) (x:Ent):B5 (cur++ [x])=x:=by simp[B5]
theorem Fits.inOk {L:List Ent} (h:Fits L) {x:Ent} (hx:x∈L):HE x:=by
 have h1:=h.seqOk hx
 have h2:=Gf (h.good.chk x hx)
 exact ⟨⟨h1.1,by have:=h1.2; omega⟩,by omega⟩
theorem Fits.parOk {L:List Ent} (h:Fits L) {x:Ent} (hx:x∈L):GQ (Az x):=by
 have h1:=O0 (h.good.chk x hx)
 have h2:=Gf (h.good.chk x hx)
 have e1:(Az x).name.size=(BC x).length:=by
  have:(Az x).nl.length=(BC x).length:=by rw[LZ]
  exact this
 exact ⟨by omega,by show x.val.size≤_; omega⟩
section
variable {L : List Ent} {b : List UInt8} {I : List Par} {N : List ByteArray} {i fr sz : Nat} {x : Ent} {K : AE → St → Prop}
def U9 (N:List ByteArray) (x:Ent):List ByteArray:=if N.getLast? = some x.key then N else N++ [x.key]
theorem lV (hN:N.length≤100000) (h:(Gl L (b,I,N,(i:Int),(fr:Int),(sz:Int)) x (U9 N x)).wp K):(Ij L (b,I,N,(i:Int),(fr:Int),(sz:Int)) x false).wp K:=by
 have j6t:N.getLast? ≠ some x.key→(Gm L (b,I,N,(i:Int),(fr:Int),(sz:Int)) x true).wp K:=fun hn=>by
  unfold U9 at h
  rw[if_neg hn] at h
  unfold Gm
  exact Ce (fun _=>BW ⟨rfl,rfl⟩ rfl (by simp only[List.length_append,List.length_singleton]; omega) (Ab rfl h)) (fun h=>by cases h)
 unfold Ij
 refine Ce (fun h=>by cases h) (fun _=>AC (fun h0=>Ab rfl (j6t ?_)) (fun h0=>?_))
 ·have:N= []:=List.eq_nil_of_length_eq_zero (by rw[beq_iff_eq] at h0; simp only at h0; omega)
  rw[this]; simp
 ·rw[beq_eq_false_iff_ne] at h0
  simp only at h0
  have hp:0<N.length:=by omega
  obtain ⟨y,hy⟩:∃ y,N[N.length - 1]? = some y:=⟨_,List.getElem?_eq_getElem (by omega)⟩
  have hl:N.getLast? = some y:=by rw[List.getLast?_eq_getElem?,hy]
  refine AP (by simp only; omega) (CX (by simp only; omega) (by simp only; omega) (Bb y (by simp only; omega) (by simp[At]) (by simp only; rw[show (((N.length:Nat):Int) - 1).toNat=N.length - 1 by omega]; exact hy) (AC (fun hq=>Ab rfl (j6t ?_)) (fun hq=>Ab rfl ?_))))
  ·rw[hl]
   intro e
   cases e
   simp at hq
  ·have e:y=x.key:=by
    have hq:(y.toList == x.key.toList)=true:=by simpa using hq
    rw[ByteArray.toList_eq,ByteArray.toList_eq,beq_iff_eq] at hq
    exact ByteArray.ext (Array.toList_inj.1 hq)
   unfold U9 at h
   rw[hl,e,if_pos rfl] at h
   unfold Gm
   exact Ce (fun h=>by cases h) (fun _=>Ab rfl h)
theorem lW (hL:L.length≤100000) (hi:i<L.length) (hs:sz≤100000) (hx:x.key.size≤100000∧x.val.size≤100000)
  (h1:(sz+EC x<1024∧i+1<L.length)→K .normal (Dz L (b,I,N,(i:Int)+1,(fr:Int),((sz+EC x:Nat):Int))))
  (h2:¬(sz+EC x<1024∧i+1<L.length)→∀ N0 s,(Fn L (b,I,N0,(i:Int),(fr:Int),(sz:Int)) x N (s,false)).wp K) (N0:List ByteArray):(Gl L (b,I,N0,(i:Int),(fr:Int),(sz:Int)) x N).wp K:=by
 have ez:EC x=x.key.size+x.val.size:=rfl
 unfold Gl
 refine AP (by omega) (AP (by simp only; omega) (AC (fun a=>AP (by simp only; omega) (Aq (AC (fun c=>Ab rfl ?_) (fun c=>Ab rfl (h2 ?_ _ _))))) (fun a=>Ab rfl (h2 ?_ _ _))))
 ·have a:=of_decide_eq_true a
  have c:=of_decide_eq_true c
  simp only at a c
  have:=h1 (by omega)
  unfold Fn
  refine Ce (fun _=>AP (by simp only; omega) (wp_leaf rfl ?_)) (fun h=>by cases h)
  rw[show ((sz+EC x:Nat):Int)=(sz:Int)+((x.key.size:Int)+(x.val.size:Int)) by omega] at this
  exact this
 ·have c:=of_decide_eq_false c
  simp only at c
  omega
 ·have a:=of_decide_eq_false a
  simp only at a
  omega
end
theorem fQ {L:List Ent} (h:Fits L):∀ (M:List Ent) (i fr:Nat) (D:List (List Ent)) (cur:List Ent),L.drop i=M→i+M.length=L.length→fr≤i→(L.take i).drop fr=cur→AG L 0 []=D++AG M (cur.map EC).sum cur→(cur.map EC).sum≤1024→(M= []→cur= []) →
  Rounds (Dz L) GI (Jy L) (fun s=>(GJ L s).wp) (Am D,Bl 0 D,BN (L.take i) [],(i:Int),(fr:Int),(((cur.map EC).sum:Nat):Int)) (.inr (Am (AG L 0 []),Bl 0 (AG L 0 []),BN L [])):=by
 intro M
 have hfew:=h.few
 induction M with
 | nil=>
  intro i fr D cur hM hl hf hcur hD hs hz
  simp only[List.length_nil] at hl
  rw[hz rfl] at hD
  have hD:AG L 0 []=D:=by rw[hD]; simp[AG]
  rw[hD,List.take_of_length_le (by omega)]
  refine .done' (by intro e; cases e) ?_
  unfold GJ
  exact AC (fun h'=>absurd (of_decide_eq_true h') (by simp only; omega)) (fun _=>wp_leaf rfl ⟨rfl,rfl⟩)
 | cons x M ih=>
  intro i fr D cur hM hl hf hcur hD hs hz
  simp only[List.length_cons] at hl
  have hi:i<L.length:=by omega
  have gx:L[i]? = some x:=by rw[←List.head?_drop,hM]; rfl
  have hx:x∈L:=List.mem_of_getElem? gx
  have hM':L.drop (i+1)=M:=by rw[←List.drop_drop,hM]; rfl
  have hk:=Gf (h.good.chk x hx)
  have htk:L.take (i+1)=L.take i++ [x]:=by
   rw[List.take_add_one,gx]; rfl
  have hcur':(L.take (i+1)).drop fr=cur++ [x]:=by
   rw[htk,List.drop_append_of_le_length (by rw[List.length_take]; omega),hcur]
  have hnm:BN (L.take (i+1)) []=U9 (BN (L.take i) []) x:=by rw[htk,Pz]; rfl
  have hnl:=Ic (L.take i) []
  simp only[List.length_nil,List.length_take] at hnl
  have hsz:((cur++ [x]).map EC).sum=(cur.map EC).sum+EC x:=by simp
  have hDl:D.length≤(AG L 0 []).length:=by rw[hD,List.length_append]; omega
  have hcl:=h.chunks_len
  have hDm:∀ d∈D,d∈AG L 0 []:=fun d hd=>by rw[hD]; simp[hd]
  have hpl:=Fj h D hDm
  have hil:=ED D 0
  have body:∀ (K:AE→St→Prop),(Gl L (Am D,Bl 0 D,BN (L.take i) [],(i:Int),(fr:Int),(((cur.map EC).sum:Nat):Int)) x (BN (L.take (i+1)) [])).wp K→(GJ L (Am D,Bl 0 D,BN (L.take i) [],(i:Int),(fr:Int),(((cur.map EC).sum:Nat):Int))).wp K:=fun K hj=>by
   rw[hnm] at hj
   unfold GJ
   refine AC (fun _=>Cm x (by simp only; omega) (by simpa using gx) (Ac (Jt x) (AC (fun q=>absurd q (by rw[h.good.chk x hx]; decide)) (fun _=>AC (fun q=>?_) (fun _=>Ab rfl (lV (by omega) hj)))))) (fun h'=>absurd (of_decide_eq_false h') (by simp only; omega))
   have q:=of_decide_eq_true q
   simp only at q
   obtain ⟨y,hy⟩:∃ y,L[i - 1]? = some y:=⟨_,List.getElem?_eq_getElem (by omega)⟩
   have hlt:Bz y x:=by
    obtain ⟨a1,a2⟩:=List.getElem?_eq_some_iff.1 hy
    obtain ⟨b1,b2⟩:=List.getElem?_eq_some_iff.1 gx
    rw[←a2,←b2]
    exact List.pairwise_iff_getElem.1 h.good.up (i - 1) i a1 b1 (by omega)
   have hc:=(D5 y x).2 hlt
   refine AP (by simp only; omega) (Cm y (by simp only; omega) (by simp only; rw[show ((i:Int) - 1).toNat=i - 1 by omega]; exact hy) (Ac (Dm y x) (AC (fun r=>absurd (of_decide_eq_true r) (by omega)) (fun _=>Ab rfl (lV (by omega) hj)))))
  by_cases hc:(cur.map EC).sum+EC x<1024∧i+1<L.length
  ·have hMn:M≠ []:=fun e=>by rw[e,List.length_nil] at hl; omega
   have hD':AG L 0 []=D++AG M ((cur++ [x]).map EC).sum (cur++ [x]):=by
    rw[hD,AG,if_pos ⟨hc.1,hMn⟩,hsz]
   have hr:=ih (i+1) fr D (cur++ [x]) hM' (by omega) (by omega) hcur' hD' (by omega) (fun e=>absurd e hMn)
   rw[hsz,show ((i+1:Nat):Int)=(i:Int)+1 by omega] at hr
   exact .next (body _ (lW (by omega) hi (by omega) (by omega) (fun _=>⟨rfl,rfl⟩) (fun e=>absurd hc e) _)) hr
  ·have hD':AG L 0 []=(D++ [cur++ [x]])++AG M 0 []:=by
    rw[hD,AG,if_neg (fun e=>hc ⟨e.1,by have:=List.length_pos_iff.2 e.2; omega⟩),List.append_assoc]
    rfl
   have hcm:cur++ [x]∈AG L 0 []:=by rw[hD']; simp
   have hsub:∀ y∈cur++ [x],y∈L:=fun y hy=>(h.sub hcm).subset hy
   obtain ⟨p1,p2,p3⟩:=h.par hcm
   have hr:=ih (i+1) (i+1) (D++ [cur++ [x]]) [] hM' (by omega) (Nat.le_refl _) (by rw[List.drop_of_length_le (by rw[List.length_take]; omega)]) hD' (by decide) (fun _=>rfl)
   rw[P0,Tw,cG,Nat.zero_add,show ((i+1:Nat):Int)=(i:Int)+1 by omega] at hr
   refine .next (body _ (lW (by omega) hi (by omega) (by omega) (fun e=>absurd e hc) (fun _ N0 s=>?_) _)) hr
   have hcut:cutL (some (fr:Int)) (some ((i:Int)+1)) L=cur++ [x]:=by
    show (L.take (Int.toNat ((i:Int)+1))).drop (Int.toNat (fr:Int))=_
    rw[Int.toNat_natCast,show Int.toNat ((i:Int)+1)=i+1 by omega,hcur']
   exact vH (by omega) hi hf hcut (fun y hy=>h.inOk (hsub y hy)) (fun p hp=>by
    obtain ⟨y,hy,rfl⟩:=List.mem_map.1 hp
    exact h.parOk (hsub y hy)) p2 (by omega) (by omega) (by omega) (h.inOk hx) ⟨rfl,rfl⟩

def M1 (l:List Int):List UInt8:=(l.map fun x=>AW x 8).flatten
theorem jr (l:List Int) (x:Int):M1 (l++ [x])=M1 l++AW x 8:=by simp[M1]
theorem Zj (l:List Int):(M1 l).length=8*l.length:=by
 induction l with
 | nil=>rfl
 | cons x l ih=>
  have:M1 (x::l)=AW x 8++M1 l:=rfl
  rw[this,List.length_append,ih,CJ,List.length_cons]
  show 8+_=_
  omega
theorem nH {L:List Ent} {y1:List UInt8×List Par×List ByteArray} (hl:(C5 y1.1 y1.2.1 y1.2.2 L).length=5) (hb:∀ x∈C5 y1.1 y1.2.1 y1.2.2 L,0≤x∧x<9223372036854775808):∀ (j i:Nat),i+j=5 →
  Rounds (ID L y1) (LB y1) CN (fun s=>(IE L y1 s).wp) (M1 ((C5 y1.1 y1.2.1 y1.2.2 L).take i),(i:Int)) (.inl (M1 (C5 y1.1 y1.2.1 y1.2.2 L))):=by
 intro j
 induction j with
 | zero=>
  intro i hi
  rw[List.take_of_length_le (by omega)]
  refine .done (by intro e; cases e) ?_
  unfold IE
  exact AC (fun h'=>absurd (of_decide_eq_true h') (by simp only; omega)) (fun _=>wp_leaf rfl ⟨rfl,rfl⟩)
 | succ j ih=>
  intro i hi
  obtain ⟨a,ha,ht⟩:=Hd (l:=C5 y1.1 y1.2.1 y1.2.2 L) (i:=i) (by omega)
  have hab:=hb a (List.mem_of_getElem? ha)
  have hr:=ih (i+1) (by omega)
  have hll:=Zj ((C5 y1.1 y1.2.1 y1.2.2 L).take i)
  rw[List.length_take] at hll
  rw[ht,jr,show ((i+1:Nat):Int)=(i:Int)+1 by omega] at hr
  refine .next ?_ hr
  unfold IE
  dsimp only
  refine AC (fun _=>CX (by omega) (by omega) (Bb a (by omega) (by simp[Aa]) (by simpa using ha) (Ej hab (AM ?_ (AP (by omega) (wp_leaf rfl ⟨rfl,rfl⟩)))))) (fun h'=>absurd (of_decide_eq_false h') (by omega))
  exact HZ (R:=Ws) (pre:= []) ⟨a,_,by omega,by omega,rfl,rfl,rfl,rfl⟩ rfl rfl rfl
theorem Yv {L:List UInt8} {e:Int}:Sealed (fun _=>True) [AA.bx 0 L] (.tup [.rs 0 0 1 0 L.length,vi e]) (.tup [vl (L.map AA.f),vi e]):=Nq (E:=AA)
def RY:List AV→AV→Prop:=fun args r=>∃ L:List Ent,args= [vl (L.map AB.f)]∧((Fits L∧r= .tup [vl ((As L).map AA.f),vi 0])∨(L= []∧r= .tup [vl (([]:List UInt8).map AA.f),vi 1]))
noncomputable def RZ:=B4 RY
theorem rA:SoundF DP RV (.pure RZ):=A6 AZ ΓK2_ok q9 nE nF nG (by
 rintro args r ⟨L,rfl,⟨h,rfl⟩ | ⟨rfl,rfl⟩⟩
 ·refine ⟨rfl,rfl,_,RX L,?_⟩
  have hfew:=h.few
  have hne:0<L.length:=List.length_pos_iff.2 h.ne
  have hr:=fQ h L 0 0 [] [] List.drop_zero (Nat.zero_add _) (Nat.le_refl _) rfl rfl (by decide) (fun _=>rfl)
  have hpl:=Fj h (AG L 0 []) (fun c hc=>hc)
  have hcl:=h.chunks_len
  obtain ⟨x1,x2,x3⟩:=h.idx
  have hbl:=MW h
  have hnl:=Ic L []
  simp only[List.length_nil] at hnl
  have hyl:=MV h
  have hfl:=MX h
  have hil:=ED (AG L 0 []) 0
  have hpar:∀ p∈Bl 0 (AG L 0 []),GQ p:=fun p hp=>by
   obtain ⟨c,hc',e1,o',e2,e3⟩:=O2 _ _ p hp
   have hpb:=MU h hc'
   have hm:=Ex (Cw L 0 [] c hc')
   have g1:=O0 (h.good.chk _ ((h.sub hc').subset hm))
   have g2:=C8 (o':Int) (by omega)
   have g3:=C8 ((DE c).length:Int) (by omega)
   have n1:p.nl.length=p.name.size:=rfl
   have n2:p.vl.length=p.val.size:=rfl
   rw[e1] at n1
   rw[e2,List.length_append] at n2
   exact ⟨by omega,by omega⟩
  have hnm:∀ s∈BN L [],s.size≤1000000000:=fun s hs=>by
   have:∀ (M:List Ent) (N:List ByteArray),(∀ x∈M,x.key.size≤1000000000)→(∀ s∈N,s.size≤1000000000)→∀ s∈BN M N,s.size≤1000000000:=by
    intro M
    induction M with
    | nil=>intro N _ hN s hs; exact hN s hs
    | cons x M ih=>
     intro N hM hN s hs
     unfold BN at hs
     split at hs
     ·exact ih N (fun y hy=>hM y (by simp[hy])) hN s hs
     ·refine ih _ (fun y hy=>hM y (by simp[hy])) (fun t ht=>?_) s hs
      rcases List.mem_append.1 ht with ht | ht
      ·exact hN t ht
      ·rw[List.mem_singleton.1 ht]; exact hM x (by simp)
   exact this L [] (fun x hx=>by have:=Gf (h.good.chk x hx); omega) (fun s hs=>by cases hs) s hs
  have hmk:=TA hpar (by omega)
  have hbm:=fM hnm (by omega)
  have e5:C5 (Am (AG L 0 [])) (Bl 0 (AG L 0 [])) (BN L []) L= [((Am (AG L 0 [])).length:Int),((DN (AG L 0 [])).length:Int),((Am (AG L 0 [])++DN (AG L 0 [])).length:Int),((E7 L).length:Int),(L.length:Int)]:=rfl
  have hr7:=nH (L:=L) (y1:=(Am (AG L 0 []),Bl 0 (AG L 0 []),BN L [])) rfl (fun x hx=>by
   rw[show (Am (AG L 0 []),Bl 0 (AG L 0 []),BN L []).1=Am (AG L 0 []) from rfl,show (Am (AG L 0 []),Bl 0 (AG L 0 []),BN L []).2.1=Bl 0 (AG L 0 []) from rfl,show (Am (AG L 0 []),Bl 0 (AG L 0 []),BN L []).2.2=BN L [] from rfl,e5] at hx
   simp only[List.mem_cons,List.mem_nil_iff,or_false,List.length_append] at hx
   rcases hx with rfl | rfl | rfl | rfl | rfl <;> omega) 5 0 rfl
  have hl5:=Zj (C5 (Am (AG L 0 [])) (Bl 0 (AG L 0 [])) (BN L []) L)
  have hl5:(M1 (C5 (Am (AG L 0 [])) (Bl 0 (AG L 0 [])) (BN L []) L)).length=40:=hl5
  have hlb:(6::A9 (BN L [])).length=(A9 (BN L [])).length+1:=rfl
  have hfb:(AN (6::A9 (BN L []))).length=(E7 L).length:=rfl
  have hib:(AN (Af (Bl 0 (AG L 0 []))).1).length=(DN (AG L 0 [])).length:=rfl
  have hfin:((Am (AG L 0 [])++AN (Af (Bl 0 (AG L 0 []))).1)++AN (6::A9 (BN L [])))++AN (M1 (C5 (Am (AG L 0 [])) (Bl 0 (AG L 0 [])) (BN L []) L))=As L:=by
   have:M1 (C5 (Am (AG L 0 [])) (Bl 0 (AG L 0 [])) (BN L []) L)=Fc (Am (AG L 0 [])).length (DN (AG L 0 [])).length ((Am (AG L 0 [])).length+(DN (AG L 0 [])).length) (E7 L).length L.length:=by
    rw[e5]
    unfold Fc M1
    simp only[List.map_cons,List.map_nil,List.flatten_cons,List.flatten_nil,List.append_nil,List.length_append,Int.natCast_add]
   rw[this]
   unfold As I6
   show ((Am (AG L 0 [])++DN (AG L 0 []))++E7 L)++_=_
   simp only[List.append_assoc]
  unfold RW
  refine Aq (AC (fun e=>?_) (fun _=>Aq (DM (DM (DM (Dk _ rfl hr ?_))))))
  ·rw[beq_iff_eq] at e; omega
  ·dsimp only
   rw[x2] at hmk ⊢
   refine AM ?_ (AC (fun e=>by simp at e) (fun _=>AM (cF (by omega) (by omega) rfl) (AM ?_ (Ac (bz (by omega)) (AM (cF (by omega) (by rw[List.length_append]; omega) rfl) (Aq (DM (BH _ rfl hr7 (AM (vF (b:=0) (k:=1) ?_ ?_ rfl rfl (by decide)) ?_)))))))))
   ·exact ⟨0,1,0,Par,AK,_,rfl,rfl,hmk,rfl⟩
   ·exact ⟨0,2,0,ByteArray,At,_,rfl,rfl,hbm,rfl⟩
   ·dsimp only; omega
   ·simp only[List.length_append]; omega
   ·refine wp_leaf rfl ?_
    dsimp only
    rw[hfin]
    exact Yv
 ·refine ⟨rfl,rfl,_,RX [],?_⟩
  unfold RW
  exact Aq (AC (fun _=>wp_leaf rfl Nr) (fun e=>by simp at e)))
theorem cH {args:List AV} {r r':AV} (h:RY args r) (h':RY args r'):r=r':=by
 obtain ⟨L,h1,h2⟩:=h
 obtain ⟨M,g1,g2⟩:=h'
 have e:=Eb (h1.symm.trans g1)
 simp only[AV.p.injEq,PV.ls.injEq] at e
 have e:=QT e
 subst e
 rcases h2 with ⟨h2,rfl⟩ | ⟨h2,rfl⟩ <;> rcases g2 with ⟨g2,rfl⟩ | ⟨g2,rfl⟩
 ·rfl
 ·exact absurd g2 h2.ne
 ·exact absurd h2 g2.ne
 ·rfl
theorem fR {L:List Ent} (h:Fits L):RZ [vl (L.map AB.f)]=some (.tup [vl ((As L).map AA.f),vi 0]):=BT (R:=RY) (fun _ _ _=>cH) ⟨L,rfl, .inl ⟨h,rfl⟩⟩

section
variable {L : List Ent} {c' : List UInt8}
end

inductive Lax:AV→AV→Prop
 | refl (x:AV):Lax x x
 | nil:Lax AI (.p (.ls []))
 | agg (cs ds:List AV):cs.length=ds.length→(∀ (j:Nat) (c d:AV),cs[j]? = some c→ds[j]? = some d→Lax c d)→Lax (.agg cs) (.agg ds)
 | tup (cs ds:List AV):cs.length=ds.length→(∀ (j:Nat) (c d:AV),cs[j]? = some c→ds[j]? = some d→Lax c d)→Lax (.tup cs) (.tup ds)
theorem Lax.rel {F:Nat→Prop} {B:List Box} {ρ:Aj} {w:World} {x y:AV} (h:Lax x y):∀ {u:Value},VRel F B ρ w x u→VRel F B ρ w y u:=by
 induction h with
 | refl x=>exact fun h=>h
 | nil=>
  intro u hv
  have:=hv.val
  subst this
  exact .p _ _ (.nil Option.none 0 (.inr rfl))
 | agg cs ds hl hj ih=>
  intro u hv
  cases hv with
  | agg _ us h2 h3=>
   refine .agg _ us (by omega) (fun j p u hp hu=>?_)
   have hjl:j<cs.length:=by rw[hl]; exact (List.getElem?_eq_some_iff.1 hp).1
   exact ih j _ p (List.getElem?_eq_getElem hjl) hp (h3 j _ u (List.getElem?_eq_getElem hjl) hu)
 | tup cs ds hl hj ih=>
  intro u hv
  cases hv with
  | tup _ us h2 h3=>
   refine .tup _ us (by omega) (fun j p u hp hu=>?_)
   have hjl:j<cs.length:=by rw[hl]; exact (List.getElem?_eq_some_iff.1 hp).1
   exact ih j _ p (List.getElem?_eq_getElem hjl) hp (h3 j _ u (List.getElem?_eq_getElem hjl) hu)
theorem Mi {P:Program} {Γ:BF} {Δ:CB} (hm:P.follows .mixedOrders=true) (hΓ:∀ f,SoundF P f (Γ f)) (hΔ:∀ f,SoundR P f (Δ f)) {f:FuncId} {fn:Func} (hf:P.funcs[f]? = some fn) (he:Ak P f=true) (hb:fn.body.isSome=true) {R:Ae}
  (h:∀ args B r B',R args B r B'→Nat.ble args.length fn.ntmps=true∧∃ T,Av P Γ Δ fn args B T=T∧T.wp fun _ c=>Lax (tk c.1 0) r∧c.2=B'):SoundR P f R:=by
 intro args B r B' hs F ρ w us hI hA
 obtain ⟨hle,T,hT,hwp⟩:=h args B r B' hs
 rw[←hT] at hwp
 refine .inl ⟨Ev he us.toArray w,(NO hm hΓ hΔ hf hb hle hwp hI hA).mono fun e w' hp=>?_⟩
 obtain ⟨x,c,ρ',rfl,⟨_,h1,h2⟩,hI',hE',hv⟩:=hp
 subst h2
 exact ⟨x,ρ',rfl,hI',hE',h1.rel hv⟩
theorem rB {x y z:AV} (h:Lax x y):Lax (.tup [x,z]) (.tup [y,z]):= .tup _ _ rfl (fun j c d h1 h2=>by
 match j,h1,h2 with
 | 0,h1,h2=>cases h1; cases h2; exact h
 | 1,h1,h2=>cases h1; cases h2; exact .refl _
 | j+2,h1,h2=>cases h1)
theorem FB {z:AV}:Lax (.tup [AI,z]) (.tup [.p (.ls []),z]):=rB .nil
theorem Wt {z:AV}:Lax (.tup [.agg [AI,AI],z]) (.tup [.agg [.p (.ls []), .p (.ls [])],z]):=rB (.agg _ _ rfl (fun j c d h1 h2=>by
 match j,h1,h2 with
 | 0,h1,h2=>cases h1; cases h2; exact .nil
 | 1,h1,h2=>cases h1; cases h2; exact .nil
 | j+2,h1,h2=>cases h1))

def F8 (e:Int):Int:=if e=10∨e=0 then e else 12
def AF (D:Dsk) (nm:ByteArray):List UInt8:=match D.get nm with
 | none=> []
 | some x=>x.b
theorem vI {D:Dsk} (ok:D.Ok) {nm:ByteArray} {x:Fil} (h:D.get nm=some x):(x.b.length:Int)≤67108864:=by
 obtain ⟨hx,_⟩:=EY h
 have h1:=KK (Dv ok.nod hx)
 rw[KL] at h1
 have h2:=ok.used
 change D.used=Ip D.files at h2
 have h3:=ok.le
 have h4:=ok.room
 have h5:∀ fs:List Fil,0≤Ip fs:=fun fs=>by
  induction fs with
  | nil=>exact Int.le_refl _
  | cons y fs ih=>rw[KL]; omega
 have:=h5 (Ky D.files x.name)
 omega
theorem Ke {D:Dsk} (ok:D.Ok) (nm:ByteArray):(AF D nm).length≤67108864:=by
 unfold AF
 cases h:D.get nm with
 | none=>simp
 | some x=>have:=vI ok h; simp only; omega
def DF (L:List Par):List Ent×Int:=match F1 L with
 | none=>([],12)
 | some E=>(E,0)
def CT (c:List UInt8) (idx:List Par) (i:Int):List UInt8×List Int×Int:=match idx[i.toNat]? with
 | none=>([],[],12)
 | some p=>match Px p.vl with
  | none=>([],[],12)
  | some (a,n)=>if (getF c a n).2≠0 then ([],[],12) else (CV (getF c a n).1,HG (getF c a n).1,F8 (Gk (getF c a n).1))
theorem Ra (c:List UInt8) (a n:Int):(getF c a n).2=0∨getF c a n=([],12):=by
 unfold getF
 split
 ·exact .inr rfl
 ·split
  ·exact .inr rfl
  ·exact .inl rfl
theorem js (b:List UInt8):(CI b).1.length≤b.length:=by
 unfold CI
 repeat' split
 all_goals simp only[List.length_nil,List.length_drop,List.length_take]
 all_goals omega
theorem Jz (c:List UInt8) (a n:Int):(getF c a n).1.length≤c.length:=by
 unfold getF
 split
 ·simp
 ·split
  ·simp
  ·have:=js ((c.drop a.toNat).take (min n (c.length - a)).toNat)
   simp only[List.length_take,List.length_drop] at this
   simp only
   omega
theorem ju (a n:Int):getF [] a n=([],12):=by
 unfold getF
 split
 ·rfl
 ·rw[if_pos]
  left
  rw[show CI ((([]:List UInt8).drop a.toNat).take (min n ((([]:List UInt8).length:Nat) - a)).toNat)=([],0,8) by simp[CI]]
  decide
theorem pgE_or (d:List UInt8):(EK d=none∧F8 (Gk d)=12)∨(∃ L,EK d=some L∧F8 (Gk d)=0):=by
 unfold Gk
 cases h:EK d with
 | none=>exact .inl ⟨rfl,rfl⟩
 | some L=>exact .inr ⟨L,rfl,rfl⟩
theorem cI {c:List UInt8} {idx:List Par} {i:Int} {p:Par} (hp:idx[i.toNat]? = some p):(CT c idx i).2.2=(Ct c p).2∧((Ct c p).2=0→Ar (CT c idx i).1=((Ct c p).1,0))∧(CT c idx i).1.length≤c.length:=by
 unfold CT Ct
 rw[hp]
 simp only
 cases Px p.vl with
 | none=>exact ⟨rfl,fun h=>(by cases h),Nat.zero_le _⟩
 | some q=>
  obtain ⟨a,n⟩:=q
  simp only
  have hl:=Jz c a n
  split
  ·exact ⟨rfl,fun h=>(by cases h),Nat.zero_le _⟩
  ·have hb:=TD (getF c a n).1
   rcases pgE_or (getF c a n).1 with ⟨h1,h2⟩ | ⟨L,h1,h2⟩
   ·rw[h1]
    exact ⟨h2,fun h=>(by cases h),by simp only; omega⟩
   ·rw[h1]
    exact ⟨h2,fun _=>TC h1,by simp only; omega⟩
theorem nI (c:List UInt8) (p:Par):(Ct c p).2=0∨(Ct c p).2=12:=by
 unfold Ct
 split
 ·exact .inr rfl
 ·split
  ·exact .inr rfl
  ·split
   ·exact .inr rfl
   ·exact .inl rfl
theorem Zk {c:List UInt8} {idx:List Par} {i:Int} (h0:¬i<0) {p:Par} (hp:idx[i.toNat]? = some p):BV c idx i=if (Ct c p).2≠0 then ([],12) else if (DF (Ct c p).1).2≠0 then ([],12) else if (DF (Ct c p).1).1= [] then ([],12) else ((DF (Ct c p).1).1,0):=by
 unfold BV DF
 rw[if_neg h0,hp]
 simp only
 split
 ·rfl
 ·cases F1 (Ct c p).1 with
  | none=>rfl
  | some E=>rfl

def vJ:List AV→AV→Prop:=fun args r=>∃ e:Int,args= [vi e]∧r=vi (F8 e)
noncomputable def PH:=B4 vJ
abbrev Rb:Nat:=69
noncomputable def ΓL1:BF:=DG [(Rb,PH)]
noncomputable def lX:CB:=CZ [(Up,AX U2),(Uz,KM (RC bH))]
noncomputable def ΓL2:BF:=DG [(Nl,Le),(MY,H6)]

noncomputable abbrev lY:Func:=Tryd.f69
theorem rC:DP.funcs[Rb]? = some lY:=by kernel_rfl
theorem rD:Ak DP Rb=true:=by kernel_rfl
theorem rE:lY.body.isSome=true:=by kernel_rfl
abbrev Rc:Nat:=40
noncomputable abbrev cJ:Func:=Tryd.f40
theorem rF:DP.funcs[Rc]? = some cJ:=by kernel_rfl
theorem rG:Ak DP Rc=true:=by kernel_rfl
theorem rH:cJ.body.isSome=true:=by kernel_rfl
theorem rI:cJ.ntmps=49:=by kernel_rfl
abbrev Rd:Nat:=73
noncomputable abbrev Wu:Func:=Tryd.f73
theorem nJ:DP.funcs[Rd]? = some Wu:=by kernel_rfl
theorem nL:Ak DP Rd=true:=by kernel_rfl
theorem nM:Wu.body.isSome=true:=by kernel_rfl
theorem nN:Wu.ntmps=88:=by kernel_rfl
abbrev VA:Nat:=74
noncomputable abbrev lZ:Func:=Tryd.f74
theorem rJ:DP.funcs[VA]? = some lZ:=by kernel_rfl
theorem rL:Ak DP VA=true:=by kernel_rfl
theorem rM:lZ.body.isSome=true:=by kernel_rfl
abbrev Nx:Nat:=45
noncomputable abbrev Wv:Func:=Tryd.f45
theorem nO:DP.funcs[Nx]? = some Wv:=by kernel_rfl
theorem nP:Ak DP Nx=true:=by kernel_rfl
theorem nQ:Wv.body.isSome=true:=by kernel_rfl
theorem nR:Wv.ntmps=48:=by kernel_rfl

noncomputable def cK (e:Int):Tree:=
.sp 4 (e == (10:Int)) (
.leaf ⟨[0],[]⟩ [] .ret (some ([(0,vi e)],[]))) (
.sp 7 (e == (0:Int)) (
.leaf ⟨[0],[]⟩ [] .ret (some ([(0,vi e)],[]))) (
.leaf ⟨[0],[]⟩ [] .ret (some ([(0,vi 12)],[]))))

theorem fS (e:Int):Av DP Γ0 Δ0 Tryd.f69 [vi e] [] (cK e)=cK e:=by kernel_rfl

noncomputable def cL (D:Dsk) (nm:ByteArray) (a:Int) (n:Int):Tree:=
.sp 14 (decide (a<(0:Int))) (
.leaf ⟨[0],[(0,0,none)]⟩ [] .ret (some ([(0, .tup [AI,vi 12])],[.obj [] (AH D)]))) (
.sp 18 (decide (n<(0:Int))) (
.leaf ⟨[0],[(0,0,none)]⟩ [] .ret (some ([(0, .tup [AI,vi 12])],[.obj [] (AH D)]))) (
.callr (some 27) (lX 68 [.op 0,vs nm,vi a,vi n] [.obj [] (AH D), .cells false 0 ([vi a,vi n])] (.tup [.rs 2 0 1 0 ((Bk D nm a n).1.length),vi ((Bk D nm a n).2)]) [.obj [] (AH D), .cells false 0 ([vi a,vi n]),AA.bx 0 ((Bk D nm a n).1)]) (.tup [.rs 2 0 1 0 ((Bk D nm a n).1.length),vi ((Bk D nm a n).2)]) [.obj [] (AH D), .cells false 0 ([vi a,vi n]),AA.bx 0 ((Bk D nm a n).1)] (.sp 31 (((Bk D nm a n).2) != (0:Int)) (
.call 33 (PH [vi ((Bk D nm a n).2)]=some (vi (F8 ((Bk D nm a n).2)))) (vi (F8 ((Bk D nm a n).2))) (.leaf ⟨[0],[(0,0,none)]⟩ [] .ret (some ([(0, .tup [AI,vi (F8 ((Bk D nm a n).2))])],[.obj [] (AH D)])))) (
.callr (some 36) (lX 70 [.rs 2 0 1 0 ((Bk D nm a n).1.length)] [.obj [] (AH D), .cells false 0 ([vi a,vi n]),AA.bx 0 ((Bk D nm a n).1)] (.tup [vl (((CI ((Bk D nm a n).1)).1).map AA.f),vi ((CI ((Bk D nm a n).1)).2.1),vi ((CI ((Bk D nm a n).1)).2.2)]) [.obj [] (AH D), .cells false 0 ([vi a,vi n]), .dead]) (.tup [vl (((CI ((Bk D nm a n).1)).1).map AA.f),vi ((CI ((Bk D nm a n).1)).2.1),vi ((CI ((Bk D nm a n).1)).2.2)]) [.obj [] (AH D), .cells false 0 ([vi a,vi n]), .dead] (.sp 41 (((CI ((Bk D nm a n).1)).2.2) != (0:Int)) (
.leaf ⟨[0],[(0,0,none)]⟩ [] .ret (some ([(0, .tup [AI,vi 12])],[.obj [] (AH D)]))) (
.sp 46 (((CI ((Bk D nm a n).1)).2.1) != n) (
.leaf ⟨[0],[(0,0,none)]⟩ [] .ret (some ([(0, .tup [AI,vi 12])],[.obj [] (AH D)]))) (
.leaf ⟨[0],[(0,0,none)]⟩ [] .ret (some ([(0, .tup [vl (((CI ((Bk D nm a n).1)).1).map AA.f),vi 0])],[.obj [] (AH D)])))))))))

theorem fT (D:Dsk) (nm:ByteArray) (a:Int) (n:Int):Av DP ΓL1 lX Tryd.f40 [.op 0,vs nm, .agg [vi a,vi n]] [.obj [] (AH D)] (cL D nm a n)=cL D nm a n:=by kernel_rfl

noncomputable def JC (L:List Par) (s1:(List Ent)×Int):St:=([(4, .rs 0 0 4 0 s1.1.length),(9,vl (L.map AK.f)),(10,vi (L.length:Int)),(11,vi s1.2)],[AB.bx 0 s1.1])
noncomputable def JD (x1:Unit):AE×St:=(.ret,([(2,AI),(3,vi 12)],[]))
noncomputable def LC (y1:(List Ent)):AE×St:=((.exit 0),([(4, .rs 0 0 4 0 y1.length)],[AB.bx 0 y1]))
noncomputable def F2 (L:List Par) (s1:(List Ent)×Int):Tree:=
.sp 12 (decide (s1.2<(L.length:Int))) (
.elem 13 (L.map AK.f) AK L s1.2 (fun e1=> .call 18 (Le [vs e1.name]=some (.tup [(AB.av ((BG e1.name.data.toList).1)),vi ((BG e1.name.data.toList).2)])) (.tup [(AB.av ((BG e1.name.data.toList).1)),vi ((BG e1.name.data.toList).2)]) (.sp 25 (((BG e1.name.data.toList).2) != (0:Int)) (
.leaf ⟨[2,3],[]⟩ [] .ret (some (JD ()).2)) (
.call 28 (H6 [.agg [vs (((BG e1.name.data.toList).1).key),vn .u64 (((BG e1.name.data.toList).1).seq),vb (((BG e1.name.data.toList).1).del),vs e1.val]]=some (vi (CS (⟨((BG e1.name.data.toList).1).key,((BG e1.name.data.toList).1).seq,((BG e1.name.data.toList).1).del,e1.val⟩:Ent)))) (vi (CS (⟨((BG e1.name.data.toList).1).key,((BG e1.name.data.toList).1).seq,((BG e1.name.data.toList).1).del,e1.val⟩:Ent))) (.sp 29 ((CS (⟨((BG e1.name.data.toList).1).key,((BG e1.name.data.toList).1).seq,((BG e1.name.data.toList).1).del,e1.val⟩:Ent)) != (0:Int)) (
.leaf ⟨[2,3],[]⟩ [] .ret (some (JD ()).2)) (
.app 34 (.row 1 ([vs (((BG e1.name.data.toList).1).key),vn .u64 (((BG e1.name.data.toList).1).seq),vb (((BG e1.name.data.toList).1).del),vs e1.val])) s1.1.length (rowC (s1.1.map AB.f)) AB s1.1 ([(⟨((BG e1.name.data.toList).1).key,((BG e1.name.data.toList).1).seq,((BG e1.name.data.toList).1).del,e1.val⟩:Ent)]) (.int 35 (IntKind.i64.wrap (s1.2+1)) (s1.2+1) (.leaf ⟨[4,9,10,11],[(0,1,some ((s1.1++([(⟨((BG e1.name.data.toList).1).key,((BG e1.name.data.toList).1).seq,((BG e1.name.data.toList).1).del,e1.val⟩:Ent)])).map AB.f))]⟩ [rowC ((s1.1++([(⟨((BG e1.name.data.toList).1).key,((BG e1.name.data.toList).1).seq,((BG e1.name.data.toList).1).del,e1.val⟩:Ent)])).map AB.f)] .normal (some (JC L (s1.1++([(⟨((BG e1.name.data.toList).1).key,((BG e1.name.data.toList).1).seq,((BG e1.name.data.toList).1).del,e1.val⟩:Ent)]),s1.2+1))))))))))) (
.leaf ⟨[4],[(0,0,some (s1.1.map AB.f))]⟩ [rowC (s1.1.map AB.f)] (.exit 0) (some (LC s1.1).2))
noncomputable def cM (L:List Par):Tree:=
.int 10 ((L.map AK.f).length:Int) (L.length:Int) (.nilrow 4 4 (.loop ⟨[4,9,10,11],[(0,0,some (([]:List Ent).map AB.f))]⟩ [rowC (([]:List Ent).map AB.f)] (some (JC L (([]:List Ent),0))) (JC L) (JD) (LC) (([]:List Ent),0) (F2 L) (fun (x1:Unit)=> .leaf ⟨[0],[]⟩ [] .ret (some ([(0, .tup [AI,vi 12])],[]))) (fun (y1:(List Ent))=> .leaf ⟨[0],[(0,0,some (y1.map AB.f))]⟩ [rowC (y1.map AB.f)] .ret (some ([(0, .tup [.rs 0 0 4 0 y1.length,vi 0])],[AB.bx 0 y1])))))

theorem fU (L:List Par):Av DP ΓL2 Δ0 Tryd.f74 [vl (L.map AK.f)] [] (cM L)=cM L:=by kernel_rfl


theorem Tz:SoundF DP Rb (.pure PH):=A6 AZ Γ0_ok Bq rC rD rE (by
 rintro args r ⟨e,rfl,rfl⟩
 refine ⟨rfl,rfl,_,fS e,?_⟩
 unfold cK F8
 refine AC (fun h=>?_) (fun h=>AC (fun g=>?_) (fun g=>?_))
 ·rw[if_pos (.inl (beq_iff_eq.1 h))]; exact wp_leaf rfl (.p _)
 ·rw[if_pos (.inr (beq_iff_eq.1 g))]; exact wp_leaf rfl (.p _)
 ·rw[if_neg (by rintro (k | k); exact beq_eq_false_iff_ne.1 h k; exact beq_eq_false_iff_ne.1 g k)]; exact wp_leaf rfl (.p _))
theorem Ww (e:Int):PH [vi e]=some (vi (F8 e)):=BT (by
 rintro args r r' ⟨a,h1,rfl⟩ ⟨b,h2,rfl⟩
 rw[h1] at h2
 simp at h2
 rw[h2]) ⟨e,rfl,rfl⟩
theorem ΓL1_ok:∀ f,SoundF DP f (ΓL1 f):=An Tz Bu
theorem rN:∀ f,SoundR DP f (lX f):=AY (AU uG) (AY (uD.rel).shutRow BJ)
def Re:Ae:=fun args B r B'=>∃ (D:Dsk) (nm:ByteArray) (a n:Int),D.Ok∧D.down=false∧args= [.op 0,vs nm, .agg [vi a,vi n]]∧B= [.obj [] (AH D)]∧r= .tup [vl ((getF (AF D nm) a n).1.map AA.f),vi (getF (AF D nm) a n).2]∧B'=B
theorem read_cont {D:Dsk} (hd:D.down=false) (nm:ByteArray) (a n:Int) (h:¬(a<0∨n<0)):((Bk D nm a n).2≠0∧F8 (Bk D nm a n).2=12∧getF (AF D nm) a n=([],12))∨((Bk D nm a n).2=0∧getF (AF D nm) a n=if (CI (Bk D nm a n).1).2.2≠0∨(CI (Bk D nm a n).1).2.1≠n then ([],12) else ((CI (Bk D nm a n).1).1,0)):=by
 unfold Bk AF
 rw[hd]
 cases hg:D.get nm with
 | none=>exact .inl ⟨by simp,by simp[F8],ju a n⟩
 | some x=>
  simp only[Bool.false_eq_true,if_false]
  by_cases g:a<0∨a>x.b.length∨n<0
  ·rw[if_pos g]
   refine .inl ⟨by simp,by simp[F8],?_⟩
   unfold getF
   rw[if_pos (by omega)]
  ·rw[if_neg g]
   refine .inr ⟨rfl,?_⟩
   conv=>lhs; unfold getF
   rw[if_neg (by omega)]
theorem la:SoundR DP Rc Re:=Mi AZ ΓL1_ok rN rF rG rH (by
 rintro args B r B' ⟨D,nm,a,n,ok,hd,rfl,rfl,rfl,rfl⟩
 refine ⟨by rw[rI]; rfl,_,fT D nm a n,?_⟩
 unfold cL
 have bad:a<0∨n<0→getF (AF D nm) a n=([],12):=fun h=>by
  unfold getF
  rw[if_pos (by omega)]
 refine AC (fun h=>?_) (fun h=>AC (fun g=>?_) (fun g=>?_))
 ·rw[bad (.inl (of_decide_eq_true h))]
  exact wp_leaf rfl ⟨FB,rfl⟩
 ·rw[bad (.inr (of_decide_eq_true g))]
  exact wp_leaf rfl ⟨FB,rfl⟩
 ·have h:=of_decide_eq_false h
  have g:=of_decide_eq_false g
  refine AM (uK ok rfl) ?_
  rcases read_cont hd nm a n (by omega) with ⟨e1,e2,e3⟩ | ⟨e1,e3⟩
  ·rw[e3]
   refine AC (fun _=>Ac (Ww _) (wp_leaf rfl ?_)) (fun q=>absurd (by simpa using q) e1)
   rw[e2]
   exact ⟨FB,rfl⟩
  ·have hlen:(Bk D nm a n).1.length≤67108864:=by
    have hc:=Ke ok nm
    unfold AF at hc
    unfold Bk
    rw[hd]
    cases hg:D.get nm with
    | none=>simp
    | some x=>
     rw[hg] at hc
     simp only[Bool.false_eq_true,if_false] at hc ⊢
     split
     ·simp
     ·simp only[List.length_take,List.length_drop]; omega
   refine AC (fun q=>absurd e1 (by simpa using q)) (fun _=>AM ⟨0,2,0,UInt8,AA,_,rfl,rfl,iq (by omega),rfl⟩ (AC (fun k=>?_) (fun k=>AC (fun m=>?_) (fun m=>?_))))
   ·rw[if_pos (.inl (by simpa using k))] at e3
    rw[e3]
    exact wp_leaf rfl ⟨FB,rfl⟩
   ·rw[if_pos (.inr (by simpa using m))] at e3
    rw[e3]
    exact wp_leaf rfl ⟨FB,rfl⟩
   ·rw[if_neg (by
     rintro (q | q)
     ·exact q (by simpa using k)
     ·exact q (by simpa using m))] at e3
    rw[e3]
    exact wp_leaf rfl ⟨.refl _,rfl⟩)
theorem ΓL2_ok:∀ f,SoundF DP f (ΓL2 f):=An eh (An U6 Bu)
def cN (out:List Ent):Option (List Ent)→Unit ⊕ List Ent
 | none=> .inl ()
 | some E=> .inr (out++E)
theorem Yw (L:List Par) (hL:∀ p∈L,p.name.size≤1000000000) (hN:L.length≤1000000000):∀ (M:List Par) (i:Nat) (out:List Ent),L.drop i=M→i+M.length=L.length→out.length≤i→Rounds (JC L) JD LC (fun s=>(F2 L s).wp) (out,(i:Int)) (cN out (F1 M)):=by
 intro M
 induction M with
 | nil=>
  intro i out hM hl ho
  simp only[List.length_nil] at hl
  show Rounds _ _ _ _ _ (.inr (out++ []))
  rw[List.append_nil]
  refine .done' (by intro e; cases e) ?_
  unfold F2
  exact AC (fun h'=>absurd (of_decide_eq_true h') (by simp only; omega)) (fun _=>wp_leaf rfl ⟨rfl,rfl⟩)
 | cons p M ih=>
  intro i out hM hl ho
  have gp:L[i]? = some p:=by rw[←List.head?_drop,hM]; rfl
  have hM':L.drop (i+1)=M:=by rw[←List.drop_drop,hM]; rfl
  have hp:=hL p (List.mem_of_getElem? gp)
  simp only[List.length_cons] at hl
  rw[F1]
  have go:=Tr p.name hp
  have hE:(⟨(BG p.name.data.toList).1.key,(BG p.name.data.toList).1.seq,(BG p.name.data.toList).1.del,p.val⟩:Ent)=H5 (BG p.nl).1 p.val:=rfl
  by_cases h1:(BG p.nl).2≠0
  ·rw[if_pos (.inl h1)]
   refine .done (by intro e; cases e) ?_
   unfold F2
   dsimp only
   exact AC (fun _=>Cm p (by omega) (by simpa using gp) (Ac go (AC (fun _=>wp_leaf rfl ⟨rfl,rfl⟩) (fun q=>absurd (by simpa using q) h1)))) (fun h'=>absurd (of_decide_eq_false h') (by omega))
  ·by_cases h2:CS (H5 (BG p.nl).1 p.val)≠0
   ·rw[if_pos (.inr h2)]
    refine .done (by intro e; cases e) ?_
    unfold F2
    dsimp only
    exact AC (fun _=>Cm p (by omega) (by simpa using gp) (Ac go (AC (fun q=>absurd (by simpa using q) h1) (fun _=>Ac (Jt (H5 (BG p.nl).1 p.val)) (AC (fun _=>wp_leaf rfl ⟨rfl,rfl⟩) (fun q=>absurd (by simpa [hE] using q) h2)))))) (fun h'=>absurd (of_decide_eq_false h') (by omega))
   ·rw[if_neg (by rintro (e | e); exact h1 e; exact h2 e)]
    have hr:=ih (i+1) (out++ [H5 (BG p.nl).1 p.val]) hM' (by omega) (by rw[List.length_append,List.length_singleton]; omega)
    have e:cN (out++ [H5 (BG p.nl).1 p.val]) (F1 M)=cN out ((F1 M).map (H5 (BG p.nl).1 p.val :: ·)):=by
     cases F1 M with
     | none=>rfl
     | some E=>show Sum.inr _=Sum.inr _; simp
    rw[e,show ((i+1:Nat):Int)=(i:Int)+1 by omega] at hr
    refine .next ?_ hr
    unfold F2
    dsimp only
    exact AC (fun _=>Cm p (by omega) (by simpa using gp) (Ac go (AC (fun q=>absurd (by simpa using q) h1) (fun _=>Ac (Jt (H5 (BG p.nl).1 p.val)) (AC (fun q=>absurd (by simpa [hE] using q) h2) (fun _=>BW ⟨rfl,rfl⟩ rfl (by rw[List.length_append,List.length_singleton]; omega) (AP (by omega) (wp_leaf rfl ⟨rfl,rfl⟩)))))))) (fun h'=>absurd (of_decide_eq_false h') (by omega))
def vK:List AV→AV→Prop:=fun args r=>∃ L:List Par,(∀ p∈L,p.name.size≤1000000000)∧L.length≤1000000000∧args= [vl (L.map AK.f)]∧r= .tup [vl ((DF L).1.map AB.f),vi (DF L).2]
noncomputable def VB:=B4 vK
theorem vL:SoundF DP VA (.pure VB):=A6 AZ ΓL2_ok Bq rJ rL rM (by
 rintro args r ⟨L,hL,hN,rfl,rfl⟩
 refine ⟨rfl,rfl,_,fU L,?_⟩
 have hr:=Yw L hL hN L 0 [] List.drop_zero (Nat.zero_add _) (Nat.le_refl _)
 unfold cM DF
 refine Aq (DM ?_)
 cases h:F1 L with
 | none=>
  rw[h] at hr
  exact BH _ rfl hr (wp_leaf rfl Nr)
 | some E=>
  rw[h] at hr
  exact Dk _ rfl hr (wp_leaf rfl (Nq (E:=AB))))
theorem nS {L M:List Par} (h:L.map AK.f=M.map AK.f):L=M:=(List.map_inj_right (fun x y e=>by
 cases x; cases y
 simp[AK] at e
 simp[e])).1 h
theorem jv {L:List Par} (hL:∀ p∈L,p.name.size≤1000000000) (hN:L.length≤1000000000):VB [vl (L.map AK.f)]=some (.tup [vl ((DF L).1.map AB.f),vi (DF L).2]):=BT (by
 rintro args r r' ⟨a,_,_,h1,rfl⟩ ⟨b,_,_,h2,rfl⟩
 have h:=Eb (h1.symm.trans h2)
 simp only[AV.p.injEq,PV.ls.injEq] at h
 rw[nS h]) ⟨L,hL,hN,rfl,rfl⟩
end Go.Ax
