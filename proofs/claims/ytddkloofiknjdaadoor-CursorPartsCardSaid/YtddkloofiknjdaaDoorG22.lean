/- Trees, printed by gen/w1.py. -/
import Derived.Test.YtddkloofiknjdaaDoorG21
set_option linter.unusedVariables false
set_option linter.unusedSimpArgs false
set_option linter.unusedSectionVars false
namespace Go.Ax
open Go.Proofs Go.RowKit
set_option maxRecDepth 100000

abbrev iPut:Nat:=62
noncomputable abbrev nPut:Func:=Tryd.f62
theorem hfPut:DP.funcs[iPut]? = some nPut:=by kernel_rfl
theorem hePut:enters DP iPut=true:=by kernel_rfl
theorem hbPut:nPut.body.isSome=true:=by kernel_rfl
theorem hnPut:nPut.ntmps=20:=by kernel_rfl
abbrev iLit:Nat:=87
noncomputable abbrev nLit:Func:=Tryd.f87
theorem hfLit:DP.funcs[iLit]? = some nLit:=by kernel_rfl
theorem heLit:enters DP iLit=true:=by kernel_rfl
theorem hbLit:nLit.body.isSome=true:=by kernel_rfl
theorem hnLit:nLit.ntmps=19:=by kernel_rfl
abbrev iPutL:Nat:=65
noncomputable abbrev nPutL:Func:=Tryd.f65
theorem hfPutL:DP.funcs[iPutL]? = some nPutL:=by kernel_rfl
theorem hePutL:enters DP iPutL=true:=by kernel_rfl
theorem hbPutL:nPutL.body.isSome=true:=by kernel_rfl
theorem hnPutL:nPutL.ntmps=13:=by kernel_rfl
abbrev iMore:Nat:=94
noncomputable abbrev nMore:Func:=Tryd.f94
theorem hfMore:DP.funcs[iMore]? = some nMore:=by kernel_rfl
theorem heMore:enters DP iMore=true:=by kernel_rfl
theorem hbMore:nMore.body.isSome=true:=by kernel_rfl
theorem hnMore:nMore.ntmps=37:=by kernel_rfl
abbrev iSum:Nat:=89
noncomputable abbrev nSum:Func:=Tryd.f89
theorem hfSum:DP.funcs[iSum]? = some nSum:=by kernel_rfl
theorem heSum:enters DP iSum=true:=by kernel_rfl
theorem hbSum:nSum.body.isSome=true:=by kernel_rfl
theorem hnSum:nSum.ntmps=5:=by kernel_rfl
abbrev iMask:Nat:=88
noncomputable abbrev nMask:Func:=Tryd.f88
theorem hfMask:DP.funcs[iMask]? = some nMask:=by kernel_rfl
theorem heMask:enters DP iMask=true:=by kernel_rfl
theorem hbMask:nMask.body.isSome=true:=by kernel_rfl
abbrev iLittle:Nat:=41
noncomputable abbrev nLittle:Func:=Tryd.f41
theorem hfLittle:DP.funcs[iLittle]? = some nLittle:=by kernel_rfl
theorem heLittle:enters DP iLittle=true:=by kernel_rfl
theorem hbLittle:nLittle.body.isSome=true:=by kernel_rfl
abbrev iGet:Nat:=91
noncomputable abbrev nGet:Func:=Tryd.f91
theorem hfGet:DP.funcs[iGet]? = some nGet:=by kernel_rfl
theorem heGet:enters DP iGet=true:=by kernel_rfl
theorem hbGet:nGet.body.isSome=true:=by kernel_rfl
noncomputable def TPut_n_l1_e (s1:(List UInt8)×Int):St:=([(0, .rs 0 0 1 0 s1.1.length),(1,vn .u64 s1.2)],[byteE.bx 0 s1.1])
noncomputable def TPut_n_l1_x (x1:Int×(List UInt8)):AE×St:=((.exit 0),([(0, .rs 0 0 1 0 x1.2.length),(1,vn .u64 x1.1)],[byteE.bx 0 x1.2]))
noncomputable def TPut_n_l1_b (s1:(List UInt8)×Int):Tree:=
.sp 6 (decide (s1.2≥(128:Int))) (
.int 9 (IntKind.u8.wrap s1.2) (s1.2 % 256) (.int 10 (IntKind.u8.wrap ((BitVec.ofInt IntKind.u8.bits (s1.2 % 256) ||| BitVec.ofInt IntKind.u8.bits 128).toNat)) (orI (s1.2 % 256) 128) (.app 12 (.row 1 ([vn .u8 (orI (s1.2 % 256) 128)])) s1.1.length (rowC (s1.1.map byteE.f)) byteE s1.1 ([(UInt8.ofNat (Int.toNat (orI (s1.2 % 256) 128)))]) (.int 14 (Int.fdiv s1.2 (2 ^ 7)) (s1.2 / 128) (.leaf ⟨[0,1],[(0,1,some ((s1.1++([(UInt8.ofNat (Int.toNat (orI (s1.2 % 256) 128)))])).map byteE.f))]⟩ [rowC ((s1.1++([(UInt8.ofNat (Int.toNat (orI (s1.2 % 256) 128)))])).map byteE.f)] .normal (some (TPut_n_l1_e (s1.1++([(UInt8.ofNat (Int.toNat (orI (s1.2 % 256) 128)))]),s1.2 / 128)))))))) (
.leaf ⟨[0,1],[(0,0,some (s1.1.map byteE.f))]⟩ [rowC (s1.1.map byteE.f)] (.exit 0) (some (TPut_n_l1_x (s1.2,s1.1)).2))
noncomputable def TPut_n (n:Int):Tree:=
.nilrow 0 1 (.loop ⟨[0,1],[(0,0,some (([]:List UInt8).map byteE.f))]⟩ [rowC (([]:List UInt8).map byteE.f)] (some (TPut_n_l1_e (([]:List UInt8),n))) (TPut_n_l1_e) (TPut_n_l1_x) noX (([]:List UInt8),n) (TPut_n_l1_b) (fun (x1:Int×(List UInt8))=> .int 17 (IntKind.u8.wrap x1.1) (x1.1 % 256) (.app 19 (.row 1 ([vn .u8 (x1.1 % 256)])) x1.2.length (rowC (x1.2.map byteE.f)) byteE x1.2 ([(UInt8.ofNat (Int.toNat (x1.1 % 256)))]) (.leaf ⟨[0],[(0,1,some ((x1.2++([(UInt8.ofNat (Int.toNat (x1.1 % 256)))])).map byteE.f))]⟩ [rowC ((x1.2++([(UInt8.ofNat (Int.toNat (x1.1 % 256)))])).map byteE.f)] .ret (some ([(0, .rs 0 0 1 0 ((x1.2++([(UInt8.ofNat (Int.toNat (x1.1 % 256)))])).length))],[byteE.bx 0 (x1.2++([(UInt8.ofNat (Int.toNat (x1.1 % 256)))]))]))))) (fun _=> .stuck))

theorem TPut_n_chk (n:Int):fnC DP Γ0 Δ0 Tryd.f62 [nilS,vn .u64 n] [] (TPut_n n)=TPut_n n:=by kernel_rfl

noncomputable def TLit_n_l1_e (k:Int) (s1:(List UInt8)×Int×Int):St:=([(0, .rs 0 0 1 0 s1.1.length),(1,vn .u64 s1.2.1),(7,vi k),(8,vi s1.2.2)],[byteE.bx 0 s1.1])
noncomputable def TLit_n_l1_x (x1:(List UInt8)):AE×St:=((.exit 0),([(0, .rs 0 0 1 0 x1.length)],[byteE.bx 0 x1]))
noncomputable def TLit_n_l1_b (k:Int) (s1:(List UInt8)×Int×Int):Tree:=
.sp 9 (decide (s1.2.2<k)) (
.int 12 (IntKind.u8.wrap s1.2.1) (s1.2.1 % 256) (.app 14 (.row 1 ([vn .u8 (s1.2.1 % 256)])) s1.1.length (rowC (s1.1.map byteE.f)) byteE s1.1 ([(UInt8.ofNat (Int.toNat (s1.2.1 % 256)))]) (.int 16 (Int.fdiv s1.2.1 (2 ^ 8)) (s1.2.1 / 256) (.int 17 (IntKind.i64.wrap (s1.2.2+1)) (s1.2.2+1) (.leaf ⟨[0,1,7,8],[(0,1,some ((s1.1++([(UInt8.ofNat (Int.toNat (s1.2.1 % 256)))])).map byteE.f))]⟩ [rowC ((s1.1++([(UInt8.ofNat (Int.toNat (s1.2.1 % 256)))])).map byteE.f)] .normal (some (TLit_n_l1_e k (s1.1++([(UInt8.ofNat (Int.toNat (s1.2.1 % 256)))]),s1.2.1 / 256,s1.2.2+1)))))))) (
.leaf ⟨[0],[(0,0,some (s1.1.map byteE.f))]⟩ [rowC (s1.1.map byteE.f)] (.exit 0) (some (TLit_n_l1_x s1.1).2))
noncomputable def TLit_n (n:Int) (k:Int):Tree:=
.nilrow 0 1 (.loop ⟨[0,1,7,8],[(0,0,some (([]:List UInt8).map byteE.f))]⟩ [rowC (([]:List UInt8).map byteE.f)] (some (TLit_n_l1_e k (([]:List UInt8),n,0))) (TLit_n_l1_e k) (TLit_n_l1_x) noX (([]:List UInt8),n,0) (TLit_n_l1_b k) (fun (x1:(List UInt8))=> .leaf ⟨[0],[(0,0,some (x1.map byteE.f))]⟩ [rowC (x1.map byteE.f)] .ret (some ([(0, .rs 0 0 1 0 x1.length)],[byteE.bx 0 x1]))) (fun _=> .stuck))

theorem TLit_n_chk (n:Int) (k:Int):fnC DP Γ0 Δ0 Tryd.f87 [nilS,vn .u64 n,vi k] [] (TLit_n n k)=TLit_n n k:=by kernel_rfl

noncomputable def TPut_r_l1_e (s1:(List UInt8)×Int):St:=([(0, .rs 1 0 1 0 s1.1.length),(1,vn .u64 s1.2)],[byteE.bx 1 ([]:List UInt8),byteE.bx 0 s1.1])
noncomputable def TPut_r_l1_x (x1:Int×(List UInt8)):AE×St:=((.exit 0),([(0, .rs 1 0 1 0 x1.2.length),(1,vn .u64 x1.1)],[byteE.bx 1 ([]:List UInt8),byteE.bx 0 x1.2]))
noncomputable def TPut_r_l1_b (s1:(List UInt8)×Int):Tree:=
.sp 6 (decide (s1.2≥(128:Int))) (
.int 9 (IntKind.u8.wrap s1.2) (s1.2 % 256) (.int 10 (IntKind.u8.wrap ((BitVec.ofInt IntKind.u8.bits (s1.2 % 256) ||| BitVec.ofInt IntKind.u8.bits 128).toNat)) (orI (s1.2 % 256) 128) (.app 12 (.row 1 ([vn .u8 (orI (s1.2 % 256) 128)])) s1.1.length (rowC (s1.1.map byteE.f)) byteE s1.1 ([(UInt8.ofNat (Int.toNat (orI (s1.2 % 256) 128)))]) (.int 14 (Int.fdiv s1.2 (2 ^ 7)) (s1.2 / 128) (.leaf ⟨[0,1],[(0,0,some (([]:List UInt8).map byteE.f)),(1,1,some ((s1.1++([(UInt8.ofNat (Int.toNat (orI (s1.2 % 256) 128)))])).map byteE.f))]⟩ [rowC (([]:List UInt8).map byteE.f),rowC ((s1.1++([(UInt8.ofNat (Int.toNat (orI (s1.2 % 256) 128)))])).map byteE.f)] .normal (some (TPut_r_l1_e (s1.1++([(UInt8.ofNat (Int.toNat (orI (s1.2 % 256) 128)))]),s1.2 / 128)))))))) (
.leaf ⟨[0,1],[(0,0,some (([]:List UInt8).map byteE.f)),(1,0,some (s1.1.map byteE.f))]⟩ [rowC (([]:List UInt8).map byteE.f),rowC (s1.1.map byteE.f)] (.exit 0) (some (TPut_r_l1_x (s1.2,s1.1)).2))
noncomputable def TPut_r (L:List UInt8) (n:Int):Tree:=
.mvrow 0 (.loop ⟨[0,1],[(0,0,some (([]:List UInt8).map byteE.f)),(1,0,some (L.map byteE.f))]⟩ [rowC (([]:List UInt8).map byteE.f),rowC (L.map byteE.f)] (some (TPut_r_l1_e (L,n))) (TPut_r_l1_e) (TPut_r_l1_x) noX (L,n) (TPut_r_l1_b) (fun (x1:Int×(List UInt8))=> .int 17 (IntKind.u8.wrap x1.1) (x1.1 % 256) (.app 19 (.row 1 ([vn .u8 (x1.1 % 256)])) x1.2.length (rowC (x1.2.map byteE.f)) byteE x1.2 ([(UInt8.ofNat (Int.toNat (x1.1 % 256)))]) (.leaf ⟨[0],[(0,0,some (([]:List UInt8).map byteE.f)),(1,1,some ((x1.2++([(UInt8.ofNat (Int.toNat (x1.1 % 256)))])).map byteE.f))]⟩ [rowC (([]:List UInt8).map byteE.f),rowC ((x1.2++([(UInt8.ofNat (Int.toNat (x1.1 % 256)))])).map byteE.f)] .ret (some ([(0, .rs 1 0 1 0 ((x1.2++([(UInt8.ofNat (Int.toNat (x1.1 % 256)))])).length))],[byteE.bx 1 ([]:List UInt8),byteE.bx 0 (x1.2++([(UInt8.ofNat (Int.toNat (x1.1 % 256)))]))]))))) (fun _=> .stuck))

theorem TPut_r_chk (L:List UInt8) (n:Int):fnC DP Γ0 Δ0 Tryd.f62 [.rs 0 0 1 0 L.length,vn .u64 n] [byteE.bx 0 L] (TPut_r L n)=TPut_r L n:=by kernel_rfl

noncomputable def TLit_r_l1_e (k:Int) (s1:(List UInt8)×Int×Int):St:=([(0, .rs 1 0 1 0 s1.1.length),(1,vn .u64 s1.2.1),(7,vi k),(8,vi s1.2.2)],[byteE.bx 1 ([]:List UInt8),byteE.bx 0 s1.1])
noncomputable def TLit_r_l1_x (x1:(List UInt8)):AE×St:=((.exit 0),([(0, .rs 1 0 1 0 x1.length)],[byteE.bx 1 ([]:List UInt8),byteE.bx 0 x1]))
noncomputable def TLit_r_l1_b (k:Int) (s1:(List UInt8)×Int×Int):Tree:=
.sp 9 (decide (s1.2.2<k)) (
.int 12 (IntKind.u8.wrap s1.2.1) (s1.2.1 % 256) (.app 14 (.row 1 ([vn .u8 (s1.2.1 % 256)])) s1.1.length (rowC (s1.1.map byteE.f)) byteE s1.1 ([(UInt8.ofNat (Int.toNat (s1.2.1 % 256)))]) (.int 16 (Int.fdiv s1.2.1 (2 ^ 8)) (s1.2.1 / 256) (.int 17 (IntKind.i64.wrap (s1.2.2+1)) (s1.2.2+1) (.leaf ⟨[0,1,7,8],[(0,0,some (([]:List UInt8).map byteE.f)),(1,1,some ((s1.1++([(UInt8.ofNat (Int.toNat (s1.2.1 % 256)))])).map byteE.f))]⟩ [rowC (([]:List UInt8).map byteE.f),rowC ((s1.1++([(UInt8.ofNat (Int.toNat (s1.2.1 % 256)))])).map byteE.f)] .normal (some (TLit_r_l1_e k (s1.1++([(UInt8.ofNat (Int.toNat (s1.2.1 % 256)))]),s1.2.1 / 256,s1.2.2+1)))))))) (
.leaf ⟨[0],[(0,0,some (([]:List UInt8).map byteE.f)),(1,0,some (s1.1.map byteE.f))]⟩ [rowC (([]:List UInt8).map byteE.f),rowC (s1.1.map byteE.f)] (.exit 0) (some (TLit_r_l1_x s1.1).2))
noncomputable def TLit_r (L:List UInt8) (n:Int) (k:Int):Tree:=
.mvrow 0 (.loop ⟨[0,1,7,8],[(0,0,some (([]:List UInt8).map byteE.f)),(1,0,some (L.map byteE.f))]⟩ [rowC (([]:List UInt8).map byteE.f),rowC (L.map byteE.f)] (some (TLit_r_l1_e k (L,n,0))) (TLit_r_l1_e k) (TLit_r_l1_x) noX (L,n,0) (TLit_r_l1_b k) (fun (x1:(List UInt8))=> .leaf ⟨[0],[(0,0,some (([]:List UInt8).map byteE.f)),(1,0,some (x1.map byteE.f))]⟩ [rowC (([]:List UInt8).map byteE.f),rowC (x1.map byteE.f)] .ret (some ([(0, .rs 1 0 1 0 x1.length)],[byteE.bx 1 ([]:List UInt8),byteE.bx 0 x1]))) (fun _=> .stuck))

theorem TLit_r_chk (L:List UInt8) (n:Int) (k:Int):fnC DP Γ0 Δ0 Tryd.f87 [.rs 0 0 1 0 L.length,vn .u64 n,vi k] [byteE.bx 0 L] (TLit_r L n k)=TLit_r L n k:=by kernel_rfl

noncomputable def TMore_l1_e (b:List UInt8) (s1:Int×Int):St:=([(5,vn .u32 s1.2),(10,vl (b.map byteE.f)),(11,vi (b.length:Int)),(12,vi s1.1)],[])
noncomputable def TMore_l1_x (x1:Int):AE×St:=((.exit 0),([(5,vn .u32 x1)],[]))
noncomputable def TMore_l1_b (b:List UInt8) (s1:Int×Int):Tree:=
.sp 13 (decide (s1.1<(b.length:Int))) (
.elem 14 (b.map byteE.f) byteE b s1.1 (fun e1=> .int 18 (IntKind.u32.wrap (e1.toNat:Int)) ((e1.toNat:Int)) (.int 19 (IntKind.u32.wrap ((BitVec.ofInt IntKind.u32.bits s1.2 ^^^ BitVec.ofInt IntKind.u32.bits (e1.toNat:Int)).toNat)) (xorI s1.2 (e1.toNat:Int)) (.int 21 (Int.fdiv (xorI s1.2 (e1.toNat:Int)) (2 ^ 4)) ((xorI s1.2 (e1.toNat:Int)) / 16) (.int 23 (IntKind.u32.wrap ((BitVec.ofInt IntKind.u32.bits (xorI s1.2 (e1.toNat:Int)) &&& BitVec.ofInt IntKind.u32.bits 15).toNat)) ((xorI s1.2 (e1.toNat:Int)) % 16) (.val (some 24) ((indexAddrA DP 161 (.rp halvesP) (vn .u32 ((xorI s1.2 (e1.toNat:Int)) % 16))).map (fun v=>(v,([]:List Box)))=some (.rp ((.v (.int .u32 (hA ((xorI s1.2 (e1.toNat:Int)) % 16))))::hR ((xorI s1.2 (e1.toNat:Int)) % 16)),[])) (.rp ((.v (.int .u32 (hA ((xorI s1.2 (e1.toNat:Int)) % 16))))::hR ((xorI s1.2 (e1.toNat:Int)) % 16))) [] (.int 26 (IntKind.u32.wrap ((BitVec.ofInt IntKind.u32.bits ((xorI s1.2 (e1.toNat:Int)) / 16) ^^^ BitVec.ofInt IntKind.u32.bits (hA ((xorI s1.2 (e1.toNat:Int)) % 16))).toNat)) (halfI (xorI s1.2 (e1.toNat:Int))) (.int 28 (Int.fdiv (halfI (xorI s1.2 (e1.toNat:Int))) (2 ^ 4)) ((halfI (xorI s1.2 (e1.toNat:Int))) / 16) (.int 30 (IntKind.u32.wrap ((BitVec.ofInt IntKind.u32.bits (halfI (xorI s1.2 (e1.toNat:Int))) &&& BitVec.ofInt IntKind.u32.bits 15).toNat)) ((halfI (xorI s1.2 (e1.toNat:Int))) % 16) (.val (some 31) ((indexAddrA DP 161 (.rp halvesP) (vn .u32 ((halfI (xorI s1.2 (e1.toNat:Int))) % 16))).map (fun v=>(v,([]:List Box)))=some (.rp ((.v (.int .u32 (hA ((halfI (xorI s1.2 (e1.toNat:Int))) % 16))))::hR ((halfI (xorI s1.2 (e1.toNat:Int))) % 16)),[])) (.rp ((.v (.int .u32 (hA ((halfI (xorI s1.2 (e1.toNat:Int))) % 16))))::hR ((halfI (xorI s1.2 (e1.toNat:Int))) % 16))) [] (.int 33 (IntKind.u32.wrap ((BitVec.ofInt IntKind.u32.bits ((halfI (xorI s1.2 (e1.toNat:Int))) / 16) ^^^ BitVec.ofInt IntKind.u32.bits (hA ((halfI (xorI s1.2 (e1.toNat:Int))) % 16))).toNat)) (halfI (halfI (xorI s1.2 (e1.toNat:Int)))) (.int 34 (IntKind.i64.wrap (s1.1+1)) (s1.1+1) (.leaf ⟨[5,10,11,12],[]⟩ [] .normal (some (TMore_l1_e b (s1.1+1,halfI (halfI (xorI s1.2 (e1.toNat:Int))))))))))))))))))) (
.leaf ⟨[5],[]⟩ [] (.exit 0) (some (TMore_l1_x s1.2).2))
noncomputable def TMore (s:Int) (b:List UInt8):Tree:=
.int 9 (IntKind.u32.wrap ((BitVec.ofInt IntKind.u32.bits IntKind.u32.max ^^^ BitVec.ofInt IntKind.u32.bits s).toNat)) (4294967295 - s) (.int 11 ((b.map byteE.f).length:Int) (b.length:Int) (.loop ⟨[5,10,11,12],[]⟩ [] (some (TMore_l1_e b (0,4294967295 - s))) (TMore_l1_e b) (TMore_l1_x) noX (0,4294967295 - s) (TMore_l1_b b) (fun (x1:Int)=> .int 36 (IntKind.u32.wrap ((BitVec.ofInt IntKind.u32.bits IntKind.u32.max ^^^ BitVec.ofInt IntKind.u32.bits x1).toNat)) (4294967295 - x1) (.leaf ⟨[0],[]⟩ [] .ret (some ([(0,vn .u32 (4294967295 - x1))],[])))) (fun _=> .stuck)))

theorem TMore_chk (s:Int) (b:List UInt8):fnC DP Γ0 Δ0 Tryd.f94 [vn .u32 s,vl (b.map byteE.f)] [] (TMore s b)=TMore s b:=by kernel_rfl

noncomputable def TMoreR_l1_e (L:List UInt8) (s1:Int×Int):St:=([(5,vn .u32 s1.2),(10, .rs 0 0 1 0 L.length),(11,vi ((L.length:Nat):Int)),(12,vi s1.1)],[byteE.bx 0 L])
noncomputable def TMoreR_l1_x (L:List UInt8) (x1:Int):AE×St:=((.exit 0),([(5,vn .u32 x1)],[byteE.bx 0 L]))
noncomputable def TMoreR_l1_b (L:List UInt8) (s1:Int×Int):Tree:=
.sp 13 (decide (s1.1<((L.length:Nat):Int))) (
.ridx 14 L.length s1.1 (.rload 15 (rowC (L.map byteE.f)) (0+Int.toNat s1.1*1) byteE L s1.1 0 (fun e1=> .int 18 (IntKind.u32.wrap (e1.toNat:Int)) ((e1.toNat:Int)) (.int 19 (IntKind.u32.wrap ((BitVec.ofInt IntKind.u32.bits s1.2 ^^^ BitVec.ofInt IntKind.u32.bits (e1.toNat:Int)).toNat)) (xorI s1.2 (e1.toNat:Int)) (.int 21 (Int.fdiv (xorI s1.2 (e1.toNat:Int)) (2 ^ 4)) ((xorI s1.2 (e1.toNat:Int)) / 16) (.int 23 (IntKind.u32.wrap ((BitVec.ofInt IntKind.u32.bits (xorI s1.2 (e1.toNat:Int)) &&& BitVec.ofInt IntKind.u32.bits 15).toNat)) ((xorI s1.2 (e1.toNat:Int)) % 16) (.val (some 24) ((indexAddrA DP 161 (.rp halvesP) (vn .u32 ((xorI s1.2 (e1.toNat:Int)) % 16))).map (fun v=>(v,([byteE.bx 0 L]:List Box)))=some (.rp ((.v (.int .u32 (hA ((xorI s1.2 (e1.toNat:Int)) % 16))))::hR ((xorI s1.2 (e1.toNat:Int)) % 16)),[byteE.bx 0 L])) (.rp ((.v (.int .u32 (hA ((xorI s1.2 (e1.toNat:Int)) % 16))))::hR ((xorI s1.2 (e1.toNat:Int)) % 16))) [byteE.bx 0 L] (.int 26 (IntKind.u32.wrap ((BitVec.ofInt IntKind.u32.bits ((xorI s1.2 (e1.toNat:Int)) / 16) ^^^ BitVec.ofInt IntKind.u32.bits (hA ((xorI s1.2 (e1.toNat:Int)) % 16))).toNat)) (halfI (xorI s1.2 (e1.toNat:Int))) (.int 28 (Int.fdiv (halfI (xorI s1.2 (e1.toNat:Int))) (2 ^ 4)) ((halfI (xorI s1.2 (e1.toNat:Int))) / 16) (.int 30 (IntKind.u32.wrap ((BitVec.ofInt IntKind.u32.bits (halfI (xorI s1.2 (e1.toNat:Int))) &&& BitVec.ofInt IntKind.u32.bits 15).toNat)) ((halfI (xorI s1.2 (e1.toNat:Int))) % 16) (.val (some 31) ((indexAddrA DP 161 (.rp halvesP) (vn .u32 ((halfI (xorI s1.2 (e1.toNat:Int))) % 16))).map (fun v=>(v,([byteE.bx 0 L]:List Box)))=some (.rp ((.v (.int .u32 (hA ((halfI (xorI s1.2 (e1.toNat:Int))) % 16))))::hR ((halfI (xorI s1.2 (e1.toNat:Int))) % 16)),[byteE.bx 0 L])) (.rp ((.v (.int .u32 (hA ((halfI (xorI s1.2 (e1.toNat:Int))) % 16))))::hR ((halfI (xorI s1.2 (e1.toNat:Int))) % 16))) [byteE.bx 0 L] (.int 33 (IntKind.u32.wrap ((BitVec.ofInt IntKind.u32.bits ((halfI (xorI s1.2 (e1.toNat:Int))) / 16) ^^^ BitVec.ofInt IntKind.u32.bits (hA ((halfI (xorI s1.2 (e1.toNat:Int))) % 16))).toNat)) (halfI (halfI (xorI s1.2 (e1.toNat:Int)))) (.int 34 (IntKind.i64.wrap (s1.1+1)) (s1.1+1) (.leaf ⟨[5,10,11,12],[(0,0,some (L.map byteE.f))]⟩ [rowC (L.map byteE.f)] .normal (some (TMoreR_l1_e L (s1.1+1,halfI (halfI (xorI s1.2 (e1.toNat:Int)))))))))))))))))))) (
.leaf ⟨[5],[(0,0,some (L.map byteE.f))]⟩ [rowC (L.map byteE.f)] (.exit 0) (some (TMoreR_l1_x L s1.2).2))
noncomputable def TMoreR (s:Int) (L:List UInt8):Tree:=
.int 9 (IntKind.u32.wrap ((BitVec.ofInt IntKind.u32.bits IntKind.u32.max ^^^ BitVec.ofInt IntKind.u32.bits s).toNat)) (4294967295 - s) (.loop ⟨[5,10,11,12],[(0,0,some (L.map byteE.f))]⟩ [rowC (L.map byteE.f)] (some (TMoreR_l1_e L (0,4294967295 - s))) (TMoreR_l1_e L) (TMoreR_l1_x L) noX (0,4294967295 - s) (TMoreR_l1_b L) (fun (x1:Int)=> .int 36 (IntKind.u32.wrap ((BitVec.ofInt IntKind.u32.bits IntKind.u32.max ^^^ BitVec.ofInt IntKind.u32.bits x1).toNat)) (4294967295 - x1) (.leaf ⟨[0],[(0,0,some (L.map byteE.f))]⟩ [rowC (L.map byteE.f)] .ret (some ([(0,vn .u32 (4294967295 - x1))],[byteE.bx 0 L])))) (fun _=> .stuck))

theorem TMoreR_chk (s:Int) (L:List UInt8):fnC DP Γ0 Δ0 Tryd.f94 [vn .u32 s, .rs 0 0 1 0 L.length] [byteE.bx 0 L] (TMoreR s L)=TMoreR s L:=by kernel_rfl

noncomputable def TMask (s:Int):Tree:=
.int 4 (Int.fdiv s (2 ^ 15)) (s / 32768) (.int 6 (IntKind.u32.wrap (s*2 ^ 17)) ((s*131072) % 4294967296) (.int 7 (IntKind.u32.wrap ((BitVec.ofInt IntKind.u32.bits (s / 32768) ||| BitVec.ofInt IntKind.u32.bits ((s*131072) % 4294967296)).toNat)) (orI (s / 32768) ((s*131072) % 4294967296)) (.int 8 (IntKind.u32.wrap ((orI (s / 32768) ((s*131072) % 4294967296))+2726488792)) (((orI (s / 32768) ((s*131072) % 4294967296))+2726488792) % 4294967296) (.leaf ⟨[0],[]⟩ [] .ret (some ([(0,vn .u32 (((orI (s / 32768) ((s*131072) % 4294967296))+2726488792) % 4294967296))],[]))))))

theorem TMask_chk (s:Int):fnC DP Γ0 Δ0 Tryd.f88 [vn .u32 s] [] (TMask s)=TMask s:=by kernel_rfl

noncomputable def TLittle_l1_e (b:List UInt8) (s1:Int×Int):St:=([(0,vl (b.map byteE.f)),(3,vn .u64 s1.1),(4,vi s1.2)],[])
noncomputable def TLittle_l1_x (x1:Int):AE×St:=((.exit 0),([(3,vn .u64 x1)],[]))
noncomputable def TLittle_l1_b (b:List UInt8) (s1:Int×Int):Tree:=
.sp 10 (decide (s1.2≥(0:Int))) (
.int 14 (IntKind.u64.wrap (s1.1*2 ^ 8)) ((s1.1*256) % 18446744073709551616) (.elem 17 (b.map byteE.f) byteE b s1.2 (fun e1=> .int 19 (IntKind.u64.wrap (e1.toNat:Int)) ((e1.toNat:Int)) (.int 20 (IntKind.u64.wrap ((BitVec.ofInt IntKind.u64.bits ((s1.1*256) % 18446744073709551616) ||| BitVec.ofInt IntKind.u64.bits (e1.toNat:Int)).toNat)) (orI ((s1.1*256) % 18446744073709551616) (e1.toNat:Int)) (.int 12 (IntKind.i64.wrap (s1.2 - 1)) (s1.2 - 1) (.leaf ⟨[0,3,4],[]⟩ [] .normal (some (TLittle_l1_e b (orI ((s1.1*256) % 18446744073709551616) (e1.toNat:Int),s1.2 - 1))))))))) (
.leaf ⟨[3],[]⟩ [] (.exit 0) (some (TLittle_l1_x s1.1).2))
noncomputable def TLittle (b:List UInt8):Tree:=
.int 6 ((b.map byteE.f).length:Int) (b.length:Int) (.int 8 (IntKind.i64.wrap ((if (8:Int)<((b.length:Int):Int) then (8:Int) else ((b.length:Int):Int)) - 1)) ((if (8:Int)<((b.length:Int):Int) then (8:Int) else ((b.length:Int):Int)) - 1) (.loop ⟨[0,3,4],[]⟩ [] (some (TLittle_l1_e b (0,(if (8:Int)<((b.length:Int):Int) then (8:Int) else ((b.length:Int):Int)) - 1))) (TLittle_l1_e b) (TLittle_l1_x) noX (0,(if (8:Int)<((b.length:Int):Int) then (8:Int) else ((b.length:Int):Int)) - 1) (TLittle_l1_b b) (fun (x1:Int)=> .leaf ⟨[0],[]⟩ [] .ret (some ([(0,vn .u64 x1)],[]))) (fun _=> .stuck)))

theorem TLittle_chk (b:List UInt8):fnC DP Γ0 Δ0 Tryd.f41 [vl (b.map byteE.f)] [] (TLittle b)=TLittle b:=by kernel_rfl

noncomputable def TGet_l1_e (b:List UInt8) (s1:Int×Int):St:=([(5,vn .u64 s1.2),(8,vl (b.map byteE.f)),(9,vi (b.length:Int)),(10,vi s1.1)],[])
noncomputable def TGet_l1_x (x1:Int×Int×Int):AE×St:=(.ret,([(2,vn .u64 x1.1),(3,vi x1.2.1),(4,vi x1.2.2)],[]))
noncomputable def TGet_l1_x' (y1:Unit):AE×St:=((.exit 0),([],[]))
noncomputable def TGet_l1_b (b:List UInt8) (s1:Int×Int):Tree:=
.sp 11 (decide (s1.1<(b.length:Int))) (
.elem 13 (b.map byteE.f) byteE b s1.1 (fun e1=> .sp 16 (s1.1 == (9:Int)) (
.sp 19 (decide ((e1.toNat:Int)>(1:Int))) (
.leaf ⟨[2,3,4],[]⟩ [] .ret (some (TGet_l1_x (0,0,2)).2)) (
.int 23 (IntKind.u8.wrap ((BitVec.ofInt IntKind.u8.bits (e1.toNat:Int) &&& BitVec.ofInt IntKind.u8.bits 127).toNat)) ((e1.toNat:Int) % 128) (.int 24 (IntKind.u64.wrap ((e1.toNat:Int) % 128)) ((e1.toNat:Int) % 128) (.int 26 (IntKind.i64.wrap (7*s1.1)) (7*s1.1) (.val (some 27) ((binA DP .shl 28 (vn .u64 ((e1.toNat:Int) % 128)) (vi (7*s1.1))).map (fun v=>(v,([]:List Box)))=some (vn .u64 (IntKind.u64.wrap (((e1.toNat:Int) % 128)*2 ^ (min (Int.toNat (7*s1.1)) 64))),[])) (vn .u64 (IntKind.u64.wrap (((e1.toNat:Int) % 128)*2 ^ (min (Int.toNat (7*s1.1)) 64)))) [] (.int 28 (IntKind.u64.wrap ((BitVec.ofInt IntKind.u64.bits s1.2 ||| BitVec.ofInt IntKind.u64.bits (IntKind.u64.wrap (((e1.toNat:Int) % 128)*2 ^ (min (Int.toNat (7*s1.1)) 64)))).toNat)) (orI s1.2 (IntKind.u64.wrap (((e1.toNat:Int) % 128)*2 ^ (min (Int.toNat (7*s1.1)) 64)))) (.sp 30 (decide ((e1.toNat:Int)<(128:Int))) (
.sp 32 ((e1.toNat:Int) == (0:Int)) (
.sp 35 (decide (s1.1>(0:Int))) (
.leaf ⟨[2,3,4],[]⟩ [] .ret (some (TGet_l1_x (0,0,2)).2)) (
.int 39 (IntKind.i64.wrap (s1.1+1)) (s1.1+1) (.leaf ⟨[2,3,4],[]⟩ [] .ret (some (TGet_l1_x (orI s1.2 (IntKind.u64.wrap (((e1.toNat:Int) % 128)*2 ^ (min (Int.toNat (7*s1.1)) 64))),s1.1+1,0)).2)))) (
.int 39 (IntKind.i64.wrap (s1.1+1)) (s1.1+1) (.leaf ⟨[2,3,4],[]⟩ [] .ret (some (TGet_l1_x (orI s1.2 (IntKind.u64.wrap (((e1.toNat:Int) % 128)*2 ^ (min (Int.toNat (7*s1.1)) 64))),s1.1+1,0)).2)))) (
.int 40 (IntKind.i64.wrap (s1.1+1)) (s1.1+1) (.leaf ⟨[5,8,9,10],[]⟩ [] .normal (some (TGet_l1_e b (s1.1+1,orI s1.2 (IntKind.u64.wrap (((e1.toNat:Int) % 128)*2 ^ (min (Int.toNat (7*s1.1)) 64))))))))))))))) (
.int 23 (IntKind.u8.wrap ((BitVec.ofInt IntKind.u8.bits (e1.toNat:Int) &&& BitVec.ofInt IntKind.u8.bits 127).toNat)) ((e1.toNat:Int) % 128) (.int 24 (IntKind.u64.wrap ((e1.toNat:Int) % 128)) ((e1.toNat:Int) % 128) (.int 26 (IntKind.i64.wrap (7*s1.1)) (7*s1.1) (.val (some 27) ((binA DP .shl 28 (vn .u64 ((e1.toNat:Int) % 128)) (vi (7*s1.1))).map (fun v=>(v,([]:List Box)))=some (vn .u64 (IntKind.u64.wrap (((e1.toNat:Int) % 128)*2 ^ (min (Int.toNat (7*s1.1)) 64))),[])) (vn .u64 (IntKind.u64.wrap (((e1.toNat:Int) % 128)*2 ^ (min (Int.toNat (7*s1.1)) 64)))) [] (.int 28 (IntKind.u64.wrap ((BitVec.ofInt IntKind.u64.bits s1.2 ||| BitVec.ofInt IntKind.u64.bits (IntKind.u64.wrap (((e1.toNat:Int) % 128)*2 ^ (min (Int.toNat (7*s1.1)) 64)))).toNat)) (orI s1.2 (IntKind.u64.wrap (((e1.toNat:Int) % 128)*2 ^ (min (Int.toNat (7*s1.1)) 64)))) (.sp 30 (decide ((e1.toNat:Int)<(128:Int))) (
.sp 32 ((e1.toNat:Int) == (0:Int)) (
.sp 35 (decide (s1.1>(0:Int))) (
.leaf ⟨[2,3,4],[]⟩ [] .ret (some (TGet_l1_x (0,0,2)).2)) (
.int 39 (IntKind.i64.wrap (s1.1+1)) (s1.1+1) (.leaf ⟨[2,3,4],[]⟩ [] .ret (some (TGet_l1_x (orI s1.2 (IntKind.u64.wrap (((e1.toNat:Int) % 128)*2 ^ (min (Int.toNat (7*s1.1)) 64))),s1.1+1,0)).2)))) (
.int 39 (IntKind.i64.wrap (s1.1+1)) (s1.1+1) (.leaf ⟨[2,3,4],[]⟩ [] .ret (some (TGet_l1_x (orI s1.2 (IntKind.u64.wrap (((e1.toNat:Int) % 128)*2 ^ (min (Int.toNat (7*s1.1)) 64))),s1.1+1,0)).2)))) (
.int 40 (IntKind.i64.wrap (s1.1+1)) (s1.1+1) (.leaf ⟨[5,8,9,10],[]⟩ [] .normal (some (TGet_l1_e b (s1.1+1,orI s1.2 (IntKind.u64.wrap (((e1.toNat:Int) % 128)*2 ^ (min (Int.toNat (7*s1.1)) 64)))))))))))))))) (
.leaf ⟨[],[]⟩ [] (.exit 0) (some (TGet_l1_x' ()).2))
noncomputable def TGet (b:List UInt8):Tree:=
.int 9 ((b.map byteE.f).length:Int) (b.length:Int) (.loop ⟨[5,8,9,10],[]⟩ [] (some (TGet_l1_e b (0,0))) (TGet_l1_e b) (TGet_l1_x) (TGet_l1_x') (0,0) (TGet_l1_b b) (fun (x1:Int×Int×Int)=> .leaf ⟨[0],[]⟩ [] .ret (some ([(0, .tup [vn .u64 x1.1,vi x1.2.1,vi x1.2.2])],[]))) (fun (y1:Unit)=> .leaf ⟨[0],[]⟩ [] .ret (some ([(0, .tup [vn .u64 0,vi 0,vi 8])],[]))))

theorem TGet_chk (b:List UInt8):fnC DP Γ0 Δ0 Tryd.f91 [vl (b.map byteE.f)] [] (TGet b)=TGet b:=by kernel_rfl

end Go.Ax

namespace Go.Ax
open Go.Proofs Go.RowKit
set_option maxRecDepth 100000

theorem wp_int {d:Nat} {z y:Int} {k:Tree} {K:AE→St→Prop} (hz:z=y) (h:k.wp K):(Tree.int d z y k).wp K:=⟨hz,h⟩
theorem u8_of {x:Int} (h:0≤x∧x<256):(((UInt8.ofNat x.toNat).toNat:Nat):Int)=x:=by
 rw[UInt8.toNat_ofNat']
 omega
theorem src_one {x:Int} (h:0≤x∧x<256):(ASrc.row 1 [vn .u8 x]).ok byteE [UInt8.ofNat x.toNat]:=
 ⟨rfl,by show [vn .u8 x]= [vn .u8 (((UInt8.ofNat x.toNat).toNat:Nat):Int)]; rw[u8_of h]⟩
theorem or128 (n:Nat):orI ((n:Int) % 256) 128=((n % 128+128:Nat):Int):=by
 have key:∀ m:Fin 256,m.val ||| 128=m.val % 128+128:=by decide
 have:=key ⟨n % 256,by omega⟩
 unfold orI
 have h1:((n:Int) % 256).toNat=n % 256:=by omega
 rw[h1]
 change (((n % 256 ||| 128:Nat)):Int)=_
 rw[this,Nat.mod_mod_of_dvd n (by decide:128 ∣ 256)]

theorem putN_lt {n:Nat} (h:n<128):putN n= [UInt8.ofNat n]:=by rw[putN,dif_pos h]
theorem putN_ge {n:Nat} (h:¬n<128):putN n=UInt8.ofNat (n % 128+128)::putN (n / 128):=by rw[putN,dif_neg h]
theorem putN_len {n:Nat}:∀ {k:Nat},n<128 ^ (k+1)→(putN n).length≤k+1:=by
 induction n using Nat.strongRecOn with
 | _ n ih=>
  intro k hk
  by_cases h:n<128
  ·rw[putN_lt h]; simp
  ·rw[putN_ge h]
   cases k with
   | zero=>omega
   | succ k=>
    have:=ih (n / 128) (by omega) (k:=k) (by rw[Nat.div_lt_iff_lt_mul (by decide)]; rw[Nat.pow_succ] at hk; exact hk)
    simp only[List.length_cons]; omega
theorem putN_len64 {n:Nat} (h:n<18446744073709551616):(putN n).length≤10:=putN_len (k:=9) (by omega)

theorem putn_rounds:∀ (n:Nat) (L:List UInt8),n<18446744073709551616→((L.length+(putN n).length:Nat):Int)≤1000000000→∃ x:Int×List UInt8,Rounds TPut_n_l1_e TPut_n_l1_x noX (fun s=>(TPut_n_l1_b s).wp) (L,(n:Int)) (.inl x)∧(0≤x.1∧x.1<128)∧x.2++ [UInt8.ofNat x.1.toNat]=L++putN n∧((x.2.length+1:Nat):Int)≤1000000000:=by
 intro n
 induction n using Nat.strongRecOn with
 | _ n ih=>
  intro L hn hL
  by_cases h:n<128
  ·rw[putN_lt h] at hL ⊢
   refine ⟨((n:Int),L), .done (by intro e; cases e) ?_,by simp only; omega,by simp,by simpa using hL⟩
   unfold TPut_n_l1_b
   exact wp_sp (fun h'=>absurd (of_decide_eq_true h') (by simp only; omega)) (fun _=>wp_leaf rfl ⟨rfl,rfl⟩)
  ·rw[putN_ge h] at hL ⊢
   simp only[List.length_cons] at hL
   obtain ⟨x,hr,h1,h2,h3⟩:=ih (n / 128) (by omega) (L++ [UInt8.ofNat (n % 128+128)]) (by omega) (by simp only[List.length_append,List.length_singleton]; omega)
   refine ⟨x, .next ?_ hr,h1,by rw[h2]; simp,h3⟩
   unfold TPut_n_l1_b
   have e1:=or128 n
   refine wp_sp (fun _=>wp_int (wrap8 _) (wp_int (or8 (by simp only; omega) (by decide)) (wp_app (src_one (by simp only; omega)) rfl (by simp only[List.length_append,List.length_singleton]; omega) (wp_int (shr7 _) (wp_leaf rfl ⟨rfl,?_⟩))))) (fun h'=>absurd (of_decide_eq_false h') (by simp only; omega))
   simp only[e1,Int.toNat_natCast]
   rfl

theorem putr_rounds:∀ (n:Nat) (L:List UInt8),n<18446744073709551616→((L.length+(putN n).length:Nat):Int)≤1000000000→∃ x:Int×List UInt8,Rounds TPut_r_l1_e TPut_r_l1_x noX (fun s=>(TPut_r_l1_b s).wp) (L,(n:Int)) (.inl x)∧(0≤x.1∧x.1<128)∧x.2++ [UInt8.ofNat x.1.toNat]=L++putN n∧((x.2.length+1:Nat):Int)≤1000000000:=by
 intro n
 induction n using Nat.strongRecOn with
 | _ n ih=>
  intro L hn hL
  by_cases h:n<128
  ·rw[putN_lt h] at hL ⊢
   refine ⟨((n:Int),L), .done (by intro e; cases e) ?_,by simp only; omega,by simp,by simpa using hL⟩
   unfold TPut_r_l1_b
   exact wp_sp (fun h'=>absurd (of_decide_eq_true h') (by simp only; omega)) (fun _=>wp_leaf rfl ⟨rfl,rfl⟩)
  ·rw[putN_ge h] at hL ⊢
   simp only[List.length_cons] at hL
   obtain ⟨x,hr,h1,h2,h3⟩:=ih (n / 128) (by omega) (L++ [UInt8.ofNat (n % 128+128)]) (by omega) (by simp only[List.length_append,List.length_singleton]; omega)
   refine ⟨x, .next ?_ hr,h1,by rw[h2]; simp,h3⟩
   unfold TPut_r_l1_b
   have e1:=or128 n
   refine wp_sp (fun _=>wp_int (wrap8 _) (wp_int (or8 (by simp only; omega) (by decide)) (wp_app (src_one (by simp only; omega)) rfl (by simp only[List.length_append,List.length_singleton]; omega) (wp_int (shr7 _) (wp_leaf rfl ⟨rfl,?_⟩))))) (fun h'=>absurd (of_decide_eq_false h') (by simp only; omega))
   simp only[e1,Int.toNat_natCast]
   rfl

def RowR (pre:List AV) (post:List AV) (M:List UInt8):RSpec:=fun args B r B'=>
 (args=pre++nilS::post∧B= []∧r= .rs 0 0 1 0 M.length∧B'= [byteE.bx 0 M]) ∨
 ∃ L:List UInt8,((L.length+M.length:Nat):Int)≤1000000000∧args=pre++ .rs 0 0 1 0 L.length::post∧B= [byteE.bx 0 L]∧r= .rs 1 0 1 0 (L++M).length∧B'= [byteE.bx 1 [],byteE.bx 0 (L++M)]
def OPut:RSpec:=fun args B r B'=>∃ n:Int,(0≤n∧n<18446744073709551616)∧RowR [] [vn .u64 n] (putI n) args B r B'

theorem SPut:SoundR DP iPut OPut:=sound_genT mixedD Γ0_ok Δ0_ok hfPut hePut hbPut (by
 rintro args B r B' ⟨n,hn,⟨rfl,rfl,rfl,rfl⟩ | ⟨L,hL,rfl,rfl,rfl,rfl⟩⟩
 ·refine ⟨by rw[hnPut]; rfl,_,TPut_n_chk n,?_⟩
  unfold TPut_n
  obtain ⟨m,rfl⟩:=Int.eq_ofNat_of_zero_le hn.1
  obtain ⟨x,hr,h1,h2,h3⟩:=putn_rounds m [] (by omega) (by have:=putN_len64 (n:=m) (by omega); simp only[List.length_nil]; omega)
  refine wp_loop x rfl hr (wp_int (wrap8 _) (wp_app (src_one (by omega)) rfl (by simpa using h3) (wp_leaf rfl ?_)))
  have e:x.2++ [UInt8.ofNat (x.1 % 256).toNat]=putI (m:Int):=by
   rw[show x.1 % 256=x.1 by omega,h2,putI,Int.toNat_natCast]; rfl
  rw[e]
  exact ⟨rfl,rfl⟩
 ·refine ⟨by rw[hnPut]; rfl,_,TPut_r_chk L n,?_⟩
  unfold TPut_r
  obtain ⟨m,rfl⟩:=Int.eq_ofNat_of_zero_le hn.1
  obtain ⟨x,hr,h1,h2,h3⟩:=putr_rounds m L (by omega) (by simpa [putI] using hL)
  refine wp_loop x rfl hr (wp_int (wrap8 _) (wp_app (src_one (by omega)) rfl (by simpa using h3) (wp_leaf rfl ?_)))
  have e:x.2++ [UInt8.ofNat (x.1 % 256).toNat]=L++putI (m:Int):=by
   rw[show x.1 % 256=x.1 by omega,h2,putI,Int.toNat_natCast]
  rw[e]
  exact ⟨rfl,rfl⟩)

theorem leN_len (n k:Nat):(leN n k).length=k:=by
 induction k generalizing n with
 | zero=>rfl
 | succ k ih=>rw[leN,List.length_cons,ih]
theorem leI_len (n:Int) (k:Int):(leI n k).length=k.toNat:=leN_len _ _

theorem mod256_b (x:Int):0≤x % 256∧x % 256<256:=by omega
theorem litn_rounds (k:Int) (hk:k≤100) (j:Nat):∀ (i:Int) (n:Nat) (L:List UInt8),0≤i→i+j=k→n<18446744073709551616→((L.length+j:Nat):Int)≤1000000000→Rounds (TLit_n_l1_e k) TLit_n_l1_x noX (fun s=>(TLit_n_l1_b k s).wp) (L,(n:Int),i) (.inl (L++leN n j)):=by
 induction j with
 | zero=>
  intro i n L h0 h1 hn hL
  refine .done (by intro e; cases e) ?_
  unfold TLit_n_l1_b
  refine wp_sp (fun h'=>absurd (of_decide_eq_true h') (by simp only; omega)) (fun _=>wp_leaf rfl ⟨rfl,?_⟩)
  simp only[leN,List.append_nil]
 | succ j ih=>
  intro i n L h0 h1 hn hL
  have hr:=ih (i+1) (n / 256) (L++ [UInt8.ofNat (n % 256)]) (by omega) (by omega) (by omega) (by simp only[List.length_append,List.length_singleton]; omega)
  have e2:L++leN n (j+1)=(L++ [UInt8.ofNat (n % 256)])++leN (n / 256) j:=by rw[leN,List.append_assoc]; rfl
  rw[e2]
  refine .next ?_ hr
  unfold TLit_n_l1_b
  refine wp_sp (fun _=>wp_int (wrap8 _) (wp_app (src_one (mod256_b _)) rfl (by simp only[List.length_append,List.length_singleton]; omega) (wp_int (shr8 _) (wp_i64 (by simp only; omega) (wp_leaf rfl ⟨rfl,?_⟩))))) (fun h'=>absurd (of_decide_eq_false h') (by simp only; omega))
  have e:((n:Int) % 256).toNat=n % 256:=by omega
  have e3:(n:Int) / 256=((n / 256:Nat):Int):=by omega
  simp only[e,e3]
theorem litr_rounds (k:Int) (hk:k≤100) (j:Nat):∀ (i:Int) (n:Nat) (L:List UInt8),0≤i→i+j=k→n<18446744073709551616→((L.length+j:Nat):Int)≤1000000000→Rounds (TLit_r_l1_e k) TLit_r_l1_x noX (fun s=>(TLit_r_l1_b k s).wp) (L,(n:Int),i) (.inl (L++leN n j)):=by
 induction j with
 | zero=>
  intro i n L h0 h1 hn hL
  refine .done (by intro e; cases e) ?_
  unfold TLit_r_l1_b
  refine wp_sp (fun h'=>absurd (of_decide_eq_true h') (by simp only; omega)) (fun _=>wp_leaf rfl ⟨rfl,?_⟩)
  simp only[leN,List.append_nil]
 | succ j ih=>
  intro i n L h0 h1 hn hL
  have hr:=ih (i+1) (n / 256) (L++ [UInt8.ofNat (n % 256)]) (by omega) (by omega) (by omega) (by simp only[List.length_append,List.length_singleton]; omega)
  have e2:L++leN n (j+1)=(L++ [UInt8.ofNat (n % 256)])++leN (n / 256) j:=by rw[leN,List.append_assoc]; rfl
  rw[e2]
  refine .next ?_ hr
  unfold TLit_r_l1_b
  refine wp_sp (fun _=>wp_int (wrap8 _) (wp_app (src_one (mod256_b _)) rfl (by simp only[List.length_append,List.length_singleton]; omega) (wp_int (shr8 _) (wp_i64 (by simp only; omega) (wp_leaf rfl ⟨rfl,?_⟩))))) (fun h'=>absurd (of_decide_eq_false h') (by simp only; omega))
  have e:((n:Int) % 256).toNat=n % 256:=by omega
  have e3:(n:Int) / 256=((n / 256:Nat):Int):=by omega
  simp only[e,e3]
def OLit:RSpec:=fun args B r B'=>∃ n k:Int,(0≤n∧n<18446744073709551616)∧(0≤k∧k≤8)∧RowR [] [vn .u64 n,vi k] (leI n k) args B r B'
theorem SLit:SoundR DP iLit OLit:=sound_genT mixedD Γ0_ok Δ0_ok hfLit heLit hbLit (by
 rintro args B r B' ⟨n,k,hn,hk,⟨rfl,rfl,rfl,rfl⟩ | ⟨L,hL,rfl,rfl,rfl,rfl⟩⟩
 ·refine ⟨by rw[hnLit]; rfl,_,TLit_n_chk n k,?_⟩
  unfold TLit_n
  obtain ⟨m,rfl⟩:=Int.eq_ofNat_of_zero_le hn.1
  have hr:=litn_rounds k (by omega) k.toNat 0 m [] (by omega) (by omega) (by omega) (by simp only[List.length_nil]; omega)
  refine wp_loop (leI m k) rfl (by simpa [leI] using hr) (wp_leaf rfl ⟨rfl,rfl⟩)
 ·refine ⟨by rw[hnLit]; rfl,_,TLit_r_chk L n k,?_⟩
  unfold TLit_r
  obtain ⟨m,rfl⟩:=Int.eq_ofNat_of_zero_le hn.1
  rw[leI_len] at hL
  have hr:=litr_rounds k (by omega) k.toNat 0 m L (by omega) (by omega) (by omega) hL
  refine wp_loop (L++leI m k) rfl (by simpa [leI] using hr) (wp_leaf rfl ⟨rfl,rfl⟩))

theorem div16_b {x:Int} (h:0≤x∧x<4294967296):0≤x / 16∧x / 16<4294967296:=by omega
theorem mod16_b (x:Int):0≤x % 16∧x % 16<16:=by omega

theorem get_snoc {α:Type} {l:List α} {i:Nat} (h:i<l.length):∃ a,l[i]? = some a∧l.take (i+1)=l.take i++ [a]:=by
 refine ⟨l[i],List.getElem?_eq_getElem h,?_⟩
 rw[List.take_add_one,List.getElem?_eq_getElem h]; rfl

theorem more_rounds (b:List UInt8) (hb:b.length≤1000000000) (r0:Int) (h0:0≤r0∧r0<4294967296):∀ (j i:Nat),i+j=b.length→Rounds (TMore_l1_e b) TMore_l1_x noX (fun s=>(TMore_l1_b b s).wp) ((i:Int),(b.take i).foldl stepI r0) (.inl (b.foldl stepI r0))
 | 0,i,hi=>by
  refine .done (by intro e; cases e) ?_
  unfold TMore_l1_b
  refine wp_sp (fun h'=>absurd (of_decide_eq_true h') (by simp only; omega)) (fun _=>wp_leaf rfl ⟨rfl,?_⟩)
  rw[List.take_of_length_le (by omega)]
 | j+1,i,hi=>by
  obtain ⟨a,ha,ht⟩:=get_snoc (l:=b) (i:=i) (by omega)
  refine .next ?_ (more_rounds b hb r0 h0 j (i+1) (by omega))
  have hr:=fold_b h0 (b.take i)
  have hx:=xorI_32 hr (by have:=u8_b a; omega:0≤(a.toNat:Int)∧(a.toNat:Int)<4294967296)
  have hh:=halfI_b hx
  unfold TMore_l1_b
  refine wp_sp (fun _=>wp_elem a (by simp only; omega) (by simpa using ha) (wp_int (wrap32id (by have:=u8_b a; omega)) (wp_int (xor32 hr (by have:=u8_b a; omega)) (wp_int (shr4 _) (wp_int (and15 hx) (wp_val (by rw[table_at (mod16_b _)]; rfl) (wp_int (xor32 (div16_b hx) (hA_b _)) (wp_int (shr4 _) (wp_int (and15 hh) (wp_val (by rw[table_at (mod16_b _)]; rfl) (wp_int (xor32 (div16_b hh) (hA_b _)) (wp_i64 (by simp only; omega) (wp_leaf rfl ⟨rfl,?_⟩))))))))))))) (fun h'=>absurd (of_decide_eq_false h') (by simp only; omega))
  rw[ht,List.foldl_append]
  rfl
theorem morer_rounds (b:List UInt8) (hb:b.length≤1000000000) (r0:Int) (h0:0≤r0∧r0<4294967296):∀ (j i:Nat),i+j=b.length→Rounds (TMoreR_l1_e b) (TMoreR_l1_x b) noX (fun s=>(TMoreR_l1_b b s).wp) ((i:Int),(b.take i).foldl stepI r0) (.inl (b.foldl stepI r0))
 | 0,i,hi=>by
  refine .done (by intro e; cases e) ?_
  unfold TMoreR_l1_b
  refine wp_sp (fun h'=>absurd (of_decide_eq_true h') (by simp only; omega)) (fun _=>wp_leaf rfl ⟨rfl,?_⟩)
  rw[List.take_of_length_le (by omega)]
 | j+1,i,hi=>by
  obtain ⟨a,ha,ht⟩:=get_snoc (l:=b) (i:=i) (by omega)
  refine .next ?_ (morer_rounds b hb r0 h0 j (i+1) (by omega))
  have hr:=fold_b h0 (b.take i)
  have hx:=xorI_32 hr (by have:=u8_b a; omega:0≤(a.toNat:Int)∧(a.toNat:Int)<4294967296)
  have hh:=halfI_b hx
  unfold TMoreR_l1_b
  refine wp_sp (fun _=>wp_ridx (by simp only; omega) (by simp only; omega) (wp_rload a (by simp only; omega) rfl (by simpa using ha) (wp_int (wrap32id (by have:=u8_b a; omega)) (wp_int (xor32 hr (by have:=u8_b a; omega)) (wp_int (shr4 _) (wp_int (and15 hx) (wp_val (by rw[table_at (mod16_b _)]; rfl) (wp_int (xor32 (div16_b hx) (hA_b _)) (wp_int (shr4 _) (wp_int (and15 hh) (wp_val (by rw[table_at (mod16_b _)]; rfl) (wp_int (xor32 (div16_b hh) (hA_b _)) (wp_i64 (by simp only; omega) (wp_leaf rfl ⟨rfl,?_⟩)))))))))))))) (fun h'=>absurd (of_decide_eq_false h') (by simp only; omega))
  rw[ht,List.foldl_append]
  rfl

def RMore:List AV→AV→Prop:=fun args r=>∃ (s:Int) (b:List UInt8),(0≤s∧s<4294967296)∧b.length≤1000000000∧args= [vn .u32 s,vl (b.map byteE.f)]∧r=vn .u32 (moreI s b)
noncomputable def gMore:=relG RMore
theorem SMore:SoundF DP iMore (.pure gMore):=sound_pureT mixedD Γ0_ok Δ0_ok hfMore heMore hbMore (by
 rintro args r ⟨s,b,hs,hb,rfl,rfl⟩
 refine ⟨rfl,rfl,_,TMore_chk s b,?_⟩
 unfold TMore
 have hr:=more_rounds b hb (4294967295 - s) (by omega) b.length 0 (by omega)
 have hf:=fold_b (r:=4294967295 - s) (by omega) b
 exact wp_int (comp32 hs) (wp_len (wp_loop _ rfl hr (wp_int (comp32 hf) (wp_leaf rfl (.p _))))))
def OMoreR:RSpec:=fun args B r B'=>∃ (s:Int) (L:List UInt8),(0≤s∧s<4294967296)∧L.length≤1000000000∧args= [vn .u32 s, .rs 0 0 1 0 L.length]∧B= [byteE.bx 0 L]∧r=vn .u32 (moreI s L)∧B'=B
theorem SMoreR:SoundR DP iMore OMoreR:=sound_genT mixedD Γ0_ok Δ0_ok hfMore heMore hbMore (by
 rintro args B r B' ⟨s,b,hs,hb,rfl,rfl,rfl,rfl⟩
 refine ⟨by rw[hnMore]; rfl,_,TMoreR_chk s b,?_⟩
 unfold TMoreR
 have hr:=morer_rounds b hb (4294967295 - s) (by omega) b.length 0 (by omega)
 have hf:=fold_b (r:=4294967295 - s) (by omega) b
 exact wp_int (comp32 hs) (wp_loop _ rfl hr (wp_int (comp32 hf) (wp_leaf rfl ⟨rfl,rfl⟩))))

def RMask:List AV→AV→Prop:=fun args r=>∃ (s:Int),(0≤s∧s<4294967296)∧args= [vn .u32 s]∧r=vn .u32 (maskI s)
noncomputable def gMask:=relG RMask
theorem SMask:SoundF DP iMask (.pure gMask):=sound_pureT mixedD Γ0_ok Δ0_ok hfMask heMask hbMask (by
 rintro args r ⟨s,hs,rfl,rfl⟩
 refine ⟨rfl,rfl,_,TMask_chk s,?_⟩
 unfold TMask
 exact wp_int (shr15 _) (wp_int (wrap32 _) (wp_int (or32 (by omega) (by omega)) (wp_int (wrap32 _) (wp_leaf rfl (.p _))))))

end Go.Ax
