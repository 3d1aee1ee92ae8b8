/- The keys of a map, sorted: by the library's proved summaries, laid at this seat. -/
import Derived.Test.YtbdfbdlfipcleaaGreatDoorG20
import Derived.Test.YtbdfbdlfipcleaaGreatDoorG25
import Derived.Test.YtbdfbdlfipcleaaGreatDoorG21
import Derived.Test.YtbdfbdlfipcleaaGreatDoorG22
set_option linter.unusedVariables false
set_option linter.unusedSimpArgs false
set_option linter.unusedSectionVars false
namespace Go.Proofs
open Go.RowKit Go.Maps Go.Sort Go.Shelf

def Tryz.keysA_ren:Go.Shelf.Ren:=⟨fun | 7=>35 | 10=>68 | n=>n,fun | 23=>69 | 26=>9 | 3=>78 | 28=>76 | 0=>0 | 27=>75 | 33=>97 | 4=>4 | n=>n,fun | n=>n⟩
theorem Tryz.keysA:Go.Proofs.SlLaysZ.n7 Tryz.prog Tryz.keysA_ren:={
 mixed:=by kernel_rfl
 f7:=⟨Tryz.f35.name,by decide,Tryz.func35.trans (congrArg some (by kernel_rfl))⟩
 f10:=⟨Tryz.f68.name,by decide,Tryz.func68.trans (congrArg some (by kernel_rfl))⟩
 t0:=Tryz.underlying0
 a0:=Tryz.isAgg0
 z0:=Tryz.sizeOf0
 v0:=Tryz.zeroValue0
 t4:=Tryz.underlying4
 a4:=Tryz.isAgg4
 z4:=Tryz.sizeOf4
 v4:=Tryz.zeroValue4
 t23:=Tryz.underlying69
 a23:=Tryz.isAgg69
 z23:=Tryz.sizeOf69
 v23:=Tryz.zeroValue69
 t26:=Tryz.underlying9
 a26:=Tryz.isAgg9
 z26:=Tryz.sizeOf9
 v26:=Tryz.zeroValue9
 t27:=Tryz.underlying75
 a27:=Tryz.isAgg75
 z27:=Tryz.sizeOf75
 v27:=Tryz.zeroValue75
 t28:=Tryz.underlying76
 a28:=Tryz.isAgg76
 z28:=Tryz.sizeOf76
 v28:=Tryz.zeroValue76
 t33:=Tryz.underlying97
 a33:=Tryz.isAgg97
 z33:=Tryz.sizeOf97
 v33:=Tryz.zeroValue97}
def Tryz.sortedA_ren:Go.Shelf.Ren:=⟨fun | 6=>34 | 8=>66 | 9=>67 | 11=>87 | 13=>89 | 12=>88 | 23=>104 | 24=>105 | 14=>95 | 15=>96 | 16=>97 | 17=>98 | 18=>99 | 19=>100 | 20=>101 | 21=>102 | 22=>103 | 25=>106 | 26=>107 | 27=>108 | 28=>109 | 29=>110 | 30=>111 | 31=>112 | n=>n,fun | 26=>9 | 28=>76 | 24=>35 | 0=>0 | 3=>3 | 37=>102 | 48=>130 | 50=>44 | 4=>4 | 40=>150 | 39=>149 | 45=>154 | 5=>5 | 9=>9 | 51=>160 | 55=>164 | 57=>166 | 58=>167 | 33=>97 | n=>n,fun | n=>n⟩
theorem Tryz.sortedA:Go.Proofs.SlLaysZ.n6 Tryz.prog Tryz.sortedA_ren:={
 mixed:=by kernel_rfl
 f6:=⟨Tryz.f34.name,by decide,Tryz.func34.trans (congrArg some (by kernel_rfl))⟩
 f8:=⟨Tryz.f66.name,by decide,Tryz.func66.trans (congrArg some (by kernel_rfl))⟩
 f11:=⟨Tryz.f87.name,by decide,Tryz.func87.trans (congrArg some (by kernel_rfl))⟩
 t0:=Tryz.underlying0
 a0:=Tryz.isAgg0
 z0:=Tryz.sizeOf0
 v0:=Tryz.zeroValue0
 t24:=Tryz.underlying35
 a24:=Tryz.isAgg35
 z24:=Tryz.sizeOf35
 v24:=Tryz.zeroValue35
 t26:=Tryz.underlying9
 a26:=Tryz.isAgg9
 z26:=Tryz.sizeOf9
 v26:=Tryz.zeroValue9
 t28:=Tryz.underlying76
 a28:=Tryz.isAgg76
 z28:=Tryz.sizeOf76
 v28:=Tryz.zeroValue76
 i26:=by kernel_rfl}
def Tryz.sortA_ren:Go.Shelf.Ren:=⟨fun | 6=>67 | 8=>89 | 9=>88 | 19=>104 | 20=>105 | 21=>95 | 22=>96 | 23=>97 | 24=>98 | 25=>99 | 26=>100 | 27=>101 | 28=>102 | 29=>103 | 36=>106 | 31=>107 | 32=>108 | 37=>109 | 38=>110 | 39=>111 | 41=>112 | n=>n,fun | 27=>35 | 29=>9 | 3=>3 | 32=>102 | 26=>35 | 0=>0 | 44=>130 | 46=>44 | 4=>4 | 36=>150 | 35=>149 | 41=>154 | 5=>5 | 9=>9 | 53=>160 | 57=>164 | 63=>166 | 64=>167 | n=>n,fun | n=>n⟩
theorem Tryz.sortA:Go.Proofs.SlLaysM.n6 Tryz.prog Tryz.sortA_ren:={
 mixed:=by kernel_rfl
 f6:=⟨Tryz.f67.name,by decide,Tryz.func67.trans (congrArg some (by kernel_rfl))⟩
 f8:=Tryz.func89.trans (congrArg some (by kernel_rfl))
 f9:=⟨Tryz.f88.name,by decide,Tryz.func88.trans (congrArg some (by kernel_rfl))⟩
 f19:=Tryz.func104.trans (congrArg some (by kernel_rfl))
 f20:=Tryz.func105.trans (congrArg some (by kernel_rfl))
 f21:=⟨Tryz.f95.name,by decide,Tryz.func95.trans (congrArg some (by kernel_rfl))⟩
 f22:=⟨Tryz.f96.name,by decide,Tryz.func96.trans (congrArg some (by kernel_rfl))⟩
 f23:=⟨Tryz.f97.name,by decide,Tryz.func97.trans (congrArg some (by kernel_rfl))⟩
 f24:=⟨Tryz.f98.name,by decide,Tryz.func98.trans (congrArg some (by kernel_rfl))⟩
 f25:=⟨Tryz.f99.name,by decide,Tryz.func99.trans (congrArg some (by kernel_rfl))⟩
 f26:=⟨Tryz.f100.name,by decide,Tryz.func100.trans (congrArg some (by kernel_rfl))⟩
 f27:=⟨Tryz.f101.name,by decide,Tryz.func101.trans (congrArg some (by kernel_rfl))⟩
 f28:=⟨Tryz.f102.name,by decide,Tryz.func102.trans (congrArg some (by kernel_rfl))⟩
 f29:=⟨Tryz.f103.name,by decide,Tryz.func103.trans (congrArg some (by kernel_rfl))⟩
 f31:=Tryz.func107.trans (congrArg some (by kernel_rfl))
 f32:=Tryz.func108.trans (congrArg some (by kernel_rfl))
 f36:=⟨Tryz.f106.name,by decide,Tryz.func106.trans (congrArg some (by kernel_rfl))⟩
 f37:=⟨Tryz.f109.name,by decide,Tryz.func109.trans (congrArg some (by kernel_rfl))⟩
 f38:=⟨Tryz.f110.name,by decide,Tryz.func110.trans (congrArg some (by kernel_rfl))⟩
 f39:=⟨Tryz.f111.name,by decide,Tryz.func111.trans (congrArg some (by kernel_rfl))⟩
 f41:=⟨Tryz.f112.name,by decide,Tryz.func112.trans (congrArg some (by kernel_rfl))⟩
 t0:=Tryz.underlying0
 a0:=Tryz.isAgg0
 z0:=Tryz.sizeOf0
 v0:=Tryz.zeroValue0
 t3:=Tryz.underlying3
 a3:=Tryz.isAgg3
 z3:=Tryz.sizeOf3
 v3:=Tryz.zeroValue3
 t4:=Tryz.underlying4
 a4:=Tryz.isAgg4
 z4:=Tryz.sizeOf4
 v4:=Tryz.zeroValue4
 t5:=Tryz.underlying5
 a5:=Tryz.isAgg5
 z5:=Tryz.sizeOf5
 v5:=Tryz.zeroValue5
 t9:=Tryz.underlying9
 a9:=Tryz.isAgg9
 z9:=Tryz.sizeOf9
 v9:=Tryz.zeroValue9
 t26:=Tryz.underlying35
 a26:=Tryz.isAgg35
 z26:=Tryz.sizeOf35
 v26:=Tryz.zeroValue35
 t27:=Tryz.underlying35
 a27:=Tryz.isAgg35
 z27:=Tryz.sizeOf35
 v27:=Tryz.zeroValue35
 t29:=Tryz.underlying9
 a29:=Tryz.isAgg9
 z29:=Tryz.sizeOf9
 v29:=Tryz.zeroValue9
 t32:=Tryz.underlying102
 a32:=Tryz.isAgg102
 z32:=Tryz.sizeOf102
 v32:=Tryz.zeroValue102
 t35:=Tryz.underlying149
 a35:=Tryz.isAgg149
 z35:=Tryz.sizeOf149
 v35:=Tryz.zeroValue149
 t36:=Tryz.underlying150
 a36:=Tryz.isAgg150
 z36:=Tryz.sizeOf150
 v36:=Tryz.zeroValue150
 t41:=Tryz.underlying154
 a41:=Tryz.isAgg154
 z41:=Tryz.sizeOf154
 v41:=Tryz.zeroValue154
 t44:=Tryz.underlying130
 a44:=Tryz.isAgg130
 z44:=Tryz.sizeOf130
 v44:=Tryz.zeroValue130
 t46:=Tryz.underlying44
 a46:=Tryz.isAgg44
 z46:=Tryz.sizeOf44
 v46:=Tryz.zeroValue44
 t53:=Tryz.underlying160
 a53:=Tryz.isAgg160
 z53:=Tryz.sizeOf160
 v53:=Tryz.zeroValue160
 t57:=Tryz.underlying164
 a57:=Tryz.isAgg164
 z57:=Tryz.sizeOf164
 v57:=Tryz.zeroValue164
 t63:=Tryz.underlying166
 a63:=Tryz.isAgg166
 z63:=Tryz.sizeOf166
 v63:=Tryz.zeroValue166
 t64:=Tryz.underlying167
 a64:=Tryz.isAgg167
 z64:=Tryz.sizeOf167
 v64:=Tryz.zeroValue167}

theorem Tryz.sortsA (m:Nat):AnyZ.SortsIn Tryz.prog Tryz.sortedA_ren Fence.wide m:=
 ⟨fun blk off cap ss W hH hblk hsz=>callsIn_wide.2 (AnyM.slices_Sort_string Tryz.sortA blk off cap ss W hH hblk hsz),
  fun p cap W=>callsIn_wide.2 (AnyM.slices_Sort_string_none Tryz.sortA p cap W)⟩

theorem Tryz.sorted_run (cell b nn:Nat) (D0:DataW Unit) (R:Value→Option (DataW Unit×List MemPlace)) (w:World) (hcell:cell<w.heap.size) (hm:w.cell? ⟨cell,0,none⟩=some (.map (some b))) (hown:w.ownsMap Tryz.prog 9 R b nn D0) (hmax:Maps.size D0≤1000000):
  Calls Tryz.prog 34 #[.func (.func 68) #[] #[.pointer (some ⟨cell,0,none⟩)]] w fun e w'=>∃ (v:Value) (ss:List (List UInt8)),e= .returned v∧ss.Perm (strKeys D0) ∧
   w'.ownsRow w.heap.size 9 1 v ss.length ((ss.mergeSort (fun x y=>decide (x≤y))).map encStr)∧(v= .slice none 0 0↔ss= [])∧Below w.heap.size w w':=by
 refine (callsIn_wide (n:=5)).1 ?_
 have hseq:SeqGives Fence.wide 2 Tryz.prog 68 #[.pointer (some ⟨cell,0,none⟩)] encStr (fun ss=>ss.Perm (strKeys D0)) (Maps.size D0) w:=
  AnyZ.keys_gives (ρ:=Tryz.keysA_ren) {Tryz.keysA with} Fence.wide _ trivial rfl (by omega) cell b nn D0 _ hcell hm hown
 have hml:(1000000:Nat)≤maxLen:=by unfold maxLen; omega
 exact AnyZ.sorted_in Tryz.sortedA Fence.wide 5 trivial trivial trivial trivial rfl (by omega) (Tryz.sortsA _) (enters_of Tryz.func67 (by kernel_rfl) rfl) 68 #[.pointer (some ⟨cell,0,none⟩)] trivial (enters_of Tryz.func68 (by kernel_rfl) rfl) _ _ (by omega) (by omega) _ hseq

end Go.Proofs

namespace Go.Ax
open Go.Proofs Go.RowKit Go.Maps
set_option maxRecDepth 100000

def RSorted:RSpec:=fun args B r B'=>∃ (hid:List (Value×Value)) (ns:List ByteArray),hid.map (·.1)=strsV ns∧ns.length≤1000000∧(∀ n∈ns,n.size≤1000000000) ∧
 args= [.fn 68 [.ptr 1 0 0]]∧B= [.obj [] (mapP [] hid), .cells false 0 [.mp 0]]∧r=vl ((sortN ns).map nameE.f)∧B'=B

theorem SSorted:SoundR DP iSorted RSorted:=by
 rintro args B r B' ⟨hid,ns,hk,hn,hs,rfl,rfl,rfl,rfl⟩ F ρ w us hI hA
 obtain ⟨k,o,us0,hr0,⟨q1,es,clock,q2,q3,q4,q5⟩,hl0,_⟩:=hI.obox 0 _ _ rfl
 have hus0:us0= []:=by cases us0 with | nil=>rfl | cons=>simp at q4
 subst hus0
 obtain ⟨D0,hown,hp,hsz⟩:=map_owns (P:=DP) (k:=9) (by kernel_rfl) q2 q3 (by simpa using q5) hk hn hs
 rcases hI.box 1 _ _ _ rfl with ⟨_,h,_⟩ | ⟨k1,o1,us1,e,fr,h1,h2,h3,h4,h5⟩
 ·cases h
 obtain rfl:=hI.off0 1 _ _ _ _ rfl h1
 obtain ⟨u,g1,g2⟩:=h5 0 _ rfl
 obtain ⟨u0,rfl⟩:∃ u0,us= [u0]:=by
  have:=hA.1
  match us,this with
  | [u0],_=>exact ⟨u0,rfl⟩
 have hf:=hA.2 0 _ u0 rfl rfl
 cases hf with
 | fn _ _ vs hlen hcap=>
 obtain ⟨c0,rfl⟩:∃ c0,vs= [c0]:=by
  match vs,hlen with
  | [c0],_=>exact ⟨c0,rfl⟩
 have hc:=hcap 0 _ c0 rfl rfl
 cases hc with
 | ptr _ _ _ a hpo=>
 obtain ⟨k',o',e1,e2⟩:=(hpo.2 _ _ _ rfl).2 rfl
 rw[h1] at e1
 cases e1
 subst e2
 cases g2 with
 | mp _ r hmp=>
 obtain ⟨o2,e3⟩:=hmp.2 _ _ rfl
 rw[hr0] at e3
 cases e3
 have hcell:w.cell? ⟨k1,0,none⟩=some (.map (some k)):=by
  rw[cell_of h2]; exact g1
 refine .inl ⟨enter_run heSorted _ _,(Tryz.sorted_run k1 k _ D0 _ w (Array.getElem?_eq_some_iff.1 h2).1 hcell hown (by omega)).mono fun en w' hpost=>?_⟩
 obtain ⟨v,ss,rfl,hperm,hrow,hnil,hbelow⟩:=hpost
 have hsh:∀ k e n,w.shape? k=some (e,n)→w'.shape? k=some (e,n):=fun k e n h=>by
  have hk:k<w.heap.size:=by
   rcases Nat.lt_or_ge k w.heap.size with h' | h'
   ·exact h'
   ·unfold World.shape? at h
    rw[Array.getElem?_eq_none h'] at h
    cases h
  unfold World.shape? at h ⊢
  rw[hbelow.block k hk]
  exact h
 obtain ⟨s1,s2⟩:=stands hbelow.size hbelow.os hbelow.tape hbelow.output hsh (fun k hk=>hbelow.block k hk) hI
 have hsort:ss.mergeSort (fun x y=>decide (x≤y))=sortB (ns.map fun n=>n.data.toList):=mergeSort_of_perm (hperm.trans hp)
 have hslen:ss.length=(sortN ns).length:=by
  have:=congrArg List.length hsort
  simpa [sortN] using this
 rw[hsort] at hrow
 have hus:(sortB (ns.map fun n=>n.data.toList)).map encStr=(sortN ns).map Value.string:=by
  unfold sortN
  rw[List.map_map]
  exact List.map_congr_left fun l _=>rfl
 rw[hus] at hrow
 have hcells:(((sortN ns).map nameE.f).flatMap PV.cells)=(sortN ns).map fun n=>PV.v (.string n):=by
  induction sortN ns with
  | nil=>rfl
  | cons n l ih=>simp only[List.map_cons,List.flatMap_cons,ih]; rfl
 refine ⟨v,ρ,rfl,s2,s1, .p _ _ ?_⟩
 rcases hrow.2 with ⟨rfl,h0⟩ | ⟨g,cap,cur,rfl,hge,hg,hc1,hc2,hc3,hc4⟩
 ·rw[hslen] at h0
  rw[List.eq_nil_of_length_eq_zero h0]
  exact .nil none 0 (.inr rfl)
 ·rw[hslen]
  have:(sortN ns).length=((sortN ns).map nameE.f).length:=by simp
  rw[this]
  have hgl:g<w'.heap.size:=(Array.getElem?_eq_some_iff.1 hg).1
  refine .ls _ ⟨g,0,none⟩ cap ((sortN ns).map Value.string) rfl (fun ho=>?_) hgl (by simpa [←hslen] using hc1) (by rw[hcells]; simp) (fun j u hj=>?_) (fun j p u hj hu=>?_)
  ·have:=hI.ownlt g ho
   omega
  ·rw[Addr.add_lit,cell_of hg]
   rw[←hc4,List.getElem?_take] at hj
   split at hj
   ·simpa using hj
   ·cases hj
  ·rw[hcells,List.getElem?_map] at hj
   rw[List.getElem?_map] at hu
   cases hq:(sortN ns)[j]? with
   | none=>rw[hq] at hj; cases hj
   | some n=>
    rw[hq] at hj hu
    cases hj
    cases hu
    exact .v _

end Go.Ax

namespace Go.Ax
open Go.Proofs Go.RowKit
set_option maxRecDepth 100000

def RKeys:RSpec:=fun args B r B'=>∃ (hid:List (Value×Value)),args= [.mp 0]∧B= [.obj [] (mapP [] hid)]∧r= .fn iKeys1 [.ptr 1 0 0]∧B'= [.obj [] (mapP [] hid), .cells false 0 [.mp 0]]

theorem SKeys:SoundR DP iKeys RKeys:=sound_genT mixedD Γ0_ok Δ0_ok hfKeys heKeys hbKeys (by
 rintro args B r B' ⟨hid,rfl,rfl,rfl,rfl⟩
 exact ⟨by rw[hnKeys]; rfl,_,TKeys_chk hid,wp_leaf rfl ⟨rfl,rfl⟩⟩)

def ΔL:REnv:=fun f=>if f=iKeys then liftR RKeys else if f=iSorted then liftR RSorted else fun _ _ _ _=>False
theorem ΔL_ok:∀ f,SoundR DP f (ΔL f):=fun f=>by
 unfold ΔL
 split
 ·rename_i e; rw[e]; exact lift_sound SKeys
 split
 ·rename_i e; rw[e]; exact lift_sound SSorted
 ·exact .none f

theorem ΔL_keys:ΔL iKeys=liftR RKeys:=if_pos rfl
theorem ΔL_sorted:ΔL iSorted=liftR RSorted:=by unfold ΔL; rw[if_neg (by decide),if_pos rfl]

theorem dKeys (b0:Box) (hid:List (Value×Value)):ΔL iKeys [.mp 1] [b0, .obj [] (mapP [] hid)] (.fn iKeys1 [.ptr 2 0 0]) [b0, .obj [] (mapP [] hid), .cells false 0 [.mp 1]]:=by
 rw[ΔL_keys]
 exact ⟨_,_,_,_,⟨hid,rfl,rfl,rfl,rfl⟩,⟨[1],[0],[.obj [] (mapP [] hid)],[.obj [] (mapP [] hid)],[.cells false 0 [.mp 1]],rfl,rfl,rfl,rfl,⟨.objs rfl rfl,trivial⟩,⟨.objs rfl rfl, .cells rfl rfl rfl,trivial⟩,rfl,rfl,rfl⟩⟩

theorem dSorted (b0:Box) {hid:List (Value×Value)} {ns:List ByteArray} (h1:hid.map (·.1)=strsV ns) (h2:ns.length≤1000000) (h3:∀ n∈ns,n.size≤1000000000):
  ΔL iSorted [.fn iKeys1 [.ptr 2 0 0]] [b0, .obj [] (mapP [] hid), .cells false 0 [.mp 1]] (vl ((sortN ns).map nameE.f)) [b0, .obj [] (mapP [] hid), .cells false 0 [.mp 1]]:=by
 rw[ΔL_sorted]
 exact ⟨_,_,_,_,⟨hid,ns,h1,h2,h3,rfl,rfl,rfl,rfl⟩,⟨[1,2],[0,0],[.obj [] (mapP [] hid), .cells false 0 [.mp 1]],[.obj [] (mapP [] hid), .cells false 0 [.mp 1]],[],rfl,rfl,rfl,rfl,⟨.objs rfl rfl, .cells rfl rfl rfl,trivial⟩,⟨.objs rfl rfl, .cells rfl rfl rfl,trivial⟩,rfl,rfl,rfl⟩⟩

end Go.Ax

namespace Go.Ax
open Go.Proofs Go.RowKit
set_option maxRecDepth 100000

noncomputable def TList_d (ro:Int) (us:Int) (fu:Int) (hid:List (Value×Value)):Tree:=
.leaf ⟨[0],[(0,0,none),(1,0,none)]⟩ [] .ret (some ([(0,nilS)],[.cells false 0 ([vi ro,vi us, .mp 1,vb true,vi fu]), .obj [] (mapP [] hid)]))

theorem TList_d_chk (ro:Int) (us:Int) (fu:Int) (hid:List (Value×Value)):fnC DP ΓF ΔL Tryz.f11 [.ptr 0 0 0] [.cells false 0 ([vi ro,vi us, .mp 1,vb true,vi fu]), .obj [] (mapP [] hid)] (TList_d ro us fu hid)=TList_d ro us fu hid:=by kernel_rfl

noncomputable def TList_a (ro:Int) (us:Int) (fu:Int) (hid:List (Value×Value)) (ns:List ByteArray):Tree:=
.callr (some 15) (ΔL 35 [.mp 1] [.cells false 0 ([vi ro,vi us, .mp 1,vb false,vi fu]), .obj [] (mapP [] hid)] (.fn 68 [.ptr 2 0 0]) [.cells false 0 ([vi ro,vi us, .mp 1,vb false,vi fu]), .obj [] (mapP [] hid), .cells false 0 ([.mp 1])]) (.fn 68 [.ptr 2 0 0]) [.cells false 0 ([vi ro,vi us, .mp 1,vb false,vi fu]), .obj [] (mapP [] hid), .cells false 0 ([.mp 1])] (.callr (some 16) (ΔL 34 [.fn 68 [.ptr 2 0 0]] [.cells false 0 ([vi ro,vi us, .mp 1,vb false,vi fu]), .obj [] (mapP [] hid), .cells false 0 ([.mp 1])] (vl ((sortN ns).map nameE.f)) [.cells false 0 ([vi ro,vi us, .mp 1,vb false,vi fu]), .obj [] (mapP [] hid), .cells false 0 ([.mp 1])]) (vl ((sortN ns).map nameE.f)) [.cells false 0 ([vi ro,vi us, .mp 1,vb false,vi fu]), .obj [] (mapP [] hid), .cells false 0 ([.mp 1])] (.leaf ⟨[0],[(0,0,none),(1,0,none)]⟩ [] .ret (some ([(0,vl ((sortN ns).map nameE.f))],[.cells false 0 ([vi ro,vi us, .mp 1,vb false,vi fu]), .obj [] (mapP [] hid)]))))

theorem TList_a_chk (ro:Int) (us:Int) (fu:Int) (hid:List (Value×Value)) (ns:List ByteArray):fnC DP ΓF ΔL Tryz.f11 [.ptr 0 0 0] [.cells false 0 ([vi ro,vi us, .mp 1,vb false,vi fu]), .obj [] (mapP [] hid)] (TList_a ro us fu hid ns)=TList_a ro us fu hid ns:=by kernel_rfl

end Go.Ax

namespace Go.Ax
open Go.Proofs Go.RowKit
set_option maxRecDepth 100000

theorem SoundR.nills {P:Program} {f:Nat} {R:RSpec} (h:SoundR P f R):SoundR P f (fun args B r B'=>R args B nilS B'∧r= .p (.ls [])):=by
 rintro args B r B' ⟨h1,rfl⟩ F ρ w us hI hA
 refine (h args B _ B' h1 F ρ w us hI hA).mono fun en w' hp=>?_
 obtain ⟨x,ρ2,rfl,hI2,hE2,hv⟩:=hp
 refine ⟨x,ρ2,rfl,hI2,hE2,?_⟩
 obtain rfl:=hv.val
 exact .p _ _ (.nil Option.none 0 (.inr rfl))

theorem obAg {R:RSpec} {D D1:Dsk} {al:List AV} {y:AV} (hal:al.all isP=true) (hy:y.pl2=true) (hl:y.low 0=true) (hf:D.files.Perm D1.files)
  (h:∀ hid,hid.map (·.1)=strsV (D.files.map (·.name))→R (.ptr 0 0 0::al) (flatB D [] hid) y (flatB D1 [] hid)):diskR R (.op 0::al) [.obj [] (diskP D)] y [.obj [] (diskP D1)]:=by
 have hr:∀ f d,y.rv f d=y:=fun f d=>rv_low (n:=0) (fun j hj=>by omega) (fun j hj=>by omega) hl
 refine ⟨D,D1,[],D.files,[],[],[],al,y, .refl _,al_ok hal,by rw[al_id hal],rfl,fun hid hh=>⟨flatB D1 [] hid,?_,shut0 rfl rfl⟩,hf,hy,hl,(hr _ _).symm,rfl⟩
 rw[al_id hal,hr]
 exact h hid (by rw[hh]; simp[keysOf])

def OList:RSpec:=fun args B r B'=>∃ (D:Dsk),D.Ok∧D.files.length≤1000000∧args= [.op 0]∧B= [.obj [] (diskP D)]∧r=vl ((listD D).map nameE.f)∧B'=B

def RL:RSpec:=fun args B r B'=>GenT DP ΓF ΔL nList args B (r,B')
theorem SL0:SoundR DP iList RL:=sound_genT mixedD ΓF_ok ΔL_ok hfList heList hbList (fun _ _ _ _ h=>h)

theorem names_small {D:Dsk} (ok:D.Ok):∀ n∈D.files.map (·.name),n.size≤1000000000:=fun n hn=>by
 obtain ⟨x,hx,rfl⟩:=List.mem_map.1 hn
 have:=ok.nam x hx
 omega

theorem names_srt {D:Dsk} (ok:D.Ok):sortN (D.files.map (·.name))=D.files.map (·.name):=sortN_eq (by
 rw[List.pairwise_map]
 exact ok.srt)

theorem SList:SoundR DP iList OList:=((disk_lift SL0).or (disk_lift SL0).nills).mono (by
 rintro args B r B' ⟨D,ok,hlen,rfl,rfl,rfl,rfl⟩
 have h3:=names_small ok
 have h4:=names_srt ok
 obtain ⟨ro,us,fs,dn,fu⟩:=D
 cases dn with
 | true=>
  refine .inr ⟨obAg (al:= []) rfl rfl rfl (.refl _) (fun hid hh=>⟨by rw[hnList]; rfl,_,TList_d_chk ro us fu hid,?_⟩),rfl⟩
  unfold TList_d
  exact wp_leaf rfl ⟨rfl,rfl⟩
 | false=>
  refine .inl (obAg (al:= []) rfl rfl rfl (.refl _) (fun hid hh=>⟨by rw[hnList]; rfl,_,TList_a_chk ro us fu hid (fs.map (·.name)),?_⟩))
  unfold TList_a
  refine wp_callr (dKeys _ hid) (wp_callr (dSorted _ hh (by simpa using hlen) h3) (wp_leaf rfl ⟨?_,rfl⟩))
  show vl _=vl _
  rw[h4]; rfl)

def ΔC:REnv:=fun f=>if f=iList then liftR OList else fun _ _ _ _=>False
theorem ΔC_ok:∀ f,SoundR DP f (ΔC f):=fun f=>by
 unfold ΔC
 split
 ·rename_i e; rw[e]; exact lift_sound SList
 ·exact .none f
theorem ΔC_list:ΔC iList=liftR OList:=if_pos rfl

end Go.Ax

namespace Go.Ax
open Go.Proofs Go.RowKit
set_option maxRecDepth 100000

def orR (R1 R2:RSpec):RSpec:=fun a b c d=>R1 a b c d∨R2 a b c d
def takeR (R:RSpec):RSpec:=orR (liftR R) (sealR (liftR R))
theorem take_sound {f:Nat} {R:RSpec} (h:SoundR DP f R):SoundR DP f (takeR R):=(lift_sound h).or (lift_sound h).shutRow

section
variable {B : List Box} {b : Nat} {D D1 : Dsk} {nm nn : ByteArray} {e : Int}

theorem oNew (n:Int):liftR ONew [vi n] B (.op B.length) (B++ [.obj [] (diskP (newD n))]):=lift_new ⟨n,rfl,rfl,rfl,rfl⟩ rfl
theorem oCreate (ok:D.Ok) (hN:nm.size≤1000000000) (hb:B[b]? = some (.obj [] (diskP D))):liftR OCreate [.op b,vs nm] B (vi (createD D nm).2) (B.set b (.obj [] (diskP (createD D nm).1))):=
 lift_obj (R:=OCreate) ⟨D,nm,ok,hN,rfl,rfl,rfl,rfl⟩ hb rfl rfl
theorem oAppend {bs:List UInt8} (ok:D.Ok) (hN:bs.length≤1000000000) (hb:B[b]? = some (.obj [] (diskP D))):takeR OAppend [.op b,vs nm,vl (bs.map byteE.f)] B (vi (appendD D nm bs).2) (B.set b (.obj [] (diskP (appendD D nm bs).1))):=
 .inl (lift_obj (R:=OAppend) ⟨D,nm,bs,ok,hN,rfl,rfl,rfl,rfl⟩ hb rfl rfl)
theorem oSync (ok:D.Ok) (hb:B[b]? = some (.obj [] (diskP D))):liftR OSync [.op b,vs nm] B (vi (syncD D nm).2) (B.set b (.obj [] (diskP (syncD D nm).1))):=
 lift_obj (R:=OSync) ⟨D,nm,ok,rfl,rfl,rfl,rfl⟩ hb rfl rfl
theorem set_same {B:List Box} {b:Nat} {x:Box} (hb:B[b]? = some x):B.set b x=B:=by
 refine List.ext_getElem? fun j=>?_
 rw[List.getElem?_set]
 split
 ·rename_i e; subst e
  rw[if_pos (List.getElem?_eq_some_iff.1 hb).1]; exact hb.symm
 ·rfl
theorem oRead {ofs n:Int} (ok:D.Ok) (hb:B[b]? = some (.obj [] (diskP D))):
  liftR ORead [.op b,vs nm,vi ofs,vi n] B (.tup [.rs B.length 0 1 0 (readD D nm ofs n).1.length,vi (readD D nm ofs n).2]) (B++ [byteE.bx 0 (readD D nm ofs n).1]):=by
 have:=lift_objrow (R:=ORead) (xs:=(readD D nm ofs n).1.map byteE.f) ⟨D,nm,ofs,n,ok,rfl,rfl,rfl,rfl⟩ hb rfl
 rw[set_same hb] at this
 exact this
theorem oDown (ok:D.Ok) (hb:B[b]? = some (.obj [] (diskP D))):liftR ODown [.op b] B (vb D.down) B:=by
 have:=lift_obj (R:=ODown) (al:= []) ⟨D,ok,rfl,rfl,rfl,rfl⟩ hb rfl rfl
 rwa[set_same hb] at this
theorem oRoom (ok:D.Ok) (hb:B[b]? = some (.obj [] (diskP D))):liftR ORoom [.op b] B (vi (D.room - D.used)) B:=by
 have:=lift_obj (R:=ORoom) (al:= []) ⟨D,ok,rfl,rfl,rfl,rfl⟩ hb rfl rfl
 rwa[set_same hb] at this
theorem oSize (ok:D.Ok) (hb:B[b]? = some (.obj [] (diskP D))):liftR OSize [.op b,vs nm] B (.tup [vi (sizeD D nm).1,vi (sizeD D nm).2]) B:=by
 have:=lift_obj (R:=OSize) ⟨D,nm,ok,rfl,rfl,rfl,rfl⟩ hb rfl rfl
 rwa[set_same hb] at this
end
end Go.Ax

namespace Go.Ax
open Go.Proofs Go.RowKit
set_option maxRecDepth 100000

end Go.Ax

namespace Go.Ax
open Go.Proofs Go.RowKit
set_option maxRecDepth 100000

theorem wp_any {x:Tree} {K:AE→St→Prop} (h:x.wp K):(Tree.any x).wp K:=h
theorem putI_len (g:Int) (h:0≤g∧g<18446744073709551616):(putI g).length≤10:=putN_len64 (by omega)

end Go.Ax

namespace Go.Ax
open Go.Proofs Go.RowKit
set_option maxRecDepth 100000

section
variable {R : RSpec} {al : List AV} {B : List Box} {b l : Nat} {D D1 : Dsk} {p g p1 g1 n : Int} {o o1 : Bool} {y : PV} {s : ByteArray}
end

end Go.Ax

namespace Go.Ax
open Go.Proofs Go.RowKit
set_option maxRecDepth 100000

theorem numN_leN (n:Nat):∀ k:Nat,numN (leN n k)=n % 256 ^ k:=by
 intro k
 induction k generalizing n with
 | zero=>simp[leN,numN,Nat.mod_one]
 | succ k ih=>
  rw[leN,numN,ih,UInt8.toNat_ofNat']
  have e:256 ^ (k+1)=256*256 ^ k:=by rw[Nat.pow_succ,Nat.mul_comm]
  rw[e,Nat.mod_mul]
  show n % 256 % 256+_=_
  omega
theorem little_le {n:Int} (h:0≤n∧n<4294967296):littleI (leI n 4)=n:=by
 unfold littleI leI
 rw[List.take_of_length_le (by rw[leN_len]; decide),numN_leN,Nat.mod_eq_of_lt (by show n.toNat<4294967296; omega)]
 omega

theorem take_app {α:Type} {a b:List α} {n:Nat} (h:a.length=n):(a++b).take n=a:=by rw[←h]; simp
theorem next_rec {d:List UInt8} (hd:d.length≤1048576) (rest:List UInt8):nextI (recB d++rest)=(d,((d.length:Int)+12),0):=by
 have hl4:(leI (d.length:Int) 4).length=4:=leI_len _ _
 have hm4:(leI (maskI (crcI (leI (d.length:Int) 4))) 4).length=4:=leI_len _ _
 have hc4:(leI (maskI (crcI d)) 4).length=4:=leI_len _ _
 have e:recB d++rest=leI (d.length:Int) 4++(leI (maskI (crcI (leI (d.length:Int) 4))) 4++(leI (maskI (crcI d)) 4++(d++rest))):=by simp[recB]
 have t4:(recB d++rest).take 4=leI (d.length:Int) 4:=by rw[e]; exact take_app hl4
 have t8:((recB d++rest).take 8).drop 4=leI (maskI (crcI (leI (d.length:Int) 4))) 4:=by
  rw[e,←List.append_assoc,take_app (by rw[List.length_append,hl4,hm4])]
  rw[List.drop_append_of_le_length (by omega),List.drop_of_length_le (by omega),List.nil_append]
 have t12:((recB d++rest).take 12).drop 8=leI (maskI (crcI d)) 4:=by
  rw[e,←List.append_assoc,←List.append_assoc,take_app (by rw[List.length_append,List.length_append,hl4,hm4,hc4])]
  rw[List.drop_append_of_le_length (by rw[List.length_append]; omega),List.drop_of_length_le (by rw[List.length_append]; omega),List.nil_append]
 have l4:littleI ((recB d++rest).take 4)=(d.length:Int):=by rw[t4]; exact little_le (by omega)
 have m1:=maskI_b (crcI (leI (d.length:Int) 4))
 have m2:=maskI_b (crcI d)
 have tn:((recB d++rest).take (12+littleI ((recB d++rest).take 4)).toNat).drop 12=d:=by
  rw[l4,take_app (by rw[recB_len]; omega)]
  unfold recB
  rw[List.drop_append_of_le_length (by simp only[List.length_append,leI_len]; decide),List.drop_of_length_le (by simp only[List.length_append,leI_len]; decide),List.nil_append]
 unfold nextI
 rw[if_neg (by rw[List.length_append,recB_len]; omega),if_neg,if_neg (by rw[List.length_append,recB_len,l4]; omega),if_neg]
 ·rw[tn,l4]; simp only[Prod.mk.injEq,and_true,true_and]; omega
 ·rw[t12,tn,little_le m2]
  intro h; exact h (by omega)
 ·rw[t8,t4,little_le m1,little_le (by omega)]
  rintro (h | h)
  ·exact h (by omega)
  ·omega

theorem getA_put:∀ (n i a:Nat),i≤9→n<2 ^ (64 - 7*i)→(0<i→0<n)→getA i a (putN n)=(a+n*2 ^ (7*i),i+(putN n).length,0):=by
 intro n
 induction n using Nat.strongRecOn with
 | _ n ih=>
  intro i a hi hn hp
  have h9:i=9→n≤1:=fun e=>by
   subst e
   have:(2:Nat) ^ (64 - 7*9)=2:=by decide
   omega
  by_cases h:n<128
  ·rw[putN_lt h,getA,UInt8.toNat_ofNat']
   have e:n % 2 ^ 8=n:=Nat.mod_eq_of_lt (by omega)
   rw[e,if_neg (by rintro ⟨h1,h2⟩; have:=h9 h1; omega),if_pos h,if_neg (by rintro ⟨h1,h2⟩; have:=hp h2; omega)]
   rfl
  ·rw[putN_ge h,getA,UInt8.toNat_ofNat']
   have e:(n % 128+128) % 2 ^ 8=n % 128+128:=Nat.mod_eq_of_lt (by omega)
   have hi8:i+1≤9:=by
    rcases Nat.lt_or_ge i 9 with h1 | h1
    ·omega
    ·have:=h9 (by omega); omega
   have hpow:2 ^ (64 - 7*i)=128*2 ^ (64 - 7*(i+1)):=by
    rw[show 64 - 7*i=7+(64 - 7*(i+1)) by omega,Nat.pow_add]
   rw[e,if_neg (by omega),if_neg (by omega),ih (n / 128) (by omega) (i+1) _ hi8 (by rw[Nat.div_lt_iff_lt_mul (by decide)]; omega) (by omega)]
   have e2:(n % 128+128) % 128=n % 128:=by omega
   have e3:2 ^ (7*(i+1))=128*2 ^ (7*i):=by rw[show 7*(i+1)=7+7*i by omega,Nat.pow_add]
   rw[e2,e3,List.length_cons]
   have e4:n / 128*(128*2 ^ (7*i))=n / 128*128*2 ^ (7*i):=by rw[Nat.mul_assoc]
   have e5:n % 128*2 ^ (7*i)+n / 128*128*2 ^ (7*i)=n*2 ^ (7*i):=by rw[←Nat.add_mul]; congr 1; omega
   simp only[Prod.mk.injEq,and_true]
   rw[e4]
   exact ⟨by omega,by omega⟩
theorem getI_put {g:Int} (h:0≤g∧g<18446744073709551616):getI (putI g)=(g,((putI g).length:Int),0):=by
 unfold getI putI
 rw[getA_put g.toNat 0 0 (by decide) (by show g.toNat<18446744073709551616; omega) (by omega)]
 simp only[Nat.zero_add,Nat.mul_zero,Nat.pow_zero,Nat.mul_one,Prod.mk.injEq]
 exact ⟨by omega,trivial,rfl⟩

end Go.Ax

namespace Go.Ax
open Go.Proofs Go.RowKit
set_option maxRecDepth 100000

def Dsk.cont (D:Dsk) (nm:ByteArray):Option (List UInt8):=(D.get nm).map (·.b)
structure Live (D:Dsk):Prop where
 ok:D.Ok
 up:D.down=false
 fu:D.fuse=0

theorem stE0:stE 0=0:=by decide
theorem stepped0 {D:Dsk} (h:Live D):D.stepped.down=false∧D.stepped.fuse=0:=by
 unfold Dsk.stepped
 rw[h.fu]
 exact ⟨(by decide:stD 0=false),(by decide:stF 0=0)⟩
theorem find_ins (x:Fil) (nm:ByteArray):∀ fs:List Fil,x.name ∉ fs.map (·.name)→(insF x fs).find? (fun y=>decide (y.name=nm))=if x.name=nm then some x else fs.find? fun y=>decide (y.name=nm)
 | [],_=>by
  simp only[insF,List.find?_cons,List.find?_nil]
  by_cases h:x.name=nm <;> simp[h]
 | y::r,hx=>by
  simp only[List.map_cons,List.mem_cons,not_or] at hx
  unfold insF
  split
  ·rw[List.find?_cons]
   by_cases h:x.name=nm <;> simp[h]
  ·rw[List.find?_cons,find_ins x nm r hx.2,List.find?_cons]
   by_cases hy:y.name=nm
   ·have hxn:¬x.name=nm:=fun e=>hx.1 (e.trans hy.symm)
    rw[if_neg hxn]
    simp[hy,hxn]
   ·simp[hy]
theorem find_rep (x:Fil) (nm:ByteArray) (fs:List Fil):(repF fs x).find? (fun y=>decide (y.name=nm))=if x.name=nm then (fs.find? fun y=>decide (y.name=nm)).map fun _=>x else fs.find? fun y=>decide (y.name=nm):=by
 induction fs with
 | nil=>simp[repF]
 | cons y r ih=>
  have e:repF (y::r) x=(if y.name=x.name then x else y)::repF r x:=rfl
  rw[e,List.find?_cons,ih,List.find?_cons]
  by_cases hx:x.name=nm
  ·by_cases hy:y.name=nm
   ·simp[hx,hy]
   ·have:¬y.name=x.name:=fun e=>hy (e.trans hx)
    simp[hx,hy]
  ·by_cases hy:y.name=nm
   ·have:¬y.name=x.name:=fun e=>hx (e.symm.trans hy)
    have h2:¬nm=x.name:=fun e=>hx e.symm
    simp[hx,hy,h2]
   ·by_cases hxy:y.name=x.name
    ·simp[hx,hy,hxy]
    ·simp[hx,hy,hxy]

theorem cont_create {D:Dsk} (h:Live D) {nm:ByteArray} (hn:isName nm=true) (hc:D.cont nm=none):
  (createD D nm).2=0∧Live (createD D nm).1∧(∀ m,(createD D nm).1.cont m=if nm=m then some [] else D.cont m)∧(createD D nm).1.used=D.used∧(createD D nm).1.room=D.room:=by
 have hg:D.get nm=none:=by
  unfold Dsk.cont at hc
  cases hg:D.get nm with
  | none=>rfl
  | some x=>rw[hg] at hc; cases hc
 have e:createD D nm=({D.stepped with files:=insF ⟨nm,[],0⟩ D.files},0):=by
  unfold createD
  rw[hn,if_neg (by decide),if_neg (by simp[h.up])]
  simp only[hg]
  rw[h.fu,if_neg (by simp[stE0])]
 have hok:=createD_ok h.ok nm
 rw[e] at hok ⊢
 obtain ⟨s1,s2⟩:=stepped0 h
 refine ⟨rfl,⟨hok,s1,s2⟩,fun m=>?_,rfl,rfl⟩
 unfold Dsk.cont Dsk.get
 rw[find_ins _ _ _ (get_none hg)]
 simp only
 split <;> rfl
theorem cont_append {D:Dsk} (h:Live D) {nm:ByteArray} {c bs:List UInt8} (hc:D.cont nm=some c) (hr:(bs.length:Int)≤D.room - D.used):
  (appendD D nm bs).2=0∧Live (appendD D nm bs).1∧(∀ m,(appendD D nm bs).1.cont m=if nm=m then some (c++bs) else D.cont m)∧(appendD D nm bs).1.used=D.used+bs.length∧(appendD D nm bs).1.room=D.room:=by
 obtain ⟨x,hg,rfl⟩:∃ x,D.get nm=some x∧x.b=c:=by
  unfold Dsk.cont at hc
  cases hg:D.get nm with
  | none=>rw[hg] at hc; cases hc
  | some x=>rw[hg] at hc; cases hc; exact ⟨x,rfl,rfl⟩
 obtain ⟨_,hxn⟩:=get_some hg
 have e:appendD D nm bs=({D.stepped with files:=repF D.files {x with b:=x.b++bs},used:=D.used+bs.length},0):=by
  unfold appendD
  rw[if_neg (by simp[h.up])]
  simp only[hg]
  rw[if_neg (by omega),h.fu,if_neg (by simp[stE0])]
 have hok:=appendD_ok h.ok nm bs
 rw[e] at hok ⊢
 obtain ⟨s1,s2⟩:=stepped0 h
 refine ⟨rfl,⟨hok,s1,s2⟩,fun m=>?_,rfl,rfl⟩
 show ((repF D.files {x with b:=x.b++bs}).find? fun y=>decide (y.name=m)).map (·.b)=_
 rw[find_rep]
 simp only[hxn]
 split
 ·rename_i e
  subst e
  unfold Dsk.get at hg
  rw[hg]; rfl
 ·rfl
theorem cont_sync {D:Dsk} (h:Live D) {nm:ByteArray} {c:List UInt8} (hc:D.cont nm=some c):
  (syncD D nm).2=0∧Live (syncD D nm).1∧(∀ m,(syncD D nm).1.cont m=D.cont m)∧(syncD D nm).1.used=D.used∧(syncD D nm).1.room=D.room:=by
 obtain ⟨x,hg,rfl⟩:∃ x,D.get nm=some x∧x.b=c:=by
  unfold Dsk.cont at hc
  cases hg:D.get nm with
  | none=>rw[hg] at hc; cases hc
  | some x=>rw[hg] at hc; cases hc; exact ⟨x,rfl,rfl⟩
 obtain ⟨_,hxn⟩:=get_some hg
 have e:syncD D nm=({D.stepped with files:=repF D.files {x with sure:=x.b.length}},0):=by
  unfold syncD
  rw[if_neg (by simp[h.up])]
  simp only[hg]
  rw[h.fu,if_neg (by simp[stE0])]
 have hok:=syncD_ok h.ok nm
 rw[e] at hok ⊢
 obtain ⟨s1,s2⟩:=stepped0 h
 refine ⟨rfl,⟨hok,s1,s2⟩,fun m=>?_,rfl,rfl⟩
 show ((repF D.files {x with sure:=(x.b.length:Int)}).find? fun y=>decide (y.name=m)).map (·.b)=((D.files).find? fun y=>decide (y.name=m)).map (·.b)
 rw[find_rep]
 simp only[hxn]
 split
 ·rename_i e
  subst e
  unfold Dsk.get at hg
  rw[hg]; rfl
 ·rfl
theorem live_new {n:Int}:Live (newD n):=⟨newD_ok n,rfl,rfl⟩
theorem cont_new (n:Int) (m:ByteArray):(newD n).cont m=none:=rfl

end Go.Ax

namespace Go.Ax
open Go.Proofs Go.RowKit
set_option maxRecDepth 100000
theorem ltB_irr:∀ x:List UInt8,Op.bytesLess x x=false
 | []=>rfl
 | a::x=>by simp[Op.bytesLess,ltB_irr x]
theorem ltB_tri:∀ x y:List UInt8,Op.bytesLess x y=false→Op.bytesLess y x=false→x=y
 | [],[],_,_=>rfl
 | _::_,[],_,h=>by simp[Op.bytesLess] at h
 | [],_::_,h,_=>by simp[Op.bytesLess] at h
 | a::x,b::y,h,h'=>by
  simp only[Op.bytesLess,Bool.or_eq_false_iff,decide_eq_false_iff_not,Bool.and_eq_false_iff,beq_eq_false_iff_ne] at h h'
  have e:a=b:=by
   apply UInt8.toNat_inj.mp
   have h1:=h.1
   have h2:=h'.1
   rw[UInt8.lt_iff_toNat_lt] at h1 h2
   omega
  subst e
  rw[ltB_tri x y (h.2.resolve_left (by simp)) (h'.2.resolve_left (by simp))]

theorem ltB_trans:∀ x y z:List UInt8,Op.bytesLess x y=true→Op.bytesLess y z=true→Op.bytesLess x z=true
 | _,_,[],_,h=>by cases ‹List UInt8› <;> simp[Op.bytesLess] at h
 | [],_,_::_,_,_=>by simp[Op.bytesLess]
 | _::_,[],_::_,h,_=>by simp[Op.bytesLess] at h
 | a::x,b::y,c::z,h,h'=>by
  simp only[Op.bytesLess,Bool.or_eq_true,decide_eq_true_eq,Bool.and_eq_true,beq_iff_eq] at h h' ⊢
  rcases h with h | ⟨h,g⟩
  ·rcases h' with h' | ⟨h',g'⟩
   ·refine .inl ?_
    rw[UInt8.lt_iff_toNat_lt] at h h' ⊢; omega
   ·rw[←h']; exact .inl h
  ·rcases h' with h' | ⟨h',g'⟩
   ·rw[h]; exact .inl h'
   ·exact .inr ⟨h.trans h',ltB_trans x y z g g'⟩

end Go.Ax
