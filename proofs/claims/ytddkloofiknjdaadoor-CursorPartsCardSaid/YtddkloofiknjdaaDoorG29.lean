/- Plain: changes put in order, each once. -/
import Derived.Test.YtddkloofiknjdaaDoorG28
import Derived.Lib.Repeat
import Derived.Shelf.Small.Strs
import Derived.Shelf.Strings.Repeat
import Derived.Test.YtddkloofiknjdaaDoorG21
set_option linter.unusedVariables false
set_option linter.unusedSimpArgs false
set_option linter.unusedSectionVars false
namespace Go.Ax
open Go.Proofs Go.RowKit
set_option maxRecDepth 100000

def insE (x:Ent):List Ent→List Ent
 | []=> [x]
 | y::L=>if ltE y x then y::insE x L else if y.key=x.key∧y.seq=x.seq then y::L else x::y::L
def repB (s:ByteArray) (n:Nat):ByteArray:=⟨(Lib.repeatL s.data.toList n).toArray⟩
def repE (t:Int) (x:Ent):Ent:=if x.del then x else ⟨x.key,x.seq,false,repB x.val (1+t % 64).toNat⟩
def someF (t:Int) (out:List Ent) (x:Ent):List Ent:=if chkE (repE t x)≠0 then out else insE (repE t x) out
def someL (t:Int) (L:List Ent):List Ent:=L.foldl (someF t) []
theorem insE_mem (x:Ent):∀ L:List Ent,∀ y∈insE x L,y=x∨y∈L
 | [],y,h=> .inl (List.mem_singleton.1 h)
 | z::L,y,h=>by
  unfold insE at h
  split at h
  ·rcases List.mem_cons.1 h with rfl | h
   ·exact .inr (by simp)
   ·rcases insE_mem x L y h with e | e
    ·exact .inl e
    ·exact .inr (by simp[e])
  ·split at h
   ·exact .inr h
   ·rcases List.mem_cons.1 h with rfl | h
    ·exact .inl rfl
    ·exact .inr h
theorem insE_up (x:Ent):∀ L:List Ent,L.Pairwise ltE→(insE x L).Pairwise ltE
 | [],_=>by unfold insE; simp
 | z::L,h=>by
  unfold insE
  split
  ·rename_i hz
   refine .cons (fun y hy=>?_) (insE_up x L h.of_cons)
   rcases insE_mem x L y hy with rfl | e
   ·exact hz
   ·exact List.rel_of_pairwise_cons h e
  ·rename_i hz
   split
   ·exact h
   ·rename_i hn
    refine .cons (fun y hy=>?_) h
    have hxz:ltE x z:=by
     rcases ltE_tri z x with g | g | g
     ·exact absurd g hz
     ·exact absurd g hn
     ·exact g
    rcases List.mem_cons.1 hy with rfl | hy
    ·exact hxz
    ·exact ltE_trans hxz (List.rel_of_pairwise_cons h hy)
theorem insE_len (x:Ent):∀ L:List Ent,(insE x L).length≤L.length+1
 | []=>Nat.le_refl _
 | z::L=>by
  have:=insE_len x L
  unfold insE
  split
  ·simp only[List.length_cons]; omega
  ·split <;> simp
theorem someL_good (t:Int) (L:List Ent) (hs:∀ x∈L,0≤x.seq):GoodE (someL t L)∧(someL t L).length≤L.length:=by
 have:∀ (M out:List Ent),(∀ x∈M,0≤x.seq)→GoodE out→GoodE (M.foldl (someF t) out)∧(M.foldl (someF t) out).length≤out.length+M.length:=by
  intro M
  induction M with
  | nil=>intro out _ h; exact ⟨h,Nat.le_refl _⟩
  | cons x M ih=>
   intro out hM h
   have hg:GoodE (someF t out x)∧(someF t out x).length≤out.length+1:=by
    unfold someF
    split
    ·exact ⟨h,by omega⟩
    ·rename_i hc
     have hc:chkE (repE t x)=0:=Decidable.not_not.1 hc
     have hq:0≤(repE t x).seq:=by
      have:=hM x (by simp)
      unfold repE
      split <;> exact this
     refine ⟨⟨fun y hy=>?_,fun y hy=>?_,insE_up _ _ h.up⟩,insE_len _ _⟩
     ·rcases insE_mem _ _ y hy with rfl | e
      ·exact hc
      ·exact h.chk y e
     ·rcases insE_mem _ _ y hy with rfl | e
      ·exact hq
      ·exact h.seq y e
   have:=ih (someF t out x) (fun y hy=>hM y (by simp[hy])) hg.1
   rw[List.foldl_cons,List.length_cons]
   exact ⟨this.1,by omega⟩
 have:=this L [] hs ⟨fun x hx=>by (cases hx),fun x hx=>by (cases hx), .nil⟩
 simpa [someL] using this
def insAt (x:Ent) (L:List Ent):Nat:=(L.takeWhile fun y=>decide (ltE y x)).length
theorem insAt_le (x:Ent) (L:List Ent):insAt x L≤L.length:=(List.takeWhile_prefix _).length_le
theorem insE_eq (x:Ent):∀ L:List Ent,insE x L=match L[insAt x L]? with
  | none=>L.take (insAt x L)++x::L.drop (insAt x L)
  | some y=>if y.key=x.key∧y.seq=x.seq then L else L.take (insAt x L)++x::L.drop (insAt x L)
 | []=>rfl
 | z::L=>by
  unfold insE insAt
  by_cases h:ltE z x
  ·have ih:=insE_eq x L
   rw[if_pos h,ih,List.takeWhile_cons,if_pos (decide_eq_true h),List.length_cons]
   show _=match (L[insAt x L]?) with | none=>_ | some y=>_
   cases hg:L[insAt x L]? with
   | none=>rfl
   | some y=>
    simp only
    split <;> rfl
  ·have e:((z::L).takeWhile fun y=>decide (ltE y x))= []:=by rw[List.takeWhile_cons,if_neg (by simp[h])]
   rw[if_neg h,e]
   rfl
theorem insAt_lt (x:Ent):∀ (L:List Ent) (i:Nat) (y:Ent),i<insAt x L→L[i]? = some y→ltE y x
 | [],i,y,h,_=>by simp[insAt] at h
 | z::L,i,y,h,hy=>by
  unfold insAt at h
  by_cases hz:ltE z x
  ·rw[List.takeWhile_cons,if_pos (decide_eq_true hz),List.length_cons] at h
   cases i with
   | zero=>cases hy; exact hz
   | succ i=>exact insAt_lt x L i y (by unfold insAt; omega) (by simpa using hy)
  ·rw[List.takeWhile_cons,if_neg (by rw[decide_eq_false hz]; decide)] at h
   simp at h
theorem insAt_at (x:Ent):∀ (L:List Ent) (y:Ent),L[insAt x L]? = some y→¬ltE y x
 | [],y,h=>by simp at h
 | z::L,y,h=>by
  unfold insAt at h
  by_cases hz:ltE z x
  ·rw[List.takeWhile_cons,if_pos (decide_eq_true hz),List.length_cons,List.getElem?_cons_succ] at h
   exact insAt_at x L y h
  ·rw[List.takeWhile_cons,if_neg (by rw[decide_eq_false hz]; decide)] at h
   cases h
   exact hz
end Go.Ax

namespace Go.Proofs
open Go.Shelf

def Tryd.cmpA_ren:Go.Shelf.Ren:=⟨fun | 106=>32 | 213=>58 | 265=>82 | n=>n,fun | 9=>9 | 3=>3 | n=>n,fun | n=>n⟩
theorem Tryd.cmpA:Go.Proofs.Lays.n106 Tryd.prog Tryd.cmpA_ren:={
 mixed:=by kernel_rfl
 f106:=Tryd.func32.trans (congrArg some (by kernel_rfl))
 f213:=Tryd.func58.trans (congrArg some (by kernel_rfl))
 f265:=Tryd.func82.trans (congrArg some (by kernel_rfl))
 t3:=Tryd.underlying3
 a3:=Tryd.isAgg3
 z3:=Tryd.sizeOf3
 v3:=Tryd.zeroValue3
 t9:=Tryd.underlying9
 a9:=Tryd.isAgg9
 z9:=Tryd.sizeOf9
 v9:=Tryd.zeroValue9}
def Tryd.repA_ren:Go.Shelf.Ren:=⟨fun | 105=>25 | 212=>48 | 99=>49 | 165=>50 | 166=>51 | 170=>52 | 169=>53 | 263=>76 | 264=>77 | 206=>78 | 240=>79 | 241=>80 | 276=>92 | 277=>93 | n=>n,fun | 9=>9 | 3=>3 | 4=>4 | 20=>20 | 0=>0 | 46=>31 | 109=>110 | 5=>5 | 72=>115 | 76=>119 | 51=>142 | 146=>143 | 53=>28 | 148=>145 | 70=>113 | 37=>75 | 75=>118 | 127=>147 | 164=>156 | 80=>121 | n=>n,fun | n=>n⟩
theorem Tryd.repA:Go.Proofs.Lays.n105 Tryd.prog Tryd.repA_ren:={
 mixed:=by kernel_rfl
 f99:=Tryd.func49.trans (congrArg some (by kernel_rfl))
 f105:=Tryd.func25.trans (congrArg some (by kernel_rfl))
 f165:=Tryd.func50.trans (congrArg some (by kernel_rfl))
 f166:=Tryd.func51.trans (congrArg some (by kernel_rfl))
 f169:=Tryd.func53.trans (congrArg some (by kernel_rfl))
 f170:=Tryd.func52.trans (congrArg some (by kernel_rfl))
 f206:=Tryd.func78.trans (congrArg some (by kernel_rfl))
 f212:=Tryd.func48.trans (congrArg some (by kernel_rfl))
 f240:=Tryd.func79.trans (congrArg some (by kernel_rfl))
 f241:=Tryd.func80.trans (congrArg some (by kernel_rfl))
 f263:=Tryd.func76.trans (congrArg some (by kernel_rfl))
 f264:=Tryd.func77.trans (congrArg some (by kernel_rfl))
 f276:=Tryd.func92.trans (congrArg some (by kernel_rfl))
 f277:=Tryd.func93.trans (congrArg some (by kernel_rfl))
 t0:=Tryd.underlying0
 a0:=Tryd.isAgg0
 z0:=Tryd.sizeOf0
 v0:=Tryd.zeroValue0
 t3:=Tryd.underlying3
 a3:=Tryd.isAgg3
 z3:=Tryd.sizeOf3
 v3:=Tryd.zeroValue3
 t4:=Tryd.underlying4
 a4:=Tryd.isAgg4
 z4:=Tryd.sizeOf4
 v4:=Tryd.zeroValue4
 t5:=Tryd.underlying5
 a5:=Tryd.isAgg5
 z5:=Tryd.sizeOf5
 v5:=Tryd.zeroValue5
 t9:=Tryd.underlying9
 a9:=Tryd.isAgg9
 z9:=Tryd.sizeOf9
 v9:=Tryd.zeroValue9
 t20:=Tryd.underlying20
 a20:=Tryd.isAgg20
 z20:=Tryd.sizeOf20
 v20:=Tryd.zeroValue20
 t37:=Tryd.underlying75
 a37:=Tryd.isAgg75
 z37:=Tryd.sizeOf75
 v37:=Tryd.zeroValue75
 t46:=Tryd.underlying31
 a46:=Tryd.isAgg31
 z46:=Tryd.sizeOf31
 v46:=Tryd.zeroValue31
 t51:=Tryd.underlying142
 a51:=Tryd.isAgg142
 z51:=Tryd.sizeOf142
 v51:=Tryd.zeroValue142
 t53:=Tryd.underlying28
 a53:=Tryd.isAgg28
 z53:=Tryd.sizeOf28
 v53:=Tryd.zeroValue28
 t70:=Tryd.underlying113
 a70:=Tryd.isAgg113
 z70:=Tryd.sizeOf113
 v70:=Tryd.zeroValue113
 t72:=Tryd.underlying115
 a72:=Tryd.isAgg115
 z72:=Tryd.sizeOf115
 v72:=Tryd.zeroValue115
 t75:=Tryd.underlying118
 a75:=Tryd.isAgg118
 z75:=Tryd.sizeOf118
 v75:=Tryd.zeroValue118
 t76:=Tryd.underlying119
 a76:=Tryd.isAgg119
 z76:=Tryd.sizeOf119
 v76:=Tryd.zeroValue119
 t109:=Tryd.underlying110
 a109:=Tryd.isAgg110
 z109:=Tryd.sizeOf110
 v109:=Tryd.zeroValue110
 t127:=Tryd.underlying147
 a127:=Tryd.isAgg147
 z127:=Tryd.sizeOf147
 v127:=Tryd.zeroValue147
 t146:=Tryd.underlying143
 a146:=Tryd.isAgg143
 z146:=Tryd.sizeOf143
 v146:=Tryd.zeroValue143
 t148:=Tryd.underlying145
 a148:=Tryd.isAgg145
 z148:=Tryd.sizeOf145
 v148:=Tryd.zeroValue145
 t164:=Tryd.underlying156
 a164:=Tryd.isAgg156
 z164:=Tryd.sizeOf156
 v164:=Tryd.zeroValue156}
theorem Tryd.repX:Builder.Extra Tryd.prog Tryd.repA_ren where
 sizeBuilder:=by kernel_rfl
 liesBuilder:=by kernel_rfl
 t5:=Tryd.underlying5
 a5:=Tryd.isAgg5
 z5:=Tryd.sizeOf5
 v5:=Tryd.zeroValue5
 infoByte:=by kernel_rfl
 cellsByte:=by kernel_rfl
 sizeByte:=by kernel_rfl
 neB5:=by decide
end Go.Proofs
namespace Go.Ax
open Go.Proofs Go.RowKit
set_option maxRecDepth 100000

abbrev iCmpS:Nat:=32
theorem heCmpS:enters DP iCmpS=true:=by kernel_rfl
def cmpS (a b:ByteArray):Int:=Lib.compareBytes a.data.toList b.data.toList
def RCmpS:List AV→AV→Prop:=fun args r=>∃ a b:ByteArray,args= [vs a,vs b]∧r=vi (cmpS a b)
noncomputable def gCmpS:=relG RCmpS
theorem SCmpS:SoundF DP iCmpS (.pure gCmpS):=sound_lib heCmpS (by
 rintro args r ⟨a,b,rfl,rfl⟩
 refine ⟨[.string a, .string b], .int .i64 (cmpS a b),rfl,fun F B ρ w=> .p _ _ (.v _),fun w hg=>?_⟩
 refine (Any.strings_Compare Tryd.cmpA a b w).mono ?_
 rintro e w' ⟨rfl,rfl⟩
 exact ⟨rfl,Below.refl _ _⟩)
theorem gCmpS_eq (a b:ByteArray):gCmpS [vs a,vs b]=some (vi (cmpS a b)):=relG_eq (by
 rintro args r r' ⟨a1,b1,h1,rfl⟩ ⟨a2,b2,h2,rfl⟩
 rw[h1] at h2
 simp at h2
 rw[h2.1,h2.2]) ⟨a,b,rfl,rfl⟩
abbrev iRep:Nat:=25
theorem heRep:enters DP iRep=true:=by kernel_rfl
def RRep:List AV→AV→Prop:=fun args r=>∃ (s:ByteArray) (c:Int),(0≤c∧c≤64)∧s.size≤1000000000∧args= [vs s,vi c]∧r=vs (repB s c.toNat)
noncomputable def gRep:=relG RRep
theorem SRep:SoundF DP iRep (.pure gRep):=sound_lib heRep (by
 rintro args r ⟨s,c,hc,hs,rfl,rfl⟩
 obtain ⟨n,rfl⟩:=Int.eq_ofNat_of_zero_le hc.1
 refine ⟨[.string s, .int .i64 n], .string (repB s n),rfl,fun F B ρ w=> .p _ _ (.v _),fun w hg=>?_⟩
 have hm:s.size*n≤s.size*64:=Nat.mul_le_mul_left _ (by omega)
 exact Any.strings_Repeat Tryd.repA Tryd.repX s n w (by omega) (by omega))
theorem gRep_eq {s:ByteArray} {c:Int} (hc:0≤c∧c≤64) (hs:s.size≤1000000000):gRep [vs s,vi c]=some (vs (repB s c.toNat)):=relG_eq (by
 rintro args r r' ⟨a1,b1,_,_,h1,rfl⟩ ⟨a2,b2,_,_,h2,rfl⟩
 rw[h1] at h2
 simp at h2
 rw[h2.1,h2.2]) ⟨s,c,hc,hs,rfl,rfl⟩
end Go.Ax

namespace Go.Ax
open Go.Proofs Go.RowKit
set_option maxRecDepth 100000

noncomputable def ΓG1:Env:=envP [(iCmpS,gCmpS)]

noncomputable def TCmpE (x:Ent) (y:Ent):Tree:=
.call 10 (gCmpS [vs x.key,vs y.key]=some (vi (cmpS x.key y.key))) (vi (cmpS x.key y.key)) (.sp 12 ((cmpS x.key y.key) != (0:Int)) (
.leaf ⟨[0],[]⟩ [] .ret (some ([(0,vi (cmpS x.key y.key))],[]))) (
.sp 19 (decide (x.seq>y.seq)) (
.leaf ⟨[0],[]⟩ [] .ret (some ([(0,vi (-1))],[]))) (
.sp 25 (decide (x.seq<y.seq)) (
.leaf ⟨[0],[]⟩ [] .ret (some ([(0,vi 1)],[]))) (
.leaf ⟨[0],[]⟩ [] .ret (some ([(0,vi 0)],[]))))))

theorem TCmpE_chk (x:Ent) (y:Ent):fnC DP ΓG1 Δ0 Tryd.f19 [(entE.av x),(entE.av y)] [] (TCmpE x y)=TCmpE x y:=by kernel_rfl

end Go.Ax

namespace Go.Ax
open Go.Proofs Go.RowKit
set_option maxRecDepth 100000

theorem ΓG1_ok:∀ f,SoundF DP f (ΓG1 f):=envP_cons SCmpS envP_nil
theorem cmpS_eq (a b:ByteArray):cmpS a b=if bl a.data.toList b.data.toList then -1 else if a≠b then 1 else 0:=by
 unfold cmpS
 rw[compareB]
 by_cases h:a=b
 ·subst h
  rw[if_neg (fun h=>h rfl:¬(a≠a)),if_neg (fun h=>h rfl:¬(a.data.toList≠a.data.toList))]
 ·rw[if_pos h,if_pos (fun e=>h (ByteArray.ext (Array.toList_inj.1 e)):a.data.toList≠b.data.toList)]
def RCmpE:List AV→AV→Prop:=fun args r=>∃ x y:Ent,args= [entE.av x,entE.av y]∧r=vi (cmpE x y)
noncomputable def gCmpE:=relG RCmpE
theorem gCmpE_eq (x y:Ent):gCmpE [entE.av x,entE.av y]=some (vi (cmpE x y)):=relG_eq (by
 rintro args r r' ⟨x,y,h1,rfl⟩ ⟨x',y',h2,rfl⟩
 rw[h1] at h2
 have h2:=List.cons.inj h2
 rw[ent_inj h2.1,ent_inj (one_arg' h2.2)]) ⟨x,y,rfl,rfl⟩
theorem SCmpE:SoundF DP iCmpE (.pure gCmpE):=sound_pureT mixedD ΓG1_ok Δ0_ok hfCmpE heCmpE hbCmpE (by
 rintro args r ⟨x,y,rfl,rfl⟩
 refine ⟨rfl,rfl,_,TCmpE_chk x y,?_⟩
 have hg:=gCmpS_eq x.key y.key
 have hc:=cmpS_eq x.key y.key
 have hE:cmpE x y=if bl x.key.data.toList y.key.data.toList then -1 else if x.key≠y.key then 1 else if y.seq<x.seq then -1 else if x.seq<y.seq then 1 else 0:=rfl
 unfold TCmpE
 by_cases h1:bl x.key.data.toList y.key.data.toList
 ·rw[if_pos h1] at hc hE
  rw[hc] at hg ⊢
  rw[hE]
  exact wp_call hg (wp_sp (fun _=>wp_leaf rfl (.p _)) (fun h=>absurd h (by decide)))
 ·rw[if_neg h1] at hc hE
  by_cases h2:x.key≠y.key
  ·rw[if_pos h2] at hc hE
   rw[hc] at hg ⊢
   rw[hE]
   exact wp_call hg (wp_sp (fun _=>wp_leaf rfl (.p _)) (fun h=>absurd h (by decide)))
  ·rw[if_neg h2] at hc hE
   rw[hc] at hg ⊢
   refine wp_call hg (wp_sp (fun h=>absurd h (by decide)) (fun _=>wp_sp (fun h=>?_) (fun h=>?_)))
   ·rw[if_pos (of_decide_eq_true h)] at hE
    rw[hE]; exact wp_leaf rfl (.p _)
   ·rw[if_neg (of_decide_eq_false h)] at hE
    refine wp_sp (fun h=>?_) (fun h=>?_)
    ·rw[if_pos (of_decide_eq_true h)] at hE
     rw[hE]; exact wp_leaf rfl (.p _)
    ·rw[if_neg (of_decide_eq_false h)] at hE
     rw[hE]; exact wp_leaf rfl (.p _))

end Go.Ax

namespace Go.Ax
open Go.Proofs Go.RowKit
set_option maxRecDepth 100000

end Go.Ax

namespace Go.Ax
open Go.Proofs Go.RowKit
set_option maxRecDepth 100000

end Go.Ax

namespace Go.Ax
open Go.Proofs Go.RowKit
set_option maxRecDepth 100000

end Go.Ax

namespace Go.Ax
open Go.Proofs Go.RowKit
set_option maxRecDepth 100000

end Go.Ax

namespace Go.Ax
open Go.Proofs Go.RowKit
set_option maxRecDepth 100000

end Go.Ax

namespace Go.Ax
open Go.Proofs Go.RowKit
set_option maxRecDepth 100000

end Go.Ax

namespace Go.Ax
open Go.Proofs Go.RowKit
set_option maxRecDepth 100000

end Go.Ax

namespace Go.Ax
open Go.Proofs Go.RowKit
set_option maxRecDepth 100000

end Go.Ax

namespace Go.Ax
open Go.Proofs Go.RowKit
set_option maxRecDepth 100000

end Go.Ax

namespace Go.Ax
open Go.Proofs Go.RowKit
set_option maxRecDepth 100000

end Go.Ax

namespace Go.Ax
open Go.Proofs Go.RowKit
set_option maxRecDepth 100000

end Go.Ax

namespace Go.Ax
open Go.Proofs Go.RowKit
set_option maxRecDepth 100000

section
variable {L : List Ent} {b : List UInt8} {I : List Par} {N j3 : List ByteArray} {i fr : Nat} {sz sz' : Int} {e1 : Ent} {c : List Ent} {K : AE → St → Prop}
end
end Go.Ax

namespace Go.Ax
open Go.Proofs Go.RowKit
set_option maxRecDepth 100000

section
variable {L : List Ent} {b : List UInt8} {I : List Par} {N : List ByteArray} {i fr sz : Nat} {x : Ent} {K : AE → St → Prop}
end
end Go.Ax

namespace Go.Ax
open Go.Proofs Go.RowKit
set_option maxRecDepth 100000

end Go.Ax

namespace Go.Ax
open Go.Proofs Go.RowKit
set_option maxRecDepth 100000

section
variable {L : List Ent} {c' : List UInt8}
end
end Go.Ax

namespace Go.Ax
open Go.Proofs Go.RowKit
set_option maxRecDepth 100000

inductive Lax:AV→AV→Prop
 | refl (x:AV):Lax x x
 | nil:Lax nilS (.p (.ls []))
 | agg (cs ds:List AV):cs.length=ds.length→(∀ (j:Nat) (c d:AV),cs[j]? = some c→ds[j]? = some d→Lax c d)→Lax (.agg cs) (.agg ds)
 | tup (cs ds:List AV):cs.length=ds.length→(∀ (j:Nat) (c d:AV),cs[j]? = some c→ds[j]? = some d→Lax c d)→Lax (.tup cs) (.tup ds)
theorem Lax.rel {F:Nat→Prop} {B:List Box} {ρ:Loc} {w:World} {x y:AV} (h:Lax x y):∀ {u:Value},VRel F B ρ w x u→VRel F B ρ w y u:=by
 induction h with
 | refl x=>exact fun h=>h
 | nil=>
  intro u hv
  have:=hv.val
  subst this
  exact .p _ _ (.nil Option.none 0 (.inr rfl))
 | agg cs ds hl hj ih=>
  intro u hv
  cases hv with
  | agg _ us h2 h3=>
   refine .agg _ us (by omega) (fun j p u hp hu=>?_)
   have hjl:j<cs.length:=by rw[hl]; exact (List.getElem?_eq_some_iff.1 hp).1
   exact ih j _ p (List.getElem?_eq_getElem hjl) hp (h3 j _ u (List.getElem?_eq_getElem hjl) hu)
 | tup cs ds hl hj ih=>
  intro u hv
  cases hv with
  | tup _ us h2 h3=>
   refine .tup _ us (by omega) (fun j p u hp hu=>?_)
   have hjl:j<cs.length:=by rw[hl]; exact (List.getElem?_eq_some_iff.1 hp).1
   exact ih j _ p (List.getElem?_eq_getElem hjl) hp (h3 j _ u (List.getElem?_eq_getElem hjl) hu)
theorem sound_genW {P:Program} {Γ:Env} {Δ:REnv} (hm:P.follows .mixedOrders=true) (hΓ:∀ f,SoundF P f (Γ f)) (hΔ:∀ f,SoundR P f (Δ f)) {f:FuncId} {fn:Func} (hf:P.funcs[f]? = some fn) (he:enters P f=true) (hb:fn.body.isSome=true) {R:RSpec}
  (h:∀ args B r B',R args B r B'→Nat.ble args.length fn.ntmps=true∧∃ T,fnC P Γ Δ fn args B T=T∧T.wp fun _ c=>Lax (tk c.1 0) r∧c.2=B'):SoundR P f R:=by
 intro args B r B' hs F ρ w us hI hA
 obtain ⟨hle,T,hT,hwp⟩:=h args B r B' hs
 rw[←hT] at hwp
 refine .inl ⟨enter_run he us.toArray w,(fnC_calls hm hΓ hΔ hf hb hle hwp hI hA).mono fun e w' hp=>?_⟩
 obtain ⟨x,c,ρ',rfl,⟨_,h1,h2⟩,hI',hE',hv⟩:=hp
 subst h2
 exact ⟨x,ρ',rfl,hI',hE',h1.rel hv⟩
theorem lax2 {x y z:AV} (h:Lax x y):Lax (.tup [x,z]) (.tup [y,z]):= .tup _ _ rfl (fun j c d h1 h2=>by
 match j,h1,h2 with
 | 0,h1,h2=>cases h1; cases h2; exact h
 | 1,h1,h2=>cases h1; cases h2; exact .refl _
 | j+2,h1,h2=>cases h1)
theorem lax_nils {z:AV}:Lax (.tup [nilS,z]) (.tup [.p (.ls []),z]):=lax2 .nil
theorem lax_page {z:AV}:Lax (.tup [.agg [nilS,nilS],z]) (.tup [.agg [.p (.ls []), .p (.ls [])],z]):=lax2 (.agg _ _ rfl (fun j c d h1 h2=>by
 match j,h1,h2 with
 | 0,h1,h2=>cases h1; cases h2; exact .nil
 | 1,h1,h2=>cases h1; cases h2; exact .nil
 | j+2,h1,h2=>cases h1))

def badI (e:Int):Int:=if e=10∨e=0 then e else 12
def contF (D:Dsk) (nm:ByteArray):List UInt8:=match D.get nm with
 | none=> []
 | some x=>x.b
theorem okLen {D:Dsk} (ok:D.Ok) {nm:ByteArray} {x:Fil} (h:D.get nm=some x):(x.b.length:Int)≤67108864:=by
 obtain ⟨hx,_⟩:=get_some h
 have h1:=lens_perm (delF_perm ok.nod hx)
 rw[lens_cons] at h1
 have h2:=ok.used
 change D.used=lens D.files at h2
 have h3:=ok.le
 have h4:=ok.room
 have h5:∀ fs:List Fil,0≤lens fs:=fun fs=>by
  induction fs with
  | nil=>exact Int.le_refl _
  | cons y fs ih=>rw[lens_cons]; omega
 have:=h5 (delF D.files x.name)
 omega
theorem contF_len {D:Dsk} (ok:D.Ok) (nm:ByteArray):(contF D nm).length≤67108864:=by
 unfold contF
 cases h:D.get nm with
 | none=>simp
 | some x=>have:=okLen ok h; simp only; omega
def entsX (L:List Par):List Ent×Int:=match entsI L with
 | none=>([],12)
 | some E=>(E,0)
def pgOf (c:List UInt8) (idx:List Par) (i:Int):List UInt8×List Int×Int:=match idx[i.toNat]? with
 | none=>([],[],12)
 | some p=>match atI p.vl with
  | none=>([],[],12)
  | some (a,n)=>if (getF c a n).2≠0 then ([],[],12) else (pgB (getF c a n).1,pgW (getF c a n).1,badI (pgE (getF c a n).1))
theorem getF_e (c:List UInt8) (a n:Int):(getF c a n).2=0∨getF c a n=([],12):=by
 unfold getF
 split
 ·exact .inr rfl
 ·split
  ·exact .inr rfl
  ·exact .inl rfl
theorem next_len (b:List UInt8):(nextI b).1.length≤b.length:=by
 unfold nextI
 repeat' split
 all_goals simp only[List.length_nil,List.length_drop,List.length_take]
 all_goals omega
theorem getF_len (c:List UInt8) (a n:Int):(getF c a n).1.length≤c.length:=by
 unfold getF
 split
 ·simp
 ·split
  ·simp
  ·have:=next_len ((c.drop a.toNat).take (min n (c.length - a)).toNat)
   simp only[List.length_take,List.length_drop] at this
   simp only
   omega
theorem getF_nil (a n:Int):getF [] a n=([],12):=by
 unfold getF
 split
 ·rfl
 ·rw[if_pos]
  left
  rw[show nextI ((([]:List UInt8).drop a.toNat).take (min n ((([]:List UInt8).length:Nat) - a)).toNat)=([],0,8) by simp[nextI]]
  decide
theorem pgE_or (d:List UInt8):(parI d=none∧badI (pgE d)=12)∨(∃ L,parI d=some L∧badI (pgE d)=0):=by
 unfold pgE
 cases h:parI d with
 | none=>exact .inl ⟨rfl,rfl⟩
 | some L=>exact .inr ⟨L,rfl,rfl⟩
theorem pgOf_pairs {c:List UInt8} {idx:List Par} {i:Int} {p:Par} (hp:idx[i.toNat]? = some p):(pgOf c idx i).2.2=(pairsI c p).2∧((pairsI c p).2=0→readI (pgOf c idx i).1=((pairsI c p).1,0))∧(pgOf c idx i).1.length≤c.length:=by
 unfold pgOf pairsI
 rw[hp]
 simp only
 cases atI p.vl with
 | none=>exact ⟨rfl,fun h=>(by cases h),Nat.zero_le _⟩
 | some q=>
  obtain ⟨a,n⟩:=q
  simp only
  have hl:=getF_len c a n
  split
  ·exact ⟨rfl,fun h=>(by cases h),Nat.zero_le _⟩
  ·have hb:=pgB_len (getF c a n).1
   rcases pgE_or (getF c a n).1 with ⟨h1,h2⟩ | ⟨L,h1,h2⟩
   ·rw[h1]
    exact ⟨h2,fun h=>(by cases h),by simp only; omega⟩
   ·rw[h1]
    exact ⟨h2,fun _=>par_all h1,by simp only; omega⟩
theorem pairs_e (c:List UInt8) (p:Par):(pairsI c p).2=0∨(pairsI c p).2=12:=by
 unfold pairsI
 split
 ·exact .inr rfl
 ·split
  ·exact .inr rfl
  ·split
   ·exact .inr rfl
   ·exact .inl rfl
theorem page_of {c:List UInt8} {idx:List Par} {i:Int} (h0:¬i<0) {p:Par} (hp:idx[i.toNat]? = some p):pageI c idx i=if (pairsI c p).2≠0 then ([],12) else if (entsX (pairsI c p).1).2≠0 then ([],12) else if (entsX (pairsI c p).1).1= [] then ([],12) else ((entsX (pairsI c p).1).1,0):=by
 unfold pageI entsX
 rw[if_neg h0,hp]
 simp only
 split
 ·rfl
 ·cases entsI (pairsI c p).1 with
  | none=>rfl
  | some E=>rfl
end Go.Ax

namespace Go.Ax
open Go.Proofs Go.RowKit
set_option maxRecDepth 100000

def RBadF:List AV→AV→Prop:=fun args r=>∃ e:Int,args= [vi e]∧r=vi (badI e)
noncomputable def gBadF:=relG RBadF
abbrev iBadF:Nat:=69
noncomputable def ΓL1:Env:=envP [(iBadF,gBadF)]
noncomputable def ΔL1:REnv:=envR [(iRead,liftR ORead),(iNext,sealR (pureR gNext))]
noncomputable def ΓL2:Env:=envP [(iOuter,gOuter),(iChkE,gChkE)]

noncomputable abbrev nBadF:Func:=Tryd.f69
theorem hfBadF:DP.funcs[iBadF]? = some nBadF:=by kernel_rfl
theorem heBadF:enters DP iBadF=true:=by kernel_rfl
theorem hbBadF:nBadF.body.isSome=true:=by kernel_rfl
abbrev iGetF:Nat:=40
noncomputable abbrev nGetF:Func:=Tryd.f40
theorem hfGetF:DP.funcs[iGetF]? = some nGetF:=by kernel_rfl
theorem heGetF:enters DP iGetF=true:=by kernel_rfl
theorem hbGetF:nGetF.body.isSome=true:=by kernel_rfl
theorem hnGetF:nGetF.ntmps=49:=by kernel_rfl
abbrev iPairs:Nat:=73
noncomputable abbrev nPairs:Func:=Tryd.f73
theorem hfPairs:DP.funcs[iPairs]? = some nPairs:=by kernel_rfl
theorem hePairs:enters DP iPairs=true:=by kernel_rfl
theorem hbPairs:nPairs.body.isSome=true:=by kernel_rfl
theorem hnPairs:nPairs.ntmps=88:=by kernel_rfl
abbrev iEnts:Nat:=74
noncomputable abbrev nEnts:Func:=Tryd.f74
theorem hfEnts:DP.funcs[iEnts]? = some nEnts:=by kernel_rfl
theorem heEnts:enters DP iEnts=true:=by kernel_rfl
theorem hbEnts:nEnts.body.isSome=true:=by kernel_rfl
abbrev iFPage:Nat:=45
noncomputable abbrev nFPage:Func:=Tryd.f45
theorem hfFPage:DP.funcs[iFPage]? = some nFPage:=by kernel_rfl
theorem heFPage:enters DP iFPage=true:=by kernel_rfl
theorem hbFPage:nFPage.body.isSome=true:=by kernel_rfl
theorem hnFPage:nFPage.ntmps=48:=by kernel_rfl

noncomputable def TBadF (e:Int):Tree:=
.sp 4 (e == (10:Int)) (
.leaf ⟨[0],[]⟩ [] .ret (some ([(0,vi e)],[]))) (
.sp 7 (e == (0:Int)) (
.leaf ⟨[0],[]⟩ [] .ret (some ([(0,vi e)],[]))) (
.leaf ⟨[0],[]⟩ [] .ret (some ([(0,vi 12)],[]))))

theorem TBadF_chk (e:Int):fnC DP Γ0 Δ0 Tryd.f69 [vi e] [] (TBadF e)=TBadF e:=by kernel_rfl

noncomputable def TGetF (D:Dsk) (nm:ByteArray) (a:Int) (n:Int):Tree:=
.sp 14 (decide (a<(0:Int))) (
.leaf ⟨[0],[(0,0,none)]⟩ [] .ret (some ([(0, .tup [nilS,vi 12])],[.obj [] (diskP D)]))) (
.sp 18 (decide (n<(0:Int))) (
.leaf ⟨[0],[(0,0,none)]⟩ [] .ret (some ([(0, .tup [nilS,vi 12])],[.obj [] (diskP D)]))) (
.callr (some 27) (ΔL1 68 [.op 0,vs nm,vi a,vi n] [.obj [] (diskP D), .cells false 0 ([vi a,vi n])] (.tup [.rs 2 0 1 0 ((readD D nm a n).1.length),vi ((readD D nm a n).2)]) [.obj [] (diskP D), .cells false 0 ([vi a,vi n]),byteE.bx 0 ((readD D nm a n).1)]) (.tup [.rs 2 0 1 0 ((readD D nm a n).1.length),vi ((readD D nm a n).2)]) [.obj [] (diskP D), .cells false 0 ([vi a,vi n]),byteE.bx 0 ((readD D nm a n).1)] (.sp 31 (((readD D nm a n).2) != (0:Int)) (
.call 33 (gBadF [vi ((readD D nm a n).2)]=some (vi (badI ((readD D nm a n).2)))) (vi (badI ((readD D nm a n).2))) (.leaf ⟨[0],[(0,0,none)]⟩ [] .ret (some ([(0, .tup [nilS,vi (badI ((readD D nm a n).2))])],[.obj [] (diskP D)])))) (
.callr (some 36) (ΔL1 70 [.rs 2 0 1 0 ((readD D nm a n).1.length)] [.obj [] (diskP D), .cells false 0 ([vi a,vi n]),byteE.bx 0 ((readD D nm a n).1)] (.tup [vl (((nextI ((readD D nm a n).1)).1).map byteE.f),vi ((nextI ((readD D nm a n).1)).2.1),vi ((nextI ((readD D nm a n).1)).2.2)]) [.obj [] (diskP D), .cells false 0 ([vi a,vi n]), .dead]) (.tup [vl (((nextI ((readD D nm a n).1)).1).map byteE.f),vi ((nextI ((readD D nm a n).1)).2.1),vi ((nextI ((readD D nm a n).1)).2.2)]) [.obj [] (diskP D), .cells false 0 ([vi a,vi n]), .dead] (.sp 41 (((nextI ((readD D nm a n).1)).2.2) != (0:Int)) (
.leaf ⟨[0],[(0,0,none)]⟩ [] .ret (some ([(0, .tup [nilS,vi 12])],[.obj [] (diskP D)]))) (
.sp 46 (((nextI ((readD D nm a n).1)).2.1) != n) (
.leaf ⟨[0],[(0,0,none)]⟩ [] .ret (some ([(0, .tup [nilS,vi 12])],[.obj [] (diskP D)]))) (
.leaf ⟨[0],[(0,0,none)]⟩ [] .ret (some ([(0, .tup [vl (((nextI ((readD D nm a n).1)).1).map byteE.f),vi 0])],[.obj [] (diskP D)])))))))))

theorem TGetF_chk (D:Dsk) (nm:ByteArray) (a:Int) (n:Int):fnC DP ΓL1 ΔL1 Tryd.f40 [.op 0,vs nm, .agg [vi a,vi n]] [.obj [] (diskP D)] (TGetF D nm a n)=TGetF D nm a n:=by kernel_rfl

noncomputable def TEnts_l1_e (L:List Par) (s1:(List Ent)×Int):St:=([(4, .rs 0 0 4 0 s1.1.length),(9,vl (L.map parE.f)),(10,vi (L.length:Int)),(11,vi s1.2)],[entE.bx 0 s1.1])
noncomputable def TEnts_l1_x (x1:Unit):AE×St:=(.ret,([(2,nilS),(3,vi 12)],[]))
noncomputable def TEnts_l1_x' (y1:(List Ent)):AE×St:=((.exit 0),([(4, .rs 0 0 4 0 y1.length)],[entE.bx 0 y1]))
noncomputable def TEnts_l1_b (L:List Par) (s1:(List Ent)×Int):Tree:=
.sp 12 (decide (s1.2<(L.length:Int))) (
.elem 13 (L.map parE.f) parE L s1.2 (fun e1=> .call 18 (gOuter [vs e1.name]=some (.tup [(entE.av ((outI e1.name.data.toList).1)),vi ((outI e1.name.data.toList).2)])) (.tup [(entE.av ((outI e1.name.data.toList).1)),vi ((outI e1.name.data.toList).2)]) (.sp 25 (((outI e1.name.data.toList).2) != (0:Int)) (
.leaf ⟨[2,3],[]⟩ [] .ret (some (TEnts_l1_x ()).2)) (
.call 28 (gChkE [.agg [vs (((outI e1.name.data.toList).1).key),vn .u64 (((outI e1.name.data.toList).1).seq),vb (((outI e1.name.data.toList).1).del),vs e1.val]]=some (vi (chkE (⟨((outI e1.name.data.toList).1).key,((outI e1.name.data.toList).1).seq,((outI e1.name.data.toList).1).del,e1.val⟩:Ent)))) (vi (chkE (⟨((outI e1.name.data.toList).1).key,((outI e1.name.data.toList).1).seq,((outI e1.name.data.toList).1).del,e1.val⟩:Ent))) (.sp 29 ((chkE (⟨((outI e1.name.data.toList).1).key,((outI e1.name.data.toList).1).seq,((outI e1.name.data.toList).1).del,e1.val⟩:Ent)) != (0:Int)) (
.leaf ⟨[2,3],[]⟩ [] .ret (some (TEnts_l1_x ()).2)) (
.app 34 (.row 1 ([vs (((outI e1.name.data.toList).1).key),vn .u64 (((outI e1.name.data.toList).1).seq),vb (((outI e1.name.data.toList).1).del),vs e1.val])) s1.1.length (rowC (s1.1.map entE.f)) entE s1.1 ([(⟨((outI e1.name.data.toList).1).key,((outI e1.name.data.toList).1).seq,((outI e1.name.data.toList).1).del,e1.val⟩:Ent)]) (.int 35 (IntKind.i64.wrap (s1.2+1)) (s1.2+1) (.leaf ⟨[4,9,10,11],[(0,1,some ((s1.1++([(⟨((outI e1.name.data.toList).1).key,((outI e1.name.data.toList).1).seq,((outI e1.name.data.toList).1).del,e1.val⟩:Ent)])).map entE.f))]⟩ [rowC ((s1.1++([(⟨((outI e1.name.data.toList).1).key,((outI e1.name.data.toList).1).seq,((outI e1.name.data.toList).1).del,e1.val⟩:Ent)])).map entE.f)] .normal (some (TEnts_l1_e L (s1.1++([(⟨((outI e1.name.data.toList).1).key,((outI e1.name.data.toList).1).seq,((outI e1.name.data.toList).1).del,e1.val⟩:Ent)]),s1.2+1))))))))))) (
.leaf ⟨[4],[(0,0,some (s1.1.map entE.f))]⟩ [rowC (s1.1.map entE.f)] (.exit 0) (some (TEnts_l1_x' s1.1).2))
noncomputable def TEnts (L:List Par):Tree:=
.int 10 ((L.map parE.f).length:Int) (L.length:Int) (.nilrow 4 4 (.loop ⟨[4,9,10,11],[(0,0,some (([]:List Ent).map entE.f))]⟩ [rowC (([]:List Ent).map entE.f)] (some (TEnts_l1_e L (([]:List Ent),0))) (TEnts_l1_e L) (TEnts_l1_x) (TEnts_l1_x') (([]:List Ent),0) (TEnts_l1_b L) (fun (x1:Unit)=> .leaf ⟨[0],[]⟩ [] .ret (some ([(0, .tup [nilS,vi 12])],[]))) (fun (y1:(List Ent))=> .leaf ⟨[0],[(0,0,some (y1.map entE.f))]⟩ [rowC (y1.map entE.f)] .ret (some ([(0, .tup [.rs 0 0 4 0 y1.length,vi 0])],[entE.bx 0 y1])))))

theorem TEnts_chk (L:List Par):fnC DP ΓL2 Δ0 Tryd.f74 [vl (L.map parE.f)] [] (TEnts L)=TEnts L:=by kernel_rfl

end Go.Ax

namespace Go.Ax
open Go.Proofs Go.RowKit
set_option maxRecDepth 100000

theorem bad_sound:SoundF DP iBadF (.pure gBadF):=sound_pureT mixedD Γ0_ok Δ0_ok hfBadF heBadF hbBadF (by
 rintro args r ⟨e,rfl,rfl⟩
 refine ⟨rfl,rfl,_,TBadF_chk e,?_⟩
 unfold TBadF badI
 refine wp_sp (fun h=>?_) (fun h=>wp_sp (fun g=>?_) (fun g=>?_))
 ·rw[if_pos (.inl (beq_iff_eq.1 h))]; exact wp_leaf rfl (.p _)
 ·rw[if_pos (.inr (beq_iff_eq.1 g))]; exact wp_leaf rfl (.p _)
 ·rw[if_neg (by rintro (k | k); exact beq_eq_false_iff_ne.1 h k; exact beq_eq_false_iff_ne.1 g k)]; exact wp_leaf rfl (.p _))
theorem gBadF_eq (e:Int):gBadF [vi e]=some (vi (badI e)):=relG_eq (by
 rintro args r r' ⟨a,h1,rfl⟩ ⟨b,h2,rfl⟩
 rw[h1] at h2
 simp at h2
 rw[h2]) ⟨e,rfl,rfl⟩
theorem ΓL1_ok:∀ f,SoundF DP f (ΓL1 f):=envP_cons bad_sound envP_nil
theorem ΔL1_ok:∀ f,SoundR DP f (ΔL1 f):=envR_cons (lift_sound SRead) (envR_cons (SNext.rel).shutRow envR_nil)
def OGetF:RSpec:=fun args B r B'=>∃ (D:Dsk) (nm:ByteArray) (a n:Int),D.Ok∧D.down=false∧args= [.op 0,vs nm, .agg [vi a,vi n]]∧B= [.obj [] (diskP D)]∧r= .tup [vl ((getF (contF D nm) a n).1.map byteE.f),vi (getF (contF D nm) a n).2]∧B'=B
theorem read_cont {D:Dsk} (hd:D.down=false) (nm:ByteArray) (a n:Int) (h:¬(a<0∨n<0)):((readD D nm a n).2≠0∧badI (readD D nm a n).2=12∧getF (contF D nm) a n=([],12))∨((readD D nm a n).2=0∧getF (contF D nm) a n=if (nextI (readD D nm a n).1).2.2≠0∨(nextI (readD D nm a n).1).2.1≠n then ([],12) else ((nextI (readD D nm a n).1).1,0)):=by
 unfold readD contF
 rw[hd]
 cases hg:D.get nm with
 | none=>exact .inl ⟨by simp,by simp[badI],getF_nil a n⟩
 | some x=>
  simp only[Bool.false_eq_true,if_false]
  by_cases g:a<0∨a>x.b.length∨n<0
  ·rw[if_pos g]
   refine .inl ⟨by simp,by simp[badI],?_⟩
   unfold getF
   rw[if_pos (by omega)]
  ·rw[if_neg g]
   refine .inr ⟨rfl,?_⟩
   conv=>lhs; unfold getF
   rw[if_neg (by omega)]
theorem SGetF:SoundR DP iGetF OGetF:=sound_genW mixedD ΓL1_ok ΔL1_ok hfGetF heGetF hbGetF (by
 rintro args B r B' ⟨D,nm,a,n,ok,hd,rfl,rfl,rfl,rfl⟩
 refine ⟨by rw[hnGetF]; rfl,_,TGetF_chk D nm a n,?_⟩
 unfold TGetF
 have bad:a<0∨n<0→getF (contF D nm) a n=([],12):=fun h=>by
  unfold getF
  rw[if_pos (by omega)]
 refine wp_sp (fun h=>?_) (fun h=>wp_sp (fun g=>?_) (fun g=>?_))
 ·rw[bad (.inl (of_decide_eq_true h))]
  exact wp_leaf rfl ⟨lax_nils,rfl⟩
 ·rw[bad (.inr (of_decide_eq_true g))]
  exact wp_leaf rfl ⟨lax_nils,rfl⟩
 ·have h:=of_decide_eq_false h
  have g:=of_decide_eq_false g
  refine wp_callr (oRead ok rfl) ?_
  rcases read_cont hd nm a n (by omega) with ⟨e1,e2,e3⟩ | ⟨e1,e3⟩
  ·rw[e3]
   refine wp_sp (fun _=>wp_call (gBadF_eq _) (wp_leaf rfl ?_)) (fun q=>absurd (by simpa using q) e1)
   rw[e2]
   exact ⟨lax_nils,rfl⟩
  ·have hlen:(readD D nm a n).1.length≤67108864:=by
    have hc:=contF_len ok nm
    unfold contF at hc
    unfold readD
    rw[hd]
    cases hg:D.get nm with
    | none=>simp
    | some x=>
     rw[hg] at hc
     simp only[Bool.false_eq_true,if_false] at hc ⊢
     split
     ·simp
     ·simp only[List.length_take,List.length_drop]; omega
   refine wp_sp (fun q=>absurd e1 (by simpa using q)) (fun _=>wp_callr ⟨0,2,0,UInt8,byteE,_,rfl,rfl,gNext_eq (by omega),rfl⟩ (wp_sp (fun k=>?_) (fun k=>wp_sp (fun m=>?_) (fun m=>?_))))
   ·rw[if_pos (.inl (by simpa using k))] at e3
    rw[e3]
    exact wp_leaf rfl ⟨lax_nils,rfl⟩
   ·rw[if_pos (.inr (by simpa using m))] at e3
    rw[e3]
    exact wp_leaf rfl ⟨lax_nils,rfl⟩
   ·rw[if_neg (by
     rintro (q | q)
     ·exact q (by simpa using k)
     ·exact q (by simpa using m))] at e3
    rw[e3]
    exact wp_leaf rfl ⟨.refl _,rfl⟩)
theorem ΓL2_ok:∀ f,SoundF DP f (ΓL2 f):=envP_cons SOuter (envP_cons SChkE envP_nil)
def entsQ (out:List Ent):Option (List Ent)→Unit ⊕ List Ent
 | none=> .inl ()
 | some E=> .inr (out++E)
theorem ents_rounds (L:List Par) (hL:∀ p∈L,p.name.size≤1000000000) (hN:L.length≤1000000000):∀ (M:List Par) (i:Nat) (out:List Ent),L.drop i=M→i+M.length=L.length→out.length≤i→Rounds (TEnts_l1_e L) TEnts_l1_x TEnts_l1_x' (fun s=>(TEnts_l1_b L s).wp) (out,(i:Int)) (entsQ out (entsI M)):=by
 intro M
 induction M with
 | nil=>
  intro i out hM hl ho
  simp only[List.length_nil] at hl
  show Rounds _ _ _ _ _ (.inr (out++ []))
  rw[List.append_nil]
  refine .done' (by intro e; cases e) ?_
  unfold TEnts_l1_b
  exact wp_sp (fun h'=>absurd (of_decide_eq_true h') (by simp only; omega)) (fun _=>wp_leaf rfl ⟨rfl,rfl⟩)
 | cons p M ih=>
  intro i out hM hl ho
  have gp:L[i]? = some p:=by rw[←List.head?_drop,hM]; rfl
  have hM':L.drop (i+1)=M:=by rw[←List.drop_drop,hM]; rfl
  have hp:=hL p (List.mem_of_getElem? gp)
  simp only[List.length_cons] at hl
  rw[entsI]
  have go:=gOuter_eq p.name hp
  have hE:(⟨(outI p.name.data.toList).1.key,(outI p.name.data.toList).1.seq,(outI p.name.data.toList).1.del,p.val⟩:Ent)=withV (outI p.nl).1 p.val:=rfl
  by_cases h1:(outI p.nl).2≠0
  ·rw[if_pos (.inl h1)]
   refine .done (by intro e; cases e) ?_
   unfold TEnts_l1_b
   dsimp only
   exact wp_sp (fun _=>wp_elem p (by omega) (by simpa using gp) (wp_call go (wp_sp (fun _=>wp_leaf rfl ⟨rfl,rfl⟩) (fun q=>absurd (by simpa using q) h1)))) (fun h'=>absurd (of_decide_eq_false h') (by omega))
  ·by_cases h2:chkE (withV (outI p.nl).1 p.val)≠0
   ·rw[if_pos (.inr h2)]
    refine .done (by intro e; cases e) ?_
    unfold TEnts_l1_b
    dsimp only
    exact wp_sp (fun _=>wp_elem p (by omega) (by simpa using gp) (wp_call go (wp_sp (fun q=>absurd (by simpa using q) h1) (fun _=>wp_call (gChkE_eq (withV (outI p.nl).1 p.val)) (wp_sp (fun _=>wp_leaf rfl ⟨rfl,rfl⟩) (fun q=>absurd (by simpa [hE] using q) h2)))))) (fun h'=>absurd (of_decide_eq_false h') (by omega))
   ·rw[if_neg (by rintro (e | e); exact h1 e; exact h2 e)]
    have hr:=ih (i+1) (out++ [withV (outI p.nl).1 p.val]) hM' (by omega) (by rw[List.length_append,List.length_singleton]; omega)
    have e:entsQ (out++ [withV (outI p.nl).1 p.val]) (entsI M)=entsQ out ((entsI M).map (withV (outI p.nl).1 p.val :: ·)):=by
     cases entsI M with
     | none=>rfl
     | some E=>show Sum.inr _=Sum.inr _; simp
    rw[e,show ((i+1:Nat):Int)=(i:Int)+1 by omega] at hr
    refine .next ?_ hr
    unfold TEnts_l1_b
    dsimp only
    exact wp_sp (fun _=>wp_elem p (by omega) (by simpa using gp) (wp_call go (wp_sp (fun q=>absurd (by simpa using q) h1) (fun _=>wp_call (gChkE_eq (withV (outI p.nl).1 p.val)) (wp_sp (fun q=>absurd (by simpa [hE] using q) h2) (fun _=>wp_app ⟨rfl,rfl⟩ rfl (by rw[List.length_append,List.length_singleton]; omega) (wp_i64 (by omega) (wp_leaf rfl ⟨rfl,rfl⟩)))))))) (fun h'=>absurd (of_decide_eq_false h') (by omega))
def REnts:List AV→AV→Prop:=fun args r=>∃ L:List Par,(∀ p∈L,p.name.size≤1000000000)∧L.length≤1000000000∧args= [vl (L.map parE.f)]∧r= .tup [vl ((entsX L).1.map entE.f),vi (entsX L).2]
noncomputable def gEnts:=relG REnts
theorem SEnts:SoundF DP iEnts (.pure gEnts):=sound_pureT mixedD ΓL2_ok Δ0_ok hfEnts heEnts hbEnts (by
 rintro args r ⟨L,hL,hN,rfl,rfl⟩
 refine ⟨rfl,rfl,_,TEnts_chk L,?_⟩
 have hr:=ents_rounds L hL hN L 0 [] List.drop_zero (Nat.zero_add _) (Nat.le_refl _)
 unfold TEnts entsX
 refine wp_len (wp_nilrow ?_)
 cases h:entsI L with
 | none=>
  rw[h] at hr
  exact wp_loop _ rfl hr (wp_leaf rfl seal_nilE)
 | some E=>
  rw[h] at hr
  exact wp_loop' _ rfl hr (wp_leaf rfl (seal_row2 (E:=entE))))
theorem par_inj {L M:List Par} (h:L.map parE.f=M.map parE.f):L=M:=(List.map_inj_right (fun x y e=>by
 cases x; cases y
 simp[parE] at e
 simp[e])).1 h
theorem gEnts_eq {L:List Par} (hL:∀ p∈L,p.name.size≤1000000000) (hN:L.length≤1000000000):gEnts [vl (L.map parE.f)]=some (.tup [vl ((entsX L).1.map entE.f),vi (entsX L).2]):=relG_eq (by
 rintro args r r' ⟨a,_,_,h1,rfl⟩ ⟨b,_,_,h2,rfl⟩
 have h:=one_arg' (h1.symm.trans h2)
 simp only[AV.p.injEq,PV.ls.injEq] at h
 rw[par_inj h]) ⟨L,hL,hN,rfl,rfl⟩
end Go.Ax
