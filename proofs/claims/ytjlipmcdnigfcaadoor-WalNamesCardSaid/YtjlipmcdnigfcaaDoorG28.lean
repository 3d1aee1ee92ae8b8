/- Contracts: a log is opened. -/
import Derived.Test.YtjlipmcdnigfcaaDoorG27
import Derived.Test.YtjlipmcdnigfcaaDoorG24
set_option linter.unusedVariables false
set_option linter.unusedSimpArgs false
set_option linter.unusedSectionVars false
namespace Go.Ax
open Go.Proofs Go.RowKit
set_option maxRecDepth 100000

def toB (x:List UInt8):ByteArray:=⟨x.toArray⟩

def openA (D:Dsk) (frm:Int):Nat→Int→Int→Int→List ByteArray→Option (Int×Int×Int×List ByteArray)
 | 0,_,_,_,_=>none
 | f+1,n,p,g,out=>
  if n>1073741824 then some (0,p,g,out) else
  if (readW D n).2.2=4 then some (0,p,g,out) else
  if (readW D n).2.2≠0 then some ((readW D n).2.2,0,0,[]) else
  if (parseI (readW D n).1).2.2≠0 then some ((parseI (readW D n).1).2.2,0,0,[]) else
  if (parseI (readW D n).1).2.1=false then some (0,p,g,out) else
  if frm<n∧(parseI (readW D n).1).1≠g then some (12,0,0,[]) else
  openA D frm f (n+1) n (readW D n).2.1 (out++((readW D n).1.drop 1).map toB)

section
variable {D : Dsk} {frm : Int} {s1 : Int × Int × List ByteArray × Int}
theorem open2_rounds (hl:(cutL (some 1) none (readW D s1.2.2.2).1).length≤1000000000):∀ (j i:Nat) (out:List ByteArray),i+j=(cutL (some 1) none (readW D s1.2.2.2).1).length→((out.length+j:Nat):Int)≤1000000000 →
  Rounds (TOpen_l2_e D frm s1) (TOpen_l2_x D frm s1) noX (fun s=>(TOpen_l2_b D frm s1 s).wp) (out,(i:Int)) (.inl (out++((cutL (some 1) none (readW D s1.2.2.2).1).drop i).map toB)):=by
 intro j
 induction j with
 | zero=>
  intro i out hi ho
  refine .done (by intro e; cases e) ?_
  unfold TOpen_l2_b
  refine wp_sp (fun h'=>absurd (of_decide_eq_true h') (by simp only; omega)) (fun _=>wp_leaf rfl ⟨rfl,?_⟩)
  rw[List.drop_of_length_le (by omega),List.map_nil,List.append_nil]
 | succ j ih=>
  intro i out hi ho
  have hlt:i<(cutL (some 1) none (readW D s1.2.2.2).1).length:=by omega
  have hr:=ih (i+1) (out++ [toB ((cutL (some 1) none (readW D s1.2.2.2).1)[i])]) (by omega) (by simp only[List.length_append,List.length_singleton]; omega)
  rw[List.append_assoc] at hr
  rw[List.drop_eq_getElem_cons hlt,List.map_cons]
  refine .next ?_ hr
  unfold TOpen_l2_b
  exact wp_sp (fun _=>wp_elem _ (by simp only; omega) (List.getElem?_eq_getElem hlt) ⟨rfl,wp_app ⟨rfl,rfl⟩ rfl (by simp only[List.length_append,List.length_singleton]; omega) (wp_i64 (by simp only; omega) (wp_leaf rfl ⟨rfl,rfl⟩))⟩) (fun h'=>absurd (of_decide_eq_false h') (by simp only; omega))
theorem open3_rounds (hl:(cutL (some 1) none (readW D s1.2.2.2).1).length≤1000000000):∀ (j i:Nat) (out:List ByteArray),i+j=(cutL (some 1) none (readW D s1.2.2.2).1).length→((out.length+j:Nat):Int)≤1000000000 →
  Rounds (TOpen_l3_e D frm s1) (TOpen_l3_x D frm s1) noX (fun s=>(TOpen_l3_b D frm s1 s).wp) (out,(i:Int)) (.inl (out++((cutL (some 1) none (readW D s1.2.2.2).1).drop i).map toB)):=by
 intro j
 induction j with
 | zero=>
  intro i out hi ho
  refine .done (by intro e; cases e) ?_
  unfold TOpen_l3_b
  refine wp_sp (fun h'=>absurd (of_decide_eq_true h') (by simp only; omega)) (fun _=>wp_leaf rfl ⟨rfl,?_⟩)
  rw[List.drop_of_length_le (by omega),List.map_nil,List.append_nil]
 | succ j ih=>
  intro i out hi ho
  have hlt:i<(cutL (some 1) none (readW D s1.2.2.2).1).length:=by omega
  have hr:=ih (i+1) (out++ [toB ((cutL (some 1) none (readW D s1.2.2.2).1)[i])]) (by omega) (by simp only[List.length_append,List.length_singleton]; omega)
  rw[List.append_assoc] at hr
  rw[List.drop_eq_getElem_cons hlt,List.map_cons]
  refine .next ?_ hr
  unfold TOpen_l3_b
  exact wp_sp (fun _=>wp_elem _ (by simp only; omega) (List.getElem?_eq_getElem hlt) ⟨rfl,wp_app ⟨rfl,rfl⟩ rfl (by simp only[List.length_append,List.length_singleton]; omega) (wp_i64 (by simp only; omega) (wp_leaf rfl ⟨rfl,rfl⟩))⟩) (fun h'=>absurd (of_decide_eq_false h') (by simp only; omega))
end

theorem readW_facts {D:Dsk} (ok:D.Ok) (n:Int):(0≤(readW D n).2.1∧(readW D n).2.1≤67108864)∧(readW D n).1.length≤67108864∧(∀ x∈(readW D n).1,x.length≤1048576):=by
 unfold readW
 cases hg:D.get (wname n) with
 | none=>exact ⟨⟨by decide,by decide⟩,by decide,by simp⟩
 | some x=>
  obtain ⟨h1,h2,h3,_⟩:=allI_facts x.b
  have:=ok.len hg
  exact ⟨⟨h1.1,by simp only; omega⟩,by simp only; omega,h3⟩

theorem open_body {D:Dsk} (ok:D.Ok) (hd:D.down=false) {frm n p g:Int} {out:List ByteArray} (hn:1≤n∧n≤1073741824) (ho:out.length≤800000000) {K:AE→St→Prop}
  (k4:(readW D n).2.2=4→K (.exit 0) (TOpen_l1_x D (p,g,out)).2)
  (ke:(readW D n).2.2≠4→(readW D n).2.2≠0→K .ret (TOpen_l1_x' D (readW D n).2.2).2)
  (kp:(readW D n).2.2=0→(parseI (readW D n).1).2.2≠0→K .ret (TOpen_l1_x' D (parseI (readW D n).1).2.2).2)
  (kn:(readW D n).2.2=0→(parseI (readW D n).1).2.2=0→(parseI (readW D n).1).2.1=false→K (.exit 0) (TOpen_l1_x D (p,g,out)).2)
  (kb:(readW D n).2.2=0→(parseI (readW D n).1).2.2=0→(parseI (readW D n).1).2.1=true→(frm<n∧(parseI (readW D n).1).1≠g)→K .ret (TOpen_l1_x' D 12).2)
  (kk:(readW D n).2.2=0→(parseI (readW D n).1).2.2=0→(parseI (readW D n).1).2.1=true→¬(frm<n∧(parseI (readW D n).1).1≠g)→K .normal (TOpen_l1_e D frm (n,(readW D n).2.1,out++((readW D n).1.drop 1).map toB,n+1))):
  (TOpen_l1_b D frm (p,g,out,n)).wp K:=by
 obtain ⟨f1,f2,f3⟩:=readW_facts ok n
 have hcl:(cutL (some 1) none (readW D n).1).length≤67108864:=by show ((readW D n).1.drop 1).length≤_; rw[List.length_drop]; omega
 have hcut:(parseI (readW D n).1).2.1=true→1≤(readW D n).1.length:=by
  cases (readW D n).1 with
  | nil=>intro h; cases h
  | cons x r=>intro _; simp
 unfold TOpen_l1_b
 refine wp_sp (fun _=>wp_callr (oReadW ok hd (by simp only; omega) rfl) (wp_sp (fun h=>wp_leaf rfl (k4 (by simpa using h))) (fun h4=>wp_sp (fun h=>wp_leaf rfl (ke (by simpa using h4) (by simpa using h))) (fun h0=>wp_call (gParse_eq (by simp only; omega) (fun x hx=>Nat.le_trans (f3 x hx) (by decide))) ?_)))) (fun h=>absurd (of_decide_eq_false h) (by simp only; omega))
 have h0:(readW D n).2.2=0:=by simpa using h0
 refine wp_sp (fun ht=>wp_sp (fun h=>wp_leaf rfl (kp h0 (by simpa using h))) (fun he=>?_)) (fun hf=>wp_sp (fun h=>wp_leaf rfl (kp h0 (by simpa using h))) (fun he=>wp_leaf rfl (kn h0 (by simpa using he) hf)))
 have he:(parseI (readW D n).1).2.2=0:=by simpa using he
 have hc:=hcut ht
 refine wp_sp (fun hlt=>wp_sp (fun h=>wp_leaf rfl (kb h0 he ht ⟨of_decide_eq_true hlt,by simpa using h⟩)) (fun hq=>wp_cut (by simp only[cutOk]; omega) (wp_len (wp_loop _ rfl (open2_rounds (D:=D) (frm:=frm) (s1:=(p,g,out,n)) (by simp only; omega) _ 0 out (Nat.zero_add _) (by simp only; omega)) (wp_i64 (by simp only; omega) (wp_leaf rfl ?_))))))
  (fun hge=>wp_cut (by simp only[cutOk]; omega) (wp_len (wp_loop _ rfl (open3_rounds (D:=D) (frm:=frm) (s1:=(p,g,out,n)) (by simp only; omega) _ 0 out (Nat.zero_add _) (by simp only; omega)) (wp_i64 (by simp only; omega) (wp_leaf rfl ?_)))))
 ·exact kk h0 he ht (fun h=>h.2 (by simpa using hq))
 ·exact kk h0 he ht (fun h=>of_decide_eq_false hge h.1)

theorem open_rounds {D:Dsk} (ok:D.Ok) (hd:D.down=false) {frm:Int} (hfrm:1≤frm):∀ (f:Nat) (n p g:Int) (out:List ByteArray) (res:Int×Int×Int×List ByteArray),openA D frm f n p g out=some res→frm≤n→n≤1073741825→f≤10→out.length≤(10 - f)*67108864 →
  (res.1=0∧Rounds (TOpen_l1_e D frm) (TOpen_l1_x D) (TOpen_l1_x' D) (fun s=>(TOpen_l1_b D frm s).wp) (p,g,out,n) (.inl (res.2.1,res.2.2.1,res.2.2.2))) ∨
  (res.1≠0∧Rounds (TOpen_l1_e D frm) (TOpen_l1_x D) (TOpen_l1_x' D) (fun s=>(TOpen_l1_b D frm s).wp) (p,g,out,n) (.inr res.1))
 | 0,n,p,g,out,res,h,_,_,_,_=>by cases h
 | f+1,n,p,g,out,res,h,hn,hn2,hf,ho=>by
  unfold openA at h
  by_cases hend:n>1073741824
  ·rw[if_pos hend] at h
   cases h
   refine .inl ⟨rfl, .done (by intro e; cases e) ?_⟩
   unfold TOpen_l1_b
   exact wp_sp (fun h=>absurd (of_decide_eq_true h) (by simp only; omega)) (fun _=>wp_leaf rfl ⟨rfl,rfl⟩)
  rw[if_neg hend] at h
  have hb:=fun K=>open_body (K:=K) ok hd (frm:=frm) (n:=n) (p:=p) (g:=g) (out:=out) (by omega) (by omega)
  by_cases h4:(readW D n).2.2=4
  ·rw[if_pos h4] at h
   cases h
   exact .inl ⟨rfl, .done (by intro e; cases e) (hb _ (fun _=>⟨rfl,rfl⟩) (fun h _=>absurd h4 h) (fun h _=>absurd (h.symm.trans h4) (by decide)) (fun h _ _=>absurd (h.symm.trans h4) (by decide)) (fun h _ _ _=>absurd (h.symm.trans h4) (by decide)) (fun h _ _ _=>absurd (h.symm.trans h4) (by decide)))⟩
  rw[if_neg h4] at h
  by_cases h0:(readW D n).2.2=0
  ·rw[if_neg (fun hx=>hx h0)] at h
   by_cases hq:(parseI (readW D n).1).2.2=0
   ·rw[if_neg (fun hx=>hx hq)] at h
    cases ht:(parseI (readW D n).1).2.1 with
    | false=>
     rw[if_pos ht] at h
     cases h
     exact .inl ⟨rfl, .done (by intro e; cases e) (hb _ (fun h=>absurd h h4) (fun _ h=>absurd h0 h) (fun _ h=>absurd hq h) (fun _ _ _=>⟨rfl,rfl⟩) (fun _ _ h=>absurd (ht.symm.trans h) (by decide)) (fun _ _ h=>absurd (ht.symm.trans h) (by decide)))⟩
    | true=>
     rw[if_neg (by rw[ht]; decide)] at h
     by_cases hc:frm<n∧(parseI (readW D n).1).1≠g
     ·rw[if_pos hc] at h
      cases h
      exact .inr ⟨by decide, .done' (by intro e; cases e) (hb _ (fun h=>absurd h h4) (fun _ h=>absurd h0 h) (fun _ h=>absurd hq h) (fun _ _ h=>absurd (ht.symm.trans h) (by decide)) (fun _ _ _ _=>⟨rfl,rfl⟩) (fun _ _ _ h=>absurd hc h))⟩
     ·rw[if_neg hc] at h
      obtain ⟨f1,f2,f3⟩:=readW_facts ok n
      have hnx:=hb (fun e c=>e= .normal∧c=TOpen_l1_e D frm (n,(readW D n).2.1,out++((readW D n).1.drop 1).map toB,n+1)) (fun h=>absurd h h4) (fun _ h=>absurd h0 h) (fun _ h=>absurd hq h) (fun _ _ h=>absurd (ht.symm.trans h) (by decide)) (fun _ _ _ h=>absurd h hc) (fun _ _ _ _=>⟨rfl,rfl⟩)
      rcases open_rounds ok hd hfrm f (n+1) n (readW D n).2.1 _ res h (by omega) (by omega) (by omega) (by
       rw[List.length_append,List.length_map,List.length_drop]
       have:(10 - f)=(10 - (f+1))+1:=by omega
       rw[this,Nat.add_mul]
       omega) with ⟨g1,g2⟩ | ⟨g1,g2⟩
      ·exact .inl ⟨g1, .next hnx g2⟩
      ·exact .inr ⟨g1, .next hnx g2⟩
   ·rw[if_pos hq] at h
    cases h
    exact .inr ⟨hq, .done' (by intro e; cases e) (hb _ (fun h=>absurd h h4) (fun _ h=>absurd h0 h) (fun _ _=>⟨rfl,rfl⟩) (fun _ h=>absurd h hq) (fun _ h=>absurd h hq) (fun _ h=>absurd h hq))⟩
  ·rw[if_pos h0] at h
   cases h
   exact .inr ⟨h0, .done' (by intro e; cases e) (hb _ (fun h=>absurd h h4) (fun _ _=>⟨rfl,rfl⟩) (fun h=>absurd h h0) (fun h=>absurd h h0) (fun h=>absurd h h0) (fun h=>absurd h h0))⟩

abbrev logC (b:Nat) (p g:Int) (o:Bool):Box:= .cells false 0 [.op b,vi p,vi g,vb o]

def OOpen:RSpec:=fun args B r B'=>∃ (D:Dsk) (frm:Int),D.Ok∧D.down=false∧(-9223372036854775808≤frm∧frm≤9223372036854775807)∧args= [.op 0,vi frm]∧B= [.obj [] (diskP D)] ∧
 (((frm<1∨1073741824<frm)∧r= .tup [nilP,nilS,vi 1]∧B'=B)∨((1≤frm∧frm≤1073741824)∧∃ res,openA D frm 10 frm 0 0 []=some res ∧
  ((res.1=0∧r= .tup [.ptr 1 0 0, .rs 2 0 1 0 res.2.2.2.length,vi 0]∧B'= [.obj [] (diskP D),logC 0 res.2.1 res.2.2.1 false,nameE.bx 0 res.2.2.2])∨(res.1≠0∧r= .tup [nilP,nilS,vi res.1]∧B'=B))))
theorem SOpen:SoundR DP iOpen OOpen:=sound_genT mixedD Γ6_ok Δ6_ok hfOpen heOpen hbOpen (by
 rintro args B r B' ⟨D,frm,ok,hd,hw,rfl,rfl,⟨hb,rfl,rfl⟩ | ⟨hb,res,hres,h⟩⟩
 ·refine ⟨by rw[hnOpen]; rfl,_,TOpen_chk D frm,?_⟩
  unfold TOpen
  exact wp_sp (fun _=>wp_leaf rfl ⟨rfl,rfl⟩) (fun h=>wp_sp (fun _=>wp_leaf rfl ⟨rfl,rfl⟩) (fun h2=>absurd (of_decide_eq_false h2) (by have:=of_decide_eq_false h; omega)))
 ·refine ⟨by rw[hnOpen]; rfl,_,TOpen_chk D frm,?_⟩
  unfold TOpen
  refine wp_sp (fun h=>absurd (of_decide_eq_true h) (by omega)) (fun _=>wp_sp (fun h=>absurd (of_decide_eq_true h) (by omega)) (fun _=>wp_callr (oDown ok rfl) (wp_sp (fun h=>absurd (hd.symm.trans h) (by decide)) (fun _=>?_))))
  rcases open_rounds ok hd hb.1 10 frm 0 0 [] res hres (by omega) (by omega) (by omega) (by simp) with ⟨g1,g2⟩ | ⟨g1,g2⟩
  ·rcases h with ⟨_,rfl,rfl⟩ | ⟨h,_⟩
   ·exact wp_loop _ rfl g2 (wp_leaf rfl ⟨rfl,rfl⟩)
   ·exact absurd g1 h
  ·rcases h with ⟨h,_⟩ | ⟨_,rfl,rfl⟩
   ·exact absurd h g1
   ·exact wp_loop' _ rfl g2 (wp_leaf rfl ⟨rfl,rfl⟩))

end Go.Ax

namespace Go.Ax
open Go.Proofs Go.RowKit
set_option maxRecDepth 100000

def dval (l:List UInt8):Nat:=l.foldl (fun a c=>a*10+(c.toNat - 48)) 0
theorem dval_snoc (l:List UInt8) (c:UInt8):dval (l++ [c])=dval l*10+(c.toNat - 48):=by simp[dval]
theorem dval_dec (u:Nat):dval (Lib.decDigits u)=u:=by
 induction u using Nat.strongRecOn with
 | _ u ih=>
  rw[Lib.decDigits]
  split
  ·rename_i h
   have:(UInt8.ofNat (48+u)).toNat=48+u:=by rw[UInt8.toNat_ofNat']; omega
   show 0*10+((UInt8.ofNat (48+u)).toNat - 48)=u
   rw[this]; omega
  ·rename_i h
   have:(UInt8.ofNat (48+u % 10)).toNat=48+u % 10:=by rw[UInt8.toNat_ofNat']; omega
   rw[dval_snoc,ih (u / 10) (by omega),this]
   omega
theorem dec_ok (u:Nat):∀ c∈Lib.decDigits u,48≤c.toNat∧c.toNat≤57:=by
 induction u using Nat.strongRecOn with
 | _ u ih=>
  rw[Lib.decDigits]
  split
  ·rename_i h
   intro c hc
   rw[List.mem_singleton.1 hc,UInt8.toNat_ofNat']
   omega
  ·rename_i h
   intro c hc
   rcases List.mem_append.1 hc with hc | hc
   ·exact ih (u / 10) (by omega) c hc
   ·rw[List.mem_singleton.1 hc,UInt8.toNat_ofNat']
    omega
theorem wname_list {n:Int} (h:0≤n):(wname n).data.toList= [108,111,103,46]++Lib.decDigits n.toNat:=by
 unfold wname
 rw[ByteArray.data_append,Array.toList_append]
 show [108,111,103,46]++(Lib.itoa n).toArray.toList=_
 rw[List.toList_toArray]
 unfold Lib.itoa
 rw[if_neg (by omega)]
theorem wname_inj {a b:Int} (ha:0≤a) (hb:0≤b) (h:wname a=wname b):a=b:=by
 have h1:=congrArg (fun x=>x.data.toList) h
 simp only[wname_list ha,wname_list hb] at h1
 have h2:=congrArg dval (List.append_cancel_left h1)
 rw[dval_dec,dval_dec] at h2
 omega
theorem wname_is {n:Int} (h:0≤n∧n≤9223372036854775807):isName (wname n)=true:=by
 unfold isName
 have hs:=wname_size (n:=n) (by omega)
 have hz:(wname n).size=4+(itoaB n).size:=cat_size _ _
 rw[Bool.and_eq_true,Bool.and_eq_true,decide_eq_true_eq,decide_eq_true_eq,List.all_eq_true]
 refine ⟨⟨fun c hc=>?_,by omega⟩,by omega⟩
 rw[wname_list h.1] at hc
 rcases List.mem_append.1 hc with hc | hc
 ·have:∀ c∈([108,111,103,46]:List UInt8),okChar c=true:=by decide
  exact this c hc
 ·have:=dec_ok _ c hc
  unfold okChar
  simp only[Bool.or_eq_true,Bool.and_eq_true,decide_eq_true_eq]
  exact .inl (.inr this)

theorem numN_leN (n:Nat):∀ k:Nat,numN (leN n k)=n % 256 ^ k:=by
 intro k
 induction k generalizing n with
 | zero=>simp[leN,numN,Nat.mod_one]
 | succ k ih=>
  rw[leN,numN,ih,UInt8.toNat_ofNat']
  have e:256 ^ (k+1)=256*256 ^ k:=by rw[Nat.pow_succ,Nat.mul_comm]
  rw[e,Nat.mod_mul]
  show n % 256 % 256+_=_
  omega
theorem little_le {n:Int} (h:0≤n∧n<4294967296):littleI (leI n 4)=n:=by
 unfold littleI leI
 rw[List.take_of_length_le (by rw[leN_len]; decide),numN_leN,Nat.mod_eq_of_lt (by show n.toNat<4294967296; omega)]
 omega

theorem take_app {α:Type} {a b:List α} {n:Nat} (h:a.length=n):(a++b).take n=a:=by rw[←h]; simp
theorem next_rec {d:List UInt8} (hd:d.length≤1048576) (rest:List UInt8):nextI (recB d++rest)=(d,((d.length:Int)+12),0):=by
 have hl4:(leI (d.length:Int) 4).length=4:=leI_len _ _
 have hm4:(leI (maskI (crcI (leI (d.length:Int) 4))) 4).length=4:=leI_len _ _
 have hc4:(leI (maskI (crcI d)) 4).length=4:=leI_len _ _
 have e:recB d++rest=leI (d.length:Int) 4++(leI (maskI (crcI (leI (d.length:Int) 4))) 4++(leI (maskI (crcI d)) 4++(d++rest))):=by simp[recB]
 have t4:(recB d++rest).take 4=leI (d.length:Int) 4:=by rw[e]; exact take_app hl4
 have t8:((recB d++rest).take 8).drop 4=leI (maskI (crcI (leI (d.length:Int) 4))) 4:=by
  rw[e,←List.append_assoc,take_app (by rw[List.length_append,hl4,hm4])]
  rw[List.drop_append_of_le_length (by omega),List.drop_of_length_le (by omega),List.nil_append]
 have t12:((recB d++rest).take 12).drop 8=leI (maskI (crcI d)) 4:=by
  rw[e,←List.append_assoc,←List.append_assoc,take_app (by rw[List.length_append,List.length_append,hl4,hm4,hc4])]
  rw[List.drop_append_of_le_length (by rw[List.length_append]; omega),List.drop_of_length_le (by rw[List.length_append]; omega),List.nil_append]
 have l4:littleI ((recB d++rest).take 4)=(d.length:Int):=by rw[t4]; exact little_le (by omega)
 have m1:=maskI_b (crcI (leI (d.length:Int) 4))
 have m2:=maskI_b (crcI d)
 have tn:((recB d++rest).take (12+littleI ((recB d++rest).take 4)).toNat).drop 12=d:=by
  rw[l4,take_app (by rw[recB_len]; omega)]
  unfold recB
  rw[List.drop_append_of_le_length (by simp only[List.length_append,leI_len]; decide),List.drop_of_length_le (by simp only[List.length_append,leI_len]; decide),List.nil_append]
 unfold nextI
 rw[if_neg (by rw[List.length_append,recB_len]; omega),if_neg,if_neg (by rw[List.length_append,recB_len,l4]; omega),if_neg]
 ·rw[tn,l4]; simp only[Prod.mk.injEq,and_true,true_and]; omega
 ·rw[t12,tn,little_le m2]
  intro h; exact h (by omega)
 ·rw[t8,t4,little_le m1,little_le (by omega)]
  rintro (h | h)
  ·exact h (by omega)
  ·omega

theorem getA_put:∀ (n i a:Nat),i≤9→n<2 ^ (64 - 7*i)→(0<i→0<n)→getA i a (putN n)=(a+n*2 ^ (7*i),i+(putN n).length,0):=by
 intro n
 induction n using Nat.strongRecOn with
 | _ n ih=>
  intro i a hi hn hp
  have h9:i=9→n≤1:=fun e=>by
   subst e
   have:(2:Nat) ^ (64 - 7*9)=2:=by decide
   omega
  by_cases h:n<128
  ·rw[putN_lt h,getA,UInt8.toNat_ofNat']
   have e:n % 2 ^ 8=n:=Nat.mod_eq_of_lt (by omega)
   rw[e,if_neg (by rintro ⟨h1,h2⟩; have:=h9 h1; omega),if_pos h,if_neg (by rintro ⟨h1,h2⟩; have:=hp h2; omega)]
   rfl
  ·rw[putN_ge h,getA,UInt8.toNat_ofNat']
   have e:(n % 128+128) % 2 ^ 8=n % 128+128:=Nat.mod_eq_of_lt (by omega)
   have hi8:i+1≤9:=by
    rcases Nat.lt_or_ge i 9 with h1 | h1
    ·omega
    ·have:=h9 (by omega); omega
   have hpow:2 ^ (64 - 7*i)=128*2 ^ (64 - 7*(i+1)):=by
    rw[show 64 - 7*i=7+(64 - 7*(i+1)) by omega,Nat.pow_add]
   rw[e,if_neg (by omega),if_neg (by omega),ih (n / 128) (by omega) (i+1) _ hi8 (by rw[Nat.div_lt_iff_lt_mul (by decide)]; omega) (by omega)]
   have e2:(n % 128+128) % 128=n % 128:=by omega
   have e3:2 ^ (7*(i+1))=128*2 ^ (7*i):=by rw[show 7*(i+1)=7+7*i by omega,Nat.pow_add]
   rw[e2,e3,List.length_cons]
   have e4:n / 128*(128*2 ^ (7*i))=n / 128*128*2 ^ (7*i):=by rw[Nat.mul_assoc]
   have e5:n % 128*2 ^ (7*i)+n / 128*128*2 ^ (7*i)=n*2 ^ (7*i):=by rw[←Nat.add_mul]; congr 1; omega
   simp only[Prod.mk.injEq,and_true]
   rw[e4]
   exact ⟨by omega,by omega⟩
theorem getI_put {g:Int} (h:0≤g∧g<18446744073709551616):getI (putI g)=(g,((putI g).length:Int),0):=by
 unfold getI putI
 rw[getA_put g.toNat 0 0 (by decide) (by show g.toNat<18446744073709551616; omega) (by omega)]
 simp only[Nat.zero_add,Nat.mul_zero,Nat.pow_zero,Nat.mul_one,Prod.mk.injEq]
 exact ⟨by omega,trivial,rfl⟩

theorem allA_recs:∀ (ds:List (List UInt8)) (pre:List UInt8) (f:Nat) (out:List (List UInt8)),(∀ d∈ds,d.length≤1048576)→(pre++(ds.map recB).flatten).length≤pre.length+f →
  allA f (pre++(ds.map recB).flatten) pre.length out=(out++ds,((pre++(ds.map recB).flatten).length:Int),0)
 | [],pre,f,out,_,_=>by
  simp only[List.map_nil,List.flatten_nil,List.append_nil]
  cases f with
  | zero=>rfl
  | succ f=>rw[allA,if_pos (Nat.le_refl _)]
 | d::ds,pre,f,out,hd,hf=>by
  have hdl:=hd d (by simp)
  simp only[List.map_cons,List.flatten_cons,List.length_append,recB_len] at hf
  cases f with
  | zero=>omega
  | succ f=>
   have hdrop:(pre++((d::ds).map recB).flatten).drop pre.length=recB d++(ds.map recB).flatten:=by simp
   have hn:=next_rec hdl (ds.map recB).flatten
   rw[allA,if_neg (by simp only[List.map_cons,List.flatten_cons,List.length_append,recB_len]; omega),hdrop,hn]
   simp only
   rw[if_neg (by decide),if_neg (by decide)]
   have hpre:pre++((d::ds).map recB).flatten=(pre++recB d)++(ds.map recB).flatten:=by simp
   have hat:pre.length+((d.length:Int)+12).toNat=(pre++recB d).length:=by rw[List.length_append,recB_len]; omega
   rw[hpre,hat,allA_recs ds (pre++recB d) f (out++ [d]) (fun x hx=>hd x (by simp[hx])) (by simp only[List.length_append,recB_len]; omega)]
   simp
theorem allI_recs {ds:List (List UInt8)} (h:∀ d∈ds,d.length≤1048576):allI (ds.map recB).flatten=(ds,((ds.map recB).flatten.length:Int),0):=by
 have:=allA_recs ds [] (ds.map recB).flatten.length [] h (by simp)
 simpa [allI] using this

def partB (g:Int) (ts:List (List UInt8)):List UInt8:=((putI g::ts).map recB).flatten
theorem partB_nil (g:Int):partB g []=recB (putI g):=by simp[partB]
theorem partB_snoc (g:Int) (ts:List (List UInt8)) (d:List UInt8):partB g (ts++ [d])=partB g ts++recB d:=by simp[partB]
theorem allI_part {g:Int} (hg:0≤g∧g≤67108864) {ts:List (List UInt8)} (h:∀ d∈ts,d.length≤1048576):allI (partB g ts)=(putI g::ts,((partB g ts).length:Int),0):=
 allI_recs fun d hd=>by
  rcases List.mem_cons.1 hd with rfl | hd
  ·have:=putN_len64 (n:=g.toNat) (by omega); unfold putI; omega
  ·exact h d hd
theorem parseI_part {g:Int} (hg:0≤g∧g≤67108864) (ts:List (List UInt8)):parseI (putI g::ts)=(g,true,0):=by
 show (if (getI (putI g)).2.2≠0∨(getI (putI g)).2.1≠((putI g).length:Int)∨(getI (putI g)).1>67108864 then ((0,false,12):Int×Bool×Int) else ((getI (putI g)).1,true,0))=_
 rw[getI_put (by omega),if_neg]
 rintro (h | h | h)
 ·exact h rfl
 ·exact h rfl
 ·exact absurd h (by simp only; omega)
end Go.Ax

namespace Go.Ax
open Go.Proofs Go.RowKit Go.Lib
set_option maxRecDepth 100000

theorem parse_app:∀ (l r:List UInt8) (a b:Nat),parseUint10 a l= .ok b→parseUint10 a (l++r)=parseUint10 b r
 | [],r,a,b,h=>by
  simp only[parseUint10,NumEnd.ok.injEq] at h
  rw[h]; rfl
 | c::l,r,a,b,h=>by
  rw[List.cons_append]
  simp only[parseUint10] at h ⊢
  split at h
  ·rename_i hc
   rw[if_pos hc]
   split at h
   ·cases h
   ·rename_i h1
    rw[if_neg h1]
    split at h
    ·cases h
    ·rename_i h2
     rw[if_neg h2]
     exact parse_app l r _ b h
  ·cases h
theorem dig_nat {d:Nat} (h:d<10):(UInt8.ofNat (48+d)).toNat=48+d:=by rw[UInt8.toNat_ofNat']; omega
theorem parse_one {a d:Nat} (hd:d<10) (ha:a*10+d<18446744073709551616):parseUint10 a [UInt8.ofNat (48+d)]= .ok (a*10+d):=by
 simp only[parseUint10,dig_nat hd]
 rw[if_pos (by omega),if_neg (by omega),if_neg (by omega),show 48+d - 48=d by omega]
theorem parse_dec (u:Nat):u<18446744073709551616→parseUint10 0 (decDigits u)= .ok u:=by
 induction u using Nat.strongRecOn with
 | _ u ih=>
  intro hu
  rw[decDigits]
  split
  ·rename_i h
   have:=parse_one (a:=0) h (by omega)
   simpa using this
  ·have h1:=parse_app (decDigits (u / 10)) [UInt8.ofNat (48+u % 10)] 0 (u / 10) (ih (u / 10) (by omega) (by omega))
   rw[h1,parse_one (by omega) (by omega)]
   congr 1
   omega
theorem dec_head (u:Nat):∃ c r,decDigits u=c::r∧48≤c.toNat∧c.toNat≤57:=by
 induction u using Nat.strongRecOn with
 | _ u ih=>
  rw[decDigits]
  split
  ·rename_i h
   exact ⟨_,_,rfl,by rw[dig_nat h]; omega,by rw[dig_nat h]; omega⟩
  ·obtain ⟨c,r,e,h1,h2⟩:=ih (u / 10) (by omega)
   exact ⟨c,r++ [UInt8.ofNat (48+u % 10)],by rw[e]; rfl,h1,h2⟩
theorem atoi_itoa {v:Int} (h:0≤v∧v≤9223372036854775807):atoiAll (itoa v)= .ok v:=by
 have e:itoa v=decDigits v.toNat:=by unfold itoa; rw[if_neg (by omega)]
 obtain ⟨c,r,e1,h1,h2⟩:=dec_head v.toNat
 have hp:=parse_dec v.toNat (by omega)
 rw[e,e1]
 rw[e1] at hp
 unfold atoiAll
 simp only
 rw[if_neg (by omega)]
 unfold parseMag
 rw[if_neg (by simp),hp]
 simp only
 rw[if_neg (by omega),if_neg (by omega),if_neg (by omega)]
 congr 1
 omega
theorem itoa_inj {m n:Int} (hm:0≤m∧m≤9223372036854775807) (hn: -9223372036854775808≤n∧n≤9223372036854775807) (h:itoa m=itoa n):m=n:=by
 by_cases h0:n<0
 ·exfalso
  have e:itoa m=decDigits m.toNat:=by unfold itoa; rw[if_neg (by omega)]
  have e2:itoa n=45::decDigits n.natAbs:=by unfold itoa; rw[if_pos h0]
  obtain ⟨c,r,e1,h1,h2⟩:=dec_head m.toNat
  rw[e,e1,e2] at h
  cases h
  revert h1
  decide
 ·have h1:=atoi_itoa hm
  rw[h,atoi_itoa (v:=n) ⟨by omega,hn.2⟩] at h1
  injection h1 with h1
  exact h1.symm
theorem wname_listI (n:Int):(wname n).data.toList= [108,111,103,46]++itoa n:=by
 unfold wname itoaB
 rw[ByteArray.data_append]
 simp
theorem has_wname (n:Int):Lib.hasPrefix (wname n).data.toList logP.data.toList=true:=by
 rw[wname_listI]
 rfl
theorem rest_wname (n:Int):restB (wname n)=itoaB n:=by
 unfold restB Lib.trimPrefix
 rw[if_pos (has_wname n),wname_listI]
 rfl
theorem wname_of {name:ByteArray} {v:Int} (h:Lib.hasPrefix name.data.toList logP.data.toList=true) (e:itoaB v=restB name):name=wname v:=by
 apply ByteArray.ext
 apply Array.toList_inj.mp
 rw[wname_listI,rest_eq e]
 unfold Lib.trimPrefix
 rw[if_pos h]
 unfold Lib.hasPrefix at h
 obtain ⟨t,ht⟩:=List.isPrefixOf_iff_prefix.1 h
 rw[←ht,List.drop_left]
 rfl
theorem itoaB_list {v:Int}:(itoaB v).data.toList=itoa v:=by simp[itoaB]

def NumE (name:ByteArray) (e:Ending):Prop:=(∃ v:Int,(1≤v∧v≤1073741824)∧name=wname v∧e= .returned (.tuple #[.int .i64 v, .bool true]))∨((∀ v:Int,1≤v→v≤1073741824→name≠wname v)∧e= .returned (.tuple #[.int .i64 0, .bool false]))
theorem number_all (name : ByteArray) (hs : name.size ≤ 1000) (w : World) {t1 t2 : TypeId} {p1 p2 : Value} (h1 : w.var? DP "strconv.ErrSyntax" = some #[.iface t1 p1]) (h2 : w.var? DP "strconv.ErrRange" = some #[.iface t2 p2]) (hp : Lib.TabIs DP w "internal/strconv.uint64pow10" .u64 Lib.pow10Tab) :
  Calls DP 28 #[.string name] w fun e w'=>NumE name e∧Below w.heap.size w w':=by
 have no:Lib.atoiAll (restB name).data.toList= .«syntax» ∨ Lib.atoiAll (restB name).data.toList= .range→∀ v:Int,1≤v→v≤1073741824→name≠wname v:=fun h v g1 g2 e=>by
  rw[e,rest_wname,itoaB_list,atoi_itoa ⟨by omega,by omega⟩] at h
  rcases h with h | h <;> cases h
 cases hpre:Lib.hasPrefix name.data.toList logP.data.toList with
 | false=>
  refine (number_no name w hpre).mono fun e w' ⟨he,hb⟩=>⟨.inr ⟨fun v _ _ ev=>?_,he⟩,hb⟩
  rw[ev,has_wname] at hpre
  cases hpre
 | true=>
  cases ha:Lib.atoiAll (restB name).data.toList with
  | «syntax» => exact (number_syn name hs w hpre ha t1 p1 h1).mono fun e w' ⟨he,hb⟩=>⟨.inr ⟨no (.inl ha),he⟩,hb⟩
  | range=>exact (number_rng name hs w hpre ha t2 p2 h2).mono fun e w' ⟨he,hb⟩=>⟨.inr ⟨no (.inr ha),he⟩,hb⟩
  | ok v=>
   refine (number_ok name hs w hpre v ha hp).mono fun e w' ⟨he,hb⟩=>⟨?_,hb⟩
   rcases he with ⟨g1,g2,he⟩ | ⟨hn,he⟩
   ·exact .inl ⟨v,g1,wname_of hpre g2,he⟩
   ·refine .inr ⟨fun u u1 u2 eu=>hn ?_,he⟩
    rw[eu,rest_wname,itoaB_list,atoi_itoa ⟨by omega,by omega⟩] at ha
    injection ha with ha
    subst ha
    exact ⟨⟨u1,u2⟩,by rw[eu,rest_wname]⟩
end Go.Ax

namespace Go.Ax
open Go.Proofs Go.RowKit
set_option maxRecDepth 100000

theorem wp_any {x:Tree} {K:AE→St→Prop} (h:x.wp K):(Tree.any x).wp K:=h
theorem wp_sbyte {d:Nat} {x:Tree} {K:AE→St→Prop} (h:x.wp K):(Tree.sbyte d x).wp K:=h

abbrev dkB (D:Dsk):Box:= .obj [] (diskP D)
def syncIf (D:Dsk) (p:Int):Dsk:=if 0<p then (syncD D (wname p)).1 else D
def startD (D:Dsk) (p g n:Int):Dsk:=(appendD (createD (syncIf D p) (wname n)).1 (wname n) (recB (putI g))).1

theorem putI_len (g:Int) (h:0≤g∧g<18446744073709551616):(putI g).length≤10:=putN_len64 (by omega)

def OStart:RSpec:=fun args B r B'=>∃ (D:Dsk) (p g:Int) (o:Bool) (n:Int),D.Ok∧D.down=false∧(0≤p∧p≤1073741824)∧(0≤g∧g≤67108864)∧(-9223372036854775808≤n∧n≤9223372036854775807) ∧
 args= [.ptr 1 0 0,vi n]∧B= [dkB D,logC 0 p g o] ∧
 (((n<1∨0<p∧n≤p)∧r=vi 1∧B'=B) ∨
  ((1≤n∧n≤1073741824∧¬(0<p∧n≤p))∧(0<p→(syncD D (wname p)).2=0)∧((recB (putI g)).length:Int)≤(syncIf D p).room - (syncIf D p).used∧(sizeD (syncIf D p) (wname n)).2≠0 ∧
  (createD (syncIf D p) (wname n)).2=0∧(appendD (createD (syncIf D p) (wname n)).1 (wname n) (recB (putI g))).2=0∧r=vi 0∧B'= [dkB (startD D p g n),logC 0 n (recB (putI g)).length true]))
theorem SStart:SoundR DP iStart OStart:=sound_genT mixedD Γ6_ok Δ6_ok hfStart heStart hbStart (by
 rintro args B r B' ⟨D,p,g,o,n,ok,hd,hp,hg,hw,rfl,rfl,h⟩
 refine ⟨by rw[hnStart]; rfl,_,TStart_chk D p g o n,?_⟩
 have hgl:=putI_len g (by omega)
 have hrl:(recB (putI g)).length≤1000000000:=by rw[recB_len]; omega
 have hwn:=wname_size hw
 have hN:(wname n).size≤1000000000:=by omega
 unfold TStart
 rcases h with ⟨hbad,rfl,rfl⟩ | ⟨hn,hs,hroom,hsz,hc,ha,rfl,rfl⟩
 ·refine wp_sp (fun _=>wp_leaf rfl ⟨rfl,rfl⟩) (fun h1=>wp_sp (fun _=>wp_leaf rfl ⟨rfl,rfl⟩) (fun _=>wp_sp (fun _=>wp_sp (fun _=>wp_leaf rfl ⟨rfl,rfl⟩) (fun h=>?_)) (fun h=>?_)))
  ·have h1:=of_decide_eq_false h1; have h:=of_decide_eq_false h; omega
  ·have h1:=of_decide_eq_false h1; have h:=of_decide_eq_false h; omega
 ·have hnw: -9223372036854775808≤n∧n≤9223372036854775807:=hw
  refine wp_sp (fun h=>absurd (of_decide_eq_true h) (by omega)) (fun _=>wp_sp (fun h=>absurd (of_decide_eq_true h) (by omega)) (fun _=>wp_sp (fun hpp=>wp_sp (fun h=>absurd (of_decide_eq_true h) (by have:=of_decide_eq_true hpp; omega)) (fun _=>?_)) (fun hpp=>?_)))
  ·have hpp:0<p:=of_decide_eq_true hpp
   have e:syncIf D p=(syncD D (wname p)).1:=if_pos hpp
   unfold startD
   rw[e] at hroom hsz hc ha ⊢
   have ok1:=syncD_ok ok (wname p)
   have ok2:=createD_ok ok1 (wname n)
   refine wp_callr (oDown ok rfl) (wp_sp (fun h=>absurd (hd.symm.trans h) (by decide)) (fun _=>wp_call (gHeadW_eq (by omega)) (wp_callr (oRPut (by omega)) (wp_sp (fun _=>?_) (fun h=>absurd (of_decide_eq_false h) (by omega))))))
   refine (wp_any<|wp_call (gNameW_eq (by omega)) (wp_callr (oSync ok rfl) (wp_sp (fun h=>absurd (hs hpp) (by simpa using h)) (fun _=>wp_callr (oRoom ok1 rfl) (wp_sp (fun h=>absurd (of_decide_eq_true h) (by omega)) (fun _=>?_))))))
   refine (wp_any<|wp_call (gNameW_eq hnw) (wp_callr (oSize ok1 rfl) (wp_sp (fun h=>absurd (by simpa using h) hsz) (fun _=>?_))))
   refine (wp_any<|wp_call (gNameW_eq hnw) (wp_callr (oCreate ok1 hN rfl) (wp_sp (fun h=>absurd hc (by simpa using h)) (fun _=>?_))))
   exact (wp_any<|wp_call (gNameW_eq hnw) (wp_callr (oAppendS ok2 hrl rfl rfl) (wp_sp (fun h=>absurd ha (by simpa using h)) (fun _=>wp_leaf rfl ⟨rfl,rfl⟩))))
  ·have hpp:¬0<p:=of_decide_eq_false hpp
   have e:syncIf D p=D:=if_neg hpp
   unfold startD
   rw[e] at hroom hsz hc ha ⊢
   have ok2:=createD_ok ok (wname n)
   refine wp_callr (oDown ok rfl) (wp_sp (fun h=>absurd (hd.symm.trans h) (by decide)) (fun _=>wp_call (gHeadW_eq (by omega)) (wp_callr (oRPut (by omega)) (wp_sp (fun h=>absurd (of_decide_eq_true h) (by omega)) (fun _=>wp_callr (oRoom ok rfl) (wp_sp (fun h=>absurd (of_decide_eq_true h) (by omega)) (fun _=>?_)))))))
   refine (wp_any<|wp_call (gNameW_eq hnw) (wp_callr (oSize ok rfl) (wp_sp (fun h=>absurd (by simpa using h) hsz) (fun _=>?_))))
   refine (wp_any<|wp_call (gNameW_eq hnw) (wp_callr (oCreate ok hN rfl) (wp_sp (fun h=>absurd hc (by simpa using h)) (fun _=>?_))))
   exact (wp_any<|wp_call (gNameW_eq hnw) (wp_callr (oAppendS ok2 hrl rfl rfl) (wp_sp (fun h=>absurd ha (by simpa using h)) (fun _=>wp_leaf rfl ⟨rfl,rfl⟩)))))

def addG (D:Dsk) (p g:Int) (s:ByteArray):Int:=if (appendD D (wname p) (recB s.data.toList)).2=0 then g+(recB s.data.toList).length else g
def OAdd:RSpec:=fun args B r B'=>∃ (D:Dsk) (p g:Int) (o:Bool) (s:ByteArray),D.Ok∧(0≤p∧p≤1073741824)∧(0≤g∧g≤4611686018427387904)∧s.size≤1048576∧args= [.ptr 1 0 0,vs s]∧B= [dkB D,logC 0 p g o] ∧
 ((o=false∧r=vi 7∧B'=B)∨(o=true∧r=vi (appendD D (wname p) (recB s.data.toList)).2∧B'= [dkB (appendD D (wname p) (recB s.data.toList)).1,logC 0 p (addG D p g s) o]))
theorem SAdd:SoundR DP iAdd OAdd:=sound_genT mixedD Γ6_ok Δ6_ok hfAdd heAdd hbAdd (by
 rintro args B r B' ⟨D,p,g,o,s,ok,hp,hg,hs,rfl,rfl,h⟩
 refine ⟨by rw[hnAdd]; rfl,_,TAdd_chk D p g o s,?_⟩
 have hsl:s.data.toList.length≤1048576:=hs
 have hrl:(recB s.data.toList).length≤1000000000:=by rw[recB_len]; omega
 unfold TAdd
 rcases h with ⟨rfl,rfl,rfl⟩ | ⟨rfl,rfl,rfl⟩
 ·exact wp_sp (fun h=>absurd h (by decide)) (fun _=>wp_leaf rfl ⟨rfl,rfl⟩)
 ·refine wp_sp (fun _=>(wp_sbyte<|wp_callr (oRPutS hsl rfl) (wp_any<|wp_call (gNameW_eq (by omega)) (wp_callr (oAppendS ok hrl rfl rfl) (wp_sp (fun h=>wp_leaf rfl ?_) (fun h=>wp_i64 (by rw[recB_len]; omega) (wp_leaf rfl ?_))))))) (fun h=>absurd h (by decide))
  ·have e:addG D p g s=g:=if_neg (by simpa using h)
   rw[e]; exact ⟨rfl,rfl⟩
  ·have e:addG D p g s=g+(recB s.data.toList).length:=if_pos (by simpa using h)
   have e0:(appendD D (wname p) (recB s.data.toList)).2=0:=by simpa using h
   rw[e,e0]; exact ⟨rfl,rfl⟩)

def OPart:RSpec:=fun args B r B'=>∃ (D:Dsk) (p g:Int) (o:Bool),args= [.ptr 1 0 0]∧B= [dkB D,logC 0 p g o]∧r=vi p∧B'=B
theorem SPart:SoundR DP iPart OPart:=sound_genT mixedD Γ6_ok Δ6_ok hfPart hePart hbPart (by
 rintro args B r B' ⟨D,p,g,o,rfl,rfl,rfl,rfl⟩
 exact ⟨by rw[hnPart]; rfl,_,TPart_chk D p g o,wp_leaf rfl ⟨rfl,rfl⟩⟩)
def OSizeW:RSpec:=fun args B r B'=>∃ (D:Dsk) (p g:Int) (o:Bool),args= [.ptr 1 0 0]∧B= [dkB D,logC 0 p g o]∧r=vi g∧B'=B
theorem SSizeW:SoundR DP iSizeW OSizeW:=sound_genT mixedD Γ6_ok Δ6_ok hfSizeW heSizeW hbSizeW (by
 rintro args B r B' ⟨D,p,g,o,rfl,rfl,rfl,rfl⟩
 exact ⟨by rw[hnSizeW]; rfl,_,TSizeW_chk D p g o,wp_leaf rfl ⟨rfl,rfl⟩⟩)
def OOpened:RSpec:=fun args B r B'=>∃ (D:Dsk) (p g:Int) (o:Bool),args= [.ptr 1 0 0]∧B= [dkB D,logC 0 p g o]∧r=vb o∧B'=B
theorem SOpened:SoundR DP iOpened OOpened:=sound_genT mixedD Γ6_ok Δ6_ok hfOpened heOpened hbOpened (by
 rintro args B r B' ⟨D,p,g,o,rfl,rfl,rfl,rfl⟩
 exact ⟨by rw[hnOpened]; rfl,_,TOpened_chk D p g o,wp_leaf rfl ⟨rfl,rfl⟩⟩)

def NilR (post:List AV→AV→Prop):RSpec:=fun args B r B'=>B= []∧B'= []∧post args r
theorem SNStart:SoundR DP iStart (NilR fun a r=>∃ n,a= [nilP,vi n]∧r=vi 1):=sound_genT mixedD Γ6_ok Δ6_ok hfStart heStart hbStart (by
 rintro args B r B' ⟨rfl,rfl,n,rfl,rfl⟩
 exact ⟨by rw[hnStart]; rfl,_,TNStart_chk n,wp_leaf rfl ⟨rfl,rfl⟩⟩)
theorem SNAdd:SoundR DP iAdd (NilR fun a r=>∃ s,a= [nilP,vs s]∧r=vi 1):=sound_genT mixedD Γ6_ok Δ6_ok hfAdd heAdd hbAdd (by
 rintro args B r B' ⟨rfl,rfl,s,rfl,rfl⟩
 exact ⟨by rw[hnAdd]; rfl,_,TNAdd_chk s,wp_leaf rfl ⟨rfl,rfl⟩⟩)
theorem SNSync:SoundR DP iSyncW (NilR fun a r=>a= [nilP]∧r=vi 1):=sound_genT mixedD Γ6_ok Δ6_ok hfSyncW heSyncW hbSyncW (by
 rintro args B r B' ⟨rfl,rfl,rfl,rfl⟩
 exact ⟨by rw[hnSyncW]; rfl,_,TNSync_chk,wp_leaf rfl ⟨rfl,rfl⟩⟩)
theorem SNPart:SoundR DP iPart (NilR fun a r=>a= [nilP]∧r=vi 0):=sound_genT mixedD Γ6_ok Δ6_ok hfPart hePart hbPart (by
 rintro args B r B' ⟨rfl,rfl,rfl,rfl⟩
 exact ⟨by rw[hnPart]; rfl,_,TNPart_chk,wp_leaf rfl ⟨rfl,rfl⟩⟩)
theorem SNSize:SoundR DP iSizeW (NilR fun a r=>a= [nilP]∧r=vi 0):=sound_genT mixedD Γ6_ok Δ6_ok hfSizeW heSizeW hbSizeW (by
 rintro args B r B' ⟨rfl,rfl,rfl,rfl⟩
 exact ⟨by rw[hnSizeW]; rfl,_,TNSize_chk,wp_leaf rfl ⟨rfl,rfl⟩⟩)
theorem SNOpened:SoundR DP iOpened (NilR fun a r=>a= [nilP]∧r=vb false):=sound_genT mixedD Γ6_ok Δ6_ok hfOpened heOpened hbOpened (by
 rintro args B r B' ⟨rfl,rfl,rfl,rfl⟩
 exact ⟨by rw[hnOpened]; rfl,_,TNOpened_chk,wp_leaf rfl ⟨rfl,rfl⟩⟩)
theorem SNOpen:SoundR DP iOpen (NilR fun a r=>∃ n,a= [nilP,vi n]∧r= .tup [nilP,nilS,vi 1]):=sound_genT mixedD Γ6_ok Δ6_ok hfOpen heOpen hbOpen (by
 rintro args B r B' ⟨rfl,rfl,n,rfl,rfl⟩
 exact ⟨by rw[hnOpen]; rfl,_,TNOpen_chk n,wp_leaf rfl ⟨rfl,rfl⟩⟩)
end Go.Ax

namespace Go.Ax
open Go.Proofs Go.RowKit
set_option maxRecDepth 100000

abbrev iBeg:Nat:=20
noncomputable abbrev nBeg:Func:=Tryd.f20
theorem hfBeg:DP.funcs[iBeg]? = some nBeg:=by kernel_rfl
theorem heBeg:enters DP iBeg=true:=by kernel_rfl
theorem hbBeg:nBeg.body.isSome=true:=by kernel_rfl
theorem hnBeg:nBeg.ntmps=34:=by kernel_rfl
abbrev iHeadL:Nat:=14
noncomputable abbrev nHeadL:Func:=Tryd.f14
theorem hfHeadL:DP.funcs[iHeadL]? = some nHeadL:=by kernel_rfl
theorem heHeadL:enters DP iHeadL=true:=by kernel_rfl
theorem hbHeadL:nHeadL.body.isSome=true:=by kernel_rfl
noncomputable def TBeg_l1_e (got:List ByteArray) (all:List ByteArray) (s1:Int):St:=([(0,vl (got.map nameE.f)),(1, .rs 0 0 1 0 all.length),(20,vi (got.length:Int)),(21,vi s1)],[nameE.bx 0 all])
noncomputable def TBeg_l1_x (all:List ByteArray) (x1:Unit):AE×St:=(.ret,([(6,vb false)],[nameE.bx 0 all]))
noncomputable def TBeg_l1_x' (all:List ByteArray) (y1:Unit):AE×St:=((.exit 0),([],[nameE.bx 0 all]))
noncomputable def TBeg_l1_b (got:List ByteArray) (all:List ByteArray) (s1:Int):Tree:=
.sp 22 (decide (s1<(got.length:Int))) (
.elem 26 (got.map nameE.f) nameE got s1 (fun e1=> .ridx 30 all.length s1 (.rload 31 (rowC (all.map nameE.f)) (0+Int.toNat s1*1) nameE all s1 0 (fun e2=> .sp 32 (!(e1.toList == e2.toList)) (
.leaf ⟨[6],[(0,0,some (all.map nameE.f))]⟩ [rowC (all.map nameE.f)] .ret (some (TBeg_l1_x all ()).2)) (
.int 33 (IntKind.i64.wrap (s1+1)) (s1+1) (.leaf ⟨[0,1,20,21],[(0,0,some (all.map nameE.f))]⟩ [rowC (all.map nameE.f)] .normal (some (TBeg_l1_e got all (s1+1))))))))) (
.leaf ⟨[],[(0,0,some (all.map nameE.f))]⟩ [rowC (all.map nameE.f)] (.exit 0) (some (TBeg_l1_x' all ()).2))
noncomputable def TBeg (got:List ByteArray) (all:List ByteArray) (k:Int):Tree:=
.int 9 ((got.map nameE.f).length:Int) (got.length:Int) (.sp 11 (decide ((got.length:Int)<k)) (
.leaf ⟨[0],[(0,0,some (all.map nameE.f))]⟩ [rowC (all.map nameE.f)] .ret (some ([(0,vb false)],[nameE.bx 0 all]))) (
.int 14 ((got.map nameE.f).length:Int) (got.length:Int) (.sp 17 (decide ((got.length:Int)>((all.length:Nat):Int))) (
.leaf ⟨[0],[(0,0,some (all.map nameE.f))]⟩ [rowC (all.map nameE.f)] .ret (some ([(0,vb false)],[nameE.bx 0 all]))) (
.int 20 ((got.map nameE.f).length:Int) (got.length:Int) (.loop ⟨[0,1,20,21],[(0,0,some (all.map nameE.f))]⟩ [rowC (all.map nameE.f)] (some (TBeg_l1_e got all 0)) (TBeg_l1_e got all) (TBeg_l1_x all) (TBeg_l1_x' all) 0 (TBeg_l1_b got all) (fun (x1:Unit)=> .leaf ⟨[0],[(0,0,some (all.map nameE.f))]⟩ [rowC (all.map nameE.f)] .ret (some ([(0,vb false)],[nameE.bx 0 all]))) (fun (y1:Unit)=> .leaf ⟨[0],[(0,0,some (all.map nameE.f))]⟩ [rowC (all.map nameE.f)] .ret (some ([(0,vb true)],[nameE.bx 0 all]))))))))

theorem TBeg_chk (got:List ByteArray) (all:List ByteArray) (k:Int):fnC DP Γ0 Δ0 Tryd.f20 [vl (got.map nameE.f), .rs 0 0 1 0 all.length,vi k] [nameE.bx 0 all] (TBeg got all k)=TBeg got all k:=by kernel_rfl

end Go.Ax
