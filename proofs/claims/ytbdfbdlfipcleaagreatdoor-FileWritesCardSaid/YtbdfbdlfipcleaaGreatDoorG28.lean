/- Plain: a file is opened; its pages. -/
import Derived.Test.YtbdfbdlfipcleaaGreatDoorG27
import Derived.Test.YtbdfbdlfipcleaaGreatDoorG26
import Derived.Test.YtbdfbdlfipcleaaGreatDoorG21
import Derived.Test.YtbdfbdlfipcleaaGreatDoorTie
import Derived.Test.YtbdfbdlfipcleaaGreatDoorG11
import Derived.OpenShut
import Derived.WalkKit
import Derived.ProofKit
import Derived.LaidMore
import Derived.LaidLaws
import Derived.LaidHandle
import Derived.Lib.LaidTab
import Derived.Stop.Joined
import Derived.OwnWalk
import Derived.Lib.Walk
import Derived.Lib.SliceRun
import Derived.Laws.AppendOwn
import Derived.Test.YtbdfbdlfipcleaaGreatDoorG25
set_option linter.unusedVariables false
set_option linter.unusedSimpArgs false
set_option linter.unusedSectionVars false
namespace Go.Ax
open Go.Proofs Go.RowKit
set_option maxRecDepth 100000

def fiveB (a b c d e:Int):List UInt8:=leI a 8++(leI b 8++(leI c 8++(leI d 8++leI e 8)))
def idxY (C:List (List Ent)):List UInt8:=recB (mkI (idxL 0 C)).1
def filB (L:List Ent):List UInt8:=recB (6::bloomI (namesL L []))
def footB (L:List Ent):List UInt8:=
 recB (fiveB (pagesB (chunks L 0 [])).length (idxY (chunks L 0 [])).length ((pagesB (chunks L 0 [])).length+(idxY (chunks L 0 [])).length) (filB L).length L.length)
def fileY (L:List Ent):List UInt8:=pagesB (chunks L 0 [])++(idxY (chunks L 0 [])++(filB L++footB L))

def atI (v:List UInt8):Option (Int×Int):=
 if (getI v).2.2≠0∨(getI v).1>67108864 then none else
 if (getI (v.drop (getI v).2.1.toNat)).2.2≠0∨(getI v).2.1+(getI (v.drop (getI v).2.1.toNat)).2.1≠v.length∨(getI (v.drop (getI v).2.1.toNat)).1>67108864 then none else
 some ((getI v).1,(getI (v.drop (getI v).2.1.toNat)).1)
def pairsI (c:List UInt8) (p:Par):List Par×Int:=match atI p.vl with
 | none=>([],12)
 | some (a,n)=>if (getF c a n).2≠0 then ([],12) else match parI (getF c a n).1 with
  | none=>([],12)
  | some L=>(L,0)
def withV (x:Ent) (v:ByteArray):Ent:=⟨x.key,x.seq,x.del,v⟩
def entsI:List Par→Option (List Ent)
 | []=>some []
 | p::L=>if (outI p.nl).2≠0∨chkE (withV (outI p.nl).1 p.val)≠0 then none else (entsI L).map (withV (outI p.nl).1 p.val :: ·)
def pageI (c:List UInt8) (idx:List Par) (i:Int):List Ent×Int:=
 if i<0 then ([],1) else match idx[i.toNat]? with
 | none=>([],1)
 | some p=>if (pairsI c p).2≠0 then ([],12) else match entsI (pairsI c p).1 with
  | none=>([],12)
  | some L=>if L= [] then ([],12) else (L,0)
structure FileR where
 idx:List Par
 bits:List UInt8
 cnt:Int
 low:ByteArray
 high:ByteArray
def noFile:FileR:=⟨[],[],0,⟨#[]⟩,⟨#[]⟩⟩
def numF (e:List UInt8) (i:Nat):Int:=littleI ((e.drop (8*i)).take 8)
def headI (c:List UInt8):Option (List Par×List UInt8×Int):=
 if (getF c (c.length - 52) 52).2≠0∨(getF c (c.length - 52) 52).1.length≠40 then none else
 if ((List.range 5).any fun i=>decide (numF (getF c (c.length - 52) 52).1 i>67108864))=true then none else
 if (getF c (numF (getF c (c.length - 52) 52).1 0) (numF (getF c (c.length - 52) 52).1 1)).2≠0 then none else
 match parI (getF c (numF (getF c (c.length - 52) 52).1 0) (numF (getF c (c.length - 52) 52).1 1)).1 with
 | none=>none
 | some idx=>if idx= [] then none else
  if (getF c (numF (getF c (c.length - 52) 52).1 2) (numF (getF c (c.length - 52) 52).1 3)).2≠0 then none else
  match (getF c (numF (getF c (c.length - 52) 52).1 2) (numF (getF c (c.length - 52) 52).1 3)).1 with
  | []=>none
  | b::bits=>if bits.length<8∨bits.length>1048576∨b≠6 then none else some (idx,bits,numF (getF c (c.length - 52) 52).1 4)
def openI (c:List UInt8):FileR×Int:=match headI c with
 | none=>(noFile,12)
 | some (idx,bits,n)=>if (pageI c idx 0).2≠0 then (noFile,12) else
  if (outI (idx.getLastD ⟨⟨#[]⟩,⟨#[]⟩⟩).nl).2≠0 then (noFile,12) else
  (⟨idx,bits,n,((pageI c idx 0).1.headD noE).key,(outI (idx.getLastD ⟨⟨#[]⟩,⟨#[]⟩⟩).nl).1.key⟩,0)

theorem at_put {a n:Int} (ha:0≤a∧a≤67108864) (hn:0≤n∧n≤67108864):atI (putI a++putI n)=some (a,n):=by
 have g1:=getI_app (g:=a) (by omega) (putI n)
 have g2:=getI_put (g:=n) (by omega)
 have d:(putI a++putI n).drop ((putI a).length:Int).toNat=putI n:=by rw[Int.toNat_natCast]; exact List.drop_left
 unfold atI
 simp only[g1,d,g2]
 rw[if_neg (by omega),if_neg (by simp only[List.length_append]; omega)]
theorem ents_of:∀ (L:List Ent),(∀ x∈L,chkE x=0∧0≤x.seq)→entsI (L.map ofE)=some L
 | [],_=>rfl
 | x::L,h=>by
  obtain ⟨h1,h2⟩:=h x (by simp)
  have ih:=ents_of L (fun y hy=>h y (by simp[hy]))
  have ho:=out_inn h2 h1
  have hw:withV ⟨x.key,x.seq,x.del,⟨#[]⟩⟩ (ofE x).val=x:=rfl
  rw[List.map_cons,entsI,ofE_nl,ho]
  simp only
  rw[hw,if_neg (by rintro (e | e); exact e rfl; exact e h1),ih]
  rfl
theorem lastE_mem {c:List Ent} (h:c≠ []):lastE c∈c:=by
 unfold lastE
 rw[List.getLastD_eq_getLast?,List.getLast?_eq_some_getLast h]
 exact List.getLast_mem h
theorem idxL_get:∀ (C:List (List Ent)) (o i:Nat) (hi:i<C.length),(idxL o C)[i]? = some ⟨⟨(innB (lastE C[i])).toArray⟩,⟨(putI ((o+(pagesB (C.take i)).length:Nat):Int)++putI (pageB C[i]).length).toArray⟩⟩
 | [],_,_,h=>by simp at h
 | c::C,o,0,_=>by simp[idxL,pagesB]
 | c::C,o,i+1,h=>by
  have ih:=idxL_get C (o+(pageB c).length) i (by simpa using h)
  rw[idxL,List.getElem?_cons_succ,ih]
  have e:o+(pageB c).length+(pagesB (C.take i)).length=o+(pagesB ((c::C).take (i+1))).length:=by
   rw[List.take_succ_cons,pagesB,List.length_append]; omega
  rw[e]
  rfl
theorem idxL_len:∀ (C:List (List Ent)) (o:Nat),(idxL o C).length=C.length
 | [],_=>rfl
 | c::C,o=>by rw[idxL,List.length_cons,List.length_cons,idxL_len C]
theorem pages_split:∀ (C:List (List Ent)) (i:Nat) (hi:i<C.length),pagesB C=pagesB (C.take i)++(pageB C[i]++pagesB (C.drop (i+1)))
 | [],_,h=>by simp at h
 | c::C,0,_=>by simp[pagesB]
 | c::C,i+1,h=>by
  have ih:=pages_split C i (by simpa using h)
  rw[List.take_succ_cons,pagesB,pagesB,List.drop_succ_cons,List.append_assoc,List.getElem_cons_succ,←ih]
structure Fits (L:List Ent):Prop where
 good:GoodE L
 ne:L≠ []
 few:L.length≤40
theorem Fits.sz {L:List Ent} (h:Fits L):∀ x∈L,szE x≤65664:=fun x hx=>by
 have:=chk_key (h.good.chk x hx)
 unfold szE
 omega
section
variable {L : List Ent}
theorem Fits.flat (h:Fits L):(chunks L 0 []).flatten=L:=by rw[chunks_flat]; rfl
theorem Fits.sub (h:Fits L) {c:List Ent} (hc:c∈chunks L 0 []):c.Sublist L:=by
 have:=List.sublist_flatten_of_mem hc
 rwa[h.flat] at this
theorem Fits.page (h:Fits L) {c:List Ent} (hc:c∈chunks L 0 []):(bodyL 0 [] (c.map ofE)).length≤90000:=by
 have hs:=h.sub hc
 have hl:=hs.length_le
 have hf:=h.few
 have hz:=chunks_size L 0 [] 65664 h.sz rfl (by omega) c hc
 have:=body_le c 0 [] (fun x hx=>h.good.chk x (hs.subset hx))
 omega
theorem Fits.par (h:Fits L) {c:List Ent} (hc:c∈chunks L 0 []):parI (mkI (c.map ofE)).1=some (c.map ofE)∧(mkI (c.map ofE)).2=0∧(mkI (c.map ofE)).1.length≤100000:=by
 have hp:=h.page hc
 have hs:=h.sub hc
 have hl:=hs.length_le
 have hf:=h.few
 have hu:=upL0_of (h.good.sub hs).inn
 obtain ⟨p1,_,_⟩:=par_mk hu (by omega)
 have hm:=mkI_ok hu (by omega)
 have hw:=wholeL_len (c.map ofE) 0 0 []
 have hcn:=cntL_le (c.map ofE) 0
 rw[List.length_map] at hcn
 refine ⟨p1,by rw[hm],?_⟩
 rw[hm]
 simp only[List.length_append,leI_len]
 show _+_+4≤_
 omega
theorem Fits.chunks_len (h:Fits L):(chunks L 0 []).length≤40:=by
 have hf:=h.few
 have hfl:=congrArg List.length h.flat
 have:∀ C:List (List Ent),(∀ c∈C,c≠ [])→C.length≤C.flatten.length:=fun C=>by
  induction C with
  | nil=>intro _; exact Nat.le_refl _
  | cons c C ih=>
   intro hC
   have h1:=ih (fun d hd=>hC d (by simp[hd]))
   have h2:=List.length_pos_iff.2 (hC c (by simp))
   rw[List.flatten_cons,List.length_append,List.length_cons]
   omega
 have:=this _ (chunks_ne L 0 [])
 omega
theorem pageB_le (h:Fits L) {c:List Ent} (hc:c∈chunks L 0 []):(pageB c).length≤100012:=by
 have:=(h.par hc).2.2
 unfold pageB
 rw[recB_len]
 omega
theorem pagesB_le (h:Fits L):∀ C:List (List Ent),(∀ c∈C,c∈chunks L 0 [])→(pagesB C).length≤100012*C.length
 | [],_=>Nat.le_refl _
 | c::C,hC=>by
  have h1:=pagesB_le h C (fun d hd=>hC d (by simp[hd]))
  have h2:=pageB_le h (hC c (by simp))
  rw[pagesB,List.length_append,List.length_cons]
  omega
end
end Go.Ax

namespace Go.Ax
open Go.Proofs Go.RowKit
set_option maxRecDepth 100000

theorem upL_pair:∀ (L:List Par) (last:List UInt8),(∀ p∈L,bl last p.nl)→L.Pairwise (fun p q=>bl p.nl q.nl)→upL last L
 | [],_,_,_=>trivial
 | x::L,last,h,hp=>⟨h x (by simp),upL_pair L _ (fun y hy=>List.rel_of_pairwise_cons hp hy) hp.of_cons⟩
theorem upL0_pair {L:List Par} (h:L.Pairwise (fun p q=>bl p.nl q.nl)):upL0 L:=by
 cases L with
 | nil=>trivial
 | cons x L=>exact upL_pair L _ (fun y hy=>List.rel_of_pairwise_cons h hy) h.of_cons
theorem body_le2 {a b:Nat} (hb:b<1000000000) (ha:a<1000000000):∀ (L:List Par) (i:Nat) (last:List UInt8),(∀ p∈L,p.nl.length≤a∧p.vl.length≤b)→(bodyL i last L).length≤(a+b+30)*L.length
 | [],_,_,_=>by simp[bodyL]
 | p::L,i,last,h=>by
  obtain ⟨h1,h2⟩:=h p (by simp)
  have ih:=body_le2 hb ha L (i+1) p.nl (fun q hq=>h q (by simp[hq]))
  obtain ⟨s1,s2⟩:=sameN_le i last p.nl
  have he:=entB_len _ p s2
  have p1:=putI_len (sameN i last p.nl) (by omega)
  have p2:=putI_len ((p.nl.length:Int) - sameN i last p.nl) (by omega)
  have p3:=putI_len (p.vl.length:Int) (by omega)
  rw[bodyL,List.length_append,List.length_cons,Nat.mul_add,Nat.mul_one]
  omega
theorem idx_mem:∀ (C:List (List Ent)) (o:Nat),∀ p∈idxL o C,∃ c∈C,p.nl=innB (lastE c)∧∃ o':Nat,p.vl=putI o'++putI (pageB c).length∧o'≤o+(pagesB C).length
 | [],_,p,h=>by simp[idxL] at h
 | c::C,o,p,h=>by
  unfold idxL at h
  rcases List.mem_cons.1 h with rfl | h
  ·exact ⟨c,by simp,by simp[Par.nl],o,by simp[Par.vl],by omega⟩
  ·obtain ⟨d,hd,e1,o',e2,e3⟩:=idx_mem C _ p h
   refine ⟨d,by simp[hd],e1,o',e2,?_⟩
   rw[pagesB,List.length_append]
   omega
theorem idx_pair:∀ (C:List (List Ent)) (o:Nat),(∀ c∈C,c≠ [])→C.Pairwise (fun c d=>∀ x∈c,∀ y∈d,bl (innB x) (innB y))→(idxL o C).Pairwise (fun p q=>bl p.nl q.nl)
 | [],_,_,_=> .nil
 | c::C,o,hn,hp=>by
  rw[idxL]
  refine .cons (fun q hq=>?_) (idx_pair C _ (fun d hd=>hn d (by simp[hd])) hp.of_cons)
  obtain ⟨d,hd,e,_⟩:=idx_mem C _ q hq
  rw[e]
  have:=List.rel_of_pairwise_cons hp hd _ (lastE_mem (hn c (by simp))) _ (lastE_mem (hn d (by simp[hd])))
  simpa [Par.nl] using this
section
variable {L : List Ent}
theorem Fits.pw (h:Fits L):(chunks L 0 []).Pairwise (fun c d=>∀ x∈c,∀ y∈d,bl (innB x) (innB y)):=by
 have:=h.good.inn
 rw[←h.flat,List.pairwise_flatten] at this
 exact this.2
theorem Fits.idx (h:Fits L):parI (mkI (idxL 0 (chunks L 0 []))).1=some (idxL 0 (chunks L 0 []))∧(mkI (idxL 0 (chunks L 0 []))).2=0∧(mkI (idxL 0 (chunks L 0 []))).1.length≤20000:=by
 have hu:=upL0_pair (idx_pair _ 0 (chunks_ne L 0 []) h.pw)
 have hc:=h.chunks_len
 have hpl:=pagesB_le h (chunks L 0 []) (fun c hc=>hc)
 have hb:=body_le2 (a:=266) (b:=20) (by decide) (by decide) (idxL 0 (chunks L 0 [])) 0 [] (fun p hp=>by
  obtain ⟨c,hc',e1,o',e2,e3⟩:=idx_mem _ _ p hp
  have hpb:=pageB_le h hc'
  have hm:=lastE_mem (chunks_ne L 0 [] c hc')
  rw[e1,e2,List.length_append]
  have g1:=inn_len (h.good.chk _ ((h.sub hc').subset hm))
  have g2:=putI_len (o':Int) (by omega)
  have g3:=putI_len ((pageB c).length:Int) (by omega)
  omega)
 rw[idxL_len] at hb
 have hm:=mkI_ok hu (by omega)
 have hw:=wholeL_len (idxL 0 (chunks L 0 [])) 0 0 []
 have hcn:=cntL_le (idxL 0 (chunks L 0 [])) 0
 rw[idxL_len] at hcn
 refine ⟨(par_mk hu (by omega)).1,by rw[hm],?_⟩
 rw[hm]
 simp only[List.length_append,leI_len]
 show _+_+4≤_
 omega
theorem idxY_len (h:Fits L):(idxY (chunks L 0 [])).length≤20012:=by
 have:=h.idx.2.2
 unfold idxY
 rw[recB_len]
 omega
theorem names_len:∀ (L:List Ent) (N:List ByteArray),(namesL L N).length≤N.length+L.length
 | [],N=>by simp[namesL]
 | x::L,N=>by
  rw[namesL,List.length_cons]
  split
  ·have:=names_len L N; omega
  ·have:=names_len L (N++ [x.key])
   rw[List.length_append,List.length_singleton] at this
   omega
theorem bloom_le (h:Fits L):8≤(bloomI (namesL L [])).length∧(bloomI (namesL L [])).length≤60:=by
 have h1:=bloom_len (namesL L [])
 have h2:=names_len L []
 have:=h.few
 simp only[List.length_nil] at h2
 omega
theorem filB_len (h:Fits L):(filB L).length≤80:=by
 have:=bloom_le h
 unfold filB
 rw[recB_len,List.length_cons]
 omega
theorem fiveB_len (a b c d e:Int):(fiveB a b c d e).length=40:=by simp[fiveB,leI_len]
theorem footB_len (L:List Ent):(footB L).length=52:=by unfold footB; rw[recB_len,fiveB_len]
theorem numF_five (a b c d e:Int):numF (fiveB a b c d e) 0=littleI (leI a 8)∧numF (fiveB a b c d e) 1=littleI (leI b 8)∧numF (fiveB a b c d e) 2=littleI (leI c 8)∧numF (fiveB a b c d e) 3=littleI (leI d 8)∧numF (fiveB a b c d e) 4=littleI (leI e 8):=by
 have l:∀ x:Int,(leI x 8).length=8:=fun x=>leI_len x 8
 have t:∀ (x:Int) (r:List UInt8),(leI x 8++r).take 8=leI x 8:=fun x r=>List.take_left' (l x)
 have d8:∀ (x:Int) (r:List UInt8) (n:Nat),(leI x 8++r).drop (8+n)=r.drop n:=fun x r n=>by rw[←List.drop_drop,List.drop_left' (l x)]
 unfold numF fiveB
 refine ⟨?_,?_,?_,?_,?_⟩
 ·rw[show 8*0=0 from rfl,List.drop_zero,t]
 ·rw[show 8*1=8+0 from rfl,d8,List.drop_zero,t]
 ·rw[show 8*2=8+(8+0) from rfl,d8,d8,List.drop_zero,t]
 ·rw[show 8*3=8+(8+(8+0)) from rfl,d8,d8,d8,List.drop_zero,t]
 ·rw[show 8*4=8+(8+(8+(8+0))) from rfl,d8,d8,d8,d8,List.drop_zero]
  rw[List.take_of_length_le (by rw[l]; exact Nat.le_refl _)]
theorem fileY_len (h:Fits L):(fileY L).length≤5000000:=by
 have h1:=pagesB_le h (chunks L 0 []) (fun c hc=>hc)
 have h2:=h.chunks_len
 have h3:=idxY_len h
 have h4:=filB_len h
 have h5:=footB_len L
 simp only[fileY,List.length_append]
 omega
theorem little8 {n:Int} (h:0≤n∧n<18446744073709551616):littleI (leI n 8)=n:=by
 unfold littleI leI
 rw[List.take_of_length_le (by rw[leN_len]; decide),numN_leN,Nat.mod_eq_of_lt (by show n.toNat<18446744073709551616; omega)]
 omega
theorem get_foot (L:List Ent):getF (fileY L) ((fileY L).length - 52) 52=(fiveB (pagesB (chunks L 0 [])).length (idxY (chunks L 0 [])).length ((pagesB (chunks L 0 [])).length+(idxY (chunks L 0 [])).length) (filB L).length L.length,0):=by
 have e:fileY L=(pagesB (chunks L 0 [])++(idxY (chunks L 0 [])++filB L))++(footB L++ []):=by simp[fileY]
 have hf:=footB_len L
 have hl:((fileY L).length:Int) - 52=((pagesB (chunks L 0 [])++(idxY (chunks L 0 [])++filB L)).length:Int):=by
  rw[e]
  simp only[List.length_append,List.length_nil]
  omega
 rw[hl,e]
 have:=get_rec (A:=pagesB (chunks L 0 [])++(idxY (chunks L 0 [])++filB L)) (d:=fiveB (pagesB (chunks L 0 [])).length (idxY (chunks L 0 [])).length ((pagesB (chunks L 0 [])).length+(idxY (chunks L 0 [])).length) (filB L).length L.length) (B:= []) (by rw[fiveB_len]; decide)
 unfold footB at hf
 rw[hf] at this
 exact this
theorem get_idx (h:Fits L):getF (fileY L) (pagesB (chunks L 0 [])).length (idxY (chunks L 0 [])).length=((mkI (idxL 0 (chunks L 0 []))).1,0):=
 get_rec (A:=pagesB (chunks L 0 [])) (d:=(mkI (idxL 0 (chunks L 0 []))).1) (B:=filB L++footB L) (by have:=h.idx.2.2; omega)
theorem get_fil (h:Fits L):getF (fileY L) ((pagesB (chunks L 0 [])).length+(idxY (chunks L 0 [])).length) (filB L).length=(6::bloomI (namesL L []),0):=by
 have e:fileY L=(pagesB (chunks L 0 [])++idxY (chunks L 0 []))++(filB L++footB L):=by simp[fileY]
 have hl:((pagesB (chunks L 0 [])).length:Int)+(idxY (chunks L 0 [])).length=((pagesB (chunks L 0 [])++idxY (chunks L 0 [])).length:Int):=by rw[List.length_append]; omega
 rw[hl,e]
 exact get_rec (by have:=bloom_le h; rw[List.length_cons]; omega)
theorem get_page (h:Fits L) {i:Nat} (hi:i<(chunks L 0 []).length):getF (fileY L) (pagesB ((chunks L 0 []).take i)).length (pageB (chunks L 0 [])[i]).length=((mkI ((chunks L 0 [])[i].map ofE)).1,0):=by
 have e:fileY L=pagesB ((chunks L 0 []).take i)++(pageB (chunks L 0 [])[i]++(pagesB ((chunks L 0 []).drop (i+1))++(idxY (chunks L 0 [])++(filB L++footB L)))):=by
  unfold fileY
  conv=>lhs; rw[pages_split (chunks L 0 []) i hi]
  simp only[List.append_assoc]
 rw[e]
 exact get_rec (by have:=(h.par (List.getElem_mem hi)).2.2; omega)
theorem head_file (h:Fits L):headI (fileY L)=some (idxL 0 (chunks L 0 []),bloomI (namesL L []),(L.length:Int)):=by
 obtain ⟨n0,n1,n2,n3,n4⟩:=numF_five (pagesB (chunks L 0 [])).length (idxY (chunks L 0 [])).length ((pagesB (chunks L 0 [])).length+(idxY (chunks L 0 [])).length) (filB L).length L.length
 have h1:=pagesB_le h (chunks L 0 []) (fun c hc=>hc)
 have h2:=h.chunks_len
 have h3:=idxY_len h
 have h4:=filB_len h
 have h5:=h.few
 rw[little8 (by omega)] at n0
 rw[little8 (by omega)] at n1
 rw[little8 (by omega)] at n2
 rw[little8 (by omega)] at n3
 rw[little8 (by omega)] at n4
 have hb:=bloom_le h
 have hne:idxL 0 (chunks L 0 [])≠ []:=fun e=>by
  have:=congrArg List.length e
  rw[idxL_len,List.length_nil] at this
  have hfl:=h.flat
  rw[List.length_eq_zero_iff.1 this] at hfl
  exact h.ne hfl.symm
 unfold headI
 rw[get_foot]
 simp only
 rw[if_neg (by rintro (e | e); exact e rfl; exact e (fiveB_len _ _ _ _ _))]
 have hany:((List.range 5).any fun i=>decide (numF (fiveB (pagesB (chunks L 0 [])).length (idxY (chunks L 0 [])).length ((pagesB (chunks L 0 [])).length+(idxY (chunks L 0 [])).length) (filB L).length L.length) i>67108864))=false:=by
  rw[List.any_eq_false]
  intro i hi
  have hi:i<5:=by simpa using hi
  have:i=0∨i=1∨i=2∨i=3∨i=4:=by omega
  rw[decide_eq_true_eq]
  rcases this with rfl | rfl | rfl | rfl | rfl
  ·rw[n0]; omega
  ·rw[n1]; omega
  ·rw[n2]; omega
  ·rw[n3]; omega
  ·rw[n4]; omega
 rw[hany,if_neg (by decide),n0,n1,n2,n3,n4,get_idx h]
 simp only
 rw[if_neg (by decide),h.idx.1]
 simp only
 rw[if_neg hne,get_fil h]
 simp only
 rw[if_neg (by decide),if_neg (by
  rintro (e | e | e)
  ·omega
  ·omega
  ·exact e rfl)]
theorem page_file (h:Fits L) {i:Nat} (hi:i<(chunks L 0 []).length):pageI (fileY L) (idxL 0 (chunks L 0 [])) i=((chunks L 0 [])[i],0):=by
 have hc:=List.getElem_mem hi
 have h1:=pagesB_le h ((chunks L 0 []).take i) (fun c hc=>List.mem_of_mem_take hc)
 have h2:=h.chunks_len
 have h3:=pageB_le h hc
 rw[List.length_take] at h1
 have ha:=at_put (a:=((0+(pagesB ((chunks L 0 []).take i)).length:Nat):Int)) (n:=((pageB (chunks L 0 [])[i]).length:Int)) (by omega) (by omega)
 have hp:pairsI (fileY L) ⟨⟨(innB (lastE (chunks L 0 [])[i])).toArray⟩,⟨(putI ((0+(pagesB ((chunks L 0 []).take i)).length:Nat):Int)++putI (pageB (chunks L 0 [])[i]).length).toArray⟩⟩=((chunks L 0 [])[i].map ofE,0):=by
  unfold pairsI
  show (match atI (List.toArray _).toList with | none=>_ | some (a,n)=>_)=_
  rw[List.toList_toArray,ha]
  simp only[Nat.zero_add]
  rw[get_page h hi]
  simp only
  rw[if_neg (by decide),(h.par hc).1]
 have he:=ents_of (chunks L 0 [])[i] (fun x hx=>⟨h.good.chk x ((h.sub hc).subset hx),h.good.seq x ((h.sub hc).subset hx)⟩)
 unfold pageI
 rw[if_neg (by omega),Int.toNat_natCast,idxL_get _ 0 i hi]
 simp only
 rw[hp]
 simp only
 rw[if_neg (by decide),he]
 simp only
 rw[if_neg (chunks_ne L 0 [] _ hc)]
theorem last_flatten:∀ (C:List (List Ent)) (hC:C≠ []),(∀ c∈C,c≠ [])→lastE (C.getLast hC)=lastE C.flatten
 | [c],_,_=>by simp
 | c::d::C,_,h=>by
  have ih:=last_flatten (d::C) (by simp) (fun e he=>h e (by simp[he]))
  rw[List.getLast_cons (by simp),ih]
  unfold lastE
  rw[List.flatten_cons (l:=c),List.getLastD_eq_getLast?,List.getLastD_eq_getLast?,List.getLast?_append]
  have hne:(d::C).flatten≠ []:=fun e=>by
   rw[List.flatten_cons] at e
   exact h d (by simp) (List.append_eq_nil_iff.1 e).1
  rw[List.getLast?_eq_some_getLast hne]
  rfl
theorem heads:∀ (C:List (List Ent)) (hp:0<C.length),C[0]≠ []→(C[0]).headD noE=C.flatten.headD noE
 | [],hp,_=>by simp at hp
 | []::_,_,h=>absurd rfl h
 | (_::_)::_,_,_=>rfl
theorem openI_file (h:Fits L):openI (fileY L)=(⟨idxL 0 (chunks L 0 []),bloomI (namesL L []),L.length,(L.headD noE).key,(lastE L).key⟩,0):=by
 have hC:chunks L 0 []≠ []:=fun e=>by
  have:=h.flat
  rw[e] at this
  exact h.ne this.symm
 have hpos:0<(chunks L 0 []).length:=List.length_pos_iff.2 hC
 have p0:=page_file h hpos
 have hhead:((chunks L 0 [])[0].headD noE)=L.headD noE:=by
  have hf:=h.flat
  have hne:=chunks_ne L 0 [] _ (List.getElem_mem hpos)
  exact (heads _ hpos hne).trans (by rw[hf])
 have hil:=idxL_len (chunks L 0 []) 0
 have hlast:((idxL 0 (chunks L 0 [])).getLastD ⟨⟨#[]⟩,⟨#[]⟩⟩).nl=innB (lastE L):=by
  have hidx:=idxL_get (chunks L 0 []) 0 ((chunks L 0 []).length - 1) (by omega)
  rw[List.getLastD_eq_getLast?,List.getLast?_eq_getElem?,hil,hidx]
  show (List.toArray _).toList=_
  rw[List.toList_toArray,←List.getLast_eq_getElem hC,last_flatten _ hC (chunks_ne L 0 []),h.flat]
 have hm:=lastE_mem h.ne
 have ho:=out_inn (h.good.seq _ hm) (h.good.chk _ hm)
 unfold openI
 rw[head_file h]
 simp only
 rw[show (0:Int)=((0:Nat):Int) from rfl,p0]
 simp only
 rw[if_neg (by decide),hlast,ho]
 simp only
 rw[if_neg (by decide),hhead]
end
end Go.Ax

namespace Go.Ax
open Go.Proofs Go.RowKit
set_option maxRecDepth 100000

end Go.Ax

namespace Go.Ax
open Go.Proofs Go.RowKit
set_option maxRecDepth 100000

section
variable {parts : List (List ByteArray)} {at_ : Int} {bits : UInt8} {s1 : Int × Int × Bool × Dsk × List Int × Int × Int} {e1 : List ByteArray}
end

end Go.Ax

namespace Go.Ax
open Go.Proofs Go.RowKit
set_option maxRecDepth 100000

end Go.Ax

namespace Go.Ax
open Go.Proofs Go.RowKit
set_option maxRecDepth 100000

end Go.Ax

namespace Go.Ax
open Go.Proofs Go.RowKit
set_option maxRecDepth 100000

def entE:Enc Ent:=⟨fun e=> .agg [.v (.string e.key), .v (.int .u64 e.seq), .v (.bool e.del), .v (.string e.val)],4,fun _=>rfl,fun _=>rfl⟩
def parE:Enc Par:=⟨fun e=> .agg [.v (.string e.name), .v (.string e.val)],2,fun _=>rfl,fun _=>rfl⟩
end Go.Ax

namespace Go.Ax
open Go.Proofs Go.RowKit
set_option maxRecDepth 100000

abbrev iPutB:Nat:=59
noncomputable abbrev nPutB:Func:=Tryz.f59
theorem hfPutB:DP.funcs[iPutB]? = some nPutB:=by kernel_rfl
theorem hePutB:enters DP iPutB=true:=by kernel_rfl
theorem hbPutB:nPutB.body.isSome=true:=by kernel_rfl
theorem hnPutB:nPutB.ntmps=25:=by kernel_rfl
abbrev iBig:Nat:=74
noncomputable abbrev nBig:Func:=Tryz.f74
theorem hfBig:DP.funcs[iBig]? = some nBig:=by kernel_rfl
theorem heBig:enters DP iBig=true:=by kernel_rfl
theorem hbBig:nBig.body.isSome=true:=by kernel_rfl
abbrev iChkE:Nat:=19
noncomputable abbrev nChkE:Func:=Tryz.f19
theorem hfChkE:DP.funcs[iChkE]? = some nChkE:=by kernel_rfl
theorem heChkE:enters DP iChkE=true:=by kernel_rfl
theorem hbChkE:nChkE.body.isSome=true:=by kernel_rfl
abbrev iCmpE:Nat:=20
noncomputable abbrev nCmpE:Func:=Tryz.f20
theorem hfCmpE:DP.funcs[iCmpE]? = some nCmpE:=by kernel_rfl
theorem heCmpE:enters DP iCmpE=true:=by kernel_rfl
theorem hbCmpE:nCmpE.body.isSome=true:=by kernel_rfl
noncomputable def TPutB_l1_e (n:Int) (s1:(List UInt8)×Int):St:=([(0, .rs 1 0 1 0 s1.1.length),(1,vn .u64 n),(7,vi s1.2)],[byteE.bx 1 ([]:List UInt8),byteE.bx 0 s1.1])
noncomputable def TPutB_l1_x (x1:(List UInt8)):AE×St:=((.exit 0),([(0, .rs 1 0 1 0 x1.length)],[byteE.bx 1 ([]:List UInt8),byteE.bx 0 x1]))
noncomputable def TPutB_l1_b (n:Int) (s1:(List UInt8)×Int):Tree:=
.sp 13 (decide (s1.2≥(0:Int))) (
.int 19 (IntKind.i64.wrap (8*s1.2)) (8*s1.2) (.val (some 20) ((binA DP .shr 44 (vn .u64 n) (vi (8*s1.2))).map (fun v=>(v,([byteE.bx 1 ([]:List UInt8),byteE.bx 0 s1.1]:List Box)))=some (vn .u64 (Int.fdiv n (2 ^ (min (Int.toNat (8*s1.2)) 64))),[byteE.bx 1 ([]:List UInt8),byteE.bx 0 s1.1])) (vn .u64 (Int.fdiv n (2 ^ (min (Int.toNat (8*s1.2)) 64)))) [byteE.bx 1 ([]:List UInt8),byteE.bx 0 s1.1] (.int 21 (IntKind.u8.wrap (Int.fdiv n (2 ^ (min (Int.toNat (8*s1.2)) 64)))) ((Int.fdiv n (2 ^ (min (Int.toNat (8*s1.2)) 64))) % 256) (.app 23 (.row 1 ([vn .u8 ((Int.fdiv n (2 ^ (min (Int.toNat (8*s1.2)) 64))) % 256)])) s1.1.length (rowC (s1.1.map byteE.f)) byteE s1.1 ([(UInt8.ofNat (Int.toNat ((Int.fdiv n (2 ^ (min (Int.toNat (8*s1.2)) 64))) % 256)))]) (.int 15 (IntKind.i64.wrap (s1.2 - 1)) (s1.2 - 1) (.leaf ⟨[0,1,7],[(0,0,some (([]:List UInt8).map byteE.f)),(1,1,some ((s1.1++([(UInt8.ofNat (Int.toNat ((Int.fdiv n (2 ^ (min (Int.toNat (8*s1.2)) 64))) % 256)))])).map byteE.f))]⟩ [rowC (([]:List UInt8).map byteE.f),rowC ((s1.1++([(UInt8.ofNat (Int.toNat ((Int.fdiv n (2 ^ (min (Int.toNat (8*s1.2)) 64))) % 256)))])).map byteE.f)] .normal (some (TPutB_l1_e n (s1.1++([(UInt8.ofNat (Int.toNat ((Int.fdiv n (2 ^ (min (Int.toNat (8*s1.2)) 64))) % 256)))]),s1.2 - 1))))))))) (
.leaf ⟨[0],[(0,0,some (([]:List UInt8).map byteE.f)),(1,0,some (s1.1.map byteE.f))]⟩ [rowC (([]:List UInt8).map byteE.f),rowC (s1.1.map byteE.f)] (.exit 0) (some (TPutB_l1_x s1.1).2))
noncomputable def TPutB (L:List UInt8) (n:Int):Tree:=
.mvrow 0 (.loop ⟨[0,1,7],[(0,0,some (([]:List UInt8).map byteE.f)),(1,0,some (L.map byteE.f))]⟩ [rowC (([]:List UInt8).map byteE.f),rowC (L.map byteE.f)] (some (TPutB_l1_e n (L,7))) (TPutB_l1_e n) (TPutB_l1_x) noX (L,7) (TPutB_l1_b n) (fun (x1:(List UInt8))=> .leaf ⟨[0],[(0,0,some (([]:List UInt8).map byteE.f)),(1,0,some (x1.map byteE.f))]⟩ [rowC (([]:List UInt8).map byteE.f),rowC (x1.map byteE.f)] .ret (some ([(0, .rs 1 0 1 0 x1.length)],[byteE.bx 1 ([]:List UInt8),byteE.bx 0 x1]))) (fun _=> .stuck))

theorem TPutB_chk (L:List UInt8) (n:Int):fnC DP Γ0 Δ0 Tryz.f59 [.rs 0 0 1 0 L.length,vn .u64 n,vi 8] [byteE.bx 0 L] (TPutB L n)=TPutB L n:=by kernel_rfl

noncomputable def TBig_l1_e (b:List UInt8) (s1:Int×Int):St:=([(3,vn .u64 s1.2),(10,vl ((cutL none (some (if (8:Int)<((b.length:Int):Int) then (8:Int) else ((b.length:Int):Int))) b).map byteE.f)),(11,vi ((cutL none (some (if (8:Int)<((b.length:Int):Int) then (8:Int) else ((b.length:Int):Int))) b).length:Int)),(12,vi s1.1)],[])
noncomputable def TBig_l1_x (x1:Int):AE×St:=((.exit 0),([(3,vn .u64 x1)],[]))
noncomputable def TBig_l1_b (b:List UInt8) (s1:Int×Int):Tree:=
.sp 13 (decide (s1.1<((cutL none (some (if (8:Int)<((b.length:Int):Int) then (8:Int) else ((b.length:Int):Int))) b).length:Int))) (
.elem 14 ((cutL none (some (if (8:Int)<((b.length:Int):Int) then (8:Int) else ((b.length:Int):Int))) b).map byteE.f) byteE (cutL none (some (if (8:Int)<((b.length:Int):Int) then (8:Int) else ((b.length:Int):Int))) b) s1.1 (fun e1=> .int 17 (IntKind.u64.wrap (s1.2*2 ^ 8)) ((s1.2*256) % 18446744073709551616) (.int 19 (IntKind.u64.wrap (e1.toNat:Int)) ((e1.toNat:Int)) (.int 20 (IntKind.u64.wrap ((BitVec.ofInt IntKind.u64.bits ((s1.2*256) % 18446744073709551616) ||| BitVec.ofInt IntKind.u64.bits (e1.toNat:Int)).toNat)) (orI ((s1.2*256) % 18446744073709551616) (e1.toNat:Int)) (.int 21 (IntKind.i64.wrap (s1.1+1)) (s1.1+1) (.leaf ⟨[3,10,11,12],[]⟩ [] .normal (some (TBig_l1_e b (s1.1+1,orI ((s1.2*256) % 18446744073709551616) (e1.toNat:Int)))))))))) (
.leaf ⟨[3],[]⟩ [] (.exit 0) (some (TBig_l1_x s1.2).2))
noncomputable def TBig (b:List UInt8):Tree:=
.int 8 ((b.map byteE.f).length:Int) (b.length:Int) (.cut 10 (b.map byteE.f) none (some (if (8:Int)<((b.length:Int):Int) then (8:Int) else ((b.length:Int):Int))) byteE b (.int 11 (((cutL none (some (if (8:Int)<((b.length:Int):Int) then (8:Int) else ((b.length:Int):Int))) b).map byteE.f).length:Int) ((cutL none (some (if (8:Int)<((b.length:Int):Int) then (8:Int) else ((b.length:Int):Int))) b).length:Int) (.loop ⟨[3,10,11,12],[]⟩ [] (some (TBig_l1_e b (0,0))) (TBig_l1_e b) (TBig_l1_x) noX (0,0) (TBig_l1_b b) (fun (x1:Int)=> .leaf ⟨[0],[]⟩ [] .ret (some ([(0,vn .u64 x1)],[]))) (fun _=> .stuck))))

theorem TBig_chk (b:List UInt8):fnC DP Γ0 Δ0 Tryz.f74 [vl (b.map byteE.f)] [] (TBig b)=TBig b:=by kernel_rfl

noncomputable def TChkE (x:Ent):Tree:=
.sp 7 ((x.key.size:Int) == (0:Int)) (
.leaf ⟨[0],[]⟩ [] .ret (some ([(0,vi 1)],[]))) (
.sp 11 (decide (x.seq>(72057594037927935:Int))) (
.leaf ⟨[0],[]⟩ [] .ret (some ([(0,vi 1)],[]))) (
.sp 15 x.del (
.sp 19 (!(x.val.toList == (⟨#[]⟩:ByteArray).toList)) (
.leaf ⟨[0],[]⟩ [] .ret (some ([(0,vi 1)],[]))) (
.sp 26 (decide ((x.key.size:Int)>(128:Int))) (
.leaf ⟨[0],[]⟩ [] .ret (some ([(0,vi 6)],[]))) (
.sp 31 (decide ((x.val.size:Int)>(65536:Int))) (
.leaf ⟨[0],[]⟩ [] .ret (some ([(0,vi 6)],[]))) (
.leaf ⟨[0],[]⟩ [] .ret (some ([(0,vi 0)],[])))))) (
.sp 26 (decide ((x.key.size:Int)>(128:Int))) (
.leaf ⟨[0],[]⟩ [] .ret (some ([(0,vi 6)],[]))) (
.sp 31 (decide ((x.val.size:Int)>(65536:Int))) (
.leaf ⟨[0],[]⟩ [] .ret (some ([(0,vi 6)],[]))) (
.leaf ⟨[0],[]⟩ [] .ret (some ([(0,vi 0)],[])))))))

theorem TChkE_chk (x:Ent):fnC DP Γ0 Δ0 Tryz.f19 [(entE.av x)] [] (TChkE x)=TChkE x:=by kernel_rfl

end Go.Ax

namespace Go.Ax
open Go.Proofs Go.RowKit
set_option maxRecDepth 100000

theorem shr_val {x s:Int} {B:List Box} {t:TypeId} (h:0≤s):(binA DP .shr t (vn .u64 x) (vi s)).map (fun v=>(v,B))=some (vn .u64 (Int.fdiv x (2 ^ (min (Int.toNat s) 64))),B):=by
 show (((if s<0 then none else some _:Option Value)).map _).map _=_
 rw[if_neg (by omega)]
 rfl
theorem fdiv_pow {m i:Nat} (hi:i<8):Int.fdiv (m:Int) (2 ^ (min (Int.toNat (8*(i:Int))) 64))=((m / 256 ^ i:Nat):Int):=by
 have e:min (Int.toNat (8*(i:Int))) 64=8*i:=by omega
 rw[e,show (2:Int) ^ (8*i)=((2 ^ (8*i):Nat):Int) by simp,Int.fdiv_eq_ediv_of_nonneg _ (Int.natCast_nonneg _),←Int.natCast_ediv,Nat.pow_mul]
theorem putb_rounds (m:Nat):∀ (j:Nat) (L:List UInt8),j≤8→((L.length+j:Nat):Int)≤1000000000→Rounds (TPutB_l1_e (m:Int)) TPutB_l1_x noX (fun s=>(TPutB_l1_b (m:Int) s).wp) (L,(j:Int) - 1) (.inl (L++beN m j)):=by
 intro j
 induction j with
 | zero=>
  intro L _ _
  refine .done (by intro e; cases e) ?_
  unfold TPutB_l1_b
  refine wp_sp (fun h'=>absurd (of_decide_eq_true h') (by simp only; omega)) (fun _=>wp_leaf rfl ⟨rfl,?_⟩)
  simp only[beN,List.append_nil]
 | succ j ih=>
  intro L hj hL
  have hr:=ih (L++ [UInt8.ofNat (m / 256 ^ j % 256)]) (by omega) (by simp only[List.length_append,List.length_singleton]; omega)
  have e2:L++beN m (j+1)=(L++ [UInt8.ofNat (m / 256 ^ j % 256)])++beN m j:=by rw[beN,List.append_assoc]; rfl
  rw[e2]
  refine .next ?_ hr
  have ej:((j+1:Nat):Int) - 1=(j:Int):=by omega
  have ef:=fdiv_pow (m:=m) (i:=j) (by omega)
  unfold TPutB_l1_b
  simp only[ej,ef]
  refine wp_sp (fun _=>wp_i64 (by omega) (wp_val (by rw[←ef]; exact shr_val (by omega)) (wp_int (wrap8 _) (wp_app (src_one (mod256_b _)) rfl (by simp only[List.length_append,List.length_singleton]; omega) (wp_i64 (by omega) (wp_leaf rfl ⟨rfl,?_⟩)))))) (fun h'=>absurd (of_decide_eq_false h') (by omega))
  have e:(((m / 256 ^ j:Nat):Int) % 256).toNat=m / 256 ^ j % 256:=by omega
  rw[e]
def OPutB:RSpec:=fun args B r B'=>∃ n:Int,(0≤n∧n<18446744073709551616)∧∃ L:List UInt8,((L.length+8:Nat):Int)≤1000000000∧args= [.rs 0 0 1 0 L.length,vn .u64 n,vi 8]∧B= [byteE.bx 0 L] ∧
 r= .rs 1 0 1 0 (L++beN n.toNat 8).length∧B'= [byteE.bx 1 [],byteE.bx 0 (L++beN n.toNat 8)]
theorem SPutB:SoundR DP iPutB OPutB:=sound_genT mixedD Γ0_ok Δ0_ok hfPutB hePutB hbPutB (by
 rintro args B r B' ⟨n,hn,L,hL,rfl,rfl,rfl,rfl⟩
 obtain ⟨m,rfl⟩:=Int.eq_ofNat_of_zero_le hn.1
 refine ⟨by rw[hnPutB]; rfl,_,TPutB_chk L m,?_⟩
 unfold TPutB
 exact wp_loop _ rfl (putb_rounds m 8 L (by omega) hL) (wp_leaf rfl ⟨rfl,rfl⟩))

def bigI (b:List UInt8):Int:=((bigN (b.take 8):Nat):Int)
theorem bigN_lt (l:List UInt8):bigN l<256 ^ l.length:=by
 induction l with
 | nil=>decide
 | cons c l ih=>
  unfold bigN
  rw[List.foldl_cons,big_acc,List.length_cons,Nat.pow_succ]
  have:=c.toNat_lt
  have h2:(0*256+c.toNat)*256 ^ l.length≤255*256 ^ l.length:=Nat.mul_le_mul_right _ (by omega)
  omega
theorem bigN_snoc (l:List UInt8) (c:UInt8):bigN (l++ [c])=bigN l*256+c.toNat:=by simp[bigN,List.foldl_append]
theorem big_cut (b:List UInt8):cutL none (some (if (8:Int)<((b.length:Int):Int) then (8:Int) else ((b.length:Int):Int))) b=b.take 8:=by
 show b.take _=_
 split
 ·rfl
 ·rw[Int.toNat_natCast,List.take_of_length_le (Nat.le_refl _),List.take_of_length_le (by omega)]
theorem big_rounds (b:List UInt8):∀ (j i:Nat),i+j=(b.take 8).length→Rounds (TBig_l1_e b) TBig_l1_x noX (fun s=>(TBig_l1_b b s).wp) ((i:Int),((bigN ((b.take 8).take i):Nat):Int)) (.inl (bigI b)):=by
 have hl:(b.take 8).length≤8:=by simp; omega
 intro j
 induction j with
 | zero=>
  intro i hi
  rw[List.take_of_length_le (by omega)]
  refine .done (by intro e; cases e) ?_
  unfold TBig_l1_b
  simp only[big_cut]
  exact wp_sp (fun h'=>absurd (of_decide_eq_true h') (by omega)) (fun _=>wp_leaf rfl ⟨rfl,rfl⟩)
 | succ j ih=>
  intro i hi
  obtain ⟨a,ha,ht⟩:=get_snoc (l:=b.take 8) (i:=i) (by omega)
  have hr:=ih (i+1) (by omega)
  have hlt:=bigN_lt ((b.take 8).take i)
  have hp:256 ^ ((b.take 8).take i).length≤256 ^ 7:=Nat.pow_le_pow_right (by decide) (by rw[List.length_take]; omega)
  have hb:bigN ((b.take 8).take i)<256 ^ 7:=by omega
  have e1:=orI_256 a hb
  rw[ht,bigN_snoc,show ((i+1:Nat):Int)=(i:Int)+1 by omega] at hr
  refine .next ?_ hr
  unfold TBig_l1_b
  simp only[big_cut]
  refine wp_sp (fun _=>wp_elem a (by omega) (by simpa using ha) (wp_int (wrap64 _) (wp_int (wrap64id (by have:=u8_b a; omega)) (wp_int (or64 (by omega) (by have:=u8_b a; omega)) (wp_i64 (by omega) (wp_leaf rfl ⟨rfl,?_⟩)))))) (fun h'=>absurd (of_decide_eq_false h') (by omega))
  have e3:((bigN ((b.take 8).take i)*256+a.toNat:Nat):Int)=((a.toNat+256*bigN ((b.take 8).take i):Nat):Int):=by omega
  rw[e1,e3]
def RBigF:List AV→AV→Prop:=fun args r=>∃ (b:List UInt8),args= [vl (b.map byteE.f)]∧r=vn .u64 (bigI b)
noncomputable def gBigF:=relG RBigF
theorem SBigF:SoundF DP iBig (.pure gBigF):=sound_pureT mixedD Γ0_ok Δ0_ok hfBig heBig hbBig (by
 rintro args r ⟨b,rfl,rfl⟩
 refine ⟨rfl,rfl,_,TBig_chk b,?_⟩
 unfold TBig
 have hr:=big_rounds b (b.take 8).length 0 (by omega)
 simp only[big_cut]
 exact wp_len (wp_cut (by simp only[cutOk]; split <;> omega) (wp_len (wp_loop _ rfl (by simpa [bigN] using hr) (wp_leaf rfl (.p _)))))
 )

theorem ent_inj {x y:Ent} (h:entE.av x=entE.av y):x=y:=by
 cases x; cases y
 simp[Enc.av,entE,PV.cells] at h
 simp[h]
def RChkE:List AV→AV→Prop:=fun args r=>∃ x:Ent,args= [entE.av x]∧r=vi (chkE x)
noncomputable def gChkE:=relG RChkE
theorem one_arg' {x y:AV} (h: [x]= [y]):x=y:=by simpa using h
theorem gChkE_eq (x:Ent):gChkE [entE.av x]=some (vi (chkE x)):=relG_eq (by
 rintro args r r' ⟨a,h1,rfl⟩ ⟨b,h2,rfl⟩
 rw[ent_inj (one_arg' (h1.symm.trans h2))]) ⟨x,rfl,rfl⟩
theorem val_ne (s:ByteArray):(!(s.toList == (⟨#[]⟩:ByteArray).toList))=decide (s.size≠0):=by
 have e:s.size=s.toList.length:=by rw[ByteArray.toList_eq]; rfl
 have e0:(⟨#[]⟩:ByteArray).toList= []:=by rw[ByteArray.toList_eq]
 rw[e,e0]
 cases s.toList with
 | nil=>rfl
 | cons a l=>symm; show decide _=true; rw[decide_eq_true_eq,List.length_cons]; omega
theorem SChkE:SoundF DP iChkE (.pure gChkE):=sound_pureT mixedD Γ0_ok Δ0_ok hfChkE heChkE hbChkE (by
 rintro args r ⟨x,rfl,rfl⟩
 refine ⟨rfl,rfl,_,TChkE_chk x,?_⟩
 have key:∀ z:Int,z=chkE x→Sealed (fun _=>True) [] (vi z) (vi (chkE x)):=fun z h=>by rw[h]; exact .p _
 unfold TChkE
 simp only[val_ne]
 unfold chkE at key ⊢
 repeat' first
  | refine wp_sp (fun _=>?_) (fun _=>?_)
  | refine wp_leaf rfl (key _ ?_)
 all_goals simp only[beq_iff_eq,beq_eq_false_iff_ne,decide_eq_true_eq,decide_eq_false_iff_not] at *
 all_goals (split <;> first | rfl | (split <;> first | rfl | omega | simp_all) | omega | (simp_all <;> omega)))
end Go.Ax
