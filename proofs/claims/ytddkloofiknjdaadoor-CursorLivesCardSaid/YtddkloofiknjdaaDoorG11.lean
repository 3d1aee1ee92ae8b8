/- Plain: a page that is made is read as it was. -/
import Derived.Test.YtddkloofiknjdaaDoorG10
import Derived.Test.YtddkloofiknjdaaDoorG8
import Derived.Test.YtddkloofiknjdaaDoorTie
import Derived.Test.YtddkloofiknjdaaDoorG4
import Derived.OpenShut
import Derived.WalkKit
import Derived.ProofKit
import Derived.LaidMore
import Derived.LaidLaws
import Derived.LaidHandle
import Derived.Lib.LaidTab
import Derived.Stop.Joined
import Derived.OwnWalk
import Derived.Lib.Walk
import Derived.Lib.SliceRun
import Derived.Laws.AppendOwn
set_option linter.unusedVariables false
set_option linter.unusedSimpArgs false
set_option linter.unusedSectionVars false
namespace Go.Ax
open Go.Proofs Go.RowKit
set_option maxRecDepth 100000

theorem HC:∀ (L:List Par) (o i:Nat) (last:List UInt8),(HB o i last L).length=4*cntL i L
 | [],_,_,_=>rfl
 | p::L,o,i,last=>by
  have ih:=HC L (o+(Dr (CL i last p.nl) p).length) (i+1) p.nl
  rw[HB,cntL,List.length_append,ih]
  split
  ·rw[CJ]; show 4+_=_; omega
  ·simp
theorem LW:∀ (L:List Par) (i:Nat),cntL i L≤L.length
 | [],_=>Nat.le_refl _
 | p::L,i=>by
  have:=LW L (i+1)
  rw[cntL,List.length_cons]
  split <;> omega
theorem WK:∀ (L:List Par) (i:Nat) (last:List UInt8),3*L.length≤(CM i last L).length
 | [],_,_=>Nat.le_refl _
 | p::L,i,last=>by
  obtain ⟨_,s2⟩:=Js i last p.nl
  have:=WK L (i+1) p.nl
  have h:=MS _ p s2
  have a:=KP (CL i last p.nl)
  have b:=KP ((p.nl.length:Int) - CL i last p.nl)
  have c:=KP p.vl.length
  rw[CM,List.length_append,List.length_cons]
  omega
def endI (b:List UInt8):Nat:=b.length - 4 - 4*(AO (b.drop (b.length - 4))).toNat
def EK (b:List UInt8):Option (List Par):=
 if b.length<4 then none else
 if AO (b.drop (b.length - 4))>((b.length - 4) / 4:Nat) then none else
 match C4 (endI b) (endI b) (b.take (endI b)) [] with
 | none=>none
 | some L=>if (Af L).2≠0∨(Af L).1≠b then none else some L
theorem RL {L:List Par} (h:bK L) (hl:(CM 0 [] L).length≤262144):Af L=(CM 0 [] L++HB 0 0 [] L++AW (cntL 0 L:Nat) 4,0):=by
 unfold Af
 rw[eP L 0 [] [] [] 0 (fun _ p M e=>by subst e; exact h) (fun h=>absurd h (by omega)) (by simpa using hl)]
 simp
theorem eQ {L:List Par} (h:bK L) (hl:(CM 0 [] L).length≤262144):EK (Af L).1=some L∧endI (Af L).1=(CM 0 [] L).length∧(Af L).1.take (CM 0 [] L).length=CM 0 [] L:=by
 have hm:=RL h hl
 have hc:=LW L 0
 have hb:=WK L 0 []
 have hw:=HC L 0 0 []
 have h4:(AW (cntL 0 L:Nat) 4).length=4:=CJ _ _
 have hlen:(Af L).1.length=(CM 0 [] L).length+4*cntL 0 L+4:=by rw[hm]; simp only[List.length_append]; omega
 have hd:(Af L).1.drop ((Af L).1.length - 4)=AW (cntL 0 L:Nat) 4:=by
  rw[hlen,hm]
  exact List.drop_left' (by rw[List.length_append,hw]; omega)
 have hlt:AO (AW (cntL 0 L:Nat) 4)=(cntL 0 L:Nat):=Ib (by omega)
 have he:endI (Af L).1=(CM 0 [] L).length:=by unfold endI; rw[hd,hlt,hlen]; omega
 have ht:(Af L).1.take (CM 0 [] L).length=CM 0 [] L:=by
  rw[hm,List.append_assoc]
  exact List.take_left
 have hr:=To L 0 (CM 0 [] L).length (CM 0 [] L).length 0 [] (by omega) (Nat.le_refl _) (by omega) (by omega)
 refine ⟨?_,he,ht⟩
 unfold EK
 rw[if_neg (by omega),hd,hlt,if_neg (by omega),he,ht,hr]
 simp only
 rw[if_neg]
 rintro (e | e)
 ·rw[hm] at e; exact e rfl
 ·exact e rfl

def Az (x:Ent):Par:=⟨⟨(BC x).toArray⟩,x.val⟩
theorem LZ (x:Ent):(Az x).nl=BC x:=by simp[Az,Par.nl]
def EC (x:Ent):Nat:=x.key.size+x.val.size
def AG:List Ent→Nat→List Ent→List (List Ent)
 | [],_,cur=>if cur= [] then [] else [cur]
 | x::L,sz,cur=>if sz+EC x<1024∧L≠ [] then AG L (sz+EC x) (cur++ [x]) else (cur++ [x])::AG L 0 []
theorem K4:∀ (L:List Ent) (sz:Nat) (cur:List Ent),(AG L sz cur).flatten=cur++L
 | [],sz,cur=>by
  unfold AG
  split
  ·rename_i h; rw[h]; rfl
  ·simp
 | x::L,sz,cur=>by
  unfold AG
  split
  ·rw[K4 L]; simp
  ·rw[List.flatten_cons,K4 L]; simp
theorem Cw:∀ (L:List Ent) (sz:Nat) (cur:List Ent),∀ c∈AG L sz cur,c≠ []
 | [],sz,cur,c,h=>by
  unfold AG at h
  split at h
  ·simp at h
  ·rename_i hn
   rw[List.mem_singleton.1 h]; exact hn
 | x::L,sz,cur,c,h=>by
  unfold AG at h
  split at h
  ·exact Cw L _ _ c h
  ·rcases List.mem_cons.1 h with rfl | h
   ·simp
   ·exact Cw L _ _ c h
theorem K5:∀ (L:List Ent) (sz:Nat) (cur:List Ent) (m:Nat),(∀ x∈L,EC x≤m)→(cur.map EC).sum=sz→sz≤1024→∀ c∈AG L sz cur,(c.map EC).sum≤1024+m
 | [],sz,cur,m,_,hs,hz,c,h=>by
  unfold AG at h
  split at h
  ·simp at h
  ·rw[List.mem_singleton.1 h]; omega
 | x::L,sz,cur,m,hm,hs,hz,c,h=>by
  have hx:=hm x (by simp)
  have hL:∀ y∈L,EC y≤m:=fun y hy=>hm y (by simp[hy])
  unfold AG at h
  split at h
  ·rename_i hc
   exact K5 L _ _ m hL (by simp[hs]) (by omega) c h
  ·rcases List.mem_cons.1 h with rfl | h
   ·simp only[List.map_append,List.map_cons,List.map_nil,List.sum_append,List.sum_cons,List.sum_nil]
    omega
   ·exact K5 L 0 [] m hL rfl (by omega) c h
def DE (c:List Ent):List UInt8:=AN (Af (c.map Az)).1
def B5 (c:List Ent):Ent:=c.getLastD Ag
def Bl:Nat→List (List Ent)→List Par
 | _,[]=> []
 | o,c::C=>⟨⟨(BC (B5 c)).toArray⟩,⟨(AD o++AD (DE c).length).toArray⟩⟩::Bl (o+(DE c).length) C
def Am:List (List Ent)→List UInt8
 | []=> []
 | c::C=>DE c++Am C
def BN:List Ent→List ByteArray→List ByteArray
 | [],N=>N
 | x::L,N=>BN L (if N.getLast? = some x.key then N else N++ [x.key])
structure GoodE (L:List Ent):Prop where
 chk:∀ x∈L,CS x=0
 seq:∀ x∈L,0≤x.seq
 up:L.Pairwise Bz
theorem Oz {x:Ent} (h:CS x=0) (hs:0≤x.seq):Dp x:=by
 refine ⟨hs,?_⟩
 unfold CS at h
 split at h
 ·cases h
 ·omega
theorem Gf {x:Ent} (h:CS x=0):1≤x.key.size∧x.key.size≤128∧x.val.size≤65536:=by
 unfold CS at h
 split at h
 ·cases h
 ·split at h
  ·cases h
  ·omega
theorem eR:∀ (L:List Ent) (last:List UInt8),(∀ x∈L,bl last (BC x))→L.Pairwise (fun x y=>bl (BC x) (BC y))→Tn last (L.map Az)
 | [],_,_,_=>trivial
 | x::L,last,h,hp=>by
  rw[List.map_cons]
  refine ⟨by rw[LZ]; exact h x (by simp),?_⟩
  rw[LZ]
  exact eR L _ (fun y hy=>List.rel_of_pairwise_cons hp hy) hp.of_cons
theorem ZY {L:List Ent} (h:L.Pairwise (fun x y=>bl (BC x) (BC y))):bK (L.map Az):=by
 cases L with
 | nil=>trivial
 | cons x L=>
  show Tn (Az x).nl (L.map Az)
  rw[LZ]
  exact eR L _ (fun y hy=>List.rel_of_pairwise_cons h hy) h.of_cons
theorem GoodE.inn {L:List Ent} (h:GoodE L):L.Pairwise (fun x y=>bl (BC x) (BC y)):=by
 refine List.Pairwise.imp_of_mem (fun {a b} ha hb hab=>WG (Oz (h.chk a ha) (h.seq a ha)) (Oz (h.chk b hb) (h.seq b hb)) hab) h.up
theorem GoodE.sub {L M:List Ent} (h:GoodE L) (hs:M.Sublist L):GoodE M:=⟨fun x hx=>h.chk x (hs.subset hx),fun x hx=>h.seq x (hs.subset hx),h.up.sublist hs⟩
theorem S0:∀ l:List UInt8,(Ch l).length≤2*l.length
 | []=>Nat.le_refl _
 | c::l=>by
  have:=S0 l
  unfold Ch
  split <;> simp <;> omega
theorem O0 {x:Ent} (h:CS x=0):(BC x).length≤266:=by
 have:=S0 x.key.data.toList
 have hk:=Gf h
 have hl:x.key.data.toList.length=x.key.size:=rfl
 unfold BC
 simp only[List.length_append,List.length_cons,JY]
 omega
theorem mV {i:Nat} {last:List UInt8} {x:Ent} (h:CS x=0):(Dr (CL i last (Az x).nl) (Az x)).length≤300+EC x:=by
 obtain ⟨s1,s2⟩:=Js i last (Az x).nl
 have h1:=MS _ _ s2
 have hi:=O0 h
 rw[←LZ] at hi
 have hk:=Gf h
 have hv:(Az x).vl.length=x.val.size:=rfl
 have p1:=C8 (CL i last (Az x).nl) (by omega)
 have p2:=C8 (((Az x).nl.length:Int) - CL i last (Az x).nl) (by omega)
 have p3:=C8 ((Az x).vl.length:Int) (by omega)
 unfold EC
 omega
theorem S2:∀ (L:List Ent) (i:Nat) (last:List UInt8),(∀ x∈L,CS x=0)→(CM i last (L.map Az)).length≤300*L.length+(L.map EC).sum
 | [],_,_,_=>by simp[CM]
 | x::L,i,last,h=>by
  have ih:=S2 L (i+1) (Az x).nl (fun y hy=>h y (by simp[hy]))
  have he:=mV (i:=i) (last:=last) (h x (by simp))
  rw[List.map_cons,CM,List.length_append,List.length_cons,List.map_cons,List.sum_cons]
  omega


def bM (n b:Nat):Nat→Nat→List Nat
 | 0,_=> []
 | k+1,a=>a*n / 4294967296::bM n b k ((a+b) % 4294967296)
def pz (s:List UInt8):Nat:=(Ao s).toNat
def La (s:List UInt8):Nat:=(Au (Ao s)).toNat ||| 1
def i6 (s:List UInt8) (n:Nat):List Nat:=bM n (La s) 6 (pz s)
def FZ (bits:List UInt8) (i:Nat):List UInt8:=bits.modify (i / 8) fun x=>x ||| UInt8.ofNat (2 ^ (i % 8))
def Ng (bits:List UInt8) (P:List Nat):List UInt8:=P.foldl FZ bits
def A9 (N:List ByteArray):List UInt8:=N.foldl (fun bits s=>Ng bits (i6 s.data.toList (8*bits.length))) (List.replicate (max ((N.length*10+7) / 8) 8) 0)
theorem QQ (bits:List UInt8) (i:Nat):(FZ bits i).length=bits.length:=List.length_modify _ _ _
theorem QR:∀ (P:List Nat) (bits:List UInt8),(Ng bits P).length=bits.length
 | [],_=>rfl
 | i::P,bits=>by
  show (Ng (FZ bits i) P).length=_
  rw[QR P,QQ]
theorem bN (N:List ByteArray):∀ bits:List UInt8,(N.foldl (fun bits s=>Ng bits (i6 s.data.toList (8*bits.length))) bits).length=bits.length:=by
 induction N with
 | nil=>intro _; rfl
 | cons s N ih=>intro bits; rw[List.foldl_cons,ih,QR]
theorem eS (N:List ByteArray):(A9 N).length=max ((N.length*10+7) / 8) 8:=by
 unfold A9
 rw[bN,List.length_replicate]
/-- The record that LL somewhere. -/
def getF (c:List UInt8) (at_ n:Int):List UInt8×Int:=
 if at_<0∨n<0∨at_>c.length then ([],12) else
 if (CI ((c.drop at_.toNat).take (min n (c.length - at_)).toNat)).2.2≠0∨(CI ((c.drop at_.toNat).take (min n (c.length - at_)).toNat)).2.1≠n then ([],12) else
 ((CI ((c.drop at_.toNat).take (min n (c.length - at_)).toNat)).1,0)
theorem O1 {A d B:List UInt8} (hd:d.length≤1048576):getF (A++(AN d++B)) A.length (AN d).length=(d,0):=by
 have hr:(AN d).length=d.length+12:=EB d
 have e:((A++(AN d++B)).drop (A.length:Int).toNat).take (min ((AN d).length:Int) ((A++(AN d++B)).length - (A.length:Int))).toNat=AN d:=by
  rw[Int.toNat_natCast,List.drop_left]
  refine List.take_left' ?_
  simp only[List.length_append]
  omega
 have hn:=iz hd []
 rw[List.append_nil] at hn
 unfold getF
 rw[if_neg (by simp only[List.length_append]; omega),e,hn,if_neg]
 rintro (h | h)
 ·exact h rfl
 ·simp only at h
  omega

def Fc (a b c d e:Int):List UInt8:=AW a 8++(AW b 8++(AW c 8++(AW d 8++AW e 8)))
def DN (C:List (List Ent)):List UInt8:=AN (Af (Bl 0 C)).1
def E7 (L:List Ent):List UInt8:=AN (6::A9 (BN L []))
def I6 (L:List Ent):List UInt8:=
 AN (Fc (Am (AG L 0 [])).length (DN (AG L 0 [])).length ((Am (AG L 0 [])).length+(DN (AG L 0 [])).length) (E7 L).length L.length)
def As (L:List Ent):List UInt8:=Am (AG L 0 [])++(DN (AG L 0 [])++(E7 L++I6 L))

def Px (v:List UInt8):Option (Int×Int):=
 if (AJ v).2.2≠0∨(AJ v).1>67108864 then none else
 if (AJ (v.drop (AJ v).2.1.toNat)).2.2≠0∨(AJ v).2.1+(AJ (v.drop (AJ v).2.1.toNat)).2.1≠v.length∨(AJ (v.drop (AJ v).2.1.toNat)).1>67108864 then none else
 some ((AJ v).1,(AJ (v.drop (AJ v).2.1.toNat)).1)
def Ct (c:List UInt8) (p:Par):List Par×Int:=match Px p.vl with
 | none=>([],12)
 | some (a,n)=>if (getF c a n).2≠0 then ([],12) else match EK (getF c a n).1 with
  | none=>([],12)
  | some L=>(L,0)
def H5 (x:Ent) (v:ByteArray):Ent:=⟨x.key,x.seq,x.del,v⟩
def F1:List Par→Option (List Ent)
 | []=>some []
 | p::L=>if (BG p.nl).2≠0∨CS (H5 (BG p.nl).1 p.val)≠0 then none else (F1 L).map (H5 (BG p.nl).1 p.val :: ·)
def BV (c:List UInt8) (idx:List Par) (i:Int):List Ent×Int:=
 if i<0 then ([],1) else match idx[i.toNat]? with
 | none=>([],1)
 | some p=>if (Ct c p).2≠0 then ([],12) else match F1 (Ct c p).1 with
  | none=>([],12)
  | some L=>if L= [] then ([],12) else (L,0)
structure FileR where
 idx:List Par
 bits:List UInt8
 cnt:Int
 low:ByteArray
 high:ByteArray
def Em:FileR:=⟨[],[],0,⟨#[]⟩,⟨#[]⟩⟩
def Aw (e:List UInt8) (i:Nat):Int:=AO ((e.drop (8*i)).take 8)
def RM (c:List UInt8):Option (List Par×List UInt8×Int):=
 if (getF c (c.length - 52) 52).2≠0∨(getF c (c.length - 52) 52).1.length≠40 then none else
 if ((List.range 5).any fun i=>decide (Aw (getF c (c.length - 52) 52).1 i>67108864))=true then none else
 if (getF c (Aw (getF c (c.length - 52) 52).1 0) (Aw (getF c (c.length - 52) 52).1 1)).2≠0 then none else
 match EK (getF c (Aw (getF c (c.length - 52) 52).1 0) (Aw (getF c (c.length - 52) 52).1 1)).1 with
 | none=>none
 | some idx=>if idx= [] then none else
  if (getF c (Aw (getF c (c.length - 52) 52).1 2) (Aw (getF c (c.length - 52) 52).1 3)).2≠0 then none else
  match (getF c (Aw (getF c (c.length - 52) 52).1 2) (Aw (getF c (c.length - 52) 52).1 3)).1 with
  | []=>none
  | b::bits=>if bits.length<8∨bits.length>1048576∨b≠6 then none else some (idx,bits,Aw (getF c (c.length - 52) 52).1 4)
def EH (c:List UInt8):FileR×Int:=match RM c with
 | none=>(Em,12)
 | some (idx,bits,n)=>if (BV c idx 0).2≠0 then (Em,12) else
  if (BG (idx.getLastD ⟨⟨#[]⟩,⟨#[]⟩⟩).nl).2≠0 then (Em,12) else
  (⟨idx,bits,n,((BV c idx 0).1.headD Ag).key,(BG (idx.getLastD ⟨⟨#[]⟩,⟨#[]⟩⟩).nl).1.key⟩,0)

theorem p6 {a n:Int} (ha:0≤a∧a≤67108864) (hn:0≤n∧n≤67108864):Px (AD a++AD n)=some (a,n):=by
 have g1:=MR (g:=a) (by omega) (AD n)
 have g2:=WC (g:=n) (by omega)
 have d:(AD a++AD n).drop ((AD a).length:Int).toNat=AD n:=by rw[Int.toNat_natCast]; exact List.drop_left
 unfold Px
 simp only[g1,d,g2]
 rw[if_neg (by omega),if_neg (by simp only[List.length_append]; omega)]
theorem ZZ:∀ (L:List Ent),(∀ x∈L,CS x=0∧0≤x.seq)→F1 (L.map Az)=some L
 | [],_=>rfl
 | x::L,h=>by
  obtain ⟨h1,h2⟩:=h x (by simp)
  have ih:=ZZ L (fun y hy=>h y (by simp[hy]))
  have ho:=ZX h2 h1
  have hw:H5 ⟨x.key,x.seq,x.del,⟨#[]⟩⟩ (Az x).val=x:=rfl
  rw[List.map_cons,F1,LZ,ho]
  simp only
  rw[hw,if_neg (by rintro (e | e); exact e rfl; exact e h1),ih]
  rfl
theorem Ex {c:List Ent} (h:c≠ []):B5 c∈c:=by
 unfold B5
 rw[List.getLastD_eq_getLast?,List.getLast?_eq_some_getLast h]
 exact List.getLast_mem h
theorem MT:∀ (C:List (List Ent)) (o i:Nat) (hi:i<C.length),(Bl o C)[i]? = some ⟨⟨(BC (B5 C[i])).toArray⟩,⟨(AD ((o+(Am (C.take i)).length:Nat):Int)++AD (DE C[i]).length).toArray⟩⟩
 | [],_,_,h=>by simp at h
 | c::C,o,0,_=>by simp[Bl,Am]
 | c::C,o,i+1,h=>by
  have ih:=MT C (o+(DE c).length) i (by simpa using h)
  rw[Bl,List.getElem?_cons_succ,ih]
  have e:o+(DE c).length+(Am (C.take i)).length=o+(Am ((c::C).take (i+1))).length:=by
   rw[List.take_succ_cons,Am,List.length_append]; omega
  rw[e]
  rfl
theorem ED:∀ (C:List (List Ent)) (o:Nat),(Bl o C).length=C.length
 | [],_=>rfl
 | c::C,o=>by rw[Bl,List.length_cons,List.length_cons,ED C]
theorem Py:∀ (C:List (List Ent)) (i:Nat) (hi:i<C.length),Am C=Am (C.take i)++(DE C[i]++Am (C.drop (i+1)))
 | [],_,h=>by simp at h
 | c::C,0,_=>by simp[Am]
 | c::C,i+1,h=>by
  have ih:=Py C i (by simpa using h)
  rw[List.take_succ_cons,Am,Am,List.drop_succ_cons,List.append_assoc,List.getElem_cons_succ,←ih]
structure Fits (L:List Ent):Prop where
 good:GoodE L
 ne:L≠ []
 few:L.length≤40
theorem Fits.sz {L:List Ent} (h:Fits L):∀ x∈L,EC x≤65664:=fun x hx=>by
 have:=Gf (h.good.chk x hx)
 unfold EC
 omega
section
variable {L : List Ent}
theorem Fits.flat (h:Fits L):(AG L 0 []).flatten=L:=by rw[K4]; rfl
theorem Fits.sub (h:Fits L) {c:List Ent} (hc:c∈AG L 0 []):c.Sublist L:=by
 have:=List.sublist_flatten_of_mem hc
 rwa[h.flat] at this
theorem Fits.page (h:Fits L) {c:List Ent} (hc:c∈AG L 0 []):(CM 0 [] (c.map Az)).length≤90000:=by
 have hs:=h.sub hc
 have hl:=hs.length_le
 have hf:=h.few
 have hz:=K5 L 0 [] 65664 h.sz rfl (by omega) c hc
 have:=S2 c 0 [] (fun x hx=>h.good.chk x (hs.subset hx))
 omega
theorem Fits.par (h:Fits L) {c:List Ent} (hc:c∈AG L 0 []):EK (Af (c.map Az)).1=some (c.map Az)∧(Af (c.map Az)).2=0∧(Af (c.map Az)).1.length≤100000:=by
 have hp:=h.page hc
 have hs:=h.sub hc
 have hl:=hs.length_le
 have hf:=h.few
 have hu:=ZY (h.good.sub hs).inn
 obtain ⟨p1,_,_⟩:=eQ hu (by omega)
 have hm:=RL hu (by omega)
 have hw:=HC (c.map Az) 0 0 []
 have hcn:=LW (c.map Az) 0
 rw[List.length_map] at hcn
 refine ⟨p1,by rw[hm],?_⟩
 rw[hm]
 simp only[List.length_append,CJ]
 show _+_+4≤_
 omega
theorem Fits.chunks_len (h:Fits L):(AG L 0 []).length≤40:=by
 have hf:=h.few
 have hfl:=congrArg List.length h.flat
 have:∀ C:List (List Ent),(∀ c∈C,c≠ [])→C.length≤C.flatten.length:=fun C=>by
  induction C with
  | nil=>intro _; exact Nat.le_refl _
  | cons c C ih=>
   intro hC
   have h1:=ih (fun d hd=>hC d (by simp[hd]))
   have h2:=List.length_pos_iff.2 (hC c (by simp))
   rw[List.flatten_cons,List.length_append,List.length_cons]
   omega
 have:=this _ (Cw L 0 [])
 omega
theorem MU (h:Fits L) {c:List Ent} (hc:c∈AG L 0 []):(DE c).length≤100012:=by
 have:=(h.par hc).2.2
 unfold DE
 rw[EB]
 omega
theorem Fj (h:Fits L):∀ C:List (List Ent),(∀ c∈C,c∈AG L 0 [])→(Am C).length≤100012*C.length
 | [],_=>Nat.le_refl _
 | c::C,hC=>by
  have h1:=Fj h C (fun d hd=>hC d (by simp[hd]))
  have h2:=MU h (hC c (by simp))
  rw[Am,List.length_append,List.length_cons]
  omega
end

theorem WL:∀ (L:List Par) (last:List UInt8),(∀ p∈L,bl last p.nl)→L.Pairwise (fun p q=>bl p.nl q.nl)→Tn last L
 | [],_,_,_=>trivial
 | x::L,last,h,hp=>⟨h x (by simp),WL L _ (fun y hy=>List.rel_of_pairwise_cons hp hy) hp.of_cons⟩
theorem eT {L:List Par} (h:L.Pairwise (fun p q=>bl p.nl q.nl)):bK L:=by
 cases L with
 | nil=>trivial
 | cons x L=>exact WL L _ (fun y hy=>List.rel_of_pairwise_cons h hy) h.of_cons
theorem WM {a b:Nat} (hb:b<1000000000) (ha:a<1000000000):∀ (L:List Par) (i:Nat) (last:List UInt8),(∀ p∈L,p.nl.length≤a∧p.vl.length≤b)→(CM i last L).length≤(a+b+30)*L.length
 | [],_,_,_=>by simp[CM]
 | p::L,i,last,h=>by
  obtain ⟨h1,h2⟩:=h p (by simp)
  have ih:=WM hb ha L (i+1) p.nl (fun q hq=>h q (by simp[hq]))
  obtain ⟨s1,s2⟩:=Js i last p.nl
  have he:=MS _ p s2
  have p1:=C8 (CL i last p.nl) (by omega)
  have p2:=C8 ((p.nl.length:Int) - CL i last p.nl) (by omega)
  have p3:=C8 (p.vl.length:Int) (by omega)
  rw[CM,List.length_append,List.length_cons,Nat.mul_add,Nat.mul_one]
  omega
theorem O2:∀ (C:List (List Ent)) (o:Nat),∀ p∈Bl o C,∃ c∈C,p.nl=BC (B5 c)∧∃ o':Nat,p.vl=AD o'++AD (DE c).length∧o'≤o+(Am C).length
 | [],_,p,h=>by simp[Bl] at h
 | c::C,o,p,h=>by
  unfold Bl at h
  rcases List.mem_cons.1 h with rfl | h
  ·exact ⟨c,by simp,by simp[Par.nl],o,by simp[Par.vl],by omega⟩
  ·obtain ⟨d,hd,e1,o',e2,e3⟩:=O2 C _ p h
   refine ⟨d,by simp[hd],e1,o',e2,?_⟩
   rw[Am,List.length_append]
   omega
theorem WN:∀ (C:List (List Ent)) (o:Nat),(∀ c∈C,c≠ [])→C.Pairwise (fun c d=>∀ x∈c,∀ y∈d,bl (BC x) (BC y))→(Bl o C).Pairwise (fun p q=>bl p.nl q.nl)
 | [],_,_,_=> .nil
 | c::C,o,hn,hp=>by
  rw[Bl]
  refine .cons (fun q hq=>?_) (WN C _ (fun d hd=>hn d (by simp[hd])) hp.of_cons)
  obtain ⟨d,hd,e,_⟩:=O2 C _ q hq
  rw[e]
  have:=List.rel_of_pairwise_cons hp hd _ (Ex (hn c (by simp))) _ (Ex (hn d (by simp[hd])))
  simpa [Par.nl] using this
section
variable {L : List Ent}
theorem Fits.pw (h:Fits L):(AG L 0 []).Pairwise (fun c d=>∀ x∈c,∀ y∈d,bl (BC x) (BC y)):=by
 have:=h.good.inn
 rw[←h.flat,List.pairwise_flatten] at this
 exact this.2
theorem Fits.idx (h:Fits L):EK (Af (Bl 0 (AG L 0 []))).1=some (Bl 0 (AG L 0 []))∧(Af (Bl 0 (AG L 0 []))).2=0∧(Af (Bl 0 (AG L 0 []))).1.length≤20000:=by
 have hu:=eT (WN _ 0 (Cw L 0 []) h.pw)
 have hc:=h.chunks_len
 have hpl:=Fj h (AG L 0 []) (fun c hc=>hc)
 have hb:=WM (a:=266) (b:=20) (by decide) (by decide) (Bl 0 (AG L 0 [])) 0 [] (fun p hp=>by
  obtain ⟨c,hc',e1,o',e2,e3⟩:=O2 _ _ p hp
  have hpb:=MU h hc'
  have hm:=Ex (Cw L 0 [] c hc')
  rw[e1,e2,List.length_append]
  have g1:=O0 (h.good.chk _ ((h.sub hc').subset hm))
  have g2:=C8 (o':Int) (by omega)
  have g3:=C8 ((DE c).length:Int) (by omega)
  omega)
 rw[ED] at hb
 have hm:=RL hu (by omega)
 have hw:=HC (Bl 0 (AG L 0 [])) 0 0 []
 have hcn:=LW (Bl 0 (AG L 0 [])) 0
 rw[ED] at hcn
 refine ⟨(eQ hu (by omega)).1,by rw[hm],?_⟩
 rw[hm]
 simp only[List.length_append,CJ]
 show _+_+4≤_
 omega
theorem MV (h:Fits L):(DN (AG L 0 [])).length≤20012:=by
 have:=h.idx.2.2
 unfold DN
 rw[EB]
 omega
theorem Ic:∀ (L:List Ent) (N:List ByteArray),(BN L N).length≤N.length+L.length
 | [],N=>by simp[BN]
 | x::L,N=>by
  rw[BN,List.length_cons]
  split
  ·have:=Ic L N; omega
  ·have:=Ic L (N++ [x.key])
   rw[List.length_append,List.length_singleton] at this
   omega
theorem MW (h:Fits L):8≤(A9 (BN L [])).length∧(A9 (BN L [])).length≤60:=by
 have h1:=eS (BN L [])
 have h2:=Ic L []
 have:=h.few
 simp only[List.length_nil] at h2
 omega
theorem MX (h:Fits L):(E7 L).length≤80:=by
 have:=MW h
 unfold E7
 rw[EB,List.length_cons]
 omega
theorem Nh (a b c d e:Int):(Fc a b c d e).length=40:=by simp[Fc,CJ]
theorem Ni (L:List Ent):(I6 L).length=52:=by unfold I6; rw[EB,Nh]
theorem eU (a b c d e:Int):Aw (Fc a b c d e) 0=AO (AW a 8)∧Aw (Fc a b c d e) 1=AO (AW b 8)∧Aw (Fc a b c d e) 2=AO (AW c 8)∧Aw (Fc a b c d e) 3=AO (AW d 8)∧Aw (Fc a b c d e) 4=AO (AW e 8):=by
 have l:∀ x:Int,(AW x 8).length=8:=fun x=>CJ x 8
 have t:∀ (x:Int) (r:List UInt8),(AW x 8++r).take 8=AW x 8:=fun x r=>List.take_left' (l x)
 have d8:∀ (x:Int) (r:List UInt8) (n:Nat),(AW x 8++r).drop (8+n)=r.drop n:=fun x r n=>by rw[←List.drop_drop,List.drop_left' (l x)]
 unfold Aw Fc
 refine ⟨?_,?_,?_,?_,?_⟩
 ·rw[show 8*0=0 from rfl,List.drop_zero,t]
 ·rw[show 8*1=8+0 from rfl,d8,List.drop_zero,t]
 ·rw[show 8*2=8+(8+0) from rfl,d8,d8,List.drop_zero,t]
 ·rw[show 8*3=8+(8+(8+0)) from rfl,d8,d8,d8,List.drop_zero,t]
 ·rw[show 8*4=8+(8+(8+(8+0))) from rfl,d8,d8,d8,d8,List.drop_zero]
  rw[List.take_of_length_le (by rw[l]; exact Nat.le_refl _)]
theorem Tp (h:Fits L):(As L).length≤5000000:=by
 have h1:=Fj h (AG L 0 []) (fun c hc=>hc)
 have h2:=h.chunks_len
 have h3:=MV h
 have h4:=MX h
 have h5:=Ni L
 simp only[As,List.length_append]
 omega
theorem Lb {n:Int} (h:0≤n∧n<18446744073709551616):AO (AW n 8)=n:=by
 unfold AO AW
 rw[List.take_of_length_le (by rw[Sj]; decide),WB,Nat.mod_eq_of_lt (by show n.toNat<18446744073709551616; omega)]
 omega
theorem i7 (L:List Ent):getF (As L) ((As L).length - 52) 52=(Fc (Am (AG L 0 [])).length (DN (AG L 0 [])).length ((Am (AG L 0 [])).length+(DN (AG L 0 [])).length) (E7 L).length L.length,0):=by
 have e:As L=(Am (AG L 0 [])++(DN (AG L 0 [])++E7 L))++(I6 L++ []):=by simp[As]
 have hf:=Ni L
 have hl:((As L).length:Int) - 52=((Am (AG L 0 [])++(DN (AG L 0 [])++E7 L)).length:Int):=by
  rw[e]
  simp only[List.length_append,List.length_nil]
  omega
 rw[hl,e]
 have:=O1 (A:=Am (AG L 0 [])++(DN (AG L 0 [])++E7 L)) (d:=Fc (Am (AG L 0 [])).length (DN (AG L 0 [])).length ((Am (AG L 0 [])).length+(DN (AG L 0 [])).length) (E7 L).length L.length) (B:= []) (by rw[Nh]; decide)
 unfold I6 at hf
 rw[hf] at this
 exact this
theorem mW (h:Fits L):getF (As L) (Am (AG L 0 [])).length (DN (AG L 0 [])).length=((Af (Bl 0 (AG L 0 []))).1,0):=
 O1 (A:=Am (AG L 0 [])) (d:=(Af (Bl 0 (AG L 0 []))).1) (B:=E7 L++I6 L) (by have:=h.idx.2.2; omega)
theorem mX (h:Fits L):getF (As L) ((Am (AG L 0 [])).length+(DN (AG L 0 [])).length) (E7 L).length=(6::A9 (BN L []),0):=by
 have e:As L=(Am (AG L 0 [])++DN (AG L 0 []))++(E7 L++I6 L):=by simp[As]
 have hl:((Am (AG L 0 [])).length:Int)+(DN (AG L 0 [])).length=((Am (AG L 0 [])++DN (AG L 0 [])).length:Int):=by rw[List.length_append]; omega
 rw[hl,e]
 exact O1 (by have:=MW h; rw[List.length_cons]; omega)
theorem i8 (h:Fits L) {i:Nat} (hi:i<(AG L 0 []).length):getF (As L) (Am ((AG L 0 []).take i)).length (DE (AG L 0 [])[i]).length=((Af ((AG L 0 [])[i].map Az)).1,0):=by
 have e:As L=Am ((AG L 0 []).take i)++(DE (AG L 0 [])[i]++(Am ((AG L 0 []).drop (i+1))++(DN (AG L 0 [])++(E7 L++I6 L)))):=by
  unfold As
  conv=>lhs; rw[Py (AG L 0 []) i hi]
  simp only[List.append_assoc]
 rw[e]
 exact O1 (by have:=(h.par (List.getElem_mem hi)).2.2; omega)
theorem eV (h:Fits L):RM (As L)=some (Bl 0 (AG L 0 []),A9 (BN L []),(L.length:Int)):=by
 obtain ⟨n0,n1,n2,n3,n4⟩:=eU (Am (AG L 0 [])).length (DN (AG L 0 [])).length ((Am (AG L 0 [])).length+(DN (AG L 0 [])).length) (E7 L).length L.length
 have h1:=Fj h (AG L 0 []) (fun c hc=>hc)
 have h2:=h.chunks_len
 have h3:=MV h
 have h4:=MX h
 have h5:=h.few
 rw[Lb (by omega)] at n0
 rw[Lb (by omega)] at n1
 rw[Lb (by omega)] at n2
 rw[Lb (by omega)] at n3
 rw[Lb (by omega)] at n4
 have hb:=MW h
 have hne:Bl 0 (AG L 0 [])≠ []:=fun e=>by
  have:=congrArg List.length e
  rw[ED,List.length_nil] at this
  have hfl:=h.flat
  rw[List.length_eq_zero_iff.1 this] at hfl
  exact h.ne hfl.symm
 unfold RM
 rw[i7]
 simp only
 rw[if_neg (by rintro (e | e); exact e rfl; exact e (Nh _ _ _ _ _))]
 have hany:((List.range 5).any fun i=>decide (Aw (Fc (Am (AG L 0 [])).length (DN (AG L 0 [])).length ((Am (AG L 0 [])).length+(DN (AG L 0 [])).length) (E7 L).length L.length) i>67108864))=false:=by
  rw[List.any_eq_false]
  intro i hi
  have hi:i<5:=by simpa using hi
  have:i=0∨i=1∨i=2∨i=3∨i=4:=by omega
  rw[decide_eq_true_eq]
  rcases this with rfl | rfl | rfl | rfl | rfl
  ·rw[n0]; omega
  ·rw[n1]; omega
  ·rw[n2]; omega
  ·rw[n3]; omega
  ·rw[n4]; omega
 rw[hany,if_neg (by decide),n0,n1,n2,n3,n4,mW h]
 simp only
 rw[if_neg (by decide),h.idx.1]
 simp only
 rw[if_neg hne,mX h]
 simp only
 rw[if_neg (by decide),if_neg (by
  rintro (e | e | e)
  ·omega
  ·omega
  ·exact e rfl)]
theorem Tq (h:Fits L) {i:Nat} (hi:i<(AG L 0 []).length):BV (As L) (Bl 0 (AG L 0 [])) i=((AG L 0 [])[i],0):=by
 have hc:=List.getElem_mem hi
 have h1:=Fj h ((AG L 0 []).take i) (fun c hc=>List.mem_of_mem_take hc)
 have h2:=h.chunks_len
 have h3:=MU h hc
 rw[List.length_take] at h1
 have ha:=p6 (a:=((0+(Am ((AG L 0 []).take i)).length:Nat):Int)) (n:=((DE (AG L 0 [])[i]).length:Int)) (by omega) (by omega)
 have hp:Ct (As L) ⟨⟨(BC (B5 (AG L 0 [])[i])).toArray⟩,⟨(AD ((0+(Am ((AG L 0 []).take i)).length:Nat):Int)++AD (DE (AG L 0 [])[i]).length).toArray⟩⟩=((AG L 0 [])[i].map Az,0):=by
  unfold Ct
  show (match Px (List.toArray _).toList with | none=>_ | some (a,n)=>_)=_
  rw[List.toList_toArray,ha]
  simp only[Nat.zero_add]
  rw[i8 h hi]
  simp only
  rw[if_neg (by decide),(h.par hc).1]
 have he:=ZZ (AG L 0 [])[i] (fun x hx=>⟨h.good.chk x ((h.sub hc).subset hx),h.good.seq x ((h.sub hc).subset hx)⟩)
 unfold BV
 rw[if_neg (by omega),Int.toNat_natCast,MT _ 0 i hi]
 simp only
 rw[hp]
 simp only
 rw[if_neg (by decide),he]
 simp only
 rw[if_neg (Cw L 0 [] _ hc)]
theorem Nj:∀ (C:List (List Ent)) (hC:C≠ []),(∀ c∈C,c≠ [])→B5 (C.getLast hC)=B5 C.flatten
 | [c],_,_=>by simp
 | c::d::C,_,h=>by
  have ih:=Nj (d::C) (by simp) (fun e he=>h e (by simp[he]))
  rw[List.getLast_cons (by simp),ih]
  unfold B5
  rw[List.flatten_cons (l:=c),List.getLastD_eq_getLast?,List.getLastD_eq_getLast?,List.getLast?_append]
  have hne:(d::C).flatten≠ []:=fun e=>by
   rw[List.flatten_cons] at e
   exact h d (by simp) (List.append_eq_nil_iff.1 e).1
  rw[List.getLast?_eq_some_getLast hne]
  rfl
theorem uO:∀ (C:List (List Ent)) (hp:0<C.length),C[0]≠ []→(C[0]).headD Ag=C.flatten.headD Ag
 | [],hp,_=>by simp at hp
 | []::_,_,h=>absurd rfl h
 | (_::_)::_,_,_=>rfl
theorem I7 (h:Fits L):EH (As L)=(⟨Bl 0 (AG L 0 []),A9 (BN L []),L.length,(L.headD Ag).key,(B5 L).key⟩,0):=by
 have hC:AG L 0 []≠ []:=fun e=>by
  have:=h.flat
  rw[e] at this
  exact h.ne this.symm
 have hpos:0<(AG L 0 []).length:=List.length_pos_iff.2 hC
 have p0:=Tq h hpos
 have hhead:((AG L 0 [])[0].headD Ag)=L.headD Ag:=by
  have hf:=h.flat
  have hne:=Cw L 0 [] _ (List.getElem_mem hpos)
  exact (uO _ hpos hne).trans (by rw[hf])
 have hil:=ED (AG L 0 []) 0
 have hlast:((Bl 0 (AG L 0 [])).getLastD ⟨⟨#[]⟩,⟨#[]⟩⟩).nl=BC (B5 L):=by
  have hidx:=MT (AG L 0 []) 0 ((AG L 0 []).length - 1) (by omega)
  rw[List.getLastD_eq_getLast?,List.getLast?_eq_getElem?,hil,hidx]
  show (List.toArray _).toList=_
  rw[List.toList_toArray,←List.getLast_eq_getElem hC,Nj _ hC (Cw L 0 []),h.flat]
 have hm:=Ex h.ne
 have ho:=ZX (h.good.seq _ hm) (h.good.chk _ hm)
 unfold EH
 rw[eV h]
 simp only
 rw[show (0:Int)=((0:Nat):Int) from rfl,p0]
 simp only
 rw[if_neg (by decide),hlast,ho]
 simp only
 rw[if_neg (by decide),hhead]
end


section
variable {parts : List (List ByteArray)} {at_ : Int} {bits : UInt8} {s1 : Int × Int × Bool × Dsk × List Int × Int × Int} {e1 : List ByteArray}
end




def AB:Enc Ent:=⟨fun e=> .agg [.v (.string e.key), .v (.int .u64 e.seq), .v (.bool e.del), .v (.string e.val)],4,fun _=>rfl,fun _=>rfl⟩
def AK:Enc Par:=⟨fun e=> .agg [.v (.string e.name), .v (.string e.val)],2,fun _=>rfl,fun _=>rfl⟩

abbrev U5:Nat:=81
noncomputable abbrev bO:Func:=Tryd.f81
theorem p7:DP.funcs[U5]? = some bO:=by kernel_rfl
theorem p8:Ak DP U5=true:=by kernel_rfl
theorem p9:bO.body.isSome=true:=by kernel_rfl
theorem qA:bO.ntmps=25:=by kernel_rfl
abbrev bP:Nat:=75
noncomputable abbrev qB:Func:=Tryd.f75
theorem uP:DP.funcs[bP]? = some qB:=by kernel_rfl
theorem uQ:Ak DP bP=true:=by kernel_rfl
theorem uR:qB.body.isSome=true:=by kernel_rfl
abbrev MY:Nat:=16
noncomputable abbrev lF:Func:=Tryd.f16
theorem qC:DP.funcs[MY]? = some lF:=by kernel_rfl
theorem qD:Ak DP MY=true:=by kernel_rfl
theorem qE:lF.body.isSome=true:=by kernel_rfl
abbrev KQ:Nat:=19
noncomputable abbrev lG:Func:=Tryd.f19
theorem qF:DP.funcs[KQ]? = some lG:=by kernel_rfl
theorem qG:Ak DP KQ=true:=by kernel_rfl
theorem qH:lG.body.isSome=true:=by kernel_rfl
noncomputable def I8 (n:Int) (s1:(List UInt8)×Int):St:=([(0, .rs 1 0 1 0 s1.1.length),(1,vn .u64 n),(7,vi s1.2)],[AA.bx 1 ([]:List UInt8),AA.bx 0 s1.1])
noncomputable def MZ (x1:(List UInt8)):AE×St:=((.exit 0),([(0, .rs 1 0 1 0 x1.length)],[AA.bx 1 ([]:List UInt8),AA.bx 0 x1]))
noncomputable def I9 (n:Int) (s1:(List UInt8)×Int):Tree:=
.sp 13 (decide (s1.2≥(0:Int))) (
.int 19 (IntKind.i64.wrap (8*s1.2)) (8*s1.2) (.val (some 20) ((Io DP .shr 28 (vn .u64 n) (vi (8*s1.2))).map (fun v=>(v,([AA.bx 1 ([]:List UInt8),AA.bx 0 s1.1]:List Box)))=some (vn .u64 (Int.fdiv n (2 ^ (min (Int.toNat (8*s1.2)) 64))),[AA.bx 1 ([]:List UInt8),AA.bx 0 s1.1])) (vn .u64 (Int.fdiv n (2 ^ (min (Int.toNat (8*s1.2)) 64)))) [AA.bx 1 ([]:List UInt8),AA.bx 0 s1.1] (.int 21 (IntKind.u8.wrap (Int.fdiv n (2 ^ (min (Int.toNat (8*s1.2)) 64)))) ((Int.fdiv n (2 ^ (min (Int.toNat (8*s1.2)) 64))) % 256) (.app 23 (.row 1 ([vn .u8 ((Int.fdiv n (2 ^ (min (Int.toNat (8*s1.2)) 64))) % 256)])) s1.1.length (rowC (s1.1.map AA.f)) AA s1.1 ([(UInt8.ofNat (Int.toNat ((Int.fdiv n (2 ^ (min (Int.toNat (8*s1.2)) 64))) % 256)))]) (.int 15 (IntKind.i64.wrap (s1.2 - 1)) (s1.2 - 1) (.leaf ⟨[0,1,7],[(0,0,some (([]:List UInt8).map AA.f)),(1,1,some ((s1.1++([(UInt8.ofNat (Int.toNat ((Int.fdiv n (2 ^ (min (Int.toNat (8*s1.2)) 64))) % 256)))])).map AA.f))]⟩ [rowC (([]:List UInt8).map AA.f),rowC ((s1.1++([(UInt8.ofNat (Int.toNat ((Int.fdiv n (2 ^ (min (Int.toNat (8*s1.2)) 64))) % 256)))])).map AA.f)] .normal (some (I8 n (s1.1++([(UInt8.ofNat (Int.toNat ((Int.fdiv n (2 ^ (min (Int.toNat (8*s1.2)) 64))) % 256)))]),s1.2 - 1))))))))) (
.leaf ⟨[0],[(0,0,some (([]:List UInt8).map AA.f)),(1,0,some (s1.1.map AA.f))]⟩ [rowC (([]:List UInt8).map AA.f),rowC (s1.1.map AA.f)] (.exit 0) (some (MZ s1.1).2))
noncomputable def bQ (L:List UInt8) (n:Int):Tree:=
.mvrow 0 (.loop ⟨[0,1,7],[(0,0,some (([]:List UInt8).map AA.f)),(1,0,some (L.map AA.f))]⟩ [rowC (([]:List UInt8).map AA.f),rowC (L.map AA.f)] (some (I8 n (L,7))) (I8 n) (MZ) CN (L,7) (I9 n) (fun (x1:(List UInt8))=> .leaf ⟨[0],[(0,0,some (([]:List UInt8).map AA.f)),(1,0,some (x1.map AA.f))]⟩ [rowC (([]:List UInt8).map AA.f),rowC (x1.map AA.f)] .ret (some ([(0, .rs 1 0 1 0 x1.length)],[AA.bx 1 ([]:List UInt8),AA.bx 0 x1]))) (fun _=> .stuck))

theorem eW (L:List UInt8) (n:Int):Av DP Γ0 Δ0 Tryd.f81 [.rs 0 0 1 0 L.length,vn .u64 n,vi 8] [AA.bx 0 L] (bQ L n)=bQ L n:=by kernel_rfl

noncomputable def KR (b:List UInt8) (s1:Int×Int):St:=([(3,vn .u64 s1.2),(10,vl ((cutL none (some (if (8:Int)<((b.length:Int):Int) then (8:Int) else ((b.length:Int):Int))) b).map AA.f)),(11,vi ((cutL none (some (if (8:Int)<((b.length:Int):Int) then (8:Int) else ((b.length:Int):Int))) b).length:Int)),(12,vi s1.1)],[])
noncomputable def Nk (x1:Int):AE×St:=((.exit 0),([(3,vn .u64 x1)],[]))
noncomputable def KS (b:List UInt8) (s1:Int×Int):Tree:=
.sp 13 (decide (s1.1<((cutL none (some (if (8:Int)<((b.length:Int):Int) then (8:Int) else ((b.length:Int):Int))) b).length:Int))) (
.elem 14 ((cutL none (some (if (8:Int)<((b.length:Int):Int) then (8:Int) else ((b.length:Int):Int))) b).map AA.f) AA (cutL none (some (if (8:Int)<((b.length:Int):Int) then (8:Int) else ((b.length:Int):Int))) b) s1.1 (fun e1=> .int 17 (IntKind.u64.wrap (s1.2*2 ^ 8)) ((s1.2*256) % 18446744073709551616) (.int 19 (IntKind.u64.wrap (e1.toNat:Int)) ((e1.toNat:Int)) (.int 20 (IntKind.u64.wrap ((BitVec.ofInt IntKind.u64.bits ((s1.2*256) % 18446744073709551616) ||| BitVec.ofInt IntKind.u64.bits (e1.toNat:Int)).toNat)) (Bd ((s1.2*256) % 18446744073709551616) (e1.toNat:Int)) (.int 21 (IntKind.i64.wrap (s1.1+1)) (s1.1+1) (.leaf ⟨[3,10,11,12],[]⟩ [] .normal (some (KR b (s1.1+1,Bd ((s1.2*256) % 18446744073709551616) (e1.toNat:Int)))))))))) (
.leaf ⟨[3],[]⟩ [] (.exit 0) (some (Nk s1.2).2))
noncomputable def i9 (b:List UInt8):Tree:=
.int 8 ((b.map AA.f).length:Int) (b.length:Int) (.cut 10 (b.map AA.f) none (some (if (8:Int)<((b.length:Int):Int) then (8:Int) else ((b.length:Int):Int))) AA b (.int 11 (((cutL none (some (if (8:Int)<((b.length:Int):Int) then (8:Int) else ((b.length:Int):Int))) b).map AA.f).length:Int) ((cutL none (some (if (8:Int)<((b.length:Int):Int) then (8:Int) else ((b.length:Int):Int))) b).length:Int) (.loop ⟨[3,10,11,12],[]⟩ [] (some (KR b (0,0))) (KR b) (Nk) CN (0,0) (KS b) (fun (x1:Int)=> .leaf ⟨[0],[]⟩ [] .ret (some ([(0,vn .u64 x1)],[]))) (fun _=> .stuck))))

theorem jA (b:List UInt8):Av DP Γ0 Δ0 Tryd.f75 [vl (b.map AA.f)] [] (i9 b)=i9 b:=by kernel_rfl

noncomputable def bR (x:Ent):Tree:=
.sp 7 ((x.key.size:Int) == (0:Int)) (
.leaf ⟨[0],[]⟩ [] .ret (some ([(0,vi 1)],[]))) (
.sp 11 (decide (x.seq>(72057594037927935:Int))) (
.leaf ⟨[0],[]⟩ [] .ret (some ([(0,vi 1)],[]))) (
.sp 15 x.del (
.sp 19 (!(x.val.toList == (⟨#[]⟩:ByteArray).toList)) (
.leaf ⟨[0],[]⟩ [] .ret (some ([(0,vi 1)],[]))) (
.sp 26 (decide ((x.key.size:Int)>(128:Int))) (
.leaf ⟨[0],[]⟩ [] .ret (some ([(0,vi 6)],[]))) (
.sp 31 (decide ((x.val.size:Int)>(65536:Int))) (
.leaf ⟨[0],[]⟩ [] .ret (some ([(0,vi 6)],[]))) (
.leaf ⟨[0],[]⟩ [] .ret (some ([(0,vi 0)],[])))))) (
.sp 26 (decide ((x.key.size:Int)>(128:Int))) (
.leaf ⟨[0],[]⟩ [] .ret (some ([(0,vi 6)],[]))) (
.sp 31 (decide ((x.val.size:Int)>(65536:Int))) (
.leaf ⟨[0],[]⟩ [] .ret (some ([(0,vi 6)],[]))) (
.leaf ⟨[0],[]⟩ [] .ret (some ([(0,vi 0)],[])))))))

theorem eX (x:Ent):Av DP Γ0 Δ0 Tryd.f16 [(AB.av x)] [] (bR x)=bR x:=by kernel_rfl


theorem mY {x s:Int} {B:List Box} {t:TypeId} (h:0≤s):(Io DP .shr t (vn .u64 x) (vi s)).map (fun v=>(v,B))=some (vn .u64 (Int.fdiv x (2 ^ (min (Int.toNat s) 64))),B):=by
 show (((if s<0 then none else some _:Option Value)).map _).map _=_
 rw[if_neg (by omega)]
 rfl
theorem jB {m i:Nat} (hi:i<8):Int.fdiv (m:Int) (2 ^ (min (Int.toNat (8*(i:Int))) 64))=((m / 256 ^ i:Nat):Int):=by
 have e:min (Int.toNat (8*(i:Int))) 64=8*i:=by omega
 rw[e,show (2:Int) ^ (8*i)=((2 ^ (8*i):Nat):Int) by simp,Int.fdiv_eq_ediv_of_nonneg _ (Int.natCast_nonneg _),←Int.natCast_ediv,Nat.pow_mul]
theorem Yl (m:Nat):∀ (j:Nat) (L:List UInt8),j≤8→((L.length+j:Nat):Int)≤1000000000→Rounds (I8 (m:Int)) MZ CN (fun s=>(I9 (m:Int) s).wp) (L,(j:Int) - 1) (.inl (L++DL m j)):=by
 intro j
 induction j with
 | zero=>
  intro L _ _
  refine .done (by intro e; cases e) ?_
  unfold I9
  refine AC (fun h'=>absurd (of_decide_eq_true h') (by simp only; omega)) (fun _=>wp_leaf rfl ⟨rfl,?_⟩)
  simp only[DL,List.append_nil]
 | succ j ih=>
  intro L hj hL
  have hr:=ih (L++ [UInt8.ofNat (m / 256 ^ j % 256)]) (by omega) (by simp only[List.length_append,List.length_singleton]; omega)
  have e2:L++DL m (j+1)=(L++ [UInt8.ofNat (m / 256 ^ j % 256)])++DL m j:=by rw[DL,List.append_assoc]; rfl
  rw[e2]
  refine .next ?_ hr
  have ej:((j+1:Nat):Int) - 1=(j:Int):=by omega
  have ef:=jB (m:=m) (i:=j) (by omega)
  unfold I9
  simp only[ej,ef]
  refine AC (fun _=>AP (by omega) (Dn (by rw[←ef]; exact mY (by omega)) (Ai (MN _) (BW (Hc (QO _)) rfl (by simp only[List.length_append,List.length_singleton]; omega) (AP (by omega) (wp_leaf rfl ⟨rfl,?_⟩)))))) (fun h'=>absurd (of_decide_eq_false h') (by omega))
  have e:(((m / 256 ^ j:Nat):Int) % 256).toNat=m / 256 ^ j % 256:=by omega
  rw[e]
def bS:Ae:=fun args B r B'=>∃ n:Int,(0≤n∧n<18446744073709551616)∧∃ L:List UInt8,((L.length+8:Nat):Int)≤1000000000∧args= [.rs 0 0 1 0 L.length,vn .u64 n,vi 8]∧B= [AA.bx 0 L] ∧
 r= .rs 1 0 1 0 (L++DL n.toNat 8).length∧B'= [AA.bx 1 [],AA.bx 0 (L++DL n.toNat 8)]
theorem uS:SoundR DP U5 bS:=Al AZ Γ0_ok Bq p7 p8 p9 (by
 rintro args B r B' ⟨n,hn,L,hL,rfl,rfl,rfl,rfl⟩
 obtain ⟨m,rfl⟩:=Int.eq_ofNat_of_zero_le hn.1
 refine ⟨by rw[qA]; rfl,_,eW L m,?_⟩
 unfold bQ
 exact BH _ rfl (Yl m 8 L (by omega) hL) (wp_leaf rfl ⟨rfl,rfl⟩))

def Ds (b:List UInt8):Int:=((CG (b.take 8):Nat):Int)
theorem Za (l:List UInt8):CG l<256 ^ l.length:=by
 induction l with
 | nil=>decide
 | cons c l ih=>
  unfold CG
  rw[List.foldl_cons,Hf,List.length_cons,Nat.pow_succ]
  have:=c.toNat_lt
  have h2:(0*256+c.toNat)*256 ^ l.length≤255*256 ^ l.length:=Nat.mul_le_mul_right _ (by omega)
  omega
theorem eY (l:List UInt8) (c:UInt8):CG (l++ [c])=CG l*256+c.toNat:=by simp[CG,List.foldl_append]
theorem S3 (b:List UInt8):cutL none (some (if (8:Int)<((b.length:Int):Int) then (8:Int) else ((b.length:Int):Int))) b=b.take 8:=by
 show b.take _=_
 split
 ·rfl
 ·rw[Int.toNat_natCast,List.take_of_length_le (Nat.le_refl _),List.take_of_length_le (by omega)]
theorem bT (b:List UInt8):∀ (j i:Nat),i+j=(b.take 8).length→Rounds (KR b) Nk CN (fun s=>(KS b s).wp) ((i:Int),((CG ((b.take 8).take i):Nat):Int)) (.inl (Ds b)):=by
 have hl:(b.take 8).length≤8:=by simp; omega
 intro j
 induction j with
 | zero=>
  intro i hi
  rw[List.take_of_length_le (by omega)]
  refine .done (by intro e; cases e) ?_
  unfold KS
  simp only[S3]
  exact AC (fun h'=>absurd (of_decide_eq_true h') (by omega)) (fun _=>wp_leaf rfl ⟨rfl,rfl⟩)
 | succ j ih=>
  intro i hi
  obtain ⟨a,ha,ht⟩:=Hd (l:=b.take 8) (i:=i) (by omega)
  have hr:=ih (i+1) (by omega)
  have hlt:=Za ((b.take 8).take i)
  have hp:256 ^ ((b.take 8).take i).length≤256 ^ 7:=Nat.pow_le_pow_right (by decide) (by rw[List.length_take]; omega)
  have hb:CG ((b.take 8).take i)<256 ^ 7:=by omega
  have e1:=ZS a hb
  rw[ht,eY,show ((i+1:Nat):Int)=(i:Int)+1 by omega] at hr
  refine .next ?_ hr
  unfold KS
  simp only[S3]
  refine AC (fun _=>Cm a (by omega) (by simpa using ha) (Ai (RD _) (Ai (Dl (by have:=G7 a; omega)) (Ai (Sd (by omega) (by have:=G7 a; omega)) (AP (by omega) (wp_leaf rfl ⟨rfl,?_⟩)))))) (fun h'=>absurd (of_decide_eq_false h') (by omega))
  have e3:((CG ((b.take 8).take i)*256+a.toNat:Nat):Int)=((a.toNat+256*CG ((b.take 8).take i):Nat):Int):=by omega
  rw[e1,e3]
def uT:List AV→AV→Prop:=fun args r=>∃ (b:List UInt8),args= [vl (b.map AA.f)]∧r=vn .u64 (Ds b)
noncomputable def bU:=B4 uT
theorem uU:SoundF DP bP (.pure bU):=A6 AZ Γ0_ok Bq uP uQ uR (by
 rintro args r ⟨b,rfl,rfl⟩
 refine ⟨rfl,rfl,_,jA b,?_⟩
 unfold i9
 have hr:=bT b (b.take 8).length 0 (by omega)
 simp only[S3]
 exact Aq (DB (by simp only[CE]; split <;> omega) (Aq (BH _ rfl (by simpa [CG] using hr) (wp_leaf rfl (.p _)))))
 )

theorem Lc {x y:Ent} (h:AB.av x=AB.av y):x=y:=by
 cases x; cases y
 simp[Enc.av,AB,PV.cells] at h
 simp[h]
def uV:List AV→AV→Prop:=fun args r=>∃ x:Ent,args= [AB.av x]∧r=vi (CS x)
noncomputable def H6:=B4 uV
theorem Eb {x y:AV} (h: [x]= [y]):x=y:=by simpa using h
theorem Jt (x:Ent):H6 [AB.av x]=some (vi (CS x)):=BT (by
 rintro args r r' ⟨a,h1,rfl⟩ ⟨b,h2,rfl⟩
 rw[Lc (Eb (h1.symm.trans h2))]) ⟨x,rfl,rfl⟩
theorem qI (s:ByteArray):(!(s.toList == (⟨#[]⟩:ByteArray).toList))=decide (s.size≠0):=by
 have e:s.size=s.toList.length:=by rw[ByteArray.toList_eq]; rfl
 have e0:(⟨#[]⟩:ByteArray).toList= []:=by rw[ByteArray.toList_eq]
 rw[e,e0]
 cases s.toList with
 | nil=>rfl
 | cons a l=>symm; show decide _=true; rw[decide_eq_true_eq,List.length_cons]; omega
theorem U6:SoundF DP MY (.pure H6):=A6 AZ Γ0_ok Bq qC qD qE (by
 rintro args r ⟨x,rfl,rfl⟩
 refine ⟨rfl,rfl,_,eX x,?_⟩
 have key:∀ z:Int,z=CS x→Sealed (fun _=>True) [] (vi z) (vi (CS x)):=fun z h=>by rw[h]; exact .p _
 unfold bR
 simp only[qI]
 unfold CS at key ⊢
 repeat' first
  | refine AC (fun _=>?_) (fun _=>?_)
  | refine wp_leaf rfl (key _ ?_)
 all_goals simp only[beq_iff_eq,beq_eq_false_iff_ne,decide_eq_true_eq,decide_eq_false_iff_not] at *
 all_goals (split <;> first | rfl | (split <;> first | rfl | omega | simp_all) | omega | (simp_all <;> omega)))

noncomputable def eZ:CB:=CZ [(U5,AX bS)]
noncomputable def ΓF1:BF:=DG [(MY,H6)]
noncomputable def lH:CB:=CZ [(bP,KM (RC bU))]

abbrev Ld:Nat:=55
noncomputable abbrev ec:Func:=Tryd.f55
theorem mZ:DP.funcs[Ld]? = some ec:=by kernel_rfl
theorem ma:Ak DP Ld=true:=by kernel_rfl
theorem mb:ec.body.isSome=true:=by kernel_rfl
abbrev Nl:Nat:=46
noncomputable abbrev ee:Func:=Tryd.f46
theorem mc:DP.funcs[Nl]? = some ee:=by kernel_rfl
theorem md:Ak DP Nl=true:=by kernel_rfl
theorem me:ee.body.isSome=true:=by kernel_rfl
abbrev O3:Nat:=83
noncomputable abbrev Zb:Func:=Tryd.f83
theorem jC:DP.funcs[O3]? = some Zb:=by kernel_rfl
theorem jD:Ak DP O3=true:=by kernel_rfl
theorem jE:Zb.body.isSome=true:=by kernel_rfl
noncomputable def GC (x:Ent) (s1:(List UInt8)×Int):St:=([(3,vn .u64 ((x.seq*2) % 18446744073709551616)),(4, .rs 0 0 1 0 s1.1.length),(17, .rs 1 0 1 0 x.key.data.toList.length),(18,vi ((x.key.data.toList.length:Nat):Int)),(19,vi s1.2)],[AA.bx 0 s1.1,AA.bx 0 x.key.data.toList])
noncomputable def K6 (x:Ent) (x1:(List UInt8)):AE×St:=((.exit 0),([(3,vn .u64 ((x.seq*2) % 18446744073709551616)),(4, .rs 0 0 1 0 x1.length)],[AA.bx 0 x1]))
noncomputable def GD (x:Ent) (s1:(List UInt8)×Int):Tree:=
.sp 20 (decide (s1.2<((x.key.data.toList.length:Nat):Int))) (
.ridx 21 x.key.data.toList.length s1.2 (.rload 22 (rowC (x.key.data.toList.map AA.f)) (0+Int.toNat s1.2*1) AA x.key.data.toList s1.2 0 (fun e1=> .app 26 (.row 1 ([vn .u8 (e1.toNat:Int)])) s1.1.length (rowC (s1.1.map AA.f)) AA s1.1 ([e1]) (.sp 28 ((e1.toNat:Int) == (0:Int)) (
.app 31 (.row 1 ([vn .u8 255])) ((s1.1++([e1])).length) (rowC ((s1.1++([e1])).map AA.f)) AA (s1.1++([e1])) ([255]) (.int 32 (IntKind.i64.wrap (s1.2+1)) (s1.2+1) (.leaf ⟨[3,4,17,18,19],[(0,2,some (((s1.1++([e1]))++([255])).map AA.f)),(1,0,some (x.key.data.toList.map AA.f))]⟩ [rowC (((s1.1++([e1]))++([255])).map AA.f),rowC (x.key.data.toList.map AA.f)] .normal (some (GC x ((s1.1++([e1]))++([255]),s1.2+1)))))) (
.int 32 (IntKind.i64.wrap (s1.2+1)) (s1.2+1) (.leaf ⟨[3,4,17,18,19],[(0,1,some ((s1.1++([e1])).map AA.f)),(1,0,some (x.key.data.toList.map AA.f))]⟩ [rowC ((s1.1++([e1])).map AA.f),rowC (x.key.data.toList.map AA.f)] .normal (some (GC x (s1.1++([e1]),s1.2+1))))))))) (
.leaf ⟨[3,4],[(0,0,some (s1.1.map AA.f))]⟩ [rowC (s1.1.map AA.f)] (.exit 0) (some (K6 x s1.1).2))
noncomputable def GE (x:Ent) (s2:(List UInt8)×Int):St:=([(3,vn .u64 (Bd ((x.seq*2) % 18446744073709551616) 1)),(4, .rs 0 0 1 0 s2.1.length),(17, .rs 1 0 1 0 x.key.data.toList.length),(18,vi ((x.key.data.toList.length:Nat):Int)),(19,vi s2.2)],[AA.bx 0 s2.1,AA.bx 0 x.key.data.toList])
noncomputable def K7 (x:Ent) (x2:(List UInt8)):AE×St:=((.exit 0),([(3,vn .u64 (Bd ((x.seq*2) % 18446744073709551616) 1)),(4, .rs 0 0 1 0 x2.length)],[AA.bx 0 x2]))
noncomputable def GF (x:Ent) (s2:(List UInt8)×Int):Tree:=
.sp 20 (decide (s2.2<((x.key.data.toList.length:Nat):Int))) (
.ridx 21 x.key.data.toList.length s2.2 (.rload 22 (rowC (x.key.data.toList.map AA.f)) (0+Int.toNat s2.2*1) AA x.key.data.toList s2.2 0 (fun e2=> .app 26 (.row 1 ([vn .u8 (e2.toNat:Int)])) s2.1.length (rowC (s2.1.map AA.f)) AA s2.1 ([e2]) (.sp 28 ((e2.toNat:Int) == (0:Int)) (
.app 31 (.row 1 ([vn .u8 255])) ((s2.1++([e2])).length) (rowC ((s2.1++([e2])).map AA.f)) AA (s2.1++([e2])) ([255]) (.int 32 (IntKind.i64.wrap (s2.2+1)) (s2.2+1) (.leaf ⟨[3,4,17,18,19],[(0,2,some (((s2.1++([e2]))++([255])).map AA.f)),(1,0,some (x.key.data.toList.map AA.f))]⟩ [rowC (((s2.1++([e2]))++([255])).map AA.f),rowC (x.key.data.toList.map AA.f)] .normal (some (GE x ((s2.1++([e2]))++([255]),s2.2+1)))))) (
.int 32 (IntKind.i64.wrap (s2.2+1)) (s2.2+1) (.leaf ⟨[3,4,17,18,19],[(0,1,some ((s2.1++([e2])).map AA.f)),(1,0,some (x.key.data.toList.map AA.f))]⟩ [rowC ((s2.1++([e2])).map AA.f),rowC (x.key.data.toList.map AA.f)] .normal (some (GE x (s2.1++([e2]),s2.2+1))))))))) (
.leaf ⟨[3,4],[(0,0,some (s2.1.map AA.f))]⟩ [rowC (s2.1.map AA.f)] (.exit 0) (some (K7 x s2.1).2))
noncomputable def WO (x:Ent):Tree:=
.int 9 (IntKind.u64.wrap (x.seq*2 ^ 1)) ((x.seq*2) % 18446744073709551616) (.sp 11 x.del (
.sbyte 17 (.nilrow 4 1 (.loop ⟨[3,4,17,18,19],[(2,0,some (([]:List UInt8).map AA.f)),(1,0,some (x.key.data.toList.map AA.f))]⟩ [rowC (([]:List UInt8).map AA.f),rowC (x.key.data.toList.map AA.f)] (some (GC x (([]:List UInt8),0))) (GC x) (K6 x) CN (([]:List UInt8),0) (GD x) (fun (x1:(List UInt8))=> .app 35 (.row 2 ([vn .u8 0,vn .u8 1])) x1.length (rowC (x1.map AA.f)) AA x1 ([0,1]) (.int 37 (IntKind.u64.wrap ((BitVec.ofInt IntKind.u64.bits IntKind.u64.max ^^^ BitVec.ofInt IntKind.u64.bits ((x.seq*2) % 18446744073709551616)).toNat)) (18446744073709551615 - ((x.seq*2) % 18446744073709551616)) (.callr (some 38) (eZ 81 [.rs 0 1 1 0 ((x1++([0,1])).length),vn .u64 (18446744073709551615 - ((x.seq*2) % 18446744073709551616)),vi 8] [AA.bx 1 (x1++([0,1])), .cells true 0 ([vn .u8 0,vn .u8 1])] (.rs 2 0 1 0 (((x1++([0,1]))++DL (Int.toNat (18446744073709551615 - ((x.seq*2) % 18446744073709551616))) 8).length)) [AA.bx 2 ([]:List UInt8), .cells true 0 ([vn .u8 0,vn .u8 1]),AA.bx 0 ((x1++([0,1]))++DL (Int.toNat (18446744073709551615 - ((x.seq*2) % 18446744073709551616))) 8)]) (.rs 2 0 1 0 (((x1++([0,1]))++DL (Int.toNat (18446744073709551615 - ((x.seq*2) % 18446744073709551616))) 8).length)) [AA.bx 2 ([]:List UInt8), .cells true 0 ([vn .u8 0,vn .u8 1]),AA.bx 0 ((x1++([0,1]))++DL (Int.toNat (18446744073709551615 - ((x.seq*2) % 18446744073709551616))) 8)] (.bstr 39 (((x1++([0,1]))++DL (Int.toNat (18446744073709551615 - ((x.seq*2) % 18446744073709551616))) 8).length) (rowC (((x1++([0,1]))++DL (Int.toNat (18446744073709551615 - ((x.seq*2) % 18446744073709551616))) 8).map AA.f)) ((x1++([0,1]))++DL (Int.toNat (18446744073709551615 - ((x.seq*2) % 18446744073709551616))) 8) (.leaf ⟨[0],[]⟩ [] .ret (some ([(0,vs (⟨((x1++([0,1]))++DL (Int.toNat (18446744073709551615 - ((x.seq*2) % 18446744073709551616))) 8).toArray⟩))],[]))))))) (fun _=> .stuck)))) (
.int 14 (IntKind.u64.wrap ((BitVec.ofInt IntKind.u64.bits ((x.seq*2) % 18446744073709551616) ||| BitVec.ofInt IntKind.u64.bits 1).toNat)) (Bd ((x.seq*2) % 18446744073709551616) 1) (.sbyte 17 (.nilrow 4 1 (.loop ⟨[3,4,17,18,19],[(2,0,some (([]:List UInt8).map AA.f)),(1,0,some (x.key.data.toList.map AA.f))]⟩ [rowC (([]:List UInt8).map AA.f),rowC (x.key.data.toList.map AA.f)] (some (GE x (([]:List UInt8),0))) (GE x) (K7 x) CN (([]:List UInt8),0) (GF x) (fun (x2:(List UInt8))=> .app 35 (.row 2 ([vn .u8 0,vn .u8 1])) x2.length (rowC (x2.map AA.f)) AA x2 ([0,1]) (.int 37 (IntKind.u64.wrap ((BitVec.ofInt IntKind.u64.bits IntKind.u64.max ^^^ BitVec.ofInt IntKind.u64.bits (Bd ((x.seq*2) % 18446744073709551616) 1)).toNat)) (18446744073709551615 - (Bd ((x.seq*2) % 18446744073709551616) 1)) (.callr (some 38) (eZ 81 [.rs 0 1 1 0 ((x2++([0,1])).length),vn .u64 (18446744073709551615 - (Bd ((x.seq*2) % 18446744073709551616) 1)),vi 8] [AA.bx 1 (x2++([0,1])), .cells true 0 ([vn .u8 0,vn .u8 1])] (.rs 2 0 1 0 (((x2++([0,1]))++DL (Int.toNat (18446744073709551615 - (Bd ((x.seq*2) % 18446744073709551616) 1))) 8).length)) [AA.bx 2 ([]:List UInt8), .cells true 0 ([vn .u8 0,vn .u8 1]),AA.bx 0 ((x2++([0,1]))++DL (Int.toNat (18446744073709551615 - (Bd ((x.seq*2) % 18446744073709551616) 1))) 8)]) (.rs 2 0 1 0 (((x2++([0,1]))++DL (Int.toNat (18446744073709551615 - (Bd ((x.seq*2) % 18446744073709551616) 1))) 8).length)) [AA.bx 2 ([]:List UInt8), .cells true 0 ([vn .u8 0,vn .u8 1]),AA.bx 0 ((x2++([0,1]))++DL (Int.toNat (18446744073709551615 - (Bd ((x.seq*2) % 18446744073709551616) 1))) 8)] (.bstr 39 (((x2++([0,1]))++DL (Int.toNat (18446744073709551615 - (Bd ((x.seq*2) % 18446744073709551616) 1))) 8).length) (rowC (((x2++([0,1]))++DL (Int.toNat (18446744073709551615 - (Bd ((x.seq*2) % 18446744073709551616) 1))) 8).map AA.f)) ((x2++([0,1]))++DL (Int.toNat (18446744073709551615 - (Bd ((x.seq*2) % 18446744073709551616) 1))) 8) (.leaf ⟨[0],[]⟩ [] .ret (some ([(0,vs (⟨((x2++([0,1]))++DL (Int.toNat (18446744073709551615 - (Bd ((x.seq*2) % 18446744073709551616) 1))) 8).toArray⟩))],[]))))))) (fun _=> .stuck))))))

theorem bV (x:Ent):Av DP Γ0 eZ Tryd.f55 [(AB.av x)] [] (WO x)=WO x:=by kernel_rfl

noncomputable def FL (s:ByteArray) (s1:(List UInt8)×Int):St:=([(0,vs s),(2, .ptr 0 0 0),(4, .rs 1 0 1 0 s1.1.length),(5,vi s1.2)],[.cells false 0 ([vs (⟨#[]⟩),vn .u64 0,vb false,vs (⟨#[]⟩)]),AA.bx 0 s1.1])
noncomputable def GG (x1:Unit):AE×St:=(.ret,([(2, .ptr 0 0 0),(3,vi 2)],[.cells false 0 ([vs (⟨#[]⟩),vn .u64 0,vb false,vs (⟨#[]⟩)])]))
noncomputable def Fk (s:ByteArray) (y1:Int×(List UInt8)):AE×St:=((.exit 0),([(0,vs s),(2, .ptr 0 0 0),(4, .rs 1 0 1 0 y1.2.length),(5,vi y1.1)],[.cells false 0 ([vs (⟨#[]⟩),vn .u64 0,vb false,vs (⟨#[]⟩)]),AA.bx 0 y1.2]))
noncomputable def DJ (s:ByteArray) (s1:(List UInt8)×Int):Tree:=
.sp 11 (decide (s1.2<(s.size:Int))) (
.int 16 (IntKind.i64.wrap (s1.2+2)) (s1.2+2) (.scut 20 s (some s1.2) (some (if ((s.size:Int):Int)<(s1.2+2:Int) then ((s.size:Int):Int) else (s1.2+2:Int))) (.sp 21 (!((s.extract (A8 (some s1.2)) (Be (some (if ((s.size:Int):Int)<(s1.2+2:Int) then ((s.size:Int):Int) else (s1.2+2:Int))) s.size)).toList == (⟨#[0,1]⟩:ByteArray).toList)) (
.sidx 28 s s1.2 (fun c1=> .app 30 (.row 1 ([vn .u8 (c1.toNat:Int)])) s1.1.length (rowC (s1.1.map AA.f)) AA s1.1 ([c1]) (.sidx 33 s s1.2 (fun c2=> .sp 34 ((c2.toNat:Int) == (0:Int)) (
.int 36 (IntKind.i64.wrap (s1.2+1)) (s1.2+1) (.sp 40 ((s1.2+1) == (s.size:Int)) (
.leaf ⟨[2,3],[(0,0,none)]⟩ [] .ret (some (GG ()).2)) (
.sidx 44 s (s1.2+1) (fun c3=> .sp 45 ((c3.toNat:Int) != (255:Int)) (
.leaf ⟨[2,3],[(0,0,none)]⟩ [] .ret (some (GG ()).2)) (
.int 24 (IntKind.i64.wrap ((s1.2+1)+1)) ((s1.2+1)+1) (.leaf ⟨[0,2,4,5],[(0,0,none),(1,1,some ((s1.1++([c1])).map AA.f))]⟩ [rowC ((s1.1++([c1])).map AA.f)] .normal (some (FL s (s1.1++([c1]),(s1.2+1)+1))))))))) (
.int 24 (IntKind.i64.wrap (s1.2+1)) (s1.2+1) (.leaf ⟨[0,2,4,5],[(0,0,none),(1,1,some ((s1.1++([c1])).map AA.f))]⟩ [rowC ((s1.1++([c1])).map AA.f)] .normal (some (FL s (s1.1++([c1]),s1.2+1))))))))) (
.leaf ⟨[0,2,4,5],[(0,0,none),(1,0,some (s1.1.map AA.f))]⟩ [rowC (s1.1.map AA.f)] (.exit 0) (some (Fk s (s1.2,s1.1)).2))))) (
.leaf ⟨[0,2,4,5],[(0,0,none),(1,0,some (s1.1.map AA.f))]⟩ [rowC (s1.1.map AA.f)] (.exit 0) (some (Fk s (s1.2,s1.1)).2))
noncomputable def WP (s:ByteArray):Tree:=
.nilrow 4 1 (.loop ⟨[0,2,4,5],[(0,0,none),(1,0,some (([]:List UInt8).map AA.f))]⟩ [rowC (([]:List UInt8).map AA.f)] (some (FL s (([]:List UInt8),0))) (FL s) (GG) (Fk s) (([]:List UInt8),0) (DJ s) (fun (x1:Unit)=> .leaf ⟨[0],[]⟩ [] .ret (some ([(0, .tup [.agg [vs (⟨#[]⟩),vn .u64 0,vb false,vs (⟨#[]⟩)],vi 2])],[]))) (fun (y1:Int×(List UInt8))=> .int 51 (IntKind.i64.wrap ((s.size:Int) - y1.1)) ((s.size:Int) - y1.1) (.sp 52 (((s.size:Int) - y1.1) != (10:Int)) (
.leaf ⟨[0],[]⟩ [] .ret (some ([(0, .tup [.agg [vs (⟨#[]⟩),vn .u64 0,vb false,vs (⟨#[]⟩)],vi 2])],[]))) (
.int 56 (IntKind.i64.wrap (y1.1+2)) (y1.1+2) (.scut 57 s (some (y1.1+2)) none (.sbyte 58 (.callr (some 59) (lH 75 [.rs 2 0 1 0 ((s.extract (A8 (some (y1.1+2))) (Be none s.size)).data.toList.length)] [.cells false 0 ([vs (⟨#[]⟩),vn .u64 0,vb false,vs (⟨#[]⟩)]),AA.bx 0 y1.2,AA.bx 0 ((s.extract (A8 (some (y1.1+2))) (Be none s.size)).data.toList)] (vn .u64 (Ds ((s.extract (A8 (some (y1.1+2))) (Be none s.size)).data.toList))) [.cells false 0 ([vs (⟨#[]⟩),vn .u64 0,vb false,vs (⟨#[]⟩)]),AA.bx 0 y1.2, .dead]) (vn .u64 (Ds ((s.extract (A8 (some (y1.1+2))) (Be none s.size)).data.toList))) [.cells false 0 ([vs (⟨#[]⟩),vn .u64 0,vb false,vs (⟨#[]⟩)]),AA.bx 0 y1.2, .dead] (.int 60 (IntKind.u64.wrap ((BitVec.ofInt IntKind.u64.bits IntKind.u64.max ^^^ BitVec.ofInt IntKind.u64.bits (Ds ((s.extract (A8 (some (y1.1+2))) (Be none s.size)).data.toList))).toNat)) (18446744073709551615 - (Ds ((s.extract (A8 (some (y1.1+2))) (Be none s.size)).data.toList))) (.bstr 62 y1.2.length (rowC (y1.2.map AA.f)) y1.2 (.int 64 (Int.fdiv (18446744073709551615 - (Ds ((s.extract (A8 (some (y1.1+2))) (Be none s.size)).data.toList))) (2 ^ 1)) ((18446744073709551615 - (Ds ((s.extract (A8 (some (y1.1+2))) (Be none s.size)).data.toList))) / 2) (.int 66 (IntKind.u64.wrap ((BitVec.ofInt IntKind.u64.bits (18446744073709551615 - (Ds ((s.extract (A8 (some (y1.1+2))) (Be none s.size)).data.toList))) &&& BitVec.ofInt IntKind.u64.bits 1).toNat)) ((18446744073709551615 - (Ds ((s.extract (A8 (some (y1.1+2))) (Be none s.size)).data.toList))) % 2) (.call 70 (H6 [.agg [vs (⟨y1.2.toArray⟩),vn .u64 ((18446744073709551615 - (Ds ((s.extract (A8 (some (y1.1+2))) (Be none s.size)).data.toList))) / 2),vb (((18446744073709551615 - (Ds ((s.extract (A8 (some (y1.1+2))) (Be none s.size)).data.toList))) % 2) == (0:Int)),vs (⟨#[]⟩)]]=some (vi (CS (⟨(⟨y1.2.toArray⟩:ByteArray),(18446744073709551615 - (Ds ((s.extract (A8 (some (y1.1+2))) (Be none s.size)).data.toList))) / 2,(((18446744073709551615 - (Ds ((s.extract (A8 (some (y1.1+2))) (Be none s.size)).data.toList))) % 2) == (0:Int)),(⟨#[]⟩:ByteArray)⟩:Ent)))) (vi (CS (⟨(⟨y1.2.toArray⟩:ByteArray),(18446744073709551615 - (Ds ((s.extract (A8 (some (y1.1+2))) (Be none s.size)).data.toList))) / 2,(((18446744073709551615 - (Ds ((s.extract (A8 (some (y1.1+2))) (Be none s.size)).data.toList))) % 2) == (0:Int)),(⟨#[]⟩:ByteArray)⟩:Ent))) (.sp 71 ((CS (⟨(⟨y1.2.toArray⟩:ByteArray),(18446744073709551615 - (Ds ((s.extract (A8 (some (y1.1+2))) (Be none s.size)).data.toList))) / 2,(((18446744073709551615 - (Ds ((s.extract (A8 (some (y1.1+2))) (Be none s.size)).data.toList))) % 2) == (0:Int)),(⟨#[]⟩:ByteArray)⟩:Ent)) != (0:Int)) (
.leaf ⟨[0],[]⟩ [] .ret (some ([(0, .tup [.agg [vs (⟨#[]⟩),vn .u64 0,vb false,vs (⟨#[]⟩)],vi 2])],[]))) (
.leaf ⟨[0],[]⟩ [] .ret (some ([(0, .tup [.agg [vs (⟨y1.2.toArray⟩),vn .u64 ((18446744073709551615 - (Ds ((s.extract (A8 (some (y1.1+2))) (Be none s.size)).data.toList))) / 2),vb (((18446744073709551615 - (Ds ((s.extract (A8 (some (y1.1+2))) (Be none s.size)).data.toList))) % 2) == (0:Int)),vs (⟨#[]⟩)],vi 0])],[]))))))))))))))))

theorem bW (s:ByteArray):Av DP ΓF1 lH Tryd.f46 [vs s] [] (WP s)=WP s:=by kernel_rfl

noncomputable def HD (a:ByteArray) (b:ByteArray) (s1:Int):St:=([(0,vs a),(1,vs b),(5,vi s1)],[])
noncomputable def Fl (x1:Int):AE×St:=((.exit 0),([(5,vi x1)],[]))
noncomputable def En (a:ByteArray) (b:ByteArray) (s1:Int):Tree:=
.sp 9 (decide (s1<(a.size:Int))) (
.sp 14 (decide (s1<(b.size:Int))) (
.sidx 19 a s1 (fun c1=> .sidx 22 b s1 (fun c2=> .sp 23 ((c1.toNat:Int) == (c2.toNat:Int)) (
.int 26 (IntKind.i64.wrap (s1+1)) (s1+1) (.leaf ⟨[0,1,5],[]⟩ [] .normal (some (HD a b (s1+1))))) (
.leaf ⟨[5],[]⟩ [] (.exit 0) (some (Fl s1).2))))) (
.leaf ⟨[5],[]⟩ [] (.exit 0) (some (Fl s1).2))) (
.leaf ⟨[5],[]⟩ [] (.exit 0) (some (Fl s1).2))
noncomputable def S4 (a:ByteArray) (b:ByteArray):Tree:=
.loop ⟨[0,1,5],[]⟩ [] (some (HD a b 0)) (HD a b) (Fl) CN 0 (En a b) (fun (x1:Int)=> .leaf ⟨[0],[]⟩ [] .ret (some ([(0,vi x1)],[]))) (fun _=> .stuck)

theorem Ym (a:ByteArray) (b:ByteArray):Av DP Γ0 Δ0 Tryd.f83 [vs a,vs b] [] (S4 a b)=S4 a b:=by kernel_rfl


theorem Dg {d:Nat} {s:ByteArray} {i:Int} {k:UInt8→Tree} {K:AE→St→Prop} (c:UInt8) (h0:0≤i) (hc:s[i.toNat]? = some c) (h:(k c).wp K):(Tree.sidx d s i k).wp K:=⟨h0,c,hc,h⟩
theorem Gg {d:Nat} {s:ByteArray} {lo hi:Option Int} {k:Tree} {K:AE→St→Prop} (h0:CE lo hi s.size) (h:k.wp K):(Tree.scut d s lo hi k).wp K:=⟨h0,h⟩
theorem O4 {d:Nat} {L:List UInt8} {k:Tree} {K:AE→St→Prop} (h:k.wp K):(Tree.bstr d L.length (rowC (L.map AA.f)) L k).wp K:=⟨rfl,rfl,h⟩
theorem DM {d n:Nat} {k:Tree} {K:AE→St→Prop} (h:k.wp K):(Tree.nilrow d n k).wp K:=h
theorem RN {s:ByteArray} {i:Nat} {c:UInt8} (h:s.data.toList[i]? = some c):s[i]? = some c:=by
 obtain ⟨hi,e⟩:=List.getElem?_eq_some_iff.1 h
 have hi':i<s.size:=hi
 rw[getElem?_pos s i hi',←e]
 rfl

theorem jF (y:List UInt8):Dq [] y=0:=by cases y <;> rfl
theorem eg (x:List UInt8):Dq x []=0:=by cases x <;> rfl
theorem bX (a b:ByteArray):∀ (x y:List UInt8) (i:Nat),a.data.toList.drop i=x→b.data.toList.drop i=y→a.size≤1000000000→Rounds (HD a b) Fl CN (fun s=>(En a b s).wp) (i:Int) (.inl ((i+Dq x y:Nat):Int)):=by
 intro x
 induction x with
 | nil=>
  intro y i hx hy hN
  have hi:a.size≤i:=List.drop_eq_nil_iff.1 hx
  refine .done (by intro e; cases e) ?_
  unfold En
  rw[jF]
  exact AC (fun h'=>absurd (of_decide_eq_true h') (by omega)) (fun _=>wp_leaf rfl ⟨rfl,rfl⟩)
 | cons c x ih=>
  intro y i hx hy hN
  have gc:a.data.toList[i]? = some c:=by rw[←List.head?_drop,hx]; rfl
  have hi:i<a.size:=(List.getElem?_eq_some_iff.1 gc).1
  have hx':a.data.toList.drop (i+1)=x:=by rw[←List.drop_drop,hx]; rfl
  cases y with
  | nil=>
   have hj:b.size≤i:=List.drop_eq_nil_iff.1 hy
   refine .done (by intro e; cases e) ?_
   unfold En
   rw[eg]
   exact AC (fun _=>AC (fun h'=>absurd (of_decide_eq_true h') (by omega)) (fun _=>wp_leaf rfl ⟨rfl,rfl⟩)) (fun h'=>absurd (of_decide_eq_false h') (by omega))
  | cons d y=>
   have gd:b.data.toList[i]? = some d:=by rw[←List.head?_drop,hy]; rfl
   have hj:i<b.size:=(List.getElem?_eq_some_iff.1 gd).1
   have hy':b.data.toList.drop (i+1)=y:=by rw[←List.drop_drop,hy]; rfl
   have hc:a[Int.toNat (i:Int)]? = some c:=RN gc
   have hd:b[Int.toNat (i:Int)]? = some d:=RN gd
   rw[Dq]
   by_cases e:c=d
   ·subst e
    rw[if_pos rfl]
    have hr:=ih y (i+1) hx' hy' hN
    rw[show i+1+Dq x y=i+(Dq x y+1) by omega] at hr
    refine .next ?_ hr
    unfold En
    refine AC (fun _=>AC (fun _=>Dg c (by omega) hc (Dg c (by omega) hd (AC (fun _=>AP (by omega) (wp_leaf rfl ⟨rfl,?_⟩)) (fun h'=>absurd h' (by simp))))) (fun h'=>absurd (of_decide_eq_false h') (by omega))) (fun h'=>absurd (of_decide_eq_false h') (by omega))
    rfl
   ·rw[if_neg e]
    refine .done (by intro e; cases e) ?_
    unfold En
    refine AC (fun _=>AC (fun _=>Dg c (by omega) hc (Dg d (by omega) hd (AC (fun h'=>absurd (beq_iff_eq.1 h') (fun h=>e (UInt8.toNat_inj.mp (by omega)))) (fun _=>wp_leaf rfl ⟨rfl,rfl⟩)))) (fun h'=>absurd (of_decide_eq_false h') (by omega))) (fun h'=>absurd (of_decide_eq_false h') (by omega))
def mf:List AV→AV→Prop:=fun args r=>∃ a b:ByteArray,a.size≤1000000000∧args= [vs a,vs b]∧r=vi ((Dq a.data.toList b.data.toList:Nat):Int)
noncomputable def O5:=B4 mf
theorem mg:SoundF DP O3 (.pure O5):=A6 AZ Γ0_ok Bq jC jD jE (by
 rintro args r ⟨a,b,hN,rfl,rfl⟩
 refine ⟨rfl,rfl,_,Ym a b,?_⟩
 unfold S4
 have hr:=bX a b _ _ 0 rfl rfl hN
 rw[List.drop_zero,List.drop_zero,Nat.zero_add] at hr
 exact BH _ rfl hr (wp_leaf rfl (.p _)))
theorem bY (a b:ByteArray) (h:a.size≤1000000000):O5 [vs a,vs b]=some (vi ((Dq a.data.toList b.data.toList:Nat):Int)):=BT (by
 rintro args r r' ⟨a,b,_,h1,rfl⟩ ⟨a',b',_,h2,rfl⟩
 rw[h1] at h2
 simp at h2
 rw[h2.1,h2.2]) ⟨a,b,h,rfl,rfl⟩

theorem uW {a b:Int} (ha:0≤a∧a<18446744073709551616) (hb:0≤b∧b<18446744073709551616):IntKind.u64.wrap ((BitVec.ofInt IntKind.u64.bits a ^^^ BitVec.ofInt IntKind.u64.bits b).toNat)=A0 a b:=pN rfl ⟨ha.1,by show a.toNat<18446744073709551616; omega⟩ ⟨hb.1,by show b.toNat<18446744073709551616; omega⟩
theorem WQ {a:Int} (ha:0≤a∧a<18446744073709551616):IntKind.u64.wrap ((BitVec.ofInt IntKind.u64.bits IntKind.u64.max ^^^ BitVec.ofInt IntKind.u64.bits a).toNat)=18446744073709551615 - a:=by
 rw[uW (by decide) ha]
 obtain ⟨n,rfl⟩:=Int.eq_ofNat_of_zero_le ha.1
 unfold A0
 have hm:(IntKind.u64.max).toNat=2 ^ 64 - 1:=by decide
 rw[hm,Int.toNat_natCast,Nat.xor_comm]
 have h1:n<2 ^ 64:=by omega
 have h2:(~~~ (BitVec.ofNat 64 n)).toNat=2 ^ 64 - 1 - n:=by
  rw[BitVec.toNat_not,BitVec.toNat_ofNat,Nat.mod_eq_of_lt h1]
 have h3:n ^^^ (2 ^ 64 - 1)=2 ^ 64 - 1 - n:=by
  rw[←h2,BitVec.toNat_not,BitVec.toNat_ofNat,Nat.mod_eq_of_lt h1]
  apply Nat.eq_of_testBit_eq
  intro i
  rw[Nat.testBit_xor,Nat.testBit_two_pow_sub_one]
  have h4:=Nat.testBit_two_pow_sub_succ (x:=n) (n:=64) h1 i
  have h5:2 ^ 64 - (n+1)=2 ^ 64 - 1 - n:=by omega
  rw[h5] at h4
  rw[h4]
  by_cases hi:i<64
  ·simp[hi]
  ·simp only[hi,decide_false,Bool.false_and,Bool.xor_false]
   exact Nat.testBit_lt_two_pow (Nat.lt_of_lt_of_le h1 (Nat.pow_le_pow_right (by decide) (by omega)))
 rw[h3]
 omega
theorem jG {m:Nat} (hm:m % 2=0):Bd (m:Int) 1=((m+1:Nat):Int):=by
 have e:m=(m / 2)*2 ^ 1:=by omega
 have h:=Nc (m:=m / 2) (c:=1) (k:=1) (by decide)
 rw[←e] at h
 exact h
theorem Id (c:UInt8):(ASrc.row 1 [vn .u8 (c.toNat:Int)]).ok AA [c]:=⟨rfl,rfl⟩
theorem Yn (x:Ent):∀ (k:List UInt8) (i:Nat) (L:List UInt8),x.key.data.toList.drop i=k→L.length+2*k.length≤1000000000→i≤1000000000→x.key.data.toList.length≤1000000000→Rounds (GC x) (K6 x) CN (fun s=>(GD x s).wp) (L,(i:Int)) (.inl (L++Ch k)):=by
 intro k
 induction k with
 | nil=>
  intro i L hk hL hi hN
  have hj:x.key.data.toList.length≤i:=List.drop_eq_nil_iff.1 hk
  refine .done (by intro e; cases e) ?_
  unfold GD
  rw[Ch,List.append_nil]
  exact AC (fun h'=>absurd (of_decide_eq_true h') (by simp only; omega)) (fun _=>wp_leaf rfl ⟨rfl,rfl⟩)
 | cons c k ih=>
  intro i L hk hL hi hN
  have gc:x.key.data.toList[i]? = some c:=by rw[←List.head?_drop,hk]; rfl
  have hj:=(List.getElem?_eq_some_iff.1 gc).1
  have hk':x.key.data.toList.drop (i+1)=k:=by rw[←List.drop_drop,hk]; rfl
  simp only[List.length_cons] at hL
  have e1:((i+1:Nat):Int)=(i:Int)+1:=by omega
  rw[Ch]
  by_cases hc:c=0
  ·subst hc
   rw[if_pos rfl]
   have hr:=ih (i+1) ((L++ [0])++ [255]) hk' (by simp only[List.length_append,List.length_singleton]; omega) (by omega) hN
   rw[e1,show L++ [0]++ [255]++Ch k=L++0::255::Ch k by simp] at hr
   refine .next ?_ hr
   unfold GD
   exact AC (fun _=>CX (by simp only; omega) (by simp only; omega) (Bb 0 (by simp only; omega) rfl gc (BW (Id 0) rfl (by simp only[List.length_append,List.length_singleton]; omega) (AC (fun _=>BW ⟨rfl,rfl⟩ rfl (by simp only[List.length_append,List.length_singleton]; omega) (AP (by simp only; omega) (wp_leaf rfl ⟨rfl,rfl⟩))) (fun h'=>absurd h' (by decide)))))) (fun h'=>absurd (of_decide_eq_false h') (by simp only; omega))
  ·rw[if_neg hc]
   have hr:=ih (i+1) (L++ [c]) hk' (by simp only[List.length_append,List.length_singleton]; omega) (by omega) hN
   rw[e1,show L++ [c]++Ch k=L++c::Ch k by simp] at hr
   refine .next ?_ hr
   unfold GD
   exact AC (fun _=>CX (by simp only; omega) (by simp only; omega) (Bb c (by simp only; omega) rfl gc (BW (Id c) rfl (by simp only[List.length_append,List.length_singleton]; omega) (AC (fun h'=>absurd (beq_iff_eq.1 h') (fun h=>hc (UInt8.toNat_inj.mp (show c.toNat=0 by omega)))) (fun _=>AP (by simp only; omega) (wp_leaf rfl ⟨rfl,rfl⟩)))))) (fun h'=>absurd (of_decide_eq_false h') (by simp only; omega))

theorem Ju {d:Nat} {x:Tree} {K:AE→St→Prop} (h:x.wp K):(Tree.sbyte d x).wp K:=h

theorem Yo (x:Ent):∀ (k:List UInt8) (i:Nat) (L:List UInt8),x.key.data.toList.drop i=k→L.length+2*k.length≤1000000000→i≤1000000000→x.key.data.toList.length≤1000000000→Rounds (GE x) (K7 x) CN (fun s=>(GF x s).wp) (L,(i:Int)) (.inl (L++Ch k)):=by
 intro k
 induction k with
 | nil=>
  intro i L hk hL hi hN
  have hj:x.key.data.toList.length≤i:=List.drop_eq_nil_iff.1 hk
  refine .done (by intro e; cases e) ?_
  unfold GF
  rw[Ch,List.append_nil]
  exact AC (fun h'=>absurd (of_decide_eq_true h') (by simp only; omega)) (fun _=>wp_leaf rfl ⟨rfl,rfl⟩)
 | cons c k ih=>
  intro i L hk hL hi hN
  have gc:x.key.data.toList[i]? = some c:=by rw[←List.head?_drop,hk]; rfl
  have hj:=(List.getElem?_eq_some_iff.1 gc).1
  have hk':x.key.data.toList.drop (i+1)=k:=by rw[←List.drop_drop,hk]; rfl
  simp only[List.length_cons] at hL
  have e1:((i+1:Nat):Int)=(i:Int)+1:=by omega
  rw[Ch]
  by_cases hc:c=0
  ·subst hc
   rw[if_pos rfl]
   have hr:=ih (i+1) ((L++ [0])++ [255]) hk' (by simp only[List.length_append,List.length_singleton]; omega) (by omega) hN
   rw[e1,show L++ [0]++ [255]++Ch k=L++0::255::Ch k by simp] at hr
   refine .next ?_ hr
   unfold GF
   exact AC (fun _=>CX (by simp only; omega) (by simp only; omega) (Bb 0 (by simp only; omega) rfl gc (BW (Id 0) rfl (by simp only[List.length_append,List.length_singleton]; omega) (AC (fun _=>BW ⟨rfl,rfl⟩ rfl (by simp only[List.length_append,List.length_singleton]; omega) (AP (by simp only; omega) (wp_leaf rfl ⟨rfl,rfl⟩))) (fun h'=>absurd h' (by decide)))))) (fun h'=>absurd (of_decide_eq_false h') (by simp only; omega))
  ·rw[if_neg hc]
   have hr:=ih (i+1) (L++ [c]) hk' (by simp only[List.length_append,List.length_singleton]; omega) (by omega) hN
   rw[e1,show L++ [c]++Ch k=L++c::Ch k by simp] at hr
   refine .next ?_ hr
   unfold GF
   exact AC (fun _=>CX (by simp only; omega) (by simp only; omega) (Bb c (by simp only; omega) rfl gc (BW (Id c) rfl (by simp only[List.length_append,List.length_singleton]; omega) (AC (fun h'=>absurd (beq_iff_eq.1 h') (fun h=>hc (UInt8.toNat_inj.mp (show c.toNat=0 by omega)))) (fun _=>AP (by simp only; omega) (wp_leaf rfl ⟨rfl,rfl⟩)))))) (fun h'=>absurd (of_decide_eq_false h') (by simp only; omega))
theorem lI {n:Int} {L:List UInt8} {cs:Box} (hn:0≤n∧n<18446744073709551616) (hL:((L.length+8:Nat):Int)≤1000000000):
  eZ 81 [.rs 0 1 1 0 L.length,vn .u64 n,vi 8] [AA.bx 1 L,cs] (.rs 2 0 1 0 (L++DL (Int.toNat n) 8).length) [AA.bx 2 ([]:List UInt8),cs,AA.bx 0 (L++DL (Int.toNat n) 8)]:=
 HZ (R:=bS) (pre:= []) (b:=0) (v:=1) (B:= [AA.bx 1 L,cs]) ⟨n,hn,L,hL,rfl,rfl,rfl,rfl⟩ rfl rfl rfl
def qJ:List AV→AV→Prop:=fun args r=>∃ x:Ent,(0≤x.seq∧x.seq<18446744073709551616)∧x.key.size≤400000000∧args= [AB.av x]∧r=vs ⟨(BC x).toArray⟩
noncomputable def Ie:=B4 qJ
theorem qK:∀ f,SoundR DP f (eZ f):=AY (AU uS) BJ
theorem uX {x:Ent} (hs:0≤x.seq∧x.seq<18446744073709551616) (h:x.del=true):BC x=Ch x.key.data.toList++ [0,1]++DL (Int.toNat (18446744073709551615 - (x.seq*2) % 18446744073709551616)) 8:=by
 unfold BC GZ
 rw[if_pos h,List.append_assoc]
 have e:18446744073709551615 - (2*x.seq.toNat % 18446744073709551616+0)=Int.toNat (18446744073709551615 - (x.seq*2) % 18446744073709551616):=by omega
 rw[e]
 rfl
theorem uY {x:Ent} (hs:0≤x.seq∧x.seq<18446744073709551616) (h:x.del=false):Bd ((x.seq*2) % 18446744073709551616) 1=(x.seq*2) % 18446744073709551616+1∧BC x=Ch x.key.data.toList++ [0,1]++DL (Int.toNat (18446744073709551615 - Bd ((x.seq*2) % 18446744073709551616) 1)) 8:=by
 obtain ⟨m,hm⟩:=Int.eq_ofNat_of_zero_le hs.1
 have e0:(x.seq*2) % 18446744073709551616=((m*2 % 18446744073709551616:Nat):Int):=by omega
 have e1:Bd ((x.seq*2) % 18446744073709551616) 1=(x.seq*2) % 18446744073709551616+1:=by
  rw[e0,jG (by omega)]
  omega
 refine ⟨e1,?_⟩
 rw[e1]
 unfold BC GZ
 rw[if_neg (by rw[h]; decide),List.append_assoc]
 have e:18446744073709551615 - (2*x.seq.toNat % 18446744073709551616+1)=Int.toNat (18446744073709551615 - ((x.seq*2) % 18446744073709551616+1)):=by omega
 rw[e]
 rfl
theorem WR:SoundF DP Ld (.pure Ie):=A6 AZ Γ0_ok qK mZ ma mb (by
 rintro args r ⟨x,hs,hN,rfl,rfl⟩
 refine ⟨rfl,rfl,_,bV x,?_⟩
 have hl:=S0 x.key.data.toList
 have hz:x.key.data.toList.length≤400000000:=hN
 have hr1:=Yn x _ 0 [] (List.drop_zero) (by simp only[List.length_nil]; omega) (by decide) (by omega)
 have hr2:=Yo x _ 0 [] (List.drop_zero) (by simp only[List.length_nil]; omega) (by decide) (by omega)
 rw[List.nil_append] at hr1 hr2
 have hlen:(Ch x.key.data.toList++ [0,1]).length=(Ch x.key.data.toList).length+2:=by simp
 unfold WO
 refine Ai (by rw[RD]; rfl) (AC (fun hd=>?_) (fun hd=>?_))
 ·have hi:=uX hs hd
  refine Ju (DM (BH _ rfl hr1 (BW ⟨rfl,rfl⟩ rfl (by rw[hlen]; omega) (Ai (WQ (by omega)) (AM (lI (by omega) (by rw[hlen]; omega)) (O4 (wp_leaf rfl ?_)))))))
  rw[hi]
  exact .p _
 ·obtain ⟨h1,hi⟩:=uY hs hd
  refine Ai (Sd (by omega) (by decide)) (Ju (DM (BH _ rfl hr2 (BW ⟨rfl,rfl⟩ rfl (by rw[hlen]; omega) (Ai (WQ (by rw[h1]; omega)) (AM (lI (by rw[h1]; omega) (by rw[hlen]; omega)) (O4 (wp_leaf rfl ?_))))))))
  rw[hi]
  exact .p _)
theorem Nm (x:Ent) (hs:0≤x.seq∧x.seq<18446744073709551616) (h:x.key.size≤400000000):Ie [AB.av x]=some (vs ⟨(BC x).toArray⟩):=BT (by
 rintro args r r' ⟨a,_,_,h1,rfl⟩ ⟨b,_,_,h2,rfl⟩
 rw[Lc (Eb (h1.symm.trans h2))]) ⟨x,hs,h,rfl,rfl⟩

theorem jH (b:List UInt8):bU [vl (b.map AA.f)]=some (vn .u64 (Ds b)):=BT (by
 rintro args r r' ⟨a,h1,rfl⟩ ⟨c,h2,rfl⟩
 rw[EP (EO (h1.symm.trans h2))]) ⟨b,rfl,rfl⟩
theorem ΓF1_ok:∀ f,SoundF DP f (ΓF1 f):=An U6 Bu
theorem qL:∀ f,SoundR DP f (lH f):=AY (uU.rel).shutRow BJ
theorem wd {B:List Box} {k v:Nat} {b:List UInt8} (hk:B[k]? = some (AA.bx v b)):
  lH 75 [.rs k v 1 0 b.length] B (vn .u64 (Ds b)) (B.set k .dead):=⟨0,k,v,UInt8,AA,b,hk,rfl,jH b,rfl⟩
theorem QS:∀ (k p r:List UInt8),Co k=some (p,r)→r.length≤k.length∧k.drop (k.length - r.length)=r∧p.length≤k.length
 | [],p,r,h=>by
  rw[Co] at h
  cases h
  exact ⟨Nat.le_refl _,rfl,Nat.le_refl _⟩
 | [c],p,r,h=>by
  rw[Co] at h
  split at h
  ·cases h
  ·cases h
   exact ⟨by simp,rfl,by simp⟩
 | c::d::k,p,r,h=>by
  rw[Co] at h
  split at h
  ·split at h
   ·cases h
    exact ⟨Nat.le_refl _,by simp,by simp⟩
   ·split at h
    ·cases h1:Co k with
     | none=>rw[h1] at h; cases h
     | some q=>
      rw[h1] at h
      cases h
      obtain ⟨g1,g2,g3⟩:=QS k q.1 q.2 h1
      refine ⟨by simp only[List.length_cons]; omega,?_,by simp only[List.length_cons]; omega⟩
      have e:(c::d::k).length - q.2.length=(k.length - q.2.length)+2:=by simp only[List.length_cons]; omega
      rw[e,List.drop_succ_cons,List.drop_succ_cons,g2]
    ·cases h
  ·cases h1:Co (d::k) with
   | none=>rw[h1] at h; cases h
   | some q=>
    rw[h1] at h
    cases h
    obtain ⟨g1,g2,g3⟩:=QS (d::k) q.1 q.2 h1
    refine ⟨by simp only[List.length_cons] at g1 ⊢; omega,?_,by simp only[List.length_cons] at g3 ⊢; omega⟩
    have e:(c::d::k).length - q.2.length=((d::k).length - q.2.length)+1:=by simp only[List.length_cons] at g1 ⊢; omega
    rw[e,List.drop_succ_cons,g2]
theorem we {s:ByteArray} {i:Nat} {k:List UInt8} (hk:s.data.toList.drop i=k) (hl:i+k.length=s.size):
  (s.extract (A8 (some (i:Int))) (Be (some (if ((s.size:Int):Int)<((i:Int)+2:Int) then ((s.size:Int):Int) else ((i:Int)+2:Int))) s.size)).toList=k.take 2:=by
 rw[ByteArray.toList_eq,ByteArray.data_extract,Array.toList_extract,List.extract_eq_take_drop]
 show List.take (_ - Int.toNat (i:Int)) (s.data.toList.drop (Int.toNat (i:Int)))=_
 rw[Int.toNat_natCast,hk]
 show List.take (Int.toNat (if ((s.size:Int):Int)<((i:Int)+2:Int) then ((s.size:Int):Int) else ((i:Int)+2:Int)) - i) k=_
 split
 ·rw[List.take_of_length_le (by omega),List.take_of_length_le (by omega)]
 ·rw[show Int.toNat ((i:Int)+2) - i=2 by omega]
theorem wH:(⟨#[0,1]⟩:ByteArray).toList= [0,1]:=by rw[ByteArray.toList_eq]
def S5 (s:ByteArray) (L:List UInt8):Option (List UInt8×List UInt8)→Unit ⊕ (Int×List UInt8)
 | none=> .inl ()
 | some (p,r)=> .inr ((s.size:Int) - r.length,L++p)
theorem bZ (s:ByteArray) (hN:s.size≤1000000000):∀ (n:Nat) (k:List UInt8) (i:Nat) (L:List UInt8),k.length≤n→s.data.toList.drop i=k→i+k.length=s.size→L.length≤i→Rounds (FL s) GG (Fk s) (fun z=>(DJ s z).wp) (L,(i:Int)) (S5 s L (Co k)):=by
 intro n
 have stop:∀ (k:List UInt8) (i:Nat) (L:List UInt8),i+k.length=s.size→S5 s L (some ([],k))= .inr ((i:Int),L):=fun k i L hl=>by
  show Sum.inr ((s.size:Int) - k.length,L++ [])=_
  rw[List.append_nil,show (s.size:Int) - k.length=(i:Int) by omega]
 induction n with
 | zero=>
  intro k i L hn hk hl hL
  have:k= []:=List.eq_nil_of_length_eq_zero (by omega)
  subst this
  rw[Co,stop [] i L hl]
  simp only[List.length_nil] at hl
  refine .done' (by intro e; cases e) ?_
  unfold DJ
  exact AC (fun h'=>absurd (of_decide_eq_true h') (by simp only; omega)) (fun _=>wp_leaf rfl ⟨rfl,rfl⟩)
 | succ n ih=>
  intro k i L hn hk hl hL
  cases k with
  | nil=>
   rw[Co,stop [] i L hl]
   simp only[List.length_nil] at hl
   refine .done' (by intro e; cases e) ?_
   unfold DJ
   exact AC (fun h'=>absurd (of_decide_eq_true h') (by simp only; omega)) (fun _=>wp_leaf rfl ⟨rfl,rfl⟩)
  | cons c k=>
   have gc:s[Int.toNat (i:Int)]? = some c:=RN (by rw[Int.toNat_natCast,←List.head?_drop,hk]; rfl)
   have hk':s.data.toList.drop (i+1)=k:=by rw[←List.drop_drop,hk]; rfl
   have e1:((i+1:Nat):Int)=(i:Int)+1:=by omega
   have hc2:=we hk hl
   simp only[List.length_cons] at hl hn
   have hok:CE (some (i:Int)) (some (if ((s.size:Int):Int)<((i:Int)+2:Int) then ((s.size:Int):Int) else ((i:Int)+2:Int))) s.size:=by simp only[CE]; split <;> omega
   have hin:(decide ((i:Int)<(s.size:Int)))=false→False:=fun h'=>absurd (of_decide_eq_false h') (by omega)
   have hz:((c.toNat:Int) == (0:Int))=decide (c=0):=by
    by_cases h:c=0
    ·subst h; rfl
    ·rw[decide_eq_false h,beq_eq_false_iff_ne]
     exact fun e=>h (UInt8.toNat_inj.mp (show c.toNat=0 by omega))
   by_cases h01:(c::k).take 2= [0,1]
   ·-- the end of the name
    have:∃ k',c=0∧k=1::k':=by
     cases k with
     | nil=>simp at h01
     | cons d k'=>simp at h01; exact ⟨k',h01.1,by rw[h01.2]⟩
    obtain ⟨k',rfl,rfl⟩:=this
    rw[show Co (0::1::k')=some ([],0::1::k') by rw[Co]; rfl,stop (0::1::k') i L (by simp only[List.length_cons] at hl ⊢; omega)]
    refine .done' (by intro e; cases e) ?_
    unfold DJ
    exact AC (fun _=>AP (by simp only; omega) (Gg hok (AC (fun h'=>by rw[hc2,wH,h01] at h'; cases h') (fun _=>wp_leaf rfl ⟨rfl,rfl⟩)))) (fun h'=>(hin h').elim)
   ·have hgo:(!((s.extract (A8 (some (i:Int))) (Be (some (if ((s.size:Int):Int)<((i:Int)+2:Int) then ((s.size:Int):Int) else ((i:Int)+2:Int))) s.size)).toList == (⟨#[0,1]⟩:ByteArray).toList))=false→False:=fun h'=>by
     rw[hc2,wH] at h'
     simp only[Bool.not_eq_false',beq_iff_eq] at h'
     exact h01 h'
    have hlen:(((L++ [c]).length:Nat):Int)≤1000000000:=by simp only[List.length_append,List.length_singleton]; omega
    by_cases h0:c=0
    ·subst h0
     cases k with
     | nil=>
      rw[show Co [0]=none from rfl]
      refine .done (by intro e; cases e) ?_
      simp only[List.length_nil] at hl
      unfold DJ
      exact AC (fun _=>AP (by simp only; omega) (Gg hok (AC (fun _=>Dg 0 (by simp only; omega) gc (BW (Id 0) rfl hlen (Dg 0 (by simp only; omega) gc (AC (fun _=>AP (by simp only; omega) (AC (fun _=>wp_leaf rfl ⟨rfl,rfl⟩) (fun h'=>absurd (beq_eq_false_iff_ne.1 h') (fun g=>g (by simp only; omega))))) (fun h'=>absurd h' (by decide)))))) (fun h'=>(hgo h').elim)))) (fun h'=>(hin h').elim)
     | cons d k=>
      have hd1:d≠1:=fun e=>h01 (by rw[e]; rfl)
      have gd:s[Int.toNat ((i:Int)+1)]? = some d:=RN (by rw[show Int.toNat ((i:Int)+1)=i+1 by omega,←List.head?_drop,hk']; rfl)
      simp only[List.length_cons] at hl hn
      by_cases h255:d=255
      ·subst h255
       have hk2:s.data.toList.drop (i+2)=k:=by rw[show i+2=(i+1)+1 by omega,←List.drop_drop,hk']; rfl
       have hr:=ih k (i+2) (L++ [0]) (by omega) hk2 (by omega) (by simp only[List.length_append,List.length_singleton]; omega)
       have eo:S5 s (L++ [0]) (Co k)=S5 s L (Co (0::255::k)):=by
        rw[Co]
        simp only[if_true]
        rw[if_neg (by decide)]
        cases Co k with
        | none=>rfl
        | some q=>show Sum.inr _=Sum.inr _; simp
       rw[eo,show ((i+2:Nat):Int)=(i:Int)+1+1 by omega] at hr
       refine .next ?_ hr
       unfold DJ
       exact AC (fun _=>AP (by simp only; omega) (Gg hok (AC (fun _=>Dg 0 (by simp only; omega) gc (BW (Id 0) rfl hlen (Dg 0 (by simp only; omega) gc (AC (fun _=>AP (by simp only; omega) (AC (fun h'=>absurd (beq_iff_eq.1 h') (by simp only; omega)) (fun _=>Dg 255 (by simp only; omega) gd (AC (fun h'=>absurd h' (by decide)) (fun _=>AP (by simp only; omega) (wp_leaf rfl ⟨rfl,rfl⟩)))))) (fun h'=>absurd h' (by decide)))))) (fun h'=>(hgo h').elim)))) (fun h'=>(hin h').elim)
      ·rw[show Co (0::d::k)=none by rw[Co]; simp only[if_true]; rw[if_neg hd1,if_neg h255]]
       refine .done (by intro e; cases e) ?_
       unfold DJ
       exact AC (fun _=>AP (by simp only; omega) (Gg hok (AC (fun _=>Dg 0 (by simp only; omega) gc (BW (Id 0) rfl hlen (Dg 0 (by simp only; omega) gc (AC (fun _=>AP (by simp only; omega) (AC (fun h'=>absurd (beq_iff_eq.1 h') (by simp only; omega)) (fun _=>Dg d (by simp only; omega) gd (AC (fun _=>wp_leaf rfl ⟨rfl,rfl⟩) (fun h'=>absurd h' (fun g=>h255 (UInt8.toNat_inj.mp (show d.toNat=255 by simp only[bne_eq_false_iff_eq] at g; omega)))))))) (fun h'=>absurd h' (by decide)))))) (fun h'=>(hgo h').elim)))) (fun h'=>(hin h').elim)
    ·have hr:=ih k (i+1) (L++ [c]) (by omega) hk' (by omega) (by simp only[List.length_append,List.length_singleton]; omega)
     have eo:S5 s (L++ [c]) (Co k)=S5 s L (Co (c::k)):=by
      have:Co (c::k)=(Co k).map fun p=>(c::p.1,p.2):=by
       cases k with
       | nil=>show (if c=0 then none else some ([c],[]))=_; rw[if_neg h0]; rfl
       | cons d k=>rw[Co,if_neg h0]
      rw[this]
      cases Co k with
      | none=>rfl
      | some q=>show Sum.inr _=Sum.inr _; simp
     rw[eo,e1] at hr
     refine .next ?_ hr
     unfold DJ
     exact AC (fun _=>AP (by simp only; omega) (Gg hok (AC (fun _=>Dg c (by simp only; omega) gc (BW (Id c) rfl hlen (Dg c (by simp only; omega) gc (AC (fun h'=>absurd h' (by rw[hz,decide_eq_true_eq]; exact h0)) (fun _=>AP (by simp only; omega) (wp_leaf rfl ⟨rfl,rfl⟩)))))) (fun h'=>(hgo h').elim)))) (fun h'=>(hin h').elim)
end Go.Ax
