/- Plain: a page that is made is read as it was. -/
import Derived.Test.YtbdfbdlfipcleaaDoorG26
set_option linter.unusedVariables false
set_option linter.unusedSimpArgs false
set_option linter.unusedSectionVars false
namespace Go.Ax
open Go.Proofs Go.RowKit
set_option maxRecDepth 100000

theorem wholeL_len:∀ (L:List Par) (o i:Nat) (last:List UInt8),(wholeL o i last L).length=4*cntL i L
 | [],_,_,_=>rfl
 | p::L,o,i,last=>by
  have ih:=wholeL_len L (o+(entB (sameN i last p.nl) p).length) (i+1) p.nl
  rw[wholeL,cntL,List.length_append,ih]
  split
  ·rw[leI_len]; show 4+_=_; omega
  ·simp
theorem cntL_le:∀ (L:List Par) (i:Nat),cntL i L≤L.length
 | [],_=>Nat.le_refl _
 | p::L,i=>by
  have:=cntL_le L (i+1)
  rw[cntL,List.length_cons]
  split <;> omega
theorem body_len:∀ (L:List Par) (i:Nat) (last:List UInt8),3*L.length≤(bodyL i last L).length
 | [],_,_=>Nat.le_refl _
 | p::L,i,last=>by
  obtain ⟨_,s2⟩:=sameN_le i last p.nl
  have:=body_len L (i+1) p.nl
  have h:=entB_len _ p s2
  have a:=putI_len1 (sameN i last p.nl)
  have b:=putI_len1 ((p.nl.length:Int) - sameN i last p.nl)
  have c:=putI_len1 p.vl.length
  rw[bodyL,List.length_append,List.length_cons]
  omega
def endI (b:List UInt8):Nat:=b.length - 4 - 4*(littleI (b.drop (b.length - 4))).toNat
def parI (b:List UInt8):Option (List Par):=
 if b.length<4 then none else
 if littleI (b.drop (b.length - 4))>((b.length - 4) / 4:Nat) then none else
 match readA (endI b) (endI b) (b.take (endI b)) [] with
 | none=>none
 | some L=>if (mkI L).2≠0∨(mkI L).1≠b then none else some L
theorem mkI_ok {L:List Par} (h:upL0 L) (hl:(bodyL 0 [] L).length≤262144):mkI L=(bodyL 0 [] L++wholeL 0 0 [] L++leI (cntL 0 L:Nat) 4,0):=by
 unfold mkI
 rw[mkP_ok L 0 [] [] [] 0 (fun _ p M e=>by subst e; exact h) (fun h=>absurd h (by omega)) (by simpa using hl)]
 simp
theorem par_mk {L:List Par} (h:upL0 L) (hl:(bodyL 0 [] L).length≤262144):parI (mkI L).1=some L∧endI (mkI L).1=(bodyL 0 [] L).length∧(mkI L).1.take (bodyL 0 [] L).length=bodyL 0 [] L:=by
 have hm:=mkI_ok h hl
 have hc:=cntL_le L 0
 have hb:=body_len L 0 []
 have hw:=wholeL_len L 0 0 []
 have h4:(leI (cntL 0 L:Nat) 4).length=4:=leI_len _ _
 have hlen:(mkI L).1.length=(bodyL 0 [] L).length+4*cntL 0 L+4:=by rw[hm]; simp only[List.length_append]; omega
 have hd:(mkI L).1.drop ((mkI L).1.length - 4)=leI (cntL 0 L:Nat) 4:=by
  rw[hlen,hm]
  exact List.drop_left' (by rw[List.length_append,hw]; omega)
 have hlt:littleI (leI (cntL 0 L:Nat) 4)=(cntL 0 L:Nat):=little_le (by omega)
 have he:endI (mkI L).1=(bodyL 0 [] L).length:=by unfold endI; rw[hd,hlt,hlen]; omega
 have ht:(mkI L).1.take (bodyL 0 [] L).length=bodyL 0 [] L:=by
  rw[hm,List.append_assoc]
  exact List.take_left
 have hr:=read_body L 0 (bodyL 0 [] L).length (bodyL 0 [] L).length 0 [] (by omega) (Nat.le_refl _) (by omega) (by omega)
 refine ⟨?_,he,ht⟩
 unfold parI
 rw[if_neg (by omega),hd,hlt,if_neg (by omega),he,ht,hr]
 simp only
 rw[if_neg]
 rintro (e | e)
 ·rw[hm] at e; exact e rfl
 ·exact e rfl
end Go.Ax

namespace Go.Ax
open Go.Proofs Go.RowKit
set_option maxRecDepth 100000

def ofE (x:Ent):Par:=⟨⟨(innB x).toArray⟩,x.val⟩
theorem ofE_nl (x:Ent):(ofE x).nl=innB x:=by simp[ofE,Par.nl]
def szE (x:Ent):Nat:=x.key.size+x.val.size
def chunks:List Ent→Nat→List Ent→List (List Ent)
 | [],_,cur=>if cur= [] then [] else [cur]
 | x::L,sz,cur=>if sz+szE x<1024∧L≠ [] then chunks L (sz+szE x) (cur++ [x]) else (cur++ [x])::chunks L 0 []
theorem chunks_flat:∀ (L:List Ent) (sz:Nat) (cur:List Ent),(chunks L sz cur).flatten=cur++L
 | [],sz,cur=>by
  unfold chunks
  split
  ·rename_i h; rw[h]; rfl
  ·simp
 | x::L,sz,cur=>by
  unfold chunks
  split
  ·rw[chunks_flat L]; simp
  ·rw[List.flatten_cons,chunks_flat L]; simp
theorem chunks_ne:∀ (L:List Ent) (sz:Nat) (cur:List Ent),∀ c∈chunks L sz cur,c≠ []
 | [],sz,cur,c,h=>by
  unfold chunks at h
  split at h
  ·simp at h
  ·rename_i hn
   rw[List.mem_singleton.1 h]; exact hn
 | x::L,sz,cur,c,h=>by
  unfold chunks at h
  split at h
  ·exact chunks_ne L _ _ c h
  ·rcases List.mem_cons.1 h with rfl | h
   ·simp
   ·exact chunks_ne L _ _ c h
theorem chunks_size:∀ (L:List Ent) (sz:Nat) (cur:List Ent) (m:Nat),(∀ x∈L,szE x≤m)→(cur.map szE).sum=sz→sz≤1024→∀ c∈chunks L sz cur,(c.map szE).sum≤1024+m
 | [],sz,cur,m,_,hs,hz,c,h=>by
  unfold chunks at h
  split at h
  ·simp at h
  ·rw[List.mem_singleton.1 h]; omega
 | x::L,sz,cur,m,hm,hs,hz,c,h=>by
  have hx:=hm x (by simp)
  have hL:∀ y∈L,szE y≤m:=fun y hy=>hm y (by simp[hy])
  unfold chunks at h
  split at h
  ·rename_i hc
   exact chunks_size L _ _ m hL (by simp[hs]) (by omega) c h
  ·rcases List.mem_cons.1 h with rfl | h
   ·simp only[List.map_append,List.map_cons,List.map_nil,List.sum_append,List.sum_cons,List.sum_nil]
    omega
   ·exact chunks_size L 0 [] m hL rfl (by omega) c h
def pageB (c:List Ent):List UInt8:=recB (mkI (c.map ofE)).1
def lastE (c:List Ent):Ent:=c.getLastD noE
def idxL:Nat→List (List Ent)→List Par
 | _,[]=> []
 | o,c::C=>⟨⟨(innB (lastE c)).toArray⟩,⟨(putI o++putI (pageB c).length).toArray⟩⟩::idxL (o+(pageB c).length) C
def pagesB:List (List Ent)→List UInt8
 | []=> []
 | c::C=>pageB c++pagesB C
def namesL:List Ent→List ByteArray→List ByteArray
 | [],N=>N
 | x::L,N=>namesL L (if N.getLast? = some x.key then N else N++ [x.key])
structure GoodE (L:List Ent):Prop where
 chk:∀ x∈L,chkE x=0
 seq:∀ x∈L,0≤x.seq
 up:L.Pairwise ltE
theorem chk_seq {x:Ent} (h:chkE x=0) (hs:0≤x.seq):SeqOk x:=by
 refine ⟨hs,?_⟩
 unfold chkE at h
 split at h
 ·cases h
 ·omega
theorem chk_key {x:Ent} (h:chkE x=0):1≤x.key.size∧x.key.size≤128∧x.val.size≤65536:=by
 unfold chkE at h
 split at h
 ·cases h
 ·split at h
  ·cases h
  ·omega
theorem upL_of:∀ (L:List Ent) (last:List UInt8),(∀ x∈L,bl last (innB x))→L.Pairwise (fun x y=>bl (innB x) (innB y))→upL last (L.map ofE)
 | [],_,_,_=>trivial
 | x::L,last,h,hp=>by
  rw[List.map_cons]
  refine ⟨by rw[ofE_nl]; exact h x (by simp),?_⟩
  rw[ofE_nl]
  exact upL_of L _ (fun y hy=>List.rel_of_pairwise_cons hp hy) hp.of_cons
theorem upL0_of {L:List Ent} (h:L.Pairwise (fun x y=>bl (innB x) (innB y))):upL0 (L.map ofE):=by
 cases L with
 | nil=>trivial
 | cons x L=>
  show upL (ofE x).nl (L.map ofE)
  rw[ofE_nl]
  exact upL_of L _ (fun y hy=>List.rel_of_pairwise_cons h hy) h.of_cons
theorem GoodE.inn {L:List Ent} (h:GoodE L):L.Pairwise (fun x y=>bl (innB x) (innB y)):=by
 refine List.Pairwise.imp_of_mem (fun {a b} ha hb hab=>inn_lt (chk_seq (h.chk a ha) (h.seq a ha)) (chk_seq (h.chk b hb) (h.seq b hb)) hab) h.up
theorem GoodE.sub {L M:List Ent} (h:GoodE L) (hs:M.Sublist L):GoodE M:=⟨fun x hx=>h.chk x (hs.subset hx),fun x hx=>h.seq x (hs.subset hx),h.up.sublist hs⟩
theorem esc_len:∀ l:List UInt8,(escL l).length≤2*l.length
 | []=>Nat.le_refl _
 | c::l=>by
  have:=esc_len l
  unfold escL
  split <;> simp <;> omega
theorem inn_len {x:Ent} (h:chkE x=0):(innB x).length≤266:=by
 have:=esc_len x.key.data.toList
 have hk:=chk_key h
 have hl:x.key.data.toList.length=x.key.size:=rfl
 unfold innB
 simp only[List.length_append,List.length_cons,beN_len]
 omega
theorem ent_len {i:Nat} {last:List UInt8} {x:Ent} (h:chkE x=0):(entB (sameN i last (ofE x).nl) (ofE x)).length≤300+szE x:=by
 obtain ⟨s1,s2⟩:=sameN_le i last (ofE x).nl
 have h1:=entB_len _ _ s2
 have hi:=inn_len h
 rw[←ofE_nl] at hi
 have hk:=chk_key h
 have hv:(ofE x).vl.length=x.val.size:=rfl
 have p1:=putI_len (sameN i last (ofE x).nl) (by omega)
 have p2:=putI_len (((ofE x).nl.length:Int) - sameN i last (ofE x).nl) (by omega)
 have p3:=putI_len ((ofE x).vl.length:Int) (by omega)
 unfold szE
 omega
theorem body_le:∀ (L:List Ent) (i:Nat) (last:List UInt8),(∀ x∈L,chkE x=0)→(bodyL i last (L.map ofE)).length≤300*L.length+(L.map szE).sum
 | [],_,_,_=>by simp[bodyL]
 | x::L,i,last,h=>by
  have ih:=body_le L (i+1) (ofE x).nl (fun y hy=>h y (by simp[hy]))
  have he:=ent_len (i:=i) (last:=last) (h x (by simp))
  rw[List.map_cons,bodyL,List.length_append,List.length_cons,List.map_cons,List.sum_cons]
  omega
end Go.Ax

namespace Go.Ax
open Go.Proofs Go.RowKit
set_option maxRecDepth 100000

theorem nxor_cancel {a b c:Nat} (h:a ^^^ c=b ^^^ c):a=b:=by
 have:=congrArg (· ^^^ c) h
 simpa [Nat.xor_assoc] using this
theorem xorI_l {a b c:Int} (ha:0≤a) (hb:0≤b) (h:xorI a c=xorI b c):a=b:=by
 unfold xorI at h
 have h1:a.toNat ^^^ c.toNat=b.toNat ^^^ c.toNat:=by omega
 have:=nxor_cancel h1
 omega
theorem xorI_r {a b c:Int} (ha:0≤a) (hb:0≤b) (h:xorI c a=xorI c b):a=b:=by
 unfold xorI at h
 rw[Nat.xor_comm c.toNat a.toNat,Nat.xor_comm c.toNat b.toNat] at h
 exact xorI_l ha hb h
theorem hA_top:∀ i j:Fin 16,(hA (i.val:Int)).toNat / 268435456=(hA (j.val:Int)).toNat / 268435456→i=j:=by decide
theorem xor_div {a b n:Nat} (ha:a<2 ^ n):(a ^^^ b) / 2 ^ n=b / 2 ^ n:=by
 rw[←Nat.shiftRight_eq_div_pow,Nat.shiftRight_xor_distrib,Nat.shiftRight_eq_div_pow,Nat.shiftRight_eq_div_pow,Nat.div_eq_of_lt ha,Nat.zero_xor]
theorem halfI_inj {x y:Int} (hx:0≤x∧x<4294967296) (hy:0≤y∧y<4294967296) (h:halfI x=halfI y):x=y:=by
 have hxm:x % 16=(((x % 16).toNat:Nat):Int):=by omega
 have hym:y % 16=(((y % 16).toNat:Nat):Int):=by omega
 have e:x % 16=y % 16:=by
  have h1:(halfI x).toNat / 2 ^ 28=(halfI y).toNat / 2 ^ 28:=by rw[h]
  unfold halfI xorI at h1
  rw[Int.toNat_natCast,Int.toNat_natCast,xor_div (by show (x / 16).toNat<268435456; omega),xor_div (by show (y / 16).toNat<268435456; omega)] at h1
  have:=hA_top ⟨(x % 16).toNat,by omega⟩ ⟨(y % 16).toNat,by omega⟩ (by simp only; rw[←hxm,←hym]; exact h1)
  have:=congrArg Fin.val this
  simp only at this
  omega
 unfold halfI at h
 rw[e] at h
 have:=xorI_l (by omega) (by omega) h
 omega
theorem xb {r:Int} (h:0≤r∧r<4294967296) (c:UInt8):0≤xorI r (c.toNat:Int)∧xorI r (c.toNat:Int)<4294967296:=xorI_32 h (by have:=u8_b c; omega)
theorem stepI_l {r s:Int} {c:UInt8} (hr:0≤r∧r<4294967296) (hs:0≤s∧s<4294967296) (h:stepI r c=stepI s c):r=s:=
 xorI_l hr.1 hs.1 (halfI_inj (xb hr c) (xb hs c) (halfI_inj (halfI_b (xb hr c)) (halfI_b (xb hs c)) h))
theorem stepI_r {r:Int} {c d:UInt8} (hr:0≤r∧r<4294967296) (h:stepI r c=stepI r d):c=d:=by
 have:=xorI_r (u8_b c).1 (u8_b d).1 (halfI_inj (xb hr c) (xb hr d) (halfI_inj (halfI_b (xb hr c)) (halfI_b (xb hr d)) h))
 exact UInt8.toNat_inj.1 (by omega)
theorem fold_l (b:List UInt8):∀ {r s:Int},(0≤r∧r<4294967296)→(0≤s∧s<4294967296)→b.foldl stepI r=b.foldl stepI s→r=s:=by
 induction b with
 | nil=>intro r s _ _ h; exact h
 | cons c b ih=>intro r s hr hs h; exact stepI_l hr hs (ih (stepI_b hr c) (stepI_b hs c) h)
theorem xor8_ne {c bits:UInt8} (h:bits≠0):c ^^^ bits≠c:=by
 intro e
 apply h
 have h2:c.toNat ^^^ bits.toNat=c.toNat:=by rw[←UInt8.toNat_xor,e]
 have h3:bits.toNat ^^^ c.toNat=0 ^^^ c.toNat:=by rw[Nat.xor_comm,h2,Nat.zero_xor]
 exact UInt8.toNat_inj.1 (nxor_cancel h3)
theorem crcI_turn {b:List UInt8} {k:Nat} {bits:UInt8} (hk:k<b.length) (hb:bits≠0):crcI (b.modify k (· ^^^ bits))≠crcI b:=by
 have hsplit:b=b.take k++b[k]::b.drop (k+1):=by rw[←List.drop_eq_getElem_cons hk,List.take_append_drop]
 have hm:b.modify k (· ^^^ bits)=b.take k++(b[k] ^^^ bits)::b.drop (k+1):=by
  rw[List.modify_eq_take_cons_drop hk]
 intro h
 unfold crcI moreI at h
 have h1:(b.modify k (· ^^^ bits)).foldl stepI (4294967295 - 0)=b.foldl stepI (4294967295 - 0):=by omega
 rw[hm] at h1
 rw[show b.foldl stepI (4294967295 - 0)=(b.take k++b[k]::b.drop (k+1)).foldl stepI (4294967295 - 0) by rw[←hsplit]] at h1
 simp only[List.foldl_append,List.foldl_cons] at h1
 have hr:=fold_b (r:=4294967295 - 0) (by decide) (b.take k)
 have:=fold_l _ (stepI_b hr _) (stepI_b hr _) h1
 exact xor8_ne hb (stepI_r hr this)
theorem maskI_inj {a b:Int} (ha:0≤a∧a<4294967296) (hb:0≤b∧b<4294967296) (h:maskI a=maskI b):a=b:=by
 have key:∀ s:Int,0≤s∧s<4294967296→orI (s / 32768) ((s*131072) % 4294967296)=s / 32768+s % 32768*131072:=fun s hs=>by
  have e:(s*131072) % 4294967296=(((s % 32768).toNat*2 ^ 17:Nat):Int):=by omega
  have e2:s / 32768=(((s / 32768).toNat:Nat):Int):=by omega
  rw[e,e2,orI_comm,orI_shift (by show (s / 32768).toNat<131072; omega)]
  omega
 unfold maskI at h
 rw[key a ha,key b hb] at h
 have e:a / 32768+a % 32768*131072=b / 32768+b % 32768*131072:=by
  have:=ha.2; have:=hb.2
  omega
 have e1:a / 32768=b / 32768:=by omega
 have e2:a % 32768=b % 32768:=by omega
 omega
theorem mask_turn {b:List UInt8} {k:Nat} {bits:UInt8} (hk:k<b.length) (hb:bits≠0):maskI (crcI (b.modify k (· ^^^ bits)))≠maskI (crcI b):=fun h=>crcI_turn hk hb (maskI_inj (crcI_b _) (crcI_b _) h)

theorem numN_inj:∀ {a b:List UInt8},a.length=b.length→numN a=numN b→a=b
 | [],[],_,_=>rfl
 | c::a,d::b,hl,h=>by
  rw[numN,numN] at h
  have hc:=c.toNat_lt
  have hd:=d.toNat_lt
  have h1:c.toNat=d.toNat:=by omega
  have h2:numN a=numN b:=by omega
  rw[UInt8.toNat_inj.1 h1,numN_inj (by simpa using hl) h2]
 | [],_::_,hl,_=>by simp at hl
 | _::_,[],hl,_=>by simp at hl
theorem modify_ne {b:List UInt8} {k:Nat} {bits:UInt8} (hk:k<b.length) (hb:bits≠0):b.modify k (· ^^^ bits)≠b:=by
 intro h
 have:=congrArg (·[k]?) h
 simp[List.getElem?_modify,hk] at this
 exact xor8_ne hb this
theorem little_turn {b:List UInt8} {k:Nat} {bits:UInt8} (h4:b.length=4) (hk:k<4) (hb:bits≠0):littleI (b.modify k (· ^^^ bits)) % 4294967296≠littleI b % 4294967296:=by
 intro h
 have hl:(b.modify k (· ^^^ bits)).length=4:=by simp[h4]
 unfold littleI at h
 rw[List.take_of_length_le (by omega),List.take_of_length_le (by omega)] at h
 have h1:=numN_lt (b.modify k (· ^^^ bits))
 have h2:=numN_lt b
 rw[hl] at h1
 rw[h4] at h2
 have h3:(256:Nat) ^ 4=4294967296:=by decide
 exact modify_ne (h4▸hk) hb (numN_inj (by omega) (by omega))

theorem mod_app_l {a b:List UInt8} {k:Nat} {f:UInt8→UInt8} (h:k<a.length):(a++b).modify k f=a.modify k f++b:=by
 apply List.ext_getElem?
 intro i
 rw[List.getElem?_modify]
 rcases Nat.lt_or_ge i a.length with h1 | h1
 ·rw[List.getElem?_append_left h1,List.getElem?_append_left (by simpa using h1),List.getElem?_modify]
 ·rw[List.getElem?_append_right h1,List.getElem?_append_right (by simpa using h1),List.length_modify]
  simp only[show ¬(k=i) from by omega,if_false]; exact id_map _
theorem mod_app_r {a b:List UInt8} {k:Nat} {f:UInt8→UInt8}:(a++b).modify (a.length+k) f=a++b.modify k f:=by
 apply List.ext_getElem?
 intro i
 rw[List.getElem?_modify]
 rcases Nat.lt_or_ge i a.length with h1 | h1
 ·rw[List.getElem?_append_left h1,List.getElem?_append_left h1]
  simp only[show ¬(a.length+k=i) from by omega,if_false]; exact id_map _
 ·rw[List.getElem?_append_right h1,List.getElem?_append_right h1,List.getElem?_modify]
  have e:(a.length+k=i)=(k=i - a.length):=propext ⟨fun h=>by omega,fun h=>by omega⟩
  simp only[e]
theorem next_of {A B C X:List UInt8} (hA:A.length=4) (hB:B.length=4) (hC:C.length=4) (rest:List UInt8) (n:Nat) (hX:X.length=n) (hn:littleI A=n→True):
  (littleI B % 4294967296≠maskI (crcI A)→(nextI (A++(B++(C++(X++rest))))).2.2=12) ∧
  (littleI A=(n:Int)→n≤1048576→littleI B % 4294967296=maskI (crcI A)→littleI C % 4294967296≠maskI (crcI X)→(nextI (A++(B++(C++(X++rest))))).2.2=12):=by
 have t4:(A++(B++(C++(X++rest)))).take 4=A:=take_app hA
 have t8:((A++(B++(C++(X++rest)))).take 8).drop 4=B:=by
  rw[←List.append_assoc,take_app (by rw[List.length_append,hA,hB])]
  rw[List.drop_append_of_le_length (by omega),List.drop_of_length_le (by omega),List.nil_append]
 have t12:((A++(B++(C++(X++rest)))).take 12).drop 8=C:=by
  rw[←List.append_assoc,←List.append_assoc,take_app (by rw[List.length_append,List.length_append,hA,hB,hC])]
  rw[List.drop_append_of_le_length (by rw[List.length_append]; omega),List.drop_of_length_le (by rw[List.length_append]; omega),List.nil_append]
 have hlen:(A++(B++(C++(X++rest)))).length=12+n+rest.length:=by simp only[List.length_append]; omega
 constructor
 ·intro h
  unfold nextI
  rw[if_neg (by omega),t8,t4,if_pos (.inl h)]
 ·intro h1 h2 h3 h4
  have tn:((A++(B++(C++(X++rest)))).take (12+littleI ((A++(B++(C++(X++rest)))).take 4)).toNat).drop 12=X:=by
   rw[t4,h1,←List.append_assoc,←List.append_assoc,←List.append_assoc,take_app (by simp only[List.length_append]; omega)]
   rw[List.drop_append_of_le_length (by simp only[List.length_append]; omega),List.drop_of_length_le (by simp only[List.length_append]; omega),List.nil_append]
  unfold nextI
  rw[if_neg (by omega),if_neg (by rw[t8,t4,h1]; rintro (h | h); exact h h3; omega),if_neg (by rw[t4,h1]; omega),tn,t12,if_pos h4]
theorem turn_abc {A B C d:List UInt8} (hA:A.length=4) (hB:B.length=4) (hC:C.length=4) (hd:d.length≤1048576) (lA:littleI A=((d.length:Nat):Int)) (lB:littleI B % 4294967296=maskI (crcI A)) (lC:littleI C % 4294967296=maskI (crcI d)) {k:Nat} (hk:k<12+d.length) {bits:UInt8} (hb:bits≠0) (rest:List UInt8):(nextI ((A++(B++(C++d))).modify k (· ^^^ bits)++rest)).2.2=12:=by
 rcases Nat.lt_or_ge k 4 with h | h
 ·rw[mod_app_l (by rw[hA]; exact h),List.append_assoc,List.append_assoc,List.append_assoc]
  refine (next_of (by rw[List.length_modify,hA]) hB hC rest d.length rfl (fun _=>trivial)).1 ?_
  rw[lB]
  exact (mask_turn (by rw[hA]; exact h) hb).symm
 obtain ⟨j,hj⟩:∃ j,k=A.length+j:=⟨k - 4,by rw[hA]; omega⟩
 rw[hj,mod_app_r]
 rw[hA] at hj
 rcases Nat.lt_or_ge j 4 with h | h
 ·rw[mod_app_l (by rw[hB]; exact h),List.append_assoc,List.append_assoc,List.append_assoc]
  refine (next_of hA (by rw[List.length_modify,hB]) hC rest d.length rfl (fun _=>trivial)).1 ?_
  rw[←lB]
  exact little_turn hB h hb
 obtain ⟨i,hi⟩:∃ i,j=B.length+i:=⟨j - 4,by rw[hB]; omega⟩
 rw[hi,mod_app_r]
 rw[hB] at hi
 rcases Nat.lt_or_ge i 4 with h | h
 ·rw[mod_app_l (by rw[hC]; exact h),List.append_assoc,List.append_assoc,List.append_assoc]
  refine (next_of hA hB (by rw[List.length_modify,hC]) rest d.length rfl (fun _=>trivial)).2 lA hd lB ?_
  rw[←lC]
  exact little_turn hC h hb
 obtain ⟨m,hm⟩:∃ m,i=C.length+m:=⟨i - 4,by rw[hC]; omega⟩
 rw[hm,mod_app_r]
 rw[hC] at hm
 rw[List.append_assoc,List.append_assoc,List.append_assoc]
 refine (next_of hA hB hC rest d.length (by rw[List.length_modify]) (fun _=>trivial)).2 lA hd lB ?_
 rw[lC]
 exact (mask_turn (by omega) hb).symm
theorem turn_rec {d:List UInt8} (hd:d.length≤1048576) {k:Nat} (hk:k<(recB d).length) {bits:UInt8} (hb:bits≠0) (rest:List UInt8):(nextI ((recB d).modify k (· ^^^ bits)++rest)).2.2=12:=by
 have m1:=maskI_b (crcI (leI (d.length:Int) 4))
 have m2:=maskI_b (crcI d)
 rw[recB_len] at hk
 have e:recB d=leI (d.length:Int) 4++(leI (maskI (crcI (leI (d.length:Int) 4))) 4++(leI (maskI (crcI d)) 4++d)):=by simp only[recB,List.append_assoc]
 rw[e]
 exact turn_abc (leI_len _ _) (leI_len _ _) (leI_len _ _) hd (little_le (by omega)) (by rw[little_le m1]; exact Int.emod_eq_of_lt m1.1 m1.2) (by rw[little_le m2]; exact Int.emod_eq_of_lt m2.1 m2.2) (by omega) hb rest

end Go.Ax

namespace Go.Ax
open Go.Proofs Go.RowKit
set_option maxRecDepth 100000

def posA (n b:Nat):Nat→Nat→List Nat
 | 0,_=> []
 | k+1,a=>a*n / 4294967296::posA n b k ((a+b) % 4294967296)
def bloomH (s:List UInt8):Nat:=(crcI s).toNat
def bloomS (s:List UInt8):Nat:=(maskI (crcI s)).toNat ||| 1
def posL (s:List UInt8) (n:Nat):List Nat:=posA n (bloomS s) 6 (bloomH s)
def setB (bits:List UInt8) (i:Nat):List UInt8:=bits.modify (i / 8) fun x=>x ||| UInt8.ofNat (2 ^ (i % 8))
def tstB (bits:List UInt8) (i:Nat):Bool:=(bits.getD (i / 8) 0).toNat / 2 ^ (i % 8) % 2 == 1
def setL (bits:List UInt8) (P:List Nat):List UInt8:=P.foldl setB bits
def bloomI (N:List ByteArray):List UInt8:=N.foldl (fun bits s=>setL bits (posL s.data.toList (8*bits.length))) (List.replicate (max ((N.length*10+7) / 8) 8) 0)
def mayI (bits:List UInt8) (s:ByteArray):Bool:=decide (0<bits.length)&&(posL s.data.toList (8*bits.length)).all (tstB bits)
theorem setB_len (bits:List UInt8) (i:Nat):(setB bits i).length=bits.length:=List.length_modify _ _ _
theorem setL_len:∀ (P:List Nat) (bits:List UInt8),(setL bits P).length=bits.length
 | [],_=>rfl
 | i::P,bits=>by
  show (setL (setB bits i) P).length=_
  rw[setL_len P,setB_len]
theorem tst_or (x:UInt8) (i j:Nat) (hi:i<8) (hj:j<8):(x ||| UInt8.ofNat (2 ^ i)).toNat / 2 ^ j % 2=if i=j then 1 else x.toNat / 2 ^ j % 2:=by
 have hx:=x.toNat_lt
 have e:(x ||| UInt8.ofNat (2 ^ i)).toNat=x.toNat ||| 2 ^ i:=by
  rw[UInt8.toNat_or,UInt8.toNat_ofNat']
  congr 1
  have:2 ^ i≤2 ^ 7:=Nat.pow_le_pow_right (by decide) (by omega)
  exact Nat.mod_eq_of_lt (by omega)
 have t:∀ n:Nat,n / 2 ^ j % 2=(n.testBit j).toNat:=fun n=>by
  rw[Nat.testBit_eq_decide_div_mod_eq]
  rcases Nat.mod_two_eq_zero_or_one (n / 2 ^ j) with h | h <;> simp[h]
 rw[e,t,t,Nat.testBit_or,Nat.testBit_two_pow]
 by_cases h:i=j
 ·rw[if_pos h,decide_eq_true h,Bool.or_true]; rfl
 ·rw[if_neg h,decide_eq_false h,Bool.or_false]
theorem tst_set {bits:List UInt8} {i:Nat} (hi:i<8*bits.length) (j:Nat):tstB (setB bits i) j=(decide (i=j)||tstB bits j):=by
 unfold tstB setB
 by_cases h:i / 8=j / 8
 ·have hlt:i / 8<bits.length:=by omega
  have e1:(bits.modify (i / 8) fun x=>x ||| UInt8.ofNat (2 ^ (i % 8))).getD (j / 8) 0=bits[i / 8] ||| UInt8.ofNat (2 ^ (i % 8)):=by
   rw[←h,List.getD_eq_getElem?_getD,List.getElem?_modify_eq,List.getElem?_eq_getElem hlt]
   rfl
  have e2:bits.getD (j / 8) 0=bits[i / 8]:=by rw[←h,List.getD_eq_getElem?_getD,List.getElem?_eq_getElem hlt]; rfl
  rw[e1,e2,tst_or _ _ _ (by omega) (by omega)]
  by_cases h2:i=j
  ·subst h2; simp
  ·rw[if_neg (by omega),decide_eq_false h2,Bool.false_or]
 ·rw[List.getD_eq_getElem?_getD,List.getElem?_modify_ne _ _ h,←List.getD_eq_getElem?_getD,decide_eq_false (by omega),Bool.false_or]
theorem tst_setL:∀ (P:List Nat) (bits:List UInt8) (j:Nat),(∀ i∈P,i<8*bits.length)→(j∈P∨tstB bits j=true)→tstB (setL bits P) j=true
 | [],bits,j,_,h=>h.resolve_left (by simp)
 | i::P,bits,j,hP,h=>by
  show tstB (setL (setB bits i) P) j=true
  refine tst_setL P _ j (fun k hk=>by rw[setB_len]; exact hP k (by simp[hk])) ?_
  rw[tst_set (hP i (by simp))]
  rcases h with h | h
  ·rcases List.mem_cons.1 h with rfl | h
   ·exact .inr (by simp)
   ·exact .inl h
  ·exact .inr (by rw[h,Bool.or_true])
theorem posA_lt {n b:Nat} (hn:0<n):∀ (k a:Nat),a<4294967296→∀ i∈posA n b k a,i<n
 | 0,_,_,i,h=>by simp[posA] at h
 | k+1,a,ha,i,h=>by
  unfold posA at h
  rcases List.mem_cons.1 h with rfl | h
  ·exact Nat.div_lt_of_lt_mul (Nat.mul_lt_mul_of_pos_right ha hn)
  ·exact posA_lt hn k _ (Nat.mod_lt _ (by decide)) i h
theorem pos_lt {s:List UInt8} {n:Nat} (hn:0<n):∀ i∈posL s n,i<n:=posA_lt hn 6 _ (by
 have:=crcI_b s
 unfold bloomH
 omega)
theorem bloomF_len (N:List ByteArray):∀ bits:List UInt8,(N.foldl (fun bits s=>setL bits (posL s.data.toList (8*bits.length))) bits).length=bits.length:=by
 induction N with
 | nil=>intro _; rfl
 | cons s N ih=>intro bits; rw[List.foldl_cons,ih,setL_len]
theorem bloomF_has (N:List ByteArray):∀ (bits:List UInt8) (j:Nat),0<bits.length→((∃ s∈N,j∈posL s.data.toList (8*bits.length))∨tstB bits j=true)→tstB (N.foldl (fun bits s=>setL bits (posL s.data.toList (8*bits.length))) bits) j=true:=by
 induction N with
 | nil=>intro bits j _ h; exact h.resolve_left (by simp)
 | cons s N ih=>
  intro bits j h0 h
  rw[List.foldl_cons]
  refine ih _ j (by rw[setL_len]; exact h0) ?_
  rw[setL_len]
  have hp:=pos_lt (s:=s.data.toList) (n:=8*bits.length) (by omega)
  rcases h with ⟨t,ht,hj⟩ | h
  ·rcases List.mem_cons.1 ht with rfl | ht
   ·exact .inr (tst_setL _ _ _ hp (.inl hj))
   ·exact .inl ⟨t,ht,hj⟩
  ·exact .inr (tst_setL _ _ _ hp (.inr h))
theorem bloom_len (N:List ByteArray):(bloomI N).length=max ((N.length*10+7) / 8) 8:=by
 unfold bloomI
 rw[bloomF_len,List.length_replicate]
theorem may_of {N:List ByteArray} {s:ByteArray} (h:s∈N):mayI (bloomI N) s=true:=by
 have hl:=bloom_len N
 unfold mayI
 rw[decide_eq_true (by omega),Bool.true_and,List.all_eq_true]
 intro j hj
 unfold bloomI
 refine bloomF_has N _ j (by rw[List.length_replicate]; omega) (.inl ⟨s,h,?_⟩)
 rw[List.length_replicate,←hl]
 exact hj

/-- The record that stands somewhere. -/
def getF (c:List UInt8) (at_ n:Int):List UInt8×Int:=
 if at_<0∨n<0∨at_>c.length then ([],12) else
 if (nextI ((c.drop at_.toNat).take (min n (c.length - at_)).toNat)).2.2≠0∨(nextI ((c.drop at_.toNat).take (min n (c.length - at_)).toNat)).2.1≠n then ([],12) else
 ((nextI ((c.drop at_.toNat).take (min n (c.length - at_)).toNat)).1,0)
theorem get_rec {A d B:List UInt8} (hd:d.length≤1048576):getF (A++(recB d++B)) A.length (recB d).length=(d,0):=by
 have hr:(recB d).length=d.length+12:=recB_len d
 have e:((A++(recB d++B)).drop (A.length:Int).toNat).take (min ((recB d).length:Int) ((A++(recB d++B)).length - (A.length:Int))).toNat=recB d:=by
  rw[Int.toNat_natCast,List.drop_left]
  refine List.take_left' ?_
  simp only[List.length_append]
  omega
 have hn:=next_rec hd []
 rw[List.append_nil] at hn
 unfold getF
 rw[if_neg (by simp only[List.length_append]; omega),e,hn,if_neg]
 rintro (h | h)
 ·exact h rfl
 ·simp only at h
  omega
theorem get_turn {c:List UInt8} {A d B:List UInt8} (hc:c=A++(recB d++B)) (hd:d.length≤1048576) {k:Nat} (hk:k<c.length) {bits:UInt8} (hb:bits≠0):
  getF (c.modify k (· ^^^ bits)) A.length (recB d).length=(d,0)∨getF (c.modify k (· ^^^ bits)) A.length (recB d).length=([],12):=by
 subst hc
 have hr:(recB d).length=d.length+12:=recB_len d
 rcases Nat.lt_or_ge k A.length with h | h
 ·rw[mod_app_l h]
  have:=get_rec (A:=A.modify k (· ^^^ bits)) (d:=d) (B:=B) hd
  rw[List.length_modify] at this
  exact .inl this
 ·obtain ⟨j,rfl⟩:∃ j,k=A.length+j:=⟨k - A.length,by omega⟩
  rw[mod_app_r]
  rcases Nat.lt_or_ge j (recB d).length with h2 | h2
  ·right
   rw[mod_app_l h2]
   have ht:=turn_rec hd h2 hb []
   rw[List.append_nil] at ht
   have e:((A++((recB d).modify j (· ^^^ bits)++B)).drop (A.length:Int).toNat).take (min ((recB d).length:Int) ((A++((recB d).modify j (· ^^^ bits)++B)).length - (A.length:Int))).toNat=(recB d).modify j (· ^^^ bits):=by
    rw[Int.toNat_natCast,List.drop_left]
    refine List.take_left' ?_
    simp only[List.length_append,List.length_modify]
    omega
   unfold getF
   rw[if_neg (by simp only[List.length_append,List.length_modify]; omega),e,if_pos (.inl (by rw[ht]; decide))]
  ·left
   obtain ⟨i,rfl⟩:∃ i,j=(recB d).length+i:=⟨j - (recB d).length,by omega⟩
   rw[mod_app_r]
   exact get_rec hd
end Go.Ax

namespace Go.Ax
open Go.Proofs Go.RowKit
set_option maxRecDepth 100000

def fiveB (a b c d e:Int):List UInt8:=leI a 8++(leI b 8++(leI c 8++(leI d 8++leI e 8)))
def idxY (C:List (List Ent)):List UInt8:=recB (mkI (idxL 0 C)).1
def filB (L:List Ent):List UInt8:=recB (6::bloomI (namesL L []))
def footB (L:List Ent):List UInt8:=
 recB (fiveB (pagesB (chunks L 0 [])).length (idxY (chunks L 0 [])).length ((pagesB (chunks L 0 [])).length+(idxY (chunks L 0 [])).length) (filB L).length L.length)
def fileY (L:List Ent):List UInt8:=pagesB (chunks L 0 [])++(idxY (chunks L 0 [])++(filB L++footB L))

def atI (v:List UInt8):Option (Int×Int):=
 if (getI v).2.2≠0∨(getI v).1>67108864 then none else
 if (getI (v.drop (getI v).2.1.toNat)).2.2≠0∨(getI v).2.1+(getI (v.drop (getI v).2.1.toNat)).2.1≠v.length∨(getI (v.drop (getI v).2.1.toNat)).1>67108864 then none else
 some ((getI v).1,(getI (v.drop (getI v).2.1.toNat)).1)
def pairsI (c:List UInt8) (p:Par):List Par×Int:=match atI p.vl with
 | none=>([],12)
 | some (a,n)=>if (getF c a n).2≠0 then ([],12) else match parI (getF c a n).1 with
  | none=>([],12)
  | some L=>(L,0)
def withV (x:Ent) (v:ByteArray):Ent:=⟨x.key,x.seq,x.del,v⟩
def entsI:List Par→Option (List Ent)
 | []=>some []
 | p::L=>if (outI p.nl).2≠0∨chkE (withV (outI p.nl).1 p.val)≠0 then none else (entsI L).map (withV (outI p.nl).1 p.val :: ·)
def pageI (c:List UInt8) (idx:List Par) (i:Int):List Ent×Int:=
 if i<0 then ([],1) else match idx[i.toNat]? with
 | none=>([],1)
 | some p=>if (pairsI c p).2≠0 then ([],12) else match entsI (pairsI c p).1 with
  | none=>([],12)
  | some L=>if L= [] then ([],12) else (L,0)
structure FileR where
 idx:List Par
 bits:List UInt8
 cnt:Int
 low:ByteArray
 high:ByteArray
def noFile:FileR:=⟨[],[],0,⟨#[]⟩,⟨#[]⟩⟩
def numF (e:List UInt8) (i:Nat):Int:=littleI ((e.drop (8*i)).take 8)
def headI (c:List UInt8):Option (List Par×List UInt8×Int):=
 if (getF c (c.length - 52) 52).2≠0∨(getF c (c.length - 52) 52).1.length≠40 then none else
 if ((List.range 5).any fun i=>decide (numF (getF c (c.length - 52) 52).1 i>67108864))=true then none else
 if (getF c (numF (getF c (c.length - 52) 52).1 0) (numF (getF c (c.length - 52) 52).1 1)).2≠0 then none else
 match parI (getF c (numF (getF c (c.length - 52) 52).1 0) (numF (getF c (c.length - 52) 52).1 1)).1 with
 | none=>none
 | some idx=>if idx= [] then none else
  if (getF c (numF (getF c (c.length - 52) 52).1 2) (numF (getF c (c.length - 52) 52).1 3)).2≠0 then none else
  match (getF c (numF (getF c (c.length - 52) 52).1 2) (numF (getF c (c.length - 52) 52).1 3)).1 with
  | []=>none
  | b::bits=>if bits.length<8∨bits.length>1048576∨b≠6 then none else some (idx,bits,numF (getF c (c.length - 52) 52).1 4)
def openI (c:List UInt8):FileR×Int:=match headI c with
 | none=>(noFile,12)
 | some (idx,bits,n)=>if (pageI c idx 0).2≠0 then (noFile,12) else
  if (outI (idx.getLastD ⟨⟨#[]⟩,⟨#[]⟩⟩).nl).2≠0 then (noFile,12) else
  (⟨idx,bits,n,((pageI c idx 0).1.headD noE).key,(outI (idx.getLastD ⟨⟨#[]⟩,⟨#[]⟩⟩).nl).1.key⟩,0)

theorem at_put {a n:Int} (ha:0≤a∧a≤67108864) (hn:0≤n∧n≤67108864):atI (putI a++putI n)=some (a,n):=by
 have g1:=getI_app (g:=a) (by omega) (putI n)
 have g2:=getI_put (g:=n) (by omega)
 have d:(putI a++putI n).drop ((putI a).length:Int).toNat=putI n:=by rw[Int.toNat_natCast]; exact List.drop_left
 unfold atI
 simp only[g1,d,g2]
 rw[if_neg (by omega),if_neg (by simp only[List.length_append]; omega)]
theorem ents_of:∀ (L:List Ent),(∀ x∈L,chkE x=0∧0≤x.seq)→entsI (L.map ofE)=some L
 | [],_=>rfl
 | x::L,h=>by
  obtain ⟨h1,h2⟩:=h x (by simp)
  have ih:=ents_of L (fun y hy=>h y (by simp[hy]))
  have ho:=out_inn h2 h1
  have hw:withV ⟨x.key,x.seq,x.del,⟨#[]⟩⟩ (ofE x).val=x:=rfl
  rw[List.map_cons,entsI,ofE_nl,ho]
  simp only
  rw[hw,if_neg (by rintro (e | e); exact e rfl; exact e h1),ih]
  rfl
theorem lastE_mem {c:List Ent} (h:c≠ []):lastE c∈c:=by
 unfold lastE
 rw[List.getLastD_eq_getLast?,List.getLast?_eq_some_getLast h]
 exact List.getLast_mem h
theorem idxL_get:∀ (C:List (List Ent)) (o i:Nat) (hi:i<C.length),(idxL o C)[i]? = some ⟨⟨(innB (lastE C[i])).toArray⟩,⟨(putI ((o+(pagesB (C.take i)).length:Nat):Int)++putI (pageB C[i]).length).toArray⟩⟩
 | [],_,_,h=>by simp at h
 | c::C,o,0,_=>by simp[idxL,pagesB]
 | c::C,o,i+1,h=>by
  have ih:=idxL_get C (o+(pageB c).length) i (by simpa using h)
  rw[idxL,List.getElem?_cons_succ,ih]
  have e:o+(pageB c).length+(pagesB (C.take i)).length=o+(pagesB ((c::C).take (i+1))).length:=by
   rw[List.take_succ_cons,pagesB,List.length_append]; omega
  rw[e]
  rfl
theorem idxL_len:∀ (C:List (List Ent)) (o:Nat),(idxL o C).length=C.length
 | [],_=>rfl
 | c::C,o=>by rw[idxL,List.length_cons,List.length_cons,idxL_len C]
theorem pages_split:∀ (C:List (List Ent)) (i:Nat) (hi:i<C.length),pagesB C=pagesB (C.take i)++(pageB C[i]++pagesB (C.drop (i+1)))
 | [],_,h=>by simp at h
 | c::C,0,_=>by simp[pagesB]
 | c::C,i+1,h=>by
  have ih:=pages_split C i (by simpa using h)
  rw[List.take_succ_cons,pagesB,pagesB,List.drop_succ_cons,List.append_assoc,List.getElem_cons_succ,←ih]
structure Fits (L:List Ent):Prop where
 good:GoodE L
 ne:L≠ []
 few:L.length≤40
theorem Fits.sz {L:List Ent} (h:Fits L):∀ x∈L,szE x≤65664:=fun x hx=>by
 have:=chk_key (h.good.chk x hx)
 unfold szE
 omega
section
variable {L : List Ent}
theorem Fits.flat (h:Fits L):(chunks L 0 []).flatten=L:=by rw[chunks_flat]; rfl
theorem Fits.sub (h:Fits L) {c:List Ent} (hc:c∈chunks L 0 []):c.Sublist L:=by
 have:=List.sublist_flatten_of_mem hc
 rwa[h.flat] at this
theorem Fits.page (h:Fits L) {c:List Ent} (hc:c∈chunks L 0 []):(bodyL 0 [] (c.map ofE)).length≤90000:=by
 have hs:=h.sub hc
 have hl:=hs.length_le
 have hf:=h.few
 have hz:=chunks_size L 0 [] 65664 h.sz rfl (by omega) c hc
 have:=body_le c 0 [] (fun x hx=>h.good.chk x (hs.subset hx))
 omega
theorem Fits.par (h:Fits L) {c:List Ent} (hc:c∈chunks L 0 []):parI (mkI (c.map ofE)).1=some (c.map ofE)∧(mkI (c.map ofE)).2=0∧(mkI (c.map ofE)).1.length≤100000:=by
 have hp:=h.page hc
 have hs:=h.sub hc
 have hl:=hs.length_le
 have hf:=h.few
 have hu:=upL0_of (h.good.sub hs).inn
 obtain ⟨p1,_,_⟩:=par_mk hu (by omega)
 have hm:=mkI_ok hu (by omega)
 have hw:=wholeL_len (c.map ofE) 0 0 []
 have hcn:=cntL_le (c.map ofE) 0
 rw[List.length_map] at hcn
 refine ⟨p1,by rw[hm],?_⟩
 rw[hm]
 simp only[List.length_append,leI_len]
 show _+_+4≤_
 omega
theorem Fits.chunks_len (h:Fits L):(chunks L 0 []).length≤40:=by
 have hf:=h.few
 have hfl:=congrArg List.length h.flat
 have:∀ C:List (List Ent),(∀ c∈C,c≠ [])→C.length≤C.flatten.length:=fun C=>by
  induction C with
  | nil=>intro _; exact Nat.le_refl _
  | cons c C ih=>
   intro hC
   have h1:=ih (fun d hd=>hC d (by simp[hd]))
   have h2:=List.length_pos_iff.2 (hC c (by simp))
   rw[List.flatten_cons,List.length_append,List.length_cons]
   omega
 have:=this _ (chunks_ne L 0 [])
 omega
theorem pageB_le (h:Fits L) {c:List Ent} (hc:c∈chunks L 0 []):(pageB c).length≤100012:=by
 have:=(h.par hc).2.2
 unfold pageB
 rw[recB_len]
 omega
theorem pagesB_le (h:Fits L):∀ C:List (List Ent),(∀ c∈C,c∈chunks L 0 [])→(pagesB C).length≤100012*C.length
 | [],_=>Nat.le_refl _
 | c::C,hC=>by
  have h1:=pagesB_le h C (fun d hd=>hC d (by simp[hd]))
  have h2:=pageB_le h (hC c (by simp))
  rw[pagesB,List.length_append,List.length_cons]
  omega
end
end Go.Ax
