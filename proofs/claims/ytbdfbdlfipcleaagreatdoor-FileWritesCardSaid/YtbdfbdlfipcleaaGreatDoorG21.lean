/- What a disk may be stays so; a crash. -/
import Derived.Test.YtbdfbdlfipcleaaGreatDoorG20
set_option linter.unusedVariables false
set_option linter.unusedSimpArgs false
set_option linter.unusedSectionVars false
namespace Go.Ax
open Go.Proofs Go.RowKit

theorem LtN.tr {a b c:List UInt8} (h1:a<b) (h2:b<c):a<c:=List.lt_trans h1 h2

theorem sortN_eq {ns:List ByteArray} (h:ns.Pairwise fun a b=>a.data.toList<b.data.toList):sortN ns=ns:=by
 unfold sortN sortB
 rw[List.mergeSort_of_pairwise (by
  rw[List.pairwise_map]
  exact h.imp fun hlt=>decide_eq_true (List.le_of_lt hlt)),List.map_map]
 refine (List.map_congr_left fun n _=>?_).trans (List.map_id _)
 simp

theorem insF_mem {x y:Fil} {fs:List Fil}:y∈insF x fs↔y=x∨y∈fs:=by
 rw[←(insF_perm x fs).mem_iff,List.mem_cons]

theorem ltB_iff (a b:ByteArray):Op.bytesLess a.toList b.toList=true↔a.data.toList<b.data.toList:=by
 rw[bytesLess_eq,ByteArray.toList_eq,ByteArray.toList_eq,decide_eq_true_iff]

theorem name_tri {a b:ByteArray} (h1:¬a.data.toList<b.data.toList) (h2:a≠b):b.data.toList<a.data.toList:=by
 rcases List.le_iff_lt_or_eq.1 (List.not_lt.1 h1) with h | h
 ·exact h
 ·exact absurd (ByteArray.ext (Array.toList_inj.mp h)).symm h2

theorem insF_srt {x:Fil}:∀ {fs:List Fil},(fs.Pairwise fun x y=>x.name.data.toList<y.name.data.toList)→x.name ∉ fs.map (·.name)→(insF x fs).Pairwise fun x y=>x.name.data.toList<y.name.data.toList
 | [],_,_=>by simp[insF]
 | y::r,h,hn=>by
  rw[List.pairwise_cons] at h
  rw[List.map_cons,List.mem_cons,not_or] at hn
  unfold insF
  split
  ·rename_i hlt
   rw[ltB_iff] at hlt
   refine List.pairwise_cons.2 ⟨fun z hz=>?_,List.pairwise_cons.2 h⟩
   rcases List.mem_cons.1 hz with rfl | hz
   ·exact hlt
   ·exact LtN.tr hlt (h.1 z hz)
  ·rename_i hlt
   rw[ltB_iff] at hlt
   have hyx:=name_tri hlt hn.1
   refine List.pairwise_cons.2 ⟨fun z hz=>?_,insF_srt h.2 hn.2⟩
   rcases insF_mem.1 hz with rfl | hz
   ·exact hyx
   ·exact h.1 z hz

abbrev lens (fs:List Fil):Int:=(fs.map fun x=>(x.b.length:Int)).sum

theorem lens_perm {fs gs:List Fil} (h:fs.Perm gs):lens fs=lens gs:=by
 induction h with
 | nil=>rfl
 | cons x _ ih=>simp only[lens,List.map_cons,List.sum_cons] at ih ⊢; omega
 | swap x y l=>simp only[lens,List.map_cons,List.sum_cons]; omega
 | trans _ _ ih1 ih2=>exact ih1.trans ih2

theorem lens_cons (x:Fil) (fs:List Fil):lens (x::fs)=x.b.length+lens fs:=by simp[lens]

theorem isName_size {nm:ByteArray} (h:isName nm=true):nm.size≤40:=by
 unfold isName at h
 simp only[Bool.and_eq_true,decide_eq_true_eq] at h
 exact h.2

theorem srt_nod {fs:List Fil} (h:fs.Pairwise fun x y=>x.name.data.toList<y.name.data.toList):(fs.map (·.name)).Nodup:=by
 unfold List.Nodup
 rw[List.pairwise_map]
 refine h.imp fun hlt e=>?_
 rw[e] at hlt
 exact List.lt_irrefl _ hlt

theorem repF_names (fs:List Fil) (x:Fil):(repF fs x).map (·.name)=fs.map (·.name):=by
 unfold repF
 rw[List.map_map]
 refine List.map_congr_left fun y _=>?_
 simp only[Function.comp]
 split
 ·rename_i e; exact e.symm
 ·rfl

theorem srt_names {fs gs:List Fil} (h:fs.map (·.name)=gs.map (·.name)):(fs.Pairwise fun x y=>x.name.data.toList<y.name.data.toList)↔gs.Pairwise fun x y=>x.name.data.toList<y.name.data.toList:=by
 have key:∀ l:List Fil,(l.Pairwise fun x y=>x.name.data.toList<y.name.data.toList)↔(l.map (·.name)).Pairwise fun a b=>a.data.toList<b.data.toList:=fun l=>by rw[List.pairwise_map]
 rw[key,key,h]

theorem step_ok {fu:Int} (h:0≤fu∧fu<9223372036854775808):0≤stF fu∧stF fu<9223372036854775808:=by
 unfold stF; split <;> omega

theorem Dsk.Ok.files {D:Dsk} (ok:D.Ok) {fs:List Fil} {us:Int} {dn:Bool} {fu:Int} (hu:us=lens fs) (hle:us≤D.room) (hf:0≤fu∧fu<9223372036854775808)
  (hs:∀ x∈fs,0≤x.sure∧x.sure≤x.b.length) (hn:∀ x∈fs,x.name.size≤40) (ho:fs.Pairwise fun x y=>x.name.data.toList<y.name.data.toList):Dsk.Ok ⟨D.room,us,fs,dn,fu⟩:=
 ⟨srt_nod ho,ok.room,hu,hle,hf,hs,hn,ho⟩

theorem newD_ok (n:Int):(newD n).Ok:=by
 refine ⟨.nil,?_,rfl,?_,⟨Int.le_refl _,by show (0:Int)<_; decide⟩,fun x hx=>(nomatch hx),fun x hx=>(nomatch hx), .nil⟩
 ·simp only[newD]; split <;> split <;> omega
 ·simp only[newD]; split <;> split <;> omega

theorem Dsk.Ok.stepped {D:Dsk} (ok:D.Ok):D.stepped.Ok:=⟨ok.nod,ok.room,ok.used,ok.le,step_ok ok.fuse,ok.sure,ok.nam,ok.srt⟩

theorem Dsk.Ok.rep {D:Dsk} (ok:D.Ok) {x x':Fil} (hx:x∈D.files) (he:x'.name=x.name) (hs:0≤x'.sure∧x'.sure≤x'.b.length) {us:Int} (hu:us=D.used - x.b.length+x'.b.length) (hle:us≤D.room) {dn:Bool} {fu:Int}
  (hf:0≤fu∧fu<9223372036854775808):Dsk.Ok ⟨D.room,us,repF D.files x',dn,fu⟩:=by
 have hm:∀ y∈repF D.files x',y=x'∨y∈D.files:=fun y hy=>by
  obtain ⟨z,hz,e⟩:=List.mem_map.1 hy
  split at e
  ·exact .inl e.symm
  ·exact .inr (e▸hz)
 refine ok.files ?_ hle hf (fun y hy=>?_) (fun y hy=>?_) ((srt_names (repF_names _ _)).2 ok.srt)
 ·have h1:=lens_perm (repF_perm ok.nod hx he)
  have h2:=lens_perm (delF_perm ok.nod hx)
  rw[lens_cons] at h1 h2
  have:=ok.used
  rw[hu,←h1]
  change D.used=lens D.files at this
  omega
 ·rcases hm y hy with rfl | h
  ·exact hs
  ·exact ok.sure y h
 ·rcases hm y hy with rfl | h
  ·rw[he]; exact ok.nam x hx
  ·exact ok.nam y h

theorem createD_ok {D:Dsk} (ok:D.Ok) (nm:ByteArray):(createD D nm).1.Ok:=by
 unfold createD
 split
 ·exact ok
 rename_i hn
 split
 ·exact ok
 split
 ·exact ok
 rename_i hg
 split
 ·exact ok.stepped
 ·have hno:=get_none hg
  have hsz:nm.size≤40:=isName_size (by simpa using hn)
  refine ok.files ?_ ok.le (step_ok ok.fuse) (fun y hy=>?_) (fun y hy=>?_) (insF_srt ok.srt hno)
  ·have h1:=lens_perm (insF_perm ⟨nm,[],0⟩ D.files)
   rw[lens_cons] at h1
   have:=ok.used
   change D.used=lens D.files at this
   show D.used=_
   rw[←h1,this]
   simp
  ·rcases insF_mem.1 hy with rfl | h
   ·exact ⟨Int.le_refl _,by simp⟩
   ·exact ok.sure y h
  ·rcases insF_mem.1 hy with rfl | h
   ·exact hsz
   ·exact ok.nam y h

theorem appendD_ok {D:Dsk} (ok:D.Ok) (nm:ByteArray) (bs:List UInt8):(appendD D nm bs).1.Ok:=by
 unfold appendD
 split
 ·exact ok
 split
 ·exact ok
 rename_i x hg
 obtain ⟨hx,rfl⟩:=get_some hg
 split
 ·exact ok
 rename_i hfull
 split
 ·exact ok.stepped
 ·have:=ok.sure x hx
  exact ok.rep (x':={x with b:=x.b++bs}) hx rfl ⟨this.1,by simp only[List.length_append]; omega⟩ (by simp only[List.length_append]; omega) (by omega) (step_ok ok.fuse)

theorem syncD_ok {D:Dsk} (ok:D.Ok) (nm:ByteArray):(syncD D nm).1.Ok:=by
 unfold syncD
 split
 ·exact ok
 split
 ·exact ok
 rename_i x hg
 obtain ⟨hx,rfl⟩:=get_some hg
 split
 ·exact ok.stepped
 ·exact ok.rep (x':={x with sure:=(x.b.length:Int)}) hx rfl ⟨by show (0:Int)≤(x.b.length:Int); omega,Int.le_refl _⟩ (by simp only[Dsk.stepped]; omega) ok.le (step_ok ok.fuse)

theorem fuseD_ok {D:Dsk} (ok:D.Ok) {n:Int} (hn:n<9223372036854775808):(fuseD D n).Ok:=by
 unfold fuseD
 split
 ·exact ok
 ·exact ⟨ok.nod,ok.room,ok.used,ok.le,by show 0≤(if 0<n then n else 0)∧(if 0<n then n else 0)<(9223372036854775808:Int); split <;> omega,ok.sure,ok.nam,ok.srt⟩

def keepK (x:Fil) (ks:List Int):Int:=match ks with
 | []=>0
 | k::_=>if 0<(if (x.b.length:Int) - x.sure<k then (x.b.length:Int) - x.sure else k) then (if (x.b.length:Int) - x.sure<k then (x.b.length:Int) - x.sure else k) else 0
def cutF (x:Fil) (k:Int):Fil:=⟨x.name,x.b.take (x.sure+k).toNat,x.sure+k⟩
def crashF:List Fil→List Int→List Fil
 | [],_=> []
 | x::r,ks=>if (x.b.length:Int) - x.sure=0 then x::crashF r ks else cutF x (keepK x ks)::crashF r ks.tail
def crashD (D:Dsk) (ks:List Int):Dsk:=⟨D.room,lens (crashF D.files ks),crashF D.files ks,false,0⟩
def lookF (fs:List Fil):Nat:=(fs.filter fun x=>decide ((x.b.length:Int) - x.sure≠0)).length

theorem crashF_names:∀ (fs:List Fil) (ks:List Int),(crashF fs ks).map (·.name)=fs.map (·.name)
 | [],_=>rfl
 | x::r,ks=>by unfold crashF; split <;> simp[crashF_names r,cutF]

theorem crashF_append:∀ (p q:List Fil) (ks:List Int),crashF (p++q) ks=crashF p ks++crashF q (ks.drop (lookF p))
 | [],q,ks=>by simp[crashF,lookF]
 | x::p,q,ks=>by
  rw[List.cons_append,crashF,crashF]
  unfold lookF
  split
  ·rename_i h
   rw[List.filter_cons_of_neg (by simpa using h),crashF_append p q ks]; rfl
  ·rename_i h
   rw[List.filter_cons_of_pos (by simpa using h),List.length_cons,crashF_append p q ks.tail]
   simp only[List.cons_append]
   rw[←List.drop_one,List.drop_drop,Nat.add_comm 1]
   rfl

theorem keepK_le {x:Fil} (h:0≤x.sure∧x.sure≤x.b.length) (ks:List Int):0≤keepK x ks∧x.sure+keepK x ks≤x.b.length:=by
 unfold keepK
 split
 ·omega
 ·split <;> split <;> omega

theorem cutF_len {x:Fil} {k:Int} (h:0≤x.sure) (hk:0≤k∧x.sure+k≤x.b.length):((cutF x k).b.length:Int)=x.sure+k:=by
 simp only[cutF,List.length_take]; omega

theorem crashF_sure:∀ (fs:List Fil) (ks:List Int),(∀ x∈fs,0≤x.sure∧x.sure≤x.b.length)→lens (crashF fs ks)≤lens fs∧∀ x∈crashF fs ks,0≤x.sure∧x.sure=x.b.length
 | [],_,_=>⟨Int.le_refl _,fun x hx=>(nomatch hx)⟩
 | x::r,ks,h=>by
  have hx:=h x (by simp)
  have hr:=fun y hy=>h y (List.mem_cons_of_mem _ hy)
  unfold crashF
  split
  ·obtain ⟨g1,g2⟩:=crashF_sure r ks hr
   refine ⟨by rw[lens_cons,lens_cons]; omega,fun y hy=>?_⟩
   rcases List.mem_cons.1 hy with rfl | hy
   ·exact ⟨hx.1,by omega⟩
   ·exact g2 y hy
  ·obtain ⟨g1,g2⟩:=crashF_sure r ks.tail hr
   have hk:=keepK_le hx ks
   have hl:=cutF_len hx.1 hk
   refine ⟨by rw[lens_cons,lens_cons]; omega,fun y hy=>?_⟩
   rcases List.mem_cons.1 hy with rfl | hy
   ·exact ⟨by show 0≤x.sure+_; omega,by rw[hl]; rfl⟩
   ·exact g2 y hy

theorem crashD_ok {D:Dsk} (ok:D.Ok) (ks:List Int):(crashD D ks).Ok:=by
 obtain ⟨g1,g2⟩:=crashF_sure D.files ks ok.sure
 have hu:=ok.used
 change D.used=lens D.files at hu
 have hle:=ok.le
 refine ok.files rfl (by omega) ⟨Int.le_refl _,by decide⟩ (fun y hy=>?_) (fun y hy=>?_) ((srt_names (crashF_names _ _)).2 ok.srt)
 ·obtain ⟨a,b⟩:=g2 y hy
  omega
 ·have:y.name∈(crashF D.files ks).map (·.name):=List.mem_map.2 ⟨y,hy,rfl⟩
  rw[crashF_names] at this
  obtain ⟨z,hz,e⟩:=List.mem_map.1 this
  rw[←e]
  exact ok.nam z hz

def riseD (D:Dsk):Dsk:={D with down:=false,fuse:=0}
theorem riseD_ok {D:Dsk} (ok:D.Ok):(riseD D).Ok:=⟨ok.nod,ok.room,ok.used,ok.le,⟨Int.le_refl _,by show (0:Int)<_; decide⟩,ok.sure,ok.nam,ok.srt⟩

def listD (D:Dsk):List ByteArray:=if D.down then [] else D.files.map (·.name)

theorem codeC_tri [Glob] {P:Program} {Γ:Env} {Δ:REnv} (hm:P.follows .mixedOrders=true) (hΓ:∀ f,SoundF P f (Γ f)) (hΔ:∀ f,SoundR P f (Δ f)) {n m0:Nat} (c:Code) {s:AS} {T:Tree} {K:AE→St→Prop} (h:(codeC P Γ Δ n m0 c s T (leafC m0)).wp K):
  Tri P n m0 false c s (fun e s2=>∃ c:St,s2=c.as∧K e c):=by
 refine (codeC_sound hm hΓ hΔ c h).weakr fun e s2 hk=>?_
 obtain ⟨T',hT⟩:=hk
 obtain ⟨c,⟨f,d,q1,q2,q3⟩,q4⟩:=leafC_wp hT
 exact ⟨c.as,f,d,q1,q2,q3,c,rfl,q4⟩

end Go.Ax

namespace Go.Ax
open Go.RowKit
section
variable [Glob] {P : Program}

def sealR (R:RSpec):RSpec:=fun args B r B'=>∃ (i k v:Nat) (α:Type) (E:Enc α) (L:List α),B[k]? = some (.cells true v (rowC (L.map E.f)))∧args[i]? = some (.rs k v E.sz 0 L.length)∧R (args.set i (vl (L.map E.f))) (B.set k .dead) r B'

theorem SoundR.shutRow {f:Nat} {R:RSpec} (h:SoundR P f R):SoundR P f (sealR R):=by
 rintro args B r B' ⟨i,b,v,α,E,L,hb,hi,hR⟩ F ρ w us hI hA
 have hget:∀ (b':Nat) (row:Bool) (v':Nat) (cs':List AV),(B.set b Box.dead)[b']? = some (.cells row v' cs')→b'≠b∧B[b']? = some (.cells row v' cs'):=by
  intro b' row v' cs' hc
  rw[List.getElem?_set] at hc
  split at hc
  ·split at hc <;> cases hc
  ·rename_i e'
   exact ⟨fun h=>e' h.symm,hc⟩
 obtain ⟨hown,hE2⟩:=retell_ext (F:=F) (B:=B) (B':=B.set b Box.dead) (ρ:=ρ) (w:=w) (by simp) (fun b' row' v' cs' hc=>⟨cs',(hget b' row' v' cs' hc).2,rfl⟩) (fun j cs Φ h=>obj_set (fun _ _ e=>by cases e) h)
 have hI2:=retell (B':=B.set b Box.dead) hI (fun b' row' v' cs' hc=>by
  obtain ⟨_,h3⟩:=hget b' row' v' cs' hc
  exact ⟨cs',h3,rfl,hI.leaf _ _ _ _ h3,fun j c' hc'=>⟨c',hc',fun u hu=>hu.ext hE2⟩⟩) (fun j cs Φ h=>obj_set (fun _ _ e=>by cases e) h) hE2
 have hA2:ArgsRel F (B.set b Box.dead) ρ w (args.set i (vl (L.map E.f))) us:=by
  refine ⟨by rw[List.length_set]; exact hA.1,fun j p u hp hu=>?_⟩
  rw[List.getElem?_set] at hp
  split at hp
  ·rename_i e
   subst e
   split at hp
   ·cases hp
    have hv:=hA.2 i _ u hi hu
    refine Sealed.vrel (S:=fun k=>k=b) hI (E.elt.sealed (S:=fun k=>k=b) rfl hb) hv hown fun b0 row0 v0 cs0 k o hS hB hρ=>?_
    subst hS
    rintro (hF | ⟨b3,x3,l3,g1,g2,g3⟩)
    ·exact hI.farb b0 row0 v0 cs0 k o hB hρ hF
    ·rw[List.getElem?_set] at g1
     split at g1
     ·split at g1
      ·cases g1; exact g3.elim
      ·cases g1
     ·rename_i e2
      exact e2 (hI.injx b0 b3 _ _ (k,o) l3 k hB g1 hρ g2 rfl g3)
   ·cases hp
  ·exact (hA.2 j p u hp hu).ext hE2
 exact (h _ _ _ _ hR F ρ w us hI2 hA2).mono fun e w' hp=>by
  obtain ⟨x,ρ2,rfl,q1,q2,q3⟩:=hp
  exact ⟨x,ρ2,rfl,q1,hE2.trans q2,q3⟩

def isPl:AV→Bool
 | .p _=>true
 | _=>false
theorem isPl_id:∀ {al:List AV},al.all isPl=true→∀ f d,AV.rv.rvL f d al=al
 | [],_,_,_=>rfl
 | a::al,h,f,d=>by
  simp only[List.all_cons,Bool.and_eq_true] at h
  rw[AV.rv.rvL,isPl_id h.2]
  cases a <;> first | rfl | cases h.1
theorem isPl_low:∀ {al:List AV},al.all isPl=true→∀ n,AV.low.allLow n al=true
 | [],_,_=>rfl
 | a::al,h,n=>by
  simp only[List.all_cons,Bool.and_eq_true] at h
  rw[AV.low.allLow,isPl_low h.2]
  cases a <;> first | rfl | cases h.1

theorem lift_obj {R:RSpec} {al:List AV} {y:AV} {Φ Φ1:ObjP} {B:List Box} {b:Nat} (h:R (.op 0::al) [.obj [] Φ] y [.obj [] Φ1]) (hb:B[b]? = some (.obj [] Φ)) (hal:al.all isPl=true) (hl:y.low 0=true):
  liftR R (.op b::al) B y (B.set b (.obj [] Φ1)):=by
 have hlt:b<B.length:=(List.getElem?_eq_some_iff.1 hb).1
 have hy:∀ f d,y.rv f d=y:=fun f d=>rv_low (n:=0) (fun j hj=>by omega) (fun j hj=>by omega) hl
 have hy1:∀ {y:AV},y.low 0=true→y.low 1=true:=fun {y} h=>low_mono h
 refine ⟨_,_,_,_,h,⟨[b],[0],[.obj [] Φ],[.obj [] Φ1],[],?_,?_,?_,?_,⟨.objs rfl rfl,trivial⟩,⟨.objs rfl rfl,trivial⟩,?_,(hy _ _).symm,hy1 hl⟩⟩
 ·simp[noDup,Nat.blt_eq,hlt]
 ·simp[hb]
 ·rw[AV.rv.rvL,isPl_id hal]; rfl
 ·rw[AV.low.allLow,isPl_low hal]; rfl
 ·simp[outB]

theorem lift_objrow {R:RSpec} {al:List AV} {sz n:Nat} {e:PV} {Φ Φ1:ObjP} {B:List Box} {b:Nat} {xs:List PV} (h:R (.op 0::al) [.obj [] Φ] (.tup [.rs 1 0 sz 0 n, .p e]) [.obj [] Φ1, .cells true 0 (rowC xs)]) (hb:B[b]? = some (.obj [] Φ)) (hal:al.all isPl=true):
  liftR R (.op b::al) B (.tup [.rs B.length 0 sz 0 n, .p e]) (B.set b (.obj [] Φ1)++ [.cells true 0 (rowC xs)]):=by
 have hlt:b<B.length:=(List.getElem?_eq_some_iff.1 hb).1
 refine ⟨_,_,_,_,h,⟨[b],[0],[.obj [] Φ],[.obj [] Φ1],[.cells true 0 (rowC xs)],?_,?_,?_,?_,⟨.objs rfl rfl,trivial⟩,⟨.objs rfl rfl, .row true 0 xs,trivial⟩,?_,rfl,rfl⟩⟩
 ·simp[noDup,Nat.blt_eq,hlt]
 ·simp[hb]
 ·rw[AV.rv.rvL,isPl_id hal]; rfl
 ·rw[AV.low.allLow,isPl_low hal]; rfl
 ·simp[outB]

theorem lift_new {R:RSpec} {al:List AV} {Φ:ObjP} {B:List Box} (h:R al [] (.op 0) [.obj [] Φ]) (hal:al.all isPl=true):liftR R al B (.op B.length) (B++ [.obj [] Φ]):=by
 refine ⟨_,_,_,_,h,⟨[],[],[],[],[.obj [] Φ],rfl,rfl,(isPl_id hal _ _).symm,isPl_low hal _,trivial,⟨.objs rfl rfl,trivial⟩,?_,?_,rfl⟩⟩
 ·simp[outB]
 ·simp[AV.rv,fNew]
end
end Go.Ax

namespace Go.Ax
open Go.Proofs Go.RowKit
set_option maxRecDepth 100000

abbrev iNamed:Nat:=63
noncomputable abbrev nNamed:Func:=Tryz.f63
theorem hfNamed:DP.funcs[iNamed]? = some nNamed:=by kernel_rfl
theorem heNamed:enters DP iNamed=true:=by kernel_rfl
theorem hbNamed:nNamed.body.isSome=true:=by kernel_rfl
theorem hnNamed:nNamed.ntmps=39:=by kernel_rfl
abbrev iFind:Nat:=64
noncomputable abbrev nFind:Func:=Tryz.f64
theorem hfFind:DP.funcs[iFind]? = some nFind:=by kernel_rfl
theorem heFind:enters DP iFind=true:=by kernel_rfl
theorem hbFind:nFind.body.isSome=true:=by kernel_rfl
theorem hnFind:nFind.ntmps=28:=by kernel_rfl
abbrev iStep:Nat:=65
noncomputable abbrev nStep:Func:=Tryz.f65
theorem hfStep:DP.funcs[iStep]? = some nStep:=by kernel_rfl
theorem heStep:enters DP iStep=true:=by kernel_rfl
theorem hbStep:nStep.body.isSome=true:=by kernel_rfl
theorem hnStep:nStep.ntmps=27:=by kernel_rfl
abbrev iNew:Nat:=8
noncomputable abbrev nNew:Func:=Tryz.f8
theorem hfNew:DP.funcs[iNew]? = some nNew:=by kernel_rfl
theorem heNew:enters DP iNew=true:=by kernel_rfl
theorem hbNew:nNew.body.isSome=true:=by kernel_rfl
theorem hnNew:nNew.ntmps=9:=by kernel_rfl
abbrev iCreate:Nat:=31
noncomputable abbrev nCreate:Func:=Tryz.f31
theorem hfCreate:DP.funcs[iCreate]? = some nCreate:=by kernel_rfl
theorem heCreate:enters DP iCreate=true:=by kernel_rfl
theorem hbCreate:nCreate.body.isSome=true:=by kernel_rfl
theorem hnCreate:nCreate.ntmps=38:=by kernel_rfl
abbrev iAppend:Nat:=32
noncomputable abbrev nAppend:Func:=Tryz.f32
theorem hfAppend:DP.funcs[iAppend]? = some nAppend:=by kernel_rfl
theorem heAppend:enters DP iAppend=true:=by kernel_rfl
theorem hbAppend:nAppend.body.isSome=true:=by kernel_rfl
theorem hnAppend:nAppend.ntmps=54:=by kernel_rfl
abbrev iSync:Nat:=33
noncomputable abbrev nSync:Func:=Tryz.f33
theorem hfSync:DP.funcs[iSync]? = some nSync:=by kernel_rfl
theorem heSync:enters DP iSync=true:=by kernel_rfl
theorem hbSync:nSync.body.isSome=true:=by kernel_rfl
theorem hnSync:nSync.ntmps=30:=by kernel_rfl
abbrev iRead:Nat:=69
noncomputable abbrev nRead:Func:=Tryz.f69
theorem hfRead:DP.funcs[iRead]? = some nRead:=by kernel_rfl
theorem heRead:enters DP iRead=true:=by kernel_rfl
theorem hbRead:nRead.body.isSome=true:=by kernel_rfl
theorem hnRead:nRead.ntmps=54:=by kernel_rfl
abbrev iSize:Nat:=36
noncomputable abbrev nSize:Func:=Tryz.f36
theorem hfSize:DP.funcs[iSize]? = some nSize:=by kernel_rfl
theorem heSize:enters DP iSize=true:=by kernel_rfl
theorem hbSize:nSize.body.isSome=true:=by kernel_rfl
theorem hnSize:nSize.ntmps=22:=by kernel_rfl
abbrev iUsed:Nat:=16
noncomputable abbrev nUsed:Func:=Tryz.f16
theorem hfUsed:DP.funcs[iUsed]? = some nUsed:=by kernel_rfl
theorem heUsed:enters DP iUsed=true:=by kernel_rfl
theorem hbUsed:nUsed.body.isSome=true:=by kernel_rfl
theorem hnUsed:nUsed.ntmps=9:=by kernel_rfl
abbrev iRoom:Nat:=30
noncomputable abbrev nRoom:Func:=Tryz.f30
theorem hfRoom:DP.funcs[iRoom]? = some nRoom:=by kernel_rfl
theorem heRoom:enters DP iRoom=true:=by kernel_rfl
theorem hbRoom:nRoom.body.isSome=true:=by kernel_rfl
theorem hnRoom:nRoom.ntmps=14:=by kernel_rfl
abbrev iDown:Nat:=29
noncomputable abbrev nDown:Func:=Tryz.f29
theorem hfDown:DP.funcs[iDown]? = some nDown:=by kernel_rfl
theorem heDown:enters DP iDown=true:=by kernel_rfl
theorem hbDown:nDown.body.isSome=true:=by kernel_rfl
theorem hnDown:nDown.ntmps=11:=by kernel_rfl
abbrev iFuse:Nat:=9
noncomputable abbrev nFuse:Func:=Tryz.f9
theorem hfFuse:DP.funcs[iFuse]? = some nFuse:=by kernel_rfl
theorem heFuse:enters DP iFuse=true:=by kernel_rfl
theorem hbFuse:nFuse.body.isSome=true:=by kernel_rfl
theorem hnFuse:nFuse.ntmps=18:=by kernel_rfl
abbrev iCrash:Nat:=12
noncomputable abbrev nCrash:Func:=Tryz.f12
theorem hfCrash:DP.funcs[iCrash]? = some nCrash:=by kernel_rfl
theorem heCrash:enters DP iCrash=true:=by kernel_rfl
theorem hbCrash:nCrash.body.isSome=true:=by kernel_rfl
theorem hnCrash:nCrash.ntmps=95:=by kernel_rfl
abbrev iList:Nat:=11
noncomputable abbrev nList:Func:=Tryz.f11
theorem hfList:DP.funcs[iList]? = some nList:=by kernel_rfl
theorem heList:enters DP iList=true:=by kernel_rfl
theorem hbList:nList.body.isSome=true:=by kernel_rfl
theorem hnList:nList.ntmps=17:=by kernel_rfl

abbrev tMap:Nat:=69
abbrev tKey:Nat:=9
abbrev tVal:Nat:=78
theorem htMap:DP.underlying tMap=some (.map tKey tVal):=by kernel_rfl
theorem htKey:DP.underlying tKey=some .string:=by kernel_rfl
theorem htVal:zeroV DP tVal=some (.p (.v (.pointer none))):=by kernel_rfl

noncomputable def TNamed_l1_e (nm:ByteArray) (s1:Int):St:=([(0,vs nm),(6, .rs 0 0 1 0 nm.data.toList.length),(7,vi ((nm.data.toList.length:Nat):Int)),(8,vi s1)],[byteE.bx 0 nm.data.toList])
noncomputable def TNamed_l1_x (x1:Unit):AE×St:=(.ret,([(2,vb false)],[]))
noncomputable def TNamed_l1_x' (nm:ByteArray) (y1:Unit):AE×St:=((.exit 0),([(0,vs nm)],[]))
noncomputable def TNamed_l1_b (nm:ByteArray) (s1:Int):Tree:=
.sp 9 (decide (s1<((nm.data.toList.length:Nat):Int))) (
.ridx 10 nm.data.toList.length s1 (.rload 11 (rowC (nm.data.toList.map byteE.f)) (0+Int.toNat s1*1) byteE nm.data.toList s1 0 (fun e1=> .sp 13 (decide ((e1.toNat:Int)<(97:Int))) (
.sp 20 (decide ((e1.toNat:Int)<(48:Int))) (
.sp 28 ((e1.toNat:Int) != (46:Int)) (
.leaf ⟨[2],[]⟩ [] .ret (some (TNamed_l1_x ()).2)) (
.int 30 (IntKind.i64.wrap (s1+1)) (s1+1) (.leaf ⟨[0,6,7,8],[(0,0,some (nm.data.toList.map byteE.f))]⟩ [rowC (nm.data.toList.map byteE.f)] .normal (some (TNamed_l1_e nm (s1+1)))))) (
.sp 23 (decide ((e1.toNat:Int)>(57:Int))) (
.sp 28 ((e1.toNat:Int) != (46:Int)) (
.leaf ⟨[2],[]⟩ [] .ret (some (TNamed_l1_x ()).2)) (
.int 30 (IntKind.i64.wrap (s1+1)) (s1+1) (.leaf ⟨[0,6,7,8],[(0,0,some (nm.data.toList.map byteE.f))]⟩ [rowC (nm.data.toList.map byteE.f)] .normal (some (TNamed_l1_e nm (s1+1)))))) (
.int 30 (IntKind.i64.wrap (s1+1)) (s1+1) (.leaf ⟨[0,6,7,8],[(0,0,some (nm.data.toList.map byteE.f))]⟩ [rowC (nm.data.toList.map byteE.f)] .normal (some (TNamed_l1_e nm (s1+1))))))) (
.sp 16 (decide ((e1.toNat:Int)>(122:Int))) (
.sp 20 (decide ((e1.toNat:Int)<(48:Int))) (
.sp 28 ((e1.toNat:Int) != (46:Int)) (
.leaf ⟨[2],[]⟩ [] .ret (some (TNamed_l1_x ()).2)) (
.int 30 (IntKind.i64.wrap (s1+1)) (s1+1) (.leaf ⟨[0,6,7,8],[(0,0,some (nm.data.toList.map byteE.f))]⟩ [rowC (nm.data.toList.map byteE.f)] .normal (some (TNamed_l1_e nm (s1+1)))))) (
.sp 23 (decide ((e1.toNat:Int)>(57:Int))) (
.sp 28 ((e1.toNat:Int) != (46:Int)) (
.leaf ⟨[2],[]⟩ [] .ret (some (TNamed_l1_x ()).2)) (
.int 30 (IntKind.i64.wrap (s1+1)) (s1+1) (.leaf ⟨[0,6,7,8],[(0,0,some (nm.data.toList.map byteE.f))]⟩ [rowC (nm.data.toList.map byteE.f)] .normal (some (TNamed_l1_e nm (s1+1)))))) (
.int 30 (IntKind.i64.wrap (s1+1)) (s1+1) (.leaf ⟨[0,6,7,8],[(0,0,some (nm.data.toList.map byteE.f))]⟩ [rowC (nm.data.toList.map byteE.f)] .normal (some (TNamed_l1_e nm (s1+1))))))) (
.int 30 (IntKind.i64.wrap (s1+1)) (s1+1) (.leaf ⟨[0,6,7,8],[(0,0,some (nm.data.toList.map byteE.f))]⟩ [rowC (nm.data.toList.map byteE.f)] .normal (some (TNamed_l1_e nm (s1+1))))))))) (
.leaf ⟨[0],[]⟩ [] (.exit 0) (some (TNamed_l1_x' nm ()).2))
noncomputable def TNamed (nm:ByteArray):Tree:=
.sbyte 6 (.loop ⟨[0,6,7,8],[(0,0,some (nm.data.toList.map byteE.f))]⟩ [rowC (nm.data.toList.map byteE.f)] (some (TNamed_l1_e nm 0)) (TNamed_l1_e nm) (TNamed_l1_x) (TNamed_l1_x' nm) 0 (TNamed_l1_b nm) (fun (x1:Unit)=> .leaf ⟨[0],[]⟩ [] .ret (some ([(0,vb false)],[]))) (fun (y1:Unit)=> .sp 33 (decide ((nm.size:Int)>(0:Int))) (
.leaf ⟨[0],[]⟩ [] .ret (some ([(0,vb (decide ((nm.size:Int)≤(40:Int))))],[]))) (
.leaf ⟨[0],[]⟩ [] .ret (some ([(0,vb false)],[])))))

theorem TNamed_chk (nm:ByteArray):fnC DP Γ0 Δ0 Tryz.f63 [vs nm] [] (TNamed nm)=TNamed nm:=by kernel_rfl

end Go.Ax

namespace Go.Ax
open Go.Proofs Go.RowKit
set_option maxRecDepth 100000

theorem nlen (nm:ByteArray):nm.data.toList.length=nm.size:=by simp

theorem TNamed_l1 (nm:ByteArray) (hN:nm.size≤1000000000):∀ (suf pre:List UInt8),nm.data.toList=pre++suf →
  Rounds (TNamed_l1_e nm) TNamed_l1_x (TNamed_l1_x' nm) (fun s=>(TNamed_l1_b nm s).wp) (pre.length:Int) (if suf.all okChar then .inr () else .inl ())
 | [],pre,h=>by
  have e:nm.data.toList.length=pre.length:=by rw[h]; simp
  rw[if_pos (show ([]:List UInt8).all okChar=true from rfl)]
  refine .done' (by simp[TNamed_l1_x']) ?_
  unfold TNamed_l1_b
  exact wp_sp (fun h=>by have:=of_decide_eq_true h; omega) (fun _=>wp_leaf rfl ⟨rfl,rfl⟩)
 | c::suf,pre,h=>by
  have e:nm.data.toList.length=pre.length+(suf.length+1):=by rw[h]; simp
  have hs:=nlen nm
  have hc:nm.data.toList[Int.toNat (pre.length:Int)]? = some c:=by rw[h]; simp
  cases hok:okChar c with
  | false=>
   rw[if_neg (by simp[hok])]
   refine .done (by simp[TNamed_l1_x]) ?_
   unfold TNamed_l1_b
   refine wp_sp (fun _=>wp_ridx (by omega) (by omega) (wp_rload c (by omega) (by simp[byteE]) hc ?_)) (fun h=>by have:=of_decide_eq_false h; omega)
   repeat' (refine wp_sp (fun _=>?_) (fun _=>?_))
   all_goals first
    | exact wp_leaf rfl ⟨rfl,rfl⟩
    | (exfalso; simp only[okChar,Bool.or_eq_false_iff,Bool.and_eq_false_iff,decide_eq_false_iff_not,decide_eq_true_eq,bne_iff_ne,ne_eq,beq_eq_false_iff_ne,bne_eq_false_iff_eq] at *; omega)
  | true=>
   have ih:=TNamed_l1 nm hN suf (pre++ [c]) (by rw[h]; simp)
   have hlen:((pre++ [c]).length:Int)=(pre.length:Int)+1:=by simp
   have hres:(if (c::suf).all okChar=true then (.inr ():Unit ⊕ Unit) else .inl ())=(if suf.all okChar=true then .inr () else .inl ()):=by rw[List.all_cons,hok,Bool.true_and]
   rw[hres]
   refine .next ?_ ih
   unfold TNamed_l1_b
   refine wp_sp (fun _=>wp_ridx (by omega) (by omega) (wp_rload c (by omega) (by simp[byteE]) hc ?_)) (fun h=>by have:=of_decide_eq_false h; omega)
   repeat' (refine wp_sp (fun _=>?_) (fun _=>?_))
   all_goals first
    | exact wp_i64 (by omega) (wp_leaf rfl ⟨rfl,by rw[hlen]⟩)
    | (exfalso; simp only[okChar,Bool.or_eq_true,Bool.and_eq_true,decide_eq_false_iff_not,decide_eq_true_eq,bne_iff_ne,ne_eq,beq_iff_eq,bne_eq_false_iff_eq] at *; omega)

theorem TNamed_wp (nm:ByteArray) (hN:nm.size≤1000000000) {K:AE→St→Prop} (h:K .ret ([(0,vb (isName nm))],[])):(TNamed nm).wp K:=by
 have l:=TNamed_l1 nm hN nm.data.toList [] rfl
 unfold TNamed
 cases ha:nm.data.toList.all okChar with
 | false=>
  rw[if_neg (by simp[ha])] at l
  refine wp_loop () rfl l ?_
  have:isName nm=false:=by simp[isName,ha]
  rw[this] at h
  exact wp_leaf rfl h
 | true=>
  rw[if_pos ha] at l
  refine wp_loop' () rfl l (wp_sp (fun h1=>?_) (fun h1=>?_))
  ·have h1:=of_decide_eq_true h1
   have:isName nm=decide ((nm.size:Int)≤(40:Int)):=by
    simp only[isName,ha,Bool.true_and]
    rw[decide_eq_true (show 0<nm.size by omega),Bool.true_and]
    congr 1
    simp
    omega
   rw[this] at h
   exact wp_leaf rfl h
  ·have h1:=of_decide_eq_false h1
   have:isName nm=false:=by
    simp only[isName,ha,Bool.true_and]
    rw[decide_eq_false (show ¬0<nm.size by omega),Bool.false_and]
   rw[this] at h
   exact wp_leaf rfl h

theorem SNamed:SoundF DP iNamed (.pure gNamed):=
 sound_pureT mixedD Γ0_ok Δ0_ok hfNamed heNamed hbNamed (fun args r ⟨nm,hN,h1,h2⟩=>by
  subst h1 h2
  exact ⟨by rw[hnNamed]; rfl,rfl,_,TNamed_chk nm,TNamed_wp nm hN (.p _)⟩)

end Go.Ax

namespace Go.Ax
open Go.Proofs Go.RowKit
set_option maxRecDepth 100000

noncomputable def TFind_d (ro:Int) (us:Int) (fu:Int) (hid:List (Value×Value)) (nm:ByteArray):Tree:=
.leaf ⟨[0],[(0,0,none),(1,0,none)]⟩ [] .ret (some ([(0, .tup [.p (.v (.pointer none)),vi 10])],[.cells false 0 ([vi ro,vi us, .mp 1,vb true,vi fu]), .obj [] (mapP [] hid)]))

theorem TFind_d_chk (ro:Int) (us:Int) (fu:Int) (hid:List (Value×Value)) (nm:ByteArray):fnC DP Γ0 Δ0 Tryz.f64 [.ptr 0 0 0,vs nm] [.cells false 0 ([vi ro,vi us, .mp 1,vb true,vi fu]), .obj [] (mapP [] hid)] (TFind_d ro us fu hid nm)=TFind_d ro us fu hid nm:=by kernel_rfl

noncomputable def TFind_a (ro:Int) (us:Int) (fu:Int) (hid:List (Value×Value)) (nm:ByteArray):Tree:=
.val (some 22) (LookE DP 69 [.cells false 0 ([vi ro,vi us, .mp 1,vb false,vi fu]), .obj [] (mapP [] hid)] (.mp 1) (vs nm) (.tup [.p (.v (.pointer none)),vb false])) (.tup [.p (.v (.pointer none)),vb false]) [.cells false 0 ([vi ro,vi us, .mp 1,vb false,vi fu]), .obj [] (mapP [] hid)] (.leaf ⟨[0],[(0,0,none),(1,0,none)]⟩ [] .ret (some ([(0, .tup [.p (.v (.pointer none)),vi 4])],[.cells false 0 ([vi ro,vi us, .mp 1,vb false,vi fu]), .obj [] (mapP [] hid)])))

theorem TFind_a_chk (ro:Int) (us:Int) (fu:Int) (hid:List (Value×Value)) (nm:ByteArray):fnC DP Γ0 Δ0 Tryz.f64 [.ptr 0 0 0,vs nm] [.cells false 0 ([vi ro,vi us, .mp 1,vb false,vi fu]), .obj [] (mapP [] hid)] (TFind_a ro us fu hid nm)=TFind_a ro us fu hid nm:=by kernel_rfl

noncomputable def TFind_p (ro:Int) (us:Int) (fu:Int) (hid:List (Value×Value)) (L:List UInt8) (su:Int) (nm:ByteArray):Tree:=
.val (some 22) (LookE DP 69 [.cells false 0 ([vi ro,vi us, .mp 1,vb false,vi fu]), .obj [.ptr 2 0 0] (mapP [.string nm] hid), .cells false 0 ([.rs 3 0 1 0 L.length,vi su]),byteE.bx 0 L] (.mp 1) (vs nm) (.tup [.ptr 2 0 0,vb true])) (.tup [.ptr 2 0 0,vb true]) [.cells false 0 ([vi ro,vi us, .mp 1,vb false,vi fu]), .obj [.ptr 2 0 0] (mapP [.string nm] hid), .cells false 0 ([.rs 3 0 1 0 L.length,vi su]),byteE.bx 0 L] (.leaf ⟨[0],[(0,0,none),(1,0,none),(2,0,none),(3,0,some (L.map byteE.f))]⟩ [rowC (L.map byteE.f)] .ret (some ([(0, .tup [.ptr 2 0 0,vi 0])],[.cells false 0 ([vi ro,vi us, .mp 1,vb false,vi fu]), .obj [.ptr 2 0 0] (mapP [.string nm] hid), .cells false 0 ([.rs 3 0 1 0 L.length,vi su]),byteE.bx 0 L])))

theorem TFind_p_chk (ro:Int) (us:Int) (fu:Int) (hid:List (Value×Value)) (L:List UInt8) (su:Int) (nm:ByteArray):fnC DP Γ0 Δ0 Tryz.f64 [.ptr 0 0 0,vs nm] [.cells false 0 ([vi ro,vi us, .mp 1,vb false,vi fu]), .obj [.ptr 2 0 0] (mapP [.string nm] hid), .cells false 0 ([.rs 3 0 1 0 L.length,vi su]),byteE.bx 0 L] (TFind_p ro us fu hid L su nm)=TFind_p ro us fu hid L su nm:=by kernel_rfl

noncomputable def TFind_q (ro:Int) (us:Int) (fu:Int) (hid:List (Value×Value)) (L:List UInt8) (su:Int) (M:List UInt8) (sv:Int) (nn:ByteArray) (nm:ByteArray):Tree:=
.val (some 22) (LookE DP 69 [.cells false 0 ([vi ro,vi us, .mp 1,vb false,vi fu]), .obj [.ptr 2 0 0, .ptr 4 0 0] (mapP [.string nm, .string nn] hid), .cells false 0 ([.rs 3 0 1 0 L.length,vi su]),byteE.bx 0 L, .cells false 0 ([.rs 5 0 1 0 M.length,vi sv]),byteE.bx 0 M] (.mp 1) (vs nm) (.tup [.ptr 2 0 0,vb true])) (.tup [.ptr 2 0 0,vb true]) [.cells false 0 ([vi ro,vi us, .mp 1,vb false,vi fu]), .obj [.ptr 2 0 0, .ptr 4 0 0] (mapP [.string nm, .string nn] hid), .cells false 0 ([.rs 3 0 1 0 L.length,vi su]),byteE.bx 0 L, .cells false 0 ([.rs 5 0 1 0 M.length,vi sv]),byteE.bx 0 M] (.leaf ⟨[0],[(0,0,none),(1,0,none),(2,0,none),(3,0,some (L.map byteE.f)),(4,0,none),(5,0,some (M.map byteE.f))]⟩ [rowC (L.map byteE.f),rowC (M.map byteE.f)] .ret (some ([(0, .tup [.ptr 2 0 0,vi 0])],[.cells false 0 ([vi ro,vi us, .mp 1,vb false,vi fu]), .obj [.ptr 2 0 0, .ptr 4 0 0] (mapP [.string nm, .string nn] hid), .cells false 0 ([.rs 3 0 1 0 L.length,vi su]),byteE.bx 0 L, .cells false 0 ([.rs 5 0 1 0 M.length,vi sv]),byteE.bx 0 M])))

theorem TFind_q_chk (ro:Int) (us:Int) (fu:Int) (hid:List (Value×Value)) (L:List UInt8) (su:Int) (M:List UInt8) (sv:Int) (nn:ByteArray) (nm:ByteArray):fnC DP Γ0 Δ0 Tryz.f64 [.ptr 0 0 0,vs nm] [.cells false 0 ([vi ro,vi us, .mp 1,vb false,vi fu]), .obj [.ptr 2 0 0, .ptr 4 0 0] (mapP [.string nm, .string nn] hid), .cells false 0 ([.rs 3 0 1 0 L.length,vi su]),byteE.bx 0 L, .cells false 0 ([.rs 5 0 1 0 M.length,vi sv]),byteE.bx 0 M] (TFind_q ro us fu hid L su M sv nn nm)=TFind_q ro us fu hid L su M sv nn nm:=by kernel_rfl

noncomputable def TStep_a (ro:Int) (us:Int) (fu:Int) (hid:List (Value×Value)):Tree:=
.sp 7 (decide (fu>(0:Int))) (
.int 12 (IntKind.i64.wrap (fu - 1)) (fu - 1) (.sp 26 ((fu - 1) == (0:Int)) (
.leaf ⟨[0],[(0,0,none),(1,0,none)]⟩ [] .ret (some ([(0,vi 10)],[.cells false 0 ([vi ro,vi us, .mp 1,vb ((fu - 1) == (0:Int)),vi (fu - 1)]), .obj [] (mapP [] hid)]))) (
.leaf ⟨[0],[(0,0,none),(1,0,none)]⟩ [] .ret (some ([(0,vi 0)],[.cells false 0 ([vi ro,vi us, .mp 1,vb ((fu - 1) == (0:Int)),vi (fu - 1)]), .obj [] (mapP [] hid)]))))) (
.leaf ⟨[0],[(0,0,none),(1,0,none)]⟩ [] .ret (some ([(0,vi 0)],[.cells false 0 ([vi ro,vi us, .mp 1,vb false,vi fu]), .obj [] (mapP [] hid)])))

theorem TStep_a_chk (ro:Int) (us:Int) (fu:Int) (hid:List (Value×Value)):fnC DP Γ0 Δ0 Tryz.f65 [.ptr 0 0 0] [.cells false 0 ([vi ro,vi us, .mp 1,vb false,vi fu]), .obj [] (mapP [] hid)] (TStep_a ro us fu hid)=TStep_a ro us fu hid:=by kernel_rfl

noncomputable def TStep_p (ro:Int) (us:Int) (fu:Int) (hid:List (Value×Value)) (L:List UInt8) (su:Int) (nm:ByteArray):Tree:=
.sp 7 (decide (fu>(0:Int))) (
.int 12 (IntKind.i64.wrap (fu - 1)) (fu - 1) (.sp 26 ((fu - 1) == (0:Int)) (
.leaf ⟨[0],[(0,0,none),(1,0,none),(2,0,none),(3,0,some (L.map byteE.f))]⟩ [rowC (L.map byteE.f)] .ret (some ([(0,vi 10)],[.cells false 0 ([vi ro,vi us, .mp 1,vb ((fu - 1) == (0:Int)),vi (fu - 1)]), .obj [.ptr 2 0 0] (mapP [.string nm] hid), .cells false 0 ([.rs 3 0 1 0 L.length,vi su]),byteE.bx 0 L]))) (
.leaf ⟨[0],[(0,0,none),(1,0,none),(2,0,none),(3,0,some (L.map byteE.f))]⟩ [rowC (L.map byteE.f)] .ret (some ([(0,vi 0)],[.cells false 0 ([vi ro,vi us, .mp 1,vb ((fu - 1) == (0:Int)),vi (fu - 1)]), .obj [.ptr 2 0 0] (mapP [.string nm] hid), .cells false 0 ([.rs 3 0 1 0 L.length,vi su]),byteE.bx 0 L]))))) (
.leaf ⟨[0],[(0,0,none),(1,0,none),(2,0,none),(3,0,some (L.map byteE.f))]⟩ [rowC (L.map byteE.f)] .ret (some ([(0,vi 0)],[.cells false 0 ([vi ro,vi us, .mp 1,vb false,vi fu]), .obj [.ptr 2 0 0] (mapP [.string nm] hid), .cells false 0 ([.rs 3 0 1 0 L.length,vi su]),byteE.bx 0 L])))

theorem TStep_p_chk (ro:Int) (us:Int) (fu:Int) (hid:List (Value×Value)) (L:List UInt8) (su:Int) (nm:ByteArray):fnC DP Γ0 Δ0 Tryz.f65 [.ptr 0 0 0] [.cells false 0 ([vi ro,vi us, .mp 1,vb false,vi fu]), .obj [.ptr 2 0 0] (mapP [.string nm] hid), .cells false 0 ([.rs 3 0 1 0 L.length,vi su]),byteE.bx 0 L] (TStep_p ro us fu hid L su nm)=TStep_p ro us fu hid L su nm:=by kernel_rfl

noncomputable def TStep_q (ro:Int) (us:Int) (fu:Int) (hid:List (Value×Value)) (L:List UInt8) (su:Int) (M:List UInt8) (sv:Int) (nm:ByteArray) (nn:ByteArray):Tree:=
.sp 7 (decide (fu>(0:Int))) (
.int 12 (IntKind.i64.wrap (fu - 1)) (fu - 1) (.sp 26 ((fu - 1) == (0:Int)) (
.leaf ⟨[0],[(0,0,none),(1,0,none),(2,0,none),(3,0,some (L.map byteE.f)),(4,0,none),(5,0,some (M.map byteE.f))]⟩ [rowC (L.map byteE.f),rowC (M.map byteE.f)] .ret (some ([(0,vi 10)],[.cells false 0 ([vi ro,vi us, .mp 1,vb ((fu - 1) == (0:Int)),vi (fu - 1)]), .obj [.ptr 2 0 0, .ptr 4 0 0] (mapP [.string nm, .string nn] hid), .cells false 0 ([.rs 3 0 1 0 L.length,vi su]),byteE.bx 0 L, .cells false 0 ([.rs 5 0 1 0 M.length,vi sv]),byteE.bx 0 M]))) (
.leaf ⟨[0],[(0,0,none),(1,0,none),(2,0,none),(3,0,some (L.map byteE.f)),(4,0,none),(5,0,some (M.map byteE.f))]⟩ [rowC (L.map byteE.f),rowC (M.map byteE.f)] .ret (some ([(0,vi 0)],[.cells false 0 ([vi ro,vi us, .mp 1,vb ((fu - 1) == (0:Int)),vi (fu - 1)]), .obj [.ptr 2 0 0, .ptr 4 0 0] (mapP [.string nm, .string nn] hid), .cells false 0 ([.rs 3 0 1 0 L.length,vi su]),byteE.bx 0 L, .cells false 0 ([.rs 5 0 1 0 M.length,vi sv]),byteE.bx 0 M]))))) (
.leaf ⟨[0],[(0,0,none),(1,0,none),(2,0,none),(3,0,some (L.map byteE.f)),(4,0,none),(5,0,some (M.map byteE.f))]⟩ [rowC (L.map byteE.f),rowC (M.map byteE.f)] .ret (some ([(0,vi 0)],[.cells false 0 ([vi ro,vi us, .mp 1,vb false,vi fu]), .obj [.ptr 2 0 0, .ptr 4 0 0] (mapP [.string nm, .string nn] hid), .cells false 0 ([.rs 3 0 1 0 L.length,vi su]),byteE.bx 0 L, .cells false 0 ([.rs 5 0 1 0 M.length,vi sv]),byteE.bx 0 M])))

theorem TStep_q_chk (ro:Int) (us:Int) (fu:Int) (hid:List (Value×Value)) (L:List UInt8) (su:Int) (M:List UInt8) (sv:Int) (nm:ByteArray) (nn:ByteArray):fnC DP Γ0 Δ0 Tryz.f65 [.ptr 0 0 0] [.cells false 0 ([vi ro,vi us, .mp 1,vb false,vi fu]), .obj [.ptr 2 0 0, .ptr 4 0 0] (mapP [.string nm, .string nn] hid), .cells false 0 ([.rs 3 0 1 0 L.length,vi su]),byteE.bx 0 L, .cells false 0 ([.rs 5 0 1 0 M.length,vi sv]),byteE.bx 0 M] (TStep_q ro us fu hid L su M sv nm nn)=TStep_q ro us fu hid L su M sv nm nn:=by kernel_rfl

end Go.Ax

namespace Go.Ax
open Go.Proofs Go.RowKit
set_option maxRecDepth 100000

theorem SFind:SoundR DP iFind RFind:=
 sound_genT mixedD Γ0_ok Δ0_ok hfFind heFind hbFind (fun args B r B' h=>by
  cases h with
  | d ro us fu hid nm=>exact ⟨by rw[hnFind]; rfl,_,TFind_d_chk ro us fu hid nm,wp_leaf rfl ⟨rfl,rfl⟩⟩
  | a ro us fu hid hs nm hh hn=>exact ⟨by rw[hnFind]; rfl,_,TFind_a_chk ro us fu hid nm,wp_val (look_no htMap htKey htVal (ns:= []) rfl hh (by simp) hn) (wp_leaf rfl ⟨rfl,rfl⟩)⟩
  | p ro us fu hid hs x hh=>exact ⟨by rw[hnFind]; rfl,_,TFind_p_chk ro us fu hid x.b x.sure x.name,wp_val (look_v0 htMap htKey (ns:= []) rfl hh) (wp_leaf rfl ⟨rfl,rfl⟩)⟩
  | q ro us fu hid hs x y hh=>exact ⟨by rw[hnFind]; rfl,_,TFind_q_chk ro us fu hid x.b x.sure y.b y.sure y.name x.name,wp_val (look_v0 htMap htKey (ns:= [y.name]) rfl hh) (wp_leaf rfl ⟨rfl,rfl⟩)⟩)

theorem step_wp {fu:Int} (hfu:fu<9223372036854775808) {T:Int→Bool→Int→Tree} {K:AE→St→Prop}
  (hT:∀ f d e,f=stF fu→d=stD fu→e=stE fu→(T f d e).wp K):
  (Tree.sp 7 (decide (fu>(0:Int))) (.int 12 (IntKind.i64.wrap (fu - 1)) (fu - 1) (.sp 26 ((fu - 1) == (0:Int)) (T (fu - 1) ((fu - 1) == (0:Int)) 10) (T (fu - 1) ((fu - 1) == (0:Int)) 0))) (T fu false 0)).wp K:=by
 refine wp_sp (fun h=>wp_i64 (by have:=of_decide_eq_true h; omega) (wp_sp (fun h2=>?_) (fun h2=>?_))) (fun h=>?_)
 ·have h:=of_decide_eq_true h
  exact hT _ _ _ (by rw[stF,if_pos h]) (by rw[stD,decide_eq_true h,Bool.true_and]) (by rw[stE,stD,decide_eq_true h,Bool.true_and,h2]; rfl)
 ·have h:=of_decide_eq_true h
  exact hT _ _ _ (by rw[stF,if_pos h]) (by rw[stD,decide_eq_true h,Bool.true_and]) (by rw[stE,stD,decide_eq_true h,Bool.true_and,h2]; rfl)
 ·have h:=of_decide_eq_false h
  exact hT _ _ _ (by rw[stF,if_neg h]) (by rw[stD,decide_eq_false h,Bool.false_and]) (by rw[stE,stD,decide_eq_false h,Bool.false_and]; rfl)

theorem SStep:SoundR DP iStep RStep:=
 sound_genT mixedD Γ0_ok Δ0_ok hfStep heStep hbStep (fun args B r B' h=>by
  cases h with
  | mk ro us fu hid X hX hfu=>
   match X,hX with
   | [],_=>exact ⟨by rw[hnStep]; rfl,_,TStep_a_chk ro us fu hid,step_wp (T:=fun f d e=> .leaf _ [] .ret (some ([(0,vi e)],flatB (dsk ro us f d) [] hid))) hfu (fun f d e h1 h2 h3=>by subst h1 h2 h3; exact wp_leaf rfl ⟨rfl,rfl⟩)⟩
   | [x],_=>exact ⟨by rw[hnStep]; rfl,_,TStep_p_chk ro us fu hid x.b x.sure x.name,step_wp (T:=fun f d e=> .leaf ⟨[0],[(0,0,none),(1,0,none),(2,0,none),(3,0,some (x.b.map byteE.f))]⟩ [rowC (x.b.map byteE.f)] .ret (some ([(0,vi e)],flatB (dsk ro us f d) [x] hid))) hfu (fun f d e h1 h2 h3=>by subst h1 h2 h3; exact wp_leaf rfl ⟨rfl,rfl⟩)⟩
   | [x,y],_=>exact ⟨by rw[hnStep]; rfl,_,TStep_q_chk ro us fu hid x.b x.sure y.b y.sure x.name y.name,step_wp (T:=fun f d e=> .leaf ⟨[0],[(0,0,none),(1,0,none),(2,0,none),(3,0,some (x.b.map byteE.f)),(4,0,none),(5,0,some (y.b.map byteE.f))]⟩ [rowC (x.b.map byteE.f),rowC (y.b.map byteE.f)] .ret (some ([(0,vi e)],flatB (dsk ro us f d) [x,y] hid))) hfu (fun f d e h1 h2 h3=>by subst h1 h2 h3; exact wp_leaf rfl ⟨rfl,rfl⟩)⟩
   | _::_::_::_,h=>exact absurd h (by simp))

noncomputable def ΓF:Env:=fun f=>if f=iNamed then .pure gNamed else .none
theorem ΓF_ok:∀ f,SoundF DP f (ΓF f):=fun f=>by
 unfold ΓF
 split
 ·rename_i e; rw[e]; exact SNamed
 ·exact sound_none f
def ΔF:REnv:=fun f=>if f=iFind then liftR RFind else if f=iStep then liftR RStep else fun _ _ _ _=>False
theorem ΔF_ok:∀ f,SoundR DP f (ΔF f):=fun f=>by
 unfold ΔF
 split
 ·rename_i e; rw[e]; exact lift_sound SFind
 split
 ·rename_i e; rw[e]; exact lift_sound SStep
 ·exact .none f

end Go.Ax
