/- A region that draws its order: every order comes to what the text's order comes to. -/
import Derived.Test.YtddkloofiknjdaaDoorG3
import Derived.ProofKit
import Derived.Deep.Slices
import Derived.OpenShut
import Derived.Lib.Bytealg
import Derived.Shelf.Small.Strs
import Derived.Lib.SmallJoins
import Derived.ChangeOld
import Derived.Carry
import Derived.ShutString
set_option linter.unusedVariables false
set_option linter.unusedSimpArgs false
set_option linter.unusedSectionVars false
namespace Go.Ax
open Go.RowKit

variable [Glob] {P : Program} {F : Nat → Prop}

theorem de {Γ:BF} {t t':T} {B:List Box} {op:Op} (h:∀ x∈op.operands,AR t x=AR t' x):CH P Γ t B op=CH P Γ t' B op:=by
 have arr:∀ (xs:Array Operand),(∀ x∈xs,AR t x=AR t' x)→xs.toList.map (AR t)=xs.toList.map (AR t'):=by
  intro xs hx
  exact List.map_congr_left fun x hxm=>hx x (by simpa using hxm)
 have opt:∀ (q:Option Operand),(∀ x∈q,AR t x=AR t' x)→q.map (AR t)=q.map (AR t'):=by
  intro q hq
  cases q with
  | none=>rfl
  | some q=>simp[hq q rfl]
 have parts:∀ (ps:Array (Nat×Operand)),(∀ x∈(ps.toList.map (·.2)).toArray,AR t x=AR t' x)→(ps.toList.map fun q=>(q.1,AR t q.2))=(ps.toList.map fun q=>(q.1,AR t' q.2)):=by
  intro ps hp
  refine List.map_congr_left fun q hq=>?_
  rw[hp q.2 (by simpa using ⟨q.1,by simpa using hq⟩)]
 cases op <;> simp only[CH]
 case move x=>rw[h x (by simp[Op.operands])]
 case assign x=>rw[h x (by simp[Op.operands])]
 case pick c a b=>rw[h c (by simp[Op.operands]),h a (by simp[Op.operands]),h b (by simp[Op.operands])]
 case box e x=>rw[h x (by simp[Op.operands])]
 case build ty ps=>rw[parts ps h]
 case buildSlice ty len ps=>rw[parts ps h]
 case makeSlice ty l c=>rw[h l (by simp[Op.operands]),h c (by simp[Op.operands])]
 case load ty x=>rw[h x (by simp[Op.operands])]
 case store ty x y=>rw[h x (by simp[Op.operands]),h y (by simp[Op.operands])]
 case nilCheck x=>rw[h x (by simp[Op.operands])]
 case binOp op ty x y yt=>rw[h x (by simp[Op.operands]),h y (by simp[Op.operands])]
 case unOp op ty x=>rw[h x (by simp[Op.operands])]
 case convert s d x=>rw[h x (by simp[Op.operands])]
 case makeFunc f first cap=>
  cases f with
  | func f=>simp only[arr cap (fun x hx=>h x (by simp[Op.operands,hx]))]
  | _=>rfl
 case slice ty x lo hi mx=>
  cases mx with
  | some m=>simp only[h x (by simp[Op.operands]),h m (by simp[Op.operands]),opt lo (fun y hy=>h y (by simp[Op.operands,Option.mem_def.1 hy])),opt hi (fun y hy=>h y (by simp[Op.operands,Option.mem_def.1 hy]))]
  | none=>simp only[h x (by simp[Op.operands]),opt lo (fun y hy=>h y (by simp[Op.operands,Option.mem_def.1 hy])),opt hi (fun y hy=>h y (by simp[Op.operands,Option.mem_def.1 hy]))]
 case makeMap ty r=>cases r <;> rfl
 case lookup ty x k q=>rw[h x (by simp[Op.operands]),h k (by simp[Op.operands])]
 case mapUpdate ty x k y=>rw[h x (by simp[Op.operands]),h k (by simp[Op.operands]),h y (by simp[Op.operands])]
 case insert ty x k y=>rw[h x (by simp[Op.operands]),h k (by simp[Op.operands]),h y (by simp[Op.operands])]
 case fieldAddr ty x j=>rw[h x (by simp[Op.operands])]
 case field ty x j=>rw[h x (by simp[Op.operands])]
 case indexAddr ty x i=>rw[h x (by simp[Op.operands]),h i (by simp[Op.operands])]
 case index ty x i=>rw[h x (by simp[Op.operands]),h i (by simp[Op.operands])]
 case extract x i=>rw[h x (by simp[Op.operands])]
 case call c=>
  have hargs:=arr c.args (fun x hx=>h x (by simp only[Op.operands,Call.operands]; exact Array.mem_append_right _ hx))
  unfold E4
  cases hc:c.callee with
  | builtin b=>simp only[hargs]
  | value f=>simp only[hargs,h f (by simp[Op.operands,Call.operands,hc])]
  | invoke r m=>rfl

theorem Tb {ops:List Oper} {o:Oper} {t:T} {d:Nat} {v:AV} (h:d ∉ o.looksAt ops.toArray):∀ x∈o.op.operands,AR (Ff t d v) x=AR t x:=by
 intro x hx
 cases x with
 | tmp e=>
  have:e≠d:=by
   intro he
   subst he
   refine h ?_
   unfold Oper.looksAt
   exact List.mem_append_left _ (List.mem_filterMap.2 ⟨.tmp e,by simpa using hx,rfl⟩)
  exact FF _ _ _ _ this
 | const c=>rfl
 | global g=>rfl
 | func f=>rfl

theorem YE {ops:List Oper} {o:Oper} {t:T} {d:Nat} {v:AV} (h:d ∉ o.looksAt ops.toArray):Cl ops (Ff t d v) o=Cl ops t o:=by
 unfold Cl
 cases hg:o.guard with
 | none=>rfl
 | some g=>
  obtain ⟨j,want⟩:=g
  simp only
  cases hd:(ops[j]?).bind (·.dst) with
  | none=>rfl
  | some e=>
   have:e≠d:=by
    intro he
    subst he
    refine h ?_
    unfold Oper.looksAt
    refine List.mem_append_right _ ?_
    simp only[hg]
    have:ops.toArray[j]? = ops[j]? := by simp
    rw[this,hd]
    simp
   simp only[FF _ _ _ _ this]

theorem YF {c:Cls} {n0:Nat} {t t':T} {op:Op} (h:∀ x∈op.operands,AR t x=AR t' x):Fb c n0 t op=Fb c n0 t' op:=by
 cases c <;> cases op <;> simp only[Fb] <;> first
  | rfl
  | (rename_i ty x; rw[h x (by simp[Op.operands])]; done)
  | (rename_i ty x y; rw[h x (by simp[Op.operands])]; done)
  | (rename_i c
     have:c.args.toList.map (AR t)=c.args.toList.map (AR t'):=List.map_congr_left fun x hx=>h x (by simp only[Op.operands,Call.operands]; exact Array.mem_append_right _ (by simpa using hx))
     rw[this])

def Uh (n0:Nat) (B B':List Box):Prop:=∀ b,b<n0→B[b]? = B'[b]?

theorem KE {Γ:BF} {ops:List Oper} {t:T} {B B':List Box} {op:Op} {v:AV} (h1:clsOf P Γ ops op≠ .wi) (h2:clsOf P Γ ops op≠ .wo) (h:CH P Γ t B op=some (v,B')):B'=B:=by
 have mp:∀ {α:Type} {q:Option α} {f:α→AV},(q.map fun x=>(f x,B))=some (v,B')→B'=B:=by
  intro α q f h
  obtain ⟨_,_,h2⟩:=map_some h
  cases h2; rfl
 cases op <;> simp only[CH] at h <;> simp only[clsOf] at h1 h2 <;> try (first | (cases h; done) | (cases h; rfl) | exact mp h | exact absurd rfl h1 | exact absurd rfl h2)
 case store=>split at h1 <;> split at h2 <;> first | exact absurd rfl h1 | exact absurd rfl h2 | contradiction
 case nilCheck x=>split at h <;> first | (cases h; rfl) | cases h
 case convert src dst x=>
  unfold E2 at h
  split at h
  ·cases h; rfl
  ·cases h; rfl
  ·rename_i e s hs hd hv
   rw[hs,hd] at h1
   exact absurd rfl h1
  ·split at h
   ·split at h
    ·cases h; rfl
    ·cases h
   ·cases h
  ·split at h
   ·split at h
    ·cases h; rfl
    ·obtain ⟨q,g1,g2⟩:=Option.bind_eq_some_iff.1 h
     obtain ⟨_,_,g3⟩:=map_some g2
     cases g3; rfl
   ·cases h
  ·cases h
 case makeFunc f first cap=>
  cases f with
  | func f=>simp only at h; split at h <;> first | (cases h; rfl) | cases h
  | _=>cases h
 case slice ty x lo hi mx=>
  cases mx with
  | some m=>exact absurd rfl h2
  | none=>exact mp h
 case extract x i=>split at h <;> first | exact mp h | cases h
 case call c=>
  unfold E4 at h
  split at h
  ·rename_i b hb
   unfold E3 at h
   rw[hb] at h1 h2
   split at h
   ·obtain ⟨ty,_,g2⟩:=Option.bind_eq_some_iff.1 h; exact mp g2
   ·rename_i s x hargs
    cases ha:c.args.toList with
    | nil=>rw[ha] at hargs; cases hargs
    | cons a r=>
     rw[ha] at h1 h2
     cases a <;> simp only at h1 h2 <;> first | exact absurd rfl h1 | (split at h1 <;> split at h2 <;> first | exact absurd rfl h1 | exact absurd rfl h2 | contradiction)
   ·exact mp h
   ·exact mp h
   ·exact absurd rfl h2
   ·exact absurd rfl h2
   ·cases h
  ·rename_i f hf
   rw[hf] at h1 h2
   split at h
   ·rename_i g cap hg
    cases f with
    | func f=>
     simp only[AR,AV.fn.injEq] at hg
     obtain ⟨rfl,rfl⟩:=hg
     simp only at h1 h2
     cases hΓ:Γ f with
     | none=>rw[hΓ] at h; cases h
     | pure g'=>
      rw[hΓ] at h
      obtain ⟨_,_,g3⟩:=map_some h
      cases g3; rfl
     | gen g'=>rw[hΓ] at h2; exact absurd rfl h2
    | _=>exact absurd rfl h2
   ·cases h
  ·cases h

theorem SL {Γ:BF} {ops:List Oper} {t:T} {B:List Box} {op:Op} {v:AV} (hc:clsOf P Γ ops op= .p) (h:CH P Γ t B op=some (v,B)) (B2:List Box):CH P Γ t B2 op=some (v,B2):=by
 have mp:∀ {q:Option AV},(q.map fun x=>(x,B))=some (v,B)→(q.map fun x=>(x,B2))=some (v,B2):=by
  intro q h
  obtain ⟨a,h1,h2⟩:=map_some h
  cases h2; rw[h1]; rfl
 cases op <;> simp only[CH] at h ⊢ <;> simp only[clsOf] at hc <;> try (first | (cases h; done) | (cases h; rfl) | exact mp h | (cases hc; done))
 case pick c a b=>
  obtain ⟨q,h1,h2⟩:=map_some h
  cases h2; rw[h1]; rfl
 case load ty x=>split at hc <;> cases hc
 case store=>split at hc <;> cases hc
 case nilCheck x=>
  split at h
  ·cases h; rfl
  ·cases h; rfl
  ·cases h; rfl
  ·cases h
 case convert src dst x=>
  unfold E2 at h ⊢
  split at h
  ·cases h; rfl
  ·cases h; rfl
  ·rename_i e s hs hd hv
   rw[hs,hd] at hc
   cases hc
  ·rename_i e0 e b ver sz off len hs hd hno
   rw[hs] at hc
   cases hc
  ·rename_i y e hs hd hno
   rw[hs] at hc
   cases hc
  ·cases h
 case makeFunc f first cap=>
  cases f with
  | func f=>
   simp only at h ⊢
   split at h
   ·rename_i hf; cases h; rw[if_pos hf]
   ·cases h
  | _=>cases h
 case slice ty x lo hi mx=>
  cases mx with
  | some m=>cases hc
  | none=>
   obtain ⟨a,h1,h2⟩:=map_some h
   cases h2
   unfold GA at h1
   have:GA P ty B2 (AR t x) (lo.map (AR t)) (hi.map (AR t))=some v:=by
    unfold GA
    split at h1
    ·exact h1
    ·exact h1
    ·exact h1
    ·exact h1
    ·rename_i n e b ver o hs hv
     simp only[clsOf,hs] at hc
     cases hc
    ·cases h1
   show (GA P ty B2 (AR t x) (lo.map (AR t)) (hi.map (AR t))).map (fun v=>(v,B2))=some (v,B2)
   rw[this]; rfl
 case extract x i=>
  split at h
  ·exact mp h
  ·cases h
 case call c=>
  unfold E4 at h ⊢
  cases hcal:c.callee with
  | builtin b=>
   rw[hcal] at h hc
   simp only at h ⊢
   unfold E3 at h ⊢
   split at h
   ·rename_i x hargs
    obtain ⟨ty,h1,h2⟩:=Option.bind_eq_some_iff.1 h
    rw[h1]
    exact mp h2
   ·rename_i s x hargs
    cases ha:c.args.toList with
    | nil=>rw[ha] at hargs; cases hargs
    | cons a r=>
     rw[ha] at hc
     cases a <;> simp only at hc <;> first | (cases hc; done) | (split at hc <;> cases hc)
   ·exact mp h
   ·exact mp h
   ·cases hc
   ·cases hc
   ·cases h
  | value f=>
   rw[hcal] at h hc
   simp only at h ⊢
   split at h
   ·rename_i g cap hg
    cases f with
    | func f=>
     simp only[AR,AV.fn.injEq] at hg
     obtain ⟨rfl,rfl⟩:=hg
     cases hΓ:Γ f with
     | none=>rw[hΓ] at h; cases h
     | pure g'=>
      rw[hΓ] at h
      exact mp h
     | gen g'=>
      have hcc:(if FG (Γ f)=true then Cls.p else Cls.wo)=Cls.p:=hc
      rw[hΓ] at hcc
      cases hcc
    | _=>cases hc
   ·cases h
  | invoke r m=>rw[hcal] at h; cases h

theorem VW {Γ:BF} {ops:List Oper} {t:T} {B B2:List Box} {op:Op} {v:AV} {n0:Nat} (hc:clsOf P Γ ops op= .ro) (hk:Fb .ro n0 t op=true) (h:CH P Γ t B op=some (v,B)) (hA:Uh n0 B B2):CH P Γ t B2 op=some (v,B2):=by
 cases op <;> simp only[clsOf] at hc <;> try (cases hc; done)
 case load ty x=>
  simp only[CH] at h ⊢
  obtain ⟨a,h1,h2⟩:=map_some h
  cases h2
  simp only[Fb] at hk
  have:L0 P ty B2 (AR t x)=some v:=by
   split at hk
   ·rename_i b ver o hv
    have hb:b<n0:=by simpa [Nat.blt_eq] using hk
    rw[hv] at h1 ⊢
    simp only[L0] at h1 ⊢
    rw[←hA b hb]
    exact h1
   ·rename_i cs hv
    rw[hv] at h1 ⊢
    exact h1
   ·cases hk
  rw[this]; rfl
 case store=>split at hc <;> cases hc
 case convert src dst x=>split at hc <;> cases hc
 case slice ty x lo hi mx=>split at hc <;> cases hc
 case call c=>
  split at hc <;> first | (cases hc; done) | (split at hc <;> cases hc)

theorem VX {Γ:BF} {ops:List Oper} {t:T} {B B':List Box} {op:Op} {v:AV} {n0:Nat} (hc:clsOf P Γ ops op= .wi) (hk:Fb .wi n0 t op=true) (hn:n0≤B.length) (h:CH P Γ t B op=some (v,B')):Uh n0 B B'∧n0≤B'.length:=by
 have app:∀ (x:Box),Uh n0 B (B++ [x])∧n0≤(B++ [x]).length:=fun x=>⟨fun b hb=>by rw[List.getElem?_append_left (by omega)],by simp; omega⟩
 have set:∀ (b:Nat) (x:Box),n0≤b→Uh n0 B (B.set b x)∧n0≤(B.set b x).length:=fun b x hb=>⟨fun c hc=>by rw[List.getElem?_set,if_neg (by omega)],by simpa using hn⟩
 cases op <;> simp only[clsOf] at hc <;> simp only[CH] at h <;> try (cases hc; done)
 case alloc e=>
  obtain ⟨z,_,h2⟩:=Option.bind_eq_some_iff.1 h
  split at h2 <;> cases h2
  exact app _
 case box e x=>
  split at h <;> cases h
  exact app _
 case buildSlice ty len parts=>
  unfold Hp at h
  obtain ⟨_,_,h⟩:=Option.bind_eq_some_iff.1 h
  obtain ⟨_,_,h⟩:=Option.bind_eq_some_iff.1 h
  obtain ⟨_,_,h⟩:=Option.bind_eq_some_iff.1 h
  split at h
  ·obtain ⟨_,_,h⟩:=Option.bind_eq_some_iff.1 h
   cases h
   exact app _
  ·cases h
 case load ty x=>split at hc <;> cases hc
 case store ty x y=>
  obtain ⟨B1,h1,h2⟩:=map_some h
  cases h2
  simp only[Fb] at hk
  split at hk
  ·rename_i b ver o hv
   rw[hv] at h1
   simp only[M7] at h1
   split at h1
   ·split at h1
    ·cases h1
     exact set _ _ (by simpa [Nat.ble_eq] using hk)
    ·cases h1
   ·cases h1
  ·cases hk
 case convert src dst x=>
  unfold E2 at h
  split at h
  ·cases h; exact ⟨fun _ _=>rfl,hn⟩
  ·cases h; exact ⟨fun _ _=>rfl,hn⟩
  ·split at h <;> cases h
   exact app _
  ·split at h
   ·split at h
    ·cases h; exact ⟨fun _ _=>rfl,hn⟩
    ·cases h
   ·cases h
  ·split at h
   ·split at h
    ·cases h; exact ⟨fun _ _=>rfl,hn⟩
    ·obtain ⟨q,g1,g2⟩:=Option.bind_eq_some_iff.1 h
     obtain ⟨_,_,g3⟩:=map_some g2
     cases g3; exact ⟨fun _ _=>rfl,hn⟩
   ·cases h
  ·cases h
 case slice ty x lo hi mx=>split at hc <;> cases hc
 case call c=>
  unfold E4 at h
  simp only[Fb] at hk
  cases hcal:c.callee with
  | builtin b=>
   rw[hcal] at h hc
   simp only at h
   unfold E3 at h
   split at h
   ·cases hc
   ·rename_i s x hargs
    rw[hargs] at hk
    simp only[List.head?_cons] at hk
    obtain ⟨_,_,h⟩:=Option.bind_eq_some_iff.1 h
    obtain ⟨_,_,h⟩:=Option.bind_eq_some_iff.1 h
    unfold Gd at h
    obtain ⟨_,_,h⟩:=Option.bind_eq_some_iff.1 h
    obtain ⟨_,_,h⟩:=Option.bind_eq_some_iff.1 h
    obtain ⟨_,_,h⟩:=Option.bind_eq_some_iff.1 h
    split at h
    ·cases h
    obtain ⟨q,_,h⟩:=Option.bind_eq_some_iff.1 h
    obtain ⟨n,new⟩:=q
    simp only at h
    split at h
    ·cases h
    split at h
    ·split at h <;> cases h
     exact app _
    ·rename_i b ver sz' off len
     split at h
     ·split at h <;> cases h
      exact set _ _ (by simpa [Nat.ble_eq] using hk)
     ·cases h
    ·cases h
   ·cases hc
   ·cases hc
   ·cases hc
   ·cases hc
   ·cases h
  | value f=>
   rw[hcal] at hc
   cases f <;> simp only at hc <;> first | (cases hc; done) | (split at hc <;> cases hc)
  | invoke r m=>rw[hcal] at h; cases h

theorem stepD_wanted {Γ:BF} {n n0:Nat} {ops:List Oper} {o:Oper} {s s':AS} (h:C3 P Γ n n0 ops o s=some s'):(∃ v B',Cl ops s.t o=some true∧Fb (clsOf P Γ ops o.op) n0 s.t o.op=true∧(clsOf P Γ ops o.op= .wi→n0≤s.B.length) ∧
   CH P Γ s.t s.B o.op=some (v,B')∧EJ n s.t o.dst v=some s'.t∧s'.B=B')∨(Cl ops s.t o=some false∧EJ n s.t o.dst (.p (.v undef))=some s'.t∧s'.B=s.B):=by
 unfold C3 at h
 cases hw:Cl ops s.t o with
 | none=>rw[hw] at h; cases h
 | some q=>
  rw[hw] at h
  simp only[Option.bind_some] at h
  cases q with
  | true=>
   simp only[if_true] at h
   split at h
   ·rename_i hc
    simp only[Bool.and_eq_true,Bool.or_eq_true,bne_iff_ne,Nat.ble_eq] at hc
    obtain ⟨r,h1,h2⟩:=Option.bind_eq_some_iff.1 h
    obtain ⟨v,B'⟩:=r
    obtain ⟨t',h3,h4⟩:=map_some h2
    subst h4
    exact .inl ⟨v,B',rfl,hc.1,fun he=>hc.2.resolve_left (fun hne=>hne he),h1,h3,rfl⟩
   ·cases h
  | false=>
   simp only[Bool.false_eq_true,if_false] at h
   obtain ⟨t',h3,h4⟩:=map_some h
   subst h4
   exact .inr ⟨rfl,h3,rfl⟩

theorem L9 {Γ:BF} {n n0:Nat} {ops:List Oper} {o:Oper} {s:AS} {t':T} {B':List Box} {v:AV} (h1:Cl ops s.t o=some true) (h2:Fb (clsOf P Γ ops o.op) n0 s.t o.op=true) (h3:clsOf P Γ ops o.op= .wi→n0≤s.B.length)
  (h4:CH P Γ s.t s.B o.op=some (v,B')) (h5:EJ n s.t o.dst v=some t'):C3 P Γ n n0 ops o s=some ⟨t',B'⟩:=by
 unfold C3
 rw[h1]
 simp only[Option.bind_some,if_true]
 have:(clsOf P Γ ops o.op != .wi||Nat.ble n0 s.B.length)=true:=by
  by_cases he:clsOf P Γ ops o.op= .wi
  ·simp[Nat.ble_eq,h3 he]
  ·simp[he]
 rw[h2,this,h4]
 simp[h5]

theorem Iv {Γ:BF} {n n0:Nat} {ops:List Oper} {o:Oper} {s:AS} {t':T} (h1:Cl ops s.t o=some false) (h5:EJ n s.t o.dst (.p (.v undef))=some t'):C3 P Γ n n0 ops o s=some ⟨t',s.B⟩:=by
 unfold C3
 rw[h1]
 simp[h5]

theorem KF {n:Nat} {t t1 t2:T} {d e:Option Nat} {v y:AV} (hne:∀ x,d=some x→e≠some x) (h1:EJ n t d v=some t1) (h2:EJ n t1 e y=some t2):∃ t1',EJ n t e y=some t1'∧EJ n t1' d v=some t2:=by
 cases d with
 | none=>cases h1; exact ⟨t2,h2,rfl⟩
 | some d=>
  cases e with
  | none=>cases h2; exact ⟨t,rfl,h1⟩
  | some e=>
   have hde:e≠d:=fun h=>hne d rfl (by rw[h])
   simp only[EJ] at h1 h2
   split at h1
   ·rename_i c1
    split at h2
    ·rename_i c2
     cases h1
     cases h2
     refine ⟨Ff t e y,by simp[EJ,c2],?_⟩
     simp only[EJ,c1,if_true,Option.some.injEq]
     funext j
     by_cases h1:j=d
     ·subst h1; rw[Ez,FF _ _ _ _ (Ne.symm hde),Ez]
     ·rw[FF _ _ _ _ h1]
      by_cases h2:j=e
      ·subst h2; rw[Ez,Ez]
      ·rw[FF _ _ _ _ h2,FF _ _ _ _ h2,FF _ _ _ _ h1]
    ·cases h2
   ·cases h1

theorem QC {Γ:BF} {n:Nat} {ops:List Oper} {o:Oper} {t t1:T} {d:Option Nat} {v:AV} (hd:∀ x,d=some x→x ∉ o.looksAt ops.toArray) (h:EJ n t d v=some t1) (B:List Box) (c:Cls) (n0:Nat):
  Cl ops t1 o=Cl ops t o∧CH P Γ t1 B o.op=CH P Γ t B o.op∧Fb c n0 t1 o.op=Fb c n0 t o.op:=by
 cases d with
 | none=>cases h; exact ⟨rfl,rfl,rfl⟩
 | some d=>
  simp only[EJ] at h
  split at h
  ·cases h
   have hd':=hd d rfl
   exact ⟨YE hd',de (Tb hd'),YF (Tb hd')⟩
  ·cases h

theorem swap {Γ:BF} {n n0:Nat} {ops:List Oper} {oi oj:Oper} {s s1 s2:AS} (hap:oi.apart ops.toArray oj=true) (hcl:(clsOf P Γ ops oi.op).clash (clsOf P Γ ops oj.op)=false)
  (h1:C3 P Γ n n0 ops oi s=some s1) (h2:C3 P Γ n n0 ops oj s1=some s2):∃ s1',C3 P Γ n n0 ops oj s=some s1'∧C3 P Γ n n0 ops oi s1'=some s2:=by
 obtain ⟨ha,hb,hc⟩:=Oper.apart_spec hap
 obtain ⟨t2,B2⟩:=s2
 rcases stepD_wanted h1 with ⟨vi,Bi,w1,k1,l1,o1,p1,e1⟩ | ⟨w1,p1,e1⟩
 ·obtain ⟨g1,g2,g3⟩:=QC (P:=P) (Γ:=Γ) ha p1 s1.B (clsOf P Γ ops oj.op) n0
  rcases stepD_wanted h2 with ⟨vj,Bj,w2,k2,l2,o2,p2,e2⟩ | ⟨w2,p2,e2⟩
  ·simp only at e2
   subst e2
   subst e1
   rw[g1] at w2
   rw[g2] at o2
   rw[g3] at k2
   obtain ⟨t1',q1,q2⟩:=KF hb p1 p2
   simp only at q2
   obtain ⟨f1,f2,f3⟩:=QC (P:=P) (Γ:=Γ) hc q1 s.B (clsOf P Γ ops oi.op) n0
   -- the boxes
   have boxes:∃ Bm,CH P Γ s.t s.B oj.op=some (vj,Bm)∧(clsOf P Γ ops oj.op= .wi→n0≤s.B.length)∧CH P Γ s.t Bm oi.op=some (vi,B2)∧(clsOf P Γ ops oi.op= .wi→n0≤Bm.length):=by
    by_cases wi1:clsOf P Γ ops oi.op= .wi
    ·-- oi writes inside: oj is p or ro
     have hnj:clsOf P Γ ops oj.op≠ .wi∧clsOf P Γ ops oj.op≠ .wo:=by
      rw[wi1] at hcl
      constructor <;> (intro h; rw[h] at hcl; cases hcl)
     have hB:=KE hnj.1 hnj.2 o2
     subst hB
     rw[wi1] at k1
     obtain ⟨A1,A2⟩:=VX wi1 k1 (l1 wi1) o1
     refine ⟨s.B,?_,fun h=>absurd h hnj.1,o1,fun _=>l1 wi1⟩
     by_cases hp:clsOf P Γ ops oj.op= .p
     ·exact SL hp o2 _
     ·have hro:clsOf P Γ ops oj.op= .ro:=by
       rw[wi1] at hcl
       cases hcj:clsOf P Γ ops oj.op <;> first | rfl | (exact absurd hcj hp) | (exact absurd hcj hnj.1) | (exact absurd hcj hnj.2) | (rw[hcj] at hcl; cases hcl)
      rw[hro] at k2
      exact VW hro k2 o2 (fun b hb=>(A1 b hb).symm)
    ·by_cases wo1:clsOf P Γ ops oi.op= .wo
     ·have hp:clsOf P Γ ops oj.op= .p:=by
       rw[wo1] at hcl
       cases hcj:clsOf P Γ ops oj.op <;> first | rfl | (rw[hcj] at hcl; cases hcl)
      have hB:=KE (by rw[hp]; exact fun h=>by cases h) (by rw[hp]; exact fun h=>by cases h) o2
      subst hB
      exact ⟨s.B,SL hp o2 _,(fun h=>by rw[hp] at h; cases h),o1,fun h=>absurd h wi1⟩
     ·-- oi writes nothing
      have hB:=KE wi1 wo1 o1
      rw[hB] at o1 o2
      refine ⟨B2,o2,(fun h=>by have:=l2 h; rw[hB] at this; exact this),?_,fun h=>absurd h wi1⟩
      by_cases hp:clsOf P Γ ops oi.op= .p
      ·exact SL hp o1 _
      ·by_cases wj:clsOf P Γ ops oj.op= .wi
       ·have hro:clsOf P Γ ops oi.op= .ro:=by
         rw[wj] at hcl
         cases hci:clsOf P Γ ops oi.op <;> first | rfl | (exact absurd hci hp) | (exact absurd hci wi1) | (exact absurd hci wo1) | (rw[hci] at hcl; cases hcl)
        rw[wj] at k2
        have hlen:n0≤s.B.length:=by have:=l2 wj; rw[hB] at this; exact this
        obtain ⟨A1,A2⟩:=VX wj k2 hlen o2
        rw[hro] at k1
        exact VW hro k1 o1 A1
       ·by_cases wj2:clsOf P Γ ops oj.op= .wo
        ·rw[wj2] at hcl
         cases hci:clsOf P Γ ops oi.op <;> rw[hci] at hcl hp <;> first | exact absurd rfl hp | cases hcl
        ·have:=KE wj wj2 o2
         rw[this]
         exact o1
   obtain ⟨Bm,b1,b2,b3,b4⟩:=boxes
   refine ⟨⟨t1',Bm⟩,L9 w2 k2 b2 b1 q1,?_⟩
   obtain ⟨f1',f2',f3'⟩:=QC (P:=P) (Γ:=Γ) hc q1 Bm (clsOf P Γ ops oi.op) n0
   exact L9 (s:=⟨t1',Bm⟩) (by rw[←w1]; exact f1') (by rw[←k1]; exact f3') b4 (by rw[←b3]; exact f2') q2
  ·simp only at e2
   rw[g1] at w2
   obtain ⟨t1',q1,q2⟩:=KF hb p1 p2
   simp only at q2
   obtain ⟨f1,f2,f3⟩:=QC (P:=P) (Γ:=Γ) hc q1 s.B (clsOf P Γ ops oi.op) n0
   refine ⟨⟨t1',s.B⟩,Iv w2 q1,?_⟩
   rw[e2,e1]
   exact L9 (s:=⟨t1',s.B⟩) (by rw[←w1]; exact f1) (by rw[←k1]; exact f3) l1 (by rw[←o1]; exact f2) q2
 ·obtain ⟨g1,g2,g3⟩:=QC (P:=P) (Γ:=Γ) ha p1 s1.B (clsOf P Γ ops oj.op) n0
  rcases stepD_wanted h2 with ⟨vj,Bj,w2,k2,l2,o2,p2,e2⟩ | ⟨w2,p2,e2⟩
  ·simp only at e2
   subst e2
   rw[g1] at w2
   rw[g2] at o2
   rw[g3] at k2
   rw[e1] at o2 l2
   obtain ⟨t1',q1,q2⟩:=KF hb p1 p2
   simp only at q2
   obtain ⟨f1,f2,f3⟩:=QC (P:=P) (Γ:=Γ) hc q1 B2 (clsOf P Γ ops oi.op) n0
   exact ⟨⟨t1',B2⟩,L9 w2 k2 l2 o2 q1,Iv (s:=⟨t1',B2⟩) (by rw[←w1]; exact f1) q2⟩
  ·simp only at e2
   rw[g1] at w2
   obtain ⟨t1',q1,q2⟩:=KF hb p1 p2
   simp only at q2
   obtain ⟨f1,f2,f3⟩:=QC (P:=P) (Γ:=Γ) hc q1 s.B (clsOf P Γ ops oi.op) n0
   refine ⟨⟨t1',s.B⟩,Iv w2 q1,?_⟩
   rw[e2,e1]
   exact Iv (s:=⟨t1',s.B⟩) (by rw[←w1]; exact f1) q2

end Go.Ax
namespace Go.Ax
open Go.RowKit

variable [Glob] {P : Program} {F : Nat → Prop}

def VY (P:Program) (Γ:BF) (n n0:Nat) (ops:List Oper) (fin:AS):Nat→Array Bool→AS→Prop
 | 0,L,s=>Region.ready .any ops.toArray L= []∧s=fin
 | f+1,L,s=>(Region.ready .any ops.toArray L= []→s=fin) ∧
  ∀ i∈Region.ready .any ops.toArray L,∃ oi s1,ops[i]? = some oi∧C3 P Γ n n0 ops oi s=some s1∧VY P Γ n n0 ops fin f (L.setIfInBounds i true) s1

def Jh (ops:List Oper) (L:Array Bool):Prop:=∀ j oj,ops[j]? = some oj→L.getD j true=true→j<L.size→∀ e∈oj.after,Region.binds .any e=true→L.getD e.on false=true

theorem Qt {L:Array Bool} {i:Nat} (h:L.getD i false=true):i<L.size∧L.getD i true=true:=by
 rcases Nat.lt_or_ge i L.size with h' | h'
 ·refine ⟨h',?_⟩
  simp[h'] at h ⊢; exact h
 ·simp[h'] at h

theorem Ji {ops:List Oper} {L:Array Bool} (hc:Jh ops L) {i:Nat}:∀ (fuel j:Nat),Iu ops fuel j i=true→(∀ oj,ops[j]? = some oj→∀ e∈oj.after,Region.binds .any e=true→L.getD e.on false=true)→L.getD i false=true
 | 0,_,h,_=>by cases h
 | fuel+1,j,h,hj=>by
  simp only[Iu] at h
  split at h
  ·cases h
  ·rename_i oj hoj
   rw[List.any_eq_true] at h
   obtain ⟨e,he,h2⟩:=h
   simp only[Bool.and_eq_true,Bool.or_eq_true] at h2
   obtain ⟨hb,h3⟩:=h2
   have hl:=hj oj hoj e (by simpa using he) hb
   rcases h3 with h3 | h3
   ·have:=Nat.eq_of_beq_eq_true h3
    rw[←this]; exact hl
   ·obtain ⟨g1,g2⟩:=Qt hl
    exact Ji hc fuel e.on h3 (fun oj hoj e' he' hb'=>hc _ oj hoj g2 g1 e' he' hb')

theorem Ku {ops:List Oper} {L:Array Bool} {j:Nat} (h:j∈Region.ready .any ops.toArray L):∃ oj,ops[j]? = some oj∧∀ e∈oj.after,Region.binds .any e=true→L.getD e.on false=true:=by
 obtain ⟨_,oj,hoj,hall⟩:=mem_ready.1 h
 exact ⟨oj,by simpa using hoj,hall⟩

theorem Gy {ops:List Oper} {L:Array Bool} (hc:Jh ops L) {i:Nat} (hi:i∈Region.ready .any ops.toArray L):Jh ops (L.setIfInBounds i true):=by
 intro j oj hoj hl hs e he hb
 have mono:∀ k,L.getD k false=true→(L.setIfInBounds i true).getD k false=true:=fun k hk=>getD_set_true hk
 by_cases hji:j=i
 ·subst hji
  obtain ⟨oj',hoj',hall⟩:=Ku hi
  rw[hoj] at hoj'
  cases hoj'
  exact mono _ (hall e he hb)
 ·rw[getD_set_ne true (fun h=>hji h.symm)] at hl
  exact mono _ (hc j oj hoj hl (by simpa using hs) e he hb)

theorem Iw {L:Array Bool} {i:Nat} (h:L.getD i true=false):L.getD i false=false:=by
 rcases Nat.lt_or_ge i L.size with h' | h'
 ·simp[h'] at h ⊢; exact h
 ·simp[h'] at h

theorem aR {Γ:BF} {n n0:Nat} {ops:List Oper} {fin:AS} {i:Nat} {oi:Oper} (hi:ops[i]? = some oi)
  (hfree:∀ j oj,ops[j]? = some oj→i<j→Iu ops 24 j i=true∨(oi.apart ops.toArray oj=true∧(clsOf P Γ ops oi.op).clash (clsOf P Γ ops oj.op)=false)):
  ∀ (fuel:Nat) (L:Array Bool) (s s1:AS),Jh ops L→(∀ j,j<i→L.getD j false=true)→i∈Region.ready .any ops.toArray L→C3 P Γ n n0 ops oi s=some s1 →
   VY P Γ n n0 ops fin fuel (L.setIfInBounds i true) s1→VY P Γ n n0 ops fin (fuel+1) L s:=by
 intro fuel
 induction fuel with
 | zero=>
  intro L s s1 hc hlow hr hs H
  refine ⟨fun h=>(by rw[h] at hr; cases hr),fun j hj=>?_⟩
  by_cases hji:j=i
  ·subst hji; exact ⟨oi,s1,hi,hs,H⟩
  ·have:=ready_mono hj hji
   rw[H.1] at this
   cases this
 | succ fuel ih=>
  intro L s s1 hc hlow hr hs H
  refine ⟨fun h=>(by rw[h] at hr; cases hr),fun j hj=>?_⟩
  by_cases hji:j=i
  ·subst hji; exact ⟨oi,s1,hi,hs,H⟩
  ·obtain ⟨oj,s2,hoj,hs2,H2⟩:=H.2 j (ready_mono hj hji)
   have hjl:L.getD j true=false:=(mem_ready.1 hj).1
   have hlt:i<j:=by
    rcases Nat.lt_or_ge i j with h | h
    ·exact h
    ·have h1:=hlow j (by omega)
     have:=Iw hjl
     rw[this] at h1
     cases h1
   have hil:L.getD i true=false:=(mem_ready.1 hr).1
   obtain ⟨oj',hoj',hall⟩:=Ku hj
   rw[hoj] at hoj'
   cases hoj'
   rcases hfree j oj hoj hlt with hre | ⟨hap,hcl⟩
   ·have:=Ji hc 24 j hre (fun oj' hoj'=>by rw[hoj] at hoj'; cases hoj'; exact hall)
    rw[Iw hil] at this
    cases this
   ·obtain ⟨s1',e1,e2⟩:=swap hap hcl hs hs2
    refine ⟨oj,s1',hoj,e1,ih (L.setIfInBounds j true) s1' s2 (Gy hc hj) (fun k hk=>getD_set_true (hlow k hk)) (ready_mono hr (Ne.symm hji)) e2 ?_⟩
    rw[Array.setIfInBounds_comm _ _ hji]
    exact H2

theorem NE {Γ:BF} {ops:List Oper} {i:Nat} {oi:Oper}:∀ (l:List Oper) (k:Nat),(∀ q,l[q]? = ops[k+q]?)→OS P Γ ops i oi k l=true→∀ j oj,ops[j]? = some oj→k≤j →
  Iu ops 24 j i=true∨(oi.apart ops.toArray oj=true∧(clsOf P Γ ops oi.op).clash (clsOf P Γ ops oj.op)=false)
 | [],k,hl,_,j,oj,hoj,hk=>by
  have:=hl (j - k)
  rw[show k+(j - k)=j by omega,hoj] at this
  simp at this
 | o::l,k,hl,h,j,oj,hoj,hk=>by
  simp only[OS,Bool.and_eq_true,Bool.or_eq_true,Bool.not_eq_true'] at h
  obtain ⟨h1,h2⟩:=h
  rcases Nat.lt_or_ge k j with hlt | hge
  ·exact NE l (k+1) (fun q=>by have:=hl (q+1); rw[show k+1+q=k+(q+1) by omega,←this]; rfl) h2 j oj hoj hlt
  ·have:j=k:=by omega
   subst this
   have h0:=hl 0
   simp only[Nat.add_zero,List.getElem?_cons_zero] at h0
   rw[hoj] at h0
   cases h0
   exact h1

theorem oc {Γ:BF} {n n0:Nat} {ops:List Oper} {fin:AS}:∀ (l:List Oper) (k:Nat) (L:Array Bool) (s:AS),(∀ q,l[q]? = ops[k+q]?)→L5 P Γ ops k l=true→L.size=ops.length→k+l.length=ops.length→Jh ops L →
  (∀ j,j<k→L.getD j false=true)→(∀ j,k≤j→j<ops.length→L.getD j true=false)→NA P Γ n n0 ops l s=some fin→VY P Γ n n0 ops fin l.length L s
 | [],k,L,s,hl,_,hsz,hk,hc,hlow,_,h=>by
  cases h
  refine ⟨?_,rfl⟩
  rw[List.eq_nil_iff_forall_not_mem]
  intro j hj
  obtain ⟨h1,oj,hoj,_⟩:=mem_ready.1 hj
  have hlt:j<ops.length:=by simpa using (Array.getElem?_eq_some_iff.1 hoj).1
  have:=hlow j (by simp at hk; omega)
  rw[Iw h1] at this
  cases this
 | o::l,k,L,s,hl,ha,hsz,hk,hc,hlow,hhigh,h=>by
  have h0:ops[k]? = some o:=by simpa using (hl 0).symm
  simp only[L5,Bool.and_eq_true] at ha
  obtain ⟨⟨a1,a2⟩,a3⟩:=ha
  simp only[NA] at h
  obtain ⟨s1,h1,h2⟩:=Option.bind_eq_some_iff.1 h
  have hklt:k<ops.length:=(List.getElem?_eq_some_iff.1 h0).1
  have hready:k∈Region.ready .any ops.toArray L:=by
   refine mem_ready.2 ⟨hhigh k (Nat.le_refl _) hklt,o,by simpa using h0,fun e he hb=>?_⟩
   rw[List.all_eq_true] at a1
   have:=a1 e (by simpa using he)
   simp only[Bool.or_eq_true,Bool.not_eq_true',Nat.blt_eq] at this
   rcases this with h | h
   ·rw[hb] at h; cases h
   ·exact hlow _ h
  have hl':∀ q,l[q]? = ops[k+1+q]? := fun q=>by have:=hl (q+1); rw[show k+1+q=k+(q+1) by omega,←this]; rfl
  refine aR h0 (fun j oj hoj hlt=>NE l (k+1) hl' a2 j oj hoj hlt) l.length L s s1 hc hlow hready h1 ?_
  refine oc l (k+1) _ s1 hl' a3 (by simpa using hsz) (by simp at hk; omega) (Gy hc hready) (fun j hj=>?_) (fun j h1 h2=>?_) h2
  ·rcases Nat.lt_or_ge j k with h | h
   ·exact getD_set_true (hlow j h)
   ·have:j=k:=by omega
    subst this
    simp[hsz,hklt]
  ·rw[getD_set_ne true (by omega)]
   exact hhigh j (by omega) h2

theorem Qu {Γ:BF} {n n0:Nat} {ops:List Oper} {o:Oper} {s s':AS} (h:C3 P Γ n n0 ops o s=some s'):Gu P Γ n ops o s=some s':=by
 rcases stepD_wanted h with ⟨v,B',w1,_,_,o1,p1,e1⟩ | ⟨w1,p1,e1⟩
 ·unfold Gu
  rw[w1]
  simp only[Option.bind_some,if_true,o1,p1,Option.map_some]
  rw[←e1]
 ·unfold Gu
  rw[w1]
  simp only[Option.bind_some,Bool.false_eq_true,if_false,p1,Option.map_some]
  rw[←e1]

theorem Tc {Γ:BF} (hΓ:∀ f,SoundF P f (Γ f)) {n n0:Nat} {ops:List Oper} {fin:AS} {Q:Exit→Act→World→Prop}:∀ (fuel:Nat) (L:Array Bool) (s:AS),VY P Γ n n0 ops fin fuel L s→∀ {ρ:Aj} {w:World} {a:Act},Rel F s.B ρ w n s.t a →
  (∀ a' w' ρ',Rel F fin.B ρ' w' n fin.t a'→Ext F s.B ρ w fin.B ρ' w'→Q .normal a' w')→wpAny P .any ops.toArray Q fuel L a w
 | 0,L,s,h,ρ,w,a,hR,hQ=>by
  obtain ⟨h1,rfl⟩:=h
  exact ⟨h1,hQ a w ρ hR (.refl _ _ _)⟩
 | fuel+1,L,s,h,ρ,w,a,hR,hQ=>by
  refine ⟨fun h0=>by cases h.1 h0; exact hQ a w ρ hR (.refl _ _ _),fun i hi=>?_⟩
  obtain ⟨oi,s1,hoi,hs,H⟩:=h.2 i hi
  unfold wpOp
  have:ops.toArray[i]? = some oi:=by simpa using hoi
  rw[this]
  simp only
  have hst:=L8 hΓ (Qu hs) hR (K:=wpAny P .any ops.toArray Q fuel (L.setIfInBounds i true)) (Q:=Q) (fun a' w' ρ' hR' hE=>Tc hΓ fuel _ s1 H hR' (fun a2 w2 ρ2 hR2 hE2=>hQ a2 w2 ρ2 hR2 (hE.trans hE2)))
  split
  ·rename_i hw; rw[if_pos hw] at hst; exact .inl hst
  ·rename_i hw; rw[if_neg hw] at hst; exact hst

theorem VZ {B:List Box} {ρ:Aj} {w:World} {n:Nat} {t:T} {a:Act} (h:Rel F B ρ w n t a) (k:Nat):Rel F B ρ {w with drawn:=k} n t a∧Ext F B ρ w B ρ {w with drawn:=k}:=by
 have hE:Ext F B ρ w B ρ {w with drawn:=k}:=⟨Nat.le_refl _,rfl,rfl,rfl,fun _ _ ho=>⟨rfl,ho⟩,fun _ _ _ h=>h,Nat.le_refl _,fun _ _ v cs _ h=>⟨v,cs,h,Nat.le_refl _,fun _=>⟨rfl,rfl⟩⟩,fun _ cs Φ _ h=>⟨cs,Φ,h,rfl⟩,fun _ _ _=>rfl⟩
 refine ⟨⟨⟨fun b row v cs hb=>?_,h.inv.leaf,fun b cs Φ hb=>?_,h.inv.injx,h.inv.bound,h.inv.farx,fun g hg=>(h.inv.glob g hg).ext hE,h.inv.off0⟩,fun i=>(h.tm i).ext hE,h.df,h.size⟩,hE⟩
 case refine_2=>
  obtain ⟨k',o,us,g1,g2,g3,g4⟩:=h.inv.obox b cs Φ hb
  exact ⟨k',o,us,g1,Φ.frame _ _ _ _ _ g2 (fun _ _=>rfl),g3,fun i c u h1 h2=>(g4 i c u h1 h2).ext hE⟩
 rcases h.inv.box b row v cs hb with h0 | ⟨k',o,us,e,fr,g1,g2,g3,g4,g5⟩
 ·exact .inl h0
 ·refine .inr ⟨k',o,us,e,fr,g1,g2,g3,g4,fun i c hc=>?_⟩
  obtain ⟨u,f1,f2⟩:=g5 i c hc
  exact ⟨u,f1,f2.ext hE⟩

theorem Pb {Γ:BF} (hm:P.follows .mixedOrders=true) (hΓ:∀ f,SoundF P f (Γ f)) {ops:Array Oper} {n id:Nat} {Q:Exit→Act→World→Prop} {s s':AS} (hok:LJ P Γ ops.toList=true)
  (h:NA P Γ n s.B.length ops.toList ops.toList s=some s') {ρ:Aj} {w:World} {a:Act} (hR:Rel F s.B ρ w n s.t a)
  (hQ:∀ a' w' ρ',Rel F s'.B ρ' w' n s'.t a'→Ext F s.B ρ w s'.B ρ' w'→Q .normal a' w'):(Code.region id ops true).wp P Q a w:=by
 refine wp_region_any hm ?_
 obtain ⟨hR2,hE⟩:=VZ hR (w.drawn+1)
 unfold LJ at hok
 rw[Bool.and_eq_true] at hok
 have:=oc (P:=P) (Γ:=Γ) (n:=n) (n0:=s.B.length) (fin:=s') ops.toList 0 (Array.replicate ops.size false) s (by simp) hok.2 (by simp) (by simp) (fun j oj hoj hl hs=>?_) (fun j hj=>by omega) (fun j _ hj=>by simp at hj; simp[hj]) h
 ·have:=Tc hΓ (Q:=Q) _ _ s this hR2 (fun a' w' ρ' h1 h2=>hQ a' w' ρ' h1 (hE.trans h2))
  simpa using this
 ·simp at hs
  simp[hs] at hl

end Go.Ax
namespace Go.Ax
open Go.RowKit

variable [Glob] {P : Program} {F : Nat → Prop}

def iB (P:Program) (s:AS):ResultVar→Option AV
 | .tmp i=>some (s.t i)
 | .cell a ty=>match s.t a with
  | .ptr b v o=>L0 P ty s.B (.ptr b v o)
  | _=>none

def HU (P:Program) (s:AS):List ResultVar→Option (List AV)
 | []=>some []
 | r::rs=>(iB P s r).bind fun v=>(HU P s rs).map fun vs=>v::vs

def Ui:List AV→AV
 | [v]=>v
 | vs=> .tup vs

def Uj (args:List AV):T:=fun i=>(args[i]?).getD (.p (.v undef))

def resSem (tmps:Array Value):ResultVar→Sem Value
 | .tmp t=>pure (tmps.getD t undef)
 | .cell a t=>do loadVar t (←asAddr (tmps.getD a undef))

theorem lx {s:AS} {ρ:Aj} {w:World} {n:Nat} {a:Act} (hR:Rel F s.B ρ w n s.t a) {r:ResultVar} {v:AV} (h:iB P s r=some v):
  ∃ x,(resSem a.tmps r).run P w= .ok x w∧VRel F s.B ρ w v x:=by
 cases r with
 | tmp i=>cases h; exact ⟨_,rfl,hR.tm i⟩
 | cell b ty=>
  simp only[iB] at h
  split at h
  ·rename_i b' v' o hb
   have hx:=hR.tm b
   rw[hb] at hx
   cases hv:a.tmps.getD b undef with
   | pointer ad=>
    rw[hv] at hx
    cases hx with
    | ptr _ _ _ ad hp=>
     obtain ⟨y,e1,e2⟩:=Qq (P:=P) hR.inv (.ptr _ _ _ _ hp) h
     refine ⟨y,?_,e2⟩
     simp only[resSem,hv,asAddr,Sem.run_bind,Sem.run_pure,Result.andThen_ok]
     simpa [Instr.loadAt,Instr.sureAddr] using e1
   | _=>rw[hv] at hx; cases hx
  ·cases h

theorem Pg {s:AS} {ρ:Aj} {w:World} {n:Nat} {a:Act} (hR:Rel F s.B ρ w n s.t a):∀ (rs:List ResultVar) (vs:List AV),HU P s rs=some vs →
  ∃ us:List Value,(rs.mapM (resSem a.tmps)).run P w= .ok us w∧ArgsRel F s.B ρ w vs us
 | [],vs,h=>by cases h; exact ⟨[],rfl,rfl,fun j p u hp=>by simp at hp⟩
 | r::rs,vs,h=>by
  simp only[HU] at h
  obtain ⟨v,h1,h2⟩:=Option.bind_eq_some_iff.1 h
  obtain ⟨vs',h3,h4⟩:=map_some h2
  subst h4
  obtain ⟨x,e1,e2⟩:=lx hR h1
  obtain ⟨us,e3,e4⟩:=Pg hR rs vs' h3
  refine ⟨x::us,?_,by simp[e4.1],fun j p u hp hu=>?_⟩
  ·rw[List.mapM_cons,Sem.run_bind,e1]
   simp only[Result.andThen_ok,Sem.run_bind]
   rw[e3]
   rfl
  ·cases j with
   | zero=>cases hp; cases hu; exact e2
   | succ j=>exact e4.2 j p u (by simpa using hp) (by simpa using hu)

def iC:List Value→Value
 | [v]=>v
 | vs=> .tuple vs.toArray

theorem YG {fn:Func} {s:AS} {ρ:Aj} {w:World} {n:Nat} {a:Act} (hR:Rel F s.B ρ w n s.t a) {vs:List AV} (h:HU P s fn.results.toList=some vs):
  ∃ x,(results fn a.tmps).run P w= .ok x w∧VRel F s.B ρ w (Ui vs) x:=by
 obtain ⟨us,e1,e2⟩:=Pg hR _ vs h
 have hrun:(results fn a.tmps).run P w= .ok (iC us) w:=by
  have hd:results fn a.tmps=(do let vs ←fn.results.mapM (resSem a.tmps); pure (if h:vs.size=1 then vs[0] else .tuple vs)):=by
   unfold results
   first | rfl | (congr 1; congr 1; funext r; cases r <;> rfl)
  rw[hd,Array.mapM_eq_mapM_toList]
  simp only[Sem.run_bind,Sem.run_map]
  rw[e1]
  match us with
  | []=>rfl
  | [_]=>rfl
  | _::_::_=>simp only[Result.andThen_ok,Sem.run_pure,iC]; rw[dif_neg (by simp)]
 refine ⟨iC us,hrun,?_⟩
 clear hrun e1 h
 match vs,us,e2 with
 | [v],[u],e2=>exact e2.2 0 v u rfl rfl
 | [],[],e2=>exact .tup [] [] rfl (fun j p u hp=>by simp at hp)
 | v1::v2::vr,u1::u2::ur,e2=>exact .tup _ _ e2.1 e2.2
 | [],_::_,e2=>exact absurd e2.1 (by simp)
 | _::_,[],e2=>exact absurd e2.1 (by simp)
 | [_],_::_::_,e2=>exact absurd e2.1 (by simp)
 | _::_::_,[_],e2=>exact absurd e2.1 (by simp)

def Ak (P:Program) (f:FuncId):Bool:=
 match P.funcs[f]? with
 | some fn => fn.body.isSome && fn.name != "runtime.NumGoroutine"
 | none=>false

theorem Ev {f:FuncId} (h:Ak P f=true) (us:Array Value) (w:World):(callFunc f us).run P w= .ok (.enter f us) w:=by
 unfold Ak at h
 split at h
 ·rename_i fn hf
  simp only[Bool.and_eq_true,bne_iff_ne] at h
  obtain ⟨h1,h2⟩:=h
  cases hb:fn.body with
  | none=>rw[hb] at h1; cases h1
  | some c=>simp[callFunc,hf,h2,hb]
 ·cases h

theorem MA (f:FuncId):SoundF P f .none:=fun _ _ _ _ h=>by cases h

end Go.Ax
namespace Go.Ax
open Go.RowKit

variable [Glob] {P : Program} {F : Nat → Prop}

def tk (l:List (Nat×AV)):T:=fun i=>((l.find? fun p=>Nat.beq p.1 i).map (·.2)).getD .u

def AV.low (n:Nat):AV→Bool
 | .u | .p _ | .rp _=>true
 | .ptr b _ _ | .mp b | .op b=>Nat.blt b n
 | .rs b _ _ _ _=>Nat.blt b n
 | .agg cs=>allLow n cs
 | .fn _ cs=>allLow n cs
 | .tup cs=>allLow n cs
 where
 allLow (n:Nat):List AV→Bool
  | []=>true
  | c::cs=>c.low n&&allLow n cs

def Box.low (n:Nat):Box→Bool
 | .dead=>true
 | .cells _ _ cs=>AV.low.allLow n cs
 | .obj _ _=>false

theorem Bw {n:Nat}:∀ {cs:List AV},AV.low.allLow n cs=true→∀ (j:Nat) (c:AV),cs[j]? = some c→c.low n=true
 | [],_,j,c,h=>by simp at h
 | d::cs,hl,j,c,h=>by
  simp only[AV.low.allLow,Bool.and_eq_true] at hl
  cases j with
  | zero=>cases h; exact hl.1
  | succ j=>exact Bw hl.2 j c (by simpa using h)

def AV.ren (f:Nat→Nat):AV→AV
 | .ptr b v o=> .ptr (f b) v o
 | .rs b v z o l=> .rs (f b) v z o l
 | .agg cs=> .agg (renL f cs)
 | .fn g cs=> .fn g (renL f cs)
 | .tup cs=> .tup (renL f cs)
 | .u=> .u
 | .p x=> .p x
 | .rp cs=> .rp cs
 | .mp b=> .mp (f b)
 | .op b=> .op (f b)
 where
 renL (f:Nat→Nat):List AV→List AV
  | []=> []
  | c::cs=>c.ren f::renL f cs

inductive Sealed (S:Nat→Prop) (B:List Box):AV→AV→Prop
 | p (x:PV):Sealed S B (.p x) (.p x)
 | nil:Sealed S B (.p (.v (.slice none 0 0))) (.p (.ls []))
 | row (b ver sz off len:Nat) (row:Bool) (cs:List AV) (xs:List PV):S b→B[b]? = some (.cells row ver cs)→xs.length=len→(xs.flatMap PV.cells).map .p=(cs.drop off).take (len*sz)→off+len*sz≤cs.length →
   Sealed S B (.rs b ver sz off len) (.p (.ls xs))
 | agg (cs ds:List AV):cs.length=ds.length→(∀ (j:Nat) (c d:AV),cs[j]? = some c→ds[j]? = some d→Sealed S B c d)→Sealed S B (.agg cs) (.agg ds)
 | tup (cs ds:List AV):cs.length=ds.length→(∀ (j:Nat) (c d:AV),cs[j]? = some c→ds[j]? = some d→Sealed S B c d)→Sealed S B (.tup cs) (.tup ds)

theorem Sealed.vrel {F' S:Nat→Prop} {B:List Box} {ρ:Aj} {w:World} (hI:Inv F' B ρ w) {x y:AV} (h:Sealed S B x y) {u:Value} (hv:VRel F' B ρ w x u) {O:List Box} {ρ2:Aj} (hsub:∀ k,Own F O ρ2 k→Own F' B ρ k)
  (hsep:∀ b row v cs k o,S b→B[b]? = some (.cells row v cs)→ρ b=some (k,o)→¬Own F O ρ2 k):VRel F O ρ2 w y u:=by
 have hP:∀ (p:PV) (u:Value),PRel (Own F' B ρ) w p u→PRel (Own F O ρ2) w p u:=fun p u hp=>hp.mono (fun k _ ho=>⟨rfl,fun h=>ho (hsub k h)⟩) (Nat.le_refl _)
 induction h generalizing u with
 | p x=>
  cases hv with
  | p _ _ hp=>exact .p _ _ (hP _ _ hp)
 | nil=>
  obtain rfl:=hv.val
  exact .p _ _ (.nil none 0 (.inr rfl))
 | row b ver sz off len row cs xs hS hb hl hxs hle=>
  cases hv with
  | rs _ _ _ _ _ a cap hok=>
   obtain ⟨g1,g2,g3,g4⟩:=hok
   obtain ⟨_,g5⟩:=g4 _ _ _ hb
   obtain ⟨g6,g7⟩:=g5 rfl
   have hflat:(xs.flatMap PV.cells).length=len*sz:=by
    have h1:=congrArg List.length hxs
    rw[List.length_map,List.length_take,List.length_drop] at h1
    omega
   rcases g7 with h0 | ⟨k,o',hr,ha,e',m,hsh,hle2⟩
   ·have hl0:len=0:=by omega
    subst hl0
    have:xs= []:=List.eq_nil_of_length_eq_zero hl
    subst this
    exact .p _ _ (.nil a cap (.inr h0))
   ·subst ha
    obtain ⟨us,e2,fr,q1,q2,q3,q4⟩:=hI.cell hb hr
    have hk:k<w.heap.size:=(Array.getElem?_eq_some_iff.1 q1).1
    rw[←hl]
    refine .p _ _ (.ls xs ⟨k,o'+off,none⟩ cap ((us.toList.drop (o'+off)).take (len*sz)) rfl (hsep _ _ _ _ _ _ hS hb hr) hk (by omega)
     (by rw[hflat,List.length_take,List.length_drop,Array.length_toList]; omega) (fun j u hj=>?_) (fun j p u hp hu=>?_))
    ·rw[List.getElem?_take] at hj
     split at hj
     ·rw[List.getElem?_drop] at hj
      rw[Addr.add_lit,Fw q1]
      simpa using hj
     ·cases hj
    ·rw[List.getElem?_take] at hu
     split at hu
     ·rename_i hjl
      rw[List.getElem?_drop] at hu
      have hp2:((cs.drop off).take (len*sz))[j]? = some (.p p):=by rw[←hxs,List.getElem?_map,hp]; rfl
      rw[List.getElem?_take,if_pos hjl,List.getElem?_drop] at hp2
      obtain ⟨u',f1,f2⟩:=q4 _ _ hp2
      have e3:us[o'+off+j]? = some u:=by simpa using hu
      rw[show o'+(off+j)=o'+off+j by omega,e3] at f1
      cases f1
      cases f2 with
      | p _ _ hp3=>exact hP _ _ hp3
     ·cases hu
 | agg cs ds h1 _ ih=>
  obtain ⟨us,rfl,g1,g2⟩:=hv.agg_inv
  refine .agg ds us (by omega) (fun j d u hd hu=>?_)
  have hj:j<cs.length:=by rw[h1]; exact (List.getElem?_eq_some_iff.1 hd).1
  exact ih j _ d (List.getElem?_eq_getElem hj) hd (g2 j _ u (List.getElem?_eq_getElem hj) hu)
 | tup cs ds h1 _ ih=>
  cases hv with
  | tup _ us g1 g2=>
  refine .tup ds us (by omega) (fun j d u hd hu=>?_)
  have hj:j<cs.length:=by rw[h1]; exact (List.getElem?_eq_some_iff.1 hd).1
  exact ih j _ d (List.getElem?_eq_getElem hj) hd (g2 j _ u (List.getElem?_eq_getElem hj) hu)

def aS (B:List Box) (f:Nat→Nat) (m:Nat) (x y:AV):Prop:=(x=y.ren f∧y.low m=true)∨Sealed (fun b=>∀ j,j<m→f j≠b) B x y

structure Weak (s s':AS) (f:Nat→Nat):Prop where
 t:∀ i,s'.t i= .u∨aS s.B f s'.B.length (s.t i) (s'.t i)
 lt:∀ j,j<s'.B.length→f j<s.B.length
 box:∀ (j:Nat) (row:Bool) (v:Nat) (cs':List AV),s'.B[j]? = some (.cells row v cs')→∃ cs:List AV,s.B[f j]? = some (.cells row v cs)∧cs.length=cs'.length ∧
  ∀ (i:Nat) (c c':AV),cs[i]? = some c→cs'[i]? = some c'→aS s.B f s'.B.length c c'
 inj:∀ i j,i<s'.B.length→j<s'.B.length→f i=f j→i=j
 noobj:∀ (j:Nat) (cs:List AV) (Φ:ObjP),s'.B[j]? ≠ some (.obj cs Φ)

inductive EvX (P:Program) (Γ:BF) (n m0:Nat):Bool→Code→AS→AE→AS→Prop
 | run {c s e s'}:L6 P Γ n c s=some (e,s')→EvX P Γ n m0 false c s e s'
 | seq {a b s s1 e s'}:EvX P Γ n m0 false a s .normal s1→EvX P Γ n m0 false b s1 e s'→EvX P Γ n m0 false (.seq a b) s e s'
 | seqx {a b s e s'}:EvX P Γ n m0 false a s e s'→e≠ .normal→EvX P Γ n m0 false (.seq a b) s e s'
 | cond {c x y s q e s'}:L4 (AR s.t c)=some q→EvX P Γ n m0 false (if q then x else y) s e s'→EvX P Γ n m0 false (.cond c x y) s e s'
 | block {id b s s'}:EvX P Γ n m0 false b s (.exit id) s'→EvX P Γ n m0 false (.block id b) s .normal s'
 | blockx {id b s e s'}:EvX P Γ n m0 false b s e s'→e≠ .exit id→EvX P Γ n m0 false (.block id b) s e s'
 | loop {b s e s'}:EvX P Γ n m0 true b s e s'→EvX P Γ n m0 false (.loop b) s e s'
 | next {b s s1 e s'}:EvX P Γ n m0 false b s .normal s1→EvX P Γ n m0 true b s1 e s'→EvX P Γ n m0 true b s e s'
 | leave {b s e s'}:EvX P Γ n m0 false b s e s'→e≠ .normal→EvX P Γ n m0 true b s e s'
 | weak {q c s s1 e s' f}:Weak s s1 f→(∀ j,j<m0→f j=j)→m0≤s1.B.length→EvX P Γ n m0 q c s1 e s'→EvX P Γ n m0 q c s e s'
 | weakr {q c s s1 e s' f}:EvX P Γ n m0 q c s e s1→Weak s1 s' f→(∀ j,j<m0→f j=j)→m0≤s'.B.length→EvX P Γ n m0 q c s e s'

abbrev xD (P:Program) (Γ:BF) (n m0:Nat):=EvX P Γ n m0 false
def kw (P:Program) (c:Code) (Q:Exit→Act→World→Prop) (a:Act) (w:World):Prop:=
 ∀ (b:Frame) (k:List Item) (cs:List Frame),∃ e a' w',Q e a' w'∧Arrives P (lone (b.at a (.code c:: .inLoop c::k)) cs w) b k cs e a' w'

theorem dg {c:Code} {Q:Exit→Act→World→Prop} {a:Act} {w:World} (h:kw P c Q a w):(Code.loop c).wp P Q a w:=by
 intro b k cs
 obtain ⟨e,a',w',hq,harr⟩:=h b k cs
 exact ⟨e,a',w',hq, .of_steps (.one step_loop) harr⟩

theorem dh {c:Code} {Q:Exit→Act→World→Prop} {a:Act} {w:World} (h:c.wp P (Exit.then (kw P c Q) Q) a w):kw P c Q a w:=by
 intro b k cs
 obtain ⟨e,a₁,w₁,hq,harr⟩:=h b (.inLoop c::k) cs
 cases e with
 | normal=>
  obtain ⟨e₂,a₂,w₂,hq₂,harr₂⟩:=hq b k cs
  exact ⟨e₂,a₂,w₂,hq₂, .of_steps (Steps.trans harr (.one step_inLoop)) harr₂⟩
 | exit id=>exact ⟨_,a₁,w₁,hq, .pass (x:= .inLoop c) rfl (fun _ _=> .inl (by simp)) harr⟩
 | goto l=>exact ⟨_,a₁,w₁,hq, .pass (x:= .inLoop c) rfl (fun _ _=> .inl (by simp)) harr⟩
 | ret=>exact ⟨_,a₁,w₁,hq, .pass (x:= .inLoop c) rfl (fun _ _=> .inl (by simp)) harr⟩
 | panic ch=>exact ⟨_,a₁,w₁,hq, .pass (x:= .inLoop c) rfl (fun _ _=> .inl (by simp)) harr⟩
 | outgrown=>exact ⟨_,a₁,w₁,hq, .pass (x:= .inLoop c) rfl (fun _ _=> .inl (by simp)) harr⟩

def wR (P:Program) (q:Bool) (c:Code) (Q:Exit→Act→World→Prop) (a:Act) (w:World):Prop:=match q with
 | false=>c.wp P Q a w
 | true=>kw P c Q a w

/-- Without boxes only what is far is owned. -/
theorem OW {ρ:Aj} {k:Nat} (h:Own F [] ρ k):F k:=by
 rcases h with h | ⟨b,x,l,h,_⟩
 ·exact h
 ·simp at h

theorem VRel.nobox {B:List Box} {ρ:Aj} {w:World} {x:AV} {u:Value} (h:VRel F B ρ w x u) (hf:x.low 0=true) (ρ2:Aj):VRel (Own F B ρ) [] ρ2 w x u:=by
 have hP:∀ (p:PV) (u:Value),PRel (Own F B ρ) w p u→PRel (Own (Own F B ρ) [] ρ2) w p u:=fun p u hp=>hp.mono (fun k _ ho=>⟨rfl,fun h=>ho (OW h)⟩) (Nat.le_refl _)
 induction h with
 | u x=>exact .u x
 | p x y hp=>exact .p x y (hP _ _ hp)
 | mp b r hp=>simp[AV.low] at hf
 | op b r hp=>simp[AV.low] at hf
 | ptr b ver o a hp=>simp[AV.low] at hf
 | rs b ver sz off len a cap hp=>simp[AV.low] at hf
 | rp cs a us h1 h2 h3 h4 h5 h6=>exact .rp cs a us h1 (fun h=>h2 (OW h)) h3 h4 h5 (fun j p u hp hu=>hP _ _ (h6 j p u hp hu))
 | agg cs us h1 _ ih=>exact .agg cs us h1 (fun j p u hp hu=>ih j p u hp hu (Bw (by simpa [AV.low] using hf) j p hp))
 | fn f cs us h1 _ ih=>exact .fn f cs us h1 (fun j p u hp hu=>ih j p u hp hu (Bw (by simpa [AV.low] using hf) j p hp))
 | tup cs us h1 _ ih=>exact .tup cs us h1 (fun j p u hp hu=>ih j p u hp hu (Bw (by simpa [AV.low] using hf) j p hp))

theorem GRel.nobox {B:List Box} {ρ:Aj} {w:World} {g:Nat} (h:GRel F B ρ w g) (ρ2:Aj):GRel (Own F B ρ) [] ρ2 w g:=⟨h.v.nobox rfl ρ2,h.sz⟩

theorem Inv.ownlt {B:List Box} {ρ:Aj} {w:World} (hI:Inv F B ρ w) (k:Nat) (h:Own F B ρ k):k<w.heap.size:=by
 rcases h with h | ⟨b,x,l,g1,g2,g3⟩
 ·exact hI.bound k h
 ·exact hI.haslt g1 g2 g3

theorem ly {B:List Box} {ρ:Aj} {w:World} (hI:Inv F B ρ w) (ρ2:Aj):Inv (Own F B ρ) [] ρ2 w:=⟨fun b row v cs h=>by simp at h,fun b row v cs h=>by simp at h,fun b cs Φ h=>by simp at h,fun b b' x x' l l' k h=>by simp at h,fun k h=>hI.ownlt k h,fun b x l k h=>by simp at h,fun g hg=>(hI.glob g hg).nobox ρ2,fun b v cs k o h=>by simp at h⟩

theorem LL {B:List Box} {ρ:Aj} {w w':World} (h1:w.heap.size≤w'.heap.size) (h2:w'.os=w.os) (h3:w'.tape=w.tape) (h4:w'.output=w.output) (h5:∀ k e n,w.shape? k=some (e,n)→w'.shape? k=some (e,n))
  (hh:∀ k,k<w.heap.size→w'.heap[k]? = w.heap[k]?) (hI:Inv F B ρ w):Ext F B ρ w B ρ w'∧Inv F B ρ w':=by
 have hE:Ext F B ρ w B ρ w':=⟨h1,h2,h3,h4,fun k hk ho=>⟨hh k hk,ho⟩,h5,Nat.le_refl _,fun _ _ v cs _ hc=>⟨v,cs,hc,Nat.le_refl _,fun _=>⟨rfl,rfl⟩⟩,fun _ cs Φ _ hc=>⟨cs,Φ,hc,rfl⟩,fun k _ hk=>hh k hk⟩
 refine ⟨hE,⟨fun b row v cs hb=>?_,hI.leaf,fun b cs Φ hb=>?_,hI.injx,fun k hF=>Nat.lt_of_lt_of_le (hI.bound k hF) h1,hI.farx,fun g hg=>(hI.glob g hg).ext hE,hI.off0⟩⟩
 case refine_2=>
  obtain ⟨k',o,us,g1,g2,g3,g4⟩:=hI.obox b cs Φ hb
  exact ⟨k',o,us,g1,Φ.frame _ _ _ _ _ g2 (fun j hj=>hh j (Φ.low _ _ _ _ j g2 hj)),g3,fun i c u h1 h2=>(g4 i c u h1 h2).ext hE⟩
 rcases hI.box b row v cs hb with h0 | ⟨k,o,us,e,fr,g1,g2,g3,g4,g5⟩
 ·exact .inl h0
 ·have hk:k<w.heap.size:=(Array.getElem?_eq_some_iff.1 g2).1
  refine .inr ⟨k,o,us,e,fr,g1,(hh k hk).trans g2,g3,g4,fun i c hc=>?_⟩
  ·obtain ⟨u,f1,f2⟩:=g5 i c hc
   exact ⟨u,f1,f2.ext hE⟩

structure FnEv (P:Program) (Γ:BF) (fn:Func) (args:List AV) (B:List Box) (s:AS) (vs:List AV):Prop where
 le:Nat.ble args.length fn.ntmps=true
 ev:∃ c e,fn.body=some c∧xD P Γ fn.ntmps B.length c ⟨Uj args,B⟩ e s∧(e= .ret∨e= .normal)
 res:HU P s fn.results.toList=some vs

end Go.Ax
namespace Go.Ax
open Go.RowKit
variable [Glob]

inductive Orc where
 | bool (d:Nat) (q:Bool)
 | int (d:Nat) (x:Int)
 | val (d:Nat) (v:AV) (B:Option (List Box))
 | elem (d:Nat) (x:PV)
 | call (d:Nat) (v:AV)
 | weak (l:List (Nat×AV)) (B:List Box) (f:List Nat)
 | weakT (l:List (Nat×AV))
 | weakR (r:Nat) (l:List (Nat×AV)) (B:List Box) (f:List Nat)
 | loop (e:AE) (l:List (Nat×AV)) (B:List Box)

def QD (fl:List Nat) (j:Nat):Nat:=(fl[j]?).getD 0

def DO:List Nat→Bool
 | []=>true
 | x::r=> !(r.any (Nat.beq x))&&DO r

theorem Td:∀ {fl:List Nat},DO fl=true→∀ i j,i<fl.length→j<fl.length→QD fl i=QD fl j→i=j
 | [],_,i,_,h,_,_=>by simp at h
 | x::r,hd,i,j,hi,hj,e=>by
  simp only[DO,Bool.and_eq_true,Bool.not_eq_true',List.any_eq_false] at hd
  have at0:∀ k,k<r.length→QD (x::r) (k+1)≠x:=fun k hk he=>by
   have:QD (x::r) (k+1)=r[k]:=by simp[QD,hk]
   rw[this] at he
   exact hd.1 x (he▸List.getElem_mem hk) (Nat.beq_refl x)
  cases i with
  | zero=>
   cases j with
   | zero=>rfl
   | succ j=>exact (at0 j (by simpa using hj) (by rw[←e]; rfl)).elim
  | succ i=>
   cases j with
   | zero=>exact (at0 i (by simpa using hi) (by rw[e]; rfl)).elim
   | succ j=>
    have:=Td hd.2 i j (by simpa using hi) (by simpa using hj) (by simpa [QD] using e)
    omega

theorem tk_get (l:List (Nat×AV)) (i:Nat):tk l i= .u∨∃ (j:Nat) (v:AV),l[j]? = some (i,v)∧tk l i=v:=by
 unfold tk
 cases h:l.find? (fun p=>Nat.beq p.1 i) with
 | none=>exact .inl rfl
 | some p=>
  have h1:=List.find?_some h
  have h2:=List.mem_of_find?_eq_some h
  obtain ⟨j,hj⟩:=List.getElem?_of_mem h2
  obtain ⟨a,v⟩:=p
  have:a=i:=Nat.eq_of_beq_eq_true h1
  subst this
  exact .inr ⟨j,v,hj,rfl⟩

variable (P : Program) (Γ : BF) (n m0 : Nat)

def kx (draw:Option Nat) (ops:List Oper) (o:Op) (s:AS):Bool:=
 match draw with
 | none=>true
 | some n0=>Fb (clsOf P Γ ops o) n0 s.t o&&(clsOf P Γ ops o != .wi||Nat.ble n0 s.B.length)

variable {P Γ n m0}

variable (P Γ n m0)

variable {P Γ n m0}

end Go.Ax
namespace Go.Ax
open Go.RowKit

abbrev vn (k:IntKind) (x:Int):AV:= .p (.v (.int k x))
abbrev vi (x:Int):AV:= .p (.v (.int .i64 x))
abbrev vb (b:Bool):AV:= .p (.v (.bool b))
abbrev vs (s:ByteArray):AV:= .p (.v (.string s))
abbrev vl (xs:List PV):AV:= .p (.ls xs)
abbrev AI:AV:= .p (.v (.slice none 0 0))

def Ph:List Bool→Code→Code
 | [],c=>c
 | b::r, .seq x y=>Ph r (if b then y else x)
 | b::r, .cond _ x y=>Ph r (if b then y else x)
 | _::r, .block _ x=>Ph r x
 | _::r, .loop x=>Ph r x
 | _,c=>c

def Gz (f:Func):Code:=f.body.getD .skip

def rowC (xs:List PV):List AV:=(xs.flatMap PV.cells).map .p

variable [Glob]

open Classical in
noncomputable def B4 (R:List AV→AV→Prop):List AV→Option AV:=fun args=>if h:∃ r,R args r then some (Classical.choose h) else none

theorem IU {R:List AV→AV→Prop} {args:List AV} {r:AV} (h:B4 R args=some r):R args r:=by
 unfold B4 at h
 split at h
 ·rename_i hx; cases h; exact Classical.choose_spec hx
 ·cases h

theorem BT {R:List AV→AV→Prop} (hd:∀ args r r',R args r→R args r'→r=r') {args:List AV} {r:AV} (h:R args r):B4 R args=some r:=by
 have hx:∃ r,R args r:=⟨r,h⟩
 unfold B4
 rw[dif_pos hx]
 exact congrArg some (hd _ _ _ (Classical.choose_spec hx) h)

theorem HV {m:Nat} {x:AV} (h:x.low 0=true):x.low m=true:=by
 induction x using AV.rec (motive_2:=fun cs=>AV.low.allLow 0 cs=true→AV.low.allLow m cs=true) with
 | u=>rfl
 | mp b=>simp[AV.low] at h
 | op b=>simp[AV.low] at h
 | p x=>rfl
 | ptr b v o=>simp[AV.low] at h
 | rs b v z o l=>simp[AV.low] at h
 | rp cs=>rfl
 | agg cs ih=>exact ih h
 | fn g cs ih=>exact ih h
 | tup cs ih=>exact ih h
 | nil=>rfl
 | cons c cs h1 h2=>
  rename_i h
  simp only[AV.low.allLow,Bool.and_eq_true] at h ⊢
  exact ⟨h1 h.1,h2 h.2⟩

variable {P : Program}

structure Elt (α:Type) (f:α→PV) (sz:Nat):Prop where
 size:∀ a,(f a).cells.length=sz
 leaf:∀ a,(f a).cells.all PV.leaf=true

variable {α : Type} {f : α → PV} {sz : Nat}

theorem Elt.all (h:Elt α f sz) (L:List α):((L.map f).all fun y=>y.cells.length == sz)=true:=by
 rw[List.all_eq_true]
 intro y hy
 obtain ⟨a,_,rfl⟩:=List.mem_map.1 hy
 simp[h.size a]

theorem Elt.flat (h:Elt α f sz) (L:List α):((L.map f).flatMap PV.cells).length=L.length*sz:=by
 induction L with
 | nil=>simp
 | cons a L ih=>rw[List.map_cons,List.flatMap_cons,List.length_append,h.size,ih,List.length_cons,Nat.succ_mul]; omega

theorem Elt.rowLen (h:Elt α f sz) (L:List α):(rowC (L.map f)).length=L.length*sz:=by rw[rowC,List.length_map,h.flat]

theorem Elt.rowLeaf (h:Elt α f sz) (L:List α):(rowC (L.map f)).all AV.leaf=true:=by
 rw[List.all_eq_true]
 intro x hx
 obtain ⟨p,hp,rfl⟩:=List.mem_map.1 hx
 obtain ⟨y,hy,hp⟩:=List.mem_flatMap.1 hp
 obtain ⟨a,_,rfl⟩:=List.mem_map.1 hy
 exact List.all_eq_true.1 (h.leaf a) p hp

theorem Kv (xs ys:List PV):rowC (xs++ys)=rowC xs++rowC ys:=by simp[rowC]

theorem Ge (m:Nat) (xs:List PV):AV.low.allLow m (rowC xs)=true:=by
 unfold rowC
 induction xs.flatMap PV.cells with
 | nil=>rfl
 | cons x r ih=>simp only[List.map_cons,AV.low.allLow,ih,AV.low,Bool.and_self]

theorem Elt.shutRow (h:Elt α f sz) {B:List Box} {g:Nat→Nat} {m b ver:Nat} {row:Bool} {L:List α} (hS:∀ j,j<m→g j≠b) (hb:B[b]? = some (.cells row ver (rowC (L.map f)))):aS B g m (.rs b ver sz 0 L.length) (vl (L.map f)):=by
 refine .inr (.row b ver sz 0 L.length row _ _ hS hb (by simp) ?_ (by rw[h.rowLen]; omega))
 rw[List.drop_zero,←h.rowLen,List.take_length]
 rfl

theorem Elt.sealed (h:Elt α f sz) {B:List Box} {S:Nat→Prop} {b ver:Nat} {row:Bool} {L:List α} (hS:S b) (hb:B[b]? = some (.cells row ver (rowC (L.map f)))):Sealed S B (.rs b ver sz 0 L.length) (vl (L.map f)):=by
 refine .row b ver sz 0 L.length row _ _ hS hb (by simp) ?_ (by rw[h.rowLen]; omega)
 rw[List.drop_zero,←h.rowLen,List.take_length]
 rfl

structure RowTy (P:Program) (t e:TypeId) (sz bytes:Nat):Prop where
 elem:C2 P t=some e
 size:BU P e=some sz
 byts:(P.info? e).map (·.bytes)=some bytes
 zero:(Nat.beq sz 0||Nat.beq bytes 0|| !((EF P e).map (·.length) == some sz)|| !((EF P e).map (·.all AV.leaf) == some true))=false

theorem RowTy.und {t e bytes:Nat} (h:RowTy P t e sz bytes):P.underlying t=some (.slice e):=CY h.elem

theorem od (h:Elt α f sz) {t e bytes:Nat} (ht:RowTy P t e sz bytes) {B:List Box} (L:List α):E1 P t B sz (vl (L.map f))=some (L.length,rowC (L.map f)):=by
 unfold E1
 rw[ht.und]
 simp only
 rw[if_pos (h.all L)]
 simp[rowC]

theorem aT (h:Elt α f sz) {t tx e bytes:Nat} (ht:RowTy P t e sz bytes) {B:List Box} {b v:Nat} {X Y:List α} {src:AV} (hb:B[b]? = some (.cells true v (rowC (X.map f)))) (hs:E1 P tx B sz src=some (Y.length,rowC (Y.map f)))
  (hl:((X++Y).length:Int)≤1000000000) (hbytes:bytes≤140000):Gd P t tx B (.rs b v sz 0 X.length) src=some (.rs b (v+1) sz 0 (X++Y).length,B.set b (.cells true (v+1) (rowC ((X++Y).map f)))):=by
 unfold Gd
 rw[ht.elem]
 simp only[Option.bind_some,ht.size]
 rw[ht.byts]
 simp only[Option.bind_some]
 rw[if_neg (by rw[ht.zero]; simp),hs]
 simp only[Option.bind_some]
 rw[if_neg (by rw[h.rowLeaf,h.rowLen]; simp)]
 simp only[hb,Nat.beq_refl,beq_self_eq_true,Bool.and_self,Bool.true_and]
 have hle:(X.length+Y.length)*bytes≤140737488355328:=by
  have h1:X.length+Y.length≤1000000000:=by simp at hl; omega
  exact Nat.le_trans (Nat.mul_le_mul h1 hbytes) (by decide)
 rw[if_pos (by rw[Nat.ble_eq]; exact hle),List.drop_zero,←h.rowLen,List.take_length,←Kv,List.map_append,List.length_append]

theorem append_nil (h:Elt α f sz) {t tx e bytes:Nat} (ht:RowTy P t e sz bytes) {B:List Box} {Y:List α} {src:AV} (hs:E1 P tx B sz src=some (Y.length,rowC (Y.map f)))
  (hl:(Y.length:Int)≤1000000000) (hbytes:bytes≤140000):Gd P t tx B AI src=some (.rs B.length 0 sz 0 Y.length,B++ [.cells true 0 (rowC (Y.map f))]):=by
 unfold Gd
 rw[ht.elem]
 simp only[Option.bind_some,ht.size]
 rw[ht.byts]
 simp only[Option.bind_some]
 rw[if_neg (by rw[ht.zero]; simp),hs]
 simp only[Option.bind_some]
 rw[if_neg (by rw[h.rowLeaf,h.rowLen]; simp)]
 have hle:Y.length*bytes≤140737488355328:=by
  have h1:Y.length≤1000000000:=by omega
  exact Nat.le_trans (Nat.mul_le_mul h1 hbytes) (by decide)
 rw[if_pos (by rw[Nat.ble_eq]; exact hle)]

theorem wrap_i64 {x:Int} (h: -9223372036854775808≤x∧x<9223372036854775808):IntKind.i64.wrap x=x:=by
 simp[IntKind.wrap,IntKind.bits,IntKind.signed]
 omega

end Go.Ax
namespace Go.Ax
open Go.RowKit
variable [Glob]

variable {P : Program}

end Go.Ax
namespace Go.Ax
open Go.RowKit
variable [Glob]

variable {P : Program}

def noF:Nat→Prop:=fun _=>False

theorem SM {ρ:Aj} {k:Nat}:¬Own noF [] ρ k:=fun h=>OW h

def Uk (w:World):Prop:=∀ g,Glob.tab g≠ []→∀ ρ,GRel noF [] ρ w g

theorem wS (ρ:Aj) (w:World) (hg:Uk w):Inv noF [] ρ w:=
 ⟨fun b row v cs h=>by simp at h,fun b row v cs h=>by simp at h,fun b cs Φ h=>by simp at h,fun b b' x x' l l' k h=>by simp at h,fun k h=>h.elim,fun b x l k h=>by simp at h,fun g h=>hg g h ρ,fun b v cs k o h=>by simp at h⟩

theorem iD {f:Nat} {g:List AV→Option AV} (hs:SoundF P f (.pure g)) (he:Ak P f=true) {args:List AV} {r:AV} (hg:g args=some r) {us:List Value} {W:World} (hA:ArgsRel noF [] (fun _=>none) W args us) (hg':Uk W):
  Calls P f us.toArray W fun e w'=>∃ v ρ,e= .returned v∧Below W.heap.size W w'∧VRel noF [] ρ w' r v:=by
 have hrun:(FSpec.pure g).run args []=some (r,[]):=by simp[FSpec.run,hg]
 have fin:∀ e w',aQ noF [] (fun _=>none) W r [] e w'→∃ v ρ,e= .returned v∧Below W.heap.size W w'∧VRel noF [] ρ w' r v:=by
  rintro e w' ⟨v,ρ,rfl,_,hE,hv⟩
  exact ⟨v,ρ,rfl,⟨hE.os,hE.tape,hE.output,hE.size,fun k hk=>(hE.keep k hk SM).1⟩,hv⟩
 rcases hs args [] r [] hrun noF (fun _=>none) W us (wS _ _ hg') hA with ⟨_,h⟩ | ⟨v,w',h,hp⟩
 ·exact h.mono fin
 ·have:=Ev he us.toArray W
  rw[this] at h
  cases h

theorem Va {α:Type} {f:α→PV} {sz:Nat} (he:Elt α f sz) {R:PV→Value→Prop}:∀ (L:List α) (css:List (List Value)),L.length=css.length →
  (∀ (i:Nat) (a:α) (cs:List Value),L[i]? = some a→css[i]? = some cs→cs.length=sz∧∀ (r:Nat) (p:PV) (u:Value),(f a).cells[r]? = some p→cs[r]? = some u→R p u) →
  ((L.map f).flatMap PV.cells).length=css.flatten.length∧(∀ (j:Nat) (p:PV) (u:Value),((L.map f).flatMap PV.cells)[j]? = some p→css.flatten[j]? = some u→R p u)
 | [],css,hl,h=>by
  have:css= []:=List.eq_nil_of_length_eq_zero (by simpa using hl.symm)
  subst this
  exact ⟨rfl,fun j p u hp=>by simp at hp⟩
 | a::L,css,hl,h=>by
  cases css with
  | nil=>simp at hl
  | cons cs css=>
   obtain ⟨g1,g2⟩:=h 0 a cs rfl rfl
   obtain ⟨i1,i2⟩:=Va he L css (by simpa using hl) (fun i b ds hb hd=>h (i+1) b ds (by simpa using hb) (by simpa using hd))
   have hs:=he.size a
   refine ⟨by rw[List.map_cons,List.flatMap_cons,List.flatten_cons,List.length_append,List.length_append,i1]; omega,fun j p u hp hu=>?_⟩
   rw[List.map_cons,List.flatMap_cons,List.getElem?_append] at hp
   rw[List.flatten_cons,List.getElem?_append] at hu
   split at hp
   ·rw[if_pos (by omega)] at hu
    exact g2 j p u hp hu
   ·rw[if_neg (by omega)] at hu
    rw[hs] at hp
    rw[g1] at hu
    exact i2 _ p u hp hu

theorem Te {w:World} {a:Addr} {sz:Nat}:∀ (css:List (List Value)) (k:Nat),(∀ (i:Nat) (cs:List Value),css[i]? = some cs→cs.length=sz∧∀ (r:Nat) (u:Value),cs[r]? = some u→w.cell? (a.add ((k+i)*sz+r))=some u) →
  ∀ (j:Nat) (u:Value),css.flatten[j]? = some u→w.cell? (a.add (k*sz+j))=some u
 | [],_,_,j,u,h=>by simp at h
 | cs::css,k,h,j,u,hu=>by
  obtain ⟨g1,g2⟩:=h 0 cs rfl
  rw[List.flatten_cons,List.getElem?_append] at hu
  split at hu
  ·have:=g2 j u hu
   simpa using this
  ·have:=Te css (k+1) (fun i ds hd=>by
    have:=h (i+1) ds (by simpa using hd)
    rw[show k+1+i=k+(i+1) by omega]
    exact this) _ u hu
   rw[show k*sz+j=(k+1)*sz+(j - cs.length) by rw[Nat.succ_mul]; omega]
   exact this

theorem aU {H:Type} {enc:TypeId×Value→H} {w:World} {base:Nat} {spare:Nat→Bool} {held:Bool} {O:Nat→Prop} (hO:∀ k,¬O k) {t e:TypeId} (ht:P.underlying t=some (.slice e)) {α:Type} {f:α→PV} {sz:Nat} (he:Elt α f sz) (hpos:0<sz) (hc:P.cellsOf e=sz) {Q:α→Prop}
  (hel:∀ n cs' y,DataW.trod enc P w base spare held n e cs'=some y→∃ a:α,Q a∧cs'.length=sz∧∀ (r:Nat) (p:PV) (u:Value),(f a).cells[r]? = some p→cs'[r]? = some u→PRel O w p u)
  {fuel:Nat} {v:Value} {x:DataW H×List MemPlace} (h:DataW.trod enc P w base spare held fuel t [v]=some x):∃ L:List α,(∀ a∈L,Q a)∧L.length≤maxLen∧PRel O w (.ls (L.map f)) v:=by
 rcases Deep.open_slice ht h with ⟨h1,_⟩ | ⟨a,len,cap,m,n,D,Pl,h1,hb,hl,hcm,hmm,_,hx⟩
 ·cases h1
  exact ⟨[],fun a ha=>by simp at ha,Nat.zero_le _, .nil none 0 (.inr rfl)⟩
 ·cases h1
  rw[hc] at hx
  have hlm:len≤m:=by rw[hmm]; split <;> omega
  have hx2:∀ i,i<len→∃ q:List Value×α,w.cells? base (a.add (i*sz)) sz=some q.1∧Q q.2∧q.1.length=sz∧∀ (r:Nat) (p:PV) (u:Value),(f q.2).cells[r]? = some p→q.1[r]? = some u→PRel O w p u:=by
   intro i hi
   obtain ⟨cs',g1,g2⟩:=hx i (by omega)
   obtain ⟨b,g3,g4⟩:=hel _ _ _ g2
   exact ⟨(cs',b),g1,g3,g4⟩
  obtain ⟨qs,q1,q2⟩:=Pd len (fun i (q:List Value×α)=>w.cells? base (a.add (i*sz)) sz=some q.1∧Q q.2∧q.1.length=sz∧∀ (r:Nat) (p:PV) (u:Value),(f q.2).cells[r]? = some p→q.1[r]? = some u→PRel O w p u) hx2
  refine ⟨qs.map (·.2),fun b hb=>?_,by rw[List.length_map,q1]; exact Nat.le_trans hl hcm,?_⟩
  ·obtain ⟨q,hq,rfl⟩:=List.mem_map.1 hb
   obtain ⟨i,hi⟩:=List.getElem?_of_mem hq
   exact (q2 i q hi).2.1
  ·obtain ⟨f1,f2⟩:=Va he (R:=PRel O w) (qs.map (·.2)) (qs.map (·.1)) (by simp) (fun i b cs hb' hcs=>by
    rw[List.getElem?_map] at hb' hcs
    cases hq:qs[i]? with
    | none=>rw[hq] at hb'; cases hb'
    | some q=>
     rw[hq] at hb' hcs
     cases hb'
     cases hcs
     exact (q2 i q hq).2.2)
   have hcell:∀ (j:Nat) (u:Value),((qs.map (·.1)).flatten)[j]? = some u→w.cell? (a.add j)=some u:=by
    intro j u hu
    have:=Te (w:=w) (a:=a) (sz:=sz) (qs.map (·.1)) 0 (fun i cs hcs=>by
     rw[List.getElem?_map] at hcs
     cases hq:qs[i]? with
     | none=>rw[hq] at hcs; cases hcs
     | some q=>
      rw[hq] at hcs
      cases hcs
      obtain ⟨g1,_,g3,_⟩:=q2 i q hq
      obtain ⟨_,_,g5⟩:=World.cells?_some g1
      refine ⟨g3,fun r u hr=>?_⟩
      have hr':r<sz:=by rw[←g3]; exact (List.getElem?_eq_some_iff.1 hr).1
      have:=g5 r hr'
      rw[Deep.add_add] at this
      rw[Nat.zero_add,this]
      exact hr) j u hu
    simpa using this
   by_cases h0:len=0
   ·have:qs= []:=List.eq_nil_of_length_eq_zero (by omega)
    subst this
    subst h0
    exact .nil (some a) cap (.inl rfl)
   ·have hfl:0<((qs.map (·.1)).flatten).length:=by
     rw[←f1,he.flat]
     exact Nat.mul_pos (by simp; omega) hpos
    have hc0:=hcell 0 _ (List.getElem?_eq_getElem hfl)
    have hsp:a.spot=none:=by
     have:=World.cell?_spot hc0
     simpa [Addr.add] using this
    have hlt:a.block<w.heap.size:=by
     unfold World.cell? at hc0
     simp only[Addr.add,if_true] at hc0
     split at hc0
     ·rename_i hh; exact (Array.getElem?_eq_some_iff.1 hh).1
     ·cases hc0
    have hlen:(List.map f (qs.map (·.2))).length=len:=by simp[q1]
    rw[←hlen]
    exact .ls _ a cap _ hsp (hO _) hlt (by omega) f1 hcell f2

theorem Tf {H:Type} {enc:TypeId×Value→H} {w:World} {base:Nat} {spare:Nat→Bool} {held:Bool} {O:Nat→Prop} (hO:∀ k,¬O k) {t e:TypeId} (ht:P.underlying t=some (.slice e)) {α:Type} {f:α→PV} {sz:Nat} (he:Elt α f sz) (hpos:0<sz) (hc:P.cellsOf e=sz) {Q:α→Prop}
  (hel:∀ n cs' y,DataW.trod enc P w base spare held n e cs'=some y→∃ a:α,Q a∧cs'.length=sz∧∀ (r:Nat) (p:PV) (u:Value),(f a).cells[r]? = some p→cs'[r]? = some u→PRel O w p u)
  {fuel:Nat} {v:Value} {x:DataW H×List MemPlace} (h:DataW.trod enc P w base spare held fuel t [v]=some x):∃ L:List α,(∀ a∈L,Q a)∧PRel O w (.ls (L.map f)) v:=by
 obtain ⟨L,a,_,b⟩:=aU hO ht he hpos hc hel h
 exact ⟨L,a,b⟩

end Go.Ax
namespace Go.Ax
open Go.RowKit
variable [Glob]

variable {P : Program}

variable {α : Type} {f : α → PV} {sz : Nat}

theorem Elt.flatGet (h:Elt α f sz):∀ (L:List α) (i k:Nat) (a:α),L[i]? = some a→k<sz→((L.map f).flatMap PV.cells)[i*sz+k]? = (f a).cells[k]?
 | [],i,k,a,hi,_=>by simp at hi
 | x::L,i,k,a,hi,hk=>by
  rw[List.map_cons,List.flatMap_cons,List.getElem?_append]
  cases i with
  | zero=>
   cases hi
   rw[if_pos (by rw[h.size]; omega)]
   simp
  | succ i=>
   rw[if_neg (by rw[h.size,Nat.succ_mul]; omega),h.size,show (i+1)*sz+k - sz=i*sz+k by rw[Nat.succ_mul]; omega]
   exact h.flatGet L i k a (by simpa using hi) hk

end Go.Ax
