/- A region that draws its order: every order comes to what the text's order comes to. -/
import Derived.Test.YtddkloofiknjdaaDoorG9
import Derived.ProofKit
import Derived.Deep.Slices
import Derived.OpenShut
set_option linter.unusedVariables false
set_option linter.unusedSimpArgs false
set_option linter.unusedSectionVars false
namespace Go.Ax
open Go.RowKit

variable [Glob] {P : Program} {F : Nat → Prop}

theorem opA_congr {Γ:Env} {t t':T} {B:List Box} {op:Op} (h:∀ x∈op.operands,evalA t x=evalA t' x):opA P Γ t B op=opA P Γ t' B op:=by
 have arr:∀ (xs:Array Operand),(∀ x∈xs,evalA t x=evalA t' x)→xs.toList.map (evalA t)=xs.toList.map (evalA t'):=by
  intro xs hx
  exact List.map_congr_left fun x hxm=>hx x (by simpa using hxm)
 have opt:∀ (q:Option Operand),(∀ x∈q,evalA t x=evalA t' x)→q.map (evalA t)=q.map (evalA t'):=by
  intro q hq
  cases q with
  | none=>rfl
  | some q=>simp[hq q rfl]
 have parts:∀ (ps:Array (Nat×Operand)),(∀ x∈(ps.toList.map (·.2)).toArray,evalA t x=evalA t' x)→(ps.toList.map fun q=>(q.1,evalA t q.2))=(ps.toList.map fun q=>(q.1,evalA t' q.2)):=by
  intro ps hp
  refine List.map_congr_left fun q hq=>?_
  rw[hp q.2 (by simpa using ⟨q.1,by simpa using hq⟩)]
 cases op <;> simp only[opA]
 case move x=>rw[h x (by simp[Op.operands])]
 case assign x=>rw[h x (by simp[Op.operands])]
 case pick c a b=>rw[h c (by simp[Op.operands]),h a (by simp[Op.operands]),h b (by simp[Op.operands])]
 case box e x=>rw[h x (by simp[Op.operands])]
 case build ty ps=>rw[parts ps h]
 case buildSlice ty len ps=>rw[parts ps h]
 case makeSlice ty l c=>rw[h l (by simp[Op.operands]),h c (by simp[Op.operands])]
 case load ty x=>rw[h x (by simp[Op.operands])]
 case store ty x y=>rw[h x (by simp[Op.operands]),h y (by simp[Op.operands])]
 case nilCheck x=>rw[h x (by simp[Op.operands])]
 case binOp op ty x y yt=>rw[h x (by simp[Op.operands]),h y (by simp[Op.operands])]
 case unOp op ty x=>rw[h x (by simp[Op.operands])]
 case convert s d x=>rw[h x (by simp[Op.operands])]
 case makeFunc f first cap=>
  cases f with
  | func f=>simp only[arr cap (fun x hx=>h x (by simp[Op.operands,hx]))]
  | _=>rfl
 case slice ty x lo hi mx=>
  cases mx with
  | some m=>simp only[h x (by simp[Op.operands]),h m (by simp[Op.operands]),opt lo (fun y hy=>h y (by simp[Op.operands,Option.mem_def.1 hy])),opt hi (fun y hy=>h y (by simp[Op.operands,Option.mem_def.1 hy]))]
  | none=>simp only[h x (by simp[Op.operands]),opt lo (fun y hy=>h y (by simp[Op.operands,Option.mem_def.1 hy])),opt hi (fun y hy=>h y (by simp[Op.operands,Option.mem_def.1 hy]))]
 case makeMap ty r=>cases r <;> rfl
 case lookup ty x k q=>rw[h x (by simp[Op.operands]),h k (by simp[Op.operands])]
 case mapUpdate ty x k y=>rw[h x (by simp[Op.operands]),h k (by simp[Op.operands]),h y (by simp[Op.operands])]
 case insert ty x k y=>rw[h x (by simp[Op.operands]),h k (by simp[Op.operands]),h y (by simp[Op.operands])]
 case fieldAddr ty x j=>rw[h x (by simp[Op.operands])]
 case field ty x j=>rw[h x (by simp[Op.operands])]
 case indexAddr ty x i=>rw[h x (by simp[Op.operands]),h i (by simp[Op.operands])]
 case index ty x i=>rw[h x (by simp[Op.operands]),h i (by simp[Op.operands])]
 case extract x i=>rw[h x (by simp[Op.operands])]
 case call c=>
  have hargs:=arr c.args (fun x hx=>h x (by simp only[Op.operands,Call.operands]; exact Array.mem_append_right _ hx))
  unfold callA
  cases hc:c.callee with
  | builtin b=>simp only[hargs]
  | value f=>simp only[hargs,h f (by simp[Op.operands,Call.operands,hc])]
  | invoke r m=>rfl

theorem evalA_upd {ops:List Oper} {o:Oper} {t:T} {d:Nat} {v:AV} (h:d ∉ o.looksAt ops.toArray):∀ x∈o.op.operands,evalA (upd t d v) x=evalA t x:=by
 intro x hx
 cases x with
 | tmp e=>
  have:e≠d:=by
   intro he
   subst he
   refine h ?_
   unfold Oper.looksAt
   exact List.mem_append_left _ (List.mem_filterMap.2 ⟨.tmp e,by simpa using hx,rfl⟩)
  exact upd_ne _ _ _ _ this
 | const c=>rfl
 | global g=>rfl
 | func f=>rfl

theorem wantedA_upd {ops:List Oper} {o:Oper} {t:T} {d:Nat} {v:AV} (h:d ∉ o.looksAt ops.toArray):wantedA ops (upd t d v) o=wantedA ops t o:=by
 unfold wantedA
 cases hg:o.guard with
 | none=>rfl
 | some g=>
  obtain ⟨j,want⟩:=g
  simp only
  cases hd:(ops[j]?).bind (·.dst) with
  | none=>rfl
  | some e=>
   have:e≠d:=by
    intro he
    subst he
    refine h ?_
    unfold Oper.looksAt
    refine List.mem_append_right _ ?_
    simp only[hg]
    have:ops.toArray[j]? = ops[j]? := by simp
    rw[this,hd]
    simp
   simp only[upd_ne _ _ _ _ this]

theorem okCls_congr {c:Cls} {n0:Nat} {t t':T} {op:Op} (h:∀ x∈op.operands,evalA t x=evalA t' x):okCls c n0 t op=okCls c n0 t' op:=by
 cases c <;> cases op <;> simp only[okCls] <;> first
  | rfl
  | (rename_i ty x; rw[h x (by simp[Op.operands])]; done)
  | (rename_i ty x y; rw[h x (by simp[Op.operands])]; done)
  | (rename_i c
     have:c.args.toList.map (evalA t)=c.args.toList.map (evalA t'):=List.map_congr_left fun x hx=>h x (by simp only[Op.operands,Call.operands]; exact Array.mem_append_right _ (by simpa using hx))
     rw[this])

def Agree (n0:Nat) (B B':List Box):Prop:=∀ b,b<n0→B[b]? = B'[b]?

theorem nonwriter {Γ:Env} {ops:List Oper} {t:T} {B B':List Box} {op:Op} {v:AV} (h1:clsOf P Γ ops op≠ .wi) (h2:clsOf P Γ ops op≠ .wo) (h:opA P Γ t B op=some (v,B')):B'=B:=by
 have mp:∀ {α:Type} {q:Option α} {f:α→AV},(q.map fun x=>(f x,B))=some (v,B')→B'=B:=by
  intro α q f h
  obtain ⟨_,_,h2⟩:=map_some h
  cases h2; rfl
 cases op <;> simp only[opA] at h <;> simp only[clsOf] at h1 h2 <;> try (first | (cases h; done) | (cases h; rfl) | exact mp h | exact absurd rfl h1 | exact absurd rfl h2)
 case store=>split at h1 <;> split at h2 <;> first | exact absurd rfl h1 | exact absurd rfl h2 | contradiction
 case nilCheck x=>split at h <;> first | (cases h; rfl) | cases h
 case convert src dst x=>
  unfold convertA at h
  split at h
  ·cases h; rfl
  ·cases h; rfl
  ·rename_i e s hs hd hv
   rw[hs,hd] at h1
   exact absurd rfl h1
  ·split at h
   ·split at h
    ·cases h; rfl
    ·cases h
   ·cases h
  ·split at h
   ·split at h
    ·cases h; rfl
    ·obtain ⟨q,g1,g2⟩:=Option.bind_eq_some_iff.1 h
     obtain ⟨_,_,g3⟩:=map_some g2
     cases g3; rfl
   ·cases h
  ·cases h
 case makeFunc f first cap=>
  cases f with
  | func f=>simp only at h; split at h <;> first | (cases h; rfl) | cases h
  | _=>cases h
 case slice ty x lo hi mx=>
  cases mx with
  | some m=>exact absurd rfl h2
  | none=>exact mp h
 case extract x i=>split at h <;> first | exact mp h | cases h
 case call c=>
  unfold callA at h
  split at h
  ·rename_i b hb
   unfold builtinA at h
   rw[hb] at h1 h2
   split at h
   ·obtain ⟨ty,_,g2⟩:=Option.bind_eq_some_iff.1 h; exact mp g2
   ·rename_i s x hargs
    cases ha:c.args.toList with
    | nil=>rw[ha] at hargs; cases hargs
    | cons a r=>
     rw[ha] at h1 h2
     cases a <;> simp only at h1 h2 <;> first | exact absurd rfl h1 | (split at h1 <;> split at h2 <;> first | exact absurd rfl h1 | exact absurd rfl h2 | contradiction)
   ·exact mp h
   ·exact mp h
   ·exact absurd rfl h2
   ·exact absurd rfl h2
   ·cases h
  ·rename_i f hf
   rw[hf] at h1 h2
   split at h
   ·rename_i g cap hg
    cases f with
    | func f=>
     simp only[evalA,AV.fn.injEq] at hg
     obtain ⟨rfl,rfl⟩:=hg
     simp only at h1 h2
     cases hΓ:Γ f with
     | none=>rw[hΓ] at h; cases h
     | pure g'=>
      rw[hΓ] at h
      obtain ⟨_,_,g3⟩:=map_some h
      cases g3; rfl
     | gen g'=>rw[hΓ] at h2; exact absurd rfl h2
    | _=>exact absurd rfl h2
   ·cases h
  ·cases h

theorem local_p {Γ:Env} {ops:List Oper} {t:T} {B:List Box} {op:Op} {v:AV} (hc:clsOf P Γ ops op= .p) (h:opA P Γ t B op=some (v,B)) (B2:List Box):opA P Γ t B2 op=some (v,B2):=by
 have mp:∀ {q:Option AV},(q.map fun x=>(x,B))=some (v,B)→(q.map fun x=>(x,B2))=some (v,B2):=by
  intro q h
  obtain ⟨a,h1,h2⟩:=map_some h
  cases h2; rw[h1]; rfl
 cases op <;> simp only[opA] at h ⊢ <;> simp only[clsOf] at hc <;> try (first | (cases h; done) | (cases h; rfl) | exact mp h | (cases hc; done))
 case pick c a b=>
  obtain ⟨q,h1,h2⟩:=map_some h
  cases h2; rw[h1]; rfl
 case load ty x=>split at hc <;> cases hc
 case store=>split at hc <;> cases hc
 case nilCheck x=>
  split at h
  ·cases h; rfl
  ·cases h; rfl
  ·cases h; rfl
  ·cases h
 case convert src dst x=>
  unfold convertA at h ⊢
  split at h
  ·cases h; rfl
  ·cases h; rfl
  ·rename_i e s hs hd hv
   rw[hs,hd] at hc
   cases hc
  ·rename_i e0 e b ver sz off len hs hd hno
   rw[hs] at hc
   cases hc
  ·rename_i y e hs hd hno
   rw[hs] at hc
   cases hc
  ·cases h
 case makeFunc f first cap=>
  cases f with
  | func f=>
   simp only at h ⊢
   split at h
   ·rename_i hf; cases h; rw[if_pos hf]
   ·cases h
  | _=>cases h
 case slice ty x lo hi mx=>
  cases mx with
  | some m=>cases hc
  | none=>
   obtain ⟨a,h1,h2⟩:=map_some h
   cases h2
   unfold sliceA at h1
   have:sliceA P ty B2 (evalA t x) (lo.map (evalA t)) (hi.map (evalA t))=some v:=by
    unfold sliceA
    split at h1
    ·exact h1
    ·exact h1
    ·exact h1
    ·exact h1
    ·rename_i n e b ver o hs hv
     simp only[clsOf,hs] at hc
     cases hc
    ·cases h1
   show (sliceA P ty B2 (evalA t x) (lo.map (evalA t)) (hi.map (evalA t))).map (fun v=>(v,B2))=some (v,B2)
   rw[this]; rfl
 case extract x i=>
  split at h
  ·exact mp h
  ·cases h
 case call c=>
  unfold callA at h ⊢
  cases hcal:c.callee with
  | builtin b=>
   rw[hcal] at h hc
   simp only at h ⊢
   unfold builtinA at h ⊢
   split at h
   ·rename_i x hargs
    obtain ⟨ty,h1,h2⟩:=Option.bind_eq_some_iff.1 h
    rw[h1]
    exact mp h2
   ·rename_i s x hargs
    cases ha:c.args.toList with
    | nil=>rw[ha] at hargs; cases hargs
    | cons a r=>
     rw[ha] at hc
     cases a <;> simp only at hc <;> first | (cases hc; done) | (split at hc <;> cases hc)
   ·exact mp h
   ·exact mp h
   ·cases hc
   ·cases hc
   ·cases h
  | value f=>
   rw[hcal] at h hc
   simp only at h ⊢
   split at h
   ·rename_i g cap hg
    cases f with
    | func f=>
     simp only[evalA,AV.fn.injEq] at hg
     obtain ⟨rfl,rfl⟩:=hg
     cases hΓ:Γ f with
     | none=>rw[hΓ] at h; cases h
     | pure g'=>
      rw[hΓ] at h
      exact mp h
     | gen g'=>
      have hcc:(if isPure (Γ f)=true then Cls.p else Cls.wo)=Cls.p:=hc
      rw[hΓ] at hcc
      cases hcc
    | _=>cases hc
   ·cases h
  | invoke r m=>rw[hcal] at h; cases h

theorem local_ro {Γ:Env} {ops:List Oper} {t:T} {B B2:List Box} {op:Op} {v:AV} {n0:Nat} (hc:clsOf P Γ ops op= .ro) (hk:okCls .ro n0 t op=true) (h:opA P Γ t B op=some (v,B)) (hA:Agree n0 B B2):opA P Γ t B2 op=some (v,B2):=by
 cases op <;> simp only[clsOf] at hc <;> try (cases hc; done)
 case load ty x=>
  simp only[opA] at h ⊢
  obtain ⟨a,h1,h2⟩:=map_some h
  cases h2
  simp only[okCls] at hk
  have:loadA P ty B2 (evalA t x)=some v:=by
   split at hk
   ·rename_i b ver o hv
    have hb:b<n0:=by simpa [Nat.blt_eq] using hk
    rw[hv] at h1 ⊢
    simp only[loadA] at h1 ⊢
    rw[←hA b hb]
    exact h1
   ·rename_i cs hv
    rw[hv] at h1 ⊢
    exact h1
   ·cases hk
  rw[this]; rfl
 case store=>split at hc <;> cases hc
 case convert src dst x=>split at hc <;> cases hc
 case slice ty x lo hi mx=>split at hc <;> cases hc
 case call c=>
  split at hc <;> first | (cases hc; done) | (split at hc <;> cases hc)

theorem frame_wi {Γ:Env} {ops:List Oper} {t:T} {B B':List Box} {op:Op} {v:AV} {n0:Nat} (hc:clsOf P Γ ops op= .wi) (hk:okCls .wi n0 t op=true) (hn:n0≤B.length) (h:opA P Γ t B op=some (v,B')):Agree n0 B B'∧n0≤B'.length:=by
 have app:∀ (x:Box),Agree n0 B (B++ [x])∧n0≤(B++ [x]).length:=fun x=>⟨fun b hb=>by rw[List.getElem?_append_left (by omega)],by simp; omega⟩
 have set:∀ (b:Nat) (x:Box),n0≤b→Agree n0 B (B.set b x)∧n0≤(B.set b x).length:=fun b x hb=>⟨fun c hc=>by rw[List.getElem?_set,if_neg (by omega)],by simpa using hn⟩
 cases op <;> simp only[clsOf] at hc <;> simp only[opA] at h <;> try (cases hc; done)
 case alloc e=>
  obtain ⟨z,_,h2⟩:=Option.bind_eq_some_iff.1 h
  split at h2 <;> cases h2
  exact app _
 case box e x=>
  split at h <;> cases h
  exact app _
 case buildSlice ty len parts=>
  unfold buildSliceA at h
  obtain ⟨_,_,h⟩:=Option.bind_eq_some_iff.1 h
  obtain ⟨_,_,h⟩:=Option.bind_eq_some_iff.1 h
  obtain ⟨_,_,h⟩:=Option.bind_eq_some_iff.1 h
  split at h
  ·obtain ⟨_,_,h⟩:=Option.bind_eq_some_iff.1 h
   cases h
   exact app _
  ·cases h
 case load ty x=>split at hc <;> cases hc
 case store ty x y=>
  obtain ⟨B1,h1,h2⟩:=map_some h
  cases h2
  simp only[okCls] at hk
  split at hk
  ·rename_i b ver o hv
   rw[hv] at h1
   simp only[storeA] at h1
   split at h1
   ·split at h1
    ·cases h1
     exact set _ _ (by simpa [Nat.ble_eq] using hk)
    ·cases h1
   ·cases h1
  ·cases hk
 case convert src dst x=>
  unfold convertA at h
  split at h
  ·cases h; exact ⟨fun _ _=>rfl,hn⟩
  ·cases h; exact ⟨fun _ _=>rfl,hn⟩
  ·split at h <;> cases h
   exact app _
  ·split at h
   ·split at h
    ·cases h; exact ⟨fun _ _=>rfl,hn⟩
    ·cases h
   ·cases h
  ·split at h
   ·split at h
    ·cases h; exact ⟨fun _ _=>rfl,hn⟩
    ·obtain ⟨q,g1,g2⟩:=Option.bind_eq_some_iff.1 h
     obtain ⟨_,_,g3⟩:=map_some g2
     cases g3; exact ⟨fun _ _=>rfl,hn⟩
   ·cases h
  ·cases h
 case slice ty x lo hi mx=>split at hc <;> cases hc
 case call c=>
  unfold callA at h
  simp only[okCls] at hk
  cases hcal:c.callee with
  | builtin b=>
   rw[hcal] at h hc
   simp only at h
   unfold builtinA at h
   split at h
   ·cases hc
   ·rename_i s x hargs
    rw[hargs] at hk
    simp only[List.head?_cons] at hk
    obtain ⟨_,_,h⟩:=Option.bind_eq_some_iff.1 h
    obtain ⟨_,_,h⟩:=Option.bind_eq_some_iff.1 h
    unfold appendA at h
    obtain ⟨_,_,h⟩:=Option.bind_eq_some_iff.1 h
    obtain ⟨_,_,h⟩:=Option.bind_eq_some_iff.1 h
    obtain ⟨_,_,h⟩:=Option.bind_eq_some_iff.1 h
    split at h
    ·cases h
    obtain ⟨q,_,h⟩:=Option.bind_eq_some_iff.1 h
    obtain ⟨n,new⟩:=q
    simp only at h
    split at h
    ·cases h
    split at h
    ·split at h <;> cases h
     exact app _
    ·rename_i b ver sz' off len
     split at h
     ·split at h <;> cases h
      exact set _ _ (by simpa [Nat.ble_eq] using hk)
     ·cases h
    ·cases h
   ·cases hc
   ·cases hc
   ·cases hc
   ·cases hc
   ·cases h
  | value f=>
   rw[hcal] at hc
   cases f <;> simp only at hc <;> first | (cases hc; done) | (split at hc <;> cases hc)
  | invoke r m=>rw[hcal] at h; cases h

theorem stepD_wanted {Γ:Env} {n n0:Nat} {ops:List Oper} {o:Oper} {s s':AS} (h:stepD P Γ n n0 ops o s=some s'):(∃ v B',wantedA ops s.t o=some true∧okCls (clsOf P Γ ops o.op) n0 s.t o.op=true∧(clsOf P Γ ops o.op= .wi→n0≤s.B.length) ∧
   opA P Γ s.t s.B o.op=some (v,B')∧putA n s.t o.dst v=some s'.t∧s'.B=B')∨(wantedA ops s.t o=some false∧putA n s.t o.dst (.p (.v undef))=some s'.t∧s'.B=s.B):=by
 unfold stepD at h
 cases hw:wantedA ops s.t o with
 | none=>rw[hw] at h; cases h
 | some q=>
  rw[hw] at h
  simp only[Option.bind_some] at h
  cases q with
  | true=>
   simp only[if_true] at h
   split at h
   ·rename_i hc
    simp only[Bool.and_eq_true,Bool.or_eq_true,bne_iff_ne,Nat.ble_eq] at hc
    obtain ⟨r,h1,h2⟩:=Option.bind_eq_some_iff.1 h
    obtain ⟨v,B'⟩:=r
    obtain ⟨t',h3,h4⟩:=map_some h2
    subst h4
    exact .inl ⟨v,B',rfl,hc.1,fun he=>hc.2.resolve_left (fun hne=>hne he),h1,h3,rfl⟩
   ·cases h
  | false=>
   simp only[Bool.false_eq_true,if_false] at h
   obtain ⟨t',h3,h4⟩:=map_some h
   subst h4
   exact .inr ⟨rfl,h3,rfl⟩

theorem stepD_mk {Γ:Env} {n n0:Nat} {ops:List Oper} {o:Oper} {s:AS} {t':T} {B':List Box} {v:AV} (h1:wantedA ops s.t o=some true) (h2:okCls (clsOf P Γ ops o.op) n0 s.t o.op=true) (h3:clsOf P Γ ops o.op= .wi→n0≤s.B.length)
  (h4:opA P Γ s.t s.B o.op=some (v,B')) (h5:putA n s.t o.dst v=some t'):stepD P Γ n n0 ops o s=some ⟨t',B'⟩:=by
 unfold stepD
 rw[h1]
 simp only[Option.bind_some,if_true]
 have:(clsOf P Γ ops o.op != .wi||Nat.ble n0 s.B.length)=true:=by
  by_cases he:clsOf P Γ ops o.op= .wi
  ·simp[Nat.ble_eq,h3 he]
  ·simp[he]
 rw[h2,this,h4]
 simp[h5]

theorem stepD_skip {Γ:Env} {n n0:Nat} {ops:List Oper} {o:Oper} {s:AS} {t':T} (h1:wantedA ops s.t o=some false) (h5:putA n s.t o.dst (.p (.v undef))=some t'):stepD P Γ n n0 ops o s=some ⟨t',s.B⟩:=by
 unfold stepD
 rw[h1]
 simp[h5]

theorem putA_comm {n:Nat} {t t1 t2:T} {d e:Option Nat} {v y:AV} (hne:∀ x,d=some x→e≠some x) (h1:putA n t d v=some t1) (h2:putA n t1 e y=some t2):∃ t1',putA n t e y=some t1'∧putA n t1' d v=some t2:=by
 cases d with
 | none=>cases h1; exact ⟨t2,h2,rfl⟩
 | some d=>
  cases e with
  | none=>cases h2; exact ⟨t,rfl,h1⟩
  | some e=>
   have hde:e≠d:=fun h=>hne d rfl (by rw[h])
   simp only[putA] at h1 h2
   split at h1
   ·rename_i c1
    split at h2
    ·rename_i c2
     cases h1
     cases h2
     refine ⟨upd t e y,by simp[putA,c2],?_⟩
     simp only[putA,c1,if_true,Option.some.injEq]
     funext j
     by_cases h1:j=d
     ·subst h1; rw[upd_same,upd_ne _ _ _ _ (Ne.symm hde),upd_same]
     ·rw[upd_ne _ _ _ _ h1]
      by_cases h2:j=e
      ·subst h2; rw[upd_same,upd_same]
      ·rw[upd_ne _ _ _ _ h2,upd_ne _ _ _ _ h2,upd_ne _ _ _ _ h1]
    ·cases h2
   ·cases h1

theorem sees {Γ:Env} {n:Nat} {ops:List Oper} {o:Oper} {t t1:T} {d:Option Nat} {v:AV} (hd:∀ x,d=some x→x ∉ o.looksAt ops.toArray) (h:putA n t d v=some t1) (B:List Box) (c:Cls) (n0:Nat):
  wantedA ops t1 o=wantedA ops t o∧opA P Γ t1 B o.op=opA P Γ t B o.op∧okCls c n0 t1 o.op=okCls c n0 t o.op:=by
 cases d with
 | none=>cases h; exact ⟨rfl,rfl,rfl⟩
 | some d=>
  simp only[putA] at h
  split at h
  ·cases h
   have hd':=hd d rfl
   exact ⟨wantedA_upd hd',opA_congr (evalA_upd hd'),okCls_congr (evalA_upd hd')⟩
  ·cases h

theorem swap {Γ:Env} {n n0:Nat} {ops:List Oper} {oi oj:Oper} {s s1 s2:AS} (hap:oi.apart ops.toArray oj=true) (hcl:(clsOf P Γ ops oi.op).clash (clsOf P Γ ops oj.op)=false)
  (h1:stepD P Γ n n0 ops oi s=some s1) (h2:stepD P Γ n n0 ops oj s1=some s2):∃ s1',stepD P Γ n n0 ops oj s=some s1'∧stepD P Γ n n0 ops oi s1'=some s2:=by
 obtain ⟨ha,hb,hc⟩:=Oper.apart_spec hap
 obtain ⟨t2,B2⟩:=s2
 rcases stepD_wanted h1 with ⟨vi,Bi,w1,k1,l1,o1,p1,e1⟩ | ⟨w1,p1,e1⟩
 ·obtain ⟨g1,g2,g3⟩:=sees (P:=P) (Γ:=Γ) ha p1 s1.B (clsOf P Γ ops oj.op) n0
  rcases stepD_wanted h2 with ⟨vj,Bj,w2,k2,l2,o2,p2,e2⟩ | ⟨w2,p2,e2⟩
  ·simp only at e2
   subst e2
   subst e1
   rw[g1] at w2
   rw[g2] at o2
   rw[g3] at k2
   obtain ⟨t1',q1,q2⟩:=putA_comm hb p1 p2
   simp only at q2
   obtain ⟨f1,f2,f3⟩:=sees (P:=P) (Γ:=Γ) hc q1 s.B (clsOf P Γ ops oi.op) n0
   -- the boxes
   have boxes:∃ Bm,opA P Γ s.t s.B oj.op=some (vj,Bm)∧(clsOf P Γ ops oj.op= .wi→n0≤s.B.length)∧opA P Γ s.t Bm oi.op=some (vi,B2)∧(clsOf P Γ ops oi.op= .wi→n0≤Bm.length):=by
    by_cases wi1:clsOf P Γ ops oi.op= .wi
    ·-- oi writes inside: oj is p or ro
     have hnj:clsOf P Γ ops oj.op≠ .wi∧clsOf P Γ ops oj.op≠ .wo:=by
      rw[wi1] at hcl
      constructor <;> (intro h; rw[h] at hcl; cases hcl)
     have hB:=nonwriter hnj.1 hnj.2 o2
     subst hB
     rw[wi1] at k1
     obtain ⟨A1,A2⟩:=frame_wi wi1 k1 (l1 wi1) o1
     refine ⟨s.B,?_,fun h=>absurd h hnj.1,o1,fun _=>l1 wi1⟩
     by_cases hp:clsOf P Γ ops oj.op= .p
     ·exact local_p hp o2 _
     ·have hro:clsOf P Γ ops oj.op= .ro:=by
       rw[wi1] at hcl
       cases hcj:clsOf P Γ ops oj.op <;> first | rfl | (exact absurd hcj hp) | (exact absurd hcj hnj.1) | (exact absurd hcj hnj.2) | (rw[hcj] at hcl; cases hcl)
      rw[hro] at k2
      exact local_ro hro k2 o2 (fun b hb=>(A1 b hb).symm)
    ·by_cases wo1:clsOf P Γ ops oi.op= .wo
     ·have hp:clsOf P Γ ops oj.op= .p:=by
       rw[wo1] at hcl
       cases hcj:clsOf P Γ ops oj.op <;> first | rfl | (rw[hcj] at hcl; cases hcl)
      have hB:=nonwriter (by rw[hp]; exact fun h=>by cases h) (by rw[hp]; exact fun h=>by cases h) o2
      subst hB
      exact ⟨s.B,local_p hp o2 _,(fun h=>by rw[hp] at h; cases h),o1,fun h=>absurd h wi1⟩
     ·-- oi writes nothing
      have hB:=nonwriter wi1 wo1 o1
      rw[hB] at o1 o2
      refine ⟨B2,o2,(fun h=>by have:=l2 h; rw[hB] at this; exact this),?_,fun h=>absurd h wi1⟩
      by_cases hp:clsOf P Γ ops oi.op= .p
      ·exact local_p hp o1 _
      ·by_cases wj:clsOf P Γ ops oj.op= .wi
       ·have hro:clsOf P Γ ops oi.op= .ro:=by
         rw[wj] at hcl
         cases hci:clsOf P Γ ops oi.op <;> first | rfl | (exact absurd hci hp) | (exact absurd hci wi1) | (exact absurd hci wo1) | (rw[hci] at hcl; cases hcl)
        rw[wj] at k2
        have hlen:n0≤s.B.length:=by have:=l2 wj; rw[hB] at this; exact this
        obtain ⟨A1,A2⟩:=frame_wi wj k2 hlen o2
        rw[hro] at k1
        exact local_ro hro k1 o1 A1
       ·by_cases wj2:clsOf P Γ ops oj.op= .wo
        ·rw[wj2] at hcl
         cases hci:clsOf P Γ ops oi.op <;> rw[hci] at hcl hp <;> first | exact absurd rfl hp | cases hcl
        ·have:=nonwriter wj wj2 o2
         rw[this]
         exact o1
   obtain ⟨Bm,b1,b2,b3,b4⟩:=boxes
   refine ⟨⟨t1',Bm⟩,stepD_mk w2 k2 b2 b1 q1,?_⟩
   obtain ⟨f1',f2',f3'⟩:=sees (P:=P) (Γ:=Γ) hc q1 Bm (clsOf P Γ ops oi.op) n0
   exact stepD_mk (s:=⟨t1',Bm⟩) (by rw[←w1]; exact f1') (by rw[←k1]; exact f3') b4 (by rw[←b3]; exact f2') q2
  ·simp only at e2
   rw[g1] at w2
   obtain ⟨t1',q1,q2⟩:=putA_comm hb p1 p2
   simp only at q2
   obtain ⟨f1,f2,f3⟩:=sees (P:=P) (Γ:=Γ) hc q1 s.B (clsOf P Γ ops oi.op) n0
   refine ⟨⟨t1',s.B⟩,stepD_skip w2 q1,?_⟩
   rw[e2,e1]
   exact stepD_mk (s:=⟨t1',s.B⟩) (by rw[←w1]; exact f1) (by rw[←k1]; exact f3) l1 (by rw[←o1]; exact f2) q2
 ·obtain ⟨g1,g2,g3⟩:=sees (P:=P) (Γ:=Γ) ha p1 s1.B (clsOf P Γ ops oj.op) n0
  rcases stepD_wanted h2 with ⟨vj,Bj,w2,k2,l2,o2,p2,e2⟩ | ⟨w2,p2,e2⟩
  ·simp only at e2
   subst e2
   rw[g1] at w2
   rw[g2] at o2
   rw[g3] at k2
   rw[e1] at o2 l2
   obtain ⟨t1',q1,q2⟩:=putA_comm hb p1 p2
   simp only at q2
   obtain ⟨f1,f2,f3⟩:=sees (P:=P) (Γ:=Γ) hc q1 B2 (clsOf P Γ ops oi.op) n0
   exact ⟨⟨t1',B2⟩,stepD_mk w2 k2 l2 o2 q1,stepD_skip (s:=⟨t1',B2⟩) (by rw[←w1]; exact f1) q2⟩
  ·simp only at e2
   rw[g1] at w2
   obtain ⟨t1',q1,q2⟩:=putA_comm hb p1 p2
   simp only at q2
   obtain ⟨f1,f2,f3⟩:=sees (P:=P) (Γ:=Γ) hc q1 s.B (clsOf P Γ ops oi.op) n0
   refine ⟨⟨t1',s.B⟩,stepD_skip w2 q1,?_⟩
   rw[e2,e1]
   exact stepD_skip (s:=⟨t1',s.B⟩) (by rw[←w1]; exact f1) q2

end Go.Ax

namespace Go.Ax
open Go.RowKit

variable [Glob] {P : Program} {F : Nat → Prop}

def AnyA (P:Program) (Γ:Env) (n n0:Nat) (ops:List Oper) (fin:AS):Nat→Array Bool→AS→Prop
 | 0,L,s=>Region.ready .any ops.toArray L= []∧s=fin
 | f+1,L,s=>(Region.ready .any ops.toArray L= []→s=fin) ∧
  ∀ i∈Region.ready .any ops.toArray L,∃ oi s1,ops[i]? = some oi∧stepD P Γ n n0 ops oi s=some s1∧AnyA P Γ n n0 ops fin f (L.setIfInBounds i true) s1

def Closed (ops:List Oper) (L:Array Bool):Prop:=∀ j oj,ops[j]? = some oj→L.getD j true=true→j<L.size→∀ e∈oj.after,Region.binds .any e=true→L.getD e.on false=true

theorem getD_true_false {L:Array Bool} {i:Nat} (h:L.getD i false=true):i<L.size∧L.getD i true=true:=by
 rcases Nat.lt_or_ge i L.size with h' | h'
 ·refine ⟨h',?_⟩
  simp[h'] at h ⊢; exact h
 ·simp[h'] at h

theorem reach_listed {ops:List Oper} {L:Array Bool} (hc:Closed ops L) {i:Nat}:∀ (fuel j:Nat),reach ops fuel j i=true→(∀ oj,ops[j]? = some oj→∀ e∈oj.after,Region.binds .any e=true→L.getD e.on false=true)→L.getD i false=true
 | 0,_,h,_=>by cases h
 | fuel+1,j,h,hj=>by
  simp only[reach] at h
  split at h
  ·cases h
  ·rename_i oj hoj
   rw[List.any_eq_true] at h
   obtain ⟨e,he,h2⟩:=h
   simp only[Bool.and_eq_true,Bool.or_eq_true] at h2
   obtain ⟨hb,h3⟩:=h2
   have hl:=hj oj hoj e (by simpa using he) hb
   rcases h3 with h3 | h3
   ·have:=Nat.eq_of_beq_eq_true h3
    rw[←this]; exact hl
   ·obtain ⟨g1,g2⟩:=getD_true_false hl
    exact reach_listed hc fuel e.on h3 (fun oj hoj e' he' hb'=>hc _ oj hoj g2 g1 e' he' hb')

theorem ready_waits {ops:List Oper} {L:Array Bool} {j:Nat} (h:j∈Region.ready .any ops.toArray L):∃ oj,ops[j]? = some oj∧∀ e∈oj.after,Region.binds .any e=true→L.getD e.on false=true:=by
 obtain ⟨_,oj,hoj,hall⟩:=mem_ready.1 h
 exact ⟨oj,by simpa using hoj,hall⟩

theorem closed_set {ops:List Oper} {L:Array Bool} (hc:Closed ops L) {i:Nat} (hi:i∈Region.ready .any ops.toArray L):Closed ops (L.setIfInBounds i true):=by
 intro j oj hoj hl hs e he hb
 have mono:∀ k,L.getD k false=true→(L.setIfInBounds i true).getD k false=true:=fun k hk=>getD_set_true hk
 by_cases hji:j=i
 ·subst hji
  obtain ⟨oj',hoj',hall⟩:=ready_waits hi
  rw[hoj] at hoj'
  cases hoj'
  exact mono _ (hall e he hb)
 ·rw[getD_set_ne true (fun h=>hji h.symm)] at hl
  exact mono _ (hc j oj hoj hl (by simpa using hs) e he hb)

theorem not_listed {L:Array Bool} {i:Nat} (h:L.getD i true=false):L.getD i false=false:=by
 rcases Nat.lt_or_ge i L.size with h' | h'
 ·simp[h'] at h ⊢; exact h
 ·simp[h'] at h

theorem anyA_first {Γ:Env} {n n0:Nat} {ops:List Oper} {fin:AS} {i:Nat} {oi:Oper} (hi:ops[i]? = some oi)
  (hfree:∀ j oj,ops[j]? = some oj→i<j→reach ops 24 j i=true∨(oi.apart ops.toArray oj=true∧(clsOf P Γ ops oi.op).clash (clsOf P Γ ops oj.op)=false)):
  ∀ (fuel:Nat) (L:Array Bool) (s s1:AS),Closed ops L→(∀ j,j<i→L.getD j false=true)→i∈Region.ready .any ops.toArray L→stepD P Γ n n0 ops oi s=some s1 →
   AnyA P Γ n n0 ops fin fuel (L.setIfInBounds i true) s1→AnyA P Γ n n0 ops fin (fuel+1) L s:=by
 intro fuel
 induction fuel with
 | zero=>
  intro L s s1 hc hlow hr hs H
  refine ⟨fun h=>(by rw[h] at hr; cases hr),fun j hj=>?_⟩
  by_cases hji:j=i
  ·subst hji; exact ⟨oi,s1,hi,hs,H⟩
  ·have:=ready_mono hj hji
   rw[H.1] at this
   cases this
 | succ fuel ih=>
  intro L s s1 hc hlow hr hs H
  refine ⟨fun h=>(by rw[h] at hr; cases hr),fun j hj=>?_⟩
  by_cases hji:j=i
  ·subst hji; exact ⟨oi,s1,hi,hs,H⟩
  ·obtain ⟨oj,s2,hoj,hs2,H2⟩:=H.2 j (ready_mono hj hji)
   have hjl:L.getD j true=false:=(mem_ready.1 hj).1
   have hlt:i<j:=by
    rcases Nat.lt_or_ge i j with h | h
    ·exact h
    ·have h1:=hlow j (by omega)
     have:=not_listed hjl
     rw[this] at h1
     cases h1
   have hil:L.getD i true=false:=(mem_ready.1 hr).1
   obtain ⟨oj',hoj',hall⟩:=ready_waits hj
   rw[hoj] at hoj'
   cases hoj'
   rcases hfree j oj hoj hlt with hre | ⟨hap,hcl⟩
   ·have:=reach_listed hc 24 j hre (fun oj' hoj'=>by rw[hoj] at hoj'; cases hoj'; exact hall)
    rw[not_listed hil] at this
    cases this
   ·obtain ⟨s1',e1,e2⟩:=swap hap hcl hs hs2
    refine ⟨oj,s1',hoj,e1,ih (L.setIfInBounds j true) s1' s2 (closed_set hc hj) (fun k hk=>getD_set_true (hlow k hk)) (ready_mono hr (Ne.symm hji)) e2 ?_⟩
    rw[Array.setIfInBounds_comm _ _ hji]
    exact H2

theorem pairsOk_spec {Γ:Env} {ops:List Oper} {i:Nat} {oi:Oper}:∀ (l:List Oper) (k:Nat),(∀ q,l[q]? = ops[k+q]?)→pairsOk P Γ ops i oi k l=true→∀ j oj,ops[j]? = some oj→k≤j →
  reach ops 24 j i=true∨(oi.apart ops.toArray oj=true∧(clsOf P Γ ops oi.op).clash (clsOf P Γ ops oj.op)=false)
 | [],k,hl,_,j,oj,hoj,hk=>by
  have:=hl (j - k)
  rw[show k+(j - k)=j by omega,hoj] at this
  simp at this
 | o::l,k,hl,h,j,oj,hoj,hk=>by
  simp only[pairsOk,Bool.and_eq_true,Bool.or_eq_true,Bool.not_eq_true'] at h
  obtain ⟨h1,h2⟩:=h
  rcases Nat.lt_or_ge k j with hlt | hge
  ·exact pairsOk_spec l (k+1) (fun q=>by have:=hl (q+1); rw[show k+1+q=k+(q+1) by omega,←this]; rfl) h2 j oj hoj hlt
  ·have:j=k:=by omega
   subst this
   have h0:=hl 0
   simp only[Nat.add_zero,List.getElem?_cons_zero] at h0
   rw[hoj] at h0
   cases h0
   exact h1

theorem lexA {Γ:Env} {n n0:Nat} {ops:List Oper} {fin:AS}:∀ (l:List Oper) (k:Nat) (L:Array Bool) (s:AS),(∀ q,l[q]? = ops[k+q]?)→allPairs P Γ ops k l=true→L.size=ops.length→k+l.length=ops.length→Closed ops L →
  (∀ j,j<k→L.getD j false=true)→(∀ j,k≤j→j<ops.length→L.getD j true=false)→opsD P Γ n n0 ops l s=some fin→AnyA P Γ n n0 ops fin l.length L s
 | [],k,L,s,hl,_,hsz,hk,hc,hlow,_,h=>by
  cases h
  refine ⟨?_,rfl⟩
  rw[List.eq_nil_iff_forall_not_mem]
  intro j hj
  obtain ⟨h1,oj,hoj,_⟩:=mem_ready.1 hj
  have hlt:j<ops.length:=by simpa using (Array.getElem?_eq_some_iff.1 hoj).1
  have:=hlow j (by simp at hk; omega)
  rw[not_listed h1] at this
  cases this
 | o::l,k,L,s,hl,ha,hsz,hk,hc,hlow,hhigh,h=>by
  have h0:ops[k]? = some o:=by simpa using (hl 0).symm
  simp only[allPairs,Bool.and_eq_true] at ha
  obtain ⟨⟨a1,a2⟩,a3⟩:=ha
  simp only[opsD] at h
  obtain ⟨s1,h1,h2⟩:=Option.bind_eq_some_iff.1 h
  have hklt:k<ops.length:=(List.getElem?_eq_some_iff.1 h0).1
  have hready:k∈Region.ready .any ops.toArray L:=by
   refine mem_ready.2 ⟨hhigh k (Nat.le_refl _) hklt,o,by simpa using h0,fun e he hb=>?_⟩
   rw[List.all_eq_true] at a1
   have:=a1 e (by simpa using he)
   simp only[Bool.or_eq_true,Bool.not_eq_true',Nat.blt_eq] at this
   rcases this with h | h
   ·rw[hb] at h; cases h
   ·exact hlow _ h
  have hl':∀ q,l[q]? = ops[k+1+q]? := fun q=>by have:=hl (q+1); rw[show k+1+q=k+(q+1) by omega,←this]; rfl
  refine anyA_first h0 (fun j oj hoj hlt=>pairsOk_spec l (k+1) hl' a2 j oj hoj hlt) l.length L s s1 hc hlow hready h1 ?_
  refine lexA l (k+1) _ s1 hl' a3 (by simpa using hsz) (by simp at hk; omega) (closed_set hc hready) (fun j hj=>?_) (fun j h1 h2=>?_) h2
  ·rcases Nat.lt_or_ge j k with h | h
   ·exact getD_set_true (hlow j h)
   ·have:j=k:=by omega
    subst this
    simp[hsz,hklt]
  ·rw[getD_set_ne true (by omega)]
   exact hhigh j (by omega) h2

theorem stepD_step {Γ:Env} {n n0:Nat} {ops:List Oper} {o:Oper} {s s':AS} (h:stepD P Γ n n0 ops o s=some s'):stepA P Γ n ops o s=some s':=by
 rcases stepD_wanted h with ⟨v,B',w1,_,_,o1,p1,e1⟩ | ⟨w1,p1,e1⟩
 ·unfold stepA
  rw[w1]
  simp only[Option.bind_some,if_true,o1,p1,Option.map_some]
  rw[←e1]
 ·unfold stepA
  rw[w1]
  simp only[Option.bind_some,Bool.false_eq_true,if_false,p1,Option.map_some]
  rw[←e1]

theorem any_sound {Γ:Env} (hΓ:∀ f,SoundF P f (Γ f)) {n n0:Nat} {ops:List Oper} {fin:AS} {Q:Exit→Act→World→Prop}:∀ (fuel:Nat) (L:Array Bool) (s:AS),AnyA P Γ n n0 ops fin fuel L s→∀ {ρ:Loc} {w:World} {a:Act},Rel F s.B ρ w n s.t a →
  (∀ a' w' ρ',Rel F fin.B ρ' w' n fin.t a'→Ext F s.B ρ w fin.B ρ' w'→Q .normal a' w')→wpAny P .any ops.toArray Q fuel L a w
 | 0,L,s,h,ρ,w,a,hR,hQ=>by
  obtain ⟨h1,rfl⟩:=h
  exact ⟨h1,hQ a w ρ hR (.refl _ _ _)⟩
 | fuel+1,L,s,h,ρ,w,a,hR,hQ=>by
  refine ⟨fun h0=>by cases h.1 h0; exact hQ a w ρ hR (.refl _ _ _),fun i hi=>?_⟩
  obtain ⟨oi,s1,hoi,hs,H⟩:=h.2 i hi
  unfold wpOp
  have:ops.toArray[i]? = some oi:=by simpa using hoi
  rw[this]
  simp only
  have hst:=step_sound hΓ (stepD_step hs) hR (K:=wpAny P .any ops.toArray Q fuel (L.setIfInBounds i true)) (Q:=Q) (fun a' w' ρ' hR' hE=>any_sound hΓ fuel _ s1 H hR' (fun a2 w2 ρ2 hR2 hE2=>hQ a2 w2 ρ2 hR2 (hE.trans hE2)))
  split
  ·rename_i hw; rw[if_pos hw] at hst; exact .inl hst
  ·rename_i hw; rw[if_neg hw] at hst; exact hst

theorem drew_rel {B:List Box} {ρ:Loc} {w:World} {n:Nat} {t:T} {a:Act} (h:Rel F B ρ w n t a) (k:Nat):Rel F B ρ {w with drawn:=k} n t a∧Ext F B ρ w B ρ {w with drawn:=k}:=by
 have hE:Ext F B ρ w B ρ {w with drawn:=k}:=⟨Nat.le_refl _,rfl,rfl,rfl,fun _ _ ho=>⟨rfl,ho⟩,fun _ _ _ h=>h,Nat.le_refl _,fun _ _ v cs _ h=>⟨v,cs,h,Nat.le_refl _,fun _=>⟨rfl,rfl⟩⟩,fun _ cs Φ _ h=>⟨cs,Φ,h,rfl⟩,fun _ _ _=>rfl⟩
 refine ⟨⟨⟨fun b row v cs hb=>?_,h.inv.leaf,fun b cs Φ hb=>?_,h.inv.injx,h.inv.bound,h.inv.farx,fun g hg=>(h.inv.glob g hg).ext hE,h.inv.off0⟩,fun i=>(h.tm i).ext hE,h.df,h.size⟩,hE⟩
 case refine_2=>
  obtain ⟨k',o,us,g1,g2,g3,g4⟩:=h.inv.obox b cs Φ hb
  exact ⟨k',o,us,g1,Φ.frame _ _ _ _ _ g2 (fun _ _=>rfl),g3,fun i c u h1 h2=>(g4 i c u h1 h2).ext hE⟩
 rcases h.inv.box b row v cs hb with h0 | ⟨k',o,us,e,fr,g1,g2,g3,g4,g5⟩
 ·exact .inl h0
 ·refine .inr ⟨k',o,us,e,fr,g1,g2,g3,g4,fun i c hc=>?_⟩
  obtain ⟨u,f1,f2⟩:=g5 i c hc
  exact ⟨u,f1,f2.ext hE⟩

theorem region_draw_sound {Γ:Env} (hm:P.follows .mixedOrders=true) (hΓ:∀ f,SoundF P f (Γ f)) {ops:Array Oper} {n id:Nat} {Q:Exit→Act→World→Prop} {s s':AS} (hok:drawOk P Γ ops.toList=true)
  (h:opsD P Γ n s.B.length ops.toList ops.toList s=some s') {ρ:Loc} {w:World} {a:Act} (hR:Rel F s.B ρ w n s.t a)
  (hQ:∀ a' w' ρ',Rel F s'.B ρ' w' n s'.t a'→Ext F s.B ρ w s'.B ρ' w'→Q .normal a' w'):(Code.region id ops true).wp P Q a w:=by
 refine wp_region_any hm ?_
 obtain ⟨hR2,hE⟩:=drew_rel hR (w.drawn+1)
 unfold drawOk at hok
 rw[Bool.and_eq_true] at hok
 have:=lexA (P:=P) (Γ:=Γ) (n:=n) (n0:=s.B.length) (fin:=s') ops.toList 0 (Array.replicate ops.size false) s (by simp) hok.2 (by simp) (by simp) (fun j oj hoj hl hs=>?_) (fun j hj=>by omega) (fun j _ hj=>by simp at hj; simp[hj]) h
 ·have:=any_sound hΓ (Q:=Q) _ _ s this hR2 (fun a' w' ρ' h1 h2=>hQ a' w' ρ' h1 (hE.trans h2))
  simpa using this
 ·simp at hs
  simp[hs] at hl

end Go.Ax

namespace Go.Ax
open Go.RowKit

variable [Glob] {P : Program} {F : Nat → Prop}

def resA (P:Program) (s:AS):ResultVar→Option AV
 | .tmp i=>some (s.t i)
 | .cell a ty=>match s.t a with
  | .ptr b v o=>loadA P ty s.B (.ptr b v o)
  | _=>none

def resList (P:Program) (s:AS):List ResultVar→Option (List AV)
 | []=>some []
 | r::rs=>(resA P s r).bind fun v=>(resList P s rs).map fun vs=>v::vs

def oneOf:List AV→AV
 | [v]=>v
 | vs=> .tup vs

def argsT (args:List AV):T:=fun i=>(args[i]?).getD (.p (.v undef))

def resSem (tmps:Array Value):ResultVar→Sem Value
 | .tmp t=>pure (tmps.getD t undef)
 | .cell a t=>do loadVar t (←asAddr (tmps.getD a undef))

theorem res_run {s:AS} {ρ:Loc} {w:World} {n:Nat} {a:Act} (hR:Rel F s.B ρ w n s.t a) {r:ResultVar} {v:AV} (h:resA P s r=some v):
  ∃ x,(resSem a.tmps r).run P w= .ok x w∧VRel F s.B ρ w v x:=by
 cases r with
 | tmp i=>cases h; exact ⟨_,rfl,hR.tm i⟩
 | cell b ty=>
  simp only[resA] at h
  split at h
  ·rename_i b' v' o hb
   have hx:=hR.tm b
   rw[hb] at hx
   cases hv:a.tmps.getD b undef with
   | pointer ad=>
    rw[hv] at hx
    cases hx with
    | ptr _ _ _ ad hp=>
     obtain ⟨y,e1,e2⟩:=loadAt_run (P:=P) hR.inv (.ptr _ _ _ _ hp) h
     refine ⟨y,?_,e2⟩
     simp only[resSem,hv,asAddr,Sem.run_bind,Sem.run_pure,Result.andThen_ok]
     simpa [Instr.loadAt,Instr.sureAddr] using e1
   | _=>rw[hv] at hx; cases hx
  ·cases h

theorem resList_run {s:AS} {ρ:Loc} {w:World} {n:Nat} {a:Act} (hR:Rel F s.B ρ w n s.t a):∀ (rs:List ResultVar) (vs:List AV),resList P s rs=some vs →
  ∃ us:List Value,(rs.mapM (resSem a.tmps)).run P w= .ok us w∧ArgsRel F s.B ρ w vs us
 | [],vs,h=>by cases h; exact ⟨[],rfl,rfl,fun j p u hp=>by simp at hp⟩
 | r::rs,vs,h=>by
  simp only[resList] at h
  obtain ⟨v,h1,h2⟩:=Option.bind_eq_some_iff.1 h
  obtain ⟨vs',h3,h4⟩:=map_some h2
  subst h4
  obtain ⟨x,e1,e2⟩:=res_run hR h1
  obtain ⟨us,e3,e4⟩:=resList_run hR rs vs' h3
  refine ⟨x::us,?_,by simp[e4.1],fun j p u hp hu=>?_⟩
  ·rw[List.mapM_cons,Sem.run_bind,e1]
   simp only[Result.andThen_ok,Sem.run_bind]
   rw[e3]
   rfl
  ·cases j with
   | zero=>cases hp; cases hu; exact e2
   | succ j=>exact e4.2 j p u (by simpa using hp) (by simpa using hu)

def oneV:List Value→Value
 | [v]=>v
 | vs=> .tuple vs.toArray

theorem results_run {fn:Func} {s:AS} {ρ:Loc} {w:World} {n:Nat} {a:Act} (hR:Rel F s.B ρ w n s.t a) {vs:List AV} (h:resList P s fn.results.toList=some vs):
  ∃ x,(results fn a.tmps).run P w= .ok x w∧VRel F s.B ρ w (oneOf vs) x:=by
 obtain ⟨us,e1,e2⟩:=resList_run hR _ vs h
 have hrun:(results fn a.tmps).run P w= .ok (oneV us) w:=by
  have hd:results fn a.tmps=(do let vs ←fn.results.mapM (resSem a.tmps); pure (if h:vs.size=1 then vs[0] else .tuple vs)):=by
   unfold results
   first | rfl | (congr 1; congr 1; funext r; cases r <;> rfl)
  rw[hd,Array.mapM_eq_mapM_toList]
  simp only[Sem.run_bind,Sem.run_map]
  rw[e1]
  match us with
  | []=>rfl
  | [_]=>rfl
  | _::_::_=>simp only[Result.andThen_ok,Sem.run_pure,oneV]; rw[dif_neg (by simp)]
 refine ⟨oneV us,hrun,?_⟩
 clear hrun e1 h
 match vs,us,e2 with
 | [v],[u],e2=>exact e2.2 0 v u rfl rfl
 | [],[],e2=>exact .tup [] [] rfl (fun j p u hp=>by simp at hp)
 | v1::v2::vr,u1::u2::ur,e2=>exact .tup _ _ e2.1 e2.2
 | [],_::_,e2=>exact absurd e2.1 (by simp)
 | _::_,[],e2=>exact absurd e2.1 (by simp)
 | [_],_::_::_,e2=>exact absurd e2.1 (by simp)
 | _::_::_,[_],e2=>exact absurd e2.1 (by simp)

def enters (P:Program) (f:FuncId):Bool:=
 match P.funcs[f]? with
 | some fn => fn.body.isSome && fn.name != "runtime.NumGoroutine"
 | none=>false

theorem enter_run {f:FuncId} (h:enters P f=true) (us:Array Value) (w:World):(callFunc f us).run P w= .ok (.enter f us) w:=by
 unfold enters at h
 split at h
 ·rename_i fn hf
  simp only[Bool.and_eq_true,bne_iff_ne] at h
  obtain ⟨h1,h2⟩:=h
  cases hb:fn.body with
  | none=>rw[hb] at h1; cases h1
  | some c=>simp[callFunc,hf,h2,hb]
 ·cases h

theorem sound_none (f:FuncId):SoundF P f .none:=fun _ _ _ _ h=>by cases h

end Go.Ax
