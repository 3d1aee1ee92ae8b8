/- Comparing and checking entries: what the functions come to. -/
import Derived.Test.YtgbmmmglilpdjaaLv1
set_option linter.unusedVariables false
set_option linter.unusedSimpArgs false
namespace Go.Ax
open Go.Proofs Go.RowKit
set_option maxRecDepth 100000

theorem sound42 : SoundF LP 42 (.pure gScmp) := fn_pure (fn := Try.f42) mixedL Γ46_ok (by kernel_rfl) (by kernel_rfl) (by kernel_rfl) (by
  rintro args r ⟨a, b, rfl, rfl⟩
  exact ⟨rfl, rfl, .ret, _, _, _, .inl rfl, scmp42_w1 a b, rfl, .p _⟩)

theorem Γ42_ok : ∀ f, SoundF LP f (Γ42 f) := env_sound (by simp [sound42])

theorem sound36 : SoundF LP 36 (.pure gScmp) := fn_pure (fn := Try.f36) mixedL Γ42_ok (by kernel_rfl) (by kernel_rfl) (by kernel_rfl) (by
  rintro args r ⟨a, b, rfl, rfl⟩
  exact ⟨rfl, rfl, .ret, _, _, _, .inl rfl, scmp36_w1 a b, rfl, .p _⟩)

theorem Γ36_ok : ∀ f, SoundF LP f (Γ36 f) := env_sound (by simp [sound36])

/-- What is wrong with an entry. -/
def Ent.check (e : Ent) : Int :=
  if ((e.key.size : Int) == (0 : Int)) = true then 1 else
  if decide (e.seq > (72057594037927935 : Int)) = true then 1 else
  if e.del = true ∧ (!(e.val.toList == (⟨#[]⟩ : ByteArray).toList)) = true then 1 else
  if decide ((e.key.size : Int) > (128 : Int)) = true then 6 else
  if decide ((e.val.size : Int) > (65536 : Int)) = true then 6 else 0

def RCheck : List AV → AV → Prop := fun args r => ∃ e : Ent, args = [entA e] ∧ r = vi e.check
noncomputable def gCheck := relG RCheck
theorem gCheck_eq (e : Ent) : gCheck [entA e] = some (vi e.check) :=
  relG_eq (by
    rintro args r r' ⟨a, rfl, rfl⟩ ⟨a', h, rfl⟩
    simp only [List.cons.injEq, and_true] at h
    rw [entA_inj h]) ⟨e, rfl, rfl⟩

theorem bfalse {b : Bool} (h : ¬ b = true) : b = false := by cases b <;> simp_all

theorem sound21 : SoundF LP 21 (.pure gCheck) := fn_pure (fn := Try.f21) mixedL Γ36_ok (by kernel_rfl) (by kernel_rfl) (by kernel_rfl) (by
  rintro args r ⟨e, rfl, rfl⟩
  refine ⟨rfl, rfl, ?_⟩
  have fin : ∀ x : Int, EvC LP Γ36 33 0 (nav [] (bodyOf Try.f21)) ⟨tk [(0, entA e)], []⟩ .ret ⟨tk [(2, vi x)], []⟩ → x = e.check → ∃ e_1 l B vs, (e_1 = AE.ret ∨ e_1 = AE.normal) ∧ EvC LP Γ36 33 0 (bodyOf Try.f21) ⟨tk (numL 0 [entA e]), []⟩ e_1 ⟨tk l, B⟩ ∧
      resList LP ⟨tk l, B⟩ Try.f21.results.toList = some vs ∧ Sealed (fun _ => True) B (oneOf vs) (vi e.check) := by
    rintro x h rfl
    exact ⟨.ret, _, _, [vi e.check], .inl rfl, h, rfl, .p _⟩
  unfold Ent.check at fin ⊢
  by_cases h1 : ((e.key.size : Int) == (0 : Int)) = true
  · exact fin 1 (check_w1 e h1) (by rw [if_pos h1])
  by_cases h2 : decide (e.seq > (72057594037927935 : Int)) = true
  · exact fin 1 (check_w2 e (bfalse h1) h2) (by rw [if_neg h1, if_pos h2])
  by_cases h3 : e.del = true
  · by_cases h4 : (!(e.val.toList == (⟨#[]⟩ : ByteArray).toList)) = true
    · exact fin 1 (check_w3 e (bfalse h1) (bfalse h2) h3 h4) (by rw [if_neg h1, if_neg h2, if_pos ⟨h3, h4⟩])
    · have h34 : ¬ (e.del = true ∧ (!(e.val.toList == (⟨#[]⟩ : ByteArray).toList)) = true) := fun h => h4 h.2
      by_cases h5 : decide ((e.key.size : Int) > (128 : Int)) = true
      · exact fin 6 (check_w4 e (bfalse h1) (bfalse h2) h3 (bfalse h4) h5) (by rw [if_neg h1, if_neg h2, if_neg h34, if_pos h5])
      by_cases h6 : decide ((e.val.size : Int) > (65536 : Int)) = true
      · exact fin 6 (check_w5 e (bfalse h1) (bfalse h2) h3 (bfalse h4) (bfalse h5) h6) (by rw [if_neg h1, if_neg h2, if_neg h34, if_neg h5, if_pos h6])
      · exact fin 0 (check_w6 e (bfalse h1) (bfalse h2) h3 (bfalse h4) (bfalse h5) (bfalse h6)) (by rw [if_neg h1, if_neg h2, if_neg h34, if_neg h5, if_neg h6])
  · have h34 : ¬ (e.del = true ∧ (!(e.val.toList == (⟨#[]⟩ : ByteArray).toList)) = true) := fun h => h3 h.1
    by_cases h5 : decide ((e.key.size : Int) > (128 : Int)) = true
    · exact fin 6 (check_w7 e (bfalse h1) (bfalse h2) (bfalse h3) h5) (by rw [if_neg h1, if_neg h2, if_neg h34, if_pos h5])
    by_cases h6 : decide ((e.val.size : Int) > (65536 : Int)) = true
    · exact fin 6 (check_w8 e (bfalse h1) (bfalse h2) (bfalse h3) (bfalse h5) h6) (by rw [if_neg h1, if_neg h2, if_neg h34, if_neg h5, if_pos h6])
    · exact fin 0 (check_w9 e (bfalse h1) (bfalse h2) (bfalse h3) (bfalse h5) (bfalse h6)) (by rw [if_neg h1, if_neg h2, if_neg h34, if_neg h5, if_neg h6]))

/-- The order of entries. -/
def Ent.cmp (x y : Ent) : Int :=
  if ((Lib.compareBytes x.key.data.toList y.key.data.toList) != (0 : Int)) = true then Lib.compareBytes x.key.data.toList y.key.data.toList else
  if decide (x.seq > y.seq) = true then -1 else if decide (x.seq < y.seq) = true then 1 else 0

def RCmp : List AV → AV → Prop := fun args r => ∃ x y : Ent, args = [entA x, entA y] ∧ r = vi (x.cmp y)
noncomputable def gCmp := relG RCmp
theorem gCmp_eq (x y : Ent) : gCmp [entA x, entA y] = some (vi (x.cmp y)) :=
  relG_eq (by
    rintro args r r' ⟨a, b, rfl, rfl⟩ ⟨a', b', h, rfl⟩
    simp only [List.cons.injEq, and_true] at h
    rw [entA_inj h.1, entA_inj h.2]) ⟨x, y, rfl, rfl⟩

theorem sound22 : SoundF LP 22 (.pure gCmp) := fn_pure (fn := Try.f22) mixedL Γ36_ok (by kernel_rfl) (by kernel_rfl) (by kernel_rfl) (by
  rintro args r ⟨x, y, rfl, rfl⟩
  refine ⟨rfl, rfl, ?_⟩
  have fin : ∀ z : Int, EvC LP Γ36 26 0 (nav [] (bodyOf Try.f22)) ⟨tk [(0, entA x), (1, entA y)], []⟩ .ret ⟨tk [(4, vi z)], []⟩ → z = x.cmp y → ∃ e_1 l B vs, (e_1 = AE.ret ∨ e_1 = AE.normal) ∧ EvC LP Γ36 26 0 (bodyOf Try.f22) ⟨tk (numL 0 [entA x, entA y]), []⟩ e_1 ⟨tk l, B⟩ ∧
      resList LP ⟨tk l, B⟩ Try.f22.results.toList = some vs ∧ Sealed (fun _ => True) B (oneOf vs) (vi (x.cmp y)) := by
    rintro z h rfl
    exact ⟨.ret, _, _, [vi (x.cmp y)], .inl rfl, h, rfl, .p _⟩
  unfold Ent.cmp at fin ⊢
  by_cases h1 : ((Lib.compareBytes x.key.data.toList y.key.data.toList) != (0 : Int)) = true
  · exact fin _ (cmp_w1 x y h1) (by rw [if_pos h1])
  by_cases h2 : decide (x.seq > y.seq) = true
  · exact fin _ (cmp_w2 x y (bfalse h1) h2) (by rw [if_neg h1, if_pos h2])
  by_cases h3 : decide (x.seq < y.seq) = true
  · exact fin _ (cmp_w3 x y (bfalse h1) (bfalse h2) h3) (by rw [if_neg h1, if_neg h2, if_pos h3])
  · exact fin _ (cmp_w4 x y (bfalse h1) (bfalse h2) (bfalse h3)) (by rw [if_neg h1, if_neg h2, if_neg h3]))

noncomputable def ΓE : Env := envOf [(21, .pure gCheck), (22, .pure gCmp), (36, .pure gScmp)]
theorem ΓE_ok : ∀ f, SoundF LP f (ΓE f) := env_sound (by simp [sound21, sound22, sound36])

end Go.Ax
