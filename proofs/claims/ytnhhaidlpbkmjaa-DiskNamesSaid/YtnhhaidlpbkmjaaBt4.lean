/- The check of trees: one operation. -/
import Derived.Test.YtnhhaidlpbkmjaaBt3
set_option linter.unusedVariables false
set_option linter.unusedSimpArgs false
set_option linter.unusedSectionVars false
namespace Go.Ax
open Go.RowKit

variable [Glob] {P : Program} {Γ : Env} {n m0 : Nat} {K : AE → St → Prop}

theorem trim_row {α : Type} {E : Enc α} {L : List α} {B : List Box} {cs : List AV} {b v sz hv : Nat} (hb : B[b]? = some (.cells true v cs)) (g1 : cs = rowC (L.map E.f)) (z4 : sz = E.sz) (hle : hv ≤ L.length) :
    trimA B b v sz hv = some (.rs b (v + 1) sz 0 hv, B.set b (.cells true (v + 1) (rowC ((L.take hv).map E.f)))) := by
  subst z4
  unfold trimA
  rw [hb]
  simp only [true_and]
  rw [if_pos (by rw [g1, E.elt.rowLen]; exact Nat.mul_le_mul_right _ hle), g1, take_row]

theorem opC_sound {o : Oper} {s : AS} {T : Tree} {κ : AS → Tree → Tree} (h : (opC P Γ n o s T κ).wp K) : Good P Γ n K o s κ := by
  unfold opC at h
  split at h
  · exact h.elim
  · -- int
    have hh := cond_wp h
    clear h
    rcases hh with ⟨_, h⟩ | ⟨_, h⟩
    · split at h
      · rename_i kd z B hq
        obtain ⟨rfl, h⟩ := h
        exact good_put hq h
      · exact h.elim
    · exact good_plain h
  · -- val
    have hh := cond_wp h
    clear h
    rcases hh with ⟨_, h⟩ | ⟨_, h⟩
    · exact good_put h.1 h.2
    · exact good_plain h
  · -- call
    have hh := cond_wp h
    clear h
    rcases hh with ⟨_, h⟩ | ⟨_, h⟩
    · split at h
      · rename_i c hop
        split at h
        · rename_i f hf
          split at h
          · rename_i g cap hg
            split at h
            · rename_i hh hgam
              refine good_put ?_ h.2
              rw [hop]
              simp only [opA, callA, hf, hg, hgam, FSpec.run]
              have := h.1
              rw [this]
              rfl
            · exact h.elim
          · exact h.elim
        · exact h.elim
      · exact h.elim
    · exact good_plain h
  · -- elem
    rename_i d xs0 E L i0 k
    have hh := cond_wp h
    clear h
    rcases hh with ⟨_, h⟩ | ⟨_, h⟩
    · split at h
      · rename_i t a i hop
        split at h
        · rename_i xs kd j e h1 h2 h3
          split at h
          · rename_i sz h4
            have hh := cond_wp h
            clear h
            rcases hh with ⟨hz, h⟩ | ⟨_, h⟩
            · obtain ⟨rfl, hj, x, hx, h⟩ := h
              have hz := Nat.eq_of_beq_eq_true hz
              subst hz
              refine good_put ?_ h
              rw [hop]
              simp only [opA, h1, h2, indexAddrA, intA, Option.bind_some]
              rw [if_neg (by omega), elemT_some h3]
              simp only [h4, Option.bind_some]
              rw [if_pos (E.elt.all L), List.getElem?_map, hx]
              rfl
            · exact h.elim
          · exact h.elim
        · exact h.elim
      · exact h.elim
    · exact good_plain h
  · -- elemk
    rename_i d xs0 E L i0 x0 k
    have hh := cond_wp h
    clear h
    rcases hh with ⟨_, h⟩ | ⟨_, h⟩
    · split at h
      · rename_i t a i hop
        split at h
        · rename_i xs kd j e h1 h2 h3
          split at h
          · rename_i sz h4
            have hh := cond_wp h
            clear h
            rcases hh with ⟨hz, h⟩ | ⟨_, h⟩
            · obtain ⟨rfl, hj, hx, h⟩ := h
              have hz := Nat.eq_of_beq_eq_true hz
              subst hz
              refine good_put ?_ h
              rw [hop]
              simp only [opA, h1, h2, indexAddrA, intA, Option.bind_some]
              rw [if_neg (by omega), elemT_some h3]
              simp only [h4, Option.bind_some]
              rw [if_pos (E.elt.all L), List.getElem?_map, hx]
              rfl
            · exact h.elim
          · exact h.elim
        · exact h.elim
      · exact h.elim
    · exact good_plain h
  · -- rload
    have hh := cond_wp h
    clear h
    rcases hh with ⟨_, h⟩ | ⟨_, h⟩
    · split at h
      · rename_i t x hop
        split at h
        · rename_i b ver off hx
          split at h
          · rename_i row v cs hb
            have hh := cond_wp h
            clear h
            rcases hh with ⟨hz, h⟩ | ⟨_, h⟩
            · have hz := Nat.eq_of_beq_eq_true hz
              subst hz
              obtain ⟨rfl, hj, rfl, a, ha, h⟩ := h
              dsimp only at h
              split at h
              · rename_i v hv
                refine good_put ?_ h
                rw [hop]
                simp only [opA, hx, loadA, hb, Nat.beq_refl, if_true]
                rw [mkA_cells ha hv]
                rfl
              · exact h.elim
            · exact h.elim
          · exact h.elim
        · exact h.elim
      · exact h.elim
    · exact good_plain h
  · -- ridx
    have hh := cond_wp h
    clear h
    rcases hh with ⟨_, h⟩ | ⟨_, h⟩
    · split at h
      · rename_i t a i hop
        split at h
        · rename_i b ver sz off len kd j e h1 h2 h3
          split at h
          · rename_i sz' h4
            have hh := cond_wp h
            clear h
            rcases hh with ⟨hz, h⟩ | ⟨_, h⟩
            · have hz := Nat.eq_of_beq_eq_true hz
              subst hz
              obtain ⟨hj, hl, h⟩ := h
              refine good_put ?_ h
              rw [hop]
              simp only [opA, h1, h2, indexAddrA, intA, Option.bind_some]
              rw [if_neg (by omega), elemT_some h3]
              simp only [h4, Option.bind_some]
              rw [if_pos (by simp; omega)]
              rfl
            · exact h.elim
          · exact h.elim
        · exact h.elim
      · exact h.elim
    · exact good_plain h
  · -- pidx
    have hh := cond_wp h
    clear h
    rcases hh with ⟨_, h⟩ | ⟨_, h⟩
    · split at h
      · rename_i t a i hop
        split at h
        · rename_i b ver off kd j len e h1 h2 h3
          split at h
          · rename_i sz h4
            have hh := cond_wp h
            clear h
            rcases hh with ⟨hz, h⟩ | ⟨_, h⟩
            · obtain ⟨hj, hl, h⟩ := h
              refine good_put ?_ h
              rw [hop]
              simp only [opA, h1, h2, indexAddrA, intA, Option.bind_some]
              rw [if_neg (by omega), h3]
              simp only [h4, Option.bind_some]
              rw [if_pos (by rw [Bool.and_eq_true]; exact ⟨decide_eq_true (by omega), hz⟩)]
              rfl
            · exact h.elim
          · exact h.elim
        · exact h.elim
      · exact h.elim
    · exact good_plain h
  · -- rstore
    rename_i d cs0 off0 new0 E L i a k
    have hh := cond_wp h
    clear h
    rcases hh with ⟨_, h⟩ | ⟨_, h⟩
    · split at h
      · rename_i t x y hop
        split at h
        · rename_i b ver off hx
          split at h
          · rename_i row v cs hb
            have hh := cond_wp h
            clear h
            rcases hh with ⟨hz, h⟩ | ⟨_, h⟩
            · simp only [Bool.and_eq_true] at hz
              obtain ⟨hz1, hz2⟩ := hz
              have hz1 := Nat.eq_of_beq_eq_true hz1
              subst hz1
              split at hz2
              · rename_i sz hsz
                have hz2 := Nat.eq_of_beq_eq_true hz2
                subst hz2
                obtain ⟨rfl, h0, hlt, rfl, hnew, h⟩ := h
                refine good_put ?_ h
                have hi : i.toNat < L.length := by omega
                have hln : ((E.f a).cells.map AV.p).length = E.sz := by simp [E.size]
                rw [hop]
                simp only [opA, hx, storeA, hb, hsz, hnew]
                rw [if_pos]
                · simp only [Option.map_some, Nat.zero_add]
                  rw [set_row E L _ a hi]
                · rw [hln]
                  simp only [Nat.beq_refl, beq_self_eq_true, Bool.true_and, Bool.and_eq_true, Nat.ble_eq]
                  refine ⟨?_, ?_⟩
                  · rw [E.elt.rowLen, Nat.zero_add]
                    have := Nat.mul_le_mul_right E.sz (show i.toNat + 1 ≤ L.length from hi)
                    rw [Nat.succ_mul] at this
                    exact this
                  · rw [List.all_map]
                    exact E.leaf a
              · cases hz2
            · exact h.elim
          · exact h.elim
        · exact h.elim
      · exact h.elim
    · exact good_plain h
  · -- rclr
    rename_i d off0 len0 cs0 zz0 E L i z k
    have hh := cond_wp h
    clear h
    rcases hh with ⟨_, h⟩ | ⟨_, h⟩
    · split at h
      · rename_i c hop
        split at h
        · rename_i b ver sz off len t h1 h2 h3
          split at h
          · rename_i row v cs zz hb hz
            have hh := cond_wp h
            clear h
            rcases hh with ⟨hc, h⟩ | ⟨_, h⟩
            · simp only [Bool.and_eq_true] at hc
              obtain ⟨⟨⟨z1, z2⟩, z3⟩, z4⟩ := hc
              have z1 := Nat.eq_of_beq_eq_true z1
              have z2 := Nat.eq_of_beq_eq_true z2
              subst z1 z2
              split at z4
              · rename_i m hm
                have z4 := Nat.eq_of_beq_eq_true z4
                subst z4
                obtain ⟨rfl, rfl, rfl, hlen, h⟩ := h
                refine good_put ?_ h
                obtain ⟨e, he, hze⟩ := Option.bind_eq_some_iff.1 hz
                rw [he] at hm
                simp only [Option.bind_some] at hm
                rw [hop]
                simp only [opA, callA, h1, builtinA, h2, h3, Option.bind_some, clearA, he, hm, hze, hb]
                rw [if_pos]
                · simp only [Option.map_some, Nat.zero_add]
                  rw [clr_row E hlen]
                · rw [E.elt.rowLen]
                  simp only [Nat.beq_refl, beq_self_eq_true, Bool.true_and, z3, Bool.and_eq_true, Nat.ble_eq]
                  refine ⟨?_, ?_⟩
                  · rw [List.all_map]; exact E.leaf z
                  · rw [Nat.zero_add, ← Nat.add_mul, hlen]; exact Nat.le_refl _
              · cases z4
            · exact h.elim
          · exact h.elim
        · exact h.elim
      · exact h.elim
    · exact good_plain h
  · -- app
    rename_i d src0 len0 cs0 E L M k
    have hh := cond_wp h
    clear h
    rcases hh with ⟨_, h⟩ | ⟨_, h⟩
    · split at h
      · rename_i c hop
        split at h
        · rename_i b ver sz off len x t tx h1 h2 h3 h4
          split at h
          · rename_i v cs hb
            have hh := cond_wp h
            clear h
            rcases hh with ⟨hz, h⟩ | ⟨_, h⟩
            · simp only [Bool.and_eq_true] at hz
              obtain ⟨⟨⟨z1, z2⟩, z3⟩, z4⟩ := hz
              have z1 := Nat.eq_of_beq_eq_true z1
              have z2 := Nat.eq_of_beq_eq_true z2
              have z3 := Nat.eq_of_beq_eq_true z3
              subst z1 z2 z3
              split at h
              · rename_i src' hsrc
                obtain ⟨g1, rfl, rfl, g4, h⟩ := h
                obtain ⟨e, bytes, ht, hby⟩ := rowTyC_spec z4
                refine good_put ?_ h
                rw [hop]
                simp only [opA, callA, h1, builtinA, h2, h3, h4, Option.bind_some]
                exact append_row E.elt ht hb (srcC_spec hsrc g1) g4 hby
              · exact h.elim
            · exact h.elim
          · exact h.elim
        · exact h.elim
      · exact h.elim
    · exact good_plain h
  · -- appn
    have hh := cond_wp h
    clear h
    rcases hh with ⟨_, h⟩ | ⟨_, h⟩
    · split at h
      · rename_i c hop
        split at h
        · rename_i x t tx h1 h2 h3 h4
          have hh := cond_wp h
          clear h
          rcases hh with ⟨z4, h⟩ | ⟨_, h⟩
          · split at h
            · rename_i src' hsrc
              obtain ⟨g1, g4, h⟩ := h
              obtain ⟨e, bytes, ht, hby⟩ := rowTyC_spec z4
              refine good_put ?_ h
              rw [hop]
              simp only [opA, callA, h1, builtinA, h2, h3, h4, Option.bind_some]
              exact append_nil (Enc.elt _) ht (srcC_spec hsrc g1) g4 hby
            · exact h.elim
          · exact h.elim
        · exact h.elim
      · exact h.elim
    · exact good_plain h
  · -- cut
    rename_i d xs0 lo0 hi0 E L k
    have hh := cond_wp h
    clear h
    rcases hh with ⟨_, h⟩ | ⟨_, h⟩
    · obtain ⟨t, x, lo, hi, l, r, hop, hl, hr, h⟩ := slC_wp h
      split at h
      · rename_i xs hx
        split at h
        · rename_i e he
          split at h
          · rename_i sz hsz
            have hh := cond_wp h
            clear h
            rcases hh with ⟨hz, h⟩ | ⟨_, h⟩
            · have hz := Nat.eq_of_beq_eq_true hz
              subst hz
              obtain ⟨rfl, hk, h⟩ := h
              refine good_put ?_ h
              obtain ⟨hb, _, _⟩ := bounds_of (len := L.length) hl hr hk
              rw [hop]
              simp only [opA, hx, sliceA, elemT_some he, hsz, Option.bind_some, List.length_map, hb]
              rw [if_pos (E.elt.all L), cutL_eq hk, List.map_drop, List.map_take]
              rfl
            · exact h.elim
          · exact h.elim
        · exact h.elim
      · exact h.elim
    · exact good_plain h
  · -- scut
    have hh := cond_wp h
    clear h
    rcases hh with ⟨_, h⟩ | ⟨_, h⟩
    · obtain ⟨t, x, lo, hi, l, r, hop, hl, hr, h⟩ := slC_wp h
      split at h
      · rename_i b hu hx
        obtain ⟨hk, h⟩ := h
        refine good_put ?_ h
        obtain ⟨hb, _, _⟩ := bounds_of (len := b.size) hl hr hk
        rw [hop]
        simp only [opA, hx, sliceA, hu, hb, Option.map_some]
      · exact h.elim
    · exact good_plain h
  · -- rcut
    have hh := cond_wp h
    clear h
    rcases hh with ⟨_, h⟩ | ⟨_, h⟩
    · obtain ⟨t, x, lo, hi, l, r, hop, hl, hr, h⟩ := slC_wp h
      split at h
      · rename_i b ver sz off len hx
        split at h
        · rename_i e he
          split at h
          · rename_i sz' hsz
            have hh := cond_wp h
            clear h
            rcases hh with ⟨hz, h⟩ | ⟨_, h⟩
            · have hz := Nat.eq_of_beq_eq_true hz
              subst hz
              obtain ⟨hk, h⟩ := h
              refine good_put ?_ h
              obtain ⟨hb, _, _⟩ := bounds_of (len := len) hl hr hk
              rw [hop]
              simp only [opA, hx, sliceA, elemT_some he, hsz, Option.bind_some, hb]
              simp
            · exact h.elim
          · exact h.elim
        · exact h.elim
      · exact h.elim
    · exact good_plain h
  · -- rcut3
    have hh := cond_wp h
    clear h
    rcases hh with ⟨_, h⟩ | ⟨_, h⟩
    · split at h
      · rename_i t x y mi hop
        split at h
        · rename_i b ver sz off len _ hv _ mv hx hy hmx
          split at h
          · rename_i v cs e hb he
            split at h
            · rename_i sz' hsz
              have hh := cond_wp h
              clear h
              rcases hh with ⟨hz, h⟩ | ⟨_, h⟩
              · simp only [Bool.and_eq_true] at hz
                obtain ⟨⟨⟨z1, z2⟩, z3⟩, z4⟩ := hz
                have z1 := Nat.eq_of_beq_eq_true z1
                have z2 := Nat.eq_of_beq_eq_true z2
                have z3 := Nat.eq_of_beq_eq_true z3
                have z4 := Nat.eq_of_beq_eq_true z4
                subst z1 z2 z3
                obtain ⟨g1, g2, g3, g4, g5, h⟩ := h
                refine good_put ?_ h
                rw [hop]
                simp only [opA, Option.map_none, Option.map_some, hx, hy, show evalA s.t (.tmp mi) = s.t mi from rfl, hmx, slice3A, elemT_some he, hsz, Option.bind_some, intA]
                rw [if_neg (by simp), if_pos ⟨by omega, g5⟩]
                simp only [boundsA, boundA, intA, Option.bind_some, beq_self_eq_true, Option.isSome_some, Bool.and_self, Option.isNone_none, if_true]
                rw [if_pos ⟨by omega, by omega⟩]
                simp only [Option.bind_some]
                exact trim_row hb g1 z4 (by omega)
              · exact h.elim
            · exact h.elim
          · exact h.elim
        · exact h.elim
      · exact h.elim
    · exact good_plain h
  · -- sidx
    have hh := cond_wp h
    clear h
    rcases hh with ⟨_, h⟩ | ⟨_, h⟩
    · split at h
      · rename_i t x i hop
        split at h
        · rename_i b kd j hu hx hi
          obtain ⟨h0, c, hc, h⟩ := h
          refine good_put ?_ h
          rw [hop]
          simp only [opA, hx, hi, indexA, intA, Option.bind_some, hu]
          rw [if_neg (by omega), hc]
          rfl
        · exact h.elim
      · exact h.elim
    · exact good_plain h
  · -- bstr
    rename_i d len0 cs0 L k
    have hh := cond_wp h
    clear h
    rcases hh with ⟨_, h⟩ | ⟨_, h⟩
    · split at h
      · rename_i src dst x hop
        split at h
        · rename_i e b ver sz off len he hd hx
          split at h
          · rename_i row v cs hu hb
            have hh := cond_wp h
            clear h
            rcases hh with ⟨hz, h⟩ | ⟨_, h⟩
            · simp only [Bool.and_eq_true] at hz
              obtain ⟨⟨z1, z2⟩, z3⟩ := hz
              have z1 := Nat.eq_of_beq_eq_true z1
              have z2 := Nat.eq_of_beq_eq_true z2
              have z3 := Nat.eq_of_beq_eq_true z3
              subst z1 z2 z3
              obtain ⟨rfl, rfl, h⟩ := h
              refine good_put ?_ h
              rw [hop]
              simp only [opA, hx, convertA, elemT_some he, hd, hu, srcA, hb, Nat.beq_refl, beq_self_eq_true, Bool.and_self, if_true, Option.bind_some, List.drop_zero]
              have hlen : L.length * 1 = (rowC (L.map byteE.f)).length := by rw [byteE.elt.rowLen]; rfl
              rw [hlen, List.take_length, bytesOf_row]
              rfl
            · exact h.elim
          · exact h.elim
        · exact h.elim
      · exact h.elim
    · exact good_plain h
  · -- bstrl
    rename_i d xs0 L k
    have hh := cond_wp h
    clear h
    rcases hh with ⟨_, h⟩ | ⟨_, h⟩
    · split at h
      · rename_i src dst x hop
        split at h
        · rename_i e xs he hd hx
          split at h
          · rename_i hu
            obtain ⟨rfl, h⟩ := h
            refine good_put ?_ h
            rw [hop]
            simp only [opA, hx, convertA, elemT_some he, hd, hu, srcA]
            rw [if_pos (show ((L.map byteE.f).all fun y => y.cells.length == 1) = true from byteE.elt.all L)]
            simp only [Option.bind_some]
            have := bytesOf_row L
            unfold rowC at this
            rw [this]
            rfl
          · exact h.elim
        · exact h.elim
      · exact h.elim
    · exact good_plain h
  · -- sbyte
    have hh := cond_wp h
    clear h
    rcases hh with ⟨_, h⟩ | ⟨_, h⟩
    · split at h
      · rename_i src dst x hop
        split at h
        · rename_i e b hs he hx
          split at h
          · rename_i hu
            have h : (putS n s o.dst (.rs s.B.length 0 1 0 b.data.toList.length) (s.B ++ [.cells true 0 (rowC (b.data.toList.map byteE.f))]) _ κ).wp K := h
            refine good_put ?_ h
            rw [hop]
            simp only [opA, hx, convertA, elemT_some he, hs, hu]
            rw [byteCells, show b.size = b.data.toList.length from by rw [Array.length_toList]; rfl]
            rfl
          · exact h.elim
        · exact h.elim
      · exact h.elim
    · exact good_plain h
  · exact good_plain h

end Go.Ax
