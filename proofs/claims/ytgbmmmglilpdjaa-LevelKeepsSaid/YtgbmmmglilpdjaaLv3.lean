/- Ways, printed by gen/g2.py: big, Clone, order, Cut. -/
import Derived.Test.YtgbmmmglilpdjaaLv2
set_option linter.unusedVariables false
set_option linter.unusedSimpArgs false
namespace Go.Ax
open Go.Proofs Go.RowKit
set_option maxRecDepth 100000

theorem big_w1 (es : List Ent) (i : Int) (n : Int) (e1 : Ent)
    (h1 : decide (i < n) = true)
    (h2 : 0 ≤ i)
    (h3 : es[Int.toNat i]? = some e1)
    (h4 : decide ((e1.key.size : Int) > (200 : Int)) = true) :
    EvC LP ΓE 25 0 (nav [true, true, false, true, false, false] (bodyOf Try.f9)) ⟨tk [(8, vl (ents es)), (9, vi n), (10, vi i)], []⟩ .ret ⟨tk [(2, vb true)], []⟩ :=
  way_ev (l := [(2, vb true)]) (O := [.bool 11 true, .elem 12 e1.pv, .bool 17 true]) (fl := []) (ob := [decide (i < n) = true,
      0 ≤ i ∧ (ents es)[Int.toNat i]? = some e1.pv ∧ ((ents es).all fun y => y.cells.length == 4) = true,
      decide ((e1.key.size : Int) > (200 : Int)) = true]) (vs := [vb true]) (B1 := [Box.cells false 0 [vs e1.key, vn .u64 e1.seq, vb e1.del, vs e1.val]]) (by kernel_rfl) ⟨h1, (ents_at h2 h3), h4⟩ ⟨rfl, ⟨.inl ⟨rfl, rfl⟩, trivial⟩, trivial⟩

theorem big_w2 (es : List Ent) (i : Int) (n : Int) (e1 : Ent)
    (h1 : decide (i < n) = true)
    (h2 : 0 ≤ i)
    (h3 : es[Int.toNat i]? = some e1)
    (h4 : decide ((e1.key.size : Int) > (200 : Int)) = false)
    (h5 : decide ((e1.val.size : Int) > (200 : Int)) = true) :
    EvC LP ΓE 25 0 (nav [true, true, false, true, false, false] (bodyOf Try.f9)) ⟨tk [(8, vl (ents es)), (9, vi n), (10, vi i)], []⟩ .ret ⟨tk [(2, vb true)], []⟩ :=
  way_ev (l := [(2, vb true)]) (O := [.bool 11 true, .elem 12 e1.pv, .bool 17 false, .bool 22 true]) (fl := []) (ob := [decide (i < n) = true,
      0 ≤ i ∧ (ents es)[Int.toNat i]? = some e1.pv ∧ ((ents es).all fun y => y.cells.length == 4) = true,
      decide ((e1.key.size : Int) > (200 : Int)) = false,
      decide ((e1.val.size : Int) > (200 : Int)) = true]) (vs := [vb true]) (B1 := [Box.cells false 0 [vs e1.key, vn .u64 e1.seq, vb e1.del, vs e1.val]]) (by kernel_rfl) ⟨h1, (ents_at h2 h3), h4, h5⟩ ⟨rfl, ⟨.inl ⟨rfl, rfl⟩, trivial⟩, trivial⟩

theorem big_w3 (es : List Ent) (i : Int) (n : Int) (e1 : Ent)
    (h1 : decide (i < n) = true)
    (h2 : 0 ≤ i)
    (h3 : es[Int.toNat i]? = some e1)
    (h4 : decide ((e1.key.size : Int) > (200 : Int)) = false)
    (h5 : decide ((e1.val.size : Int) > (200 : Int)) = false)
    (h6 : IntKind.i64.wrap (i + 1) = i + 1) :
    EvC LP ΓE 25 0 (nav [true, true, false, true, false, false] (bodyOf Try.f9)) ⟨tk [(8, vl (ents es)), (9, vi n), (10, vi i)], []⟩ .normal ⟨tk [(8, vl (ents es)), (9, vi n), (10, vi (i + 1))], []⟩ :=
  way_ev (l := [(8, vl (ents es)), (9, vi n), (10, vi (i + 1))]) (O := [.bool 11 true, .elem 12 e1.pv, .bool 17 false, .bool 22 false, .int 24 (i + 1)]) (fl := []) (ob := [decide (i < n) = true,
      0 ≤ i ∧ (ents es)[Int.toNat i]? = some e1.pv ∧ ((ents es).all fun y => y.cells.length == 4) = true,
      decide ((e1.key.size : Int) > (200 : Int)) = false,
      decide ((e1.val.size : Int) > (200 : Int)) = false,
      IntKind.i64.wrap (i + 1) = i + 1]) (vs := [vl (ents es), vi n, vi (i + 1)]) (B1 := [Box.cells false 0 [vs e1.key, vn .u64 e1.seq, vb e1.del, vs e1.val]]) (by kernel_rfl) ⟨h1, (ents_at h2 h3), h4, h5, h6⟩ ⟨rfl, ⟨.inl ⟨rfl, rfl⟩, .inl ⟨rfl, rfl⟩, .inl ⟨rfl, rfl⟩, trivial⟩, trivial⟩

theorem big_w4 (es : List Ent) (i : Int) (n : Int)
    (h1 : decide (i < n) = false) :
    EvC LP ΓE 25 0 (nav [true, true, false, true, false, false] (bodyOf Try.f9)) ⟨tk [(8, vl (ents es)), (9, vi n), (10, vi i)], []⟩ (.exit 0) ⟨tk [], []⟩ :=
  way_ev (l := []) (O := [.bool 11 false]) (fl := []) (ob := [decide (i < n) = false]) (vs := []) (B1 := []) (by kernel_rfl) h1 ⟨rfl, trivial, trivial⟩

theorem bigf_w1 (es : List Ent)
    (h1 : decide ((es.length : Int) > (30 : Int)) = true) :
    EvC LP ΓE 25 0 (nav [] (bodyOf Try.f9)) ⟨tk [(0, vl (ents es))], []⟩ .ret ⟨tk [(2, vb true)], []⟩ :=
  way_ev (l := [(2, vb true)]) (O := [.int 6 (es.length : Int), .bool 7 true]) (fl := []) (ob := [((ents es).length : Int) = (es.length : Int),
      decide ((es.length : Int) > (30 : Int)) = true]) (vs := [vb true]) (B1 := []) (by kernel_rfl) ⟨(ents_len _), h1⟩ ⟨rfl, ⟨.inl ⟨rfl, rfl⟩, trivial⟩, trivial⟩

theorem bigf_w2 (es : List Ent)
    (h1 : decide ((es.length : Int) > (30 : Int)) = false)
    (h2 : EvX LP ΓE 25 0 true (nav [true, true, false, true, false, false] (bodyOf Try.f9)) ⟨tk [(8, vl (ents es)), (9, vi (es.length : Int)), (10, vi 0)], []⟩ .ret ⟨tk [(2, vb true)], []⟩) :
    EvC LP ΓE 25 0 (nav [] (bodyOf Try.f9)) ⟨tk [(0, vl (ents es))], []⟩ .ret ⟨tk [(2, vb true)], []⟩ :=
  way_ev (l := [(2, vb true)]) (O := [.int 6 (es.length : Int), .bool 7 false, .int 9 (es.length : Int), .weak [(8, vl (ents es)), (9, vi (es.length : Int)), (10, vi 0)] [] [], .loop .ret [(2, vb true)] []]) (fl := []) (ob := [((ents es).length : Int) = (es.length : Int),
      decide ((es.length : Int) > (30 : Int)) = false,
      ((ents es).length : Int) = (es.length : Int),
      WeakL 0 [] [vl (ents es), vi (es.length : Int), vi 0] [] [vl (ents es), vi (es.length : Int), vi 0] [],
      EvX LP ΓE 25 0 true (nav [true, true, false, true, false, false] (bodyOf Try.f9)) ⟨tk [(8, vl (ents es)), (9, vi (es.length : Int)), (10, vi 0)], []⟩ .ret ⟨tk [(2, vb true)], []⟩]) (vs := [vb true]) (B1 := []) (by kernel_rfl) ⟨(ents_len _), h1, (ents_len _), ⟨rfl, ⟨.inl ⟨rfl, rfl⟩, .inl ⟨rfl, rfl⟩, .inl ⟨rfl, rfl⟩, trivial⟩, trivial⟩, h2⟩ ⟨rfl, ⟨.inl ⟨rfl, rfl⟩, trivial⟩, trivial⟩

theorem bigf_w3 (es : List Ent)
    (h1 : decide ((es.length : Int) > (30 : Int)) = false)
    (h2 : EvX LP ΓE 25 0 true (nav [true, true, false, true, false, false] (bodyOf Try.f9)) ⟨tk [(8, vl (ents es)), (9, vi (es.length : Int)), (10, vi 0)], []⟩ (.exit 0) ⟨tk [], []⟩) :
    EvC LP ΓE 25 0 (nav [] (bodyOf Try.f9)) ⟨tk [(0, vl (ents es))], []⟩ .ret ⟨tk [(2, vb false)], []⟩ :=
  way_ev (l := [(2, vb false)]) (O := [.int 6 (es.length : Int), .bool 7 false, .int 9 (es.length : Int), .weak [(8, vl (ents es)), (9, vi (es.length : Int)), (10, vi 0)] [] [], .loop (.exit 0) [] []]) (fl := []) (ob := [((ents es).length : Int) = (es.length : Int),
      decide ((es.length : Int) > (30 : Int)) = false,
      ((ents es).length : Int) = (es.length : Int),
      WeakL 0 [] [vl (ents es), vi (es.length : Int), vi 0] [] [vl (ents es), vi (es.length : Int), vi 0] [],
      EvX LP ΓE 25 0 true (nav [true, true, false, true, false, false] (bodyOf Try.f9)) ⟨tk [(8, vl (ents es)), (9, vi (es.length : Int)), (10, vi 0)], []⟩ (.exit 0) ⟨tk [], []⟩]) (vs := [vb false]) (B1 := []) (by kernel_rfl) ⟨(ents_len _), h1, (ents_len _), ⟨rfl, ⟨.inl ⟨rfl, rfl⟩, .inl ⟨rfl, rfl⟩, .inl ⟨rfl, rfl⟩, trivial⟩, trivial⟩, h2⟩ ⟨rfl, ⟨.inl ⟨rfl, rfl⟩, trivial⟩, trivial⟩

theorem clone_w1 (es : List Ent)
    (h1 : es ≠ [])
    (h2 : (es.length : Int) ≤ 1000000000) :
    EvC LP ΓE 8 0 (nav [] (bodyOf Try.f26)) ⟨tk [(0, vl (ents es))], []⟩ .ret ⟨tk [(2, vl (ents es))], []⟩ :=
  way_ev (l := [(2, vl (ents es))]) (O := [.val 4 (vb false) none, .val 7 (.rs 0 1 4 0 es.length) (some [Box.cells true 1 (rowC (ents es))])]) (fl := []) (ob := [((binA LP .eql 22 (vl (ents es)) nilS).map fun q_ => (q_, [])) = some (vb false, []),
      appendA LP 22 22 [Box.cells true 0 []] (.rs 0 0 4 0 0) (vl (ents es)) = some (.rs 0 1 4 0 es.length, [Box.cells true 1 (rowC (ents es))])]) (vs := [.rs 0 1 4 0 es.length]) (B1 := [Box.cells true 1 (rowC (ents es))]) (by kernel_rfl) ⟨(ents_notnil h1), (ents_append0L es rfl h2)⟩ ⟨rfl, ⟨ents_seal (L := es) (by decide) rfl, trivial⟩, trivial⟩

theorem ordi_w1 (es : List Ent) (L : List Ent) (n : Int) (i : Int) (x : Ent) (k : Int) (e1 : Ent)
    (h1 : decide (k < (L.length : Int)) = true)
    (h2 : 0 ≤ k)
    (h3 : L[Int.toNat k]? = some e1)
    (h4 : decide ((e1.cmp x) < (0 : Int)) = true)
    (h5 : IntKind.i64.wrap (k + 1) = k + 1) :
    EvC LP ΓE 62 0 (nav [true, true, false, true, false, false, true, true, false, false, true, true, true, false, false, false] (bodyOf Try.f10)) ⟨tk [(3, vl (ents L)), (5, .ptr 0 0 0), (6, vi k), (9, vl (ents es)), (10, vi n), (11, vi i)], [Box.cells false 0 [vs x.key, vn .u64 x.seq, vb x.del, vs x.val]]⟩ .normal ⟨tk [(3, vl (ents L)), (5, .ptr 0 0 0), (6, vi (k + 1)), (9, vl (ents es)), (10, vi n), (11, vi i)], [Box.cells false 0 [vs x.key, vn .u64 x.seq, vb x.del, vs x.val]]⟩ :=
  way_ev (l := [(3, vl (ents L)), (5, .ptr 0 0 0), (6, vi (k + 1)), (9, vl (ents es)), (10, vi n), (11, vi i)]) (O := [.int 20 (L.length : Int), .bool 21 true, .elem 25 e1.pv, .call 28 (vi (e1.cmp x)), .bool 29 true, .int 32 (k + 1)]) (fl := [0]) (ob := [((ents L).length : Int) = (L.length : Int),
      decide (k < (L.length : Int)) = true,
      0 ≤ k ∧ (ents L)[Int.toNat k]? = some e1.pv ∧ ((ents L).all fun y => y.cells.length == 4) = true,
      gCmp [.agg [vs e1.key, vn .u64 e1.seq, vb e1.del, vs e1.val], .agg [vs x.key, vn .u64 x.seq, vb x.del, vs x.val]] = some (vi (e1.cmp x)),
      decide ((e1.cmp x) < (0 : Int)) = true,
      IntKind.i64.wrap (k + 1) = k + 1]) (vs := [vl (ents L), .ptr 0 0 0, vi (k + 1), vl (ents es), vi n, vi i]) (B1 := [Box.cells false 0 [vs x.key, vn .u64 x.seq, vb x.del, vs x.val]]) (by kernel_rfl) ⟨(ents_len _), h1, (ents_at h2 h3), (gCmp_eq e1 x), h4, h5⟩ ⟨rfl, ⟨.inl ⟨rfl, rfl⟩, .inl ⟨rfl, rfl⟩, .inl ⟨rfl, rfl⟩, .inl ⟨rfl, rfl⟩, .inl ⟨rfl, rfl⟩, .inl ⟨rfl, rfl⟩, trivial⟩, ⟨⟨_, rfl, ⟨.inl ⟨rfl, rfl⟩, .inl ⟨rfl, rfl⟩, .inl ⟨rfl, rfl⟩, .inl ⟨rfl, rfl⟩, trivial⟩⟩, trivial⟩⟩

theorem ordi_w2 (es : List Ent) (L : List Ent) (n : Int) (i : Int) (x : Ent) (k : Int) (e1 : Ent)
    (h1 : decide (k < (L.length : Int)) = true)
    (h2 : 0 ≤ k)
    (h3 : L[Int.toNat k]? = some e1)
    (h4 : decide ((e1.cmp x) < (0 : Int)) = false) :
    EvC LP ΓE 62 0 (nav [true, true, false, true, false, false, true, true, false, false, true, true, true, false, false, false] (bodyOf Try.f10)) ⟨tk [(3, vl (ents L)), (5, .ptr 0 0 0), (6, vi k), (9, vl (ents es)), (10, vi n), (11, vi i)], [Box.cells false 0 [vs x.key, vn .u64 x.seq, vb x.del, vs x.val]]⟩ (.exit 2) ⟨tk [(3, vl (ents L)), (5, .ptr 0 0 0), (6, vi k), (9, vl (ents es)), (10, vi n), (11, vi i)], [Box.cells false 0 [vs x.key, vn .u64 x.seq, vb x.del, vs x.val]]⟩ :=
  way_ev (l := [(3, vl (ents L)), (5, .ptr 0 0 0), (6, vi k), (9, vl (ents es)), (10, vi n), (11, vi i)]) (O := [.int 20 (L.length : Int), .bool 21 true, .elem 25 e1.pv, .call 28 (vi (e1.cmp x)), .bool 29 false]) (fl := [0]) (ob := [((ents L).length : Int) = (L.length : Int),
      decide (k < (L.length : Int)) = true,
      0 ≤ k ∧ (ents L)[Int.toNat k]? = some e1.pv ∧ ((ents L).all fun y => y.cells.length == 4) = true,
      gCmp [.agg [vs e1.key, vn .u64 e1.seq, vb e1.del, vs e1.val], .agg [vs x.key, vn .u64 x.seq, vb x.del, vs x.val]] = some (vi (e1.cmp x)),
      decide ((e1.cmp x) < (0 : Int)) = false]) (vs := [vl (ents L), .ptr 0 0 0, vi k, vl (ents es), vi n, vi i]) (B1 := [Box.cells false 0 [vs x.key, vn .u64 x.seq, vb x.del, vs x.val]]) (by kernel_rfl) ⟨(ents_len _), h1, (ents_at h2 h3), (gCmp_eq e1 x), h4⟩ ⟨rfl, ⟨.inl ⟨rfl, rfl⟩, .inl ⟨rfl, rfl⟩, .inl ⟨rfl, rfl⟩, .inl ⟨rfl, rfl⟩, .inl ⟨rfl, rfl⟩, .inl ⟨rfl, rfl⟩, trivial⟩, ⟨⟨_, rfl, ⟨.inl ⟨rfl, rfl⟩, .inl ⟨rfl, rfl⟩, .inl ⟨rfl, rfl⟩, .inl ⟨rfl, rfl⟩, trivial⟩⟩, trivial⟩⟩

theorem ordi_w3 (es : List Ent) (L : List Ent) (n : Int) (i : Int) (x : Ent) (k : Int)
    (h1 : decide (k < (L.length : Int)) = false) :
    EvC LP ΓE 62 0 (nav [true, true, false, true, false, false, true, true, false, false, true, true, true, false, false, false] (bodyOf Try.f10)) ⟨tk [(3, vl (ents L)), (5, .ptr 0 0 0), (6, vi k), (9, vl (ents es)), (10, vi n), (11, vi i)], [Box.cells false 0 [vs x.key, vn .u64 x.seq, vb x.del, vs x.val]]⟩ (.exit 2) ⟨tk [(3, vl (ents L)), (5, .ptr 0 0 0), (6, vi k), (9, vl (ents es)), (10, vi n), (11, vi i)], [Box.cells false 0 [vs x.key, vn .u64 x.seq, vb x.del, vs x.val]]⟩ :=
  way_ev (l := [(3, vl (ents L)), (5, .ptr 0 0 0), (6, vi k), (9, vl (ents es)), (10, vi n), (11, vi i)]) (O := [.int 20 (L.length : Int), .bool 21 false]) (fl := [0]) (ob := [((ents L).length : Int) = (L.length : Int),
      decide (k < (L.length : Int)) = false]) (vs := [vl (ents L), .ptr 0 0 0, vi k, vl (ents es), vi n, vi i]) (B1 := [Box.cells false 0 [vs x.key, vn .u64 x.seq, vb x.del, vs x.val]]) (by kernel_rfl) ⟨(ents_len _), h1⟩ ⟨rfl, ⟨.inl ⟨rfl, rfl⟩, .inl ⟨rfl, rfl⟩, .inl ⟨rfl, rfl⟩, .inl ⟨rfl, rfl⟩, .inl ⟨rfl, rfl⟩, .inl ⟨rfl, rfl⟩, trivial⟩, ⟨⟨_, rfl, ⟨.inl ⟨rfl, rfl⟩, .inl ⟨rfl, rfl⟩, .inl ⟨rfl, rfl⟩, .inl ⟨rfl, rfl⟩, trivial⟩⟩, trivial⟩⟩

theorem ordo_w1 (es : List Ent) (L : List Ent) (n : Int) (i : Int) (e1 : Ent)
    (h1 : decide (i < n) = true)
    (h2 : 0 ≤ i)
    (h3 : es[Int.toNat i]? = some e1)
    (h4 : (e1.check != (0 : Int)) = true)
    (h5 : IntKind.i64.wrap (i + 1) = i + 1) :
    EvC LP ΓE 62 0 (nav [true, true, false, true, false, false] (bodyOf Try.f10)) ⟨tk [(3, vl (ents L)), (9, vl (ents es)), (10, vi n), (11, vi i)], []⟩ .normal ⟨tk [(3, vl (ents L)), (9, vl (ents es)), (10, vi n), (11, vi (i + 1))], []⟩ :=
  way_ev (l := [(3, vl (ents L)), (9, vl (ents es)), (10, vi n), (11, vi (i + 1))]) (O := [.bool 12 true, .elem 13 e1.pv, .call 16 (vi e1.check), .bool 17 true, .int 60 (i + 1)]) (fl := []) (ob := [decide (i < n) = true,
      0 ≤ i ∧ (ents es)[Int.toNat i]? = some e1.pv ∧ ((ents es).all fun y => y.cells.length == 4) = true,
      gCheck [.agg [vs e1.key, vn .u64 e1.seq, vb e1.del, vs e1.val]] = some (vi e1.check),
      (e1.check != (0 : Int)) = true,
      IntKind.i64.wrap (i + 1) = i + 1]) (vs := [vl (ents L), vl (ents es), vi n, vi (i + 1)]) (B1 := [Box.cells false 0 [vs e1.key, vn .u64 e1.seq, vb e1.del, vs e1.val]]) (by kernel_rfl) ⟨h1, (ents_at h2 h3), (gCheck_eq e1), h4, h5⟩ ⟨rfl, ⟨.inl ⟨rfl, rfl⟩, .inl ⟨rfl, rfl⟩, .inl ⟨rfl, rfl⟩, .inl ⟨rfl, rfl⟩, trivial⟩, trivial⟩

theorem ordo_w2 (es : List Ent) (L : List Ent) (n : Int) (i : Int) (e1 : Ent) (p : Int) (e2 : Ent)
    (h1 : decide (i < n) = true)
    (h2 : 0 ≤ i)
    (h3 : es[Int.toNat i]? = some e1)
    (h4 : (e1.check != (0 : Int)) = false)
    (h5 : EvX LP ΓE 62 0 true (nav [true, true, false, true, false, false, true, true, false, false, true, true, true, false, false, false] (bodyOf Try.f10)) ⟨tk [(3, vl (ents L)), (5, .ptr 0 0 0), (6, vi 0), (9, vl (ents es)), (10, vi n), (11, vi i)], [Box.cells false 0 [vs e1.key, vn .u64 e1.seq, vb e1.del, vs e1.val]]⟩ (.exit 2) ⟨tk [(3, vl (ents L)), (5, .ptr 0 0 0), (6, vi p), (9, vl (ents es)), (10, vi n), (11, vi i)], [Box.cells false 0 [vs e1.key, vn .u64 e1.seq, vb e1.del, vs e1.val]]⟩)
    (h6 : decide (p < (L.length : Int)) = true)
    (h7 : 0 ≤ p)
    (h8 : L[Int.toNat p]? = some e2)
    (h9 : ((e2.cmp e1) == (0 : Int)) = true)
    (h10 : IntKind.i64.wrap (i + 1) = i + 1) :
    EvC LP ΓE 62 0 (nav [true, true, false, true, false, false] (bodyOf Try.f10)) ⟨tk [(3, vl (ents L)), (9, vl (ents es)), (10, vi n), (11, vi i)], []⟩ .normal ⟨tk [(3, vl (ents L)), (9, vl (ents es)), (10, vi n), (11, vi (i + 1))], []⟩ :=
  way_ev (l := [(3, vl (ents L)), (9, vl (ents es)), (10, vi n), (11, vi (i + 1))]) (O := [.bool 12 true, .elem 13 e1.pv, .call 16 (vi e1.check), .bool 17 false, .weak [(3, vl (ents L)), (5, .ptr 0 0 0), (6, vi 0), (9, vl (ents es)), (10, vi n), (11, vi i)] [Box.cells false 0 [vs e1.key, vn .u64 e1.seq, vb e1.del, vs e1.val]] [0], .loop (.exit 2) [(3, vl (ents L)), (5, .ptr 0 0 0), (6, vi p), (9, vl (ents es)), (10, vi n), (11, vi i)] [Box.cells false 0 [vs e1.key, vn .u64 e1.seq, vb e1.del, vs e1.val]], .int 35 (L.length : Int), .bool 36 true, .elem 40 e2.pv, .call 43 (vi (e2.cmp e1)), .bool 44 true, .int 60 (i + 1)]) (fl := []) (ob := [decide (i < n) = true,
      0 ≤ i ∧ (ents es)[Int.toNat i]? = some e1.pv ∧ ((ents es).all fun y => y.cells.length == 4) = true,
      gCheck [.agg [vs e1.key, vn .u64 e1.seq, vb e1.del, vs e1.val]] = some (vi e1.check),
      (e1.check != (0 : Int)) = false,
      WeakL 0 [0] [vl (ents L), .ptr 0 0 0, vi 0, vl (ents es), vi n, vi i] [Box.cells false 0 [vs e1.key, vn .u64 e1.seq, vb e1.del, vs e1.val]] [vl (ents L), .ptr 0 0 0, vi 0, vl (ents es), vi n, vi i] [Box.cells false 0 [vs e1.key, vn .u64 e1.seq, vb e1.del, vs e1.val]],
      EvX LP ΓE 62 0 true (nav [true, true, false, true, false, false, true, true, false, false, true, true, true, false, false, false] (bodyOf Try.f10)) ⟨tk [(3, vl (ents L)), (5, .ptr 0 0 0), (6, vi 0), (9, vl (ents es)), (10, vi n), (11, vi i)], [Box.cells false 0 [vs e1.key, vn .u64 e1.seq, vb e1.del, vs e1.val]]⟩ (.exit 2) ⟨tk [(3, vl (ents L)), (5, .ptr 0 0 0), (6, vi p), (9, vl (ents es)), (10, vi n), (11, vi i)], [Box.cells false 0 [vs e1.key, vn .u64 e1.seq, vb e1.del, vs e1.val]]⟩,
      ((ents L).length : Int) = (L.length : Int),
      decide (p < (L.length : Int)) = true,
      0 ≤ p ∧ (ents L)[Int.toNat p]? = some e2.pv ∧ ((ents L).all fun y => y.cells.length == 4) = true,
      gCmp [.agg [vs e2.key, vn .u64 e2.seq, vb e2.del, vs e2.val], .agg [vs e1.key, vn .u64 e1.seq, vb e1.del, vs e1.val]] = some (vi (e2.cmp e1)),
      ((e2.cmp e1) == (0 : Int)) = true,
      IntKind.i64.wrap (i + 1) = i + 1]) (vs := [vl (ents L), vl (ents es), vi n, vi (i + 1)]) (B1 := [Box.cells false 0 [vs e1.key, vn .u64 e1.seq, vb e1.del, vs e1.val]]) (by kernel_rfl) ⟨h1, (ents_at h2 h3), (gCheck_eq e1), h4, ⟨rfl, ⟨.inl ⟨rfl, rfl⟩, .inl ⟨rfl, rfl⟩, .inl ⟨rfl, rfl⟩, .inl ⟨rfl, rfl⟩, .inl ⟨rfl, rfl⟩, .inl ⟨rfl, rfl⟩, trivial⟩, ⟨⟨_, rfl, ⟨.inl ⟨rfl, rfl⟩, .inl ⟨rfl, rfl⟩, .inl ⟨rfl, rfl⟩, .inl ⟨rfl, rfl⟩, trivial⟩⟩, trivial⟩⟩, h5, (ents_len _), h6, (ents_at h7 h8), (gCmp_eq e2 e1), h9, h10⟩ ⟨rfl, ⟨.inl ⟨rfl, rfl⟩, .inl ⟨rfl, rfl⟩, .inl ⟨rfl, rfl⟩, .inl ⟨rfl, rfl⟩, trivial⟩, trivial⟩

theorem ordo_w3 (es : List Ent) (L : List Ent) (n : Int) (i : Int) (e1 : Ent) (p : Int) (e2 : Ent)
    (h1 : decide (i < n) = true)
    (h2 : 0 ≤ i)
    (h3 : es[Int.toNat i]? = some e1)
    (h4 : (e1.check != (0 : Int)) = false)
    (h5 : EvX LP ΓE 62 0 true (nav [true, true, false, true, false, false, true, true, false, false, true, true, true, false, false, false] (bodyOf Try.f10)) ⟨tk [(3, vl (ents L)), (5, .ptr 0 0 0), (6, vi 0), (9, vl (ents es)), (10, vi n), (11, vi i)], [Box.cells false 0 [vs e1.key, vn .u64 e1.seq, vb e1.del, vs e1.val]]⟩ (.exit 2) ⟨tk [(3, vl (ents L)), (5, .ptr 0 0 0), (6, vi p), (9, vl (ents es)), (10, vi n), (11, vi i)], [Box.cells false 0 [vs e1.key, vn .u64 e1.seq, vb e1.del, vs e1.val]]⟩)
    (h6 : decide (p < (L.length : Int)) = true)
    (h7 : 0 ≤ p)
    (h8 : L[Int.toNat p]? = some e2)
    (h9 : ((e2.cmp e1) == (0 : Int)) = false)
    (h10 : 0 ≤ p ∧ p ≤ (L.length : Int))
    (h11 : ((L.take (Int.toNat p)).length : Int) ≤ 1000000000)
    (h12 : (((L.take (Int.toNat p)) ++ ([e1])).length : Int) ≤ 1000000000)
    (h13 : ((((L.take (Int.toNat p)) ++ ([e1])) ++ (L.drop (Int.toNat p))).length : Int) ≤ 1000000000)
    (h14 : IntKind.i64.wrap (i + 1) = i + 1) :
    EvC LP ΓE 62 0 (nav [true, true, false, true, false, false] (bodyOf Try.f10)) ⟨tk [(3, vl (ents L)), (9, vl (ents es)), (10, vi n), (11, vi i)], []⟩ .normal ⟨tk [(3, vl (ents (((L.take (Int.toNat p)) ++ ([e1])) ++ (L.drop (Int.toNat p))))), (9, vl (ents es)), (10, vi n), (11, vi (i + 1))], []⟩ :=
  way_ev (l := [(3, vl (ents (((L.take (Int.toNat p)) ++ ([e1])) ++ (L.drop (Int.toNat p))))), (9, vl (ents es)), (10, vi n), (11, vi (i + 1))]) (O := [.bool 12 true, .elem 13 e1.pv, .call 16 (vi e1.check), .bool 17 false, .weak [(3, vl (ents L)), (5, .ptr 0 0 0), (6, vi 0), (9, vl (ents es)), (10, vi n), (11, vi i)] [Box.cells false 0 [vs e1.key, vn .u64 e1.seq, vb e1.del, vs e1.val]] [0], .loop (.exit 2) [(3, vl (ents L)), (5, .ptr 0 0 0), (6, vi p), (9, vl (ents es)), (10, vi n), (11, vi i)] [Box.cells false 0 [vs e1.key, vn .u64 e1.seq, vb e1.del, vs e1.val]], .int 35 (L.length : Int), .bool 36 true, .elem 40 e2.pv, .call 43 (vi (e2.cmp e1)), .bool 44 false, .val 49 (vl (ents (L.take (Int.toNat p)))) none, .val 50 (.rs 1 1 4 0 ((L.take (Int.toNat p)).length)) (some [Box.cells false 0 [vs e1.key, vn .u64 e1.seq, vb e1.del, vs e1.val], Box.cells true 1 (rowC (ents (L.take (Int.toNat p))))]), .val 54 (.rs 1 2 4 0 (((L.take (Int.toNat p)) ++ ([e1])).length)) (some [Box.cells false 0 [vs e1.key, vn .u64 e1.seq, vb e1.del, vs e1.val], Box.cells true 2 (rowC (ents ((L.take (Int.toNat p)) ++ ([e1])))), Box.cells true 0 [vs e1.key, vn .u64 e1.seq, vb e1.del, vs e1.val]]), .val 58 (vl (ents (L.drop (Int.toNat p)))) none, .val 59 (.rs 1 3 4 0 ((((L.take (Int.toNat p)) ++ ([e1])) ++ (L.drop (Int.toNat p))).length)) (some [Box.cells false 0 [vs e1.key, vn .u64 e1.seq, vb e1.del, vs e1.val], Box.cells true 3 (rowC (ents (((L.take (Int.toNat p)) ++ ([e1])) ++ (L.drop (Int.toNat p))))), Box.cells true 0 [vs e1.key, vn .u64 e1.seq, vb e1.del, vs e1.val]]), .int 60 (i + 1)]) (fl := []) (ob := [decide (i < n) = true,
      0 ≤ i ∧ (ents es)[Int.toNat i]? = some e1.pv ∧ ((ents es).all fun y => y.cells.length == 4) = true,
      gCheck [.agg [vs e1.key, vn .u64 e1.seq, vb e1.del, vs e1.val]] = some (vi e1.check),
      (e1.check != (0 : Int)) = false,
      WeakL 0 [0] [vl (ents L), .ptr 0 0 0, vi 0, vl (ents es), vi n, vi i] [Box.cells false 0 [vs e1.key, vn .u64 e1.seq, vb e1.del, vs e1.val]] [vl (ents L), .ptr 0 0 0, vi 0, vl (ents es), vi n, vi i] [Box.cells false 0 [vs e1.key, vn .u64 e1.seq, vb e1.del, vs e1.val]],
      EvX LP ΓE 62 0 true (nav [true, true, false, true, false, false, true, true, false, false, true, true, true, false, false, false] (bodyOf Try.f10)) ⟨tk [(3, vl (ents L)), (5, .ptr 0 0 0), (6, vi 0), (9, vl (ents es)), (10, vi n), (11, vi i)], [Box.cells false 0 [vs e1.key, vn .u64 e1.seq, vb e1.del, vs e1.val]]⟩ (.exit 2) ⟨tk [(3, vl (ents L)), (5, .ptr 0 0 0), (6, vi p), (9, vl (ents es)), (10, vi n), (11, vi i)], [Box.cells false 0 [vs e1.key, vn .u64 e1.seq, vb e1.del, vs e1.val]]⟩,
      ((ents L).length : Int) = (L.length : Int),
      decide (p < (L.length : Int)) = true,
      0 ≤ p ∧ (ents L)[Int.toNat p]? = some e2.pv ∧ ((ents L).all fun y => y.cells.length == 4) = true,
      gCmp [.agg [vs e2.key, vn .u64 e2.seq, vb e2.del, vs e2.val], .agg [vs e1.key, vn .u64 e1.seq, vb e1.del, vs e1.val]] = some (vi (e2.cmp e1)),
      ((e2.cmp e1) == (0 : Int)) = false,
      ((sliceA LP 22 [Box.cells false 0 [vs e1.key, vn .u64 e1.seq, vb e1.del, vs e1.val], Box.cells true 0 []] (vl (ents L)) none (some (vi p))).map fun q_ => (q_, [Box.cells false 0 [vs e1.key, vn .u64 e1.seq, vb e1.del, vs e1.val], Box.cells true 0 []])) = some (vl (ents (L.take (Int.toNat p))), [Box.cells false 0 [vs e1.key, vn .u64 e1.seq, vb e1.del, vs e1.val], Box.cells true 0 []]),
      appendA LP 22 22 [Box.cells false 0 [vs e1.key, vn .u64 e1.seq, vb e1.del, vs e1.val], Box.cells true 0 []] (.rs 1 0 4 0 0) (vl (ents (L.take (Int.toNat p)))) = some (.rs 1 1 4 0 ((L.take (Int.toNat p)).length), [Box.cells false 0 [vs e1.key, vn .u64 e1.seq, vb e1.del, vs e1.val], Box.cells true 1 (rowC (ents (L.take (Int.toNat p))))]),
      appendA LP 22 22 [Box.cells false 0 [vs e1.key, vn .u64 e1.seq, vb e1.del, vs e1.val], Box.cells true 1 (rowC (ents (L.take (Int.toNat p)))), Box.cells true 0 [vs e1.key, vn .u64 e1.seq, vb e1.del, vs e1.val]] (.rs 1 1 4 0 ((L.take (Int.toNat p)).length)) (.rs 2 0 4 0 1) = some (.rs 1 2 4 0 (((L.take (Int.toNat p)) ++ ([e1])).length), [Box.cells false 0 [vs e1.key, vn .u64 e1.seq, vb e1.del, vs e1.val], Box.cells true 2 (rowC (ents ((L.take (Int.toNat p)) ++ ([e1])))), Box.cells true 0 [vs e1.key, vn .u64 e1.seq, vb e1.del, vs e1.val]]),
      ((sliceA LP 22 [Box.cells false 0 [vs e1.key, vn .u64 e1.seq, vb e1.del, vs e1.val], Box.cells true 2 (rowC (ents ((L.take (Int.toNat p)) ++ ([e1])))), Box.cells true 0 [vs e1.key, vn .u64 e1.seq, vb e1.del, vs e1.val]] (vl (ents L)) (some (vi p)) none).map fun q_ => (q_, [Box.cells false 0 [vs e1.key, vn .u64 e1.seq, vb e1.del, vs e1.val], Box.cells true 2 (rowC (ents ((L.take (Int.toNat p)) ++ ([e1])))), Box.cells true 0 [vs e1.key, vn .u64 e1.seq, vb e1.del, vs e1.val]])) = some (vl (ents (L.drop (Int.toNat p))), [Box.cells false 0 [vs e1.key, vn .u64 e1.seq, vb e1.del, vs e1.val], Box.cells true 2 (rowC (ents ((L.take (Int.toNat p)) ++ ([e1])))), Box.cells true 0 [vs e1.key, vn .u64 e1.seq, vb e1.del, vs e1.val]]),
      appendA LP 22 22 [Box.cells false 0 [vs e1.key, vn .u64 e1.seq, vb e1.del, vs e1.val], Box.cells true 2 (rowC (ents ((L.take (Int.toNat p)) ++ ([e1])))), Box.cells true 0 [vs e1.key, vn .u64 e1.seq, vb e1.del, vs e1.val]] (.rs 1 2 4 0 (((L.take (Int.toNat p)) ++ ([e1])).length)) (vl (ents (L.drop (Int.toNat p)))) = some (.rs 1 3 4 0 ((((L.take (Int.toNat p)) ++ ([e1])) ++ (L.drop (Int.toNat p))).length), [Box.cells false 0 [vs e1.key, vn .u64 e1.seq, vb e1.del, vs e1.val], Box.cells true 3 (rowC (ents (((L.take (Int.toNat p)) ++ ([e1])) ++ (L.drop (Int.toNat p))))), Box.cells true 0 [vs e1.key, vn .u64 e1.seq, vb e1.del, vs e1.val]]),
      IntKind.i64.wrap (i + 1) = i + 1]) (vs := [.rs 1 3 4 0 ((((L.take (Int.toNat p)) ++ ([e1])) ++ (L.drop (Int.toNat p))).length), vl (ents es), vi n, vi (i + 1)]) (B1 := [Box.cells false 0 [vs e1.key, vn .u64 e1.seq, vb e1.del, vs e1.val], Box.cells true 3 (rowC (ents (((L.take (Int.toNat p)) ++ ([e1])) ++ (L.drop (Int.toNat p))))), Box.cells true 0 [vs e1.key, vn .u64 e1.seq, vb e1.del, vs e1.val]]) (by kernel_rfl) ⟨h1, (ents_at h2 h3), (gCheck_eq e1), h4, ⟨rfl, ⟨.inl ⟨rfl, rfl⟩, .inl ⟨rfl, rfl⟩, .inl ⟨rfl, rfl⟩, .inl ⟨rfl, rfl⟩, .inl ⟨rfl, rfl⟩, .inl ⟨rfl, rfl⟩, trivial⟩, ⟨⟨_, rfl, ⟨.inl ⟨rfl, rfl⟩, .inl ⟨rfl, rfl⟩, .inl ⟨rfl, rfl⟩, .inl ⟨rfl, rfl⟩, trivial⟩⟩, trivial⟩⟩, h5, (ents_len _), h6, (ents_at h7 h8), (gCmp_eq e2 e1), h9, (ents_slice_h h10), (ents_append0L (L.take (Int.toNat p)) rfl h11), (ents_appendR (L.take (Int.toNat p)) ([e1]) rfl rfl h12), (ents_slice_l h10), (ents_appendL ((L.take (Int.toNat p)) ++ ([e1])) (L.drop (Int.toNat p)) rfl h13), h14⟩ ⟨rfl, ⟨ents_seal (L := (((L.take (Int.toNat p)) ++ ([e1])) ++ (L.drop (Int.toNat p)))) (by decide) rfl, .inl ⟨rfl, rfl⟩, .inl ⟨rfl, rfl⟩, .inl ⟨rfl, rfl⟩, trivial⟩, trivial⟩

theorem ordo_w4 (es : List Ent) (L : List Ent) (n : Int) (i : Int) (e1 : Ent) (p : Int)
    (h1 : decide (i < n) = true)
    (h2 : 0 ≤ i)
    (h3 : es[Int.toNat i]? = some e1)
    (h4 : (e1.check != (0 : Int)) = false)
    (h5 : EvX LP ΓE 62 0 true (nav [true, true, false, true, false, false, true, true, false, false, true, true, true, false, false, false] (bodyOf Try.f10)) ⟨tk [(3, vl (ents L)), (5, .ptr 0 0 0), (6, vi 0), (9, vl (ents es)), (10, vi n), (11, vi i)], [Box.cells false 0 [vs e1.key, vn .u64 e1.seq, vb e1.del, vs e1.val]]⟩ (.exit 2) ⟨tk [(3, vl (ents L)), (5, .ptr 0 0 0), (6, vi p), (9, vl (ents es)), (10, vi n), (11, vi i)], [Box.cells false 0 [vs e1.key, vn .u64 e1.seq, vb e1.del, vs e1.val]]⟩)
    (h6 : decide (p < (L.length : Int)) = false)
    (h7 : 0 ≤ p ∧ p ≤ (L.length : Int))
    (h8 : ((L.take (Int.toNat p)).length : Int) ≤ 1000000000)
    (h9 : (((L.take (Int.toNat p)) ++ ([e1])).length : Int) ≤ 1000000000)
    (h10 : ((((L.take (Int.toNat p)) ++ ([e1])) ++ (L.drop (Int.toNat p))).length : Int) ≤ 1000000000)
    (h11 : IntKind.i64.wrap (i + 1) = i + 1) :
    EvC LP ΓE 62 0 (nav [true, true, false, true, false, false] (bodyOf Try.f10)) ⟨tk [(3, vl (ents L)), (9, vl (ents es)), (10, vi n), (11, vi i)], []⟩ .normal ⟨tk [(3, vl (ents (((L.take (Int.toNat p)) ++ ([e1])) ++ (L.drop (Int.toNat p))))), (9, vl (ents es)), (10, vi n), (11, vi (i + 1))], []⟩ :=
  way_ev (l := [(3, vl (ents (((L.take (Int.toNat p)) ++ ([e1])) ++ (L.drop (Int.toNat p))))), (9, vl (ents es)), (10, vi n), (11, vi (i + 1))]) (O := [.bool 12 true, .elem 13 e1.pv, .call 16 (vi e1.check), .bool 17 false, .weak [(3, vl (ents L)), (5, .ptr 0 0 0), (6, vi 0), (9, vl (ents es)), (10, vi n), (11, vi i)] [Box.cells false 0 [vs e1.key, vn .u64 e1.seq, vb e1.del, vs e1.val]] [0], .loop (.exit 2) [(3, vl (ents L)), (5, .ptr 0 0 0), (6, vi p), (9, vl (ents es)), (10, vi n), (11, vi i)] [Box.cells false 0 [vs e1.key, vn .u64 e1.seq, vb e1.del, vs e1.val]], .int 35 (L.length : Int), .bool 36 false, .val 49 (vl (ents (L.take (Int.toNat p)))) none, .val 50 (.rs 1 1 4 0 ((L.take (Int.toNat p)).length)) (some [Box.cells false 0 [vs e1.key, vn .u64 e1.seq, vb e1.del, vs e1.val], Box.cells true 1 (rowC (ents (L.take (Int.toNat p))))]), .val 54 (.rs 1 2 4 0 (((L.take (Int.toNat p)) ++ ([e1])).length)) (some [Box.cells false 0 [vs e1.key, vn .u64 e1.seq, vb e1.del, vs e1.val], Box.cells true 2 (rowC (ents ((L.take (Int.toNat p)) ++ ([e1])))), Box.cells true 0 [vs e1.key, vn .u64 e1.seq, vb e1.del, vs e1.val]]), .val 58 (vl (ents (L.drop (Int.toNat p)))) none, .val 59 (.rs 1 3 4 0 ((((L.take (Int.toNat p)) ++ ([e1])) ++ (L.drop (Int.toNat p))).length)) (some [Box.cells false 0 [vs e1.key, vn .u64 e1.seq, vb e1.del, vs e1.val], Box.cells true 3 (rowC (ents (((L.take (Int.toNat p)) ++ ([e1])) ++ (L.drop (Int.toNat p))))), Box.cells true 0 [vs e1.key, vn .u64 e1.seq, vb e1.del, vs e1.val]]), .int 60 (i + 1)]) (fl := []) (ob := [decide (i < n) = true,
      0 ≤ i ∧ (ents es)[Int.toNat i]? = some e1.pv ∧ ((ents es).all fun y => y.cells.length == 4) = true,
      gCheck [.agg [vs e1.key, vn .u64 e1.seq, vb e1.del, vs e1.val]] = some (vi e1.check),
      (e1.check != (0 : Int)) = false,
      WeakL 0 [0] [vl (ents L), .ptr 0 0 0, vi 0, vl (ents es), vi n, vi i] [Box.cells false 0 [vs e1.key, vn .u64 e1.seq, vb e1.del, vs e1.val]] [vl (ents L), .ptr 0 0 0, vi 0, vl (ents es), vi n, vi i] [Box.cells false 0 [vs e1.key, vn .u64 e1.seq, vb e1.del, vs e1.val]],
      EvX LP ΓE 62 0 true (nav [true, true, false, true, false, false, true, true, false, false, true, true, true, false, false, false] (bodyOf Try.f10)) ⟨tk [(3, vl (ents L)), (5, .ptr 0 0 0), (6, vi 0), (9, vl (ents es)), (10, vi n), (11, vi i)], [Box.cells false 0 [vs e1.key, vn .u64 e1.seq, vb e1.del, vs e1.val]]⟩ (.exit 2) ⟨tk [(3, vl (ents L)), (5, .ptr 0 0 0), (6, vi p), (9, vl (ents es)), (10, vi n), (11, vi i)], [Box.cells false 0 [vs e1.key, vn .u64 e1.seq, vb e1.del, vs e1.val]]⟩,
      ((ents L).length : Int) = (L.length : Int),
      decide (p < (L.length : Int)) = false,
      ((sliceA LP 22 [Box.cells false 0 [vs e1.key, vn .u64 e1.seq, vb e1.del, vs e1.val], Box.cells true 0 []] (vl (ents L)) none (some (vi p))).map fun q_ => (q_, [Box.cells false 0 [vs e1.key, vn .u64 e1.seq, vb e1.del, vs e1.val], Box.cells true 0 []])) = some (vl (ents (L.take (Int.toNat p))), [Box.cells false 0 [vs e1.key, vn .u64 e1.seq, vb e1.del, vs e1.val], Box.cells true 0 []]),
      appendA LP 22 22 [Box.cells false 0 [vs e1.key, vn .u64 e1.seq, vb e1.del, vs e1.val], Box.cells true 0 []] (.rs 1 0 4 0 0) (vl (ents (L.take (Int.toNat p)))) = some (.rs 1 1 4 0 ((L.take (Int.toNat p)).length), [Box.cells false 0 [vs e1.key, vn .u64 e1.seq, vb e1.del, vs e1.val], Box.cells true 1 (rowC (ents (L.take (Int.toNat p))))]),
      appendA LP 22 22 [Box.cells false 0 [vs e1.key, vn .u64 e1.seq, vb e1.del, vs e1.val], Box.cells true 1 (rowC (ents (L.take (Int.toNat p)))), Box.cells true 0 [vs e1.key, vn .u64 e1.seq, vb e1.del, vs e1.val]] (.rs 1 1 4 0 ((L.take (Int.toNat p)).length)) (.rs 2 0 4 0 1) = some (.rs 1 2 4 0 (((L.take (Int.toNat p)) ++ ([e1])).length), [Box.cells false 0 [vs e1.key, vn .u64 e1.seq, vb e1.del, vs e1.val], Box.cells true 2 (rowC (ents ((L.take (Int.toNat p)) ++ ([e1])))), Box.cells true 0 [vs e1.key, vn .u64 e1.seq, vb e1.del, vs e1.val]]),
      ((sliceA LP 22 [Box.cells false 0 [vs e1.key, vn .u64 e1.seq, vb e1.del, vs e1.val], Box.cells true 2 (rowC (ents ((L.take (Int.toNat p)) ++ ([e1])))), Box.cells true 0 [vs e1.key, vn .u64 e1.seq, vb e1.del, vs e1.val]] (vl (ents L)) (some (vi p)) none).map fun q_ => (q_, [Box.cells false 0 [vs e1.key, vn .u64 e1.seq, vb e1.del, vs e1.val], Box.cells true 2 (rowC (ents ((L.take (Int.toNat p)) ++ ([e1])))), Box.cells true 0 [vs e1.key, vn .u64 e1.seq, vb e1.del, vs e1.val]])) = some (vl (ents (L.drop (Int.toNat p))), [Box.cells false 0 [vs e1.key, vn .u64 e1.seq, vb e1.del, vs e1.val], Box.cells true 2 (rowC (ents ((L.take (Int.toNat p)) ++ ([e1])))), Box.cells true 0 [vs e1.key, vn .u64 e1.seq, vb e1.del, vs e1.val]]),
      appendA LP 22 22 [Box.cells false 0 [vs e1.key, vn .u64 e1.seq, vb e1.del, vs e1.val], Box.cells true 2 (rowC (ents ((L.take (Int.toNat p)) ++ ([e1])))), Box.cells true 0 [vs e1.key, vn .u64 e1.seq, vb e1.del, vs e1.val]] (.rs 1 2 4 0 (((L.take (Int.toNat p)) ++ ([e1])).length)) (vl (ents (L.drop (Int.toNat p)))) = some (.rs 1 3 4 0 ((((L.take (Int.toNat p)) ++ ([e1])) ++ (L.drop (Int.toNat p))).length), [Box.cells false 0 [vs e1.key, vn .u64 e1.seq, vb e1.del, vs e1.val], Box.cells true 3 (rowC (ents (((L.take (Int.toNat p)) ++ ([e1])) ++ (L.drop (Int.toNat p))))), Box.cells true 0 [vs e1.key, vn .u64 e1.seq, vb e1.del, vs e1.val]]),
      IntKind.i64.wrap (i + 1) = i + 1]) (vs := [.rs 1 3 4 0 ((((L.take (Int.toNat p)) ++ ([e1])) ++ (L.drop (Int.toNat p))).length), vl (ents es), vi n, vi (i + 1)]) (B1 := [Box.cells false 0 [vs e1.key, vn .u64 e1.seq, vb e1.del, vs e1.val], Box.cells true 3 (rowC (ents (((L.take (Int.toNat p)) ++ ([e1])) ++ (L.drop (Int.toNat p))))), Box.cells true 0 [vs e1.key, vn .u64 e1.seq, vb e1.del, vs e1.val]]) (by kernel_rfl) ⟨h1, (ents_at h2 h3), (gCheck_eq e1), h4, ⟨rfl, ⟨.inl ⟨rfl, rfl⟩, .inl ⟨rfl, rfl⟩, .inl ⟨rfl, rfl⟩, .inl ⟨rfl, rfl⟩, .inl ⟨rfl, rfl⟩, .inl ⟨rfl, rfl⟩, trivial⟩, ⟨⟨_, rfl, ⟨.inl ⟨rfl, rfl⟩, .inl ⟨rfl, rfl⟩, .inl ⟨rfl, rfl⟩, .inl ⟨rfl, rfl⟩, trivial⟩⟩, trivial⟩⟩, h5, (ents_len _), h6, (ents_slice_h h7), (ents_append0L (L.take (Int.toNat p)) rfl h8), (ents_appendR (L.take (Int.toNat p)) ([e1]) rfl rfl h9), (ents_slice_l h7), (ents_appendL ((L.take (Int.toNat p)) ++ ([e1])) (L.drop (Int.toNat p)) rfl h10), h11⟩ ⟨rfl, ⟨ents_seal (L := (((L.take (Int.toNat p)) ++ ([e1])) ++ (L.drop (Int.toNat p)))) (by decide) rfl, .inl ⟨rfl, rfl⟩, .inl ⟨rfl, rfl⟩, .inl ⟨rfl, rfl⟩, trivial⟩, trivial⟩

theorem ordo_w5 (es : List Ent) (L : List Ent) (n : Int) (i : Int)
    (h1 : decide (i < n) = false) :
    EvC LP ΓE 62 0 (nav [true, true, false, true, false, false] (bodyOf Try.f10)) ⟨tk [(3, vl (ents L)), (9, vl (ents es)), (10, vi n), (11, vi i)], []⟩ (.exit 0) ⟨tk [(3, vl (ents L))], []⟩ :=
  way_ev (l := [(3, vl (ents L))]) (O := [.bool 12 false]) (fl := []) (ob := [decide (i < n) = false]) (vs := [vl (ents L)]) (B1 := []) (by kernel_rfl) h1 ⟨rfl, ⟨.inl ⟨rfl, rfl⟩, trivial⟩, trivial⟩

theorem ordf_w1 (es : List Ent) (R : List Ent)
    (h1 : EvX LP ΓE 62 0 true (nav [true, true, false, true, false, false] (bodyOf Try.f10)) ⟨tk [(3, vl (ents ([]))), (9, vl (ents es)), (10, vi (es.length : Int)), (11, vi 0)], []⟩ (.exit 0) ⟨tk [(3, vl (ents R))], []⟩) :
    EvC LP ΓE 62 0 (nav [] (bodyOf Try.f10)) ⟨tk [(0, vl (ents es))], []⟩ .ret ⟨tk [(2, vl (ents R))], []⟩ :=
  way_ev (l := [(2, vl (ents R))]) (O := [.int 10 (es.length : Int), .weak [(3, vl (ents ([]))), (9, vl (ents es)), (10, vi (es.length : Int)), (11, vi 0)] [] [], .loop (.exit 0) [(3, vl (ents R))] []]) (fl := []) (ob := [((ents es).length : Int) = (es.length : Int),
      WeakL 0 [] [.rs 0 0 4 0 0, vl (ents es), vi (es.length : Int), vi 0] [Box.cells true 0 []] [vl (ents ([])), vl (ents es), vi (es.length : Int), vi 0] [],
      EvX LP ΓE 62 0 true (nav [true, true, false, true, false, false] (bodyOf Try.f10)) ⟨tk [(3, vl (ents ([]))), (9, vl (ents es)), (10, vi (es.length : Int)), (11, vi 0)], []⟩ (.exit 0) ⟨tk [(3, vl (ents R))], []⟩]) (vs := [vl (ents R)]) (B1 := []) (by kernel_rfl) ⟨(ents_len _), ⟨rfl, ⟨ents_seal (L := []) (by decide) rfl, .inl ⟨rfl, rfl⟩, .inl ⟨rfl, rfl⟩, .inl ⟨rfl, rfl⟩, trivial⟩, trivial⟩, h1⟩ ⟨rfl, ⟨.inl ⟨rfl, rfl⟩, trivial⟩, trivial⟩

end Go.Ax
