/- Ways, printed by gen/g3.py: Cut. -/
import Derived.Test.YtgbmmmglilpdjaaLv4
set_option linter.unusedVariables false
set_option linter.unusedSimpArgs false
namespace Go.Ax
open Go.Proofs Go.RowKit
set_option maxRecDepth 100000

theorem cut0_w1 (es : List Ent) (size : Int) (fr : Int) (sum : Int) (n : Int) (i : Int) (e1 : Ent)
    (h1 : decide (i < n) = true)
    (h2 : 0 ≤ i)
    (h3 : es[Int.toNat i]? = some e1)
    (h4 : IntKind.i64.wrap ((e1.key.size : Int) + (e1.val.size : Int)) = (e1.key.size : Int) + (e1.val.size : Int))
    (h5 : IntKind.i64.wrap (sum + ((e1.key.size : Int) + (e1.val.size : Int))) = sum + ((e1.key.size : Int) + (e1.val.size : Int)))
    (h6 : IntKind.i64.wrap (i + 1) = i + 1)
    (h7 : (i + 1 == (es.length : Int)) = true)
    (h8 : 0 ≤ (i + 1) ∧ (i + 1) ≤ (es.length : Int))
    (h9 : 0 ≤ fr ∧ fr ≤ (i + 1))
    (h10 : ((es.take (Int.toNat (i + 1))).drop (Int.toNat fr)) ≠ [])
    (h11 : (((es.take (Int.toNat (i + 1))).drop (Int.toNat fr)).length : Int) ≤ 1000000000)
    (h12 : (([((es.take (Int.toNat (i + 1))).drop (Int.toNat fr))]).length : Int) ≤ 1000000000) :
    EvC LP ΓC 60 0 (nav [true, true, true, false, true, false, false] (bodyOf Try.f13)) ⟨tk [(0, vl (ents es)), (1, vi size), (5, nilS), (6, vi fr), (7, vi sum), (10, vl (ents es)), (11, vi n), (12, vi i)], []⟩ .normal ⟨tk [(0, vl (ents es)), (1, vi size), (5, .rs 0 0 1 0 (([((es.take (Int.toNat (i + 1))).drop (Int.toNat fr))]).length)), (6, vi (i + 1)), (7, vi 0), (10, vl (ents es)), (11, vi n), (12, vi (i + 1))], [Box.cells true 0 (rowC (entss ([((es.take (Int.toNat (i + 1))).drop (Int.toNat fr))])))]⟩ :=
  way_ev (l := [(0, vl (ents es)), (1, vi size), (5, .rs 0 0 1 0 (([((es.take (Int.toNat (i + 1))).drop (Int.toNat fr))]).length)), (6, vi (i + 1)), (7, vi 0), (10, vl (ents es)), (11, vi n), (12, vi (i + 1))]) (O := [.bool 13 true, .elem 15 e1.pv, .int 24 ((e1.key.size : Int) + (e1.val.size : Int)), .int 25 (sum + ((e1.key.size : Int) + (e1.val.size : Int))), .int 27 (i + 1), .int 29 (es.length : Int), .bool 30 true, .int 51 (i + 1), .val 52 (vl (ents ((es.take (Int.toNat (i + 1))).drop (Int.toNat fr)))) none, .call 53 (vl (ents ((es.take (Int.toNat (i + 1))).drop (Int.toNat fr)))), .val 55 (.rs 2 0 1 0 (([((es.take (Int.toNat (i + 1))).drop (Int.toNat fr))]).length)) (some [Box.cells false 0 [vs e1.key, vn .u64 e1.seq, vb e1.del, vs e1.val], Box.cells true 0 [vl (ents ((es.take (Int.toNat (i + 1))).drop (Int.toNat fr)))], Box.cells true 0 (rowC (entss ([((es.take (Int.toNat (i + 1))).drop (Int.toNat fr))])))]), .int 57 (i + 1), .int 58 (i + 1)]) (fl := [2]) (ob := [decide (i < n) = true,
      0 ≤ i ∧ (ents es)[Int.toNat i]? = some e1.pv ∧ ((ents es).all fun y => y.cells.length == 4) = true,
      IntKind.i64.wrap ((e1.key.size : Int) + (e1.val.size : Int)) = (e1.key.size : Int) + (e1.val.size : Int),
      IntKind.i64.wrap (sum + ((e1.key.size : Int) + (e1.val.size : Int))) = sum + ((e1.key.size : Int) + (e1.val.size : Int)),
      IntKind.i64.wrap (i + 1) = i + 1,
      ((ents es).length : Int) = (es.length : Int),
      (i + 1 == (es.length : Int)) = true,
      IntKind.i64.wrap (i + 1) = i + 1,
      ((sliceA LP 22 [Box.cells false 0 [vs e1.key, vn .u64 e1.seq, vb e1.del, vs e1.val]] (vl (ents es)) (some (vi fr)) (some (vi (i + 1)))).map fun q_ => (q_, [Box.cells false 0 [vs e1.key, vn .u64 e1.seq, vb e1.del, vs e1.val]])) = some (vl (ents ((es.take (Int.toNat (i + 1))).drop (Int.toNat fr))), [Box.cells false 0 [vs e1.key, vn .u64 e1.seq, vb e1.del, vs e1.val]]),
      gClone [vl (ents ((es.take (Int.toNat (i + 1))).drop (Int.toNat fr)))] = some (vl (ents ((es.take (Int.toNat (i + 1))).drop (Int.toNat fr)))),
      appendA LP 35 35 [Box.cells false 0 [vs e1.key, vn .u64 e1.seq, vb e1.del, vs e1.val], Box.cells true 0 [vl (ents ((es.take (Int.toNat (i + 1))).drop (Int.toNat fr)))]] (nilS) (.rs 1 0 1 0 1) = some (.rs 2 0 1 0 (([((es.take (Int.toNat (i + 1))).drop (Int.toNat fr))]).length), [Box.cells false 0 [vs e1.key, vn .u64 e1.seq, vb e1.del, vs e1.val], Box.cells true 0 [vl (ents ((es.take (Int.toNat (i + 1))).drop (Int.toNat fr)))], Box.cells true 0 (rowC (entss ([((es.take (Int.toNat (i + 1))).drop (Int.toNat fr))])))]),
      IntKind.i64.wrap (i + 1) = i + 1,
      IntKind.i64.wrap (i + 1) = i + 1]) (vs := [vl (ents es), vi size, .rs 2 0 1 0 (([((es.take (Int.toNat (i + 1))).drop (Int.toNat fr))]).length), vi (i + 1), vi 0, vl (ents es), vi n, vi (i + 1)]) (B1 := [Box.cells false 0 [vs e1.key, vn .u64 e1.seq, vb e1.del, vs e1.val], Box.cells true 0 [vl (ents ((es.take (Int.toNat (i + 1))).drop (Int.toNat fr)))], Box.cells true 0 (rowC (entss ([((es.take (Int.toNat (i + 1))).drop (Int.toNat fr))])))]) (by kernel_rfl) ⟨h1, (ents_at h2 h3), h4, h5, h6, (ents_len _), h7, h6, (ents_slice_lh h8 h9), (gClone_eq h10 h11), (entss_appendnilR ([((es.take (Int.toNat (i + 1))).drop (Int.toNat fr))]) rfl h12), h6, h6⟩ ⟨rfl, ⟨.inl ⟨rfl, rfl⟩, .inl ⟨rfl, rfl⟩, .inl ⟨rfl, rfl⟩, .inl ⟨rfl, rfl⟩, .inl ⟨rfl, rfl⟩, .inl ⟨rfl, rfl⟩, .inl ⟨rfl, rfl⟩, .inl ⟨rfl, rfl⟩, trivial⟩, ⟨⟨_, rfl, row_cells2 _⟩, trivial⟩⟩

theorem cut0_w2 (es : List Ent) (size : Int) (fr : Int) (sum : Int) (n : Int) (i : Int) (e1 : Ent) (e2 : Ent)
    (h1 : decide (i < n) = true)
    (h2 : 0 ≤ i)
    (h3 : es[Int.toNat i]? = some e1)
    (h4 : IntKind.i64.wrap ((e1.key.size : Int) + (e1.val.size : Int)) = (e1.key.size : Int) + (e1.val.size : Int))
    (h5 : IntKind.i64.wrap (sum + ((e1.key.size : Int) + (e1.val.size : Int))) = sum + ((e1.key.size : Int) + (e1.val.size : Int)))
    (h6 : IntKind.i64.wrap (i + 1) = i + 1)
    (h7 : (i + 1 == (es.length : Int)) = false)
    (h8 : decide (sum + ((e1.key.size : Int) + (e1.val.size : Int)) ≥ size) = true)
    (h9 : 0 ≤ (i + 1))
    (h10 : es[Int.toNat (i + 1)]? = some e2)
    (h11 : (!(e2.key.toList == e1.key.toList)) = true)
    (h12 : 0 ≤ (i + 1) ∧ (i + 1) ≤ (es.length : Int))
    (h13 : 0 ≤ fr ∧ fr ≤ (i + 1))
    (h14 : ((es.take (Int.toNat (i + 1))).drop (Int.toNat fr)) ≠ [])
    (h15 : (((es.take (Int.toNat (i + 1))).drop (Int.toNat fr)).length : Int) ≤ 1000000000)
    (h16 : (([((es.take (Int.toNat (i + 1))).drop (Int.toNat fr))]).length : Int) ≤ 1000000000) :
    EvC LP ΓC 60 0 (nav [true, true, true, false, true, false, false] (bodyOf Try.f13)) ⟨tk [(0, vl (ents es)), (1, vi size), (5, nilS), (6, vi fr), (7, vi sum), (10, vl (ents es)), (11, vi n), (12, vi i)], []⟩ .normal ⟨tk [(0, vl (ents es)), (1, vi size), (5, .rs 0 0 1 0 (([((es.take (Int.toNat (i + 1))).drop (Int.toNat fr))]).length)), (6, vi (i + 1)), (7, vi 0), (10, vl (ents es)), (11, vi n), (12, vi (i + 1))], [Box.cells true 0 (rowC (entss ([((es.take (Int.toNat (i + 1))).drop (Int.toNat fr))])))]⟩ :=
  way_ev (l := [(0, vl (ents es)), (1, vi size), (5, .rs 0 0 1 0 (([((es.take (Int.toNat (i + 1))).drop (Int.toNat fr))]).length)), (6, vi (i + 1)), (7, vi 0), (10, vl (ents es)), (11, vi n), (12, vi (i + 1))]) (O := [.bool 13 true, .elem 15 e1.pv, .int 24 ((e1.key.size : Int) + (e1.val.size : Int)), .int 25 (sum + ((e1.key.size : Int) + (e1.val.size : Int))), .int 27 (i + 1), .int 29 (es.length : Int), .bool 30 false, .bool 34 true, .int 38 (i + 1), .elem 39 e2.pv, .bool 44 true, .int 51 (i + 1), .val 52 (vl (ents ((es.take (Int.toNat (i + 1))).drop (Int.toNat fr)))) none, .call 53 (vl (ents ((es.take (Int.toNat (i + 1))).drop (Int.toNat fr)))), .val 55 (.rs 2 0 1 0 (([((es.take (Int.toNat (i + 1))).drop (Int.toNat fr))]).length)) (some [Box.cells false 0 [vs e1.key, vn .u64 e1.seq, vb e1.del, vs e1.val], Box.cells true 0 [vl (ents ((es.take (Int.toNat (i + 1))).drop (Int.toNat fr)))], Box.cells true 0 (rowC (entss ([((es.take (Int.toNat (i + 1))).drop (Int.toNat fr))])))]), .int 57 (i + 1), .int 58 (i + 1)]) (fl := [2]) (ob := [decide (i < n) = true,
      0 ≤ i ∧ (ents es)[Int.toNat i]? = some e1.pv ∧ ((ents es).all fun y => y.cells.length == 4) = true,
      IntKind.i64.wrap ((e1.key.size : Int) + (e1.val.size : Int)) = (e1.key.size : Int) + (e1.val.size : Int),
      IntKind.i64.wrap (sum + ((e1.key.size : Int) + (e1.val.size : Int))) = sum + ((e1.key.size : Int) + (e1.val.size : Int)),
      IntKind.i64.wrap (i + 1) = i + 1,
      ((ents es).length : Int) = (es.length : Int),
      (i + 1 == (es.length : Int)) = false,
      decide (sum + ((e1.key.size : Int) + (e1.val.size : Int)) ≥ size) = true,
      IntKind.i64.wrap (i + 1) = i + 1,
      0 ≤ (i + 1) ∧ (ents es)[Int.toNat (i + 1)]? = some e2.pv ∧ ((ents es).all fun y => y.cells.length == 4) = true,
      (!(e2.key.toList == e1.key.toList)) = true,
      IntKind.i64.wrap (i + 1) = i + 1,
      ((sliceA LP 22 [Box.cells false 0 [vs e1.key, vn .u64 e1.seq, vb e1.del, vs e1.val]] (vl (ents es)) (some (vi fr)) (some (vi (i + 1)))).map fun q_ => (q_, [Box.cells false 0 [vs e1.key, vn .u64 e1.seq, vb e1.del, vs e1.val]])) = some (vl (ents ((es.take (Int.toNat (i + 1))).drop (Int.toNat fr))), [Box.cells false 0 [vs e1.key, vn .u64 e1.seq, vb e1.del, vs e1.val]]),
      gClone [vl (ents ((es.take (Int.toNat (i + 1))).drop (Int.toNat fr)))] = some (vl (ents ((es.take (Int.toNat (i + 1))).drop (Int.toNat fr)))),
      appendA LP 35 35 [Box.cells false 0 [vs e1.key, vn .u64 e1.seq, vb e1.del, vs e1.val], Box.cells true 0 [vl (ents ((es.take (Int.toNat (i + 1))).drop (Int.toNat fr)))]] (nilS) (.rs 1 0 1 0 1) = some (.rs 2 0 1 0 (([((es.take (Int.toNat (i + 1))).drop (Int.toNat fr))]).length), [Box.cells false 0 [vs e1.key, vn .u64 e1.seq, vb e1.del, vs e1.val], Box.cells true 0 [vl (ents ((es.take (Int.toNat (i + 1))).drop (Int.toNat fr)))], Box.cells true 0 (rowC (entss ([((es.take (Int.toNat (i + 1))).drop (Int.toNat fr))])))]),
      IntKind.i64.wrap (i + 1) = i + 1,
      IntKind.i64.wrap (i + 1) = i + 1]) (vs := [vl (ents es), vi size, .rs 2 0 1 0 (([((es.take (Int.toNat (i + 1))).drop (Int.toNat fr))]).length), vi (i + 1), vi 0, vl (ents es), vi n, vi (i + 1)]) (B1 := [Box.cells false 0 [vs e1.key, vn .u64 e1.seq, vb e1.del, vs e1.val], Box.cells true 0 [vl (ents ((es.take (Int.toNat (i + 1))).drop (Int.toNat fr)))], Box.cells true 0 (rowC (entss ([((es.take (Int.toNat (i + 1))).drop (Int.toNat fr))])))]) (by kernel_rfl) ⟨h1, (ents_at h2 h3), h4, h5, h6, (ents_len _), h7, h8, h6, (ents_at h9 h10), h11, h6, (ents_slice_lh h12 h13), (gClone_eq h14 h15), (entss_appendnilR ([((es.take (Int.toNat (i + 1))).drop (Int.toNat fr))]) rfl h16), h6, h6⟩ ⟨rfl, ⟨.inl ⟨rfl, rfl⟩, .inl ⟨rfl, rfl⟩, .inl ⟨rfl, rfl⟩, .inl ⟨rfl, rfl⟩, .inl ⟨rfl, rfl⟩, .inl ⟨rfl, rfl⟩, .inl ⟨rfl, rfl⟩, .inl ⟨rfl, rfl⟩, trivial⟩, ⟨⟨_, rfl, row_cells2 _⟩, trivial⟩⟩

theorem cut0_w3 (es : List Ent) (size : Int) (fr : Int) (sum : Int) (n : Int) (i : Int) (e1 : Ent) (e2 : Ent)
    (h1 : decide (i < n) = true)
    (h2 : 0 ≤ i)
    (h3 : es[Int.toNat i]? = some e1)
    (h4 : IntKind.i64.wrap ((e1.key.size : Int) + (e1.val.size : Int)) = (e1.key.size : Int) + (e1.val.size : Int))
    (h5 : IntKind.i64.wrap (sum + ((e1.key.size : Int) + (e1.val.size : Int))) = sum + ((e1.key.size : Int) + (e1.val.size : Int)))
    (h6 : IntKind.i64.wrap (i + 1) = i + 1)
    (h7 : (i + 1 == (es.length : Int)) = false)
    (h8 : decide (sum + ((e1.key.size : Int) + (e1.val.size : Int)) ≥ size) = true)
    (h9 : 0 ≤ (i + 1))
    (h10 : es[Int.toNat (i + 1)]? = some e2)
    (h11 : (!(e2.key.toList == e1.key.toList)) = false) :
    EvC LP ΓC 60 0 (nav [true, true, true, false, true, false, false] (bodyOf Try.f13)) ⟨tk [(0, vl (ents es)), (1, vi size), (5, nilS), (6, vi fr), (7, vi sum), (10, vl (ents es)), (11, vi n), (12, vi i)], []⟩ .normal ⟨tk [(0, vl (ents es)), (1, vi size), (5, nilS), (6, vi fr), (7, vi (sum + ((e1.key.size : Int) + (e1.val.size : Int)))), (10, vl (ents es)), (11, vi n), (12, vi (i + 1))], []⟩ :=
  way_ev (l := [(0, vl (ents es)), (1, vi size), (5, nilS), (6, vi fr), (7, vi (sum + ((e1.key.size : Int) + (e1.val.size : Int)))), (10, vl (ents es)), (11, vi n), (12, vi (i + 1))]) (O := [.bool 13 true, .elem 15 e1.pv, .int 24 ((e1.key.size : Int) + (e1.val.size : Int)), .int 25 (sum + ((e1.key.size : Int) + (e1.val.size : Int))), .int 27 (i + 1), .int 29 (es.length : Int), .bool 30 false, .bool 34 true, .int 38 (i + 1), .elem 39 e2.pv, .bool 44 false, .int 58 (i + 1)]) (fl := []) (ob := [decide (i < n) = true,
      0 ≤ i ∧ (ents es)[Int.toNat i]? = some e1.pv ∧ ((ents es).all fun y => y.cells.length == 4) = true,
      IntKind.i64.wrap ((e1.key.size : Int) + (e1.val.size : Int)) = (e1.key.size : Int) + (e1.val.size : Int),
      IntKind.i64.wrap (sum + ((e1.key.size : Int) + (e1.val.size : Int))) = sum + ((e1.key.size : Int) + (e1.val.size : Int)),
      IntKind.i64.wrap (i + 1) = i + 1,
      ((ents es).length : Int) = (es.length : Int),
      (i + 1 == (es.length : Int)) = false,
      decide (sum + ((e1.key.size : Int) + (e1.val.size : Int)) ≥ size) = true,
      IntKind.i64.wrap (i + 1) = i + 1,
      0 ≤ (i + 1) ∧ (ents es)[Int.toNat (i + 1)]? = some e2.pv ∧ ((ents es).all fun y => y.cells.length == 4) = true,
      (!(e2.key.toList == e1.key.toList)) = false,
      IntKind.i64.wrap (i + 1) = i + 1]) (vs := [vl (ents es), vi size, nilS, vi fr, vi (sum + ((e1.key.size : Int) + (e1.val.size : Int))), vl (ents es), vi n, vi (i + 1)]) (B1 := [Box.cells false 0 [vs e1.key, vn .u64 e1.seq, vb e1.del, vs e1.val]]) (by kernel_rfl) ⟨h1, (ents_at h2 h3), h4, h5, h6, (ents_len _), h7, h8, h6, (ents_at h9 h10), h11, h6⟩ ⟨rfl, ⟨.inl ⟨rfl, rfl⟩, .inl ⟨rfl, rfl⟩, .inl ⟨rfl, rfl⟩, .inl ⟨rfl, rfl⟩, .inl ⟨rfl, rfl⟩, .inl ⟨rfl, rfl⟩, .inl ⟨rfl, rfl⟩, .inl ⟨rfl, rfl⟩, trivial⟩, trivial⟩

theorem cut0_w4 (es : List Ent) (size : Int) (fr : Int) (sum : Int) (n : Int) (i : Int) (e1 : Ent)
    (h1 : decide (i < n) = true)
    (h2 : 0 ≤ i)
    (h3 : es[Int.toNat i]? = some e1)
    (h4 : IntKind.i64.wrap ((e1.key.size : Int) + (e1.val.size : Int)) = (e1.key.size : Int) + (e1.val.size : Int))
    (h5 : IntKind.i64.wrap (sum + ((e1.key.size : Int) + (e1.val.size : Int))) = sum + ((e1.key.size : Int) + (e1.val.size : Int)))
    (h6 : IntKind.i64.wrap (i + 1) = i + 1)
    (h7 : (i + 1 == (es.length : Int)) = false)
    (h8 : decide (sum + ((e1.key.size : Int) + (e1.val.size : Int)) ≥ size) = false) :
    EvC LP ΓC 60 0 (nav [true, true, true, false, true, false, false] (bodyOf Try.f13)) ⟨tk [(0, vl (ents es)), (1, vi size), (5, nilS), (6, vi fr), (7, vi sum), (10, vl (ents es)), (11, vi n), (12, vi i)], []⟩ .normal ⟨tk [(0, vl (ents es)), (1, vi size), (5, nilS), (6, vi fr), (7, vi (sum + ((e1.key.size : Int) + (e1.val.size : Int)))), (10, vl (ents es)), (11, vi n), (12, vi (i + 1))], []⟩ :=
  way_ev (l := [(0, vl (ents es)), (1, vi size), (5, nilS), (6, vi fr), (7, vi (sum + ((e1.key.size : Int) + (e1.val.size : Int)))), (10, vl (ents es)), (11, vi n), (12, vi (i + 1))]) (O := [.bool 13 true, .elem 15 e1.pv, .int 24 ((e1.key.size : Int) + (e1.val.size : Int)), .int 25 (sum + ((e1.key.size : Int) + (e1.val.size : Int))), .int 27 (i + 1), .int 29 (es.length : Int), .bool 30 false, .bool 34 false, .int 58 (i + 1)]) (fl := []) (ob := [decide (i < n) = true,
      0 ≤ i ∧ (ents es)[Int.toNat i]? = some e1.pv ∧ ((ents es).all fun y => y.cells.length == 4) = true,
      IntKind.i64.wrap ((e1.key.size : Int) + (e1.val.size : Int)) = (e1.key.size : Int) + (e1.val.size : Int),
      IntKind.i64.wrap (sum + ((e1.key.size : Int) + (e1.val.size : Int))) = sum + ((e1.key.size : Int) + (e1.val.size : Int)),
      IntKind.i64.wrap (i + 1) = i + 1,
      ((ents es).length : Int) = (es.length : Int),
      (i + 1 == (es.length : Int)) = false,
      decide (sum + ((e1.key.size : Int) + (e1.val.size : Int)) ≥ size) = false,
      IntKind.i64.wrap (i + 1) = i + 1]) (vs := [vl (ents es), vi size, nilS, vi fr, vi (sum + ((e1.key.size : Int) + (e1.val.size : Int))), vl (ents es), vi n, vi (i + 1)]) (B1 := [Box.cells false 0 [vs e1.key, vn .u64 e1.seq, vb e1.del, vs e1.val]]) (by kernel_rfl) ⟨h1, (ents_at h2 h3), h4, h5, h6, (ents_len _), h7, h8, h6⟩ ⟨rfl, ⟨.inl ⟨rfl, rfl⟩, .inl ⟨rfl, rfl⟩, .inl ⟨rfl, rfl⟩, .inl ⟨rfl, rfl⟩, .inl ⟨rfl, rfl⟩, .inl ⟨rfl, rfl⟩, .inl ⟨rfl, rfl⟩, .inl ⟨rfl, rfl⟩, trivial⟩, trivial⟩

theorem cut0_w5 (es : List Ent) (size : Int) (fr : Int) (sum : Int) (n : Int) (i : Int)
    (h1 : decide (i < n) = false) :
    EvC LP ΓC 60 0 (nav [true, true, true, false, true, false, false] (bodyOf Try.f13)) ⟨tk [(0, vl (ents es)), (1, vi size), (5, nilS), (6, vi fr), (7, vi sum), (10, vl (ents es)), (11, vi n), (12, vi i)], []⟩ (.exit 0) ⟨tk [(5, nilS)], []⟩ :=
  way_ev (l := [(5, nilS)]) (O := [.bool 13 false]) (fl := []) (ob := [decide (i < n) = false]) (vs := [nilS]) (B1 := []) (by kernel_rfl) h1 ⟨rfl, ⟨.inl ⟨rfl, rfl⟩, trivial⟩, trivial⟩

theorem cut1_w1 (es : List Ent) (size : Int) (fr : Int) (sum : Int) (n : Int) (i : Int) (v : Nat) (L : List (List Ent)) (e1 : Ent)
    (h1 : decide (i < n) = true)
    (h2 : 0 ≤ i)
    (h3 : es[Int.toNat i]? = some e1)
    (h4 : IntKind.i64.wrap ((e1.key.size : Int) + (e1.val.size : Int)) = (e1.key.size : Int) + (e1.val.size : Int))
    (h5 : IntKind.i64.wrap (sum + ((e1.key.size : Int) + (e1.val.size : Int))) = sum + ((e1.key.size : Int) + (e1.val.size : Int)))
    (h6 : IntKind.i64.wrap (i + 1) = i + 1)
    (h7 : (i + 1 == (es.length : Int)) = true)
    (h8 : 0 ≤ (i + 1) ∧ (i + 1) ≤ (es.length : Int))
    (h9 : 0 ≤ fr ∧ fr ≤ (i + 1))
    (h10 : ((es.take (Int.toNat (i + 1))).drop (Int.toNat fr)) ≠ [])
    (h11 : (((es.take (Int.toNat (i + 1))).drop (Int.toNat fr)).length : Int) ≤ 1000000000)
    (h12 : ((L ++ ([((es.take (Int.toNat (i + 1))).drop (Int.toNat fr))])).length : Int) ≤ 1000000000) :
    EvC LP ΓC 60 0 (nav [true, true, true, false, true, false, false] (bodyOf Try.f13)) ⟨tk [(0, vl (ents es)), (1, vi size), (5, .rs 0 v 1 0 L.length), (6, vi fr), (7, vi sum), (10, vl (ents es)), (11, vi n), (12, vi i)], [Box.cells true v (rowC (entss L))]⟩ .normal ⟨tk [(0, vl (ents es)), (1, vi size), (5, .rs 0 (v + 1) 1 0 ((L ++ ([((es.take (Int.toNat (i + 1))).drop (Int.toNat fr))])).length)), (6, vi (i + 1)), (7, vi 0), (10, vl (ents es)), (11, vi n), (12, vi (i + 1))], [Box.cells true (v + 1) (rowC (entss (L ++ ([((es.take (Int.toNat (i + 1))).drop (Int.toNat fr))]))))]⟩ :=
  way_ev (l := [(0, vl (ents es)), (1, vi size), (5, .rs 0 (v + 1) 1 0 ((L ++ ([((es.take (Int.toNat (i + 1))).drop (Int.toNat fr))])).length)), (6, vi (i + 1)), (7, vi 0), (10, vl (ents es)), (11, vi n), (12, vi (i + 1))]) (O := [.bool 13 true, .elem 15 e1.pv, .int 24 ((e1.key.size : Int) + (e1.val.size : Int)), .int 25 (sum + ((e1.key.size : Int) + (e1.val.size : Int))), .int 27 (i + 1), .int 29 (es.length : Int), .bool 30 true, .int 51 (i + 1), .val 52 (vl (ents ((es.take (Int.toNat (i + 1))).drop (Int.toNat fr)))) none, .call 53 (vl (ents ((es.take (Int.toNat (i + 1))).drop (Int.toNat fr)))), .val 55 (.rs 0 (v + 1) 1 0 ((L ++ ([((es.take (Int.toNat (i + 1))).drop (Int.toNat fr))])).length)) (some [Box.cells true (v + 1) (rowC (entss (L ++ ([((es.take (Int.toNat (i + 1))).drop (Int.toNat fr))])))), Box.cells false 0 [vs e1.key, vn .u64 e1.seq, vb e1.del, vs e1.val], Box.cells true 0 [vl (ents ((es.take (Int.toNat (i + 1))).drop (Int.toNat fr)))]]), .int 57 (i + 1), .int 58 (i + 1)]) (fl := [0]) (ob := [decide (i < n) = true,
      0 ≤ i ∧ (ents es)[Int.toNat i]? = some e1.pv ∧ ((ents es).all fun y => y.cells.length == 4) = true,
      IntKind.i64.wrap ((e1.key.size : Int) + (e1.val.size : Int)) = (e1.key.size : Int) + (e1.val.size : Int),
      IntKind.i64.wrap (sum + ((e1.key.size : Int) + (e1.val.size : Int))) = sum + ((e1.key.size : Int) + (e1.val.size : Int)),
      IntKind.i64.wrap (i + 1) = i + 1,
      ((ents es).length : Int) = (es.length : Int),
      (i + 1 == (es.length : Int)) = true,
      IntKind.i64.wrap (i + 1) = i + 1,
      ((sliceA LP 22 [Box.cells true v (rowC (entss L)), Box.cells false 0 [vs e1.key, vn .u64 e1.seq, vb e1.del, vs e1.val]] (vl (ents es)) (some (vi fr)) (some (vi (i + 1)))).map fun q_ => (q_, [Box.cells true v (rowC (entss L)), Box.cells false 0 [vs e1.key, vn .u64 e1.seq, vb e1.del, vs e1.val]])) = some (vl (ents ((es.take (Int.toNat (i + 1))).drop (Int.toNat fr))), [Box.cells true v (rowC (entss L)), Box.cells false 0 [vs e1.key, vn .u64 e1.seq, vb e1.del, vs e1.val]]),
      gClone [vl (ents ((es.take (Int.toNat (i + 1))).drop (Int.toNat fr)))] = some (vl (ents ((es.take (Int.toNat (i + 1))).drop (Int.toNat fr)))),
      appendA LP 35 35 [Box.cells true v (rowC (entss L)), Box.cells false 0 [vs e1.key, vn .u64 e1.seq, vb e1.del, vs e1.val], Box.cells true 0 [vl (ents ((es.take (Int.toNat (i + 1))).drop (Int.toNat fr)))]] (.rs 0 v 1 0 L.length) (.rs 2 0 1 0 1) = some (.rs 0 (v + 1) 1 0 ((L ++ ([((es.take (Int.toNat (i + 1))).drop (Int.toNat fr))])).length), [Box.cells true (v + 1) (rowC (entss (L ++ ([((es.take (Int.toNat (i + 1))).drop (Int.toNat fr))])))), Box.cells false 0 [vs e1.key, vn .u64 e1.seq, vb e1.del, vs e1.val], Box.cells true 0 [vl (ents ((es.take (Int.toNat (i + 1))).drop (Int.toNat fr)))]]),
      IntKind.i64.wrap (i + 1) = i + 1,
      IntKind.i64.wrap (i + 1) = i + 1]) (vs := [vl (ents es), vi size, .rs 0 (v + 1) 1 0 ((L ++ ([((es.take (Int.toNat (i + 1))).drop (Int.toNat fr))])).length), vi (i + 1), vi 0, vl (ents es), vi n, vi (i + 1)]) (B1 := [Box.cells true (v + 1) (rowC (entss (L ++ ([((es.take (Int.toNat (i + 1))).drop (Int.toNat fr))])))), Box.cells false 0 [vs e1.key, vn .u64 e1.seq, vb e1.del, vs e1.val], Box.cells true 0 [vl (ents ((es.take (Int.toNat (i + 1))).drop (Int.toNat fr)))]]) (by kernel_rfl) ⟨h1, (ents_at h2 h3), h4, h5, h6, (ents_len _), h7, h6, (ents_slice_lh h8 h9), (gClone_eq h10 h11), (entss_appendR L ([((es.take (Int.toNat (i + 1))).drop (Int.toNat fr))]) rfl rfl h12), h6, h6⟩ ⟨rfl, ⟨.inl ⟨rfl, rfl⟩, .inl ⟨rfl, rfl⟩, .inl ⟨rfl, rfl⟩, .inl ⟨rfl, rfl⟩, .inl ⟨rfl, rfl⟩, .inl ⟨rfl, rfl⟩, .inl ⟨rfl, rfl⟩, .inl ⟨rfl, rfl⟩, trivial⟩, ⟨⟨_, rfl, row_cells2 _⟩, trivial⟩⟩

theorem cut1_w2 (es : List Ent) (size : Int) (fr : Int) (sum : Int) (n : Int) (i : Int) (v : Nat) (L : List (List Ent)) (e1 : Ent) (e2 : Ent)
    (h1 : decide (i < n) = true)
    (h2 : 0 ≤ i)
    (h3 : es[Int.toNat i]? = some e1)
    (h4 : IntKind.i64.wrap ((e1.key.size : Int) + (e1.val.size : Int)) = (e1.key.size : Int) + (e1.val.size : Int))
    (h5 : IntKind.i64.wrap (sum + ((e1.key.size : Int) + (e1.val.size : Int))) = sum + ((e1.key.size : Int) + (e1.val.size : Int)))
    (h6 : IntKind.i64.wrap (i + 1) = i + 1)
    (h7 : (i + 1 == (es.length : Int)) = false)
    (h8 : decide (sum + ((e1.key.size : Int) + (e1.val.size : Int)) ≥ size) = true)
    (h9 : 0 ≤ (i + 1))
    (h10 : es[Int.toNat (i + 1)]? = some e2)
    (h11 : (!(e2.key.toList == e1.key.toList)) = true)
    (h12 : 0 ≤ (i + 1) ∧ (i + 1) ≤ (es.length : Int))
    (h13 : 0 ≤ fr ∧ fr ≤ (i + 1))
    (h14 : ((es.take (Int.toNat (i + 1))).drop (Int.toNat fr)) ≠ [])
    (h15 : (((es.take (Int.toNat (i + 1))).drop (Int.toNat fr)).length : Int) ≤ 1000000000)
    (h16 : ((L ++ ([((es.take (Int.toNat (i + 1))).drop (Int.toNat fr))])).length : Int) ≤ 1000000000) :
    EvC LP ΓC 60 0 (nav [true, true, true, false, true, false, false] (bodyOf Try.f13)) ⟨tk [(0, vl (ents es)), (1, vi size), (5, .rs 0 v 1 0 L.length), (6, vi fr), (7, vi sum), (10, vl (ents es)), (11, vi n), (12, vi i)], [Box.cells true v (rowC (entss L))]⟩ .normal ⟨tk [(0, vl (ents es)), (1, vi size), (5, .rs 0 (v + 1) 1 0 ((L ++ ([((es.take (Int.toNat (i + 1))).drop (Int.toNat fr))])).length)), (6, vi (i + 1)), (7, vi 0), (10, vl (ents es)), (11, vi n), (12, vi (i + 1))], [Box.cells true (v + 1) (rowC (entss (L ++ ([((es.take (Int.toNat (i + 1))).drop (Int.toNat fr))]))))]⟩ :=
  way_ev (l := [(0, vl (ents es)), (1, vi size), (5, .rs 0 (v + 1) 1 0 ((L ++ ([((es.take (Int.toNat (i + 1))).drop (Int.toNat fr))])).length)), (6, vi (i + 1)), (7, vi 0), (10, vl (ents es)), (11, vi n), (12, vi (i + 1))]) (O := [.bool 13 true, .elem 15 e1.pv, .int 24 ((e1.key.size : Int) + (e1.val.size : Int)), .int 25 (sum + ((e1.key.size : Int) + (e1.val.size : Int))), .int 27 (i + 1), .int 29 (es.length : Int), .bool 30 false, .bool 34 true, .int 38 (i + 1), .elem 39 e2.pv, .bool 44 true, .int 51 (i + 1), .val 52 (vl (ents ((es.take (Int.toNat (i + 1))).drop (Int.toNat fr)))) none, .call 53 (vl (ents ((es.take (Int.toNat (i + 1))).drop (Int.toNat fr)))), .val 55 (.rs 0 (v + 1) 1 0 ((L ++ ([((es.take (Int.toNat (i + 1))).drop (Int.toNat fr))])).length)) (some [Box.cells true (v + 1) (rowC (entss (L ++ ([((es.take (Int.toNat (i + 1))).drop (Int.toNat fr))])))), Box.cells false 0 [vs e1.key, vn .u64 e1.seq, vb e1.del, vs e1.val], Box.cells true 0 [vl (ents ((es.take (Int.toNat (i + 1))).drop (Int.toNat fr)))]]), .int 57 (i + 1), .int 58 (i + 1)]) (fl := [0]) (ob := [decide (i < n) = true,
      0 ≤ i ∧ (ents es)[Int.toNat i]? = some e1.pv ∧ ((ents es).all fun y => y.cells.length == 4) = true,
      IntKind.i64.wrap ((e1.key.size : Int) + (e1.val.size : Int)) = (e1.key.size : Int) + (e1.val.size : Int),
      IntKind.i64.wrap (sum + ((e1.key.size : Int) + (e1.val.size : Int))) = sum + ((e1.key.size : Int) + (e1.val.size : Int)),
      IntKind.i64.wrap (i + 1) = i + 1,
      ((ents es).length : Int) = (es.length : Int),
      (i + 1 == (es.length : Int)) = false,
      decide (sum + ((e1.key.size : Int) + (e1.val.size : Int)) ≥ size) = true,
      IntKind.i64.wrap (i + 1) = i + 1,
      0 ≤ (i + 1) ∧ (ents es)[Int.toNat (i + 1)]? = some e2.pv ∧ ((ents es).all fun y => y.cells.length == 4) = true,
      (!(e2.key.toList == e1.key.toList)) = true,
      IntKind.i64.wrap (i + 1) = i + 1,
      ((sliceA LP 22 [Box.cells true v (rowC (entss L)), Box.cells false 0 [vs e1.key, vn .u64 e1.seq, vb e1.del, vs e1.val]] (vl (ents es)) (some (vi fr)) (some (vi (i + 1)))).map fun q_ => (q_, [Box.cells true v (rowC (entss L)), Box.cells false 0 [vs e1.key, vn .u64 e1.seq, vb e1.del, vs e1.val]])) = some (vl (ents ((es.take (Int.toNat (i + 1))).drop (Int.toNat fr))), [Box.cells true v (rowC (entss L)), Box.cells false 0 [vs e1.key, vn .u64 e1.seq, vb e1.del, vs e1.val]]),
      gClone [vl (ents ((es.take (Int.toNat (i + 1))).drop (Int.toNat fr)))] = some (vl (ents ((es.take (Int.toNat (i + 1))).drop (Int.toNat fr)))),
      appendA LP 35 35 [Box.cells true v (rowC (entss L)), Box.cells false 0 [vs e1.key, vn .u64 e1.seq, vb e1.del, vs e1.val], Box.cells true 0 [vl (ents ((es.take (Int.toNat (i + 1))).drop (Int.toNat fr)))]] (.rs 0 v 1 0 L.length) (.rs 2 0 1 0 1) = some (.rs 0 (v + 1) 1 0 ((L ++ ([((es.take (Int.toNat (i + 1))).drop (Int.toNat fr))])).length), [Box.cells true (v + 1) (rowC (entss (L ++ ([((es.take (Int.toNat (i + 1))).drop (Int.toNat fr))])))), Box.cells false 0 [vs e1.key, vn .u64 e1.seq, vb e1.del, vs e1.val], Box.cells true 0 [vl (ents ((es.take (Int.toNat (i + 1))).drop (Int.toNat fr)))]]),
      IntKind.i64.wrap (i + 1) = i + 1,
      IntKind.i64.wrap (i + 1) = i + 1]) (vs := [vl (ents es), vi size, .rs 0 (v + 1) 1 0 ((L ++ ([((es.take (Int.toNat (i + 1))).drop (Int.toNat fr))])).length), vi (i + 1), vi 0, vl (ents es), vi n, vi (i + 1)]) (B1 := [Box.cells true (v + 1) (rowC (entss (L ++ ([((es.take (Int.toNat (i + 1))).drop (Int.toNat fr))])))), Box.cells false 0 [vs e1.key, vn .u64 e1.seq, vb e1.del, vs e1.val], Box.cells true 0 [vl (ents ((es.take (Int.toNat (i + 1))).drop (Int.toNat fr)))]]) (by kernel_rfl) ⟨h1, (ents_at h2 h3), h4, h5, h6, (ents_len _), h7, h8, h6, (ents_at h9 h10), h11, h6, (ents_slice_lh h12 h13), (gClone_eq h14 h15), (entss_appendR L ([((es.take (Int.toNat (i + 1))).drop (Int.toNat fr))]) rfl rfl h16), h6, h6⟩ ⟨rfl, ⟨.inl ⟨rfl, rfl⟩, .inl ⟨rfl, rfl⟩, .inl ⟨rfl, rfl⟩, .inl ⟨rfl, rfl⟩, .inl ⟨rfl, rfl⟩, .inl ⟨rfl, rfl⟩, .inl ⟨rfl, rfl⟩, .inl ⟨rfl, rfl⟩, trivial⟩, ⟨⟨_, rfl, row_cells2 _⟩, trivial⟩⟩

theorem cut1_w3 (es : List Ent) (size : Int) (fr : Int) (sum : Int) (n : Int) (i : Int) (v : Nat) (L : List (List Ent)) (e1 : Ent) (e2 : Ent)
    (h1 : decide (i < n) = true)
    (h2 : 0 ≤ i)
    (h3 : es[Int.toNat i]? = some e1)
    (h4 : IntKind.i64.wrap ((e1.key.size : Int) + (e1.val.size : Int)) = (e1.key.size : Int) + (e1.val.size : Int))
    (h5 : IntKind.i64.wrap (sum + ((e1.key.size : Int) + (e1.val.size : Int))) = sum + ((e1.key.size : Int) + (e1.val.size : Int)))
    (h6 : IntKind.i64.wrap (i + 1) = i + 1)
    (h7 : (i + 1 == (es.length : Int)) = false)
    (h8 : decide (sum + ((e1.key.size : Int) + (e1.val.size : Int)) ≥ size) = true)
    (h9 : 0 ≤ (i + 1))
    (h10 : es[Int.toNat (i + 1)]? = some e2)
    (h11 : (!(e2.key.toList == e1.key.toList)) = false) :
    EvC LP ΓC 60 0 (nav [true, true, true, false, true, false, false] (bodyOf Try.f13)) ⟨tk [(0, vl (ents es)), (1, vi size), (5, .rs 0 v 1 0 L.length), (6, vi fr), (7, vi sum), (10, vl (ents es)), (11, vi n), (12, vi i)], [Box.cells true v (rowC (entss L))]⟩ .normal ⟨tk [(0, vl (ents es)), (1, vi size), (5, .rs 0 v 1 0 L.length), (6, vi fr), (7, vi (sum + ((e1.key.size : Int) + (e1.val.size : Int)))), (10, vl (ents es)), (11, vi n), (12, vi (i + 1))], [Box.cells true v (rowC (entss L))]⟩ :=
  way_ev (l := [(0, vl (ents es)), (1, vi size), (5, .rs 0 v 1 0 L.length), (6, vi fr), (7, vi (sum + ((e1.key.size : Int) + (e1.val.size : Int)))), (10, vl (ents es)), (11, vi n), (12, vi (i + 1))]) (O := [.bool 13 true, .elem 15 e1.pv, .int 24 ((e1.key.size : Int) + (e1.val.size : Int)), .int 25 (sum + ((e1.key.size : Int) + (e1.val.size : Int))), .int 27 (i + 1), .int 29 (es.length : Int), .bool 30 false, .bool 34 true, .int 38 (i + 1), .elem 39 e2.pv, .bool 44 false, .int 58 (i + 1)]) (fl := [0]) (ob := [decide (i < n) = true,
      0 ≤ i ∧ (ents es)[Int.toNat i]? = some e1.pv ∧ ((ents es).all fun y => y.cells.length == 4) = true,
      IntKind.i64.wrap ((e1.key.size : Int) + (e1.val.size : Int)) = (e1.key.size : Int) + (e1.val.size : Int),
      IntKind.i64.wrap (sum + ((e1.key.size : Int) + (e1.val.size : Int))) = sum + ((e1.key.size : Int) + (e1.val.size : Int)),
      IntKind.i64.wrap (i + 1) = i + 1,
      ((ents es).length : Int) = (es.length : Int),
      (i + 1 == (es.length : Int)) = false,
      decide (sum + ((e1.key.size : Int) + (e1.val.size : Int)) ≥ size) = true,
      IntKind.i64.wrap (i + 1) = i + 1,
      0 ≤ (i + 1) ∧ (ents es)[Int.toNat (i + 1)]? = some e2.pv ∧ ((ents es).all fun y => y.cells.length == 4) = true,
      (!(e2.key.toList == e1.key.toList)) = false,
      IntKind.i64.wrap (i + 1) = i + 1]) (vs := [vl (ents es), vi size, .rs 0 v 1 0 L.length, vi fr, vi (sum + ((e1.key.size : Int) + (e1.val.size : Int))), vl (ents es), vi n, vi (i + 1)]) (B1 := [Box.cells true v (rowC (entss L)), Box.cells false 0 [vs e1.key, vn .u64 e1.seq, vb e1.del, vs e1.val]]) (by kernel_rfl) ⟨h1, (ents_at h2 h3), h4, h5, h6, (ents_len _), h7, h8, h6, (ents_at h9 h10), h11, h6⟩ ⟨rfl, ⟨.inl ⟨rfl, rfl⟩, .inl ⟨rfl, rfl⟩, .inl ⟨rfl, rfl⟩, .inl ⟨rfl, rfl⟩, .inl ⟨rfl, rfl⟩, .inl ⟨rfl, rfl⟩, .inl ⟨rfl, rfl⟩, .inl ⟨rfl, rfl⟩, trivial⟩, ⟨⟨_, rfl, row_cells2 _⟩, trivial⟩⟩

theorem cut1_w4 (es : List Ent) (size : Int) (fr : Int) (sum : Int) (n : Int) (i : Int) (v : Nat) (L : List (List Ent)) (e1 : Ent)
    (h1 : decide (i < n) = true)
    (h2 : 0 ≤ i)
    (h3 : es[Int.toNat i]? = some e1)
    (h4 : IntKind.i64.wrap ((e1.key.size : Int) + (e1.val.size : Int)) = (e1.key.size : Int) + (e1.val.size : Int))
    (h5 : IntKind.i64.wrap (sum + ((e1.key.size : Int) + (e1.val.size : Int))) = sum + ((e1.key.size : Int) + (e1.val.size : Int)))
    (h6 : IntKind.i64.wrap (i + 1) = i + 1)
    (h7 : (i + 1 == (es.length : Int)) = false)
    (h8 : decide (sum + ((e1.key.size : Int) + (e1.val.size : Int)) ≥ size) = false) :
    EvC LP ΓC 60 0 (nav [true, true, true, false, true, false, false] (bodyOf Try.f13)) ⟨tk [(0, vl (ents es)), (1, vi size), (5, .rs 0 v 1 0 L.length), (6, vi fr), (7, vi sum), (10, vl (ents es)), (11, vi n), (12, vi i)], [Box.cells true v (rowC (entss L))]⟩ .normal ⟨tk [(0, vl (ents es)), (1, vi size), (5, .rs 0 v 1 0 L.length), (6, vi fr), (7, vi (sum + ((e1.key.size : Int) + (e1.val.size : Int)))), (10, vl (ents es)), (11, vi n), (12, vi (i + 1))], [Box.cells true v (rowC (entss L))]⟩ :=
  way_ev (l := [(0, vl (ents es)), (1, vi size), (5, .rs 0 v 1 0 L.length), (6, vi fr), (7, vi (sum + ((e1.key.size : Int) + (e1.val.size : Int)))), (10, vl (ents es)), (11, vi n), (12, vi (i + 1))]) (O := [.bool 13 true, .elem 15 e1.pv, .int 24 ((e1.key.size : Int) + (e1.val.size : Int)), .int 25 (sum + ((e1.key.size : Int) + (e1.val.size : Int))), .int 27 (i + 1), .int 29 (es.length : Int), .bool 30 false, .bool 34 false, .int 58 (i + 1)]) (fl := [0]) (ob := [decide (i < n) = true,
      0 ≤ i ∧ (ents es)[Int.toNat i]? = some e1.pv ∧ ((ents es).all fun y => y.cells.length == 4) = true,
      IntKind.i64.wrap ((e1.key.size : Int) + (e1.val.size : Int)) = (e1.key.size : Int) + (e1.val.size : Int),
      IntKind.i64.wrap (sum + ((e1.key.size : Int) + (e1.val.size : Int))) = sum + ((e1.key.size : Int) + (e1.val.size : Int)),
      IntKind.i64.wrap (i + 1) = i + 1,
      ((ents es).length : Int) = (es.length : Int),
      (i + 1 == (es.length : Int)) = false,
      decide (sum + ((e1.key.size : Int) + (e1.val.size : Int)) ≥ size) = false,
      IntKind.i64.wrap (i + 1) = i + 1]) (vs := [vl (ents es), vi size, .rs 0 v 1 0 L.length, vi fr, vi (sum + ((e1.key.size : Int) + (e1.val.size : Int))), vl (ents es), vi n, vi (i + 1)]) (B1 := [Box.cells true v (rowC (entss L)), Box.cells false 0 [vs e1.key, vn .u64 e1.seq, vb e1.del, vs e1.val]]) (by kernel_rfl) ⟨h1, (ents_at h2 h3), h4, h5, h6, (ents_len _), h7, h8, h6⟩ ⟨rfl, ⟨.inl ⟨rfl, rfl⟩, .inl ⟨rfl, rfl⟩, .inl ⟨rfl, rfl⟩, .inl ⟨rfl, rfl⟩, .inl ⟨rfl, rfl⟩, .inl ⟨rfl, rfl⟩, .inl ⟨rfl, rfl⟩, .inl ⟨rfl, rfl⟩, trivial⟩, ⟨⟨_, rfl, row_cells2 _⟩, trivial⟩⟩

theorem cut1_w5 (es : List Ent) (size : Int) (fr : Int) (sum : Int) (n : Int) (i : Int) (v : Nat) (L : List (List Ent))
    (h1 : decide (i < n) = false) :
    EvC LP ΓC 60 0 (nav [true, true, true, false, true, false, false] (bodyOf Try.f13)) ⟨tk [(0, vl (ents es)), (1, vi size), (5, .rs 0 v 1 0 L.length), (6, vi fr), (7, vi sum), (10, vl (ents es)), (11, vi n), (12, vi i)], [Box.cells true v (rowC (entss L))]⟩ (.exit 0) ⟨tk [(5, .rs 0 v 1 0 L.length)], [Box.cells true v (rowC (entss L))]⟩ :=
  way_ev (l := [(5, .rs 0 v 1 0 L.length)]) (O := [.bool 13 false]) (fl := [0]) (ob := [decide (i < n) = false]) (vs := [.rs 0 v 1 0 L.length]) (B1 := [Box.cells true v (rowC (entss L))]) (by kernel_rfl) h1 ⟨rfl, ⟨.inl ⟨rfl, rfl⟩, trivial⟩, ⟨⟨_, rfl, row_cells2 _⟩, trivial⟩⟩

theorem cutf_w1 (es : List Ent) (size : Int)
    (h1 : EvX LP ΓC 60 0 true (nav [true, true, true, false, true, false, false] (bodyOf Try.f13)) ⟨tk [(0, vl (ents es)), (1, vi size), (5, nilS), (6, vi 0), (7, vi 0), (10, vl (ents es)), (11, vi (es.length : Int)), (12, vi 0)], []⟩ (.exit 0) ⟨tk [(5, nilS)], []⟩) :
    EvC LP ΓC 60 0 (nav [] (bodyOf Try.f13)) ⟨tk [(0, vl (ents es)), (1, vi size)], []⟩ .ret ⟨tk [(4, nilS)], []⟩ :=
  way_ev (l := [(4, nilS)]) (O := [.int 11 (es.length : Int), .weak [(0, vl (ents es)), (1, vi size), (5, nilS), (6, vi 0), (7, vi 0), (10, vl (ents es)), (11, vi (es.length : Int)), (12, vi 0)] [] [], .loop (.exit 0) [(5, nilS)] []]) (fl := []) (ob := [((ents es).length : Int) = (es.length : Int),
      WeakL 0 [] [vl (ents es), vi size, nilS, vi 0, vi 0, vl (ents es), vi (es.length : Int), vi 0] [] [vl (ents es), vi size, nilS, vi 0, vi 0, vl (ents es), vi (es.length : Int), vi 0] [],
      EvX LP ΓC 60 0 true (nav [true, true, true, false, true, false, false] (bodyOf Try.f13)) ⟨tk [(0, vl (ents es)), (1, vi size), (5, nilS), (6, vi 0), (7, vi 0), (10, vl (ents es)), (11, vi (es.length : Int)), (12, vi 0)], []⟩ (.exit 0) ⟨tk [(5, nilS)], []⟩]) (vs := [nilS]) (B1 := []) (by kernel_rfl) ⟨(ents_len _), ⟨rfl, ⟨.inl ⟨rfl, rfl⟩, .inl ⟨rfl, rfl⟩, .inl ⟨rfl, rfl⟩, .inl ⟨rfl, rfl⟩, .inl ⟨rfl, rfl⟩, .inl ⟨rfl, rfl⟩, .inl ⟨rfl, rfl⟩, .inl ⟨rfl, rfl⟩, trivial⟩, trivial⟩, h1⟩ ⟨rfl, ⟨.inl ⟨rfl, rfl⟩, trivial⟩, trivial⟩

theorem cutf_w2 (es : List Ent) (size : Int) (v : Nat) (R : List (List Ent))
    (h1 : EvX LP ΓC 60 0 true (nav [true, true, true, false, true, false, false] (bodyOf Try.f13)) ⟨tk [(0, vl (ents es)), (1, vi size), (5, nilS), (6, vi 0), (7, vi 0), (10, vl (ents es)), (11, vi (es.length : Int)), (12, vi 0)], []⟩ (.exit 0) ⟨tk [(5, .rs 0 v 1 0 R.length)], [Box.cells true v (rowC (entss R))]⟩) :
    EvC LP ΓC 60 0 (nav [] (bodyOf Try.f13)) ⟨tk [(0, vl (ents es)), (1, vi size)], []⟩ .ret ⟨tk [(4, vl (entss R))], []⟩ :=
  way_ev (l := [(4, vl (entss R))]) (O := [.int 11 (es.length : Int), .weak [(0, vl (ents es)), (1, vi size), (5, nilS), (6, vi 0), (7, vi 0), (10, vl (ents es)), (11, vi (es.length : Int)), (12, vi 0)] [] [], .loop (.exit 0) [(5, .rs 0 v 1 0 R.length)] [Box.cells true v (rowC (entss R))]]) (fl := []) (ob := [((ents es).length : Int) = (es.length : Int),
      WeakL 0 [] [vl (ents es), vi size, nilS, vi 0, vi 0, vl (ents es), vi (es.length : Int), vi 0] [] [vl (ents es), vi size, nilS, vi 0, vi 0, vl (ents es), vi (es.length : Int), vi 0] [],
      EvX LP ΓC 60 0 true (nav [true, true, true, false, true, false, false] (bodyOf Try.f13)) ⟨tk [(0, vl (ents es)), (1, vi size), (5, nilS), (6, vi 0), (7, vi 0), (10, vl (ents es)), (11, vi (es.length : Int)), (12, vi 0)], []⟩ (.exit 0) ⟨tk [(5, .rs 0 v 1 0 R.length)], [Box.cells true v (rowC (entss R))]⟩]) (vs := [.rs 0 v 1 0 R.length]) (B1 := [Box.cells true v (rowC (entss R))]) (by kernel_rfl) ⟨(ents_len _), ⟨rfl, ⟨.inl ⟨rfl, rfl⟩, .inl ⟨rfl, rfl⟩, .inl ⟨rfl, rfl⟩, .inl ⟨rfl, rfl⟩, .inl ⟨rfl, rfl⟩, .inl ⟨rfl, rfl⟩, .inl ⟨rfl, rfl⟩, .inl ⟨rfl, rfl⟩, trivial⟩, trivial⟩, h1⟩ ⟨rfl, ⟨entss_seal (L := R) (by decide) rfl, trivial⟩, trivial⟩

end Go.Ax
