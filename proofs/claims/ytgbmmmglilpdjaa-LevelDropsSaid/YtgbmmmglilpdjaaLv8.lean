/- Ways, printed by gen/g4.py: LevelCuts. -/
import Derived.Test.YtgbmmmglilpdjaaLv6
import Derived.Test.YtgbmmmglilpdjaaLv7
set_option linter.unusedVariables false
set_option linter.unusedSimpArgs false
namespace Go.Ax
open Go.Proofs Go.RowKit
set_option maxRecDepth 100000

noncomputable def ΓL : Env := envOf [(8, .pure gHead), (9, .pure gBig), (10, .pure gOrder), (13, .pure gCut)]

theorem lci_w4 (size : Int) (A : List Ent) (ps : List (List Ent)) (k : Int) (np : Int) (i : Int) (p : List Ent) (sum : Int) (n : Int) (j : Int) (e1 : Ent) (e2 : Ent) (e3 : Ent)
    (h1 : decide (j < n) = true)
    (h2 : 0 ≤ j)
    (h3 : p[Int.toNat j]? = some e1)
    (h4 : decide (k ≥ (A.length : Int)) = false)
    (h5 : 0 ≤ k)
    (h6 : A[Int.toNat k]? = some e2)
    (h7 : (!((e2.key.toList == e1.key.toList) && (((e2.seq : Int) == (e1.seq : Int)) && ((e2.del == e1.del) && ((e2.val.toList == e1.val.toList) && true))))) = false)
    (h8 : IntKind.i64.wrap (k + 1) = k + 1)
    (h9 : IntKind.i64.wrap ((e1.key.size : Int) + (e1.val.size : Int)) = (e1.key.size : Int) + (e1.val.size : Int))
    (h10 : IntKind.i64.wrap (sum + ((e1.key.size : Int) + (e1.val.size : Int))) = sum + ((e1.key.size : Int) + (e1.val.size : Int)))
    (h11 : IntKind.i64.wrap (j + 1) = j + 1)
    (h12 : decide (j + 1 < (p.length : Int)) = true)
    (h13 : decide (sum + ((e1.key.size : Int) + (e1.val.size : Int)) ≥ size) = true)
    (h14 : 0 ≤ (j + 1))
    (h15 : p[Int.toNat (j + 1)]? = some e3)
    (h16 : (!(e3.key.toList == e1.key.toList)) = false) :
    EvC LP ΓL 117 0 (nav [true, true, true, true, true, true, false, true, false, false, true, true, false, false, true, true, true, false, true, false, false] (bodyOf Try.f5)) ⟨tk [(1, vi size), (5, vl (ents A)), (6, vl (entss ps)), (7, vi k), (8, vi i), (9, vl (ents p)), (10, vi sum), (22, vl (entss ps)), (23, vi np), (24, vi i), (32, vl (ents p)), (33, vi n), (34, vi j)], []⟩ .normal ⟨tk [(1, vi size), (5, vl (ents A)), (6, vl (entss ps)), (7, vi (k + 1)), (8, vi i), (9, vl (ents p)), (10, vi (sum + ((e1.key.size : Int) + (e1.val.size : Int)))), (22, vl (entss ps)), (23, vi np), (24, vi i), (32, vl (ents p)), (33, vi n), (34, vi (j + 1))], []⟩ :=
  way_ev (l := [(1, vi size), (5, vl (ents A)), (6, vl (entss ps)), (7, vi (k + 1)), (8, vi i), (9, vl (ents p)), (10, vi (sum + ((e1.key.size : Int) + (e1.val.size : Int)))), (22, vl (entss ps)), (23, vi np), (24, vi i), (32, vl (ents p)), (33, vi n), (34, vi (j + 1))]) (O := [.bool 35 true, .elem 37 e1.pv, .int 41 (A.length : Int), .bool 42 false, .elem 46 e2.pv, .bool 49 false, .int 52 (k + 1), .int 60 ((e1.key.size : Int) + (e1.val.size : Int)), .int 61 (sum + ((e1.key.size : Int) + (e1.val.size : Int))), .int 63 (j + 1), .int 65 (p.length : Int), .bool 66 true, .bool 70 true, .int 75 (j + 1), .elem 76 e3.pv, .bool 81 false, .int 83 (j + 1)]) (fl := []) (ob := [decide (j < n) = true,
      0 ≤ j ∧ (ents p)[Int.toNat j]? = some e1.pv ∧ ((ents p).all fun y => y.cells.length == 4) = true,
      ((ents A).length : Int) = (A.length : Int),
      decide (k ≥ (A.length : Int)) = false,
      0 ≤ k ∧ (ents A)[Int.toNat k]? = some e2.pv ∧ ((ents A).all fun y => y.cells.length == 4) = true,
      (!((e2.key.toList == e1.key.toList) && (((e2.seq : Int) == (e1.seq : Int)) && ((e2.del == e1.del) && ((e2.val.toList == e1.val.toList) && true))))) = false,
      IntKind.i64.wrap (k + 1) = k + 1,
      IntKind.i64.wrap ((e1.key.size : Int) + (e1.val.size : Int)) = (e1.key.size : Int) + (e1.val.size : Int),
      IntKind.i64.wrap (sum + ((e1.key.size : Int) + (e1.val.size : Int))) = sum + ((e1.key.size : Int) + (e1.val.size : Int)),
      IntKind.i64.wrap (j + 1) = j + 1,
      ((ents p).length : Int) = (p.length : Int),
      decide (j + 1 < (p.length : Int)) = true,
      decide (sum + ((e1.key.size : Int) + (e1.val.size : Int)) ≥ size) = true,
      IntKind.i64.wrap (j + 1) = j + 1,
      0 ≤ (j + 1) ∧ (ents p)[Int.toNat (j + 1)]? = some e3.pv ∧ ((ents p).all fun y => y.cells.length == 4) = true,
      (!(e3.key.toList == e1.key.toList)) = false,
      IntKind.i64.wrap (j + 1) = j + 1]) (vs := [vi size, vl (ents A), vl (entss ps), vi (k + 1), vi i, vl (ents p), vi (sum + ((e1.key.size : Int) + (e1.val.size : Int))), vl (entss ps), vi np, vi i, vl (ents p), vi n, vi (j + 1)]) (B1 := [Box.cells false 0 [vs e1.key, vn .u64 e1.seq, vb e1.del, vs e1.val]]) (by kernel_rfl) ⟨h1, (ents_at h2 h3), (ents_len _), h4, (ents_at h5 h6), h7, h8, h9, h10, h11, (ents_len _), h12, h13, h11, (ents_at h14 h15), h16, h11⟩ ⟨rfl, ⟨.inl ⟨rfl, rfl⟩, .inl ⟨rfl, rfl⟩, .inl ⟨rfl, rfl⟩, .inl ⟨rfl, rfl⟩, .inl ⟨rfl, rfl⟩, .inl ⟨rfl, rfl⟩, .inl ⟨rfl, rfl⟩, .inl ⟨rfl, rfl⟩, .inl ⟨rfl, rfl⟩, .inl ⟨rfl, rfl⟩, .inl ⟨rfl, rfl⟩, .inl ⟨rfl, rfl⟩, .inl ⟨rfl, rfl⟩, trivial⟩, trivial⟩

theorem lci_w5 (size : Int) (A : List Ent) (ps : List (List Ent)) (k : Int) (np : Int) (i : Int) (p : List Ent) (sum : Int) (n : Int) (j : Int) (e1 : Ent) (e2 : Ent)
    (h1 : decide (j < n) = true)
    (h2 : 0 ≤ j)
    (h3 : p[Int.toNat j]? = some e1)
    (h4 : decide (k ≥ (A.length : Int)) = false)
    (h5 : 0 ≤ k)
    (h6 : A[Int.toNat k]? = some e2)
    (h7 : (!((e2.key.toList == e1.key.toList) && (((e2.seq : Int) == (e1.seq : Int)) && ((e2.del == e1.del) && ((e2.val.toList == e1.val.toList) && true))))) = false)
    (h8 : IntKind.i64.wrap (k + 1) = k + 1)
    (h9 : IntKind.i64.wrap ((e1.key.size : Int) + (e1.val.size : Int)) = (e1.key.size : Int) + (e1.val.size : Int))
    (h10 : IntKind.i64.wrap (sum + ((e1.key.size : Int) + (e1.val.size : Int))) = sum + ((e1.key.size : Int) + (e1.val.size : Int)))
    (h11 : IntKind.i64.wrap (j + 1) = j + 1)
    (h12 : decide (j + 1 < (p.length : Int)) = true)
    (h13 : decide (sum + ((e1.key.size : Int) + (e1.val.size : Int)) ≥ size) = false) :
    EvC LP ΓL 117 0 (nav [true, true, true, true, true, true, false, true, false, false, true, true, false, false, true, true, true, false, true, false, false] (bodyOf Try.f5)) ⟨tk [(1, vi size), (5, vl (ents A)), (6, vl (entss ps)), (7, vi k), (8, vi i), (9, vl (ents p)), (10, vi sum), (22, vl (entss ps)), (23, vi np), (24, vi i), (32, vl (ents p)), (33, vi n), (34, vi j)], []⟩ .normal ⟨tk [(1, vi size), (5, vl (ents A)), (6, vl (entss ps)), (7, vi (k + 1)), (8, vi i), (9, vl (ents p)), (10, vi (sum + ((e1.key.size : Int) + (e1.val.size : Int)))), (22, vl (entss ps)), (23, vi np), (24, vi i), (32, vl (ents p)), (33, vi n), (34, vi (j + 1))], []⟩ :=
  way_ev (l := [(1, vi size), (5, vl (ents A)), (6, vl (entss ps)), (7, vi (k + 1)), (8, vi i), (9, vl (ents p)), (10, vi (sum + ((e1.key.size : Int) + (e1.val.size : Int)))), (22, vl (entss ps)), (23, vi np), (24, vi i), (32, vl (ents p)), (33, vi n), (34, vi (j + 1))]) (O := [.bool 35 true, .elem 37 e1.pv, .int 41 (A.length : Int), .bool 42 false, .elem 46 e2.pv, .bool 49 false, .int 52 (k + 1), .int 60 ((e1.key.size : Int) + (e1.val.size : Int)), .int 61 (sum + ((e1.key.size : Int) + (e1.val.size : Int))), .int 63 (j + 1), .int 65 (p.length : Int), .bool 66 true, .bool 70 false, .int 83 (j + 1)]) (fl := []) (ob := [decide (j < n) = true,
      0 ≤ j ∧ (ents p)[Int.toNat j]? = some e1.pv ∧ ((ents p).all fun y => y.cells.length == 4) = true,
      ((ents A).length : Int) = (A.length : Int),
      decide (k ≥ (A.length : Int)) = false,
      0 ≤ k ∧ (ents A)[Int.toNat k]? = some e2.pv ∧ ((ents A).all fun y => y.cells.length == 4) = true,
      (!((e2.key.toList == e1.key.toList) && (((e2.seq : Int) == (e1.seq : Int)) && ((e2.del == e1.del) && ((e2.val.toList == e1.val.toList) && true))))) = false,
      IntKind.i64.wrap (k + 1) = k + 1,
      IntKind.i64.wrap ((e1.key.size : Int) + (e1.val.size : Int)) = (e1.key.size : Int) + (e1.val.size : Int),
      IntKind.i64.wrap (sum + ((e1.key.size : Int) + (e1.val.size : Int))) = sum + ((e1.key.size : Int) + (e1.val.size : Int)),
      IntKind.i64.wrap (j + 1) = j + 1,
      ((ents p).length : Int) = (p.length : Int),
      decide (j + 1 < (p.length : Int)) = true,
      decide (sum + ((e1.key.size : Int) + (e1.val.size : Int)) ≥ size) = false,
      IntKind.i64.wrap (j + 1) = j + 1]) (vs := [vi size, vl (ents A), vl (entss ps), vi (k + 1), vi i, vl (ents p), vi (sum + ((e1.key.size : Int) + (e1.val.size : Int))), vl (entss ps), vi np, vi i, vl (ents p), vi n, vi (j + 1)]) (B1 := [Box.cells false 0 [vs e1.key, vn .u64 e1.seq, vb e1.del, vs e1.val]]) (by kernel_rfl) ⟨h1, (ents_at h2 h3), (ents_len _), h4, (ents_at h5 h6), h7, h8, h9, h10, h11, (ents_len _), h12, h13, h11⟩ ⟨rfl, ⟨.inl ⟨rfl, rfl⟩, .inl ⟨rfl, rfl⟩, .inl ⟨rfl, rfl⟩, .inl ⟨rfl, rfl⟩, .inl ⟨rfl, rfl⟩, .inl ⟨rfl, rfl⟩, .inl ⟨rfl, rfl⟩, .inl ⟨rfl, rfl⟩, .inl ⟨rfl, rfl⟩, .inl ⟨rfl, rfl⟩, .inl ⟨rfl, rfl⟩, .inl ⟨rfl, rfl⟩, .inl ⟨rfl, rfl⟩, trivial⟩, trivial⟩

theorem lci_w6 (size : Int) (A : List Ent) (ps : List (List Ent)) (k : Int) (np : Int) (i : Int) (p : List Ent) (sum : Int) (n : Int) (j : Int) (e1 : Ent) (e2 : Ent)
    (h1 : decide (j < n) = true)
    (h2 : 0 ≤ j)
    (h3 : p[Int.toNat j]? = some e1)
    (h4 : decide (k ≥ (A.length : Int)) = false)
    (h5 : 0 ≤ k)
    (h6 : A[Int.toNat k]? = some e2)
    (h7 : (!((e2.key.toList == e1.key.toList) && (((e2.seq : Int) == (e1.seq : Int)) && ((e2.del == e1.del) && ((e2.val.toList == e1.val.toList) && true))))) = false)
    (h8 : IntKind.i64.wrap (k + 1) = k + 1)
    (h9 : IntKind.i64.wrap ((e1.key.size : Int) + (e1.val.size : Int)) = (e1.key.size : Int) + (e1.val.size : Int))
    (h10 : IntKind.i64.wrap (sum + ((e1.key.size : Int) + (e1.val.size : Int))) = sum + ((e1.key.size : Int) + (e1.val.size : Int)))
    (h11 : IntKind.i64.wrap (j + 1) = j + 1)
    (h12 : decide (j + 1 < (p.length : Int)) = false) :
    EvC LP ΓL 117 0 (nav [true, true, true, true, true, true, false, true, false, false, true, true, false, false, true, true, true, false, true, false, false] (bodyOf Try.f5)) ⟨tk [(1, vi size), (5, vl (ents A)), (6, vl (entss ps)), (7, vi k), (8, vi i), (9, vl (ents p)), (10, vi sum), (22, vl (entss ps)), (23, vi np), (24, vi i), (32, vl (ents p)), (33, vi n), (34, vi j)], []⟩ .normal ⟨tk [(1, vi size), (5, vl (ents A)), (6, vl (entss ps)), (7, vi (k + 1)), (8, vi i), (9, vl (ents p)), (10, vi (sum + ((e1.key.size : Int) + (e1.val.size : Int)))), (22, vl (entss ps)), (23, vi np), (24, vi i), (32, vl (ents p)), (33, vi n), (34, vi (j + 1))], []⟩ :=
  way_ev (l := [(1, vi size), (5, vl (ents A)), (6, vl (entss ps)), (7, vi (k + 1)), (8, vi i), (9, vl (ents p)), (10, vi (sum + ((e1.key.size : Int) + (e1.val.size : Int)))), (22, vl (entss ps)), (23, vi np), (24, vi i), (32, vl (ents p)), (33, vi n), (34, vi (j + 1))]) (O := [.bool 35 true, .elem 37 e1.pv, .int 41 (A.length : Int), .bool 42 false, .elem 46 e2.pv, .bool 49 false, .int 52 (k + 1), .int 60 ((e1.key.size : Int) + (e1.val.size : Int)), .int 61 (sum + ((e1.key.size : Int) + (e1.val.size : Int))), .int 63 (j + 1), .int 65 (p.length : Int), .bool 66 false, .int 83 (j + 1)]) (fl := []) (ob := [decide (j < n) = true,
      0 ≤ j ∧ (ents p)[Int.toNat j]? = some e1.pv ∧ ((ents p).all fun y => y.cells.length == 4) = true,
      ((ents A).length : Int) = (A.length : Int),
      decide (k ≥ (A.length : Int)) = false,
      0 ≤ k ∧ (ents A)[Int.toNat k]? = some e2.pv ∧ ((ents A).all fun y => y.cells.length == 4) = true,
      (!((e2.key.toList == e1.key.toList) && (((e2.seq : Int) == (e1.seq : Int)) && ((e2.del == e1.del) && ((e2.val.toList == e1.val.toList) && true))))) = false,
      IntKind.i64.wrap (k + 1) = k + 1,
      IntKind.i64.wrap ((e1.key.size : Int) + (e1.val.size : Int)) = (e1.key.size : Int) + (e1.val.size : Int),
      IntKind.i64.wrap (sum + ((e1.key.size : Int) + (e1.val.size : Int))) = sum + ((e1.key.size : Int) + (e1.val.size : Int)),
      IntKind.i64.wrap (j + 1) = j + 1,
      ((ents p).length : Int) = (p.length : Int),
      decide (j + 1 < (p.length : Int)) = false,
      IntKind.i64.wrap (j + 1) = j + 1]) (vs := [vi size, vl (ents A), vl (entss ps), vi (k + 1), vi i, vl (ents p), vi (sum + ((e1.key.size : Int) + (e1.val.size : Int))), vl (entss ps), vi np, vi i, vl (ents p), vi n, vi (j + 1)]) (B1 := [Box.cells false 0 [vs e1.key, vn .u64 e1.seq, vb e1.del, vs e1.val]]) (by kernel_rfl) ⟨h1, (ents_at h2 h3), (ents_len _), h4, (ents_at h5 h6), h7, h8, h9, h10, h11, (ents_len _), h12, h11⟩ ⟨rfl, ⟨.inl ⟨rfl, rfl⟩, .inl ⟨rfl, rfl⟩, .inl ⟨rfl, rfl⟩, .inl ⟨rfl, rfl⟩, .inl ⟨rfl, rfl⟩, .inl ⟨rfl, rfl⟩, .inl ⟨rfl, rfl⟩, .inl ⟨rfl, rfl⟩, .inl ⟨rfl, rfl⟩, .inl ⟨rfl, rfl⟩, .inl ⟨rfl, rfl⟩, .inl ⟨rfl, rfl⟩, .inl ⟨rfl, rfl⟩, trivial⟩, trivial⟩

theorem lci_w7 (size : Int) (A : List Ent) (ps : List (List Ent)) (k : Int) (np : Int) (i : Int) (p : List Ent) (sum : Int) (n : Int) (j : Int)
    (h1 : decide (j < n) = false) :
    EvC LP ΓL 117 0 (nav [true, true, true, true, true, true, false, true, false, false, true, true, false, false, true, true, true, false, true, false, false] (bodyOf Try.f5)) ⟨tk [(1, vi size), (5, vl (ents A)), (6, vl (entss ps)), (7, vi k), (8, vi i), (9, vl (ents p)), (10, vi sum), (22, vl (entss ps)), (23, vi np), (24, vi i), (32, vl (ents p)), (33, vi n), (34, vi j)], []⟩ (.exit 2) ⟨tk [(1, vi size), (5, vl (ents A)), (6, vl (entss ps)), (7, vi k), (8, vi i), (9, vl (ents p)), (10, vi sum), (22, vl (entss ps)), (23, vi np), (24, vi i)], []⟩ :=
  way_ev (l := [(1, vi size), (5, vl (ents A)), (6, vl (entss ps)), (7, vi k), (8, vi i), (9, vl (ents p)), (10, vi sum), (22, vl (entss ps)), (23, vi np), (24, vi i)]) (O := [.bool 35 false]) (fl := []) (ob := [decide (j < n) = false]) (vs := [vi size, vl (ents A), vl (entss ps), vi k, vi i, vl (ents p), vi sum, vl (entss ps), vi np, vi i]) (B1 := []) (by kernel_rfl) h1 ⟨rfl, ⟨.inl ⟨rfl, rfl⟩, .inl ⟨rfl, rfl⟩, .inl ⟨rfl, rfl⟩, .inl ⟨rfl, rfl⟩, .inl ⟨rfl, rfl⟩, .inl ⟨rfl, rfl⟩, .inl ⟨rfl, rfl⟩, .inl ⟨rfl, rfl⟩, .inl ⟨rfl, rfl⟩, .inl ⟨rfl, rfl⟩, trivial⟩, trivial⟩

theorem lco_w4 (size : Int) (A : List Ent) (ps : List (List Ent)) (k : Int) (np : Int) (i : Int) (e1 : List Ent) (k2 : Int) (sum2 : Int) (e2 : List Ent) (e3 : Ent) (e4 : Ent)
    (h1 : decide (i < np) = true)
    (h2 : 0 ≤ i)
    (h3 : ps[Int.toNat i]? = some e1)
    (h4 : ((e1.length : Int) == (0 : Int)) = false)
    (h5 : EvX LP ΓL 117 0 true (nav [true, true, true, true, true, true, false, true, false, false, true, true, false, false, true, true, true, false, true, false, false] (bodyOf Try.f5)) ⟨tk [(1, vi size), (5, vl (ents A)), (6, vl (entss ps)), (7, vi k), (8, vi i), (9, vl (ents e1)), (10, vi 0), (22, vl (entss ps)), (23, vi np), (24, vi i), (32, vl (ents e1)), (33, vi (e1.length : Int)), (34, vi 0)], []⟩ (.exit 2) ⟨tk [(1, vi size), (5, vl (ents A)), (6, vl (entss ps)), (7, vi k2), (8, vi i), (9, vl (ents e1)), (10, vi sum2), (22, vl (entss ps)), (23, vi np), (24, vi i)], []⟩)
    (h6 : IntKind.i64.wrap (i + 1) = i + 1)
    (h7 : decide (i + 1 < (ps.length : Int)) = true)
    (h8 : decide (sum2 < size) = false)
    (h9 : 0 ≤ (i + 1))
    (h10 : ps[Int.toNat (i + 1)]? = some e2)
    (h11 : 0 ≤ (0 : Int))
    (h12 : e2[Int.toNat (0 : Int)]? = some e3)
    (h13 : IntKind.i64.wrap ((e1.length : Int) - 1) = (e1.length : Int) - 1)
    (h14 : 0 ≤ ((e1.length : Int) - 1))
    (h15 : e1[Int.toNat ((e1.length : Int) - 1)]? = some e4)
    (h16 : (e3.key.toList == e4.key.toList) = false) :
    EvC LP ΓL 117 0 (nav [true, true, true, true, true, true, false, true, false, false] (bodyOf Try.f5)) ⟨tk [(1, vi size), (5, vl (ents A)), (6, vl (entss ps)), (7, vi k), (22, vl (entss ps)), (23, vi np), (24, vi i)], []⟩ .normal ⟨tk [(1, vi size), (5, vl (ents A)), (6, vl (entss ps)), (7, vi k2), (22, vl (entss ps)), (23, vi np), (24, vi (i + 1))], []⟩ :=
  way_ev (l := [(1, vi size), (5, vl (ents A)), (6, vl (entss ps)), (7, vi k2), (22, vl (entss ps)), (23, vi np), (24, vi (i + 1))]) (O := [.bool 25 true, .elem 27 (.ls (ents e1)), .int 30 (e1.length : Int), .bool 31 false, .int 33 (e1.length : Int), .weak [(1, vi size), (5, vl (ents A)), (6, vl (entss ps)), (7, vi k), (8, vi i), (9, vl (ents e1)), (10, vi 0), (22, vl (entss ps)), (23, vi np), (24, vi i), (32, vl (ents e1)), (33, vi (e1.length : Int)), (34, vi 0)] [] [], .loop (.exit 2) [(1, vi size), (5, vl (ents A)), (6, vl (entss ps)), (7, vi k2), (8, vi i), (9, vl (ents e1)), (10, vi sum2), (22, vl (entss ps)), (23, vi np), (24, vi i)] [], .int 85 (i + 1), .int 87 (ps.length : Int), .bool 88 true, .bool 92 false, .int 96 (i + 1), .elem 97 (.ls (ents e2)), .elem 99 e3.pv, .int 104 (e1.length : Int), .int 105 ((e1.length : Int) - 1), .elem 106 e4.pv, .bool 109 false, .int 112 (i + 1)]) (fl := []) (ob := [decide (i < np) = true,
      0 ≤ i ∧ (entss ps)[Int.toNat i]? = some (.ls (ents e1)) ∧ ((entss ps).all fun y => y.cells.length == 1) = true,
      ((ents e1).length : Int) = (e1.length : Int),
      ((e1.length : Int) == (0 : Int)) = false,
      ((ents e1).length : Int) = (e1.length : Int),
      WeakL 0 [] [vi size, vl (ents A), vl (entss ps), vi k, vi i, vl (ents e1), vi 0, vl (entss ps), vi np, vi i, vl (ents e1), vi (e1.length : Int), vi 0] [] [vi size, vl (ents A), vl (entss ps), vi k, vi i, vl (ents e1), vi 0, vl (entss ps), vi np, vi i, vl (ents e1), vi (e1.length : Int), vi 0] [],
      EvX LP ΓL 117 0 true (nav [true, true, true, true, true, true, false, true, false, false, true, true, false, false, true, true, true, false, true, false, false] (bodyOf Try.f5)) ⟨tk [(1, vi size), (5, vl (ents A)), (6, vl (entss ps)), (7, vi k), (8, vi i), (9, vl (ents e1)), (10, vi 0), (22, vl (entss ps)), (23, vi np), (24, vi i), (32, vl (ents e1)), (33, vi (e1.length : Int)), (34, vi 0)], []⟩ (.exit 2) ⟨tk [(1, vi size), (5, vl (ents A)), (6, vl (entss ps)), (7, vi k2), (8, vi i), (9, vl (ents e1)), (10, vi sum2), (22, vl (entss ps)), (23, vi np), (24, vi i)], []⟩,
      IntKind.i64.wrap (i + 1) = i + 1,
      ((entss ps).length : Int) = (ps.length : Int),
      decide (i + 1 < (ps.length : Int)) = true,
      decide (sum2 < size) = false,
      IntKind.i64.wrap (i + 1) = i + 1,
      0 ≤ (i + 1) ∧ (entss ps)[Int.toNat (i + 1)]? = some (.ls (ents e2)) ∧ ((entss ps).all fun y => y.cells.length == 1) = true,
      0 ≤ (0 : Int) ∧ (ents e2)[Int.toNat (0 : Int)]? = some e3.pv ∧ ((ents e2).all fun y => y.cells.length == 4) = true,
      ((ents e1).length : Int) = (e1.length : Int),
      IntKind.i64.wrap ((e1.length : Int) - 1) = (e1.length : Int) - 1,
      0 ≤ ((e1.length : Int) - 1) ∧ (ents e1)[Int.toNat ((e1.length : Int) - 1)]? = some e4.pv ∧ ((ents e1).all fun y => y.cells.length == 4) = true,
      (e3.key.toList == e4.key.toList) = false,
      IntKind.i64.wrap (i + 1) = i + 1]) (vs := [vi size, vl (ents A), vl (entss ps), vi k2, vl (entss ps), vi np, vi (i + 1)]) (B1 := []) (by kernel_rfl) ⟨h1, (entss_at h2 h3), (ents_len _), h4, (ents_len _), ⟨rfl, ⟨.inl ⟨rfl, rfl⟩, .inl ⟨rfl, rfl⟩, .inl ⟨rfl, rfl⟩, .inl ⟨rfl, rfl⟩, .inl ⟨rfl, rfl⟩, .inl ⟨rfl, rfl⟩, .inl ⟨rfl, rfl⟩, .inl ⟨rfl, rfl⟩, .inl ⟨rfl, rfl⟩, .inl ⟨rfl, rfl⟩, .inl ⟨rfl, rfl⟩, .inl ⟨rfl, rfl⟩, .inl ⟨rfl, rfl⟩, trivial⟩, trivial⟩, h5, h6, (entss_len _), h7, h8, h6, (entss_at h9 h10), (ents_at h11 h12), (ents_len _), h13, (ents_at h14 h15), h16, h6⟩ ⟨rfl, ⟨.inl ⟨rfl, rfl⟩, .inl ⟨rfl, rfl⟩, .inl ⟨rfl, rfl⟩, .inl ⟨rfl, rfl⟩, .inl ⟨rfl, rfl⟩, .inl ⟨rfl, rfl⟩, .inl ⟨rfl, rfl⟩, trivial⟩, trivial⟩

theorem lco_w5 (size : Int) (A : List Ent) (ps : List (List Ent)) (k : Int) (np : Int) (i : Int) (e1 : List Ent) (k2 : Int) (sum2 : Int)
    (h1 : decide (i < np) = true)
    (h2 : 0 ≤ i)
    (h3 : ps[Int.toNat i]? = some e1)
    (h4 : ((e1.length : Int) == (0 : Int)) = false)
    (h5 : EvX LP ΓL 117 0 true (nav [true, true, true, true, true, true, false, true, false, false, true, true, false, false, true, true, true, false, true, false, false] (bodyOf Try.f5)) ⟨tk [(1, vi size), (5, vl (ents A)), (6, vl (entss ps)), (7, vi k), (8, vi i), (9, vl (ents e1)), (10, vi 0), (22, vl (entss ps)), (23, vi np), (24, vi i), (32, vl (ents e1)), (33, vi (e1.length : Int)), (34, vi 0)], []⟩ (.exit 2) ⟨tk [(1, vi size), (5, vl (ents A)), (6, vl (entss ps)), (7, vi k2), (8, vi i), (9, vl (ents e1)), (10, vi sum2), (22, vl (entss ps)), (23, vi np), (24, vi i)], []⟩)
    (h6 : IntKind.i64.wrap (i + 1) = i + 1)
    (h7 : decide (i + 1 < (ps.length : Int)) = false) :
    EvC LP ΓL 117 0 (nav [true, true, true, true, true, true, false, true, false, false] (bodyOf Try.f5)) ⟨tk [(1, vi size), (5, vl (ents A)), (6, vl (entss ps)), (7, vi k), (22, vl (entss ps)), (23, vi np), (24, vi i)], []⟩ .normal ⟨tk [(1, vi size), (5, vl (ents A)), (6, vl (entss ps)), (7, vi k2), (22, vl (entss ps)), (23, vi np), (24, vi (i + 1))], []⟩ :=
  way_ev (l := [(1, vi size), (5, vl (ents A)), (6, vl (entss ps)), (7, vi k2), (22, vl (entss ps)), (23, vi np), (24, vi (i + 1))]) (O := [.bool 25 true, .elem 27 (.ls (ents e1)), .int 30 (e1.length : Int), .bool 31 false, .int 33 (e1.length : Int), .weak [(1, vi size), (5, vl (ents A)), (6, vl (entss ps)), (7, vi k), (8, vi i), (9, vl (ents e1)), (10, vi 0), (22, vl (entss ps)), (23, vi np), (24, vi i), (32, vl (ents e1)), (33, vi (e1.length : Int)), (34, vi 0)] [] [], .loop (.exit 2) [(1, vi size), (5, vl (ents A)), (6, vl (entss ps)), (7, vi k2), (8, vi i), (9, vl (ents e1)), (10, vi sum2), (22, vl (entss ps)), (23, vi np), (24, vi i)] [], .int 85 (i + 1), .int 87 (ps.length : Int), .bool 88 false, .int 112 (i + 1)]) (fl := []) (ob := [decide (i < np) = true,
      0 ≤ i ∧ (entss ps)[Int.toNat i]? = some (.ls (ents e1)) ∧ ((entss ps).all fun y => y.cells.length == 1) = true,
      ((ents e1).length : Int) = (e1.length : Int),
      ((e1.length : Int) == (0 : Int)) = false,
      ((ents e1).length : Int) = (e1.length : Int),
      WeakL 0 [] [vi size, vl (ents A), vl (entss ps), vi k, vi i, vl (ents e1), vi 0, vl (entss ps), vi np, vi i, vl (ents e1), vi (e1.length : Int), vi 0] [] [vi size, vl (ents A), vl (entss ps), vi k, vi i, vl (ents e1), vi 0, vl (entss ps), vi np, vi i, vl (ents e1), vi (e1.length : Int), vi 0] [],
      EvX LP ΓL 117 0 true (nav [true, true, true, true, true, true, false, true, false, false, true, true, false, false, true, true, true, false, true, false, false] (bodyOf Try.f5)) ⟨tk [(1, vi size), (5, vl (ents A)), (6, vl (entss ps)), (7, vi k), (8, vi i), (9, vl (ents e1)), (10, vi 0), (22, vl (entss ps)), (23, vi np), (24, vi i), (32, vl (ents e1)), (33, vi (e1.length : Int)), (34, vi 0)], []⟩ (.exit 2) ⟨tk [(1, vi size), (5, vl (ents A)), (6, vl (entss ps)), (7, vi k2), (8, vi i), (9, vl (ents e1)), (10, vi sum2), (22, vl (entss ps)), (23, vi np), (24, vi i)], []⟩,
      IntKind.i64.wrap (i + 1) = i + 1,
      ((entss ps).length : Int) = (ps.length : Int),
      decide (i + 1 < (ps.length : Int)) = false,
      IntKind.i64.wrap (i + 1) = i + 1]) (vs := [vi size, vl (ents A), vl (entss ps), vi k2, vl (entss ps), vi np, vi (i + 1)]) (B1 := []) (by kernel_rfl) ⟨h1, (entss_at h2 h3), (ents_len _), h4, (ents_len _), ⟨rfl, ⟨.inl ⟨rfl, rfl⟩, .inl ⟨rfl, rfl⟩, .inl ⟨rfl, rfl⟩, .inl ⟨rfl, rfl⟩, .inl ⟨rfl, rfl⟩, .inl ⟨rfl, rfl⟩, .inl ⟨rfl, rfl⟩, .inl ⟨rfl, rfl⟩, .inl ⟨rfl, rfl⟩, .inl ⟨rfl, rfl⟩, .inl ⟨rfl, rfl⟩, .inl ⟨rfl, rfl⟩, .inl ⟨rfl, rfl⟩, trivial⟩, trivial⟩, h5, h6, (entss_len _), h7, h6⟩ ⟨rfl, ⟨.inl ⟨rfl, rfl⟩, .inl ⟨rfl, rfl⟩, .inl ⟨rfl, rfl⟩, .inl ⟨rfl, rfl⟩, .inl ⟨rfl, rfl⟩, .inl ⟨rfl, rfl⟩, .inl ⟨rfl, rfl⟩, trivial⟩, trivial⟩

theorem lco_w6 (size : Int) (A : List Ent) (ps : List (List Ent)) (k : Int) (np : Int) (i : Int)
    (h1 : decide (i < np) = false) :
    EvC LP ΓL 117 0 (nav [true, true, true, true, true, true, false, true, false, false] (bodyOf Try.f5)) ⟨tk [(1, vi size), (5, vl (ents A)), (6, vl (entss ps)), (7, vi k), (22, vl (entss ps)), (23, vi np), (24, vi i)], []⟩ (.exit 0) ⟨tk [(5, vl (ents A)), (7, vi k)], []⟩ :=
  way_ev (l := [(5, vl (ents A)), (7, vi k)]) (O := [.bool 25 false]) (fl := []) (ob := [decide (i < np) = false]) (vs := [vl (ents A), vi k]) (B1 := []) (by kernel_rfl) h1 ⟨rfl, ⟨.inl ⟨rfl, rfl⟩, .inl ⟨rfl, rfl⟩, trivial⟩, trivial⟩

theorem lcf_w1 (es : List Ent) (size : Int)
    (h1 : (bigL es) = true) :
    EvC LP ΓL 117 0 (nav [] (bodyOf Try.f5)) ⟨tk [(0, vl (ents es)), (1, vi size)], []⟩ .ret ⟨tk [(4, vb true)], []⟩ :=
  way_ev (l := [(4, vb true)]) (O := [.call 13 (vb true), .call 16 (vb true)]) (fl := []) (ob := [gHead [] = some (vb true),
      gBig [vl (ents es)] = some (vb true)]) (vs := [vb true]) (B1 := []) (by kernel_rfl) ⟨gHead_eq, (gBool (gBig_eq es) h1)⟩ ⟨rfl, ⟨.inl ⟨rfl, rfl⟩, trivial⟩, trivial⟩

theorem lcf_w2 (es : List Ent) (size : Int) (k : Int)
    (h1 : (bigL es) = false)
    (h2 : (es.length : Int) ≤ 30)
    (h3 : smallL (orderL es))
    (h4 : EvX LP ΓL 117 0 true (nav [true, true, true, true, true, true, false, true, false, false] (bodyOf Try.f5)) ⟨tk [(1, vi size), (5, vl (ents (orderL es))), (6, vl (entss (cutL (orderL es) size))), (7, vi 0), (22, vl (entss (cutL (orderL es) size))), (23, vi ((cutL (orderL es) size).length : Int)), (24, vi 0)], []⟩ (.exit 0) ⟨tk [(5, vl (ents (orderL es))), (7, vi k)], []⟩)
    (h5 : (k == ((orderL es).length : Int)) = true) :
    EvC LP ΓL 117 0 (nav [] (bodyOf Try.f5)) ⟨tk [(0, vl (ents es)), (1, vi size)], []⟩ .ret ⟨tk [(4, vb true)], []⟩ :=
  way_ev (l := [(4, vb true)]) (O := [.call 13 (vb true), .call 16 (vb false), .call 18 (vl (ents (orderL es))), .call 21 (vl (entss (cutL (orderL es) size))), .int 23 ((cutL (orderL es) size).length : Int), .weak [(1, vi size), (5, vl (ents (orderL es))), (6, vl (entss (cutL (orderL es) size))), (7, vi 0), (22, vl (entss (cutL (orderL es) size))), (23, vi ((cutL (orderL es) size).length : Int)), (24, vi 0)] [] [], .loop (.exit 0) [(5, vl (ents (orderL es))), (7, vi k)] [], .int 115 ((orderL es).length : Int), .bool 116 true]) (fl := []) (ob := [gHead [] = some (vb true),
      gBig [vl (ents es)] = some (vb false),
      gOrder [vl (ents es)] = some (vl (ents (orderL es))),
      gCut [vl (ents (orderL es)), vi size] = some (vl (entss (cutL (orderL es) size))),
      ((entss (cutL (orderL es) size)).length : Int) = ((cutL (orderL es) size).length : Int),
      WeakL 0 [] [vi size, vl (ents (orderL es)), vl (entss (cutL (orderL es) size)), vi 0, vl (entss (cutL (orderL es) size)), vi ((cutL (orderL es) size).length : Int), vi 0] [] [vi size, vl (ents (orderL es)), vl (entss (cutL (orderL es) size)), vi 0, vl (entss (cutL (orderL es) size)), vi ((cutL (orderL es) size).length : Int), vi 0] [],
      EvX LP ΓL 117 0 true (nav [true, true, true, true, true, true, false, true, false, false] (bodyOf Try.f5)) ⟨tk [(1, vi size), (5, vl (ents (orderL es))), (6, vl (entss (cutL (orderL es) size))), (7, vi 0), (22, vl (entss (cutL (orderL es) size))), (23, vi ((cutL (orderL es) size).length : Int)), (24, vi 0)], []⟩ (.exit 0) ⟨tk [(5, vl (ents (orderL es))), (7, vi k)], []⟩,
      ((ents (orderL es)).length : Int) = ((orderL es).length : Int),
      (k == ((orderL es).length : Int)) = true]) (vs := [vb true]) (B1 := []) (by kernel_rfl) ⟨gHead_eq, (gBool (gBig_eq es) h1), (gOrder_eq h2), (gCut_eq h3), (entss_len _), ⟨rfl, ⟨.inl ⟨rfl, rfl⟩, .inl ⟨rfl, rfl⟩, .inl ⟨rfl, rfl⟩, .inl ⟨rfl, rfl⟩, .inl ⟨rfl, rfl⟩, .inl ⟨rfl, rfl⟩, .inl ⟨rfl, rfl⟩, trivial⟩, trivial⟩, h4, (ents_len _), h5⟩ ⟨rfl, ⟨.inl ⟨rfl, rfl⟩, trivial⟩, trivial⟩

theorem lcf_w3 (es : List Ent) (size : Int) (k : Int)
    (h1 : (bigL es) = false)
    (h2 : (es.length : Int) ≤ 30)
    (h3 : smallL (orderL es))
    (h4 : EvX LP ΓL 117 0 true (nav [true, true, true, true, true, true, false, true, false, false] (bodyOf Try.f5)) ⟨tk [(1, vi size), (5, vl (ents (orderL es))), (6, vl (entss (cutL (orderL es) size))), (7, vi 0), (22, vl (entss (cutL (orderL es) size))), (23, vi ((cutL (orderL es) size).length : Int)), (24, vi 0)], []⟩ (.exit 0) ⟨tk [(5, vl (ents (orderL es))), (7, vi k)], []⟩)
    (h5 : (k == ((orderL es).length : Int)) = false) :
    EvC LP ΓL 117 0 (nav [] (bodyOf Try.f5)) ⟨tk [(0, vl (ents es)), (1, vi size)], []⟩ .ret ⟨tk [(4, vb false)], []⟩ :=
  way_ev (l := [(4, vb false)]) (O := [.call 13 (vb true), .call 16 (vb false), .call 18 (vl (ents (orderL es))), .call 21 (vl (entss (cutL (orderL es) size))), .int 23 ((cutL (orderL es) size).length : Int), .weak [(1, vi size), (5, vl (ents (orderL es))), (6, vl (entss (cutL (orderL es) size))), (7, vi 0), (22, vl (entss (cutL (orderL es) size))), (23, vi ((cutL (orderL es) size).length : Int)), (24, vi 0)] [] [], .loop (.exit 0) [(5, vl (ents (orderL es))), (7, vi k)] [], .int 115 ((orderL es).length : Int), .bool 116 false]) (fl := []) (ob := [gHead [] = some (vb true),
      gBig [vl (ents es)] = some (vb false),
      gOrder [vl (ents es)] = some (vl (ents (orderL es))),
      gCut [vl (ents (orderL es)), vi size] = some (vl (entss (cutL (orderL es) size))),
      ((entss (cutL (orderL es) size)).length : Int) = ((cutL (orderL es) size).length : Int),
      WeakL 0 [] [vi size, vl (ents (orderL es)), vl (entss (cutL (orderL es) size)), vi 0, vl (entss (cutL (orderL es) size)), vi ((cutL (orderL es) size).length : Int), vi 0] [] [vi size, vl (ents (orderL es)), vl (entss (cutL (orderL es) size)), vi 0, vl (entss (cutL (orderL es) size)), vi ((cutL (orderL es) size).length : Int), vi 0] [],
      EvX LP ΓL 117 0 true (nav [true, true, true, true, true, true, false, true, false, false] (bodyOf Try.f5)) ⟨tk [(1, vi size), (5, vl (ents (orderL es))), (6, vl (entss (cutL (orderL es) size))), (7, vi 0), (22, vl (entss (cutL (orderL es) size))), (23, vi ((cutL (orderL es) size).length : Int)), (24, vi 0)], []⟩ (.exit 0) ⟨tk [(5, vl (ents (orderL es))), (7, vi k)], []⟩,
      ((ents (orderL es)).length : Int) = ((orderL es).length : Int),
      (k == ((orderL es).length : Int)) = false]) (vs := [vb false]) (B1 := []) (by kernel_rfl) ⟨gHead_eq, (gBool (gBig_eq es) h1), (gOrder_eq h2), (gCut_eq h3), (entss_len _), ⟨rfl, ⟨.inl ⟨rfl, rfl⟩, .inl ⟨rfl, rfl⟩, .inl ⟨rfl, rfl⟩, .inl ⟨rfl, rfl⟩, .inl ⟨rfl, rfl⟩, .inl ⟨rfl, rfl⟩, .inl ⟨rfl, rfl⟩, trivial⟩, trivial⟩, h4, (ents_len _), h5⟩ ⟨rfl, ⟨.inl ⟨rfl, rfl⟩, trivial⟩, trivial⟩

end Go.Ax
