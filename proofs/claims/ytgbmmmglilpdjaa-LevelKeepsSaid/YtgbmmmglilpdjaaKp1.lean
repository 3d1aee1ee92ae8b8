/- Ways, printed by gen/g5.py: the closures of Keep that only look. -/
import Derived.Test.YtgbmmmglilpdjaaKp0
set_option linter.unusedVariables false
set_option linter.unusedSimpArgs false
namespace Go.Ax
open Go.Proofs Go.RowKit
set_option maxRecDepth 100000

theorem k25_w1 (B : List Box) (hlow : B.all (Box.low B.length) = true) (s : Int) (a : Nat) (va : Nat) (x : Ent) (b : Nat) (vb_ : Nat) (O : List Ent) (c : Nat) (vc : Nat) (i : Int) (e1 : Ent)
    (h1 : B[a]? = some (Box.cells false va [vs x.key, vn .u64 x.seq, vb x.del, vs x.val]))
    (h2 : decide (s ≥ x.seq) = true)
    (h3 : B[b]? = some (Box.cells false vb_ [vl (ents O)]))
    (h4 : B[c]? = some (Box.cells false vc [vi i]))
    (h5 : IntKind.i64.wrap (i - 1) = i - 1)
    (h6 : 0 ≤ (i - 1))
    (h7 : O[Int.toNat (i - 1)]? = some e1)
    (h8 : decide (s < e1.seq) = true) :
    EvC LP Γ0 20 B.length (nav [] (bodyOf Try.f25)) ⟨tk [(0, vn .u64 s), (1, .ptr a va 0), (2, .ptr b vb_ 0), (3, .ptr c vc 0)], B⟩ .ret ⟨tk [(5, vb true)], B⟩ :=
  way_evT (l := [(5, vb true)]) (O := [.val 8 (vn .u64 x.seq) none, .bool 9 true, .val 12 (vl (ents O)) none, .val 13 (vi i) none, .int 14 (i - 1), .elem 15 e1.pv, .bool 18 true]) (ob := [((loadA LP 28 B (.ptr a va 1)).map fun q_ => (q_, B)) = some (vn .u64 x.seq, B),
      decide (s ≥ x.seq) = true,
      ((loadA LP 22 B (.ptr b vb_ 0)).map fun q_ => (q_, B)) = some (vl (ents O), B),
      ((loadA LP 3 B (.ptr c vc 0)).map fun q_ => (q_, B)) = some (vi i, B),
      IntKind.i64.wrap (i - 1) = i - 1,
      0 ≤ (i - 1) ∧ (ents O)[Int.toNat (i - 1)]? = some e1.pv ∧ ((ents O).all fun y => y.cells.length == 4) = true,
      decide (s < e1.seq) = true]) (vs := [vb true]) (B1 := B) (by kernel_rfl) ⟨(load_sym h1  (by kernel_rfl)), h2, (load_sym h3  (by kernel_rfl)), (load_sym h4  (by kernel_rfl)), h5, (ents_at h6 h7), h8⟩ ⟨rfl, by simp [AV.low], hlow, (ble_self _)⟩

theorem k25_w2 (B : List Box) (hlow : B.all (Box.low B.length) = true) (s : Int) (a : Nat) (va : Nat) (x : Ent) (b : Nat) (vb_ : Nat) (O : List Ent) (c : Nat) (vc : Nat) (i : Int) (e1 : Ent)
    (h1 : B[a]? = some (Box.cells false va [vs x.key, vn .u64 x.seq, vb x.del, vs x.val]))
    (h2 : decide (s ≥ x.seq) = true)
    (h3 : B[b]? = some (Box.cells false vb_ [vl (ents O)]))
    (h4 : B[c]? = some (Box.cells false vc [vi i]))
    (h5 : IntKind.i64.wrap (i - 1) = i - 1)
    (h6 : 0 ≤ (i - 1))
    (h7 : O[Int.toNat (i - 1)]? = some e1)
    (h8 : decide (s < e1.seq) = false) :
    EvC LP Γ0 20 B.length (nav [] (bodyOf Try.f25)) ⟨tk [(0, vn .u64 s), (1, .ptr a va 0), (2, .ptr b vb_ 0), (3, .ptr c vc 0)], B⟩ .ret ⟨tk [(5, vb false)], B⟩ :=
  way_evT (l := [(5, vb false)]) (O := [.val 8 (vn .u64 x.seq) none, .bool 9 true, .val 12 (vl (ents O)) none, .val 13 (vi i) none, .int 14 (i - 1), .elem 15 e1.pv, .bool 18 false]) (ob := [((loadA LP 28 B (.ptr a va 1)).map fun q_ => (q_, B)) = some (vn .u64 x.seq, B),
      decide (s ≥ x.seq) = true,
      ((loadA LP 22 B (.ptr b vb_ 0)).map fun q_ => (q_, B)) = some (vl (ents O), B),
      ((loadA LP 3 B (.ptr c vc 0)).map fun q_ => (q_, B)) = some (vi i, B),
      IntKind.i64.wrap (i - 1) = i - 1,
      0 ≤ (i - 1) ∧ (ents O)[Int.toNat (i - 1)]? = some e1.pv ∧ ((ents O).all fun y => y.cells.length == 4) = true,
      decide (s < e1.seq) = false]) (vs := [vb false]) (B1 := B) (by kernel_rfl) ⟨(load_sym h1  (by kernel_rfl)), h2, (load_sym h3  (by kernel_rfl)), (load_sym h4  (by kernel_rfl)), h5, (ents_at h6 h7), h8⟩ ⟨rfl, by simp [AV.low], hlow, (ble_self _)⟩

theorem k25_w3 (B : List Box) (hlow : B.all (Box.low B.length) = true) (s : Int) (a : Nat) (va : Nat) (x : Ent) (b : Nat) (vb_ : Nat) (O : List Ent) (c : Nat) (vc : Nat) (i : Int)
    (h1 : B[a]? = some (Box.cells false va [vs x.key, vn .u64 x.seq, vb x.del, vs x.val]))
    (h2 : decide (s ≥ x.seq) = false) :
    EvC LP Γ0 20 B.length (nav [] (bodyOf Try.f25)) ⟨tk [(0, vn .u64 s), (1, .ptr a va 0), (2, .ptr b vb_ 0), (3, .ptr c vc 0)], B⟩ .ret ⟨tk [(5, vb false)], B⟩ :=
  way_evT (l := [(5, vb false)]) (O := [.val 8 (vn .u64 x.seq) none, .bool 9 false]) (ob := [((loadA LP 28 B (.ptr a va 1)).map fun q_ => (q_, B)) = some (vn .u64 x.seq, B),
      decide (s ≥ x.seq) = false]) (vs := [vb false]) (B1 := B) (by kernel_rfl) ⟨(load_sym h1  (by kernel_rfl)), h2⟩ ⟨rfl, by simp [AV.low], hlow, (ble_self _)⟩

theorem k37_w1 (B : List Box) (hlow : B.all (Box.low B.length) = true) (caps : List AV) (hcap : AV.low.allLow B.length caps = true) (S : List Int) (n : Int) (i : Int) (e1 : Int)
    (h1 : decide (i < n) = true)
    (h2 : 0 ≤ i)
    (h3 : S[Int.toNat i]? = some e1)
    (h4 : gK25 ([vn .u64 e1] ++ caps) B = some (vb true, B)) :
    EvC LP ΓK25 19 B.length (nav [true, false, true, false, false] (bodyOf Try.f37)) ⟨tk [(0, vl (ints S)), (1, .fn 25 caps), (6, vl (ints S)), (7, vi n), (8, vi i)], B⟩ .ret ⟨tk [(4, vi i)], B⟩ :=
  way_evT (l := [(4, vi i)]) (O := [.bool 9 true, .elem 14 (.v (.int .u64 e1)), .val 16 (vb true) none]) (ob := [decide (i < n) = true,
      0 ≤ i ∧ (ints S)[Int.toNat i]? = some (.v (.int .u64 e1)) ∧ ((ints S).all fun y => y.cells.length == 1) = true,
      gK25 ([vn .u64 e1] ++ caps) B = some (vb true, B)]) (vs := [vi i]) (B1 := B) (by kernel_rfl) ⟨h1, (ints_at h2 h3), h4⟩ ⟨rfl, by simp [AV.low], hlow, (ble_self _)⟩

theorem k37_w2 (B : List Box) (hlow : B.all (Box.low B.length) = true) (caps : List AV) (hcap : AV.low.allLow B.length caps = true) (S : List Int) (n : Int) (i : Int) (e1 : Int)
    (h1 : decide (i < n) = true)
    (h2 : 0 ≤ i)
    (h3 : S[Int.toNat i]? = some e1)
    (h4 : gK25 ([vn .u64 e1] ++ caps) B = some (vb false, B))
    (h5 : IntKind.i64.wrap (i + 1) = i + 1) :
    EvC LP ΓK25 19 B.length (nav [true, false, true, false, false] (bodyOf Try.f37)) ⟨tk [(0, vl (ints S)), (1, .fn 25 caps), (6, vl (ints S)), (7, vi n), (8, vi i)], B⟩ .normal ⟨tk [(0, vl (ints S)), (1, .fn 25 caps), (6, vl (ints S)), (7, vi n), (8, vi (i + 1))], B⟩ :=
  way_evT (l := [(0, vl (ints S)), (1, .fn 25 caps), (6, vl (ints S)), (7, vi n), (8, vi (i + 1))]) (O := [.bool 9 true, .elem 14 (.v (.int .u64 e1)), .val 16 (vb false) none, .int 18 (i + 1)]) (ob := [decide (i < n) = true,
      0 ≤ i ∧ (ints S)[Int.toNat i]? = some (.v (.int .u64 e1)) ∧ ((ints S).all fun y => y.cells.length == 1) = true,
      gK25 ([vn .u64 e1] ++ caps) B = some (vb false, B),
      IntKind.i64.wrap (i + 1) = i + 1]) (vs := [vl (ints S), .fn 25 caps, vl (ints S), vi n, vi (i + 1)]) (B1 := B) (by kernel_rfl) ⟨h1, (ints_at h2 h3), h4, h5⟩ ⟨rfl, by simp [AV.low, hcap], hlow, (ble_self _)⟩

theorem k37_w3 (B : List Box) (hlow : B.all (Box.low B.length) = true) (caps : List AV) (hcap : AV.low.allLow B.length caps = true) (S : List Int) (n : Int) (i : Int)
    (h1 : decide (i < n) = false) :
    EvC LP ΓK25 19 B.length (nav [true, false, true, false, false] (bodyOf Try.f37)) ⟨tk [(0, vl (ints S)), (1, .fn 25 caps), (6, vl (ints S)), (7, vi n), (8, vi i)], B⟩ (.exit 0) ⟨tk [], B⟩ :=
  way_evT (l := []) (O := [.bool 9 false]) (ob := [decide (i < n) = false]) (vs := []) (B1 := B) (by kernel_rfl) h1 ⟨rfl, by simp [AV.low], hlow, (ble_self _)⟩

theorem k37f_w1 (B : List Box) (hlow : B.all (Box.low B.length) = true) (caps : List AV) (hcap : AV.low.allLow B.length caps = true) (S : List Int) (r : Int)
    (h1 : EvX LP ΓK25 19 B.length true (nav [true, false, true, false, false] (bodyOf Try.f37)) ⟨tk [(0, vl (ints S)), (1, .fn 25 caps), (6, vl (ints S)), (7, vi (S.length : Int)), (8, vi 0)], B⟩ .ret ⟨tk [(4, vi r)], B⟩) :
    EvC LP ΓK25 19 B.length (nav [] (bodyOf Try.f37)) ⟨tk [(0, vl (ints S)), (1, .fn 25 caps)], B⟩ .ret ⟨tk [(4, vi r)], B⟩ :=
  way_evT (l := [(4, vi r)]) (O := [.int 7 (S.length : Int), .weakT [(0, vl (ints S)), (1, .fn 25 caps), (6, vl (ints S)), (7, vi (S.length : Int)), (8, vi 0)], .loop .ret [(4, vi r)] B]) (ob := [((ints S).length : Int) = (S.length : Int),
      WeakT B.length [vl (ints S), .fn 25 caps, vl (ints S), vi (S.length : Int), vi 0] [vl (ints S), .fn 25 caps, vl (ints S), vi (S.length : Int), vi 0] B,
      EvX LP ΓK25 19 B.length true (nav [true, false, true, false, false] (bodyOf Try.f37)) ⟨tk [(0, vl (ints S)), (1, .fn 25 caps), (6, vl (ints S)), (7, vi (S.length : Int)), (8, vi 0)], B⟩ .ret ⟨tk [(4, vi r)], B⟩]) (vs := [vi r]) (B1 := B) (by kernel_rfl) ⟨(ints_len _), ⟨rfl, by simp [AV.low, hcap], hlow, (ble_self _)⟩, h1⟩ ⟨rfl, by simp [AV.low], hlow, (ble_self _)⟩

theorem k37f_w2 (B : List Box) (hlow : B.all (Box.low B.length) = true) (caps : List AV) (hcap : AV.low.allLow B.length caps = true) (S : List Int)
    (h1 : EvX LP ΓK25 19 B.length true (nav [true, false, true, false, false] (bodyOf Try.f37)) ⟨tk [(0, vl (ints S)), (1, .fn 25 caps), (6, vl (ints S)), (7, vi (S.length : Int)), (8, vi 0)], B⟩ (.exit 0) ⟨tk [], B⟩) :
    EvC LP ΓK25 19 B.length (nav [] (bodyOf Try.f37)) ⟨tk [(0, vl (ints S)), (1, .fn 25 caps)], B⟩ .ret ⟨tk [(4, vi (-1))], B⟩ :=
  way_evT (l := [(4, vi (-1))]) (O := [.int 7 (S.length : Int), .weakT [(0, vl (ints S)), (1, .fn 25 caps), (6, vl (ints S)), (7, vi (S.length : Int)), (8, vi 0)], .loop (.exit 0) [] B]) (ob := [((ints S).length : Int) = (S.length : Int),
      WeakT B.length [vl (ints S), .fn 25 caps, vl (ints S), vi (S.length : Int), vi 0] [vl (ints S), .fn 25 caps, vl (ints S), vi (S.length : Int), vi 0] B,
      EvX LP ΓK25 19 B.length true (nav [true, false, true, false, false] (bodyOf Try.f37)) ⟨tk [(0, vl (ints S)), (1, .fn 25 caps), (6, vl (ints S)), (7, vi (S.length : Int)), (8, vi 0)], B⟩ (.exit 0) ⟨tk [], B⟩]) (vs := [vi (-1)]) (B1 := B) (by kernel_rfl) ⟨(ints_len _), ⟨rfl, by simp [AV.low, hcap], hlow, (ble_self _)⟩, h1⟩ ⟨rfl, by simp [AV.low], hlow, (ble_self _)⟩

theorem k24_w1 (B : List Box) (hlow : B.all (Box.low B.length) = true) (caps : List AV) (hcap : AV.low.allLow B.length caps = true) (S : List Int) (r : Int)
    (h1 : gK37 [vl (ints S), .fn 25 caps] B = some (vi r, B))
    (h2 : decide (r ≥ (0 : Int)) = true) :
    EvC LP ΓK37 9 B.length (nav [] (bodyOf Try.f24)) ⟨tk [(0, vl (ints S)), (1, .fn 25 caps)], B⟩ .ret ⟨tk [(4, vb true)], B⟩ :=
  way_evT (l := [(4, vb true)]) (O := [.val 7 (vi r) none, .bool 8 true]) (ob := [gK37 [vl (ints S), .fn 25 caps] B = some (vi r, B),
      decide (r ≥ (0 : Int)) = true]) (vs := [vb true]) (B1 := B) (by kernel_rfl) ⟨h1, h2⟩ ⟨rfl, by simp [AV.low], hlow, (ble_self _)⟩

theorem k24_w2 (B : List Box) (hlow : B.all (Box.low B.length) = true) (caps : List AV) (hcap : AV.low.allLow B.length caps = true) (S : List Int) (r : Int)
    (h1 : gK37 [vl (ints S), .fn 25 caps] B = some (vi r, B))
    (h2 : decide (r ≥ (0 : Int)) = false) :
    EvC LP ΓK37 9 B.length (nav [] (bodyOf Try.f24)) ⟨tk [(0, vl (ints S)), (1, .fn 25 caps)], B⟩ .ret ⟨tk [(4, vb false)], B⟩ :=
  way_evT (l := [(4, vb false)]) (O := [.val 7 (vi r) none, .bool 8 false]) (ob := [gK37 [vl (ints S), .fn 25 caps] B = some (vi r, B),
      decide (r ≥ (0 : Int)) = false]) (vs := [vb false]) (B1 := B) (by kernel_rfl) ⟨h1, h2⟩ ⟨rfl, by simp [AV.low], hlow, (ble_self _)⟩

end Go.Ax
