/- Ways, printed by gen/g1.py: comparing and checking entries. -/
import Derived.Test.YtgbmmmglilpdjaaLv0
set_option linter.unusedVariables false
set_option linter.unusedSimpArgs false
namespace Go.Ax
open Go.Proofs Go.RowKit
set_option maxRecDepth 100000

theorem scmp42_w1 (a : ByteArray) (b : ByteArray) :
    EvC LP Γ46 8 0 (nav [] (bodyOf Try.f42)) ⟨tk [(0, vs a), (1, vs b)], []⟩ .ret ⟨tk [(4, vi (Lib.compareBytes a.data.toList b.data.toList))], []⟩ :=
  way_ev (l := [(4, vi (Lib.compareBytes a.data.toList b.data.toList))]) (O := [.call 7 (vi (Lib.compareBytes a.data.toList b.data.toList))]) (fl := []) (ob := [gScmp [vs a, vs b] = some (vi (Lib.compareBytes a.data.toList b.data.toList))]) (vs := [vi (Lib.compareBytes a.data.toList b.data.toList)]) (B1 := []) (by kernel_rfl) (gScmp_eq a b) ⟨rfl, ⟨.inl ⟨rfl, rfl⟩, trivial⟩, trivial⟩

theorem scmp36_w1 (a : ByteArray) (b : ByteArray) :
    EvC LP Γ42 8 0 (nav [] (bodyOf Try.f36)) ⟨tk [(0, vs a), (1, vs b)], []⟩ .ret ⟨tk [(4, vi (Lib.compareBytes a.data.toList b.data.toList))], []⟩ :=
  way_ev (l := [(4, vi (Lib.compareBytes a.data.toList b.data.toList))]) (O := [.call 7 (vi (Lib.compareBytes a.data.toList b.data.toList))]) (fl := []) (ob := [gScmp [vs a, vs b] = some (vi (Lib.compareBytes a.data.toList b.data.toList))]) (vs := [vi (Lib.compareBytes a.data.toList b.data.toList)]) (B1 := []) (by kernel_rfl) (gScmp_eq a b) ⟨rfl, ⟨.inl ⟨rfl, rfl⟩, trivial⟩, trivial⟩

theorem check_w1 (e : Ent)
    (h1 : ((e.key.size : Int) == (0 : Int)) = true) :
    EvC LP Γ36 33 0 (nav [] (bodyOf Try.f21)) ⟨tk [(0, .agg [vs e.key, vn .u64 e.seq, vb e.del, vs e.val])], []⟩ .ret ⟨tk [(2, vi 1)], []⟩ :=
  way_ev (l := [(2, vi 1)]) (O := [.bool 7 true]) (fl := []) (ob := [((e.key.size : Int) == (0 : Int)) = true]) (vs := [vi 1]) (B1 := [Box.cells false 0 [vs e.key, vn .u64 e.seq, vb e.del, vs e.val]]) (by kernel_rfl) h1 ⟨rfl, ⟨.inl ⟨rfl, rfl⟩, trivial⟩, trivial⟩

theorem check_w2 (e : Ent)
    (h1 : ((e.key.size : Int) == (0 : Int)) = false)
    (h2 : decide (e.seq > (72057594037927935 : Int)) = true) :
    EvC LP Γ36 33 0 (nav [] (bodyOf Try.f21)) ⟨tk [(0, .agg [vs e.key, vn .u64 e.seq, vb e.del, vs e.val])], []⟩ .ret ⟨tk [(2, vi 1)], []⟩ :=
  way_ev (l := [(2, vi 1)]) (O := [.bool 7 false, .bool 11 true]) (fl := []) (ob := [((e.key.size : Int) == (0 : Int)) = false,
      decide (e.seq > (72057594037927935 : Int)) = true]) (vs := [vi 1]) (B1 := [Box.cells false 0 [vs e.key, vn .u64 e.seq, vb e.del, vs e.val]]) (by kernel_rfl) ⟨h1, h2⟩ ⟨rfl, ⟨.inl ⟨rfl, rfl⟩, trivial⟩, trivial⟩

theorem check_w3 (e : Ent)
    (h1 : ((e.key.size : Int) == (0 : Int)) = false)
    (h2 : decide (e.seq > (72057594037927935 : Int)) = false)
    (h3 : e.del = true)
    (h4 : (!(e.val.toList == (⟨#[]⟩ : ByteArray).toList)) = true) :
    EvC LP Γ36 33 0 (nav [] (bodyOf Try.f21)) ⟨tk [(0, .agg [vs e.key, vn .u64 e.seq, vb e.del, vs e.val])], []⟩ .ret ⟨tk [(2, vi 1)], []⟩ :=
  way_ev (l := [(2, vi 1)]) (O := [.bool 7 false, .bool 11 false, .bool 15 true, .bool 19 true]) (fl := []) (ob := [((e.key.size : Int) == (0 : Int)) = false,
      decide (e.seq > (72057594037927935 : Int)) = false,
      e.del = true,
      (!(e.val.toList == (⟨#[]⟩ : ByteArray).toList)) = true]) (vs := [vi 1]) (B1 := [Box.cells false 0 [vs e.key, vn .u64 e.seq, vb e.del, vs e.val]]) (by kernel_rfl) ⟨h1, h2, h3, h4⟩ ⟨rfl, ⟨.inl ⟨rfl, rfl⟩, trivial⟩, trivial⟩

theorem check_w4 (e : Ent)
    (h1 : ((e.key.size : Int) == (0 : Int)) = false)
    (h2 : decide (e.seq > (72057594037927935 : Int)) = false)
    (h3 : e.del = true)
    (h4 : (!(e.val.toList == (⟨#[]⟩ : ByteArray).toList)) = false)
    (h5 : decide ((e.key.size : Int) > (128 : Int)) = true) :
    EvC LP Γ36 33 0 (nav [] (bodyOf Try.f21)) ⟨tk [(0, .agg [vs e.key, vn .u64 e.seq, vb e.del, vs e.val])], []⟩ .ret ⟨tk [(2, vi 6)], []⟩ :=
  way_ev (l := [(2, vi 6)]) (O := [.bool 7 false, .bool 11 false, .bool 15 true, .bool 19 false, .bool 26 true]) (fl := []) (ob := [((e.key.size : Int) == (0 : Int)) = false,
      decide (e.seq > (72057594037927935 : Int)) = false,
      e.del = true,
      (!(e.val.toList == (⟨#[]⟩ : ByteArray).toList)) = false,
      decide ((e.key.size : Int) > (128 : Int)) = true]) (vs := [vi 6]) (B1 := [Box.cells false 0 [vs e.key, vn .u64 e.seq, vb e.del, vs e.val]]) (by kernel_rfl) ⟨h1, h2, h3, h4, h5⟩ ⟨rfl, ⟨.inl ⟨rfl, rfl⟩, trivial⟩, trivial⟩

theorem check_w5 (e : Ent)
    (h1 : ((e.key.size : Int) == (0 : Int)) = false)
    (h2 : decide (e.seq > (72057594037927935 : Int)) = false)
    (h3 : e.del = true)
    (h4 : (!(e.val.toList == (⟨#[]⟩ : ByteArray).toList)) = false)
    (h5 : decide ((e.key.size : Int) > (128 : Int)) = false)
    (h6 : decide ((e.val.size : Int) > (65536 : Int)) = true) :
    EvC LP Γ36 33 0 (nav [] (bodyOf Try.f21)) ⟨tk [(0, .agg [vs e.key, vn .u64 e.seq, vb e.del, vs e.val])], []⟩ .ret ⟨tk [(2, vi 6)], []⟩ :=
  way_ev (l := [(2, vi 6)]) (O := [.bool 7 false, .bool 11 false, .bool 15 true, .bool 19 false, .bool 26 false, .bool 31 true]) (fl := []) (ob := [((e.key.size : Int) == (0 : Int)) = false,
      decide (e.seq > (72057594037927935 : Int)) = false,
      e.del = true,
      (!(e.val.toList == (⟨#[]⟩ : ByteArray).toList)) = false,
      decide ((e.key.size : Int) > (128 : Int)) = false,
      decide ((e.val.size : Int) > (65536 : Int)) = true]) (vs := [vi 6]) (B1 := [Box.cells false 0 [vs e.key, vn .u64 e.seq, vb e.del, vs e.val]]) (by kernel_rfl) ⟨h1, h2, h3, h4, h5, h6⟩ ⟨rfl, ⟨.inl ⟨rfl, rfl⟩, trivial⟩, trivial⟩

theorem check_w6 (e : Ent)
    (h1 : ((e.key.size : Int) == (0 : Int)) = false)
    (h2 : decide (e.seq > (72057594037927935 : Int)) = false)
    (h3 : e.del = true)
    (h4 : (!(e.val.toList == (⟨#[]⟩ : ByteArray).toList)) = false)
    (h5 : decide ((e.key.size : Int) > (128 : Int)) = false)
    (h6 : decide ((e.val.size : Int) > (65536 : Int)) = false) :
    EvC LP Γ36 33 0 (nav [] (bodyOf Try.f21)) ⟨tk [(0, .agg [vs e.key, vn .u64 e.seq, vb e.del, vs e.val])], []⟩ .ret ⟨tk [(2, vi 0)], []⟩ :=
  way_ev (l := [(2, vi 0)]) (O := [.bool 7 false, .bool 11 false, .bool 15 true, .bool 19 false, .bool 26 false, .bool 31 false]) (fl := []) (ob := [((e.key.size : Int) == (0 : Int)) = false,
      decide (e.seq > (72057594037927935 : Int)) = false,
      e.del = true,
      (!(e.val.toList == (⟨#[]⟩ : ByteArray).toList)) = false,
      decide ((e.key.size : Int) > (128 : Int)) = false,
      decide ((e.val.size : Int) > (65536 : Int)) = false]) (vs := [vi 0]) (B1 := [Box.cells false 0 [vs e.key, vn .u64 e.seq, vb e.del, vs e.val]]) (by kernel_rfl) ⟨h1, h2, h3, h4, h5, h6⟩ ⟨rfl, ⟨.inl ⟨rfl, rfl⟩, trivial⟩, trivial⟩

theorem check_w7 (e : Ent)
    (h1 : ((e.key.size : Int) == (0 : Int)) = false)
    (h2 : decide (e.seq > (72057594037927935 : Int)) = false)
    (h3 : e.del = false)
    (h4 : decide ((e.key.size : Int) > (128 : Int)) = true) :
    EvC LP Γ36 33 0 (nav [] (bodyOf Try.f21)) ⟨tk [(0, .agg [vs e.key, vn .u64 e.seq, vb e.del, vs e.val])], []⟩ .ret ⟨tk [(2, vi 6)], []⟩ :=
  way_ev (l := [(2, vi 6)]) (O := [.bool 7 false, .bool 11 false, .bool 15 false, .bool 26 true]) (fl := []) (ob := [((e.key.size : Int) == (0 : Int)) = false,
      decide (e.seq > (72057594037927935 : Int)) = false,
      e.del = false,
      decide ((e.key.size : Int) > (128 : Int)) = true]) (vs := [vi 6]) (B1 := [Box.cells false 0 [vs e.key, vn .u64 e.seq, vb e.del, vs e.val]]) (by kernel_rfl) ⟨h1, h2, h3, h4⟩ ⟨rfl, ⟨.inl ⟨rfl, rfl⟩, trivial⟩, trivial⟩

theorem check_w8 (e : Ent)
    (h1 : ((e.key.size : Int) == (0 : Int)) = false)
    (h2 : decide (e.seq > (72057594037927935 : Int)) = false)
    (h3 : e.del = false)
    (h4 : decide ((e.key.size : Int) > (128 : Int)) = false)
    (h5 : decide ((e.val.size : Int) > (65536 : Int)) = true) :
    EvC LP Γ36 33 0 (nav [] (bodyOf Try.f21)) ⟨tk [(0, .agg [vs e.key, vn .u64 e.seq, vb e.del, vs e.val])], []⟩ .ret ⟨tk [(2, vi 6)], []⟩ :=
  way_ev (l := [(2, vi 6)]) (O := [.bool 7 false, .bool 11 false, .bool 15 false, .bool 26 false, .bool 31 true]) (fl := []) (ob := [((e.key.size : Int) == (0 : Int)) = false,
      decide (e.seq > (72057594037927935 : Int)) = false,
      e.del = false,
      decide ((e.key.size : Int) > (128 : Int)) = false,
      decide ((e.val.size : Int) > (65536 : Int)) = true]) (vs := [vi 6]) (B1 := [Box.cells false 0 [vs e.key, vn .u64 e.seq, vb e.del, vs e.val]]) (by kernel_rfl) ⟨h1, h2, h3, h4, h5⟩ ⟨rfl, ⟨.inl ⟨rfl, rfl⟩, trivial⟩, trivial⟩

theorem check_w9 (e : Ent)
    (h1 : ((e.key.size : Int) == (0 : Int)) = false)
    (h2 : decide (e.seq > (72057594037927935 : Int)) = false)
    (h3 : e.del = false)
    (h4 : decide ((e.key.size : Int) > (128 : Int)) = false)
    (h5 : decide ((e.val.size : Int) > (65536 : Int)) = false) :
    EvC LP Γ36 33 0 (nav [] (bodyOf Try.f21)) ⟨tk [(0, .agg [vs e.key, vn .u64 e.seq, vb e.del, vs e.val])], []⟩ .ret ⟨tk [(2, vi 0)], []⟩ :=
  way_ev (l := [(2, vi 0)]) (O := [.bool 7 false, .bool 11 false, .bool 15 false, .bool 26 false, .bool 31 false]) (fl := []) (ob := [((e.key.size : Int) == (0 : Int)) = false,
      decide (e.seq > (72057594037927935 : Int)) = false,
      e.del = false,
      decide ((e.key.size : Int) > (128 : Int)) = false,
      decide ((e.val.size : Int) > (65536 : Int)) = false]) (vs := [vi 0]) (B1 := [Box.cells false 0 [vs e.key, vn .u64 e.seq, vb e.del, vs e.val]]) (by kernel_rfl) ⟨h1, h2, h3, h4, h5⟩ ⟨rfl, ⟨.inl ⟨rfl, rfl⟩, trivial⟩, trivial⟩

theorem cmp_w1 (x : Ent) (y : Ent)
    (h1 : ((Lib.compareBytes x.key.data.toList y.key.data.toList) != (0 : Int)) = true) :
    EvC LP Γ36 26 0 (nav [] (bodyOf Try.f22)) ⟨tk [(0, .agg [vs x.key, vn .u64 x.seq, vb x.del, vs x.val]), (1, .agg [vs y.key, vn .u64 y.seq, vb y.del, vs y.val])], []⟩ .ret ⟨tk [(4, vi (Lib.compareBytes x.key.data.toList y.key.data.toList))], []⟩ :=
  way_ev (l := [(4, vi (Lib.compareBytes x.key.data.toList y.key.data.toList))]) (O := [.call 10 (vi (Lib.compareBytes x.key.data.toList y.key.data.toList)), .bool 12 true]) (fl := []) (ob := [gScmp [vs x.key, vs y.key] = some (vi (Lib.compareBytes x.key.data.toList y.key.data.toList)),
      ((Lib.compareBytes x.key.data.toList y.key.data.toList) != (0 : Int)) = true]) (vs := [vi (Lib.compareBytes x.key.data.toList y.key.data.toList)]) (B1 := [Box.cells false 0 [vs x.key, vn .u64 x.seq, vb x.del, vs x.val], Box.cells false 0 [vs y.key, vn .u64 y.seq, vb y.del, vs y.val]]) (by kernel_rfl) ⟨(gScmp_eq x.key y.key), h1⟩ ⟨rfl, ⟨.inl ⟨rfl, rfl⟩, trivial⟩, trivial⟩

theorem cmp_w2 (x : Ent) (y : Ent)
    (h1 : ((Lib.compareBytes x.key.data.toList y.key.data.toList) != (0 : Int)) = false)
    (h2 : decide (x.seq > y.seq) = true) :
    EvC LP Γ36 26 0 (nav [] (bodyOf Try.f22)) ⟨tk [(0, .agg [vs x.key, vn .u64 x.seq, vb x.del, vs x.val]), (1, .agg [vs y.key, vn .u64 y.seq, vb y.del, vs y.val])], []⟩ .ret ⟨tk [(4, vi (-1))], []⟩ :=
  way_ev (l := [(4, vi (-1))]) (O := [.call 10 (vi (Lib.compareBytes x.key.data.toList y.key.data.toList)), .bool 12 false, .bool 19 true]) (fl := []) (ob := [gScmp [vs x.key, vs y.key] = some (vi (Lib.compareBytes x.key.data.toList y.key.data.toList)),
      ((Lib.compareBytes x.key.data.toList y.key.data.toList) != (0 : Int)) = false,
      decide (x.seq > y.seq) = true]) (vs := [vi (-1)]) (B1 := [Box.cells false 0 [vs x.key, vn .u64 x.seq, vb x.del, vs x.val], Box.cells false 0 [vs y.key, vn .u64 y.seq, vb y.del, vs y.val]]) (by kernel_rfl) ⟨(gScmp_eq x.key y.key), h1, h2⟩ ⟨rfl, ⟨.inl ⟨rfl, rfl⟩, trivial⟩, trivial⟩

theorem cmp_w3 (x : Ent) (y : Ent)
    (h1 : ((Lib.compareBytes x.key.data.toList y.key.data.toList) != (0 : Int)) = false)
    (h2 : decide (x.seq > y.seq) = false)
    (h3 : decide (x.seq < y.seq) = true) :
    EvC LP Γ36 26 0 (nav [] (bodyOf Try.f22)) ⟨tk [(0, .agg [vs x.key, vn .u64 x.seq, vb x.del, vs x.val]), (1, .agg [vs y.key, vn .u64 y.seq, vb y.del, vs y.val])], []⟩ .ret ⟨tk [(4, vi 1)], []⟩ :=
  way_ev (l := [(4, vi 1)]) (O := [.call 10 (vi (Lib.compareBytes x.key.data.toList y.key.data.toList)), .bool 12 false, .bool 19 false, .bool 25 true]) (fl := []) (ob := [gScmp [vs x.key, vs y.key] = some (vi (Lib.compareBytes x.key.data.toList y.key.data.toList)),
      ((Lib.compareBytes x.key.data.toList y.key.data.toList) != (0 : Int)) = false,
      decide (x.seq > y.seq) = false,
      decide (x.seq < y.seq) = true]) (vs := [vi 1]) (B1 := [Box.cells false 0 [vs x.key, vn .u64 x.seq, vb x.del, vs x.val], Box.cells false 0 [vs y.key, vn .u64 y.seq, vb y.del, vs y.val]]) (by kernel_rfl) ⟨(gScmp_eq x.key y.key), h1, h2, h3⟩ ⟨rfl, ⟨.inl ⟨rfl, rfl⟩, trivial⟩, trivial⟩

theorem cmp_w4 (x : Ent) (y : Ent)
    (h1 : ((Lib.compareBytes x.key.data.toList y.key.data.toList) != (0 : Int)) = false)
    (h2 : decide (x.seq > y.seq) = false)
    (h3 : decide (x.seq < y.seq) = false) :
    EvC LP Γ36 26 0 (nav [] (bodyOf Try.f22)) ⟨tk [(0, .agg [vs x.key, vn .u64 x.seq, vb x.del, vs x.val]), (1, .agg [vs y.key, vn .u64 y.seq, vb y.del, vs y.val])], []⟩ .ret ⟨tk [(4, vi 0)], []⟩ :=
  way_ev (l := [(4, vi 0)]) (O := [.call 10 (vi (Lib.compareBytes x.key.data.toList y.key.data.toList)), .bool 12 false, .bool 19 false, .bool 25 false]) (fl := []) (ob := [gScmp [vs x.key, vs y.key] = some (vi (Lib.compareBytes x.key.data.toList y.key.data.toList)),
      ((Lib.compareBytes x.key.data.toList y.key.data.toList) != (0 : Int)) = false,
      decide (x.seq > y.seq) = false,
      decide (x.seq < y.seq) = false]) (vs := [vi 0]) (B1 := [Box.cells false 0 [vs x.key, vn .u64 x.seq, vb x.del, vs x.val], Box.cells false 0 [vs y.key, vn .u64 y.seq, vb y.del, vs y.val]]) (by kernel_rfl) ⟨(gScmp_eq x.key y.key), h1, h2, h3⟩ ⟨rfl, ⟨.inl ⟨rfl, rfl⟩, trivial⟩, trivial⟩

end Go.Ax
