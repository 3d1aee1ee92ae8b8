/- A live row of entries is looked into. -/
import Derived.Test.YtgbmmmglilpdjaaKp6
set_option linter.unusedVariables false
set_option linter.unusedSimpArgs false
namespace Go.Ax
open Go.Proofs Go.RowKit
set_option maxRecDepth 100000

theorem ents_rowix {B2 : List Box} {b v : Nat} {L : List Ent} {i : Int} (h0 : 0 ≤ i) (h1 : i < (L.length : Int)) : ((indexAddrA LP 22 (.rs b v 4 0 L.length) (vi i)).map fun q_ => (q_, B2)) = some (.ptr b v (0 + Int.toNat i * 4), B2) := by
  rw [row_index row22 h0 h1]
  rfl

theorem ents_rowld {B B2 : List Box} {b v k : Nat} {row : Bool} {L : List Ent} {i : Int} {a : Ent} {c : PV} {ft : TypeId} (hu : undT LP ft = true) (ha : isAggT LP ft = false) (hb : B[b]? = some (.cells row v (rowC (ents L)))) (hk : a.cs[k]? = some c) (hi : L[Int.toNat i]? = some a) :
    ((loadA LP ft B (.ptr b v (0 + Int.toNat i * 4 + k))).map fun q_ => (q_, B2)) = some (.p c, B2) := by
  rw [row_load eltEnt hu ha hb hi hk]
  rfl

end Go.Ax
