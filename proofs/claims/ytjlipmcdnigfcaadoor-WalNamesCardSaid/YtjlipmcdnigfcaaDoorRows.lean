/-
  NARROWER THAN 'FOR EVERY INPUT', by the rows' own cells (each row's printed sentence says how): WalParts: laid · WalTurns: laid · WalRoom: laid · WalNames: laid · EditChecks: laid · EditApplies: laid · EditWrites: laid · EditReads: laid · EditLines: laid · WalReads: laid · EditBad: laid.
  DERIVED. THE GIVEN ROWS OF THIS SEAT. 11 by the template 'for every input the law returns true; each argument reads behind the call as it read before'; 0 by the template 'total and deterministic' (their statements: YtjlipmcdnigfcaaDoorTotals.lean).
  GIVEN WITH THE SEED: the statements are not yours to turn. If you find one false, say at which input.
  Laid BY PROGRAM, IN A SANDBOX (cutbox-rows.mjs): the forced cells as the released guide's own fill.sh prints them over the translation b4aa1536503fcc8e… (all of the seat's roots in one cut). By AI agents, Wed Nov 11 2026. No macro, syntax, notation, axiom, sorry.
-/
import Derived.Test.YtjlipmcdnigfcaaDoorChecked
import GoSem.Claim
import GoSem.ClaimJoined
import GoSem.ClaimMapViews
import Derived.JoinedTies
import Derived.KernelRfl
namespace Go.Proofs.YtjlipmcdnigfcaaDoor
/- THE CELL 'sum', in the pinned program and in every row, IS THE sha256 OF THE DUMP (.gsa) THAT YtjlipmcdnigfcaaDoorProg.lean LOADS. Nothing in Lean hashes anything: it is a label: what it is worth is what the hold of that sum in a sandbox is worth. -/
noncomputable def Tryd.pinned : Pinned := { name := "ytjlipmcdnigfcaadoor", sum := "b4aa1536503fcc8e5f51a9b6bfd7405e0f4917caa715d367b23de8643a8ca74f", checked := Tryd.checked }
namespace Rows
def none {H : Type} : Left H := { results := [], args := [] }

/- WHAT THE LISTED PACKAGE-LEVEL VARIABLES READ AS WHEN THE CALL BEGINS. Each datum BY PROGRAM (the guide's laid-datum.mjs) off the statement by which the dump's own 'gosem.cut.vars' lays the variable. In a bare row this is a premise. The card (YtjlipmcdnigfcaaDoorCards.lean) ties it to the program's text. -/
def laid_math_bits_deBruijn32tab {H : Type} : DataW H := .agg [.lit (.int .u8 0), .lit (.int .u8 1), .lit (.int .u8 28), .lit (.int .u8 2), .lit (.int .u8 29), .lit (.int .u8 14), .lit (.int .u8 24), .lit (.int .u8 3), .lit (.int .u8 30), .lit (.int .u8 22), .lit (.int .u8 20), .lit (.int .u8 15), .lit (.int .u8 25), .lit (.int .u8 17), .lit (.int .u8 4), .lit (.int .u8 8), .lit (.int .u8 31), .lit (.int .u8 27), .lit (.int .u8 13), .lit (.int .u8 23), .lit (.int .u8 21), .lit (.int .u8 19), .lit (.int .u8 16), .lit (.int .u8 7), .lit (.int .u8 26), .lit (.int .u8 12), .lit (.int .u8 18), .lit (.int .u8 6), .lit (.int .u8 11), .lit (.int .u8 5), .lit (.int .u8 10), .lit (.int .u8 9)]
def laid_math_bits_deBruijn64tab {H : Type} : DataW H := .agg [.lit (.int .u8 0), .lit (.int .u8 1), .lit (.int .u8 56), .lit (.int .u8 2), .lit (.int .u8 57), .lit (.int .u8 49), .lit (.int .u8 28), .lit (.int .u8 3), .lit (.int .u8 61), .lit (.int .u8 58), .lit (.int .u8 42), .lit (.int .u8 50), .lit (.int .u8 38), .lit (.int .u8 29), .lit (.int .u8 17), .lit (.int .u8 4), .lit (.int .u8 62), .lit (.int .u8 47), .lit (.int .u8 59), .lit (.int .u8 36), .lit (.int .u8 45), .lit (.int .u8 43), .lit (.int .u8 51), .lit (.int .u8 22), .lit (.int .u8 53), .lit (.int .u8 39), .lit (.int .u8 33), .lit (.int .u8 30), .lit (.int .u8 24), .lit (.int .u8 18), .lit (.int .u8 12), .lit (.int .u8 5), .lit (.int .u8 63), .lit (.int .u8 55), .lit (.int .u8 48), .lit (.int .u8 27), .lit (.int .u8 60), .lit (.int .u8 41), .lit (.int .u8 37), .lit (.int .u8 16), .lit (.int .u8 46), .lit (.int .u8 35), .lit (.int .u8 44), .lit (.int .u8 21), .lit (.int .u8 52), .lit (.int .u8 32), .lit (.int .u8 23), .lit (.int .u8 11), .lit (.int .u8 54), .lit (.int .u8 26), .lit (.int .u8 40), .lit (.int .u8 15), .lit (.int .u8 34), .lit (.int .u8 20), .lit (.int .u8 31), .lit (.int .u8 10), .lit (.int .u8 25), .lit (.int .u8 14), .lit (.int .u8 19), .lit (.int .u8 9), .lit (.int .u8 13), .lit (.int .u8 8), .lit (.int .u8 7), .lit (.int .u8 6)]
def laid_internal_strconv_uint64pow10 {H : Type} : DataW H := .agg [.lit (.int .u64 1), .lit (.int .u64 10), .lit (.int .u64 100), .lit (.int .u64 1000), .lit (.int .u64 10000), .lit (.int .u64 100000), .lit (.int .u64 1000000), .lit (.int .u64 10000000), .lit (.int .u64 100000000), .lit (.int .u64 1000000000), .lit (.int .u64 10000000000), .lit (.int .u64 100000000000), .lit (.int .u64 1000000000000), .lit (.int .u64 10000000000000), .lit (.int .u64 100000000000000), .lit (.int .u64 1000000000000000), .lit (.int .u64 10000000000000000), .lit (.int .u64 100000000000000000), .lit (.int .u64 1000000000000000000), .lit (.int .u64 10000000000000000000)]
def laid_tailrace_crc_halves {H : Type} : DataW H := .agg [.lit (.int .u32 0), .lit (.int .u32 274646895), .lit (.int .u32 549293790), .lit (.int .u32 820201905), .lit (.int .u32 1098587580), .lit (.int .u32 1361435347), .lit (.int .u32 1640403810), .lit (.int .u32 1905808397), .lit (.int .u32 2197175160), .lit (.int .u32 2460548119), .lit (.int .u32 2722870694), .lit (.int .u32 2987750089), .lit (.int .u32 3280807620), .lit (.int .u32 3553878443), .lit (.int .u32 3811616794), .lit (.int .u32 4084100981)]
def laid_strconv_ErrRange {H : Type} : DataW H := .iface "*errors.errorString" (.ptr (.agg [.lit (.string [118, 97, 108, 117, 101, 32, 111, 117, 116, 32, 111, 102, 32, 114, 97, 110, 103, 101])]))
def laid_strconv_ErrSyntax {H : Type} : DataW H := .iface "*errors.errorString" (.ptr (.agg [.lit (.string [105, 110, 118, 97, 108, 105, 100, 32, 115, 121, 110, 116, 97, 120])]))

/-- 'tailracelaw09.WalParts': WHATEVER THE INPUT: true; the input reads as it did. -/
def walPartsSpec : ChangeSpec := { name := "walParts", fn := fun _ => fun
  | [d1, d2] => { results := [.lit (.bool true)], args := [d1, d2] }
  | _ => none }
def walPartsRow : OpenClaim := { program := "ytjlipmcdnigfcaadoor", sum := "b4aa1536503fcc8e5f51a9b6bfd7405e0f4917caa715d367b23de8643a8ca74f", func := "tailrace/tailracelaw09.WalParts", spec := "walParts", named := ["internal/strconv.uint64pow10", "math/bits.deBruijn32tab", "math/bits.deBruijn64tab", "tailrace/crc.halves"], apart := false, laid := [("math/bits.deBruijn32tab", laid_math_bits_deBruijn32tab), ("math/bits.deBruijn64tab", laid_math_bits_deBruijn64tab), ("internal/strconv.uint64pow10", laid_internal_strconv_uint64pow10), ("tailrace/crc.halves", laid_tailrace_crc_halves)] }
def WalPartsSaid : Prop := walPartsRow.holds Tryd.pinned (OpenSpec.ofChange walPartsSpec)

/-- ITS FALSE NEIGHBOUR: 'it returns false'. Refute it at one input. -/
def walPartsWrong : ChangeSpec := { name := "walParts", fn := fun _ => fun
  | [d1, d2] => { results := [.lit (.bool false)], args := [d1, d2] }
  | _ => none }
def WalPartsWrongFalsely : Prop := walPartsRow.holds Tryd.pinned (OpenSpec.ofChange walPartsWrong)

/-- 'tailracelaw09.WalTurns': WHATEVER THE INPUT: true; the input reads as it did. -/
def walTurnsSpec : ChangeSpec := { name := "walTurns", fn := fun _ => fun
  | [d1, d2, d3] => { results := [.lit (.bool true)], args := [d1, d2, d3] }
  | _ => none }
def walTurnsRow : OpenClaim := { program := "ytjlipmcdnigfcaadoor", sum := "b4aa1536503fcc8e5f51a9b6bfd7405e0f4917caa715d367b23de8643a8ca74f", func := "tailrace/tailracelaw09.WalTurns", spec := "walTurns", named := ["internal/strconv.uint64pow10", "math/bits.deBruijn32tab", "math/bits.deBruijn64tab", "tailrace/crc.halves"], apart := false, laid := [("math/bits.deBruijn32tab", laid_math_bits_deBruijn32tab), ("math/bits.deBruijn64tab", laid_math_bits_deBruijn64tab), ("internal/strconv.uint64pow10", laid_internal_strconv_uint64pow10), ("tailrace/crc.halves", laid_tailrace_crc_halves)] }
def WalTurnsSaid : Prop := walTurnsRow.holds Tryd.pinned (OpenSpec.ofChange walTurnsSpec)

/-- ITS FALSE NEIGHBOUR: 'it returns false'. Refute it at one input. -/
def walTurnsWrong : ChangeSpec := { name := "walTurns", fn := fun _ => fun
  | [d1, d2, d3] => { results := [.lit (.bool false)], args := [d1, d2, d3] }
  | _ => none }
def WalTurnsWrongFalsely : Prop := walTurnsRow.holds Tryd.pinned (OpenSpec.ofChange walTurnsWrong)

/-- 'tailracelaw09.WalRoom': WHATEVER THE INPUT: true; the input reads as it did. -/
def walRoomSpec : ChangeSpec := { name := "walRoom", fn := fun _ => fun
  | [d1, d2] => { results := [.lit (.bool true)], args := [d1, d2] }
  | _ => none }
def walRoomRow : OpenClaim := { program := "ytjlipmcdnigfcaadoor", sum := "b4aa1536503fcc8e5f51a9b6bfd7405e0f4917caa715d367b23de8643a8ca74f", func := "tailrace/tailracelaw09.WalRoom", spec := "walRoom", named := ["internal/strconv.uint64pow10", "math/bits.deBruijn32tab", "math/bits.deBruijn64tab", "tailrace/crc.halves"], apart := false, laid := [("math/bits.deBruijn32tab", laid_math_bits_deBruijn32tab), ("math/bits.deBruijn64tab", laid_math_bits_deBruijn64tab), ("internal/strconv.uint64pow10", laid_internal_strconv_uint64pow10), ("tailrace/crc.halves", laid_tailrace_crc_halves)] }
def WalRoomSaid : Prop := walRoomRow.holds Tryd.pinned (OpenSpec.ofChange walRoomSpec)

/-- ITS FALSE NEIGHBOUR: 'it returns false'. Refute it at one input. -/
def walRoomWrong : ChangeSpec := { name := "walRoom", fn := fun _ => fun
  | [d1, d2] => { results := [.lit (.bool false)], args := [d1, d2] }
  | _ => none }
def WalRoomWrongFalsely : Prop := walRoomRow.holds Tryd.pinned (OpenSpec.ofChange walRoomWrong)

/-- 'tailracelaw09.WalNames': WHATEVER THE INPUT: true; the input reads as it did. -/
def walNamesSpec : ChangeSpec := { name := "walNames", fn := fun _ => fun
  | [d1, d2] => { results := [.lit (.bool true)], args := [d1, d2] }
  | _ => none }
def walNamesRow : OpenClaim := { program := "ytjlipmcdnigfcaadoor", sum := "b4aa1536503fcc8e5f51a9b6bfd7405e0f4917caa715d367b23de8643a8ca74f", func := "tailrace/tailracelaw09.WalNames", spec := "walNames", named := ["internal/strconv.uint64pow10", "math/bits.deBruijn32tab", "math/bits.deBruijn64tab", "tailrace/crc.halves", "strconv.ErrSyntax", "strconv.ErrRange"], apart := false, laid := [("math/bits.deBruijn32tab", laid_math_bits_deBruijn32tab), ("math/bits.deBruijn64tab", laid_math_bits_deBruijn64tab), ("internal/strconv.uint64pow10", laid_internal_strconv_uint64pow10), ("tailrace/crc.halves", laid_tailrace_crc_halves), ("strconv.ErrRange", laid_strconv_ErrRange), ("strconv.ErrSyntax", laid_strconv_ErrSyntax)] }
def WalNamesSaid : Prop := walNamesRow.holds Tryd.pinned (OpenSpec.ofChange walNamesSpec)

/-- ITS FALSE NEIGHBOUR: 'it returns false'. Refute it at one input. -/
def walNamesWrong : ChangeSpec := { name := "walNames", fn := fun _ => fun
  | [d1, d2] => { results := [.lit (.bool false)], args := [d1, d2] }
  | _ => none }
def WalNamesWrongFalsely : Prop := walNamesRow.holds Tryd.pinned (OpenSpec.ofChange walNamesWrong)

/-- 'tailracelaw15.EditChecks': WHATEVER THE INPUT: true; the input reads as it did. -/
def editChecksSpec : ChangeSpec := { name := "editChecks", fn := fun _ => fun
  | [d1, d2] => { results := [.lit (.bool true)], args := [d1, d2] }
  | _ => none }
def editChecksRow : OpenClaim := { program := "ytjlipmcdnigfcaadoor", sum := "b4aa1536503fcc8e5f51a9b6bfd7405e0f4917caa715d367b23de8643a8ca74f", func := "tailrace/tailracelaw15.EditChecks", spec := "editChecks", unfollowed := true, recurses := true, named := ["tailrace/crc.halves", "internal/strconv.uint64pow10", "math/bits.deBruijn32tab", "math/bits.deBruijn64tab"], apart := false, laid := [("math/bits.deBruijn32tab", laid_math_bits_deBruijn32tab), ("math/bits.deBruijn64tab", laid_math_bits_deBruijn64tab), ("internal/strconv.uint64pow10", laid_internal_strconv_uint64pow10), ("tailrace/crc.halves", laid_tailrace_crc_halves)] }
def EditChecksSaid : Prop := editChecksRow.holds Tryd.pinned (OpenSpec.ofChange editChecksSpec)

/-- ITS FALSE NEIGHBOUR: 'it returns false'. Refute it at one input. -/
def editChecksWrong : ChangeSpec := { name := "editChecks", fn := fun _ => fun
  | [d1, d2] => { results := [.lit (.bool false)], args := [d1, d2] }
  | _ => none }
def EditChecksWrongFalsely : Prop := editChecksRow.holds Tryd.pinned (OpenSpec.ofChange editChecksWrong)

/-- 'tailracelaw15.EditApplies': WHATEVER THE INPUT: true; the input reads as it did. -/
def editAppliesSpec : ChangeSpec := { name := "editApplies", fn := fun _ => fun
  | [d1, d2] => { results := [.lit (.bool true)], args := [d1, d2] }
  | _ => none }
def editAppliesRow : OpenClaim := { program := "ytjlipmcdnigfcaadoor", sum := "b4aa1536503fcc8e5f51a9b6bfd7405e0f4917caa715d367b23de8643a8ca74f", func := "tailrace/tailracelaw15.EditApplies", spec := "editApplies", unfollowed := true, recurses := true, named := ["tailrace/crc.halves", "internal/strconv.uint64pow10", "math/bits.deBruijn32tab", "math/bits.deBruijn64tab"], apart := false, laid := [("math/bits.deBruijn32tab", laid_math_bits_deBruijn32tab), ("math/bits.deBruijn64tab", laid_math_bits_deBruijn64tab), ("internal/strconv.uint64pow10", laid_internal_strconv_uint64pow10), ("tailrace/crc.halves", laid_tailrace_crc_halves)] }
def EditAppliesSaid : Prop := editAppliesRow.holds Tryd.pinned (OpenSpec.ofChange editAppliesSpec)

/-- ITS FALSE NEIGHBOUR: 'it returns false'. Refute it at one input. -/
def editAppliesWrong : ChangeSpec := { name := "editApplies", fn := fun _ => fun
  | [d1, d2] => { results := [.lit (.bool false)], args := [d1, d2] }
  | _ => none }
def EditAppliesWrongFalsely : Prop := editAppliesRow.holds Tryd.pinned (OpenSpec.ofChange editAppliesWrong)

/-- 'tailracelaw15.EditWrites': WHATEVER THE INPUT: true; the input reads as it did. -/
def editWritesSpec : ChangeSpec := { name := "editWrites", fn := fun _ => fun
  | [d1, d2, d3] => { results := [.lit (.bool true)], args := [d1, d2, d3] }
  | _ => none }
def editWritesRow : OpenClaim := { program := "ytjlipmcdnigfcaadoor", sum := "b4aa1536503fcc8e5f51a9b6bfd7405e0f4917caa715d367b23de8643a8ca74f", func := "tailrace/tailracelaw15.EditWrites", spec := "editWrites", unfollowed := true, recurses := true, named := ["tailrace/crc.halves", "internal/strconv.uint64pow10", "math/bits.deBruijn32tab", "math/bits.deBruijn64tab"], apart := false, laid := [("math/bits.deBruijn32tab", laid_math_bits_deBruijn32tab), ("math/bits.deBruijn64tab", laid_math_bits_deBruijn64tab), ("internal/strconv.uint64pow10", laid_internal_strconv_uint64pow10), ("tailrace/crc.halves", laid_tailrace_crc_halves)] }
def EditWritesSaid : Prop := editWritesRow.holds Tryd.pinned (OpenSpec.ofChange editWritesSpec)

/-- ITS FALSE NEIGHBOUR: 'it returns false'. Refute it at one input. -/
def editWritesWrong : ChangeSpec := { name := "editWrites", fn := fun _ => fun
  | [d1, d2, d3] => { results := [.lit (.bool false)], args := [d1, d2, d3] }
  | _ => none }
def EditWritesWrongFalsely : Prop := editWritesRow.holds Tryd.pinned (OpenSpec.ofChange editWritesWrong)

/-- 'tailracelaw15.EditReads': WHATEVER THE INPUT: true; the input reads as it did. -/
def editReadsSpec : ChangeSpec := { name := "editReads", fn := fun _ => fun
  | [d] => { results := [.lit (.bool true)], args := [d] }
  | _ => none }
def editReadsRow : OpenClaim := { program := "ytjlipmcdnigfcaadoor", sum := "b4aa1536503fcc8e5f51a9b6bfd7405e0f4917caa715d367b23de8643a8ca74f", func := "tailrace/tailracelaw15.EditReads", spec := "editReads", unfollowed := true, recurses := true, named := ["tailrace/crc.halves", "internal/strconv.uint64pow10", "math/bits.deBruijn32tab", "math/bits.deBruijn64tab"], apart := false, laid := [("math/bits.deBruijn32tab", laid_math_bits_deBruijn32tab), ("math/bits.deBruijn64tab", laid_math_bits_deBruijn64tab), ("internal/strconv.uint64pow10", laid_internal_strconv_uint64pow10), ("tailrace/crc.halves", laid_tailrace_crc_halves)] }
def EditReadsSaid : Prop := editReadsRow.holds Tryd.pinned (OpenSpec.ofChange editReadsSpec)

/-- ITS FALSE NEIGHBOUR: 'it returns false'. Refute it at one input. -/
def editReadsWrong : ChangeSpec := { name := "editReads", fn := fun _ => fun
  | [d] => { results := [.lit (.bool false)], args := [d] }
  | _ => none }
def EditReadsWrongFalsely : Prop := editReadsRow.holds Tryd.pinned (OpenSpec.ofChange editReadsWrong)

/-- 'tailracelaw15.EditLines': WHATEVER THE INPUT: true; the input reads as it did. -/
def editLinesSpec : ChangeSpec := { name := "editLines", fn := fun _ => fun
  | [d] => { results := [.lit (.bool true)], args := [d] }
  | _ => none }
def editLinesRow : OpenClaim := { program := "ytjlipmcdnigfcaadoor", sum := "b4aa1536503fcc8e5f51a9b6bfd7405e0f4917caa715d367b23de8643a8ca74f", func := "tailrace/tailracelaw15.EditLines", spec := "editLines", unfollowed := true, recurses := true, named := ["tailrace/crc.halves", "internal/strconv.uint64pow10", "math/bits.deBruijn32tab", "math/bits.deBruijn64tab"], apart := false, laid := [("math/bits.deBruijn32tab", laid_math_bits_deBruijn32tab), ("math/bits.deBruijn64tab", laid_math_bits_deBruijn64tab), ("internal/strconv.uint64pow10", laid_internal_strconv_uint64pow10), ("tailrace/crc.halves", laid_tailrace_crc_halves)] }
def EditLinesSaid : Prop := editLinesRow.holds Tryd.pinned (OpenSpec.ofChange editLinesSpec)

/-- ITS FALSE NEIGHBOUR: 'it returns false'. Refute it at one input. -/
def editLinesWrong : ChangeSpec := { name := "editLines", fn := fun _ => fun
  | [d] => { results := [.lit (.bool false)], args := [d] }
  | _ => none }
def EditLinesWrongFalsely : Prop := editLinesRow.holds Tryd.pinned (OpenSpec.ofChange editLinesWrong)

/-- 'tailracelaw09.WalReads': WHATEVER THE INPUT: true; the input reads as it did. -/
def walReadsSpec : ChangeSpec := { name := "walReads", fn := fun _ => fun
  | [d1, d2, d3] => { results := [.lit (.bool true)], args := [d1, d2, d3] }
  | _ => none }
def walReadsRow : OpenClaim := { program := "ytjlipmcdnigfcaadoor", sum := "b4aa1536503fcc8e5f51a9b6bfd7405e0f4917caa715d367b23de8643a8ca74f", func := "tailrace/tailracelaw09.WalReads", spec := "walReads", unfollowed := true, recurses := true, named := ["internal/strconv.uint64pow10", "math/bits.deBruijn32tab", "math/bits.deBruijn64tab", "tailrace/crc.halves"], apart := false, laid := [("math/bits.deBruijn32tab", laid_math_bits_deBruijn32tab), ("math/bits.deBruijn64tab", laid_math_bits_deBruijn64tab), ("internal/strconv.uint64pow10", laid_internal_strconv_uint64pow10), ("tailrace/crc.halves", laid_tailrace_crc_halves)] }
def WalReadsSaid : Prop := walReadsRow.holds Tryd.pinned (OpenSpec.ofChange walReadsSpec)

/-- ITS FALSE NEIGHBOUR: 'it returns false'. Refute it at one input. -/
def walReadsWrong : ChangeSpec := { name := "walReads", fn := fun _ => fun
  | [d1, d2, d3] => { results := [.lit (.bool false)], args := [d1, d2, d3] }
  | _ => none }
def WalReadsWrongFalsely : Prop := walReadsRow.holds Tryd.pinned (OpenSpec.ofChange walReadsWrong)

/-- 'tailracelaw15.EditBad': WHATEVER THE INPUT: true; the input reads as it did. -/
def editBadSpec : ChangeSpec := { name := "editBad", fn := fun _ => fun
  | [d1, d2, d3, d4] => { results := [.lit (.bool true)], args := [d1, d2, d3, d4] }
  | _ => none }
def editBadRow : OpenClaim := { program := "ytjlipmcdnigfcaadoor", sum := "b4aa1536503fcc8e5f51a9b6bfd7405e0f4917caa715d367b23de8643a8ca74f", func := "tailrace/tailracelaw15.EditBad", spec := "editBad", unfollowed := true, recurses := true, named := ["tailrace/crc.halves", "internal/strconv.uint64pow10", "math/bits.deBruijn32tab", "math/bits.deBruijn64tab"], apart := false, laid := [("math/bits.deBruijn32tab", laid_math_bits_deBruijn32tab), ("math/bits.deBruijn64tab", laid_math_bits_deBruijn64tab), ("internal/strconv.uint64pow10", laid_internal_strconv_uint64pow10), ("tailrace/crc.halves", laid_tailrace_crc_halves)] }
def EditBadSaid : Prop := editBadRow.holds Tryd.pinned (OpenSpec.ofChange editBadSpec)

/-- ITS FALSE NEIGHBOUR: 'it returns false'. Refute it at one input. -/
def editBadWrong : ChangeSpec := { name := "editBad", fn := fun _ => fun
  | [d1, d2, d3, d4] => { results := [.lit (.bool false)], args := [d1, d2, d3, d4] }
  | _ => none }
def EditBadWrongFalsely : Prop := editBadRow.holds Tryd.pinned (OpenSpec.ofChange editBadWrong)

/- THE SECOND FORM. 'bulk': how many values and letters a reading holds, each counted each time it is reached (what is shared counts as often as it is met; a slice's spare places count too). A statement '..UptoSaid' is the law's where the arguments, and the package variables that the reading takes, are together of bulk at most 1048576: NARROWER than '..Said'. Prove '..Said' where nothing that the law and all that it calls make is longer than what came in: it says more and counts as full. Else prove '..UptoSaid'. A law counts once. -/
mutual
def uptoBulk {H : Type} : DataW H → Nat
  | .lit (.string bytes) => bytes.length + 1
  | .lit _ => 1
  | .nil => 1
  | .ptr d => uptoBulk d + 1
  | .slice elems spare => uptoBulkAll elems + uptoBulkAll spare + 1
  | .agg parts => uptoBulkAll parts + 1
  | .iface _ d => uptoBulk d + 1
  | .map entries => uptoBulkEntries entries + 1
  | .held _ => 1
def uptoBulkAll {H : Type} : List (DataW H) → Nat
  | [] => 0
  | d :: r => uptoBulk d + uptoBulkAll r
def uptoBulkEntries {H : Type} : List (Lit × DataW H) → Nat
  | [] => 0
  | x :: r => uptoBulkEntry x + uptoBulkEntries r
def uptoBulkEntry {H : Type} : Lit × DataW H → Nat
  | (.string bytes, d) => bytes.length + uptoBulk d + 1
  | (_, d) => uptoBulk d + 1
 end
def uptoSmall : (H : Type) → List (DataW H) → Bool := fun _ ds => decide (uptoBulkAll ds ≤ 1048576)
def OpenSpec.upto (s : _root_.Go.ChangeSpec) : _root_.Go.OpenSpec := { _root_.Go.OpenSpec.ofChange s with cond := some uptoSmall }

/-- 'tailracelaw09.WalParts', WHERE WHAT IT READS IS OF BULK AT MOST 1048576: true; the input reads as it did. -/
def walPartsUptoRow : OpenClaim := { program := "ytjlipmcdnigfcaadoor", sum := "b4aa1536503fcc8e5f51a9b6bfd7405e0f4917caa715d367b23de8643a8ca74f", func := "tailrace/tailracelaw09.WalParts", spec := "walParts", named := ["internal/strconv.uint64pow10", "math/bits.deBruijn32tab", "math/bits.deBruijn64tab", "tailrace/crc.halves"], apart := false, laid := [("math/bits.deBruijn32tab", laid_math_bits_deBruijn32tab), ("math/bits.deBruijn64tab", laid_math_bits_deBruijn64tab), ("internal/strconv.uint64pow10", laid_internal_strconv_uint64pow10), ("tailrace/crc.halves", laid_tailrace_crc_halves)], narrowed := true }
def WalPartsUptoSaid : Prop := walPartsUptoRow.holds Tryd.pinned (OpenSpec.upto walPartsSpec)

/-- 'tailracelaw09.WalTurns', WHERE WHAT IT READS IS OF BULK AT MOST 1048576: true; the input reads as it did. -/
def walTurnsUptoRow : OpenClaim := { program := "ytjlipmcdnigfcaadoor", sum := "b4aa1536503fcc8e5f51a9b6bfd7405e0f4917caa715d367b23de8643a8ca74f", func := "tailrace/tailracelaw09.WalTurns", spec := "walTurns", named := ["internal/strconv.uint64pow10", "math/bits.deBruijn32tab", "math/bits.deBruijn64tab", "tailrace/crc.halves"], apart := false, laid := [("math/bits.deBruijn32tab", laid_math_bits_deBruijn32tab), ("math/bits.deBruijn64tab", laid_math_bits_deBruijn64tab), ("internal/strconv.uint64pow10", laid_internal_strconv_uint64pow10), ("tailrace/crc.halves", laid_tailrace_crc_halves)], narrowed := true }
def WalTurnsUptoSaid : Prop := walTurnsUptoRow.holds Tryd.pinned (OpenSpec.upto walTurnsSpec)

/-- 'tailracelaw09.WalRoom', WHERE WHAT IT READS IS OF BULK AT MOST 1048576: true; the input reads as it did. -/
def walRoomUptoRow : OpenClaim := { program := "ytjlipmcdnigfcaadoor", sum := "b4aa1536503fcc8e5f51a9b6bfd7405e0f4917caa715d367b23de8643a8ca74f", func := "tailrace/tailracelaw09.WalRoom", spec := "walRoom", named := ["internal/strconv.uint64pow10", "math/bits.deBruijn32tab", "math/bits.deBruijn64tab", "tailrace/crc.halves"], apart := false, laid := [("math/bits.deBruijn32tab", laid_math_bits_deBruijn32tab), ("math/bits.deBruijn64tab", laid_math_bits_deBruijn64tab), ("internal/strconv.uint64pow10", laid_internal_strconv_uint64pow10), ("tailrace/crc.halves", laid_tailrace_crc_halves)], narrowed := true }
def WalRoomUptoSaid : Prop := walRoomUptoRow.holds Tryd.pinned (OpenSpec.upto walRoomSpec)

/-- 'tailracelaw09.WalNames', WHERE WHAT IT READS IS OF BULK AT MOST 1048576: true; the input reads as it did. -/
def walNamesUptoRow : OpenClaim := { program := "ytjlipmcdnigfcaadoor", sum := "b4aa1536503fcc8e5f51a9b6bfd7405e0f4917caa715d367b23de8643a8ca74f", func := "tailrace/tailracelaw09.WalNames", spec := "walNames", named := ["internal/strconv.uint64pow10", "math/bits.deBruijn32tab", "math/bits.deBruijn64tab", "tailrace/crc.halves", "strconv.ErrSyntax", "strconv.ErrRange"], apart := false, laid := [("math/bits.deBruijn32tab", laid_math_bits_deBruijn32tab), ("math/bits.deBruijn64tab", laid_math_bits_deBruijn64tab), ("internal/strconv.uint64pow10", laid_internal_strconv_uint64pow10), ("tailrace/crc.halves", laid_tailrace_crc_halves), ("strconv.ErrRange", laid_strconv_ErrRange), ("strconv.ErrSyntax", laid_strconv_ErrSyntax)], narrowed := true }
def WalNamesUptoSaid : Prop := walNamesUptoRow.holds Tryd.pinned (OpenSpec.upto walNamesSpec)

/-- 'tailracelaw15.EditChecks', WHERE WHAT IT READS IS OF BULK AT MOST 1048576: true; the input reads as it did. -/
def editChecksUptoRow : OpenClaim := { program := "ytjlipmcdnigfcaadoor", sum := "b4aa1536503fcc8e5f51a9b6bfd7405e0f4917caa715d367b23de8643a8ca74f", func := "tailrace/tailracelaw15.EditChecks", spec := "editChecks", unfollowed := true, recurses := true, named := ["tailrace/crc.halves", "internal/strconv.uint64pow10", "math/bits.deBruijn32tab", "math/bits.deBruijn64tab"], apart := false, laid := [("math/bits.deBruijn32tab", laid_math_bits_deBruijn32tab), ("math/bits.deBruijn64tab", laid_math_bits_deBruijn64tab), ("internal/strconv.uint64pow10", laid_internal_strconv_uint64pow10), ("tailrace/crc.halves", laid_tailrace_crc_halves)], narrowed := true }
def EditChecksUptoSaid : Prop := editChecksUptoRow.holds Tryd.pinned (OpenSpec.upto editChecksSpec)

/-- 'tailracelaw15.EditApplies', WHERE WHAT IT READS IS OF BULK AT MOST 1048576: true; the input reads as it did. -/
def editAppliesUptoRow : OpenClaim := { program := "ytjlipmcdnigfcaadoor", sum := "b4aa1536503fcc8e5f51a9b6bfd7405e0f4917caa715d367b23de8643a8ca74f", func := "tailrace/tailracelaw15.EditApplies", spec := "editApplies", unfollowed := true, recurses := true, named := ["tailrace/crc.halves", "internal/strconv.uint64pow10", "math/bits.deBruijn32tab", "math/bits.deBruijn64tab"], apart := false, laid := [("math/bits.deBruijn32tab", laid_math_bits_deBruijn32tab), ("math/bits.deBruijn64tab", laid_math_bits_deBruijn64tab), ("internal/strconv.uint64pow10", laid_internal_strconv_uint64pow10), ("tailrace/crc.halves", laid_tailrace_crc_halves)], narrowed := true }
def EditAppliesUptoSaid : Prop := editAppliesUptoRow.holds Tryd.pinned (OpenSpec.upto editAppliesSpec)

/-- 'tailracelaw15.EditWrites', WHERE WHAT IT READS IS OF BULK AT MOST 1048576: true; the input reads as it did. -/
def editWritesUptoRow : OpenClaim := { program := "ytjlipmcdnigfcaadoor", sum := "b4aa1536503fcc8e5f51a9b6bfd7405e0f4917caa715d367b23de8643a8ca74f", func := "tailrace/tailracelaw15.EditWrites", spec := "editWrites", unfollowed := true, recurses := true, named := ["tailrace/crc.halves", "internal/strconv.uint64pow10", "math/bits.deBruijn32tab", "math/bits.deBruijn64tab"], apart := false, laid := [("math/bits.deBruijn32tab", laid_math_bits_deBruijn32tab), ("math/bits.deBruijn64tab", laid_math_bits_deBruijn64tab), ("internal/strconv.uint64pow10", laid_internal_strconv_uint64pow10), ("tailrace/crc.halves", laid_tailrace_crc_halves)], narrowed := true }
def EditWritesUptoSaid : Prop := editWritesUptoRow.holds Tryd.pinned (OpenSpec.upto editWritesSpec)

/-- 'tailracelaw15.EditReads', WHERE WHAT IT READS IS OF BULK AT MOST 1048576: true; the input reads as it did. -/
def editReadsUptoRow : OpenClaim := { program := "ytjlipmcdnigfcaadoor", sum := "b4aa1536503fcc8e5f51a9b6bfd7405e0f4917caa715d367b23de8643a8ca74f", func := "tailrace/tailracelaw15.EditReads", spec := "editReads", unfollowed := true, recurses := true, named := ["tailrace/crc.halves", "internal/strconv.uint64pow10", "math/bits.deBruijn32tab", "math/bits.deBruijn64tab"], apart := false, laid := [("math/bits.deBruijn32tab", laid_math_bits_deBruijn32tab), ("math/bits.deBruijn64tab", laid_math_bits_deBruijn64tab), ("internal/strconv.uint64pow10", laid_internal_strconv_uint64pow10), ("tailrace/crc.halves", laid_tailrace_crc_halves)], narrowed := true }
def EditReadsUptoSaid : Prop := editReadsUptoRow.holds Tryd.pinned (OpenSpec.upto editReadsSpec)

/-- 'tailracelaw15.EditLines', WHERE WHAT IT READS IS OF BULK AT MOST 1048576: true; the input reads as it did. -/
def editLinesUptoRow : OpenClaim := { program := "ytjlipmcdnigfcaadoor", sum := "b4aa1536503fcc8e5f51a9b6bfd7405e0f4917caa715d367b23de8643a8ca74f", func := "tailrace/tailracelaw15.EditLines", spec := "editLines", unfollowed := true, recurses := true, named := ["tailrace/crc.halves", "internal/strconv.uint64pow10", "math/bits.deBruijn32tab", "math/bits.deBruijn64tab"], apart := false, laid := [("math/bits.deBruijn32tab", laid_math_bits_deBruijn32tab), ("math/bits.deBruijn64tab", laid_math_bits_deBruijn64tab), ("internal/strconv.uint64pow10", laid_internal_strconv_uint64pow10), ("tailrace/crc.halves", laid_tailrace_crc_halves)], narrowed := true }
def EditLinesUptoSaid : Prop := editLinesUptoRow.holds Tryd.pinned (OpenSpec.upto editLinesSpec)

/-- 'tailracelaw09.WalReads', WHERE WHAT IT READS IS OF BULK AT MOST 1048576: true; the input reads as it did. -/
def walReadsUptoRow : OpenClaim := { program := "ytjlipmcdnigfcaadoor", sum := "b4aa1536503fcc8e5f51a9b6bfd7405e0f4917caa715d367b23de8643a8ca74f", func := "tailrace/tailracelaw09.WalReads", spec := "walReads", unfollowed := true, recurses := true, named := ["internal/strconv.uint64pow10", "math/bits.deBruijn32tab", "math/bits.deBruijn64tab", "tailrace/crc.halves"], apart := false, laid := [("math/bits.deBruijn32tab", laid_math_bits_deBruijn32tab), ("math/bits.deBruijn64tab", laid_math_bits_deBruijn64tab), ("internal/strconv.uint64pow10", laid_internal_strconv_uint64pow10), ("tailrace/crc.halves", laid_tailrace_crc_halves)], narrowed := true }
def WalReadsUptoSaid : Prop := walReadsUptoRow.holds Tryd.pinned (OpenSpec.upto walReadsSpec)

/-- 'tailracelaw15.EditBad', WHERE WHAT IT READS IS OF BULK AT MOST 1048576: true; the input reads as it did. -/
def editBadUptoRow : OpenClaim := { program := "ytjlipmcdnigfcaadoor", sum := "b4aa1536503fcc8e5f51a9b6bfd7405e0f4917caa715d367b23de8643a8ca74f", func := "tailrace/tailracelaw15.EditBad", spec := "editBad", unfollowed := true, recurses := true, named := ["tailrace/crc.halves", "internal/strconv.uint64pow10", "math/bits.deBruijn32tab", "math/bits.deBruijn64tab"], apart := false, laid := [("math/bits.deBruijn32tab", laid_math_bits_deBruijn32tab), ("math/bits.deBruijn64tab", laid_math_bits_deBruijn64tab), ("internal/strconv.uint64pow10", laid_internal_strconv_uint64pow10), ("tailrace/crc.halves", laid_tailrace_crc_halves)], narrowed := true }
def EditBadUptoSaid : Prop := editBadUptoRow.holds Tryd.pinned (OpenSpec.upto editBadSpec)

end Rows
end Go.Proofs.YtjlipmcdnigfcaaDoor
