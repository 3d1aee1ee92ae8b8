/-
  NARROWER THAN 'FOR EVERY INPUT', by the rows' own cells (each row's printed sentence says how): CursorParts: laid · CursorGoes: laid · CursorLives: laid · CursorSeeks: laid · CursorBad: laid.
  DERIVED. THE GIVEN ROWS OF THIS SEAT. 5 by the template 'for every input the law returns true; each argument reads behind the call as it read before'; 0 by the template 'total and deterministic' (their statements: YtddkloofiknjdaaDoorTotals.lean).
  GIVEN WITH THE SEED: the statements are not yours to turn. If you find one false, say at which input.
  Laid BY PROGRAM, IN A SANDBOX (cutbox-rows.mjs): the forced cells as the released guide's own fill.sh prints them over the translation a0282bbbcd34ffc1… (all of the seat's roots in one cut). By AI agents, Wed Nov 11 2026. No macro, syntax, notation, axiom, sorry.
-/
import Derived.Test.YtddkloofiknjdaaDoorChecked
import GoSem.Claim
import GoSem.ClaimJoined
import GoSem.ClaimMapViews
import Derived.JoinedTies
import Derived.KernelRfl
namespace Go.Proofs.YtddkloofiknjdaaDoor
/- THE CELL 'sum', in the pinned program and in every row, IS THE sha256 OF THE DUMP (.gsa) THAT YtddkloofiknjdaaDoorProg.lean LOADS. Nothing in Lean hashes anything: it is a label: what it is worth is what the hold of that sum in a sandbox is worth. -/
noncomputable def Tryd.pinned : Pinned := { name := "ytddkloofiknjdaadoor", sum := "a0282bbbcd34ffc1935495af148cc2b87aa985377126d550b81ae93670ec8a0f", checked := Tryd.checked }
namespace Rows
def none {H : Type} : Left H := { results := [], args := [] }

/- WHAT THE LISTED PACKAGE-LEVEL VARIABLES READ AS WHEN THE CALL BEGINS. Each datum BY PROGRAM (the guide's laid-datum.mjs) off the statement by which the dump's own 'gosem.cut.vars' lays the variable. In a bare row this is a premise. The card (YtddkloofiknjdaaDoorCards.lean) ties it to the program's text. -/
def laid_tailrace_crc_halves {H : Type} : DataW H := .agg [.lit (.int .u32 0), .lit (.int .u32 274646895), .lit (.int .u32 549293790), .lit (.int .u32 820201905), .lit (.int .u32 1098587580), .lit (.int .u32 1361435347), .lit (.int .u32 1640403810), .lit (.int .u32 1905808397), .lit (.int .u32 2197175160), .lit (.int .u32 2460548119), .lit (.int .u32 2722870694), .lit (.int .u32 2987750089), .lit (.int .u32 3280807620), .lit (.int .u32 3553878443), .lit (.int .u32 3811616794), .lit (.int .u32 4084100981)]

/-- 'tailracelaw14.CursorParts': WHATEVER THE INPUT: true; the input reads as it did. -/
def cursorPartsSpec : ChangeSpec := { name := "cursorParts", fn := fun _ => fun
  | [d1, d2] => { results := [.lit (.bool true)], args := [d1, d2] }
  | _ => none }
def cursorPartsRow : OpenClaim := { program := "ytddkloofiknjdaadoor", sum := "a0282bbbcd34ffc1935495af148cc2b87aa985377126d550b81ae93670ec8a0f", func := "tailrace/tailracelaw14.CursorParts", spec := "cursorParts", inPlace := ["internal/bytealg.abigen_runtime_cmpstring", "internal/abi.NoEscape", "internal/bytealg.MakeNoZero"], unfollowed := true, recurses := true, named := ["tailrace/crc.halves"], apart := false, laid := [("tailrace/crc.halves", laid_tailrace_crc_halves)] }
def CursorPartsSaid : Prop := cursorPartsRow.holds Tryd.pinned (OpenSpec.ofChange cursorPartsSpec)

/-- ITS FALSE NEIGHBOUR: 'it returns false'. Refute it at one input. -/
def cursorPartsWrong : ChangeSpec := { name := "cursorParts", fn := fun _ => fun
  | [d1, d2] => { results := [.lit (.bool false)], args := [d1, d2] }
  | _ => none }
def CursorPartsWrongFalsely : Prop := cursorPartsRow.holds Tryd.pinned (OpenSpec.ofChange cursorPartsWrong)

/-- 'tailracelaw14.CursorGoes': WHATEVER THE INPUT: true; the input reads as it did. -/
def cursorGoesSpec : ChangeSpec := { name := "cursorGoes", fn := fun _ => fun
  | [d1, d2, d3] => { results := [.lit (.bool true)], args := [d1, d2, d3] }
  | _ => none }
def cursorGoesRow : OpenClaim := { program := "ytddkloofiknjdaadoor", sum := "a0282bbbcd34ffc1935495af148cc2b87aa985377126d550b81ae93670ec8a0f", func := "tailrace/tailracelaw14.CursorGoes", spec := "cursorGoes", inPlace := ["internal/bytealg.abigen_runtime_cmpstring", "internal/abi.NoEscape", "internal/bytealg.MakeNoZero"], unfollowed := true, recurses := true, named := ["tailrace/crc.halves"], apart := false, laid := [("tailrace/crc.halves", laid_tailrace_crc_halves)] }
def CursorGoesSaid : Prop := cursorGoesRow.holds Tryd.pinned (OpenSpec.ofChange cursorGoesSpec)

/-- ITS FALSE NEIGHBOUR: 'it returns false'. Refute it at one input. -/
def cursorGoesWrong : ChangeSpec := { name := "cursorGoes", fn := fun _ => fun
  | [d1, d2, d3] => { results := [.lit (.bool false)], args := [d1, d2, d3] }
  | _ => none }
def CursorGoesWrongFalsely : Prop := cursorGoesRow.holds Tryd.pinned (OpenSpec.ofChange cursorGoesWrong)

/-- 'tailracelaw14.CursorLives': WHATEVER THE INPUT: true; the input reads as it did. -/
def cursorLivesSpec : ChangeSpec := { name := "cursorLives", fn := fun _ => fun
  | [d1, d2, d3, d4, d5, d6] => { results := [.lit (.bool true)], args := [d1, d2, d3, d4, d5, d6] }
  | _ => none }
def cursorLivesRow : OpenClaim := { program := "ytddkloofiknjdaadoor", sum := "a0282bbbcd34ffc1935495af148cc2b87aa985377126d550b81ae93670ec8a0f", func := "tailrace/tailracelaw14.CursorLives", spec := "cursorLives", inPlace := ["internal/bytealg.abigen_runtime_cmpstring", "internal/abi.NoEscape", "internal/bytealg.MakeNoZero"], unfollowed := true, recurses := true, named := ["tailrace/crc.halves"], apart := false, laid := [("tailrace/crc.halves", laid_tailrace_crc_halves)] }
def CursorLivesSaid : Prop := cursorLivesRow.holds Tryd.pinned (OpenSpec.ofChange cursorLivesSpec)

/-- ITS FALSE NEIGHBOUR: 'it returns false'. Refute it at one input. -/
def cursorLivesWrong : ChangeSpec := { name := "cursorLives", fn := fun _ => fun
  | [d1, d2, d3, d4, d5, d6] => { results := [.lit (.bool false)], args := [d1, d2, d3, d4, d5, d6] }
  | _ => none }
def CursorLivesWrongFalsely : Prop := cursorLivesRow.holds Tryd.pinned (OpenSpec.ofChange cursorLivesWrong)

/-- 'tailracelaw14.CursorSeeks': WHATEVER THE INPUT: true; the input reads as it did. -/
def cursorSeeksSpec : ChangeSpec := { name := "cursorSeeks", fn := fun _ => fun
  | [d1, d2, d3, d4] => { results := [.lit (.bool true)], args := [d1, d2, d3, d4] }
  | _ => none }
def cursorSeeksRow : OpenClaim := { program := "ytddkloofiknjdaadoor", sum := "a0282bbbcd34ffc1935495af148cc2b87aa985377126d550b81ae93670ec8a0f", func := "tailrace/tailracelaw14.CursorSeeks", spec := "cursorSeeks", inPlace := ["internal/bytealg.abigen_runtime_cmpstring", "internal/abi.NoEscape", "internal/bytealg.MakeNoZero"], unfollowed := true, recurses := true, named := ["tailrace/crc.halves"], apart := false, laid := [("tailrace/crc.halves", laid_tailrace_crc_halves)] }
def CursorSeeksSaid : Prop := cursorSeeksRow.holds Tryd.pinned (OpenSpec.ofChange cursorSeeksSpec)

/-- ITS FALSE NEIGHBOUR: 'it returns false'. Refute it at one input. -/
def cursorSeeksWrong : ChangeSpec := { name := "cursorSeeks", fn := fun _ => fun
  | [d1, d2, d3, d4] => { results := [.lit (.bool false)], args := [d1, d2, d3, d4] }
  | _ => none }
def CursorSeeksWrongFalsely : Prop := cursorSeeksRow.holds Tryd.pinned (OpenSpec.ofChange cursorSeeksWrong)

/-- 'tailracelaw14.CursorBad': WHATEVER THE INPUT: true; the input reads as it did. -/
def cursorBadSpec : ChangeSpec := { name := "cursorBad", fn := fun _ => fun
  | [d1, d2, d3] => { results := [.lit (.bool true)], args := [d1, d2, d3] }
  | _ => none }
def cursorBadRow : OpenClaim := { program := "ytddkloofiknjdaadoor", sum := "a0282bbbcd34ffc1935495af148cc2b87aa985377126d550b81ae93670ec8a0f", func := "tailrace/tailracelaw14.CursorBad", spec := "cursorBad", inPlace := ["internal/bytealg.abigen_runtime_cmpstring", "internal/abi.NoEscape", "internal/bytealg.MakeNoZero"], unfollowed := true, recurses := true, named := ["tailrace/crc.halves"], apart := false, laid := [("tailrace/crc.halves", laid_tailrace_crc_halves)] }
def CursorBadSaid : Prop := cursorBadRow.holds Tryd.pinned (OpenSpec.ofChange cursorBadSpec)

/-- ITS FALSE NEIGHBOUR: 'it returns false'. Refute it at one input. -/
def cursorBadWrong : ChangeSpec := { name := "cursorBad", fn := fun _ => fun
  | [d1, d2, d3] => { results := [.lit (.bool false)], args := [d1, d2, d3] }
  | _ => none }
def CursorBadWrongFalsely : Prop := cursorBadRow.holds Tryd.pinned (OpenSpec.ofChange cursorBadWrong)

/- THE SECOND FORM. 'bulk': how many values and letters a reading holds, each counted each time it is reached (what is shared counts as often as it is met; a slice's spare places count too). A statement '..UptoSaid' is the law's where the arguments, and the package variables that the reading takes, are together of bulk at most 1048576: NARROWER than '..Said'. Prove '..Said' where nothing that the law and all that it calls make is longer than what came in: it says more and counts as full. Else prove '..UptoSaid'. A law counts once. -/
mutual
def uptoBulk {H : Type} : DataW H → Nat
  | .lit (.string bytes) => bytes.length + 1
  | .lit _ => 1
  | .nil => 1
  | .ptr d => uptoBulk d + 1
  | .slice elems spare => uptoBulkAll elems + uptoBulkAll spare + 1
  | .agg parts => uptoBulkAll parts + 1
  | .iface _ d => uptoBulk d + 1
  | .map entries => uptoBulkEntries entries + 1
  | .held _ => 1
def uptoBulkAll {H : Type} : List (DataW H) → Nat
  | [] => 0
  | d :: r => uptoBulk d + uptoBulkAll r
def uptoBulkEntries {H : Type} : List (Lit × DataW H) → Nat
  | [] => 0
  | x :: r => uptoBulkEntry x + uptoBulkEntries r
def uptoBulkEntry {H : Type} : Lit × DataW H → Nat
  | (.string bytes, d) => bytes.length + uptoBulk d + 1
  | (_, d) => uptoBulk d + 1
 end
def uptoSmall : (H : Type) → List (DataW H) → Bool := fun _ ds => decide (uptoBulkAll ds ≤ 1048576)
def OpenSpec.upto (s : _root_.Go.ChangeSpec) : _root_.Go.OpenSpec := { _root_.Go.OpenSpec.ofChange s with cond := some uptoSmall }

/-- 'tailracelaw14.CursorParts', WHERE WHAT IT READS IS OF BULK AT MOST 1048576: true; the input reads as it did. -/
def cursorPartsUptoRow : OpenClaim := { program := "ytddkloofiknjdaadoor", sum := "a0282bbbcd34ffc1935495af148cc2b87aa985377126d550b81ae93670ec8a0f", func := "tailrace/tailracelaw14.CursorParts", spec := "cursorParts", inPlace := ["internal/bytealg.abigen_runtime_cmpstring", "internal/abi.NoEscape", "internal/bytealg.MakeNoZero"], unfollowed := true, recurses := true, named := ["tailrace/crc.halves"], apart := false, laid := [("tailrace/crc.halves", laid_tailrace_crc_halves)], narrowed := true }
def CursorPartsUptoSaid : Prop := cursorPartsUptoRow.holds Tryd.pinned (OpenSpec.upto cursorPartsSpec)

/-- 'tailracelaw14.CursorGoes', WHERE WHAT IT READS IS OF BULK AT MOST 1048576: true; the input reads as it did. -/
def cursorGoesUptoRow : OpenClaim := { program := "ytddkloofiknjdaadoor", sum := "a0282bbbcd34ffc1935495af148cc2b87aa985377126d550b81ae93670ec8a0f", func := "tailrace/tailracelaw14.CursorGoes", spec := "cursorGoes", inPlace := ["internal/bytealg.abigen_runtime_cmpstring", "internal/abi.NoEscape", "internal/bytealg.MakeNoZero"], unfollowed := true, recurses := true, named := ["tailrace/crc.halves"], apart := false, laid := [("tailrace/crc.halves", laid_tailrace_crc_halves)], narrowed := true }
def CursorGoesUptoSaid : Prop := cursorGoesUptoRow.holds Tryd.pinned (OpenSpec.upto cursorGoesSpec)

/-- 'tailracelaw14.CursorLives', WHERE WHAT IT READS IS OF BULK AT MOST 1048576: true; the input reads as it did. -/
def cursorLivesUptoRow : OpenClaim := { program := "ytddkloofiknjdaadoor", sum := "a0282bbbcd34ffc1935495af148cc2b87aa985377126d550b81ae93670ec8a0f", func := "tailrace/tailracelaw14.CursorLives", spec := "cursorLives", inPlace := ["internal/bytealg.abigen_runtime_cmpstring", "internal/abi.NoEscape", "internal/bytealg.MakeNoZero"], unfollowed := true, recurses := true, named := ["tailrace/crc.halves"], apart := false, laid := [("tailrace/crc.halves", laid_tailrace_crc_halves)], narrowed := true }
def CursorLivesUptoSaid : Prop := cursorLivesUptoRow.holds Tryd.pinned (OpenSpec.upto cursorLivesSpec)

/-- 'tailracelaw14.CursorSeeks', WHERE WHAT IT READS IS OF BULK AT MOST 1048576: true; the input reads as it did. -/
def cursorSeeksUptoRow : OpenClaim := { program := "ytddkloofiknjdaadoor", sum := "a0282bbbcd34ffc1935495af148cc2b87aa985377126d550b81ae93670ec8a0f", func := "tailrace/tailracelaw14.CursorSeeks", spec := "cursorSeeks", inPlace := ["internal/bytealg.abigen_runtime_cmpstring", "internal/abi.NoEscape", "internal/bytealg.MakeNoZero"], unfollowed := true, recurses := true, named := ["tailrace/crc.halves"], apart := false, laid := [("tailrace/crc.halves", laid_tailrace_crc_halves)], narrowed := true }
def CursorSeeksUptoSaid : Prop := cursorSeeksUptoRow.holds Tryd.pinned (OpenSpec.upto cursorSeeksSpec)

/-- 'tailracelaw14.CursorBad', WHERE WHAT IT READS IS OF BULK AT MOST 1048576: true; the input reads as it did. -/
def cursorBadUptoRow : OpenClaim := { program := "ytddkloofiknjdaadoor", sum := "a0282bbbcd34ffc1935495af148cc2b87aa985377126d550b81ae93670ec8a0f", func := "tailrace/tailracelaw14.CursorBad", spec := "cursorBad", inPlace := ["internal/bytealg.abigen_runtime_cmpstring", "internal/abi.NoEscape", "internal/bytealg.MakeNoZero"], unfollowed := true, recurses := true, named := ["tailrace/crc.halves"], apart := false, laid := [("tailrace/crc.halves", laid_tailrace_crc_halves)], narrowed := true }
def CursorBadUptoSaid : Prop := cursorBadUptoRow.holds Tryd.pinned (OpenSpec.upto cursorBadSpec)

end Rows
end Go.Proofs.YtddkloofiknjdaaDoor
