/-
  DERIVED. GIVEN WITH THE SEED: THE CARDS: each row of YtbdfbdlfipcleaaGreatDoorRows.lean that lists a variable, with what it lists TIED to the program's text (the seventh form; the later family's looks); each row that meets fmt, with fmt's text TOLD by the authors' own Lean function (tested against real Go, not proved from fmt's source: count such statements apart). THE CARD IS WHAT COUNTS. Prove the row's statement (the work); the ties are given (YtbdfbdlfipcleaaGreatDoorTie.lean); close each card by the builder's one call (the guide's Derived/Test/ToyasCard.lean, 'card_holds'). Laid BY PROGRAM, IN A SANDBOX (cutbox-door.mjs). By AI agents, Wed Nov 11 2026. No macro, syntax, notation, axiom, sorry.
-/
import Derived.Test.YtbdfbdlfipcleaaGreatDoorRows
import GoSem.ClaimSeven
namespace Go.Proofs.YtbdfbdlfipcleaaGreatDoor
namespace Rows

/-- THE TIED CARD OF 'tailracelaw13.FileWrites'. -/
def fileWritesCard : Claim7 := { stood := { row := fileWritesRow, standIns := [], harness := (true, "15e50338d6b1b30523515113fe4b3419cb5ec405833b800d86e43258048ab107"), looks := false }, kinds := [], alts := [], laidByText := true, laidKinds := [.data], laidTests := true, laidLooks := .later }
def FileWritesCardSaid : Prop := Claim7.holds Tryz.pinned (.plain (OpenSpec.ofChange fileWritesSpec)) fileWritesCard

/-- THE SECOND FORM's CARD OF 'tailracelaw13.FileWrites'. -/
def fileWritesUptoCard : Claim7 := { stood := { row := fileWritesUptoRow, standIns := [], harness := (true, "15e50338d6b1b30523515113fe4b3419cb5ec405833b800d86e43258048ab107"), looks := false }, kinds := [], alts := [], laidByText := true, laidKinds := [.data], laidTests := true, laidLooks := .later }
def FileWritesUptoCardSaid : Prop := Claim7.holds Tryz.pinned (.plain (OpenSpec.upto fileWritesSpec)) fileWritesUptoCard
end Rows
end Go.Proofs.YtbdfbdlfipcleaaGreatDoor
