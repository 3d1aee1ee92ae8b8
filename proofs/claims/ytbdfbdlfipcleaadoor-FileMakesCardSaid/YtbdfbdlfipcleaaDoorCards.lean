/-
  DERIVED. GIVEN WITH THE SEED: THE CARDS: each row of YtbdfbdlfipcleaaDoorRows.lean that lists a variable, with what it lists TIED to the program's text (the seventh form; the later family's looks); each row that meets fmt, with fmt's text TOLD by the authors' own Lean function (tested against real Go, not proved from fmt's source: count such statements apart). THE CARD IS WHAT COUNTS. Prove the row's statement (the work); the ties are given (YtbdfbdlfipcleaaDoorTie.lean); close each card by the builder's one call (the guide's Derived/Test/ToyasCard.lean, 'card_holds'). Laid BY PROGRAM, IN A SANDBOX (cutbox-door.mjs). By AI agents, Wed Nov 11 2026. No macro, syntax, notation, axiom, sorry.
-/
import Derived.Test.YtbdfbdlfipcleaaDoorRows
import GoSem.ClaimSeven
namespace Go.Proofs.YtbdfbdlfipcleaaDoor
namespace Rows

/-- THE TIED CARD OF 'tailracelaw21.StatusTexts'. -/
def statusTextsCard : Claim7 := { stood := { row := statusTextsRow, standIns := [], harness := (true, "7d3e796c8bc743c147e6f751b52e73d73314dbff2d3dfe39f8a8c5b806ac2d92"), looks := false }, kinds := [], alts := [], laidByText := true, laidKinds := [.data, .data, .data, .data, .data], laidTests := true, laidLooks := .later }
def StatusTextsCardSaid : Prop := Claim7.holds Tryd.pinned (.plain (OpenSpec.ofChange statusTextsSpec)) statusTextsCard

/-- THE TIED CARD OF 'tailracelaw21.StatusHolds'. -/
def statusHoldsCard : Claim7 := { stood := { row := statusHoldsRow, standIns := [], harness := (true, "7d3e796c8bc743c147e6f751b52e73d73314dbff2d3dfe39f8a8c5b806ac2d92"), looks := false }, kinds := [], alts := [], laidByText := true, laidKinds := [.data, .data, .data, .data, .data], laidTests := true, laidLooks := .later }
def StatusHoldsCardSaid : Prop := Claim7.holds Tryd.pinned (.plain (OpenSpec.ofChange statusHoldsSpec)) statusHoldsCard

/-- THE TIED CARD OF 'tailracelaw13.FileMakes'. -/
def fileMakesCard : Claim7 := { stood := { row := fileMakesRow, standIns := [], harness := (true, "7d3e796c8bc743c147e6f751b52e73d73314dbff2d3dfe39f8a8c5b806ac2d92"), looks := false }, kinds := [], alts := [], laidByText := true, laidKinds := [.data], laidTests := true, laidLooks := .later }
def FileMakesCardSaid : Prop := Claim7.holds Tryd.pinned (.plain (OpenSpec.ofChange fileMakesSpec)) fileMakesCard

/-- THE TIED CARD OF 'tailracelaw13.FileSame'. -/
def fileSameCard : Claim7 := { stood := { row := fileSameRow, standIns := [], harness := (true, "7d3e796c8bc743c147e6f751b52e73d73314dbff2d3dfe39f8a8c5b806ac2d92"), looks := false }, kinds := [], alts := [], laidByText := true, laidKinds := [.data], laidTests := true, laidLooks := .later }
def FileSameCardSaid : Prop := Claim7.holds Tryd.pinned (.plain (OpenSpec.ofChange fileSameSpec)) fileSameCard

/-- THE TIED CARD OF 'tailracelaw13.FileTurns'. -/
def fileTurnsCard : Claim7 := { stood := { row := fileTurnsRow, standIns := [], harness := (true, "7d3e796c8bc743c147e6f751b52e73d73314dbff2d3dfe39f8a8c5b806ac2d92"), looks := false }, kinds := [], alts := [], laidByText := true, laidKinds := [.data], laidTests := true, laidLooks := .later }
def FileTurnsCardSaid : Prop := Claim7.holds Tryd.pinned (.plain (OpenSpec.ofChange fileTurnsSpec)) fileTurnsCard

/-- THE TIED CARD OF 'tailracelaw13.FileReads'. -/
def fileReadsCard : Claim7 := { stood := { row := fileReadsRow, standIns := [], harness := (true, "7d3e796c8bc743c147e6f751b52e73d73314dbff2d3dfe39f8a8c5b806ac2d92"), looks := false }, kinds := [], alts := [], laidByText := true, laidKinds := [.data], laidTests := true, laidLooks := .later }
def FileReadsCardSaid : Prop := Claim7.holds Tryd.pinned (.plain (OpenSpec.ofChange fileReadsSpec)) fileReadsCard

/-- THE TIED CARD OF 'tailracelaw13.FileGets'. -/
def fileGetsCard : Claim7 := { stood := { row := fileGetsRow, standIns := [], harness := (true, "7d3e796c8bc743c147e6f751b52e73d73314dbff2d3dfe39f8a8c5b806ac2d92"), looks := false }, kinds := [], alts := [], laidByText := true, laidKinds := [.data], laidTests := true, laidLooks := .later }
def FileGetsCardSaid : Prop := Claim7.holds Tryd.pinned (.plain (OpenSpec.ofChange fileGetsSpec)) fileGetsCard

/-- THE SECOND FORM's CARD OF 'tailracelaw21.StatusTexts'. -/
def statusTextsUptoCard : Claim7 := { stood := { row := statusTextsUptoRow, standIns := [], harness := (true, "7d3e796c8bc743c147e6f751b52e73d73314dbff2d3dfe39f8a8c5b806ac2d92"), looks := false }, kinds := [], alts := [], laidByText := true, laidKinds := [.data, .data, .data, .data, .data], laidTests := true, laidLooks := .later }
def StatusTextsUptoCardSaid : Prop := Claim7.holds Tryd.pinned (.plain (OpenSpec.upto statusTextsSpec)) statusTextsUptoCard

/-- THE SECOND FORM's CARD OF 'tailracelaw21.StatusHolds'. -/
def statusHoldsUptoCard : Claim7 := { stood := { row := statusHoldsUptoRow, standIns := [], harness := (true, "7d3e796c8bc743c147e6f751b52e73d73314dbff2d3dfe39f8a8c5b806ac2d92"), looks := false }, kinds := [], alts := [], laidByText := true, laidKinds := [.data, .data, .data, .data, .data], laidTests := true, laidLooks := .later }
def StatusHoldsUptoCardSaid : Prop := Claim7.holds Tryd.pinned (.plain (OpenSpec.upto statusHoldsSpec)) statusHoldsUptoCard

/-- THE SECOND FORM's CARD OF 'tailracelaw13.FileMakes'. -/
def fileMakesUptoCard : Claim7 := { stood := { row := fileMakesUptoRow, standIns := [], harness := (true, "7d3e796c8bc743c147e6f751b52e73d73314dbff2d3dfe39f8a8c5b806ac2d92"), looks := false }, kinds := [], alts := [], laidByText := true, laidKinds := [.data], laidTests := true, laidLooks := .later }
def FileMakesUptoCardSaid : Prop := Claim7.holds Tryd.pinned (.plain (OpenSpec.upto fileMakesSpec)) fileMakesUptoCard

/-- THE SECOND FORM's CARD OF 'tailracelaw13.FileSame'. -/
def fileSameUptoCard : Claim7 := { stood := { row := fileSameUptoRow, standIns := [], harness := (true, "7d3e796c8bc743c147e6f751b52e73d73314dbff2d3dfe39f8a8c5b806ac2d92"), looks := false }, kinds := [], alts := [], laidByText := true, laidKinds := [.data], laidTests := true, laidLooks := .later }
def FileSameUptoCardSaid : Prop := Claim7.holds Tryd.pinned (.plain (OpenSpec.upto fileSameSpec)) fileSameUptoCard

/-- THE SECOND FORM's CARD OF 'tailracelaw13.FileTurns'. -/
def fileTurnsUptoCard : Claim7 := { stood := { row := fileTurnsUptoRow, standIns := [], harness := (true, "7d3e796c8bc743c147e6f751b52e73d73314dbff2d3dfe39f8a8c5b806ac2d92"), looks := false }, kinds := [], alts := [], laidByText := true, laidKinds := [.data], laidTests := true, laidLooks := .later }
def FileTurnsUptoCardSaid : Prop := Claim7.holds Tryd.pinned (.plain (OpenSpec.upto fileTurnsSpec)) fileTurnsUptoCard

/-- THE SECOND FORM's CARD OF 'tailracelaw13.FileReads'. -/
def fileReadsUptoCard : Claim7 := { stood := { row := fileReadsUptoRow, standIns := [], harness := (true, "7d3e796c8bc743c147e6f751b52e73d73314dbff2d3dfe39f8a8c5b806ac2d92"), looks := false }, kinds := [], alts := [], laidByText := true, laidKinds := [.data], laidTests := true, laidLooks := .later }
def FileReadsUptoCardSaid : Prop := Claim7.holds Tryd.pinned (.plain (OpenSpec.upto fileReadsSpec)) fileReadsUptoCard

/-- THE SECOND FORM's CARD OF 'tailracelaw13.FileGets'. -/
def fileGetsUptoCard : Claim7 := { stood := { row := fileGetsUptoRow, standIns := [], harness := (true, "7d3e796c8bc743c147e6f751b52e73d73314dbff2d3dfe39f8a8c5b806ac2d92"), looks := false }, kinds := [], alts := [], laidByText := true, laidKinds := [.data], laidTests := true, laidLooks := .later }
def FileGetsUptoCardSaid : Prop := Claim7.holds Tryd.pinned (.plain (OpenSpec.upto fileGetsSpec)) fileGetsUptoCard
end Rows
end Go.Proofs.YtbdfbdlfipcleaaDoor
