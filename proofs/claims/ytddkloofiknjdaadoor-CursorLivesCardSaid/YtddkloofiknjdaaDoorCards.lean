/-
  DERIVED. GIVEN WITH THE SEED: THE CARDS: each row of YtddkloofiknjdaaDoorRows.lean that lists a variable, with what it lists TIED to the program's text (the seventh form; the later family's looks); each row that meets fmt, with fmt's text TOLD by the authors' own Lean function (tested against real Go, not proved from fmt's source: count such statements apart). THE CARD IS WHAT COUNTS. Prove the row's statement (the work); the ties are given (YtddkloofiknjdaaDoorTie.lean); close each card by the builder's one call (the guide's Derived/Test/ToyasCard.lean, 'card_holds'). Laid BY PROGRAM, IN A SANDBOX (cutbox-door.mjs). By AI agents, Wed Nov 11 2026. No macro, syntax, notation, axiom, sorry.
-/
import Derived.Test.YtddkloofiknjdaaDoorRows
import GoSem.ClaimSeven
namespace Go.Proofs.YtddkloofiknjdaaDoor
namespace Rows

/-- THE TIED CARD OF 'tailracelaw14.CursorParts'. -/
def cursorPartsCard : Claim7 := { stood := { row := cursorPartsRow, standIns := [], harness := (true, "b88aacb67c8ac28bcde4b207a573aea6dab2597f614dad3d5ff2fd08b6c13a68"), looks := false }, kinds := [], alts := [], laidByText := true, laidKinds := [.data], laidTests := true, laidLooks := .later }
def CursorPartsCardSaid : Prop := Claim7.holds Tryd.pinned (.plain (OpenSpec.ofChange cursorPartsSpec)) cursorPartsCard

/-- THE TIED CARD OF 'tailracelaw14.CursorGoes'. -/
def cursorGoesCard : Claim7 := { stood := { row := cursorGoesRow, standIns := [], harness := (true, "b88aacb67c8ac28bcde4b207a573aea6dab2597f614dad3d5ff2fd08b6c13a68"), looks := false }, kinds := [], alts := [], laidByText := true, laidKinds := [.data], laidTests := true, laidLooks := .later }
def CursorGoesCardSaid : Prop := Claim7.holds Tryd.pinned (.plain (OpenSpec.ofChange cursorGoesSpec)) cursorGoesCard

/-- THE TIED CARD OF 'tailracelaw14.CursorLives'. -/
def cursorLivesCard : Claim7 := { stood := { row := cursorLivesRow, standIns := [], harness := (true, "b88aacb67c8ac28bcde4b207a573aea6dab2597f614dad3d5ff2fd08b6c13a68"), looks := false }, kinds := [], alts := [], laidByText := true, laidKinds := [.data], laidTests := true, laidLooks := .later }
def CursorLivesCardSaid : Prop := Claim7.holds Tryd.pinned (.plain (OpenSpec.ofChange cursorLivesSpec)) cursorLivesCard

/-- THE TIED CARD OF 'tailracelaw14.CursorSeeks'. -/
def cursorSeeksCard : Claim7 := { stood := { row := cursorSeeksRow, standIns := [], harness := (true, "b88aacb67c8ac28bcde4b207a573aea6dab2597f614dad3d5ff2fd08b6c13a68"), looks := false }, kinds := [], alts := [], laidByText := true, laidKinds := [.data], laidTests := true, laidLooks := .later }
def CursorSeeksCardSaid : Prop := Claim7.holds Tryd.pinned (.plain (OpenSpec.ofChange cursorSeeksSpec)) cursorSeeksCard

/-- THE TIED CARD OF 'tailracelaw14.CursorBad'. -/
def cursorBadCard : Claim7 := { stood := { row := cursorBadRow, standIns := [], harness := (true, "b88aacb67c8ac28bcde4b207a573aea6dab2597f614dad3d5ff2fd08b6c13a68"), looks := false }, kinds := [], alts := [], laidByText := true, laidKinds := [.data], laidTests := true, laidLooks := .later }
def CursorBadCardSaid : Prop := Claim7.holds Tryd.pinned (.plain (OpenSpec.ofChange cursorBadSpec)) cursorBadCard

/-- THE SECOND FORM's CARD OF 'tailracelaw14.CursorParts'. -/
def cursorPartsUptoCard : Claim7 := { stood := { row := cursorPartsUptoRow, standIns := [], harness := (true, "b88aacb67c8ac28bcde4b207a573aea6dab2597f614dad3d5ff2fd08b6c13a68"), looks := false }, kinds := [], alts := [], laidByText := true, laidKinds := [.data], laidTests := true, laidLooks := .later }
def CursorPartsUptoCardSaid : Prop := Claim7.holds Tryd.pinned (.plain (OpenSpec.upto cursorPartsSpec)) cursorPartsUptoCard

/-- THE SECOND FORM's CARD OF 'tailracelaw14.CursorGoes'. -/
def cursorGoesUptoCard : Claim7 := { stood := { row := cursorGoesUptoRow, standIns := [], harness := (true, "b88aacb67c8ac28bcde4b207a573aea6dab2597f614dad3d5ff2fd08b6c13a68"), looks := false }, kinds := [], alts := [], laidByText := true, laidKinds := [.data], laidTests := true, laidLooks := .later }
def CursorGoesUptoCardSaid : Prop := Claim7.holds Tryd.pinned (.plain (OpenSpec.upto cursorGoesSpec)) cursorGoesUptoCard

/-- THE SECOND FORM's CARD OF 'tailracelaw14.CursorLives'. -/
def cursorLivesUptoCard : Claim7 := { stood := { row := cursorLivesUptoRow, standIns := [], harness := (true, "b88aacb67c8ac28bcde4b207a573aea6dab2597f614dad3d5ff2fd08b6c13a68"), looks := false }, kinds := [], alts := [], laidByText := true, laidKinds := [.data], laidTests := true, laidLooks := .later }
def CursorLivesUptoCardSaid : Prop := Claim7.holds Tryd.pinned (.plain (OpenSpec.upto cursorLivesSpec)) cursorLivesUptoCard

/-- THE SECOND FORM's CARD OF 'tailracelaw14.CursorSeeks'. -/
def cursorSeeksUptoCard : Claim7 := { stood := { row := cursorSeeksUptoRow, standIns := [], harness := (true, "b88aacb67c8ac28bcde4b207a573aea6dab2597f614dad3d5ff2fd08b6c13a68"), looks := false }, kinds := [], alts := [], laidByText := true, laidKinds := [.data], laidTests := true, laidLooks := .later }
def CursorSeeksUptoCardSaid : Prop := Claim7.holds Tryd.pinned (.plain (OpenSpec.upto cursorSeeksSpec)) cursorSeeksUptoCard

/-- THE SECOND FORM's CARD OF 'tailracelaw14.CursorBad'. -/
def cursorBadUptoCard : Claim7 := { stood := { row := cursorBadUptoRow, standIns := [], harness := (true, "b88aacb67c8ac28bcde4b207a573aea6dab2597f614dad3d5ff2fd08b6c13a68"), looks := false }, kinds := [], alts := [], laidByText := true, laidKinds := [.data], laidTests := true, laidLooks := .later }
def CursorBadUptoCardSaid : Prop := Claim7.holds Tryd.pinned (.plain (OpenSpec.upto cursorBadSpec)) cursorBadUptoCard
end Rows
end Go.Proofs.YtddkloofiknjdaaDoor
