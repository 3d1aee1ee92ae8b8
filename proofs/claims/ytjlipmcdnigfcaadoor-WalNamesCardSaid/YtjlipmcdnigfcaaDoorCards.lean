/-
  DERIVED. GIVEN WITH THE SEED: THE CARDS: each row of YtjlipmcdnigfcaaDoorRows.lean that lists a variable, with what it lists TIED to the program's text (the seventh form; the later family's looks); each row that meets fmt, with fmt's text TOLD by the authors' own Lean function (tested against real Go, not proved from fmt's source: count such statements apart). THE CARD IS WHAT COUNTS. Prove the row's statement (the work); the ties are given (YtjlipmcdnigfcaaDoorTie.lean); close each card by the builder's one call (the guide's Derived/Test/ToyasCard.lean, 'card_holds'). Laid BY PROGRAM, IN A SANDBOX (cutbox-door.mjs). By AI agents, Wed Nov 11 2026. No macro, syntax, notation, axiom, sorry.
-/
import Derived.Test.YtjlipmcdnigfcaaDoorRows
import GoSem.ClaimSeven
namespace Go.Proofs.YtjlipmcdnigfcaaDoor
namespace Rows

/-- THE TIED CARD OF 'tailracelaw09.WalParts'. -/
def walPartsCard : Claim7 := { stood := { row := walPartsRow, standIns := [], harness := (true, "00eeecb4770416f0cfd2f971d1dd7db7c9c6ed34b0b6b2427047353777c942e0"), looks := true }, kinds := [], alts := [], laidByText := true, laidKinds := [.data, .data, .data, .data], laidTests := true, laidLooks := .later }
def WalPartsCardSaid : Prop := Claim7.holds Tryd.pinned (.plain (OpenSpec.ofChange walPartsSpec)) walPartsCard

/-- THE TIED CARD OF 'tailracelaw09.WalTurns'. -/
def walTurnsCard : Claim7 := { stood := { row := walTurnsRow, standIns := [], harness := (true, "00eeecb4770416f0cfd2f971d1dd7db7c9c6ed34b0b6b2427047353777c942e0"), looks := true }, kinds := [], alts := [], laidByText := true, laidKinds := [.data, .data, .data, .data], laidTests := true, laidLooks := .later }
def WalTurnsCardSaid : Prop := Claim7.holds Tryd.pinned (.plain (OpenSpec.ofChange walTurnsSpec)) walTurnsCard

/-- THE TIED CARD OF 'tailracelaw09.WalRoom'. -/
def walRoomCard : Claim7 := { stood := { row := walRoomRow, standIns := [], harness := (true, "00eeecb4770416f0cfd2f971d1dd7db7c9c6ed34b0b6b2427047353777c942e0"), looks := true }, kinds := [], alts := [], laidByText := true, laidKinds := [.data, .data, .data, .data], laidTests := true, laidLooks := .later }
def WalRoomCardSaid : Prop := Claim7.holds Tryd.pinned (.plain (OpenSpec.ofChange walRoomSpec)) walRoomCard

/-- THE TIED CARD OF 'tailracelaw09.WalNames'. -/
def walNamesCard : Claim7 := { stood := { row := walNamesRow, standIns := [], harness := (true, "00eeecb4770416f0cfd2f971d1dd7db7c9c6ed34b0b6b2427047353777c942e0"), looks := true }, kinds := [], alts := [], laidByText := true, laidKinds := [.data, .data, .data, .data, .sentinel, .sentinel], laidTests := true, laidLooks := .later }
def WalNamesCardSaid : Prop := Claim7.holds Tryd.pinned (.plain (OpenSpec.ofChange walNamesSpec)) walNamesCard

/-- THE TIED CARD OF 'tailracelaw15.EditChecks'. -/
def editChecksCard : Claim7 := { stood := { row := editChecksRow, standIns := [], harness := (true, "00eeecb4770416f0cfd2f971d1dd7db7c9c6ed34b0b6b2427047353777c942e0"), looks := true }, kinds := [], alts := [], laidByText := true, laidKinds := [.data, .data, .data, .data], laidTests := true, laidLooks := .later }
def EditChecksCardSaid : Prop := Claim7.holds Tryd.pinned (.plain (OpenSpec.ofChange editChecksSpec)) editChecksCard

/-- THE TIED CARD OF 'tailracelaw15.EditApplies'. -/
def editAppliesCard : Claim7 := { stood := { row := editAppliesRow, standIns := [], harness := (true, "00eeecb4770416f0cfd2f971d1dd7db7c9c6ed34b0b6b2427047353777c942e0"), looks := true }, kinds := [], alts := [], laidByText := true, laidKinds := [.data, .data, .data, .data], laidTests := true, laidLooks := .later }
def EditAppliesCardSaid : Prop := Claim7.holds Tryd.pinned (.plain (OpenSpec.ofChange editAppliesSpec)) editAppliesCard

/-- THE TIED CARD OF 'tailracelaw15.EditWrites'. -/
def editWritesCard : Claim7 := { stood := { row := editWritesRow, standIns := [], harness := (true, "00eeecb4770416f0cfd2f971d1dd7db7c9c6ed34b0b6b2427047353777c942e0"), looks := true }, kinds := [], alts := [], laidByText := true, laidKinds := [.data, .data, .data, .data], laidTests := true, laidLooks := .later }
def EditWritesCardSaid : Prop := Claim7.holds Tryd.pinned (.plain (OpenSpec.ofChange editWritesSpec)) editWritesCard

/-- THE TIED CARD OF 'tailracelaw15.EditReads'. -/
def editReadsCard : Claim7 := { stood := { row := editReadsRow, standIns := [], harness := (true, "00eeecb4770416f0cfd2f971d1dd7db7c9c6ed34b0b6b2427047353777c942e0"), looks := true }, kinds := [], alts := [], laidByText := true, laidKinds := [.data, .data, .data, .data], laidTests := true, laidLooks := .later }
def EditReadsCardSaid : Prop := Claim7.holds Tryd.pinned (.plain (OpenSpec.ofChange editReadsSpec)) editReadsCard

/-- THE TIED CARD OF 'tailracelaw15.EditLines'. -/
def editLinesCard : Claim7 := { stood := { row := editLinesRow, standIns := [], harness := (true, "00eeecb4770416f0cfd2f971d1dd7db7c9c6ed34b0b6b2427047353777c942e0"), looks := true }, kinds := [], alts := [], laidByText := true, laidKinds := [.data, .data, .data, .data], laidTests := true, laidLooks := .later }
def EditLinesCardSaid : Prop := Claim7.holds Tryd.pinned (.plain (OpenSpec.ofChange editLinesSpec)) editLinesCard

/-- THE TIED CARD OF 'tailracelaw09.WalReads'. -/
def walReadsCard : Claim7 := { stood := { row := walReadsRow, standIns := [], harness := (true, "00eeecb4770416f0cfd2f971d1dd7db7c9c6ed34b0b6b2427047353777c942e0"), looks := true }, kinds := [], alts := [], laidByText := true, laidKinds := [.data, .data, .data, .data], laidTests := true, laidLooks := .later }
def WalReadsCardSaid : Prop := Claim7.holds Tryd.pinned (.plain (OpenSpec.ofChange walReadsSpec)) walReadsCard

/-- THE TIED CARD OF 'tailracelaw15.EditBad'. -/
def editBadCard : Claim7 := { stood := { row := editBadRow, standIns := [], harness := (true, "00eeecb4770416f0cfd2f971d1dd7db7c9c6ed34b0b6b2427047353777c942e0"), looks := true }, kinds := [], alts := [], laidByText := true, laidKinds := [.data, .data, .data, .data], laidTests := true, laidLooks := .later }
def EditBadCardSaid : Prop := Claim7.holds Tryd.pinned (.plain (OpenSpec.ofChange editBadSpec)) editBadCard

/-- THE SECOND FORM's CARD OF 'tailracelaw09.WalParts'. -/
def walPartsUptoCard : Claim7 := { stood := { row := walPartsUptoRow, standIns := [], harness := (true, "00eeecb4770416f0cfd2f971d1dd7db7c9c6ed34b0b6b2427047353777c942e0"), looks := true }, kinds := [], alts := [], laidByText := true, laidKinds := [.data, .data, .data, .data], laidTests := true, laidLooks := .later }
def WalPartsUptoCardSaid : Prop := Claim7.holds Tryd.pinned (.plain (OpenSpec.upto walPartsSpec)) walPartsUptoCard

/-- THE SECOND FORM's CARD OF 'tailracelaw09.WalTurns'. -/
def walTurnsUptoCard : Claim7 := { stood := { row := walTurnsUptoRow, standIns := [], harness := (true, "00eeecb4770416f0cfd2f971d1dd7db7c9c6ed34b0b6b2427047353777c942e0"), looks := true }, kinds := [], alts := [], laidByText := true, laidKinds := [.data, .data, .data, .data], laidTests := true, laidLooks := .later }
def WalTurnsUptoCardSaid : Prop := Claim7.holds Tryd.pinned (.plain (OpenSpec.upto walTurnsSpec)) walTurnsUptoCard

/-- THE SECOND FORM's CARD OF 'tailracelaw09.WalRoom'. -/
def walRoomUptoCard : Claim7 := { stood := { row := walRoomUptoRow, standIns := [], harness := (true, "00eeecb4770416f0cfd2f971d1dd7db7c9c6ed34b0b6b2427047353777c942e0"), looks := true }, kinds := [], alts := [], laidByText := true, laidKinds := [.data, .data, .data, .data], laidTests := true, laidLooks := .later }
def WalRoomUptoCardSaid : Prop := Claim7.holds Tryd.pinned (.plain (OpenSpec.upto walRoomSpec)) walRoomUptoCard

/-- THE SECOND FORM's CARD OF 'tailracelaw09.WalNames'. -/
def walNamesUptoCard : Claim7 := { stood := { row := walNamesUptoRow, standIns := [], harness := (true, "00eeecb4770416f0cfd2f971d1dd7db7c9c6ed34b0b6b2427047353777c942e0"), looks := true }, kinds := [], alts := [], laidByText := true, laidKinds := [.data, .data, .data, .data, .sentinel, .sentinel], laidTests := true, laidLooks := .later }
def WalNamesUptoCardSaid : Prop := Claim7.holds Tryd.pinned (.plain (OpenSpec.upto walNamesSpec)) walNamesUptoCard

/-- THE SECOND FORM's CARD OF 'tailracelaw15.EditChecks'. -/
def editChecksUptoCard : Claim7 := { stood := { row := editChecksUptoRow, standIns := [], harness := (true, "00eeecb4770416f0cfd2f971d1dd7db7c9c6ed34b0b6b2427047353777c942e0"), looks := true }, kinds := [], alts := [], laidByText := true, laidKinds := [.data, .data, .data, .data], laidTests := true, laidLooks := .later }
def EditChecksUptoCardSaid : Prop := Claim7.holds Tryd.pinned (.plain (OpenSpec.upto editChecksSpec)) editChecksUptoCard

/-- THE SECOND FORM's CARD OF 'tailracelaw15.EditApplies'. -/
def editAppliesUptoCard : Claim7 := { stood := { row := editAppliesUptoRow, standIns := [], harness := (true, "00eeecb4770416f0cfd2f971d1dd7db7c9c6ed34b0b6b2427047353777c942e0"), looks := true }, kinds := [], alts := [], laidByText := true, laidKinds := [.data, .data, .data, .data], laidTests := true, laidLooks := .later }
def EditAppliesUptoCardSaid : Prop := Claim7.holds Tryd.pinned (.plain (OpenSpec.upto editAppliesSpec)) editAppliesUptoCard

/-- THE SECOND FORM's CARD OF 'tailracelaw15.EditWrites'. -/
def editWritesUptoCard : Claim7 := { stood := { row := editWritesUptoRow, standIns := [], harness := (true, "00eeecb4770416f0cfd2f971d1dd7db7c9c6ed34b0b6b2427047353777c942e0"), looks := true }, kinds := [], alts := [], laidByText := true, laidKinds := [.data, .data, .data, .data], laidTests := true, laidLooks := .later }
def EditWritesUptoCardSaid : Prop := Claim7.holds Tryd.pinned (.plain (OpenSpec.upto editWritesSpec)) editWritesUptoCard

/-- THE SECOND FORM's CARD OF 'tailracelaw15.EditReads'. -/
def editReadsUptoCard : Claim7 := { stood := { row := editReadsUptoRow, standIns := [], harness := (true, "00eeecb4770416f0cfd2f971d1dd7db7c9c6ed34b0b6b2427047353777c942e0"), looks := true }, kinds := [], alts := [], laidByText := true, laidKinds := [.data, .data, .data, .data], laidTests := true, laidLooks := .later }
def EditReadsUptoCardSaid : Prop := Claim7.holds Tryd.pinned (.plain (OpenSpec.upto editReadsSpec)) editReadsUptoCard

/-- THE SECOND FORM's CARD OF 'tailracelaw15.EditLines'. -/
def editLinesUptoCard : Claim7 := { stood := { row := editLinesUptoRow, standIns := [], harness := (true, "00eeecb4770416f0cfd2f971d1dd7db7c9c6ed34b0b6b2427047353777c942e0"), looks := true }, kinds := [], alts := [], laidByText := true, laidKinds := [.data, .data, .data, .data], laidTests := true, laidLooks := .later }
def EditLinesUptoCardSaid : Prop := Claim7.holds Tryd.pinned (.plain (OpenSpec.upto editLinesSpec)) editLinesUptoCard

/-- THE SECOND FORM's CARD OF 'tailracelaw09.WalReads'. -/
def walReadsUptoCard : Claim7 := { stood := { row := walReadsUptoRow, standIns := [], harness := (true, "00eeecb4770416f0cfd2f971d1dd7db7c9c6ed34b0b6b2427047353777c942e0"), looks := true }, kinds := [], alts := [], laidByText := true, laidKinds := [.data, .data, .data, .data], laidTests := true, laidLooks := .later }
def WalReadsUptoCardSaid : Prop := Claim7.holds Tryd.pinned (.plain (OpenSpec.upto walReadsSpec)) walReadsUptoCard

/-- THE SECOND FORM's CARD OF 'tailracelaw15.EditBad'. -/
def editBadUptoCard : Claim7 := { stood := { row := editBadUptoRow, standIns := [], harness := (true, "00eeecb4770416f0cfd2f971d1dd7db7c9c6ed34b0b6b2427047353777c942e0"), looks := true }, kinds := [], alts := [], laidByText := true, laidKinds := [.data, .data, .data, .data], laidTests := true, laidLooks := .later }
def EditBadUptoCardSaid : Prop := Claim7.holds Tryd.pinned (.plain (OpenSpec.upto editBadSpec)) editBadUptoCard
end Rows
end Go.Proofs.YtjlipmcdnigfcaaDoor
