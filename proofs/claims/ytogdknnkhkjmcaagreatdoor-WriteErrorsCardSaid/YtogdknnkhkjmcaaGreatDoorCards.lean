/-
  DERIVED. GIVEN WITH THE SEED: THE CARDS: each row of YtogdknnkhkjmcaaGreatDoorRows.lean that lists a variable, with what it lists TIED to the program's text (the seventh form; the later family's looks); each row that meets fmt, with fmt's text TOLD by the authors' own Lean function (tested against real Go, not proved from fmt's source: count such statements apart). THE CARD IS WHAT COUNTS. Prove the row's statement (the work); the ties are given (YtogdknnkhkjmcaaGreatDoorTie.lean); close each card by the builder's one call (the guide's Derived/Test/ToyasCard.lean, 'card_holds'). Laid BY PROGRAM, IN A SANDBOX (cutbox-door.mjs). By AI agents, Wed Nov 11 2026. No macro, syntax, notation, axiom, sorry.
-/
import Derived.Test.YtogdknnkhkjmcaaGreatDoorRows
import GoSem.ClaimSeven
namespace Go.Proofs.YtogdknnkhkjmcaaGreatDoor
namespace Rows

/-- THE TIED CARD OF 'ploverlaw12.WritePlays'. -/
def writePlaysCard : Claim7 := { stood := { row := writePlaysRow, standIns := [], harness := (true, "e5d0481031630e1e2e210094aa1588607734457f55898c9d0dc5144240db3bda"), looks := false }, kinds := [], alts := [], laidByText := true, laidKinds := [.data, .data, .data, .data], laidTests := true, laidLooks := .later }
def WritePlaysCardSaid : Prop := Claim7.holds Tryz.pinned (.plain (OpenSpec.ofChange writePlaysSpec)) writePlaysCard

/-- THE TIED CARD OF 'ploverlaw12.WriteAtOnce'. -/
def writeAtOnceCard : Claim7 := { stood := { row := writeAtOnceRow, standIns := [], harness := (true, "e5d0481031630e1e2e210094aa1588607734457f55898c9d0dc5144240db3bda"), looks := false }, kinds := [], alts := [], laidByText := true, laidKinds := [.data, .data, .data, .data], laidTests := true, laidLooks := .later }
def WriteAtOnceCardSaid : Prop := Claim7.holds Tryz.pinned (.plain (OpenSpec.ofChange writeAtOnceSpec)) writeAtOnceCard

/-- THE TIED CARD OF 'ploverlaw12.WriteRefused'. -/
def writeRefusedCard : Claim7 := { stood := { row := writeRefusedRow, standIns := [], harness := (true, "e5d0481031630e1e2e210094aa1588607734457f55898c9d0dc5144240db3bda"), looks := false }, kinds := [], alts := [], laidByText := true, laidKinds := [.data, .data, .data, .data], laidTests := true, laidLooks := .later }
def WriteRefusedCardSaid : Prop := Claim7.holds Tryz.pinned (.plain (OpenSpec.ofChange writeRefusedSpec)) writeRefusedCard

/-- THE TIED CARD OF 'ploverlaw12.WriteErrors'. -/
def writeErrorsCard : Claim7 := { stood := { row := writeErrorsRow, standIns := [], harness := (true, "e5d0481031630e1e2e210094aa1588607734457f55898c9d0dc5144240db3bda"), looks := false }, kinds := [], alts := [], laidByText := true, laidKinds := [.data, .data, .data, .data], laidTests := true, laidLooks := .later }
def WriteErrorsCardSaid : Prop := Claim7.holds Tryz.pinned (.plain (OpenSpec.ofChange writeErrorsSpec)) writeErrorsCard

/-- THE TIED CARD OF 'ploverlaw12.WriteSegments'. -/
def writeSegmentsCard : Claim7 := { stood := { row := writeSegmentsRow, standIns := [], harness := (true, "e5d0481031630e1e2e210094aa1588607734457f55898c9d0dc5144240db3bda"), looks := false }, kinds := [], alts := [], laidByText := true, laidKinds := [.data, .data, .data, .data], laidTests := true, laidLooks := .later }
def WriteSegmentsCardSaid : Prop := Claim7.holds Tryz.pinned (.plain (OpenSpec.ofChange writeSegmentsSpec)) writeSegmentsCard

/-- THE TIED CARD OF 'ploverlaw12.WriteEmpty'. -/
def writeEmptyCard : Claim7 := { stood := { row := writeEmptyRow, standIns := [], harness := (true, "e5d0481031630e1e2e210094aa1588607734457f55898c9d0dc5144240db3bda"), looks := false }, kinds := [], alts := [], laidByText := true, laidKinds := [.data, .data, .data, .data], laidTests := true, laidLooks := .later }
def WriteEmptyCardSaid : Prop := Claim7.holds Tryz.pinned (.plain (OpenSpec.ofChange writeEmptySpec)) writeEmptyCard

/-- THE SECOND FORM's CARD OF 'ploverlaw12.WritePlays'. -/
def writePlaysUptoCard : Claim7 := { stood := { row := writePlaysUptoRow, standIns := [], harness := (true, "e5d0481031630e1e2e210094aa1588607734457f55898c9d0dc5144240db3bda"), looks := false }, kinds := [], alts := [], laidByText := true, laidKinds := [.data, .data, .data, .data], laidTests := true, laidLooks := .later }
def WritePlaysUptoCardSaid : Prop := Claim7.holds Tryz.pinned (.plain (OpenSpec.upto writePlaysSpec)) writePlaysUptoCard

/-- THE SECOND FORM's CARD OF 'ploverlaw12.WriteAtOnce'. -/
def writeAtOnceUptoCard : Claim7 := { stood := { row := writeAtOnceUptoRow, standIns := [], harness := (true, "e5d0481031630e1e2e210094aa1588607734457f55898c9d0dc5144240db3bda"), looks := false }, kinds := [], alts := [], laidByText := true, laidKinds := [.data, .data, .data, .data], laidTests := true, laidLooks := .later }
def WriteAtOnceUptoCardSaid : Prop := Claim7.holds Tryz.pinned (.plain (OpenSpec.upto writeAtOnceSpec)) writeAtOnceUptoCard

/-- THE SECOND FORM's CARD OF 'ploverlaw12.WriteRefused'. -/
def writeRefusedUptoCard : Claim7 := { stood := { row := writeRefusedUptoRow, standIns := [], harness := (true, "e5d0481031630e1e2e210094aa1588607734457f55898c9d0dc5144240db3bda"), looks := false }, kinds := [], alts := [], laidByText := true, laidKinds := [.data, .data, .data, .data], laidTests := true, laidLooks := .later }
def WriteRefusedUptoCardSaid : Prop := Claim7.holds Tryz.pinned (.plain (OpenSpec.upto writeRefusedSpec)) writeRefusedUptoCard

/-- THE SECOND FORM's CARD OF 'ploverlaw12.WriteErrors'. -/
def writeErrorsUptoCard : Claim7 := { stood := { row := writeErrorsUptoRow, standIns := [], harness := (true, "e5d0481031630e1e2e210094aa1588607734457f55898c9d0dc5144240db3bda"), looks := false }, kinds := [], alts := [], laidByText := true, laidKinds := [.data, .data, .data, .data], laidTests := true, laidLooks := .later }
def WriteErrorsUptoCardSaid : Prop := Claim7.holds Tryz.pinned (.plain (OpenSpec.upto writeErrorsSpec)) writeErrorsUptoCard

/-- THE SECOND FORM's CARD OF 'ploverlaw12.WriteSegments'. -/
def writeSegmentsUptoCard : Claim7 := { stood := { row := writeSegmentsUptoRow, standIns := [], harness := (true, "e5d0481031630e1e2e210094aa1588607734457f55898c9d0dc5144240db3bda"), looks := false }, kinds := [], alts := [], laidByText := true, laidKinds := [.data, .data, .data, .data], laidTests := true, laidLooks := .later }
def WriteSegmentsUptoCardSaid : Prop := Claim7.holds Tryz.pinned (.plain (OpenSpec.upto writeSegmentsSpec)) writeSegmentsUptoCard

/-- THE SECOND FORM's CARD OF 'ploverlaw12.WriteEmpty'. -/
def writeEmptyUptoCard : Claim7 := { stood := { row := writeEmptyUptoRow, standIns := [], harness := (true, "e5d0481031630e1e2e210094aa1588607734457f55898c9d0dc5144240db3bda"), looks := false }, kinds := [], alts := [], laidByText := true, laidKinds := [.data, .data, .data, .data], laidTests := true, laidLooks := .later }
def WriteEmptyUptoCardSaid : Prop := Claim7.holds Tryz.pinned (.plain (OpenSpec.upto writeEmptySpec)) writeEmptyUptoCard
end Rows
end Go.Proofs.YtogdknnkhkjmcaaGreatDoor
