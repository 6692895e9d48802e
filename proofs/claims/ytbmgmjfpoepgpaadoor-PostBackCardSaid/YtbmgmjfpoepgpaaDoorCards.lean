/-
  DERIVED. GIVEN WITH THE SEED: THE CARDS: each row of YtbmgmjfpoepgpaaDoorRows.lean that lists a variable, with what it lists TIED to the program's text (the seventh form; the later family's looks); each row that meets fmt, with fmt's text TOLD by the authors' own Lean function (tested against real Go, not proved from fmt's source: count such statements apart). THE CARD IS WHAT COUNTS. Prove the row's statement (the work); the ties are given (YtbmgmjfpoepgpaaDoorTie.lean); close each card by the builder's one call (the guide's Derived/Test/ToyasCard.lean, 'card_holds'). Laid BY PROGRAM, IN A SANDBOX (cutbox-door.mjs). By AI agents, Wed Nov 11 2026. No macro, syntax, notation, axiom, sorry.
-/
import Derived.Test.YtbmgmjfpoepgpaaDoorRows
import GoSem.ClaimSeven
namespace Go.Proofs.YtbmgmjfpoepgpaaDoor
namespace Rows

/-- THE TIED CARD OF 'ploverlaw09.PostBack'. -/
def postBackCard : Claim7 := { stood := { row := postBackRow, standIns := [], harness := (true, "152d3870c8450e363779c0c41d4a3f4df5a1475c23fff6589f3daaa7f8d5873b"), looks := true }, kinds := [], alts := [], laidByText := true, laidKinds := [.data], laidTests := true, laidLooks := .later }
def PostBackCardSaid : Prop := Claim7.holds Tryd.pinned (.plain (OpenSpec.ofChange postBackSpec)) postBackCard

/-- THE TIED CARD OF 'ploverlaw09.PostNeeds'. -/
def postNeedsCard : Claim7 := { stood := { row := postNeedsRow, standIns := [], harness := (true, "152d3870c8450e363779c0c41d4a3f4df5a1475c23fff6589f3daaa7f8d5873b"), looks := true }, kinds := [], alts := [], laidByText := true, laidKinds := [.data], laidTests := true, laidLooks := .later }
def PostNeedsCardSaid : Prop := Claim7.holds Tryd.pinned (.plain (OpenSpec.ofChange postNeedsSpec)) postNeedsCard

/-- THE TIED CARD OF 'ploverlaw09.PostUndisturbed'. -/
def postUndisturbedCard : Claim7 := { stood := { row := postUndisturbedRow, standIns := [], harness := (true, "152d3870c8450e363779c0c41d4a3f4df5a1475c23fff6589f3daaa7f8d5873b"), looks := true }, kinds := [], alts := [], laidByText := true, laidKinds := [.data], laidTests := true, laidLooks := .later }
def PostUndisturbedCardSaid : Prop := Claim7.holds Tryd.pinned (.plain (OpenSpec.ofChange postUndisturbedSpec)) postUndisturbedCard

/-- THE TIED CARD OF 'ploverlaw17.QueryBlanks'. -/
def queryBlanksCard : Claim7 := { stood := { row := queryBlanksRow, standIns := [], harness := (true, "152d3870c8450e363779c0c41d4a3f4df5a1475c23fff6589f3daaa7f8d5873b"), looks := true }, kinds := [], alts := [], laidByText := true, laidKinds := [.data, .data, .data], laidTests := true, laidLooks := .later }
def QueryBlanksCardSaid : Prop := Claim7.holds Tryd.pinned (.plain (OpenSpec.ofChange queryBlanksSpec)) queryBlanksCard

/-- THE TIED CARD OF 'ploverlaw17.QueryCase'. -/
def queryCaseCard : Claim7 := { stood := { row := queryCaseRow, standIns := [], harness := (true, "152d3870c8450e363779c0c41d4a3f4df5a1475c23fff6589f3daaa7f8d5873b"), looks := true }, kinds := [], alts := [], laidByText := true, laidKinds := [.data, .data, .data], laidTests := true, laidLooks := .later }
def QueryCaseCardSaid : Prop := Claim7.holds Tryd.pinned (.plain (OpenSpec.ofChange queryCaseSpec)) queryCaseCard

/-- THE TIED CARD OF 'ploverlaw17.QueryNests'. -/
def queryNestsCard : Claim7 := { stood := { row := queryNestsRow, standIns := [], harness := (true, "152d3870c8450e363779c0c41d4a3f4df5a1475c23fff6589f3daaa7f8d5873b"), looks := true }, kinds := [], alts := [], laidByText := true, laidKinds := [.data, .data, .data], laidTests := true, laidLooks := .later }
def QueryNestsCardSaid : Prop := Claim7.holds Tryd.pinned (.plain (OpenSpec.ofChange queryNestsSpec)) queryNestsCard

/-- THE SECOND FORM's CARD OF 'ploverlaw09.PostBack'. -/
def postBackUptoCard : Claim7 := { stood := { row := postBackUptoRow, standIns := [], harness := (true, "152d3870c8450e363779c0c41d4a3f4df5a1475c23fff6589f3daaa7f8d5873b"), looks := true }, kinds := [], alts := [], laidByText := true, laidKinds := [.data], laidTests := true, laidLooks := .later }
def PostBackUptoCardSaid : Prop := Claim7.holds Tryd.pinned (.plain (OpenSpec.upto postBackSpec)) postBackUptoCard

/-- THE SECOND FORM's CARD OF 'ploverlaw09.PostNeeds'. -/
def postNeedsUptoCard : Claim7 := { stood := { row := postNeedsUptoRow, standIns := [], harness := (true, "152d3870c8450e363779c0c41d4a3f4df5a1475c23fff6589f3daaa7f8d5873b"), looks := true }, kinds := [], alts := [], laidByText := true, laidKinds := [.data], laidTests := true, laidLooks := .later }
def PostNeedsUptoCardSaid : Prop := Claim7.holds Tryd.pinned (.plain (OpenSpec.upto postNeedsSpec)) postNeedsUptoCard

/-- THE SECOND FORM's CARD OF 'ploverlaw09.PostUndisturbed'. -/
def postUndisturbedUptoCard : Claim7 := { stood := { row := postUndisturbedUptoRow, standIns := [], harness := (true, "152d3870c8450e363779c0c41d4a3f4df5a1475c23fff6589f3daaa7f8d5873b"), looks := true }, kinds := [], alts := [], laidByText := true, laidKinds := [.data], laidTests := true, laidLooks := .later }
def PostUndisturbedUptoCardSaid : Prop := Claim7.holds Tryd.pinned (.plain (OpenSpec.upto postUndisturbedSpec)) postUndisturbedUptoCard

/-- THE SECOND FORM's CARD OF 'ploverlaw17.QueryBlanks'. -/
def queryBlanksUptoCard : Claim7 := { stood := { row := queryBlanksUptoRow, standIns := [], harness := (true, "152d3870c8450e363779c0c41d4a3f4df5a1475c23fff6589f3daaa7f8d5873b"), looks := true }, kinds := [], alts := [], laidByText := true, laidKinds := [.data, .data, .data], laidTests := true, laidLooks := .later }
def QueryBlanksUptoCardSaid : Prop := Claim7.holds Tryd.pinned (.plain (OpenSpec.upto queryBlanksSpec)) queryBlanksUptoCard

/-- THE SECOND FORM's CARD OF 'ploverlaw17.QueryCase'. -/
def queryCaseUptoCard : Claim7 := { stood := { row := queryCaseUptoRow, standIns := [], harness := (true, "152d3870c8450e363779c0c41d4a3f4df5a1475c23fff6589f3daaa7f8d5873b"), looks := true }, kinds := [], alts := [], laidByText := true, laidKinds := [.data, .data, .data], laidTests := true, laidLooks := .later }
def QueryCaseUptoCardSaid : Prop := Claim7.holds Tryd.pinned (.plain (OpenSpec.upto queryCaseSpec)) queryCaseUptoCard

/-- THE SECOND FORM's CARD OF 'ploverlaw17.QueryNests'. -/
def queryNestsUptoCard : Claim7 := { stood := { row := queryNestsUptoRow, standIns := [], harness := (true, "152d3870c8450e363779c0c41d4a3f4df5a1475c23fff6589f3daaa7f8d5873b"), looks := true }, kinds := [], alts := [], laidByText := true, laidKinds := [.data, .data, .data], laidTests := true, laidLooks := .later }
def QueryNestsUptoCardSaid : Prop := Claim7.holds Tryd.pinned (.plain (OpenSpec.upto queryNestsSpec)) queryNestsUptoCard
end Rows
end Go.Proofs.YtbmgmjfpoepgpaaDoor
