/-
  DERIVED. GIVEN WITH THE SEED: THE CARDS: each row of YtbepgbkbpkaodaaDoorRows.lean that lists a variable, with what it lists TIED to the program's text (the seventh form; the later family's looks); each row that meets fmt, with fmt's text TOLD by the authors' own Lean function (tested against real Go, not proved from fmt's source: count such statements apart). THE CARD IS WHAT COUNTS. Prove the row's statement (the work); the ties are given (YtbepgbkbpkaodaaDoorTie.lean); close each card by the builder's one call (the guide's Derived/Test/ToyasCard.lean, 'card_holds'). Laid BY PROGRAM, IN A SANDBOX (cutbox-door.mjs). By AI agents, Wed Nov 11 2026. No macro, syntax, notation, axiom, sorry.
-/
import Derived.Test.YtbepgbkbpkaodaaDoorRows
import GoSem.ClaimSeven
namespace Go.Proofs.YtbepgbkbpkaodaaDoor
namespace Rows

/-- THE TIED CARD OF 'ploverlaw17.QueryBlanks'. -/
def queryBlanksCard : Claim7 := { stood := { row := queryBlanksRow, standIns := [], harness := (true, "07cd597368886c97ceff77764d0620360b2f1eb441522b658c1bc014cba7906d"), looks := true }, kinds := [], alts := [], laidByText := true, laidKinds := [.data, .data, .data], laidTests := true, laidLooks := .later }
def QueryBlanksCardSaid : Prop := Claim7.holds Tryd.pinned (.plain (OpenSpec.ofChange queryBlanksSpec)) queryBlanksCard

/-- THE TIED CARD OF 'ploverlaw17.QueryCase'. -/
def queryCaseCard : Claim7 := { stood := { row := queryCaseRow, standIns := [], harness := (true, "07cd597368886c97ceff77764d0620360b2f1eb441522b658c1bc014cba7906d"), looks := true }, kinds := [], alts := [], laidByText := true, laidKinds := [.data, .data, .data], laidTests := true, laidLooks := .later }
def QueryCaseCardSaid : Prop := Claim7.holds Tryd.pinned (.plain (OpenSpec.ofChange queryCaseSpec)) queryCaseCard

/-- THE TIED CARD OF 'ploverlaw17.QueryNests'. -/
def queryNestsCard : Claim7 := { stood := { row := queryNestsRow, standIns := [], harness := (true, "07cd597368886c97ceff77764d0620360b2f1eb441522b658c1bc014cba7906d"), looks := true }, kinds := [], alts := [], laidByText := true, laidKinds := [.data, .data, .data], laidTests := true, laidLooks := .later }
def QueryNestsCardSaid : Prop := Claim7.holds Tryd.pinned (.plain (OpenSpec.ofChange queryNestsSpec)) queryNestsCard

/-- THE TIED CARD OF 'ploverlaw17.QueryShows'. -/
def queryShowsCard : Claim7 := { stood := { row := queryShowsRow, standIns := [], harness := (true, "07cd597368886c97ceff77764d0620360b2f1eb441522b658c1bc014cba7906d"), looks := true }, kinds := [], alts := [], laidByText := true, laidKinds := [.data, .data, .data, .data, .data, .data], laidTests := true, laidLooks := .later }
def QueryShowsCardSaid : Prop := Claim7.holds Tryd.pinned (.plain (OpenSpec.ofChange queryShowsSpec)) queryShowsCard

/-- THE TIED CARD OF 'ploverlaw17.QueryBack'. -/
def queryBackCard : Claim7 := { stood := { row := queryBackRow, standIns := [], harness := (true, "07cd597368886c97ceff77764d0620360b2f1eb441522b658c1bc014cba7906d"), looks := true }, kinds := [], alts := [], laidByText := true, laidKinds := [.data, .data, .data, .data, .data, .data], laidTests := true, laidLooks := .later }
def QueryBackCardSaid : Prop := Claim7.holds Tryd.pinned (.plain (OpenSpec.ofChange queryBackSpec)) queryBackCard

/-- THE SECOND FORM's CARD OF 'ploverlaw17.QueryBlanks'. -/
def queryBlanksUptoCard : Claim7 := { stood := { row := queryBlanksUptoRow, standIns := [], harness := (true, "07cd597368886c97ceff77764d0620360b2f1eb441522b658c1bc014cba7906d"), looks := true }, kinds := [], alts := [], laidByText := true, laidKinds := [.data, .data, .data], laidTests := true, laidLooks := .later }
def QueryBlanksUptoCardSaid : Prop := Claim7.holds Tryd.pinned (.plain (OpenSpec.upto queryBlanksSpec)) queryBlanksUptoCard

/-- THE SECOND FORM's CARD OF 'ploverlaw17.QueryCase'. -/
def queryCaseUptoCard : Claim7 := { stood := { row := queryCaseUptoRow, standIns := [], harness := (true, "07cd597368886c97ceff77764d0620360b2f1eb441522b658c1bc014cba7906d"), looks := true }, kinds := [], alts := [], laidByText := true, laidKinds := [.data, .data, .data], laidTests := true, laidLooks := .later }
def QueryCaseUptoCardSaid : Prop := Claim7.holds Tryd.pinned (.plain (OpenSpec.upto queryCaseSpec)) queryCaseUptoCard

/-- THE SECOND FORM's CARD OF 'ploverlaw17.QueryNests'. -/
def queryNestsUptoCard : Claim7 := { stood := { row := queryNestsUptoRow, standIns := [], harness := (true, "07cd597368886c97ceff77764d0620360b2f1eb441522b658c1bc014cba7906d"), looks := true }, kinds := [], alts := [], laidByText := true, laidKinds := [.data, .data, .data], laidTests := true, laidLooks := .later }
def QueryNestsUptoCardSaid : Prop := Claim7.holds Tryd.pinned (.plain (OpenSpec.upto queryNestsSpec)) queryNestsUptoCard

/-- THE SECOND FORM's CARD OF 'ploverlaw17.QueryShows'. -/
def queryShowsUptoCard : Claim7 := { stood := { row := queryShowsUptoRow, standIns := [], harness := (true, "07cd597368886c97ceff77764d0620360b2f1eb441522b658c1bc014cba7906d"), looks := true }, kinds := [], alts := [], laidByText := true, laidKinds := [.data, .data, .data, .data, .data, .data], laidTests := true, laidLooks := .later }
def QueryShowsUptoCardSaid : Prop := Claim7.holds Tryd.pinned (.plain (OpenSpec.upto queryShowsSpec)) queryShowsUptoCard

/-- THE SECOND FORM's CARD OF 'ploverlaw17.QueryBack'. -/
def queryBackUptoCard : Claim7 := { stood := { row := queryBackUptoRow, standIns := [], harness := (true, "07cd597368886c97ceff77764d0620360b2f1eb441522b658c1bc014cba7906d"), looks := true }, kinds := [], alts := [], laidByText := true, laidKinds := [.data, .data, .data, .data, .data, .data], laidTests := true, laidLooks := .later }
def QueryBackUptoCardSaid : Prop := Claim7.holds Tryd.pinned (.plain (OpenSpec.upto queryBackSpec)) queryBackUptoCard
end Rows
end Go.Proofs.YtbepgbkbpkaodaaDoor
