/-
  DERIVED. GIVEN WITH THE SEED: THE CARDS: each row of YtipeglbklhincaaDoorRows.lean that lists a variable, with what it lists TIED to the program's text (the seventh form; the later family's looks); each row that meets fmt, with fmt's text TOLD by the authors' own Lean function (tested against real Go, not proved from fmt's source: count such statements apart). THE CARD IS WHAT COUNTS. Prove the row's statement (the work); the ties are given (YtipeglbklhincaaDoorTie.lean); close each card by the builder's one call (the guide's Derived/Test/ToyasCard.lean, 'card_holds'). Laid BY PROGRAM, IN A SANDBOX (cutbox-door.mjs). By AI agents, Wed Nov 11 2026. No macro, syntax, notation, axiom, sorry.
-/
import Derived.Test.YtipeglbklhincaaDoorRows
import GoSem.ClaimSeven
namespace Go.Proofs.YtipeglbklhincaaDoor
namespace Rows

/-- THE TIED CARD OF 'footlockerlaw13.MatchExpands'. -/
def matchExpandsCard : Claim7 := { stood := { row := matchExpandsRow, standIns := [], harness := (true, "f75ee790e7d12c984ebfcadebc5b9706649a232a9aa06bf0bd65e90d97f9d149"), looks := false }, kinds := [], alts := [], laidByText := true, laidKinds := [.data], laidTests := true, laidLooks := .later }
def MatchExpandsCardSaid : Prop := Claim7.holds Tryd.pinned (.plain (OpenSpec.ofChange matchExpandsSpec)) matchExpandsCard

/-- THE TIED CARD OF 'footlockerlaw13.MatchFinds'. -/
def matchFindsCard : Claim7 := { stood := { row := matchFindsRow, standIns := [], harness := (true, "f75ee790e7d12c984ebfcadebc5b9706649a232a9aa06bf0bd65e90d97f9d149"), looks := false }, kinds := [], alts := [], laidByText := true, laidKinds := [.data], laidTests := true, laidLooks := .later }
def MatchFindsCardSaid : Prop := Claim7.holds Tryd.pinned (.plain (OpenSpec.ofChange matchFindsSpec)) matchFindsCard

/-- THE TIED CARD OF 'footlockerlaw13.MatchRuns'. -/
def matchRunsCard : Claim7 := { stood := { row := matchRunsRow, standIns := [], harness := (true, "f75ee790e7d12c984ebfcadebc5b9706649a232a9aa06bf0bd65e90d97f9d149"), looks := false }, kinds := [], alts := [], laidByText := true, laidKinds := [.data], laidTests := true, laidLooks := .later }
def MatchRunsCardSaid : Prop := Claim7.holds Tryd.pinned (.plain (OpenSpec.ofChange matchRunsSpec)) matchRunsCard

/-- THE TIED CARD OF 'footlockerlaw13.MatchSames'. -/
def matchSamesCard : Claim7 := { stood := { row := matchSamesRow, standIns := [], harness := (true, "f75ee790e7d12c984ebfcadebc5b9706649a232a9aa06bf0bd65e90d97f9d149"), looks := false }, kinds := [], alts := [], laidByText := true, laidKinds := [.data], laidTests := true, laidLooks := .later }
def MatchSamesCardSaid : Prop := Claim7.holds Tryd.pinned (.plain (OpenSpec.ofChange matchSamesSpec)) matchSamesCard

/-- THE TIED CARD OF 'footlockerlaw13.MatchTwice'. -/
def matchTwiceCard : Claim7 := { stood := { row := matchTwiceRow, standIns := [], harness := (true, "f75ee790e7d12c984ebfcadebc5b9706649a232a9aa06bf0bd65e90d97f9d149"), looks := false }, kinds := [], alts := [], laidByText := true, laidKinds := [.data], laidTests := true, laidLooks := .later }
def MatchTwiceCardSaid : Prop := Claim7.holds Tryd.pinned (.plain (OpenSpec.ofChange matchTwiceSpec)) matchTwiceCard

/-- THE SECOND FORM's CARD OF 'footlockerlaw13.MatchExpands'. -/
def matchExpandsUptoCard : Claim7 := { stood := { row := matchExpandsUptoRow, standIns := [], harness := (true, "f75ee790e7d12c984ebfcadebc5b9706649a232a9aa06bf0bd65e90d97f9d149"), looks := false }, kinds := [], alts := [], laidByText := true, laidKinds := [.data], laidTests := true, laidLooks := .later }
def MatchExpandsUptoCardSaid : Prop := Claim7.holds Tryd.pinned (.plain (OpenSpec.upto matchExpandsSpec)) matchExpandsUptoCard

/-- THE SECOND FORM's CARD OF 'footlockerlaw13.MatchFinds'. -/
def matchFindsUptoCard : Claim7 := { stood := { row := matchFindsUptoRow, standIns := [], harness := (true, "f75ee790e7d12c984ebfcadebc5b9706649a232a9aa06bf0bd65e90d97f9d149"), looks := false }, kinds := [], alts := [], laidByText := true, laidKinds := [.data], laidTests := true, laidLooks := .later }
def MatchFindsUptoCardSaid : Prop := Claim7.holds Tryd.pinned (.plain (OpenSpec.upto matchFindsSpec)) matchFindsUptoCard

/-- THE SECOND FORM's CARD OF 'footlockerlaw13.MatchRuns'. -/
def matchRunsUptoCard : Claim7 := { stood := { row := matchRunsUptoRow, standIns := [], harness := (true, "f75ee790e7d12c984ebfcadebc5b9706649a232a9aa06bf0bd65e90d97f9d149"), looks := false }, kinds := [], alts := [], laidByText := true, laidKinds := [.data], laidTests := true, laidLooks := .later }
def MatchRunsUptoCardSaid : Prop := Claim7.holds Tryd.pinned (.plain (OpenSpec.upto matchRunsSpec)) matchRunsUptoCard

/-- THE SECOND FORM's CARD OF 'footlockerlaw13.MatchSames'. -/
def matchSamesUptoCard : Claim7 := { stood := { row := matchSamesUptoRow, standIns := [], harness := (true, "f75ee790e7d12c984ebfcadebc5b9706649a232a9aa06bf0bd65e90d97f9d149"), looks := false }, kinds := [], alts := [], laidByText := true, laidKinds := [.data], laidTests := true, laidLooks := .later }
def MatchSamesUptoCardSaid : Prop := Claim7.holds Tryd.pinned (.plain (OpenSpec.upto matchSamesSpec)) matchSamesUptoCard

/-- THE SECOND FORM's CARD OF 'footlockerlaw13.MatchTwice'. -/
def matchTwiceUptoCard : Claim7 := { stood := { row := matchTwiceUptoRow, standIns := [], harness := (true, "f75ee790e7d12c984ebfcadebc5b9706649a232a9aa06bf0bd65e90d97f9d149"), looks := false }, kinds := [], alts := [], laidByText := true, laidKinds := [.data], laidTests := true, laidLooks := .later }
def MatchTwiceUptoCardSaid : Prop := Claim7.holds Tryd.pinned (.plain (OpenSpec.upto matchTwiceSpec)) matchTwiceUptoCard
end Rows
end Go.Proofs.YtipeglbklhincaaDoor
