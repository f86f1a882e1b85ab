/-
  DERIVED. GIVEN WITH THE SEED: THE CARDS: each row of YtcmlfpfbbopclaaDoorRows.lean that lists a variable, with what it lists TIED to the program's text (the seventh form; the later family's looks); each row that meets fmt, with fmt's text TOLD by the authors' own Lean function (tested against real Go, not proved from fmt's source: count such statements apart). THE CARD IS WHAT COUNTS. Prove the row's statement (the work); the ties are given (YtcmlfpfbbopclaaDoorTie.lean); close each card by the builder's one call (the guide's Derived/Test/ToyasCard.lean, 'card_holds'). Laid BY PROGRAM, IN A SANDBOX (cutbox-door.mjs). By AI agents, Wed Nov 11 2026. No macro, syntax, notation, axiom, sorry.
-/
import Derived.Test.YtcmlfpfbbopclaaDoorRows
import GoSem.ClaimSeven
namespace Go.Proofs.YtcmlfpfbbopclaaDoor
namespace Rows

/-- THE TIED CARD OF 'footlockerlaw17.StampPacks'. -/
def stampPacksCard : Claim7 := { stood := { row := stampPacksRow, standIns := [], harness := (true, "bfc024863c9ced17e610d12c2d8a728fa661deaf1edff3ae76cbd6169c619037"), looks := false }, kinds := [], alts := [], laidByText := true, laidKinds := [.data], laidTests := true, laidLooks := .later }
def StampPacksCardSaid : Prop := Claim7.holds Tryd.pinned (.plain (OpenSpec.ofChange stampPacksSpec)) stampPacksCard

/-- THE TIED CARD OF 'footlockerlaw17.StampOrders'. -/
def stampOrdersCard : Claim7 := { stood := { row := stampOrdersRow, standIns := [], harness := (true, "bfc024863c9ced17e610d12c2d8a728fa661deaf1edff3ae76cbd6169c619037"), looks := false }, kinds := [], alts := [], laidByText := true, laidKinds := [.data], laidTests := true, laidLooks := .later }
def StampOrdersCardSaid : Prop := Claim7.holds Tryd.pinned (.plain (OpenSpec.ofChange stampOrdersSpec)) stampOrdersCard

/-- THE TIED CARD OF 'footlockerlaw17.StampDays'. -/
def stampDaysCard : Claim7 := { stood := { row := stampDaysRow, standIns := [], harness := (true, "bfc024863c9ced17e610d12c2d8a728fa661deaf1edff3ae76cbd6169c619037"), looks := false }, kinds := [], alts := [], laidByText := true, laidKinds := [.data], laidTests := true, laidLooks := .later }
def StampDaysCardSaid : Prop := Claim7.holds Tryd.pinned (.plain (OpenSpec.ofChange stampDaysSpec)) stampDaysCard

/-- THE TIED CARD OF 'footlockerlaw17.StampSorts'. -/
def stampSortsCard : Claim7 := { stood := { row := stampSortsRow, standIns := [], harness := (true, "bfc024863c9ced17e610d12c2d8a728fa661deaf1edff3ae76cbd6169c619037"), looks := false }, kinds := [], alts := [], laidByText := true, laidKinds := [.data], laidTests := true, laidLooks := .later }
def StampSortsCardSaid : Prop := Claim7.holds Tryd.pinned (.plain (OpenSpec.ofChange stampSortsSpec)) stampSortsCard

/-- THE SECOND FORM's CARD OF 'footlockerlaw17.StampPacks'. -/
def stampPacksUptoCard : Claim7 := { stood := { row := stampPacksUptoRow, standIns := [], harness := (true, "bfc024863c9ced17e610d12c2d8a728fa661deaf1edff3ae76cbd6169c619037"), looks := false }, kinds := [], alts := [], laidByText := true, laidKinds := [.data], laidTests := true, laidLooks := .later }
def StampPacksUptoCardSaid : Prop := Claim7.holds Tryd.pinned (.plain (OpenSpec.upto stampPacksSpec)) stampPacksUptoCard

/-- THE SECOND FORM's CARD OF 'footlockerlaw17.StampOrders'. -/
def stampOrdersUptoCard : Claim7 := { stood := { row := stampOrdersUptoRow, standIns := [], harness := (true, "bfc024863c9ced17e610d12c2d8a728fa661deaf1edff3ae76cbd6169c619037"), looks := false }, kinds := [], alts := [], laidByText := true, laidKinds := [.data], laidTests := true, laidLooks := .later }
def StampOrdersUptoCardSaid : Prop := Claim7.holds Tryd.pinned (.plain (OpenSpec.upto stampOrdersSpec)) stampOrdersUptoCard

/-- THE SECOND FORM's CARD OF 'footlockerlaw17.StampDays'. -/
def stampDaysUptoCard : Claim7 := { stood := { row := stampDaysUptoRow, standIns := [], harness := (true, "bfc024863c9ced17e610d12c2d8a728fa661deaf1edff3ae76cbd6169c619037"), looks := false }, kinds := [], alts := [], laidByText := true, laidKinds := [.data], laidTests := true, laidLooks := .later }
def StampDaysUptoCardSaid : Prop := Claim7.holds Tryd.pinned (.plain (OpenSpec.upto stampDaysSpec)) stampDaysUptoCard

/-- THE SECOND FORM's CARD OF 'footlockerlaw17.StampSorts'. -/
def stampSortsUptoCard : Claim7 := { stood := { row := stampSortsUptoRow, standIns := [], harness := (true, "bfc024863c9ced17e610d12c2d8a728fa661deaf1edff3ae76cbd6169c619037"), looks := false }, kinds := [], alts := [], laidByText := true, laidKinds := [.data], laidTests := true, laidLooks := .later }
def StampSortsUptoCardSaid : Prop := Claim7.holds Tryd.pinned (.plain (OpenSpec.upto stampSortsSpec)) stampSortsUptoCard
end Rows
end Go.Proofs.YtcmlfpfbbopclaaDoor
