/-
  DERIVED. GIVEN WITH THE SEED: THE CARDS: each row of YtbmidddpddiopaaDoorRows.lean that lists a variable, with what it lists TIED to the program's text (the seventh form; the later family's looks); each row that meets fmt, with fmt's text TOLD by the authors' own Lean function (tested against real Go, not proved from fmt's source: count such statements apart). THE CARD IS WHAT COUNTS. Prove the row's statement (the work); the ties are given (YtbmidddpddiopaaDoorTie.lean); close each card by the builder's one call (the guide's Derived/Test/ToyasCard.lean, 'card_holds'). Laid BY PROGRAM, IN A SANDBOX (cutbox-door.mjs). By AI agents, Wed Nov 11 2026. No macro, syntax, notation, axiom, sorry.
-/
import Derived.Test.YtbmidddpddiopaaDoorRows
import GoSem.ClaimSeven
namespace Go.Proofs.YtbmidddpddiopaaDoor
namespace Rows

/-- THE TIED CARD OF 'footlockerlaw06.CrcSums'. -/
def crcSumsCard : Claim7 := { stood := { row := crcSumsRow, standIns := [], harness := (true, "f7a0e16851d5cbb11d1c428a5018c507d17151a722b356a6e6e13bc03f631255"), looks := false }, kinds := [], alts := [], laidByText := true, laidKinds := [.data], laidTests := true, laidLooks := .later }
def CrcSumsCardSaid : Prop := Claim7.holds Tryd.pinned (.plain (OpenSpec.ofChange crcSumsSpec)) crcSumsCard

/-- THE TIED CARD OF 'footlockerlaw06.CrcJoins'. -/
def crcJoinsCard : Claim7 := { stood := { row := crcJoinsRow, standIns := [], harness := (true, "f7a0e16851d5cbb11d1c428a5018c507d17151a722b356a6e6e13bc03f631255"), looks := false }, kinds := [], alts := [], laidByText := true, laidKinds := [.data], laidTests := true, laidLooks := .later }
def CrcJoinsCardSaid : Prop := Claim7.holds Tryd.pinned (.plain (OpenSpec.ofChange crcJoinsSpec)) crcJoinsCard

/-- THE TIED CARD OF 'footlockerlaw06.CrcBursts'. -/
def crcBurstsCard : Claim7 := { stood := { row := crcBurstsRow, standIns := [], harness := (true, "f7a0e16851d5cbb11d1c428a5018c507d17151a722b356a6e6e13bc03f631255"), looks := false }, kinds := [], alts := [], laidByText := true, laidKinds := [.data], laidTests := true, laidLooks := .later }
def CrcBurstsCardSaid : Prop := Claim7.holds Tryd.pinned (.plain (OpenSpec.ofChange crcBurstsSpec)) crcBurstsCard

/-- THE TIED CARD OF 'footlockerlaw06.CrcAdds'. -/
def crcAddsCard : Claim7 := { stood := { row := crcAddsRow, standIns := [], harness := (true, "f7a0e16851d5cbb11d1c428a5018c507d17151a722b356a6e6e13bc03f631255"), looks := false }, kinds := [], alts := [], laidByText := true, laidKinds := [.data], laidTests := true, laidLooks := .later }
def CrcAddsCardSaid : Prop := Claim7.holds Tryd.pinned (.plain (OpenSpec.ofChange crcAddsSpec)) crcAddsCard

/-- THE TIED CARD OF 'footlockerlaw06.CrcParts'. -/
def crcPartsCard : Claim7 := { stood := { row := crcPartsRow, standIns := [], harness := (true, "f7a0e16851d5cbb11d1c428a5018c507d17151a722b356a6e6e13bc03f631255"), looks := false }, kinds := [], alts := [], laidByText := true, laidKinds := [.data], laidTests := true, laidLooks := .later }
def CrcPartsCardSaid : Prop := Claim7.holds Tryd.pinned (.plain (OpenSpec.ofChange crcPartsSpec)) crcPartsCard

/-- THE SECOND FORM's CARD OF 'footlockerlaw06.CrcSums'. -/
def crcSumsUptoCard : Claim7 := { stood := { row := crcSumsUptoRow, standIns := [], harness := (true, "f7a0e16851d5cbb11d1c428a5018c507d17151a722b356a6e6e13bc03f631255"), looks := false }, kinds := [], alts := [], laidByText := true, laidKinds := [.data], laidTests := true, laidLooks := .later }
def CrcSumsUptoCardSaid : Prop := Claim7.holds Tryd.pinned (.plain (OpenSpec.upto crcSumsSpec)) crcSumsUptoCard

/-- THE SECOND FORM's CARD OF 'footlockerlaw06.CrcJoins'. -/
def crcJoinsUptoCard : Claim7 := { stood := { row := crcJoinsUptoRow, standIns := [], harness := (true, "f7a0e16851d5cbb11d1c428a5018c507d17151a722b356a6e6e13bc03f631255"), looks := false }, kinds := [], alts := [], laidByText := true, laidKinds := [.data], laidTests := true, laidLooks := .later }
def CrcJoinsUptoCardSaid : Prop := Claim7.holds Tryd.pinned (.plain (OpenSpec.upto crcJoinsSpec)) crcJoinsUptoCard

/-- THE SECOND FORM's CARD OF 'footlockerlaw06.CrcBursts'. -/
def crcBurstsUptoCard : Claim7 := { stood := { row := crcBurstsUptoRow, standIns := [], harness := (true, "f7a0e16851d5cbb11d1c428a5018c507d17151a722b356a6e6e13bc03f631255"), looks := false }, kinds := [], alts := [], laidByText := true, laidKinds := [.data], laidTests := true, laidLooks := .later }
def CrcBurstsUptoCardSaid : Prop := Claim7.holds Tryd.pinned (.plain (OpenSpec.upto crcBurstsSpec)) crcBurstsUptoCard

/-- THE SECOND FORM's CARD OF 'footlockerlaw06.CrcAdds'. -/
def crcAddsUptoCard : Claim7 := { stood := { row := crcAddsUptoRow, standIns := [], harness := (true, "f7a0e16851d5cbb11d1c428a5018c507d17151a722b356a6e6e13bc03f631255"), looks := false }, kinds := [], alts := [], laidByText := true, laidKinds := [.data], laidTests := true, laidLooks := .later }
def CrcAddsUptoCardSaid : Prop := Claim7.holds Tryd.pinned (.plain (OpenSpec.upto crcAddsSpec)) crcAddsUptoCard

/-- THE SECOND FORM's CARD OF 'footlockerlaw06.CrcParts'. -/
def crcPartsUptoCard : Claim7 := { stood := { row := crcPartsUptoRow, standIns := [], harness := (true, "f7a0e16851d5cbb11d1c428a5018c507d17151a722b356a6e6e13bc03f631255"), looks := false }, kinds := [], alts := [], laidByText := true, laidKinds := [.data], laidTests := true, laidLooks := .later }
def CrcPartsUptoCardSaid : Prop := Claim7.holds Tryd.pinned (.plain (OpenSpec.upto crcPartsSpec)) crcPartsUptoCard
end Rows
end Go.Proofs.YtbmidddpddiopaaDoor
