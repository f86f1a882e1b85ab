/-
  NARROWER THAN 'FOR EVERY INPUT', by the rows' own cells (each row's printed sentence says how): CrcSums: laid · CrcJoins: laid · CrcBursts: laid · CrcAdds: laid · CrcParts: laid.
  DERIVED. THE GIVEN ROWS OF THIS SEAT. 5 by the template 'for every input the law returns true; each argument reads behind the call as it read before'; 0 by the template 'total and deterministic' (their statements: YtbmidddpddiopaaDoorTotals.lean).
  GIVEN WITH THE SEED: the statements are not yours to turn. If you find one false, say at which input.
  Laid BY PROGRAM, IN A SANDBOX (cutbox-rows.mjs): the forced cells as the released guide's own fill.sh prints them over the translation b7002aba07bc6395… (all of the seat's roots in one cut). By AI agents, Wed Nov 11 2026. No macro, syntax, notation, axiom, sorry.
-/
import Derived.Test.YtbmidddpddiopaaDoorChecked
import GoSem.Claim
import GoSem.ClaimJoined
import GoSem.ClaimMapViews
import Derived.JoinedTies
import Derived.KernelRfl
namespace Go.Proofs.YtbmidddpddiopaaDoor
/- THE CELL 'sum', in the pinned program and in every row, IS THE sha256 OF THE DUMP (.gsa) THAT YtbmidddpddiopaaDoorProg.lean LOADS. Nothing in Lean hashes anything: it is a label: what it is worth is what the hold of that sum in a sandbox is worth. -/
noncomputable def Tryd.pinned : Pinned := { name := "ytbmidddpddiopaadoor", sum := "b7002aba07bc6395db24d424497a7c139ba7c2552b702cd56a6338f0b65e9b36", checked := Tryd.checked }
namespace Rows
def none {H : Type} : Left H := { results := [], args := [] }

/- WHAT THE LISTED PACKAGE-LEVEL VARIABLES READ AS WHEN THE CALL BEGINS. Each datum BY PROGRAM (the guide's laid-datum.mjs) off the statement by which the dump's own 'gosem.cut.vars' lays the variable. In a bare row this is a premise. The card (YtbmidddpddiopaaDoorCards.lean) ties it to the program's text. -/
def laid_footlocker_crc_nibbles {H : Type} : DataW H := .agg [.lit (.int .u32 0), .lit (.int .u32 498536548), .lit (.int .u32 997073096), .lit (.int .u32 651767980), .lit (.int .u32 1994146192), .lit (.int .u32 1802195444), .lit (.int .u32 1303535960), .lit (.int .u32 1342533948), .lit (.int .u32 3988292384), .lit (.int .u32 4027552580), .lit (.int .u32 3604390888), .lit (.int .u32 3412177804), .lit (.int .u32 2607071920), .lit (.int .u32 2262029012), .lit (.int .u32 2685067896), .lit (.int .u32 3183342108)]

/-- 'footlockerlaw06.CrcSums': WHATEVER THE INPUT: true; the input reads as it did. -/
def crcSumsSpec : ChangeSpec := { name := "crcSums", fn := fun _ => fun
  | [d1, d2, d3] => { results := [.lit (.bool true)], args := [d1, d2, d3] }
  | _ => none }
def crcSumsRow : OpenClaim := { program := "ytbmidddpddiopaadoor", sum := "b7002aba07bc6395db24d424497a7c139ba7c2552b702cd56a6338f0b65e9b36", func := "footlocker/footlockerlaw06.CrcSums", spec := "crcSums", unfollowed := true, recurses := true, named := ["footlocker/crc.nibbles"], apart := false, laid := [("footlocker/crc.nibbles", laid_footlocker_crc_nibbles)] }
def CrcSumsSaid : Prop := crcSumsRow.holds Tryd.pinned (OpenSpec.ofChange crcSumsSpec)

/-- ITS FALSE NEIGHBOUR: 'it returns false'. Refute it at one input. -/
def crcSumsWrong : ChangeSpec := { name := "crcSums", fn := fun _ => fun
  | [d1, d2, d3] => { results := [.lit (.bool false)], args := [d1, d2, d3] }
  | _ => none }
def CrcSumsWrongFalsely : Prop := crcSumsRow.holds Tryd.pinned (OpenSpec.ofChange crcSumsWrong)

/-- 'footlockerlaw06.CrcJoins': WHATEVER THE INPUT: true; the input reads as it did. -/
def crcJoinsSpec : ChangeSpec := { name := "crcJoins", fn := fun _ => fun
  | [d1, d2, d3, d4] => { results := [.lit (.bool true)], args := [d1, d2, d3, d4] }
  | _ => none }
def crcJoinsRow : OpenClaim := { program := "ytbmidddpddiopaadoor", sum := "b7002aba07bc6395db24d424497a7c139ba7c2552b702cd56a6338f0b65e9b36", func := "footlocker/footlockerlaw06.CrcJoins", spec := "crcJoins", unfollowed := true, recurses := true, named := ["footlocker/crc.nibbles"], apart := false, laid := [("footlocker/crc.nibbles", laid_footlocker_crc_nibbles)] }
def CrcJoinsSaid : Prop := crcJoinsRow.holds Tryd.pinned (OpenSpec.ofChange crcJoinsSpec)

/-- ITS FALSE NEIGHBOUR: 'it returns false'. Refute it at one input. -/
def crcJoinsWrong : ChangeSpec := { name := "crcJoins", fn := fun _ => fun
  | [d1, d2, d3, d4] => { results := [.lit (.bool false)], args := [d1, d2, d3, d4] }
  | _ => none }
def CrcJoinsWrongFalsely : Prop := crcJoinsRow.holds Tryd.pinned (OpenSpec.ofChange crcJoinsWrong)

/-- 'footlockerlaw06.CrcBursts': WHATEVER THE INPUT: true; the input reads as it did. -/
def crcBurstsSpec : ChangeSpec := { name := "crcBursts", fn := fun _ => fun
  | [d1, d2, d3] => { results := [.lit (.bool true)], args := [d1, d2, d3] }
  | _ => none }
def crcBurstsRow : OpenClaim := { program := "ytbmidddpddiopaadoor", sum := "b7002aba07bc6395db24d424497a7c139ba7c2552b702cd56a6338f0b65e9b36", func := "footlocker/footlockerlaw06.CrcBursts", spec := "crcBursts", unfollowed := true, recurses := true, named := ["footlocker/crc.nibbles"], apart := false, laid := [("footlocker/crc.nibbles", laid_footlocker_crc_nibbles)] }
def CrcBurstsSaid : Prop := crcBurstsRow.holds Tryd.pinned (OpenSpec.ofChange crcBurstsSpec)

/-- ITS FALSE NEIGHBOUR: 'it returns false'. Refute it at one input. -/
def crcBurstsWrong : ChangeSpec := { name := "crcBursts", fn := fun _ => fun
  | [d1, d2, d3] => { results := [.lit (.bool false)], args := [d1, d2, d3] }
  | _ => none }
def CrcBurstsWrongFalsely : Prop := crcBurstsRow.holds Tryd.pinned (OpenSpec.ofChange crcBurstsWrong)

/-- 'footlockerlaw06.CrcAdds': WHATEVER THE INPUT: true; the input reads as it did. -/
def crcAddsSpec : ChangeSpec := { name := "crcAdds", fn := fun _ => fun
  | [d1, d2] => { results := [.lit (.bool true)], args := [d1, d2] }
  | _ => none }
def crcAddsRow : OpenClaim := { program := "ytbmidddpddiopaadoor", sum := "b7002aba07bc6395db24d424497a7c139ba7c2552b702cd56a6338f0b65e9b36", func := "footlocker/footlockerlaw06.CrcAdds", spec := "crcAdds", unfollowed := true, recurses := true, named := ["footlocker/crc.nibbles"], apart := false, laid := [("footlocker/crc.nibbles", laid_footlocker_crc_nibbles)] }
def CrcAddsSaid : Prop := crcAddsRow.holds Tryd.pinned (OpenSpec.ofChange crcAddsSpec)

/-- ITS FALSE NEIGHBOUR: 'it returns false'. Refute it at one input. -/
def crcAddsWrong : ChangeSpec := { name := "crcAdds", fn := fun _ => fun
  | [d1, d2] => { results := [.lit (.bool false)], args := [d1, d2] }
  | _ => none }
def CrcAddsWrongFalsely : Prop := crcAddsRow.holds Tryd.pinned (OpenSpec.ofChange crcAddsWrong)

/-- 'footlockerlaw06.CrcParts': WHATEVER THE INPUT: true; the input reads as it did. -/
def crcPartsSpec : ChangeSpec := { name := "crcParts", fn := fun _ => fun
  | [d1, d2, d3] => { results := [.lit (.bool true)], args := [d1, d2, d3] }
  | _ => none }
def crcPartsRow : OpenClaim := { program := "ytbmidddpddiopaadoor", sum := "b7002aba07bc6395db24d424497a7c139ba7c2552b702cd56a6338f0b65e9b36", func := "footlocker/footlockerlaw06.CrcParts", spec := "crcParts", unfollowed := true, recurses := true, named := ["footlocker/crc.nibbles"], apart := false, laid := [("footlocker/crc.nibbles", laid_footlocker_crc_nibbles)] }
def CrcPartsSaid : Prop := crcPartsRow.holds Tryd.pinned (OpenSpec.ofChange crcPartsSpec)

/-- ITS FALSE NEIGHBOUR: 'it returns false'. Refute it at one input. -/
def crcPartsWrong : ChangeSpec := { name := "crcParts", fn := fun _ => fun
  | [d1, d2, d3] => { results := [.lit (.bool false)], args := [d1, d2, d3] }
  | _ => none }
def CrcPartsWrongFalsely : Prop := crcPartsRow.holds Tryd.pinned (OpenSpec.ofChange crcPartsWrong)

/- THE SECOND FORM. 'bulk': how many values and letters a reading holds, each counted each time it is reached (what is shared counts as often as it is met; a slice's spare places count too). A statement '..UptoSaid' is the law's where the arguments, and the package variables that the reading takes, are together of bulk at most 1048576: NARROWER than '..Said'. Prove '..Said' where nothing that the law and all that it calls make is longer than what came in: it says more and counts as full. Else prove '..UptoSaid'. A law counts once. -/
mutual
def uptoBulk {H : Type} : DataW H → Nat
  | .lit (.string bytes) => bytes.length + 1
  | .lit _ => 1
  | .nil => 1
  | .ptr d => uptoBulk d + 1
  | .slice elems spare => uptoBulkAll elems + uptoBulkAll spare + 1
  | .agg parts => uptoBulkAll parts + 1
  | .iface _ d => uptoBulk d + 1
  | .map entries => uptoBulkEntries entries + 1
  | .held _ => 1
def uptoBulkAll {H : Type} : List (DataW H) → Nat
  | [] => 0
  | d :: r => uptoBulk d + uptoBulkAll r
def uptoBulkEntries {H : Type} : List (Lit × DataW H) → Nat
  | [] => 0
  | x :: r => uptoBulkEntry x + uptoBulkEntries r
def uptoBulkEntry {H : Type} : Lit × DataW H → Nat
  | (.string bytes, d) => bytes.length + uptoBulk d + 1
  | (_, d) => uptoBulk d + 1
 end
def uptoSmall : (H : Type) → List (DataW H) → Bool := fun _ ds => decide (uptoBulkAll ds ≤ 1048576)
def OpenSpec.upto (s : _root_.Go.ChangeSpec) : _root_.Go.OpenSpec := { _root_.Go.OpenSpec.ofChange s with cond := some uptoSmall }

/-- 'footlockerlaw06.CrcSums', WHERE WHAT IT READS IS OF BULK AT MOST 1048576: true; the input reads as it did. -/
def crcSumsUptoRow : OpenClaim := { program := "ytbmidddpddiopaadoor", sum := "b7002aba07bc6395db24d424497a7c139ba7c2552b702cd56a6338f0b65e9b36", func := "footlocker/footlockerlaw06.CrcSums", spec := "crcSums", unfollowed := true, recurses := true, named := ["footlocker/crc.nibbles"], apart := false, laid := [("footlocker/crc.nibbles", laid_footlocker_crc_nibbles)], narrowed := true }
def CrcSumsUptoSaid : Prop := crcSumsUptoRow.holds Tryd.pinned (OpenSpec.upto crcSumsSpec)

/-- 'footlockerlaw06.CrcJoins', WHERE WHAT IT READS IS OF BULK AT MOST 1048576: true; the input reads as it did. -/
def crcJoinsUptoRow : OpenClaim := { program := "ytbmidddpddiopaadoor", sum := "b7002aba07bc6395db24d424497a7c139ba7c2552b702cd56a6338f0b65e9b36", func := "footlocker/footlockerlaw06.CrcJoins", spec := "crcJoins", unfollowed := true, recurses := true, named := ["footlocker/crc.nibbles"], apart := false, laid := [("footlocker/crc.nibbles", laid_footlocker_crc_nibbles)], narrowed := true }
def CrcJoinsUptoSaid : Prop := crcJoinsUptoRow.holds Tryd.pinned (OpenSpec.upto crcJoinsSpec)

/-- 'footlockerlaw06.CrcBursts', WHERE WHAT IT READS IS OF BULK AT MOST 1048576: true; the input reads as it did. -/
def crcBurstsUptoRow : OpenClaim := { program := "ytbmidddpddiopaadoor", sum := "b7002aba07bc6395db24d424497a7c139ba7c2552b702cd56a6338f0b65e9b36", func := "footlocker/footlockerlaw06.CrcBursts", spec := "crcBursts", unfollowed := true, recurses := true, named := ["footlocker/crc.nibbles"], apart := false, laid := [("footlocker/crc.nibbles", laid_footlocker_crc_nibbles)], narrowed := true }
def CrcBurstsUptoSaid : Prop := crcBurstsUptoRow.holds Tryd.pinned (OpenSpec.upto crcBurstsSpec)

/-- 'footlockerlaw06.CrcAdds', WHERE WHAT IT READS IS OF BULK AT MOST 1048576: true; the input reads as it did. -/
def crcAddsUptoRow : OpenClaim := { program := "ytbmidddpddiopaadoor", sum := "b7002aba07bc6395db24d424497a7c139ba7c2552b702cd56a6338f0b65e9b36", func := "footlocker/footlockerlaw06.CrcAdds", spec := "crcAdds", unfollowed := true, recurses := true, named := ["footlocker/crc.nibbles"], apart := false, laid := [("footlocker/crc.nibbles", laid_footlocker_crc_nibbles)], narrowed := true }
def CrcAddsUptoSaid : Prop := crcAddsUptoRow.holds Tryd.pinned (OpenSpec.upto crcAddsSpec)

/-- 'footlockerlaw06.CrcParts', WHERE WHAT IT READS IS OF BULK AT MOST 1048576: true; the input reads as it did. -/
def crcPartsUptoRow : OpenClaim := { program := "ytbmidddpddiopaadoor", sum := "b7002aba07bc6395db24d424497a7c139ba7c2552b702cd56a6338f0b65e9b36", func := "footlocker/footlockerlaw06.CrcParts", spec := "crcParts", unfollowed := true, recurses := true, named := ["footlocker/crc.nibbles"], apart := false, laid := [("footlocker/crc.nibbles", laid_footlocker_crc_nibbles)], narrowed := true }
def CrcPartsUptoSaid : Prop := crcPartsUptoRow.holds Tryd.pinned (OpenSpec.upto crcPartsSpec)

end Rows
end Go.Proofs.YtbmidddpddiopaaDoor
