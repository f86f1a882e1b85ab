/-
  No cell of these rows narrows 'for every input' (looked for: loops, veiled, ifaces, maps, wideKeys, modest, calm, conditions, laid).
  DERIVED. THE GIVEN ROWS OF THIS SEAT. 6 by the template 'for every input the law returns true; each argument reads behind the call as it read before'; 0 by the template 'total and deterministic' (their statements: YtegnjcehklldpaaTotals.lean).
  GIVEN WITH THE SEED: the statements are not yours to turn. If you find one false, say at which input.
  Laid BY PROGRAM, IN A SANDBOX (cutbox-rows.mjs): the forced cells as the released guide's own fill.sh prints them over the translation d1f8859bbf4a496e… (all of the seat's roots in one cut). By AI agents, Wed Nov 11 2026. No macro, syntax, notation, axiom, sorry.
-/
import Derived.Test.YtegnjcehklldpaaChecked
import GoSem.Claim
import GoSem.ClaimJoined
import GoSem.ClaimMapViews
import Derived.JoinedTies
import Derived.KernelRfl
namespace Go.Proofs.Ytegnjcehklldpaa
/- THE CELL 'sum', in the pinned program and in every row, IS THE sha256 OF THE DUMP (.gsa) THAT YtegnjcehklldpaaProg.lean LOADS. Nothing in Lean hashes anything: it is a label: what it is worth is what the hold of that sum in a sandbox is worth. -/
noncomputable def Try.pinned : Pinned := { name := "ytegnjcehklldpaa", sum := "d1f8859bbf4a496e540a719ece29f34dc819676d43724bf1d4ad96d7afb73e21", checked := Try.checked }
namespace Rows
def none {H : Type} : Left H := { results := [], args := [] }

/-- 'footlockerlaw01.GfBytes': WHATEVER THE INPUT: true; the input reads as it did. -/
def gfBytesSpec : ChangeSpec := { name := "gfBytes", fn := fun _ => fun
  | [d1, d2, d3] => { results := [.lit (.bool true)], args := [d1, d2, d3] }
  | _ => none }
def gfBytesRow : OpenClaim := { program := "ytegnjcehklldpaa", sum := "d1f8859bbf4a496e540a719ece29f34dc819676d43724bf1d4ad96d7afb73e21", func := "footlocker/footlockerlaw01.GfBytes", spec := "gfBytes", apart := false }
def GfBytesSaid : Prop := gfBytesRow.holds Try.pinned (OpenSpec.ofChange gfBytesSpec)

/-- ITS FALSE NEIGHBOUR: 'it returns false'. Refute it at one input. -/
def gfBytesWrong : ChangeSpec := { name := "gfBytes", fn := fun _ => fun
  | [d1, d2, d3] => { results := [.lit (.bool false)], args := [d1, d2, d3] }
  | _ => none }
def GfBytesWrongFalsely : Prop := gfBytesRow.holds Try.pinned (OpenSpec.ofChange gfBytesWrong)

/-- 'footlockerlaw01.GfRows': WHATEVER THE INPUT: true; the input reads as it did. -/
def gfRowsSpec : ChangeSpec := { name := "gfRows", fn := fun _ => fun
  | [d1, d2, d3] => { results := [.lit (.bool true)], args := [d1, d2, d3] }
  | _ => none }
def gfRowsRow : OpenClaim := { program := "ytegnjcehklldpaa", sum := "d1f8859bbf4a496e540a719ece29f34dc819676d43724bf1d4ad96d7afb73e21", func := "footlocker/footlockerlaw01.GfRows", spec := "gfRows", apart := false }
def GfRowsSaid : Prop := gfRowsRow.holds Try.pinned (OpenSpec.ofChange gfRowsSpec)

/-- ITS FALSE NEIGHBOUR: 'it returns false'. Refute it at one input. -/
def gfRowsWrong : ChangeSpec := { name := "gfRows", fn := fun _ => fun
  | [d1, d2, d3] => { results := [.lit (.bool false)], args := [d1, d2, d3] }
  | _ => none }
def GfRowsWrongFalsely : Prop := gfRowsRow.holds Try.pinned (OpenSpec.ofChange gfRowsWrong)

/-- 'footlockerlaw01.GfField': WHATEVER THE INPUT: true; the input reads as it did. -/
def gfFieldSpec : ChangeSpec := { name := "gfField", fn := fun _ => fun
  | [d1, d2, d3] => { results := [.lit (.bool true)], args := [d1, d2, d3] }
  | _ => none }
def gfFieldRow : OpenClaim := { program := "ytegnjcehklldpaa", sum := "d1f8859bbf4a496e540a719ece29f34dc819676d43724bf1d4ad96d7afb73e21", func := "footlocker/footlockerlaw01.GfField", spec := "gfField", unfollowed := true, recurses := true, apart := false }
def GfFieldSaid : Prop := gfFieldRow.holds Try.pinned (OpenSpec.ofChange gfFieldSpec)

/-- ITS FALSE NEIGHBOUR: 'it returns false'. Refute it at one input. -/
def gfFieldWrong : ChangeSpec := { name := "gfField", fn := fun _ => fun
  | [d1, d2, d3] => { results := [.lit (.bool false)], args := [d1, d2, d3] }
  | _ => none }
def GfFieldWrongFalsely : Prop := gfFieldRow.holds Try.pinned (OpenSpec.ofChange gfFieldWrong)

/-- 'footlockerlaw01.GfPowers': WHATEVER THE INPUT: true; the input reads as it did. -/
def gfPowersSpec : ChangeSpec := { name := "gfPowers", fn := fun _ => fun
  | [d1, d2, d3, d4] => { results := [.lit (.bool true)], args := [d1, d2, d3, d4] }
  | _ => none }
def gfPowersRow : OpenClaim := { program := "ytegnjcehklldpaa", sum := "d1f8859bbf4a496e540a719ece29f34dc819676d43724bf1d4ad96d7afb73e21", func := "footlocker/footlockerlaw01.GfPowers", spec := "gfPowers", apart := false }
def GfPowersSaid : Prop := gfPowersRow.holds Try.pinned (OpenSpec.ofChange gfPowersSpec)

/-- ITS FALSE NEIGHBOUR: 'it returns false'. Refute it at one input. -/
def gfPowersWrong : ChangeSpec := { name := "gfPowers", fn := fun _ => fun
  | [d1, d2, d3, d4] => { results := [.lit (.bool false)], args := [d1, d2, d3, d4] }
  | _ => none }
def GfPowersWrongFalsely : Prop := gfPowersRow.holds Try.pinned (OpenSpec.ofChange gfPowersWrong)

/-- 'footlockerlaw01.GfRowsAdd': WHATEVER THE INPUT: true; the input reads as it did. -/
def gfRowsAddSpec : ChangeSpec := { name := "gfRowsAdd", fn := fun _ => fun
  | [d1, d2, d3, d4] => { results := [.lit (.bool true)], args := [d1, d2, d3, d4] }
  | _ => none }
def gfRowsAddRow : OpenClaim := { program := "ytegnjcehklldpaa", sum := "d1f8859bbf4a496e540a719ece29f34dc819676d43724bf1d4ad96d7afb73e21", func := "footlocker/footlockerlaw01.GfRowsAdd", spec := "gfRowsAdd", apart := false }
def GfRowsAddSaid : Prop := gfRowsAddRow.holds Try.pinned (OpenSpec.ofChange gfRowsAddSpec)

/-- ITS FALSE NEIGHBOUR: 'it returns false'. Refute it at one input. -/
def gfRowsAddWrong : ChangeSpec := { name := "gfRowsAdd", fn := fun _ => fun
  | [d1, d2, d3, d4] => { results := [.lit (.bool false)], args := [d1, d2, d3, d4] }
  | _ => none }
def GfRowsAddWrongFalsely : Prop := gfRowsAddRow.holds Try.pinned (OpenSpec.ofChange gfRowsAddWrong)

/-- 'footlockerlaw01.GfSquares': WHATEVER THE INPUT: true; the input reads as it did. -/
def gfSquaresSpec : ChangeSpec := { name := "gfSquares", fn := fun _ => fun
  | [d1, d2] => { results := [.lit (.bool true)], args := [d1, d2] }
  | _ => none }
def gfSquaresRow : OpenClaim := { program := "ytegnjcehklldpaa", sum := "d1f8859bbf4a496e540a719ece29f34dc819676d43724bf1d4ad96d7afb73e21", func := "footlocker/footlockerlaw01.GfSquares", spec := "gfSquares", apart := false }
def GfSquaresSaid : Prop := gfSquaresRow.holds Try.pinned (OpenSpec.ofChange gfSquaresSpec)

/-- ITS FALSE NEIGHBOUR: 'it returns false'. Refute it at one input. -/
def gfSquaresWrong : ChangeSpec := { name := "gfSquares", fn := fun _ => fun
  | [d1, d2] => { results := [.lit (.bool false)], args := [d1, d2] }
  | _ => none }
def GfSquaresWrongFalsely : Prop := gfSquaresRow.holds Try.pinned (OpenSpec.ofChange gfSquaresWrong)

/- THE SECOND FORM. 'bulk': how many values and letters a reading holds, each counted each time it is reached (what is shared counts as often as it is met; a slice's spare places count too). A statement '..UptoSaid' is the law's where the arguments, and the package variables that the reading takes, are together of bulk at most 1048576: NARROWER than '..Said'. Prove '..Said' where nothing that the law and all that it calls make is longer than what came in: it says more and counts as full. Else prove '..UptoSaid'. A law counts once. -/
mutual
def uptoBulk {H : Type} : DataW H → Nat
  | .lit (.string bytes) => bytes.length + 1
  | .lit _ => 1
  | .nil => 1
  | .ptr d => uptoBulk d + 1
  | .slice elems spare => uptoBulkAll elems + uptoBulkAll spare + 1
  | .agg parts => uptoBulkAll parts + 1
  | .iface _ d => uptoBulk d + 1
  | .map entries => uptoBulkEntries entries + 1
  | .held _ => 1
def uptoBulkAll {H : Type} : List (DataW H) → Nat
  | [] => 0
  | d :: r => uptoBulk d + uptoBulkAll r
def uptoBulkEntries {H : Type} : List (Lit × DataW H) → Nat
  | [] => 0
  | x :: r => uptoBulkEntry x + uptoBulkEntries r
def uptoBulkEntry {H : Type} : Lit × DataW H → Nat
  | (.string bytes, d) => bytes.length + uptoBulk d + 1
  | (_, d) => uptoBulk d + 1
 end
def uptoSmall : (H : Type) → List (DataW H) → Bool := fun _ ds => decide (uptoBulkAll ds ≤ 1048576)
def OpenSpec.upto (s : _root_.Go.ChangeSpec) : _root_.Go.OpenSpec := { _root_.Go.OpenSpec.ofChange s with cond := some uptoSmall }

/-- 'footlockerlaw01.GfBytes', WHERE WHAT IT READS IS OF BULK AT MOST 1048576: true; the input reads as it did. -/
def gfBytesUptoRow : OpenClaim := { program := "ytegnjcehklldpaa", sum := "d1f8859bbf4a496e540a719ece29f34dc819676d43724bf1d4ad96d7afb73e21", func := "footlocker/footlockerlaw01.GfBytes", spec := "gfBytes", apart := false, narrowed := true }
def GfBytesUptoSaid : Prop := gfBytesUptoRow.holds Try.pinned (OpenSpec.upto gfBytesSpec)

/-- 'footlockerlaw01.GfRows', WHERE WHAT IT READS IS OF BULK AT MOST 1048576: true; the input reads as it did. -/
def gfRowsUptoRow : OpenClaim := { program := "ytegnjcehklldpaa", sum := "d1f8859bbf4a496e540a719ece29f34dc819676d43724bf1d4ad96d7afb73e21", func := "footlocker/footlockerlaw01.GfRows", spec := "gfRows", apart := false, narrowed := true }
def GfRowsUptoSaid : Prop := gfRowsUptoRow.holds Try.pinned (OpenSpec.upto gfRowsSpec)

/-- 'footlockerlaw01.GfField', WHERE WHAT IT READS IS OF BULK AT MOST 1048576: true; the input reads as it did. -/
def gfFieldUptoRow : OpenClaim := { program := "ytegnjcehklldpaa", sum := "d1f8859bbf4a496e540a719ece29f34dc819676d43724bf1d4ad96d7afb73e21", func := "footlocker/footlockerlaw01.GfField", spec := "gfField", unfollowed := true, recurses := true, apart := false, narrowed := true }
def GfFieldUptoSaid : Prop := gfFieldUptoRow.holds Try.pinned (OpenSpec.upto gfFieldSpec)

/-- 'footlockerlaw01.GfPowers', WHERE WHAT IT READS IS OF BULK AT MOST 1048576: true; the input reads as it did. -/
def gfPowersUptoRow : OpenClaim := { program := "ytegnjcehklldpaa", sum := "d1f8859bbf4a496e540a719ece29f34dc819676d43724bf1d4ad96d7afb73e21", func := "footlocker/footlockerlaw01.GfPowers", spec := "gfPowers", apart := false, narrowed := true }
def GfPowersUptoSaid : Prop := gfPowersUptoRow.holds Try.pinned (OpenSpec.upto gfPowersSpec)

/-- 'footlockerlaw01.GfRowsAdd', WHERE WHAT IT READS IS OF BULK AT MOST 1048576: true; the input reads as it did. -/
def gfRowsAddUptoRow : OpenClaim := { program := "ytegnjcehklldpaa", sum := "d1f8859bbf4a496e540a719ece29f34dc819676d43724bf1d4ad96d7afb73e21", func := "footlocker/footlockerlaw01.GfRowsAdd", spec := "gfRowsAdd", apart := false, narrowed := true }
def GfRowsAddUptoSaid : Prop := gfRowsAddUptoRow.holds Try.pinned (OpenSpec.upto gfRowsAddSpec)

/-- 'footlockerlaw01.GfSquares', WHERE WHAT IT READS IS OF BULK AT MOST 1048576: true; the input reads as it did. -/
def gfSquaresUptoRow : OpenClaim := { program := "ytegnjcehklldpaa", sum := "d1f8859bbf4a496e540a719ece29f34dc819676d43724bf1d4ad96d7afb73e21", func := "footlocker/footlockerlaw01.GfSquares", spec := "gfSquares", apart := false, narrowed := true }
def GfSquaresUptoSaid : Prop := gfSquaresUptoRow.holds Try.pinned (OpenSpec.upto gfSquaresSpec)

end Rows
end Go.Proofs.Ytegnjcehklldpaa
