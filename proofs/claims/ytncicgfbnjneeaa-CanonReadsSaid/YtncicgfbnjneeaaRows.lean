/-
  No cell of these rows narrows 'for every input' (looked for: loops, veiled, ifaces, maps, wideKeys, modest, calm, conditions, laid).
  DERIVED. THE GIVEN ROWS OF THIS SEAT. 5 by the template 'for every input the law returns true; each argument reads behind the call as it read before'; 0 by the template 'total and deterministic' (their statements: YtncicgfbnjneeaaTotals.lean).
  GIVEN WITH THE SEED: the statements are not yours to turn. If you find one false, say at which input.
  Laid BY PROGRAM, IN A SANDBOX (cutbox-rows.mjs): the forced cells as the released guide's own fill.sh prints them over the translation 828efc07f6499e10… (all of the seat's roots in one cut). By AI agents, Wed Nov 11 2026. No macro, syntax, notation, axiom, sorry.
-/
import Derived.Test.YtncicgfbnjneeaaChecked
import GoSem.Claim
import GoSem.ClaimJoined
import GoSem.ClaimMapViews
import Derived.JoinedTies
import Derived.KernelRfl
namespace Go.Proofs.Ytncicgfbnjneeaa
/- THE CELL 'sum', in the pinned program and in every row, IS THE sha256 OF THE DUMP (.gsa) THAT YtncicgfbnjneeaaProg.lean LOADS. Nothing in Lean hashes anything: it is a label: what it is worth is what the hold of that sum in a sandbox is worth. -/
noncomputable def Try.pinned : Pinned := { name := "ytncicgfbnjneeaa", sum := "828efc07f6499e1013f89bad0b9155c9b2e9df7988885d372eb94f93ff4ff686", checked := Try.checked }
namespace Rows
def none {H : Type} : Left H := { results := [], args := [] }

/-- 'footlockerlaw10.CanonCodes': WHATEVER THE INPUT: true; the input reads as it did. -/
def canonCodesSpec : ChangeSpec := { name := "canonCodes", fn := fun _ => fun
  | [d1, d2] => { results := [.lit (.bool true)], args := [d1, d2] }
  | _ => none }
def canonCodesRow : OpenClaim := { program := "ytncicgfbnjneeaa", sum := "828efc07f6499e1013f89bad0b9155c9b2e9df7988885d372eb94f93ff4ff686", func := "footlocker/footlockerlaw10.CanonCodes", spec := "canonCodes", unfollowed := true, recurses := true, apart := false }
def CanonCodesSaid : Prop := canonCodesRow.holds Try.pinned (OpenSpec.ofChange canonCodesSpec)

/-- ITS FALSE NEIGHBOUR: 'it returns false'. Refute it at one input. -/
def canonCodesWrong : ChangeSpec := { name := "canonCodes", fn := fun _ => fun
  | [d1, d2] => { results := [.lit (.bool false)], args := [d1, d2] }
  | _ => none }
def CanonCodesWrongFalsely : Prop := canonCodesRow.holds Try.pinned (OpenSpec.ofChange canonCodesWrong)

/-- 'footlockerlaw10.CanonOrders': WHATEVER THE INPUT: true; the input reads as it did. -/
def canonOrdersSpec : ChangeSpec := { name := "canonOrders", fn := fun _ => fun
  | [d] => { results := [.lit (.bool true)], args := [d] }
  | _ => none }
def canonOrdersRow : OpenClaim := { program := "ytncicgfbnjneeaa", sum := "828efc07f6499e1013f89bad0b9155c9b2e9df7988885d372eb94f93ff4ff686", func := "footlocker/footlockerlaw10.CanonOrders", spec := "canonOrders", unfollowed := true, recurses := true, apart := false }
def CanonOrdersSaid : Prop := canonOrdersRow.holds Try.pinned (OpenSpec.ofChange canonOrdersSpec)

/-- ITS FALSE NEIGHBOUR: 'it returns false'. Refute it at one input. -/
def canonOrdersWrong : ChangeSpec := { name := "canonOrders", fn := fun _ => fun
  | [d] => { results := [.lit (.bool false)], args := [d] }
  | _ => none }
def CanonOrdersWrongFalsely : Prop := canonOrdersRow.holds Try.pinned (OpenSpec.ofChange canonOrdersWrong)

/-- 'footlockerlaw10.CanonReads': WHATEVER THE INPUT: true; the input reads as it did. -/
def canonReadsSpec : ChangeSpec := { name := "canonReads", fn := fun _ => fun
  | [d1, d2] => { results := [.lit (.bool true)], args := [d1, d2] }
  | _ => none }
def canonReadsRow : OpenClaim := { program := "ytncicgfbnjneeaa", sum := "828efc07f6499e1013f89bad0b9155c9b2e9df7988885d372eb94f93ff4ff686", func := "footlocker/footlockerlaw10.CanonReads", spec := "canonReads", unfollowed := true, recurses := true, apart := false }
def CanonReadsSaid : Prop := canonReadsRow.holds Try.pinned (OpenSpec.ofChange canonReadsSpec)

/-- ITS FALSE NEIGHBOUR: 'it returns false'. Refute it at one input. -/
def canonReadsWrong : ChangeSpec := { name := "canonReads", fn := fun _ => fun
  | [d1, d2] => { results := [.lit (.bool false)], args := [d1, d2] }
  | _ => none }
def CanonReadsWrongFalsely : Prop := canonReadsRow.holds Try.pinned (OpenSpec.ofChange canonReadsWrong)

/-- 'footlockerlaw10.CanonSums': WHATEVER THE INPUT: true; the input reads as it did. -/
def canonSumsSpec : ChangeSpec := { name := "canonSums", fn := fun _ => fun
  | [d1, d2] => { results := [.lit (.bool true)], args := [d1, d2] }
  | _ => none }
def canonSumsRow : OpenClaim := { program := "ytncicgfbnjneeaa", sum := "828efc07f6499e1013f89bad0b9155c9b2e9df7988885d372eb94f93ff4ff686", func := "footlocker/footlockerlaw10.CanonSums", spec := "canonSums", unfollowed := true, recurses := true, apart := false }
def CanonSumsSaid : Prop := canonSumsRow.holds Try.pinned (OpenSpec.ofChange canonSumsSpec)

/-- ITS FALSE NEIGHBOUR: 'it returns false'. Refute it at one input. -/
def canonSumsWrong : ChangeSpec := { name := "canonSums", fn := fun _ => fun
  | [d1, d2] => { results := [.lit (.bool false)], args := [d1, d2] }
  | _ => none }
def CanonSumsWrongFalsely : Prop := canonSumsRow.holds Try.pinned (OpenSpec.ofChange canonSumsWrong)

/-- 'footlockerlaw10.CanonBack': WHATEVER THE INPUT: true; the input reads as it did. -/
def canonBackSpec : ChangeSpec := { name := "canonBack", fn := fun _ => fun
  | [d1, d2] => { results := [.lit (.bool true)], args := [d1, d2] }
  | _ => none }
def canonBackRow : OpenClaim := { program := "ytncicgfbnjneeaa", sum := "828efc07f6499e1013f89bad0b9155c9b2e9df7988885d372eb94f93ff4ff686", func := "footlocker/footlockerlaw10.CanonBack", spec := "canonBack", unfollowed := true, recurses := true, apart := false }
def CanonBackSaid : Prop := canonBackRow.holds Try.pinned (OpenSpec.ofChange canonBackSpec)

/-- ITS FALSE NEIGHBOUR: 'it returns false'. Refute it at one input. -/
def canonBackWrong : ChangeSpec := { name := "canonBack", fn := fun _ => fun
  | [d1, d2] => { results := [.lit (.bool false)], args := [d1, d2] }
  | _ => none }
def CanonBackWrongFalsely : Prop := canonBackRow.holds Try.pinned (OpenSpec.ofChange canonBackWrong)

/- THE SECOND FORM. 'bulk': how many values and letters a reading holds, each counted each time it is reached (what is shared counts as often as it is met; a slice's spare places count too). A statement '..UptoSaid' is the law's where the arguments, and the package variables that the reading takes, are together of bulk at most 1048576: NARROWER than '..Said'. Prove '..Said' where nothing that the law and all that it calls make is longer than what came in: it says more and counts as full. Else prove '..UptoSaid'. A law counts once. -/
mutual
def uptoBulk {H : Type} : DataW H → Nat
  | .lit (.string bytes) => bytes.length + 1
  | .lit _ => 1
  | .nil => 1
  | .ptr d => uptoBulk d + 1
  | .slice elems spare => uptoBulkAll elems + uptoBulkAll spare + 1
  | .agg parts => uptoBulkAll parts + 1
  | .iface _ d => uptoBulk d + 1
  | .map entries => uptoBulkEntries entries + 1
  | .held _ => 1
def uptoBulkAll {H : Type} : List (DataW H) → Nat
  | [] => 0
  | d :: r => uptoBulk d + uptoBulkAll r
def uptoBulkEntries {H : Type} : List (Lit × DataW H) → Nat
  | [] => 0
  | x :: r => uptoBulkEntry x + uptoBulkEntries r
def uptoBulkEntry {H : Type} : Lit × DataW H → Nat
  | (.string bytes, d) => bytes.length + uptoBulk d + 1
  | (_, d) => uptoBulk d + 1
 end
def uptoSmall : (H : Type) → List (DataW H) → Bool := fun _ ds => decide (uptoBulkAll ds ≤ 1048576)
def OpenSpec.upto (s : _root_.Go.ChangeSpec) : _root_.Go.OpenSpec := { _root_.Go.OpenSpec.ofChange s with cond := some uptoSmall }

/-- 'footlockerlaw10.CanonCodes', WHERE WHAT IT READS IS OF BULK AT MOST 1048576: true; the input reads as it did. -/
def canonCodesUptoRow : OpenClaim := { program := "ytncicgfbnjneeaa", sum := "828efc07f6499e1013f89bad0b9155c9b2e9df7988885d372eb94f93ff4ff686", func := "footlocker/footlockerlaw10.CanonCodes", spec := "canonCodes", unfollowed := true, recurses := true, apart := false, narrowed := true }
def CanonCodesUptoSaid : Prop := canonCodesUptoRow.holds Try.pinned (OpenSpec.upto canonCodesSpec)

/-- 'footlockerlaw10.CanonOrders', WHERE WHAT IT READS IS OF BULK AT MOST 1048576: true; the input reads as it did. -/
def canonOrdersUptoRow : OpenClaim := { program := "ytncicgfbnjneeaa", sum := "828efc07f6499e1013f89bad0b9155c9b2e9df7988885d372eb94f93ff4ff686", func := "footlocker/footlockerlaw10.CanonOrders", spec := "canonOrders", unfollowed := true, recurses := true, apart := false, narrowed := true }
def CanonOrdersUptoSaid : Prop := canonOrdersUptoRow.holds Try.pinned (OpenSpec.upto canonOrdersSpec)

/-- 'footlockerlaw10.CanonReads', WHERE WHAT IT READS IS OF BULK AT MOST 1048576: true; the input reads as it did. -/
def canonReadsUptoRow : OpenClaim := { program := "ytncicgfbnjneeaa", sum := "828efc07f6499e1013f89bad0b9155c9b2e9df7988885d372eb94f93ff4ff686", func := "footlocker/footlockerlaw10.CanonReads", spec := "canonReads", unfollowed := true, recurses := true, apart := false, narrowed := true }
def CanonReadsUptoSaid : Prop := canonReadsUptoRow.holds Try.pinned (OpenSpec.upto canonReadsSpec)

/-- 'footlockerlaw10.CanonSums', WHERE WHAT IT READS IS OF BULK AT MOST 1048576: true; the input reads as it did. -/
def canonSumsUptoRow : OpenClaim := { program := "ytncicgfbnjneeaa", sum := "828efc07f6499e1013f89bad0b9155c9b2e9df7988885d372eb94f93ff4ff686", func := "footlocker/footlockerlaw10.CanonSums", spec := "canonSums", unfollowed := true, recurses := true, apart := false, narrowed := true }
def CanonSumsUptoSaid : Prop := canonSumsUptoRow.holds Try.pinned (OpenSpec.upto canonSumsSpec)

/-- 'footlockerlaw10.CanonBack', WHERE WHAT IT READS IS OF BULK AT MOST 1048576: true; the input reads as it did. -/
def canonBackUptoRow : OpenClaim := { program := "ytncicgfbnjneeaa", sum := "828efc07f6499e1013f89bad0b9155c9b2e9df7988885d372eb94f93ff4ff686", func := "footlocker/footlockerlaw10.CanonBack", spec := "canonBack", unfollowed := true, recurses := true, apart := false, narrowed := true }
def CanonBackUptoSaid : Prop := canonBackUptoRow.holds Try.pinned (OpenSpec.upto canonBackSpec)

end Rows
end Go.Proofs.Ytncicgfbnjneeaa
