/-
  No cell of these rows narrows 'for every input' (looked for: loops, veiled, ifaces, maps, wideKeys, modest, calm, conditions, laid).
  DERIVED. THE GIVEN ROWS OF THIS SEAT. 5 by the template 'for every input the law returns true; each argument reads behind the call as it read before'; 0 by the template 'total and deterministic' (their statements: YtcdjaihaalaepaaTotals.lean).
  GIVEN WITH THE SEED: the statements are not yours to turn. If you find one false, say at which input.
  Laid BY PROGRAM, IN A SANDBOX (cutbox-rows.mjs): the forced cells as the released guide's own fill.sh prints them over the translation c01f1eb66135601e… (all of the seat's roots in one cut). By AI agents, Wed Nov 11 2026. No macro, syntax, notation, axiom, sorry.
-/
import Derived.Test.YtcdjaihaalaepaaChecked
import GoSem.Claim
import GoSem.ClaimJoined
import GoSem.ClaimMapViews
import Derived.JoinedTies
import Derived.KernelRfl
namespace Go.Proofs.Ytcdjaihaalaepaa
/- THE CELL 'sum', in the pinned program and in every row, IS THE sha256 OF THE DUMP (.gsa) THAT YtcdjaihaalaepaaProg.lean LOADS. Nothing in Lean hashes anything: it is a label: what it is worth is what the hold of that sum in a sandbox is worth. -/
noncomputable def Try.pinned : Pinned := { name := "ytcdjaihaalaepaa", sum := "c01f1eb66135601ebff431db10cb4471755cc09453998abca714b76b7f857628", checked := Try.checked }
namespace Rows
def none {H : Type} : Left H := { results := [], args := [] }

/-- 'footlockerlaw20.TailWrites': WHATEVER THE INPUT: true; the input reads as it did. -/
def tailWritesSpec : ChangeSpec := { name := "tailWrites", fn := fun _ => fun
  | [d] => { results := [.lit (.bool true)], args := [d] }
  | _ => none }
def tailWritesRow : OpenClaim := { program := "ytcdjaihaalaepaa", sum := "c01f1eb66135601ebff431db10cb4471755cc09453998abca714b76b7f857628", func := "footlocker/footlockerlaw20.TailWrites", spec := "tailWrites", unfollowed := true, recurses := true, apart := false }
def TailWritesSaid : Prop := tailWritesRow.holds Try.pinned (OpenSpec.ofChange tailWritesSpec)

/-- ITS FALSE NEIGHBOUR: 'it returns false'. Refute it at one input. -/
def tailWritesWrong : ChangeSpec := { name := "tailWrites", fn := fun _ => fun
  | [d] => { results := [.lit (.bool false)], args := [d] }
  | _ => none }
def TailWritesWrongFalsely : Prop := tailWritesRow.holds Try.pinned (OpenSpec.ofChange tailWritesWrong)

/-- 'footlockerlaw20.TailParses': WHATEVER THE INPUT: true; the input reads as it did. -/
def tailParsesSpec : ChangeSpec := { name := "tailParses", fn := fun _ => fun
  | [d1, d2, d3] => { results := [.lit (.bool true)], args := [d1, d2, d3] }
  | _ => none }
def tailParsesRow : OpenClaim := { program := "ytcdjaihaalaepaa", sum := "c01f1eb66135601ebff431db10cb4471755cc09453998abca714b76b7f857628", func := "footlocker/footlockerlaw20.TailParses", spec := "tailParses", unfollowed := true, recurses := true, apart := false }
def TailParsesSaid : Prop := tailParsesRow.holds Try.pinned (OpenSpec.ofChange tailParsesSpec)

/-- ITS FALSE NEIGHBOUR: 'it returns false'. Refute it at one input. -/
def tailParsesWrong : ChangeSpec := { name := "tailParses", fn := fun _ => fun
  | [d1, d2, d3] => { results := [.lit (.bool false)], args := [d1, d2, d3] }
  | _ => none }
def TailParsesWrongFalsely : Prop := tailParsesRow.holds Try.pinned (OpenSpec.ofChange tailParsesWrong)

/-- 'footlockerlaw20.TailBack': WHATEVER THE INPUT: true; the input reads as it did. -/
def tailBackSpec : ChangeSpec := { name := "tailBack", fn := fun _ => fun
  | [d1, d2, d3, d4, d5] => { results := [.lit (.bool true)], args := [d1, d2, d3, d4, d5] }
  | _ => none }
def tailBackRow : OpenClaim := { program := "ytcdjaihaalaepaa", sum := "c01f1eb66135601ebff431db10cb4471755cc09453998abca714b76b7f857628", func := "footlocker/footlockerlaw20.TailBack", spec := "tailBack", unfollowed := true, recurses := true, apart := false }
def TailBackSaid : Prop := tailBackRow.holds Try.pinned (OpenSpec.ofChange tailBackSpec)

/-- ITS FALSE NEIGHBOUR: 'it returns false'. Refute it at one input. -/
def tailBackWrong : ChangeSpec := { name := "tailBack", fn := fun _ => fun
  | [d1, d2, d3, d4, d5] => { results := [.lit (.bool false)], args := [d1, d2, d3, d4, d5] }
  | _ => none }
def TailBackWrongFalsely : Prop := tailBackRow.holds Try.pinned (OpenSpec.ofChange tailBackWrong)

/-- 'footlockerlaw20.TailSmall': WHATEVER THE INPUT: true; the input reads as it did. -/
def tailSmallSpec : ChangeSpec := { name := "tailSmall", fn := fun _ => fun
  | [d] => { results := [.lit (.bool true)], args := [d] }
  | _ => none }
def tailSmallRow : OpenClaim := { program := "ytcdjaihaalaepaa", sum := "c01f1eb66135601ebff431db10cb4471755cc09453998abca714b76b7f857628", func := "footlocker/footlockerlaw20.TailSmall", spec := "tailSmall", unfollowed := true, recurses := true, apart := false }
def TailSmallSaid : Prop := tailSmallRow.holds Try.pinned (OpenSpec.ofChange tailSmallSpec)

/-- ITS FALSE NEIGHBOUR: 'it returns false'. Refute it at one input. -/
def tailSmallWrong : ChangeSpec := { name := "tailSmall", fn := fun _ => fun
  | [d] => { results := [.lit (.bool false)], args := [d] }
  | _ => none }
def TailSmallWrongFalsely : Prop := tailSmallRow.holds Try.pinned (OpenSpec.ofChange tailSmallWrong)

/-- 'footlockerlaw20.TailTurns': WHATEVER THE INPUT: true; the input reads as it did. -/
def tailTurnsSpec : ChangeSpec := { name := "tailTurns", fn := fun _ => fun
  | [d1, d2, d3, d4] => { results := [.lit (.bool true)], args := [d1, d2, d3, d4] }
  | _ => none }
def tailTurnsRow : OpenClaim := { program := "ytcdjaihaalaepaa", sum := "c01f1eb66135601ebff431db10cb4471755cc09453998abca714b76b7f857628", func := "footlocker/footlockerlaw20.TailTurns", spec := "tailTurns", unfollowed := true, recurses := true, apart := false }
def TailTurnsSaid : Prop := tailTurnsRow.holds Try.pinned (OpenSpec.ofChange tailTurnsSpec)

/-- ITS FALSE NEIGHBOUR: 'it returns false'. Refute it at one input. -/
def tailTurnsWrong : ChangeSpec := { name := "tailTurns", fn := fun _ => fun
  | [d1, d2, d3, d4] => { results := [.lit (.bool false)], args := [d1, d2, d3, d4] }
  | _ => none }
def TailTurnsWrongFalsely : Prop := tailTurnsRow.holds Try.pinned (OpenSpec.ofChange tailTurnsWrong)

/- THE SECOND FORM. 'bulk': how many values and letters a reading holds, each counted each time it is reached (what is shared counts as often as it is met; a slice's spare places count too). A statement '..UptoSaid' is the law's where the arguments, and the package variables that the reading takes, are together of bulk at most 1048576: NARROWER than '..Said'. Prove '..Said' where nothing that the law and all that it calls make is longer than what came in: it says more and counts as full. Else prove '..UptoSaid'. A law counts once. -/
mutual
def uptoBulk {H : Type} : DataW H → Nat
  | .lit (.string bytes) => bytes.length + 1
  | .lit _ => 1
  | .nil => 1
  | .ptr d => uptoBulk d + 1
  | .slice elems spare => uptoBulkAll elems + uptoBulkAll spare + 1
  | .agg parts => uptoBulkAll parts + 1
  | .iface _ d => uptoBulk d + 1
  | .map entries => uptoBulkEntries entries + 1
  | .held _ => 1
def uptoBulkAll {H : Type} : List (DataW H) → Nat
  | [] => 0
  | d :: r => uptoBulk d + uptoBulkAll r
def uptoBulkEntries {H : Type} : List (Lit × DataW H) → Nat
  | [] => 0
  | x :: r => uptoBulkEntry x + uptoBulkEntries r
def uptoBulkEntry {H : Type} : Lit × DataW H → Nat
  | (.string bytes, d) => bytes.length + uptoBulk d + 1
  | (_, d) => uptoBulk d + 1
 end
def uptoSmall : (H : Type) → List (DataW H) → Bool := fun _ ds => decide (uptoBulkAll ds ≤ 1048576)
def OpenSpec.upto (s : _root_.Go.ChangeSpec) : _root_.Go.OpenSpec := { _root_.Go.OpenSpec.ofChange s with cond := some uptoSmall }

/-- 'footlockerlaw20.TailWrites', WHERE WHAT IT READS IS OF BULK AT MOST 1048576: true; the input reads as it did. -/
def tailWritesUptoRow : OpenClaim := { program := "ytcdjaihaalaepaa", sum := "c01f1eb66135601ebff431db10cb4471755cc09453998abca714b76b7f857628", func := "footlocker/footlockerlaw20.TailWrites", spec := "tailWrites", unfollowed := true, recurses := true, apart := false, narrowed := true }
def TailWritesUptoSaid : Prop := tailWritesUptoRow.holds Try.pinned (OpenSpec.upto tailWritesSpec)

/-- 'footlockerlaw20.TailParses', WHERE WHAT IT READS IS OF BULK AT MOST 1048576: true; the input reads as it did. -/
def tailParsesUptoRow : OpenClaim := { program := "ytcdjaihaalaepaa", sum := "c01f1eb66135601ebff431db10cb4471755cc09453998abca714b76b7f857628", func := "footlocker/footlockerlaw20.TailParses", spec := "tailParses", unfollowed := true, recurses := true, apart := false, narrowed := true }
def TailParsesUptoSaid : Prop := tailParsesUptoRow.holds Try.pinned (OpenSpec.upto tailParsesSpec)

/-- 'footlockerlaw20.TailBack', WHERE WHAT IT READS IS OF BULK AT MOST 1048576: true; the input reads as it did. -/
def tailBackUptoRow : OpenClaim := { program := "ytcdjaihaalaepaa", sum := "c01f1eb66135601ebff431db10cb4471755cc09453998abca714b76b7f857628", func := "footlocker/footlockerlaw20.TailBack", spec := "tailBack", unfollowed := true, recurses := true, apart := false, narrowed := true }
def TailBackUptoSaid : Prop := tailBackUptoRow.holds Try.pinned (OpenSpec.upto tailBackSpec)

/-- 'footlockerlaw20.TailSmall', WHERE WHAT IT READS IS OF BULK AT MOST 1048576: true; the input reads as it did. -/
def tailSmallUptoRow : OpenClaim := { program := "ytcdjaihaalaepaa", sum := "c01f1eb66135601ebff431db10cb4471755cc09453998abca714b76b7f857628", func := "footlocker/footlockerlaw20.TailSmall", spec := "tailSmall", unfollowed := true, recurses := true, apart := false, narrowed := true }
def TailSmallUptoSaid : Prop := tailSmallUptoRow.holds Try.pinned (OpenSpec.upto tailSmallSpec)

/-- 'footlockerlaw20.TailTurns', WHERE WHAT IT READS IS OF BULK AT MOST 1048576: true; the input reads as it did. -/
def tailTurnsUptoRow : OpenClaim := { program := "ytcdjaihaalaepaa", sum := "c01f1eb66135601ebff431db10cb4471755cc09453998abca714b76b7f857628", func := "footlocker/footlockerlaw20.TailTurns", spec := "tailTurns", unfollowed := true, recurses := true, apart := false, narrowed := true }
def TailTurnsUptoSaid : Prop := tailTurnsUptoRow.holds Try.pinned (OpenSpec.upto tailTurnsSpec)

end Rows
end Go.Proofs.Ytcdjaihaalaepaa
