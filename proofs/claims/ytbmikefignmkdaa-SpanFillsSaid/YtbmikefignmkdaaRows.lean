/-
  No cell of these rows narrows 'for every input' (looked for: loops, veiled, ifaces, maps, wideKeys, modest, calm, conditions, laid).
  DERIVED. THE GIVEN ROWS OF THIS SEAT. 4 by the template 'for every input the law returns true; each argument reads behind the call as it read before'; 0 by the template 'total and deterministic' (their statements: YtbmikefignmkdaaTotals.lean).
  GIVEN WITH THE SEED: the statements are not yours to turn. If you find one false, say at which input.
  Laid BY PROGRAM, IN A SANDBOX (cutbox-rows.mjs): the forced cells as the released guide's own fill.sh prints them over the translation 16544972142601e2… (all of the seat's roots in one cut). By AI agents, Wed Nov 11 2026. No macro, syntax, notation, axiom, sorry.
-/
import Derived.Test.YtbmikefignmkdaaChecked
import GoSem.Claim
import GoSem.ClaimJoined
import GoSem.ClaimMapViews
import Derived.JoinedTies
import Derived.KernelRfl
namespace Go.Proofs.Ytbmikefignmkdaa
/- THE CELL 'sum', in the pinned program and in every row, IS THE sha256 OF THE DUMP (.gsa) THAT YtbmikefignmkdaaProg.lean LOADS. Nothing in Lean hashes anything: it is a label: what it is worth is what the hold of that sum in a sandbox is worth. -/
noncomputable def Try.pinned : Pinned := { name := "ytbmikefignmkdaa", sum := "16544972142601e2451e1b2d9d5f4451a8ac287b48b02506986eb9a0137a160d", checked := Try.checked }
namespace Rows
def none {H : Type} : Left H := { results := [], args := [] }

/-- 'footlockerlaw22.SpanPlays': WHATEVER THE INPUT: true; the input reads as it did. -/
def spanPlaysSpec : ChangeSpec := { name := "spanPlays", fn := fun _ => fun
  | [d1, d2, d3] => { results := [.lit (.bool true)], args := [d1, d2, d3] }
  | _ => none }
def spanPlaysRow : OpenClaim := { program := "ytbmikefignmkdaa", sum := "16544972142601e2451e1b2d9d5f4451a8ac287b48b02506986eb9a0137a160d", func := "footlocker/footlockerlaw22.SpanPlays", spec := "spanPlays", apart := false }
def SpanPlaysSaid : Prop := spanPlaysRow.holds Try.pinned (OpenSpec.ofChange spanPlaysSpec)

/-- ITS FALSE NEIGHBOUR: 'it returns false'. Refute it at one input. -/
def spanPlaysWrong : ChangeSpec := { name := "spanPlays", fn := fun _ => fun
  | [d1, d2, d3] => { results := [.lit (.bool false)], args := [d1, d2, d3] }
  | _ => none }
def SpanPlaysWrongFalsely : Prop := spanPlaysRow.holds Try.pinned (OpenSpec.ofChange spanPlaysWrong)

/-- 'footlockerlaw22.SpanFills': WHATEVER THE INPUT: true; the input reads as it did. -/
def spanFillsSpec : ChangeSpec := { name := "spanFills", fn := fun _ => fun
  | [d1, d2] => { results := [.lit (.bool true)], args := [d1, d2] }
  | _ => none }
def spanFillsRow : OpenClaim := { program := "ytbmikefignmkdaa", sum := "16544972142601e2451e1b2d9d5f4451a8ac287b48b02506986eb9a0137a160d", func := "footlocker/footlockerlaw22.SpanFills", spec := "spanFills", apart := false }
def SpanFillsSaid : Prop := spanFillsRow.holds Try.pinned (OpenSpec.ofChange spanFillsSpec)

/-- ITS FALSE NEIGHBOUR: 'it returns false'. Refute it at one input. -/
def spanFillsWrong : ChangeSpec := { name := "spanFills", fn := fun _ => fun
  | [d1, d2] => { results := [.lit (.bool false)], args := [d1, d2] }
  | _ => none }
def SpanFillsWrongFalsely : Prop := spanFillsRow.holds Try.pinned (OpenSpec.ofChange spanFillsWrong)

/-- 'footlockerlaw22.SpanNexts': WHATEVER THE INPUT: true; the input reads as it did. -/
def spanNextsSpec : ChangeSpec := { name := "spanNexts", fn := fun _ => fun
  | [d1, d2] => { results := [.lit (.bool true)], args := [d1, d2] }
  | _ => none }
def spanNextsRow : OpenClaim := { program := "ytbmikefignmkdaa", sum := "16544972142601e2451e1b2d9d5f4451a8ac287b48b02506986eb9a0137a160d", func := "footlocker/footlockerlaw22.SpanNexts", spec := "spanNexts", apart := false }
def SpanNextsSaid : Prop := spanNextsRow.holds Try.pinned (OpenSpec.ofChange spanNextsSpec)

/-- ITS FALSE NEIGHBOUR: 'it returns false'. Refute it at one input. -/
def spanNextsWrong : ChangeSpec := { name := "spanNexts", fn := fun _ => fun
  | [d1, d2] => { results := [.lit (.bool false)], args := [d1, d2] }
  | _ => none }
def SpanNextsWrongFalsely : Prop := spanNextsRow.holds Try.pinned (OpenSpec.ofChange spanNextsWrong)

/-- 'footlockerlaw22.SpanGoes': WHATEVER THE INPUT: true; the input reads as it did. -/
def spanGoesSpec : ChangeSpec := { name := "spanGoes", fn := fun _ => fun
  | [d1, d2, d3] => { results := [.lit (.bool true)], args := [d1, d2, d3] }
  | _ => none }
def spanGoesRow : OpenClaim := { program := "ytbmikefignmkdaa", sum := "16544972142601e2451e1b2d9d5f4451a8ac287b48b02506986eb9a0137a160d", func := "footlocker/footlockerlaw22.SpanGoes", spec := "spanGoes", unfollowed := true, recurses := true, apart := false }
def SpanGoesSaid : Prop := spanGoesRow.holds Try.pinned (OpenSpec.ofChange spanGoesSpec)

/-- ITS FALSE NEIGHBOUR: 'it returns false'. Refute it at one input. -/
def spanGoesWrong : ChangeSpec := { name := "spanGoes", fn := fun _ => fun
  | [d1, d2, d3] => { results := [.lit (.bool false)], args := [d1, d2, d3] }
  | _ => none }
def SpanGoesWrongFalsely : Prop := spanGoesRow.holds Try.pinned (OpenSpec.ofChange spanGoesWrong)

/- THE SECOND FORM. 'bulk': how many values and letters a reading holds, each counted each time it is reached (what is shared counts as often as it is met; a slice's spare places count too). A statement '..UptoSaid' is the law's where the arguments, and the package variables that the reading takes, are together of bulk at most 1048576: NARROWER than '..Said'. Prove '..Said' where nothing that the law and all that it calls make is longer than what came in: it says more and counts as full. Else prove '..UptoSaid'. A law counts once. -/
mutual
def uptoBulk {H : Type} : DataW H → Nat
  | .lit (.string bytes) => bytes.length + 1
  | .lit _ => 1
  | .nil => 1
  | .ptr d => uptoBulk d + 1
  | .slice elems spare => uptoBulkAll elems + uptoBulkAll spare + 1
  | .agg parts => uptoBulkAll parts + 1
  | .iface _ d => uptoBulk d + 1
  | .map entries => uptoBulkEntries entries + 1
  | .held _ => 1
def uptoBulkAll {H : Type} : List (DataW H) → Nat
  | [] => 0
  | d :: r => uptoBulk d + uptoBulkAll r
def uptoBulkEntries {H : Type} : List (Lit × DataW H) → Nat
  | [] => 0
  | x :: r => uptoBulkEntry x + uptoBulkEntries r
def uptoBulkEntry {H : Type} : Lit × DataW H → Nat
  | (.string bytes, d) => bytes.length + uptoBulk d + 1
  | (_, d) => uptoBulk d + 1
 end
def uptoSmall : (H : Type) → List (DataW H) → Bool := fun _ ds => decide (uptoBulkAll ds ≤ 1048576)
def OpenSpec.upto (s : _root_.Go.ChangeSpec) : _root_.Go.OpenSpec := { _root_.Go.OpenSpec.ofChange s with cond := some uptoSmall }

/-- 'footlockerlaw22.SpanPlays', WHERE WHAT IT READS IS OF BULK AT MOST 1048576: true; the input reads as it did. -/
def spanPlaysUptoRow : OpenClaim := { program := "ytbmikefignmkdaa", sum := "16544972142601e2451e1b2d9d5f4451a8ac287b48b02506986eb9a0137a160d", func := "footlocker/footlockerlaw22.SpanPlays", spec := "spanPlays", apart := false, narrowed := true }
def SpanPlaysUptoSaid : Prop := spanPlaysUptoRow.holds Try.pinned (OpenSpec.upto spanPlaysSpec)

/-- 'footlockerlaw22.SpanFills', WHERE WHAT IT READS IS OF BULK AT MOST 1048576: true; the input reads as it did. -/
def spanFillsUptoRow : OpenClaim := { program := "ytbmikefignmkdaa", sum := "16544972142601e2451e1b2d9d5f4451a8ac287b48b02506986eb9a0137a160d", func := "footlocker/footlockerlaw22.SpanFills", spec := "spanFills", apart := false, narrowed := true }
def SpanFillsUptoSaid : Prop := spanFillsUptoRow.holds Try.pinned (OpenSpec.upto spanFillsSpec)

/-- 'footlockerlaw22.SpanNexts', WHERE WHAT IT READS IS OF BULK AT MOST 1048576: true; the input reads as it did. -/
def spanNextsUptoRow : OpenClaim := { program := "ytbmikefignmkdaa", sum := "16544972142601e2451e1b2d9d5f4451a8ac287b48b02506986eb9a0137a160d", func := "footlocker/footlockerlaw22.SpanNexts", spec := "spanNexts", apart := false, narrowed := true }
def SpanNextsUptoSaid : Prop := spanNextsUptoRow.holds Try.pinned (OpenSpec.upto spanNextsSpec)

/-- 'footlockerlaw22.SpanGoes', WHERE WHAT IT READS IS OF BULK AT MOST 1048576: true; the input reads as it did. -/
def spanGoesUptoRow : OpenClaim := { program := "ytbmikefignmkdaa", sum := "16544972142601e2451e1b2d9d5f4451a8ac287b48b02506986eb9a0137a160d", func := "footlocker/footlockerlaw22.SpanGoes", spec := "spanGoes", unfollowed := true, recurses := true, apart := false, narrowed := true }
def SpanGoesUptoSaid : Prop := spanGoesUptoRow.holds Try.pinned (OpenSpec.upto spanGoesSpec)

end Rows
end Go.Proofs.Ytbmikefignmkdaa
