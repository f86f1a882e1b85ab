/-
  NARROWER THAN 'FOR EVERY INPUT', by the rows' own cells (each row's printed sentence says how): MatchExpands: laid · MatchFinds: laid · MatchRuns: laid · MatchSames: laid · MatchTwice: laid.
  DERIVED. THE GIVEN ROWS OF THIS SEAT. 5 by the template 'for every input the law returns true; each argument reads behind the call as it read before'; 0 by the template 'total and deterministic' (their statements: YtipeglbklhincaaDoorTotals.lean).
  GIVEN WITH THE SEED: the statements are not yours to turn. If you find one false, say at which input.
  Laid BY PROGRAM, IN A SANDBOX (cutbox-rows.mjs): the forced cells as the released guide's own fill.sh prints them over the translation eb63e1219b640de7… (all of the seat's roots in one cut). By AI agents, Wed Nov 11 2026. No macro, syntax, notation, axiom, sorry.
-/
import Derived.Test.YtipeglbklhincaaDoorChecked
import GoSem.Claim
import GoSem.ClaimJoined
import GoSem.ClaimMapViews
import Derived.JoinedTies
import Derived.KernelRfl
namespace Go.Proofs.YtipeglbklhincaaDoor
/- THE CELL 'sum', in the pinned program and in every row, IS THE sha256 OF THE DUMP (.gsa) THAT YtipeglbklhincaaDoorProg.lean LOADS. Nothing in Lean hashes anything: it is a label: what it is worth is what the hold of that sum in a sandbox is worth. -/
noncomputable def Tryd.pinned : Pinned := { name := "ytipeglbklhincaadoor", sum := "eb63e1219b640de7449dea47459fe56656bf5034fa71f7a732086bd20efd4f22", checked := Tryd.checked }
namespace Rows
def none {H : Type} : Left H := { results := [], args := [] }

/- WHAT THE LISTED PACKAGE-LEVEL VARIABLES READ AS WHEN THE CALL BEGINS. Each datum BY PROGRAM (the guide's laid-datum.mjs) off the statement by which the dump's own 'gosem.cut.vars' lays the variable. In a bare row this is a premise. The card (YtipeglbklhincaaDoorCards.lean) ties it to the program's text. -/
def laid_footlocker_match_chains {H : Type} : DataW H := .agg [.lit (.int .i64 0), .lit (.int .i64 1), .lit (.int .i64 4), .lit (.int .i64 8), .lit (.int .i64 16), .lit (.int .i64 32), .lit (.int .i64 64), .lit (.int .i64 128), .lit (.int .i64 256), .lit (.int .i64 1024)]

/-- 'footlockerlaw13.MatchExpands': WHATEVER THE INPUT: true; the input reads as it did. -/
def matchExpandsSpec : ChangeSpec := { name := "matchExpands", fn := fun _ => fun
  | [d1, d2, d3, d4, d5] => { results := [.lit (.bool true)], args := [d1, d2, d3, d4, d5] }
  | _ => none }
def matchExpandsRow : OpenClaim := { program := "ytipeglbklhincaadoor", sum := "eb63e1219b640de7449dea47459fe56656bf5034fa71f7a732086bd20efd4f22", func := "footlocker/footlockerlaw13.MatchExpands", spec := "matchExpands", named := ["footlocker/match.chains"], apart := false, laid := [("footlocker/match.chains", laid_footlocker_match_chains)] }
def MatchExpandsSaid : Prop := matchExpandsRow.holds Tryd.pinned (OpenSpec.ofChange matchExpandsSpec)

/-- ITS FALSE NEIGHBOUR: 'it returns false'. Refute it at one input. -/
def matchExpandsWrong : ChangeSpec := { name := "matchExpands", fn := fun _ => fun
  | [d1, d2, d3, d4, d5] => { results := [.lit (.bool false)], args := [d1, d2, d3, d4, d5] }
  | _ => none }
def MatchExpandsWrongFalsely : Prop := matchExpandsRow.holds Tryd.pinned (OpenSpec.ofChange matchExpandsWrong)

/-- 'footlockerlaw13.MatchFinds': WHATEVER THE INPUT: true; the input reads as it did. -/
def matchFindsSpec : ChangeSpec := { name := "matchFinds", fn := fun _ => fun
  | [d1, d2] => { results := [.lit (.bool true)], args := [d1, d2] }
  | _ => none }
def matchFindsRow : OpenClaim := { program := "ytipeglbklhincaadoor", sum := "eb63e1219b640de7449dea47459fe56656bf5034fa71f7a732086bd20efd4f22", func := "footlocker/footlockerlaw13.MatchFinds", spec := "matchFinds", named := ["footlocker/match.chains"], apart := false, laid := [("footlocker/match.chains", laid_footlocker_match_chains)] }
def MatchFindsSaid : Prop := matchFindsRow.holds Tryd.pinned (OpenSpec.ofChange matchFindsSpec)

/-- ITS FALSE NEIGHBOUR: 'it returns false'. Refute it at one input. -/
def matchFindsWrong : ChangeSpec := { name := "matchFinds", fn := fun _ => fun
  | [d1, d2] => { results := [.lit (.bool false)], args := [d1, d2] }
  | _ => none }
def MatchFindsWrongFalsely : Prop := matchFindsRow.holds Tryd.pinned (OpenSpec.ofChange matchFindsWrong)

/-- 'footlockerlaw13.MatchRuns': WHATEVER THE INPUT: true; the input reads as it did. -/
def matchRunsSpec : ChangeSpec := { name := "matchRuns", fn := fun _ => fun
  | [d1, d2, d3] => { results := [.lit (.bool true)], args := [d1, d2, d3] }
  | _ => none }
def matchRunsRow : OpenClaim := { program := "ytipeglbklhincaadoor", sum := "eb63e1219b640de7449dea47459fe56656bf5034fa71f7a732086bd20efd4f22", func := "footlocker/footlockerlaw13.MatchRuns", spec := "matchRuns", named := ["footlocker/match.chains"], apart := false, laid := [("footlocker/match.chains", laid_footlocker_match_chains)] }
def MatchRunsSaid : Prop := matchRunsRow.holds Tryd.pinned (OpenSpec.ofChange matchRunsSpec)

/-- ITS FALSE NEIGHBOUR: 'it returns false'. Refute it at one input. -/
def matchRunsWrong : ChangeSpec := { name := "matchRuns", fn := fun _ => fun
  | [d1, d2, d3] => { results := [.lit (.bool false)], args := [d1, d2, d3] }
  | _ => none }
def MatchRunsWrongFalsely : Prop := matchRunsRow.holds Tryd.pinned (OpenSpec.ofChange matchRunsWrong)

/-- 'footlockerlaw13.MatchSames': WHATEVER THE INPUT: true; the input reads as it did. -/
def matchSamesSpec : ChangeSpec := { name := "matchSames", fn := fun _ => fun
  | [d1, d2, d3] => { results := [.lit (.bool true)], args := [d1, d2, d3] }
  | _ => none }
def matchSamesRow : OpenClaim := { program := "ytipeglbklhincaadoor", sum := "eb63e1219b640de7449dea47459fe56656bf5034fa71f7a732086bd20efd4f22", func := "footlocker/footlockerlaw13.MatchSames", spec := "matchSames", named := ["footlocker/match.chains"], apart := false, laid := [("footlocker/match.chains", laid_footlocker_match_chains)] }
def MatchSamesSaid : Prop := matchSamesRow.holds Tryd.pinned (OpenSpec.ofChange matchSamesSpec)

/-- ITS FALSE NEIGHBOUR: 'it returns false'. Refute it at one input. -/
def matchSamesWrong : ChangeSpec := { name := "matchSames", fn := fun _ => fun
  | [d1, d2, d3] => { results := [.lit (.bool false)], args := [d1, d2, d3] }
  | _ => none }
def MatchSamesWrongFalsely : Prop := matchSamesRow.holds Tryd.pinned (OpenSpec.ofChange matchSamesWrong)

/-- 'footlockerlaw13.MatchTwice': WHATEVER THE INPUT: true; the input reads as it did. -/
def matchTwiceSpec : ChangeSpec := { name := "matchTwice", fn := fun _ => fun
  | [d] => { results := [.lit (.bool true)], args := [d] }
  | _ => none }
def matchTwiceRow : OpenClaim := { program := "ytipeglbklhincaadoor", sum := "eb63e1219b640de7449dea47459fe56656bf5034fa71f7a732086bd20efd4f22", func := "footlocker/footlockerlaw13.MatchTwice", spec := "matchTwice", named := ["footlocker/match.chains"], apart := false, laid := [("footlocker/match.chains", laid_footlocker_match_chains)] }
def MatchTwiceSaid : Prop := matchTwiceRow.holds Tryd.pinned (OpenSpec.ofChange matchTwiceSpec)

/-- ITS FALSE NEIGHBOUR: 'it returns false'. Refute it at one input. -/
def matchTwiceWrong : ChangeSpec := { name := "matchTwice", fn := fun _ => fun
  | [d] => { results := [.lit (.bool false)], args := [d] }
  | _ => none }
def MatchTwiceWrongFalsely : Prop := matchTwiceRow.holds Tryd.pinned (OpenSpec.ofChange matchTwiceWrong)

/- THE SECOND FORM. 'bulk': how many values and letters a reading holds, each counted each time it is reached (what is shared counts as often as it is met; a slice's spare places count too). A statement '..UptoSaid' is the law's where the arguments, and the package variables that the reading takes, are together of bulk at most 1048576: NARROWER than '..Said'. Prove '..Said' where nothing that the law and all that it calls make is longer than what came in: it says more and counts as full. Else prove '..UptoSaid'. A law counts once. -/
mutual
def uptoBulk {H : Type} : DataW H → Nat
  | .lit (.string bytes) => bytes.length + 1
  | .lit _ => 1
  | .nil => 1
  | .ptr d => uptoBulk d + 1
  | .slice elems spare => uptoBulkAll elems + uptoBulkAll spare + 1
  | .agg parts => uptoBulkAll parts + 1
  | .iface _ d => uptoBulk d + 1
  | .map entries => uptoBulkEntries entries + 1
  | .held _ => 1
def uptoBulkAll {H : Type} : List (DataW H) → Nat
  | [] => 0
  | d :: r => uptoBulk d + uptoBulkAll r
def uptoBulkEntries {H : Type} : List (Lit × DataW H) → Nat
  | [] => 0
  | x :: r => uptoBulkEntry x + uptoBulkEntries r
def uptoBulkEntry {H : Type} : Lit × DataW H → Nat
  | (.string bytes, d) => bytes.length + uptoBulk d + 1
  | (_, d) => uptoBulk d + 1
 end
def uptoSmall : (H : Type) → List (DataW H) → Bool := fun _ ds => decide (uptoBulkAll ds ≤ 1048576)
def OpenSpec.upto (s : _root_.Go.ChangeSpec) : _root_.Go.OpenSpec := { _root_.Go.OpenSpec.ofChange s with cond := some uptoSmall }

/-- 'footlockerlaw13.MatchExpands', WHERE WHAT IT READS IS OF BULK AT MOST 1048576: true; the input reads as it did. -/
def matchExpandsUptoRow : OpenClaim := { program := "ytipeglbklhincaadoor", sum := "eb63e1219b640de7449dea47459fe56656bf5034fa71f7a732086bd20efd4f22", func := "footlocker/footlockerlaw13.MatchExpands", spec := "matchExpands", named := ["footlocker/match.chains"], apart := false, laid := [("footlocker/match.chains", laid_footlocker_match_chains)], narrowed := true }
def MatchExpandsUptoSaid : Prop := matchExpandsUptoRow.holds Tryd.pinned (OpenSpec.upto matchExpandsSpec)

/-- 'footlockerlaw13.MatchFinds', WHERE WHAT IT READS IS OF BULK AT MOST 1048576: true; the input reads as it did. -/
def matchFindsUptoRow : OpenClaim := { program := "ytipeglbklhincaadoor", sum := "eb63e1219b640de7449dea47459fe56656bf5034fa71f7a732086bd20efd4f22", func := "footlocker/footlockerlaw13.MatchFinds", spec := "matchFinds", named := ["footlocker/match.chains"], apart := false, laid := [("footlocker/match.chains", laid_footlocker_match_chains)], narrowed := true }
def MatchFindsUptoSaid : Prop := matchFindsUptoRow.holds Tryd.pinned (OpenSpec.upto matchFindsSpec)

/-- 'footlockerlaw13.MatchRuns', WHERE WHAT IT READS IS OF BULK AT MOST 1048576: true; the input reads as it did. -/
def matchRunsUptoRow : OpenClaim := { program := "ytipeglbklhincaadoor", sum := "eb63e1219b640de7449dea47459fe56656bf5034fa71f7a732086bd20efd4f22", func := "footlocker/footlockerlaw13.MatchRuns", spec := "matchRuns", named := ["footlocker/match.chains"], apart := false, laid := [("footlocker/match.chains", laid_footlocker_match_chains)], narrowed := true }
def MatchRunsUptoSaid : Prop := matchRunsUptoRow.holds Tryd.pinned (OpenSpec.upto matchRunsSpec)

/-- 'footlockerlaw13.MatchSames', WHERE WHAT IT READS IS OF BULK AT MOST 1048576: true; the input reads as it did. -/
def matchSamesUptoRow : OpenClaim := { program := "ytipeglbklhincaadoor", sum := "eb63e1219b640de7449dea47459fe56656bf5034fa71f7a732086bd20efd4f22", func := "footlocker/footlockerlaw13.MatchSames", spec := "matchSames", named := ["footlocker/match.chains"], apart := false, laid := [("footlocker/match.chains", laid_footlocker_match_chains)], narrowed := true }
def MatchSamesUptoSaid : Prop := matchSamesUptoRow.holds Tryd.pinned (OpenSpec.upto matchSamesSpec)

/-- 'footlockerlaw13.MatchTwice', WHERE WHAT IT READS IS OF BULK AT MOST 1048576: true; the input reads as it did. -/
def matchTwiceUptoRow : OpenClaim := { program := "ytipeglbklhincaadoor", sum := "eb63e1219b640de7449dea47459fe56656bf5034fa71f7a732086bd20efd4f22", func := "footlocker/footlockerlaw13.MatchTwice", spec := "matchTwice", named := ["footlocker/match.chains"], apart := false, laid := [("footlocker/match.chains", laid_footlocker_match_chains)], narrowed := true }
def MatchTwiceUptoSaid : Prop := matchTwiceUptoRow.holds Tryd.pinned (OpenSpec.upto matchTwiceSpec)

end Rows
end Go.Proofs.YtipeglbklhincaaDoor
