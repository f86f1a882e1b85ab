/-
  NARROWER THAN 'FOR EVERY INPUT', by the rows' own cells (each row's printed sentence says how): StampPacks: laid · StampOrders: laid · StampDays: laid · StampSorts: laid.
  DERIVED. THE GIVEN ROWS OF THIS SEAT. 4 by the template 'for every input the law returns true; each argument reads behind the call as it read before'; 0 by the template 'total and deterministic' (their statements: YtcmlfpfbbopclaaDoorTotals.lean).
  GIVEN WITH THE SEED: the statements are not yours to turn. If you find one false, say at which input.
  Laid BY PROGRAM, IN A SANDBOX (cutbox-rows.mjs): the forced cells as the released guide's own fill.sh prints them over the translation 1436e2de9fdedc17… (all of the seat's roots in one cut). By AI agents, Wed Nov 11 2026. No macro, syntax, notation, axiom, sorry.
-/
import Derived.Test.YtcmlfpfbbopclaaDoorChecked
import GoSem.Claim
import GoSem.ClaimJoined
import GoSem.ClaimMapViews
import Derived.JoinedTies
import Derived.KernelRfl
namespace Go.Proofs.YtcmlfpfbbopclaaDoor
/- THE CELL 'sum', in the pinned program and in every row, IS THE sha256 OF THE DUMP (.gsa) THAT YtcmlfpfbbopclaaDoorProg.lean LOADS. Nothing in Lean hashes anything: it is a label: what it is worth is what the hold of that sum in a sandbox is worth. -/
noncomputable def Tryd.pinned : Pinned := { name := "ytcmlfpfbbopclaadoor", sum := "1436e2de9fdedc1771813b0127a0fdb433dbb3c29c41be7d7cb1530cfc178b1d", checked := Tryd.checked }
namespace Rows
def none {H : Type} : Left H := { results := [], args := [] }

/- WHAT THE LISTED PACKAGE-LEVEL VARIABLES READ AS WHEN THE CALL BEGINS. Each datum BY PROGRAM (the guide's laid-datum.mjs) off the statement by which the dump's own 'gosem.cut.vars' lays the variable. In a bare row this is a premise. The card (YtcmlfpfbbopclaaDoorCards.lean) ties it to the program's text. -/
def laid_footlocker_stamp_days {H : Type} : DataW H := .agg [.lit (.int .i64 0), .lit (.int .i64 31), .lit (.int .i64 28), .lit (.int .i64 31), .lit (.int .i64 30), .lit (.int .i64 31), .lit (.int .i64 30), .lit (.int .i64 31), .lit (.int .i64 31), .lit (.int .i64 30), .lit (.int .i64 31), .lit (.int .i64 30), .lit (.int .i64 31)]

/-- 'footlockerlaw17.StampPacks': WHATEVER THE INPUT: true; the input reads as it did. -/
def stampPacksSpec : ChangeSpec := { name := "stampPacks", fn := fun _ => fun
  | [d1, d2, d3] => { results := [.lit (.bool true)], args := [d1, d2, d3] }
  | _ => none }
def stampPacksRow : OpenClaim := { program := "ytcmlfpfbbopclaadoor", sum := "1436e2de9fdedc1771813b0127a0fdb433dbb3c29c41be7d7cb1530cfc178b1d", func := "footlocker/footlockerlaw17.StampPacks", spec := "stampPacks", named := ["footlocker/stamp.days"], apart := false, laid := [("footlocker/stamp.days", laid_footlocker_stamp_days)] }
def StampPacksSaid : Prop := stampPacksRow.holds Tryd.pinned (OpenSpec.ofChange stampPacksSpec)

/-- ITS FALSE NEIGHBOUR: 'it returns false'. Refute it at one input. -/
def stampPacksWrong : ChangeSpec := { name := "stampPacks", fn := fun _ => fun
  | [d1, d2, d3] => { results := [.lit (.bool false)], args := [d1, d2, d3] }
  | _ => none }
def StampPacksWrongFalsely : Prop := stampPacksRow.holds Tryd.pinned (OpenSpec.ofChange stampPacksWrong)

/-- 'footlockerlaw17.StampOrders': WHATEVER THE INPUT: true; the input reads as it did. -/
def stampOrdersSpec : ChangeSpec := { name := "stampOrders", fn := fun _ => fun
  | [d1, d2, d3, d4] => { results := [.lit (.bool true)], args := [d1, d2, d3, d4] }
  | _ => none }
def stampOrdersRow : OpenClaim := { program := "ytcmlfpfbbopclaadoor", sum := "1436e2de9fdedc1771813b0127a0fdb433dbb3c29c41be7d7cb1530cfc178b1d", func := "footlocker/footlockerlaw17.StampOrders", spec := "stampOrders", named := ["footlocker/stamp.days"], apart := false, laid := [("footlocker/stamp.days", laid_footlocker_stamp_days)] }
def StampOrdersSaid : Prop := stampOrdersRow.holds Tryd.pinned (OpenSpec.ofChange stampOrdersSpec)

/-- ITS FALSE NEIGHBOUR: 'it returns false'. Refute it at one input. -/
def stampOrdersWrong : ChangeSpec := { name := "stampOrders", fn := fun _ => fun
  | [d1, d2, d3, d4] => { results := [.lit (.bool false)], args := [d1, d2, d3, d4] }
  | _ => none }
def StampOrdersWrongFalsely : Prop := stampOrdersRow.holds Tryd.pinned (OpenSpec.ofChange stampOrdersWrong)

/-- 'footlockerlaw17.StampDays': WHATEVER THE INPUT: true; the input reads as it did. -/
def stampDaysSpec : ChangeSpec := { name := "stampDays", fn := fun _ => fun
  | [d] => { results := [.lit (.bool true)], args := [d] }
  | _ => none }
def stampDaysRow : OpenClaim := { program := "ytcmlfpfbbopclaadoor", sum := "1436e2de9fdedc1771813b0127a0fdb433dbb3c29c41be7d7cb1530cfc178b1d", func := "footlocker/footlockerlaw17.StampDays", spec := "stampDays", named := ["footlocker/stamp.days"], apart := false, laid := [("footlocker/stamp.days", laid_footlocker_stamp_days)] }
def StampDaysSaid : Prop := stampDaysRow.holds Tryd.pinned (OpenSpec.ofChange stampDaysSpec)

/-- ITS FALSE NEIGHBOUR: 'it returns false'. Refute it at one input. -/
def stampDaysWrong : ChangeSpec := { name := "stampDays", fn := fun _ => fun
  | [d] => { results := [.lit (.bool false)], args := [d] }
  | _ => none }
def StampDaysWrongFalsely : Prop := stampDaysRow.holds Tryd.pinned (OpenSpec.ofChange stampDaysWrong)

/-- 'footlockerlaw17.StampSorts': WHATEVER THE INPUT: true; the input reads as it did. -/
def stampSortsSpec : ChangeSpec := { name := "stampSorts", fn := fun _ => fun
  | [d1, d2, d3] => { results := [.lit (.bool true)], args := [d1, d2, d3] }
  | _ => none }
def stampSortsRow : OpenClaim := { program := "ytcmlfpfbbopclaadoor", sum := "1436e2de9fdedc1771813b0127a0fdb433dbb3c29c41be7d7cb1530cfc178b1d", func := "footlocker/footlockerlaw17.StampSorts", spec := "stampSorts", named := ["footlocker/stamp.days"], apart := false, laid := [("footlocker/stamp.days", laid_footlocker_stamp_days)] }
def StampSortsSaid : Prop := stampSortsRow.holds Tryd.pinned (OpenSpec.ofChange stampSortsSpec)

/-- ITS FALSE NEIGHBOUR: 'it returns false'. Refute it at one input. -/
def stampSortsWrong : ChangeSpec := { name := "stampSorts", fn := fun _ => fun
  | [d1, d2, d3] => { results := [.lit (.bool false)], args := [d1, d2, d3] }
  | _ => none }
def StampSortsWrongFalsely : Prop := stampSortsRow.holds Tryd.pinned (OpenSpec.ofChange stampSortsWrong)

/- THE SECOND FORM. 'bulk': how many values and letters a reading holds, each counted each time it is reached (what is shared counts as often as it is met; a slice's spare places count too). A statement '..UptoSaid' is the law's where the arguments, and the package variables that the reading takes, are together of bulk at most 1048576: NARROWER than '..Said'. Prove '..Said' where nothing that the law and all that it calls make is longer than what came in: it says more and counts as full. Else prove '..UptoSaid'. A law counts once. -/
mutual
def uptoBulk {H : Type} : DataW H → Nat
  | .lit (.string bytes) => bytes.length + 1
  | .lit _ => 1
  | .nil => 1
  | .ptr d => uptoBulk d + 1
  | .slice elems spare => uptoBulkAll elems + uptoBulkAll spare + 1
  | .agg parts => uptoBulkAll parts + 1
  | .iface _ d => uptoBulk d + 1
  | .map entries => uptoBulkEntries entries + 1
  | .held _ => 1
def uptoBulkAll {H : Type} : List (DataW H) → Nat
  | [] => 0
  | d :: r => uptoBulk d + uptoBulkAll r
def uptoBulkEntries {H : Type} : List (Lit × DataW H) → Nat
  | [] => 0
  | x :: r => uptoBulkEntry x + uptoBulkEntries r
def uptoBulkEntry {H : Type} : Lit × DataW H → Nat
  | (.string bytes, d) => bytes.length + uptoBulk d + 1
  | (_, d) => uptoBulk d + 1
 end
def uptoSmall : (H : Type) → List (DataW H) → Bool := fun _ ds => decide (uptoBulkAll ds ≤ 1048576)
def OpenSpec.upto (s : _root_.Go.ChangeSpec) : _root_.Go.OpenSpec := { _root_.Go.OpenSpec.ofChange s with cond := some uptoSmall }

/-- 'footlockerlaw17.StampPacks', WHERE WHAT IT READS IS OF BULK AT MOST 1048576: true; the input reads as it did. -/
def stampPacksUptoRow : OpenClaim := { program := "ytcmlfpfbbopclaadoor", sum := "1436e2de9fdedc1771813b0127a0fdb433dbb3c29c41be7d7cb1530cfc178b1d", func := "footlocker/footlockerlaw17.StampPacks", spec := "stampPacks", named := ["footlocker/stamp.days"], apart := false, laid := [("footlocker/stamp.days", laid_footlocker_stamp_days)], narrowed := true }
def StampPacksUptoSaid : Prop := stampPacksUptoRow.holds Tryd.pinned (OpenSpec.upto stampPacksSpec)

/-- 'footlockerlaw17.StampOrders', WHERE WHAT IT READS IS OF BULK AT MOST 1048576: true; the input reads as it did. -/
def stampOrdersUptoRow : OpenClaim := { program := "ytcmlfpfbbopclaadoor", sum := "1436e2de9fdedc1771813b0127a0fdb433dbb3c29c41be7d7cb1530cfc178b1d", func := "footlocker/footlockerlaw17.StampOrders", spec := "stampOrders", named := ["footlocker/stamp.days"], apart := false, laid := [("footlocker/stamp.days", laid_footlocker_stamp_days)], narrowed := true }
def StampOrdersUptoSaid : Prop := stampOrdersUptoRow.holds Tryd.pinned (OpenSpec.upto stampOrdersSpec)

/-- 'footlockerlaw17.StampDays', WHERE WHAT IT READS IS OF BULK AT MOST 1048576: true; the input reads as it did. -/
def stampDaysUptoRow : OpenClaim := { program := "ytcmlfpfbbopclaadoor", sum := "1436e2de9fdedc1771813b0127a0fdb433dbb3c29c41be7d7cb1530cfc178b1d", func := "footlocker/footlockerlaw17.StampDays", spec := "stampDays", named := ["footlocker/stamp.days"], apart := false, laid := [("footlocker/stamp.days", laid_footlocker_stamp_days)], narrowed := true }
def StampDaysUptoSaid : Prop := stampDaysUptoRow.holds Tryd.pinned (OpenSpec.upto stampDaysSpec)

/-- 'footlockerlaw17.StampSorts', WHERE WHAT IT READS IS OF BULK AT MOST 1048576: true; the input reads as it did. -/
def stampSortsUptoRow : OpenClaim := { program := "ytcmlfpfbbopclaadoor", sum := "1436e2de9fdedc1771813b0127a0fdb433dbb3c29c41be7d7cb1530cfc178b1d", func := "footlocker/footlockerlaw17.StampSorts", spec := "stampSorts", named := ["footlocker/stamp.days"], apart := false, laid := [("footlocker/stamp.days", laid_footlocker_stamp_days)], narrowed := true }
def StampSortsUptoSaid : Prop := stampSortsUptoRow.holds Tryd.pinned (OpenSpec.upto stampSortsSpec)

end Rows
end Go.Proofs.YtcmlfpfbbopclaaDoor
