-- Laid by myprint.py (a scratch copy of the print, with texts of my own in it). Not trusted: Lean checks it.
import Derived.Test.YtegnjcehklldpaaProg
import Derived.Below
import Derived.Deep.Draws
import Derived.Deep.AppendLies
import Derived.Maps.AppendAt
import Derived.OwnWalk
import Derived.Laws.BytesArg
import Derived.Laws.MakeOwn
import Derived.Laws.OwnMore
import Derived.Deep.OwnRows
import Derived.Tactics
import Derived.Lib.ConvBytes
import Derived.Laws.Slices
import Derived.WalkKit
import Derived.KernelRfl
import Derived.RowKit3
import Derived.Deep.LoopGhost
import Derived.Deep.QuietTactic
import Derived.BigQuiet
import Derived.WideLaws
import Derived.Deep.DeepCutAuto
import Derived.Deep.CutBlock
import Derived.Deep.RegionHeld3
import Derived.Laws.Rows
import Derived.Lib.AppendStr
import Derived.ArgAppend
import Derived.Laws.IdiomCopy
import Derived.OrdersHeld
import Derived.Laws.BitsLemmas
import Derived.RowKit
import Derived.Lib.SliceRun
import Derived.StillTailTactics
import Derived.Test.YtegnjcehklldpaaWWords
import Derived.Test.YtegnjcehklldpaaWLast
import Derived.Test.YtegnjcehklldpaaWTab
import Derived.Test.YtegnjcehklldpaaWFour
import Derived.Test.YtegnjcehklldpaaWQPut
import Derived.Test.YtegnjcehklldpaaWApart
import Derived.Test.YtegnjcehklldpaaWArr
import Derived.Test.YtegnjcehklldpaaWZeros
import Derived.Test.YtegnjcehklldpaaWFoot
import Derived.Test.YtegnjcehklldpaaWKept
import Derived.Test.YtegnjcehklldpaaWShare
import Derived.Test.YtegnjcehklldpaaWN
import Derived.Test.YtegnjcehklldpaaWFootNe
import Derived.Test.YtegnjcehklldpaaWAt
import Derived.Test.YtegnjcehklldpaaWEqStruct
import Derived.Test.YtegnjcehklldpaaWRepsOne
import Derived.Test.YtegnjcehklldpaaWInv
import Derived.Test.YtegnjcehklldpaaWInvWords
import Derived.Test.YtegnjcehklldpaaWGuard
import Derived.Test.YtegnjcehklldpaaWNEv
import Derived.Test.YtegnjcehklldpaaWMore
namespace Go.Proofs.Ytegnjcehklldpaa.Q
open Go.RowKit Go.Proofs.YtegnjcehklldpaaW.PrintWords Go.Proofs.YtegnjcehklldpaaW.PrintLast Go.Proofs.YtegnjcehklldpaaW.PrintMore
attribute [local go_sem] max2_int min2_int max_two min_two max_three min_three max_four min_four   -- for this text's walks alone
set_option linter.unusedVariables false
set_option linter.unusedSimpArgs false



def errW : Option Int → Value
  | none => .nilIface
  | some c => .iface 0 (.int .i64 c)
theorem errW_none : errW none = .nilIface := rfl
theorem errW_some (c : Int) : errW (some c) = .iface 0 (.int .i64 c) := rfl

theorem info5 : (Try.prog.info? 5).map (fun i => (i.zero, i.size, i.bytes)) = some (some (.int .u8 0), 1, 1) := by kernel_rfl
-- the values' own types

end Go.Proofs.Ytegnjcehklldpaa.Q
