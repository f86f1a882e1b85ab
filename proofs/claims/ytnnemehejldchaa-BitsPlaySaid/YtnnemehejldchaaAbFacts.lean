-- Laid by facts.py: what the types of the seat are. Not trusted: Lean checks it.
import Derived.Test.YtnnemehejldchaaAbV7
import Derived.Test.YtnnemehejldchaaProg
import Derived.KernelRfl
set_option maxRecDepth 100000
namespace Go.Proofs.Ytnnemehejldchaa.Facts
open Go.RowKit Go.Proofs.AbM
theorem ag3 : isAggO Try.prog 3 = (some false) := by kernel_rfl
theorem sz3 : szO Try.prog 3 = (some 1) := by kernel_rfl
theorem zc3 : zcO Try.prog 3 = (some [(.sc (.int .i64 0))]) := by kernel_rfl
theorem ik3 : intK (Try.prog.underlying 3) = some .i64 := by kernel_rfl
theorem ag4 : isAggO Try.prog 4 = (some false) := by kernel_rfl
theorem sz4 : szO Try.prog 4 = (some 1) := by kernel_rfl
theorem zc4 : zcO Try.prog 4 = (some [(.sc (.bool false))]) := by kernel_rfl
theorem ub4 : Try.prog.underlying 4 = (some .bool) := by kernel_rfl
theorem ag5 : isAggO Try.prog 5 = (some false) := by kernel_rfl
theorem sz5 : szO Try.prog 5 = (some 1) := by kernel_rfl
theorem zc5 : zcO Try.prog 5 = (some [(.sc (.int .u8 0))]) := by kernel_rfl
theorem ik5 : intK (Try.prog.underlying 5) = some .u8 := by kernel_rfl
theorem ag9 : isAggO Try.prog 9 = (some false) := by kernel_rfl
theorem sz9 : szO Try.prog 9 = (some 1) := by kernel_rfl
theorem zc9 : zcO Try.prog 9 = (some [(.sc (.string ⟨#[]⟩))]) := by kernel_rfl
theorem ut9 : Try.prog.underlying 9 = (some .string) := by kernel_rfl
theorem iq9 : isStr (Try.prog.underlying 9) = true := by kernel_rfl
theorem ag22 : isAggO Try.prog 22 = (some false) := by kernel_rfl
theorem sz22 : szO Try.prog 22 = (some 1) := by kernel_rfl
theorem el22 : elS Try.prog 22 = (some 4) := by kernel_rfl
theorem ap22 : apO Try.prog 22 = (some (30, (4, 48))) := by kernel_rfl
theorem bs22 : bldS Try.prog 22 = (some (30, (4, [(.sc (.int .i64 0)), (.sc (.int .u32 0)), (.sc (.int .i64 0)), (.isl true 0 [])]))) := by kernel_rfl
theorem zc22 : zcO Try.prog 22 = (some [(.isl true 0 [])]) := by kernel_rfl
theorem us22 : Try.prog.underlying 22 = (some (.slice 30)) := by kernel_rfl
theorem is22 : isSl (Try.prog.underlying 22) = true := by kernel_rfl
theorem ag25 : isAggO Try.prog 25 = (some false) := by kernel_rfl
theorem sz25 : szO Try.prog 25 = (some 1) := by kernel_rfl
theorem el25 : elS Try.prog 25 = (some 1) := by kernel_rfl
theorem ap25 : apO Try.prog 25 = (some (5, (1, 1))) := by kernel_rfl
theorem mk25 : mkO Try.prog 25 = (some (5, (1, (.sc (.int .u8 0))))) := by kernel_rfl
theorem bs25 : bldS Try.prog 25 = (some (5, (1, [(.sc (.int .u8 0))]))) := by kernel_rfl
theorem zc25 : zcO Try.prog 25 = (some [(.isl true 0 [])]) := by kernel_rfl
theorem us25 : Try.prog.underlying 25 = (some (.slice 5)) := by kernel_rfl
theorem is25 : isSl (Try.prog.underlying 25) = true := by kernel_rfl
theorem ag27 : isAggO Try.prog 27 = (some true) := by kernel_rfl
theorem sz27 : szO Try.prog 27 = (some 2) := by kernel_rfl
theorem zc27 : zcO Try.prog 27 = (some [(.isl true 0 []), (.sc (.int .i64 0))]) := by kernel_rfl
theorem bo27 : bldO Try.prog 27 = (some ([(.isl true 0 []), (.sc (.int .i64 0))], [(0, 1), (1, 1)])) := by kernel_rfl
theorem ag28 : isAggO Try.prog 28 = (some false) := by kernel_rfl
theorem sz28 : szO Try.prog 28 = (some 1) := by kernel_rfl
theorem zc28 : zcO Try.prog 28 = (some [(.sc (.int .u32 0))]) := by kernel_rfl
theorem ik28 : intK (Try.prog.underlying 28) = some .u32 := by kernel_rfl
theorem ag30 : isAggO Try.prog 30 = (some true) := by kernel_rfl
theorem sz30 : szO Try.prog 30 = (some 4) := by kernel_rfl
theorem zc30 : zcO Try.prog 30 = (some [(.sc (.int .i64 0)), (.sc (.int .u32 0)), (.sc (.int .i64 0)), (.isl true 0 [])]) := by kernel_rfl
theorem bo30 : bldO Try.prog 30 = (some ([(.sc (.int .i64 0)), (.sc (.int .u32 0)), (.sc (.int .i64 0)), (.isl true 0 [])], [(0, 1), (1, 1), (2, 1), (3, 1)])) := by kernel_rfl
theorem ag32 : isAggO Try.prog 32 = (some false) := by kernel_rfl
theorem sz32 : szO Try.prog 32 = (some 1) := by kernel_rfl
theorem zc32 : zcO Try.prog 32 = (some [(.sc (.pointer none))]) := by kernel_rfl
theorem up32 : Try.prog.underlying 32 = (some (.pointer 54)) := by kernel_rfl
theorem pt32 : isPt (Try.prog.underlying 32) = true := by kernel_rfl
theorem ag49 : isAggO Try.prog 49 = (some false) := by kernel_rfl
theorem sz49 : szO Try.prog 49 = (some 1) := by kernel_rfl
theorem zc49 : zcO Try.prog 49 = (some [(.sc (.pointer none))]) := by kernel_rfl
theorem up49 : Try.prog.underlying 49 = (some (.pointer 27)) := by kernel_rfl
theorem pt49 : isPt (Try.prog.underlying 49) = true := by kernel_rfl
theorem ag54 : isAggO Try.prog 54 = (some true) := by kernel_rfl
theorem sz54 : szO Try.prog 54 = (some 2) := by kernel_rfl
theorem zc54 : zcO Try.prog 54 = (some [(.isl true 0 []), (.sc (.int .i64 0))]) := by kernel_rfl
theorem bo54 : bldO Try.prog 54 = (some ([(.isl true 0 []), (.sc (.int .i64 0))], [(0, 1), (1, 1)])) := by kernel_rfl
theorem of27_0 : offO Try.prog 27 0 = (some 0) := by kernel_rfl
theorem fd27_0 : fldO Try.prog 27 0 = (some (0, ((some false), (some 1)))) := by kernel_rfl
theorem of27_1 : offO Try.prog 27 1 = (some 1) := by kernel_rfl
theorem fd27_1 : fldO Try.prog 27 1 = (some (1, ((some false), (some 1)))) := by kernel_rfl
theorem of30_0 : offO Try.prog 30 0 = (some 0) := by kernel_rfl
theorem fd30_0 : fldO Try.prog 30 0 = (some (0, ((some false), (some 1)))) := by kernel_rfl
theorem of30_1 : offO Try.prog 30 1 = (some 1) := by kernel_rfl
theorem fd30_1 : fldO Try.prog 30 1 = (some (1, ((some false), (some 1)))) := by kernel_rfl
theorem of30_2 : offO Try.prog 30 2 = (some 2) := by kernel_rfl
theorem fd30_2 : fldO Try.prog 30 2 = (some (2, ((some false), (some 1)))) := by kernel_rfl
theorem of30_3 : offO Try.prog 30 3 = (some 3) := by kernel_rfl
theorem fd30_3 : fldO Try.prog 30 3 = (some (3, ((some false), (some 1)))) := by kernel_rfl
theorem of54_0 : offO Try.prog 54 0 = (some 0) := by kernel_rfl
theorem fd54_0 : fldO Try.prog 54 0 = (some (0, ((some false), (some 1)))) := by kernel_rfl
theorem of54_1 : offO Try.prog 54 1 = (some 1) := by kernel_rfl
theorem fd54_1 : fldO Try.prog 54 1 = (some (1, ((some false), (some 1)))) := by kernel_rfl
theorem ubool : Try.prog.underlying 4 = some .bool := by kernel_rfl
theorem eqb {h : VH} {K : AV → Prop} {x y : Operand} {p q : Bool} : vBin Try.prog .eql 4 x y (.sc (.bool p)) (.sc (.bool q)) h K ↔ K (.sc (.bool (p == q))) := vBin_eqb ubool
theorem neb {h : VH} {K : AV → Prop} {x y : Operand} {p q : Bool} : vBin Try.prog .neq 4 x y (.sc (.bool p)) (.sc (.bool q)) h K ↔ K (.sc (.bool (!(p == q)))) := vBin_neb ubool
theorem mixed : Try.prog.follows .mixedOrders = true := by kernel_rfl
end Go.Proofs.Ytnnemehejldchaa.Facts
