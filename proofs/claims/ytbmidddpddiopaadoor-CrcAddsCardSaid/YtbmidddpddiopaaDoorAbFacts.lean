-- Laid by facts.py: what the types of the seat are. Not trusted: Lean checks it.
import Derived.Test.YtbmidddpddiopaaDoorAbV11
import Derived.Test.YtbmidddpddiopaaDoorProg
import Derived.KernelRfl
set_option maxRecDepth 100000
namespace Go.Proofs.YtbmidddpddiopaaDoor.Facts
open Go.RowKit Go.Proofs.AbM
theorem ag3 : isAggO Tryd.prog 3 = (some false) := by kernel_rfl
theorem sz3 : szO Tryd.prog 3 = (some 1) := by kernel_rfl
theorem zc3 : zcO Tryd.prog 3 = (some [(.sc (.int .i64 0))]) := by kernel_rfl
theorem ik3 : intK (Tryd.prog.underlying 3) = some .i64 := by kernel_rfl
theorem ag4 : isAggO Tryd.prog 4 = (some false) := by kernel_rfl
theorem sz4 : szO Tryd.prog 4 = (some 1) := by kernel_rfl
theorem zc4 : zcO Tryd.prog 4 = (some [(.sc (.bool false))]) := by kernel_rfl
theorem ub4 : Tryd.prog.underlying 4 = (some .bool) := by kernel_rfl
theorem ag5 : isAggO Tryd.prog 5 = (some false) := by kernel_rfl
theorem sz5 : szO Tryd.prog 5 = (some 1) := by kernel_rfl
theorem zc5 : zcO Tryd.prog 5 = (some [(.sc (.int .u8 0))]) := by kernel_rfl
theorem ik5 : intK (Tryd.prog.underlying 5) = some .u8 := by kernel_rfl
theorem ag22 : isAggO Tryd.prog 22 = (some false) := by kernel_rfl
theorem sz22 : szO Tryd.prog 22 = (some 1) := by kernel_rfl
theorem zc22 : zcO Tryd.prog 22 = (some [(.sc (.int .u32 0))]) := by kernel_rfl
theorem ik22 : intK (Tryd.prog.underlying 22) = some .u32 := by kernel_rfl
theorem ag23 : isAggO Tryd.prog 23 = (some false) := by kernel_rfl
theorem sz23 : szO Tryd.prog 23 = (some 1) := by kernel_rfl
theorem el23 : elS Tryd.prog 23 = (some 1) := by kernel_rfl
theorem ap23 : apO Tryd.prog 23 = (some (5, (1, 1))) := by kernel_rfl
theorem mk23 : mkO Tryd.prog 23 = (some (5, (1, (.sc (.int .u8 0))))) := by kernel_rfl
theorem bs23 : bldS Tryd.prog 23 = (some (5, (1, [(.sc (.int .u8 0))]))) := by kernel_rfl
theorem zc23 : zcO Tryd.prog 23 = (some [(.isl true 0 [])]) := by kernel_rfl
theorem us23 : Tryd.prog.underlying 23 = (some (.slice 5)) := by kernel_rfl
theorem is23 : isSl (Tryd.prog.underlying 23) = true := by kernel_rfl
theorem ag28 : isAggO Tryd.prog 28 = (some false) := by kernel_rfl
theorem sz28 : szO Tryd.prog 28 = (some 1) := by kernel_rfl
theorem el28 : elS Tryd.prog 28 = (some 1) := by kernel_rfl
theorem ap28 : apO Tryd.prog 28 = (some (22, (1, 4))) := by kernel_rfl
theorem mk28 : mkO Tryd.prog 28 = (some (22, (4, (.sc (.int .u32 0))))) := by kernel_rfl
theorem bs28 : bldS Tryd.prog 28 = (some (22, (1, [(.sc (.int .u32 0))]))) := by kernel_rfl
theorem zc28 : zcO Tryd.prog 28 = (some [(.isl true 0 [])]) := by kernel_rfl
theorem us28 : Tryd.prog.underlying 28 = (some (.slice 22)) := by kernel_rfl
theorem is28 : isSl (Tryd.prog.underlying 28) = true := by kernel_rfl
theorem ag32 : isAggO Tryd.prog 32 = (some false) := by kernel_rfl
theorem sz32 : szO Tryd.prog 32 = (some 1) := by kernel_rfl
theorem el32 : elS Tryd.prog 32 = (some 1) := by kernel_rfl
theorem ap32 : apO Tryd.prog 32 = (some (23, (1, 24))) := by kernel_rfl
theorem mk32 : mkO Tryd.prog 32 = (some (23, (24, (.isl true 0 [])))) := by kernel_rfl
theorem bs32 : bldS Tryd.prog 32 = (some (23, (1, [(.isl true 0 [])]))) := by kernel_rfl
theorem zc32 : zcO Tryd.prog 32 = (some [(.isl true 0 [])]) := by kernel_rfl
theorem us32 : Tryd.prog.underlying 32 = (some (.slice 23)) := by kernel_rfl
theorem is32 : isSl (Tryd.prog.underlying 32) = true := by kernel_rfl
theorem ag41 : isAggO Tryd.prog 41 = (some true) := by kernel_rfl
theorem sz41 : szO Tryd.prog 41 = (some 16) := by kernel_rfl
theorem ea41 : elA Tryd.prog 41 = (some (16, (1, (some false)))) := by kernel_rfl
theorem an41 : arrN Tryd.prog 41 = (some 16) := by kernel_rfl
theorem zc41 : zcO Tryd.prog 41 = (some [(.sc (.int .u32 0)), (.sc (.int .u32 0)), (.sc (.int .u32 0)), (.sc (.int .u32 0)), (.sc (.int .u32 0)), (.sc (.int .u32 0)), (.sc (.int .u32 0)), (.sc (.int .u32 0)), (.sc (.int .u32 0)), (.sc (.int .u32 0)), (.sc (.int .u32 0)), (.sc (.int .u32 0)), (.sc (.int .u32 0)), (.sc (.int .u32 0)), (.sc (.int .u32 0)), (.sc (.int .u32 0))]) := by kernel_rfl
theorem bo41 : bldO Tryd.prog 41 = (some ([(.sc (.int .u32 0)), (.sc (.int .u32 0)), (.sc (.int .u32 0)), (.sc (.int .u32 0)), (.sc (.int .u32 0)), (.sc (.int .u32 0)), (.sc (.int .u32 0)), (.sc (.int .u32 0)), (.sc (.int .u32 0)), (.sc (.int .u32 0)), (.sc (.int .u32 0)), (.sc (.int .u32 0)), (.sc (.int .u32 0)), (.sc (.int .u32 0)), (.sc (.int .u32 0)), (.sc (.int .u32 0))], [(0, 1), (1, 1), (2, 1), (3, 1), (4, 1), (5, 1), (6, 1), (7, 1), (8, 1), (9, 1), (10, 1), (11, 1), (12, 1), (13, 1), (14, 1), (15, 1)])) := by kernel_rfl
theorem ubool : Tryd.prog.underlying 4 = some .bool := by kernel_rfl
theorem eqb {h : VH} {K : AV → Prop} {x y : Operand} {p q : Bool} : vBin Tryd.prog .eql 4 x y (.sc (.bool p)) (.sc (.bool q)) h K ↔ K (.sc (.bool (p == q))) := vBin_eqb ubool
theorem neb {h : VH} {K : AV → Prop} {x y : Operand} {p q : Bool} : vBin Tryd.prog .neq 4 x y (.sc (.bool p)) (.sc (.bool q)) h K ↔ K (.sc (.bool (!(p == q)))) := vBin_neb ubool
theorem mixed : Tryd.prog.follows .mixedOrders = true := by kernel_rfl
end Go.Proofs.YtbmidddpddiopaaDoor.Facts
