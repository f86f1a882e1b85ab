-- Laid by facts.py: what the types of the seat are. Not trusted: Lean checks it.
import Derived.Test.YtipeglbklhincaaDoorAbV11
import Derived.Test.YtipeglbklhincaaDoorProg
import Derived.KernelRfl
set_option maxRecDepth 100000
namespace Go.Proofs.YtipeglbklhincaaDoor.Facts
open Go.RowKit Go.Proofs.AbM
theorem ag3 : isAggO Tryd.prog 3 = (some false) := by kernel_rfl
theorem sz3 : szO Tryd.prog 3 = (some 1) := by kernel_rfl
theorem zc3 : zcO Tryd.prog 3 = (some [(.sc (.int .i64 0))]) := by kernel_rfl
theorem ik3 : intK (Tryd.prog.underlying 3) = some .i64 := by kernel_rfl
theorem ag4 : isAggO Tryd.prog 4 = (some false) := by kernel_rfl
theorem sz4 : szO Tryd.prog 4 = (some 1) := by kernel_rfl
theorem zc4 : zcO Tryd.prog 4 = (some [(.sc (.bool false))]) := by kernel_rfl
theorem ub4 : Tryd.prog.underlying 4 = (some .bool) := by kernel_rfl
theorem ag5 : isAggO Tryd.prog 5 = (some false) := by kernel_rfl
theorem sz5 : szO Tryd.prog 5 = (some 1) := by kernel_rfl
theorem zc5 : zcO Tryd.prog 5 = (some [(.sc (.int .u8 0))]) := by kernel_rfl
theorem ik5 : intK (Tryd.prog.underlying 5) = some .u8 := by kernel_rfl
theorem ag9 : isAggO Tryd.prog 9 = (some false) := by kernel_rfl
theorem sz9 : szO Tryd.prog 9 = (some 1) := by kernel_rfl
theorem zc9 : zcO Tryd.prog 9 = (some [(.sc (.string ⟨#[]⟩))]) := by kernel_rfl
theorem ut9 : Tryd.prog.underlying 9 = (some .string) := by kernel_rfl
theorem iq9 : isStr (Tryd.prog.underlying 9) = true := by kernel_rfl
theorem ag22 : isAggO Tryd.prog 22 = (some false) := by kernel_rfl
theorem sz22 : szO Tryd.prog 22 = (some 1) := by kernel_rfl
theorem el22 : elS Tryd.prog 22 = (some 3) := by kernel_rfl
theorem ap22 : apO Tryd.prog 22 = (some (41, (3, 24))) := by kernel_rfl
theorem bs22 : bldS Tryd.prog 22 = (some (41, (3, [(.sc (.int .u8 0)), (.sc (.int .i64 0)), (.sc (.int .i64 0))]))) := by kernel_rfl
theorem zc22 : zcO Tryd.prog 22 = (some [(.isl true 0 [])]) := by kernel_rfl
theorem us22 : Tryd.prog.underlying 22 = (some (.slice 41)) := by kernel_rfl
theorem is22 : isSl (Tryd.prog.underlying 22) = true := by kernel_rfl
theorem ag23 : isAggO Tryd.prog 23 = (some false) := by kernel_rfl
theorem sz23 : szO Tryd.prog 23 = (some 1) := by kernel_rfl
theorem el23 : elS Tryd.prog 23 = (some 1) := by kernel_rfl
theorem ap23 : apO Tryd.prog 23 = (some (5, (1, 1))) := by kernel_rfl
theorem mk23 : mkO Tryd.prog 23 = (some (5, (1, (.sc (.int .u8 0))))) := by kernel_rfl
theorem bs23 : bldS Tryd.prog 23 = (some (5, (1, [(.sc (.int .u8 0))]))) := by kernel_rfl
theorem zc23 : zcO Tryd.prog 23 = (some [(.isl true 0 [])]) := by kernel_rfl
theorem us23 : Tryd.prog.underlying 23 = (some (.slice 5)) := by kernel_rfl
theorem is23 : isSl (Tryd.prog.underlying 23) = true := by kernel_rfl
theorem ag25 : isAggO Tryd.prog 25 = (some false) := by kernel_rfl
theorem sz25 : szO Tryd.prog 25 = (some 1) := by kernel_rfl
theorem zc25 : zcO Tryd.prog 25 = (some [(.sc (.int .i64 0))]) := by kernel_rfl
theorem ik25 : intK (Tryd.prog.underlying 25) = some .i64 := by kernel_rfl
theorem ag41 : isAggO Tryd.prog 41 = (some true) := by kernel_rfl
theorem sz41 : szO Tryd.prog 41 = (some 3) := by kernel_rfl
theorem zc41 : zcO Tryd.prog 41 = (some [(.sc (.int .u8 0)), (.sc (.int .i64 0)), (.sc (.int .i64 0))]) := by kernel_rfl
theorem eqs41 {h : VH} {K : AV → Prop} {x y : Operand} {a0 : Int} {a1 : Int} {a2 : Int} {b0 : Int} {b1 : Int} {b2 : Int} : vBin Tryd.prog .eql 41 x y (.agg [(.sc (.int .u8 a0)), (.sc (.int .i64 a1)), (.sc (.int .i64 a2))]) (.agg [(.sc (.int .u8 b0)), (.sc (.int .i64 b1)), (.sc (.int .i64 b2))]) h K ↔ K (.sc (.bool (((a0 == b0) && ((a1 == b1) && ((a2 == b2) && (true))))))) := (vBin_flat [(.int .u8 a0), (.int .i64 a1), (.int .i64 a2)] [(.int .u8 b0), (.int .i64 b1), (.int .i64 b2)] (by kernel_rfl) (by kernel_rfl) (by kernel_rfl) (by kernel_rfl)).1
theorem nes41 {h : VH} {K : AV → Prop} {x y : Operand} {a0 : Int} {a1 : Int} {a2 : Int} {b0 : Int} {b1 : Int} {b2 : Int} : vBin Tryd.prog .neq 41 x y (.agg [(.sc (.int .u8 a0)), (.sc (.int .i64 a1)), (.sc (.int .i64 a2))]) (.agg [(.sc (.int .u8 b0)), (.sc (.int .i64 b1)), (.sc (.int .i64 b2))]) h K ↔ K (.sc (.bool (!((a0 == b0) && ((a1 == b1) && ((a2 == b2) && (true))))))) := (vBin_flat [(.int .u8 a0), (.int .i64 a1), (.int .i64 a2)] [(.int .u8 b0), (.int .i64 b1), (.int .i64 b2)] (by kernel_rfl) (by kernel_rfl) (by kernel_rfl) (by kernel_rfl)).2
theorem bo41 : bldO Tryd.prog 41 = (some ([(.sc (.int .u8 0)), (.sc (.int .i64 0)), (.sc (.int .i64 0))], [(0, 1), (1, 1), (2, 1)])) := by kernel_rfl
theorem ag44 : isAggO Tryd.prog 44 = (some false) := by kernel_rfl
theorem sz44 : szO Tryd.prog 44 = (some 1) := by kernel_rfl
theorem zc44 : zcO Tryd.prog 44 = (some [(.sc (.pointer none))]) := by kernel_rfl
theorem up44 : Tryd.prog.underlying 44 = (some (.pointer 49)) := by kernel_rfl
theorem pt44 : isPt (Tryd.prog.underlying 44) = true := by kernel_rfl
theorem ag45 : isAggO Tryd.prog 45 = (some true) := by kernel_rfl
theorem sz45 : szO Tryd.prog 45 = (some 10) := by kernel_rfl
theorem ea45 : elA Tryd.prog 45 = (some (10, (1, (some false)))) := by kernel_rfl
theorem an45 : arrN Tryd.prog 45 = (some 10) := by kernel_rfl
theorem zc45 : zcO Tryd.prog 45 = (some [(.sc (.int .i64 0)), (.sc (.int .i64 0)), (.sc (.int .i64 0)), (.sc (.int .i64 0)), (.sc (.int .i64 0)), (.sc (.int .i64 0)), (.sc (.int .i64 0)), (.sc (.int .i64 0)), (.sc (.int .i64 0)), (.sc (.int .i64 0))]) := by kernel_rfl
theorem bo45 : bldO Tryd.prog 45 = (some ([(.sc (.int .i64 0)), (.sc (.int .i64 0)), (.sc (.int .i64 0)), (.sc (.int .i64 0)), (.sc (.int .i64 0)), (.sc (.int .i64 0)), (.sc (.int .i64 0)), (.sc (.int .i64 0)), (.sc (.int .i64 0)), (.sc (.int .i64 0))], [(0, 1), (1, 1), (2, 1), (3, 1), (4, 1), (5, 1), (6, 1), (7, 1), (8, 1), (9, 1)])) := by kernel_rfl
theorem ag46 : isAggO Tryd.prog 46 = (some false) := by kernel_rfl
theorem sz46 : szO Tryd.prog 46 = (some 1) := by kernel_rfl
theorem el46 : elS Tryd.prog 46 = (some 1) := by kernel_rfl
theorem ap46 : apO Tryd.prog 46 = (some (3, (1, 8))) := by kernel_rfl
theorem mk46 : mkO Tryd.prog 46 = (some (3, (8, (.sc (.int .i64 0))))) := by kernel_rfl
theorem bs46 : bldS Tryd.prog 46 = (some (3, (1, [(.sc (.int .i64 0))]))) := by kernel_rfl
theorem zc46 : zcO Tryd.prog 46 = (some [(.isl true 0 [])]) := by kernel_rfl
theorem us46 : Tryd.prog.underlying 46 = (some (.slice 3)) := by kernel_rfl
theorem is46 : isSl (Tryd.prog.underlying 46) = true := by kernel_rfl
theorem ag47 : isAggO Tryd.prog 47 = (some true) := by kernel_rfl
theorem sz47 : szO Tryd.prog 47 = (some 4096) := by kernel_rfl
theorem ea47 : elA Tryd.prog 47 = (some (4096, (1, (some false)))) := by kernel_rfl
theorem an47 : arrN Tryd.prog 47 = (some 4096) := by kernel_rfl
theorem ag49 : isAggO Tryd.prog 49 = (some true) := by kernel_rfl
theorem sz49 : szO Tryd.prog 49 = (some 4099) := by kernel_rfl
theorem ag55 : isAggO Tryd.prog 55 = (some false) := by kernel_rfl
theorem sz55 : szO Tryd.prog 55 = (some 1) := by kernel_rfl
theorem zc55 : zcO Tryd.prog 55 = (some [(.sc (.int .u32 0))]) := by kernel_rfl
theorem ik55 : intK (Tryd.prog.underlying 55) = some .u32 := by kernel_rfl
theorem of41_0 : offO Tryd.prog 41 0 = (some 0) := by kernel_rfl
theorem fd41_0 : fldO Tryd.prog 41 0 = (some (0, ((some false), (some 1)))) := by kernel_rfl
theorem of41_1 : offO Tryd.prog 41 1 = (some 1) := by kernel_rfl
theorem fd41_1 : fldO Tryd.prog 41 1 = (some (1, ((some false), (some 1)))) := by kernel_rfl
theorem of41_2 : offO Tryd.prog 41 2 = (some 2) := by kernel_rfl
theorem fd41_2 : fldO Tryd.prog 41 2 = (some (2, ((some false), (some 1)))) := by kernel_rfl
theorem of49_0 : offO Tryd.prog 49 0 = (some 0) := by kernel_rfl
theorem fd49_0 : fldO Tryd.prog 49 0 = (some (0, ((some false), (some 1)))) := by kernel_rfl
theorem of49_1 : offO Tryd.prog 49 1 = (some 1) := by kernel_rfl
theorem fd49_1 : fldO Tryd.prog 49 1 = (some (1, ((some false), (some 1)))) := by kernel_rfl
theorem of49_2 : offO Tryd.prog 49 2 = (some 2) := by kernel_rfl
theorem fd49_2 : fldO Tryd.prog 49 2 = (some (2, ((some true), (some 4096)))) := by kernel_rfl
theorem of49_3 : offO Tryd.prog 49 3 = (some 4098) := by kernel_rfl
theorem fd49_3 : fldO Tryd.prog 49 3 = (some (4098, ((some false), (some 1)))) := by kernel_rfl
theorem ubool : Tryd.prog.underlying 4 = some .bool := by kernel_rfl
theorem eqb {h : VH} {K : AV → Prop} {x y : Operand} {p q : Bool} : vBin Tryd.prog .eql 4 x y (.sc (.bool p)) (.sc (.bool q)) h K ↔ K (.sc (.bool (p == q))) := vBin_eqb ubool
theorem neb {h : VH} {K : AV → Prop} {x y : Operand} {p q : Bool} : vBin Tryd.prog .neq 4 x y (.sc (.bool p)) (.sc (.bool q)) h K ↔ K (.sc (.bool (!(p == q)))) := vBin_neb ubool
theorem mixed : Tryd.prog.follows .mixedOrders = true := by kernel_rfl
end Go.Proofs.YtipeglbklhincaaDoor.Facts
