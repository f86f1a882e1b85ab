-- Laid by facts.py: what the types of the seat are. Not trusted: Lean checks it.
import Derived.Test.YtcmlfpfbbopclaaDoorAbV11
import Derived.Test.YtcmlfpfbbopclaaDoorProg
import Derived.KernelRfl
set_option maxRecDepth 100000
namespace Go.Proofs.YtcmlfpfbbopclaaDoor.Facts
open Go.RowKit Go.Proofs.AbM
theorem ag3 : isAggO Tryd.prog 3 = (some false) := by kernel_rfl
theorem sz3 : szO Tryd.prog 3 = (some 1) := by kernel_rfl
theorem zc3 : zcO Tryd.prog 3 = (some [(.sc (.int .i64 0))]) := by kernel_rfl
theorem ik3 : intK (Tryd.prog.underlying 3) = some .i64 := by kernel_rfl
theorem ag4 : isAggO Tryd.prog 4 = (some false) := by kernel_rfl
theorem sz4 : szO Tryd.prog 4 = (some 1) := by kernel_rfl
theorem zc4 : zcO Tryd.prog 4 = (some [(.sc (.bool false))]) := by kernel_rfl
theorem ub4 : Tryd.prog.underlying 4 = (some .bool) := by kernel_rfl
theorem ag23 : isAggO Tryd.prog 23 = (some true) := by kernel_rfl
theorem sz23 : szO Tryd.prog 23 = (some 6) := by kernel_rfl
theorem zc23 : zcO Tryd.prog 23 = (some [(.sc (.int .i64 0)), (.sc (.int .i64 0)), (.sc (.int .i64 0)), (.sc (.int .i64 0)), (.sc (.int .i64 0)), (.sc (.int .i64 0))]) := by kernel_rfl
theorem eqs23 {h : VH} {K : AV → Prop} {x y : Operand} {a0 : Int} {a1 : Int} {a2 : Int} {a3 : Int} {a4 : Int} {a5 : Int} {b0 : Int} {b1 : Int} {b2 : Int} {b3 : Int} {b4 : Int} {b5 : Int} : vBin Tryd.prog .eql 23 x y (.agg [(.sc (.int .i64 a0)), (.sc (.int .i64 a1)), (.sc (.int .i64 a2)), (.sc (.int .i64 a3)), (.sc (.int .i64 a4)), (.sc (.int .i64 a5))]) (.agg [(.sc (.int .i64 b0)), (.sc (.int .i64 b1)), (.sc (.int .i64 b2)), (.sc (.int .i64 b3)), (.sc (.int .i64 b4)), (.sc (.int .i64 b5))]) h K ↔ K (.sc (.bool (((a0 == b0) && ((a1 == b1) && ((a2 == b2) && ((a3 == b3) && ((a4 == b4) && ((a5 == b5) && (true)))))))))) := (vBin_flat [(.int .i64 a0), (.int .i64 a1), (.int .i64 a2), (.int .i64 a3), (.int .i64 a4), (.int .i64 a5)] [(.int .i64 b0), (.int .i64 b1), (.int .i64 b2), (.int .i64 b3), (.int .i64 b4), (.int .i64 b5)] (by kernel_rfl) (by kernel_rfl) (by kernel_rfl) (by kernel_rfl)).1
theorem nes23 {h : VH} {K : AV → Prop} {x y : Operand} {a0 : Int} {a1 : Int} {a2 : Int} {a3 : Int} {a4 : Int} {a5 : Int} {b0 : Int} {b1 : Int} {b2 : Int} {b3 : Int} {b4 : Int} {b5 : Int} : vBin Tryd.prog .neq 23 x y (.agg [(.sc (.int .i64 a0)), (.sc (.int .i64 a1)), (.sc (.int .i64 a2)), (.sc (.int .i64 a3)), (.sc (.int .i64 a4)), (.sc (.int .i64 a5))]) (.agg [(.sc (.int .i64 b0)), (.sc (.int .i64 b1)), (.sc (.int .i64 b2)), (.sc (.int .i64 b3)), (.sc (.int .i64 b4)), (.sc (.int .i64 b5))]) h K ↔ K (.sc (.bool (!((a0 == b0) && ((a1 == b1) && ((a2 == b2) && ((a3 == b3) && ((a4 == b4) && ((a5 == b5) && (true)))))))))) := (vBin_flat [(.int .i64 a0), (.int .i64 a1), (.int .i64 a2), (.int .i64 a3), (.int .i64 a4), (.int .i64 a5)] [(.int .i64 b0), (.int .i64 b1), (.int .i64 b2), (.int .i64 b3), (.int .i64 b4), (.int .i64 b5)] (by kernel_rfl) (by kernel_rfl) (by kernel_rfl) (by kernel_rfl)).2
theorem bo23 : bldO Tryd.prog 23 = (some ([(.sc (.int .i64 0)), (.sc (.int .i64 0)), (.sc (.int .i64 0)), (.sc (.int .i64 0)), (.sc (.int .i64 0)), (.sc (.int .i64 0))], [(0, 1), (1, 1), (2, 1), (3, 1), (4, 1), (5, 1)])) := by kernel_rfl
theorem ag24 : isAggO Tryd.prog 24 = (some false) := by kernel_rfl
theorem sz24 : szO Tryd.prog 24 = (some 1) := by kernel_rfl
theorem zc24 : zcO Tryd.prog 24 = (some [(.sc (.int .u16 0))]) := by kernel_rfl
theorem ik24 : intK (Tryd.prog.underlying 24) = some .u16 := by kernel_rfl
theorem ag27 : isAggO Tryd.prog 27 = (some false) := by kernel_rfl
theorem sz27 : szO Tryd.prog 27 = (some 1) := by kernel_rfl
theorem zc27 : zcO Tryd.prog 27 = (some [(.sc (.int .i64 0))]) := by kernel_rfl
theorem ik27 : intK (Tryd.prog.underlying 27) = some .i64 := by kernel_rfl
theorem ag44 : isAggO Tryd.prog 44 = (some true) := by kernel_rfl
theorem sz44 : szO Tryd.prog 44 = (some 13) := by kernel_rfl
theorem ea44 : elA Tryd.prog 44 = (some (13, (1, (some false)))) := by kernel_rfl
theorem an44 : arrN Tryd.prog 44 = (some 13) := by kernel_rfl
theorem zc44 : zcO Tryd.prog 44 = (some [(.sc (.int .i64 0)), (.sc (.int .i64 0)), (.sc (.int .i64 0)), (.sc (.int .i64 0)), (.sc (.int .i64 0)), (.sc (.int .i64 0)), (.sc (.int .i64 0)), (.sc (.int .i64 0)), (.sc (.int .i64 0)), (.sc (.int .i64 0)), (.sc (.int .i64 0)), (.sc (.int .i64 0)), (.sc (.int .i64 0))]) := by kernel_rfl
theorem bo44 : bldO Tryd.prog 44 = (some ([(.sc (.int .i64 0)), (.sc (.int .i64 0)), (.sc (.int .i64 0)), (.sc (.int .i64 0)), (.sc (.int .i64 0)), (.sc (.int .i64 0)), (.sc (.int .i64 0)), (.sc (.int .i64 0)), (.sc (.int .i64 0)), (.sc (.int .i64 0)), (.sc (.int .i64 0)), (.sc (.int .i64 0)), (.sc (.int .i64 0))], [(0, 1), (1, 1), (2, 1), (3, 1), (4, 1), (5, 1), (6, 1), (7, 1), (8, 1), (9, 1), (10, 1), (11, 1), (12, 1)])) := by kernel_rfl
theorem ag46 : isAggO Tryd.prog 46 = (some false) := by kernel_rfl
theorem sz46 : szO Tryd.prog 46 = (some 1) := by kernel_rfl
theorem el46 : elS Tryd.prog 46 = (some 1) := by kernel_rfl
theorem ap46 : apO Tryd.prog 46 = (some (3, (1, 8))) := by kernel_rfl
theorem mk46 : mkO Tryd.prog 46 = (some (3, (8, (.sc (.int .i64 0))))) := by kernel_rfl
theorem bs46 : bldS Tryd.prog 46 = (some (3, (1, [(.sc (.int .i64 0))]))) := by kernel_rfl
theorem zc46 : zcO Tryd.prog 46 = (some [(.isl true 0 [])]) := by kernel_rfl
theorem us46 : Tryd.prog.underlying 46 = (some (.slice 3)) := by kernel_rfl
theorem is46 : isSl (Tryd.prog.underlying 46) = true := by kernel_rfl
theorem of23_0 : offO Tryd.prog 23 0 = (some 0) := by kernel_rfl
theorem fd23_0 : fldO Tryd.prog 23 0 = (some (0, ((some false), (some 1)))) := by kernel_rfl
theorem of23_1 : offO Tryd.prog 23 1 = (some 1) := by kernel_rfl
theorem fd23_1 : fldO Tryd.prog 23 1 = (some (1, ((some false), (some 1)))) := by kernel_rfl
theorem of23_2 : offO Tryd.prog 23 2 = (some 2) := by kernel_rfl
theorem fd23_2 : fldO Tryd.prog 23 2 = (some (2, ((some false), (some 1)))) := by kernel_rfl
theorem of23_3 : offO Tryd.prog 23 3 = (some 3) := by kernel_rfl
theorem fd23_3 : fldO Tryd.prog 23 3 = (some (3, ((some false), (some 1)))) := by kernel_rfl
theorem of23_4 : offO Tryd.prog 23 4 = (some 4) := by kernel_rfl
theorem fd23_4 : fldO Tryd.prog 23 4 = (some (4, ((some false), (some 1)))) := by kernel_rfl
theorem of23_5 : offO Tryd.prog 23 5 = (some 5) := by kernel_rfl
theorem fd23_5 : fldO Tryd.prog 23 5 = (some (5, ((some false), (some 1)))) := by kernel_rfl
theorem ubool : Tryd.prog.underlying 4 = some .bool := by kernel_rfl
theorem eqb {h : VH} {K : AV → Prop} {x y : Operand} {p q : Bool} : vBin Tryd.prog .eql 4 x y (.sc (.bool p)) (.sc (.bool q)) h K ↔ K (.sc (.bool (p == q))) := vBin_eqb ubool
theorem neb {h : VH} {K : AV → Prop} {x y : Operand} {p q : Bool} : vBin Tryd.prog .neq 4 x y (.sc (.bool p)) (.sc (.bool q)) h K ↔ K (.sc (.bool (!(p == q)))) := vBin_neb ubool
theorem mixed : Tryd.prog.follows .mixedOrders = true := by kernel_rfl
end Go.Proofs.YtcmlfpfbbopclaaDoor.Facts
