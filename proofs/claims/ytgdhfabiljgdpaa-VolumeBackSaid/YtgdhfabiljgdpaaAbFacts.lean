-- Laid by facts.py: what the types of the seat are. Not trusted: Lean checks it.
import Derived.Test.YtgdhfabiljgdpaaAbV11
import Derived.Test.YtgdhfabiljgdpaaProg
import Derived.KernelRfl
set_option maxRecDepth 100000
namespace Go.Proofs.Ytgdhfabiljgdpaa.Facts
open Go.RowKit Go.Proofs.AbM
theorem ag3 : isAggO Try.prog 3 = (some false) := by kernel_rfl
theorem sz3 : szO Try.prog 3 = (some 1) := by kernel_rfl
theorem zc3 : zcO Try.prog 3 = (some [(.sc (.int .i64 0))]) := by kernel_rfl
theorem ik3 : intK (Try.prog.underlying 3) = some .i64 := by kernel_rfl
theorem ag4 : isAggO Try.prog 4 = (some false) := by kernel_rfl
theorem sz4 : szO Try.prog 4 = (some 1) := by kernel_rfl
theorem zc4 : zcO Try.prog 4 = (some [(.sc (.bool false))]) := by kernel_rfl
theorem ub4 : Try.prog.underlying 4 = (some .bool) := by kernel_rfl
theorem ag5 : isAggO Try.prog 5 = (some false) := by kernel_rfl
theorem sz5 : szO Try.prog 5 = (some 1) := by kernel_rfl
theorem zc5 : zcO Try.prog 5 = (some [(.sc (.int .u8 0))]) := by kernel_rfl
theorem ik5 : intK (Try.prog.underlying 5) = some .u8 := by kernel_rfl
theorem ag9 : isAggO Try.prog 9 = (some false) := by kernel_rfl
theorem sz9 : szO Try.prog 9 = (some 1) := by kernel_rfl
theorem zc9 : zcO Try.prog 9 = (some [(.sc (.string ⟨#[]⟩))]) := by kernel_rfl
theorem ut9 : Try.prog.underlying 9 = (some .string) := by kernel_rfl
theorem iq9 : isStr (Try.prog.underlying 9) = true := by kernel_rfl
theorem ag22 : isAggO Try.prog 22 = (some false) := by kernel_rfl
theorem sz22 : szO Try.prog 22 = (some 1) := by kernel_rfl
theorem el22 : elS Try.prog 22 = (some 2) := by kernel_rfl
theorem ap22 : apO Try.prog 22 = (some (27, (2, 32))) := by kernel_rfl
theorem bs22 : bldS Try.prog 22 = (some (27, (2, [(.sc (.bool false)), (.isl true 0 [])]))) := by kernel_rfl
theorem zc22 : zcO Try.prog 22 = (some [(.isl true 0 [])]) := by kernel_rfl
theorem us22 : Try.prog.underlying 22 = (some (.slice 27)) := by kernel_rfl
theorem is22 : isSl (Try.prog.underlying 22) = true := by kernel_rfl
theorem ag24 : isAggO Try.prog 24 = (some false) := by kernel_rfl
theorem sz24 : szO Try.prog 24 = (some 1) := by kernel_rfl
theorem el24 : elS Try.prog 24 = (some 1) := by kernel_rfl
theorem ap24 : apO Try.prog 24 = (some (25, (1, 24))) := by kernel_rfl
theorem mk24 : mkO Try.prog 24 = (some (25, (24, (.isl true 0 [])))) := by kernel_rfl
theorem bs24 : bldS Try.prog 24 = (some (25, (1, [(.isl true 0 [])]))) := by kernel_rfl
theorem zc24 : zcO Try.prog 24 = (some [(.isl true 0 [])]) := by kernel_rfl
theorem us24 : Try.prog.underlying 24 = (some (.slice 25)) := by kernel_rfl
theorem is24 : isSl (Try.prog.underlying 24) = true := by kernel_rfl
theorem ag25 : isAggO Try.prog 25 = (some false) := by kernel_rfl
theorem sz25 : szO Try.prog 25 = (some 1) := by kernel_rfl
theorem el25 : elS Try.prog 25 = (some 1) := by kernel_rfl
theorem ap25 : apO Try.prog 25 = (some (5, (1, 1))) := by kernel_rfl
theorem mk25 : mkO Try.prog 25 = (some (5, (1, (.sc (.int .u8 0))))) := by kernel_rfl
theorem bs25 : bldS Try.prog 25 = (some (5, (1, [(.sc (.int .u8 0))]))) := by kernel_rfl
theorem zc25 : zcO Try.prog 25 = (some [(.isl true 0 [])]) := by kernel_rfl
theorem us25 : Try.prog.underlying 25 = (some (.slice 5)) := by kernel_rfl
theorem is25 : isSl (Try.prog.underlying 25) = true := by kernel_rfl
theorem ag27 : isAggO Try.prog 27 = (some true) := by kernel_rfl
theorem sz27 : szO Try.prog 27 = (some 2) := by kernel_rfl
theorem zc27 : zcO Try.prog 27 = (some [(.sc (.bool false)), (.isl true 0 [])]) := by kernel_rfl
theorem bo27 : bldO Try.prog 27 = (some ([(.sc (.bool false)), (.isl true 0 [])], [(0, 1), (1, 1)])) := by kernel_rfl
theorem ag29 : isAggO Try.prog 29 = (some false) := by kernel_rfl
theorem sz29 : szO Try.prog 29 = (some 1) := by kernel_rfl
theorem zc29 : zcO Try.prog 29 = (some [(.sc (.int .i64 0))]) := by kernel_rfl
theorem ik29 : intK (Try.prog.underlying 29) = some .i64 := by kernel_rfl
theorem ag41 : isAggO Try.prog 41 = (some true) := by kernel_rfl
theorem sz41 : szO Try.prog 41 = (some 2) := by kernel_rfl
theorem zc41 : zcO Try.prog 41 = (some [(.sc (.int .i64 0)), (.sc (.int .i64 0))]) := by kernel_rfl
theorem eqs41 {h : VH} {K : AV → Prop} {x y : Operand} {a0 : Int} {a1 : Int} {b0 : Int} {b1 : Int} : vBin Try.prog .eql 41 x y (.agg [(.sc (.int .i64 a0)), (.sc (.int .i64 a1))]) (.agg [(.sc (.int .i64 b0)), (.sc (.int .i64 b1))]) h K ↔ K (.sc (.bool (((a0 == b0) && ((a1 == b1) && (true)))))) := (vBin_flat [(.int .i64 a0), (.int .i64 a1)] [(.int .i64 b0), (.int .i64 b1)] (by kernel_rfl) (by kernel_rfl) (by kernel_rfl) (by kernel_rfl)).1
theorem nes41 {h : VH} {K : AV → Prop} {x y : Operand} {a0 : Int} {a1 : Int} {b0 : Int} {b1 : Int} : vBin Try.prog .neq 41 x y (.agg [(.sc (.int .i64 a0)), (.sc (.int .i64 a1))]) (.agg [(.sc (.int .i64 b0)), (.sc (.int .i64 b1))]) h K ↔ K (.sc (.bool (!((a0 == b0) && ((a1 == b1) && (true)))))) := (vBin_flat [(.int .i64 a0), (.int .i64 a1)] [(.int .i64 b0), (.int .i64 b1)] (by kernel_rfl) (by kernel_rfl) (by kernel_rfl) (by kernel_rfl)).2
theorem bo41 : bldO Try.prog 41 = (some ([(.sc (.int .i64 0)), (.sc (.int .i64 0))], [(0, 1), (1, 1)])) := by kernel_rfl
theorem ag55 : isAggO Try.prog 55 = (some false) := by kernel_rfl
theorem sz55 : szO Try.prog 55 = (some 1) := by kernel_rfl
theorem zc55 : zcO Try.prog 55 = (some [(.sc .nilFunc)]) := by kernel_rfl
theorem of27_0 : offO Try.prog 27 0 = (some 0) := by kernel_rfl
theorem fd27_0 : fldO Try.prog 27 0 = (some (0, ((some false), (some 1)))) := by kernel_rfl
theorem of27_1 : offO Try.prog 27 1 = (some 1) := by kernel_rfl
theorem fd27_1 : fldO Try.prog 27 1 = (some (1, ((some false), (some 1)))) := by kernel_rfl
theorem of41_0 : offO Try.prog 41 0 = (some 0) := by kernel_rfl
theorem fd41_0 : fldO Try.prog 41 0 = (some (0, ((some false), (some 1)))) := by kernel_rfl
theorem of41_1 : offO Try.prog 41 1 = (some 1) := by kernel_rfl
theorem fd41_1 : fldO Try.prog 41 1 = (some (1, ((some false), (some 1)))) := by kernel_rfl
theorem ubool : Try.prog.underlying 4 = some .bool := by kernel_rfl
theorem eqb {h : VH} {K : AV → Prop} {x y : Operand} {p q : Bool} : vBin Try.prog .eql 4 x y (.sc (.bool p)) (.sc (.bool q)) h K ↔ K (.sc (.bool (p == q))) := vBin_eqb ubool
theorem neb {h : VH} {K : AV → Prop} {x y : Operand} {p q : Bool} : vBin Try.prog .neq 4 x y (.sc (.bool p)) (.sc (.bool q)) h K ↔ K (.sc (.bool (!(p == q)))) := vBin_neb ubool
theorem mixed : Try.prog.follows .mixedOrders = true := by kernel_rfl
end Go.Proofs.Ytgdhfabiljgdpaa.Facts
