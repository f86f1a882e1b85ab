-- Laid by facts.py: what the types of the seat are. Not trusted: Lean checks it.
import Derived.Test.YtbmikefignmkdaaAbV11
import Derived.Test.YtbmikefignmkdaaProg
import Derived.KernelRfl
set_option maxRecDepth 100000
namespace Go.Proofs.Ytbmikefignmkdaa.Facts
open Go.RowKit Go.Proofs.AbM
theorem ag3 : isAggO Try.prog 3 = (some false) := by kernel_rfl
theorem sz3 : szO Try.prog 3 = (some 1) := by kernel_rfl
theorem zc3 : zcO Try.prog 3 = (some [(.sc (.int .i64 0))]) := by kernel_rfl
theorem ik3 : intK (Try.prog.underlying 3) = some .i64 := by kernel_rfl
theorem ag4 : isAggO Try.prog 4 = (some false) := by kernel_rfl
theorem sz4 : szO Try.prog 4 = (some 1) := by kernel_rfl
theorem zc4 : zcO Try.prog 4 = (some [(.sc (.bool false))]) := by kernel_rfl
theorem ub4 : Try.prog.underlying 4 = (some .bool) := by kernel_rfl
theorem ag5 : isAggO Try.prog 5 = (some false) := by kernel_rfl
theorem sz5 : szO Try.prog 5 = (some 1) := by kernel_rfl
theorem zc5 : zcO Try.prog 5 = (some [(.sc (.int .u8 0))]) := by kernel_rfl
theorem ik5 : intK (Try.prog.underlying 5) = some .u8 := by kernel_rfl
theorem ag9 : isAggO Try.prog 9 = (some false) := by kernel_rfl
theorem sz9 : szO Try.prog 9 = (some 1) := by kernel_rfl
theorem zc9 : zcO Try.prog 9 = (some [(.sc (.string ⟨#[]⟩))]) := by kernel_rfl
theorem ut9 : Try.prog.underlying 9 = (some .string) := by kernel_rfl
theorem iq9 : isStr (Try.prog.underlying 9) = true := by kernel_rfl
theorem ag22 : isAggO Try.prog 22 = (some false) := by kernel_rfl
theorem sz22 : szO Try.prog 22 = (some 1) := by kernel_rfl
theorem el22 : elS Try.prog 22 = (some 2) := by kernel_rfl
theorem ap22 : apO Try.prog 22 = (some (35, (2, 32))) := by kernel_rfl
theorem bs22 : bldS Try.prog 22 = (some (35, (2, [(.sc (.int .i64 0)), (.isl true 0 [])]))) := by kernel_rfl
theorem zc22 : zcO Try.prog 22 = (some [(.isl true 0 [])]) := by kernel_rfl
theorem us22 : Try.prog.underlying 22 = (some (.slice 35)) := by kernel_rfl
theorem is22 : isSl (Try.prog.underlying 22) = true := by kernel_rfl
theorem ag25 : isAggO Try.prog 25 = (some false) := by kernel_rfl
theorem sz25 : szO Try.prog 25 = (some 1) := by kernel_rfl
theorem zc25 : zcO Try.prog 25 = (some [(.sc (.pointer none))]) := by kernel_rfl
theorem up25 : Try.prog.underlying 25 = (some (.pointer 61)) := by kernel_rfl
theorem pt25 : isPt (Try.prog.underlying 25) = true := by kernel_rfl
theorem ag26 : isAggO Try.prog 26 = (some false) := by kernel_rfl
theorem sz26 : szO Try.prog 26 = (some 1) := by kernel_rfl
theorem zc26 : zcO Try.prog 26 = (some [(.sc (.int .i64 0))]) := by kernel_rfl
theorem ik26 : intK (Try.prog.underlying 26) = some .i64 := by kernel_rfl
theorem ag29 : isAggO Try.prog 29 = (some false) := by kernel_rfl
theorem sz29 : szO Try.prog 29 = (some 1) := by kernel_rfl
theorem el29 : elS Try.prog 29 = (some 1) := by kernel_rfl
theorem ap29 : apO Try.prog 29 = (some (33, (1, 24))) := by kernel_rfl
theorem mk29 : mkO Try.prog 29 = (some (33, (24, (.isl true 0 [])))) := by kernel_rfl
theorem bs29 : bldS Try.prog 29 = (some (33, (1, [(.isl true 0 [])]))) := by kernel_rfl
theorem zc29 : zcO Try.prog 29 = (some [(.isl true 0 [])]) := by kernel_rfl
theorem us29 : Try.prog.underlying 29 = (some (.slice 33)) := by kernel_rfl
theorem is29 : isSl (Try.prog.underlying 29) = true := by kernel_rfl
theorem ag31 : isAggO Try.prog 31 = (some true) := by kernel_rfl
theorem sz31 : szO Try.prog 31 = (some 2) := by kernel_rfl
theorem zc31 : zcO Try.prog 31 = (some [(.sc (.int .i64 0)), (.isl true 0 [])]) := by kernel_rfl
theorem bo31 : bldO Try.prog 31 = (some ([(.sc (.int .i64 0)), (.isl true 0 [])], [(0, 1), (1, 1)])) := by kernel_rfl
theorem ag33 : isAggO Try.prog 33 = (some false) := by kernel_rfl
theorem sz33 : szO Try.prog 33 = (some 1) := by kernel_rfl
theorem el33 : elS Try.prog 33 = (some 1) := by kernel_rfl
theorem ap33 : apO Try.prog 33 = (some (5, (1, 1))) := by kernel_rfl
theorem mk33 : mkO Try.prog 33 = (some (5, (1, (.sc (.int .u8 0))))) := by kernel_rfl
theorem bs33 : bldS Try.prog 33 = (some (5, (1, [(.sc (.int .u8 0))]))) := by kernel_rfl
theorem zc33 : zcO Try.prog 33 = (some [(.isl true 0 [])]) := by kernel_rfl
theorem us33 : Try.prog.underlying 33 = (some (.slice 5)) := by kernel_rfl
theorem is33 : isSl (Try.prog.underlying 33) = true := by kernel_rfl
theorem ag35 : isAggO Try.prog 35 = (some true) := by kernel_rfl
theorem sz35 : szO Try.prog 35 = (some 2) := by kernel_rfl
theorem zc35 : zcO Try.prog 35 = (some [(.sc (.int .i64 0)), (.isl true 0 [])]) := by kernel_rfl
theorem bo35 : bldO Try.prog 35 = (some ([(.sc (.int .i64 0)), (.isl true 0 [])], [(0, 1), (1, 1)])) := by kernel_rfl
theorem ag37 : isAggO Try.prog 37 = (some true) := by kernel_rfl
theorem sz37 : szO Try.prog 37 = (some 2) := by kernel_rfl
theorem zc37 : zcO Try.prog 37 = (some [(.sc (.int .i64 0)), (.sc (.int .i64 0))]) := by kernel_rfl
theorem eqs37 {h : VH} {K : AV → Prop} {x y : Operand} {a0 : Int} {a1 : Int} {b0 : Int} {b1 : Int} : vBin Try.prog .eql 37 x y (.agg [(.sc (.int .i64 a0)), (.sc (.int .i64 a1))]) (.agg [(.sc (.int .i64 b0)), (.sc (.int .i64 b1))]) h K ↔ K (.sc (.bool (((a0 == b0) && ((a1 == b1) && (true)))))) := (vBin_flat [(.int .i64 a0), (.int .i64 a1)] [(.int .i64 b0), (.int .i64 b1)] (by kernel_rfl) (by kernel_rfl) (by kernel_rfl) (by kernel_rfl)).1
theorem nes37 {h : VH} {K : AV → Prop} {x y : Operand} {a0 : Int} {a1 : Int} {b0 : Int} {b1 : Int} : vBin Try.prog .neq 37 x y (.agg [(.sc (.int .i64 a0)), (.sc (.int .i64 a1))]) (.agg [(.sc (.int .i64 b0)), (.sc (.int .i64 b1))]) h K ↔ K (.sc (.bool (!((a0 == b0) && ((a1 == b1) && (true)))))) := (vBin_flat [(.int .i64 a0), (.int .i64 a1)] [(.int .i64 b0), (.int .i64 b1)] (by kernel_rfl) (by kernel_rfl) (by kernel_rfl) (by kernel_rfl)).2
theorem bo37 : bldO Try.prog 37 = (some ([(.sc (.int .i64 0)), (.sc (.int .i64 0))], [(0, 1), (1, 1)])) := by kernel_rfl
theorem ag51 : isAggO Try.prog 51 = (some false) := by kernel_rfl
theorem sz51 : szO Try.prog 51 = (some 1) := by kernel_rfl
theorem el51 : elS Try.prog 51 = (some 2) := by kernel_rfl
theorem ap51 : apO Try.prog 51 = (some (37, (2, 16))) := by kernel_rfl
theorem bs51 : bldS Try.prog 51 = (some (37, (2, [(.sc (.int .i64 0)), (.sc (.int .i64 0))]))) := by kernel_rfl
theorem zc51 : zcO Try.prog 51 = (some [(.isl true 0 [])]) := by kernel_rfl
theorem us51 : Try.prog.underlying 51 = (some (.slice 37)) := by kernel_rfl
theorem is51 : isSl (Try.prog.underlying 51) = true := by kernel_rfl
theorem ag59 : isAggO Try.prog 59 = (some false) := by kernel_rfl
theorem sz59 : szO Try.prog 59 = (some 1) := by kernel_rfl
theorem zc59 : zcO Try.prog 59 = (some [(.sc (.int .u64 0))]) := by kernel_rfl
theorem ik59 : intK (Try.prog.underlying 59) = some .u64 := by kernel_rfl
theorem ag61 : isAggO Try.prog 61 = (some true) := by kernel_rfl
theorem sz61 : szO Try.prog 61 = (some 2) := by kernel_rfl
theorem zc61 : zcO Try.prog 61 = (some [(.sc (.int .i64 0)), (.isl true 0 [])]) := by kernel_rfl
theorem bo61 : bldO Try.prog 61 = (some ([(.sc (.int .i64 0)), (.isl true 0 [])], [(0, 1), (1, 1)])) := by kernel_rfl
theorem ag67 : isAggO Try.prog 67 = (some false) := by kernel_rfl
theorem sz67 : szO Try.prog 67 = (some 1) := by kernel_rfl
theorem zc67 : zcO Try.prog 67 = (some [(.sc .nilFunc)]) := by kernel_rfl
theorem of31_0 : offO Try.prog 31 0 = (some 0) := by kernel_rfl
theorem fd31_0 : fldO Try.prog 31 0 = (some (0, ((some false), (some 1)))) := by kernel_rfl
theorem of31_1 : offO Try.prog 31 1 = (some 1) := by kernel_rfl
theorem fd31_1 : fldO Try.prog 31 1 = (some (1, ((some false), (some 1)))) := by kernel_rfl
theorem of35_0 : offO Try.prog 35 0 = (some 0) := by kernel_rfl
theorem fd35_0 : fldO Try.prog 35 0 = (some (0, ((some false), (some 1)))) := by kernel_rfl
theorem of35_1 : offO Try.prog 35 1 = (some 1) := by kernel_rfl
theorem fd35_1 : fldO Try.prog 35 1 = (some (1, ((some false), (some 1)))) := by kernel_rfl
theorem of37_0 : offO Try.prog 37 0 = (some 0) := by kernel_rfl
theorem fd37_0 : fldO Try.prog 37 0 = (some (0, ((some false), (some 1)))) := by kernel_rfl
theorem of37_1 : offO Try.prog 37 1 = (some 1) := by kernel_rfl
theorem fd37_1 : fldO Try.prog 37 1 = (some (1, ((some false), (some 1)))) := by kernel_rfl
theorem of61_0 : offO Try.prog 61 0 = (some 0) := by kernel_rfl
theorem fd61_0 : fldO Try.prog 61 0 = (some (0, ((some false), (some 1)))) := by kernel_rfl
theorem of61_1 : offO Try.prog 61 1 = (some 1) := by kernel_rfl
theorem fd61_1 : fldO Try.prog 61 1 = (some (1, ((some false), (some 1)))) := by kernel_rfl
theorem ubool : Try.prog.underlying 4 = some .bool := by kernel_rfl
theorem eqb {h : VH} {K : AV → Prop} {x y : Operand} {p q : Bool} : vBin Try.prog .eql 4 x y (.sc (.bool p)) (.sc (.bool q)) h K ↔ K (.sc (.bool (p == q))) := vBin_eqb ubool
theorem neb {h : VH} {K : AV → Prop} {x y : Operand} {p q : Bool} : vBin Try.prog .neq 4 x y (.sc (.bool p)) (.sc (.bool q)) h K ↔ K (.sc (.bool (!(p == q)))) := vBin_neb ubool
theorem mixed : Try.prog.follows .mixedOrders = true := by kernel_rfl
end Go.Proofs.Ytbmikefignmkdaa.Facts
