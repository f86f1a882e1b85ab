-- Laid by facts.py: what the types of the seat are. Not trusted: Lean checks it.
import Derived.Test.YtcdjaihaalaepaaAbV11
import Derived.Test.YtcdjaihaalaepaaProg
import Derived.KernelRfl
set_option maxRecDepth 100000
namespace Go.Proofs.Ytcdjaihaalaepaa.Facts
open Go.RowKit Go.Proofs.AbM
theorem ag3 : isAggO Try.prog 3 = (some false) := by kernel_rfl
theorem sz3 : szO Try.prog 3 = (some 1) := by kernel_rfl
theorem zc3 : zcO Try.prog 3 = (some [(.sc (.int .i64 0))]) := by kernel_rfl
theorem ik3 : intK (Try.prog.underlying 3) = some .i64 := by kernel_rfl
theorem ag4 : isAggO Try.prog 4 = (some false) := by kernel_rfl
theorem sz4 : szO Try.prog 4 = (some 1) := by kernel_rfl
theorem zc4 : zcO Try.prog 4 = (some [(.sc (.bool false))]) := by kernel_rfl
theorem ub4 : Try.prog.underlying 4 = (some .bool) := by kernel_rfl
theorem ag5 : isAggO Try.prog 5 = (some false) := by kernel_rfl
theorem sz5 : szO Try.prog 5 = (some 1) := by kernel_rfl
theorem zc5 : zcO Try.prog 5 = (some [(.sc (.int .u8 0))]) := by kernel_rfl
theorem ik5 : intK (Try.prog.underlying 5) = some .u8 := by kernel_rfl
theorem ag9 : isAggO Try.prog 9 = (some false) := by kernel_rfl
theorem sz9 : szO Try.prog 9 = (some 1) := by kernel_rfl
theorem zc9 : zcO Try.prog 9 = (some [(.sc (.string ⟨#[]⟩))]) := by kernel_rfl
theorem ut9 : Try.prog.underlying 9 = (some .string) := by kernel_rfl
theorem iq9 : isStr (Try.prog.underlying 9) = true := by kernel_rfl
theorem ag22 : isAggO Try.prog 22 = (some false) := by kernel_rfl
theorem sz22 : szO Try.prog 22 = (some 1) := by kernel_rfl
theorem zc22 : zcO Try.prog 22 = (some [(.sc (.int .u32 0))]) := by kernel_rfl
theorem ik22 : intK (Try.prog.underlying 22) = some .u32 := by kernel_rfl
theorem ag23 : isAggO Try.prog 23 = (some false) := by kernel_rfl
theorem sz23 : szO Try.prog 23 = (some 1) := by kernel_rfl
theorem zc23 : zcO Try.prog 23 = (some [(.sc (.int .u64 0))]) := by kernel_rfl
theorem ik23 : intK (Try.prog.underlying 23) = some .u64 := by kernel_rfl
theorem ag25 : isAggO Try.prog 25 = (some true) := by kernel_rfl
theorem sz25 : szO Try.prog 25 = (some 9) := by kernel_rfl
theorem zc25 : zcO Try.prog 25 = (some [(.sc (.int .u32 0)), (.sc (.int .u32 0)), (.sc (.int .u64 0)), (.sc (.int .u64 0)), (.sc (.int .u64 0)), (.sc (.int .u64 0)), (.sc (.int .u32 0)), (.sc (.int .u32 0)), (.sc (.int .u64 0))]) := by kernel_rfl
theorem eqs25 {h : VH} {K : AV → Prop} {x y : Operand} {a0 : Int} {a1 : Int} {a2 : Int} {a3 : Int} {a4 : Int} {a5 : Int} {a6 : Int} {a7 : Int} {a8 : Int} {b0 : Int} {b1 : Int} {b2 : Int} {b3 : Int} {b4 : Int} {b5 : Int} {b6 : Int} {b7 : Int} {b8 : Int} : vBin Try.prog .eql 25 x y (.agg [(.sc (.int .u32 a0)), (.sc (.int .u32 a1)), (.sc (.int .u64 a2)), (.sc (.int .u64 a3)), (.sc (.int .u64 a4)), (.sc (.int .u64 a5)), (.sc (.int .u32 a6)), (.sc (.int .u32 a7)), (.sc (.int .u64 a8))]) (.agg [(.sc (.int .u32 b0)), (.sc (.int .u32 b1)), (.sc (.int .u64 b2)), (.sc (.int .u64 b3)), (.sc (.int .u64 b4)), (.sc (.int .u64 b5)), (.sc (.int .u32 b6)), (.sc (.int .u32 b7)), (.sc (.int .u64 b8))]) h K ↔ K (.sc (.bool (((a0 == b0) && ((a1 == b1) && ((a2 == b2) && ((a3 == b3) && ((a4 == b4) && ((a5 == b5) && ((a6 == b6) && ((a7 == b7) && ((a8 == b8) && (true))))))))))))) := (vBin_flat [(.int .u32 a0), (.int .u32 a1), (.int .u64 a2), (.int .u64 a3), (.int .u64 a4), (.int .u64 a5), (.int .u32 a6), (.int .u32 a7), (.int .u64 a8)] [(.int .u32 b0), (.int .u32 b1), (.int .u64 b2), (.int .u64 b3), (.int .u64 b4), (.int .u64 b5), (.int .u32 b6), (.int .u32 b7), (.int .u64 b8)] (by kernel_rfl) (by kernel_rfl) (by kernel_rfl) (by kernel_rfl)).1
theorem nes25 {h : VH} {K : AV → Prop} {x y : Operand} {a0 : Int} {a1 : Int} {a2 : Int} {a3 : Int} {a4 : Int} {a5 : Int} {a6 : Int} {a7 : Int} {a8 : Int} {b0 : Int} {b1 : Int} {b2 : Int} {b3 : Int} {b4 : Int} {b5 : Int} {b6 : Int} {b7 : Int} {b8 : Int} : vBin Try.prog .neq 25 x y (.agg [(.sc (.int .u32 a0)), (.sc (.int .u32 a1)), (.sc (.int .u64 a2)), (.sc (.int .u64 a3)), (.sc (.int .u64 a4)), (.sc (.int .u64 a5)), (.sc (.int .u32 a6)), (.sc (.int .u32 a7)), (.sc (.int .u64 a8))]) (.agg [(.sc (.int .u32 b0)), (.sc (.int .u32 b1)), (.sc (.int .u64 b2)), (.sc (.int .u64 b3)), (.sc (.int .u64 b4)), (.sc (.int .u64 b5)), (.sc (.int .u32 b6)), (.sc (.int .u32 b7)), (.sc (.int .u64 b8))]) h K ↔ K (.sc (.bool (!((a0 == b0) && ((a1 == b1) && ((a2 == b2) && ((a3 == b3) && ((a4 == b4) && ((a5 == b5) && ((a6 == b6) && ((a7 == b7) && ((a8 == b8) && (true))))))))))))) := (vBin_flat [(.int .u32 a0), (.int .u32 a1), (.int .u64 a2), (.int .u64 a3), (.int .u64 a4), (.int .u64 a5), (.int .u32 a6), (.int .u32 a7), (.int .u64 a8)] [(.int .u32 b0), (.int .u32 b1), (.int .u64 b2), (.int .u64 b3), (.int .u64 b4), (.int .u64 b5), (.int .u32 b6), (.int .u32 b7), (.int .u64 b8)] (by kernel_rfl) (by kernel_rfl) (by kernel_rfl) (by kernel_rfl)).2
theorem bo25 : bldO Try.prog 25 = (some ([(.sc (.int .u32 0)), (.sc (.int .u32 0)), (.sc (.int .u64 0)), (.sc (.int .u64 0)), (.sc (.int .u64 0)), (.sc (.int .u64 0)), (.sc (.int .u32 0)), (.sc (.int .u32 0)), (.sc (.int .u64 0))], [(0, 1), (1, 1), (2, 1), (3, 1), (4, 1), (5, 1), (6, 1), (7, 1), (8, 1)])) := by kernel_rfl
theorem ag27 : isAggO Try.prog 27 = (some true) := by kernel_rfl
theorem sz27 : szO Try.prog 27 = (some 9) := by kernel_rfl
theorem zc27 : zcO Try.prog 27 = (some [(.sc (.int .u32 0)), (.sc (.int .u32 0)), (.sc (.int .u64 0)), (.sc (.int .u64 0)), (.sc (.int .u64 0)), (.sc (.int .u64 0)), (.sc (.int .u32 0)), (.sc (.int .u32 0)), (.sc (.int .u64 0))]) := by kernel_rfl
theorem eqs27 {h : VH} {K : AV → Prop} {x y : Operand} {a0 : Int} {a1 : Int} {a2 : Int} {a3 : Int} {a4 : Int} {a5 : Int} {a6 : Int} {a7 : Int} {a8 : Int} {b0 : Int} {b1 : Int} {b2 : Int} {b3 : Int} {b4 : Int} {b5 : Int} {b6 : Int} {b7 : Int} {b8 : Int} : vBin Try.prog .eql 27 x y (.agg [(.sc (.int .u32 a0)), (.sc (.int .u32 a1)), (.sc (.int .u64 a2)), (.sc (.int .u64 a3)), (.sc (.int .u64 a4)), (.sc (.int .u64 a5)), (.sc (.int .u32 a6)), (.sc (.int .u32 a7)), (.sc (.int .u64 a8))]) (.agg [(.sc (.int .u32 b0)), (.sc (.int .u32 b1)), (.sc (.int .u64 b2)), (.sc (.int .u64 b3)), (.sc (.int .u64 b4)), (.sc (.int .u64 b5)), (.sc (.int .u32 b6)), (.sc (.int .u32 b7)), (.sc (.int .u64 b8))]) h K ↔ K (.sc (.bool (((a0 == b0) && ((a1 == b1) && ((a2 == b2) && ((a3 == b3) && ((a4 == b4) && ((a5 == b5) && ((a6 == b6) && ((a7 == b7) && ((a8 == b8) && (true))))))))))))) := (vBin_flat [(.int .u32 a0), (.int .u32 a1), (.int .u64 a2), (.int .u64 a3), (.int .u64 a4), (.int .u64 a5), (.int .u32 a6), (.int .u32 a7), (.int .u64 a8)] [(.int .u32 b0), (.int .u32 b1), (.int .u64 b2), (.int .u64 b3), (.int .u64 b4), (.int .u64 b5), (.int .u32 b6), (.int .u32 b7), (.int .u64 b8)] (by kernel_rfl) (by kernel_rfl) (by kernel_rfl) (by kernel_rfl)).1
theorem nes27 {h : VH} {K : AV → Prop} {x y : Operand} {a0 : Int} {a1 : Int} {a2 : Int} {a3 : Int} {a4 : Int} {a5 : Int} {a6 : Int} {a7 : Int} {a8 : Int} {b0 : Int} {b1 : Int} {b2 : Int} {b3 : Int} {b4 : Int} {b5 : Int} {b6 : Int} {b7 : Int} {b8 : Int} : vBin Try.prog .neq 27 x y (.agg [(.sc (.int .u32 a0)), (.sc (.int .u32 a1)), (.sc (.int .u64 a2)), (.sc (.int .u64 a3)), (.sc (.int .u64 a4)), (.sc (.int .u64 a5)), (.sc (.int .u32 a6)), (.sc (.int .u32 a7)), (.sc (.int .u64 a8))]) (.agg [(.sc (.int .u32 b0)), (.sc (.int .u32 b1)), (.sc (.int .u64 b2)), (.sc (.int .u64 b3)), (.sc (.int .u64 b4)), (.sc (.int .u64 b5)), (.sc (.int .u32 b6)), (.sc (.int .u32 b7)), (.sc (.int .u64 b8))]) h K ↔ K (.sc (.bool (!((a0 == b0) && ((a1 == b1) && ((a2 == b2) && ((a3 == b3) && ((a4 == b4) && ((a5 == b5) && ((a6 == b6) && ((a7 == b7) && ((a8 == b8) && (true))))))))))))) := (vBin_flat [(.int .u32 a0), (.int .u32 a1), (.int .u64 a2), (.int .u64 a3), (.int .u64 a4), (.int .u64 a5), (.int .u32 a6), (.int .u32 a7), (.int .u64 a8)] [(.int .u32 b0), (.int .u32 b1), (.int .u64 b2), (.int .u64 b3), (.int .u64 b4), (.int .u64 b5), (.int .u32 b6), (.int .u32 b7), (.int .u64 b8)] (by kernel_rfl) (by kernel_rfl) (by kernel_rfl) (by kernel_rfl)).2
theorem bo27 : bldO Try.prog 27 = (some ([(.sc (.int .u32 0)), (.sc (.int .u32 0)), (.sc (.int .u64 0)), (.sc (.int .u64 0)), (.sc (.int .u64 0)), (.sc (.int .u64 0)), (.sc (.int .u32 0)), (.sc (.int .u32 0)), (.sc (.int .u64 0))], [(0, 1), (1, 1), (2, 1), (3, 1), (4, 1), (5, 1), (6, 1), (7, 1), (8, 1)])) := by kernel_rfl
theorem ag29 : isAggO Try.prog 29 = (some false) := by kernel_rfl
theorem sz29 : szO Try.prog 29 = (some 1) := by kernel_rfl
theorem el29 : elS Try.prog 29 = (some 1) := by kernel_rfl
theorem ap29 : apO Try.prog 29 = (some (5, (1, 1))) := by kernel_rfl
theorem mk29 : mkO Try.prog 29 = (some (5, (1, (.sc (.int .u8 0))))) := by kernel_rfl
theorem bs29 : bldS Try.prog 29 = (some (5, (1, [(.sc (.int .u8 0))]))) := by kernel_rfl
theorem zc29 : zcO Try.prog 29 = (some [(.isl true 0 [])]) := by kernel_rfl
theorem us29 : Try.prog.underlying 29 = (some (.slice 5)) := by kernel_rfl
theorem is29 : isSl (Try.prog.underlying 29) = true := by kernel_rfl
theorem ag33 : isAggO Try.prog 33 = (some false) := by kernel_rfl
theorem sz33 : szO Try.prog 33 = (some 1) := by kernel_rfl
theorem zc33 : zcO Try.prog 33 = (some [(.sc (.int .i64 0))]) := by kernel_rfl
theorem ik33 : intK (Try.prog.underlying 33) = some .i64 := by kernel_rfl
theorem ag41 : isAggO Try.prog 41 = (some false) := by kernel_rfl
theorem sz41 : szO Try.prog 41 = (some 1) := by kernel_rfl
theorem zc41 : zcO Try.prog 41 = (some [(.sc .nilFunc)]) := by kernel_rfl
theorem ag45 : isAggO Try.prog 45 = (some true) := by kernel_rfl
theorem sz45 : szO Try.prog 45 = (some 2) := by kernel_rfl
theorem zc45 : zcO Try.prog 45 = (some [(.sc (.int .u64 0)), (.sc (.int .i64 0))]) := by kernel_rfl
theorem bo45 : bldO Try.prog 45 = (some ([(.sc (.int .u64 0)), (.sc (.int .i64 0))], [(0, 1), (1, 1)])) := by kernel_rfl
theorem ag47 : isAggO Try.prog 47 = (some false) := by kernel_rfl
theorem sz47 : szO Try.prog 47 = (some 1) := by kernel_rfl
theorem el47 : elS Try.prog 47 = (some 1) := by kernel_rfl
theorem ap47 : apO Try.prog 47 = (some (23, (1, 8))) := by kernel_rfl
theorem mk47 : mkO Try.prog 47 = (some (23, (8, (.sc (.int .u64 0))))) := by kernel_rfl
theorem bs47 : bldS Try.prog 47 = (some (23, (1, [(.sc (.int .u64 0))]))) := by kernel_rfl
theorem zc47 : zcO Try.prog 47 = (some [(.isl true 0 [])]) := by kernel_rfl
theorem us47 : Try.prog.underlying 47 = (some (.slice 23)) := by kernel_rfl
theorem is47 : isSl (Try.prog.underlying 47) = true := by kernel_rfl
theorem ag48 : isAggO Try.prog 48 = (some false) := by kernel_rfl
theorem sz48 : szO Try.prog 48 = (some 1) := by kernel_rfl
theorem el48 : elS Try.prog 48 = (some 1) := by kernel_rfl
theorem ap48 : apO Try.prog 48 = (some (3, (1, 8))) := by kernel_rfl
theorem mk48 : mkO Try.prog 48 = (some (3, (8, (.sc (.int .i64 0))))) := by kernel_rfl
theorem bs48 : bldS Try.prog 48 = (some (3, (1, [(.sc (.int .i64 0))]))) := by kernel_rfl
theorem zc48 : zcO Try.prog 48 = (some [(.isl true 0 [])]) := by kernel_rfl
theorem us48 : Try.prog.underlying 48 = (some (.slice 3)) := by kernel_rfl
theorem is48 : isSl (Try.prog.underlying 48) = true := by kernel_rfl
theorem ag52 : isAggO Try.prog 52 = (some false) := by kernel_rfl
theorem sz52 : szO Try.prog 52 = (some 1) := by kernel_rfl
theorem el52 : elS Try.prog 52 = (some 1) := by kernel_rfl
theorem ap52 : apO Try.prog 52 = (some (33, (1, 8))) := by kernel_rfl
theorem mk52 : mkO Try.prog 52 = (some (33, (8, (.sc (.int .i64 0))))) := by kernel_rfl
theorem bs52 : bldS Try.prog 52 = (some (33, (1, [(.sc (.int .i64 0))]))) := by kernel_rfl
theorem zc52 : zcO Try.prog 52 = (some [(.isl true 0 [])]) := by kernel_rfl
theorem us52 : Try.prog.underlying 52 = (some (.slice 33)) := by kernel_rfl
theorem is52 : isSl (Try.prog.underlying 52) = true := by kernel_rfl
theorem ag56 : isAggO Try.prog 56 = (some false) := by kernel_rfl
theorem sz56 : szO Try.prog 56 = (some 1) := by kernel_rfl
theorem el56 : elS Try.prog 56 = (some 2) := by kernel_rfl
theorem ap56 : apO Try.prog 56 = (some (45, (2, 16))) := by kernel_rfl
theorem bs56 : bldS Try.prog 56 = (some (45, (2, [(.sc (.int .u64 0)), (.sc (.int .i64 0))]))) := by kernel_rfl
theorem zc56 : zcO Try.prog 56 = (some [(.isl true 0 [])]) := by kernel_rfl
theorem us56 : Try.prog.underlying 56 = (some (.slice 45)) := by kernel_rfl
theorem is56 : isSl (Try.prog.underlying 56) = true := by kernel_rfl
theorem ag59 : isAggO Try.prog 59 = (some false) := by kernel_rfl
theorem sz59 : szO Try.prog 59 = (some 1) := by kernel_rfl
theorem zc59 : zcO Try.prog 59 = (some [(.sc (.pointer none))]) := by kernel_rfl
theorem up59 : Try.prog.underlying 59 = (some (.pointer 63)) := by kernel_rfl
theorem pt59 : isPt (Try.prog.underlying 59) = true := by kernel_rfl
theorem ag63 : isAggO Try.prog 63 = (some true) := by kernel_rfl
theorem sz63 : szO Try.prog 63 = (some 3) := by kernel_rfl
theorem zc63 : zcO Try.prog 63 = (some [(.isl true 0 []), (.sc (.int .i64 0)), (.sc (.bool false))]) := by kernel_rfl
theorem bo63 : bldO Try.prog 63 = (some ([(.isl true 0 []), (.sc (.int .i64 0)), (.sc (.bool false))], [(0, 1), (1, 1), (2, 1)])) := by kernel_rfl
theorem of25_0 : offO Try.prog 25 0 = (some 0) := by kernel_rfl
theorem fd25_0 : fldO Try.prog 25 0 = (some (0, ((some false), (some 1)))) := by kernel_rfl
theorem of25_1 : offO Try.prog 25 1 = (some 1) := by kernel_rfl
theorem fd25_1 : fldO Try.prog 25 1 = (some (1, ((some false), (some 1)))) := by kernel_rfl
theorem of25_2 : offO Try.prog 25 2 = (some 2) := by kernel_rfl
theorem fd25_2 : fldO Try.prog 25 2 = (some (2, ((some false), (some 1)))) := by kernel_rfl
theorem of25_3 : offO Try.prog 25 3 = (some 3) := by kernel_rfl
theorem fd25_3 : fldO Try.prog 25 3 = (some (3, ((some false), (some 1)))) := by kernel_rfl
theorem of25_4 : offO Try.prog 25 4 = (some 4) := by kernel_rfl
theorem fd25_4 : fldO Try.prog 25 4 = (some (4, ((some false), (some 1)))) := by kernel_rfl
theorem of25_5 : offO Try.prog 25 5 = (some 5) := by kernel_rfl
theorem fd25_5 : fldO Try.prog 25 5 = (some (5, ((some false), (some 1)))) := by kernel_rfl
theorem of25_6 : offO Try.prog 25 6 = (some 6) := by kernel_rfl
theorem fd25_6 : fldO Try.prog 25 6 = (some (6, ((some false), (some 1)))) := by kernel_rfl
theorem of25_7 : offO Try.prog 25 7 = (some 7) := by kernel_rfl
theorem fd25_7 : fldO Try.prog 25 7 = (some (7, ((some false), (some 1)))) := by kernel_rfl
theorem of25_8 : offO Try.prog 25 8 = (some 8) := by kernel_rfl
theorem fd25_8 : fldO Try.prog 25 8 = (some (8, ((some false), (some 1)))) := by kernel_rfl
theorem of27_0 : offO Try.prog 27 0 = (some 0) := by kernel_rfl
theorem fd27_0 : fldO Try.prog 27 0 = (some (0, ((some false), (some 1)))) := by kernel_rfl
theorem of27_1 : offO Try.prog 27 1 = (some 1) := by kernel_rfl
theorem fd27_1 : fldO Try.prog 27 1 = (some (1, ((some false), (some 1)))) := by kernel_rfl
theorem of27_2 : offO Try.prog 27 2 = (some 2) := by kernel_rfl
theorem fd27_2 : fldO Try.prog 27 2 = (some (2, ((some false), (some 1)))) := by kernel_rfl
theorem of27_3 : offO Try.prog 27 3 = (some 3) := by kernel_rfl
theorem fd27_3 : fldO Try.prog 27 3 = (some (3, ((some false), (some 1)))) := by kernel_rfl
theorem of27_4 : offO Try.prog 27 4 = (some 4) := by kernel_rfl
theorem fd27_4 : fldO Try.prog 27 4 = (some (4, ((some false), (some 1)))) := by kernel_rfl
theorem of27_5 : offO Try.prog 27 5 = (some 5) := by kernel_rfl
theorem fd27_5 : fldO Try.prog 27 5 = (some (5, ((some false), (some 1)))) := by kernel_rfl
theorem of27_6 : offO Try.prog 27 6 = (some 6) := by kernel_rfl
theorem fd27_6 : fldO Try.prog 27 6 = (some (6, ((some false), (some 1)))) := by kernel_rfl
theorem of27_7 : offO Try.prog 27 7 = (some 7) := by kernel_rfl
theorem fd27_7 : fldO Try.prog 27 7 = (some (7, ((some false), (some 1)))) := by kernel_rfl
theorem of27_8 : offO Try.prog 27 8 = (some 8) := by kernel_rfl
theorem fd27_8 : fldO Try.prog 27 8 = (some (8, ((some false), (some 1)))) := by kernel_rfl
theorem of45_0 : offO Try.prog 45 0 = (some 0) := by kernel_rfl
theorem fd45_0 : fldO Try.prog 45 0 = (some (0, ((some false), (some 1)))) := by kernel_rfl
theorem of45_1 : offO Try.prog 45 1 = (some 1) := by kernel_rfl
theorem fd45_1 : fldO Try.prog 45 1 = (some (1, ((some false), (some 1)))) := by kernel_rfl
theorem of63_0 : offO Try.prog 63 0 = (some 0) := by kernel_rfl
theorem fd63_0 : fldO Try.prog 63 0 = (some (0, ((some false), (some 1)))) := by kernel_rfl
theorem of63_1 : offO Try.prog 63 1 = (some 1) := by kernel_rfl
theorem fd63_1 : fldO Try.prog 63 1 = (some (1, ((some false), (some 1)))) := by kernel_rfl
theorem of63_2 : offO Try.prog 63 2 = (some 2) := by kernel_rfl
theorem fd63_2 : fldO Try.prog 63 2 = (some (2, ((some false), (some 1)))) := by kernel_rfl
theorem ubool : Try.prog.underlying 4 = some .bool := by kernel_rfl
theorem eqb {h : VH} {K : AV → Prop} {x y : Operand} {p q : Bool} : vBin Try.prog .eql 4 x y (.sc (.bool p)) (.sc (.bool q)) h K ↔ K (.sc (.bool (p == q))) := vBin_eqb ubool
theorem neb {h : VH} {K : AV → Prop} {x y : Operand} {p q : Bool} : vBin Try.prog .neq 4 x y (.sc (.bool p)) (.sc (.bool q)) h K ↔ K (.sc (.bool (!(p == q)))) := vBin_neb ubool
theorem mixed : Try.prog.follows .mixedOrders = true := by kernel_rfl
end Go.Proofs.Ytcdjaihaalaepaa.Facts
