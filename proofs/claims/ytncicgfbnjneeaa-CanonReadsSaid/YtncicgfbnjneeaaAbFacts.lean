-- Laid by facts.py: what the types of the seat are. Not trusted: Lean checks it.
import Derived.Test.YtncicgfbnjneeaaAbV11
import Derived.Test.YtncicgfbnjneeaaProg
import Derived.KernelRfl
set_option maxRecDepth 100000
namespace Go.Proofs.Ytncicgfbnjneeaa.Facts
open Go.RowKit Go.Proofs.AbM
theorem ag3 : isAggO Try.prog 3 = (some false) := by kernel_rfl
theorem sz3 : szO Try.prog 3 = (some 1) := by kernel_rfl
theorem zc3 : zcO Try.prog 3 = (some [(.sc (.int .i64 0))]) := by kernel_rfl
theorem ik3 : intK (Try.prog.underlying 3) = some .i64 := by kernel_rfl
theorem ag4 : isAggO Try.prog 4 = (some false) := by kernel_rfl
theorem sz4 : szO Try.prog 4 = (some 1) := by kernel_rfl
theorem zc4 : zcO Try.prog 4 = (some [(.sc (.bool false))]) := by kernel_rfl
theorem ub4 : Try.prog.underlying 4 = (some .bool) := by kernel_rfl
theorem ag5 : isAggO Try.prog 5 = (some false) := by kernel_rfl
theorem sz5 : szO Try.prog 5 = (some 1) := by kernel_rfl
theorem zc5 : zcO Try.prog 5 = (some [(.sc (.int .u8 0))]) := by kernel_rfl
theorem ik5 : intK (Try.prog.underlying 5) = some .u8 := by kernel_rfl
theorem ag22 : isAggO Try.prog 22 = (some false) := by kernel_rfl
theorem sz22 : szO Try.prog 22 = (some 1) := by kernel_rfl
theorem el22 : elS Try.prog 22 = (some 1) := by kernel_rfl
theorem ap22 : apO Try.prog 22 = (some (3, (1, 8))) := by kernel_rfl
theorem mk22 : mkO Try.prog 22 = (some (3, (8, (.sc (.int .i64 0))))) := by kernel_rfl
theorem bs22 : bldS Try.prog 22 = (some (3, (1, [(.sc (.int .i64 0))]))) := by kernel_rfl
theorem zc22 : zcO Try.prog 22 = (some [(.isl true 0 [])]) := by kernel_rfl
theorem us22 : Try.prog.underlying 22 = (some (.slice 3)) := by kernel_rfl
theorem is22 : isSl (Try.prog.underlying 22) = true := by kernel_rfl
theorem ag24 : isAggO Try.prog 24 = (some false) := by kernel_rfl
theorem sz24 : szO Try.prog 24 = (some 1) := by kernel_rfl
theorem el24 : elS Try.prog 24 = (some 1) := by kernel_rfl
theorem ap24 : apO Try.prog 24 = (some (30, (1, 4))) := by kernel_rfl
theorem mk24 : mkO Try.prog 24 = (some (30, (4, (.sc (.int .u32 0))))) := by kernel_rfl
theorem bs24 : bldS Try.prog 24 = (some (30, (1, [(.sc (.int .u32 0))]))) := by kernel_rfl
theorem zc24 : zcO Try.prog 24 = (some [(.isl true 0 [])]) := by kernel_rfl
theorem us24 : Try.prog.underlying 24 = (some (.slice 30)) := by kernel_rfl
theorem is24 : isSl (Try.prog.underlying 24) = true := by kernel_rfl
theorem ag25 : isAggO Try.prog 25 = (some false) := by kernel_rfl
theorem sz25 : szO Try.prog 25 = (some 1) := by kernel_rfl
theorem zc25 : zcO Try.prog 25 = (some [(.sc (.int .i64 0))]) := by kernel_rfl
theorem ik25 : intK (Try.prog.underlying 25) = some .i64 := by kernel_rfl
theorem ag30 : isAggO Try.prog 30 = (some false) := by kernel_rfl
theorem sz30 : szO Try.prog 30 = (some 1) := by kernel_rfl
theorem zc30 : zcO Try.prog 30 = (some [(.sc (.int .u32 0))]) := by kernel_rfl
theorem ik30 : intK (Try.prog.underlying 30) = some .u32 := by kernel_rfl
theorem ag31 : isAggO Try.prog 31 = (some false) := by kernel_rfl
theorem sz31 : szO Try.prog 31 = (some 1) := by kernel_rfl
theorem zc31 : zcO Try.prog 31 = (some [(.sc (.pointer none))]) := by kernel_rfl
theorem up31 : Try.prog.underlying 31 = (some (.pointer 60)) := by kernel_rfl
theorem pt31 : isPt (Try.prog.underlying 31) = true := by kernel_rfl
theorem ag38 : isAggO Try.prog 38 = (some false) := by kernel_rfl
theorem sz38 : szO Try.prog 38 = (some 1) := by kernel_rfl
theorem el38 : elS Try.prog 38 = (some 1) := by kernel_rfl
theorem ap38 : apO Try.prog 38 = (some (5, (1, 1))) := by kernel_rfl
theorem mk38 : mkO Try.prog 38 = (some (5, (1, (.sc (.int .u8 0))))) := by kernel_rfl
theorem bs38 : bldS Try.prog 38 = (some (5, (1, [(.sc (.int .u8 0))]))) := by kernel_rfl
theorem zc38 : zcO Try.prog 38 = (some [(.isl true 0 [])]) := by kernel_rfl
theorem us38 : Try.prog.underlying 38 = (some (.slice 5)) := by kernel_rfl
theorem is38 : isSl (Try.prog.underlying 38) = true := by kernel_rfl
theorem ag39 : isAggO Try.prog 39 = (some false) := by kernel_rfl
theorem sz39 : szO Try.prog 39 = (some 1) := by kernel_rfl
theorem zc39 : zcO Try.prog 39 = (some [(.sc (.pointer none))]) := by kernel_rfl
theorem up39 : Try.prog.underlying 39 = (some (.pointer 62)) := by kernel_rfl
theorem pt39 : isPt (Try.prog.underlying 39) = true := by kernel_rfl
theorem ag49 : isAggO Try.prog 49 = (some true) := by kernel_rfl
theorem sz49 : szO Try.prog 49 = (some 2) := by kernel_rfl
theorem zc49 : zcO Try.prog 49 = (some [(.isl true 0 []), (.sc (.int .i64 0))]) := by kernel_rfl
theorem bo49 : bldO Try.prog 49 = (some ([(.isl true 0 []), (.sc (.int .i64 0))], [(0, 1), (1, 1)])) := by kernel_rfl
theorem ag54 : isAggO Try.prog 54 = (some true) := by kernel_rfl
theorem sz54 : szO Try.prog 54 = (some 16) := by kernel_rfl
theorem ea54 : elA Try.prog 54 = (some (16, (1, (some false)))) := by kernel_rfl
theorem an54 : arrN Try.prog 54 = (some 16) := by kernel_rfl
theorem zc54 : zcO Try.prog 54 = (some [(.sc (.int .u32 0)), (.sc (.int .u32 0)), (.sc (.int .u32 0)), (.sc (.int .u32 0)), (.sc (.int .u32 0)), (.sc (.int .u32 0)), (.sc (.int .u32 0)), (.sc (.int .u32 0)), (.sc (.int .u32 0)), (.sc (.int .u32 0)), (.sc (.int .u32 0)), (.sc (.int .u32 0)), (.sc (.int .u32 0)), (.sc (.int .u32 0)), (.sc (.int .u32 0)), (.sc (.int .u32 0))]) := by kernel_rfl
theorem bo54 : bldO Try.prog 54 = (some ([(.sc (.int .u32 0)), (.sc (.int .u32 0)), (.sc (.int .u32 0)), (.sc (.int .u32 0)), (.sc (.int .u32 0)), (.sc (.int .u32 0)), (.sc (.int .u32 0)), (.sc (.int .u32 0)), (.sc (.int .u32 0)), (.sc (.int .u32 0)), (.sc (.int .u32 0)), (.sc (.int .u32 0)), (.sc (.int .u32 0)), (.sc (.int .u32 0)), (.sc (.int .u32 0)), (.sc (.int .u32 0))], [(0, 1), (1, 1), (2, 1), (3, 1), (4, 1), (5, 1), (6, 1), (7, 1), (8, 1), (9, 1), (10, 1), (11, 1), (12, 1), (13, 1), (14, 1), (15, 1)])) := by kernel_rfl
theorem ag58 : isAggO Try.prog 58 = (some true) := by kernel_rfl
theorem sz58 : szO Try.prog 58 = (some 16) := by kernel_rfl
theorem ea58 : elA Try.prog 58 = (some (16, (1, (some false)))) := by kernel_rfl
theorem an58 : arrN Try.prog 58 = (some 16) := by kernel_rfl
theorem zc58 : zcO Try.prog 58 = (some [(.isl true 0 []), (.isl true 0 []), (.isl true 0 []), (.isl true 0 []), (.isl true 0 []), (.isl true 0 []), (.isl true 0 []), (.isl true 0 []), (.isl true 0 []), (.isl true 0 []), (.isl true 0 []), (.isl true 0 []), (.isl true 0 []), (.isl true 0 []), (.isl true 0 []), (.isl true 0 [])]) := by kernel_rfl
theorem bo58 : bldO Try.prog 58 = (some ([(.isl true 0 []), (.isl true 0 []), (.isl true 0 []), (.isl true 0 []), (.isl true 0 []), (.isl true 0 []), (.isl true 0 []), (.isl true 0 []), (.isl true 0 []), (.isl true 0 []), (.isl true 0 []), (.isl true 0 []), (.isl true 0 []), (.isl true 0 []), (.isl true 0 []), (.isl true 0 [])], [(0, 1), (1, 1), (2, 1), (3, 1), (4, 1), (5, 1), (6, 1), (7, 1), (8, 1), (9, 1), (10, 1), (11, 1), (12, 1), (13, 1), (14, 1), (15, 1)])) := by kernel_rfl
theorem ag60 : isAggO Try.prog 60 = (some true) := by kernel_rfl
theorem sz60 : szO Try.prog 60 = (some 35) := by kernel_rfl
theorem zc60 : zcO Try.prog 60 = (some [(.isl true 0 []), (.isl true 0 []), (.sc (.int .u32 0)), (.sc (.int .u32 0)), (.sc (.int .u32 0)), (.sc (.int .u32 0)), (.sc (.int .u32 0)), (.sc (.int .u32 0)), (.sc (.int .u32 0)), (.sc (.int .u32 0)), (.sc (.int .u32 0)), (.sc (.int .u32 0)), (.sc (.int .u32 0)), (.sc (.int .u32 0)), (.sc (.int .u32 0)), (.sc (.int .u32 0)), (.sc (.int .u32 0)), (.sc (.int .u32 0)), (.isl true 0 []), (.isl true 0 []), (.isl true 0 []), (.isl true 0 []), (.isl true 0 []), (.isl true 0 []), (.isl true 0 []), (.isl true 0 []), (.isl true 0 []), (.isl true 0 []), (.isl true 0 []), (.isl true 0 []), (.isl true 0 []), (.isl true 0 []), (.isl true 0 []), (.isl true 0 []), (.sc (.int .i64 0))]) := by kernel_rfl
theorem bo60 : bldO Try.prog 60 = (some ([(.isl true 0 []), (.isl true 0 []), (.sc (.int .u32 0)), (.sc (.int .u32 0)), (.sc (.int .u32 0)), (.sc (.int .u32 0)), (.sc (.int .u32 0)), (.sc (.int .u32 0)), (.sc (.int .u32 0)), (.sc (.int .u32 0)), (.sc (.int .u32 0)), (.sc (.int .u32 0)), (.sc (.int .u32 0)), (.sc (.int .u32 0)), (.sc (.int .u32 0)), (.sc (.int .u32 0)), (.sc (.int .u32 0)), (.sc (.int .u32 0)), (.isl true 0 []), (.isl true 0 []), (.isl true 0 []), (.isl true 0 []), (.isl true 0 []), (.isl true 0 []), (.isl true 0 []), (.isl true 0 []), (.isl true 0 []), (.isl true 0 []), (.isl true 0 []), (.isl true 0 []), (.isl true 0 []), (.isl true 0 []), (.isl true 0 []), (.isl true 0 []), (.sc (.int .i64 0))], [(0, 1), (1, 1), (2, 16), (18, 16), (34, 1)])) := by kernel_rfl
theorem ag62 : isAggO Try.prog 62 = (some true) := by kernel_rfl
theorem sz62 : szO Try.prog 62 = (some 2) := by kernel_rfl
theorem zc62 : zcO Try.prog 62 = (some [(.isl true 0 []), (.sc (.int .i64 0))]) := by kernel_rfl
theorem bo62 : bldO Try.prog 62 = (some ([(.isl true 0 []), (.sc (.int .i64 0))], [(0, 1), (1, 1)])) := by kernel_rfl
theorem ag68 : isAggO Try.prog 68 = (some false) := by kernel_rfl
theorem sz68 : szO Try.prog 68 = (some 1) := by kernel_rfl
theorem zc68 : zcO Try.prog 68 = (some [(.sc (.pointer none))]) := by kernel_rfl
theorem up68 : Try.prog.underlying 68 = (some (.pointer 49)) := by kernel_rfl
theorem pt68 : isPt (Try.prog.underlying 68) = true := by kernel_rfl
theorem ag72 : isAggO Try.prog 72 = (some false) := by kernel_rfl
theorem sz72 : szO Try.prog 72 = (some 1) := by kernel_rfl
theorem zc72 : zcO Try.prog 72 = (some [(.sc .nilFunc)]) := by kernel_rfl
theorem ag73 : isAggO Try.prog 73 = (some true) := by kernel_rfl
theorem sz73 : szO Try.prog 73 = (some 16) := by kernel_rfl
theorem ea73 : elA Try.prog 73 = (some (16, (1, (some false)))) := by kernel_rfl
theorem an73 : arrN Try.prog 73 = (some 16) := by kernel_rfl
theorem zc73 : zcO Try.prog 73 = (some [(.sc (.int .i64 0)), (.sc (.int .i64 0)), (.sc (.int .i64 0)), (.sc (.int .i64 0)), (.sc (.int .i64 0)), (.sc (.int .i64 0)), (.sc (.int .i64 0)), (.sc (.int .i64 0)), (.sc (.int .i64 0)), (.sc (.int .i64 0)), (.sc (.int .i64 0)), (.sc (.int .i64 0)), (.sc (.int .i64 0)), (.sc (.int .i64 0)), (.sc (.int .i64 0)), (.sc (.int .i64 0))]) := by kernel_rfl
theorem bo73 : bldO Try.prog 73 = (some ([(.sc (.int .i64 0)), (.sc (.int .i64 0)), (.sc (.int .i64 0)), (.sc (.int .i64 0)), (.sc (.int .i64 0)), (.sc (.int .i64 0)), (.sc (.int .i64 0)), (.sc (.int .i64 0)), (.sc (.int .i64 0)), (.sc (.int .i64 0)), (.sc (.int .i64 0)), (.sc (.int .i64 0)), (.sc (.int .i64 0)), (.sc (.int .i64 0)), (.sc (.int .i64 0)), (.sc (.int .i64 0))], [(0, 1), (1, 1), (2, 1), (3, 1), (4, 1), (5, 1), (6, 1), (7, 1), (8, 1), (9, 1), (10, 1), (11, 1), (12, 1), (13, 1), (14, 1), (15, 1)])) := by kernel_rfl
theorem of49_0 : offO Try.prog 49 0 = (some 0) := by kernel_rfl
theorem fd49_0 : fldO Try.prog 49 0 = (some (0, ((some false), (some 1)))) := by kernel_rfl
theorem of49_1 : offO Try.prog 49 1 = (some 1) := by kernel_rfl
theorem fd49_1 : fldO Try.prog 49 1 = (some (1, ((some false), (some 1)))) := by kernel_rfl
theorem of60_0 : offO Try.prog 60 0 = (some 0) := by kernel_rfl
theorem fd60_0 : fldO Try.prog 60 0 = (some (0, ((some false), (some 1)))) := by kernel_rfl
theorem of60_1 : offO Try.prog 60 1 = (some 1) := by kernel_rfl
theorem fd60_1 : fldO Try.prog 60 1 = (some (1, ((some false), (some 1)))) := by kernel_rfl
theorem of60_2 : offO Try.prog 60 2 = (some 2) := by kernel_rfl
theorem fd60_2 : fldO Try.prog 60 2 = (some (2, ((some true), (some 16)))) := by kernel_rfl
theorem of60_3 : offO Try.prog 60 3 = (some 18) := by kernel_rfl
theorem fd60_3 : fldO Try.prog 60 3 = (some (18, ((some true), (some 16)))) := by kernel_rfl
theorem of60_4 : offO Try.prog 60 4 = (some 34) := by kernel_rfl
theorem fd60_4 : fldO Try.prog 60 4 = (some (34, ((some false), (some 1)))) := by kernel_rfl
theorem of62_0 : offO Try.prog 62 0 = (some 0) := by kernel_rfl
theorem fd62_0 : fldO Try.prog 62 0 = (some (0, ((some false), (some 1)))) := by kernel_rfl
theorem of62_1 : offO Try.prog 62 1 = (some 1) := by kernel_rfl
theorem fd62_1 : fldO Try.prog 62 1 = (some (1, ((some false), (some 1)))) := by kernel_rfl
theorem ubool : Try.prog.underlying 4 = some .bool := by kernel_rfl
theorem eqb {h : VH} {K : AV → Prop} {x y : Operand} {p q : Bool} : vBin Try.prog .eql 4 x y (.sc (.bool p)) (.sc (.bool q)) h K ↔ K (.sc (.bool (p == q))) := vBin_eqb ubool
theorem neb {h : VH} {K : AV → Prop} {x y : Operand} {p q : Bool} : vBin Try.prog .neq 4 x y (.sc (.bool p)) (.sc (.bool q)) h K ↔ K (.sc (.bool (!(p == q)))) := vBin_neb ubool
theorem mixed : Try.prog.follows .mixedOrders = true := by kernel_rfl
end Go.Proofs.Ytncicgfbnjneeaa.Facts
