/-
Proofs for the law ProjectSides of the seat, part 18 (texts DevG2). Conditions: none.
-/
import Derived.Test.YtalcegbealdigaaGreatDoorP17
set_option maxRecDepth 100000
set_option maxHeartbeats 4000000
set_option linter.all false
namespace Go.Ab
def g.slices_insertionSortCmpFunc_api_Monomial_l2 : GC :=
.seq (.seq (.reg [zm 12 8,zm 13 2,zb 14 .lss 12 13] [[],[],[12,13]])
 (.cond (.t 14) [14] .nop
 (.ext 0)))
 (.seq (.blk 1 (.seq (.reg [zm 17 8,zm 9 17] [[],[17]])
 (.blk 2 (.loop g.slices_insertionSortCmpFunc_api_Monomial_l1))))
 (.reg [zm 15 8,zo 16 (.ibin .add (.t 15) (.c (.p (.int .i64 1)))),zm 8 16] [[8,9],[15],[16]]))
def g.slices_insertionSortCmpFunc_api_Monomial : GC :=
.seq (.reg [zm 10 1,zo 11 (.ibin .add (.t 10) (.c (.p (.int .i64 1)))),zm 8 11] [[],[10],[11]])
 (.blk 0 (.loop g.slices_insertionSortCmpFunc_api_Monomial_l2))
def g.math_bits_Len32 : GC :=
.seq (.reg [zo 2 (.mv (.c (.p (.int .i64 0))))] [])
 (.seq (.seq (.reg [zm 3 0,zo 4 (.ibin .geq (.t 3) (.c (.p (.int .u32 65536))))] [[],[3]])
 (.cond (.t 4) [4] (.seq (.reg [zm 5 0,zo 6 (.ibin .shr (.t 5) (.c (.p (.int .u64 16)))),zm 0 6] [[0,2],[5],[6]])
 (.reg [zo 2 (.mv (.c (.p (.int .i64 16))))] []))
 .nop))
 (.seq (.seq (.reg [zm 7 0,zo 8 (.ibin .geq (.t 7) (.c (.p (.int .u32 256))))] [[],[7]])
 (.cond (.t 8) [8] (.seq (.reg [zm 9 0,zo 10 (.ibin .shr (.t 9) (.c (.p (.int .u64 8)))),zm 0 10] [[0],[9],[10]])
 (.reg [zm 11 2,zo 12 (.ibin .add (.t 11) (.c (.p (.int .i64 8)))),zm 2 12] [[2],[11],[12]]))
 .nop))
 (.seq (.reg [zm 13 2,zm 14 0,zo 15 (.conv .u8 (.t 14)),zo 16 (.sidx (.c (.p (.str (bya [0,1,2,2,3,3,3,3,4,4,4,4,4,4,4,4,5,5,5,5,5,5,5,5,5,5,5,5,5,5,5,5,6,6,6,6,6,6,6,6,6,6,6,6,6,6,6,6,6,6,6,6,6,6,6,6,6,6,6,6,6,6,6,6,7,7,7,7,7,7,7,7,7,7,7,7,7,7,7,7,7,7,7,7,7,7,7,7,7,7,7,7,7,7,7,7,7,7,7,7,7,7,7,7,7,7,7,7,7,7,7,7,7,7,7,7,7,7,7,7,7,7,7,7,7,7,7,7,8,8,8,8,8,8,8,8,8,8,8,8,8,8,8,8,8,8,8,8,8,8,8,8,8,8,8,8,8,8,8,8,8,8,8,8,8,8,8,8,8,8,8,8,8,8,8,8,8,8,8,8,8,8,8,8,8,8,8,8,8,8,8,8,8,8,8,8,8,8,8,8,8,8,8,8,8,8,8,8,8,8,8,8,8,8,8,8,8,8,8,8,8,8,8,8,8,8,8,8,8,8,8,8,8,8,8,8,8,8,8,8,8,8,8,8,8,8,8,8,8,8,8,8,8,8,8,8])))) (.t 15)),zo 17 (.conv .i64 (.t 16)),zb 18 .add 13 17,zm 2 18] [[2],[0],[14],[15],[16],[13,17],[18]])
 .ret)))
end Go.Ab
