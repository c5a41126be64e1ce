/- The functions in the small language. Conditions: none. -/
import Derived.Test.YtgfglinlmnbjbaaAmFns
namespace Go.Proofs.Ytgfglinlmnbjbaa.AM
set_option linter.unusedSimpArgs false
set_option linter.unusedVariables false
open Go Go.RowKit

/-- slices.siftDownOrdered[int] -/
def ir139 : IFn := ⟨76, [],
(.seq (.ops [mvO 10 1,
mvO 8 10] (some [0, 2, 3, 8]))
(.block 0 (.loop (.block 1 (.seq (.ops [mvO 11 8,
opO 12 (.ibin .mul .i64 (ci 2) (.t 11)),
pO 13 12 1,
mvO 9 13] (some [0, 2, 3, 8, 9]))
(.seq (.seq (.ops [mvO 14 9,
mvO 15 2,
opO 16 (.ibin .geq .i64 (.t 14) (.t 15))] (some [0, 2, 3, 8, 9, 16]))
(.cond (.t 16)
(.exit 0)
.skip))
(.seq (.seq (.draw (.rd 0 (mvO 17 9)
(.rd 1 (pO 18 17 1)
(.rd 2 (mvO 19 2)
(.rd 3 (sO 20 18 19)
(.rd 4 (mvO 21 20)
(.rd 5 ⟨(some 22), (some (21, true)), .mov (.t 0)⟩
(.rd 6 ⟨(some 23), (some (21, true)), .mov (.t 3)⟩
(.rd 7 ⟨(some 24), (some (21, true)), .mov (.t 9)⟩
(.rd 8 ⟨(some 25), (some (21, true)), .ibin .add .i64 (.t 23) (.t 24)⟩
(.rd 9 ⟨(some 26), (some (21, true)), .iaddr 1 (.t 22) (.t 25)⟩
(.rd 10 ⟨(some 27), (some (21, true)), .load 1 false (.t 26)⟩
(.rd 11 ⟨(some 28), (some (21, true)), .mov (.t 0)⟩
(.rd 12 ⟨(some 29), (some (21, true)), .mov (.t 3)⟩
(.rd 13 ⟨(some 30), (some (21, true)), .mov (.t 9)⟩
(.rd 14 ⟨(some 31), (some (21, true)), .ibin .add .i64 (.t 29) (.t 30)⟩
(.rd 15 ⟨(some 32), (some (21, true)), .ibin .add .i64 (.t 31) (ci 1)⟩
(.rd 16 ⟨(some 33), (some (21, true)), .iaddr 1 (.t 28) (.t 32)⟩
(.rd 17 ⟨(some 34), (some (21, true)), .load 1 false (.t 33)⟩
(.wr 18 ⟨(some 35), (some (21, true)), .call 122 [(.t 27), (.t 34)]⟩ [10, 17, 4, 4]
(.rd 19 (opO 36 (.pick (.t 21) (.t 35) (.c (.bool false))))
.fin) .no))))))))))))))))))) (some [0, 2, 3, 8, 9, 36]))
(.cond (.t 36)
(.ops [mvO 37 9,
pO 38 37 1,
mvO 9 38] (some [0, 2, 3, 8, 9]))
.skip))
(.seq (.seq (.draw (.rd 0 (mvO 39 0)
(.rd 1 (mvO 40 3)
(.rd 2 (mvO 41 8)
(.rd 3 (opO 42 (.ibin .add .i64 (.t 40) (.t 41)))
(.rd 4 (iO 43 1 39 42)
(.rd 5 (lO 44 1 43)
(.rd 6 (mvO 45 0)
(.rd 7 (mvO 46 3)
(.rd 8 (mvO 47 9)
(.rd 9 (opO 48 (.ibin .add .i64 (.t 46) (.t 47)))
(.rd 10 (iO 49 1 45 48)
(.rd 11 (lO 50 1 49)
(.wr 12 (opO 51 (.call 122 [(.t 44), (.t 50)])) [5, 11]
(.rd 13 (opO 52 (.un .not (.t 51)))
.fin) .no))))))))))))) (some [0, 2, 3, 8, 9, 52]))
(.cond (.t 52)
.ret
.skip))
(.seq (.draw (.rd 0 (mvO 53 0)
(.rd 1 (mvO 54 3)
(.rd 2 (mvO 55 8)
(.rd 3 (opO 56 (.ibin .add .i64 (.t 54) (.t 55)))
(.rd 4 (mvO 57 0)
(.rd 5 (mvO 58 3)
(.rd 6 (mvO 59 9)
(.rd 7 (opO 60 (.ibin .add .i64 (.t 58) (.t 59)))
(.rd 8 (mvO 61 0)
(.rd 9 (mvO 62 3)
(.rd 10 (mvO 63 9)
(.rd 11 (opO 64 (.ibin .add .i64 (.t 62) (.t 63)))
(.rd 12 (iO 65 1 61 64)
(.rd 13 (lO 66 1 65)
(.rd 14 (mvO 67 0)
(.rd 15 (mvO 68 3)
(.rd 16 (mvO 69 8)
(.rd 17 (opO 70 (.ibin .add .i64 (.t 68) (.t 69)))
(.rd 18 (iO 71 1 67 70)
(.rd 19 (lO 72 1 71)
(.rd 20 (iO 73 1 53 56)
(.wr 21 ⟨none, none, .store 1 (.t 73) (.t 66)⟩ [20, 13, 0, 1, 2, 3, 8, 9, 10, 11, 12, 13, 19]
(.rd 22 (iO 74 1 57 60)
(.wr 23 ⟨none, none, .store 1 (.t 74) (.t 72)⟩ [22, 19, 21, 0, 1, 2, 3, 4, 5, 6, 7, 8, 9, 10, 11, 12, 13, 14, 15, 16, 17, 18, 19, 20, 21]
.fin .no)) .no)))))))))))))))))))))) (some [0, 2, 3, 9]))
(.ops [mvO 75 9,
mvO 8 75] (some [0, 2, 3, 8])))))))))))⟩
/-- slices.nextPowerOfTwo -/
def ir140 : IFn := ⟨7, [.t 2],
(.seq (.ops [opO 2 (.mov (.c (.int .u64 0)))] (some [0]))
(.seq (.ops [mvO 3 0,
opO 4 (.conv .u64 (.t 3)),
cO 5 119 4,
opO 6 (.shift .shl .u64 (.c (.int .u64 1)) (.t 5)),
mvO 2 6] (some [2]))
.ret))⟩
/-- (*slices.xorshift).Next -/
def ir141 : IFn := ⟨33, [.t 2],
(.seq (.ops [opO 2 (.mov (.c (.int .u64 0)))] (some [0]))
(.seq (.draw (.rd 0 (mvO 3 0)
(.rd 1 (opO 4 (.nilchk (.t 3)))
(.rd 2 (lO 5 1 4)
(.rd 3 (mvO 6 0)
(.rd 4 (opO 7 (.nilchk (.t 6)))
(.rd 5 (lO 8 1 7)
(.rd 6 (opO 9 (.shift .shl .u64 (.t 8) (.c (.int .u64 13))))
(.rd 7 (opO 10 (.ibin .xor .u64 (.t 5) (.t 9)))
(.rd 8 (opO 11 (.nilchk (.t 3)))
(.wr 9 ⟨none, none, .store 1 (.t 11) (.t 10)⟩ [8, 7, 0, 1, 2, 3, 4, 5, 6, 7]
.fin .no)))))))))) (some [0]))
(.seq (.draw (.rd 0 (mvO 12 0)
(.rd 1 (opO 13 (.nilchk (.t 12)))
(.rd 2 (lO 14 1 13)
(.rd 3 (mvO 15 0)
(.rd 4 (opO 16 (.nilchk (.t 15)))
(.rd 5 (lO 17 1 16)
(.rd 6 (opO 18 (.shift .shr .u64 (.t 17) (.c (.int .u64 7))))
(.rd 7 (opO 19 (.ibin .xor .u64 (.t 14) (.t 18)))
(.rd 8 (opO 20 (.nilchk (.t 12)))
(.wr 9 ⟨none, none, .store 1 (.t 20) (.t 19)⟩ [8, 7, 0, 1, 2, 3, 4, 5, 6, 7]
.fin .no)))))))))) (some [0]))
(.seq (.draw (.rd 0 (mvO 21 0)
(.rd 1 (opO 22 (.nilchk (.t 21)))
(.rd 2 (lO 23 1 22)
(.rd 3 (mvO 24 0)
(.rd 4 (opO 25 (.nilchk (.t 24)))
(.rd 5 (lO 26 1 25)
(.rd 6 (opO 27 (.shift .shl .u64 (.t 26) (.c (.int .u64 17))))
(.rd 7 (opO 28 (.ibin .xor .u64 (.t 23) (.t 27)))
(.rd 8 (opO 29 (.nilchk (.t 21)))
(.wr 9 ⟨none, none, .store 1 (.t 29) (.t 28)⟩ [8, 7, 0, 1, 2, 3, 4, 5, 6, 7]
.fin .no)))))))))) (some [0]))
(.seq (.ops [mvO 30 0,
opO 31 (.nilchk (.t 30)),
lO 32 1 31,
mvO 2 32] (some [2]))
.ret)))))⟩
/-- slices.medianAdjacentOrdered[int] -/
def ir142 : IFn := ⟨15, [.t 6],
(.seq (.ops [mO 6 0] (some [0, 1, 2]))
(.seq (.ops [mvO 7 0,
mvO 8 1,
opO 9 (.ibin .sub .i64 (.t 8) (ci 1)),
mvO 10 1,
mvO 11 1,
pO 12 11 1,
mvO 13 2,
opO 14 (.call 143 [(.t 7), (.t 9), (.t 10), (.t 12), (.t 13)]),
mvO 6 14] (some [6]))
.ret))⟩
/-- slices.medianOrdered[int] -/
def ir143 : IFn := ⟨36, [.t 10],
(.seq (.ops [mO 10 0] (some [0, 1, 2, 3, 4]))
(.seq (.ops [mvO 12 0,
mvO 13 1,
mvO 14 2,
mvO 15 4,
opO 16 (.call 146 [(.t 12), (.t 13), (.t 14), (.t 15)]),
mvO 11 16,
xO 17 0 11,
xO 18 1 11,
mvO 1 17,
mvO 2 18] (some [0, 1, 2, 3, 4]))
(.seq (.ops [mvO 20 0,
mvO 21 2,
mvO 22 3,
mvO 23 4,
opO 24 (.call 146 [(.t 20), (.t 21), (.t 22), (.t 23)]),
mvO 19 24,
xO 25 0 19,
xO 26 1 19,
mvO 2 25,
mvO 3 26] (some [0, 1, 2, 4]))
(.seq (.ops [mvO 28 0,
mvO 29 1,
mvO 30 2,
mvO 31 4,
opO 32 (.call 146 [(.t 28), (.t 29), (.t 30), (.t 31)]),
mvO 27 32,
xO 33 0 27,
xO 34 1 27,
mvO 1 33,
mvO 2 34] (some [2]))
(.seq (.ops [mvO 35 2,
mvO 10 35] (some [10]))
.ret)))))⟩
/-- slices.rotateCmpFunc[int] -/
def ir144 : IFn := ⟨58, [],
(.seq (.ops [mvO 12 2,
mvO 13 1,
opO 14 (.ibin .sub .i64 (.t 12) (.t 13)),
mvO 10 14] (some [0, 2, 3, 4, 10]))
(.seq (.ops [mvO 15 3,
mvO 16 2,
opO 17 (.ibin .sub .i64 (.t 15) (.t 16)),
mvO 11 17] (some [0, 2, 4, 10, 11]))
(.seq (.block 0 (.loop (.seq (.seq (.ops [mvO 18 10,
mvO 19 11,
opO 20 (.ibin .neq .i64 (.t 18) (.t 19))] (some [0, 2, 4, 10, 11, 20]))
(.cond (.t 20)
.skip
(.exit 0)))
(.block 1 (.seq (.ops [mvO 21 10,
mvO 22 11,
opO 23 (.ibin .gtr .i64 (.t 21) (.t 22))] (some [0, 2, 4, 10, 11, 23]))
(.cond (.t 23)
(.seq (.ops [mvO 24 0,
mvO 25 2,
mvO 26 10,
opO 27 (.ibin .sub .i64 (.t 25) (.t 26)),
mvO 28 2,
mvO 29 11,
mvO 30 4,
opO 31 (.call 147 [(.t 24), (.t 27), (.t 28), (.t 29), (.t 30)])] (some [0, 2, 4, 10, 11]))
(.ops [mvO 32 10,
mvO 33 11,
opO 34 (.ibin .sub .i64 (.t 32) (.t 33)),
mvO 10 34] (some [0, 2, 4, 10, 11])))
(.seq (.ops [mvO 35 0,
mvO 36 2,
mvO 37 10,
opO 38 (.ibin .sub .i64 (.t 36) (.t 37)),
mvO 39 2,
mvO 40 11,
opO 41 (.ibin .add .i64 (.t 39) (.t 40)),
mvO 42 10,
opO 43 (.ibin .sub .i64 (.t 41) (.t 42)),
mvO 44 10,
mvO 45 4,
opO 46 (.call 147 [(.t 35), (.t 38), (.t 43), (.t 44), (.t 45)])] (some [0, 2, 4, 10, 11]))
(.ops [mvO 47 11,
mvO 48 10,
opO 49 (.ibin .sub .i64 (.t 47) (.t 48)),
mvO 11 49] (some [0, 2, 4, 10, 11])))))))))
(.ops [mvO 50 0,
mvO 51 2,
mvO 52 10,
opO 53 (.ibin .sub .i64 (.t 51) (.t 52)),
mvO 54 2,
mvO 55 10,
mvO 56 4,
opO 57 (.call 147 [(.t 50), (.t 53), (.t 54), (.t 55), (.t 56)])] (some [])))))⟩
/-- slices.Index[[]int,int] -/
def ir145 : IFn := ⟨19, [.t 4],
(.seq (.ops [mO 4 0] (some [0, 1]))
(.seq (.seq (.ops [mvO 6 0,
nO 7 6,
mO 8 0] (some [0, 1, 7, 8]))
(.block 0 (.loop (.seq (.ops [sO 9 8 7] none)
(.seq (.cond (.t 9)
.skip
(.exit 0))
(.seq (.block 1 (.seq (.ops [mvO 10 8,
mvO 5 10] (some [0, 1, 5, 7, 8]))
(.seq (.ops [mvO 11 1,
mvO 12 0,
mvO 13 5,
iO 14 1 12 13,
lO 15 1 14,
opO 16 (.ibin .eql .i64 (.t 11) (.t 15))] (some [0, 1, 5, 7, 8, 16]))
(.cond (.t 16)
(.seq (.ops [mvO 17 5,
mvO 4 17] (some [4]))
.ret)
.skip))))
(.ops [pO 18 8 1,
mvO 8 18] (some [0, 1, 7, 8]))))))))
(.seq (.ops [opO 4 (.mov (ci (-1)))] none)
.ret)))⟩
/-- slices.order2Ordered[int] -/
def ir146 : IFn := ⟨28, [.t 8, .t 9],
(.seq (.ops [mO 8 0,
mO 9 0] (some [0, 1, 2, 3]))
(.seq (.seq (.draw (.rd 0 (mvO 10 0)
(.rd 1 (mvO 11 2)
(.rd 2 (iO 12 1 10 11)
(.rd 3 (lO 13 1 12)
(.rd 4 (mvO 14 0)
(.rd 5 (mvO 15 1)
(.rd 6 (iO 16 1 14 15)
(.rd 7 (lO 17 1 16)
(.wr 8 (opO 18 (.call 122 [(.t 13), (.t 17)])) [3, 7]
.fin .no))))))))) (some [1, 2, 3, 18]))
(.cond (.t 18)
(.seq (.ops [mvO 19 3,
opO 20 (.nilchk (.t 19)),
lO 21 1 20,
pO 22 21 1,
opO 23 (.nilchk (.t 19)),
⟨none, none, .store 1 (.t 23) (.t 22)⟩] (some [1, 2]))
(.seq (.ops [mvO 24 2,
mvO 25 1,
mvO 8 24,
mvO 9 25] (some [8, 9]))
.ret))
.skip))
(.seq (.ops [mvO 26 1,
mvO 27 2,
mvO 8 26,
mvO 9 27] (some [8, 9]))
.ret)))⟩
/-- slices.swapRangeCmpFunc[int] -/
def ir147 : IFn := ⟨38, [],
(.seq (.ops [mO 10 0] none)
(.block 0 (.loop (.seq (.seq (.ops [mvO 11 10,
mvO 12 3,
sO 13 11 12] (some [0, 1, 2, 3, 10, 13]))
(.cond (.t 13)
.skip
(.exit 0)))
(.seq (.block 1 (.draw (.rd 0 (mvO 16 0)
(.rd 1 (mvO 17 1)
(.rd 2 (mvO 18 10)
(.rd 3 (opO 19 (.ibin .add .i64 (.t 17) (.t 18)))
(.rd 4 (mvO 20 0)
(.rd 5 (mvO 21 2)
(.rd 6 (mvO 22 10)
(.rd 7 (opO 23 (.ibin .add .i64 (.t 21) (.t 22)))
(.rd 8 (mvO 24 0)
(.rd 9 (mvO 25 2)
(.rd 10 (mvO 26 10)
(.rd 11 (opO 27 (.ibin .add .i64 (.t 25) (.t 26)))
(.rd 12 (iO 28 1 24 27)
(.rd 13 (lO 29 1 28)
(.rd 14 (mvO 30 0)
(.rd 15 (mvO 31 1)
(.rd 16 (mvO 32 10)
(.rd 17 (opO 33 (.ibin .add .i64 (.t 31) (.t 32)))
(.rd 18 (iO 34 1 30 33)
(.rd 19 (lO 35 1 34)
(.rd 20 (iO 36 1 16 19)
(.wr 21 ⟨none, none, .store 1 (.t 36) (.t 29)⟩ [20, 13, 0, 1, 2, 3, 8, 9, 10, 11, 12, 13, 19]
(.rd 22 (iO 37 1 20 23)
(.wr 23 ⟨none, none, .store 1 (.t 37) (.t 35)⟩ [22, 19, 21, 0, 1, 2, 3, 4, 5, 6, 7, 8, 9, 10, 11, 12, 13, 14, 15, 16, 17, 18, 19, 20, 21]
.fin .no)) .no)))))))))))))))))))))) (some [0, 1, 2, 3, 10])))
(.ops [mvO 14 10,
pO 15 14 1,
mvO 10 15] (some [0, 1, 2, 3, 10])))))))⟩

end Go.Proofs.Ytgfglinlmnbjbaa.AM
