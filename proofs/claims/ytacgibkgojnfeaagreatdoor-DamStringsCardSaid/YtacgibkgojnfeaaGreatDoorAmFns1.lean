/- The functions in the small language. Conditions: none. -/
import Derived.Test.YtacgibkgojnfeaaGreatDoorAmFn
namespace Go.Proofs.YtacgibkgojnfeaaGreatDoor.AM
set_option linter.unusedSimpArgs false
set_option linter.unusedVariables false
open Go Go.RowKit

/-- (*slices.xorshift).Next -/
def ir141 : IFn := ⟨33, [.t 2],
(.seq (.ops [⟨(some 2), none, .mov (.c (.int .u64 0))⟩] (some [0]))
(.seq (.draw (.rd 0 ⟨(some 3), none, .mov (.t 0)⟩
(.rd 1 ⟨(some 4), none, .nilchk (.t 3)⟩
(.rd 2 ⟨(some 5), none, .load 1 false (.t 4)⟩
(.rd 3 ⟨(some 6), none, .mov (.t 0)⟩
(.rd 4 ⟨(some 7), none, .nilchk (.t 6)⟩
(.rd 5 ⟨(some 8), none, .load 1 false (.t 7)⟩
(.rd 6 ⟨(some 9), none, .shift .shl .u64 (.t 8) (.c (.int .u64 13))⟩
(.rd 7 ⟨(some 10), none, .ibin .xor .u64 (.t 5) (.t 9)⟩
(.rd 8 ⟨(some 11), none, .nilchk (.t 3)⟩
(.wr 9 ⟨none, none, .store 1 (.t 11) (.t 10)⟩ [8, 7, 0, 1, 2, 3, 4, 5, 6, 7]
.fin .no)))))))))) (some [0]))
(.seq (.draw (.rd 0 ⟨(some 12), none, .mov (.t 0)⟩
(.rd 1 ⟨(some 13), none, .nilchk (.t 12)⟩
(.rd 2 ⟨(some 14), none, .load 1 false (.t 13)⟩
(.rd 3 ⟨(some 15), none, .mov (.t 0)⟩
(.rd 4 ⟨(some 16), none, .nilchk (.t 15)⟩
(.rd 5 ⟨(some 17), none, .load 1 false (.t 16)⟩
(.rd 6 ⟨(some 18), none, .shift .shr .u64 (.t 17) (.c (.int .u64 7))⟩
(.rd 7 ⟨(some 19), none, .ibin .xor .u64 (.t 14) (.t 18)⟩
(.rd 8 ⟨(some 20), none, .nilchk (.t 12)⟩
(.wr 9 ⟨none, none, .store 1 (.t 20) (.t 19)⟩ [8, 7, 0, 1, 2, 3, 4, 5, 6, 7]
.fin .no)))))))))) (some [0]))
(.seq (.draw (.rd 0 ⟨(some 21), none, .mov (.t 0)⟩
(.rd 1 ⟨(some 22), none, .nilchk (.t 21)⟩
(.rd 2 ⟨(some 23), none, .load 1 false (.t 22)⟩
(.rd 3 ⟨(some 24), none, .mov (.t 0)⟩
(.rd 4 ⟨(some 25), none, .nilchk (.t 24)⟩
(.rd 5 ⟨(some 26), none, .load 1 false (.t 25)⟩
(.rd 6 ⟨(some 27), none, .shift .shl .u64 (.t 26) (.c (.int .u64 17))⟩
(.rd 7 ⟨(some 28), none, .ibin .xor .u64 (.t 23) (.t 27)⟩
(.rd 8 ⟨(some 29), none, .nilchk (.t 21)⟩
(.wr 9 ⟨none, none, .store 1 (.t 29) (.t 28)⟩ [8, 7, 0, 1, 2, 3, 4, 5, 6, 7]
.fin .no)))))))))) (some [0]))
(.seq (.ops [⟨(some 30), none, .mov (.t 0)⟩,
⟨(some 31), none, .nilchk (.t 30)⟩,
⟨(some 32), none, .load 1 false (.t 31)⟩,
⟨(some 2), none, .mov (.t 32)⟩] (some [2]))
.ret)))))⟩
/-- slices.medianAdjacentOrdered[int] -/
def ir142 : IFn := ⟨15, [.t 6],
(.seq (.ops [⟨(some 6), none, .mov (.c (.int .i64 0))⟩] (some [0, 1, 2]))
(.seq (.ops [⟨(some 7), none, .mov (.t 0)⟩,
⟨(some 8), none, .mov (.t 1)⟩,
⟨(some 9), none, .ibin .sub .i64 (.t 8) (.c (.int .i64 1))⟩,
⟨(some 10), none, .mov (.t 1)⟩,
⟨(some 11), none, .mov (.t 1)⟩,
⟨(some 12), none, .ibin .add .i64 (.t 11) (.c (.int .i64 1))⟩,
⟨(some 13), none, .mov (.t 2)⟩,
⟨(some 14), none, .call 143 [(.t 7), (.t 9), (.t 10), (.t 12), (.t 13)]⟩,
⟨(some 6), none, .mov (.t 14)⟩] (some [6]))
.ret))⟩
/-- slices.medianOrdered[int] -/
def ir143 : IFn := ⟨36, [.t 10],
(.seq (.ops [⟨(some 10), none, .mov (.c (.int .i64 0))⟩] (some [0, 1, 2, 3, 4]))
(.seq (.ops [⟨(some 12), none, .mov (.t 0)⟩,
⟨(some 13), none, .mov (.t 1)⟩,
⟨(some 14), none, .mov (.t 2)⟩,
⟨(some 15), none, .mov (.t 4)⟩,
⟨(some 16), none, .call 146 [(.t 12), (.t 13), (.t 14), (.t 15)]⟩,
⟨(some 11), none, .mov (.t 16)⟩,
⟨(some 17), none, .extract 0 (.t 11)⟩,
⟨(some 18), none, .extract 1 (.t 11)⟩,
⟨(some 1), none, .mov (.t 17)⟩,
⟨(some 2), none, .mov (.t 18)⟩] (some [0, 1, 2, 3, 4]))
(.seq (.ops [⟨(some 20), none, .mov (.t 0)⟩,
⟨(some 21), none, .mov (.t 2)⟩,
⟨(some 22), none, .mov (.t 3)⟩,
⟨(some 23), none, .mov (.t 4)⟩,
⟨(some 24), none, .call 146 [(.t 20), (.t 21), (.t 22), (.t 23)]⟩,
⟨(some 19), none, .mov (.t 24)⟩,
⟨(some 25), none, .extract 0 (.t 19)⟩,
⟨(some 26), none, .extract 1 (.t 19)⟩,
⟨(some 2), none, .mov (.t 25)⟩,
⟨(some 3), none, .mov (.t 26)⟩] (some [0, 1, 2, 4]))
(.seq (.ops [⟨(some 28), none, .mov (.t 0)⟩,
⟨(some 29), none, .mov (.t 1)⟩,
⟨(some 30), none, .mov (.t 2)⟩,
⟨(some 31), none, .mov (.t 4)⟩,
⟨(some 32), none, .call 146 [(.t 28), (.t 29), (.t 30), (.t 31)]⟩,
⟨(some 27), none, .mov (.t 32)⟩,
⟨(some 33), none, .extract 0 (.t 27)⟩,
⟨(some 34), none, .extract 1 (.t 27)⟩,
⟨(some 1), none, .mov (.t 33)⟩,
⟨(some 2), none, .mov (.t 34)⟩] (some [2]))
(.seq (.ops [⟨(some 35), none, .mov (.t 2)⟩,
⟨(some 10), none, .mov (.t 35)⟩] (some [10]))
.ret)))))⟩
/-- slices.rotateCmpFunc[int] -/
def ir144 : IFn := ⟨58, [],
(.seq (.ops [⟨(some 12), none, .mov (.t 2)⟩,
⟨(some 13), none, .mov (.t 1)⟩,
⟨(some 14), none, .ibin .sub .i64 (.t 12) (.t 13)⟩,
⟨(some 10), none, .mov (.t 14)⟩] (some [0, 2, 3, 4, 10]))
(.seq (.ops [⟨(some 15), none, .mov (.t 3)⟩,
⟨(some 16), none, .mov (.t 2)⟩,
⟨(some 17), none, .ibin .sub .i64 (.t 15) (.t 16)⟩,
⟨(some 11), none, .mov (.t 17)⟩] (some [0, 2, 4, 10, 11]))
(.seq (.block 0 (.loop (.seq (.seq (.ops [⟨(some 18), none, .mov (.t 10)⟩,
⟨(some 19), none, .mov (.t 11)⟩,
⟨(some 20), none, .ibin .neq .i64 (.t 18) (.t 19)⟩] (some [0, 2, 4, 10, 11, 20]))
(.cond (.t 20)
.skip
(.exit 0)))
(.block 1 (.seq (.ops [⟨(some 21), none, .mov (.t 10)⟩,
⟨(some 22), none, .mov (.t 11)⟩,
⟨(some 23), none, .ibin .gtr .i64 (.t 21) (.t 22)⟩] (some [0, 2, 4, 10, 11, 23]))
(.cond (.t 23)
(.seq (.ops [⟨(some 24), none, .mov (.t 0)⟩,
⟨(some 25), none, .mov (.t 2)⟩,
⟨(some 26), none, .mov (.t 10)⟩,
⟨(some 27), none, .ibin .sub .i64 (.t 25) (.t 26)⟩,
⟨(some 28), none, .mov (.t 2)⟩,
⟨(some 29), none, .mov (.t 11)⟩,
⟨(some 30), none, .mov (.t 4)⟩,
⟨(some 31), none, .call 147 [(.t 24), (.t 27), (.t 28), (.t 29), (.t 30)]⟩] (some [0, 2, 4, 10, 11]))
(.ops [⟨(some 32), none, .mov (.t 10)⟩,
⟨(some 33), none, .mov (.t 11)⟩,
⟨(some 34), none, .ibin .sub .i64 (.t 32) (.t 33)⟩,
⟨(some 10), none, .mov (.t 34)⟩] (some [0, 2, 4, 10, 11])))
(.seq (.ops [⟨(some 35), none, .mov (.t 0)⟩,
⟨(some 36), none, .mov (.t 2)⟩,
⟨(some 37), none, .mov (.t 10)⟩,
⟨(some 38), none, .ibin .sub .i64 (.t 36) (.t 37)⟩,
⟨(some 39), none, .mov (.t 2)⟩,
⟨(some 40), none, .mov (.t 11)⟩,
⟨(some 41), none, .ibin .add .i64 (.t 39) (.t 40)⟩,
⟨(some 42), none, .mov (.t 10)⟩,
⟨(some 43), none, .ibin .sub .i64 (.t 41) (.t 42)⟩,
⟨(some 44), none, .mov (.t 10)⟩,
⟨(some 45), none, .mov (.t 4)⟩,
⟨(some 46), none, .call 147 [(.t 35), (.t 38), (.t 43), (.t 44), (.t 45)]⟩] (some [0, 2, 4, 10, 11]))
(.ops [⟨(some 47), none, .mov (.t 11)⟩,
⟨(some 48), none, .mov (.t 10)⟩,
⟨(some 49), none, .ibin .sub .i64 (.t 47) (.t 48)⟩,
⟨(some 11), none, .mov (.t 49)⟩] (some [0, 2, 4, 10, 11])))))))))
(.ops [⟨(some 50), none, .mov (.t 0)⟩,
⟨(some 51), none, .mov (.t 2)⟩,
⟨(some 52), none, .mov (.t 10)⟩,
⟨(some 53), none, .ibin .sub .i64 (.t 51) (.t 52)⟩,
⟨(some 54), none, .mov (.t 2)⟩,
⟨(some 55), none, .mov (.t 10)⟩,
⟨(some 56), none, .mov (.t 4)⟩,
⟨(some 57), none, .call 147 [(.t 50), (.t 53), (.t 54), (.t 55), (.t 56)]⟩] (some [])))))⟩
/-- slices.Index[[]int,int] -/
def ir145 : IFn := ⟨19, [.t 4],
(.seq (.ops [⟨(some 4), none, .mov (.c (.int .i64 0))⟩] (some [0, 1]))
(.seq (.seq (.ops [⟨(some 6), none, .mov (.t 0)⟩,
⟨(some 7), none, .lenV (.t 6)⟩,
⟨(some 8), none, .mov (.c (.int .i64 0))⟩] (some [0, 1, 7, 8]))
(.block 0 (.loop (.seq (.ops [⟨(some 9), none, .ibin .lss .i64 (.t 8) (.t 7)⟩] none)
(.seq (.cond (.t 9)
.skip
(.exit 0))
(.seq (.block 1 (.seq (.ops [⟨(some 10), none, .mov (.t 8)⟩,
⟨(some 5), none, .mov (.t 10)⟩] (some [0, 1, 5, 7, 8]))
(.seq (.ops [⟨(some 11), none, .mov (.t 1)⟩,
⟨(some 12), none, .mov (.t 0)⟩,
⟨(some 13), none, .mov (.t 5)⟩,
⟨(some 14), none, .iaddr 1 (.t 12) (.t 13)⟩,
⟨(some 15), none, .load 1 false (.t 14)⟩,
⟨(some 16), none, .ibin .eql .i64 (.t 11) (.t 15)⟩] (some [0, 1, 5, 7, 8, 16]))
(.cond (.t 16)
(.seq (.ops [⟨(some 17), none, .mov (.t 5)⟩,
⟨(some 4), none, .mov (.t 17)⟩] (some [4]))
.ret)
.skip))))
(.ops [⟨(some 18), none, .ibin .add .i64 (.t 8) (.c (.int .i64 1))⟩,
⟨(some 8), none, .mov (.t 18)⟩] (some [0, 1, 7, 8]))))))))
(.seq (.ops [⟨(some 4), none, .mov (.c (.int .i64 (-1)))⟩] none)
.ret)))⟩
/-- slices.order2Ordered[int] -/
def ir146 : IFn := ⟨28, [.t 8, .t 9],
(.seq (.ops [⟨(some 8), none, .mov (.c (.int .i64 0))⟩,
⟨(some 9), none, .mov (.c (.int .i64 0))⟩] (some [0, 1, 2, 3]))
(.seq (.seq (.draw (.rd 0 ⟨(some 10), none, .mov (.t 0)⟩
(.rd 1 ⟨(some 11), none, .mov (.t 2)⟩
(.rd 2 ⟨(some 12), none, .iaddr 1 (.t 10) (.t 11)⟩
(.rd 3 ⟨(some 13), none, .load 1 false (.t 12)⟩
(.rd 4 ⟨(some 14), none, .mov (.t 0)⟩
(.rd 5 ⟨(some 15), none, .mov (.t 1)⟩
(.rd 6 ⟨(some 16), none, .iaddr 1 (.t 14) (.t 15)⟩
(.rd 7 ⟨(some 17), none, .load 1 false (.t 16)⟩
(.wr 8 ⟨(some 18), none, .call 122 [(.t 13), (.t 17)]⟩ [3, 7]
.fin .no))))))))) (some [1, 2, 3, 18]))
(.cond (.t 18)
(.seq (.ops [⟨(some 19), none, .mov (.t 3)⟩,
⟨(some 20), none, .nilchk (.t 19)⟩,
⟨(some 21), none, .load 1 false (.t 20)⟩,
⟨(some 22), none, .ibin .add .i64 (.t 21) (.c (.int .i64 1))⟩,
⟨(some 23), none, .nilchk (.t 19)⟩,
⟨none, none, .store 1 (.t 23) (.t 22)⟩] (some [1, 2]))
(.seq (.ops [⟨(some 24), none, .mov (.t 2)⟩,
⟨(some 25), none, .mov (.t 1)⟩,
⟨(some 8), none, .mov (.t 24)⟩,
⟨(some 9), none, .mov (.t 25)⟩] (some [8, 9]))
.ret))
.skip))
(.seq (.ops [⟨(some 26), none, .mov (.t 1)⟩,
⟨(some 27), none, .mov (.t 2)⟩,
⟨(some 8), none, .mov (.t 26)⟩,
⟨(some 9), none, .mov (.t 27)⟩] (some [8, 9]))
.ret)))⟩
/-- slices.swapRangeCmpFunc[int] -/
def ir147 : IFn := ⟨38, [],
(.seq (.ops [⟨(some 10), none, .mov (.c (.int .i64 0))⟩] none)
(.block 0 (.loop (.seq (.seq (.ops [⟨(some 11), none, .mov (.t 10)⟩,
⟨(some 12), none, .mov (.t 3)⟩,
⟨(some 13), none, .ibin .lss .i64 (.t 11) (.t 12)⟩] (some [0, 1, 2, 3, 10, 13]))
(.cond (.t 13)
.skip
(.exit 0)))
(.seq (.block 1 (.draw (.rd 0 ⟨(some 16), none, .mov (.t 0)⟩
(.rd 1 ⟨(some 17), none, .mov (.t 1)⟩
(.rd 2 ⟨(some 18), none, .mov (.t 10)⟩
(.rd 3 ⟨(some 19), none, .ibin .add .i64 (.t 17) (.t 18)⟩
(.rd 4 ⟨(some 20), none, .mov (.t 0)⟩
(.rd 5 ⟨(some 21), none, .mov (.t 2)⟩
(.rd 6 ⟨(some 22), none, .mov (.t 10)⟩
(.rd 7 ⟨(some 23), none, .ibin .add .i64 (.t 21) (.t 22)⟩
(.rd 8 ⟨(some 24), none, .mov (.t 0)⟩
(.rd 9 ⟨(some 25), none, .mov (.t 2)⟩
(.rd 10 ⟨(some 26), none, .mov (.t 10)⟩
(.rd 11 ⟨(some 27), none, .ibin .add .i64 (.t 25) (.t 26)⟩
(.rd 12 ⟨(some 28), none, .iaddr 1 (.t 24) (.t 27)⟩
(.rd 13 ⟨(some 29), none, .load 1 false (.t 28)⟩
(.rd 14 ⟨(some 30), none, .mov (.t 0)⟩
(.rd 15 ⟨(some 31), none, .mov (.t 1)⟩
(.rd 16 ⟨(some 32), none, .mov (.t 10)⟩
(.rd 17 ⟨(some 33), none, .ibin .add .i64 (.t 31) (.t 32)⟩
(.rd 18 ⟨(some 34), none, .iaddr 1 (.t 30) (.t 33)⟩
(.rd 19 ⟨(some 35), none, .load 1 false (.t 34)⟩
(.rd 20 ⟨(some 36), none, .iaddr 1 (.t 16) (.t 19)⟩
(.wr 21 ⟨none, none, .store 1 (.t 36) (.t 29)⟩ [20, 13, 0, 1, 2, 3, 8, 9, 10, 11, 12, 13, 19]
(.rd 22 ⟨(some 37), none, .iaddr 1 (.t 20) (.t 23)⟩
(.wr 23 ⟨none, none, .store 1 (.t 37) (.t 35)⟩ [22, 19, 21, 0, 1, 2, 3, 4, 5, 6, 7, 8, 9, 10, 11, 12, 13, 14, 15, 16, 17, 18, 19, 20, 21]
.fin .no)) .no)))))))))))))))))))))) (some [0, 1, 2, 3, 10])))
(.ops [⟨(some 14), none, .mov (.t 10)⟩,
⟨(some 15), none, .ibin .add .i64 (.t 14) (.c (.int .i64 1))⟩,
⟨(some 10), none, .mov (.t 15)⟩] (some [0, 1, 2, 3, 10])))))))⟩
/-- guidevane/guidevanelaw09.DamReadings -/
def ir371 : IFn := ⟨58, [.t 4],
(.seq (.ops [⟨(some 2), none, .box (.t 0)⟩,
⟨(some 4), none, .mov (.c (.bool false))⟩] (some [1, 2]))
(.seq (.seq (.ops [⟨(some 12), none, .call 10 []⟩,
⟨(some 13), none, .un .not (.t 12)⟩] (some [1, 2, 13]))
(.cond (.t 13)
(.seq (.ops [⟨(some 4), none, .mov (.c (.bool false))⟩] none)
.ret)
.skip))
(.seq (.seq (.ops [⟨(some 14), none, .mov (.t 1)⟩,
⟨(some 15), none, .lenS (.t 14)⟩,
⟨(some 16), none, .ibin .gtr .i64 (.t 15) (.c (.int .i64 60))⟩] (some [1, 2, 16]))
(.cond (.t 16)
(.seq (.ops [⟨(some 4), none, .mov (.c (.bool true))⟩] none)
.ret)
.skip))
(.seq (.ops [⟨(some 17), none, .load 3 true (.t 2)⟩,
⟨(some 18), none, .call 374 [(.t 17)]⟩,
⟨(some 5), none, .mov (.t 18)⟩] (some [1, 2, 5]))
(.seq (.ops [⟨(some 20), none, .mov (.t 1)⟩,
⟨(some 21), none, .call 373 [(.t 20)]⟩,
⟨(some 19), none, .mov (.t 21)⟩,
⟨(some 22), none, .extract 0 (.t 19)⟩,
⟨(some 23), none, .extract 1 (.t 19)⟩,
⟨(some 6), none, .alloc [(.int .i64 0), (.int .i64 0), (.int .i64 0)]⟩,
⟨none, none, .store 3 (.t 6) (.t 22)⟩,
⟨(some 7), none, .mov (.t 23)⟩] (some [1, 2, 5, 6, 7]))
(.seq (.ops [⟨(some 25), none, .mov (.t 1)⟩,
⟨(some 26), none, .call 375 [(.t 25)]⟩,
⟨(some 24), none, .mov (.t 26)⟩,
⟨(some 27), none, .extract 0 (.t 24)⟩,
⟨(some 28), none, .extract 1 (.t 24)⟩,
⟨(some 8), none, .alloc [(.int .i64 0), (.int .i64 0), (.int .i64 0)]⟩,
⟨none, none, .store 3 (.t 8) (.t 27)⟩,
⟨(some 9), none, .mov (.t 28)⟩] (some [2, 5, 6, 7, 8, 9]))
(.seq (.seq (.ops [⟨(some 29), none, .mov (.t 5)⟩,
⟨(some 30), none, .load 3 true (.t 2)⟩,
⟨(some 31), none, .call 376 [(.t 30)]⟩,
⟨(some 32), none, .sbin .neq (.t 29) (.t 31)⟩,
⟨(some 33), none, .mov (.t 32)⟩,
⟨(some 34), (some (33, false)), .mov (.t 7)⟩,
⟨(some 35), (some (33, false)), .mov (.t 9)⟩,
⟨(some 36), (some (33, false)), .ibin .neq .i64 (.t 34) (.t 35)⟩,
⟨(some 37), none, .pick (.t 33) (.c (.bool true)) (.t 36)⟩,
⟨(some 38), none, .mov (.t 37)⟩,
⟨(some 39), (some (38, false)), .load 3 true (.t 6)⟩,
⟨(some 40), (some (38, false)), .load 3 true (.t 8)⟩,
⟨(some 41), (some (38, false)), .eqv (.fld 0 1 (.int .i64) (.fld 1 1 (.int .i64) (.fld 2 1 (.int .i64) .nil))) true (.t 39) (.t 40)⟩,
⟨(some 42), none, .pick (.t 38) (.c (.bool true)) (.t 41)⟩] (some [2, 5, 42]))
(.cond (.t 42)
(.seq (.ops [⟨(some 4), none, .mov (.c (.bool false))⟩] none)
.ret)
.skip))
(.seq (.seq (.ops [⟨(some 43), none, .load 3 true (.t 2)⟩,
⟨(some 44), none, .call 32 [(.t 43)]⟩,
⟨(some 45), none, .ibin .neq .i64 (.t 44) (.c (.int .i64 0))⟩] (some [2, 5, 45]))
(.cond (.t 45)
(.seq (.ops [⟨(some 4), none, .mov (.c (.bool true))⟩] none)
.ret)
.skip))
(.seq (.ops [⟨(some 47), none, .mov (.t 5)⟩,
⟨(some 48), none, .call 373 [(.t 47)]⟩,
⟨(some 46), none, .mov (.t 48)⟩,
⟨(some 49), none, .extract 0 (.t 46)⟩,
⟨(some 50), none, .extract 1 (.t 46)⟩,
⟨(some 10), none, .alloc [(.int .i64 0), (.int .i64 0), (.int .i64 0)]⟩,
⟨none, none, .store 3 (.t 10) (.t 49)⟩,
⟨(some 11), none, .mov (.t 50)⟩] (some [2, 10, 11]))
(.seq (.ops [⟨(some 51), none, .mov (.t 11)⟩,
⟨(some 52), none, .ibin .eql .i64 (.t 51) (.c (.int .i64 0))⟩,
⟨(some 53), none, .mov (.t 52)⟩,
⟨(some 54), (some (53, true)), .load 3 true (.t 10)⟩,
⟨(some 55), (some (53, true)), .load 3 true (.t 2)⟩,
⟨(some 56), (some (53, true)), .eqv (.fld 0 1 (.int .i64) (.fld 1 1 (.int .i64) (.fld 2 1 (.int .i64) .nil))) false (.t 54) (.t 55)⟩,
⟨(some 57), none, .pick (.t 53) (.t 56) (.c (.bool false))⟩,
⟨(some 4), none, .mov (.t 57)⟩] (some [4]))
.ret))))))))))⟩
/-- guidevane/guidevanelaw09.DamStrings -/
def ir372 : IFn := ⟨65, [.t 4],
(.seq (.ops [⟨(some 2), none, .box (.t 0)⟩,
⟨(some 4), none, .mov (.c (.bool false))⟩] (some [1, 2]))
(.seq (.seq (.ops [⟨(some 12), none, .call 10 []⟩,
⟨(some 13), none, .un .not (.t 12)⟩] (some [1, 2, 13]))
(.cond (.t 13)
(.seq (.ops [⟨(some 4), none, .mov (.c (.bool false))⟩] none)
.ret)
.skip))
(.seq (.seq (.ops [⟨(some 14), none, .load 4 true (.t 2)⟩,
⟨(some 15), none, .call 35 [(.t 14)]⟩,
⟨(some 16), none, .un .not (.t 15)⟩,
⟨(some 17), none, .mov (.t 16)⟩,
⟨(some 18), (some (17, false)), .mov (.t 1)⟩,
⟨(some 19), (some (17, false)), .lenS (.t 18)⟩,
⟨(some 20), (some (17, false)), .ibin .gtr .i64 (.t 19) (.c (.int .i64 300))⟩,
⟨(some 21), none, .pick (.t 17) (.c (.bool true)) (.t 20)⟩] (some [1, 2, 21]))
(.cond (.t 21)
(.seq (.ops [⟨(some 4), none, .mov (.c (.bool true))⟩] none)
.ret)
.skip))
(.seq (.ops [⟨(some 22), none, .load 4 true (.t 2)⟩,
⟨(some 23), none, .call 37 [(.t 22)]⟩,
⟨(some 24), none, .call 377 [(.t 23)]⟩,
⟨(some 5), none, .mov (.t 24)⟩] (some [1, 2, 5]))
(.seq (.ops [⟨(some 26), none, .mov (.t 1)⟩,
⟨(some 27), none, .call 378 [(.t 26)]⟩,
⟨(some 25), none, .mov (.t 27)⟩,
⟨(some 28), none, .extract 0 (.t 25)⟩,
⟨(some 29), none, .extract 1 (.t 25)⟩,
⟨(some 6), none, .alloc [(.slice none 0 0), (.slice none 0 0), (.int .i64 0), (.slice none 0 0)]⟩,
⟨none, none, .store 4 (.t 6) (.t 28)⟩,
⟨(some 7), none, .mov (.t 29)⟩] (some [1, 2, 5, 6, 7]))
(.seq (.ops [⟨(some 31), none, .mov (.t 1)⟩,
⟨(some 32), none, .call 379 [(.t 31)]⟩,
⟨(some 30), none, .mov (.t 32)⟩,
⟨(some 33), none, .extract 0 (.t 30)⟩,
⟨(some 34), none, .extract 1 (.t 30)⟩,
⟨(some 8), none, .alloc [(.slice none 0 0), (.slice none 0 0), (.int .i64 0), (.slice none 0 0)]⟩,
⟨none, none, .store 4 (.t 8) (.t 33)⟩,
⟨(some 9), none, .mov (.t 34)⟩] (some [2, 5, 6, 7, 8, 9]))
(.seq (.seq (.ops [⟨(some 35), none, .mov (.t 5)⟩,
⟨(some 36), none, .load 4 true (.t 2)⟩,
⟨(some 37), none, .call 380 [(.t 36)]⟩,
⟨(some 38), none, .sbin .neq (.t 35) (.t 37)⟩,
⟨(some 39), none, .mov (.t 38)⟩,
⟨(some 40), (some (39, false)), .mov (.t 7)⟩,
⟨(some 41), (some (39, false)), .mov (.t 9)⟩,
⟨(some 42), (some (39, false)), .ibin .neq .i64 (.t 40) (.t 41)⟩,
⟨(some 43), none, .pick (.t 39) (.c (.bool true)) (.t 42)⟩,
⟨(some 44), none, .mov (.t 43)⟩,
⟨(some 45), (some (44, false)), .load 4 true (.t 6)⟩,
⟨(some 46), (some (44, false)), .load 4 true (.t 8)⟩,
⟨(some 47), (some (44, false)), .call 381 [(.t 45), (.t 46)]⟩,
⟨(some 48), (some (44, false)), .un .not (.t 47)⟩,
⟨(some 49), none, .pick (.t 44) (.c (.bool true)) (.t 48)⟩] (some [2, 5, 49]))
(.cond (.t 49)
(.seq (.ops [⟨(some 4), none, .mov (.c (.bool false))⟩] none)
.ret)
.skip))
(.seq (.seq (.ops [⟨(some 50), none, .load 4 true (.t 2)⟩,
⟨(some 51), none, .call 39 [(.t 50)]⟩,
⟨(some 52), none, .ibin .neq .i64 (.t 51) (.c (.int .i64 0))⟩] (some [2, 5, 52]))
(.cond (.t 52)
(.seq (.ops [⟨(some 4), none, .mov (.c (.bool true))⟩] none)
.ret)
.skip))
(.seq (.ops [⟨(some 54), none, .mov (.t 5)⟩,
⟨(some 55), none, .call 378 [(.t 54)]⟩,
⟨(some 53), none, .mov (.t 55)⟩,
⟨(some 56), none, .extract 0 (.t 53)⟩,
⟨(some 57), none, .extract 1 (.t 53)⟩,
⟨(some 10), none, .alloc [(.slice none 0 0), (.slice none 0 0), (.int .i64 0), (.slice none 0 0)]⟩,
⟨none, none, .store 4 (.t 10) (.t 56)⟩,
⟨(some 11), none, .mov (.t 57)⟩] (some [2, 10, 11]))
(.seq (.ops [⟨(some 58), none, .mov (.t 11)⟩,
⟨(some 59), none, .ibin .eql .i64 (.t 58) (.c (.int .i64 0))⟩,
⟨(some 60), none, .mov (.t 59)⟩,
⟨(some 61), (some (60, true)), .load 4 true (.t 10)⟩,
⟨(some 62), (some (60, true)), .load 4 true (.t 2)⟩,
⟨(some 63), (some (60, true)), .call 381 [(.t 61), (.t 62)]⟩,
⟨(some 64), none, .pick (.t 60) (.t 63) (.c (.bool false))⟩,
⟨(some 4), none, .mov (.t 64)⟩] (some [4]))
.ret))))))))))⟩
/-- guidevane/dam.ParseReading -/
def ir373 : IFn := ⟨51, [.cell 2 3 true, .t 3],
(.seq (.ops [⟨(some 2), none, .alloc [(.int .i64 0), (.int .i64 0), (.int .i64 0)]⟩,
⟨(some 3), none, .mov (.c (.int .i64 0))⟩] (some [0, 2]))
(.seq (.ops [⟨(some 4), none, .alloc [(.int .i64 0), (.int .i64 0), (.int .i64 0)]⟩] none)
(.seq (.ops [⟨(some 12), none, .faddr 0 (.t 4)⟩,
⟨(some 13), none, .faddr 1 (.t 4)⟩,
⟨(some 14), none, .faddr 2 (.t 4)⟩,
⟨(some 15), none, .build [(.pointer none), (.pointer none), (.pointer none)] [(0, 1, (.t 12)), (1, 1, (.t 13)), (2, 1, (.t 14))]⟩,
⟨(some 5), none, .alloc [(.pointer none), (.pointer none), (.pointer none)]⟩,
⟨none, none, .store 3 (.t 5) (.t 15)⟩] (some [0, 2, 4, 5]))
(.seq (.ops [⟨(some 16), none, .mov (.t 0)⟩,
⟨(some 17), none, .call 382 [(.t 16), (.c (.string ⟨#[32]⟩))]⟩,
⟨(some 6), none, .mov (.t 17)⟩] (some [2, 4, 5, 6]))
(.seq (.seq (.ops [⟨(some 18), none, .mov (.t 6)⟩,
⟨(some 19), none, .lenV (.t 18)⟩,
⟨(some 20), none, .ibin .neq .i64 (.t 19) (.c (.int .i64 3))⟩] (some [2, 4, 5, 6, 20]))
(.cond (.t 20)
(.seq (.ops [⟨(some 21), none, .build [(.int .i64 0), (.int .i64 0), (.int .i64 0)] []⟩,
⟨none, none, .store 3 (.t 2) (.t 21)⟩,
⟨(some 3), none, .mov (.c (.int .i64 7))⟩] (some [2, 3]))
.ret)
.skip))
(.seq (.seq (.ops [⟨(some 22), none, .load 3 true (.t 5)⟩,
⟨(some 23), none, .mov (.c (.int .i64 0))⟩] (some [2, 4, 6, 22, 23]))
(.block 0 (.loop (.seq (.ops [⟨(some 24), none, .ibin .lss .i64 (.t 23) (.c (.int .i64 3))⟩] none)
(.seq (.cond (.t 24)
.skip
(.exit 0))
(.seq (.block 1 (.seq (.ops [⟨(some 25), none, .mov (.t 23)⟩,
⟨(some 26), none, .indexA 3 1 false (.t 22) (.t 23)⟩,
⟨(some 7), none, .mov (.t 25)⟩,
⟨(some 8), none, .mov (.t 26)⟩] (some [2, 4, 6, 7, 8, 22, 23]))
(.seq (.ops [⟨(some 28), none, .mov (.t 6)⟩,
⟨(some 29), none, .mov (.t 7)⟩,
⟨(some 30), none, .iaddr 1 (.t 28) (.t 29)⟩,
⟨(some 31), none, .load 1 false (.t 30)⟩,
⟨(some 32), none, .mov (.t 7)⟩,
⟨(some 33), none, .ibin .gtr .i64 (.t 32) (.c (.int .i64 0))⟩,
⟨(some 34), none, .call 383 [(.t 31), (.c (.int .i64 5)), (.t 33)]⟩,
⟨(some 27), none, .mov (.t 34)⟩,
⟨(some 35), none, .extract 0 (.t 27)⟩,
⟨(some 36), none, .extract 1 (.t 27)⟩,
⟨(some 9), none, .mov (.t 35)⟩,
⟨(some 10), none, .mov (.t 36)⟩] (some [2, 4, 6, 8, 9, 10, 22, 23]))
(.seq (.seq (.ops [⟨(some 37), none, .mov (.t 10)⟩,
⟨(some 38), none, .un .not (.t 37)⟩] (some [2, 4, 6, 8, 9, 22, 23, 38]))
(.cond (.t 38)
(.seq (.ops [⟨(some 39), none, .build [(.int .i64 0), (.int .i64 0), (.int .i64 0)] []⟩,
⟨none, none, .store 3 (.t 2) (.t 39)⟩,
⟨(some 3), none, .mov (.c (.int .i64 7))⟩] (some [2, 3]))
.ret)
.skip))
(.ops [⟨(some 40), none, .mov (.t 8)⟩,
⟨(some 41), none, .mov (.t 9)⟩,
⟨(some 42), none, .nilchk (.t 40)⟩,
⟨none, none, .store 1 (.t 42) (.t 41)⟩] (some [2, 4, 6, 22, 23]))))))
(.ops [⟨(some 43), none, .ibin .add .i64 (.t 23) (.c (.int .i64 1))⟩,
⟨(some 23), none, .mov (.t 43)⟩] (some [2, 4, 6, 22, 23]))))))))
(.seq (.seq (.ops [⟨(some 44), none, .load 3 true (.t 4)⟩,
⟨(some 45), none, .call 33 [(.t 44)]⟩,
⟨(some 11), none, .mov (.t 45)⟩] (some [2, 4, 11]))
(.seq (.ops [⟨(some 46), none, .mov (.t 11)⟩,
⟨(some 47), none, .ibin .neq .i64 (.t 46) (.c (.int .i64 0))⟩] (some [2, 4, 11, 47]))
(.cond (.t 47)
(.seq (.ops [⟨(some 48), none, .build [(.int .i64 0), (.int .i64 0), (.int .i64 0)] []⟩,
⟨(some 49), none, .mov (.t 11)⟩,
⟨none, none, .store 3 (.t 2) (.t 48)⟩,
⟨(some 3), none, .mov (.t 49)⟩] (some [2, 3]))
.ret)
.skip)))
(.seq (.ops [⟨(some 50), none, .load 3 true (.t 4)⟩,
⟨none, none, .store 3 (.t 2) (.t 50)⟩,
⟨(some 3), none, .mov (.c (.int .i64 0))⟩] (some [2, 3]))
.ret))))))))⟩
/-- guidevane/dam.FormatReading -/
def ir374 : IFn := ⟨14, [.t 2],
(.seq (.ops [⟨(some 1), none, .box (.t 0)⟩,
⟨(some 2), none, .mov (.c (.string ⟨#[]⟩))⟩] (some [1]))
(.seq (.draw (.rd 0 ⟨(some 3), none, .faddr 0 (.t 1)⟩
(.rd 1 ⟨(some 4), none, .load 1 false (.t 3)⟩
(.rd 3 ⟨(some 6), none, .faddr 1 (.t 1)⟩
(.rd 4 ⟨(some 7), none, .load 1 false (.t 6)⟩
(.rd 6 ⟨(some 9), none, .faddr 2 (.t 1)⟩
(.rd 7 ⟨(some 10), none, .load 1 false (.t 9)⟩
(.wr 2 ⟨(some 5), none, .call 385 [(.t 4)]⟩ [1]
(.wr 5 ⟨(some 8), none, .call 385 [(.t 7)]⟩ [4, 2]
(.wr 8 ⟨(some 11), none, .call 385 [(.t 10)]⟩ [7, 5]
(.wr 9 ⟨(some 12), none, .bslice 3 1 [(.string ⟨#[]⟩)] [(0, 1, (.t 5)), (1, 1, (.t 8)), (2, 1, (.t 11))]⟩ [2, 5, 8]
(.wr 10 ⟨(some 13), none, .call 384 [(.t 12), (.c (.string ⟨#[32]⟩))]⟩ [9, 8]
(.rd 11 ⟨(some 2), none, .mov (.t 13)⟩
.fin) .no) .no) .no) .no) .no))))))) (some [2]))
.ret))⟩
/-- guidevane/guidevaneref09.ParseReading -/
def ir375 : IFn := ⟨63, [.cell 2 3 true, .t 3],
(.seq (.ops [⟨(some 2), none, .alloc [(.int .i64 0), (.int .i64 0), (.int .i64 0)]⟩,
⟨(some 3), none, .mov (.c (.int .i64 0))⟩] (some [0, 2]))
(.seq (.ops [⟨(some 12), none, .build [(.int .i64 0), (.int .i64 0), (.int .i64 0)] []⟩,
⟨(some 4), none, .alloc [(.int .i64 0), (.int .i64 0), (.int .i64 0)]⟩,
⟨none, none, .store 3 (.t 4) (.t 12)⟩] (some [0, 2, 4]))
(.seq (.ops [⟨(some 13), none, .mov (.t 0)⟩,
⟨(some 14), none, .call 386 [(.t 13), (.c (.int .u8 32))]⟩,
⟨(some 5), none, .mov (.t 14)⟩] (some [2, 4, 5]))
(.seq (.seq (.ops [⟨(some 15), none, .mov (.t 5)⟩,
⟨(some 16), none, .lenV (.t 15)⟩,
⟨(some 17), none, .ibin .neq .i64 (.t 16) (.c (.int .i64 3))⟩] (some [2, 4, 5, 17]))
(.cond (.t 17)
(.seq (.ops [⟨(some 18), none, .load 3 true (.t 4)⟩,
⟨none, none, .store 3 (.t 2) (.t 18)⟩,
⟨(some 3), none, .mov (.c (.int .i64 7))⟩] (some [2, 3]))
.ret)
.skip))
(.seq (.ops [⟨(some 6), none, .alloc [(.int .i64 0), (.int .i64 0), (.int .i64 0)]⟩] none)
(.seq (.seq (.ops [⟨(some 7), none, .mov (.c (.int .i64 0))⟩] none)
(.block 0 (.loop (.seq (.seq (.ops [⟨(some 19), none, .mov (.t 7)⟩,
⟨(some 20), none, .ibin .lss .i64 (.t 19) (.c (.int .i64 3))⟩] (some [2, 4, 5, 6, 7, 20]))
(.cond (.t 20)
.skip
(.exit 0)))
(.seq (.block 1 (.seq (.ops [⟨(some 24), none, .mov (.t 5)⟩,
⟨(some 25), none, .mov (.t 7)⟩,
⟨(some 26), none, .iaddr 1 (.t 24) (.t 25)⟩,
⟨(some 27), none, .load 1 false (.t 26)⟩,
⟨(some 28), none, .call 387 [(.t 27), (.c (.int .i64 5))]⟩,
⟨(some 23), none, .mov (.t 28)⟩,
⟨(some 29), none, .extract 0 (.t 23)⟩,
⟨(some 30), none, .extract 1 (.t 23)⟩,
⟨(some 8), none, .mov (.t 29)⟩,
⟨(some 9), none, .mov (.t 30)⟩] (some [2, 4, 5, 6, 7, 8, 9]))
(.seq (.seq (.ops [⟨(some 31), none, .mov (.t 9)⟩,
⟨(some 32), none, .un .not (.t 31)⟩,
⟨(some 33), none, .mov (.t 32)⟩,
⟨(some 34), (some (33, false)), .mov (.t 7)⟩,
⟨(some 35), (some (33, false)), .ibin .eql .i64 (.t 34) (.c (.int .i64 0))⟩,
⟨(some 36), (some (33, false)), .mov (.t 35)⟩,
⟨(some 37), (some (36, true)), .mov (.t 5)⟩,
⟨(some 38), (some (36, true)), .mov (.t 7)⟩,
⟨(some 39), (some (36, true)), .iaddr 1 (.t 37) (.t 38)⟩,
⟨(some 40), (some (36, true)), .load 1 false (.t 39)⟩,
⟨(some 41), (some (36, true)), .indexS (.t 40) (.c (.int .i64 0))⟩,
⟨(some 42), (some (36, true)), .ibin .eql .u8 (.t 41) (.c (.int .u8 45))⟩,
⟨(some 43), (some (33, false)), .pick (.t 36) (.t 42) (.c (.bool false))⟩,
⟨(some 44), none, .pick (.t 33) (.c (.bool true)) (.t 43)⟩] (some [2, 4, 5, 6, 7, 8, 44]))
(.cond (.t 44)
(.seq (.ops [⟨(some 45), none, .load 3 true (.t 4)⟩,
⟨none, none, .store 3 (.t 2) (.t 45)⟩,
⟨(some 3), none, .mov (.c (.int .i64 7))⟩] (some [2, 3]))
.ret)
.skip))
(.ops [⟨(some 46), none, .mov (.t 7)⟩,
⟨(some 47), none, .mov (.t 8)⟩,
⟨(some 48), none, .iaddrA 3 1 (.t 6) (.t 46)⟩,
⟨none, none, .store 1 (.t 48) (.t 47)⟩] (some [2, 4, 5, 6, 7])))))
(.ops [⟨(some 21), none, .mov (.t 7)⟩,
⟨(some 22), none, .ibin .add .i64 (.t 21) (.c (.int .i64 1))⟩,
⟨(some 7), none, .mov (.t 22)⟩] (some [2, 4, 5, 6, 7])))))))
(.seq (.ops [⟨(some 49), none, .iaddrA 3 1 (.t 6) (.c (.int .i64 0))⟩,
⟨(some 50), none, .load 1 false (.t 49)⟩,
⟨(some 51), none, .iaddrA 3 1 (.t 6) (.c (.int .i64 1))⟩,
⟨(some 52), none, .load 1 false (.t 51)⟩,
⟨(some 53), none, .iaddrA 3 1 (.t 6) (.c (.int .i64 2))⟩,
⟨(some 54), none, .load 1 false (.t 53)⟩,
⟨(some 55), none, .build [(.int .i64 0), (.int .i64 0), (.int .i64 0)] [(0, 1, (.t 50)), (1, 1, (.t 52)), (2, 1, (.t 54))]⟩,
⟨(some 10), none, .alloc [(.int .i64 0), (.int .i64 0), (.int .i64 0)]⟩,
⟨none, none, .store 3 (.t 10) (.t 55)⟩] (some [2, 4, 10]))
(.seq (.seq (.ops [⟨(some 56), none, .load 3 true (.t 10)⟩,
⟨(some 57), none, .call 32 [(.t 56)]⟩,
⟨(some 11), none, .mov (.t 57)⟩] (some [2, 4, 10, 11]))
(.seq (.ops [⟨(some 58), none, .mov (.t 11)⟩,
⟨(some 59), none, .ibin .neq .i64 (.t 58) (.c (.int .i64 0))⟩] (some [2, 4, 10, 11, 59]))
(.cond (.t 59)
(.seq (.ops [⟨(some 60), none, .load 3 true (.t 4)⟩,
⟨(some 61), none, .mov (.t 11)⟩,
⟨none, none, .store 3 (.t 2) (.t 60)⟩,
⟨(some 3), none, .mov (.t 61)⟩] (some [2, 3]))
.ret)
.skip)))
(.seq (.ops [⟨(some 62), none, .load 3 true (.t 10)⟩,
⟨none, none, .store 3 (.t 2) (.t 62)⟩,
⟨(some 3), none, .mov (.c (.int .i64 0))⟩] (some [2, 3]))
.ret)))))))))⟩
/-- guidevane/guidevaneref09.FormatReading -/
def ir376 : IFn := ⟨16, [.t 2],
(.seq (.ops [⟨(some 1), none, .box (.t 0)⟩,
⟨(some 2), none, .mov (.c (.string ⟨#[]⟩))⟩] (some [1]))
(.seq (.draw (.rd 0 ⟨(some 3), none, .faddr 0 (.t 1)⟩
(.rd 1 ⟨(some 4), none, .load 1 false (.t 3)⟩
(.rd 4 ⟨(some 7), none, .faddr 1 (.t 1)⟩
(.rd 5 ⟨(some 8), none, .load 1 false (.t 7)⟩
(.rd 9 ⟨(some 12), none, .faddr 2 (.t 1)⟩
(.rd 10 ⟨(some 13), none, .load 1 false (.t 12)⟩
(.wr 2 ⟨(some 5), none, .call 388 [(.t 4)]⟩ [1]
(.rd 3 ⟨(some 6), none, .sbin .add (.t 5) (.c (.string ⟨#[32]⟩))⟩
(.wr 6 ⟨(some 9), none, .call 388 [(.t 8)]⟩ [5, 2]
(.rd 7 ⟨(some 10), none, .sbin .add (.t 6) (.t 9)⟩
(.rd 8 ⟨(some 11), none, .sbin .add (.t 10) (.c (.string ⟨#[32]⟩))⟩
(.wr 11 ⟨(some 14), none, .call 388 [(.t 13)]⟩ [10, 6]
(.rd 12 ⟨(some 15), none, .sbin .add (.t 11) (.t 14)⟩
(.rd 13 ⟨(some 2), none, .mov (.t 15)⟩
.fin)) .no))) .no)) .no))))))) (some [2]))
.ret))⟩
/-- guidevane/dam.FormatRules -/
def ir377 : IFn := ⟨55, [.t 2],
(.seq (.ops [⟨(some 1), none, .box (.t 0)⟩,
⟨(some 2), none, .mov (.c (.string ⟨#[]⟩))⟩] (some [1]))
(.seq (.ops [⟨(some 7), none, .faddr 2 (.t 1)⟩,
⟨(some 8), none, .load 1 false (.t 7)⟩,
⟨(some 9), none, .call 385 [(.t 8)]⟩,
⟨(some 10), none, .bslice 1 1 [(.string ⟨#[]⟩)] [(0, 1, (.t 9))]⟩,
⟨(some 3), none, .mov (.t 10)⟩] (some [1, 3]))
(.seq (.seq (.ops [⟨(some 11), none, .faddr 0 (.t 1)⟩,
⟨(some 12), none, .load 1 false (.t 11)⟩,
⟨(some 13), none, .lenV (.t 12)⟩,
⟨(some 14), none, .faddr 1 (.t 1)⟩,
⟨(some 15), none, .load 1 false (.t 14)⟩,
⟨(some 16), none, .lenV (.t 15)⟩,
⟨(some 17), none, .minmax true (.t 13) [(.t 16)]⟩,
⟨(some 18), none, .mov (.c (.int .i64 0))⟩] (some [1, 3, 17, 18]))
(.block 0 (.loop (.seq (.ops [⟨(some 19), none, .ibin .lss .i64 (.t 18) (.t 17)⟩] none)
(.seq (.cond (.t 19)
.skip
(.exit 0))
(.seq (.block 1 (.seq (.ops [⟨(some 20), none, .mov (.t 18)⟩,
⟨(some 4), none, .mov (.t 20)⟩] (some [1, 3, 4, 17, 18]))
(.draw (.rd 0 ⟨(some 21), none, .mov (.t 3)⟩
(.rd 1 ⟨(some 22), none, .faddr 0 (.t 1)⟩
(.rd 2 ⟨(some 23), none, .load 1 false (.t 22)⟩
(.rd 3 ⟨(some 24), none, .mov (.t 4)⟩
(.rd 6 ⟨(some 27), none, .faddr 1 (.t 1)⟩
(.rd 7 ⟨(some 28), none, .load 1 false (.t 27)⟩
(.rd 8 ⟨(some 29), none, .mov (.t 4)⟩
(.wr 4 ⟨(some 25), none, .call 389 [(.t 23), (.t 24)]⟩ [2, 3]
(.rd 5 ⟨(some 26), none, .sbin .add (.t 25) (.c (.string ⟨#[32]⟩))⟩
(.wr 9 ⟨(some 30), none, .call 389 [(.t 28), (.t 29)]⟩ [7, 8, 4]
(.rd 10 ⟨(some 31), none, .sbin .add (.t 26) (.t 30)⟩
(.wr 11 ⟨(some 32), none, .bslice 1 1 [(.string ⟨#[]⟩)] [(0, 1, (.t 31))]⟩ [10]
(.wr 12 ⟨(some 33), none, .append 1 16 (.t 21) (.t 32)⟩ [0, 11, 9]
(.wr 13 ⟨(some 3), none, .mov (.t 33)⟩ [12, 12, 0, 1, 2, 3, 4, 5, 6, 7, 8, 9, 10, 11, 12]
.fin .no) .no) .no)) .no)) .no)))))))) (some [1, 3, 17, 18]))))
(.ops [⟨(some 34), none, .ibin .add .i64 (.t 18) (.c (.int .i64 1))⟩,
⟨(some 18), none, .mov (.t 34)⟩] (some [1, 3, 17, 18]))))))))
(.seq (.seq (.ops [⟨(some 35), none, .faddr 3 (.t 1)⟩,
⟨(some 36), none, .load 1 false (.t 35)⟩,
⟨(some 37), none, .lenV (.t 36)⟩,
⟨(some 38), none, .mov (.c (.int .i64 0))⟩] (some [3, 36, 37, 38]))
(.block 2 (.loop (.seq (.ops [⟨(some 39), none, .ibin .lss .i64 (.t 38) (.t 37)⟩] none)
(.seq (.cond (.t 39)
.skip
(.exit 2))
(.seq (.block 3 (.seq (.ops [⟨(some 40), none, .iaddr 2 (.t 36) (.t 38)⟩,
⟨(some 41), none, .load 2 true (.t 40)⟩,
⟨(some 6), none, .alloc [(.string ⟨#[]⟩), (.int .i64 0)]⟩,
⟨none, none, .store 2 (.t 6) (.t 41)⟩] (some [3, 6, 36, 37, 38]))
(.draw (.rd 0 ⟨(some 42), none, .mov (.t 3)⟩
(.rd 1 ⟨(some 43), none, .faddr 0 (.t 6)⟩
(.rd 2 ⟨(some 44), none, .load 1 false (.t 43)⟩
(.rd 3 ⟨(some 45), none, .sbin .add (.t 44) (.c (.string ⟨#[32]⟩))⟩
(.rd 4 ⟨(some 46), none, .faddr 1 (.t 6)⟩
(.rd 5 ⟨(some 47), none, .load 1 false (.t 46)⟩
(.wr 6 ⟨(some 48), none, .call 385 [(.t 47)]⟩ [5]
(.rd 7 ⟨(some 49), none, .sbin .add (.t 45) (.t 48)⟩
(.wr 8 ⟨(some 50), none, .bslice 1 1 [(.string ⟨#[]⟩)] [(0, 1, (.t 49))]⟩ [7]
(.wr 9 ⟨(some 51), none, .append 1 16 (.t 42) (.t 50)⟩ [0, 8, 6]
(.wr 10 ⟨(some 3), none, .mov (.t 51)⟩ [9, 9, 0, 1, 2, 3, 4, 5, 6, 7, 8, 9]
.fin .no) .no) .no)) .no))))))) (some [3, 36, 37, 38]))))
(.ops [⟨(some 52), none, .ibin .add .i64 (.t 38) (.c (.int .i64 1))⟩,
⟨(some 38), none, .mov (.t 52)⟩] (some [3, 36, 37, 38]))))))))
(.seq (.ops [⟨(some 53), none, .mov (.t 3)⟩,
⟨(some 54), none, .call 384 [(.t 53), (.c (.string ⟨#[59]⟩))]⟩,
⟨(some 2), none, .mov (.t 54)⟩] (some [2]))
.ret)))))⟩
/-- guidevane/dam.ParseRules -/
def ir378 : IFn := ⟨121, [.cell 2 4 true, .t 3],
(.seq (.ops [⟨(some 2), none, .alloc [(.slice none 0 0), (.slice none 0 0), (.int .i64 0), (.slice none 0 0)]⟩,
⟨(some 3), none, .mov (.c (.int .i64 0))⟩] (some [0, 2]))
(.seq (.seq (.ops [⟨(some 19), none, .mov (.t 0)⟩,
⟨(some 20), none, .lenS (.t 19)⟩,
⟨(some 21), none, .ibin .gtr .i64 (.t 20) (.c (.int .i64 60000))⟩] (some [0, 2, 21]))
(.cond (.t 21)
(.seq (.ops [⟨(some 22), none, .build [(.slice none 0 0), (.slice none 0 0), (.int .i64 0), (.slice none 0 0)] []⟩,
⟨none, none, .store 4 (.t 2) (.t 22)⟩,
⟨(some 3), none, .mov (.c (.int .i64 8))⟩] (some [2, 3]))
.ret)
.skip))
(.seq (.ops [⟨(some 23), none, .mov (.t 0)⟩,
⟨(some 24), none, .call 382 [(.t 23), (.c (.string ⟨#[59]⟩))]⟩,
⟨(some 4), none, .mov (.t 24)⟩] (some [2, 4]))
(.seq (.ops [⟨(some 5), none, .alloc [(.slice none 0 0), (.slice none 0 0), (.int .i64 0), (.slice none 0 0)]⟩] none)
(.seq (.ops [⟨(some 26), none, .mov (.t 4)⟩,
⟨(some 27), none, .iaddr 1 (.t 26) (.c (.int .i64 0))⟩,
⟨(some 28), none, .load 1 false (.t 27)⟩,
⟨(some 29), none, .call 383 [(.t 28), (.c (.int .i64 7)), (.c (.bool false))]⟩,
⟨(some 25), none, .mov (.t 29)⟩,
⟨(some 30), none, .extract 0 (.t 25)⟩,
⟨(some 31), none, .extract 1 (.t 25)⟩,
⟨(some 6), none, .mov (.t 30)⟩,
⟨(some 7), none, .mov (.t 31)⟩] (some [2, 4, 5, 6, 7]))
(.seq (.ops [⟨(some 32), none, .mov (.t 6)⟩,
⟨(some 33), none, .mov (.t 7)⟩,
⟨(some 34), none, .mov (.t 33)⟩,
⟨(some 35), (some (34, true)), .mov (.t 4)⟩,
⟨(some 36), (some (34, true)), .lenV (.t 35)⟩,
⟨(some 37), (some (34, true)), .ibin .gtr .i64 (.t 36) (.c (.int .i64 1))⟩,
⟨(some 38), none, .pick (.t 34) (.t 37) (.c (.bool false))⟩,
⟨(some 39), none, .faddr 2 (.t 5)⟩,
⟨none, none, .store 1 (.t 39) (.t 32)⟩,
⟨(some 7), none, .mov (.t 38)⟩] (some [2, 4, 5, 7]))
(.seq (.seq (.ops [⟨(some 40), none, .mov (.t 4)⟩,
⟨(some 41), none, .sliceV 1 (.t 40) (some (.c (.int .i64 1))) none none⟩,
⟨(some 42), none, .lenV (.t 41)⟩,
⟨(some 43), none, .mov (.c (.int .i64 0))⟩] (some [2, 5, 7, 41, 42, 43]))
(.block 0 (.loop (.seq (.ops [⟨(some 44), none, .ibin .lss .i64 (.t 43) (.t 42)⟩] none)
(.seq (.cond (.t 44)
.skip
(.exit 0))
(.seq (.block 1 (.seq (.ops [⟨(some 45), none, .iaddr 1 (.t 41) (.t 43)⟩,
⟨(some 46), none, .load 1 false (.t 45)⟩,
⟨(some 9), none, .mov (.t 46)⟩] (some [2, 5, 7, 9, 41, 42, 43]))
(.seq (.ops [⟨(some 48), none, .mov (.t 9)⟩,
⟨(some 49), none, .call 390 [(.t 48), (.c (.string ⟨#[32]⟩))]⟩,
⟨(some 47), none, .mov (.t 49)⟩,
⟨(some 50), none, .extract 0 (.t 47)⟩,
⟨(some 51), none, .extract 1 (.t 47)⟩,
⟨(some 52), none, .extract 2 (.t 47)⟩,
⟨(some 10), none, .mov (.t 50)⟩,
⟨(some 11), none, .mov (.t 51)⟩,
⟨(some 12), none, .mov (.t 52)⟩] (some [2, 5, 7, 10, 11, 12, 41, 42, 43]))
(.seq (.ops [⟨(some 54), none, .mov (.t 11)⟩,
⟨(some 55), none, .call 383 [(.t 54), (.c (.int .i64 7)), (.c (.bool false))]⟩,
⟨(some 53), none, .mov (.t 55)⟩,
⟨(some 56), none, .extract 0 (.t 53)⟩,
⟨(some 57), none, .extract 1 (.t 53)⟩,
⟨(some 13), none, .mov (.t 56)⟩,
⟨(some 14), none, .mov (.t 57)⟩] (some [2, 5, 7, 10, 12, 13, 14, 41, 42, 43]))
(.seq (.ops [⟨(some 58), none, .mov (.t 7)⟩,
⟨(some 59), none, .mov (.t 58)⟩,
⟨(some 60), (some (59, true)), .mov (.t 12)⟩,
⟨(some 61), none, .pick (.t 59) (.t 60) (.c (.bool false))⟩,
⟨(some 62), none, .mov (.t 61)⟩,
⟨(some 63), (some (62, true)), .mov (.t 14)⟩,
⟨(some 64), none, .pick (.t 62) (.t 63) (.c (.bool false))⟩,
⟨(some 7), none, .mov (.t 64)⟩] (some [2, 5, 7, 10, 13, 41, 42, 43]))
(.seq (.seq (.ops [⟨(some 65), none, .mov (.t 10)⟩,
⟨(some 66), none, .sbin .neq (.t 65) (.c (.string ⟨#[]⟩))⟩,
⟨(some 67), none, .mov (.t 66)⟩,
⟨(some 68), (some (67, true)), .mov (.t 10)⟩,
⟨(some 69), (some (67, true)), .indexS (.t 68) (.c (.int .i64 0))⟩,
⟨(some 70), (some (67, true)), .call 111 [(.t 69)]⟩,
⟨(some 71), none, .pick (.t 67) (.t 70) (.c (.bool false))⟩] (some [2, 5, 7, 10, 13, 41, 42, 43, 71]))
(.cond (.t 71)
(.seq (.ops [⟨(some 72), none, .faddr 3 (.t 5)⟩,
⟨(some 73), none, .load 1 false (.t 72)⟩,
⟨(some 74), none, .mov (.t 10)⟩,
⟨(some 75), none, .mov (.t 13)⟩,
⟨(some 76), none, .build [(.string ⟨#[]⟩), (.int .i64 0)] [(0, 1, (.t 74)), (1, 1, (.t 75))]⟩,
⟨(some 77), none, .bslice 1 2 [(.string ⟨#[]⟩), (.int .i64 0)] [(0, 2, (.t 76))]⟩,
⟨(some 78), none, .append 2 24 (.t 73) (.t 77)⟩,
⟨(some 79), none, .faddr 3 (.t 5)⟩,
⟨none, none, .store 1 (.t 79) (.t 78)⟩] (some [2, 5, 7, 41, 42, 43]))
(.exit 1))
.skip))
(.seq (.ops [⟨(some 81), none, .mov (.t 10)⟩,
⟨(some 82), none, .call 383 [(.t 81), (.c (.int .i64 7)), (.c (.bool false))]⟩,
⟨(some 80), none, .mov (.t 82)⟩,
⟨(some 83), none, .extract 0 (.t 80)⟩,
⟨(some 84), none, .extract 1 (.t 80)⟩,
⟨(some 15), none, .mov (.t 83)⟩,
⟨(some 16), none, .mov (.t 84)⟩] (some [2, 5, 7, 13, 15, 16, 41, 42, 43]))
(.seq (.draw (.rd 0 ⟨(some 85), none, .faddr 0 (.t 5)⟩
(.rd 1 ⟨(some 86), none, .load 1 false (.t 85)⟩
(.rd 2 ⟨(some 87), none, .mov (.t 15)⟩
(.rd 5 ⟨(some 90), none, .faddr 1 (.t 5)⟩
(.rd 6 ⟨(some 91), none, .load 1 false (.t 90)⟩
(.rd 7 ⟨(some 92), none, .mov (.t 13)⟩
(.wr 3 ⟨(some 88), none, .bslice 1 1 [(.int .i64 0)] [(0, 1, (.t 87))]⟩ [2]
(.wr 4 ⟨(some 89), none, .append 1 8 (.t 86) (.t 88)⟩ [1, 3]
(.rd 10 ⟨(some 95), none, .faddr 0 (.t 5)⟩
(.wr 8 ⟨(some 93), none, .bslice 1 1 [(.int .i64 0)] [(0, 1, (.t 92))]⟩ [7]
(.wr 9 ⟨(some 94), none, .append 1 8 (.t 91) (.t 93)⟩ [6, 8, 4]
(.wr 11 ⟨none, none, .store 1 (.t 95) (.t 89)⟩ [10, 4, 9, 0, 1, 2, 3, 4, 5, 6]
(.rd 12 ⟨(some 96), none, .faddr 1 (.t 5)⟩
(.wr 13 ⟨none, none, .store 1 (.t 96) (.t 94)⟩ [12, 9, 11, 0, 1, 2, 3, 4, 5, 6, 7, 8, 9, 10, 11]
.fin .no)) .no) .no) .no))
(.wr 8 ⟨(some 93), none, .bslice 1 1 [(.int .i64 0)] [(0, 1, (.t 92))]⟩ [7]
(.wr 4 ⟨(some 89), none, .append 1 8 (.t 86) (.t 88)⟩ [1, 3]
(.rd 10 ⟨(some 95), none, .faddr 0 (.t 5)⟩
(.wr 9 ⟨(some 94), none, .append 1 8 (.t 91) (.t 93)⟩ [6, 8, 4]
(.wr 11 ⟨none, none, .store 1 (.t 95) (.t 89)⟩ [10, 4, 9, 0, 1, 2, 3, 4, 5, 6]
(.rd 12 ⟨(some 96), none, .faddr 1 (.t 5)⟩
(.wr 13 ⟨none, none, .store 1 (.t 96) (.t 94)⟩ [12, 9, 11, 0, 1, 2, 3, 4, 5, 6, 7, 8, 9, 10, 11]
.fin .no)) .no) .no)) .no) .no))
(.wr 8 ⟨(some 93), none, .bslice 1 1 [(.int .i64 0)] [(0, 1, (.t 92))]⟩ [7]
(.wr 3 ⟨(some 88), none, .bslice 1 1 [(.int .i64 0)] [(0, 1, (.t 87))]⟩ [2]
(.wr 4 ⟨(some 89), none, .append 1 8 (.t 86) (.t 88)⟩ [1, 3]
(.rd 10 ⟨(some 95), none, .faddr 0 (.t 5)⟩
(.wr 9 ⟨(some 94), none, .append 1 8 (.t 91) (.t 93)⟩ [6, 8, 4]
(.wr 11 ⟨none, none, .store 1 (.t 95) (.t 89)⟩ [10, 4, 9, 0, 1, 2, 3, 4, 5, 6]
(.rd 12 ⟨(some 96), none, .faddr 1 (.t 5)⟩
(.wr 13 ⟨none, none, .store 1 (.t 96) (.t 94)⟩ [12, 9, 11, 0, 1, 2, 3, 4, 5, 6, 7, 8, 9, 10, 11]
.fin .no)) .no) .no)) .no) .no) .no)))))))) (some [2, 5, 7, 16, 41, 42, 43]))
(.ops [⟨(some 97), none, .mov (.t 7)⟩,
⟨(some 98), none, .mov (.t 97)⟩,
⟨(some 99), (some (98, true)), .mov (.t 16)⟩,
⟨(some 100), none, .pick (.t 98) (.t 99) (.c (.bool false))⟩,
⟨(some 101), none, .mov (.t 100)⟩,
⟨(some 102), (some (101, true)), .faddr 3 (.t 5)⟩,
⟨(some 103), (some (101, true)), .load 1 false (.t 102)⟩,
⟨(some 104), (some (101, true)), .lenV (.t 103)⟩,
⟨(some 105), (some (101, true)), .ibin .eql .i64 (.t 104) (.c (.int .i64 0))⟩,
⟨(some 106), none, .pick (.t 101) (.t 105) (.c (.bool false))⟩,
⟨(some 7), none, .mov (.t 106)⟩] (some [2, 5, 7, 41, 42, 43]))))))))))
(.ops [⟨(some 107), none, .ibin .add .i64 (.t 43) (.c (.int .i64 1))⟩,
⟨(some 43), none, .mov (.t 107)⟩] (some [2, 5, 7, 41, 42, 43]))))))))
(.seq (.seq (.ops [⟨(some 108), none, .mov (.t 7)⟩,
⟨(some 109), none, .un .not (.t 108)⟩] (some [2, 5, 109]))
(.cond (.t 109)
(.seq (.ops [⟨(some 110), none, .build [(.slice none 0 0), (.slice none 0 0), (.int .i64 0), (.slice none 0 0)] []⟩,
⟨none, none, .store 4 (.t 2) (.t 110)⟩,
⟨(some 3), none, .mov (.c (.int .i64 7))⟩] (some [2, 3]))
.ret)
.skip))
(.seq (.seq (.ops [⟨(some 112), none, .load 4 true (.t 5)⟩,
⟨(some 113), none, .call 43 [(.t 112)]⟩,
⟨(some 111), none, .mov (.t 113)⟩,
⟨(some 114), none, .extract 0 (.t 111)⟩,
⟨(some 115), none, .extract 1 (.t 111)⟩,
⟨(some 17), none, .mov (.t 114)⟩,
⟨(some 18), none, .mov (.t 115)⟩] (some [2, 5, 18]))
(.seq (.ops [⟨(some 116), none, .mov (.t 18)⟩,
⟨(some 117), none, .ibin .neq .i64 (.t 116) (.c (.int .i64 0))⟩] (some [2, 5, 18, 117]))
(.cond (.t 117)
(.seq (.ops [⟨(some 118), none, .build [(.slice none 0 0), (.slice none 0 0), (.int .i64 0), (.slice none 0 0)] []⟩,
⟨(some 119), none, .mov (.t 18)⟩,
⟨none, none, .store 4 (.t 2) (.t 118)⟩,
⟨(some 3), none, .mov (.t 119)⟩] (some [2, 3]))
.ret)
.skip)))
(.seq (.ops [⟨(some 120), none, .load 4 true (.t 5)⟩,
⟨none, none, .store 4 (.t 2) (.t 120)⟩,
⟨(some 3), none, .mov (.c (.int .i64 0))⟩] (some [2, 3]))
.ret))))))))))⟩
/-- guidevane/guidevaneref09.ParseRules -/
def ir379 : IFn := ⟨114, [.cell 2 4 true, .t 3],
(.seq (.ops [⟨(some 2), none, .alloc [(.slice none 0 0), (.slice none 0 0), (.int .i64 0), (.slice none 0 0)]⟩,
⟨(some 3), none, .mov (.c (.int .i64 0))⟩] (some [0, 2]))
(.seq (.ops [⟨(some 16), none, .build [(.slice none 0 0), (.slice none 0 0), (.int .i64 0), (.slice none 0 0)] []⟩,
⟨(some 4), none, .alloc [(.slice none 0 0), (.slice none 0 0), (.int .i64 0), (.slice none 0 0)]⟩,
⟨none, none, .store 4 (.t 4) (.t 16)⟩] (some [0, 2, 4]))
(.seq (.seq (.ops [⟨(some 17), none, .mov (.t 0)⟩,
⟨(some 18), none, .lenS (.t 17)⟩,
⟨(some 19), none, .ibin .gtr .i64 (.t 18) (.c (.int .i64 60000))⟩] (some [0, 2, 4, 19]))
(.cond (.t 19)
(.seq (.ops [⟨(some 20), none, .load 4 true (.t 4)⟩,
⟨none, none, .store 4 (.t 2) (.t 20)⟩,
⟨(some 3), none, .mov (.c (.int .i64 8))⟩] (some [2, 3]))
.ret)
.skip))
(.seq (.ops [⟨(some 21), none, .mov (.t 0)⟩,
⟨(some 22), none, .call 386 [(.t 21), (.c (.int .u8 59))]⟩,
⟨(some 5), none, .mov (.t 22)⟩] (some [2, 4, 5]))
(.seq (.ops [⟨(some 24), none, .mov (.t 5)⟩,
⟨(some 25), none, .iaddr 1 (.t 24) (.c (.int .i64 0))⟩,
⟨(some 26), none, .load 1 false (.t 25)⟩,
⟨(some 27), none, .call 391 [(.t 26)]⟩,
⟨(some 23), none, .mov (.t 27)⟩,
⟨(some 28), none, .extract 0 (.t 23)⟩,
⟨(some 29), none, .extract 1 (.t 23)⟩,
⟨(some 6), none, .mov (.t 28)⟩,
⟨(some 7), none, .mov (.t 29)⟩] (some [2, 4, 5, 6, 7]))
(.seq (.seq (.ops [⟨(some 30), none, .mov (.t 7)⟩,
⟨(some 31), none, .un .not (.t 30)⟩,
⟨(some 32), none, .mov (.t 31)⟩,
⟨(some 33), (some (32, false)), .mov (.t 5)⟩,
⟨(some 34), (some (32, false)), .lenV (.t 33)⟩,
⟨(some 35), (some (32, false)), .ibin .lss .i64 (.t 34) (.c (.int .i64 2))⟩,
⟨(some 36), none, .pick (.t 32) (.c (.bool true)) (.t 35)⟩] (some [2, 4, 5, 6, 36]))
(.cond (.t 36)
(.seq (.ops [⟨(some 37), none, .load 4 true (.t 4)⟩,
⟨none, none, .store 4 (.t 2) (.t 37)⟩,
⟨(some 3), none, .mov (.c (.int .i64 7))⟩] (some [2, 3]))
.ret)
.skip))
(.seq (.ops [⟨(some 38), none, .mov (.t 6)⟩,
⟨(some 39), none, .build [(.slice none 0 0), (.slice none 0 0), (.int .i64 0), (.slice none 0 0)] [(2, 1, (.t 38))]⟩,
⟨(some 8), none, .alloc [(.slice none 0 0), (.slice none 0 0), (.int .i64 0), (.slice none 0 0)]⟩,
⟨none, none, .store 4 (.t 8) (.t 39)⟩] (some [2, 4, 5, 8]))
(.seq (.seq (.ops [⟨(some 9), none, .mov (.c (.int .i64 1))⟩] none)
(.block 0 (.loop (.seq (.seq (.ops [⟨(some 40), none, .mov (.t 9)⟩,
⟨(some 41), none, .mov (.t 5)⟩,
⟨(some 42), none, .lenV (.t 41)⟩,
⟨(some 43), none, .ibin .lss .i64 (.t 40) (.t 42)⟩] (some [2, 4, 5, 8, 9, 43]))
(.cond (.t 43)
.skip
(.exit 0)))
(.seq (.block 1 (.seq (.ops [⟨(some 46), none, .mov (.t 5)⟩,
⟨(some 47), none, .mov (.t 9)⟩,
⟨(some 48), none, .iaddr 1 (.t 46) (.t 47)⟩,
⟨(some 49), none, .load 1 false (.t 48)⟩,
⟨(some 50), none, .call 386 [(.t 49), (.c (.int .u8 32))]⟩,
⟨(some 10), none, .mov (.t 50)⟩] (some [2, 4, 5, 8, 9, 10]))
(.seq (.seq (.ops [⟨(some 51), none, .mov (.t 10)⟩,
⟨(some 52), none, .lenV (.t 51)⟩,
⟨(some 53), none, .ibin .neq .i64 (.t 52) (.c (.int .i64 2))⟩] (some [2, 4, 5, 8, 9, 10, 53]))
(.cond (.t 53)
(.seq (.ops [⟨(some 54), none, .load 4 true (.t 4)⟩,
⟨none, none, .store 4 (.t 2) (.t 54)⟩,
⟨(some 3), none, .mov (.c (.int .i64 7))⟩] (some [2, 3]))
.ret)
.skip))
(.seq (.ops [⟨(some 56), none, .mov (.t 10)⟩,
⟨(some 57), none, .iaddr 1 (.t 56) (.c (.int .i64 1))⟩,
⟨(some 58), none, .load 1 false (.t 57)⟩,
⟨(some 59), none, .call 391 [(.t 58)]⟩,
⟨(some 55), none, .mov (.t 59)⟩,
⟨(some 60), none, .extract 0 (.t 55)⟩,
⟨(some 61), none, .extract 1 (.t 55)⟩,
⟨(some 11), none, .mov (.t 60)⟩,
⟨(some 12), none, .mov (.t 61)⟩] (some [2, 4, 5, 8, 9, 10, 11, 12]))
(.seq (.seq (.ops [⟨(some 62), none, .mov (.t 12)⟩,
⟨(some 63), none, .un .not (.t 62)⟩] (some [2, 4, 5, 8, 9, 10, 11, 63]))
(.cond (.t 63)
(.seq (.ops [⟨(some 64), none, .load 4 true (.t 4)⟩,
⟨none, none, .store 4 (.t 2) (.t 64)⟩,
⟨(some 3), none, .mov (.c (.int .i64 7))⟩] (some [2, 3]))
.ret)
.skip))
(.seq (.seq (.ops [⟨(some 65), none, .mov (.t 10)⟩,
⟨(some 66), none, .iaddr 1 (.t 65) (.c (.int .i64 0))⟩,
⟨(some 67), none, .load 1 false (.t 66)⟩,
⟨(some 68), none, .call 392 [(.t 67)]⟩] (some [2, 4, 5, 8, 9, 10, 11, 68]))
(.cond (.t 68)
(.seq (.draw (.rd 0 ⟨(some 69), none, .faddr 3 (.t 8)⟩
(.rd 1 ⟨(some 70), none, .load 1 false (.t 69)⟩
(.rd 2 ⟨(some 71), none, .mov (.t 10)⟩
(.rd 3 ⟨(some 72), none, .iaddr 1 (.t 71) (.c (.int .i64 0))⟩
(.rd 4 ⟨(some 73), none, .load 1 false (.t 72)⟩
(.rd 5 ⟨(some 74), none, .mov (.t 11)⟩
(.rd 6 ⟨(some 75), none, .build [(.string ⟨#[]⟩), (.int .i64 0)] [(0, 1, (.t 73)), (1, 1, (.t 74))]⟩
(.wr 7 ⟨(some 76), none, .bslice 1 2 [(.string ⟨#[]⟩), (.int .i64 0)] [(0, 2, (.t 75))]⟩ [6]
(.wr 8 ⟨(some 77), none, .append 2 24 (.t 70) (.t 76)⟩ [1, 7]
(.rd 9 ⟨(some 78), none, .faddr 3 (.t 8)⟩
(.wr 10 ⟨none, none, .store 1 (.t 78) (.t 77)⟩ [9, 8, 8, 0, 1, 2, 3, 4, 5, 6, 7, 8]
.fin .no)) .no) .no)))))))) (some [2, 4, 5, 8, 9]))
(.exit 1))
.skip))
(.seq (.ops [⟨(some 80), none, .mov (.t 10)⟩,
⟨(some 81), none, .iaddr 1 (.t 80) (.c (.int .i64 0))⟩,
⟨(some 82), none, .load 1 false (.t 81)⟩,
⟨(some 83), none, .call 391 [(.t 82)]⟩,
⟨(some 79), none, .mov (.t 83)⟩,
⟨(some 84), none, .extract 0 (.t 79)⟩,
⟨(some 85), none, .extract 1 (.t 79)⟩,
⟨(some 13), none, .mov (.t 84)⟩,
⟨(some 14), none, .mov (.t 85)⟩] (some [2, 4, 5, 8, 9, 11, 13, 14]))
(.seq (.seq (.ops [⟨(some 86), none, .mov (.t 14)⟩,
⟨(some 87), none, .un .not (.t 86)⟩,
⟨(some 88), none, .mov (.t 87)⟩,
⟨(some 89), (some (88, false)), .faddr 3 (.t 8)⟩,
⟨(some 90), (some (88, false)), .load 1 false (.t 89)⟩,
⟨(some 91), (some (88, false)), .lenV (.t 90)⟩,
⟨(some 92), (some (88, false)), .ibin .gtr .i64 (.t 91) (.c (.int .i64 0))⟩,
⟨(some 93), none, .pick (.t 88) (.c (.bool true)) (.t 92)⟩] (some [2, 4, 5, 8, 9, 11, 13, 93]))
(.cond (.t 93)
(.seq (.ops [⟨(some 94), none, .load 4 true (.t 4)⟩,
⟨none, none, .store 4 (.t 2) (.t 94)⟩,
⟨(some 3), none, .mov (.c (.int .i64 7))⟩] (some [2, 3]))
.ret)
.skip))
(.draw (.rd 0 ⟨(some 95), none, .faddr 0 (.t 8)⟩
(.rd 1 ⟨(some 96), none, .load 1 false (.t 95)⟩
(.rd 2 ⟨(some 97), none, .mov (.t 13)⟩
(.rd 5 ⟨(some 100), none, .faddr 1 (.t 8)⟩
(.rd 6 ⟨(some 101), none, .load 1 false (.t 100)⟩
(.rd 7 ⟨(some 102), none, .mov (.t 11)⟩
(.wr 3 ⟨(some 98), none, .bslice 1 1 [(.int .i64 0)] [(0, 1, (.t 97))]⟩ [2]
(.wr 4 ⟨(some 99), none, .append 1 8 (.t 96) (.t 98)⟩ [1, 3]
(.rd 10 ⟨(some 105), none, .faddr 0 (.t 8)⟩
(.wr 8 ⟨(some 103), none, .bslice 1 1 [(.int .i64 0)] [(0, 1, (.t 102))]⟩ [7]
(.wr 9 ⟨(some 104), none, .append 1 8 (.t 101) (.t 103)⟩ [6, 8, 4]
(.wr 11 ⟨none, none, .store 1 (.t 105) (.t 99)⟩ [10, 4, 9, 0, 1, 2, 3, 4, 5, 6]
(.rd 12 ⟨(some 106), none, .faddr 1 (.t 8)⟩
(.wr 13 ⟨none, none, .store 1 (.t 106) (.t 104)⟩ [12, 9, 11, 0, 1, 2, 3, 4, 5, 6, 7, 8, 9, 10, 11]
.fin .no)) .no) .no) .no))
(.wr 8 ⟨(some 103), none, .bslice 1 1 [(.int .i64 0)] [(0, 1, (.t 102))]⟩ [7]
(.wr 4 ⟨(some 99), none, .append 1 8 (.t 96) (.t 98)⟩ [1, 3]
(.rd 10 ⟨(some 105), none, .faddr 0 (.t 8)⟩
(.wr 9 ⟨(some 104), none, .append 1 8 (.t 101) (.t 103)⟩ [6, 8, 4]
(.wr 11 ⟨none, none, .store 1 (.t 105) (.t 99)⟩ [10, 4, 9, 0, 1, 2, 3, 4, 5, 6]
(.rd 12 ⟨(some 106), none, .faddr 1 (.t 8)⟩
(.wr 13 ⟨none, none, .store 1 (.t 106) (.t 104)⟩ [12, 9, 11, 0, 1, 2, 3, 4, 5, 6, 7, 8, 9, 10, 11]
.fin .no)) .no) .no)) .no) .no))
(.wr 8 ⟨(some 103), none, .bslice 1 1 [(.int .i64 0)] [(0, 1, (.t 102))]⟩ [7]
(.wr 3 ⟨(some 98), none, .bslice 1 1 [(.int .i64 0)] [(0, 1, (.t 97))]⟩ [2]
(.wr 4 ⟨(some 99), none, .append 1 8 (.t 96) (.t 98)⟩ [1, 3]
(.rd 10 ⟨(some 105), none, .faddr 0 (.t 8)⟩
(.wr 9 ⟨(some 104), none, .append 1 8 (.t 101) (.t 103)⟩ [6, 8, 4]
(.wr 11 ⟨none, none, .store 1 (.t 105) (.t 99)⟩ [10, 4, 9, 0, 1, 2, 3, 4, 5, 6]
(.rd 12 ⟨(some 106), none, .faddr 1 (.t 8)⟩
(.wr 13 ⟨none, none, .store 1 (.t 106) (.t 104)⟩ [12, 9, 11, 0, 1, 2, 3, 4, 5, 6, 7, 8, 9, 10, 11]
.fin .no)) .no) .no)) .no) .no) .no)))))))) (some [2, 4, 5, 8, 9]))))))))))
(.ops [⟨(some 44), none, .mov (.t 9)⟩,
⟨(some 45), none, .ibin .add .i64 (.t 44) (.c (.int .i64 1))⟩,
⟨(some 9), none, .mov (.t 45)⟩] (some [2, 4, 5, 8, 9])))))))
(.seq (.seq (.ops [⟨(some 107), none, .load 4 true (.t 8)⟩,
⟨(some 108), none, .call 39 [(.t 107)]⟩,
⟨(some 15), none, .mov (.t 108)⟩] (some [2, 4, 8, 15]))
(.seq (.ops [⟨(some 109), none, .mov (.t 15)⟩,
⟨(some 110), none, .ibin .neq .i64 (.t 109) (.c (.int .i64 0))⟩] (some [2, 4, 8, 15, 110]))
(.cond (.t 110)
(.seq (.ops [⟨(some 111), none, .load 4 true (.t 4)⟩,
⟨(some 112), none, .mov (.t 15)⟩,
⟨none, none, .store 4 (.t 2) (.t 111)⟩,
⟨(some 3), none, .mov (.t 112)⟩] (some [2, 3]))
.ret)
.skip)))
(.seq (.ops [⟨(some 113), none, .load 4 true (.t 8)⟩,
⟨none, none, .store 4 (.t 2) (.t 113)⟩,
⟨(some 3), none, .mov (.c (.int .i64 0))⟩] (some [2, 3]))
.ret))))))))))⟩
/-- guidevane/guidevaneref09.FormatRules -/
def ir380 : IFn := ⟨80, [.t 2],
(.seq (.ops [⟨(some 1), none, .box (.t 0)⟩,
⟨(some 2), none, .mov (.c (.string ⟨#[]⟩))⟩] (some [1]))
(.seq (.ops [⟨(some 8), none, .faddr 2 (.t 1)⟩,
⟨(some 9), none, .load 1 false (.t 8)⟩,
⟨(some 10), none, .call 388 [(.t 9)]⟩,
⟨(some 3), none, .mov (.t 10)⟩] (some [1, 3]))
(.seq (.seq (.ops [⟨(some 4), none, .mov (.c (.int .i64 0))⟩] none)
(.block 0 (.loop (.seq (.seq (.ops [⟨(some 11), none, .mov (.t 4)⟩,
⟨(some 12), none, .faddr 0 (.t 1)⟩,
⟨(some 13), none, .load 1 false (.t 12)⟩,
⟨(some 14), none, .lenV (.t 13)⟩,
⟨(some 15), none, .ibin .lss .i64 (.t 11) (.t 14)⟩,
⟨(some 16), none, .mov (.t 15)⟩,
⟨(some 17), (some (16, false)), .mov (.t 4)⟩,
⟨(some 18), (some (16, false)), .faddr 1 (.t 1)⟩,
⟨(some 19), (some (16, false)), .load 1 false (.t 18)⟩,
⟨(some 20), (some (16, false)), .lenV (.t 19)⟩,
⟨(some 21), (some (16, false)), .ibin .lss .i64 (.t 17) (.t 20)⟩,
⟨(some 22), none, .pick (.t 16) (.c (.bool true)) (.t 21)⟩] (some [1, 3, 4, 22]))
(.cond (.t 22)
.skip
(.exit 0)))
(.seq (.block 1 (.seq (.ops [⟨(some 5), none, .mov (.c (.int .i64 0))⟩,
⟨(some 6), none, .mov (.c (.int .i64 0))⟩] none)
(.seq (.seq (.ops [⟨(some 25), none, .mov (.t 4)⟩,
⟨(some 26), none, .faddr 0 (.t 1)⟩,
⟨(some 27), none, .load 1 false (.t 26)⟩,
⟨(some 28), none, .lenV (.t 27)⟩,
⟨(some 29), none, .ibin .lss .i64 (.t 25) (.t 28)⟩] (some [1, 3, 4, 5, 6, 29]))
(.cond (.t 29)
(.ops [⟨(some 30), none, .faddr 0 (.t 1)⟩,
⟨(some 31), none, .load 1 false (.t 30)⟩,
⟨(some 32), none, .mov (.t 4)⟩,
⟨(some 33), none, .iaddr 1 (.t 31) (.t 32)⟩,
⟨(some 34), none, .load 1 false (.t 33)⟩,
⟨(some 5), none, .mov (.t 34)⟩] (some [1, 3, 4, 5, 6]))
.skip))
(.seq (.seq (.ops [⟨(some 35), none, .mov (.t 4)⟩,
⟨(some 36), none, .faddr 1 (.t 1)⟩,
⟨(some 37), none, .load 1 false (.t 36)⟩,
⟨(some 38), none, .lenV (.t 37)⟩,
⟨(some 39), none, .ibin .lss .i64 (.t 35) (.t 38)⟩] (some [1, 3, 4, 5, 6, 39]))
(.cond (.t 39)
(.ops [⟨(some 40), none, .faddr 1 (.t 1)⟩,
⟨(some 41), none, .load 1 false (.t 40)⟩,
⟨(some 42), none, .mov (.t 4)⟩,
⟨(some 43), none, .iaddr 1 (.t 41) (.t 42)⟩,
⟨(some 44), none, .load 1 false (.t 43)⟩,
⟨(some 6), none, .mov (.t 44)⟩] (some [1, 3, 4, 5, 6]))
.skip))
(.ops [⟨(some 45), none, .mov (.t 3)⟩,
⟨(some 46), none, .sbin .add (.t 45) (.c (.string ⟨#[59]⟩))⟩,
⟨(some 47), none, .mov (.t 5)⟩,
⟨(some 48), none, .call 388 [(.t 47)]⟩,
⟨(some 49), none, .sbin .add (.t 46) (.t 48)⟩,
⟨(some 50), none, .sbin .add (.t 49) (.c (.string ⟨#[32]⟩))⟩,
⟨(some 51), none, .mov (.t 6)⟩,
⟨(some 52), none, .call 388 [(.t 51)]⟩,
⟨(some 53), none, .sbin .add (.t 50) (.t 52)⟩,
⟨(some 3), none, .mov (.t 53)⟩] (some [1, 3, 4]))))))
(.ops [⟨(some 23), none, .mov (.t 4)⟩,
⟨(some 24), none, .ibin .add .i64 (.t 23) (.c (.int .i64 1))⟩,
⟨(some 4), none, .mov (.t 24)⟩] (some [1, 3, 4])))))))
(.seq (.seq (.ops [⟨(some 7), none, .mov (.c (.int .i64 0))⟩] none)
(.block 2 (.loop (.seq (.seq (.ops [⟨(some 54), none, .mov (.t 7)⟩,
⟨(some 55), none, .faddr 3 (.t 1)⟩,
⟨(some 56), none, .load 1 false (.t 55)⟩,
⟨(some 57), none, .lenV (.t 56)⟩,
⟨(some 58), none, .ibin .lss .i64 (.t 54) (.t 57)⟩] (some [1, 3, 7, 58]))
(.cond (.t 58)
.skip
(.exit 2)))
(.seq (.block 3 (.draw (.rd 0 ⟨(some 61), none, .mov (.t 3)⟩
(.rd 1 ⟨(some 62), none, .sbin .add (.t 61) (.c (.string ⟨#[59]⟩))⟩
(.rd 2 ⟨(some 63), none, .faddr 3 (.t 1)⟩
(.rd 3 ⟨(some 64), none, .load 1 false (.t 63)⟩
(.rd 4 ⟨(some 65), none, .mov (.t 7)⟩
(.rd 5 ⟨(some 66), none, .iaddr 2 (.t 64) (.t 65)⟩
(.rd 6 ⟨(some 67), none, .faddr 0 (.t 66)⟩
(.rd 7 ⟨(some 68), none, .load 1 false (.t 67)⟩
(.rd 8 ⟨(some 69), none, .sbin .add (.t 62) (.t 68)⟩
(.rd 9 ⟨(some 70), none, .sbin .add (.t 69) (.c (.string ⟨#[32]⟩))⟩
(.rd 10 ⟨(some 71), none, .faddr 3 (.t 1)⟩
(.rd 11 ⟨(some 72), none, .load 1 false (.t 71)⟩
(.rd 12 ⟨(some 73), none, .mov (.t 7)⟩
(.rd 13 ⟨(some 74), none, .iaddr 2 (.t 72) (.t 73)⟩
(.rd 14 ⟨(some 75), none, .faddr 1 (.t 74)⟩
(.rd 15 ⟨(some 76), none, .load 1 false (.t 75)⟩
(.wr 16 ⟨(some 77), none, .call 388 [(.t 76)]⟩ [15]
(.rd 17 ⟨(some 78), none, .sbin .add (.t 70) (.t 77)⟩
(.wr 18 ⟨(some 3), none, .mov (.t 78)⟩ [17, 16, 0, 1, 2, 3, 4, 5, 6, 7, 8, 9, 10, 11, 12, 13, 14, 15, 16, 17]
.fin .no)) .no))))))))))))))))) (some [1, 3, 7])))
(.ops [⟨(some 59), none, .mov (.t 7)⟩,
⟨(some 60), none, .ibin .add .i64 (.t 59) (.c (.int .i64 1))⟩,
⟨(some 7), none, .mov (.t 60)⟩] (some [1, 3, 7])))))))
(.seq (.ops [⟨(some 79), none, .mov (.t 3)⟩,
⟨(some 2), none, .mov (.t 79)⟩] (some [2]))
.ret)))))⟩
/-- guidevane/guidevaneref09.SameRules -/
def ir381 : IFn := ⟨54, [.t 4],
(.seq (.ops [⟨(some 2), none, .box (.t 0)⟩,
⟨(some 3), none, .box (.t 1)⟩,
⟨(some 4), none, .mov (.c (.bool false))⟩] (some [2, 3]))
(.seq (.seq (.ops [⟨(some 6), none, .faddr 0 (.t 2)⟩,
⟨(some 7), none, .load 1 false (.t 6)⟩,
⟨(some 8), none, .faddr 0 (.t 3)⟩,
⟨(some 9), none, .load 1 false (.t 8)⟩,
⟨(some 10), none, .call 26 [(.t 7), (.t 9)]⟩,
⟨(some 11), none, .un .not (.t 10)⟩,
⟨(some 12), none, .mov (.t 11)⟩,
⟨(some 13), (some (12, false)), .faddr 1 (.t 2)⟩,
⟨(some 14), (some (12, false)), .load 1 false (.t 13)⟩,
⟨(some 15), (some (12, false)), .faddr 1 (.t 3)⟩,
⟨(some 16), (some (12, false)), .load 1 false (.t 15)⟩,
⟨(some 17), (some (12, false)), .call 26 [(.t 14), (.t 16)]⟩,
⟨(some 18), (some (12, false)), .un .not (.t 17)⟩,
⟨(some 19), none, .pick (.t 12) (.c (.bool true)) (.t 18)⟩,
⟨(some 20), none, .mov (.t 19)⟩,
⟨(some 21), (some (20, false)), .faddr 2 (.t 2)⟩,
⟨(some 22), (some (20, false)), .load 1 false (.t 21)⟩,
⟨(some 23), (some (20, false)), .faddr 2 (.t 3)⟩,
⟨(some 24), (some (20, false)), .load 1 false (.t 23)⟩,
⟨(some 25), (some (20, false)), .ibin .neq .i64 (.t 22) (.t 24)⟩,
⟨(some 26), none, .pick (.t 20) (.c (.bool true)) (.t 25)⟩,
⟨(some 27), none, .mov (.t 26)⟩,
⟨(some 28), (some (27, false)), .faddr 3 (.t 2)⟩,
⟨(some 29), (some (27, false)), .load 1 false (.t 28)⟩,
⟨(some 30), (some (27, false)), .lenV (.t 29)⟩,
⟨(some 31), (some (27, false)), .faddr 3 (.t 3)⟩,
⟨(some 32), (some (27, false)), .load 1 false (.t 31)⟩,
⟨(some 33), (some (27, false)), .lenV (.t 32)⟩,
⟨(some 34), (some (27, false)), .ibin .neq .i64 (.t 30) (.t 33)⟩,
⟨(some 35), none, .pick (.t 27) (.c (.bool true)) (.t 34)⟩] (some [2, 3, 35]))
(.cond (.t 35)
(.seq (.ops [⟨(some 4), none, .mov (.c (.bool false))⟩] none)
.ret)
.skip))
(.seq (.seq (.ops [⟨(some 5), none, .mov (.c (.int .i64 0))⟩] none)
(.block 0 (.loop (.seq (.seq (.ops [⟨(some 36), none, .mov (.t 5)⟩,
⟨(some 37), none, .faddr 3 (.t 2)⟩,
⟨(some 38), none, .load 1 false (.t 37)⟩,
⟨(some 39), none, .lenV (.t 38)⟩,
⟨(some 40), none, .ibin .lss .i64 (.t 36) (.t 39)⟩] (some [2, 3, 5, 40]))
(.cond (.t 40)
.skip
(.exit 0)))
(.seq (.block 1 (.seq (.draw (.rd 0 ⟨(some 43), none, .faddr 3 (.t 2)⟩
(.rd 1 ⟨(some 44), none, .load 1 false (.t 43)⟩
(.rd 2 ⟨(some 45), none, .mov (.t 5)⟩
(.rd 3 ⟨(some 46), none, .iaddr 2 (.t 44) (.t 45)⟩
(.rd 4 ⟨(some 47), none, .load 2 true (.t 46)⟩
(.rd 5 ⟨(some 48), none, .faddr 3 (.t 3)⟩
(.rd 6 ⟨(some 49), none, .load 1 false (.t 48)⟩
(.rd 7 ⟨(some 50), none, .mov (.t 5)⟩
(.rd 8 ⟨(some 51), none, .iaddr 2 (.t 49) (.t 50)⟩
(.rd 9 ⟨(some 52), none, .load 2 true (.t 51)⟩
(.rd 10 ⟨(some 53), none, .eqv (.fld 0 1 .str (.fld 1 1 (.int .i64) .nil)) true (.t 47) (.t 52)⟩
.fin))))))))))) (some [2, 3, 5, 53]))
(.cond (.t 53)
(.seq (.ops [⟨(some 4), none, .mov (.c (.bool false))⟩] none)
.ret)
.skip)))
(.ops [⟨(some 41), none, .mov (.t 5)⟩,
⟨(some 42), none, .ibin .add .i64 (.t 41) (.c (.int .i64 1))⟩,
⟨(some 5), none, .mov (.t 42)⟩] (some [2, 3, 5])))))))
(.seq (.ops [⟨(some 4), none, .mov (.c (.bool true))⟩] none)
.ret))))⟩
/-- guidevane/guidevanebase.Cut -/
def ir386 : IFn := ⟨34, [.t 4],
(.seq (.ops [⟨(some 4), none, .mov (.c (.slice none 0 0))⟩] (some [0, 1]))
(.seq (.ops [⟨(some 5), none, .mov (.c (.slice none 0 0))⟩] none)
(.seq (.ops [⟨(some 6), none, .mov (.c (.int .i64 0))⟩] none)
(.seq (.seq (.ops [⟨(some 7), none, .mov (.c (.int .i64 0))⟩] none)
(.block 0 (.loop (.seq (.seq (.ops [⟨(some 8), none, .mov (.t 7)⟩,
⟨(some 9), none, .mov (.t 0)⟩,
⟨(some 10), none, .lenS (.t 9)⟩,
⟨(some 11), none, .ibin .lss .i64 (.t 8) (.t 10)⟩] (some [0, 1, 5, 6, 7, 11]))
(.cond (.t 11)
.skip
(.exit 0)))
(.seq (.block 1 (.seq (.ops [⟨(some 14), none, .mov (.t 0)⟩,
⟨(some 15), none, .mov (.t 7)⟩,
⟨(some 16), none, .indexS (.t 14) (.t 15)⟩,
⟨(some 17), none, .mov (.t 1)⟩,
⟨(some 18), none, .ibin .eql .u8 (.t 16) (.t 17)⟩] (some [0, 1, 5, 6, 7, 18]))
(.cond (.t 18)
(.seq (.ops [⟨(some 19), none, .mov (.t 5)⟩,
⟨(some 20), none, .mov (.t 0)⟩,
⟨(some 21), none, .mov (.t 6)⟩,
⟨(some 22), none, .mov (.t 7)⟩,
⟨(some 23), none, .sliceS (.t 20) (some (.t 21)) (some (.t 22))⟩,
⟨(some 24), none, .bslice 1 1 [(.string ⟨#[]⟩)] [(0, 1, (.t 23))]⟩,
⟨(some 25), none, .append 1 16 (.t 19) (.t 24)⟩,
⟨(some 5), none, .mov (.t 25)⟩] (some [0, 1, 5, 7]))
(.ops [⟨(some 26), none, .mov (.t 7)⟩,
⟨(some 27), none, .ibin .add .i64 (.t 26) (.c (.int .i64 1))⟩,
⟨(some 6), none, .mov (.t 27)⟩] (some [0, 1, 5, 6, 7])))
.skip)))
(.ops [⟨(some 12), none, .mov (.t 7)⟩,
⟨(some 13), none, .ibin .add .i64 (.t 12) (.c (.int .i64 1))⟩,
⟨(some 7), none, .mov (.t 13)⟩] (some [0, 1, 5, 6, 7])))))))
(.seq (.ops [⟨(some 28), none, .mov (.t 5)⟩,
⟨(some 29), none, .mov (.t 0)⟩,
⟨(some 30), none, .mov (.t 6)⟩,
⟨(some 31), none, .sliceS (.t 29) (some (.t 30)) none⟩,
⟨(some 32), none, .bslice 1 1 [(.string ⟨#[]⟩)] [(0, 1, (.t 31))]⟩,
⟨(some 33), none, .append 1 16 (.t 28) (.t 32)⟩,
⟨(some 4), none, .mov (.t 33)⟩] (some [4]))
.ret)))))⟩
/-- guidevane/guidevanebase.Number -/
def ir387 : IFn := ⟨70, [.t 4, .t 5],
(.seq (.ops [⟨(some 4), none, .mov (.c (.int .i64 0))⟩,
⟨(some 5), none, .mov (.c (.bool false))⟩] (some [0, 1]))
(.seq (.ops [⟨(some 6), none, .mov (.c (.int .i64 0))⟩] none)
(.seq (.seq (.ops [⟨(some 9), none, .mov (.t 0)⟩,
⟨(some 10), none, .lenS (.t 9)⟩,
⟨(some 11), none, .ibin .gtr .i64 (.t 10) (.c (.int .i64 0))⟩,
⟨(some 12), none, .mov (.t 11)⟩,
⟨(some 13), (some (12, true)), .mov (.t 0)⟩,
⟨(some 14), (some (12, true)), .indexS (.t 13) (.c (.int .i64 0))⟩,
⟨(some 15), (some (12, true)), .ibin .eql .u8 (.t 14) (.c (.int .u8 45))⟩,
⟨(some 16), none, .pick (.t 12) (.t 15) (.c (.bool false))⟩] (some [0, 1, 6, 16]))
(.cond (.t 16)
(.ops [⟨(some 6), none, .mov (.c (.int .i64 1))⟩] none)
.skip))
(.seq (.seq (.ops [⟨(some 17), none, .mov (.t 0)⟩,
⟨(some 18), none, .lenS (.t 17)⟩,
⟨(some 19), none, .mov (.t 6)⟩,
⟨(some 20), none, .ibin .eql .i64 (.t 18) (.t 19)⟩,
⟨(some 21), none, .mov (.t 20)⟩,
⟨(some 22), (some (21, false)), .mov (.t 0)⟩,
⟨(some 23), (some (21, false)), .lenS (.t 22)⟩,
⟨(some 24), (some (21, false)), .mov (.t 6)⟩,
⟨(some 25), (some (21, false)), .ibin .sub .i64 (.t 23) (.t 24)⟩,
⟨(some 26), (some (21, false)), .mov (.t 1)⟩,
⟨(some 27), (some (21, false)), .ibin .gtr .i64 (.t 25) (.t 26)⟩,
⟨(some 28), none, .pick (.t 21) (.c (.bool true)) (.t 27)⟩,
⟨(some 29), none, .mov (.t 28)⟩,
⟨(some 30), (some (29, false)), .mov (.t 0)⟩,
⟨(some 31), (some (29, false)), .mov (.t 6)⟩,
⟨(some 32), (some (29, false)), .indexS (.t 30) (.t 31)⟩,
⟨(some 33), (some (29, false)), .ibin .eql .u8 (.t 32) (.c (.int .u8 48))⟩,
⟨(some 34), (some (29, false)), .mov (.t 33)⟩,
⟨(some 35), (some (34, true)), .mov (.t 0)⟩,
⟨(some 36), (some (34, true)), .lenS (.t 35)⟩,
⟨(some 37), (some (34, true)), .ibin .gtr .i64 (.t 36) (.c (.int .i64 1))⟩,
⟨(some 38), (some (29, false)), .pick (.t 34) (.t 37) (.c (.bool false))⟩,
⟨(some 39), none, .pick (.t 29) (.c (.bool true)) (.t 38)⟩] (some [0, 6, 39]))
(.cond (.t 39)
(.seq (.ops [⟨(some 4), none, .mov (.c (.int .i64 0))⟩,
⟨(some 5), none, .mov (.c (.bool false))⟩] none)
.ret)
.skip))
(.seq (.ops [⟨(some 7), none, .mov (.c (.int .i64 0))⟩] none)
(.seq (.seq (.ops [⟨(some 40), none, .mov (.t 6)⟩,
⟨(some 8), none, .mov (.t 40)⟩] (some [0, 6, 7, 8]))
(.block 0 (.loop (.seq (.seq (.ops [⟨(some 41), none, .mov (.t 8)⟩,
⟨(some 42), none, .mov (.t 0)⟩,
⟨(some 43), none, .lenS (.t 42)⟩,
⟨(some 44), none, .ibin .lss .i64 (.t 41) (.t 43)⟩] (some [0, 6, 7, 8, 44]))
(.cond (.t 44)
.skip
(.exit 0)))
(.seq (.block 1 (.seq (.seq (.ops [⟨(some 47), none, .mov (.t 0)⟩,
⟨(some 48), none, .mov (.t 8)⟩,
⟨(some 49), none, .indexS (.t 47) (.t 48)⟩,
⟨(some 50), none, .ibin .lss .u8 (.t 49) (.c (.int .u8 48))⟩,
⟨(some 51), none, .mov (.t 50)⟩,
⟨(some 52), (some (51, false)), .mov (.t 0)⟩,
⟨(some 53), (some (51, false)), .mov (.t 8)⟩,
⟨(some 54), (some (51, false)), .indexS (.t 52) (.t 53)⟩,
⟨(some 55), (some (51, false)), .ibin .gtr .u8 (.t 54) (.c (.int .u8 57))⟩,
⟨(some 56), none, .pick (.t 51) (.c (.bool true)) (.t 55)⟩] (some [0, 6, 7, 8, 56]))
(.cond (.t 56)
(.seq (.ops [⟨(some 4), none, .mov (.c (.int .i64 0))⟩,
⟨(some 5), none, .mov (.c (.bool false))⟩] none)
.ret)
.skip))
(.ops [⟨(some 57), none, .mov (.t 7)⟩,
⟨(some 58), none, .ibin .mul .i64 (.c (.int .i64 10)) (.t 57)⟩,
⟨(some 59), none, .mov (.t 0)⟩,
⟨(some 60), none, .mov (.t 8)⟩,
⟨(some 61), none, .indexS (.t 59) (.t 60)⟩,
⟨(some 62), none, .ibin .sub .u8 (.t 61) (.c (.int .u8 48))⟩,
⟨(some 63), none, .conv .i64 (.t 62)⟩,
⟨(some 64), none, .ibin .add .i64 (.t 58) (.t 63)⟩,
⟨(some 7), none, .mov (.t 64)⟩] (some [0, 6, 7, 8]))))
(.ops [⟨(some 45), none, .mov (.t 8)⟩,
⟨(some 46), none, .ibin .add .i64 (.t 45) (.c (.int .i64 1))⟩,
⟨(some 8), none, .mov (.t 46)⟩] (some [0, 6, 7, 8])))))))
(.seq (.seq (.ops [⟨(some 65), none, .mov (.t 6)⟩,
⟨(some 66), none, .ibin .eql .i64 (.t 65) (.c (.int .i64 1))⟩] (some [7, 66]))
(.cond (.t 66)
(.ops [⟨(some 67), none, .mov (.t 7)⟩,
⟨(some 68), none, .un .neg (.t 67)⟩,
⟨(some 7), none, .mov (.t 68)⟩] (some [7]))
.skip))
(.seq (.ops [⟨(some 69), none, .mov (.t 7)⟩,
⟨(some 4), none, .mov (.t 69)⟩,
⟨(some 5), none, .mov (.c (.bool true))⟩] (some [4, 5]))
.ret))))))))⟩
/-- guidevane/dam.threshold -/
def ir389 : IFn := ⟨15, [.t 4],
(.seq (.ops [⟨(some 4), none, .mov (.c (.string ⟨#[]⟩))⟩] (some [0, 1]))
(.seq (.seq (.ops [⟨(some 5), none, .mov (.t 1)⟩,
⟨(some 6), none, .mov (.t 0)⟩,
⟨(some 7), none, .lenV (.t 6)⟩,
⟨(some 8), none, .ibin .lss .i64 (.t 5) (.t 7)⟩] (some [0, 1, 8]))
(.cond (.t 8)
(.seq (.ops [⟨(some 9), none, .mov (.t 0)⟩,
⟨(some 10), none, .mov (.t 1)⟩,
⟨(some 11), none, .iaddr 1 (.t 9) (.t 10)⟩,
⟨(some 12), none, .load 1 false (.t 11)⟩,
⟨(some 13), none, .call 385 [(.t 12)]⟩,
⟨(some 4), none, .mov (.t 13)⟩] (some [4]))
.ret)
.skip))
(.seq (.ops [⟨(some 14), none, .call 385 [(.c (.int .i64 0))]⟩,
⟨(some 4), none, .mov (.t 14)⟩] (some [4]))
.ret)))⟩
/-- guidevane/guidevaneref09.natural -/
def ir391 : IFn := ⟨18, [.t 2, .t 3],
(.seq (.ops [⟨(some 2), none, .mov (.c (.int .i64 0))⟩,
⟨(some 3), none, .mov (.c (.bool false))⟩] (some [0]))
(.seq (.ops [⟨(some 7), none, .mov (.t 0)⟩,
⟨(some 8), none, .call 387 [(.t 7), (.c (.int .i64 7))]⟩,
⟨(some 6), none, .mov (.t 8)⟩,
⟨(some 9), none, .extract 0 (.t 6)⟩,
⟨(some 10), none, .extract 1 (.t 6)⟩,
⟨(some 4), none, .mov (.t 9)⟩,
⟨(some 5), none, .mov (.t 10)⟩] (some [0, 4, 5]))
(.seq (.draw (.rd 0 ⟨(some 11), none, .mov (.t 4)⟩
(.rd 1 ⟨(some 12), none, .mov (.t 5)⟩
(.rd 2 ⟨(some 13), none, .mov (.t 12)⟩
(.rd 3 ⟨(some 14), (some (13, true)), .mov (.t 0)⟩
(.rd 4 ⟨(some 15), (some (13, true)), .indexS (.t 14) (.c (.int .i64 0))⟩
(.rd 5 ⟨(some 16), (some (13, true)), .ibin .neq .u8 (.t 15) (.c (.int .u8 45))⟩
(.rd 6 ⟨(some 17), none, .pick (.t 13) (.t 16) (.c (.bool false))⟩
(.rd 7 ⟨(some 2), none, .mov (.t 11)⟩
(.rd 8 ⟨(some 3), none, .mov (.t 17)⟩
.fin))))))))) (some [2, 3]))
.ret)))⟩
/-- guidevane/guidevaneref09.isLetter -/
def ir392 : IFn := ⟨25, [.t 2],
(.seq (.ops [⟨(some 2), none, .mov (.c (.bool false))⟩] (some [0]))
(.seq (.ops [⟨(some 3), none, .mov (.t 0)⟩,
⟨(some 4), none, .sbin .neq (.t 3) (.c (.string ⟨#[]⟩))⟩,
⟨(some 5), none, .mov (.t 4)⟩,
⟨(some 6), (some (5, true)), .mov (.t 0)⟩,
⟨(some 7), (some (5, true)), .indexS (.t 6) (.c (.int .i64 0))⟩,
⟨(some 8), (some (5, true)), .ibin .geq .u8 (.t 7) (.c (.int .u8 97))⟩,
⟨(some 9), (some (5, true)), .mov (.t 8)⟩,
⟨(some 10), (some (9, true)), .mov (.t 0)⟩,
⟨(some 11), (some (9, true)), .indexS (.t 10) (.c (.int .i64 0))⟩,
⟨(some 12), (some (9, true)), .ibin .leq .u8 (.t 11) (.c (.int .u8 122))⟩,
⟨(some 13), (some (5, true)), .pick (.t 9) (.t 12) (.c (.bool false))⟩,
⟨(some 14), (some (5, true)), .mov (.t 13)⟩,
⟨(some 15), (some (14, false)), .mov (.t 0)⟩,
⟨(some 16), (some (14, false)), .indexS (.t 15) (.c (.int .i64 0))⟩,
⟨(some 17), (some (14, false)), .ibin .geq .u8 (.t 16) (.c (.int .u8 65))⟩,
⟨(some 18), (some (14, false)), .mov (.t 17)⟩,
⟨(some 19), (some (18, true)), .mov (.t 0)⟩,
⟨(some 20), (some (18, true)), .indexS (.t 19) (.c (.int .i64 0))⟩,
⟨(some 21), (some (18, true)), .ibin .leq .u8 (.t 20) (.c (.int .u8 90))⟩,
⟨(some 22), (some (14, false)), .pick (.t 18) (.t 21) (.c (.bool false))⟩,
⟨(some 23), (some (5, true)), .pick (.t 14) (.c (.bool true)) (.t 22)⟩,
⟨(some 24), none, .pick (.t 5) (.t 23) (.c (.bool false))⟩,
⟨(some 2), none, .mov (.t 24)⟩] (some [2]))
.ret))⟩

end Go.Proofs.YtacgibkgojnfeaaGreatDoor.AM
