/- The functions in the small language. Conditions: none. -/
import Derived.Test.YtacgibkgojnfeaaGreatAmFn
namespace Go.Proofs.YtacgibkgojnfeaaGreat.AM
set_option linter.unusedSimpArgs false
set_option linter.unusedVariables false
open Go Go.RowKit

/-- slices.medianOrdered[int] -/
def ir143 : IFn := ⟨36, [.t 10],
(.seq (.ops [⟨(some 10), none, .mov (.c (.int .i64 0))⟩] (some [0, 1, 2, 3, 4]))
(.seq (.ops [⟨(some 12), none, .mov (.t 0)⟩,
⟨(some 13), none, .mov (.t 1)⟩,
⟨(some 14), none, .mov (.t 2)⟩,
⟨(some 15), none, .mov (.t 4)⟩,
⟨(some 16), none, .call 146 [(.t 12), (.t 13), (.t 14), (.t 15)]⟩,
⟨(some 11), none, .mov (.t 16)⟩,
⟨(some 17), none, .extract 0 (.t 11)⟩,
⟨(some 18), none, .extract 1 (.t 11)⟩,
⟨(some 1), none, .mov (.t 17)⟩,
⟨(some 2), none, .mov (.t 18)⟩] (some [0, 1, 2, 3, 4]))
(.seq (.ops [⟨(some 20), none, .mov (.t 0)⟩,
⟨(some 21), none, .mov (.t 2)⟩,
⟨(some 22), none, .mov (.t 3)⟩,
⟨(some 23), none, .mov (.t 4)⟩,
⟨(some 24), none, .call 146 [(.t 20), (.t 21), (.t 22), (.t 23)]⟩,
⟨(some 19), none, .mov (.t 24)⟩,
⟨(some 25), none, .extract 0 (.t 19)⟩,
⟨(some 26), none, .extract 1 (.t 19)⟩,
⟨(some 2), none, .mov (.t 25)⟩,
⟨(some 3), none, .mov (.t 26)⟩] (some [0, 1, 2, 4]))
(.seq (.ops [⟨(some 28), none, .mov (.t 0)⟩,
⟨(some 29), none, .mov (.t 1)⟩,
⟨(some 30), none, .mov (.t 2)⟩,
⟨(some 31), none, .mov (.t 4)⟩,
⟨(some 32), none, .call 146 [(.t 28), (.t 29), (.t 30), (.t 31)]⟩,
⟨(some 27), none, .mov (.t 32)⟩,
⟨(some 33), none, .extract 0 (.t 27)⟩,
⟨(some 34), none, .extract 1 (.t 27)⟩,
⟨(some 1), none, .mov (.t 33)⟩,
⟨(some 2), none, .mov (.t 34)⟩] (some [2]))
(.seq (.ops [⟨(some 35), none, .mov (.t 2)⟩,
⟨(some 10), none, .mov (.t 35)⟩] (some [10]))
.ret)))))⟩
/-- slices.rotateCmpFunc[int] -/
def ir144 : IFn := ⟨58, [],
(.seq (.ops [⟨(some 12), none, .mov (.t 2)⟩,
⟨(some 13), none, .mov (.t 1)⟩,
⟨(some 14), none, .ibin .sub .i64 (.t 12) (.t 13)⟩,
⟨(some 10), none, .mov (.t 14)⟩] (some [0, 2, 3, 4, 10]))
(.seq (.ops [⟨(some 15), none, .mov (.t 3)⟩,
⟨(some 16), none, .mov (.t 2)⟩,
⟨(some 17), none, .ibin .sub .i64 (.t 15) (.t 16)⟩,
⟨(some 11), none, .mov (.t 17)⟩] (some [0, 2, 4, 10, 11]))
(.seq (.block 0 (.loop (.seq (.seq (.ops [⟨(some 18), none, .mov (.t 10)⟩,
⟨(some 19), none, .mov (.t 11)⟩,
⟨(some 20), none, .ibin .neq .i64 (.t 18) (.t 19)⟩] (some [0, 2, 4, 10, 11, 20]))
(.cond (.t 20)
.skip
(.exit 0)))
(.block 1 (.seq (.ops [⟨(some 21), none, .mov (.t 10)⟩,
⟨(some 22), none, .mov (.t 11)⟩,
⟨(some 23), none, .ibin .gtr .i64 (.t 21) (.t 22)⟩] (some [0, 2, 4, 10, 11, 23]))
(.cond (.t 23)
(.seq (.ops [⟨(some 24), none, .mov (.t 0)⟩,
⟨(some 25), none, .mov (.t 2)⟩,
⟨(some 26), none, .mov (.t 10)⟩,
⟨(some 27), none, .ibin .sub .i64 (.t 25) (.t 26)⟩,
⟨(some 28), none, .mov (.t 2)⟩,
⟨(some 29), none, .mov (.t 11)⟩,
⟨(some 30), none, .mov (.t 4)⟩,
⟨(some 31), none, .call 147 [(.t 24), (.t 27), (.t 28), (.t 29), (.t 30)]⟩] (some [0, 2, 4, 10, 11]))
(.ops [⟨(some 32), none, .mov (.t 10)⟩,
⟨(some 33), none, .mov (.t 11)⟩,
⟨(some 34), none, .ibin .sub .i64 (.t 32) (.t 33)⟩,
⟨(some 10), none, .mov (.t 34)⟩] (some [0, 2, 4, 10, 11])))
(.seq (.ops [⟨(some 35), none, .mov (.t 0)⟩,
⟨(some 36), none, .mov (.t 2)⟩,
⟨(some 37), none, .mov (.t 10)⟩,
⟨(some 38), none, .ibin .sub .i64 (.t 36) (.t 37)⟩,
⟨(some 39), none, .mov (.t 2)⟩,
⟨(some 40), none, .mov (.t 11)⟩,
⟨(some 41), none, .ibin .add .i64 (.t 39) (.t 40)⟩,
⟨(some 42), none, .mov (.t 10)⟩,
⟨(some 43), none, .ibin .sub .i64 (.t 41) (.t 42)⟩,
⟨(some 44), none, .mov (.t 10)⟩,
⟨(some 45), none, .mov (.t 4)⟩,
⟨(some 46), none, .call 147 [(.t 35), (.t 38), (.t 43), (.t 44), (.t 45)]⟩] (some [0, 2, 4, 10, 11]))
(.ops [⟨(some 47), none, .mov (.t 11)⟩,
⟨(some 48), none, .mov (.t 10)⟩,
⟨(some 49), none, .ibin .sub .i64 (.t 47) (.t 48)⟩,
⟨(some 11), none, .mov (.t 49)⟩] (some [0, 2, 4, 10, 11])))))))))
(.ops [⟨(some 50), none, .mov (.t 0)⟩,
⟨(some 51), none, .mov (.t 2)⟩,
⟨(some 52), none, .mov (.t 10)⟩,
⟨(some 53), none, .ibin .sub .i64 (.t 51) (.t 52)⟩,
⟨(some 54), none, .mov (.t 2)⟩,
⟨(some 55), none, .mov (.t 10)⟩,
⟨(some 56), none, .mov (.t 4)⟩,
⟨(some 57), none, .call 147 [(.t 50), (.t 53), (.t 54), (.t 55), (.t 56)]⟩] (some [])))))⟩
/-- slices.Index[[]int,int] -/
def ir145 : IFn := ⟨19, [.t 4],
(.seq (.ops [⟨(some 4), none, .mov (.c (.int .i64 0))⟩] (some [0, 1]))
(.seq (.seq (.ops [⟨(some 6), none, .mov (.t 0)⟩,
⟨(some 7), none, .lenV (.t 6)⟩,
⟨(some 8), none, .mov (.c (.int .i64 0))⟩] (some [0, 1, 7, 8]))
(.block 0 (.loop (.seq (.ops [⟨(some 9), none, .ibin .lss .i64 (.t 8) (.t 7)⟩] none)
(.seq (.cond (.t 9)
.skip
(.exit 0))
(.seq (.block 1 (.seq (.ops [⟨(some 10), none, .mov (.t 8)⟩,
⟨(some 5), none, .mov (.t 10)⟩] (some [0, 1, 5, 7, 8]))
(.seq (.ops [⟨(some 11), none, .mov (.t 1)⟩,
⟨(some 12), none, .mov (.t 0)⟩,
⟨(some 13), none, .mov (.t 5)⟩,
⟨(some 14), none, .iaddr 1 (.t 12) (.t 13)⟩,
⟨(some 15), none, .load 1 false (.t 14)⟩,
⟨(some 16), none, .ibin .eql .i64 (.t 11) (.t 15)⟩] (some [0, 1, 5, 7, 8, 16]))
(.cond (.t 16)
(.seq (.ops [⟨(some 17), none, .mov (.t 5)⟩,
⟨(some 4), none, .mov (.t 17)⟩] (some [4]))
.ret)
.skip))))
(.ops [⟨(some 18), none, .ibin .add .i64 (.t 8) (.c (.int .i64 1))⟩,
⟨(some 8), none, .mov (.t 18)⟩] (some [0, 1, 7, 8]))))))))
(.seq (.ops [⟨(some 4), none, .mov (.c (.int .i64 (-1)))⟩] none)
.ret)))⟩
/-- slices.order2Ordered[int] -/
def ir146 : IFn := ⟨28, [.t 8, .t 9],
(.seq (.ops [⟨(some 8), none, .mov (.c (.int .i64 0))⟩,
⟨(some 9), none, .mov (.c (.int .i64 0))⟩] (some [0, 1, 2, 3]))
(.seq (.seq (.draw (.rd 0 ⟨(some 10), none, .mov (.t 0)⟩
(.rd 1 ⟨(some 11), none, .mov (.t 2)⟩
(.rd 2 ⟨(some 12), none, .iaddr 1 (.t 10) (.t 11)⟩
(.rd 3 ⟨(some 13), none, .load 1 false (.t 12)⟩
(.rd 4 ⟨(some 14), none, .mov (.t 0)⟩
(.rd 5 ⟨(some 15), none, .mov (.t 1)⟩
(.rd 6 ⟨(some 16), none, .iaddr 1 (.t 14) (.t 15)⟩
(.rd 7 ⟨(some 17), none, .load 1 false (.t 16)⟩
(.wr 8 ⟨(some 18), none, .call 122 [(.t 13), (.t 17)]⟩ [3, 7]
.fin .no))))))))) (some [1, 2, 3, 18]))
(.cond (.t 18)
(.seq (.ops [⟨(some 19), none, .mov (.t 3)⟩,
⟨(some 20), none, .nilchk (.t 19)⟩,
⟨(some 21), none, .load 1 false (.t 20)⟩,
⟨(some 22), none, .ibin .add .i64 (.t 21) (.c (.int .i64 1))⟩,
⟨(some 23), none, .nilchk (.t 19)⟩,
⟨none, none, .store 1 (.t 23) (.t 22)⟩] (some [1, 2]))
(.seq (.ops [⟨(some 24), none, .mov (.t 2)⟩,
⟨(some 25), none, .mov (.t 1)⟩,
⟨(some 8), none, .mov (.t 24)⟩,
⟨(some 9), none, .mov (.t 25)⟩] (some [8, 9]))
.ret))
.skip))
(.seq (.ops [⟨(some 26), none, .mov (.t 1)⟩,
⟨(some 27), none, .mov (.t 2)⟩,
⟨(some 8), none, .mov (.t 26)⟩,
⟨(some 9), none, .mov (.t 27)⟩] (some [8, 9]))
.ret)))⟩
/-- slices.swapRangeCmpFunc[int] -/
def ir147 : IFn := ⟨38, [],
(.seq (.ops [⟨(some 10), none, .mov (.c (.int .i64 0))⟩] none)
(.block 0 (.loop (.seq (.seq (.ops [⟨(some 11), none, .mov (.t 10)⟩,
⟨(some 12), none, .mov (.t 3)⟩,
⟨(some 13), none, .ibin .lss .i64 (.t 11) (.t 12)⟩] (some [0, 1, 2, 3, 10, 13]))
(.cond (.t 13)
.skip
(.exit 0)))
(.seq (.block 1 (.draw (.rd 0 ⟨(some 16), none, .mov (.t 0)⟩
(.rd 1 ⟨(some 17), none, .mov (.t 1)⟩
(.rd 2 ⟨(some 18), none, .mov (.t 10)⟩
(.rd 3 ⟨(some 19), none, .ibin .add .i64 (.t 17) (.t 18)⟩
(.rd 4 ⟨(some 20), none, .mov (.t 0)⟩
(.rd 5 ⟨(some 21), none, .mov (.t 2)⟩
(.rd 6 ⟨(some 22), none, .mov (.t 10)⟩
(.rd 7 ⟨(some 23), none, .ibin .add .i64 (.t 21) (.t 22)⟩
(.rd 8 ⟨(some 24), none, .mov (.t 0)⟩
(.rd 9 ⟨(some 25), none, .mov (.t 2)⟩
(.rd 10 ⟨(some 26), none, .mov (.t 10)⟩
(.rd 11 ⟨(some 27), none, .ibin .add .i64 (.t 25) (.t 26)⟩
(.rd 12 ⟨(some 28), none, .iaddr 1 (.t 24) (.t 27)⟩
(.rd 13 ⟨(some 29), none, .load 1 false (.t 28)⟩
(.rd 14 ⟨(some 30), none, .mov (.t 0)⟩
(.rd 15 ⟨(some 31), none, .mov (.t 1)⟩
(.rd 16 ⟨(some 32), none, .mov (.t 10)⟩
(.rd 17 ⟨(some 33), none, .ibin .add .i64 (.t 31) (.t 32)⟩
(.rd 18 ⟨(some 34), none, .iaddr 1 (.t 30) (.t 33)⟩
(.rd 19 ⟨(some 35), none, .load 1 false (.t 34)⟩
(.rd 20 ⟨(some 36), none, .iaddr 1 (.t 16) (.t 19)⟩
(.wr 21 ⟨none, none, .store 1 (.t 36) (.t 29)⟩ [20, 13, 0, 1, 2, 3, 8, 9, 10, 11, 12, 13, 19]
(.rd 22 ⟨(some 37), none, .iaddr 1 (.t 20) (.t 23)⟩
(.wr 23 ⟨none, none, .store 1 (.t 37) (.t 35)⟩ [22, 19, 21, 0, 1, 2, 3, 4, 5, 6, 7, 8, 9, 10, 11, 12, 13, 14, 15, 16, 17, 18, 19, 20, 21]
.fin .no)) .no)))))))))))))))))))))) (some [0, 1, 2, 3, 10])))
(.ops [⟨(some 14), none, .mov (.t 10)⟩,
⟨(some 15), none, .ibin .add .i64 (.t 14) (.c (.int .i64 1))⟩,
⟨(some 10), none, .mov (.t 15)⟩] (some [0, 1, 2, 3, 10])))))))⟩
/-- guidevane/guidevanelaw09.DamContained -/
def ir168 : IFn := ⟨183, [.t 4],
(.seq (.ops [⟨(some 4), none, .mov (.c (.bool false))⟩] (some [0, 1]))
(.seq (.seq (.ops [⟨(some 19), none, .call 10 []⟩,
⟨(some 20), none, .un .not (.t 19)⟩] (some [0, 1, 20]))
(.cond (.t 20)
(.seq (.ops [⟨(some 4), none, .mov (.c (.bool false))⟩] none)
.ret)
.skip))
(.seq (.seq (.ops [⟨(some 21), none, .mov (.t 0)⟩,
⟨(some 22), none, .call 178 [(.t 21)]⟩,
⟨(some 23), none, .un .not (.t 22)⟩,
⟨(some 24), none, .mov (.t 23)⟩,
⟨(some 25), (some (24, false)), .mov (.t 0)⟩,
⟨(some 26), (some (24, false)), .call 51 [(.t 25)]⟩,
⟨(some 27), (some (24, false)), .ibin .neq .i64 (.t 26) (.c (.int .i64 0))⟩,
⟨(some 28), none, .pick (.t 24) (.c (.bool true)) (.t 27)⟩,
⟨(some 29), none, .mov (.t 28)⟩,
⟨(some 30), (some (29, false)), .mov (.t 1)⟩,
⟨(some 31), (some (29, false)), .call 52 [(.t 30)]⟩,
⟨(some 32), (some (29, false)), .ibin .neq .i64 (.t 31) (.c (.int .i64 0))⟩,
⟨(some 33), none, .pick (.t 29) (.c (.bool true)) (.t 32)⟩] (some [0, 1, 33]))
(.cond (.t 33)
(.seq (.ops [⟨(some 4), none, .mov (.c (.bool true))⟩] none)
.ret)
.skip))
(.seq (.ops [⟨(some 35), none, .mov (.t 0)⟩,
⟨(some 36), none, .call 53 [(.t 35)]⟩,
⟨(some 37), none, .mov (.t 1)⟩,
⟨(some 38), none, .call 55 [(.t 36), (.t 37)]⟩,
⟨(some 34), none, .mov (.t 38)⟩,
⟨(some 39), none, .extract 0 (.t 34)⟩,
⟨(some 40), none, .extract 1 (.t 34)⟩,
⟨(some 5), none, .alloc (List.replicate 6 (.int .i64 0))⟩,
⟨none, none, .store 6 (.t 5) (.t 39)⟩,
⟨(some 6), none, .mov (.t 40)⟩] (some [0, 5, 6]))
(.seq (.seq (.ops [⟨(some 41), none, .mov (.t 6)⟩,
⟨(some 42), none, .ibin .neq .i64 (.t 41) (.c (.int .i64 0))⟩] (some [0, 5, 6, 42]))
(.cond (.t 42)
(.seq (.ops [⟨(some 43), none, .mov (.t 6)⟩,
⟨(some 44), none, .ibin .eql .i64 (.t 43) (.c (.int .i64 12))⟩,
⟨(some 45), none, .mov (.t 44)⟩,
⟨(some 46), (some (45, false)), .mov (.t 6)⟩,
⟨(some 47), (some (45, false)), .ibin .eql .i64 (.t 46) (.c (.int .i64 8))⟩,
⟨(some 48), none, .pick (.t 45) (.c (.bool true)) (.t 47)⟩,
⟨(some 4), none, .mov (.t 48)⟩] (some [4]))
.ret)
.skip))
(.seq (.draw (.rd 0 ⟨(some 50), none, .mov (.t 0)⟩
(.rd 2 ⟨(some 52), none, .load 6 true (.t 5)⟩
(.wr 1 ⟨(some 51), none, .call 53 [(.t 50)]⟩ [0]
(.wr 3 ⟨(some 53), none, .call 57 [(.t 51), (.t 52)]⟩ [1, 2, 1]
(.rd 4 ⟨(some 49), none, .mov (.t 53)⟩
(.rd 5 ⟨(some 54), none, .extract 0 (.t 49)⟩
(.rd 6 ⟨(some 55), none, .extract 1 (.t 49)⟩
(.rd 7 ⟨(some 7), none, .mov (.t 54)⟩
(.rd 8 ⟨(some 8), none, .mov (.t 55)⟩
.fin))))) .no) .no))) (some [0, 5, 7, 8]))
(.seq (.seq (.ops [⟨(some 56), none, .mov (.t 8)⟩,
⟨(some 57), none, .ibin .neq .i64 (.t 56) (.c (.int .i64 0))⟩,
⟨(some 58), none, .mov (.t 57)⟩,
⟨(some 59), (some (58, false)), .mov (.t 7)⟩,
⟨(some 60), (some (58, false)), .call 15 [(.t 59), (.c (.int .i64 0)), (.c (.int .i64 1125899906842624))]⟩,
⟨(some 61), (some (58, false)), .un .not (.t 60)⟩,
⟨(some 62), none, .pick (.t 58) (.c (.bool true)) (.t 61)⟩] (some [0, 5, 7, 62]))
(.cond (.t 62)
(.seq (.ops [⟨(some 4), none, .mov (.c (.bool false))⟩] none)
.ret)
.skip))
(.seq (.seq (.ops [⟨(some 9), none, .mov (.c (.int .i64 0))⟩] none)
(.block 0 (.loop (.seq (.seq (.ops [⟨(some 63), none, .mov (.t 9)⟩,
⟨(some 64), none, .mov (.t 0)⟩,
⟨(some 65), none, .lenV (.t 64)⟩,
⟨(some 66), none, .ibin .lss .i64 (.t 63) (.t 65)⟩] (some [0, 5, 7, 9, 66]))
(.cond (.t 66)
.skip
(.exit 0)))
(.seq (.block 1 (.seq (.draw (.rd 0 ⟨(some 70), none, .mov (.t 0)⟩
(.rd 2 ⟨(some 72), none, .load 6 true (.t 5)⟩
(.rd 3 ⟨(some 73), none, .mov (.t 0)⟩
(.rd 4 ⟨(some 74), none, .mov (.t 9)⟩
(.rd 5 ⟨(some 75), none, .iaddr 3 (.t 73) (.t 74)⟩
(.rd 6 ⟨(some 76), none, .load 3 true (.t 75)⟩
(.wr 1 ⟨(some 71), none, .call 53 [(.t 70)]⟩ [0]
(.wr 7 ⟨(some 77), none, .call 59 [(.t 71), (.t 72), (.t 76)]⟩ [1, 2, 6, 1]
(.rd 8 ⟨(some 69), none, .mov (.t 77)⟩
(.rd 9 ⟨(some 78), none, .extract 0 (.t 69)⟩
(.rd 10 ⟨(some 79), none, .extract 1 (.t 69)⟩
(.wr 11 ⟨(some 10), none, .alloc [(.int .i64 0), (.int .i64 0)]⟩ []
(.wr 12 ⟨none, none, .store 2 (.t 10) (.t 78)⟩ [11, 9, 7, 0, 1, 2, 3, 4, 5, 6, 7, 8, 9, 11]
(.rd 13 ⟨(some 11), none, .mov (.t 79)⟩
.fin) .no) .no))))
(.wr 11 ⟨(some 10), none, .alloc [(.int .i64 0), (.int .i64 0)]⟩ []
(.wr 7 ⟨(some 77), none, .call 59 [(.t 71), (.t 72), (.t 76)]⟩ [1, 2, 6, 1]
(.rd 8 ⟨(some 69), none, .mov (.t 77)⟩
(.rd 9 ⟨(some 78), none, .extract 0 (.t 69)⟩
(.rd 10 ⟨(some 79), none, .extract 1 (.t 69)⟩
(.wr 12 ⟨none, none, .store 2 (.t 10) (.t 78)⟩ [11, 9, 7, 0, 1, 2, 3, 4, 5, 6, 7, 8, 9, 11]
(.rd 13 ⟨(some 11), none, .mov (.t 79)⟩
.fin) .no)))) .no) .no))
(.wr 11 ⟨(some 10), none, .alloc [(.int .i64 0), (.int .i64 0)]⟩ []
(.wr 1 ⟨(some 71), none, .call 53 [(.t 70)]⟩ [0]
(.wr 7 ⟨(some 77), none, .call 59 [(.t 71), (.t 72), (.t 76)]⟩ [1, 2, 6, 1]
(.rd 8 ⟨(some 69), none, .mov (.t 77)⟩
(.rd 9 ⟨(some 78), none, .extract 0 (.t 69)⟩
(.rd 10 ⟨(some 79), none, .extract 1 (.t 69)⟩
(.wr 12 ⟨none, none, .store 2 (.t 10) (.t 78)⟩ [11, 9, 7, 0, 1, 2, 3, 4, 5, 6, 7, 8, 9, 11]
(.rd 13 ⟨(some 11), none, .mov (.t 79)⟩
.fin) .no)))) .no) .no) .no)))))))) (some [0, 5, 7, 9, 10, 11]))
(.seq (.draw (.rd 0 ⟨(some 81), none, .load 6 true (.t 5)⟩
(.rd 1 ⟨(some 82), none, .mov (.t 0)⟩
(.rd 2 ⟨(some 83), none, .mov (.t 9)⟩
(.rd 3 ⟨(some 84), none, .iaddr 3 (.t 82) (.t 83)⟩
(.rd 4 ⟨(some 85), none, .load 3 true (.t 84)⟩
(.wr 5 ⟨(some 86), none, .call 179 [(.t 81), (.t 85)]⟩ [0, 4]
(.rd 6 ⟨(some 80), none, .mov (.t 86)⟩
(.rd 7 ⟨(some 87), none, .extract 0 (.t 80)⟩
(.rd 8 ⟨(some 88), none, .extract 1 (.t 80)⟩
(.wr 9 ⟨(some 12), none, .alloc (List.replicate 6 (.int .i64 0))⟩ []
(.wr 10 ⟨none, none, .store 6 (.t 12) (.t 87)⟩ [9, 7, 5, 0, 1, 2, 3, 4, 5, 6, 7, 9]
(.rd 11 ⟨(some 13), none, .mov (.t 88)⟩
.fin) .no) .no))))
(.wr 9 ⟨(some 12), none, .alloc (List.replicate 6 (.int .i64 0))⟩ []
(.wr 5 ⟨(some 86), none, .call 179 [(.t 81), (.t 85)]⟩ [0, 4]
(.rd 6 ⟨(some 80), none, .mov (.t 86)⟩
(.rd 7 ⟨(some 87), none, .extract 0 (.t 80)⟩
(.rd 8 ⟨(some 88), none, .extract 1 (.t 80)⟩
(.wr 10 ⟨none, none, .store 6 (.t 12) (.t 87)⟩ [9, 7, 5, 0, 1, 2, 3, 4, 5, 6, 7, 9]
(.rd 11 ⟨(some 13), none, .mov (.t 88)⟩
.fin) .no)))) .no) .no))))))) (some [0, 5, 7, 9, 10, 11, 12, 13]))
(.seq (.draw (.rd 0 ⟨(some 90), none, .load 2 true (.t 10)⟩
(.rd 1 ⟨(some 91), none, .mov (.t 0)⟩
(.rd 2 ⟨(some 92), none, .mov (.t 9)⟩
(.rd 3 ⟨(some 93), none, .iaddr 3 (.t 91) (.t 92)⟩
(.rd 4 ⟨(some 94), none, .faddr 2 (.t 93)⟩
(.rd 5 ⟨(some 95), none, .load 1 false (.t 94)⟩
(.wr 6 ⟨(some 96), none, .call 42 [(.t 90), (.t 95)]⟩ [0, 5]
(.rd 7 ⟨(some 89), none, .mov (.t 96)⟩
(.rd 8 ⟨(some 97), none, .extract 0 (.t 89)⟩
(.rd 9 ⟨(some 98), none, .extract 1 (.t 89)⟩
(.rd 10 ⟨(some 14), none, .mov (.t 97)⟩
(.rd 11 ⟨(some 15), none, .mov (.t 98)⟩
.fin))))) .no))))))) (some [0, 5, 7, 9, 10, 11, 12, 13, 14, 15]))
(.seq (.seq (.draw (.rd 0 ⟨(some 99), none, .mov (.t 11)⟩
(.rd 1 ⟨(some 100), none, .ibin .neq .i64 (.t 99) (.c (.int .i64 0))⟩
(.rd 2 ⟨(some 101), none, .mov (.t 100)⟩
(.rd 3 ⟨(some 102), (some (101, false)), .mov (.t 0)⟩
(.rd 4 ⟨(some 103), (some (101, false)), .mov (.t 9)⟩
(.rd 5 ⟨(some 104), (some (101, false)), .iaddr 3 (.t 102) (.t 103)⟩
(.rd 6 ⟨(some 105), (some (101, false)), .faddr 2 (.t 104)⟩
(.rd 7 ⟨(some 106), (some (101, false)), .load 1 false (.t 105)⟩
(.rd 8 ⟨(some 107), (some (101, false)), .faddr 0 (.t 10)⟩
(.rd 9 ⟨(some 108), (some (101, false)), .load 1 false (.t 107)⟩
(.rd 10 ⟨(some 109), (some (101, false)), .faddr 1 (.t 10)⟩
(.rd 11 ⟨(some 110), (some (101, false)), .load 1 false (.t 109)⟩
(.wr 12 ⟨(some 111), (some (101, false)), .call 15 [(.t 106), (.t 108), (.t 110)]⟩ [7, 9, 11, 2, 2]
(.rd 13 ⟨(some 112), (some (101, false)), .un .not (.t 111)⟩
(.rd 14 ⟨(some 113), none, .pick (.t 101) (.c (.bool true)) (.t 112)⟩
(.rd 15 ⟨(some 114), none, .mov (.t 113)⟩
(.rd 16 ⟨(some 115), (some (114, false)), .mov (.t 13)⟩
(.rd 17 ⟨(some 116), (some (114, false)), .ibin .neq .i64 (.t 115) (.c (.int .i64 0))⟩
(.rd 18 ⟨(some 117), none, .pick (.t 114) (.c (.bool true)) (.t 116)⟩
(.rd 19 ⟨(some 118), none, .mov (.t 117)⟩
(.rd 20 ⟨(some 119), (some (118, false)), .faddr 0 (.t 10)⟩
(.rd 21 ⟨(some 120), (some (118, false)), .load 1 false (.t 119)⟩
(.wr 22 ⟨(some 121), (some (118, false)), .call 15 [(.t 120), (.c (.int .i64 (-1000000))), (.c (.int .i64 1000000))]⟩ [21, 19, 19]
(.rd 23 ⟨(some 122), (some (118, false)), .mov (.t 121)⟩
(.rd 24 ⟨(some 123), (some (122, true)), .faddr 1 (.t 10)⟩
(.rd 25 ⟨(some 124), (some (122, true)), .load 1 false (.t 123)⟩
(.wr 26 ⟨(some 125), (some (122, true)), .call 15 [(.t 124), (.c (.int .i64 (-1000000))), (.c (.int .i64 1000000))]⟩ [25, 23, 23]
(.rd 27 ⟨(some 126), (some (118, false)), .pick (.t 122) (.t 125) (.c (.bool false))⟩
(.rd 28 ⟨(some 127), (some (118, false)), .mov (.t 126)⟩
(.rd 29 ⟨(some 128), (some (127, true)), .mov (.t 15)⟩
(.rd 30 ⟨(some 129), (some (127, true)), .ibin .neq .i64 (.t 128) (.c (.int .i64 0))⟩
(.rd 31 ⟨(some 130), (some (127, true)), .mov (.t 129)⟩
(.rd 32 ⟨(some 131), (some (130, false)), .mov (.t 14)⟩
(.rd 33 ⟨(some 132), (some (130, false)), .ibin .neq .i64 (.t 131) (.c (.int .i64 0))⟩
(.rd 34 ⟨(some 133), (some (127, true)), .pick (.t 130) (.c (.bool true)) (.t 132)⟩
(.rd 35 ⟨(some 134), (some (118, false)), .pick (.t 127) (.t 133) (.c (.bool false))⟩
(.rd 36 ⟨(some 135), none, .pick (.t 118) (.c (.bool true)) (.t 134)⟩
.fin)))))))))) .no)))) .no)))))))))) .no))))))))))))) (some [0, 5, 7, 9, 10, 12, 135]))
(.cond (.t 135)
(.seq (.ops [⟨(some 4), none, .mov (.c (.bool false))⟩] none)
.ret)
.skip))
(.seq (.ops [⟨(some 136), none, .mov (.t 7)⟩,
⟨(some 137), none, .un .neg (.t 136)⟩,
⟨(some 138), none, .mov (.t 7)⟩,
⟨(some 16), none, .mov (.t 137)⟩,
⟨(some 17), none, .mov (.t 138)⟩] (some [0, 5, 7, 9, 10, 12, 16, 17]))
(.seq (.seq (.ops [⟨(some 18), none, .mov (.c (.int .i64 0))⟩] none)
(.block 2 (.loop (.seq (.seq (.ops [⟨(some 139), none, .mov (.t 18)⟩,
⟨(some 140), none, .ibin .lss .i64 (.t 139) (.c (.int .i64 3))⟩] (some [0, 5, 7, 9, 10, 12, 16, 17, 18, 140]))
(.cond (.t 140)
.skip
(.exit 2)))
(.seq (.block 3 (.seq (.seq (.draw (.rd 0 ⟨(some 143), none, .mov (.t 18)⟩
(.rd 1 ⟨(some 144), none, .iaddrA 3 2 (.t 12) (.t 143)⟩
(.rd 2 ⟨(some 145), none, .faddr 0 (.t 144)⟩
(.rd 3 ⟨(some 146), none, .load 1 false (.t 145)⟩
(.wr 4 ⟨(some 147), none, .call 15 [(.t 146), (.c (.int .i64 (-1125899906842624))), (.c (.int .i64 1125899906842624))]⟩ [3]
(.rd 5 ⟨(some 148), none, .un .not (.t 147)⟩
(.rd 6 ⟨(some 149), none, .mov (.t 148)⟩
(.rd 7 ⟨(some 150), (some (149, false)), .mov (.t 18)⟩
(.rd 8 ⟨(some 151), (some (149, false)), .iaddrA 3 2 (.t 12) (.t 150)⟩
(.rd 9 ⟨(some 152), (some (149, false)), .faddr 1 (.t 151)⟩
(.rd 10 ⟨(some 153), (some (149, false)), .load 1 false (.t 152)⟩
(.rd 11 ⟨(some 154), (some (149, false)), .mov (.t 18)⟩
(.rd 12 ⟨(some 155), (some (149, false)), .iaddrA 3 2 (.t 12) (.t 154)⟩
(.rd 13 ⟨(some 156), (some (149, false)), .faddr 0 (.t 155)⟩
(.rd 14 ⟨(some 157), (some (149, false)), .load 1 false (.t 156)⟩
(.wr 15 ⟨(some 158), (some (149, false)), .call 15 [(.t 153), (.t 157), (.c (.int .i64 1125899906842624))]⟩ [10, 14, 6, 6]
(.rd 16 ⟨(some 159), (some (149, false)), .un .not (.t 158)⟩
(.rd 17 ⟨(some 160), none, .pick (.t 149) (.c (.bool true)) (.t 159)⟩
.fin)) .no))))))))))) .no))))) (some [0, 5, 7, 9, 10, 12, 16, 17, 18, 160]))
(.cond (.t 160)
(.seq (.ops [⟨(some 4), none, .mov (.c (.bool false))⟩] none)
.ret)
.skip))
(.draw (.rd 0 ⟨(some 161), none, .mov (.t 16)⟩
(.rd 1 ⟨(some 162), none, .mov (.t 18)⟩
(.rd 2 ⟨(some 163), none, .iaddrA 3 2 (.t 12) (.t 162)⟩
(.rd 3 ⟨(some 164), none, .faddr 0 (.t 163)⟩
(.rd 4 ⟨(some 165), none, .load 1 false (.t 164)⟩
(.rd 5 ⟨(some 166), none, .ibin .add .i64 (.t 161) (.t 165)⟩
(.rd 6 ⟨(some 167), none, .mov (.t 17)⟩
(.rd 7 ⟨(some 168), none, .mov (.t 18)⟩
(.rd 8 ⟨(some 169), none, .iaddrA 3 2 (.t 12) (.t 168)⟩
(.rd 9 ⟨(some 170), none, .faddr 1 (.t 169)⟩
(.rd 10 ⟨(some 171), none, .load 1 false (.t 170)⟩
(.rd 11 ⟨(some 172), none, .ibin .add .i64 (.t 167) (.t 171)⟩
(.wr 12 ⟨(some 16), none, .mov (.t 166)⟩ [5, 0, 1, 2, 3, 4, 5]
(.wr 13 ⟨(some 17), none, .mov (.t 172)⟩ [11, 12, 0, 1, 2, 3, 4, 5, 6, 7, 8, 9, 10, 11, 12]
.fin .no) .no))))))))))))) (some [0, 5, 7, 9, 10, 12, 16, 17, 18]))))
(.ops [⟨(some 141), none, .mov (.t 18)⟩,
⟨(some 142), none, .ibin .add .i64 (.t 141) (.c (.int .i64 1))⟩,
⟨(some 18), none, .mov (.t 142)⟩] (some [0, 5, 7, 9, 10, 12, 16, 17, 18])))))))
(.seq (.ops [⟨(some 173), none, .faddr 0 (.t 10)⟩,
⟨(some 174), none, .load 1 false (.t 173)⟩,
⟨(some 175), none, .mov (.t 16)⟩,
⟨(some 176), none, .ibin .lss .i64 (.t 174) (.t 175)⟩,
⟨(some 177), none, .mov (.t 176)⟩,
⟨(some 178), (some (177, false)), .faddr 1 (.t 10)⟩,
⟨(some 179), (some (177, false)), .load 1 false (.t 178)⟩,
⟨(some 180), (some (177, false)), .mov (.t 17)⟩,
⟨(some 181), (some (177, false)), .ibin .gtr .i64 (.t 179) (.t 180)⟩,
⟨(some 182), none, .pick (.t 177) (.c (.bool true)) (.t 181)⟩] (some [0, 5, 7, 9, 182]))
(.cond (.t 182)
(.seq (.ops [⟨(some 4), none, .mov (.c (.bool false))⟩] none)
.ret)
.skip)))))))))
(.ops [⟨(some 67), none, .mov (.t 9)⟩,
⟨(some 68), none, .ibin .add .i64 (.t 67) (.c (.int .i64 1))⟩,
⟨(some 9), none, .mov (.t 68)⟩] (some [0, 5, 7, 9])))))))
(.seq (.ops [⟨(some 4), none, .mov (.c (.bool true))⟩] none)
.ret)))))))))⟩
/-- guidevane/guidevanelaw09.few -/
def ir178 : IFn := ⟨6, [.t 2],
(.seq (.ops [⟨(some 2), none, .mov (.c (.bool false))⟩] (some [0]))
(.seq (.ops [⟨(some 3), none, .mov (.t 0)⟩,
⟨(some 4), none, .lenV (.t 3)⟩,
⟨(some 5), none, .ibin .leq .i64 (.t 4) (.c (.int .i64 14))⟩,
⟨(some 2), none, .mov (.t 5)⟩] (some [2]))
.ret))⟩
/-- guidevane/dam.SharesOf -/
def ir179 : IFn := ⟨39, [.cell 4 6 true, .t 5],
(.seq (.ops [⟨(some 2), none, .box (.t 0)⟩,
⟨(some 3), none, .box (.t 1)⟩,
⟨(some 4), none, .alloc (List.replicate 6 (.int .i64 0))⟩,
⟨(some 5), none, .mov (.c (.int .i64 0))⟩] (some [2, 3, 4]))
(.seq (.seq (.draw (.rd 0 ⟨(some 10), none, .load 6 true (.t 2)⟩
(.rd 2 ⟨(some 12), none, .load 3 true (.t 3)⟩
(.wr 1 ⟨(some 11), none, .call 98 [(.t 10)]⟩ [0]
(.wr 3 ⟨(some 13), none, .call 33 [(.t 12)]⟩ [2, 1]
(.wr 4 ⟨(some 14), none, .bslice 2 1 [(.int .i64 0)] [(0, 1, (.t 11)), (1, 1, (.t 13))]⟩ [1, 3]
(.wr 5 ⟨(some 15), none, .call 63 [(.t 14)]⟩ [4, 3]
(.rd 6 ⟨(some 6), none, .mov (.t 15)⟩
.fin) .no) .no) .no) .no))) (some [2, 3, 4, 6]))
(.seq (.ops [⟨(some 16), none, .mov (.t 6)⟩,
⟨(some 17), none, .ibin .neq .i64 (.t 16) (.c (.int .i64 0))⟩] (some [2, 3, 4, 6, 17]))
(.cond (.t 17)
(.seq (.ops [⟨(some 18), none, .build (List.replicate 6 (.int .i64 0)) []⟩,
⟨(some 19), none, .mov (.t 6)⟩,
⟨none, none, .store 6 (.t 4) (.t 18)⟩,
⟨(some 5), none, .mov (.t 19)⟩] (some [4, 5]))
.ret)
.skip)))
(.seq (.ops [⟨(some 7), none, .alloc (List.replicate 6 (.int .i64 0))⟩] none)
(.seq (.seq (.ops [⟨(some 20), none, .bslice 1 1 [(.int .i64 0)] [(0, 1, (.c (.int .i64 1)))]⟩,
⟨(some 21), none, .bslice 2 1 [(.int .i64 0)] [(0, 1, (.c (.int .i64 2))), (1, 1, (.c (.int .i64 3)))]⟩,
⟨(some 22), none, .bslice 2 1 [(.int .i64 0)] [(0, 1, (.c (.int .i64 0))), (1, 1, (.c (.int .i64 4)))]⟩,
⟨(some 23), none, .build [(.slice none 0 0), (.slice none 0 0), (.slice none 0 0)] [(0, 1, (.t 20)), (1, 1, (.t 21)), (2, 1, (.t 22))]⟩,
⟨(some 24), none, .mov (.c (.int .i64 0))⟩] (some [2, 3, 4, 7, 23, 24]))
(.block 0 (.loop (.seq (.ops [⟨(some 25), none, .ibin .lss .i64 (.t 24) (.c (.int .i64 3))⟩] none)
(.seq (.cond (.t 25)
.skip
(.exit 0))
(.seq (.block 1 (.seq (.ops [⟨(some 26), none, .mov (.t 24)⟩,
⟨(some 27), none, .indexA 3 1 false (.t 23) (.t 24)⟩,
⟨(some 8), none, .mov (.t 26)⟩,
⟨(some 9), none, .mov (.t 27)⟩] (some [2, 3, 4, 7, 8, 9, 23, 24]))
(.draw (.rd 0 ⟨(some 28), none, .mov (.t 8)⟩
(.rd 1 ⟨(some 29), none, .load 6 true (.t 2)⟩
(.rd 2 ⟨(some 30), none, .load 3 true (.t 3)⟩
(.rd 3 ⟨(some 31), none, .mov (.t 9)⟩
(.rd 5 ⟨(some 33), none, .faddr 0 (.t 2)⟩
(.rd 6 ⟨(some 34), none, .load 1 false (.t 33)⟩
(.wr 4 ⟨(some 32), none, .call 117 [(.t 29), (.t 30), (.t 31)]⟩ [1, 2, 3]
(.wr 7 ⟨(some 35), none, .call 101 [(.t 32), (.t 34)]⟩ [4, 6, 4]
(.rd 8 ⟨(some 36), none, .iaddrA 3 2 (.t 7) (.t 28)⟩
(.wr 9 ⟨none, none, .store 2 (.t 36) (.t 35)⟩ [8, 7, 7, 0, 1, 2, 3, 4, 5, 6, 7]
.fin .no)) .no) .no))))))) (some [2, 3, 4, 7, 23, 24]))))
(.ops [⟨(some 37), none, .ibin .add .i64 (.t 24) (.c (.int .i64 1))⟩,
⟨(some 24), none, .mov (.t 37)⟩] (some [2, 3, 4, 7, 23, 24]))))))))
(.seq (.ops [⟨(some 38), none, .load 6 true (.t 7)⟩,
⟨none, none, .store 6 (.t 4) (.t 38)⟩,
⟨(some 5), none, .mov (.c (.int .i64 0))⟩] (some [4, 5]))
.ret)))))⟩

end Go.Proofs.YtacgibkgojnfeaaGreat.AM
