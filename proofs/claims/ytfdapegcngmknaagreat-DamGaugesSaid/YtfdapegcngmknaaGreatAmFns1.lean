/- The functions in the small language. Conditions: none. -/
import Derived.Test.YtfdapegcngmknaaGreatAmFn
namespace Go.Proofs.YtfdapegcngmknaaGreat.AM
set_option linter.unusedSimpArgs false
set_option linter.unusedVariables false
open Go Go.RowKit

/-- math/bits.Len32 -/
def ir134 : IFn := ⟨19, [.t 2],
(.seq (.ops [⟨(some 2), none, .mov (.c (.int .i64 0))⟩] none)
(.seq (.seq (.ops [⟨(some 3), none, .mov (.t 0)⟩,
⟨(some 4), none, .ibin .geq .u32 (.t 3) (.c (.int .u32 65536))⟩] (some [0, 2, 4]))
(.cond (.t 4)
(.seq (.ops [⟨(some 5), none, .mov (.t 0)⟩,
⟨(some 6), none, .shift .shr .u32 (.t 5) (.c (.int .u64 16))⟩,
⟨(some 0), none, .mov (.t 6)⟩] (some [0]))
(.ops [⟨(some 2), none, .mov (.c (.int .i64 16))⟩] none))
.skip))
(.seq (.seq (.ops [⟨(some 7), none, .mov (.t 0)⟩,
⟨(some 8), none, .ibin .geq .u32 (.t 7) (.c (.int .u32 256))⟩] (some [0, 2, 8]))
(.cond (.t 8)
(.seq (.ops [⟨(some 9), none, .mov (.t 0)⟩,
⟨(some 10), none, .shift .shr .u32 (.t 9) (.c (.int .u64 8))⟩,
⟨(some 0), none, .mov (.t 10)⟩] (some [0, 2]))
(.ops [⟨(some 11), none, .mov (.t 2)⟩,
⟨(some 12), none, .ibin .add .i64 (.t 11) (.c (.int .i64 8))⟩,
⟨(some 2), none, .mov (.t 12)⟩] (some [0, 2])))
.skip))
(.seq (.ops [⟨(some 13), none, .mov (.t 2)⟩,
⟨(some 14), none, .mov (.t 0)⟩,
⟨(some 15), none, .conv .u8 (.t 14)⟩,
⟨(some 16), none, .indexS (.c (.string ⟨#[0, 1, 2, 2, 3, 3, 3, 3, 4, 4, 4, 4, 4, 4, 4, 4, 5, 5, 5, 5, 5, 5, 5, 5, 5, 5, 5, 5, 5, 5, 5, 5, 6, 6, 6, 6, 6, 6, 6, 6, 6, 6, 6, 6, 6, 6, 6, 6, 6, 6, 6, 6, 6, 6, 6, 6, 6, 6, 6, 6, 6, 6, 6, 6, 7, 7, 7, 7, 7, 7, 7, 7, 7, 7, 7, 7, 7, 7, 7, 7, 7, 7, 7, 7, 7, 7, 7, 7, 7, 7, 7, 7, 7, 7, 7, 7, 7, 7, 7, 7, 7, 7, 7, 7, 7, 7, 7, 7, 7, 7, 7, 7, 7, 7, 7, 7, 7, 7, 7, 7, 7, 7, 7, 7, 7, 7, 7, 7, 8, 8, 8, 8, 8, 8, 8, 8, 8, 8, 8, 8, 8, 8, 8, 8, 8, 8, 8, 8, 8, 8, 8, 8, 8, 8, 8, 8, 8, 8, 8, 8, 8, 8, 8, 8, 8, 8, 8, 8, 8, 8, 8, 8, 8, 8, 8, 8, 8, 8, 8, 8, 8, 8, 8, 8, 8, 8, 8, 8, 8, 8, 8, 8, 8, 8, 8, 8, 8, 8, 8, 8, 8, 8, 8, 8, 8, 8, 8, 8, 8, 8, 8, 8, 8, 8, 8, 8, 8, 8, 8, 8, 8, 8, 8, 8, 8, 8, 8, 8, 8, 8, 8, 8, 8, 8, 8, 8, 8, 8, 8, 8, 8, 8, 8, 8, 8, 8, 8, 8, 8, 8, 8, 8, 8, 8, 8, 8]⟩)) (.t 15)⟩,
⟨(some 17), none, .conv .i64 (.t 16)⟩,
⟨(some 18), none, .ibin .add .i64 (.t 13) (.t 17)⟩,
⟨(some 2), none, .mov (.t 18)⟩] (some [2]))
.ret))))⟩
/-- math/bits.Len64 -/
def ir135 : IFn := ⟨25, [.t 2],
(.seq (.ops [⟨(some 2), none, .mov (.c (.int .i64 0))⟩] none)
(.seq (.seq (.ops [⟨(some 3), none, .mov (.t 0)⟩,
⟨(some 4), none, .ibin .geq .u64 (.t 3) (.c (.int .u64 4294967296))⟩] (some [0, 2, 4]))
(.cond (.t 4)
(.seq (.ops [⟨(some 5), none, .mov (.t 0)⟩,
⟨(some 6), none, .shift .shr .u64 (.t 5) (.c (.int .u64 32))⟩,
⟨(some 0), none, .mov (.t 6)⟩] (some [0]))
(.ops [⟨(some 2), none, .mov (.c (.int .i64 32))⟩] none))
.skip))
(.seq (.seq (.ops [⟨(some 7), none, .mov (.t 0)⟩,
⟨(some 8), none, .ibin .geq .u64 (.t 7) (.c (.int .u64 65536))⟩] (some [0, 2, 8]))
(.cond (.t 8)
(.seq (.ops [⟨(some 9), none, .mov (.t 0)⟩,
⟨(some 10), none, .shift .shr .u64 (.t 9) (.c (.int .u64 16))⟩,
⟨(some 0), none, .mov (.t 10)⟩] (some [0, 2]))
(.ops [⟨(some 11), none, .mov (.t 2)⟩,
⟨(some 12), none, .ibin .add .i64 (.t 11) (.c (.int .i64 16))⟩,
⟨(some 2), none, .mov (.t 12)⟩] (some [0, 2])))
.skip))
(.seq (.seq (.ops [⟨(some 13), none, .mov (.t 0)⟩,
⟨(some 14), none, .ibin .geq .u64 (.t 13) (.c (.int .u64 256))⟩] (some [0, 2, 14]))
(.cond (.t 14)
(.seq (.ops [⟨(some 15), none, .mov (.t 0)⟩,
⟨(some 16), none, .shift .shr .u64 (.t 15) (.c (.int .u64 8))⟩,
⟨(some 0), none, .mov (.t 16)⟩] (some [0, 2]))
(.ops [⟨(some 17), none, .mov (.t 2)⟩,
⟨(some 18), none, .ibin .add .i64 (.t 17) (.c (.int .i64 8))⟩,
⟨(some 2), none, .mov (.t 18)⟩] (some [0, 2])))
.skip))
(.seq (.ops [⟨(some 19), none, .mov (.t 2)⟩,
⟨(some 20), none, .mov (.t 0)⟩,
⟨(some 21), none, .conv .u8 (.t 20)⟩,
⟨(some 22), none, .indexS (.c (.string ⟨#[0, 1, 2, 2, 3, 3, 3, 3, 4, 4, 4, 4, 4, 4, 4, 4, 5, 5, 5, 5, 5, 5, 5, 5, 5, 5, 5, 5, 5, 5, 5, 5, 6, 6, 6, 6, 6, 6, 6, 6, 6, 6, 6, 6, 6, 6, 6, 6, 6, 6, 6, 6, 6, 6, 6, 6, 6, 6, 6, 6, 6, 6, 6, 6, 7, 7, 7, 7, 7, 7, 7, 7, 7, 7, 7, 7, 7, 7, 7, 7, 7, 7, 7, 7, 7, 7, 7, 7, 7, 7, 7, 7, 7, 7, 7, 7, 7, 7, 7, 7, 7, 7, 7, 7, 7, 7, 7, 7, 7, 7, 7, 7, 7, 7, 7, 7, 7, 7, 7, 7, 7, 7, 7, 7, 7, 7, 7, 7, 8, 8, 8, 8, 8, 8, 8, 8, 8, 8, 8, 8, 8, 8, 8, 8, 8, 8, 8, 8, 8, 8, 8, 8, 8, 8, 8, 8, 8, 8, 8, 8, 8, 8, 8, 8, 8, 8, 8, 8, 8, 8, 8, 8, 8, 8, 8, 8, 8, 8, 8, 8, 8, 8, 8, 8, 8, 8, 8, 8, 8, 8, 8, 8, 8, 8, 8, 8, 8, 8, 8, 8, 8, 8, 8, 8, 8, 8, 8, 8, 8, 8, 8, 8, 8, 8, 8, 8, 8, 8, 8, 8, 8, 8, 8, 8, 8, 8, 8, 8, 8, 8, 8, 8, 8, 8, 8, 8, 8, 8, 8, 8, 8, 8, 8, 8, 8, 8, 8, 8, 8, 8, 8, 8, 8, 8, 8, 8]⟩)) (.t 21)⟩,
⟨(some 23), none, .conv .i64 (.t 22)⟩,
⟨(some 24), none, .ibin .add .i64 (.t 19) (.t 23)⟩,
⟨(some 2), none, .mov (.t 24)⟩] (some [2]))
.ret)))))⟩
/-- slices.insertionSortCmpFunc[int] -/
def ir136 : IFn := ⟨53, [],
(.seq (.ops [⟨(some 10), none, .mov (.t 1)⟩,
⟨(some 11), none, .ibin .add .i64 (.t 10) (.c (.int .i64 1))⟩,
⟨(some 8), none, .mov (.t 11)⟩] (some [0, 1, 2, 3, 8]))
(.block 0 (.loop (.seq (.seq (.ops [⟨(some 12), none, .mov (.t 8)⟩,
⟨(some 13), none, .mov (.t 2)⟩,
⟨(some 14), none, .ibin .lss .i64 (.t 12) (.t 13)⟩] (some [0, 1, 2, 3, 8, 14]))
(.cond (.t 14)
.skip
(.exit 0)))
(.seq (.block 1 (.seq (.ops [⟨(some 17), none, .mov (.t 8)⟩,
⟨(some 9), none, .mov (.t 17)⟩] (some [0, 1, 2, 3, 8, 9]))
(.block 2 (.loop (.seq (.seq (.draw (.rd 0 ⟨(some 18), none, .mov (.t 9)⟩
(.rd 1 ⟨(some 19), none, .mov (.t 1)⟩
(.rd 2 ⟨(some 20), none, .ibin .gtr .i64 (.t 18) (.t 19)⟩
(.rd 3 ⟨(some 21), none, .mov (.t 20)⟩
(.rd 4 ⟨(some 22), (some (21, true)), .mov (.t 3)⟩
(.rd 5 ⟨(some 23), (some (21, true)), .mov (.t 0)⟩
(.rd 6 ⟨(some 24), (some (21, true)), .mov (.t 9)⟩
(.rd 7 ⟨(some 25), (some (21, true)), .iaddr 1 (.t 23) (.t 24)⟩
(.rd 8 ⟨(some 26), (some (21, true)), .load 1 false (.t 25)⟩
(.rd 9 ⟨(some 27), (some (21, true)), .mov (.t 0)⟩
(.rd 10 ⟨(some 28), (some (21, true)), .mov (.t 9)⟩
(.rd 11 ⟨(some 29), (some (21, true)), .ibin .sub .i64 (.t 28) (.c (.int .i64 1))⟩
(.rd 12 ⟨(some 30), (some (21, true)), .iaddr 1 (.t 27) (.t 29)⟩
(.rd 13 ⟨(some 31), (some (21, true)), .load 1 false (.t 30)⟩
(.wr 14 ⟨(some 32), (some (21, true)), .callv (.t 22) [(.t 26), (.t 31)]⟩ [4, 8, 13, 3, 3]
(.rd 15 ⟨(some 33), (some (21, true)), .ibin .lss .i64 (.t 32) (.c (.int .i64 0))⟩
(.rd 16 ⟨(some 34), none, .pick (.t 21) (.t 33) (.c (.bool false))⟩
.fin)) .no))))))))))))))) (some [0, 1, 2, 3, 8, 9, 34]))
(.cond (.t 34)
.skip
(.exit 2)))
(.seq (.block 3 (.draw (.rd 0 ⟨(some 37), none, .mov (.t 0)⟩
(.rd 1 ⟨(some 38), none, .mov (.t 9)⟩
(.rd 2 ⟨(some 39), none, .mov (.t 0)⟩
(.rd 3 ⟨(some 40), none, .mov (.t 9)⟩
(.rd 4 ⟨(some 41), none, .ibin .sub .i64 (.t 40) (.c (.int .i64 1))⟩
(.rd 5 ⟨(some 42), none, .mov (.t 0)⟩
(.rd 6 ⟨(some 43), none, .mov (.t 9)⟩
(.rd 7 ⟨(some 44), none, .ibin .sub .i64 (.t 43) (.c (.int .i64 1))⟩
(.rd 8 ⟨(some 45), none, .iaddr 1 (.t 42) (.t 44)⟩
(.rd 9 ⟨(some 46), none, .load 1 false (.t 45)⟩
(.rd 10 ⟨(some 47), none, .mov (.t 0)⟩
(.rd 11 ⟨(some 48), none, .mov (.t 9)⟩
(.rd 12 ⟨(some 49), none, .iaddr 1 (.t 47) (.t 48)⟩
(.rd 13 ⟨(some 50), none, .load 1 false (.t 49)⟩
(.rd 14 ⟨(some 51), none, .iaddr 1 (.t 37) (.t 38)⟩
(.wr 15 ⟨none, none, .store 1 (.t 51) (.t 46)⟩ [14, 9, 0, 1, 5, 6, 7, 8, 9, 13]
(.rd 16 ⟨(some 52), none, .iaddr 1 (.t 39) (.t 41)⟩
(.wr 17 ⟨none, none, .store 1 (.t 52) (.t 50)⟩ [16, 13, 15, 0, 1, 2, 3, 4, 5, 6, 7, 8, 9, 10, 11, 12, 13, 14, 15]
.fin .no)) .no)))))))))))))))) (some [0, 1, 2, 3, 8, 9])))
(.ops [⟨(some 35), none, .mov (.t 9)⟩,
⟨(some 36), none, .ibin .sub .i64 (.t 35) (.c (.int .i64 1))⟩,
⟨(some 9), none, .mov (.t 36)⟩] (some [0, 1, 2, 3, 8, 9]))))))))
(.ops [⟨(some 15), none, .mov (.t 8)⟩,
⟨(some 16), none, .ibin .add .i64 (.t 15) (.c (.int .i64 1))⟩,
⟨(some 8), none, .mov (.t 16)⟩] (some [0, 1, 2, 3, 8])))))))⟩
/-- slices.symMergeCmpFunc[int] -/
def ir137 : IFn := ⟨220, [],
(.seq (.seq (.ops [⟨(some 25), none, .mov (.t 2)⟩,
⟨(some 26), none, .mov (.t 1)⟩,
⟨(some 27), none, .ibin .sub .i64 (.t 25) (.t 26)⟩,
⟨(some 28), none, .ibin .eql .i64 (.t 27) (.c (.int .i64 1))⟩] (some [0, 1, 2, 3, 4, 28]))
(.cond (.t 28)
(.seq (.ops [⟨(some 29), none, .mov (.t 2)⟩,
⟨(some 10), none, .mov (.t 29)⟩] (some [0, 1, 3, 4, 10]))
(.seq (.ops [⟨(some 30), none, .mov (.t 3)⟩,
⟨(some 11), none, .mov (.t 30)⟩] (some [0, 1, 4, 10, 11]))
(.seq (.block 0 (.loop (.seq (.seq (.ops [⟨(some 31), none, .mov (.t 10)⟩,
⟨(some 32), none, .mov (.t 11)⟩,
⟨(some 33), none, .ibin .lss .i64 (.t 31) (.t 32)⟩] (some [0, 1, 4, 10, 11, 33]))
(.cond (.t 33)
.skip
(.exit 0)))
(.block 1 (.seq (.ops [⟨(some 34), none, .mov (.t 10)⟩,
⟨(some 35), none, .mov (.t 11)⟩,
⟨(some 36), none, .ibin .add .i64 (.t 34) (.t 35)⟩,
⟨(some 37), none, .conv .u64 (.t 36)⟩,
⟨(some 38), none, .shift .shr .u64 (.t 37) (.c (.int .u64 1))⟩,
⟨(some 39), none, .conv .i64 (.t 38)⟩,
⟨(some 12), none, .mov (.t 39)⟩] (some [0, 1, 4, 10, 11, 12]))
(.seq (.draw (.rd 0 ⟨(some 40), none, .mov (.t 4)⟩
(.rd 1 ⟨(some 41), none, .mov (.t 0)⟩
(.rd 2 ⟨(some 42), none, .mov (.t 12)⟩
(.rd 3 ⟨(some 43), none, .iaddr 1 (.t 41) (.t 42)⟩
(.rd 4 ⟨(some 44), none, .load 1 false (.t 43)⟩
(.rd 5 ⟨(some 45), none, .mov (.t 0)⟩
(.rd 6 ⟨(some 46), none, .mov (.t 1)⟩
(.rd 7 ⟨(some 47), none, .iaddr 1 (.t 45) (.t 46)⟩
(.rd 8 ⟨(some 48), none, .load 1 false (.t 47)⟩
(.wr 9 ⟨(some 49), none, .callv (.t 40) [(.t 44), (.t 48)]⟩ [0, 4, 8]
(.rd 10 ⟨(some 50), none, .ibin .lss .i64 (.t 49) (.c (.int .i64 0))⟩
.fin) .no)))))))))) (some [0, 1, 4, 10, 11, 12, 50]))
(.cond (.t 50)
(.ops [⟨(some 51), none, .mov (.t 12)⟩,
⟨(some 52), none, .ibin .add .i64 (.t 51) (.c (.int .i64 1))⟩,
⟨(some 10), none, .mov (.t 52)⟩] (some [0, 1, 4, 10, 11]))
(.ops [⟨(some 53), none, .mov (.t 12)⟩,
⟨(some 11), none, .mov (.t 53)⟩] (some [0, 1, 4, 10, 11])))))))))
(.seq (.seq (.ops [⟨(some 54), none, .mov (.t 1)⟩,
⟨(some 13), none, .mov (.t 54)⟩] (some [0, 10, 13]))
(.block 2 (.loop (.seq (.seq (.ops [⟨(some 55), none, .mov (.t 13)⟩,
⟨(some 56), none, .mov (.t 10)⟩,
⟨(some 57), none, .ibin .sub .i64 (.t 56) (.c (.int .i64 1))⟩,
⟨(some 58), none, .ibin .lss .i64 (.t 55) (.t 57)⟩] (some [0, 10, 13, 58]))
(.cond (.t 58)
.skip
(.exit 2)))
(.seq (.block 3 (.draw (.rd 0 ⟨(some 61), none, .mov (.t 0)⟩
(.rd 1 ⟨(some 62), none, .mov (.t 13)⟩
(.rd 2 ⟨(some 63), none, .mov (.t 0)⟩
(.rd 3 ⟨(some 64), none, .mov (.t 13)⟩
(.rd 4 ⟨(some 65), none, .ibin .add .i64 (.t 64) (.c (.int .i64 1))⟩
(.rd 5 ⟨(some 66), none, .mov (.t 0)⟩
(.rd 6 ⟨(some 67), none, .mov (.t 13)⟩
(.rd 7 ⟨(some 68), none, .ibin .add .i64 (.t 67) (.c (.int .i64 1))⟩
(.rd 8 ⟨(some 69), none, .iaddr 1 (.t 66) (.t 68)⟩
(.rd 9 ⟨(some 70), none, .load 1 false (.t 69)⟩
(.rd 10 ⟨(some 71), none, .mov (.t 0)⟩
(.rd 11 ⟨(some 72), none, .mov (.t 13)⟩
(.rd 12 ⟨(some 73), none, .iaddr 1 (.t 71) (.t 72)⟩
(.rd 13 ⟨(some 74), none, .load 1 false (.t 73)⟩
(.rd 14 ⟨(some 75), none, .iaddr 1 (.t 61) (.t 62)⟩
(.wr 15 ⟨none, none, .store 1 (.t 75) (.t 70)⟩ [14, 9, 0, 1, 5, 6, 7, 8, 9, 13]
(.rd 16 ⟨(some 76), none, .iaddr 1 (.t 63) (.t 65)⟩
(.wr 17 ⟨none, none, .store 1 (.t 76) (.t 74)⟩ [16, 13, 15, 0, 1, 2, 3, 4, 5, 6, 7, 8, 9, 10, 11, 12, 13, 14, 15]
.fin .no)) .no)))))))))))))))) (some [0, 10, 13])))
(.ops [⟨(some 59), none, .mov (.t 13)⟩,
⟨(some 60), none, .ibin .add .i64 (.t 59) (.c (.int .i64 1))⟩,
⟨(some 13), none, .mov (.t 60)⟩] (some [0, 10, 13])))))))
.ret))))
.skip))
(.seq (.seq (.ops [⟨(some 77), none, .mov (.t 3)⟩,
⟨(some 78), none, .mov (.t 2)⟩,
⟨(some 79), none, .ibin .sub .i64 (.t 77) (.t 78)⟩,
⟨(some 80), none, .ibin .eql .i64 (.t 79) (.c (.int .i64 1))⟩] (some [0, 1, 2, 3, 4, 80]))
(.cond (.t 80)
(.seq (.ops [⟨(some 81), none, .mov (.t 1)⟩,
⟨(some 14), none, .mov (.t 81)⟩] (some [0, 2, 4, 14]))
(.seq (.ops [⟨(some 82), none, .mov (.t 2)⟩,
⟨(some 15), none, .mov (.t 82)⟩] (some [0, 2, 4, 14, 15]))
(.seq (.block 4 (.loop (.seq (.seq (.ops [⟨(some 83), none, .mov (.t 14)⟩,
⟨(some 84), none, .mov (.t 15)⟩,
⟨(some 85), none, .ibin .lss .i64 (.t 83) (.t 84)⟩] (some [0, 2, 4, 14, 15, 85]))
(.cond (.t 85)
.skip
(.exit 4)))
(.block 5 (.seq (.ops [⟨(some 86), none, .mov (.t 14)⟩,
⟨(some 87), none, .mov (.t 15)⟩,
⟨(some 88), none, .ibin .add .i64 (.t 86) (.t 87)⟩,
⟨(some 89), none, .conv .u64 (.t 88)⟩,
⟨(some 90), none, .shift .shr .u64 (.t 89) (.c (.int .u64 1))⟩,
⟨(some 91), none, .conv .i64 (.t 90)⟩,
⟨(some 16), none, .mov (.t 91)⟩] (some [0, 2, 4, 14, 15, 16]))
(.seq (.draw (.rd 0 ⟨(some 92), none, .mov (.t 4)⟩
(.rd 1 ⟨(some 93), none, .mov (.t 0)⟩
(.rd 2 ⟨(some 94), none, .mov (.t 2)⟩
(.rd 3 ⟨(some 95), none, .iaddr 1 (.t 93) (.t 94)⟩
(.rd 4 ⟨(some 96), none, .load 1 false (.t 95)⟩
(.rd 5 ⟨(some 97), none, .mov (.t 0)⟩
(.rd 6 ⟨(some 98), none, .mov (.t 16)⟩
(.rd 7 ⟨(some 99), none, .iaddr 1 (.t 97) (.t 98)⟩
(.rd 8 ⟨(some 100), none, .load 1 false (.t 99)⟩
(.wr 9 ⟨(some 101), none, .callv (.t 92) [(.t 96), (.t 100)]⟩ [0, 4, 8]
(.rd 10 ⟨(some 102), none, .ibin .lss .i64 (.t 101) (.c (.int .i64 0))⟩
(.rd 11 ⟨(some 103), none, .un .not (.t 102)⟩
.fin)) .no)))))))))) (some [0, 2, 4, 14, 15, 16, 103]))
(.cond (.t 103)
(.ops [⟨(some 104), none, .mov (.t 16)⟩,
⟨(some 105), none, .ibin .add .i64 (.t 104) (.c (.int .i64 1))⟩,
⟨(some 14), none, .mov (.t 105)⟩] (some [0, 2, 4, 14, 15]))
(.ops [⟨(some 106), none, .mov (.t 16)⟩,
⟨(some 15), none, .mov (.t 106)⟩] (some [0, 2, 4, 14, 15])))))))))
(.seq (.seq (.ops [⟨(some 107), none, .mov (.t 2)⟩,
⟨(some 17), none, .mov (.t 107)⟩] (some [0, 14, 17]))
(.block 6 (.loop (.seq (.seq (.ops [⟨(some 108), none, .mov (.t 17)⟩,
⟨(some 109), none, .mov (.t 14)⟩,
⟨(some 110), none, .ibin .gtr .i64 (.t 108) (.t 109)⟩] (some [0, 14, 17, 110]))
(.cond (.t 110)
.skip
(.exit 6)))
(.seq (.block 7 (.draw (.rd 0 ⟨(some 113), none, .mov (.t 0)⟩
(.rd 1 ⟨(some 114), none, .mov (.t 17)⟩
(.rd 2 ⟨(some 115), none, .mov (.t 0)⟩
(.rd 3 ⟨(some 116), none, .mov (.t 17)⟩
(.rd 4 ⟨(some 117), none, .ibin .sub .i64 (.t 116) (.c (.int .i64 1))⟩
(.rd 5 ⟨(some 118), none, .mov (.t 0)⟩
(.rd 6 ⟨(some 119), none, .mov (.t 17)⟩
(.rd 7 ⟨(some 120), none, .ibin .sub .i64 (.t 119) (.c (.int .i64 1))⟩
(.rd 8 ⟨(some 121), none, .iaddr 1 (.t 118) (.t 120)⟩
(.rd 9 ⟨(some 122), none, .load 1 false (.t 121)⟩
(.rd 10 ⟨(some 123), none, .mov (.t 0)⟩
(.rd 11 ⟨(some 124), none, .mov (.t 17)⟩
(.rd 12 ⟨(some 125), none, .iaddr 1 (.t 123) (.t 124)⟩
(.rd 13 ⟨(some 126), none, .load 1 false (.t 125)⟩
(.rd 14 ⟨(some 127), none, .iaddr 1 (.t 113) (.t 114)⟩
(.wr 15 ⟨none, none, .store 1 (.t 127) (.t 122)⟩ [14, 9, 0, 1, 5, 6, 7, 8, 9, 13]
(.rd 16 ⟨(some 128), none, .iaddr 1 (.t 115) (.t 117)⟩
(.wr 17 ⟨none, none, .store 1 (.t 128) (.t 126)⟩ [16, 13, 15, 0, 1, 2, 3, 4, 5, 6, 7, 8, 9, 10, 11, 12, 13, 14, 15]
.fin .no)) .no)))))))))))))))) (some [0, 14, 17])))
(.ops [⟨(some 111), none, .mov (.t 17)⟩,
⟨(some 112), none, .ibin .sub .i64 (.t 111) (.c (.int .i64 1))⟩,
⟨(some 17), none, .mov (.t 112)⟩] (some [0, 14, 17])))))))
.ret))))
.skip))
(.seq (.ops [⟨(some 129), none, .mov (.t 1)⟩,
⟨(some 130), none, .mov (.t 3)⟩,
⟨(some 131), none, .ibin .add .i64 (.t 129) (.t 130)⟩,
⟨(some 132), none, .conv .u64 (.t 131)⟩,
⟨(some 133), none, .shift .shr .u64 (.t 132) (.c (.int .u64 1))⟩,
⟨(some 134), none, .conv .i64 (.t 133)⟩,
⟨(some 18), none, .mov (.t 134)⟩] (some [0, 1, 2, 3, 4, 18]))
(.seq (.ops [⟨(some 135), none, .mov (.t 18)⟩,
⟨(some 136), none, .mov (.t 2)⟩,
⟨(some 137), none, .ibin .add .i64 (.t 135) (.t 136)⟩,
⟨(some 19), none, .mov (.t 137)⟩] (some [0, 1, 2, 3, 4, 18, 19]))
(.seq (.ops [⟨(some 20), none, .mov (.c (.int .i64 0))⟩,
⟨(some 21), none, .mov (.c (.int .i64 0))⟩] (some [0, 1, 2, 3, 4, 18, 19]))
(.seq (.seq (.ops [⟨(some 138), none, .mov (.t 2)⟩,
⟨(some 139), none, .mov (.t 18)⟩,
⟨(some 140), none, .ibin .gtr .i64 (.t 138) (.t 139)⟩] (some [0, 1, 2, 3, 4, 18, 19, 140]))
(.cond (.t 140)
(.seq (.ops [⟨(some 141), none, .mov (.t 19)⟩,
⟨(some 142), none, .mov (.t 3)⟩,
⟨(some 143), none, .ibin .sub .i64 (.t 141) (.t 142)⟩,
⟨(some 20), none, .mov (.t 143)⟩] (some [0, 1, 2, 3, 4, 18, 19, 20]))
(.ops [⟨(some 144), none, .mov (.t 18)⟩,
⟨(some 21), none, .mov (.t 144)⟩] (some [0, 1, 2, 3, 4, 18, 19, 20, 21])))
(.seq (.ops [⟨(some 145), none, .mov (.t 1)⟩,
⟨(some 20), none, .mov (.t 145)⟩] (some [0, 1, 2, 3, 4, 18, 19, 20]))
(.ops [⟨(some 146), none, .mov (.t 2)⟩,
⟨(some 21), none, .mov (.t 146)⟩] (some [0, 1, 2, 3, 4, 18, 19, 20, 21])))))
(.seq (.ops [⟨(some 147), none, .mov (.t 19)⟩,
⟨(some 148), none, .ibin .sub .i64 (.t 147) (.c (.int .i64 1))⟩,
⟨(some 22), none, .mov (.t 148)⟩] (some [0, 1, 2, 3, 4, 18, 19, 20, 21, 22]))
(.seq (.block 8 (.loop (.seq (.seq (.ops [⟨(some 149), none, .mov (.t 20)⟩,
⟨(some 150), none, .mov (.t 21)⟩,
⟨(some 151), none, .ibin .lss .i64 (.t 149) (.t 150)⟩] (some [0, 1, 2, 3, 4, 18, 19, 20, 21, 22, 151]))
(.cond (.t 151)
.skip
(.exit 8)))
(.block 9 (.seq (.ops [⟨(some 152), none, .mov (.t 20)⟩,
⟨(some 153), none, .mov (.t 21)⟩,
⟨(some 154), none, .ibin .add .i64 (.t 152) (.t 153)⟩,
⟨(some 155), none, .conv .u64 (.t 154)⟩,
⟨(some 156), none, .shift .shr .u64 (.t 155) (.c (.int .u64 1))⟩,
⟨(some 157), none, .conv .i64 (.t 156)⟩,
⟨(some 23), none, .mov (.t 157)⟩] (some [0, 1, 2, 3, 4, 18, 19, 20, 21, 22, 23]))
(.seq (.draw (.rd 0 ⟨(some 158), none, .mov (.t 4)⟩
(.rd 1 ⟨(some 159), none, .mov (.t 0)⟩
(.rd 2 ⟨(some 160), none, .mov (.t 22)⟩
(.rd 3 ⟨(some 161), none, .mov (.t 23)⟩
(.rd 4 ⟨(some 162), none, .ibin .sub .i64 (.t 160) (.t 161)⟩
(.rd 5 ⟨(some 163), none, .iaddr 1 (.t 159) (.t 162)⟩
(.rd 6 ⟨(some 164), none, .load 1 false (.t 163)⟩
(.rd 7 ⟨(some 165), none, .mov (.t 0)⟩
(.rd 8 ⟨(some 166), none, .mov (.t 23)⟩
(.rd 9 ⟨(some 167), none, .iaddr 1 (.t 165) (.t 166)⟩
(.rd 10 ⟨(some 168), none, .load 1 false (.t 167)⟩
(.wr 11 ⟨(some 169), none, .callv (.t 158) [(.t 164), (.t 168)]⟩ [0, 6, 10]
(.rd 12 ⟨(some 170), none, .ibin .lss .i64 (.t 169) (.c (.int .i64 0))⟩
(.rd 13 ⟨(some 171), none, .un .not (.t 170)⟩
.fin)) .no)))))))))))) (some [0, 1, 2, 3, 4, 18, 19, 20, 21, 22, 23, 171]))
(.cond (.t 171)
(.ops [⟨(some 172), none, .mov (.t 23)⟩,
⟨(some 173), none, .ibin .add .i64 (.t 172) (.c (.int .i64 1))⟩,
⟨(some 20), none, .mov (.t 173)⟩] (some [0, 1, 2, 3, 4, 18, 19, 20, 21, 22]))
(.ops [⟨(some 174), none, .mov (.t 23)⟩,
⟨(some 21), none, .mov (.t 174)⟩] (some [0, 1, 2, 3, 4, 18, 19, 20, 21, 22])))))))))
(.seq (.ops [⟨(some 175), none, .mov (.t 19)⟩,
⟨(some 176), none, .mov (.t 20)⟩,
⟨(some 177), none, .ibin .sub .i64 (.t 175) (.t 176)⟩,
⟨(some 24), none, .mov (.t 177)⟩] (some [0, 1, 2, 3, 4, 18, 20, 24]))
(.seq (.seq (.ops [⟨(some 178), none, .mov (.t 20)⟩,
⟨(some 179), none, .mov (.t 2)⟩,
⟨(some 180), none, .ibin .lss .i64 (.t 178) (.t 179)⟩,
⟨(some 181), none, .mov (.t 180)⟩,
⟨(some 182), (some (181, true)), .mov (.t 2)⟩,
⟨(some 183), (some (181, true)), .mov (.t 24)⟩,
⟨(some 184), (some (181, true)), .ibin .lss .i64 (.t 182) (.t 183)⟩,
⟨(some 185), none, .pick (.t 181) (.t 184) (.c (.bool false))⟩] (some [0, 1, 2, 3, 4, 18, 20, 24, 185]))
(.cond (.t 185)
(.ops [⟨(some 186), none, .mov (.t 0)⟩,
⟨(some 187), none, .mov (.t 20)⟩,
⟨(some 188), none, .mov (.t 2)⟩,
⟨(some 189), none, .mov (.t 24)⟩,
⟨(some 190), none, .mov (.t 4)⟩,
⟨(some 191), none, .call 144 [(.t 186), (.t 187), (.t 188), (.t 189), (.t 190)]⟩] (some [0, 1, 3, 4, 18, 20, 24]))
.skip))
(.seq (.seq (.ops [⟨(some 192), none, .mov (.t 1)⟩,
⟨(some 193), none, .mov (.t 20)⟩,
⟨(some 194), none, .ibin .lss .i64 (.t 192) (.t 193)⟩,
⟨(some 195), none, .mov (.t 194)⟩,
⟨(some 196), (some (195, true)), .mov (.t 20)⟩,
⟨(some 197), (some (195, true)), .mov (.t 18)⟩,
⟨(some 198), (some (195, true)), .ibin .lss .i64 (.t 196) (.t 197)⟩,
⟨(some 199), none, .pick (.t 195) (.t 198) (.c (.bool false))⟩] (some [0, 1, 3, 4, 18, 20, 24, 199]))
(.cond (.t 199)
(.ops [⟨(some 200), none, .mov (.t 0)⟩,
⟨(some 201), none, .mov (.t 1)⟩,
⟨(some 202), none, .mov (.t 20)⟩,
⟨(some 203), none, .mov (.t 18)⟩,
⟨(some 204), none, .mov (.t 4)⟩,
⟨(some 205), none, .call 137 [(.t 200), (.t 201), (.t 202), (.t 203), (.t 204)]⟩] (some [0, 3, 4, 18, 24]))
.skip))
(.seq (.ops [⟨(some 206), none, .mov (.t 18)⟩,
⟨(some 207), none, .mov (.t 24)⟩,
⟨(some 208), none, .ibin .lss .i64 (.t 206) (.t 207)⟩,
⟨(some 209), none, .mov (.t 208)⟩,
⟨(some 210), (some (209, true)), .mov (.t 24)⟩,
⟨(some 211), (some (209, true)), .mov (.t 3)⟩,
⟨(some 212), (some (209, true)), .ibin .lss .i64 (.t 210) (.t 211)⟩,
⟨(some 213), none, .pick (.t 209) (.t 212) (.c (.bool false))⟩] (some [0, 3, 4, 18, 24, 213]))
(.cond (.t 213)
(.ops [⟨(some 214), none, .mov (.t 0)⟩,
⟨(some 215), none, .mov (.t 18)⟩,
⟨(some 216), none, .mov (.t 24)⟩,
⟨(some 217), none, .mov (.t 3)⟩,
⟨(some 218), none, .mov (.t 4)⟩,
⟨(some 219), none, .call 137 [(.t 214), (.t 215), (.t 216), (.t 217), (.t 218)]⟩] (some []))
.skip)))))))))))))⟩
/-- slices.Contains[[]int,int] -/
def ir138 : IFn := ⟨9, [.t 4],
(.seq (.ops [⟨(some 4), none, .mov (.c (.bool false))⟩] (some [0, 1]))
(.seq (.ops [⟨(some 5), none, .mov (.t 0)⟩,
⟨(some 6), none, .mov (.t 1)⟩,
⟨(some 7), none, .call 145 [(.t 5), (.t 6)]⟩,
⟨(some 8), none, .ibin .geq .i64 (.t 7) (.c (.int .i64 0))⟩,
⟨(some 4), none, .mov (.t 8)⟩] (some [4]))
.ret))⟩
/-- slices.siftDownOrdered[int] -/
def ir139 : IFn := ⟨76, [],
(.seq (.ops [⟨(some 10), none, .mov (.t 1)⟩,
⟨(some 8), none, .mov (.t 10)⟩] (some [0, 2, 3, 8]))
(.block 0 (.loop (.block 1 (.seq (.ops [⟨(some 11), none, .mov (.t 8)⟩,
⟨(some 12), none, .ibin .mul .i64 (.c (.int .i64 2)) (.t 11)⟩,
⟨(some 13), none, .ibin .add .i64 (.t 12) (.c (.int .i64 1))⟩,
⟨(some 9), none, .mov (.t 13)⟩] (some [0, 2, 3, 8, 9]))
(.seq (.seq (.ops [⟨(some 14), none, .mov (.t 9)⟩,
⟨(some 15), none, .mov (.t 2)⟩,
⟨(some 16), none, .ibin .geq .i64 (.t 14) (.t 15)⟩] (some [0, 2, 3, 8, 9, 16]))
(.cond (.t 16)
(.exit 0)
.skip))
(.seq (.seq (.draw (.rd 0 ⟨(some 17), none, .mov (.t 9)⟩
(.rd 1 ⟨(some 18), none, .ibin .add .i64 (.t 17) (.c (.int .i64 1))⟩
(.rd 2 ⟨(some 19), none, .mov (.t 2)⟩
(.rd 3 ⟨(some 20), none, .ibin .lss .i64 (.t 18) (.t 19)⟩
(.rd 4 ⟨(some 21), none, .mov (.t 20)⟩
(.rd 5 ⟨(some 22), (some (21, true)), .mov (.t 0)⟩
(.rd 6 ⟨(some 23), (some (21, true)), .mov (.t 3)⟩
(.rd 7 ⟨(some 24), (some (21, true)), .mov (.t 9)⟩
(.rd 8 ⟨(some 25), (some (21, true)), .ibin .add .i64 (.t 23) (.t 24)⟩
(.rd 9 ⟨(some 26), (some (21, true)), .iaddr 1 (.t 22) (.t 25)⟩
(.rd 10 ⟨(some 27), (some (21, true)), .load 1 false (.t 26)⟩
(.rd 11 ⟨(some 28), (some (21, true)), .mov (.t 0)⟩
(.rd 12 ⟨(some 29), (some (21, true)), .mov (.t 3)⟩
(.rd 13 ⟨(some 30), (some (21, true)), .mov (.t 9)⟩
(.rd 14 ⟨(some 31), (some (21, true)), .ibin .add .i64 (.t 29) (.t 30)⟩
(.rd 15 ⟨(some 32), (some (21, true)), .ibin .add .i64 (.t 31) (.c (.int .i64 1))⟩
(.rd 16 ⟨(some 33), (some (21, true)), .iaddr 1 (.t 28) (.t 32)⟩
(.rd 17 ⟨(some 34), (some (21, true)), .load 1 false (.t 33)⟩
(.wr 18 ⟨(some 35), (some (21, true)), .call 122 [(.t 27), (.t 34)]⟩ [10, 17, 4, 4]
(.rd 19 ⟨(some 36), none, .pick (.t 21) (.t 35) (.c (.bool false))⟩
.fin) .no))))))))))))))))))) (some [0, 2, 3, 8, 9, 36]))
(.cond (.t 36)
(.ops [⟨(some 37), none, .mov (.t 9)⟩,
⟨(some 38), none, .ibin .add .i64 (.t 37) (.c (.int .i64 1))⟩,
⟨(some 9), none, .mov (.t 38)⟩] (some [0, 2, 3, 8, 9]))
.skip))
(.seq (.seq (.draw (.rd 0 ⟨(some 39), none, .mov (.t 0)⟩
(.rd 1 ⟨(some 40), none, .mov (.t 3)⟩
(.rd 2 ⟨(some 41), none, .mov (.t 8)⟩
(.rd 3 ⟨(some 42), none, .ibin .add .i64 (.t 40) (.t 41)⟩
(.rd 4 ⟨(some 43), none, .iaddr 1 (.t 39) (.t 42)⟩
(.rd 5 ⟨(some 44), none, .load 1 false (.t 43)⟩
(.rd 6 ⟨(some 45), none, .mov (.t 0)⟩
(.rd 7 ⟨(some 46), none, .mov (.t 3)⟩
(.rd 8 ⟨(some 47), none, .mov (.t 9)⟩
(.rd 9 ⟨(some 48), none, .ibin .add .i64 (.t 46) (.t 47)⟩
(.rd 10 ⟨(some 49), none, .iaddr 1 (.t 45) (.t 48)⟩
(.rd 11 ⟨(some 50), none, .load 1 false (.t 49)⟩
(.wr 12 ⟨(some 51), none, .call 122 [(.t 44), (.t 50)]⟩ [5, 11]
(.rd 13 ⟨(some 52), none, .un .not (.t 51)⟩
.fin) .no))))))))))))) (some [0, 2, 3, 8, 9, 52]))
(.cond (.t 52)
.ret
.skip))
(.seq (.draw (.rd 0 ⟨(some 53), none, .mov (.t 0)⟩
(.rd 1 ⟨(some 54), none, .mov (.t 3)⟩
(.rd 2 ⟨(some 55), none, .mov (.t 8)⟩
(.rd 3 ⟨(some 56), none, .ibin .add .i64 (.t 54) (.t 55)⟩
(.rd 4 ⟨(some 57), none, .mov (.t 0)⟩
(.rd 5 ⟨(some 58), none, .mov (.t 3)⟩
(.rd 6 ⟨(some 59), none, .mov (.t 9)⟩
(.rd 7 ⟨(some 60), none, .ibin .add .i64 (.t 58) (.t 59)⟩
(.rd 8 ⟨(some 61), none, .mov (.t 0)⟩
(.rd 9 ⟨(some 62), none, .mov (.t 3)⟩
(.rd 10 ⟨(some 63), none, .mov (.t 9)⟩
(.rd 11 ⟨(some 64), none, .ibin .add .i64 (.t 62) (.t 63)⟩
(.rd 12 ⟨(some 65), none, .iaddr 1 (.t 61) (.t 64)⟩
(.rd 13 ⟨(some 66), none, .load 1 false (.t 65)⟩
(.rd 14 ⟨(some 67), none, .mov (.t 0)⟩
(.rd 15 ⟨(some 68), none, .mov (.t 3)⟩
(.rd 16 ⟨(some 69), none, .mov (.t 8)⟩
(.rd 17 ⟨(some 70), none, .ibin .add .i64 (.t 68) (.t 69)⟩
(.rd 18 ⟨(some 71), none, .iaddr 1 (.t 67) (.t 70)⟩
(.rd 19 ⟨(some 72), none, .load 1 false (.t 71)⟩
(.rd 20 ⟨(some 73), none, .iaddr 1 (.t 53) (.t 56)⟩
(.wr 21 ⟨none, none, .store 1 (.t 73) (.t 66)⟩ [20, 13, 0, 1, 2, 3, 8, 9, 10, 11, 12, 13, 19]
(.rd 22 ⟨(some 74), none, .iaddr 1 (.t 57) (.t 60)⟩
(.wr 23 ⟨none, none, .store 1 (.t 74) (.t 72)⟩ [22, 19, 21, 0, 1, 2, 3, 4, 5, 6, 7, 8, 9, 10, 11, 12, 13, 14, 15, 16, 17, 18, 19, 20, 21]
.fin .no)) .no)))))))))))))))))))))) (some [0, 2, 3, 9]))
(.ops [⟨(some 75), none, .mov (.t 9)⟩,
⟨(some 8), none, .mov (.t 75)⟩] (some [0, 2, 3, 8])))))))))))⟩
/-- slices.nextPowerOfTwo -/
def ir140 : IFn := ⟨7, [.t 2],
(.seq (.ops [⟨(some 2), none, .mov (.c (.int .u64 0))⟩] (some [0]))
(.seq (.ops [⟨(some 3), none, .mov (.t 0)⟩,
⟨(some 4), none, .conv .u64 (.t 3)⟩,
⟨(some 5), none, .call 119 [(.t 4)]⟩,
⟨(some 6), none, .shift .shl .u64 (.c (.int .u64 1)) (.t 5)⟩,
⟨(some 2), none, .mov (.t 6)⟩] (some [2]))
.ret))⟩
/-- (*slices.xorshift).Next -/
def ir141 : IFn := ⟨33, [.t 2],
(.seq (.ops [⟨(some 2), none, .mov (.c (.int .u64 0))⟩] (some [0]))
(.seq (.draw (.rd 0 ⟨(some 3), none, .mov (.t 0)⟩
(.rd 1 ⟨(some 4), none, .nilchk (.t 3)⟩
(.rd 2 ⟨(some 5), none, .load 1 false (.t 4)⟩
(.rd 3 ⟨(some 6), none, .mov (.t 0)⟩
(.rd 4 ⟨(some 7), none, .nilchk (.t 6)⟩
(.rd 5 ⟨(some 8), none, .load 1 false (.t 7)⟩
(.rd 6 ⟨(some 9), none, .shift .shl .u64 (.t 8) (.c (.int .u64 13))⟩
(.rd 7 ⟨(some 10), none, .ibin .xor .u64 (.t 5) (.t 9)⟩
(.rd 8 ⟨(some 11), none, .nilchk (.t 3)⟩
(.wr 9 ⟨none, none, .store 1 (.t 11) (.t 10)⟩ [8, 7, 0, 1, 2, 3, 4, 5, 6, 7]
.fin .no)))))))))) (some [0]))
(.seq (.draw (.rd 0 ⟨(some 12), none, .mov (.t 0)⟩
(.rd 1 ⟨(some 13), none, .nilchk (.t 12)⟩
(.rd 2 ⟨(some 14), none, .load 1 false (.t 13)⟩
(.rd 3 ⟨(some 15), none, .mov (.t 0)⟩
(.rd 4 ⟨(some 16), none, .nilchk (.t 15)⟩
(.rd 5 ⟨(some 17), none, .load 1 false (.t 16)⟩
(.rd 6 ⟨(some 18), none, .shift .shr .u64 (.t 17) (.c (.int .u64 7))⟩
(.rd 7 ⟨(some 19), none, .ibin .xor .u64 (.t 14) (.t 18)⟩
(.rd 8 ⟨(some 20), none, .nilchk (.t 12)⟩
(.wr 9 ⟨none, none, .store 1 (.t 20) (.t 19)⟩ [8, 7, 0, 1, 2, 3, 4, 5, 6, 7]
.fin .no)))))))))) (some [0]))
(.seq (.draw (.rd 0 ⟨(some 21), none, .mov (.t 0)⟩
(.rd 1 ⟨(some 22), none, .nilchk (.t 21)⟩
(.rd 2 ⟨(some 23), none, .load 1 false (.t 22)⟩
(.rd 3 ⟨(some 24), none, .mov (.t 0)⟩
(.rd 4 ⟨(some 25), none, .nilchk (.t 24)⟩
(.rd 5 ⟨(some 26), none, .load 1 false (.t 25)⟩
(.rd 6 ⟨(some 27), none, .shift .shl .u64 (.t 26) (.c (.int .u64 17))⟩
(.rd 7 ⟨(some 28), none, .ibin .xor .u64 (.t 23) (.t 27)⟩
(.rd 8 ⟨(some 29), none, .nilchk (.t 21)⟩
(.wr 9 ⟨none, none, .store 1 (.t 29) (.t 28)⟩ [8, 7, 0, 1, 2, 3, 4, 5, 6, 7]
.fin .no)))))))))) (some [0]))
(.seq (.ops [⟨(some 30), none, .mov (.t 0)⟩,
⟨(some 31), none, .nilchk (.t 30)⟩,
⟨(some 32), none, .load 1 false (.t 31)⟩,
⟨(some 2), none, .mov (.t 32)⟩] (some [2]))
.ret)))))⟩
/-- slices.medianAdjacentOrdered[int] -/
def ir142 : IFn := ⟨15, [.t 6],
(.seq (.ops [⟨(some 6), none, .mov (.c (.int .i64 0))⟩] (some [0, 1, 2]))
(.seq (.ops [⟨(some 7), none, .mov (.t 0)⟩,
⟨(some 8), none, .mov (.t 1)⟩,
⟨(some 9), none, .ibin .sub .i64 (.t 8) (.c (.int .i64 1))⟩,
⟨(some 10), none, .mov (.t 1)⟩,
⟨(some 11), none, .mov (.t 1)⟩,
⟨(some 12), none, .ibin .add .i64 (.t 11) (.c (.int .i64 1))⟩,
⟨(some 13), none, .mov (.t 2)⟩,
⟨(some 14), none, .call 143 [(.t 7), (.t 9), (.t 10), (.t 12), (.t 13)]⟩,
⟨(some 6), none, .mov (.t 14)⟩] (some [6]))
.ret))⟩
/-- slices.medianOrdered[int] -/
def ir143 : IFn := ⟨36, [.t 10],
(.seq (.ops [⟨(some 10), none, .mov (.c (.int .i64 0))⟩] (some [0, 1, 2, 3, 4]))
(.seq (.ops [⟨(some 12), none, .mov (.t 0)⟩,
⟨(some 13), none, .mov (.t 1)⟩,
⟨(some 14), none, .mov (.t 2)⟩,
⟨(some 15), none, .mov (.t 4)⟩,
⟨(some 16), none, .call 146 [(.t 12), (.t 13), (.t 14), (.t 15)]⟩,
⟨(some 11), none, .mov (.t 16)⟩,
⟨(some 17), none, .extract 0 (.t 11)⟩,
⟨(some 18), none, .extract 1 (.t 11)⟩,
⟨(some 1), none, .mov (.t 17)⟩,
⟨(some 2), none, .mov (.t 18)⟩] (some [0, 1, 2, 3, 4]))
(.seq (.ops [⟨(some 20), none, .mov (.t 0)⟩,
⟨(some 21), none, .mov (.t 2)⟩,
⟨(some 22), none, .mov (.t 3)⟩,
⟨(some 23), none, .mov (.t 4)⟩,
⟨(some 24), none, .call 146 [(.t 20), (.t 21), (.t 22), (.t 23)]⟩,
⟨(some 19), none, .mov (.t 24)⟩,
⟨(some 25), none, .extract 0 (.t 19)⟩,
⟨(some 26), none, .extract 1 (.t 19)⟩,
⟨(some 2), none, .mov (.t 25)⟩,
⟨(some 3), none, .mov (.t 26)⟩] (some [0, 1, 2, 4]))
(.seq (.ops [⟨(some 28), none, .mov (.t 0)⟩,
⟨(some 29), none, .mov (.t 1)⟩,
⟨(some 30), none, .mov (.t 2)⟩,
⟨(some 31), none, .mov (.t 4)⟩,
⟨(some 32), none, .call 146 [(.t 28), (.t 29), (.t 30), (.t 31)]⟩,
⟨(some 27), none, .mov (.t 32)⟩,
⟨(some 33), none, .extract 0 (.t 27)⟩,
⟨(some 34), none, .extract 1 (.t 27)⟩,
⟨(some 1), none, .mov (.t 33)⟩,
⟨(some 2), none, .mov (.t 34)⟩] (some [2]))
(.seq (.ops [⟨(some 35), none, .mov (.t 2)⟩,
⟨(some 10), none, .mov (.t 35)⟩] (some [10]))
.ret)))))⟩
/-- slices.rotateCmpFunc[int] -/
def ir144 : IFn := ⟨58, [],
(.seq (.ops [⟨(some 12), none, .mov (.t 2)⟩,
⟨(some 13), none, .mov (.t 1)⟩,
⟨(some 14), none, .ibin .sub .i64 (.t 12) (.t 13)⟩,
⟨(some 10), none, .mov (.t 14)⟩] (some [0, 2, 3, 4, 10]))
(.seq (.ops [⟨(some 15), none, .mov (.t 3)⟩,
⟨(some 16), none, .mov (.t 2)⟩,
⟨(some 17), none, .ibin .sub .i64 (.t 15) (.t 16)⟩,
⟨(some 11), none, .mov (.t 17)⟩] (some [0, 2, 4, 10, 11]))
(.seq (.block 0 (.loop (.seq (.seq (.ops [⟨(some 18), none, .mov (.t 10)⟩,
⟨(some 19), none, .mov (.t 11)⟩,
⟨(some 20), none, .ibin .neq .i64 (.t 18) (.t 19)⟩] (some [0, 2, 4, 10, 11, 20]))
(.cond (.t 20)
.skip
(.exit 0)))
(.block 1 (.seq (.ops [⟨(some 21), none, .mov (.t 10)⟩,
⟨(some 22), none, .mov (.t 11)⟩,
⟨(some 23), none, .ibin .gtr .i64 (.t 21) (.t 22)⟩] (some [0, 2, 4, 10, 11, 23]))
(.cond (.t 23)
(.seq (.ops [⟨(some 24), none, .mov (.t 0)⟩,
⟨(some 25), none, .mov (.t 2)⟩,
⟨(some 26), none, .mov (.t 10)⟩,
⟨(some 27), none, .ibin .sub .i64 (.t 25) (.t 26)⟩,
⟨(some 28), none, .mov (.t 2)⟩,
⟨(some 29), none, .mov (.t 11)⟩,
⟨(some 30), none, .mov (.t 4)⟩,
⟨(some 31), none, .call 147 [(.t 24), (.t 27), (.t 28), (.t 29), (.t 30)]⟩] (some [0, 2, 4, 10, 11]))
(.ops [⟨(some 32), none, .mov (.t 10)⟩,
⟨(some 33), none, .mov (.t 11)⟩,
⟨(some 34), none, .ibin .sub .i64 (.t 32) (.t 33)⟩,
⟨(some 10), none, .mov (.t 34)⟩] (some [0, 2, 4, 10, 11])))
(.seq (.ops [⟨(some 35), none, .mov (.t 0)⟩,
⟨(some 36), none, .mov (.t 2)⟩,
⟨(some 37), none, .mov (.t 10)⟩,
⟨(some 38), none, .ibin .sub .i64 (.t 36) (.t 37)⟩,
⟨(some 39), none, .mov (.t 2)⟩,
⟨(some 40), none, .mov (.t 11)⟩,
⟨(some 41), none, .ibin .add .i64 (.t 39) (.t 40)⟩,
⟨(some 42), none, .mov (.t 10)⟩,
⟨(some 43), none, .ibin .sub .i64 (.t 41) (.t 42)⟩,
⟨(some 44), none, .mov (.t 10)⟩,
⟨(some 45), none, .mov (.t 4)⟩,
⟨(some 46), none, .call 147 [(.t 35), (.t 38), (.t 43), (.t 44), (.t 45)]⟩] (some [0, 2, 4, 10, 11]))
(.ops [⟨(some 47), none, .mov (.t 11)⟩,
⟨(some 48), none, .mov (.t 10)⟩,
⟨(some 49), none, .ibin .sub .i64 (.t 47) (.t 48)⟩,
⟨(some 11), none, .mov (.t 49)⟩] (some [0, 2, 4, 10, 11])))))))))
(.ops [⟨(some 50), none, .mov (.t 0)⟩,
⟨(some 51), none, .mov (.t 2)⟩,
⟨(some 52), none, .mov (.t 10)⟩,
⟨(some 53), none, .ibin .sub .i64 (.t 51) (.t 52)⟩,
⟨(some 54), none, .mov (.t 2)⟩,
⟨(some 55), none, .mov (.t 10)⟩,
⟨(some 56), none, .mov (.t 4)⟩,
⟨(some 57), none, .call 147 [(.t 50), (.t 53), (.t 54), (.t 55), (.t 56)]⟩] (some [])))))⟩
/-- slices.Index[[]int,int] -/
def ir145 : IFn := ⟨19, [.t 4],
(.seq (.ops [⟨(some 4), none, .mov (.c (.int .i64 0))⟩] (some [0, 1]))
(.seq (.seq (.ops [⟨(some 6), none, .mov (.t 0)⟩,
⟨(some 7), none, .lenV (.t 6)⟩,
⟨(some 8), none, .mov (.c (.int .i64 0))⟩] (some [0, 1, 7, 8]))
(.block 0 (.loop (.seq (.ops [⟨(some 9), none, .ibin .lss .i64 (.t 8) (.t 7)⟩] none)
(.seq (.cond (.t 9)
.skip
(.exit 0))
(.seq (.block 1 (.seq (.ops [⟨(some 10), none, .mov (.t 8)⟩,
⟨(some 5), none, .mov (.t 10)⟩] (some [0, 1, 5, 7, 8]))
(.seq (.ops [⟨(some 11), none, .mov (.t 1)⟩,
⟨(some 12), none, .mov (.t 0)⟩,
⟨(some 13), none, .mov (.t 5)⟩,
⟨(some 14), none, .iaddr 1 (.t 12) (.t 13)⟩,
⟨(some 15), none, .load 1 false (.t 14)⟩,
⟨(some 16), none, .ibin .eql .i64 (.t 11) (.t 15)⟩] (some [0, 1, 5, 7, 8, 16]))
(.cond (.t 16)
(.seq (.ops [⟨(some 17), none, .mov (.t 5)⟩,
⟨(some 4), none, .mov (.t 17)⟩] (some [4]))
.ret)
.skip))))
(.ops [⟨(some 18), none, .ibin .add .i64 (.t 8) (.c (.int .i64 1))⟩,
⟨(some 8), none, .mov (.t 18)⟩] (some [0, 1, 7, 8]))))))))
(.seq (.ops [⟨(some 4), none, .mov (.c (.int .i64 (-1)))⟩] none)
.ret)))⟩
/-- slices.order2Ordered[int] -/
def ir146 : IFn := ⟨28, [.t 8, .t 9],
(.seq (.ops [⟨(some 8), none, .mov (.c (.int .i64 0))⟩,
⟨(some 9), none, .mov (.c (.int .i64 0))⟩] (some [0, 1, 2, 3]))
(.seq (.seq (.draw (.rd 0 ⟨(some 10), none, .mov (.t 0)⟩
(.rd 1 ⟨(some 11), none, .mov (.t 2)⟩
(.rd 2 ⟨(some 12), none, .iaddr 1 (.t 10) (.t 11)⟩
(.rd 3 ⟨(some 13), none, .load 1 false (.t 12)⟩
(.rd 4 ⟨(some 14), none, .mov (.t 0)⟩
(.rd 5 ⟨(some 15), none, .mov (.t 1)⟩
(.rd 6 ⟨(some 16), none, .iaddr 1 (.t 14) (.t 15)⟩
(.rd 7 ⟨(some 17), none, .load 1 false (.t 16)⟩
(.wr 8 ⟨(some 18), none, .call 122 [(.t 13), (.t 17)]⟩ [3, 7]
.fin .no))))))))) (some [1, 2, 3, 18]))
(.cond (.t 18)
(.seq (.ops [⟨(some 19), none, .mov (.t 3)⟩,
⟨(some 20), none, .nilchk (.t 19)⟩,
⟨(some 21), none, .load 1 false (.t 20)⟩,
⟨(some 22), none, .ibin .add .i64 (.t 21) (.c (.int .i64 1))⟩,
⟨(some 23), none, .nilchk (.t 19)⟩,
⟨none, none, .store 1 (.t 23) (.t 22)⟩] (some [1, 2]))
(.seq (.ops [⟨(some 24), none, .mov (.t 2)⟩,
⟨(some 25), none, .mov (.t 1)⟩,
⟨(some 8), none, .mov (.t 24)⟩,
⟨(some 9), none, .mov (.t 25)⟩] (some [8, 9]))
.ret))
.skip))
(.seq (.ops [⟨(some 26), none, .mov (.t 1)⟩,
⟨(some 27), none, .mov (.t 2)⟩,
⟨(some 8), none, .mov (.t 26)⟩,
⟨(some 9), none, .mov (.t 27)⟩] (some [8, 9]))
.ret)))⟩
/-- slices.swapRangeCmpFunc[int] -/
def ir147 : IFn := ⟨38, [],
(.seq (.ops [⟨(some 10), none, .mov (.c (.int .i64 0))⟩] none)
(.block 0 (.loop (.seq (.seq (.ops [⟨(some 11), none, .mov (.t 10)⟩,
⟨(some 12), none, .mov (.t 3)⟩,
⟨(some 13), none, .ibin .lss .i64 (.t 11) (.t 12)⟩] (some [0, 1, 2, 3, 10, 13]))
(.cond (.t 13)
.skip
(.exit 0)))
(.seq (.block 1 (.draw (.rd 0 ⟨(some 16), none, .mov (.t 0)⟩
(.rd 1 ⟨(some 17), none, .mov (.t 1)⟩
(.rd 2 ⟨(some 18), none, .mov (.t 10)⟩
(.rd 3 ⟨(some 19), none, .ibin .add .i64 (.t 17) (.t 18)⟩
(.rd 4 ⟨(some 20), none, .mov (.t 0)⟩
(.rd 5 ⟨(some 21), none, .mov (.t 2)⟩
(.rd 6 ⟨(some 22), none, .mov (.t 10)⟩
(.rd 7 ⟨(some 23), none, .ibin .add .i64 (.t 21) (.t 22)⟩
(.rd 8 ⟨(some 24), none, .mov (.t 0)⟩
(.rd 9 ⟨(some 25), none, .mov (.t 2)⟩
(.rd 10 ⟨(some 26), none, .mov (.t 10)⟩
(.rd 11 ⟨(some 27), none, .ibin .add .i64 (.t 25) (.t 26)⟩
(.rd 12 ⟨(some 28), none, .iaddr 1 (.t 24) (.t 27)⟩
(.rd 13 ⟨(some 29), none, .load 1 false (.t 28)⟩
(.rd 14 ⟨(some 30), none, .mov (.t 0)⟩
(.rd 15 ⟨(some 31), none, .mov (.t 1)⟩
(.rd 16 ⟨(some 32), none, .mov (.t 10)⟩
(.rd 17 ⟨(some 33), none, .ibin .add .i64 (.t 31) (.t 32)⟩
(.rd 18 ⟨(some 34), none, .iaddr 1 (.t 30) (.t 33)⟩
(.rd 19 ⟨(some 35), none, .load 1 false (.t 34)⟩
(.rd 20 ⟨(some 36), none, .iaddr 1 (.t 16) (.t 19)⟩
(.wr 21 ⟨none, none, .store 1 (.t 36) (.t 29)⟩ [20, 13, 0, 1, 2, 3, 8, 9, 10, 11, 12, 13, 19]
(.rd 22 ⟨(some 37), none, .iaddr 1 (.t 20) (.t 23)⟩
(.wr 23 ⟨none, none, .store 1 (.t 37) (.t 35)⟩ [22, 19, 21, 0, 1, 2, 3, 4, 5, 6, 7, 8, 9, 10, 11, 12, 13, 14, 15, 16, 17, 18, 19, 20, 21]
.fin .no)) .no)))))))))))))))))))))) (some [0, 1, 2, 3, 10])))
(.ops [⟨(some 14), none, .mov (.t 10)⟩,
⟨(some 15), none, .ibin .add .i64 (.t 14) (.c (.int .i64 1))⟩,
⟨(some 10), none, .mov (.t 15)⟩] (some [0, 1, 2, 3, 10])))))))⟩
/-- guidevane/guidevanelaw09.DamLowers -/
def ir164 : IFn := ⟨61, [.t 6],
(.seq (.ops [⟨(some 3), none, .box (.t 0)⟩,
⟨(some 4), none, .box (.t 1)⟩,
⟨(some 5), none, .box (.t 2)⟩,
⟨(some 6), none, .mov (.c (.bool false))⟩] (some [3, 4, 5]))
(.seq (.seq (.ops [⟨(some 10), none, .call 10 []⟩,
⟨(some 11), none, .un .not (.t 10)⟩] (some [3, 4, 5, 11]))
(.cond (.t 11)
(.seq (.ops [⟨(some 6), none, .mov (.c (.bool false))⟩] none)
.ret)
.skip))
(.seq (.seq (.ops [⟨(some 12), none, .load 4 true (.t 3)⟩,
⟨(some 13), none, .call 35 [(.t 12)]⟩,
⟨(some 14), none, .un .not (.t 13)⟩,
⟨(some 15), none, .mov (.t 14)⟩,
⟨(some 16), (some (15, false)), .faddr 0 (.t 5)⟩,
⟨(some 17), (some (15, false)), .load 1 false (.t 16)⟩,
⟨(some 18), (some (15, false)), .lenS (.t 17)⟩,
⟨(some 19), (some (15, false)), .ibin .gtr .i64 (.t 18) (.c (.int .i64 30))⟩,
⟨(some 20), none, .pick (.t 15) (.c (.bool true)) (.t 19)⟩] (some [3, 4, 5, 20]))
(.cond (.t 20)
(.seq (.ops [⟨(some 6), none, .mov (.c (.bool true))⟩] none)
.ret)
.skip))
(.seq (.draw (.rd 0 ⟨(some 22), none, .load 4 true (.t 3)⟩
(.rd 2 ⟨(some 24), none, .load 3 true (.t 4)⟩
(.rd 3 ⟨(some 25), none, .load 2 true (.t 5)⟩
(.wr 1 ⟨(some 23), none, .call 37 [(.t 22)]⟩ [0]
(.wr 4 ⟨(some 26), none, .call 169 [(.t 23), (.t 24), (.t 25)]⟩ [1, 2, 3, 1]
(.rd 5 ⟨(some 21), none, .mov (.t 26)⟩
(.rd 6 ⟨(some 27), none, .extract 0 (.t 21)⟩
(.rd 7 ⟨(some 28), none, .extract 1 (.t 21)⟩
(.wr 8 ⟨(some 7), none, .alloc [(.int .i64 0), (.int .i64 0), (.int .i64 0)]⟩ []
(.wr 9 ⟨none, none, .store 3 (.t 7) (.t 27)⟩ [8, 6, 4, 0, 1, 2, 3, 4, 5, 6, 8]
(.rd 10 ⟨(some 8), none, .mov (.t 28)⟩
.fin) .no) .no))))
(.wr 8 ⟨(some 7), none, .alloc [(.int .i64 0), (.int .i64 0), (.int .i64 0)]⟩ []
(.wr 4 ⟨(some 26), none, .call 169 [(.t 23), (.t 24), (.t 25)]⟩ [1, 2, 3, 1]
(.rd 5 ⟨(some 21), none, .mov (.t 26)⟩
(.rd 6 ⟨(some 27), none, .extract 0 (.t 21)⟩
(.rd 7 ⟨(some 28), none, .extract 1 (.t 21)⟩
(.wr 9 ⟨none, none, .store 3 (.t 7) (.t 27)⟩ [8, 6, 4, 0, 1, 2, 3, 4, 5, 6, 8]
(.rd 10 ⟨(some 8), none, .mov (.t 28)⟩
.fin) .no)))) .no) .no))
(.wr 8 ⟨(some 7), none, .alloc [(.int .i64 0), (.int .i64 0), (.int .i64 0)]⟩ []
(.wr 1 ⟨(some 23), none, .call 37 [(.t 22)]⟩ [0]
(.wr 4 ⟨(some 26), none, .call 169 [(.t 23), (.t 24), (.t 25)]⟩ [1, 2, 3, 1]
(.rd 5 ⟨(some 21), none, .mov (.t 26)⟩
(.rd 6 ⟨(some 27), none, .extract 0 (.t 21)⟩
(.rd 7 ⟨(some 28), none, .extract 1 (.t 21)⟩
(.wr 9 ⟨none, none, .store 3 (.t 7) (.t 27)⟩ [8, 6, 4, 0, 1, 2, 3, 4, 5, 6, 8]
(.rd 10 ⟨(some 8), none, .mov (.t 28)⟩
.fin) .no)))) .no) .no) .no))))) (some [3, 4, 5, 7, 8]))
(.seq (.ops [⟨(some 29), none, .load 4 true (.t 3)⟩,
⟨(some 30), none, .call 39 [(.t 29)]⟩,
⟨(some 9), none, .mov (.t 30)⟩] (some [3, 4, 5, 7, 8, 9]))
(.seq (.seq (.ops [⟨(some 31), none, .mov (.t 9)⟩,
⟨(some 32), none, .ibin .eql .i64 (.t 31) (.c (.int .i64 0))⟩] (some [3, 4, 5, 7, 8, 9, 32]))
(.cond (.t 32)
(.ops [⟨(some 33), none, .load 4 true (.t 3)⟩,
⟨(some 34), none, .load 3 true (.t 4)⟩,
⟨(some 35), none, .call 48 [(.t 33), (.t 34)]⟩,
⟨(some 9), none, .mov (.t 35)⟩] (some [3, 4, 5, 7, 8, 9]))
.skip))
(.seq (.seq (.ops [⟨(some 36), none, .mov (.t 9)⟩,
⟨(some 37), none, .ibin .eql .i64 (.t 36) (.c (.int .i64 0))⟩] (some [3, 4, 5, 7, 8, 9, 37]))
(.cond (.t 37)
(.ops [⟨(some 38), none, .load 4 true (.t 3)⟩,
⟨(some 39), none, .load 3 true (.t 4)⟩,
⟨(some 40), none, .load 2 true (.t 5)⟩,
⟨(some 41), none, .call 170 [(.t 38), (.t 39), (.t 40)]⟩,
⟨(some 9), none, .mov (.t 41)⟩] (some [4, 5, 7, 8, 9]))
.skip))
(.seq (.seq (.ops [⟨(some 42), none, .mov (.t 9)⟩,
⟨(some 43), none, .ibin .neq .i64 (.t 42) (.c (.int .i64 0))⟩] (some [4, 5, 7, 8, 9, 43]))
(.cond (.t 43)
(.seq (.ops [⟨(some 44), none, .mov (.t 8)⟩,
⟨(some 45), none, .mov (.t 9)⟩,
⟨(some 46), none, .ibin .eql .i64 (.t 44) (.t 45)⟩,
⟨(some 47), none, .mov (.t 46)⟩,
⟨(some 48), (some (47, true)), .load 3 true (.t 7)⟩,
⟨(some 49), (some (47, true)), .build [(.int .i64 0), (.int .i64 0), (.int .i64 0)] []⟩,
⟨(some 50), (some (47, true)), .eqv (.fld 0 1 (.int .i64) (.fld 1 1 (.int .i64) (.fld 2 1 (.int .i64) .nil))) false (.t 48) (.t 49)⟩,
⟨(some 51), none, .pick (.t 47) (.t 50) (.c (.bool false))⟩,
⟨(some 6), none, .mov (.t 51)⟩] (some [6]))
.ret)
.skip))
(.seq (.draw (.rd 0 ⟨(some 52), none, .mov (.t 8)⟩
(.rd 1 ⟨(some 53), none, .ibin .eql .i64 (.t 52) (.c (.int .i64 0))⟩
(.rd 2 ⟨(some 54), none, .mov (.t 53)⟩
(.rd 3 ⟨(some 55), (some (54, true)), .load 3 true (.t 7)⟩
(.rd 4 ⟨(some 56), (some (54, true)), .load 3 true (.t 4)⟩
(.rd 5 ⟨(some 57), (some (54, true)), .load 2 true (.t 5)⟩
(.wr 6 ⟨(some 58), (some (54, true)), .call 171 [(.t 56), (.t 57)]⟩ [4, 5, 2, 2]
(.rd 7 ⟨(some 59), (some (54, true)), .eqv (.fld 0 1 (.int .i64) (.fld 1 1 (.int .i64) (.fld 2 1 (.int .i64) .nil))) false (.t 55) (.t 58)⟩
(.rd 8 ⟨(some 60), none, .pick (.t 54) (.t 59) (.c (.bool false))⟩
(.rd 9 ⟨(some 6), none, .mov (.t 60)⟩
.fin))) .no))))))) (some [6]))
.ret)))))))))⟩
/-- guidevane/guidevanelaw09.DamGauges -/
def ir166 : IFn := ⟨140, [.t 2],
(.seq (.ops [⟨(some 2), none, .mov (.c (.bool false))⟩] (some [0]))
(.seq (.seq (.ops [⟨(some 15), none, .call 10 []⟩,
⟨(some 16), none, .un .not (.t 15)⟩] (some [0, 16]))
(.cond (.t 16)
(.seq (.ops [⟨(some 2), none, .mov (.c (.bool false))⟩] none)
.ret)
.skip))
(.seq (.seq (.ops [⟨(some 17), none, .mov (.t 0)⟩,
⟨(some 18), none, .lenV (.t 17)⟩,
⟨(some 19), none, .ibin .gtr .i64 (.t 18) (.c (.int .i64 14))⟩] (some [0, 19]))
(.cond (.t 19)
(.seq (.ops [⟨(some 2), none, .mov (.c (.bool true))⟩] none)
.ret)
.skip))
(.seq (.seq (.ops [⟨(some 3), none, .mov (.c (.int .i64 0))⟩] none)
(.block 0 (.loop (.seq (.seq (.ops [⟨(some 20), none, .mov (.t 3)⟩,
⟨(some 21), none, .mov (.t 0)⟩,
⟨(some 22), none, .lenV (.t 21)⟩,
⟨(some 23), none, .ibin .lss .i64 (.t 20) (.t 22)⟩] (some [0, 3, 23]))
(.cond (.t 23)
.skip
(.exit 0)))
(.seq (.block 1 (.seq (.ops [⟨(some 26), none, .mov (.t 0)⟩,
⟨(some 27), none, .mov (.t 3)⟩,
⟨(some 28), none, .iaddr 5 (.t 26) (.t 27)⟩,
⟨(some 29), none, .faddr 0 (.t 28)⟩,
⟨(some 30), none, .load 1 false (.t 29)⟩,
⟨(some 31), none, .lenS (.t 30)⟩,
⟨(some 32), none, .ibin .gtr .i64 (.t 31) (.c (.int .i64 30))⟩] (some [0, 3, 32]))
(.cond (.t 32)
(.seq (.ops [⟨(some 2), none, .mov (.c (.bool true))⟩] none)
.ret)
.skip)))
(.ops [⟨(some 24), none, .mov (.t 3)⟩,
⟨(some 25), none, .ibin .add .i64 (.t 24) (.c (.int .i64 1))⟩,
⟨(some 3), none, .mov (.t 25)⟩] (some [0, 3])))))))
(.seq (.ops [⟨(some 34), none, .mov (.t 0)⟩,
⟨(some 35), none, .call 173 [(.t 34)]⟩,
⟨(some 36), none, .call 172 [(.t 35)]⟩,
⟨(some 33), none, .mov (.t 36)⟩,
⟨(some 37), none, .extract 0 (.t 33)⟩,
⟨(some 38), none, .extract 1 (.t 33)⟩,
⟨(some 4), none, .alloc [(.int .i64 0), (.int .i64 0)]⟩,
⟨none, none, .store 2 (.t 4) (.t 37)⟩,
⟨(some 5), none, .mov (.t 38)⟩] (some [0, 4, 5]))
(.seq (.ops [⟨(some 40), none, .mov (.t 0)⟩,
⟨(some 41), none, .call 173 [(.t 40)]⟩,
⟨(some 42), none, .call 174 [(.t 41)]⟩,
⟨(some 39), none, .mov (.t 42)⟩,
⟨(some 43), none, .extract 0 (.t 39)⟩,
⟨(some 44), none, .extract 1 (.t 39)⟩,
⟨(some 6), none, .alloc [(.string ⟨#[]⟩), (.string ⟨#[]⟩)]⟩,
⟨none, none, .store 2 (.t 6) (.t 43)⟩,
⟨(some 7), none, .mov (.t 44)⟩] (some [0, 4, 5, 6, 7]))
(.seq (.seq (.ops [⟨(some 45), none, .mov (.t 0)⟩,
⟨(some 46), none, .call 175 [(.t 45)]⟩,
⟨(some 8), none, .mov (.t 46)⟩] (some [0, 4, 5, 6, 7, 8]))
(.seq (.ops [⟨(some 47), none, .mov (.t 8)⟩,
⟨(some 48), none, .ibin .neq .i64 (.t 47) (.c (.int .i64 0))⟩] (some [0, 4, 5, 6, 7, 8, 48]))
(.cond (.t 48)
(.seq (.ops [⟨(some 49), none, .mov (.t 5)⟩,
⟨(some 50), none, .mov (.t 8)⟩,
⟨(some 51), none, .ibin .eql .i64 (.t 49) (.t 50)⟩,
⟨(some 52), none, .mov (.t 51)⟩,
⟨(some 53), (some (52, true)), .load 2 true (.t 4)⟩,
⟨(some 54), (some (52, true)), .build [(.int .i64 0), (.int .i64 0)] []⟩,
⟨(some 55), (some (52, true)), .eqv (.fld 0 1 (.int .i64) (.fld 1 1 (.int .i64) .nil)) false (.t 53) (.t 54)⟩,
⟨(some 56), none, .pick (.t 52) (.t 55) (.c (.bool false))⟩,
⟨(some 57), none, .mov (.t 56)⟩,
⟨(some 58), (some (57, true)), .mov (.t 7)⟩,
⟨(some 59), (some (57, true)), .mov (.t 8)⟩,
⟨(some 60), (some (57, true)), .ibin .eql .i64 (.t 58) (.t 59)⟩,
⟨(some 61), none, .pick (.t 57) (.t 60) (.c (.bool false))⟩,
⟨(some 62), none, .mov (.t 61)⟩,
⟨(some 63), (some (62, true)), .load 2 true (.t 6)⟩,
⟨(some 64), (some (62, true)), .build [(.string ⟨#[]⟩), (.string ⟨#[]⟩)] []⟩,
⟨(some 65), (some (62, true)), .eqv (.fld 0 1 .str (.fld 1 1 .str .nil)) false (.t 63) (.t 64)⟩,
⟨(some 66), none, .pick (.t 62) (.t 65) (.c (.bool false))⟩,
⟨(some 2), none, .mov (.t 66)⟩] (some [2]))
.ret)
.skip)))
(.seq (.ops [⟨(some 68), none, .mov (.t 0)⟩,
⟨(some 69), none, .call 176 [(.t 68)]⟩,
⟨(some 67), none, .mov (.t 69)⟩,
⟨(some 70), none, .extract 0 (.t 67)⟩,
⟨(some 71), none, .extract 1 (.t 67)⟩,
⟨(some 9), none, .alloc [(.int .i64 0), (.int .i64 0)]⟩,
⟨none, none, .store 2 (.t 9) (.t 70)⟩,
⟨(some 10), none, .mov (.t 71)⟩] (some [0, 4, 5, 6, 7, 9, 10]))
(.seq (.ops [⟨(some 73), none, .mov (.t 0)⟩,
⟨(some 74), none, .call 177 [(.t 73)]⟩,
⟨(some 72), none, .mov (.t 74)⟩,
⟨(some 75), none, .extract 0 (.t 72)⟩,
⟨(some 76), none, .extract 1 (.t 72)⟩,
⟨(some 11), none, .alloc [(.string ⟨#[]⟩), (.string ⟨#[]⟩)]⟩,
⟨none, none, .store 2 (.t 11) (.t 75)⟩,
⟨(some 12), none, .mov (.t 76)⟩] (some [0, 4, 5, 6, 7, 9, 10, 11, 12]))
(.seq (.seq (.ops [⟨(some 77), none, .mov (.t 12)⟩,
⟨(some 78), none, .mov (.t 10)⟩,
⟨(some 79), none, .bbin false (.t 77) (.t 78)⟩] (some [0, 4, 5, 6, 7, 9, 10, 11, 79]))
(.cond (.t 79)
(.seq (.ops [⟨(some 2), none, .mov (.c (.bool false))⟩] none)
.ret)
.skip))
(.seq (.seq (.ops [⟨(some 80), none, .mov (.t 10)⟩,
⟨(some 81), none, .un .not (.t 80)⟩] (some [0, 4, 5, 6, 7, 9, 11, 81]))
(.cond (.t 81)
(.seq (.ops [⟨(some 82), none, .mov (.t 5)⟩,
⟨(some 83), none, .ibin .eql .i64 (.t 82) (.c (.int .i64 13))⟩,
⟨(some 84), none, .mov (.t 83)⟩,
⟨(some 85), (some (84, true)), .load 2 true (.t 4)⟩,
⟨(some 86), (some (84, true)), .build [(.int .i64 0), (.int .i64 0)] []⟩,
⟨(some 87), (some (84, true)), .eqv (.fld 0 1 (.int .i64) (.fld 1 1 (.int .i64) .nil)) false (.t 85) (.t 86)⟩,
⟨(some 88), none, .pick (.t 84) (.t 87) (.c (.bool false))⟩,
⟨(some 89), none, .mov (.t 88)⟩,
⟨(some 90), (some (89, true)), .mov (.t 7)⟩,
⟨(some 91), (some (89, true)), .ibin .eql .i64 (.t 90) (.c (.int .i64 0))⟩,
⟨(some 92), none, .pick (.t 89) (.t 91) (.c (.bool false))⟩,
⟨(some 93), none, .mov (.t 92)⟩,
⟨(some 94), (some (93, true)), .load 2 true (.t 6)⟩,
⟨(some 95), (some (93, true)), .load 2 true (.t 11)⟩,
⟨(some 96), (some (93, true)), .eqv (.fld 0 1 .str (.fld 1 1 .str .nil)) false (.t 94) (.t 95)⟩,
⟨(some 97), none, .pick (.t 93) (.t 96) (.c (.bool false))⟩,
⟨(some 2), none, .mov (.t 97)⟩] (some [2]))
.ret)
.skip))
(.seq (.seq (.ops [⟨(some 98), none, .mov (.t 5)⟩,
⟨(some 99), none, .ibin .neq .i64 (.t 98) (.c (.int .i64 0))⟩,
⟨(some 100), none, .mov (.t 99)⟩,
⟨(some 101), (some (100, false)), .load 2 true (.t 4)⟩,
⟨(some 102), (some (100, false)), .load 2 true (.t 9)⟩,
⟨(some 103), (some (100, false)), .eqv (.fld 0 1 (.int .i64) (.fld 1 1 (.int .i64) .nil)) true (.t 101) (.t 102)⟩,
⟨(some 104), none, .pick (.t 100) (.c (.bool true)) (.t 103)⟩,
⟨(some 105), none, .mov (.t 104)⟩,
⟨(some 106), (some (105, false)), .mov (.t 7)⟩,
⟨(some 107), (some (105, false)), .ibin .neq .i64 (.t 106) (.c (.int .i64 12))⟩,
⟨(some 108), none, .pick (.t 105) (.c (.bool true)) (.t 107)⟩,
⟨(some 109), none, .mov (.t 108)⟩,
⟨(some 110), (some (109, false)), .load 2 true (.t 6)⟩,
⟨(some 111), (some (109, false)), .build [(.string ⟨#[]⟩), (.string ⟨#[]⟩)] []⟩,
⟨(some 112), (some (109, false)), .eqv (.fld 0 1 .str (.fld 1 1 .str .nil)) true (.t 110) (.t 111)⟩,
⟨(some 113), none, .pick (.t 109) (.c (.bool true)) (.t 112)⟩] (some [0, 4, 113]))
(.cond (.t 113)
(.seq (.ops [⟨(some 2), none, .mov (.c (.bool false))⟩] none)
.ret)
.skip))
(.seq (.seq (.ops [⟨(some 114), none, .mov (.t 0)⟩,
⟨(some 115), none, .lenV (.t 114)⟩,
⟨(some 116), none, .ibin .eql .i64 (.t 115) (.c (.int .i64 1))⟩] (some [0, 4, 116]))
(.cond (.t 116)
(.seq (.ops [⟨(some 2), none, .mov (.c (.bool true))⟩] none)
.ret)
.skip))
(.seq (.ops [⟨(some 118), none, .mov (.t 0)⟩,
⟨(some 119), none, .sliceV 5 (.t 118) (some (.c (.int .i64 1))) none none⟩,
⟨(some 120), none, .call 173 [(.t 119)]⟩,
⟨(some 121), none, .call 172 [(.t 120)]⟩,
⟨(some 117), none, .mov (.t 121)⟩,
⟨(some 122), none, .extract 0 (.t 117)⟩,
⟨(some 123), none, .extract 1 (.t 117)⟩,
⟨(some 13), none, .alloc [(.int .i64 0), (.int .i64 0)]⟩,
⟨none, none, .store 2 (.t 13) (.t 122)⟩,
⟨(some 14), none, .mov (.t 123)⟩] (some [4, 13, 14]))
(.seq (.ops [⟨(some 124), none, .mov (.t 14)⟩,
⟨(some 125), none, .ibin .eql .i64 (.t 124) (.c (.int .i64 0))⟩,
⟨(some 126), none, .mov (.t 125)⟩,
⟨(some 127), (some (126, true)), .faddr 0 (.t 13)⟩,
⟨(some 128), (some (126, true)), .load 1 false (.t 127)⟩,
⟨(some 129), (some (126, true)), .faddr 0 (.t 4)⟩,
⟨(some 130), (some (126, true)), .load 1 false (.t 129)⟩,
⟨(some 131), (some (126, true)), .ibin .leq .i64 (.t 128) (.t 130)⟩,
⟨(some 132), none, .pick (.t 126) (.t 131) (.c (.bool false))⟩,
⟨(some 133), none, .mov (.t 132)⟩,
⟨(some 134), (some (133, true)), .faddr 1 (.t 4)⟩,
⟨(some 135), (some (133, true)), .load 1 false (.t 134)⟩,
⟨(some 136), (some (133, true)), .faddr 1 (.t 13)⟩,
⟨(some 137), (some (133, true)), .load 1 false (.t 136)⟩,
⟨(some 138), (some (133, true)), .ibin .leq .i64 (.t 135) (.t 137)⟩,
⟨(some 139), none, .pick (.t 133) (.t 138) (.c (.bool false))⟩,
⟨(some 2), none, .mov (.t 139)⟩] (some [2]))
.ret)))))))))))))))⟩
/-- guidevane/guidevanelaw09.DamResiduals -/
def ir167 : IFn := ⟨161, [.t 6],
(.seq (.ops [⟨(some 4), none, .box (.t 1)⟩,
⟨(some 5), none, .box (.t 2)⟩,
⟨(some 6), none, .mov (.c (.bool false))⟩] (some [0, 4, 5]))
(.seq (.seq (.ops [⟨(some 18), none, .call 10 []⟩,
⟨(some 19), none, .un .not (.t 18)⟩] (some [0, 4, 5, 19]))
(.cond (.t 19)
(.seq (.ops [⟨(some 6), none, .mov (.c (.bool false))⟩] none)
.ret)
.skip))
(.seq (.seq (.ops [⟨(some 20), none, .mov (.t 0)⟩,
⟨(some 21), none, .call 178 [(.t 20)]⟩,
⟨(some 22), none, .un .not (.t 21)⟩] (some [0, 4, 5, 22]))
(.cond (.t 22)
(.seq (.ops [⟨(some 6), none, .mov (.c (.bool true))⟩] none)
.ret)
.skip))
(.seq (.draw (.rd 0 ⟨(some 24), none, .mov (.t 0)⟩
(.rd 2 ⟨(some 26), none, .load 6 true (.t 4)⟩
(.wr 1 ⟨(some 25), none, .call 53 [(.t 24)]⟩ [0]
(.wr 3 ⟨(some 27), none, .call 56 [(.t 25), (.t 26)]⟩ [1, 2, 1]
(.rd 4 ⟨(some 23), none, .mov (.t 27)⟩
(.rd 5 ⟨(some 28), none, .extract 0 (.t 23)⟩
(.rd 6 ⟨(some 29), none, .extract 1 (.t 23)⟩
(.rd 7 ⟨(some 7), none, .mov (.t 28)⟩
(.rd 8 ⟨(some 8), none, .mov (.t 29)⟩
.fin))))) .no) .no))) (some [0, 4, 5, 7, 8]))
(.seq (.draw (.rd 0 ⟨(some 31), none, .mov (.t 0)⟩
(.rd 2 ⟨(some 33), none, .load 6 true (.t 4)⟩
(.wr 1 ⟨(some 32), none, .call 53 [(.t 31)]⟩ [0]
(.wr 3 ⟨(some 34), none, .call 57 [(.t 32), (.t 33)]⟩ [1, 2, 1]
(.rd 4 ⟨(some 30), none, .mov (.t 34)⟩
(.rd 5 ⟨(some 35), none, .extract 0 (.t 30)⟩
(.rd 6 ⟨(some 36), none, .extract 1 (.t 30)⟩
(.rd 7 ⟨(some 9), none, .mov (.t 35)⟩
(.rd 8 ⟨(some 10), none, .mov (.t 36)⟩
.fin))))) .no) .no))) (some [0, 4, 5, 7, 8, 9, 10]))
(.seq (.draw (.rd 0 ⟨(some 38), none, .mov (.t 0)⟩
(.rd 2 ⟨(some 40), none, .load 6 true (.t 4)⟩
(.rd 3 ⟨(some 41), none, .load 3 true (.t 5)⟩
(.wr 1 ⟨(some 39), none, .call 53 [(.t 38)]⟩ [0]
(.wr 4 ⟨(some 42), none, .call 59 [(.t 39), (.t 40), (.t 41)]⟩ [1, 2, 3, 1]
(.rd 5 ⟨(some 37), none, .mov (.t 42)⟩
(.rd 6 ⟨(some 43), none, .extract 0 (.t 37)⟩
(.rd 7 ⟨(some 44), none, .extract 1 (.t 37)⟩
(.wr 8 ⟨(some 11), none, .alloc [(.int .i64 0), (.int .i64 0)]⟩ []
(.wr 9 ⟨none, none, .store 2 (.t 11) (.t 43)⟩ [8, 6, 4, 0, 1, 2, 3, 4, 5, 6, 8]
(.rd 10 ⟨(some 12), none, .mov (.t 44)⟩
.fin) .no) .no))))
(.wr 8 ⟨(some 11), none, .alloc [(.int .i64 0), (.int .i64 0)]⟩ []
(.wr 4 ⟨(some 42), none, .call 59 [(.t 39), (.t 40), (.t 41)]⟩ [1, 2, 3, 1]
(.rd 5 ⟨(some 37), none, .mov (.t 42)⟩
(.rd 6 ⟨(some 43), none, .extract 0 (.t 37)⟩
(.rd 7 ⟨(some 44), none, .extract 1 (.t 37)⟩
(.wr 9 ⟨none, none, .store 2 (.t 11) (.t 43)⟩ [8, 6, 4, 0, 1, 2, 3, 4, 5, 6, 8]
(.rd 10 ⟨(some 12), none, .mov (.t 44)⟩
.fin) .no)))) .no) .no))
(.wr 8 ⟨(some 11), none, .alloc [(.int .i64 0), (.int .i64 0)]⟩ []
(.wr 1 ⟨(some 39), none, .call 53 [(.t 38)]⟩ [0]
(.wr 4 ⟨(some 42), none, .call 59 [(.t 39), (.t 40), (.t 41)]⟩ [1, 2, 3, 1]
(.rd 5 ⟨(some 37), none, .mov (.t 42)⟩
(.rd 6 ⟨(some 43), none, .extract 0 (.t 37)⟩
(.rd 7 ⟨(some 44), none, .extract 1 (.t 37)⟩
(.wr 9 ⟨none, none, .store 2 (.t 11) (.t 43)⟩ [8, 6, 4, 0, 1, 2, 3, 4, 5, 6, 8]
(.rd 10 ⟨(some 12), none, .mov (.t 44)⟩
.fin) .no)))) .no) .no) .no))))) (some [0, 4, 5, 7, 8, 9, 10, 11, 12]))
(.seq (.ops [⟨(some 46), none, .load 6 true (.t 4)⟩,
⟨(some 47), none, .load 3 true (.t 5)⟩,
⟨(some 48), none, .call 179 [(.t 46), (.t 47)]⟩,
⟨(some 45), none, .mov (.t 48)⟩,
⟨(some 49), none, .extract 0 (.t 45)⟩,
⟨(some 50), none, .extract 1 (.t 45)⟩,
⟨(some 13), none, .alloc (List.replicate 6 (.int .i64 0))⟩,
⟨none, none, .store 6 (.t 13) (.t 49)⟩,
⟨(some 14), none, .mov (.t 50)⟩] (some [0, 4, 5, 7, 8, 9, 10, 11, 12, 13, 14]))
(.seq (.draw (.rd 0 ⟨(some 51), none, .load 6 true (.t 4)⟩
(.rd 2 ⟨(some 53), none, .load 3 true (.t 5)⟩
(.wr 1 ⟨(some 52), none, .call 180 [(.t 51)]⟩ [0]
(.wr 3 ⟨(some 54), none, .call 32 [(.t 53)]⟩ [2, 1]
(.rd 4 ⟨(some 15), none, .mov (.t 52)⟩
(.rd 5 ⟨(some 16), none, .mov (.t 54)⟩
.fin)) .no) .no))) (some [0, 4, 5, 7, 8, 9, 10, 11, 12, 13, 14, 15, 16]))
(.seq (.ops [⟨(some 55), none, .mov (.t 15)⟩,
⟨(some 17), none, .mov (.t 55)⟩] (some [0, 4, 5, 7, 8, 9, 10, 11, 12, 13, 14, 15, 16, 17]))
(.seq (.seq (.ops [⟨(some 56), none, .mov (.t 17)⟩,
⟨(some 57), none, .ibin .eql .i64 (.t 56) (.c (.int .i64 0))⟩] (some [0, 4, 5, 7, 8, 9, 10, 11, 12, 13, 14, 15, 16, 17, 57]))
(.cond (.t 57)
(.ops [⟨(some 58), none, .mov (.t 16)⟩,
⟨(some 17), none, .mov (.t 58)⟩] (some [0, 4, 5, 7, 8, 9, 10, 11, 12, 13, 14, 15, 16, 17]))
.skip))
(.seq (.seq (.draw (.rd 0 ⟨(some 59), none, .mov (.t 17)⟩
(.rd 1 ⟨(some 60), none, .ibin .neq .i64 (.t 59) (.c (.int .i64 0))⟩
(.rd 2 ⟨(some 61), none, .mov (.t 60)⟩
(.rd 3 ⟨(some 62), (some (61, true)), .mov (.t 14)⟩
(.rd 4 ⟨(some 63), (some (61, true)), .mov (.t 17)⟩
(.rd 5 ⟨(some 64), (some (61, true)), .ibin .neq .i64 (.t 62) (.t 63)⟩
(.rd 6 ⟨(some 65), (some (61, true)), .mov (.t 64)⟩
(.rd 7 ⟨(some 66), (some (65, false)), .load 6 true (.t 13)⟩
(.rd 8 ⟨(some 67), (some (65, false)), .build (List.replicate 6 (.int .i64 0)) []⟩
(.rd 9 ⟨(some 68), (some (65, false)), .eqv (.fld 0 2 (.fld 0 1 (.int .i64) (.fld 1 1 (.int .i64) .nil)) (.fld 2 2 (.fld 0 1 (.int .i64) (.fld 1 1 (.int .i64) .nil)) (.fld 4 2 (.fld 0 1 (.int .i64) (.fld 1 1 (.int .i64) .nil)) .nil))) true (.t 66) (.t 67)⟩
(.rd 10 ⟨(some 69), (some (61, true)), .pick (.t 65) (.c (.bool true)) (.t 68)⟩
(.rd 11 ⟨(some 70), none, .pick (.t 61) (.t 69) (.c (.bool false))⟩
(.rd 12 ⟨(some 71), none, .mov (.t 70)⟩
(.rd 13 ⟨(some 72), (some (71, false)), .mov (.t 17)⟩
(.rd 14 ⟨(some 73), (some (71, false)), .ibin .eql .i64 (.t 72) (.c (.int .i64 0))⟩
(.rd 15 ⟨(some 74), (some (71, false)), .mov (.t 73)⟩
(.rd 16 ⟨(some 75), (some (74, true)), .mov (.t 14)⟩
(.rd 17 ⟨(some 76), (some (74, true)), .ibin .neq .i64 (.t 75) (.c (.int .i64 0))⟩
(.rd 18 ⟨(some 77), (some (74, true)), .mov (.t 76)⟩
(.rd 19 ⟨(some 78), (some (77, false)), .load 6 true (.t 13)⟩
(.rd 20 ⟨(some 79), (some (77, false)), .load 6 true (.t 4)⟩
(.rd 21 ⟨(some 80), (some (77, false)), .load 3 true (.t 5)⟩
(.wr 22 ⟨(some 81), (some (77, false)), .call 181 [(.t 79), (.t 80)]⟩ [20, 21, 18, 18]
(.rd 23 ⟨(some 82), (some (77, false)), .eqv (.fld 0 2 (.fld 0 1 (.int .i64) (.fld 1 1 (.int .i64) .nil)) (.fld 2 2 (.fld 0 1 (.int .i64) (.fld 1 1 (.int .i64) .nil)) (.fld 4 2 (.fld 0 1 (.int .i64) (.fld 1 1 (.int .i64) .nil)) .nil))) true (.t 78) (.t 81)⟩
(.rd 24 ⟨(some 83), (some (74, true)), .pick (.t 77) (.c (.bool true)) (.t 82)⟩
(.rd 25 ⟨(some 84), (some (71, false)), .pick (.t 74) (.t 83) (.c (.bool false))⟩
(.rd 26 ⟨(some 85), none, .pick (.t 71) (.c (.bool true)) (.t 84)⟩
.fin)))) .no))))))))))))))))))))))) (some [0, 4, 5, 7, 8, 9, 10, 11, 12, 15, 16, 85]))
(.cond (.t 85)
(.seq (.ops [⟨(some 6), none, .mov (.c (.bool false))⟩] none)
.ret)
.skip))
(.seq (.seq (.ops [⟨(some 86), none, .mov (.t 0)⟩,
⟨(some 87), none, .call 51 [(.t 86)]⟩,
⟨(some 17), none, .mov (.t 87)⟩] (some [0, 4, 5, 7, 8, 9, 10, 11, 12, 15, 16, 17]))
(.seq (.ops [⟨(some 88), none, .mov (.t 17)⟩,
⟨(some 89), none, .ibin .eql .i64 (.t 88) (.c (.int .i64 0))⟩] (some [0, 4, 5, 7, 8, 9, 10, 11, 12, 15, 16, 17, 89]))
(.cond (.t 89)
(.ops [⟨(some 90), none, .mov (.t 15)⟩,
⟨(some 17), none, .mov (.t 90)⟩] (some [0, 4, 5, 7, 8, 9, 10, 11, 12, 16, 17]))
.skip)))
(.seq (.seq (.ops [⟨(some 91), none, .mov (.t 17)⟩,
⟨(some 92), none, .ibin .neq .i64 (.t 91) (.c (.int .i64 0))⟩] (some [0, 4, 5, 7, 8, 9, 10, 11, 12, 16, 17, 92]))
(.cond (.t 92)
(.seq (.ops [⟨(some 93), none, .mov (.t 8)⟩,
⟨(some 94), none, .mov (.t 17)⟩,
⟨(some 95), none, .ibin .eql .i64 (.t 93) (.t 94)⟩,
⟨(some 96), none, .mov (.t 95)⟩,
⟨(some 97), (some (96, true)), .mov (.t 7)⟩,
⟨(some 98), (some (96, true)), .lenV (.t 97)⟩,
⟨(some 99), (some (96, true)), .ibin .eql .i64 (.t 98) (.c (.int .i64 0))⟩,
⟨(some 100), none, .pick (.t 96) (.t 99) (.c (.bool false))⟩,
⟨(some 101), none, .mov (.t 100)⟩,
⟨(some 102), (some (101, true)), .mov (.t 10)⟩,
⟨(some 103), (some (101, true)), .mov (.t 17)⟩,
⟨(some 104), (some (101, true)), .ibin .eql .i64 (.t 102) (.t 103)⟩,
⟨(some 105), none, .pick (.t 101) (.t 104) (.c (.bool false))⟩,
⟨(some 106), none, .mov (.t 105)⟩,
⟨(some 107), (some (106, true)), .mov (.t 9)⟩,
⟨(some 108), (some (106, true)), .ibin .eql .i64 (.t 107) (.c (.int .i64 0))⟩,
⟨(some 109), none, .pick (.t 106) (.t 108) (.c (.bool false))⟩,
⟨(some 110), none, .mov (.t 109)⟩,
⟨(some 111), (some (110, true)), .mov (.t 12)⟩,
⟨(some 112), (some (110, true)), .mov (.t 17)⟩,
⟨(some 113), (some (110, true)), .ibin .eql .i64 (.t 111) (.t 112)⟩,
⟨(some 114), none, .pick (.t 110) (.t 113) (.c (.bool false))⟩,
⟨(some 115), none, .mov (.t 114)⟩,
⟨(some 116), (some (115, true)), .load 2 true (.t 11)⟩,
⟨(some 117), (some (115, true)), .build [(.int .i64 0), (.int .i64 0)] []⟩,
⟨(some 118), (some (115, true)), .eqv (.fld 0 1 (.int .i64) (.fld 1 1 (.int .i64) .nil)) false (.t 116) (.t 117)⟩,
⟨(some 119), none, .pick (.t 115) (.t 118) (.c (.bool false))⟩,
⟨(some 6), none, .mov (.t 119)⟩] (some [6]))
.ret)
.skip))
(.seq (.seq (.ops [⟨(some 120), none, .mov (.t 8)⟩,
⟨(some 121), none, .ibin .neq .i64 (.t 120) (.c (.int .i64 0))⟩,
⟨(some 122), none, .mov (.t 121)⟩,
⟨(some 123), (some (122, false)), .mov (.t 7)⟩,
⟨(some 124), (some (122, false)), .mov (.t 0)⟩,
⟨(some 125), (some (122, false)), .load 6 true (.t 4)⟩,
⟨(some 126), (some (122, false)), .call 182 [(.t 124), (.t 125)]⟩,
⟨(some 127), (some (122, false)), .call 58 [(.t 123), (.t 126)]⟩,
⟨(some 128), (some (122, false)), .un .not (.t 127)⟩,
⟨(some 129), none, .pick (.t 122) (.c (.bool true)) (.t 128)⟩,
⟨(some 130), none, .mov (.t 129)⟩,
⟨(some 131), (some (130, false)), .mov (.t 10)⟩,
⟨(some 132), (some (130, false)), .ibin .neq .i64 (.t 131) (.c (.int .i64 0))⟩,
⟨(some 133), none, .pick (.t 130) (.c (.bool true)) (.t 132)⟩,
⟨(some 134), none, .mov (.t 133)⟩,
⟨(some 135), (some (134, false)), .mov (.t 9)⟩,
⟨(some 136), (some (134, false)), .mov (.t 0)⟩,
⟨(some 137), (some (134, false)), .load 6 true (.t 4)⟩,
⟨(some 138), (some (134, false)), .call 183 [(.t 136), (.t 137)]⟩,
⟨(some 139), (some (134, false)), .ibin .neq .i64 (.t 135) (.t 138)⟩,
⟨(some 140), none, .pick (.t 134) (.c (.bool true)) (.t 139)⟩] (some [0, 4, 5, 11, 12, 16, 140]))
(.cond (.t 140)
(.seq (.ops [⟨(some 6), none, .mov (.c (.bool false))⟩] none)
.ret)
.skip))
(.seq (.seq (.ops [⟨(some 141), none, .mov (.t 16)⟩,
⟨(some 142), none, .ibin .neq .i64 (.t 141) (.c (.int .i64 0))⟩] (some [0, 4, 5, 11, 12, 16, 142]))
(.cond (.t 142)
(.seq (.ops [⟨(some 143), none, .mov (.t 12)⟩,
⟨(some 144), none, .mov (.t 16)⟩,
⟨(some 145), none, .ibin .eql .i64 (.t 143) (.t 144)⟩,
⟨(some 146), none, .mov (.t 145)⟩,
⟨(some 147), (some (146, true)), .load 2 true (.t 11)⟩,
⟨(some 148), (some (146, true)), .build [(.int .i64 0), (.int .i64 0)] []⟩,
⟨(some 149), (some (146, true)), .eqv (.fld 0 1 (.int .i64) (.fld 1 1 (.int .i64) .nil)) false (.t 147) (.t 148)⟩,
⟨(some 150), none, .pick (.t 146) (.t 149) (.c (.bool false))⟩,
⟨(some 6), none, .mov (.t 150)⟩] (some [6]))
.ret)
.skip))
(.seq (.draw (.rd 0 ⟨(some 151), none, .mov (.t 12)⟩
(.rd 1 ⟨(some 152), none, .ibin .eql .i64 (.t 151) (.c (.int .i64 0))⟩
(.rd 2 ⟨(some 153), none, .mov (.t 152)⟩
(.rd 3 ⟨(some 154), (some (153, true)), .load 2 true (.t 11)⟩
(.rd 4 ⟨(some 155), (some (153, true)), .mov (.t 0)⟩
(.rd 5 ⟨(some 156), (some (153, true)), .load 6 true (.t 4)⟩
(.rd 6 ⟨(some 157), (some (153, true)), .load 3 true (.t 5)⟩
(.wr 7 ⟨(some 158), (some (153, true)), .call 184 [(.t 155), (.t 156), (.t 157)]⟩ [4, 5, 6, 2, 2]
(.rd 8 ⟨(some 159), (some (153, true)), .eqv (.fld 0 1 (.int .i64) (.fld 1 1 (.int .i64) .nil)) false (.t 154) (.t 158)⟩
(.rd 9 ⟨(some 160), none, .pick (.t 153) (.t 159) (.c (.bool false))⟩
(.rd 10 ⟨(some 6), none, .mov (.t 160)⟩
.fin))) .no)))))))) (some [6]))
.ret))))))))))))))))⟩
/-- guidevane/dam.Lowered -/
def ir169 : IFn := ⟨88, [.cell 6 3 true, .t 7],
(.seq (.ops [⟨(some 3), none, .box (.t 0)⟩,
⟨(some 4), none, .box (.t 1)⟩,
⟨(some 5), none, .box (.t 2)⟩,
⟨(some 6), none, .alloc [(.int .i64 0), (.int .i64 0), (.int .i64 0)]⟩,
⟨(some 7), none, .mov (.c (.int .i64 0))⟩] (some [3, 4, 5, 6]))
(.seq (.ops [⟨(some 14), none, .load 4 true (.t 3)⟩,
⟨(some 15), none, .load 3 true (.t 4)⟩,
⟨(some 16), none, .call 90 [(.t 14), (.t 15)]⟩,
⟨(some 13), none, .mov (.t 16)⟩,
⟨(some 17), none, .extract 0 (.t 13)⟩,
⟨(some 18), none, .extract 1 (.t 13)⟩,
⟨(some 8), none, .alloc [(.slice none 0 0), (.slice none 0 0), (.int .i64 0), (.slice none 0 0)]⟩,
⟨none, none, .store 4 (.t 8) (.t 17)⟩,
⟨(some 9), none, .mov (.t 18)⟩] (some [4, 5, 6, 8, 9]))
(.seq (.seq (.ops [⟨(some 19), none, .mov (.t 9)⟩,
⟨(some 20), none, .faddr 0 (.t 5)⟩,
⟨(some 21), none, .load 1 false (.t 20)⟩,
⟨(some 22), none, .call 88 [(.t 21)]⟩,
⟨(some 23), none, .call 64 [(.t 22), (.c (.int .i64 4))]⟩,
⟨(some 24), none, .bslice 2 1 [(.int .i64 0)] [(0, 1, (.t 19)), (1, 1, (.t 23))]⟩,
⟨(some 25), none, .call 63 [(.t 24)]⟩,
⟨(some 9), none, .mov (.t 25)⟩] (some [4, 5, 6, 8, 9]))
(.seq (.ops [⟨(some 26), none, .mov (.t 9)⟩,
⟨(some 27), none, .ibin .neq .i64 (.t 26) (.c (.int .i64 0))⟩] (some [4, 5, 6, 8, 9, 27]))
(.cond (.t 27)
(.seq (.ops [⟨(some 28), none, .build [(.int .i64 0), (.int .i64 0), (.int .i64 0)] []⟩,
⟨(some 29), none, .mov (.t 9)⟩,
⟨none, none, .store 3 (.t 6) (.t 28)⟩,
⟨(some 7), none, .mov (.t 29)⟩] (some [6, 7]))
.ret)
.skip)))
(.seq (.ops [⟨(some 30), none, .faddr 0 (.t 8)⟩,
⟨(some 31), none, .faddr 3 (.t 30)⟩,
⟨(some 32), none, .load 1 false (.t 31)⟩,
⟨(some 33), none, .mkfunc 185 [] [(.t 5)]⟩,
⟨(some 34), none, .call 110 [(.t 32), (.t 33)]⟩,
⟨(some 10), none, .mov (.t 34)⟩] (some [4, 5, 6, 8, 10]))
(.seq (.seq (.ops [⟨(some 35), none, .mov (.t 10)⟩,
⟨(some 36), none, .ibin .lss .i64 (.t 35) (.c (.int .i64 0))⟩] (some [4, 5, 6, 8, 10, 36]))
(.cond (.t 36)
(.seq (.ops [⟨(some 37), none, .build [(.int .i64 0), (.int .i64 0), (.int .i64 0)] []⟩,
⟨none, none, .store 3 (.t 6) (.t 37)⟩,
⟨(some 7), none, .mov (.c (.int .i64 6))⟩] (some [6, 7]))
.ret)
.skip))
(.seq (.seq (.ops [⟨(some 38), none, .faddr 1 (.t 5)⟩,
⟨(some 39), none, .load 1 false (.t 38)⟩,
⟨(some 40), none, .faddr 0 (.t 4)⟩,
⟨(some 41), none, .load 1 false (.t 40)⟩,
⟨(some 42), none, .ibin .sub .i64 (.t 41) (.c (.int .i64 1))⟩,
⟨(some 43), none, .call 65 [(.t 39), (.c (.int .i64 0)), (.t 42)]⟩,
⟨(some 44), none, .un .not (.t 43)⟩] (some [4, 5, 6, 8, 10, 44]))
(.cond (.t 44)
(.seq (.ops [⟨(some 45), none, .build [(.int .i64 0), (.int .i64 0), (.int .i64 0)] []⟩,
⟨none, none, .store 3 (.t 6) (.t 45)⟩,
⟨(some 7), none, .mov (.c (.int .i64 2))⟩] (some [6, 7]))
.ret)
.skip))
(.seq (.draw (.rd 0 ⟨(some 46), none, .faddr 1 (.t 4)⟩
(.rd 1 ⟨(some 47), none, .load 1 false (.t 46)⟩
(.rd 2 ⟨(some 48), none, .faddr 0 (.t 8)⟩
(.rd 3 ⟨(some 49), none, .faddr 2 (.t 48)⟩
(.rd 4 ⟨(some 50), none, .load 1 false (.t 49)⟩
(.rd 5 ⟨(some 51), none, .ibin .geq .i64 (.t 47) (.t 50)⟩
(.rd 6 ⟨(some 52), none, .mov (.t 51)⟩
(.rd 7 ⟨(some 53), (some (52, true)), .faddr 2 (.t 4)⟩
(.rd 8 ⟨(some 54), (some (52, true)), .load 1 false (.t 53)⟩
(.rd 9 ⟨(some 55), (some (52, true)), .faddr 0 (.t 8)⟩
(.rd 10 ⟨(some 56), (some (52, true)), .faddr 1 (.t 55)⟩
(.rd 11 ⟨(some 57), (some (52, true)), .load 1 false (.t 56)⟩
(.rd 12 ⟨(some 58), (some (52, true)), .faddr 1 (.t 5)⟩
(.rd 13 ⟨(some 59), (some (52, true)), .load 1 false (.t 58)⟩
(.rd 14 ⟨(some 60), (some (52, true)), .iaddr 1 (.t 57) (.t 59)⟩
(.rd 15 ⟨(some 61), (some (52, true)), .load 1 false (.t 60)⟩
(.rd 16 ⟨(some 62), (some (52, true)), .ibin .lss .i64 (.t 54) (.t 61)⟩
(.rd 17 ⟨(some 63), none, .pick (.t 52) (.t 62) (.c (.bool false))⟩
(.rd 18 ⟨(some 11), none, .mov (.t 63)⟩
.fin))))))))))))))))))) (some [4, 5, 6, 8, 10, 11]))
(.seq (.seq (.draw (.rd 0 ⟨(some 64), none, .faddr 0 (.t 8)⟩
(.rd 1 ⟨(some 65), none, .faddr 3 (.t 64)⟩
(.rd 2 ⟨(some 66), none, .load 1 false (.t 65)⟩
(.rd 3 ⟨(some 67), none, .mov (.t 10)⟩
(.rd 4 ⟨(some 68), none, .iaddr 2 (.t 66) (.t 67)⟩
(.rd 5 ⟨(some 69), none, .faddr 1 (.t 68)⟩
(.rd 6 ⟨(some 70), none, .load 1 false (.t 69)⟩
(.rd 7 ⟨(some 71), none, .faddr 0 (.t 4)⟩
(.rd 8 ⟨(some 72), none, .load 1 false (.t 71)⟩
(.rd 9 ⟨(some 73), none, .ibin .geq .i64 (.t 70) (.t 72)⟩
(.rd 11 ⟨(some 75), none, .mov (.t 11)⟩
(.wr 10 ⟨(some 74), none, .call 64 [(.t 73), (.c (.int .i64 18))]⟩ [9]
(.wr 12 ⟨(some 76), none, .call 64 [(.t 75), (.c (.int .i64 24))]⟩ [11, 10]
(.wr 13 ⟨(some 77), none, .bslice 2 1 [(.int .i64 0)] [(0, 1, (.t 74)), (1, 1, (.t 76))]⟩ [10, 12]
(.wr 14 ⟨(some 78), none, .call 63 [(.t 77)]⟩ [13, 12]
(.rd 15 ⟨(some 12), none, .mov (.t 78)⟩
.fin) .no) .no) .no) .no)))))))))))) (some [4, 5, 6, 12]))
(.seq (.ops [⟨(some 79), none, .mov (.t 12)⟩,
⟨(some 80), none, .ibin .neq .i64 (.t 79) (.c (.int .i64 0))⟩] (some [4, 5, 6, 12, 80]))
(.cond (.t 80)
(.seq (.ops [⟨(some 81), none, .build [(.int .i64 0), (.int .i64 0), (.int .i64 0)] []⟩,
⟨(some 82), none, .mov (.t 12)⟩,
⟨none, none, .store 3 (.t 6) (.t 81)⟩,
⟨(some 7), none, .mov (.t 82)⟩] (some [6, 7]))
.ret)
.skip)))
(.seq (.ops [⟨(some 83), none, .faddr 1 (.t 5)⟩,
⟨(some 84), none, .load 1 false (.t 83)⟩,
⟨(some 85), none, .faddr 2 (.t 4)⟩,
⟨(some 86), none, .load 1 false (.t 85)⟩,
⟨(some 87), none, .build [(.int .i64 0), (.int .i64 0), (.int .i64 0)] [(0, 1, (.t 84)), (2, 1, (.t 86))]⟩,
⟨none, none, .store 3 (.t 6) (.t 87)⟩,
⟨(some 7), none, .mov (.c (.int .i64 0))⟩] (some [6, 7]))
.ret)))))))))⟩
/-- guidevane/guidevaneref09.LowerErr -/
def ir170 : IFn := ⟨57, [.t 6],
(.seq (.ops [⟨(some 3), none, .box (.t 0)⟩,
⟨(some 4), none, .box (.t 1)⟩,
⟨(some 5), none, .box (.t 2)⟩,
⟨(some 6), none, .mov (.c (.int .i64 0))⟩] (some [3, 4, 5]))
(.seq (.seq (.ops [⟨(some 9), none, .faddr 0 (.t 5)⟩,
⟨(some 10), none, .load 1 false (.t 9)⟩,
⟨(some 11), none, .call 91 [(.t 10)]⟩,
⟨(some 12), none, .un .not (.t 11)⟩] (some [3, 4, 5, 12]))
(.cond (.t 12)
(.seq (.ops [⟨(some 6), none, .mov (.c (.int .i64 4))⟩] none)
.ret)
.skip))
(.seq (.ops [⟨(some 13), none, .faddr 3 (.t 3)⟩,
⟨(some 14), none, .load 1 false (.t 13)⟩,
⟨(some 15), none, .faddr 0 (.t 5)⟩,
⟨(some 16), none, .load 1 false (.t 15)⟩,
⟨(some 17), none, .call 92 [(.t 14), (.t 16)]⟩,
⟨(some 7), none, .mov (.t 17)⟩] (some [3, 4, 5, 7]))
(.seq (.seq (.ops [⟨(some 18), none, .mov (.t 7)⟩,
⟨(some 19), none, .ibin .lss .i64 (.t 18) (.c (.int .i64 0))⟩] (some [3, 4, 5, 7, 19]))
(.cond (.t 19)
(.seq (.ops [⟨(some 6), none, .mov (.c (.int .i64 6))⟩] none)
.ret)
.skip))
(.seq (.seq (.ops [⟨(some 20), none, .faddr 1 (.t 5)⟩,
⟨(some 21), none, .load 1 false (.t 20)⟩,
⟨(some 22), none, .faddr 0 (.t 4)⟩,
⟨(some 23), none, .load 1 false (.t 22)⟩,
⟨(some 24), none, .ibin .sub .i64 (.t 23) (.c (.int .i64 1))⟩,
⟨(some 25), none, .call 15 [(.t 21), (.c (.int .i64 0)), (.t 24)]⟩,
⟨(some 26), none, .un .not (.t 25)⟩] (some [3, 4, 5, 7, 26]))
(.cond (.t 26)
(.seq (.ops [⟨(some 6), none, .mov (.c (.int .i64 2))⟩] none)
.ret)
.skip))
(.seq (.seq (.draw (.rd 0 ⟨(some 27), none, .faddr 3 (.t 3)⟩
(.rd 1 ⟨(some 28), none, .load 1 false (.t 27)⟩
(.rd 2 ⟨(some 29), none, .mov (.t 7)⟩
(.rd 3 ⟨(some 30), none, .iaddr 2 (.t 28) (.t 29)⟩
(.rd 4 ⟨(some 31), none, .faddr 1 (.t 30)⟩
(.rd 5 ⟨(some 32), none, .load 1 false (.t 31)⟩
(.rd 6 ⟨(some 33), none, .faddr 0 (.t 4)⟩
(.rd 7 ⟨(some 34), none, .load 1 false (.t 33)⟩
(.rd 8 ⟨(some 35), none, .ibin .lss .i64 (.t 32) (.t 34)⟩
.fin))))))))) (some [3, 4, 5, 35]))
(.cond (.t 35)
(.seq (.ops [⟨(some 6), none, .mov (.c (.int .i64 18))⟩] none)
.ret)
.skip))
(.seq (.seq (.ops [⟨(some 36), none, .faddr 1 (.t 4)⟩,
⟨(some 37), none, .load 1 false (.t 36)⟩,
⟨(some 38), none, .faddr 2 (.t 3)⟩,
⟨(some 39), none, .load 1 false (.t 38)⟩,
⟨(some 40), none, .ibin .lss .i64 (.t 37) (.t 39)⟩] (some [3, 4, 5, 40]))
(.cond (.t 40)
(.seq (.ops [⟨(some 6), none, .mov (.c (.int .i64 24))⟩] none)
.ret)
.skip))
(.seq (.seq (.ops [⟨(some 41), none, .faddr 1 (.t 5)⟩,
⟨(some 42), none, .load 1 false (.t 41)⟩,
⟨(some 8), none, .mov (.t 42)⟩] (some [3, 4, 8]))
(.block 0 (.loop (.seq (.seq (.ops [⟨(some 43), none, .mov (.t 8)⟩,
⟨(some 44), none, .faddr 0 (.t 4)⟩,
⟨(some 45), none, .load 1 false (.t 44)⟩,
⟨(some 46), none, .ibin .lss .i64 (.t 43) (.t 45)⟩] (some [3, 4, 8, 46]))
(.cond (.t 46)
.skip
(.exit 0)))
(.seq (.block 1 (.seq (.draw (.rd 0 ⟨(some 49), none, .faddr 2 (.t 4)⟩
(.rd 1 ⟨(some 50), none, .load 1 false (.t 49)⟩
(.rd 2 ⟨(some 51), none, .faddr 1 (.t 3)⟩
(.rd 3 ⟨(some 52), none, .load 1 false (.t 51)⟩
(.rd 4 ⟨(some 53), none, .mov (.t 8)⟩
(.rd 5 ⟨(some 54), none, .iaddr 1 (.t 52) (.t 53)⟩
(.rd 6 ⟨(some 55), none, .load 1 false (.t 54)⟩
(.rd 7 ⟨(some 56), none, .ibin .geq .i64 (.t 50) (.t 55)⟩
.fin)))))))) (some [3, 4, 8, 56]))
(.cond (.t 56)
(.seq (.ops [⟨(some 6), none, .mov (.c (.int .i64 24))⟩] none)
.ret)
.skip)))
(.ops [⟨(some 47), none, .mov (.t 8)⟩,
⟨(some 48), none, .ibin .add .i64 (.t 47) (.c (.int .i64 1))⟩,
⟨(some 8), none, .mov (.t 48)⟩] (some [3, 4, 8])))))))
(.seq (.ops [⟨(some 6), none, .mov (.c (.int .i64 0))⟩] none)
.ret)))))))))⟩
/-- guidevane/guidevaneref09.Lowered -/
def ir171 : IFn := ⟨10, [.cell 4 3 true],
(.seq (.ops [⟨(some 2), none, .box (.t 0)⟩,
⟨(some 3), none, .box (.t 1)⟩,
⟨(some 4), none, .alloc [(.int .i64 0), (.int .i64 0), (.int .i64 0)]⟩] (some [2, 3, 4]))
(.seq (.ops [⟨(some 5), none, .faddr 1 (.t 3)⟩,
⟨(some 6), none, .load 1 false (.t 5)⟩,
⟨(some 7), none, .faddr 2 (.t 2)⟩,
⟨(some 8), none, .load 1 false (.t 7)⟩,
⟨(some 9), none, .build [(.int .i64 0), (.int .i64 0), (.int .i64 0)] [(0, 1, (.t 6)), (2, 1, (.t 8))]⟩,
⟨none, none, .store 3 (.t 4) (.t 9)⟩] (some [4]))
.ret))⟩
/-- guidevane/dam.AgreedOf -/
def ir172 : IFn := ⟨22, [.cell 2 2 true, .t 3],
(.seq (.ops [⟨(some 2), none, .alloc [(.int .i64 0), (.int .i64 0)]⟩,
⟨(some 3), none, .mov (.c (.int .i64 0))⟩] (some [0, 2]))
(.seq (.seq (.ops [⟨(some 7), none, .mov (.t 0)⟩,
⟨(some 8), none, .call 186 [(.t 7)]⟩,
⟨(some 4), none, .mov (.t 8)⟩] (some [0, 2, 4]))
(.seq (.ops [⟨(some 9), none, .mov (.t 4)⟩,
⟨(some 10), none, .ibin .neq .i64 (.t 9) (.c (.int .i64 0))⟩] (some [0, 2, 4, 10]))
(.cond (.t 10)
(.seq (.ops [⟨(some 11), none, .build [(.int .i64 0), (.int .i64 0)] []⟩,
⟨(some 12), none, .mov (.t 4)⟩,
⟨none, none, .store 2 (.t 2) (.t 11)⟩,
⟨(some 3), none, .mov (.t 12)⟩] (some [2, 3]))
.ret)
.skip)))
(.seq (.ops [⟨(some 14), none, .mov (.t 0)⟩,
⟨(some 15), none, .call 187 [(.t 14)]⟩,
⟨(some 13), none, .mov (.t 15)⟩,
⟨(some 16), none, .extract 0 (.t 13)⟩,
⟨(some 17), none, .extract 1 (.t 13)⟩,
⟨(some 5), none, .alloc [(.int .i64 0), (.int .i64 0)]⟩,
⟨none, none, .store 2 (.t 5) (.t 16)⟩,
⟨(some 6), none, .mov (.t 17)⟩] (some [2, 5, 6]))
(.seq (.seq (.ops [⟨(some 18), none, .mov (.t 6)⟩,
⟨(some 19), none, .un .not (.t 18)⟩] (some [2, 5, 19]))
(.cond (.t 19)
(.seq (.ops [⟨(some 20), none, .build [(.int .i64 0), (.int .i64 0)] []⟩,
⟨none, none, .store 2 (.t 2) (.t 20)⟩,
⟨(some 3), none, .mov (.c (.int .i64 13))⟩] (some [2, 3]))
.ret)
.skip))
(.seq (.ops [⟨(some 21), none, .load 2 true (.t 5)⟩,
⟨none, none, .store 2 (.t 2) (.t 21)⟩,
⟨(some 3), none, .mov (.c (.int .i64 0))⟩] (some [2, 3]))
.ret)))))⟩
/-- guidevane/guidevaneref09.CopyGauges -/
def ir173 : IFn := ⟨6, [.t 2],
(.seq (.ops [⟨(some 2), none, .mov (.c (.slice none 0 0))⟩] (some [0]))
(.seq (.ops [⟨(some 3), none, .bslice 0 5 [(.string ⟨#[]⟩), (.int .i64 0), (.int .i64 0), (.int .i64 0), (.int .i64 0)] []⟩,
⟨(some 4), none, .mov (.t 0)⟩,
⟨(some 5), none, .append 5 48 (.t 3) (.t 4)⟩,
⟨(some 2), none, .mov (.t 5)⟩] (some [2]))
.ret))⟩
/-- guidevane/dam.Contradicting -/
def ir174 : IFn := ⟨50, [.cell 2 2 true, .t 3],
(.seq (.ops [⟨(some 2), none, .alloc [(.string ⟨#[]⟩), (.string ⟨#[]⟩)]⟩,
⟨(some 3), none, .mov (.c (.int .i64 0))⟩] (some [0, 2]))
(.seq (.seq (.ops [⟨(some 11), none, .mov (.t 0)⟩,
⟨(some 12), none, .call 186 [(.t 11)]⟩,
⟨(some 4), none, .mov (.t 12)⟩] (some [0, 2, 4]))
(.seq (.ops [⟨(some 13), none, .mov (.t 4)⟩,
⟨(some 14), none, .ibin .neq .i64 (.t 13) (.c (.int .i64 0))⟩] (some [0, 2, 4, 14]))
(.cond (.t 14)
(.seq (.ops [⟨(some 15), none, .build [(.string ⟨#[]⟩), (.string ⟨#[]⟩)] []⟩,
⟨(some 16), none, .mov (.t 4)⟩,
⟨none, none, .store 2 (.t 2) (.t 15)⟩,
⟨(some 3), none, .mov (.t 16)⟩] (some [2, 3]))
.ret)
.skip)))
(.seq (.seq (.ops [⟨(some 17), none, .mov (.t 0)⟩,
⟨(some 18), none, .lenV (.t 17)⟩,
⟨(some 19), none, .mov (.c (.int .i64 0))⟩] none)
(.block 0 (.loop (.seq (.ops [⟨(some 20), none, .ibin .lss .i64 (.t 19) (.t 18)⟩] none)
(.seq (.cond (.t 20)
.skip
(.exit 0))
(.seq (.block 1 (.seq (.ops [⟨(some 21), none, .mov (.t 19)⟩,
⟨(some 22), none, .iaddr 5 (.t 17) (.t 19)⟩,
⟨(some 23), none, .load 5 true (.t 22)⟩,
⟨(some 6), none, .alloc [(.string ⟨#[]⟩), (.int .i64 0), (.int .i64 0), (.int .i64 0), (.int .i64 0)]⟩,
⟨(some 5), none, .mov (.t 21)⟩,
⟨none, none, .store 5 (.t 6) (.t 23)⟩] (some [0, 2, 5, 6, 17, 18, 19]))
(.seq (.ops [⟨(some 24), none, .mov (.t 0)⟩,
⟨(some 25), none, .mov (.t 5)⟩,
⟨(some 26), none, .ibin .add .i64 (.t 25) (.c (.int .i64 1))⟩,
⟨(some 27), none, .sliceV 5 (.t 24) (some (.t 26)) none none⟩,
⟨(some 28), none, .lenV (.t 27)⟩,
⟨(some 29), none, .mov (.c (.int .i64 0))⟩] (some [0, 2, 6, 17, 18, 19, 27, 28, 29]))
(.block 2 (.loop (.seq (.ops [⟨(some 30), none, .ibin .lss .i64 (.t 29) (.t 28)⟩] none)
(.seq (.cond (.t 30)
.skip
(.exit 2))
(.seq (.block 3 (.seq (.ops [⟨(some 31), none, .iaddr 5 (.t 27) (.t 29)⟩,
⟨(some 32), none, .load 5 true (.t 31)⟩,
⟨(some 8), none, .alloc [(.string ⟨#[]⟩), (.int .i64 0), (.int .i64 0), (.int .i64 0), (.int .i64 0)]⟩,
⟨none, none, .store 5 (.t 8) (.t 32)⟩] (some [0, 2, 6, 8, 17, 18, 19, 27, 28, 29]))
(.seq (.ops [⟨(some 34), none, .load 5 true (.t 6)⟩,
⟨(some 35), none, .load 5 true (.t 8)⟩,
⟨(some 36), none, .bslice 2 5 [(.string ⟨#[]⟩), (.int .i64 0), (.int .i64 0), (.int .i64 0), (.int .i64 0)] [(0, 5, (.t 34)), (5, 5, (.t 35))]⟩,
⟨(some 37), none, .call 187 [(.t 36)]⟩,
⟨(some 33), none, .mov (.t 37)⟩,
⟨(some 38), none, .extract 0 (.t 33)⟩,
⟨(some 39), none, .extract 1 (.t 33)⟩,
⟨(some 9), none, .alloc [(.int .i64 0), (.int .i64 0)]⟩,
⟨none, none, .store 2 (.t 9) (.t 38)⟩,
⟨(some 10), none, .mov (.t 39)⟩] (some [0, 2, 6, 8, 10, 17, 18, 19, 27, 28, 29]))
(.seq (.ops [⟨(some 40), none, .mov (.t 10)⟩,
⟨(some 41), none, .un .not (.t 40)⟩] (some [0, 2, 6, 8, 17, 18, 19, 27, 28, 29, 41]))
(.cond (.t 41)
(.seq (.ops [⟨(some 42), none, .faddr 0 (.t 6)⟩,
⟨(some 43), none, .load 1 false (.t 42)⟩,
⟨(some 44), none, .faddr 0 (.t 8)⟩,
⟨(some 45), none, .load 1 false (.t 44)⟩,
⟨(some 46), none, .build [(.string ⟨#[]⟩), (.string ⟨#[]⟩)] [(0, 1, (.t 43)), (1, 1, (.t 45))]⟩,
⟨none, none, .store 2 (.t 2) (.t 46)⟩,
⟨(some 3), none, .mov (.c (.int .i64 0))⟩] (some [2, 3]))
.ret)
.skip)))))
(.ops [⟨(some 47), none, .ibin .add .i64 (.t 29) (.c (.int .i64 1))⟩,
⟨(some 29), none, .mov (.t 47)⟩] (some [0, 2, 6, 17, 18, 19, 27, 28, 29]))))))))))
(.ops [⟨(some 48), none, .ibin .add .i64 (.t 19) (.c (.int .i64 1))⟩,
⟨(some 19), none, .mov (.t 48)⟩] (some [0, 2, 17, 18, 19]))))))))
(.seq (.ops [⟨(some 49), none, .build [(.string ⟨#[]⟩), (.string ⟨#[]⟩)] []⟩,
⟨none, none, .store 2 (.t 2) (.t 49)⟩,
⟨(some 3), none, .mov (.c (.int .i64 12))⟩] (some [2, 3]))
.ret))))⟩
/-- guidevane/guidevaneref09.GaugesErr -/
def ir175 : IFn := ⟨81, [.t 2],
(.seq (.ops [⟨(some 2), none, .mov (.c (.int .i64 0))⟩] (some [0]))
(.seq (.seq (.ops [⟨(some 6), none, .mov (.t 0)⟩,
⟨(some 7), none, .lenV (.t 6)⟩,
⟨(some 8), none, .ibin .eql .i64 (.t 7) (.c (.int .i64 0))⟩] (some [0, 8]))
(.cond (.t 8)
(.seq (.ops [⟨(some 2), none, .mov (.c (.int .i64 10))⟩] none)
.ret)
.skip))
(.seq (.seq (.ops [⟨(some 9), none, .mov (.t 0)⟩,
⟨(some 10), none, .lenV (.t 9)⟩,
⟨(some 11), none, .ibin .gtr .i64 (.t 10) (.c (.int .i64 12))⟩] (some [0, 11]))
(.cond (.t 11)
(.seq (.ops [⟨(some 2), none, .mov (.c (.int .i64 8))⟩] none)
.ret)
.skip))
(.seq (.seq (.ops [⟨(some 3), none, .mov (.c (.int .i64 0))⟩] none)
(.block 0 (.loop (.seq (.seq (.ops [⟨(some 12), none, .mov (.t 3)⟩,
⟨(some 13), none, .mov (.t 0)⟩,
⟨(some 14), none, .lenV (.t 13)⟩,
⟨(some 15), none, .ibin .lss .i64 (.t 12) (.t 14)⟩] (some [0, 3, 15]))
(.cond (.t 15)
.skip
(.exit 0)))
(.seq (.block 1 (.seq (.ops [⟨(some 18), none, .mov (.t 0)⟩,
⟨(some 19), none, .mov (.t 3)⟩,
⟨(some 20), none, .iaddr 5 (.t 18) (.t 19)⟩,
⟨(some 21), none, .load 5 true (.t 20)⟩,
⟨(some 4), none, .alloc [(.string ⟨#[]⟩), (.int .i64 0), (.int .i64 0), (.int .i64 0), (.int .i64 0)]⟩,
⟨none, none, .store 5 (.t 4) (.t 21)⟩] (some [0, 3, 4]))
(.seq (.seq (.ops [⟨(some 22), none, .faddr 0 (.t 4)⟩,
⟨(some 23), none, .load 1 false (.t 22)⟩,
⟨(some 24), none, .call 91 [(.t 23)]⟩,
⟨(some 25), none, .un .not (.t 24)⟩] (some [0, 3, 4, 25]))
(.cond (.t 25)
(.seq (.ops [⟨(some 2), none, .mov (.c (.int .i64 4))⟩] none)
.ret)
.skip))
(.seq (.seq (.ops [⟨(some 5), none, .mov (.c (.int .i64 0))⟩] none)
(.block 2 (.loop (.seq (.seq (.ops [⟨(some 26), none, .mov (.t 5)⟩,
⟨(some 27), none, .mov (.t 3)⟩,
⟨(some 28), none, .ibin .lss .i64 (.t 26) (.t 27)⟩] (some [0, 3, 4, 5, 28]))
(.cond (.t 28)
.skip
(.exit 2)))
(.seq (.block 3 (.seq (.draw (.rd 0 ⟨(some 31), none, .mov (.t 0)⟩
(.rd 1 ⟨(some 32), none, .mov (.t 5)⟩
(.rd 2 ⟨(some 33), none, .iaddr 5 (.t 31) (.t 32)⟩
(.rd 3 ⟨(some 34), none, .faddr 0 (.t 33)⟩
(.rd 4 ⟨(some 35), none, .load 1 false (.t 34)⟩
(.rd 5 ⟨(some 36), none, .faddr 0 (.t 4)⟩
(.rd 6 ⟨(some 37), none, .load 1 false (.t 36)⟩
(.rd 7 ⟨(some 38), none, .sbin .eql (.t 35) (.t 37)⟩
.fin)))))))) (some [0, 3, 4, 5, 38]))
(.cond (.t 38)
(.seq (.ops [⟨(some 2), none, .mov (.c (.int .i64 5))⟩] none)
.ret)
.skip)))
(.ops [⟨(some 29), none, .mov (.t 5)⟩,
⟨(some 30), none, .ibin .add .i64 (.t 29) (.c (.int .i64 1))⟩,
⟨(some 5), none, .mov (.t 30)⟩] (some [0, 3, 4, 5])))))))
(.seq (.seq (.ops [⟨(some 39), none, .faddr 1 (.t 4)⟩,
⟨(some 40), none, .faddr 0 (.t 39)⟩,
⟨(some 41), none, .load 1 false (.t 40)⟩,
⟨(some 42), none, .call 188 [(.t 41)]⟩,
⟨(some 43), none, .un .not (.t 42)⟩,
⟨(some 44), none, .mov (.t 43)⟩,
⟨(some 45), (some (44, false)), .faddr 1 (.t 4)⟩,
⟨(some 46), (some (44, false)), .faddr 1 (.t 45)⟩,
⟨(some 47), (some (44, false)), .load 1 false (.t 46)⟩,
⟨(some 48), (some (44, false)), .call 188 [(.t 47)]⟩,
⟨(some 49), (some (44, false)), .un .not (.t 48)⟩,
⟨(some 50), none, .pick (.t 44) (.c (.bool true)) (.t 49)⟩,
⟨(some 51), none, .mov (.t 50)⟩,
⟨(some 52), (some (51, false)), .faddr 3 (.t 4)⟩,
⟨(some 53), (some (51, false)), .faddr 0 (.t 52)⟩,
⟨(some 54), (some (51, false)), .load 1 false (.t 53)⟩,
⟨(some 55), (some (51, false)), .call 188 [(.t 54)]⟩,
⟨(some 56), (some (51, false)), .un .not (.t 55)⟩,
⟨(some 57), none, .pick (.t 51) (.c (.bool true)) (.t 56)⟩,
⟨(some 58), none, .mov (.t 57)⟩,
⟨(some 59), (some (58, false)), .faddr 3 (.t 4)⟩,
⟨(some 60), (some (58, false)), .faddr 1 (.t 59)⟩,
⟨(some 61), (some (58, false)), .load 1 false (.t 60)⟩,
⟨(some 62), (some (58, false)), .call 188 [(.t 61)]⟩,
⟨(some 63), (some (58, false)), .un .not (.t 62)⟩,
⟨(some 64), none, .pick (.t 58) (.c (.bool true)) (.t 63)⟩] (some [0, 3, 4, 64]))
(.cond (.t 64)
(.seq (.ops [⟨(some 2), none, .mov (.c (.int .i64 2))⟩] none)
.ret)
.skip))
(.seq (.ops [⟨(some 65), none, .faddr 1 (.t 4)⟩,
⟨(some 66), none, .faddr 0 (.t 65)⟩,
⟨(some 67), none, .load 1 false (.t 66)⟩,
⟨(some 68), none, .faddr 1 (.t 4)⟩,
⟨(some 69), none, .faddr 1 (.t 68)⟩,
⟨(some 70), none, .load 1 false (.t 69)⟩,
⟨(some 71), none, .ibin .gtr .i64 (.t 67) (.t 70)⟩,
⟨(some 72), none, .mov (.t 71)⟩,
⟨(some 73), (some (72, false)), .faddr 3 (.t 4)⟩,
⟨(some 74), (some (72, false)), .faddr 0 (.t 73)⟩,
⟨(some 75), (some (72, false)), .load 1 false (.t 74)⟩,
⟨(some 76), (some (72, false)), .faddr 3 (.t 4)⟩,
⟨(some 77), (some (72, false)), .faddr 1 (.t 76)⟩,
⟨(some 78), (some (72, false)), .load 1 false (.t 77)⟩,
⟨(some 79), (some (72, false)), .ibin .gtr .i64 (.t 75) (.t 78)⟩,
⟨(some 80), none, .pick (.t 72) (.c (.bool true)) (.t 79)⟩] (some [0, 3, 80]))
(.cond (.t 80)
(.seq (.ops [⟨(some 2), none, .mov (.c (.int .i64 9))⟩] none)
.ret)
.skip)))))))
(.ops [⟨(some 16), none, .mov (.t 3)⟩,
⟨(some 17), none, .ibin .add .i64 (.t 16) (.c (.int .i64 1))⟩,
⟨(some 3), none, .mov (.t 17)⟩] (some [0, 3])))))))
(.seq (.ops [⟨(some 2), none, .mov (.c (.int .i64 0))⟩] none)
.ret)))))⟩
/-- guidevane/guidevaneref09.Agreed -/
def ir176 : IFn := ⟨39, [.cell 2 2 true, .t 3],
(.seq (.ops [⟨(some 2), none, .alloc [(.int .i64 0), (.int .i64 0)]⟩,
⟨(some 3), none, .mov (.c (.bool false))⟩] (some [0, 2]))
(.seq (.ops [⟨(some 7), none, .mov (.t 0)⟩,
⟨(some 8), none, .iaddr 5 (.t 7) (.c (.int .i64 0))⟩,
⟨(some 9), none, .load 5 true (.t 8)⟩,
⟨(some 10), none, .call 189 [(.t 9)]⟩,
⟨(some 4), none, .alloc [(.int .i64 0), (.int .i64 0)]⟩,
⟨none, none, .store 2 (.t 4) (.t 10)⟩] (some [0, 2, 4]))
(.seq (.seq (.ops [⟨(some 5), none, .mov (.c (.int .i64 1))⟩] none)
(.block 0 (.loop (.seq (.seq (.ops [⟨(some 11), none, .mov (.t 5)⟩,
⟨(some 12), none, .mov (.t 0)⟩,
⟨(some 13), none, .lenV (.t 12)⟩,
⟨(some 14), none, .ibin .lss .i64 (.t 11) (.t 13)⟩] (some [0, 2, 4, 5, 14]))
(.cond (.t 14)
.skip
(.exit 0)))
(.seq (.block 1 (.seq (.ops [⟨(some 17), none, .mov (.t 0)⟩,
⟨(some 18), none, .mov (.t 5)⟩,
⟨(some 19), none, .iaddr 5 (.t 17) (.t 18)⟩,
⟨(some 20), none, .load 5 true (.t 19)⟩,
⟨(some 21), none, .call 189 [(.t 20)]⟩,
⟨(some 6), none, .alloc [(.int .i64 0), (.int .i64 0)]⟩,
⟨none, none, .store 2 (.t 6) (.t 21)⟩] (some [0, 2, 4, 5, 6]))
(.ops [⟨(some 22), none, .faddr 0 (.t 4)⟩,
⟨(some 23), none, .load 1 false (.t 22)⟩,
⟨(some 24), none, .faddr 0 (.t 6)⟩,
⟨(some 25), none, .load 1 false (.t 24)⟩,
⟨(some 26), none, .minmax true (.t 23) [(.t 25)]⟩,
⟨(some 27), none, .faddr 1 (.t 4)⟩,
⟨(some 28), none, .load 1 false (.t 27)⟩,
⟨(some 29), none, .faddr 1 (.t 6)⟩,
⟨(some 30), none, .load 1 false (.t 29)⟩,
⟨(some 31), none, .minmax false (.t 28) [(.t 30)]⟩,
⟨(some 32), none, .build [(.int .i64 0), (.int .i64 0)] [(0, 1, (.t 26)), (1, 1, (.t 31))]⟩,
⟨none, none, .store 2 (.t 4) (.t 32)⟩] (some [0, 2, 4, 5]))))
(.ops [⟨(some 15), none, .mov (.t 5)⟩,
⟨(some 16), none, .ibin .add .i64 (.t 15) (.c (.int .i64 1))⟩,
⟨(some 5), none, .mov (.t 16)⟩] (some [0, 2, 4, 5])))))))
(.seq (.draw (.rd 0 ⟨(some 33), none, .load 2 true (.t 4)⟩
(.rd 1 ⟨(some 34), none, .faddr 0 (.t 4)⟩
(.rd 2 ⟨(some 35), none, .load 1 false (.t 34)⟩
(.rd 3 ⟨(some 36), none, .faddr 1 (.t 4)⟩
(.rd 4 ⟨(some 37), none, .load 1 false (.t 36)⟩
(.rd 5 ⟨(some 38), none, .ibin .leq .i64 (.t 35) (.t 37)⟩
(.wr 6 ⟨none, none, .store 2 (.t 2) (.t 33)⟩ [0, 0]
(.rd 7 ⟨(some 3), none, .mov (.t 38)⟩
.fin) .no))))))) (some [2, 3]))
.ret))))⟩
/-- guidevane/guidevaneref09.Pair -/
def ir177 : IFn := ⟨49, [.cell 2 2 true, .t 3],
(.seq (.ops [⟨(some 2), none, .alloc [(.string ⟨#[]⟩), (.string ⟨#[]⟩)]⟩,
⟨(some 3), none, .mov (.c (.bool false))⟩] (some [0, 2]))
(.seq (.seq (.ops [⟨(some 4), none, .mov (.c (.int .i64 0))⟩] none)
(.block 0 (.loop (.seq (.seq (.ops [⟨(some 8), none, .mov (.t 4)⟩,
⟨(some 9), none, .mov (.t 0)⟩,
⟨(some 10), none, .lenV (.t 9)⟩,
⟨(some 11), none, .ibin .lss .i64 (.t 8) (.t 10)⟩] (some [0, 2, 4, 11]))
(.cond (.t 11)
.skip
(.exit 0)))
(.seq (.block 1 (.seq (.ops [⟨(some 14), none, .mov (.t 4)⟩,
⟨(some 15), none, .ibin .add .i64 (.t 14) (.c (.int .i64 1))⟩,
⟨(some 5), none, .mov (.t 15)⟩] (some [0, 2, 4, 5]))
(.block 2 (.loop (.seq (.seq (.ops [⟨(some 16), none, .mov (.t 5)⟩,
⟨(some 17), none, .mov (.t 0)⟩,
⟨(some 18), none, .lenV (.t 17)⟩,
⟨(some 19), none, .ibin .lss .i64 (.t 16) (.t 18)⟩] (some [0, 2, 4, 5, 19]))
(.cond (.t 19)
.skip
(.exit 2)))
(.seq (.block 3 (.seq (.draw (.rd 0 ⟨(some 23), none, .mov (.t 0)⟩
(.rd 1 ⟨(some 24), none, .mov (.t 4)⟩
(.rd 2 ⟨(some 25), none, .iaddr 5 (.t 23) (.t 24)⟩
(.rd 3 ⟨(some 26), none, .load 5 true (.t 25)⟩
(.rd 4 ⟨(some 27), none, .mov (.t 0)⟩
(.rd 5 ⟨(some 28), none, .mov (.t 5)⟩
(.rd 6 ⟨(some 29), none, .iaddr 5 (.t 27) (.t 28)⟩
(.rd 7 ⟨(some 30), none, .load 5 true (.t 29)⟩
(.wr 8 ⟨(some 31), none, .bslice 2 5 [(.string ⟨#[]⟩), (.int .i64 0), (.int .i64 0), (.int .i64 0), (.int .i64 0)] [(0, 5, (.t 26)), (5, 5, (.t 30))]⟩ [3, 7]
(.wr 9 ⟨(some 32), none, .call 176 [(.t 31)]⟩ [8]
(.rd 10 ⟨(some 22), none, .mov (.t 32)⟩
(.rd 11 ⟨(some 33), none, .extract 0 (.t 22)⟩
(.rd 12 ⟨(some 34), none, .extract 1 (.t 22)⟩
(.wr 13 ⟨(some 6), none, .alloc [(.int .i64 0), (.int .i64 0)]⟩ []
(.wr 14 ⟨none, none, .store 2 (.t 6) (.t 33)⟩ [13, 11, 9, 0, 1, 2, 3, 4, 5, 6, 7, 8, 9, 10, 11, 13]
(.rd 15 ⟨(some 7), none, .mov (.t 34)⟩
.fin) .no) .no))))
(.wr 13 ⟨(some 6), none, .alloc [(.int .i64 0), (.int .i64 0)]⟩ []
(.wr 9 ⟨(some 32), none, .call 176 [(.t 31)]⟩ [8]
(.rd 10 ⟨(some 22), none, .mov (.t 32)⟩
(.rd 11 ⟨(some 33), none, .extract 0 (.t 22)⟩
(.rd 12 ⟨(some 34), none, .extract 1 (.t 22)⟩
(.wr 14 ⟨none, none, .store 2 (.t 6) (.t 33)⟩ [13, 11, 9, 0, 1, 2, 3, 4, 5, 6, 7, 8, 9, 10, 11, 13]
(.rd 15 ⟨(some 7), none, .mov (.t 34)⟩
.fin) .no)))) .no) .no))
(.wr 13 ⟨(some 6), none, .alloc [(.int .i64 0), (.int .i64 0)]⟩ []
(.wr 8 ⟨(some 31), none, .bslice 2 5 [(.string ⟨#[]⟩), (.int .i64 0), (.int .i64 0), (.int .i64 0), (.int .i64 0)] [(0, 5, (.t 26)), (5, 5, (.t 30))]⟩ [3, 7]
(.wr 9 ⟨(some 32), none, .call 176 [(.t 31)]⟩ [8]
(.rd 10 ⟨(some 22), none, .mov (.t 32)⟩
(.rd 11 ⟨(some 33), none, .extract 0 (.t 22)⟩
(.rd 12 ⟨(some 34), none, .extract 1 (.t 22)⟩
(.wr 14 ⟨none, none, .store 2 (.t 6) (.t 33)⟩ [13, 11, 9, 0, 1, 2, 3, 4, 5, 6, 7, 8, 9, 10, 11, 13]
(.rd 15 ⟨(some 7), none, .mov (.t 34)⟩
.fin) .no)))) .no) .no) .no)))))))))) (some [0, 2, 4, 5, 7]))
(.seq (.ops [⟨(some 35), none, .mov (.t 7)⟩,
⟨(some 36), none, .un .not (.t 35)⟩] (some [0, 2, 4, 5, 36]))
(.cond (.t 36)
(.seq (.draw (.rd 0 ⟨(some 37), none, .mov (.t 0)⟩
(.rd 1 ⟨(some 38), none, .mov (.t 4)⟩
(.rd 2 ⟨(some 39), none, .iaddr 5 (.t 37) (.t 38)⟩
(.rd 3 ⟨(some 40), none, .faddr 0 (.t 39)⟩
(.rd 4 ⟨(some 41), none, .load 1 false (.t 40)⟩
(.rd 5 ⟨(some 42), none, .mov (.t 0)⟩
(.rd 6 ⟨(some 43), none, .mov (.t 5)⟩
(.rd 7 ⟨(some 44), none, .iaddr 5 (.t 42) (.t 43)⟩
(.rd 8 ⟨(some 45), none, .faddr 0 (.t 44)⟩
(.rd 9 ⟨(some 46), none, .load 1 false (.t 45)⟩
(.rd 10 ⟨(some 47), none, .build [(.string ⟨#[]⟩), (.string ⟨#[]⟩)] [(0, 1, (.t 41)), (1, 1, (.t 46))]⟩
(.wr 11 ⟨none, none, .store 2 (.t 2) (.t 47)⟩ [10, 0, 1, 2, 3, 4, 5, 6, 7, 8, 9, 10]
(.rd 12 ⟨(some 3), none, .mov (.c (.bool true))⟩
.fin) .no)))))))))))) (some [2, 3]))
.ret)
.skip))))
(.ops [⟨(some 20), none, .mov (.t 5)⟩,
⟨(some 21), none, .ibin .add .i64 (.t 20) (.c (.int .i64 1))⟩,
⟨(some 5), none, .mov (.t 21)⟩] (some [0, 2, 4, 5]))))))))
(.ops [⟨(some 12), none, .mov (.t 4)⟩,
⟨(some 13), none, .ibin .add .i64 (.t 12) (.c (.int .i64 1))⟩,
⟨(some 4), none, .mov (.t 13)⟩] (some [0, 2, 4])))))))
(.seq (.ops [⟨(some 48), none, .build [(.string ⟨#[]⟩), (.string ⟨#[]⟩)] []⟩,
⟨none, none, .store 2 (.t 2) (.t 48)⟩,
⟨(some 3), none, .mov (.c (.bool false))⟩] (some [2, 3]))
.ret)))⟩
/-- guidevane/guidevanelaw09.few -/
def ir178 : IFn := ⟨6, [.t 2],
(.seq (.ops [⟨(some 2), none, .mov (.c (.bool false))⟩] (some [0]))
(.seq (.ops [⟨(some 3), none, .mov (.t 0)⟩,
⟨(some 4), none, .lenV (.t 3)⟩,
⟨(some 5), none, .ibin .leq .i64 (.t 4) (.c (.int .i64 14))⟩,
⟨(some 2), none, .mov (.t 5)⟩] (some [2]))
.ret))⟩
/-- guidevane/dam.SharesOf -/
def ir179 : IFn := ⟨39, [.cell 4 6 true, .t 5],
(.seq (.ops [⟨(some 2), none, .box (.t 0)⟩,
⟨(some 3), none, .box (.t 1)⟩,
⟨(some 4), none, .alloc (List.replicate 6 (.int .i64 0))⟩,
⟨(some 5), none, .mov (.c (.int .i64 0))⟩] (some [2, 3, 4]))
(.seq (.seq (.draw (.rd 0 ⟨(some 10), none, .load 6 true (.t 2)⟩
(.rd 2 ⟨(some 12), none, .load 3 true (.t 3)⟩
(.wr 1 ⟨(some 11), none, .call 98 [(.t 10)]⟩ [0]
(.wr 3 ⟨(some 13), none, .call 33 [(.t 12)]⟩ [2, 1]
(.wr 4 ⟨(some 14), none, .bslice 2 1 [(.int .i64 0)] [(0, 1, (.t 11)), (1, 1, (.t 13))]⟩ [1, 3]
(.wr 5 ⟨(some 15), none, .call 63 [(.t 14)]⟩ [4, 3]
(.rd 6 ⟨(some 6), none, .mov (.t 15)⟩
.fin) .no) .no) .no) .no))) (some [2, 3, 4, 6]))
(.seq (.ops [⟨(some 16), none, .mov (.t 6)⟩,
⟨(some 17), none, .ibin .neq .i64 (.t 16) (.c (.int .i64 0))⟩] (some [2, 3, 4, 6, 17]))
(.cond (.t 17)
(.seq (.ops [⟨(some 18), none, .build (List.replicate 6 (.int .i64 0)) []⟩,
⟨(some 19), none, .mov (.t 6)⟩,
⟨none, none, .store 6 (.t 4) (.t 18)⟩,
⟨(some 5), none, .mov (.t 19)⟩] (some [4, 5]))
.ret)
.skip)))
(.seq (.ops [⟨(some 7), none, .alloc (List.replicate 6 (.int .i64 0))⟩] none)
(.seq (.seq (.ops [⟨(some 20), none, .bslice 1 1 [(.int .i64 0)] [(0, 1, (.c (.int .i64 1)))]⟩,
⟨(some 21), none, .bslice 2 1 [(.int .i64 0)] [(0, 1, (.c (.int .i64 2))), (1, 1, (.c (.int .i64 3)))]⟩,
⟨(some 22), none, .bslice 2 1 [(.int .i64 0)] [(0, 1, (.c (.int .i64 0))), (1, 1, (.c (.int .i64 4)))]⟩,
⟨(some 23), none, .build [(.slice none 0 0), (.slice none 0 0), (.slice none 0 0)] [(0, 1, (.t 20)), (1, 1, (.t 21)), (2, 1, (.t 22))]⟩,
⟨(some 24), none, .mov (.c (.int .i64 0))⟩] (some [2, 3, 4, 7, 23, 24]))
(.block 0 (.loop (.seq (.ops [⟨(some 25), none, .ibin .lss .i64 (.t 24) (.c (.int .i64 3))⟩] none)
(.seq (.cond (.t 25)
.skip
(.exit 0))
(.seq (.block 1 (.seq (.ops [⟨(some 26), none, .mov (.t 24)⟩,
⟨(some 27), none, .indexA 3 1 false (.t 23) (.t 24)⟩,
⟨(some 8), none, .mov (.t 26)⟩,
⟨(some 9), none, .mov (.t 27)⟩] (some [2, 3, 4, 7, 8, 9, 23, 24]))
(.draw (.rd 0 ⟨(some 28), none, .mov (.t 8)⟩
(.rd 1 ⟨(some 29), none, .load 6 true (.t 2)⟩
(.rd 2 ⟨(some 30), none, .load 3 true (.t 3)⟩
(.rd 3 ⟨(some 31), none, .mov (.t 9)⟩
(.rd 5 ⟨(some 33), none, .faddr 0 (.t 2)⟩
(.rd 6 ⟨(some 34), none, .load 1 false (.t 33)⟩
(.wr 4 ⟨(some 32), none, .call 117 [(.t 29), (.t 30), (.t 31)]⟩ [1, 2, 3]
(.wr 7 ⟨(some 35), none, .call 101 [(.t 32), (.t 34)]⟩ [4, 6, 4]
(.rd 8 ⟨(some 36), none, .iaddrA 3 2 (.t 7) (.t 28)⟩
(.wr 9 ⟨none, none, .store 2 (.t 36) (.t 35)⟩ [8, 7, 7, 0, 1, 2, 3, 4, 5, 6, 7]
.fin .no)) .no) .no))))))) (some [2, 3, 4, 7, 23, 24]))))
(.ops [⟨(some 37), none, .ibin .add .i64 (.t 24) (.c (.int .i64 1))⟩,
⟨(some 24), none, .mov (.t 37)⟩] (some [2, 3, 4, 7, 23, 24]))))))))
(.seq (.ops [⟨(some 38), none, .load 6 true (.t 7)⟩,
⟨none, none, .store 6 (.t 4) (.t 38)⟩,
⟨(some 5), none, .mov (.c (.int .i64 0))⟩] (some [4, 5]))
.ret)))))⟩
/-- guidevane/guidevaneref09.FitErr -/
def ir180 : IFn := ⟨18, [.t 2],
(.seq (.ops [⟨(some 1), none, .box (.t 0)⟩,
⟨(some 2), none, .mov (.c (.int .i64 0))⟩] (some [1]))
(.seq (.seq (.ops [⟨(some 4), none, .faddr 0 (.t 1)⟩,
⟨(some 5), none, .load 1 false (.t 4)⟩,
⟨(some 6), none, .call 15 [(.t 5), (.c (.int .i64 1)), (.c (.int .i64 1000000000000))]⟩,
⟨(some 7), none, .un .not (.t 6)⟩] (some [1, 7]))
(.cond (.t 7)
(.seq (.ops [⟨(some 2), none, .mov (.c (.int .i64 2))⟩] none)
.ret)
.skip))
(.seq (.seq (.ops [⟨(some 3), none, .mov (.c (.int .i64 0))⟩] none)
(.block 0 (.loop (.seq (.seq (.ops [⟨(some 8), none, .mov (.t 3)⟩,
⟨(some 9), none, .ibin .lss .i64 (.t 8) (.c (.int .i64 5))⟩] (some [1, 3, 9]))
(.cond (.t 9)
.skip
(.exit 0)))
(.seq (.block 1 (.seq (.ops [⟨(some 12), none, .mov (.t 3)⟩,
⟨(some 13), none, .faddr 1 (.t 1)⟩,
⟨(some 14), none, .iaddrA 5 1 (.t 13) (.t 12)⟩,
⟨(some 15), none, .load 1 false (.t 14)⟩,
⟨(some 16), none, .call 15 [(.t 15), (.c (.int .i64 (-1000000000000))), (.c (.int .i64 1000000000000))]⟩,
⟨(some 17), none, .un .not (.t 16)⟩] (some [1, 3, 17]))
(.cond (.t 17)
(.seq (.ops [⟨(some 2), none, .mov (.c (.int .i64 2))⟩] none)
.ret)
.skip)))
(.ops [⟨(some 10), none, .mov (.t 3)⟩,
⟨(some 11), none, .ibin .add .i64 (.t 10) (.c (.int .i64 1))⟩,
⟨(some 3), none, .mov (.t 11)⟩] (some [1, 3])))))))
(.seq (.ops [⟨(some 2), none, .mov (.c (.int .i64 0))⟩] none)
.ret))))⟩
/-- guidevane/guidevaneref09.Shares -/
def ir181 : IFn := ⟨24, [.cell 4 6 true],
(.seq (.ops [⟨(some 2), none, .box (.t 0)⟩,
⟨(some 3), none, .box (.t 1)⟩,
⟨(some 4), none, .alloc (List.replicate 6 (.int .i64 0))⟩] (some [2, 3, 4]))
(.seq (.draw (.rd 0 ⟨(some 5), none, .load 6 true (.t 2)⟩
(.rd 1 ⟨(some 6), none, .load 3 true (.t 3)⟩
(.rd 3 ⟨(some 8), none, .faddr 0 (.t 2)⟩
(.rd 4 ⟨(some 9), none, .load 1 false (.t 8)⟩
(.rd 6 ⟨(some 11), none, .load 6 true (.t 2)⟩
(.rd 7 ⟨(some 12), none, .load 3 true (.t 3)⟩
(.rd 9 ⟨(some 14), none, .faddr 0 (.t 2)⟩
(.rd 10 ⟨(some 15), none, .load 1 false (.t 14)⟩
(.rd 12 ⟨(some 17), none, .load 6 true (.t 2)⟩
(.rd 13 ⟨(some 18), none, .load 3 true (.t 3)⟩
(.rd 15 ⟨(some 20), none, .faddr 0 (.t 2)⟩
(.rd 16 ⟨(some 21), none, .load 1 false (.t 20)⟩
(.wr 2 ⟨(some 7), none, .call 191 [(.t 5), (.t 6), (.c (.int .i64 2))]⟩ [0, 1]
(.wr 5 ⟨(some 10), none, .call 190 [(.t 7), (.t 9)]⟩ [2, 4, 2]
(.wr 8 ⟨(some 13), none, .call 191 [(.t 11), (.t 12), (.c (.int .i64 12))]⟩ [6, 7, 5]
(.wr 11 ⟨(some 16), none, .call 190 [(.t 13), (.t 15)]⟩ [8, 10, 8]
(.wr 14 ⟨(some 19), none, .call 191 [(.t 17), (.t 18), (.c (.int .i64 17))]⟩ [12, 13, 11]
(.wr 17 ⟨(some 22), none, .call 190 [(.t 19), (.t 21)]⟩ [14, 16, 14]
(.rd 18 ⟨(some 23), none, .build (List.replicate 6 (.int .i64 0)) [(0, 2, (.t 10)), (2, 2, (.t 16)), (4, 2, (.t 22))]⟩
(.wr 19 ⟨none, none, .store 6 (.t 4) (.t 23)⟩ [18, 17, 0, 1, 2, 3, 4, 5, 6, 7, 8, 9, 10, 11, 12, 13, 14, 15, 16, 17, 18]
.fin .no)) .no) .no) .no) .no) .no) .no))))))))))))) (some [4]))
.ret))⟩
/-- guidevane/guidevaneref09.Residuals -/
def ir182 : IFn := ⟨26, [.t 4],
(.seq (.ops [⟨(some 3), none, .box (.t 1)⟩,
⟨(some 4), none, .mov (.c (.slice none 0 0))⟩] (some [0, 3]))
(.seq (.ops [⟨(some 5), none, .mov (.c (.slice none 0 0))⟩] none)
(.seq (.seq (.ops [⟨(some 6), none, .mov (.c (.int .i64 0))⟩] none)
(.block 0 (.loop (.seq (.seq (.ops [⟨(some 7), none, .mov (.t 6)⟩,
⟨(some 8), none, .mov (.t 0)⟩,
⟨(some 9), none, .lenV (.t 8)⟩,
⟨(some 10), none, .ibin .lss .i64 (.t 7) (.t 9)⟩] (some [0, 3, 5, 6, 10]))
(.cond (.t 10)
.skip
(.exit 0)))
(.seq (.block 1 (.draw (.rd 0 ⟨(some 13), none, .mov (.t 5)⟩
(.rd 1 ⟨(some 14), none, .load 6 true (.t 3)⟩
(.rd 2 ⟨(some 15), none, .mov (.t 0)⟩
(.rd 3 ⟨(some 16), none, .mov (.t 6)⟩
(.rd 4 ⟨(some 17), none, .iaddr 3 (.t 15) (.t 16)⟩
(.rd 5 ⟨(some 18), none, .load 3 true (.t 17)⟩
(.rd 7 ⟨(some 20), none, .faddr 0 (.t 3)⟩
(.rd 8 ⟨(some 21), none, .load 1 false (.t 20)⟩
(.wr 6 ⟨(some 19), none, .call 192 [(.t 14), (.t 18)]⟩ [1, 5]
(.wr 9 ⟨(some 22), none, .call 190 [(.t 19), (.t 21)]⟩ [6, 8, 6]
(.wr 10 ⟨(some 23), none, .bslice 1 2 [(.int .i64 0), (.int .i64 0)] [(0, 2, (.t 22))]⟩ [9]
(.wr 11 ⟨(some 24), none, .append 2 16 (.t 13) (.t 23)⟩ [0, 10, 9]
(.wr 12 ⟨(some 5), none, .mov (.t 24)⟩ [11, 11, 0, 1, 2, 3, 4, 5, 6, 7, 8, 9, 10, 11]
.fin .no) .no) .no) .no) .no))))))))) (some [0, 3, 5, 6])))
(.ops [⟨(some 11), none, .mov (.t 6)⟩,
⟨(some 12), none, .ibin .add .i64 (.t 11) (.c (.int .i64 1))⟩,
⟨(some 6), none, .mov (.t 12)⟩] (some [0, 3, 5, 6])))))))
(.seq (.ops [⟨(some 25), none, .mov (.t 5)⟩,
⟨(some 4), none, .mov (.t 25)⟩] (some [4]))
.ret))))⟩
/-- guidevane/guidevaneref09.Spread -/
def ir183 : IFn := ⟨32, [.t 4],
(.seq (.ops [⟨(some 3), none, .box (.t 1)⟩,
⟨(some 4), none, .mov (.c (.int .i64 0))⟩] (some [0, 3]))
(.seq (.ops [⟨(some 5), none, .mov (.c (.int .i64 0))⟩] none)
(.seq (.ops [⟨(some 8), none, .mov (.t 0)⟩,
⟨(some 9), none, .load 6 true (.t 3)⟩,
⟨(some 10), none, .call 182 [(.t 8), (.t 9)]⟩,
⟨(some 6), none, .mov (.t 10)⟩] (some [5, 6]))
(.seq (.seq (.ops [⟨(some 7), none, .mov (.c (.int .i64 0))⟩] none)
(.block 0 (.loop (.seq (.seq (.ops [⟨(some 11), none, .mov (.t 7)⟩,
⟨(some 12), none, .mov (.t 6)⟩,
⟨(some 13), none, .lenV (.t 12)⟩,
⟨(some 14), none, .ibin .lss .i64 (.t 11) (.t 13)⟩] (some [5, 6, 7, 14]))
(.cond (.t 14)
.skip
(.exit 0)))
(.seq (.block 1 (.draw (.rd 0 ⟨(some 17), none, .mov (.t 5)⟩
(.rd 1 ⟨(some 18), none, .mov (.t 6)⟩
(.rd 2 ⟨(some 19), none, .mov (.t 7)⟩
(.rd 3 ⟨(some 20), none, .iaddr 2 (.t 18) (.t 19)⟩
(.rd 4 ⟨(some 21), none, .faddr 0 (.t 20)⟩
(.rd 5 ⟨(some 22), none, .load 1 false (.t 21)⟩
(.rd 7 ⟨(some 24), none, .mov (.t 6)⟩
(.rd 8 ⟨(some 25), none, .mov (.t 7)⟩
(.rd 9 ⟨(some 26), none, .iaddr 2 (.t 24) (.t 25)⟩
(.rd 10 ⟨(some 27), none, .faddr 1 (.t 26)⟩
(.rd 11 ⟨(some 28), none, .load 1 false (.t 27)⟩
(.wr 6 ⟨(some 23), none, .call 109 [(.t 22)]⟩ [5]
(.wr 12 ⟨(some 29), none, .call 109 [(.t 28)]⟩ [11, 6]
(.rd 13 ⟨(some 30), none, .minmax true (.t 17) [(.t 23), (.t 29)]⟩
(.wr 14 ⟨(some 5), none, .mov (.t 30)⟩ [13, 12, 0, 1, 2, 3, 4, 5, 6, 7, 8, 9, 10, 11, 12, 13]
.fin .no)) .no) .no)))))))))))) (some [5, 6, 7])))
(.ops [⟨(some 15), none, .mov (.t 7)⟩,
⟨(some 16), none, .ibin .add .i64 (.t 15) (.c (.int .i64 1))⟩,
⟨(some 7), none, .mov (.t 16)⟩] (some [5, 6, 7])))))))
(.seq (.ops [⟨(some 31), none, .mov (.t 5)⟩,
⟨(some 4), none, .mov (.t 31)⟩] (some [4]))
.ret)))))⟩
/-- guidevane/guidevaneref09.Forecast -/
def ir184 : IFn := ⟨27, [.cell 6 2 true],
(.seq (.ops [⟨(some 4), none, .box (.t 1)⟩,
⟨(some 5), none, .box (.t 2)⟩,
⟨(some 6), none, .alloc [(.int .i64 0), (.int .i64 0)]⟩] (some [0, 4, 5, 6]))
(.seq (.draw (.rd 0 ⟨(some 9), none, .load 6 true (.t 4)⟩
(.rd 1 ⟨(some 10), none, .load 3 true (.t 5)⟩
(.rd 3 ⟨(some 12), none, .faddr 0 (.t 4)⟩
(.rd 4 ⟨(some 13), none, .load 1 false (.t 12)⟩
(.rd 6 ⟨(some 15), none, .mov (.t 0)⟩
(.rd 7 ⟨(some 16), none, .load 6 true (.t 4)⟩
(.wr 2 ⟨(some 11), none, .call 191 [(.t 9), (.t 10), (.c (.int .i64 31))]⟩ [0, 1]
(.wr 5 ⟨(some 14), none, .call 190 [(.t 11), (.t 13)]⟩ [2, 4, 2]
(.wr 8 ⟨(some 17), none, .call 183 [(.t 15), (.t 16)]⟩ [6, 7, 5]
(.wr 9 ⟨(some 7), none, .alloc [(.int .i64 0), (.int .i64 0)]⟩ []
(.wr 10 ⟨none, none, .store 2 (.t 7) (.t 14)⟩ [9, 5, 8, 0, 1, 2, 3, 4, 5, 9]
(.rd 11 ⟨(some 8), none, .mov (.t 17)⟩
.fin) .no) .no)
(.wr 9 ⟨(some 7), none, .alloc [(.int .i64 0), (.int .i64 0)]⟩ []
(.wr 8 ⟨(some 17), none, .call 183 [(.t 15), (.t 16)]⟩ [6, 7, 5]
(.wr 10 ⟨none, none, .store 2 (.t 7) (.t 14)⟩ [9, 5, 8, 0, 1, 2, 3, 4, 5, 9]
(.rd 11 ⟨(some 8), none, .mov (.t 17)⟩
.fin) .no) .no) .no))
(.wr 9 ⟨(some 7), none, .alloc [(.int .i64 0), (.int .i64 0)]⟩ []
(.wr 5 ⟨(some 14), none, .call 190 [(.t 11), (.t 13)]⟩ [2, 4, 2]
(.wr 8 ⟨(some 17), none, .call 183 [(.t 15), (.t 16)]⟩ [6, 7, 5]
(.wr 10 ⟨none, none, .store 2 (.t 7) (.t 14)⟩ [9, 5, 8, 0, 1, 2, 3, 4, 5, 9]
(.rd 11 ⟨(some 8), none, .mov (.t 17)⟩
.fin) .no) .no) .no) .no))
(.wr 9 ⟨(some 7), none, .alloc [(.int .i64 0), (.int .i64 0)]⟩ []
(.wr 2 ⟨(some 11), none, .call 191 [(.t 9), (.t 10), (.c (.int .i64 31))]⟩ [0, 1]
(.wr 5 ⟨(some 14), none, .call 190 [(.t 11), (.t 13)]⟩ [2, 4, 2]
(.wr 8 ⟨(some 17), none, .call 183 [(.t 15), (.t 16)]⟩ [6, 7, 5]
(.wr 10 ⟨none, none, .store 2 (.t 7) (.t 14)⟩ [9, 5, 8, 0, 1, 2, 3, 4, 5, 9]
(.rd 11 ⟨(some 8), none, .mov (.t 17)⟩
.fin) .no) .no) .no) .no) .no)))))))) (some [6, 7, 8]))
(.seq (.ops [⟨(some 18), none, .faddr 0 (.t 7)⟩,
⟨(some 19), none, .load 1 false (.t 18)⟩,
⟨(some 20), none, .mov (.t 8)⟩,
⟨(some 21), none, .ibin .sub .i64 (.t 19) (.t 20)⟩,
⟨(some 22), none, .faddr 1 (.t 7)⟩,
⟨(some 23), none, .load 1 false (.t 22)⟩,
⟨(some 24), none, .mov (.t 8)⟩,
⟨(some 25), none, .ibin .add .i64 (.t 23) (.t 24)⟩,
⟨(some 26), none, .build [(.int .i64 0), (.int .i64 0)] [(0, 1, (.t 21)), (1, 1, (.t 25))]⟩,
⟨none, none, .store 2 (.t 6) (.t 26)⟩] (some [6]))
.ret)))⟩
/-- guidevane/dam.Lowered$1 -/
def ir185 : IFn := ⟨9, [.t 3],
(.seq (.ops [⟨(some 2), none, .box (.t 0)⟩,
⟨(some 3), none, .mov (.c (.bool false))⟩] (some [1, 2]))
(.seq (.ops [⟨(some 4), none, .faddr 0 (.t 2)⟩,
⟨(some 5), none, .load 1 false (.t 4)⟩,
⟨(some 6), none, .faddr 0 (.t 1)⟩,
⟨(some 7), none, .load 1 false (.t 6)⟩,
⟨(some 8), none, .sbin .eql (.t 5) (.t 7)⟩,
⟨(some 3), none, .mov (.t 8)⟩] (some [3]))
.ret))⟩
/-- guidevane/dam.gaugesErr -/
def ir186 : IFn := ⟨90, [.t 2],
(.seq (.ops [⟨(some 2), none, .mov (.c (.int .i64 0))⟩] (some [0]))
(.seq (.seq (.ops [⟨(some 10), none, .mov (.t 0)⟩,
⟨(some 11), none, .lenV (.t 10)⟩,
⟨(some 12), none, .ibin .gtr .i64 (.t 11) (.c (.int .i64 0))⟩,
⟨(some 13), none, .call 64 [(.t 12), (.c (.int .i64 10))]⟩,
⟨(some 14), none, .mov (.t 0)⟩,
⟨(some 15), none, .lenV (.t 14)⟩,
⟨(some 16), none, .ibin .leq .i64 (.t 15) (.c (.int .i64 12))⟩,
⟨(some 17), none, .call 64 [(.t 16), (.c (.int .i64 8))]⟩,
⟨(some 18), none, .bslice 2 1 [(.int .i64 0)] [(0, 1, (.t 13)), (1, 1, (.t 17))]⟩,
⟨(some 19), none, .call 63 [(.t 18)]⟩,
⟨(some 3), none, .mov (.t 19)⟩] (some [0, 3]))
(.seq (.ops [⟨(some 20), none, .mov (.t 3)⟩,
⟨(some 21), none, .ibin .neq .i64 (.t 20) (.c (.int .i64 0))⟩] (some [0, 3, 21]))
(.cond (.t 21)
(.seq (.ops [⟨(some 22), none, .mov (.t 3)⟩,
⟨(some 2), none, .mov (.t 22)⟩] (some [2]))
.ret)
.skip)))
(.seq (.seq (.ops [⟨(some 23), none, .mov (.t 0)⟩,
⟨(some 24), none, .lenV (.t 23)⟩,
⟨(some 25), none, .mov (.c (.int .i64 0))⟩] none)
(.block 0 (.loop (.seq (.ops [⟨(some 26), none, .ibin .lss .i64 (.t 25) (.t 24)⟩] none)
(.seq (.cond (.t 26)
.skip
(.exit 0))
(.seq (.block 1 (.seq (.ops [⟨(some 27), none, .mov (.t 25)⟩,
⟨(some 28), none, .iaddr 5 (.t 23) (.t 25)⟩,
⟨(some 29), none, .load 5 true (.t 28)⟩,
⟨(some 5), none, .alloc [(.string ⟨#[]⟩), (.int .i64 0), (.int .i64 0), (.int .i64 0), (.int .i64 0)]⟩,
⟨(some 4), none, .mov (.t 27)⟩,
⟨none, none, .store 5 (.t 5) (.t 29)⟩] (some [0, 4, 5, 23, 24, 25]))
(.seq (.ops [⟨(some 30), none, .mov (.t 0)⟩,
⟨(some 31), none, .mov (.t 4)⟩,
⟨(some 32), none, .sliceV 5 (.t 30) none (some (.t 31)) none⟩,
⟨(some 33), none, .mkfunc 194 [] [(.t 5)]⟩,
⟨(some 34), none, .call 193 [(.t 32), (.t 33)]⟩,
⟨(some 6), none, .mov (.t 34)⟩] (some [0, 5, 6, 23, 24, 25]))
(.seq (.ops [⟨(some 35), none, .faddr 1 (.t 5)⟩,
⟨(some 36), none, .faddr 0 (.t 35)⟩,
⟨(some 37), none, .load 1 false (.t 36)⟩,
⟨(some 38), none, .call 84 [(.t 37)]⟩,
⟨(some 39), none, .mov (.t 38)⟩,
⟨(some 40), (some (39, true)), .faddr 1 (.t 5)⟩,
⟨(some 41), (some (39, true)), .faddr 1 (.t 40)⟩,
⟨(some 42), (some (39, true)), .load 1 false (.t 41)⟩,
⟨(some 43), (some (39, true)), .call 84 [(.t 42)]⟩,
⟨(some 44), none, .pick (.t 39) (.t 43) (.c (.bool false))⟩,
⟨(some 45), none, .mov (.t 44)⟩,
⟨(some 46), (some (45, true)), .faddr 3 (.t 5)⟩,
⟨(some 47), (some (45, true)), .faddr 0 (.t 46)⟩,
⟨(some 48), (some (45, true)), .load 1 false (.t 47)⟩,
⟨(some 49), (some (45, true)), .call 84 [(.t 48)]⟩,
⟨(some 50), none, .pick (.t 45) (.t 49) (.c (.bool false))⟩,
⟨(some 51), none, .mov (.t 50)⟩,
⟨(some 52), (some (51, true)), .faddr 3 (.t 5)⟩,
⟨(some 53), (some (51, true)), .faddr 1 (.t 52)⟩,
⟨(some 54), (some (51, true)), .load 1 false (.t 53)⟩,
⟨(some 55), (some (51, true)), .call 84 [(.t 54)]⟩,
⟨(some 56), none, .pick (.t 51) (.t 55) (.c (.bool false))⟩,
⟨(some 7), none, .mov (.t 56)⟩] (some [0, 5, 6, 7, 23, 24, 25]))
(.seq (.ops [⟨(some 57), none, .faddr 1 (.t 5)⟩,
⟨(some 58), none, .faddr 0 (.t 57)⟩,
⟨(some 59), none, .load 1 false (.t 58)⟩,
⟨(some 60), none, .faddr 1 (.t 5)⟩,
⟨(some 61), none, .faddr 1 (.t 60)⟩,
⟨(some 62), none, .load 1 false (.t 61)⟩,
⟨(some 63), none, .ibin .leq .i64 (.t 59) (.t 62)⟩,
⟨(some 64), none, .mov (.t 63)⟩,
⟨(some 65), (some (64, true)), .faddr 3 (.t 5)⟩,
⟨(some 66), (some (64, true)), .faddr 0 (.t 65)⟩,
⟨(some 67), (some (64, true)), .load 1 false (.t 66)⟩,
⟨(some 68), (some (64, true)), .faddr 3 (.t 5)⟩,
⟨(some 69), (some (64, true)), .faddr 1 (.t 68)⟩,
⟨(some 70), (some (64, true)), .load 1 false (.t 69)⟩,
⟨(some 71), (some (64, true)), .ibin .leq .i64 (.t 67) (.t 70)⟩,
⟨(some 72), none, .pick (.t 64) (.t 71) (.c (.bool false))⟩,
⟨(some 8), none, .mov (.t 72)⟩] (some [0, 5, 6, 7, 8, 23, 24, 25]))
(.seq (.ops [⟨(some 73), none, .faddr 0 (.t 5)⟩,
⟨(some 74), none, .load 1 false (.t 73)⟩,
⟨(some 75), none, .call 88 [(.t 74)]⟩,
⟨(some 76), none, .call 64 [(.t 75), (.c (.int .i64 4))]⟩,
⟨(some 77), none, .mov (.t 6)⟩,
⟨(some 78), none, .un .not (.t 77)⟩,
⟨(some 79), none, .call 64 [(.t 78), (.c (.int .i64 5))]⟩,
⟨(some 80), none, .mov (.t 7)⟩,
⟨(some 81), none, .call 64 [(.t 80), (.c (.int .i64 2))]⟩,
⟨(some 82), none, .mov (.t 8)⟩,
⟨(some 83), none, .call 64 [(.t 82), (.c (.int .i64 9))]⟩,
⟨(some 84), none, .bslice 4 1 [(.int .i64 0)] [(0, 1, (.t 76)), (1, 1, (.t 79)), (2, 1, (.t 81)), (3, 1, (.t 83))]⟩,
⟨(some 85), none, .call 63 [(.t 84)]⟩,
⟨(some 9), none, .mov (.t 85)⟩] (some [0, 9, 23, 24, 25]))
(.seq (.ops [⟨(some 86), none, .mov (.t 9)⟩,
⟨(some 87), none, .ibin .neq .i64 (.t 86) (.c (.int .i64 0))⟩] (some [0, 9, 23, 24, 25, 87]))
(.cond (.t 87)
(.seq (.ops [⟨(some 88), none, .mov (.t 9)⟩,
⟨(some 2), none, .mov (.t 88)⟩] (some [2]))
.ret)
.skip))))))))
(.ops [⟨(some 89), none, .ibin .add .i64 (.t 25) (.c (.int .i64 1))⟩,
⟨(some 25), none, .mov (.t 89)⟩] (some [0, 23, 24, 25]))))))))
(.seq (.ops [⟨(some 2), none, .mov (.c (.int .i64 0))⟩] none)
.ret))))⟩
/-- guidevane/dam.agreed -/
def ir187 : IFn := ⟨42, [.cell 2 2 true, .t 3],
(.seq (.ops [⟨(some 2), none, .alloc [(.int .i64 0), (.int .i64 0)]⟩,
⟨(some 3), none, .mov (.c (.bool false))⟩] (some [0, 2]))
(.seq (.ops [⟨(some 7), none, .build [(.int .i64 0), (.int .i64 0)] [(0, 1, (.c (.int .i64 (-2000000)))), (1, 1, (.c (.int .i64 2000000)))]⟩,
⟨(some 4), none, .alloc [(.int .i64 0), (.int .i64 0)]⟩,
⟨none, none, .store 2 (.t 4) (.t 7)⟩] (some [0, 2, 4]))
(.seq (.seq (.ops [⟨(some 8), none, .mov (.t 0)⟩,
⟨(some 9), none, .lenV (.t 8)⟩,
⟨(some 10), none, .mov (.c (.int .i64 0))⟩] (some [2, 4, 8, 9, 10]))
(.block 0 (.loop (.seq (.ops [⟨(some 11), none, .ibin .lss .i64 (.t 10) (.t 9)⟩] none)
(.seq (.cond (.t 11)
.skip
(.exit 0))
(.seq (.block 1 (.seq (.ops [⟨(some 12), none, .iaddr 5 (.t 8) (.t 10)⟩,
⟨(some 13), none, .load 5 true (.t 12)⟩,
⟨(some 6), none, .alloc [(.string ⟨#[]⟩), (.int .i64 0), (.int .i64 0), (.int .i64 0), (.int .i64 0)]⟩,
⟨none, none, .store 5 (.t 6) (.t 13)⟩] (some [2, 4, 6, 8, 9, 10]))
(.ops [⟨(some 14), none, .faddr 0 (.t 4)⟩,
⟨(some 15), none, .load 1 false (.t 14)⟩,
⟨(some 16), none, .faddr 1 (.t 6)⟩,
⟨(some 17), none, .faddr 0 (.t 16)⟩,
⟨(some 18), none, .load 1 false (.t 17)⟩,
⟨(some 19), none, .faddr 3 (.t 6)⟩,
⟨(some 20), none, .faddr 1 (.t 19)⟩,
⟨(some 21), none, .load 1 false (.t 20)⟩,
⟨(some 22), none, .ibin .sub .i64 (.t 18) (.t 21)⟩,
⟨(some 23), none, .minmax true (.t 15) [(.t 22)]⟩,
⟨(some 24), none, .faddr 1 (.t 4)⟩,
⟨(some 25), none, .load 1 false (.t 24)⟩,
⟨(some 26), none, .faddr 1 (.t 6)⟩,
⟨(some 27), none, .faddr 1 (.t 26)⟩,
⟨(some 28), none, .load 1 false (.t 27)⟩,
⟨(some 29), none, .faddr 3 (.t 6)⟩,
⟨(some 30), none, .faddr 0 (.t 29)⟩,
⟨(some 31), none, .load 1 false (.t 30)⟩,
⟨(some 32), none, .ibin .sub .i64 (.t 28) (.t 31)⟩,
⟨(some 33), none, .minmax false (.t 25) [(.t 32)]⟩,
⟨(some 34), none, .build [(.int .i64 0), (.int .i64 0)] [(0, 1, (.t 23)), (1, 1, (.t 33))]⟩,
⟨none, none, .store 2 (.t 4) (.t 34)⟩] (some [2, 4, 8, 9, 10]))))
(.ops [⟨(some 35), none, .ibin .add .i64 (.t 10) (.c (.int .i64 1))⟩,
⟨(some 10), none, .mov (.t 35)⟩] (some [2, 4, 8, 9, 10]))))))))
(.seq (.draw (.rd 0 ⟨(some 36), none, .load 2 true (.t 4)⟩
(.rd 1 ⟨(some 37), none, .faddr 0 (.t 4)⟩
(.rd 2 ⟨(some 38), none, .load 1 false (.t 37)⟩
(.rd 3 ⟨(some 39), none, .faddr 1 (.t 4)⟩
(.rd 4 ⟨(some 40), none, .load 1 false (.t 39)⟩
(.rd 5 ⟨(some 41), none, .ibin .leq .i64 (.t 38) (.t 40)⟩
(.wr 6 ⟨none, none, .store 2 (.t 2) (.t 36)⟩ [0, 0]
(.rd 7 ⟨(some 3), none, .mov (.t 41)⟩
.fin) .no))))))) (some [2, 3]))
.ret))))⟩
/-- guidevane/guidevaneref09.isValue -/
def ir188 : IFn := ⟨5, [.t 2],
(.seq (.ops [⟨(some 2), none, .mov (.c (.bool false))⟩] (some [0]))
(.seq (.ops [⟨(some 3), none, .mov (.t 0)⟩,
⟨(some 4), none, .call 15 [(.t 3), (.c (.int .i64 (-1000000))), (.c (.int .i64 1000000))]⟩,
⟨(some 2), none, .mov (.t 4)⟩] (some [2]))
.ret))⟩
/-- guidevane/guidevaneref09.True -/
def ir189 : IFn := ⟨18, [.cell 2 2 true],
(.seq (.ops [⟨(some 1), none, .box (.t 0)⟩,
⟨(some 2), none, .alloc [(.int .i64 0), (.int .i64 0)]⟩] (some [1, 2]))
(.seq (.ops [⟨(some 3), none, .faddr 1 (.t 1)⟩,
⟨(some 4), none, .faddr 0 (.t 3)⟩,
⟨(some 5), none, .load 1 false (.t 4)⟩,
⟨(some 6), none, .faddr 3 (.t 1)⟩,
⟨(some 7), none, .faddr 1 (.t 6)⟩,
⟨(some 8), none, .load 1 false (.t 7)⟩,
⟨(some 9), none, .ibin .sub .i64 (.t 5) (.t 8)⟩,
⟨(some 10), none, .faddr 1 (.t 1)⟩,
⟨(some 11), none, .faddr 1 (.t 10)⟩,
⟨(some 12), none, .load 1 false (.t 11)⟩,
⟨(some 13), none, .faddr 3 (.t 1)⟩,
⟨(some 14), none, .faddr 0 (.t 13)⟩,
⟨(some 15), none, .load 1 false (.t 14)⟩,
⟨(some 16), none, .ibin .sub .i64 (.t 12) (.t 15)⟩,
⟨(some 17), none, .build [(.int .i64 0), (.int .i64 0)] [(0, 1, (.t 9)), (1, 1, (.t 16))]⟩,
⟨none, none, .store 2 (.t 2) (.t 17)⟩] (some [2]))
.ret))⟩
/-- guidevane/guidevaneref09.over -/
def ir190 : IFn := ⟨12, [.cell 4 2 true],
(.seq (.ops [⟨(some 4), none, .alloc [(.int .i64 0), (.int .i64 0)]⟩] none)
(.seq (.ops [⟨(some 5), none, .mov (.t 0)⟩,
⟨(some 6), none, .mov (.t 1)⟩,
⟨(some 7), none, .call 66 [(.t 5), (.t 6)]⟩,
⟨(some 8), none, .mov (.t 0)⟩,
⟨(some 9), none, .mov (.t 1)⟩,
⟨(some 10), none, .call 17 [(.t 8), (.t 9)]⟩,
⟨(some 11), none, .build [(.int .i64 0), (.int .i64 0)] [(0, 1, (.t 7)), (1, 1, (.t 10))]⟩,
⟨none, none, .store 2 (.t 4) (.t 11)⟩] (some [4]))
.ret))⟩
/-- guidevane/guidevaneref09.given -/
def ir191 : IFn := ⟨32, [.t 6],
(.seq (.ops [⟨(some 3), none, .box (.t 0)⟩,
⟨(some 4), none, .box (.t 1)⟩,
⟨(some 6), none, .mov (.c (.int .i64 0))⟩] (some [2, 3, 4]))
(.seq (.ops [⟨(some 10), none, .load 3 true (.t 4)⟩,
⟨(some 11), none, .call 34 [(.t 10)]⟩,
⟨(some 7), none, .alloc (List.replicate 5 (.int .i64 0))⟩,
⟨none, none, .store 5 (.t 7) (.t 11)⟩] (some [2, 3, 7]))
(.seq (.ops [⟨(some 8), none, .mov (.c (.int .i64 0))⟩] none)
(.seq (.seq (.ops [⟨(some 9), none, .mov (.c (.int .i64 0))⟩] none)
(.block 0 (.loop (.seq (.seq (.ops [⟨(some 12), none, .mov (.t 9)⟩,
⟨(some 13), none, .ibin .lss .i64 (.t 12) (.c (.int .i64 5))⟩] (some [2, 3, 7, 8, 9, 13]))
(.cond (.t 13)
.skip
(.exit 0)))
(.seq (.block 1 (.seq (.ops [⟨(some 16), none, .mov (.t 2)⟩,
⟨(some 17), none, .mov (.t 9)⟩,
⟨(some 18), none, .shift .shr .i64 (.t 16) (.t 17)⟩,
⟨(some 19), none, .ibin .and .i64 (.t 18) (.c (.int .i64 1))⟩,
⟨(some 20), none, .ibin .eql .i64 (.t 19) (.c (.int .i64 1))⟩] (some [2, 3, 7, 8, 9, 20]))
(.cond (.t 20)
(.draw (.rd 0 ⟨(some 21), none, .mov (.t 8)⟩
(.rd 1 ⟨(some 22), none, .mov (.t 9)⟩
(.rd 2 ⟨(some 23), none, .faddr 1 (.t 3)⟩
(.rd 3 ⟨(some 24), none, .iaddrA 5 1 (.t 23) (.t 22)⟩
(.rd 4 ⟨(some 25), none, .load 1 false (.t 24)⟩
(.rd 5 ⟨(some 26), none, .mov (.t 9)⟩
(.rd 6 ⟨(some 27), none, .iaddrA 5 1 (.t 7) (.t 26)⟩
(.rd 7 ⟨(some 28), none, .load 1 false (.t 27)⟩
(.rd 8 ⟨(some 29), none, .ibin .mul .i64 (.t 25) (.t 28)⟩
(.rd 9 ⟨(some 30), none, .ibin .add .i64 (.t 21) (.t 29)⟩
(.wr 10 ⟨(some 8), none, .mov (.t 30)⟩ [9, 0, 1, 2, 3, 4, 5, 6, 7, 8, 9]
.fin .no))))))))))) (some [2, 3, 7, 8, 9]))
.skip)))
(.ops [⟨(some 14), none, .mov (.t 9)⟩,
⟨(some 15), none, .ibin .add .i64 (.t 14) (.c (.int .i64 1))⟩,
⟨(some 9), none, .mov (.t 15)⟩] (some [2, 3, 7, 8, 9])))))))
(.seq (.ops [⟨(some 31), none, .mov (.t 8)⟩,
⟨(some 6), none, .mov (.t 31)⟩] (some [6]))
.ret)))))⟩
/-- guidevane/guidevaneref09.rest -/
def ir192 : IFn := ⟨30, [.t 4],
(.seq (.ops [⟨(some 2), none, .box (.t 0)⟩,
⟨(some 3), none, .box (.t 1)⟩,
⟨(some 4), none, .mov (.c (.int .i64 0))⟩] (some [2, 3]))
(.seq (.ops [⟨(some 8), none, .load 3 true (.t 3)⟩,
⟨(some 9), none, .call 34 [(.t 8)]⟩,
⟨(some 5), none, .alloc (List.replicate 5 (.int .i64 0))⟩,
⟨none, none, .store 5 (.t 5) (.t 9)⟩] (some [2, 3, 5]))
(.seq (.ops [⟨(some 10), none, .faddr 0 (.t 2)⟩,
⟨(some 11), none, .load 1 false (.t 10)⟩,
⟨(some 12), none, .faddr 2 (.t 3)⟩,
⟨(some 13), none, .load 1 false (.t 12)⟩,
⟨(some 14), none, .ibin .mul .i64 (.t 11) (.t 13)⟩,
⟨(some 6), none, .mov (.t 14)⟩] (some [2, 5, 6]))
(.seq (.seq (.ops [⟨(some 7), none, .mov (.c (.int .i64 0))⟩] none)
(.block 0 (.loop (.seq (.seq (.ops [⟨(some 15), none, .mov (.t 7)⟩,
⟨(some 16), none, .ibin .lss .i64 (.t 15) (.c (.int .i64 5))⟩] (some [2, 5, 6, 7, 16]))
(.cond (.t 16)
.skip
(.exit 0)))
(.seq (.block 1 (.draw (.rd 0 ⟨(some 19), none, .mov (.t 6)⟩
(.rd 1 ⟨(some 20), none, .mov (.t 7)⟩
(.rd 2 ⟨(some 21), none, .faddr 1 (.t 2)⟩
(.rd 3 ⟨(some 22), none, .iaddrA 5 1 (.t 21) (.t 20)⟩
(.rd 4 ⟨(some 23), none, .load 1 false (.t 22)⟩
(.rd 5 ⟨(some 24), none, .mov (.t 7)⟩
(.rd 6 ⟨(some 25), none, .iaddrA 5 1 (.t 5) (.t 24)⟩
(.rd 7 ⟨(some 26), none, .load 1 false (.t 25)⟩
(.rd 8 ⟨(some 27), none, .ibin .mul .i64 (.t 23) (.t 26)⟩
(.rd 9 ⟨(some 28), none, .ibin .sub .i64 (.t 19) (.t 27)⟩
(.wr 10 ⟨(some 6), none, .mov (.t 28)⟩ [9, 0, 1, 2, 3, 4, 5, 6, 7, 8, 9]
.fin .no))))))))))) (some [2, 5, 6, 7])))
(.ops [⟨(some 17), none, .mov (.t 7)⟩,
⟨(some 18), none, .ibin .add .i64 (.t 17) (.c (.int .i64 1))⟩,
⟨(some 7), none, .mov (.t 18)⟩] (some [2, 5, 6, 7])))))))
(.seq (.ops [⟨(some 29), none, .mov (.t 6)⟩,
⟨(some 4), none, .mov (.t 29)⟩] (some [4]))
.ret)))))⟩
/-- slices.ContainsFunc[[]guidevane/api.DamGauge,guidevane/api.DamGauge] -/
def ir193 : IFn := ⟨9, [.t 4],
(.seq (.ops [⟨(some 4), none, .mov (.c (.bool false))⟩] (some [0, 1]))
(.seq (.ops [⟨(some 5), none, .mov (.t 0)⟩,
⟨(some 6), none, .mov (.t 1)⟩,
⟨(some 7), none, .call 195 [(.t 5), (.t 6)]⟩,
⟨(some 8), none, .ibin .geq .i64 (.t 7) (.c (.int .i64 0))⟩,
⟨(some 4), none, .mov (.t 8)⟩] (some [4]))
.ret))⟩
/-- guidevane/dam.gaugesErr$1 -/
def ir194 : IFn := ⟨9, [.t 3],
(.seq (.ops [⟨(some 2), none, .box (.t 0)⟩,
⟨(some 3), none, .mov (.c (.bool false))⟩] (some [1, 2]))
(.seq (.ops [⟨(some 4), none, .faddr 0 (.t 2)⟩,
⟨(some 5), none, .load 1 false (.t 4)⟩,
⟨(some 6), none, .faddr 0 (.t 1)⟩,
⟨(some 7), none, .load 1 false (.t 6)⟩,
⟨(some 8), none, .sbin .eql (.t 5) (.t 7)⟩,
⟨(some 3), none, .mov (.t 8)⟩] (some [3]))
.ret))⟩
/-- slices.IndexFunc[[]guidevane/api.DamGauge,guidevane/api.DamGauge] -/
def ir195 : IFn := ⟨19, [.t 4],
(.seq (.ops [⟨(some 4), none, .mov (.c (.int .i64 0))⟩] (some [0, 1]))
(.seq (.seq (.ops [⟨(some 6), none, .mov (.t 0)⟩,
⟨(some 7), none, .lenV (.t 6)⟩,
⟨(some 8), none, .mov (.c (.int .i64 0))⟩] (some [0, 1, 7, 8]))
(.block 0 (.loop (.seq (.ops [⟨(some 9), none, .ibin .lss .i64 (.t 8) (.t 7)⟩] none)
(.seq (.cond (.t 9)
.skip
(.exit 0))
(.seq (.block 1 (.seq (.ops [⟨(some 10), none, .mov (.t 8)⟩,
⟨(some 5), none, .mov (.t 10)⟩] (some [0, 1, 5, 7, 8]))
(.seq (.ops [⟨(some 11), none, .mov (.t 1)⟩,
⟨(some 12), none, .mov (.t 0)⟩,
⟨(some 13), none, .mov (.t 5)⟩,
⟨(some 14), none, .iaddr 5 (.t 12) (.t 13)⟩,
⟨(some 15), none, .load 5 true (.t 14)⟩,
⟨(some 16), none, .callv (.t 11) [(.t 15)]⟩] (some [0, 1, 5, 7, 8, 16]))
(.cond (.t 16)
(.seq (.ops [⟨(some 17), none, .mov (.t 5)⟩,
⟨(some 4), none, .mov (.t 17)⟩] (some [4]))
.ret)
.skip))))
(.ops [⟨(some 18), none, .ibin .add .i64 (.t 8) (.c (.int .i64 1))⟩,
⟨(some 8), none, .mov (.t 18)⟩] (some [0, 1, 7, 8]))))))))
(.seq (.ops [⟨(some 4), none, .mov (.c (.int .i64 (-1)))⟩] none)
.ret)))⟩

end Go.Proofs.YtfdapegcngmknaaGreat.AM
