/- The functions in the small language. Conditions: none. -/
import Derived.Test.YtmbekcealcjabaaGreatAmFn
namespace Go.Proofs.YtmbekcealcjabaaGreat.AM
set_option linter.unusedSimpArgs false
set_option linter.unusedVariables false
open Go Go.RowKit

/-- guidevane/guidevanebase.Within -/
def ir15 : IFn := ⟨15, [.t 6],
(.seq (.ops [⟨(some 6), none, .mov (.c (.bool false))⟩] (some [0, 1, 2]))
(.seq (.ops [⟨(some 7), none, .mov (.t 1)⟩,
⟨(some 8), none, .mov (.t 0)⟩,
⟨(some 9), none, .ibin .leq .i64 (.t 7) (.t 8)⟩,
⟨(some 10), none, .mov (.t 9)⟩,
⟨(some 11), (some (10, true)), .mov (.t 0)⟩,
⟨(some 12), (some (10, true)), .mov (.t 2)⟩,
⟨(some 13), (some (10, true)), .ibin .leq .i64 (.t 11) (.t 12)⟩,
⟨(some 14), none, .pick (.t 10) (.t 13) (.c (.bool false))⟩,
⟨(some 6), none, .mov (.t 14)⟩] (some [6]))
.ret))⟩
/-- guidevane/guidevanebase.Ints -/
def ir26 : IFn := ⟨26, [.t 4],
(.seq (.ops [⟨(some 4), none, .mov (.c (.bool false))⟩] (some [0, 1]))
(.seq (.seq (.ops [⟨(some 6), none, .mov (.t 0)⟩,
⟨(some 7), none, .lenV (.t 6)⟩,
⟨(some 8), none, .mov (.t 1)⟩,
⟨(some 9), none, .lenV (.t 8)⟩,
⟨(some 10), none, .ibin .neq .i64 (.t 7) (.t 9)⟩] (some [0, 1, 10]))
(.cond (.t 10)
(.seq (.ops [⟨(some 4), none, .mov (.c (.bool false))⟩] none)
.ret)
.skip))
(.seq (.seq (.ops [⟨(some 5), none, .mov (.c (.int .i64 0))⟩] none)
(.block 0 (.loop (.seq (.seq (.ops [⟨(some 11), none, .mov (.t 5)⟩,
⟨(some 12), none, .mov (.t 0)⟩,
⟨(some 13), none, .lenV (.t 12)⟩,
⟨(some 14), none, .ibin .lss .i64 (.t 11) (.t 13)⟩] (some [0, 1, 5, 14]))
(.cond (.t 14)
.skip
(.exit 0)))
(.seq (.block 1 (.seq (.draw (.rd 0 ⟨(some 17), none, .mov (.t 0)⟩
(.rd 1 ⟨(some 18), none, .mov (.t 5)⟩
(.rd 2 ⟨(some 19), none, .iaddr 1 (.t 17) (.t 18)⟩
(.rd 3 ⟨(some 20), none, .load 1 false (.t 19)⟩
(.rd 4 ⟨(some 21), none, .mov (.t 1)⟩
(.rd 5 ⟨(some 22), none, .mov (.t 5)⟩
(.rd 6 ⟨(some 23), none, .iaddr 1 (.t 21) (.t 22)⟩
(.rd 7 ⟨(some 24), none, .load 1 false (.t 23)⟩
(.rd 8 ⟨(some 25), none, .ibin .neq .i64 (.t 20) (.t 24)⟩
.fin))))))))) (some [0, 1, 5, 25]))
(.cond (.t 25)
(.seq (.ops [⟨(some 4), none, .mov (.c (.bool false))⟩] none)
.ret)
.skip)))
(.ops [⟨(some 15), none, .mov (.t 5)⟩,
⟨(some 16), none, .ibin .add .i64 (.t 15) (.c (.int .i64 1))⟩,
⟨(some 5), none, .mov (.t 16)⟩] (some [0, 1, 5])))))))
(.seq (.ops [⟨(some 4), none, .mov (.c (.bool true))⟩] none)
.ret))))⟩
/-- guidevane/guidevanebase.CopyInts -/
def ir38 : IFn := ⟨6, [.t 2],
(.seq (.ops [⟨(some 2), none, .mov (.c (.slice none 0 0))⟩] (some [0]))
(.seq (.ops [⟨(some 3), none, .bslice 0 1 [(.int .i64 0)] []⟩,
⟨(some 4), none, .mov (.t 0)⟩,
⟨(some 5), none, .append 1 8 (.t 3) (.t 4)⟩,
⟨(some 2), none, .mov (.t 5)⟩] (some [2]))
.ret))⟩
/-- slices.IndexFunc[[]int,int] -/
def ir70 : IFn := ⟨19, [.t 4],
(.seq (.ops [⟨(some 4), none, .mov (.c (.int .i64 0))⟩] (some [0, 1]))
(.seq (.seq (.ops [⟨(some 6), none, .mov (.t 0)⟩,
⟨(some 7), none, .lenV (.t 6)⟩,
⟨(some 8), none, .mov (.c (.int .i64 0))⟩] (some [0, 1, 7, 8]))
(.block 0 (.loop (.seq (.ops [⟨(some 9), none, .ibin .lss .i64 (.t 8) (.t 7)⟩] none)
(.seq (.cond (.t 9)
.skip
(.exit 0))
(.seq (.block 1 (.seq (.ops [⟨(some 10), none, .mov (.t 8)⟩,
⟨(some 5), none, .mov (.t 10)⟩] (some [0, 1, 5, 7, 8]))
(.seq (.ops [⟨(some 11), none, .mov (.t 1)⟩,
⟨(some 12), none, .mov (.t 0)⟩,
⟨(some 13), none, .mov (.t 5)⟩,
⟨(some 14), none, .iaddr 1 (.t 12) (.t 13)⟩,
⟨(some 15), none, .load 1 false (.t 14)⟩,
⟨(some 16), none, .callv (.t 11) [(.t 15)]⟩] (some [0, 1, 5, 7, 8, 16]))
(.cond (.t 16)
(.seq (.ops [⟨(some 17), none, .mov (.t 5)⟩,
⟨(some 4), none, .mov (.t 17)⟩] (some [4]))
.ret)
.skip))))
(.ops [⟨(some 18), none, .ibin .add .i64 (.t 8) (.c (.int .i64 1))⟩,
⟨(some 8), none, .mov (.t 18)⟩] (some [0, 1, 7, 8]))))))))
(.seq (.ops [⟨(some 4), none, .mov (.c (.int .i64 (-1)))⟩] none)
.ret)))⟩
/-- slices.Clone[[]int,int] -/
def ir73 : IFn := ⟨8, [.t 2],
(.seq (.ops [⟨(some 2), none, .mov (.c (.slice none 0 0))⟩] (some [0]))
(.seq (.seq (.ops [⟨(some 3), none, .mov (.t 0)⟩,
⟨(some 4), none, .nileq .sl false (.t 3)⟩] (some [0, 4]))
(.cond (.t 4)
(.seq (.ops [⟨(some 2), none, .mov (.c (.slice none 0 0))⟩] none)
.ret)
.skip))
(.seq (.ops [⟨(some 5), none, .bslice 0 1 [(.int .i64 0)] []⟩,
⟨(some 6), none, .mov (.t 0)⟩,
⟨(some 7), none, .append 1 8 (.t 5) (.t 6)⟩,
⟨(some 2), none, .mov (.t 7)⟩] (some [2]))
.ret)))⟩
/-- slices.ContainsFunc[[]int,int] -/
def ir80 : IFn := ⟨9, [.t 4],
(.seq (.ops [⟨(some 4), none, .mov (.c (.bool false))⟩] (some [0, 1]))
(.seq (.ops [⟨(some 5), none, .mov (.t 0)⟩,
⟨(some 6), none, .mov (.t 1)⟩,
⟨(some 7), none, .call 70 [(.t 5), (.t 6)]⟩,
⟨(some 8), none, .ibin .geq .i64 (.t 7) (.c (.int .i64 0))⟩,
⟨(some 4), none, .mov (.t 8)⟩] (some [4]))
.ret))⟩
/-- guidevane/guidevanebase.IsName -/
def ir91 : IFn := ⟨55, [.t 2],
(.seq (.ops [⟨(some 2), none, .mov (.c (.bool false))⟩] (some [0]))
(.seq (.seq (.ops [⟨(some 6), none, .mov (.t 0)⟩,
⟨(some 7), none, .lenS (.t 6)⟩,
⟨(some 8), none, .ibin .lss .i64 (.t 7) (.c (.int .i64 1))⟩,
⟨(some 9), none, .mov (.t 8)⟩,
⟨(some 10), (some (9, false)), .mov (.t 0)⟩,
⟨(some 11), (some (9, false)), .lenS (.t 10)⟩,
⟨(some 12), (some (9, false)), .ibin .gtr .i64 (.t 11) (.c (.int .i64 12))⟩,
⟨(some 13), none, .pick (.t 9) (.c (.bool true)) (.t 12)⟩] (some [0, 13]))
(.cond (.t 13)
(.seq (.ops [⟨(some 2), none, .mov (.c (.bool false))⟩] none)
.ret)
.skip))
(.seq (.seq (.ops [⟨(some 3), none, .mov (.c (.int .i64 0))⟩] none)
(.block 0 (.loop (.seq (.seq (.ops [⟨(some 14), none, .mov (.t 3)⟩,
⟨(some 15), none, .mov (.t 0)⟩,
⟨(some 16), none, .lenS (.t 15)⟩,
⟨(some 17), none, .ibin .lss .i64 (.t 14) (.t 16)⟩] (some [0, 3, 17]))
(.cond (.t 17)
.skip
(.exit 0)))
(.seq (.block 1 (.seq (.ops [⟨(some 20), none, .mov (.t 0)⟩,
⟨(some 21), none, .mov (.t 3)⟩,
⟨(some 22), none, .indexS (.t 20) (.t 21)⟩,
⟨(some 4), none, .mov (.t 22)⟩] (some [0, 3, 4]))
(.seq (.ops [⟨(some 23), none, .mov (.t 4)⟩,
⟨(some 24), none, .ibin .geq .u8 (.t 23) (.c (.int .u8 97))⟩,
⟨(some 25), none, .mov (.t 24)⟩,
⟨(some 26), (some (25, true)), .mov (.t 4)⟩,
⟨(some 27), (some (25, true)), .ibin .leq .u8 (.t 26) (.c (.int .u8 122))⟩,
⟨(some 28), none, .pick (.t 25) (.t 27) (.c (.bool false))⟩,
⟨(some 29), none, .mov (.t 28)⟩,
⟨(some 30), (some (29, false)), .mov (.t 4)⟩,
⟨(some 31), (some (29, false)), .ibin .geq .u8 (.t 30) (.c (.int .u8 65))⟩,
⟨(some 32), (some (29, false)), .mov (.t 31)⟩,
⟨(some 33), (some (32, true)), .mov (.t 4)⟩,
⟨(some 34), (some (32, true)), .ibin .leq .u8 (.t 33) (.c (.int .u8 90))⟩,
⟨(some 35), (some (29, false)), .pick (.t 32) (.t 34) (.c (.bool false))⟩,
⟨(some 36), none, .pick (.t 29) (.c (.bool true)) (.t 35)⟩,
⟨(some 5), none, .mov (.t 36)⟩] (some [0, 3, 4, 5]))
(.seq (.ops [⟨(some 37), none, .mov (.t 5)⟩,
⟨(some 38), none, .un .not (.t 37)⟩,
⟨(some 39), none, .mov (.t 38)⟩,
⟨(some 40), (some (39, true)), .mov (.t 3)⟩,
⟨(some 41), (some (39, true)), .ibin .eql .i64 (.t 40) (.c (.int .i64 0))⟩,
⟨(some 42), (some (39, true)), .mov (.t 41)⟩,
⟨(some 43), (some (42, false)), .mov (.t 4)⟩,
⟨(some 44), (some (42, false)), .ibin .neq .u8 (.t 43) (.c (.int .u8 45))⟩,
⟨(some 45), (some (42, false)), .mov (.t 44)⟩,
⟨(some 46), (some (45, true)), .mov (.t 4)⟩,
⟨(some 47), (some (45, true)), .ibin .lss .u8 (.t 46) (.c (.int .u8 48))⟩,
⟨(some 48), (some (45, true)), .mov (.t 47)⟩,
⟨(some 49), (some (48, false)), .mov (.t 4)⟩,
⟨(some 50), (some (48, false)), .ibin .gtr .u8 (.t 49) (.c (.int .u8 57))⟩,
⟨(some 51), (some (45, true)), .pick (.t 48) (.c (.bool true)) (.t 50)⟩,
⟨(some 52), (some (42, false)), .pick (.t 45) (.t 51) (.c (.bool false))⟩,
⟨(some 53), (some (39, true)), .pick (.t 42) (.c (.bool true)) (.t 52)⟩,
⟨(some 54), none, .pick (.t 39) (.t 53) (.c (.bool false))⟩] (some [0, 3, 54]))
(.cond (.t 54)
(.seq (.ops [⟨(some 2), none, .mov (.c (.bool false))⟩] none)
.ret)
.skip)))))
(.ops [⟨(some 18), none, .mov (.t 3)⟩,
⟨(some 19), none, .ibin .add .i64 (.t 18) (.c (.int .i64 1))⟩,
⟨(some 3), none, .mov (.t 19)⟩] (some [0, 3])))))))
(.seq (.ops [⟨(some 2), none, .mov (.c (.bool true))⟩] none)
.ret))))⟩
/-- slices.Sort[[]int,int] -/
def ir103 : IFn := ⟨11, [],
(.seq (.ops [⟨(some 3), none, .mov (.t 0)⟩,
⟨(some 4), none, .lenV (.t 3)⟩,
⟨(some 2), none, .mov (.t 4)⟩] (some [0, 2]))
(.ops [⟨(some 5), none, .mov (.t 0)⟩,
⟨(some 6), none, .mov (.t 2)⟩,
⟨(some 7), none, .mov (.t 2)⟩,
⟨(some 8), none, .conv .u64 (.t 7)⟩,
⟨(some 9), none, .call 119 [(.t 8)]⟩,
⟨(some 10), none, .call 118 [(.t 5), (.c (.int .i64 0)), (.t 6), (.t 9)]⟩] (some [])))⟩
/-- slices.SortStableFunc[[]int,int] -/
def ir106 : IFn := ⟨9, [],
(.ops [⟨(some 4), none, .mov (.t 0)⟩,
⟨(some 5), none, .mov (.t 0)⟩,
⟨(some 6), none, .lenV (.t 5)⟩,
⟨(some 7), none, .mov (.t 1)⟩,
⟨(some 8), none, .call 120 [(.t 4), (.t 6), (.t 7)]⟩] (some []))⟩
/-- slices.pdqsortOrdered[int] -/
def ir118 : IFn := ⟨134, [],
(.seq (.ops [⟨(some 8), none, .mov (.c (.bool true))⟩] none)
(.seq (.ops [⟨(some 9), none, .mov (.c (.bool true))⟩] none)
(.block 0 (.loop (.block 1 (.seq (.ops [⟨(some 19), none, .mov (.t 2)⟩,
⟨(some 20), none, .mov (.t 1)⟩,
⟨(some 21), none, .ibin .sub .i64 (.t 19) (.t 20)⟩,
⟨(some 10), none, .mov (.t 21)⟩] (some [0, 1, 2, 3, 8, 9, 10]))
(.seq (.seq (.ops [⟨(some 22), none, .mov (.t 10)⟩,
⟨(some 23), none, .ibin .leq .i64 (.t 22) (.c (.int .i64 12))⟩] (some [0, 1, 2, 3, 8, 9, 10, 23]))
(.cond (.t 23)
(.seq (.ops [⟨(some 24), none, .mov (.t 0)⟩,
⟨(some 25), none, .mov (.t 1)⟩,
⟨(some 26), none, .mov (.t 2)⟩,
⟨(some 27), none, .call 126 [(.t 24), (.t 25), (.t 26)]⟩] (some []))
.ret)
.skip))
(.seq (.seq (.ops [⟨(some 28), none, .mov (.t 3)⟩,
⟨(some 29), none, .ibin .eql .i64 (.t 28) (.c (.int .i64 0))⟩] (some [0, 1, 2, 3, 8, 9, 10, 29]))
(.cond (.t 29)
(.seq (.ops [⟨(some 30), none, .mov (.t 0)⟩,
⟨(some 31), none, .mov (.t 1)⟩,
⟨(some 32), none, .mov (.t 2)⟩,
⟨(some 33), none, .call 127 [(.t 30), (.t 31), (.t 32)]⟩] (some []))
.ret)
.skip))
(.seq (.seq (.ops [⟨(some 34), none, .mov (.t 8)⟩,
⟨(some 35), none, .un .not (.t 34)⟩] (some [0, 1, 2, 3, 8, 9, 10, 35]))
(.cond (.t 35)
(.seq (.ops [⟨(some 36), none, .mov (.t 0)⟩,
⟨(some 37), none, .mov (.t 1)⟩,
⟨(some 38), none, .mov (.t 2)⟩,
⟨(some 39), none, .call 128 [(.t 36), (.t 37), (.t 38)]⟩] (some [0, 1, 2, 3, 8, 9, 10]))
(.ops [⟨(some 40), none, .mov (.t 3)⟩,
⟨(some 41), none, .ibin .sub .i64 (.t 40) (.c (.int .i64 1))⟩,
⟨(some 3), none, .mov (.t 41)⟩] (some [0, 1, 2, 3, 8, 9, 10])))
.skip))
(.seq (.ops [⟨(some 43), none, .mov (.t 0)⟩,
⟨(some 44), none, .mov (.t 1)⟩,
⟨(some 45), none, .mov (.t 2)⟩,
⟨(some 46), none, .call 129 [(.t 43), (.t 44), (.t 45)]⟩,
⟨(some 42), none, .mov (.t 46)⟩,
⟨(some 47), none, .extract 0 (.t 42)⟩,
⟨(some 48), none, .extract 1 (.t 42)⟩,
⟨(some 11), none, .mov (.t 47)⟩,
⟨(some 12), none, .mov (.t 48)⟩] (some [0, 1, 2, 3, 8, 9, 10, 11, 12]))
(.seq (.seq (.ops [⟨(some 49), none, .mov (.t 12)⟩,
⟨(some 50), none, .ibin .eql .i64 (.t 49) (.c (.int .i64 2))⟩] (some [0, 1, 2, 3, 8, 9, 10, 11, 12, 50]))
(.cond (.t 50)
(.seq (.ops [⟨(some 51), none, .mov (.t 0)⟩,
⟨(some 52), none, .mov (.t 1)⟩,
⟨(some 53), none, .mov (.t 2)⟩,
⟨(some 54), none, .call 130 [(.t 51), (.t 52), (.t 53)]⟩] (some [0, 1, 2, 3, 8, 9, 10, 11]))
(.seq (.ops [⟨(some 55), none, .mov (.t 2)⟩,
⟨(some 56), none, .ibin .sub .i64 (.t 55) (.c (.int .i64 1))⟩,
⟨(some 57), none, .mov (.t 11)⟩,
⟨(some 58), none, .mov (.t 1)⟩,
⟨(some 59), none, .ibin .sub .i64 (.t 57) (.t 58)⟩,
⟨(some 60), none, .ibin .sub .i64 (.t 56) (.t 59)⟩,
⟨(some 11), none, .mov (.t 60)⟩] (some [0, 1, 2, 3, 8, 9, 10, 11]))
(.ops [⟨(some 12), none, .mov (.c (.int .i64 1))⟩] none)))
.skip))
(.seq (.seq (.ops [⟨(some 61), none, .mov (.t 8)⟩,
⟨(some 62), none, .mov (.t 61)⟩,
⟨(some 63), (some (62, true)), .mov (.t 9)⟩,
⟨(some 64), none, .pick (.t 62) (.t 63) (.c (.bool false))⟩,
⟨(some 65), none, .mov (.t 64)⟩,
⟨(some 66), (some (65, true)), .mov (.t 12)⟩,
⟨(some 67), (some (65, true)), .ibin .eql .i64 (.t 66) (.c (.int .i64 1))⟩,
⟨(some 68), none, .pick (.t 65) (.t 67) (.c (.bool false))⟩] (some [0, 1, 2, 3, 8, 9, 10, 11, 68]))
(.cond (.t 68)
(.seq (.ops [⟨(some 69), none, .mov (.t 0)⟩,
⟨(some 70), none, .mov (.t 1)⟩,
⟨(some 71), none, .mov (.t 2)⟩,
⟨(some 72), none, .call 131 [(.t 69), (.t 70), (.t 71)]⟩] (some [0, 1, 2, 3, 8, 9, 10, 11, 72]))
(.cond (.t 72)
.ret
.skip))
.skip))
(.seq (.seq (.draw (.rd 0 ⟨(some 73), none, .mov (.t 1)⟩
(.rd 1 ⟨(some 74), none, .ibin .gtr .i64 (.t 73) (.c (.int .i64 0))⟩
(.rd 2 ⟨(some 75), none, .mov (.t 74)⟩
(.rd 3 ⟨(some 76), (some (75, true)), .mov (.t 0)⟩
(.rd 4 ⟨(some 77), (some (75, true)), .mov (.t 1)⟩
(.rd 5 ⟨(some 78), (some (75, true)), .ibin .sub .i64 (.t 77) (.c (.int .i64 1))⟩
(.rd 6 ⟨(some 79), (some (75, true)), .iaddr 1 (.t 76) (.t 78)⟩
(.rd 7 ⟨(some 80), (some (75, true)), .load 1 false (.t 79)⟩
(.rd 8 ⟨(some 81), (some (75, true)), .mov (.t 0)⟩
(.rd 9 ⟨(some 82), (some (75, true)), .mov (.t 11)⟩
(.rd 10 ⟨(some 83), (some (75, true)), .iaddr 1 (.t 81) (.t 82)⟩
(.rd 11 ⟨(some 84), (some (75, true)), .load 1 false (.t 83)⟩
(.wr 12 ⟨(some 85), (some (75, true)), .call 122 [(.t 80), (.t 84)]⟩ [7, 11, 2, 2]
(.rd 13 ⟨(some 86), (some (75, true)), .un .not (.t 85)⟩
(.rd 14 ⟨(some 87), none, .pick (.t 75) (.t 86) (.c (.bool false))⟩
.fin)) .no))))))))))))) (some [0, 1, 2, 3, 8, 9, 10, 11, 87]))
(.cond (.t 87)
(.seq (.ops [⟨(some 88), none, .mov (.t 0)⟩,
⟨(some 89), none, .mov (.t 1)⟩,
⟨(some 90), none, .mov (.t 2)⟩,
⟨(some 91), none, .mov (.t 11)⟩,
⟨(some 92), none, .call 132 [(.t 88), (.t 89), (.t 90), (.t 91)]⟩,
⟨(some 13), none, .mov (.t 92)⟩] (some [0, 2, 3, 8, 9, 13]))
(.seq (.ops [⟨(some 93), none, .mov (.t 13)⟩,
⟨(some 1), none, .mov (.t 93)⟩] (some [0, 1, 2, 3, 8, 9]))
(.exit 1)))
.skip))
(.seq (.ops [⟨(some 95), none, .mov (.t 0)⟩,
⟨(some 96), none, .mov (.t 1)⟩,
⟨(some 97), none, .mov (.t 2)⟩,
⟨(some 98), none, .mov (.t 11)⟩,
⟨(some 99), none, .call 133 [(.t 95), (.t 96), (.t 97), (.t 98)]⟩,
⟨(some 94), none, .mov (.t 99)⟩,
⟨(some 100), none, .extract 0 (.t 94)⟩,
⟨(some 101), none, .extract 1 (.t 94)⟩,
⟨(some 14), none, .mov (.t 100)⟩,
⟨(some 15), none, .mov (.t 101)⟩] (some [0, 1, 2, 3, 10, 14, 15]))
(.seq (.ops [⟨(some 102), none, .mov (.t 15)⟩,
⟨(some 9), none, .mov (.t 102)⟩] (some [0, 1, 2, 3, 9, 10, 14]))
(.seq (.ops [⟨(some 103), none, .mov (.t 14)⟩,
⟨(some 104), none, .mov (.t 1)⟩,
⟨(some 105), none, .ibin .sub .i64 (.t 103) (.t 104)⟩,
⟨(some 106), none, .mov (.t 2)⟩,
⟨(some 107), none, .mov (.t 14)⟩,
⟨(some 108), none, .ibin .sub .i64 (.t 106) (.t 107)⟩,
⟨(some 16), none, .mov (.t 105)⟩,
⟨(some 17), none, .mov (.t 108)⟩] (some [0, 1, 2, 3, 9, 10, 14, 16, 17]))
(.seq (.ops [⟨(some 109), none, .mov (.t 10)⟩,
⟨(some 110), none, .ibin .quo .i64 (.t 109) (.c (.int .i64 8))⟩,
⟨(some 18), none, .mov (.t 110)⟩] (some [0, 1, 2, 3, 9, 14, 16, 17, 18]))
(.seq (.ops [⟨(some 111), none, .mov (.t 16)⟩,
⟨(some 112), none, .mov (.t 17)⟩,
⟨(some 113), none, .ibin .lss .i64 (.t 111) (.t 112)⟩] (some [0, 1, 2, 3, 9, 14, 16, 17, 18, 113]))
(.cond (.t 113)
(.seq (.ops [⟨(some 114), none, .mov (.t 16)⟩,
⟨(some 115), none, .mov (.t 18)⟩,
⟨(some 116), none, .ibin .geq .i64 (.t 114) (.t 115)⟩,
⟨(some 8), none, .mov (.t 116)⟩] (some [0, 1, 2, 3, 8, 9, 14]))
(.seq (.ops [⟨(some 117), none, .mov (.t 0)⟩,
⟨(some 118), none, .mov (.t 1)⟩,
⟨(some 119), none, .mov (.t 14)⟩,
⟨(some 120), none, .mov (.t 3)⟩,
⟨(some 121), none, .call 118 [(.t 117), (.t 118), (.t 119), (.t 120)]⟩] (some [0, 2, 3, 8, 9, 14]))
(.ops [⟨(some 122), none, .mov (.t 14)⟩,
⟨(some 123), none, .ibin .add .i64 (.t 122) (.c (.int .i64 1))⟩,
⟨(some 1), none, .mov (.t 123)⟩] (some [0, 1, 2, 3, 8, 9]))))
(.seq (.ops [⟨(some 124), none, .mov (.t 17)⟩,
⟨(some 125), none, .mov (.t 18)⟩,
⟨(some 126), none, .ibin .geq .i64 (.t 124) (.t 125)⟩,
⟨(some 8), none, .mov (.t 126)⟩] (some [0, 1, 2, 3, 8, 9, 14]))
(.seq (.ops [⟨(some 127), none, .mov (.t 0)⟩,
⟨(some 128), none, .mov (.t 14)⟩,
⟨(some 129), none, .ibin .add .i64 (.t 128) (.c (.int .i64 1))⟩,
⟨(some 130), none, .mov (.t 2)⟩,
⟨(some 131), none, .mov (.t 3)⟩,
⟨(some 132), none, .call 118 [(.t 127), (.t 129), (.t 130), (.t 131)]⟩] (some [0, 1, 3, 8, 9, 14]))
(.ops [⟨(some 133), none, .mov (.t 14)⟩,
⟨(some 2), none, .mov (.t 133)⟩] (some [0, 1, 2, 3, 8, 9])))))))))))))))))))))))⟩
/-- math/bits.Len -/
def ir119 : IFn := ⟨8, [.t 2],
(.seq (.ops [⟨(some 2), none, .mov (.c (.int .i64 0))⟩] (some [0]))
(.seq (.cond (.c (.bool false))
(.seq (.ops [⟨(some 3), none, .mov (.t 0)⟩,
⟨(some 4), none, .conv .u32 (.t 3)⟩,
⟨(some 5), none, .call 134 [(.t 4)]⟩,
⟨(some 2), none, .mov (.t 5)⟩] (some [2]))
.ret)
.skip)
(.seq (.ops [⟨(some 6), none, .mov (.t 0)⟩,
⟨(some 7), none, .call 135 [(.t 6)]⟩,
⟨(some 2), none, .mov (.t 7)⟩] (some [2]))
.ret)))⟩
/-- slices.stableCmpFunc[int] -/
def ir120 : IFn := ⟨63, [],
(.seq (.ops [⟨(some 6), none, .mov (.c (.int .i64 20))⟩] none)
(.seq (.ops [⟨(some 10), none, .mov (.t 6)⟩,
⟨(some 7), none, .mov (.c (.int .i64 0))⟩,
⟨(some 8), none, .mov (.t 10)⟩] (some [0, 1, 2, 6, 7, 8]))
(.seq (.block 0 (.loop (.seq (.seq (.ops [⟨(some 11), none, .mov (.t 8)⟩,
⟨(some 12), none, .mov (.t 1)⟩,
⟨(some 13), none, .ibin .leq .i64 (.t 11) (.t 12)⟩] (some [0, 1, 2, 6, 7, 8, 13]))
(.cond (.t 13)
.skip
(.exit 0)))
(.block 1 (.seq (.ops [⟨(some 14), none, .mov (.t 0)⟩,
⟨(some 15), none, .mov (.t 7)⟩,
⟨(some 16), none, .mov (.t 8)⟩,
⟨(some 17), none, .mov (.t 2)⟩,
⟨(some 18), none, .call 136 [(.t 14), (.t 15), (.t 16), (.t 17)]⟩] (some [0, 1, 2, 6, 8]))
(.seq (.ops [⟨(some 19), none, .mov (.t 8)⟩,
⟨(some 7), none, .mov (.t 19)⟩] (some [0, 1, 2, 6, 7, 8]))
(.ops [⟨(some 20), none, .mov (.t 8)⟩,
⟨(some 21), none, .mov (.t 6)⟩,
⟨(some 22), none, .ibin .add .i64 (.t 20) (.t 21)⟩,
⟨(some 8), none, .mov (.t 22)⟩] (some [0, 1, 2, 6, 7, 8]))))))))
(.seq (.ops [⟨(some 23), none, .mov (.t 0)⟩,
⟨(some 24), none, .mov (.t 7)⟩,
⟨(some 25), none, .mov (.t 1)⟩,
⟨(some 26), none, .mov (.t 2)⟩,
⟨(some 27), none, .call 136 [(.t 23), (.t 24), (.t 25), (.t 26)]⟩] (some [0, 1, 2, 6]))
(.block 2 (.loop (.seq (.seq (.ops [⟨(some 28), none, .mov (.t 6)⟩,
⟨(some 29), none, .mov (.t 1)⟩,
⟨(some 30), none, .ibin .lss .i64 (.t 28) (.t 29)⟩] (some [0, 1, 2, 6, 30]))
(.cond (.t 30)
.skip
(.exit 2)))
(.block 3 (.seq (.ops [⟨(some 31), none, .mov (.t 6)⟩,
⟨(some 32), none, .ibin .mul .i64 (.c (.int .i64 2)) (.t 31)⟩,
⟨(some 7), none, .mov (.c (.int .i64 0))⟩,
⟨(some 8), none, .mov (.t 32)⟩] (some [0, 1, 2, 6, 7, 8]))
(.seq (.block 4 (.loop (.seq (.seq (.ops [⟨(some 33), none, .mov (.t 8)⟩,
⟨(some 34), none, .mov (.t 1)⟩,
⟨(some 35), none, .ibin .leq .i64 (.t 33) (.t 34)⟩] (some [0, 1, 2, 6, 7, 8, 35]))
(.cond (.t 35)
.skip
(.exit 4)))
(.block 5 (.seq (.ops [⟨(some 36), none, .mov (.t 0)⟩,
⟨(some 37), none, .mov (.t 7)⟩,
⟨(some 38), none, .mov (.t 7)⟩,
⟨(some 39), none, .mov (.t 6)⟩,
⟨(some 40), none, .ibin .add .i64 (.t 38) (.t 39)⟩,
⟨(some 41), none, .mov (.t 8)⟩,
⟨(some 42), none, .mov (.t 2)⟩,
⟨(some 43), none, .call 137 [(.t 36), (.t 37), (.t 40), (.t 41), (.t 42)]⟩] (some [0, 1, 2, 6, 8]))
(.seq (.ops [⟨(some 44), none, .mov (.t 8)⟩,
⟨(some 7), none, .mov (.t 44)⟩] (some [0, 1, 2, 6, 7, 8]))
(.ops [⟨(some 45), none, .mov (.t 8)⟩,
⟨(some 46), none, .mov (.t 6)⟩,
⟨(some 47), none, .ibin .mul .i64 (.c (.int .i64 2)) (.t 46)⟩,
⟨(some 48), none, .ibin .add .i64 (.t 45) (.t 47)⟩,
⟨(some 8), none, .mov (.t 48)⟩] (some [0, 1, 2, 6, 7, 8]))))))))
(.seq (.seq (.ops [⟨(some 49), none, .mov (.t 7)⟩,
⟨(some 50), none, .mov (.t 6)⟩,
⟨(some 51), none, .ibin .add .i64 (.t 49) (.t 50)⟩,
⟨(some 9), none, .mov (.t 51)⟩] (some [0, 1, 2, 6, 7, 9]))
(.seq (.ops [⟨(some 52), none, .mov (.t 9)⟩,
⟨(some 53), none, .mov (.t 1)⟩,
⟨(some 54), none, .ibin .lss .i64 (.t 52) (.t 53)⟩] (some [0, 1, 2, 6, 7, 9, 54]))
(.cond (.t 54)
(.ops [⟨(some 55), none, .mov (.t 0)⟩,
⟨(some 56), none, .mov (.t 7)⟩,
⟨(some 57), none, .mov (.t 9)⟩,
⟨(some 58), none, .mov (.t 1)⟩,
⟨(some 59), none, .mov (.t 2)⟩,
⟨(some 60), none, .call 137 [(.t 55), (.t 56), (.t 57), (.t 58), (.t 59)]⟩] (some [0, 1, 2, 6]))
.skip)))
(.ops [⟨(some 61), none, .mov (.t 6)⟩,
⟨(some 62), none, .ibin .mul .i64 (.t 61) (.c (.int .i64 2))⟩,
⟨(some 6), none, .mov (.t 62)⟩] (some [0, 1, 2, 6])))))))))))))⟩
/-- cmp.isNaN[int] -/
def ir121 : IFn := ⟨6, [.t 2],
(.seq (.ops [⟨(some 2), none, .mov (.c (.bool false))⟩] (some [0]))
(.seq (.ops [⟨(some 3), none, .mov (.t 0)⟩,
⟨(some 4), none, .mov (.t 0)⟩,
⟨(some 5), none, .ibin .neq .i64 (.t 3) (.t 4)⟩,
⟨(some 2), none, .mov (.t 5)⟩] (some [2]))
.ret))⟩
/-- cmp.Less[int] -/
def ir122 : IFn := ⟨17, [.t 4],
(.seq (.ops [⟨(some 4), none, .mov (.c (.bool false))⟩] (some [0, 1]))
(.seq (.ops [⟨(some 5), none, .mov (.t 0)⟩,
⟨(some 6), none, .call 121 [(.t 5)]⟩,
⟨(some 7), none, .mov (.t 6)⟩,
⟨(some 8), (some (7, true)), .mov (.t 1)⟩,
⟨(some 9), (some (7, true)), .call 121 [(.t 8)]⟩,
⟨(some 10), (some (7, true)), .un .not (.t 9)⟩,
⟨(some 11), none, .pick (.t 7) (.t 10) (.c (.bool false))⟩,
⟨(some 12), none, .mov (.t 11)⟩,
⟨(some 13), (some (12, false)), .mov (.t 0)⟩,
⟨(some 14), (some (12, false)), .mov (.t 1)⟩,
⟨(some 15), (some (12, false)), .ibin .lss .i64 (.t 13) (.t 14)⟩,
⟨(some 16), none, .pick (.t 12) (.c (.bool true)) (.t 15)⟩,
⟨(some 4), none, .mov (.t 16)⟩] (some [4]))
.ret))⟩
/-- slices.insertionSortOrdered[int] -/
def ir126 : IFn := ⟨49, [],
(.seq (.ops [⟨(some 8), none, .mov (.t 1)⟩,
⟨(some 9), none, .ibin .add .i64 (.t 8) (.c (.int .i64 1))⟩,
⟨(some 6), none, .mov (.t 9)⟩] (some [0, 1, 2, 6]))
(.block 0 (.loop (.seq (.seq (.ops [⟨(some 10), none, .mov (.t 6)⟩,
⟨(some 11), none, .mov (.t 2)⟩,
⟨(some 12), none, .ibin .lss .i64 (.t 10) (.t 11)⟩] (some [0, 1, 2, 6, 12]))
(.cond (.t 12)
.skip
(.exit 0)))
(.seq (.block 1 (.seq (.ops [⟨(some 15), none, .mov (.t 6)⟩,
⟨(some 7), none, .mov (.t 15)⟩] (some [0, 1, 2, 6, 7]))
(.block 2 (.loop (.seq (.seq (.draw (.rd 0 ⟨(some 16), none, .mov (.t 7)⟩
(.rd 1 ⟨(some 17), none, .mov (.t 1)⟩
(.rd 2 ⟨(some 18), none, .ibin .gtr .i64 (.t 16) (.t 17)⟩
(.rd 3 ⟨(some 19), none, .mov (.t 18)⟩
(.rd 4 ⟨(some 20), (some (19, true)), .mov (.t 0)⟩
(.rd 5 ⟨(some 21), (some (19, true)), .mov (.t 7)⟩
(.rd 6 ⟨(some 22), (some (19, true)), .iaddr 1 (.t 20) (.t 21)⟩
(.rd 7 ⟨(some 23), (some (19, true)), .load 1 false (.t 22)⟩
(.rd 8 ⟨(some 24), (some (19, true)), .mov (.t 0)⟩
(.rd 9 ⟨(some 25), (some (19, true)), .mov (.t 7)⟩
(.rd 10 ⟨(some 26), (some (19, true)), .ibin .sub .i64 (.t 25) (.c (.int .i64 1))⟩
(.rd 11 ⟨(some 27), (some (19, true)), .iaddr 1 (.t 24) (.t 26)⟩
(.rd 12 ⟨(some 28), (some (19, true)), .load 1 false (.t 27)⟩
(.wr 13 ⟨(some 29), (some (19, true)), .call 122 [(.t 23), (.t 28)]⟩ [7, 12, 3, 3]
(.rd 14 ⟨(some 30), none, .pick (.t 19) (.t 29) (.c (.bool false))⟩
.fin) .no)))))))))))))) (some [0, 1, 2, 6, 7, 30]))
(.cond (.t 30)
.skip
(.exit 2)))
(.seq (.block 3 (.draw (.rd 0 ⟨(some 33), none, .mov (.t 0)⟩
(.rd 1 ⟨(some 34), none, .mov (.t 7)⟩
(.rd 2 ⟨(some 35), none, .mov (.t 0)⟩
(.rd 3 ⟨(some 36), none, .mov (.t 7)⟩
(.rd 4 ⟨(some 37), none, .ibin .sub .i64 (.t 36) (.c (.int .i64 1))⟩
(.rd 5 ⟨(some 38), none, .mov (.t 0)⟩
(.rd 6 ⟨(some 39), none, .mov (.t 7)⟩
(.rd 7 ⟨(some 40), none, .ibin .sub .i64 (.t 39) (.c (.int .i64 1))⟩
(.rd 8 ⟨(some 41), none, .iaddr 1 (.t 38) (.t 40)⟩
(.rd 9 ⟨(some 42), none, .load 1 false (.t 41)⟩
(.rd 10 ⟨(some 43), none, .mov (.t 0)⟩
(.rd 11 ⟨(some 44), none, .mov (.t 7)⟩
(.rd 12 ⟨(some 45), none, .iaddr 1 (.t 43) (.t 44)⟩
(.rd 13 ⟨(some 46), none, .load 1 false (.t 45)⟩
(.rd 14 ⟨(some 47), none, .iaddr 1 (.t 33) (.t 34)⟩
(.wr 15 ⟨none, none, .store 1 (.t 47) (.t 42)⟩ [14, 9, 0, 1, 5, 6, 7, 8, 9, 13]
(.rd 16 ⟨(some 48), none, .iaddr 1 (.t 35) (.t 37)⟩
(.wr 17 ⟨none, none, .store 1 (.t 48) (.t 46)⟩ [16, 13, 15, 0, 1, 2, 3, 4, 5, 6, 7, 8, 9, 10, 11, 12, 13, 14, 15]
.fin .no)) .no)))))))))))))))) (some [0, 1, 2, 6, 7])))
(.ops [⟨(some 31), none, .mov (.t 7)⟩,
⟨(some 32), none, .ibin .sub .i64 (.t 31) (.c (.int .i64 1))⟩,
⟨(some 7), none, .mov (.t 32)⟩] (some [0, 1, 2, 6, 7]))))))))
(.ops [⟨(some 13), none, .mov (.t 6)⟩,
⟨(some 14), none, .ibin .add .i64 (.t 13) (.c (.int .i64 1))⟩,
⟨(some 6), none, .mov (.t 14)⟩] (some [0, 1, 2, 6])))))))⟩
/-- math/bits.Len32 -/
def ir134 : IFn := ⟨19, [.t 2],
(.seq (.ops [⟨(some 2), none, .mov (.c (.int .i64 0))⟩] none)
(.seq (.seq (.ops [⟨(some 3), none, .mov (.t 0)⟩,
⟨(some 4), none, .ibin .geq .u32 (.t 3) (.c (.int .u32 65536))⟩] (some [0, 2, 4]))
(.cond (.t 4)
(.seq (.ops [⟨(some 5), none, .mov (.t 0)⟩,
⟨(some 6), none, .shift .shr .u32 (.t 5) (.c (.int .u64 16))⟩,
⟨(some 0), none, .mov (.t 6)⟩] (some [0]))
(.ops [⟨(some 2), none, .mov (.c (.int .i64 16))⟩] none))
.skip))
(.seq (.seq (.ops [⟨(some 7), none, .mov (.t 0)⟩,
⟨(some 8), none, .ibin .geq .u32 (.t 7) (.c (.int .u32 256))⟩] (some [0, 2, 8]))
(.cond (.t 8)
(.seq (.ops [⟨(some 9), none, .mov (.t 0)⟩,
⟨(some 10), none, .shift .shr .u32 (.t 9) (.c (.int .u64 8))⟩,
⟨(some 0), none, .mov (.t 10)⟩] (some [0, 2]))
(.ops [⟨(some 11), none, .mov (.t 2)⟩,
⟨(some 12), none, .ibin .add .i64 (.t 11) (.c (.int .i64 8))⟩,
⟨(some 2), none, .mov (.t 12)⟩] (some [0, 2])))
.skip))
(.seq (.ops [⟨(some 13), none, .mov (.t 2)⟩,
⟨(some 14), none, .mov (.t 0)⟩,
⟨(some 15), none, .conv .u8 (.t 14)⟩,
⟨(some 16), none, .indexS (.c (.string ⟨#[0, 1, 2, 2, 3, 3, 3, 3, 4, 4, 4, 4, 4, 4, 4, 4, 5, 5, 5, 5, 5, 5, 5, 5, 5, 5, 5, 5, 5, 5, 5, 5, 6, 6, 6, 6, 6, 6, 6, 6, 6, 6, 6, 6, 6, 6, 6, 6, 6, 6, 6, 6, 6, 6, 6, 6, 6, 6, 6, 6, 6, 6, 6, 6, 7, 7, 7, 7, 7, 7, 7, 7, 7, 7, 7, 7, 7, 7, 7, 7, 7, 7, 7, 7, 7, 7, 7, 7, 7, 7, 7, 7, 7, 7, 7, 7, 7, 7, 7, 7, 7, 7, 7, 7, 7, 7, 7, 7, 7, 7, 7, 7, 7, 7, 7, 7, 7, 7, 7, 7, 7, 7, 7, 7, 7, 7, 7, 7, 8, 8, 8, 8, 8, 8, 8, 8, 8, 8, 8, 8, 8, 8, 8, 8, 8, 8, 8, 8, 8, 8, 8, 8, 8, 8, 8, 8, 8, 8, 8, 8, 8, 8, 8, 8, 8, 8, 8, 8, 8, 8, 8, 8, 8, 8, 8, 8, 8, 8, 8, 8, 8, 8, 8, 8, 8, 8, 8, 8, 8, 8, 8, 8, 8, 8, 8, 8, 8, 8, 8, 8, 8, 8, 8, 8, 8, 8, 8, 8, 8, 8, 8, 8, 8, 8, 8, 8, 8, 8, 8, 8, 8, 8, 8, 8, 8, 8, 8, 8, 8, 8, 8, 8, 8, 8, 8, 8, 8, 8, 8, 8, 8, 8, 8, 8, 8, 8, 8, 8, 8, 8, 8, 8, 8, 8, 8, 8]⟩)) (.t 15)⟩,
⟨(some 17), none, .conv .i64 (.t 16)⟩,
⟨(some 18), none, .ibin .add .i64 (.t 13) (.t 17)⟩,
⟨(some 2), none, .mov (.t 18)⟩] (some [2]))
.ret))))⟩
/-- math/bits.Len64 -/
def ir135 : IFn := ⟨25, [.t 2],
(.seq (.ops [⟨(some 2), none, .mov (.c (.int .i64 0))⟩] none)
(.seq (.seq (.ops [⟨(some 3), none, .mov (.t 0)⟩,
⟨(some 4), none, .ibin .geq .u64 (.t 3) (.c (.int .u64 4294967296))⟩] (some [0, 2, 4]))
(.cond (.t 4)
(.seq (.ops [⟨(some 5), none, .mov (.t 0)⟩,
⟨(some 6), none, .shift .shr .u64 (.t 5) (.c (.int .u64 32))⟩,
⟨(some 0), none, .mov (.t 6)⟩] (some [0]))
(.ops [⟨(some 2), none, .mov (.c (.int .i64 32))⟩] none))
.skip))
(.seq (.seq (.ops [⟨(some 7), none, .mov (.t 0)⟩,
⟨(some 8), none, .ibin .geq .u64 (.t 7) (.c (.int .u64 65536))⟩] (some [0, 2, 8]))
(.cond (.t 8)
(.seq (.ops [⟨(some 9), none, .mov (.t 0)⟩,
⟨(some 10), none, .shift .shr .u64 (.t 9) (.c (.int .u64 16))⟩,
⟨(some 0), none, .mov (.t 10)⟩] (some [0, 2]))
(.ops [⟨(some 11), none, .mov (.t 2)⟩,
⟨(some 12), none, .ibin .add .i64 (.t 11) (.c (.int .i64 16))⟩,
⟨(some 2), none, .mov (.t 12)⟩] (some [0, 2])))
.skip))
(.seq (.seq (.ops [⟨(some 13), none, .mov (.t 0)⟩,
⟨(some 14), none, .ibin .geq .u64 (.t 13) (.c (.int .u64 256))⟩] (some [0, 2, 14]))
(.cond (.t 14)
(.seq (.ops [⟨(some 15), none, .mov (.t 0)⟩,
⟨(some 16), none, .shift .shr .u64 (.t 15) (.c (.int .u64 8))⟩,
⟨(some 0), none, .mov (.t 16)⟩] (some [0, 2]))
(.ops [⟨(some 17), none, .mov (.t 2)⟩,
⟨(some 18), none, .ibin .add .i64 (.t 17) (.c (.int .i64 8))⟩,
⟨(some 2), none, .mov (.t 18)⟩] (some [0, 2])))
.skip))
(.seq (.ops [⟨(some 19), none, .mov (.t 2)⟩,
⟨(some 20), none, .mov (.t 0)⟩,
⟨(some 21), none, .conv .u8 (.t 20)⟩,
⟨(some 22), none, .indexS (.c (.string ⟨#[0, 1, 2, 2, 3, 3, 3, 3, 4, 4, 4, 4, 4, 4, 4, 4, 5, 5, 5, 5, 5, 5, 5, 5, 5, 5, 5, 5, 5, 5, 5, 5, 6, 6, 6, 6, 6, 6, 6, 6, 6, 6, 6, 6, 6, 6, 6, 6, 6, 6, 6, 6, 6, 6, 6, 6, 6, 6, 6, 6, 6, 6, 6, 6, 7, 7, 7, 7, 7, 7, 7, 7, 7, 7, 7, 7, 7, 7, 7, 7, 7, 7, 7, 7, 7, 7, 7, 7, 7, 7, 7, 7, 7, 7, 7, 7, 7, 7, 7, 7, 7, 7, 7, 7, 7, 7, 7, 7, 7, 7, 7, 7, 7, 7, 7, 7, 7, 7, 7, 7, 7, 7, 7, 7, 7, 7, 7, 7, 8, 8, 8, 8, 8, 8, 8, 8, 8, 8, 8, 8, 8, 8, 8, 8, 8, 8, 8, 8, 8, 8, 8, 8, 8, 8, 8, 8, 8, 8, 8, 8, 8, 8, 8, 8, 8, 8, 8, 8, 8, 8, 8, 8, 8, 8, 8, 8, 8, 8, 8, 8, 8, 8, 8, 8, 8, 8, 8, 8, 8, 8, 8, 8, 8, 8, 8, 8, 8, 8, 8, 8, 8, 8, 8, 8, 8, 8, 8, 8, 8, 8, 8, 8, 8, 8, 8, 8, 8, 8, 8, 8, 8, 8, 8, 8, 8, 8, 8, 8, 8, 8, 8, 8, 8, 8, 8, 8, 8, 8, 8, 8, 8, 8, 8, 8, 8, 8, 8, 8, 8, 8, 8, 8, 8, 8, 8, 8]⟩)) (.t 21)⟩,
⟨(some 23), none, .conv .i64 (.t 22)⟩,
⟨(some 24), none, .ibin .add .i64 (.t 19) (.t 23)⟩,
⟨(some 2), none, .mov (.t 24)⟩] (some [2]))
.ret)))))⟩
/-- slices.insertionSortCmpFunc[int] -/
def ir136 : IFn := ⟨53, [],
(.seq (.ops [⟨(some 10), none, .mov (.t 1)⟩,
⟨(some 11), none, .ibin .add .i64 (.t 10) (.c (.int .i64 1))⟩,
⟨(some 8), none, .mov (.t 11)⟩] (some [0, 1, 2, 3, 8]))
(.block 0 (.loop (.seq (.seq (.ops [⟨(some 12), none, .mov (.t 8)⟩,
⟨(some 13), none, .mov (.t 2)⟩,
⟨(some 14), none, .ibin .lss .i64 (.t 12) (.t 13)⟩] (some [0, 1, 2, 3, 8, 14]))
(.cond (.t 14)
.skip
(.exit 0)))
(.seq (.block 1 (.seq (.ops [⟨(some 17), none, .mov (.t 8)⟩,
⟨(some 9), none, .mov (.t 17)⟩] (some [0, 1, 2, 3, 8, 9]))
(.block 2 (.loop (.seq (.seq (.draw (.rd 0 ⟨(some 18), none, .mov (.t 9)⟩
(.rd 1 ⟨(some 19), none, .mov (.t 1)⟩
(.rd 2 ⟨(some 20), none, .ibin .gtr .i64 (.t 18) (.t 19)⟩
(.rd 3 ⟨(some 21), none, .mov (.t 20)⟩
(.rd 4 ⟨(some 22), (some (21, true)), .mov (.t 3)⟩
(.rd 5 ⟨(some 23), (some (21, true)), .mov (.t 0)⟩
(.rd 6 ⟨(some 24), (some (21, true)), .mov (.t 9)⟩
(.rd 7 ⟨(some 25), (some (21, true)), .iaddr 1 (.t 23) (.t 24)⟩
(.rd 8 ⟨(some 26), (some (21, true)), .load 1 false (.t 25)⟩
(.rd 9 ⟨(some 27), (some (21, true)), .mov (.t 0)⟩
(.rd 10 ⟨(some 28), (some (21, true)), .mov (.t 9)⟩
(.rd 11 ⟨(some 29), (some (21, true)), .ibin .sub .i64 (.t 28) (.c (.int .i64 1))⟩
(.rd 12 ⟨(some 30), (some (21, true)), .iaddr 1 (.t 27) (.t 29)⟩
(.rd 13 ⟨(some 31), (some (21, true)), .load 1 false (.t 30)⟩
(.wr 14 ⟨(some 32), (some (21, true)), .callv (.t 22) [(.t 26), (.t 31)]⟩ [4, 8, 13, 3, 3]
(.rd 15 ⟨(some 33), (some (21, true)), .ibin .lss .i64 (.t 32) (.c (.int .i64 0))⟩
(.rd 16 ⟨(some 34), none, .pick (.t 21) (.t 33) (.c (.bool false))⟩
.fin)) .no))))))))))))))) (some [0, 1, 2, 3, 8, 9, 34]))
(.cond (.t 34)
.skip
(.exit 2)))
(.seq (.block 3 (.draw (.rd 0 ⟨(some 37), none, .mov (.t 0)⟩
(.rd 1 ⟨(some 38), none, .mov (.t 9)⟩
(.rd 2 ⟨(some 39), none, .mov (.t 0)⟩
(.rd 3 ⟨(some 40), none, .mov (.t 9)⟩
(.rd 4 ⟨(some 41), none, .ibin .sub .i64 (.t 40) (.c (.int .i64 1))⟩
(.rd 5 ⟨(some 42), none, .mov (.t 0)⟩
(.rd 6 ⟨(some 43), none, .mov (.t 9)⟩
(.rd 7 ⟨(some 44), none, .ibin .sub .i64 (.t 43) (.c (.int .i64 1))⟩
(.rd 8 ⟨(some 45), none, .iaddr 1 (.t 42) (.t 44)⟩
(.rd 9 ⟨(some 46), none, .load 1 false (.t 45)⟩
(.rd 10 ⟨(some 47), none, .mov (.t 0)⟩
(.rd 11 ⟨(some 48), none, .mov (.t 9)⟩
(.rd 12 ⟨(some 49), none, .iaddr 1 (.t 47) (.t 48)⟩
(.rd 13 ⟨(some 50), none, .load 1 false (.t 49)⟩
(.rd 14 ⟨(some 51), none, .iaddr 1 (.t 37) (.t 38)⟩
(.wr 15 ⟨none, none, .store 1 (.t 51) (.t 46)⟩ [14, 9, 0, 1, 5, 6, 7, 8, 9, 13]
(.rd 16 ⟨(some 52), none, .iaddr 1 (.t 39) (.t 41)⟩
(.wr 17 ⟨none, none, .store 1 (.t 52) (.t 50)⟩ [16, 13, 15, 0, 1, 2, 3, 4, 5, 6, 7, 8, 9, 10, 11, 12, 13, 14, 15]
.fin .no)) .no)))))))))))))))) (some [0, 1, 2, 3, 8, 9])))
(.ops [⟨(some 35), none, .mov (.t 9)⟩,
⟨(some 36), none, .ibin .sub .i64 (.t 35) (.c (.int .i64 1))⟩,
⟨(some 9), none, .mov (.t 36)⟩] (some [0, 1, 2, 3, 8, 9]))))))))
(.ops [⟨(some 15), none, .mov (.t 8)⟩,
⟨(some 16), none, .ibin .add .i64 (.t 15) (.c (.int .i64 1))⟩,
⟨(some 8), none, .mov (.t 16)⟩] (some [0, 1, 2, 3, 8])))))))⟩
/-- guidevane/guidevanelaw08.awake -/
def ir198 : IFn := ⟨97, [.t 0],
(.seq (.ops [⟨(some 0), none, .mov (.c (.bool false))⟩] (some []))
(.seq (.ops [⟨(some 14), none, .call 207 []⟩,
⟨(some 15), none, .call 208 []⟩,
⟨(some 16), none, .call 206 [(.t 14), (.t 15)]⟩,
⟨(some 13), none, .mov (.t 16)⟩,
⟨(some 17), none, .extract 0 (.t 13)⟩,
⟨(some 18), none, .extract 1 (.t 13)⟩,
⟨(some 19), none, .extract 2 (.t 13)⟩,
⟨(some 1), none, .mov (.t 17)⟩,
⟨(some 2), none, .mov (.t 18)⟩,
⟨(some 3), none, .mov (.t 19)⟩] (some [1, 2, 3]))
(.seq (.ops [⟨(some 21), none, .call 207 []⟩,
⟨(some 22), none, .call 208 []⟩,
⟨(some 23), none, .bslice 2 1 [(.int .i64 0)] [(0, 1, (.c (.int .i64 0))), (1, 1, (.c (.int .i64 2)))]⟩,
⟨(some 24), none, .build [(.slice none 0 0), (.int .i64 0)] [(0, 1, (.t 23)), (1, 1, (.c (.int .i64 2)))]⟩,
⟨(some 25), none, .call 209 [(.t 21), (.t 22), (.t 24)]⟩,
⟨(some 20), none, .mov (.t 25)⟩,
⟨(some 26), none, .extract 0 (.t 20)⟩,
⟨(some 27), none, .extract 1 (.t 20)⟩,
⟨(some 4), none, .mov (.t 26)⟩,
⟨(some 5), none, .mov (.t 27)⟩] (some [1, 2, 3, 4, 5]))
(.seq (.ops [⟨(some 29), none, .bslice 3 1 [(.int .i64 0)] [(0, 1, (.c (.int .i64 12))), (1, 1, (.c (.int .i64 12))), (2, 1, (.c (.int .i64 3)))]⟩,
⟨(some 30), none, .bslice 3 1 [(.int .i64 0)] [(0, 1, (.c (.int .i64 5))), (1, 1, (.c (.int .i64 10))), (2, 1, (.c (.int .i64 5)))]⟩,
⟨(some 31), none, .call 201 [(.t 29), (.t 30)]⟩,
⟨(some 28), none, .mov (.t 31)⟩,
⟨(some 32), none, .extract 0 (.t 28)⟩,
⟨(some 33), none, .extract 1 (.t 28)⟩,
⟨(some 6), none, .alloc [(.int .i64 0), (.int .i64 0), (.int .i64 0)]⟩,
⟨none, none, .store 3 (.t 6) (.t 32)⟩,
⟨(some 7), none, .mov (.t 33)⟩] (some [1, 2, 3, 4, 5, 6, 7]))
(.seq (.ops [⟨(some 35), none, .call 211 []⟩,
⟨(some 36), none, .call 210 [(.t 35)]⟩,
⟨(some 34), none, .mov (.t 36)⟩,
⟨(some 37), none, .extract 0 (.t 34)⟩,
⟨(some 38), none, .extract 1 (.t 34)⟩,
⟨(some 39), none, .extract 2 (.t 34)⟩,
⟨(some 8), none, .mov (.t 37)⟩,
⟨(some 9), none, .mov (.t 38)⟩,
⟨(some 10), none, .mov (.t 39)⟩] (some [1, 2, 3, 4, 5, 6, 7, 8, 9, 10]))
(.seq (.ops [⟨(some 41), none, .call 207 []⟩,
⟨(some 42), none, .call 208 []⟩,
⟨(some 43), none, .call 212 [(.t 41), (.t 42), (.c (.int .i64 2))]⟩,
⟨(some 40), none, .mov (.t 43)⟩,
⟨(some 44), none, .extract 0 (.t 40)⟩,
⟨(some 45), none, .extract 1 (.t 40)⟩,
⟨(some 11), none, .mov (.t 44)⟩,
⟨(some 12), none, .mov (.t 45)⟩] (some [1, 2, 3, 4, 5, 6, 7, 8, 9, 10, 11, 12]))
(.seq (.ops [⟨(some 46), none, .mov (.t 3)⟩,
⟨(some 47), none, .ibin .eql .i64 (.t 46) (.c (.int .i64 0))⟩,
⟨(some 48), none, .mov (.t 47)⟩,
⟨(some 49), (some (48, true)), .mov (.t 1)⟩,
⟨(some 50), (some (48, true)), .bslice 2 1 [(.int .i64 0)] [(0, 1, (.c (.int .i64 0))), (1, 1, (.c (.int .i64 2)))]⟩,
⟨(some 51), (some (48, true)), .call 26 [(.t 49), (.t 50)]⟩,
⟨(some 52), none, .pick (.t 48) (.t 51) (.c (.bool false))⟩,
⟨(some 53), none, .mov (.t 52)⟩,
⟨(some 54), (some (53, true)), .mov (.t 2)⟩,
⟨(some 55), (some (53, true)), .ibin .eql .i64 (.t 54) (.c (.int .i64 30))⟩,
⟨(some 56), none, .pick (.t 53) (.t 55) (.c (.bool false))⟩,
⟨(some 57), none, .mov (.t 56)⟩,
⟨(some 58), (some (57, true)), .mov (.t 5)⟩,
⟨(some 59), (some (57, true)), .ibin .eql .i64 (.t 58) (.c (.int .i64 0))⟩,
⟨(some 60), none, .pick (.t 57) (.t 59) (.c (.bool false))⟩,
⟨(some 61), none, .mov (.t 60)⟩,
⟨(some 62), (some (61, true)), .mov (.t 4)⟩,
⟨(some 63), (some (61, true)), .bslice 2 1 [(.int .i64 0)] [(0, 1, (.c (.int .i64 1))), (1, 1, (.c (.int .i64 1)))]⟩,
⟨(some 64), (some (61, true)), .call 26 [(.t 62), (.t 63)]⟩,
⟨(some 65), none, .pick (.t 61) (.t 64) (.c (.bool false))⟩,
⟨(some 66), none, .mov (.t 65)⟩,
⟨(some 67), (some (66, true)), .mov (.t 7)⟩,
⟨(some 68), (some (66, true)), .ibin .eql .i64 (.t 67) (.c (.int .i64 0))⟩,
⟨(some 69), none, .pick (.t 66) (.t 68) (.c (.bool false))⟩,
⟨(some 70), none, .mov (.t 69)⟩,
⟨(some 71), (some (70, true)), .load 3 true (.t 6)⟩,
⟨(some 72), (some (70, true)), .build [(.int .i64 0), (.int .i64 0), (.int .i64 0)] [(0, 1, (.c (.int .i64 18))), (1, 1, (.c (.int .i64 9))), (2, 1, (.c (.int .i64 2)))]⟩,
⟨(some 73), (some (70, true)), .eqv (.fld 0 1 (.int .i64) (.fld 1 1 (.int .i64) (.fld 2 1 (.int .i64) .nil))) false (.t 71) (.t 72)⟩,
⟨(some 74), none, .pick (.t 70) (.t 73) (.c (.bool false))⟩,
⟨(some 75), none, .mov (.t 74)⟩,
⟨(some 76), (some (75, true)), .mov (.t 10)⟩,
⟨(some 77), (some (75, true)), .ibin .eql .i64 (.t 76) (.c (.int .i64 0))⟩,
⟨(some 78), none, .pick (.t 75) (.t 77) (.c (.bool false))⟩,
⟨(some 79), none, .mov (.t 78)⟩,
⟨(some 80), (some (79, true)), .mov (.t 8)⟩,
⟨(some 81), (some (79, true)), .bslice 3 1 [(.int .i64 0)] [(0, 1, (.c (.int .i64 0))), (1, 1, (.c (.int .i64 1))), (2, 1, (.c (.int .i64 2)))]⟩,
⟨(some 82), (some (79, true)), .call 26 [(.t 80), (.t 81)]⟩,
⟨(some 83), none, .pick (.t 79) (.t 82) (.c (.bool false))⟩,
⟨(some 84), none, .mov (.t 83)⟩,
⟨(some 85), (some (84, true)), .mov (.t 9)⟩,
⟨(some 86), (some (84, true)), .ibin .eql .i64 (.t 85) (.c (.int .i64 1))⟩,
⟨(some 87), none, .pick (.t 84) (.t 86) (.c (.bool false))⟩,
⟨(some 88), none, .mov (.t 87)⟩,
⟨(some 89), (some (88, true)), .mov (.t 12)⟩,
⟨(some 90), (some (88, true)), .ibin .eql .i64 (.t 89) (.c (.int .i64 0))⟩,
⟨(some 91), none, .pick (.t 88) (.t 90) (.c (.bool false))⟩,
⟨(some 92), none, .mov (.t 91)⟩,
⟨(some 93), (some (92, true)), .mov (.t 11)⟩,
⟨(some 94), (some (92, true)), .bslice 3 1 [(.int .i64 0)] [(0, 1, (.c (.int .i64 2))), (1, 1, (.c (.int .i64 5))), (2, 1, (.c (.int .i64 8)))]⟩,
⟨(some 95), (some (92, true)), .call 26 [(.t 93), (.t 94)]⟩,
⟨(some 96), none, .pick (.t 92) (.t 95) (.c (.bool false))⟩,
⟨(some 0), none, .mov (.t 96)⟩] (some [0]))
.ret)))))))⟩
/-- guidevane/dispatch.SettledOf -/
def ir201 : IFn := ⟨81, [.cell 4 3 true, .t 5],
(.seq (.ops [⟨(some 4), none, .alloc [(.int .i64 0), (.int .i64 0), (.int .i64 0)]⟩,
⟨(some 5), none, .mov (.c (.int .i64 0))⟩] (some [0, 1, 4]))
(.seq (.seq (.ops [⟨(some 12), none, .mov (.t 0)⟩,
⟨(some 13), none, .call 217 [(.t 12)]⟩,
⟨(some 14), none, .mov (.t 1)⟩,
⟨(some 15), none, .call 217 [(.t 14)]⟩,
⟨(some 16), none, .mov (.t 0)⟩,
⟨(some 17), none, .lenV (.t 16)⟩,
⟨(some 18), none, .mov (.t 1)⟩,
⟨(some 19), none, .lenV (.t 18)⟩,
⟨(some 20), none, .ibin .eql .i64 (.t 17) (.t 19)⟩,
⟨(some 21), none, .call 214 [(.t 20), (.c (.int .i64 10))]⟩,
⟨(some 22), none, .bslice 3 1 [(.int .i64 0)] [(0, 1, (.t 13)), (1, 1, (.t 15)), (2, 1, (.t 21))]⟩,
⟨(some 23), none, .call 213 [(.t 22)]⟩,
⟨(some 6), none, .mov (.t 23)⟩] (some [0, 1, 4, 6]))
(.seq (.ops [⟨(some 24), none, .mov (.t 6)⟩,
⟨(some 25), none, .ibin .neq .i64 (.t 24) (.c (.int .i64 0))⟩] (some [0, 1, 4, 6, 25]))
(.cond (.t 25)
(.seq (.ops [⟨(some 26), none, .build [(.int .i64 0), (.int .i64 0), (.int .i64 0)] []⟩,
⟨(some 27), none, .mov (.t 6)⟩,
⟨none, none, .store 3 (.t 4) (.t 26)⟩,
⟨(some 5), none, .mov (.t 27)⟩] (some [4, 5]))
.ret)
.skip)))
(.seq (.ops [⟨(some 7), none, .alloc [(.int .i64 0), (.int .i64 0), (.int .i64 0)]⟩] none)
(.seq (.seq (.ops [⟨(some 28), none, .mov (.t 0)⟩,
⟨(some 29), none, .lenV (.t 28)⟩,
⟨(some 30), none, .mov (.c (.int .i64 0))⟩] (some [1, 4, 7, 28, 29, 30]))
(.block 0 (.loop (.seq (.ops [⟨(some 31), none, .ibin .lss .i64 (.t 30) (.t 29)⟩] none)
(.seq (.cond (.t 31)
.skip
(.exit 0))
(.seq (.block 1 (.seq (.ops [⟨(some 32), none, .mov (.t 30)⟩,
⟨(some 33), none, .iaddr 1 (.t 28) (.t 30)⟩,
⟨(some 34), none, .load 1 false (.t 33)⟩,
⟨(some 8), none, .mov (.t 32)⟩,
⟨(some 9), none, .mov (.t 34)⟩] (some [1, 4, 7, 8, 9, 28, 29, 30]))
(.seq (.ops [⟨(some 35), none, .mov (.t 1)⟩,
⟨(some 36), none, .mov (.t 8)⟩,
⟨(some 37), none, .iaddr 1 (.t 35) (.t 36)⟩,
⟨(some 38), none, .load 1 false (.t 37)⟩,
⟨(some 10), none, .mov (.t 38)⟩] (some [1, 4, 7, 9, 10, 28, 29, 30]))
(.seq (.ops [⟨(some 11), none, .mov (.c (.int .i64 0))⟩] none)
(.seq (.seq (.ops [⟨(some 39), none, .mov (.t 9)⟩,
⟨(some 40), none, .ibin .gtr .i64 (.t 39) (.c (.int .i64 0))⟩,
⟨(some 41), none, .mov (.t 40)⟩,
⟨(some 42), (some (41, true)), .mov (.t 10)⟩,
⟨(some 43), (some (41, true)), .ibin .gtr .i64 (.t 42) (.c (.int .i64 0))⟩,
⟨(some 44), none, .pick (.t 41) (.t 43) (.c (.bool false))⟩,
⟨(some 45), none, .mov (.t 44)⟩,
⟨(some 46), (some (45, false)), .mov (.t 9)⟩,
⟨(some 47), (some (45, false)), .ibin .lss .i64 (.t 46) (.c (.int .i64 0))⟩,
⟨(some 48), (some (45, false)), .mov (.t 47)⟩,
⟨(some 49), (some (48, true)), .mov (.t 10)⟩,
⟨(some 50), (some (48, true)), .ibin .lss .i64 (.t 49) (.c (.int .i64 0))⟩,
⟨(some 51), (some (45, false)), .pick (.t 48) (.t 50) (.c (.bool false))⟩,
⟨(some 52), none, .pick (.t 45) (.c (.bool true)) (.t 51)⟩] (some [1, 4, 7, 9, 10, 11, 28, 29, 30, 52]))
(.cond (.t 52)
(.ops [⟨(some 53), none, .mov (.t 9)⟩,
⟨(some 54), none, .call 218 [(.t 53)]⟩,
⟨(some 55), none, .mov (.t 10)⟩,
⟨(some 56), none, .call 218 [(.t 55)]⟩,
⟨(some 57), none, .minmax false (.t 54) [(.t 56)]⟩,
⟨(some 11), none, .mov (.t 57)⟩] (some [1, 4, 7, 9, 10, 11, 28, 29, 30]))
.skip))
(.seq (.ops [⟨(some 58), none, .faddr 0 (.t 7)⟩,
⟨(some 59), none, .load 1 false (.t 58)⟩,
⟨(some 60), none, .mov (.t 11)⟩,
⟨(some 61), none, .ibin .add .i64 (.t 59) (.t 60)⟩,
⟨(some 62), none, .faddr 0 (.t 7)⟩,
⟨none, none, .store 1 (.t 62) (.t 61)⟩] (some [1, 4, 7, 9, 10, 11, 28, 29, 30]))
(.seq (.draw (.rd 0 ⟨(some 63), none, .faddr 1 (.t 7)⟩
(.rd 1 ⟨(some 64), none, .load 1 false (.t 63)⟩
(.rd 2 ⟨(some 65), none, .mov (.t 9)⟩
(.rd 4 ⟨(some 67), none, .mov (.t 11)⟩
(.wr 3 ⟨(some 66), none, .call 218 [(.t 65)]⟩ [2]
(.rd 5 ⟨(some 68), none, .ibin .sub .i64 (.t 66) (.t 67)⟩
(.rd 6 ⟨(some 69), none, .ibin .add .i64 (.t 64) (.t 68)⟩
(.rd 7 ⟨(some 70), none, .faddr 1 (.t 7)⟩
(.wr 8 ⟨none, none, .store 1 (.t 70) (.t 69)⟩ [7, 6, 3, 0, 1, 2, 3, 4, 5, 6]
.fin .no)))) .no))))) (some [1, 4, 7, 10, 11, 28, 29, 30]))
(.draw (.rd 0 ⟨(some 71), none, .faddr 2 (.t 7)⟩
(.rd 1 ⟨(some 72), none, .load 1 false (.t 71)⟩
(.rd 2 ⟨(some 73), none, .mov (.t 10)⟩
(.rd 4 ⟨(some 75), none, .mov (.t 11)⟩
(.wr 3 ⟨(some 74), none, .call 218 [(.t 73)]⟩ [2]
(.rd 5 ⟨(some 76), none, .ibin .sub .i64 (.t 74) (.t 75)⟩
(.rd 6 ⟨(some 77), none, .ibin .add .i64 (.t 72) (.t 76)⟩
(.rd 7 ⟨(some 78), none, .faddr 2 (.t 7)⟩
(.wr 8 ⟨none, none, .store 1 (.t 78) (.t 77)⟩ [7, 6, 3, 0, 1, 2, 3, 4, 5, 6]
.fin .no)))) .no))))) (some [1, 4, 7, 28, 29, 30])))))))))
(.ops [⟨(some 79), none, .ibin .add .i64 (.t 30) (.c (.int .i64 1))⟩,
⟨(some 30), none, .mov (.t 79)⟩] (some [1, 4, 7, 28, 29, 30]))))))))
(.seq (.ops [⟨(some 80), none, .load 3 true (.t 7)⟩,
⟨none, none, .store 3 (.t 4) (.t 80)⟩,
⟨(some 5), none, .mov (.c (.int .i64 0))⟩] (some [4, 5]))
.ret)))))⟩
/-- guidevane/dispatch.BestPlan -/
def ir206 : IFn := ⟨32, [.t 4, .t 5, .t 6],
(.seq (.ops [⟨(some 2), none, .box (.t 0)⟩,
⟨(some 3), none, .box (.t 1)⟩,
⟨(some 4), none, .mov (.c (.slice none 0 0))⟩,
⟨(some 5), none, .mov (.c (.int .i64 0))⟩,
⟨(some 6), none, .mov (.c (.int .i64 0))⟩] (some [2, 3]))
(.seq (.ops [⟨(some 13), none, .load 3 true (.t 2)⟩,
⟨(some 14), none, .load 4 true (.t 3)⟩,
⟨(some 15), none, .call 219 [(.t 13), (.t 14)]⟩,
⟨(some 12), none, .mov (.t 15)⟩,
⟨(some 16), none, .extract 0 (.t 12)⟩,
⟨(some 17), none, .extract 1 (.t 12)⟩,
⟨(some 7), none, .alloc [(.int .i64 0), (.int .i64 0), (.slice none 0 0), (.int .i64 0), (.int .i64 0), (.int .i64 0), (.slice none 0 0)]⟩,
⟨none, none, .store 7 (.t 7) (.t 16)⟩,
⟨(some 8), none, .mov (.t 17)⟩] (some [7, 8]))
(.seq (.seq (.ops [⟨(some 18), none, .mov (.t 8)⟩,
⟨(some 19), none, .ibin .neq .i64 (.t 18) (.c (.int .i64 0))⟩] (some [7, 8, 19]))
(.cond (.t 19)
(.seq (.ops [⟨(some 20), none, .mov (.t 8)⟩,
⟨(some 4), none, .mov (.c (.slice none 0 0))⟩,
⟨(some 5), none, .mov (.c (.int .i64 0))⟩,
⟨(some 6), none, .mov (.t 20)⟩] (some [4, 5, 6]))
.ret)
.skip))
(.seq (.ops [⟨(some 22), none, .load 7 true (.t 7)⟩,
⟨(some 23), none, .build [(.int .i64 0), (.int .i64 0)] [(0, 1, (.c (.int .i64 (-1))))]⟩,
⟨(some 24), none, .call 220 [(.t 22), (.t 23)]⟩,
⟨(some 21), none, .mov (.t 24)⟩,
⟨(some 25), none, .extract 0 (.t 21)⟩,
⟨(some 26), none, .extract 1 (.t 21)⟩,
⟨(some 27), none, .extract 2 (.t 21)⟩,
⟨(some 9), none, .mov (.t 25)⟩,
⟨(some 10), none, .mov (.t 26)⟩,
⟨(some 11), none, .mov (.t 27)⟩] (some [9, 10, 11]))
(.seq (.ops [⟨(some 28), none, .mov (.t 9)⟩,
⟨(some 29), none, .mov (.t 10)⟩,
⟨(some 30), none, .mov (.t 11)⟩,
⟨(some 31), none, .call 214 [(.t 30), (.c (.int .i64 12))]⟩,
⟨(some 4), none, .mov (.t 28)⟩,
⟨(some 5), none, .mov (.t 29)⟩,
⟨(some 6), none, .mov (.t 31)⟩] (some [4, 5, 6]))
.ret)))))⟩
/-- guidevane/guidevanelaw08.Plant -/
def ir207 : IFn := ⟨6, [.cell 0 3 true],
(.seq (.ops [⟨(some 0), none, .alloc [(.int .i64 0), (.int .i64 0), (.slice none 0 0)]⟩] none)
(.seq (.ops [⟨(some 1), none, .build [(.string ⟨#[]⟩), (.int .i64 0), (.int .i64 0), (.int .i64 0)] [(0, 1, (.c (.string ⟨#[114, 101, 115, 116]⟩)))]⟩,
⟨(some 2), none, .build [(.string ⟨#[]⟩), (.int .i64 0), (.int .i64 0), (.int .i64 0)] [(0, 1, (.c (.string ⟨#[112, 117, 109, 112]⟩))), (1, 1, (.c (.int .i64 3))), (2, 1, (.c (.int .i64 (-4)))), (3, 1, (.c (.int .i64 5)))]⟩,
⟨(some 3), none, .build [(.string ⟨#[]⟩), (.int .i64 0), (.int .i64 0), (.int .i64 0)] [(0, 1, (.c (.string ⟨#[116, 117, 114, 98, 105, 110, 101]⟩))), (1, 1, (.c (.int .i64 (-3)))), (2, 1, (.c (.int .i64 3))), (3, 1, (.c (.int .i64 2)))]⟩,
⟨(some 4), none, .bslice 3 4 [(.string ⟨#[]⟩), (.int .i64 0), (.int .i64 0), (.int .i64 0)] [(0, 4, (.t 1)), (4, 4, (.t 2)), (8, 4, (.t 3))]⟩,
⟨(some 5), none, .build [(.int .i64 0), (.int .i64 0), (.slice none 0 0)] [(1, 1, (.c (.int .i64 10))), (2, 1, (.t 4))]⟩,
⟨none, none, .store 3 (.t 0) (.t 5)⟩] (some [0]))
.ret))⟩
/-- guidevane/guidevanelaw08.Task -/
def ir208 : IFn := ⟨5, [.cell 0 4 true],
(.seq (.ops [⟨(some 0), none, .alloc [(.int .i64 0), (.int .i64 0), (.int .i64 0), (.slice none 0 0)]⟩] none)
(.seq (.ops [⟨(some 1), none, .build [(.int .i64 0), (.int .i64 0), (.int .i64 0)] [(0, 1, (.c (.int .i64 2))), (1, 1, (.c (.int .i64 1)))]⟩,
⟨(some 2), none, .build [(.int .i64 0), (.int .i64 0), (.int .i64 0)] [(0, 1, (.c (.int .i64 12))), (1, 1, (.c (.int .i64 10))), (2, 1, (.c (.int .i64 1)))]⟩,
⟨(some 3), none, .bslice 2 3 [(.int .i64 0), (.int .i64 0), (.int .i64 0)] [(0, 3, (.t 1)), (3, 3, (.t 2))]⟩,
⟨(some 4), none, .build [(.int .i64 0), (.int .i64 0), (.int .i64 0), (.slice none 0 0)] [(0, 1, (.c (.int .i64 4))), (2, 1, (.c (.int .i64 1))), (3, 1, (.t 3))]⟩,
⟨none, none, .store 4 (.t 0) (.t 4)⟩] (some [0]))
.ret))⟩
/-- guidevane/dispatch.ReserveOf -/
def ir209 : IFn := ⟨53, [.t 6, .t 7],
(.seq (.ops [⟨(some 3), none, .box (.t 0)⟩,
⟨(some 4), none, .box (.t 1)⟩,
⟨(some 5), none, .box (.t 2)⟩,
⟨(some 6), none, .mov (.c (.slice none 0 0))⟩,
⟨(some 7), none, .mov (.c (.int .i64 0))⟩] (some [3, 4, 5]))
(.seq (.ops [⟨(some 14), none, .load 3 true (.t 3)⟩,
⟨(some 15), none, .load 4 true (.t 4)⟩,
⟨(some 16), none, .faddr 0 (.t 5)⟩,
⟨(some 17), none, .load 1 false (.t 16)⟩,
⟨(some 18), none, .call 221 [(.t 14), (.t 15), (.t 17)]⟩,
⟨(some 13), none, .mov (.t 18)⟩,
⟨(some 19), none, .extract 0 (.t 13)⟩,
⟨(some 20), none, .extract 1 (.t 13)⟩,
⟨(some 21), none, .extract 2 (.t 13)⟩,
⟨(some 8), none, .alloc [(.int .i64 0), (.int .i64 0), (.slice none 0 0), (.int .i64 0), (.int .i64 0), (.int .i64 0), (.slice none 0 0)]⟩,
⟨none, none, .store 7 (.t 8) (.t 19)⟩,
⟨(some 9), none, .mov (.t 20)⟩,
⟨(some 10), none, .mov (.t 21)⟩] (some [4, 5, 8, 9, 10]))
(.seq (.seq (.ops [⟨(some 22), none, .mov (.t 10)⟩,
⟨(some 23), none, .load 7 true (.t 8)⟩,
⟨(some 24), none, .faddr 1 (.t 5)⟩,
⟨(some 25), none, .load 1 false (.t 24)⟩,
⟨(some 26), none, .call 222 [(.t 23), (.t 25)]⟩,
⟨(some 27), none, .call 214 [(.t 26), (.c (.int .i64 6))]⟩,
⟨(some 28), none, .bslice 2 1 [(.int .i64 0)] [(0, 1, (.t 22)), (1, 1, (.t 27))]⟩,
⟨(some 29), none, .call 213 [(.t 28)]⟩,
⟨(some 10), none, .mov (.t 29)⟩] (some [4, 5, 8, 9, 10]))
(.seq (.ops [⟨(some 30), none, .mov (.t 10)⟩,
⟨(some 31), none, .ibin .neq .i64 (.t 30) (.c (.int .i64 0))⟩] (some [4, 5, 8, 9, 10, 31]))
(.cond (.t 31)
(.seq (.ops [⟨(some 32), none, .mov (.t 10)⟩,
⟨(some 6), none, .mov (.c (.slice none 0 0))⟩,
⟨(some 7), none, .mov (.t 32)⟩] (some [6, 7]))
.ret)
.skip)))
(.seq (.ops [⟨(some 11), none, .mov (.c (.slice none 0 0))⟩] none)
(.seq (.seq (.ops [⟨(some 33), none, .faddr 3 (.t 4)⟩,
⟨(some 34), none, .load 1 false (.t 33)⟩,
⟨(some 35), none, .lenV (.t 34)⟩,
⟨(some 36), none, .mov (.c (.int .i64 0))⟩] (some [5, 8, 9, 11, 35, 36]))
(.block 0 (.loop (.seq (.ops [⟨(some 37), none, .ibin .lss .i64 (.t 36) (.t 35)⟩] none)
(.seq (.cond (.t 37)
.skip
(.exit 0))
(.seq (.block 1 (.seq (.ops [⟨(some 38), none, .mov (.t 36)⟩,
⟨(some 12), none, .mov (.t 38)⟩] (some [5, 8, 9, 11, 12, 35, 36]))
(.draw (.rd 0 ⟨(some 39), none, .mov (.t 11)⟩
(.rd 1 ⟨(some 40), none, .load 7 true (.t 8)⟩
(.rd 2 ⟨(some 41), none, .mov (.t 9)⟩
(.rd 3 ⟨(some 42), none, .mov (.t 12)⟩
(.rd 4 ⟨(some 43), none, .iaddr 1 (.t 41) (.t 42)⟩
(.rd 5 ⟨(some 44), none, .load 1 false (.t 43)⟩
(.rd 6 ⟨(some 45), none, .mov (.t 12)⟩
(.rd 7 ⟨(some 46), none, .faddr 1 (.t 5)⟩
(.rd 8 ⟨(some 47), none, .load 1 false (.t 46)⟩
(.wr 9 ⟨(some 48), none, .call 223 [(.t 40), (.t 44), (.t 45), (.t 47)]⟩ [1, 5, 6, 8]
(.wr 10 ⟨(some 49), none, .bslice 1 1 [(.int .i64 0)] [(0, 1, (.t 48))]⟩ [9]
(.wr 11 ⟨(some 50), none, .append 1 8 (.t 39) (.t 49)⟩ [0, 10, 9]
(.wr 12 ⟨(some 11), none, .mov (.t 50)⟩ [11, 11, 0, 1, 2, 3, 4, 5, 6, 7, 8, 9, 10, 11]
.fin .no) .no) .no) .no)))))))))) (some [5, 8, 9, 11, 35, 36]))))
(.ops [⟨(some 51), none, .ibin .add .i64 (.t 36) (.c (.int .i64 1))⟩,
⟨(some 36), none, .mov (.t 51)⟩] (some [5, 8, 9, 11, 35, 36]))))))))
(.seq (.ops [⟨(some 52), none, .mov (.t 11)⟩,
⟨(some 6), none, .mov (.t 52)⟩,
⟨(some 7), none, .mov (.c (.int .i64 0))⟩] (some [6, 7]))
.ret))))))⟩
/-- guidevane/dispatch.BestOrder -/
def ir210 : IFn := ⟨71, [.t 2, .t 3, .t 4],
(.seq (.ops [⟨(some 2), none, .mov (.c (.slice none 0 0))⟩,
⟨(some 3), none, .mov (.c (.int .i64 0))⟩,
⟨(some 4), none, .mov (.c (.int .i64 0))⟩] (some [0]))
(.seq (.ops [⟨(some 15), none, .mov (.t 0)⟩,
⟨(some 16), none, .call 224 [(.t 15)]⟩,
⟨(some 14), none, .mov (.t 16)⟩,
⟨(some 17), none, .extract 0 (.t 14)⟩,
⟨(some 18), none, .extract 1 (.t 14)⟩,
⟨(some 5), none, .mov (.t 17)⟩,
⟨(some 6), none, .mov (.t 18)⟩] (some [5, 6]))
(.seq (.seq (.ops [⟨(some 19), none, .mov (.t 6)⟩,
⟨(some 20), none, .ibin .neq .i64 (.t 19) (.c (.int .i64 0))⟩] (some [5, 6, 20]))
(.cond (.t 20)
(.seq (.ops [⟨(some 21), none, .mov (.t 6)⟩,
⟨(some 2), none, .mov (.c (.slice none 0 0))⟩,
⟨(some 3), none, .mov (.c (.int .i64 0))⟩,
⟨(some 4), none, .mov (.t 21)⟩] (some [2, 3, 4]))
.ret)
.skip))
(.seq (.ops [⟨(some 22), none, .mov (.t 5)⟩,
⟨(some 23), none, .call 225 [(.t 22)]⟩,
⟨(some 7), none, .mov (.t 23)⟩] (some [5, 7]))
(.seq (.ops [⟨(some 24), none, .mov (.t 5)⟩,
⟨(some 25), none, .mov (.t 5)⟩,
⟨(some 26), none, .mov (.t 7)⟩,
⟨(some 27), none, .call 227 [(.t 25), (.t 26)]⟩,
⟨(some 28), none, .call 226 [(.t 24), (.t 27), (.c (.int .i64 0))]⟩,
⟨(some 8), none, .mov (.t 28)⟩] (some [5, 7, 8]))
(.seq (.ops [⟨(some 9), none, .mov (.c (.slice none 0 0))⟩] none)
(.seq (.ops [⟨(some 10), none, .mov (.c (.int .i64 0))⟩] none)
(.seq (.block 0 (.loop (.seq (.seq (.ops [⟨(some 29), none, .mov (.t 7)⟩,
⟨(some 30), none, .lenV (.t 29)⟩,
⟨(some 31), none, .ibin .gtr .i64 (.t 30) (.c (.int .i64 0))⟩] (some [5, 7, 8, 9, 10, 31]))
(.cond (.t 31)
.skip
(.exit 0)))
(.block 1 (.seq (.ops [⟨(some 32), none, .mov (.t 7)⟩,
⟨(some 33), none, .lenV (.t 32)⟩,
⟨(some 34), none, .mov (.c (.int .i64 0))⟩] none)
(.block 2 (.loop (.seq (.ops [⟨(some 35), none, .ibin .lss .i64 (.t 34) (.t 33)⟩] none)
(.seq (.cond (.t 35)
.skip
(.exit 2))
(.seq (.block 3 (.seq (.ops [⟨(some 36), none, .mov (.t 34)⟩,
⟨(some 37), none, .iaddr 1 (.t 32) (.t 34)⟩,
⟨(some 38), none, .load 1 false (.t 37)⟩,
⟨(some 11), none, .mov (.t 36)⟩,
⟨(some 12), none, .mov (.t 38)⟩] (some [5, 7, 8, 9, 10, 11, 12, 32, 33, 34]))
(.seq (.ops [⟨(some 39), none, .mov (.t 7)⟩,
⟨(some 40), none, .call 73 [(.t 39)]⟩,
⟨(some 41), none, .mov (.t 11)⟩,
⟨(some 42), none, .mov (.t 11)⟩,
⟨(some 43), none, .ibin .add .i64 (.t 42) (.c (.int .i64 1))⟩,
⟨(some 44), none, .call 228 [(.t 40), (.t 41), (.t 43)]⟩,
⟨(some 13), none, .mov (.t 44)⟩] (some [5, 7, 8, 9, 10, 12, 13, 32, 33, 34]))
(.seq (.ops [⟨(some 45), none, .mov (.t 5)⟩,
⟨(some 46), none, .mov (.t 12)⟩,
⟨(some 47), none, .bslice 1 1 [(.int .i64 0)] [(0, 1, (.t 46))]⟩,
⟨(some 48), none, .mov (.t 5)⟩,
⟨(some 49), none, .mov (.t 13)⟩,
⟨(some 50), none, .call 227 [(.t 48), (.t 49)]⟩,
⟨(some 51), none, .append 1 8 (.t 47) (.t 50)⟩,
⟨(some 52), none, .mov (.t 10)⟩,
⟨(some 53), none, .call 226 [(.t 45), (.t 51), (.t 52)]⟩,
⟨(some 54), none, .mov (.t 8)⟩,
⟨(some 55), none, .ibin .leq .i64 (.t 53) (.t 54)⟩] (some [5, 7, 8, 9, 10, 12, 13, 32, 33, 34, 55]))
(.cond (.t 55)
(.seq (.draw (.rd 0 ⟨(some 56), none, .mov (.t 9)⟩
(.rd 1 ⟨(some 57), none, .mov (.t 12)⟩
(.rd 4 ⟨(some 60), none, .mov (.t 13)⟩
(.rd 5 ⟨(some 61), none, .mov (.t 10)⟩
(.rd 6 ⟨(some 62), none, .mov (.t 5)⟩
(.rd 7 ⟨(some 63), none, .mov (.t 12)⟩
(.rd 8 ⟨(some 64), none, .iaddr 3 (.t 62) (.t 63)⟩
(.rd 9 ⟨(some 65), none, .faddr 2 (.t 64)⟩
(.rd 10 ⟨(some 66), none, .load 1 false (.t 65)⟩
(.rd 11 ⟨(some 67), none, .ibin .add .i64 (.t 61) (.t 66)⟩
(.wr 2 ⟨(some 58), none, .bslice 1 1 [(.int .i64 0)] [(0, 1, (.t 57))]⟩ [1]
(.wr 3 ⟨(some 59), none, .append 1 8 (.t 56) (.t 58)⟩ [0, 2]
(.wr 12 ⟨(some 9), none, .mov (.t 59)⟩ [3, 3, 0, 1, 2, 3]
(.rd 13 ⟨(some 7), none, .mov (.t 60)⟩
(.wr 14 ⟨(some 10), none, .mov (.t 67)⟩ [11, 13, 0, 1, 2, 3, 4, 5, 6, 7, 8, 9, 10, 11, 12, 13]
.fin .no)) .no) .no) .no))))))))))) (some [5, 7, 8, 9, 10]))
(.exit 2))
.skip)))))
(.ops [⟨(some 68), none, .ibin .add .i64 (.t 34) (.c (.int .i64 1))⟩,
⟨(some 34), none, .mov (.t 68)⟩] (some [5, 7, 8, 9, 10, 32, 33, 34]))))))))))))
(.seq (.ops [⟨(some 69), none, .mov (.t 9)⟩,
⟨(some 70), none, .mov (.t 8)⟩,
⟨(some 2), none, .mov (.t 69)⟩,
⟨(some 3), none, .mov (.t 70)⟩,
⟨(some 4), none, .mov (.c (.int .i64 0))⟩] (some [2, 3, 4]))
.ret)))))))))⟩
/-- guidevane/guidevanelaw08.Revisions -/
def ir211 : IFn := ⟨5, [.t 0],
(.seq (.ops [⟨(some 0), none, .mov (.c (.slice none 0 0))⟩] (some []))
(.seq (.ops [⟨(some 1), none, .build [(.string ⟨#[]⟩), (.int .i64 0), (.int .i64 0)] [(0, 1, (.c (.string ⟨#[97]⟩))), (1, 1, (.c (.int .i64 5))), (2, 1, (.c (.int .i64 3)))]⟩,
⟨(some 2), none, .build [(.string ⟨#[]⟩), (.int .i64 0), (.int .i64 0)] [(0, 1, (.c (.string ⟨#[98]⟩))), (1, 1, (.c (.int .i64 4))), (2, 1, (.c (.int .i64 2)))]⟩,
⟨(some 3), none, .build [(.string ⟨#[]⟩), (.int .i64 0), (.int .i64 0)] [(0, 1, (.c (.string ⟨#[99]⟩))), (1, 1, (.c (.int .i64 9))), (2, 1, (.c (.int .i64 5)))]⟩,
⟨(some 4), none, .bslice 3 3 [(.string ⟨#[]⟩), (.int .i64 0), (.int .i64 0)] [(0, 3, (.t 1)), (3, 3, (.t 2)), (6, 3, (.t 3))]⟩,
⟨(some 0), none, .mov (.t 4)⟩] (some [0]))
.ret))⟩
/-- guidevane/dispatch.ReachableAt -/
def ir212 : IFn := ⟨37, [.t 6, .t 7],
(.seq (.ops [⟨(some 3), none, .box (.t 0)⟩,
⟨(some 4), none, .box (.t 1)⟩,
⟨(some 5), none, .box (.t 2)⟩,
⟨(some 6), none, .mov (.c (.slice none 0 0))⟩,
⟨(some 7), none, .mov (.c (.int .i64 0))⟩] (some [3, 4, 5]))
(.seq (.ops [⟨(some 12), none, .load 3 true (.t 3)⟩,
⟨(some 13), none, .load 4 true (.t 4)⟩,
⟨(some 14), none, .call 219 [(.t 12), (.t 13)]⟩,
⟨(some 11), none, .mov (.t 14)⟩,
⟨(some 15), none, .extract 0 (.t 11)⟩,
⟨(some 16), none, .extract 1 (.t 11)⟩,
⟨(some 8), none, .alloc [(.int .i64 0), (.int .i64 0), (.slice none 0 0), (.int .i64 0), (.int .i64 0), (.int .i64 0), (.slice none 0 0)]⟩,
⟨none, none, .store 7 (.t 8) (.t 15)⟩,
⟨(some 9), none, .mov (.t 16)⟩] (some [4, 5, 8, 9]))
(.seq (.seq (.ops [⟨(some 17), none, .mov (.t 9)⟩,
⟨(some 18), none, .load 1 false (.t 5)⟩,
⟨(some 19), none, .faddr 3 (.t 4)⟩,
⟨(some 20), none, .load 1 false (.t 19)⟩,
⟨(some 21), none, .lenV (.t 20)⟩,
⟨(some 22), none, .call 216 [(.t 18), (.c (.int .i64 0)), (.t 21)]⟩,
⟨(some 23), none, .call 214 [(.t 22), (.c (.int .i64 2))]⟩,
⟨(some 24), none, .bslice 2 1 [(.int .i64 0)] [(0, 1, (.t 17)), (1, 1, (.t 23))]⟩,
⟨(some 25), none, .call 213 [(.t 24)]⟩,
⟨(some 9), none, .mov (.t 25)⟩] (some [5, 8, 9]))
(.seq (.ops [⟨(some 26), none, .mov (.t 9)⟩,
⟨(some 27), none, .ibin .neq .i64 (.t 26) (.c (.int .i64 0))⟩] (some [5, 8, 9, 27]))
(.cond (.t 27)
(.seq (.ops [⟨(some 28), none, .mov (.t 9)⟩,
⟨(some 6), none, .mov (.c (.slice none 0 0))⟩,
⟨(some 7), none, .mov (.t 28)⟩] (some [6, 7]))
.ret)
.skip)))
(.seq (.ops [⟨(some 29), none, .load 7 true (.t 8)⟩,
⟨(some 30), none, .build [(.int .i64 0), (.int .i64 0)] [(0, 1, (.c (.int .i64 (-1))))]⟩,
⟨(some 31), none, .call 229 [(.t 29), (.t 30)]⟩,
⟨(some 10), none, .alloc [(.slice none 0 0)]⟩,
⟨none, none, .store 1 (.t 10) (.t 31)⟩] (some [5, 8, 10]))
(.seq (.ops [⟨(some 32), none, .load 7 true (.t 8)⟩,
⟨(some 33), none, .load 1 false (.t 5)⟩,
⟨(some 34), none, .call 231 [(.t 32), (.t 33)]⟩,
⟨(some 35), none, .mkfunc 232 [] [(.t 10), (.t 5), (.t 8)]⟩,
⟨(some 36), none, .call 230 [(.t 34), (.t 35)]⟩,
⟨(some 6), none, .mov (.t 36)⟩,
⟨(some 7), none, .mov (.c (.int .i64 0))⟩] (some [6, 7]))
.ret)))))⟩
/-- guidevane/dispatch.first -/
def ir213 : IFn := ⟨15, [.t 2],
(.seq (.ops [⟨(some 2), none, .mov (.c (.int .i64 0))⟩] (some [0]))
(.seq (.seq (.ops [⟨(some 5), none, .mov (.t 0)⟩,
⟨(some 6), none, .lenV (.t 5)⟩,
⟨(some 7), none, .mov (.c (.int .i64 0))⟩] (some [5, 6, 7]))
(.block 0 (.loop (.seq (.ops [⟨(some 8), none, .ibin .lss .i64 (.t 7) (.t 6)⟩] none)
(.seq (.cond (.t 8)
.skip
(.exit 0))
(.seq (.block 1 (.seq (.ops [⟨(some 9), none, .iaddr 1 (.t 5) (.t 7)⟩,
⟨(some 10), none, .load 1 false (.t 9)⟩,
⟨(some 4), none, .mov (.t 10)⟩] (some [4, 5, 6, 7]))
(.seq (.ops [⟨(some 11), none, .mov (.t 4)⟩,
⟨(some 12), none, .ibin .neq .i64 (.t 11) (.c (.int .i64 0))⟩] (some [4, 5, 6, 7, 12]))
(.cond (.t 12)
(.seq (.ops [⟨(some 13), none, .mov (.t 4)⟩,
⟨(some 2), none, .mov (.t 13)⟩] (some [2]))
.ret)
.skip))))
(.ops [⟨(some 14), none, .ibin .add .i64 (.t 7) (.c (.int .i64 1))⟩,
⟨(some 7), none, .mov (.t 14)⟩] (some [5, 6, 7]))))))))
(.seq (.ops [⟨(some 2), none, .mov (.c (.int .i64 0))⟩] none)
.ret)))⟩
/-- guidevane/dispatch.unless -/
def ir214 : IFn := ⟨7, [.t 4],
(.seq (.ops [⟨(some 4), none, .mov (.c (.int .i64 0))⟩] (some [0, 1]))
(.seq (.seq (.ops [⟨(some 5), none, .mov (.t 0)⟩] (some [1, 5]))
(.cond (.t 5)
(.seq (.ops [⟨(some 4), none, .mov (.c (.int .i64 0))⟩] none)
.ret)
.skip))
(.seq (.ops [⟨(some 6), none, .mov (.t 1)⟩,
⟨(some 4), none, .mov (.t 6)⟩] (some [4]))
.ret)))⟩
/-- guidevane/dispatch.isPower -/
def ir215 : IFn := ⟨5, [.t 2],
(.seq (.ops [⟨(some 2), none, .mov (.c (.bool false))⟩] (some [0]))
(.seq (.ops [⟨(some 3), none, .mov (.t 0)⟩,
⟨(some 4), none, .call 235 [(.t 3), (.c (.int .i64 1000000))]⟩,
⟨(some 2), none, .mov (.t 4)⟩] (some [2]))
.ret))⟩
/-- guidevane/dispatch.within -/
def ir216 : IFn := ⟨15, [.t 6],
(.seq (.ops [⟨(some 6), none, .mov (.c (.bool false))⟩] (some [0, 1, 2]))
(.seq (.ops [⟨(some 7), none, .mov (.t 1)⟩,
⟨(some 8), none, .mov (.t 0)⟩,
⟨(some 9), none, .ibin .leq .i64 (.t 7) (.t 8)⟩,
⟨(some 10), none, .mov (.t 9)⟩,
⟨(some 11), (some (10, true)), .mov (.t 0)⟩,
⟨(some 12), (some (10, true)), .mov (.t 2)⟩,
⟨(some 13), (some (10, true)), .ibin .leq .i64 (.t 11) (.t 12)⟩,
⟨(some 14), none, .pick (.t 10) (.t 13) (.c (.bool false))⟩,
⟨(some 6), none, .mov (.t 14)⟩] (some [6]))
.ret))⟩
/-- guidevane/dispatch.powersErr -/
def ir217 : IFn := ⟨15, [.t 2],
(.seq (.ops [⟨(some 2), none, .mov (.c (.int .i64 0))⟩] (some [0]))
(.seq (.ops [⟨(some 4), none, .mov (.t 0)⟩,
⟨(some 5), none, .call 80 [(.t 4), (.f 236)]⟩,
⟨(some 3), none, .mov (.t 5)⟩] (some [0, 3]))
(.seq (.ops [⟨(some 6), none, .mov (.t 0)⟩,
⟨(some 7), none, .lenV (.t 6)⟩,
⟨(some 8), none, .ibin .leq .i64 (.t 7) (.c (.int .i64 300))⟩,
⟨(some 9), none, .call 214 [(.t 8), (.c (.int .i64 8))]⟩,
⟨(some 10), none, .mov (.t 3)⟩,
⟨(some 11), none, .un .not (.t 10)⟩,
⟨(some 12), none, .call 214 [(.t 11), (.c (.int .i64 2))]⟩,
⟨(some 13), none, .bslice 2 1 [(.int .i64 0)] [(0, 1, (.t 9)), (1, 1, (.t 12))]⟩,
⟨(some 14), none, .call 213 [(.t 13)]⟩,
⟨(some 2), none, .mov (.t 14)⟩] (some [2]))
.ret)))⟩
/-- guidevane/dispatch.size -/
def ir218 : IFn := ⟨7, [.t 2],
(.seq (.ops [⟨(some 2), none, .mov (.c (.int .i64 0))⟩] (some [0]))
(.seq (.ops [⟨(some 3), none, .mov (.t 0)⟩,
⟨(some 4), none, .mov (.t 0)⟩,
⟨(some 5), none, .un .neg (.t 4)⟩,
⟨(some 6), none, .minmax true (.t 3) [(.t 5)]⟩,
⟨(some 2), none, .mov (.t 6)⟩] (some [2]))
.ret))⟩
/-- guidevane/dispatch.open -/
def ir219 : IFn := ⟨18, [.cell 4 7 true, .t 5],
(.seq (.ops [⟨(some 2), none, .box (.t 0)⟩,
⟨(some 3), none, .box (.t 1)⟩,
⟨(some 4), none, .alloc [(.int .i64 0), (.int .i64 0), (.slice none 0 0), (.int .i64 0), (.int .i64 0), (.int .i64 0), (.slice none 0 0)]⟩,
⟨(some 5), none, .mov (.c (.int .i64 0))⟩] (some [2, 3, 4]))
(.seq (.ops [⟨(some 9), none, .load 3 true (.t 2)⟩,
⟨(some 10), none, .load 4 true (.t 3)⟩,
⟨(some 11), none, .call 237 [(.t 9), (.t 10)]⟩,
⟨(some 8), none, .mov (.t 11)⟩,
⟨(some 12), none, .extract 0 (.t 8)⟩,
⟨(some 13), none, .extract 1 (.t 8)⟩,
⟨(some 6), none, .mov (.t 12)⟩,
⟨(some 7), none, .mov (.t 13)⟩] (some [2, 3, 4, 7]))
(.seq (.ops [⟨(some 14), none, .load 3 true (.t 2)⟩,
⟨(some 15), none, .load 4 true (.t 3)⟩,
⟨(some 16), none, .build [(.int .i64 0), (.int .i64 0), (.slice none 0 0), (.int .i64 0), (.int .i64 0), (.int .i64 0), (.slice none 0 0)] [(0, 3, (.t 14)), (3, 4, (.t 15))]⟩,
⟨(some 17), none, .mov (.t 7)⟩,
⟨none, none, .store 7 (.t 4) (.t 16)⟩,
⟨(some 5), none, .mov (.t 17)⟩] (some [4, 5]))
.ret)))⟩
/-- (guidevane/dispatch.work).best -/
def ir220 (r : Nat → Code × Code) : IFn := ⟨92, [.t 4, .t 5, .t 6],
(.seq (.ops [⟨(some 2), none, .box (.t 0)⟩,
⟨(some 3), none, .box (.t 1)⟩,
⟨(some 4), none, .mov (.c (.slice none 0 0))⟩,
⟨(some 5), none, .mov (.c (.int .i64 0))⟩,
⟨(some 6), none, .mov (.c (.bool false))⟩] none)
(.seq (.ops [⟨(some 16), none, .load 7 true (.t 2)⟩,
⟨(some 17), none, .load 2 true (.t 3)⟩,
⟨(some 18), none, .call 229 [(.t 16), (.t 17)]⟩,
⟨(some 7), none, .alloc [(.slice none 0 0)]⟩,
⟨none, none, .store 1 (.t 7) (.t 18)⟩] none)
(.seq (.draw (.rd 0 ⟨(some 19), none, .load 1 false (.t 7)⟩
(.rd 1 ⟨(some 20), none, .iaddr 1 (.t 19) (.c (.int .i64 0))⟩
(.rd 2 ⟨(some 21), none, .load 1 false (.t 20)⟩
(.rd 3 ⟨(some 22), none, .load 7 true (.t 2)⟩
(.rd 4 ⟨(some 23), none, .faddr 3 (.t 2)⟩
(.rd 5 ⟨(some 24), none, .faddr 0 (.t 23)⟩
(.rd 6 ⟨(some 25), none, .load 1 false (.t 24)⟩
(.rd 7 ⟨(some 26), none, .faddr 3 (.t 2)⟩
(.rd 8 ⟨(some 27), none, .faddr 1 (.t 26)⟩
(.rd 9 ⟨(some 28), none, .load 1 false (.t 27)⟩
(.wr 10 ⟨(some 29), none, .call 234 [(.t 22), (.t 25), (.t 28)]⟩ [3, 6, 9]
(.rd 11 ⟨(some 30), none, .iaddr 1 (.t 21) (.t 29)⟩
(.rd 12 ⟨(some 31), none, .load 1 false (.t 30)⟩
(.rd 13 ⟨(some 8), none, .mov (.t 31)⟩
.fin))) .no))))))))))) none)
(.seq (.seq (.ops [⟨(some 32), none, .mov (.t 8)⟩,
⟨(some 33), none, .call 233 [(.t 32)]⟩,
⟨(some 34), none, .un .not (.t 33)⟩] none)
(.cond (.t 34)
(.seq (.ops [⟨(some 4), none, .mov (.c (.slice none 0 0))⟩,
⟨(some 5), none, .mov (.c (.int .i64 0))⟩,
⟨(some 6), none, .mov (.c (.bool false))⟩] none)
.ret)
.skip))
(.seq (.ops [⟨(some 9), none, .alloc [(.slice none 0 0)]⟩] none)
(.seq (.draw (.rd 0 ⟨(some 35), none, .faddr 3 (.t 2)⟩
(.rd 1 ⟨(some 36), none, .faddr 0 (.t 35)⟩
(.rd 2 ⟨(some 37), none, .load 1 false (.t 36)⟩
(.rd 3 ⟨(some 38), none, .faddr 3 (.t 2)⟩
(.rd 4 ⟨(some 39), none, .faddr 1 (.t 38)⟩
(.rd 5 ⟨(some 40), none, .load 1 false (.t 39)⟩
(.wr 6 ⟨(some 10), none, .alloc [(.int .i64 0)]⟩ []
(.wr 7 ⟨(some 11), none, .alloc [(.int .i64 0)]⟩ []
(.wr 8 ⟨none, none, .store 1 (.t 10) (.t 37)⟩ [6, 2, 0, 1, 2, 6, 7]
(.wr 9 ⟨none, none, .store 1 (.t 11) (.t 40)⟩ [7, 5, 8, 0, 1, 2, 3, 4, 5, 6, 7, 8]
.fin .no) .no) .no)
(.wr 7 ⟨(some 11), none, .alloc [(.int .i64 0)]⟩ []
(.wr 6 ⟨(some 10), none, .alloc [(.int .i64 0)]⟩ []
(.wr 8 ⟨none, none, .store 1 (.t 10) (.t 37)⟩ [6, 2, 0, 1, 2, 6, 7]
(.wr 9 ⟨none, none, .store 1 (.t 11) (.t 40)⟩ [7, 5, 8, 0, 1, 2, 3, 4, 5, 6, 7, 8]
.fin .no) .no) .no) .no)))))))) none)
(.seq (.seq (.ops [⟨(some 41), none, .faddr 3 (.t 2)⟩,
⟨(some 42), none, .faddr 3 (.t 41)⟩,
⟨(some 43), none, .load 1 false (.t 42)⟩,
⟨(some 44), none, .lenV (.t 43)⟩,
⟨(some 45), none, .mov (.c (.int .i64 0))⟩] none)
(.block 0 (.loop (.seq (.ops [⟨(some 46), none, .ibin .lss .i64 (.t 45) (.t 44)⟩] none)
(.seq (.cond (.t 46)
.skip
(.exit 0))
(.seq (.block 1 (.seq (.ops [⟨(some 47), none, .mov (.t 45)⟩,
⟨(some 12), none, .alloc [(.int .i64 0)]⟩,
⟨none, none, .store 1 (.t 12) (.t 47)⟩] none)
(.seq (.draw (.rd 0 ⟨(some 48), none, .load 1 false (.t 7)⟩
(.rd 1 ⟨(some 49), none, .load 1 false (.t 12)⟩
(.rd 2 ⟨(some 50), none, .iaddr 1 (.t 48) (.t 49)⟩
(.rd 3 ⟨(some 51), none, .load 1 false (.t 50)⟩
(.rd 4 ⟨(some 52), none, .load 7 true (.t 2)⟩
(.rd 5 ⟨(some 53), none, .load 1 false (.t 10)⟩
(.rd 6 ⟨(some 54), none, .load 1 false (.t 11)⟩
(.wr 7 ⟨(some 55), none, .call 234 [(.t 52), (.t 53), (.t 54)]⟩ [4, 5, 6]
(.rd 8 ⟨(some 56), none, .iaddr 1 (.t 51) (.t 55)⟩
(.rd 9 ⟨(some 57), none, .load 1 false (.t 56)⟩
(.wr 10 ⟨(some 13), none, .alloc [(.int .i64 0)]⟩ []
(.wr 11 ⟨none, none, .store 1 (.t 13) (.t 57)⟩ [10, 9, 7, 0, 1, 2, 3, 4, 5, 6, 7, 8, 9, 10]
.fin .no) .no)))
(.wr 10 ⟨(some 13), none, .alloc [(.int .i64 0)]⟩ []
(.wr 7 ⟨(some 55), none, .call 234 [(.t 52), (.t 53), (.t 54)]⟩ [4, 5, 6]
(.rd 8 ⟨(some 56), none, .iaddr 1 (.t 51) (.t 55)⟩
(.rd 9 ⟨(some 57), none, .load 1 false (.t 56)⟩
(.wr 11 ⟨none, none, .store 1 (.t 13) (.t 57)⟩ [10, 9, 7, 0, 1, 2, 3, 4, 5, 6, 7, 8, 9, 10]
.fin .no))) .no) .no))))))))) none)
(.seq (.ops [⟨(some 58), none, .load 7 true (.t 2)⟩,
⟨(some 59), none, .load 1 false (.t 10)⟩,
⟨(some 60), none, .load 1 false (.t 12)⟩,
⟨(some 61), none, .call 238 [(.t 58), (.t 59), (.t 60)]⟩] none)
(.block 2 (.range 92 (.t 61) #[62, 63] (r 0).1 (r 0).2))))))
(.ops [⟨(some 89), none, .ibin .add .i64 (.t 45) (.c (.int .i64 1))⟩,
⟨(some 45), none, .mov (.t 89)⟩] none)))))))
(.seq (.ops [⟨(some 90), none, .load 1 false (.t 9)⟩,
⟨(some 91), none, .mov (.t 8)⟩,
⟨(some 4), none, .mov (.t 90)⟩,
⟨(some 5), none, .mov (.t 91)⟩,
⟨(some 6), none, .mov (.c (.bool true))⟩] (some [4, 5, 6]))
.ret))))))))⟩
def ir220a0 : ICode :=
(.seq (.ops [⟨(some 14), none, .mov (.t 62)⟩] none)
(.ops [⟨(some 15), none, .mov (.t 63)⟩] none))
def ir220b0 : ICode :=
(.block 3 (.seq (.draw (.rd 0 ⟨(some 64), none, .load 7 true (.t 2)⟩
(.rd 1 ⟨(some 65), none, .load 1 false (.t 12)⟩
(.rd 2 ⟨(some 66), none, .load 1 false (.t 11)⟩
(.rd 3 ⟨(some 67), none, .mov (.t 14)⟩
(.rd 5 ⟨(some 69), none, .load 1 false (.t 7)⟩
(.rd 6 ⟨(some 70), none, .load 1 false (.t 12)⟩
(.rd 7 ⟨(some 71), none, .ibin .add .i64 (.t 70) (.c (.int .i64 1))⟩
(.rd 8 ⟨(some 72), none, .iaddr 1 (.t 69) (.t 71)⟩
(.rd 9 ⟨(some 73), none, .load 1 false (.t 72)⟩
(.rd 10 ⟨(some 74), none, .load 7 true (.t 2)⟩
(.rd 11 ⟨(some 75), none, .mov (.t 15)⟩
(.rd 12 ⟨(some 76), none, .mov (.t 14)⟩
(.rd 17 ⟨(some 81), none, .load 1 false (.t 13)⟩
(.wr 4 ⟨(some 68), none, .call 239 [(.t 64), (.t 65), (.t 66), (.t 67)]⟩ [0, 1, 2, 3]
(.wr 13 ⟨(some 77), none, .call 234 [(.t 74), (.t 75), (.t 76)]⟩ [10, 11, 12, 4]
(.rd 14 ⟨(some 78), none, .iaddr 1 (.t 73) (.t 77)⟩
(.rd 15 ⟨(some 79), none, .load 1 false (.t 78)⟩
(.rd 16 ⟨(some 80), none, .ibin .add .i64 (.t 68) (.t 79)⟩
(.rd 18 ⟨(some 82), none, .ibin .eql .i64 (.t 80) (.t 81)⟩
.fin)))) .no) .no)))))))))))))) (some [9, 10, 11, 14, 15, 82]))
(.cond (.t 82)
(.seq (.ops [⟨(some 83), none, .load 1 false (.t 9)⟩,
⟨(some 84), none, .mov (.t 14)⟩,
⟨(some 85), none, .bslice 1 1 [(.int .i64 0)] [(0, 1, (.t 84))]⟩,
⟨(some 86), none, .append 1 8 (.t 83) (.t 85)⟩,
⟨(some 87), none, .mov (.t 15)⟩,
⟨(some 88), none, .mov (.t 14)⟩,
⟨none, none, .store 1 (.t 9) (.t 86)⟩,
⟨none, none, .store 1 (.t 10) (.t 87)⟩,
⟨none, none, .store 1 (.t 11) (.t 88)⟩] (some []))
(.exit 2))
.skip)))
/-- guidevane/dispatch.openPlan -/
def ir221 : IFn := ⟨50, [.cell 6 7 true, .t 7, .t 8],
(.seq (.ops [⟨(some 3), none, .box (.t 0)⟩,
⟨(some 4), none, .box (.t 1)⟩,
⟨(some 6), none, .alloc [(.int .i64 0), (.int .i64 0), (.slice none 0 0), (.int .i64 0), (.int .i64 0), (.int .i64 0), (.slice none 0 0)]⟩,
⟨(some 7), none, .mov (.c (.slice none 0 0))⟩,
⟨(some 8), none, .mov (.c (.int .i64 0))⟩] (some [2, 3, 4, 6]))
(.seq (.ops [⟨(some 15), none, .load 3 true (.t 3)⟩,
⟨(some 16), none, .load 4 true (.t 4)⟩,
⟨(some 17), none, .call 219 [(.t 15), (.t 16)]⟩,
⟨(some 14), none, .mov (.t 17)⟩,
⟨(some 18), none, .extract 0 (.t 14)⟩,
⟨(some 19), none, .extract 1 (.t 14)⟩,
⟨(some 9), none, .alloc [(.int .i64 0), (.int .i64 0), (.slice none 0 0), (.int .i64 0), (.int .i64 0), (.int .i64 0), (.slice none 0 0)]⟩,
⟨none, none, .store 7 (.t 9) (.t 18)⟩,
⟨(some 10), none, .mov (.t 19)⟩] (some [2, 4, 6, 9, 10]))
(.seq (.ops [⟨(some 20), none, .mov (.t 2)⟩,
⟨(some 21), none, .mkfunc 240 [] [(.t 9)]⟩,
⟨(some 22), none, .call 80 [(.t 20), (.t 21)]⟩,
⟨(some 11), none, .mov (.t 22)⟩] (some [2, 4, 6, 9, 10, 11]))
(.seq (.seq (.ops [⟨(some 23), none, .mov (.t 10)⟩,
⟨(some 24), none, .mov (.t 2)⟩,
⟨(some 25), none, .lenV (.t 24)⟩,
⟨(some 26), none, .faddr 3 (.t 4)⟩,
⟨(some 27), none, .load 1 false (.t 26)⟩,
⟨(some 28), none, .lenV (.t 27)⟩,
⟨(some 29), none, .ibin .eql .i64 (.t 25) (.t 28)⟩,
⟨(some 30), none, .call 214 [(.t 29), (.c (.int .i64 10))]⟩,
⟨(some 31), none, .mov (.t 11)⟩,
⟨(some 32), none, .un .not (.t 31)⟩,
⟨(some 33), none, .call 214 [(.t 32), (.c (.int .i64 6))]⟩,
⟨(some 34), none, .bslice 3 1 [(.int .i64 0)] [(0, 1, (.t 23)), (1, 1, (.t 30)), (2, 1, (.t 33))]⟩,
⟨(some 35), none, .call 213 [(.t 34)]⟩,
⟨(some 10), none, .mov (.t 35)⟩] (some [2, 6, 9, 10]))
(.seq (.ops [⟨(some 36), none, .mov (.t 10)⟩,
⟨(some 37), none, .ibin .neq .i64 (.t 36) (.c (.int .i64 0))⟩] (some [2, 6, 9, 10, 37]))
(.cond (.t 37)
(.seq (.ops [⟨(some 38), none, .load 7 true (.t 9)⟩,
⟨(some 39), none, .mov (.t 10)⟩,
⟨none, none, .store 7 (.t 6) (.t 38)⟩,
⟨(some 7), none, .mov (.c (.slice none 0 0))⟩,
⟨(some 8), none, .mov (.t 39)⟩] (some [6, 7, 8]))
.ret)
.skip)))
(.seq (.ops [⟨(some 41), none, .load 7 true (.t 9)⟩,
⟨(some 42), none, .mov (.t 2)⟩,
⟨(some 43), none, .call 241 [(.t 41), (.t 42)]⟩,
⟨(some 40), none, .mov (.t 43)⟩,
⟨(some 44), none, .extract 0 (.t 40)⟩,
⟨(some 45), none, .extract 1 (.t 40)⟩,
⟨(some 12), none, .mov (.t 44)⟩,
⟨(some 13), none, .mov (.t 45)⟩] (some [6, 9, 12, 13]))
(.seq (.draw (.rd 0 ⟨(some 46), none, .load 7 true (.t 9)⟩
(.rd 1 ⟨(some 47), none, .mov (.t 12)⟩
(.rd 2 ⟨(some 48), none, .mov (.t 13)⟩
(.wr 3 ⟨(some 49), none, .call 214 [(.t 48), (.c (.int .i64 22))]⟩ [2]
(.wr 4 ⟨none, none, .store 7 (.t 6) (.t 46)⟩ [0, 3, 0]
(.rd 5 ⟨(some 7), none, .mov (.t 47)⟩
(.rd 6 ⟨(some 8), none, .mov (.t 49)⟩
.fin)) .no) .no)))) (some [6, 7, 8]))
.ret))))))⟩
/-- (guidevane/dispatch.work).isMode -/
def ir222 : IFn := ⟨12, [.t 4],
(.seq (.ops [⟨(some 2), none, .box (.t 0)⟩,
⟨(some 4), none, .mov (.c (.bool false))⟩] (some [1, 2]))
(.seq (.ops [⟨(some 5), none, .mov (.t 1)⟩,
⟨(some 6), none, .faddr 0 (.t 2)⟩,
⟨(some 7), none, .faddr 2 (.t 6)⟩,
⟨(some 8), none, .load 1 false (.t 7)⟩,
⟨(some 9), none, .lenV (.t 8)⟩,
⟨(some 10), none, .ibin .sub .i64 (.t 9) (.c (.int .i64 1))⟩,
⟨(some 11), none, .call 216 [(.t 5), (.c (.int .i64 0)), (.t 10)]⟩,
⟨(some 4), none, .mov (.t 11)⟩] (some [4]))
.ret))⟩
/-- (guidevane/dispatch.work).given -/
def ir223 : IFn := ⟨32, [.t 8],
(.seq (.ops [⟨(some 4), none, .box (.t 0)⟩,
⟨(some 8), none, .mov (.c (.int .i64 0))⟩] (some [1, 2, 3, 4]))
(.seq (.ops [⟨(some 9), none, .mov (.c (.int .i64 0))⟩] none)
(.seq (.block 0 (.loop (.seq (.seq (.ops [⟨(some 10), none, .mov (.t 2)⟩,
⟨(some 11), none, .mov (.t 9)⟩,
⟨(some 12), none, .ibin .add .i64 (.t 10) (.t 11)⟩,
⟨(some 13), none, .faddr 3 (.t 4)⟩,
⟨(some 14), none, .faddr 3 (.t 13)⟩,
⟨(some 15), none, .load 1 false (.t 14)⟩,
⟨(some 16), none, .lenV (.t 15)⟩,
⟨(some 17), none, .ibin .lss .i64 (.t 12) (.t 16)⟩] (some [1, 2, 3, 4, 9, 17]))
(.cond (.t 17)
.skip
(.exit 0)))
(.block 1 (.seq (.seq (.ops [⟨(some 18), none, .load 7 true (.t 4)⟩,
⟨(some 19), none, .mov (.t 1)⟩,
⟨(some 20), none, .mov (.t 2)⟩,
⟨(some 21), none, .mov (.t 9)⟩,
⟨(some 22), none, .ibin .add .i64 (.t 20) (.t 21)⟩,
⟨(some 23), none, .mov (.t 3)⟩,
⟨(some 24), none, .call 242 [(.t 18), (.t 19), (.t 22), (.t 23)]⟩,
⟨(some 1), none, .mov (.t 24)⟩] (some [1, 2, 3, 4, 9]))
(.seq (.ops [⟨(some 25), none, .load 7 true (.t 4)⟩,
⟨(some 26), none, .mov (.t 1)⟩,
⟨(some 27), none, .call 243 [(.t 25), (.t 26)]⟩,
⟨(some 28), none, .un .not (.t 27)⟩] (some [1, 2, 3, 4, 9, 28]))
(.cond (.t 28)
(.exit 0)
.skip)))
(.ops [⟨(some 29), none, .mov (.t 9)⟩,
⟨(some 30), none, .ibin .add .i64 (.t 29) (.c (.int .i64 1))⟩,
⟨(some 9), none, .mov (.t 30)⟩] (some [1, 2, 3, 4, 9])))))))
(.seq (.ops [⟨(some 31), none, .mov (.t 9)⟩,
⟨(some 8), none, .mov (.t 31)⟩] (some [8]))
.ret))))⟩
/-- guidevane/dispatch.openRevisions -/
def ir224 : IFn := ⟨13, [.t 2, .t 3],
(.seq (.ops [⟨(some 2), none, .mov (.c (.slice none 0 0))⟩,
⟨(some 3), none, .mov (.c (.int .i64 0))⟩] (some [0]))
(.seq (.ops [⟨(some 7), none, .mov (.t 0)⟩,
⟨(some 8), none, .call 244 [(.t 7)]⟩,
⟨(some 6), none, .mov (.t 8)⟩,
⟨(some 9), none, .extract 0 (.t 6)⟩,
⟨(some 10), none, .extract 1 (.t 6)⟩,
⟨(some 4), none, .mov (.t 9)⟩,
⟨(some 5), none, .mov (.t 10)⟩] (some [0, 5]))
(.seq (.ops [⟨(some 11), none, .mov (.t 0)⟩,
⟨(some 12), none, .mov (.t 5)⟩,
⟨(some 2), none, .mov (.t 11)⟩,
⟨(some 3), none, .mov (.t 12)⟩] (some [2, 3]))
.ret)))⟩
/-- (guidevane/dispatch.revisions).every -/
def ir225 : IFn := ⟨16, [.t 2],
(.seq (.ops [⟨(some 2), none, .mov (.c (.slice none 0 0))⟩] (some [0]))
(.seq (.ops [⟨(some 3), none, .mov (.c (.slice none 0 0))⟩] none)
(.seq (.seq (.ops [⟨(some 5), none, .mov (.t 0)⟩,
⟨(some 6), none, .lenV (.t 5)⟩,
⟨(some 7), none, .mov (.c (.int .i64 0))⟩] (some [3, 6, 7]))
(.block 0 (.loop (.seq (.ops [⟨(some 8), none, .ibin .lss .i64 (.t 7) (.t 6)⟩] none)
(.seq (.cond (.t 8)
.skip
(.exit 0))
(.seq (.block 1 (.seq (.ops [⟨(some 9), none, .mov (.t 7)⟩,
⟨(some 4), none, .mov (.t 9)⟩] (some [3, 4, 6, 7]))
(.ops [⟨(some 10), none, .mov (.t 3)⟩,
⟨(some 11), none, .mov (.t 4)⟩,
⟨(some 12), none, .bslice 1 1 [(.int .i64 0)] [(0, 1, (.t 11))]⟩,
⟨(some 13), none, .append 1 8 (.t 10) (.t 12)⟩,
⟨(some 3), none, .mov (.t 13)⟩] (some [3, 6, 7]))))
(.ops [⟨(some 14), none, .ibin .add .i64 (.t 7) (.c (.int .i64 1))⟩,
⟨(some 7), none, .mov (.t 14)⟩] (some [3, 6, 7]))))))))
(.seq (.ops [⟨(some 15), none, .mov (.t 3)⟩,
⟨(some 2), none, .mov (.t 15)⟩] (some [2]))
.ret))))⟩
/-- (guidevane/dispatch.revisions).lateness -/
def ir226 : IFn := ⟨34, [.t 6],
(.seq (.ops [⟨(some 6), none, .mov (.c (.int .i64 0))⟩] (some [0, 1, 2]))
(.seq (.ops [⟨(some 7), none, .mov (.c (.int .i64 (-200000)))⟩] none)
(.seq (.seq (.ops [⟨(some 10), none, .mov (.t 1)⟩,
⟨(some 11), none, .lenV (.t 10)⟩,
⟨(some 12), none, .mov (.c (.int .i64 0))⟩] (some [0, 2, 7, 10, 11, 12]))
(.block 0 (.loop (.seq (.ops [⟨(some 13), none, .ibin .lss .i64 (.t 12) (.t 11)⟩] none)
(.seq (.cond (.t 13)
.skip
(.exit 0))
(.seq (.block 1 (.seq (.ops [⟨(some 14), none, .iaddr 1 (.t 10) (.t 12)⟩,
⟨(some 15), none, .load 1 false (.t 14)⟩,
⟨(some 9), none, .mov (.t 15)⟩] (some [0, 2, 7, 9, 10, 11, 12]))
(.seq (.ops [⟨(some 16), none, .mov (.t 2)⟩,
⟨(some 17), none, .mov (.t 0)⟩,
⟨(some 18), none, .mov (.t 9)⟩,
⟨(some 19), none, .iaddr 3 (.t 17) (.t 18)⟩,
⟨(some 20), none, .faddr 2 (.t 19)⟩,
⟨(some 21), none, .load 1 false (.t 20)⟩,
⟨(some 22), none, .ibin .add .i64 (.t 16) (.t 21)⟩,
⟨(some 2), none, .mov (.t 22)⟩] (some [0, 2, 7, 9, 10, 11, 12]))
(.ops [⟨(some 23), none, .mov (.t 7)⟩,
⟨(some 24), none, .mov (.t 2)⟩,
⟨(some 25), none, .mov (.t 0)⟩,
⟨(some 26), none, .mov (.t 9)⟩,
⟨(some 27), none, .iaddr 3 (.t 25) (.t 26)⟩,
⟨(some 28), none, .faddr 1 (.t 27)⟩,
⟨(some 29), none, .load 1 false (.t 28)⟩,
⟨(some 30), none, .ibin .sub .i64 (.t 24) (.t 29)⟩,
⟨(some 31), none, .minmax true (.t 23) [(.t 30)]⟩,
⟨(some 7), none, .mov (.t 31)⟩] (some [0, 2, 7, 10, 11, 12])))))
(.ops [⟨(some 32), none, .ibin .add .i64 (.t 12) (.c (.int .i64 1))⟩,
⟨(some 12), none, .mov (.t 32)⟩] (some [0, 2, 7, 10, 11, 12]))))))))
(.seq (.ops [⟨(some 33), none, .mov (.t 7)⟩,
⟨(some 6), none, .mov (.t 33)⟩] (some [6]))
.ret))))⟩
/-- (guidevane/dispatch.revisions).byDue -/
def ir227 : IFn := ⟨12, [.t 4],
(.seq (.ops [⟨(some 2), none, .box (.t 0)⟩,
⟨(some 4), none, .mov (.c (.slice none 0 0))⟩] (some [1, 2]))
(.seq (.ops [⟨(some 6), none, .mov (.t 1)⟩,
⟨(some 7), none, .call 73 [(.t 6)]⟩,
⟨(some 5), none, .mov (.t 7)⟩] (some [2, 5]))
(.seq (.ops [⟨(some 8), none, .mov (.t 5)⟩,
⟨(some 9), none, .mkfunc 245 [] [(.t 2)]⟩,
⟨(some 10), none, .call 106 [(.t 8), (.t 9)]⟩] (some [5]))
(.seq (.ops [⟨(some 11), none, .mov (.t 5)⟩,
⟨(some 4), none, .mov (.t 11)⟩] (some [4]))
.ret))))⟩
/-- slices.Delete[[]int,int] -/
def ir228 : IFn := ⟨33, [.t 6],
(.seq (.ops [⟨(some 6), none, .mov (.c (.slice none 0 0))⟩] (some [0, 1, 2]))
(.seq (.ops [⟨(some 8), none, .mov (.t 0)⟩,
⟨(some 9), none, .mov (.t 1)⟩,
⟨(some 10), none, .mov (.t 2)⟩,
⟨(some 11), none, .mov (.t 0)⟩,
⟨(some 12), none, .lenV (.t 11)⟩,
⟨(some 13), none, .sliceV 1 (.t 8) (some (.t 9)) (some (.t 10)) (some (.t 12))⟩] (some [0, 1, 2]))
(.seq (.seq (.ops [⟨(some 14), none, .mov (.t 1)⟩,
⟨(some 15), none, .mov (.t 2)⟩,
⟨(some 16), none, .ibin .eql .i64 (.t 14) (.t 15)⟩] (some [0, 1, 2, 16]))
(.cond (.t 16)
(.seq (.ops [⟨(some 17), none, .mov (.t 0)⟩,
⟨(some 6), none, .mov (.t 17)⟩] (some [6]))
.ret)
.skip))
(.seq (.ops [⟨(some 18), none, .mov (.t 0)⟩,
⟨(some 19), none, .lenV (.t 18)⟩,
⟨(some 7), none, .mov (.t 19)⟩] (some [0, 1, 2, 7]))
(.seq (.draw (.rd 0 ⟨(some 20), none, .mov (.t 0)⟩
(.rd 1 ⟨(some 21), none, .mov (.t 1)⟩
(.rd 2 ⟨(some 22), none, .sliceV 1 (.t 20) none (some (.t 21)) none⟩
(.rd 3 ⟨(some 23), none, .mov (.t 0)⟩
(.rd 4 ⟨(some 24), none, .mov (.t 2)⟩
(.rd 5 ⟨(some 25), none, .sliceV 1 (.t 23) (some (.t 24)) none none⟩
(.wr 6 ⟨(some 26), none, .append 1 8 (.t 22) (.t 25)⟩ [2, 5]
(.wr 7 ⟨(some 0), none, .mov (.t 26)⟩ [6, 6, 0, 1, 2, 3, 4, 5, 6]
.fin .no) .no))))))) (some [0, 7]))
(.seq (.ops [⟨(some 27), none, .mov (.t 0)⟩,
⟨(some 28), none, .mov (.t 0)⟩,
⟨(some 29), none, .lenV (.t 28)⟩,
⟨(some 30), none, .mov (.t 7)⟩,
⟨(some 31), none, .sliceV 1 (.t 27) (some (.t 29)) (some (.t 30)) none⟩,
⟨none, none, .clr 1 [(.int .i64 0)] (.t 31)⟩] (some [0]))
(.seq (.ops [⟨(some 32), none, .mov (.t 0)⟩,
⟨(some 6), none, .mov (.t 32)⟩] (some [6]))
.ret)))))))⟩
/-- (guidevane/dispatch.work).potentials -/
def ir229 (r : Nat → Code × Code) : IFn := ⟨117, [.t 4],
(.seq (.ops [⟨(some 2), none, .box (.t 0)⟩,
⟨(some 3), none, .box (.t 1)⟩,
⟨(some 4), none, .mov (.c (.slice none 0 0))⟩] none)
(.seq (.draw (.rd 0 ⟨(some 14), none, .faddr 3 (.t 2)⟩
(.rd 1 ⟨(some 15), none, .faddr 3 (.t 14)⟩
(.rd 2 ⟨(some 16), none, .load 1 false (.t 15)⟩
(.rd 3 ⟨(some 17), none, .lenV (.t 16)⟩
(.rd 4 ⟨(some 18), none, .load 7 true (.t 2)⟩
(.rd 5 ⟨(some 19), none, .faddr 0 (.t 2)⟩
(.rd 6 ⟨(some 20), none, .faddr 1 (.t 19)⟩
(.rd 7 ⟨(some 21), none, .load 1 false (.t 20)⟩
(.rd 8 ⟨(some 22), none, .faddr 0 (.t 2)⟩
(.rd 9 ⟨(some 23), none, .faddr 2 (.t 22)⟩
(.rd 10 ⟨(some 24), none, .load 1 false (.t 23)⟩
(.rd 11 ⟨(some 25), none, .lenV (.t 24)⟩
(.rd 12 ⟨(some 26), none, .ibin .sub .i64 (.t 25) (.c (.int .i64 1))⟩
(.wr 13 ⟨(some 27), none, .call 234 [(.t 18), (.t 21), (.t 26)]⟩ [4, 7, 12]
(.rd 14 ⟨(some 28), none, .ibin .add .i64 (.t 27) (.c (.int .i64 1))⟩
(.rd 15 ⟨(some 5), none, .mov (.t 17)⟩
(.rd 16 ⟨(some 6), none, .mov (.t 28)⟩
.fin))) .no)))))))))))))) none)
(.seq (.ops [⟨(some 29), none, .mov (.t 5)⟩,
⟨(some 30), none, .ibin .add .i64 (.t 29) (.c (.int .i64 1))⟩,
⟨(some 31), none, .mslice 1 24 [(.slice none 0 0)] (.t 30) (.t 30)⟩,
⟨(some 7), none, .alloc [(.slice none 0 0)]⟩,
⟨none, none, .store 1 (.t 7) (.t 31)⟩] none)
(.seq (.seq (.ops [⟨(some 32), none, .mov (.t 5)⟩,
⟨(some 8), none, .alloc [(.int .i64 0)]⟩,
⟨none, none, .store 1 (.t 8) (.t 32)⟩] none)
(.block 0 (.loop (.seq (.seq (.ops [⟨(some 33), none, .load 1 false (.t 8)⟩,
⟨(some 34), none, .ibin .geq .i64 (.t 33) (.c (.int .i64 0))⟩] none)
(.cond (.t 34)
.skip
(.exit 0)))
(.seq (.block 1 (.seq (.draw (.rd 0 ⟨(some 37), none, .load 1 false (.t 7)⟩
(.rd 1 ⟨(some 38), none, .load 1 false (.t 8)⟩
(.rd 3 ⟨(some 40), none, .mov (.t 6)⟩
(.wr 2 ⟨(some 39), none, .bslice 1 1 [(.int .i64 0)] [(0, 1, (.c (.int .i64 (-100000000000))))]⟩ []
(.wr 4 ⟨(some 41), none, .call 246 [(.t 39), (.t 40)]⟩ [2, 3]
(.rd 5 ⟨(some 42), none, .iaddr 1 (.t 37) (.t 38)⟩
(.wr 6 ⟨none, none, .store 1 (.t 42) (.t 41)⟩ [5, 4, 4, 0, 1, 2, 3, 4]
.fin .no)) .no) .no)))) none)
(.seq (.ops [⟨(some 43), none, .faddr 0 (.t 2)⟩,
⟨(some 44), none, .faddr 0 (.t 43)⟩,
⟨(some 45), none, .load 1 false (.t 44)⟩,
⟨(some 9), none, .mov (.t 45)⟩] none)
(.block 2 (.loop (.seq (.seq (.ops [⟨(some 46), none, .mov (.t 9)⟩,
⟨(some 47), none, .faddr 0 (.t 2)⟩,
⟨(some 48), none, .faddr 1 (.t 47)⟩,
⟨(some 49), none, .load 1 false (.t 48)⟩,
⟨(some 50), none, .ibin .leq .i64 (.t 46) (.t 49)⟩] none)
(.cond (.t 50)
.skip
(.exit 2)))
(.seq (.block 3 (.seq (.ops [⟨(some 53), none, .faddr 0 (.t 2)⟩,
⟨(some 54), none, .faddr 2 (.t 53)⟩,
⟨(some 55), none, .load 1 false (.t 54)⟩,
⟨(some 56), none, .lenV (.t 55)⟩,
⟨(some 57), none, .mov (.c (.int .i64 0))⟩] none)
(.block 4 (.loop (.seq (.ops [⟨(some 58), none, .ibin .lss .i64 (.t 57) (.t 56)⟩] none)
(.seq (.cond (.t 58)
.skip
(.exit 4))
(.seq (.block 5 (.seq (.ops [⟨(some 59), none, .mov (.t 57)⟩,
⟨(some 10), none, .alloc [(.int .i64 0)]⟩,
⟨none, none, .store 1 (.t 10) (.t 59)⟩] none)
(.seq (.draw (.rd 0 ⟨(some 60), none, .load 1 false (.t 7)⟩
(.rd 1 ⟨(some 61), none, .load 1 false (.t 8)⟩
(.rd 2 ⟨(some 62), none, .iaddr 1 (.t 60) (.t 61)⟩
(.rd 3 ⟨(some 63), none, .load 1 false (.t 62)⟩
(.rd 4 ⟨(some 64), none, .load 7 true (.t 2)⟩
(.rd 5 ⟨(some 65), none, .mov (.t 9)⟩
(.rd 6 ⟨(some 66), none, .load 1 false (.t 10)⟩
(.wr 7 ⟨(some 67), none, .call 234 [(.t 64), (.t 65), (.t 66)]⟩ [4, 5, 6]
(.rd 8 ⟨(some 68), none, .iaddr 1 (.t 63) (.t 67)⟩
(.wr 9 ⟨(some 11), none, .alloc [(.pointer none)]⟩ []
(.wr 10 ⟨none, none, .store 1 (.t 11) (.t 68)⟩ [9, 8, 7, 0, 1, 2, 3, 4, 5, 6, 7, 8, 9]
.fin .no) .no))
(.wr 9 ⟨(some 11), none, .alloc [(.pointer none)]⟩ []
(.wr 7 ⟨(some 67), none, .call 234 [(.t 64), (.t 65), (.t 66)]⟩ [4, 5, 6]
(.rd 8 ⟨(some 68), none, .iaddr 1 (.t 63) (.t 67)⟩
(.wr 10 ⟨none, none, .store 1 (.t 11) (.t 68)⟩ [9, 8, 7, 0, 1, 2, 3, 4, 5, 6, 7, 8, 9]
.fin .no)) .no) .no))))))))) none)
(.seq (.seq (.ops [⟨(some 69), none, .load 1 false (.t 8)⟩,
⟨(some 70), none, .mov (.t 5)⟩,
⟨(some 71), none, .ibin .eql .i64 (.t 69) (.t 70)⟩] none)
(.cond (.t 71)
(.seq (.ops [⟨(some 72), none, .load 1 false (.t 11)⟩,
⟨(some 73), none, .faddr 3 (.t 2)⟩,
⟨(some 74), none, .faddr 2 (.t 73)⟩,
⟨(some 75), none, .load 1 false (.t 74)⟩,
⟨(some 76), none, .mov (.t 9)⟩,
⟨(some 77), none, .ibin .mul .i64 (.t 75) (.t 76)⟩,
⟨(some 78), none, .nilchk (.t 72)⟩,
⟨none, none, .store 1 (.t 78) (.t 77)⟩] (some [0, 1, 2, 3, 4, 5, 6, 7, 8, 9, 12, 13, 14, 15, 16, 17, 18, 19, 20, 21, 22, 23, 24, 25, 26, 27, 28, 29, 30, 31, 32, 33, 34, 35, 36, 37, 38, 39, 40, 41, 42, 43, 44, 45, 46, 47, 48, 49, 50, 51, 52, 53, 54, 55, 56, 57, 72, 73, 74, 75, 76, 77, 78, 89, 90, 91, 92, 93, 94, 95, 96, 97, 98, 99, 100, 101, 102, 103, 104, 105, 106, 107, 108, 109, 110, 111, 112, 113, 115, 116]))
(.exit 5))
.skip))
(.seq (.seq (.ops [⟨(some 79), none, .load 7 true (.t 2)⟩,
⟨(some 80), none, .mov (.t 9)⟩,
⟨(some 81), none, .load 1 false (.t 8)⟩,
⟨(some 82), none, .load 2 true (.t 3)⟩,
⟨(some 83), none, .call 247 [(.t 79), (.t 80), (.t 81), (.t 82)]⟩,
⟨(some 84), none, .un .not (.t 83)⟩] none)
(.cond (.t 84)
(.exit 5)
.skip))
(.seq (.ops [⟨(some 85), none, .load 7 true (.t 2)⟩,
⟨(some 86), none, .mov (.t 9)⟩,
⟨(some 87), none, .load 1 false (.t 8)⟩,
⟨(some 88), none, .call 238 [(.t 85), (.t 86), (.t 87)]⟩] none)
(.block 6 (.range 117 (.t 88) #[89, 90] (r 0).1 (r 0).2))))))))
(.ops [⟨(some 114), none, .ibin .add .i64 (.t 57) (.c (.int .i64 1))⟩,
⟨(some 57), none, .mov (.t 114)⟩] none))))))))
(.ops [⟨(some 51), none, .mov (.t 9)⟩,
⟨(some 52), none, .ibin .add .i64 (.t 51) (.c (.int .i64 1))⟩,
⟨(some 9), none, .mov (.t 52)⟩] none))))))))
(.seq (.seq (.ops [⟨(some 115), none, .load 1 false (.t 8)⟩] (some [0, 1, 2, 3, 4, 5, 6, 7, 12, 13, 14, 15, 16, 17, 18, 19, 20, 21, 22, 23, 24, 25, 26, 27, 28, 29, 30, 31, 32, 51, 52, 72, 73, 74, 75, 76, 77, 78, 89, 90, 91, 92, 93, 94, 95, 96, 97, 98, 99, 100, 101, 102, 103, 104, 105, 106, 107, 108, 109, 110, 111, 112, 113, 114, 115, 116]))
(.ops [⟨(some 8), none, .alloc [(.int .i64 0)]⟩,
⟨none, none, .store 1 (.t 8) (.t 115)⟩] none))
(.ops [⟨(some 35), none, .load 1 false (.t 8)⟩,
⟨(some 36), none, .ibin .sub .i64 (.t 35) (.c (.int .i64 1))⟩,
⟨none, none, .store 1 (.t 8) (.t 36)⟩] none)))))))
(.seq (.ops [⟨(some 116), none, .load 1 false (.t 7)⟩,
⟨(some 4), none, .mov (.t 116)⟩] (some [4]))
.ret)))))⟩
def ir229a0 : ICode :=
(.seq (.ops [⟨(some 12), none, .mov (.t 89)⟩] none)
(.ops [⟨(some 13), none, .mov (.t 90)⟩] none))
def ir229b0 : ICode :=
(.block 7 (.draw (.rd 0 ⟨(some 91), none, .load 1 false (.t 11)⟩
(.rd 1 ⟨(some 92), none, .load 1 false (.t 11)⟩
(.rd 2 ⟨(some 93), none, .nilchk (.t 92)⟩
(.rd 3 ⟨(some 94), none, .load 1 false (.t 93)⟩
(.rd 4 ⟨(some 95), none, .load 7 true (.t 2)⟩
(.rd 5 ⟨(some 96), none, .load 1 false (.t 8)⟩
(.rd 6 ⟨(some 97), none, .load 1 false (.t 10)⟩
(.rd 7 ⟨(some 98), none, .mov (.t 12)⟩
(.rd 9 ⟨(some 100), none, .load 1 false (.t 7)⟩
(.rd 10 ⟨(some 101), none, .load 1 false (.t 8)⟩
(.rd 11 ⟨(some 102), none, .ibin .add .i64 (.t 101) (.c (.int .i64 1))⟩
(.rd 12 ⟨(some 103), none, .iaddr 1 (.t 100) (.t 102)⟩
(.rd 13 ⟨(some 104), none, .load 1 false (.t 103)⟩
(.rd 14 ⟨(some 105), none, .load 7 true (.t 2)⟩
(.rd 15 ⟨(some 106), none, .mov (.t 13)⟩
(.rd 16 ⟨(some 107), none, .mov (.t 12)⟩
(.wr 8 ⟨(some 99), none, .call 239 [(.t 95), (.t 96), (.t 97), (.t 98)]⟩ [4, 5, 6, 7]
(.wr 17 ⟨(some 108), none, .call 234 [(.t 105), (.t 106), (.t 107)]⟩ [14, 15, 16, 8]
(.rd 18 ⟨(some 109), none, .iaddr 1 (.t 104) (.t 108)⟩
(.rd 19 ⟨(some 110), none, .load 1 false (.t 109)⟩
(.rd 20 ⟨(some 111), none, .ibin .add .i64 (.t 99) (.t 110)⟩
(.rd 21 ⟨(some 112), none, .minmax true (.t 94) [(.t 111)]⟩
(.rd 22 ⟨(some 113), none, .nilchk (.t 91)⟩
(.wr 23 ⟨none, none, .store 1 (.t 113) (.t 112)⟩ [22, 21, 17, 0, 1, 2, 3, 4, 5, 6, 7, 8, 9, 10, 11, 12, 13, 14, 15, 16, 17, 18, 19, 20, 21]
.fin .no)))))) .no) .no))))))))))))))))) (some [])))
/-- slices.DeleteFunc[[]int,int] -/
def ir230 : IFn := ⟨42, [.t 4],
(.seq (.ops [⟨(some 4), none, .mov (.c (.slice none 0 0))⟩] (some [0, 1]))
(.seq (.ops [⟨(some 8), none, .mov (.t 0)⟩,
⟨(some 9), none, .mov (.t 1)⟩,
⟨(some 10), none, .call 70 [(.t 8), (.t 9)]⟩,
⟨(some 5), none, .mov (.t 10)⟩] (some [0, 1, 5]))
(.seq (.seq (.ops [⟨(some 11), none, .mov (.t 5)⟩,
⟨(some 12), none, .ibin .eql .i64 (.t 11) (.c (.int .i64 (-1)))⟩] (some [0, 1, 5, 12]))
(.cond (.t 12)
(.seq (.ops [⟨(some 13), none, .mov (.t 0)⟩,
⟨(some 4), none, .mov (.t 13)⟩] (some [4]))
.ret)
.skip))
(.seq (.seq (.ops [⟨(some 14), none, .mov (.t 5)⟩,
⟨(some 15), none, .ibin .add .i64 (.t 14) (.c (.int .i64 1))⟩,
⟨(some 6), none, .mov (.t 15)⟩] (some [0, 1, 5, 6]))
(.block 0 (.loop (.seq (.seq (.ops [⟨(some 16), none, .mov (.t 6)⟩,
⟨(some 17), none, .mov (.t 0)⟩,
⟨(some 18), none, .lenV (.t 17)⟩,
⟨(some 19), none, .ibin .lss .i64 (.t 16) (.t 18)⟩] (some [0, 1, 5, 6, 19]))
(.cond (.t 19)
.skip
(.exit 0)))
(.seq (.block 1 (.seq (.ops [⟨(some 22), none, .mov (.t 0)⟩,
⟨(some 23), none, .mov (.t 6)⟩,
⟨(some 24), none, .iaddr 1 (.t 22) (.t 23)⟩,
⟨(some 25), none, .load 1 false (.t 24)⟩,
⟨(some 7), none, .mov (.t 25)⟩] (some [0, 1, 5, 6, 7]))
(.seq (.ops [⟨(some 26), none, .mov (.t 1)⟩,
⟨(some 27), none, .mov (.t 7)⟩,
⟨(some 28), none, .callv (.t 26) [(.t 27)]⟩,
⟨(some 29), none, .un .not (.t 28)⟩] (some [0, 1, 5, 6, 7, 29]))
(.cond (.t 29)
(.seq (.ops [⟨(some 30), none, .mov (.t 0)⟩,
⟨(some 31), none, .mov (.t 5)⟩,
⟨(some 32), none, .mov (.t 7)⟩,
⟨(some 33), none, .iaddr 1 (.t 30) (.t 31)⟩,
⟨none, none, .store 1 (.t 33) (.t 32)⟩] (some [0, 1, 5, 6]))
(.ops [⟨(some 34), none, .mov (.t 5)⟩,
⟨(some 35), none, .ibin .add .i64 (.t 34) (.c (.int .i64 1))⟩,
⟨(some 5), none, .mov (.t 35)⟩] (some [0, 1, 5, 6])))
.skip))))
(.ops [⟨(some 20), none, .mov (.t 6)⟩,
⟨(some 21), none, .ibin .add .i64 (.t 20) (.c (.int .i64 1))⟩,
⟨(some 6), none, .mov (.t 21)⟩] (some [0, 1, 5, 6])))))))
(.seq (.ops [⟨(some 36), none, .mov (.t 0)⟩,
⟨(some 37), none, .mov (.t 5)⟩,
⟨(some 38), none, .sliceV 1 (.t 36) (some (.t 37)) none none⟩,
⟨none, none, .clr 1 [(.int .i64 0)] (.t 38)⟩] (some [0, 5]))
(.seq (.ops [⟨(some 39), none, .mov (.t 0)⟩,
⟨(some 40), none, .mov (.t 5)⟩,
⟨(some 41), none, .sliceV 1 (.t 39) none (some (.t 40)) none⟩,
⟨(some 4), none, .mov (.t 41)⟩] (some [4]))
.ret))))))⟩
/-- (guidevane/dispatch.work).reached -/
def ir231 (r : Nat → Code × Code) : IFn := ⟨43, [.t 4],
(.seq (.ops [⟨(some 2), none, .box (.t 0)⟩,
⟨(some 4), none, .mov (.c (.slice none 0 0))⟩] none)
(.seq (.ops [⟨(some 12), none, .faddr 3 (.t 2)⟩,
⟨(some 13), none, .faddr 0 (.t 12)⟩,
⟨(some 14), none, .load 1 false (.t 13)⟩,
⟨(some 15), none, .bslice 1 1 [(.int .i64 0)] [(0, 1, (.t 14))]⟩,
⟨(some 5), none, .mov (.t 15)⟩] none)
(.seq (.seq (.ops [⟨(some 16), none, .mov (.t 1)⟩,
⟨(some 17), none, .mov (.c (.int .i64 0))⟩] none)
(.block 0 (.loop (.seq (.ops [⟨(some 18), none, .ibin .lss .i64 (.t 17) (.t 16)⟩] none)
(.seq (.cond (.t 18)
.skip
(.exit 0))
(.seq (.block 1 (.seq (.ops [⟨(some 19), none, .mov (.t 17)⟩,
⟨(some 6), none, .mov (.t 19)⟩] none)
(.seq (.ops [⟨(some 7), none, .alloc [(.slice none 0 0)]⟩] none)
(.seq (.seq (.ops [⟨(some 20), none, .mov (.t 5)⟩,
⟨(some 21), none, .lenV (.t 20)⟩,
⟨(some 22), none, .mov (.c (.int .i64 0))⟩] none)
(.block 2 (.loop (.seq (.ops [⟨(some 23), none, .ibin .lss .i64 (.t 22) (.t 21)⟩] none)
(.seq (.cond (.t 23)
.skip
(.exit 2))
(.seq (.block 3 (.seq (.ops [⟨(some 24), none, .iaddr 1 (.t 20) (.t 22)⟩,
⟨(some 25), none, .load 1 false (.t 24)⟩,
⟨(some 9), none, .mov (.t 25)⟩] none)
(.seq (.ops [⟨(some 26), none, .load 7 true (.t 2)⟩,
⟨(some 27), none, .mov (.t 9)⟩,
⟨(some 28), none, .mov (.t 6)⟩,
⟨(some 29), none, .call 238 [(.t 26), (.t 27), (.t 28)]⟩] none)
(.block 4 (.range 43 (.t 29) #[30, 31] (r 0).1 (r 0).2)))))
(.ops [⟨(some 36), none, .ibin .add .i64 (.t 22) (.c (.int .i64 1))⟩,
⟨(some 22), none, .mov (.t 36)⟩] none)))))))
(.seq (.ops [⟨(some 37), none, .load 1 false (.t 7)⟩,
⟨(some 38), none, .call 103 [(.t 37)]⟩] none)
(.ops [⟨(some 39), none, .load 1 false (.t 7)⟩,
⟨(some 40), none, .call 248 [(.t 39)]⟩,
⟨(some 5), none, .mov (.t 40)⟩] (some [0, 1, 2, 3, 4, 5, 8, 10, 11, 12, 13, 14, 15, 16, 17, 30, 31, 32, 33, 34, 35, 36, 37, 38, 39, 40, 42])))))))
(.ops [⟨(some 41), none, .ibin .add .i64 (.t 17) (.c (.int .i64 1))⟩,
⟨(some 17), none, .mov (.t 41)⟩] none)))))))
(.seq (.ops [⟨(some 42), none, .mov (.t 5)⟩,
⟨(some 4), none, .mov (.t 42)⟩] (some [4]))
.ret))))⟩
def ir231a0 : ICode :=
(.ops [⟨(some 11), none, .mov (.t 31)⟩] none)
def ir231b0 : ICode :=
(.block 5 (.ops [⟨(some 32), none, .load 1 false (.t 7)⟩,
⟨(some 33), none, .mov (.t 11)⟩,
⟨(some 34), none, .bslice 1 1 [(.int .i64 0)] [(0, 1, (.t 33))]⟩,
⟨(some 35), none, .append 1 8 (.t 32) (.t 34)⟩,
⟨none, none, .store 1 (.t 7) (.t 35)⟩] (some [])))
/-- guidevane/dispatch.ReachableAt$1 -/
def ir232 : IFn := ⟨17, [.t 5],
(.seq (.ops [⟨(some 5), none, .mov (.c (.bool false))⟩] (some [0, 1, 2, 3]))
(.seq (.draw (.rd 0 ⟨(some 6), none, .load 1 false (.t 1)⟩
(.rd 1 ⟨(some 7), none, .load 1 false (.t 2)⟩
(.rd 2 ⟨(some 8), none, .iaddr 1 (.t 6) (.t 7)⟩
(.rd 3 ⟨(some 9), none, .load 1 false (.t 8)⟩
(.rd 4 ⟨(some 10), none, .load 7 true (.t 3)⟩
(.rd 5 ⟨(some 11), none, .mov (.t 0)⟩
(.wr 6 ⟨(some 12), none, .call 234 [(.t 10), (.t 11), (.c (.int .i64 0))]⟩ [4, 5]
(.rd 7 ⟨(some 13), none, .iaddr 1 (.t 9) (.t 12)⟩
(.rd 8 ⟨(some 14), none, .load 1 false (.t 13)⟩
(.wr 9 ⟨(some 15), none, .call 233 [(.t 14)]⟩ [8, 6]
(.rd 10 ⟨(some 16), none, .un .not (.t 15)⟩
(.rd 11 ⟨(some 5), none, .mov (.t 16)⟩
.fin)) .no))) .no))))))) (some [5]))
.ret))⟩
/-- guidevane/dispatch.isValue -/
def ir233 : IFn := ⟨5, [.t 2],
(.seq (.ops [⟨(some 2), none, .mov (.c (.bool false))⟩] (some [0]))
(.seq (.ops [⟨(some 3), none, .mov (.t 0)⟩,
⟨(some 4), none, .ibin .gtr .i64 (.t 3) (.c (.int .i64 (-50000000000)))⟩,
⟨(some 2), none, .mov (.t 4)⟩] (some [2]))
.ret))⟩
/-- (guidevane/dispatch.work).cell -/
def ir234 : IFn := ⟨19, [.t 6],
(.seq (.ops [⟨(some 3), none, .box (.t 0)⟩,
⟨(some 6), none, .mov (.c (.int .i64 0))⟩] (some [1, 2, 3]))
(.seq (.ops [⟨(some 7), none, .mov (.t 1)⟩,
⟨(some 8), none, .faddr 0 (.t 3)⟩,
⟨(some 9), none, .faddr 0 (.t 8)⟩,
⟨(some 10), none, .load 1 false (.t 9)⟩,
⟨(some 11), none, .ibin .sub .i64 (.t 7) (.t 10)⟩,
⟨(some 12), none, .faddr 0 (.t 3)⟩,
⟨(some 13), none, .faddr 2 (.t 12)⟩,
⟨(some 14), none, .load 1 false (.t 13)⟩,
⟨(some 15), none, .lenV (.t 14)⟩,
⟨(some 16), none, .ibin .mul .i64 (.t 11) (.t 15)⟩,
⟨(some 17), none, .mov (.t 2)⟩,
⟨(some 18), none, .ibin .add .i64 (.t 16) (.t 17)⟩,
⟨(some 6), none, .mov (.t 18)⟩] (some [6]))
.ret))⟩
/-- guidevane/dispatch.isSized -/
def ir235 : IFn := ⟨10, [.t 4],
(.seq (.ops [⟨(some 4), none, .mov (.c (.bool false))⟩] (some [0, 1]))
(.seq (.ops [⟨(some 5), none, .mov (.t 0)⟩,
⟨(some 6), none, .mov (.t 1)⟩,
⟨(some 7), none, .un .neg (.t 6)⟩,
⟨(some 8), none, .mov (.t 1)⟩,
⟨(some 9), none, .call 216 [(.t 5), (.t 7), (.t 8)]⟩,
⟨(some 4), none, .mov (.t 9)⟩] (some [4]))
.ret))⟩
/-- guidevane/dispatch.powersErr$1 -/
def ir236 : IFn := ⟨6, [.t 2],
(.seq (.ops [⟨(some 2), none, .mov (.c (.bool false))⟩] (some [0]))
(.seq (.ops [⟨(some 3), none, .mov (.t 0)⟩,
⟨(some 4), none, .call 215 [(.t 3)]⟩,
⟨(some 5), none, .un .not (.t 4)⟩,
⟨(some 2), none, .mov (.t 5)⟩] (some [2]))
.ret))⟩
/-- guidevane/dispatch.CheckTask -/
def ir237 : IFn := ⟨87, [.t 4, .t 5],
(.seq (.ops [⟨(some 2), none, .box (.t 0)⟩,
⟨(some 3), none, .box (.t 1)⟩,
⟨(some 4), none, .mov (.c (.int .i64 0))⟩,
⟨(some 5), none, .mov (.c (.int .i64 0))⟩] (some [2, 3]))
(.seq (.ops [⟨(some 12), none, .load 3 true (.t 2)⟩,
⟨(some 13), none, .call 249 [(.t 12)]⟩,
⟨(some 11), none, .mov (.t 13)⟩,
⟨(some 14), none, .extract 0 (.t 11)⟩,
⟨(some 15), none, .extract 1 (.t 11)⟩,
⟨(some 6), none, .mov (.t 14)⟩,
⟨(some 7), none, .mov (.t 15)⟩] (some [2, 3, 7]))
(.seq (.draw (.rd 0 ⟨(some 16), none, .mov (.t 7)⟩
(.rd 1 ⟨(some 17), none, .faddr 0 (.t 3)⟩
(.rd 2 ⟨(some 18), none, .load 1 false (.t 17)⟩
(.rd 3 ⟨(some 19), none, .faddr 0 (.t 2)⟩
(.rd 4 ⟨(some 20), none, .load 1 false (.t 19)⟩
(.rd 5 ⟨(some 21), none, .faddr 1 (.t 2)⟩
(.rd 6 ⟨(some 22), none, .load 1 false (.t 21)⟩
(.rd 9 ⟨(some 25), none, .faddr 1 (.t 3)⟩
(.rd 10 ⟨(some 26), none, .load 1 false (.t 25)⟩
(.rd 11 ⟨(some 27), none, .faddr 2 (.t 2)⟩
(.rd 12 ⟨(some 28), none, .load 1 false (.t 27)⟩
(.rd 13 ⟨(some 29), none, .lenV (.t 28)⟩
(.rd 14 ⟨(some 30), none, .ibin .sub .i64 (.t 29) (.c (.int .i64 1))⟩
(.rd 17 ⟨(some 33), none, .faddr 2 (.t 3)⟩
(.rd 18 ⟨(some 34), none, .load 1 false (.t 33)⟩
(.rd 21 ⟨(some 37), none, .faddr 3 (.t 3)⟩
(.rd 22 ⟨(some 38), none, .load 1 false (.t 37)⟩
(.rd 23 ⟨(some 39), none, .lenV (.t 38)⟩
(.rd 24 ⟨(some 40), none, .ibin .gtr .i64 (.t 39) (.c (.int .i64 0))⟩
(.rd 26 ⟨(some 42), none, .faddr 3 (.t 3)⟩
(.rd 27 ⟨(some 43), none, .load 1 false (.t 42)⟩
(.rd 28 ⟨(some 44), none, .lenV (.t 43)⟩
(.rd 29 ⟨(some 45), none, .ibin .leq .i64 (.t 44) (.c (.int .i64 10))⟩
(.wr 7 ⟨(some 23), none, .call 216 [(.t 18), (.t 20), (.t 22)]⟩ [2, 4, 6]
(.wr 8 ⟨(some 24), none, .call 214 [(.t 23), (.c (.int .i64 2))]⟩ [7, 7]
(.wr 15 ⟨(some 31), none, .call 216 [(.t 26), (.c (.int .i64 0)), (.t 30)]⟩ [10, 14, 8]
(.wr 16 ⟨(some 32), none, .call 214 [(.t 31), (.c (.int .i64 6))]⟩ [15, 15]
(.wr 19 ⟨(some 35), none, .call 250 [(.t 34)]⟩ [18, 16]
(.wr 20 ⟨(some 36), none, .call 214 [(.t 35), (.c (.int .i64 2))]⟩ [19, 19]
(.wr 25 ⟨(some 41), none, .call 214 [(.t 40), (.c (.int .i64 10))]⟩ [24, 20]
(.wr 30 ⟨(some 46), none, .call 214 [(.t 45), (.c (.int .i64 8))]⟩ [29, 25]
(.wr 31 ⟨(some 47), none, .bslice 6 1 [(.int .i64 0)] [(0, 1, (.t 16)), (1, 1, (.t 24)), (2, 1, (.t 32)), (3, 1, (.t 36)), (4, 1, (.t 41)), (5, 1, (.t 46))]⟩ [0, 8, 16, 20, 25, 30]
(.wr 32 ⟨(some 48), none, .call 213 [(.t 47)]⟩ [31, 30]
(.wr 33 ⟨(some 7), none, .mov (.t 48)⟩ [32, 32, 0, 1, 2, 3, 4, 5, 6, 7, 8, 9, 10, 11, 12, 13, 14, 15, 16, 17, 18, 19, 20, 21, 22, 23, 24, 25, 26, 27, 28, 29, 30, 31, 32]
.fin .no) .no) .no) .no) .no) .no) .no) .no) .no) .no) .no)))))))))))))))))))))))) (some [3, 7]))
(.seq (.seq (.ops [⟨(some 49), none, .mov (.t 7)⟩,
⟨(some 50), none, .ibin .neq .i64 (.t 49) (.c (.int .i64 0))⟩] (some [3, 7, 50]))
(.cond (.t 50)
(.seq (.ops [⟨(some 51), none, .mov (.t 7)⟩,
⟨(some 4), none, .mov (.c (.int .i64 0))⟩,
⟨(some 5), none, .mov (.t 51)⟩] (some [4, 5]))
.ret)
.skip))
(.seq (.seq (.ops [⟨(some 52), none, .faddr 3 (.t 3)⟩,
⟨(some 53), none, .load 1 false (.t 52)⟩,
⟨(some 54), none, .lenV (.t 53)⟩,
⟨(some 55), none, .mov (.c (.int .i64 0))⟩] (some [53, 54, 55]))
(.block 0 (.loop (.seq (.ops [⟨(some 56), none, .ibin .lss .i64 (.t 55) (.t 54)⟩] none)
(.seq (.cond (.t 56)
.skip
(.exit 0))
(.seq (.block 1 (.seq (.ops [⟨(some 57), none, .mov (.t 55)⟩,
⟨(some 58), none, .iaddr 3 (.t 53) (.t 55)⟩,
⟨(some 59), none, .load 3 true (.t 58)⟩,
⟨(some 9), none, .alloc [(.int .i64 0), (.int .i64 0), (.int .i64 0)]⟩,
⟨(some 8), none, .mov (.t 57)⟩,
⟨none, none, .store 3 (.t 9) (.t 59)⟩] (some [8, 9, 53, 54, 55]))
(.seq (.draw (.rd 0 ⟨(some 60), none, .faddr 0 (.t 9)⟩
(.rd 1 ⟨(some 61), none, .load 1 false (.t 60)⟩
(.rd 14 ⟨(some 74), none, .faddr 1 (.t 9)⟩
(.rd 15 ⟨(some 75), none, .load 1 false (.t 74)⟩
(.rd 16 ⟨(some 76), none, .faddr 0 (.t 9)⟩
(.rd 17 ⟨(some 77), none, .load 1 false (.t 76)⟩
(.rd 18 ⟨(some 78), none, .ibin .leq .i64 (.t 75) (.t 77)⟩
(.wr 2 ⟨(some 62), none, .call 250 [(.t 61)]⟩ [1]
(.rd 3 ⟨(some 63), none, .mov (.t 62)⟩
(.rd 4 ⟨(some 64), (some (63, true)), .faddr 1 (.t 9)⟩
(.rd 5 ⟨(some 65), (some (63, true)), .load 1 false (.t 64)⟩
(.wr 6 ⟨(some 66), (some (63, true)), .call 250 [(.t 65)]⟩ [5, 3, 3]
(.rd 7 ⟨(some 67), none, .pick (.t 63) (.t 66) (.c (.bool false))⟩
(.rd 8 ⟨(some 68), none, .mov (.t 67)⟩
(.rd 9 ⟨(some 69), (some (68, true)), .faddr 2 (.t 9)⟩
(.rd 10 ⟨(some 70), (some (68, true)), .load 1 false (.t 69)⟩
(.wr 11 ⟨(some 71), (some (68, true)), .call 250 [(.t 70)]⟩ [10, 8, 8]
(.rd 12 ⟨(some 72), none, .pick (.t 68) (.t 71) (.c (.bool false))⟩
(.wr 13 ⟨(some 73), none, .call 214 [(.t 72), (.c (.int .i64 2))]⟩ [12, 11]
(.wr 19 ⟨(some 79), none, .call 214 [(.t 78), (.c (.int .i64 9))]⟩ [18, 13]
(.wr 20 ⟨(some 80), none, .bslice 2 1 [(.int .i64 0)] [(0, 1, (.t 73)), (1, 1, (.t 79))]⟩ [13, 19]
(.wr 21 ⟨(some 81), none, .call 213 [(.t 80)]⟩ [20, 19]
(.rd 22 ⟨(some 10), none, .mov (.t 81)⟩
.fin) .no) .no) .no) .no)) .no))))) .no)))) .no)))))))) (some [8, 10, 53, 54, 55]))
(.seq (.ops [⟨(some 82), none, .mov (.t 10)⟩,
⟨(some 83), none, .ibin .neq .i64 (.t 82) (.c (.int .i64 0))⟩] (some [8, 10, 53, 54, 55, 83]))
(.cond (.t 83)
(.seq (.ops [⟨(some 84), none, .mov (.t 8)⟩,
⟨(some 85), none, .mov (.t 10)⟩,
⟨(some 4), none, .mov (.t 84)⟩,
⟨(some 5), none, .mov (.t 85)⟩] (some [4, 5]))
.ret)
.skip)))))
(.ops [⟨(some 86), none, .ibin .add .i64 (.t 55) (.c (.int .i64 1))⟩,
⟨(some 55), none, .mov (.t 86)⟩] (some [53, 54, 55]))))))))
(.seq (.ops [⟨(some 4), none, .mov (.c (.int .i64 0))⟩,
⟨(some 5), none, .mov (.c (.int .i64 0))⟩] none)
.ret))))))⟩
/-- (guidevane/dispatch.work).steps -/
def ir238 : IFn := ⟨8, [.t 6],
(.seq (.ops [⟨(some 3), none, .box (.t 0)⟩,
⟨(some 4), none, .box (.t 1)⟩,
⟨(some 5), none, .box (.t 2)⟩,
⟨(some 6), none, .mov (.c .nilFunc)⟩] (some [3, 4, 5]))
(.seq (.ops [⟨(some 7), none, .mkfunc 251 [] [(.t 3), (.t 4), (.t 5)]⟩,
⟨(some 6), none, .mov (.t 7)⟩] (some [6]))
.ret))⟩
/-- (guidevane/dispatch.work).revenue -/
def ir239 : IFn := ⟨44, [.t 8],
(.seq (.ops [⟨(some 4), none, .box (.t 0)⟩,
⟨(some 8), none, .mov (.c (.int .i64 0))⟩] (some [1, 2, 3, 4]))
(.seq (.draw (.rd 0 ⟨(some 13), none, .faddr 0 (.t 4)⟩
(.rd 1 ⟨(some 14), none, .faddr 2 (.t 13)⟩
(.rd 2 ⟨(some 15), none, .load 1 false (.t 14)⟩
(.rd 3 ⟨(some 16), none, .mov (.t 3)⟩
(.rd 4 ⟨(some 17), none, .iaddr 4 (.t 15) (.t 16)⟩
(.rd 5 ⟨(some 18), none, .load 4 true (.t 17)⟩
(.rd 6 ⟨(some 19), none, .faddr 3 (.t 4)⟩
(.rd 7 ⟨(some 20), none, .faddr 3 (.t 19)⟩
(.rd 8 ⟨(some 21), none, .load 1 false (.t 20)⟩
(.rd 9 ⟨(some 22), none, .mov (.t 1)⟩
(.rd 10 ⟨(some 23), none, .iaddr 3 (.t 21) (.t 22)⟩
(.rd 11 ⟨(some 24), none, .load 3 true (.t 23)⟩
(.wr 12 ⟨(some 9), none, .alloc [(.string ⟨#[]⟩), (.int .i64 0), (.int .i64 0), (.int .i64 0)]⟩ []
(.wr 13 ⟨(some 10), none, .alloc [(.int .i64 0), (.int .i64 0), (.int .i64 0)]⟩ []
(.wr 14 ⟨none, none, .store 4 (.t 9) (.t 18)⟩ [12, 5, 0, 1, 2, 3, 4, 5, 12, 13]
(.wr 15 ⟨none, none, .store 3 (.t 10) (.t 24)⟩ [13, 11, 14, 0, 1, 2, 3, 4, 5, 6, 7, 8, 9, 10, 11, 12, 13, 14]
.fin .no) .no) .no)
(.wr 13 ⟨(some 10), none, .alloc [(.int .i64 0), (.int .i64 0), (.int .i64 0)]⟩ []
(.wr 12 ⟨(some 9), none, .alloc [(.string ⟨#[]⟩), (.int .i64 0), (.int .i64 0), (.int .i64 0)]⟩ []
(.wr 14 ⟨none, none, .store 4 (.t 9) (.t 18)⟩ [12, 5, 0, 1, 2, 3, 4, 5, 12, 13]
(.wr 15 ⟨none, none, .store 3 (.t 10) (.t 24)⟩ [13, 11, 14, 0, 1, 2, 3, 4, 5, 6, 7, 8, 9, 10, 11, 12, 13, 14]
.fin .no) .no) .no) .no)))))))))))))) (some [2, 3, 9, 10]))
(.seq (.ops [⟨(some 25), none, .faddr 0 (.t 10)⟩,
⟨(some 26), none, .load 1 false (.t 25)⟩,
⟨(some 11), none, .mov (.t 26)⟩] (some [2, 3, 9, 10, 11]))
(.seq (.seq (.ops [⟨(some 27), none, .faddr 2 (.t 9)⟩,
⟨(some 28), none, .load 1 false (.t 27)⟩,
⟨(some 29), none, .ibin .gtr .i64 (.t 28) (.c (.int .i64 0))⟩] (some [2, 3, 9, 10, 11, 29]))
(.cond (.t 29)
(.ops [⟨(some 30), none, .faddr 1 (.t 10)⟩,
⟨(some 31), none, .load 1 false (.t 30)⟩,
⟨(some 11), none, .mov (.t 31)⟩] (some [2, 3, 9, 11]))
.skip))
(.seq (.ops [⟨(some 32), none, .faddr 2 (.t 9)⟩,
⟨(some 33), none, .load 1 false (.t 32)⟩,
⟨(some 34), none, .mov (.t 11)⟩,
⟨(some 35), none, .ibin .mul .i64 (.t 33) (.t 34)⟩,
⟨(some 12), none, .mov (.t 35)⟩] (some [2, 3, 9, 12]))
(.seq (.seq (.ops [⟨(some 36), none, .mov (.t 2)⟩,
⟨(some 37), none, .mov (.t 3)⟩,
⟨(some 38), none, .ibin .neq .i64 (.t 36) (.t 37)⟩] (some [9, 12, 38]))
(.cond (.t 38)
(.ops [⟨(some 39), none, .mov (.t 12)⟩,
⟨(some 40), none, .faddr 3 (.t 9)⟩,
⟨(some 41), none, .load 1 false (.t 40)⟩,
⟨(some 42), none, .ibin .sub .i64 (.t 39) (.t 41)⟩,
⟨(some 12), none, .mov (.t 42)⟩] (some [12]))
.skip))
(.seq (.ops [⟨(some 43), none, .mov (.t 12)⟩,
⟨(some 8), none, .mov (.t 43)⟩] (some [8]))
.ret)))))))⟩
/-- guidevane/dispatch.openPlan$1 -/
def ir240 : IFn := ⟨8, [.t 3],
(.seq (.ops [⟨(some 3), none, .mov (.c (.bool false))⟩] (some [0, 1]))
(.seq (.ops [⟨(some 4), none, .load 7 true (.t 1)⟩,
⟨(some 5), none, .mov (.t 0)⟩,
⟨(some 6), none, .call 222 [(.t 4), (.t 5)]⟩,
⟨(some 7), none, .un .not (.t 6)⟩,
⟨(some 3), none, .mov (.t 7)⟩] (some [3]))
.ret))⟩
/-- (guidevane/dispatch.work).volumes -/
def ir241 : IFn := ⟨39, [.t 4, .t 5],
(.seq (.ops [⟨(some 2), none, .box (.t 0)⟩,
⟨(some 4), none, .mov (.c (.slice none 0 0))⟩,
⟨(some 5), none, .mov (.c (.bool false))⟩] (some [1, 2]))
(.seq (.ops [⟨(some 10), none, .faddr 3 (.t 2)⟩,
⟨(some 11), none, .faddr 0 (.t 10)⟩,
⟨(some 12), none, .load 1 false (.t 11)⟩,
⟨(some 13), none, .bslice 1 1 [(.int .i64 0)] [(0, 1, (.t 12))]⟩,
⟨(some 6), none, .mov (.t 13)⟩] (some [1, 2, 6]))
(.seq (.seq (.ops [⟨(some 14), none, .mov (.t 1)⟩,
⟨(some 15), none, .lenV (.t 14)⟩,
⟨(some 16), none, .mov (.c (.int .i64 0))⟩] (some [2, 6, 14, 15, 16]))
(.block 0 (.loop (.seq (.ops [⟨(some 17), none, .ibin .lss .i64 (.t 16) (.t 15)⟩] none)
(.seq (.cond (.t 17)
.skip
(.exit 0))
(.seq (.block 1 (.seq (.ops [⟨(some 18), none, .mov (.t 16)⟩,
⟨(some 19), none, .iaddr 1 (.t 14) (.t 16)⟩,
⟨(some 20), none, .load 1 false (.t 19)⟩,
⟨(some 7), none, .mov (.t 18)⟩,
⟨(some 8), none, .mov (.t 20)⟩] (some [2, 6, 7, 8, 14, 15, 16]))
(.seq (.draw (.rd 0 ⟨(some 21), none, .load 7 true (.t 2)⟩
(.rd 1 ⟨(some 22), none, .mov (.t 6)⟩
(.rd 2 ⟨(some 23), none, .mov (.t 7)⟩
(.rd 3 ⟨(some 24), none, .iaddr 1 (.t 22) (.t 23)⟩
(.rd 4 ⟨(some 25), none, .load 1 false (.t 24)⟩
(.rd 5 ⟨(some 26), none, .mov (.t 7)⟩
(.rd 6 ⟨(some 27), none, .mov (.t 8)⟩
(.wr 7 ⟨(some 28), none, .call 242 [(.t 21), (.t 25), (.t 26), (.t 27)]⟩ [0, 4, 5, 6]
(.rd 8 ⟨(some 9), none, .mov (.t 28)⟩
.fin) .no)))))))) (some [2, 6, 9, 14, 15, 16]))
(.seq (.seq (.ops [⟨(some 29), none, .load 7 true (.t 2)⟩,
⟨(some 30), none, .mov (.t 9)⟩,
⟨(some 31), none, .call 243 [(.t 29), (.t 30)]⟩,
⟨(some 32), none, .un .not (.t 31)⟩] (some [2, 6, 9, 14, 15, 16, 32]))
(.cond (.t 32)
(.seq (.ops [⟨(some 4), none, .mov (.c (.slice none 0 0))⟩,
⟨(some 5), none, .mov (.c (.bool false))⟩] none)
.ret)
.skip))
(.ops [⟨(some 33), none, .mov (.t 6)⟩,
⟨(some 34), none, .mov (.t 9)⟩,
⟨(some 35), none, .bslice 1 1 [(.int .i64 0)] [(0, 1, (.t 34))]⟩,
⟨(some 36), none, .append 1 8 (.t 33) (.t 35)⟩,
⟨(some 6), none, .mov (.t 36)⟩] (some [2, 6, 14, 15, 16]))))))
(.ops [⟨(some 37), none, .ibin .add .i64 (.t 16) (.c (.int .i64 1))⟩,
⟨(some 16), none, .mov (.t 37)⟩] (some [2, 6, 14, 15, 16]))))))))
(.seq (.ops [⟨(some 38), none, .mov (.t 6)⟩,
⟨(some 4), none, .mov (.t 38)⟩,
⟨(some 5), none, .mov (.c (.bool true))⟩] (some [4, 5]))
.ret))))⟩
/-- (guidevane/dispatch.work).after -/
def ir242 : IFn := ⟨26, [.t 8],
(.seq (.ops [⟨(some 4), none, .box (.t 0)⟩,
⟨(some 8), none, .mov (.c (.int .i64 0))⟩] (some [1, 2, 3, 4]))
(.seq (.draw (.rd 0 ⟨(some 9), none, .mov (.t 1)⟩
(.rd 1 ⟨(some 10), none, .faddr 3 (.t 4)⟩
(.rd 2 ⟨(some 11), none, .faddr 3 (.t 10)⟩
(.rd 3 ⟨(some 12), none, .load 1 false (.t 11)⟩
(.rd 4 ⟨(some 13), none, .mov (.t 2)⟩
(.rd 5 ⟨(some 14), none, .iaddr 3 (.t 12) (.t 13)⟩
(.rd 6 ⟨(some 15), none, .faddr 2 (.t 14)⟩
(.rd 7 ⟨(some 16), none, .load 1 false (.t 15)⟩
(.rd 8 ⟨(some 17), none, .ibin .add .i64 (.t 9) (.t 16)⟩
(.rd 9 ⟨(some 18), none, .faddr 0 (.t 4)⟩
(.rd 10 ⟨(some 19), none, .faddr 2 (.t 18)⟩
(.rd 11 ⟨(some 20), none, .load 1 false (.t 19)⟩
(.rd 12 ⟨(some 21), none, .mov (.t 3)⟩
(.rd 13 ⟨(some 22), none, .iaddr 4 (.t 20) (.t 21)⟩
(.rd 14 ⟨(some 23), none, .faddr 1 (.t 22)⟩
(.rd 15 ⟨(some 24), none, .load 1 false (.t 23)⟩
(.rd 16 ⟨(some 25), none, .ibin .add .i64 (.t 17) (.t 24)⟩
(.rd 17 ⟨(some 8), none, .mov (.t 25)⟩
.fin)))))))))))))))))) (some [8]))
.ret))⟩
/-- (guidevane/dispatch.work).isVolume -/
def ir243 : IFn := ⟨13, [.t 4],
(.seq (.ops [⟨(some 2), none, .box (.t 0)⟩,
⟨(some 4), none, .mov (.c (.bool false))⟩] (some [1, 2]))
(.seq (.ops [⟨(some 5), none, .mov (.t 1)⟩,
⟨(some 6), none, .faddr 0 (.t 2)⟩,
⟨(some 7), none, .faddr 0 (.t 6)⟩,
⟨(some 8), none, .load 1 false (.t 7)⟩,
⟨(some 9), none, .faddr 0 (.t 2)⟩,
⟨(some 10), none, .faddr 1 (.t 9)⟩,
⟨(some 11), none, .load 1 false (.t 10)⟩,
⟨(some 12), none, .call 216 [(.t 5), (.t 8), (.t 11)]⟩,
⟨(some 4), none, .mov (.t 12)⟩] (some [4]))
.ret))⟩
/-- guidevane/dispatch.CheckRevisions -/
def ir244 : IFn := ⟨59, [.t 2, .t 3],
(.seq (.ops [⟨(some 2), none, .mov (.c (.int .i64 0))⟩,
⟨(some 3), none, .mov (.c (.int .i64 0))⟩] (some [0]))
(.seq (.seq (.ops [⟨(some 10), none, .mov (.t 0)⟩,
⟨(some 11), none, .lenV (.t 10)⟩,
⟨(some 12), none, .ibin .gtr .i64 (.t 11) (.c (.int .i64 0))⟩,
⟨(some 13), none, .call 214 [(.t 12), (.c (.int .i64 10))]⟩,
⟨(some 14), none, .mov (.t 0)⟩,
⟨(some 15), none, .lenV (.t 14)⟩,
⟨(some 16), none, .ibin .leq .i64 (.t 15) (.c (.int .i64 8))⟩,
⟨(some 17), none, .call 214 [(.t 16), (.c (.int .i64 8))]⟩,
⟨(some 18), none, .bslice 2 1 [(.int .i64 0)] [(0, 1, (.t 13)), (1, 1, (.t 17))]⟩,
⟨(some 19), none, .call 213 [(.t 18)]⟩,
⟨(some 4), none, .mov (.t 19)⟩] (some [0, 4]))
(.seq (.ops [⟨(some 20), none, .mov (.t 4)⟩,
⟨(some 21), none, .ibin .neq .i64 (.t 20) (.c (.int .i64 0))⟩] (some [0, 4, 21]))
(.cond (.t 21)
(.seq (.ops [⟨(some 22), none, .mov (.t 4)⟩,
⟨(some 2), none, .mov (.c (.int .i64 0))⟩,
⟨(some 3), none, .mov (.t 22)⟩] (some [2, 3]))
.ret)
.skip)))
(.seq (.seq (.ops [⟨(some 23), none, .mov (.t 0)⟩,
⟨(some 24), none, .lenV (.t 23)⟩,
⟨(some 25), none, .mov (.c (.int .i64 0))⟩] none)
(.block 0 (.loop (.seq (.ops [⟨(some 26), none, .ibin .lss .i64 (.t 25) (.t 24)⟩] none)
(.seq (.cond (.t 26)
.skip
(.exit 0))
(.seq (.block 1 (.seq (.ops [⟨(some 27), none, .mov (.t 25)⟩,
⟨(some 28), none, .iaddr 3 (.t 23) (.t 25)⟩,
⟨(some 29), none, .load 3 true (.t 28)⟩,
⟨(some 6), none, .alloc [(.string ⟨#[]⟩), (.int .i64 0), (.int .i64 0)]⟩,
⟨(some 5), none, .mov (.t 27)⟩,
⟨none, none, .store 3 (.t 6) (.t 29)⟩] (some [0, 5, 6, 23, 24, 25]))
(.seq (.ops [⟨(some 30), none, .mov (.t 0)⟩,
⟨(some 31), none, .mov (.t 5)⟩,
⟨(some 32), none, .sliceV 3 (.t 30) none (some (.t 31)) none⟩,
⟨(some 33), none, .mkfunc 253 [] [(.t 6)]⟩,
⟨(some 34), none, .call 252 [(.t 32), (.t 33)]⟩,
⟨(some 7), none, .mov (.t 34)⟩] (some [0, 5, 6, 7, 23, 24, 25]))
(.seq (.ops [⟨(some 35), none, .faddr 1 (.t 6)⟩,
⟨(some 36), none, .load 1 false (.t 35)⟩,
⟨(some 37), none, .call 216 [(.t 36), (.c (.int .i64 0)), (.c (.int .i64 100000))]⟩,
⟨(some 38), none, .mov (.t 37)⟩,
⟨(some 39), (some (38, true)), .faddr 2 (.t 6)⟩,
⟨(some 40), (some (38, true)), .load 1 false (.t 39)⟩,
⟨(some 41), (some (38, true)), .call 216 [(.t 40), (.c (.int .i64 1)), (.c (.int .i64 100000))]⟩,
⟨(some 42), none, .pick (.t 38) (.t 41) (.c (.bool false))⟩,
⟨(some 8), none, .mov (.t 42)⟩] (some [0, 5, 6, 7, 8, 23, 24, 25]))
(.seq (.ops [⟨(some 43), none, .faddr 0 (.t 6)⟩,
⟨(some 44), none, .load 1 false (.t 43)⟩,
⟨(some 45), none, .call 254 [(.t 44)]⟩,
⟨(some 46), none, .call 214 [(.t 45), (.c (.int .i64 4))]⟩,
⟨(some 47), none, .mov (.t 7)⟩,
⟨(some 48), none, .un .not (.t 47)⟩,
⟨(some 49), none, .call 214 [(.t 48), (.c (.int .i64 5))]⟩,
⟨(some 50), none, .mov (.t 8)⟩,
⟨(some 51), none, .call 214 [(.t 50), (.c (.int .i64 2))]⟩,
⟨(some 52), none, .bslice 3 1 [(.int .i64 0)] [(0, 1, (.t 46)), (1, 1, (.t 49)), (2, 1, (.t 51))]⟩,
⟨(some 53), none, .call 213 [(.t 52)]⟩,
⟨(some 9), none, .mov (.t 53)⟩] (some [0, 5, 9, 23, 24, 25]))
(.seq (.ops [⟨(some 54), none, .mov (.t 9)⟩,
⟨(some 55), none, .ibin .neq .i64 (.t 54) (.c (.int .i64 0))⟩] (some [0, 5, 9, 23, 24, 25, 55]))
(.cond (.t 55)
(.seq (.ops [⟨(some 56), none, .mov (.t 5)⟩,
⟨(some 57), none, .mov (.t 9)⟩,
⟨(some 2), none, .mov (.t 56)⟩,
⟨(some 3), none, .mov (.t 57)⟩] (some [2, 3]))
.ret)
.skip)))))))
(.ops [⟨(some 58), none, .ibin .add .i64 (.t 25) (.c (.int .i64 1))⟩,
⟨(some 25), none, .mov (.t 58)⟩] (some [0, 23, 24, 25]))))))))
(.seq (.ops [⟨(some 2), none, .mov (.c (.int .i64 0))⟩,
⟨(some 3), none, .mov (.c (.int .i64 0))⟩] none)
.ret))))⟩
/-- (guidevane/dispatch.revisions).byDue$1 -/
def ir245 : IFn := ⟨17, [.t 5],
(.seq (.ops [⟨(some 5), none, .mov (.c (.int .i64 0))⟩] (some [0, 1, 2]))
(.seq (.draw (.rd 0 ⟨(some 6), none, .load 1 false (.t 2)⟩
(.rd 1 ⟨(some 7), none, .mov (.t 0)⟩
(.rd 2 ⟨(some 8), none, .iaddr 3 (.t 6) (.t 7)⟩
(.rd 3 ⟨(some 9), none, .faddr 1 (.t 8)⟩
(.rd 4 ⟨(some 10), none, .load 1 false (.t 9)⟩
(.rd 5 ⟨(some 11), none, .load 1 false (.t 2)⟩
(.rd 6 ⟨(some 12), none, .mov (.t 1)⟩
(.rd 7 ⟨(some 13), none, .iaddr 3 (.t 11) (.t 12)⟩
(.rd 8 ⟨(some 14), none, .faddr 1 (.t 13)⟩
(.rd 9 ⟨(some 15), none, .load 1 false (.t 14)⟩
(.rd 10 ⟨(some 16), none, .ibin .sub .i64 (.t 10) (.t 15)⟩
(.rd 11 ⟨(some 5), none, .mov (.t 16)⟩
.fin)))))))))))) (some [5]))
.ret))⟩
/-- slices.Repeat[[]int,int] -/
def ir246 : IFn := ⟨48, [.t 4],
(.seq (.ops [⟨(some 4), none, .mov (.c (.slice none 0 0))⟩] (some [0, 1]))
(.seq (.seq (.ops [⟨(some 9), none, .mov (.t 1)⟩,
⟨(some 10), none, .ibin .lss .i64 (.t 9) (.c (.int .i64 0))⟩] (some [0, 1, 10]))
(.cond (.t 10)
(.ops [⟨(some 11), none, .nope⟩,
⟨none, none, .nope⟩] (some [0, 1]))
.skip))
(.seq (.ops [⟨(some 13), none, .mov (.t 0)⟩,
⟨(some 14), none, .lenV (.t 13)⟩,
⟨(some 15), none, .conv .u64 (.t 14)⟩,
⟨(some 16), none, .mov (.t 1)⟩,
⟨(some 17), none, .conv .u64 (.t 16)⟩,
⟨(some 18), none, .call 255 [(.t 15), (.t 17)]⟩,
⟨(some 12), none, .mov (.t 18)⟩,
⟨(some 19), none, .extract 0 (.t 12)⟩,
⟨(some 20), none, .extract 1 (.t 12)⟩,
⟨(some 5), none, .mov (.t 19)⟩,
⟨(some 6), none, .mov (.t 20)⟩] (some [0, 5, 6]))
(.seq (.seq (.ops [⟨(some 21), none, .mov (.t 5)⟩,
⟨(some 22), none, .ibin .gtr .u64 (.t 21) (.c (.int .u64 0))⟩,
⟨(some 23), none, .mov (.t 22)⟩,
⟨(some 24), (some (23, false)), .mov (.t 6)⟩,
⟨(some 25), (some (23, false)), .ibin .gtr .u64 (.t 24) (.c (.int .u64 9223372036854775807))⟩,
⟨(some 26), none, .pick (.t 23) (.c (.bool true)) (.t 25)⟩] (some [0, 6, 26]))
(.cond (.t 26)
(.ops [⟨(some 27), none, .nope⟩,
⟨none, none, .nope⟩] (some [0, 6]))
.skip))
(.seq (.ops [⟨(some 28), none, .mov (.t 6)⟩,
⟨(some 29), none, .conv .i64 (.t 28)⟩,
⟨(some 30), none, .mslice 1 8 [(.int .i64 0)] (.t 29) (.t 29)⟩,
⟨(some 7), none, .mov (.t 30)⟩] (some [0, 7]))
(.seq (.ops [⟨(some 31), none, .mov (.t 7)⟩,
⟨(some 32), none, .mov (.t 0)⟩,
⟨(some 33), none, .copy 1 (.t 31) (.t 32)⟩,
⟨(some 8), none, .mov (.t 33)⟩] (some [7, 8]))
(.seq (.block 0 (.loop (.seq (.seq (.ops [⟨(some 34), none, .mov (.t 8)⟩,
⟨(some 35), none, .mov (.t 7)⟩,
⟨(some 36), none, .lenV (.t 35)⟩,
⟨(some 37), none, .ibin .lss .i64 (.t 34) (.t 36)⟩] (some [7, 8, 37]))
(.cond (.t 37)
.skip
(.exit 0)))
(.block 1 (.draw (.rd 0 ⟨(some 38), none, .mov (.t 8)⟩
(.rd 1 ⟨(some 39), none, .mov (.t 7)⟩
(.rd 2 ⟨(some 40), none, .mov (.t 8)⟩
(.rd 3 ⟨(some 41), none, .sliceV 1 (.t 39) (some (.t 40)) none none⟩
(.rd 4 ⟨(some 42), none, .mov (.t 7)⟩
(.rd 5 ⟨(some 43), none, .mov (.t 8)⟩
(.rd 6 ⟨(some 44), none, .sliceV 1 (.t 42) none (some (.t 43)) none⟩
(.wr 7 ⟨(some 45), none, .copy 1 (.t 41) (.t 44)⟩ [3, 6]
(.rd 8 ⟨(some 46), none, .ibin .add .i64 (.t 38) (.t 45)⟩
(.wr 9 ⟨(some 8), none, .mov (.t 46)⟩ [8, 7, 0, 1, 2, 3, 4, 5, 6, 7, 8]
.fin .no)) .no)))))))) (some [7, 8]))))))
(.seq (.ops [⟨(some 47), none, .mov (.t 7)⟩,
⟨(some 4), none, .mov (.t 47)⟩] (some [4]))
.ret))))))))⟩
/-- (guidevane/dispatch.work).holds -/
def ir247 : IFn := ⟨30, [.t 8],
(.seq (.ops [⟨(some 4), none, .box (.t 0)⟩,
⟨(some 7), none, .box (.t 3)⟩,
⟨(some 8), none, .mov (.c (.bool false))⟩] (some [1, 2, 4, 7]))
(.seq (.draw (.rd 0 ⟨(some 9), none, .faddr 0 (.t 7)⟩
(.rd 1 ⟨(some 10), none, .load 1 false (.t 9)⟩
(.rd 2 ⟨(some 11), none, .ibin .lss .i64 (.t 10) (.c (.int .i64 0))⟩
(.rd 3 ⟨(some 12), none, .mov (.t 11)⟩
(.rd 4 ⟨(some 13), (some (12, false)), .load 7 true (.t 4)⟩
(.rd 5 ⟨(some 14), (some (12, false)), .mov (.t 1)⟩
(.rd 6 ⟨(some 15), (some (12, false)), .mov (.t 2)⟩
(.rd 7 ⟨(some 16), (some (12, false)), .faddr 0 (.t 7)⟩
(.rd 8 ⟨(some 17), (some (12, false)), .load 1 false (.t 16)⟩
(.rd 10 ⟨(some 19), (some (12, false)), .faddr 1 (.t 7)⟩
(.rd 11 ⟨(some 20), (some (12, false)), .load 1 false (.t 19)⟩
(.rd 12 ⟨(some 21), (some (12, false)), .faddr 3 (.t 4)⟩
(.rd 13 ⟨(some 22), (some (12, false)), .faddr 3 (.t 21)⟩
(.rd 14 ⟨(some 23), (some (12, false)), .load 1 false (.t 22)⟩
(.rd 15 ⟨(some 24), (some (12, false)), .lenV (.t 23)⟩
(.rd 16 ⟨(some 25), (some (12, false)), .mov (.t 2)⟩
(.rd 17 ⟨(some 26), (some (12, false)), .ibin .sub .i64 (.t 24) (.t 25)⟩
(.rd 18 ⟨(some 27), (some (12, false)), .minmax false (.t 20) [(.t 26)]⟩
(.wr 9 ⟨(some 18), (some (12, false)), .call 223 [(.t 13), (.t 14), (.t 15), (.t 17)]⟩ [4, 5, 6, 8, 3, 3]
(.rd 19 ⟨(some 28), (some (12, false)), .ibin .geq .i64 (.t 18) (.t 27)⟩
(.rd 20 ⟨(some 29), none, .pick (.t 12) (.c (.bool true)) (.t 28)⟩
(.rd 21 ⟨(some 8), none, .mov (.t 29)⟩
.fin))) .no))))))))))))))))))) (some [8]))
.ret))⟩
/-- slices.Compact[[]int,int] -/
def ir248 : IFn := ⟨61, [.t 2],
(.seq (.ops [⟨(some 2), none, .mov (.c (.slice none 0 0))⟩] (some [0]))
(.seq (.seq (.ops [⟨(some 6), none, .mov (.t 0)⟩,
⟨(some 7), none, .lenV (.t 6)⟩,
⟨(some 8), none, .ibin .lss .i64 (.t 7) (.c (.int .i64 2))⟩] (some [0, 8]))
(.cond (.t 8)
(.seq (.ops [⟨(some 9), none, .mov (.t 0)⟩,
⟨(some 2), none, .mov (.t 9)⟩] (some [2]))
.ret)
.skip))
(.seq (.seq (.ops [⟨(some 3), none, .mov (.c (.int .i64 1))⟩] none)
(.block 0 (.loop (.seq (.seq (.ops [⟨(some 10), none, .mov (.t 3)⟩,
⟨(some 11), none, .mov (.t 0)⟩,
⟨(some 12), none, .lenV (.t 11)⟩,
⟨(some 13), none, .ibin .lss .i64 (.t 10) (.t 12)⟩] (some [0, 3, 13]))
(.cond (.t 13)
.skip
(.exit 0)))
(.seq (.block 1 (.seq (.draw (.rd 0 ⟨(some 16), none, .mov (.t 0)⟩
(.rd 1 ⟨(some 17), none, .mov (.t 3)⟩
(.rd 2 ⟨(some 18), none, .iaddr 1 (.t 16) (.t 17)⟩
(.rd 3 ⟨(some 19), none, .load 1 false (.t 18)⟩
(.rd 4 ⟨(some 20), none, .mov (.t 0)⟩
(.rd 5 ⟨(some 21), none, .mov (.t 3)⟩
(.rd 6 ⟨(some 22), none, .ibin .sub .i64 (.t 21) (.c (.int .i64 1))⟩
(.rd 7 ⟨(some 23), none, .iaddr 1 (.t 20) (.t 22)⟩
(.rd 8 ⟨(some 24), none, .load 1 false (.t 23)⟩
(.rd 9 ⟨(some 25), none, .ibin .eql .i64 (.t 19) (.t 24)⟩
.fin)))))))))) (some [0, 3, 25]))
(.cond (.t 25)
(.seq (.ops [⟨(some 26), none, .mov (.t 0)⟩,
⟨(some 27), none, .mov (.t 3)⟩,
⟨(some 28), none, .sliceV 1 (.t 26) (some (.t 27)) none none⟩,
⟨(some 4), none, .mov (.t 28)⟩] (some [0, 3, 4]))
(.seq (.seq (.ops [⟨(some 5), none, .mov (.c (.int .i64 1))⟩] none)
(.block 2 (.loop (.seq (.seq (.ops [⟨(some 29), none, .mov (.t 5)⟩,
⟨(some 30), none, .mov (.t 4)⟩,
⟨(some 31), none, .lenV (.t 30)⟩,
⟨(some 32), none, .ibin .lss .i64 (.t 29) (.t 31)⟩] (some [0, 3, 4, 5, 32]))
(.cond (.t 32)
.skip
(.exit 2)))
(.seq (.block 3 (.seq (.draw (.rd 0 ⟨(some 35), none, .mov (.t 4)⟩
(.rd 1 ⟨(some 36), none, .mov (.t 5)⟩
(.rd 2 ⟨(some 37), none, .iaddr 1 (.t 35) (.t 36)⟩
(.rd 3 ⟨(some 38), none, .load 1 false (.t 37)⟩
(.rd 4 ⟨(some 39), none, .mov (.t 4)⟩
(.rd 5 ⟨(some 40), none, .mov (.t 5)⟩
(.rd 6 ⟨(some 41), none, .ibin .sub .i64 (.t 40) (.c (.int .i64 1))⟩
(.rd 7 ⟨(some 42), none, .iaddr 1 (.t 39) (.t 41)⟩
(.rd 8 ⟨(some 43), none, .load 1 false (.t 42)⟩
(.rd 9 ⟨(some 44), none, .ibin .neq .i64 (.t 38) (.t 43)⟩
.fin)))))))))) (some [0, 3, 4, 5, 44]))
(.cond (.t 44)
(.seq (.ops [⟨(some 45), none, .mov (.t 0)⟩,
⟨(some 46), none, .mov (.t 3)⟩,
⟨(some 47), none, .mov (.t 4)⟩,
⟨(some 48), none, .mov (.t 5)⟩,
⟨(some 49), none, .iaddr 1 (.t 47) (.t 48)⟩,
⟨(some 50), none, .load 1 false (.t 49)⟩,
⟨(some 51), none, .iaddr 1 (.t 45) (.t 46)⟩,
⟨none, none, .store 1 (.t 51) (.t 50)⟩] (some [0, 3, 4, 5]))
(.ops [⟨(some 52), none, .mov (.t 3)⟩,
⟨(some 53), none, .ibin .add .i64 (.t 52) (.c (.int .i64 1))⟩,
⟨(some 3), none, .mov (.t 53)⟩] (some [0, 3, 4, 5])))
.skip)))
(.ops [⟨(some 33), none, .mov (.t 5)⟩,
⟨(some 34), none, .ibin .add .i64 (.t 33) (.c (.int .i64 1))⟩,
⟨(some 5), none, .mov (.t 34)⟩] (some [0, 3, 4, 5])))))))
(.seq (.ops [⟨(some 54), none, .mov (.t 0)⟩,
⟨(some 55), none, .mov (.t 3)⟩,
⟨(some 56), none, .sliceV 1 (.t 54) (some (.t 55)) none none⟩,
⟨none, none, .clr 1 [(.int .i64 0)] (.t 56)⟩] (some [0, 3]))
(.seq (.ops [⟨(some 57), none, .mov (.t 0)⟩,
⟨(some 58), none, .mov (.t 3)⟩,
⟨(some 59), none, .sliceV 1 (.t 57) none (some (.t 58)) none⟩,
⟨(some 2), none, .mov (.t 59)⟩] (some [2]))
.ret))))
.skip)))
(.ops [⟨(some 14), none, .mov (.t 3)⟩,
⟨(some 15), none, .ibin .add .i64 (.t 14) (.c (.int .i64 1))⟩,
⟨(some 3), none, .mov (.t 15)⟩] (some [0, 3])))))))
(.seq (.ops [⟨(some 60), none, .mov (.t 0)⟩,
⟨(some 2), none, .mov (.t 60)⟩] (some [2]))
.ret))))⟩
/-- guidevane/dispatch.CheckPlant -/
def ir249 : IFn := ⟨93, [.t 2, .t 3],
(.seq (.ops [⟨(some 1), none, .box (.t 0)⟩,
⟨(some 2), none, .mov (.c (.int .i64 0))⟩,
⟨(some 3), none, .mov (.c (.int .i64 0))⟩] (some [1]))
(.seq (.ops [⟨(some 4), none, .mov (.f 256)⟩] none)
(.seq (.draw (.rd 0 ⟨(some 11), none, .mov (.t 4)⟩
(.rd 1 ⟨(some 12), none, .faddr 0 (.t 1)⟩
(.rd 2 ⟨(some 13), none, .load 1 false (.t 12)⟩
(.rd 11 ⟨(some 22), none, .faddr 0 (.t 1)⟩
(.rd 12 ⟨(some 23), none, .load 1 false (.t 22)⟩
(.rd 13 ⟨(some 24), none, .faddr 1 (.t 1)⟩
(.rd 14 ⟨(some 25), none, .load 1 false (.t 24)⟩
(.rd 15 ⟨(some 26), none, .ibin .leq .i64 (.t 23) (.t 25)⟩
(.rd 17 ⟨(some 28), none, .faddr 1 (.t 1)⟩
(.rd 18 ⟨(some 29), none, .load 1 false (.t 28)⟩
(.rd 19 ⟨(some 30), none, .faddr 0 (.t 1)⟩
(.rd 20 ⟨(some 31), none, .load 1 false (.t 30)⟩
(.rd 21 ⟨(some 32), none, .ibin .sub .i64 (.t 29) (.t 31)⟩
(.rd 22 ⟨(some 33), none, .ibin .lss .i64 (.t 32) (.c (.int .i64 40))⟩
(.rd 24 ⟨(some 35), none, .faddr 2 (.t 1)⟩
(.rd 25 ⟨(some 36), none, .load 1 false (.t 35)⟩
(.rd 26 ⟨(some 37), none, .lenV (.t 36)⟩
(.rd 27 ⟨(some 38), none, .ibin .gtr .i64 (.t 37) (.c (.int .i64 0))⟩
(.rd 29 ⟨(some 40), none, .faddr 2 (.t 1)⟩
(.rd 30 ⟨(some 41), none, .load 1 false (.t 40)⟩
(.rd 31 ⟨(some 42), none, .lenV (.t 41)⟩
(.rd 32 ⟨(some 43), none, .ibin .leq .i64 (.t 42) (.c (.int .i64 5))⟩
(.wr 3 ⟨(some 14), none, .callv (.t 11) [(.t 13)]⟩ [0, 2]
(.rd 4 ⟨(some 15), none, .mov (.t 14)⟩
(.rd 5 ⟨(some 16), (some (15, true)), .mov (.t 4)⟩
(.rd 6 ⟨(some 17), (some (15, true)), .faddr 1 (.t 1)⟩
(.rd 7 ⟨(some 18), (some (15, true)), .load 1 false (.t 17)⟩
(.wr 8 ⟨(some 19), (some (15, true)), .callv (.t 16) [(.t 18)]⟩ [5, 7, 4, 4]
(.rd 9 ⟨(some 20), none, .pick (.t 15) (.t 19) (.c (.bool false))⟩
(.wr 10 ⟨(some 21), none, .call 214 [(.t 20), (.c (.int .i64 2))]⟩ [9, 8]
(.wr 16 ⟨(some 27), none, .call 214 [(.t 26), (.c (.int .i64 9))]⟩ [15, 10]
(.wr 23 ⟨(some 34), none, .call 214 [(.t 33), (.c (.int .i64 8))]⟩ [22, 16]
(.wr 28 ⟨(some 39), none, .call 214 [(.t 38), (.c (.int .i64 10))]⟩ [27, 23]
(.wr 33 ⟨(some 44), none, .call 214 [(.t 43), (.c (.int .i64 8))]⟩ [32, 28]
(.wr 34 ⟨(some 45), none, .bslice 5 1 [(.int .i64 0)] [(0, 1, (.t 21)), (1, 1, (.t 27)), (2, 1, (.t 34)), (3, 1, (.t 39)), (4, 1, (.t 44))]⟩ [10, 16, 23, 28, 33]
(.wr 35 ⟨(some 46), none, .call 213 [(.t 45)]⟩ [34, 33]
(.rd 36 ⟨(some 5), none, .mov (.t 46)⟩
.fin) .no) .no) .no) .no) .no) .no) .no)) .no))))) .no))))))))))))))))))))))) (some [1, 5]))
(.seq (.seq (.ops [⟨(some 47), none, .mov (.t 5)⟩,
⟨(some 48), none, .ibin .neq .i64 (.t 47) (.c (.int .i64 0))⟩] (some [1, 5, 48]))
(.cond (.t 48)
(.seq (.ops [⟨(some 49), none, .mov (.t 5)⟩,
⟨(some 2), none, .mov (.c (.int .i64 0))⟩,
⟨(some 3), none, .mov (.t 49)⟩] (some [2, 3]))
.ret)
.skip))
(.seq (.seq (.ops [⟨(some 50), none, .faddr 2 (.t 1)⟩,
⟨(some 51), none, .load 1 false (.t 50)⟩,
⟨(some 52), none, .lenV (.t 51)⟩,
⟨(some 53), none, .mov (.c (.int .i64 0))⟩] (some [1, 51, 52, 53]))
(.block 0 (.loop (.seq (.ops [⟨(some 54), none, .ibin .lss .i64 (.t 53) (.t 52)⟩] none)
(.seq (.cond (.t 54)
.skip
(.exit 0))
(.seq (.block 1 (.seq (.ops [⟨(some 55), none, .mov (.t 53)⟩,
⟨(some 56), none, .iaddr 4 (.t 51) (.t 53)⟩,
⟨(some 57), none, .load 4 true (.t 56)⟩,
⟨(some 7), none, .alloc [(.string ⟨#[]⟩), (.int .i64 0), (.int .i64 0), (.int .i64 0)]⟩,
⟨(some 6), none, .mov (.t 55)⟩,
⟨none, none, .store 4 (.t 7) (.t 57)⟩] (some [1, 6, 7, 51, 52, 53]))
(.seq (.ops [⟨(some 58), none, .faddr 2 (.t 1)⟩,
⟨(some 59), none, .load 1 false (.t 58)⟩,
⟨(some 60), none, .mov (.t 6)⟩,
⟨(some 61), none, .sliceV 4 (.t 59) none (some (.t 60)) none⟩,
⟨(some 62), none, .mkfunc 258 [] [(.t 7)]⟩,
⟨(some 63), none, .call 257 [(.t 61), (.t 62)]⟩,
⟨(some 8), none, .mov (.t 63)⟩] (some [1, 6, 7, 8, 51, 52, 53]))
(.seq (.ops [⟨(some 64), none, .faddr 1 (.t 7)⟩,
⟨(some 65), none, .load 1 false (.t 64)⟩,
⟨(some 66), none, .call 235 [(.t 65), (.c (.int .i64 10000))]⟩,
⟨(some 67), none, .mov (.t 66)⟩,
⟨(some 68), (some (67, true)), .faddr 2 (.t 7)⟩,
⟨(some 69), (some (67, true)), .load 1 false (.t 68)⟩,
⟨(some 70), (some (67, true)), .call 235 [(.t 69), (.c (.int .i64 10000))]⟩,
⟨(some 71), none, .pick (.t 67) (.t 70) (.c (.bool false))⟩,
⟨(some 72), none, .mov (.t 71)⟩,
⟨(some 73), (some (72, true)), .faddr 3 (.t 7)⟩,
⟨(some 74), (some (72, true)), .load 1 false (.t 73)⟩,
⟨(some 75), (some (72, true)), .call 216 [(.t 74), (.c (.int .i64 0)), (.c (.int .i64 10000))]⟩,
⟨(some 76), none, .pick (.t 72) (.t 75) (.c (.bool false))⟩,
⟨(some 9), none, .mov (.t 76)⟩] (some [1, 6, 7, 8, 9, 51, 52, 53]))
(.seq (.ops [⟨(some 77), none, .faddr 0 (.t 7)⟩,
⟨(some 78), none, .load 1 false (.t 77)⟩,
⟨(some 79), none, .call 254 [(.t 78)]⟩,
⟨(some 80), none, .call 214 [(.t 79), (.c (.int .i64 4))]⟩,
⟨(some 81), none, .mov (.t 8)⟩,
⟨(some 82), none, .un .not (.t 81)⟩,
⟨(some 83), none, .call 214 [(.t 82), (.c (.int .i64 5))]⟩,
⟨(some 84), none, .mov (.t 9)⟩,
⟨(some 85), none, .call 214 [(.t 84), (.c (.int .i64 2))]⟩,
⟨(some 86), none, .bslice 3 1 [(.int .i64 0)] [(0, 1, (.t 80)), (1, 1, (.t 83)), (2, 1, (.t 85))]⟩,
⟨(some 87), none, .call 213 [(.t 86)]⟩,
⟨(some 10), none, .mov (.t 87)⟩] (some [1, 6, 10, 51, 52, 53]))
(.seq (.ops [⟨(some 88), none, .mov (.t 10)⟩,
⟨(some 89), none, .ibin .neq .i64 (.t 88) (.c (.int .i64 0))⟩] (some [1, 6, 10, 51, 52, 53, 89]))
(.cond (.t 89)
(.seq (.ops [⟨(some 90), none, .mov (.t 6)⟩,
⟨(some 91), none, .mov (.t 10)⟩,
⟨(some 2), none, .mov (.t 90)⟩,
⟨(some 3), none, .mov (.t 91)⟩] (some [2, 3]))
.ret)
.skip)))))))
(.ops [⟨(some 92), none, .ibin .add .i64 (.t 53) (.c (.int .i64 1))⟩,
⟨(some 53), none, .mov (.t 92)⟩] (some [1, 51, 52, 53]))))))))
(.seq (.ops [⟨(some 2), none, .mov (.c (.int .i64 0))⟩,
⟨(some 3), none, .mov (.c (.int .i64 0))⟩] none)
.ret))))))⟩
/-- guidevane/dispatch.isPrice -/
def ir250 : IFn := ⟨5, [.t 2],
(.seq (.ops [⟨(some 2), none, .mov (.c (.bool false))⟩] (some [0]))
(.seq (.ops [⟨(some 3), none, .mov (.t 0)⟩,
⟨(some 4), none, .call 235 [(.t 3), (.c (.int .i64 10000))]⟩,
⟨(some 2), none, .mov (.t 4)⟩] (some [2]))
.ret))⟩
/-- (guidevane/dispatch.work).steps$1 -/
def ir251 : IFn := ⟨30, [],
(.seq (.ops [⟨(some 7), none, .faddr 0 (.t 1)⟩,
⟨(some 8), none, .faddr 2 (.t 7)⟩,
⟨(some 9), none, .load 1 false (.t 8)⟩,
⟨(some 10), none, .lenV (.t 9)⟩,
⟨(some 11), none, .mov (.c (.int .i64 0))⟩] (some [0, 1, 2, 3, 10, 11]))
(.block 0 (.loop (.seq (.ops [⟨(some 12), none, .ibin .lss .i64 (.t 11) (.t 10)⟩] none)
(.seq (.cond (.t 12)
.skip
(.exit 0))
(.seq (.block 1 (.seq (.ops [⟨(some 13), none, .mov (.t 11)⟩,
⟨(some 5), none, .mov (.t 13)⟩] (some [0, 1, 2, 3, 5, 10, 11]))
(.seq (.ops [⟨(some 14), none, .load 7 true (.t 1)⟩,
⟨(some 15), none, .load 1 false (.t 2)⟩,
⟨(some 16), none, .load 1 false (.t 3)⟩,
⟨(some 17), none, .mov (.t 5)⟩,
⟨(some 18), none, .call 242 [(.t 14), (.t 15), (.t 16), (.t 17)]⟩,
⟨(some 6), none, .mov (.t 18)⟩] (some [0, 1, 2, 3, 5, 6, 10, 11]))
(.seq (.ops [⟨(some 19), none, .load 7 true (.t 1)⟩,
⟨(some 20), none, .mov (.t 6)⟩,
⟨(some 21), none, .call 243 [(.t 19), (.t 20)]⟩,
⟨(some 22), none, .mov (.t 21)⟩,
⟨(some 23), (some (22, true)), .mov (.t 0)⟩,
⟨(some 24), (some (22, true)), .mov (.t 5)⟩,
⟨(some 25), (some (22, true)), .mov (.t 6)⟩,
⟨(some 26), (some (22, true)), .callv (.t 23) [(.t 24), (.t 25)]⟩,
⟨(some 27), (some (22, true)), .un .not (.t 26)⟩,
⟨(some 28), none, .pick (.t 22) (.t 27) (.c (.bool false))⟩] (some [0, 1, 2, 3, 10, 11, 28]))
(.cond (.t 28)
.ret
.skip)))))
(.ops [⟨(some 29), none, .ibin .add .i64 (.t 11) (.c (.int .i64 1))⟩,
⟨(some 11), none, .mov (.t 29)⟩] (some [0, 1, 2, 3, 10, 11]))))))))⟩
/-- slices.ContainsFunc[[]guidevane/api.DispatchRevision,guidevane/api.DispatchRevision] -/
def ir252 : IFn := ⟨9, [.t 4],
(.seq (.ops [⟨(some 4), none, .mov (.c (.bool false))⟩] (some [0, 1]))
(.seq (.ops [⟨(some 5), none, .mov (.t 0)⟩,
⟨(some 6), none, .mov (.t 1)⟩,
⟨(some 7), none, .call 259 [(.t 5), (.t 6)]⟩,
⟨(some 8), none, .ibin .geq .i64 (.t 7) (.c (.int .i64 0))⟩,
⟨(some 4), none, .mov (.t 8)⟩] (some [4]))
.ret))⟩
/-- guidevane/dispatch.CheckRevisions$1 -/
def ir253 : IFn := ⟨9, [.t 3],
(.seq (.ops [⟨(some 2), none, .box (.t 0)⟩,
⟨(some 3), none, .mov (.c (.bool false))⟩] (some [1, 2]))
(.seq (.ops [⟨(some 4), none, .faddr 0 (.t 2)⟩,
⟨(some 5), none, .load 1 false (.t 4)⟩,
⟨(some 6), none, .faddr 0 (.t 1)⟩,
⟨(some 7), none, .load 1 false (.t 6)⟩,
⟨(some 8), none, .sbin .eql (.t 5) (.t 7)⟩,
⟨(some 3), none, .mov (.t 8)⟩] (some [3]))
.ret))⟩
/-- guidevane/dispatch.isName -/
def ir254 : IFn := ⟨38, [.t 2],
(.seq (.ops [⟨(some 2), none, .mov (.c (.bool false))⟩] (some [0]))
(.seq (.seq (.ops [⟨(some 6), none, .mov (.t 0)⟩,
⟨(some 7), none, .s2b (.t 6)⟩,
⟨(some 8), none, .lenV (.t 7)⟩,
⟨(some 9), none, .mov (.c (.int .i64 0))⟩] (some [0, 7, 8, 9]))
(.block 0 (.loop (.seq (.ops [⟨(some 10), none, .ibin .lss .i64 (.t 9) (.t 8)⟩] none)
(.seq (.cond (.t 10)
.skip
(.exit 0))
(.seq (.block 1 (.seq (.ops [⟨(some 11), none, .mov (.t 9)⟩,
⟨(some 12), none, .iaddr 1 (.t 7) (.t 9)⟩,
⟨(some 13), none, .load 1 false (.t 12)⟩,
⟨(some 3), none, .mov (.t 11)⟩,
⟨(some 4), none, .mov (.t 13)⟩] (some [0, 3, 4, 7, 8, 9]))
(.seq (.ops [⟨(some 14), none, .mov (.t 4)⟩,
⟨(some 15), none, .ibin .or .u8 (.t 14) (.c (.int .u8 32))⟩,
⟨(some 16), none, .conv .i64 (.t 15)⟩,
⟨(some 17), none, .call 216 [(.t 16), (.c (.int .i64 97)), (.c (.int .i64 122))]⟩,
⟨(some 5), none, .mov (.t 17)⟩] (some [0, 3, 4, 5, 7, 8, 9]))
(.seq (.ops [⟨(some 18), none, .mov (.t 5)⟩,
⟨(some 19), none, .un .not (.t 18)⟩,
⟨(some 20), none, .mov (.t 19)⟩,
⟨(some 21), (some (20, true)), .mov (.t 3)⟩,
⟨(some 22), (some (20, true)), .ibin .eql .i64 (.t 21) (.c (.int .i64 0))⟩,
⟨(some 23), (some (20, true)), .mov (.t 22)⟩,
⟨(some 24), (some (23, false)), .mov (.t 4)⟩,
⟨(some 25), (some (23, false)), .ibin .neq .u8 (.t 24) (.c (.int .u8 45))⟩,
⟨(some 26), (some (23, false)), .mov (.t 25)⟩,
⟨(some 27), (some (26, true)), .mov (.t 4)⟩,
⟨(some 28), (some (26, true)), .conv .i64 (.t 27)⟩,
⟨(some 29), (some (26, true)), .call 216 [(.t 28), (.c (.int .i64 48)), (.c (.int .i64 57))]⟩,
⟨(some 30), (some (26, true)), .un .not (.t 29)⟩,
⟨(some 31), (some (23, false)), .pick (.t 26) (.t 30) (.c (.bool false))⟩,
⟨(some 32), (some (20, true)), .pick (.t 23) (.c (.bool true)) (.t 31)⟩,
⟨(some 33), none, .pick (.t 20) (.t 32) (.c (.bool false))⟩] (some [0, 7, 8, 9, 33]))
(.cond (.t 33)
(.seq (.ops [⟨(some 2), none, .mov (.c (.bool false))⟩] none)
.ret)
.skip)))))
(.ops [⟨(some 34), none, .ibin .add .i64 (.t 9) (.c (.int .i64 1))⟩,
⟨(some 9), none, .mov (.t 34)⟩] (some [0, 7, 8, 9]))))))))
(.seq (.ops [⟨(some 35), none, .mov (.t 0)⟩,
⟨(some 36), none, .lenS (.t 35)⟩,
⟨(some 37), none, .call 216 [(.t 36), (.c (.int .i64 1)), (.c (.int .i64 12))]⟩,
⟨(some 2), none, .mov (.t 37)⟩] (some [2]))
.ret)))⟩
/-- math/bits.Mul -/
def ir255 : IFn := ⟨30, [.t 4, .t 5],
(.seq (.ops [⟨(some 4), none, .mov (.c (.int .u64 0))⟩,
⟨(some 5), none, .mov (.c (.int .u64 0))⟩] (some [0, 1]))
(.seq (.cond (.c (.bool false))
(.seq (.ops [⟨(some 11), none, .mov (.t 0)⟩,
⟨(some 12), none, .conv .u32 (.t 11)⟩,
⟨(some 13), none, .mov (.t 1)⟩,
⟨(some 14), none, .conv .u32 (.t 13)⟩,
⟨(some 15), none, .call 260 [(.t 12), (.t 14)]⟩,
⟨(some 10), none, .mov (.t 15)⟩,
⟨(some 16), none, .extract 0 (.t 10)⟩,
⟨(some 17), none, .extract 1 (.t 10)⟩,
⟨(some 6), none, .mov (.t 16)⟩,
⟨(some 7), none, .mov (.t 17)⟩] (some [6, 7]))
(.seq (.ops [⟨(some 18), none, .mov (.t 6)⟩,
⟨(some 19), none, .conv .u64 (.t 18)⟩,
⟨(some 20), none, .mov (.t 7)⟩,
⟨(some 21), none, .conv .u64 (.t 20)⟩,
⟨(some 4), none, .mov (.t 19)⟩,
⟨(some 5), none, .mov (.t 21)⟩] (some [4, 5]))
.ret))
.skip)
(.seq (.ops [⟨(some 23), none, .mov (.t 0)⟩,
⟨(some 24), none, .mov (.t 1)⟩,
⟨(some 25), none, .call 261 [(.t 23), (.t 24)]⟩,
⟨(some 22), none, .mov (.t 25)⟩,
⟨(some 26), none, .extract 0 (.t 22)⟩,
⟨(some 27), none, .extract 1 (.t 22)⟩,
⟨(some 8), none, .mov (.t 26)⟩,
⟨(some 9), none, .mov (.t 27)⟩] (some [8, 9]))
(.seq (.ops [⟨(some 28), none, .mov (.t 8)⟩,
⟨(some 29), none, .mov (.t 9)⟩,
⟨(some 4), none, .mov (.t 28)⟩,
⟨(some 5), none, .mov (.t 29)⟩] (some [4, 5]))
.ret))))⟩
/-- guidevane/dispatch.CheckPlant$1 -/
def ir256 : IFn := ⟨5, [.t 2],
(.seq (.ops [⟨(some 2), none, .mov (.c (.bool false))⟩] (some [0]))
(.seq (.ops [⟨(some 3), none, .mov (.t 0)⟩,
⟨(some 4), none, .call 216 [(.t 3), (.c (.int .i64 0)), (.c (.int .i64 1000000))]⟩,
⟨(some 2), none, .mov (.t 4)⟩] (some [2]))
.ret))⟩
/-- slices.ContainsFunc[[]guidevane/api.DispatchMode,guidevane/api.DispatchMode] -/
def ir257 : IFn := ⟨9, [.t 4],
(.seq (.ops [⟨(some 4), none, .mov (.c (.bool false))⟩] (some [0, 1]))
(.seq (.ops [⟨(some 5), none, .mov (.t 0)⟩,
⟨(some 6), none, .mov (.t 1)⟩,
⟨(some 7), none, .call 262 [(.t 5), (.t 6)]⟩,
⟨(some 8), none, .ibin .geq .i64 (.t 7) (.c (.int .i64 0))⟩,
⟨(some 4), none, .mov (.t 8)⟩] (some [4]))
.ret))⟩
/-- guidevane/dispatch.CheckPlant$2 -/
def ir258 : IFn := ⟨9, [.t 3],
(.seq (.ops [⟨(some 2), none, .box (.t 0)⟩,
⟨(some 3), none, .mov (.c (.bool false))⟩] (some [1, 2]))
(.seq (.ops [⟨(some 4), none, .faddr 0 (.t 2)⟩,
⟨(some 5), none, .load 1 false (.t 4)⟩,
⟨(some 6), none, .faddr 0 (.t 1)⟩,
⟨(some 7), none, .load 1 false (.t 6)⟩,
⟨(some 8), none, .sbin .eql (.t 5) (.t 7)⟩,
⟨(some 3), none, .mov (.t 8)⟩] (some [3]))
.ret))⟩
/-- slices.IndexFunc[[]guidevane/api.DispatchRevision,guidevane/api.DispatchRevision] -/
def ir259 : IFn := ⟨19, [.t 4],
(.seq (.ops [⟨(some 4), none, .mov (.c (.int .i64 0))⟩] (some [0, 1]))
(.seq (.seq (.ops [⟨(some 6), none, .mov (.t 0)⟩,
⟨(some 7), none, .lenV (.t 6)⟩,
⟨(some 8), none, .mov (.c (.int .i64 0))⟩] (some [0, 1, 7, 8]))
(.block 0 (.loop (.seq (.ops [⟨(some 9), none, .ibin .lss .i64 (.t 8) (.t 7)⟩] none)
(.seq (.cond (.t 9)
.skip
(.exit 0))
(.seq (.block 1 (.seq (.ops [⟨(some 10), none, .mov (.t 8)⟩,
⟨(some 5), none, .mov (.t 10)⟩] (some [0, 1, 5, 7, 8]))
(.seq (.ops [⟨(some 11), none, .mov (.t 1)⟩,
⟨(some 12), none, .mov (.t 0)⟩,
⟨(some 13), none, .mov (.t 5)⟩,
⟨(some 14), none, .iaddr 3 (.t 12) (.t 13)⟩,
⟨(some 15), none, .load 3 true (.t 14)⟩,
⟨(some 16), none, .callv (.t 11) [(.t 15)]⟩] (some [0, 1, 5, 7, 8, 16]))
(.cond (.t 16)
(.seq (.ops [⟨(some 17), none, .mov (.t 5)⟩,
⟨(some 4), none, .mov (.t 17)⟩] (some [4]))
.ret)
.skip))))
(.ops [⟨(some 18), none, .ibin .add .i64 (.t 8) (.c (.int .i64 1))⟩,
⟨(some 8), none, .mov (.t 18)⟩] (some [0, 1, 7, 8]))))))))
(.seq (.ops [⟨(some 4), none, .mov (.c (.int .i64 (-1)))⟩] none)
.ret)))⟩
/-- math/bits.Mul32 -/
def ir260 : IFn := ⟨17, [.t 4, .t 5],
(.seq (.ops [⟨(some 4), none, .mov (.c (.int .u32 0))⟩,
⟨(some 5), none, .mov (.c (.int .u32 0))⟩] (some [0, 1]))
(.seq (.ops [⟨(some 7), none, .mov (.t 0)⟩,
⟨(some 8), none, .conv .u64 (.t 7)⟩,
⟨(some 9), none, .mov (.t 1)⟩,
⟨(some 10), none, .conv .u64 (.t 9)⟩,
⟨(some 11), none, .ibin .mul .u64 (.t 8) (.t 10)⟩,
⟨(some 6), none, .mov (.t 11)⟩] (some [6]))
(.seq (.ops [⟨(some 12), none, .mov (.t 6)⟩,
⟨(some 13), none, .shift .shr .u64 (.t 12) (.c (.int .u64 32))⟩,
⟨(some 14), none, .conv .u32 (.t 13)⟩,
⟨(some 15), none, .mov (.t 6)⟩,
⟨(some 16), none, .conv .u32 (.t 15)⟩,
⟨(some 4), none, .mov (.t 14)⟩,
⟨(some 5), none, .mov (.t 16)⟩] (some [4, 5]))
.ret)))⟩
/-- math/bits.Mul64 -/
def ir261 : IFn := ⟨51, [.t 4, .t 5],
(.seq (.ops [⟨(some 4), none, .mov (.c (.int .u64 0))⟩,
⟨(some 5), none, .mov (.c (.int .u64 0))⟩] (some [0, 1]))
(.seq (.ops [⟨(some 14), none, .mov (.t 0)⟩,
⟨(some 15), none, .ibin .and .u64 (.t 14) (.c (.int .u64 4294967295))⟩,
⟨(some 6), none, .mov (.t 15)⟩] (some [0, 1, 6]))
(.seq (.ops [⟨(some 16), none, .mov (.t 0)⟩,
⟨(some 17), none, .shift .shr .u64 (.t 16) (.c (.int .u64 32))⟩,
⟨(some 7), none, .mov (.t 17)⟩] (some [0, 1, 6, 7]))
(.seq (.ops [⟨(some 18), none, .mov (.t 1)⟩,
⟨(some 19), none, .ibin .and .u64 (.t 18) (.c (.int .u64 4294967295))⟩,
⟨(some 8), none, .mov (.t 19)⟩] (some [0, 1, 6, 7, 8]))
(.seq (.ops [⟨(some 20), none, .mov (.t 1)⟩,
⟨(some 21), none, .shift .shr .u64 (.t 20) (.c (.int .u64 32))⟩,
⟨(some 9), none, .mov (.t 21)⟩] (some [0, 1, 6, 7, 8, 9]))
(.seq (.ops [⟨(some 22), none, .mov (.t 6)⟩,
⟨(some 23), none, .mov (.t 8)⟩,
⟨(some 24), none, .ibin .mul .u64 (.t 22) (.t 23)⟩,
⟨(some 10), none, .mov (.t 24)⟩] (some [0, 1, 6, 7, 8, 9, 10]))
(.seq (.ops [⟨(some 25), none, .mov (.t 7)⟩,
⟨(some 26), none, .mov (.t 8)⟩,
⟨(some 27), none, .ibin .mul .u64 (.t 25) (.t 26)⟩,
⟨(some 28), none, .mov (.t 10)⟩,
⟨(some 29), none, .shift .shr .u64 (.t 28) (.c (.int .u64 32))⟩,
⟨(some 30), none, .ibin .add .u64 (.t 27) (.t 29)⟩,
⟨(some 11), none, .mov (.t 30)⟩] (some [0, 1, 6, 7, 9, 11]))
(.seq (.ops [⟨(some 31), none, .mov (.t 11)⟩,
⟨(some 32), none, .ibin .and .u64 (.t 31) (.c (.int .u64 4294967295))⟩,
⟨(some 12), none, .mov (.t 32)⟩] (some [0, 1, 6, 7, 9, 11, 12]))
(.seq (.ops [⟨(some 33), none, .mov (.t 11)⟩,
⟨(some 34), none, .shift .shr .u64 (.t 33) (.c (.int .u64 32))⟩,
⟨(some 13), none, .mov (.t 34)⟩] (some [0, 1, 6, 7, 9, 12, 13]))
(.seq (.ops [⟨(some 35), none, .mov (.t 12)⟩,
⟨(some 36), none, .mov (.t 6)⟩,
⟨(some 37), none, .mov (.t 9)⟩,
⟨(some 38), none, .ibin .mul .u64 (.t 36) (.t 37)⟩,
⟨(some 39), none, .ibin .add .u64 (.t 35) (.t 38)⟩,
⟨(some 12), none, .mov (.t 39)⟩] (some [0, 1, 7, 9, 12, 13]))
(.seq (.ops [⟨(some 40), none, .mov (.t 7)⟩,
⟨(some 41), none, .mov (.t 9)⟩,
⟨(some 42), none, .ibin .mul .u64 (.t 40) (.t 41)⟩,
⟨(some 43), none, .mov (.t 13)⟩,
⟨(some 44), none, .ibin .add .u64 (.t 42) (.t 43)⟩,
⟨(some 45), none, .mov (.t 12)⟩,
⟨(some 46), none, .shift .shr .u64 (.t 45) (.c (.int .u64 32))⟩,
⟨(some 47), none, .ibin .add .u64 (.t 44) (.t 46)⟩,
⟨(some 4), none, .mov (.t 47)⟩] (some [0, 1, 4]))
(.seq (.ops [⟨(some 48), none, .mov (.t 0)⟩,
⟨(some 49), none, .mov (.t 1)⟩,
⟨(some 50), none, .ibin .mul .u64 (.t 48) (.t 49)⟩,
⟨(some 5), none, .mov (.t 50)⟩] (some [4, 5]))
.ret))))))))))))⟩
/-- slices.IndexFunc[[]guidevane/api.DispatchMode,guidevane/api.DispatchMode] -/
def ir262 : IFn := ⟨19, [.t 4],
(.seq (.ops [⟨(some 4), none, .mov (.c (.int .i64 0))⟩] (some [0, 1]))
(.seq (.seq (.ops [⟨(some 6), none, .mov (.t 0)⟩,
⟨(some 7), none, .lenV (.t 6)⟩,
⟨(some 8), none, .mov (.c (.int .i64 0))⟩] (some [0, 1, 7, 8]))
(.block 0 (.loop (.seq (.ops [⟨(some 9), none, .ibin .lss .i64 (.t 8) (.t 7)⟩] none)
(.seq (.cond (.t 9)
.skip
(.exit 0))
(.seq (.block 1 (.seq (.ops [⟨(some 10), none, .mov (.t 8)⟩,
⟨(some 5), none, .mov (.t 10)⟩] (some [0, 1, 5, 7, 8]))
(.seq (.ops [⟨(some 11), none, .mov (.t 1)⟩,
⟨(some 12), none, .mov (.t 0)⟩,
⟨(some 13), none, .mov (.t 5)⟩,
⟨(some 14), none, .iaddr 4 (.t 12) (.t 13)⟩,
⟨(some 15), none, .load 4 true (.t 14)⟩,
⟨(some 16), none, .callv (.t 11) [(.t 15)]⟩] (some [0, 1, 5, 7, 8, 16]))
(.cond (.t 16)
(.seq (.ops [⟨(some 17), none, .mov (.t 5)⟩,
⟨(some 4), none, .mov (.t 17)⟩] (some [4]))
.ret)
.skip))))
(.ops [⟨(some 18), none, .ibin .add .i64 (.t 8) (.c (.int .i64 1))⟩,
⟨(some 8), none, .mov (.t 18)⟩] (some [0, 1, 7, 8]))))))))
(.seq (.ops [⟨(some 4), none, .mov (.c (.int .i64 (-1)))⟩] none)
.ret)))⟩
/-- guidevane/guidevanelaw08.DispatchBounds -/
def ir303 : IFn := ⟨77, [.t 6],
(.seq (.ops [⟨(some 3), none, .box (.t 0)⟩,
⟨(some 4), none, .box (.t 1)⟩,
⟨(some 6), none, .mov (.c (.bool false))⟩] (some [2, 3, 4]))
(.seq (.seq (.ops [⟨(some 13), none, .call 198 []⟩,
⟨(some 14), none, .un .not (.t 13)⟩] (some [2, 3, 4, 14]))
(.cond (.t 14)
(.seq (.ops [⟨(some 6), none, .mov (.c (.bool false))⟩] none)
.ret)
.skip))
(.seq (.seq (.ops [⟨(some 15), none, .load 3 true (.t 3)⟩,
⟨(some 16), none, .call 307 [(.t 15)]⟩,
⟨(some 17), none, .un .not (.t 16)⟩,
⟨(some 18), none, .mov (.t 17)⟩,
⟨(some 19), (some (18, false)), .load 4 true (.t 4)⟩,
⟨(some 20), (some (18, false)), .call 308 [(.t 19)]⟩,
⟨(some 21), (some (18, false)), .un .not (.t 20)⟩,
⟨(some 22), none, .pick (.t 18) (.c (.bool true)) (.t 21)⟩,
⟨(some 23), none, .mov (.t 22)⟩,
⟨(some 24), (some (23, false)), .mov (.t 2)⟩,
⟨(some 25), (some (23, false)), .lenV (.t 24)⟩,
⟨(some 26), (some (23, false)), .ibin .gtr .i64 (.t 25) (.c (.int .i64 13))⟩,
⟨(some 27), none, .pick (.t 23) (.c (.bool true)) (.t 26)⟩] (some [2, 3, 4, 27]))
(.cond (.t 27)
(.seq (.ops [⟨(some 6), none, .mov (.c (.bool true))⟩] none)
.ret)
.skip))
(.seq (.seq (.ops [⟨(some 7), none, .mov (.c (.int .i64 0))⟩] none)
(.block 0 (.loop (.seq (.seq (.ops [⟨(some 28), none, .mov (.t 7)⟩,
⟨(some 29), none, .mov (.t 2)⟩,
⟨(some 30), none, .lenV (.t 29)⟩,
⟨(some 31), none, .ibin .lss .i64 (.t 28) (.t 30)⟩] (some [2, 3, 4, 7, 31]))
(.cond (.t 31)
.skip
(.exit 0)))
(.seq (.block 1 (.seq (.ops [⟨(some 34), none, .mov (.t 2)⟩,
⟨(some 35), none, .mov (.t 7)⟩,
⟨(some 36), none, .iaddr 1 (.t 34) (.t 35)⟩,
⟨(some 37), none, .load 1 false (.t 36)⟩,
⟨(some 38), none, .lenV (.t 37)⟩,
⟨(some 39), none, .ibin .gtr .i64 (.t 38) (.c (.int .i64 210))⟩] (some [2, 3, 4, 7, 39]))
(.cond (.t 39)
(.seq (.ops [⟨(some 6), none, .mov (.c (.bool true))⟩] none)
.ret)
.skip)))
(.ops [⟨(some 32), none, .mov (.t 7)⟩,
⟨(some 33), none, .ibin .add .i64 (.t 32) (.c (.int .i64 1))⟩,
⟨(some 7), none, .mov (.t 33)⟩] (some [2, 3, 4, 7])))))))
(.seq (.draw (.rd 0 ⟨(some 41), none, .load 3 true (.t 3)⟩
(.rd 2 ⟨(some 43), none, .load 4 true (.t 4)⟩
(.rd 4 ⟨(some 45), none, .mov (.t 2)⟩
(.wr 1 ⟨(some 42), none, .call 309 [(.t 41)]⟩ [0]
(.wr 3 ⟨(some 44), none, .call 310 [(.t 43)]⟩ [2, 1]
(.wr 5 ⟨(some 46), none, .call 332 [(.t 45)]⟩ [4, 3]
(.wr 6 ⟨(some 47), none, .call 331 [(.t 42), (.t 44), (.t 46)]⟩ [1, 3, 5, 5]
(.rd 7 ⟨(some 40), none, .mov (.t 47)⟩
(.rd 8 ⟨(some 48), none, .extract 0 (.t 40)⟩
(.rd 9 ⟨(some 49), none, .extract 1 (.t 40)⟩
(.rd 10 ⟨(some 8), none, .mov (.t 48)⟩
(.rd 11 ⟨(some 9), none, .mov (.t 49)⟩
.fin))))) .no) .no) .no) .no)))) (some [2, 3, 4, 8, 9]))
(.seq (.seq (.ops [⟨(some 50), none, .load 3 true (.t 3)⟩,
⟨(some 51), none, .load 4 true (.t 4)⟩,
⟨(some 52), none, .call 311 [(.t 50), (.t 51)]⟩,
⟨(some 10), none, .mov (.t 52)⟩] (some [2, 3, 4, 8, 9, 10]))
(.seq (.ops [⟨(some 53), none, .mov (.t 10)⟩,
⟨(some 54), none, .ibin .neq .i64 (.t 53) (.c (.int .i64 0))⟩] (some [2, 3, 4, 8, 9, 10, 54]))
(.cond (.t 54)
(.seq (.ops [⟨(some 55), none, .mov (.t 9)⟩,
⟨(some 56), none, .mov (.t 10)⟩,
⟨(some 57), none, .ibin .eql .i64 (.t 55) (.t 56)⟩,
⟨(some 58), none, .mov (.t 57)⟩,
⟨(some 59), (some (58, true)), .mov (.t 8)⟩,
⟨(some 60), (some (58, true)), .ibin .eql .i64 (.t 59) (.c (.int .i64 0))⟩,
⟨(some 61), none, .pick (.t 58) (.t 60) (.c (.bool false))⟩,
⟨(some 6), none, .mov (.t 61)⟩] (some [6]))
.ret)
.skip)))
(.seq (.ops [⟨(some 63), none, .load 3 true (.t 3)⟩,
⟨(some 64), none, .load 4 true (.t 4)⟩,
⟨(some 65), none, .mov (.t 2)⟩,
⟨(some 66), none, .call 333 [(.t 63), (.t 64), (.t 65)]⟩,
⟨(some 62), none, .mov (.t 66)⟩,
⟨(some 67), none, .extract 0 (.t 62)⟩,
⟨(some 68), none, .extract 1 (.t 62)⟩,
⟨(some 11), none, .mov (.t 67)⟩,
⟨(some 12), none, .mov (.t 68)⟩] (some [8, 9, 11, 12]))
(.seq (.ops [⟨(some 69), none, .mov (.t 9)⟩,
⟨(some 70), none, .mov (.t 12)⟩,
⟨(some 71), none, .ibin .eql .i64 (.t 69) (.t 70)⟩,
⟨(some 72), none, .mov (.t 71)⟩,
⟨(some 73), (some (72, true)), .mov (.t 8)⟩,
⟨(some 74), (some (72, true)), .mov (.t 11)⟩,
⟨(some 75), (some (72, true)), .ibin .eql .i64 (.t 73) (.t 74)⟩,
⟨(some 76), none, .pick (.t 72) (.t 75) (.c (.bool false))⟩,
⟨(some 6), none, .mov (.t 76)⟩] (some [6]))
.ret))))))))⟩
/-- guidevane/guidevanelaw08.Few -/
def ir307 : IFn := ⟨23, [.t 2],
(.seq (.ops [⟨(some 1), none, .box (.t 0)⟩,
⟨(some 2), none, .mov (.c (.bool false))⟩] (some [1]))
(.seq (.seq (.ops [⟨(some 4), none, .faddr 2 (.t 1)⟩,
⟨(some 5), none, .load 1 false (.t 4)⟩,
⟨(some 6), none, .lenV (.t 5)⟩,
⟨(some 7), none, .ibin .gtr .i64 (.t 6) (.c (.int .i64 7))⟩] (some [1, 7]))
(.cond (.t 7)
(.seq (.ops [⟨(some 2), none, .mov (.c (.bool false))⟩] none)
.ret)
.skip))
(.seq (.seq (.ops [⟨(some 3), none, .mov (.c (.int .i64 0))⟩] none)
(.block 0 (.loop (.seq (.seq (.ops [⟨(some 8), none, .mov (.t 3)⟩,
⟨(some 9), none, .faddr 2 (.t 1)⟩,
⟨(some 10), none, .load 1 false (.t 9)⟩,
⟨(some 11), none, .lenV (.t 10)⟩,
⟨(some 12), none, .ibin .lss .i64 (.t 8) (.t 11)⟩] (some [1, 3, 12]))
(.cond (.t 12)
.skip
(.exit 0)))
(.seq (.block 1 (.seq (.ops [⟨(some 15), none, .faddr 2 (.t 1)⟩,
⟨(some 16), none, .load 1 false (.t 15)⟩,
⟨(some 17), none, .mov (.t 3)⟩,
⟨(some 18), none, .iaddr 4 (.t 16) (.t 17)⟩,
⟨(some 19), none, .faddr 0 (.t 18)⟩,
⟨(some 20), none, .load 1 false (.t 19)⟩,
⟨(some 21), none, .lenS (.t 20)⟩,
⟨(some 22), none, .ibin .gtr .i64 (.t 21) (.c (.int .i64 20))⟩] (some [1, 3, 22]))
(.cond (.t 22)
(.seq (.ops [⟨(some 2), none, .mov (.c (.bool false))⟩] none)
.ret)
.skip)))
(.ops [⟨(some 13), none, .mov (.t 3)⟩,
⟨(some 14), none, .ibin .add .i64 (.t 13) (.c (.int .i64 1))⟩,
⟨(some 3), none, .mov (.t 14)⟩] (some [1, 3])))))))
(.seq (.ops [⟨(some 2), none, .mov (.c (.bool true))⟩] none)
.ret))))⟩
/-- guidevane/guidevanelaw08.Short -/
def ir308 : IFn := ⟨7, [.t 2],
(.seq (.ops [⟨(some 1), none, .box (.t 0)⟩,
⟨(some 2), none, .mov (.c (.bool false))⟩] (some [1]))
(.seq (.ops [⟨(some 3), none, .faddr 3 (.t 1)⟩,
⟨(some 4), none, .load 1 false (.t 3)⟩,
⟨(some 5), none, .lenV (.t 4)⟩,
⟨(some 6), none, .ibin .leq .i64 (.t 5) (.c (.int .i64 12))⟩,
⟨(some 2), none, .mov (.t 6)⟩] (some [2]))
.ret))⟩
/-- guidevane/guidevaneref08.CopyPlant -/
def ir309 : IFn := ⟨9, [.cell 2 3 true],
(.seq (.ops [⟨(some 1), none, .box (.t 0)⟩,
⟨(some 2), none, .alloc [(.int .i64 0), (.int .i64 0), (.slice none 0 0)]⟩] (some [1, 2]))
(.seq (.ops [⟨(some 3), none, .bslice 0 4 [(.string ⟨#[]⟩), (.int .i64 0), (.int .i64 0), (.int .i64 0)] []⟩,
⟨(some 4), none, .faddr 2 (.t 1)⟩,
⟨(some 5), none, .load 1 false (.t 4)⟩,
⟨(some 6), none, .append 4 40 (.t 3) (.t 5)⟩,
⟨(some 7), none, .faddr 2 (.t 1)⟩,
⟨none, none, .store 1 (.t 7) (.t 6)⟩] (some [1, 2]))
(.seq (.ops [⟨(some 8), none, .load 3 true (.t 1)⟩,
⟨none, none, .store 3 (.t 2) (.t 8)⟩] (some [2]))
.ret)))⟩
/-- guidevane/guidevaneref08.CopyTask -/
def ir310 : IFn := ⟨9, [.cell 2 4 true],
(.seq (.ops [⟨(some 1), none, .box (.t 0)⟩,
⟨(some 2), none, .alloc [(.int .i64 0), (.int .i64 0), (.int .i64 0), (.slice none 0 0)]⟩] (some [1, 2]))
(.seq (.ops [⟨(some 3), none, .bslice 0 3 [(.int .i64 0), (.int .i64 0), (.int .i64 0)] []⟩,
⟨(some 4), none, .faddr 3 (.t 1)⟩,
⟨(some 5), none, .load 1 false (.t 4)⟩,
⟨(some 6), none, .append 3 24 (.t 3) (.t 5)⟩,
⟨(some 7), none, .faddr 3 (.t 1)⟩,
⟨none, none, .store 1 (.t 7) (.t 6)⟩] (some [1, 2]))
(.seq (.ops [⟨(some 8), none, .load 4 true (.t 1)⟩,
⟨none, none, .store 4 (.t 2) (.t 8)⟩] (some [2]))
.ret)))⟩
/-- guidevane/guidevaneref08.TaskErr -/
def ir311 : IFn := ⟨14, [.t 4],
(.seq (.ops [⟨(some 2), none, .box (.t 0)⟩,
⟨(some 3), none, .box (.t 1)⟩,
⟨(some 4), none, .mov (.c (.int .i64 0))⟩] (some [2, 3]))
(.seq (.ops [⟨(some 8), none, .load 3 true (.t 2)⟩,
⟨(some 9), none, .load 4 true (.t 3)⟩,
⟨(some 10), none, .call 326 [(.t 8), (.t 9)]⟩,
⟨(some 7), none, .mov (.t 10)⟩,
⟨(some 11), none, .extract 0 (.t 7)⟩,
⟨(some 12), none, .extract 1 (.t 7)⟩,
⟨(some 5), none, .mov (.t 11)⟩,
⟨(some 6), none, .mov (.t 12)⟩] (some [6]))
(.seq (.ops [⟨(some 13), none, .mov (.t 6)⟩,
⟨(some 4), none, .mov (.t 13)⟩] (some [4]))
.ret)))⟩
/-- guidevane/guidevaneref08.CheckPlant -/
def ir325 : IFn := ⟨63, [.t 2, .t 3],
(.seq (.ops [⟨(some 1), none, .box (.t 0)⟩,
⟨(some 2), none, .mov (.c (.int .i64 0))⟩,
⟨(some 3), none, .mov (.c (.int .i64 0))⟩] (some [1]))
(.seq (.seq (.ops [⟨(some 7), none, .faddr 0 (.t 1)⟩,
⟨(some 8), none, .load 1 false (.t 7)⟩,
⟨(some 9), none, .call 15 [(.t 8), (.c (.int .i64 0)), (.c (.int .i64 1000000))]⟩,
⟨(some 10), none, .un .not (.t 9)⟩,
⟨(some 11), none, .mov (.t 10)⟩,
⟨(some 12), (some (11, false)), .faddr 1 (.t 1)⟩,
⟨(some 13), (some (11, false)), .load 1 false (.t 12)⟩,
⟨(some 14), (some (11, false)), .call 15 [(.t 13), (.c (.int .i64 0)), (.c (.int .i64 1000000))]⟩,
⟨(some 15), (some (11, false)), .un .not (.t 14)⟩,
⟨(some 16), none, .pick (.t 11) (.c (.bool true)) (.t 15)⟩] (some [1, 16]))
(.cond (.t 16)
(.seq (.ops [⟨(some 2), none, .mov (.c (.int .i64 0))⟩,
⟨(some 3), none, .mov (.c (.int .i64 2))⟩] none)
.ret)
.skip))
(.seq (.seq (.ops [⟨(some 17), none, .faddr 0 (.t 1)⟩,
⟨(some 18), none, .load 1 false (.t 17)⟩,
⟨(some 19), none, .faddr 1 (.t 1)⟩,
⟨(some 20), none, .load 1 false (.t 19)⟩,
⟨(some 21), none, .ibin .gtr .i64 (.t 18) (.t 20)⟩] (some [1, 21]))
(.cond (.t 21)
(.seq (.ops [⟨(some 2), none, .mov (.c (.int .i64 0))⟩,
⟨(some 3), none, .mov (.c (.int .i64 9))⟩] none)
.ret)
.skip))
(.seq (.seq (.ops [⟨(some 22), none, .faddr 1 (.t 1)⟩,
⟨(some 23), none, .load 1 false (.t 22)⟩,
⟨(some 24), none, .faddr 0 (.t 1)⟩,
⟨(some 25), none, .load 1 false (.t 24)⟩,
⟨(some 26), none, .ibin .sub .i64 (.t 23) (.t 25)⟩,
⟨(some 27), none, .ibin .geq .i64 (.t 26) (.c (.int .i64 40))⟩] (some [1, 27]))
(.cond (.t 27)
(.seq (.ops [⟨(some 2), none, .mov (.c (.int .i64 0))⟩,
⟨(some 3), none, .mov (.c (.int .i64 8))⟩] none)
.ret)
.skip))
(.seq (.seq (.ops [⟨(some 28), none, .faddr 2 (.t 1)⟩,
⟨(some 29), none, .load 1 false (.t 28)⟩,
⟨(some 30), none, .lenV (.t 29)⟩,
⟨(some 31), none, .ibin .eql .i64 (.t 30) (.c (.int .i64 0))⟩] (some [1, 31]))
(.cond (.t 31)
(.seq (.ops [⟨(some 2), none, .mov (.c (.int .i64 0))⟩,
⟨(some 3), none, .mov (.c (.int .i64 10))⟩] none)
.ret)
.skip))
(.seq (.seq (.ops [⟨(some 32), none, .faddr 2 (.t 1)⟩,
⟨(some 33), none, .load 1 false (.t 32)⟩,
⟨(some 34), none, .lenV (.t 33)⟩,
⟨(some 35), none, .ibin .gtr .i64 (.t 34) (.c (.int .i64 5))⟩] (some [1, 35]))
(.cond (.t 35)
(.seq (.ops [⟨(some 2), none, .mov (.c (.int .i64 0))⟩,
⟨(some 3), none, .mov (.c (.int .i64 8))⟩] none)
.ret)
.skip))
(.seq (.ops [⟨(some 4), none, .mov (.c (.slice none 0 0))⟩] none)
(.seq (.seq (.ops [⟨(some 5), none, .mov (.c (.int .i64 0))⟩] none)
(.block 0 (.loop (.seq (.seq (.ops [⟨(some 36), none, .mov (.t 5)⟩,
⟨(some 37), none, .faddr 2 (.t 1)⟩,
⟨(some 38), none, .load 1 false (.t 37)⟩,
⟨(some 39), none, .lenV (.t 38)⟩,
⟨(some 40), none, .ibin .lss .i64 (.t 36) (.t 39)⟩] (some [1, 4, 5, 40]))
(.cond (.t 40)
.skip
(.exit 0)))
(.seq (.block 1 (.seq (.seq (.ops [⟨(some 43), none, .faddr 2 (.t 1)⟩,
⟨(some 44), none, .load 1 false (.t 43)⟩,
⟨(some 45), none, .mov (.t 5)⟩,
⟨(some 46), none, .iaddr 4 (.t 44) (.t 45)⟩,
⟨(some 47), none, .load 4 true (.t 46)⟩,
⟨(some 48), none, .mov (.t 4)⟩,
⟨(some 49), none, .call 354 [(.t 47), (.t 48)]⟩,
⟨(some 6), none, .mov (.t 49)⟩] (some [1, 4, 5, 6]))
(.seq (.ops [⟨(some 50), none, .mov (.t 6)⟩,
⟨(some 51), none, .ibin .neq .i64 (.t 50) (.c (.int .i64 0))⟩] (some [1, 4, 5, 6, 51]))
(.cond (.t 51)
(.seq (.ops [⟨(some 52), none, .mov (.t 5)⟩,
⟨(some 53), none, .mov (.t 6)⟩,
⟨(some 2), none, .mov (.t 52)⟩,
⟨(some 3), none, .mov (.t 53)⟩] (some [2, 3]))
.ret)
.skip)))
(.ops [⟨(some 54), none, .mov (.t 4)⟩,
⟨(some 55), none, .faddr 2 (.t 1)⟩,
⟨(some 56), none, .load 1 false (.t 55)⟩,
⟨(some 57), none, .mov (.t 5)⟩,
⟨(some 58), none, .iaddr 4 (.t 56) (.t 57)⟩,
⟨(some 59), none, .faddr 0 (.t 58)⟩,
⟨(some 60), none, .load 1 false (.t 59)⟩,
⟨(some 61), none, .bslice 1 1 [(.string ⟨#[]⟩)] [(0, 1, (.t 60))]⟩,
⟨(some 62), none, .append 1 16 (.t 54) (.t 61)⟩,
⟨(some 4), none, .mov (.t 62)⟩] (some [1, 4, 5]))))
(.ops [⟨(some 41), none, .mov (.t 5)⟩,
⟨(some 42), none, .ibin .add .i64 (.t 41) (.c (.int .i64 1))⟩,
⟨(some 5), none, .mov (.t 42)⟩] (some [1, 4, 5])))))))
(.seq (.ops [⟨(some 2), none, .mov (.c (.int .i64 0))⟩,
⟨(some 3), none, .mov (.c (.int .i64 0))⟩] none)
.ret)))))))))⟩
/-- guidevane/guidevaneref08.CheckTask -/
def ir326 : IFn := ⟨77, [.t 4, .t 5],
(.seq (.ops [⟨(some 2), none, .box (.t 0)⟩,
⟨(some 3), none, .box (.t 1)⟩,
⟨(some 4), none, .mov (.c (.int .i64 0))⟩,
⟨(some 5), none, .mov (.c (.int .i64 0))⟩] (some [2, 3]))
(.seq (.seq (.ops [⟨(some 9), none, .load 3 true (.t 2)⟩,
⟨(some 10), none, .call 347 [(.t 9)]⟩,
⟨(some 6), none, .mov (.t 10)⟩] (some [2, 3, 6]))
(.seq (.ops [⟨(some 11), none, .mov (.t 6)⟩,
⟨(some 12), none, .ibin .neq .i64 (.t 11) (.c (.int .i64 0))⟩] (some [2, 3, 6, 12]))
(.cond (.t 12)
(.seq (.ops [⟨(some 13), none, .mov (.t 6)⟩,
⟨(some 4), none, .mov (.c (.int .i64 0))⟩,
⟨(some 5), none, .mov (.t 13)⟩] (some [4, 5]))
.ret)
.skip)))
(.seq (.seq (.ops [⟨(some 14), none, .faddr 0 (.t 3)⟩,
⟨(some 15), none, .load 1 false (.t 14)⟩,
⟨(some 16), none, .faddr 0 (.t 2)⟩,
⟨(some 17), none, .load 1 false (.t 16)⟩,
⟨(some 18), none, .faddr 1 (.t 2)⟩,
⟨(some 19), none, .load 1 false (.t 18)⟩,
⟨(some 20), none, .call 15 [(.t 15), (.t 17), (.t 19)]⟩,
⟨(some 21), none, .un .not (.t 20)⟩] (some [2, 3, 21]))
(.cond (.t 21)
(.seq (.ops [⟨(some 4), none, .mov (.c (.int .i64 0))⟩,
⟨(some 5), none, .mov (.c (.int .i64 2))⟩] none)
.ret)
.skip))
(.seq (.seq (.ops [⟨(some 22), none, .faddr 1 (.t 3)⟩,
⟨(some 23), none, .load 1 false (.t 22)⟩,
⟨(some 24), none, .faddr 2 (.t 2)⟩,
⟨(some 25), none, .load 1 false (.t 24)⟩,
⟨(some 26), none, .lenV (.t 25)⟩,
⟨(some 27), none, .ibin .sub .i64 (.t 26) (.c (.int .i64 1))⟩,
⟨(some 28), none, .call 15 [(.t 23), (.c (.int .i64 0)), (.t 27)]⟩,
⟨(some 29), none, .un .not (.t 28)⟩] (some [3, 29]))
(.cond (.t 29)
(.seq (.ops [⟨(some 4), none, .mov (.c (.int .i64 0))⟩,
⟨(some 5), none, .mov (.c (.int .i64 6))⟩] none)
.ret)
.skip))
(.seq (.seq (.ops [⟨(some 30), none, .faddr 2 (.t 3)⟩,
⟨(some 31), none, .load 1 false (.t 30)⟩,
⟨(some 32), none, .call 355 [(.t 31)]⟩,
⟨(some 33), none, .un .not (.t 32)⟩] (some [3, 33]))
(.cond (.t 33)
(.seq (.ops [⟨(some 4), none, .mov (.c (.int .i64 0))⟩,
⟨(some 5), none, .mov (.c (.int .i64 2))⟩] none)
.ret)
.skip))
(.seq (.seq (.ops [⟨(some 34), none, .faddr 3 (.t 3)⟩,
⟨(some 35), none, .load 1 false (.t 34)⟩,
⟨(some 36), none, .lenV (.t 35)⟩,
⟨(some 37), none, .ibin .eql .i64 (.t 36) (.c (.int .i64 0))⟩] (some [3, 37]))
(.cond (.t 37)
(.seq (.ops [⟨(some 4), none, .mov (.c (.int .i64 0))⟩,
⟨(some 5), none, .mov (.c (.int .i64 10))⟩] none)
.ret)
.skip))
(.seq (.seq (.ops [⟨(some 38), none, .faddr 3 (.t 3)⟩,
⟨(some 39), none, .load 1 false (.t 38)⟩,
⟨(some 40), none, .lenV (.t 39)⟩,
⟨(some 41), none, .ibin .gtr .i64 (.t 40) (.c (.int .i64 10))⟩] (some [3, 41]))
(.cond (.t 41)
(.seq (.ops [⟨(some 4), none, .mov (.c (.int .i64 0))⟩,
⟨(some 5), none, .mov (.c (.int .i64 8))⟩] none)
.ret)
.skip))
(.seq (.seq (.ops [⟨(some 7), none, .mov (.c (.int .i64 0))⟩] none)
(.block 0 (.loop (.seq (.seq (.ops [⟨(some 42), none, .mov (.t 7)⟩,
⟨(some 43), none, .faddr 3 (.t 3)⟩,
⟨(some 44), none, .load 1 false (.t 43)⟩,
⟨(some 45), none, .lenV (.t 44)⟩,
⟨(some 46), none, .ibin .lss .i64 (.t 42) (.t 45)⟩] (some [3, 7, 46]))
(.cond (.t 46)
.skip
(.exit 0)))
(.seq (.block 1 (.seq (.ops [⟨(some 49), none, .faddr 3 (.t 3)⟩,
⟨(some 50), none, .load 1 false (.t 49)⟩,
⟨(some 51), none, .mov (.t 7)⟩,
⟨(some 52), none, .iaddr 3 (.t 50) (.t 51)⟩,
⟨(some 53), none, .load 3 true (.t 52)⟩,
⟨(some 8), none, .alloc [(.int .i64 0), (.int .i64 0), (.int .i64 0)]⟩,
⟨none, none, .store 3 (.t 8) (.t 53)⟩] (some [3, 7, 8]))
(.seq (.seq (.ops [⟨(some 54), none, .faddr 0 (.t 8)⟩,
⟨(some 55), none, .load 1 false (.t 54)⟩,
⟨(some 56), none, .call 355 [(.t 55)]⟩,
⟨(some 57), none, .un .not (.t 56)⟩,
⟨(some 58), none, .mov (.t 57)⟩,
⟨(some 59), (some (58, false)), .faddr 1 (.t 8)⟩,
⟨(some 60), (some (58, false)), .load 1 false (.t 59)⟩,
⟨(some 61), (some (58, false)), .call 355 [(.t 60)]⟩,
⟨(some 62), (some (58, false)), .un .not (.t 61)⟩,
⟨(some 63), none, .pick (.t 58) (.c (.bool true)) (.t 62)⟩,
⟨(some 64), none, .mov (.t 63)⟩,
⟨(some 65), (some (64, false)), .faddr 2 (.t 8)⟩,
⟨(some 66), (some (64, false)), .load 1 false (.t 65)⟩,
⟨(some 67), (some (64, false)), .call 355 [(.t 66)]⟩,
⟨(some 68), (some (64, false)), .un .not (.t 67)⟩,
⟨(some 69), none, .pick (.t 64) (.c (.bool true)) (.t 68)⟩] (some [3, 7, 8, 69]))
(.cond (.t 69)
(.seq (.ops [⟨(some 70), none, .mov (.t 7)⟩,
⟨(some 4), none, .mov (.t 70)⟩,
⟨(some 5), none, .mov (.c (.int .i64 2))⟩] (some [4, 5]))
.ret)
.skip))
(.seq (.ops [⟨(some 71), none, .faddr 1 (.t 8)⟩,
⟨(some 72), none, .load 1 false (.t 71)⟩,
⟨(some 73), none, .faddr 0 (.t 8)⟩,
⟨(some 74), none, .load 1 false (.t 73)⟩,
⟨(some 75), none, .ibin .gtr .i64 (.t 72) (.t 74)⟩] (some [3, 7, 75]))
(.cond (.t 75)
(.seq (.ops [⟨(some 76), none, .mov (.t 7)⟩,
⟨(some 4), none, .mov (.t 76)⟩,
⟨(some 5), none, .mov (.c (.int .i64 9))⟩] (some [4, 5]))
.ret)
.skip)))))
(.ops [⟨(some 47), none, .mov (.t 7)⟩,
⟨(some 48), none, .ibin .add .i64 (.t 47) (.c (.int .i64 1))⟩,
⟨(some 7), none, .mov (.t 48)⟩] (some [3, 7])))))))
(.seq (.ops [⟨(some 4), none, .mov (.c (.int .i64 0))⟩,
⟨(some 5), none, .mov (.c (.int .i64 0))⟩] none)
.ret)))))))))⟩
/-- guidevane/dispatch.CheckBound -/
def ir331 : IFn := ⟨114, [.t 6, .t 7],
(.seq (.ops [⟨(some 3), none, .box (.t 0)⟩,
⟨(some 4), none, .box (.t 1)⟩,
⟨(some 6), none, .mov (.c (.int .i64 0))⟩,
⟨(some 7), none, .mov (.c (.int .i64 0))⟩] (some [2, 3, 4]))
(.seq (.ops [⟨(some 18), none, .load 3 true (.t 3)⟩,
⟨(some 19), none, .load 4 true (.t 4)⟩,
⟨(some 20), none, .call 219 [(.t 18), (.t 19)]⟩,
⟨(some 17), none, .mov (.t 20)⟩,
⟨(some 21), none, .extract 0 (.t 17)⟩,
⟨(some 22), none, .extract 1 (.t 17)⟩,
⟨(some 8), none, .alloc [(.int .i64 0), (.int .i64 0), (.slice none 0 0), (.int .i64 0), (.int .i64 0), (.int .i64 0), (.slice none 0 0)]⟩,
⟨none, none, .store 7 (.t 8) (.t 21)⟩,
⟨(some 9), none, .mov (.t 22)⟩] (some [2, 4, 8, 9]))
(.seq (.seq (.ops [⟨(some 23), none, .mov (.t 9)⟩,
⟨(some 24), none, .ibin .neq .i64 (.t 23) (.c (.int .i64 0))⟩] (some [2, 4, 8, 9, 24]))
(.cond (.t 24)
(.seq (.ops [⟨(some 25), none, .mov (.t 9)⟩,
⟨(some 6), none, .mov (.c (.int .i64 0))⟩,
⟨(some 7), none, .mov (.t 25)⟩] (some [6, 7]))
.ret)
.skip))
(.seq (.ops [⟨(some 26), none, .load 7 true (.t 8)⟩,
⟨(some 27), none, .faddr 0 (.t 8)⟩,
⟨(some 28), none, .faddr 1 (.t 27)⟩,
⟨(some 29), none, .load 1 false (.t 28)⟩,
⟨(some 30), none, .faddr 0 (.t 8)⟩,
⟨(some 31), none, .faddr 2 (.t 30)⟩,
⟨(some 32), none, .load 1 false (.t 31)⟩,
⟨(some 33), none, .lenV (.t 32)⟩,
⟨(some 34), none, .ibin .sub .i64 (.t 33) (.c (.int .i64 1))⟩,
⟨(some 35), none, .call 234 [(.t 26), (.t 29), (.t 34)]⟩,
⟨(some 36), none, .ibin .add .i64 (.t 35) (.c (.int .i64 1))⟩,
⟨(some 10), none, .alloc [(.int .i64 0)]⟩,
⟨none, none, .store 1 (.t 10) (.t 36)⟩] (some [2, 4, 8, 10]))
(.seq (.ops [⟨(some 37), none, .mov (.t 2)⟩,
⟨(some 38), none, .mkfunc 358 [] [(.t 10)]⟩,
⟨(some 39), none, .call 357 [(.t 37), (.t 38)]⟩,
⟨(some 11), none, .mov (.t 39)⟩] (some [2, 4, 8, 11]))
(.seq (.ops [⟨(some 40), none, .mov (.t 2)⟩,
⟨(some 41), none, .call 359 [(.t 40)]⟩,
⟨(some 42), none, .call 80 [(.t 41), (.f 360)]⟩,
⟨(some 12), none, .mov (.t 42)⟩] (some [2, 4, 8, 11, 12]))
(.seq (.ops [⟨(some 43), none, .mov (.t 2)⟩,
⟨(some 44), none, .lenV (.t 43)⟩,
⟨(some 45), none, .faddr 3 (.t 4)⟩,
⟨(some 46), none, .load 1 false (.t 45)⟩,
⟨(some 47), none, .lenV (.t 46)⟩,
⟨(some 48), none, .ibin .add .i64 (.t 47) (.c (.int .i64 1))⟩,
⟨(some 49), none, .ibin .eql .i64 (.t 44) (.t 48)⟩,
⟨(some 50), none, .mov (.t 49)⟩,
⟨(some 51), (some (50, true)), .mov (.t 11)⟩,
⟨(some 52), (some (50, true)), .un .not (.t 51)⟩,
⟨(some 53), none, .pick (.t 50) (.t 52) (.c (.bool false))⟩,
⟨(some 54), none, .call 214 [(.t 53), (.c (.int .i64 10))]⟩,
⟨(some 55), none, .mov (.t 12)⟩,
⟨(some 56), none, .un .not (.t 55)⟩,
⟨(some 57), none, .call 214 [(.t 56), (.c (.int .i64 2))]⟩,
⟨(some 58), none, .bslice 2 1 [(.int .i64 0)] [(0, 1, (.t 54)), (1, 1, (.t 57))]⟩,
⟨(some 59), none, .call 213 [(.t 58)]⟩,
⟨(some 9), none, .mov (.t 59)⟩] (some [2, 4, 8, 9]))
(.seq (.seq (.ops [⟨(some 60), none, .mov (.t 9)⟩,
⟨(some 61), none, .ibin .neq .i64 (.t 60) (.c (.int .i64 0))⟩] (some [2, 4, 8, 9, 61]))
(.cond (.t 61)
(.seq (.ops [⟨(some 62), none, .mov (.t 9)⟩,
⟨(some 6), none, .mov (.c (.int .i64 0))⟩,
⟨(some 7), none, .mov (.t 62)⟩] (some [6, 7]))
.ret)
.skip))
(.seq (.seq (.ops [⟨(some 63), none, .mov (.t 2)⟩,
⟨(some 64), none, .lenV (.t 63)⟩,
⟨(some 65), none, .mov (.c (.int .i64 0))⟩] none)
(.block 0 (.loop (.seq (.ops [⟨(some 66), none, .ibin .lss .i64 (.t 65) (.t 64)⟩] none)
(.seq (.cond (.t 66)
.skip
(.exit 0))
(.seq (.block 1 (.seq (.ops [⟨(some 67), none, .mov (.t 65)⟩,
⟨(some 68), none, .iaddr 1 (.t 63) (.t 65)⟩,
⟨(some 69), none, .load 1 false (.t 68)⟩,
⟨(some 13), none, .mov (.t 67)⟩,
⟨(some 14), none, .mov (.t 69)⟩] (some [2, 4, 8, 13, 14, 63, 64, 65]))
(.seq (.ops [⟨(some 70), none, .faddr 0 (.t 8)⟩,
⟨(some 71), none, .faddr 0 (.t 70)⟩,
⟨(some 72), none, .load 1 false (.t 71)⟩,
⟨(some 15), none, .mov (.t 72)⟩] (some [2, 4, 8, 13, 14, 15, 63, 64, 65]))
(.block 2 (.loop (.seq (.seq (.ops [⟨(some 73), none, .mov (.t 15)⟩,
⟨(some 74), none, .faddr 0 (.t 8)⟩,
⟨(some 75), none, .faddr 1 (.t 74)⟩,
⟨(some 76), none, .load 1 false (.t 75)⟩,
⟨(some 77), none, .ibin .leq .i64 (.t 73) (.t 76)⟩] (some [2, 4, 8, 13, 14, 15, 63, 64, 65, 77]))
(.cond (.t 77)
.skip
(.exit 2)))
(.seq (.block 3 (.seq (.ops [⟨(some 80), none, .faddr 0 (.t 8)⟩,
⟨(some 81), none, .faddr 2 (.t 80)⟩,
⟨(some 82), none, .load 1 false (.t 81)⟩,
⟨(some 83), none, .lenV (.t 82)⟩,
⟨(some 84), none, .mov (.c (.int .i64 0))⟩] (some [2, 4, 8, 13, 14, 15, 63, 64, 65, 83, 84]))
(.block 4 (.loop (.seq (.ops [⟨(some 85), none, .ibin .lss .i64 (.t 84) (.t 83)⟩] none)
(.seq (.cond (.t 85)
.skip
(.exit 4))
(.seq (.block 5 (.seq (.ops [⟨(some 86), none, .mov (.t 84)⟩,
⟨(some 16), none, .mov (.t 86)⟩] (some [2, 4, 8, 13, 14, 15, 16, 63, 64, 65, 83, 84]))
(.seq (.draw (.rd 0 ⟨(some 87), none, .load 7 true (.t 8)⟩
(.rd 1 ⟨(some 88), none, .mov (.t 2)⟩
(.rd 2 ⟨(some 89), none, .mov (.t 13)⟩
(.rd 3 ⟨(some 90), none, .mov (.t 15)⟩
(.rd 4 ⟨(some 91), none, .mov (.t 16)⟩
(.rd 5 ⟨(some 92), none, .mov (.t 14)⟩
(.rd 6 ⟨(some 93), none, .load 7 true (.t 8)⟩
(.rd 7 ⟨(some 94), none, .mov (.t 15)⟩
(.rd 8 ⟨(some 95), none, .mov (.t 16)⟩
(.wr 9 ⟨(some 96), none, .call 234 [(.t 93), (.t 94), (.t 95)]⟩ [6, 7, 8]
(.rd 10 ⟨(some 97), none, .iaddr 1 (.t 92) (.t 96)⟩
(.rd 11 ⟨(some 98), none, .load 1 false (.t 97)⟩
(.wr 12 ⟨(some 99), none, .call 361 [(.t 87), (.t 88), (.t 89), (.t 90), (.t 91), (.t 98)]⟩ [0, 1, 2, 3, 4, 11, 9]
(.rd 13 ⟨(some 100), none, .un .not (.t 99)⟩
.fin) .no))) .no)))))))))) (some [2, 4, 8, 13, 14, 15, 63, 64, 65, 83, 84, 100]))
(.cond (.t 100)
(.seq (.ops [⟨(some 6), none, .mov (.c (.int .i64 0))⟩,
⟨(some 7), none, .mov (.c (.int .i64 19))⟩] none)
.ret)
.skip))))
(.ops [⟨(some 101), none, .ibin .add .i64 (.t 84) (.c (.int .i64 1))⟩,
⟨(some 84), none, .mov (.t 101)⟩] (some [2, 4, 8, 13, 14, 15, 63, 64, 65, 83, 84])))))))))
(.ops [⟨(some 78), none, .mov (.t 15)⟩,
⟨(some 79), none, .ibin .add .i64 (.t 78) (.c (.int .i64 1))⟩,
⟨(some 15), none, .mov (.t 79)⟩] (some [2, 4, 8, 13, 14, 15, 63, 64, 65])))))))))
(.ops [⟨(some 102), none, .ibin .add .i64 (.t 65) (.c (.int .i64 1))⟩,
⟨(some 65), none, .mov (.t 102)⟩] (some [2, 4, 8, 63, 64, 65]))))))))
(.seq (.draw (.rd 0 ⟨(some 103), none, .mov (.t 2)⟩
(.rd 1 ⟨(some 104), none, .iaddr 1 (.t 103) (.c (.int .i64 0))⟩
(.rd 2 ⟨(some 105), none, .load 1 false (.t 104)⟩
(.rd 3 ⟨(some 106), none, .load 7 true (.t 8)⟩
(.rd 4 ⟨(some 107), none, .faddr 0 (.t 4)⟩
(.rd 5 ⟨(some 108), none, .load 1 false (.t 107)⟩
(.rd 6 ⟨(some 109), none, .faddr 1 (.t 4)⟩
(.rd 7 ⟨(some 110), none, .load 1 false (.t 109)⟩
(.wr 8 ⟨(some 111), none, .call 234 [(.t 106), (.t 108), (.t 110)]⟩ [3, 5, 7]
(.rd 9 ⟨(some 112), none, .iaddr 1 (.t 105) (.t 111)⟩
(.rd 10 ⟨(some 113), none, .load 1 false (.t 112)⟩
(.rd 11 ⟨(some 6), none, .mov (.t 113)⟩
(.rd 12 ⟨(some 7), none, .mov (.c (.int .i64 0))⟩
.fin)))) .no))))))))) (some [6, 7]))
.ret))))))))))⟩
/-- guidevane/guidevanebase.CopyLists -/
def ir332 : IFn := ⟨20, [.t 2],
(.seq (.ops [⟨(some 2), none, .mov (.c (.slice none 0 0))⟩] (some [0]))
(.seq (.ops [⟨(some 3), none, .mov (.c (.slice none 0 0))⟩] none)
(.seq (.seq (.ops [⟨(some 4), none, .mov (.c (.int .i64 0))⟩] none)
(.block 0 (.loop (.seq (.seq (.ops [⟨(some 5), none, .mov (.t 4)⟩,
⟨(some 6), none, .mov (.t 0)⟩,
⟨(some 7), none, .lenV (.t 6)⟩,
⟨(some 8), none, .ibin .lss .i64 (.t 5) (.t 7)⟩] (some [0, 3, 4, 8]))
(.cond (.t 8)
.skip
(.exit 0)))
(.seq (.block 1 (.ops [⟨(some 11), none, .mov (.t 3)⟩,
⟨(some 12), none, .mov (.t 0)⟩,
⟨(some 13), none, .mov (.t 4)⟩,
⟨(some 14), none, .iaddr 1 (.t 12) (.t 13)⟩,
⟨(some 15), none, .load 1 false (.t 14)⟩,
⟨(some 16), none, .call 38 [(.t 15)]⟩,
⟨(some 17), none, .bslice 1 1 [(.slice none 0 0)] [(0, 1, (.t 16))]⟩,
⟨(some 18), none, .append 1 24 (.t 11) (.t 17)⟩,
⟨(some 3), none, .mov (.t 18)⟩] (some [0, 3, 4])))
(.ops [⟨(some 9), none, .mov (.t 4)⟩,
⟨(some 10), none, .ibin .add .i64 (.t 9) (.c (.int .i64 1))⟩,
⟨(some 4), none, .mov (.t 10)⟩] (some [0, 3, 4])))))))
(.seq (.ops [⟨(some 19), none, .mov (.t 3)⟩,
⟨(some 2), none, .mov (.t 19)⟩] (some [2]))
.ret))))⟩
/-- guidevane/guidevaneref08.CheckBound -/
def ir333 : IFn := ⟨179, [.t 6, .t 7],
(.seq (.ops [⟨(some 3), none, .box (.t 0)⟩,
⟨(some 4), none, .box (.t 1)⟩,
⟨(some 6), none, .mov (.c (.int .i64 0))⟩,
⟨(some 7), none, .mov (.c (.int .i64 0))⟩] (some [2, 3, 4]))
(.seq (.seq (.ops [⟨(some 18), none, .mov (.t 2)⟩,
⟨(some 19), none, .lenV (.t 18)⟩,
⟨(some 20), none, .faddr 3 (.t 4)⟩,
⟨(some 21), none, .load 1 false (.t 20)⟩,
⟨(some 22), none, .lenV (.t 21)⟩,
⟨(some 23), none, .ibin .add .i64 (.t 22) (.c (.int .i64 1))⟩,
⟨(some 24), none, .ibin .neq .i64 (.t 19) (.t 23)⟩] (some [2, 3, 4, 24]))
(.cond (.t 24)
(.seq (.ops [⟨(some 6), none, .mov (.c (.int .i64 0))⟩,
⟨(some 7), none, .mov (.c (.int .i64 10))⟩] none)
.ret)
.skip))
(.seq (.ops [⟨(some 25), none, .faddr 1 (.t 3)⟩,
⟨(some 26), none, .load 1 false (.t 25)⟩,
⟨(some 27), none, .faddr 0 (.t 3)⟩,
⟨(some 28), none, .load 1 false (.t 27)⟩,
⟨(some 29), none, .ibin .sub .i64 (.t 26) (.t 28)⟩,
⟨(some 30), none, .ibin .add .i64 (.t 29) (.c (.int .i64 1))⟩,
⟨(some 31), none, .faddr 2 (.t 3)⟩,
⟨(some 32), none, .load 1 false (.t 31)⟩,
⟨(some 33), none, .lenV (.t 32)⟩,
⟨(some 34), none, .ibin .mul .i64 (.t 30) (.t 33)⟩,
⟨(some 8), none, .mov (.t 34)⟩] (some [2, 3, 4, 8]))
(.seq (.seq (.ops [⟨(some 9), none, .mov (.c (.int .i64 0))⟩] none)
(.block 0 (.loop (.seq (.seq (.ops [⟨(some 35), none, .mov (.t 9)⟩,
⟨(some 36), none, .mov (.t 2)⟩,
⟨(some 37), none, .lenV (.t 36)⟩,
⟨(some 38), none, .ibin .lss .i64 (.t 35) (.t 37)⟩] (some [2, 3, 4, 8, 9, 38]))
(.cond (.t 38)
.skip
(.exit 0)))
(.seq (.block 1 (.seq (.ops [⟨(some 41), none, .mov (.t 2)⟩,
⟨(some 42), none, .mov (.t 9)⟩,
⟨(some 43), none, .iaddr 1 (.t 41) (.t 42)⟩,
⟨(some 44), none, .load 1 false (.t 43)⟩,
⟨(some 45), none, .lenV (.t 44)⟩,
⟨(some 46), none, .mov (.t 8)⟩,
⟨(some 47), none, .ibin .neq .i64 (.t 45) (.t 46)⟩] (some [2, 3, 4, 8, 9, 47]))
(.cond (.t 47)
(.seq (.ops [⟨(some 6), none, .mov (.c (.int .i64 0))⟩,
⟨(some 7), none, .mov (.c (.int .i64 10))⟩] none)
.ret)
.skip)))
(.ops [⟨(some 39), none, .mov (.t 9)⟩,
⟨(some 40), none, .ibin .add .i64 (.t 39) (.c (.int .i64 1))⟩,
⟨(some 9), none, .mov (.t 40)⟩] (some [2, 3, 4, 8, 9])))))))
(.seq (.seq (.ops [⟨(some 10), none, .mov (.c (.int .i64 0))⟩] none)
(.block 2 (.loop (.seq (.seq (.ops [⟨(some 48), none, .mov (.t 10)⟩,
⟨(some 49), none, .mov (.t 2)⟩,
⟨(some 50), none, .lenV (.t 49)⟩,
⟨(some 51), none, .ibin .lss .i64 (.t 48) (.t 50)⟩] (some [2, 3, 4, 8, 10, 51]))
(.cond (.t 51)
.skip
(.exit 2)))
(.seq (.block 3 (.seq (.ops [⟨(some 11), none, .mov (.c (.int .i64 0))⟩] none)
(.block 4 (.loop (.seq (.seq (.ops [⟨(some 54), none, .mov (.t 11)⟩,
⟨(some 55), none, .mov (.t 8)⟩,
⟨(some 56), none, .ibin .lss .i64 (.t 54) (.t 55)⟩] (some [2, 3, 4, 8, 10, 11, 56]))
(.cond (.t 56)
.skip
(.exit 4)))
(.seq (.block 5 (.seq (.ops [⟨(some 59), none, .mov (.t 2)⟩,
⟨(some 60), none, .mov (.t 10)⟩,
⟨(some 61), none, .iaddr 1 (.t 59) (.t 60)⟩,
⟨(some 62), none, .load 1 false (.t 61)⟩,
⟨(some 63), none, .mov (.t 11)⟩,
⟨(some 64), none, .iaddr 1 (.t 62) (.t 63)⟩,
⟨(some 65), none, .load 1 false (.t 64)⟩,
⟨(some 66), none, .call 15 [(.t 65), (.c (.int .i64 (-1000000000000))), (.c (.int .i64 1000000000000))]⟩,
⟨(some 67), none, .un .not (.t 66)⟩] (some [2, 3, 4, 8, 10, 11, 67]))
(.cond (.t 67)
(.seq (.ops [⟨(some 6), none, .mov (.c (.int .i64 0))⟩,
⟨(some 7), none, .mov (.c (.int .i64 2))⟩] none)
.ret)
.skip)))
(.ops [⟨(some 57), none, .mov (.t 11)⟩,
⟨(some 58), none, .ibin .add .i64 (.t 57) (.c (.int .i64 1))⟩,
⟨(some 11), none, .mov (.t 58)⟩] (some [2, 3, 4, 8, 10, 11]))))))))
(.ops [⟨(some 52), none, .mov (.t 10)⟩,
⟨(some 53), none, .ibin .add .i64 (.t 52) (.c (.int .i64 1))⟩,
⟨(some 10), none, .mov (.t 53)⟩] (some [2, 3, 4, 8, 10])))))))
(.seq (.seq (.ops [⟨(some 12), none, .mov (.c (.int .i64 0))⟩] none)
(.block 6 (.loop (.seq (.seq (.ops [⟨(some 68), none, .mov (.t 12)⟩,
⟨(some 69), none, .mov (.t 2)⟩,
⟨(some 70), none, .lenV (.t 69)⟩,
⟨(some 71), none, .ibin .lss .i64 (.t 68) (.t 70)⟩] (some [2, 3, 4, 8, 12, 71]))
(.cond (.t 71)
.skip
(.exit 6)))
(.seq (.block 7 (.seq (.ops [⟨(some 13), none, .mov (.c (.int .i64 0))⟩] none)
(.block 8 (.loop (.seq (.seq (.ops [⟨(some 74), none, .mov (.t 13)⟩,
⟨(some 75), none, .mov (.t 8)⟩,
⟨(some 76), none, .ibin .lss .i64 (.t 74) (.t 75)⟩] (some [2, 3, 4, 8, 12, 13, 76]))
(.cond (.t 76)
.skip
(.exit 8)))
(.seq (.block 9 (.seq (.draw (.rd 0 ⟨(some 79), none, .faddr 0 (.t 3)⟩
(.rd 1 ⟨(some 80), none, .load 1 false (.t 79)⟩
(.rd 2 ⟨(some 81), none, .mov (.t 13)⟩
(.rd 3 ⟨(some 82), none, .faddr 2 (.t 3)⟩
(.rd 4 ⟨(some 83), none, .load 1 false (.t 82)⟩
(.rd 5 ⟨(some 84), none, .lenV (.t 83)⟩
(.rd 6 ⟨(some 85), none, .ibin .quo .i64 (.t 81) (.t 84)⟩
(.rd 7 ⟨(some 86), none, .ibin .add .i64 (.t 80) (.t 85)⟩
(.rd 8 ⟨(some 87), none, .mov (.t 13)⟩
(.rd 9 ⟨(some 88), none, .faddr 2 (.t 3)⟩
(.rd 10 ⟨(some 89), none, .load 1 false (.t 88)⟩
(.rd 11 ⟨(some 90), none, .lenV (.t 89)⟩
(.rd 12 ⟨(some 91), none, .ibin .rem .i64 (.t 87) (.t 90)⟩
(.rd 13 ⟨(some 14), none, .mov (.t 86)⟩
(.rd 14 ⟨(some 15), none, .mov (.t 91)⟩
.fin))))))))))))))) (some [2, 3, 4, 8, 12, 13, 14, 15]))
(.seq (.seq (.ops [⟨(some 92), none, .mov (.t 12)⟩,
⟨(some 93), none, .faddr 3 (.t 4)⟩,
⟨(some 94), none, .load 1 false (.t 93)⟩,
⟨(some 95), none, .lenV (.t 94)⟩,
⟨(some 96), none, .ibin .eql .i64 (.t 92) (.t 95)⟩] (some [2, 3, 4, 8, 12, 13, 14, 15, 96]))
(.cond (.t 96)
(.seq (.seq (.draw (.rd 0 ⟨(some 97), none, .mov (.t 2)⟩
(.rd 1 ⟨(some 98), none, .mov (.t 12)⟩
(.rd 2 ⟨(some 99), none, .iaddr 1 (.t 97) (.t 98)⟩
(.rd 3 ⟨(some 100), none, .load 1 false (.t 99)⟩
(.rd 4 ⟨(some 101), none, .mov (.t 13)⟩
(.rd 5 ⟨(some 102), none, .iaddr 1 (.t 100) (.t 101)⟩
(.rd 6 ⟨(some 103), none, .load 1 false (.t 102)⟩
(.rd 7 ⟨(some 104), none, .faddr 2 (.t 4)⟩
(.rd 8 ⟨(some 105), none, .load 1 false (.t 104)⟩
(.rd 9 ⟨(some 106), none, .mov (.t 14)⟩
(.rd 10 ⟨(some 107), none, .ibin .mul .i64 (.t 105) (.t 106)⟩
(.rd 11 ⟨(some 108), none, .ibin .lss .i64 (.t 103) (.t 107)⟩
.fin)))))))))))) (some [2, 3, 4, 8, 12, 13, 108]))
(.cond (.t 108)
(.seq (.ops [⟨(some 6), none, .mov (.c (.int .i64 0))⟩,
⟨(some 7), none, .mov (.c (.int .i64 19))⟩] none)
.ret)
.skip))
(.exit 9))
.skip))
(.seq (.ops [⟨(some 16), none, .mov (.c (.int .i64 0))⟩] none)
(.block 10 (.loop (.seq (.seq (.ops [⟨(some 109), none, .mov (.t 16)⟩,
⟨(some 110), none, .faddr 2 (.t 3)⟩,
⟨(some 111), none, .load 1 false (.t 110)⟩,
⟨(some 112), none, .lenV (.t 111)⟩,
⟨(some 113), none, .ibin .lss .i64 (.t 109) (.t 112)⟩] (some [2, 3, 4, 8, 12, 13, 14, 15, 16, 113]))
(.cond (.t 113)
.skip
(.exit 10)))
(.seq (.block 11 (.seq (.draw (.rd 0 ⟨(some 116), none, .mov (.t 14)⟩
(.rd 1 ⟨(some 117), none, .faddr 3 (.t 4)⟩
(.rd 2 ⟨(some 118), none, .load 1 false (.t 117)⟩
(.rd 3 ⟨(some 119), none, .mov (.t 12)⟩
(.rd 4 ⟨(some 120), none, .iaddr 3 (.t 118) (.t 119)⟩
(.rd 5 ⟨(some 121), none, .faddr 2 (.t 120)⟩
(.rd 6 ⟨(some 122), none, .load 1 false (.t 121)⟩
(.rd 7 ⟨(some 123), none, .ibin .add .i64 (.t 116) (.t 122)⟩
(.rd 8 ⟨(some 124), none, .faddr 2 (.t 3)⟩
(.rd 9 ⟨(some 125), none, .load 1 false (.t 124)⟩
(.rd 10 ⟨(some 126), none, .mov (.t 16)⟩
(.rd 11 ⟨(some 127), none, .iaddr 4 (.t 125) (.t 126)⟩
(.rd 12 ⟨(some 128), none, .faddr 1 (.t 127)⟩
(.rd 13 ⟨(some 129), none, .load 1 false (.t 128)⟩
(.rd 14 ⟨(some 130), none, .ibin .add .i64 (.t 123) (.t 129)⟩
(.rd 15 ⟨(some 17), none, .mov (.t 130)⟩
.fin)))))))))))))))) (some [2, 3, 4, 8, 12, 13, 14, 15, 16, 17]))
(.seq (.draw (.rd 0 ⟨(some 131), none, .mov (.t 17)⟩
(.rd 1 ⟨(some 132), none, .faddr 0 (.t 3)⟩
(.rd 2 ⟨(some 133), none, .load 1 false (.t 132)⟩
(.rd 3 ⟨(some 134), none, .faddr 1 (.t 3)⟩
(.rd 4 ⟨(some 135), none, .load 1 false (.t 134)⟩
(.wr 5 ⟨(some 136), none, .call 15 [(.t 131), (.t 133), (.t 135)]⟩ [0, 2, 4]
(.rd 6 ⟨(some 137), none, .mov (.t 136)⟩
(.rd 7 ⟨(some 138), (some (137, true)), .mov (.t 2)⟩
(.rd 8 ⟨(some 139), (some (137, true)), .mov (.t 12)⟩
(.rd 9 ⟨(some 140), (some (137, true)), .iaddr 1 (.t 138) (.t 139)⟩
(.rd 10 ⟨(some 141), (some (137, true)), .load 1 false (.t 140)⟩
(.rd 11 ⟨(some 142), (some (137, true)), .mov (.t 13)⟩
(.rd 12 ⟨(some 143), (some (137, true)), .iaddr 1 (.t 141) (.t 142)⟩
(.rd 13 ⟨(some 144), (some (137, true)), .load 1 false (.t 143)⟩
(.rd 14 ⟨(some 145), (some (137, true)), .load 3 true (.t 3)⟩
(.rd 15 ⟨(some 146), (some (137, true)), .faddr 3 (.t 4)⟩
(.rd 16 ⟨(some 147), (some (137, true)), .load 1 false (.t 146)⟩
(.rd 17 ⟨(some 148), (some (137, true)), .mov (.t 12)⟩
(.rd 18 ⟨(some 149), (some (137, true)), .iaddr 3 (.t 147) (.t 148)⟩
(.rd 19 ⟨(some 150), (some (137, true)), .load 3 true (.t 149)⟩
(.rd 20 ⟨(some 151), (some (137, true)), .mov (.t 16)⟩
(.rd 21 ⟨(some 152), (some (137, true)), .mov (.t 15)⟩
(.rd 23 ⟨(some 154), (some (137, true)), .mov (.t 2)⟩
(.rd 24 ⟨(some 155), (some (137, true)), .mov (.t 12)⟩
(.rd 25 ⟨(some 156), (some (137, true)), .ibin .add .i64 (.t 155) (.c (.int .i64 1))⟩
(.rd 26 ⟨(some 157), (some (137, true)), .iaddr 1 (.t 154) (.t 156)⟩
(.rd 27 ⟨(some 158), (some (137, true)), .load 1 false (.t 157)⟩
(.rd 28 ⟨(some 159), (some (137, true)), .load 3 true (.t 3)⟩
(.rd 29 ⟨(some 160), (some (137, true)), .mov (.t 17)⟩
(.rd 30 ⟨(some 161), (some (137, true)), .mov (.t 16)⟩
(.wr 22 ⟨(some 153), (some (137, true)), .call 350 [(.t 145), (.t 150), (.t 151), (.t 152)]⟩ [14, 19, 20, 21, 6, 6]
(.wr 31 ⟨(some 162), (some (137, true)), .call 349 [(.t 159), (.t 160), (.t 161)]⟩ [28, 29, 30, 22, 6]
(.rd 32 ⟨(some 163), (some (137, true)), .iaddr 1 (.t 158) (.t 162)⟩
(.rd 33 ⟨(some 164), (some (137, true)), .load 1 false (.t 163)⟩
(.rd 34 ⟨(some 165), (some (137, true)), .ibin .add .i64 (.t 153) (.t 164)⟩
(.rd 35 ⟨(some 166), (some (137, true)), .ibin .lss .i64 (.t 144) (.t 165)⟩
(.rd 36 ⟨(some 167), none, .pick (.t 137) (.t 166) (.c (.bool false))⟩
.fin))))) .no) .no))))))))))))))))))))))))) .no)))))) (some [2, 3, 4, 8, 12, 13, 14, 15, 16, 167]))
(.cond (.t 167)
(.seq (.ops [⟨(some 6), none, .mov (.c (.int .i64 0))⟩,
⟨(some 7), none, .mov (.c (.int .i64 19))⟩] none)
.ret)
.skip))))
(.ops [⟨(some 114), none, .mov (.t 16)⟩,
⟨(some 115), none, .ibin .add .i64 (.t 114) (.c (.int .i64 1))⟩,
⟨(some 16), none, .mov (.t 115)⟩] (some [2, 3, 4, 8, 12, 13, 14, 15, 16]))))))))))
(.ops [⟨(some 77), none, .mov (.t 13)⟩,
⟨(some 78), none, .ibin .add .i64 (.t 77) (.c (.int .i64 1))⟩,
⟨(some 13), none, .mov (.t 78)⟩] (some [2, 3, 4, 8, 12, 13]))))))))
(.ops [⟨(some 72), none, .mov (.t 12)⟩,
⟨(some 73), none, .ibin .add .i64 (.t 72) (.c (.int .i64 1))⟩,
⟨(some 12), none, .mov (.t 73)⟩] (some [2, 3, 4, 8, 12])))))))
(.seq (.draw (.rd 0 ⟨(some 168), none, .mov (.t 2)⟩
(.rd 1 ⟨(some 169), none, .iaddr 1 (.t 168) (.c (.int .i64 0))⟩
(.rd 2 ⟨(some 170), none, .load 1 false (.t 169)⟩
(.rd 3 ⟨(some 171), none, .load 3 true (.t 3)⟩
(.rd 4 ⟨(some 172), none, .faddr 0 (.t 4)⟩
(.rd 5 ⟨(some 173), none, .load 1 false (.t 172)⟩
(.rd 6 ⟨(some 174), none, .faddr 1 (.t 4)⟩
(.rd 7 ⟨(some 175), none, .load 1 false (.t 174)⟩
(.wr 8 ⟨(some 176), none, .call 349 [(.t 171), (.t 173), (.t 175)]⟩ [3, 5, 7]
(.rd 9 ⟨(some 177), none, .iaddr 1 (.t 170) (.t 176)⟩
(.rd 10 ⟨(some 178), none, .load 1 false (.t 177)⟩
(.rd 11 ⟨(some 6), none, .mov (.t 178)⟩
(.rd 12 ⟨(some 7), none, .mov (.c (.int .i64 0))⟩
.fin)))) .no))))))))) (some [6, 7]))
.ret)))))))⟩
/-- guidevane/guidevaneref08.PlantErr -/
def ir347 : IFn := ⟨11, [.t 2],
(.seq (.ops [⟨(some 1), none, .box (.t 0)⟩,
⟨(some 2), none, .mov (.c (.int .i64 0))⟩] (some [1]))
(.seq (.ops [⟨(some 6), none, .load 3 true (.t 1)⟩,
⟨(some 7), none, .call 325 [(.t 6)]⟩,
⟨(some 5), none, .mov (.t 7)⟩,
⟨(some 8), none, .extract 0 (.t 5)⟩,
⟨(some 9), none, .extract 1 (.t 5)⟩,
⟨(some 3), none, .mov (.t 8)⟩,
⟨(some 4), none, .mov (.t 9)⟩] (some [4]))
(.seq (.ops [⟨(some 10), none, .mov (.t 4)⟩,
⟨(some 2), none, .mov (.t 10)⟩] (some [2]))
.ret)))⟩
/-- guidevane/guidevaneref08.Cell -/
def ir349 : IFn := ⟨17, [.t 6],
(.seq (.ops [⟨(some 3), none, .box (.t 0)⟩,
⟨(some 6), none, .mov (.c (.int .i64 0))⟩] (some [1, 2, 3]))
(.seq (.ops [⟨(some 7), none, .mov (.t 1)⟩,
⟨(some 8), none, .faddr 0 (.t 3)⟩,
⟨(some 9), none, .load 1 false (.t 8)⟩,
⟨(some 10), none, .ibin .sub .i64 (.t 7) (.t 9)⟩,
⟨(some 11), none, .faddr 2 (.t 3)⟩,
⟨(some 12), none, .load 1 false (.t 11)⟩,
⟨(some 13), none, .lenV (.t 12)⟩,
⟨(some 14), none, .ibin .mul .i64 (.t 10) (.t 13)⟩,
⟨(some 15), none, .mov (.t 2)⟩,
⟨(some 16), none, .ibin .add .i64 (.t 14) (.t 15)⟩,
⟨(some 6), none, .mov (.t 16)⟩] (some [6]))
.ret))⟩
/-- guidevane/guidevaneref08.Revenue -/
def ir350 : IFn := ⟨37, [.t 8],
(.seq (.ops [⟨(some 4), none, .box (.t 0)⟩,
⟨(some 5), none, .box (.t 1)⟩,
⟨(some 8), none, .mov (.c (.int .i64 0))⟩] (some [2, 3, 4, 5]))
(.seq (.ops [⟨(some 11), none, .faddr 2 (.t 4)⟩,
⟨(some 12), none, .load 1 false (.t 11)⟩,
⟨(some 13), none, .mov (.t 2)⟩,
⟨(some 14), none, .iaddr 4 (.t 12) (.t 13)⟩,
⟨(some 15), none, .load 4 true (.t 14)⟩,
⟨(some 9), none, .alloc [(.string ⟨#[]⟩), (.int .i64 0), (.int .i64 0), (.int .i64 0)]⟩,
⟨none, none, .store 4 (.t 9) (.t 15)⟩] (some [2, 3, 5, 9]))
(.seq (.ops [⟨(some 16), none, .faddr 2 (.t 9)⟩,
⟨(some 17), none, .load 1 false (.t 16)⟩,
⟨(some 18), none, .faddr 0 (.t 5)⟩,
⟨(some 19), none, .load 1 false (.t 18)⟩,
⟨(some 20), none, .ibin .mul .i64 (.t 17) (.t 19)⟩,
⟨(some 10), none, .mov (.t 20)⟩] (some [2, 3, 5, 9, 10]))
(.seq (.seq (.ops [⟨(some 21), none, .faddr 2 (.t 9)⟩,
⟨(some 22), none, .load 1 false (.t 21)⟩,
⟨(some 23), none, .ibin .gtr .i64 (.t 22) (.c (.int .i64 0))⟩] (some [2, 3, 5, 9, 10, 23]))
(.cond (.t 23)
(.ops [⟨(some 24), none, .faddr 2 (.t 9)⟩,
⟨(some 25), none, .load 1 false (.t 24)⟩,
⟨(some 26), none, .faddr 1 (.t 5)⟩,
⟨(some 27), none, .load 1 false (.t 26)⟩,
⟨(some 28), none, .ibin .mul .i64 (.t 25) (.t 27)⟩,
⟨(some 10), none, .mov (.t 28)⟩] (some [2, 3, 9, 10]))
.skip))
(.seq (.seq (.ops [⟨(some 29), none, .mov (.t 2)⟩,
⟨(some 30), none, .mov (.t 3)⟩,
⟨(some 31), none, .ibin .neq .i64 (.t 29) (.t 30)⟩] (some [9, 10, 31]))
(.cond (.t 31)
(.ops [⟨(some 32), none, .mov (.t 10)⟩,
⟨(some 33), none, .faddr 3 (.t 9)⟩,
⟨(some 34), none, .load 1 false (.t 33)⟩,
⟨(some 35), none, .ibin .sub .i64 (.t 32) (.t 34)⟩,
⟨(some 10), none, .mov (.t 35)⟩] (some [10]))
.skip))
(.seq (.ops [⟨(some 36), none, .mov (.t 10)⟩,
⟨(some 8), none, .mov (.t 36)⟩] (some [8]))
.ret))))))⟩
/-- guidevane/guidevaneref08.modeErr -/
def ir354 : IFn := ⟨29, [.t 4],
(.seq (.ops [⟨(some 2), none, .box (.t 0)⟩,
⟨(some 4), none, .mov (.c (.int .i64 0))⟩] (some [1, 2]))
(.seq (.seq (.ops [⟨(some 5), none, .faddr 0 (.t 2)⟩,
⟨(some 6), none, .load 1 false (.t 5)⟩,
⟨(some 7), none, .call 91 [(.t 6)]⟩,
⟨(some 8), none, .un .not (.t 7)⟩] (some [1, 2, 8]))
(.cond (.t 8)
(.seq (.ops [⟨(some 4), none, .mov (.c (.int .i64 4))⟩] none)
.ret)
.skip))
(.seq (.seq (.ops [⟨(some 9), none, .mov (.t 1)⟩,
⟨(some 10), none, .faddr 0 (.t 2)⟩,
⟨(some 11), none, .load 1 false (.t 10)⟩,
⟨(some 12), none, .call 364 [(.t 9), (.t 11)]⟩] (some [2, 12]))
(.cond (.t 12)
(.seq (.ops [⟨(some 4), none, .mov (.c (.int .i64 5))⟩] none)
.ret)
.skip))
(.seq (.seq (.ops [⟨(some 13), none, .faddr 1 (.t 2)⟩,
⟨(some 14), none, .load 1 false (.t 13)⟩,
⟨(some 15), none, .call 15 [(.t 14), (.c (.int .i64 (-10000))), (.c (.int .i64 10000))]⟩,
⟨(some 16), none, .un .not (.t 15)⟩,
⟨(some 17), none, .mov (.t 16)⟩,
⟨(some 18), (some (17, false)), .faddr 2 (.t 2)⟩,
⟨(some 19), (some (17, false)), .load 1 false (.t 18)⟩,
⟨(some 20), (some (17, false)), .call 15 [(.t 19), (.c (.int .i64 (-10000))), (.c (.int .i64 10000))]⟩,
⟨(some 21), (some (17, false)), .un .not (.t 20)⟩,
⟨(some 22), none, .pick (.t 17) (.c (.bool true)) (.t 21)⟩,
⟨(some 23), none, .mov (.t 22)⟩,
⟨(some 24), (some (23, false)), .faddr 3 (.t 2)⟩,
⟨(some 25), (some (23, false)), .load 1 false (.t 24)⟩,
⟨(some 26), (some (23, false)), .call 15 [(.t 25), (.c (.int .i64 0)), (.c (.int .i64 10000))]⟩,
⟨(some 27), (some (23, false)), .un .not (.t 26)⟩,
⟨(some 28), none, .pick (.t 23) (.c (.bool true)) (.t 27)⟩] (some [28]))
(.cond (.t 28)
(.seq (.ops [⟨(some 4), none, .mov (.c (.int .i64 2))⟩] none)
.ret)
.skip))
(.seq (.ops [⟨(some 4), none, .mov (.c (.int .i64 0))⟩] none)
.ret)))))⟩
/-- guidevane/guidevaneref08.isPrice -/
def ir355 : IFn := ⟨5, [.t 2],
(.seq (.ops [⟨(some 2), none, .mov (.c (.bool false))⟩] (some [0]))
(.seq (.ops [⟨(some 3), none, .mov (.t 0)⟩,
⟨(some 4), none, .call 15 [(.t 3), (.c (.int .i64 (-10000))), (.c (.int .i64 10000))]⟩,
⟨(some 2), none, .mov (.t 4)⟩] (some [2]))
.ret))⟩
/-- slices.ContainsFunc[[][]int,[]int] -/
def ir357 : IFn := ⟨9, [.t 4],
(.seq (.ops [⟨(some 4), none, .mov (.c (.bool false))⟩] (some [0, 1]))
(.seq (.ops [⟨(some 5), none, .mov (.t 0)⟩,
⟨(some 6), none, .mov (.t 1)⟩,
⟨(some 7), none, .call 368 [(.t 5), (.t 6)]⟩,
⟨(some 8), none, .ibin .geq .i64 (.t 7) (.c (.int .i64 0))⟩,
⟨(some 4), none, .mov (.t 8)⟩] (some [4]))
.ret))⟩
/-- guidevane/dispatch.CheckBound$1 -/
def ir358 : IFn := ⟨8, [.t 3],
(.seq (.ops [⟨(some 3), none, .mov (.c (.bool false))⟩] (some [0, 1]))
(.seq (.ops [⟨(some 4), none, .mov (.t 0)⟩,
⟨(some 5), none, .lenV (.t 4)⟩,
⟨(some 6), none, .load 1 false (.t 1)⟩,
⟨(some 7), none, .ibin .neq .i64 (.t 5) (.t 6)⟩,
⟨(some 3), none, .mov (.t 7)⟩] (some [3]))
.ret))⟩
/-- slices.Concat[[]int,int] -/
def ir359 : IFn := ⟨36, [.t 2],
(.seq (.ops [⟨(some 2), none, .mov (.c (.slice none 0 0))⟩] (some [0]))
(.seq (.ops [⟨(some 3), none, .mov (.c (.int .i64 0))⟩] none)
(.seq (.seq (.ops [⟨(some 9), none, .mov (.t 0)⟩,
⟨(some 10), none, .lenV (.t 9)⟩,
⟨(some 11), none, .mov (.c (.int .i64 0))⟩] none)
(.block 0 (.loop (.seq (.ops [⟨(some 12), none, .ibin .lss .i64 (.t 11) (.t 10)⟩] none)
(.seq (.cond (.t 12)
.skip
(.exit 0))
(.seq (.block 1 (.seq (.ops [⟨(some 13), none, .iaddr 1 (.t 9) (.t 11)⟩,
⟨(some 14), none, .load 1 false (.t 13)⟩,
⟨(some 5), none, .mov (.t 14)⟩] (some [0, 3, 5, 9, 10, 11]))
(.seq (.ops [⟨(some 15), none, .mov (.t 3)⟩,
⟨(some 16), none, .mov (.t 5)⟩,
⟨(some 17), none, .lenV (.t 16)⟩,
⟨(some 18), none, .ibin .add .i64 (.t 15) (.t 17)⟩,
⟨(some 3), none, .mov (.t 18)⟩] (some [0, 3, 9, 10, 11]))
(.seq (.ops [⟨(some 19), none, .mov (.t 3)⟩,
⟨(some 20), none, .ibin .lss .i64 (.t 19) (.c (.int .i64 0))⟩] (some [0, 3, 9, 10, 11, 20]))
(.cond (.t 20)
(.ops [⟨(some 21), none, .nope⟩,
⟨none, none, .nope⟩] (some [0, 3, 9, 10, 11]))
.skip)))))
(.ops [⟨(some 22), none, .ibin .add .i64 (.t 11) (.c (.int .i64 1))⟩,
⟨(some 11), none, .mov (.t 22)⟩] (some [0, 3, 9, 10, 11]))))))))
(.seq (.ops [⟨(some 23), none, .mov (.t 3)⟩,
⟨(some 24), none, .call 369 [(.c (.slice none 0 0)), (.t 23)]⟩,
⟨(some 6), none, .mov (.t 24)⟩] (some [0, 6]))
(.seq (.seq (.ops [⟨(some 25), none, .mov (.t 0)⟩,
⟨(some 26), none, .lenV (.t 25)⟩,
⟨(some 27), none, .mov (.c (.int .i64 0))⟩] (some [6, 25, 26, 27]))
(.block 2 (.loop (.seq (.ops [⟨(some 28), none, .ibin .lss .i64 (.t 27) (.t 26)⟩] none)
(.seq (.cond (.t 28)
.skip
(.exit 2))
(.seq (.block 3 (.seq (.ops [⟨(some 29), none, .iaddr 1 (.t 25) (.t 27)⟩,
⟨(some 30), none, .load 1 false (.t 29)⟩,
⟨(some 8), none, .mov (.t 30)⟩] (some [6, 8, 25, 26, 27]))
(.ops [⟨(some 31), none, .mov (.t 6)⟩,
⟨(some 32), none, .mov (.t 8)⟩,
⟨(some 33), none, .append 1 8 (.t 31) (.t 32)⟩,
⟨(some 6), none, .mov (.t 33)⟩] (some [6, 25, 26, 27]))))
(.ops [⟨(some 34), none, .ibin .add .i64 (.t 27) (.c (.int .i64 1))⟩,
⟨(some 27), none, .mov (.t 34)⟩] (some [6, 25, 26, 27]))))))))
(.seq (.ops [⟨(some 35), none, .mov (.t 6)⟩,
⟨(some 2), none, .mov (.t 35)⟩] (some [2]))
.ret))))))⟩
/-- guidevane/dispatch.CheckBound$2 -/
def ir360 : IFn := ⟨6, [.t 2],
(.seq (.ops [⟨(some 2), none, .mov (.c (.bool false))⟩] (some [0]))
(.seq (.ops [⟨(some 3), none, .mov (.t 0)⟩,
⟨(some 4), none, .call 235 [(.t 3), (.c (.int .i64 1000000000000))]⟩,
⟨(some 5), none, .un .not (.t 4)⟩,
⟨(some 2), none, .mov (.t 5)⟩] (some [2]))
.ret))⟩
/-- (guidevane/dispatch.work).valid -/
def ir361 (r : Nat → Code × Code) : IFn := ⟨53, [.cell 12 1 false],
(.seq (.ops [⟨(some 6), none, .box (.t 0)⟩,
⟨(some 7), none, .box (.t 1)⟩,
⟨(some 8), none, .box (.t 2)⟩,
⟨(some 10), none, .box (.t 4)⟩,
⟨(some 11), none, .box (.t 5)⟩,
⟨(some 12), none, .alloc [(.bool false)]⟩] none)
(.seq (.seq (.ops [⟨(some 15), none, .load 1 false (.t 8)⟩,
⟨(some 16), none, .faddr 3 (.t 6)⟩,
⟨(some 17), none, .faddr 3 (.t 16)⟩,
⟨(some 18), none, .load 1 false (.t 17)⟩,
⟨(some 19), none, .lenV (.t 18)⟩,
⟨(some 20), none, .ibin .eql .i64 (.t 15) (.t 19)⟩] none)
(.cond (.t 20)
(.seq (.ops [⟨(some 21), none, .load 1 false (.t 11)⟩,
⟨(some 22), none, .faddr 3 (.t 6)⟩,
⟨(some 23), none, .faddr 2 (.t 22)⟩,
⟨(some 24), none, .load 1 false (.t 23)⟩,
⟨(some 25), none, .mov (.t 3)⟩,
⟨(some 26), none, .ibin .mul .i64 (.t 24) (.t 25)⟩,
⟨(some 27), none, .ibin .geq .i64 (.t 21) (.t 26)⟩,
⟨none, none, .store 1 (.t 12) (.t 27)⟩] (some [12]))
.ret)
.skip))
(.seq (.seq (.ops [⟨(some 28), none, .load 7 true (.t 6)⟩,
⟨(some 29), none, .mov (.t 3)⟩,
⟨(some 30), none, .load 1 false (.t 8)⟩,
⟨(some 31), none, .call 238 [(.t 28), (.t 29), (.t 30)]⟩] none)
(.block 0 (.range 53 (.t 31) #[32, 33] (r 0).1 (r 0).2)))
(.seq (.ops [⟨none, none, .store 1 (.t 12) (.c (.bool true))⟩] none)
.ret))))⟩
def ir361a0 : ICode :=
(.seq (.ops [⟨(some 13), none, .mov (.t 32)⟩] none)
(.ops [⟨(some 14), none, .mov (.t 33)⟩] none))
def ir361b0 : ICode :=
(.block 1 (.seq (.draw (.rd 0 ⟨(some 34), none, .load 1 false (.t 11)⟩
(.rd 1 ⟨(some 35), none, .load 7 true (.t 6)⟩
(.rd 2 ⟨(some 36), none, .load 1 false (.t 8)⟩
(.rd 3 ⟨(some 37), none, .load 1 false (.t 10)⟩
(.rd 4 ⟨(some 38), none, .mov (.t 13)⟩
(.rd 6 ⟨(some 40), none, .load 1 false (.t 7)⟩
(.rd 7 ⟨(some 41), none, .load 1 false (.t 8)⟩
(.rd 8 ⟨(some 42), none, .ibin .add .i64 (.t 41) (.c (.int .i64 1))⟩
(.rd 9 ⟨(some 43), none, .iaddr 1 (.t 40) (.t 42)⟩
(.rd 10 ⟨(some 44), none, .load 1 false (.t 43)⟩
(.rd 11 ⟨(some 45), none, .load 7 true (.t 6)⟩
(.rd 12 ⟨(some 46), none, .mov (.t 14)⟩
(.rd 13 ⟨(some 47), none, .mov (.t 13)⟩
(.wr 5 ⟨(some 39), none, .call 239 [(.t 35), (.t 36), (.t 37), (.t 38)]⟩ [1, 2, 3, 4]
(.wr 14 ⟨(some 48), none, .call 234 [(.t 45), (.t 46), (.t 47)]⟩ [11, 12, 13, 5]
(.rd 15 ⟨(some 49), none, .iaddr 1 (.t 44) (.t 48)⟩
(.rd 16 ⟨(some 50), none, .load 1 false (.t 49)⟩
(.rd 17 ⟨(some 51), none, .ibin .add .i64 (.t 39) (.t 50)⟩
(.rd 18 ⟨(some 52), none, .ibin .lss .i64 (.t 34) (.t 51)⟩
.fin)))) .no) .no)))))))))))))) (some [12, 52]))
(.cond (.t 52)
(.seq (.ops [⟨none, none, .store 1 (.t 12) (.c (.bool false))⟩] (some []))
.ret)
.skip)))
/-- guidevane/guidevanebase.HasText -/
def ir364 : IFn := ⟨18, [.t 4],
(.seq (.ops [⟨(some 4), none, .mov (.c (.bool false))⟩] (some [0, 1]))
(.seq (.seq (.ops [⟨(some 5), none, .mov (.c (.int .i64 0))⟩] none)
(.block 0 (.loop (.seq (.seq (.ops [⟨(some 6), none, .mov (.t 5)⟩,
⟨(some 7), none, .mov (.t 0)⟩,
⟨(some 8), none, .lenV (.t 7)⟩,
⟨(some 9), none, .ibin .lss .i64 (.t 6) (.t 8)⟩] (some [0, 1, 5, 9]))
(.cond (.t 9)
.skip
(.exit 0)))
(.seq (.block 1 (.seq (.ops [⟨(some 12), none, .mov (.t 0)⟩,
⟨(some 13), none, .mov (.t 5)⟩,
⟨(some 14), none, .iaddr 1 (.t 12) (.t 13)⟩,
⟨(some 15), none, .load 1 false (.t 14)⟩,
⟨(some 16), none, .mov (.t 1)⟩,
⟨(some 17), none, .sbin .eql (.t 15) (.t 16)⟩] (some [0, 1, 5, 17]))
(.cond (.t 17)
(.seq (.ops [⟨(some 4), none, .mov (.c (.bool true))⟩] none)
.ret)
.skip)))
(.ops [⟨(some 10), none, .mov (.t 5)⟩,
⟨(some 11), none, .ibin .add .i64 (.t 10) (.c (.int .i64 1))⟩,
⟨(some 5), none, .mov (.t 11)⟩] (some [0, 1, 5])))))))
(.seq (.ops [⟨(some 4), none, .mov (.c (.bool false))⟩] none)
.ret)))⟩
/-- slices.IndexFunc[[][]int,[]int] -/
def ir368 : IFn := ⟨19, [.t 4],
(.seq (.ops [⟨(some 4), none, .mov (.c (.int .i64 0))⟩] (some [0, 1]))
(.seq (.seq (.ops [⟨(some 6), none, .mov (.t 0)⟩,
⟨(some 7), none, .lenV (.t 6)⟩,
⟨(some 8), none, .mov (.c (.int .i64 0))⟩] (some [0, 1, 7, 8]))
(.block 0 (.loop (.seq (.ops [⟨(some 9), none, .ibin .lss .i64 (.t 8) (.t 7)⟩] none)
(.seq (.cond (.t 9)
.skip
(.exit 0))
(.seq (.block 1 (.seq (.ops [⟨(some 10), none, .mov (.t 8)⟩,
⟨(some 5), none, .mov (.t 10)⟩] (some [0, 1, 5, 7, 8]))
(.seq (.ops [⟨(some 11), none, .mov (.t 1)⟩,
⟨(some 12), none, .mov (.t 0)⟩,
⟨(some 13), none, .mov (.t 5)⟩,
⟨(some 14), none, .iaddr 1 (.t 12) (.t 13)⟩,
⟨(some 15), none, .load 1 false (.t 14)⟩,
⟨(some 16), none, .callv (.t 11) [(.t 15)]⟩] (some [0, 1, 5, 7, 8, 16]))
(.cond (.t 16)
(.seq (.ops [⟨(some 17), none, .mov (.t 5)⟩,
⟨(some 4), none, .mov (.t 17)⟩] (some [4]))
.ret)
.skip))))
(.ops [⟨(some 18), none, .ibin .add .i64 (.t 8) (.c (.int .i64 1))⟩,
⟨(some 8), none, .mov (.t 18)⟩] (some [0, 1, 7, 8]))))))))
(.seq (.ops [⟨(some 4), none, .mov (.c (.int .i64 (-1)))⟩] none)
.ret)))⟩

end Go.Proofs.YtmbekcealcjabaaGreat.AM
