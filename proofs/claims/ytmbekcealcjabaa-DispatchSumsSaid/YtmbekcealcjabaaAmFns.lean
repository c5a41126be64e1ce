/- The functions in the small language. Conditions: none. -/
import Derived.Test.YtmbekcealcjabaaAmFn
namespace Go.Proofs.Ytmbekcealcjabaa.AM
set_option linter.unusedSimpArgs false
set_option linter.unusedVariables false
open Go Go.RowKit

/-- gosem.cut.init -/
def ir2 : IFn := ⟨1, [],
(.ops [⟨(some 0), none, .call 1 []⟩] (some []))⟩
/-- guidevane/guidevanebase.Within -/
def ir15 : IFn := ⟨15, [.t 6],
(.seq (.ops [⟨(some 6), none, .mov (.c (.bool false))⟩] (some [0, 1, 2]))
(.seq (.ops [⟨(some 7), none, .mov (.t 1)⟩,
⟨(some 8), none, .mov (.t 0)⟩,
⟨(some 9), none, .ibin .leq .i64 (.t 7) (.t 8)⟩,
⟨(some 10), none, .mov (.t 9)⟩,
⟨(some 11), (some (10, true)), .mov (.t 0)⟩,
⟨(some 12), (some (10, true)), .mov (.t 2)⟩,
⟨(some 13), (some (10, true)), .ibin .leq .i64 (.t 11) (.t 12)⟩,
⟨(some 14), none, .pick (.t 10) (.t 13) (.c (.bool false))⟩,
⟨(some 6), none, .mov (.t 14)⟩] (some [6]))
.ret))⟩
/-- guidevane/guidevanebase.Ints -/
def ir26 : IFn := ⟨26, [.t 4],
(.seq (.ops [⟨(some 4), none, .mov (.c (.bool false))⟩] (some [0, 1]))
(.seq (.seq (.ops [⟨(some 6), none, .mov (.t 0)⟩,
⟨(some 7), none, .lenV (.t 6)⟩,
⟨(some 8), none, .mov (.t 1)⟩,
⟨(some 9), none, .lenV (.t 8)⟩,
⟨(some 10), none, .ibin .neq .i64 (.t 7) (.t 9)⟩] (some [0, 1, 10]))
(.cond (.t 10)
(.seq (.ops [⟨(some 4), none, .mov (.c (.bool false))⟩] none)
.ret)
.skip))
(.seq (.seq (.ops [⟨(some 5), none, .mov (.c (.int .i64 0))⟩] none)
(.block 0 (.loop (.seq (.seq (.ops [⟨(some 11), none, .mov (.t 5)⟩,
⟨(some 12), none, .mov (.t 0)⟩,
⟨(some 13), none, .lenV (.t 12)⟩,
⟨(some 14), none, .ibin .lss .i64 (.t 11) (.t 13)⟩] (some [0, 1, 5, 14]))
(.cond (.t 14)
.skip
(.exit 0)))
(.seq (.block 1 (.seq (.draw (.rd 0 ⟨(some 17), none, .mov (.t 0)⟩
(.rd 1 ⟨(some 18), none, .mov (.t 5)⟩
(.rd 2 ⟨(some 19), none, .iaddr 1 (.t 17) (.t 18)⟩
(.rd 3 ⟨(some 20), none, .load 1 false (.t 19)⟩
(.rd 4 ⟨(some 21), none, .mov (.t 1)⟩
(.rd 5 ⟨(some 22), none, .mov (.t 5)⟩
(.rd 6 ⟨(some 23), none, .iaddr 1 (.t 21) (.t 22)⟩
(.rd 7 ⟨(some 24), none, .load 1 false (.t 23)⟩
(.rd 8 ⟨(some 25), none, .ibin .neq .i64 (.t 20) (.t 24)⟩
.fin))))))))) (some [0, 1, 5, 25]))
(.cond (.t 25)
(.seq (.ops [⟨(some 4), none, .mov (.c (.bool false))⟩] none)
.ret)
.skip)))
(.ops [⟨(some 15), none, .mov (.t 5)⟩,
⟨(some 16), none, .ibin .add .i64 (.t 15) (.c (.int .i64 1))⟩,
⟨(some 5), none, .mov (.t 16)⟩] (some [0, 1, 5])))))))
(.seq (.ops [⟨(some 4), none, .mov (.c (.bool true))⟩] none)
.ret))))⟩
/-- guidevane/guidevanebase.CopyInts -/
def ir38 : IFn := ⟨6, [.t 2],
(.seq (.ops [⟨(some 2), none, .mov (.c (.slice none 0 0))⟩] (some [0]))
(.seq (.ops [⟨(some 3), none, .bslice 0 1 [(.int .i64 0)] []⟩,
⟨(some 4), none, .mov (.t 0)⟩,
⟨(some 5), none, .append 1 8 (.t 3) (.t 4)⟩,
⟨(some 2), none, .mov (.t 5)⟩] (some [2]))
.ret))⟩
/-- slices.IndexFunc[[]int,int] -/
def ir70 : IFn := ⟨19, [.t 4],
(.seq (.ops [⟨(some 4), none, .mov (.c (.int .i64 0))⟩] (some [0, 1]))
(.seq (.seq (.ops [⟨(some 6), none, .mov (.t 0)⟩,
⟨(some 7), none, .lenV (.t 6)⟩,
⟨(some 8), none, .mov (.c (.int .i64 0))⟩] (some [0, 1, 7, 8]))
(.block 0 (.loop (.seq (.ops [⟨(some 9), none, .ibin .lss .i64 (.t 8) (.t 7)⟩] none)
(.seq (.cond (.t 9)
.skip
(.exit 0))
(.seq (.block 1 (.seq (.ops [⟨(some 10), none, .mov (.t 8)⟩,
⟨(some 5), none, .mov (.t 10)⟩] (some [0, 1, 5, 7, 8]))
(.seq (.ops [⟨(some 11), none, .mov (.t 1)⟩,
⟨(some 12), none, .mov (.t 0)⟩,
⟨(some 13), none, .mov (.t 5)⟩,
⟨(some 14), none, .iaddr 1 (.t 12) (.t 13)⟩,
⟨(some 15), none, .load 1 false (.t 14)⟩,
⟨(some 16), none, .callv (.t 11) [(.t 15)]⟩] (some [0, 1, 5, 7, 8, 16]))
(.cond (.t 16)
(.seq (.ops [⟨(some 17), none, .mov (.t 5)⟩,
⟨(some 4), none, .mov (.t 17)⟩] (some [4]))
.ret)
.skip))))
(.ops [⟨(some 18), none, .ibin .add .i64 (.t 8) (.c (.int .i64 1))⟩,
⟨(some 8), none, .mov (.t 18)⟩] (some [0, 1, 7, 8]))))))))
(.seq (.ops [⟨(some 4), none, .mov (.c (.int .i64 (-1)))⟩] none)
.ret)))⟩
/-- slices.Clone[[]int,int] -/
def ir73 : IFn := ⟨8, [.t 2],
(.seq (.ops [⟨(some 2), none, .mov (.c (.slice none 0 0))⟩] (some [0]))
(.seq (.seq (.ops [⟨(some 3), none, .mov (.t 0)⟩,
⟨(some 4), none, .nileq .sl false (.t 3)⟩] (some [0, 4]))
(.cond (.t 4)
(.seq (.ops [⟨(some 2), none, .mov (.c (.slice none 0 0))⟩] none)
.ret)
.skip))
(.seq (.ops [⟨(some 5), none, .bslice 0 1 [(.int .i64 0)] []⟩,
⟨(some 6), none, .mov (.t 0)⟩,
⟨(some 7), none, .append 1 8 (.t 5) (.t 6)⟩,
⟨(some 2), none, .mov (.t 7)⟩] (some [2]))
.ret)))⟩
/-- slices.ContainsFunc[[]int,int] -/
def ir80 : IFn := ⟨9, [.t 4],
(.seq (.ops [⟨(some 4), none, .mov (.c (.bool false))⟩] (some [0, 1]))
(.seq (.ops [⟨(some 5), none, .mov (.t 0)⟩,
⟨(some 6), none, .mov (.t 1)⟩,
⟨(some 7), none, .call 70 [(.t 5), (.t 6)]⟩,
⟨(some 8), none, .ibin .geq .i64 (.t 7) (.c (.int .i64 0))⟩,
⟨(some 4), none, .mov (.t 8)⟩] (some [4]))
.ret))⟩
/-- slices.Sort[[]int,int] -/
def ir103 : IFn := ⟨11, [],
(.seq (.ops [⟨(some 3), none, .mov (.t 0)⟩,
⟨(some 4), none, .lenV (.t 3)⟩,
⟨(some 2), none, .mov (.t 4)⟩] (some [0, 2]))
(.ops [⟨(some 5), none, .mov (.t 0)⟩,
⟨(some 6), none, .mov (.t 2)⟩,
⟨(some 7), none, .mov (.t 2)⟩,
⟨(some 8), none, .conv .u64 (.t 7)⟩,
⟨(some 9), none, .call 119 [(.t 8)]⟩,
⟨(some 10), none, .call 118 [(.t 5), (.c (.int .i64 0)), (.t 6), (.t 9)]⟩] (some [])))⟩
/-- slices.SortStableFunc[[]int,int] -/
def ir106 : IFn := ⟨9, [],
(.ops [⟨(some 4), none, .mov (.t 0)⟩,
⟨(some 5), none, .mov (.t 0)⟩,
⟨(some 6), none, .lenV (.t 5)⟩,
⟨(some 7), none, .mov (.t 1)⟩,
⟨(some 8), none, .call 120 [(.t 4), (.t 6), (.t 7)]⟩] (some []))⟩
/-- guidevane/guidevanebase.Size -/
def ir109 : IFn := ⟨7, [.t 2],
(.seq (.ops [⟨(some 2), none, .mov (.c (.int .i64 0))⟩] (some [0]))
(.seq (.ops [⟨(some 3), none, .mov (.t 0)⟩,
⟨(some 4), none, .mov (.t 0)⟩,
⟨(some 5), none, .un .neg (.t 4)⟩,
⟨(some 6), none, .minmax true (.t 3) [(.t 5)]⟩,
⟨(some 2), none, .mov (.t 6)⟩] (some [2]))
.ret))⟩
/-- slices.pdqsortOrdered[int] -/
def ir118 : IFn := ⟨134, [],
(.seq (.ops [⟨(some 8), none, .mov (.c (.bool true))⟩] none)
(.seq (.ops [⟨(some 9), none, .mov (.c (.bool true))⟩] none)
(.block 0 (.loop (.block 1 (.seq (.ops [⟨(some 19), none, .mov (.t 2)⟩,
⟨(some 20), none, .mov (.t 1)⟩,
⟨(some 21), none, .ibin .sub .i64 (.t 19) (.t 20)⟩,
⟨(some 10), none, .mov (.t 21)⟩] (some [0, 1, 2, 3, 8, 9, 10]))
(.seq (.seq (.ops [⟨(some 22), none, .mov (.t 10)⟩,
⟨(some 23), none, .ibin .leq .i64 (.t 22) (.c (.int .i64 12))⟩] (some [0, 1, 2, 3, 8, 9, 10, 23]))
(.cond (.t 23)
(.seq (.ops [⟨(some 24), none, .mov (.t 0)⟩,
⟨(some 25), none, .mov (.t 1)⟩,
⟨(some 26), none, .mov (.t 2)⟩,
⟨(some 27), none, .call 126 [(.t 24), (.t 25), (.t 26)]⟩] (some []))
.ret)
.skip))
(.seq (.seq (.ops [⟨(some 28), none, .mov (.t 3)⟩,
⟨(some 29), none, .ibin .eql .i64 (.t 28) (.c (.int .i64 0))⟩] (some [0, 1, 2, 3, 8, 9, 10, 29]))
(.cond (.t 29)
(.seq (.ops [⟨(some 30), none, .mov (.t 0)⟩,
⟨(some 31), none, .mov (.t 1)⟩,
⟨(some 32), none, .mov (.t 2)⟩,
⟨(some 33), none, .call 127 [(.t 30), (.t 31), (.t 32)]⟩] (some []))
.ret)
.skip))
(.seq (.seq (.ops [⟨(some 34), none, .mov (.t 8)⟩,
⟨(some 35), none, .un .not (.t 34)⟩] (some [0, 1, 2, 3, 8, 9, 10, 35]))
(.cond (.t 35)
(.seq (.ops [⟨(some 36), none, .mov (.t 0)⟩,
⟨(some 37), none, .mov (.t 1)⟩,
⟨(some 38), none, .mov (.t 2)⟩,
⟨(some 39), none, .call 128 [(.t 36), (.t 37), (.t 38)]⟩] (some [0, 1, 2, 3, 8, 9, 10]))
(.ops [⟨(some 40), none, .mov (.t 3)⟩,
⟨(some 41), none, .ibin .sub .i64 (.t 40) (.c (.int .i64 1))⟩,
⟨(some 3), none, .mov (.t 41)⟩] (some [0, 1, 2, 3, 8, 9, 10])))
.skip))
(.seq (.ops [⟨(some 43), none, .mov (.t 0)⟩,
⟨(some 44), none, .mov (.t 1)⟩,
⟨(some 45), none, .mov (.t 2)⟩,
⟨(some 46), none, .call 129 [(.t 43), (.t 44), (.t 45)]⟩,
⟨(some 42), none, .mov (.t 46)⟩,
⟨(some 47), none, .extract 0 (.t 42)⟩,
⟨(some 48), none, .extract 1 (.t 42)⟩,
⟨(some 11), none, .mov (.t 47)⟩,
⟨(some 12), none, .mov (.t 48)⟩] (some [0, 1, 2, 3, 8, 9, 10, 11, 12]))
(.seq (.seq (.ops [⟨(some 49), none, .mov (.t 12)⟩,
⟨(some 50), none, .ibin .eql .i64 (.t 49) (.c (.int .i64 2))⟩] (some [0, 1, 2, 3, 8, 9, 10, 11, 12, 50]))
(.cond (.t 50)
(.seq (.ops [⟨(some 51), none, .mov (.t 0)⟩,
⟨(some 52), none, .mov (.t 1)⟩,
⟨(some 53), none, .mov (.t 2)⟩,
⟨(some 54), none, .call 130 [(.t 51), (.t 52), (.t 53)]⟩] (some [0, 1, 2, 3, 8, 9, 10, 11]))
(.seq (.ops [⟨(some 55), none, .mov (.t 2)⟩,
⟨(some 56), none, .ibin .sub .i64 (.t 55) (.c (.int .i64 1))⟩,
⟨(some 57), none, .mov (.t 11)⟩,
⟨(some 58), none, .mov (.t 1)⟩,
⟨(some 59), none, .ibin .sub .i64 (.t 57) (.t 58)⟩,
⟨(some 60), none, .ibin .sub .i64 (.t 56) (.t 59)⟩,
⟨(some 11), none, .mov (.t 60)⟩] (some [0, 1, 2, 3, 8, 9, 10, 11]))
(.ops [⟨(some 12), none, .mov (.c (.int .i64 1))⟩] none)))
.skip))
(.seq (.seq (.ops [⟨(some 61), none, .mov (.t 8)⟩,
⟨(some 62), none, .mov (.t 61)⟩,
⟨(some 63), (some (62, true)), .mov (.t 9)⟩,
⟨(some 64), none, .pick (.t 62) (.t 63) (.c (.bool false))⟩,
⟨(some 65), none, .mov (.t 64)⟩,
⟨(some 66), (some (65, true)), .mov (.t 12)⟩,
⟨(some 67), (some (65, true)), .ibin .eql .i64 (.t 66) (.c (.int .i64 1))⟩,
⟨(some 68), none, .pick (.t 65) (.t 67) (.c (.bool false))⟩] (some [0, 1, 2, 3, 8, 9, 10, 11, 68]))
(.cond (.t 68)
(.seq (.ops [⟨(some 69), none, .mov (.t 0)⟩,
⟨(some 70), none, .mov (.t 1)⟩,
⟨(some 71), none, .mov (.t 2)⟩,
⟨(some 72), none, .call 131 [(.t 69), (.t 70), (.t 71)]⟩] (some [0, 1, 2, 3, 8, 9, 10, 11, 72]))
(.cond (.t 72)
.ret
.skip))
.skip))
(.seq (.seq (.draw (.rd 0 ⟨(some 73), none, .mov (.t 1)⟩
(.rd 1 ⟨(some 74), none, .ibin .gtr .i64 (.t 73) (.c (.int .i64 0))⟩
(.rd 2 ⟨(some 75), none, .mov (.t 74)⟩
(.rd 3 ⟨(some 76), (some (75, true)), .mov (.t 0)⟩
(.rd 4 ⟨(some 77), (some (75, true)), .mov (.t 1)⟩
(.rd 5 ⟨(some 78), (some (75, true)), .ibin .sub .i64 (.t 77) (.c (.int .i64 1))⟩
(.rd 6 ⟨(some 79), (some (75, true)), .iaddr 1 (.t 76) (.t 78)⟩
(.rd 7 ⟨(some 80), (some (75, true)), .load 1 false (.t 79)⟩
(.rd 8 ⟨(some 81), (some (75, true)), .mov (.t 0)⟩
(.rd 9 ⟨(some 82), (some (75, true)), .mov (.t 11)⟩
(.rd 10 ⟨(some 83), (some (75, true)), .iaddr 1 (.t 81) (.t 82)⟩
(.rd 11 ⟨(some 84), (some (75, true)), .load 1 false (.t 83)⟩
(.wr 12 ⟨(some 85), (some (75, true)), .call 122 [(.t 80), (.t 84)]⟩ [7, 11, 2, 2]
(.rd 13 ⟨(some 86), (some (75, true)), .un .not (.t 85)⟩
(.rd 14 ⟨(some 87), none, .pick (.t 75) (.t 86) (.c (.bool false))⟩
.fin)) .no))))))))))))) (some [0, 1, 2, 3, 8, 9, 10, 11, 87]))
(.cond (.t 87)
(.seq (.ops [⟨(some 88), none, .mov (.t 0)⟩,
⟨(some 89), none, .mov (.t 1)⟩,
⟨(some 90), none, .mov (.t 2)⟩,
⟨(some 91), none, .mov (.t 11)⟩,
⟨(some 92), none, .call 132 [(.t 88), (.t 89), (.t 90), (.t 91)]⟩,
⟨(some 13), none, .mov (.t 92)⟩] (some [0, 2, 3, 8, 9, 13]))
(.seq (.ops [⟨(some 93), none, .mov (.t 13)⟩,
⟨(some 1), none, .mov (.t 93)⟩] (some [0, 1, 2, 3, 8, 9]))
(.exit 1)))
.skip))
(.seq (.ops [⟨(some 95), none, .mov (.t 0)⟩,
⟨(some 96), none, .mov (.t 1)⟩,
⟨(some 97), none, .mov (.t 2)⟩,
⟨(some 98), none, .mov (.t 11)⟩,
⟨(some 99), none, .call 133 [(.t 95), (.t 96), (.t 97), (.t 98)]⟩,
⟨(some 94), none, .mov (.t 99)⟩,
⟨(some 100), none, .extract 0 (.t 94)⟩,
⟨(some 101), none, .extract 1 (.t 94)⟩,
⟨(some 14), none, .mov (.t 100)⟩,
⟨(some 15), none, .mov (.t 101)⟩] (some [0, 1, 2, 3, 10, 14, 15]))
(.seq (.ops [⟨(some 102), none, .mov (.t 15)⟩,
⟨(some 9), none, .mov (.t 102)⟩] (some [0, 1, 2, 3, 9, 10, 14]))
(.seq (.ops [⟨(some 103), none, .mov (.t 14)⟩,
⟨(some 104), none, .mov (.t 1)⟩,
⟨(some 105), none, .ibin .sub .i64 (.t 103) (.t 104)⟩,
⟨(some 106), none, .mov (.t 2)⟩,
⟨(some 107), none, .mov (.t 14)⟩,
⟨(some 108), none, .ibin .sub .i64 (.t 106) (.t 107)⟩,
⟨(some 16), none, .mov (.t 105)⟩,
⟨(some 17), none, .mov (.t 108)⟩] (some [0, 1, 2, 3, 9, 10, 14, 16, 17]))
(.seq (.ops [⟨(some 109), none, .mov (.t 10)⟩,
⟨(some 110), none, .ibin .quo .i64 (.t 109) (.c (.int .i64 8))⟩,
⟨(some 18), none, .mov (.t 110)⟩] (some [0, 1, 2, 3, 9, 14, 16, 17, 18]))
(.seq (.ops [⟨(some 111), none, .mov (.t 16)⟩,
⟨(some 112), none, .mov (.t 17)⟩,
⟨(some 113), none, .ibin .lss .i64 (.t 111) (.t 112)⟩] (some [0, 1, 2, 3, 9, 14, 16, 17, 18, 113]))
(.cond (.t 113)
(.seq (.ops [⟨(some 114), none, .mov (.t 16)⟩,
⟨(some 115), none, .mov (.t 18)⟩,
⟨(some 116), none, .ibin .geq .i64 (.t 114) (.t 115)⟩,
⟨(some 8), none, .mov (.t 116)⟩] (some [0, 1, 2, 3, 8, 9, 14]))
(.seq (.ops [⟨(some 117), none, .mov (.t 0)⟩,
⟨(some 118), none, .mov (.t 1)⟩,
⟨(some 119), none, .mov (.t 14)⟩,
⟨(some 120), none, .mov (.t 3)⟩,
⟨(some 121), none, .call 118 [(.t 117), (.t 118), (.t 119), (.t 120)]⟩] (some [0, 2, 3, 8, 9, 14]))
(.ops [⟨(some 122), none, .mov (.t 14)⟩,
⟨(some 123), none, .ibin .add .i64 (.t 122) (.c (.int .i64 1))⟩,
⟨(some 1), none, .mov (.t 123)⟩] (some [0, 1, 2, 3, 8, 9]))))
(.seq (.ops [⟨(some 124), none, .mov (.t 17)⟩,
⟨(some 125), none, .mov (.t 18)⟩,
⟨(some 126), none, .ibin .geq .i64 (.t 124) (.t 125)⟩,
⟨(some 8), none, .mov (.t 126)⟩] (some [0, 1, 2, 3, 8, 9, 14]))
(.seq (.ops [⟨(some 127), none, .mov (.t 0)⟩,
⟨(some 128), none, .mov (.t 14)⟩,
⟨(some 129), none, .ibin .add .i64 (.t 128) (.c (.int .i64 1))⟩,
⟨(some 130), none, .mov (.t 2)⟩,
⟨(some 131), none, .mov (.t 3)⟩,
⟨(some 132), none, .call 118 [(.t 127), (.t 129), (.t 130), (.t 131)]⟩] (some [0, 1, 3, 8, 9, 14]))
(.ops [⟨(some 133), none, .mov (.t 14)⟩,
⟨(some 2), none, .mov (.t 133)⟩] (some [0, 1, 2, 3, 8, 9])))))))))))))))))))))))⟩
/-- math/bits.Len -/
def ir119 : IFn := ⟨8, [.t 2],
(.seq (.ops [⟨(some 2), none, .mov (.c (.int .i64 0))⟩] (some [0]))
(.seq (.cond (.c (.bool false))
(.seq (.ops [⟨(some 3), none, .mov (.t 0)⟩,
⟨(some 4), none, .conv .u32 (.t 3)⟩,
⟨(some 5), none, .call 134 [(.t 4)]⟩,
⟨(some 2), none, .mov (.t 5)⟩] (some [2]))
.ret)
.skip)
(.seq (.ops [⟨(some 6), none, .mov (.t 0)⟩,
⟨(some 7), none, .call 135 [(.t 6)]⟩,
⟨(some 2), none, .mov (.t 7)⟩] (some [2]))
.ret)))⟩
/-- slices.stableCmpFunc[int] -/
def ir120 : IFn := ⟨63, [],
(.seq (.ops [⟨(some 6), none, .mov (.c (.int .i64 20))⟩] none)
(.seq (.ops [⟨(some 10), none, .mov (.t 6)⟩,
⟨(some 7), none, .mov (.c (.int .i64 0))⟩,
⟨(some 8), none, .mov (.t 10)⟩] (some [0, 1, 2, 6, 7, 8]))
(.seq (.block 0 (.loop (.seq (.seq (.ops [⟨(some 11), none, .mov (.t 8)⟩,
⟨(some 12), none, .mov (.t 1)⟩,
⟨(some 13), none, .ibin .leq .i64 (.t 11) (.t 12)⟩] (some [0, 1, 2, 6, 7, 8, 13]))
(.cond (.t 13)
.skip
(.exit 0)))
(.block 1 (.seq (.ops [⟨(some 14), none, .mov (.t 0)⟩,
⟨(some 15), none, .mov (.t 7)⟩,
⟨(some 16), none, .mov (.t 8)⟩,
⟨(some 17), none, .mov (.t 2)⟩,
⟨(some 18), none, .call 136 [(.t 14), (.t 15), (.t 16), (.t 17)]⟩] (some [0, 1, 2, 6, 8]))
(.seq (.ops [⟨(some 19), none, .mov (.t 8)⟩,
⟨(some 7), none, .mov (.t 19)⟩] (some [0, 1, 2, 6, 7, 8]))
(.ops [⟨(some 20), none, .mov (.t 8)⟩,
⟨(some 21), none, .mov (.t 6)⟩,
⟨(some 22), none, .ibin .add .i64 (.t 20) (.t 21)⟩,
⟨(some 8), none, .mov (.t 22)⟩] (some [0, 1, 2, 6, 7, 8]))))))))
(.seq (.ops [⟨(some 23), none, .mov (.t 0)⟩,
⟨(some 24), none, .mov (.t 7)⟩,
⟨(some 25), none, .mov (.t 1)⟩,
⟨(some 26), none, .mov (.t 2)⟩,
⟨(some 27), none, .call 136 [(.t 23), (.t 24), (.t 25), (.t 26)]⟩] (some [0, 1, 2, 6]))
(.block 2 (.loop (.seq (.seq (.ops [⟨(some 28), none, .mov (.t 6)⟩,
⟨(some 29), none, .mov (.t 1)⟩,
⟨(some 30), none, .ibin .lss .i64 (.t 28) (.t 29)⟩] (some [0, 1, 2, 6, 30]))
(.cond (.t 30)
.skip
(.exit 2)))
(.block 3 (.seq (.ops [⟨(some 31), none, .mov (.t 6)⟩,
⟨(some 32), none, .ibin .mul .i64 (.c (.int .i64 2)) (.t 31)⟩,
⟨(some 7), none, .mov (.c (.int .i64 0))⟩,
⟨(some 8), none, .mov (.t 32)⟩] (some [0, 1, 2, 6, 7, 8]))
(.seq (.block 4 (.loop (.seq (.seq (.ops [⟨(some 33), none, .mov (.t 8)⟩,
⟨(some 34), none, .mov (.t 1)⟩,
⟨(some 35), none, .ibin .leq .i64 (.t 33) (.t 34)⟩] (some [0, 1, 2, 6, 7, 8, 35]))
(.cond (.t 35)
.skip
(.exit 4)))
(.block 5 (.seq (.ops [⟨(some 36), none, .mov (.t 0)⟩,
⟨(some 37), none, .mov (.t 7)⟩,
⟨(some 38), none, .mov (.t 7)⟩,
⟨(some 39), none, .mov (.t 6)⟩,
⟨(some 40), none, .ibin .add .i64 (.t 38) (.t 39)⟩,
⟨(some 41), none, .mov (.t 8)⟩,
⟨(some 42), none, .mov (.t 2)⟩,
⟨(some 43), none, .call 137 [(.t 36), (.t 37), (.t 40), (.t 41), (.t 42)]⟩] (some [0, 1, 2, 6, 8]))
(.seq (.ops [⟨(some 44), none, .mov (.t 8)⟩,
⟨(some 7), none, .mov (.t 44)⟩] (some [0, 1, 2, 6, 7, 8]))
(.ops [⟨(some 45), none, .mov (.t 8)⟩,
⟨(some 46), none, .mov (.t 6)⟩,
⟨(some 47), none, .ibin .mul .i64 (.c (.int .i64 2)) (.t 46)⟩,
⟨(some 48), none, .ibin .add .i64 (.t 45) (.t 47)⟩,
⟨(some 8), none, .mov (.t 48)⟩] (some [0, 1, 2, 6, 7, 8]))))))))
(.seq (.seq (.ops [⟨(some 49), none, .mov (.t 7)⟩,
⟨(some 50), none, .mov (.t 6)⟩,
⟨(some 51), none, .ibin .add .i64 (.t 49) (.t 50)⟩,
⟨(some 9), none, .mov (.t 51)⟩] (some [0, 1, 2, 6, 7, 9]))
(.seq (.ops [⟨(some 52), none, .mov (.t 9)⟩,
⟨(some 53), none, .mov (.t 1)⟩,
⟨(some 54), none, .ibin .lss .i64 (.t 52) (.t 53)⟩] (some [0, 1, 2, 6, 7, 9, 54]))
(.cond (.t 54)
(.ops [⟨(some 55), none, .mov (.t 0)⟩,
⟨(some 56), none, .mov (.t 7)⟩,
⟨(some 57), none, .mov (.t 9)⟩,
⟨(some 58), none, .mov (.t 1)⟩,
⟨(some 59), none, .mov (.t 2)⟩,
⟨(some 60), none, .call 137 [(.t 55), (.t 56), (.t 57), (.t 58), (.t 59)]⟩] (some [0, 1, 2, 6]))
.skip)))
(.ops [⟨(some 61), none, .mov (.t 6)⟩,
⟨(some 62), none, .ibin .mul .i64 (.t 61) (.c (.int .i64 2))⟩,
⟨(some 6), none, .mov (.t 62)⟩] (some [0, 1, 2, 6])))))))))))))⟩
/-- cmp.isNaN[int] -/
def ir121 : IFn := ⟨6, [.t 2],
(.seq (.ops [⟨(some 2), none, .mov (.c (.bool false))⟩] (some [0]))
(.seq (.ops [⟨(some 3), none, .mov (.t 0)⟩,
⟨(some 4), none, .mov (.t 0)⟩,
⟨(some 5), none, .ibin .neq .i64 (.t 3) (.t 4)⟩,
⟨(some 2), none, .mov (.t 5)⟩] (some [2]))
.ret))⟩
/-- cmp.Less[int] -/
def ir122 : IFn := ⟨17, [.t 4],
(.seq (.ops [⟨(some 4), none, .mov (.c (.bool false))⟩] (some [0, 1]))
(.seq (.ops [⟨(some 5), none, .mov (.t 0)⟩,
⟨(some 6), none, .call 121 [(.t 5)]⟩,
⟨(some 7), none, .mov (.t 6)⟩,
⟨(some 8), (some (7, true)), .mov (.t 1)⟩,
⟨(some 9), (some (7, true)), .call 121 [(.t 8)]⟩,
⟨(some 10), (some (7, true)), .un .not (.t 9)⟩,
⟨(some 11), none, .pick (.t 7) (.t 10) (.c (.bool false))⟩,
⟨(some 12), none, .mov (.t 11)⟩,
⟨(some 13), (some (12, false)), .mov (.t 0)⟩,
⟨(some 14), (some (12, false)), .mov (.t 1)⟩,
⟨(some 15), (some (12, false)), .ibin .lss .i64 (.t 13) (.t 14)⟩,
⟨(some 16), none, .pick (.t 12) (.c (.bool true)) (.t 15)⟩,
⟨(some 4), none, .mov (.t 16)⟩] (some [4]))
.ret))⟩
/-- slices.insertionSortOrdered[int] -/
def ir126 : IFn := ⟨49, [],
(.seq (.ops [⟨(some 8), none, .mov (.t 1)⟩,
⟨(some 9), none, .ibin .add .i64 (.t 8) (.c (.int .i64 1))⟩,
⟨(some 6), none, .mov (.t 9)⟩] (some [0, 1, 2, 6]))
(.block 0 (.loop (.seq (.seq (.ops [⟨(some 10), none, .mov (.t 6)⟩,
⟨(some 11), none, .mov (.t 2)⟩,
⟨(some 12), none, .ibin .lss .i64 (.t 10) (.t 11)⟩] (some [0, 1, 2, 6, 12]))
(.cond (.t 12)
.skip
(.exit 0)))
(.seq (.block 1 (.seq (.ops [⟨(some 15), none, .mov (.t 6)⟩,
⟨(some 7), none, .mov (.t 15)⟩] (some [0, 1, 2, 6, 7]))
(.block 2 (.loop (.seq (.seq (.draw (.rd 0 ⟨(some 16), none, .mov (.t 7)⟩
(.rd 1 ⟨(some 17), none, .mov (.t 1)⟩
(.rd 2 ⟨(some 18), none, .ibin .gtr .i64 (.t 16) (.t 17)⟩
(.rd 3 ⟨(some 19), none, .mov (.t 18)⟩
(.rd 4 ⟨(some 20), (some (19, true)), .mov (.t 0)⟩
(.rd 5 ⟨(some 21), (some (19, true)), .mov (.t 7)⟩
(.rd 6 ⟨(some 22), (some (19, true)), .iaddr 1 (.t 20) (.t 21)⟩
(.rd 7 ⟨(some 23), (some (19, true)), .load 1 false (.t 22)⟩
(.rd 8 ⟨(some 24), (some (19, true)), .mov (.t 0)⟩
(.rd 9 ⟨(some 25), (some (19, true)), .mov (.t 7)⟩
(.rd 10 ⟨(some 26), (some (19, true)), .ibin .sub .i64 (.t 25) (.c (.int .i64 1))⟩
(.rd 11 ⟨(some 27), (some (19, true)), .iaddr 1 (.t 24) (.t 26)⟩
(.rd 12 ⟨(some 28), (some (19, true)), .load 1 false (.t 27)⟩
(.wr 13 ⟨(some 29), (some (19, true)), .call 122 [(.t 23), (.t 28)]⟩ [7, 12, 3, 3]
(.rd 14 ⟨(some 30), none, .pick (.t 19) (.t 29) (.c (.bool false))⟩
.fin) .no)))))))))))))) (some [0, 1, 2, 6, 7, 30]))
(.cond (.t 30)
.skip
(.exit 2)))
(.seq (.block 3 (.draw (.rd 0 ⟨(some 33), none, .mov (.t 0)⟩
(.rd 1 ⟨(some 34), none, .mov (.t 7)⟩
(.rd 2 ⟨(some 35), none, .mov (.t 0)⟩
(.rd 3 ⟨(some 36), none, .mov (.t 7)⟩
(.rd 4 ⟨(some 37), none, .ibin .sub .i64 (.t 36) (.c (.int .i64 1))⟩
(.rd 5 ⟨(some 38), none, .mov (.t 0)⟩
(.rd 6 ⟨(some 39), none, .mov (.t 7)⟩
(.rd 7 ⟨(some 40), none, .ibin .sub .i64 (.t 39) (.c (.int .i64 1))⟩
(.rd 8 ⟨(some 41), none, .iaddr 1 (.t 38) (.t 40)⟩
(.rd 9 ⟨(some 42), none, .load 1 false (.t 41)⟩
(.rd 10 ⟨(some 43), none, .mov (.t 0)⟩
(.rd 11 ⟨(some 44), none, .mov (.t 7)⟩
(.rd 12 ⟨(some 45), none, .iaddr 1 (.t 43) (.t 44)⟩
(.rd 13 ⟨(some 46), none, .load 1 false (.t 45)⟩
(.rd 14 ⟨(some 47), none, .iaddr 1 (.t 33) (.t 34)⟩
(.wr 15 ⟨none, none, .store 1 (.t 47) (.t 42)⟩ [14, 9, 0, 1, 5, 6, 7, 8, 9, 13]
(.rd 16 ⟨(some 48), none, .iaddr 1 (.t 35) (.t 37)⟩
(.wr 17 ⟨none, none, .store 1 (.t 48) (.t 46)⟩ [16, 13, 15, 0, 1, 2, 3, 4, 5, 6, 7, 8, 9, 10, 11, 12, 13, 14, 15]
.fin .no)) .no)))))))))))))))) (some [0, 1, 2, 6, 7])))
(.ops [⟨(some 31), none, .mov (.t 7)⟩,
⟨(some 32), none, .ibin .sub .i64 (.t 31) (.c (.int .i64 1))⟩,
⟨(some 7), none, .mov (.t 32)⟩] (some [0, 1, 2, 6, 7]))))))))
(.ops [⟨(some 13), none, .mov (.t 6)⟩,
⟨(some 14), none, .ibin .add .i64 (.t 13) (.c (.int .i64 1))⟩,
⟨(some 6), none, .mov (.t 14)⟩] (some [0, 1, 2, 6])))))))⟩
/-- slices.heapSortOrdered[int] -/
def ir127 : IFn := ⟨56, [],
(.seq (.ops [⟨(some 11), none, .mov (.t 1)⟩,
⟨(some 6), none, .mov (.t 11)⟩] (some [0, 1, 2, 6]))
(.seq (.ops [⟨(some 7), none, .mov (.c (.int .i64 0))⟩] none)
(.seq (.ops [⟨(some 12), none, .mov (.t 2)⟩,
⟨(some 13), none, .mov (.t 1)⟩,
⟨(some 14), none, .ibin .sub .i64 (.t 12) (.t 13)⟩,
⟨(some 8), none, .mov (.t 14)⟩] (some [0, 6, 7, 8]))
(.seq (.seq (.ops [⟨(some 15), none, .mov (.t 8)⟩,
⟨(some 16), none, .ibin .sub .i64 (.t 15) (.c (.int .i64 1))⟩,
⟨(some 17), none, .ibin .quo .i64 (.t 16) (.c (.int .i64 2))⟩,
⟨(some 9), none, .mov (.t 17)⟩] (some [0, 6, 7, 8, 9]))
(.block 0 (.loop (.seq (.seq (.ops [⟨(some 18), none, .mov (.t 9)⟩,
⟨(some 19), none, .ibin .geq .i64 (.t 18) (.c (.int .i64 0))⟩] (some [0, 6, 7, 8, 9, 19]))
(.cond (.t 19)
.skip
(.exit 0)))
(.seq (.block 1 (.ops [⟨(some 22), none, .mov (.t 0)⟩,
⟨(some 23), none, .mov (.t 9)⟩,
⟨(some 24), none, .mov (.t 8)⟩,
⟨(some 25), none, .mov (.t 6)⟩,
⟨(some 26), none, .call 139 [(.t 22), (.t 23), (.t 24), (.t 25)]⟩] (some [0, 6, 7, 8, 9])))
(.ops [⟨(some 20), none, .mov (.t 9)⟩,
⟨(some 21), none, .ibin .sub .i64 (.t 20) (.c (.int .i64 1))⟩,
⟨(some 9), none, .mov (.t 21)⟩] (some [0, 6, 7, 8, 9])))))))
(.seq (.ops [⟨(some 27), none, .mov (.t 8)⟩,
⟨(some 28), none, .ibin .sub .i64 (.t 27) (.c (.int .i64 1))⟩,
⟨(some 10), none, .mov (.t 28)⟩] (some [0, 6, 7, 10]))
(.block 2 (.loop (.seq (.seq (.ops [⟨(some 29), none, .mov (.t 10)⟩,
⟨(some 30), none, .ibin .geq .i64 (.t 29) (.c (.int .i64 0))⟩] (some [0, 6, 7, 10, 30]))
(.cond (.t 30)
.skip
(.exit 2)))
(.seq (.block 3 (.seq (.draw (.rd 0 ⟨(some 33), none, .mov (.t 0)⟩
(.rd 1 ⟨(some 34), none, .mov (.t 6)⟩
(.rd 2 ⟨(some 35), none, .mov (.t 0)⟩
(.rd 3 ⟨(some 36), none, .mov (.t 6)⟩
(.rd 4 ⟨(some 37), none, .mov (.t 10)⟩
(.rd 5 ⟨(some 38), none, .ibin .add .i64 (.t 36) (.t 37)⟩
(.rd 6 ⟨(some 39), none, .mov (.t 0)⟩
(.rd 7 ⟨(some 40), none, .mov (.t 6)⟩
(.rd 8 ⟨(some 41), none, .mov (.t 10)⟩
(.rd 9 ⟨(some 42), none, .ibin .add .i64 (.t 40) (.t 41)⟩
(.rd 10 ⟨(some 43), none, .iaddr 1 (.t 39) (.t 42)⟩
(.rd 11 ⟨(some 44), none, .load 1 false (.t 43)⟩
(.rd 12 ⟨(some 45), none, .mov (.t 0)⟩
(.rd 13 ⟨(some 46), none, .mov (.t 6)⟩
(.rd 14 ⟨(some 47), none, .iaddr 1 (.t 45) (.t 46)⟩
(.rd 15 ⟨(some 48), none, .load 1 false (.t 47)⟩
(.rd 16 ⟨(some 49), none, .iaddr 1 (.t 33) (.t 34)⟩
(.wr 17 ⟨none, none, .store 1 (.t 49) (.t 44)⟩ [16, 11, 0, 1, 6, 7, 8, 9, 10, 11, 15]
(.rd 18 ⟨(some 50), none, .iaddr 1 (.t 35) (.t 38)⟩
(.wr 19 ⟨none, none, .store 1 (.t 50) (.t 48)⟩ [18, 15, 17, 0, 1, 2, 3, 4, 5, 6, 7, 8, 9, 10, 11, 12, 13, 14, 15, 16, 17]
.fin .no)) .no)))))))))))))))))) (some [0, 6, 7, 10]))
(.ops [⟨(some 51), none, .mov (.t 0)⟩,
⟨(some 52), none, .mov (.t 7)⟩,
⟨(some 53), none, .mov (.t 10)⟩,
⟨(some 54), none, .mov (.t 6)⟩,
⟨(some 55), none, .call 139 [(.t 51), (.t 52), (.t 53), (.t 54)]⟩] (some [0, 6, 7, 10]))))
(.ops [⟨(some 31), none, .mov (.t 10)⟩,
⟨(some 32), none, .ibin .sub .i64 (.t 31) (.c (.int .i64 1))⟩,
⟨(some 10), none, .mov (.t 32)⟩] (some [0, 6, 7, 10])))))))))))⟩
/-- slices.breakPatternsOrdered[int] -/
def ir128 : IFn := ⟨65, [],
(.seq (.ops [⟨(some 11), none, .mov (.t 2)⟩,
⟨(some 12), none, .mov (.t 1)⟩,
⟨(some 13), none, .ibin .sub .i64 (.t 11) (.t 12)⟩,
⟨(some 6), none, .mov (.t 13)⟩] (some [0, 1, 6]))
(.seq (.ops [⟨(some 14), none, .mov (.t 6)⟩,
⟨(some 15), none, .ibin .geq .i64 (.t 14) (.c (.int .i64 8))⟩] (some [0, 1, 6, 15]))
(.cond (.t 15)
(.seq (.ops [⟨(some 16), none, .mov (.t 6)⟩,
⟨(some 17), none, .conv .u64 (.t 16)⟩,
⟨(some 7), none, .alloc [(.int .u64 0)]⟩,
⟨none, none, .store 1 (.t 7) (.t 17)⟩] (some [0, 1, 6, 7]))
(.seq (.ops [⟨(some 18), none, .mov (.t 6)⟩,
⟨(some 19), none, .call 140 [(.t 18)]⟩,
⟨(some 8), none, .mov (.t 19)⟩] (some [0, 1, 6, 7, 8]))
(.seq (.ops [⟨(some 20), none, .mov (.t 1)⟩,
⟨(some 21), none, .mov (.t 6)⟩,
⟨(some 22), none, .ibin .quo .i64 (.t 21) (.c (.int .i64 4))⟩,
⟨(some 23), none, .ibin .mul .i64 (.t 22) (.c (.int .i64 2))⟩,
⟨(some 24), none, .ibin .add .i64 (.t 20) (.t 23)⟩,
⟨(some 25), none, .ibin .sub .i64 (.t 24) (.c (.int .i64 1))⟩,
⟨(some 9), none, .mov (.t 25)⟩] (some [0, 1, 6, 7, 8, 9]))
(.block 0 (.loop (.seq (.seq (.ops [⟨(some 26), none, .mov (.t 9)⟩,
⟨(some 27), none, .mov (.t 1)⟩,
⟨(some 28), none, .mov (.t 6)⟩,
⟨(some 29), none, .ibin .quo .i64 (.t 28) (.c (.int .i64 4))⟩,
⟨(some 30), none, .ibin .mul .i64 (.t 29) (.c (.int .i64 2))⟩,
⟨(some 31), none, .ibin .add .i64 (.t 27) (.t 30)⟩,
⟨(some 32), none, .ibin .add .i64 (.t 31) (.c (.int .i64 1))⟩,
⟨(some 33), none, .ibin .leq .i64 (.t 26) (.t 32)⟩] (some [0, 1, 6, 7, 8, 9, 33]))
(.cond (.t 33)
.skip
(.exit 0)))
(.seq (.block 1 (.seq (.ops [⟨(some 36), none, .call 141 [(.t 7)]⟩,
⟨(some 37), none, .mov (.t 8)⟩,
⟨(some 38), none, .ibin .sub .u64 (.t 37) (.c (.int .u64 1))⟩,
⟨(some 39), none, .ibin .and .u64 (.t 36) (.t 38)⟩,
⟨(some 40), none, .conv .i64 (.t 39)⟩,
⟨(some 10), none, .mov (.t 40)⟩] (some [0, 1, 6, 7, 8, 9, 10]))
(.seq (.seq (.ops [⟨(some 41), none, .mov (.t 10)⟩,
⟨(some 42), none, .mov (.t 6)⟩,
⟨(some 43), none, .ibin .geq .i64 (.t 41) (.t 42)⟩] (some [0, 1, 6, 7, 8, 9, 10, 43]))
(.cond (.t 43)
(.ops [⟨(some 44), none, .mov (.t 10)⟩,
⟨(some 45), none, .mov (.t 6)⟩,
⟨(some 46), none, .ibin .sub .i64 (.t 44) (.t 45)⟩,
⟨(some 10), none, .mov (.t 46)⟩] (some [0, 1, 6, 7, 8, 9, 10]))
.skip))
(.draw (.rd 0 ⟨(some 47), none, .mov (.t 0)⟩
(.rd 1 ⟨(some 48), none, .mov (.t 9)⟩
(.rd 2 ⟨(some 49), none, .mov (.t 0)⟩
(.rd 3 ⟨(some 50), none, .mov (.t 1)⟩
(.rd 4 ⟨(some 51), none, .mov (.t 10)⟩
(.rd 5 ⟨(some 52), none, .ibin .add .i64 (.t 50) (.t 51)⟩
(.rd 6 ⟨(some 53), none, .mov (.t 0)⟩
(.rd 7 ⟨(some 54), none, .mov (.t 1)⟩
(.rd 8 ⟨(some 55), none, .mov (.t 10)⟩
(.rd 9 ⟨(some 56), none, .ibin .add .i64 (.t 54) (.t 55)⟩
(.rd 10 ⟨(some 57), none, .iaddr 1 (.t 53) (.t 56)⟩
(.rd 11 ⟨(some 58), none, .load 1 false (.t 57)⟩
(.rd 12 ⟨(some 59), none, .mov (.t 0)⟩
(.rd 13 ⟨(some 60), none, .mov (.t 9)⟩
(.rd 14 ⟨(some 61), none, .iaddr 1 (.t 59) (.t 60)⟩
(.rd 15 ⟨(some 62), none, .load 1 false (.t 61)⟩
(.rd 16 ⟨(some 63), none, .iaddr 1 (.t 47) (.t 48)⟩
(.wr 17 ⟨none, none, .store 1 (.t 63) (.t 58)⟩ [16, 11, 0, 1, 6, 7, 8, 9, 10, 11, 15]
(.rd 18 ⟨(some 64), none, .iaddr 1 (.t 49) (.t 52)⟩
(.wr 19 ⟨none, none, .store 1 (.t 64) (.t 62)⟩ [18, 15, 17, 0, 1, 2, 3, 4, 5, 6, 7, 8, 9, 10, 11, 12, 13, 14, 15, 16, 17]
.fin .no)) .no)))))))))))))))))) (some [0, 1, 6, 7, 8, 9])))))
(.ops [⟨(some 34), none, .mov (.t 9)⟩,
⟨(some 35), none, .ibin .add .i64 (.t 34) (.c (.int .i64 1))⟩,
⟨(some 9), none, .mov (.t 35)⟩] (some [0, 1, 6, 7, 8, 9])))))))))
.skip)))⟩
/-- slices.choosePivotOrdered[int] -/
def ir129 : IFn := ⟨57, [.t 6, .t 7],
(.seq (.ops [⟨(some 6), none, .mov (.c (.int .i64 0))⟩,
⟨(some 7), none, .mov (.c (.int .i64 0))⟩] (some [0, 1, 2]))
(.seq (.ops [⟨(some 13), none, .mov (.t 2)⟩,
⟨(some 14), none, .mov (.t 1)⟩,
⟨(some 15), none, .ibin .sub .i64 (.t 13) (.t 14)⟩,
⟨(some 8), none, .mov (.t 15)⟩] (some [0, 1, 8]))
(.seq (.ops [⟨(some 9), none, .alloc [(.int .i64 0)]⟩] none)
(.seq (.ops [⟨(some 16), none, .mov (.t 1)⟩,
⟨(some 17), none, .mov (.t 8)⟩,
⟨(some 18), none, .ibin .quo .i64 (.t 17) (.c (.int .i64 4))⟩,
⟨(some 19), none, .ibin .mul .i64 (.t 18) (.c (.int .i64 1))⟩,
⟨(some 20), none, .ibin .add .i64 (.t 16) (.t 19)⟩,
⟨(some 10), none, .mov (.t 20)⟩] (some [0, 1, 8, 9, 10]))
(.seq (.ops [⟨(some 21), none, .mov (.t 1)⟩,
⟨(some 22), none, .mov (.t 8)⟩,
⟨(some 23), none, .ibin .quo .i64 (.t 22) (.c (.int .i64 4))⟩,
⟨(some 24), none, .ibin .mul .i64 (.t 23) (.c (.int .i64 2))⟩,
⟨(some 25), none, .ibin .add .i64 (.t 21) (.t 24)⟩,
⟨(some 11), none, .mov (.t 25)⟩] (some [0, 1, 8, 9, 10, 11]))
(.seq (.ops [⟨(some 26), none, .mov (.t 1)⟩,
⟨(some 27), none, .mov (.t 8)⟩,
⟨(some 28), none, .ibin .quo .i64 (.t 27) (.c (.int .i64 4))⟩,
⟨(some 29), none, .ibin .mul .i64 (.t 28) (.c (.int .i64 3))⟩,
⟨(some 30), none, .ibin .add .i64 (.t 26) (.t 29)⟩,
⟨(some 12), none, .mov (.t 30)⟩] (some [0, 8, 9, 10, 11, 12]))
(.seq (.seq (.ops [⟨(some 31), none, .mov (.t 8)⟩,
⟨(some 32), none, .ibin .geq .i64 (.t 31) (.c (.int .i64 8))⟩] (some [0, 8, 9, 10, 11, 12, 32]))
(.cond (.t 32)
(.seq (.seq (.ops [⟨(some 33), none, .mov (.t 8)⟩,
⟨(some 34), none, .ibin .geq .i64 (.t 33) (.c (.int .i64 50))⟩] (some [0, 9, 10, 11, 12, 34]))
(.cond (.t 34)
(.seq (.ops [⟨(some 35), none, .mov (.t 0)⟩,
⟨(some 36), none, .mov (.t 10)⟩,
⟨(some 37), none, .call 142 [(.t 35), (.t 36), (.t 9)]⟩,
⟨(some 10), none, .mov (.t 37)⟩] (some [0, 9, 10, 11, 12]))
(.seq (.ops [⟨(some 38), none, .mov (.t 0)⟩,
⟨(some 39), none, .mov (.t 11)⟩,
⟨(some 40), none, .call 142 [(.t 38), (.t 39), (.t 9)]⟩,
⟨(some 11), none, .mov (.t 40)⟩] (some [0, 9, 10, 11, 12]))
(.ops [⟨(some 41), none, .mov (.t 0)⟩,
⟨(some 42), none, .mov (.t 12)⟩,
⟨(some 43), none, .call 142 [(.t 41), (.t 42), (.t 9)]⟩,
⟨(some 12), none, .mov (.t 43)⟩] (some [0, 9, 10, 11, 12]))))
.skip))
(.ops [⟨(some 44), none, .mov (.t 0)⟩,
⟨(some 45), none, .mov (.t 10)⟩,
⟨(some 46), none, .mov (.t 11)⟩,
⟨(some 47), none, .mov (.t 12)⟩,
⟨(some 48), none, .call 143 [(.t 44), (.t 45), (.t 46), (.t 47), (.t 9)]⟩,
⟨(some 11), none, .mov (.t 48)⟩] (some [9, 11])))
.skip))
(.seq (.ops [⟨(some 49), none, .load 1 false (.t 9)⟩] (some [11, 49]))
(.block 0 (.seq (.ops [⟨(some 52), none, .ibin .eql .i64 (.t 49) (.c (.int .i64 0))⟩,
⟨(some 51), none, .mov (.t 52)⟩] (some [11, 49, 51]))
(.cond (.t 51)
(.seq (.ops [⟨(some 53), none, .mov (.t 11)⟩,
⟨(some 6), none, .mov (.t 53)⟩,
⟨(some 7), none, .mov (.c (.int .i64 1))⟩] (some [6, 7]))
.ret)
(.seq (.ops [⟨(some 55), none, .ibin .eql .i64 (.t 49) (.c (.int .i64 12))⟩,
⟨(some 54), none, .mov (.t 55)⟩] (some [11, 54]))
(.cond (.t 54)
(.seq (.ops [⟨(some 56), none, .mov (.t 11)⟩,
⟨(some 6), none, .mov (.t 56)⟩,
⟨(some 7), none, .mov (.c (.int .i64 2))⟩] (some [6, 7]))
.ret)
(.seq (.ops [⟨(some 50), none, .mov (.t 11)⟩,
⟨(some 6), none, .mov (.t 50)⟩,
⟨(some 7), none, .mov (.c (.int .i64 0))⟩] (some [6, 7]))
.ret))))))))))))))⟩
/-- slices.reverseRangeOrdered[int] -/
def ir130 : IFn := ⟨32, [],
(.seq (.ops [⟨(some 8), none, .mov (.t 1)⟩,
⟨(some 6), none, .mov (.t 8)⟩] (some [0, 2, 6]))
(.seq (.ops [⟨(some 9), none, .mov (.t 2)⟩,
⟨(some 10), none, .ibin .sub .i64 (.t 9) (.c (.int .i64 1))⟩,
⟨(some 7), none, .mov (.t 10)⟩] (some [0, 6, 7]))
(.block 0 (.loop (.seq (.seq (.ops [⟨(some 11), none, .mov (.t 6)⟩,
⟨(some 12), none, .mov (.t 7)⟩,
⟨(some 13), none, .ibin .lss .i64 (.t 11) (.t 12)⟩] (some [0, 6, 7, 13]))
(.cond (.t 13)
.skip
(.exit 0)))
(.block 1 (.seq (.draw (.rd 0 ⟨(some 14), none, .mov (.t 0)⟩
(.rd 1 ⟨(some 15), none, .mov (.t 6)⟩
(.rd 2 ⟨(some 16), none, .mov (.t 0)⟩
(.rd 3 ⟨(some 17), none, .mov (.t 7)⟩
(.rd 4 ⟨(some 18), none, .mov (.t 0)⟩
(.rd 5 ⟨(some 19), none, .mov (.t 7)⟩
(.rd 6 ⟨(some 20), none, .iaddr 1 (.t 18) (.t 19)⟩
(.rd 7 ⟨(some 21), none, .load 1 false (.t 20)⟩
(.rd 8 ⟨(some 22), none, .mov (.t 0)⟩
(.rd 9 ⟨(some 23), none, .mov (.t 6)⟩
(.rd 10 ⟨(some 24), none, .iaddr 1 (.t 22) (.t 23)⟩
(.rd 11 ⟨(some 25), none, .load 1 false (.t 24)⟩
(.rd 12 ⟨(some 26), none, .iaddr 1 (.t 14) (.t 15)⟩
(.wr 13 ⟨none, none, .store 1 (.t 26) (.t 21)⟩ [12, 7, 0, 1, 4, 5, 6, 7, 11]
(.rd 14 ⟨(some 27), none, .iaddr 1 (.t 16) (.t 17)⟩
(.wr 15 ⟨none, none, .store 1 (.t 27) (.t 25)⟩ [14, 11, 13, 0, 1, 2, 3, 4, 5, 6, 7, 8, 9, 10, 11, 12, 13]
.fin .no)) .no)))))))))))))) (some [0, 6, 7]))
(.seq (.ops [⟨(some 28), none, .mov (.t 6)⟩,
⟨(some 29), none, .ibin .add .i64 (.t 28) (.c (.int .i64 1))⟩,
⟨(some 6), none, .mov (.t 29)⟩] (some [0, 6, 7]))
(.ops [⟨(some 30), none, .mov (.t 7)⟩,
⟨(some 31), none, .ibin .sub .i64 (.t 30) (.c (.int .i64 1))⟩,
⟨(some 7), none, .mov (.t 31)⟩] (some [0, 6, 7]))))))))))⟩
/-- slices.partialInsertionSortOrdered[int] -/
def ir131 : IFn := ⟨133, [.t 6],
(.seq (.ops [⟨(some 6), none, .mov (.c (.bool false))⟩] (some [0, 1, 2]))
(.seq (.ops [⟨(some 11), none, .mov (.t 1)⟩,
⟨(some 12), none, .ibin .add .i64 (.t 11) (.c (.int .i64 1))⟩,
⟨(some 7), none, .mov (.t 12)⟩] (some [0, 1, 2, 7]))
(.seq (.seq (.ops [⟨(some 8), none, .mov (.c (.int .i64 0))⟩] none)
(.block 0 (.loop (.seq (.seq (.ops [⟨(some 13), none, .mov (.t 8)⟩,
⟨(some 14), none, .ibin .lss .i64 (.t 13) (.c (.int .i64 5))⟩] (some [0, 1, 2, 7, 8, 14]))
(.cond (.t 14)
.skip
(.exit 0)))
(.seq (.block 1 (.seq (.block 2 (.loop (.seq (.seq (.draw (.rd 0 ⟨(some 17), none, .mov (.t 7)⟩
(.rd 1 ⟨(some 18), none, .mov (.t 2)⟩
(.rd 2 ⟨(some 19), none, .ibin .lss .i64 (.t 17) (.t 18)⟩
(.rd 3 ⟨(some 20), none, .mov (.t 19)⟩
(.rd 4 ⟨(some 21), (some (20, true)), .mov (.t 0)⟩
(.rd 5 ⟨(some 22), (some (20, true)), .mov (.t 7)⟩
(.rd 6 ⟨(some 23), (some (20, true)), .iaddr 1 (.t 21) (.t 22)⟩
(.rd 7 ⟨(some 24), (some (20, true)), .load 1 false (.t 23)⟩
(.rd 8 ⟨(some 25), (some (20, true)), .mov (.t 0)⟩
(.rd 9 ⟨(some 26), (some (20, true)), .mov (.t 7)⟩
(.rd 10 ⟨(some 27), (some (20, true)), .ibin .sub .i64 (.t 26) (.c (.int .i64 1))⟩
(.rd 11 ⟨(some 28), (some (20, true)), .iaddr 1 (.t 25) (.t 27)⟩
(.rd 12 ⟨(some 29), (some (20, true)), .load 1 false (.t 28)⟩
(.wr 13 ⟨(some 30), (some (20, true)), .call 122 [(.t 24), (.t 29)]⟩ [7, 12, 3, 3]
(.rd 14 ⟨(some 31), (some (20, true)), .un .not (.t 30)⟩
(.rd 15 ⟨(some 32), none, .pick (.t 20) (.t 31) (.c (.bool false))⟩
.fin)) .no)))))))))))))) (some [0, 1, 2, 7, 8, 32]))
(.cond (.t 32)
.skip
(.exit 2)))
(.block 3 (.ops [⟨(some 33), none, .mov (.t 7)⟩,
⟨(some 34), none, .ibin .add .i64 (.t 33) (.c (.int .i64 1))⟩,
⟨(some 7), none, .mov (.t 34)⟩] (some [0, 1, 2, 7, 8]))))))
(.seq (.seq (.ops [⟨(some 35), none, .mov (.t 7)⟩,
⟨(some 36), none, .mov (.t 2)⟩,
⟨(some 37), none, .ibin .eql .i64 (.t 35) (.t 36)⟩] (some [0, 1, 2, 7, 8, 37]))
(.cond (.t 37)
(.seq (.ops [⟨(some 6), none, .mov (.c (.bool true))⟩] none)
.ret)
.skip))
(.seq (.seq (.ops [⟨(some 38), none, .mov (.t 2)⟩,
⟨(some 39), none, .mov (.t 1)⟩,
⟨(some 40), none, .ibin .sub .i64 (.t 38) (.t 39)⟩,
⟨(some 41), none, .ibin .lss .i64 (.t 40) (.c (.int .i64 50))⟩] (some [0, 1, 2, 7, 8, 41]))
(.cond (.t 41)
(.seq (.ops [⟨(some 6), none, .mov (.c (.bool false))⟩] none)
.ret)
.skip))
(.seq (.draw (.rd 0 ⟨(some 42), none, .mov (.t 0)⟩
(.rd 1 ⟨(some 43), none, .mov (.t 7)⟩
(.rd 2 ⟨(some 44), none, .mov (.t 0)⟩
(.rd 3 ⟨(some 45), none, .mov (.t 7)⟩
(.rd 4 ⟨(some 46), none, .ibin .sub .i64 (.t 45) (.c (.int .i64 1))⟩
(.rd 5 ⟨(some 47), none, .mov (.t 0)⟩
(.rd 6 ⟨(some 48), none, .mov (.t 7)⟩
(.rd 7 ⟨(some 49), none, .ibin .sub .i64 (.t 48) (.c (.int .i64 1))⟩
(.rd 8 ⟨(some 50), none, .iaddr 1 (.t 47) (.t 49)⟩
(.rd 9 ⟨(some 51), none, .load 1 false (.t 50)⟩
(.rd 10 ⟨(some 52), none, .mov (.t 0)⟩
(.rd 11 ⟨(some 53), none, .mov (.t 7)⟩
(.rd 12 ⟨(some 54), none, .iaddr 1 (.t 52) (.t 53)⟩
(.rd 13 ⟨(some 55), none, .load 1 false (.t 54)⟩
(.rd 14 ⟨(some 56), none, .iaddr 1 (.t 42) (.t 43)⟩
(.wr 15 ⟨none, none, .store 1 (.t 56) (.t 51)⟩ [14, 9, 0, 1, 5, 6, 7, 8, 9, 13]
(.rd 16 ⟨(some 57), none, .iaddr 1 (.t 44) (.t 46)⟩
(.wr 17 ⟨none, none, .store 1 (.t 57) (.t 55)⟩ [16, 13, 15, 0, 1, 2, 3, 4, 5, 6, 7, 8, 9, 10, 11, 12, 13, 14, 15]
.fin .no)) .no)))))))))))))))) (some [0, 1, 2, 7, 8]))
(.seq (.seq (.ops [⟨(some 58), none, .mov (.t 7)⟩,
⟨(some 59), none, .mov (.t 1)⟩,
⟨(some 60), none, .ibin .sub .i64 (.t 58) (.t 59)⟩,
⟨(some 61), none, .ibin .geq .i64 (.t 60) (.c (.int .i64 2))⟩] (some [0, 1, 2, 7, 8, 61]))
(.cond (.t 61)
(.seq (.ops [⟨(some 62), none, .mov (.t 7)⟩,
⟨(some 63), none, .ibin .sub .i64 (.t 62) (.c (.int .i64 1))⟩,
⟨(some 9), none, .mov (.t 63)⟩] (some [0, 1, 2, 7, 8, 9]))
(.block 4 (.loop (.seq (.seq (.ops [⟨(some 64), none, .mov (.t 9)⟩,
⟨(some 65), none, .ibin .geq .i64 (.t 64) (.c (.int .i64 1))⟩] (some [0, 1, 2, 7, 8, 9, 65]))
(.cond (.t 65)
.skip
(.exit 4)))
(.seq (.block 5 (.seq (.seq (.draw (.rd 0 ⟨(some 68), none, .mov (.t 0)⟩
(.rd 1 ⟨(some 69), none, .mov (.t 9)⟩
(.rd 2 ⟨(some 70), none, .iaddr 1 (.t 68) (.t 69)⟩
(.rd 3 ⟨(some 71), none, .load 1 false (.t 70)⟩
(.rd 4 ⟨(some 72), none, .mov (.t 0)⟩
(.rd 5 ⟨(some 73), none, .mov (.t 9)⟩
(.rd 6 ⟨(some 74), none, .ibin .sub .i64 (.t 73) (.c (.int .i64 1))⟩
(.rd 7 ⟨(some 75), none, .iaddr 1 (.t 72) (.t 74)⟩
(.rd 8 ⟨(some 76), none, .load 1 false (.t 75)⟩
(.wr 9 ⟨(some 77), none, .call 122 [(.t 71), (.t 76)]⟩ [3, 8]
(.rd 10 ⟨(some 78), none, .un .not (.t 77)⟩
.fin) .no)))))))))) (some [0, 1, 2, 7, 8, 9, 78]))
(.cond (.t 78)
(.exit 4)
.skip))
(.draw (.rd 0 ⟨(some 79), none, .mov (.t 0)⟩
(.rd 1 ⟨(some 80), none, .mov (.t 9)⟩
(.rd 2 ⟨(some 81), none, .mov (.t 0)⟩
(.rd 3 ⟨(some 82), none, .mov (.t 9)⟩
(.rd 4 ⟨(some 83), none, .ibin .sub .i64 (.t 82) (.c (.int .i64 1))⟩
(.rd 5 ⟨(some 84), none, .mov (.t 0)⟩
(.rd 6 ⟨(some 85), none, .mov (.t 9)⟩
(.rd 7 ⟨(some 86), none, .ibin .sub .i64 (.t 85) (.c (.int .i64 1))⟩
(.rd 8 ⟨(some 87), none, .iaddr 1 (.t 84) (.t 86)⟩
(.rd 9 ⟨(some 88), none, .load 1 false (.t 87)⟩
(.rd 10 ⟨(some 89), none, .mov (.t 0)⟩
(.rd 11 ⟨(some 90), none, .mov (.t 9)⟩
(.rd 12 ⟨(some 91), none, .iaddr 1 (.t 89) (.t 90)⟩
(.rd 13 ⟨(some 92), none, .load 1 false (.t 91)⟩
(.rd 14 ⟨(some 93), none, .iaddr 1 (.t 79) (.t 80)⟩
(.wr 15 ⟨none, none, .store 1 (.t 93) (.t 88)⟩ [14, 9, 0, 1, 5, 6, 7, 8, 9, 13]
(.rd 16 ⟨(some 94), none, .iaddr 1 (.t 81) (.t 83)⟩
(.wr 17 ⟨none, none, .store 1 (.t 94) (.t 92)⟩ [16, 13, 15, 0, 1, 2, 3, 4, 5, 6, 7, 8, 9, 10, 11, 12, 13, 14, 15]
.fin .no)) .no)))))))))))))))) (some [0, 1, 2, 7, 8, 9]))))
(.ops [⟨(some 66), none, .mov (.t 9)⟩,
⟨(some 67), none, .ibin .sub .i64 (.t 66) (.c (.int .i64 1))⟩,
⟨(some 9), none, .mov (.t 67)⟩] (some [0, 1, 2, 7, 8, 9])))))))
.skip))
(.seq (.ops [⟨(some 95), none, .mov (.t 2)⟩,
⟨(some 96), none, .mov (.t 7)⟩,
⟨(some 97), none, .ibin .sub .i64 (.t 95) (.t 96)⟩,
⟨(some 98), none, .ibin .geq .i64 (.t 97) (.c (.int .i64 2))⟩] (some [0, 1, 2, 7, 8, 98]))
(.cond (.t 98)
(.seq (.ops [⟨(some 99), none, .mov (.t 7)⟩,
⟨(some 100), none, .ibin .add .i64 (.t 99) (.c (.int .i64 1))⟩,
⟨(some 10), none, .mov (.t 100)⟩] (some [0, 1, 2, 7, 8, 10]))
(.block 6 (.loop (.seq (.seq (.ops [⟨(some 101), none, .mov (.t 10)⟩,
⟨(some 102), none, .mov (.t 2)⟩,
⟨(some 103), none, .ibin .lss .i64 (.t 101) (.t 102)⟩] (some [0, 1, 2, 7, 8, 10, 103]))
(.cond (.t 103)
.skip
(.exit 6)))
(.seq (.block 7 (.seq (.seq (.draw (.rd 0 ⟨(some 106), none, .mov (.t 0)⟩
(.rd 1 ⟨(some 107), none, .mov (.t 10)⟩
(.rd 2 ⟨(some 108), none, .iaddr 1 (.t 106) (.t 107)⟩
(.rd 3 ⟨(some 109), none, .load 1 false (.t 108)⟩
(.rd 4 ⟨(some 110), none, .mov (.t 0)⟩
(.rd 5 ⟨(some 111), none, .mov (.t 10)⟩
(.rd 6 ⟨(some 112), none, .ibin .sub .i64 (.t 111) (.c (.int .i64 1))⟩
(.rd 7 ⟨(some 113), none, .iaddr 1 (.t 110) (.t 112)⟩
(.rd 8 ⟨(some 114), none, .load 1 false (.t 113)⟩
(.wr 9 ⟨(some 115), none, .call 122 [(.t 109), (.t 114)]⟩ [3, 8]
(.rd 10 ⟨(some 116), none, .un .not (.t 115)⟩
.fin) .no)))))))))) (some [0, 1, 2, 7, 8, 10, 116]))
(.cond (.t 116)
(.exit 6)
.skip))
(.draw (.rd 0 ⟨(some 117), none, .mov (.t 0)⟩
(.rd 1 ⟨(some 118), none, .mov (.t 10)⟩
(.rd 2 ⟨(some 119), none, .mov (.t 0)⟩
(.rd 3 ⟨(some 120), none, .mov (.t 10)⟩
(.rd 4 ⟨(some 121), none, .ibin .sub .i64 (.t 120) (.c (.int .i64 1))⟩
(.rd 5 ⟨(some 122), none, .mov (.t 0)⟩
(.rd 6 ⟨(some 123), none, .mov (.t 10)⟩
(.rd 7 ⟨(some 124), none, .ibin .sub .i64 (.t 123) (.c (.int .i64 1))⟩
(.rd 8 ⟨(some 125), none, .iaddr 1 (.t 122) (.t 124)⟩
(.rd 9 ⟨(some 126), none, .load 1 false (.t 125)⟩
(.rd 10 ⟨(some 127), none, .mov (.t 0)⟩
(.rd 11 ⟨(some 128), none, .mov (.t 10)⟩
(.rd 12 ⟨(some 129), none, .iaddr 1 (.t 127) (.t 128)⟩
(.rd 13 ⟨(some 130), none, .load 1 false (.t 129)⟩
(.rd 14 ⟨(some 131), none, .iaddr 1 (.t 117) (.t 118)⟩
(.wr 15 ⟨none, none, .store 1 (.t 131) (.t 126)⟩ [14, 9, 0, 1, 5, 6, 7, 8, 9, 13]
(.rd 16 ⟨(some 132), none, .iaddr 1 (.t 119) (.t 121)⟩
(.wr 17 ⟨none, none, .store 1 (.t 132) (.t 130)⟩ [16, 13, 15, 0, 1, 2, 3, 4, 5, 6, 7, 8, 9, 10, 11, 12, 13, 14, 15]
.fin .no)) .no)))))))))))))))) (some [0, 1, 2, 7, 8, 10]))))
(.ops [⟨(some 104), none, .mov (.t 10)⟩,
⟨(some 105), none, .ibin .add .i64 (.t 104) (.c (.int .i64 1))⟩,
⟨(some 10), none, .mov (.t 105)⟩] (some [0, 1, 2, 7, 8, 10])))))))
.skip))))))))
(.ops [⟨(some 15), none, .mov (.t 8)⟩,
⟨(some 16), none, .ibin .add .i64 (.t 15) (.c (.int .i64 1))⟩,
⟨(some 8), none, .mov (.t 16)⟩] (some [0, 1, 2, 7, 8])))))))
(.seq (.ops [⟨(some 6), none, .mov (.c (.bool false))⟩] none)
.ret))))⟩
/-- slices.partitionEqualOrdered[int] -/
def ir132 : IFn := ⟨84, [.t 8],
(.seq (.ops [⟨(some 8), none, .mov (.c (.int .i64 0))⟩] (some [0, 1, 2, 3]))
(.seq (.draw (.rd 0 ⟨(some 11), none, .mov (.t 0)⟩
(.rd 1 ⟨(some 12), none, .mov (.t 1)⟩
(.rd 2 ⟨(some 13), none, .mov (.t 0)⟩
(.rd 3 ⟨(some 14), none, .mov (.t 3)⟩
(.rd 4 ⟨(some 15), none, .mov (.t 0)⟩
(.rd 5 ⟨(some 16), none, .mov (.t 3)⟩
(.rd 6 ⟨(some 17), none, .iaddr 1 (.t 15) (.t 16)⟩
(.rd 7 ⟨(some 18), none, .load 1 false (.t 17)⟩
(.rd 8 ⟨(some 19), none, .mov (.t 0)⟩
(.rd 9 ⟨(some 20), none, .mov (.t 1)⟩
(.rd 10 ⟨(some 21), none, .iaddr 1 (.t 19) (.t 20)⟩
(.rd 11 ⟨(some 22), none, .load 1 false (.t 21)⟩
(.rd 12 ⟨(some 23), none, .iaddr 1 (.t 11) (.t 12)⟩
(.wr 13 ⟨none, none, .store 1 (.t 23) (.t 18)⟩ [12, 7, 0, 1, 4, 5, 6, 7, 11]
(.rd 14 ⟨(some 24), none, .iaddr 1 (.t 13) (.t 14)⟩
(.wr 15 ⟨none, none, .store 1 (.t 24) (.t 22)⟩ [14, 11, 13, 0, 1, 2, 3, 4, 5, 6, 7, 8, 9, 10, 11, 12, 13]
.fin .no)) .no)))))))))))))) (some [0, 1, 2]))
(.seq (.ops [⟨(some 25), none, .mov (.t 1)⟩,
⟨(some 26), none, .ibin .add .i64 (.t 25) (.c (.int .i64 1))⟩,
⟨(some 27), none, .mov (.t 2)⟩,
⟨(some 28), none, .ibin .sub .i64 (.t 27) (.c (.int .i64 1))⟩,
⟨(some 9), none, .mov (.t 26)⟩,
⟨(some 10), none, .mov (.t 28)⟩] (some [0, 1, 9, 10]))
(.seq (.block 0 (.loop (.block 1 (.seq (.block 2 (.loop (.seq (.seq (.draw (.rd 0 ⟨(some 29), none, .mov (.t 9)⟩
(.rd 1 ⟨(some 30), none, .mov (.t 10)⟩
(.rd 2 ⟨(some 31), none, .ibin .leq .i64 (.t 29) (.t 30)⟩
(.rd 3 ⟨(some 32), none, .mov (.t 31)⟩
(.rd 4 ⟨(some 33), (some (32, true)), .mov (.t 0)⟩
(.rd 5 ⟨(some 34), (some (32, true)), .mov (.t 1)⟩
(.rd 6 ⟨(some 35), (some (32, true)), .iaddr 1 (.t 33) (.t 34)⟩
(.rd 7 ⟨(some 36), (some (32, true)), .load 1 false (.t 35)⟩
(.rd 8 ⟨(some 37), (some (32, true)), .mov (.t 0)⟩
(.rd 9 ⟨(some 38), (some (32, true)), .mov (.t 9)⟩
(.rd 10 ⟨(some 39), (some (32, true)), .iaddr 1 (.t 37) (.t 38)⟩
(.rd 11 ⟨(some 40), (some (32, true)), .load 1 false (.t 39)⟩
(.wr 12 ⟨(some 41), (some (32, true)), .call 122 [(.t 36), (.t 40)]⟩ [7, 11, 3, 3]
(.rd 13 ⟨(some 42), (some (32, true)), .un .not (.t 41)⟩
(.rd 14 ⟨(some 43), none, .pick (.t 32) (.t 42) (.c (.bool false))⟩
.fin)) .no))))))))))))) (some [0, 1, 9, 10, 43]))
(.cond (.t 43)
.skip
(.exit 2)))
(.block 3 (.ops [⟨(some 44), none, .mov (.t 9)⟩,
⟨(some 45), none, .ibin .add .i64 (.t 44) (.c (.int .i64 1))⟩,
⟨(some 9), none, .mov (.t 45)⟩] (some [0, 1, 9, 10]))))))
(.seq (.block 4 (.loop (.seq (.seq (.draw (.rd 0 ⟨(some 46), none, .mov (.t 9)⟩
(.rd 1 ⟨(some 47), none, .mov (.t 10)⟩
(.rd 2 ⟨(some 48), none, .ibin .leq .i64 (.t 46) (.t 47)⟩
(.rd 3 ⟨(some 49), none, .mov (.t 48)⟩
(.rd 4 ⟨(some 50), (some (49, true)), .mov (.t 0)⟩
(.rd 5 ⟨(some 51), (some (49, true)), .mov (.t 1)⟩
(.rd 6 ⟨(some 52), (some (49, true)), .iaddr 1 (.t 50) (.t 51)⟩
(.rd 7 ⟨(some 53), (some (49, true)), .load 1 false (.t 52)⟩
(.rd 8 ⟨(some 54), (some (49, true)), .mov (.t 0)⟩
(.rd 9 ⟨(some 55), (some (49, true)), .mov (.t 10)⟩
(.rd 10 ⟨(some 56), (some (49, true)), .iaddr 1 (.t 54) (.t 55)⟩
(.rd 11 ⟨(some 57), (some (49, true)), .load 1 false (.t 56)⟩
(.wr 12 ⟨(some 58), (some (49, true)), .call 122 [(.t 53), (.t 57)]⟩ [7, 11, 3, 3]
(.rd 13 ⟨(some 59), none, .pick (.t 49) (.t 58) (.c (.bool false))⟩
.fin) .no))))))))))))) (some [0, 1, 9, 10, 59]))
(.cond (.t 59)
.skip
(.exit 4)))
(.block 5 (.ops [⟨(some 60), none, .mov (.t 10)⟩,
⟨(some 61), none, .ibin .sub .i64 (.t 60) (.c (.int .i64 1))⟩,
⟨(some 10), none, .mov (.t 61)⟩] (some [0, 1, 9, 10]))))))
(.seq (.seq (.ops [⟨(some 62), none, .mov (.t 9)⟩,
⟨(some 63), none, .mov (.t 10)⟩,
⟨(some 64), none, .ibin .gtr .i64 (.t 62) (.t 63)⟩] (some [0, 1, 9, 10, 64]))
(.cond (.t 64)
(.exit 0)
.skip))
(.seq (.draw (.rd 0 ⟨(some 65), none, .mov (.t 0)⟩
(.rd 1 ⟨(some 66), none, .mov (.t 9)⟩
(.rd 2 ⟨(some 67), none, .mov (.t 0)⟩
(.rd 3 ⟨(some 68), none, .mov (.t 10)⟩
(.rd 4 ⟨(some 69), none, .mov (.t 0)⟩
(.rd 5 ⟨(some 70), none, .mov (.t 10)⟩
(.rd 6 ⟨(some 71), none, .iaddr 1 (.t 69) (.t 70)⟩
(.rd 7 ⟨(some 72), none, .load 1 false (.t 71)⟩
(.rd 8 ⟨(some 73), none, .mov (.t 0)⟩
(.rd 9 ⟨(some 74), none, .mov (.t 9)⟩
(.rd 10 ⟨(some 75), none, .iaddr 1 (.t 73) (.t 74)⟩
(.rd 11 ⟨(some 76), none, .load 1 false (.t 75)⟩
(.rd 12 ⟨(some 77), none, .iaddr 1 (.t 65) (.t 66)⟩
(.wr 13 ⟨none, none, .store 1 (.t 77) (.t 72)⟩ [12, 7, 0, 1, 4, 5, 6, 7, 11]
(.rd 14 ⟨(some 78), none, .iaddr 1 (.t 67) (.t 68)⟩
(.wr 15 ⟨none, none, .store 1 (.t 78) (.t 76)⟩ [14, 11, 13, 0, 1, 2, 3, 4, 5, 6, 7, 8, 9, 10, 11, 12, 13]
.fin .no)) .no)))))))))))))) (some [0, 1, 9, 10]))
(.seq (.ops [⟨(some 79), none, .mov (.t 9)⟩,
⟨(some 80), none, .ibin .add .i64 (.t 79) (.c (.int .i64 1))⟩,
⟨(some 9), none, .mov (.t 80)⟩] (some [0, 1, 9, 10]))
(.ops [⟨(some 81), none, .mov (.t 10)⟩,
⟨(some 82), none, .ibin .sub .i64 (.t 81) (.c (.int .i64 1))⟩,
⟨(some 10), none, .mov (.t 82)⟩] (some [0, 1, 9, 10]))))))))))
(.seq (.ops [⟨(some 83), none, .mov (.t 9)⟩,
⟨(some 8), none, .mov (.t 83)⟩] (some [8]))
.ret)))))⟩
/-- slices.partitionOrdered[int] -/
def ir133 : IFn := ⟨168, [.t 8, .t 9],
(.seq (.ops [⟨(some 8), none, .mov (.c (.int .i64 0))⟩,
⟨(some 9), none, .mov (.c (.bool false))⟩] (some [0, 1, 2, 3]))
(.seq (.draw (.rd 0 ⟨(some 12), none, .mov (.t 0)⟩
(.rd 1 ⟨(some 13), none, .mov (.t 1)⟩
(.rd 2 ⟨(some 14), none, .mov (.t 0)⟩
(.rd 3 ⟨(some 15), none, .mov (.t 3)⟩
(.rd 4 ⟨(some 16), none, .mov (.t 0)⟩
(.rd 5 ⟨(some 17), none, .mov (.t 3)⟩
(.rd 6 ⟨(some 18), none, .iaddr 1 (.t 16) (.t 17)⟩
(.rd 7 ⟨(some 19), none, .load 1 false (.t 18)⟩
(.rd 8 ⟨(some 20), none, .mov (.t 0)⟩
(.rd 9 ⟨(some 21), none, .mov (.t 1)⟩
(.rd 10 ⟨(some 22), none, .iaddr 1 (.t 20) (.t 21)⟩
(.rd 11 ⟨(some 23), none, .load 1 false (.t 22)⟩
(.rd 12 ⟨(some 24), none, .iaddr 1 (.t 12) (.t 13)⟩
(.wr 13 ⟨none, none, .store 1 (.t 24) (.t 19)⟩ [12, 7, 0, 1, 4, 5, 6, 7, 11]
(.rd 14 ⟨(some 25), none, .iaddr 1 (.t 14) (.t 15)⟩
(.wr 15 ⟨none, none, .store 1 (.t 25) (.t 23)⟩ [14, 11, 13, 0, 1, 2, 3, 4, 5, 6, 7, 8, 9, 10, 11, 12, 13]
.fin .no)) .no)))))))))))))) (some [0, 1, 2]))
(.seq (.ops [⟨(some 26), none, .mov (.t 1)⟩,
⟨(some 27), none, .ibin .add .i64 (.t 26) (.c (.int .i64 1))⟩,
⟨(some 28), none, .mov (.t 2)⟩,
⟨(some 29), none, .ibin .sub .i64 (.t 28) (.c (.int .i64 1))⟩,
⟨(some 10), none, .mov (.t 27)⟩,
⟨(some 11), none, .mov (.t 29)⟩] (some [0, 1, 10, 11]))
(.seq (.block 0 (.loop (.seq (.seq (.draw (.rd 0 ⟨(some 30), none, .mov (.t 10)⟩
(.rd 1 ⟨(some 31), none, .mov (.t 11)⟩
(.rd 2 ⟨(some 32), none, .ibin .leq .i64 (.t 30) (.t 31)⟩
(.rd 3 ⟨(some 33), none, .mov (.t 32)⟩
(.rd 4 ⟨(some 34), (some (33, true)), .mov (.t 0)⟩
(.rd 5 ⟨(some 35), (some (33, true)), .mov (.t 10)⟩
(.rd 6 ⟨(some 36), (some (33, true)), .iaddr 1 (.t 34) (.t 35)⟩
(.rd 7 ⟨(some 37), (some (33, true)), .load 1 false (.t 36)⟩
(.rd 8 ⟨(some 38), (some (33, true)), .mov (.t 0)⟩
(.rd 9 ⟨(some 39), (some (33, true)), .mov (.t 1)⟩
(.rd 10 ⟨(some 40), (some (33, true)), .iaddr 1 (.t 38) (.t 39)⟩
(.rd 11 ⟨(some 41), (some (33, true)), .load 1 false (.t 40)⟩
(.wr 12 ⟨(some 42), (some (33, true)), .call 122 [(.t 37), (.t 41)]⟩ [7, 11, 3, 3]
(.rd 13 ⟨(some 43), none, .pick (.t 33) (.t 42) (.c (.bool false))⟩
.fin) .no))))))))))))) (some [0, 1, 10, 11, 43]))
(.cond (.t 43)
.skip
(.exit 0)))
(.block 1 (.ops [⟨(some 44), none, .mov (.t 10)⟩,
⟨(some 45), none, .ibin .add .i64 (.t 44) (.c (.int .i64 1))⟩,
⟨(some 10), none, .mov (.t 45)⟩] (some [0, 1, 10, 11]))))))
(.seq (.block 2 (.loop (.seq (.seq (.draw (.rd 0 ⟨(some 46), none, .mov (.t 10)⟩
(.rd 1 ⟨(some 47), none, .mov (.t 11)⟩
(.rd 2 ⟨(some 48), none, .ibin .leq .i64 (.t 46) (.t 47)⟩
(.rd 3 ⟨(some 49), none, .mov (.t 48)⟩
(.rd 4 ⟨(some 50), (some (49, true)), .mov (.t 0)⟩
(.rd 5 ⟨(some 51), (some (49, true)), .mov (.t 11)⟩
(.rd 6 ⟨(some 52), (some (49, true)), .iaddr 1 (.t 50) (.t 51)⟩
(.rd 7 ⟨(some 53), (some (49, true)), .load 1 false (.t 52)⟩
(.rd 8 ⟨(some 54), (some (49, true)), .mov (.t 0)⟩
(.rd 9 ⟨(some 55), (some (49, true)), .mov (.t 1)⟩
(.rd 10 ⟨(some 56), (some (49, true)), .iaddr 1 (.t 54) (.t 55)⟩
(.rd 11 ⟨(some 57), (some (49, true)), .load 1 false (.t 56)⟩
(.wr 12 ⟨(some 58), (some (49, true)), .call 122 [(.t 53), (.t 57)]⟩ [7, 11, 3, 3]
(.rd 13 ⟨(some 59), (some (49, true)), .un .not (.t 58)⟩
(.rd 14 ⟨(some 60), none, .pick (.t 49) (.t 59) (.c (.bool false))⟩
.fin)) .no))))))))))))) (some [0, 1, 10, 11, 60]))
(.cond (.t 60)
.skip
(.exit 2)))
(.block 3 (.ops [⟨(some 61), none, .mov (.t 11)⟩,
⟨(some 62), none, .ibin .sub .i64 (.t 61) (.c (.int .i64 1))⟩,
⟨(some 11), none, .mov (.t 62)⟩] (some [0, 1, 10, 11]))))))
(.seq (.seq (.ops [⟨(some 63), none, .mov (.t 10)⟩,
⟨(some 64), none, .mov (.t 11)⟩,
⟨(some 65), none, .ibin .gtr .i64 (.t 63) (.t 64)⟩] (some [0, 1, 10, 11, 65]))
(.cond (.t 65)
(.seq (.draw (.rd 0 ⟨(some 66), none, .mov (.t 0)⟩
(.rd 1 ⟨(some 67), none, .mov (.t 11)⟩
(.rd 2 ⟨(some 68), none, .mov (.t 0)⟩
(.rd 3 ⟨(some 69), none, .mov (.t 1)⟩
(.rd 4 ⟨(some 70), none, .mov (.t 0)⟩
(.rd 5 ⟨(some 71), none, .mov (.t 1)⟩
(.rd 6 ⟨(some 72), none, .iaddr 1 (.t 70) (.t 71)⟩
(.rd 7 ⟨(some 73), none, .load 1 false (.t 72)⟩
(.rd 8 ⟨(some 74), none, .mov (.t 0)⟩
(.rd 9 ⟨(some 75), none, .mov (.t 11)⟩
(.rd 10 ⟨(some 76), none, .iaddr 1 (.t 74) (.t 75)⟩
(.rd 11 ⟨(some 77), none, .load 1 false (.t 76)⟩
(.rd 12 ⟨(some 78), none, .iaddr 1 (.t 66) (.t 67)⟩
(.wr 13 ⟨none, none, .store 1 (.t 78) (.t 73)⟩ [12, 7, 0, 1, 4, 5, 6, 7, 11]
(.rd 14 ⟨(some 79), none, .iaddr 1 (.t 68) (.t 69)⟩
(.wr 15 ⟨none, none, .store 1 (.t 79) (.t 77)⟩ [14, 11, 13, 0, 1, 2, 3, 4, 5, 6, 7, 8, 9, 10, 11, 12, 13]
.fin .no)) .no)))))))))))))) (some [11]))
(.seq (.ops [⟨(some 80), none, .mov (.t 11)⟩,
⟨(some 8), none, .mov (.t 80)⟩,
⟨(some 9), none, .mov (.c (.bool true))⟩] (some [8, 9]))
.ret))
.skip))
(.seq (.draw (.rd 0 ⟨(some 81), none, .mov (.t 0)⟩
(.rd 1 ⟨(some 82), none, .mov (.t 10)⟩
(.rd 2 ⟨(some 83), none, .mov (.t 0)⟩
(.rd 3 ⟨(some 84), none, .mov (.t 11)⟩
(.rd 4 ⟨(some 85), none, .mov (.t 0)⟩
(.rd 5 ⟨(some 86), none, .mov (.t 11)⟩
(.rd 6 ⟨(some 87), none, .iaddr 1 (.t 85) (.t 86)⟩
(.rd 7 ⟨(some 88), none, .load 1 false (.t 87)⟩
(.rd 8 ⟨(some 89), none, .mov (.t 0)⟩
(.rd 9 ⟨(some 90), none, .mov (.t 10)⟩
(.rd 10 ⟨(some 91), none, .iaddr 1 (.t 89) (.t 90)⟩
(.rd 11 ⟨(some 92), none, .load 1 false (.t 91)⟩
(.rd 12 ⟨(some 93), none, .iaddr 1 (.t 81) (.t 82)⟩
(.wr 13 ⟨none, none, .store 1 (.t 93) (.t 88)⟩ [12, 7, 0, 1, 4, 5, 6, 7, 11]
(.rd 14 ⟨(some 94), none, .iaddr 1 (.t 83) (.t 84)⟩
(.wr 15 ⟨none, none, .store 1 (.t 94) (.t 92)⟩ [14, 11, 13, 0, 1, 2, 3, 4, 5, 6, 7, 8, 9, 10, 11, 12, 13]
.fin .no)) .no)))))))))))))) (some [0, 1, 10, 11]))
(.seq (.ops [⟨(some 95), none, .mov (.t 10)⟩,
⟨(some 96), none, .ibin .add .i64 (.t 95) (.c (.int .i64 1))⟩,
⟨(some 10), none, .mov (.t 96)⟩] (some [0, 1, 10, 11]))
(.seq (.ops [⟨(some 97), none, .mov (.t 11)⟩,
⟨(some 98), none, .ibin .sub .i64 (.t 97) (.c (.int .i64 1))⟩,
⟨(some 11), none, .mov (.t 98)⟩] (some [0, 1, 10, 11]))
(.seq (.block 4 (.loop (.block 5 (.seq (.block 6 (.loop (.seq (.seq (.draw (.rd 0 ⟨(some 99), none, .mov (.t 10)⟩
(.rd 1 ⟨(some 100), none, .mov (.t 11)⟩
(.rd 2 ⟨(some 101), none, .ibin .leq .i64 (.t 99) (.t 100)⟩
(.rd 3 ⟨(some 102), none, .mov (.t 101)⟩
(.rd 4 ⟨(some 103), (some (102, true)), .mov (.t 0)⟩
(.rd 5 ⟨(some 104), (some (102, true)), .mov (.t 10)⟩
(.rd 6 ⟨(some 105), (some (102, true)), .iaddr 1 (.t 103) (.t 104)⟩
(.rd 7 ⟨(some 106), (some (102, true)), .load 1 false (.t 105)⟩
(.rd 8 ⟨(some 107), (some (102, true)), .mov (.t 0)⟩
(.rd 9 ⟨(some 108), (some (102, true)), .mov (.t 1)⟩
(.rd 10 ⟨(some 109), (some (102, true)), .iaddr 1 (.t 107) (.t 108)⟩
(.rd 11 ⟨(some 110), (some (102, true)), .load 1 false (.t 109)⟩
(.wr 12 ⟨(some 111), (some (102, true)), .call 122 [(.t 106), (.t 110)]⟩ [7, 11, 3, 3]
(.rd 13 ⟨(some 112), none, .pick (.t 102) (.t 111) (.c (.bool false))⟩
.fin) .no))))))))))))) (some [0, 1, 10, 11, 112]))
(.cond (.t 112)
.skip
(.exit 6)))
(.block 7 (.ops [⟨(some 113), none, .mov (.t 10)⟩,
⟨(some 114), none, .ibin .add .i64 (.t 113) (.c (.int .i64 1))⟩,
⟨(some 10), none, .mov (.t 114)⟩] (some [0, 1, 10, 11]))))))
(.seq (.block 8 (.loop (.seq (.seq (.draw (.rd 0 ⟨(some 115), none, .mov (.t 10)⟩
(.rd 1 ⟨(some 116), none, .mov (.t 11)⟩
(.rd 2 ⟨(some 117), none, .ibin .leq .i64 (.t 115) (.t 116)⟩
(.rd 3 ⟨(some 118), none, .mov (.t 117)⟩
(.rd 4 ⟨(some 119), (some (118, true)), .mov (.t 0)⟩
(.rd 5 ⟨(some 120), (some (118, true)), .mov (.t 11)⟩
(.rd 6 ⟨(some 121), (some (118, true)), .iaddr 1 (.t 119) (.t 120)⟩
(.rd 7 ⟨(some 122), (some (118, true)), .load 1 false (.t 121)⟩
(.rd 8 ⟨(some 123), (some (118, true)), .mov (.t 0)⟩
(.rd 9 ⟨(some 124), (some (118, true)), .mov (.t 1)⟩
(.rd 10 ⟨(some 125), (some (118, true)), .iaddr 1 (.t 123) (.t 124)⟩
(.rd 11 ⟨(some 126), (some (118, true)), .load 1 false (.t 125)⟩
(.wr 12 ⟨(some 127), (some (118, true)), .call 122 [(.t 122), (.t 126)]⟩ [7, 11, 3, 3]
(.rd 13 ⟨(some 128), (some (118, true)), .un .not (.t 127)⟩
(.rd 14 ⟨(some 129), none, .pick (.t 118) (.t 128) (.c (.bool false))⟩
.fin)) .no))))))))))))) (some [0, 1, 10, 11, 129]))
(.cond (.t 129)
.skip
(.exit 8)))
(.block 9 (.ops [⟨(some 130), none, .mov (.t 11)⟩,
⟨(some 131), none, .ibin .sub .i64 (.t 130) (.c (.int .i64 1))⟩,
⟨(some 11), none, .mov (.t 131)⟩] (some [0, 1, 10, 11]))))))
(.seq (.seq (.ops [⟨(some 132), none, .mov (.t 10)⟩,
⟨(some 133), none, .mov (.t 11)⟩,
⟨(some 134), none, .ibin .gtr .i64 (.t 132) (.t 133)⟩] (some [0, 1, 10, 11, 134]))
(.cond (.t 134)
(.exit 4)
.skip))
(.seq (.draw (.rd 0 ⟨(some 135), none, .mov (.t 0)⟩
(.rd 1 ⟨(some 136), none, .mov (.t 10)⟩
(.rd 2 ⟨(some 137), none, .mov (.t 0)⟩
(.rd 3 ⟨(some 138), none, .mov (.t 11)⟩
(.rd 4 ⟨(some 139), none, .mov (.t 0)⟩
(.rd 5 ⟨(some 140), none, .mov (.t 11)⟩
(.rd 6 ⟨(some 141), none, .iaddr 1 (.t 139) (.t 140)⟩
(.rd 7 ⟨(some 142), none, .load 1 false (.t 141)⟩
(.rd 8 ⟨(some 143), none, .mov (.t 0)⟩
(.rd 9 ⟨(some 144), none, .mov (.t 10)⟩
(.rd 10 ⟨(some 145), none, .iaddr 1 (.t 143) (.t 144)⟩
(.rd 11 ⟨(some 146), none, .load 1 false (.t 145)⟩
(.rd 12 ⟨(some 147), none, .iaddr 1 (.t 135) (.t 136)⟩
(.wr 13 ⟨none, none, .store 1 (.t 147) (.t 142)⟩ [12, 7, 0, 1, 4, 5, 6, 7, 11]
(.rd 14 ⟨(some 148), none, .iaddr 1 (.t 137) (.t 138)⟩
(.wr 15 ⟨none, none, .store 1 (.t 148) (.t 146)⟩ [14, 11, 13, 0, 1, 2, 3, 4, 5, 6, 7, 8, 9, 10, 11, 12, 13]
.fin .no)) .no)))))))))))))) (some [0, 1, 10, 11]))
(.seq (.ops [⟨(some 149), none, .mov (.t 10)⟩,
⟨(some 150), none, .ibin .add .i64 (.t 149) (.c (.int .i64 1))⟩,
⟨(some 10), none, .mov (.t 150)⟩] (some [0, 1, 10, 11]))
(.ops [⟨(some 151), none, .mov (.t 11)⟩,
⟨(some 152), none, .ibin .sub .i64 (.t 151) (.c (.int .i64 1))⟩,
⟨(some 11), none, .mov (.t 152)⟩] (some [0, 1, 10, 11]))))))))))
(.seq (.draw (.rd 0 ⟨(some 153), none, .mov (.t 0)⟩
(.rd 1 ⟨(some 154), none, .mov (.t 11)⟩
(.rd 2 ⟨(some 155), none, .mov (.t 0)⟩
(.rd 3 ⟨(some 156), none, .mov (.t 1)⟩
(.rd 4 ⟨(some 157), none, .mov (.t 0)⟩
(.rd 5 ⟨(some 158), none, .mov (.t 1)⟩
(.rd 6 ⟨(some 159), none, .iaddr 1 (.t 157) (.t 158)⟩
(.rd 7 ⟨(some 160), none, .load 1 false (.t 159)⟩
(.rd 8 ⟨(some 161), none, .mov (.t 0)⟩
(.rd 9 ⟨(some 162), none, .mov (.t 11)⟩
(.rd 10 ⟨(some 163), none, .iaddr 1 (.t 161) (.t 162)⟩
(.rd 11 ⟨(some 164), none, .load 1 false (.t 163)⟩
(.rd 12 ⟨(some 165), none, .iaddr 1 (.t 153) (.t 154)⟩
(.wr 13 ⟨none, none, .store 1 (.t 165) (.t 160)⟩ [12, 7, 0, 1, 4, 5, 6, 7, 11]
(.rd 14 ⟨(some 166), none, .iaddr 1 (.t 155) (.t 156)⟩
(.wr 15 ⟨none, none, .store 1 (.t 166) (.t 164)⟩ [14, 11, 13, 0, 1, 2, 3, 4, 5, 6, 7, 8, 9, 10, 11, 12, 13]
.fin .no)) .no)))))))))))))) (some [11]))
(.seq (.ops [⟨(some 167), none, .mov (.t 11)⟩,
⟨(some 8), none, .mov (.t 167)⟩,
⟨(some 9), none, .mov (.c (.bool false))⟩] (some [8, 9]))
.ret))))))))))))⟩
/-- math/bits.Len32 -/
def ir134 : IFn := ⟨19, [.t 2],
(.seq (.ops [⟨(some 2), none, .mov (.c (.int .i64 0))⟩] none)
(.seq (.seq (.ops [⟨(some 3), none, .mov (.t 0)⟩,
⟨(some 4), none, .ibin .geq .u32 (.t 3) (.c (.int .u32 65536))⟩] (some [0, 2, 4]))
(.cond (.t 4)
(.seq (.ops [⟨(some 5), none, .mov (.t 0)⟩,
⟨(some 6), none, .shift .shr .u32 (.t 5) (.c (.int .u64 16))⟩,
⟨(some 0), none, .mov (.t 6)⟩] (some [0]))
(.ops [⟨(some 2), none, .mov (.c (.int .i64 16))⟩] none))
.skip))
(.seq (.seq (.ops [⟨(some 7), none, .mov (.t 0)⟩,
⟨(some 8), none, .ibin .geq .u32 (.t 7) (.c (.int .u32 256))⟩] (some [0, 2, 8]))
(.cond (.t 8)
(.seq (.ops [⟨(some 9), none, .mov (.t 0)⟩,
⟨(some 10), none, .shift .shr .u32 (.t 9) (.c (.int .u64 8))⟩,
⟨(some 0), none, .mov (.t 10)⟩] (some [0, 2]))
(.ops [⟨(some 11), none, .mov (.t 2)⟩,
⟨(some 12), none, .ibin .add .i64 (.t 11) (.c (.int .i64 8))⟩,
⟨(some 2), none, .mov (.t 12)⟩] (some [0, 2])))
.skip))
(.seq (.ops [⟨(some 13), none, .mov (.t 2)⟩,
⟨(some 14), none, .mov (.t 0)⟩,
⟨(some 15), none, .conv .u8 (.t 14)⟩,
⟨(some 16), none, .indexS (.c (.string ⟨#[0, 1, 2, 2, 3, 3, 3, 3, 4, 4, 4, 4, 4, 4, 4, 4, 5, 5, 5, 5, 5, 5, 5, 5, 5, 5, 5, 5, 5, 5, 5, 5, 6, 6, 6, 6, 6, 6, 6, 6, 6, 6, 6, 6, 6, 6, 6, 6, 6, 6, 6, 6, 6, 6, 6, 6, 6, 6, 6, 6, 6, 6, 6, 6, 7, 7, 7, 7, 7, 7, 7, 7, 7, 7, 7, 7, 7, 7, 7, 7, 7, 7, 7, 7, 7, 7, 7, 7, 7, 7, 7, 7, 7, 7, 7, 7, 7, 7, 7, 7, 7, 7, 7, 7, 7, 7, 7, 7, 7, 7, 7, 7, 7, 7, 7, 7, 7, 7, 7, 7, 7, 7, 7, 7, 7, 7, 7, 7, 8, 8, 8, 8, 8, 8, 8, 8, 8, 8, 8, 8, 8, 8, 8, 8, 8, 8, 8, 8, 8, 8, 8, 8, 8, 8, 8, 8, 8, 8, 8, 8, 8, 8, 8, 8, 8, 8, 8, 8, 8, 8, 8, 8, 8, 8, 8, 8, 8, 8, 8, 8, 8, 8, 8, 8, 8, 8, 8, 8, 8, 8, 8, 8, 8, 8, 8, 8, 8, 8, 8, 8, 8, 8, 8, 8, 8, 8, 8, 8, 8, 8, 8, 8, 8, 8, 8, 8, 8, 8, 8, 8, 8, 8, 8, 8, 8, 8, 8, 8, 8, 8, 8, 8, 8, 8, 8, 8, 8, 8, 8, 8, 8, 8, 8, 8, 8, 8, 8, 8, 8, 8, 8, 8, 8, 8, 8, 8]⟩)) (.t 15)⟩,
⟨(some 17), none, .conv .i64 (.t 16)⟩,
⟨(some 18), none, .ibin .add .i64 (.t 13) (.t 17)⟩,
⟨(some 2), none, .mov (.t 18)⟩] (some [2]))
.ret))))⟩
/-- math/bits.Len64 -/
def ir135 : IFn := ⟨25, [.t 2],
(.seq (.ops [⟨(some 2), none, .mov (.c (.int .i64 0))⟩] none)
(.seq (.seq (.ops [⟨(some 3), none, .mov (.t 0)⟩,
⟨(some 4), none, .ibin .geq .u64 (.t 3) (.c (.int .u64 4294967296))⟩] (some [0, 2, 4]))
(.cond (.t 4)
(.seq (.ops [⟨(some 5), none, .mov (.t 0)⟩,
⟨(some 6), none, .shift .shr .u64 (.t 5) (.c (.int .u64 32))⟩,
⟨(some 0), none, .mov (.t 6)⟩] (some [0]))
(.ops [⟨(some 2), none, .mov (.c (.int .i64 32))⟩] none))
.skip))
(.seq (.seq (.ops [⟨(some 7), none, .mov (.t 0)⟩,
⟨(some 8), none, .ibin .geq .u64 (.t 7) (.c (.int .u64 65536))⟩] (some [0, 2, 8]))
(.cond (.t 8)
(.seq (.ops [⟨(some 9), none, .mov (.t 0)⟩,
⟨(some 10), none, .shift .shr .u64 (.t 9) (.c (.int .u64 16))⟩,
⟨(some 0), none, .mov (.t 10)⟩] (some [0, 2]))
(.ops [⟨(some 11), none, .mov (.t 2)⟩,
⟨(some 12), none, .ibin .add .i64 (.t 11) (.c (.int .i64 16))⟩,
⟨(some 2), none, .mov (.t 12)⟩] (some [0, 2])))
.skip))
(.seq (.seq (.ops [⟨(some 13), none, .mov (.t 0)⟩,
⟨(some 14), none, .ibin .geq .u64 (.t 13) (.c (.int .u64 256))⟩] (some [0, 2, 14]))
(.cond (.t 14)
(.seq (.ops [⟨(some 15), none, .mov (.t 0)⟩,
⟨(some 16), none, .shift .shr .u64 (.t 15) (.c (.int .u64 8))⟩,
⟨(some 0), none, .mov (.t 16)⟩] (some [0, 2]))
(.ops [⟨(some 17), none, .mov (.t 2)⟩,
⟨(some 18), none, .ibin .add .i64 (.t 17) (.c (.int .i64 8))⟩,
⟨(some 2), none, .mov (.t 18)⟩] (some [0, 2])))
.skip))
(.seq (.ops [⟨(some 19), none, .mov (.t 2)⟩,
⟨(some 20), none, .mov (.t 0)⟩,
⟨(some 21), none, .conv .u8 (.t 20)⟩,
⟨(some 22), none, .indexS (.c (.string ⟨#[0, 1, 2, 2, 3, 3, 3, 3, 4, 4, 4, 4, 4, 4, 4, 4, 5, 5, 5, 5, 5, 5, 5, 5, 5, 5, 5, 5, 5, 5, 5, 5, 6, 6, 6, 6, 6, 6, 6, 6, 6, 6, 6, 6, 6, 6, 6, 6, 6, 6, 6, 6, 6, 6, 6, 6, 6, 6, 6, 6, 6, 6, 6, 6, 7, 7, 7, 7, 7, 7, 7, 7, 7, 7, 7, 7, 7, 7, 7, 7, 7, 7, 7, 7, 7, 7, 7, 7, 7, 7, 7, 7, 7, 7, 7, 7, 7, 7, 7, 7, 7, 7, 7, 7, 7, 7, 7, 7, 7, 7, 7, 7, 7, 7, 7, 7, 7, 7, 7, 7, 7, 7, 7, 7, 7, 7, 7, 7, 8, 8, 8, 8, 8, 8, 8, 8, 8, 8, 8, 8, 8, 8, 8, 8, 8, 8, 8, 8, 8, 8, 8, 8, 8, 8, 8, 8, 8, 8, 8, 8, 8, 8, 8, 8, 8, 8, 8, 8, 8, 8, 8, 8, 8, 8, 8, 8, 8, 8, 8, 8, 8, 8, 8, 8, 8, 8, 8, 8, 8, 8, 8, 8, 8, 8, 8, 8, 8, 8, 8, 8, 8, 8, 8, 8, 8, 8, 8, 8, 8, 8, 8, 8, 8, 8, 8, 8, 8, 8, 8, 8, 8, 8, 8, 8, 8, 8, 8, 8, 8, 8, 8, 8, 8, 8, 8, 8, 8, 8, 8, 8, 8, 8, 8, 8, 8, 8, 8, 8, 8, 8, 8, 8, 8, 8, 8, 8]⟩)) (.t 21)⟩,
⟨(some 23), none, .conv .i64 (.t 22)⟩,
⟨(some 24), none, .ibin .add .i64 (.t 19) (.t 23)⟩,
⟨(some 2), none, .mov (.t 24)⟩] (some [2]))
.ret)))))⟩
/-- slices.insertionSortCmpFunc[int] -/
def ir136 : IFn := ⟨53, [],
(.seq (.ops [⟨(some 10), none, .mov (.t 1)⟩,
⟨(some 11), none, .ibin .add .i64 (.t 10) (.c (.int .i64 1))⟩,
⟨(some 8), none, .mov (.t 11)⟩] (some [0, 1, 2, 3, 8]))
(.block 0 (.loop (.seq (.seq (.ops [⟨(some 12), none, .mov (.t 8)⟩,
⟨(some 13), none, .mov (.t 2)⟩,
⟨(some 14), none, .ibin .lss .i64 (.t 12) (.t 13)⟩] (some [0, 1, 2, 3, 8, 14]))
(.cond (.t 14)
.skip
(.exit 0)))
(.seq (.block 1 (.seq (.ops [⟨(some 17), none, .mov (.t 8)⟩,
⟨(some 9), none, .mov (.t 17)⟩] (some [0, 1, 2, 3, 8, 9]))
(.block 2 (.loop (.seq (.seq (.draw (.rd 0 ⟨(some 18), none, .mov (.t 9)⟩
(.rd 1 ⟨(some 19), none, .mov (.t 1)⟩
(.rd 2 ⟨(some 20), none, .ibin .gtr .i64 (.t 18) (.t 19)⟩
(.rd 3 ⟨(some 21), none, .mov (.t 20)⟩
(.rd 4 ⟨(some 22), (some (21, true)), .mov (.t 3)⟩
(.rd 5 ⟨(some 23), (some (21, true)), .mov (.t 0)⟩
(.rd 6 ⟨(some 24), (some (21, true)), .mov (.t 9)⟩
(.rd 7 ⟨(some 25), (some (21, true)), .iaddr 1 (.t 23) (.t 24)⟩
(.rd 8 ⟨(some 26), (some (21, true)), .load 1 false (.t 25)⟩
(.rd 9 ⟨(some 27), (some (21, true)), .mov (.t 0)⟩
(.rd 10 ⟨(some 28), (some (21, true)), .mov (.t 9)⟩
(.rd 11 ⟨(some 29), (some (21, true)), .ibin .sub .i64 (.t 28) (.c (.int .i64 1))⟩
(.rd 12 ⟨(some 30), (some (21, true)), .iaddr 1 (.t 27) (.t 29)⟩
(.rd 13 ⟨(some 31), (some (21, true)), .load 1 false (.t 30)⟩
(.wr 14 ⟨(some 32), (some (21, true)), .callv (.t 22) [(.t 26), (.t 31)]⟩ [4, 8, 13, 3, 3]
(.rd 15 ⟨(some 33), (some (21, true)), .ibin .lss .i64 (.t 32) (.c (.int .i64 0))⟩
(.rd 16 ⟨(some 34), none, .pick (.t 21) (.t 33) (.c (.bool false))⟩
.fin)) .no))))))))))))))) (some [0, 1, 2, 3, 8, 9, 34]))
(.cond (.t 34)
.skip
(.exit 2)))
(.seq (.block 3 (.draw (.rd 0 ⟨(some 37), none, .mov (.t 0)⟩
(.rd 1 ⟨(some 38), none, .mov (.t 9)⟩
(.rd 2 ⟨(some 39), none, .mov (.t 0)⟩
(.rd 3 ⟨(some 40), none, .mov (.t 9)⟩
(.rd 4 ⟨(some 41), none, .ibin .sub .i64 (.t 40) (.c (.int .i64 1))⟩
(.rd 5 ⟨(some 42), none, .mov (.t 0)⟩
(.rd 6 ⟨(some 43), none, .mov (.t 9)⟩
(.rd 7 ⟨(some 44), none, .ibin .sub .i64 (.t 43) (.c (.int .i64 1))⟩
(.rd 8 ⟨(some 45), none, .iaddr 1 (.t 42) (.t 44)⟩
(.rd 9 ⟨(some 46), none, .load 1 false (.t 45)⟩
(.rd 10 ⟨(some 47), none, .mov (.t 0)⟩
(.rd 11 ⟨(some 48), none, .mov (.t 9)⟩
(.rd 12 ⟨(some 49), none, .iaddr 1 (.t 47) (.t 48)⟩
(.rd 13 ⟨(some 50), none, .load 1 false (.t 49)⟩
(.rd 14 ⟨(some 51), none, .iaddr 1 (.t 37) (.t 38)⟩
(.wr 15 ⟨none, none, .store 1 (.t 51) (.t 46)⟩ [14, 9, 0, 1, 5, 6, 7, 8, 9, 13]
(.rd 16 ⟨(some 52), none, .iaddr 1 (.t 39) (.t 41)⟩
(.wr 17 ⟨none, none, .store 1 (.t 52) (.t 50)⟩ [16, 13, 15, 0, 1, 2, 3, 4, 5, 6, 7, 8, 9, 10, 11, 12, 13, 14, 15]
.fin .no)) .no)))))))))))))))) (some [0, 1, 2, 3, 8, 9])))
(.ops [⟨(some 35), none, .mov (.t 9)⟩,
⟨(some 36), none, .ibin .sub .i64 (.t 35) (.c (.int .i64 1))⟩,
⟨(some 9), none, .mov (.t 36)⟩] (some [0, 1, 2, 3, 8, 9]))))))))
(.ops [⟨(some 15), none, .mov (.t 8)⟩,
⟨(some 16), none, .ibin .add .i64 (.t 15) (.c (.int .i64 1))⟩,
⟨(some 8), none, .mov (.t 16)⟩] (some [0, 1, 2, 3, 8])))))))⟩
/-- slices.symMergeCmpFunc[int] -/
def ir137 : IFn := ⟨220, [],
(.seq (.seq (.ops [⟨(some 25), none, .mov (.t 2)⟩,
⟨(some 26), none, .mov (.t 1)⟩,
⟨(some 27), none, .ibin .sub .i64 (.t 25) (.t 26)⟩,
⟨(some 28), none, .ibin .eql .i64 (.t 27) (.c (.int .i64 1))⟩] (some [0, 1, 2, 3, 4, 28]))
(.cond (.t 28)
(.seq (.ops [⟨(some 29), none, .mov (.t 2)⟩,
⟨(some 10), none, .mov (.t 29)⟩] (some [0, 1, 3, 4, 10]))
(.seq (.ops [⟨(some 30), none, .mov (.t 3)⟩,
⟨(some 11), none, .mov (.t 30)⟩] (some [0, 1, 4, 10, 11]))
(.seq (.block 0 (.loop (.seq (.seq (.ops [⟨(some 31), none, .mov (.t 10)⟩,
⟨(some 32), none, .mov (.t 11)⟩,
⟨(some 33), none, .ibin .lss .i64 (.t 31) (.t 32)⟩] (some [0, 1, 4, 10, 11, 33]))
(.cond (.t 33)
.skip
(.exit 0)))
(.block 1 (.seq (.ops [⟨(some 34), none, .mov (.t 10)⟩,
⟨(some 35), none, .mov (.t 11)⟩,
⟨(some 36), none, .ibin .add .i64 (.t 34) (.t 35)⟩,
⟨(some 37), none, .conv .u64 (.t 36)⟩,
⟨(some 38), none, .shift .shr .u64 (.t 37) (.c (.int .u64 1))⟩,
⟨(some 39), none, .conv .i64 (.t 38)⟩,
⟨(some 12), none, .mov (.t 39)⟩] (some [0, 1, 4, 10, 11, 12]))
(.seq (.draw (.rd 0 ⟨(some 40), none, .mov (.t 4)⟩
(.rd 1 ⟨(some 41), none, .mov (.t 0)⟩
(.rd 2 ⟨(some 42), none, .mov (.t 12)⟩
(.rd 3 ⟨(some 43), none, .iaddr 1 (.t 41) (.t 42)⟩
(.rd 4 ⟨(some 44), none, .load 1 false (.t 43)⟩
(.rd 5 ⟨(some 45), none, .mov (.t 0)⟩
(.rd 6 ⟨(some 46), none, .mov (.t 1)⟩
(.rd 7 ⟨(some 47), none, .iaddr 1 (.t 45) (.t 46)⟩
(.rd 8 ⟨(some 48), none, .load 1 false (.t 47)⟩
(.wr 9 ⟨(some 49), none, .callv (.t 40) [(.t 44), (.t 48)]⟩ [0, 4, 8]
(.rd 10 ⟨(some 50), none, .ibin .lss .i64 (.t 49) (.c (.int .i64 0))⟩
.fin) .no)))))))))) (some [0, 1, 4, 10, 11, 12, 50]))
(.cond (.t 50)
(.ops [⟨(some 51), none, .mov (.t 12)⟩,
⟨(some 52), none, .ibin .add .i64 (.t 51) (.c (.int .i64 1))⟩,
⟨(some 10), none, .mov (.t 52)⟩] (some [0, 1, 4, 10, 11]))
(.ops [⟨(some 53), none, .mov (.t 12)⟩,
⟨(some 11), none, .mov (.t 53)⟩] (some [0, 1, 4, 10, 11])))))))))
(.seq (.seq (.ops [⟨(some 54), none, .mov (.t 1)⟩,
⟨(some 13), none, .mov (.t 54)⟩] (some [0, 10, 13]))
(.block 2 (.loop (.seq (.seq (.ops [⟨(some 55), none, .mov (.t 13)⟩,
⟨(some 56), none, .mov (.t 10)⟩,
⟨(some 57), none, .ibin .sub .i64 (.t 56) (.c (.int .i64 1))⟩,
⟨(some 58), none, .ibin .lss .i64 (.t 55) (.t 57)⟩] (some [0, 10, 13, 58]))
(.cond (.t 58)
.skip
(.exit 2)))
(.seq (.block 3 (.draw (.rd 0 ⟨(some 61), none, .mov (.t 0)⟩
(.rd 1 ⟨(some 62), none, .mov (.t 13)⟩
(.rd 2 ⟨(some 63), none, .mov (.t 0)⟩
(.rd 3 ⟨(some 64), none, .mov (.t 13)⟩
(.rd 4 ⟨(some 65), none, .ibin .add .i64 (.t 64) (.c (.int .i64 1))⟩
(.rd 5 ⟨(some 66), none, .mov (.t 0)⟩
(.rd 6 ⟨(some 67), none, .mov (.t 13)⟩
(.rd 7 ⟨(some 68), none, .ibin .add .i64 (.t 67) (.c (.int .i64 1))⟩
(.rd 8 ⟨(some 69), none, .iaddr 1 (.t 66) (.t 68)⟩
(.rd 9 ⟨(some 70), none, .load 1 false (.t 69)⟩
(.rd 10 ⟨(some 71), none, .mov (.t 0)⟩
(.rd 11 ⟨(some 72), none, .mov (.t 13)⟩
(.rd 12 ⟨(some 73), none, .iaddr 1 (.t 71) (.t 72)⟩
(.rd 13 ⟨(some 74), none, .load 1 false (.t 73)⟩
(.rd 14 ⟨(some 75), none, .iaddr 1 (.t 61) (.t 62)⟩
(.wr 15 ⟨none, none, .store 1 (.t 75) (.t 70)⟩ [14, 9, 0, 1, 5, 6, 7, 8, 9, 13]
(.rd 16 ⟨(some 76), none, .iaddr 1 (.t 63) (.t 65)⟩
(.wr 17 ⟨none, none, .store 1 (.t 76) (.t 74)⟩ [16, 13, 15, 0, 1, 2, 3, 4, 5, 6, 7, 8, 9, 10, 11, 12, 13, 14, 15]
.fin .no)) .no)))))))))))))))) (some [0, 10, 13])))
(.ops [⟨(some 59), none, .mov (.t 13)⟩,
⟨(some 60), none, .ibin .add .i64 (.t 59) (.c (.int .i64 1))⟩,
⟨(some 13), none, .mov (.t 60)⟩] (some [0, 10, 13])))))))
.ret))))
.skip))
(.seq (.seq (.ops [⟨(some 77), none, .mov (.t 3)⟩,
⟨(some 78), none, .mov (.t 2)⟩,
⟨(some 79), none, .ibin .sub .i64 (.t 77) (.t 78)⟩,
⟨(some 80), none, .ibin .eql .i64 (.t 79) (.c (.int .i64 1))⟩] (some [0, 1, 2, 3, 4, 80]))
(.cond (.t 80)
(.seq (.ops [⟨(some 81), none, .mov (.t 1)⟩,
⟨(some 14), none, .mov (.t 81)⟩] (some [0, 2, 4, 14]))
(.seq (.ops [⟨(some 82), none, .mov (.t 2)⟩,
⟨(some 15), none, .mov (.t 82)⟩] (some [0, 2, 4, 14, 15]))
(.seq (.block 4 (.loop (.seq (.seq (.ops [⟨(some 83), none, .mov (.t 14)⟩,
⟨(some 84), none, .mov (.t 15)⟩,
⟨(some 85), none, .ibin .lss .i64 (.t 83) (.t 84)⟩] (some [0, 2, 4, 14, 15, 85]))
(.cond (.t 85)
.skip
(.exit 4)))
(.block 5 (.seq (.ops [⟨(some 86), none, .mov (.t 14)⟩,
⟨(some 87), none, .mov (.t 15)⟩,
⟨(some 88), none, .ibin .add .i64 (.t 86) (.t 87)⟩,
⟨(some 89), none, .conv .u64 (.t 88)⟩,
⟨(some 90), none, .shift .shr .u64 (.t 89) (.c (.int .u64 1))⟩,
⟨(some 91), none, .conv .i64 (.t 90)⟩,
⟨(some 16), none, .mov (.t 91)⟩] (some [0, 2, 4, 14, 15, 16]))
(.seq (.draw (.rd 0 ⟨(some 92), none, .mov (.t 4)⟩
(.rd 1 ⟨(some 93), none, .mov (.t 0)⟩
(.rd 2 ⟨(some 94), none, .mov (.t 2)⟩
(.rd 3 ⟨(some 95), none, .iaddr 1 (.t 93) (.t 94)⟩
(.rd 4 ⟨(some 96), none, .load 1 false (.t 95)⟩
(.rd 5 ⟨(some 97), none, .mov (.t 0)⟩
(.rd 6 ⟨(some 98), none, .mov (.t 16)⟩
(.rd 7 ⟨(some 99), none, .iaddr 1 (.t 97) (.t 98)⟩
(.rd 8 ⟨(some 100), none, .load 1 false (.t 99)⟩
(.wr 9 ⟨(some 101), none, .callv (.t 92) [(.t 96), (.t 100)]⟩ [0, 4, 8]
(.rd 10 ⟨(some 102), none, .ibin .lss .i64 (.t 101) (.c (.int .i64 0))⟩
(.rd 11 ⟨(some 103), none, .un .not (.t 102)⟩
.fin)) .no)))))))))) (some [0, 2, 4, 14, 15, 16, 103]))
(.cond (.t 103)
(.ops [⟨(some 104), none, .mov (.t 16)⟩,
⟨(some 105), none, .ibin .add .i64 (.t 104) (.c (.int .i64 1))⟩,
⟨(some 14), none, .mov (.t 105)⟩] (some [0, 2, 4, 14, 15]))
(.ops [⟨(some 106), none, .mov (.t 16)⟩,
⟨(some 15), none, .mov (.t 106)⟩] (some [0, 2, 4, 14, 15])))))))))
(.seq (.seq (.ops [⟨(some 107), none, .mov (.t 2)⟩,
⟨(some 17), none, .mov (.t 107)⟩] (some [0, 14, 17]))
(.block 6 (.loop (.seq (.seq (.ops [⟨(some 108), none, .mov (.t 17)⟩,
⟨(some 109), none, .mov (.t 14)⟩,
⟨(some 110), none, .ibin .gtr .i64 (.t 108) (.t 109)⟩] (some [0, 14, 17, 110]))
(.cond (.t 110)
.skip
(.exit 6)))
(.seq (.block 7 (.draw (.rd 0 ⟨(some 113), none, .mov (.t 0)⟩
(.rd 1 ⟨(some 114), none, .mov (.t 17)⟩
(.rd 2 ⟨(some 115), none, .mov (.t 0)⟩
(.rd 3 ⟨(some 116), none, .mov (.t 17)⟩
(.rd 4 ⟨(some 117), none, .ibin .sub .i64 (.t 116) (.c (.int .i64 1))⟩
(.rd 5 ⟨(some 118), none, .mov (.t 0)⟩
(.rd 6 ⟨(some 119), none, .mov (.t 17)⟩
(.rd 7 ⟨(some 120), none, .ibin .sub .i64 (.t 119) (.c (.int .i64 1))⟩
(.rd 8 ⟨(some 121), none, .iaddr 1 (.t 118) (.t 120)⟩
(.rd 9 ⟨(some 122), none, .load 1 false (.t 121)⟩
(.rd 10 ⟨(some 123), none, .mov (.t 0)⟩
(.rd 11 ⟨(some 124), none, .mov (.t 17)⟩
(.rd 12 ⟨(some 125), none, .iaddr 1 (.t 123) (.t 124)⟩
(.rd 13 ⟨(some 126), none, .load 1 false (.t 125)⟩
(.rd 14 ⟨(some 127), none, .iaddr 1 (.t 113) (.t 114)⟩
(.wr 15 ⟨none, none, .store 1 (.t 127) (.t 122)⟩ [14, 9, 0, 1, 5, 6, 7, 8, 9, 13]
(.rd 16 ⟨(some 128), none, .iaddr 1 (.t 115) (.t 117)⟩
(.wr 17 ⟨none, none, .store 1 (.t 128) (.t 126)⟩ [16, 13, 15, 0, 1, 2, 3, 4, 5, 6, 7, 8, 9, 10, 11, 12, 13, 14, 15]
.fin .no)) .no)))))))))))))))) (some [0, 14, 17])))
(.ops [⟨(some 111), none, .mov (.t 17)⟩,
⟨(some 112), none, .ibin .sub .i64 (.t 111) (.c (.int .i64 1))⟩,
⟨(some 17), none, .mov (.t 112)⟩] (some [0, 14, 17])))))))
.ret))))
.skip))
(.seq (.ops [⟨(some 129), none, .mov (.t 1)⟩,
⟨(some 130), none, .mov (.t 3)⟩,
⟨(some 131), none, .ibin .add .i64 (.t 129) (.t 130)⟩,
⟨(some 132), none, .conv .u64 (.t 131)⟩,
⟨(some 133), none, .shift .shr .u64 (.t 132) (.c (.int .u64 1))⟩,
⟨(some 134), none, .conv .i64 (.t 133)⟩,
⟨(some 18), none, .mov (.t 134)⟩] (some [0, 1, 2, 3, 4, 18]))
(.seq (.ops [⟨(some 135), none, .mov (.t 18)⟩,
⟨(some 136), none, .mov (.t 2)⟩,
⟨(some 137), none, .ibin .add .i64 (.t 135) (.t 136)⟩,
⟨(some 19), none, .mov (.t 137)⟩] (some [0, 1, 2, 3, 4, 18, 19]))
(.seq (.ops [⟨(some 20), none, .mov (.c (.int .i64 0))⟩,
⟨(some 21), none, .mov (.c (.int .i64 0))⟩] (some [0, 1, 2, 3, 4, 18, 19]))
(.seq (.seq (.ops [⟨(some 138), none, .mov (.t 2)⟩,
⟨(some 139), none, .mov (.t 18)⟩,
⟨(some 140), none, .ibin .gtr .i64 (.t 138) (.t 139)⟩] (some [0, 1, 2, 3, 4, 18, 19, 140]))
(.cond (.t 140)
(.seq (.ops [⟨(some 141), none, .mov (.t 19)⟩,
⟨(some 142), none, .mov (.t 3)⟩,
⟨(some 143), none, .ibin .sub .i64 (.t 141) (.t 142)⟩,
⟨(some 20), none, .mov (.t 143)⟩] (some [0, 1, 2, 3, 4, 18, 19, 20]))
(.ops [⟨(some 144), none, .mov (.t 18)⟩,
⟨(some 21), none, .mov (.t 144)⟩] (some [0, 1, 2, 3, 4, 18, 19, 20, 21])))
(.seq (.ops [⟨(some 145), none, .mov (.t 1)⟩,
⟨(some 20), none, .mov (.t 145)⟩] (some [0, 1, 2, 3, 4, 18, 19, 20]))
(.ops [⟨(some 146), none, .mov (.t 2)⟩,
⟨(some 21), none, .mov (.t 146)⟩] (some [0, 1, 2, 3, 4, 18, 19, 20, 21])))))
(.seq (.ops [⟨(some 147), none, .mov (.t 19)⟩,
⟨(some 148), none, .ibin .sub .i64 (.t 147) (.c (.int .i64 1))⟩,
⟨(some 22), none, .mov (.t 148)⟩] (some [0, 1, 2, 3, 4, 18, 19, 20, 21, 22]))
(.seq (.block 8 (.loop (.seq (.seq (.ops [⟨(some 149), none, .mov (.t 20)⟩,
⟨(some 150), none, .mov (.t 21)⟩,
⟨(some 151), none, .ibin .lss .i64 (.t 149) (.t 150)⟩] (some [0, 1, 2, 3, 4, 18, 19, 20, 21, 22, 151]))
(.cond (.t 151)
.skip
(.exit 8)))
(.block 9 (.seq (.ops [⟨(some 152), none, .mov (.t 20)⟩,
⟨(some 153), none, .mov (.t 21)⟩,
⟨(some 154), none, .ibin .add .i64 (.t 152) (.t 153)⟩,
⟨(some 155), none, .conv .u64 (.t 154)⟩,
⟨(some 156), none, .shift .shr .u64 (.t 155) (.c (.int .u64 1))⟩,
⟨(some 157), none, .conv .i64 (.t 156)⟩,
⟨(some 23), none, .mov (.t 157)⟩] (some [0, 1, 2, 3, 4, 18, 19, 20, 21, 22, 23]))
(.seq (.draw (.rd 0 ⟨(some 158), none, .mov (.t 4)⟩
(.rd 1 ⟨(some 159), none, .mov (.t 0)⟩
(.rd 2 ⟨(some 160), none, .mov (.t 22)⟩
(.rd 3 ⟨(some 161), none, .mov (.t 23)⟩
(.rd 4 ⟨(some 162), none, .ibin .sub .i64 (.t 160) (.t 161)⟩
(.rd 5 ⟨(some 163), none, .iaddr 1 (.t 159) (.t 162)⟩
(.rd 6 ⟨(some 164), none, .load 1 false (.t 163)⟩
(.rd 7 ⟨(some 165), none, .mov (.t 0)⟩
(.rd 8 ⟨(some 166), none, .mov (.t 23)⟩
(.rd 9 ⟨(some 167), none, .iaddr 1 (.t 165) (.t 166)⟩
(.rd 10 ⟨(some 168), none, .load 1 false (.t 167)⟩
(.wr 11 ⟨(some 169), none, .callv (.t 158) [(.t 164), (.t 168)]⟩ [0, 6, 10]
(.rd 12 ⟨(some 170), none, .ibin .lss .i64 (.t 169) (.c (.int .i64 0))⟩
(.rd 13 ⟨(some 171), none, .un .not (.t 170)⟩
.fin)) .no)))))))))))) (some [0, 1, 2, 3, 4, 18, 19, 20, 21, 22, 23, 171]))
(.cond (.t 171)
(.ops [⟨(some 172), none, .mov (.t 23)⟩,
⟨(some 173), none, .ibin .add .i64 (.t 172) (.c (.int .i64 1))⟩,
⟨(some 20), none, .mov (.t 173)⟩] (some [0, 1, 2, 3, 4, 18, 19, 20, 21, 22]))
(.ops [⟨(some 174), none, .mov (.t 23)⟩,
⟨(some 21), none, .mov (.t 174)⟩] (some [0, 1, 2, 3, 4, 18, 19, 20, 21, 22])))))))))
(.seq (.ops [⟨(some 175), none, .mov (.t 19)⟩,
⟨(some 176), none, .mov (.t 20)⟩,
⟨(some 177), none, .ibin .sub .i64 (.t 175) (.t 176)⟩,
⟨(some 24), none, .mov (.t 177)⟩] (some [0, 1, 2, 3, 4, 18, 20, 24]))
(.seq (.seq (.ops [⟨(some 178), none, .mov (.t 20)⟩,
⟨(some 179), none, .mov (.t 2)⟩,
⟨(some 180), none, .ibin .lss .i64 (.t 178) (.t 179)⟩,
⟨(some 181), none, .mov (.t 180)⟩,
⟨(some 182), (some (181, true)), .mov (.t 2)⟩,
⟨(some 183), (some (181, true)), .mov (.t 24)⟩,
⟨(some 184), (some (181, true)), .ibin .lss .i64 (.t 182) (.t 183)⟩,
⟨(some 185), none, .pick (.t 181) (.t 184) (.c (.bool false))⟩] (some [0, 1, 2, 3, 4, 18, 20, 24, 185]))
(.cond (.t 185)
(.ops [⟨(some 186), none, .mov (.t 0)⟩,
⟨(some 187), none, .mov (.t 20)⟩,
⟨(some 188), none, .mov (.t 2)⟩,
⟨(some 189), none, .mov (.t 24)⟩,
⟨(some 190), none, .mov (.t 4)⟩,
⟨(some 191), none, .call 144 [(.t 186), (.t 187), (.t 188), (.t 189), (.t 190)]⟩] (some [0, 1, 3, 4, 18, 20, 24]))
.skip))
(.seq (.seq (.ops [⟨(some 192), none, .mov (.t 1)⟩,
⟨(some 193), none, .mov (.t 20)⟩,
⟨(some 194), none, .ibin .lss .i64 (.t 192) (.t 193)⟩,
⟨(some 195), none, .mov (.t 194)⟩,
⟨(some 196), (some (195, true)), .mov (.t 20)⟩,
⟨(some 197), (some (195, true)), .mov (.t 18)⟩,
⟨(some 198), (some (195, true)), .ibin .lss .i64 (.t 196) (.t 197)⟩,
⟨(some 199), none, .pick (.t 195) (.t 198) (.c (.bool false))⟩] (some [0, 1, 3, 4, 18, 20, 24, 199]))
(.cond (.t 199)
(.ops [⟨(some 200), none, .mov (.t 0)⟩,
⟨(some 201), none, .mov (.t 1)⟩,
⟨(some 202), none, .mov (.t 20)⟩,
⟨(some 203), none, .mov (.t 18)⟩,
⟨(some 204), none, .mov (.t 4)⟩,
⟨(some 205), none, .call 137 [(.t 200), (.t 201), (.t 202), (.t 203), (.t 204)]⟩] (some [0, 3, 4, 18, 24]))
.skip))
(.seq (.ops [⟨(some 206), none, .mov (.t 18)⟩,
⟨(some 207), none, .mov (.t 24)⟩,
⟨(some 208), none, .ibin .lss .i64 (.t 206) (.t 207)⟩,
⟨(some 209), none, .mov (.t 208)⟩,
⟨(some 210), (some (209, true)), .mov (.t 24)⟩,
⟨(some 211), (some (209, true)), .mov (.t 3)⟩,
⟨(some 212), (some (209, true)), .ibin .lss .i64 (.t 210) (.t 211)⟩,
⟨(some 213), none, .pick (.t 209) (.t 212) (.c (.bool false))⟩] (some [0, 3, 4, 18, 24, 213]))
(.cond (.t 213)
(.ops [⟨(some 214), none, .mov (.t 0)⟩,
⟨(some 215), none, .mov (.t 18)⟩,
⟨(some 216), none, .mov (.t 24)⟩,
⟨(some 217), none, .mov (.t 3)⟩,
⟨(some 218), none, .mov (.t 4)⟩,
⟨(some 219), none, .call 137 [(.t 214), (.t 215), (.t 216), (.t 217), (.t 218)]⟩] (some []))
.skip)))))))))))))⟩
/-- slices.siftDownOrdered[int] -/
def ir139 : IFn := ⟨76, [],
(.seq (.ops [⟨(some 10), none, .mov (.t 1)⟩,
⟨(some 8), none, .mov (.t 10)⟩] (some [0, 2, 3, 8]))
(.block 0 (.loop (.block 1 (.seq (.ops [⟨(some 11), none, .mov (.t 8)⟩,
⟨(some 12), none, .ibin .mul .i64 (.c (.int .i64 2)) (.t 11)⟩,
⟨(some 13), none, .ibin .add .i64 (.t 12) (.c (.int .i64 1))⟩,
⟨(some 9), none, .mov (.t 13)⟩] (some [0, 2, 3, 8, 9]))
(.seq (.seq (.ops [⟨(some 14), none, .mov (.t 9)⟩,
⟨(some 15), none, .mov (.t 2)⟩,
⟨(some 16), none, .ibin .geq .i64 (.t 14) (.t 15)⟩] (some [0, 2, 3, 8, 9, 16]))
(.cond (.t 16)
(.exit 0)
.skip))
(.seq (.seq (.draw (.rd 0 ⟨(some 17), none, .mov (.t 9)⟩
(.rd 1 ⟨(some 18), none, .ibin .add .i64 (.t 17) (.c (.int .i64 1))⟩
(.rd 2 ⟨(some 19), none, .mov (.t 2)⟩
(.rd 3 ⟨(some 20), none, .ibin .lss .i64 (.t 18) (.t 19)⟩
(.rd 4 ⟨(some 21), none, .mov (.t 20)⟩
(.rd 5 ⟨(some 22), (some (21, true)), .mov (.t 0)⟩
(.rd 6 ⟨(some 23), (some (21, true)), .mov (.t 3)⟩
(.rd 7 ⟨(some 24), (some (21, true)), .mov (.t 9)⟩
(.rd 8 ⟨(some 25), (some (21, true)), .ibin .add .i64 (.t 23) (.t 24)⟩
(.rd 9 ⟨(some 26), (some (21, true)), .iaddr 1 (.t 22) (.t 25)⟩
(.rd 10 ⟨(some 27), (some (21, true)), .load 1 false (.t 26)⟩
(.rd 11 ⟨(some 28), (some (21, true)), .mov (.t 0)⟩
(.rd 12 ⟨(some 29), (some (21, true)), .mov (.t 3)⟩
(.rd 13 ⟨(some 30), (some (21, true)), .mov (.t 9)⟩
(.rd 14 ⟨(some 31), (some (21, true)), .ibin .add .i64 (.t 29) (.t 30)⟩
(.rd 15 ⟨(some 32), (some (21, true)), .ibin .add .i64 (.t 31) (.c (.int .i64 1))⟩
(.rd 16 ⟨(some 33), (some (21, true)), .iaddr 1 (.t 28) (.t 32)⟩
(.rd 17 ⟨(some 34), (some (21, true)), .load 1 false (.t 33)⟩
(.wr 18 ⟨(some 35), (some (21, true)), .call 122 [(.t 27), (.t 34)]⟩ [10, 17, 4, 4]
(.rd 19 ⟨(some 36), none, .pick (.t 21) (.t 35) (.c (.bool false))⟩
.fin) .no))))))))))))))))))) (some [0, 2, 3, 8, 9, 36]))
(.cond (.t 36)
(.ops [⟨(some 37), none, .mov (.t 9)⟩,
⟨(some 38), none, .ibin .add .i64 (.t 37) (.c (.int .i64 1))⟩,
⟨(some 9), none, .mov (.t 38)⟩] (some [0, 2, 3, 8, 9]))
.skip))
(.seq (.seq (.draw (.rd 0 ⟨(some 39), none, .mov (.t 0)⟩
(.rd 1 ⟨(some 40), none, .mov (.t 3)⟩
(.rd 2 ⟨(some 41), none, .mov (.t 8)⟩
(.rd 3 ⟨(some 42), none, .ibin .add .i64 (.t 40) (.t 41)⟩
(.rd 4 ⟨(some 43), none, .iaddr 1 (.t 39) (.t 42)⟩
(.rd 5 ⟨(some 44), none, .load 1 false (.t 43)⟩
(.rd 6 ⟨(some 45), none, .mov (.t 0)⟩
(.rd 7 ⟨(some 46), none, .mov (.t 3)⟩
(.rd 8 ⟨(some 47), none, .mov (.t 9)⟩
(.rd 9 ⟨(some 48), none, .ibin .add .i64 (.t 46) (.t 47)⟩
(.rd 10 ⟨(some 49), none, .iaddr 1 (.t 45) (.t 48)⟩
(.rd 11 ⟨(some 50), none, .load 1 false (.t 49)⟩
(.wr 12 ⟨(some 51), none, .call 122 [(.t 44), (.t 50)]⟩ [5, 11]
(.rd 13 ⟨(some 52), none, .un .not (.t 51)⟩
.fin) .no))))))))))))) (some [0, 2, 3, 8, 9, 52]))
(.cond (.t 52)
.ret
.skip))
(.seq (.draw (.rd 0 ⟨(some 53), none, .mov (.t 0)⟩
(.rd 1 ⟨(some 54), none, .mov (.t 3)⟩
(.rd 2 ⟨(some 55), none, .mov (.t 8)⟩
(.rd 3 ⟨(some 56), none, .ibin .add .i64 (.t 54) (.t 55)⟩
(.rd 4 ⟨(some 57), none, .mov (.t 0)⟩
(.rd 5 ⟨(some 58), none, .mov (.t 3)⟩
(.rd 6 ⟨(some 59), none, .mov (.t 9)⟩
(.rd 7 ⟨(some 60), none, .ibin .add .i64 (.t 58) (.t 59)⟩
(.rd 8 ⟨(some 61), none, .mov (.t 0)⟩
(.rd 9 ⟨(some 62), none, .mov (.t 3)⟩
(.rd 10 ⟨(some 63), none, .mov (.t 9)⟩
(.rd 11 ⟨(some 64), none, .ibin .add .i64 (.t 62) (.t 63)⟩
(.rd 12 ⟨(some 65), none, .iaddr 1 (.t 61) (.t 64)⟩
(.rd 13 ⟨(some 66), none, .load 1 false (.t 65)⟩
(.rd 14 ⟨(some 67), none, .mov (.t 0)⟩
(.rd 15 ⟨(some 68), none, .mov (.t 3)⟩
(.rd 16 ⟨(some 69), none, .mov (.t 8)⟩
(.rd 17 ⟨(some 70), none, .ibin .add .i64 (.t 68) (.t 69)⟩
(.rd 18 ⟨(some 71), none, .iaddr 1 (.t 67) (.t 70)⟩
(.rd 19 ⟨(some 72), none, .load 1 false (.t 71)⟩
(.rd 20 ⟨(some 73), none, .iaddr 1 (.t 53) (.t 56)⟩
(.wr 21 ⟨none, none, .store 1 (.t 73) (.t 66)⟩ [20, 13, 0, 1, 2, 3, 8, 9, 10, 11, 12, 13, 19]
(.rd 22 ⟨(some 74), none, .iaddr 1 (.t 57) (.t 60)⟩
(.wr 23 ⟨none, none, .store 1 (.t 74) (.t 72)⟩ [22, 19, 21, 0, 1, 2, 3, 4, 5, 6, 7, 8, 9, 10, 11, 12, 13, 14, 15, 16, 17, 18, 19, 20, 21]
.fin .no)) .no)))))))))))))))))))))) (some [0, 2, 3, 9]))
(.ops [⟨(some 75), none, .mov (.t 9)⟩,
⟨(some 8), none, .mov (.t 75)⟩] (some [0, 2, 3, 8])))))))))))⟩
/-- slices.nextPowerOfTwo -/
def ir140 : IFn := ⟨7, [.t 2],
(.seq (.ops [⟨(some 2), none, .mov (.c (.int .u64 0))⟩] (some [0]))
(.seq (.ops [⟨(some 3), none, .mov (.t 0)⟩,
⟨(some 4), none, .conv .u64 (.t 3)⟩,
⟨(some 5), none, .call 119 [(.t 4)]⟩,
⟨(some 6), none, .shift .shl .u64 (.c (.int .u64 1)) (.t 5)⟩,
⟨(some 2), none, .mov (.t 6)⟩] (some [2]))
.ret))⟩
/-- (*slices.xorshift).Next -/
def ir141 : IFn := ⟨33, [.t 2],
(.seq (.ops [⟨(some 2), none, .mov (.c (.int .u64 0))⟩] (some [0]))
(.seq (.draw (.rd 0 ⟨(some 3), none, .mov (.t 0)⟩
(.rd 1 ⟨(some 4), none, .nilchk (.t 3)⟩
(.rd 2 ⟨(some 5), none, .load 1 false (.t 4)⟩
(.rd 3 ⟨(some 6), none, .mov (.t 0)⟩
(.rd 4 ⟨(some 7), none, .nilchk (.t 6)⟩
(.rd 5 ⟨(some 8), none, .load 1 false (.t 7)⟩
(.rd 6 ⟨(some 9), none, .shift .shl .u64 (.t 8) (.c (.int .u64 13))⟩
(.rd 7 ⟨(some 10), none, .ibin .xor .u64 (.t 5) (.t 9)⟩
(.rd 8 ⟨(some 11), none, .nilchk (.t 3)⟩
(.wr 9 ⟨none, none, .store 1 (.t 11) (.t 10)⟩ [8, 7, 0, 1, 2, 3, 4, 5, 6, 7]
.fin .no)))))))))) (some [0]))
(.seq (.draw (.rd 0 ⟨(some 12), none, .mov (.t 0)⟩
(.rd 1 ⟨(some 13), none, .nilchk (.t 12)⟩
(.rd 2 ⟨(some 14), none, .load 1 false (.t 13)⟩
(.rd 3 ⟨(some 15), none, .mov (.t 0)⟩
(.rd 4 ⟨(some 16), none, .nilchk (.t 15)⟩
(.rd 5 ⟨(some 17), none, .load 1 false (.t 16)⟩
(.rd 6 ⟨(some 18), none, .shift .shr .u64 (.t 17) (.c (.int .u64 7))⟩
(.rd 7 ⟨(some 19), none, .ibin .xor .u64 (.t 14) (.t 18)⟩
(.rd 8 ⟨(some 20), none, .nilchk (.t 12)⟩
(.wr 9 ⟨none, none, .store 1 (.t 20) (.t 19)⟩ [8, 7, 0, 1, 2, 3, 4, 5, 6, 7]
.fin .no)))))))))) (some [0]))
(.seq (.draw (.rd 0 ⟨(some 21), none, .mov (.t 0)⟩
(.rd 1 ⟨(some 22), none, .nilchk (.t 21)⟩
(.rd 2 ⟨(some 23), none, .load 1 false (.t 22)⟩
(.rd 3 ⟨(some 24), none, .mov (.t 0)⟩
(.rd 4 ⟨(some 25), none, .nilchk (.t 24)⟩
(.rd 5 ⟨(some 26), none, .load 1 false (.t 25)⟩
(.rd 6 ⟨(some 27), none, .shift .shl .u64 (.t 26) (.c (.int .u64 17))⟩
(.rd 7 ⟨(some 28), none, .ibin .xor .u64 (.t 23) (.t 27)⟩
(.rd 8 ⟨(some 29), none, .nilchk (.t 21)⟩
(.wr 9 ⟨none, none, .store 1 (.t 29) (.t 28)⟩ [8, 7, 0, 1, 2, 3, 4, 5, 6, 7]
.fin .no)))))))))) (some [0]))
(.seq (.ops [⟨(some 30), none, .mov (.t 0)⟩,
⟨(some 31), none, .nilchk (.t 30)⟩,
⟨(some 32), none, .load 1 false (.t 31)⟩,
⟨(some 2), none, .mov (.t 32)⟩] (some [2]))
.ret)))))⟩
/-- slices.medianAdjacentOrdered[int] -/
def ir142 : IFn := ⟨15, [.t 6],
(.seq (.ops [⟨(some 6), none, .mov (.c (.int .i64 0))⟩] (some [0, 1, 2]))
(.seq (.ops [⟨(some 7), none, .mov (.t 0)⟩,
⟨(some 8), none, .mov (.t 1)⟩,
⟨(some 9), none, .ibin .sub .i64 (.t 8) (.c (.int .i64 1))⟩,
⟨(some 10), none, .mov (.t 1)⟩,
⟨(some 11), none, .mov (.t 1)⟩,
⟨(some 12), none, .ibin .add .i64 (.t 11) (.c (.int .i64 1))⟩,
⟨(some 13), none, .mov (.t 2)⟩,
⟨(some 14), none, .call 143 [(.t 7), (.t 9), (.t 10), (.t 12), (.t 13)]⟩,
⟨(some 6), none, .mov (.t 14)⟩] (some [6]))
.ret))⟩
/-- slices.medianOrdered[int] -/
def ir143 : IFn := ⟨36, [.t 10],
(.seq (.ops [⟨(some 10), none, .mov (.c (.int .i64 0))⟩] (some [0, 1, 2, 3, 4]))
(.seq (.ops [⟨(some 12), none, .mov (.t 0)⟩,
⟨(some 13), none, .mov (.t 1)⟩,
⟨(some 14), none, .mov (.t 2)⟩,
⟨(some 15), none, .mov (.t 4)⟩,
⟨(some 16), none, .call 146 [(.t 12), (.t 13), (.t 14), (.t 15)]⟩,
⟨(some 11), none, .mov (.t 16)⟩,
⟨(some 17), none, .extract 0 (.t 11)⟩,
⟨(some 18), none, .extract 1 (.t 11)⟩,
⟨(some 1), none, .mov (.t 17)⟩,
⟨(some 2), none, .mov (.t 18)⟩] (some [0, 1, 2, 3, 4]))
(.seq (.ops [⟨(some 20), none, .mov (.t 0)⟩,
⟨(some 21), none, .mov (.t 2)⟩,
⟨(some 22), none, .mov (.t 3)⟩,
⟨(some 23), none, .mov (.t 4)⟩,
⟨(some 24), none, .call 146 [(.t 20), (.t 21), (.t 22), (.t 23)]⟩,
⟨(some 19), none, .mov (.t 24)⟩,
⟨(some 25), none, .extract 0 (.t 19)⟩,
⟨(some 26), none, .extract 1 (.t 19)⟩,
⟨(some 2), none, .mov (.t 25)⟩,
⟨(some 3), none, .mov (.t 26)⟩] (some [0, 1, 2, 4]))
(.seq (.ops [⟨(some 28), none, .mov (.t 0)⟩,
⟨(some 29), none, .mov (.t 1)⟩,
⟨(some 30), none, .mov (.t 2)⟩,
⟨(some 31), none, .mov (.t 4)⟩,
⟨(some 32), none, .call 146 [(.t 28), (.t 29), (.t 30), (.t 31)]⟩,
⟨(some 27), none, .mov (.t 32)⟩,
⟨(some 33), none, .extract 0 (.t 27)⟩,
⟨(some 34), none, .extract 1 (.t 27)⟩,
⟨(some 1), none, .mov (.t 33)⟩,
⟨(some 2), none, .mov (.t 34)⟩] (some [2]))
(.seq (.ops [⟨(some 35), none, .mov (.t 2)⟩,
⟨(some 10), none, .mov (.t 35)⟩] (some [10]))
.ret)))))⟩
/-- slices.rotateCmpFunc[int] -/
def ir144 : IFn := ⟨58, [],
(.seq (.ops [⟨(some 12), none, .mov (.t 2)⟩,
⟨(some 13), none, .mov (.t 1)⟩,
⟨(some 14), none, .ibin .sub .i64 (.t 12) (.t 13)⟩,
⟨(some 10), none, .mov (.t 14)⟩] (some [0, 2, 3, 4, 10]))
(.seq (.ops [⟨(some 15), none, .mov (.t 3)⟩,
⟨(some 16), none, .mov (.t 2)⟩,
⟨(some 17), none, .ibin .sub .i64 (.t 15) (.t 16)⟩,
⟨(some 11), none, .mov (.t 17)⟩] (some [0, 2, 4, 10, 11]))
(.seq (.block 0 (.loop (.seq (.seq (.ops [⟨(some 18), none, .mov (.t 10)⟩,
⟨(some 19), none, .mov (.t 11)⟩,
⟨(some 20), none, .ibin .neq .i64 (.t 18) (.t 19)⟩] (some [0, 2, 4, 10, 11, 20]))
(.cond (.t 20)
.skip
(.exit 0)))
(.block 1 (.seq (.ops [⟨(some 21), none, .mov (.t 10)⟩,
⟨(some 22), none, .mov (.t 11)⟩,
⟨(some 23), none, .ibin .gtr .i64 (.t 21) (.t 22)⟩] (some [0, 2, 4, 10, 11, 23]))
(.cond (.t 23)
(.seq (.ops [⟨(some 24), none, .mov (.t 0)⟩,
⟨(some 25), none, .mov (.t 2)⟩,
⟨(some 26), none, .mov (.t 10)⟩,
⟨(some 27), none, .ibin .sub .i64 (.t 25) (.t 26)⟩,
⟨(some 28), none, .mov (.t 2)⟩,
⟨(some 29), none, .mov (.t 11)⟩,
⟨(some 30), none, .mov (.t 4)⟩,
⟨(some 31), none, .call 147 [(.t 24), (.t 27), (.t 28), (.t 29), (.t 30)]⟩] (some [0, 2, 4, 10, 11]))
(.ops [⟨(some 32), none, .mov (.t 10)⟩,
⟨(some 33), none, .mov (.t 11)⟩,
⟨(some 34), none, .ibin .sub .i64 (.t 32) (.t 33)⟩,
⟨(some 10), none, .mov (.t 34)⟩] (some [0, 2, 4, 10, 11])))
(.seq (.ops [⟨(some 35), none, .mov (.t 0)⟩,
⟨(some 36), none, .mov (.t 2)⟩,
⟨(some 37), none, .mov (.t 10)⟩,
⟨(some 38), none, .ibin .sub .i64 (.t 36) (.t 37)⟩,
⟨(some 39), none, .mov (.t 2)⟩,
⟨(some 40), none, .mov (.t 11)⟩,
⟨(some 41), none, .ibin .add .i64 (.t 39) (.t 40)⟩,
⟨(some 42), none, .mov (.t 10)⟩,
⟨(some 43), none, .ibin .sub .i64 (.t 41) (.t 42)⟩,
⟨(some 44), none, .mov (.t 10)⟩,
⟨(some 45), none, .mov (.t 4)⟩,
⟨(some 46), none, .call 147 [(.t 35), (.t 38), (.t 43), (.t 44), (.t 45)]⟩] (some [0, 2, 4, 10, 11]))
(.ops [⟨(some 47), none, .mov (.t 11)⟩,
⟨(some 48), none, .mov (.t 10)⟩,
⟨(some 49), none, .ibin .sub .i64 (.t 47) (.t 48)⟩,
⟨(some 11), none, .mov (.t 49)⟩] (some [0, 2, 4, 10, 11])))))))))
(.ops [⟨(some 50), none, .mov (.t 0)⟩,
⟨(some 51), none, .mov (.t 2)⟩,
⟨(some 52), none, .mov (.t 10)⟩,
⟨(some 53), none, .ibin .sub .i64 (.t 51) (.t 52)⟩,
⟨(some 54), none, .mov (.t 2)⟩,
⟨(some 55), none, .mov (.t 10)⟩,
⟨(some 56), none, .mov (.t 4)⟩,
⟨(some 57), none, .call 147 [(.t 50), (.t 53), (.t 54), (.t 55), (.t 56)]⟩] (some [])))))⟩
/-- slices.order2Ordered[int] -/
def ir146 : IFn := ⟨28, [.t 8, .t 9],
(.seq (.ops [⟨(some 8), none, .mov (.c (.int .i64 0))⟩,
⟨(some 9), none, .mov (.c (.int .i64 0))⟩] (some [0, 1, 2, 3]))
(.seq (.seq (.draw (.rd 0 ⟨(some 10), none, .mov (.t 0)⟩
(.rd 1 ⟨(some 11), none, .mov (.t 2)⟩
(.rd 2 ⟨(some 12), none, .iaddr 1 (.t 10) (.t 11)⟩
(.rd 3 ⟨(some 13), none, .load 1 false (.t 12)⟩
(.rd 4 ⟨(some 14), none, .mov (.t 0)⟩
(.rd 5 ⟨(some 15), none, .mov (.t 1)⟩
(.rd 6 ⟨(some 16), none, .iaddr 1 (.t 14) (.t 15)⟩
(.rd 7 ⟨(some 17), none, .load 1 false (.t 16)⟩
(.wr 8 ⟨(some 18), none, .call 122 [(.t 13), (.t 17)]⟩ [3, 7]
.fin .no))))))))) (some [1, 2, 3, 18]))
(.cond (.t 18)
(.seq (.ops [⟨(some 19), none, .mov (.t 3)⟩,
⟨(some 20), none, .nilchk (.t 19)⟩,
⟨(some 21), none, .load 1 false (.t 20)⟩,
⟨(some 22), none, .ibin .add .i64 (.t 21) (.c (.int .i64 1))⟩,
⟨(some 23), none, .nilchk (.t 19)⟩,
⟨none, none, .store 1 (.t 23) (.t 22)⟩] (some [1, 2]))
(.seq (.ops [⟨(some 24), none, .mov (.t 2)⟩,
⟨(some 25), none, .mov (.t 1)⟩,
⟨(some 8), none, .mov (.t 24)⟩,
⟨(some 9), none, .mov (.t 25)⟩] (some [8, 9]))
.ret))
.skip))
(.seq (.ops [⟨(some 26), none, .mov (.t 1)⟩,
⟨(some 27), none, .mov (.t 2)⟩,
⟨(some 8), none, .mov (.t 26)⟩,
⟨(some 9), none, .mov (.t 27)⟩] (some [8, 9]))
.ret)))⟩
/-- slices.swapRangeCmpFunc[int] -/
def ir147 : IFn := ⟨38, [],
(.seq (.ops [⟨(some 10), none, .mov (.c (.int .i64 0))⟩] none)
(.block 0 (.loop (.seq (.seq (.ops [⟨(some 11), none, .mov (.t 10)⟩,
⟨(some 12), none, .mov (.t 3)⟩,
⟨(some 13), none, .ibin .lss .i64 (.t 11) (.t 12)⟩] (some [0, 1, 2, 3, 10, 13]))
(.cond (.t 13)
.skip
(.exit 0)))
(.seq (.block 1 (.draw (.rd 0 ⟨(some 16), none, .mov (.t 0)⟩
(.rd 1 ⟨(some 17), none, .mov (.t 1)⟩
(.rd 2 ⟨(some 18), none, .mov (.t 10)⟩
(.rd 3 ⟨(some 19), none, .ibin .add .i64 (.t 17) (.t 18)⟩
(.rd 4 ⟨(some 20), none, .mov (.t 0)⟩
(.rd 5 ⟨(some 21), none, .mov (.t 2)⟩
(.rd 6 ⟨(some 22), none, .mov (.t 10)⟩
(.rd 7 ⟨(some 23), none, .ibin .add .i64 (.t 21) (.t 22)⟩
(.rd 8 ⟨(some 24), none, .mov (.t 0)⟩
(.rd 9 ⟨(some 25), none, .mov (.t 2)⟩
(.rd 10 ⟨(some 26), none, .mov (.t 10)⟩
(.rd 11 ⟨(some 27), none, .ibin .add .i64 (.t 25) (.t 26)⟩
(.rd 12 ⟨(some 28), none, .iaddr 1 (.t 24) (.t 27)⟩
(.rd 13 ⟨(some 29), none, .load 1 false (.t 28)⟩
(.rd 14 ⟨(some 30), none, .mov (.t 0)⟩
(.rd 15 ⟨(some 31), none, .mov (.t 1)⟩
(.rd 16 ⟨(some 32), none, .mov (.t 10)⟩
(.rd 17 ⟨(some 33), none, .ibin .add .i64 (.t 31) (.t 32)⟩
(.rd 18 ⟨(some 34), none, .iaddr 1 (.t 30) (.t 33)⟩
(.rd 19 ⟨(some 35), none, .load 1 false (.t 34)⟩
(.rd 20 ⟨(some 36), none, .iaddr 1 (.t 16) (.t 19)⟩
(.wr 21 ⟨none, none, .store 1 (.t 36) (.t 29)⟩ [20, 13, 0, 1, 2, 3, 8, 9, 10, 11, 12, 13, 19]
(.rd 22 ⟨(some 37), none, .iaddr 1 (.t 20) (.t 23)⟩
(.wr 23 ⟨none, none, .store 1 (.t 37) (.t 35)⟩ [22, 19, 21, 0, 1, 2, 3, 4, 5, 6, 7, 8, 9, 10, 11, 12, 13, 14, 15, 16, 17, 18, 19, 20, 21]
.fin .no)) .no)))))))))))))))))))))) (some [0, 1, 2, 3, 10])))
(.ops [⟨(some 14), none, .mov (.t 10)⟩,
⟨(some 15), none, .ibin .add .i64 (.t 14) (.c (.int .i64 1))⟩,
⟨(some 10), none, .mov (.t 15)⟩] (some [0, 1, 2, 3, 10])))))))⟩
/-- guidevane/guidevanelaw08.DispatchActivations -/
def ir196 : IFn := ⟨114, [.t 6],
(.seq (.ops [⟨(some 3), none, .box (.t 0)⟩,
⟨(some 6), none, .mov (.c (.bool false))⟩] (some [1, 2, 3]))
(.seq (.seq (.ops [⟨(some 13), none, .call 198 []⟩,
⟨(some 14), none, .un .not (.t 13)⟩] (some [1, 2, 3, 14]))
(.cond (.t 14)
(.seq (.ops [⟨(some 6), none, .mov (.c (.bool false))⟩] none)
.ret)
.skip))
(.seq (.seq (.ops [⟨(some 15), none, .mov (.t 1)⟩,
⟨(some 16), none, .call 199 [(.t 15)]⟩,
⟨(some 17), none, .un .not (.t 16)⟩,
⟨(some 18), none, .mov (.t 17)⟩,
⟨(some 19), (some (18, false)), .mov (.t 2)⟩,
⟨(some 20), (some (18, false)), .call 199 [(.t 19)]⟩,
⟨(some 21), (some (18, false)), .un .not (.t 20)⟩,
⟨(some 22), none, .pick (.t 18) (.c (.bool true)) (.t 21)⟩] (some [1, 2, 3, 22]))
(.cond (.t 22)
(.seq (.ops [⟨(some 6), none, .mov (.c (.bool true))⟩] none)
.ret)
.skip))
(.seq (.draw (.rd 0 ⟨(some 24), none, .faddr 0 (.t 3)⟩
(.rd 1 ⟨(some 25), none, .load 1 false (.t 24)⟩
(.rd 2 ⟨(some 26), none, .faddr 1 (.t 3)⟩
(.rd 3 ⟨(some 27), none, .load 1 false (.t 26)⟩
(.rd 4 ⟨(some 28), none, .mov (.t 1)⟩
(.wr 5 ⟨(some 29), none, .call 38 [(.t 28)]⟩ [4]
(.wr 6 ⟨(some 30), none, .call 200 [(.t 25), (.t 27), (.t 29)]⟩ [1, 3, 5, 5]
(.rd 7 ⟨(some 23), none, .mov (.t 30)⟩
(.rd 8 ⟨(some 31), none, .extract 0 (.t 23)⟩
(.rd 9 ⟨(some 32), none, .extract 1 (.t 23)⟩
(.rd 10 ⟨(some 7), none, .mov (.t 31)⟩
(.rd 11 ⟨(some 8), none, .mov (.t 32)⟩
.fin))))) .no) .no)))))) (some [1, 2, 3, 7, 8]))
(.seq (.ops [⟨(some 34), none, .mov (.t 1)⟩,
⟨(some 35), none, .call 38 [(.t 34)]⟩,
⟨(some 36), none, .mov (.t 2)⟩,
⟨(some 37), none, .call 38 [(.t 36)]⟩,
⟨(some 38), none, .call 201 [(.t 35), (.t 37)]⟩,
⟨(some 33), none, .mov (.t 38)⟩,
⟨(some 39), none, .extract 0 (.t 33)⟩,
⟨(some 40), none, .extract 1 (.t 33)⟩,
⟨(some 9), none, .alloc [(.int .i64 0), (.int .i64 0), (.int .i64 0)]⟩,
⟨none, none, .store 3 (.t 9) (.t 39)⟩,
⟨(some 10), none, .mov (.t 40)⟩] (some [1, 2, 3, 7, 8, 9, 10]))
(.seq (.ops [⟨(some 41), none, .faddr 0 (.t 3)⟩,
⟨(some 42), none, .load 1 false (.t 41)⟩,
⟨(some 43), none, .faddr 1 (.t 3)⟩,
⟨(some 44), none, .load 1 false (.t 43)⟩,
⟨(some 45), none, .call 202 [(.t 42), (.t 44)]⟩,
⟨(some 11), none, .mov (.t 45)⟩] (some [1, 2, 3, 7, 8, 9, 10, 11]))
(.seq (.ops [⟨(some 46), none, .mov (.t 1)⟩,
⟨(some 47), none, .call 203 [(.t 46)]⟩,
⟨(some 12), none, .mov (.t 47)⟩] (some [1, 2, 3, 7, 8, 9, 10, 11, 12]))
(.seq (.seq (.ops [⟨(some 48), none, .mov (.t 11)⟩,
⟨(some 49), none, .ibin .eql .i64 (.t 48) (.c (.int .i64 0))⟩] (some [1, 2, 3, 7, 8, 9, 10, 11, 12, 49]))
(.cond (.t 49)
(.ops [⟨(some 50), none, .mov (.t 12)⟩,
⟨(some 11), none, .mov (.t 50)⟩] (some [1, 2, 3, 7, 8, 9, 10, 11, 12]))
.skip))
(.seq (.seq (.ops [⟨(some 51), none, .mov (.t 11)⟩,
⟨(some 52), none, .ibin .neq .i64 (.t 51) (.c (.int .i64 0))⟩,
⟨(some 53), none, .mov (.t 52)⟩,
⟨(some 54), (some (53, true)), .mov (.t 8)⟩,
⟨(some 55), (some (53, true)), .mov (.t 11)⟩,
⟨(some 56), (some (53, true)), .ibin .neq .i64 (.t 54) (.t 55)⟩,
⟨(some 57), (some (53, true)), .mov (.t 56)⟩,
⟨(some 58), (some (57, false)), .mov (.t 7)⟩,
⟨(some 59), (some (57, false)), .lenV (.t 58)⟩,
⟨(some 60), (some (57, false)), .ibin .neq .i64 (.t 59) (.c (.int .i64 0))⟩,
⟨(some 61), (some (53, true)), .pick (.t 57) (.c (.bool true)) (.t 60)⟩,
⟨(some 62), none, .pick (.t 53) (.t 61) (.c (.bool false))⟩,
⟨(some 63), none, .mov (.t 62)⟩,
⟨(some 64), (some (63, false)), .mov (.t 11)⟩,
⟨(some 65), (some (63, false)), .ibin .eql .i64 (.t 64) (.c (.int .i64 0))⟩,
⟨(some 66), (some (63, false)), .mov (.t 65)⟩,
⟨(some 67), (some (66, true)), .mov (.t 8)⟩,
⟨(some 68), (some (66, true)), .ibin .neq .i64 (.t 67) (.c (.int .i64 0))⟩,
⟨(some 69), (some (66, true)), .mov (.t 68)⟩,
⟨(some 70), (some (69, false)), .mov (.t 7)⟩,
⟨(some 71), (some (69, false)), .faddr 0 (.t 3)⟩,
⟨(some 72), (some (69, false)), .load 1 false (.t 71)⟩,
⟨(some 73), (some (69, false)), .faddr 1 (.t 3)⟩,
⟨(some 74), (some (69, false)), .load 1 false (.t 73)⟩,
⟨(some 75), (some (69, false)), .mov (.t 1)⟩,
⟨(some 76), (some (69, false)), .call 204 [(.t 72), (.t 74), (.t 75)]⟩,
⟨(some 77), (some (69, false)), .call 26 [(.t 70), (.t 76)]⟩,
⟨(some 78), (some (69, false)), .un .not (.t 77)⟩,
⟨(some 79), (some (66, true)), .pick (.t 69) (.c (.bool true)) (.t 78)⟩,
⟨(some 80), (some (63, false)), .pick (.t 66) (.t 79) (.c (.bool false))⟩,
⟨(some 81), none, .pick (.t 63) (.c (.bool true)) (.t 80)⟩] (some [1, 2, 9, 10, 12, 81]))
(.cond (.t 81)
(.seq (.ops [⟨(some 6), none, .mov (.c (.bool false))⟩] none)
.ret)
.skip))
(.seq (.seq (.ops [⟨(some 82), none, .mov (.t 12)⟩,
⟨(some 83), none, .ibin .eql .i64 (.t 82) (.c (.int .i64 0))⟩] (some [1, 2, 9, 10, 12, 83]))
(.cond (.t 83)
(.ops [⟨(some 84), none, .mov (.t 2)⟩,
⟨(some 85), none, .call 203 [(.t 84)]⟩,
⟨(some 12), none, .mov (.t 85)⟩] (some [1, 2, 9, 10, 12]))
.skip))
(.seq (.seq (.ops [⟨(some 86), none, .mov (.t 12)⟩,
⟨(some 87), none, .ibin .eql .i64 (.t 86) (.c (.int .i64 0))⟩,
⟨(some 88), none, .mov (.t 87)⟩,
⟨(some 89), (some (88, true)), .mov (.t 1)⟩,
⟨(some 90), (some (88, true)), .lenV (.t 89)⟩,
⟨(some 91), (some (88, true)), .mov (.t 2)⟩,
⟨(some 92), (some (88, true)), .lenV (.t 91)⟩,
⟨(some 93), (some (88, true)), .ibin .neq .i64 (.t 90) (.t 92)⟩,
⟨(some 94), none, .pick (.t 88) (.t 93) (.c (.bool false))⟩] (some [1, 2, 9, 10, 12, 94]))
(.cond (.t 94)
(.ops [⟨(some 12), none, .mov (.c (.int .i64 10))⟩] none)
.skip))
(.seq (.seq (.ops [⟨(some 95), none, .mov (.t 12)⟩,
⟨(some 96), none, .ibin .neq .i64 (.t 95) (.c (.int .i64 0))⟩] (some [1, 2, 9, 10, 12, 96]))
(.cond (.t 96)
(.seq (.ops [⟨(some 97), none, .mov (.t 10)⟩,
⟨(some 98), none, .mov (.t 12)⟩,
⟨(some 99), none, .ibin .eql .i64 (.t 97) (.t 98)⟩,
⟨(some 100), none, .mov (.t 99)⟩,
⟨(some 101), (some (100, true)), .load 3 true (.t 9)⟩,
⟨(some 102), (some (100, true)), .build [(.int .i64 0), (.int .i64 0), (.int .i64 0)] []⟩,
⟨(some 103), (some (100, true)), .eqv (.fld 0 1 (.int .i64) (.fld 1 1 (.int .i64) (.fld 2 1 (.int .i64) .nil))) false (.t 101) (.t 102)⟩,
⟨(some 104), none, .pick (.t 100) (.t 103) (.c (.bool false))⟩,
⟨(some 6), none, .mov (.t 104)⟩] (some [6]))
.ret)
.skip))
(.seq (.draw (.rd 0 ⟨(some 105), none, .mov (.t 10)⟩
(.rd 1 ⟨(some 106), none, .ibin .eql .i64 (.t 105) (.c (.int .i64 0))⟩
(.rd 2 ⟨(some 107), none, .mov (.t 106)⟩
(.rd 3 ⟨(some 108), (some (107, true)), .load 3 true (.t 9)⟩
(.rd 4 ⟨(some 109), (some (107, true)), .mov (.t 1)⟩
(.rd 5 ⟨(some 110), (some (107, true)), .mov (.t 2)⟩
(.wr 6 ⟨(some 111), (some (107, true)), .call 205 [(.t 109), (.t 110)]⟩ [4, 5, 2, 2]
(.rd 7 ⟨(some 112), (some (107, true)), .eqv (.fld 0 1 (.int .i64) (.fld 1 1 (.int .i64) (.fld 2 1 (.int .i64) .nil))) false (.t 108) (.t 111)⟩
(.rd 8 ⟨(some 113), none, .pick (.t 107) (.t 112) (.c (.bool false))⟩
(.rd 9 ⟨(some 6), none, .mov (.t 113)⟩
.fin))) .no))))))) (some [6]))
.ret)))))))))))))⟩
/-- guidevane/guidevanelaw08.DispatchSums -/
def ir197 : IFn := ⟨318, [.t 6],
(.seq (.ops [⟨(some 3), none, .box (.t 0)⟩,
⟨(some 6), none, .mov (.c (.bool false))⟩] (some [1, 2, 3]))
(.seq (.seq (.ops [⟨(some 26), none, .call 198 []⟩,
⟨(some 27), none, .un .not (.t 26)⟩] (some [1, 2, 3, 27]))
(.cond (.t 27)
(.seq (.ops [⟨(some 6), none, .mov (.c (.bool false))⟩] none)
.ret)
.skip))
(.seq (.seq (.ops [⟨(some 28), none, .mov (.t 1)⟩,
⟨(some 29), none, .lenV (.t 28)⟩,
⟨(some 30), none, .ibin .gtr .i64 (.t 29) (.c (.int .i64 80))⟩,
⟨(some 31), none, .mov (.t 30)⟩,
⟨(some 32), (some (31, false)), .mov (.t 2)⟩,
⟨(some 33), (some (31, false)), .lenV (.t 32)⟩,
⟨(some 34), (some (31, false)), .mov (.t 1)⟩,
⟨(some 35), (some (31, false)), .lenV (.t 34)⟩,
⟨(some 36), (some (31, false)), .ibin .neq .i64 (.t 33) (.t 35)⟩,
⟨(some 37), none, .pick (.t 31) (.c (.bool true)) (.t 36)⟩,
⟨(some 38), none, .mov (.t 37)⟩,
⟨(some 39), (some (38, false)), .mov (.t 1)⟩,
⟨(some 40), (some (38, false)), .call 203 [(.t 39)]⟩,
⟨(some 41), (some (38, false)), .ibin .neq .i64 (.t 40) (.c (.int .i64 0))⟩,
⟨(some 42), none, .pick (.t 38) (.c (.bool true)) (.t 41)⟩,
⟨(some 43), none, .mov (.t 42)⟩,
⟨(some 44), (some (43, false)), .mov (.t 2)⟩,
⟨(some 45), (some (43, false)), .call 203 [(.t 44)]⟩,
⟨(some 46), (some (43, false)), .ibin .neq .i64 (.t 45) (.c (.int .i64 0))⟩,
⟨(some 47), none, .pick (.t 43) (.c (.bool true)) (.t 46)⟩,
⟨(some 48), none, .mov (.t 47)⟩,
⟨(some 49), (some (48, false)), .faddr 0 (.t 3)⟩,
⟨(some 50), (some (48, false)), .load 1 false (.t 49)⟩,
⟨(some 51), (some (48, false)), .faddr 1 (.t 3)⟩,
⟨(some 52), (some (48, false)), .load 1 false (.t 51)⟩,
⟨(some 53), (some (48, false)), .call 202 [(.t 50), (.t 52)]⟩,
⟨(some 54), (some (48, false)), .ibin .neq .i64 (.t 53) (.c (.int .i64 0))⟩,
⟨(some 55), none, .pick (.t 48) (.c (.bool true)) (.t 54)⟩] (some [1, 2, 3, 55]))
(.cond (.t 55)
(.seq (.ops [⟨(some 6), none, .mov (.c (.bool true))⟩] none)
.ret)
.skip))
(.seq (.ops [⟨(some 57), none, .mov (.t 1)⟩,
⟨(some 58), none, .call 38 [(.t 57)]⟩,
⟨(some 59), none, .mov (.t 2)⟩,
⟨(some 60), none, .call 38 [(.t 59)]⟩,
⟨(some 61), none, .call 201 [(.t 58), (.t 60)]⟩,
⟨(some 56), none, .mov (.t 61)⟩,
⟨(some 62), none, .extract 0 (.t 56)⟩,
⟨(some 63), none, .extract 1 (.t 56)⟩,
⟨(some 7), none, .alloc [(.int .i64 0), (.int .i64 0), (.int .i64 0)]⟩,
⟨none, none, .store 3 (.t 7) (.t 62)⟩,
⟨(some 8), none, .mov (.t 63)⟩] (some [1, 2, 3, 7, 8]))
(.seq (.ops [⟨(some 64), none, .mov (.t 1)⟩,
⟨(some 65), none, .lenV (.t 64)⟩,
⟨(some 66), none, .ibin .quo .i64 (.t 65) (.c (.int .i64 2))⟩,
⟨(some 9), none, .mov (.t 66)⟩] (some [1, 2, 3, 7, 8, 9]))
(.seq (.draw (.rd 0 ⟨(some 68), none, .mov (.t 1)⟩
(.rd 1 ⟨(some 69), none, .mov (.t 9)⟩
(.rd 2 ⟨(some 70), none, .sliceV 1 (.t 68) none (some (.t 69)) none⟩
(.rd 4 ⟨(some 72), none, .mov (.t 2)⟩
(.rd 5 ⟨(some 73), none, .mov (.t 9)⟩
(.rd 6 ⟨(some 74), none, .sliceV 1 (.t 72) none (some (.t 73)) none⟩
(.wr 3 ⟨(some 71), none, .call 38 [(.t 70)]⟩ [2]
(.wr 7 ⟨(some 75), none, .call 38 [(.t 74)]⟩ [6, 3]
(.wr 8 ⟨(some 76), none, .call 201 [(.t 71), (.t 75)]⟩ [3, 7, 7]
(.rd 9 ⟨(some 67), none, .mov (.t 76)⟩
(.rd 10 ⟨(some 77), none, .extract 0 (.t 67)⟩
(.rd 11 ⟨(some 78), none, .extract 1 (.t 67)⟩
(.wr 12 ⟨(some 10), none, .alloc [(.int .i64 0), (.int .i64 0), (.int .i64 0)]⟩ []
(.wr 13 ⟨none, none, .store 3 (.t 10) (.t 77)⟩ [12, 10, 8, 0, 1, 2, 3, 4, 5, 6, 7, 8, 9, 10, 12]
(.rd 14 ⟨(some 11), none, .mov (.t 78)⟩
.fin) .no) .no))))
(.wr 12 ⟨(some 10), none, .alloc [(.int .i64 0), (.int .i64 0), (.int .i64 0)]⟩ []
(.wr 8 ⟨(some 76), none, .call 201 [(.t 71), (.t 75)]⟩ [3, 7, 7]
(.rd 9 ⟨(some 67), none, .mov (.t 76)⟩
(.rd 10 ⟨(some 77), none, .extract 0 (.t 67)⟩
(.rd 11 ⟨(some 78), none, .extract 1 (.t 67)⟩
(.wr 13 ⟨none, none, .store 3 (.t 10) (.t 77)⟩ [12, 10, 8, 0, 1, 2, 3, 4, 5, 6, 7, 8, 9, 10, 12]
(.rd 14 ⟨(some 11), none, .mov (.t 78)⟩
.fin) .no)))) .no) .no))
(.wr 12 ⟨(some 10), none, .alloc [(.int .i64 0), (.int .i64 0), (.int .i64 0)]⟩ []
(.wr 7 ⟨(some 75), none, .call 38 [(.t 74)]⟩ [6, 3]
(.wr 8 ⟨(some 76), none, .call 201 [(.t 71), (.t 75)]⟩ [3, 7, 7]
(.rd 9 ⟨(some 67), none, .mov (.t 76)⟩
(.rd 10 ⟨(some 77), none, .extract 0 (.t 67)⟩
(.rd 11 ⟨(some 78), none, .extract 1 (.t 67)⟩
(.wr 13 ⟨none, none, .store 3 (.t 10) (.t 77)⟩ [12, 10, 8, 0, 1, 2, 3, 4, 5, 6, 7, 8, 9, 10, 12]
(.rd 14 ⟨(some 11), none, .mov (.t 78)⟩
.fin) .no)))) .no) .no) .no))
(.wr 12 ⟨(some 10), none, .alloc [(.int .i64 0), (.int .i64 0), (.int .i64 0)]⟩ []
(.wr 3 ⟨(some 71), none, .call 38 [(.t 70)]⟩ [2]
(.wr 7 ⟨(some 75), none, .call 38 [(.t 74)]⟩ [6, 3]
(.wr 8 ⟨(some 76), none, .call 201 [(.t 71), (.t 75)]⟩ [3, 7, 7]
(.rd 9 ⟨(some 67), none, .mov (.t 76)⟩
(.rd 10 ⟨(some 77), none, .extract 0 (.t 67)⟩
(.rd 11 ⟨(some 78), none, .extract 1 (.t 67)⟩
(.wr 13 ⟨none, none, .store 3 (.t 10) (.t 77)⟩ [12, 10, 8, 0, 1, 2, 3, 4, 5, 6, 7, 8, 9, 10, 12]
(.rd 14 ⟨(some 11), none, .mov (.t 78)⟩
.fin) .no)))) .no) .no) .no) .no)))))))) (some [1, 2, 3, 7, 8, 9, 10, 11]))
(.seq (.draw (.rd 0 ⟨(some 80), none, .mov (.t 1)⟩
(.rd 1 ⟨(some 81), none, .mov (.t 9)⟩
(.rd 2 ⟨(some 82), none, .sliceV 1 (.t 80) (some (.t 81)) none none⟩
(.rd 4 ⟨(some 84), none, .mov (.t 2)⟩
(.rd 5 ⟨(some 85), none, .mov (.t 9)⟩
(.rd 6 ⟨(some 86), none, .sliceV 1 (.t 84) (some (.t 85)) none none⟩
(.wr 3 ⟨(some 83), none, .call 38 [(.t 82)]⟩ [2]
(.wr 7 ⟨(some 87), none, .call 38 [(.t 86)]⟩ [6, 3]
(.wr 8 ⟨(some 88), none, .call 201 [(.t 83), (.t 87)]⟩ [3, 7, 7]
(.rd 9 ⟨(some 79), none, .mov (.t 88)⟩
(.rd 10 ⟨(some 89), none, .extract 0 (.t 79)⟩
(.rd 11 ⟨(some 90), none, .extract 1 (.t 79)⟩
(.wr 12 ⟨(some 12), none, .alloc [(.int .i64 0), (.int .i64 0), (.int .i64 0)]⟩ []
(.wr 13 ⟨none, none, .store 3 (.t 12) (.t 89)⟩ [12, 10, 8, 0, 1, 2, 3, 4, 5, 6, 7, 8, 9, 10, 12]
(.rd 14 ⟨(some 13), none, .mov (.t 90)⟩
.fin) .no) .no))))
(.wr 12 ⟨(some 12), none, .alloc [(.int .i64 0), (.int .i64 0), (.int .i64 0)]⟩ []
(.wr 8 ⟨(some 88), none, .call 201 [(.t 83), (.t 87)]⟩ [3, 7, 7]
(.rd 9 ⟨(some 79), none, .mov (.t 88)⟩
(.rd 10 ⟨(some 89), none, .extract 0 (.t 79)⟩
(.rd 11 ⟨(some 90), none, .extract 1 (.t 79)⟩
(.wr 13 ⟨none, none, .store 3 (.t 12) (.t 89)⟩ [12, 10, 8, 0, 1, 2, 3, 4, 5, 6, 7, 8, 9, 10, 12]
(.rd 14 ⟨(some 13), none, .mov (.t 90)⟩
.fin) .no)))) .no) .no))
(.wr 12 ⟨(some 12), none, .alloc [(.int .i64 0), (.int .i64 0), (.int .i64 0)]⟩ []
(.wr 7 ⟨(some 87), none, .call 38 [(.t 86)]⟩ [6, 3]
(.wr 8 ⟨(some 88), none, .call 201 [(.t 83), (.t 87)]⟩ [3, 7, 7]
(.rd 9 ⟨(some 79), none, .mov (.t 88)⟩
(.rd 10 ⟨(some 89), none, .extract 0 (.t 79)⟩
(.rd 11 ⟨(some 90), none, .extract 1 (.t 79)⟩
(.wr 13 ⟨none, none, .store 3 (.t 12) (.t 89)⟩ [12, 10, 8, 0, 1, 2, 3, 4, 5, 6, 7, 8, 9, 10, 12]
(.rd 14 ⟨(some 13), none, .mov (.t 90)⟩
.fin) .no)))) .no) .no) .no))
(.wr 12 ⟨(some 12), none, .alloc [(.int .i64 0), (.int .i64 0), (.int .i64 0)]⟩ []
(.wr 3 ⟨(some 83), none, .call 38 [(.t 82)]⟩ [2]
(.wr 7 ⟨(some 87), none, .call 38 [(.t 86)]⟩ [6, 3]
(.wr 8 ⟨(some 88), none, .call 201 [(.t 83), (.t 87)]⟩ [3, 7, 7]
(.rd 9 ⟨(some 79), none, .mov (.t 88)⟩
(.rd 10 ⟨(some 89), none, .extract 0 (.t 79)⟩
(.rd 11 ⟨(some 90), none, .extract 1 (.t 79)⟩
(.wr 13 ⟨none, none, .store 3 (.t 12) (.t 89)⟩ [12, 10, 8, 0, 1, 2, 3, 4, 5, 6, 7, 8, 9, 10, 12]
(.rd 14 ⟨(some 13), none, .mov (.t 90)⟩
.fin) .no)))) .no) .no) .no) .no)))))))) (some [1, 2, 3, 7, 8, 10, 11, 12, 13]))
(.seq (.draw (.rd 0 ⟨(some 92), none, .faddr 0 (.t 3)⟩
(.rd 1 ⟨(some 93), none, .load 1 false (.t 92)⟩
(.rd 2 ⟨(some 94), none, .faddr 1 (.t 3)⟩
(.rd 3 ⟨(some 95), none, .load 1 false (.t 94)⟩
(.rd 4 ⟨(some 96), none, .mov (.t 1)⟩
(.wr 5 ⟨(some 97), none, .call 38 [(.t 96)]⟩ [4]
(.wr 6 ⟨(some 98), none, .call 200 [(.t 93), (.t 95), (.t 97)]⟩ [1, 3, 5, 5]
(.rd 7 ⟨(some 91), none, .mov (.t 98)⟩
(.rd 8 ⟨(some 99), none, .extract 0 (.t 91)⟩
(.rd 9 ⟨(some 100), none, .extract 1 (.t 91)⟩
(.rd 10 ⟨(some 14), none, .mov (.t 99)⟩
(.rd 11 ⟨(some 15), none, .mov (.t 100)⟩
.fin))))) .no) .no)))))) (some [1, 2, 3, 7, 8, 10, 11, 12, 13, 14, 15]))
(.seq (.ops [⟨(some 102), none, .mov (.t 1)⟩,
⟨(some 103), none, .call 38 [(.t 102)]⟩,
⟨(some 104), none, .mov (.t 1)⟩,
⟨(some 105), none, .call 38 [(.t 104)]⟩,
⟨(some 106), none, .call 201 [(.t 103), (.t 105)]⟩,
⟨(some 101), none, .mov (.t 106)⟩,
⟨(some 107), none, .extract 0 (.t 101)⟩,
⟨(some 108), none, .extract 1 (.t 101)⟩,
⟨(some 16), none, .alloc [(.int .i64 0), (.int .i64 0), (.int .i64 0)]⟩,
⟨none, none, .store 3 (.t 16) (.t 107)⟩,
⟨(some 17), none, .mov (.t 108)⟩] (some [1, 2, 3, 7, 8, 10, 11, 12, 13, 14, 15, 16, 17]))
(.seq (.seq (.ops [⟨(some 109), none, .mov (.t 8)⟩,
⟨(some 110), none, .ibin .neq .i64 (.t 109) (.c (.int .i64 0))⟩,
⟨(some 111), none, .mov (.t 110)⟩,
⟨(some 112), (some (111, false)), .mov (.t 11)⟩,
⟨(some 113), (some (111, false)), .ibin .neq .i64 (.t 112) (.c (.int .i64 0))⟩,
⟨(some 114), none, .pick (.t 111) (.c (.bool true)) (.t 113)⟩,
⟨(some 115), none, .mov (.t 114)⟩,
⟨(some 116), (some (115, false)), .mov (.t 13)⟩,
⟨(some 117), (some (115, false)), .ibin .neq .i64 (.t 116) (.c (.int .i64 0))⟩,
⟨(some 118), none, .pick (.t 115) (.c (.bool true)) (.t 117)⟩,
⟨(some 119), none, .mov (.t 118)⟩,
⟨(some 120), (some (119, false)), .mov (.t 15)⟩,
⟨(some 121), (some (119, false)), .ibin .neq .i64 (.t 120) (.c (.int .i64 0))⟩,
⟨(some 122), none, .pick (.t 119) (.c (.bool true)) (.t 121)⟩,
⟨(some 123), none, .mov (.t 122)⟩,
⟨(some 124), (some (123, false)), .mov (.t 17)⟩,
⟨(some 125), (some (123, false)), .ibin .neq .i64 (.t 124) (.c (.int .i64 0))⟩,
⟨(some 126), none, .pick (.t 123) (.c (.bool true)) (.t 125)⟩,
⟨(some 127), none, .mov (.t 126)⟩,
⟨(some 128), (some (127, false)), .mov (.t 14)⟩,
⟨(some 129), (some (127, false)), .lenV (.t 128)⟩,
⟨(some 130), (some (127, false)), .mov (.t 1)⟩,
⟨(some 131), (some (127, false)), .lenV (.t 130)⟩,
⟨(some 132), (some (127, false)), .ibin .neq .i64 (.t 129) (.t 131)⟩,
⟨(some 133), none, .pick (.t 127) (.c (.bool true)) (.t 132)⟩] (some [1, 2, 3, 7, 10, 12, 14, 16, 133]))
(.cond (.t 133)
(.seq (.ops [⟨(some 6), none, .mov (.c (.bool false))⟩] none)
.ret)
.skip))
(.seq (.seq (.ops [⟨(some 134), none, .faddr 0 (.t 7)⟩,
⟨(some 135), none, .load 1 false (.t 134)⟩,
⟨(some 136), none, .faddr 0 (.t 10)⟩,
⟨(some 137), none, .load 1 false (.t 136)⟩,
⟨(some 138), none, .faddr 0 (.t 12)⟩,
⟨(some 139), none, .load 1 false (.t 138)⟩,
⟨(some 140), none, .ibin .add .i64 (.t 137) (.t 139)⟩,
⟨(some 141), none, .ibin .neq .i64 (.t 135) (.t 140)⟩,
⟨(some 142), none, .mov (.t 141)⟩,
⟨(some 143), (some (142, false)), .faddr 1 (.t 7)⟩,
⟨(some 144), (some (142, false)), .load 1 false (.t 143)⟩,
⟨(some 145), (some (142, false)), .faddr 1 (.t 10)⟩,
⟨(some 146), (some (142, false)), .load 1 false (.t 145)⟩,
⟨(some 147), (some (142, false)), .faddr 1 (.t 12)⟩,
⟨(some 148), (some (142, false)), .load 1 false (.t 147)⟩,
⟨(some 149), (some (142, false)), .ibin .add .i64 (.t 146) (.t 148)⟩,
⟨(some 150), (some (142, false)), .ibin .neq .i64 (.t 144) (.t 149)⟩,
⟨(some 151), none, .pick (.t 142) (.c (.bool true)) (.t 150)⟩,
⟨(some 152), none, .mov (.t 151)⟩,
⟨(some 153), (some (152, false)), .faddr 2 (.t 7)⟩,
⟨(some 154), (some (152, false)), .load 1 false (.t 153)⟩,
⟨(some 155), (some (152, false)), .faddr 2 (.t 10)⟩,
⟨(some 156), (some (152, false)), .load 1 false (.t 155)⟩,
⟨(some 157), (some (152, false)), .faddr 2 (.t 12)⟩,
⟨(some 158), (some (152, false)), .load 1 false (.t 157)⟩,
⟨(some 159), (some (152, false)), .ibin .add .i64 (.t 156) (.t 158)⟩,
⟨(some 160), (some (152, false)), .ibin .neq .i64 (.t 154) (.t 159)⟩,
⟨(some 161), none, .pick (.t 152) (.c (.bool true)) (.t 160)⟩,
⟨(some 162), none, .mov (.t 161)⟩,
⟨(some 163), (some (162, false)), .faddr 0 (.t 7)⟩,
⟨(some 164), (some (162, false)), .load 1 false (.t 163)⟩,
⟨(some 165), (some (162, false)), .ibin .lss .i64 (.t 164) (.c (.int .i64 0))⟩,
⟨(some 166), none, .pick (.t 162) (.c (.bool true)) (.t 165)⟩,
⟨(some 167), none, .mov (.t 166)⟩,
⟨(some 168), (some (167, false)), .faddr 1 (.t 7)⟩,
⟨(some 169), (some (167, false)), .load 1 false (.t 168)⟩,
⟨(some 170), (some (167, false)), .ibin .lss .i64 (.t 169) (.c (.int .i64 0))⟩,
⟨(some 171), none, .pick (.t 167) (.c (.bool true)) (.t 170)⟩,
⟨(some 172), none, .mov (.t 171)⟩,
⟨(some 173), (some (172, false)), .faddr 2 (.t 7)⟩,
⟨(some 174), (some (172, false)), .load 1 false (.t 173)⟩,
⟨(some 175), (some (172, false)), .ibin .lss .i64 (.t 174) (.c (.int .i64 0))⟩,
⟨(some 176), none, .pick (.t 172) (.c (.bool true)) (.t 175)⟩] (some [1, 2, 3, 7, 14, 16, 176]))
(.cond (.t 176)
(.seq (.ops [⟨(some 6), none, .mov (.c (.bool false))⟩] none)
.ret)
.skip))
(.seq (.ops [⟨(some 18), none, .mov (.c (.int .i64 0))⟩,
⟨(some 19), none, .mov (.c (.int .i64 0))⟩] none)
(.seq (.ops [⟨(some 177), none, .faddr 0 (.t 3)⟩,
⟨(some 178), none, .load 1 false (.t 177)⟩,
⟨(some 20), none, .mov (.t 178)⟩] (some [1, 2, 3, 7, 14, 16, 18, 19, 20]))
(.seq (.seq (.ops [⟨(some 21), none, .mov (.c (.int .i64 0))⟩] none)
(.block 0 (.loop (.seq (.seq (.ops [⟨(some 179), none, .mov (.t 21)⟩,
⟨(some 180), none, .mov (.t 1)⟩,
⟨(some 181), none, .lenV (.t 180)⟩,
⟨(some 182), none, .ibin .lss .i64 (.t 179) (.t 181)⟩] (some [1, 2, 3, 7, 14, 16, 18, 19, 20, 21, 182]))
(.cond (.t 182)
.skip
(.exit 0)))
(.seq (.block 1 (.seq (.draw (.rd 0 ⟨(some 185), none, .mov (.t 18)⟩
(.rd 1 ⟨(some 186), none, .mov (.t 1)⟩
(.rd 2 ⟨(some 187), none, .mov (.t 21)⟩
(.rd 3 ⟨(some 188), none, .iaddr 1 (.t 186) (.t 187)⟩
(.rd 4 ⟨(some 189), none, .load 1 false (.t 188)⟩
(.rd 7 ⟨(some 192), none, .mov (.t 19)⟩
(.rd 8 ⟨(some 193), none, .mov (.t 2)⟩
(.rd 9 ⟨(some 194), none, .mov (.t 21)⟩
(.rd 10 ⟨(some 195), none, .iaddr 1 (.t 193) (.t 194)⟩
(.rd 11 ⟨(some 196), none, .load 1 false (.t 195)⟩
(.wr 5 ⟨(some 190), none, .call 109 [(.t 189)]⟩ [4]
(.rd 6 ⟨(some 191), none, .ibin .add .i64 (.t 185) (.t 190)⟩
(.wr 12 ⟨(some 197), none, .call 109 [(.t 196)]⟩ [11, 5]
(.rd 13 ⟨(some 198), none, .ibin .add .i64 (.t 192) (.t 197)⟩
(.wr 14 ⟨(some 18), none, .mov (.t 191)⟩ [6, 12, 0, 1, 2, 3, 4, 5, 6]
(.wr 15 ⟨(some 19), none, .mov (.t 198)⟩ [13, 14, 0, 1, 2, 3, 4, 5, 6, 7, 8, 9, 10, 11, 12, 13, 14]
.fin .no) .no)) .no)) .no))))))))))) (some [1, 2, 3, 7, 14, 16, 18, 19, 20, 21]))
(.seq (.seq (.draw (.rd 0 ⟨(some 199), none, .mov (.t 14)⟩
(.rd 1 ⟨(some 200), none, .mov (.t 21)⟩
(.rd 2 ⟨(some 201), none, .iaddr 1 (.t 199) (.t 200)⟩
(.rd 3 ⟨(some 202), none, .load 1 false (.t 201)⟩
(.rd 4 ⟨(some 203), none, .mov (.t 20)⟩
(.rd 5 ⟨(some 204), none, .faddr 1 (.t 3)⟩
(.rd 6 ⟨(some 205), none, .load 1 false (.t 204)⟩
(.rd 7 ⟨(some 206), none, .ibin .sub .i64 (.t 203) (.t 205)⟩
(.rd 8 ⟨(some 207), none, .mov (.t 20)⟩
(.rd 9 ⟨(some 208), none, .faddr 1 (.t 3)⟩
(.rd 10 ⟨(some 209), none, .load 1 false (.t 208)⟩
(.rd 11 ⟨(some 210), none, .ibin .add .i64 (.t 207) (.t 209)⟩
(.wr 12 ⟨(some 211), none, .call 15 [(.t 202), (.t 206), (.t 210)]⟩ [3, 7, 11]
(.rd 13 ⟨(some 212), none, .un .not (.t 211)⟩
(.rd 14 ⟨(some 213), none, .mov (.t 212)⟩
(.rd 15 ⟨(some 214), (some (213, false)), .mov (.t 14)⟩
(.rd 16 ⟨(some 215), (some (213, false)), .mov (.t 21)⟩
(.rd 17 ⟨(some 216), (some (213, false)), .iaddr 1 (.t 214) (.t 215)⟩
(.rd 18 ⟨(some 217), (some (213, false)), .load 1 false (.t 216)⟩
(.rd 19 ⟨(some 218), (some (213, false)), .mov (.t 1)⟩
(.rd 20 ⟨(some 219), (some (213, false)), .mov (.t 21)⟩
(.rd 21 ⟨(some 220), (some (213, false)), .iaddr 1 (.t 218) (.t 219)⟩
(.rd 22 ⟨(some 221), (some (213, false)), .load 1 false (.t 220)⟩
(.rd 23 ⟨(some 222), (some (213, false)), .ibin .neq .i64 (.t 217) (.t 221)⟩
(.rd 24 ⟨(some 223), (some (213, false)), .mov (.t 222)⟩
(.rd 25 ⟨(some 224), (some (223, true)), .mov (.t 14)⟩
(.rd 26 ⟨(some 225), (some (223, true)), .mov (.t 21)⟩
(.rd 27 ⟨(some 226), (some (223, true)), .iaddr 1 (.t 224) (.t 225)⟩
(.rd 28 ⟨(some 227), (some (223, true)), .load 1 false (.t 226)⟩
(.rd 29 ⟨(some 228), (some (223, true)), .mov (.t 20)⟩
(.rd 30 ⟨(some 229), (some (223, true)), .ibin .sub .i64 (.t 227) (.t 228)⟩
(.rd 32 ⟨(some 231), (some (223, true)), .faddr 1 (.t 3)⟩
(.rd 33 ⟨(some 232), (some (223, true)), .load 1 false (.t 231)⟩
(.wr 31 ⟨(some 230), (some (223, true)), .call 109 [(.t 229)]⟩ [30, 24, 24]
(.rd 34 ⟨(some 233), (some (223, true)), .ibin .neq .i64 (.t 230) (.t 232)⟩
(.rd 35 ⟨(some 234), (some (213, false)), .pick (.t 223) (.t 233) (.c (.bool false))⟩
(.rd 36 ⟨(some 235), none, .pick (.t 213) (.c (.bool true)) (.t 234)⟩
.fin))) .no))))))))))))))))))))) .no))))))))))))) (some [1, 2, 3, 7, 14, 16, 18, 19, 21, 235]))
(.cond (.t 235)
(.seq (.ops [⟨(some 6), none, .mov (.c (.bool false))⟩] none)
.ret)
.skip))
(.ops [⟨(some 236), none, .mov (.t 14)⟩,
⟨(some 237), none, .mov (.t 21)⟩,
⟨(some 238), none, .iaddr 1 (.t 236) (.t 237)⟩,
⟨(some 239), none, .load 1 false (.t 238)⟩,
⟨(some 20), none, .mov (.t 239)⟩] (some [1, 2, 3, 7, 14, 16, 18, 19, 20, 21])))))
(.ops [⟨(some 183), none, .mov (.t 21)⟩,
⟨(some 184), none, .ibin .add .i64 (.t 183) (.c (.int .i64 1))⟩,
⟨(some 21), none, .mov (.t 184)⟩] (some [1, 2, 3, 7, 14, 16, 18, 19, 20, 21])))))))
(.seq (.seq (.ops [⟨(some 240), none, .faddr 0 (.t 7)⟩,
⟨(some 241), none, .load 1 false (.t 240)⟩,
⟨(some 242), none, .faddr 1 (.t 7)⟩,
⟨(some 243), none, .load 1 false (.t 242)⟩,
⟨(some 244), none, .ibin .add .i64 (.t 241) (.t 243)⟩,
⟨(some 245), none, .mov (.t 18)⟩,
⟨(some 246), none, .ibin .neq .i64 (.t 244) (.t 245)⟩,
⟨(some 247), none, .mov (.t 246)⟩,
⟨(some 248), (some (247, false)), .faddr 0 (.t 7)⟩,
⟨(some 249), (some (247, false)), .load 1 false (.t 248)⟩,
⟨(some 250), (some (247, false)), .faddr 2 (.t 7)⟩,
⟨(some 251), (some (247, false)), .load 1 false (.t 250)⟩,
⟨(some 252), (some (247, false)), .ibin .add .i64 (.t 249) (.t 251)⟩,
⟨(some 253), (some (247, false)), .mov (.t 19)⟩,
⟨(some 254), (some (247, false)), .ibin .neq .i64 (.t 252) (.t 253)⟩,
⟨(some 255), none, .pick (.t 247) (.c (.bool true)) (.t 254)⟩,
⟨(some 256), none, .mov (.t 255)⟩,
⟨(some 257), (some (256, false)), .load 3 true (.t 16)⟩,
⟨(some 258), (some (256, false)), .mov (.t 18)⟩,
⟨(some 259), (some (256, false)), .build [(.int .i64 0), (.int .i64 0), (.int .i64 0)] [(0, 1, (.t 258))]⟩,
⟨(some 260), (some (256, false)), .eqv (.fld 0 1 (.int .i64) (.fld 1 1 (.int .i64) (.fld 2 1 (.int .i64) .nil))) true (.t 257) (.t 259)⟩,
⟨(some 261), none, .pick (.t 256) (.c (.bool true)) (.t 260)⟩] (some [1, 3, 261]))
(.cond (.t 261)
(.seq (.ops [⟨(some 6), none, .mov (.c (.bool false))⟩] none)
.ret)
.skip))
(.seq (.seq (.ops [⟨(some 262), none, .faddr 1 (.t 3)⟩,
⟨(some 263), none, .load 1 false (.t 262)⟩,
⟨(some 264), none, .ibin .eql .i64 (.t 263) (.c (.int .i64 0))⟩,
⟨(some 265), none, .mov (.t 264)⟩,
⟨(some 266), (some (265, false)), .mov (.t 1)⟩,
⟨(some 267), (some (265, false)), .lenV (.t 266)⟩,
⟨(some 268), (some (265, false)), .ibin .eql .i64 (.t 267) (.c (.int .i64 0))⟩,
⟨(some 269), none, .pick (.t 265) (.c (.bool true)) (.t 268)⟩] (some [1, 3, 269]))
(.cond (.t 269)
(.seq (.ops [⟨(some 6), none, .mov (.c (.bool true))⟩] none)
.ret)
.skip))
(.seq (.ops [⟨(some 22), none, .mov (.c (.slice none 0 0))⟩] none)
(.seq (.seq (.ops [⟨(some 23), none, .mov (.c (.int .i64 0))⟩] none)
(.block 2 (.loop (.seq (.seq (.ops [⟨(some 270), none, .mov (.t 23)⟩,
⟨(some 271), none, .ibin .lss .i64 (.t 270) (.c (.int .i64 80))⟩] (some [1, 3, 22, 23, 271]))
(.cond (.t 271)
.skip
(.exit 2)))
(.seq (.block 3 (.ops [⟨(some 274), none, .mov (.t 22)⟩,
⟨(some 275), none, .mov (.t 1)⟩,
⟨(some 276), none, .iaddr 1 (.t 275) (.c (.int .i64 0))⟩,
⟨(some 277), none, .load 1 false (.t 276)⟩,
⟨(some 278), none, .bslice 1 1 [(.int .i64 0)] [(0, 1, (.t 277))]⟩,
⟨(some 279), none, .append 1 8 (.t 274) (.t 278)⟩,
⟨(some 22), none, .mov (.t 279)⟩] (some [1, 3, 22, 23])))
(.ops [⟨(some 272), none, .mov (.t 23)⟩,
⟨(some 273), none, .ibin .add .i64 (.t 272) (.c (.int .i64 1))⟩,
⟨(some 23), none, .mov (.t 273)⟩] (some [1, 3, 22, 23])))))))
(.seq (.ops [⟨(some 281), none, .faddr 0 (.t 3)⟩,
⟨(some 282), none, .load 1 false (.t 281)⟩,
⟨(some 283), none, .faddr 1 (.t 3)⟩,
⟨(some 284), none, .load 1 false (.t 283)⟩,
⟨(some 285), none, .mov (.t 22)⟩,
⟨(some 286), none, .call 200 [(.t 282), (.t 284), (.t 285)]⟩,
⟨(some 280), none, .mov (.t 286)⟩,
⟨(some 287), none, .extract 0 (.t 280)⟩,
⟨(some 288), none, .extract 1 (.t 280)⟩,
⟨(some 24), none, .mov (.t 287)⟩,
⟨(some 25), none, .mov (.t 288)⟩] (some [1, 3, 24, 25]))
(.seq (.draw (.rd 0 ⟨(some 289), none, .mov (.t 25)⟩
(.rd 1 ⟨(some 290), none, .ibin .eql .i64 (.t 289) (.c (.int .i64 0))⟩
(.rd 2 ⟨(some 291), none, .mov (.t 290)⟩
(.rd 3 ⟨(some 292), (some (291, true)), .mov (.t 24)⟩
(.rd 4 ⟨(some 293), (some (291, true)), .lenV (.t 292)⟩
(.rd 5 ⟨(some 294), (some (291, true)), .ibin .eql .i64 (.t 293) (.c (.int .i64 80))⟩
(.rd 6 ⟨(some 295), none, .pick (.t 291) (.t 294) (.c (.bool false))⟩
(.rd 7 ⟨(some 296), none, .mov (.t 295)⟩
(.rd 8 ⟨(some 297), (some (296, true)), .faddr 1 (.t 3)⟩
(.rd 9 ⟨(some 298), (some (296, true)), .load 1 false (.t 297)⟩
(.rd 10 ⟨(some 299), (some (296, true)), .ibin .mul .i64 (.c (.int .i64 80)) (.t 298)⟩
(.rd 11 ⟨(some 300), (some (296, true)), .mov (.t 1)⟩
(.rd 12 ⟨(some 301), (some (296, true)), .iaddr 1 (.t 300) (.c (.int .i64 0))⟩
(.rd 13 ⟨(some 302), (some (296, true)), .load 1 false (.t 301)⟩
(.rd 14 ⟨(some 303), (some (296, true)), .faddr 0 (.t 3)⟩
(.rd 15 ⟨(some 304), (some (296, true)), .load 1 false (.t 303)⟩
(.rd 16 ⟨(some 305), (some (296, true)), .ibin .sub .i64 (.t 302) (.t 304)⟩
(.wr 17 ⟨(some 306), (some (296, true)), .call 109 [(.t 305)]⟩ [16, 7, 7]
(.rd 18 ⟨(some 307), (some (296, true)), .ibin .lss .i64 (.t 299) (.t 306)⟩
(.rd 19 ⟨(some 308), (some (296, true)), .mov (.t 307)⟩
(.rd 20 ⟨(some 309), (some (308, false)), .mov (.t 24)⟩
(.rd 21 ⟨(some 310), (some (308, false)), .iaddr 1 (.t 309) (.c (.int .i64 79))⟩
(.rd 22 ⟨(some 311), (some (308, false)), .load 1 false (.t 310)⟩
(.rd 23 ⟨(some 312), (some (308, false)), .mov (.t 1)⟩
(.rd 24 ⟨(some 313), (some (308, false)), .iaddr 1 (.t 312) (.c (.int .i64 0))⟩
(.rd 25 ⟨(some 314), (some (308, false)), .load 1 false (.t 313)⟩
(.rd 26 ⟨(some 315), (some (308, false)), .ibin .eql .i64 (.t 311) (.t 314)⟩
(.rd 27 ⟨(some 316), (some (296, true)), .pick (.t 308) (.c (.bool true)) (.t 315)⟩
(.rd 28 ⟨(some 317), none, .pick (.t 296) (.t 316) (.c (.bool false))⟩
(.rd 29 ⟨(some 6), none, .mov (.t 317)⟩
.fin)))))))))))) .no)))))))))))))))))) (some [6]))
.ret))))))))))))))))))))⟩
/-- guidevane/guidevanelaw08.awake -/
def ir198 : IFn := ⟨97, [.t 0],
(.seq (.ops [⟨(some 0), none, .mov (.c (.bool false))⟩] (some []))
(.seq (.ops [⟨(some 14), none, .call 207 []⟩,
⟨(some 15), none, .call 208 []⟩,
⟨(some 16), none, .call 206 [(.t 14), (.t 15)]⟩,
⟨(some 13), none, .mov (.t 16)⟩,
⟨(some 17), none, .extract 0 (.t 13)⟩,
⟨(some 18), none, .extract 1 (.t 13)⟩,
⟨(some 19), none, .extract 2 (.t 13)⟩,
⟨(some 1), none, .mov (.t 17)⟩,
⟨(some 2), none, .mov (.t 18)⟩,
⟨(some 3), none, .mov (.t 19)⟩] (some [1, 2, 3]))
(.seq (.ops [⟨(some 21), none, .call 207 []⟩,
⟨(some 22), none, .call 208 []⟩,
⟨(some 23), none, .bslice 2 1 [(.int .i64 0)] [(0, 1, (.c (.int .i64 0))), (1, 1, (.c (.int .i64 2)))]⟩,
⟨(some 24), none, .build [(.slice none 0 0), (.int .i64 0)] [(0, 1, (.t 23)), (1, 1, (.c (.int .i64 2)))]⟩,
⟨(some 25), none, .call 209 [(.t 21), (.t 22), (.t 24)]⟩,
⟨(some 20), none, .mov (.t 25)⟩,
⟨(some 26), none, .extract 0 (.t 20)⟩,
⟨(some 27), none, .extract 1 (.t 20)⟩,
⟨(some 4), none, .mov (.t 26)⟩,
⟨(some 5), none, .mov (.t 27)⟩] (some [1, 2, 3, 4, 5]))
(.seq (.ops [⟨(some 29), none, .bslice 3 1 [(.int .i64 0)] [(0, 1, (.c (.int .i64 12))), (1, 1, (.c (.int .i64 12))), (2, 1, (.c (.int .i64 3)))]⟩,
⟨(some 30), none, .bslice 3 1 [(.int .i64 0)] [(0, 1, (.c (.int .i64 5))), (1, 1, (.c (.int .i64 10))), (2, 1, (.c (.int .i64 5)))]⟩,
⟨(some 31), none, .call 201 [(.t 29), (.t 30)]⟩,
⟨(some 28), none, .mov (.t 31)⟩,
⟨(some 32), none, .extract 0 (.t 28)⟩,
⟨(some 33), none, .extract 1 (.t 28)⟩,
⟨(some 6), none, .alloc [(.int .i64 0), (.int .i64 0), (.int .i64 0)]⟩,
⟨none, none, .store 3 (.t 6) (.t 32)⟩,
⟨(some 7), none, .mov (.t 33)⟩] (some [1, 2, 3, 4, 5, 6, 7]))
(.seq (.ops [⟨(some 35), none, .call 211 []⟩,
⟨(some 36), none, .call 210 [(.t 35)]⟩,
⟨(some 34), none, .mov (.t 36)⟩,
⟨(some 37), none, .extract 0 (.t 34)⟩,
⟨(some 38), none, .extract 1 (.t 34)⟩,
⟨(some 39), none, .extract 2 (.t 34)⟩,
⟨(some 8), none, .mov (.t 37)⟩,
⟨(some 9), none, .mov (.t 38)⟩,
⟨(some 10), none, .mov (.t 39)⟩] (some [1, 2, 3, 4, 5, 6, 7, 8, 9, 10]))
(.seq (.ops [⟨(some 41), none, .call 207 []⟩,
⟨(some 42), none, .call 208 []⟩,
⟨(some 43), none, .call 212 [(.t 41), (.t 42), (.c (.int .i64 2))]⟩,
⟨(some 40), none, .mov (.t 43)⟩,
⟨(some 44), none, .extract 0 (.t 40)⟩,
⟨(some 45), none, .extract 1 (.t 40)⟩,
⟨(some 11), none, .mov (.t 44)⟩,
⟨(some 12), none, .mov (.t 45)⟩] (some [1, 2, 3, 4, 5, 6, 7, 8, 9, 10, 11, 12]))
(.seq (.ops [⟨(some 46), none, .mov (.t 3)⟩,
⟨(some 47), none, .ibin .eql .i64 (.t 46) (.c (.int .i64 0))⟩,
⟨(some 48), none, .mov (.t 47)⟩,
⟨(some 49), (some (48, true)), .mov (.t 1)⟩,
⟨(some 50), (some (48, true)), .bslice 2 1 [(.int .i64 0)] [(0, 1, (.c (.int .i64 0))), (1, 1, (.c (.int .i64 2)))]⟩,
⟨(some 51), (some (48, true)), .call 26 [(.t 49), (.t 50)]⟩,
⟨(some 52), none, .pick (.t 48) (.t 51) (.c (.bool false))⟩,
⟨(some 53), none, .mov (.t 52)⟩,
⟨(some 54), (some (53, true)), .mov (.t 2)⟩,
⟨(some 55), (some (53, true)), .ibin .eql .i64 (.t 54) (.c (.int .i64 30))⟩,
⟨(some 56), none, .pick (.t 53) (.t 55) (.c (.bool false))⟩,
⟨(some 57), none, .mov (.t 56)⟩,
⟨(some 58), (some (57, true)), .mov (.t 5)⟩,
⟨(some 59), (some (57, true)), .ibin .eql .i64 (.t 58) (.c (.int .i64 0))⟩,
⟨(some 60), none, .pick (.t 57) (.t 59) (.c (.bool false))⟩,
⟨(some 61), none, .mov (.t 60)⟩,
⟨(some 62), (some (61, true)), .mov (.t 4)⟩,
⟨(some 63), (some (61, true)), .bslice 2 1 [(.int .i64 0)] [(0, 1, (.c (.int .i64 1))), (1, 1, (.c (.int .i64 1)))]⟩,
⟨(some 64), (some (61, true)), .call 26 [(.t 62), (.t 63)]⟩,
⟨(some 65), none, .pick (.t 61) (.t 64) (.c (.bool false))⟩,
⟨(some 66), none, .mov (.t 65)⟩,
⟨(some 67), (some (66, true)), .mov (.t 7)⟩,
⟨(some 68), (some (66, true)), .ibin .eql .i64 (.t 67) (.c (.int .i64 0))⟩,
⟨(some 69), none, .pick (.t 66) (.t 68) (.c (.bool false))⟩,
⟨(some 70), none, .mov (.t 69)⟩,
⟨(some 71), (some (70, true)), .load 3 true (.t 6)⟩,
⟨(some 72), (some (70, true)), .build [(.int .i64 0), (.int .i64 0), (.int .i64 0)] [(0, 1, (.c (.int .i64 18))), (1, 1, (.c (.int .i64 9))), (2, 1, (.c (.int .i64 2)))]⟩,
⟨(some 73), (some (70, true)), .eqv (.fld 0 1 (.int .i64) (.fld 1 1 (.int .i64) (.fld 2 1 (.int .i64) .nil))) false (.t 71) (.t 72)⟩,
⟨(some 74), none, .pick (.t 70) (.t 73) (.c (.bool false))⟩,
⟨(some 75), none, .mov (.t 74)⟩,
⟨(some 76), (some (75, true)), .mov (.t 10)⟩,
⟨(some 77), (some (75, true)), .ibin .eql .i64 (.t 76) (.c (.int .i64 0))⟩,
⟨(some 78), none, .pick (.t 75) (.t 77) (.c (.bool false))⟩,
⟨(some 79), none, .mov (.t 78)⟩,
⟨(some 80), (some (79, true)), .mov (.t 8)⟩,
⟨(some 81), (some (79, true)), .bslice 3 1 [(.int .i64 0)] [(0, 1, (.c (.int .i64 0))), (1, 1, (.c (.int .i64 1))), (2, 1, (.c (.int .i64 2)))]⟩,
⟨(some 82), (some (79, true)), .call 26 [(.t 80), (.t 81)]⟩,
⟨(some 83), none, .pick (.t 79) (.t 82) (.c (.bool false))⟩,
⟨(some 84), none, .mov (.t 83)⟩,
⟨(some 85), (some (84, true)), .mov (.t 9)⟩,
⟨(some 86), (some (84, true)), .ibin .eql .i64 (.t 85) (.c (.int .i64 1))⟩,
⟨(some 87), none, .pick (.t 84) (.t 86) (.c (.bool false))⟩,
⟨(some 88), none, .mov (.t 87)⟩,
⟨(some 89), (some (88, true)), .mov (.t 12)⟩,
⟨(some 90), (some (88, true)), .ibin .eql .i64 (.t 89) (.c (.int .i64 0))⟩,
⟨(some 91), none, .pick (.t 88) (.t 90) (.c (.bool false))⟩,
⟨(some 92), none, .mov (.t 91)⟩,
⟨(some 93), (some (92, true)), .mov (.t 11)⟩,
⟨(some 94), (some (92, true)), .bslice 3 1 [(.int .i64 0)] [(0, 1, (.c (.int .i64 2))), (1, 1, (.c (.int .i64 5))), (2, 1, (.c (.int .i64 8)))]⟩,
⟨(some 95), (some (92, true)), .call 26 [(.t 93), (.t 94)]⟩,
⟨(some 96), none, .pick (.t 92) (.t 95) (.c (.bool false))⟩,
⟨(some 0), none, .mov (.t 96)⟩] (some [0]))
.ret)))))))⟩
/-- guidevane/guidevanelaw08.some -/
def ir199 : IFn := ⟨16, [.t 2],
(.seq (.ops [⟨(some 2), none, .mov (.c (.bool false))⟩] (some [0]))
(.seq (.ops [⟨(some 3), none, .mov (.t 0)⟩,
⟨(some 4), none, .lenV (.t 3)⟩,
⟨(some 5), none, .ibin .leq .i64 (.t 4) (.c (.int .i64 80))⟩,
⟨(some 6), none, .mov (.t 5)⟩,
⟨(some 7), (some (6, false)), .mov (.t 0)⟩,
⟨(some 8), (some (6, false)), .lenV (.t 7)⟩,
⟨(some 9), (some (6, false)), .ibin .gtr .i64 (.t 8) (.c (.int .i64 300))⟩,
⟨(some 10), (some (6, false)), .mov (.t 9)⟩,
⟨(some 11), (some (10, true)), .mov (.t 0)⟩,
⟨(some 12), (some (10, true)), .lenV (.t 11)⟩,
⟨(some 13), (some (10, true)), .ibin .leq .i64 (.t 12) (.c (.int .i64 302))⟩,
⟨(some 14), (some (6, false)), .pick (.t 10) (.t 13) (.c (.bool false))⟩,
⟨(some 15), none, .pick (.t 6) (.c (.bool true)) (.t 14)⟩,
⟨(some 2), none, .mov (.t 15)⟩] (some [2]))
.ret))⟩
/-- guidevane/dispatch.Followed -/
def ir200 : IFn := ⟨47, [.t 6, .t 7],
(.seq (.ops [⟨(some 6), none, .mov (.c (.slice none 0 0))⟩,
⟨(some 7), none, .mov (.c (.int .i64 0))⟩] (some [0, 1, 2]))
(.seq (.seq (.ops [⟨(some 12), none, .mov (.t 0)⟩,
⟨(some 13), none, .call 215 [(.t 12)]⟩,
⟨(some 14), none, .mov (.t 13)⟩,
⟨(some 15), (some (14, true)), .mov (.t 1)⟩,
⟨(some 16), (some (14, true)), .call 216 [(.t 15), (.c (.int .i64 0)), (.c (.int .i64 1000000))]⟩,
⟨(some 17), none, .pick (.t 14) (.t 16) (.c (.bool false))⟩,
⟨(some 18), none, .call 214 [(.t 17), (.c (.int .i64 2))]⟩,
⟨(some 19), none, .mov (.t 2)⟩,
⟨(some 20), none, .call 217 [(.t 19)]⟩,
⟨(some 21), none, .bslice 2 1 [(.int .i64 0)] [(0, 1, (.t 18)), (1, 1, (.t 20))]⟩,
⟨(some 22), none, .call 213 [(.t 21)]⟩,
⟨(some 8), none, .mov (.t 22)⟩] (some [0, 1, 2, 8]))
(.seq (.ops [⟨(some 23), none, .mov (.t 8)⟩,
⟨(some 24), none, .ibin .neq .i64 (.t 23) (.c (.int .i64 0))⟩] (some [0, 1, 2, 8, 24]))
(.cond (.t 24)
(.seq (.ops [⟨(some 25), none, .mov (.t 8)⟩,
⟨(some 6), none, .mov (.c (.slice none 0 0))⟩,
⟨(some 7), none, .mov (.t 25)⟩] (some [6, 7]))
.ret)
.skip)))
(.seq (.ops [⟨(some 9), none, .mov (.c (.slice none 0 0))⟩] none)
(.seq (.seq (.ops [⟨(some 26), none, .mov (.t 2)⟩,
⟨(some 27), none, .lenV (.t 26)⟩,
⟨(some 28), none, .mov (.c (.int .i64 0))⟩] (some [0, 1, 9, 26, 27, 28]))
(.block 0 (.loop (.seq (.ops [⟨(some 29), none, .ibin .lss .i64 (.t 28) (.t 27)⟩] none)
(.seq (.cond (.t 29)
.skip
(.exit 0))
(.seq (.block 1 (.seq (.ops [⟨(some 30), none, .iaddr 1 (.t 26) (.t 28)⟩,
⟨(some 31), none, .load 1 false (.t 30)⟩,
⟨(some 11), none, .mov (.t 31)⟩] (some [0, 1, 9, 11, 26, 27, 28]))
(.seq (.ops [⟨(some 32), none, .mov (.t 11)⟩,
⟨(some 33), none, .mov (.t 0)⟩,
⟨(some 34), none, .mov (.t 1)⟩,
⟨(some 35), none, .ibin .sub .i64 (.t 33) (.t 34)⟩,
⟨(some 36), none, .minmax true (.t 32) [(.t 35)]⟩,
⟨(some 37), none, .mov (.t 0)⟩,
⟨(some 38), none, .mov (.t 1)⟩,
⟨(some 39), none, .ibin .add .i64 (.t 37) (.t 38)⟩,
⟨(some 40), none, .minmax false (.t 36) [(.t 39)]⟩,
⟨(some 0), none, .mov (.t 40)⟩] (some [0, 1, 9, 26, 27, 28]))
(.ops [⟨(some 41), none, .mov (.t 9)⟩,
⟨(some 42), none, .mov (.t 0)⟩,
⟨(some 43), none, .bslice 1 1 [(.int .i64 0)] [(0, 1, (.t 42))]⟩,
⟨(some 44), none, .append 1 8 (.t 41) (.t 43)⟩,
⟨(some 9), none, .mov (.t 44)⟩] (some [0, 1, 9, 26, 27, 28])))))
(.ops [⟨(some 45), none, .ibin .add .i64 (.t 28) (.c (.int .i64 1))⟩,
⟨(some 28), none, .mov (.t 45)⟩] (some [0, 1, 9, 26, 27, 28]))))))))
(.seq (.ops [⟨(some 46), none, .mov (.t 9)⟩,
⟨(some 6), none, .mov (.t 46)⟩,
⟨(some 7), none, .mov (.c (.int .i64 0))⟩] (some [6, 7]))
.ret)))))⟩
/-- guidevane/dispatch.SettledOf -/
def ir201 : IFn := ⟨81, [.cell 4 3 true, .t 5],
(.seq (.ops [⟨(some 4), none, .alloc [(.int .i64 0), (.int .i64 0), (.int .i64 0)]⟩,
⟨(some 5), none, .mov (.c (.int .i64 0))⟩] (some [0, 1, 4]))
(.seq (.seq (.ops [⟨(some 12), none, .mov (.t 0)⟩,
⟨(some 13), none, .call 217 [(.t 12)]⟩,
⟨(some 14), none, .mov (.t 1)⟩,
⟨(some 15), none, .call 217 [(.t 14)]⟩,
⟨(some 16), none, .mov (.t 0)⟩,
⟨(some 17), none, .lenV (.t 16)⟩,
⟨(some 18), none, .mov (.t 1)⟩,
⟨(some 19), none, .lenV (.t 18)⟩,
⟨(some 20), none, .ibin .eql .i64 (.t 17) (.t 19)⟩,
⟨(some 21), none, .call 214 [(.t 20), (.c (.int .i64 10))]⟩,
⟨(some 22), none, .bslice 3 1 [(.int .i64 0)] [(0, 1, (.t 13)), (1, 1, (.t 15)), (2, 1, (.t 21))]⟩,
⟨(some 23), none, .call 213 [(.t 22)]⟩,
⟨(some 6), none, .mov (.t 23)⟩] (some [0, 1, 4, 6]))
(.seq (.ops [⟨(some 24), none, .mov (.t 6)⟩,
⟨(some 25), none, .ibin .neq .i64 (.t 24) (.c (.int .i64 0))⟩] (some [0, 1, 4, 6, 25]))
(.cond (.t 25)
(.seq (.ops [⟨(some 26), none, .build [(.int .i64 0), (.int .i64 0), (.int .i64 0)] []⟩,
⟨(some 27), none, .mov (.t 6)⟩,
⟨none, none, .store 3 (.t 4) (.t 26)⟩,
⟨(some 5), none, .mov (.t 27)⟩] (some [4, 5]))
.ret)
.skip)))
(.seq (.ops [⟨(some 7), none, .alloc [(.int .i64 0), (.int .i64 0), (.int .i64 0)]⟩] none)
(.seq (.seq (.ops [⟨(some 28), none, .mov (.t 0)⟩,
⟨(some 29), none, .lenV (.t 28)⟩,
⟨(some 30), none, .mov (.c (.int .i64 0))⟩] (some [1, 4, 7, 28, 29, 30]))
(.block 0 (.loop (.seq (.ops [⟨(some 31), none, .ibin .lss .i64 (.t 30) (.t 29)⟩] none)
(.seq (.cond (.t 31)
.skip
(.exit 0))
(.seq (.block 1 (.seq (.ops [⟨(some 32), none, .mov (.t 30)⟩,
⟨(some 33), none, .iaddr 1 (.t 28) (.t 30)⟩,
⟨(some 34), none, .load 1 false (.t 33)⟩,
⟨(some 8), none, .mov (.t 32)⟩,
⟨(some 9), none, .mov (.t 34)⟩] (some [1, 4, 7, 8, 9, 28, 29, 30]))
(.seq (.ops [⟨(some 35), none, .mov (.t 1)⟩,
⟨(some 36), none, .mov (.t 8)⟩,
⟨(some 37), none, .iaddr 1 (.t 35) (.t 36)⟩,
⟨(some 38), none, .load 1 false (.t 37)⟩,
⟨(some 10), none, .mov (.t 38)⟩] (some [1, 4, 7, 9, 10, 28, 29, 30]))
(.seq (.ops [⟨(some 11), none, .mov (.c (.int .i64 0))⟩] none)
(.seq (.seq (.ops [⟨(some 39), none, .mov (.t 9)⟩,
⟨(some 40), none, .ibin .gtr .i64 (.t 39) (.c (.int .i64 0))⟩,
⟨(some 41), none, .mov (.t 40)⟩,
⟨(some 42), (some (41, true)), .mov (.t 10)⟩,
⟨(some 43), (some (41, true)), .ibin .gtr .i64 (.t 42) (.c (.int .i64 0))⟩,
⟨(some 44), none, .pick (.t 41) (.t 43) (.c (.bool false))⟩,
⟨(some 45), none, .mov (.t 44)⟩,
⟨(some 46), (some (45, false)), .mov (.t 9)⟩,
⟨(some 47), (some (45, false)), .ibin .lss .i64 (.t 46) (.c (.int .i64 0))⟩,
⟨(some 48), (some (45, false)), .mov (.t 47)⟩,
⟨(some 49), (some (48, true)), .mov (.t 10)⟩,
⟨(some 50), (some (48, true)), .ibin .lss .i64 (.t 49) (.c (.int .i64 0))⟩,
⟨(some 51), (some (45, false)), .pick (.t 48) (.t 50) (.c (.bool false))⟩,
⟨(some 52), none, .pick (.t 45) (.c (.bool true)) (.t 51)⟩] (some [1, 4, 7, 9, 10, 11, 28, 29, 30, 52]))
(.cond (.t 52)
(.ops [⟨(some 53), none, .mov (.t 9)⟩,
⟨(some 54), none, .call 218 [(.t 53)]⟩,
⟨(some 55), none, .mov (.t 10)⟩,
⟨(some 56), none, .call 218 [(.t 55)]⟩,
⟨(some 57), none, .minmax false (.t 54) [(.t 56)]⟩,
⟨(some 11), none, .mov (.t 57)⟩] (some [1, 4, 7, 9, 10, 11, 28, 29, 30]))
.skip))
(.seq (.ops [⟨(some 58), none, .faddr 0 (.t 7)⟩,
⟨(some 59), none, .load 1 false (.t 58)⟩,
⟨(some 60), none, .mov (.t 11)⟩,
⟨(some 61), none, .ibin .add .i64 (.t 59) (.t 60)⟩,
⟨(some 62), none, .faddr 0 (.t 7)⟩,
⟨none, none, .store 1 (.t 62) (.t 61)⟩] (some [1, 4, 7, 9, 10, 11, 28, 29, 30]))
(.seq (.draw (.rd 0 ⟨(some 63), none, .faddr 1 (.t 7)⟩
(.rd 1 ⟨(some 64), none, .load 1 false (.t 63)⟩
(.rd 2 ⟨(some 65), none, .mov (.t 9)⟩
(.rd 4 ⟨(some 67), none, .mov (.t 11)⟩
(.wr 3 ⟨(some 66), none, .call 218 [(.t 65)]⟩ [2]
(.rd 5 ⟨(some 68), none, .ibin .sub .i64 (.t 66) (.t 67)⟩
(.rd 6 ⟨(some 69), none, .ibin .add .i64 (.t 64) (.t 68)⟩
(.rd 7 ⟨(some 70), none, .faddr 1 (.t 7)⟩
(.wr 8 ⟨none, none, .store 1 (.t 70) (.t 69)⟩ [7, 6, 3, 0, 1, 2, 3, 4, 5, 6]
.fin .no)))) .no))))) (some [1, 4, 7, 10, 11, 28, 29, 30]))
(.draw (.rd 0 ⟨(some 71), none, .faddr 2 (.t 7)⟩
(.rd 1 ⟨(some 72), none, .load 1 false (.t 71)⟩
(.rd 2 ⟨(some 73), none, .mov (.t 10)⟩
(.rd 4 ⟨(some 75), none, .mov (.t 11)⟩
(.wr 3 ⟨(some 74), none, .call 218 [(.t 73)]⟩ [2]
(.rd 5 ⟨(some 76), none, .ibin .sub .i64 (.t 74) (.t 75)⟩
(.rd 6 ⟨(some 77), none, .ibin .add .i64 (.t 72) (.t 76)⟩
(.rd 7 ⟨(some 78), none, .faddr 2 (.t 7)⟩
(.wr 8 ⟨none, none, .store 1 (.t 78) (.t 77)⟩ [7, 6, 3, 0, 1, 2, 3, 4, 5, 6]
.fin .no)))) .no))))) (some [1, 4, 7, 28, 29, 30])))))))))
(.ops [⟨(some 79), none, .ibin .add .i64 (.t 30) (.c (.int .i64 1))⟩,
⟨(some 30), none, .mov (.t 79)⟩] (some [1, 4, 7, 28, 29, 30]))))))))
(.seq (.ops [⟨(some 80), none, .load 3 true (.t 7)⟩,
⟨none, none, .store 3 (.t 4) (.t 80)⟩,
⟨(some 5), none, .mov (.c (.int .i64 0))⟩] (some [4, 5]))
.ret)))))⟩
/-- guidevane/guidevaneref08.RampErr -/
def ir202 : IFn := ⟨13, [.t 4],
(.seq (.ops [⟨(some 4), none, .mov (.c (.int .i64 0))⟩] (some [0, 1]))
(.seq (.seq (.ops [⟨(some 5), none, .mov (.t 0)⟩,
⟨(some 6), none, .call 15 [(.t 5), (.c (.int .i64 (-1000000))), (.c (.int .i64 1000000))]⟩,
⟨(some 7), none, .un .not (.t 6)⟩,
⟨(some 8), none, .mov (.t 7)⟩,
⟨(some 9), (some (8, false)), .mov (.t 1)⟩,
⟨(some 10), (some (8, false)), .call 15 [(.t 9), (.c (.int .i64 0)), (.c (.int .i64 1000000))]⟩,
⟨(some 11), (some (8, false)), .un .not (.t 10)⟩,
⟨(some 12), none, .pick (.t 8) (.c (.bool true)) (.t 11)⟩] (some [12]))
(.cond (.t 12)
(.seq (.ops [⟨(some 4), none, .mov (.c (.int .i64 2))⟩] none)
.ret)
.skip))
(.seq (.ops [⟨(some 4), none, .mov (.c (.int .i64 0))⟩] none)
.ret)))⟩
/-- guidevane/guidevaneref08.PowersErr -/
def ir203 : IFn := ⟨19, [.t 2],
(.seq (.ops [⟨(some 2), none, .mov (.c (.int .i64 0))⟩] (some [0]))
(.seq (.seq (.ops [⟨(some 4), none, .mov (.t 0)⟩,
⟨(some 5), none, .lenV (.t 4)⟩,
⟨(some 6), none, .ibin .gtr .i64 (.t 5) (.c (.int .i64 300))⟩] (some [0, 6]))
(.cond (.t 6)
(.seq (.ops [⟨(some 2), none, .mov (.c (.int .i64 8))⟩] none)
.ret)
.skip))
(.seq (.seq (.ops [⟨(some 3), none, .mov (.c (.int .i64 0))⟩] none)
(.block 0 (.loop (.seq (.seq (.ops [⟨(some 7), none, .mov (.t 3)⟩,
⟨(some 8), none, .mov (.t 0)⟩,
⟨(some 9), none, .lenV (.t 8)⟩,
⟨(some 10), none, .ibin .lss .i64 (.t 7) (.t 9)⟩] (some [0, 3, 10]))
(.cond (.t 10)
.skip
(.exit 0)))
(.seq (.block 1 (.seq (.ops [⟨(some 13), none, .mov (.t 0)⟩,
⟨(some 14), none, .mov (.t 3)⟩,
⟨(some 15), none, .iaddr 1 (.t 13) (.t 14)⟩,
⟨(some 16), none, .load 1 false (.t 15)⟩,
⟨(some 17), none, .call 15 [(.t 16), (.c (.int .i64 (-1000000))), (.c (.int .i64 1000000))]⟩,
⟨(some 18), none, .un .not (.t 17)⟩] (some [0, 3, 18]))
(.cond (.t 18)
(.seq (.ops [⟨(some 2), none, .mov (.c (.int .i64 2))⟩] none)
.ret)
.skip)))
(.ops [⟨(some 11), none, .mov (.t 3)⟩,
⟨(some 12), none, .ibin .add .i64 (.t 11) (.c (.int .i64 1))⟩,
⟨(some 3), none, .mov (.t 12)⟩] (some [0, 3])))))))
(.seq (.ops [⟨(some 2), none, .mov (.c (.int .i64 0))⟩] none)
.ret))))⟩
/-- guidevane/guidevaneref08.Followed -/
def ir204 : IFn := ⟨34, [.t 6],
(.seq (.ops [⟨(some 6), none, .mov (.c (.slice none 0 0))⟩] (some [0, 1, 2]))
(.seq (.ops [⟨(some 7), none, .mov (.c (.slice none 0 0))⟩] none)
(.seq (.ops [⟨(some 10), none, .mov (.t 0)⟩,
⟨(some 8), none, .mov (.t 10)⟩] (some [1, 2, 7, 8]))
(.seq (.seq (.ops [⟨(some 9), none, .mov (.c (.int .i64 0))⟩] none)
(.block 0 (.loop (.seq (.seq (.ops [⟨(some 11), none, .mov (.t 9)⟩,
⟨(some 12), none, .mov (.t 2)⟩,
⟨(some 13), none, .lenV (.t 12)⟩,
⟨(some 14), none, .ibin .lss .i64 (.t 11) (.t 13)⟩] (some [1, 2, 7, 8, 9, 14]))
(.cond (.t 14)
.skip
(.exit 0)))
(.seq (.block 1 (.seq (.ops [⟨(some 17), none, .mov (.t 8)⟩,
⟨(some 18), none, .mov (.t 1)⟩,
⟨(some 19), none, .ibin .sub .i64 (.t 17) (.t 18)⟩,
⟨(some 20), none, .mov (.t 8)⟩,
⟨(some 21), none, .mov (.t 1)⟩,
⟨(some 22), none, .ibin .add .i64 (.t 20) (.t 21)⟩,
⟨(some 23), none, .mov (.t 2)⟩,
⟨(some 24), none, .mov (.t 9)⟩,
⟨(some 25), none, .iaddr 1 (.t 23) (.t 24)⟩,
⟨(some 26), none, .load 1 false (.t 25)⟩,
⟨(some 27), none, .minmax false (.t 22) [(.t 26)]⟩,
⟨(some 28), none, .minmax true (.t 19) [(.t 27)]⟩,
⟨(some 8), none, .mov (.t 28)⟩] (some [1, 2, 7, 8, 9]))
(.ops [⟨(some 29), none, .mov (.t 7)⟩,
⟨(some 30), none, .mov (.t 8)⟩,
⟨(some 31), none, .bslice 1 1 [(.int .i64 0)] [(0, 1, (.t 30))]⟩,
⟨(some 32), none, .append 1 8 (.t 29) (.t 31)⟩,
⟨(some 7), none, .mov (.t 32)⟩] (some [1, 2, 7, 8, 9]))))
(.ops [⟨(some 15), none, .mov (.t 9)⟩,
⟨(some 16), none, .ibin .add .i64 (.t 15) (.c (.int .i64 1))⟩,
⟨(some 9), none, .mov (.t 16)⟩] (some [1, 2, 7, 8, 9])))))))
(.seq (.ops [⟨(some 33), none, .mov (.t 7)⟩,
⟨(some 6), none, .mov (.t 33)⟩] (some [6]))
.ret)))))⟩
/-- guidevane/guidevaneref08.Settled -/
def ir205 : IFn := ⟨65, [.cell 4 3 true],
(.seq (.ops [⟨(some 4), none, .alloc [(.int .i64 0), (.int .i64 0), (.int .i64 0)]⟩] none)
(.seq (.ops [⟨(some 5), none, .alloc [(.int .i64 0), (.int .i64 0), (.int .i64 0)]⟩] none)
(.seq (.seq (.ops [⟨(some 6), none, .mov (.c (.int .i64 0))⟩] none)
(.block 0 (.loop (.seq (.seq (.ops [⟨(some 10), none, .mov (.t 6)⟩,
⟨(some 11), none, .mov (.t 0)⟩,
⟨(some 12), none, .lenV (.t 11)⟩,
⟨(some 13), none, .ibin .lss .i64 (.t 10) (.t 12)⟩] (some [0, 1, 4, 5, 6, 13]))
(.cond (.t 13)
.skip
(.exit 0)))
(.seq (.block 1 (.seq (.draw (.rd 0 ⟨(some 16), none, .mov (.t 0)⟩
(.rd 1 ⟨(some 17), none, .mov (.t 6)⟩
(.rd 2 ⟨(some 18), none, .iaddr 1 (.t 16) (.t 17)⟩
(.rd 3 ⟨(some 19), none, .load 1 false (.t 18)⟩
(.rd 4 ⟨(some 20), none, .mov (.t 1)⟩
(.rd 5 ⟨(some 21), none, .mov (.t 6)⟩
(.rd 6 ⟨(some 22), none, .iaddr 1 (.t 20) (.t 21)⟩
(.rd 7 ⟨(some 23), none, .load 1 false (.t 22)⟩
(.rd 8 ⟨(some 7), none, .mov (.t 19)⟩
(.rd 9 ⟨(some 8), none, .mov (.t 23)⟩
.fin)))))))))) (some [0, 1, 4, 5, 6, 7, 8]))
(.seq (.ops [⟨(some 9), none, .mov (.c (.int .i64 0))⟩] none)
(.seq (.seq (.ops [⟨(some 24), none, .mov (.t 7)⟩,
⟨(some 25), none, .ibin .gtr .i64 (.t 24) (.c (.int .i64 0))⟩,
⟨(some 26), none, .mov (.t 25)⟩,
⟨(some 27), (some (26, true)), .mov (.t 8)⟩,
⟨(some 28), (some (26, true)), .ibin .gtr .i64 (.t 27) (.c (.int .i64 0))⟩,
⟨(some 29), none, .pick (.t 26) (.t 28) (.c (.bool false))⟩,
⟨(some 30), none, .mov (.t 29)⟩,
⟨(some 31), (some (30, false)), .mov (.t 7)⟩,
⟨(some 32), (some (30, false)), .ibin .lss .i64 (.t 31) (.c (.int .i64 0))⟩,
⟨(some 33), (some (30, false)), .mov (.t 32)⟩,
⟨(some 34), (some (33, true)), .mov (.t 8)⟩,
⟨(some 35), (some (33, true)), .ibin .lss .i64 (.t 34) (.c (.int .i64 0))⟩,
⟨(some 36), (some (30, false)), .pick (.t 33) (.t 35) (.c (.bool false))⟩,
⟨(some 37), none, .pick (.t 30) (.c (.bool true)) (.t 36)⟩] (some [0, 1, 4, 5, 6, 7, 8, 9, 37]))
(.cond (.t 37)
(.ops [⟨(some 38), none, .mov (.t 7)⟩,
⟨(some 39), none, .call 109 [(.t 38)]⟩,
⟨(some 40), none, .mov (.t 8)⟩,
⟨(some 41), none, .call 109 [(.t 40)]⟩,
⟨(some 42), none, .minmax false (.t 39) [(.t 41)]⟩,
⟨(some 9), none, .mov (.t 42)⟩] (some [0, 1, 4, 5, 6, 7, 8, 9]))
.skip))
(.seq (.ops [⟨(some 43), none, .faddr 0 (.t 5)⟩,
⟨(some 44), none, .load 1 false (.t 43)⟩,
⟨(some 45), none, .mov (.t 9)⟩,
⟨(some 46), none, .ibin .add .i64 (.t 44) (.t 45)⟩,
⟨(some 47), none, .faddr 0 (.t 5)⟩,
⟨none, none, .store 1 (.t 47) (.t 46)⟩] (some [0, 1, 4, 5, 6, 7, 8, 9]))
(.seq (.draw (.rd 0 ⟨(some 48), none, .faddr 1 (.t 5)⟩
(.rd 1 ⟨(some 49), none, .load 1 false (.t 48)⟩
(.rd 2 ⟨(some 50), none, .mov (.t 7)⟩
(.rd 5 ⟨(some 53), none, .mov (.t 9)⟩
(.wr 3 ⟨(some 51), none, .call 109 [(.t 50)]⟩ [2]
(.rd 4 ⟨(some 52), none, .ibin .add .i64 (.t 49) (.t 51)⟩
(.rd 6 ⟨(some 54), none, .ibin .sub .i64 (.t 52) (.t 53)⟩
(.rd 7 ⟨(some 55), none, .faddr 1 (.t 5)⟩
(.wr 8 ⟨none, none, .store 1 (.t 55) (.t 54)⟩ [7, 6, 3, 0, 1, 2, 3, 4, 5, 6]
.fin .no)))) .no))))) (some [0, 1, 4, 5, 6, 8, 9]))
(.draw (.rd 0 ⟨(some 56), none, .faddr 2 (.t 5)⟩
(.rd 1 ⟨(some 57), none, .load 1 false (.t 56)⟩
(.rd 2 ⟨(some 58), none, .mov (.t 8)⟩
(.rd 5 ⟨(some 61), none, .mov (.t 9)⟩
(.wr 3 ⟨(some 59), none, .call 109 [(.t 58)]⟩ [2]
(.rd 4 ⟨(some 60), none, .ibin .add .i64 (.t 57) (.t 59)⟩
(.rd 6 ⟨(some 62), none, .ibin .sub .i64 (.t 60) (.t 61)⟩
(.rd 7 ⟨(some 63), none, .faddr 2 (.t 5)⟩
(.wr 8 ⟨none, none, .store 1 (.t 63) (.t 62)⟩ [7, 6, 3, 0, 1, 2, 3, 4, 5, 6]
.fin .no)))) .no))))) (some [0, 1, 4, 5, 6]))))))))
(.ops [⟨(some 14), none, .mov (.t 6)⟩,
⟨(some 15), none, .ibin .add .i64 (.t 14) (.c (.int .i64 1))⟩,
⟨(some 6), none, .mov (.t 15)⟩] (some [0, 1, 4, 5, 6])))))))
(.seq (.ops [⟨(some 64), none, .load 3 true (.t 5)⟩,
⟨none, none, .store 3 (.t 4) (.t 64)⟩] (some [4]))
.ret))))⟩
/-- guidevane/dispatch.BestPlan -/
def ir206 : IFn := ⟨32, [.t 4, .t 5, .t 6],
(.seq (.ops [⟨(some 2), none, .box (.t 0)⟩,
⟨(some 3), none, .box (.t 1)⟩,
⟨(some 4), none, .mov (.c (.slice none 0 0))⟩,
⟨(some 5), none, .mov (.c (.int .i64 0))⟩,
⟨(some 6), none, .mov (.c (.int .i64 0))⟩] (some [2, 3]))
(.seq (.ops [⟨(some 13), none, .load 3 true (.t 2)⟩,
⟨(some 14), none, .load 4 true (.t 3)⟩,
⟨(some 15), none, .call 219 [(.t 13), (.t 14)]⟩,
⟨(some 12), none, .mov (.t 15)⟩,
⟨(some 16), none, .extract 0 (.t 12)⟩,
⟨(some 17), none, .extract 1 (.t 12)⟩,
⟨(some 7), none, .alloc [(.int .i64 0), (.int .i64 0), (.slice none 0 0), (.int .i64 0), (.int .i64 0), (.int .i64 0), (.slice none 0 0)]⟩,
⟨none, none, .store 7 (.t 7) (.t 16)⟩,
⟨(some 8), none, .mov (.t 17)⟩] (some [7, 8]))
(.seq (.seq (.ops [⟨(some 18), none, .mov (.t 8)⟩,
⟨(some 19), none, .ibin .neq .i64 (.t 18) (.c (.int .i64 0))⟩] (some [7, 8, 19]))
(.cond (.t 19)
(.seq (.ops [⟨(some 20), none, .mov (.t 8)⟩,
⟨(some 4), none, .mov (.c (.slice none 0 0))⟩,
⟨(some 5), none, .mov (.c (.int .i64 0))⟩,
⟨(some 6), none, .mov (.t 20)⟩] (some [4, 5, 6]))
.ret)
.skip))
(.seq (.ops [⟨(some 22), none, .load 7 true (.t 7)⟩,
⟨(some 23), none, .build [(.int .i64 0), (.int .i64 0)] [(0, 1, (.c (.int .i64 (-1))))]⟩,
⟨(some 24), none, .call 220 [(.t 22), (.t 23)]⟩,
⟨(some 21), none, .mov (.t 24)⟩,
⟨(some 25), none, .extract 0 (.t 21)⟩,
⟨(some 26), none, .extract 1 (.t 21)⟩,
⟨(some 27), none, .extract 2 (.t 21)⟩,
⟨(some 9), none, .mov (.t 25)⟩,
⟨(some 10), none, .mov (.t 26)⟩,
⟨(some 11), none, .mov (.t 27)⟩] (some [9, 10, 11]))
(.seq (.ops [⟨(some 28), none, .mov (.t 9)⟩,
⟨(some 29), none, .mov (.t 10)⟩,
⟨(some 30), none, .mov (.t 11)⟩,
⟨(some 31), none, .call 214 [(.t 30), (.c (.int .i64 12))]⟩,
⟨(some 4), none, .mov (.t 28)⟩,
⟨(some 5), none, .mov (.t 29)⟩,
⟨(some 6), none, .mov (.t 31)⟩] (some [4, 5, 6]))
.ret)))))⟩
/-- guidevane/guidevanelaw08.Plant -/
def ir207 : IFn := ⟨6, [.cell 0 3 true],
(.seq (.ops [⟨(some 0), none, .alloc [(.int .i64 0), (.int .i64 0), (.slice none 0 0)]⟩] none)
(.seq (.ops [⟨(some 1), none, .build [(.string ⟨#[]⟩), (.int .i64 0), (.int .i64 0), (.int .i64 0)] [(0, 1, (.c (.string ⟨#[114, 101, 115, 116]⟩)))]⟩,
⟨(some 2), none, .build [(.string ⟨#[]⟩), (.int .i64 0), (.int .i64 0), (.int .i64 0)] [(0, 1, (.c (.string ⟨#[112, 117, 109, 112]⟩))), (1, 1, (.c (.int .i64 3))), (2, 1, (.c (.int .i64 (-4)))), (3, 1, (.c (.int .i64 5)))]⟩,
⟨(some 3), none, .build [(.string ⟨#[]⟩), (.int .i64 0), (.int .i64 0), (.int .i64 0)] [(0, 1, (.c (.string ⟨#[116, 117, 114, 98, 105, 110, 101]⟩))), (1, 1, (.c (.int .i64 (-3)))), (2, 1, (.c (.int .i64 3))), (3, 1, (.c (.int .i64 2)))]⟩,
⟨(some 4), none, .bslice 3 4 [(.string ⟨#[]⟩), (.int .i64 0), (.int .i64 0), (.int .i64 0)] [(0, 4, (.t 1)), (4, 4, (.t 2)), (8, 4, (.t 3))]⟩,
⟨(some 5), none, .build [(.int .i64 0), (.int .i64 0), (.slice none 0 0)] [(1, 1, (.c (.int .i64 10))), (2, 1, (.t 4))]⟩,
⟨none, none, .store 3 (.t 0) (.t 5)⟩] (some [0]))
.ret))⟩
/-- guidevane/guidevanelaw08.Task -/
def ir208 : IFn := ⟨5, [.cell 0 4 true],
(.seq (.ops [⟨(some 0), none, .alloc [(.int .i64 0), (.int .i64 0), (.int .i64 0), (.slice none 0 0)]⟩] none)
(.seq (.ops [⟨(some 1), none, .build [(.int .i64 0), (.int .i64 0), (.int .i64 0)] [(0, 1, (.c (.int .i64 2))), (1, 1, (.c (.int .i64 1)))]⟩,
⟨(some 2), none, .build [(.int .i64 0), (.int .i64 0), (.int .i64 0)] [(0, 1, (.c (.int .i64 12))), (1, 1, (.c (.int .i64 10))), (2, 1, (.c (.int .i64 1)))]⟩,
⟨(some 3), none, .bslice 2 3 [(.int .i64 0), (.int .i64 0), (.int .i64 0)] [(0, 3, (.t 1)), (3, 3, (.t 2))]⟩,
⟨(some 4), none, .build [(.int .i64 0), (.int .i64 0), (.int .i64 0), (.slice none 0 0)] [(0, 1, (.c (.int .i64 4))), (2, 1, (.c (.int .i64 1))), (3, 1, (.t 3))]⟩,
⟨none, none, .store 4 (.t 0) (.t 4)⟩] (some [0]))
.ret))⟩
/-- guidevane/dispatch.ReserveOf -/
def ir209 : IFn := ⟨53, [.t 6, .t 7],
(.seq (.ops [⟨(some 3), none, .box (.t 0)⟩,
⟨(some 4), none, .box (.t 1)⟩,
⟨(some 5), none, .box (.t 2)⟩,
⟨(some 6), none, .mov (.c (.slice none 0 0))⟩,
⟨(some 7), none, .mov (.c (.int .i64 0))⟩] (some [3, 4, 5]))
(.seq (.ops [⟨(some 14), none, .load 3 true (.t 3)⟩,
⟨(some 15), none, .load 4 true (.t 4)⟩,
⟨(some 16), none, .faddr 0 (.t 5)⟩,
⟨(some 17), none, .load 1 false (.t 16)⟩,
⟨(some 18), none, .call 221 [(.t 14), (.t 15), (.t 17)]⟩,
⟨(some 13), none, .mov (.t 18)⟩,
⟨(some 19), none, .extract 0 (.t 13)⟩,
⟨(some 20), none, .extract 1 (.t 13)⟩,
⟨(some 21), none, .extract 2 (.t 13)⟩,
⟨(some 8), none, .alloc [(.int .i64 0), (.int .i64 0), (.slice none 0 0), (.int .i64 0), (.int .i64 0), (.int .i64 0), (.slice none 0 0)]⟩,
⟨none, none, .store 7 (.t 8) (.t 19)⟩,
⟨(some 9), none, .mov (.t 20)⟩,
⟨(some 10), none, .mov (.t 21)⟩] (some [4, 5, 8, 9, 10]))
(.seq (.seq (.ops [⟨(some 22), none, .mov (.t 10)⟩,
⟨(some 23), none, .load 7 true (.t 8)⟩,
⟨(some 24), none, .faddr 1 (.t 5)⟩,
⟨(some 25), none, .load 1 false (.t 24)⟩,
⟨(some 26), none, .call 222 [(.t 23), (.t 25)]⟩,
⟨(some 27), none, .call 214 [(.t 26), (.c (.int .i64 6))]⟩,
⟨(some 28), none, .bslice 2 1 [(.int .i64 0)] [(0, 1, (.t 22)), (1, 1, (.t 27))]⟩,
⟨(some 29), none, .call 213 [(.t 28)]⟩,
⟨(some 10), none, .mov (.t 29)⟩] (some [4, 5, 8, 9, 10]))
(.seq (.ops [⟨(some 30), none, .mov (.t 10)⟩,
⟨(some 31), none, .ibin .neq .i64 (.t 30) (.c (.int .i64 0))⟩] (some [4, 5, 8, 9, 10, 31]))
(.cond (.t 31)
(.seq (.ops [⟨(some 32), none, .mov (.t 10)⟩,
⟨(some 6), none, .mov (.c (.slice none 0 0))⟩,
⟨(some 7), none, .mov (.t 32)⟩] (some [6, 7]))
.ret)
.skip)))
(.seq (.ops [⟨(some 11), none, .mov (.c (.slice none 0 0))⟩] none)
(.seq (.seq (.ops [⟨(some 33), none, .faddr 3 (.t 4)⟩,
⟨(some 34), none, .load 1 false (.t 33)⟩,
⟨(some 35), none, .lenV (.t 34)⟩,
⟨(some 36), none, .mov (.c (.int .i64 0))⟩] (some [5, 8, 9, 11, 35, 36]))
(.block 0 (.loop (.seq (.ops [⟨(some 37), none, .ibin .lss .i64 (.t 36) (.t 35)⟩] none)
(.seq (.cond (.t 37)
.skip
(.exit 0))
(.seq (.block 1 (.seq (.ops [⟨(some 38), none, .mov (.t 36)⟩,
⟨(some 12), none, .mov (.t 38)⟩] (some [5, 8, 9, 11, 12, 35, 36]))
(.draw (.rd 0 ⟨(some 39), none, .mov (.t 11)⟩
(.rd 1 ⟨(some 40), none, .load 7 true (.t 8)⟩
(.rd 2 ⟨(some 41), none, .mov (.t 9)⟩
(.rd 3 ⟨(some 42), none, .mov (.t 12)⟩
(.rd 4 ⟨(some 43), none, .iaddr 1 (.t 41) (.t 42)⟩
(.rd 5 ⟨(some 44), none, .load 1 false (.t 43)⟩
(.rd 6 ⟨(some 45), none, .mov (.t 12)⟩
(.rd 7 ⟨(some 46), none, .faddr 1 (.t 5)⟩
(.rd 8 ⟨(some 47), none, .load 1 false (.t 46)⟩
(.wr 9 ⟨(some 48), none, .call 223 [(.t 40), (.t 44), (.t 45), (.t 47)]⟩ [1, 5, 6, 8]
(.wr 10 ⟨(some 49), none, .bslice 1 1 [(.int .i64 0)] [(0, 1, (.t 48))]⟩ [9]
(.wr 11 ⟨(some 50), none, .append 1 8 (.t 39) (.t 49)⟩ [0, 10, 9]
(.wr 12 ⟨(some 11), none, .mov (.t 50)⟩ [11, 11, 0, 1, 2, 3, 4, 5, 6, 7, 8, 9, 10, 11]
.fin .no) .no) .no) .no)))))))))) (some [5, 8, 9, 11, 35, 36]))))
(.ops [⟨(some 51), none, .ibin .add .i64 (.t 36) (.c (.int .i64 1))⟩,
⟨(some 36), none, .mov (.t 51)⟩] (some [5, 8, 9, 11, 35, 36]))))))))
(.seq (.ops [⟨(some 52), none, .mov (.t 11)⟩,
⟨(some 6), none, .mov (.t 52)⟩,
⟨(some 7), none, .mov (.c (.int .i64 0))⟩] (some [6, 7]))
.ret))))))⟩
/-- guidevane/dispatch.BestOrder -/
def ir210 : IFn := ⟨71, [.t 2, .t 3, .t 4],
(.seq (.ops [⟨(some 2), none, .mov (.c (.slice none 0 0))⟩,
⟨(some 3), none, .mov (.c (.int .i64 0))⟩,
⟨(some 4), none, .mov (.c (.int .i64 0))⟩] (some [0]))
(.seq (.ops [⟨(some 15), none, .mov (.t 0)⟩,
⟨(some 16), none, .call 224 [(.t 15)]⟩,
⟨(some 14), none, .mov (.t 16)⟩,
⟨(some 17), none, .extract 0 (.t 14)⟩,
⟨(some 18), none, .extract 1 (.t 14)⟩,
⟨(some 5), none, .mov (.t 17)⟩,
⟨(some 6), none, .mov (.t 18)⟩] (some [5, 6]))
(.seq (.seq (.ops [⟨(some 19), none, .mov (.t 6)⟩,
⟨(some 20), none, .ibin .neq .i64 (.t 19) (.c (.int .i64 0))⟩] (some [5, 6, 20]))
(.cond (.t 20)
(.seq (.ops [⟨(some 21), none, .mov (.t 6)⟩,
⟨(some 2), none, .mov (.c (.slice none 0 0))⟩,
⟨(some 3), none, .mov (.c (.int .i64 0))⟩,
⟨(some 4), none, .mov (.t 21)⟩] (some [2, 3, 4]))
.ret)
.skip))
(.seq (.ops [⟨(some 22), none, .mov (.t 5)⟩,
⟨(some 23), none, .call 225 [(.t 22)]⟩,
⟨(some 7), none, .mov (.t 23)⟩] (some [5, 7]))
(.seq (.ops [⟨(some 24), none, .mov (.t 5)⟩,
⟨(some 25), none, .mov (.t 5)⟩,
⟨(some 26), none, .mov (.t 7)⟩,
⟨(some 27), none, .call 227 [(.t 25), (.t 26)]⟩,
⟨(some 28), none, .call 226 [(.t 24), (.t 27), (.c (.int .i64 0))]⟩,
⟨(some 8), none, .mov (.t 28)⟩] (some [5, 7, 8]))
(.seq (.ops [⟨(some 9), none, .mov (.c (.slice none 0 0))⟩] none)
(.seq (.ops [⟨(some 10), none, .mov (.c (.int .i64 0))⟩] none)
(.seq (.block 0 (.loop (.seq (.seq (.ops [⟨(some 29), none, .mov (.t 7)⟩,
⟨(some 30), none, .lenV (.t 29)⟩,
⟨(some 31), none, .ibin .gtr .i64 (.t 30) (.c (.int .i64 0))⟩] (some [5, 7, 8, 9, 10, 31]))
(.cond (.t 31)
.skip
(.exit 0)))
(.block 1 (.seq (.ops [⟨(some 32), none, .mov (.t 7)⟩,
⟨(some 33), none, .lenV (.t 32)⟩,
⟨(some 34), none, .mov (.c (.int .i64 0))⟩] none)
(.block 2 (.loop (.seq (.ops [⟨(some 35), none, .ibin .lss .i64 (.t 34) (.t 33)⟩] none)
(.seq (.cond (.t 35)
.skip
(.exit 2))
(.seq (.block 3 (.seq (.ops [⟨(some 36), none, .mov (.t 34)⟩,
⟨(some 37), none, .iaddr 1 (.t 32) (.t 34)⟩,
⟨(some 38), none, .load 1 false (.t 37)⟩,
⟨(some 11), none, .mov (.t 36)⟩,
⟨(some 12), none, .mov (.t 38)⟩] (some [5, 7, 8, 9, 10, 11, 12, 32, 33, 34]))
(.seq (.ops [⟨(some 39), none, .mov (.t 7)⟩,
⟨(some 40), none, .call 73 [(.t 39)]⟩,
⟨(some 41), none, .mov (.t 11)⟩,
⟨(some 42), none, .mov (.t 11)⟩,
⟨(some 43), none, .ibin .add .i64 (.t 42) (.c (.int .i64 1))⟩,
⟨(some 44), none, .call 228 [(.t 40), (.t 41), (.t 43)]⟩,
⟨(some 13), none, .mov (.t 44)⟩] (some [5, 7, 8, 9, 10, 12, 13, 32, 33, 34]))
(.seq (.ops [⟨(some 45), none, .mov (.t 5)⟩,
⟨(some 46), none, .mov (.t 12)⟩,
⟨(some 47), none, .bslice 1 1 [(.int .i64 0)] [(0, 1, (.t 46))]⟩,
⟨(some 48), none, .mov (.t 5)⟩,
⟨(some 49), none, .mov (.t 13)⟩,
⟨(some 50), none, .call 227 [(.t 48), (.t 49)]⟩,
⟨(some 51), none, .append 1 8 (.t 47) (.t 50)⟩,
⟨(some 52), none, .mov (.t 10)⟩,
⟨(some 53), none, .call 226 [(.t 45), (.t 51), (.t 52)]⟩,
⟨(some 54), none, .mov (.t 8)⟩,
⟨(some 55), none, .ibin .leq .i64 (.t 53) (.t 54)⟩] (some [5, 7, 8, 9, 10, 12, 13, 32, 33, 34, 55]))
(.cond (.t 55)
(.seq (.draw (.rd 0 ⟨(some 56), none, .mov (.t 9)⟩
(.rd 1 ⟨(some 57), none, .mov (.t 12)⟩
(.rd 4 ⟨(some 60), none, .mov (.t 13)⟩
(.rd 5 ⟨(some 61), none, .mov (.t 10)⟩
(.rd 6 ⟨(some 62), none, .mov (.t 5)⟩
(.rd 7 ⟨(some 63), none, .mov (.t 12)⟩
(.rd 8 ⟨(some 64), none, .iaddr 3 (.t 62) (.t 63)⟩
(.rd 9 ⟨(some 65), none, .faddr 2 (.t 64)⟩
(.rd 10 ⟨(some 66), none, .load 1 false (.t 65)⟩
(.rd 11 ⟨(some 67), none, .ibin .add .i64 (.t 61) (.t 66)⟩
(.wr 2 ⟨(some 58), none, .bslice 1 1 [(.int .i64 0)] [(0, 1, (.t 57))]⟩ [1]
(.wr 3 ⟨(some 59), none, .append 1 8 (.t 56) (.t 58)⟩ [0, 2]
(.wr 12 ⟨(some 9), none, .mov (.t 59)⟩ [3, 3, 0, 1, 2, 3]
(.rd 13 ⟨(some 7), none, .mov (.t 60)⟩
(.wr 14 ⟨(some 10), none, .mov (.t 67)⟩ [11, 13, 0, 1, 2, 3, 4, 5, 6, 7, 8, 9, 10, 11, 12, 13]
.fin .no)) .no) .no) .no))))))))))) (some [5, 7, 8, 9, 10]))
(.exit 2))
.skip)))))
(.ops [⟨(some 68), none, .ibin .add .i64 (.t 34) (.c (.int .i64 1))⟩,
⟨(some 34), none, .mov (.t 68)⟩] (some [5, 7, 8, 9, 10, 32, 33, 34]))))))))))))
(.seq (.ops [⟨(some 69), none, .mov (.t 9)⟩,
⟨(some 70), none, .mov (.t 8)⟩,
⟨(some 2), none, .mov (.t 69)⟩,
⟨(some 3), none, .mov (.t 70)⟩,
⟨(some 4), none, .mov (.c (.int .i64 0))⟩] (some [2, 3, 4]))
.ret)))))))))⟩
/-- guidevane/guidevanelaw08.Revisions -/
def ir211 : IFn := ⟨5, [.t 0],
(.seq (.ops [⟨(some 0), none, .mov (.c (.slice none 0 0))⟩] (some []))
(.seq (.ops [⟨(some 1), none, .build [(.string ⟨#[]⟩), (.int .i64 0), (.int .i64 0)] [(0, 1, (.c (.string ⟨#[97]⟩))), (1, 1, (.c (.int .i64 5))), (2, 1, (.c (.int .i64 3)))]⟩,
⟨(some 2), none, .build [(.string ⟨#[]⟩), (.int .i64 0), (.int .i64 0)] [(0, 1, (.c (.string ⟨#[98]⟩))), (1, 1, (.c (.int .i64 4))), (2, 1, (.c (.int .i64 2)))]⟩,
⟨(some 3), none, .build [(.string ⟨#[]⟩), (.int .i64 0), (.int .i64 0)] [(0, 1, (.c (.string ⟨#[99]⟩))), (1, 1, (.c (.int .i64 9))), (2, 1, (.c (.int .i64 5)))]⟩,
⟨(some 4), none, .bslice 3 3 [(.string ⟨#[]⟩), (.int .i64 0), (.int .i64 0)] [(0, 3, (.t 1)), (3, 3, (.t 2)), (6, 3, (.t 3))]⟩,
⟨(some 0), none, .mov (.t 4)⟩] (some [0]))
.ret))⟩
/-- guidevane/dispatch.ReachableAt -/
def ir212 : IFn := ⟨37, [.t 6, .t 7],
(.seq (.ops [⟨(some 3), none, .box (.t 0)⟩,
⟨(some 4), none, .box (.t 1)⟩,
⟨(some 5), none, .box (.t 2)⟩,
⟨(some 6), none, .mov (.c (.slice none 0 0))⟩,
⟨(some 7), none, .mov (.c (.int .i64 0))⟩] (some [3, 4, 5]))
(.seq (.ops [⟨(some 12), none, .load 3 true (.t 3)⟩,
⟨(some 13), none, .load 4 true (.t 4)⟩,
⟨(some 14), none, .call 219 [(.t 12), (.t 13)]⟩,
⟨(some 11), none, .mov (.t 14)⟩,
⟨(some 15), none, .extract 0 (.t 11)⟩,
⟨(some 16), none, .extract 1 (.t 11)⟩,
⟨(some 8), none, .alloc [(.int .i64 0), (.int .i64 0), (.slice none 0 0), (.int .i64 0), (.int .i64 0), (.int .i64 0), (.slice none 0 0)]⟩,
⟨none, none, .store 7 (.t 8) (.t 15)⟩,
⟨(some 9), none, .mov (.t 16)⟩] (some [4, 5, 8, 9]))
(.seq (.seq (.ops [⟨(some 17), none, .mov (.t 9)⟩,
⟨(some 18), none, .load 1 false (.t 5)⟩,
⟨(some 19), none, .faddr 3 (.t 4)⟩,
⟨(some 20), none, .load 1 false (.t 19)⟩,
⟨(some 21), none, .lenV (.t 20)⟩,
⟨(some 22), none, .call 216 [(.t 18), (.c (.int .i64 0)), (.t 21)]⟩,
⟨(some 23), none, .call 214 [(.t 22), (.c (.int .i64 2))]⟩,
⟨(some 24), none, .bslice 2 1 [(.int .i64 0)] [(0, 1, (.t 17)), (1, 1, (.t 23))]⟩,
⟨(some 25), none, .call 213 [(.t 24)]⟩,
⟨(some 9), none, .mov (.t 25)⟩] (some [5, 8, 9]))
(.seq (.ops [⟨(some 26), none, .mov (.t 9)⟩,
⟨(some 27), none, .ibin .neq .i64 (.t 26) (.c (.int .i64 0))⟩] (some [5, 8, 9, 27]))
(.cond (.t 27)
(.seq (.ops [⟨(some 28), none, .mov (.t 9)⟩,
⟨(some 6), none, .mov (.c (.slice none 0 0))⟩,
⟨(some 7), none, .mov (.t 28)⟩] (some [6, 7]))
.ret)
.skip)))
(.seq (.ops [⟨(some 29), none, .load 7 true (.t 8)⟩,
⟨(some 30), none, .build [(.int .i64 0), (.int .i64 0)] [(0, 1, (.c (.int .i64 (-1))))]⟩,
⟨(some 31), none, .call 229 [(.t 29), (.t 30)]⟩,
⟨(some 10), none, .alloc [(.slice none 0 0)]⟩,
⟨none, none, .store 1 (.t 10) (.t 31)⟩] (some [5, 8, 10]))
(.seq (.ops [⟨(some 32), none, .load 7 true (.t 8)⟩,
⟨(some 33), none, .load 1 false (.t 5)⟩,
⟨(some 34), none, .call 231 [(.t 32), (.t 33)]⟩,
⟨(some 35), none, .mkfunc 232 [] [(.t 10), (.t 5), (.t 8)]⟩,
⟨(some 36), none, .call 230 [(.t 34), (.t 35)]⟩,
⟨(some 6), none, .mov (.t 36)⟩,
⟨(some 7), none, .mov (.c (.int .i64 0))⟩] (some [6, 7]))
.ret)))))⟩
/-- guidevane/dispatch.first -/
def ir213 : IFn := ⟨15, [.t 2],
(.seq (.ops [⟨(some 2), none, .mov (.c (.int .i64 0))⟩] (some [0]))
(.seq (.seq (.ops [⟨(some 5), none, .mov (.t 0)⟩,
⟨(some 6), none, .lenV (.t 5)⟩,
⟨(some 7), none, .mov (.c (.int .i64 0))⟩] (some [5, 6, 7]))
(.block 0 (.loop (.seq (.ops [⟨(some 8), none, .ibin .lss .i64 (.t 7) (.t 6)⟩] none)
(.seq (.cond (.t 8)
.skip
(.exit 0))
(.seq (.block 1 (.seq (.ops [⟨(some 9), none, .iaddr 1 (.t 5) (.t 7)⟩,
⟨(some 10), none, .load 1 false (.t 9)⟩,
⟨(some 4), none, .mov (.t 10)⟩] (some [4, 5, 6, 7]))
(.seq (.ops [⟨(some 11), none, .mov (.t 4)⟩,
⟨(some 12), none, .ibin .neq .i64 (.t 11) (.c (.int .i64 0))⟩] (some [4, 5, 6, 7, 12]))
(.cond (.t 12)
(.seq (.ops [⟨(some 13), none, .mov (.t 4)⟩,
⟨(some 2), none, .mov (.t 13)⟩] (some [2]))
.ret)
.skip))))
(.ops [⟨(some 14), none, .ibin .add .i64 (.t 7) (.c (.int .i64 1))⟩,
⟨(some 7), none, .mov (.t 14)⟩] (some [5, 6, 7]))))))))
(.seq (.ops [⟨(some 2), none, .mov (.c (.int .i64 0))⟩] none)
.ret)))⟩
/-- guidevane/dispatch.unless -/
def ir214 : IFn := ⟨7, [.t 4],
(.seq (.ops [⟨(some 4), none, .mov (.c (.int .i64 0))⟩] (some [0, 1]))
(.seq (.seq (.ops [⟨(some 5), none, .mov (.t 0)⟩] (some [1, 5]))
(.cond (.t 5)
(.seq (.ops [⟨(some 4), none, .mov (.c (.int .i64 0))⟩] none)
.ret)
.skip))
(.seq (.ops [⟨(some 6), none, .mov (.t 1)⟩,
⟨(some 4), none, .mov (.t 6)⟩] (some [4]))
.ret)))⟩
/-- guidevane/dispatch.isPower -/
def ir215 : IFn := ⟨5, [.t 2],
(.seq (.ops [⟨(some 2), none, .mov (.c (.bool false))⟩] (some [0]))
(.seq (.ops [⟨(some 3), none, .mov (.t 0)⟩,
⟨(some 4), none, .call 235 [(.t 3), (.c (.int .i64 1000000))]⟩,
⟨(some 2), none, .mov (.t 4)⟩] (some [2]))
.ret))⟩
/-- guidevane/dispatch.within -/
def ir216 : IFn := ⟨15, [.t 6],
(.seq (.ops [⟨(some 6), none, .mov (.c (.bool false))⟩] (some [0, 1, 2]))
(.seq (.ops [⟨(some 7), none, .mov (.t 1)⟩,
⟨(some 8), none, .mov (.t 0)⟩,
⟨(some 9), none, .ibin .leq .i64 (.t 7) (.t 8)⟩,
⟨(some 10), none, .mov (.t 9)⟩,
⟨(some 11), (some (10, true)), .mov (.t 0)⟩,
⟨(some 12), (some (10, true)), .mov (.t 2)⟩,
⟨(some 13), (some (10, true)), .ibin .leq .i64 (.t 11) (.t 12)⟩,
⟨(some 14), none, .pick (.t 10) (.t 13) (.c (.bool false))⟩,
⟨(some 6), none, .mov (.t 14)⟩] (some [6]))
.ret))⟩
/-- guidevane/dispatch.powersErr -/
def ir217 : IFn := ⟨15, [.t 2],
(.seq (.ops [⟨(some 2), none, .mov (.c (.int .i64 0))⟩] (some [0]))
(.seq (.ops [⟨(some 4), none, .mov (.t 0)⟩,
⟨(some 5), none, .call 80 [(.t 4), (.f 236)]⟩,
⟨(some 3), none, .mov (.t 5)⟩] (some [0, 3]))
(.seq (.ops [⟨(some 6), none, .mov (.t 0)⟩,
⟨(some 7), none, .lenV (.t 6)⟩,
⟨(some 8), none, .ibin .leq .i64 (.t 7) (.c (.int .i64 300))⟩,
⟨(some 9), none, .call 214 [(.t 8), (.c (.int .i64 8))]⟩,
⟨(some 10), none, .mov (.t 3)⟩,
⟨(some 11), none, .un .not (.t 10)⟩,
⟨(some 12), none, .call 214 [(.t 11), (.c (.int .i64 2))]⟩,
⟨(some 13), none, .bslice 2 1 [(.int .i64 0)] [(0, 1, (.t 9)), (1, 1, (.t 12))]⟩,
⟨(some 14), none, .call 213 [(.t 13)]⟩,
⟨(some 2), none, .mov (.t 14)⟩] (some [2]))
.ret)))⟩
/-- guidevane/dispatch.size -/
def ir218 : IFn := ⟨7, [.t 2],
(.seq (.ops [⟨(some 2), none, .mov (.c (.int .i64 0))⟩] (some [0]))
(.seq (.ops [⟨(some 3), none, .mov (.t 0)⟩,
⟨(some 4), none, .mov (.t 0)⟩,
⟨(some 5), none, .un .neg (.t 4)⟩,
⟨(some 6), none, .minmax true (.t 3) [(.t 5)]⟩,
⟨(some 2), none, .mov (.t 6)⟩] (some [2]))
.ret))⟩
/-- guidevane/dispatch.open -/
def ir219 : IFn := ⟨18, [.cell 4 7 true, .t 5],
(.seq (.ops [⟨(some 2), none, .box (.t 0)⟩,
⟨(some 3), none, .box (.t 1)⟩,
⟨(some 4), none, .alloc [(.int .i64 0), (.int .i64 0), (.slice none 0 0), (.int .i64 0), (.int .i64 0), (.int .i64 0), (.slice none 0 0)]⟩,
⟨(some 5), none, .mov (.c (.int .i64 0))⟩] (some [2, 3, 4]))
(.seq (.ops [⟨(some 9), none, .load 3 true (.t 2)⟩,
⟨(some 10), none, .load 4 true (.t 3)⟩,
⟨(some 11), none, .call 237 [(.t 9), (.t 10)]⟩,
⟨(some 8), none, .mov (.t 11)⟩,
⟨(some 12), none, .extract 0 (.t 8)⟩,
⟨(some 13), none, .extract 1 (.t 8)⟩,
⟨(some 6), none, .mov (.t 12)⟩,
⟨(some 7), none, .mov (.t 13)⟩] (some [2, 3, 4, 7]))
(.seq (.ops [⟨(some 14), none, .load 3 true (.t 2)⟩,
⟨(some 15), none, .load 4 true (.t 3)⟩,
⟨(some 16), none, .build [(.int .i64 0), (.int .i64 0), (.slice none 0 0), (.int .i64 0), (.int .i64 0), (.int .i64 0), (.slice none 0 0)] [(0, 3, (.t 14)), (3, 4, (.t 15))]⟩,
⟨(some 17), none, .mov (.t 7)⟩,
⟨none, none, .store 7 (.t 4) (.t 16)⟩,
⟨(some 5), none, .mov (.t 17)⟩] (some [4, 5]))
.ret)))⟩
/-- (guidevane/dispatch.work).best -/
def ir220 (r : Nat → Code × Code) : IFn := ⟨92, [.t 4, .t 5, .t 6],
(.seq (.ops [⟨(some 2), none, .box (.t 0)⟩,
⟨(some 3), none, .box (.t 1)⟩,
⟨(some 4), none, .mov (.c (.slice none 0 0))⟩,
⟨(some 5), none, .mov (.c (.int .i64 0))⟩,
⟨(some 6), none, .mov (.c (.bool false))⟩] none)
(.seq (.ops [⟨(some 16), none, .load 7 true (.t 2)⟩,
⟨(some 17), none, .load 2 true (.t 3)⟩,
⟨(some 18), none, .call 229 [(.t 16), (.t 17)]⟩,
⟨(some 7), none, .alloc [(.slice none 0 0)]⟩,
⟨none, none, .store 1 (.t 7) (.t 18)⟩] none)
(.seq (.draw (.rd 0 ⟨(some 19), none, .load 1 false (.t 7)⟩
(.rd 1 ⟨(some 20), none, .iaddr 1 (.t 19) (.c (.int .i64 0))⟩
(.rd 2 ⟨(some 21), none, .load 1 false (.t 20)⟩
(.rd 3 ⟨(some 22), none, .load 7 true (.t 2)⟩
(.rd 4 ⟨(some 23), none, .faddr 3 (.t 2)⟩
(.rd 5 ⟨(some 24), none, .faddr 0 (.t 23)⟩
(.rd 6 ⟨(some 25), none, .load 1 false (.t 24)⟩
(.rd 7 ⟨(some 26), none, .faddr 3 (.t 2)⟩
(.rd 8 ⟨(some 27), none, .faddr 1 (.t 26)⟩
(.rd 9 ⟨(some 28), none, .load 1 false (.t 27)⟩
(.wr 10 ⟨(some 29), none, .call 234 [(.t 22), (.t 25), (.t 28)]⟩ [3, 6, 9]
(.rd 11 ⟨(some 30), none, .iaddr 1 (.t 21) (.t 29)⟩
(.rd 12 ⟨(some 31), none, .load 1 false (.t 30)⟩
(.rd 13 ⟨(some 8), none, .mov (.t 31)⟩
.fin))) .no))))))))))) none)
(.seq (.seq (.ops [⟨(some 32), none, .mov (.t 8)⟩,
⟨(some 33), none, .call 233 [(.t 32)]⟩,
⟨(some 34), none, .un .not (.t 33)⟩] none)
(.cond (.t 34)
(.seq (.ops [⟨(some 4), none, .mov (.c (.slice none 0 0))⟩,
⟨(some 5), none, .mov (.c (.int .i64 0))⟩,
⟨(some 6), none, .mov (.c (.bool false))⟩] none)
.ret)
.skip))
(.seq (.ops [⟨(some 9), none, .alloc [(.slice none 0 0)]⟩] none)
(.seq (.draw (.rd 0 ⟨(some 35), none, .faddr 3 (.t 2)⟩
(.rd 1 ⟨(some 36), none, .faddr 0 (.t 35)⟩
(.rd 2 ⟨(some 37), none, .load 1 false (.t 36)⟩
(.rd 3 ⟨(some 38), none, .faddr 3 (.t 2)⟩
(.rd 4 ⟨(some 39), none, .faddr 1 (.t 38)⟩
(.rd 5 ⟨(some 40), none, .load 1 false (.t 39)⟩
(.wr 6 ⟨(some 10), none, .alloc [(.int .i64 0)]⟩ []
(.wr 7 ⟨(some 11), none, .alloc [(.int .i64 0)]⟩ []
(.wr 8 ⟨none, none, .store 1 (.t 10) (.t 37)⟩ [6, 2, 0, 1, 2, 6, 7]
(.wr 9 ⟨none, none, .store 1 (.t 11) (.t 40)⟩ [7, 5, 8, 0, 1, 2, 3, 4, 5, 6, 7, 8]
.fin .no) .no) .no)
(.wr 7 ⟨(some 11), none, .alloc [(.int .i64 0)]⟩ []
(.wr 6 ⟨(some 10), none, .alloc [(.int .i64 0)]⟩ []
(.wr 8 ⟨none, none, .store 1 (.t 10) (.t 37)⟩ [6, 2, 0, 1, 2, 6, 7]
(.wr 9 ⟨none, none, .store 1 (.t 11) (.t 40)⟩ [7, 5, 8, 0, 1, 2, 3, 4, 5, 6, 7, 8]
.fin .no) .no) .no) .no)))))))) none)
(.seq (.seq (.ops [⟨(some 41), none, .faddr 3 (.t 2)⟩,
⟨(some 42), none, .faddr 3 (.t 41)⟩,
⟨(some 43), none, .load 1 false (.t 42)⟩,
⟨(some 44), none, .lenV (.t 43)⟩,
⟨(some 45), none, .mov (.c (.int .i64 0))⟩] none)
(.block 0 (.loop (.seq (.ops [⟨(some 46), none, .ibin .lss .i64 (.t 45) (.t 44)⟩] none)
(.seq (.cond (.t 46)
.skip
(.exit 0))
(.seq (.block 1 (.seq (.ops [⟨(some 47), none, .mov (.t 45)⟩,
⟨(some 12), none, .alloc [(.int .i64 0)]⟩,
⟨none, none, .store 1 (.t 12) (.t 47)⟩] none)
(.seq (.draw (.rd 0 ⟨(some 48), none, .load 1 false (.t 7)⟩
(.rd 1 ⟨(some 49), none, .load 1 false (.t 12)⟩
(.rd 2 ⟨(some 50), none, .iaddr 1 (.t 48) (.t 49)⟩
(.rd 3 ⟨(some 51), none, .load 1 false (.t 50)⟩
(.rd 4 ⟨(some 52), none, .load 7 true (.t 2)⟩
(.rd 5 ⟨(some 53), none, .load 1 false (.t 10)⟩
(.rd 6 ⟨(some 54), none, .load 1 false (.t 11)⟩
(.wr 7 ⟨(some 55), none, .call 234 [(.t 52), (.t 53), (.t 54)]⟩ [4, 5, 6]
(.rd 8 ⟨(some 56), none, .iaddr 1 (.t 51) (.t 55)⟩
(.rd 9 ⟨(some 57), none, .load 1 false (.t 56)⟩
(.wr 10 ⟨(some 13), none, .alloc [(.int .i64 0)]⟩ []
(.wr 11 ⟨none, none, .store 1 (.t 13) (.t 57)⟩ [10, 9, 7, 0, 1, 2, 3, 4, 5, 6, 7, 8, 9, 10]
.fin .no) .no)))
(.wr 10 ⟨(some 13), none, .alloc [(.int .i64 0)]⟩ []
(.wr 7 ⟨(some 55), none, .call 234 [(.t 52), (.t 53), (.t 54)]⟩ [4, 5, 6]
(.rd 8 ⟨(some 56), none, .iaddr 1 (.t 51) (.t 55)⟩
(.rd 9 ⟨(some 57), none, .load 1 false (.t 56)⟩
(.wr 11 ⟨none, none, .store 1 (.t 13) (.t 57)⟩ [10, 9, 7, 0, 1, 2, 3, 4, 5, 6, 7, 8, 9, 10]
.fin .no))) .no) .no))))))))) none)
(.seq (.ops [⟨(some 58), none, .load 7 true (.t 2)⟩,
⟨(some 59), none, .load 1 false (.t 10)⟩,
⟨(some 60), none, .load 1 false (.t 12)⟩,
⟨(some 61), none, .call 238 [(.t 58), (.t 59), (.t 60)]⟩] none)
(.block 2 (.range 92 (.t 61) #[62, 63] (r 0).1 (r 0).2))))))
(.ops [⟨(some 89), none, .ibin .add .i64 (.t 45) (.c (.int .i64 1))⟩,
⟨(some 45), none, .mov (.t 89)⟩] none)))))))
(.seq (.ops [⟨(some 90), none, .load 1 false (.t 9)⟩,
⟨(some 91), none, .mov (.t 8)⟩,
⟨(some 4), none, .mov (.t 90)⟩,
⟨(some 5), none, .mov (.t 91)⟩,
⟨(some 6), none, .mov (.c (.bool true))⟩] (some [4, 5, 6]))
.ret))))))))⟩
def ir220a0 : ICode :=
(.seq (.ops [⟨(some 14), none, .mov (.t 62)⟩] none)
(.ops [⟨(some 15), none, .mov (.t 63)⟩] none))
def ir220b0 : ICode :=
(.block 3 (.seq (.draw (.rd 0 ⟨(some 64), none, .load 7 true (.t 2)⟩
(.rd 1 ⟨(some 65), none, .load 1 false (.t 12)⟩
(.rd 2 ⟨(some 66), none, .load 1 false (.t 11)⟩
(.rd 3 ⟨(some 67), none, .mov (.t 14)⟩
(.rd 5 ⟨(some 69), none, .load 1 false (.t 7)⟩
(.rd 6 ⟨(some 70), none, .load 1 false (.t 12)⟩
(.rd 7 ⟨(some 71), none, .ibin .add .i64 (.t 70) (.c (.int .i64 1))⟩
(.rd 8 ⟨(some 72), none, .iaddr 1 (.t 69) (.t 71)⟩
(.rd 9 ⟨(some 73), none, .load 1 false (.t 72)⟩
(.rd 10 ⟨(some 74), none, .load 7 true (.t 2)⟩
(.rd 11 ⟨(some 75), none, .mov (.t 15)⟩
(.rd 12 ⟨(some 76), none, .mov (.t 14)⟩
(.rd 17 ⟨(some 81), none, .load 1 false (.t 13)⟩
(.wr 4 ⟨(some 68), none, .call 239 [(.t 64), (.t 65), (.t 66), (.t 67)]⟩ [0, 1, 2, 3]
(.wr 13 ⟨(some 77), none, .call 234 [(.t 74), (.t 75), (.t 76)]⟩ [10, 11, 12, 4]
(.rd 14 ⟨(some 78), none, .iaddr 1 (.t 73) (.t 77)⟩
(.rd 15 ⟨(some 79), none, .load 1 false (.t 78)⟩
(.rd 16 ⟨(some 80), none, .ibin .add .i64 (.t 68) (.t 79)⟩
(.rd 18 ⟨(some 82), none, .ibin .eql .i64 (.t 80) (.t 81)⟩
.fin)))) .no) .no)))))))))))))) (some [9, 10, 11, 14, 15, 82]))
(.cond (.t 82)
(.seq (.ops [⟨(some 83), none, .load 1 false (.t 9)⟩,
⟨(some 84), none, .mov (.t 14)⟩,
⟨(some 85), none, .bslice 1 1 [(.int .i64 0)] [(0, 1, (.t 84))]⟩,
⟨(some 86), none, .append 1 8 (.t 83) (.t 85)⟩,
⟨(some 87), none, .mov (.t 15)⟩,
⟨(some 88), none, .mov (.t 14)⟩,
⟨none, none, .store 1 (.t 9) (.t 86)⟩,
⟨none, none, .store 1 (.t 10) (.t 87)⟩,
⟨none, none, .store 1 (.t 11) (.t 88)⟩] (some []))
(.exit 2))
.skip)))
/-- guidevane/dispatch.openPlan -/
def ir221 : IFn := ⟨50, [.cell 6 7 true, .t 7, .t 8],
(.seq (.ops [⟨(some 3), none, .box (.t 0)⟩,
⟨(some 4), none, .box (.t 1)⟩,
⟨(some 6), none, .alloc [(.int .i64 0), (.int .i64 0), (.slice none 0 0), (.int .i64 0), (.int .i64 0), (.int .i64 0), (.slice none 0 0)]⟩,
⟨(some 7), none, .mov (.c (.slice none 0 0))⟩,
⟨(some 8), none, .mov (.c (.int .i64 0))⟩] (some [2, 3, 4, 6]))
(.seq (.ops [⟨(some 15), none, .load 3 true (.t 3)⟩,
⟨(some 16), none, .load 4 true (.t 4)⟩,
⟨(some 17), none, .call 219 [(.t 15), (.t 16)]⟩,
⟨(some 14), none, .mov (.t 17)⟩,
⟨(some 18), none, .extract 0 (.t 14)⟩,
⟨(some 19), none, .extract 1 (.t 14)⟩,
⟨(some 9), none, .alloc [(.int .i64 0), (.int .i64 0), (.slice none 0 0), (.int .i64 0), (.int .i64 0), (.int .i64 0), (.slice none 0 0)]⟩,
⟨none, none, .store 7 (.t 9) (.t 18)⟩,
⟨(some 10), none, .mov (.t 19)⟩] (some [2, 4, 6, 9, 10]))
(.seq (.ops [⟨(some 20), none, .mov (.t 2)⟩,
⟨(some 21), none, .mkfunc 240 [] [(.t 9)]⟩,
⟨(some 22), none, .call 80 [(.t 20), (.t 21)]⟩,
⟨(some 11), none, .mov (.t 22)⟩] (some [2, 4, 6, 9, 10, 11]))
(.seq (.seq (.ops [⟨(some 23), none, .mov (.t 10)⟩,
⟨(some 24), none, .mov (.t 2)⟩,
⟨(some 25), none, .lenV (.t 24)⟩,
⟨(some 26), none, .faddr 3 (.t 4)⟩,
⟨(some 27), none, .load 1 false (.t 26)⟩,
⟨(some 28), none, .lenV (.t 27)⟩,
⟨(some 29), none, .ibin .eql .i64 (.t 25) (.t 28)⟩,
⟨(some 30), none, .call 214 [(.t 29), (.c (.int .i64 10))]⟩,
⟨(some 31), none, .mov (.t 11)⟩,
⟨(some 32), none, .un .not (.t 31)⟩,
⟨(some 33), none, .call 214 [(.t 32), (.c (.int .i64 6))]⟩,
⟨(some 34), none, .bslice 3 1 [(.int .i64 0)] [(0, 1, (.t 23)), (1, 1, (.t 30)), (2, 1, (.t 33))]⟩,
⟨(some 35), none, .call 213 [(.t 34)]⟩,
⟨(some 10), none, .mov (.t 35)⟩] (some [2, 6, 9, 10]))
(.seq (.ops [⟨(some 36), none, .mov (.t 10)⟩,
⟨(some 37), none, .ibin .neq .i64 (.t 36) (.c (.int .i64 0))⟩] (some [2, 6, 9, 10, 37]))
(.cond (.t 37)
(.seq (.ops [⟨(some 38), none, .load 7 true (.t 9)⟩,
⟨(some 39), none, .mov (.t 10)⟩,
⟨none, none, .store 7 (.t 6) (.t 38)⟩,
⟨(some 7), none, .mov (.c (.slice none 0 0))⟩,
⟨(some 8), none, .mov (.t 39)⟩] (some [6, 7, 8]))
.ret)
.skip)))
(.seq (.ops [⟨(some 41), none, .load 7 true (.t 9)⟩,
⟨(some 42), none, .mov (.t 2)⟩,
⟨(some 43), none, .call 241 [(.t 41), (.t 42)]⟩,
⟨(some 40), none, .mov (.t 43)⟩,
⟨(some 44), none, .extract 0 (.t 40)⟩,
⟨(some 45), none, .extract 1 (.t 40)⟩,
⟨(some 12), none, .mov (.t 44)⟩,
⟨(some 13), none, .mov (.t 45)⟩] (some [6, 9, 12, 13]))
(.seq (.draw (.rd 0 ⟨(some 46), none, .load 7 true (.t 9)⟩
(.rd 1 ⟨(some 47), none, .mov (.t 12)⟩
(.rd 2 ⟨(some 48), none, .mov (.t 13)⟩
(.wr 3 ⟨(some 49), none, .call 214 [(.t 48), (.c (.int .i64 22))]⟩ [2]
(.wr 4 ⟨none, none, .store 7 (.t 6) (.t 46)⟩ [0, 3, 0]
(.rd 5 ⟨(some 7), none, .mov (.t 47)⟩
(.rd 6 ⟨(some 8), none, .mov (.t 49)⟩
.fin)) .no) .no)))) (some [6, 7, 8]))
.ret))))))⟩
/-- (guidevane/dispatch.work).isMode -/
def ir222 : IFn := ⟨12, [.t 4],
(.seq (.ops [⟨(some 2), none, .box (.t 0)⟩,
⟨(some 4), none, .mov (.c (.bool false))⟩] (some [1, 2]))
(.seq (.ops [⟨(some 5), none, .mov (.t 1)⟩,
⟨(some 6), none, .faddr 0 (.t 2)⟩,
⟨(some 7), none, .faddr 2 (.t 6)⟩,
⟨(some 8), none, .load 1 false (.t 7)⟩,
⟨(some 9), none, .lenV (.t 8)⟩,
⟨(some 10), none, .ibin .sub .i64 (.t 9) (.c (.int .i64 1))⟩,
⟨(some 11), none, .call 216 [(.t 5), (.c (.int .i64 0)), (.t 10)]⟩,
⟨(some 4), none, .mov (.t 11)⟩] (some [4]))
.ret))⟩
/-- (guidevane/dispatch.work).given -/
def ir223 : IFn := ⟨32, [.t 8],
(.seq (.ops [⟨(some 4), none, .box (.t 0)⟩,
⟨(some 8), none, .mov (.c (.int .i64 0))⟩] (some [1, 2, 3, 4]))
(.seq (.ops [⟨(some 9), none, .mov (.c (.int .i64 0))⟩] none)
(.seq (.block 0 (.loop (.seq (.seq (.ops [⟨(some 10), none, .mov (.t 2)⟩,
⟨(some 11), none, .mov (.t 9)⟩,
⟨(some 12), none, .ibin .add .i64 (.t 10) (.t 11)⟩,
⟨(some 13), none, .faddr 3 (.t 4)⟩,
⟨(some 14), none, .faddr 3 (.t 13)⟩,
⟨(some 15), none, .load 1 false (.t 14)⟩,
⟨(some 16), none, .lenV (.t 15)⟩,
⟨(some 17), none, .ibin .lss .i64 (.t 12) (.t 16)⟩] (some [1, 2, 3, 4, 9, 17]))
(.cond (.t 17)
.skip
(.exit 0)))
(.block 1 (.seq (.seq (.ops [⟨(some 18), none, .load 7 true (.t 4)⟩,
⟨(some 19), none, .mov (.t 1)⟩,
⟨(some 20), none, .mov (.t 2)⟩,
⟨(some 21), none, .mov (.t 9)⟩,
⟨(some 22), none, .ibin .add .i64 (.t 20) (.t 21)⟩,
⟨(some 23), none, .mov (.t 3)⟩,
⟨(some 24), none, .call 242 [(.t 18), (.t 19), (.t 22), (.t 23)]⟩,
⟨(some 1), none, .mov (.t 24)⟩] (some [1, 2, 3, 4, 9]))
(.seq (.ops [⟨(some 25), none, .load 7 true (.t 4)⟩,
⟨(some 26), none, .mov (.t 1)⟩,
⟨(some 27), none, .call 243 [(.t 25), (.t 26)]⟩,
⟨(some 28), none, .un .not (.t 27)⟩] (some [1, 2, 3, 4, 9, 28]))
(.cond (.t 28)
(.exit 0)
.skip)))
(.ops [⟨(some 29), none, .mov (.t 9)⟩,
⟨(some 30), none, .ibin .add .i64 (.t 29) (.c (.int .i64 1))⟩,
⟨(some 9), none, .mov (.t 30)⟩] (some [1, 2, 3, 4, 9])))))))
(.seq (.ops [⟨(some 31), none, .mov (.t 9)⟩,
⟨(some 8), none, .mov (.t 31)⟩] (some [8]))
.ret))))⟩
/-- guidevane/dispatch.openRevisions -/
def ir224 : IFn := ⟨13, [.t 2, .t 3],
(.seq (.ops [⟨(some 2), none, .mov (.c (.slice none 0 0))⟩,
⟨(some 3), none, .mov (.c (.int .i64 0))⟩] (some [0]))
(.seq (.ops [⟨(some 7), none, .mov (.t 0)⟩,
⟨(some 8), none, .call 244 [(.t 7)]⟩,
⟨(some 6), none, .mov (.t 8)⟩,
⟨(some 9), none, .extract 0 (.t 6)⟩,
⟨(some 10), none, .extract 1 (.t 6)⟩,
⟨(some 4), none, .mov (.t 9)⟩,
⟨(some 5), none, .mov (.t 10)⟩] (some [0, 5]))
(.seq (.ops [⟨(some 11), none, .mov (.t 0)⟩,
⟨(some 12), none, .mov (.t 5)⟩,
⟨(some 2), none, .mov (.t 11)⟩,
⟨(some 3), none, .mov (.t 12)⟩] (some [2, 3]))
.ret)))⟩
/-- (guidevane/dispatch.revisions).every -/
def ir225 : IFn := ⟨16, [.t 2],
(.seq (.ops [⟨(some 2), none, .mov (.c (.slice none 0 0))⟩] (some [0]))
(.seq (.ops [⟨(some 3), none, .mov (.c (.slice none 0 0))⟩] none)
(.seq (.seq (.ops [⟨(some 5), none, .mov (.t 0)⟩,
⟨(some 6), none, .lenV (.t 5)⟩,
⟨(some 7), none, .mov (.c (.int .i64 0))⟩] (some [3, 6, 7]))
(.block 0 (.loop (.seq (.ops [⟨(some 8), none, .ibin .lss .i64 (.t 7) (.t 6)⟩] none)
(.seq (.cond (.t 8)
.skip
(.exit 0))
(.seq (.block 1 (.seq (.ops [⟨(some 9), none, .mov (.t 7)⟩,
⟨(some 4), none, .mov (.t 9)⟩] (some [3, 4, 6, 7]))
(.ops [⟨(some 10), none, .mov (.t 3)⟩,
⟨(some 11), none, .mov (.t 4)⟩,
⟨(some 12), none, .bslice 1 1 [(.int .i64 0)] [(0, 1, (.t 11))]⟩,
⟨(some 13), none, .append 1 8 (.t 10) (.t 12)⟩,
⟨(some 3), none, .mov (.t 13)⟩] (some [3, 6, 7]))))
(.ops [⟨(some 14), none, .ibin .add .i64 (.t 7) (.c (.int .i64 1))⟩,
⟨(some 7), none, .mov (.t 14)⟩] (some [3, 6, 7]))))))))
(.seq (.ops [⟨(some 15), none, .mov (.t 3)⟩,
⟨(some 2), none, .mov (.t 15)⟩] (some [2]))
.ret))))⟩
/-- (guidevane/dispatch.revisions).lateness -/
def ir226 : IFn := ⟨34, [.t 6],
(.seq (.ops [⟨(some 6), none, .mov (.c (.int .i64 0))⟩] (some [0, 1, 2]))
(.seq (.ops [⟨(some 7), none, .mov (.c (.int .i64 (-200000)))⟩] none)
(.seq (.seq (.ops [⟨(some 10), none, .mov (.t 1)⟩,
⟨(some 11), none, .lenV (.t 10)⟩,
⟨(some 12), none, .mov (.c (.int .i64 0))⟩] (some [0, 2, 7, 10, 11, 12]))
(.block 0 (.loop (.seq (.ops [⟨(some 13), none, .ibin .lss .i64 (.t 12) (.t 11)⟩] none)
(.seq (.cond (.t 13)
.skip
(.exit 0))
(.seq (.block 1 (.seq (.ops [⟨(some 14), none, .iaddr 1 (.t 10) (.t 12)⟩,
⟨(some 15), none, .load 1 false (.t 14)⟩,
⟨(some 9), none, .mov (.t 15)⟩] (some [0, 2, 7, 9, 10, 11, 12]))
(.seq (.ops [⟨(some 16), none, .mov (.t 2)⟩,
⟨(some 17), none, .mov (.t 0)⟩,
⟨(some 18), none, .mov (.t 9)⟩,
⟨(some 19), none, .iaddr 3 (.t 17) (.t 18)⟩,
⟨(some 20), none, .faddr 2 (.t 19)⟩,
⟨(some 21), none, .load 1 false (.t 20)⟩,
⟨(some 22), none, .ibin .add .i64 (.t 16) (.t 21)⟩,
⟨(some 2), none, .mov (.t 22)⟩] (some [0, 2, 7, 9, 10, 11, 12]))
(.ops [⟨(some 23), none, .mov (.t 7)⟩,
⟨(some 24), none, .mov (.t 2)⟩,
⟨(some 25), none, .mov (.t 0)⟩,
⟨(some 26), none, .mov (.t 9)⟩,
⟨(some 27), none, .iaddr 3 (.t 25) (.t 26)⟩,
⟨(some 28), none, .faddr 1 (.t 27)⟩,
⟨(some 29), none, .load 1 false (.t 28)⟩,
⟨(some 30), none, .ibin .sub .i64 (.t 24) (.t 29)⟩,
⟨(some 31), none, .minmax true (.t 23) [(.t 30)]⟩,
⟨(some 7), none, .mov (.t 31)⟩] (some [0, 2, 7, 10, 11, 12])))))
(.ops [⟨(some 32), none, .ibin .add .i64 (.t 12) (.c (.int .i64 1))⟩,
⟨(some 12), none, .mov (.t 32)⟩] (some [0, 2, 7, 10, 11, 12]))))))))
(.seq (.ops [⟨(some 33), none, .mov (.t 7)⟩,
⟨(some 6), none, .mov (.t 33)⟩] (some [6]))
.ret))))⟩
/-- (guidevane/dispatch.revisions).byDue -/
def ir227 : IFn := ⟨12, [.t 4],
(.seq (.ops [⟨(some 2), none, .box (.t 0)⟩,
⟨(some 4), none, .mov (.c (.slice none 0 0))⟩] (some [1, 2]))
(.seq (.ops [⟨(some 6), none, .mov (.t 1)⟩,
⟨(some 7), none, .call 73 [(.t 6)]⟩,
⟨(some 5), none, .mov (.t 7)⟩] (some [2, 5]))
(.seq (.ops [⟨(some 8), none, .mov (.t 5)⟩,
⟨(some 9), none, .mkfunc 245 [] [(.t 2)]⟩,
⟨(some 10), none, .call 106 [(.t 8), (.t 9)]⟩] (some [5]))
(.seq (.ops [⟨(some 11), none, .mov (.t 5)⟩,
⟨(some 4), none, .mov (.t 11)⟩] (some [4]))
.ret))))⟩
/-- slices.Delete[[]int,int] -/
def ir228 : IFn := ⟨33, [.t 6],
(.seq (.ops [⟨(some 6), none, .mov (.c (.slice none 0 0))⟩] (some [0, 1, 2]))
(.seq (.ops [⟨(some 8), none, .mov (.t 0)⟩,
⟨(some 9), none, .mov (.t 1)⟩,
⟨(some 10), none, .mov (.t 2)⟩,
⟨(some 11), none, .mov (.t 0)⟩,
⟨(some 12), none, .lenV (.t 11)⟩,
⟨(some 13), none, .sliceV 1 (.t 8) (some (.t 9)) (some (.t 10)) (some (.t 12))⟩] (some [0, 1, 2]))
(.seq (.seq (.ops [⟨(some 14), none, .mov (.t 1)⟩,
⟨(some 15), none, .mov (.t 2)⟩,
⟨(some 16), none, .ibin .eql .i64 (.t 14) (.t 15)⟩] (some [0, 1, 2, 16]))
(.cond (.t 16)
(.seq (.ops [⟨(some 17), none, .mov (.t 0)⟩,
⟨(some 6), none, .mov (.t 17)⟩] (some [6]))
.ret)
.skip))
(.seq (.ops [⟨(some 18), none, .mov (.t 0)⟩,
⟨(some 19), none, .lenV (.t 18)⟩,
⟨(some 7), none, .mov (.t 19)⟩] (some [0, 1, 2, 7]))
(.seq (.draw (.rd 0 ⟨(some 20), none, .mov (.t 0)⟩
(.rd 1 ⟨(some 21), none, .mov (.t 1)⟩
(.rd 2 ⟨(some 22), none, .sliceV 1 (.t 20) none (some (.t 21)) none⟩
(.rd 3 ⟨(some 23), none, .mov (.t 0)⟩
(.rd 4 ⟨(some 24), none, .mov (.t 2)⟩
(.rd 5 ⟨(some 25), none, .sliceV 1 (.t 23) (some (.t 24)) none none⟩
(.wr 6 ⟨(some 26), none, .append 1 8 (.t 22) (.t 25)⟩ [2, 5]
(.wr 7 ⟨(some 0), none, .mov (.t 26)⟩ [6, 6, 0, 1, 2, 3, 4, 5, 6]
.fin .no) .no))))))) (some [0, 7]))
(.seq (.ops [⟨(some 27), none, .mov (.t 0)⟩,
⟨(some 28), none, .mov (.t 0)⟩,
⟨(some 29), none, .lenV (.t 28)⟩,
⟨(some 30), none, .mov (.t 7)⟩,
⟨(some 31), none, .sliceV 1 (.t 27) (some (.t 29)) (some (.t 30)) none⟩,
⟨none, none, .clr 1 [(.int .i64 0)] (.t 31)⟩] (some [0]))
(.seq (.ops [⟨(some 32), none, .mov (.t 0)⟩,
⟨(some 6), none, .mov (.t 32)⟩] (some [6]))
.ret)))))))⟩
/-- (guidevane/dispatch.work).potentials -/
def ir229 (r : Nat → Code × Code) : IFn := ⟨117, [.t 4],
(.seq (.ops [⟨(some 2), none, .box (.t 0)⟩,
⟨(some 3), none, .box (.t 1)⟩,
⟨(some 4), none, .mov (.c (.slice none 0 0))⟩] none)
(.seq (.draw (.rd 0 ⟨(some 14), none, .faddr 3 (.t 2)⟩
(.rd 1 ⟨(some 15), none, .faddr 3 (.t 14)⟩
(.rd 2 ⟨(some 16), none, .load 1 false (.t 15)⟩
(.rd 3 ⟨(some 17), none, .lenV (.t 16)⟩
(.rd 4 ⟨(some 18), none, .load 7 true (.t 2)⟩
(.rd 5 ⟨(some 19), none, .faddr 0 (.t 2)⟩
(.rd 6 ⟨(some 20), none, .faddr 1 (.t 19)⟩
(.rd 7 ⟨(some 21), none, .load 1 false (.t 20)⟩
(.rd 8 ⟨(some 22), none, .faddr 0 (.t 2)⟩
(.rd 9 ⟨(some 23), none, .faddr 2 (.t 22)⟩
(.rd 10 ⟨(some 24), none, .load 1 false (.t 23)⟩
(.rd 11 ⟨(some 25), none, .lenV (.t 24)⟩
(.rd 12 ⟨(some 26), none, .ibin .sub .i64 (.t 25) (.c (.int .i64 1))⟩
(.wr 13 ⟨(some 27), none, .call 234 [(.t 18), (.t 21), (.t 26)]⟩ [4, 7, 12]
(.rd 14 ⟨(some 28), none, .ibin .add .i64 (.t 27) (.c (.int .i64 1))⟩
(.rd 15 ⟨(some 5), none, .mov (.t 17)⟩
(.rd 16 ⟨(some 6), none, .mov (.t 28)⟩
.fin))) .no)))))))))))))) none)
(.seq (.ops [⟨(some 29), none, .mov (.t 5)⟩,
⟨(some 30), none, .ibin .add .i64 (.t 29) (.c (.int .i64 1))⟩,
⟨(some 31), none, .mslice 1 24 [(.slice none 0 0)] (.t 30) (.t 30)⟩,
⟨(some 7), none, .alloc [(.slice none 0 0)]⟩,
⟨none, none, .store 1 (.t 7) (.t 31)⟩] none)
(.seq (.seq (.ops [⟨(some 32), none, .mov (.t 5)⟩,
⟨(some 8), none, .alloc [(.int .i64 0)]⟩,
⟨none, none, .store 1 (.t 8) (.t 32)⟩] none)
(.block 0 (.loop (.seq (.seq (.ops [⟨(some 33), none, .load 1 false (.t 8)⟩,
⟨(some 34), none, .ibin .geq .i64 (.t 33) (.c (.int .i64 0))⟩] none)
(.cond (.t 34)
.skip
(.exit 0)))
(.seq (.block 1 (.seq (.draw (.rd 0 ⟨(some 37), none, .load 1 false (.t 7)⟩
(.rd 1 ⟨(some 38), none, .load 1 false (.t 8)⟩
(.rd 3 ⟨(some 40), none, .mov (.t 6)⟩
(.wr 2 ⟨(some 39), none, .bslice 1 1 [(.int .i64 0)] [(0, 1, (.c (.int .i64 (-100000000000))))]⟩ []
(.wr 4 ⟨(some 41), none, .call 246 [(.t 39), (.t 40)]⟩ [2, 3]
(.rd 5 ⟨(some 42), none, .iaddr 1 (.t 37) (.t 38)⟩
(.wr 6 ⟨none, none, .store 1 (.t 42) (.t 41)⟩ [5, 4, 4, 0, 1, 2, 3, 4]
.fin .no)) .no) .no)))) none)
(.seq (.ops [⟨(some 43), none, .faddr 0 (.t 2)⟩,
⟨(some 44), none, .faddr 0 (.t 43)⟩,
⟨(some 45), none, .load 1 false (.t 44)⟩,
⟨(some 9), none, .mov (.t 45)⟩] none)
(.block 2 (.loop (.seq (.seq (.ops [⟨(some 46), none, .mov (.t 9)⟩,
⟨(some 47), none, .faddr 0 (.t 2)⟩,
⟨(some 48), none, .faddr 1 (.t 47)⟩,
⟨(some 49), none, .load 1 false (.t 48)⟩,
⟨(some 50), none, .ibin .leq .i64 (.t 46) (.t 49)⟩] none)
(.cond (.t 50)
.skip
(.exit 2)))
(.seq (.block 3 (.seq (.ops [⟨(some 53), none, .faddr 0 (.t 2)⟩,
⟨(some 54), none, .faddr 2 (.t 53)⟩,
⟨(some 55), none, .load 1 false (.t 54)⟩,
⟨(some 56), none, .lenV (.t 55)⟩,
⟨(some 57), none, .mov (.c (.int .i64 0))⟩] none)
(.block 4 (.loop (.seq (.ops [⟨(some 58), none, .ibin .lss .i64 (.t 57) (.t 56)⟩] none)
(.seq (.cond (.t 58)
.skip
(.exit 4))
(.seq (.block 5 (.seq (.ops [⟨(some 59), none, .mov (.t 57)⟩,
⟨(some 10), none, .alloc [(.int .i64 0)]⟩,
⟨none, none, .store 1 (.t 10) (.t 59)⟩] none)
(.seq (.draw (.rd 0 ⟨(some 60), none, .load 1 false (.t 7)⟩
(.rd 1 ⟨(some 61), none, .load 1 false (.t 8)⟩
(.rd 2 ⟨(some 62), none, .iaddr 1 (.t 60) (.t 61)⟩
(.rd 3 ⟨(some 63), none, .load 1 false (.t 62)⟩
(.rd 4 ⟨(some 64), none, .load 7 true (.t 2)⟩
(.rd 5 ⟨(some 65), none, .mov (.t 9)⟩
(.rd 6 ⟨(some 66), none, .load 1 false (.t 10)⟩
(.wr 7 ⟨(some 67), none, .call 234 [(.t 64), (.t 65), (.t 66)]⟩ [4, 5, 6]
(.rd 8 ⟨(some 68), none, .iaddr 1 (.t 63) (.t 67)⟩
(.wr 9 ⟨(some 11), none, .alloc [(.pointer none)]⟩ []
(.wr 10 ⟨none, none, .store 1 (.t 11) (.t 68)⟩ [9, 8, 7, 0, 1, 2, 3, 4, 5, 6, 7, 8, 9]
.fin .no) .no))
(.wr 9 ⟨(some 11), none, .alloc [(.pointer none)]⟩ []
(.wr 7 ⟨(some 67), none, .call 234 [(.t 64), (.t 65), (.t 66)]⟩ [4, 5, 6]
(.rd 8 ⟨(some 68), none, .iaddr 1 (.t 63) (.t 67)⟩
(.wr 10 ⟨none, none, .store 1 (.t 11) (.t 68)⟩ [9, 8, 7, 0, 1, 2, 3, 4, 5, 6, 7, 8, 9]
.fin .no)) .no) .no))))))))) none)
(.seq (.seq (.ops [⟨(some 69), none, .load 1 false (.t 8)⟩,
⟨(some 70), none, .mov (.t 5)⟩,
⟨(some 71), none, .ibin .eql .i64 (.t 69) (.t 70)⟩] none)
(.cond (.t 71)
(.seq (.ops [⟨(some 72), none, .load 1 false (.t 11)⟩,
⟨(some 73), none, .faddr 3 (.t 2)⟩,
⟨(some 74), none, .faddr 2 (.t 73)⟩,
⟨(some 75), none, .load 1 false (.t 74)⟩,
⟨(some 76), none, .mov (.t 9)⟩,
⟨(some 77), none, .ibin .mul .i64 (.t 75) (.t 76)⟩,
⟨(some 78), none, .nilchk (.t 72)⟩,
⟨none, none, .store 1 (.t 78) (.t 77)⟩] (some [0, 1, 2, 3, 4, 5, 6, 7, 8, 9, 12, 13, 14, 15, 16, 17, 18, 19, 20, 21, 22, 23, 24, 25, 26, 27, 28, 29, 30, 31, 32, 33, 34, 35, 36, 37, 38, 39, 40, 41, 42, 43, 44, 45, 46, 47, 48, 49, 50, 51, 52, 53, 54, 55, 56, 57, 72, 73, 74, 75, 76, 77, 78, 89, 90, 91, 92, 93, 94, 95, 96, 97, 98, 99, 100, 101, 102, 103, 104, 105, 106, 107, 108, 109, 110, 111, 112, 113, 115, 116]))
(.exit 5))
.skip))
(.seq (.seq (.ops [⟨(some 79), none, .load 7 true (.t 2)⟩,
⟨(some 80), none, .mov (.t 9)⟩,
⟨(some 81), none, .load 1 false (.t 8)⟩,
⟨(some 82), none, .load 2 true (.t 3)⟩,
⟨(some 83), none, .call 247 [(.t 79), (.t 80), (.t 81), (.t 82)]⟩,
⟨(some 84), none, .un .not (.t 83)⟩] none)
(.cond (.t 84)
(.exit 5)
.skip))
(.seq (.ops [⟨(some 85), none, .load 7 true (.t 2)⟩,
⟨(some 86), none, .mov (.t 9)⟩,
⟨(some 87), none, .load 1 false (.t 8)⟩,
⟨(some 88), none, .call 238 [(.t 85), (.t 86), (.t 87)]⟩] none)
(.block 6 (.range 117 (.t 88) #[89, 90] (r 0).1 (r 0).2))))))))
(.ops [⟨(some 114), none, .ibin .add .i64 (.t 57) (.c (.int .i64 1))⟩,
⟨(some 57), none, .mov (.t 114)⟩] none))))))))
(.ops [⟨(some 51), none, .mov (.t 9)⟩,
⟨(some 52), none, .ibin .add .i64 (.t 51) (.c (.int .i64 1))⟩,
⟨(some 9), none, .mov (.t 52)⟩] none))))))))
(.seq (.seq (.ops [⟨(some 115), none, .load 1 false (.t 8)⟩] (some [0, 1, 2, 3, 4, 5, 6, 7, 12, 13, 14, 15, 16, 17, 18, 19, 20, 21, 22, 23, 24, 25, 26, 27, 28, 29, 30, 31, 32, 51, 52, 72, 73, 74, 75, 76, 77, 78, 89, 90, 91, 92, 93, 94, 95, 96, 97, 98, 99, 100, 101, 102, 103, 104, 105, 106, 107, 108, 109, 110, 111, 112, 113, 114, 115, 116]))
(.ops [⟨(some 8), none, .alloc [(.int .i64 0)]⟩,
⟨none, none, .store 1 (.t 8) (.t 115)⟩] none))
(.ops [⟨(some 35), none, .load 1 false (.t 8)⟩,
⟨(some 36), none, .ibin .sub .i64 (.t 35) (.c (.int .i64 1))⟩,
⟨none, none, .store 1 (.t 8) (.t 36)⟩] none)))))))
(.seq (.ops [⟨(some 116), none, .load 1 false (.t 7)⟩,
⟨(some 4), none, .mov (.t 116)⟩] (some [4]))
.ret)))))⟩
def ir229a0 : ICode :=
(.seq (.ops [⟨(some 12), none, .mov (.t 89)⟩] none)
(.ops [⟨(some 13), none, .mov (.t 90)⟩] none))
def ir229b0 : ICode :=
(.block 7 (.draw (.rd 0 ⟨(some 91), none, .load 1 false (.t 11)⟩
(.rd 1 ⟨(some 92), none, .load 1 false (.t 11)⟩
(.rd 2 ⟨(some 93), none, .nilchk (.t 92)⟩
(.rd 3 ⟨(some 94), none, .load 1 false (.t 93)⟩
(.rd 4 ⟨(some 95), none, .load 7 true (.t 2)⟩
(.rd 5 ⟨(some 96), none, .load 1 false (.t 8)⟩
(.rd 6 ⟨(some 97), none, .load 1 false (.t 10)⟩
(.rd 7 ⟨(some 98), none, .mov (.t 12)⟩
(.rd 9 ⟨(some 100), none, .load 1 false (.t 7)⟩
(.rd 10 ⟨(some 101), none, .load 1 false (.t 8)⟩
(.rd 11 ⟨(some 102), none, .ibin .add .i64 (.t 101) (.c (.int .i64 1))⟩
(.rd 12 ⟨(some 103), none, .iaddr 1 (.t 100) (.t 102)⟩
(.rd 13 ⟨(some 104), none, .load 1 false (.t 103)⟩
(.rd 14 ⟨(some 105), none, .load 7 true (.t 2)⟩
(.rd 15 ⟨(some 106), none, .mov (.t 13)⟩
(.rd 16 ⟨(some 107), none, .mov (.t 12)⟩
(.wr 8 ⟨(some 99), none, .call 239 [(.t 95), (.t 96), (.t 97), (.t 98)]⟩ [4, 5, 6, 7]
(.wr 17 ⟨(some 108), none, .call 234 [(.t 105), (.t 106), (.t 107)]⟩ [14, 15, 16, 8]
(.rd 18 ⟨(some 109), none, .iaddr 1 (.t 104) (.t 108)⟩
(.rd 19 ⟨(some 110), none, .load 1 false (.t 109)⟩
(.rd 20 ⟨(some 111), none, .ibin .add .i64 (.t 99) (.t 110)⟩
(.rd 21 ⟨(some 112), none, .minmax true (.t 94) [(.t 111)]⟩
(.rd 22 ⟨(some 113), none, .nilchk (.t 91)⟩
(.wr 23 ⟨none, none, .store 1 (.t 113) (.t 112)⟩ [22, 21, 17, 0, 1, 2, 3, 4, 5, 6, 7, 8, 9, 10, 11, 12, 13, 14, 15, 16, 17, 18, 19, 20, 21]
.fin .no)))))) .no) .no))))))))))))))))) (some [])))

end Go.Proofs.Ytmbekcealcjabaa.AM
