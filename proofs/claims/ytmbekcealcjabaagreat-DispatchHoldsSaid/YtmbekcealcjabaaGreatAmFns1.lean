/- The functions in the small language. Conditions: none. -/
import Derived.Test.YtmbekcealcjabaaGreatAmFn
namespace Go.Proofs.YtmbekcealcjabaaGreat.AM
set_option linter.unusedSimpArgs false
set_option linter.unusedVariables false
open Go Go.RowKit

/-- guidevane/guidevaneref08.BestWith -/
def ir316 : IFn := ⟨319, [.t 6, .t 7, .t 8],
(.seq (.ops [⟨(some 3), none, .box (.t 0)⟩,
⟨(some 4), none, .box (.t 1)⟩,
⟨(some 5), none, .box (.t 2)⟩,
⟨(some 6), none, .mov (.c (.slice none 0 0))⟩,
⟨(some 7), none, .mov (.c (.int .i64 0))⟩,
⟨(some 8), none, .mov (.c (.bool false))⟩] (some [3, 4, 5]))
(.seq (.ops [⟨(some 30), none, .faddr 3 (.t 4)⟩,
⟨(some 31), none, .load 1 false (.t 30)⟩,
⟨(some 32), none, .lenV (.t 31)⟩,
⟨(some 9), none, .mov (.t 32)⟩] (some [3, 4, 5, 9]))
(.seq (.ops [⟨(some 10), none, .mov (.c (.slice none 0 0))⟩] none)
(.seq (.ops [⟨(some 11), none, .mov (.c (.int .i64 0))⟩,
⟨(some 12), none, .mov (.c (.bool false))⟩] none)
(.seq (.ops [⟨(some 33), none, .faddr 1 (.t 3)⟩,
⟨(some 34), none, .load 1 false (.t 33)⟩,
⟨(some 35), none, .faddr 0 (.t 3)⟩,
⟨(some 36), none, .load 1 false (.t 35)⟩,
⟨(some 37), none, .ibin .sub .i64 (.t 34) (.t 36)⟩,
⟨(some 38), none, .ibin .add .i64 (.t 37) (.c (.int .i64 1))⟩,
⟨(some 39), none, .faddr 2 (.t 3)⟩,
⟨(some 40), none, .load 1 false (.t 39)⟩,
⟨(some 41), none, .lenV (.t 40)⟩,
⟨(some 42), none, .ibin .mul .i64 (.t 38) (.t 41)⟩,
⟨(some 13), none, .mov (.t 42)⟩] (some [3, 4, 5, 9, 10, 11, 12, 13]))
(.seq (.draw (.rd 0 ⟨(some 43), none, .mov (.t 9)⟩
(.rd 1 ⟨(some 44), none, .ibin .add .i64 (.t 43) (.c (.int .i64 1))⟩
(.rd 3 ⟨(some 46), none, .mov (.t 9)⟩
(.rd 4 ⟨(some 47), none, .ibin .add .i64 (.t 46) (.c (.int .i64 1))⟩
(.wr 2 ⟨(some 45), none, .mslice 1 24 [(.slice none 0 0)] (.t 44) (.t 44)⟩ [1, 1]
(.rd 6 ⟨(some 14), none, .mov (.t 45)⟩
(.wr 5 ⟨(some 48), none, .mslice 1 24 [(.slice none 0 0)] (.t 47) (.t 47)⟩ [4, 4]
(.rd 7 ⟨(some 15), none, .mov (.t 48)⟩
.fin) .no))
(.wr 5 ⟨(some 48), none, .mslice 1 24 [(.slice none 0 0)] (.t 47) (.t 47)⟩ [4, 4]
(.wr 2 ⟨(some 45), none, .mslice 1 24 [(.slice none 0 0)] (.t 44) (.t 44)⟩ [1, 1]
(.rd 6 ⟨(some 14), none, .mov (.t 45)⟩
(.rd 7 ⟨(some 15), none, .mov (.t 48)⟩
.fin)) .no) .no)))))) (some [3, 4, 5, 9, 10, 11, 12, 13, 14, 15]))
(.seq (.seq (.ops [⟨(some 49), none, .mov (.t 9)⟩,
⟨(some 16), none, .mov (.t 49)⟩] (some [3, 4, 5, 9, 10, 11, 12, 13, 14, 15, 16]))
(.block 0 (.loop (.seq (.seq (.ops [⟨(some 50), none, .mov (.t 16)⟩,
⟨(some 51), none, .ibin .geq .i64 (.t 50) (.c (.int .i64 0))⟩] (some [3, 4, 5, 9, 10, 11, 12, 13, 14, 15, 16, 51]))
(.cond (.t 51)
.skip
(.exit 0)))
(.seq (.block 1 (.seq (.draw (.rd 0 ⟨(some 54), none, .mov (.t 14)⟩
(.rd 1 ⟨(some 55), none, .mov (.t 16)⟩
(.rd 2 ⟨(some 56), none, .mov (.t 15)⟩
(.rd 3 ⟨(some 57), none, .mov (.t 16)⟩
(.rd 4 ⟨(some 58), none, .mov (.t 13)⟩
(.rd 6 ⟨(some 60), none, .mov (.t 13)⟩
(.wr 5 ⟨(some 59), none, .mslice 1 8 [(.int .i64 0)] (.t 58) (.t 58)⟩ [4, 4]
(.rd 8 ⟨(some 62), none, .iaddr 1 (.t 54) (.t 55)⟩
(.wr 7 ⟨(some 61), none, .mslice 1 1 [(.bool false)] (.t 60) (.t 60)⟩ [6, 6]
(.wr 9 ⟨none, none, .store 1 (.t 62) (.t 59)⟩ [8, 5, 0, 1, 4, 5]
(.rd 10 ⟨(some 63), none, .iaddr 1 (.t 56) (.t 57)⟩
(.wr 11 ⟨none, none, .store 1 (.t 63) (.t 61)⟩ [10, 7, 9, 0, 1, 2, 3, 4, 5, 6, 7, 8, 9]
.fin .no)) .no)
(.wr 9 ⟨none, none, .store 1 (.t 62) (.t 59)⟩ [8, 5, 0, 1, 4, 5]
(.wr 7 ⟨(some 61), none, .mslice 1 1 [(.bool false)] (.t 60) (.t 60)⟩ [6, 6]
(.rd 10 ⟨(some 63), none, .iaddr 1 (.t 56) (.t 57)⟩
(.wr 11 ⟨none, none, .store 1 (.t 63) (.t 61)⟩ [10, 7, 9, 0, 1, 2, 3, 4, 5, 6, 7, 8, 9]
.fin .no)) .no) .no)))
(.wr 7 ⟨(some 61), none, .mslice 1 1 [(.bool false)] (.t 60) (.t 60)⟩ [6, 6]
(.wr 5 ⟨(some 59), none, .mslice 1 8 [(.int .i64 0)] (.t 58) (.t 58)⟩ [4, 4]
(.rd 8 ⟨(some 62), none, .iaddr 1 (.t 54) (.t 55)⟩
(.wr 9 ⟨none, none, .store 1 (.t 62) (.t 59)⟩ [8, 5, 0, 1, 4, 5]
(.rd 10 ⟨(some 63), none, .iaddr 1 (.t 56) (.t 57)⟩
(.wr 11 ⟨none, none, .store 1 (.t 63) (.t 61)⟩ [10, 7, 9, 0, 1, 2, 3, 4, 5, 6, 7, 8, 9]
.fin .no)) .no)) .no) .no)))))))) (some [3, 4, 5, 9, 10, 11, 12, 13, 14, 15, 16]))
(.seq (.ops [⟨(some 17), none, .mov (.c (.int .i64 0))⟩] none)
(.block 2 (.loop (.seq (.seq (.ops [⟨(some 64), none, .mov (.t 17)⟩,
⟨(some 65), none, .mov (.t 13)⟩,
⟨(some 66), none, .ibin .lss .i64 (.t 64) (.t 65)⟩] (some [3, 4, 5, 9, 10, 11, 12, 13, 14, 15, 16, 17, 66]))
(.cond (.t 66)
.skip
(.exit 2)))
(.seq (.block 3 (.seq (.draw (.rd 0 ⟨(some 69), none, .faddr 0 (.t 3)⟩
(.rd 1 ⟨(some 70), none, .load 1 false (.t 69)⟩
(.rd 2 ⟨(some 71), none, .mov (.t 17)⟩
(.rd 3 ⟨(some 72), none, .faddr 2 (.t 3)⟩
(.rd 4 ⟨(some 73), none, .load 1 false (.t 72)⟩
(.rd 5 ⟨(some 74), none, .lenV (.t 73)⟩
(.rd 6 ⟨(some 75), none, .ibin .quo .i64 (.t 71) (.t 74)⟩
(.rd 7 ⟨(some 76), none, .ibin .add .i64 (.t 70) (.t 75)⟩
(.rd 8 ⟨(some 77), none, .mov (.t 17)⟩
(.rd 9 ⟨(some 78), none, .faddr 2 (.t 3)⟩
(.rd 10 ⟨(some 79), none, .load 1 false (.t 78)⟩
(.rd 11 ⟨(some 80), none, .lenV (.t 79)⟩
(.rd 12 ⟨(some 81), none, .ibin .rem .i64 (.t 77) (.t 80)⟩
(.rd 13 ⟨(some 18), none, .mov (.t 76)⟩
(.rd 14 ⟨(some 19), none, .mov (.t 81)⟩
.fin))))))))))))))) (some [3, 4, 5, 9, 10, 11, 12, 13, 14, 15, 16, 17, 18, 19]))
(.seq (.seq (.ops [⟨(some 82), none, .mov (.t 16)⟩,
⟨(some 83), none, .mov (.t 9)⟩,
⟨(some 84), none, .ibin .eql .i64 (.t 82) (.t 83)⟩] (some [3, 4, 5, 9, 10, 11, 12, 13, 14, 15, 16, 17, 18, 19, 84]))
(.cond (.t 84)
(.seq (.draw (.rd 0 ⟨(some 85), none, .mov (.t 14)⟩
(.rd 1 ⟨(some 86), none, .mov (.t 16)⟩
(.rd 2 ⟨(some 87), none, .iaddr 1 (.t 85) (.t 86)⟩
(.rd 3 ⟨(some 88), none, .load 1 false (.t 87)⟩
(.rd 4 ⟨(some 89), none, .mov (.t 17)⟩
(.rd 5 ⟨(some 90), none, .mov (.t 15)⟩
(.rd 6 ⟨(some 91), none, .mov (.t 16)⟩
(.rd 7 ⟨(some 92), none, .iaddr 1 (.t 90) (.t 91)⟩
(.rd 8 ⟨(some 93), none, .load 1 false (.t 92)⟩
(.rd 9 ⟨(some 94), none, .mov (.t 17)⟩
(.rd 10 ⟨(some 95), none, .faddr 2 (.t 4)⟩
(.rd 11 ⟨(some 96), none, .load 1 false (.t 95)⟩
(.rd 12 ⟨(some 97), none, .mov (.t 18)⟩
(.rd 13 ⟨(some 98), none, .ibin .mul .i64 (.t 96) (.t 97)⟩
(.rd 14 ⟨(some 99), none, .iaddr 1 (.t 88) (.t 89)⟩
(.wr 15 ⟨none, none, .store 1 (.t 99) (.t 98)⟩ [14, 13, 0, 1, 2, 3, 4, 8, 10, 11, 12, 13]
(.rd 16 ⟨(some 100), none, .iaddr 1 (.t 93) (.t 94)⟩
(.wr 17 ⟨none, none, .store 1 (.t 100) (.c (.bool true))⟩ [16, 15, 0, 1, 2, 3, 4, 5, 6, 7, 8, 9, 10, 11, 12, 13, 14, 15]
.fin .no)) .no)))))))))))))))) (some [3, 4, 5, 9, 10, 11, 12, 13, 14, 15, 16, 17]))
(.exit 3))
.skip))
(.seq (.seq (.draw (.rd 0 ⟨(some 101), none, .load 3 true (.t 3)⟩
(.rd 1 ⟨(some 102), none, .load 4 true (.t 4)⟩
(.rd 2 ⟨(some 103), none, .mov (.t 16)⟩
(.rd 3 ⟨(some 104), none, .mov (.t 18)⟩
(.rd 4 ⟨(some 105), none, .faddr 0 (.t 5)⟩
(.rd 5 ⟨(some 106), none, .load 1 false (.t 105)⟩
(.rd 7 ⟨(some 108), none, .faddr 1 (.t 5)⟩
(.rd 8 ⟨(some 109), none, .load 1 false (.t 108)⟩
(.rd 9 ⟨(some 110), none, .mov (.t 9)⟩
(.rd 10 ⟨(some 111), none, .mov (.t 16)⟩
(.rd 11 ⟨(some 112), none, .ibin .sub .i64 (.t 110) (.t 111)⟩
(.rd 12 ⟨(some 113), none, .minmax false (.t 109) [(.t 112)]⟩
(.wr 6 ⟨(some 107), none, .call 351 [(.t 101), (.t 102), (.t 103), (.t 104), (.t 106)]⟩ [0, 1, 2, 3, 5]
(.rd 13 ⟨(some 114), none, .ibin .lss .i64 (.t 107) (.t 113)⟩
.fin) .no))))))))))))) (some [3, 4, 5, 9, 10, 11, 12, 13, 14, 15, 16, 17, 18, 19, 114]))
(.cond (.t 114)
(.exit 3)
.skip))
(.seq (.ops [⟨(some 20), none, .mov (.c (.int .i64 0))⟩] none)
(.block 4 (.loop (.seq (.seq (.ops [⟨(some 115), none, .mov (.t 20)⟩,
⟨(some 116), none, .faddr 2 (.t 3)⟩,
⟨(some 117), none, .load 1 false (.t 116)⟩,
⟨(some 118), none, .lenV (.t 117)⟩,
⟨(some 119), none, .ibin .lss .i64 (.t 115) (.t 118)⟩] (some [3, 4, 5, 9, 10, 11, 12, 13, 14, 15, 16, 17, 18, 19, 20, 119]))
(.cond (.t 119)
.skip
(.exit 4)))
(.seq (.block 5 (.seq (.draw (.rd 0 ⟨(some 122), none, .mov (.t 18)⟩
(.rd 1 ⟨(some 123), none, .faddr 3 (.t 4)⟩
(.rd 2 ⟨(some 124), none, .load 1 false (.t 123)⟩
(.rd 3 ⟨(some 125), none, .mov (.t 16)⟩
(.rd 4 ⟨(some 126), none, .iaddr 3 (.t 124) (.t 125)⟩
(.rd 5 ⟨(some 127), none, .faddr 2 (.t 126)⟩
(.rd 6 ⟨(some 128), none, .load 1 false (.t 127)⟩
(.rd 7 ⟨(some 129), none, .ibin .add .i64 (.t 122) (.t 128)⟩
(.rd 8 ⟨(some 130), none, .faddr 2 (.t 3)⟩
(.rd 9 ⟨(some 131), none, .load 1 false (.t 130)⟩
(.rd 10 ⟨(some 132), none, .mov (.t 20)⟩
(.rd 11 ⟨(some 133), none, .iaddr 4 (.t 131) (.t 132)⟩
(.rd 12 ⟨(some 134), none, .faddr 1 (.t 133)⟩
(.rd 13 ⟨(some 135), none, .load 1 false (.t 134)⟩
(.rd 14 ⟨(some 136), none, .ibin .add .i64 (.t 129) (.t 135)⟩
(.rd 15 ⟨(some 21), none, .mov (.t 136)⟩
.fin)))))))))))))))) (some [3, 4, 5, 9, 10, 11, 12, 13, 14, 15, 16, 17, 18, 19, 20, 21]))
(.seq (.seq (.ops [⟨(some 137), none, .mov (.t 21)⟩,
⟨(some 138), none, .faddr 0 (.t 3)⟩,
⟨(some 139), none, .load 1 false (.t 138)⟩,
⟨(some 140), none, .faddr 1 (.t 3)⟩,
⟨(some 141), none, .load 1 false (.t 140)⟩,
⟨(some 142), none, .call 15 [(.t 137), (.t 139), (.t 141)]⟩,
⟨(some 143), none, .un .not (.t 142)⟩] (some [3, 4, 5, 9, 10, 11, 12, 13, 14, 15, 16, 17, 18, 19, 20, 21, 143]))
(.cond (.t 143)
(.exit 5)
.skip))
(.seq (.ops [⟨(some 144), none, .load 3 true (.t 3)⟩,
⟨(some 145), none, .mov (.t 21)⟩,
⟨(some 146), none, .mov (.t 20)⟩,
⟨(some 147), none, .call 349 [(.t 144), (.t 145), (.t 146)]⟩,
⟨(some 22), none, .mov (.t 147)⟩] (some [3, 4, 5, 9, 10, 11, 12, 13, 14, 15, 16, 17, 18, 19, 20, 22]))
(.seq (.draw (.rd 0 ⟨(some 148), none, .load 3 true (.t 3)⟩
(.rd 1 ⟨(some 149), none, .faddr 3 (.t 4)⟩
(.rd 2 ⟨(some 150), none, .load 1 false (.t 149)⟩
(.rd 3 ⟨(some 151), none, .mov (.t 16)⟩
(.rd 4 ⟨(some 152), none, .iaddr 3 (.t 150) (.t 151)⟩
(.rd 5 ⟨(some 153), none, .load 3 true (.t 152)⟩
(.rd 6 ⟨(some 154), none, .mov (.t 20)⟩
(.rd 7 ⟨(some 155), none, .mov (.t 19)⟩
(.rd 9 ⟨(some 157), none, .mov (.t 14)⟩
(.rd 10 ⟨(some 158), none, .mov (.t 16)⟩
(.rd 11 ⟨(some 159), none, .ibin .add .i64 (.t 158) (.c (.int .i64 1))⟩
(.rd 12 ⟨(some 160), none, .iaddr 1 (.t 157) (.t 159)⟩
(.rd 13 ⟨(some 161), none, .load 1 false (.t 160)⟩
(.rd 14 ⟨(some 162), none, .mov (.t 22)⟩
(.rd 15 ⟨(some 163), none, .iaddr 1 (.t 161) (.t 162)⟩
(.rd 16 ⟨(some 164), none, .load 1 false (.t 163)⟩
(.wr 8 ⟨(some 156), none, .call 350 [(.t 148), (.t 153), (.t 154), (.t 155)]⟩ [0, 5, 6, 7]
(.rd 17 ⟨(some 165), none, .ibin .add .i64 (.t 156) (.t 164)⟩
(.rd 18 ⟨(some 23), none, .mov (.t 165)⟩
.fin)) .no))))))))))))))))) (some [3, 4, 5, 9, 10, 11, 12, 13, 14, 15, 16, 17, 18, 19, 20, 22, 23]))
(.seq (.ops [⟨(some 166), none, .mov (.t 15)⟩,
⟨(some 167), none, .mov (.t 16)⟩,
⟨(some 168), none, .ibin .add .i64 (.t 167) (.c (.int .i64 1))⟩,
⟨(some 169), none, .iaddr 1 (.t 166) (.t 168)⟩,
⟨(some 170), none, .load 1 false (.t 169)⟩,
⟨(some 171), none, .mov (.t 22)⟩,
⟨(some 172), none, .iaddr 1 (.t 170) (.t 171)⟩,
⟨(some 173), none, .load 1 false (.t 172)⟩,
⟨(some 174), none, .mov (.t 173)⟩,
⟨(some 175), (some (174, true)), .mov (.t 15)⟩,
⟨(some 176), (some (174, true)), .mov (.t 16)⟩,
⟨(some 177), (some (174, true)), .iaddr 1 (.t 175) (.t 176)⟩,
⟨(some 178), (some (174, true)), .load 1 false (.t 177)⟩,
⟨(some 179), (some (174, true)), .mov (.t 17)⟩,
⟨(some 180), (some (174, true)), .iaddr 1 (.t 178) (.t 179)⟩,
⟨(some 181), (some (174, true)), .load 1 false (.t 180)⟩,
⟨(some 182), (some (174, true)), .un .not (.t 181)⟩,
⟨(some 183), (some (174, true)), .mov (.t 182)⟩,
⟨(some 184), (some (183, false)), .mov (.t 23)⟩,
⟨(some 185), (some (183, false)), .mov (.t 14)⟩,
⟨(some 186), (some (183, false)), .mov (.t 16)⟩,
⟨(some 187), (some (183, false)), .iaddr 1 (.t 185) (.t 186)⟩,
⟨(some 188), (some (183, false)), .load 1 false (.t 187)⟩,
⟨(some 189), (some (183, false)), .mov (.t 17)⟩,
⟨(some 190), (some (183, false)), .iaddr 1 (.t 188) (.t 189)⟩,
⟨(some 191), (some (183, false)), .load 1 false (.t 190)⟩,
⟨(some 192), (some (183, false)), .ibin .gtr .i64 (.t 184) (.t 191)⟩,
⟨(some 193), (some (174, true)), .pick (.t 183) (.c (.bool true)) (.t 192)⟩,
⟨(some 194), none, .pick (.t 174) (.t 193) (.c (.bool false))⟩] (some [3, 4, 5, 9, 10, 11, 12, 13, 14, 15, 16, 17, 18, 19, 20, 23, 194]))
(.cond (.t 194)
(.draw (.rd 0 ⟨(some 195), none, .mov (.t 14)⟩
(.rd 1 ⟨(some 196), none, .mov (.t 16)⟩
(.rd 2 ⟨(some 197), none, .iaddr 1 (.t 195) (.t 196)⟩
(.rd 3 ⟨(some 198), none, .load 1 false (.t 197)⟩
(.rd 4 ⟨(some 199), none, .mov (.t 17)⟩
(.rd 5 ⟨(some 200), none, .mov (.t 15)⟩
(.rd 6 ⟨(some 201), none, .mov (.t 16)⟩
(.rd 7 ⟨(some 202), none, .iaddr 1 (.t 200) (.t 201)⟩
(.rd 8 ⟨(some 203), none, .load 1 false (.t 202)⟩
(.rd 9 ⟨(some 204), none, .mov (.t 17)⟩
(.rd 10 ⟨(some 205), none, .mov (.t 23)⟩
(.rd 11 ⟨(some 206), none, .iaddr 1 (.t 198) (.t 199)⟩
(.wr 12 ⟨none, none, .store 1 (.t 206) (.t 205)⟩ [11, 10, 0, 1, 2, 3, 4, 8, 10]
(.rd 13 ⟨(some 207), none, .iaddr 1 (.t 203) (.t 204)⟩
(.wr 14 ⟨none, none, .store 1 (.t 207) (.c (.bool true))⟩ [13, 12, 0, 1, 2, 3, 4, 5, 6, 7, 8, 9, 10, 11, 12]
.fin .no)) .no))))))))))))) (some [3, 4, 5, 9, 10, 11, 12, 13, 14, 15, 16, 17, 18, 19, 20]))
.skip)))))))
(.ops [⟨(some 120), none, .mov (.t 20)⟩,
⟨(some 121), none, .ibin .add .i64 (.t 120) (.c (.int .i64 1))⟩,
⟨(some 20), none, .mov (.t 121)⟩] (some [3, 4, 5, 9, 10, 11, 12, 13, 14, 15, 16, 17, 18, 19, 20])))))))))))
(.ops [⟨(some 67), none, .mov (.t 17)⟩,
⟨(some 68), none, .ibin .add .i64 (.t 67) (.c (.int .i64 1))⟩,
⟨(some 17), none, .mov (.t 68)⟩] (some [3, 4, 5, 9, 10, 11, 12, 13, 14, 15, 16, 17])))))))))
(.ops [⟨(some 52), none, .mov (.t 16)⟩,
⟨(some 53), none, .ibin .sub .i64 (.t 52) (.c (.int .i64 1))⟩,
⟨(some 16), none, .mov (.t 53)⟩] (some [3, 4, 5, 9, 10, 11, 12, 13, 14, 15, 16])))))))
(.seq (.draw (.rd 0 ⟨(some 208), none, .faddr 0 (.t 4)⟩
(.rd 1 ⟨(some 209), none, .load 1 false (.t 208)⟩
(.rd 2 ⟨(some 210), none, .faddr 1 (.t 4)⟩
(.rd 3 ⟨(some 211), none, .load 1 false (.t 210)⟩
(.rd 4 ⟨(some 24), none, .mov (.t 209)⟩
(.rd 5 ⟨(some 25), none, .mov (.t 211)⟩
.fin)))))) (some [3, 4, 9, 10, 11, 12, 14, 15, 24, 25]))
(.seq (.seq (.draw (.rd 0 ⟨(some 212), none, .mov (.t 15)⟩
(.rd 1 ⟨(some 213), none, .iaddr 1 (.t 212) (.c (.int .i64 0))⟩
(.rd 2 ⟨(some 214), none, .load 1 false (.t 213)⟩
(.rd 3 ⟨(some 215), none, .load 3 true (.t 3)⟩
(.rd 4 ⟨(some 216), none, .mov (.t 24)⟩
(.rd 5 ⟨(some 217), none, .mov (.t 25)⟩
(.wr 6 ⟨(some 218), none, .call 349 [(.t 215), (.t 216), (.t 217)]⟩ [3, 4, 5]
(.rd 7 ⟨(some 219), none, .iaddr 1 (.t 214) (.t 218)⟩
(.rd 8 ⟨(some 220), none, .load 1 false (.t 219)⟩
.fin)) .no))))))) (some [3, 4, 9, 10, 11, 12, 14, 15, 24, 25, 220]))
(.cond (.t 220)
(.draw (.rd 0 ⟨(some 221), none, .mov (.t 14)⟩
(.rd 1 ⟨(some 222), none, .iaddr 1 (.t 221) (.c (.int .i64 0))⟩
(.rd 2 ⟨(some 223), none, .load 1 false (.t 222)⟩
(.rd 3 ⟨(some 224), none, .load 3 true (.t 3)⟩
(.rd 4 ⟨(some 225), none, .mov (.t 24)⟩
(.rd 5 ⟨(some 226), none, .mov (.t 25)⟩
(.wr 6 ⟨(some 227), none, .call 349 [(.t 224), (.t 225), (.t 226)]⟩ [3, 4, 5]
(.rd 7 ⟨(some 228), none, .iaddr 1 (.t 223) (.t 227)⟩
(.rd 8 ⟨(some 229), none, .load 1 false (.t 228)⟩
(.rd 9 ⟨(some 11), none, .mov (.t 229)⟩
(.rd 10 ⟨(some 12), none, .mov (.c (.bool true))⟩
.fin)))) .no))))))) (some [3, 4, 9, 10, 11, 12, 14, 15, 24, 25]))
.skip))
(.seq (.seq (.ops [⟨(some 26), none, .mov (.c (.int .i64 0))⟩] none)
(.block 6 (.loop (.seq (.seq (.ops [⟨(some 230), none, .mov (.t 26)⟩,
⟨(some 231), none, .mov (.t 9)⟩,
⟨(some 232), none, .ibin .lss .i64 (.t 230) (.t 231)⟩,
⟨(some 233), none, .mov (.t 232)⟩,
⟨(some 234), (some (233, true)), .mov (.t 12)⟩,
⟨(some 235), none, .pick (.t 233) (.t 234) (.c (.bool false))⟩] (some [3, 4, 9, 10, 11, 12, 14, 15, 24, 25, 26, 235]))
(.cond (.t 235)
.skip
(.exit 6)))
(.seq (.block 7 (.seq (.ops [⟨(some 27), none, .mov (.c (.int .i64 0))⟩] none)
(.block 8 (.loop (.seq (.seq (.ops [⟨(some 238), none, .mov (.t 27)⟩,
⟨(some 239), none, .faddr 2 (.t 3)⟩,
⟨(some 240), none, .load 1 false (.t 239)⟩,
⟨(some 241), none, .lenV (.t 240)⟩,
⟨(some 242), none, .ibin .lss .i64 (.t 238) (.t 241)⟩] (some [3, 4, 9, 10, 11, 12, 14, 15, 24, 25, 26, 27, 242]))
(.cond (.t 242)
.skip
(.exit 8)))
(.seq (.block 9 (.seq (.draw (.rd 0 ⟨(some 245), none, .mov (.t 24)⟩
(.rd 1 ⟨(some 246), none, .faddr 3 (.t 4)⟩
(.rd 2 ⟨(some 247), none, .load 1 false (.t 246)⟩
(.rd 3 ⟨(some 248), none, .mov (.t 26)⟩
(.rd 4 ⟨(some 249), none, .iaddr 3 (.t 247) (.t 248)⟩
(.rd 5 ⟨(some 250), none, .faddr 2 (.t 249)⟩
(.rd 6 ⟨(some 251), none, .load 1 false (.t 250)⟩
(.rd 7 ⟨(some 252), none, .ibin .add .i64 (.t 245) (.t 251)⟩
(.rd 8 ⟨(some 253), none, .faddr 2 (.t 3)⟩
(.rd 9 ⟨(some 254), none, .load 1 false (.t 253)⟩
(.rd 10 ⟨(some 255), none, .mov (.t 27)⟩
(.rd 11 ⟨(some 256), none, .iaddr 4 (.t 254) (.t 255)⟩
(.rd 12 ⟨(some 257), none, .faddr 1 (.t 256)⟩
(.rd 13 ⟨(some 258), none, .load 1 false (.t 257)⟩
(.rd 14 ⟨(some 259), none, .ibin .add .i64 (.t 252) (.t 258)⟩
(.rd 15 ⟨(some 28), none, .mov (.t 259)⟩
.fin)))))))))))))))) (some [3, 4, 9, 10, 11, 12, 14, 15, 24, 25, 26, 27, 28]))
(.seq (.seq (.ops [⟨(some 260), none, .mov (.t 28)⟩,
⟨(some 261), none, .faddr 0 (.t 3)⟩,
⟨(some 262), none, .load 1 false (.t 261)⟩,
⟨(some 263), none, .faddr 1 (.t 3)⟩,
⟨(some 264), none, .load 1 false (.t 263)⟩,
⟨(some 265), none, .call 15 [(.t 260), (.t 262), (.t 264)]⟩,
⟨(some 266), none, .un .not (.t 265)⟩] (some [3, 4, 9, 10, 11, 12, 14, 15, 24, 25, 26, 27, 28, 266]))
(.cond (.t 266)
(.exit 9)
.skip))
(.seq (.ops [⟨(some 267), none, .load 3 true (.t 3)⟩,
⟨(some 268), none, .mov (.t 28)⟩,
⟨(some 269), none, .mov (.t 27)⟩,
⟨(some 270), none, .call 349 [(.t 267), (.t 268), (.t 269)]⟩,
⟨(some 29), none, .mov (.t 270)⟩] (some [3, 4, 9, 10, 11, 12, 14, 15, 24, 25, 26, 27, 28, 29]))
(.seq (.draw (.rd 0 ⟨(some 271), none, .mov (.t 15)⟩
(.rd 1 ⟨(some 272), none, .mov (.t 26)⟩
(.rd 2 ⟨(some 273), none, .ibin .add .i64 (.t 272) (.c (.int .i64 1))⟩
(.rd 3 ⟨(some 274), none, .iaddr 1 (.t 271) (.t 273)⟩
(.rd 4 ⟨(some 275), none, .load 1 false (.t 274)⟩
(.rd 5 ⟨(some 276), none, .mov (.t 29)⟩
(.rd 6 ⟨(some 277), none, .iaddr 1 (.t 275) (.t 276)⟩
(.rd 7 ⟨(some 278), none, .load 1 false (.t 277)⟩
(.rd 8 ⟨(some 279), none, .mov (.t 278)⟩
(.rd 9 ⟨(some 280), (some (279, true)), .load 3 true (.t 3)⟩
(.rd 10 ⟨(some 281), (some (279, true)), .faddr 3 (.t 4)⟩
(.rd 11 ⟨(some 282), (some (279, true)), .load 1 false (.t 281)⟩
(.rd 12 ⟨(some 283), (some (279, true)), .mov (.t 26)⟩
(.rd 13 ⟨(some 284), (some (279, true)), .iaddr 3 (.t 282) (.t 283)⟩
(.rd 14 ⟨(some 285), (some (279, true)), .load 3 true (.t 284)⟩
(.rd 15 ⟨(some 286), (some (279, true)), .mov (.t 27)⟩
(.rd 16 ⟨(some 287), (some (279, true)), .mov (.t 25)⟩
(.rd 18 ⟨(some 289), (some (279, true)), .mov (.t 14)⟩
(.rd 19 ⟨(some 290), (some (279, true)), .mov (.t 26)⟩
(.rd 20 ⟨(some 291), (some (279, true)), .ibin .add .i64 (.t 290) (.c (.int .i64 1))⟩
(.rd 21 ⟨(some 292), (some (279, true)), .iaddr 1 (.t 289) (.t 291)⟩
(.rd 22 ⟨(some 293), (some (279, true)), .load 1 false (.t 292)⟩
(.rd 23 ⟨(some 294), (some (279, true)), .mov (.t 29)⟩
(.rd 24 ⟨(some 295), (some (279, true)), .iaddr 1 (.t 293) (.t 294)⟩
(.rd 25 ⟨(some 296), (some (279, true)), .load 1 false (.t 295)⟩
(.rd 27 ⟨(some 298), (some (279, true)), .mov (.t 14)⟩
(.rd 28 ⟨(some 299), (some (279, true)), .mov (.t 26)⟩
(.rd 29 ⟨(some 300), (some (279, true)), .iaddr 1 (.t 298) (.t 299)⟩
(.rd 30 ⟨(some 301), (some (279, true)), .load 1 false (.t 300)⟩
(.rd 31 ⟨(some 302), (some (279, true)), .load 3 true (.t 3)⟩
(.rd 32 ⟨(some 303), (some (279, true)), .mov (.t 24)⟩
(.rd 33 ⟨(some 304), (some (279, true)), .mov (.t 25)⟩
(.wr 17 ⟨(some 288), (some (279, true)), .call 350 [(.t 280), (.t 285), (.t 286), (.t 287)]⟩ [9, 14, 15, 16, 8, 8]
(.rd 26 ⟨(some 297), (some (279, true)), .ibin .add .i64 (.t 288) (.t 296)⟩
(.wr 34 ⟨(some 305), (some (279, true)), .call 349 [(.t 302), (.t 303), (.t 304)]⟩ [31, 32, 33, 17, 8]
(.rd 35 ⟨(some 306), (some (279, true)), .iaddr 1 (.t 301) (.t 305)⟩
(.rd 36 ⟨(some 307), (some (279, true)), .load 1 false (.t 306)⟩
(.rd 37 ⟨(some 308), (some (279, true)), .ibin .eql .i64 (.t 297) (.t 307)⟩
(.rd 38 ⟨(some 309), none, .pick (.t 279) (.t 308) (.c (.bool false))⟩
.fin)))) .no)) .no))))))))))))))))))))))))))))))))) (some [3, 4, 9, 10, 11, 12, 14, 15, 24, 25, 26, 27, 28, 309]))
(.cond (.t 309)
(.seq (.ops [⟨(some 310), none, .mov (.t 10)⟩,
⟨(some 311), none, .mov (.t 27)⟩,
⟨(some 312), none, .bslice 1 1 [(.int .i64 0)] [(0, 1, (.t 311))]⟩,
⟨(some 313), none, .append 1 8 (.t 310) (.t 312)⟩,
⟨(some 314), none, .mov (.t 28)⟩,
⟨(some 315), none, .mov (.t 27)⟩,
⟨(some 10), none, .mov (.t 313)⟩,
⟨(some 24), none, .mov (.t 314)⟩,
⟨(some 25), none, .mov (.t 315)⟩] (some [3, 4, 9, 10, 11, 12, 14, 15, 24, 25, 26]))
(.exit 8))
.skip))))))
(.ops [⟨(some 243), none, .mov (.t 27)⟩,
⟨(some 244), none, .ibin .add .i64 (.t 243) (.c (.int .i64 1))⟩,
⟨(some 27), none, .mov (.t 244)⟩] (some [3, 4, 9, 10, 11, 12, 14, 15, 24, 25, 26, 27]))))))))
(.ops [⟨(some 236), none, .mov (.t 26)⟩,
⟨(some 237), none, .ibin .add .i64 (.t 236) (.c (.int .i64 1))⟩,
⟨(some 26), none, .mov (.t 237)⟩] (some [3, 4, 9, 10, 11, 12, 14, 15, 24, 25, 26])))))))
(.seq (.ops [⟨(some 316), none, .mov (.t 10)⟩,
⟨(some 317), none, .mov (.t 11)⟩,
⟨(some 318), none, .mov (.t 12)⟩,
⟨(some 6), none, .mov (.t 316)⟩,
⟨(some 7), none, .mov (.t 317)⟩,
⟨(some 8), none, .mov (.t 318)⟩] (some [6, 7, 8]))
.ret)))))))))))⟩
/-- guidevane/guidevaneref08.CopyReserve -/
def ir317 : IFn := ⟨8, [.cell 2 2 true],
(.seq (.ops [⟨(some 1), none, .box (.t 0)⟩,
⟨(some 2), none, .alloc [(.slice none 0 0), (.int .i64 0)]⟩] (some [1, 2]))
(.seq (.ops [⟨(some 3), none, .faddr 0 (.t 1)⟩,
⟨(some 4), none, .load 1 false (.t 3)⟩,
⟨(some 5), none, .call 38 [(.t 4)]⟩,
⟨(some 6), none, .faddr 0 (.t 1)⟩,
⟨none, none, .store 1 (.t 6) (.t 5)⟩] (some [1, 2]))
(.seq (.ops [⟨(some 7), none, .load 2 true (.t 1)⟩,
⟨none, none, .store 2 (.t 2) (.t 7)⟩] (some [2]))
.ret)))⟩
/-- guidevane/dispatch.PromisedIn -/
def ir318 : IFn := ⟨41, [.t 6, .t 7],
(.seq (.ops [⟨(some 3), none, .box (.t 0)⟩,
⟨(some 4), none, .box (.t 1)⟩,
⟨(some 5), none, .box (.t 2)⟩,
⟨(some 6), none, .mov (.c (.int .i64 0))⟩,
⟨(some 7), none, .mov (.c (.int .i64 0))⟩] (some [3, 4, 5]))
(.seq (.ops [⟨(some 14), none, .load 3 true (.t 3)⟩,
⟨(some 15), none, .load 4 true (.t 4)⟩,
⟨(some 16), none, .load 2 true (.t 5)⟩,
⟨(some 17), none, .call 209 [(.t 14), (.t 15), (.t 16)]⟩,
⟨(some 13), none, .mov (.t 17)⟩,
⟨(some 18), none, .extract 0 (.t 13)⟩,
⟨(some 19), none, .extract 1 (.t 13)⟩,
⟨(some 8), none, .mov (.t 18)⟩,
⟨(some 9), none, .mov (.t 19)⟩] (some [8, 9]))
(.seq (.seq (.ops [⟨(some 20), none, .mov (.t 9)⟩,
⟨(some 21), none, .ibin .neq .i64 (.t 20) (.c (.int .i64 0))⟩] (some [8, 9, 21]))
(.cond (.t 21)
(.seq (.ops [⟨(some 22), none, .mov (.t 9)⟩,
⟨(some 6), none, .mov (.c (.int .i64 0))⟩,
⟨(some 7), none, .mov (.t 22)⟩] (some [6, 7]))
.ret)
.skip))
(.seq (.ops [⟨(some 10), none, .mov (.c (.int .i64 10))⟩] none)
(.seq (.seq (.ops [⟨(some 23), none, .mov (.t 8)⟩,
⟨(some 24), none, .lenV (.t 23)⟩,
⟨(some 25), none, .mov (.c (.int .i64 0))⟩] none)
(.block 0 (.loop (.seq (.ops [⟨(some 26), none, .ibin .lss .i64 (.t 25) (.t 24)⟩] none)
(.seq (.cond (.t 26)
.skip
(.exit 0))
(.seq (.block 1 (.seq (.ops [⟨(some 27), none, .mov (.t 25)⟩,
⟨(some 28), none, .iaddr 1 (.t 23) (.t 25)⟩,
⟨(some 29), none, .load 1 false (.t 28)⟩,
⟨(some 11), none, .mov (.t 27)⟩,
⟨(some 12), none, .mov (.t 29)⟩] (some [8, 10, 11, 12, 23, 24, 25]))
(.seq (.ops [⟨(some 30), none, .mov (.t 12)⟩,
⟨(some 31), none, .mov (.t 8)⟩,
⟨(some 32), none, .lenV (.t 31)⟩,
⟨(some 33), none, .mov (.t 11)⟩,
⟨(some 34), none, .ibin .sub .i64 (.t 32) (.t 33)⟩,
⟨(some 35), none, .ibin .lss .i64 (.t 30) (.t 34)⟩] (some [8, 10, 12, 23, 24, 25, 35]))
(.cond (.t 35)
(.ops [⟨(some 36), none, .mov (.t 10)⟩,
⟨(some 37), none, .mov (.t 12)⟩,
⟨(some 38), none, .minmax false (.t 36) [(.t 37)]⟩,
⟨(some 10), none, .mov (.t 38)⟩] (some [8, 10, 23, 24, 25]))
.skip))))
(.ops [⟨(some 39), none, .ibin .add .i64 (.t 25) (.c (.int .i64 1))⟩,
⟨(some 25), none, .mov (.t 39)⟩] (some [8, 10, 23, 24, 25]))))))))
(.seq (.ops [⟨(some 40), none, .mov (.t 10)⟩,
⟨(some 6), none, .mov (.t 40)⟩,
⟨(some 7), none, .mov (.c (.int .i64 0))⟩] (some [6, 7]))
.ret))))))⟩
/-- guidevane/guidevaneref08.ReserveErr -/
def ir319 : IFn := ⟨24, [.t 6],
(.seq (.ops [⟨(some 3), none, .box (.t 0)⟩,
⟨(some 4), none, .box (.t 1)⟩,
⟨(some 5), none, .box (.t 2)⟩,
⟨(some 6), none, .mov (.c (.int .i64 0))⟩] (some [3, 4, 5]))
(.seq (.seq (.ops [⟨(some 8), none, .load 3 true (.t 3)⟩,
⟨(some 9), none, .load 4 true (.t 4)⟩,
⟨(some 10), none, .faddr 0 (.t 5)⟩,
⟨(some 11), none, .load 1 false (.t 10)⟩,
⟨(some 12), none, .call 327 [(.t 8), (.t 9), (.t 11)]⟩,
⟨(some 7), none, .mov (.t 12)⟩] (some [3, 5, 7]))
(.seq (.ops [⟨(some 13), none, .mov (.t 7)⟩,
⟨(some 14), none, .ibin .neq .i64 (.t 13) (.c (.int .i64 0))⟩] (some [3, 5, 7, 14]))
(.cond (.t 14)
(.seq (.ops [⟨(some 15), none, .mov (.t 7)⟩,
⟨(some 6), none, .mov (.t 15)⟩] (some [6]))
.ret)
.skip)))
(.seq (.seq (.ops [⟨(some 16), none, .faddr 1 (.t 5)⟩,
⟨(some 17), none, .load 1 false (.t 16)⟩,
⟨(some 18), none, .faddr 2 (.t 3)⟩,
⟨(some 19), none, .load 1 false (.t 18)⟩,
⟨(some 20), none, .lenV (.t 19)⟩,
⟨(some 21), none, .ibin .sub .i64 (.t 20) (.c (.int .i64 1))⟩,
⟨(some 22), none, .call 15 [(.t 17), (.c (.int .i64 0)), (.t 21)]⟩,
⟨(some 23), none, .un .not (.t 22)⟩] (some [23]))
(.cond (.t 23)
(.seq (.ops [⟨(some 6), none, .mov (.c (.int .i64 6))⟩] none)
.ret)
.skip))
(.seq (.ops [⟨(some 6), none, .mov (.c (.int .i64 0))⟩] none)
.ret))))⟩
/-- guidevane/dispatch.VolumesOf -/
def ir322 : IFn := ⟨21, [.t 6, .t 7],
(.seq (.ops [⟨(some 3), none, .box (.t 0)⟩,
⟨(some 4), none, .box (.t 1)⟩,
⟨(some 6), none, .mov (.c (.slice none 0 0))⟩,
⟨(some 7), none, .mov (.c (.int .i64 0))⟩] (some [2, 3, 4]))
(.seq (.ops [⟨(some 12), none, .load 3 true (.t 3)⟩,
⟨(some 13), none, .load 4 true (.t 4)⟩,
⟨(some 14), none, .mov (.t 2)⟩,
⟨(some 15), none, .call 221 [(.t 12), (.t 13), (.t 14)]⟩,
⟨(some 11), none, .mov (.t 15)⟩,
⟨(some 16), none, .extract 0 (.t 11)⟩,
⟨(some 17), none, .extract 1 (.t 11)⟩,
⟨(some 18), none, .extract 2 (.t 11)⟩,
⟨(some 8), none, .alloc [(.int .i64 0), (.int .i64 0), (.slice none 0 0), (.int .i64 0), (.int .i64 0), (.int .i64 0), (.slice none 0 0)]⟩,
⟨none, none, .store 7 (.t 8) (.t 16)⟩,
⟨(some 9), none, .mov (.t 17)⟩,
⟨(some 10), none, .mov (.t 18)⟩] (some [9, 10]))
(.seq (.ops [⟨(some 19), none, .mov (.t 9)⟩,
⟨(some 20), none, .mov (.t 10)⟩,
⟨(some 6), none, .mov (.t 19)⟩,
⟨(some 7), none, .mov (.t 20)⟩] (some [6, 7]))
.ret)))⟩
/-- guidevane/guidevaneref08.CheckPlant -/
def ir325 : IFn := ⟨63, [.t 2, .t 3],
(.seq (.ops [⟨(some 1), none, .box (.t 0)⟩,
⟨(some 2), none, .mov (.c (.int .i64 0))⟩,
⟨(some 3), none, .mov (.c (.int .i64 0))⟩] (some [1]))
(.seq (.seq (.ops [⟨(some 7), none, .faddr 0 (.t 1)⟩,
⟨(some 8), none, .load 1 false (.t 7)⟩,
⟨(some 9), none, .call 15 [(.t 8), (.c (.int .i64 0)), (.c (.int .i64 1000000))]⟩,
⟨(some 10), none, .un .not (.t 9)⟩,
⟨(some 11), none, .mov (.t 10)⟩,
⟨(some 12), (some (11, false)), .faddr 1 (.t 1)⟩,
⟨(some 13), (some (11, false)), .load 1 false (.t 12)⟩,
⟨(some 14), (some (11, false)), .call 15 [(.t 13), (.c (.int .i64 0)), (.c (.int .i64 1000000))]⟩,
⟨(some 15), (some (11, false)), .un .not (.t 14)⟩,
⟨(some 16), none, .pick (.t 11) (.c (.bool true)) (.t 15)⟩] (some [1, 16]))
(.cond (.t 16)
(.seq (.ops [⟨(some 2), none, .mov (.c (.int .i64 0))⟩,
⟨(some 3), none, .mov (.c (.int .i64 2))⟩] none)
.ret)
.skip))
(.seq (.seq (.ops [⟨(some 17), none, .faddr 0 (.t 1)⟩,
⟨(some 18), none, .load 1 false (.t 17)⟩,
⟨(some 19), none, .faddr 1 (.t 1)⟩,
⟨(some 20), none, .load 1 false (.t 19)⟩,
⟨(some 21), none, .ibin .gtr .i64 (.t 18) (.t 20)⟩] (some [1, 21]))
(.cond (.t 21)
(.seq (.ops [⟨(some 2), none, .mov (.c (.int .i64 0))⟩,
⟨(some 3), none, .mov (.c (.int .i64 9))⟩] none)
.ret)
.skip))
(.seq (.seq (.ops [⟨(some 22), none, .faddr 1 (.t 1)⟩,
⟨(some 23), none, .load 1 false (.t 22)⟩,
⟨(some 24), none, .faddr 0 (.t 1)⟩,
⟨(some 25), none, .load 1 false (.t 24)⟩,
⟨(some 26), none, .ibin .sub .i64 (.t 23) (.t 25)⟩,
⟨(some 27), none, .ibin .geq .i64 (.t 26) (.c (.int .i64 40))⟩] (some [1, 27]))
(.cond (.t 27)
(.seq (.ops [⟨(some 2), none, .mov (.c (.int .i64 0))⟩,
⟨(some 3), none, .mov (.c (.int .i64 8))⟩] none)
.ret)
.skip))
(.seq (.seq (.ops [⟨(some 28), none, .faddr 2 (.t 1)⟩,
⟨(some 29), none, .load 1 false (.t 28)⟩,
⟨(some 30), none, .lenV (.t 29)⟩,
⟨(some 31), none, .ibin .eql .i64 (.t 30) (.c (.int .i64 0))⟩] (some [1, 31]))
(.cond (.t 31)
(.seq (.ops [⟨(some 2), none, .mov (.c (.int .i64 0))⟩,
⟨(some 3), none, .mov (.c (.int .i64 10))⟩] none)
.ret)
.skip))
(.seq (.seq (.ops [⟨(some 32), none, .faddr 2 (.t 1)⟩,
⟨(some 33), none, .load 1 false (.t 32)⟩,
⟨(some 34), none, .lenV (.t 33)⟩,
⟨(some 35), none, .ibin .gtr .i64 (.t 34) (.c (.int .i64 5))⟩] (some [1, 35]))
(.cond (.t 35)
(.seq (.ops [⟨(some 2), none, .mov (.c (.int .i64 0))⟩,
⟨(some 3), none, .mov (.c (.int .i64 8))⟩] none)
.ret)
.skip))
(.seq (.ops [⟨(some 4), none, .mov (.c (.slice none 0 0))⟩] none)
(.seq (.seq (.ops [⟨(some 5), none, .mov (.c (.int .i64 0))⟩] none)
(.block 0 (.loop (.seq (.seq (.ops [⟨(some 36), none, .mov (.t 5)⟩,
⟨(some 37), none, .faddr 2 (.t 1)⟩,
⟨(some 38), none, .load 1 false (.t 37)⟩,
⟨(some 39), none, .lenV (.t 38)⟩,
⟨(some 40), none, .ibin .lss .i64 (.t 36) (.t 39)⟩] (some [1, 4, 5, 40]))
(.cond (.t 40)
.skip
(.exit 0)))
(.seq (.block 1 (.seq (.seq (.ops [⟨(some 43), none, .faddr 2 (.t 1)⟩,
⟨(some 44), none, .load 1 false (.t 43)⟩,
⟨(some 45), none, .mov (.t 5)⟩,
⟨(some 46), none, .iaddr 4 (.t 44) (.t 45)⟩,
⟨(some 47), none, .load 4 true (.t 46)⟩,
⟨(some 48), none, .mov (.t 4)⟩,
⟨(some 49), none, .call 354 [(.t 47), (.t 48)]⟩,
⟨(some 6), none, .mov (.t 49)⟩] (some [1, 4, 5, 6]))
(.seq (.ops [⟨(some 50), none, .mov (.t 6)⟩,
⟨(some 51), none, .ibin .neq .i64 (.t 50) (.c (.int .i64 0))⟩] (some [1, 4, 5, 6, 51]))
(.cond (.t 51)
(.seq (.ops [⟨(some 52), none, .mov (.t 5)⟩,
⟨(some 53), none, .mov (.t 6)⟩,
⟨(some 2), none, .mov (.t 52)⟩,
⟨(some 3), none, .mov (.t 53)⟩] (some [2, 3]))
.ret)
.skip)))
(.ops [⟨(some 54), none, .mov (.t 4)⟩,
⟨(some 55), none, .faddr 2 (.t 1)⟩,
⟨(some 56), none, .load 1 false (.t 55)⟩,
⟨(some 57), none, .mov (.t 5)⟩,
⟨(some 58), none, .iaddr 4 (.t 56) (.t 57)⟩,
⟨(some 59), none, .faddr 0 (.t 58)⟩,
⟨(some 60), none, .load 1 false (.t 59)⟩,
⟨(some 61), none, .bslice 1 1 [(.string ⟨#[]⟩)] [(0, 1, (.t 60))]⟩,
⟨(some 62), none, .append 1 16 (.t 54) (.t 61)⟩,
⟨(some 4), none, .mov (.t 62)⟩] (some [1, 4, 5]))))
(.ops [⟨(some 41), none, .mov (.t 5)⟩,
⟨(some 42), none, .ibin .add .i64 (.t 41) (.c (.int .i64 1))⟩,
⟨(some 5), none, .mov (.t 42)⟩] (some [1, 4, 5])))))))
(.seq (.ops [⟨(some 2), none, .mov (.c (.int .i64 0))⟩,
⟨(some 3), none, .mov (.c (.int .i64 0))⟩] none)
.ret)))))))))⟩
/-- guidevane/guidevaneref08.CheckTask -/
def ir326 : IFn := ⟨77, [.t 4, .t 5],
(.seq (.ops [⟨(some 2), none, .box (.t 0)⟩,
⟨(some 3), none, .box (.t 1)⟩,
⟨(some 4), none, .mov (.c (.int .i64 0))⟩,
⟨(some 5), none, .mov (.c (.int .i64 0))⟩] (some [2, 3]))
(.seq (.seq (.ops [⟨(some 9), none, .load 3 true (.t 2)⟩,
⟨(some 10), none, .call 347 [(.t 9)]⟩,
⟨(some 6), none, .mov (.t 10)⟩] (some [2, 3, 6]))
(.seq (.ops [⟨(some 11), none, .mov (.t 6)⟩,
⟨(some 12), none, .ibin .neq .i64 (.t 11) (.c (.int .i64 0))⟩] (some [2, 3, 6, 12]))
(.cond (.t 12)
(.seq (.ops [⟨(some 13), none, .mov (.t 6)⟩,
⟨(some 4), none, .mov (.c (.int .i64 0))⟩,
⟨(some 5), none, .mov (.t 13)⟩] (some [4, 5]))
.ret)
.skip)))
(.seq (.seq (.ops [⟨(some 14), none, .faddr 0 (.t 3)⟩,
⟨(some 15), none, .load 1 false (.t 14)⟩,
⟨(some 16), none, .faddr 0 (.t 2)⟩,
⟨(some 17), none, .load 1 false (.t 16)⟩,
⟨(some 18), none, .faddr 1 (.t 2)⟩,
⟨(some 19), none, .load 1 false (.t 18)⟩,
⟨(some 20), none, .call 15 [(.t 15), (.t 17), (.t 19)]⟩,
⟨(some 21), none, .un .not (.t 20)⟩] (some [2, 3, 21]))
(.cond (.t 21)
(.seq (.ops [⟨(some 4), none, .mov (.c (.int .i64 0))⟩,
⟨(some 5), none, .mov (.c (.int .i64 2))⟩] none)
.ret)
.skip))
(.seq (.seq (.ops [⟨(some 22), none, .faddr 1 (.t 3)⟩,
⟨(some 23), none, .load 1 false (.t 22)⟩,
⟨(some 24), none, .faddr 2 (.t 2)⟩,
⟨(some 25), none, .load 1 false (.t 24)⟩,
⟨(some 26), none, .lenV (.t 25)⟩,
⟨(some 27), none, .ibin .sub .i64 (.t 26) (.c (.int .i64 1))⟩,
⟨(some 28), none, .call 15 [(.t 23), (.c (.int .i64 0)), (.t 27)]⟩,
⟨(some 29), none, .un .not (.t 28)⟩] (some [3, 29]))
(.cond (.t 29)
(.seq (.ops [⟨(some 4), none, .mov (.c (.int .i64 0))⟩,
⟨(some 5), none, .mov (.c (.int .i64 6))⟩] none)
.ret)
.skip))
(.seq (.seq (.ops [⟨(some 30), none, .faddr 2 (.t 3)⟩,
⟨(some 31), none, .load 1 false (.t 30)⟩,
⟨(some 32), none, .call 355 [(.t 31)]⟩,
⟨(some 33), none, .un .not (.t 32)⟩] (some [3, 33]))
(.cond (.t 33)
(.seq (.ops [⟨(some 4), none, .mov (.c (.int .i64 0))⟩,
⟨(some 5), none, .mov (.c (.int .i64 2))⟩] none)
.ret)
.skip))
(.seq (.seq (.ops [⟨(some 34), none, .faddr 3 (.t 3)⟩,
⟨(some 35), none, .load 1 false (.t 34)⟩,
⟨(some 36), none, .lenV (.t 35)⟩,
⟨(some 37), none, .ibin .eql .i64 (.t 36) (.c (.int .i64 0))⟩] (some [3, 37]))
(.cond (.t 37)
(.seq (.ops [⟨(some 4), none, .mov (.c (.int .i64 0))⟩,
⟨(some 5), none, .mov (.c (.int .i64 10))⟩] none)
.ret)
.skip))
(.seq (.seq (.ops [⟨(some 38), none, .faddr 3 (.t 3)⟩,
⟨(some 39), none, .load 1 false (.t 38)⟩,
⟨(some 40), none, .lenV (.t 39)⟩,
⟨(some 41), none, .ibin .gtr .i64 (.t 40) (.c (.int .i64 10))⟩] (some [3, 41]))
(.cond (.t 41)
(.seq (.ops [⟨(some 4), none, .mov (.c (.int .i64 0))⟩,
⟨(some 5), none, .mov (.c (.int .i64 8))⟩] none)
.ret)
.skip))
(.seq (.seq (.ops [⟨(some 7), none, .mov (.c (.int .i64 0))⟩] none)
(.block 0 (.loop (.seq (.seq (.ops [⟨(some 42), none, .mov (.t 7)⟩,
⟨(some 43), none, .faddr 3 (.t 3)⟩,
⟨(some 44), none, .load 1 false (.t 43)⟩,
⟨(some 45), none, .lenV (.t 44)⟩,
⟨(some 46), none, .ibin .lss .i64 (.t 42) (.t 45)⟩] (some [3, 7, 46]))
(.cond (.t 46)
.skip
(.exit 0)))
(.seq (.block 1 (.seq (.ops [⟨(some 49), none, .faddr 3 (.t 3)⟩,
⟨(some 50), none, .load 1 false (.t 49)⟩,
⟨(some 51), none, .mov (.t 7)⟩,
⟨(some 52), none, .iaddr 3 (.t 50) (.t 51)⟩,
⟨(some 53), none, .load 3 true (.t 52)⟩,
⟨(some 8), none, .alloc [(.int .i64 0), (.int .i64 0), (.int .i64 0)]⟩,
⟨none, none, .store 3 (.t 8) (.t 53)⟩] (some [3, 7, 8]))
(.seq (.seq (.ops [⟨(some 54), none, .faddr 0 (.t 8)⟩,
⟨(some 55), none, .load 1 false (.t 54)⟩,
⟨(some 56), none, .call 355 [(.t 55)]⟩,
⟨(some 57), none, .un .not (.t 56)⟩,
⟨(some 58), none, .mov (.t 57)⟩,
⟨(some 59), (some (58, false)), .faddr 1 (.t 8)⟩,
⟨(some 60), (some (58, false)), .load 1 false (.t 59)⟩,
⟨(some 61), (some (58, false)), .call 355 [(.t 60)]⟩,
⟨(some 62), (some (58, false)), .un .not (.t 61)⟩,
⟨(some 63), none, .pick (.t 58) (.c (.bool true)) (.t 62)⟩,
⟨(some 64), none, .mov (.t 63)⟩,
⟨(some 65), (some (64, false)), .faddr 2 (.t 8)⟩,
⟨(some 66), (some (64, false)), .load 1 false (.t 65)⟩,
⟨(some 67), (some (64, false)), .call 355 [(.t 66)]⟩,
⟨(some 68), (some (64, false)), .un .not (.t 67)⟩,
⟨(some 69), none, .pick (.t 64) (.c (.bool true)) (.t 68)⟩] (some [3, 7, 8, 69]))
(.cond (.t 69)
(.seq (.ops [⟨(some 70), none, .mov (.t 7)⟩,
⟨(some 4), none, .mov (.t 70)⟩,
⟨(some 5), none, .mov (.c (.int .i64 2))⟩] (some [4, 5]))
.ret)
.skip))
(.seq (.ops [⟨(some 71), none, .faddr 1 (.t 8)⟩,
⟨(some 72), none, .load 1 false (.t 71)⟩,
⟨(some 73), none, .faddr 0 (.t 8)⟩,
⟨(some 74), none, .load 1 false (.t 73)⟩,
⟨(some 75), none, .ibin .gtr .i64 (.t 72) (.t 74)⟩] (some [3, 7, 75]))
(.cond (.t 75)
(.seq (.ops [⟨(some 76), none, .mov (.t 7)⟩,
⟨(some 4), none, .mov (.t 76)⟩,
⟨(some 5), none, .mov (.c (.int .i64 9))⟩] (some [4, 5]))
.ret)
.skip)))))
(.ops [⟨(some 47), none, .mov (.t 7)⟩,
⟨(some 48), none, .ibin .add .i64 (.t 47) (.c (.int .i64 1))⟩,
⟨(some 7), none, .mov (.t 48)⟩] (some [3, 7])))))))
(.seq (.ops [⟨(some 4), none, .mov (.c (.int .i64 0))⟩,
⟨(some 5), none, .mov (.c (.int .i64 0))⟩] none)
.ret)))))))))⟩
/-- guidevane/guidevaneref08.PlanErr -/
def ir327 : IFn := ⟨35, [.t 6],
(.seq (.ops [⟨(some 3), none, .box (.t 0)⟩,
⟨(some 4), none, .box (.t 1)⟩,
⟨(some 6), none, .mov (.c (.int .i64 0))⟩] (some [2, 3, 4]))
(.seq (.seq (.ops [⟨(some 8), none, .mov (.t 2)⟩,
⟨(some 9), none, .lenV (.t 8)⟩,
⟨(some 10), none, .faddr 3 (.t 4)⟩,
⟨(some 11), none, .load 1 false (.t 10)⟩,
⟨(some 12), none, .lenV (.t 11)⟩,
⟨(some 13), none, .ibin .neq .i64 (.t 9) (.t 12)⟩] (some [2, 3, 4, 13]))
(.cond (.t 13)
(.seq (.ops [⟨(some 6), none, .mov (.c (.int .i64 10))⟩] none)
.ret)
.skip))
(.seq (.seq (.ops [⟨(some 7), none, .mov (.c (.int .i64 0))⟩] none)
(.block 0 (.loop (.seq (.seq (.ops [⟨(some 14), none, .mov (.t 7)⟩,
⟨(some 15), none, .mov (.t 2)⟩,
⟨(some 16), none, .lenV (.t 15)⟩,
⟨(some 17), none, .ibin .lss .i64 (.t 14) (.t 16)⟩] (some [2, 3, 4, 7, 17]))
(.cond (.t 17)
.skip
(.exit 0)))
(.seq (.block 1 (.seq (.draw (.rd 0 ⟨(some 20), none, .mov (.t 2)⟩
(.rd 1 ⟨(some 21), none, .mov (.t 7)⟩
(.rd 2 ⟨(some 22), none, .iaddr 1 (.t 20) (.t 21)⟩
(.rd 3 ⟨(some 23), none, .load 1 false (.t 22)⟩
(.rd 4 ⟨(some 24), none, .faddr 2 (.t 3)⟩
(.rd 5 ⟨(some 25), none, .load 1 false (.t 24)⟩
(.rd 6 ⟨(some 26), none, .lenV (.t 25)⟩
(.rd 7 ⟨(some 27), none, .ibin .sub .i64 (.t 26) (.c (.int .i64 1))⟩
(.wr 8 ⟨(some 28), none, .call 15 [(.t 23), (.c (.int .i64 0)), (.t 27)]⟩ [3, 7]
(.rd 9 ⟨(some 29), none, .un .not (.t 28)⟩
.fin) .no))))))))) (some [2, 3, 4, 7, 29]))
(.cond (.t 29)
(.seq (.ops [⟨(some 6), none, .mov (.c (.int .i64 6))⟩] none)
.ret)
.skip)))
(.ops [⟨(some 18), none, .mov (.t 7)⟩,
⟨(some 19), none, .ibin .add .i64 (.t 18) (.c (.int .i64 1))⟩,
⟨(some 7), none, .mov (.t 19)⟩] (some [2, 3, 4, 7])))))))
(.seq (.seq (.ops [⟨(some 30), none, .load 3 true (.t 3)⟩,
⟨(some 31), none, .load 4 true (.t 4)⟩,
⟨(some 32), none, .mov (.t 2)⟩,
⟨(some 33), none, .call 356 [(.t 30), (.t 31), (.t 32)]⟩,
⟨(some 34), none, .un .not (.t 33)⟩] (some [34]))
(.cond (.t 34)
(.seq (.ops [⟨(some 6), none, .mov (.c (.int .i64 22))⟩] none)
.ret)
.skip))
(.seq (.ops [⟨(some 6), none, .mov (.c (.int .i64 0))⟩] none)
.ret)))))⟩
/-- guidevane/guidevaneref08.Volumes -/
def ir328 : IFn := ⟨43, [.t 6],
(.seq (.ops [⟨(some 3), none, .box (.t 0)⟩,
⟨(some 4), none, .box (.t 1)⟩,
⟨(some 6), none, .mov (.c (.slice none 0 0))⟩] (some [2, 3, 4]))
(.seq (.ops [⟨(some 9), none, .faddr 0 (.t 4)⟩,
⟨(some 10), none, .load 1 false (.t 9)⟩,
⟨(some 11), none, .bslice 1 1 [(.int .i64 0)] [(0, 1, (.t 10))]⟩,
⟨(some 7), none, .mov (.t 11)⟩] (some [2, 3, 4, 7]))
(.seq (.seq (.ops [⟨(some 8), none, .mov (.c (.int .i64 0))⟩] none)
(.block 0 (.loop (.seq (.seq (.ops [⟨(some 12), none, .mov (.t 8)⟩,
⟨(some 13), none, .mov (.t 2)⟩,
⟨(some 14), none, .lenV (.t 13)⟩,
⟨(some 15), none, .ibin .lss .i64 (.t 12) (.t 14)⟩] (some [2, 3, 4, 7, 8, 15]))
(.cond (.t 15)
.skip
(.exit 0)))
(.seq (.block 1 (.draw (.rd 0 ⟨(some 18), none, .mov (.t 7)⟩
(.rd 1 ⟨(some 19), none, .mov (.t 7)⟩
(.rd 2 ⟨(some 20), none, .mov (.t 8)⟩
(.rd 3 ⟨(some 21), none, .iaddr 1 (.t 19) (.t 20)⟩
(.rd 4 ⟨(some 22), none, .load 1 false (.t 21)⟩
(.rd 5 ⟨(some 23), none, .faddr 3 (.t 4)⟩
(.rd 6 ⟨(some 24), none, .load 1 false (.t 23)⟩
(.rd 7 ⟨(some 25), none, .mov (.t 8)⟩
(.rd 8 ⟨(some 26), none, .iaddr 3 (.t 24) (.t 25)⟩
(.rd 9 ⟨(some 27), none, .faddr 2 (.t 26)⟩
(.rd 10 ⟨(some 28), none, .load 1 false (.t 27)⟩
(.rd 11 ⟨(some 29), none, .ibin .add .i64 (.t 22) (.t 28)⟩
(.rd 12 ⟨(some 30), none, .faddr 2 (.t 3)⟩
(.rd 13 ⟨(some 31), none, .load 1 false (.t 30)⟩
(.rd 14 ⟨(some 32), none, .mov (.t 2)⟩
(.rd 15 ⟨(some 33), none, .mov (.t 8)⟩
(.rd 16 ⟨(some 34), none, .iaddr 1 (.t 32) (.t 33)⟩
(.rd 17 ⟨(some 35), none, .load 1 false (.t 34)⟩
(.rd 18 ⟨(some 36), none, .iaddr 4 (.t 31) (.t 35)⟩
(.rd 19 ⟨(some 37), none, .faddr 1 (.t 36)⟩
(.rd 20 ⟨(some 38), none, .load 1 false (.t 37)⟩
(.rd 21 ⟨(some 39), none, .ibin .add .i64 (.t 29) (.t 38)⟩
(.wr 22 ⟨(some 40), none, .bslice 1 1 [(.int .i64 0)] [(0, 1, (.t 39))]⟩ [21]
(.wr 23 ⟨(some 41), none, .append 1 8 (.t 18) (.t 40)⟩ [0, 22]
(.wr 24 ⟨(some 7), none, .mov (.t 41)⟩ [23, 23, 0, 1, 2, 3, 4, 5, 6, 7, 8, 9, 10, 11, 12, 13, 14, 15, 16, 17, 18, 19, 20, 21, 22, 23]
.fin .no) .no) .no))))))))))))))))))))))) (some [2, 3, 4, 7, 8])))
(.ops [⟨(some 16), none, .mov (.t 8)⟩,
⟨(some 17), none, .ibin .add .i64 (.t 16) (.c (.int .i64 1))⟩,
⟨(some 8), none, .mov (.t 17)⟩] (some [2, 3, 4, 7, 8])))))))
(.seq (.ops [⟨(some 42), none, .mov (.t 7)⟩,
⟨(some 6), none, .mov (.t 42)⟩] (some [6]))
.ret))))⟩
/-- guidevane/guidevaneref08.PlantErr -/
def ir347 : IFn := ⟨11, [.t 2],
(.seq (.ops [⟨(some 1), none, .box (.t 0)⟩,
⟨(some 2), none, .mov (.c (.int .i64 0))⟩] (some [1]))
(.seq (.ops [⟨(some 6), none, .load 3 true (.t 1)⟩,
⟨(some 7), none, .call 325 [(.t 6)]⟩,
⟨(some 5), none, .mov (.t 7)⟩,
⟨(some 8), none, .extract 0 (.t 5)⟩,
⟨(some 9), none, .extract 1 (.t 5)⟩,
⟨(some 3), none, .mov (.t 8)⟩,
⟨(some 4), none, .mov (.t 9)⟩] (some [4]))
(.seq (.ops [⟨(some 10), none, .mov (.t 4)⟩,
⟨(some 2), none, .mov (.t 10)⟩] (some [2]))
.ret)))⟩
/-- guidevane/guidevaneref08.Cell -/
def ir349 : IFn := ⟨17, [.t 6],
(.seq (.ops [⟨(some 3), none, .box (.t 0)⟩,
⟨(some 6), none, .mov (.c (.int .i64 0))⟩] (some [1, 2, 3]))
(.seq (.ops [⟨(some 7), none, .mov (.t 1)⟩,
⟨(some 8), none, .faddr 0 (.t 3)⟩,
⟨(some 9), none, .load 1 false (.t 8)⟩,
⟨(some 10), none, .ibin .sub .i64 (.t 7) (.t 9)⟩,
⟨(some 11), none, .faddr 2 (.t 3)⟩,
⟨(some 12), none, .load 1 false (.t 11)⟩,
⟨(some 13), none, .lenV (.t 12)⟩,
⟨(some 14), none, .ibin .mul .i64 (.t 10) (.t 13)⟩,
⟨(some 15), none, .mov (.t 2)⟩,
⟨(some 16), none, .ibin .add .i64 (.t 14) (.t 15)⟩,
⟨(some 6), none, .mov (.t 16)⟩] (some [6]))
.ret))⟩
/-- guidevane/guidevaneref08.Revenue -/
def ir350 : IFn := ⟨37, [.t 8],
(.seq (.ops [⟨(some 4), none, .box (.t 0)⟩,
⟨(some 5), none, .box (.t 1)⟩,
⟨(some 8), none, .mov (.c (.int .i64 0))⟩] (some [2, 3, 4, 5]))
(.seq (.ops [⟨(some 11), none, .faddr 2 (.t 4)⟩,
⟨(some 12), none, .load 1 false (.t 11)⟩,
⟨(some 13), none, .mov (.t 2)⟩,
⟨(some 14), none, .iaddr 4 (.t 12) (.t 13)⟩,
⟨(some 15), none, .load 4 true (.t 14)⟩,
⟨(some 9), none, .alloc [(.string ⟨#[]⟩), (.int .i64 0), (.int .i64 0), (.int .i64 0)]⟩,
⟨none, none, .store 4 (.t 9) (.t 15)⟩] (some [2, 3, 5, 9]))
(.seq (.ops [⟨(some 16), none, .faddr 2 (.t 9)⟩,
⟨(some 17), none, .load 1 false (.t 16)⟩,
⟨(some 18), none, .faddr 0 (.t 5)⟩,
⟨(some 19), none, .load 1 false (.t 18)⟩,
⟨(some 20), none, .ibin .mul .i64 (.t 17) (.t 19)⟩,
⟨(some 10), none, .mov (.t 20)⟩] (some [2, 3, 5, 9, 10]))
(.seq (.seq (.ops [⟨(some 21), none, .faddr 2 (.t 9)⟩,
⟨(some 22), none, .load 1 false (.t 21)⟩,
⟨(some 23), none, .ibin .gtr .i64 (.t 22) (.c (.int .i64 0))⟩] (some [2, 3, 5, 9, 10, 23]))
(.cond (.t 23)
(.ops [⟨(some 24), none, .faddr 2 (.t 9)⟩,
⟨(some 25), none, .load 1 false (.t 24)⟩,
⟨(some 26), none, .faddr 1 (.t 5)⟩,
⟨(some 27), none, .load 1 false (.t 26)⟩,
⟨(some 28), none, .ibin .mul .i64 (.t 25) (.t 27)⟩,
⟨(some 10), none, .mov (.t 28)⟩] (some [2, 3, 9, 10]))
.skip))
(.seq (.seq (.ops [⟨(some 29), none, .mov (.t 2)⟩,
⟨(some 30), none, .mov (.t 3)⟩,
⟨(some 31), none, .ibin .neq .i64 (.t 29) (.t 30)⟩] (some [9, 10, 31]))
(.cond (.t 31)
(.ops [⟨(some 32), none, .mov (.t 10)⟩,
⟨(some 33), none, .faddr 3 (.t 9)⟩,
⟨(some 34), none, .load 1 false (.t 33)⟩,
⟨(some 35), none, .ibin .sub .i64 (.t 32) (.t 34)⟩,
⟨(some 10), none, .mov (.t 35)⟩] (some [10]))
.skip))
(.seq (.ops [⟨(some 36), none, .mov (.t 10)⟩,
⟨(some 8), none, .mov (.t 36)⟩] (some [8]))
.ret))))))⟩
/-- guidevane/guidevaneref08.given -/
def ir351 : IFn := ⟨47, [.t 10],
(.seq (.ops [⟨(some 5), none, .box (.t 0)⟩,
⟨(some 6), none, .box (.t 1)⟩,
⟨(some 10), none, .mov (.c (.int .i64 0))⟩] (some [2, 3, 4, 5, 6]))
(.seq (.ops [⟨(some 11), none, .mov (.c (.int .i64 0))⟩] none)
(.seq (.seq (.ops [⟨(some 13), none, .mov (.t 2)⟩,
⟨(some 12), none, .mov (.t 13)⟩] (some [3, 4, 5, 6, 11, 12]))
(.block 0 (.loop (.seq (.seq (.ops [⟨(some 14), none, .mov (.t 12)⟩,
⟨(some 15), none, .faddr 3 (.t 6)⟩,
⟨(some 16), none, .load 1 false (.t 15)⟩,
⟨(some 17), none, .lenV (.t 16)⟩,
⟨(some 18), none, .ibin .lss .i64 (.t 14) (.t 17)⟩] (some [3, 4, 5, 6, 11, 12, 18]))
(.cond (.t 18)
.skip
(.exit 0)))
(.seq (.block 1 (.seq (.draw (.rd 0 ⟨(some 21), none, .mov (.t 3)⟩
(.rd 1 ⟨(some 22), none, .faddr 3 (.t 6)⟩
(.rd 2 ⟨(some 23), none, .load 1 false (.t 22)⟩
(.rd 3 ⟨(some 24), none, .mov (.t 12)⟩
(.rd 4 ⟨(some 25), none, .iaddr 3 (.t 23) (.t 24)⟩
(.rd 5 ⟨(some 26), none, .faddr 2 (.t 25)⟩
(.rd 6 ⟨(some 27), none, .load 1 false (.t 26)⟩
(.rd 7 ⟨(some 28), none, .ibin .add .i64 (.t 21) (.t 27)⟩
(.rd 8 ⟨(some 29), none, .faddr 2 (.t 5)⟩
(.rd 9 ⟨(some 30), none, .load 1 false (.t 29)⟩
(.rd 10 ⟨(some 31), none, .mov (.t 4)⟩
(.rd 11 ⟨(some 32), none, .iaddr 4 (.t 30) (.t 31)⟩
(.rd 12 ⟨(some 33), none, .faddr 1 (.t 32)⟩
(.rd 13 ⟨(some 34), none, .load 1 false (.t 33)⟩
(.rd 14 ⟨(some 35), none, .ibin .add .i64 (.t 28) (.t 34)⟩
(.wr 15 ⟨(some 3), none, .mov (.t 35)⟩ [14, 0, 1, 2, 3, 4, 5, 6, 7, 8, 9, 10, 11, 12, 13, 14]
.fin .no)))))))))))))))) (some [3, 4, 5, 6, 11, 12]))
(.seq (.seq (.ops [⟨(some 36), none, .mov (.t 3)⟩,
⟨(some 37), none, .faddr 0 (.t 5)⟩,
⟨(some 38), none, .load 1 false (.t 37)⟩,
⟨(some 39), none, .faddr 1 (.t 5)⟩,
⟨(some 40), none, .load 1 false (.t 39)⟩,
⟨(some 41), none, .call 15 [(.t 36), (.t 38), (.t 40)]⟩,
⟨(some 42), none, .un .not (.t 41)⟩] (some [3, 4, 5, 6, 11, 12, 42]))
(.cond (.t 42)
(.seq (.ops [⟨(some 43), none, .mov (.t 11)⟩,
⟨(some 10), none, .mov (.t 43)⟩] (some [10]))
.ret)
.skip))
(.ops [⟨(some 44), none, .mov (.t 11)⟩,
⟨(some 45), none, .ibin .add .i64 (.t 44) (.c (.int .i64 1))⟩,
⟨(some 11), none, .mov (.t 45)⟩] (some [3, 4, 5, 6, 11, 12])))))
(.ops [⟨(some 19), none, .mov (.t 12)⟩,
⟨(some 20), none, .ibin .add .i64 (.t 19) (.c (.int .i64 1))⟩,
⟨(some 12), none, .mov (.t 20)⟩] (some [3, 4, 5, 6, 11, 12])))))))
(.seq (.ops [⟨(some 46), none, .mov (.t 11)⟩,
⟨(some 10), none, .mov (.t 46)⟩] (some [10]))
.ret))))⟩
/-- guidevane/guidevaneref08.modeErr -/
def ir354 : IFn := ⟨29, [.t 4],
(.seq (.ops [⟨(some 2), none, .box (.t 0)⟩,
⟨(some 4), none, .mov (.c (.int .i64 0))⟩] (some [1, 2]))
(.seq (.seq (.ops [⟨(some 5), none, .faddr 0 (.t 2)⟩,
⟨(some 6), none, .load 1 false (.t 5)⟩,
⟨(some 7), none, .call 91 [(.t 6)]⟩,
⟨(some 8), none, .un .not (.t 7)⟩] (some [1, 2, 8]))
(.cond (.t 8)
(.seq (.ops [⟨(some 4), none, .mov (.c (.int .i64 4))⟩] none)
.ret)
.skip))
(.seq (.seq (.ops [⟨(some 9), none, .mov (.t 1)⟩,
⟨(some 10), none, .faddr 0 (.t 2)⟩,
⟨(some 11), none, .load 1 false (.t 10)⟩,
⟨(some 12), none, .call 364 [(.t 9), (.t 11)]⟩] (some [2, 12]))
(.cond (.t 12)
(.seq (.ops [⟨(some 4), none, .mov (.c (.int .i64 5))⟩] none)
.ret)
.skip))
(.seq (.seq (.ops [⟨(some 13), none, .faddr 1 (.t 2)⟩,
⟨(some 14), none, .load 1 false (.t 13)⟩,
⟨(some 15), none, .call 15 [(.t 14), (.c (.int .i64 (-10000))), (.c (.int .i64 10000))]⟩,
⟨(some 16), none, .un .not (.t 15)⟩,
⟨(some 17), none, .mov (.t 16)⟩,
⟨(some 18), (some (17, false)), .faddr 2 (.t 2)⟩,
⟨(some 19), (some (17, false)), .load 1 false (.t 18)⟩,
⟨(some 20), (some (17, false)), .call 15 [(.t 19), (.c (.int .i64 (-10000))), (.c (.int .i64 10000))]⟩,
⟨(some 21), (some (17, false)), .un .not (.t 20)⟩,
⟨(some 22), none, .pick (.t 17) (.c (.bool true)) (.t 21)⟩,
⟨(some 23), none, .mov (.t 22)⟩,
⟨(some 24), (some (23, false)), .faddr 3 (.t 2)⟩,
⟨(some 25), (some (23, false)), .load 1 false (.t 24)⟩,
⟨(some 26), (some (23, false)), .call 15 [(.t 25), (.c (.int .i64 0)), (.c (.int .i64 10000))]⟩,
⟨(some 27), (some (23, false)), .un .not (.t 26)⟩,
⟨(some 28), none, .pick (.t 23) (.c (.bool true)) (.t 27)⟩] (some [28]))
(.cond (.t 28)
(.seq (.ops [⟨(some 4), none, .mov (.c (.int .i64 2))⟩] none)
.ret)
.skip))
(.seq (.ops [⟨(some 4), none, .mov (.c (.int .i64 0))⟩] none)
.ret)))))⟩
/-- guidevane/guidevaneref08.isPrice -/
def ir355 : IFn := ⟨5, [.t 2],
(.seq (.ops [⟨(some 2), none, .mov (.c (.bool false))⟩] (some [0]))
(.seq (.ops [⟨(some 3), none, .mov (.t 0)⟩,
⟨(some 4), none, .call 15 [(.t 3), (.c (.int .i64 (-10000))), (.c (.int .i64 10000))]⟩,
⟨(some 2), none, .mov (.t 4)⟩] (some [2]))
.ret))⟩
/-- guidevane/guidevaneref08.Possible -/
def ir356 : IFn := ⟨29, [.t 6],
(.seq (.ops [⟨(some 3), none, .box (.t 0)⟩,
⟨(some 4), none, .box (.t 1)⟩,
⟨(some 6), none, .mov (.c (.bool false))⟩] (some [2, 3, 4]))
(.seq (.ops [⟨(some 9), none, .load 3 true (.t 3)⟩,
⟨(some 10), none, .load 4 true (.t 4)⟩,
⟨(some 11), none, .mov (.t 2)⟩,
⟨(some 12), none, .call 328 [(.t 9), (.t 10), (.t 11)]⟩,
⟨(some 7), none, .mov (.t 12)⟩] (some [3, 7]))
(.seq (.seq (.ops [⟨(some 8), none, .mov (.c (.int .i64 0))⟩] none)
(.block 0 (.loop (.seq (.seq (.ops [⟨(some 13), none, .mov (.t 8)⟩,
⟨(some 14), none, .mov (.t 7)⟩,
⟨(some 15), none, .lenV (.t 14)⟩,
⟨(some 16), none, .ibin .lss .i64 (.t 13) (.t 15)⟩] (some [3, 7, 8, 16]))
(.cond (.t 16)
.skip
(.exit 0)))
(.seq (.block 1 (.seq (.draw (.rd 0 ⟨(some 19), none, .mov (.t 7)⟩
(.rd 1 ⟨(some 20), none, .mov (.t 8)⟩
(.rd 2 ⟨(some 21), none, .iaddr 1 (.t 19) (.t 20)⟩
(.rd 3 ⟨(some 22), none, .load 1 false (.t 21)⟩
(.rd 4 ⟨(some 23), none, .faddr 0 (.t 3)⟩
(.rd 5 ⟨(some 24), none, .load 1 false (.t 23)⟩
(.rd 6 ⟨(some 25), none, .faddr 1 (.t 3)⟩
(.rd 7 ⟨(some 26), none, .load 1 false (.t 25)⟩
(.wr 8 ⟨(some 27), none, .call 15 [(.t 22), (.t 24), (.t 26)]⟩ [3, 5, 7]
(.rd 9 ⟨(some 28), none, .un .not (.t 27)⟩
.fin) .no))))))))) (some [3, 7, 8, 28]))
(.cond (.t 28)
(.seq (.ops [⟨(some 6), none, .mov (.c (.bool false))⟩] none)
.ret)
.skip)))
(.ops [⟨(some 17), none, .mov (.t 8)⟩,
⟨(some 18), none, .ibin .add .i64 (.t 17) (.c (.int .i64 1))⟩,
⟨(some 8), none, .mov (.t 18)⟩] (some [3, 7, 8])))))))
(.seq (.ops [⟨(some 6), none, .mov (.c (.bool true))⟩] none)
.ret))))⟩
/-- guidevane/guidevanebase.HasText -/
def ir364 : IFn := ⟨18, [.t 4],
(.seq (.ops [⟨(some 4), none, .mov (.c (.bool false))⟩] (some [0, 1]))
(.seq (.seq (.ops [⟨(some 5), none, .mov (.c (.int .i64 0))⟩] none)
(.block 0 (.loop (.seq (.seq (.ops [⟨(some 6), none, .mov (.t 5)⟩,
⟨(some 7), none, .mov (.t 0)⟩,
⟨(some 8), none, .lenV (.t 7)⟩,
⟨(some 9), none, .ibin .lss .i64 (.t 6) (.t 8)⟩] (some [0, 1, 5, 9]))
(.cond (.t 9)
.skip
(.exit 0)))
(.seq (.block 1 (.seq (.ops [⟨(some 12), none, .mov (.t 0)⟩,
⟨(some 13), none, .mov (.t 5)⟩,
⟨(some 14), none, .iaddr 1 (.t 12) (.t 13)⟩,
⟨(some 15), none, .load 1 false (.t 14)⟩,
⟨(some 16), none, .mov (.t 1)⟩,
⟨(some 17), none, .sbin .eql (.t 15) (.t 16)⟩] (some [0, 1, 5, 17]))
(.cond (.t 17)
(.seq (.ops [⟨(some 4), none, .mov (.c (.bool true))⟩] none)
.ret)
.skip)))
(.ops [⟨(some 10), none, .mov (.t 5)⟩,
⟨(some 11), none, .ibin .add .i64 (.t 10) (.c (.int .i64 1))⟩,
⟨(some 5), none, .mov (.t 11)⟩] (some [0, 1, 5])))))))
(.seq (.ops [⟨(some 4), none, .mov (.c (.bool false))⟩] none)
.ret)))⟩

end Go.Proofs.YtmbekcealcjabaaGreat.AM
