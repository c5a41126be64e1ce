/- The functions in the small language. Conditions: none. -/
import Derived.Test.YtfdapegcngmknaaGreatAmFn
namespace Go.Proofs.YtfdapegcngmknaaGreat.AM
set_option linter.unusedSimpArgs false
set_option linter.unusedVariables false
open Go Go.RowKit

/-- slices.symMergeCmpFunc[int] -/
def ir137 : IFn := ⟨220, [],
(.seq (.seq (.ops [⟨(some 25), none, .mov (.t 2)⟩,
⟨(some 26), none, .mov (.t 1)⟩,
⟨(some 27), none, .ibin .sub .i64 (.t 25) (.t 26)⟩,
⟨(some 28), none, .ibin .eql .i64 (.t 27) (.c (.int .i64 1))⟩] (some [0, 1, 2, 3, 4, 28]))
(.cond (.t 28)
(.seq (.ops [⟨(some 29), none, .mov (.t 2)⟩,
⟨(some 10), none, .mov (.t 29)⟩] (some [0, 1, 3, 4, 10]))
(.seq (.ops [⟨(some 30), none, .mov (.t 3)⟩,
⟨(some 11), none, .mov (.t 30)⟩] (some [0, 1, 4, 10, 11]))
(.seq (.block 0 (.loop (.seq (.seq (.ops [⟨(some 31), none, .mov (.t 10)⟩,
⟨(some 32), none, .mov (.t 11)⟩,
⟨(some 33), none, .ibin .lss .i64 (.t 31) (.t 32)⟩] (some [0, 1, 4, 10, 11, 33]))
(.cond (.t 33)
.skip
(.exit 0)))
(.block 1 (.seq (.ops [⟨(some 34), none, .mov (.t 10)⟩,
⟨(some 35), none, .mov (.t 11)⟩,
⟨(some 36), none, .ibin .add .i64 (.t 34) (.t 35)⟩,
⟨(some 37), none, .conv .u64 (.t 36)⟩,
⟨(some 38), none, .shift .shr .u64 (.t 37) (.c (.int .u64 1))⟩,
⟨(some 39), none, .conv .i64 (.t 38)⟩,
⟨(some 12), none, .mov (.t 39)⟩] (some [0, 1, 4, 10, 11, 12]))
(.seq (.draw (.rd 0 ⟨(some 40), none, .mov (.t 4)⟩
(.rd 1 ⟨(some 41), none, .mov (.t 0)⟩
(.rd 2 ⟨(some 42), none, .mov (.t 12)⟩
(.rd 3 ⟨(some 43), none, .iaddr 1 (.t 41) (.t 42)⟩
(.rd 4 ⟨(some 44), none, .load 1 false (.t 43)⟩
(.rd 5 ⟨(some 45), none, .mov (.t 0)⟩
(.rd 6 ⟨(some 46), none, .mov (.t 1)⟩
(.rd 7 ⟨(some 47), none, .iaddr 1 (.t 45) (.t 46)⟩
(.rd 8 ⟨(some 48), none, .load 1 false (.t 47)⟩
(.wr 9 ⟨(some 49), none, .callv (.t 40) [(.t 44), (.t 48)]⟩ [0, 4, 8]
(.rd 10 ⟨(some 50), none, .ibin .lss .i64 (.t 49) (.c (.int .i64 0))⟩
.fin) .no)))))))))) (some [0, 1, 4, 10, 11, 12, 50]))
(.cond (.t 50)
(.ops [⟨(some 51), none, .mov (.t 12)⟩,
⟨(some 52), none, .ibin .add .i64 (.t 51) (.c (.int .i64 1))⟩,
⟨(some 10), none, .mov (.t 52)⟩] (some [0, 1, 4, 10, 11]))
(.ops [⟨(some 53), none, .mov (.t 12)⟩,
⟨(some 11), none, .mov (.t 53)⟩] (some [0, 1, 4, 10, 11])))))))))
(.seq (.seq (.ops [⟨(some 54), none, .mov (.t 1)⟩,
⟨(some 13), none, .mov (.t 54)⟩] (some [0, 10, 13]))
(.block 2 (.loop (.seq (.seq (.ops [⟨(some 55), none, .mov (.t 13)⟩,
⟨(some 56), none, .mov (.t 10)⟩,
⟨(some 57), none, .ibin .sub .i64 (.t 56) (.c (.int .i64 1))⟩,
⟨(some 58), none, .ibin .lss .i64 (.t 55) (.t 57)⟩] (some [0, 10, 13, 58]))
(.cond (.t 58)
.skip
(.exit 2)))
(.seq (.block 3 (.draw (.rd 0 ⟨(some 61), none, .mov (.t 0)⟩
(.rd 1 ⟨(some 62), none, .mov (.t 13)⟩
(.rd 2 ⟨(some 63), none, .mov (.t 0)⟩
(.rd 3 ⟨(some 64), none, .mov (.t 13)⟩
(.rd 4 ⟨(some 65), none, .ibin .add .i64 (.t 64) (.c (.int .i64 1))⟩
(.rd 5 ⟨(some 66), none, .mov (.t 0)⟩
(.rd 6 ⟨(some 67), none, .mov (.t 13)⟩
(.rd 7 ⟨(some 68), none, .ibin .add .i64 (.t 67) (.c (.int .i64 1))⟩
(.rd 8 ⟨(some 69), none, .iaddr 1 (.t 66) (.t 68)⟩
(.rd 9 ⟨(some 70), none, .load 1 false (.t 69)⟩
(.rd 10 ⟨(some 71), none, .mov (.t 0)⟩
(.rd 11 ⟨(some 72), none, .mov (.t 13)⟩
(.rd 12 ⟨(some 73), none, .iaddr 1 (.t 71) (.t 72)⟩
(.rd 13 ⟨(some 74), none, .load 1 false (.t 73)⟩
(.rd 14 ⟨(some 75), none, .iaddr 1 (.t 61) (.t 62)⟩
(.wr 15 ⟨none, none, .store 1 (.t 75) (.t 70)⟩ [14, 9, 0, 1, 5, 6, 7, 8, 9, 13]
(.rd 16 ⟨(some 76), none, .iaddr 1 (.t 63) (.t 65)⟩
(.wr 17 ⟨none, none, .store 1 (.t 76) (.t 74)⟩ [16, 13, 15, 0, 1, 2, 3, 4, 5, 6, 7, 8, 9, 10, 11, 12, 13, 14, 15]
.fin .no)) .no)))))))))))))))) (some [0, 10, 13])))
(.ops [⟨(some 59), none, .mov (.t 13)⟩,
⟨(some 60), none, .ibin .add .i64 (.t 59) (.c (.int .i64 1))⟩,
⟨(some 13), none, .mov (.t 60)⟩] (some [0, 10, 13])))))))
.ret))))
.skip))
(.seq (.seq (.ops [⟨(some 77), none, .mov (.t 3)⟩,
⟨(some 78), none, .mov (.t 2)⟩,
⟨(some 79), none, .ibin .sub .i64 (.t 77) (.t 78)⟩,
⟨(some 80), none, .ibin .eql .i64 (.t 79) (.c (.int .i64 1))⟩] (some [0, 1, 2, 3, 4, 80]))
(.cond (.t 80)
(.seq (.ops [⟨(some 81), none, .mov (.t 1)⟩,
⟨(some 14), none, .mov (.t 81)⟩] (some [0, 2, 4, 14]))
(.seq (.ops [⟨(some 82), none, .mov (.t 2)⟩,
⟨(some 15), none, .mov (.t 82)⟩] (some [0, 2, 4, 14, 15]))
(.seq (.block 4 (.loop (.seq (.seq (.ops [⟨(some 83), none, .mov (.t 14)⟩,
⟨(some 84), none, .mov (.t 15)⟩,
⟨(some 85), none, .ibin .lss .i64 (.t 83) (.t 84)⟩] (some [0, 2, 4, 14, 15, 85]))
(.cond (.t 85)
.skip
(.exit 4)))
(.block 5 (.seq (.ops [⟨(some 86), none, .mov (.t 14)⟩,
⟨(some 87), none, .mov (.t 15)⟩,
⟨(some 88), none, .ibin .add .i64 (.t 86) (.t 87)⟩,
⟨(some 89), none, .conv .u64 (.t 88)⟩,
⟨(some 90), none, .shift .shr .u64 (.t 89) (.c (.int .u64 1))⟩,
⟨(some 91), none, .conv .i64 (.t 90)⟩,
⟨(some 16), none, .mov (.t 91)⟩] (some [0, 2, 4, 14, 15, 16]))
(.seq (.draw (.rd 0 ⟨(some 92), none, .mov (.t 4)⟩
(.rd 1 ⟨(some 93), none, .mov (.t 0)⟩
(.rd 2 ⟨(some 94), none, .mov (.t 2)⟩
(.rd 3 ⟨(some 95), none, .iaddr 1 (.t 93) (.t 94)⟩
(.rd 4 ⟨(some 96), none, .load 1 false (.t 95)⟩
(.rd 5 ⟨(some 97), none, .mov (.t 0)⟩
(.rd 6 ⟨(some 98), none, .mov (.t 16)⟩
(.rd 7 ⟨(some 99), none, .iaddr 1 (.t 97) (.t 98)⟩
(.rd 8 ⟨(some 100), none, .load 1 false (.t 99)⟩
(.wr 9 ⟨(some 101), none, .callv (.t 92) [(.t 96), (.t 100)]⟩ [0, 4, 8]
(.rd 10 ⟨(some 102), none, .ibin .lss .i64 (.t 101) (.c (.int .i64 0))⟩
(.rd 11 ⟨(some 103), none, .un .not (.t 102)⟩
.fin)) .no)))))))))) (some [0, 2, 4, 14, 15, 16, 103]))
(.cond (.t 103)
(.ops [⟨(some 104), none, .mov (.t 16)⟩,
⟨(some 105), none, .ibin .add .i64 (.t 104) (.c (.int .i64 1))⟩,
⟨(some 14), none, .mov (.t 105)⟩] (some [0, 2, 4, 14, 15]))
(.ops [⟨(some 106), none, .mov (.t 16)⟩,
⟨(some 15), none, .mov (.t 106)⟩] (some [0, 2, 4, 14, 15])))))))))
(.seq (.seq (.ops [⟨(some 107), none, .mov (.t 2)⟩,
⟨(some 17), none, .mov (.t 107)⟩] (some [0, 14, 17]))
(.block 6 (.loop (.seq (.seq (.ops [⟨(some 108), none, .mov (.t 17)⟩,
⟨(some 109), none, .mov (.t 14)⟩,
⟨(some 110), none, .ibin .gtr .i64 (.t 108) (.t 109)⟩] (some [0, 14, 17, 110]))
(.cond (.t 110)
.skip
(.exit 6)))
(.seq (.block 7 (.draw (.rd 0 ⟨(some 113), none, .mov (.t 0)⟩
(.rd 1 ⟨(some 114), none, .mov (.t 17)⟩
(.rd 2 ⟨(some 115), none, .mov (.t 0)⟩
(.rd 3 ⟨(some 116), none, .mov (.t 17)⟩
(.rd 4 ⟨(some 117), none, .ibin .sub .i64 (.t 116) (.c (.int .i64 1))⟩
(.rd 5 ⟨(some 118), none, .mov (.t 0)⟩
(.rd 6 ⟨(some 119), none, .mov (.t 17)⟩
(.rd 7 ⟨(some 120), none, .ibin .sub .i64 (.t 119) (.c (.int .i64 1))⟩
(.rd 8 ⟨(some 121), none, .iaddr 1 (.t 118) (.t 120)⟩
(.rd 9 ⟨(some 122), none, .load 1 false (.t 121)⟩
(.rd 10 ⟨(some 123), none, .mov (.t 0)⟩
(.rd 11 ⟨(some 124), none, .mov (.t 17)⟩
(.rd 12 ⟨(some 125), none, .iaddr 1 (.t 123) (.t 124)⟩
(.rd 13 ⟨(some 126), none, .load 1 false (.t 125)⟩
(.rd 14 ⟨(some 127), none, .iaddr 1 (.t 113) (.t 114)⟩
(.wr 15 ⟨none, none, .store 1 (.t 127) (.t 122)⟩ [14, 9, 0, 1, 5, 6, 7, 8, 9, 13]
(.rd 16 ⟨(some 128), none, .iaddr 1 (.t 115) (.t 117)⟩
(.wr 17 ⟨none, none, .store 1 (.t 128) (.t 126)⟩ [16, 13, 15, 0, 1, 2, 3, 4, 5, 6, 7, 8, 9, 10, 11, 12, 13, 14, 15]
.fin .no)) .no)))))))))))))))) (some [0, 14, 17])))
(.ops [⟨(some 111), none, .mov (.t 17)⟩,
⟨(some 112), none, .ibin .sub .i64 (.t 111) (.c (.int .i64 1))⟩,
⟨(some 17), none, .mov (.t 112)⟩] (some [0, 14, 17])))))))
.ret))))
.skip))
(.seq (.ops [⟨(some 129), none, .mov (.t 1)⟩,
⟨(some 130), none, .mov (.t 3)⟩,
⟨(some 131), none, .ibin .add .i64 (.t 129) (.t 130)⟩,
⟨(some 132), none, .conv .u64 (.t 131)⟩,
⟨(some 133), none, .shift .shr .u64 (.t 132) (.c (.int .u64 1))⟩,
⟨(some 134), none, .conv .i64 (.t 133)⟩,
⟨(some 18), none, .mov (.t 134)⟩] (some [0, 1, 2, 3, 4, 18]))
(.seq (.ops [⟨(some 135), none, .mov (.t 18)⟩,
⟨(some 136), none, .mov (.t 2)⟩,
⟨(some 137), none, .ibin .add .i64 (.t 135) (.t 136)⟩,
⟨(some 19), none, .mov (.t 137)⟩] (some [0, 1, 2, 3, 4, 18, 19]))
(.seq (.ops [⟨(some 20), none, .mov (.c (.int .i64 0))⟩,
⟨(some 21), none, .mov (.c (.int .i64 0))⟩] (some [0, 1, 2, 3, 4, 18, 19]))
(.seq (.seq (.ops [⟨(some 138), none, .mov (.t 2)⟩,
⟨(some 139), none, .mov (.t 18)⟩,
⟨(some 140), none, .ibin .gtr .i64 (.t 138) (.t 139)⟩] (some [0, 1, 2, 3, 4, 18, 19, 140]))
(.cond (.t 140)
(.seq (.ops [⟨(some 141), none, .mov (.t 19)⟩,
⟨(some 142), none, .mov (.t 3)⟩,
⟨(some 143), none, .ibin .sub .i64 (.t 141) (.t 142)⟩,
⟨(some 20), none, .mov (.t 143)⟩] (some [0, 1, 2, 3, 4, 18, 19, 20]))
(.ops [⟨(some 144), none, .mov (.t 18)⟩,
⟨(some 21), none, .mov (.t 144)⟩] (some [0, 1, 2, 3, 4, 18, 19, 20, 21])))
(.seq (.ops [⟨(some 145), none, .mov (.t 1)⟩,
⟨(some 20), none, .mov (.t 145)⟩] (some [0, 1, 2, 3, 4, 18, 19, 20]))
(.ops [⟨(some 146), none, .mov (.t 2)⟩,
⟨(some 21), none, .mov (.t 146)⟩] (some [0, 1, 2, 3, 4, 18, 19, 20, 21])))))
(.seq (.ops [⟨(some 147), none, .mov (.t 19)⟩,
⟨(some 148), none, .ibin .sub .i64 (.t 147) (.c (.int .i64 1))⟩,
⟨(some 22), none, .mov (.t 148)⟩] (some [0, 1, 2, 3, 4, 18, 19, 20, 21, 22]))
(.seq (.block 8 (.loop (.seq (.seq (.ops [⟨(some 149), none, .mov (.t 20)⟩,
⟨(some 150), none, .mov (.t 21)⟩,
⟨(some 151), none, .ibin .lss .i64 (.t 149) (.t 150)⟩] (some [0, 1, 2, 3, 4, 18, 19, 20, 21, 22, 151]))
(.cond (.t 151)
.skip
(.exit 8)))
(.block 9 (.seq (.ops [⟨(some 152), none, .mov (.t 20)⟩,
⟨(some 153), none, .mov (.t 21)⟩,
⟨(some 154), none, .ibin .add .i64 (.t 152) (.t 153)⟩,
⟨(some 155), none, .conv .u64 (.t 154)⟩,
⟨(some 156), none, .shift .shr .u64 (.t 155) (.c (.int .u64 1))⟩,
⟨(some 157), none, .conv .i64 (.t 156)⟩,
⟨(some 23), none, .mov (.t 157)⟩] (some [0, 1, 2, 3, 4, 18, 19, 20, 21, 22, 23]))
(.seq (.draw (.rd 0 ⟨(some 158), none, .mov (.t 4)⟩
(.rd 1 ⟨(some 159), none, .mov (.t 0)⟩
(.rd 2 ⟨(some 160), none, .mov (.t 22)⟩
(.rd 3 ⟨(some 161), none, .mov (.t 23)⟩
(.rd 4 ⟨(some 162), none, .ibin .sub .i64 (.t 160) (.t 161)⟩
(.rd 5 ⟨(some 163), none, .iaddr 1 (.t 159) (.t 162)⟩
(.rd 6 ⟨(some 164), none, .load 1 false (.t 163)⟩
(.rd 7 ⟨(some 165), none, .mov (.t 0)⟩
(.rd 8 ⟨(some 166), none, .mov (.t 23)⟩
(.rd 9 ⟨(some 167), none, .iaddr 1 (.t 165) (.t 166)⟩
(.rd 10 ⟨(some 168), none, .load 1 false (.t 167)⟩
(.wr 11 ⟨(some 169), none, .callv (.t 158) [(.t 164), (.t 168)]⟩ [0, 6, 10]
(.rd 12 ⟨(some 170), none, .ibin .lss .i64 (.t 169) (.c (.int .i64 0))⟩
(.rd 13 ⟨(some 171), none, .un .not (.t 170)⟩
.fin)) .no)))))))))))) (some [0, 1, 2, 3, 4, 18, 19, 20, 21, 22, 23, 171]))
(.cond (.t 171)
(.ops [⟨(some 172), none, .mov (.t 23)⟩,
⟨(some 173), none, .ibin .add .i64 (.t 172) (.c (.int .i64 1))⟩,
⟨(some 20), none, .mov (.t 173)⟩] (some [0, 1, 2, 3, 4, 18, 19, 20, 21, 22]))
(.ops [⟨(some 174), none, .mov (.t 23)⟩,
⟨(some 21), none, .mov (.t 174)⟩] (some [0, 1, 2, 3, 4, 18, 19, 20, 21, 22])))))))))
(.seq (.ops [⟨(some 175), none, .mov (.t 19)⟩,
⟨(some 176), none, .mov (.t 20)⟩,
⟨(some 177), none, .ibin .sub .i64 (.t 175) (.t 176)⟩,
⟨(some 24), none, .mov (.t 177)⟩] (some [0, 1, 2, 3, 4, 18, 20, 24]))
(.seq (.seq (.ops [⟨(some 178), none, .mov (.t 20)⟩,
⟨(some 179), none, .mov (.t 2)⟩,
⟨(some 180), none, .ibin .lss .i64 (.t 178) (.t 179)⟩,
⟨(some 181), none, .mov (.t 180)⟩,
⟨(some 182), (some (181, true)), .mov (.t 2)⟩,
⟨(some 183), (some (181, true)), .mov (.t 24)⟩,
⟨(some 184), (some (181, true)), .ibin .lss .i64 (.t 182) (.t 183)⟩,
⟨(some 185), none, .pick (.t 181) (.t 184) (.c (.bool false))⟩] (some [0, 1, 2, 3, 4, 18, 20, 24, 185]))
(.cond (.t 185)
(.ops [⟨(some 186), none, .mov (.t 0)⟩,
⟨(some 187), none, .mov (.t 20)⟩,
⟨(some 188), none, .mov (.t 2)⟩,
⟨(some 189), none, .mov (.t 24)⟩,
⟨(some 190), none, .mov (.t 4)⟩,
⟨(some 191), none, .call 144 [(.t 186), (.t 187), (.t 188), (.t 189), (.t 190)]⟩] (some [0, 1, 3, 4, 18, 20, 24]))
.skip))
(.seq (.seq (.ops [⟨(some 192), none, .mov (.t 1)⟩,
⟨(some 193), none, .mov (.t 20)⟩,
⟨(some 194), none, .ibin .lss .i64 (.t 192) (.t 193)⟩,
⟨(some 195), none, .mov (.t 194)⟩,
⟨(some 196), (some (195, true)), .mov (.t 20)⟩,
⟨(some 197), (some (195, true)), .mov (.t 18)⟩,
⟨(some 198), (some (195, true)), .ibin .lss .i64 (.t 196) (.t 197)⟩,
⟨(some 199), none, .pick (.t 195) (.t 198) (.c (.bool false))⟩] (some [0, 1, 3, 4, 18, 20, 24, 199]))
(.cond (.t 199)
(.ops [⟨(some 200), none, .mov (.t 0)⟩,
⟨(some 201), none, .mov (.t 1)⟩,
⟨(some 202), none, .mov (.t 20)⟩,
⟨(some 203), none, .mov (.t 18)⟩,
⟨(some 204), none, .mov (.t 4)⟩,
⟨(some 205), none, .call 137 [(.t 200), (.t 201), (.t 202), (.t 203), (.t 204)]⟩] (some [0, 3, 4, 18, 24]))
.skip))
(.seq (.ops [⟨(some 206), none, .mov (.t 18)⟩,
⟨(some 207), none, .mov (.t 24)⟩,
⟨(some 208), none, .ibin .lss .i64 (.t 206) (.t 207)⟩,
⟨(some 209), none, .mov (.t 208)⟩,
⟨(some 210), (some (209, true)), .mov (.t 24)⟩,
⟨(some 211), (some (209, true)), .mov (.t 3)⟩,
⟨(some 212), (some (209, true)), .ibin .lss .i64 (.t 210) (.t 211)⟩,
⟨(some 213), none, .pick (.t 209) (.t 212) (.c (.bool false))⟩] (some [0, 3, 4, 18, 24, 213]))
(.cond (.t 213)
(.ops [⟨(some 214), none, .mov (.t 0)⟩,
⟨(some 215), none, .mov (.t 18)⟩,
⟨(some 216), none, .mov (.t 24)⟩,
⟨(some 217), none, .mov (.t 3)⟩,
⟨(some 218), none, .mov (.t 4)⟩,
⟨(some 219), none, .call 137 [(.t 214), (.t 215), (.t 216), (.t 217), (.t 218)]⟩] (some []))
.skip)))))))))))))⟩
/-- slices.Contains[[]int,int] -/
def ir138 : IFn := ⟨9, [.t 4],
(.seq (.ops [⟨(some 4), none, .mov (.c (.bool false))⟩] (some [0, 1]))
(.seq (.ops [⟨(some 5), none, .mov (.t 0)⟩,
⟨(some 6), none, .mov (.t 1)⟩,
⟨(some 7), none, .call 145 [(.t 5), (.t 6)]⟩,
⟨(some 8), none, .ibin .geq .i64 (.t 7) (.c (.int .i64 0))⟩,
⟨(some 4), none, .mov (.t 8)⟩] (some [4]))
.ret))⟩
/-- slices.siftDownOrdered[int] -/
def ir139 : IFn := ⟨76, [],
(.seq (.ops [⟨(some 10), none, .mov (.t 1)⟩,
⟨(some 8), none, .mov (.t 10)⟩] (some [0, 2, 3, 8]))
(.block 0 (.loop (.block 1 (.seq (.ops [⟨(some 11), none, .mov (.t 8)⟩,
⟨(some 12), none, .ibin .mul .i64 (.c (.int .i64 2)) (.t 11)⟩,
⟨(some 13), none, .ibin .add .i64 (.t 12) (.c (.int .i64 1))⟩,
⟨(some 9), none, .mov (.t 13)⟩] (some [0, 2, 3, 8, 9]))
(.seq (.seq (.ops [⟨(some 14), none, .mov (.t 9)⟩,
⟨(some 15), none, .mov (.t 2)⟩,
⟨(some 16), none, .ibin .geq .i64 (.t 14) (.t 15)⟩] (some [0, 2, 3, 8, 9, 16]))
(.cond (.t 16)
(.exit 0)
.skip))
(.seq (.seq (.draw (.rd 0 ⟨(some 17), none, .mov (.t 9)⟩
(.rd 1 ⟨(some 18), none, .ibin .add .i64 (.t 17) (.c (.int .i64 1))⟩
(.rd 2 ⟨(some 19), none, .mov (.t 2)⟩
(.rd 3 ⟨(some 20), none, .ibin .lss .i64 (.t 18) (.t 19)⟩
(.rd 4 ⟨(some 21), none, .mov (.t 20)⟩
(.rd 5 ⟨(some 22), (some (21, true)), .mov (.t 0)⟩
(.rd 6 ⟨(some 23), (some (21, true)), .mov (.t 3)⟩
(.rd 7 ⟨(some 24), (some (21, true)), .mov (.t 9)⟩
(.rd 8 ⟨(some 25), (some (21, true)), .ibin .add .i64 (.t 23) (.t 24)⟩
(.rd 9 ⟨(some 26), (some (21, true)), .iaddr 1 (.t 22) (.t 25)⟩
(.rd 10 ⟨(some 27), (some (21, true)), .load 1 false (.t 26)⟩
(.rd 11 ⟨(some 28), (some (21, true)), .mov (.t 0)⟩
(.rd 12 ⟨(some 29), (some (21, true)), .mov (.t 3)⟩
(.rd 13 ⟨(some 30), (some (21, true)), .mov (.t 9)⟩
(.rd 14 ⟨(some 31), (some (21, true)), .ibin .add .i64 (.t 29) (.t 30)⟩
(.rd 15 ⟨(some 32), (some (21, true)), .ibin .add .i64 (.t 31) (.c (.int .i64 1))⟩
(.rd 16 ⟨(some 33), (some (21, true)), .iaddr 1 (.t 28) (.t 32)⟩
(.rd 17 ⟨(some 34), (some (21, true)), .load 1 false (.t 33)⟩
(.wr 18 ⟨(some 35), (some (21, true)), .call 122 [(.t 27), (.t 34)]⟩ [10, 17, 4, 4]
(.rd 19 ⟨(some 36), none, .pick (.t 21) (.t 35) (.c (.bool false))⟩
.fin) .no))))))))))))))))))) (some [0, 2, 3, 8, 9, 36]))
(.cond (.t 36)
(.ops [⟨(some 37), none, .mov (.t 9)⟩,
⟨(some 38), none, .ibin .add .i64 (.t 37) (.c (.int .i64 1))⟩,
⟨(some 9), none, .mov (.t 38)⟩] (some [0, 2, 3, 8, 9]))
.skip))
(.seq (.seq (.draw (.rd 0 ⟨(some 39), none, .mov (.t 0)⟩
(.rd 1 ⟨(some 40), none, .mov (.t 3)⟩
(.rd 2 ⟨(some 41), none, .mov (.t 8)⟩
(.rd 3 ⟨(some 42), none, .ibin .add .i64 (.t 40) (.t 41)⟩
(.rd 4 ⟨(some 43), none, .iaddr 1 (.t 39) (.t 42)⟩
(.rd 5 ⟨(some 44), none, .load 1 false (.t 43)⟩
(.rd 6 ⟨(some 45), none, .mov (.t 0)⟩
(.rd 7 ⟨(some 46), none, .mov (.t 3)⟩
(.rd 8 ⟨(some 47), none, .mov (.t 9)⟩
(.rd 9 ⟨(some 48), none, .ibin .add .i64 (.t 46) (.t 47)⟩
(.rd 10 ⟨(some 49), none, .iaddr 1 (.t 45) (.t 48)⟩
(.rd 11 ⟨(some 50), none, .load 1 false (.t 49)⟩
(.wr 12 ⟨(some 51), none, .call 122 [(.t 44), (.t 50)]⟩ [5, 11]
(.rd 13 ⟨(some 52), none, .un .not (.t 51)⟩
.fin) .no))))))))))))) (some [0, 2, 3, 8, 9, 52]))
(.cond (.t 52)
.ret
.skip))
(.seq (.draw (.rd 0 ⟨(some 53), none, .mov (.t 0)⟩
(.rd 1 ⟨(some 54), none, .mov (.t 3)⟩
(.rd 2 ⟨(some 55), none, .mov (.t 8)⟩
(.rd 3 ⟨(some 56), none, .ibin .add .i64 (.t 54) (.t 55)⟩
(.rd 4 ⟨(some 57), none, .mov (.t 0)⟩
(.rd 5 ⟨(some 58), none, .mov (.t 3)⟩
(.rd 6 ⟨(some 59), none, .mov (.t 9)⟩
(.rd 7 ⟨(some 60), none, .ibin .add .i64 (.t 58) (.t 59)⟩
(.rd 8 ⟨(some 61), none, .mov (.t 0)⟩
(.rd 9 ⟨(some 62), none, .mov (.t 3)⟩
(.rd 10 ⟨(some 63), none, .mov (.t 9)⟩
(.rd 11 ⟨(some 64), none, .ibin .add .i64 (.t 62) (.t 63)⟩
(.rd 12 ⟨(some 65), none, .iaddr 1 (.t 61) (.t 64)⟩
(.rd 13 ⟨(some 66), none, .load 1 false (.t 65)⟩
(.rd 14 ⟨(some 67), none, .mov (.t 0)⟩
(.rd 15 ⟨(some 68), none, .mov (.t 3)⟩
(.rd 16 ⟨(some 69), none, .mov (.t 8)⟩
(.rd 17 ⟨(some 70), none, .ibin .add .i64 (.t 68) (.t 69)⟩
(.rd 18 ⟨(some 71), none, .iaddr 1 (.t 67) (.t 70)⟩
(.rd 19 ⟨(some 72), none, .load 1 false (.t 71)⟩
(.rd 20 ⟨(some 73), none, .iaddr 1 (.t 53) (.t 56)⟩
(.wr 21 ⟨none, none, .store 1 (.t 73) (.t 66)⟩ [20, 13, 0, 1, 2, 3, 8, 9, 10, 11, 12, 13, 19]
(.rd 22 ⟨(some 74), none, .iaddr 1 (.t 57) (.t 60)⟩
(.wr 23 ⟨none, none, .store 1 (.t 74) (.t 72)⟩ [22, 19, 21, 0, 1, 2, 3, 4, 5, 6, 7, 8, 9, 10, 11, 12, 13, 14, 15, 16, 17, 18, 19, 20, 21]
.fin .no)) .no)))))))))))))))))))))) (some [0, 2, 3, 9]))
(.ops [⟨(some 75), none, .mov (.t 9)⟩,
⟨(some 8), none, .mov (.t 75)⟩] (some [0, 2, 3, 8])))))))))))⟩
/-- slices.nextPowerOfTwo -/
def ir140 : IFn := ⟨7, [.t 2],
(.seq (.ops [⟨(some 2), none, .mov (.c (.int .u64 0))⟩] (some [0]))
(.seq (.ops [⟨(some 3), none, .mov (.t 0)⟩,
⟨(some 4), none, .conv .u64 (.t 3)⟩,
⟨(some 5), none, .call 119 [(.t 4)]⟩,
⟨(some 6), none, .shift .shl .u64 (.c (.int .u64 1)) (.t 5)⟩,
⟨(some 2), none, .mov (.t 6)⟩] (some [2]))
.ret))⟩
/-- (*slices.xorshift).Next -/
def ir141 : IFn := ⟨33, [.t 2],
(.seq (.ops [⟨(some 2), none, .mov (.c (.int .u64 0))⟩] (some [0]))
(.seq (.draw (.rd 0 ⟨(some 3), none, .mov (.t 0)⟩
(.rd 1 ⟨(some 4), none, .nilchk (.t 3)⟩
(.rd 2 ⟨(some 5), none, .load 1 false (.t 4)⟩
(.rd 3 ⟨(some 6), none, .mov (.t 0)⟩
(.rd 4 ⟨(some 7), none, .nilchk (.t 6)⟩
(.rd 5 ⟨(some 8), none, .load 1 false (.t 7)⟩
(.rd 6 ⟨(some 9), none, .shift .shl .u64 (.t 8) (.c (.int .u64 13))⟩
(.rd 7 ⟨(some 10), none, .ibin .xor .u64 (.t 5) (.t 9)⟩
(.rd 8 ⟨(some 11), none, .nilchk (.t 3)⟩
(.wr 9 ⟨none, none, .store 1 (.t 11) (.t 10)⟩ [8, 7, 0, 1, 2, 3, 4, 5, 6, 7]
.fin .no)))))))))) (some [0]))
(.seq (.draw (.rd 0 ⟨(some 12), none, .mov (.t 0)⟩
(.rd 1 ⟨(some 13), none, .nilchk (.t 12)⟩
(.rd 2 ⟨(some 14), none, .load 1 false (.t 13)⟩
(.rd 3 ⟨(some 15), none, .mov (.t 0)⟩
(.rd 4 ⟨(some 16), none, .nilchk (.t 15)⟩
(.rd 5 ⟨(some 17), none, .load 1 false (.t 16)⟩
(.rd 6 ⟨(some 18), none, .shift .shr .u64 (.t 17) (.c (.int .u64 7))⟩
(.rd 7 ⟨(some 19), none, .ibin .xor .u64 (.t 14) (.t 18)⟩
(.rd 8 ⟨(some 20), none, .nilchk (.t 12)⟩
(.wr 9 ⟨none, none, .store 1 (.t 20) (.t 19)⟩ [8, 7, 0, 1, 2, 3, 4, 5, 6, 7]
.fin .no)))))))))) (some [0]))
(.seq (.draw (.rd 0 ⟨(some 21), none, .mov (.t 0)⟩
(.rd 1 ⟨(some 22), none, .nilchk (.t 21)⟩
(.rd 2 ⟨(some 23), none, .load 1 false (.t 22)⟩
(.rd 3 ⟨(some 24), none, .mov (.t 0)⟩
(.rd 4 ⟨(some 25), none, .nilchk (.t 24)⟩
(.rd 5 ⟨(some 26), none, .load 1 false (.t 25)⟩
(.rd 6 ⟨(some 27), none, .shift .shl .u64 (.t 26) (.c (.int .u64 17))⟩
(.rd 7 ⟨(some 28), none, .ibin .xor .u64 (.t 23) (.t 27)⟩
(.rd 8 ⟨(some 29), none, .nilchk (.t 21)⟩
(.wr 9 ⟨none, none, .store 1 (.t 29) (.t 28)⟩ [8, 7, 0, 1, 2, 3, 4, 5, 6, 7]
.fin .no)))))))))) (some [0]))
(.seq (.ops [⟨(some 30), none, .mov (.t 0)⟩,
⟨(some 31), none, .nilchk (.t 30)⟩,
⟨(some 32), none, .load 1 false (.t 31)⟩,
⟨(some 2), none, .mov (.t 32)⟩] (some [2]))
.ret)))))⟩
/-- slices.medianAdjacentOrdered[int] -/
def ir142 : IFn := ⟨15, [.t 6],
(.seq (.ops [⟨(some 6), none, .mov (.c (.int .i64 0))⟩] (some [0, 1, 2]))
(.seq (.ops [⟨(some 7), none, .mov (.t 0)⟩,
⟨(some 8), none, .mov (.t 1)⟩,
⟨(some 9), none, .ibin .sub .i64 (.t 8) (.c (.int .i64 1))⟩,
⟨(some 10), none, .mov (.t 1)⟩,
⟨(some 11), none, .mov (.t 1)⟩,
⟨(some 12), none, .ibin .add .i64 (.t 11) (.c (.int .i64 1))⟩,
⟨(some 13), none, .mov (.t 2)⟩,
⟨(some 14), none, .call 143 [(.t 7), (.t 9), (.t 10), (.t 12), (.t 13)]⟩,
⟨(some 6), none, .mov (.t 14)⟩] (some [6]))
.ret))⟩
/-- slices.medianOrdered[int] -/
def ir143 : IFn := ⟨36, [.t 10],
(.seq (.ops [⟨(some 10), none, .mov (.c (.int .i64 0))⟩] (some [0, 1, 2, 3, 4]))
(.seq (.ops [⟨(some 12), none, .mov (.t 0)⟩,
⟨(some 13), none, .mov (.t 1)⟩,
⟨(some 14), none, .mov (.t 2)⟩,
⟨(some 15), none, .mov (.t 4)⟩,
⟨(some 16), none, .call 146 [(.t 12), (.t 13), (.t 14), (.t 15)]⟩,
⟨(some 11), none, .mov (.t 16)⟩,
⟨(some 17), none, .extract 0 (.t 11)⟩,
⟨(some 18), none, .extract 1 (.t 11)⟩,
⟨(some 1), none, .mov (.t 17)⟩,
⟨(some 2), none, .mov (.t 18)⟩] (some [0, 1, 2, 3, 4]))
(.seq (.ops [⟨(some 20), none, .mov (.t 0)⟩,
⟨(some 21), none, .mov (.t 2)⟩,
⟨(some 22), none, .mov (.t 3)⟩,
⟨(some 23), none, .mov (.t 4)⟩,
⟨(some 24), none, .call 146 [(.t 20), (.t 21), (.t 22), (.t 23)]⟩,
⟨(some 19), none, .mov (.t 24)⟩,
⟨(some 25), none, .extract 0 (.t 19)⟩,
⟨(some 26), none, .extract 1 (.t 19)⟩,
⟨(some 2), none, .mov (.t 25)⟩,
⟨(some 3), none, .mov (.t 26)⟩] (some [0, 1, 2, 4]))
(.seq (.ops [⟨(some 28), none, .mov (.t 0)⟩,
⟨(some 29), none, .mov (.t 1)⟩,
⟨(some 30), none, .mov (.t 2)⟩,
⟨(some 31), none, .mov (.t 4)⟩,
⟨(some 32), none, .call 146 [(.t 28), (.t 29), (.t 30), (.t 31)]⟩,
⟨(some 27), none, .mov (.t 32)⟩,
⟨(some 33), none, .extract 0 (.t 27)⟩,
⟨(some 34), none, .extract 1 (.t 27)⟩,
⟨(some 1), none, .mov (.t 33)⟩,
⟨(some 2), none, .mov (.t 34)⟩] (some [2]))
(.seq (.ops [⟨(some 35), none, .mov (.t 2)⟩,
⟨(some 10), none, .mov (.t 35)⟩] (some [10]))
.ret)))))⟩
/-- slices.rotateCmpFunc[int] -/
def ir144 : IFn := ⟨58, [],
(.seq (.ops [⟨(some 12), none, .mov (.t 2)⟩,
⟨(some 13), none, .mov (.t 1)⟩,
⟨(some 14), none, .ibin .sub .i64 (.t 12) (.t 13)⟩,
⟨(some 10), none, .mov (.t 14)⟩] (some [0, 2, 3, 4, 10]))
(.seq (.ops [⟨(some 15), none, .mov (.t 3)⟩,
⟨(some 16), none, .mov (.t 2)⟩,
⟨(some 17), none, .ibin .sub .i64 (.t 15) (.t 16)⟩,
⟨(some 11), none, .mov (.t 17)⟩] (some [0, 2, 4, 10, 11]))
(.seq (.block 0 (.loop (.seq (.seq (.ops [⟨(some 18), none, .mov (.t 10)⟩,
⟨(some 19), none, .mov (.t 11)⟩,
⟨(some 20), none, .ibin .neq .i64 (.t 18) (.t 19)⟩] (some [0, 2, 4, 10, 11, 20]))
(.cond (.t 20)
.skip
(.exit 0)))
(.block 1 (.seq (.ops [⟨(some 21), none, .mov (.t 10)⟩,
⟨(some 22), none, .mov (.t 11)⟩,
⟨(some 23), none, .ibin .gtr .i64 (.t 21) (.t 22)⟩] (some [0, 2, 4, 10, 11, 23]))
(.cond (.t 23)
(.seq (.ops [⟨(some 24), none, .mov (.t 0)⟩,
⟨(some 25), none, .mov (.t 2)⟩,
⟨(some 26), none, .mov (.t 10)⟩,
⟨(some 27), none, .ibin .sub .i64 (.t 25) (.t 26)⟩,
⟨(some 28), none, .mov (.t 2)⟩,
⟨(some 29), none, .mov (.t 11)⟩,
⟨(some 30), none, .mov (.t 4)⟩,
⟨(some 31), none, .call 147 [(.t 24), (.t 27), (.t 28), (.t 29), (.t 30)]⟩] (some [0, 2, 4, 10, 11]))
(.ops [⟨(some 32), none, .mov (.t 10)⟩,
⟨(some 33), none, .mov (.t 11)⟩,
⟨(some 34), none, .ibin .sub .i64 (.t 32) (.t 33)⟩,
⟨(some 10), none, .mov (.t 34)⟩] (some [0, 2, 4, 10, 11])))
(.seq (.ops [⟨(some 35), none, .mov (.t 0)⟩,
⟨(some 36), none, .mov (.t 2)⟩,
⟨(some 37), none, .mov (.t 10)⟩,
⟨(some 38), none, .ibin .sub .i64 (.t 36) (.t 37)⟩,
⟨(some 39), none, .mov (.t 2)⟩,
⟨(some 40), none, .mov (.t 11)⟩,
⟨(some 41), none, .ibin .add .i64 (.t 39) (.t 40)⟩,
⟨(some 42), none, .mov (.t 10)⟩,
⟨(some 43), none, .ibin .sub .i64 (.t 41) (.t 42)⟩,
⟨(some 44), none, .mov (.t 10)⟩,
⟨(some 45), none, .mov (.t 4)⟩,
⟨(some 46), none, .call 147 [(.t 35), (.t 38), (.t 43), (.t 44), (.t 45)]⟩] (some [0, 2, 4, 10, 11]))
(.ops [⟨(some 47), none, .mov (.t 11)⟩,
⟨(some 48), none, .mov (.t 10)⟩,
⟨(some 49), none, .ibin .sub .i64 (.t 47) (.t 48)⟩,
⟨(some 11), none, .mov (.t 49)⟩] (some [0, 2, 4, 10, 11])))))))))
(.ops [⟨(some 50), none, .mov (.t 0)⟩,
⟨(some 51), none, .mov (.t 2)⟩,
⟨(some 52), none, .mov (.t 10)⟩,
⟨(some 53), none, .ibin .sub .i64 (.t 51) (.t 52)⟩,
⟨(some 54), none, .mov (.t 2)⟩,
⟨(some 55), none, .mov (.t 10)⟩,
⟨(some 56), none, .mov (.t 4)⟩,
⟨(some 57), none, .call 147 [(.t 50), (.t 53), (.t 54), (.t 55), (.t 56)]⟩] (some [])))))⟩
/-- slices.Index[[]int,int] -/
def ir145 : IFn := ⟨19, [.t 4],
(.seq (.ops [⟨(some 4), none, .mov (.c (.int .i64 0))⟩] (some [0, 1]))
(.seq (.seq (.ops [⟨(some 6), none, .mov (.t 0)⟩,
⟨(some 7), none, .lenV (.t 6)⟩,
⟨(some 8), none, .mov (.c (.int .i64 0))⟩] (some [0, 1, 7, 8]))
(.block 0 (.loop (.seq (.ops [⟨(some 9), none, .ibin .lss .i64 (.t 8) (.t 7)⟩] none)
(.seq (.cond (.t 9)
.skip
(.exit 0))
(.seq (.block 1 (.seq (.ops [⟨(some 10), none, .mov (.t 8)⟩,
⟨(some 5), none, .mov (.t 10)⟩] (some [0, 1, 5, 7, 8]))
(.seq (.ops [⟨(some 11), none, .mov (.t 1)⟩,
⟨(some 12), none, .mov (.t 0)⟩,
⟨(some 13), none, .mov (.t 5)⟩,
⟨(some 14), none, .iaddr 1 (.t 12) (.t 13)⟩,
⟨(some 15), none, .load 1 false (.t 14)⟩,
⟨(some 16), none, .ibin .eql .i64 (.t 11) (.t 15)⟩] (some [0, 1, 5, 7, 8, 16]))
(.cond (.t 16)
(.seq (.ops [⟨(some 17), none, .mov (.t 5)⟩,
⟨(some 4), none, .mov (.t 17)⟩] (some [4]))
.ret)
.skip))))
(.ops [⟨(some 18), none, .ibin .add .i64 (.t 8) (.c (.int .i64 1))⟩,
⟨(some 8), none, .mov (.t 18)⟩] (some [0, 1, 7, 8]))))))))
(.seq (.ops [⟨(some 4), none, .mov (.c (.int .i64 (-1)))⟩] none)
.ret)))⟩
/-- slices.order2Ordered[int] -/
def ir146 : IFn := ⟨28, [.t 8, .t 9],
(.seq (.ops [⟨(some 8), none, .mov (.c (.int .i64 0))⟩,
⟨(some 9), none, .mov (.c (.int .i64 0))⟩] (some [0, 1, 2, 3]))
(.seq (.seq (.draw (.rd 0 ⟨(some 10), none, .mov (.t 0)⟩
(.rd 1 ⟨(some 11), none, .mov (.t 2)⟩
(.rd 2 ⟨(some 12), none, .iaddr 1 (.t 10) (.t 11)⟩
(.rd 3 ⟨(some 13), none, .load 1 false (.t 12)⟩
(.rd 4 ⟨(some 14), none, .mov (.t 0)⟩
(.rd 5 ⟨(some 15), none, .mov (.t 1)⟩
(.rd 6 ⟨(some 16), none, .iaddr 1 (.t 14) (.t 15)⟩
(.rd 7 ⟨(some 17), none, .load 1 false (.t 16)⟩
(.wr 8 ⟨(some 18), none, .call 122 [(.t 13), (.t 17)]⟩ [3, 7]
.fin .no))))))))) (some [1, 2, 3, 18]))
(.cond (.t 18)
(.seq (.ops [⟨(some 19), none, .mov (.t 3)⟩,
⟨(some 20), none, .nilchk (.t 19)⟩,
⟨(some 21), none, .load 1 false (.t 20)⟩,
⟨(some 22), none, .ibin .add .i64 (.t 21) (.c (.int .i64 1))⟩,
⟨(some 23), none, .nilchk (.t 19)⟩,
⟨none, none, .store 1 (.t 23) (.t 22)⟩] (some [1, 2]))
(.seq (.ops [⟨(some 24), none, .mov (.t 2)⟩,
⟨(some 25), none, .mov (.t 1)⟩,
⟨(some 8), none, .mov (.t 24)⟩,
⟨(some 9), none, .mov (.t 25)⟩] (some [8, 9]))
.ret))
.skip))
(.seq (.ops [⟨(some 26), none, .mov (.t 1)⟩,
⟨(some 27), none, .mov (.t 2)⟩,
⟨(some 8), none, .mov (.t 26)⟩,
⟨(some 9), none, .mov (.t 27)⟩] (some [8, 9]))
.ret)))⟩
/-- slices.swapRangeCmpFunc[int] -/
def ir147 : IFn := ⟨38, [],
(.seq (.ops [⟨(some 10), none, .mov (.c (.int .i64 0))⟩] none)
(.block 0 (.loop (.seq (.seq (.ops [⟨(some 11), none, .mov (.t 10)⟩,
⟨(some 12), none, .mov (.t 3)⟩,
⟨(some 13), none, .ibin .lss .i64 (.t 11) (.t 12)⟩] (some [0, 1, 2, 3, 10, 13]))
(.cond (.t 13)
.skip
(.exit 0)))
(.seq (.block 1 (.draw (.rd 0 ⟨(some 16), none, .mov (.t 0)⟩
(.rd 1 ⟨(some 17), none, .mov (.t 1)⟩
(.rd 2 ⟨(some 18), none, .mov (.t 10)⟩
(.rd 3 ⟨(some 19), none, .ibin .add .i64 (.t 17) (.t 18)⟩
(.rd 4 ⟨(some 20), none, .mov (.t 0)⟩
(.rd 5 ⟨(some 21), none, .mov (.t 2)⟩
(.rd 6 ⟨(some 22), none, .mov (.t 10)⟩
(.rd 7 ⟨(some 23), none, .ibin .add .i64 (.t 21) (.t 22)⟩
(.rd 8 ⟨(some 24), none, .mov (.t 0)⟩
(.rd 9 ⟨(some 25), none, .mov (.t 2)⟩
(.rd 10 ⟨(some 26), none, .mov (.t 10)⟩
(.rd 11 ⟨(some 27), none, .ibin .add .i64 (.t 25) (.t 26)⟩
(.rd 12 ⟨(some 28), none, .iaddr 1 (.t 24) (.t 27)⟩
(.rd 13 ⟨(some 29), none, .load 1 false (.t 28)⟩
(.rd 14 ⟨(some 30), none, .mov (.t 0)⟩
(.rd 15 ⟨(some 31), none, .mov (.t 1)⟩
(.rd 16 ⟨(some 32), none, .mov (.t 10)⟩
(.rd 17 ⟨(some 33), none, .ibin .add .i64 (.t 31) (.t 32)⟩
(.rd 18 ⟨(some 34), none, .iaddr 1 (.t 30) (.t 33)⟩
(.rd 19 ⟨(some 35), none, .load 1 false (.t 34)⟩
(.rd 20 ⟨(some 36), none, .iaddr 1 (.t 16) (.t 19)⟩
(.wr 21 ⟨none, none, .store 1 (.t 36) (.t 29)⟩ [20, 13, 0, 1, 2, 3, 8, 9, 10, 11, 12, 13, 19]
(.rd 22 ⟨(some 37), none, .iaddr 1 (.t 20) (.t 23)⟩
(.wr 23 ⟨none, none, .store 1 (.t 37) (.t 35)⟩ [22, 19, 21, 0, 1, 2, 3, 4, 5, 6, 7, 8, 9, 10, 11, 12, 13, 14, 15, 16, 17, 18, 19, 20, 21]
.fin .no)) .no)))))))))))))))))))))) (some [0, 1, 2, 3, 10])))
(.ops [⟨(some 14), none, .mov (.t 10)⟩,
⟨(some 15), none, .ibin .add .i64 (.t 14) (.c (.int .i64 1))⟩,
⟨(some 10), none, .mov (.t 15)⟩] (some [0, 1, 2, 3, 10])))))))⟩
/-- guidevane/guidevanelaw09.DamLowers -/
def ir164 : IFn := ⟨61, [.t 6],
(.seq (.ops [⟨(some 3), none, .box (.t 0)⟩,
⟨(some 4), none, .box (.t 1)⟩,
⟨(some 5), none, .box (.t 2)⟩,
⟨(some 6), none, .mov (.c (.bool false))⟩] (some [3, 4, 5]))
(.seq (.seq (.ops [⟨(some 10), none, .call 10 []⟩,
⟨(some 11), none, .un .not (.t 10)⟩] (some [3, 4, 5, 11]))
(.cond (.t 11)
(.seq (.ops [⟨(some 6), none, .mov (.c (.bool false))⟩] none)
.ret)
.skip))
(.seq (.seq (.ops [⟨(some 12), none, .load 4 true (.t 3)⟩,
⟨(some 13), none, .call 35 [(.t 12)]⟩,
⟨(some 14), none, .un .not (.t 13)⟩,
⟨(some 15), none, .mov (.t 14)⟩,
⟨(some 16), (some (15, false)), .faddr 0 (.t 5)⟩,
⟨(some 17), (some (15, false)), .load 1 false (.t 16)⟩,
⟨(some 18), (some (15, false)), .lenS (.t 17)⟩,
⟨(some 19), (some (15, false)), .ibin .gtr .i64 (.t 18) (.c (.int .i64 30))⟩,
⟨(some 20), none, .pick (.t 15) (.c (.bool true)) (.t 19)⟩] (some [3, 4, 5, 20]))
(.cond (.t 20)
(.seq (.ops [⟨(some 6), none, .mov (.c (.bool true))⟩] none)
.ret)
.skip))
(.seq (.draw (.rd 0 ⟨(some 22), none, .load 4 true (.t 3)⟩
(.rd 2 ⟨(some 24), none, .load 3 true (.t 4)⟩
(.rd 3 ⟨(some 25), none, .load 2 true (.t 5)⟩
(.wr 1 ⟨(some 23), none, .call 37 [(.t 22)]⟩ [0]
(.wr 4 ⟨(some 26), none, .call 169 [(.t 23), (.t 24), (.t 25)]⟩ [1, 2, 3, 1]
(.rd 5 ⟨(some 21), none, .mov (.t 26)⟩
(.rd 6 ⟨(some 27), none, .extract 0 (.t 21)⟩
(.rd 7 ⟨(some 28), none, .extract 1 (.t 21)⟩
(.wr 8 ⟨(some 7), none, .alloc [(.int .i64 0), (.int .i64 0), (.int .i64 0)]⟩ []
(.wr 9 ⟨none, none, .store 3 (.t 7) (.t 27)⟩ [8, 6, 4, 0, 1, 2, 3, 4, 5, 6, 8]
(.rd 10 ⟨(some 8), none, .mov (.t 28)⟩
.fin) .no) .no))))
(.wr 8 ⟨(some 7), none, .alloc [(.int .i64 0), (.int .i64 0), (.int .i64 0)]⟩ []
(.wr 4 ⟨(some 26), none, .call 169 [(.t 23), (.t 24), (.t 25)]⟩ [1, 2, 3, 1]
(.rd 5 ⟨(some 21), none, .mov (.t 26)⟩
(.rd 6 ⟨(some 27), none, .extract 0 (.t 21)⟩
(.rd 7 ⟨(some 28), none, .extract 1 (.t 21)⟩
(.wr 9 ⟨none, none, .store 3 (.t 7) (.t 27)⟩ [8, 6, 4, 0, 1, 2, 3, 4, 5, 6, 8]
(.rd 10 ⟨(some 8), none, .mov (.t 28)⟩
.fin) .no)))) .no) .no))
(.wr 8 ⟨(some 7), none, .alloc [(.int .i64 0), (.int .i64 0), (.int .i64 0)]⟩ []
(.wr 1 ⟨(some 23), none, .call 37 [(.t 22)]⟩ [0]
(.wr 4 ⟨(some 26), none, .call 169 [(.t 23), (.t 24), (.t 25)]⟩ [1, 2, 3, 1]
(.rd 5 ⟨(some 21), none, .mov (.t 26)⟩
(.rd 6 ⟨(some 27), none, .extract 0 (.t 21)⟩
(.rd 7 ⟨(some 28), none, .extract 1 (.t 21)⟩
(.wr 9 ⟨none, none, .store 3 (.t 7) (.t 27)⟩ [8, 6, 4, 0, 1, 2, 3, 4, 5, 6, 8]
(.rd 10 ⟨(some 8), none, .mov (.t 28)⟩
.fin) .no)))) .no) .no) .no))))) (some [3, 4, 5, 7, 8]))
(.seq (.ops [⟨(some 29), none, .load 4 true (.t 3)⟩,
⟨(some 30), none, .call 39 [(.t 29)]⟩,
⟨(some 9), none, .mov (.t 30)⟩] (some [3, 4, 5, 7, 8, 9]))
(.seq (.seq (.ops [⟨(some 31), none, .mov (.t 9)⟩,
⟨(some 32), none, .ibin .eql .i64 (.t 31) (.c (.int .i64 0))⟩] (some [3, 4, 5, 7, 8, 9, 32]))
(.cond (.t 32)
(.ops [⟨(some 33), none, .load 4 true (.t 3)⟩,
⟨(some 34), none, .load 3 true (.t 4)⟩,
⟨(some 35), none, .call 48 [(.t 33), (.t 34)]⟩,
⟨(some 9), none, .mov (.t 35)⟩] (some [3, 4, 5, 7, 8, 9]))
.skip))
(.seq (.seq (.ops [⟨(some 36), none, .mov (.t 9)⟩,
⟨(some 37), none, .ibin .eql .i64 (.t 36) (.c (.int .i64 0))⟩] (some [3, 4, 5, 7, 8, 9, 37]))
(.cond (.t 37)
(.ops [⟨(some 38), none, .load 4 true (.t 3)⟩,
⟨(some 39), none, .load 3 true (.t 4)⟩,
⟨(some 40), none, .load 2 true (.t 5)⟩,
⟨(some 41), none, .call 170 [(.t 38), (.t 39), (.t 40)]⟩,
⟨(some 9), none, .mov (.t 41)⟩] (some [4, 5, 7, 8, 9]))
.skip))
(.seq (.seq (.ops [⟨(some 42), none, .mov (.t 9)⟩,
⟨(some 43), none, .ibin .neq .i64 (.t 42) (.c (.int .i64 0))⟩] (some [4, 5, 7, 8, 9, 43]))
(.cond (.t 43)
(.seq (.ops [⟨(some 44), none, .mov (.t 8)⟩,
⟨(some 45), none, .mov (.t 9)⟩,
⟨(some 46), none, .ibin .eql .i64 (.t 44) (.t 45)⟩,
⟨(some 47), none, .mov (.t 46)⟩,
⟨(some 48), (some (47, true)), .load 3 true (.t 7)⟩,
⟨(some 49), (some (47, true)), .build [(.int .i64 0), (.int .i64 0), (.int .i64 0)] []⟩,
⟨(some 50), (some (47, true)), .eqv (.fld 0 1 (.int .i64) (.fld 1 1 (.int .i64) (.fld 2 1 (.int .i64) .nil))) false (.t 48) (.t 49)⟩,
⟨(some 51), none, .pick (.t 47) (.t 50) (.c (.bool false))⟩,
⟨(some 6), none, .mov (.t 51)⟩] (some [6]))
.ret)
.skip))
(.seq (.draw (.rd 0 ⟨(some 52), none, .mov (.t 8)⟩
(.rd 1 ⟨(some 53), none, .ibin .eql .i64 (.t 52) (.c (.int .i64 0))⟩
(.rd 2 ⟨(some 54), none, .mov (.t 53)⟩
(.rd 3 ⟨(some 55), (some (54, true)), .load 3 true (.t 7)⟩
(.rd 4 ⟨(some 56), (some (54, true)), .load 3 true (.t 4)⟩
(.rd 5 ⟨(some 57), (some (54, true)), .load 2 true (.t 5)⟩
(.wr 6 ⟨(some 58), (some (54, true)), .call 171 [(.t 56), (.t 57)]⟩ [4, 5, 2, 2]
(.rd 7 ⟨(some 59), (some (54, true)), .eqv (.fld 0 1 (.int .i64) (.fld 1 1 (.int .i64) (.fld 2 1 (.int .i64) .nil))) false (.t 55) (.t 58)⟩
(.rd 8 ⟨(some 60), none, .pick (.t 54) (.t 59) (.c (.bool false))⟩
(.rd 9 ⟨(some 6), none, .mov (.t 60)⟩
.fin))) .no))))))) (some [6]))
.ret)))))))))⟩
/-- guidevane/guidevanelaw09.DamNeverLower -/
def ir165 : IFn := ⟨224, [.t 6],
(.seq (.ops [⟨(some 3), none, .box (.t 0)⟩,
⟨(some 6), none, .mov (.c (.bool false))⟩] (some [1, 2, 3]))
(.seq (.seq (.ops [⟨(some 21), none, .call 10 []⟩,
⟨(some 22), none, .un .not (.t 21)⟩] (some [1, 2, 3, 22]))
(.cond (.t 22)
(.seq (.ops [⟨(some 6), none, .mov (.c (.bool false))⟩] none)
.ret)
.skip))
(.seq (.seq (.ops [⟨(some 23), none, .load 4 true (.t 3)⟩,
⟨(some 24), none, .call 35 [(.t 23)]⟩,
⟨(some 25), none, .un .not (.t 24)⟩,
⟨(some 26), none, .mov (.t 25)⟩,
⟨(some 27), (some (26, false)), .load 4 true (.t 3)⟩,
⟨(some 28), (some (26, false)), .call 39 [(.t 27)]⟩,
⟨(some 29), (some (26, false)), .ibin .neq .i64 (.t 28) (.c (.int .i64 0))⟩,
⟨(some 30), none, .pick (.t 26) (.c (.bool true)) (.t 29)⟩,
⟨(some 31), none, .mov (.t 30)⟩,
⟨(some 32), (some (31, false)), .mov (.t 1)⟩,
⟨(some 33), (some (31, false)), .lenV (.t 32)⟩,
⟨(some 34), (some (31, false)), .ibin .gtr .i64 (.t 33) (.c (.int .i64 40))⟩,
⟨(some 35), none, .pick (.t 31) (.c (.bool true)) (.t 34)⟩,
⟨(some 36), none, .mov (.t 35)⟩,
⟨(some 37), (some (36, false)), .mov (.t 2)⟩,
⟨(some 38), (some (36, false)), .lenV (.t 37)⟩,
⟨(some 39), (some (36, false)), .ibin .gtr .i64 (.t 38) (.c (.int .i64 40))⟩,
⟨(some 40), none, .pick (.t 36) (.c (.bool true)) (.t 39)⟩] (some [1, 2, 3, 40]))
(.cond (.t 40)
(.seq (.ops [⟨(some 6), none, .mov (.c (.bool true))⟩] none)
.ret)
.skip))
(.seq (.ops [⟨(some 7), none, .alloc [(.int .i64 0), (.int .i64 0), (.int .i64 0)]⟩] none)
(.seq (.ops [⟨(some 8), none, .mov (.c (.int .i64 0))⟩,
⟨(some 9), none, .mov (.c (.bool false))⟩] none)
(.seq (.seq (.ops [⟨(some 10), none, .mov (.c (.int .i64 0))⟩] none)
(.block 0 (.loop (.seq (.seq (.ops [⟨(some 41), none, .mov (.t 10)⟩,
⟨(some 42), none, .mov (.t 1)⟩,
⟨(some 43), none, .lenV (.t 42)⟩,
⟨(some 44), none, .ibin .lss .i64 (.t 41) (.t 43)⟩] (some [1, 2, 3, 7, 8, 9, 10, 44]))
(.cond (.t 44)
.skip
(.exit 0)))
(.seq (.block 1 (.seq (.draw (.rd 0 ⟨(some 48), none, .load 4 true (.t 3)⟩
(.rd 2 ⟨(some 50), none, .load 3 true (.t 7)⟩
(.rd 3 ⟨(some 51), none, .mov (.t 1)⟩
(.rd 4 ⟨(some 52), none, .mov (.t 10)⟩
(.rd 5 ⟨(some 53), none, .iaddr 1 (.t 51) (.t 52)⟩
(.rd 6 ⟨(some 54), none, .load 1 false (.t 53)⟩
(.wr 1 ⟨(some 49), none, .call 37 [(.t 48)]⟩ [0]
(.wr 7 ⟨(some 55), none, .call 45 [(.t 49), (.t 50), (.t 54)]⟩ [1, 2, 6, 1]
(.rd 8 ⟨(some 47), none, .mov (.t 55)⟩
(.rd 9 ⟨(some 56), none, .extract 0 (.t 47)⟩
(.rd 10 ⟨(some 57), none, .extract 1 (.t 47)⟩
(.wr 11 ⟨(some 11), none, .alloc [(.int .i64 0), (.int .i64 0), (.int .i64 0)]⟩ []
(.wr 12 ⟨none, none, .store 3 (.t 11) (.t 56)⟩ [11, 9, 7, 0, 1, 2, 3, 4, 5, 6, 7, 8, 9, 11]
(.rd 13 ⟨(some 12), none, .mov (.t 57)⟩
.fin) .no) .no))))
(.wr 11 ⟨(some 11), none, .alloc [(.int .i64 0), (.int .i64 0), (.int .i64 0)]⟩ []
(.wr 7 ⟨(some 55), none, .call 45 [(.t 49), (.t 50), (.t 54)]⟩ [1, 2, 6, 1]
(.rd 8 ⟨(some 47), none, .mov (.t 55)⟩
(.rd 9 ⟨(some 56), none, .extract 0 (.t 47)⟩
(.rd 10 ⟨(some 57), none, .extract 1 (.t 47)⟩
(.wr 12 ⟨none, none, .store 3 (.t 11) (.t 56)⟩ [11, 9, 7, 0, 1, 2, 3, 4, 5, 6, 7, 8, 9, 11]
(.rd 13 ⟨(some 12), none, .mov (.t 57)⟩
.fin) .no)))) .no) .no))
(.wr 11 ⟨(some 11), none, .alloc [(.int .i64 0), (.int .i64 0), (.int .i64 0)]⟩ []
(.wr 1 ⟨(some 49), none, .call 37 [(.t 48)]⟩ [0]
(.wr 7 ⟨(some 55), none, .call 45 [(.t 49), (.t 50), (.t 54)]⟩ [1, 2, 6, 1]
(.rd 8 ⟨(some 47), none, .mov (.t 55)⟩
(.rd 9 ⟨(some 56), none, .extract 0 (.t 47)⟩
(.rd 10 ⟨(some 57), none, .extract 1 (.t 47)⟩
(.wr 12 ⟨none, none, .store 3 (.t 11) (.t 56)⟩ [11, 9, 7, 0, 1, 2, 3, 4, 5, 6, 7, 8, 9, 11]
(.rd 13 ⟨(some 12), none, .mov (.t 57)⟩
.fin) .no)))) .no) .no) .no)))))))) (some [1, 2, 3, 7, 8, 9, 10, 11, 12]))
(.seq (.seq (.ops [⟨(some 58), none, .mov (.t 1)⟩,
⟨(some 59), none, .mov (.t 10)⟩,
⟨(some 60), none, .iaddr 1 (.t 58) (.t 59)⟩,
⟨(some 61), none, .load 1 false (.t 60)⟩,
⟨(some 62), none, .call 40 [(.t 61)]⟩,
⟨(some 63), none, .ibin .neq .i64 (.t 62) (.c (.int .i64 0))⟩] (some [1, 2, 3, 7, 8, 9, 10, 11, 12, 63]))
(.cond (.t 63)
(.seq (.ops [⟨(some 64), none, .mov (.t 12)⟩,
⟨(some 65), none, .ibin .eql .i64 (.t 64) (.c (.int .i64 2))⟩,
⟨(some 6), none, .mov (.t 65)⟩] (some [6]))
.ret)
.skip))
(.seq (.draw (.rd 0 ⟨(some 67), none, .load 4 true (.t 3)⟩
(.rd 2 ⟨(some 69), none, .mov (.t 1)⟩
(.rd 3 ⟨(some 70), none, .mov (.t 10)⟩
(.rd 4 ⟨(some 71), none, .iaddr 1 (.t 69) (.t 70)⟩
(.rd 5 ⟨(some 72), none, .load 1 false (.t 71)⟩
(.wr 1 ⟨(some 68), none, .call 37 [(.t 67)]⟩ [0]
(.wr 6 ⟨(some 73), none, .call 44 [(.t 68), (.t 72)]⟩ [1, 5, 1]
(.rd 7 ⟨(some 66), none, .mov (.t 73)⟩
(.rd 8 ⟨(some 74), none, .extract 0 (.t 66)⟩
(.rd 9 ⟨(some 75), none, .extract 1 (.t 66)⟩
(.rd 10 ⟨(some 13), none, .mov (.t 74)⟩
(.rd 11 ⟨(some 14), none, .mov (.t 75)⟩
.fin))))) .no) .no)))))) (some [1, 2, 3, 7, 8, 9, 10, 11, 12, 13, 14]))
(.seq (.seq (.ops [⟨(some 76), none, .mov (.t 12)⟩,
⟨(some 77), none, .ibin .neq .i64 (.t 76) (.c (.int .i64 0))⟩,
⟨(some 78), none, .mov (.t 77)⟩,
⟨(some 79), (some (78, false)), .mov (.t 14)⟩,
⟨(some 80), (some (78, false)), .ibin .neq .i64 (.t 79) (.c (.int .i64 0))⟩,
⟨(some 81), none, .pick (.t 78) (.c (.bool true)) (.t 80)⟩,
⟨(some 82), none, .mov (.t 81)⟩,
⟨(some 83), (some (82, false)), .load 4 true (.t 3)⟩,
⟨(some 84), (some (82, false)), .load 3 true (.t 11)⟩,
⟨(some 85), (some (82, false)), .call 48 [(.t 83), (.t 84)]⟩,
⟨(some 86), (some (82, false)), .ibin .neq .i64 (.t 85) (.c (.int .i64 0))⟩,
⟨(some 87), none, .pick (.t 82) (.c (.bool true)) (.t 86)⟩] (some [1, 2, 3, 7, 8, 9, 10, 11, 13, 87]))
(.cond (.t 87)
(.seq (.ops [⟨(some 6), none, .mov (.c (.bool false))⟩] none)
.ret)
.skip))
(.seq (.ops [⟨(some 88), none, .mov (.t 8)⟩,
⟨(some 89), none, .mov (.t 13)⟩,
⟨(some 90), none, .minmax true (.t 88) [(.t 89)]⟩,
⟨(some 8), none, .mov (.t 90)⟩] (some [1, 2, 3, 7, 8, 9, 10, 11, 13]))
(.seq (.seq (.ops [⟨(some 91), none, .faddr 0 (.t 11)⟩,
⟨(some 92), none, .load 1 false (.t 91)⟩,
⟨(some 93), none, .mov (.t 8)⟩,
⟨(some 94), none, .ibin .lss .i64 (.t 92) (.t 93)⟩,
⟨(some 95), none, .mov (.t 94)⟩,
⟨(some 96), (some (95, false)), .faddr 0 (.t 11)⟩,
⟨(some 97), (some (95, false)), .load 1 false (.t 96)⟩,
⟨(some 98), (some (95, false)), .faddr 0 (.t 7)⟩,
⟨(some 99), (some (95, false)), .load 1 false (.t 98)⟩,
⟨(some 100), (some (95, false)), .ibin .lss .i64 (.t 97) (.t 99)⟩,
⟨(some 101), none, .pick (.t 95) (.c (.bool true)) (.t 100)⟩,
⟨(some 102), none, .mov (.t 101)⟩,
⟨(some 103), (some (102, false)), .mov (.t 9)⟩,
⟨(some 104), (some (102, false)), .un .not (.t 103)⟩,
⟨(some 105), (some (102, false)), .mov (.t 104)⟩,
⟨(some 106), (some (105, true)), .faddr 0 (.t 11)⟩,
⟨(some 107), (some (105, true)), .load 1 false (.t 106)⟩,
⟨(some 108), (some (105, true)), .mov (.t 8)⟩,
⟨(some 109), (some (105, true)), .ibin .neq .i64 (.t 107) (.t 108)⟩,
⟨(some 110), (some (102, false)), .pick (.t 105) (.t 109) (.c (.bool false))⟩,
⟨(some 111), none, .pick (.t 102) (.c (.bool true)) (.t 110)⟩] (some [1, 2, 3, 7, 8, 9, 10, 11, 13, 111]))
(.cond (.t 111)
(.seq (.ops [⟨(some 6), none, .mov (.c (.bool false))⟩] none)
.ret)
.skip))
(.seq (.ops [⟨(some 112), none, .load 3 true (.t 11)⟩,
⟨none, none, .store 3 (.t 7) (.t 112)⟩] (some [1, 2, 3, 7, 8, 9, 10, 13]))
(.seq (.seq (.ops [⟨(some 113), none, .mov (.t 10)⟩,
⟨(some 114), none, .mov (.t 2)⟩,
⟨(some 115), none, .lenV (.t 114)⟩,
⟨(some 116), none, .ibin .geq .i64 (.t 113) (.t 115)⟩,
⟨(some 117), none, .mov (.t 116)⟩,
⟨(some 118), (some (117, false)), .mov (.t 2)⟩,
⟨(some 119), (some (117, false)), .mov (.t 10)⟩,
⟨(some 120), (some (117, false)), .iaddr 2 (.t 118) (.t 119)⟩,
⟨(some 121), (some (117, false)), .faddr 0 (.t 120)⟩,
⟨(some 122), (some (117, false)), .load 1 false (.t 121)⟩,
⟨(some 123), (some (117, false)), .lenS (.t 122)⟩,
⟨(some 124), (some (117, false)), .ibin .gtr .i64 (.t 123) (.c (.int .i64 30))⟩,
⟨(some 125), none, .pick (.t 117) (.c (.bool true)) (.t 124)⟩] (some [1, 2, 3, 7, 8, 9, 10, 13, 125]))
(.cond (.t 125)
(.exit 1)
.skip))
(.seq (.draw (.rd 0 ⟨(some 127), none, .load 4 true (.t 3)⟩
(.rd 2 ⟨(some 129), none, .load 3 true (.t 7)⟩
(.rd 3 ⟨(some 130), none, .mov (.t 2)⟩
(.rd 4 ⟨(some 131), none, .mov (.t 10)⟩
(.rd 5 ⟨(some 132), none, .iaddr 2 (.t 130) (.t 131)⟩
(.rd 6 ⟨(some 133), none, .load 2 true (.t 132)⟩
(.wr 1 ⟨(some 128), none, .call 37 [(.t 127)]⟩ [0]
(.wr 7 ⟨(some 134), none, .call 169 [(.t 128), (.t 129), (.t 133)]⟩ [1, 2, 6, 1]
(.rd 8 ⟨(some 126), none, .mov (.t 134)⟩
(.rd 9 ⟨(some 135), none, .extract 0 (.t 126)⟩
(.rd 10 ⟨(some 136), none, .extract 1 (.t 126)⟩
(.wr 11 ⟨(some 15), none, .alloc [(.int .i64 0), (.int .i64 0), (.int .i64 0)]⟩ []
(.wr 12 ⟨none, none, .store 3 (.t 15) (.t 135)⟩ [11, 9, 7, 0, 1, 2, 3, 4, 5, 6, 7, 8, 9, 11]
(.rd 13 ⟨(some 16), none, .mov (.t 136)⟩
.fin) .no) .no))))
(.wr 11 ⟨(some 15), none, .alloc [(.int .i64 0), (.int .i64 0), (.int .i64 0)]⟩ []
(.wr 7 ⟨(some 134), none, .call 169 [(.t 128), (.t 129), (.t 133)]⟩ [1, 2, 6, 1]
(.rd 8 ⟨(some 126), none, .mov (.t 134)⟩
(.rd 9 ⟨(some 135), none, .extract 0 (.t 126)⟩
(.rd 10 ⟨(some 136), none, .extract 1 (.t 126)⟩
(.wr 12 ⟨none, none, .store 3 (.t 15) (.t 135)⟩ [11, 9, 7, 0, 1, 2, 3, 4, 5, 6, 7, 8, 9, 11]
(.rd 13 ⟨(some 16), none, .mov (.t 136)⟩
.fin) .no)))) .no) .no))
(.wr 11 ⟨(some 15), none, .alloc [(.int .i64 0), (.int .i64 0), (.int .i64 0)]⟩ []
(.wr 1 ⟨(some 128), none, .call 37 [(.t 127)]⟩ [0]
(.wr 7 ⟨(some 134), none, .call 169 [(.t 128), (.t 129), (.t 133)]⟩ [1, 2, 6, 1]
(.rd 8 ⟨(some 126), none, .mov (.t 134)⟩
(.rd 9 ⟨(some 135), none, .extract 0 (.t 126)⟩
(.rd 10 ⟨(some 136), none, .extract 1 (.t 126)⟩
(.wr 12 ⟨none, none, .store 3 (.t 15) (.t 135)⟩ [11, 9, 7, 0, 1, 2, 3, 4, 5, 6, 7, 8, 9, 11]
(.rd 13 ⟨(some 16), none, .mov (.t 136)⟩
.fin) .no)))) .no) .no) .no)))))))) (some [1, 2, 3, 7, 8, 9, 10, 13, 15, 16]))
(.seq (.seq (.ops [⟨(some 137), none, .mov (.t 16)⟩,
⟨(some 138), none, .ibin .neq .i64 (.t 137) (.c (.int .i64 0))⟩] (some [1, 2, 3, 7, 8, 9, 10, 13, 15, 138]))
(.cond (.t 138)
(.exit 1)
.skip))
(.seq (.ops [⟨(some 17), none, .mov (.c (.int .i64 0))⟩] none)
(.seq (.seq (.ops [⟨(some 18), none, .mov (.c (.int .i64 0))⟩] none)
(.block 2 (.loop (.seq (.seq (.ops [⟨(some 139), none, .mov (.t 18)⟩,
⟨(some 140), none, .faddr 3 (.t 3)⟩,
⟨(some 141), none, .load 1 false (.t 140)⟩,
⟨(some 142), none, .lenV (.t 141)⟩,
⟨(some 143), none, .ibin .lss .i64 (.t 139) (.t 142)⟩] (some [1, 2, 3, 7, 10, 13, 15, 17, 18, 143]))
(.cond (.t 143)
.skip
(.exit 2)))
(.seq (.block 3 (.seq (.draw (.rd 0 ⟨(some 146), none, .faddr 3 (.t 3)⟩
(.rd 1 ⟨(some 147), none, .load 1 false (.t 146)⟩
(.rd 2 ⟨(some 148), none, .mov (.t 18)⟩
(.rd 3 ⟨(some 149), none, .iaddr 2 (.t 147) (.t 148)⟩
(.rd 4 ⟨(some 150), none, .faddr 0 (.t 149)⟩
(.rd 5 ⟨(some 151), none, .load 1 false (.t 150)⟩
(.rd 6 ⟨(some 152), none, .mov (.t 2)⟩
(.rd 7 ⟨(some 153), none, .mov (.t 10)⟩
(.rd 8 ⟨(some 154), none, .iaddr 2 (.t 152) (.t 153)⟩
(.rd 9 ⟨(some 155), none, .faddr 0 (.t 154)⟩
(.rd 10 ⟨(some 156), none, .load 1 false (.t 155)⟩
(.rd 11 ⟨(some 157), none, .sbin .eql (.t 151) (.t 156)⟩
.fin)))))))))))) (some [1, 2, 3, 7, 10, 13, 15, 17, 18, 157]))
(.cond (.t 157)
(.ops [⟨(some 158), none, .faddr 3 (.t 3)⟩,
⟨(some 159), none, .load 1 false (.t 158)⟩,
⟨(some 160), none, .mov (.t 18)⟩,
⟨(some 161), none, .iaddr 2 (.t 159) (.t 160)⟩,
⟨(some 162), none, .faddr 1 (.t 161)⟩,
⟨(some 163), none, .load 1 false (.t 162)⟩,
⟨(some 17), none, .mov (.t 163)⟩] (some [1, 2, 3, 7, 10, 13, 15, 17, 18]))
.skip)))
(.ops [⟨(some 144), none, .mov (.t 18)⟩,
⟨(some 145), none, .ibin .add .i64 (.t 144) (.c (.int .i64 1))⟩,
⟨(some 18), none, .mov (.t 145)⟩] (some [1, 2, 3, 7, 10, 13, 15, 17, 18])))))))
(.seq (.seq (.draw (.rd 0 ⟨(some 164), none, .mov (.t 17)⟩
(.rd 1 ⟨(some 165), none, .faddr 0 (.t 7)⟩
(.rd 2 ⟨(some 166), none, .load 1 false (.t 165)⟩
(.rd 3 ⟨(some 167), none, .ibin .lss .i64 (.t 164) (.t 166)⟩
(.rd 4 ⟨(some 168), none, .mov (.t 167)⟩
(.rd 5 ⟨(some 169), (some (168, false)), .mov (.t 13)⟩
(.rd 6 ⟨(some 170), (some (168, false)), .faddr 0 (.t 7)⟩
(.rd 7 ⟨(some 171), (some (168, false)), .load 1 false (.t 170)⟩
(.rd 8 ⟨(some 172), (some (168, false)), .ibin .geq .i64 (.t 169) (.t 171)⟩
(.rd 9 ⟨(some 173), none, .pick (.t 168) (.c (.bool true)) (.t 172)⟩
(.rd 10 ⟨(some 174), none, .mov (.t 173)⟩
(.rd 11 ⟨(some 175), (some (174, false)), .faddr 0 (.t 15)⟩
(.rd 12 ⟨(some 176), (some (174, false)), .load 1 false (.t 175)⟩
(.rd 13 ⟨(some 177), (some (174, false)), .mov (.t 2)⟩
(.rd 14 ⟨(some 178), (some (174, false)), .mov (.t 10)⟩
(.rd 15 ⟨(some 179), (some (174, false)), .iaddr 2 (.t 177) (.t 178)⟩
(.rd 16 ⟨(some 180), (some (174, false)), .faddr 1 (.t 179)⟩
(.rd 17 ⟨(some 181), (some (174, false)), .load 1 false (.t 180)⟩
(.rd 18 ⟨(some 182), (some (174, false)), .ibin .neq .i64 (.t 176) (.t 181)⟩
(.rd 19 ⟨(some 183), none, .pick (.t 174) (.c (.bool true)) (.t 182)⟩
(.rd 20 ⟨(some 184), none, .mov (.t 183)⟩
(.rd 21 ⟨(some 185), (some (184, false)), .faddr 0 (.t 15)⟩
(.rd 22 ⟨(some 186), (some (184, false)), .load 1 false (.t 185)⟩
(.rd 23 ⟨(some 187), (some (184, false)), .faddr 0 (.t 7)⟩
(.rd 24 ⟨(some 188), (some (184, false)), .load 1 false (.t 187)⟩
(.rd 25 ⟨(some 189), (some (184, false)), .ibin .sub .i64 (.t 188) (.c (.int .i64 1))⟩
(.wr 26 ⟨(some 190), (some (184, false)), .call 15 [(.t 186), (.c (.int .i64 0)), (.t 189)]⟩ [22, 25, 20, 20]
(.rd 27 ⟨(some 191), (some (184, false)), .un .not (.t 190)⟩
(.rd 28 ⟨(some 192), none, .pick (.t 184) (.c (.bool true)) (.t 191)⟩
(.rd 29 ⟨(some 193), none, .mov (.t 192)⟩
(.rd 30 ⟨(some 194), (some (193, false)), .faddr 1 (.t 15)⟩
(.rd 31 ⟨(some 195), (some (193, false)), .load 1 false (.t 194)⟩
(.rd 32 ⟨(some 196), (some (193, false)), .ibin .neq .i64 (.t 195) (.c (.int .i64 0))⟩
(.rd 33 ⟨(some 197), none, .pick (.t 193) (.c (.bool true)) (.t 196)⟩
(.rd 34 ⟨(some 198), none, .mov (.t 197)⟩
(.rd 35 ⟨(some 199), (some (198, false)), .faddr 2 (.t 15)⟩
(.rd 36 ⟨(some 200), (some (198, false)), .load 1 false (.t 199)⟩
(.rd 37 ⟨(some 201), (some (198, false)), .faddr 2 (.t 7)⟩
(.rd 38 ⟨(some 202), (some (198, false)), .load 1 false (.t 201)⟩
(.rd 39 ⟨(some 203), (some (198, false)), .ibin .neq .i64 (.t 200) (.t 202)⟩
(.rd 40 ⟨(some 204), none, .pick (.t 198) (.c (.bool true)) (.t 203)⟩
.fin)))))))))))))) .no))))))))))))))))))))))))))) (some [1, 2, 3, 7, 10, 15, 204]))
(.cond (.t 204)
(.seq (.ops [⟨(some 6), none, .mov (.c (.bool false))⟩] none)
.ret)
.skip))
(.ops [⟨(some 205), none, .load 3 true (.t 15)⟩,
⟨none, none, .store 3 (.t 7) (.t 205)⟩,
⟨(some 8), none, .mov (.c (.int .i64 0))⟩,
⟨(some 9), none, .mov (.c (.bool true))⟩] (some [1, 2, 3, 7, 8, 9, 10]))))))))))))))))
(.ops [⟨(some 45), none, .mov (.t 10)⟩,
⟨(some 46), none, .ibin .add .i64 (.t 45) (.c (.int .i64 1))⟩,
⟨(some 10), none, .mov (.t 46)⟩] (some [1, 2, 3, 7, 8, 9, 10])))))))
(.seq (.ops [⟨(some 207), none, .load 4 true (.t 3)⟩,
⟨(some 208), none, .call 37 [(.t 207)]⟩,
⟨(some 209), none, .mov (.t 1)⟩,
⟨(some 210), none, .call 38 [(.t 209)]⟩,
⟨(some 211), none, .call 36 [(.t 208), (.t 210)]⟩,
⟨(some 206), none, .mov (.t 211)⟩,
⟨(some 212), none, .extract 0 (.t 206)⟩,
⟨(some 213), none, .extract 1 (.t 206)⟩,
⟨(some 19), none, .alloc [(.int .i64 0), (.int .i64 0), (.int .i64 0)]⟩,
⟨none, none, .store 3 (.t 19) (.t 212)⟩,
⟨(some 20), none, .mov (.t 213)⟩] (some [7, 9, 19, 20]))
(.seq (.ops [⟨(some 214), none, .mov (.t 20)⟩,
⟨(some 215), none, .ibin .eql .i64 (.t 214) (.c (.int .i64 0))⟩,
⟨(some 216), none, .mov (.t 215)⟩,
⟨(some 217), (some (216, true)), .mov (.t 9)⟩,
⟨(some 218), (some (216, true)), .mov (.t 217)⟩,
⟨(some 219), (some (218, false)), .load 3 true (.t 19)⟩,
⟨(some 220), (some (218, false)), .load 3 true (.t 7)⟩,
⟨(some 221), (some (218, false)), .eqv (.fld 0 1 (.int .i64) (.fld 1 1 (.int .i64) (.fld 2 1 (.int .i64) .nil))) false (.t 219) (.t 220)⟩,
⟨(some 222), (some (216, true)), .pick (.t 218) (.c (.bool true)) (.t 221)⟩,
⟨(some 223), none, .pick (.t 216) (.t 222) (.c (.bool false))⟩,
⟨(some 6), none, .mov (.t 223)⟩] (some [6]))
.ret))))))))⟩
/-- guidevane/dam.Lowered -/
def ir169 : IFn := ⟨88, [.cell 6 3 true, .t 7],
(.seq (.ops [⟨(some 3), none, .box (.t 0)⟩,
⟨(some 4), none, .box (.t 1)⟩,
⟨(some 5), none, .box (.t 2)⟩,
⟨(some 6), none, .alloc [(.int .i64 0), (.int .i64 0), (.int .i64 0)]⟩,
⟨(some 7), none, .mov (.c (.int .i64 0))⟩] (some [3, 4, 5, 6]))
(.seq (.ops [⟨(some 14), none, .load 4 true (.t 3)⟩,
⟨(some 15), none, .load 3 true (.t 4)⟩,
⟨(some 16), none, .call 90 [(.t 14), (.t 15)]⟩,
⟨(some 13), none, .mov (.t 16)⟩,
⟨(some 17), none, .extract 0 (.t 13)⟩,
⟨(some 18), none, .extract 1 (.t 13)⟩,
⟨(some 8), none, .alloc [(.slice none 0 0), (.slice none 0 0), (.int .i64 0), (.slice none 0 0)]⟩,
⟨none, none, .store 4 (.t 8) (.t 17)⟩,
⟨(some 9), none, .mov (.t 18)⟩] (some [4, 5, 6, 8, 9]))
(.seq (.seq (.ops [⟨(some 19), none, .mov (.t 9)⟩,
⟨(some 20), none, .faddr 0 (.t 5)⟩,
⟨(some 21), none, .load 1 false (.t 20)⟩,
⟨(some 22), none, .call 88 [(.t 21)]⟩,
⟨(some 23), none, .call 64 [(.t 22), (.c (.int .i64 4))]⟩,
⟨(some 24), none, .bslice 2 1 [(.int .i64 0)] [(0, 1, (.t 19)), (1, 1, (.t 23))]⟩,
⟨(some 25), none, .call 63 [(.t 24)]⟩,
⟨(some 9), none, .mov (.t 25)⟩] (some [4, 5, 6, 8, 9]))
(.seq (.ops [⟨(some 26), none, .mov (.t 9)⟩,
⟨(some 27), none, .ibin .neq .i64 (.t 26) (.c (.int .i64 0))⟩] (some [4, 5, 6, 8, 9, 27]))
(.cond (.t 27)
(.seq (.ops [⟨(some 28), none, .build [(.int .i64 0), (.int .i64 0), (.int .i64 0)] []⟩,
⟨(some 29), none, .mov (.t 9)⟩,
⟨none, none, .store 3 (.t 6) (.t 28)⟩,
⟨(some 7), none, .mov (.t 29)⟩] (some [6, 7]))
.ret)
.skip)))
(.seq (.ops [⟨(some 30), none, .faddr 0 (.t 8)⟩,
⟨(some 31), none, .faddr 3 (.t 30)⟩,
⟨(some 32), none, .load 1 false (.t 31)⟩,
⟨(some 33), none, .mkfunc 185 [] [(.t 5)]⟩,
⟨(some 34), none, .call 110 [(.t 32), (.t 33)]⟩,
⟨(some 10), none, .mov (.t 34)⟩] (some [4, 5, 6, 8, 10]))
(.seq (.seq (.ops [⟨(some 35), none, .mov (.t 10)⟩,
⟨(some 36), none, .ibin .lss .i64 (.t 35) (.c (.int .i64 0))⟩] (some [4, 5, 6, 8, 10, 36]))
(.cond (.t 36)
(.seq (.ops [⟨(some 37), none, .build [(.int .i64 0), (.int .i64 0), (.int .i64 0)] []⟩,
⟨none, none, .store 3 (.t 6) (.t 37)⟩,
⟨(some 7), none, .mov (.c (.int .i64 6))⟩] (some [6, 7]))
.ret)
.skip))
(.seq (.seq (.ops [⟨(some 38), none, .faddr 1 (.t 5)⟩,
⟨(some 39), none, .load 1 false (.t 38)⟩,
⟨(some 40), none, .faddr 0 (.t 4)⟩,
⟨(some 41), none, .load 1 false (.t 40)⟩,
⟨(some 42), none, .ibin .sub .i64 (.t 41) (.c (.int .i64 1))⟩,
⟨(some 43), none, .call 65 [(.t 39), (.c (.int .i64 0)), (.t 42)]⟩,
⟨(some 44), none, .un .not (.t 43)⟩] (some [4, 5, 6, 8, 10, 44]))
(.cond (.t 44)
(.seq (.ops [⟨(some 45), none, .build [(.int .i64 0), (.int .i64 0), (.int .i64 0)] []⟩,
⟨none, none, .store 3 (.t 6) (.t 45)⟩,
⟨(some 7), none, .mov (.c (.int .i64 2))⟩] (some [6, 7]))
.ret)
.skip))
(.seq (.draw (.rd 0 ⟨(some 46), none, .faddr 1 (.t 4)⟩
(.rd 1 ⟨(some 47), none, .load 1 false (.t 46)⟩
(.rd 2 ⟨(some 48), none, .faddr 0 (.t 8)⟩
(.rd 3 ⟨(some 49), none, .faddr 2 (.t 48)⟩
(.rd 4 ⟨(some 50), none, .load 1 false (.t 49)⟩
(.rd 5 ⟨(some 51), none, .ibin .geq .i64 (.t 47) (.t 50)⟩
(.rd 6 ⟨(some 52), none, .mov (.t 51)⟩
(.rd 7 ⟨(some 53), (some (52, true)), .faddr 2 (.t 4)⟩
(.rd 8 ⟨(some 54), (some (52, true)), .load 1 false (.t 53)⟩
(.rd 9 ⟨(some 55), (some (52, true)), .faddr 0 (.t 8)⟩
(.rd 10 ⟨(some 56), (some (52, true)), .faddr 1 (.t 55)⟩
(.rd 11 ⟨(some 57), (some (52, true)), .load 1 false (.t 56)⟩
(.rd 12 ⟨(some 58), (some (52, true)), .faddr 1 (.t 5)⟩
(.rd 13 ⟨(some 59), (some (52, true)), .load 1 false (.t 58)⟩
(.rd 14 ⟨(some 60), (some (52, true)), .iaddr 1 (.t 57) (.t 59)⟩
(.rd 15 ⟨(some 61), (some (52, true)), .load 1 false (.t 60)⟩
(.rd 16 ⟨(some 62), (some (52, true)), .ibin .lss .i64 (.t 54) (.t 61)⟩
(.rd 17 ⟨(some 63), none, .pick (.t 52) (.t 62) (.c (.bool false))⟩
(.rd 18 ⟨(some 11), none, .mov (.t 63)⟩
.fin))))))))))))))))))) (some [4, 5, 6, 8, 10, 11]))
(.seq (.seq (.draw (.rd 0 ⟨(some 64), none, .faddr 0 (.t 8)⟩
(.rd 1 ⟨(some 65), none, .faddr 3 (.t 64)⟩
(.rd 2 ⟨(some 66), none, .load 1 false (.t 65)⟩
(.rd 3 ⟨(some 67), none, .mov (.t 10)⟩
(.rd 4 ⟨(some 68), none, .iaddr 2 (.t 66) (.t 67)⟩
(.rd 5 ⟨(some 69), none, .faddr 1 (.t 68)⟩
(.rd 6 ⟨(some 70), none, .load 1 false (.t 69)⟩
(.rd 7 ⟨(some 71), none, .faddr 0 (.t 4)⟩
(.rd 8 ⟨(some 72), none, .load 1 false (.t 71)⟩
(.rd 9 ⟨(some 73), none, .ibin .geq .i64 (.t 70) (.t 72)⟩
(.rd 11 ⟨(some 75), none, .mov (.t 11)⟩
(.wr 10 ⟨(some 74), none, .call 64 [(.t 73), (.c (.int .i64 18))]⟩ [9]
(.wr 12 ⟨(some 76), none, .call 64 [(.t 75), (.c (.int .i64 24))]⟩ [11, 10]
(.wr 13 ⟨(some 77), none, .bslice 2 1 [(.int .i64 0)] [(0, 1, (.t 74)), (1, 1, (.t 76))]⟩ [10, 12]
(.wr 14 ⟨(some 78), none, .call 63 [(.t 77)]⟩ [13, 12]
(.rd 15 ⟨(some 12), none, .mov (.t 78)⟩
.fin) .no) .no) .no) .no)))))))))))) (some [4, 5, 6, 12]))
(.seq (.ops [⟨(some 79), none, .mov (.t 12)⟩,
⟨(some 80), none, .ibin .neq .i64 (.t 79) (.c (.int .i64 0))⟩] (some [4, 5, 6, 12, 80]))
(.cond (.t 80)
(.seq (.ops [⟨(some 81), none, .build [(.int .i64 0), (.int .i64 0), (.int .i64 0)] []⟩,
⟨(some 82), none, .mov (.t 12)⟩,
⟨none, none, .store 3 (.t 6) (.t 81)⟩,
⟨(some 7), none, .mov (.t 82)⟩] (some [6, 7]))
.ret)
.skip)))
(.seq (.ops [⟨(some 83), none, .faddr 1 (.t 5)⟩,
⟨(some 84), none, .load 1 false (.t 83)⟩,
⟨(some 85), none, .faddr 2 (.t 4)⟩,
⟨(some 86), none, .load 1 false (.t 85)⟩,
⟨(some 87), none, .build [(.int .i64 0), (.int .i64 0), (.int .i64 0)] [(0, 1, (.t 84)), (2, 1, (.t 86))]⟩,
⟨none, none, .store 3 (.t 6) (.t 87)⟩,
⟨(some 7), none, .mov (.c (.int .i64 0))⟩] (some [6, 7]))
.ret)))))))))⟩
/-- guidevane/guidevaneref09.LowerErr -/
def ir170 : IFn := ⟨57, [.t 6],
(.seq (.ops [⟨(some 3), none, .box (.t 0)⟩,
⟨(some 4), none, .box (.t 1)⟩,
⟨(some 5), none, .box (.t 2)⟩,
⟨(some 6), none, .mov (.c (.int .i64 0))⟩] (some [3, 4, 5]))
(.seq (.seq (.ops [⟨(some 9), none, .faddr 0 (.t 5)⟩,
⟨(some 10), none, .load 1 false (.t 9)⟩,
⟨(some 11), none, .call 91 [(.t 10)]⟩,
⟨(some 12), none, .un .not (.t 11)⟩] (some [3, 4, 5, 12]))
(.cond (.t 12)
(.seq (.ops [⟨(some 6), none, .mov (.c (.int .i64 4))⟩] none)
.ret)
.skip))
(.seq (.ops [⟨(some 13), none, .faddr 3 (.t 3)⟩,
⟨(some 14), none, .load 1 false (.t 13)⟩,
⟨(some 15), none, .faddr 0 (.t 5)⟩,
⟨(some 16), none, .load 1 false (.t 15)⟩,
⟨(some 17), none, .call 92 [(.t 14), (.t 16)]⟩,
⟨(some 7), none, .mov (.t 17)⟩] (some [3, 4, 5, 7]))
(.seq (.seq (.ops [⟨(some 18), none, .mov (.t 7)⟩,
⟨(some 19), none, .ibin .lss .i64 (.t 18) (.c (.int .i64 0))⟩] (some [3, 4, 5, 7, 19]))
(.cond (.t 19)
(.seq (.ops [⟨(some 6), none, .mov (.c (.int .i64 6))⟩] none)
.ret)
.skip))
(.seq (.seq (.ops [⟨(some 20), none, .faddr 1 (.t 5)⟩,
⟨(some 21), none, .load 1 false (.t 20)⟩,
⟨(some 22), none, .faddr 0 (.t 4)⟩,
⟨(some 23), none, .load 1 false (.t 22)⟩,
⟨(some 24), none, .ibin .sub .i64 (.t 23) (.c (.int .i64 1))⟩,
⟨(some 25), none, .call 15 [(.t 21), (.c (.int .i64 0)), (.t 24)]⟩,
⟨(some 26), none, .un .not (.t 25)⟩] (some [3, 4, 5, 7, 26]))
(.cond (.t 26)
(.seq (.ops [⟨(some 6), none, .mov (.c (.int .i64 2))⟩] none)
.ret)
.skip))
(.seq (.seq (.draw (.rd 0 ⟨(some 27), none, .faddr 3 (.t 3)⟩
(.rd 1 ⟨(some 28), none, .load 1 false (.t 27)⟩
(.rd 2 ⟨(some 29), none, .mov (.t 7)⟩
(.rd 3 ⟨(some 30), none, .iaddr 2 (.t 28) (.t 29)⟩
(.rd 4 ⟨(some 31), none, .faddr 1 (.t 30)⟩
(.rd 5 ⟨(some 32), none, .load 1 false (.t 31)⟩
(.rd 6 ⟨(some 33), none, .faddr 0 (.t 4)⟩
(.rd 7 ⟨(some 34), none, .load 1 false (.t 33)⟩
(.rd 8 ⟨(some 35), none, .ibin .lss .i64 (.t 32) (.t 34)⟩
.fin))))))))) (some [3, 4, 5, 35]))
(.cond (.t 35)
(.seq (.ops [⟨(some 6), none, .mov (.c (.int .i64 18))⟩] none)
.ret)
.skip))
(.seq (.seq (.ops [⟨(some 36), none, .faddr 1 (.t 4)⟩,
⟨(some 37), none, .load 1 false (.t 36)⟩,
⟨(some 38), none, .faddr 2 (.t 3)⟩,
⟨(some 39), none, .load 1 false (.t 38)⟩,
⟨(some 40), none, .ibin .lss .i64 (.t 37) (.t 39)⟩] (some [3, 4, 5, 40]))
(.cond (.t 40)
(.seq (.ops [⟨(some 6), none, .mov (.c (.int .i64 24))⟩] none)
.ret)
.skip))
(.seq (.seq (.ops [⟨(some 41), none, .faddr 1 (.t 5)⟩,
⟨(some 42), none, .load 1 false (.t 41)⟩,
⟨(some 8), none, .mov (.t 42)⟩] (some [3, 4, 8]))
(.block 0 (.loop (.seq (.seq (.ops [⟨(some 43), none, .mov (.t 8)⟩,
⟨(some 44), none, .faddr 0 (.t 4)⟩,
⟨(some 45), none, .load 1 false (.t 44)⟩,
⟨(some 46), none, .ibin .lss .i64 (.t 43) (.t 45)⟩] (some [3, 4, 8, 46]))
(.cond (.t 46)
.skip
(.exit 0)))
(.seq (.block 1 (.seq (.draw (.rd 0 ⟨(some 49), none, .faddr 2 (.t 4)⟩
(.rd 1 ⟨(some 50), none, .load 1 false (.t 49)⟩
(.rd 2 ⟨(some 51), none, .faddr 1 (.t 3)⟩
(.rd 3 ⟨(some 52), none, .load 1 false (.t 51)⟩
(.rd 4 ⟨(some 53), none, .mov (.t 8)⟩
(.rd 5 ⟨(some 54), none, .iaddr 1 (.t 52) (.t 53)⟩
(.rd 6 ⟨(some 55), none, .load 1 false (.t 54)⟩
(.rd 7 ⟨(some 56), none, .ibin .geq .i64 (.t 50) (.t 55)⟩
.fin)))))))) (some [3, 4, 8, 56]))
(.cond (.t 56)
(.seq (.ops [⟨(some 6), none, .mov (.c (.int .i64 24))⟩] none)
.ret)
.skip)))
(.ops [⟨(some 47), none, .mov (.t 8)⟩,
⟨(some 48), none, .ibin .add .i64 (.t 47) (.c (.int .i64 1))⟩,
⟨(some 8), none, .mov (.t 48)⟩] (some [3, 4, 8])))))))
(.seq (.ops [⟨(some 6), none, .mov (.c (.int .i64 0))⟩] none)
.ret)))))))))⟩
/-- guidevane/guidevaneref09.Lowered -/
def ir171 : IFn := ⟨10, [.cell 4 3 true],
(.seq (.ops [⟨(some 2), none, .box (.t 0)⟩,
⟨(some 3), none, .box (.t 1)⟩,
⟨(some 4), none, .alloc [(.int .i64 0), (.int .i64 0), (.int .i64 0)]⟩] (some [2, 3, 4]))
(.seq (.ops [⟨(some 5), none, .faddr 1 (.t 3)⟩,
⟨(some 6), none, .load 1 false (.t 5)⟩,
⟨(some 7), none, .faddr 2 (.t 2)⟩,
⟨(some 8), none, .load 1 false (.t 7)⟩,
⟨(some 9), none, .build [(.int .i64 0), (.int .i64 0), (.int .i64 0)] [(0, 1, (.t 6)), (2, 1, (.t 8))]⟩,
⟨none, none, .store 3 (.t 4) (.t 9)⟩] (some [4]))
.ret))⟩
/-- guidevane/dam.Lowered$1 -/
def ir185 : IFn := ⟨9, [.t 3],
(.seq (.ops [⟨(some 2), none, .box (.t 0)⟩,
⟨(some 3), none, .mov (.c (.bool false))⟩] (some [1, 2]))
(.seq (.ops [⟨(some 4), none, .faddr 0 (.t 2)⟩,
⟨(some 5), none, .load 1 false (.t 4)⟩,
⟨(some 6), none, .faddr 0 (.t 1)⟩,
⟨(some 7), none, .load 1 false (.t 6)⟩,
⟨(some 8), none, .sbin .eql (.t 5) (.t 7)⟩,
⟨(some 3), none, .mov (.t 8)⟩] (some [3]))
.ret))⟩

end Go.Proofs.YtfdapegcngmknaaGreat.AM
