/- The functions in the small language. Conditions: none. -/
import Derived.Test.YtacgibkgojnfeaaAmFn
namespace Go.Proofs.Ytacgibkgojnfeaa.AM
set_option linter.unusedSimpArgs false
set_option linter.unusedVariables false
open Go Go.RowKit

/-- guidevane/guidevanetop.TopDamInvariant -/
def ir9 : IFn := ⟨276, [.t 6],
(.seq (.ops [⟨(some 4), none, .box (.t 1)⟩,
⟨(some 5), none, .box (.t 2)⟩,
⟨(some 6), none, .mov (.c (.bool false))⟩] (some [0, 4, 5]))
(.seq (.seq (.ops [⟨(some 31), none, .call 50 []⟩,
⟨(some 32), none, .un .not (.t 31)⟩] (some [0, 4, 5, 32]))
(.cond (.t 32)
(.seq (.ops [⟨(some 6), none, .mov (.c (.bool false))⟩] none)
.ret)
.skip))
(.seq (.seq (.ops [⟨(some 33), none, .mov (.t 0)⟩,
⟨(some 34), none, .lenV (.t 33)⟩,
⟨(some 35), none, .ibin .gtr .i64 (.t 34) (.c (.int .i64 12))⟩,
⟨(some 36), none, .mov (.t 35)⟩,
⟨(some 37), (some (36, false)), .mov (.t 0)⟩,
⟨(some 38), (some (36, false)), .call 51 [(.t 37)]⟩,
⟨(some 39), (some (36, false)), .ibin .neq .i64 (.t 38) (.c (.int .i64 0))⟩,
⟨(some 40), none, .pick (.t 36) (.c (.bool true)) (.t 39)⟩,
⟨(some 41), none, .mov (.t 40)⟩,
⟨(some 42), (some (41, false)), .load 3 true (.t 4)⟩,
⟨(some 43), (some (41, false)), .call 32 [(.t 42)]⟩,
⟨(some 44), (some (41, false)), .ibin .neq .i64 (.t 43) (.c (.int .i64 0))⟩,
⟨(some 45), none, .pick (.t 41) (.c (.bool true)) (.t 44)⟩,
⟨(some 46), none, .mov (.t 45)⟩,
⟨(some 47), (some (46, false)), .faddr 0 (.t 5)⟩,
⟨(some 48), (some (46, false)), .load 1 false (.t 47)⟩,
⟨(some 49), (some (46, false)), .call 52 [(.t 48)]⟩,
⟨(some 50), (some (46, false)), .ibin .neq .i64 (.t 49) (.c (.int .i64 0))⟩,
⟨(some 51), none, .pick (.t 46) (.c (.bool true)) (.t 50)⟩] (some [0, 4, 5, 51]))
(.cond (.t 51)
(.seq (.ops [⟨(some 6), none, .mov (.c (.bool true))⟩] none)
.ret)
.skip))
(.seq (.seq (.ops [⟨(some 7), none, .mov (.c (.int .i64 0))⟩] none)
(.block 0 (.loop (.seq (.seq (.ops [⟨(some 52), none, .mov (.t 7)⟩,
⟨(some 53), none, .ibin .lss .i64 (.t 52) (.c (.int .i64 5))⟩] (some [0, 4, 5, 7, 53]))
(.cond (.t 53)
.skip
(.exit 0)))
(.seq (.block 1 (.seq (.ops [⟨(some 56), none, .mov (.t 7)⟩,
⟨(some 57), none, .faddr 1 (.t 5)⟩,
⟨(some 58), none, .iaddrA 5 1 (.t 57) (.t 56)⟩,
⟨(some 59), none, .load 1 false (.t 58)⟩,
⟨(some 60), none, .call 15 [(.t 59), (.c (.int .i64 (-100))), (.c (.int .i64 100))]⟩,
⟨(some 61), none, .un .not (.t 60)⟩] (some [0, 4, 5, 7, 61]))
(.cond (.t 61)
(.seq (.ops [⟨(some 6), none, .mov (.c (.bool true))⟩] none)
.ret)
.skip)))
(.ops [⟨(some 54), none, .mov (.t 7)⟩,
⟨(some 55), none, .ibin .add .i64 (.t 54) (.c (.int .i64 1))⟩,
⟨(some 7), none, .mov (.t 55)⟩] (some [0, 4, 5, 7])))))))
(.seq (.ops [⟨(some 62), none, .mov (.t 0)⟩,
⟨(some 63), none, .call 53 [(.t 62)]⟩,
⟨(some 8), none, .mov (.t 63)⟩] (some [0, 4, 5, 8]))
(.seq (.seq (.ops [⟨(some 9), none, .mov (.c (.int .i64 0))⟩] none)
(.block 2 (.loop (.seq (.seq (.ops [⟨(some 64), none, .mov (.t 9)⟩,
⟨(some 65), none, .mov (.t 8)⟩,
⟨(some 66), none, .lenV (.t 65)⟩,
⟨(some 67), none, .ibin .lss .i64 (.t 64) (.t 66)⟩] (some [0, 4, 5, 8, 9, 67]))
(.cond (.t 67)
.skip
(.exit 2)))
(.seq (.block 3 (.draw (.rd 0 ⟨(some 70), none, .mov (.t 8)⟩
(.rd 1 ⟨(some 71), none, .mov (.t 9)⟩
(.rd 2 ⟨(some 72), none, .mov (.t 8)⟩
(.rd 3 ⟨(some 73), none, .mov (.t 9)⟩
(.rd 4 ⟨(some 74), none, .iaddr 3 (.t 72) (.t 73)⟩
(.rd 5 ⟨(some 75), none, .faddr 2 (.t 74)⟩
(.rd 6 ⟨(some 76), none, .load 1 false (.t 75)⟩
(.rd 7 ⟨(some 77), none, .load 6 true (.t 5)⟩
(.rd 8 ⟨(some 78), none, .mov (.t 0)⟩
(.rd 9 ⟨(some 79), none, .mov (.t 9)⟩
(.rd 10 ⟨(some 80), none, .iaddr 3 (.t 78) (.t 79)⟩
(.rd 11 ⟨(some 81), none, .load 3 true (.t 80)⟩
(.wr 12 ⟨(some 82), none, .call 54 [(.t 77), (.t 81)]⟩ [7, 11]
(.rd 13 ⟨(some 83), none, .ibin .add .i64 (.t 76) (.t 82)⟩
(.rd 14 ⟨(some 84), none, .iaddr 3 (.t 70) (.t 71)⟩
(.rd 15 ⟨(some 85), none, .faddr 2 (.t 84)⟩
(.wr 16 ⟨none, none, .store 1 (.t 85) (.t 83)⟩ [15, 13, 12, 0, 1, 2, 3, 4, 5, 6, 7, 8, 9, 10, 11, 12, 13]
.fin .no)))) .no))))))))))))) (some [0, 4, 5, 8, 9])))
(.ops [⟨(some 68), none, .mov (.t 9)⟩,
⟨(some 69), none, .ibin .add .i64 (.t 68) (.c (.int .i64 1))⟩,
⟨(some 9), none, .mov (.t 69)⟩] (some [0, 4, 5, 8, 9])))))))
(.seq (.ops [⟨(some 86), none, .load 3 true (.t 4)⟩,
⟨(some 10), none, .alloc [(.int .i64 0), (.int .i64 0), (.int .i64 0)]⟩,
⟨none, none, .store 3 (.t 10) (.t 86)⟩] (some [0, 4, 5, 8, 10]))
(.seq (.draw (.rd 0 ⟨(some 87), none, .faddr 2 (.t 4)⟩
(.rd 1 ⟨(some 88), none, .load 1 false (.t 87)⟩
(.rd 2 ⟨(some 89), none, .load 6 true (.t 5)⟩
(.rd 3 ⟨(some 90), none, .load 3 true (.t 4)⟩
(.wr 4 ⟨(some 91), none, .call 54 [(.t 89), (.t 90)]⟩ [2, 3]
(.rd 5 ⟨(some 92), none, .ibin .add .i64 (.t 88) (.t 91)⟩
(.rd 6 ⟨(some 93), none, .faddr 2 (.t 10)⟩
(.wr 7 ⟨none, none, .store 1 (.t 93) (.t 92)⟩ [6, 5, 4, 0, 1, 2, 3, 4, 5]
.fin .no))) .no))))) (some [0, 4, 5, 8, 10]))
(.seq (.seq (.ops [⟨(some 94), none, .mov (.t 8)⟩,
⟨(some 95), none, .call 51 [(.t 94)]⟩,
⟨(some 96), none, .ibin .neq .i64 (.t 95) (.c (.int .i64 0))⟩,
⟨(some 97), none, .mov (.t 96)⟩,
⟨(some 98), (some (97, false)), .load 3 true (.t 10)⟩,
⟨(some 99), (some (97, false)), .call 32 [(.t 98)]⟩,
⟨(some 100), (some (97, false)), .ibin .neq .i64 (.t 99) (.c (.int .i64 0))⟩,
⟨(some 101), none, .pick (.t 97) (.c (.bool true)) (.t 100)⟩] (some [0, 4, 5, 8, 10, 101]))
(.cond (.t 101)
(.seq (.ops [⟨(some 6), none, .mov (.c (.bool true))⟩] none)
.ret)
.skip))
(.seq (.draw (.rd 0 ⟨(some 103), none, .mov (.t 0)⟩
(.rd 2 ⟨(some 105), none, .faddr 0 (.t 5)⟩
(.rd 3 ⟨(some 106), none, .load 1 false (.t 105)⟩
(.wr 1 ⟨(some 104), none, .call 53 [(.t 103)]⟩ [0]
(.wr 4 ⟨(some 107), none, .call 55 [(.t 104), (.t 106)]⟩ [1, 3, 1]
(.rd 5 ⟨(some 102), none, .mov (.t 107)⟩
(.rd 6 ⟨(some 108), none, .extract 0 (.t 102)⟩
(.rd 7 ⟨(some 109), none, .extract 1 (.t 102)⟩
(.wr 8 ⟨(some 11), none, .alloc (List.replicate 6 (.int .i64 0))⟩ []
(.wr 9 ⟨none, none, .store 6 (.t 11) (.t 108)⟩ [8, 6, 4, 0, 1, 2, 3, 4, 5, 6, 8]
(.rd 10 ⟨(some 12), none, .mov (.t 109)⟩
.fin) .no) .no))))
(.wr 8 ⟨(some 11), none, .alloc (List.replicate 6 (.int .i64 0))⟩ []
(.wr 4 ⟨(some 107), none, .call 55 [(.t 104), (.t 106)]⟩ [1, 3, 1]
(.rd 5 ⟨(some 102), none, .mov (.t 107)⟩
(.rd 6 ⟨(some 108), none, .extract 0 (.t 102)⟩
(.rd 7 ⟨(some 109), none, .extract 1 (.t 102)⟩
(.wr 9 ⟨none, none, .store 6 (.t 11) (.t 108)⟩ [8, 6, 4, 0, 1, 2, 3, 4, 5, 6, 8]
(.rd 10 ⟨(some 12), none, .mov (.t 109)⟩
.fin) .no)))) .no) .no))
(.wr 8 ⟨(some 11), none, .alloc (List.replicate 6 (.int .i64 0))⟩ []
(.wr 1 ⟨(some 104), none, .call 53 [(.t 103)]⟩ [0]
(.wr 4 ⟨(some 107), none, .call 55 [(.t 104), (.t 106)]⟩ [1, 3, 1]
(.rd 5 ⟨(some 102), none, .mov (.t 107)⟩
(.rd 6 ⟨(some 108), none, .extract 0 (.t 102)⟩
(.rd 7 ⟨(some 109), none, .extract 1 (.t 102)⟩
(.wr 9 ⟨none, none, .store 6 (.t 11) (.t 108)⟩ [8, 6, 4, 0, 1, 2, 3, 4, 5, 6, 8]
(.rd 10 ⟨(some 12), none, .mov (.t 109)⟩
.fin) .no)))) .no) .no) .no))))) (some [0, 4, 5, 8, 10, 11, 12]))
(.seq (.draw (.rd 0 ⟨(some 111), none, .mov (.t 8)⟩
(.rd 2 ⟨(some 113), none, .faddr 0 (.t 5)⟩
(.rd 3 ⟨(some 114), none, .load 1 false (.t 113)⟩
(.wr 1 ⟨(some 112), none, .call 53 [(.t 111)]⟩ [0]
(.wr 4 ⟨(some 115), none, .call 55 [(.t 112), (.t 114)]⟩ [1, 3, 1]
(.rd 5 ⟨(some 110), none, .mov (.t 115)⟩
(.rd 6 ⟨(some 116), none, .extract 0 (.t 110)⟩
(.rd 7 ⟨(some 117), none, .extract 1 (.t 110)⟩
(.wr 8 ⟨(some 13), none, .alloc (List.replicate 6 (.int .i64 0))⟩ []
(.wr 9 ⟨none, none, .store 6 (.t 13) (.t 116)⟩ [8, 6, 4, 0, 1, 2, 3, 4, 5, 6, 8]
(.rd 10 ⟨(some 14), none, .mov (.t 117)⟩
.fin) .no) .no))))
(.wr 8 ⟨(some 13), none, .alloc (List.replicate 6 (.int .i64 0))⟩ []
(.wr 4 ⟨(some 115), none, .call 55 [(.t 112), (.t 114)]⟩ [1, 3, 1]
(.rd 5 ⟨(some 110), none, .mov (.t 115)⟩
(.rd 6 ⟨(some 116), none, .extract 0 (.t 110)⟩
(.rd 7 ⟨(some 117), none, .extract 1 (.t 110)⟩
(.wr 9 ⟨none, none, .store 6 (.t 13) (.t 116)⟩ [8, 6, 4, 0, 1, 2, 3, 4, 5, 6, 8]
(.rd 10 ⟨(some 14), none, .mov (.t 117)⟩
.fin) .no)))) .no) .no))
(.wr 8 ⟨(some 13), none, .alloc (List.replicate 6 (.int .i64 0))⟩ []
(.wr 1 ⟨(some 112), none, .call 53 [(.t 111)]⟩ [0]
(.wr 4 ⟨(some 115), none, .call 55 [(.t 112), (.t 114)]⟩ [1, 3, 1]
(.rd 5 ⟨(some 110), none, .mov (.t 115)⟩
(.rd 6 ⟨(some 116), none, .extract 0 (.t 110)⟩
(.rd 7 ⟨(some 117), none, .extract 1 (.t 110)⟩
(.wr 9 ⟨none, none, .store 6 (.t 13) (.t 116)⟩ [8, 6, 4, 0, 1, 2, 3, 4, 5, 6, 8]
(.rd 10 ⟨(some 14), none, .mov (.t 117)⟩
.fin) .no)))) .no) .no) .no))))) (some [0, 4, 5, 8, 10, 11, 12, 13, 14]))
(.seq (.seq (.ops [⟨(some 118), none, .mov (.t 12)⟩,
⟨(some 119), none, .ibin .eql .i64 (.t 118) (.c (.int .i64 12))⟩,
⟨(some 120), none, .mov (.t 119)⟩,
⟨(some 121), (some (120, false)), .mov (.t 14)⟩,
⟨(some 122), (some (120, false)), .ibin .eql .i64 (.t 121) (.c (.int .i64 12))⟩,
⟨(some 123), none, .pick (.t 120) (.c (.bool true)) (.t 122)⟩] (some [0, 4, 5, 8, 10, 11, 12, 13, 14, 123]))
(.cond (.t 123)
(.seq (.ops [⟨(some 124), none, .mov (.t 12)⟩,
⟨(some 125), none, .mov (.t 14)⟩,
⟨(some 126), none, .ibin .eql .i64 (.t 124) (.t 125)⟩,
⟨(some 6), none, .mov (.t 126)⟩] (some [6]))
.ret)
.skip))
(.seq (.seq (.ops [⟨(some 127), none, .mov (.t 12)⟩,
⟨(some 128), none, .ibin .neq .i64 (.t 127) (.c (.int .i64 0))⟩,
⟨(some 129), none, .mov (.t 128)⟩,
⟨(some 130), (some (129, false)), .mov (.t 14)⟩,
⟨(some 131), (some (129, false)), .ibin .neq .i64 (.t 130) (.c (.int .i64 0))⟩,
⟨(some 132), none, .pick (.t 129) (.c (.bool true)) (.t 131)⟩] (some [0, 4, 5, 8, 10, 11, 12, 13, 14, 132]))
(.cond (.t 132)
(.seq (.ops [⟨(some 133), none, .mov (.t 12)⟩,
⟨(some 134), none, .ibin .eql .i64 (.t 133) (.c (.int .i64 0))⟩,
⟨(some 135), none, .mov (.t 134)⟩,
⟨(some 136), (some (135, false)), .mov (.t 12)⟩,
⟨(some 137), (some (135, false)), .ibin .eql .i64 (.t 136) (.c (.int .i64 8))⟩,
⟨(some 138), none, .pick (.t 135) (.c (.bool true)) (.t 137)⟩,
⟨(some 139), none, .mov (.t 138)⟩,
⟨(some 140), (some (139, true)), .mov (.t 14)⟩,
⟨(some 141), (some (139, true)), .ibin .eql .i64 (.t 140) (.c (.int .i64 0))⟩,
⟨(some 142), (some (139, true)), .mov (.t 141)⟩,
⟨(some 143), (some (142, false)), .mov (.t 14)⟩,
⟨(some 144), (some (142, false)), .ibin .eql .i64 (.t 143) (.c (.int .i64 8))⟩,
⟨(some 145), (some (139, true)), .pick (.t 142) (.c (.bool true)) (.t 144)⟩,
⟨(some 146), none, .pick (.t 139) (.t 145) (.c (.bool false))⟩,
⟨(some 6), none, .mov (.t 146)⟩] (some [6]))
.ret)
.skip))
(.seq (.draw (.rd 0 ⟨(some 148), none, .mov (.t 0)⟩
(.rd 2 ⟨(some 150), none, .load 6 true (.t 11)⟩
(.wr 1 ⟨(some 149), none, .call 53 [(.t 148)]⟩ [0]
(.wr 3 ⟨(some 151), none, .call 56 [(.t 149), (.t 150)]⟩ [1, 2, 1]
(.rd 4 ⟨(some 147), none, .mov (.t 151)⟩
(.rd 5 ⟨(some 152), none, .extract 0 (.t 147)⟩
(.rd 6 ⟨(some 153), none, .extract 1 (.t 147)⟩
(.rd 7 ⟨(some 15), none, .mov (.t 152)⟩
(.rd 8 ⟨(some 16), none, .mov (.t 153)⟩
.fin))))) .no) .no))) (some [0, 4, 5, 8, 10, 11, 13, 15, 16]))
(.seq (.draw (.rd 0 ⟨(some 155), none, .mov (.t 8)⟩
(.rd 2 ⟨(some 157), none, .load 6 true (.t 13)⟩
(.wr 1 ⟨(some 156), none, .call 53 [(.t 155)]⟩ [0]
(.wr 3 ⟨(some 158), none, .call 56 [(.t 156), (.t 157)]⟩ [1, 2, 1]
(.rd 4 ⟨(some 154), none, .mov (.t 158)⟩
(.rd 5 ⟨(some 159), none, .extract 0 (.t 154)⟩
(.rd 6 ⟨(some 160), none, .extract 1 (.t 154)⟩
(.rd 7 ⟨(some 17), none, .mov (.t 159)⟩
(.rd 8 ⟨(some 18), none, .mov (.t 160)⟩
.fin))))) .no) .no))) (some [0, 4, 5, 8, 10, 11, 13, 15, 16, 17, 18]))
(.seq (.draw (.rd 0 ⟨(some 162), none, .mov (.t 0)⟩
(.rd 2 ⟨(some 164), none, .load 6 true (.t 11)⟩
(.wr 1 ⟨(some 163), none, .call 53 [(.t 162)]⟩ [0]
(.wr 3 ⟨(some 165), none, .call 57 [(.t 163), (.t 164)]⟩ [1, 2, 1]
(.rd 4 ⟨(some 161), none, .mov (.t 165)⟩
(.rd 5 ⟨(some 166), none, .extract 0 (.t 161)⟩
(.rd 6 ⟨(some 167), none, .extract 1 (.t 161)⟩
(.rd 7 ⟨(some 19), none, .mov (.t 166)⟩
(.rd 8 ⟨(some 20), none, .mov (.t 167)⟩
.fin))))) .no) .no))) (some [0, 4, 5, 8, 10, 11, 13, 15, 16, 17, 18, 19, 20]))
(.seq (.draw (.rd 0 ⟨(some 169), none, .mov (.t 8)⟩
(.rd 2 ⟨(some 171), none, .load 6 true (.t 13)⟩
(.wr 1 ⟨(some 170), none, .call 53 [(.t 169)]⟩ [0]
(.wr 3 ⟨(some 172), none, .call 57 [(.t 170), (.t 171)]⟩ [1, 2, 1]
(.rd 4 ⟨(some 168), none, .mov (.t 172)⟩
(.rd 5 ⟨(some 173), none, .extract 0 (.t 168)⟩
(.rd 6 ⟨(some 174), none, .extract 1 (.t 168)⟩
(.rd 7 ⟨(some 21), none, .mov (.t 173)⟩
(.rd 8 ⟨(some 22), none, .mov (.t 174)⟩
.fin))))) .no) .no))) (some [0, 4, 5, 8, 10, 11, 13, 15, 16, 17, 18, 19, 20, 21, 22]))
(.seq (.seq (.ops [⟨(some 175), none, .mov (.t 16)⟩,
⟨(some 176), none, .ibin .neq .i64 (.t 175) (.c (.int .i64 0))⟩,
⟨(some 177), none, .mov (.t 176)⟩,
⟨(some 178), (some (177, false)), .mov (.t 18)⟩,
⟨(some 179), (some (177, false)), .ibin .neq .i64 (.t 178) (.c (.int .i64 0))⟩,
⟨(some 180), none, .pick (.t 177) (.c (.bool true)) (.t 179)⟩,
⟨(some 181), none, .mov (.t 180)⟩,
⟨(some 182), (some (181, false)), .mov (.t 15)⟩,
⟨(some 183), (some (181, false)), .mov (.t 17)⟩,
⟨(some 184), (some (181, false)), .call 58 [(.t 182), (.t 183)]⟩,
⟨(some 185), (some (181, false)), .un .not (.t 184)⟩,
⟨(some 186), none, .pick (.t 181) (.c (.bool true)) (.t 185)⟩,
⟨(some 187), none, .mov (.t 186)⟩,
⟨(some 188), (some (187, false)), .mov (.t 20)⟩,
⟨(some 189), (some (187, false)), .ibin .neq .i64 (.t 188) (.c (.int .i64 0))⟩,
⟨(some 190), none, .pick (.t 187) (.c (.bool true)) (.t 189)⟩,
⟨(some 191), none, .mov (.t 190)⟩,
⟨(some 192), (some (191, false)), .mov (.t 22)⟩,
⟨(some 193), (some (191, false)), .ibin .neq .i64 (.t 192) (.c (.int .i64 0))⟩,
⟨(some 194), none, .pick (.t 191) (.c (.bool true)) (.t 193)⟩,
⟨(some 195), none, .mov (.t 194)⟩,
⟨(some 196), (some (195, false)), .mov (.t 19)⟩,
⟨(some 197), (some (195, false)), .mov (.t 21)⟩,
⟨(some 198), (some (195, false)), .ibin .neq .i64 (.t 196) (.t 197)⟩,
⟨(some 199), none, .pick (.t 195) (.c (.bool true)) (.t 198)⟩] (some [0, 4, 5, 8, 10, 11, 13, 199]))
(.cond (.t 199)
(.seq (.ops [⟨(some 6), none, .mov (.c (.bool false))⟩] none)
.ret)
.skip))
(.seq (.ops [⟨(some 201), none, .mov (.t 0)⟩,
⟨(some 202), none, .load 6 true (.t 11)⟩,
⟨(some 203), none, .load 3 true (.t 4)⟩,
⟨(some 204), none, .call 59 [(.t 201), (.t 202), (.t 203)]⟩,
⟨(some 200), none, .mov (.t 204)⟩,
⟨(some 205), none, .extract 0 (.t 200)⟩,
⟨(some 206), none, .extract 1 (.t 200)⟩,
⟨(some 23), none, .alloc [(.int .i64 0), (.int .i64 0)]⟩,
⟨none, none, .store 2 (.t 23) (.t 205)⟩,
⟨(some 24), none, .mov (.t 206)⟩] (some [4, 5, 8, 10, 13, 23, 24]))
(.seq (.ops [⟨(some 208), none, .mov (.t 8)⟩,
⟨(some 209), none, .load 6 true (.t 13)⟩,
⟨(some 210), none, .load 3 true (.t 10)⟩,
⟨(some 211), none, .call 59 [(.t 208), (.t 209), (.t 210)]⟩,
⟨(some 207), none, .mov (.t 211)⟩,
⟨(some 212), none, .extract 0 (.t 207)⟩,
⟨(some 213), none, .extract 1 (.t 207)⟩,
⟨(some 25), none, .alloc [(.int .i64 0), (.int .i64 0)]⟩,
⟨none, none, .store 2 (.t 25) (.t 212)⟩,
⟨(some 26), none, .mov (.t 213)⟩] (some [4, 5, 10, 23, 24, 25, 26]))
(.seq (.seq (.draw (.rd 0 ⟨(some 214), none, .mov (.t 24)⟩
(.rd 1 ⟨(some 215), none, .ibin .neq .i64 (.t 214) (.c (.int .i64 0))⟩
(.rd 2 ⟨(some 216), none, .mov (.t 215)⟩
(.rd 3 ⟨(some 217), (some (216, false)), .mov (.t 26)⟩
(.rd 4 ⟨(some 218), (some (216, false)), .ibin .neq .i64 (.t 217) (.c (.int .i64 0))⟩
(.rd 5 ⟨(some 219), none, .pick (.t 216) (.c (.bool true)) (.t 218)⟩
(.rd 6 ⟨(some 220), none, .mov (.t 219)⟩
(.rd 7 ⟨(some 221), (some (220, false)), .faddr 0 (.t 23)⟩
(.rd 8 ⟨(some 222), (some (220, false)), .load 1 false (.t 221)⟩
(.wr 9 ⟨(some 223), (some (220, false)), .call 15 [(.t 222), (.c (.int .i64 (-1125899906842624))), (.c (.int .i64 1125899906842624))]⟩ [8, 6, 6]
(.rd 10 ⟨(some 224), (some (220, false)), .un .not (.t 223)⟩
(.rd 11 ⟨(some 225), none, .pick (.t 220) (.c (.bool true)) (.t 224)⟩
(.rd 12 ⟨(some 226), none, .mov (.t 225)⟩
(.rd 13 ⟨(some 227), (some (226, false)), .faddr 1 (.t 23)⟩
(.rd 14 ⟨(some 228), (some (226, false)), .load 1 false (.t 227)⟩
(.rd 15 ⟨(some 229), (some (226, false)), .faddr 0 (.t 23)⟩
(.rd 16 ⟨(some 230), (some (226, false)), .load 1 false (.t 229)⟩
(.wr 17 ⟨(some 231), (some (226, false)), .call 15 [(.t 228), (.t 230), (.c (.int .i64 1125899906842624))]⟩ [14, 16, 12, 12]
(.rd 18 ⟨(some 232), (some (226, false)), .un .not (.t 231)⟩
(.rd 19 ⟨(some 233), none, .pick (.t 226) (.c (.bool true)) (.t 232)⟩
(.rd 20 ⟨(some 234), none, .mov (.t 233)⟩
(.rd 21 ⟨(some 235), (some (234, false)), .load 2 true (.t 25)⟩
(.rd 22 ⟨(some 236), (some (234, false)), .faddr 0 (.t 23)⟩
(.rd 23 ⟨(some 237), (some (234, false)), .load 1 false (.t 236)⟩
(.rd 24 ⟨(some 238), (some (234, false)), .load 6 true (.t 5)⟩
(.rd 25 ⟨(some 239), (some (234, false)), .load 3 true (.t 4)⟩
(.rd 28 ⟨(some 242), (some (234, false)), .faddr 1 (.t 23)⟩
(.rd 29 ⟨(some 243), (some (234, false)), .load 1 false (.t 242)⟩
(.rd 30 ⟨(some 244), (some (234, false)), .load 6 true (.t 5)⟩
(.rd 31 ⟨(some 245), (some (234, false)), .load 3 true (.t 4)⟩
(.wr 26 ⟨(some 240), (some (234, false)), .call 54 [(.t 238), (.t 239)]⟩ [24, 25, 20, 20]
(.rd 27 ⟨(some 241), (some (234, false)), .ibin .add .i64 (.t 237) (.t 240)⟩
(.wr 32 ⟨(some 246), (some (234, false)), .call 54 [(.t 244), (.t 245)]⟩ [30, 31, 26, 20]
(.rd 33 ⟨(some 247), (some (234, false)), .ibin .add .i64 (.t 243) (.t 246)⟩
(.rd 34 ⟨(some 248), (some (234, false)), .build [(.int .i64 0), (.int .i64 0)] [(0, 1, (.t 241)), (1, 1, (.t 247))]⟩
(.rd 35 ⟨(some 249), (some (234, false)), .eqv (.fld 0 1 (.int .i64) (.fld 1 1 (.int .i64) .nil)) true (.t 235) (.t 248)⟩
(.rd 36 ⟨(some 250), none, .pick (.t 234) (.c (.bool true)) (.t 249)⟩
.fin)))) .no)) .no))))))))))))) .no)))))))) .no)))))))))) (some [4, 10, 23, 25, 250]))
(.cond (.t 250)
(.seq (.ops [⟨(some 6), none, .mov (.c (.bool false))⟩] none)
.ret)
.skip))
(.seq (.ops [⟨(some 252), none, .load 2 true (.t 23)⟩,
⟨(some 253), none, .faddr 2 (.t 4)⟩,
⟨(some 254), none, .load 1 false (.t 253)⟩,
⟨(some 255), none, .call 42 [(.t 252), (.t 254)]⟩,
⟨(some 251), none, .mov (.t 255)⟩,
⟨(some 256), none, .extract 0 (.t 251)⟩,
⟨(some 257), none, .extract 1 (.t 251)⟩,
⟨(some 27), none, .mov (.t 256)⟩,
⟨(some 28), none, .mov (.t 257)⟩] (some [10, 25, 27, 28]))
(.seq (.ops [⟨(some 259), none, .load 2 true (.t 25)⟩,
⟨(some 260), none, .faddr 2 (.t 10)⟩,
⟨(some 261), none, .load 1 false (.t 260)⟩,
⟨(some 262), none, .call 42 [(.t 259), (.t 261)]⟩,
⟨(some 258), none, .mov (.t 262)⟩,
⟨(some 263), none, .extract 0 (.t 258)⟩,
⟨(some 264), none, .extract 1 (.t 258)⟩,
⟨(some 29), none, .mov (.t 263)⟩,
⟨(some 30), none, .mov (.t 264)⟩] (some [27, 28, 29, 30]))
(.seq (.ops [⟨(some 265), none, .mov (.t 28)⟩,
⟨(some 266), none, .ibin .neq .i64 (.t 265) (.c (.int .i64 0))⟩,
⟨(some 267), none, .mov (.t 266)⟩,
⟨(some 268), (some (267, false)), .mov (.t 30)⟩,
⟨(some 269), (some (267, false)), .ibin .neq .i64 (.t 268) (.c (.int .i64 0))⟩,
⟨(some 270), none, .pick (.t 267) (.c (.bool true)) (.t 269)⟩,
⟨(some 271), none, .mov (.t 270)⟩,
⟨(some 272), (some (271, false)), .mov (.t 27)⟩,
⟨(some 273), (some (271, false)), .mov (.t 29)⟩,
⟨(some 274), (some (271, false)), .ibin .eql .i64 (.t 272) (.t 273)⟩,
⟨(some 275), none, .pick (.t 271) (.c (.bool true)) (.t 274)⟩,
⟨(some 6), none, .mov (.t 275)⟩] (some [6]))
.ret))))))))))))))))))))))))⟩
/-- guidevane/guidevanebase.Within -/
def ir15 : IFn := ⟨15, [.t 6],
(.seq (.ops [⟨(some 6), none, .mov (.c (.bool false))⟩] (some [0, 1, 2]))
(.seq (.ops [⟨(some 7), none, .mov (.t 1)⟩,
⟨(some 8), none, .mov (.t 0)⟩,
⟨(some 9), none, .ibin .leq .i64 (.t 7) (.t 8)⟩,
⟨(some 10), none, .mov (.t 9)⟩,
⟨(some 11), (some (10, true)), .mov (.t 0)⟩,
⟨(some 12), (some (10, true)), .mov (.t 2)⟩,
⟨(some 13), (some (10, true)), .ibin .leq .i64 (.t 11) (.t 12)⟩,
⟨(some 14), none, .pick (.t 10) (.t 13) (.c (.bool false))⟩,
⟨(some 6), none, .mov (.t 14)⟩] (some [6]))
.ret))⟩
/-- guidevane/guidevaneref09.ReadingErr -/
def ir32 : IFn := ⟨19, [.t 2],
(.seq (.ops [⟨(some 1), none, .box (.t 0)⟩,
⟨(some 2), none, .mov (.c (.int .i64 0))⟩] (some [1]))
(.seq (.seq (.ops [⟨(some 3), none, .faddr 0 (.t 1)⟩,
⟨(some 4), none, .load 1 false (.t 3)⟩,
⟨(some 5), none, .call 15 [(.t 4), (.c (.int .i64 0)), (.c (.int .i64 36000))]⟩,
⟨(some 6), none, .un .not (.t 5)⟩,
⟨(some 7), none, .mov (.t 6)⟩,
⟨(some 8), (some (7, false)), .faddr 1 (.t 1)⟩,
⟨(some 9), (some (7, false)), .load 1 false (.t 8)⟩,
⟨(some 10), (some (7, false)), .call 15 [(.t 9), (.c (.int .i64 (-50))), (.c (.int .i64 50))]⟩,
⟨(some 11), (some (7, false)), .un .not (.t 10)⟩,
⟨(some 12), none, .pick (.t 7) (.c (.bool true)) (.t 11)⟩,
⟨(some 13), none, .mov (.t 12)⟩,
⟨(some 14), (some (13, false)), .faddr 2 (.t 1)⟩,
⟨(some 15), (some (13, false)), .load 1 false (.t 14)⟩,
⟨(some 16), (some (13, false)), .call 15 [(.t 15), (.c (.int .i64 (-2000))), (.c (.int .i64 2000))]⟩,
⟨(some 17), (some (13, false)), .un .not (.t 16)⟩,
⟨(some 18), none, .pick (.t 13) (.c (.bool true)) (.t 17)⟩] (some [18]))
(.cond (.t 18)
(.seq (.ops [⟨(some 2), none, .mov (.c (.int .i64 2))⟩] none)
.ret)
.skip))
(.seq (.ops [⟨(some 2), none, .mov (.c (.int .i64 0))⟩] none)
.ret)))⟩
/-- guidevane/dam.CheckReading -/
def ir33 : IFn := ⟨17, [.t 2],
(.seq (.ops [⟨(some 1), none, .box (.t 0)⟩,
⟨(some 2), none, .mov (.c (.int .i64 0))⟩] (some [1]))
(.seq (.ops [⟨(some 3), none, .faddr 0 (.t 1)⟩,
⟨(some 4), none, .load 1 false (.t 3)⟩,
⟨(some 5), none, .call 65 [(.t 4), (.c (.int .i64 0)), (.c (.int .i64 36000))]⟩,
⟨(some 6), none, .mov (.t 5)⟩,
⟨(some 7), (some (6, true)), .faddr 1 (.t 1)⟩,
⟨(some 8), (some (6, true)), .load 1 false (.t 7)⟩,
⟨(some 9), (some (6, true)), .call 78 [(.t 8), (.c (.int .i64 50))]⟩,
⟨(some 10), none, .pick (.t 6) (.t 9) (.c (.bool false))⟩,
⟨(some 11), none, .mov (.t 10)⟩,
⟨(some 12), (some (11, true)), .faddr 2 (.t 1)⟩,
⟨(some 13), (some (11, true)), .load 1 false (.t 12)⟩,
⟨(some 14), (some (11, true)), .call 78 [(.t 13), (.c (.int .i64 2000))]⟩,
⟨(some 15), none, .pick (.t 11) (.t 14) (.c (.bool false))⟩,
⟨(some 16), none, .call 64 [(.t 15), (.c (.int .i64 2))]⟩,
⟨(some 2), none, .mov (.t 16)⟩] (some [2]))
.ret))⟩
/-- guidevane/guidevaneref09.Terms -/
def ir34 : IFn := ⟨22, [.cell 2 5 true],
(.seq (.ops [⟨(some 1), none, .box (.t 0)⟩,
⟨(some 2), none, .alloc (List.replicate 5 (.int .i64 0))⟩] (some [1, 2]))
(.seq (.ops [⟨(some 4), none, .faddr 0 (.t 1)⟩,
⟨(some 5), none, .load 1 false (.t 4)⟩,
⟨(some 6), none, .ibin .rem .i64 (.t 5) (.c (.int .i64 360))⟩,
⟨(some 7), none, .ibin .quo .i64 (.t 6) (.c (.int .i64 90))⟩,
⟨(some 3), none, .mov (.t 7)⟩] (some [1, 2, 3]))
(.seq (.draw (.rd 0 ⟨(some 8), none, .faddr 1 (.t 1)⟩
(.rd 1 ⟨(some 9), none, .load 1 false (.t 8)⟩
(.rd 3 ⟨(some 11), none, .mov (.t 3)⟩
(.rd 7 ⟨(some 15), none, .mov (.t 3)⟩
(.rd 10 ⟨(some 18), none, .faddr 0 (.t 1)⟩
(.rd 11 ⟨(some 19), none, .load 1 false (.t 18)⟩
(.rd 12 ⟨(some 20), none, .ibin .quo .i64 (.t 19) (.c (.int .i64 360))⟩
(.wr 2 ⟨(some 10), none, .bslice 4 1 [(.int .i64 0)] [(0, 1, (.c (.int .i64 1))), (1, 1, (.c (.int .i64 0))), (2, 1, (.c (.int .i64 (-1)))), (3, 1, (.c (.int .i64 0)))]⟩ []
(.rd 4 ⟨(some 12), none, .iaddr 1 (.t 10) (.t 11)⟩
(.rd 5 ⟨(some 13), none, .load 1 false (.t 12)⟩
(.wr 6 ⟨(some 14), none, .bslice 4 1 [(.int .i64 0)] [(0, 1, (.c (.int .i64 0))), (1, 1, (.c (.int .i64 1))), (2, 1, (.c (.int .i64 0))), (3, 1, (.c (.int .i64 (-1))))]⟩ []
(.rd 8 ⟨(some 16), none, .iaddr 1 (.t 14) (.t 15)⟩
(.rd 9 ⟨(some 17), none, .load 1 false (.t 16)⟩
(.rd 13 ⟨(some 21), none, .build (List.replicate 5 (.int .i64 0)) [(0, 1, (.c (.int .i64 1))), (1, 1, (.t 9)), (2, 1, (.t 13)), (3, 1, (.t 17)), (4, 1, (.t 20))]⟩
(.wr 14 ⟨none, none, .store 5 (.t 2) (.t 21)⟩ [13, 0, 1, 2, 3, 4, 5, 6, 7, 8, 9, 10, 11, 12, 13]
.fin .no)))) .no)))
(.wr 6 ⟨(some 14), none, .bslice 4 1 [(.int .i64 0)] [(0, 1, (.c (.int .i64 0))), (1, 1, (.c (.int .i64 1))), (2, 1, (.c (.int .i64 0))), (3, 1, (.c (.int .i64 (-1))))]⟩ []
(.rd 8 ⟨(some 16), none, .iaddr 1 (.t 14) (.t 15)⟩
(.rd 9 ⟨(some 17), none, .load 1 false (.t 16)⟩
(.wr 2 ⟨(some 10), none, .bslice 4 1 [(.int .i64 0)] [(0, 1, (.c (.int .i64 1))), (1, 1, (.c (.int .i64 0))), (2, 1, (.c (.int .i64 (-1)))), (3, 1, (.c (.int .i64 0)))]⟩ []
(.rd 4 ⟨(some 12), none, .iaddr 1 (.t 10) (.t 11)⟩
(.rd 5 ⟨(some 13), none, .load 1 false (.t 12)⟩
(.rd 13 ⟨(some 21), none, .build (List.replicate 5 (.int .i64 0)) [(0, 1, (.c (.int .i64 1))), (1, 1, (.t 9)), (2, 1, (.t 13)), (3, 1, (.t 17)), (4, 1, (.t 20))]⟩
(.wr 14 ⟨none, none, .store 5 (.t 2) (.t 21)⟩ [13, 0, 1, 2, 3, 4, 5, 6, 7, 8, 9, 10, 11, 12, 13]
.fin .no)))) .no))) .no))))))))) (some [2]))
.ret)))⟩
/-- guidevane/dam.WatchOf -/
def ir36 : IFn := ⟨45, [.cell 4 3 true, .t 5],
(.seq (.ops [⟨(some 2), none, .box (.t 0)⟩,
⟨(some 4), none, .alloc [(.int .i64 0), (.int .i64 0), (.int .i64 0)]⟩,
⟨(some 5), none, .mov (.c (.int .i64 0))⟩] (some [1, 2, 4]))
(.seq (.ops [⟨(some 13), none, .load 4 true (.t 2)⟩,
⟨(some 14), none, .call 79 [(.t 13)]⟩,
⟨(some 12), none, .mov (.t 14)⟩,
⟨(some 15), none, .extract 0 (.t 12)⟩,
⟨(some 16), none, .extract 1 (.t 12)⟩,
⟨(some 6), none, .alloc [(.slice none 0 0), (.slice none 0 0), (.int .i64 0), (.slice none 0 0)]⟩,
⟨none, none, .store 4 (.t 6) (.t 15)⟩,
⟨(some 7), none, .mov (.t 16)⟩] (some [1, 4, 6, 7]))
(.seq (.ops [⟨(some 17), none, .mov (.t 1)⟩,
⟨(some 18), none, .call 80 [(.t 17), (.f 81)]⟩,
⟨(some 8), none, .mov (.t 18)⟩] (some [1, 4, 6, 7, 8]))
(.seq (.seq (.ops [⟨(some 19), none, .mov (.t 7)⟩,
⟨(some 20), none, .mov (.t 1)⟩,
⟨(some 21), none, .lenV (.t 20)⟩,
⟨(some 22), none, .ibin .leq .i64 (.t 21) (.c (.int .i64 100))⟩,
⟨(some 23), none, .call 64 [(.t 22), (.c (.int .i64 8))]⟩,
⟨(some 24), none, .mov (.t 8)⟩,
⟨(some 25), none, .un .not (.t 24)⟩,
⟨(some 26), none, .call 64 [(.t 25), (.c (.int .i64 2))]⟩,
⟨(some 27), none, .bslice 3 1 [(.int .i64 0)] [(0, 1, (.t 19)), (1, 1, (.t 23)), (2, 1, (.t 26))]⟩,
⟨(some 28), none, .call 63 [(.t 27)]⟩,
⟨(some 7), none, .mov (.t 28)⟩] (some [1, 4, 6, 7]))
(.seq (.ops [⟨(some 29), none, .mov (.t 7)⟩,
⟨(some 30), none, .ibin .neq .i64 (.t 29) (.c (.int .i64 0))⟩] (some [1, 4, 6, 7, 30]))
(.cond (.t 30)
(.seq (.ops [⟨(some 31), none, .build [(.int .i64 0), (.int .i64 0), (.int .i64 0)] []⟩,
⟨(some 32), none, .mov (.t 7)⟩,
⟨none, none, .store 3 (.t 4) (.t 31)⟩,
⟨(some 5), none, .mov (.t 32)⟩] (some [4, 5]))
.ret)
.skip)))
(.seq (.ops [⟨(some 9), none, .alloc [(.int .i64 0), (.int .i64 0), (.int .i64 0)]⟩] none)
(.seq (.seq (.ops [⟨(some 33), none, .mov (.t 1)⟩,
⟨(some 34), none, .lenV (.t 33)⟩,
⟨(some 35), none, .mov (.c (.int .i64 0))⟩] (some [4, 6, 9, 33, 34, 35]))
(.block 0 (.loop (.seq (.ops [⟨(some 36), none, .ibin .lss .i64 (.t 35) (.t 34)⟩] none)
(.seq (.cond (.t 36)
.skip
(.exit 0))
(.seq (.block 1 (.seq (.ops [⟨(some 37), none, .iaddr 1 (.t 33) (.t 35)⟩,
⟨(some 38), none, .load 1 false (.t 37)⟩,
⟨(some 11), none, .mov (.t 38)⟩] (some [4, 6, 9, 11, 33, 34, 35]))
(.ops [⟨(some 39), none, .load 4 true (.t 6)⟩,
⟨(some 40), none, .load 3 true (.t 9)⟩,
⟨(some 41), none, .mov (.t 11)⟩,
⟨(some 42), none, .call 83 [(.t 39), (.t 40), (.t 41)]⟩,
⟨none, none, .store 3 (.t 9) (.t 42)⟩] (some [4, 6, 9, 33, 34, 35]))))
(.ops [⟨(some 43), none, .ibin .add .i64 (.t 35) (.c (.int .i64 1))⟩,
⟨(some 35), none, .mov (.t 43)⟩] (some [4, 6, 9, 33, 34, 35]))))))))
(.seq (.ops [⟨(some 44), none, .load 3 true (.t 9)⟩,
⟨none, none, .store 3 (.t 4) (.t 44)⟩,
⟨(some 5), none, .mov (.c (.int .i64 0))⟩] (some [4, 5]))
.ret)))))))⟩
/-- guidevane/dam.DeviationOf -/
def ir42 : IFn := ⟨42, [.t 4, .t 5],
(.seq (.ops [⟨(some 2), none, .box (.t 0)⟩,
⟨(some 4), none, .mov (.c (.int .i64 0))⟩,
⟨(some 5), none, .mov (.c (.int .i64 0))⟩] (some [1, 2]))
(.seq (.ops [⟨(some 8), none, .faddr 0 (.t 2)⟩,
⟨(some 9), none, .load 1 false (.t 8)⟩,
⟨(some 10), none, .call 84 [(.t 9)]⟩,
⟨(some 11), none, .mov (.t 10)⟩,
⟨(some 12), (some (11, true)), .faddr 1 (.t 2)⟩,
⟨(some 13), (some (11, true)), .load 1 false (.t 12)⟩,
⟨(some 14), (some (11, true)), .call 84 [(.t 13)]⟩,
⟨(some 15), none, .pick (.t 11) (.t 14) (.c (.bool false))⟩,
⟨(some 16), none, .mov (.t 15)⟩,
⟨(some 17), (some (16, true)), .mov (.t 1)⟩,
⟨(some 18), (some (16, true)), .call 84 [(.t 17)]⟩,
⟨(some 19), none, .pick (.t 16) (.t 18) (.c (.bool false))⟩,
⟨(some 6), none, .mov (.t 19)⟩] (some [1, 2, 6]))
(.seq (.seq (.draw (.rd 0 ⟨(some 20), none, .mov (.t 6)⟩
(.rd 2 ⟨(some 22), none, .faddr 0 (.t 2)⟩
(.rd 3 ⟨(some 23), none, .load 1 false (.t 22)⟩
(.rd 4 ⟨(some 24), none, .faddr 1 (.t 2)⟩
(.rd 5 ⟨(some 25), none, .load 1 false (.t 24)⟩
(.rd 6 ⟨(some 26), none, .ibin .leq .i64 (.t 23) (.t 25)⟩
(.wr 1 ⟨(some 21), none, .call 64 [(.t 20), (.c (.int .i64 2))]⟩ [0]
(.wr 7 ⟨(some 27), none, .call 64 [(.t 26), (.c (.int .i64 9))]⟩ [6, 1]
(.wr 8 ⟨(some 28), none, .bslice 2 1 [(.int .i64 0)] [(0, 1, (.t 21)), (1, 1, (.t 27))]⟩ [1, 7]
(.wr 9 ⟨(some 29), none, .call 63 [(.t 28)]⟩ [8, 7]
(.rd 10 ⟨(some 7), none, .mov (.t 29)⟩
.fin) .no) .no) .no) .no))))))) (some [1, 2, 7]))
(.seq (.ops [⟨(some 30), none, .mov (.t 7)⟩,
⟨(some 31), none, .ibin .neq .i64 (.t 30) (.c (.int .i64 0))⟩] (some [1, 2, 7, 31]))
(.cond (.t 31)
(.seq (.ops [⟨(some 32), none, .mov (.t 7)⟩,
⟨(some 4), none, .mov (.c (.int .i64 0))⟩,
⟨(some 5), none, .mov (.t 32)⟩] (some [4, 5]))
.ret)
.skip)))
(.seq (.ops [⟨(some 33), none, .faddr 0 (.t 2)⟩,
⟨(some 34), none, .load 1 false (.t 33)⟩,
⟨(some 35), none, .mov (.t 1)⟩,
⟨(some 36), none, .ibin .sub .i64 (.t 34) (.t 35)⟩,
⟨(some 37), none, .mov (.t 1)⟩,
⟨(some 38), none, .faddr 1 (.t 2)⟩,
⟨(some 39), none, .load 1 false (.t 38)⟩,
⟨(some 40), none, .ibin .sub .i64 (.t 37) (.t 39)⟩,
⟨(some 41), none, .minmax true (.c (.int .i64 0)) [(.t 36), (.t 40)]⟩,
⟨(some 4), none, .mov (.t 41)⟩,
⟨(some 5), none, .mov (.c (.int .i64 0))⟩] (some [4, 5]))
.ret))))⟩
/-- guidevane/dam.CheckRules -/
def ir43 : IFn := ⟨142, [.t 2, .t 3],
(.seq (.ops [⟨(some 1), none, .box (.t 0)⟩,
⟨(some 2), none, .mov (.c (.int .i64 0))⟩,
⟨(some 3), none, .mov (.c (.int .i64 0))⟩] (some [1]))
(.seq (.ops [⟨(some 17), none, .faddr 0 (.t 1)⟩,
⟨(some 18), none, .load 1 false (.t 17)⟩,
⟨(some 19), none, .lenV (.t 18)⟩,
⟨(some 4), none, .mov (.t 19)⟩] (some [1, 4]))
(.seq (.seq (.ops [⟨(some 20), none, .mov (.t 4)⟩,
⟨(some 21), none, .ibin .gtr .i64 (.t 20) (.c (.int .i64 0))⟩,
⟨(some 22), none, .mov (.t 21)⟩,
⟨(some 23), (some (22, true)), .faddr 1 (.t 1)⟩,
⟨(some 24), (some (22, true)), .load 1 false (.t 23)⟩,
⟨(some 25), (some (22, true)), .lenV (.t 24)⟩,
⟨(some 26), (some (22, true)), .mov (.t 4)⟩,
⟨(some 27), (some (22, true)), .ibin .eql .i64 (.t 25) (.t 26)⟩,
⟨(some 28), none, .pick (.t 22) (.t 27) (.c (.bool false))⟩,
⟨(some 29), none, .call 64 [(.t 28), (.c (.int .i64 10))]⟩,
⟨(some 30), none, .mov (.t 4)⟩,
⟨(some 31), none, .ibin .leq .i64 (.t 30) (.c (.int .i64 5))⟩,
⟨(some 32), none, .call 64 [(.t 31), (.c (.int .i64 8))]⟩,
⟨(some 33), none, .bslice 2 1 [(.int .i64 0)] [(0, 1, (.t 29)), (1, 1, (.t 32))]⟩,
⟨(some 34), none, .call 63 [(.t 33)]⟩,
⟨(some 5), none, .mov (.t 34)⟩] (some [1, 4, 5]))
(.seq (.ops [⟨(some 35), none, .mov (.t 5)⟩,
⟨(some 36), none, .ibin .neq .i64 (.t 35) (.c (.int .i64 0))⟩] (some [1, 4, 5, 36]))
(.cond (.t 36)
(.seq (.ops [⟨(some 37), none, .mov (.t 5)⟩,
⟨(some 2), none, .mov (.c (.int .i64 0))⟩,
⟨(some 3), none, .mov (.t 37)⟩] (some [2, 3]))
.ret)
.skip)))
(.seq (.ops [⟨(some 6), none, .mov (.f 85)⟩] none)
(.seq (.seq (.ops [⟨(some 38), none, .faddr 0 (.t 1)⟩,
⟨(some 39), none, .load 1 false (.t 38)⟩,
⟨(some 40), none, .lenV (.t 39)⟩,
⟨(some 41), none, .mov (.c (.int .i64 0))⟩] (some [1, 4, 6, 39, 40, 41]))
(.block 0 (.loop (.seq (.ops [⟨(some 42), none, .ibin .lss .i64 (.t 41) (.t 40)⟩] none)
(.seq (.cond (.t 42)
.skip
(.exit 0))
(.seq (.block 1 (.seq (.ops [⟨(some 43), none, .mov (.t 41)⟩,
⟨(some 44), none, .iaddr 1 (.t 39) (.t 41)⟩,
⟨(some 45), none, .load 1 false (.t 44)⟩,
⟨(some 7), none, .mov (.t 43)⟩,
⟨(some 8), none, .mov (.t 45)⟩] (some [1, 4, 6, 7, 8, 39, 40, 41]))
(.seq (.ops [⟨(some 46), none, .faddr 1 (.t 1)⟩,
⟨(some 47), none, .load 1 false (.t 46)⟩,
⟨(some 48), none, .mov (.t 7)⟩,
⟨(some 49), none, .iaddr 1 (.t 47) (.t 48)⟩,
⟨(some 50), none, .load 1 false (.t 49)⟩,
⟨(some 51), none, .mov (.t 7)⟩,
⟨(some 52), none, .ibin .sub .i64 (.t 51) (.c (.int .i64 1))⟩,
⟨(some 53), none, .minmax true (.c (.int .i64 0)) [(.t 52)]⟩,
⟨(some 9), none, .mov (.t 50)⟩,
⟨(some 10), none, .mov (.t 53)⟩] (some [1, 4, 6, 7, 8, 9, 10, 39, 40, 41]))
(.seq (.ops [⟨(some 54), none, .mov (.t 6)⟩,
⟨(some 55), none, .mov (.t 8)⟩,
⟨(some 56), none, .callv (.t 54) [(.t 55)]⟩,
⟨(some 57), none, .mov (.t 56)⟩,
⟨(some 58), (some (57, true)), .mov (.t 6)⟩,
⟨(some 59), (some (57, true)), .mov (.t 9)⟩,
⟨(some 60), (some (57, true)), .callv (.t 58) [(.t 59)]⟩,
⟨(some 61), none, .pick (.t 57) (.t 60) (.c (.bool false))⟩,
⟨(some 62), none, .call 64 [(.t 61), (.c (.int .i64 2))]⟩,
⟨(some 63), none, .mov (.t 9)⟩,
⟨(some 64), none, .mov (.t 8)⟩,
⟨(some 65), none, .ibin .leq .i64 (.t 63) (.t 64)⟩,
⟨(some 66), none, .call 64 [(.t 65), (.c (.int .i64 3))]⟩,
⟨(some 67), none, .mov (.t 7)⟩,
⟨(some 68), none, .ibin .eql .i64 (.t 67) (.c (.int .i64 0))⟩,
⟨(some 69), none, .mov (.t 68)⟩,
⟨(some 70), (some (69, false)), .mov (.t 8)⟩,
⟨(some 71), (some (69, false)), .faddr 0 (.t 1)⟩,
⟨(some 72), (some (69, false)), .load 1 false (.t 71)⟩,
⟨(some 73), (some (69, false)), .mov (.t 10)⟩,
⟨(some 74), (some (69, false)), .iaddr 1 (.t 72) (.t 73)⟩,
⟨(some 75), (some (69, false)), .load 1 false (.t 74)⟩,
⟨(some 76), (some (69, false)), .ibin .gtr .i64 (.t 70) (.t 75)⟩,
⟨(some 77), (some (69, false)), .mov (.t 76)⟩,
⟨(some 78), (some (77, true)), .mov (.t 9)⟩,
⟨(some 79), (some (77, true)), .faddr 1 (.t 1)⟩,
⟨(some 80), (some (77, true)), .load 1 false (.t 79)⟩,
⟨(some 81), (some (77, true)), .mov (.t 10)⟩,
⟨(some 82), (some (77, true)), .iaddr 1 (.t 80) (.t 81)⟩,
⟨(some 83), (some (77, true)), .load 1 false (.t 82)⟩,
⟨(some 84), (some (77, true)), .ibin .geq .i64 (.t 78) (.t 83)⟩,
⟨(some 85), (some (69, false)), .pick (.t 77) (.t 84) (.c (.bool false))⟩,
⟨(some 86), none, .pick (.t 69) (.c (.bool true)) (.t 85)⟩,
⟨(some 87), none, .call 64 [(.t 86), (.c (.int .i64 9))]⟩,
⟨(some 88), none, .bslice 3 1 [(.int .i64 0)] [(0, 1, (.t 62)), (1, 1, (.t 66)), (2, 1, (.t 87))]⟩,
⟨(some 89), none, .call 63 [(.t 88)]⟩,
⟨(some 11), none, .mov (.t 89)⟩] (some [1, 4, 6, 7, 11, 39, 40, 41]))
(.seq (.ops [⟨(some 90), none, .mov (.t 11)⟩,
⟨(some 91), none, .ibin .neq .i64 (.t 90) (.c (.int .i64 0))⟩] (some [1, 4, 6, 7, 11, 39, 40, 41, 91]))
(.cond (.t 91)
(.seq (.ops [⟨(some 92), none, .mov (.t 7)⟩,
⟨(some 93), none, .mov (.t 11)⟩,
⟨(some 2), none, .mov (.t 92)⟩,
⟨(some 3), none, .mov (.t 93)⟩] (some [2, 3]))
.ret)
.skip))))))
(.ops [⟨(some 94), none, .ibin .add .i64 (.t 41) (.c (.int .i64 1))⟩,
⟨(some 41), none, .mov (.t 94)⟩] (some [1, 4, 6, 39, 40, 41]))))))))
(.seq (.seq (.draw (.rd 0 ⟨(some 95), none, .faddr 2 (.t 1)⟩
(.rd 1 ⟨(some 96), none, .load 1 false (.t 95)⟩
(.rd 4 ⟨(some 99), none, .faddr 3 (.t 1)⟩
(.rd 5 ⟨(some 100), none, .load 1 false (.t 99)⟩
(.rd 6 ⟨(some 101), none, .lenV (.t 100)⟩
(.rd 7 ⟨(some 102), none, .ibin .leq .i64 (.t 101) (.c (.int .i64 10))⟩
(.wr 2 ⟨(some 97), none, .call 65 [(.t 96), (.c (.int .i64 0)), (.c (.int .i64 1000000))]⟩ [1]
(.wr 3 ⟨(some 98), none, .call 64 [(.t 97), (.c (.int .i64 2))]⟩ [2, 2]
(.wr 8 ⟨(some 103), none, .call 64 [(.t 102), (.c (.int .i64 8))]⟩ [7, 3]
(.wr 9 ⟨(some 104), none, .bslice 2 1 [(.int .i64 0)] [(0, 1, (.t 98)), (1, 1, (.t 103))]⟩ [3, 8]
(.wr 10 ⟨(some 105), none, .call 63 [(.t 104)]⟩ [9, 8]
(.rd 11 ⟨(some 12), none, .mov (.t 105)⟩
.fin) .no) .no) .no) .no) .no))))))) (some [1, 4, 12]))
(.seq (.ops [⟨(some 106), none, .mov (.t 12)⟩,
⟨(some 107), none, .ibin .neq .i64 (.t 106) (.c (.int .i64 0))⟩] (some [1, 4, 12, 107]))
(.cond (.t 107)
(.seq (.ops [⟨(some 108), none, .mov (.t 12)⟩,
⟨(some 2), none, .mov (.c (.int .i64 0))⟩,
⟨(some 3), none, .mov (.t 108)⟩] (some [2, 3]))
.ret)
.skip)))
(.seq (.seq (.ops [⟨(some 109), none, .faddr 3 (.t 1)⟩,
⟨(some 110), none, .load 1 false (.t 109)⟩,
⟨(some 111), none, .lenV (.t 110)⟩,
⟨(some 112), none, .mov (.c (.int .i64 0))⟩] (some [1, 4, 110, 111, 112]))
(.block 2 (.loop (.seq (.ops [⟨(some 113), none, .ibin .lss .i64 (.t 112) (.t 111)⟩] none)
(.seq (.cond (.t 113)
.skip
(.exit 2))
(.seq (.block 3 (.seq (.ops [⟨(some 114), none, .mov (.t 112)⟩,
⟨(some 115), none, .iaddr 2 (.t 110) (.t 112)⟩,
⟨(some 116), none, .load 2 true (.t 115)⟩,
⟨(some 14), none, .alloc [(.string ⟨#[]⟩), (.int .i64 0)]⟩,
⟨(some 13), none, .mov (.t 114)⟩,
⟨none, none, .store 2 (.t 14) (.t 116)⟩] (some [1, 4, 13, 14, 110, 111, 112]))
(.seq (.ops [⟨(some 117), none, .faddr 3 (.t 1)⟩,
⟨(some 118), none, .load 1 false (.t 117)⟩,
⟨(some 119), none, .mov (.t 13)⟩,
⟨(some 120), none, .sliceV 2 (.t 118) none (some (.t 119)) none⟩,
⟨(some 121), none, .mkfunc 87 [] [(.t 14)]⟩,
⟨(some 122), none, .call 86 [(.t 120), (.t 121)]⟩,
⟨(some 15), none, .mov (.t 122)⟩] (some [1, 4, 13, 14, 15, 110, 111, 112]))
(.seq (.draw (.rd 0 ⟨(some 123), none, .faddr 0 (.t 14)⟩
(.rd 1 ⟨(some 124), none, .load 1 false (.t 123)⟩
(.rd 4 ⟨(some 127), none, .mov (.t 15)⟩
(.rd 5 ⟨(some 128), none, .un .not (.t 127)⟩
(.rd 7 ⟨(some 130), none, .faddr 1 (.t 14)⟩
(.rd 8 ⟨(some 131), none, .load 1 false (.t 130)⟩
(.rd 9 ⟨(some 132), none, .mov (.t 4)⟩
(.wr 2 ⟨(some 125), none, .call 88 [(.t 124)]⟩ [1]
(.wr 3 ⟨(some 126), none, .call 64 [(.t 125), (.c (.int .i64 4))]⟩ [2, 2]
(.wr 6 ⟨(some 129), none, .call 64 [(.t 128), (.c (.int .i64 5))]⟩ [5, 3]
(.wr 10 ⟨(some 133), none, .call 65 [(.t 131), (.c (.int .i64 1)), (.t 132)]⟩ [8, 9, 6]
(.wr 11 ⟨(some 134), none, .call 64 [(.t 133), (.c (.int .i64 2))]⟩ [10, 10]
(.wr 12 ⟨(some 135), none, .bslice 3 1 [(.int .i64 0)] [(0, 1, (.t 126)), (1, 1, (.t 129)), (2, 1, (.t 134))]⟩ [3, 6, 11]
(.wr 13 ⟨(some 136), none, .call 63 [(.t 135)]⟩ [12, 11]
(.rd 14 ⟨(some 16), none, .mov (.t 136)⟩
.fin) .no) .no) .no) .no) .no) .no) .no)))))))) (some [1, 4, 13, 16, 110, 111, 112]))
(.seq (.ops [⟨(some 137), none, .mov (.t 16)⟩,
⟨(some 138), none, .ibin .neq .i64 (.t 137) (.c (.int .i64 0))⟩] (some [1, 4, 13, 16, 110, 111, 112, 138]))
(.cond (.t 138)
(.seq (.ops [⟨(some 139), none, .mov (.t 13)⟩,
⟨(some 140), none, .mov (.t 16)⟩,
⟨(some 2), none, .mov (.t 139)⟩,
⟨(some 3), none, .mov (.t 140)⟩] (some [2, 3]))
.ret)
.skip))))))
(.ops [⟨(some 141), none, .ibin .add .i64 (.t 112) (.c (.int .i64 1))⟩,
⟨(some 112), none, .mov (.t 141)⟩] (some [1, 4, 110, 111, 112]))))))))
(.seq (.ops [⟨(some 2), none, .mov (.c (.int .i64 0))⟩,
⟨(some 3), none, .mov (.c (.int .i64 0))⟩] none)
.ret))))))))⟩
/-- guidevane/guidevanetop.damAwake -/
def ir50 : IFn := ⟨33, [.t 0],
(.seq (.ops [⟨(some 0), none, .mov (.c (.bool false))⟩] (some []))
(.seq (.ops [⟨(some 6), none, .call 60 []⟩,
⟨(some 7), none, .call 55 [(.t 6), (.c (.int .i64 3))]⟩,
⟨(some 5), none, .mov (.t 7)⟩,
⟨(some 8), none, .extract 0 (.t 5)⟩,
⟨(some 9), none, .extract 1 (.t 5)⟩,
⟨(some 1), none, .alloc (List.replicate 6 (.int .i64 0))⟩,
⟨none, none, .store 6 (.t 1) (.t 8)⟩,
⟨(some 2), none, .mov (.t 9)⟩] (some [1, 2]))
(.seq (.ops [⟨(some 11), none, .call 61 []⟩,
⟨(some 12), none, .bslice 3 1 [(.int .i64 0)] [(0, 1, (.c (.int .i64 60))), (1, 1, (.c (.int .i64 20))), (2, 1, (.c (.int .i64 10)))]⟩,
⟨(some 13), none, .call 36 [(.t 11), (.t 12)]⟩,
⟨(some 10), none, .mov (.t 13)⟩,
⟨(some 14), none, .extract 0 (.t 10)⟩,
⟨(some 15), none, .extract 1 (.t 10)⟩,
⟨(some 3), none, .alloc [(.int .i64 0), (.int .i64 0), (.int .i64 0)]⟩,
⟨none, none, .store 3 (.t 3) (.t 14)⟩,
⟨(some 4), none, .mov (.t 15)⟩] (some [1, 2, 3, 4]))
(.seq (.ops [⟨(some 16), none, .mov (.t 2)⟩,
⟨(some 17), none, .ibin .eql .i64 (.t 16) (.c (.int .i64 0))⟩,
⟨(some 18), none, .mov (.t 17)⟩,
⟨(some 19), (some (18, true)), .load 6 true (.t 1)⟩,
⟨(some 20), (some (18, true)), .build (List.replicate 5 (.int .i64 0)) [(0, 1, (.c (.int .i64 3020))), (1, 1, (.c (.int .i64 87)))]⟩,
⟨(some 21), (some (18, true)), .build (List.replicate 6 (.int .i64 0)) [(0, 1, (.c (.int .i64 30))), (1, 5, (.t 20))]⟩,
⟨(some 22), (some (18, true)), .eqv (.fld 0 1 (.int .i64) (.fld 1 5 (.fld 0 1 (.int .i64) (.fld 1 1 (.int .i64) (.fld 2 1 (.int .i64) (.fld 3 1 (.int .i64) (.fld 4 1 (.int .i64) .nil))))) .nil)) false (.t 19) (.t 21)⟩,
⟨(some 23), none, .pick (.t 18) (.t 22) (.c (.bool false))⟩,
⟨(some 24), none, .mov (.t 23)⟩,
⟨(some 25), (some (24, true)), .mov (.t 4)⟩,
⟨(some 26), (some (24, true)), .ibin .eql .i64 (.t 25) (.c (.int .i64 0))⟩,
⟨(some 27), none, .pick (.t 24) (.t 26) (.c (.bool false))⟩,
⟨(some 28), none, .mov (.t 27)⟩,
⟨(some 29), (some (28, true)), .load 3 true (.t 3)⟩,
⟨(some 30), (some (28, true)), .build [(.int .i64 0), (.int .i64 0), (.int .i64 0)] [(0, 1, (.c (.int .i64 1))), (1, 1, (.c (.int .i64 2))), (2, 1, (.c (.int .i64 10)))]⟩,
⟨(some 31), (some (28, true)), .eqv (.fld 0 1 (.int .i64) (.fld 1 1 (.int .i64) (.fld 2 1 (.int .i64) .nil))) false (.t 29) (.t 30)⟩,
⟨(some 32), none, .pick (.t 28) (.t 31) (.c (.bool false))⟩,
⟨(some 0), none, .mov (.t 32)⟩] (some [0]))
.ret))))⟩
/-- guidevane/guidevaneref09.ReadingsErr -/
def ir51 : IFn := ⟨25, [.t 2],
(.seq (.ops [⟨(some 2), none, .mov (.c (.int .i64 0))⟩] (some [0]))
(.seq (.seq (.ops [⟨(some 5), none, .mov (.t 0)⟩,
⟨(some 6), none, .lenV (.t 5)⟩,
⟨(some 7), none, .ibin .eql .i64 (.t 6) (.c (.int .i64 0))⟩] (some [0, 7]))
(.cond (.t 7)
(.seq (.ops [⟨(some 2), none, .mov (.c (.int .i64 10))⟩] none)
.ret)
.skip))
(.seq (.seq (.ops [⟨(some 8), none, .mov (.t 0)⟩,
⟨(some 9), none, .lenV (.t 8)⟩,
⟨(some 10), none, .ibin .gtr .i64 (.t 9) (.c (.int .i64 12))⟩] (some [0, 10]))
(.cond (.t 10)
(.seq (.ops [⟨(some 2), none, .mov (.c (.int .i64 8))⟩] none)
.ret)
.skip))
(.seq (.seq (.ops [⟨(some 3), none, .mov (.c (.int .i64 0))⟩] none)
(.block 0 (.loop (.seq (.seq (.ops [⟨(some 11), none, .mov (.t 3)⟩,
⟨(some 12), none, .mov (.t 0)⟩,
⟨(some 13), none, .lenV (.t 12)⟩,
⟨(some 14), none, .ibin .lss .i64 (.t 11) (.t 13)⟩] (some [0, 3, 14]))
(.cond (.t 14)
.skip
(.exit 0)))
(.seq (.block 1 (.seq (.ops [⟨(some 17), none, .mov (.t 0)⟩,
⟨(some 18), none, .mov (.t 3)⟩,
⟨(some 19), none, .iaddr 3 (.t 17) (.t 18)⟩,
⟨(some 20), none, .load 3 true (.t 19)⟩,
⟨(some 21), none, .call 32 [(.t 20)]⟩,
⟨(some 4), none, .mov (.t 21)⟩] (some [0, 3, 4]))
(.seq (.ops [⟨(some 22), none, .mov (.t 4)⟩,
⟨(some 23), none, .ibin .neq .i64 (.t 22) (.c (.int .i64 0))⟩] (some [0, 3, 4, 23]))
(.cond (.t 23)
(.seq (.ops [⟨(some 24), none, .mov (.t 4)⟩,
⟨(some 2), none, .mov (.t 24)⟩] (some [2]))
.ret)
.skip))))
(.ops [⟨(some 15), none, .mov (.t 3)⟩,
⟨(some 16), none, .ibin .add .i64 (.t 15) (.c (.int .i64 1))⟩,
⟨(some 3), none, .mov (.t 16)⟩] (some [0, 3])))))))
(.seq (.ops [⟨(some 2), none, .mov (.c (.int .i64 0))⟩] none)
.ret)))))⟩
/-- guidevane/guidevaneref09.TermsErr -/
def ir52 : IFn := ⟨6, [.t 2],
(.seq (.ops [⟨(some 2), none, .mov (.c (.int .i64 0))⟩] (some [0]))
(.seq (.seq (.ops [⟨(some 3), none, .mov (.t 0)⟩,
⟨(some 4), none, .call 15 [(.t 3), (.c (.int .i64 1)), (.c (.int .i64 31))]⟩,
⟨(some 5), none, .un .not (.t 4)⟩] (some [5]))
(.cond (.t 5)
(.seq (.ops [⟨(some 2), none, .mov (.c (.int .i64 2))⟩] none)
.ret)
.skip))
(.seq (.ops [⟨(some 2), none, .mov (.c (.int .i64 0))⟩] none)
.ret)))⟩
/-- guidevane/guidevaneref09.CopyReadings -/
def ir53 : IFn := ⟨6, [.t 2],
(.seq (.ops [⟨(some 2), none, .mov (.c (.slice none 0 0))⟩] (some [0]))
(.seq (.ops [⟨(some 3), none, .bslice 0 3 [(.int .i64 0), (.int .i64 0), (.int .i64 0)] []⟩,
⟨(some 4), none, .mov (.t 0)⟩,
⟨(some 5), none, .append 3 24 (.t 3) (.t 4)⟩,
⟨(some 2), none, .mov (.t 5)⟩] (some [2]))
.ret))⟩
/-- guidevane/guidevanetop.damAdded -/
def ir54 : IFn := ⟨31, [.t 4],
(.seq (.ops [⟨(some 2), none, .box (.t 0)⟩,
⟨(some 3), none, .box (.t 1)⟩,
⟨(some 4), none, .mov (.c (.int .i64 0))⟩] (some [2, 3]))
(.seq (.ops [⟨(some 5), none, .mov (.c (.int .i64 0))⟩] none)
(.seq (.ops [⟨(some 8), none, .load 3 true (.t 3)⟩,
⟨(some 9), none, .call 34 [(.t 8)]⟩,
⟨(some 6), none, .alloc (List.replicate 5 (.int .i64 0))⟩,
⟨none, none, .store 5 (.t 6) (.t 9)⟩] (some [2, 5, 6]))
(.seq (.seq (.ops [⟨(some 7), none, .mov (.c (.int .i64 0))⟩] none)
(.block 0 (.loop (.seq (.seq (.ops [⟨(some 10), none, .mov (.t 7)⟩,
⟨(some 11), none, .ibin .lss .i64 (.t 10) (.c (.int .i64 5))⟩] (some [2, 5, 6, 7, 11]))
(.cond (.t 11)
.skip
(.exit 0)))
(.seq (.block 1 (.seq (.ops [⟨(some 14), none, .faddr 0 (.t 2)⟩,
⟨(some 15), none, .load 1 false (.t 14)⟩,
⟨(some 16), none, .mov (.t 7)⟩,
⟨(some 17), none, .shift .shr .i64 (.t 15) (.t 16)⟩,
⟨(some 18), none, .ibin .and .i64 (.t 17) (.c (.int .i64 1))⟩,
⟨(some 19), none, .ibin .eql .i64 (.t 18) (.c (.int .i64 1))⟩] (some [2, 5, 6, 7, 19]))
(.cond (.t 19)
(.draw (.rd 0 ⟨(some 20), none, .mov (.t 5)⟩
(.rd 1 ⟨(some 21), none, .mov (.t 7)⟩
(.rd 2 ⟨(some 22), none, .faddr 1 (.t 2)⟩
(.rd 3 ⟨(some 23), none, .iaddrA 5 1 (.t 22) (.t 21)⟩
(.rd 4 ⟨(some 24), none, .load 1 false (.t 23)⟩
(.rd 5 ⟨(some 25), none, .mov (.t 7)⟩
(.rd 6 ⟨(some 26), none, .iaddrA 5 1 (.t 6) (.t 25)⟩
(.rd 7 ⟨(some 27), none, .load 1 false (.t 26)⟩
(.rd 8 ⟨(some 28), none, .ibin .mul .i64 (.t 24) (.t 27)⟩
(.rd 9 ⟨(some 29), none, .ibin .add .i64 (.t 20) (.t 28)⟩
(.wr 10 ⟨(some 5), none, .mov (.t 29)⟩ [9, 0, 1, 2, 3, 4, 5, 6, 7, 8, 9]
.fin .no))))))))))) (some [2, 5, 6, 7]))
.skip)))
(.ops [⟨(some 12), none, .mov (.t 7)⟩,
⟨(some 13), none, .ibin .add .i64 (.t 12) (.c (.int .i64 1))⟩,
⟨(some 7), none, .mov (.t 13)⟩] (some [2, 5, 6, 7])))))))
(.seq (.ops [⟨(some 30), none, .mov (.t 5)⟩,
⟨(some 4), none, .mov (.t 30)⟩] (some [4]))
.ret)))))⟩
/-- guidevane/dam.FitOf -/
def ir55 : IFn := ⟨174, [.cell 4 6 true, .t 5],
(.seq (.ops [⟨(some 4), none, .alloc (List.replicate 6 (.int .i64 0))⟩,
⟨(some 5), none, .mov (.c (.int .i64 0))⟩] (some [0, 1, 4]))
(.seq (.ops [⟨(some 26), none, .mov (.t 1)⟩,
⟨(some 6), none, .mov (.t 26)⟩] (some [0, 4, 6]))
(.seq (.seq (.ops [⟨(some 27), none, .mov (.t 0)⟩,
⟨(some 28), none, .call 93 [(.t 27)]⟩,
⟨(some 29), none, .mov (.t 6)⟩,
⟨(some 30), none, .call 94 [(.t 29)]⟩,
⟨(some 31), none, .bslice 2 1 [(.int .i64 0)] [(0, 1, (.t 28)), (1, 1, (.t 30))]⟩,
⟨(some 32), none, .call 63 [(.t 31)]⟩,
⟨(some 7), none, .mov (.t 32)⟩] (some [0, 4, 6, 7]))
(.seq (.ops [⟨(some 33), none, .mov (.t 7)⟩,
⟨(some 34), none, .ibin .neq .i64 (.t 33) (.c (.int .i64 0))⟩] (some [0, 4, 6, 7, 34]))
(.cond (.t 34)
(.seq (.ops [⟨(some 35), none, .build (List.replicate 6 (.int .i64 0)) []⟩,
⟨(some 36), none, .mov (.t 7)⟩,
⟨none, none, .store 6 (.t 4) (.t 35)⟩,
⟨(some 5), none, .mov (.t 36)⟩] (some [4, 5]))
.ret)
.skip)))
(.seq (.ops [⟨(some 37), none, .mov (.t 6)⟩,
⟨(some 38), none, .call 95 [(.t 37)]⟩,
⟨(some 8), none, .mov (.t 38)⟩] (some [0, 4, 8]))
(.seq (.draw (.rd 0 ⟨(some 39), none, .mov (.t 8)⟩
(.rd 1 ⟨(some 40), none, .lenV (.t 39)⟩
(.rd 3 ⟨(some 42), none, .mov (.t 8)⟩
(.rd 4 ⟨(some 43), none, .lenV (.t 42)⟩
(.wr 2 ⟨(some 41), none, .mslice 1 24 [(.slice none 0 0)] (.t 40) (.t 40)⟩ [1, 1]
(.rd 6 ⟨(some 9), none, .mov (.t 41)⟩
(.wr 5 ⟨(some 44), none, .mslice 1 8 [(.int .i64 0)] (.t 43) (.t 43)⟩ [4, 4]
(.rd 7 ⟨(some 10), none, .mov (.t 44)⟩
.fin) .no))
(.wr 5 ⟨(some 44), none, .mslice 1 8 [(.int .i64 0)] (.t 43) (.t 43)⟩ [4, 4]
(.wr 2 ⟨(some 41), none, .mslice 1 24 [(.slice none 0 0)] (.t 40) (.t 40)⟩ [1, 1]
(.rd 6 ⟨(some 9), none, .mov (.t 41)⟩
(.rd 7 ⟨(some 10), none, .mov (.t 44)⟩
.fin)) .no) .no)))))) (some [0, 4, 8, 9, 10]))
(.seq (.seq (.ops [⟨(some 45), none, .mov (.t 8)⟩,
⟨(some 46), none, .lenV (.t 45)⟩,
⟨(some 47), none, .mov (.c (.int .i64 0))⟩] none)
(.block 0 (.loop (.seq (.ops [⟨(some 48), none, .ibin .lss .i64 (.t 47) (.t 46)⟩] none)
(.seq (.cond (.t 48)
.skip
(.exit 0))
(.seq (.block 1 (.seq (.ops [⟨(some 49), none, .mov (.t 47)⟩,
⟨(some 50), none, .iaddr 1 (.t 45) (.t 47)⟩,
⟨(some 51), none, .load 1 false (.t 50)⟩,
⟨(some 11), none, .mov (.t 49)⟩,
⟨(some 12), none, .mov (.t 51)⟩] (some [0, 4, 8, 9, 10, 11, 12, 45, 46, 47]))
(.seq (.ops [⟨(some 52), none, .mov (.t 9)⟩,
⟨(some 53), none, .mov (.t 11)⟩,
⟨(some 54), none, .mov (.t 8)⟩,
⟨(some 55), none, .lenV (.t 54)⟩,
⟨(some 56), none, .mslice 1 8 [(.int .i64 0)] (.t 55) (.t 55)⟩,
⟨(some 57), none, .iaddr 1 (.t 52) (.t 53)⟩,
⟨none, none, .store 1 (.t 57) (.t 56)⟩] (some [0, 4, 8, 9, 10, 11, 12, 45, 46, 47]))
(.seq (.ops [⟨(some 58), none, .mov (.t 0)⟩,
⟨(some 59), none, .lenV (.t 58)⟩,
⟨(some 60), none, .mov (.c (.int .i64 0))⟩] none)
(.block 2 (.loop (.seq (.ops [⟨(some 61), none, .ibin .lss .i64 (.t 60) (.t 59)⟩] none)
(.seq (.cond (.t 61)
.skip
(.exit 2))
(.seq (.block 3 (.seq (.ops [⟨(some 62), none, .iaddr 3 (.t 58) (.t 60)⟩,
⟨(some 63), none, .load 3 true (.t 62)⟩,
⟨(some 14), none, .alloc [(.int .i64 0), (.int .i64 0), (.int .i64 0)]⟩,
⟨none, none, .store 3 (.t 14) (.t 63)⟩] (some [0, 4, 8, 9, 10, 11, 12, 14, 45, 46, 47, 58, 59, 60]))
(.seq (.ops [⟨(some 64), none, .load 3 true (.t 14)⟩,
⟨(some 65), none, .call 77 [(.t 64)]⟩,
⟨(some 15), none, .alloc (List.replicate 5 (.int .i64 0))⟩,
⟨none, none, .store 5 (.t 15) (.t 65)⟩] (some [0, 4, 8, 9, 10, 11, 12, 14, 15, 45, 46, 47, 58, 59, 60]))
(.seq (.draw (.rd 0 ⟨(some 66), none, .mov (.t 10)⟩
(.rd 1 ⟨(some 67), none, .mov (.t 11)⟩
(.rd 2 ⟨(some 68), none, .iaddr 1 (.t 66) (.t 67)⟩
(.rd 3 ⟨(some 69), none, .load 1 false (.t 68)⟩
(.rd 4 ⟨(some 70), none, .mov (.t 12)⟩
(.rd 5 ⟨(some 71), none, .iaddrA 5 1 (.t 15) (.t 70)⟩
(.rd 6 ⟨(some 72), none, .load 1 false (.t 71)⟩
(.rd 7 ⟨(some 73), none, .faddr 2 (.t 14)⟩
(.rd 8 ⟨(some 74), none, .load 1 false (.t 73)⟩
(.rd 9 ⟨(some 75), none, .ibin .mul .i64 (.t 72) (.t 74)⟩
(.rd 10 ⟨(some 76), none, .ibin .add .i64 (.t 69) (.t 75)⟩
(.rd 11 ⟨(some 77), none, .iaddr 1 (.t 66) (.t 67)⟩
(.wr 12 ⟨none, none, .store 1 (.t 77) (.t 76)⟩ [11, 10, 0, 1, 2, 3, 4, 5, 6, 7, 8, 9, 10]
.fin .no))))))))))))) (some [0, 4, 8, 9, 10, 11, 12, 15, 45, 46, 47, 58, 59, 60]))
(.seq (.ops [⟨(some 78), none, .mov (.t 8)⟩,
⟨(some 79), none, .lenV (.t 78)⟩,
⟨(some 80), none, .mov (.c (.int .i64 0))⟩] none)
(.block 4 (.loop (.seq (.ops [⟨(some 81), none, .ibin .lss .i64 (.t 80) (.t 79)⟩] none)
(.seq (.cond (.t 81)
.skip
(.exit 4))
(.seq (.block 5 (.seq (.ops [⟨(some 82), none, .mov (.t 80)⟩,
⟨(some 83), none, .iaddr 1 (.t 78) (.t 80)⟩,
⟨(some 84), none, .load 1 false (.t 83)⟩,
⟨(some 16), none, .mov (.t 82)⟩,
⟨(some 17), none, .mov (.t 84)⟩] (some [0, 4, 8, 9, 10, 11, 12, 15, 16, 17, 45, 46, 47, 58, 59, 60, 78, 79, 80]))
(.draw (.rd 0 ⟨(some 85), none, .mov (.t 9)⟩
(.rd 1 ⟨(some 86), none, .mov (.t 11)⟩
(.rd 2 ⟨(some 87), none, .iaddr 1 (.t 85) (.t 86)⟩
(.rd 3 ⟨(some 88), none, .load 1 false (.t 87)⟩
(.rd 4 ⟨(some 89), none, .mov (.t 16)⟩
(.rd 5 ⟨(some 90), none, .iaddr 1 (.t 88) (.t 89)⟩
(.rd 6 ⟨(some 91), none, .load 1 false (.t 90)⟩
(.rd 7 ⟨(some 92), none, .mov (.t 12)⟩
(.rd 8 ⟨(some 93), none, .iaddrA 5 1 (.t 15) (.t 92)⟩
(.rd 9 ⟨(some 94), none, .load 1 false (.t 93)⟩
(.rd 10 ⟨(some 95), none, .mov (.t 17)⟩
(.rd 11 ⟨(some 96), none, .iaddrA 5 1 (.t 15) (.t 95)⟩
(.rd 12 ⟨(some 97), none, .load 1 false (.t 96)⟩
(.rd 13 ⟨(some 98), none, .ibin .mul .i64 (.t 94) (.t 97)⟩
(.rd 14 ⟨(some 99), none, .ibin .add .i64 (.t 91) (.t 98)⟩
(.rd 15 ⟨(some 100), none, .iaddr 1 (.t 88) (.t 89)⟩
(.wr 16 ⟨none, none, .store 1 (.t 100) (.t 99)⟩ [15, 14, 0, 1, 2, 3, 4, 5, 6, 7, 8, 9, 10, 11, 12, 13, 14]
.fin .no))))))))))))))))) (some [0, 4, 8, 9, 10, 11, 12, 15, 45, 46, 47, 58, 59, 60, 78, 79, 80]))))
(.ops [⟨(some 101), none, .ibin .add .i64 (.t 80) (.c (.int .i64 1))⟩,
⟨(some 80), none, .mov (.t 101)⟩] (some [0, 4, 8, 9, 10, 11, 12, 15, 45, 46, 47, 58, 59, 60, 78, 79, 80]))))))))))))
(.ops [⟨(some 102), none, .ibin .add .i64 (.t 60) (.c (.int .i64 1))⟩,
⟨(some 60), none, .mov (.t 102)⟩] (some [0, 4, 8, 9, 10, 11, 12, 45, 46, 47, 58, 59, 60])))))))))))
(.ops [⟨(some 103), none, .ibin .add .i64 (.t 47) (.c (.int .i64 1))⟩,
⟨(some 47), none, .mov (.t 103)⟩] (some [0, 4, 8, 9, 10, 45, 46, 47]))))))))
(.seq (.ops [⟨(some 104), none, .mov (.t 9)⟩,
⟨(some 105), none, .call 96 [(.t 104)]⟩,
⟨(some 106), none, .build (List.replicate 6 (.int .i64 0)) [(0, 1, (.t 105))]⟩,
⟨(some 18), none, .alloc (List.replicate 6 (.int .i64 0))⟩,
⟨none, none, .store 6 (.t 18) (.t 106)⟩] (some [4, 8, 9, 10, 18]))
(.seq (.seq (.ops [⟨(some 107), none, .faddr 0 (.t 18)⟩,
⟨(some 108), none, .load 1 false (.t 107)⟩,
⟨(some 109), none, .ibin .eql .i64 (.t 108) (.c (.int .i64 0))⟩] (some [4, 8, 9, 10, 18, 109]))
(.cond (.t 109)
(.seq (.ops [⟨(some 110), none, .build (List.replicate 6 (.int .i64 0)) []⟩,
⟨none, none, .store 6 (.t 4) (.t 110)⟩,
⟨(some 5), none, .mov (.c (.int .i64 12))⟩] (some [4, 5]))
.ret)
.skip))
(.seq (.seq (.ops [⟨(some 111), none, .mov (.t 8)⟩,
⟨(some 112), none, .lenV (.t 111)⟩,
⟨(some 113), none, .mov (.c (.int .i64 0))⟩] (some [4, 9, 10, 18, 111, 112, 113]))
(.block 6 (.loop (.seq (.ops [⟨(some 114), none, .ibin .lss .i64 (.t 113) (.t 112)⟩] none)
(.seq (.cond (.t 114)
.skip
(.exit 6))
(.seq (.block 7 (.seq (.ops [⟨(some 115), none, .mov (.t 113)⟩,
⟨(some 116), none, .iaddr 1 (.t 111) (.t 113)⟩,
⟨(some 117), none, .load 1 false (.t 116)⟩,
⟨(some 19), none, .mov (.t 115)⟩,
⟨(some 20), none, .mov (.t 117)⟩] (some [4, 9, 10, 18, 19, 20, 111, 112, 113]))
(.seq (.ops [⟨(some 118), none, .mov (.t 9)⟩,
⟨(some 119), none, .lenV (.t 118)⟩,
⟨(some 120), none, .mslice 1 24 [(.slice none 0 0)] (.t 119) (.t 119)⟩,
⟨(some 21), none, .mov (.t 120)⟩] (some [4, 9, 10, 18, 19, 20, 21, 111, 112, 113]))
(.seq (.seq (.ops [⟨(some 121), none, .mov (.t 9)⟩,
⟨(some 122), none, .lenV (.t 121)⟩,
⟨(some 123), none, .mov (.c (.int .i64 0))⟩] none)
(.block 8 (.loop (.seq (.ops [⟨(some 124), none, .ibin .lss .i64 (.t 123) (.t 122)⟩] none)
(.seq (.cond (.t 124)
.skip
(.exit 8))
(.seq (.block 9 (.seq (.ops [⟨(some 125), none, .mov (.t 123)⟩,
⟨(some 126), none, .iaddr 1 (.t 121) (.t 123)⟩,
⟨(some 127), none, .load 1 false (.t 126)⟩,
⟨(some 22), none, .mov (.t 125)⟩,
⟨(some 23), none, .mov (.t 127)⟩] (some [4, 9, 10, 18, 19, 20, 21, 22, 23, 111, 112, 113, 121, 122, 123]))
(.seq (.ops [⟨(some 128), none, .mov (.t 21)⟩,
⟨(some 129), none, .mov (.t 22)⟩,
⟨(some 130), none, .mov (.t 23)⟩,
⟨(some 131), none, .call 73 [(.t 130)]⟩,
⟨(some 132), none, .iaddr 1 (.t 128) (.t 129)⟩,
⟨none, none, .store 1 (.t 132) (.t 131)⟩] (some [4, 9, 10, 18, 19, 20, 21, 22, 111, 112, 113, 121, 122, 123]))
(.draw (.rd 0 ⟨(some 133), none, .mov (.t 21)⟩
(.rd 1 ⟨(some 134), none, .mov (.t 22)⟩
(.rd 2 ⟨(some 135), none, .iaddr 1 (.t 133) (.t 134)⟩
(.rd 3 ⟨(some 136), none, .load 1 false (.t 135)⟩
(.rd 4 ⟨(some 137), none, .mov (.t 19)⟩
(.rd 5 ⟨(some 138), none, .mov (.t 10)⟩
(.rd 6 ⟨(some 139), none, .mov (.t 22)⟩
(.rd 7 ⟨(some 140), none, .iaddr 1 (.t 138) (.t 139)⟩
(.rd 8 ⟨(some 141), none, .load 1 false (.t 140)⟩
(.rd 9 ⟨(some 142), none, .iaddr 1 (.t 136) (.t 137)⟩
(.wr 10 ⟨none, none, .store 1 (.t 142) (.t 141)⟩ [9, 8, 0, 1, 2, 3, 4, 5, 6, 7, 8]
.fin .no))))))))))) (some [4, 9, 10, 18, 19, 20, 21, 111, 112, 113, 121, 122, 123])))))
(.ops [⟨(some 143), none, .ibin .add .i64 (.t 123) (.c (.int .i64 1))⟩,
⟨(some 123), none, .mov (.t 143)⟩] (some [4, 9, 10, 18, 19, 20, 21, 111, 112, 113, 121, 122, 123]))))))))
(.ops [⟨(some 144), none, .mov (.t 20)⟩,
⟨(some 145), none, .mov (.t 21)⟩,
⟨(some 146), none, .call 96 [(.t 145)]⟩,
⟨(some 147), none, .faddr 1 (.t 18)⟩,
⟨(some 148), none, .iaddrA 5 1 (.t 147) (.t 144)⟩,
⟨none, none, .store 1 (.t 148) (.t 146)⟩] (some [4, 9, 10, 18, 111, 112, 113]))))))
(.ops [⟨(some 149), none, .ibin .add .i64 (.t 113) (.c (.int .i64 1))⟩,
⟨(some 113), none, .mov (.t 149)⟩] (some [4, 9, 10, 18, 111, 112, 113]))))))))
(.seq (.ops [⟨(some 150), none, .load 6 true (.t 18)⟩,
⟨(some 151), none, .call 97 [(.t 150)]⟩,
⟨(some 24), none, .mov (.t 151)⟩] (some [4, 18, 24]))
(.seq (.ops [⟨(some 152), none, .faddr 0 (.t 18)⟩,
⟨(some 153), none, .load 1 false (.t 152)⟩,
⟨(some 154), none, .mov (.t 24)⟩,
⟨(some 155), none, .ibin .quo .i64 (.t 153) (.t 154)⟩,
⟨(some 156), none, .faddr 0 (.t 18)⟩,
⟨none, none, .store 1 (.t 156) (.t 155)⟩] (some [4, 18, 24]))
(.seq (.seq (.ops [⟨(some 157), none, .mov (.c (.int .i64 0))⟩] none)
(.block 10 (.loop (.seq (.ops [⟨(some 158), none, .ibin .lss .i64 (.t 157) (.c (.int .i64 5))⟩] none)
(.seq (.cond (.t 158)
.skip
(.exit 10))
(.seq (.block 11 (.seq (.ops [⟨(some 159), none, .mov (.t 157)⟩,
⟨(some 25), none, .mov (.t 159)⟩] (some [4, 18, 24, 25, 157]))
(.ops [⟨(some 160), none, .mov (.t 25)⟩,
⟨(some 161), none, .faddr 1 (.t 18)⟩,
⟨(some 162), none, .iaddrA 5 1 (.t 161) (.t 160)⟩,
⟨(some 163), none, .load 1 false (.t 162)⟩,
⟨(some 164), none, .mov (.t 24)⟩,
⟨(some 165), none, .ibin .quo .i64 (.t 163) (.t 164)⟩,
⟨(some 166), none, .faddr 1 (.t 18)⟩,
⟨(some 167), none, .iaddrA 5 1 (.t 166) (.t 160)⟩,
⟨none, none, .store 1 (.t 167) (.t 165)⟩] (some [4, 18, 24, 157]))))
(.ops [⟨(some 168), none, .ibin .add .i64 (.t 157) (.c (.int .i64 1))⟩,
⟨(some 157), none, .mov (.t 168)⟩] (some [4, 18, 24, 157]))))))))
(.seq (.seq (.ops [⟨(some 169), none, .load 6 true (.t 18)⟩,
⟨(some 170), none, .call 98 [(.t 169)]⟩,
⟨(some 171), none, .ibin .neq .i64 (.t 170) (.c (.int .i64 0))⟩] (some [4, 18, 171]))
(.cond (.t 171)
(.seq (.ops [⟨(some 172), none, .build (List.replicate 6 (.int .i64 0)) []⟩,
⟨none, none, .store 6 (.t 4) (.t 172)⟩,
⟨(some 5), none, .mov (.c (.int .i64 8))⟩] (some [4, 5]))
.ret)
.skip))
(.seq (.ops [⟨(some 173), none, .load 6 true (.t 18)⟩,
⟨none, none, .store 6 (.t 4) (.t 173)⟩,
⟨(some 5), none, .mov (.c (.int .i64 0))⟩] (some [4, 5]))
.ret))))))))))))))⟩
/-- guidevane/dam.ResidualsOf -/
def ir56 : IFn := ⟨19, [.t 4, .t 5],
(.seq (.ops [⟨(some 3), none, .box (.t 1)⟩,
⟨(some 4), none, .mov (.c (.slice none 0 0))⟩,
⟨(some 5), none, .mov (.c (.int .i64 0))⟩] (some [0, 3]))
(.seq (.seq (.draw (.rd 0 ⟨(some 7), none, .mov (.t 0)⟩
(.rd 2 ⟨(some 9), none, .load 6 true (.t 3)⟩
(.wr 1 ⟨(some 8), none, .call 93 [(.t 7)]⟩ [0]
(.wr 3 ⟨(some 10), none, .call 98 [(.t 9)]⟩ [2, 1]
(.wr 4 ⟨(some 11), none, .bslice 2 1 [(.int .i64 0)] [(0, 1, (.t 8)), (1, 1, (.t 10))]⟩ [1, 3]
(.wr 5 ⟨(some 12), none, .call 63 [(.t 11)]⟩ [4, 3]
(.rd 6 ⟨(some 6), none, .mov (.t 12)⟩
.fin) .no) .no) .no) .no))) (some [0, 3, 6]))
(.seq (.ops [⟨(some 13), none, .mov (.t 6)⟩,
⟨(some 14), none, .ibin .neq .i64 (.t 13) (.c (.int .i64 0))⟩] (some [0, 3, 6, 14]))
(.cond (.t 14)
(.seq (.ops [⟨(some 15), none, .mov (.t 6)⟩,
⟨(some 4), none, .mov (.c (.slice none 0 0))⟩,
⟨(some 5), none, .mov (.t 15)⟩] (some [4, 5]))
.ret)
.skip)))
(.seq (.ops [⟨(some 16), none, .mov (.t 0)⟩,
⟨(some 17), none, .load 6 true (.t 3)⟩,
⟨(some 18), none, .call 99 [(.t 16), (.t 17)]⟩,
⟨(some 4), none, .mov (.t 18)⟩,
⟨(some 5), none, .mov (.c (.int .i64 0))⟩] (some [4, 5]))
.ret)))⟩
/-- guidevane/dam.SpreadOf -/
def ir57 : IFn := ⟨34, [.t 4, .t 5],
(.seq (.ops [⟨(some 3), none, .box (.t 1)⟩,
⟨(some 4), none, .mov (.c (.int .i64 0))⟩,
⟨(some 5), none, .mov (.c (.int .i64 0))⟩] (some [0, 3]))
(.seq (.ops [⟨(some 12), none, .mov (.t 0)⟩,
⟨(some 13), none, .load 6 true (.t 3)⟩,
⟨(some 14), none, .call 56 [(.t 12), (.t 13)]⟩,
⟨(some 11), none, .mov (.t 14)⟩,
⟨(some 15), none, .extract 0 (.t 11)⟩,
⟨(some 16), none, .extract 1 (.t 11)⟩,
⟨(some 6), none, .mov (.t 15)⟩,
⟨(some 7), none, .mov (.t 16)⟩] (some [6, 7]))
(.seq (.ops [⟨(some 8), none, .mov (.c (.int .i64 0))⟩] none)
(.seq (.seq (.ops [⟨(some 17), none, .mov (.t 6)⟩,
⟨(some 18), none, .lenV (.t 17)⟩,
⟨(some 19), none, .mov (.c (.int .i64 0))⟩] (some [7, 8, 17, 18, 19]))
(.block 0 (.loop (.seq (.ops [⟨(some 20), none, .ibin .lss .i64 (.t 19) (.t 18)⟩] none)
(.seq (.cond (.t 20)
.skip
(.exit 0))
(.seq (.block 1 (.seq (.ops [⟨(some 21), none, .iaddr 2 (.t 17) (.t 19)⟩,
⟨(some 22), none, .load 2 true (.t 21)⟩,
⟨(some 10), none, .alloc [(.int .i64 0), (.int .i64 0)]⟩,
⟨none, none, .store 2 (.t 10) (.t 22)⟩] (some [7, 8, 10, 17, 18, 19]))
(.draw (.rd 0 ⟨(some 23), none, .mov (.t 8)⟩
(.rd 1 ⟨(some 24), none, .faddr 0 (.t 10)⟩
(.rd 2 ⟨(some 25), none, .load 1 false (.t 24)⟩
(.rd 4 ⟨(some 27), none, .faddr 1 (.t 10)⟩
(.rd 5 ⟨(some 28), none, .load 1 false (.t 27)⟩
(.wr 3 ⟨(some 26), none, .call 100 [(.t 25)]⟩ [2]
(.wr 6 ⟨(some 29), none, .call 100 [(.t 28)]⟩ [5, 3]
(.rd 7 ⟨(some 30), none, .minmax true (.t 23) [(.t 26), (.t 29)]⟩
(.wr 8 ⟨(some 8), none, .mov (.t 30)⟩ [7, 6, 0, 1, 2, 3, 4, 5, 6, 7]
.fin .no)) .no) .no)))))) (some [7, 8, 17, 18, 19]))))
(.ops [⟨(some 31), none, .ibin .add .i64 (.t 19) (.c (.int .i64 1))⟩,
⟨(some 19), none, .mov (.t 31)⟩] (some [7, 8, 17, 18, 19]))))))))
(.seq (.ops [⟨(some 32), none, .mov (.t 8)⟩,
⟨(some 33), none, .mov (.t 7)⟩,
⟨(some 4), none, .mov (.t 32)⟩,
⟨(some 5), none, .mov (.t 33)⟩] (some [4, 5]))
.ret)))))⟩
/-- guidevane/guidevanebase.Ranges -/
def ir58 : IFn := ⟨26, [.t 4],
(.seq (.ops [⟨(some 4), none, .mov (.c (.bool false))⟩] (some [0, 1]))
(.seq (.seq (.ops [⟨(some 6), none, .mov (.t 0)⟩,
⟨(some 7), none, .lenV (.t 6)⟩,
⟨(some 8), none, .mov (.t 1)⟩,
⟨(some 9), none, .lenV (.t 8)⟩,
⟨(some 10), none, .ibin .neq .i64 (.t 7) (.t 9)⟩] (some [0, 1, 10]))
(.cond (.t 10)
(.seq (.ops [⟨(some 4), none, .mov (.c (.bool false))⟩] none)
.ret)
.skip))
(.seq (.seq (.ops [⟨(some 5), none, .mov (.c (.int .i64 0))⟩] none)
(.block 0 (.loop (.seq (.seq (.ops [⟨(some 11), none, .mov (.t 5)⟩,
⟨(some 12), none, .mov (.t 0)⟩,
⟨(some 13), none, .lenV (.t 12)⟩,
⟨(some 14), none, .ibin .lss .i64 (.t 11) (.t 13)⟩] (some [0, 1, 5, 14]))
(.cond (.t 14)
.skip
(.exit 0)))
(.seq (.block 1 (.seq (.draw (.rd 0 ⟨(some 17), none, .mov (.t 0)⟩
(.rd 1 ⟨(some 18), none, .mov (.t 5)⟩
(.rd 2 ⟨(some 19), none, .iaddr 2 (.t 17) (.t 18)⟩
(.rd 3 ⟨(some 20), none, .load 2 true (.t 19)⟩
(.rd 4 ⟨(some 21), none, .mov (.t 1)⟩
(.rd 5 ⟨(some 22), none, .mov (.t 5)⟩
(.rd 6 ⟨(some 23), none, .iaddr 2 (.t 21) (.t 22)⟩
(.rd 7 ⟨(some 24), none, .load 2 true (.t 23)⟩
(.rd 8 ⟨(some 25), none, .eqv (.fld 0 1 (.int .i64) (.fld 1 1 (.int .i64) .nil)) true (.t 20) (.t 24)⟩
.fin))))))))) (some [0, 1, 5, 25]))
(.cond (.t 25)
(.seq (.ops [⟨(some 4), none, .mov (.c (.bool false))⟩] none)
.ret)
.skip)))
(.ops [⟨(some 15), none, .mov (.t 5)⟩,
⟨(some 16), none, .ibin .add .i64 (.t 15) (.c (.int .i64 1))⟩,
⟨(some 5), none, .mov (.t 16)⟩] (some [0, 1, 5])))))))
(.seq (.ops [⟨(some 4), none, .mov (.c (.bool true))⟩] none)
.ret))))⟩
/-- guidevane/dam.ForecastOf -/
def ir59 : IFn := ⟨41, [.cell 6 2 true, .t 7],
(.seq (.ops [⟨(some 4), none, .box (.t 1)⟩,
⟨(some 5), none, .box (.t 2)⟩,
⟨(some 6), none, .alloc [(.int .i64 0), (.int .i64 0)]⟩,
⟨(some 7), none, .mov (.c (.int .i64 0))⟩] (some [0, 4, 5, 6]))
(.seq (.ops [⟨(some 12), none, .mov (.t 0)⟩,
⟨(some 13), none, .load 6 true (.t 4)⟩,
⟨(some 14), none, .call 57 [(.t 12), (.t 13)]⟩,
⟨(some 11), none, .mov (.t 14)⟩,
⟨(some 15), none, .extract 0 (.t 11)⟩,
⟨(some 16), none, .extract 1 (.t 11)⟩,
⟨(some 8), none, .mov (.t 15)⟩,
⟨(some 9), none, .mov (.t 16)⟩] (some [4, 5, 6, 8, 9]))
(.seq (.seq (.ops [⟨(some 17), none, .mov (.t 9)⟩,
⟨(some 18), none, .load 3 true (.t 5)⟩,
⟨(some 19), none, .call 33 [(.t 18)]⟩,
⟨(some 20), none, .bslice 2 1 [(.int .i64 0)] [(0, 1, (.t 17)), (1, 1, (.t 19))]⟩,
⟨(some 21), none, .call 63 [(.t 20)]⟩,
⟨(some 9), none, .mov (.t 21)⟩] (some [4, 5, 6, 8, 9]))
(.seq (.ops [⟨(some 22), none, .mov (.t 9)⟩,
⟨(some 23), none, .ibin .neq .i64 (.t 22) (.c (.int .i64 0))⟩] (some [4, 5, 6, 8, 9, 23]))
(.cond (.t 23)
(.seq (.ops [⟨(some 24), none, .build [(.int .i64 0), (.int .i64 0)] []⟩,
⟨(some 25), none, .mov (.t 9)⟩,
⟨none, none, .store 2 (.t 6) (.t 24)⟩,
⟨(some 7), none, .mov (.t 25)⟩] (some [6, 7]))
.ret)
.skip)))
(.seq (.draw (.rd 0 ⟨(some 26), none, .load 6 true (.t 4)⟩
(.rd 1 ⟨(some 27), none, .load 3 true (.t 5)⟩
(.rd 3 ⟨(some 29), none, .faddr 0 (.t 4)⟩
(.rd 4 ⟨(some 30), none, .load 1 false (.t 29)⟩
(.wr 2 ⟨(some 28), none, .call 102 [(.t 26), (.t 27)]⟩ [0, 1]
(.wr 5 ⟨(some 31), none, .call 101 [(.t 28), (.t 30)]⟩ [2, 4, 2]
(.wr 6 ⟨(some 10), none, .alloc [(.int .i64 0), (.int .i64 0)]⟩ []
(.wr 7 ⟨none, none, .store 2 (.t 10) (.t 31)⟩ [6, 5, 5, 0, 1, 2, 3, 4, 5, 6]
.fin .no) .no)
(.wr 6 ⟨(some 10), none, .alloc [(.int .i64 0), (.int .i64 0)]⟩ []
(.wr 5 ⟨(some 31), none, .call 101 [(.t 28), (.t 30)]⟩ [2, 4, 2]
(.wr 7 ⟨none, none, .store 2 (.t 10) (.t 31)⟩ [6, 5, 5, 0, 1, 2, 3, 4, 5, 6]
.fin .no) .no) .no))
(.wr 6 ⟨(some 10), none, .alloc [(.int .i64 0), (.int .i64 0)]⟩ []
(.wr 2 ⟨(some 28), none, .call 102 [(.t 26), (.t 27)]⟩ [0, 1]
(.wr 5 ⟨(some 31), none, .call 101 [(.t 28), (.t 30)]⟩ [2, 4, 2]
(.wr 7 ⟨none, none, .store 2 (.t 10) (.t 31)⟩ [6, 5, 5, 0, 1, 2, 3, 4, 5, 6]
.fin .no) .no) .no) .no)))))) (some [6, 8, 10]))
(.seq (.ops [⟨(some 32), none, .faddr 0 (.t 10)⟩,
⟨(some 33), none, .load 1 false (.t 32)⟩,
⟨(some 34), none, .mov (.t 8)⟩,
⟨(some 35), none, .ibin .sub .i64 (.t 33) (.t 34)⟩,
⟨(some 36), none, .faddr 1 (.t 10)⟩,
⟨(some 37), none, .load 1 false (.t 36)⟩,
⟨(some 38), none, .mov (.t 8)⟩,
⟨(some 39), none, .ibin .add .i64 (.t 37) (.t 38)⟩,
⟨(some 40), none, .build [(.int .i64 0), (.int .i64 0)] [(0, 1, (.t 35)), (1, 1, (.t 39))]⟩,
⟨none, none, .store 2 (.t 6) (.t 40)⟩,
⟨(some 7), none, .mov (.c (.int .i64 0))⟩] (some [6, 7]))
.ret)))))⟩
/-- guidevane/guidevanelaw09.Readings -/
def ir60 : IFn := ⟨5, [.t 0],
(.seq (.ops [⟨(some 0), none, .mov (.c (.slice none 0 0))⟩] (some []))
(.seq (.ops [⟨(some 1), none, .build [(.int .i64 0), (.int .i64 0), (.int .i64 0)] [(2, 1, (.c (.int .i64 100)))]⟩,
⟨(some 2), none, .build [(.int .i64 0), (.int .i64 0), (.int .i64 0)] [(1, 1, (.c (.int .i64 10))), (2, 1, (.c (.int .i64 130)))]⟩,
⟨(some 3), none, .build [(.int .i64 0), (.int .i64 0), (.int .i64 0)] [(1, 1, (.c (.int .i64 (-10)))), (2, 1, (.c (.int .i64 72)))]⟩,
⟨(some 4), none, .bslice 3 3 [(.int .i64 0), (.int .i64 0), (.int .i64 0)] [(0, 3, (.t 1)), (3, 3, (.t 2)), (6, 3, (.t 3))]⟩,
⟨(some 0), none, .mov (.t 4)⟩] (some [0]))
.ret))⟩
/-- guidevane/guidevanelaw09.Rules -/
def ir61 : IFn := ⟨7, [.cell 0 4 true],
(.seq (.ops [⟨(some 0), none, .alloc [(.slice none 0 0), (.slice none 0 0), (.int .i64 0), (.slice none 0 0)]⟩] none)
(.seq (.ops [⟨(some 1), none, .bslice 2 1 [(.int .i64 0)] [(0, 1, (.c (.int .i64 50))), (1, 1, (.c (.int .i64 100)))]⟩,
⟨(some 2), none, .bslice 2 1 [(.int .i64 0)] [(0, 1, (.c (.int .i64 30))), (1, 1, (.c (.int .i64 80)))]⟩,
⟨(some 3), none, .build [(.string ⟨#[]⟩), (.int .i64 0)] [(0, 1, (.c (.string ⟨#[97, 110, 110]⟩))), (1, 1, (.c (.int .i64 2)))]⟩,
⟨(some 4), none, .build [(.string ⟨#[]⟩), (.int .i64 0)] [(0, 1, (.c (.string ⟨#[98, 111, 98]⟩))), (1, 1, (.c (.int .i64 1)))]⟩,
⟨(some 5), none, .bslice 2 2 [(.string ⟨#[]⟩), (.int .i64 0)] [(0, 2, (.t 3)), (2, 2, (.t 4))]⟩,
⟨(some 6), none, .build [(.slice none 0 0), (.slice none 0 0), (.int .i64 0), (.slice none 0 0)] [(0, 1, (.t 1)), (1, 1, (.t 2)), (2, 1, (.c (.int .i64 2))), (3, 1, (.t 5))]⟩,
⟨none, none, .store 4 (.t 0) (.t 6)⟩] (some [0]))
.ret))⟩
/-- guidevane/dam.first -/
def ir63 : IFn := ⟨15, [.t 2],
(.seq (.ops [⟨(some 2), none, .mov (.c (.int .i64 0))⟩] (some [0]))
(.seq (.seq (.ops [⟨(some 5), none, .mov (.t 0)⟩,
⟨(some 6), none, .lenV (.t 5)⟩,
⟨(some 7), none, .mov (.c (.int .i64 0))⟩] (some [5, 6, 7]))
(.block 0 (.loop (.seq (.ops [⟨(some 8), none, .ibin .lss .i64 (.t 7) (.t 6)⟩] none)
(.seq (.cond (.t 8)
.skip
(.exit 0))
(.seq (.block 1 (.seq (.ops [⟨(some 9), none, .iaddr 1 (.t 5) (.t 7)⟩,
⟨(some 10), none, .load 1 false (.t 9)⟩,
⟨(some 4), none, .mov (.t 10)⟩] (some [4, 5, 6, 7]))
(.seq (.ops [⟨(some 11), none, .mov (.t 4)⟩,
⟨(some 12), none, .ibin .neq .i64 (.t 11) (.c (.int .i64 0))⟩] (some [4, 5, 6, 7, 12]))
(.cond (.t 12)
(.seq (.ops [⟨(some 13), none, .mov (.t 4)⟩,
⟨(some 2), none, .mov (.t 13)⟩] (some [2]))
.ret)
.skip))))
(.ops [⟨(some 14), none, .ibin .add .i64 (.t 7) (.c (.int .i64 1))⟩,
⟨(some 7), none, .mov (.t 14)⟩] (some [5, 6, 7]))))))))
(.seq (.ops [⟨(some 2), none, .mov (.c (.int .i64 0))⟩] none)
.ret)))⟩
/-- guidevane/dam.unless -/
def ir64 : IFn := ⟨7, [.t 4],
(.seq (.ops [⟨(some 4), none, .mov (.c (.int .i64 0))⟩] (some [0, 1]))
(.seq (.seq (.ops [⟨(some 5), none, .mov (.t 0)⟩] (some [1, 5]))
(.cond (.t 5)
(.seq (.ops [⟨(some 4), none, .mov (.c (.int .i64 0))⟩] none)
.ret)
.skip))
(.seq (.ops [⟨(some 6), none, .mov (.t 1)⟩,
⟨(some 4), none, .mov (.t 6)⟩] (some [4]))
.ret)))⟩
/-- guidevane/dam.within -/
def ir65 : IFn := ⟨15, [.t 6],
(.seq (.ops [⟨(some 6), none, .mov (.c (.bool false))⟩] (some [0, 1, 2]))
(.seq (.ops [⟨(some 7), none, .mov (.t 1)⟩,
⟨(some 8), none, .mov (.t 0)⟩,
⟨(some 9), none, .ibin .leq .i64 (.t 7) (.t 8)⟩,
⟨(some 10), none, .mov (.t 9)⟩,
⟨(some 11), (some (10, true)), .mov (.t 0)⟩,
⟨(some 12), (some (10, true)), .mov (.t 2)⟩,
⟨(some 13), (some (10, true)), .ibin .leq .i64 (.t 11) (.t 12)⟩,
⟨(some 14), none, .pick (.t 10) (.t 13) (.c (.bool false))⟩,
⟨(some 6), none, .mov (.t 14)⟩] (some [6]))
.ret))⟩
/-- slices.IndexFunc[[]int,int] -/
def ir70 : IFn := ⟨19, [.t 4],
(.seq (.ops [⟨(some 4), none, .mov (.c (.int .i64 0))⟩] (some [0, 1]))
(.seq (.seq (.ops [⟨(some 6), none, .mov (.t 0)⟩,
⟨(some 7), none, .lenV (.t 6)⟩,
⟨(some 8), none, .mov (.c (.int .i64 0))⟩] (some [0, 1, 7, 8]))
(.block 0 (.loop (.seq (.ops [⟨(some 9), none, .ibin .lss .i64 (.t 8) (.t 7)⟩] none)
(.seq (.cond (.t 9)
.skip
(.exit 0))
(.seq (.block 1 (.seq (.ops [⟨(some 10), none, .mov (.t 8)⟩,
⟨(some 5), none, .mov (.t 10)⟩] (some [0, 1, 5, 7, 8]))
(.seq (.ops [⟨(some 11), none, .mov (.t 1)⟩,
⟨(some 12), none, .mov (.t 0)⟩,
⟨(some 13), none, .mov (.t 5)⟩,
⟨(some 14), none, .iaddr 1 (.t 12) (.t 13)⟩,
⟨(some 15), none, .load 1 false (.t 14)⟩,
⟨(some 16), none, .callv (.t 11) [(.t 15)]⟩] (some [0, 1, 5, 7, 8, 16]))
(.cond (.t 16)
(.seq (.ops [⟨(some 17), none, .mov (.t 5)⟩,
⟨(some 4), none, .mov (.t 17)⟩] (some [4]))
.ret)
.skip))))
(.ops [⟨(some 18), none, .ibin .add .i64 (.t 8) (.c (.int .i64 1))⟩,
⟨(some 8), none, .mov (.t 18)⟩] (some [0, 1, 7, 8]))))))))
(.seq (.ops [⟨(some 4), none, .mov (.c (.int .i64 (-1)))⟩] none)
.ret)))⟩
/-- slices.Clone[[]int,int] -/
def ir73 : IFn := ⟨8, [.t 2],
(.seq (.ops [⟨(some 2), none, .mov (.c (.slice none 0 0))⟩] (some [0]))
(.seq (.seq (.ops [⟨(some 3), none, .mov (.t 0)⟩,
⟨(some 4), none, .nileq .sl false (.t 3)⟩] (some [0, 4]))
(.cond (.t 4)
(.seq (.ops [⟨(some 2), none, .mov (.c (.slice none 0 0))⟩] none)
.ret)
.skip))
(.seq (.ops [⟨(some 5), none, .bslice 0 1 [(.int .i64 0)] []⟩,
⟨(some 6), none, .mov (.t 0)⟩,
⟨(some 7), none, .append 1 8 (.t 5) (.t 6)⟩,
⟨(some 2), none, .mov (.t 7)⟩] (some [2]))
.ret)))⟩
/-- guidevane/dam.terms -/
def ir77 : IFn := ⟨25, [.cell 2 5 true],
(.seq (.ops [⟨(some 1), none, .box (.t 0)⟩,
⟨(some 2), none, .alloc (List.replicate 5 (.int .i64 0))⟩] (some [1, 2]))
(.seq (.ops [⟨(some 4), none, .build [(.int .i64 0), (.int .i64 0)] [(0, 1, (.c (.int .i64 1))), (1, 1, (.c (.int .i64 0)))]⟩,
⟨(some 5), none, .build [(.int .i64 0), (.int .i64 0)] [(0, 1, (.c (.int .i64 0))), (1, 1, (.c (.int .i64 1)))]⟩,
⟨(some 6), none, .build [(.int .i64 0), (.int .i64 0)] [(0, 1, (.c (.int .i64 (-1)))), (1, 1, (.c (.int .i64 0)))]⟩,
⟨(some 7), none, .build [(.int .i64 0), (.int .i64 0)] [(0, 1, (.c (.int .i64 0))), (1, 1, (.c (.int .i64 (-1))))]⟩,
⟨(some 8), none, .build (List.replicate 8 (.int .i64 0)) [(0, 2, (.t 4)), (2, 2, (.t 5)), (4, 2, (.t 6)), (6, 2, (.t 7))]⟩,
⟨(some 9), none, .faddr 0 (.t 1)⟩,
⟨(some 10), none, .load 1 false (.t 9)⟩,
⟨(some 11), none, .ibin .rem .i64 (.t 10) (.c (.int .i64 360))⟩,
⟨(some 12), none, .ibin .mul .i64 (.t 11) (.c (.int .i64 4))⟩,
⟨(some 13), none, .ibin .quo .i64 (.t 12) (.c (.int .i64 360))⟩,
⟨(some 14), none, .indexA 4 2 true (.t 8) (.t 13)⟩,
⟨(some 3), none, .alloc [(.int .i64 0), (.int .i64 0)]⟩,
⟨none, none, .store 2 (.t 3) (.t 14)⟩] (some [1, 2, 3]))
(.seq (.ops [⟨(some 15), none, .faddr 1 (.t 1)⟩,
⟨(some 16), none, .load 1 false (.t 15)⟩,
⟨(some 17), none, .iaddrA 2 1 (.t 3) (.c (.int .i64 0))⟩,
⟨(some 18), none, .load 1 false (.t 17)⟩,
⟨(some 19), none, .iaddrA 2 1 (.t 3) (.c (.int .i64 1))⟩,
⟨(some 20), none, .load 1 false (.t 19)⟩,
⟨(some 21), none, .faddr 0 (.t 1)⟩,
⟨(some 22), none, .load 1 false (.t 21)⟩,
⟨(some 23), none, .ibin .quo .i64 (.t 22) (.c (.int .i64 360))⟩,
⟨(some 24), none, .build (List.replicate 5 (.int .i64 0)) [(0, 1, (.c (.int .i64 1))), (1, 1, (.t 16)), (2, 1, (.t 18)), (3, 1, (.t 20)), (4, 1, (.t 23))]⟩,
⟨none, none, .store 5 (.t 2) (.t 24)⟩] (some [2]))
.ret)))⟩
/-- guidevane/dam.isSized -/
def ir78 : IFn := ⟨10, [.t 4],
(.seq (.ops [⟨(some 4), none, .mov (.c (.bool false))⟩] (some [0, 1]))
(.seq (.ops [⟨(some 5), none, .mov (.t 0)⟩,
⟨(some 6), none, .mov (.t 1)⟩,
⟨(some 7), none, .un .neg (.t 6)⟩,
⟨(some 8), none, .mov (.t 1)⟩,
⟨(some 9), none, .call 65 [(.t 5), (.t 7), (.t 8)]⟩,
⟨(some 4), none, .mov (.t 9)⟩] (some [4]))
.ret))⟩
/-- guidevane/dam.open -/
def ir79 : IFn := ⟨14, [.cell 2 4 true, .t 3],
(.seq (.ops [⟨(some 1), none, .box (.t 0)⟩,
⟨(some 2), none, .alloc [(.slice none 0 0), (.slice none 0 0), (.int .i64 0), (.slice none 0 0)]⟩,
⟨(some 3), none, .mov (.c (.int .i64 0))⟩] (some [1, 2]))
(.seq (.ops [⟨(some 7), none, .load 4 true (.t 1)⟩,
⟨(some 8), none, .call 43 [(.t 7)]⟩,
⟨(some 6), none, .mov (.t 8)⟩,
⟨(some 9), none, .extract 0 (.t 6)⟩,
⟨(some 10), none, .extract 1 (.t 6)⟩,
⟨(some 4), none, .mov (.t 9)⟩,
⟨(some 5), none, .mov (.t 10)⟩] (some [1, 2, 5]))
(.seq (.ops [⟨(some 11), none, .load 4 true (.t 1)⟩,
⟨(some 12), none, .build [(.slice none 0 0), (.slice none 0 0), (.int .i64 0), (.slice none 0 0)] [(0, 4, (.t 11))]⟩,
⟨(some 13), none, .mov (.t 5)⟩,
⟨none, none, .store 4 (.t 2) (.t 12)⟩,
⟨(some 3), none, .mov (.t 13)⟩] (some [2, 3]))
.ret)))⟩
/-- slices.ContainsFunc[[]int,int] -/
def ir80 : IFn := ⟨9, [.t 4],
(.seq (.ops [⟨(some 4), none, .mov (.c (.bool false))⟩] (some [0, 1]))
(.seq (.ops [⟨(some 5), none, .mov (.t 0)⟩,
⟨(some 6), none, .mov (.t 1)⟩,
⟨(some 7), none, .call 70 [(.t 5), (.t 6)]⟩,
⟨(some 8), none, .ibin .geq .i64 (.t 7) (.c (.int .i64 0))⟩,
⟨(some 4), none, .mov (.t 8)⟩] (some [4]))
.ret))⟩
/-- guidevane/dam.WatchOf$1 -/
def ir81 : IFn := ⟨6, [.t 2],
(.seq (.ops [⟨(some 2), none, .mov (.c (.bool false))⟩] (some [0]))
(.seq (.ops [⟨(some 3), none, .mov (.t 0)⟩,
⟨(some 4), none, .call 82 [(.t 3)]⟩,
⟨(some 5), none, .un .not (.t 4)⟩,
⟨(some 2), none, .mov (.t 5)⟩] (some [2]))
.ret))⟩
/-- guidevane/dam.isDeviation -/
def ir82 : IFn := ⟨5, [.t 2],
(.seq (.ops [⟨(some 2), none, .mov (.c (.bool false))⟩] (some [0]))
(.seq (.ops [⟨(some 3), none, .mov (.t 0)⟩,
⟨(some 4), none, .call 65 [(.t 3), (.c (.int .i64 0)), (.c (.int .i64 1000000))]⟩,
⟨(some 2), none, .mov (.t 4)⟩] (some [2]))
.ret))⟩
/-- (guidevane/dam.rules).watched -/
def ir83 : IFn := ⟨44, [.cell 6 3 true],
(.seq (.ops [⟨(some 3), none, .box (.t 0)⟩,
⟨(some 4), none, .box (.t 1)⟩,
⟨(some 6), none, .alloc [(.int .i64 0), (.int .i64 0), (.int .i64 0)]⟩] (some [2, 3, 4, 6]))
(.seq (.ops [⟨(some 8), none, .mov (.t 2)⟩,
⟨(some 9), none, .faddr 2 (.t 4)⟩,
⟨none, none, .store 1 (.t 9) (.t 8)⟩] (some [2, 3, 4, 6]))
(.seq (.seq (.ops [⟨(some 10), none, .load 4 true (.t 3)⟩,
⟨(some 11), none, .mov (.t 2)⟩,
⟨(some 12), none, .call 89 [(.t 10), (.t 11)]⟩,
⟨(some 7), none, .mov (.t 12)⟩] (some [2, 3, 4, 6, 7]))
(.block 0 (.seq (.ops [⟨(some 15), none, .mov (.t 7)⟩,
⟨(some 16), none, .faddr 0 (.t 4)⟩,
⟨(some 17), none, .load 1 false (.t 16)⟩,
⟨(some 18), none, .ibin .gtr .i64 (.t 15) (.t 17)⟩,
⟨(some 14), none, .mov (.t 18)⟩] (some [2, 3, 4, 6, 7, 14]))
(.cond (.t 14)
(.ops [⟨(some 19), none, .mov (.t 7)⟩,
⟨(some 20), none, .faddr 0 (.t 4)⟩,
⟨none, none, .store 1 (.t 20) (.t 19)⟩,
⟨(some 21), none, .faddr 1 (.t 4)⟩,
⟨none, none, .store 1 (.t 21) (.c (.int .i64 0))⟩] (some [4, 6]))
(.seq (.ops [⟨(some 23), none, .faddr 0 (.t 4)⟩,
⟨(some 24), none, .load 1 false (.t 23)⟩,
⟨(some 25), none, .ibin .gtr .i64 (.t 24) (.c (.int .i64 0))⟩,
⟨(some 26), none, .mov (.t 25)⟩,
⟨(some 27), (some (26, true)), .mov (.t 2)⟩,
⟨(some 28), (some (26, true)), .faddr 0 (.t 3)⟩,
⟨(some 29), (some (26, true)), .faddr 1 (.t 28)⟩,
⟨(some 30), (some (26, true)), .load 1 false (.t 29)⟩,
⟨(some 31), (some (26, true)), .faddr 0 (.t 4)⟩,
⟨(some 32), (some (26, true)), .load 1 false (.t 31)⟩,
⟨(some 33), (some (26, true)), .ibin .sub .i64 (.t 32) (.c (.int .i64 1))⟩,
⟨(some 34), (some (26, true)), .iaddr 1 (.t 30) (.t 33)⟩,
⟨(some 35), (some (26, true)), .load 1 false (.t 34)⟩,
⟨(some 36), (some (26, true)), .ibin .lss .i64 (.t 27) (.t 35)⟩,
⟨(some 37), none, .pick (.t 26) (.t 36) (.c (.bool false))⟩,
⟨(some 22), none, .mov (.t 37)⟩] (some [4, 6, 22]))
(.cond (.t 22)
(.ops [⟨(some 38), none, .faddr 1 (.t 4)⟩,
⟨(some 39), none, .load 1 false (.t 38)⟩,
⟨(some 40), none, .ibin .add .i64 (.t 39) (.c (.int .i64 1))⟩,
⟨(some 41), none, .minmax false (.t 40) [(.c (.int .i64 1000000))]⟩,
⟨(some 42), none, .faddr 1 (.t 4)⟩,
⟨none, none, .store 1 (.t 42) (.t 41)⟩] (some [4, 6]))
(.ops [⟨(some 13), none, .faddr 1 (.t 4)⟩,
⟨none, none, .store 1 (.t 13) (.c (.int .i64 0))⟩] (some [4, 6]))))))))
(.seq (.ops [⟨(some 43), none, .load 3 true (.t 4)⟩,
⟨none, none, .store 3 (.t 6) (.t 43)⟩] (some [6]))
.ret))))⟩
/-- guidevane/dam.isValue -/
def ir84 : IFn := ⟨5, [.t 2],
(.seq (.ops [⟨(some 2), none, .mov (.c (.bool false))⟩] (some [0]))
(.seq (.ops [⟨(some 3), none, .mov (.t 0)⟩,
⟨(some 4), none, .call 78 [(.t 3), (.c (.int .i64 1000000))]⟩,
⟨(some 2), none, .mov (.t 4)⟩] (some [2]))
.ret))⟩
/-- guidevane/dam.CheckRules$1 -/
def ir85 : IFn := ⟨5, [.t 2],
(.seq (.ops [⟨(some 2), none, .mov (.c (.bool false))⟩] (some [0]))
(.seq (.ops [⟨(some 3), none, .mov (.t 0)⟩,
⟨(some 4), none, .call 65 [(.t 3), (.c (.int .i64 1)), (.c (.int .i64 1000000))]⟩,
⟨(some 2), none, .mov (.t 4)⟩] (some [2]))
.ret))⟩
/-- slices.ContainsFunc[[]guidevane/api.DamPerson,guidevane/api.DamPerson] -/
def ir86 : IFn := ⟨9, [.t 4],
(.seq (.ops [⟨(some 4), none, .mov (.c (.bool false))⟩] (some [0, 1]))
(.seq (.ops [⟨(some 5), none, .mov (.t 0)⟩,
⟨(some 6), none, .mov (.t 1)⟩,
⟨(some 7), none, .call 110 [(.t 5), (.t 6)]⟩,
⟨(some 8), none, .ibin .geq .i64 (.t 7) (.c (.int .i64 0))⟩,
⟨(some 4), none, .mov (.t 8)⟩] (some [4]))
.ret))⟩
/-- guidevane/dam.CheckRules$2 -/
def ir87 : IFn := ⟨9, [.t 3],
(.seq (.ops [⟨(some 2), none, .box (.t 0)⟩,
⟨(some 3), none, .mov (.c (.bool false))⟩] (some [1, 2]))
(.seq (.ops [⟨(some 4), none, .faddr 0 (.t 2)⟩,
⟨(some 5), none, .load 1 false (.t 4)⟩,
⟨(some 6), none, .faddr 0 (.t 1)⟩,
⟨(some 7), none, .load 1 false (.t 6)⟩,
⟨(some 8), none, .sbin .eql (.t 5) (.t 7)⟩,
⟨(some 3), none, .mov (.t 8)⟩] (some [3]))
.ret))⟩
/-- guidevane/dam.isName -/
def ir88 : IFn := ⟨34, [.t 2],
(.seq (.ops [⟨(some 2), none, .mov (.c (.bool false))⟩] (some [0]))
(.seq (.seq (.ops [⟨(some 5), none, .mov (.t 0)⟩,
⟨(some 6), none, .s2b (.t 5)⟩,
⟨(some 7), none, .lenV (.t 6)⟩,
⟨(some 8), none, .mov (.c (.int .i64 0))⟩] (some [0, 6, 7, 8]))
(.block 0 (.loop (.seq (.ops [⟨(some 9), none, .ibin .lss .i64 (.t 8) (.t 7)⟩] none)
(.seq (.cond (.t 9)
.skip
(.exit 0))
(.seq (.block 1 (.seq (.ops [⟨(some 10), none, .mov (.t 8)⟩,
⟨(some 11), none, .iaddr 1 (.t 6) (.t 8)⟩,
⟨(some 12), none, .load 1 false (.t 11)⟩,
⟨(some 3), none, .mov (.t 10)⟩,
⟨(some 4), none, .mov (.t 12)⟩] (some [0, 3, 4, 6, 7, 8]))
(.seq (.ops [⟨(some 13), none, .mov (.t 4)⟩,
⟨(some 14), none, .call 111 [(.t 13)]⟩,
⟨(some 15), none, .un .not (.t 14)⟩,
⟨(some 16), none, .mov (.t 15)⟩,
⟨(some 17), (some (16, true)), .mov (.t 3)⟩,
⟨(some 18), (some (16, true)), .ibin .eql .i64 (.t 17) (.c (.int .i64 0))⟩,
⟨(some 19), (some (16, true)), .mov (.t 18)⟩,
⟨(some 20), (some (19, false)), .mov (.t 4)⟩,
⟨(some 21), (some (19, false)), .ibin .neq .u8 (.t 20) (.c (.int .u8 45))⟩,
⟨(some 22), (some (19, false)), .mov (.t 21)⟩,
⟨(some 23), (some (22, true)), .mov (.t 4)⟩,
⟨(some 24), (some (22, true)), .conv .i64 (.t 23)⟩,
⟨(some 25), (some (22, true)), .call 65 [(.t 24), (.c (.int .i64 48)), (.c (.int .i64 57))]⟩,
⟨(some 26), (some (22, true)), .un .not (.t 25)⟩,
⟨(some 27), (some (19, false)), .pick (.t 22) (.t 26) (.c (.bool false))⟩,
⟨(some 28), (some (16, true)), .pick (.t 19) (.c (.bool true)) (.t 27)⟩,
⟨(some 29), none, .pick (.t 16) (.t 28) (.c (.bool false))⟩] (some [0, 6, 7, 8, 29]))
(.cond (.t 29)
(.seq (.ops [⟨(some 2), none, .mov (.c (.bool false))⟩] none)
.ret)
.skip))))
(.ops [⟨(some 30), none, .ibin .add .i64 (.t 8) (.c (.int .i64 1))⟩,
⟨(some 8), none, .mov (.t 30)⟩] (some [0, 6, 7, 8]))))))))
(.seq (.ops [⟨(some 31), none, .mov (.t 0)⟩,
⟨(some 32), none, .lenS (.t 31)⟩,
⟨(some 33), none, .call 65 [(.t 32), (.c (.int .i64 1)), (.c (.int .i64 12))]⟩,
⟨(some 2), none, .mov (.t 33)⟩] (some [2]))
.ret)))⟩
/-- (guidevane/dam.rules).asked -/
def ir89 : IFn := ⟨19, [.t 4],
(.seq (.ops [⟨(some 2), none, .box (.t 0)⟩,
⟨(some 4), none, .mov (.c (.int .i64 0))⟩] (some [1, 2]))
(.seq (.ops [⟨(some 8), none, .faddr 0 (.t 2)⟩,
⟨(some 9), none, .faddr 0 (.t 8)⟩,
⟨(some 10), none, .load 1 false (.t 9)⟩,
⟨(some 11), none, .mov (.t 1)⟩,
⟨(some 12), none, .call 112 [(.t 10), (.t 11)]⟩,
⟨(some 7), none, .mov (.t 12)⟩,
⟨(some 13), none, .extract 0 (.t 7)⟩,
⟨(some 14), none, .extract 1 (.t 7)⟩,
⟨(some 5), none, .mov (.t 13)⟩,
⟨(some 6), none, .mov (.t 14)⟩] (some [5, 6]))
(.seq (.seq (.ops [⟨(some 15), none, .mov (.t 6)⟩] (some [5, 15]))
(.cond (.t 15)
(.ops [⟨(some 16), none, .mov (.t 5)⟩,
⟨(some 17), none, .ibin .add .i64 (.t 16) (.c (.int .i64 1))⟩,
⟨(some 5), none, .mov (.t 17)⟩] (some [5]))
.skip))
(.seq (.ops [⟨(some 18), none, .mov (.t 5)⟩,
⟨(some 4), none, .mov (.t 18)⟩] (some [4]))
.ret))))⟩
/-- guidevane/dam.readingsErr -/
def ir93 : IFn := ⟨31, [.t 2],
(.seq (.ops [⟨(some 2), none, .mov (.c (.int .i64 0))⟩] (some [0]))
(.seq (.ops [⟨(some 5), none, .mov (.t 0)⟩,
⟨(some 6), none, .lenV (.t 5)⟩,
⟨(some 7), none, .ibin .gtr .i64 (.t 6) (.c (.int .i64 0))⟩,
⟨(some 8), none, .call 64 [(.t 7), (.c (.int .i64 10))]⟩,
⟨(some 9), none, .mov (.t 0)⟩,
⟨(some 10), none, .lenV (.t 9)⟩,
⟨(some 11), none, .ibin .leq .i64 (.t 10) (.c (.int .i64 12))⟩,
⟨(some 12), none, .call 64 [(.t 11), (.c (.int .i64 8))]⟩,
⟨(some 13), none, .bslice 2 1 [(.int .i64 0)] [(0, 1, (.t 8)), (1, 1, (.t 12))]⟩,
⟨(some 14), none, .call 63 [(.t 13)]⟩,
⟨(some 3), none, .mov (.t 14)⟩] (some [0, 3]))
(.seq (.seq (.ops [⟨(some 4), none, .mov (.c (.int .i64 0))⟩] none)
(.block 0 (.loop (.seq (.seq (.ops [⟨(some 15), none, .mov (.t 4)⟩,
⟨(some 16), none, .mov (.t 0)⟩,
⟨(some 17), none, .lenV (.t 16)⟩,
⟨(some 18), none, .ibin .lss .i64 (.t 15) (.t 17)⟩,
⟨(some 19), none, .mov (.t 18)⟩,
⟨(some 20), (some (19, true)), .mov (.t 3)⟩,
⟨(some 21), (some (19, true)), .ibin .eql .i64 (.t 20) (.c (.int .i64 0))⟩,
⟨(some 22), none, .pick (.t 19) (.t 21) (.c (.bool false))⟩] (some [0, 3, 4, 22]))
(.cond (.t 22)
.skip
(.exit 0)))
(.seq (.block 1 (.ops [⟨(some 25), none, .mov (.t 0)⟩,
⟨(some 26), none, .mov (.t 4)⟩,
⟨(some 27), none, .iaddr 3 (.t 25) (.t 26)⟩,
⟨(some 28), none, .load 3 true (.t 27)⟩,
⟨(some 29), none, .call 33 [(.t 28)]⟩,
⟨(some 3), none, .mov (.t 29)⟩] (some [0, 3, 4])))
(.ops [⟨(some 23), none, .mov (.t 4)⟩,
⟨(some 24), none, .ibin .add .i64 (.t 23) (.c (.int .i64 1))⟩,
⟨(some 4), none, .mov (.t 24)⟩] (some [0, 3, 4])))))))
(.seq (.ops [⟨(some 30), none, .mov (.t 3)⟩,
⟨(some 2), none, .mov (.t 30)⟩] (some [2]))
.ret))))⟩
/-- (guidevane/dam.model).err -/
def ir94 : IFn := ⟨6, [.t 2],
(.seq (.ops [⟨(some 2), none, .mov (.c (.int .i64 0))⟩] (some [0]))
(.seq (.ops [⟨(some 3), none, .mov (.t 0)⟩,
⟨(some 4), none, .call 65 [(.t 3), (.c (.int .i64 1)), (.c (.int .i64 31))]⟩,
⟨(some 5), none, .call 64 [(.t 4), (.c (.int .i64 2))]⟩,
⟨(some 2), none, .mov (.t 5)⟩] (some [2]))
.ret))⟩
/-- (guidevane/dam.model).chosen -/
def ir95 : IFn := ⟨17, [.t 2],
(.seq (.ops [⟨(some 2), none, .mov (.c (.slice none 0 0))⟩] (some [0]))
(.seq (.ops [⟨(some 3), none, .mov (.c (.slice none 0 0))⟩] none)
(.seq (.seq (.ops [⟨(some 5), none, .mov (.c (.int .i64 0))⟩] none)
(.block 0 (.loop (.seq (.ops [⟨(some 6), none, .ibin .lss .i64 (.t 5) (.c (.int .i64 5))⟩] none)
(.seq (.cond (.t 6)
.skip
(.exit 0))
(.seq (.block 1 (.seq (.ops [⟨(some 7), none, .mov (.t 5)⟩,
⟨(some 4), none, .mov (.t 7)⟩] (some [0, 3, 4, 5]))
(.seq (.ops [⟨(some 8), none, .mov (.t 0)⟩,
⟨(some 9), none, .mov (.t 4)⟩,
⟨(some 10), none, .call 114 [(.t 8), (.t 9)]⟩] (some [0, 3, 4, 5, 10]))
(.cond (.t 10)
(.ops [⟨(some 11), none, .mov (.t 3)⟩,
⟨(some 12), none, .mov (.t 4)⟩,
⟨(some 13), none, .bslice 1 1 [(.int .i64 0)] [(0, 1, (.t 12))]⟩,
⟨(some 14), none, .append 1 8 (.t 11) (.t 13)⟩,
⟨(some 3), none, .mov (.t 14)⟩] (some [0, 3, 5]))
.skip))))
(.ops [⟨(some 15), none, .ibin .add .i64 (.t 5) (.c (.int .i64 1))⟩,
⟨(some 5), none, .mov (.t 15)⟩] (some [0, 3, 5]))))))))
(.seq (.ops [⟨(some 16), none, .mov (.t 3)⟩,
⟨(some 2), none, .mov (.t 16)⟩] (some [2]))
.ret))))⟩
/-- guidevane/dam.determinant -/
def ir96 (r : Nat → Code × Code) : IFn := ⟨36, [.t 2],
(.seq (.ops [⟨(some 1), none, .box (.t 0)⟩,
⟨(some 2), none, .mov (.c (.int .i64 0))⟩] none)
(.seq (.ops [⟨(some 3), none, .alloc [(.int .i64 0)]⟩,
⟨none, none, .store 1 (.t 3) (.c (.int .i64 0))⟩] none)
(.seq (.seq (.ops [⟨(some 9), none, .load 1 false (.t 1)⟩,
⟨(some 10), none, .lenV (.t 9)⟩,
⟨(some 11), none, .call 115 [(.t 10)]⟩] none)
(.block 0 (.range 36 (.t 11) #[12, 13] (r 0).1 (r 0).2)))
(.seq (.ops [⟨(some 35), none, .load 1 false (.t 3)⟩,
⟨(some 2), none, .mov (.t 35)⟩] (some [2]))
.ret))))⟩
def ir96a0 : ICode :=
(.seq (.ops [⟨(some 4), none, .mov (.t 12)⟩] none)
(.ops [⟨(some 5), none, .mov (.t 13)⟩] none))
def ir96b0 : ICode :=
(.block 1 (.seq (.ops [⟨(some 14), none, .mov (.t 5)⟩,
⟨(some 6), none, .mov (.t 14)⟩] (some [1, 3, 4, 6]))
(.seq (.seq (.ops [⟨(some 15), none, .mov (.t 4)⟩,
⟨(some 16), none, .lenV (.t 15)⟩,
⟨(some 17), none, .mov (.c (.int .i64 0))⟩] (some [1, 3, 6, 15, 16, 17]))
(.block 2 (.loop (.seq (.ops [⟨(some 18), none, .ibin .lss .i64 (.t 17) (.t 16)⟩] none)
(.seq (.cond (.t 18)
.skip
(.exit 2))
(.seq (.block 3 (.seq (.ops [⟨(some 19), none, .mov (.t 17)⟩,
⟨(some 20), none, .iaddr 1 (.t 15) (.t 17)⟩,
⟨(some 21), none, .load 1 false (.t 20)⟩,
⟨(some 7), none, .mov (.t 19)⟩,
⟨(some 8), none, .mov (.t 21)⟩] (some [1, 3, 6, 7, 8, 15, 16, 17]))
(.ops [⟨(some 22), none, .mov (.t 6)⟩,
⟨(some 23), none, .load 1 false (.t 1)⟩,
⟨(some 24), none, .mov (.t 7)⟩,
⟨(some 25), none, .iaddr 1 (.t 23) (.t 24)⟩,
⟨(some 26), none, .load 1 false (.t 25)⟩,
⟨(some 27), none, .mov (.t 8)⟩,
⟨(some 28), none, .iaddr 1 (.t 26) (.t 27)⟩,
⟨(some 29), none, .load 1 false (.t 28)⟩,
⟨(some 30), none, .ibin .mul .i64 (.t 22) (.t 29)⟩,
⟨(some 6), none, .mov (.t 30)⟩] (some [1, 3, 6, 15, 16, 17]))))
(.ops [⟨(some 31), none, .ibin .add .i64 (.t 17) (.c (.int .i64 1))⟩,
⟨(some 17), none, .mov (.t 31)⟩] (some [1, 3, 6, 15, 16, 17]))))))))
(.ops [⟨(some 32), none, .load 1 false (.t 3)⟩,
⟨(some 33), none, .mov (.t 6)⟩,
⟨(some 34), none, .ibin .add .i64 (.t 32) (.t 33)⟩,
⟨none, none, .store 1 (.t 3) (.t 34)⟩] (some [])))))
/-- guidevane/dam.divisor -/
def ir97 : IFn := ⟨22, [.t 2],
(.seq (.ops [⟨(some 1), none, .box (.t 0)⟩,
⟨(some 2), none, .mov (.c (.int .i64 0))⟩] (some [1]))
(.seq (.ops [⟨(some 6), none, .faddr 0 (.t 1)⟩,
⟨(some 7), none, .load 1 false (.t 6)⟩,
⟨(some 3), none, .mov (.t 7)⟩] (some [1, 3]))
(.seq (.seq (.ops [⟨(some 8), none, .faddr 1 (.t 1)⟩,
⟨(some 9), none, .load 5 true (.t 8)⟩,
⟨(some 10), none, .mov (.c (.int .i64 0))⟩] (some [3, 9, 10]))
(.block 0 (.loop (.seq (.ops [⟨(some 11), none, .ibin .lss .i64 (.t 10) (.c (.int .i64 5))⟩] none)
(.seq (.cond (.t 11)
.skip
(.exit 0))
(.seq (.block 1 (.seq (.ops [⟨(some 12), none, .indexA 5 1 false (.t 9) (.t 10)⟩,
⟨(some 5), none, .mov (.t 12)⟩] (some [3, 5, 9, 10]))
(.block 2 (.loop (.seq (.seq (.ops [⟨(some 13), none, .mov (.t 5)⟩,
⟨(some 14), none, .ibin .neq .i64 (.t 13) (.c (.int .i64 0))⟩] (some [3, 5, 9, 10, 14]))
(.cond (.t 14)
.skip
(.exit 2)))
(.block 3 (.draw (.rd 0 ⟨(some 15), none, .mov (.t 5)⟩
(.rd 1 ⟨(some 16), none, .mov (.t 3)⟩
(.rd 2 ⟨(some 17), none, .mov (.t 5)⟩
(.rd 3 ⟨(some 18), none, .ibin .rem .i64 (.t 16) (.t 17)⟩
(.wr 4 ⟨(some 3), none, .mov (.t 15)⟩ [0, 0, 1]
(.wr 5 ⟨(some 5), none, .mov (.t 18)⟩ [3, 4, 0, 1, 2, 3, 4]
.fin .no) .no))))) (some [3, 5, 9, 10]))))))))
(.ops [⟨(some 19), none, .ibin .add .i64 (.t 10) (.c (.int .i64 1))⟩,
⟨(some 10), none, .mov (.t 19)⟩] (some [3, 9, 10]))))))))
(.seq (.ops [⟨(some 20), none, .mov (.t 3)⟩,
⟨(some 21), none, .call 100 [(.t 20)]⟩,
⟨(some 2), none, .mov (.t 21)⟩] (some [2]))
.ret))))⟩
/-- guidevane/dam.fitErr -/
def ir98 : IFn := ⟨15, [.t 2],
(.seq (.ops [⟨(some 1), none, .box (.t 0)⟩,
⟨(some 2), none, .mov (.c (.int .i64 0))⟩] (some [1]))
(.seq (.ops [⟨(some 4), none, .faddr 1 (.t 1)⟩,
⟨(some 5), none, .sliceA 5 1 (.t 4) none none none⟩,
⟨(some 6), none, .call 80 [(.t 5), (.f 116)]⟩,
⟨(some 3), none, .mov (.t 6)⟩] (some [1, 3]))
(.seq (.ops [⟨(some 7), none, .faddr 0 (.t 1)⟩,
⟨(some 8), none, .load 1 false (.t 7)⟩,
⟨(some 9), none, .call 65 [(.t 8), (.c (.int .i64 1)), (.c (.int .i64 1000000000000))]⟩,
⟨(some 10), none, .mov (.t 9)⟩,
⟨(some 11), (some (10, true)), .mov (.t 3)⟩,
⟨(some 12), (some (10, true)), .un .not (.t 11)⟩,
⟨(some 13), none, .pick (.t 10) (.t 12) (.c (.bool false))⟩,
⟨(some 14), none, .call 64 [(.t 13), (.c (.int .i64 2))]⟩,
⟨(some 2), none, .mov (.t 14)⟩] (some [2]))
.ret)))⟩
/-- guidevane/dam.residuals -/
def ir99 : IFn := ⟨31, [.t 4],
(.seq (.ops [⟨(some 3), none, .box (.t 1)⟩,
⟨(some 4), none, .mov (.c (.slice none 0 0))⟩] (some [0, 3]))
(.seq (.ops [⟨(some 5), none, .mov (.c (.slice none 0 0))⟩] none)
(.seq (.seq (.ops [⟨(some 8), none, .mov (.t 0)⟩,
⟨(some 9), none, .lenV (.t 8)⟩,
⟨(some 10), none, .mov (.c (.int .i64 0))⟩] (some [3, 5, 8, 9, 10]))
(.block 0 (.loop (.seq (.ops [⟨(some 11), none, .ibin .lss .i64 (.t 10) (.t 9)⟩] none)
(.seq (.cond (.t 11)
.skip
(.exit 0))
(.seq (.block 1 (.seq (.ops [⟨(some 12), none, .iaddr 3 (.t 8) (.t 10)⟩,
⟨(some 13), none, .load 3 true (.t 12)⟩,
⟨(some 7), none, .alloc [(.int .i64 0), (.int .i64 0), (.int .i64 0)]⟩,
⟨none, none, .store 3 (.t 7) (.t 13)⟩] (some [3, 5, 7, 8, 9, 10]))
(.draw (.rd 0 ⟨(some 14), none, .mov (.t 5)⟩
(.rd 1 ⟨(some 15), none, .faddr 0 (.t 3)⟩
(.rd 2 ⟨(some 16), none, .load 1 false (.t 15)⟩
(.rd 3 ⟨(some 17), none, .faddr 2 (.t 7)⟩
(.rd 4 ⟨(some 18), none, .load 1 false (.t 17)⟩
(.rd 5 ⟨(some 19), none, .ibin .mul .i64 (.t 16) (.t 18)⟩
(.rd 6 ⟨(some 20), none, .load 6 true (.t 3)⟩
(.rd 7 ⟨(some 21), none, .load 3 true (.t 7)⟩
(.rd 10 ⟨(some 24), none, .faddr 0 (.t 3)⟩
(.rd 11 ⟨(some 25), none, .load 1 false (.t 24)⟩
(.wr 8 ⟨(some 22), none, .call 102 [(.t 20), (.t 21)]⟩ [6, 7]
(.rd 9 ⟨(some 23), none, .ibin .sub .i64 (.t 19) (.t 22)⟩
(.wr 12 ⟨(some 26), none, .call 101 [(.t 23), (.t 25)]⟩ [9, 11, 8]
(.wr 13 ⟨(some 27), none, .bslice 1 2 [(.int .i64 0), (.int .i64 0)] [(0, 2, (.t 26))]⟩ [12]
(.wr 14 ⟨(some 28), none, .append 2 16 (.t 14) (.t 27)⟩ [0, 13, 12]
(.wr 15 ⟨(some 5), none, .mov (.t 28)⟩ [14, 14, 0, 1, 2, 3, 4, 5, 6, 7, 8, 9, 10, 11, 12, 13, 14]
.fin .no) .no) .no) .no)) .no))))))))))) (some [3, 5, 8, 9, 10]))))
(.ops [⟨(some 29), none, .ibin .add .i64 (.t 10) (.c (.int .i64 1))⟩,
⟨(some 10), none, .mov (.t 29)⟩] (some [3, 5, 8, 9, 10]))))))))
(.seq (.ops [⟨(some 30), none, .mov (.t 5)⟩,
⟨(some 4), none, .mov (.t 30)⟩] (some [4]))
.ret))))⟩
/-- guidevane/dam.size -/
def ir100 : IFn := ⟨7, [.t 2],
(.seq (.ops [⟨(some 2), none, .mov (.c (.int .i64 0))⟩] (some [0]))
(.seq (.ops [⟨(some 3), none, .mov (.t 0)⟩,
⟨(some 4), none, .mov (.t 0)⟩,
⟨(some 5), none, .un .neg (.t 4)⟩,
⟨(some 6), none, .minmax true (.t 3) [(.t 5)]⟩,
⟨(some 2), none, .mov (.t 6)⟩] (some [2]))
.ret))⟩
/-- guidevane/dam.rounded -/
def ir101 : IFn := ⟨27, [.cell 4 2 true],
(.seq (.ops [⟨(some 4), none, .alloc [(.int .i64 0), (.int .i64 0)]⟩] none)
(.seq (.ops [⟨(some 7), none, .mov (.t 0)⟩,
⟨(some 8), none, .mov (.t 1)⟩,
⟨(some 9), none, .ibin .quo .i64 (.t 7) (.t 8)⟩,
⟨(some 5), none, .mov (.t 9)⟩] (some [0, 1, 4, 5]))
(.seq (.seq (.ops [⟨(some 10), none, .mov (.t 0)⟩,
⟨(some 11), none, .mov (.t 1)⟩,
⟨(some 12), none, .ibin .rem .i64 (.t 10) (.t 11)⟩,
⟨(some 13), none, .ibin .lss .i64 (.t 12) (.c (.int .i64 0))⟩] (some [0, 1, 4, 5, 13]))
(.cond (.t 13)
(.ops [⟨(some 14), none, .mov (.t 5)⟩,
⟨(some 15), none, .ibin .sub .i64 (.t 14) (.c (.int .i64 1))⟩,
⟨(some 5), none, .mov (.t 15)⟩] (some [0, 1, 4, 5]))
.skip))
(.seq (.ops [⟨(some 16), none, .mov (.t 5)⟩,
⟨(some 6), none, .mov (.t 16)⟩] (some [0, 1, 4, 5, 6]))
(.seq (.seq (.ops [⟨(some 17), none, .mov (.t 5)⟩,
⟨(some 18), none, .mov (.t 1)⟩,
⟨(some 19), none, .ibin .mul .i64 (.t 17) (.t 18)⟩,
⟨(some 20), none, .mov (.t 0)⟩,
⟨(some 21), none, .ibin .neq .i64 (.t 19) (.t 20)⟩] (some [4, 5, 6, 21]))
(.cond (.t 21)
(.ops [⟨(some 22), none, .mov (.t 6)⟩,
⟨(some 23), none, .ibin .add .i64 (.t 22) (.c (.int .i64 1))⟩,
⟨(some 6), none, .mov (.t 23)⟩] (some [4, 5, 6]))
.skip))
(.seq (.ops [⟨(some 24), none, .mov (.t 5)⟩,
⟨(some 25), none, .mov (.t 6)⟩,
⟨(some 26), none, .build [(.int .i64 0), (.int .i64 0)] [(0, 1, (.t 24)), (1, 1, (.t 25))]⟩,
⟨none, none, .store 2 (.t 4) (.t 26)⟩] (some [4]))
.ret))))))⟩
/-- guidevane/dam.whole -/
def ir102 : IFn := ⟨9, [.t 4],
(.seq (.ops [⟨(some 2), none, .box (.t 0)⟩,
⟨(some 3), none, .box (.t 1)⟩,
⟨(some 4), none, .mov (.c (.int .i64 0))⟩] (some [2, 3]))
(.seq (.draw (.rd 0 ⟨(some 5), none, .load 6 true (.t 2)⟩
(.rd 1 ⟨(some 6), none, .load 3 true (.t 3)⟩
(.wr 2 ⟨(some 7), none, .call 95 [(.c (.int .i64 31))]⟩ []
(.wr 3 ⟨(some 8), none, .call 117 [(.t 5), (.t 6), (.t 7)]⟩ [0, 1, 2, 2]
(.rd 4 ⟨(some 4), none, .mov (.t 8)⟩
.fin) .no) .no))) (some [4]))
.ret))⟩
/-- slices.IndexFunc[[]guidevane/api.DamPerson,guidevane/api.DamPerson] -/
def ir110 : IFn := ⟨19, [.t 4],
(.seq (.ops [⟨(some 4), none, .mov (.c (.int .i64 0))⟩] (some [0, 1]))
(.seq (.seq (.ops [⟨(some 6), none, .mov (.t 0)⟩,
⟨(some 7), none, .lenV (.t 6)⟩,
⟨(some 8), none, .mov (.c (.int .i64 0))⟩] (some [0, 1, 7, 8]))
(.block 0 (.loop (.seq (.ops [⟨(some 9), none, .ibin .lss .i64 (.t 8) (.t 7)⟩] none)
(.seq (.cond (.t 9)
.skip
(.exit 0))
(.seq (.block 1 (.seq (.ops [⟨(some 10), none, .mov (.t 8)⟩,
⟨(some 5), none, .mov (.t 10)⟩] (some [0, 1, 5, 7, 8]))
(.seq (.ops [⟨(some 11), none, .mov (.t 1)⟩,
⟨(some 12), none, .mov (.t 0)⟩,
⟨(some 13), none, .mov (.t 5)⟩,
⟨(some 14), none, .iaddr 2 (.t 12) (.t 13)⟩,
⟨(some 15), none, .load 2 true (.t 14)⟩,
⟨(some 16), none, .callv (.t 11) [(.t 15)]⟩] (some [0, 1, 5, 7, 8, 16]))
(.cond (.t 16)
(.seq (.ops [⟨(some 17), none, .mov (.t 5)⟩,
⟨(some 4), none, .mov (.t 17)⟩] (some [4]))
.ret)
.skip))))
(.ops [⟨(some 18), none, .ibin .add .i64 (.t 8) (.c (.int .i64 1))⟩,
⟨(some 8), none, .mov (.t 18)⟩] (some [0, 1, 7, 8]))))))))
(.seq (.ops [⟨(some 4), none, .mov (.c (.int .i64 (-1)))⟩] none)
.ret)))⟩
/-- guidevane/dam.isLetter -/
def ir111 : IFn := ⟨11, [.t 2],
(.seq (.ops [⟨(some 2), none, .mov (.c (.bool false))⟩] (some [0]))
(.seq (.ops [⟨(some 3), none, .mov (.t 0)⟩,
⟨(some 4), none, .conv .i64 (.t 3)⟩,
⟨(some 5), none, .call 65 [(.t 4), (.c (.int .i64 97)), (.c (.int .i64 122))]⟩,
⟨(some 6), none, .mov (.t 5)⟩,
⟨(some 7), (some (6, false)), .mov (.t 0)⟩,
⟨(some 8), (some (6, false)), .conv .i64 (.t 7)⟩,
⟨(some 9), (some (6, false)), .call 65 [(.t 8), (.c (.int .i64 65)), (.c (.int .i64 90))]⟩,
⟨(some 10), none, .pick (.t 6) (.c (.bool true)) (.t 9)⟩,
⟨(some 2), none, .mov (.t 10)⟩] (some [2]))
.ret))⟩
/-- slices.BinarySearch[[]int,int] -/
def ir112 : IFn := ⟨54, [.t 4, .t 5],
(.seq (.ops [⟨(some 4), none, .mov (.c (.int .i64 0))⟩,
⟨(some 5), none, .mov (.c (.bool false))⟩] (some [0, 1]))
(.seq (.ops [⟨(some 10), none, .mov (.t 0)⟩,
⟨(some 11), none, .lenV (.t 10)⟩,
⟨(some 6), none, .mov (.t 11)⟩] (some [0, 1, 6]))
(.seq (.ops [⟨(some 12), none, .mov (.t 6)⟩,
⟨(some 7), none, .mov (.c (.int .i64 0))⟩,
⟨(some 8), none, .mov (.t 12)⟩] (some [0, 1, 6, 7, 8]))
(.seq (.block 0 (.loop (.seq (.seq (.ops [⟨(some 13), none, .mov (.t 7)⟩,
⟨(some 14), none, .mov (.t 8)⟩,
⟨(some 15), none, .ibin .lss .i64 (.t 13) (.t 14)⟩] (some [0, 1, 6, 7, 8, 15]))
(.cond (.t 15)
.skip
(.exit 0)))
(.block 1 (.seq (.ops [⟨(some 16), none, .mov (.t 7)⟩,
⟨(some 17), none, .mov (.t 8)⟩,
⟨(some 18), none, .ibin .add .i64 (.t 16) (.t 17)⟩,
⟨(some 19), none, .conv .u64 (.t 18)⟩,
⟨(some 20), none, .shift .shr .u64 (.t 19) (.c (.int .u64 1))⟩,
⟨(some 21), none, .conv .i64 (.t 20)⟩,
⟨(some 9), none, .mov (.t 21)⟩] (some [0, 1, 6, 7, 8, 9]))
(.seq (.ops [⟨(some 22), none, .mov (.t 0)⟩,
⟨(some 23), none, .mov (.t 9)⟩,
⟨(some 24), none, .iaddr 1 (.t 22) (.t 23)⟩,
⟨(some 25), none, .load 1 false (.t 24)⟩,
⟨(some 26), none, .mov (.t 1)⟩,
⟨(some 27), none, .call 122 [(.t 25), (.t 26)]⟩] (some [0, 1, 6, 7, 8, 9, 27]))
(.cond (.t 27)
(.ops [⟨(some 28), none, .mov (.t 9)⟩,
⟨(some 29), none, .ibin .add .i64 (.t 28) (.c (.int .i64 1))⟩,
⟨(some 7), none, .mov (.t 29)⟩] (some [0, 1, 6, 7, 8]))
(.ops [⟨(some 30), none, .mov (.t 9)⟩,
⟨(some 8), none, .mov (.t 30)⟩] (some [0, 1, 6, 7, 8])))))))))
(.seq (.ops [⟨(some 31), none, .mov (.t 7)⟩,
⟨(some 32), none, .mov (.t 7)⟩,
⟨(some 33), none, .mov (.t 6)⟩,
⟨(some 34), none, .ibin .lss .i64 (.t 32) (.t 33)⟩,
⟨(some 35), none, .mov (.t 34)⟩,
⟨(some 36), (some (35, true)), .mov (.t 0)⟩,
⟨(some 37), (some (35, true)), .mov (.t 7)⟩,
⟨(some 38), (some (35, true)), .iaddr 1 (.t 36) (.t 37)⟩,
⟨(some 39), (some (35, true)), .load 1 false (.t 38)⟩,
⟨(some 40), (some (35, true)), .mov (.t 1)⟩,
⟨(some 41), (some (35, true)), .ibin .eql .i64 (.t 39) (.t 40)⟩,
⟨(some 42), (some (35, true)), .mov (.t 41)⟩,
⟨(some 43), (some (42, false)), .mov (.t 0)⟩,
⟨(some 44), (some (42, false)), .mov (.t 7)⟩,
⟨(some 45), (some (42, false)), .iaddr 1 (.t 43) (.t 44)⟩,
⟨(some 46), (some (42, false)), .load 1 false (.t 45)⟩,
⟨(some 47), (some (42, false)), .call 123 [(.t 46)]⟩,
⟨(some 48), (some (42, false)), .mov (.t 47)⟩,
⟨(some 49), (some (48, true)), .mov (.t 1)⟩,
⟨(some 50), (some (48, true)), .call 123 [(.t 49)]⟩,
⟨(some 51), (some (42, false)), .pick (.t 48) (.t 50) (.c (.bool false))⟩,
⟨(some 52), (some (35, true)), .pick (.t 42) (.c (.bool true)) (.t 51)⟩,
⟨(some 53), none, .pick (.t 35) (.t 52) (.c (.bool false))⟩,
⟨(some 4), none, .mov (.t 31)⟩,
⟨(some 5), none, .mov (.t 53)⟩] (some [4, 5]))
.ret)))))⟩
/-- (guidevane/dam.model).has -/
def ir114 : IFn := ⟨10, [.t 4],
(.seq (.ops [⟨(some 4), none, .mov (.c (.bool false))⟩] (some [0, 1]))
(.seq (.ops [⟨(some 5), none, .mov (.t 0)⟩,
⟨(some 6), none, .mov (.t 1)⟩,
⟨(some 7), none, .shift .shr .i64 (.t 5) (.t 6)⟩,
⟨(some 8), none, .ibin .and .i64 (.t 7) (.c (.int .i64 1))⟩,
⟨(some 9), none, .ibin .eql .i64 (.t 8) (.c (.int .i64 1))⟩,
⟨(some 4), none, .mov (.t 9)⟩] (some [4]))
.ret))⟩
/-- guidevane/dam.orders -/
def ir115 : IFn := ⟨4, [.t 2],
(.seq (.ops [⟨(some 1), none, .box (.t 0)⟩,
⟨(some 2), none, .mov (.c .nilFunc)⟩] (some [1]))
(.seq (.ops [⟨(some 3), none, .mkfunc 124 [] [(.t 1)]⟩,
⟨(some 2), none, .mov (.t 3)⟩] (some [2]))
.ret))⟩
/-- guidevane/dam.fitErr$1 -/
def ir116 : IFn := ⟨6, [.t 2],
(.seq (.ops [⟨(some 2), none, .mov (.c (.bool false))⟩] (some [0]))
(.seq (.ops [⟨(some 3), none, .mov (.t 0)⟩,
⟨(some 4), none, .call 78 [(.t 3), (.c (.int .i64 1000000000000))]⟩,
⟨(some 5), none, .un .not (.t 4)⟩,
⟨(some 2), none, .mov (.t 5)⟩] (some [2]))
.ret))⟩
/-- guidevane/dam.given -/
def ir117 : IFn := ⟨31, [.t 6],
(.seq (.ops [⟨(some 3), none, .box (.t 0)⟩,
⟨(some 4), none, .box (.t 1)⟩,
⟨(some 6), none, .mov (.c (.int .i64 0))⟩] (some [2, 3, 4]))
(.seq (.ops [⟨(some 7), none, .mov (.c (.int .i64 0))⟩] none)
(.seq (.ops [⟨(some 11), none, .load 3 true (.t 4)⟩,
⟨(some 12), none, .call 77 [(.t 11)]⟩,
⟨(some 8), none, .alloc (List.replicate 5 (.int .i64 0))⟩,
⟨none, none, .store 5 (.t 8) (.t 12)⟩] (some [2, 3, 7, 8]))
(.seq (.seq (.ops [⟨(some 13), none, .mov (.t 2)⟩,
⟨(some 14), none, .lenV (.t 13)⟩,
⟨(some 15), none, .mov (.c (.int .i64 0))⟩] (some [3, 7, 8, 13, 14, 15]))
(.block 0 (.loop (.seq (.ops [⟨(some 16), none, .ibin .lss .i64 (.t 15) (.t 14)⟩] none)
(.seq (.cond (.t 16)
.skip
(.exit 0))
(.seq (.block 1 (.seq (.ops [⟨(some 17), none, .iaddr 1 (.t 13) (.t 15)⟩,
⟨(some 18), none, .load 1 false (.t 17)⟩,
⟨(some 10), none, .mov (.t 18)⟩] (some [3, 7, 8, 10, 13, 14, 15]))
(.draw (.rd 0 ⟨(some 19), none, .mov (.t 7)⟩
(.rd 1 ⟨(some 20), none, .mov (.t 10)⟩
(.rd 2 ⟨(some 21), none, .faddr 1 (.t 3)⟩
(.rd 3 ⟨(some 22), none, .iaddrA 5 1 (.t 21) (.t 20)⟩
(.rd 4 ⟨(some 23), none, .load 1 false (.t 22)⟩
(.rd 5 ⟨(some 24), none, .mov (.t 10)⟩
(.rd 6 ⟨(some 25), none, .iaddrA 5 1 (.t 8) (.t 24)⟩
(.rd 7 ⟨(some 26), none, .load 1 false (.t 25)⟩
(.rd 8 ⟨(some 27), none, .ibin .mul .i64 (.t 23) (.t 26)⟩
(.rd 9 ⟨(some 28), none, .ibin .add .i64 (.t 19) (.t 27)⟩
(.wr 10 ⟨(some 7), none, .mov (.t 28)⟩ [9, 0, 1, 2, 3, 4, 5, 6, 7, 8, 9]
.fin .no))))))))))) (some [3, 7, 8, 13, 14, 15]))))
(.ops [⟨(some 29), none, .ibin .add .i64 (.t 15) (.c (.int .i64 1))⟩,
⟨(some 15), none, .mov (.t 29)⟩] (some [3, 7, 8, 13, 14, 15]))))))))
(.seq (.ops [⟨(some 30), none, .mov (.t 7)⟩,
⟨(some 6), none, .mov (.t 30)⟩] (some [6]))
.ret)))))⟩
/-- cmp.isNaN[int] -/
def ir121 : IFn := ⟨6, [.t 2],
(.seq (.ops [⟨(some 2), none, .mov (.c (.bool false))⟩] (some [0]))
(.seq (.ops [⟨(some 3), none, .mov (.t 0)⟩,
⟨(some 4), none, .mov (.t 0)⟩,
⟨(some 5), none, .ibin .neq .i64 (.t 3) (.t 4)⟩,
⟨(some 2), none, .mov (.t 5)⟩] (some [2]))
.ret))⟩
/-- cmp.Less[int] -/
def ir122 : IFn := ⟨17, [.t 4],
(.seq (.ops [⟨(some 4), none, .mov (.c (.bool false))⟩] (some [0, 1]))
(.seq (.ops [⟨(some 5), none, .mov (.t 0)⟩,
⟨(some 6), none, .call 121 [(.t 5)]⟩,
⟨(some 7), none, .mov (.t 6)⟩,
⟨(some 8), (some (7, true)), .mov (.t 1)⟩,
⟨(some 9), (some (7, true)), .call 121 [(.t 8)]⟩,
⟨(some 10), (some (7, true)), .un .not (.t 9)⟩,
⟨(some 11), none, .pick (.t 7) (.t 10) (.c (.bool false))⟩,
⟨(some 12), none, .mov (.t 11)⟩,
⟨(some 13), (some (12, false)), .mov (.t 0)⟩,
⟨(some 14), (some (12, false)), .mov (.t 1)⟩,
⟨(some 15), (some (12, false)), .ibin .lss .i64 (.t 13) (.t 14)⟩,
⟨(some 16), none, .pick (.t 12) (.c (.bool true)) (.t 15)⟩,
⟨(some 4), none, .mov (.t 16)⟩] (some [4]))
.ret))⟩
/-- slices.isNaN[int] -/
def ir123 : IFn := ⟨6, [.t 2],
(.seq (.ops [⟨(some 2), none, .mov (.c (.bool false))⟩] (some [0]))
(.seq (.ops [⟨(some 3), none, .mov (.t 0)⟩,
⟨(some 4), none, .mov (.t 0)⟩,
⟨(some 5), none, .ibin .neq .i64 (.t 3) (.t 4)⟩,
⟨(some 2), none, .mov (.t 5)⟩] (some [2]))
.ret))⟩
/-- guidevane/dam.orders$1 -/
def ir124 : IFn := ⟨6, [],
(.ops [⟨(some 3), none, .load 1 false (.t 1)⟩,
⟨(some 4), none, .mov (.t 0)⟩,
⟨(some 5), none, .call 125 [(.c (.slice none 0 0)), (.t 3), (.c (.int .i64 1)), (.t 4)]⟩] (some []))⟩
/-- guidevane/dam.ordered -/
def ir125 : IFn := ⟨38, [.t 8],
(.seq (.ops [⟨(some 8), none, .mov (.c (.bool false))⟩] (some [0, 1, 2, 3]))
(.seq (.seq (.ops [⟨(some 10), none, .mov (.t 0)⟩,
⟨(some 11), none, .lenV (.t 10)⟩,
⟨(some 12), none, .mov (.t 1)⟩,
⟨(some 13), none, .ibin .eql .i64 (.t 11) (.t 12)⟩] (some [0, 1, 2, 3, 13]))
(.cond (.t 13)
(.seq (.ops [⟨(some 14), none, .mov (.t 3)⟩,
⟨(some 15), none, .mov (.t 0)⟩,
⟨(some 16), none, .mov (.t 2)⟩,
⟨(some 17), none, .callv (.t 14) [(.t 15), (.t 16)]⟩,
⟨(some 8), none, .mov (.t 17)⟩] (some [8]))
.ret)
.skip))
(.seq (.seq (.ops [⟨(some 18), none, .mov (.t 1)⟩,
⟨(some 19), none, .mov (.c (.int .i64 0))⟩] none)
(.block 0 (.loop (.seq (.ops [⟨(some 20), none, .ibin .lss .i64 (.t 19) (.t 18)⟩] none)
(.seq (.cond (.t 20)
.skip
(.exit 0))
(.seq (.block 1 (.seq (.ops [⟨(some 21), none, .mov (.t 19)⟩,
⟨(some 9), none, .mov (.t 21)⟩] (some [0, 1, 2, 3, 9, 18, 19]))
(.seq (.seq (.ops [⟨(some 22), none, .mov (.t 0)⟩,
⟨(some 23), none, .mov (.t 9)⟩,
⟨(some 24), none, .call 138 [(.t 22), (.t 23)]⟩] (some [0, 1, 2, 3, 9, 18, 19, 24]))
(.cond (.t 24)
(.exit 1)
.skip))
(.seq (.seq (.ops [⟨(some 25), none, .mov (.t 0)⟩,
⟨(some 26), none, .call 73 [(.t 25)]⟩,
⟨(some 27), none, .mov (.t 9)⟩,
⟨(some 28), none, .bslice 1 1 [(.int .i64 0)] [(0, 1, (.t 27))]⟩,
⟨(some 29), none, .append 1 8 (.t 26) (.t 28)⟩,
⟨(some 30), none, .mov (.t 1)⟩,
⟨(some 31), none, .mov (.t 2)⟩,
⟨(some 32), none, .mov (.t 3)⟩,
⟨(some 33), none, .call 125 [(.t 29), (.t 30), (.t 31), (.t 32)]⟩,
⟨(some 34), none, .un .not (.t 33)⟩] (some [0, 1, 2, 3, 18, 19, 34]))
(.cond (.t 34)
(.seq (.ops [⟨(some 8), none, .mov (.c (.bool false))⟩] none)
.ret)
.skip))
(.ops [⟨(some 35), none, .mov (.t 2)⟩,
⟨(some 36), none, .un .neg (.t 35)⟩,
⟨(some 2), none, .mov (.t 36)⟩] (some [0, 1, 2, 3, 18, 19]))))))
(.ops [⟨(some 37), none, .ibin .add .i64 (.t 19) (.c (.int .i64 1))⟩,
⟨(some 19), none, .mov (.t 37)⟩] (some [0, 1, 2, 3, 18, 19]))))))))
(.seq (.ops [⟨(some 8), none, .mov (.c (.bool true))⟩] none)
.ret))))⟩
/-- slices.Contains[[]int,int] -/
def ir138 : IFn := ⟨9, [.t 4],
(.seq (.ops [⟨(some 4), none, .mov (.c (.bool false))⟩] (some [0, 1]))
(.seq (.ops [⟨(some 5), none, .mov (.t 0)⟩,
⟨(some 6), none, .mov (.t 1)⟩,
⟨(some 7), none, .call 145 [(.t 5), (.t 6)]⟩,
⟨(some 8), none, .ibin .geq .i64 (.t 7) (.c (.int .i64 0))⟩,
⟨(some 4), none, .mov (.t 8)⟩] (some [4]))
.ret))⟩
/-- slices.Index[[]int,int] -/
def ir145 : IFn := ⟨19, [.t 4],
(.seq (.ops [⟨(some 4), none, .mov (.c (.int .i64 0))⟩] (some [0, 1]))
(.seq (.seq (.ops [⟨(some 6), none, .mov (.t 0)⟩,
⟨(some 7), none, .lenV (.t 6)⟩,
⟨(some 8), none, .mov (.c (.int .i64 0))⟩] (some [0, 1, 7, 8]))
(.block 0 (.loop (.seq (.ops [⟨(some 9), none, .ibin .lss .i64 (.t 8) (.t 7)⟩] none)
(.seq (.cond (.t 9)
.skip
(.exit 0))
(.seq (.block 1 (.seq (.ops [⟨(some 10), none, .mov (.t 8)⟩,
⟨(some 5), none, .mov (.t 10)⟩] (some [0, 1, 5, 7, 8]))
(.seq (.ops [⟨(some 11), none, .mov (.t 1)⟩,
⟨(some 12), none, .mov (.t 0)⟩,
⟨(some 13), none, .mov (.t 5)⟩,
⟨(some 14), none, .iaddr 1 (.t 12) (.t 13)⟩,
⟨(some 15), none, .load 1 false (.t 14)⟩,
⟨(some 16), none, .ibin .eql .i64 (.t 11) (.t 15)⟩] (some [0, 1, 5, 7, 8, 16]))
(.cond (.t 16)
(.seq (.ops [⟨(some 17), none, .mov (.t 5)⟩,
⟨(some 4), none, .mov (.t 17)⟩] (some [4]))
.ret)
.skip))))
(.ops [⟨(some 18), none, .ibin .add .i64 (.t 8) (.c (.int .i64 1))⟩,
⟨(some 8), none, .mov (.t 18)⟩] (some [0, 1, 7, 8]))))))))
(.seq (.ops [⟨(some 4), none, .mov (.c (.int .i64 (-1)))⟩] none)
.ret)))⟩

end Go.Proofs.Ytacgibkgojnfeaa.AM
