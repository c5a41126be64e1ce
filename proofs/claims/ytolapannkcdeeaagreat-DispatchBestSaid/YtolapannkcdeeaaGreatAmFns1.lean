/- The functions in the small language. Conditions: none. -/
import Derived.Test.YtolapannkcdeeaaGreatAmFns
namespace Go.Proofs.YtolapannkcdeeaaGreat.AM
set_option linter.unusedSimpArgs false
set_option linter.unusedVariables false
open Go Go.RowKit
def ir348 : IFn := ⟨184, [.t 4, .t 5],
(.seq (.ops [opO 2 (.box (.t 0)),
opO 3 (.box (.t 1)),
opO 4 (.mov (.c (.slice none 0 0))),
opO 5 (.mov (.c (.slice none 0 0)))] (some [2, 3]))
(.seq (.draw (.rd 0 (fO 18 3 3)
(.rd 1 (lO 19 1 18)
(.rd 2 (nO 20 19)
(.rd 3 (fO 21 1 2)
(.rd 4 (lO 22 1 21)
(.rd 5 (fO 23 0 2)
(.rd 6 (lO 24 1 23)
(.rd 7 (opO 25 (.ibin .sub .i64 (.t 22) (.t 24)))
(.rd 8 (pO 26 25 1)
(.rd 9 (fO 27 2 2)
(.rd 10 (lO 28 1 27)
(.rd 11 (nO 29 28)
(.rd 12 (opO 30 (.ibin .mul .i64 (.t 26) (.t 29)))
(.rd 13 (mvO 6 20)
(.rd 14 (mvO 7 30)
.fin))))))))))))))) (some [2, 3, 6, 7]))
(.seq (.draw (.rd 0 (mvO 31 6)
(.rd 1 (pO 32 31 1)
(.rd 3 (mvO 34 6)
(.rd 4 (pO 35 34 1)
(.wr 2 (opO 33 (.mslice 1 24 [(.slice none 0 0)] (.t 32) (.t 32))) [1, 1]
(.rd 6 (mvO 8 33)
(.wr 5 (opO 36 (.mslice 1 24 [(.slice none 0 0)] (.t 35) (.t 35))) [4, 4]
(.rd 7 (mvO 9 36)
.fin) .no))
(.wr 5 (opO 36 (.mslice 1 24 [(.slice none 0 0)] (.t 35) (.t 35))) [4, 4]
(.wr 2 (opO 33 (.mslice 1 24 [(.slice none 0 0)] (.t 32) (.t 32))) [1, 1]
(.rd 6 (mvO 8 33)
(.rd 7 (mvO 9 36)
.fin)) .no) .no)))))) (some [2, 3, 6, 7, 8, 9]))
(.seq (.seq (.ops [mvO 37 6,
mvO 10 37] (some [2, 3, 6, 7, 8, 9, 10]))
(.block 0 (.loop (.seq (.seq (.ops [mvO 38 10,
opO 39 (.ibin .geq .i64 (.t 38) (ci 0))] (some [2, 3, 6, 7, 8, 9, 10, 39]))
(.cond (.t 39)
.skip
(.exit 0)))
(.seq (.block 1 (.seq (.draw (.rd 0 (mvO 42 8)
(.rd 1 (mvO 43 10)
(.rd 2 (mvO 44 9)
(.rd 3 (mvO 45 10)
(.rd 4 (mvO 46 7)
(.rd 6 (mvO 48 7)
(.wr 5 (opO 47 (.mslice 1 8 [(.int .i64 0)] (.t 46) (.t 46))) [4, 4]
(.rd 8 (iO 50 1 42 43)
(.wr 7 (opO 49 (.mslice 1 1 [(.bool false)] (.t 48) (.t 48))) [6, 6]
(.wr 9 ⟨none, none, .store 1 (.t 50) (.t 47)⟩ [8, 5, 0, 1, 4, 5]
(.rd 10 (iO 51 1 44 45)
(.wr 11 ⟨none, none, .store 1 (.t 51) (.t 49)⟩ [10, 7, 9, 0, 1, 2, 3, 4, 5, 6, 7, 8, 9]
.fin .no)) .no)
(.wr 9 ⟨none, none, .store 1 (.t 50) (.t 47)⟩ [8, 5, 0, 1, 4, 5]
(.wr 7 (opO 49 (.mslice 1 1 [(.bool false)] (.t 48) (.t 48))) [6, 6]
(.rd 10 (iO 51 1 44 45)
(.wr 11 ⟨none, none, .store 1 (.t 51) (.t 49)⟩ [10, 7, 9, 0, 1, 2, 3, 4, 5, 6, 7, 8, 9]
.fin .no)) .no) .no)))
(.wr 7 (opO 49 (.mslice 1 1 [(.bool false)] (.t 48) (.t 48))) [6, 6]
(.wr 5 (opO 47 (.mslice 1 8 [(.int .i64 0)] (.t 46) (.t 46))) [4, 4]
(.rd 8 (iO 50 1 42 43)
(.wr 9 ⟨none, none, .store 1 (.t 50) (.t 47)⟩ [8, 5, 0, 1, 4, 5]
(.rd 10 (iO 51 1 44 45)
(.wr 11 ⟨none, none, .store 1 (.t 51) (.t 49)⟩ [10, 7, 9, 0, 1, 2, 3, 4, 5, 6, 7, 8, 9]
.fin .no)) .no)) .no) .no)))))))) (some [2, 3, 6, 7, 8, 9, 10]))
(.seq (.ops [mO 11 0] none)
(.block 2 (.loop (.seq (.seq (.ops [mvO 52 11,
mvO 53 7,
sO 54 52 53] (some [2, 3, 6, 7, 8, 9, 10, 11, 54]))
(.cond (.t 54)
.skip
(.exit 2)))
(.seq (.block 3 (.seq (.draw (.rd 0 (fO 57 0 2)
(.rd 1 (lO 58 1 57)
(.rd 2 (mvO 59 11)
(.rd 3 (fO 60 2 2)
(.rd 4 (lO 61 1 60)
(.rd 5 (nO 62 61)
(.rd 6 (opO 63 (.ibin .quo .i64 (.t 59) (.t 62)))
(.rd 7 (opO 64 (.ibin .add .i64 (.t 58) (.t 63)))
(.rd 8 (mvO 65 11)
(.rd 9 (fO 66 2 2)
(.rd 10 (lO 67 1 66)
(.rd 11 (nO 68 67)
(.rd 12 (opO 69 (.ibin .rem .i64 (.t 65) (.t 68)))
(.rd 13 (mvO 12 64)
(.rd 14 (mvO 13 69)
.fin))))))))))))))) (some [2, 3, 6, 7, 8, 9, 10, 11, 12, 13]))
(.seq (.seq (.ops [mvO 70 10,
mvO 71 6,
opO 72 (.ibin .eql .i64 (.t 70) (.t 71))] (some [2, 3, 6, 7, 8, 9, 10, 11, 12, 13, 72]))
(.cond (.t 72)
(.seq (.draw (.rd 0 (mvO 73 8)
(.rd 1 (mvO 74 10)
(.rd 2 (iO 75 1 73 74)
(.rd 3 (lO 76 1 75)
(.rd 4 (mvO 77 11)
(.rd 5 (mvO 78 9)
(.rd 6 (mvO 79 10)
(.rd 7 (iO 80 1 78 79)
(.rd 8 (lO 81 1 80)
(.rd 9 (mvO 82 11)
(.rd 10 (fO 83 2 3)
(.rd 11 (lO 84 1 83)
(.rd 12 (mvO 85 12)
(.rd 13 (opO 86 (.ibin .mul .i64 (.t 84) (.t 85)))
(.rd 14 (iO 87 1 76 77)
(.wr 15 ⟨none, none, .store 1 (.t 87) (.t 86)⟩ [14, 13, 0, 1, 2, 3, 4, 8, 10, 11, 12, 13]
(.rd 16 (iO 88 1 81 82)
(.wr 17 ⟨none, none, .store 1 (.t 88) (.c (.bool true))⟩ [16, 15, 0, 1, 2, 3, 4, 5, 6, 7, 8, 9, 10, 11, 12, 13, 14, 15]
.fin .no)) .no)))))))))))))))) (some [2, 3, 6, 7, 8, 9, 10, 11]))
(.exit 3))
.skip))
(.seq (.ops [mO 14 0] none)
(.block 4 (.loop (.seq (.seq (.ops [mvO 89 14,
fO 90 2 2,
lO 91 1 90,
nO 92 91,
sO 93 89 92] (some [2, 3, 6, 7, 8, 9, 10, 11, 12, 13, 14, 93]))
(.cond (.t 93)
.skip
(.exit 4)))
(.seq (.block 5 (.seq (.draw (.rd 0 (mvO 96 12)
(.rd 1 (fO 97 3 3)
(.rd 2 (lO 98 1 97)
(.rd 3 (mvO 99 10)
(.rd 4 (iO 100 3 98 99)
(.rd 5 (fO 101 2 100)
(.rd 6 (lO 102 1 101)
(.rd 7 (opO 103 (.ibin .add .i64 (.t 96) (.t 102)))
(.rd 8 (fO 104 2 2)
(.rd 9 (lO 105 1 104)
(.rd 10 (mvO 106 14)
(.rd 11 (iO 107 4 105 106)
(.rd 12 (fO 108 1 107)
(.rd 13 (lO 109 1 108)
(.rd 14 (opO 110 (.ibin .add .i64 (.t 103) (.t 109)))
(.rd 15 (mvO 15 110)
.fin)))))))))))))))) (some [2, 3, 6, 7, 8, 9, 10, 11, 12, 13, 14, 15]))
(.seq (.seq (.ops [mvO 111 15,
fO 112 0 2,
lO 113 1 112,
fO 114 1 2,
lO 115 1 114,
opO 116 (.call 15 [(.t 111), (.t 113), (.t 115)]),
opO 117 (.un .not (.t 116))] (some [2, 3, 6, 7, 8, 9, 10, 11, 12, 13, 14, 15, 117]))
(.cond (.t 117)
(.exit 5)
.skip))
(.seq (.ops [lA 118 3 2,
mvO 119 15,
mvO 120 14,
opO 121 (.call 349 [(.t 118), (.t 119), (.t 120)]),
mvO 16 121] (some [2, 3, 6, 7, 8, 9, 10, 11, 12, 13, 14, 16]))
(.seq (.draw (.rd 0 (lA 122 3 2)
(.rd 1 (fO 123 3 3)
(.rd 2 (lO 124 1 123)
(.rd 3 (mvO 125 10)
(.rd 4 (iO 126 3 124 125)
(.rd 5 (lA 127 3 126)
(.rd 6 (mvO 128 14)
(.rd 7 (mvO 129 13)
(.rd 9 (mvO 131 8)
(.rd 10 (mvO 132 10)
(.rd 11 (pO 133 132 1)
(.rd 12 (iO 134 1 131 133)
(.rd 13 (lO 135 1 134)
(.rd 14 (mvO 136 16)
(.rd 15 (iO 137 1 135 136)
(.rd 16 (lO 138 1 137)
(.wr 8 (opO 130 (.call 350 [(.t 122), (.t 127), (.t 128), (.t 129)])) [0, 5, 6, 7]
(.rd 17 (opO 139 (.ibin .add .i64 (.t 130) (.t 138)))
(.rd 18 (mvO 17 139)
.fin)) .no))))))))))))))))) (some [2, 3, 6, 7, 8, 9, 10, 11, 12, 13, 14, 16, 17]))
(.seq (.ops [mvO 140 9,
mvO 141 10,
pO 142 141 1,
iO 143 1 140 142,
lO 144 1 143,
mvO 145 16,
iO 146 1 144 145,
lO 147 1 146,
mvO 148 147,
⟨(some 149), (some (148, true)), .mov (.t 9)⟩,
⟨(some 150), (some (148, true)), .mov (.t 10)⟩,
⟨(some 151), (some (148, true)), .iaddr 1 (.t 149) (.t 150)⟩,
⟨(some 152), (some (148, true)), .load 1 false (.t 151)⟩,
⟨(some 153), (some (148, true)), .mov (.t 11)⟩,
⟨(some 154), (some (148, true)), .iaddr 1 (.t 152) (.t 153)⟩,
⟨(some 155), (some (148, true)), .load 1 false (.t 154)⟩,
⟨(some 156), (some (148, true)), .un .not (.t 155)⟩,
⟨(some 157), (some (148, true)), .mov (.t 156)⟩,
⟨(some 158), (some (157, false)), .mov (.t 17)⟩,
⟨(some 159), (some (157, false)), .mov (.t 8)⟩,
⟨(some 160), (some (157, false)), .mov (.t 10)⟩,
⟨(some 161), (some (157, false)), .iaddr 1 (.t 159) (.t 160)⟩,
⟨(some 162), (some (157, false)), .load 1 false (.t 161)⟩,
⟨(some 163), (some (157, false)), .mov (.t 11)⟩,
⟨(some 164), (some (157, false)), .iaddr 1 (.t 162) (.t 163)⟩,
⟨(some 165), (some (157, false)), .load 1 false (.t 164)⟩,
⟨(some 166), (some (157, false)), .ibin .gtr .i64 (.t 158) (.t 165)⟩,
⟨(some 167), (some (148, true)), .pick (.t 157) (.c (.bool true)) (.t 166)⟩,
opO 168 (.pick (.t 148) (.t 167) (.c (.bool false)))] (some [2, 3, 6, 7, 8, 9, 10, 11, 12, 13, 14, 17, 168]))
(.cond (.t 168)
(.draw (.rd 0 (mvO 169 8)
(.rd 1 (mvO 170 10)
(.rd 2 (iO 171 1 169 170)
(.rd 3 (lO 172 1 171)
(.rd 4 (mvO 173 11)
(.rd 5 (mvO 174 9)
(.rd 6 (mvO 175 10)
(.rd 7 (iO 176 1 174 175)
(.rd 8 (lO 177 1 176)
(.rd 9 (mvO 178 11)
(.rd 10 (mvO 179 17)
(.rd 11 (iO 180 1 172 173)
(.wr 12 ⟨none, none, .store 1 (.t 180) (.t 179)⟩ [11, 10, 0, 1, 2, 3, 4, 8, 10]
(.rd 13 (iO 181 1 177 178)
(.wr 14 ⟨none, none, .store 1 (.t 181) (.c (.bool true))⟩ [13, 12, 0, 1, 2, 3, 4, 5, 6, 7, 8, 9, 10, 11, 12]
.fin .no)) .no))))))))))))) (some [2, 3, 6, 7, 8, 9, 10, 11, 12, 13, 14]))
.skip)))))))
(.ops [mvO 94 14,
pO 95 94 1,
mvO 14 95] (some [2, 3, 6, 7, 8, 9, 10, 11, 12, 13, 14]))))))))))
(.ops [mvO 55 11,
pO 56 55 1,
mvO 11 56] (some [2, 3, 6, 7, 8, 9, 10, 11])))))))))
(.ops [mvO 40 10,
opO 41 (.ibin .sub .i64 (.t 40) (ci 1)),
mvO 10 41] (some [2, 3, 6, 7, 8, 9, 10])))))))
(.seq (.ops [mvO 182 8,
mvO 183 9,
mvO 4 182,
mvO 5 183] (some [4, 5]))
.ret)))))⟩
def ir349 : IFn := ⟨17, [.t 6],
(.seq (.ops [opO 3 (.box (.t 0)),
mO 6 0] (some [1, 2, 3]))
(.seq (.ops [mvO 7 1,
fO 8 0 3,
lO 9 1 8,
opO 10 (.ibin .sub .i64 (.t 7) (.t 9)),
fO 11 2 3,
lO 12 1 11,
nO 13 12,
opO 14 (.ibin .mul .i64 (.t 10) (.t 13)),
mvO 15 2,
opO 16 (.ibin .add .i64 (.t 14) (.t 15)),
mvO 6 16] (some [6]))
.ret))⟩
def ir350 : IFn := ⟨37, [.t 8],
(.seq (.ops [opO 4 (.box (.t 0)),
opO 5 (.box (.t 1)),
mO 8 0] (some [2, 3, 4, 5]))
(.seq (.ops [fO 11 2 4,
lO 12 1 11,
mvO 13 2,
iO 14 4 12 13,
lA 15 4 14,
opO 9 (.alloc [(.string ⟨#[]⟩), (.int .i64 0), (.int .i64 0), (.int .i64 0)]),
⟨none, none, .store 4 (.t 9) (.t 15)⟩] (some [2, 3, 5, 9]))
(.seq (.ops [fO 16 2 9,
lO 17 1 16,
fO 18 0 5,
lO 19 1 18,
opO 20 (.ibin .mul .i64 (.t 17) (.t 19)),
mvO 10 20] (some [2, 3, 5, 9, 10]))
(.seq (.seq (.ops [fO 21 2 9,
lO 22 1 21,
opO 23 (.ibin .gtr .i64 (.t 22) (ci 0))] (some [2, 3, 5, 9, 10, 23]))
(.cond (.t 23)
(.ops [fO 24 2 9,
lO 25 1 24,
fO 26 1 5,
lO 27 1 26,
opO 28 (.ibin .mul .i64 (.t 25) (.t 27)),
mvO 10 28] (some [2, 3, 9, 10]))
.skip))
(.seq (.seq (.ops [mvO 29 2,
mvO 30 3,
opO 31 (.ibin .neq .i64 (.t 29) (.t 30))] (some [9, 10, 31]))
(.cond (.t 31)
(.ops [mvO 32 10,
fO 33 3 9,
lO 34 1 33,
opO 35 (.ibin .sub .i64 (.t 32) (.t 34)),
mvO 10 35] (some [10]))
.skip))
(.seq (.ops [mvO 36 10,
mvO 8 36] (some [8]))
.ret))))))⟩
def ir354 : IFn := ⟨29, [.t 4],
(.seq (.ops [opO 2 (.box (.t 0)),
mO 4 0] (some [1, 2]))
(.seq (.seq (.ops [fO 5 0 2,
lO 6 1 5,
cO 7 91 6,
opO 8 (.un .not (.t 7))] (some [1, 2, 8]))
(.cond (.t 8)
(.seq (.ops [mO 4 4] none)
.ret)
.skip))
(.seq (.seq (.ops [mvO 9 1,
fO 10 0 2,
lO 11 1 10,
opO 12 (.call 364 [(.t 9), (.t 11)])] (some [2, 12]))
(.cond (.t 12)
(.seq (.ops [mO 4 5] none)
.ret)
.skip))
(.seq (.seq (.ops [fO 13 1 2,
lO 14 1 13,
opO 15 (.call 15 [(.t 14), (ci (-10000)), (ci 10000)]),
opO 16 (.un .not (.t 15)),
mvO 17 16,
⟨(some 18), (some (17, false)), .faddr 2 (.t 2)⟩,
⟨(some 19), (some (17, false)), .load 1 false (.t 18)⟩,
⟨(some 20), (some (17, false)), .call 15 [(.t 19), (ci (-10000)), (ci 10000)]⟩,
⟨(some 21), (some (17, false)), .un .not (.t 20)⟩,
opO 22 (.pick (.t 17) (.c (.bool true)) (.t 21)),
mvO 23 22,
⟨(some 24), (some (23, false)), .faddr 3 (.t 2)⟩,
⟨(some 25), (some (23, false)), .load 1 false (.t 24)⟩,
⟨(some 26), (some (23, false)), .call 15 [(.t 25), (ci 0), (ci 10000)]⟩,
⟨(some 27), (some (23, false)), .un .not (.t 26)⟩,
opO 28 (.pick (.t 23) (.c (.bool true)) (.t 27))] (some [28]))
(.cond (.t 28)
(.seq (.ops [mO 4 2] none)
.ret)
.skip))
(.seq (.ops [mO 4 0] none)
.ret)))))⟩
def ir355 : IFn := ⟨5, [.t 2],
(.seq (.ops [bO 2 false] (some [0]))
(.seq (.ops [mvO 3 0,
opO 4 (.call 15 [(.t 3), (ci (-10000)), (ci 10000)]),
mvO 2 4] (some [2]))
.ret))⟩
def ir364 : IFn := ⟨18, [.t 4],
(.seq (.ops [bO 4 false] (some [0, 1]))
(.seq (.seq (.ops [mO 5 0] none)
(.block 0 (.loop (.seq (.seq (.ops [mvO 6 5,
mvO 7 0,
nO 8 7,
sO 9 6 8] (some [0, 1, 5, 9]))
(.cond (.t 9)
.skip
(.exit 0)))
(.seq (.block 1 (.seq (.ops [mvO 12 0,
mvO 13 5,
iO 14 1 12 13,
lO 15 1 14,
mvO 16 1,
opO 17 (.sbin .eql (.t 15) (.t 16))] (some [0, 1, 5, 17]))
(.cond (.t 17)
(.seq (.ops [bO 4 true] none)
.ret)
.skip)))
(.ops [mvO 10 5,
pO 11 10 1,
mvO 5 11] (some [0, 1, 5])))))))
(.seq (.ops [bO 4 false] none)
.ret)))⟩
end Go.Proofs.YtolapannkcdeeaaGreat.AM
