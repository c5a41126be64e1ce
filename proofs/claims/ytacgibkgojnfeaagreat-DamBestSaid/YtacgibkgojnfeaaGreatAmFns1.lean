/- The functions in the small language. Conditions: none. -/
import Derived.Test.YtacgibkgojnfeaaGreatAmFns
namespace Go.Proofs.YtacgibkgojnfeaaGreat.AM
set_option linter.unusedSimpArgs false
set_option linter.unusedVariables false
open Go Go.RowKit

/-- slices.rotateCmpFunc[int] -/
def ir144 : IFn := ⟨58, [],
(.seq (.ops [mvO 12 2,
mvO 13 1,
opO 14 (.ibin .sub .i64 (.t 12) (.t 13)),
mvO 10 14] (some [0, 2, 3, 4, 10]))
(.seq (.ops [mvO 15 3,
mvO 16 2,
opO 17 (.ibin .sub .i64 (.t 15) (.t 16)),
mvO 11 17] (some [0, 2, 4, 10, 11]))
(.seq (.block 0 (.loop (.seq (.seq (.ops [mvO 18 10,
mvO 19 11,
opO 20 (.ibin .neq .i64 (.t 18) (.t 19))] (some [0, 2, 4, 10, 11, 20]))
(.cond (.t 20)
.skip
(.exit 0)))
(.block 1 (.seq (.ops [mvO 21 10,
mvO 22 11,
opO 23 (.ibin .gtr .i64 (.t 21) (.t 22))] (some [0, 2, 4, 10, 11, 23]))
(.cond (.t 23)
(.seq (.ops [mvO 24 0,
mvO 25 2,
mvO 26 10,
opO 27 (.ibin .sub .i64 (.t 25) (.t 26)),
mvO 28 2,
mvO 29 11,
mvO 30 4,
opO 31 (.call 147 [(.t 24), (.t 27), (.t 28), (.t 29), (.t 30)])] (some [0, 2, 4, 10, 11]))
(.ops [mvO 32 10,
mvO 33 11,
opO 34 (.ibin .sub .i64 (.t 32) (.t 33)),
mvO 10 34] (some [0, 2, 4, 10, 11])))
(.seq (.ops [mvO 35 0,
mvO 36 2,
mvO 37 10,
opO 38 (.ibin .sub .i64 (.t 36) (.t 37)),
mvO 39 2,
mvO 40 11,
opO 41 (.ibin .add .i64 (.t 39) (.t 40)),
mvO 42 10,
opO 43 (.ibin .sub .i64 (.t 41) (.t 42)),
mvO 44 10,
mvO 45 4,
opO 46 (.call 147 [(.t 35), (.t 38), (.t 43), (.t 44), (.t 45)])] (some [0, 2, 4, 10, 11]))
(.ops [mvO 47 11,
mvO 48 10,
opO 49 (.ibin .sub .i64 (.t 47) (.t 48)),
mvO 11 49] (some [0, 2, 4, 10, 11])))))))))
(.ops [mvO 50 0,
mvO 51 2,
mvO 52 10,
opO 53 (.ibin .sub .i64 (.t 51) (.t 52)),
mvO 54 2,
mvO 55 10,
mvO 56 4,
opO 57 (.call 147 [(.t 50), (.t 53), (.t 54), (.t 55), (.t 56)])] (some [])))))⟩
/-- slices.Index[[]int,int] -/
def ir145 : IFn := ⟨19, [.t 4],
(.seq (.ops [opO 4 (.mov (.c (.int .i64 0)))] (some [0, 1]))
(.seq (.seq (.ops [mvO 6 0,
opO 7 (.lenV (.t 6)),
opO 8 (.mov (.c (.int .i64 0)))] (some [0, 1, 7, 8]))
(.block 0 (.loop (.seq (.ops [opO 9 (.ibin .lss .i64 (.t 8) (.t 7))] none)
(.seq (.cond (.t 9)
.skip
(.exit 0))
(.seq (.block 1 (.seq (.ops [mvO 10 8,
mvO 5 10] (some [0, 1, 5, 7, 8]))
(.seq (.ops [mvO 11 1,
mvO 12 0,
mvO 13 5,
opO 14 (.iaddr 1 (.t 12) (.t 13)),
opO 15 (.load 1 false (.t 14)),
opO 16 (.ibin .eql .i64 (.t 11) (.t 15))] (some [0, 1, 5, 7, 8, 16]))
(.cond (.t 16)
(.seq (.ops [mvO 17 5,
mvO 4 17] (some [4]))
.ret)
.skip))))
(.ops [opO 18 (.ibin .add .i64 (.t 8) (.c (.int .i64 1))),
mvO 8 18] (some [0, 1, 7, 8]))))))))
(.seq (.ops [opO 4 (.mov (.c (.int .i64 (-1))))] none)
.ret)))⟩
/-- slices.order2Ordered[int] -/
def ir146 : IFn := ⟨28, [.t 8, .t 9],
(.seq (.ops [opO 8 (.mov (.c (.int .i64 0))),
opO 9 (.mov (.c (.int .i64 0)))] (some [0, 1, 2, 3]))
(.seq (.seq (.draw (.rd 0 (mvO 10 0)
(.rd 1 (mvO 11 2)
(.rd 2 (opO 12 (.iaddr 1 (.t 10) (.t 11)))
(.rd 3 (opO 13 (.load 1 false (.t 12)))
(.rd 4 (mvO 14 0)
(.rd 5 (mvO 15 1)
(.rd 6 (opO 16 (.iaddr 1 (.t 14) (.t 15)))
(.rd 7 (opO 17 (.load 1 false (.t 16)))
(.wr 8 (opO 18 (.call 122 [(.t 13), (.t 17)])) [3, 7]
.fin .no))))))))) (some [1, 2, 3, 18]))
(.cond (.t 18)
(.seq (.ops [mvO 19 3,
opO 20 (.nilchk (.t 19)),
opO 21 (.load 1 false (.t 20)),
opO 22 (.ibin .add .i64 (.t 21) (.c (.int .i64 1))),
opO 23 (.nilchk (.t 19)),
⟨none, none, .store 1 (.t 23) (.t 22)⟩] (some [1, 2]))
(.seq (.ops [mvO 24 2,
mvO 25 1,
mvO 8 24,
mvO 9 25] (some [8, 9]))
.ret))
.skip))
(.seq (.ops [mvO 26 1,
mvO 27 2,
mvO 8 26,
mvO 9 27] (some [8, 9]))
.ret)))⟩
/-- slices.swapRangeCmpFunc[int] -/
def ir147 : IFn := ⟨38, [],
(.seq (.ops [opO 10 (.mov (.c (.int .i64 0)))] none)
(.block 0 (.loop (.seq (.seq (.ops [mvO 11 10,
mvO 12 3,
opO 13 (.ibin .lss .i64 (.t 11) (.t 12))] (some [0, 1, 2, 3, 10, 13]))
(.cond (.t 13)
.skip
(.exit 0)))
(.seq (.block 1 (.draw (.rd 0 (mvO 16 0)
(.rd 1 (mvO 17 1)
(.rd 2 (mvO 18 10)
(.rd 3 (opO 19 (.ibin .add .i64 (.t 17) (.t 18)))
(.rd 4 (mvO 20 0)
(.rd 5 (mvO 21 2)
(.rd 6 (mvO 22 10)
(.rd 7 (opO 23 (.ibin .add .i64 (.t 21) (.t 22)))
(.rd 8 (mvO 24 0)
(.rd 9 (mvO 25 2)
(.rd 10 (mvO 26 10)
(.rd 11 (opO 27 (.ibin .add .i64 (.t 25) (.t 26)))
(.rd 12 (opO 28 (.iaddr 1 (.t 24) (.t 27)))
(.rd 13 (opO 29 (.load 1 false (.t 28)))
(.rd 14 (mvO 30 0)
(.rd 15 (mvO 31 1)
(.rd 16 (mvO 32 10)
(.rd 17 (opO 33 (.ibin .add .i64 (.t 31) (.t 32)))
(.rd 18 (opO 34 (.iaddr 1 (.t 30) (.t 33)))
(.rd 19 (opO 35 (.load 1 false (.t 34)))
(.rd 20 (opO 36 (.iaddr 1 (.t 16) (.t 19)))
(.wr 21 ⟨none, none, .store 1 (.t 36) (.t 29)⟩ [20, 13, 0, 1, 2, 3, 8, 9, 10, 11, 12, 13, 19]
(.rd 22 (opO 37 (.iaddr 1 (.t 20) (.t 23)))
(.wr 23 ⟨none, none, .store 1 (.t 37) (.t 35)⟩ [22, 19, 21, 0, 1, 2, 3, 4, 5, 6, 7, 8, 9, 10, 11, 12, 13, 14, 15, 16, 17, 18, 19, 20, 21]
.fin .no)) .no)))))))))))))))))))))) (some [0, 1, 2, 3, 10])))
(.ops [mvO 14 10,
opO 15 (.ibin .add .i64 (.t 14) (.c (.int .i64 1))),
mvO 10 15] (some [0, 1, 2, 3, 10])))))))⟩
/-- guidevane/guidevanelaw09.few -/
def ir178 : IFn := ⟨6, [.t 2],
(.seq (.ops [opO 2 (.mov (.c (.bool false)))] (some [0]))
(.seq (.ops [mvO 3 0,
opO 4 (.lenV (.t 3)),
opO 5 (.ibin .leq .i64 (.t 4) (.c (.int .i64 14))),
mvO 2 5] (some [2]))
.ret))⟩
/-- guidevane/guidevaneref09.FitErr -/
def ir180 : IFn := ⟨18, [.t 2],
(.seq (.ops [opO 1 (.box (.t 0)),
opO 2 (.mov (.c (.int .i64 0)))] (some [1]))
(.seq (.seq (.ops [opO 4 (.faddr 0 (.t 1)),
opO 5 (.load 1 false (.t 4)),
opO 6 (.call 15 [(.t 5), (.c (.int .i64 1)), (.c (.int .i64 1000000000000))]),
opO 7 (.un .not (.t 6))] (some [1, 7]))
(.cond (.t 7)
(.seq (.ops [opO 2 (.mov (.c (.int .i64 2)))] none)
.ret)
.skip))
(.seq (.seq (.ops [opO 3 (.mov (.c (.int .i64 0)))] none)
(.block 0 (.loop (.seq (.seq (.ops [mvO 8 3,
opO 9 (.ibin .lss .i64 (.t 8) (.c (.int .i64 5)))] (some [1, 3, 9]))
(.cond (.t 9)
.skip
(.exit 0)))
(.seq (.block 1 (.seq (.ops [mvO 12 3,
opO 13 (.faddr 1 (.t 1)),
opO 14 (.iaddrA 5 1 (.t 13) (.t 12)),
opO 15 (.load 1 false (.t 14)),
opO 16 (.call 15 [(.t 15), (.c (.int .i64 (-1000000000000))), (.c (.int .i64 1000000000000))]),
opO 17 (.un .not (.t 16))] (some [1, 3, 17]))
(.cond (.t 17)
(.seq (.ops [opO 2 (.mov (.c (.int .i64 2)))] none)
.ret)
.skip)))
(.ops [mvO 10 3,
opO 11 (.ibin .add .i64 (.t 10) (.c (.int .i64 1))),
mvO 3 11] (some [1, 3])))))))
(.seq (.ops [opO 2 (.mov (.c (.int .i64 0)))] none)
.ret))))⟩
/-- guidevane/guidevanelaw09.DamBest -/
def ir264 : IFn := ⟨201, [.t 6],
(.seq (.ops [opO 5 (.box (.t 2)),
opO 6 (.mov (.c (.bool false)))] (some [0, 1, 5]))
(.seq (.seq (.ops [opO 24 (.call 10 []),
opO 25 (.un .not (.t 24))] (some [0, 1, 5, 25]))
(.cond (.t 25)
(.seq (.ops [opO 6 (.mov (.c (.bool false)))] none)
.ret)
.skip))
(.seq (.seq (.ops [mvO 26 0,
opO 27 (.call 178 [(.t 26)]),
opO 28 (.un .not (.t 27)),
mvO 29 28,
⟨(some 30), (some (29, false)), .mov (.t 0)⟩,
⟨(some 31), (some (29, false)), .call 51 [(.t 30)]⟩,
⟨(some 32), (some (29, false)), .ibin .neq .i64 (.t 31) (.c (.int .i64 0))⟩,
opO 33 (.pick (.t 29) (.c (.bool true)) (.t 32)),
mvO 34 33,
⟨(some 35), (some (34, false)), .mov (.t 1)⟩,
⟨(some 36), (some (34, false)), .call 52 [(.t 35)]⟩,
⟨(some 37), (some (34, false)), .ibin .neq .i64 (.t 36) (.c (.int .i64 0))⟩,
opO 38 (.pick (.t 34) (.c (.bool true)) (.t 37))] (some [0, 1, 5, 38]))
(.cond (.t 38)
(.seq (.ops [opO 6 (.mov (.c (.bool true)))] none)
.ret)
.skip))
(.seq (.ops [mvO 40 0,
opO 41 (.call 53 [(.t 40)]),
mvO 42 1,
opO 43 (.call 55 [(.t 41), (.t 42)]),
mvO 39 43,
opO 44 (.extract 0 (.t 39)),
opO 45 (.extract 1 (.t 39)),
opO 7 (.alloc (List.replicate 6 (.int .i64 0))),
⟨none, none, .store 6 (.t 7) (.t 44)⟩,
mvO 8 45] (some [0, 1, 5, 7, 8]))
(.seq (.seq (.ops [mvO 46 8,
opO 47 (.ibin .neq .i64 (.t 46) (.c (.int .i64 0)))] (some [0, 1, 5, 7, 8, 47]))
(.cond (.t 47)
(.seq (.ops [mvO 48 8,
opO 49 (.ibin .eql .i64 (.t 48) (.c (.int .i64 12))),
mvO 50 49,
⟨(some 51), (some (50, false)), .mov (.t 8)⟩,
⟨(some 52), (some (50, false)), .ibin .eql .i64 (.t 51) (.c (.int .i64 8))⟩,
opO 53 (.pick (.t 50) (.c (.bool true)) (.t 52)),
mvO 6 53] (some [6]))
.ret)
.skip))
(.seq (.seq (.draw (.rd 0 (mvO 55 0)
(.rd 2 (mvO 57 1)
(.rd 3 (opO 58 (.load 6 true (.t 7)))
(.wr 1 (opO 56 (.call 53 [(.t 55)])) [0]
(.wr 4 (opO 59 (.call 265 [(.t 56), (.t 57), (.t 58)])) [1, 2, 3, 1]
(.rd 5 (mvO 54 59)
(.rd 6 (opO 60 (.extract 0 (.t 54)))
(.rd 7 (opO 61 (.extract 1 (.t 54)))
(.rd 8 (mvO 9 60)
(.rd 9 (mvO 10 61)
.fin))))) .no) .no)))) (some [0, 1, 5, 7, 9, 10]))
(.seq (.ops [mvO 62 10,
opO 63 (.ibin .neq .i64 (.t 62) (.c (.int .i64 0))),
mvO 64 63,
⟨(some 65), (some (64, false)), .mov (.t 9)⟩,
⟨(some 66), (some (64, false)), .ibin .neq .i64 (.t 65) (.c (.int .i64 0))⟩,
opO 67 (.pick (.t 64) (.c (.bool true)) (.t 66)),
mvO 68 67,
⟨(some 69), (some (68, false)), .load 6 true (.t 7)⟩,
⟨(some 70), (some (68, false)), .call 180 [(.t 69)]⟩,
⟨(some 71), (some (68, false)), .ibin .neq .i64 (.t 70) (.c (.int .i64 0))⟩,
opO 72 (.pick (.t 68) (.c (.bool true)) (.t 71))] (some [0, 1, 5, 7, 72]))
(.cond (.t 72)
(.seq (.ops [opO 6 (.mov (.c (.bool false)))] none)
.ret)
.skip)))
(.seq (.ops [opO 73 (.load 6 true (.t 7)),
opO 11 (.alloc (List.replicate 6 (.int .i64 0))),
⟨none, none, .store 6 (.t 11) (.t 73)⟩] (some [0, 1, 5, 7, 11]))
(.seq (.seq (.ops [opO 12 (.mov (.c (.int .i64 0)))] none)
(.block 0 (.loop (.seq (.seq (.ops [mvO 74 12,
opO 75 (.ibin .lss .i64 (.t 74) (.c (.int .i64 5)))] (some [0, 1, 5, 7, 11, 12, 75]))
(.cond (.t 75)
.skip
(.exit 0)))
(.seq (.block 1 (.seq (.ops [mvO 78 1,
mvO 79 12,
opO 80 (.shift .shr .i64 (.t 78) (.t 79)),
opO 81 (.ibin .and .i64 (.t 80) (.c (.int .i64 1))),
opO 82 (.ibin .eql .i64 (.t 81) (.c (.int .i64 1))),
mvO 83 82,
⟨(some 84), (some (83, true)), .mov (.t 12)⟩,
⟨(some 85), (some (83, true)), .iaddrA 5 1 (.t 5) (.t 84)⟩,
⟨(some 86), (some (83, true)), .load 1 false (.t 85)⟩,
⟨(some 87), (some (83, true)), .call 15 [(.t 86), (.c (.int .i64 (-100))), (.c (.int .i64 100))]⟩,
opO 88 (.pick (.t 83) (.t 87) (.c (.bool false)))] (some [0, 1, 5, 7, 11, 12, 88]))
(.cond (.t 88)
(.draw (.rd 0 (mvO 89 12)
(.rd 1 (mvO 90 12)
(.rd 2 (opO 91 (.faddr 1 (.t 7)))
(.rd 3 (opO 92 (.iaddrA 5 1 (.t 91) (.t 90)))
(.rd 4 (opO 93 (.load 1 false (.t 92)))
(.rd 5 (mvO 94 12)
(.rd 6 (opO 95 (.iaddrA 5 1 (.t 5) (.t 94)))
(.rd 7 (opO 96 (.load 1 false (.t 95)))
(.rd 8 (opO 97 (.ibin .add .i64 (.t 93) (.t 96)))
(.rd 9 (opO 98 (.faddr 1 (.t 11)))
(.rd 10 (opO 99 (.iaddrA 5 1 (.t 98) (.t 89)))
(.wr 11 ⟨none, none, .store 1 (.t 99) (.t 97)⟩ [10, 8, 0, 1, 2, 3, 4, 5, 6, 7, 8]
.fin .no)))))))))))) (some [0, 1, 5, 7, 11, 12]))
.skip)))
(.ops [mvO 76 12,
opO 77 (.ibin .add .i64 (.t 76) (.c (.int .i64 1))),
mvO 12 77] (some [0, 1, 5, 7, 11, 12])))))))
(.seq (.seq (.ops [opO 100 (.load 6 true (.t 11)),
opO 101 (.load 6 true (.t 7)),
opO 102 (.eqv (.fld 0 1 (.int .i64) (.fld 1 5 (.fld 0 1 (.int .i64) (.fld 1 1 (.int .i64) (.fld 2 1 (.int .i64) (.fld 3 1 (.int .i64) (.fld 4 1 (.int .i64) .nil))))) .nil)) true (.t 100) (.t 101)),
mvO 103 102,
⟨(some 104), (some (103, true)), .load 6 true (.t 11)⟩,
⟨(some 105), (some (103, true)), .call 180 [(.t 104)]⟩,
⟨(some 106), (some (103, true)), .ibin .eql .i64 (.t 105) (.c (.int .i64 0))⟩,
opO 107 (.pick (.t 103) (.t 106) (.c (.bool false)))] (some [0, 1, 5, 7, 11, 107]))
(.cond (.t 107)
(.seq (.seq (.draw (.rd 0 (mvO 109 0)
(.rd 2 (mvO 111 1)
(.rd 3 (opO 112 (.load 6 true (.t 11)))
(.wr 1 (opO 110 (.call 53 [(.t 109)])) [0]
(.wr 4 (opO 113 (.call 265 [(.t 110), (.t 111), (.t 112)])) [1, 2, 3, 1]
(.rd 5 (mvO 108 113)
(.rd 6 (opO 114 (.extract 0 (.t 108)))
(.rd 7 (opO 115 (.extract 1 (.t 108)))
(.rd 8 (mvO 13 114)
(.rd 9 (mvO 14 115)
.fin))))) .no) .no)))) (some [0, 1, 5, 7, 11, 14]))
(.seq (.ops [mvO 116 14,
opO 117 (.ibin .neq .i64 (.t 116) (.c (.int .i64 19))),
mvO 118 117,
⟨(some 119), (some (118, true)), .mov (.t 14)⟩,
⟨(some 120), (some (118, true)), .ibin .neq .i64 (.t 119) (.c (.int .i64 3))⟩,
opO 121 (.pick (.t 118) (.t 120) (.c (.bool false)))] (some [0, 1, 5, 7, 11, 121]))
(.cond (.t 121)
(.seq (.ops [opO 6 (.mov (.c (.bool false)))] none)
.ret)
.skip)))
(.seq (.draw (.rd 0 (mvO 122 0)
(.rd 1 (opO 123 (.load 6 true (.t 7)))
(.rd 3 (mvO 125 0)
(.rd 4 (opO 126 (.load 6 true (.t 11)))
(.wr 2 (opO 124 (.call 269 [(.t 122), (.t 123)])) [0, 1]
(.wr 5 (opO 127 (.call 269 [(.t 125), (.t 126)])) [3, 4, 2]
(.wr 6 (opO 128 (.call 268 [(.t 124), (.t 127)])) [2, 5, 5]
(.rd 7 (opO 129 (.ibin .gtr .i64 (.t 128) (.c (.int .i64 0))))
.fin) .no) .no) .no))))) (some [0, 1, 5, 129]))
(.cond (.t 129)
(.seq (.ops [opO 6 (.mov (.c (.bool false)))] none)
.ret)
.skip)))
.skip))
(.seq (.ops [mvO 130 0,
opO 131 (.call 53 [(.t 130)]),
mvO 15 131] (some [1, 5, 15]))
(.seq (.seq (.ops [opO 16 (.mov (.c (.int .i64 0)))] none)
(.block 2 (.loop (.seq (.seq (.ops [mvO 132 16,
mvO 133 15,
opO 134 (.lenV (.t 133)),
opO 135 (.ibin .lss .i64 (.t 132) (.t 134))] (some [1, 5, 15, 16, 135]))
(.cond (.t 135)
.skip
(.exit 2)))
(.seq (.block 3 (.seq (.ops [opO 17 (.mov (.c (.int .i64 0)))] none)
(.seq (.ops [mvO 138 15,
mvO 139 16,
opO 140 (.iaddr 3 (.t 138) (.t 139)),
opO 141 (.load 3 true (.t 140)),
opO 142 (.call 34 [(.t 141)]),
opO 18 (.alloc (List.replicate 5 (.int .i64 0))),
⟨none, none, .store 5 (.t 18) (.t 142)⟩] (some [1, 5, 15, 16, 17, 18]))
(.seq (.seq (.ops [opO 19 (.mov (.c (.int .i64 0)))] none)
(.block 4 (.loop (.seq (.seq (.ops [mvO 143 19,
opO 144 (.ibin .lss .i64 (.t 143) (.c (.int .i64 5)))] (some [1, 5, 15, 16, 17, 18, 19, 144]))
(.cond (.t 144)
.skip
(.exit 4)))
(.seq (.block 5 (.seq (.ops [mvO 147 1,
mvO 148 19,
opO 149 (.shift .shr .i64 (.t 147) (.t 148)),
opO 150 (.ibin .and .i64 (.t 149) (.c (.int .i64 1))),
opO 151 (.ibin .eql .i64 (.t 150) (.c (.int .i64 1))),
mvO 152 151,
⟨(some 153), (some (152, true)), .mov (.t 19)⟩,
⟨(some 154), (some (152, true)), .iaddrA 5 1 (.t 5) (.t 153)⟩,
⟨(some 155), (some (152, true)), .load 1 false (.t 154)⟩,
⟨(some 156), (some (152, true)), .call 15 [(.t 155), (.c (.int .i64 (-10))), (.c (.int .i64 10))]⟩,
opO 157 (.pick (.t 152) (.t 156) (.c (.bool false)))] (some [1, 5, 15, 16, 17, 18, 19, 157]))
(.cond (.t 157)
(.draw (.rd 0 (mvO 158 17)
(.rd 1 (mvO 159 19)
(.rd 2 (opO 160 (.iaddrA 5 1 (.t 5) (.t 159)))
(.rd 3 (opO 161 (.load 1 false (.t 160)))
(.rd 4 (mvO 162 19)
(.rd 5 (opO 163 (.iaddrA 5 1 (.t 18) (.t 162)))
(.rd 6 (opO 164 (.load 1 false (.t 163)))
(.rd 7 (opO 165 (.ibin .mul .i64 (.t 161) (.t 164)))
(.rd 8 (opO 166 (.ibin .add .i64 (.t 158) (.t 165)))
(.wr 9 (mvO 17 166) [8, 0, 1, 2, 3, 4, 5, 6, 7, 8]
.fin .no)))))))))) (some [1, 5, 15, 16, 17, 18, 19]))
.skip)))
(.ops [mvO 145 19,
opO 146 (.ibin .add .i64 (.t 145) (.c (.int .i64 1))),
mvO 19 146] (some [1, 5, 15, 16, 17, 18, 19])))))))
(.ops [mvO 167 15,
mvO 168 16,
mvO 169 17,
opO 170 (.iaddr 3 (.t 167) (.t 168)),
opO 171 (.faddr 2 (.t 170)),
⟨none, none, .store 1 (.t 171) (.t 169)⟩] (some [1, 5, 15, 16]))))))
(.ops [mvO 136 16,
opO 137 (.ibin .add .i64 (.t 136) (.c (.int .i64 1))),
mvO 16 137] (some [1, 5, 15, 16])))))))
(.seq (.seq (.ops [mvO 172 15,
opO 173 (.call 51 [(.t 172)]),
opO 174 (.ibin .neq .i64 (.t 173) (.c (.int .i64 0)))] (some [1, 15, 174]))
(.cond (.t 174)
(.seq (.ops [opO 6 (.mov (.c (.bool true)))] none)
.ret)
.skip))
(.seq (.ops [mvO 176 15,
opO 177 (.call 53 [(.t 176)]),
mvO 178 1,
opO 179 (.call 55 [(.t 177), (.t 178)]),
mvO 175 179,
opO 180 (.extract 0 (.t 175)),
opO 181 (.extract 1 (.t 175)),
opO 20 (.alloc (List.replicate 6 (.int .i64 0))),
⟨none, none, .store 6 (.t 20) (.t 180)⟩,
mvO 21 181] (some [15, 20, 21]))
(.seq (.seq (.ops [mvO 182 21,
opO 183 (.ibin .neq .i64 (.t 182) (.c (.int .i64 0))),
mvO 184 183,
⟨(some 185), (some (184, false)), .load 6 true (.t 20)⟩,
⟨(some 186), (some (184, false)), .call 180 [(.t 185)]⟩,
⟨(some 187), (some (184, false)), .ibin .neq .i64 (.t 186) (.c (.int .i64 0))⟩,
opO 188 (.pick (.t 184) (.c (.bool true)) (.t 187))] (some [15, 20, 188]))
(.cond (.t 188)
(.seq (.ops [opO 6 (.mov (.c (.bool false)))] none)
.ret)
.skip))
(.seq (.ops [mvO 190 15,
opO 191 (.load 6 true (.t 20)),
opO 192 (.call 57 [(.t 190), (.t 191)]),
mvO 189 192,
opO 193 (.extract 0 (.t 189)),
opO 194 (.extract 1 (.t 189)),
mvO 22 193,
mvO 23 194] (some [22, 23]))
(.seq (.ops [mvO 195 23,
opO 196 (.ibin .eql .i64 (.t 195) (.c (.int .i64 0))),
mvO 197 196,
⟨(some 198), (some (197, true)), .mov (.t 22)⟩,
⟨(some 199), (some (197, true)), .ibin .eql .i64 (.t 198) (.c (.int .i64 0))⟩,
opO 200 (.pick (.t 197) (.t 199) (.c (.bool false))),
mvO 6 200] (some [6]))
.ret))))))))))))))))⟩
/-- guidevane/dam.CheckFit -/
def ir265 : IFn := ⟨82, [.t 6, .t 7],
(.seq (.ops [opO 5 (.box (.t 2)),
opO 6 (.mov (.c (.int .i64 0))),
opO 7 (.mov (.c (.int .i64 0)))] (some [0, 1, 5]))
(.seq (.ops [mvO 17 1,
mvO 8 17] (some [0, 5, 8]))
(.seq (.seq (.draw (.rd 0 (mvO 18 0)
(.rd 2 (mvO 20 8)
(.rd 4 (opO 22 (.load 6 true (.t 5)))
(.wr 1 (opO 19 (.call 93 [(.t 18)])) [0]
(.wr 3 (opO 21 (.call 94 [(.t 20)])) [2, 1]
(.wr 5 (opO 23 (.call 98 [(.t 22)])) [4, 3]
(.wr 6 (opO 24 (.bslice 3 1 [(.int .i64 0)] [(0, 1, (.t 19)), (1, 1, (.t 21)), (2, 1, (.t 23))])) [1, 3, 5]
(.wr 7 (opO 25 (.call 63 [(.t 24)])) [6, 5]
(.rd 8 (mvO 9 25)
.fin) .no) .no) .no) .no) .no)))) (some [0, 5, 8, 9]))
(.seq (.ops [mvO 26 9,
opO 27 (.ibin .neq .i64 (.t 26) (.c (.int .i64 0)))] (some [0, 5, 8, 9, 27]))
(.cond (.t 27)
(.seq (.ops [mvO 28 9,
opO 6 (.mov (.c (.int .i64 0))),
mvO 7 28] (some [6, 7]))
.ret)
.skip)))
(.seq (.seq (.ops [opO 29 (.faddr 1 (.t 5)),
opO 30 (.load 5 true (.t 29)),
opO 31 (.mov (.c (.int .i64 0)))] (some [0, 5, 8, 30, 31]))
(.block 0 (.loop (.seq (.ops [opO 32 (.ibin .lss .i64 (.t 31) (.c (.int .i64 5)))] none)
(.seq (.cond (.t 32)
.skip
(.exit 0))
(.seq (.block 1 (.seq (.ops [mvO 33 31,
opO 34 (.indexA 5 1 false (.t 30) (.t 31)),
mvO 10 33,
mvO 11 34] (some [0, 5, 8, 10, 11, 30, 31]))
(.seq (.ops [mvO 35 11,
opO 36 (.ibin .neq .i64 (.t 35) (.c (.int .i64 0))),
mvO 37 36,
⟨(some 38), (some (37, true)), .mov (.t 8)⟩,
⟨(some 39), (some (37, true)), .mov (.t 10)⟩,
⟨(some 40), (some (37, true)), .call 114 [(.t 38), (.t 39)]⟩,
⟨(some 41), (some (37, true)), .un .not (.t 40)⟩,
opO 42 (.pick (.t 37) (.t 41) (.c (.bool false)))] (some [0, 5, 8, 10, 30, 31, 42]))
(.cond (.t 42)
(.seq (.ops [mvO 43 10,
mvO 6 43,
opO 7 (.mov (.c (.int .i64 3)))] (some [6, 7]))
.ret)
.skip))))
(.ops [opO 44 (.ibin .add .i64 (.t 31) (.c (.int .i64 1))),
mvO 31 44] (some [0, 5, 8, 30, 31]))))))))
(.seq (.seq (.ops [opO 45 (.load 6 true (.t 5)),
opO 46 (.call 97 [(.t 45)]),
opO 47 (.ibin .neq .i64 (.t 46) (.c (.int .i64 1)))] (some [0, 5, 8, 47]))
(.cond (.t 47)
(.seq (.ops [opO 6 (.mov (.c (.int .i64 0))),
opO 7 (.mov (.c (.int .i64 3)))] none)
.ret)
.skip))
(.seq (.seq (.ops [mvO 48 8,
opO 49 (.call 95 [(.t 48)]),
opO 50 (.lenV (.t 49)),
opO 51 (.mov (.c (.int .i64 0)))] (some [0, 5, 49, 50, 51]))
(.block 2 (.loop (.seq (.ops [opO 52 (.ibin .lss .i64 (.t 51) (.t 50))] none)
(.seq (.cond (.t 52)
.skip
(.exit 2))
(.seq (.block 3 (.seq (.ops [opO 53 (.iaddr 1 (.t 49) (.t 51)),
opO 54 (.load 1 false (.t 53)),
mvO 13 54] (some [0, 5, 13, 49, 50, 51]))
(.seq (.ops [opO 14 (.mov (.c (.int .i64 0)))] none)
(.seq (.seq (.ops [mvO 55 0,
opO 56 (.lenV (.t 55)),
opO 57 (.mov (.c (.int .i64 0)))] none)
(.block 4 (.loop (.seq (.ops [opO 58 (.ibin .lss .i64 (.t 57) (.t 56))] none)
(.seq (.cond (.t 58)
.skip
(.exit 4))
(.seq (.block 5 (.seq (.ops [opO 59 (.iaddr 3 (.t 55) (.t 57)),
opO 60 (.load 3 true (.t 59)),
opO 16 (.alloc [(.int .i64 0), (.int .i64 0), (.int .i64 0)]),
⟨none, none, .store 3 (.t 16) (.t 60)⟩] (some [0, 5, 13, 14, 16, 49, 50, 51, 55, 56, 57]))
(.draw (.rd 0 (mvO 61 14)
(.rd 1 (opO 62 (.load 3 true (.t 16)))
(.rd 3 (mvO 64 13)
(.rd 5 (opO 66 (.faddr 0 (.t 5)))
(.rd 6 (opO 67 (.load 1 false (.t 66)))
(.rd 7 (opO 68 (.faddr 2 (.t 16)))
(.rd 8 (opO 69 (.load 1 false (.t 68)))
(.rd 9 (opO 70 (.ibin .mul .i64 (.t 67) (.t 69)))
(.rd 10 (opO 71 (.load 6 true (.t 5)))
(.rd 11 (opO 72 (.load 3 true (.t 16)))
(.wr 2 (opO 63 (.call 77 [(.t 62)])) [1]
(.rd 4 (opO 65 (.indexA 5 1 false (.t 63) (.t 64)))
(.wr 12 (opO 73 (.call 102 [(.t 71), (.t 72)])) [10, 11, 2]
(.rd 13 (opO 74 (.ibin .sub .i64 (.t 70) (.t 73)))
(.rd 14 (opO 75 (.ibin .mul .i64 (.t 65) (.t 74)))
(.rd 15 (opO 76 (.ibin .add .i64 (.t 61) (.t 75)))
(.wr 16 (mvO 14 76) [15, 12, 0, 1, 2, 3, 4, 5, 6, 7, 8, 9, 10, 11, 12, 13, 14, 15]
.fin .no)))) .no)) .no))))))))))) (some [0, 5, 13, 14, 49, 50, 51, 55, 56, 57]))))
(.ops [opO 77 (.ibin .add .i64 (.t 57) (.c (.int .i64 1))),
mvO 57 77] (some [0, 5, 13, 14, 49, 50, 51, 55, 56, 57]))))))))
(.seq (.ops [mvO 78 14,
opO 79 (.ibin .neq .i64 (.t 78) (.c (.int .i64 0)))] (some [0, 5, 13, 49, 50, 51, 79]))
(.cond (.t 79)
(.seq (.ops [mvO 80 13,
mvO 6 80,
opO 7 (.mov (.c (.int .i64 19)))] (some [6, 7]))
.ret)
.skip))))))
(.ops [opO 81 (.ibin .add .i64 (.t 51) (.c (.int .i64 1))),
mvO 51 81] (some [0, 5, 49, 50, 51]))))))))
(.seq (.ops [opO 6 (.mov (.c (.int .i64 0))),
opO 7 (.mov (.c (.int .i64 0)))] none)
.ret)))))))⟩
/-- guidevane/guidevanebase.WideCmp -/
def ir268 : IFn := ⟨9, [.t 4],
(.seq (.ops [opO 2 (.box (.t 0)),
opO 3 (.box (.t 1)),
opO 4 (.mov (.c (.int .i64 0)))] (some [2, 3]))
(.seq (.ops [opO 5 (.load 2 true (.t 2)),
opO 6 (.load 2 true (.t 3)),
opO 7 (.call 280 [(.t 5), (.t 6)]),
opO 8 (.field 0 1 false (.t 7)),
mvO 4 8] (some [4]))
.ret))⟩
/-- guidevane/guidevanelaw09.squares -/
def ir269 : IFn := ⟨52, [.cell 4 2 true],
(.seq (.ops [opO 3 (.box (.t 1)),
opO 4 (.alloc [(.int .i64 0), (.slice none 0 0)])] (some [0, 3, 4]))
(.seq (.ops [opO 10 (.call 273 [(.c (.int .i64 0))]),
opO 5 (.alloc [(.int .i64 0), (.slice none 0 0)]),
⟨none, none, .store 2 (.t 5) (.t 10)⟩] (some [0, 3, 4, 5]))
(.seq (.seq (.ops [opO 6 (.mov (.c (.int .i64 0)))] none)
(.block 0 (.loop (.seq (.seq (.ops [mvO 11 6,
mvO 12 0,
opO 13 (.lenV (.t 12)),
opO 14 (.ibin .lss .i64 (.t 11) (.t 13))] (some [0, 3, 4, 5, 6, 14]))
(.cond (.t 14)
.skip
(.exit 0)))
(.seq (.block 1 (.seq (.ops [mvO 17 0,
mvO 18 6,
opO 19 (.iaddr 3 (.t 17) (.t 18)),
opO 20 (.load 3 true (.t 19)),
opO 21 (.call 34 [(.t 20)]),
opO 7 (.alloc (List.replicate 5 (.int .i64 0))),
⟨none, none, .store 5 (.t 7) (.t 21)⟩] (some [0, 3, 4, 5, 6, 7]))
(.seq (.draw (.rd 0 (opO 22 (.faddr 0 (.t 3)))
(.rd 1 (opO 23 (.load 1 false (.t 22)))
(.rd 2 (mvO 24 0)
(.rd 3 (mvO 25 6)
(.rd 4 (opO 26 (.iaddr 3 (.t 24) (.t 25)))
(.rd 5 (opO 27 (.faddr 2 (.t 26)))
(.rd 6 (opO 28 (.load 1 false (.t 27)))
(.rd 7 (opO 29 (.ibin .mul .i64 (.t 23) (.t 28)))
(.rd 8 (mvO 8 29)
.fin))))))))) (some [0, 3, 4, 5, 6, 7, 8]))
(.seq (.seq (.ops [opO 9 (.mov (.c (.int .i64 0)))] none)
(.block 2 (.loop (.seq (.seq (.ops [mvO 30 9,
opO 31 (.ibin .lss .i64 (.t 30) (.c (.int .i64 5)))] (some [0, 3, 4, 5, 6, 7, 8, 9, 31]))
(.cond (.t 31)
.skip
(.exit 2)))
(.seq (.block 3 (.draw (.rd 0 (mvO 34 8)
(.rd 1 (mvO 35 9)
(.rd 2 (opO 36 (.faddr 1 (.t 3)))
(.rd 3 (opO 37 (.iaddrA 5 1 (.t 36) (.t 35)))
(.rd 4 (opO 38 (.load 1 false (.t 37)))
(.rd 5 (mvO 39 9)
(.rd 6 (opO 40 (.iaddrA 5 1 (.t 7) (.t 39)))
(.rd 7 (opO 41 (.load 1 false (.t 40)))
(.rd 8 (opO 42 (.ibin .mul .i64 (.t 38) (.t 41)))
(.rd 9 (opO 43 (.ibin .sub .i64 (.t 34) (.t 42)))
(.wr 10 (mvO 8 43) [9, 0, 1, 2, 3, 4, 5, 6, 7, 8, 9]
.fin .no))))))))))) (some [0, 3, 4, 5, 6, 7, 8, 9])))
(.ops [mvO 32 9,
opO 33 (.ibin .add .i64 (.t 32) (.c (.int .i64 1))),
mvO 9 33] (some [0, 3, 4, 5, 6, 7, 8, 9])))))))
(.draw (.rd 0 (opO 44 (.load 2 true (.t 5)))
(.rd 1 (mvO 45 8)
(.rd 3 (mvO 47 8)
(.wr 2 (opO 46 (.call 273 [(.t 45)])) [1]
(.wr 4 (opO 48 (.call 273 [(.t 47)])) [3, 2]
(.wr 5 (opO 49 (.call 274 [(.t 46), (.t 48)])) [2, 4, 4]
(.wr 6 (opO 50 (.call 281 [(.t 44), (.t 49)])) [0, 5, 5]
(.wr 7 ⟨none, none, .store 2 (.t 5) (.t 50)⟩ [6, 6, 0, 1, 2, 3, 4, 5, 6]
.fin .no) .no) .no) .no) .no)))) (some [0, 3, 4, 5, 6]))))))
(.ops [mvO 15 6,
opO 16 (.ibin .add .i64 (.t 15) (.c (.int .i64 1))),
mvO 6 16] (some [0, 3, 4, 5, 6])))))))
(.seq (.ops [opO 51 (.load 2 true (.t 5)),
⟨none, none, .store 2 (.t 4) (.t 51)⟩] (some [4]))
.ret))))⟩
/-- guidevane/guidevanebase.WideOf -/
def ir273 : IFn := ⟨20, [.cell 2 2 true],
(.seq (.ops [opO 2 (.alloc [(.int .i64 0), (.slice none 0 0)])] none)
(.seq (.ops [opO 3 (.mov (.c (.int .i64 1)))] none)
(.seq (.seq (.ops [mvO 5 0,
opO 6 (.ibin .lss .i64 (.t 5) (.c (.int .i64 0)))] (some [0, 2, 3, 6]))
(.cond (.t 6)
(.ops [opO 3 (.mov (.c (.int .i64 (-1))))] none)
.skip))
(.seq (.ops [opO 4 (.mov (.c (.slice none 0 0)))] none)
(.seq (.block 0 (.loop (.seq (.seq (.ops [mvO 7 0,
opO 8 (.ibin .neq .i64 (.t 7) (.c (.int .i64 0)))] (some [0, 2, 3, 4, 8]))
(.cond (.t 8)
.skip
(.exit 0)))
(.block 1 (.seq (.ops [mvO 9 4,
mvO 10 0,
opO 11 (.ibin .rem .i64 (.t 10) (.c (.int .i64 1000000000))),
opO 12 (.call 109 [(.t 11)]),
opO 13 (.bslice 1 1 [(.int .i64 0)] [(0, 1, (.t 12))]),
opO 14 (.append 1 8 (.t 9) (.t 13)),
mvO 4 14] (some [0, 2, 3, 4]))
(.ops [mvO 15 0,
opO 16 (.ibin .quo .i64 (.t 15) (.c (.int .i64 1000000000))),
mvO 0 16] (some [0, 2, 3, 4])))))))
(.seq (.ops [mvO 17 3,
mvO 18 4,
opO 19 (.call 285 [(.t 17), (.t 18)]),
⟨none, none, .store 2 (.t 2) (.t 19)⟩] (some [2]))
.ret))))))⟩
/-- guidevane/guidevanebase.WideMul -/
def ir274 : IFn := ⟨86, [.cell 4 2 true],
(.seq (.ops [opO 2 (.box (.t 0)),
opO 3 (.box (.t 1)),
opO 4 (.alloc [(.int .i64 0), (.slice none 0 0)])] (some [2, 3, 4]))
(.seq (.ops [opO 10 (.faddr 1 (.t 2)),
opO 11 (.load 1 false (.t 10)),
opO 12 (.lenV (.t 11)),
opO 13 (.faddr 1 (.t 3)),
opO 14 (.load 1 false (.t 13)),
opO 15 (.lenV (.t 14)),
opO 16 (.ibin .add .i64 (.t 12) (.t 15)),
opO 17 (.ibin .add .i64 (.t 16) (.c (.int .i64 1))),
opO 18 (.mslice 1 8 [(.int .i64 0)] (.t 17) (.t 17)),
mvO 5 18] (some [2, 3, 4, 5]))
(.seq (.seq (.ops [opO 6 (.mov (.c (.int .i64 0)))] none)
(.block 0 (.loop (.seq (.seq (.ops [mvO 19 6,
opO 20 (.faddr 1 (.t 2)),
opO 21 (.load 1 false (.t 20)),
opO 22 (.lenV (.t 21)),
opO 23 (.ibin .lss .i64 (.t 19) (.t 22))] (some [2, 3, 4, 5, 6, 23]))
(.cond (.t 23)
.skip
(.exit 0)))
(.seq (.block 1 (.seq (.ops [opO 7 (.mov (.c (.int .i64 0)))] none)
(.seq (.seq (.ops [opO 8 (.mov (.c (.int .i64 0)))] none)
(.block 2 (.loop (.seq (.seq (.ops [mvO 26 8,
opO 27 (.faddr 1 (.t 3)),
opO 28 (.load 1 false (.t 27)),
opO 29 (.lenV (.t 28)),
opO 30 (.ibin .lss .i64 (.t 26) (.t 29))] (some [2, 3, 4, 5, 6, 7, 8, 30]))
(.cond (.t 30)
.skip
(.exit 2)))
(.seq (.block 3 (.seq (.draw (.rd 0 (mvO 33 5)
(.rd 1 (mvO 34 6)
(.rd 2 (mvO 35 8)
(.rd 3 (opO 36 (.ibin .add .i64 (.t 34) (.t 35)))
(.rd 4 (opO 37 (.iaddr 1 (.t 33) (.t 36)))
(.rd 5 (opO 38 (.load 1 false (.t 37)))
(.rd 6 (opO 39 (.faddr 1 (.t 2)))
(.rd 7 (opO 40 (.load 1 false (.t 39)))
(.rd 8 (mvO 41 6)
(.rd 9 (opO 42 (.iaddr 1 (.t 40) (.t 41)))
(.rd 10 (opO 43 (.load 1 false (.t 42)))
(.rd 11 (opO 44 (.faddr 1 (.t 3)))
(.rd 12 (opO 45 (.load 1 false (.t 44)))
(.rd 13 (mvO 46 8)
(.rd 14 (opO 47 (.iaddr 1 (.t 45) (.t 46)))
(.rd 15 (opO 48 (.load 1 false (.t 47)))
(.rd 16 (opO 49 (.ibin .mul .i64 (.t 43) (.t 48)))
(.rd 17 (opO 50 (.ibin .add .i64 (.t 38) (.t 49)))
(.rd 18 (mvO 51 7)
(.rd 19 (opO 52 (.ibin .add .i64 (.t 50) (.t 51)))
(.rd 20 (mvO 9 52)
.fin))))))))))))))))))))) (some [2, 3, 4, 5, 6, 8, 9]))
(.ops [mvO 53 5,
mvO 54 6,
mvO 55 8,
opO 56 (.ibin .add .i64 (.t 54) (.t 55)),
mvO 57 9,
opO 58 (.ibin .rem .i64 (.t 57) (.c (.int .i64 1000000000))),
mvO 59 9,
opO 60 (.ibin .quo .i64 (.t 59) (.c (.int .i64 1000000000))),
opO 61 (.iaddr 1 (.t 53) (.t 56)),
⟨none, none, .store 1 (.t 61) (.t 58)⟩,
mvO 7 60] (some [2, 3, 4, 5, 6, 7, 8]))))
(.ops [mvO 31 8,
opO 32 (.ibin .add .i64 (.t 31) (.c (.int .i64 1))),
mvO 8 32] (some [2, 3, 4, 5, 6, 7, 8])))))))
(.draw (.rd 0 (mvO 62 5)
(.rd 1 (mvO 63 6)
(.rd 2 (opO 64 (.faddr 1 (.t 3)))
(.rd 3 (opO 65 (.load 1 false (.t 64)))
(.rd 4 (opO 66 (.lenV (.t 65)))
(.rd 5 (opO 67 (.ibin .add .i64 (.t 63) (.t 66)))
(.rd 6 (mvO 68 5)
(.rd 7 (mvO 69 6)
(.rd 8 (opO 70 (.faddr 1 (.t 3)))
(.rd 9 (opO 71 (.load 1 false (.t 70)))
(.rd 10 (opO 72 (.lenV (.t 71)))
(.rd 11 (opO 73 (.ibin .add .i64 (.t 69) (.t 72)))
(.rd 12 (opO 74 (.iaddr 1 (.t 68) (.t 73)))
(.rd 13 (opO 75 (.load 1 false (.t 74)))
(.rd 14 (mvO 76 7)
(.rd 15 (opO 77 (.ibin .add .i64 (.t 75) (.t 76)))
(.rd 16 (opO 78 (.iaddr 1 (.t 62) (.t 67)))
(.wr 17 ⟨none, none, .store 1 (.t 78) (.t 77)⟩ [16, 15, 0, 1, 2, 3, 4, 5, 6, 7, 8, 9, 10, 11, 12, 13, 14, 15]
.fin .no)))))))))))))))))) (some [2, 3, 4, 5, 6])))))
(.ops [mvO 24 6,
opO 25 (.ibin .add .i64 (.t 24) (.c (.int .i64 1))),
mvO 6 25] (some [2, 3, 4, 5, 6])))))))
(.seq (.ops [opO 79 (.faddr 0 (.t 2)),
opO 80 (.load 1 false (.t 79)),
opO 81 (.faddr 0 (.t 3)),
opO 82 (.load 1 false (.t 81)),
opO 83 (.ibin .mul .i64 (.t 80) (.t 82)),
mvO 84 5,
opO 85 (.call 285 [(.t 83), (.t 84)]),
⟨none, none, .store 2 (.t 4) (.t 85)⟩] (some [4]))
.ret))))⟩
/-- guidevane/guidevanebase.WideSub -/
def ir280 : IFn := ⟨9, [.cell 4 2 true],
(.seq (.ops [opO 2 (.box (.t 0)),
opO 3 (.box (.t 1)),
opO 4 (.alloc [(.int .i64 0), (.slice none 0 0)])] (some [2, 3, 4]))
(.seq (.draw (.rd 0 (opO 5 (.load 2 true (.t 2)))
(.rd 1 (opO 6 (.load 2 true (.t 3)))
(.wr 2 (opO 7 (.call 287 [(.t 6)])) [1]
(.wr 3 (opO 8 (.call 281 [(.t 5), (.t 7)])) [0, 2, 2]
(.wr 4 ⟨none, none, .store 2 (.t 4) (.t 8)⟩ [3, 3, 0, 1, 2, 3]
.fin .no) .no) .no))) (some [4]))
.ret))⟩
/-- guidevane/guidevanebase.WideAdd -/
def ir281 : IFn := ⟨53, [.cell 4 2 true],
(.seq (.ops [opO 2 (.box (.t 0)),
opO 3 (.box (.t 1)),
opO 4 (.alloc [(.int .i64 0), (.slice none 0 0)])] (some [2, 3, 4]))
(.seq (.seq (.ops [opO 6 (.faddr 0 (.t 2)),
opO 7 (.load 1 false (.t 6)),
opO 8 (.ibin .eql .i64 (.t 7) (.c (.int .i64 0)))] (some [2, 3, 4, 8]))
(.cond (.t 8)
(.seq (.ops [opO 9 (.load 2 true (.t 3)),
⟨none, none, .store 2 (.t 4) (.t 9)⟩] (some [4]))
.ret)
.skip))
(.seq (.seq (.ops [opO 10 (.faddr 0 (.t 3)),
opO 11 (.load 1 false (.t 10)),
opO 12 (.ibin .eql .i64 (.t 11) (.c (.int .i64 0)))] (some [2, 3, 4, 12]))
(.cond (.t 12)
(.seq (.ops [opO 13 (.load 2 true (.t 2)),
⟨none, none, .store 2 (.t 4) (.t 13)⟩] (some [4]))
.ret)
.skip))
(.seq (.seq (.ops [opO 14 (.faddr 0 (.t 2)),
opO 15 (.load 1 false (.t 14)),
opO 16 (.faddr 0 (.t 3)),
opO 17 (.load 1 false (.t 16)),
opO 18 (.ibin .eql .i64 (.t 15) (.t 17))] (some [2, 3, 4, 18]))
(.cond (.t 18)
(.seq (.draw (.rd 0 (opO 19 (.faddr 0 (.t 2)))
(.rd 1 (opO 20 (.load 1 false (.t 19)))
(.rd 2 (opO 21 (.faddr 1 (.t 2)))
(.rd 3 (opO 22 (.load 1 false (.t 21)))
(.rd 4 (opO 23 (.faddr 1 (.t 3)))
(.rd 5 (opO 24 (.load 1 false (.t 23)))
(.wr 6 (opO 25 (.call 290 [(.t 22), (.t 24)])) [3, 5]
(.wr 7 (opO 26 (.call 285 [(.t 20), (.t 25)])) [1, 6, 6]
(.wr 8 ⟨none, none, .store 2 (.t 4) (.t 26)⟩ [7, 7, 0, 1, 2, 3, 4, 5, 6, 7]
.fin .no) .no) .no))))))) (some [4]))
.ret)
.skip))
(.seq (.ops [opO 27 (.faddr 1 (.t 2)),
opO 28 (.load 1 false (.t 27)),
opO 29 (.faddr 1 (.t 3)),
opO 30 (.load 1 false (.t 29)),
opO 31 (.call 291 [(.t 28), (.t 30)]),
mvO 5 31] (some [2, 3, 4, 5]))
(.seq (.seq (.ops [mvO 32 5,
opO 33 (.ibin .eql .i64 (.t 32) (.c (.int .i64 0)))] (some [2, 3, 4, 5, 33]))
(.cond (.t 33)
(.seq (.ops [opO 34 (.build [(.int .i64 0), (.slice none 0 0)] []),
⟨none, none, .store 2 (.t 4) (.t 34)⟩] (some [4]))
.ret)
.skip))
(.seq (.seq (.ops [mvO 35 5,
opO 36 (.ibin .gtr .i64 (.t 35) (.c (.int .i64 0)))] (some [2, 3, 4, 36]))
(.cond (.t 36)
(.seq (.draw (.rd 0 (opO 37 (.faddr 0 (.t 2)))
(.rd 1 (opO 38 (.load 1 false (.t 37)))
(.rd 2 (opO 39 (.faddr 1 (.t 2)))
(.rd 3 (opO 40 (.load 1 false (.t 39)))
(.rd 4 (opO 41 (.faddr 1 (.t 3)))
(.rd 5 (opO 42 (.load 1 false (.t 41)))
(.wr 6 (opO 43 (.call 292 [(.t 40), (.t 42)])) [3, 5]
(.wr 7 (opO 44 (.call 285 [(.t 38), (.t 43)])) [1, 6, 6]
(.wr 8 ⟨none, none, .store 2 (.t 4) (.t 44)⟩ [7, 7, 0, 1, 2, 3, 4, 5, 6, 7]
.fin .no) .no) .no))))))) (some [4]))
.ret)
.skip))
(.seq (.draw (.rd 0 (opO 45 (.faddr 0 (.t 3)))
(.rd 1 (opO 46 (.load 1 false (.t 45)))
(.rd 2 (opO 47 (.faddr 1 (.t 3)))
(.rd 3 (opO 48 (.load 1 false (.t 47)))
(.rd 4 (opO 49 (.faddr 1 (.t 2)))
(.rd 5 (opO 50 (.load 1 false (.t 49)))
(.wr 6 (opO 51 (.call 292 [(.t 48), (.t 50)])) [3, 5]
(.wr 7 (opO 52 (.call 285 [(.t 46), (.t 51)])) [1, 6, 6]
(.wr 8 ⟨none, none, .store 2 (.t 4) (.t 52)⟩ [7, 7, 0, 1, 2, 3, 4, 5, 6, 7]
.fin .no) .no) .no))))))) (some [4]))
.ret))))))))⟩
/-- guidevane/guidevanebase.wideOf -/
def ir285 : IFn := ⟨13, [.cell 4 2 true],
(.seq (.ops [opO 4 (.alloc [(.int .i64 0), (.slice none 0 0)])] none)
(.seq (.ops [mvO 5 1,
opO 6 (.call 295 [(.t 5)]),
mvO 1 6] (some [0, 1, 4]))
(.seq (.seq (.ops [mvO 7 1,
opO 8 (.lenV (.t 7)),
opO 9 (.ibin .eql .i64 (.t 8) (.c (.int .i64 0)))] (some [0, 1, 4, 9]))
(.cond (.t 9)
(.ops [opO 0 (.mov (.c (.int .i64 0)))] none)
.skip))
(.seq (.ops [mvO 10 0,
mvO 11 1,
opO 12 (.build [(.int .i64 0), (.slice none 0 0)] [(0, 1, (.t 10)), (1, 1, (.t 11))]),
⟨none, none, .store 2 (.t 4) (.t 12)⟩] (some [4]))
.ret))))⟩
/-- guidevane/guidevanebase.WideNeg -/
def ir287 : IFn := ⟨9, [.cell 2 2 true],
(.seq (.ops [opO 1 (.box (.t 0)),
opO 2 (.alloc [(.int .i64 0), (.slice none 0 0)])] (some [1, 2]))
(.seq (.ops [opO 3 (.faddr 0 (.t 1)),
opO 4 (.load 1 false (.t 3)),
opO 5 (.un .neg (.t 4)),
opO 6 (.faddr 1 (.t 1)),
opO 7 (.load 1 false (.t 6)),
opO 8 (.build [(.int .i64 0), (.slice none 0 0)] [(0, 1, (.t 5)), (1, 1, (.t 7))]),
⟨none, none, .store 2 (.t 2) (.t 8)⟩] (some [2]))
.ret))⟩
/-- guidevane/guidevanebase.addDigits -/
def ir290 : IFn := ⟨42, [.t 4],
(.seq (.ops [opO 4 (.mov (.c (.slice none 0 0)))] (some [0, 1]))
(.seq (.ops [opO 5 (.mov (.c (.slice none 0 0)))] none)
(.seq (.ops [opO 6 (.mov (.c (.int .i64 0)))] none)
(.seq (.seq (.ops [opO 7 (.mov (.c (.int .i64 0)))] none)
(.block 0 (.loop (.seq (.seq (.ops [mvO 9 7,
mvO 10 0,
opO 11 (.lenV (.t 10)),
opO 12 (.ibin .lss .i64 (.t 9) (.t 11)),
mvO 13 12,
⟨(some 14), (some (13, false)), .mov (.t 7)⟩,
⟨(some 15), (some (13, false)), .mov (.t 1)⟩,
⟨(some 16), (some (13, false)), .lenV (.t 15)⟩,
⟨(some 17), (some (13, false)), .ibin .lss .i64 (.t 14) (.t 16)⟩,
opO 18 (.pick (.t 13) (.c (.bool true)) (.t 17)),
mvO 19 18,
⟨(some 20), (some (19, false)), .mov (.t 6)⟩,
⟨(some 21), (some (19, false)), .ibin .gtr .i64 (.t 20) (.c (.int .i64 0))⟩,
opO 22 (.pick (.t 19) (.c (.bool true)) (.t 21))] (some [0, 1, 5, 6, 7, 22]))
(.cond (.t 22)
.skip
(.exit 0)))
(.seq (.block 1 (.seq (.ops [mvO 25 0,
mvO 26 7,
opO 27 (.call 297 [(.t 25), (.t 26)]),
mvO 28 1,
mvO 29 7,
opO 30 (.call 297 [(.t 28), (.t 29)]),
opO 31 (.ibin .add .i64 (.t 27) (.t 30)),
mvO 32 6,
opO 33 (.ibin .add .i64 (.t 31) (.t 32)),
mvO 8 33] (some [0, 1, 5, 7, 8]))
(.ops [mvO 34 5,
mvO 35 8,
opO 36 (.ibin .rem .i64 (.t 35) (.c (.int .i64 1000000000))),
opO 37 (.bslice 1 1 [(.int .i64 0)] [(0, 1, (.t 36))]),
opO 38 (.append 1 8 (.t 34) (.t 37)),
mvO 39 8,
opO 40 (.ibin .quo .i64 (.t 39) (.c (.int .i64 1000000000))),
mvO 5 38,
mvO 6 40] (some [0, 1, 5, 6, 7]))))
(.ops [mvO 23 7,
opO 24 (.ibin .add .i64 (.t 23) (.c (.int .i64 1))),
mvO 7 24] (some [0, 1, 5, 6, 7])))))))
(.seq (.ops [mvO 41 5,
mvO 4 41] (some [4]))
.ret)))))⟩
/-- guidevane/guidevanebase.cmpDigits -/
def ir291 : IFn := ⟨41, [.t 4],
(.seq (.ops [opO 4 (.mov (.c (.int .i64 0)))] (some [0, 1]))
(.seq (.seq (.ops [mvO 6 0,
opO 7 (.lenV (.t 6)),
mvO 8 1,
opO 9 (.lenV (.t 8)),
opO 10 (.ibin .neq .i64 (.t 7) (.t 9))] (some [0, 1, 10]))
(.cond (.t 10)
(.seq (.seq (.ops [mvO 11 0,
opO 12 (.lenV (.t 11)),
mvO 13 1,
opO 14 (.lenV (.t 13)),
opO 15 (.ibin .lss .i64 (.t 12) (.t 14))] (some [15]))
(.cond (.t 15)
(.seq (.ops [opO 4 (.mov (.c (.int .i64 (-1))))] none)
.ret)
.skip))
(.seq (.ops [opO 4 (.mov (.c (.int .i64 1)))] none)
.ret))
.skip))
(.seq (.seq (.ops [mvO 16 0,
opO 17 (.lenV (.t 16)),
opO 18 (.ibin .sub .i64 (.t 17) (.c (.int .i64 1))),
mvO 5 18] (some [0, 1, 5]))
(.block 0 (.loop (.seq (.seq (.ops [mvO 19 5,
opO 20 (.ibin .geq .i64 (.t 19) (.c (.int .i64 0)))] (some [0, 1, 5, 20]))
(.cond (.t 20)
.skip
(.exit 0)))
(.seq (.block 1 (.seq (.seq (.draw (.rd 0 (mvO 23 0)
(.rd 1 (mvO 24 5)
(.rd 2 (opO 25 (.iaddr 1 (.t 23) (.t 24)))
(.rd 3 (opO 26 (.load 1 false (.t 25)))
(.rd 4 (mvO 27 1)
(.rd 5 (mvO 28 5)
(.rd 6 (opO 29 (.iaddr 1 (.t 27) (.t 28)))
(.rd 7 (opO 30 (.load 1 false (.t 29)))
(.rd 8 (opO 31 (.ibin .lss .i64 (.t 26) (.t 30)))
.fin))))))))) (some [0, 1, 5, 31]))
(.cond (.t 31)
(.seq (.ops [opO 4 (.mov (.c (.int .i64 (-1))))] none)
.ret)
.skip))
(.seq (.draw (.rd 0 (mvO 32 0)
(.rd 1 (mvO 33 5)
(.rd 2 (opO 34 (.iaddr 1 (.t 32) (.t 33)))
(.rd 3 (opO 35 (.load 1 false (.t 34)))
(.rd 4 (mvO 36 1)
(.rd 5 (mvO 37 5)
(.rd 6 (opO 38 (.iaddr 1 (.t 36) (.t 37)))
(.rd 7 (opO 39 (.load 1 false (.t 38)))
(.rd 8 (opO 40 (.ibin .gtr .i64 (.t 35) (.t 39)))
.fin))))))))) (some [0, 1, 5, 40]))
(.cond (.t 40)
(.seq (.ops [opO 4 (.mov (.c (.int .i64 1)))] none)
.ret)
.skip))))
(.ops [mvO 21 5,
opO 22 (.ibin .sub .i64 (.t 21) (.c (.int .i64 1))),
mvO 5 22] (some [0, 1, 5])))))))
(.seq (.ops [opO 4 (.mov (.c (.int .i64 0)))] none)
.ret))))⟩
/-- guidevane/guidevanebase.subDigits -/
def ir292 : IFn := ⟨35, [.t 4],
(.seq (.ops [opO 4 (.mov (.c (.slice none 0 0)))] (some [0, 1]))
(.seq (.ops [opO 5 (.mov (.c (.slice none 0 0)))] none)
(.seq (.ops [opO 6 (.mov (.c (.int .i64 0)))] none)
(.seq (.seq (.ops [opO 7 (.mov (.c (.int .i64 0)))] none)
(.block 0 (.loop (.seq (.seq (.ops [mvO 9 7,
mvO 10 0,
opO 11 (.lenV (.t 10)),
opO 12 (.ibin .lss .i64 (.t 9) (.t 11))] (some [0, 1, 5, 6, 7, 12]))
(.cond (.t 12)
.skip
(.exit 0)))
(.seq (.block 1 (.seq (.draw (.rd 0 (mvO 15 0)
(.rd 1 (mvO 16 7)
(.rd 2 (opO 17 (.iaddr 1 (.t 15) (.t 16)))
(.rd 3 (opO 18 (.load 1 false (.t 17)))
(.rd 4 (mvO 19 1)
(.rd 5 (mvO 20 7)
(.rd 8 (mvO 23 6)
(.wr 6 (opO 21 (.call 297 [(.t 19), (.t 20)])) [4, 5]
(.rd 7 (opO 22 (.ibin .sub .i64 (.t 18) (.t 21)))
(.rd 9 (opO 24 (.ibin .sub .i64 (.t 22) (.t 23)))
(.rd 10 (mvO 8 24)
.fin))) .no)))))))) (some [0, 1, 5, 7, 8]))
(.seq (.ops [opO 6 (.mov (.c (.int .i64 0)))] none)
(.seq (.seq (.ops [mvO 25 8,
opO 26 (.ibin .lss .i64 (.t 25) (.c (.int .i64 0)))] (some [0, 1, 5, 6, 7, 8, 26]))
(.cond (.t 26)
(.ops [mvO 27 8,
opO 28 (.ibin .add .i64 (.t 27) (.c (.int .i64 1000000000))),
mvO 8 28,
opO 6 (.mov (.c (.int .i64 1)))] (some [0, 1, 5, 6, 7, 8]))
.skip))
(.ops [mvO 29 5,
mvO 30 8,
opO 31 (.bslice 1 1 [(.int .i64 0)] [(0, 1, (.t 30))]),
opO 32 (.append 1 8 (.t 29) (.t 31)),
mvO 5 32] (some [0, 1, 5, 6, 7]))))))
(.ops [mvO 13 7,
opO 14 (.ibin .add .i64 (.t 13) (.c (.int .i64 1))),
mvO 7 14] (some [0, 1, 5, 6, 7])))))))
(.seq (.ops [mvO 33 5,
opO 34 (.call 295 [(.t 33)]),
mvO 4 34] (some [4]))
.ret)))))⟩
/-- guidevane/guidevanebase.trimmed -/
def ir295 : IFn := ⟨21, [.t 2],
(.seq (.ops [opO 2 (.mov (.c (.slice none 0 0)))] (some [0]))
(.seq (.ops [mvO 4 0,
opO 5 (.lenV (.t 4)),
mvO 3 5] (some [0, 3]))
(.seq (.block 0 (.loop (.seq (.seq (.ops [mvO 6 3,
opO 7 (.ibin .gtr .i64 (.t 6) (.c (.int .i64 0))),
mvO 8 7,
⟨(some 9), (some (8, true)), .mov (.t 0)⟩,
⟨(some 10), (some (8, true)), .mov (.t 3)⟩,
⟨(some 11), (some (8, true)), .ibin .sub .i64 (.t 10) (.c (.int .i64 1))⟩,
⟨(some 12), (some (8, true)), .iaddr 1 (.t 9) (.t 11)⟩,
⟨(some 13), (some (8, true)), .load 1 false (.t 12)⟩,
⟨(some 14), (some (8, true)), .ibin .eql .i64 (.t 13) (.c (.int .i64 0))⟩,
opO 15 (.pick (.t 8) (.t 14) (.c (.bool false)))] (some [0, 3, 15]))
(.cond (.t 15)
.skip
(.exit 0)))
(.block 1 (.ops [mvO 16 3,
opO 17 (.ibin .sub .i64 (.t 16) (.c (.int .i64 1))),
mvO 3 17] (some [0, 3]))))))
(.seq (.ops [mvO 18 0,
mvO 19 3,
opO 20 (.sliceV 1 (.t 18) none (some (.t 19)) none),
mvO 2 20] (some [2]))
.ret))))⟩
/-- guidevane/guidevanebase.digit -/
def ir297 : IFn := ⟨13, [.t 4],
(.seq (.ops [opO 4 (.mov (.c (.int .i64 0)))] (some [0, 1]))
(.seq (.seq (.ops [mvO 5 1,
mvO 6 0,
opO 7 (.lenV (.t 6)),
opO 8 (.ibin .lss .i64 (.t 5) (.t 7))] (some [0, 1, 8]))
(.cond (.t 8)
(.seq (.ops [mvO 9 0,
mvO 10 1,
opO 11 (.iaddr 1 (.t 9) (.t 10)),
opO 12 (.load 1 false (.t 11)),
mvO 4 12] (some [4]))
.ret)
.skip))
(.seq (.ops [opO 4 (.mov (.c (.int .i64 0)))] none)
.ret)))⟩

end Go.Proofs.YtacgibkgojnfeaaGreat.AM
