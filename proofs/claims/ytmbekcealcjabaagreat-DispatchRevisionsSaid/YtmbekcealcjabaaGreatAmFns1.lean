/- The functions in the small language. Conditions: none. -/
import Derived.Test.YtmbekcealcjabaaGreatAmFns
namespace Go.Proofs.YtmbekcealcjabaaGreat.AM
set_option linter.unusedSimpArgs false
set_option linter.unusedVariables false
open Go Go.RowKit

/-- slices.Compare[[]int,int] -/
def ir363 : IFn := ⟨36, [.t 4],
(.seq (.ops [opO 4 (.mov (.c (.int .i64 0)))] (some [0, 1]))
(.seq (.seq (.ops [mvO 9 0,
opO 10 (.lenV (.t 9)),
opO 11 (.mov (.c (.int .i64 0)))] none)
(.block 0 (.loop (.seq (.ops [opO 12 (.ibin .lss .i64 (.t 11) (.t 10))] none)
(.seq (.cond (.t 12)
.skip
(.exit 0))
(.seq (.block 1 (.seq (.ops [mvO 13 11,
opO 14 (.iaddr 1 (.t 9) (.t 11)),
opO 15 (.load 1 false (.t 14)),
mvO 5 13,
mvO 6 15] (some [0, 1, 5, 6, 9, 10, 11]))
(.seq (.seq (.ops [mvO 16 5,
mvO 17 1,
opO 18 (.lenV (.t 17)),
opO 19 (.ibin .geq .i64 (.t 16) (.t 18))] (some [0, 1, 5, 6, 9, 10, 11, 19]))
(.cond (.t 19)
(.seq (.ops [opO 4 (.mov (.c (.int .i64 1)))] none)
.ret)
.skip))
(.seq (.ops [mvO 20 1,
mvO 21 5,
opO 22 (.iaddr 1 (.t 20) (.t 21)),
opO 23 (.load 1 false (.t 22)),
mvO 7 23] (some [0, 1, 6, 7, 9, 10, 11]))
(.seq (.ops [mvO 24 6,
mvO 25 7,
opO 26 (.call 108 [(.t 24), (.t 25)]),
mvO 8 26] (some [0, 1, 8, 9, 10, 11]))
(.seq (.ops [mvO 27 8,
opO 28 (.ibin .neq .i64 (.t 27) (.c (.int .i64 0)))] (some [0, 1, 8, 9, 10, 11, 28]))
(.cond (.t 28)
(.seq (.ops [mvO 29 8,
mvO 4 29] (some [4]))
.ret)
.skip)))))))
(.ops [opO 30 (.ibin .add .i64 (.t 11) (.c (.int .i64 1))),
mvO 11 30] (some [0, 1, 9, 10, 11]))))))))
(.seq (.seq (.ops [mvO 31 0,
opO 32 (.lenV (.t 31)),
mvO 33 1,
opO 34 (.lenV (.t 33)),
opO 35 (.ibin .lss .i64 (.t 32) (.t 34))] (some [35]))
(.cond (.t 35)
(.seq (.ops [opO 4 (.mov (.c (.int .i64 (-1))))] none)
.ret)
.skip))
(.seq (.ops [opO 4 (.mov (.c (.int .i64 0)))] none)
.ret))))⟩
/-- guidevane/guidevanebase.HasText -/
def ir364 : IFn := ⟨18, [.t 4],
(.seq (.ops [opO 4 (.mov (.c (.bool false)))] (some [0, 1]))
(.seq (.seq (.ops [opO 5 (.mov (.c (.int .i64 0)))] none)
(.block 0 (.loop (.seq (.seq (.ops [mvO 6 5,
mvO 7 0,
opO 8 (.lenV (.t 7)),
opO 9 (.ibin .lss .i64 (.t 6) (.t 8))] (some [0, 1, 5, 9]))
(.cond (.t 9)
.skip
(.exit 0)))
(.seq (.block 1 (.seq (.ops [mvO 12 0,
mvO 13 5,
opO 14 (.iaddr 1 (.t 12) (.t 13)),
opO 15 (.load 1 false (.t 14)),
mvO 16 1,
opO 17 (.sbin .eql (.t 15) (.t 16))] (some [0, 1, 5, 17]))
(.cond (.t 17)
(.seq (.ops [opO 4 (.mov (.c (.bool true)))] none)
.ret)
.skip)))
(.ops [mvO 10 5,
opO 11 (.ibin .add .i64 (.t 10) (.c (.int .i64 1))),
mvO 5 11] (some [0, 1, 5])))))))
(.seq (.ops [opO 4 (.mov (.c (.bool false)))] none)
.ret)))⟩
/-- guidevane/guidevaneref08.byDue -/
def ir365 : IFn := ⟨48, [.t 4],
(.seq (.ops [opO 4 (.mov (.c (.slice none 0 0)))] (some [0, 1]))
(.seq (.ops [mvO 8 1,
opO 9 (.call 38 [(.t 8)]),
mvO 5 9] (some [0, 5]))
(.seq (.block 0 (.loop (.seq (.seq (.ops [mvO 10 5,
opO 11 (.lenV (.t 10)),
mvO 12 0,
opO 13 (.lenV (.t 12)),
opO 14 (.ibin .lss .i64 (.t 11) (.t 13))] (some [0, 5, 14]))
(.cond (.t 14)
.skip
(.exit 0)))
(.block 1 (.seq (.ops [opO 6 (.mov (.c (.int .i64 (-1))))] none)
(.seq (.seq (.ops [opO 7 (.mov (.c (.int .i64 0)))] none)
(.block 2 (.loop (.seq (.seq (.ops [mvO 15 7,
mvO 16 0,
opO 17 (.lenV (.t 16)),
opO 18 (.ibin .lss .i64 (.t 15) (.t 17))] (some [0, 5, 6, 7, 18]))
(.cond (.t 18)
.skip
(.exit 2)))
(.seq (.block 3 (.seq (.draw (.rd 0 (mvO 21 5)
(.rd 1 (mvO 22 7)
(.wr 2 (opO 23 (.call 344 [(.t 21), (.t 22)])) [0, 1]
(.rd 3 (opO 24 (.un .not (.t 23)))
(.rd 4 (mvO 25 24)
(.rd 5 ⟨(some 26), (some (25, true)), .mov (.t 6)⟩
(.rd 6 ⟨(some 27), (some (25, true)), .ibin .lss .i64 (.t 26) (.c (.int .i64 0))⟩
(.rd 7 ⟨(some 28), (some (25, true)), .mov (.t 27)⟩
(.rd 8 ⟨(some 29), (some (28, false)), .mov (.t 0)⟩
(.rd 9 ⟨(some 30), (some (28, false)), .mov (.t 7)⟩
(.rd 10 ⟨(some 31), (some (28, false)), .iaddr 3 (.t 29) (.t 30)⟩
(.rd 11 ⟨(some 32), (some (28, false)), .faddr 1 (.t 31)⟩
(.rd 12 ⟨(some 33), (some (28, false)), .load 1 false (.t 32)⟩
(.rd 13 ⟨(some 34), (some (28, false)), .mov (.t 0)⟩
(.rd 14 ⟨(some 35), (some (28, false)), .mov (.t 6)⟩
(.rd 15 ⟨(some 36), (some (28, false)), .iaddr 3 (.t 34) (.t 35)⟩
(.rd 16 ⟨(some 37), (some (28, false)), .faddr 1 (.t 36)⟩
(.rd 17 ⟨(some 38), (some (28, false)), .load 1 false (.t 37)⟩
(.rd 18 ⟨(some 39), (some (28, false)), .ibin .lss .i64 (.t 33) (.t 38)⟩
(.rd 19 ⟨(some 40), (some (25, true)), .pick (.t 28) (.c (.bool true)) (.t 39)⟩
(.rd 20 (opO 41 (.pick (.t 25) (.t 40) (.c (.bool false))))
.fin)))))))))))))))))) .no))) (some [0, 5, 6, 7, 41]))
(.cond (.t 41)
(.ops [mvO 42 7,
mvO 6 42] (some [0, 5, 6, 7]))
.skip)))
(.ops [mvO 19 7,
opO 20 (.ibin .add .i64 (.t 19) (.c (.int .i64 1))),
mvO 7 20] (some [0, 5, 6, 7])))))))
(.ops [mvO 43 5,
mvO 44 6,
opO 45 (.bslice 1 1 [(.int .i64 0)] [(0, 1, (.t 44))]),
opO 46 (.append 1 8 (.t 43) (.t 45)),
mvO 5 46] (some [0, 5]))))))))
(.seq (.ops [mvO 47 5,
mvO 4 47] (some [4]))
.ret))))⟩
/-- guidevane/guidevaneref08.groupOf -/
def ir366 : IFn := ⟨54, [.t 8, .t 9],
(.seq (.ops [opO 8 (.mov (.c (.slice none 0 0))),
opO 9 (.mov (.c (.bool false)))] (some [0, 1, 2, 3]))
(.seq (.seq (.ops [mvO 14 2,
opO 15 (.ibin .eql .i64 (.t 14) (.c (.int .i64 0)))] (some [0, 1, 2, 3, 15]))
(.cond (.t 15)
(.seq (.ops [mvO 16 1,
mvO 17 0,
mvO 18 1,
opO 19 (.call 343 [(.t 17), (.t 18)]),
mvO 20 3,
opO 21 (.ibin .eql .i64 (.t 19) (.t 20)),
mvO 8 16,
mvO 9 21] (some [8, 9]))
.ret)
.skip))
(.seq (.ops [opO 10 (.mov (.c (.int .i64 0)))] none)
(.seq (.seq (.ops [mvO 22 1,
opO 23 (.lenV (.t 22)),
opO 24 (.ibin .gtr .i64 (.t 23) (.c (.int .i64 0)))] (some [0, 1, 2, 3, 10, 24]))
(.cond (.t 24)
(.ops [mvO 25 1,
mvO 26 1,
opO 27 (.lenV (.t 26)),
opO 28 (.ibin .sub .i64 (.t 27) (.c (.int .i64 1))),
opO 29 (.iaddr 1 (.t 25) (.t 28)),
opO 30 (.load 1 false (.t 29)),
opO 31 (.ibin .add .i64 (.t 30) (.c (.int .i64 1))),
mvO 10 31] (some [0, 1, 2, 3, 10]))
.skip))
(.seq (.seq (.ops [mvO 32 10,
mvO 11 32] (some [0, 1, 2, 3, 11]))
(.block 0 (.loop (.seq (.seq (.ops [mvO 33 11,
mvO 34 0,
opO 35 (.lenV (.t 34)),
opO 36 (.ibin .lss .i64 (.t 33) (.t 35))] (some [0, 1, 2, 3, 11, 36]))
(.cond (.t 36)
.skip
(.exit 0)))
(.seq (.block 1 (.seq (.ops [mvO 40 0,
mvO 41 1,
opO 42 (.call 38 [(.t 41)]),
mvO 43 11,
opO 44 (.bslice 1 1 [(.int .i64 0)] [(0, 1, (.t 43))]),
opO 45 (.append 1 8 (.t 42) (.t 44)),
mvO 46 2,
opO 47 (.ibin .sub .i64 (.t 46) (.c (.int .i64 1))),
mvO 48 3,
opO 49 (.call 366 [(.t 40), (.t 45), (.t 47), (.t 48)]),
mvO 39 49,
opO 50 (.extract 0 (.t 39)),
opO 51 (.extract 1 (.t 39)),
mvO 12 50,
mvO 13 51] (some [0, 1, 2, 3, 11, 12, 13]))
(.seq (.ops [mvO 52 13] (some [0, 1, 2, 3, 11, 12, 52]))
(.cond (.t 52)
(.seq (.ops [mvO 53 12,
mvO 8 53,
opO 9 (.mov (.c (.bool true)))] (some [8, 9]))
.ret)
.skip))))
(.ops [mvO 37 11,
opO 38 (.ibin .add .i64 (.t 37) (.c (.int .i64 1))),
mvO 11 38] (some [0, 1, 2, 3, 11])))))))
(.seq (.ops [opO 8 (.mov (.c (.slice none 0 0))),
opO 9 (.mov (.c (.bool false)))] none)
.ret))))))⟩

end Go.Proofs.YtmbekcealcjabaaGreat.AM
