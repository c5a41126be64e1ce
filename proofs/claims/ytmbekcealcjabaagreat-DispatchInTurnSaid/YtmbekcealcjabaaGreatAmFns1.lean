/- The functions in the small language. Conditions: none. -/
import Derived.Test.YtmbekcealcjabaaGreatAmFns
namespace Go.Proofs.YtmbekcealcjabaaGreat.AM
set_option linter.unusedSimpArgs false
set_option linter.unusedVariables false
open Go Go.RowKit

/-- slices.Compare[[]int,int] -/
def ir363 : IFn := ⟨36, [.t 4],
(.seq (.ops [opO 4 (.mov (.c (.int .i64 0)))] (some [0, 1]))
(.seq (.seq (.ops [mvO 9 0,
opO 10 (.lenV (.t 9)),
opO 11 (.mov (.c (.int .i64 0)))] none)
(.block 0 (.loop (.seq (.ops [opO 12 (.ibin .lss .i64 (.t 11) (.t 10))] none)
(.seq (.cond (.t 12)
.skip
(.exit 0))
(.seq (.block 1 (.seq (.ops [mvO 13 11,
opO 14 (.iaddr 1 (.t 9) (.t 11)),
opO 15 (.load 1 false (.t 14)),
mvO 5 13,
mvO 6 15] (some [0, 1, 5, 6, 9, 10, 11]))
(.seq (.seq (.ops [mvO 16 5,
mvO 17 1,
opO 18 (.lenV (.t 17)),
opO 19 (.ibin .geq .i64 (.t 16) (.t 18))] (some [0, 1, 5, 6, 9, 10, 11, 19]))
(.cond (.t 19)
(.seq (.ops [opO 4 (.mov (.c (.int .i64 1)))] none)
.ret)
.skip))
(.seq (.ops [mvO 20 1,
mvO 21 5,
opO 22 (.iaddr 1 (.t 20) (.t 21)),
opO 23 (.load 1 false (.t 22)),
mvO 7 23] (some [0, 1, 6, 7, 9, 10, 11]))
(.seq (.ops [mvO 24 6,
mvO 25 7,
opO 26 (.call 108 [(.t 24), (.t 25)]),
mvO 8 26] (some [0, 1, 8, 9, 10, 11]))
(.seq (.ops [mvO 27 8,
opO 28 (.ibin .neq .i64 (.t 27) (.c (.int .i64 0)))] (some [0, 1, 8, 9, 10, 11, 28]))
(.cond (.t 28)
(.seq (.ops [mvO 29 8,
mvO 4 29] (some [4]))
.ret)
.skip)))))))
(.ops [opO 30 (.ibin .add .i64 (.t 11) (.c (.int .i64 1))),
mvO 11 30] (some [0, 1, 9, 10, 11]))))))))
(.seq (.seq (.ops [mvO 31 0,
opO 32 (.lenV (.t 31)),
mvO 33 1,
opO 34 (.lenV (.t 33)),
opO 35 (.ibin .lss .i64 (.t 32) (.t 34))] (some [35]))
(.cond (.t 35)
(.seq (.ops [opO 4 (.mov (.c (.int .i64 (-1))))] none)
.ret)
.skip))
(.seq (.ops [opO 4 (.mov (.c (.int .i64 0)))] none)
.ret))))⟩
/-- guidevane/guidevanebase.HasText -/
def ir364 : IFn := ⟨18, [.t 4],
(.seq (.ops [opO 4 (.mov (.c (.bool false)))] (some [0, 1]))
(.seq (.seq (.ops [opO 5 (.mov (.c (.int .i64 0)))] none)
(.block 0 (.loop (.seq (.seq (.ops [mvO 6 5,
mvO 7 0,
opO 8 (.lenV (.t 7)),
opO 9 (.ibin .lss .i64 (.t 6) (.t 8))] (some [0, 1, 5, 9]))
(.cond (.t 9)
.skip
(.exit 0)))
(.seq (.block 1 (.seq (.ops [mvO 12 0,
mvO 13 5,
opO 14 (.iaddr 1 (.t 12) (.t 13)),
opO 15 (.load 1 false (.t 14)),
mvO 16 1,
opO 17 (.sbin .eql (.t 15) (.t 16))] (some [0, 1, 5, 17]))
(.cond (.t 17)
(.seq (.ops [opO 4 (.mov (.c (.bool true)))] none)
.ret)
.skip)))
(.ops [mvO 10 5,
opO 11 (.ibin .add .i64 (.t 10) (.c (.int .i64 1))),
mvO 5 11] (some [0, 1, 5])))))))
(.seq (.ops [opO 4 (.mov (.c (.bool false)))] none)
.ret)))⟩

end Go.Proofs.YtmbekcealcjabaaGreat.AM
