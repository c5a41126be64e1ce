/- The functions in the small language. Conditions: none. -/
import Derived.Test.YtmbekcealcjabaaGreatAmFns
namespace Go.Proofs.YtmbekcealcjabaaGreat.AM
set_option linter.unusedSimpArgs false
set_option linter.unusedVariables false
open Go Go.RowKit

/-- slices.Concat[[]int,int] -/
def ir359 : IFn := ⟨36, [.t 2],
(.seq (.ops [opO 2 (.mov (.c (.slice none 0 0)))] (some [0]))
(.seq (.ops [opO 3 (.mov (.c (.int .i64 0)))] none)
(.seq (.seq (.ops [mvO 9 0,
opO 10 (.lenV (.t 9)),
opO 11 (.mov (.c (.int .i64 0)))] none)
(.block 0 (.loop (.seq (.ops [opO 12 (.ibin .lss .i64 (.t 11) (.t 10))] none)
(.seq (.cond (.t 12)
.skip
(.exit 0))
(.seq (.block 1 (.seq (.ops [opO 13 (.iaddr 1 (.t 9) (.t 11)),
opO 14 (.load 1 false (.t 13)),
mvO 5 14] (some [0, 3, 5, 9, 10, 11]))
(.seq (.ops [mvO 15 3,
mvO 16 5,
opO 17 (.lenV (.t 16)),
opO 18 (.ibin .add .i64 (.t 15) (.t 17)),
mvO 3 18] (some [0, 3, 9, 10, 11]))
(.seq (.ops [mvO 19 3,
opO 20 (.ibin .lss .i64 (.t 19) (.c (.int .i64 0)))] (some [0, 3, 9, 10, 11, 20]))
(.cond (.t 20)
(.ops [opO 21 (.nope),
⟨none, none, .nope⟩] (some [0, 3, 9, 10, 11]))
.skip)))))
(.ops [opO 22 (.ibin .add .i64 (.t 11) (.c (.int .i64 1))),
mvO 11 22] (some [0, 3, 9, 10, 11]))))))))
(.seq (.ops [mvO 23 3,
opO 24 (.call 369 [(.c (.slice none 0 0)), (.t 23)]),
mvO 6 24] (some [0, 6]))
(.seq (.seq (.ops [mvO 25 0,
opO 26 (.lenV (.t 25)),
opO 27 (.mov (.c (.int .i64 0)))] (some [6, 25, 26, 27]))
(.block 2 (.loop (.seq (.ops [opO 28 (.ibin .lss .i64 (.t 27) (.t 26))] none)
(.seq (.cond (.t 28)
.skip
(.exit 2))
(.seq (.block 3 (.seq (.ops [opO 29 (.iaddr 1 (.t 25) (.t 27)),
opO 30 (.load 1 false (.t 29)),
mvO 8 30] (some [6, 8, 25, 26, 27]))
(.ops [mvO 31 6,
mvO 32 8,
opO 33 (.append 1 8 (.t 31) (.t 32)),
mvO 6 33] (some [6, 25, 26, 27]))))
(.ops [opO 34 (.ibin .add .i64 (.t 27) (.c (.int .i64 1))),
mvO 27 34] (some [6, 25, 26, 27]))))))))
(.seq (.ops [mvO 35 6,
mvO 2 35] (some [2]))
.ret))))))⟩
/-- guidevane/dispatch.CheckBound$2 -/
def ir360 : IFn := ⟨6, [.t 2],
(.seq (.ops [opO 2 (.mov (.c (.bool false)))] (some [0]))
(.seq (.ops [mvO 3 0,
opO 4 (.call 235 [(.t 3), (.c (.int .i64 1000000000000))]),
opO 5 (.un .not (.t 4)),
mvO 2 5] (some [2]))
.ret))⟩
/-- (guidevane/dispatch.work).valid -/
def ir361 (r : Nat → Code × Code) : IFn := ⟨53, [.cell 12 1 false],
(.seq (.ops [opO 6 (.box (.t 0)),
opO 7 (.box (.t 1)),
opO 8 (.box (.t 2)),
opO 10 (.box (.t 4)),
opO 11 (.box (.t 5)),
opO 12 (.alloc [(.bool false)])] none)
(.seq (.seq (.ops [opO 15 (.load 1 false (.t 8)),
opO 16 (.faddr 3 (.t 6)),
opO 17 (.faddr 3 (.t 16)),
opO 18 (.load 1 false (.t 17)),
opO 19 (.lenV (.t 18)),
opO 20 (.ibin .eql .i64 (.t 15) (.t 19))] none)
(.cond (.t 20)
(.seq (.ops [opO 21 (.load 1 false (.t 11)),
opO 22 (.faddr 3 (.t 6)),
opO 23 (.faddr 2 (.t 22)),
opO 24 (.load 1 false (.t 23)),
mvO 25 3,
opO 26 (.ibin .mul .i64 (.t 24) (.t 25)),
opO 27 (.ibin .geq .i64 (.t 21) (.t 26)),
⟨none, none, .store 1 (.t 12) (.t 27)⟩] (some [12]))
.ret)
.skip))
(.seq (.seq (.ops [opO 28 (.load 7 true (.t 6)),
mvO 29 3,
opO 30 (.load 1 false (.t 8)),
opO 31 (.call 238 [(.t 28), (.t 29), (.t 30)])] none)
(.block 0 (.range 53 (.t 31) #[32, 33] (r 0).1 (r 0).2)))
(.seq (.ops [⟨none, none, .store 1 (.t 12) (.c (.bool true))⟩] none)
.ret))))⟩
def ir361a0 : ICode :=
(.seq (.ops [mvO 13 32] none)
(.ops [mvO 14 33] none))
def ir361b0 : ICode :=
(.block 1 (.seq (.draw (.rd 0 (opO 34 (.load 1 false (.t 11)))
(.rd 1 (opO 35 (.load 7 true (.t 6)))
(.rd 2 (opO 36 (.load 1 false (.t 8)))
(.rd 3 (opO 37 (.load 1 false (.t 10)))
(.rd 4 (mvO 38 13)
(.rd 6 (opO 40 (.load 1 false (.t 7)))
(.rd 7 (opO 41 (.load 1 false (.t 8)))
(.rd 8 (opO 42 (.ibin .add .i64 (.t 41) (.c (.int .i64 1))))
(.rd 9 (opO 43 (.iaddr 1 (.t 40) (.t 42)))
(.rd 10 (opO 44 (.load 1 false (.t 43)))
(.rd 11 (opO 45 (.load 7 true (.t 6)))
(.rd 12 (mvO 46 14)
(.rd 13 (mvO 47 13)
(.wr 5 (opO 39 (.call 239 [(.t 35), (.t 36), (.t 37), (.t 38)])) [1, 2, 3, 4]
(.wr 14 (opO 48 (.call 234 [(.t 45), (.t 46), (.t 47)])) [11, 12, 13, 5]
(.rd 15 (opO 49 (.iaddr 1 (.t 44) (.t 48)))
(.rd 16 (opO 50 (.load 1 false (.t 49)))
(.rd 17 (opO 51 (.ibin .add .i64 (.t 39) (.t 50)))
(.rd 18 (opO 52 (.ibin .lss .i64 (.t 34) (.t 51)))
.fin)))) .no) .no)))))))))))))) (some [12, 52]))
(.cond (.t 52)
(.seq (.ops [⟨none, none, .store 1 (.t 12) (.c (.bool false))⟩] (some []))
.ret)
.skip)))
/-- guidevane/guidevanebase.HasText -/
def ir364 : IFn := ⟨18, [.t 4],
(.seq (.ops [opO 4 (.mov (.c (.bool false)))] (some [0, 1]))
(.seq (.seq (.ops [opO 5 (.mov (.c (.int .i64 0)))] none)
(.block 0 (.loop (.seq (.seq (.ops [mvO 6 5,
mvO 7 0,
opO 8 (.lenV (.t 7)),
opO 9 (.ibin .lss .i64 (.t 6) (.t 8))] (some [0, 1, 5, 9]))
(.cond (.t 9)
.skip
(.exit 0)))
(.seq (.block 1 (.seq (.ops [mvO 12 0,
mvO 13 5,
opO 14 (.iaddr 1 (.t 12) (.t 13)),
opO 15 (.load 1 false (.t 14)),
mvO 16 1,
opO 17 (.sbin .eql (.t 15) (.t 16))] (some [0, 1, 5, 17]))
(.cond (.t 17)
(.seq (.ops [opO 4 (.mov (.c (.bool true)))] none)
.ret)
.skip)))
(.ops [mvO 10 5,
opO 11 (.ibin .add .i64 (.t 10) (.c (.int .i64 1))),
mvO 5 11] (some [0, 1, 5])))))))
(.seq (.ops [opO 4 (.mov (.c (.bool false)))] none)
.ret)))⟩
/-- (guidevane/dispatch.work).modes$1 -/
def ir367 : IFn := ⟨26, [],
(.seq (.ops [opO 7 (.faddr 3 (.t 1)),
opO 8 (.faddr 1 (.t 7)),
opO 9 (.load 1 false (.t 8)),
mvO 4 9] (some [0, 2, 4]))
(.seq (.ops [opO 10 (.load 1 false (.t 2)),
opO 11 (.lenV (.t 10)),
opO 12 (.mov (.c (.int .i64 0)))] (some [0, 4, 10, 11, 12]))
(.block 0 (.loop (.seq (.ops [opO 13 (.ibin .lss .i64 (.t 12) (.t 11))] none)
(.seq (.cond (.t 13)
.skip
(.exit 0))
(.seq (.block 1 (.seq (.ops [mvO 14 12,
opO 15 (.iaddr 1 (.t 10) (.t 12)),
opO 16 (.load 1 false (.t 15)),
mvO 5 14,
mvO 6 16] (some [0, 4, 5, 6, 10, 11, 12]))
(.seq (.seq (.ops [mvO 17 0,
mvO 18 5,
mvO 19 4,
mvO 20 6,
opO 21 (.build [(.int .i64 0), (.int .i64 0)] [(0, 1, (.t 19)), (1, 1, (.t 20))]),
opO 22 (.callv (.t 17) [(.t 18), (.t 21)]),
opO 23 (.un .not (.t 22))] (some [0, 6, 10, 11, 12, 23]))
(.cond (.t 23)
.ret
.skip))
(.ops [mvO 24 6,
mvO 4 24] (some [0, 4, 10, 11, 12])))))
(.ops [opO 25 (.ibin .add .i64 (.t 12) (.c (.int .i64 1))),
mvO 12 25] (some [0, 4, 10, 11, 12])))))))))⟩
/-- slices.IndexFunc[[][]int,[]int] -/
def ir368 : IFn := ⟨19, [.t 4],
(.seq (.ops [opO 4 (.mov (.c (.int .i64 0)))] (some [0, 1]))
(.seq (.seq (.ops [mvO 6 0,
opO 7 (.lenV (.t 6)),
opO 8 (.mov (.c (.int .i64 0)))] (some [0, 1, 7, 8]))
(.block 0 (.loop (.seq (.ops [opO 9 (.ibin .lss .i64 (.t 8) (.t 7))] none)
(.seq (.cond (.t 9)
.skip
(.exit 0))
(.seq (.block 1 (.seq (.ops [mvO 10 8,
mvO 5 10] (some [0, 1, 5, 7, 8]))
(.seq (.ops [mvO 11 1,
mvO 12 0,
mvO 13 5,
opO 14 (.iaddr 1 (.t 12) (.t 13)),
opO 15 (.load 1 false (.t 14)),
opO 16 (.callv (.t 11) [(.t 15)])] (some [0, 1, 5, 7, 8, 16]))
(.cond (.t 16)
(.seq (.ops [mvO 17 5,
mvO 4 17] (some [4]))
.ret)
.skip))))
(.ops [opO 18 (.ibin .add .i64 (.t 8) (.c (.int .i64 1))),
mvO 8 18] (some [0, 1, 7, 8]))))))))
(.seq (.ops [opO 4 (.mov (.c (.int .i64 (-1))))] none)
.ret)))⟩
/-- slices.Grow[[]int,int] -/
def ir369 : IFn := ⟨27, [.t 4],
(.seq (.ops [opO 4 (.mov (.c (.slice none 0 0)))] (some [0, 1]))
(.seq (.seq (.ops [mvO 5 1,
opO 6 (.ibin .lss .i64 (.t 5) (.c (.int .i64 0)))] (some [0, 1, 6]))
(.cond (.t 6)
(.ops [opO 7 (.nope),
⟨none, none, .nope⟩] (some [0, 1]))
.skip))
(.seq (.seq (.ops [mvO 8 1,
mvO 9 0,
opO 10 (.capN (.t 9)),
mvO 11 0,
opO 12 (.lenV (.t 11)),
opO 13 (.ibin .sub .i64 (.t 10) (.t 12)),
opO 14 (.ibin .sub .i64 (.t 8) (.t 13)),
mvO 1 14] (some [0, 1]))
(.seq (.ops [mvO 15 1,
opO 16 (.ibin .gtr .i64 (.t 15) (.c (.int .i64 0)))] (some [0, 1, 16]))
(.cond (.t 16)
(.ops [mvO 17 0,
mvO 18 0,
opO 19 (.capN (.t 18)),
opO 20 (.sliceV 1 (.t 17) none (some (.t 19)) none),
mvO 21 1,
opO 22 (.appz 1 8 [(.int .i64 0)] (.t 20) (.t 21)),
mvO 23 0,
opO 24 (.lenV (.t 23)),
opO 25 (.sliceV 1 (.t 22) none (some (.t 24)) none),
mvO 0 25] (some [0]))
.skip)))
(.seq (.ops [mvO 26 0,
mvO 4 26] (some [4]))
.ret))))⟩

end Go.Proofs.YtmbekcealcjabaaGreat.AM
