/- The functions in the small language. Conditions: none. -/
import Derived.Test.YtacgibkgojnfeaaGreatDoorAmFn
namespace Go.Proofs.YtacgibkgojnfeaaGreatDoor.AM
set_option linter.unusedSimpArgs false
set_option linter.unusedVariables false
open Go Go.RowKit

/-- Operations, in short. -/
abbrev mvO (d x : Nat) : IOpG := ⟨some d, none, .mov (.t x)⟩
abbrev opO (d : Nat) (x : IOp) : IOpG := ⟨some d, none, x⟩

/-- guidevane/guidevanebase.Within -/
def ir15 : IFn := ⟨15, [.t 6],
(.seq (.ops [opO 6 (.mov (.c (.bool false)))] (some [0, 1, 2]))
(.seq (.ops [mvO 7 1,
mvO 8 0,
opO 9 (.ibin .leq .i64 (.t 7) (.t 8)),
mvO 10 9,
⟨(some 11), (some (10, true)), .mov (.t 0)⟩,
⟨(some 12), (some (10, true)), .mov (.t 2)⟩,
⟨(some 13), (some (10, true)), .ibin .leq .i64 (.t 11) (.t 12)⟩,
opO 14 (.pick (.t 10) (.t 13) (.c (.bool false))),
mvO 6 14] (some [6]))
.ret))⟩
/-- guidevane/guidevaneref09.ReadingErr -/
def ir32 : IFn := ⟨19, [.t 2],
(.seq (.ops [opO 1 (.box (.t 0)),
opO 2 (.mov (.c (.int .i64 0)))] (some [1]))
(.seq (.seq (.ops [opO 3 (.faddr 0 (.t 1)),
opO 4 (.load 1 false (.t 3)),
opO 5 (.call 15 [(.t 4), (.c (.int .i64 0)), (.c (.int .i64 36000))]),
opO 6 (.un .not (.t 5)),
mvO 7 6,
⟨(some 8), (some (7, false)), .faddr 1 (.t 1)⟩,
⟨(some 9), (some (7, false)), .load 1 false (.t 8)⟩,
⟨(some 10), (some (7, false)), .call 15 [(.t 9), (.c (.int .i64 (-50))), (.c (.int .i64 50))]⟩,
⟨(some 11), (some (7, false)), .un .not (.t 10)⟩,
opO 12 (.pick (.t 7) (.c (.bool true)) (.t 11)),
mvO 13 12,
⟨(some 14), (some (13, false)), .faddr 2 (.t 1)⟩,
⟨(some 15), (some (13, false)), .load 1 false (.t 14)⟩,
⟨(some 16), (some (13, false)), .call 15 [(.t 15), (.c (.int .i64 (-2000))), (.c (.int .i64 2000))]⟩,
⟨(some 17), (some (13, false)), .un .not (.t 16)⟩,
opO 18 (.pick (.t 13) (.c (.bool true)) (.t 17))] (some [18]))
(.cond (.t 18)
(.seq (.ops [opO 2 (.mov (.c (.int .i64 2)))] none)
.ret)
.skip))
(.seq (.ops [opO 2 (.mov (.c (.int .i64 0)))] none)
.ret)))⟩
/-- guidevane/dam.CheckReading -/
def ir33 : IFn := ⟨17, [.t 2],
(.seq (.ops [opO 1 (.box (.t 0)),
opO 2 (.mov (.c (.int .i64 0)))] (some [1]))
(.seq (.ops [opO 3 (.faddr 0 (.t 1)),
opO 4 (.load 1 false (.t 3)),
opO 5 (.call 65 [(.t 4), (.c (.int .i64 0)), (.c (.int .i64 36000))]),
mvO 6 5,
⟨(some 7), (some (6, true)), .faddr 1 (.t 1)⟩,
⟨(some 8), (some (6, true)), .load 1 false (.t 7)⟩,
⟨(some 9), (some (6, true)), .call 78 [(.t 8), (.c (.int .i64 50))]⟩,
opO 10 (.pick (.t 6) (.t 9) (.c (.bool false))),
mvO 11 10,
⟨(some 12), (some (11, true)), .faddr 2 (.t 1)⟩,
⟨(some 13), (some (11, true)), .load 1 false (.t 12)⟩,
⟨(some 14), (some (11, true)), .call 78 [(.t 13), (.c (.int .i64 2000))]⟩,
opO 15 (.pick (.t 11) (.t 14) (.c (.bool false))),
opO 16 (.call 64 [(.t 15), (.c (.int .i64 2))]),
mvO 2 16] (some [2]))
.ret))⟩
/-- guidevane/dam.WatchOf -/
def ir36 : IFn := ⟨45, [.cell 4 3 true, .t 5],
(.seq (.ops [opO 2 (.box (.t 0)),
opO 4 (.alloc [(.int .i64 0), (.int .i64 0), (.int .i64 0)]),
opO 5 (.mov (.c (.int .i64 0)))] (some [1, 2, 4]))
(.seq (.ops [opO 13 (.load 4 true (.t 2)),
opO 14 (.call 79 [(.t 13)]),
mvO 12 14,
opO 15 (.extract 0 (.t 12)),
opO 16 (.extract 1 (.t 12)),
opO 6 (.alloc [(.slice none 0 0), (.slice none 0 0), (.int .i64 0), (.slice none 0 0)]),
⟨none, none, .store 4 (.t 6) (.t 15)⟩,
mvO 7 16] (some [1, 4, 6, 7]))
(.seq (.ops [mvO 17 1,
opO 18 (.call 80 [(.t 17), (.f 81)]),
mvO 8 18] (some [1, 4, 6, 7, 8]))
(.seq (.seq (.ops [mvO 19 7,
mvO 20 1,
opO 21 (.lenV (.t 20)),
opO 22 (.ibin .leq .i64 (.t 21) (.c (.int .i64 100))),
opO 23 (.call 64 [(.t 22), (.c (.int .i64 8))]),
mvO 24 8,
opO 25 (.un .not (.t 24)),
opO 26 (.call 64 [(.t 25), (.c (.int .i64 2))]),
opO 27 (.bslice 3 1 [(.int .i64 0)] [(0, 1, (.t 19)), (1, 1, (.t 23)), (2, 1, (.t 26))]),
opO 28 (.call 63 [(.t 27)]),
mvO 7 28] (some [1, 4, 6, 7]))
(.seq (.ops [mvO 29 7,
opO 30 (.ibin .neq .i64 (.t 29) (.c (.int .i64 0)))] (some [1, 4, 6, 7, 30]))
(.cond (.t 30)
(.seq (.ops [opO 31 (.build [(.int .i64 0), (.int .i64 0), (.int .i64 0)] []),
mvO 32 7,
⟨none, none, .store 3 (.t 4) (.t 31)⟩,
mvO 5 32] (some [4, 5]))
.ret)
.skip)))
(.seq (.ops [opO 9 (.alloc [(.int .i64 0), (.int .i64 0), (.int .i64 0)])] none)
(.seq (.seq (.ops [mvO 33 1,
opO 34 (.lenV (.t 33)),
opO 35 (.mov (.c (.int .i64 0)))] (some [4, 6, 9, 33, 34, 35]))
(.block 0 (.loop (.seq (.ops [opO 36 (.ibin .lss .i64 (.t 35) (.t 34))] none)
(.seq (.cond (.t 36)
.skip
(.exit 0))
(.seq (.block 1 (.seq (.ops [opO 37 (.iaddr 1 (.t 33) (.t 35)),
opO 38 (.load 1 false (.t 37)),
mvO 11 38] (some [4, 6, 9, 11, 33, 34, 35]))
(.ops [opO 39 (.load 4 true (.t 6)),
opO 40 (.load 3 true (.t 9)),
mvO 41 11,
opO 42 (.call 83 [(.t 39), (.t 40), (.t 41)]),
⟨none, none, .store 3 (.t 9) (.t 42)⟩] (some [4, 6, 9, 33, 34, 35]))))
(.ops [opO 43 (.ibin .add .i64 (.t 35) (.c (.int .i64 1))),
mvO 35 43] (some [4, 6, 9, 33, 34, 35]))))))))
(.seq (.ops [opO 44 (.load 3 true (.t 9)),
⟨none, none, .store 3 (.t 4) (.t 44)⟩,
opO 5 (.mov (.c (.int .i64 0)))] (some [4, 5]))
.ret)))))))⟩
/-- guidevane/guidevaneref09.CopyRules -/
def ir37 : IFn := ⟨16, [.cell 2 4 true],
(.seq (.ops [opO 1 (.box (.t 0)),
opO 2 (.alloc [(.slice none 0 0), (.slice none 0 0), (.int .i64 0), (.slice none 0 0)])] (some [1, 2]))
(.seq (.draw (.rd 0 (opO 3 (.faddr 0 (.t 1)))
(.rd 1 (opO 4 (.load 1 false (.t 3)))
(.rd 3 (opO 6 (.faddr 1 (.t 1)))
(.rd 4 (opO 7 (.load 1 false (.t 6)))
(.rd 6 (opO 9 (.faddr 2 (.t 1)))
(.rd 7 (opO 10 (.load 1 false (.t 9)))
(.rd 9 (opO 12 (.faddr 3 (.t 1)))
(.rd 10 (opO 13 (.load 1 false (.t 12)))
(.wr 2 (opO 5 (.call 38 [(.t 4)])) [1]
(.wr 5 (opO 8 (.call 38 [(.t 7)])) [4, 2]
(.wr 8 (opO 11 (.bslice 0 2 [(.string ⟨#[]⟩), (.int .i64 0)] [])) []
(.wr 11 (opO 14 (.append 2 24 (.t 11) (.t 13))) [8, 10, 5]
(.rd 12 (opO 15 (.build [(.slice none 0 0), (.slice none 0 0), (.int .i64 0), (.slice none 0 0)] [(0, 1, (.t 5)), (1, 1, (.t 8)), (2, 1, (.t 10)), (3, 1, (.t 14))]))
(.wr 13 ⟨none, none, .store 4 (.t 2) (.t 15)⟩ [12, 11, 0, 1, 2, 3, 4, 5, 6, 7, 8, 9, 10, 11, 12]
.fin .no)) .no) .no)
(.wr 8 (opO 11 (.bslice 0 2 [(.string ⟨#[]⟩), (.int .i64 0)] [])) []
(.wr 5 (opO 8 (.call 38 [(.t 7)])) [4, 2]
(.wr 11 (opO 14 (.append 2 24 (.t 11) (.t 13))) [8, 10, 5]
(.rd 12 (opO 15 (.build [(.slice none 0 0), (.slice none 0 0), (.int .i64 0), (.slice none 0 0)] [(0, 1, (.t 5)), (1, 1, (.t 8)), (2, 1, (.t 10)), (3, 1, (.t 14))]))
(.wr 13 ⟨none, none, .store 4 (.t 2) (.t 15)⟩ [12, 11, 0, 1, 2, 3, 4, 5, 6, 7, 8, 9, 10, 11, 12]
.fin .no)) .no) .no) .no))
(.wr 8 (opO 11 (.bslice 0 2 [(.string ⟨#[]⟩), (.int .i64 0)] [])) []
(.wr 2 (opO 5 (.call 38 [(.t 4)])) [1]
(.wr 5 (opO 8 (.call 38 [(.t 7)])) [4, 2]
(.wr 11 (opO 14 (.append 2 24 (.t 11) (.t 13))) [8, 10, 5]
(.rd 12 (opO 15 (.build [(.slice none 0 0), (.slice none 0 0), (.int .i64 0), (.slice none 0 0)] [(0, 1, (.t 5)), (1, 1, (.t 8)), (2, 1, (.t 10)), (3, 1, (.t 14))]))
(.wr 13 ⟨none, none, .store 4 (.t 2) (.t 15)⟩ [12, 11, 0, 1, 2, 3, 4, 5, 6, 7, 8, 9, 10, 11, 12]
.fin .no)) .no) .no) .no) .no)))))))))) (some [2]))
.ret))⟩
/-- guidevane/guidevanebase.CopyInts -/
def ir38 : IFn := ⟨6, [.t 2],
(.seq (.ops [opO 2 (.mov (.c (.slice none 0 0)))] (some [0]))
(.seq (.ops [opO 3 (.bslice 0 1 [(.int .i64 0)] []),
mvO 4 0,
opO 5 (.append 1 8 (.t 3) (.t 4)),
mvO 2 5] (some [2]))
.ret))⟩
/-- guidevane/guidevaneref09.RulesErr -/
def ir39 : IFn := ⟨11, [.t 2],
(.seq (.ops [opO 1 (.box (.t 0)),
opO 2 (.mov (.c (.int .i64 0)))] (some [1]))
(.seq (.ops [opO 6 (.load 4 true (.t 1)),
opO 7 (.call 46 [(.t 6)]),
mvO 5 7,
opO 8 (.extract 0 (.t 5)),
opO 9 (.extract 1 (.t 5)),
mvO 3 8,
mvO 4 9] (some [4]))
(.seq (.ops [mvO 10 4,
mvO 2 10] (some [2]))
.ret)))⟩
/-- guidevane/dam.DeviationOf -/
def ir42 : IFn := ⟨42, [.t 4, .t 5],
(.seq (.ops [opO 2 (.box (.t 0)),
opO 4 (.mov (.c (.int .i64 0))),
opO 5 (.mov (.c (.int .i64 0)))] (some [1, 2]))
(.seq (.ops [opO 8 (.faddr 0 (.t 2)),
opO 9 (.load 1 false (.t 8)),
opO 10 (.call 84 [(.t 9)]),
mvO 11 10,
⟨(some 12), (some (11, true)), .faddr 1 (.t 2)⟩,
⟨(some 13), (some (11, true)), .load 1 false (.t 12)⟩,
⟨(some 14), (some (11, true)), .call 84 [(.t 13)]⟩,
opO 15 (.pick (.t 11) (.t 14) (.c (.bool false))),
mvO 16 15,
⟨(some 17), (some (16, true)), .mov (.t 1)⟩,
⟨(some 18), (some (16, true)), .call 84 [(.t 17)]⟩,
opO 19 (.pick (.t 16) (.t 18) (.c (.bool false))),
mvO 6 19] (some [1, 2, 6]))
(.seq (.seq (.draw (.rd 0 (mvO 20 6)
(.rd 2 (opO 22 (.faddr 0 (.t 2)))
(.rd 3 (opO 23 (.load 1 false (.t 22)))
(.rd 4 (opO 24 (.faddr 1 (.t 2)))
(.rd 5 (opO 25 (.load 1 false (.t 24)))
(.rd 6 (opO 26 (.ibin .leq .i64 (.t 23) (.t 25)))
(.wr 1 (opO 21 (.call 64 [(.t 20), (.c (.int .i64 2))])) [0]
(.wr 7 (opO 27 (.call 64 [(.t 26), (.c (.int .i64 9))])) [6, 1]
(.wr 8 (opO 28 (.bslice 2 1 [(.int .i64 0)] [(0, 1, (.t 21)), (1, 1, (.t 27))])) [1, 7]
(.wr 9 (opO 29 (.call 63 [(.t 28)])) [8, 7]
(.rd 10 (mvO 7 29)
.fin) .no) .no) .no) .no))))))) (some [1, 2, 7]))
(.seq (.ops [mvO 30 7,
opO 31 (.ibin .neq .i64 (.t 30) (.c (.int .i64 0)))] (some [1, 2, 7, 31]))
(.cond (.t 31)
(.seq (.ops [mvO 32 7,
opO 4 (.mov (.c (.int .i64 0))),
mvO 5 32] (some [4, 5]))
.ret)
.skip)))
(.seq (.ops [opO 33 (.faddr 0 (.t 2)),
opO 34 (.load 1 false (.t 33)),
mvO 35 1,
opO 36 (.ibin .sub .i64 (.t 34) (.t 35)),
mvO 37 1,
opO 38 (.faddr 1 (.t 2)),
opO 39 (.load 1 false (.t 38)),
opO 40 (.ibin .sub .i64 (.t 37) (.t 39)),
opO 41 (.minmax true (.c (.int .i64 0)) [(.t 36), (.t 40)]),
mvO 4 41,
opO 5 (.mov (.c (.int .i64 0)))] (some [4, 5]))
.ret))))⟩
/-- guidevane/dam.CheckRules -/
def ir43 : IFn := ⟨142, [.t 2, .t 3],
(.seq (.ops [opO 1 (.box (.t 0)),
opO 2 (.mov (.c (.int .i64 0))),
opO 3 (.mov (.c (.int .i64 0)))] (some [1]))
(.seq (.ops [opO 17 (.faddr 0 (.t 1)),
opO 18 (.load 1 false (.t 17)),
opO 19 (.lenV (.t 18)),
mvO 4 19] (some [1, 4]))
(.seq (.seq (.ops [mvO 20 4,
opO 21 (.ibin .gtr .i64 (.t 20) (.c (.int .i64 0))),
mvO 22 21,
⟨(some 23), (some (22, true)), .faddr 1 (.t 1)⟩,
⟨(some 24), (some (22, true)), .load 1 false (.t 23)⟩,
⟨(some 25), (some (22, true)), .lenV (.t 24)⟩,
⟨(some 26), (some (22, true)), .mov (.t 4)⟩,
⟨(some 27), (some (22, true)), .ibin .eql .i64 (.t 25) (.t 26)⟩,
opO 28 (.pick (.t 22) (.t 27) (.c (.bool false))),
opO 29 (.call 64 [(.t 28), (.c (.int .i64 10))]),
mvO 30 4,
opO 31 (.ibin .leq .i64 (.t 30) (.c (.int .i64 5))),
opO 32 (.call 64 [(.t 31), (.c (.int .i64 8))]),
opO 33 (.bslice 2 1 [(.int .i64 0)] [(0, 1, (.t 29)), (1, 1, (.t 32))]),
opO 34 (.call 63 [(.t 33)]),
mvO 5 34] (some [1, 4, 5]))
(.seq (.ops [mvO 35 5,
opO 36 (.ibin .neq .i64 (.t 35) (.c (.int .i64 0)))] (some [1, 4, 5, 36]))
(.cond (.t 36)
(.seq (.ops [mvO 37 5,
opO 2 (.mov (.c (.int .i64 0))),
mvO 3 37] (some [2, 3]))
.ret)
.skip)))
(.seq (.ops [opO 6 (.mov (.f 85))] none)
(.seq (.seq (.ops [opO 38 (.faddr 0 (.t 1)),
opO 39 (.load 1 false (.t 38)),
opO 40 (.lenV (.t 39)),
opO 41 (.mov (.c (.int .i64 0)))] (some [1, 4, 6, 39, 40, 41]))
(.block 0 (.loop (.seq (.ops [opO 42 (.ibin .lss .i64 (.t 41) (.t 40))] none)
(.seq (.cond (.t 42)
.skip
(.exit 0))
(.seq (.block 1 (.seq (.ops [mvO 43 41,
opO 44 (.iaddr 1 (.t 39) (.t 41)),
opO 45 (.load 1 false (.t 44)),
mvO 7 43,
mvO 8 45] (some [1, 4, 6, 7, 8, 39, 40, 41]))
(.seq (.ops [opO 46 (.faddr 1 (.t 1)),
opO 47 (.load 1 false (.t 46)),
mvO 48 7,
opO 49 (.iaddr 1 (.t 47) (.t 48)),
opO 50 (.load 1 false (.t 49)),
mvO 51 7,
opO 52 (.ibin .sub .i64 (.t 51) (.c (.int .i64 1))),
opO 53 (.minmax true (.c (.int .i64 0)) [(.t 52)]),
mvO 9 50,
mvO 10 53] (some [1, 4, 6, 7, 8, 9, 10, 39, 40, 41]))
(.seq (.ops [mvO 54 6,
mvO 55 8,
opO 56 (.callv (.t 54) [(.t 55)]),
mvO 57 56,
⟨(some 58), (some (57, true)), .mov (.t 6)⟩,
⟨(some 59), (some (57, true)), .mov (.t 9)⟩,
⟨(some 60), (some (57, true)), .callv (.t 58) [(.t 59)]⟩,
opO 61 (.pick (.t 57) (.t 60) (.c (.bool false))),
opO 62 (.call 64 [(.t 61), (.c (.int .i64 2))]),
mvO 63 9,
mvO 64 8,
opO 65 (.ibin .leq .i64 (.t 63) (.t 64)),
opO 66 (.call 64 [(.t 65), (.c (.int .i64 3))]),
mvO 67 7,
opO 68 (.ibin .eql .i64 (.t 67) (.c (.int .i64 0))),
mvO 69 68,
⟨(some 70), (some (69, false)), .mov (.t 8)⟩,
⟨(some 71), (some (69, false)), .faddr 0 (.t 1)⟩,
⟨(some 72), (some (69, false)), .load 1 false (.t 71)⟩,
⟨(some 73), (some (69, false)), .mov (.t 10)⟩,
⟨(some 74), (some (69, false)), .iaddr 1 (.t 72) (.t 73)⟩,
⟨(some 75), (some (69, false)), .load 1 false (.t 74)⟩,
⟨(some 76), (some (69, false)), .ibin .gtr .i64 (.t 70) (.t 75)⟩,
⟨(some 77), (some (69, false)), .mov (.t 76)⟩,
⟨(some 78), (some (77, true)), .mov (.t 9)⟩,
⟨(some 79), (some (77, true)), .faddr 1 (.t 1)⟩,
⟨(some 80), (some (77, true)), .load 1 false (.t 79)⟩,
⟨(some 81), (some (77, true)), .mov (.t 10)⟩,
⟨(some 82), (some (77, true)), .iaddr 1 (.t 80) (.t 81)⟩,
⟨(some 83), (some (77, true)), .load 1 false (.t 82)⟩,
⟨(some 84), (some (77, true)), .ibin .geq .i64 (.t 78) (.t 83)⟩,
⟨(some 85), (some (69, false)), .pick (.t 77) (.t 84) (.c (.bool false))⟩,
opO 86 (.pick (.t 69) (.c (.bool true)) (.t 85)),
opO 87 (.call 64 [(.t 86), (.c (.int .i64 9))]),
opO 88 (.bslice 3 1 [(.int .i64 0)] [(0, 1, (.t 62)), (1, 1, (.t 66)), (2, 1, (.t 87))]),
opO 89 (.call 63 [(.t 88)]),
mvO 11 89] (some [1, 4, 6, 7, 11, 39, 40, 41]))
(.seq (.ops [mvO 90 11,
opO 91 (.ibin .neq .i64 (.t 90) (.c (.int .i64 0)))] (some [1, 4, 6, 7, 11, 39, 40, 41, 91]))
(.cond (.t 91)
(.seq (.ops [mvO 92 7,
mvO 93 11,
mvO 2 92,
mvO 3 93] (some [2, 3]))
.ret)
.skip))))))
(.ops [opO 94 (.ibin .add .i64 (.t 41) (.c (.int .i64 1))),
mvO 41 94] (some [1, 4, 6, 39, 40, 41]))))))))
(.seq (.seq (.draw (.rd 0 (opO 95 (.faddr 2 (.t 1)))
(.rd 1 (opO 96 (.load 1 false (.t 95)))
(.rd 4 (opO 99 (.faddr 3 (.t 1)))
(.rd 5 (opO 100 (.load 1 false (.t 99)))
(.rd 6 (opO 101 (.lenV (.t 100)))
(.rd 7 (opO 102 (.ibin .leq .i64 (.t 101) (.c (.int .i64 10))))
(.wr 2 (opO 97 (.call 65 [(.t 96), (.c (.int .i64 0)), (.c (.int .i64 1000000))])) [1]
(.wr 3 (opO 98 (.call 64 [(.t 97), (.c (.int .i64 2))])) [2, 2]
(.wr 8 (opO 103 (.call 64 [(.t 102), (.c (.int .i64 8))])) [7, 3]
(.wr 9 (opO 104 (.bslice 2 1 [(.int .i64 0)] [(0, 1, (.t 98)), (1, 1, (.t 103))])) [3, 8]
(.wr 10 (opO 105 (.call 63 [(.t 104)])) [9, 8]
(.rd 11 (mvO 12 105)
.fin) .no) .no) .no) .no) .no))))))) (some [1, 4, 12]))
(.seq (.ops [mvO 106 12,
opO 107 (.ibin .neq .i64 (.t 106) (.c (.int .i64 0)))] (some [1, 4, 12, 107]))
(.cond (.t 107)
(.seq (.ops [mvO 108 12,
opO 2 (.mov (.c (.int .i64 0))),
mvO 3 108] (some [2, 3]))
.ret)
.skip)))
(.seq (.seq (.ops [opO 109 (.faddr 3 (.t 1)),
opO 110 (.load 1 false (.t 109)),
opO 111 (.lenV (.t 110)),
opO 112 (.mov (.c (.int .i64 0)))] (some [1, 4, 110, 111, 112]))
(.block 2 (.loop (.seq (.ops [opO 113 (.ibin .lss .i64 (.t 112) (.t 111))] none)
(.seq (.cond (.t 113)
.skip
(.exit 2))
(.seq (.block 3 (.seq (.ops [mvO 114 112,
opO 115 (.iaddr 2 (.t 110) (.t 112)),
opO 116 (.load 2 true (.t 115)),
opO 14 (.alloc [(.string ⟨#[]⟩), (.int .i64 0)]),
mvO 13 114,
⟨none, none, .store 2 (.t 14) (.t 116)⟩] (some [1, 4, 13, 14, 110, 111, 112]))
(.seq (.ops [opO 117 (.faddr 3 (.t 1)),
opO 118 (.load 1 false (.t 117)),
mvO 119 13,
opO 120 (.sliceV 2 (.t 118) none (some (.t 119)) none),
opO 121 (.mkfunc 87 [] [(.t 14)]),
opO 122 (.call 86 [(.t 120), (.t 121)]),
mvO 15 122] (some [1, 4, 13, 14, 15, 110, 111, 112]))
(.seq (.draw (.rd 0 (opO 123 (.faddr 0 (.t 14)))
(.rd 1 (opO 124 (.load 1 false (.t 123)))
(.rd 4 (mvO 127 15)
(.rd 5 (opO 128 (.un .not (.t 127)))
(.rd 7 (opO 130 (.faddr 1 (.t 14)))
(.rd 8 (opO 131 (.load 1 false (.t 130)))
(.rd 9 (mvO 132 4)
(.wr 2 (opO 125 (.call 88 [(.t 124)])) [1]
(.wr 3 (opO 126 (.call 64 [(.t 125), (.c (.int .i64 4))])) [2, 2]
(.wr 6 (opO 129 (.call 64 [(.t 128), (.c (.int .i64 5))])) [5, 3]
(.wr 10 (opO 133 (.call 65 [(.t 131), (.c (.int .i64 1)), (.t 132)])) [8, 9, 6]
(.wr 11 (opO 134 (.call 64 [(.t 133), (.c (.int .i64 2))])) [10, 10]
(.wr 12 (opO 135 (.bslice 3 1 [(.int .i64 0)] [(0, 1, (.t 126)), (1, 1, (.t 129)), (2, 1, (.t 134))])) [3, 6, 11]
(.wr 13 (opO 136 (.call 63 [(.t 135)])) [12, 11]
(.rd 14 (mvO 16 136)
.fin) .no) .no) .no) .no) .no) .no) .no)))))))) (some [1, 4, 13, 16, 110, 111, 112]))
(.seq (.ops [mvO 137 16,
opO 138 (.ibin .neq .i64 (.t 137) (.c (.int .i64 0)))] (some [1, 4, 13, 16, 110, 111, 112, 138]))
(.cond (.t 138)
(.seq (.ops [mvO 139 13,
mvO 140 16,
mvO 2 139,
mvO 3 140] (some [2, 3]))
.ret)
.skip))))))
(.ops [opO 141 (.ibin .add .i64 (.t 112) (.c (.int .i64 1))),
mvO 112 141] (some [1, 4, 110, 111, 112]))))))))
(.seq (.ops [opO 2 (.mov (.c (.int .i64 0))),
opO 3 (.mov (.c (.int .i64 0)))] none)
.ret))))))))⟩
/-- guidevane/dam.AskedFor -/
def ir44 : IFn := ⟨25, [.t 4, .t 5],
(.seq (.ops [opO 2 (.box (.t 0)),
opO 4 (.mov (.c (.int .i64 0))),
opO 5 (.mov (.c (.int .i64 0)))] (some [1, 2]))
(.seq (.ops [opO 9 (.load 4 true (.t 2)),
opO 10 (.call 79 [(.t 9)]),
mvO 8 10,
opO 11 (.extract 0 (.t 8)),
opO 12 (.extract 1 (.t 8)),
opO 6 (.alloc [(.slice none 0 0), (.slice none 0 0), (.int .i64 0), (.slice none 0 0)]),
⟨none, none, .store 4 (.t 6) (.t 11)⟩,
mvO 7 12] (some [1, 6, 7]))
(.seq (.seq (.ops [mvO 13 7,
mvO 14 1,
opO 15 (.call 82 [(.t 14)]),
opO 16 (.call 64 [(.t 15), (.c (.int .i64 2))]),
opO 17 (.bslice 2 1 [(.int .i64 0)] [(0, 1, (.t 13)), (1, 1, (.t 16))]),
opO 18 (.call 63 [(.t 17)]),
mvO 7 18] (some [1, 6, 7]))
(.seq (.ops [mvO 19 7,
opO 20 (.ibin .neq .i64 (.t 19) (.c (.int .i64 0)))] (some [1, 6, 7, 20]))
(.cond (.t 20)
(.seq (.ops [mvO 21 7,
opO 4 (.mov (.c (.int .i64 0))),
mvO 5 21] (some [4, 5]))
.ret)
.skip)))
(.seq (.ops [opO 22 (.load 4 true (.t 6)),
mvO 23 1,
opO 24 (.call 89 [(.t 22), (.t 23)]),
mvO 4 24,
opO 5 (.mov (.c (.int .i64 0)))] (some [4, 5]))
.ret))))⟩
/-- guidevane/dam.Watched -/
def ir45 : IFn := ⟨30, [.cell 6 3 true, .t 7],
(.seq (.ops [opO 3 (.box (.t 0)),
opO 4 (.box (.t 1)),
opO 6 (.alloc [(.int .i64 0), (.int .i64 0), (.int .i64 0)]),
opO 7 (.mov (.c (.int .i64 0)))] (some [2, 3, 4, 6]))
(.seq (.ops [opO 11 (.load 4 true (.t 3)),
opO 12 (.load 3 true (.t 4)),
opO 13 (.call 90 [(.t 11), (.t 12)]),
mvO 10 13,
opO 14 (.extract 0 (.t 10)),
opO 15 (.extract 1 (.t 10)),
opO 8 (.alloc [(.slice none 0 0), (.slice none 0 0), (.int .i64 0), (.slice none 0 0)]),
⟨none, none, .store 4 (.t 8) (.t 14)⟩,
mvO 9 15] (some [2, 4, 6, 8, 9]))
(.seq (.seq (.ops [mvO 16 9,
mvO 17 2,
opO 18 (.call 82 [(.t 17)]),
opO 19 (.call 64 [(.t 18), (.c (.int .i64 2))]),
opO 20 (.bslice 2 1 [(.int .i64 0)] [(0, 1, (.t 16)), (1, 1, (.t 19))]),
opO 21 (.call 63 [(.t 20)]),
mvO 9 21] (some [2, 4, 6, 8, 9]))
(.seq (.ops [mvO 22 9,
opO 23 (.ibin .neq .i64 (.t 22) (.c (.int .i64 0)))] (some [2, 4, 6, 8, 9, 23]))
(.cond (.t 23)
(.seq (.ops [opO 24 (.build [(.int .i64 0), (.int .i64 0), (.int .i64 0)] []),
mvO 25 9,
⟨none, none, .store 3 (.t 6) (.t 24)⟩,
mvO 7 25] (some [6, 7]))
.ret)
.skip)))
(.seq (.ops [opO 26 (.load 4 true (.t 8)),
opO 27 (.load 3 true (.t 4)),
mvO 28 2,
opO 29 (.call 83 [(.t 26), (.t 27), (.t 28)]),
⟨none, none, .store 3 (.t 6) (.t 29)⟩,
opO 7 (.mov (.c (.int .i64 0)))] (some [6, 7]))
.ret))))⟩
/-- guidevane/guidevaneref09.CheckRules -/
def ir46 : IFn := ⟨139, [.t 2, .t 3],
(.seq (.ops [opO 1 (.box (.t 0)),
opO 2 (.mov (.c (.int .i64 0))),
opO 3 (.mov (.c (.int .i64 0)))] (some [1]))
(.seq (.seq (.ops [opO 6 (.faddr 0 (.t 1)),
opO 7 (.load 1 false (.t 6)),
opO 8 (.lenV (.t 7)),
opO 9 (.ibin .eql .i64 (.t 8) (.c (.int .i64 0))),
mvO 10 9,
⟨(some 11), (some (10, false)), .faddr 1 (.t 1)⟩,
⟨(some 12), (some (10, false)), .load 1 false (.t 11)⟩,
⟨(some 13), (some (10, false)), .lenV (.t 12)⟩,
⟨(some 14), (some (10, false)), .faddr 0 (.t 1)⟩,
⟨(some 15), (some (10, false)), .load 1 false (.t 14)⟩,
⟨(some 16), (some (10, false)), .lenV (.t 15)⟩,
⟨(some 17), (some (10, false)), .ibin .neq .i64 (.t 13) (.t 16)⟩,
opO 18 (.pick (.t 10) (.c (.bool true)) (.t 17))] (some [1, 18]))
(.cond (.t 18)
(.seq (.ops [opO 2 (.mov (.c (.int .i64 0))),
opO 3 (.mov (.c (.int .i64 10)))] none)
.ret)
.skip))
(.seq (.seq (.ops [opO 19 (.faddr 0 (.t 1)),
opO 20 (.load 1 false (.t 19)),
opO 21 (.lenV (.t 20)),
opO 22 (.ibin .gtr .i64 (.t 21) (.c (.int .i64 5)))] (some [1, 22]))
(.cond (.t 22)
(.seq (.ops [opO 2 (.mov (.c (.int .i64 0))),
opO 3 (.mov (.c (.int .i64 8)))] none)
.ret)
.skip))
(.seq (.seq (.ops [opO 4 (.mov (.c (.int .i64 0)))] none)
(.block 0 (.loop (.seq (.seq (.ops [mvO 23 4,
opO 24 (.faddr 0 (.t 1)),
opO 25 (.load 1 false (.t 24)),
opO 26 (.lenV (.t 25)),
opO 27 (.ibin .lss .i64 (.t 23) (.t 26))] (some [1, 4, 27]))
(.cond (.t 27)
.skip
(.exit 0)))
(.seq (.block 1 (.seq (.seq (.ops [opO 30 (.faddr 0 (.t 1)),
opO 31 (.load 1 false (.t 30)),
mvO 32 4,
opO 33 (.iaddr 1 (.t 31) (.t 32)),
opO 34 (.load 1 false (.t 33)),
opO 35 (.call 15 [(.t 34), (.c (.int .i64 1)), (.c (.int .i64 1000000))]),
opO 36 (.un .not (.t 35)),
mvO 37 36,
⟨(some 38), (some (37, false)), .faddr 1 (.t 1)⟩,
⟨(some 39), (some (37, false)), .load 1 false (.t 38)⟩,
⟨(some 40), (some (37, false)), .mov (.t 4)⟩,
⟨(some 41), (some (37, false)), .iaddr 1 (.t 39) (.t 40)⟩,
⟨(some 42), (some (37, false)), .load 1 false (.t 41)⟩,
⟨(some 43), (some (37, false)), .call 15 [(.t 42), (.c (.int .i64 1)), (.c (.int .i64 1000000))]⟩,
⟨(some 44), (some (37, false)), .un .not (.t 43)⟩,
opO 45 (.pick (.t 37) (.c (.bool true)) (.t 44))] (some [1, 4, 45]))
(.cond (.t 45)
(.seq (.ops [mvO 46 4,
mvO 2 46,
opO 3 (.mov (.c (.int .i64 2)))] (some [2, 3]))
.ret)
.skip))
(.seq (.seq (.draw (.rd 0 (opO 47 (.faddr 1 (.t 1)))
(.rd 1 (opO 48 (.load 1 false (.t 47)))
(.rd 2 (mvO 49 4)
(.rd 3 (opO 50 (.iaddr 1 (.t 48) (.t 49)))
(.rd 4 (opO 51 (.load 1 false (.t 50)))
(.rd 5 (opO 52 (.faddr 0 (.t 1)))
(.rd 6 (opO 53 (.load 1 false (.t 52)))
(.rd 7 (mvO 54 4)
(.rd 8 (opO 55 (.iaddr 1 (.t 53) (.t 54)))
(.rd 9 (opO 56 (.load 1 false (.t 55)))
(.rd 10 (opO 57 (.ibin .gtr .i64 (.t 51) (.t 56)))
.fin))))))))))) (some [1, 4, 57]))
(.cond (.t 57)
(.seq (.ops [mvO 58 4,
mvO 2 58,
opO 3 (.mov (.c (.int .i64 3)))] (some [2, 3]))
.ret)
.skip))
(.seq (.draw (.rd 0 (mvO 59 4)
(.rd 1 (opO 60 (.ibin .gtr .i64 (.t 59) (.c (.int .i64 0))))
(.rd 2 (mvO 61 60)
(.rd 3 ⟨(some 62), (some (61, true)), .faddr 0 (.t 1)⟩
(.rd 4 ⟨(some 63), (some (61, true)), .load 1 false (.t 62)⟩
(.rd 5 ⟨(some 64), (some (61, true)), .mov (.t 4)⟩
(.rd 6 ⟨(some 65), (some (61, true)), .iaddr 1 (.t 63) (.t 64)⟩
(.rd 7 ⟨(some 66), (some (61, true)), .load 1 false (.t 65)⟩
(.rd 8 ⟨(some 67), (some (61, true)), .faddr 0 (.t 1)⟩
(.rd 9 ⟨(some 68), (some (61, true)), .load 1 false (.t 67)⟩
(.rd 10 ⟨(some 69), (some (61, true)), .mov (.t 4)⟩
(.rd 11 ⟨(some 70), (some (61, true)), .ibin .sub .i64 (.t 69) (.c (.int .i64 1))⟩
(.rd 12 ⟨(some 71), (some (61, true)), .iaddr 1 (.t 68) (.t 70)⟩
(.rd 13 ⟨(some 72), (some (61, true)), .load 1 false (.t 71)⟩
(.rd 14 ⟨(some 73), (some (61, true)), .ibin .leq .i64 (.t 66) (.t 72)⟩
(.rd 15 ⟨(some 74), (some (61, true)), .mov (.t 73)⟩
(.rd 16 ⟨(some 75), (some (74, false)), .faddr 1 (.t 1)⟩
(.rd 17 ⟨(some 76), (some (74, false)), .load 1 false (.t 75)⟩
(.rd 18 ⟨(some 77), (some (74, false)), .mov (.t 4)⟩
(.rd 19 ⟨(some 78), (some (74, false)), .iaddr 1 (.t 76) (.t 77)⟩
(.rd 20 ⟨(some 79), (some (74, false)), .load 1 false (.t 78)⟩
(.rd 21 ⟨(some 80), (some (74, false)), .faddr 1 (.t 1)⟩
(.rd 22 ⟨(some 81), (some (74, false)), .load 1 false (.t 80)⟩
(.rd 23 ⟨(some 82), (some (74, false)), .mov (.t 4)⟩
(.rd 24 ⟨(some 83), (some (74, false)), .ibin .sub .i64 (.t 82) (.c (.int .i64 1))⟩
(.rd 25 ⟨(some 84), (some (74, false)), .iaddr 1 (.t 81) (.t 83)⟩
(.rd 26 ⟨(some 85), (some (74, false)), .load 1 false (.t 84)⟩
(.rd 27 ⟨(some 86), (some (74, false)), .ibin .lss .i64 (.t 79) (.t 85)⟩
(.rd 28 ⟨(some 87), (some (61, true)), .pick (.t 74) (.c (.bool true)) (.t 86)⟩
(.rd 29 (opO 88 (.pick (.t 61) (.t 87) (.c (.bool false))))
.fin)))))))))))))))))))))))))))))) (some [1, 4, 88]))
(.cond (.t 88)
(.seq (.ops [mvO 89 4,
mvO 2 89,
opO 3 (.mov (.c (.int .i64 9)))] (some [2, 3]))
.ret)
.skip)))))
(.ops [mvO 28 4,
opO 29 (.ibin .add .i64 (.t 28) (.c (.int .i64 1))),
mvO 4 29] (some [1, 4])))))))
(.seq (.seq (.ops [opO 90 (.faddr 2 (.t 1)),
opO 91 (.load 1 false (.t 90)),
opO 92 (.call 15 [(.t 91), (.c (.int .i64 0)), (.c (.int .i64 1000000))]),
opO 93 (.un .not (.t 92))] (some [1, 93]))
(.cond (.t 93)
(.seq (.ops [opO 2 (.mov (.c (.int .i64 0))),
opO 3 (.mov (.c (.int .i64 2)))] none)
.ret)
.skip))
(.seq (.seq (.ops [opO 94 (.faddr 3 (.t 1)),
opO 95 (.load 1 false (.t 94)),
opO 96 (.lenV (.t 95)),
opO 97 (.ibin .gtr .i64 (.t 96) (.c (.int .i64 10)))] (some [1, 97]))
(.cond (.t 97)
(.seq (.ops [opO 2 (.mov (.c (.int .i64 0))),
opO 3 (.mov (.c (.int .i64 8)))] none)
.ret)
.skip))
(.seq (.seq (.ops [opO 5 (.mov (.c (.int .i64 0)))] none)
(.block 2 (.loop (.seq (.seq (.ops [mvO 98 5,
opO 99 (.faddr 3 (.t 1)),
opO 100 (.load 1 false (.t 99)),
opO 101 (.lenV (.t 100)),
opO 102 (.ibin .lss .i64 (.t 98) (.t 101))] (some [1, 5, 102]))
(.cond (.t 102)
.skip
(.exit 2)))
(.seq (.block 3 (.seq (.seq (.ops [opO 105 (.faddr 3 (.t 1)),
opO 106 (.load 1 false (.t 105)),
mvO 107 5,
opO 108 (.iaddr 2 (.t 106) (.t 107)),
opO 109 (.faddr 0 (.t 108)),
opO 110 (.load 1 false (.t 109)),
opO 111 (.call 91 [(.t 110)]),
opO 112 (.un .not (.t 111))] (some [1, 5, 112]))
(.cond (.t 112)
(.seq (.ops [mvO 113 5,
mvO 2 113,
opO 3 (.mov (.c (.int .i64 4)))] (some [2, 3]))
.ret)
.skip))
(.seq (.seq (.draw (.rd 0 (opO 114 (.faddr 3 (.t 1)))
(.rd 1 (opO 115 (.load 1 false (.t 114)))
(.rd 2 (mvO 116 5)
(.rd 3 (opO 117 (.sliceV 2 (.t 115) none (some (.t 116)) none))
(.rd 4 (opO 118 (.faddr 3 (.t 1)))
(.rd 5 (opO 119 (.load 1 false (.t 118)))
(.rd 6 (mvO 120 5)
(.rd 7 (opO 121 (.iaddr 2 (.t 119) (.t 120)))
(.rd 8 (opO 122 (.faddr 0 (.t 121)))
(.rd 9 (opO 123 (.load 1 false (.t 122)))
(.wr 10 (opO 124 (.call 92 [(.t 117), (.t 123)])) [3, 9]
(.rd 11 (opO 125 (.ibin .geq .i64 (.t 124) (.c (.int .i64 0))))
.fin) .no))))))))))) (some [1, 5, 125]))
(.cond (.t 125)
(.seq (.ops [mvO 126 5,
mvO 2 126,
opO 3 (.mov (.c (.int .i64 5)))] (some [2, 3]))
.ret)
.skip))
(.seq (.draw (.rd 0 (opO 127 (.faddr 3 (.t 1)))
(.rd 1 (opO 128 (.load 1 false (.t 127)))
(.rd 2 (mvO 129 5)
(.rd 3 (opO 130 (.iaddr 2 (.t 128) (.t 129)))
(.rd 4 (opO 131 (.faddr 1 (.t 130)))
(.rd 5 (opO 132 (.load 1 false (.t 131)))
(.rd 6 (opO 133 (.faddr 0 (.t 1)))
(.rd 7 (opO 134 (.load 1 false (.t 133)))
(.rd 8 (opO 135 (.lenV (.t 134)))
(.wr 9 (opO 136 (.call 15 [(.t 132), (.c (.int .i64 1)), (.t 135)])) [5, 8]
(.rd 10 (opO 137 (.un .not (.t 136)))
.fin) .no)))))))))) (some [1, 5, 137]))
(.cond (.t 137)
(.seq (.ops [mvO 138 5,
mvO 2 138,
opO 3 (.mov (.c (.int .i64 2)))] (some [2, 3]))
.ret)
.skip)))))
(.ops [mvO 103 5,
opO 104 (.ibin .add .i64 (.t 103) (.c (.int .i64 1))),
mvO 5 104] (some [1, 5])))))))
(.seq (.ops [opO 2 (.mov (.c (.int .i64 0))),
opO 3 (.mov (.c (.int .i64 0)))] none)
.ret))))))))⟩
/-- guidevane/guidevanetop.damAwake -/
def ir50 : IFn := ⟨33, [.t 0],
(.seq (.ops [opO 0 (.mov (.c (.bool false)))] (some []))
(.seq (.ops [opO 6 (.call 60 []),
opO 7 (.call 55 [(.t 6), (.c (.int .i64 3))]),
mvO 5 7,
opO 8 (.extract 0 (.t 5)),
opO 9 (.extract 1 (.t 5)),
opO 1 (.alloc (List.replicate 6 (.int .i64 0))),
⟨none, none, .store 6 (.t 1) (.t 8)⟩,
mvO 2 9] (some [1, 2]))
(.seq (.ops [opO 11 (.call 61 []),
opO 12 (.bslice 3 1 [(.int .i64 0)] [(0, 1, (.c (.int .i64 60))), (1, 1, (.c (.int .i64 20))), (2, 1, (.c (.int .i64 10)))]),
opO 13 (.call 36 [(.t 11), (.t 12)]),
mvO 10 13,
opO 14 (.extract 0 (.t 10)),
opO 15 (.extract 1 (.t 10)),
opO 3 (.alloc [(.int .i64 0), (.int .i64 0), (.int .i64 0)]),
⟨none, none, .store 3 (.t 3) (.t 14)⟩,
mvO 4 15] (some [1, 2, 3, 4]))
(.seq (.ops [mvO 16 2,
opO 17 (.ibin .eql .i64 (.t 16) (.c (.int .i64 0))),
mvO 18 17,
⟨(some 19), (some (18, true)), .load 6 true (.t 1)⟩,
⟨(some 20), (some (18, true)), .build (List.replicate 5 (.int .i64 0)) [(0, 1, (.c (.int .i64 3020))), (1, 1, (.c (.int .i64 87)))]⟩,
⟨(some 21), (some (18, true)), .build (List.replicate 6 (.int .i64 0)) [(0, 1, (.c (.int .i64 30))), (1, 5, (.t 20))]⟩,
⟨(some 22), (some (18, true)), .eqv (.fld 0 1 (.int .i64) (.fld 1 5 (.fld 0 1 (.int .i64) (.fld 1 1 (.int .i64) (.fld 2 1 (.int .i64) (.fld 3 1 (.int .i64) (.fld 4 1 (.int .i64) .nil))))) .nil)) false (.t 19) (.t 21)⟩,
opO 23 (.pick (.t 18) (.t 22) (.c (.bool false))),
mvO 24 23,
⟨(some 25), (some (24, true)), .mov (.t 4)⟩,
⟨(some 26), (some (24, true)), .ibin .eql .i64 (.t 25) (.c (.int .i64 0))⟩,
opO 27 (.pick (.t 24) (.t 26) (.c (.bool false))),
mvO 28 27,
⟨(some 29), (some (28, true)), .load 3 true (.t 3)⟩,
⟨(some 30), (some (28, true)), .build [(.int .i64 0), (.int .i64 0), (.int .i64 0)] [(0, 1, (.c (.int .i64 1))), (1, 1, (.c (.int .i64 2))), (2, 1, (.c (.int .i64 10)))]⟩,
⟨(some 31), (some (28, true)), .eqv (.fld 0 1 (.int .i64) (.fld 1 1 (.int .i64) (.fld 2 1 (.int .i64) .nil))) false (.t 29) (.t 30)⟩,
opO 32 (.pick (.t 28) (.t 31) (.c (.bool false))),
mvO 0 32] (some [0]))
.ret))))⟩
/-- guidevane/guidevaneref09.ReadingsErr -/
def ir51 : IFn := ⟨25, [.t 2],
(.seq (.ops [opO 2 (.mov (.c (.int .i64 0)))] (some [0]))
(.seq (.seq (.ops [mvO 5 0,
opO 6 (.lenV (.t 5)),
opO 7 (.ibin .eql .i64 (.t 6) (.c (.int .i64 0)))] (some [0, 7]))
(.cond (.t 7)
(.seq (.ops [opO 2 (.mov (.c (.int .i64 10)))] none)
.ret)
.skip))
(.seq (.seq (.ops [mvO 8 0,
opO 9 (.lenV (.t 8)),
opO 10 (.ibin .gtr .i64 (.t 9) (.c (.int .i64 12)))] (some [0, 10]))
(.cond (.t 10)
(.seq (.ops [opO 2 (.mov (.c (.int .i64 8)))] none)
.ret)
.skip))
(.seq (.seq (.ops [opO 3 (.mov (.c (.int .i64 0)))] none)
(.block 0 (.loop (.seq (.seq (.ops [mvO 11 3,
mvO 12 0,
opO 13 (.lenV (.t 12)),
opO 14 (.ibin .lss .i64 (.t 11) (.t 13))] (some [0, 3, 14]))
(.cond (.t 14)
.skip
(.exit 0)))
(.seq (.block 1 (.seq (.ops [mvO 17 0,
mvO 18 3,
opO 19 (.iaddr 3 (.t 17) (.t 18)),
opO 20 (.load 3 true (.t 19)),
opO 21 (.call 32 [(.t 20)]),
mvO 4 21] (some [0, 3, 4]))
(.seq (.ops [mvO 22 4,
opO 23 (.ibin .neq .i64 (.t 22) (.c (.int .i64 0)))] (some [0, 3, 4, 23]))
(.cond (.t 23)
(.seq (.ops [mvO 24 4,
mvO 2 24] (some [2]))
.ret)
.skip))))
(.ops [mvO 15 3,
opO 16 (.ibin .add .i64 (.t 15) (.c (.int .i64 1))),
mvO 3 16] (some [0, 3])))))))
(.seq (.ops [opO 2 (.mov (.c (.int .i64 0)))] none)
.ret)))))⟩
/-- guidevane/guidevaneref09.TermsErr -/
def ir52 : IFn := ⟨6, [.t 2],
(.seq (.ops [opO 2 (.mov (.c (.int .i64 0)))] (some [0]))
(.seq (.seq (.ops [mvO 3 0,
opO 4 (.call 15 [(.t 3), (.c (.int .i64 1)), (.c (.int .i64 31))]),
opO 5 (.un .not (.t 4))] (some [5]))
(.cond (.t 5)
(.seq (.ops [opO 2 (.mov (.c (.int .i64 2)))] none)
.ret)
.skip))
(.seq (.ops [opO 2 (.mov (.c (.int .i64 0)))] none)
.ret)))⟩
/-- guidevane/guidevaneref09.CopyReadings -/
def ir53 : IFn := ⟨6, [.t 2],
(.seq (.ops [opO 2 (.mov (.c (.slice none 0 0)))] (some [0]))
(.seq (.ops [opO 3 (.bslice 0 3 [(.int .i64 0), (.int .i64 0), (.int .i64 0)] []),
mvO 4 0,
opO 5 (.append 3 24 (.t 3) (.t 4)),
mvO 2 5] (some [2]))
.ret))⟩
/-- guidevane/dam.FitOf -/
def ir55 : IFn := ⟨174, [.cell 4 6 true, .t 5],
(.seq (.ops [opO 4 (.alloc (List.replicate 6 (.int .i64 0))),
opO 5 (.mov (.c (.int .i64 0)))] (some [0, 1, 4]))
(.seq (.ops [mvO 26 1,
mvO 6 26] (some [0, 4, 6]))
(.seq (.seq (.ops [mvO 27 0,
opO 28 (.call 93 [(.t 27)]),
mvO 29 6,
opO 30 (.call 94 [(.t 29)]),
opO 31 (.bslice 2 1 [(.int .i64 0)] [(0, 1, (.t 28)), (1, 1, (.t 30))]),
opO 32 (.call 63 [(.t 31)]),
mvO 7 32] (some [0, 4, 6, 7]))
(.seq (.ops [mvO 33 7,
opO 34 (.ibin .neq .i64 (.t 33) (.c (.int .i64 0)))] (some [0, 4, 6, 7, 34]))
(.cond (.t 34)
(.seq (.ops [opO 35 (.build (List.replicate 6 (.int .i64 0)) []),
mvO 36 7,
⟨none, none, .store 6 (.t 4) (.t 35)⟩,
mvO 5 36] (some [4, 5]))
.ret)
.skip)))
(.seq (.ops [mvO 37 6,
opO 38 (.call 95 [(.t 37)]),
mvO 8 38] (some [0, 4, 8]))
(.seq (.draw (.rd 0 (mvO 39 8)
(.rd 1 (opO 40 (.lenV (.t 39)))
(.rd 3 (mvO 42 8)
(.rd 4 (opO 43 (.lenV (.t 42)))
(.wr 2 (opO 41 (.mslice 1 24 [(.slice none 0 0)] (.t 40) (.t 40))) [1, 1]
(.rd 6 (mvO 9 41)
(.wr 5 (opO 44 (.mslice 1 8 [(.int .i64 0)] (.t 43) (.t 43))) [4, 4]
(.rd 7 (mvO 10 44)
.fin) .no))
(.wr 5 (opO 44 (.mslice 1 8 [(.int .i64 0)] (.t 43) (.t 43))) [4, 4]
(.wr 2 (opO 41 (.mslice 1 24 [(.slice none 0 0)] (.t 40) (.t 40))) [1, 1]
(.rd 6 (mvO 9 41)
(.rd 7 (mvO 10 44)
.fin)) .no) .no)))))) (some [0, 4, 8, 9, 10]))
(.seq (.seq (.ops [mvO 45 8,
opO 46 (.lenV (.t 45)),
opO 47 (.mov (.c (.int .i64 0)))] none)
(.block 0 (.loop (.seq (.ops [opO 48 (.ibin .lss .i64 (.t 47) (.t 46))] none)
(.seq (.cond (.t 48)
.skip
(.exit 0))
(.seq (.block 1 (.seq (.ops [mvO 49 47,
opO 50 (.iaddr 1 (.t 45) (.t 47)),
opO 51 (.load 1 false (.t 50)),
mvO 11 49,
mvO 12 51] (some [0, 4, 8, 9, 10, 11, 12, 45, 46, 47]))
(.seq (.ops [mvO 52 9,
mvO 53 11,
mvO 54 8,
opO 55 (.lenV (.t 54)),
opO 56 (.mslice 1 8 [(.int .i64 0)] (.t 55) (.t 55)),
opO 57 (.iaddr 1 (.t 52) (.t 53)),
⟨none, none, .store 1 (.t 57) (.t 56)⟩] (some [0, 4, 8, 9, 10, 11, 12, 45, 46, 47]))
(.seq (.ops [mvO 58 0,
opO 59 (.lenV (.t 58)),
opO 60 (.mov (.c (.int .i64 0)))] none)
(.block 2 (.loop (.seq (.ops [opO 61 (.ibin .lss .i64 (.t 60) (.t 59))] none)
(.seq (.cond (.t 61)
.skip
(.exit 2))
(.seq (.block 3 (.seq (.ops [opO 62 (.iaddr 3 (.t 58) (.t 60)),
opO 63 (.load 3 true (.t 62)),
opO 14 (.alloc [(.int .i64 0), (.int .i64 0), (.int .i64 0)]),
⟨none, none, .store 3 (.t 14) (.t 63)⟩] (some [0, 4, 8, 9, 10, 11, 12, 14, 45, 46, 47, 58, 59, 60]))
(.seq (.ops [opO 64 (.load 3 true (.t 14)),
opO 65 (.call 77 [(.t 64)]),
opO 15 (.alloc (List.replicate 5 (.int .i64 0))),
⟨none, none, .store 5 (.t 15) (.t 65)⟩] (some [0, 4, 8, 9, 10, 11, 12, 14, 15, 45, 46, 47, 58, 59, 60]))
(.seq (.draw (.rd 0 (mvO 66 10)
(.rd 1 (mvO 67 11)
(.rd 2 (opO 68 (.iaddr 1 (.t 66) (.t 67)))
(.rd 3 (opO 69 (.load 1 false (.t 68)))
(.rd 4 (mvO 70 12)
(.rd 5 (opO 71 (.iaddrA 5 1 (.t 15) (.t 70)))
(.rd 6 (opO 72 (.load 1 false (.t 71)))
(.rd 7 (opO 73 (.faddr 2 (.t 14)))
(.rd 8 (opO 74 (.load 1 false (.t 73)))
(.rd 9 (opO 75 (.ibin .mul .i64 (.t 72) (.t 74)))
(.rd 10 (opO 76 (.ibin .add .i64 (.t 69) (.t 75)))
(.rd 11 (opO 77 (.iaddr 1 (.t 66) (.t 67)))
(.wr 12 ⟨none, none, .store 1 (.t 77) (.t 76)⟩ [11, 10, 0, 1, 2, 3, 4, 5, 6, 7, 8, 9, 10]
.fin .no))))))))))))) (some [0, 4, 8, 9, 10, 11, 12, 15, 45, 46, 47, 58, 59, 60]))
(.seq (.ops [mvO 78 8,
opO 79 (.lenV (.t 78)),
opO 80 (.mov (.c (.int .i64 0)))] none)
(.block 4 (.loop (.seq (.ops [opO 81 (.ibin .lss .i64 (.t 80) (.t 79))] none)
(.seq (.cond (.t 81)
.skip
(.exit 4))
(.seq (.block 5 (.seq (.ops [mvO 82 80,
opO 83 (.iaddr 1 (.t 78) (.t 80)),
opO 84 (.load 1 false (.t 83)),
mvO 16 82,
mvO 17 84] (some [0, 4, 8, 9, 10, 11, 12, 15, 16, 17, 45, 46, 47, 58, 59, 60, 78, 79, 80]))
(.draw (.rd 0 (mvO 85 9)
(.rd 1 (mvO 86 11)
(.rd 2 (opO 87 (.iaddr 1 (.t 85) (.t 86)))
(.rd 3 (opO 88 (.load 1 false (.t 87)))
(.rd 4 (mvO 89 16)
(.rd 5 (opO 90 (.iaddr 1 (.t 88) (.t 89)))
(.rd 6 (opO 91 (.load 1 false (.t 90)))
(.rd 7 (mvO 92 12)
(.rd 8 (opO 93 (.iaddrA 5 1 (.t 15) (.t 92)))
(.rd 9 (opO 94 (.load 1 false (.t 93)))
(.rd 10 (mvO 95 17)
(.rd 11 (opO 96 (.iaddrA 5 1 (.t 15) (.t 95)))
(.rd 12 (opO 97 (.load 1 false (.t 96)))
(.rd 13 (opO 98 (.ibin .mul .i64 (.t 94) (.t 97)))
(.rd 14 (opO 99 (.ibin .add .i64 (.t 91) (.t 98)))
(.rd 15 (opO 100 (.iaddr 1 (.t 88) (.t 89)))
(.wr 16 ⟨none, none, .store 1 (.t 100) (.t 99)⟩ [15, 14, 0, 1, 2, 3, 4, 5, 6, 7, 8, 9, 10, 11, 12, 13, 14]
.fin .no))))))))))))))))) (some [0, 4, 8, 9, 10, 11, 12, 15, 45, 46, 47, 58, 59, 60, 78, 79, 80]))))
(.ops [opO 101 (.ibin .add .i64 (.t 80) (.c (.int .i64 1))),
mvO 80 101] (some [0, 4, 8, 9, 10, 11, 12, 15, 45, 46, 47, 58, 59, 60, 78, 79, 80]))))))))))))
(.ops [opO 102 (.ibin .add .i64 (.t 60) (.c (.int .i64 1))),
mvO 60 102] (some [0, 4, 8, 9, 10, 11, 12, 45, 46, 47, 58, 59, 60])))))))))))
(.ops [opO 103 (.ibin .add .i64 (.t 47) (.c (.int .i64 1))),
mvO 47 103] (some [0, 4, 8, 9, 10, 45, 46, 47]))))))))
(.seq (.ops [mvO 104 9,
opO 105 (.call 96 [(.t 104)]),
opO 106 (.build (List.replicate 6 (.int .i64 0)) [(0, 1, (.t 105))]),
opO 18 (.alloc (List.replicate 6 (.int .i64 0))),
⟨none, none, .store 6 (.t 18) (.t 106)⟩] (some [4, 8, 9, 10, 18]))
(.seq (.seq (.ops [opO 107 (.faddr 0 (.t 18)),
opO 108 (.load 1 false (.t 107)),
opO 109 (.ibin .eql .i64 (.t 108) (.c (.int .i64 0)))] (some [4, 8, 9, 10, 18, 109]))
(.cond (.t 109)
(.seq (.ops [opO 110 (.build (List.replicate 6 (.int .i64 0)) []),
⟨none, none, .store 6 (.t 4) (.t 110)⟩,
opO 5 (.mov (.c (.int .i64 12)))] (some [4, 5]))
.ret)
.skip))
(.seq (.seq (.ops [mvO 111 8,
opO 112 (.lenV (.t 111)),
opO 113 (.mov (.c (.int .i64 0)))] (some [4, 9, 10, 18, 111, 112, 113]))
(.block 6 (.loop (.seq (.ops [opO 114 (.ibin .lss .i64 (.t 113) (.t 112))] none)
(.seq (.cond (.t 114)
.skip
(.exit 6))
(.seq (.block 7 (.seq (.ops [mvO 115 113,
opO 116 (.iaddr 1 (.t 111) (.t 113)),
opO 117 (.load 1 false (.t 116)),
mvO 19 115,
mvO 20 117] (some [4, 9, 10, 18, 19, 20, 111, 112, 113]))
(.seq (.ops [mvO 118 9,
opO 119 (.lenV (.t 118)),
opO 120 (.mslice 1 24 [(.slice none 0 0)] (.t 119) (.t 119)),
mvO 21 120] (some [4, 9, 10, 18, 19, 20, 21, 111, 112, 113]))
(.seq (.seq (.ops [mvO 121 9,
opO 122 (.lenV (.t 121)),
opO 123 (.mov (.c (.int .i64 0)))] none)
(.block 8 (.loop (.seq (.ops [opO 124 (.ibin .lss .i64 (.t 123) (.t 122))] none)
(.seq (.cond (.t 124)
.skip
(.exit 8))
(.seq (.block 9 (.seq (.ops [mvO 125 123,
opO 126 (.iaddr 1 (.t 121) (.t 123)),
opO 127 (.load 1 false (.t 126)),
mvO 22 125,
mvO 23 127] (some [4, 9, 10, 18, 19, 20, 21, 22, 23, 111, 112, 113, 121, 122, 123]))
(.seq (.ops [mvO 128 21,
mvO 129 22,
mvO 130 23,
opO 131 (.call 73 [(.t 130)]),
opO 132 (.iaddr 1 (.t 128) (.t 129)),
⟨none, none, .store 1 (.t 132) (.t 131)⟩] (some [4, 9, 10, 18, 19, 20, 21, 22, 111, 112, 113, 121, 122, 123]))
(.draw (.rd 0 (mvO 133 21)
(.rd 1 (mvO 134 22)
(.rd 2 (opO 135 (.iaddr 1 (.t 133) (.t 134)))
(.rd 3 (opO 136 (.load 1 false (.t 135)))
(.rd 4 (mvO 137 19)
(.rd 5 (mvO 138 10)
(.rd 6 (mvO 139 22)
(.rd 7 (opO 140 (.iaddr 1 (.t 138) (.t 139)))
(.rd 8 (opO 141 (.load 1 false (.t 140)))
(.rd 9 (opO 142 (.iaddr 1 (.t 136) (.t 137)))
(.wr 10 ⟨none, none, .store 1 (.t 142) (.t 141)⟩ [9, 8, 0, 1, 2, 3, 4, 5, 6, 7, 8]
.fin .no))))))))))) (some [4, 9, 10, 18, 19, 20, 21, 111, 112, 113, 121, 122, 123])))))
(.ops [opO 143 (.ibin .add .i64 (.t 123) (.c (.int .i64 1))),
mvO 123 143] (some [4, 9, 10, 18, 19, 20, 21, 111, 112, 113, 121, 122, 123]))))))))
(.ops [mvO 144 20,
mvO 145 21,
opO 146 (.call 96 [(.t 145)]),
opO 147 (.faddr 1 (.t 18)),
opO 148 (.iaddrA 5 1 (.t 147) (.t 144)),
⟨none, none, .store 1 (.t 148) (.t 146)⟩] (some [4, 9, 10, 18, 111, 112, 113]))))))
(.ops [opO 149 (.ibin .add .i64 (.t 113) (.c (.int .i64 1))),
mvO 113 149] (some [4, 9, 10, 18, 111, 112, 113]))))))))
(.seq (.ops [opO 150 (.load 6 true (.t 18)),
opO 151 (.call 97 [(.t 150)]),
mvO 24 151] (some [4, 18, 24]))
(.seq (.ops [opO 152 (.faddr 0 (.t 18)),
opO 153 (.load 1 false (.t 152)),
mvO 154 24,
opO 155 (.ibin .quo .i64 (.t 153) (.t 154)),
opO 156 (.faddr 0 (.t 18)),
⟨none, none, .store 1 (.t 156) (.t 155)⟩] (some [4, 18, 24]))
(.seq (.seq (.ops [opO 157 (.mov (.c (.int .i64 0)))] none)
(.block 10 (.loop (.seq (.ops [opO 158 (.ibin .lss .i64 (.t 157) (.c (.int .i64 5)))] none)
(.seq (.cond (.t 158)
.skip
(.exit 10))
(.seq (.block 11 (.seq (.ops [mvO 159 157,
mvO 25 159] (some [4, 18, 24, 25, 157]))
(.ops [mvO 160 25,
opO 161 (.faddr 1 (.t 18)),
opO 162 (.iaddrA 5 1 (.t 161) (.t 160)),
opO 163 (.load 1 false (.t 162)),
mvO 164 24,
opO 165 (.ibin .quo .i64 (.t 163) (.t 164)),
opO 166 (.faddr 1 (.t 18)),
opO 167 (.iaddrA 5 1 (.t 166) (.t 160)),
⟨none, none, .store 1 (.t 167) (.t 165)⟩] (some [4, 18, 24, 157]))))
(.ops [opO 168 (.ibin .add .i64 (.t 157) (.c (.int .i64 1))),
mvO 157 168] (some [4, 18, 24, 157]))))))))
(.seq (.seq (.ops [opO 169 (.load 6 true (.t 18)),
opO 170 (.call 98 [(.t 169)]),
opO 171 (.ibin .neq .i64 (.t 170) (.c (.int .i64 0)))] (some [4, 18, 171]))
(.cond (.t 171)
(.seq (.ops [opO 172 (.build (List.replicate 6 (.int .i64 0)) []),
⟨none, none, .store 6 (.t 4) (.t 172)⟩,
opO 5 (.mov (.c (.int .i64 8)))] (some [4, 5]))
.ret)
.skip))
(.seq (.ops [opO 173 (.load 6 true (.t 18)),
⟨none, none, .store 6 (.t 4) (.t 173)⟩,
opO 5 (.mov (.c (.int .i64 0)))] (some [4, 5]))
.ret))))))))))))))⟩
/-- guidevane/dam.ResidualsOf -/
def ir56 : IFn := ⟨19, [.t 4, .t 5],
(.seq (.ops [opO 3 (.box (.t 1)),
opO 4 (.mov (.c (.slice none 0 0))),
opO 5 (.mov (.c (.int .i64 0)))] (some [0, 3]))
(.seq (.seq (.draw (.rd 0 (mvO 7 0)
(.rd 2 (opO 9 (.load 6 true (.t 3)))
(.wr 1 (opO 8 (.call 93 [(.t 7)])) [0]
(.wr 3 (opO 10 (.call 98 [(.t 9)])) [2, 1]
(.wr 4 (opO 11 (.bslice 2 1 [(.int .i64 0)] [(0, 1, (.t 8)), (1, 1, (.t 10))])) [1, 3]
(.wr 5 (opO 12 (.call 63 [(.t 11)])) [4, 3]
(.rd 6 (mvO 6 12)
.fin) .no) .no) .no) .no))) (some [0, 3, 6]))
(.seq (.ops [mvO 13 6,
opO 14 (.ibin .neq .i64 (.t 13) (.c (.int .i64 0)))] (some [0, 3, 6, 14]))
(.cond (.t 14)
(.seq (.ops [mvO 15 6,
opO 4 (.mov (.c (.slice none 0 0))),
mvO 5 15] (some [4, 5]))
.ret)
.skip)))
(.seq (.ops [mvO 16 0,
opO 17 (.load 6 true (.t 3)),
opO 18 (.call 99 [(.t 16), (.t 17)]),
mvO 4 18,
opO 5 (.mov (.c (.int .i64 0)))] (some [4, 5]))
.ret)))⟩
/-- guidevane/dam.SpreadOf -/
def ir57 : IFn := ⟨34, [.t 4, .t 5],
(.seq (.ops [opO 3 (.box (.t 1)),
opO 4 (.mov (.c (.int .i64 0))),
opO 5 (.mov (.c (.int .i64 0)))] (some [0, 3]))
(.seq (.ops [mvO 12 0,
opO 13 (.load 6 true (.t 3)),
opO 14 (.call 56 [(.t 12), (.t 13)]),
mvO 11 14,
opO 15 (.extract 0 (.t 11)),
opO 16 (.extract 1 (.t 11)),
mvO 6 15,
mvO 7 16] (some [6, 7]))
(.seq (.ops [opO 8 (.mov (.c (.int .i64 0)))] none)
(.seq (.seq (.ops [mvO 17 6,
opO 18 (.lenV (.t 17)),
opO 19 (.mov (.c (.int .i64 0)))] (some [7, 8, 17, 18, 19]))
(.block 0 (.loop (.seq (.ops [opO 20 (.ibin .lss .i64 (.t 19) (.t 18))] none)
(.seq (.cond (.t 20)
.skip
(.exit 0))
(.seq (.block 1 (.seq (.ops [opO 21 (.iaddr 2 (.t 17) (.t 19)),
opO 22 (.load 2 true (.t 21)),
opO 10 (.alloc [(.int .i64 0), (.int .i64 0)]),
⟨none, none, .store 2 (.t 10) (.t 22)⟩] (some [7, 8, 10, 17, 18, 19]))
(.draw (.rd 0 (mvO 23 8)
(.rd 1 (opO 24 (.faddr 0 (.t 10)))
(.rd 2 (opO 25 (.load 1 false (.t 24)))
(.rd 4 (opO 27 (.faddr 1 (.t 10)))
(.rd 5 (opO 28 (.load 1 false (.t 27)))
(.wr 3 (opO 26 (.call 100 [(.t 25)])) [2]
(.wr 6 (opO 29 (.call 100 [(.t 28)])) [5, 3]
(.rd 7 (opO 30 (.minmax true (.t 23) [(.t 26), (.t 29)]))
(.wr 8 (mvO 8 30) [7, 6, 0, 1, 2, 3, 4, 5, 6, 7]
.fin .no)) .no) .no)))))) (some [7, 8, 17, 18, 19]))))
(.ops [opO 31 (.ibin .add .i64 (.t 19) (.c (.int .i64 1))),
mvO 19 31] (some [7, 8, 17, 18, 19]))))))))
(.seq (.ops [mvO 32 8,
mvO 33 7,
mvO 4 32,
mvO 5 33] (some [4, 5]))
.ret)))))⟩
/-- guidevane/dam.ForecastOf -/
def ir59 : IFn := ⟨41, [.cell 6 2 true, .t 7],
(.seq (.ops [opO 4 (.box (.t 1)),
opO 5 (.box (.t 2)),
opO 6 (.alloc [(.int .i64 0), (.int .i64 0)]),
opO 7 (.mov (.c (.int .i64 0)))] (some [0, 4, 5, 6]))
(.seq (.ops [mvO 12 0,
opO 13 (.load 6 true (.t 4)),
opO 14 (.call 57 [(.t 12), (.t 13)]),
mvO 11 14,
opO 15 (.extract 0 (.t 11)),
opO 16 (.extract 1 (.t 11)),
mvO 8 15,
mvO 9 16] (some [4, 5, 6, 8, 9]))
(.seq (.seq (.ops [mvO 17 9,
opO 18 (.load 3 true (.t 5)),
opO 19 (.call 33 [(.t 18)]),
opO 20 (.bslice 2 1 [(.int .i64 0)] [(0, 1, (.t 17)), (1, 1, (.t 19))]),
opO 21 (.call 63 [(.t 20)]),
mvO 9 21] (some [4, 5, 6, 8, 9]))
(.seq (.ops [mvO 22 9,
opO 23 (.ibin .neq .i64 (.t 22) (.c (.int .i64 0)))] (some [4, 5, 6, 8, 9, 23]))
(.cond (.t 23)
(.seq (.ops [opO 24 (.build [(.int .i64 0), (.int .i64 0)] []),
mvO 25 9,
⟨none, none, .store 2 (.t 6) (.t 24)⟩,
mvO 7 25] (some [6, 7]))
.ret)
.skip)))
(.seq (.draw (.rd 0 (opO 26 (.load 6 true (.t 4)))
(.rd 1 (opO 27 (.load 3 true (.t 5)))
(.rd 3 (opO 29 (.faddr 0 (.t 4)))
(.rd 4 (opO 30 (.load 1 false (.t 29)))
(.wr 2 (opO 28 (.call 102 [(.t 26), (.t 27)])) [0, 1]
(.wr 5 (opO 31 (.call 101 [(.t 28), (.t 30)])) [2, 4, 2]
(.wr 6 (opO 10 (.alloc [(.int .i64 0), (.int .i64 0)])) []
(.wr 7 ⟨none, none, .store 2 (.t 10) (.t 31)⟩ [6, 5, 5, 0, 1, 2, 3, 4, 5, 6]
.fin .no) .no)
(.wr 6 (opO 10 (.alloc [(.int .i64 0), (.int .i64 0)])) []
(.wr 5 (opO 31 (.call 101 [(.t 28), (.t 30)])) [2, 4, 2]
(.wr 7 ⟨none, none, .store 2 (.t 10) (.t 31)⟩ [6, 5, 5, 0, 1, 2, 3, 4, 5, 6]
.fin .no) .no) .no))
(.wr 6 (opO 10 (.alloc [(.int .i64 0), (.int .i64 0)])) []
(.wr 2 (opO 28 (.call 102 [(.t 26), (.t 27)])) [0, 1]
(.wr 5 (opO 31 (.call 101 [(.t 28), (.t 30)])) [2, 4, 2]
(.wr 7 ⟨none, none, .store 2 (.t 10) (.t 31)⟩ [6, 5, 5, 0, 1, 2, 3, 4, 5, 6]
.fin .no) .no) .no) .no)))))) (some [6, 8, 10]))
(.seq (.ops [opO 32 (.faddr 0 (.t 10)),
opO 33 (.load 1 false (.t 32)),
mvO 34 8,
opO 35 (.ibin .sub .i64 (.t 33) (.t 34)),
opO 36 (.faddr 1 (.t 10)),
opO 37 (.load 1 false (.t 36)),
mvO 38 8,
opO 39 (.ibin .add .i64 (.t 37) (.t 38)),
opO 40 (.build [(.int .i64 0), (.int .i64 0)] [(0, 1, (.t 35)), (1, 1, (.t 39))]),
⟨none, none, .store 2 (.t 6) (.t 40)⟩,
opO 7 (.mov (.c (.int .i64 0)))] (some [6, 7]))
.ret)))))⟩
/-- guidevane/guidevanelaw09.Readings -/
def ir60 : IFn := ⟨5, [.t 0],
(.seq (.ops [opO 0 (.mov (.c (.slice none 0 0)))] (some []))
(.seq (.ops [opO 1 (.build [(.int .i64 0), (.int .i64 0), (.int .i64 0)] [(2, 1, (.c (.int .i64 100)))]),
opO 2 (.build [(.int .i64 0), (.int .i64 0), (.int .i64 0)] [(1, 1, (.c (.int .i64 10))), (2, 1, (.c (.int .i64 130)))]),
opO 3 (.build [(.int .i64 0), (.int .i64 0), (.int .i64 0)] [(1, 1, (.c (.int .i64 (-10)))), (2, 1, (.c (.int .i64 72)))]),
opO 4 (.bslice 3 3 [(.int .i64 0), (.int .i64 0), (.int .i64 0)] [(0, 3, (.t 1)), (3, 3, (.t 2)), (6, 3, (.t 3))]),
mvO 0 4] (some [0]))
.ret))⟩
/-- guidevane/guidevanelaw09.Rules -/
def ir61 : IFn := ⟨7, [.cell 0 4 true],
(.seq (.ops [opO 0 (.alloc [(.slice none 0 0), (.slice none 0 0), (.int .i64 0), (.slice none 0 0)])] none)
(.seq (.ops [opO 1 (.bslice 2 1 [(.int .i64 0)] [(0, 1, (.c (.int .i64 50))), (1, 1, (.c (.int .i64 100)))]),
opO 2 (.bslice 2 1 [(.int .i64 0)] [(0, 1, (.c (.int .i64 30))), (1, 1, (.c (.int .i64 80)))]),
opO 3 (.build [(.string ⟨#[]⟩), (.int .i64 0)] [(0, 1, (.c (.string ⟨#[97, 110, 110]⟩))), (1, 1, (.c (.int .i64 2)))]),
opO 4 (.build [(.string ⟨#[]⟩), (.int .i64 0)] [(0, 1, (.c (.string ⟨#[98, 111, 98]⟩))), (1, 1, (.c (.int .i64 1)))]),
opO 5 (.bslice 2 2 [(.string ⟨#[]⟩), (.int .i64 0)] [(0, 2, (.t 3)), (2, 2, (.t 4))]),
opO 6 (.build [(.slice none 0 0), (.slice none 0 0), (.int .i64 0), (.slice none 0 0)] [(0, 1, (.t 1)), (1, 1, (.t 2)), (2, 1, (.c (.int .i64 2))), (3, 1, (.t 5))]),
⟨none, none, .store 4 (.t 0) (.t 6)⟩] (some [0]))
.ret))⟩
/-- guidevane/dam.first -/
def ir63 : IFn := ⟨15, [.t 2],
(.seq (.ops [opO 2 (.mov (.c (.int .i64 0)))] (some [0]))
(.seq (.seq (.ops [mvO 5 0,
opO 6 (.lenV (.t 5)),
opO 7 (.mov (.c (.int .i64 0)))] (some [5, 6, 7]))
(.block 0 (.loop (.seq (.ops [opO 8 (.ibin .lss .i64 (.t 7) (.t 6))] none)
(.seq (.cond (.t 8)
.skip
(.exit 0))
(.seq (.block 1 (.seq (.ops [opO 9 (.iaddr 1 (.t 5) (.t 7)),
opO 10 (.load 1 false (.t 9)),
mvO 4 10] (some [4, 5, 6, 7]))
(.seq (.ops [mvO 11 4,
opO 12 (.ibin .neq .i64 (.t 11) (.c (.int .i64 0)))] (some [4, 5, 6, 7, 12]))
(.cond (.t 12)
(.seq (.ops [mvO 13 4,
mvO 2 13] (some [2]))
.ret)
.skip))))
(.ops [opO 14 (.ibin .add .i64 (.t 7) (.c (.int .i64 1))),
mvO 7 14] (some [5, 6, 7]))))))))
(.seq (.ops [opO 2 (.mov (.c (.int .i64 0)))] none)
.ret)))⟩
/-- guidevane/dam.unless -/
def ir64 : IFn := ⟨7, [.t 4],
(.seq (.ops [opO 4 (.mov (.c (.int .i64 0)))] (some [0, 1]))
(.seq (.seq (.ops [mvO 5 0] (some [1, 5]))
(.cond (.t 5)
(.seq (.ops [opO 4 (.mov (.c (.int .i64 0)))] none)
.ret)
.skip))
(.seq (.ops [mvO 6 1,
mvO 4 6] (some [4]))
.ret)))⟩
/-- guidevane/dam.within -/
def ir65 : IFn := ⟨15, [.t 6],
(.seq (.ops [opO 6 (.mov (.c (.bool false)))] (some [0, 1, 2]))
(.seq (.ops [mvO 7 1,
mvO 8 0,
opO 9 (.ibin .leq .i64 (.t 7) (.t 8)),
mvO 10 9,
⟨(some 11), (some (10, true)), .mov (.t 0)⟩,
⟨(some 12), (some (10, true)), .mov (.t 2)⟩,
⟨(some 13), (some (10, true)), .ibin .leq .i64 (.t 11) (.t 12)⟩,
opO 14 (.pick (.t 10) (.t 13) (.c (.bool false))),
mvO 6 14] (some [6]))
.ret))⟩
/-- slices.IndexFunc[[]int,int] -/
def ir70 : IFn := ⟨19, [.t 4],
(.seq (.ops [opO 4 (.mov (.c (.int .i64 0)))] (some [0, 1]))
(.seq (.seq (.ops [mvO 6 0,
opO 7 (.lenV (.t 6)),
opO 8 (.mov (.c (.int .i64 0)))] (some [0, 1, 7, 8]))
(.block 0 (.loop (.seq (.ops [opO 9 (.ibin .lss .i64 (.t 8) (.t 7))] none)
(.seq (.cond (.t 9)
.skip
(.exit 0))
(.seq (.block 1 (.seq (.ops [mvO 10 8,
mvO 5 10] (some [0, 1, 5, 7, 8]))
(.seq (.ops [mvO 11 1,
mvO 12 0,
mvO 13 5,
opO 14 (.iaddr 1 (.t 12) (.t 13)),
opO 15 (.load 1 false (.t 14)),
opO 16 (.callv (.t 11) [(.t 15)])] (some [0, 1, 5, 7, 8, 16]))
(.cond (.t 16)
(.seq (.ops [mvO 17 5,
mvO 4 17] (some [4]))
.ret)
.skip))))
(.ops [opO 18 (.ibin .add .i64 (.t 8) (.c (.int .i64 1))),
mvO 8 18] (some [0, 1, 7, 8]))))))))
(.seq (.ops [opO 4 (.mov (.c (.int .i64 (-1))))] none)
.ret)))⟩
/-- slices.Clone[[]int,int] -/
def ir73 : IFn := ⟨8, [.t 2],
(.seq (.ops [opO 2 (.mov (.c (.slice none 0 0)))] (some [0]))
(.seq (.seq (.ops [mvO 3 0,
opO 4 (.nileq .sl false (.t 3))] (some [0, 4]))
(.cond (.t 4)
(.seq (.ops [opO 2 (.mov (.c (.slice none 0 0)))] none)
.ret)
.skip))
(.seq (.ops [opO 5 (.bslice 0 1 [(.int .i64 0)] []),
mvO 6 0,
opO 7 (.append 1 8 (.t 5) (.t 6)),
mvO 2 7] (some [2]))
.ret)))⟩
/-- guidevane/dam.terms -/
def ir77 : IFn := ⟨25, [.cell 2 5 true],
(.seq (.ops [opO 1 (.box (.t 0)),
opO 2 (.alloc (List.replicate 5 (.int .i64 0)))] (some [1, 2]))
(.seq (.ops [opO 4 (.build [(.int .i64 0), (.int .i64 0)] [(0, 1, (.c (.int .i64 1))), (1, 1, (.c (.int .i64 0)))]),
opO 5 (.build [(.int .i64 0), (.int .i64 0)] [(0, 1, (.c (.int .i64 0))), (1, 1, (.c (.int .i64 1)))]),
opO 6 (.build [(.int .i64 0), (.int .i64 0)] [(0, 1, (.c (.int .i64 (-1)))), (1, 1, (.c (.int .i64 0)))]),
opO 7 (.build [(.int .i64 0), (.int .i64 0)] [(0, 1, (.c (.int .i64 0))), (1, 1, (.c (.int .i64 (-1))))]),
opO 8 (.build (List.replicate 8 (.int .i64 0)) [(0, 2, (.t 4)), (2, 2, (.t 5)), (4, 2, (.t 6)), (6, 2, (.t 7))]),
opO 9 (.faddr 0 (.t 1)),
opO 10 (.load 1 false (.t 9)),
opO 11 (.ibin .rem .i64 (.t 10) (.c (.int .i64 360))),
opO 12 (.ibin .mul .i64 (.t 11) (.c (.int .i64 4))),
opO 13 (.ibin .quo .i64 (.t 12) (.c (.int .i64 360))),
opO 14 (.indexA 4 2 true (.t 8) (.t 13)),
opO 3 (.alloc [(.int .i64 0), (.int .i64 0)]),
⟨none, none, .store 2 (.t 3) (.t 14)⟩] (some [1, 2, 3]))
(.seq (.ops [opO 15 (.faddr 1 (.t 1)),
opO 16 (.load 1 false (.t 15)),
opO 17 (.iaddrA 2 1 (.t 3) (.c (.int .i64 0))),
opO 18 (.load 1 false (.t 17)),
opO 19 (.iaddrA 2 1 (.t 3) (.c (.int .i64 1))),
opO 20 (.load 1 false (.t 19)),
opO 21 (.faddr 0 (.t 1)),
opO 22 (.load 1 false (.t 21)),
opO 23 (.ibin .quo .i64 (.t 22) (.c (.int .i64 360))),
opO 24 (.build (List.replicate 5 (.int .i64 0)) [(0, 1, (.c (.int .i64 1))), (1, 1, (.t 16)), (2, 1, (.t 18)), (3, 1, (.t 20)), (4, 1, (.t 23))]),
⟨none, none, .store 5 (.t 2) (.t 24)⟩] (some [2]))
.ret)))⟩
/-- guidevane/dam.isSized -/
def ir78 : IFn := ⟨10, [.t 4],
(.seq (.ops [opO 4 (.mov (.c (.bool false)))] (some [0, 1]))
(.seq (.ops [mvO 5 0,
mvO 6 1,
opO 7 (.un .neg (.t 6)),
mvO 8 1,
opO 9 (.call 65 [(.t 5), (.t 7), (.t 8)]),
mvO 4 9] (some [4]))
.ret))⟩
/-- guidevane/dam.open -/
def ir79 : IFn := ⟨14, [.cell 2 4 true, .t 3],
(.seq (.ops [opO 1 (.box (.t 0)),
opO 2 (.alloc [(.slice none 0 0), (.slice none 0 0), (.int .i64 0), (.slice none 0 0)]),
opO 3 (.mov (.c (.int .i64 0)))] (some [1, 2]))
(.seq (.ops [opO 7 (.load 4 true (.t 1)),
opO 8 (.call 43 [(.t 7)]),
mvO 6 8,
opO 9 (.extract 0 (.t 6)),
opO 10 (.extract 1 (.t 6)),
mvO 4 9,
mvO 5 10] (some [1, 2, 5]))
(.seq (.ops [opO 11 (.load 4 true (.t 1)),
opO 12 (.build [(.slice none 0 0), (.slice none 0 0), (.int .i64 0), (.slice none 0 0)] [(0, 4, (.t 11))]),
mvO 13 5,
⟨none, none, .store 4 (.t 2) (.t 12)⟩,
mvO 3 13] (some [2, 3]))
.ret)))⟩
/-- slices.ContainsFunc[[]int,int] -/
def ir80 : IFn := ⟨9, [.t 4],
(.seq (.ops [opO 4 (.mov (.c (.bool false)))] (some [0, 1]))
(.seq (.ops [mvO 5 0,
mvO 6 1,
opO 7 (.call 70 [(.t 5), (.t 6)]),
opO 8 (.ibin .geq .i64 (.t 7) (.c (.int .i64 0))),
mvO 4 8] (some [4]))
.ret))⟩
/-- guidevane/dam.WatchOf$1 -/
def ir81 : IFn := ⟨6, [.t 2],
(.seq (.ops [opO 2 (.mov (.c (.bool false)))] (some [0]))
(.seq (.ops [mvO 3 0,
opO 4 (.call 82 [(.t 3)]),
opO 5 (.un .not (.t 4)),
mvO 2 5] (some [2]))
.ret))⟩
/-- guidevane/dam.isDeviation -/
def ir82 : IFn := ⟨5, [.t 2],
(.seq (.ops [opO 2 (.mov (.c (.bool false)))] (some [0]))
(.seq (.ops [mvO 3 0,
opO 4 (.call 65 [(.t 3), (.c (.int .i64 0)), (.c (.int .i64 1000000))]),
mvO 2 4] (some [2]))
.ret))⟩
/-- (guidevane/dam.rules).watched -/
def ir83 : IFn := ⟨44, [.cell 6 3 true],
(.seq (.ops [opO 3 (.box (.t 0)),
opO 4 (.box (.t 1)),
opO 6 (.alloc [(.int .i64 0), (.int .i64 0), (.int .i64 0)])] (some [2, 3, 4, 6]))
(.seq (.ops [mvO 8 2,
opO 9 (.faddr 2 (.t 4)),
⟨none, none, .store 1 (.t 9) (.t 8)⟩] (some [2, 3, 4, 6]))
(.seq (.seq (.ops [opO 10 (.load 4 true (.t 3)),
mvO 11 2,
opO 12 (.call 89 [(.t 10), (.t 11)]),
mvO 7 12] (some [2, 3, 4, 6, 7]))
(.block 0 (.seq (.ops [mvO 15 7,
opO 16 (.faddr 0 (.t 4)),
opO 17 (.load 1 false (.t 16)),
opO 18 (.ibin .gtr .i64 (.t 15) (.t 17)),
mvO 14 18] (some [2, 3, 4, 6, 7, 14]))
(.cond (.t 14)
(.ops [mvO 19 7,
opO 20 (.faddr 0 (.t 4)),
⟨none, none, .store 1 (.t 20) (.t 19)⟩,
opO 21 (.faddr 1 (.t 4)),
⟨none, none, .store 1 (.t 21) (.c (.int .i64 0))⟩] (some [4, 6]))
(.seq (.ops [opO 23 (.faddr 0 (.t 4)),
opO 24 (.load 1 false (.t 23)),
opO 25 (.ibin .gtr .i64 (.t 24) (.c (.int .i64 0))),
mvO 26 25,
⟨(some 27), (some (26, true)), .mov (.t 2)⟩,
⟨(some 28), (some (26, true)), .faddr 0 (.t 3)⟩,
⟨(some 29), (some (26, true)), .faddr 1 (.t 28)⟩,
⟨(some 30), (some (26, true)), .load 1 false (.t 29)⟩,
⟨(some 31), (some (26, true)), .faddr 0 (.t 4)⟩,
⟨(some 32), (some (26, true)), .load 1 false (.t 31)⟩,
⟨(some 33), (some (26, true)), .ibin .sub .i64 (.t 32) (.c (.int .i64 1))⟩,
⟨(some 34), (some (26, true)), .iaddr 1 (.t 30) (.t 33)⟩,
⟨(some 35), (some (26, true)), .load 1 false (.t 34)⟩,
⟨(some 36), (some (26, true)), .ibin .lss .i64 (.t 27) (.t 35)⟩,
opO 37 (.pick (.t 26) (.t 36) (.c (.bool false))),
mvO 22 37] (some [4, 6, 22]))
(.cond (.t 22)
(.ops [opO 38 (.faddr 1 (.t 4)),
opO 39 (.load 1 false (.t 38)),
opO 40 (.ibin .add .i64 (.t 39) (.c (.int .i64 1))),
opO 41 (.minmax false (.t 40) [(.c (.int .i64 1000000))]),
opO 42 (.faddr 1 (.t 4)),
⟨none, none, .store 1 (.t 42) (.t 41)⟩] (some [4, 6]))
(.ops [opO 13 (.faddr 1 (.t 4)),
⟨none, none, .store 1 (.t 13) (.c (.int .i64 0))⟩] (some [4, 6]))))))))
(.seq (.ops [opO 43 (.load 3 true (.t 4)),
⟨none, none, .store 3 (.t 6) (.t 43)⟩] (some [6]))
.ret))))⟩
/-- guidevane/dam.isValue -/
def ir84 : IFn := ⟨5, [.t 2],
(.seq (.ops [opO 2 (.mov (.c (.bool false)))] (some [0]))
(.seq (.ops [mvO 3 0,
opO 4 (.call 78 [(.t 3), (.c (.int .i64 1000000))]),
mvO 2 4] (some [2]))
.ret))⟩
/-- guidevane/dam.CheckRules$1 -/
def ir85 : IFn := ⟨5, [.t 2],
(.seq (.ops [opO 2 (.mov (.c (.bool false)))] (some [0]))
(.seq (.ops [mvO 3 0,
opO 4 (.call 65 [(.t 3), (.c (.int .i64 1)), (.c (.int .i64 1000000))]),
mvO 2 4] (some [2]))
.ret))⟩
/-- slices.ContainsFunc[[]guidevane/api.DamPerson,guidevane/api.DamPerson] -/
def ir86 : IFn := ⟨9, [.t 4],
(.seq (.ops [opO 4 (.mov (.c (.bool false)))] (some [0, 1]))
(.seq (.ops [mvO 5 0,
mvO 6 1,
opO 7 (.call 110 [(.t 5), (.t 6)]),
opO 8 (.ibin .geq .i64 (.t 7) (.c (.int .i64 0))),
mvO 4 8] (some [4]))
.ret))⟩
/-- guidevane/dam.CheckRules$2 -/
def ir87 : IFn := ⟨9, [.t 3],
(.seq (.ops [opO 2 (.box (.t 0)),
opO 3 (.mov (.c (.bool false)))] (some [1, 2]))
(.seq (.ops [opO 4 (.faddr 0 (.t 2)),
opO 5 (.load 1 false (.t 4)),
opO 6 (.faddr 0 (.t 1)),
opO 7 (.load 1 false (.t 6)),
opO 8 (.sbin .eql (.t 5) (.t 7)),
mvO 3 8] (some [3]))
.ret))⟩
/-- guidevane/dam.isName -/
def ir88 : IFn := ⟨34, [.t 2],
(.seq (.ops [opO 2 (.mov (.c (.bool false)))] (some [0]))
(.seq (.seq (.ops [mvO 5 0,
opO 6 (.s2b (.t 5)),
opO 7 (.lenV (.t 6)),
opO 8 (.mov (.c (.int .i64 0)))] (some [0, 6, 7, 8]))
(.block 0 (.loop (.seq (.ops [opO 9 (.ibin .lss .i64 (.t 8) (.t 7))] none)
(.seq (.cond (.t 9)
.skip
(.exit 0))
(.seq (.block 1 (.seq (.ops [mvO 10 8,
opO 11 (.iaddr 1 (.t 6) (.t 8)),
opO 12 (.load 1 false (.t 11)),
mvO 3 10,
mvO 4 12] (some [0, 3, 4, 6, 7, 8]))
(.seq (.ops [mvO 13 4,
opO 14 (.call 111 [(.t 13)]),
opO 15 (.un .not (.t 14)),
mvO 16 15,
⟨(some 17), (some (16, true)), .mov (.t 3)⟩,
⟨(some 18), (some (16, true)), .ibin .eql .i64 (.t 17) (.c (.int .i64 0))⟩,
⟨(some 19), (some (16, true)), .mov (.t 18)⟩,
⟨(some 20), (some (19, false)), .mov (.t 4)⟩,
⟨(some 21), (some (19, false)), .ibin .neq .u8 (.t 20) (.c (.int .u8 45))⟩,
⟨(some 22), (some (19, false)), .mov (.t 21)⟩,
⟨(some 23), (some (22, true)), .mov (.t 4)⟩,
⟨(some 24), (some (22, true)), .conv .i64 (.t 23)⟩,
⟨(some 25), (some (22, true)), .call 65 [(.t 24), (.c (.int .i64 48)), (.c (.int .i64 57))]⟩,
⟨(some 26), (some (22, true)), .un .not (.t 25)⟩,
⟨(some 27), (some (19, false)), .pick (.t 22) (.t 26) (.c (.bool false))⟩,
⟨(some 28), (some (16, true)), .pick (.t 19) (.c (.bool true)) (.t 27)⟩,
opO 29 (.pick (.t 16) (.t 28) (.c (.bool false)))] (some [0, 6, 7, 8, 29]))
(.cond (.t 29)
(.seq (.ops [opO 2 (.mov (.c (.bool false)))] none)
.ret)
.skip))))
(.ops [opO 30 (.ibin .add .i64 (.t 8) (.c (.int .i64 1))),
mvO 8 30] (some [0, 6, 7, 8]))))))))
(.seq (.ops [mvO 31 0,
opO 32 (.lenS (.t 31)),
opO 33 (.call 65 [(.t 32), (.c (.int .i64 1)), (.c (.int .i64 12))]),
mvO 2 33] (some [2]))
.ret)))⟩
/-- (guidevane/dam.rules).asked -/
def ir89 : IFn := ⟨19, [.t 4],
(.seq (.ops [opO 2 (.box (.t 0)),
opO 4 (.mov (.c (.int .i64 0)))] (some [1, 2]))
(.seq (.ops [opO 8 (.faddr 0 (.t 2)),
opO 9 (.faddr 0 (.t 8)),
opO 10 (.load 1 false (.t 9)),
mvO 11 1,
opO 12 (.call 112 [(.t 10), (.t 11)]),
mvO 7 12,
opO 13 (.extract 0 (.t 7)),
opO 14 (.extract 1 (.t 7)),
mvO 5 13,
mvO 6 14] (some [5, 6]))
(.seq (.seq (.ops [mvO 15 6] (some [5, 15]))
(.cond (.t 15)
(.ops [mvO 16 5,
opO 17 (.ibin .add .i64 (.t 16) (.c (.int .i64 1))),
mvO 5 17] (some [5]))
.skip))
(.seq (.ops [mvO 18 5,
mvO 4 18] (some [4]))
.ret))))⟩
/-- guidevane/dam.openState -/
def ir90 : IFn := ⟨20, [.cell 4 4 true, .t 5],
(.seq (.ops [opO 2 (.box (.t 0)),
opO 3 (.box (.t 1)),
opO 4 (.alloc [(.slice none 0 0), (.slice none 0 0), (.int .i64 0), (.slice none 0 0)]),
opO 5 (.mov (.c (.int .i64 0)))] (some [2, 3, 4]))
(.seq (.ops [opO 9 (.load 4 true (.t 2)),
opO 10 (.call 79 [(.t 9)]),
mvO 8 10,
opO 11 (.extract 0 (.t 8)),
opO 12 (.extract 1 (.t 8)),
opO 6 (.alloc [(.slice none 0 0), (.slice none 0 0), (.int .i64 0), (.slice none 0 0)]),
⟨none, none, .store 4 (.t 6) (.t 11)⟩,
mvO 7 12] (some [3, 4, 6, 7]))
(.seq (.seq (.ops [mvO 13 7,
opO 14 (.ibin .eql .i64 (.t 13) (.c (.int .i64 0)))] (some [3, 4, 6, 7, 14]))
(.cond (.t 14)
(.ops [opO 15 (.load 4 true (.t 6)),
opO 16 (.load 3 true (.t 3)),
opO 17 (.call 113 [(.t 15), (.t 16)]),
mvO 7 17] (some [4, 6, 7]))
.skip))
(.seq (.ops [opO 18 (.load 4 true (.t 6)),
mvO 19 7,
⟨none, none, .store 4 (.t 4) (.t 18)⟩,
mvO 5 19] (some [4, 5]))
.ret))))⟩
/-- guidevane/guidevanebase.IsName -/
def ir91 : IFn := ⟨55, [.t 2],
(.seq (.ops [opO 2 (.mov (.c (.bool false)))] (some [0]))
(.seq (.seq (.ops [mvO 6 0,
opO 7 (.lenS (.t 6)),
opO 8 (.ibin .lss .i64 (.t 7) (.c (.int .i64 1))),
mvO 9 8,
⟨(some 10), (some (9, false)), .mov (.t 0)⟩,
⟨(some 11), (some (9, false)), .lenS (.t 10)⟩,
⟨(some 12), (some (9, false)), .ibin .gtr .i64 (.t 11) (.c (.int .i64 12))⟩,
opO 13 (.pick (.t 9) (.c (.bool true)) (.t 12))] (some [0, 13]))
(.cond (.t 13)
(.seq (.ops [opO 2 (.mov (.c (.bool false)))] none)
.ret)
.skip))
(.seq (.seq (.ops [opO 3 (.mov (.c (.int .i64 0)))] none)
(.block 0 (.loop (.seq (.seq (.ops [mvO 14 3,
mvO 15 0,
opO 16 (.lenS (.t 15)),
opO 17 (.ibin .lss .i64 (.t 14) (.t 16))] (some [0, 3, 17]))
(.cond (.t 17)
.skip
(.exit 0)))
(.seq (.block 1 (.seq (.ops [mvO 20 0,
mvO 21 3,
opO 22 (.indexS (.t 20) (.t 21)),
mvO 4 22] (some [0, 3, 4]))
(.seq (.ops [mvO 23 4,
opO 24 (.ibin .geq .u8 (.t 23) (.c (.int .u8 97))),
mvO 25 24,
⟨(some 26), (some (25, true)), .mov (.t 4)⟩,
⟨(some 27), (some (25, true)), .ibin .leq .u8 (.t 26) (.c (.int .u8 122))⟩,
opO 28 (.pick (.t 25) (.t 27) (.c (.bool false))),
mvO 29 28,
⟨(some 30), (some (29, false)), .mov (.t 4)⟩,
⟨(some 31), (some (29, false)), .ibin .geq .u8 (.t 30) (.c (.int .u8 65))⟩,
⟨(some 32), (some (29, false)), .mov (.t 31)⟩,
⟨(some 33), (some (32, true)), .mov (.t 4)⟩,
⟨(some 34), (some (32, true)), .ibin .leq .u8 (.t 33) (.c (.int .u8 90))⟩,
⟨(some 35), (some (29, false)), .pick (.t 32) (.t 34) (.c (.bool false))⟩,
opO 36 (.pick (.t 29) (.c (.bool true)) (.t 35)),
mvO 5 36] (some [0, 3, 4, 5]))
(.seq (.ops [mvO 37 5,
opO 38 (.un .not (.t 37)),
mvO 39 38,
⟨(some 40), (some (39, true)), .mov (.t 3)⟩,
⟨(some 41), (some (39, true)), .ibin .eql .i64 (.t 40) (.c (.int .i64 0))⟩,
⟨(some 42), (some (39, true)), .mov (.t 41)⟩,
⟨(some 43), (some (42, false)), .mov (.t 4)⟩,
⟨(some 44), (some (42, false)), .ibin .neq .u8 (.t 43) (.c (.int .u8 45))⟩,
⟨(some 45), (some (42, false)), .mov (.t 44)⟩,
⟨(some 46), (some (45, true)), .mov (.t 4)⟩,
⟨(some 47), (some (45, true)), .ibin .lss .u8 (.t 46) (.c (.int .u8 48))⟩,
⟨(some 48), (some (45, true)), .mov (.t 47)⟩,
⟨(some 49), (some (48, false)), .mov (.t 4)⟩,
⟨(some 50), (some (48, false)), .ibin .gtr .u8 (.t 49) (.c (.int .u8 57))⟩,
⟨(some 51), (some (45, true)), .pick (.t 48) (.c (.bool true)) (.t 50)⟩,
⟨(some 52), (some (42, false)), .pick (.t 45) (.t 51) (.c (.bool false))⟩,
⟨(some 53), (some (39, true)), .pick (.t 42) (.c (.bool true)) (.t 52)⟩,
opO 54 (.pick (.t 39) (.t 53) (.c (.bool false)))] (some [0, 3, 54]))
(.cond (.t 54)
(.seq (.ops [opO 2 (.mov (.c (.bool false)))] none)
.ret)
.skip)))))
(.ops [mvO 18 3,
opO 19 (.ibin .add .i64 (.t 18) (.c (.int .i64 1))),
mvO 3 19] (some [0, 3])))))))
(.seq (.ops [opO 2 (.mov (.c (.bool true)))] none)
.ret))))⟩
/-- guidevane/guidevaneref09.find -/
def ir92 : IFn := ⟨20, [.t 4],
(.seq (.ops [opO 4 (.mov (.c (.int .i64 0)))] (some [0, 1]))
(.seq (.seq (.ops [opO 5 (.mov (.c (.int .i64 0)))] none)
(.block 0 (.loop (.seq (.seq (.ops [mvO 6 5,
mvO 7 0,
opO 8 (.lenV (.t 7)),
opO 9 (.ibin .lss .i64 (.t 6) (.t 8))] (some [0, 1, 5, 9]))
(.cond (.t 9)
.skip
(.exit 0)))
(.seq (.block 1 (.seq (.ops [mvO 12 0,
mvO 13 5,
opO 14 (.iaddr 2 (.t 12) (.t 13)),
opO 15 (.faddr 0 (.t 14)),
opO 16 (.load 1 false (.t 15)),
mvO 17 1,
opO 18 (.sbin .eql (.t 16) (.t 17))] (some [0, 1, 5, 18]))
(.cond (.t 18)
(.seq (.ops [mvO 19 5,
mvO 4 19] (some [4]))
.ret)
.skip)))
(.ops [mvO 10 5,
opO 11 (.ibin .add .i64 (.t 10) (.c (.int .i64 1))),
mvO 5 11] (some [0, 1, 5])))))))
(.seq (.ops [opO 4 (.mov (.c (.int .i64 (-1))))] none)
.ret)))⟩
/-- guidevane/dam.readingsErr -/
def ir93 : IFn := ⟨31, [.t 2],
(.seq (.ops [opO 2 (.mov (.c (.int .i64 0)))] (some [0]))
(.seq (.ops [mvO 5 0,
opO 6 (.lenV (.t 5)),
opO 7 (.ibin .gtr .i64 (.t 6) (.c (.int .i64 0))),
opO 8 (.call 64 [(.t 7), (.c (.int .i64 10))]),
mvO 9 0,
opO 10 (.lenV (.t 9)),
opO 11 (.ibin .leq .i64 (.t 10) (.c (.int .i64 12))),
opO 12 (.call 64 [(.t 11), (.c (.int .i64 8))]),
opO 13 (.bslice 2 1 [(.int .i64 0)] [(0, 1, (.t 8)), (1, 1, (.t 12))]),
opO 14 (.call 63 [(.t 13)]),
mvO 3 14] (some [0, 3]))
(.seq (.seq (.ops [opO 4 (.mov (.c (.int .i64 0)))] none)
(.block 0 (.loop (.seq (.seq (.ops [mvO 15 4,
mvO 16 0,
opO 17 (.lenV (.t 16)),
opO 18 (.ibin .lss .i64 (.t 15) (.t 17)),
mvO 19 18,
⟨(some 20), (some (19, true)), .mov (.t 3)⟩,
⟨(some 21), (some (19, true)), .ibin .eql .i64 (.t 20) (.c (.int .i64 0))⟩,
opO 22 (.pick (.t 19) (.t 21) (.c (.bool false)))] (some [0, 3, 4, 22]))
(.cond (.t 22)
.skip
(.exit 0)))
(.seq (.block 1 (.ops [mvO 25 0,
mvO 26 4,
opO 27 (.iaddr 3 (.t 25) (.t 26)),
opO 28 (.load 3 true (.t 27)),
opO 29 (.call 33 [(.t 28)]),
mvO 3 29] (some [0, 3, 4])))
(.ops [mvO 23 4,
opO 24 (.ibin .add .i64 (.t 23) (.c (.int .i64 1))),
mvO 4 24] (some [0, 3, 4])))))))
(.seq (.ops [mvO 30 3,
mvO 2 30] (some [2]))
.ret))))⟩
/-- (guidevane/dam.model).err -/
def ir94 : IFn := ⟨6, [.t 2],
(.seq (.ops [opO 2 (.mov (.c (.int .i64 0)))] (some [0]))
(.seq (.ops [mvO 3 0,
opO 4 (.call 65 [(.t 3), (.c (.int .i64 1)), (.c (.int .i64 31))]),
opO 5 (.call 64 [(.t 4), (.c (.int .i64 2))]),
mvO 2 5] (some [2]))
.ret))⟩
/-- (guidevane/dam.model).chosen -/
def ir95 : IFn := ⟨17, [.t 2],
(.seq (.ops [opO 2 (.mov (.c (.slice none 0 0)))] (some [0]))
(.seq (.ops [opO 3 (.mov (.c (.slice none 0 0)))] none)
(.seq (.seq (.ops [opO 5 (.mov (.c (.int .i64 0)))] none)
(.block 0 (.loop (.seq (.ops [opO 6 (.ibin .lss .i64 (.t 5) (.c (.int .i64 5)))] none)
(.seq (.cond (.t 6)
.skip
(.exit 0))
(.seq (.block 1 (.seq (.ops [mvO 7 5,
mvO 4 7] (some [0, 3, 4, 5]))
(.seq (.ops [mvO 8 0,
mvO 9 4,
opO 10 (.call 114 [(.t 8), (.t 9)])] (some [0, 3, 4, 5, 10]))
(.cond (.t 10)
(.ops [mvO 11 3,
mvO 12 4,
opO 13 (.bslice 1 1 [(.int .i64 0)] [(0, 1, (.t 12))]),
opO 14 (.append 1 8 (.t 11) (.t 13)),
mvO 3 14] (some [0, 3, 5]))
.skip))))
(.ops [opO 15 (.ibin .add .i64 (.t 5) (.c (.int .i64 1))),
mvO 5 15] (some [0, 3, 5]))))))))
(.seq (.ops [mvO 16 3,
mvO 2 16] (some [2]))
.ret))))⟩
/-- guidevane/dam.determinant -/
def ir96 (r : Nat → Code × Code) : IFn := ⟨36, [.t 2],
(.seq (.ops [opO 1 (.box (.t 0)),
opO 2 (.mov (.c (.int .i64 0)))] none)
(.seq (.ops [opO 3 (.alloc [(.int .i64 0)]),
⟨none, none, .store 1 (.t 3) (.c (.int .i64 0))⟩] none)
(.seq (.seq (.ops [opO 9 (.load 1 false (.t 1)),
opO 10 (.lenV (.t 9)),
opO 11 (.call 115 [(.t 10)])] none)
(.block 0 (.range 36 (.t 11) #[12, 13] (r 0).1 (r 0).2)))
(.seq (.ops [opO 35 (.load 1 false (.t 3)),
mvO 2 35] (some [2]))
.ret))))⟩
def ir96a0 : ICode :=
(.seq (.ops [mvO 4 12] none)
(.ops [mvO 5 13] none))
def ir96b0 : ICode :=
(.block 1 (.seq (.ops [mvO 14 5,
mvO 6 14] (some [1, 3, 4, 6]))
(.seq (.seq (.ops [mvO 15 4,
opO 16 (.lenV (.t 15)),
opO 17 (.mov (.c (.int .i64 0)))] (some [1, 3, 6, 15, 16, 17]))
(.block 2 (.loop (.seq (.ops [opO 18 (.ibin .lss .i64 (.t 17) (.t 16))] none)
(.seq (.cond (.t 18)
.skip
(.exit 2))
(.seq (.block 3 (.seq (.ops [mvO 19 17,
opO 20 (.iaddr 1 (.t 15) (.t 17)),
opO 21 (.load 1 false (.t 20)),
mvO 7 19,
mvO 8 21] (some [1, 3, 6, 7, 8, 15, 16, 17]))
(.ops [mvO 22 6,
opO 23 (.load 1 false (.t 1)),
mvO 24 7,
opO 25 (.iaddr 1 (.t 23) (.t 24)),
opO 26 (.load 1 false (.t 25)),
mvO 27 8,
opO 28 (.iaddr 1 (.t 26) (.t 27)),
opO 29 (.load 1 false (.t 28)),
opO 30 (.ibin .mul .i64 (.t 22) (.t 29)),
mvO 6 30] (some [1, 3, 6, 15, 16, 17]))))
(.ops [opO 31 (.ibin .add .i64 (.t 17) (.c (.int .i64 1))),
mvO 17 31] (some [1, 3, 6, 15, 16, 17]))))))))
(.ops [opO 32 (.load 1 false (.t 3)),
mvO 33 6,
opO 34 (.ibin .add .i64 (.t 32) (.t 33)),
⟨none, none, .store 1 (.t 3) (.t 34)⟩] (some [])))))
/-- guidevane/dam.divisor -/
def ir97 : IFn := ⟨22, [.t 2],
(.seq (.ops [opO 1 (.box (.t 0)),
opO 2 (.mov (.c (.int .i64 0)))] (some [1]))
(.seq (.ops [opO 6 (.faddr 0 (.t 1)),
opO 7 (.load 1 false (.t 6)),
mvO 3 7] (some [1, 3]))
(.seq (.seq (.ops [opO 8 (.faddr 1 (.t 1)),
opO 9 (.load 5 true (.t 8)),
opO 10 (.mov (.c (.int .i64 0)))] (some [3, 9, 10]))
(.block 0 (.loop (.seq (.ops [opO 11 (.ibin .lss .i64 (.t 10) (.c (.int .i64 5)))] none)
(.seq (.cond (.t 11)
.skip
(.exit 0))
(.seq (.block 1 (.seq (.ops [opO 12 (.indexA 5 1 false (.t 9) (.t 10)),
mvO 5 12] (some [3, 5, 9, 10]))
(.block 2 (.loop (.seq (.seq (.ops [mvO 13 5,
opO 14 (.ibin .neq .i64 (.t 13) (.c (.int .i64 0)))] (some [3, 5, 9, 10, 14]))
(.cond (.t 14)
.skip
(.exit 2)))
(.block 3 (.draw (.rd 0 (mvO 15 5)
(.rd 1 (mvO 16 3)
(.rd 2 (mvO 17 5)
(.rd 3 (opO 18 (.ibin .rem .i64 (.t 16) (.t 17)))
(.wr 4 (mvO 3 15) [0, 0, 1]
(.wr 5 (mvO 5 18) [3, 4, 0, 1, 2, 3, 4]
.fin .no) .no))))) (some [3, 5, 9, 10]))))))))
(.ops [opO 19 (.ibin .add .i64 (.t 10) (.c (.int .i64 1))),
mvO 10 19] (some [3, 9, 10]))))))))
(.seq (.ops [mvO 20 3,
opO 21 (.call 100 [(.t 20)]),
mvO 2 21] (some [2]))
.ret))))⟩
/-- guidevane/dam.fitErr -/
def ir98 : IFn := ⟨15, [.t 2],
(.seq (.ops [opO 1 (.box (.t 0)),
opO 2 (.mov (.c (.int .i64 0)))] (some [1]))
(.seq (.ops [opO 4 (.faddr 1 (.t 1)),
opO 5 (.sliceA 5 1 (.t 4) none none none),
opO 6 (.call 80 [(.t 5), (.f 116)]),
mvO 3 6] (some [1, 3]))
(.seq (.ops [opO 7 (.faddr 0 (.t 1)),
opO 8 (.load 1 false (.t 7)),
opO 9 (.call 65 [(.t 8), (.c (.int .i64 1)), (.c (.int .i64 1000000000000))]),
mvO 10 9,
⟨(some 11), (some (10, true)), .mov (.t 3)⟩,
⟨(some 12), (some (10, true)), .un .not (.t 11)⟩,
opO 13 (.pick (.t 10) (.t 12) (.c (.bool false))),
opO 14 (.call 64 [(.t 13), (.c (.int .i64 2))]),
mvO 2 14] (some [2]))
.ret)))⟩
/-- guidevane/dam.residuals -/
def ir99 : IFn := ⟨31, [.t 4],
(.seq (.ops [opO 3 (.box (.t 1)),
opO 4 (.mov (.c (.slice none 0 0)))] (some [0, 3]))
(.seq (.ops [opO 5 (.mov (.c (.slice none 0 0)))] none)
(.seq (.seq (.ops [mvO 8 0,
opO 9 (.lenV (.t 8)),
opO 10 (.mov (.c (.int .i64 0)))] (some [3, 5, 8, 9, 10]))
(.block 0 (.loop (.seq (.ops [opO 11 (.ibin .lss .i64 (.t 10) (.t 9))] none)
(.seq (.cond (.t 11)
.skip
(.exit 0))
(.seq (.block 1 (.seq (.ops [opO 12 (.iaddr 3 (.t 8) (.t 10)),
opO 13 (.load 3 true (.t 12)),
opO 7 (.alloc [(.int .i64 0), (.int .i64 0), (.int .i64 0)]),
⟨none, none, .store 3 (.t 7) (.t 13)⟩] (some [3, 5, 7, 8, 9, 10]))
(.draw (.rd 0 (mvO 14 5)
(.rd 1 (opO 15 (.faddr 0 (.t 3)))
(.rd 2 (opO 16 (.load 1 false (.t 15)))
(.rd 3 (opO 17 (.faddr 2 (.t 7)))
(.rd 4 (opO 18 (.load 1 false (.t 17)))
(.rd 5 (opO 19 (.ibin .mul .i64 (.t 16) (.t 18)))
(.rd 6 (opO 20 (.load 6 true (.t 3)))
(.rd 7 (opO 21 (.load 3 true (.t 7)))
(.rd 10 (opO 24 (.faddr 0 (.t 3)))
(.rd 11 (opO 25 (.load 1 false (.t 24)))
(.wr 8 (opO 22 (.call 102 [(.t 20), (.t 21)])) [6, 7]
(.rd 9 (opO 23 (.ibin .sub .i64 (.t 19) (.t 22)))
(.wr 12 (opO 26 (.call 101 [(.t 23), (.t 25)])) [9, 11, 8]
(.wr 13 (opO 27 (.bslice 1 2 [(.int .i64 0), (.int .i64 0)] [(0, 2, (.t 26))])) [12]
(.wr 14 (opO 28 (.append 2 16 (.t 14) (.t 27))) [0, 13, 12]
(.wr 15 (mvO 5 28) [14, 14, 0, 1, 2, 3, 4, 5, 6, 7, 8, 9, 10, 11, 12, 13, 14]
.fin .no) .no) .no) .no)) .no))))))))))) (some [3, 5, 8, 9, 10]))))
(.ops [opO 29 (.ibin .add .i64 (.t 10) (.c (.int .i64 1))),
mvO 10 29] (some [3, 5, 8, 9, 10]))))))))
(.seq (.ops [mvO 30 5,
mvO 4 30] (some [4]))
.ret))))⟩
/-- guidevane/dam.size -/
def ir100 : IFn := ⟨7, [.t 2],
(.seq (.ops [opO 2 (.mov (.c (.int .i64 0)))] (some [0]))
(.seq (.ops [mvO 3 0,
mvO 4 0,
opO 5 (.un .neg (.t 4)),
opO 6 (.minmax true (.t 3) [(.t 5)]),
mvO 2 6] (some [2]))
.ret))⟩
/-- guidevane/dam.rounded -/
def ir101 : IFn := ⟨27, [.cell 4 2 true],
(.seq (.ops [opO 4 (.alloc [(.int .i64 0), (.int .i64 0)])] none)
(.seq (.ops [mvO 7 0,
mvO 8 1,
opO 9 (.ibin .quo .i64 (.t 7) (.t 8)),
mvO 5 9] (some [0, 1, 4, 5]))
(.seq (.seq (.ops [mvO 10 0,
mvO 11 1,
opO 12 (.ibin .rem .i64 (.t 10) (.t 11)),
opO 13 (.ibin .lss .i64 (.t 12) (.c (.int .i64 0)))] (some [0, 1, 4, 5, 13]))
(.cond (.t 13)
(.ops [mvO 14 5,
opO 15 (.ibin .sub .i64 (.t 14) (.c (.int .i64 1))),
mvO 5 15] (some [0, 1, 4, 5]))
.skip))
(.seq (.ops [mvO 16 5,
mvO 6 16] (some [0, 1, 4, 5, 6]))
(.seq (.seq (.ops [mvO 17 5,
mvO 18 1,
opO 19 (.ibin .mul .i64 (.t 17) (.t 18)),
mvO 20 0,
opO 21 (.ibin .neq .i64 (.t 19) (.t 20))] (some [4, 5, 6, 21]))
(.cond (.t 21)
(.ops [mvO 22 6,
opO 23 (.ibin .add .i64 (.t 22) (.c (.int .i64 1))),
mvO 6 23] (some [4, 5, 6]))
.skip))
(.seq (.ops [mvO 24 5,
mvO 25 6,
opO 26 (.build [(.int .i64 0), (.int .i64 0)] [(0, 1, (.t 24)), (1, 1, (.t 25))]),
⟨none, none, .store 2 (.t 4) (.t 26)⟩] (some [4]))
.ret))))))⟩
/-- guidevane/dam.whole -/
def ir102 : IFn := ⟨9, [.t 4],
(.seq (.ops [opO 2 (.box (.t 0)),
opO 3 (.box (.t 1)),
opO 4 (.mov (.c (.int .i64 0)))] (some [2, 3]))
(.seq (.draw (.rd 0 (opO 5 (.load 6 true (.t 2)))
(.rd 1 (opO 6 (.load 3 true (.t 3)))
(.wr 2 (opO 7 (.call 95 [(.c (.int .i64 31))])) []
(.wr 3 (opO 8 (.call 117 [(.t 5), (.t 6), (.t 7)])) [0, 1, 2, 2]
(.rd 4 (mvO 4 8)
.fin) .no) .no))) (some [4]))
.ret))⟩
/-- slices.IndexFunc[[]guidevane/api.DamPerson,guidevane/api.DamPerson] -/
def ir110 : IFn := ⟨19, [.t 4],
(.seq (.ops [opO 4 (.mov (.c (.int .i64 0)))] (some [0, 1]))
(.seq (.seq (.ops [mvO 6 0,
opO 7 (.lenV (.t 6)),
opO 8 (.mov (.c (.int .i64 0)))] (some [0, 1, 7, 8]))
(.block 0 (.loop (.seq (.ops [opO 9 (.ibin .lss .i64 (.t 8) (.t 7))] none)
(.seq (.cond (.t 9)
.skip
(.exit 0))
(.seq (.block 1 (.seq (.ops [mvO 10 8,
mvO 5 10] (some [0, 1, 5, 7, 8]))
(.seq (.ops [mvO 11 1,
mvO 12 0,
mvO 13 5,
opO 14 (.iaddr 2 (.t 12) (.t 13)),
opO 15 (.load 2 true (.t 14)),
opO 16 (.callv (.t 11) [(.t 15)])] (some [0, 1, 5, 7, 8, 16]))
(.cond (.t 16)
(.seq (.ops [mvO 17 5,
mvO 4 17] (some [4]))
.ret)
.skip))))
(.ops [opO 18 (.ibin .add .i64 (.t 8) (.c (.int .i64 1))),
mvO 8 18] (some [0, 1, 7, 8]))))))))
(.seq (.ops [opO 4 (.mov (.c (.int .i64 (-1))))] none)
.ret)))⟩
/-- guidevane/dam.isLetter -/
def ir111 : IFn := ⟨11, [.t 2],
(.seq (.ops [opO 2 (.mov (.c (.bool false)))] (some [0]))
(.seq (.ops [mvO 3 0,
opO 4 (.conv .i64 (.t 3)),
opO 5 (.call 65 [(.t 4), (.c (.int .i64 97)), (.c (.int .i64 122))]),
mvO 6 5,
⟨(some 7), (some (6, false)), .mov (.t 0)⟩,
⟨(some 8), (some (6, false)), .conv .i64 (.t 7)⟩,
⟨(some 9), (some (6, false)), .call 65 [(.t 8), (.c (.int .i64 65)), (.c (.int .i64 90))]⟩,
opO 10 (.pick (.t 6) (.c (.bool true)) (.t 9)),
mvO 2 10] (some [2]))
.ret))⟩
/-- slices.BinarySearch[[]int,int] -/
def ir112 : IFn := ⟨54, [.t 4, .t 5],
(.seq (.ops [opO 4 (.mov (.c (.int .i64 0))),
opO 5 (.mov (.c (.bool false)))] (some [0, 1]))
(.seq (.ops [mvO 10 0,
opO 11 (.lenV (.t 10)),
mvO 6 11] (some [0, 1, 6]))
(.seq (.ops [mvO 12 6,
opO 7 (.mov (.c (.int .i64 0))),
mvO 8 12] (some [0, 1, 6, 7, 8]))
(.seq (.block 0 (.loop (.seq (.seq (.ops [mvO 13 7,
mvO 14 8,
opO 15 (.ibin .lss .i64 (.t 13) (.t 14))] (some [0, 1, 6, 7, 8, 15]))
(.cond (.t 15)
.skip
(.exit 0)))
(.block 1 (.seq (.ops [mvO 16 7,
mvO 17 8,
opO 18 (.ibin .add .i64 (.t 16) (.t 17)),
opO 19 (.conv .u64 (.t 18)),
opO 20 (.shift .shr .u64 (.t 19) (.c (.int .u64 1))),
opO 21 (.conv .i64 (.t 20)),
mvO 9 21] (some [0, 1, 6, 7, 8, 9]))
(.seq (.ops [mvO 22 0,
mvO 23 9,
opO 24 (.iaddr 1 (.t 22) (.t 23)),
opO 25 (.load 1 false (.t 24)),
mvO 26 1,
opO 27 (.call 122 [(.t 25), (.t 26)])] (some [0, 1, 6, 7, 8, 9, 27]))
(.cond (.t 27)
(.ops [mvO 28 9,
opO 29 (.ibin .add .i64 (.t 28) (.c (.int .i64 1))),
mvO 7 29] (some [0, 1, 6, 7, 8]))
(.ops [mvO 30 9,
mvO 8 30] (some [0, 1, 6, 7, 8])))))))))
(.seq (.ops [mvO 31 7,
mvO 32 7,
mvO 33 6,
opO 34 (.ibin .lss .i64 (.t 32) (.t 33)),
mvO 35 34,
⟨(some 36), (some (35, true)), .mov (.t 0)⟩,
⟨(some 37), (some (35, true)), .mov (.t 7)⟩,
⟨(some 38), (some (35, true)), .iaddr 1 (.t 36) (.t 37)⟩,
⟨(some 39), (some (35, true)), .load 1 false (.t 38)⟩,
⟨(some 40), (some (35, true)), .mov (.t 1)⟩,
⟨(some 41), (some (35, true)), .ibin .eql .i64 (.t 39) (.t 40)⟩,
⟨(some 42), (some (35, true)), .mov (.t 41)⟩,
⟨(some 43), (some (42, false)), .mov (.t 0)⟩,
⟨(some 44), (some (42, false)), .mov (.t 7)⟩,
⟨(some 45), (some (42, false)), .iaddr 1 (.t 43) (.t 44)⟩,
⟨(some 46), (some (42, false)), .load 1 false (.t 45)⟩,
⟨(some 47), (some (42, false)), .call 123 [(.t 46)]⟩,
⟨(some 48), (some (42, false)), .mov (.t 47)⟩,
⟨(some 49), (some (48, true)), .mov (.t 1)⟩,
⟨(some 50), (some (48, true)), .call 123 [(.t 49)]⟩,
⟨(some 51), (some (42, false)), .pick (.t 48) (.t 50) (.c (.bool false))⟩,
⟨(some 52), (some (35, true)), .pick (.t 42) (.c (.bool true)) (.t 51)⟩,
opO 53 (.pick (.t 35) (.t 52) (.c (.bool false))),
mvO 4 31,
mvO 5 53] (some [4, 5]))
.ret)))))⟩
/-- (guidevane/dam.rules).stateErr -/
def ir113 : IFn := ⟨36, [.t 4],
(.seq (.ops [opO 2 (.box (.t 0)),
opO 3 (.box (.t 1)),
opO 4 (.mov (.c (.int .i64 0)))] (some [2, 3]))
(.seq (.ops [opO 6 (.faddr 0 (.t 3)),
opO 7 (.load 1 false (.t 6)),
opO 8 (.faddr 0 (.t 2)),
opO 9 (.faddr 0 (.t 8)),
opO 10 (.load 1 false (.t 9)),
opO 11 (.lenV (.t 10)),
opO 12 (.call 65 [(.t 7), (.c (.int .i64 0)), (.t 11)]),
mvO 13 12,
⟨(some 14), (some (13, true)), .faddr 1 (.t 3)⟩,
⟨(some 15), (some (13, true)), .load 1 false (.t 14)⟩,
⟨(some 16), (some (13, true)), .call 65 [(.t 15), (.c (.int .i64 0)), (.c (.int .i64 1000000))]⟩,
opO 17 (.pick (.t 13) (.t 16) (.c (.bool false))),
mvO 18 17,
⟨(some 19), (some (18, true)), .faddr 2 (.t 3)⟩,
⟨(some 20), (some (18, true)), .load 1 false (.t 19)⟩,
⟨(some 21), (some (18, true)), .call 82 [(.t 20)]⟩,
opO 22 (.pick (.t 18) (.t 21) (.c (.bool false))),
mvO 5 22] (some [3, 5]))
(.seq (.draw (.rd 0 (mvO 23 5)
(.rd 2 (opO 25 (.faddr 0 (.t 3)))
(.rd 3 (opO 26 (.load 1 false (.t 25)))
(.rd 4 (opO 27 (.ibin .gtr .i64 (.t 26) (.c (.int .i64 0))))
(.wr 1 (opO 24 (.call 64 [(.t 23), (.c (.int .i64 2))])) [0]
(.rd 5 (mvO 28 27)
(.rd 6 ⟨(some 29), (some (28, false)), .faddr 1 (.t 3)⟩
(.rd 7 ⟨(some 30), (some (28, false)), .load 1 false (.t 29)⟩
(.rd 8 ⟨(some 31), (some (28, false)), .ibin .eql .i64 (.t 30) (.c (.int .i64 0))⟩
(.rd 9 (opO 32 (.pick (.t 28) (.c (.bool true)) (.t 31)))
(.wr 10 (opO 33 (.call 64 [(.t 32), (.c (.int .i64 13))])) [9, 5]
(.wr 11 (opO 34 (.bslice 2 1 [(.int .i64 0)] [(0, 1, (.t 24)), (1, 1, (.t 33))])) [1, 10]
(.wr 12 (opO 35 (.call 63 [(.t 34)])) [11, 10]
(.rd 13 (mvO 4 35)
.fin) .no) .no) .no)))))) .no))))) (some [4]))
.ret)))⟩
/-- (guidevane/dam.model).has -/
def ir114 : IFn := ⟨10, [.t 4],
(.seq (.ops [opO 4 (.mov (.c (.bool false)))] (some [0, 1]))
(.seq (.ops [mvO 5 0,
mvO 6 1,
opO 7 (.shift .shr .i64 (.t 5) (.t 6)),
opO 8 (.ibin .and .i64 (.t 7) (.c (.int .i64 1))),
opO 9 (.ibin .eql .i64 (.t 8) (.c (.int .i64 1))),
mvO 4 9] (some [4]))
.ret))⟩
/-- guidevane/dam.orders -/
def ir115 : IFn := ⟨4, [.t 2],
(.seq (.ops [opO 1 (.box (.t 0)),
opO 2 (.mov (.c .nilFunc))] (some [1]))
(.seq (.ops [opO 3 (.mkfunc 124 [] [(.t 1)]),
mvO 2 3] (some [2]))
.ret))⟩
/-- guidevane/dam.fitErr$1 -/
def ir116 : IFn := ⟨6, [.t 2],
(.seq (.ops [opO 2 (.mov (.c (.bool false)))] (some [0]))
(.seq (.ops [mvO 3 0,
opO 4 (.call 78 [(.t 3), (.c (.int .i64 1000000000000))]),
opO 5 (.un .not (.t 4)),
mvO 2 5] (some [2]))
.ret))⟩
/-- guidevane/dam.given -/
def ir117 : IFn := ⟨31, [.t 6],
(.seq (.ops [opO 3 (.box (.t 0)),
opO 4 (.box (.t 1)),
opO 6 (.mov (.c (.int .i64 0)))] (some [2, 3, 4]))
(.seq (.ops [opO 7 (.mov (.c (.int .i64 0)))] none)
(.seq (.ops [opO 11 (.load 3 true (.t 4)),
opO 12 (.call 77 [(.t 11)]),
opO 8 (.alloc (List.replicate 5 (.int .i64 0))),
⟨none, none, .store 5 (.t 8) (.t 12)⟩] (some [2, 3, 7, 8]))
(.seq (.seq (.ops [mvO 13 2,
opO 14 (.lenV (.t 13)),
opO 15 (.mov (.c (.int .i64 0)))] (some [3, 7, 8, 13, 14, 15]))
(.block 0 (.loop (.seq (.ops [opO 16 (.ibin .lss .i64 (.t 15) (.t 14))] none)
(.seq (.cond (.t 16)
.skip
(.exit 0))
(.seq (.block 1 (.seq (.ops [opO 17 (.iaddr 1 (.t 13) (.t 15)),
opO 18 (.load 1 false (.t 17)),
mvO 10 18] (some [3, 7, 8, 10, 13, 14, 15]))
(.draw (.rd 0 (mvO 19 7)
(.rd 1 (mvO 20 10)
(.rd 2 (opO 21 (.faddr 1 (.t 3)))
(.rd 3 (opO 22 (.iaddrA 5 1 (.t 21) (.t 20)))
(.rd 4 (opO 23 (.load 1 false (.t 22)))
(.rd 5 (mvO 24 10)
(.rd 6 (opO 25 (.iaddrA 5 1 (.t 8) (.t 24)))
(.rd 7 (opO 26 (.load 1 false (.t 25)))
(.rd 8 (opO 27 (.ibin .mul .i64 (.t 23) (.t 26)))
(.rd 9 (opO 28 (.ibin .add .i64 (.t 19) (.t 27)))
(.wr 10 (mvO 7 28) [9, 0, 1, 2, 3, 4, 5, 6, 7, 8, 9]
.fin .no))))))))))) (some [3, 7, 8, 13, 14, 15]))))
(.ops [opO 29 (.ibin .add .i64 (.t 15) (.c (.int .i64 1))),
mvO 15 29] (some [3, 7, 8, 13, 14, 15]))))))))
(.seq (.ops [mvO 30 7,
mvO 6 30] (some [6]))
.ret)))))⟩
/-- cmp.isNaN[int] -/
def ir121 : IFn := ⟨6, [.t 2],
(.seq (.ops [opO 2 (.mov (.c (.bool false)))] (some [0]))
(.seq (.ops [mvO 3 0,
mvO 4 0,
opO 5 (.ibin .neq .i64 (.t 3) (.t 4)),
mvO 2 5] (some [2]))
.ret))⟩
/-- cmp.Less[int] -/
def ir122 : IFn := ⟨17, [.t 4],
(.seq (.ops [opO 4 (.mov (.c (.bool false)))] (some [0, 1]))
(.seq (.ops [mvO 5 0,
opO 6 (.call 121 [(.t 5)]),
mvO 7 6,
⟨(some 8), (some (7, true)), .mov (.t 1)⟩,
⟨(some 9), (some (7, true)), .call 121 [(.t 8)]⟩,
⟨(some 10), (some (7, true)), .un .not (.t 9)⟩,
opO 11 (.pick (.t 7) (.t 10) (.c (.bool false))),
mvO 12 11,
⟨(some 13), (some (12, false)), .mov (.t 0)⟩,
⟨(some 14), (some (12, false)), .mov (.t 1)⟩,
⟨(some 15), (some (12, false)), .ibin .lss .i64 (.t 13) (.t 14)⟩,
opO 16 (.pick (.t 12) (.c (.bool true)) (.t 15)),
mvO 4 16] (some [4]))
.ret))⟩
/-- slices.isNaN[int] -/
def ir123 : IFn := ⟨6, [.t 2],
(.seq (.ops [opO 2 (.mov (.c (.bool false)))] (some [0]))
(.seq (.ops [mvO 3 0,
mvO 4 0,
opO 5 (.ibin .neq .i64 (.t 3) (.t 4)),
mvO 2 5] (some [2]))
.ret))⟩
/-- guidevane/dam.orders$1 -/
def ir124 : IFn := ⟨6, [],
(.ops [opO 3 (.load 1 false (.t 1)),
mvO 4 0,
opO 5 (.call 125 [(.c (.slice none 0 0)), (.t 3), (.c (.int .i64 1)), (.t 4)])] (some []))⟩
/-- guidevane/dam.ordered -/
def ir125 : IFn := ⟨38, [.t 8],
(.seq (.ops [opO 8 (.mov (.c (.bool false)))] (some [0, 1, 2, 3]))
(.seq (.seq (.ops [mvO 10 0,
opO 11 (.lenV (.t 10)),
mvO 12 1,
opO 13 (.ibin .eql .i64 (.t 11) (.t 12))] (some [0, 1, 2, 3, 13]))
(.cond (.t 13)
(.seq (.ops [mvO 14 3,
mvO 15 0,
mvO 16 2,
opO 17 (.callv (.t 14) [(.t 15), (.t 16)]),
mvO 8 17] (some [8]))
.ret)
.skip))
(.seq (.seq (.ops [mvO 18 1,
opO 19 (.mov (.c (.int .i64 0)))] none)
(.block 0 (.loop (.seq (.ops [opO 20 (.ibin .lss .i64 (.t 19) (.t 18))] none)
(.seq (.cond (.t 20)
.skip
(.exit 0))
(.seq (.block 1 (.seq (.ops [mvO 21 19,
mvO 9 21] (some [0, 1, 2, 3, 9, 18, 19]))
(.seq (.seq (.ops [mvO 22 0,
mvO 23 9,
opO 24 (.call 138 [(.t 22), (.t 23)])] (some [0, 1, 2, 3, 9, 18, 19, 24]))
(.cond (.t 24)
(.exit 1)
.skip))
(.seq (.seq (.ops [mvO 25 0,
opO 26 (.call 73 [(.t 25)]),
mvO 27 9,
opO 28 (.bslice 1 1 [(.int .i64 0)] [(0, 1, (.t 27))]),
opO 29 (.append 1 8 (.t 26) (.t 28)),
mvO 30 1,
mvO 31 2,
mvO 32 3,
opO 33 (.call 125 [(.t 29), (.t 30), (.t 31), (.t 32)]),
opO 34 (.un .not (.t 33))] (some [0, 1, 2, 3, 18, 19, 34]))
(.cond (.t 34)
(.seq (.ops [opO 8 (.mov (.c (.bool false)))] none)
.ret)
.skip))
(.ops [mvO 35 2,
opO 36 (.un .neg (.t 35)),
mvO 2 36] (some [0, 1, 2, 3, 18, 19]))))))
(.ops [opO 37 (.ibin .add .i64 (.t 19) (.c (.int .i64 1))),
mvO 19 37] (some [0, 1, 2, 3, 18, 19]))))))))
(.seq (.ops [opO 8 (.mov (.c (.bool true)))] none)
.ret))))⟩
/-- slices.Contains[[]int,int] -/
def ir138 : IFn := ⟨9, [.t 4],
(.seq (.ops [opO 4 (.mov (.c (.bool false)))] (some [0, 1]))
(.seq (.ops [mvO 5 0,
mvO 6 1,
opO 7 (.call 145 [(.t 5), (.t 6)]),
opO 8 (.ibin .geq .i64 (.t 7) (.c (.int .i64 0))),
mvO 4 8] (some [4]))
.ret))⟩
/-- slices.Index[[]int,int] -/
def ir145 : IFn := ⟨19, [.t 4],
(.seq (.ops [opO 4 (.mov (.c (.int .i64 0)))] (some [0, 1]))
(.seq (.seq (.ops [mvO 6 0,
opO 7 (.lenV (.t 6)),
opO 8 (.mov (.c (.int .i64 0)))] (some [0, 1, 7, 8]))
(.block 0 (.loop (.seq (.ops [opO 9 (.ibin .lss .i64 (.t 8) (.t 7))] none)
(.seq (.cond (.t 9)
.skip
(.exit 0))
(.seq (.block 1 (.seq (.ops [mvO 10 8,
mvO 5 10] (some [0, 1, 5, 7, 8]))
(.seq (.ops [mvO 11 1,
mvO 12 0,
mvO 13 5,
opO 14 (.iaddr 1 (.t 12) (.t 13)),
opO 15 (.load 1 false (.t 14)),
opO 16 (.ibin .eql .i64 (.t 11) (.t 15))] (some [0, 1, 5, 7, 8, 16]))
(.cond (.t 16)
(.seq (.ops [mvO 17 5,
mvO 4 17] (some [4]))
.ret)
.skip))))
(.ops [opO 18 (.ibin .add .i64 (.t 8) (.c (.int .i64 1))),
mvO 8 18] (some [0, 1, 7, 8]))))))))
(.seq (.ops [opO 4 (.mov (.c (.int .i64 (-1))))] none)
.ret)))⟩
/-- guidevane/dam.Lowered -/
def ir169 : IFn := ⟨88, [.cell 6 3 true, .t 7],
(.seq (.ops [opO 3 (.box (.t 0)),
opO 4 (.box (.t 1)),
opO 5 (.box (.t 2)),
opO 6 (.alloc [(.int .i64 0), (.int .i64 0), (.int .i64 0)]),
opO 7 (.mov (.c (.int .i64 0)))] (some [3, 4, 5, 6]))
(.seq (.ops [opO 14 (.load 4 true (.t 3)),
opO 15 (.load 3 true (.t 4)),
opO 16 (.call 90 [(.t 14), (.t 15)]),
mvO 13 16,
opO 17 (.extract 0 (.t 13)),
opO 18 (.extract 1 (.t 13)),
opO 8 (.alloc [(.slice none 0 0), (.slice none 0 0), (.int .i64 0), (.slice none 0 0)]),
⟨none, none, .store 4 (.t 8) (.t 17)⟩,
mvO 9 18] (some [4, 5, 6, 8, 9]))
(.seq (.seq (.ops [mvO 19 9,
opO 20 (.faddr 0 (.t 5)),
opO 21 (.load 1 false (.t 20)),
opO 22 (.call 88 [(.t 21)]),
opO 23 (.call 64 [(.t 22), (.c (.int .i64 4))]),
opO 24 (.bslice 2 1 [(.int .i64 0)] [(0, 1, (.t 19)), (1, 1, (.t 23))]),
opO 25 (.call 63 [(.t 24)]),
mvO 9 25] (some [4, 5, 6, 8, 9]))
(.seq (.ops [mvO 26 9,
opO 27 (.ibin .neq .i64 (.t 26) (.c (.int .i64 0)))] (some [4, 5, 6, 8, 9, 27]))
(.cond (.t 27)
(.seq (.ops [opO 28 (.build [(.int .i64 0), (.int .i64 0), (.int .i64 0)] []),
mvO 29 9,
⟨none, none, .store 3 (.t 6) (.t 28)⟩,
mvO 7 29] (some [6, 7]))
.ret)
.skip)))
(.seq (.ops [opO 30 (.faddr 0 (.t 8)),
opO 31 (.faddr 3 (.t 30)),
opO 32 (.load 1 false (.t 31)),
opO 33 (.mkfunc 185 [] [(.t 5)]),
opO 34 (.call 110 [(.t 32), (.t 33)]),
mvO 10 34] (some [4, 5, 6, 8, 10]))
(.seq (.seq (.ops [mvO 35 10,
opO 36 (.ibin .lss .i64 (.t 35) (.c (.int .i64 0)))] (some [4, 5, 6, 8, 10, 36]))
(.cond (.t 36)
(.seq (.ops [opO 37 (.build [(.int .i64 0), (.int .i64 0), (.int .i64 0)] []),
⟨none, none, .store 3 (.t 6) (.t 37)⟩,
opO 7 (.mov (.c (.int .i64 6)))] (some [6, 7]))
.ret)
.skip))
(.seq (.seq (.ops [opO 38 (.faddr 1 (.t 5)),
opO 39 (.load 1 false (.t 38)),
opO 40 (.faddr 0 (.t 4)),
opO 41 (.load 1 false (.t 40)),
opO 42 (.ibin .sub .i64 (.t 41) (.c (.int .i64 1))),
opO 43 (.call 65 [(.t 39), (.c (.int .i64 0)), (.t 42)]),
opO 44 (.un .not (.t 43))] (some [4, 5, 6, 8, 10, 44]))
(.cond (.t 44)
(.seq (.ops [opO 45 (.build [(.int .i64 0), (.int .i64 0), (.int .i64 0)] []),
⟨none, none, .store 3 (.t 6) (.t 45)⟩,
opO 7 (.mov (.c (.int .i64 2)))] (some [6, 7]))
.ret)
.skip))
(.seq (.draw (.rd 0 (opO 46 (.faddr 1 (.t 4)))
(.rd 1 (opO 47 (.load 1 false (.t 46)))
(.rd 2 (opO 48 (.faddr 0 (.t 8)))
(.rd 3 (opO 49 (.faddr 2 (.t 48)))
(.rd 4 (opO 50 (.load 1 false (.t 49)))
(.rd 5 (opO 51 (.ibin .geq .i64 (.t 47) (.t 50)))
(.rd 6 (mvO 52 51)
(.rd 7 ⟨(some 53), (some (52, true)), .faddr 2 (.t 4)⟩
(.rd 8 ⟨(some 54), (some (52, true)), .load 1 false (.t 53)⟩
(.rd 9 ⟨(some 55), (some (52, true)), .faddr 0 (.t 8)⟩
(.rd 10 ⟨(some 56), (some (52, true)), .faddr 1 (.t 55)⟩
(.rd 11 ⟨(some 57), (some (52, true)), .load 1 false (.t 56)⟩
(.rd 12 ⟨(some 58), (some (52, true)), .faddr 1 (.t 5)⟩
(.rd 13 ⟨(some 59), (some (52, true)), .load 1 false (.t 58)⟩
(.rd 14 ⟨(some 60), (some (52, true)), .iaddr 1 (.t 57) (.t 59)⟩
(.rd 15 ⟨(some 61), (some (52, true)), .load 1 false (.t 60)⟩
(.rd 16 ⟨(some 62), (some (52, true)), .ibin .lss .i64 (.t 54) (.t 61)⟩
(.rd 17 (opO 63 (.pick (.t 52) (.t 62) (.c (.bool false))))
(.rd 18 (mvO 11 63)
.fin))))))))))))))))))) (some [4, 5, 6, 8, 10, 11]))
(.seq (.seq (.draw (.rd 0 (opO 64 (.faddr 0 (.t 8)))
(.rd 1 (opO 65 (.faddr 3 (.t 64)))
(.rd 2 (opO 66 (.load 1 false (.t 65)))
(.rd 3 (mvO 67 10)
(.rd 4 (opO 68 (.iaddr 2 (.t 66) (.t 67)))
(.rd 5 (opO 69 (.faddr 1 (.t 68)))
(.rd 6 (opO 70 (.load 1 false (.t 69)))
(.rd 7 (opO 71 (.faddr 0 (.t 4)))
(.rd 8 (opO 72 (.load 1 false (.t 71)))
(.rd 9 (opO 73 (.ibin .geq .i64 (.t 70) (.t 72)))
(.rd 11 (mvO 75 11)
(.wr 10 (opO 74 (.call 64 [(.t 73), (.c (.int .i64 18))])) [9]
(.wr 12 (opO 76 (.call 64 [(.t 75), (.c (.int .i64 24))])) [11, 10]
(.wr 13 (opO 77 (.bslice 2 1 [(.int .i64 0)] [(0, 1, (.t 74)), (1, 1, (.t 76))])) [10, 12]
(.wr 14 (opO 78 (.call 63 [(.t 77)])) [13, 12]
(.rd 15 (mvO 12 78)
.fin) .no) .no) .no) .no)))))))))))) (some [4, 5, 6, 12]))
(.seq (.ops [mvO 79 12,
opO 80 (.ibin .neq .i64 (.t 79) (.c (.int .i64 0)))] (some [4, 5, 6, 12, 80]))
(.cond (.t 80)
(.seq (.ops [opO 81 (.build [(.int .i64 0), (.int .i64 0), (.int .i64 0)] []),
mvO 82 12,
⟨none, none, .store 3 (.t 6) (.t 81)⟩,
mvO 7 82] (some [6, 7]))
.ret)
.skip)))
(.seq (.ops [opO 83 (.faddr 1 (.t 5)),
opO 84 (.load 1 false (.t 83)),
opO 85 (.faddr 2 (.t 4)),
opO 86 (.load 1 false (.t 85)),
opO 87 (.build [(.int .i64 0), (.int .i64 0), (.int .i64 0)] [(0, 1, (.t 84)), (2, 1, (.t 86))]),
⟨none, none, .store 3 (.t 6) (.t 87)⟩,
opO 7 (.mov (.c (.int .i64 0)))] (some [6, 7]))
.ret)))))))))⟩
/-- guidevane/dam.Lowered$1 -/
def ir185 : IFn := ⟨9, [.t 3],
(.seq (.ops [opO 2 (.box (.t 0)),
opO 3 (.mov (.c (.bool false)))] (some [1, 2]))
(.seq (.ops [opO 4 (.faddr 0 (.t 2)),
opO 5 (.load 1 false (.t 4)),
opO 6 (.faddr 0 (.t 1)),
opO 7 (.load 1 false (.t 6)),
opO 8 (.sbin .eql (.t 5) (.t 7)),
mvO 3 8] (some [3]))
.ret))⟩
/-- guidevane/guidevanetop.TopDamNeverLower -/
def ir370 : IFn := ⟨260, [.t 6],
(.seq (.ops [opO 3 (.box (.t 0)),
opO 6 (.mov (.c (.bool false)))] (some [1, 2, 3]))
(.seq (.seq (.ops [opO 26 (.call 50 []),
opO 27 (.un .not (.t 26))] (some [1, 2, 3, 27]))
(.cond (.t 27)
(.seq (.ops [opO 6 (.mov (.c (.bool false)))] none)
.ret)
.skip))
(.seq (.seq (.ops [opO 28 (.faddr 0 (.t 3)),
opO 29 (.load 1 false (.t 28)),
opO 30 (.lenV (.t 29)),
opO 31 (.ibin .gtr .i64 (.t 30) (.c (.int .i64 5))),
mvO 32 31,
⟨(some 33), (some (32, false)), .faddr 3 (.t 3)⟩,
⟨(some 34), (some (32, false)), .load 1 false (.t 33)⟩,
⟨(some 35), (some (32, false)), .lenV (.t 34)⟩,
⟨(some 36), (some (32, false)), .ibin .gtr .i64 (.t 35) (.c (.int .i64 10))⟩,
opO 37 (.pick (.t 32) (.c (.bool true)) (.t 36)),
mvO 38 37,
⟨(some 39), (some (38, false)), .load 4 true (.t 3)⟩,
⟨(some 40), (some (38, false)), .call 39 [(.t 39)]⟩,
⟨(some 41), (some (38, false)), .ibin .neq .i64 (.t 40) (.c (.int .i64 0))⟩,
opO 42 (.pick (.t 38) (.c (.bool true)) (.t 41)),
mvO 43 42,
⟨(some 44), (some (43, false)), .mov (.t 1)⟩,
⟨(some 45), (some (43, false)), .lenV (.t 44)⟩,
⟨(some 46), (some (43, false)), .ibin .gtr .i64 (.t 45) (.c (.int .i64 12))⟩,
opO 47 (.pick (.t 43) (.c (.bool true)) (.t 46)),
mvO 48 47,
⟨(some 49), (some (48, false)), .mov (.t 1)⟩,
⟨(some 50), (some (48, false)), .lenV (.t 49)⟩,
⟨(some 51), (some (48, false)), .ibin .gtr .i64 (.t 50) (.c (.int .i64 0))⟩,
⟨(some 52), (some (48, false)), .mov (.t 51)⟩,
⟨(some 53), (some (52, true)), .mov (.t 1)⟩,
⟨(some 54), (some (52, true)), .call 51 [(.t 53)]⟩,
⟨(some 55), (some (52, true)), .ibin .neq .i64 (.t 54) (.c (.int .i64 0))⟩,
⟨(some 56), (some (48, false)), .pick (.t 52) (.t 55) (.c (.bool false))⟩,
opO 57 (.pick (.t 48) (.c (.bool true)) (.t 56)),
mvO 58 57,
⟨(some 59), (some (58, false)), .mov (.t 2)⟩,
⟨(some 60), (some (58, false)), .call 52 [(.t 59)]⟩,
⟨(some 61), (some (58, false)), .ibin .neq .i64 (.t 60) (.c (.int .i64 0))⟩,
opO 62 (.pick (.t 58) (.c (.bool true)) (.t 61))] (some [1, 2, 3, 62]))
(.cond (.t 62)
(.seq (.ops [opO 6 (.mov (.c (.bool true)))] none)
.ret)
.skip))
(.seq (.ops [opO 7 (.alloc [(.int .i64 0), (.int .i64 0), (.int .i64 0)])] none)
(.seq (.ops [opO 8 (.mov (.c (.int .i64 0)))] none)
(.seq (.seq (.ops [opO 9 (.mov (.c (.int .i64 0)))] none)
(.block 0 (.loop (.seq (.seq (.ops [mvO 63 9,
mvO 64 1,
opO 65 (.lenV (.t 64)),
opO 66 (.ibin .lss .i64 (.t 63) (.t 65))] (some [1, 2, 3, 7, 8, 9, 66]))
(.cond (.t 66)
.skip
(.exit 0)))
(.seq (.block 1 (.seq (.ops [mvO 70 1,
mvO 71 9,
opO 72 (.iaddr 3 (.t 70) (.t 71)),
opO 73 (.load 3 true (.t 72)),
opO 74 (.call 374 [(.t 73)]),
opO 75 (.call 373 [(.t 74)]),
mvO 69 75,
opO 76 (.extract 0 (.t 69)),
opO 77 (.extract 1 (.t 69)),
opO 10 (.alloc [(.int .i64 0), (.int .i64 0), (.int .i64 0)]),
⟨none, none, .store 3 (.t 10) (.t 76)⟩,
mvO 11 77] (some [1, 2, 3, 7, 8, 9, 10, 11]))
(.seq (.seq (.draw (.rd 0 (mvO 78 11)
(.rd 1 (opO 79 (.ibin .neq .i64 (.t 78) (.c (.int .i64 0))))
(.rd 2 (mvO 80 79)
(.rd 3 ⟨(some 81), (some (80, false)), .load 3 true (.t 10)⟩
(.rd 4 ⟨(some 82), (some (80, false)), .mov (.t 1)⟩
(.rd 5 ⟨(some 83), (some (80, false)), .mov (.t 9)⟩
(.rd 6 ⟨(some 84), (some (80, false)), .iaddr 3 (.t 82) (.t 83)⟩
(.rd 7 ⟨(some 85), (some (80, false)), .load 3 true (.t 84)⟩
(.rd 8 ⟨(some 86), (some (80, false)), .eqv (.fld 0 1 (.int .i64) (.fld 1 1 (.int .i64) (.fld 2 1 (.int .i64) .nil))) true (.t 81) (.t 85)⟩
(.rd 9 (opO 87 (.pick (.t 80) (.c (.bool true)) (.t 86)))
.fin)))))))))) (some [1, 2, 3, 7, 8, 9, 10, 87]))
(.cond (.t 87)
(.seq (.ops [opO 6 (.mov (.c (.bool false)))] none)
.ret)
.skip))
(.seq (.ops [mvO 89 1,
mvO 90 9,
opO 91 (.sliceV 3 (.t 89) none (some (.t 90)) none),
opO 92 (.call 53 [(.t 91)]),
mvO 93 2,
opO 94 (.call 55 [(.t 92), (.t 93)]),
mvO 88 94,
opO 95 (.extract 0 (.t 88)),
opO 96 (.extract 1 (.t 88)),
opO 12 (.alloc (List.replicate 6 (.int .i64 0))),
⟨none, none, .store 6 (.t 12) (.t 95)⟩,
mvO 13 96] (some [1, 2, 3, 7, 8, 9, 10, 12, 13]))
(.seq (.seq (.ops [mvO 97 13,
opO 98 (.ibin .neq .i64 (.t 97) (.c (.int .i64 0)))] (some [1, 2, 3, 7, 8, 9, 10, 12, 13, 98]))
(.cond (.t 98)
(.seq (.seq (.ops [mvO 99 13,
opO 100 (.ibin .neq .i64 (.t 99) (.c (.int .i64 10))),
mvO 101 100,
⟨(some 102), (some (101, true)), .mov (.t 13)⟩,
⟨(some 103), (some (101, true)), .ibin .neq .i64 (.t 102) (.c (.int .i64 12))⟩,
opO 104 (.pick (.t 101) (.t 103) (.c (.bool false))),
mvO 105 104,
⟨(some 106), (some (105, true)), .mov (.t 13)⟩,
⟨(some 107), (some (105, true)), .ibin .neq .i64 (.t 106) (.c (.int .i64 8))⟩,
opO 108 (.pick (.t 105) (.t 107) (.c (.bool false))),
mvO 109 108,
⟨(some 110), (some (109, false)), .mov (.t 13)⟩,
⟨(some 111), (some (109, false)), .ibin .eql .i64 (.t 110) (.c (.int .i64 10))⟩,
⟨(some 112), (some (109, false)), .mov (.t 9)⟩,
⟨(some 113), (some (109, false)), .ibin .eql .i64 (.t 112) (.c (.int .i64 0))⟩,
⟨(some 114), (some (109, false)), .bbin true (.t 111) (.t 113)⟩,
opO 115 (.pick (.t 109) (.c (.bool true)) (.t 114))] (some [1, 2, 3, 7, 8, 9, 115]))
(.cond (.t 115)
(.seq (.ops [opO 6 (.mov (.c (.bool false)))] none)
.ret)
.skip))
(.exit 1))
.skip))
(.seq (.draw (.rd 0 (mvO 117 1)
(.rd 1 (mvO 118 9)
(.rd 2 (opO 119 (.sliceV 3 (.t 117) none (some (.t 118)) none))
(.rd 4 (opO 121 (.load 6 true (.t 12)))
(.rd 5 (opO 122 (.load 3 true (.t 10)))
(.wr 3 (opO 120 (.call 53 [(.t 119)])) [2]
(.wr 6 (opO 123 (.call 59 [(.t 120), (.t 121), (.t 122)])) [3, 4, 5, 3]
(.rd 7 (mvO 116 123)
(.rd 8 (opO 124 (.extract 0 (.t 116)))
(.rd 9 (opO 125 (.extract 1 (.t 116)))
(.wr 10 (opO 14 (.alloc [(.int .i64 0), (.int .i64 0)])) []
(.wr 11 ⟨none, none, .store 2 (.t 14) (.t 124)⟩ [10, 8, 6, 0, 1, 2, 3, 4, 5, 6, 7, 8, 10]
(.rd 12 (mvO 15 125)
.fin) .no) .no))))
(.wr 10 (opO 14 (.alloc [(.int .i64 0), (.int .i64 0)])) []
(.wr 6 (opO 123 (.call 59 [(.t 120), (.t 121), (.t 122)])) [3, 4, 5, 3]
(.rd 7 (mvO 116 123)
(.rd 8 (opO 124 (.extract 0 (.t 116)))
(.rd 9 (opO 125 (.extract 1 (.t 116)))
(.wr 11 ⟨none, none, .store 2 (.t 14) (.t 124)⟩ [10, 8, 6, 0, 1, 2, 3, 4, 5, 6, 7, 8, 10]
(.rd 12 (mvO 15 125)
.fin) .no)))) .no) .no))
(.wr 10 (opO 14 (.alloc [(.int .i64 0), (.int .i64 0)])) []
(.wr 3 (opO 120 (.call 53 [(.t 119)])) [2]
(.wr 6 (opO 123 (.call 59 [(.t 120), (.t 121), (.t 122)])) [3, 4, 5, 3]
(.rd 7 (mvO 116 123)
(.rd 8 (opO 124 (.extract 0 (.t 116)))
(.rd 9 (opO 125 (.extract 1 (.t 116)))
(.wr 11 ⟨none, none, .store 2 (.t 14) (.t 124)⟩ [10, 8, 6, 0, 1, 2, 3, 4, 5, 6, 7, 8, 10]
(.rd 12 (mvO 15 125)
.fin) .no)))) .no) .no) .no))))))) (some [1, 2, 3, 7, 8, 9, 10, 14, 15]))
(.seq (.seq (.ops [mvO 126 15,
opO 127 (.ibin .neq .i64 (.t 126) (.c (.int .i64 0)))] (some [1, 2, 3, 7, 8, 9, 10, 14, 127]))
(.cond (.t 127)
(.seq (.ops [opO 6 (.mov (.c (.bool false)))] none)
.ret)
.skip))
(.seq (.ops [opO 129 (.load 2 true (.t 14)),
opO 130 (.faddr 2 (.t 10)),
opO 131 (.load 1 false (.t 130)),
opO 132 (.call 42 [(.t 129), (.t 131)]),
mvO 128 132,
opO 133 (.extract 0 (.t 128)),
opO 134 (.extract 1 (.t 128)),
mvO 16 133,
mvO 17 134] (some [1, 2, 3, 7, 8, 9, 10, 14, 16, 17]))
(.seq (.seq (.ops [mvO 135 17,
opO 136 (.ibin .neq .i64 (.t 135) (.c (.int .i64 0)))] (some [1, 2, 3, 7, 8, 9, 10, 14, 16, 17, 136]))
(.cond (.t 136)
(.seq (.seq (.ops [mvO 137 17,
opO 138 (.ibin .neq .i64 (.t 137) (.c (.int .i64 2))),
mvO 139 138,
⟨(some 140), (some (139, false)), .faddr 0 (.t 14)⟩,
⟨(some 141), (some (139, false)), .load 1 false (.t 140)⟩,
⟨(some 142), (some (139, false)), .call 15 [(.t 141), (.c (.int .i64 (-1000000))), (.c (.int .i64 1000000))]⟩,
⟨(some 143), (some (139, false)), .mov (.t 142)⟩,
⟨(some 144), (some (143, true)), .faddr 1 (.t 14)⟩,
⟨(some 145), (some (143, true)), .load 1 false (.t 144)⟩,
⟨(some 146), (some (143, true)), .call 15 [(.t 145), (.c (.int .i64 (-1000000))), (.c (.int .i64 1000000))]⟩,
⟨(some 147), (some (139, false)), .pick (.t 143) (.t 146) (.c (.bool false))⟩,
opO 148 (.pick (.t 139) (.c (.bool true)) (.t 147))] (some [1, 2, 3, 7, 8, 9, 148]))
(.cond (.t 148)
(.seq (.ops [opO 6 (.mov (.c (.bool false)))] none)
.ret)
.skip))
(.exit 1))
.skip))
(.seq (.ops [opO 149 (.faddr 2 (.t 10)),
opO 150 (.load 1 false (.t 149)),
opO 151 (.faddr 0 (.t 14)),
opO 152 (.load 1 false (.t 151)),
opO 153 (.faddr 1 (.t 14)),
opO 154 (.load 1 false (.t 153)),
opO 155 (.call 15 [(.t 150), (.t 152), (.t 154)]),
mvO 18 155] (some [1, 2, 3, 7, 8, 9, 16, 18]))
(.seq (.seq (.ops [mvO 156 18,
mvO 157 16,
opO 158 (.ibin .eql .i64 (.t 157) (.c (.int .i64 0))),
opO 159 (.bbin true (.t 156) (.t 158)),
mvO 160 159,
⟨(some 161), (some (160, false)), .mov (.t 16)⟩,
⟨(some 162), (some (160, false)), .call 15 [(.t 161), (.c (.int .i64 0)), (.c (.int .i64 2000000))]⟩,
⟨(some 163), (some (160, false)), .un .not (.t 162)⟩,
opO 164 (.pick (.t 160) (.c (.bool true)) (.t 163))] (some [1, 2, 3, 7, 8, 9, 16, 18, 164]))
(.cond (.t 164)
(.seq (.ops [opO 6 (.mov (.c (.bool false)))] none)
.ret)
.skip))
(.seq (.seq (.ops [mvO 165 16,
opO 166 (.ibin .gtr .i64 (.t 165) (.c (.int .i64 1000000)))] (some [1, 2, 3, 7, 8, 9, 16, 18, 166]))
(.cond (.t 166)
(.exit 1)
.skip))
(.seq (.ops [opO 168 (.load 4 true (.t 3)),
opO 169 (.call 37 [(.t 168)]),
mvO 170 16,
opO 171 (.call 44 [(.t 169), (.t 170)]),
mvO 167 171,
opO 172 (.extract 0 (.t 167)),
opO 173 (.extract 1 (.t 167)),
mvO 19 172,
mvO 20 173] (some [1, 2, 3, 7, 8, 9, 16, 18, 19, 20]))
(.seq (.draw (.rd 0 (opO 175 (.load 4 true (.t 3)))
(.rd 2 (opO 177 (.load 3 true (.t 7)))
(.rd 3 (mvO 178 16)
(.wr 1 (opO 176 (.call 37 [(.t 175)])) [0]
(.wr 4 (opO 179 (.call 45 [(.t 176), (.t 177), (.t 178)])) [1, 2, 3, 1]
(.rd 5 (mvO 174 179)
(.rd 6 (opO 180 (.extract 0 (.t 174)))
(.rd 7 (opO 181 (.extract 1 (.t 174)))
(.wr 8 (opO 21 (.alloc [(.int .i64 0), (.int .i64 0), (.int .i64 0)])) []
(.wr 9 ⟨none, none, .store 3 (.t 21) (.t 180)⟩ [8, 6, 4, 0, 1, 2, 3, 4, 5, 6, 8]
(.rd 10 (mvO 22 181)
.fin) .no) .no))))
(.wr 8 (opO 21 (.alloc [(.int .i64 0), (.int .i64 0), (.int .i64 0)])) []
(.wr 4 (opO 179 (.call 45 [(.t 176), (.t 177), (.t 178)])) [1, 2, 3, 1]
(.rd 5 (mvO 174 179)
(.rd 6 (opO 180 (.extract 0 (.t 174)))
(.rd 7 (opO 181 (.extract 1 (.t 174)))
(.wr 9 ⟨none, none, .store 3 (.t 21) (.t 180)⟩ [8, 6, 4, 0, 1, 2, 3, 4, 5, 6, 8]
(.rd 10 (mvO 22 181)
.fin) .no)))) .no) .no))
(.wr 8 (opO 21 (.alloc [(.int .i64 0), (.int .i64 0), (.int .i64 0)])) []
(.wr 1 (opO 176 (.call 37 [(.t 175)])) [0]
(.wr 4 (opO 179 (.call 45 [(.t 176), (.t 177), (.t 178)])) [1, 2, 3, 1]
(.rd 5 (mvO 174 179)
(.rd 6 (opO 180 (.extract 0 (.t 174)))
(.rd 7 (opO 181 (.extract 1 (.t 174)))
(.wr 9 ⟨none, none, .store 3 (.t 21) (.t 180)⟩ [8, 6, 4, 0, 1, 2, 3, 4, 5, 6, 8]
(.rd 10 (mvO 22 181)
.fin) .no)))) .no) .no) .no))))) (some [1, 2, 3, 7, 8, 9, 16, 18, 19, 20, 21, 22]))
(.seq (.seq (.ops [mvO 182 20,
opO 183 (.ibin .neq .i64 (.t 182) (.c (.int .i64 0))),
mvO 184 183,
⟨(some 185), (some (184, false)), .mov (.t 22)⟩,
⟨(some 186), (some (184, false)), .ibin .neq .i64 (.t 185) (.c (.int .i64 0))⟩,
opO 187 (.pick (.t 184) (.c (.bool true)) (.t 186)),
mvO 188 187,
⟨(some 189), (some (188, false)), .mov (.t 19)⟩,
⟨(some 190), (some (188, false)), .faddr 0 (.t 3)⟩,
⟨(some 191), (some (188, false)), .load 1 false (.t 190)⟩,
⟨(some 192), (some (188, false)), .lenV (.t 191)⟩,
⟨(some 193), (some (188, false)), .call 15 [(.t 189), (.c (.int .i64 0)), (.t 192)]⟩,
⟨(some 194), (some (188, false)), .un .not (.t 193)⟩,
opO 195 (.pick (.t 188) (.c (.bool true)) (.t 194))] (some [1, 2, 3, 7, 8, 9, 16, 18, 19, 21, 195]))
(.cond (.t 195)
(.seq (.ops [opO 6 (.mov (.c (.bool false)))] none)
.ret)
.skip))
(.seq (.ops [mvO 196 8,
mvO 197 19,
opO 198 (.minmax true (.t 196) [(.t 197)]),
mvO 8 198] (some [1, 2, 3, 7, 8, 9, 16, 18, 19, 21]))
(.seq (.seq (.ops [opO 199 (.faddr 0 (.t 21)),
opO 200 (.load 1 false (.t 199)),
mvO 201 8,
opO 202 (.ibin .neq .i64 (.t 200) (.t 201)),
mvO 203 202,
⟨(some 204), (some (203, false)), .mov (.t 18)⟩,
⟨(some 205), (some (203, false)), .mov (.t 204)⟩,
⟨(some 206), (some (205, true)), .faddr 0 (.t 21)⟩,
⟨(some 207), (some (205, true)), .load 1 false (.t 206)⟩,
⟨(some 208), (some (205, true)), .faddr 0 (.t 7)⟩,
⟨(some 209), (some (205, true)), .load 1 false (.t 208)⟩,
⟨(some 210), (some (205, true)), .ibin .neq .i64 (.t 207) (.t 209)⟩,
⟨(some 211), (some (203, false)), .pick (.t 205) (.t 210) (.c (.bool false))⟩,
opO 212 (.pick (.t 203) (.c (.bool true)) (.t 211)),
mvO 213 212,
⟨(some 214), (some (213, false)), .faddr 2 (.t 21)⟩,
⟨(some 215), (some (213, false)), .load 1 false (.t 214)⟩,
⟨(some 216), (some (213, false)), .mov (.t 16)⟩,
⟨(some 217), (some (213, false)), .ibin .neq .i64 (.t 215) (.t 216)⟩,
opO 218 (.pick (.t 213) (.c (.bool true)) (.t 217))] (some [1, 2, 3, 7, 8, 9, 19, 21, 218]))
(.cond (.t 218)
(.seq (.ops [opO 6 (.mov (.c (.bool false)))] none)
.ret)
.skip))
(.seq (.ops [opO 219 (.load 3 true (.t 21)),
⟨none, none, .store 3 (.t 7) (.t 219)⟩] (some [1, 2, 3, 7, 8, 9, 19]))
(.seq (.ops [opO 23 (.mov (.c (.int .i64 0)))] none)
(.block 2 (.loop (.seq (.seq (.ops [mvO 220 23,
opO 221 (.faddr 3 (.t 3)),
opO 222 (.load 1 false (.t 221)),
opO 223 (.lenV (.t 222)),
opO 224 (.ibin .lss .i64 (.t 220) (.t 223)),
mvO 225 224,
⟨(some 226), (some (225, true)), .mov (.t 19)⟩,
⟨(some 227), (some (225, true)), .ibin .gtr .i64 (.t 226) (.c (.int .i64 0))⟩,
opO 228 (.pick (.t 225) (.t 227) (.c (.bool false))),
mvO 229 228,
⟨(some 230), (some (229, true)), .mov (.t 19)⟩,
⟨(some 231), (some (229, true)), .faddr 0 (.t 7)⟩,
⟨(some 232), (some (229, true)), .load 1 false (.t 231)⟩,
⟨(some 233), (some (229, true)), .ibin .eql .i64 (.t 230) (.t 232)⟩,
opO 234 (.pick (.t 229) (.t 233) (.c (.bool false)))] (some [1, 2, 3, 7, 8, 9, 19, 23, 234]))
(.cond (.t 234)
.skip
(.exit 2)))
(.seq (.block 3 (.seq (.draw (.rd 0 (opO 238 (.load 4 true (.t 3)))
(.rd 2 (opO 240 (.load 3 true (.t 7)))
(.rd 3 (opO 241 (.faddr 3 (.t 3)))
(.rd 4 (opO 242 (.load 1 false (.t 241)))
(.rd 5 (mvO 243 23)
(.rd 6 (opO 244 (.iaddr 2 (.t 242) (.t 243)))
(.rd 7 (opO 245 (.faddr 0 (.t 244)))
(.rd 8 (opO 246 (.load 1 false (.t 245)))
(.rd 9 (opO 247 (.faddr 0 (.t 7)))
(.rd 10 (opO 248 (.load 1 false (.t 247)))
(.rd 11 (opO 249 (.ibin .sub .i64 (.t 248) (.c (.int .i64 1))))
(.rd 12 (opO 250 (.build [(.string ⟨#[]⟩), (.int .i64 0)] [(0, 1, (.t 246)), (1, 1, (.t 249))]))
(.wr 1 (opO 239 (.call 37 [(.t 238)])) [0]
(.wr 13 (opO 251 (.call 169 [(.t 239), (.t 240), (.t 250)])) [1, 2, 12, 1]
(.rd 14 (mvO 237 251)
(.rd 15 (opO 252 (.extract 0 (.t 237)))
(.rd 16 (opO 253 (.extract 1 (.t 237)))
(.wr 17 (opO 24 (.alloc [(.int .i64 0), (.int .i64 0), (.int .i64 0)])) []
(.wr 18 ⟨none, none, .store 3 (.t 24) (.t 252)⟩ [17, 15, 13, 0, 1, 2, 3, 4, 5, 6, 7, 8, 9, 10, 11, 12, 13, 14, 15, 17]
(.rd 19 (mvO 25 253)
.fin) .no) .no))))
(.wr 17 (opO 24 (.alloc [(.int .i64 0), (.int .i64 0), (.int .i64 0)])) []
(.wr 13 (opO 251 (.call 169 [(.t 239), (.t 240), (.t 250)])) [1, 2, 12, 1]
(.rd 14 (mvO 237 251)
(.rd 15 (opO 252 (.extract 0 (.t 237)))
(.rd 16 (opO 253 (.extract 1 (.t 237)))
(.wr 18 ⟨none, none, .store 3 (.t 24) (.t 252)⟩ [17, 15, 13, 0, 1, 2, 3, 4, 5, 6, 7, 8, 9, 10, 11, 12, 13, 14, 15, 17]
(.rd 19 (mvO 25 253)
.fin) .no)))) .no) .no))
(.wr 17 (opO 24 (.alloc [(.int .i64 0), (.int .i64 0), (.int .i64 0)])) []
(.wr 1 (opO 239 (.call 37 [(.t 238)])) [0]
(.wr 13 (opO 251 (.call 169 [(.t 239), (.t 240), (.t 250)])) [1, 2, 12, 1]
(.rd 14 (mvO 237 251)
(.rd 15 (opO 252 (.extract 0 (.t 237)))
(.rd 16 (opO 253 (.extract 1 (.t 237)))
(.wr 18 ⟨none, none, .store 3 (.t 24) (.t 252)⟩ [17, 15, 13, 0, 1, 2, 3, 4, 5, 6, 7, 8, 9, 10, 11, 12, 13, 14, 15, 17]
(.rd 19 (mvO 25 253)
.fin) .no)))) .no) .no) .no)))))))))))))) (some [1, 2, 3, 7, 8, 9, 19, 23, 25]))
(.seq (.ops [mvO 254 25,
opO 255 (.ibin .neq .i64 (.t 254) (.c (.int .i64 24))),
mvO 256 255,
⟨(some 257), (some (256, true)), .mov (.t 25)⟩,
⟨(some 258), (some (256, true)), .ibin .neq .i64 (.t 257) (.c (.int .i64 18))⟩,
opO 259 (.pick (.t 256) (.t 258) (.c (.bool false)))] (some [1, 2, 3, 7, 8, 9, 19, 23, 259]))
(.cond (.t 259)
(.seq (.ops [opO 6 (.mov (.c (.bool false)))] none)
.ret)
.skip))))
(.ops [mvO 235 23,
opO 236 (.ibin .add .i64 (.t 235) (.c (.int .i64 1))),
mvO 23 236] (some [1, 2, 3, 7, 8, 9, 19, 23])))))))))))))))))))))))))
(.ops [mvO 67 9,
opO 68 (.ibin .add .i64 (.t 67) (.c (.int .i64 1))),
mvO 9 68] (some [1, 2, 3, 7, 8, 9])))))))
(.seq (.ops [opO 6 (.mov (.c (.bool true)))] none)
.ret)))))))⟩
/-- guidevane/dam.ParseReading -/
def ir373 : IFn := ⟨51, [.cell 2 3 true, .t 3],
(.seq (.ops [opO 2 (.alloc [(.int .i64 0), (.int .i64 0), (.int .i64 0)]),
opO 3 (.mov (.c (.int .i64 0)))] (some [0, 2]))
(.seq (.ops [opO 4 (.alloc [(.int .i64 0), (.int .i64 0), (.int .i64 0)])] none)
(.seq (.ops [opO 12 (.faddr 0 (.t 4)),
opO 13 (.faddr 1 (.t 4)),
opO 14 (.faddr 2 (.t 4)),
opO 15 (.build [(.pointer none), (.pointer none), (.pointer none)] [(0, 1, (.t 12)), (1, 1, (.t 13)), (2, 1, (.t 14))]),
opO 5 (.alloc [(.pointer none), (.pointer none), (.pointer none)]),
⟨none, none, .store 3 (.t 5) (.t 15)⟩] (some [0, 2, 4, 5]))
(.seq (.ops [mvO 16 0,
opO 17 (.call 382 [(.t 16), (.c (.string ⟨#[32]⟩))]),
mvO 6 17] (some [2, 4, 5, 6]))
(.seq (.seq (.ops [mvO 18 6,
opO 19 (.lenV (.t 18)),
opO 20 (.ibin .neq .i64 (.t 19) (.c (.int .i64 3)))] (some [2, 4, 5, 6, 20]))
(.cond (.t 20)
(.seq (.ops [opO 21 (.build [(.int .i64 0), (.int .i64 0), (.int .i64 0)] []),
⟨none, none, .store 3 (.t 2) (.t 21)⟩,
opO 3 (.mov (.c (.int .i64 7)))] (some [2, 3]))
.ret)
.skip))
(.seq (.seq (.ops [opO 22 (.load 3 true (.t 5)),
opO 23 (.mov (.c (.int .i64 0)))] (some [2, 4, 6, 22, 23]))
(.block 0 (.loop (.seq (.ops [opO 24 (.ibin .lss .i64 (.t 23) (.c (.int .i64 3)))] none)
(.seq (.cond (.t 24)
.skip
(.exit 0))
(.seq (.block 1 (.seq (.ops [mvO 25 23,
opO 26 (.indexA 3 1 false (.t 22) (.t 23)),
mvO 7 25,
mvO 8 26] (some [2, 4, 6, 7, 8, 22, 23]))
(.seq (.ops [mvO 28 6,
mvO 29 7,
opO 30 (.iaddr 1 (.t 28) (.t 29)),
opO 31 (.load 1 false (.t 30)),
mvO 32 7,
opO 33 (.ibin .gtr .i64 (.t 32) (.c (.int .i64 0))),
opO 34 (.call 383 [(.t 31), (.c (.int .i64 5)), (.t 33)]),
mvO 27 34,
opO 35 (.extract 0 (.t 27)),
opO 36 (.extract 1 (.t 27)),
mvO 9 35,
mvO 10 36] (some [2, 4, 6, 8, 9, 10, 22, 23]))
(.seq (.seq (.ops [mvO 37 10,
opO 38 (.un .not (.t 37))] (some [2, 4, 6, 8, 9, 22, 23, 38]))
(.cond (.t 38)
(.seq (.ops [opO 39 (.build [(.int .i64 0), (.int .i64 0), (.int .i64 0)] []),
⟨none, none, .store 3 (.t 2) (.t 39)⟩,
opO 3 (.mov (.c (.int .i64 7)))] (some [2, 3]))
.ret)
.skip))
(.ops [mvO 40 8,
mvO 41 9,
opO 42 (.nilchk (.t 40)),
⟨none, none, .store 1 (.t 42) (.t 41)⟩] (some [2, 4, 6, 22, 23]))))))
(.ops [opO 43 (.ibin .add .i64 (.t 23) (.c (.int .i64 1))),
mvO 23 43] (some [2, 4, 6, 22, 23]))))))))
(.seq (.seq (.ops [opO 44 (.load 3 true (.t 4)),
opO 45 (.call 33 [(.t 44)]),
mvO 11 45] (some [2, 4, 11]))
(.seq (.ops [mvO 46 11,
opO 47 (.ibin .neq .i64 (.t 46) (.c (.int .i64 0)))] (some [2, 4, 11, 47]))
(.cond (.t 47)
(.seq (.ops [opO 48 (.build [(.int .i64 0), (.int .i64 0), (.int .i64 0)] []),
mvO 49 11,
⟨none, none, .store 3 (.t 2) (.t 48)⟩,
mvO 3 49] (some [2, 3]))
.ret)
.skip)))
(.seq (.ops [opO 50 (.load 3 true (.t 4)),
⟨none, none, .store 3 (.t 2) (.t 50)⟩,
opO 3 (.mov (.c (.int .i64 0)))] (some [2, 3]))
.ret))))))))⟩
/-- guidevane/dam.FormatReading -/
def ir374 : IFn := ⟨14, [.t 2],
(.seq (.ops [opO 1 (.box (.t 0)),
opO 2 (.mov (.c (.string ⟨#[]⟩)))] (some [1]))
(.seq (.draw (.rd 0 (opO 3 (.faddr 0 (.t 1)))
(.rd 1 (opO 4 (.load 1 false (.t 3)))
(.rd 3 (opO 6 (.faddr 1 (.t 1)))
(.rd 4 (opO 7 (.load 1 false (.t 6)))
(.rd 6 (opO 9 (.faddr 2 (.t 1)))
(.rd 7 (opO 10 (.load 1 false (.t 9)))
(.wr 2 (opO 5 (.call 385 [(.t 4)])) [1]
(.wr 5 (opO 8 (.call 385 [(.t 7)])) [4, 2]
(.wr 8 (opO 11 (.call 385 [(.t 10)])) [7, 5]
(.wr 9 (opO 12 (.bslice 3 1 [(.string ⟨#[]⟩)] [(0, 1, (.t 5)), (1, 1, (.t 8)), (2, 1, (.t 11))])) [2, 5, 8]
(.wr 10 (opO 13 (.call 384 [(.t 12), (.c (.string ⟨#[32]⟩))])) [9, 8]
(.rd 11 (mvO 2 13)
.fin) .no) .no) .no) .no) .no))))))) (some [2]))
.ret))⟩

end Go.Proofs.YtacgibkgojnfeaaGreatDoor.AM
