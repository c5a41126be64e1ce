/- The functions in the small language. Conditions: none. -/
import Derived.Test.YtmbekcealcjabaaGreatAmFn
namespace Go.Proofs.YtmbekcealcjabaaGreat.AM
set_option linter.unusedSimpArgs false
set_option linter.unusedVariables false
open Go Go.RowKit

/-- Operations, in short. -/
abbrev mvO (d x : Nat) : IOpG := ⟨some d, none, .mov (.t x)⟩
abbrev opO (d : Nat) (x : IOp) : IOpG := ⟨some d, none, x⟩

/-- guidevane/guidevanebase.Within -/
def ir15 : IFn := ⟨15, [.t 6],
(.seq (.ops [opO 6 (.mov (.c (.bool false)))] (some [0, 1, 2]))
(.seq (.ops [mvO 7 1,
mvO 8 0,
opO 9 (.ibin .leq .i64 (.t 7) (.t 8)),
mvO 10 9,
⟨(some 11), (some (10, true)), .mov (.t 0)⟩,
⟨(some 12), (some (10, true)), .mov (.t 2)⟩,
⟨(some 13), (some (10, true)), .ibin .leq .i64 (.t 11) (.t 12)⟩,
opO 14 (.pick (.t 10) (.t 13) (.c (.bool false))),
mvO 6 14] (some [6]))
.ret))⟩
/-- guidevane/guidevanebase.Ints -/
def ir26 : IFn := ⟨26, [.t 4],
(.seq (.ops [opO 4 (.mov (.c (.bool false)))] (some [0, 1]))
(.seq (.seq (.ops [mvO 6 0,
opO 7 (.lenV (.t 6)),
mvO 8 1,
opO 9 (.lenV (.t 8)),
opO 10 (.ibin .neq .i64 (.t 7) (.t 9))] (some [0, 1, 10]))
(.cond (.t 10)
(.seq (.ops [opO 4 (.mov (.c (.bool false)))] none)
.ret)
.skip))
(.seq (.seq (.ops [opO 5 (.mov (.c (.int .i64 0)))] none)
(.block 0 (.loop (.seq (.seq (.ops [mvO 11 5,
mvO 12 0,
opO 13 (.lenV (.t 12)),
opO 14 (.ibin .lss .i64 (.t 11) (.t 13))] (some [0, 1, 5, 14]))
(.cond (.t 14)
.skip
(.exit 0)))
(.seq (.block 1 (.seq (.draw (.rd 0 (mvO 17 0)
(.rd 1 (mvO 18 5)
(.rd 2 (opO 19 (.iaddr 1 (.t 17) (.t 18)))
(.rd 3 (opO 20 (.load 1 false (.t 19)))
(.rd 4 (mvO 21 1)
(.rd 5 (mvO 22 5)
(.rd 6 (opO 23 (.iaddr 1 (.t 21) (.t 22)))
(.rd 7 (opO 24 (.load 1 false (.t 23)))
(.rd 8 (opO 25 (.ibin .neq .i64 (.t 20) (.t 24)))
.fin))))))))) (some [0, 1, 5, 25]))
(.cond (.t 25)
(.seq (.ops [opO 4 (.mov (.c (.bool false)))] none)
.ret)
.skip)))
(.ops [mvO 15 5,
opO 16 (.ibin .add .i64 (.t 15) (.c (.int .i64 1))),
mvO 5 16] (some [0, 1, 5])))))))
(.seq (.ops [opO 4 (.mov (.c (.bool true)))] none)
.ret))))⟩
/-- guidevane/guidevanebase.CopyInts -/
def ir38 : IFn := ⟨6, [.t 2],
(.seq (.ops [opO 2 (.mov (.c (.slice none 0 0)))] (some [0]))
(.seq (.ops [opO 3 (.bslice 0 1 [(.int .i64 0)] []),
mvO 4 0,
opO 5 (.append 1 8 (.t 3) (.t 4)),
mvO 2 5] (some [2]))
.ret))⟩
/-- slices.IndexFunc[[]int,int] -/
def ir70 : IFn := ⟨19, [.t 4],
(.seq (.ops [opO 4 (.mov (.c (.int .i64 0)))] (some [0, 1]))
(.seq (.seq (.ops [mvO 6 0,
opO 7 (.lenV (.t 6)),
opO 8 (.mov (.c (.int .i64 0)))] (some [0, 1, 7, 8]))
(.block 0 (.loop (.seq (.ops [opO 9 (.ibin .lss .i64 (.t 8) (.t 7))] none)
(.seq (.cond (.t 9)
.skip
(.exit 0))
(.seq (.block 1 (.seq (.ops [mvO 10 8,
mvO 5 10] (some [0, 1, 5, 7, 8]))
(.seq (.ops [mvO 11 1,
mvO 12 0,
mvO 13 5,
opO 14 (.iaddr 1 (.t 12) (.t 13)),
opO 15 (.load 1 false (.t 14)),
opO 16 (.callv (.t 11) [(.t 15)])] (some [0, 1, 5, 7, 8, 16]))
(.cond (.t 16)
(.seq (.ops [mvO 17 5,
mvO 4 17] (some [4]))
.ret)
.skip))))
(.ops [opO 18 (.ibin .add .i64 (.t 8) (.c (.int .i64 1))),
mvO 8 18] (some [0, 1, 7, 8]))))))))
(.seq (.ops [opO 4 (.mov (.c (.int .i64 (-1))))] none)
.ret)))⟩
/-- slices.Clone[[]int,int] -/
def ir73 : IFn := ⟨8, [.t 2],
(.seq (.ops [opO 2 (.mov (.c (.slice none 0 0)))] (some [0]))
(.seq (.seq (.ops [mvO 3 0,
opO 4 (.nileq .sl false (.t 3))] (some [0, 4]))
(.cond (.t 4)
(.seq (.ops [opO 2 (.mov (.c (.slice none 0 0)))] none)
.ret)
.skip))
(.seq (.ops [opO 5 (.bslice 0 1 [(.int .i64 0)] []),
mvO 6 0,
opO 7 (.append 1 8 (.t 5) (.t 6)),
mvO 2 7] (some [2]))
.ret)))⟩
/-- slices.ContainsFunc[[]int,int] -/
def ir80 : IFn := ⟨9, [.t 4],
(.seq (.ops [opO 4 (.mov (.c (.bool false)))] (some [0, 1]))
(.seq (.ops [mvO 5 0,
mvO 6 1,
opO 7 (.call 70 [(.t 5), (.t 6)]),
opO 8 (.ibin .geq .i64 (.t 7) (.c (.int .i64 0))),
mvO 4 8] (some [4]))
.ret))⟩
/-- guidevane/guidevanebase.IsName -/
def ir91 : IFn := ⟨55, [.t 2],
(.seq (.ops [opO 2 (.mov (.c (.bool false)))] (some [0]))
(.seq (.seq (.ops [mvO 6 0,
opO 7 (.lenS (.t 6)),
opO 8 (.ibin .lss .i64 (.t 7) (.c (.int .i64 1))),
mvO 9 8,
⟨(some 10), (some (9, false)), .mov (.t 0)⟩,
⟨(some 11), (some (9, false)), .lenS (.t 10)⟩,
⟨(some 12), (some (9, false)), .ibin .gtr .i64 (.t 11) (.c (.int .i64 12))⟩,
opO 13 (.pick (.t 9) (.c (.bool true)) (.t 12))] (some [0, 13]))
(.cond (.t 13)
(.seq (.ops [opO 2 (.mov (.c (.bool false)))] none)
.ret)
.skip))
(.seq (.seq (.ops [opO 3 (.mov (.c (.int .i64 0)))] none)
(.block 0 (.loop (.seq (.seq (.ops [mvO 14 3,
mvO 15 0,
opO 16 (.lenS (.t 15)),
opO 17 (.ibin .lss .i64 (.t 14) (.t 16))] (some [0, 3, 17]))
(.cond (.t 17)
.skip
(.exit 0)))
(.seq (.block 1 (.seq (.ops [mvO 20 0,
mvO 21 3,
opO 22 (.indexS (.t 20) (.t 21)),
mvO 4 22] (some [0, 3, 4]))
(.seq (.ops [mvO 23 4,
opO 24 (.ibin .geq .u8 (.t 23) (.c (.int .u8 97))),
mvO 25 24,
⟨(some 26), (some (25, true)), .mov (.t 4)⟩,
⟨(some 27), (some (25, true)), .ibin .leq .u8 (.t 26) (.c (.int .u8 122))⟩,
opO 28 (.pick (.t 25) (.t 27) (.c (.bool false))),
mvO 29 28,
⟨(some 30), (some (29, false)), .mov (.t 4)⟩,
⟨(some 31), (some (29, false)), .ibin .geq .u8 (.t 30) (.c (.int .u8 65))⟩,
⟨(some 32), (some (29, false)), .mov (.t 31)⟩,
⟨(some 33), (some (32, true)), .mov (.t 4)⟩,
⟨(some 34), (some (32, true)), .ibin .leq .u8 (.t 33) (.c (.int .u8 90))⟩,
⟨(some 35), (some (29, false)), .pick (.t 32) (.t 34) (.c (.bool false))⟩,
opO 36 (.pick (.t 29) (.c (.bool true)) (.t 35)),
mvO 5 36] (some [0, 3, 4, 5]))
(.seq (.ops [mvO 37 5,
opO 38 (.un .not (.t 37)),
mvO 39 38,
⟨(some 40), (some (39, true)), .mov (.t 3)⟩,
⟨(some 41), (some (39, true)), .ibin .eql .i64 (.t 40) (.c (.int .i64 0))⟩,
⟨(some 42), (some (39, true)), .mov (.t 41)⟩,
⟨(some 43), (some (42, false)), .mov (.t 4)⟩,
⟨(some 44), (some (42, false)), .ibin .neq .u8 (.t 43) (.c (.int .u8 45))⟩,
⟨(some 45), (some (42, false)), .mov (.t 44)⟩,
⟨(some 46), (some (45, true)), .mov (.t 4)⟩,
⟨(some 47), (some (45, true)), .ibin .lss .u8 (.t 46) (.c (.int .u8 48))⟩,
⟨(some 48), (some (45, true)), .mov (.t 47)⟩,
⟨(some 49), (some (48, false)), .mov (.t 4)⟩,
⟨(some 50), (some (48, false)), .ibin .gtr .u8 (.t 49) (.c (.int .u8 57))⟩,
⟨(some 51), (some (45, true)), .pick (.t 48) (.c (.bool true)) (.t 50)⟩,
⟨(some 52), (some (42, false)), .pick (.t 45) (.t 51) (.c (.bool false))⟩,
⟨(some 53), (some (39, true)), .pick (.t 42) (.c (.bool true)) (.t 52)⟩,
opO 54 (.pick (.t 39) (.t 53) (.c (.bool false)))] (some [0, 3, 54]))
(.cond (.t 54)
(.seq (.ops [opO 2 (.mov (.c (.bool false)))] none)
.ret)
.skip)))))
(.ops [mvO 18 3,
opO 19 (.ibin .add .i64 (.t 18) (.c (.int .i64 1))),
mvO 3 19] (some [0, 3])))))))
(.seq (.ops [opO 2 (.mov (.c (.bool true)))] none)
.ret))))⟩
/-- slices.Sort[[]int,int] -/
def ir103 : IFn := ⟨11, [],
(.seq (.ops [mvO 3 0,
opO 4 (.lenV (.t 3)),
mvO 2 4] (some [0, 2]))
(.ops [mvO 5 0,
mvO 6 2,
mvO 7 2,
opO 8 (.conv .u64 (.t 7)),
opO 9 (.call 119 [(.t 8)]),
opO 10 (.call 118 [(.t 5), (.c (.int .i64 0)), (.t 6), (.t 9)])] (some [])))⟩
/-- slices.SortStableFunc[[]int,int] -/
def ir106 : IFn := ⟨9, [],
(.ops [mvO 4 0,
mvO 5 0,
opO 6 (.lenV (.t 5)),
mvO 7 1,
opO 8 (.call 120 [(.t 4), (.t 6), (.t 7)])] (some []))⟩
/-- cmp.Compare[int] -/
def ir108 : IFn := ⟨20, [.t 4],
(.seq (.ops [opO 4 (.mov (.c (.int .i64 0)))] (some [0, 1]))
(.seq (.ops [mvO 7 0,
opO 8 (.call 121 [(.t 7)]),
mvO 5 8] (some [0, 1, 5]))
(.seq (.ops [mvO 9 1,
opO 10 (.call 121 [(.t 9)]),
mvO 6 10] (some [0, 1, 5, 6]))
(.seq (.seq (.ops [mvO 11 5] (some [0, 1, 6, 11]))
(.cond (.t 11)
(.seq (.seq (.ops [mvO 12 6] (some [12]))
(.cond (.t 12)
(.seq (.ops [opO 4 (.mov (.c (.int .i64 0)))] none)
.ret)
.skip))
(.seq (.ops [opO 4 (.mov (.c (.int .i64 (-1))))] none)
.ret))
.skip))
(.seq (.seq (.ops [mvO 13 6] (some [0, 1, 13]))
(.cond (.t 13)
(.seq (.ops [opO 4 (.mov (.c (.int .i64 1)))] none)
.ret)
.skip))
(.seq (.seq (.ops [mvO 14 0,
mvO 15 1,
opO 16 (.ibin .lss .i64 (.t 14) (.t 15))] (some [0, 1, 16]))
(.cond (.t 16)
(.seq (.ops [opO 4 (.mov (.c (.int .i64 (-1))))] none)
.ret)
.skip))
(.seq (.seq (.ops [mvO 17 0,
mvO 18 1,
opO 19 (.ibin .gtr .i64 (.t 17) (.t 18))] (some [19]))
(.cond (.t 19)
(.seq (.ops [opO 4 (.mov (.c (.int .i64 1)))] none)
.ret)
.skip))
(.seq (.ops [opO 4 (.mov (.c (.int .i64 0)))] none)
.ret))))))))⟩
/-- slices.pdqsortOrdered[int] -/
def ir118 : IFn := ⟨134, [],
(.seq (.ops [opO 8 (.mov (.c (.bool true)))] none)
(.seq (.ops [opO 9 (.mov (.c (.bool true)))] none)
(.block 0 (.loop (.block 1 (.seq (.ops [mvO 19 2,
mvO 20 1,
opO 21 (.ibin .sub .i64 (.t 19) (.t 20)),
mvO 10 21] (some [0, 1, 2, 3, 8, 9, 10]))
(.seq (.seq (.ops [mvO 22 10,
opO 23 (.ibin .leq .i64 (.t 22) (.c (.int .i64 12)))] (some [0, 1, 2, 3, 8, 9, 10, 23]))
(.cond (.t 23)
(.seq (.ops [mvO 24 0,
mvO 25 1,
mvO 26 2,
opO 27 (.call 126 [(.t 24), (.t 25), (.t 26)])] (some []))
.ret)
.skip))
(.seq (.seq (.ops [mvO 28 3,
opO 29 (.ibin .eql .i64 (.t 28) (.c (.int .i64 0)))] (some [0, 1, 2, 3, 8, 9, 10, 29]))
(.cond (.t 29)
(.seq (.ops [mvO 30 0,
mvO 31 1,
mvO 32 2,
opO 33 (.call 127 [(.t 30), (.t 31), (.t 32)])] (some []))
.ret)
.skip))
(.seq (.seq (.ops [mvO 34 8,
opO 35 (.un .not (.t 34))] (some [0, 1, 2, 3, 8, 9, 10, 35]))
(.cond (.t 35)
(.seq (.ops [mvO 36 0,
mvO 37 1,
mvO 38 2,
opO 39 (.call 128 [(.t 36), (.t 37), (.t 38)])] (some [0, 1, 2, 3, 8, 9, 10]))
(.ops [mvO 40 3,
opO 41 (.ibin .sub .i64 (.t 40) (.c (.int .i64 1))),
mvO 3 41] (some [0, 1, 2, 3, 8, 9, 10])))
.skip))
(.seq (.ops [mvO 43 0,
mvO 44 1,
mvO 45 2,
opO 46 (.call 129 [(.t 43), (.t 44), (.t 45)]),
mvO 42 46,
opO 47 (.extract 0 (.t 42)),
opO 48 (.extract 1 (.t 42)),
mvO 11 47,
mvO 12 48] (some [0, 1, 2, 3, 8, 9, 10, 11, 12]))
(.seq (.seq (.ops [mvO 49 12,
opO 50 (.ibin .eql .i64 (.t 49) (.c (.int .i64 2)))] (some [0, 1, 2, 3, 8, 9, 10, 11, 12, 50]))
(.cond (.t 50)
(.seq (.ops [mvO 51 0,
mvO 52 1,
mvO 53 2,
opO 54 (.call 130 [(.t 51), (.t 52), (.t 53)])] (some [0, 1, 2, 3, 8, 9, 10, 11]))
(.seq (.ops [mvO 55 2,
opO 56 (.ibin .sub .i64 (.t 55) (.c (.int .i64 1))),
mvO 57 11,
mvO 58 1,
opO 59 (.ibin .sub .i64 (.t 57) (.t 58)),
opO 60 (.ibin .sub .i64 (.t 56) (.t 59)),
mvO 11 60] (some [0, 1, 2, 3, 8, 9, 10, 11]))
(.ops [opO 12 (.mov (.c (.int .i64 1)))] none)))
.skip))
(.seq (.seq (.ops [mvO 61 8,
mvO 62 61,
⟨(some 63), (some (62, true)), .mov (.t 9)⟩,
opO 64 (.pick (.t 62) (.t 63) (.c (.bool false))),
mvO 65 64,
⟨(some 66), (some (65, true)), .mov (.t 12)⟩,
⟨(some 67), (some (65, true)), .ibin .eql .i64 (.t 66) (.c (.int .i64 1))⟩,
opO 68 (.pick (.t 65) (.t 67) (.c (.bool false)))] (some [0, 1, 2, 3, 8, 9, 10, 11, 68]))
(.cond (.t 68)
(.seq (.ops [mvO 69 0,
mvO 70 1,
mvO 71 2,
opO 72 (.call 131 [(.t 69), (.t 70), (.t 71)])] (some [0, 1, 2, 3, 8, 9, 10, 11, 72]))
(.cond (.t 72)
.ret
.skip))
.skip))
(.seq (.seq (.draw (.rd 0 (mvO 73 1)
(.rd 1 (opO 74 (.ibin .gtr .i64 (.t 73) (.c (.int .i64 0))))
(.rd 2 (mvO 75 74)
(.rd 3 ⟨(some 76), (some (75, true)), .mov (.t 0)⟩
(.rd 4 ⟨(some 77), (some (75, true)), .mov (.t 1)⟩
(.rd 5 ⟨(some 78), (some (75, true)), .ibin .sub .i64 (.t 77) (.c (.int .i64 1))⟩
(.rd 6 ⟨(some 79), (some (75, true)), .iaddr 1 (.t 76) (.t 78)⟩
(.rd 7 ⟨(some 80), (some (75, true)), .load 1 false (.t 79)⟩
(.rd 8 ⟨(some 81), (some (75, true)), .mov (.t 0)⟩
(.rd 9 ⟨(some 82), (some (75, true)), .mov (.t 11)⟩
(.rd 10 ⟨(some 83), (some (75, true)), .iaddr 1 (.t 81) (.t 82)⟩
(.rd 11 ⟨(some 84), (some (75, true)), .load 1 false (.t 83)⟩
(.wr 12 ⟨(some 85), (some (75, true)), .call 122 [(.t 80), (.t 84)]⟩ [7, 11, 2, 2]
(.rd 13 ⟨(some 86), (some (75, true)), .un .not (.t 85)⟩
(.rd 14 (opO 87 (.pick (.t 75) (.t 86) (.c (.bool false))))
.fin)) .no))))))))))))) (some [0, 1, 2, 3, 8, 9, 10, 11, 87]))
(.cond (.t 87)
(.seq (.ops [mvO 88 0,
mvO 89 1,
mvO 90 2,
mvO 91 11,
opO 92 (.call 132 [(.t 88), (.t 89), (.t 90), (.t 91)]),
mvO 13 92] (some [0, 2, 3, 8, 9, 13]))
(.seq (.ops [mvO 93 13,
mvO 1 93] (some [0, 1, 2, 3, 8, 9]))
(.exit 1)))
.skip))
(.seq (.ops [mvO 95 0,
mvO 96 1,
mvO 97 2,
mvO 98 11,
opO 99 (.call 133 [(.t 95), (.t 96), (.t 97), (.t 98)]),
mvO 94 99,
opO 100 (.extract 0 (.t 94)),
opO 101 (.extract 1 (.t 94)),
mvO 14 100,
mvO 15 101] (some [0, 1, 2, 3, 10, 14, 15]))
(.seq (.ops [mvO 102 15,
mvO 9 102] (some [0, 1, 2, 3, 9, 10, 14]))
(.seq (.ops [mvO 103 14,
mvO 104 1,
opO 105 (.ibin .sub .i64 (.t 103) (.t 104)),
mvO 106 2,
mvO 107 14,
opO 108 (.ibin .sub .i64 (.t 106) (.t 107)),
mvO 16 105,
mvO 17 108] (some [0, 1, 2, 3, 9, 10, 14, 16, 17]))
(.seq (.ops [mvO 109 10,
opO 110 (.ibin .quo .i64 (.t 109) (.c (.int .i64 8))),
mvO 18 110] (some [0, 1, 2, 3, 9, 14, 16, 17, 18]))
(.seq (.ops [mvO 111 16,
mvO 112 17,
opO 113 (.ibin .lss .i64 (.t 111) (.t 112))] (some [0, 1, 2, 3, 9, 14, 16, 17, 18, 113]))
(.cond (.t 113)
(.seq (.ops [mvO 114 16,
mvO 115 18,
opO 116 (.ibin .geq .i64 (.t 114) (.t 115)),
mvO 8 116] (some [0, 1, 2, 3, 8, 9, 14]))
(.seq (.ops [mvO 117 0,
mvO 118 1,
mvO 119 14,
mvO 120 3,
opO 121 (.call 118 [(.t 117), (.t 118), (.t 119), (.t 120)])] (some [0, 2, 3, 8, 9, 14]))
(.ops [mvO 122 14,
opO 123 (.ibin .add .i64 (.t 122) (.c (.int .i64 1))),
mvO 1 123] (some [0, 1, 2, 3, 8, 9]))))
(.seq (.ops [mvO 124 17,
mvO 125 18,
opO 126 (.ibin .geq .i64 (.t 124) (.t 125)),
mvO 8 126] (some [0, 1, 2, 3, 8, 9, 14]))
(.seq (.ops [mvO 127 0,
mvO 128 14,
opO 129 (.ibin .add .i64 (.t 128) (.c (.int .i64 1))),
mvO 130 2,
mvO 131 3,
opO 132 (.call 118 [(.t 127), (.t 129), (.t 130), (.t 131)])] (some [0, 1, 3, 8, 9, 14]))
(.ops [mvO 133 14,
mvO 2 133] (some [0, 1, 2, 3, 8, 9])))))))))))))))))))))))⟩
/-- math/bits.Len -/
def ir119 : IFn := ⟨8, [.t 2],
(.seq (.ops [opO 2 (.mov (.c (.int .i64 0)))] (some [0]))
(.seq (.cond (.c (.bool false))
(.seq (.ops [mvO 3 0,
opO 4 (.conv .u32 (.t 3)),
opO 5 (.call 134 [(.t 4)]),
mvO 2 5] (some [2]))
.ret)
.skip)
(.seq (.ops [mvO 6 0,
opO 7 (.call 135 [(.t 6)]),
mvO 2 7] (some [2]))
.ret)))⟩
/-- slices.stableCmpFunc[int] -/
def ir120 : IFn := ⟨63, [],
(.seq (.ops [opO 6 (.mov (.c (.int .i64 20)))] none)
(.seq (.ops [mvO 10 6,
opO 7 (.mov (.c (.int .i64 0))),
mvO 8 10] (some [0, 1, 2, 6, 7, 8]))
(.seq (.block 0 (.loop (.seq (.seq (.ops [mvO 11 8,
mvO 12 1,
opO 13 (.ibin .leq .i64 (.t 11) (.t 12))] (some [0, 1, 2, 6, 7, 8, 13]))
(.cond (.t 13)
.skip
(.exit 0)))
(.block 1 (.seq (.ops [mvO 14 0,
mvO 15 7,
mvO 16 8,
mvO 17 2,
opO 18 (.call 136 [(.t 14), (.t 15), (.t 16), (.t 17)])] (some [0, 1, 2, 6, 8]))
(.seq (.ops [mvO 19 8,
mvO 7 19] (some [0, 1, 2, 6, 7, 8]))
(.ops [mvO 20 8,
mvO 21 6,
opO 22 (.ibin .add .i64 (.t 20) (.t 21)),
mvO 8 22] (some [0, 1, 2, 6, 7, 8]))))))))
(.seq (.ops [mvO 23 0,
mvO 24 7,
mvO 25 1,
mvO 26 2,
opO 27 (.call 136 [(.t 23), (.t 24), (.t 25), (.t 26)])] (some [0, 1, 2, 6]))
(.block 2 (.loop (.seq (.seq (.ops [mvO 28 6,
mvO 29 1,
opO 30 (.ibin .lss .i64 (.t 28) (.t 29))] (some [0, 1, 2, 6, 30]))
(.cond (.t 30)
.skip
(.exit 2)))
(.block 3 (.seq (.ops [mvO 31 6,
opO 32 (.ibin .mul .i64 (.c (.int .i64 2)) (.t 31)),
opO 7 (.mov (.c (.int .i64 0))),
mvO 8 32] (some [0, 1, 2, 6, 7, 8]))
(.seq (.block 4 (.loop (.seq (.seq (.ops [mvO 33 8,
mvO 34 1,
opO 35 (.ibin .leq .i64 (.t 33) (.t 34))] (some [0, 1, 2, 6, 7, 8, 35]))
(.cond (.t 35)
.skip
(.exit 4)))
(.block 5 (.seq (.ops [mvO 36 0,
mvO 37 7,
mvO 38 7,
mvO 39 6,
opO 40 (.ibin .add .i64 (.t 38) (.t 39)),
mvO 41 8,
mvO 42 2,
opO 43 (.call 137 [(.t 36), (.t 37), (.t 40), (.t 41), (.t 42)])] (some [0, 1, 2, 6, 8]))
(.seq (.ops [mvO 44 8,
mvO 7 44] (some [0, 1, 2, 6, 7, 8]))
(.ops [mvO 45 8,
mvO 46 6,
opO 47 (.ibin .mul .i64 (.c (.int .i64 2)) (.t 46)),
opO 48 (.ibin .add .i64 (.t 45) (.t 47)),
mvO 8 48] (some [0, 1, 2, 6, 7, 8]))))))))
(.seq (.seq (.ops [mvO 49 7,
mvO 50 6,
opO 51 (.ibin .add .i64 (.t 49) (.t 50)),
mvO 9 51] (some [0, 1, 2, 6, 7, 9]))
(.seq (.ops [mvO 52 9,
mvO 53 1,
opO 54 (.ibin .lss .i64 (.t 52) (.t 53))] (some [0, 1, 2, 6, 7, 9, 54]))
(.cond (.t 54)
(.ops [mvO 55 0,
mvO 56 7,
mvO 57 9,
mvO 58 1,
mvO 59 2,
opO 60 (.call 137 [(.t 55), (.t 56), (.t 57), (.t 58), (.t 59)])] (some [0, 1, 2, 6]))
.skip)))
(.ops [mvO 61 6,
opO 62 (.ibin .mul .i64 (.t 61) (.c (.int .i64 2))),
mvO 6 62] (some [0, 1, 2, 6])))))))))))))⟩
/-- cmp.isNaN[int] -/
def ir121 : IFn := ⟨6, [.t 2],
(.seq (.ops [opO 2 (.mov (.c (.bool false)))] (some [0]))
(.seq (.ops [mvO 3 0,
mvO 4 0,
opO 5 (.ibin .neq .i64 (.t 3) (.t 4)),
mvO 2 5] (some [2]))
.ret))⟩
/-- cmp.Less[int] -/
def ir122 : IFn := ⟨17, [.t 4],
(.seq (.ops [opO 4 (.mov (.c (.bool false)))] (some [0, 1]))
(.seq (.ops [mvO 5 0,
opO 6 (.call 121 [(.t 5)]),
mvO 7 6,
⟨(some 8), (some (7, true)), .mov (.t 1)⟩,
⟨(some 9), (some (7, true)), .call 121 [(.t 8)]⟩,
⟨(some 10), (some (7, true)), .un .not (.t 9)⟩,
opO 11 (.pick (.t 7) (.t 10) (.c (.bool false))),
mvO 12 11,
⟨(some 13), (some (12, false)), .mov (.t 0)⟩,
⟨(some 14), (some (12, false)), .mov (.t 1)⟩,
⟨(some 15), (some (12, false)), .ibin .lss .i64 (.t 13) (.t 14)⟩,
opO 16 (.pick (.t 12) (.c (.bool true)) (.t 15)),
mvO 4 16] (some [4]))
.ret))⟩
/-- slices.insertionSortOrdered[int] -/
def ir126 : IFn := ⟨49, [],
(.seq (.ops [mvO 8 1,
opO 9 (.ibin .add .i64 (.t 8) (.c (.int .i64 1))),
mvO 6 9] (some [0, 1, 2, 6]))
(.block 0 (.loop (.seq (.seq (.ops [mvO 10 6,
mvO 11 2,
opO 12 (.ibin .lss .i64 (.t 10) (.t 11))] (some [0, 1, 2, 6, 12]))
(.cond (.t 12)
.skip
(.exit 0)))
(.seq (.block 1 (.seq (.ops [mvO 15 6,
mvO 7 15] (some [0, 1, 2, 6, 7]))
(.block 2 (.loop (.seq (.seq (.draw (.rd 0 (mvO 16 7)
(.rd 1 (mvO 17 1)
(.rd 2 (opO 18 (.ibin .gtr .i64 (.t 16) (.t 17)))
(.rd 3 (mvO 19 18)
(.rd 4 ⟨(some 20), (some (19, true)), .mov (.t 0)⟩
(.rd 5 ⟨(some 21), (some (19, true)), .mov (.t 7)⟩
(.rd 6 ⟨(some 22), (some (19, true)), .iaddr 1 (.t 20) (.t 21)⟩
(.rd 7 ⟨(some 23), (some (19, true)), .load 1 false (.t 22)⟩
(.rd 8 ⟨(some 24), (some (19, true)), .mov (.t 0)⟩
(.rd 9 ⟨(some 25), (some (19, true)), .mov (.t 7)⟩
(.rd 10 ⟨(some 26), (some (19, true)), .ibin .sub .i64 (.t 25) (.c (.int .i64 1))⟩
(.rd 11 ⟨(some 27), (some (19, true)), .iaddr 1 (.t 24) (.t 26)⟩
(.rd 12 ⟨(some 28), (some (19, true)), .load 1 false (.t 27)⟩
(.wr 13 ⟨(some 29), (some (19, true)), .call 122 [(.t 23), (.t 28)]⟩ [7, 12, 3, 3]
(.rd 14 (opO 30 (.pick (.t 19) (.t 29) (.c (.bool false))))
.fin) .no)))))))))))))) (some [0, 1, 2, 6, 7, 30]))
(.cond (.t 30)
.skip
(.exit 2)))
(.seq (.block 3 (.draw (.rd 0 (mvO 33 0)
(.rd 1 (mvO 34 7)
(.rd 2 (mvO 35 0)
(.rd 3 (mvO 36 7)
(.rd 4 (opO 37 (.ibin .sub .i64 (.t 36) (.c (.int .i64 1))))
(.rd 5 (mvO 38 0)
(.rd 6 (mvO 39 7)
(.rd 7 (opO 40 (.ibin .sub .i64 (.t 39) (.c (.int .i64 1))))
(.rd 8 (opO 41 (.iaddr 1 (.t 38) (.t 40)))
(.rd 9 (opO 42 (.load 1 false (.t 41)))
(.rd 10 (mvO 43 0)
(.rd 11 (mvO 44 7)
(.rd 12 (opO 45 (.iaddr 1 (.t 43) (.t 44)))
(.rd 13 (opO 46 (.load 1 false (.t 45)))
(.rd 14 (opO 47 (.iaddr 1 (.t 33) (.t 34)))
(.wr 15 ⟨none, none, .store 1 (.t 47) (.t 42)⟩ [14, 9, 0, 1, 5, 6, 7, 8, 9, 13]
(.rd 16 (opO 48 (.iaddr 1 (.t 35) (.t 37)))
(.wr 17 ⟨none, none, .store 1 (.t 48) (.t 46)⟩ [16, 13, 15, 0, 1, 2, 3, 4, 5, 6, 7, 8, 9, 10, 11, 12, 13, 14, 15]
.fin .no)) .no)))))))))))))))) (some [0, 1, 2, 6, 7])))
(.ops [mvO 31 7,
opO 32 (.ibin .sub .i64 (.t 31) (.c (.int .i64 1))),
mvO 7 32] (some [0, 1, 2, 6, 7]))))))))
(.ops [mvO 13 6,
opO 14 (.ibin .add .i64 (.t 13) (.c (.int .i64 1))),
mvO 6 14] (some [0, 1, 2, 6])))))))⟩
/-- math/bits.Len32 -/
def ir134 : IFn := ⟨19, [.t 2],
(.seq (.ops [opO 2 (.mov (.c (.int .i64 0)))] none)
(.seq (.seq (.ops [mvO 3 0,
opO 4 (.ibin .geq .u32 (.t 3) (.c (.int .u32 65536)))] (some [0, 2, 4]))
(.cond (.t 4)
(.seq (.ops [mvO 5 0,
opO 6 (.shift .shr .u32 (.t 5) (.c (.int .u64 16))),
mvO 0 6] (some [0]))
(.ops [opO 2 (.mov (.c (.int .i64 16)))] none))
.skip))
(.seq (.seq (.ops [mvO 7 0,
opO 8 (.ibin .geq .u32 (.t 7) (.c (.int .u32 256)))] (some [0, 2, 8]))
(.cond (.t 8)
(.seq (.ops [mvO 9 0,
opO 10 (.shift .shr .u32 (.t 9) (.c (.int .u64 8))),
mvO 0 10] (some [0, 2]))
(.ops [mvO 11 2,
opO 12 (.ibin .add .i64 (.t 11) (.c (.int .i64 8))),
mvO 2 12] (some [0, 2])))
.skip))
(.seq (.ops [mvO 13 2,
mvO 14 0,
opO 15 (.conv .u8 (.t 14)),
opO 16 (.indexS (.c (.string ⟨#[0, 1, 2, 2, 3, 3, 3, 3, 4, 4, 4, 4, 4, 4, 4, 4, 5, 5, 5, 5, 5, 5, 5, 5, 5, 5, 5, 5, 5, 5, 5, 5, 6, 6, 6, 6, 6, 6, 6, 6, 6, 6, 6, 6, 6, 6, 6, 6, 6, 6, 6, 6, 6, 6, 6, 6, 6, 6, 6, 6, 6, 6, 6, 6, 7, 7, 7, 7, 7, 7, 7, 7, 7, 7, 7, 7, 7, 7, 7, 7, 7, 7, 7, 7, 7, 7, 7, 7, 7, 7, 7, 7, 7, 7, 7, 7, 7, 7, 7, 7, 7, 7, 7, 7, 7, 7, 7, 7, 7, 7, 7, 7, 7, 7, 7, 7, 7, 7, 7, 7, 7, 7, 7, 7, 7, 7, 7, 7, 8, 8, 8, 8, 8, 8, 8, 8, 8, 8, 8, 8, 8, 8, 8, 8, 8, 8, 8, 8, 8, 8, 8, 8, 8, 8, 8, 8, 8, 8, 8, 8, 8, 8, 8, 8, 8, 8, 8, 8, 8, 8, 8, 8, 8, 8, 8, 8, 8, 8, 8, 8, 8, 8, 8, 8, 8, 8, 8, 8, 8, 8, 8, 8, 8, 8, 8, 8, 8, 8, 8, 8, 8, 8, 8, 8, 8, 8, 8, 8, 8, 8, 8, 8, 8, 8, 8, 8, 8, 8, 8, 8, 8, 8, 8, 8, 8, 8, 8, 8, 8, 8, 8, 8, 8, 8, 8, 8, 8, 8, 8, 8, 8, 8, 8, 8, 8, 8, 8, 8, 8, 8, 8, 8, 8, 8, 8, 8]⟩)) (.t 15)),
opO 17 (.conv .i64 (.t 16)),
opO 18 (.ibin .add .i64 (.t 13) (.t 17)),
mvO 2 18] (some [2]))
.ret))))⟩
/-- math/bits.Len64 -/
def ir135 : IFn := ⟨25, [.t 2],
(.seq (.ops [opO 2 (.mov (.c (.int .i64 0)))] none)
(.seq (.seq (.ops [mvO 3 0,
opO 4 (.ibin .geq .u64 (.t 3) (.c (.int .u64 4294967296)))] (some [0, 2, 4]))
(.cond (.t 4)
(.seq (.ops [mvO 5 0,
opO 6 (.shift .shr .u64 (.t 5) (.c (.int .u64 32))),
mvO 0 6] (some [0]))
(.ops [opO 2 (.mov (.c (.int .i64 32)))] none))
.skip))
(.seq (.seq (.ops [mvO 7 0,
opO 8 (.ibin .geq .u64 (.t 7) (.c (.int .u64 65536)))] (some [0, 2, 8]))
(.cond (.t 8)
(.seq (.ops [mvO 9 0,
opO 10 (.shift .shr .u64 (.t 9) (.c (.int .u64 16))),
mvO 0 10] (some [0, 2]))
(.ops [mvO 11 2,
opO 12 (.ibin .add .i64 (.t 11) (.c (.int .i64 16))),
mvO 2 12] (some [0, 2])))
.skip))
(.seq (.seq (.ops [mvO 13 0,
opO 14 (.ibin .geq .u64 (.t 13) (.c (.int .u64 256)))] (some [0, 2, 14]))
(.cond (.t 14)
(.seq (.ops [mvO 15 0,
opO 16 (.shift .shr .u64 (.t 15) (.c (.int .u64 8))),
mvO 0 16] (some [0, 2]))
(.ops [mvO 17 2,
opO 18 (.ibin .add .i64 (.t 17) (.c (.int .i64 8))),
mvO 2 18] (some [0, 2])))
.skip))
(.seq (.ops [mvO 19 2,
mvO 20 0,
opO 21 (.conv .u8 (.t 20)),
opO 22 (.indexS (.c (.string ⟨#[0, 1, 2, 2, 3, 3, 3, 3, 4, 4, 4, 4, 4, 4, 4, 4, 5, 5, 5, 5, 5, 5, 5, 5, 5, 5, 5, 5, 5, 5, 5, 5, 6, 6, 6, 6, 6, 6, 6, 6, 6, 6, 6, 6, 6, 6, 6, 6, 6, 6, 6, 6, 6, 6, 6, 6, 6, 6, 6, 6, 6, 6, 6, 6, 7, 7, 7, 7, 7, 7, 7, 7, 7, 7, 7, 7, 7, 7, 7, 7, 7, 7, 7, 7, 7, 7, 7, 7, 7, 7, 7, 7, 7, 7, 7, 7, 7, 7, 7, 7, 7, 7, 7, 7, 7, 7, 7, 7, 7, 7, 7, 7, 7, 7, 7, 7, 7, 7, 7, 7, 7, 7, 7, 7, 7, 7, 7, 7, 8, 8, 8, 8, 8, 8, 8, 8, 8, 8, 8, 8, 8, 8, 8, 8, 8, 8, 8, 8, 8, 8, 8, 8, 8, 8, 8, 8, 8, 8, 8, 8, 8, 8, 8, 8, 8, 8, 8, 8, 8, 8, 8, 8, 8, 8, 8, 8, 8, 8, 8, 8, 8, 8, 8, 8, 8, 8, 8, 8, 8, 8, 8, 8, 8, 8, 8, 8, 8, 8, 8, 8, 8, 8, 8, 8, 8, 8, 8, 8, 8, 8, 8, 8, 8, 8, 8, 8, 8, 8, 8, 8, 8, 8, 8, 8, 8, 8, 8, 8, 8, 8, 8, 8, 8, 8, 8, 8, 8, 8, 8, 8, 8, 8, 8, 8, 8, 8, 8, 8, 8, 8, 8, 8, 8, 8, 8, 8]⟩)) (.t 21)),
opO 23 (.conv .i64 (.t 22)),
opO 24 (.ibin .add .i64 (.t 19) (.t 23)),
mvO 2 24] (some [2]))
.ret)))))⟩
/-- slices.insertionSortCmpFunc[int] -/
def ir136 : IFn := ⟨53, [],
(.seq (.ops [mvO 10 1,
opO 11 (.ibin .add .i64 (.t 10) (.c (.int .i64 1))),
mvO 8 11] (some [0, 1, 2, 3, 8]))
(.block 0 (.loop (.seq (.seq (.ops [mvO 12 8,
mvO 13 2,
opO 14 (.ibin .lss .i64 (.t 12) (.t 13))] (some [0, 1, 2, 3, 8, 14]))
(.cond (.t 14)
.skip
(.exit 0)))
(.seq (.block 1 (.seq (.ops [mvO 17 8,
mvO 9 17] (some [0, 1, 2, 3, 8, 9]))
(.block 2 (.loop (.seq (.seq (.draw (.rd 0 (mvO 18 9)
(.rd 1 (mvO 19 1)
(.rd 2 (opO 20 (.ibin .gtr .i64 (.t 18) (.t 19)))
(.rd 3 (mvO 21 20)
(.rd 4 ⟨(some 22), (some (21, true)), .mov (.t 3)⟩
(.rd 5 ⟨(some 23), (some (21, true)), .mov (.t 0)⟩
(.rd 6 ⟨(some 24), (some (21, true)), .mov (.t 9)⟩
(.rd 7 ⟨(some 25), (some (21, true)), .iaddr 1 (.t 23) (.t 24)⟩
(.rd 8 ⟨(some 26), (some (21, true)), .load 1 false (.t 25)⟩
(.rd 9 ⟨(some 27), (some (21, true)), .mov (.t 0)⟩
(.rd 10 ⟨(some 28), (some (21, true)), .mov (.t 9)⟩
(.rd 11 ⟨(some 29), (some (21, true)), .ibin .sub .i64 (.t 28) (.c (.int .i64 1))⟩
(.rd 12 ⟨(some 30), (some (21, true)), .iaddr 1 (.t 27) (.t 29)⟩
(.rd 13 ⟨(some 31), (some (21, true)), .load 1 false (.t 30)⟩
(.wr 14 ⟨(some 32), (some (21, true)), .callv (.t 22) [(.t 26), (.t 31)]⟩ [4, 8, 13, 3, 3]
(.rd 15 ⟨(some 33), (some (21, true)), .ibin .lss .i64 (.t 32) (.c (.int .i64 0))⟩
(.rd 16 (opO 34 (.pick (.t 21) (.t 33) (.c (.bool false))))
.fin)) .no))))))))))))))) (some [0, 1, 2, 3, 8, 9, 34]))
(.cond (.t 34)
.skip
(.exit 2)))
(.seq (.block 3 (.draw (.rd 0 (mvO 37 0)
(.rd 1 (mvO 38 9)
(.rd 2 (mvO 39 0)
(.rd 3 (mvO 40 9)
(.rd 4 (opO 41 (.ibin .sub .i64 (.t 40) (.c (.int .i64 1))))
(.rd 5 (mvO 42 0)
(.rd 6 (mvO 43 9)
(.rd 7 (opO 44 (.ibin .sub .i64 (.t 43) (.c (.int .i64 1))))
(.rd 8 (opO 45 (.iaddr 1 (.t 42) (.t 44)))
(.rd 9 (opO 46 (.load 1 false (.t 45)))
(.rd 10 (mvO 47 0)
(.rd 11 (mvO 48 9)
(.rd 12 (opO 49 (.iaddr 1 (.t 47) (.t 48)))
(.rd 13 (opO 50 (.load 1 false (.t 49)))
(.rd 14 (opO 51 (.iaddr 1 (.t 37) (.t 38)))
(.wr 15 ⟨none, none, .store 1 (.t 51) (.t 46)⟩ [14, 9, 0, 1, 5, 6, 7, 8, 9, 13]
(.rd 16 (opO 52 (.iaddr 1 (.t 39) (.t 41)))
(.wr 17 ⟨none, none, .store 1 (.t 52) (.t 50)⟩ [16, 13, 15, 0, 1, 2, 3, 4, 5, 6, 7, 8, 9, 10, 11, 12, 13, 14, 15]
.fin .no)) .no)))))))))))))))) (some [0, 1, 2, 3, 8, 9])))
(.ops [mvO 35 9,
opO 36 (.ibin .sub .i64 (.t 35) (.c (.int .i64 1))),
mvO 9 36] (some [0, 1, 2, 3, 8, 9]))))))))
(.ops [mvO 15 8,
opO 16 (.ibin .add .i64 (.t 15) (.c (.int .i64 1))),
mvO 8 16] (some [0, 1, 2, 3, 8])))))))⟩
/-- slices.symMergeCmpFunc[int] -/
def ir137 : IFn := ⟨220, [],
(.seq (.seq (.ops [mvO 25 2,
mvO 26 1,
opO 27 (.ibin .sub .i64 (.t 25) (.t 26)),
opO 28 (.ibin .eql .i64 (.t 27) (.c (.int .i64 1)))] (some [0, 1, 2, 3, 4, 28]))
(.cond (.t 28)
(.seq (.ops [mvO 29 2,
mvO 10 29] (some [0, 1, 3, 4, 10]))
(.seq (.ops [mvO 30 3,
mvO 11 30] (some [0, 1, 4, 10, 11]))
(.seq (.block 0 (.loop (.seq (.seq (.ops [mvO 31 10,
mvO 32 11,
opO 33 (.ibin .lss .i64 (.t 31) (.t 32))] (some [0, 1, 4, 10, 11, 33]))
(.cond (.t 33)
.skip
(.exit 0)))
(.block 1 (.seq (.ops [mvO 34 10,
mvO 35 11,
opO 36 (.ibin .add .i64 (.t 34) (.t 35)),
opO 37 (.conv .u64 (.t 36)),
opO 38 (.shift .shr .u64 (.t 37) (.c (.int .u64 1))),
opO 39 (.conv .i64 (.t 38)),
mvO 12 39] (some [0, 1, 4, 10, 11, 12]))
(.seq (.draw (.rd 0 (mvO 40 4)
(.rd 1 (mvO 41 0)
(.rd 2 (mvO 42 12)
(.rd 3 (opO 43 (.iaddr 1 (.t 41) (.t 42)))
(.rd 4 (opO 44 (.load 1 false (.t 43)))
(.rd 5 (mvO 45 0)
(.rd 6 (mvO 46 1)
(.rd 7 (opO 47 (.iaddr 1 (.t 45) (.t 46)))
(.rd 8 (opO 48 (.load 1 false (.t 47)))
(.wr 9 (opO 49 (.callv (.t 40) [(.t 44), (.t 48)])) [0, 4, 8]
(.rd 10 (opO 50 (.ibin .lss .i64 (.t 49) (.c (.int .i64 0))))
.fin) .no)))))))))) (some [0, 1, 4, 10, 11, 12, 50]))
(.cond (.t 50)
(.ops [mvO 51 12,
opO 52 (.ibin .add .i64 (.t 51) (.c (.int .i64 1))),
mvO 10 52] (some [0, 1, 4, 10, 11]))
(.ops [mvO 53 12,
mvO 11 53] (some [0, 1, 4, 10, 11])))))))))
(.seq (.seq (.ops [mvO 54 1,
mvO 13 54] (some [0, 10, 13]))
(.block 2 (.loop (.seq (.seq (.ops [mvO 55 13,
mvO 56 10,
opO 57 (.ibin .sub .i64 (.t 56) (.c (.int .i64 1))),
opO 58 (.ibin .lss .i64 (.t 55) (.t 57))] (some [0, 10, 13, 58]))
(.cond (.t 58)
.skip
(.exit 2)))
(.seq (.block 3 (.draw (.rd 0 (mvO 61 0)
(.rd 1 (mvO 62 13)
(.rd 2 (mvO 63 0)
(.rd 3 (mvO 64 13)
(.rd 4 (opO 65 (.ibin .add .i64 (.t 64) (.c (.int .i64 1))))
(.rd 5 (mvO 66 0)
(.rd 6 (mvO 67 13)
(.rd 7 (opO 68 (.ibin .add .i64 (.t 67) (.c (.int .i64 1))))
(.rd 8 (opO 69 (.iaddr 1 (.t 66) (.t 68)))
(.rd 9 (opO 70 (.load 1 false (.t 69)))
(.rd 10 (mvO 71 0)
(.rd 11 (mvO 72 13)
(.rd 12 (opO 73 (.iaddr 1 (.t 71) (.t 72)))
(.rd 13 (opO 74 (.load 1 false (.t 73)))
(.rd 14 (opO 75 (.iaddr 1 (.t 61) (.t 62)))
(.wr 15 ⟨none, none, .store 1 (.t 75) (.t 70)⟩ [14, 9, 0, 1, 5, 6, 7, 8, 9, 13]
(.rd 16 (opO 76 (.iaddr 1 (.t 63) (.t 65)))
(.wr 17 ⟨none, none, .store 1 (.t 76) (.t 74)⟩ [16, 13, 15, 0, 1, 2, 3, 4, 5, 6, 7, 8, 9, 10, 11, 12, 13, 14, 15]
.fin .no)) .no)))))))))))))))) (some [0, 10, 13])))
(.ops [mvO 59 13,
opO 60 (.ibin .add .i64 (.t 59) (.c (.int .i64 1))),
mvO 13 60] (some [0, 10, 13])))))))
.ret))))
.skip))
(.seq (.seq (.ops [mvO 77 3,
mvO 78 2,
opO 79 (.ibin .sub .i64 (.t 77) (.t 78)),
opO 80 (.ibin .eql .i64 (.t 79) (.c (.int .i64 1)))] (some [0, 1, 2, 3, 4, 80]))
(.cond (.t 80)
(.seq (.ops [mvO 81 1,
mvO 14 81] (some [0, 2, 4, 14]))
(.seq (.ops [mvO 82 2,
mvO 15 82] (some [0, 2, 4, 14, 15]))
(.seq (.block 4 (.loop (.seq (.seq (.ops [mvO 83 14,
mvO 84 15,
opO 85 (.ibin .lss .i64 (.t 83) (.t 84))] (some [0, 2, 4, 14, 15, 85]))
(.cond (.t 85)
.skip
(.exit 4)))
(.block 5 (.seq (.ops [mvO 86 14,
mvO 87 15,
opO 88 (.ibin .add .i64 (.t 86) (.t 87)),
opO 89 (.conv .u64 (.t 88)),
opO 90 (.shift .shr .u64 (.t 89) (.c (.int .u64 1))),
opO 91 (.conv .i64 (.t 90)),
mvO 16 91] (some [0, 2, 4, 14, 15, 16]))
(.seq (.draw (.rd 0 (mvO 92 4)
(.rd 1 (mvO 93 0)
(.rd 2 (mvO 94 2)
(.rd 3 (opO 95 (.iaddr 1 (.t 93) (.t 94)))
(.rd 4 (opO 96 (.load 1 false (.t 95)))
(.rd 5 (mvO 97 0)
(.rd 6 (mvO 98 16)
(.rd 7 (opO 99 (.iaddr 1 (.t 97) (.t 98)))
(.rd 8 (opO 100 (.load 1 false (.t 99)))
(.wr 9 (opO 101 (.callv (.t 92) [(.t 96), (.t 100)])) [0, 4, 8]
(.rd 10 (opO 102 (.ibin .lss .i64 (.t 101) (.c (.int .i64 0))))
(.rd 11 (opO 103 (.un .not (.t 102)))
.fin)) .no)))))))))) (some [0, 2, 4, 14, 15, 16, 103]))
(.cond (.t 103)
(.ops [mvO 104 16,
opO 105 (.ibin .add .i64 (.t 104) (.c (.int .i64 1))),
mvO 14 105] (some [0, 2, 4, 14, 15]))
(.ops [mvO 106 16,
mvO 15 106] (some [0, 2, 4, 14, 15])))))))))
(.seq (.seq (.ops [mvO 107 2,
mvO 17 107] (some [0, 14, 17]))
(.block 6 (.loop (.seq (.seq (.ops [mvO 108 17,
mvO 109 14,
opO 110 (.ibin .gtr .i64 (.t 108) (.t 109))] (some [0, 14, 17, 110]))
(.cond (.t 110)
.skip
(.exit 6)))
(.seq (.block 7 (.draw (.rd 0 (mvO 113 0)
(.rd 1 (mvO 114 17)
(.rd 2 (mvO 115 0)
(.rd 3 (mvO 116 17)
(.rd 4 (opO 117 (.ibin .sub .i64 (.t 116) (.c (.int .i64 1))))
(.rd 5 (mvO 118 0)
(.rd 6 (mvO 119 17)
(.rd 7 (opO 120 (.ibin .sub .i64 (.t 119) (.c (.int .i64 1))))
(.rd 8 (opO 121 (.iaddr 1 (.t 118) (.t 120)))
(.rd 9 (opO 122 (.load 1 false (.t 121)))
(.rd 10 (mvO 123 0)
(.rd 11 (mvO 124 17)
(.rd 12 (opO 125 (.iaddr 1 (.t 123) (.t 124)))
(.rd 13 (opO 126 (.load 1 false (.t 125)))
(.rd 14 (opO 127 (.iaddr 1 (.t 113) (.t 114)))
(.wr 15 ⟨none, none, .store 1 (.t 127) (.t 122)⟩ [14, 9, 0, 1, 5, 6, 7, 8, 9, 13]
(.rd 16 (opO 128 (.iaddr 1 (.t 115) (.t 117)))
(.wr 17 ⟨none, none, .store 1 (.t 128) (.t 126)⟩ [16, 13, 15, 0, 1, 2, 3, 4, 5, 6, 7, 8, 9, 10, 11, 12, 13, 14, 15]
.fin .no)) .no)))))))))))))))) (some [0, 14, 17])))
(.ops [mvO 111 17,
opO 112 (.ibin .sub .i64 (.t 111) (.c (.int .i64 1))),
mvO 17 112] (some [0, 14, 17])))))))
.ret))))
.skip))
(.seq (.ops [mvO 129 1,
mvO 130 3,
opO 131 (.ibin .add .i64 (.t 129) (.t 130)),
opO 132 (.conv .u64 (.t 131)),
opO 133 (.shift .shr .u64 (.t 132) (.c (.int .u64 1))),
opO 134 (.conv .i64 (.t 133)),
mvO 18 134] (some [0, 1, 2, 3, 4, 18]))
(.seq (.ops [mvO 135 18,
mvO 136 2,
opO 137 (.ibin .add .i64 (.t 135) (.t 136)),
mvO 19 137] (some [0, 1, 2, 3, 4, 18, 19]))
(.seq (.ops [opO 20 (.mov (.c (.int .i64 0))),
opO 21 (.mov (.c (.int .i64 0)))] (some [0, 1, 2, 3, 4, 18, 19]))
(.seq (.seq (.ops [mvO 138 2,
mvO 139 18,
opO 140 (.ibin .gtr .i64 (.t 138) (.t 139))] (some [0, 1, 2, 3, 4, 18, 19, 140]))
(.cond (.t 140)
(.seq (.ops [mvO 141 19,
mvO 142 3,
opO 143 (.ibin .sub .i64 (.t 141) (.t 142)),
mvO 20 143] (some [0, 1, 2, 3, 4, 18, 19, 20]))
(.ops [mvO 144 18,
mvO 21 144] (some [0, 1, 2, 3, 4, 18, 19, 20, 21])))
(.seq (.ops [mvO 145 1,
mvO 20 145] (some [0, 1, 2, 3, 4, 18, 19, 20]))
(.ops [mvO 146 2,
mvO 21 146] (some [0, 1, 2, 3, 4, 18, 19, 20, 21])))))
(.seq (.ops [mvO 147 19,
opO 148 (.ibin .sub .i64 (.t 147) (.c (.int .i64 1))),
mvO 22 148] (some [0, 1, 2, 3, 4, 18, 19, 20, 21, 22]))
(.seq (.block 8 (.loop (.seq (.seq (.ops [mvO 149 20,
mvO 150 21,
opO 151 (.ibin .lss .i64 (.t 149) (.t 150))] (some [0, 1, 2, 3, 4, 18, 19, 20, 21, 22, 151]))
(.cond (.t 151)
.skip
(.exit 8)))
(.block 9 (.seq (.ops [mvO 152 20,
mvO 153 21,
opO 154 (.ibin .add .i64 (.t 152) (.t 153)),
opO 155 (.conv .u64 (.t 154)),
opO 156 (.shift .shr .u64 (.t 155) (.c (.int .u64 1))),
opO 157 (.conv .i64 (.t 156)),
mvO 23 157] (some [0, 1, 2, 3, 4, 18, 19, 20, 21, 22, 23]))
(.seq (.draw (.rd 0 (mvO 158 4)
(.rd 1 (mvO 159 0)
(.rd 2 (mvO 160 22)
(.rd 3 (mvO 161 23)
(.rd 4 (opO 162 (.ibin .sub .i64 (.t 160) (.t 161)))
(.rd 5 (opO 163 (.iaddr 1 (.t 159) (.t 162)))
(.rd 6 (opO 164 (.load 1 false (.t 163)))
(.rd 7 (mvO 165 0)
(.rd 8 (mvO 166 23)
(.rd 9 (opO 167 (.iaddr 1 (.t 165) (.t 166)))
(.rd 10 (opO 168 (.load 1 false (.t 167)))
(.wr 11 (opO 169 (.callv (.t 158) [(.t 164), (.t 168)])) [0, 6, 10]
(.rd 12 (opO 170 (.ibin .lss .i64 (.t 169) (.c (.int .i64 0))))
(.rd 13 (opO 171 (.un .not (.t 170)))
.fin)) .no)))))))))))) (some [0, 1, 2, 3, 4, 18, 19, 20, 21, 22, 23, 171]))
(.cond (.t 171)
(.ops [mvO 172 23,
opO 173 (.ibin .add .i64 (.t 172) (.c (.int .i64 1))),
mvO 20 173] (some [0, 1, 2, 3, 4, 18, 19, 20, 21, 22]))
(.ops [mvO 174 23,
mvO 21 174] (some [0, 1, 2, 3, 4, 18, 19, 20, 21, 22])))))))))
(.seq (.ops [mvO 175 19,
mvO 176 20,
opO 177 (.ibin .sub .i64 (.t 175) (.t 176)),
mvO 24 177] (some [0, 1, 2, 3, 4, 18, 20, 24]))
(.seq (.seq (.ops [mvO 178 20,
mvO 179 2,
opO 180 (.ibin .lss .i64 (.t 178) (.t 179)),
mvO 181 180,
⟨(some 182), (some (181, true)), .mov (.t 2)⟩,
⟨(some 183), (some (181, true)), .mov (.t 24)⟩,
⟨(some 184), (some (181, true)), .ibin .lss .i64 (.t 182) (.t 183)⟩,
opO 185 (.pick (.t 181) (.t 184) (.c (.bool false)))] (some [0, 1, 2, 3, 4, 18, 20, 24, 185]))
(.cond (.t 185)
(.ops [mvO 186 0,
mvO 187 20,
mvO 188 2,
mvO 189 24,
mvO 190 4,
opO 191 (.call 144 [(.t 186), (.t 187), (.t 188), (.t 189), (.t 190)])] (some [0, 1, 3, 4, 18, 20, 24]))
.skip))
(.seq (.seq (.ops [mvO 192 1,
mvO 193 20,
opO 194 (.ibin .lss .i64 (.t 192) (.t 193)),
mvO 195 194,
⟨(some 196), (some (195, true)), .mov (.t 20)⟩,
⟨(some 197), (some (195, true)), .mov (.t 18)⟩,
⟨(some 198), (some (195, true)), .ibin .lss .i64 (.t 196) (.t 197)⟩,
opO 199 (.pick (.t 195) (.t 198) (.c (.bool false)))] (some [0, 1, 3, 4, 18, 20, 24, 199]))
(.cond (.t 199)
(.ops [mvO 200 0,
mvO 201 1,
mvO 202 20,
mvO 203 18,
mvO 204 4,
opO 205 (.call 137 [(.t 200), (.t 201), (.t 202), (.t 203), (.t 204)])] (some [0, 3, 4, 18, 24]))
.skip))
(.seq (.ops [mvO 206 18,
mvO 207 24,
opO 208 (.ibin .lss .i64 (.t 206) (.t 207)),
mvO 209 208,
⟨(some 210), (some (209, true)), .mov (.t 24)⟩,
⟨(some 211), (some (209, true)), .mov (.t 3)⟩,
⟨(some 212), (some (209, true)), .ibin .lss .i64 (.t 210) (.t 211)⟩,
opO 213 (.pick (.t 209) (.t 212) (.c (.bool false)))] (some [0, 3, 4, 18, 24, 213]))
(.cond (.t 213)
(.ops [mvO 214 0,
mvO 215 18,
mvO 216 24,
mvO 217 3,
mvO 218 4,
opO 219 (.call 137 [(.t 214), (.t 215), (.t 216), (.t 217), (.t 218)])] (some []))
.skip)))))))))))))⟩
/-- slices.Contains[[]int,int] -/
def ir138 : IFn := ⟨9, [.t 4],
(.seq (.ops [opO 4 (.mov (.c (.bool false)))] (some [0, 1]))
(.seq (.ops [mvO 5 0,
mvO 6 1,
opO 7 (.call 145 [(.t 5), (.t 6)]),
opO 8 (.ibin .geq .i64 (.t 7) (.c (.int .i64 0))),
mvO 4 8] (some [4]))
.ret))⟩
/-- slices.Index[[]int,int] -/
def ir145 : IFn := ⟨19, [.t 4],
(.seq (.ops [opO 4 (.mov (.c (.int .i64 0)))] (some [0, 1]))
(.seq (.seq (.ops [mvO 6 0,
opO 7 (.lenV (.t 6)),
opO 8 (.mov (.c (.int .i64 0)))] (some [0, 1, 7, 8]))
(.block 0 (.loop (.seq (.ops [opO 9 (.ibin .lss .i64 (.t 8) (.t 7))] none)
(.seq (.cond (.t 9)
.skip
(.exit 0))
(.seq (.block 1 (.seq (.ops [mvO 10 8,
mvO 5 10] (some [0, 1, 5, 7, 8]))
(.seq (.ops [mvO 11 1,
mvO 12 0,
mvO 13 5,
opO 14 (.iaddr 1 (.t 12) (.t 13)),
opO 15 (.load 1 false (.t 14)),
opO 16 (.ibin .eql .i64 (.t 11) (.t 15))] (some [0, 1, 5, 7, 8, 16]))
(.cond (.t 16)
(.seq (.ops [mvO 17 5,
mvO 4 17] (some [4]))
.ret)
.skip))))
(.ops [opO 18 (.ibin .add .i64 (.t 8) (.c (.int .i64 1))),
mvO 8 18] (some [0, 1, 7, 8]))))))))
(.seq (.ops [opO 4 (.mov (.c (.int .i64 (-1))))] none)
.ret)))⟩
/-- guidevane/guidevanelaw08.awake -/
def ir198 : IFn := ⟨97, [.t 0],
(.seq (.ops [opO 0 (.mov (.c (.bool false)))] (some []))
(.seq (.ops [opO 14 (.call 207 []),
opO 15 (.call 208 []),
opO 16 (.call 206 [(.t 14), (.t 15)]),
mvO 13 16,
opO 17 (.extract 0 (.t 13)),
opO 18 (.extract 1 (.t 13)),
opO 19 (.extract 2 (.t 13)),
mvO 1 17,
mvO 2 18,
mvO 3 19] (some [1, 2, 3]))
(.seq (.ops [opO 21 (.call 207 []),
opO 22 (.call 208 []),
opO 23 (.bslice 2 1 [(.int .i64 0)] [(0, 1, (.c (.int .i64 0))), (1, 1, (.c (.int .i64 2)))]),
opO 24 (.build [(.slice none 0 0), (.int .i64 0)] [(0, 1, (.t 23)), (1, 1, (.c (.int .i64 2)))]),
opO 25 (.call 209 [(.t 21), (.t 22), (.t 24)]),
mvO 20 25,
opO 26 (.extract 0 (.t 20)),
opO 27 (.extract 1 (.t 20)),
mvO 4 26,
mvO 5 27] (some [1, 2, 3, 4, 5]))
(.seq (.ops [opO 29 (.bslice 3 1 [(.int .i64 0)] [(0, 1, (.c (.int .i64 12))), (1, 1, (.c (.int .i64 12))), (2, 1, (.c (.int .i64 3)))]),
opO 30 (.bslice 3 1 [(.int .i64 0)] [(0, 1, (.c (.int .i64 5))), (1, 1, (.c (.int .i64 10))), (2, 1, (.c (.int .i64 5)))]),
opO 31 (.call 201 [(.t 29), (.t 30)]),
mvO 28 31,
opO 32 (.extract 0 (.t 28)),
opO 33 (.extract 1 (.t 28)),
opO 6 (.alloc [(.int .i64 0), (.int .i64 0), (.int .i64 0)]),
⟨none, none, .store 3 (.t 6) (.t 32)⟩,
mvO 7 33] (some [1, 2, 3, 4, 5, 6, 7]))
(.seq (.ops [opO 35 (.call 211 []),
opO 36 (.call 210 [(.t 35)]),
mvO 34 36,
opO 37 (.extract 0 (.t 34)),
opO 38 (.extract 1 (.t 34)),
opO 39 (.extract 2 (.t 34)),
mvO 8 37,
mvO 9 38,
mvO 10 39] (some [1, 2, 3, 4, 5, 6, 7, 8, 9, 10]))
(.seq (.ops [opO 41 (.call 207 []),
opO 42 (.call 208 []),
opO 43 (.call 212 [(.t 41), (.t 42), (.c (.int .i64 2))]),
mvO 40 43,
opO 44 (.extract 0 (.t 40)),
opO 45 (.extract 1 (.t 40)),
mvO 11 44,
mvO 12 45] (some [1, 2, 3, 4, 5, 6, 7, 8, 9, 10, 11, 12]))
(.seq (.ops [mvO 46 3,
opO 47 (.ibin .eql .i64 (.t 46) (.c (.int .i64 0))),
mvO 48 47,
⟨(some 49), (some (48, true)), .mov (.t 1)⟩,
⟨(some 50), (some (48, true)), .bslice 2 1 [(.int .i64 0)] [(0, 1, (.c (.int .i64 0))), (1, 1, (.c (.int .i64 2)))]⟩,
⟨(some 51), (some (48, true)), .call 26 [(.t 49), (.t 50)]⟩,
opO 52 (.pick (.t 48) (.t 51) (.c (.bool false))),
mvO 53 52,
⟨(some 54), (some (53, true)), .mov (.t 2)⟩,
⟨(some 55), (some (53, true)), .ibin .eql .i64 (.t 54) (.c (.int .i64 30))⟩,
opO 56 (.pick (.t 53) (.t 55) (.c (.bool false))),
mvO 57 56,
⟨(some 58), (some (57, true)), .mov (.t 5)⟩,
⟨(some 59), (some (57, true)), .ibin .eql .i64 (.t 58) (.c (.int .i64 0))⟩,
opO 60 (.pick (.t 57) (.t 59) (.c (.bool false))),
mvO 61 60,
⟨(some 62), (some (61, true)), .mov (.t 4)⟩,
⟨(some 63), (some (61, true)), .bslice 2 1 [(.int .i64 0)] [(0, 1, (.c (.int .i64 1))), (1, 1, (.c (.int .i64 1)))]⟩,
⟨(some 64), (some (61, true)), .call 26 [(.t 62), (.t 63)]⟩,
opO 65 (.pick (.t 61) (.t 64) (.c (.bool false))),
mvO 66 65,
⟨(some 67), (some (66, true)), .mov (.t 7)⟩,
⟨(some 68), (some (66, true)), .ibin .eql .i64 (.t 67) (.c (.int .i64 0))⟩,
opO 69 (.pick (.t 66) (.t 68) (.c (.bool false))),
mvO 70 69,
⟨(some 71), (some (70, true)), .load 3 true (.t 6)⟩,
⟨(some 72), (some (70, true)), .build [(.int .i64 0), (.int .i64 0), (.int .i64 0)] [(0, 1, (.c (.int .i64 18))), (1, 1, (.c (.int .i64 9))), (2, 1, (.c (.int .i64 2)))]⟩,
⟨(some 73), (some (70, true)), .eqv (.fld 0 1 (.int .i64) (.fld 1 1 (.int .i64) (.fld 2 1 (.int .i64) .nil))) false (.t 71) (.t 72)⟩,
opO 74 (.pick (.t 70) (.t 73) (.c (.bool false))),
mvO 75 74,
⟨(some 76), (some (75, true)), .mov (.t 10)⟩,
⟨(some 77), (some (75, true)), .ibin .eql .i64 (.t 76) (.c (.int .i64 0))⟩,
opO 78 (.pick (.t 75) (.t 77) (.c (.bool false))),
mvO 79 78,
⟨(some 80), (some (79, true)), .mov (.t 8)⟩,
⟨(some 81), (some (79, true)), .bslice 3 1 [(.int .i64 0)] [(0, 1, (.c (.int .i64 0))), (1, 1, (.c (.int .i64 1))), (2, 1, (.c (.int .i64 2)))]⟩,
⟨(some 82), (some (79, true)), .call 26 [(.t 80), (.t 81)]⟩,
opO 83 (.pick (.t 79) (.t 82) (.c (.bool false))),
mvO 84 83,
⟨(some 85), (some (84, true)), .mov (.t 9)⟩,
⟨(some 86), (some (84, true)), .ibin .eql .i64 (.t 85) (.c (.int .i64 1))⟩,
opO 87 (.pick (.t 84) (.t 86) (.c (.bool false))),
mvO 88 87,
⟨(some 89), (some (88, true)), .mov (.t 12)⟩,
⟨(some 90), (some (88, true)), .ibin .eql .i64 (.t 89) (.c (.int .i64 0))⟩,
opO 91 (.pick (.t 88) (.t 90) (.c (.bool false))),
mvO 92 91,
⟨(some 93), (some (92, true)), .mov (.t 11)⟩,
⟨(some 94), (some (92, true)), .bslice 3 1 [(.int .i64 0)] [(0, 1, (.c (.int .i64 2))), (1, 1, (.c (.int .i64 5))), (2, 1, (.c (.int .i64 8)))]⟩,
⟨(some 95), (some (92, true)), .call 26 [(.t 93), (.t 94)]⟩,
opO 96 (.pick (.t 92) (.t 95) (.c (.bool false))),
mvO 0 96] (some [0]))
.ret)))))))⟩
/-- guidevane/dispatch.SettledOf -/
def ir201 : IFn := ⟨81, [.cell 4 3 true, .t 5],
(.seq (.ops [opO 4 (.alloc [(.int .i64 0), (.int .i64 0), (.int .i64 0)]),
opO 5 (.mov (.c (.int .i64 0)))] (some [0, 1, 4]))
(.seq (.seq (.ops [mvO 12 0,
opO 13 (.call 217 [(.t 12)]),
mvO 14 1,
opO 15 (.call 217 [(.t 14)]),
mvO 16 0,
opO 17 (.lenV (.t 16)),
mvO 18 1,
opO 19 (.lenV (.t 18)),
opO 20 (.ibin .eql .i64 (.t 17) (.t 19)),
opO 21 (.call 214 [(.t 20), (.c (.int .i64 10))]),
opO 22 (.bslice 3 1 [(.int .i64 0)] [(0, 1, (.t 13)), (1, 1, (.t 15)), (2, 1, (.t 21))]),
opO 23 (.call 213 [(.t 22)]),
mvO 6 23] (some [0, 1, 4, 6]))
(.seq (.ops [mvO 24 6,
opO 25 (.ibin .neq .i64 (.t 24) (.c (.int .i64 0)))] (some [0, 1, 4, 6, 25]))
(.cond (.t 25)
(.seq (.ops [opO 26 (.build [(.int .i64 0), (.int .i64 0), (.int .i64 0)] []),
mvO 27 6,
⟨none, none, .store 3 (.t 4) (.t 26)⟩,
mvO 5 27] (some [4, 5]))
.ret)
.skip)))
(.seq (.ops [opO 7 (.alloc [(.int .i64 0), (.int .i64 0), (.int .i64 0)])] none)
(.seq (.seq (.ops [mvO 28 0,
opO 29 (.lenV (.t 28)),
opO 30 (.mov (.c (.int .i64 0)))] (some [1, 4, 7, 28, 29, 30]))
(.block 0 (.loop (.seq (.ops [opO 31 (.ibin .lss .i64 (.t 30) (.t 29))] none)
(.seq (.cond (.t 31)
.skip
(.exit 0))
(.seq (.block 1 (.seq (.ops [mvO 32 30,
opO 33 (.iaddr 1 (.t 28) (.t 30)),
opO 34 (.load 1 false (.t 33)),
mvO 8 32,
mvO 9 34] (some [1, 4, 7, 8, 9, 28, 29, 30]))
(.seq (.ops [mvO 35 1,
mvO 36 8,
opO 37 (.iaddr 1 (.t 35) (.t 36)),
opO 38 (.load 1 false (.t 37)),
mvO 10 38] (some [1, 4, 7, 9, 10, 28, 29, 30]))
(.seq (.ops [opO 11 (.mov (.c (.int .i64 0)))] none)
(.seq (.seq (.ops [mvO 39 9,
opO 40 (.ibin .gtr .i64 (.t 39) (.c (.int .i64 0))),
mvO 41 40,
⟨(some 42), (some (41, true)), .mov (.t 10)⟩,
⟨(some 43), (some (41, true)), .ibin .gtr .i64 (.t 42) (.c (.int .i64 0))⟩,
opO 44 (.pick (.t 41) (.t 43) (.c (.bool false))),
mvO 45 44,
⟨(some 46), (some (45, false)), .mov (.t 9)⟩,
⟨(some 47), (some (45, false)), .ibin .lss .i64 (.t 46) (.c (.int .i64 0))⟩,
⟨(some 48), (some (45, false)), .mov (.t 47)⟩,
⟨(some 49), (some (48, true)), .mov (.t 10)⟩,
⟨(some 50), (some (48, true)), .ibin .lss .i64 (.t 49) (.c (.int .i64 0))⟩,
⟨(some 51), (some (45, false)), .pick (.t 48) (.t 50) (.c (.bool false))⟩,
opO 52 (.pick (.t 45) (.c (.bool true)) (.t 51))] (some [1, 4, 7, 9, 10, 11, 28, 29, 30, 52]))
(.cond (.t 52)
(.ops [mvO 53 9,
opO 54 (.call 218 [(.t 53)]),
mvO 55 10,
opO 56 (.call 218 [(.t 55)]),
opO 57 (.minmax false (.t 54) [(.t 56)]),
mvO 11 57] (some [1, 4, 7, 9, 10, 11, 28, 29, 30]))
.skip))
(.seq (.ops [opO 58 (.faddr 0 (.t 7)),
opO 59 (.load 1 false (.t 58)),
mvO 60 11,
opO 61 (.ibin .add .i64 (.t 59) (.t 60)),
opO 62 (.faddr 0 (.t 7)),
⟨none, none, .store 1 (.t 62) (.t 61)⟩] (some [1, 4, 7, 9, 10, 11, 28, 29, 30]))
(.seq (.draw (.rd 0 (opO 63 (.faddr 1 (.t 7)))
(.rd 1 (opO 64 (.load 1 false (.t 63)))
(.rd 2 (mvO 65 9)
(.rd 4 (mvO 67 11)
(.wr 3 (opO 66 (.call 218 [(.t 65)])) [2]
(.rd 5 (opO 68 (.ibin .sub .i64 (.t 66) (.t 67)))
(.rd 6 (opO 69 (.ibin .add .i64 (.t 64) (.t 68)))
(.rd 7 (opO 70 (.faddr 1 (.t 7)))
(.wr 8 ⟨none, none, .store 1 (.t 70) (.t 69)⟩ [7, 6, 3, 0, 1, 2, 3, 4, 5, 6]
.fin .no)))) .no))))) (some [1, 4, 7, 10, 11, 28, 29, 30]))
(.draw (.rd 0 (opO 71 (.faddr 2 (.t 7)))
(.rd 1 (opO 72 (.load 1 false (.t 71)))
(.rd 2 (mvO 73 10)
(.rd 4 (mvO 75 11)
(.wr 3 (opO 74 (.call 218 [(.t 73)])) [2]
(.rd 5 (opO 76 (.ibin .sub .i64 (.t 74) (.t 75)))
(.rd 6 (opO 77 (.ibin .add .i64 (.t 72) (.t 76)))
(.rd 7 (opO 78 (.faddr 2 (.t 7)))
(.wr 8 ⟨none, none, .store 1 (.t 78) (.t 77)⟩ [7, 6, 3, 0, 1, 2, 3, 4, 5, 6]
.fin .no)))) .no))))) (some [1, 4, 7, 28, 29, 30])))))))))
(.ops [opO 79 (.ibin .add .i64 (.t 30) (.c (.int .i64 1))),
mvO 30 79] (some [1, 4, 7, 28, 29, 30]))))))))
(.seq (.ops [opO 80 (.load 3 true (.t 7)),
⟨none, none, .store 3 (.t 4) (.t 80)⟩,
opO 5 (.mov (.c (.int .i64 0)))] (some [4, 5]))
.ret)))))⟩
/-- guidevane/dispatch.BestPlan -/
def ir206 : IFn := ⟨32, [.t 4, .t 5, .t 6],
(.seq (.ops [opO 2 (.box (.t 0)),
opO 3 (.box (.t 1)),
opO 4 (.mov (.c (.slice none 0 0))),
opO 5 (.mov (.c (.int .i64 0))),
opO 6 (.mov (.c (.int .i64 0)))] (some [2, 3]))
(.seq (.ops [opO 13 (.load 3 true (.t 2)),
opO 14 (.load 4 true (.t 3)),
opO 15 (.call 219 [(.t 13), (.t 14)]),
mvO 12 15,
opO 16 (.extract 0 (.t 12)),
opO 17 (.extract 1 (.t 12)),
opO 7 (.alloc [(.int .i64 0), (.int .i64 0), (.slice none 0 0), (.int .i64 0), (.int .i64 0), (.int .i64 0), (.slice none 0 0)]),
⟨none, none, .store 7 (.t 7) (.t 16)⟩,
mvO 8 17] (some [7, 8]))
(.seq (.seq (.ops [mvO 18 8,
opO 19 (.ibin .neq .i64 (.t 18) (.c (.int .i64 0)))] (some [7, 8, 19]))
(.cond (.t 19)
(.seq (.ops [mvO 20 8,
opO 4 (.mov (.c (.slice none 0 0))),
opO 5 (.mov (.c (.int .i64 0))),
mvO 6 20] (some [4, 5, 6]))
.ret)
.skip))
(.seq (.ops [opO 22 (.load 7 true (.t 7)),
opO 23 (.build [(.int .i64 0), (.int .i64 0)] [(0, 1, (.c (.int .i64 (-1))))]),
opO 24 (.call 220 [(.t 22), (.t 23)]),
mvO 21 24,
opO 25 (.extract 0 (.t 21)),
opO 26 (.extract 1 (.t 21)),
opO 27 (.extract 2 (.t 21)),
mvO 9 25,
mvO 10 26,
mvO 11 27] (some [9, 10, 11]))
(.seq (.ops [mvO 28 9,
mvO 29 10,
mvO 30 11,
opO 31 (.call 214 [(.t 30), (.c (.int .i64 12))]),
mvO 4 28,
mvO 5 29,
mvO 6 31] (some [4, 5, 6]))
.ret)))))⟩
/-- guidevane/guidevanelaw08.Plant -/
def ir207 : IFn := ⟨6, [.cell 0 3 true],
(.seq (.ops [opO 0 (.alloc [(.int .i64 0), (.int .i64 0), (.slice none 0 0)])] none)
(.seq (.ops [opO 1 (.build [(.string ⟨#[]⟩), (.int .i64 0), (.int .i64 0), (.int .i64 0)] [(0, 1, (.c (.string ⟨#[114, 101, 115, 116]⟩)))]),
opO 2 (.build [(.string ⟨#[]⟩), (.int .i64 0), (.int .i64 0), (.int .i64 0)] [(0, 1, (.c (.string ⟨#[112, 117, 109, 112]⟩))), (1, 1, (.c (.int .i64 3))), (2, 1, (.c (.int .i64 (-4)))), (3, 1, (.c (.int .i64 5)))]),
opO 3 (.build [(.string ⟨#[]⟩), (.int .i64 0), (.int .i64 0), (.int .i64 0)] [(0, 1, (.c (.string ⟨#[116, 117, 114, 98, 105, 110, 101]⟩))), (1, 1, (.c (.int .i64 (-3)))), (2, 1, (.c (.int .i64 3))), (3, 1, (.c (.int .i64 2)))]),
opO 4 (.bslice 3 4 [(.string ⟨#[]⟩), (.int .i64 0), (.int .i64 0), (.int .i64 0)] [(0, 4, (.t 1)), (4, 4, (.t 2)), (8, 4, (.t 3))]),
opO 5 (.build [(.int .i64 0), (.int .i64 0), (.slice none 0 0)] [(1, 1, (.c (.int .i64 10))), (2, 1, (.t 4))]),
⟨none, none, .store 3 (.t 0) (.t 5)⟩] (some [0]))
.ret))⟩
/-- guidevane/guidevanelaw08.Task -/
def ir208 : IFn := ⟨5, [.cell 0 4 true],
(.seq (.ops [opO 0 (.alloc [(.int .i64 0), (.int .i64 0), (.int .i64 0), (.slice none 0 0)])] none)
(.seq (.ops [opO 1 (.build [(.int .i64 0), (.int .i64 0), (.int .i64 0)] [(0, 1, (.c (.int .i64 2))), (1, 1, (.c (.int .i64 1)))]),
opO 2 (.build [(.int .i64 0), (.int .i64 0), (.int .i64 0)] [(0, 1, (.c (.int .i64 12))), (1, 1, (.c (.int .i64 10))), (2, 1, (.c (.int .i64 1)))]),
opO 3 (.bslice 2 3 [(.int .i64 0), (.int .i64 0), (.int .i64 0)] [(0, 3, (.t 1)), (3, 3, (.t 2))]),
opO 4 (.build [(.int .i64 0), (.int .i64 0), (.int .i64 0), (.slice none 0 0)] [(0, 1, (.c (.int .i64 4))), (2, 1, (.c (.int .i64 1))), (3, 1, (.t 3))]),
⟨none, none, .store 4 (.t 0) (.t 4)⟩] (some [0]))
.ret))⟩
/-- guidevane/dispatch.ReserveOf -/
def ir209 : IFn := ⟨53, [.t 6, .t 7],
(.seq (.ops [opO 3 (.box (.t 0)),
opO 4 (.box (.t 1)),
opO 5 (.box (.t 2)),
opO 6 (.mov (.c (.slice none 0 0))),
opO 7 (.mov (.c (.int .i64 0)))] (some [3, 4, 5]))
(.seq (.ops [opO 14 (.load 3 true (.t 3)),
opO 15 (.load 4 true (.t 4)),
opO 16 (.faddr 0 (.t 5)),
opO 17 (.load 1 false (.t 16)),
opO 18 (.call 221 [(.t 14), (.t 15), (.t 17)]),
mvO 13 18,
opO 19 (.extract 0 (.t 13)),
opO 20 (.extract 1 (.t 13)),
opO 21 (.extract 2 (.t 13)),
opO 8 (.alloc [(.int .i64 0), (.int .i64 0), (.slice none 0 0), (.int .i64 0), (.int .i64 0), (.int .i64 0), (.slice none 0 0)]),
⟨none, none, .store 7 (.t 8) (.t 19)⟩,
mvO 9 20,
mvO 10 21] (some [4, 5, 8, 9, 10]))
(.seq (.seq (.ops [mvO 22 10,
opO 23 (.load 7 true (.t 8)),
opO 24 (.faddr 1 (.t 5)),
opO 25 (.load 1 false (.t 24)),
opO 26 (.call 222 [(.t 23), (.t 25)]),
opO 27 (.call 214 [(.t 26), (.c (.int .i64 6))]),
opO 28 (.bslice 2 1 [(.int .i64 0)] [(0, 1, (.t 22)), (1, 1, (.t 27))]),
opO 29 (.call 213 [(.t 28)]),
mvO 10 29] (some [4, 5, 8, 9, 10]))
(.seq (.ops [mvO 30 10,
opO 31 (.ibin .neq .i64 (.t 30) (.c (.int .i64 0)))] (some [4, 5, 8, 9, 10, 31]))
(.cond (.t 31)
(.seq (.ops [mvO 32 10,
opO 6 (.mov (.c (.slice none 0 0))),
mvO 7 32] (some [6, 7]))
.ret)
.skip)))
(.seq (.ops [opO 11 (.mov (.c (.slice none 0 0)))] none)
(.seq (.seq (.ops [opO 33 (.faddr 3 (.t 4)),
opO 34 (.load 1 false (.t 33)),
opO 35 (.lenV (.t 34)),
opO 36 (.mov (.c (.int .i64 0)))] (some [5, 8, 9, 11, 35, 36]))
(.block 0 (.loop (.seq (.ops [opO 37 (.ibin .lss .i64 (.t 36) (.t 35))] none)
(.seq (.cond (.t 37)
.skip
(.exit 0))
(.seq (.block 1 (.seq (.ops [mvO 38 36,
mvO 12 38] (some [5, 8, 9, 11, 12, 35, 36]))
(.draw (.rd 0 (mvO 39 11)
(.rd 1 (opO 40 (.load 7 true (.t 8)))
(.rd 2 (mvO 41 9)
(.rd 3 (mvO 42 12)
(.rd 4 (opO 43 (.iaddr 1 (.t 41) (.t 42)))
(.rd 5 (opO 44 (.load 1 false (.t 43)))
(.rd 6 (mvO 45 12)
(.rd 7 (opO 46 (.faddr 1 (.t 5)))
(.rd 8 (opO 47 (.load 1 false (.t 46)))
(.wr 9 (opO 48 (.call 223 [(.t 40), (.t 44), (.t 45), (.t 47)])) [1, 5, 6, 8]
(.wr 10 (opO 49 (.bslice 1 1 [(.int .i64 0)] [(0, 1, (.t 48))])) [9]
(.wr 11 (opO 50 (.append 1 8 (.t 39) (.t 49))) [0, 10, 9]
(.wr 12 (mvO 11 50) [11, 11, 0, 1, 2, 3, 4, 5, 6, 7, 8, 9, 10, 11]
.fin .no) .no) .no) .no)))))))))) (some [5, 8, 9, 11, 35, 36]))))
(.ops [opO 51 (.ibin .add .i64 (.t 36) (.c (.int .i64 1))),
mvO 36 51] (some [5, 8, 9, 11, 35, 36]))))))))
(.seq (.ops [mvO 52 11,
mvO 6 52,
opO 7 (.mov (.c (.int .i64 0)))] (some [6, 7]))
.ret))))))⟩
/-- guidevane/dispatch.BestOrder -/
def ir210 : IFn := ⟨71, [.t 2, .t 3, .t 4],
(.seq (.ops [opO 2 (.mov (.c (.slice none 0 0))),
opO 3 (.mov (.c (.int .i64 0))),
opO 4 (.mov (.c (.int .i64 0)))] (some [0]))
(.seq (.ops [mvO 15 0,
opO 16 (.call 224 [(.t 15)]),
mvO 14 16,
opO 17 (.extract 0 (.t 14)),
opO 18 (.extract 1 (.t 14)),
mvO 5 17,
mvO 6 18] (some [5, 6]))
(.seq (.seq (.ops [mvO 19 6,
opO 20 (.ibin .neq .i64 (.t 19) (.c (.int .i64 0)))] (some [5, 6, 20]))
(.cond (.t 20)
(.seq (.ops [mvO 21 6,
opO 2 (.mov (.c (.slice none 0 0))),
opO 3 (.mov (.c (.int .i64 0))),
mvO 4 21] (some [2, 3, 4]))
.ret)
.skip))
(.seq (.ops [mvO 22 5,
opO 23 (.call 225 [(.t 22)]),
mvO 7 23] (some [5, 7]))
(.seq (.ops [mvO 24 5,
mvO 25 5,
mvO 26 7,
opO 27 (.call 227 [(.t 25), (.t 26)]),
opO 28 (.call 226 [(.t 24), (.t 27), (.c (.int .i64 0))]),
mvO 8 28] (some [5, 7, 8]))
(.seq (.ops [opO 9 (.mov (.c (.slice none 0 0)))] none)
(.seq (.ops [opO 10 (.mov (.c (.int .i64 0)))] none)
(.seq (.block 0 (.loop (.seq (.seq (.ops [mvO 29 7,
opO 30 (.lenV (.t 29)),
opO 31 (.ibin .gtr .i64 (.t 30) (.c (.int .i64 0)))] (some [5, 7, 8, 9, 10, 31]))
(.cond (.t 31)
.skip
(.exit 0)))
(.block 1 (.seq (.ops [mvO 32 7,
opO 33 (.lenV (.t 32)),
opO 34 (.mov (.c (.int .i64 0)))] none)
(.block 2 (.loop (.seq (.ops [opO 35 (.ibin .lss .i64 (.t 34) (.t 33))] none)
(.seq (.cond (.t 35)
.skip
(.exit 2))
(.seq (.block 3 (.seq (.ops [mvO 36 34,
opO 37 (.iaddr 1 (.t 32) (.t 34)),
opO 38 (.load 1 false (.t 37)),
mvO 11 36,
mvO 12 38] (some [5, 7, 8, 9, 10, 11, 12, 32, 33, 34]))
(.seq (.ops [mvO 39 7,
opO 40 (.call 73 [(.t 39)]),
mvO 41 11,
mvO 42 11,
opO 43 (.ibin .add .i64 (.t 42) (.c (.int .i64 1))),
opO 44 (.call 228 [(.t 40), (.t 41), (.t 43)]),
mvO 13 44] (some [5, 7, 8, 9, 10, 12, 13, 32, 33, 34]))
(.seq (.ops [mvO 45 5,
mvO 46 12,
opO 47 (.bslice 1 1 [(.int .i64 0)] [(0, 1, (.t 46))]),
mvO 48 5,
mvO 49 13,
opO 50 (.call 227 [(.t 48), (.t 49)]),
opO 51 (.append 1 8 (.t 47) (.t 50)),
mvO 52 10,
opO 53 (.call 226 [(.t 45), (.t 51), (.t 52)]),
mvO 54 8,
opO 55 (.ibin .leq .i64 (.t 53) (.t 54))] (some [5, 7, 8, 9, 10, 12, 13, 32, 33, 34, 55]))
(.cond (.t 55)
(.seq (.draw (.rd 0 (mvO 56 9)
(.rd 1 (mvO 57 12)
(.rd 4 (mvO 60 13)
(.rd 5 (mvO 61 10)
(.rd 6 (mvO 62 5)
(.rd 7 (mvO 63 12)
(.rd 8 (opO 64 (.iaddr 3 (.t 62) (.t 63)))
(.rd 9 (opO 65 (.faddr 2 (.t 64)))
(.rd 10 (opO 66 (.load 1 false (.t 65)))
(.rd 11 (opO 67 (.ibin .add .i64 (.t 61) (.t 66)))
(.wr 2 (opO 58 (.bslice 1 1 [(.int .i64 0)] [(0, 1, (.t 57))])) [1]
(.wr 3 (opO 59 (.append 1 8 (.t 56) (.t 58))) [0, 2]
(.wr 12 (mvO 9 59) [3, 3, 0, 1, 2, 3]
(.rd 13 (mvO 7 60)
(.wr 14 (mvO 10 67) [11, 13, 0, 1, 2, 3, 4, 5, 6, 7, 8, 9, 10, 11, 12, 13]
.fin .no)) .no) .no) .no))))))))))) (some [5, 7, 8, 9, 10]))
(.exit 2))
.skip)))))
(.ops [opO 68 (.ibin .add .i64 (.t 34) (.c (.int .i64 1))),
mvO 34 68] (some [5, 7, 8, 9, 10, 32, 33, 34]))))))))))))
(.seq (.ops [mvO 69 9,
mvO 70 8,
mvO 2 69,
mvO 3 70,
opO 4 (.mov (.c (.int .i64 0)))] (some [2, 3, 4]))
.ret)))))))))⟩
/-- guidevane/guidevanelaw08.Revisions -/
def ir211 : IFn := ⟨5, [.t 0],
(.seq (.ops [opO 0 (.mov (.c (.slice none 0 0)))] (some []))
(.seq (.ops [opO 1 (.build [(.string ⟨#[]⟩), (.int .i64 0), (.int .i64 0)] [(0, 1, (.c (.string ⟨#[97]⟩))), (1, 1, (.c (.int .i64 5))), (2, 1, (.c (.int .i64 3)))]),
opO 2 (.build [(.string ⟨#[]⟩), (.int .i64 0), (.int .i64 0)] [(0, 1, (.c (.string ⟨#[98]⟩))), (1, 1, (.c (.int .i64 4))), (2, 1, (.c (.int .i64 2)))]),
opO 3 (.build [(.string ⟨#[]⟩), (.int .i64 0), (.int .i64 0)] [(0, 1, (.c (.string ⟨#[99]⟩))), (1, 1, (.c (.int .i64 9))), (2, 1, (.c (.int .i64 5)))]),
opO 4 (.bslice 3 3 [(.string ⟨#[]⟩), (.int .i64 0), (.int .i64 0)] [(0, 3, (.t 1)), (3, 3, (.t 2)), (6, 3, (.t 3))]),
mvO 0 4] (some [0]))
.ret))⟩
/-- guidevane/dispatch.ReachableAt -/
def ir212 : IFn := ⟨37, [.t 6, .t 7],
(.seq (.ops [opO 3 (.box (.t 0)),
opO 4 (.box (.t 1)),
opO 5 (.box (.t 2)),
opO 6 (.mov (.c (.slice none 0 0))),
opO 7 (.mov (.c (.int .i64 0)))] (some [3, 4, 5]))
(.seq (.ops [opO 12 (.load 3 true (.t 3)),
opO 13 (.load 4 true (.t 4)),
opO 14 (.call 219 [(.t 12), (.t 13)]),
mvO 11 14,
opO 15 (.extract 0 (.t 11)),
opO 16 (.extract 1 (.t 11)),
opO 8 (.alloc [(.int .i64 0), (.int .i64 0), (.slice none 0 0), (.int .i64 0), (.int .i64 0), (.int .i64 0), (.slice none 0 0)]),
⟨none, none, .store 7 (.t 8) (.t 15)⟩,
mvO 9 16] (some [4, 5, 8, 9]))
(.seq (.seq (.ops [mvO 17 9,
opO 18 (.load 1 false (.t 5)),
opO 19 (.faddr 3 (.t 4)),
opO 20 (.load 1 false (.t 19)),
opO 21 (.lenV (.t 20)),
opO 22 (.call 216 [(.t 18), (.c (.int .i64 0)), (.t 21)]),
opO 23 (.call 214 [(.t 22), (.c (.int .i64 2))]),
opO 24 (.bslice 2 1 [(.int .i64 0)] [(0, 1, (.t 17)), (1, 1, (.t 23))]),
opO 25 (.call 213 [(.t 24)]),
mvO 9 25] (some [5, 8, 9]))
(.seq (.ops [mvO 26 9,
opO 27 (.ibin .neq .i64 (.t 26) (.c (.int .i64 0)))] (some [5, 8, 9, 27]))
(.cond (.t 27)
(.seq (.ops [mvO 28 9,
opO 6 (.mov (.c (.slice none 0 0))),
mvO 7 28] (some [6, 7]))
.ret)
.skip)))
(.seq (.ops [opO 29 (.load 7 true (.t 8)),
opO 30 (.build [(.int .i64 0), (.int .i64 0)] [(0, 1, (.c (.int .i64 (-1))))]),
opO 31 (.call 229 [(.t 29), (.t 30)]),
opO 10 (.alloc [(.slice none 0 0)]),
⟨none, none, .store 1 (.t 10) (.t 31)⟩] (some [5, 8, 10]))
(.seq (.ops [opO 32 (.load 7 true (.t 8)),
opO 33 (.load 1 false (.t 5)),
opO 34 (.call 231 [(.t 32), (.t 33)]),
opO 35 (.mkfunc 232 [] [(.t 10), (.t 5), (.t 8)]),
opO 36 (.call 230 [(.t 34), (.t 35)]),
mvO 6 36,
opO 7 (.mov (.c (.int .i64 0)))] (some [6, 7]))
.ret)))))⟩
/-- guidevane/dispatch.first -/
def ir213 : IFn := ⟨15, [.t 2],
(.seq (.ops [opO 2 (.mov (.c (.int .i64 0)))] (some [0]))
(.seq (.seq (.ops [mvO 5 0,
opO 6 (.lenV (.t 5)),
opO 7 (.mov (.c (.int .i64 0)))] (some [5, 6, 7]))
(.block 0 (.loop (.seq (.ops [opO 8 (.ibin .lss .i64 (.t 7) (.t 6))] none)
(.seq (.cond (.t 8)
.skip
(.exit 0))
(.seq (.block 1 (.seq (.ops [opO 9 (.iaddr 1 (.t 5) (.t 7)),
opO 10 (.load 1 false (.t 9)),
mvO 4 10] (some [4, 5, 6, 7]))
(.seq (.ops [mvO 11 4,
opO 12 (.ibin .neq .i64 (.t 11) (.c (.int .i64 0)))] (some [4, 5, 6, 7, 12]))
(.cond (.t 12)
(.seq (.ops [mvO 13 4,
mvO 2 13] (some [2]))
.ret)
.skip))))
(.ops [opO 14 (.ibin .add .i64 (.t 7) (.c (.int .i64 1))),
mvO 7 14] (some [5, 6, 7]))))))))
(.seq (.ops [opO 2 (.mov (.c (.int .i64 0)))] none)
.ret)))⟩
/-- guidevane/dispatch.unless -/
def ir214 : IFn := ⟨7, [.t 4],
(.seq (.ops [opO 4 (.mov (.c (.int .i64 0)))] (some [0, 1]))
(.seq (.seq (.ops [mvO 5 0] (some [1, 5]))
(.cond (.t 5)
(.seq (.ops [opO 4 (.mov (.c (.int .i64 0)))] none)
.ret)
.skip))
(.seq (.ops [mvO 6 1,
mvO 4 6] (some [4]))
.ret)))⟩
/-- guidevane/dispatch.isPower -/
def ir215 : IFn := ⟨5, [.t 2],
(.seq (.ops [opO 2 (.mov (.c (.bool false)))] (some [0]))
(.seq (.ops [mvO 3 0,
opO 4 (.call 235 [(.t 3), (.c (.int .i64 1000000))]),
mvO 2 4] (some [2]))
.ret))⟩
/-- guidevane/dispatch.within -/
def ir216 : IFn := ⟨15, [.t 6],
(.seq (.ops [opO 6 (.mov (.c (.bool false)))] (some [0, 1, 2]))
(.seq (.ops [mvO 7 1,
mvO 8 0,
opO 9 (.ibin .leq .i64 (.t 7) (.t 8)),
mvO 10 9,
⟨(some 11), (some (10, true)), .mov (.t 0)⟩,
⟨(some 12), (some (10, true)), .mov (.t 2)⟩,
⟨(some 13), (some (10, true)), .ibin .leq .i64 (.t 11) (.t 12)⟩,
opO 14 (.pick (.t 10) (.t 13) (.c (.bool false))),
mvO 6 14] (some [6]))
.ret))⟩
/-- guidevane/dispatch.powersErr -/
def ir217 : IFn := ⟨15, [.t 2],
(.seq (.ops [opO 2 (.mov (.c (.int .i64 0)))] (some [0]))
(.seq (.ops [mvO 4 0,
opO 5 (.call 80 [(.t 4), (.f 236)]),
mvO 3 5] (some [0, 3]))
(.seq (.ops [mvO 6 0,
opO 7 (.lenV (.t 6)),
opO 8 (.ibin .leq .i64 (.t 7) (.c (.int .i64 300))),
opO 9 (.call 214 [(.t 8), (.c (.int .i64 8))]),
mvO 10 3,
opO 11 (.un .not (.t 10)),
opO 12 (.call 214 [(.t 11), (.c (.int .i64 2))]),
opO 13 (.bslice 2 1 [(.int .i64 0)] [(0, 1, (.t 9)), (1, 1, (.t 12))]),
opO 14 (.call 213 [(.t 13)]),
mvO 2 14] (some [2]))
.ret)))⟩
/-- guidevane/dispatch.size -/
def ir218 : IFn := ⟨7, [.t 2],
(.seq (.ops [opO 2 (.mov (.c (.int .i64 0)))] (some [0]))
(.seq (.ops [mvO 3 0,
mvO 4 0,
opO 5 (.un .neg (.t 4)),
opO 6 (.minmax true (.t 3) [(.t 5)]),
mvO 2 6] (some [2]))
.ret))⟩
/-- guidevane/dispatch.open -/
def ir219 : IFn := ⟨18, [.cell 4 7 true, .t 5],
(.seq (.ops [opO 2 (.box (.t 0)),
opO 3 (.box (.t 1)),
opO 4 (.alloc [(.int .i64 0), (.int .i64 0), (.slice none 0 0), (.int .i64 0), (.int .i64 0), (.int .i64 0), (.slice none 0 0)]),
opO 5 (.mov (.c (.int .i64 0)))] (some [2, 3, 4]))
(.seq (.ops [opO 9 (.load 3 true (.t 2)),
opO 10 (.load 4 true (.t 3)),
opO 11 (.call 237 [(.t 9), (.t 10)]),
mvO 8 11,
opO 12 (.extract 0 (.t 8)),
opO 13 (.extract 1 (.t 8)),
mvO 6 12,
mvO 7 13] (some [2, 3, 4, 7]))
(.seq (.ops [opO 14 (.load 3 true (.t 2)),
opO 15 (.load 4 true (.t 3)),
opO 16 (.build [(.int .i64 0), (.int .i64 0), (.slice none 0 0), (.int .i64 0), (.int .i64 0), (.int .i64 0), (.slice none 0 0)] [(0, 3, (.t 14)), (3, 4, (.t 15))]),
mvO 17 7,
⟨none, none, .store 7 (.t 4) (.t 16)⟩,
mvO 5 17] (some [4, 5]))
.ret)))⟩
/-- (guidevane/dispatch.work).best -/
def ir220 (r : Nat → Code × Code) : IFn := ⟨92, [.t 4, .t 5, .t 6],
(.seq (.ops [opO 2 (.box (.t 0)),
opO 3 (.box (.t 1)),
opO 4 (.mov (.c (.slice none 0 0))),
opO 5 (.mov (.c (.int .i64 0))),
opO 6 (.mov (.c (.bool false)))] none)
(.seq (.ops [opO 16 (.load 7 true (.t 2)),
opO 17 (.load 2 true (.t 3)),
opO 18 (.call 229 [(.t 16), (.t 17)]),
opO 7 (.alloc [(.slice none 0 0)]),
⟨none, none, .store 1 (.t 7) (.t 18)⟩] none)
(.seq (.draw (.rd 0 (opO 19 (.load 1 false (.t 7)))
(.rd 1 (opO 20 (.iaddr 1 (.t 19) (.c (.int .i64 0))))
(.rd 2 (opO 21 (.load 1 false (.t 20)))
(.rd 3 (opO 22 (.load 7 true (.t 2)))
(.rd 4 (opO 23 (.faddr 3 (.t 2)))
(.rd 5 (opO 24 (.faddr 0 (.t 23)))
(.rd 6 (opO 25 (.load 1 false (.t 24)))
(.rd 7 (opO 26 (.faddr 3 (.t 2)))
(.rd 8 (opO 27 (.faddr 1 (.t 26)))
(.rd 9 (opO 28 (.load 1 false (.t 27)))
(.wr 10 (opO 29 (.call 234 [(.t 22), (.t 25), (.t 28)])) [3, 6, 9]
(.rd 11 (opO 30 (.iaddr 1 (.t 21) (.t 29)))
(.rd 12 (opO 31 (.load 1 false (.t 30)))
(.rd 13 (mvO 8 31)
.fin))) .no))))))))))) none)
(.seq (.seq (.ops [mvO 32 8,
opO 33 (.call 233 [(.t 32)]),
opO 34 (.un .not (.t 33))] none)
(.cond (.t 34)
(.seq (.ops [opO 4 (.mov (.c (.slice none 0 0))),
opO 5 (.mov (.c (.int .i64 0))),
opO 6 (.mov (.c (.bool false)))] none)
.ret)
.skip))
(.seq (.ops [opO 9 (.alloc [(.slice none 0 0)])] none)
(.seq (.draw (.rd 0 (opO 35 (.faddr 3 (.t 2)))
(.rd 1 (opO 36 (.faddr 0 (.t 35)))
(.rd 2 (opO 37 (.load 1 false (.t 36)))
(.rd 3 (opO 38 (.faddr 3 (.t 2)))
(.rd 4 (opO 39 (.faddr 1 (.t 38)))
(.rd 5 (opO 40 (.load 1 false (.t 39)))
(.wr 6 (opO 10 (.alloc [(.int .i64 0)])) []
(.wr 7 (opO 11 (.alloc [(.int .i64 0)])) []
(.wr 8 ⟨none, none, .store 1 (.t 10) (.t 37)⟩ [6, 2, 0, 1, 2, 6, 7]
(.wr 9 ⟨none, none, .store 1 (.t 11) (.t 40)⟩ [7, 5, 8, 0, 1, 2, 3, 4, 5, 6, 7, 8]
.fin .no) .no) .no)
(.wr 7 (opO 11 (.alloc [(.int .i64 0)])) []
(.wr 6 (opO 10 (.alloc [(.int .i64 0)])) []
(.wr 8 ⟨none, none, .store 1 (.t 10) (.t 37)⟩ [6, 2, 0, 1, 2, 6, 7]
(.wr 9 ⟨none, none, .store 1 (.t 11) (.t 40)⟩ [7, 5, 8, 0, 1, 2, 3, 4, 5, 6, 7, 8]
.fin .no) .no) .no) .no)))))))) none)
(.seq (.seq (.ops [opO 41 (.faddr 3 (.t 2)),
opO 42 (.faddr 3 (.t 41)),
opO 43 (.load 1 false (.t 42)),
opO 44 (.lenV (.t 43)),
opO 45 (.mov (.c (.int .i64 0)))] none)
(.block 0 (.loop (.seq (.ops [opO 46 (.ibin .lss .i64 (.t 45) (.t 44))] none)
(.seq (.cond (.t 46)
.skip
(.exit 0))
(.seq (.block 1 (.seq (.ops [mvO 47 45,
opO 12 (.alloc [(.int .i64 0)]),
⟨none, none, .store 1 (.t 12) (.t 47)⟩] none)
(.seq (.draw (.rd 0 (opO 48 (.load 1 false (.t 7)))
(.rd 1 (opO 49 (.load 1 false (.t 12)))
(.rd 2 (opO 50 (.iaddr 1 (.t 48) (.t 49)))
(.rd 3 (opO 51 (.load 1 false (.t 50)))
(.rd 4 (opO 52 (.load 7 true (.t 2)))
(.rd 5 (opO 53 (.load 1 false (.t 10)))
(.rd 6 (opO 54 (.load 1 false (.t 11)))
(.wr 7 (opO 55 (.call 234 [(.t 52), (.t 53), (.t 54)])) [4, 5, 6]
(.rd 8 (opO 56 (.iaddr 1 (.t 51) (.t 55)))
(.rd 9 (opO 57 (.load 1 false (.t 56)))
(.wr 10 (opO 13 (.alloc [(.int .i64 0)])) []
(.wr 11 ⟨none, none, .store 1 (.t 13) (.t 57)⟩ [10, 9, 7, 0, 1, 2, 3, 4, 5, 6, 7, 8, 9, 10]
.fin .no) .no)))
(.wr 10 (opO 13 (.alloc [(.int .i64 0)])) []
(.wr 7 (opO 55 (.call 234 [(.t 52), (.t 53), (.t 54)])) [4, 5, 6]
(.rd 8 (opO 56 (.iaddr 1 (.t 51) (.t 55)))
(.rd 9 (opO 57 (.load 1 false (.t 56)))
(.wr 11 ⟨none, none, .store 1 (.t 13) (.t 57)⟩ [10, 9, 7, 0, 1, 2, 3, 4, 5, 6, 7, 8, 9, 10]
.fin .no))) .no) .no))))))))) none)
(.seq (.ops [opO 58 (.load 7 true (.t 2)),
opO 59 (.load 1 false (.t 10)),
opO 60 (.load 1 false (.t 12)),
opO 61 (.call 238 [(.t 58), (.t 59), (.t 60)])] none)
(.block 2 (.range 92 (.t 61) #[62, 63] (r 0).1 (r 0).2))))))
(.ops [opO 89 (.ibin .add .i64 (.t 45) (.c (.int .i64 1))),
mvO 45 89] none)))))))
(.seq (.ops [opO 90 (.load 1 false (.t 9)),
mvO 91 8,
mvO 4 90,
mvO 5 91,
opO 6 (.mov (.c (.bool true)))] (some [4, 5, 6]))
.ret))))))))⟩
def ir220a0 : ICode :=
(.seq (.ops [mvO 14 62] none)
(.ops [mvO 15 63] none))
def ir220b0 : ICode :=
(.block 3 (.seq (.draw (.rd 0 (opO 64 (.load 7 true (.t 2)))
(.rd 1 (opO 65 (.load 1 false (.t 12)))
(.rd 2 (opO 66 (.load 1 false (.t 11)))
(.rd 3 (mvO 67 14)
(.rd 5 (opO 69 (.load 1 false (.t 7)))
(.rd 6 (opO 70 (.load 1 false (.t 12)))
(.rd 7 (opO 71 (.ibin .add .i64 (.t 70) (.c (.int .i64 1))))
(.rd 8 (opO 72 (.iaddr 1 (.t 69) (.t 71)))
(.rd 9 (opO 73 (.load 1 false (.t 72)))
(.rd 10 (opO 74 (.load 7 true (.t 2)))
(.rd 11 (mvO 75 15)
(.rd 12 (mvO 76 14)
(.rd 17 (opO 81 (.load 1 false (.t 13)))
(.wr 4 (opO 68 (.call 239 [(.t 64), (.t 65), (.t 66), (.t 67)])) [0, 1, 2, 3]
(.wr 13 (opO 77 (.call 234 [(.t 74), (.t 75), (.t 76)])) [10, 11, 12, 4]
(.rd 14 (opO 78 (.iaddr 1 (.t 73) (.t 77)))
(.rd 15 (opO 79 (.load 1 false (.t 78)))
(.rd 16 (opO 80 (.ibin .add .i64 (.t 68) (.t 79)))
(.rd 18 (opO 82 (.ibin .eql .i64 (.t 80) (.t 81)))
.fin)))) .no) .no)))))))))))))) (some [9, 10, 11, 14, 15, 82]))
(.cond (.t 82)
(.seq (.ops [opO 83 (.load 1 false (.t 9)),
mvO 84 14,
opO 85 (.bslice 1 1 [(.int .i64 0)] [(0, 1, (.t 84))]),
opO 86 (.append 1 8 (.t 83) (.t 85)),
mvO 87 15,
mvO 88 14,
⟨none, none, .store 1 (.t 9) (.t 86)⟩,
⟨none, none, .store 1 (.t 10) (.t 87)⟩,
⟨none, none, .store 1 (.t 11) (.t 88)⟩] (some []))
(.exit 2))
.skip)))
/-- guidevane/dispatch.openPlan -/
def ir221 : IFn := ⟨50, [.cell 6 7 true, .t 7, .t 8],
(.seq (.ops [opO 3 (.box (.t 0)),
opO 4 (.box (.t 1)),
opO 6 (.alloc [(.int .i64 0), (.int .i64 0), (.slice none 0 0), (.int .i64 0), (.int .i64 0), (.int .i64 0), (.slice none 0 0)]),
opO 7 (.mov (.c (.slice none 0 0))),
opO 8 (.mov (.c (.int .i64 0)))] (some [2, 3, 4, 6]))
(.seq (.ops [opO 15 (.load 3 true (.t 3)),
opO 16 (.load 4 true (.t 4)),
opO 17 (.call 219 [(.t 15), (.t 16)]),
mvO 14 17,
opO 18 (.extract 0 (.t 14)),
opO 19 (.extract 1 (.t 14)),
opO 9 (.alloc [(.int .i64 0), (.int .i64 0), (.slice none 0 0), (.int .i64 0), (.int .i64 0), (.int .i64 0), (.slice none 0 0)]),
⟨none, none, .store 7 (.t 9) (.t 18)⟩,
mvO 10 19] (some [2, 4, 6, 9, 10]))
(.seq (.ops [mvO 20 2,
opO 21 (.mkfunc 240 [] [(.t 9)]),
opO 22 (.call 80 [(.t 20), (.t 21)]),
mvO 11 22] (some [2, 4, 6, 9, 10, 11]))
(.seq (.seq (.ops [mvO 23 10,
mvO 24 2,
opO 25 (.lenV (.t 24)),
opO 26 (.faddr 3 (.t 4)),
opO 27 (.load 1 false (.t 26)),
opO 28 (.lenV (.t 27)),
opO 29 (.ibin .eql .i64 (.t 25) (.t 28)),
opO 30 (.call 214 [(.t 29), (.c (.int .i64 10))]),
mvO 31 11,
opO 32 (.un .not (.t 31)),
opO 33 (.call 214 [(.t 32), (.c (.int .i64 6))]),
opO 34 (.bslice 3 1 [(.int .i64 0)] [(0, 1, (.t 23)), (1, 1, (.t 30)), (2, 1, (.t 33))]),
opO 35 (.call 213 [(.t 34)]),
mvO 10 35] (some [2, 6, 9, 10]))
(.seq (.ops [mvO 36 10,
opO 37 (.ibin .neq .i64 (.t 36) (.c (.int .i64 0)))] (some [2, 6, 9, 10, 37]))
(.cond (.t 37)
(.seq (.ops [opO 38 (.load 7 true (.t 9)),
mvO 39 10,
⟨none, none, .store 7 (.t 6) (.t 38)⟩,
opO 7 (.mov (.c (.slice none 0 0))),
mvO 8 39] (some [6, 7, 8]))
.ret)
.skip)))
(.seq (.ops [opO 41 (.load 7 true (.t 9)),
mvO 42 2,
opO 43 (.call 241 [(.t 41), (.t 42)]),
mvO 40 43,
opO 44 (.extract 0 (.t 40)),
opO 45 (.extract 1 (.t 40)),
mvO 12 44,
mvO 13 45] (some [6, 9, 12, 13]))
(.seq (.draw (.rd 0 (opO 46 (.load 7 true (.t 9)))
(.rd 1 (mvO 47 12)
(.rd 2 (mvO 48 13)
(.wr 3 (opO 49 (.call 214 [(.t 48), (.c (.int .i64 22))])) [2]
(.wr 4 ⟨none, none, .store 7 (.t 6) (.t 46)⟩ [0, 3, 0]
(.rd 5 (mvO 7 47)
(.rd 6 (mvO 8 49)
.fin)) .no) .no)))) (some [6, 7, 8]))
.ret))))))⟩
/-- (guidevane/dispatch.work).isMode -/
def ir222 : IFn := ⟨12, [.t 4],
(.seq (.ops [opO 2 (.box (.t 0)),
opO 4 (.mov (.c (.bool false)))] (some [1, 2]))
(.seq (.ops [mvO 5 1,
opO 6 (.faddr 0 (.t 2)),
opO 7 (.faddr 2 (.t 6)),
opO 8 (.load 1 false (.t 7)),
opO 9 (.lenV (.t 8)),
opO 10 (.ibin .sub .i64 (.t 9) (.c (.int .i64 1))),
opO 11 (.call 216 [(.t 5), (.c (.int .i64 0)), (.t 10)]),
mvO 4 11] (some [4]))
.ret))⟩
/-- (guidevane/dispatch.work).given -/
def ir223 : IFn := ⟨32, [.t 8],
(.seq (.ops [opO 4 (.box (.t 0)),
opO 8 (.mov (.c (.int .i64 0)))] (some [1, 2, 3, 4]))
(.seq (.ops [opO 9 (.mov (.c (.int .i64 0)))] none)
(.seq (.block 0 (.loop (.seq (.seq (.ops [mvO 10 2,
mvO 11 9,
opO 12 (.ibin .add .i64 (.t 10) (.t 11)),
opO 13 (.faddr 3 (.t 4)),
opO 14 (.faddr 3 (.t 13)),
opO 15 (.load 1 false (.t 14)),
opO 16 (.lenV (.t 15)),
opO 17 (.ibin .lss .i64 (.t 12) (.t 16))] (some [1, 2, 3, 4, 9, 17]))
(.cond (.t 17)
.skip
(.exit 0)))
(.block 1 (.seq (.seq (.ops [opO 18 (.load 7 true (.t 4)),
mvO 19 1,
mvO 20 2,
mvO 21 9,
opO 22 (.ibin .add .i64 (.t 20) (.t 21)),
mvO 23 3,
opO 24 (.call 242 [(.t 18), (.t 19), (.t 22), (.t 23)]),
mvO 1 24] (some [1, 2, 3, 4, 9]))
(.seq (.ops [opO 25 (.load 7 true (.t 4)),
mvO 26 1,
opO 27 (.call 243 [(.t 25), (.t 26)]),
opO 28 (.un .not (.t 27))] (some [1, 2, 3, 4, 9, 28]))
(.cond (.t 28)
(.exit 0)
.skip)))
(.ops [mvO 29 9,
opO 30 (.ibin .add .i64 (.t 29) (.c (.int .i64 1))),
mvO 9 30] (some [1, 2, 3, 4, 9])))))))
(.seq (.ops [mvO 31 9,
mvO 8 31] (some [8]))
.ret))))⟩
/-- guidevane/dispatch.openRevisions -/
def ir224 : IFn := ⟨13, [.t 2, .t 3],
(.seq (.ops [opO 2 (.mov (.c (.slice none 0 0))),
opO 3 (.mov (.c (.int .i64 0)))] (some [0]))
(.seq (.ops [mvO 7 0,
opO 8 (.call 244 [(.t 7)]),
mvO 6 8,
opO 9 (.extract 0 (.t 6)),
opO 10 (.extract 1 (.t 6)),
mvO 4 9,
mvO 5 10] (some [0, 5]))
(.seq (.ops [mvO 11 0,
mvO 12 5,
mvO 2 11,
mvO 3 12] (some [2, 3]))
.ret)))⟩
/-- (guidevane/dispatch.revisions).every -/
def ir225 : IFn := ⟨16, [.t 2],
(.seq (.ops [opO 2 (.mov (.c (.slice none 0 0)))] (some [0]))
(.seq (.ops [opO 3 (.mov (.c (.slice none 0 0)))] none)
(.seq (.seq (.ops [mvO 5 0,
opO 6 (.lenV (.t 5)),
opO 7 (.mov (.c (.int .i64 0)))] (some [3, 6, 7]))
(.block 0 (.loop (.seq (.ops [opO 8 (.ibin .lss .i64 (.t 7) (.t 6))] none)
(.seq (.cond (.t 8)
.skip
(.exit 0))
(.seq (.block 1 (.seq (.ops [mvO 9 7,
mvO 4 9] (some [3, 4, 6, 7]))
(.ops [mvO 10 3,
mvO 11 4,
opO 12 (.bslice 1 1 [(.int .i64 0)] [(0, 1, (.t 11))]),
opO 13 (.append 1 8 (.t 10) (.t 12)),
mvO 3 13] (some [3, 6, 7]))))
(.ops [opO 14 (.ibin .add .i64 (.t 7) (.c (.int .i64 1))),
mvO 7 14] (some [3, 6, 7]))))))))
(.seq (.ops [mvO 15 3,
mvO 2 15] (some [2]))
.ret))))⟩
/-- (guidevane/dispatch.revisions).lateness -/
def ir226 : IFn := ⟨34, [.t 6],
(.seq (.ops [opO 6 (.mov (.c (.int .i64 0)))] (some [0, 1, 2]))
(.seq (.ops [opO 7 (.mov (.c (.int .i64 (-200000))))] none)
(.seq (.seq (.ops [mvO 10 1,
opO 11 (.lenV (.t 10)),
opO 12 (.mov (.c (.int .i64 0)))] (some [0, 2, 7, 10, 11, 12]))
(.block 0 (.loop (.seq (.ops [opO 13 (.ibin .lss .i64 (.t 12) (.t 11))] none)
(.seq (.cond (.t 13)
.skip
(.exit 0))
(.seq (.block 1 (.seq (.ops [opO 14 (.iaddr 1 (.t 10) (.t 12)),
opO 15 (.load 1 false (.t 14)),
mvO 9 15] (some [0, 2, 7, 9, 10, 11, 12]))
(.seq (.ops [mvO 16 2,
mvO 17 0,
mvO 18 9,
opO 19 (.iaddr 3 (.t 17) (.t 18)),
opO 20 (.faddr 2 (.t 19)),
opO 21 (.load 1 false (.t 20)),
opO 22 (.ibin .add .i64 (.t 16) (.t 21)),
mvO 2 22] (some [0, 2, 7, 9, 10, 11, 12]))
(.ops [mvO 23 7,
mvO 24 2,
mvO 25 0,
mvO 26 9,
opO 27 (.iaddr 3 (.t 25) (.t 26)),
opO 28 (.faddr 1 (.t 27)),
opO 29 (.load 1 false (.t 28)),
opO 30 (.ibin .sub .i64 (.t 24) (.t 29)),
opO 31 (.minmax true (.t 23) [(.t 30)]),
mvO 7 31] (some [0, 2, 7, 10, 11, 12])))))
(.ops [opO 32 (.ibin .add .i64 (.t 12) (.c (.int .i64 1))),
mvO 12 32] (some [0, 2, 7, 10, 11, 12]))))))))
(.seq (.ops [mvO 33 7,
mvO 6 33] (some [6]))
.ret))))⟩
/-- (guidevane/dispatch.revisions).byDue -/
def ir227 : IFn := ⟨12, [.t 4],
(.seq (.ops [opO 2 (.box (.t 0)),
opO 4 (.mov (.c (.slice none 0 0)))] (some [1, 2]))
(.seq (.ops [mvO 6 1,
opO 7 (.call 73 [(.t 6)]),
mvO 5 7] (some [2, 5]))
(.seq (.ops [mvO 8 5,
opO 9 (.mkfunc 245 [] [(.t 2)]),
opO 10 (.call 106 [(.t 8), (.t 9)])] (some [5]))
(.seq (.ops [mvO 11 5,
mvO 4 11] (some [4]))
.ret))))⟩
/-- slices.Delete[[]int,int] -/
def ir228 : IFn := ⟨33, [.t 6],
(.seq (.ops [opO 6 (.mov (.c (.slice none 0 0)))] (some [0, 1, 2]))
(.seq (.ops [mvO 8 0,
mvO 9 1,
mvO 10 2,
mvO 11 0,
opO 12 (.lenV (.t 11)),
opO 13 (.sliceV 1 (.t 8) (some (.t 9)) (some (.t 10)) (some (.t 12)))] (some [0, 1, 2]))
(.seq (.seq (.ops [mvO 14 1,
mvO 15 2,
opO 16 (.ibin .eql .i64 (.t 14) (.t 15))] (some [0, 1, 2, 16]))
(.cond (.t 16)
(.seq (.ops [mvO 17 0,
mvO 6 17] (some [6]))
.ret)
.skip))
(.seq (.ops [mvO 18 0,
opO 19 (.lenV (.t 18)),
mvO 7 19] (some [0, 1, 2, 7]))
(.seq (.draw (.rd 0 (mvO 20 0)
(.rd 1 (mvO 21 1)
(.rd 2 (opO 22 (.sliceV 1 (.t 20) none (some (.t 21)) none))
(.rd 3 (mvO 23 0)
(.rd 4 (mvO 24 2)
(.rd 5 (opO 25 (.sliceV 1 (.t 23) (some (.t 24)) none none))
(.wr 6 (opO 26 (.append 1 8 (.t 22) (.t 25))) [2, 5]
(.wr 7 (mvO 0 26) [6, 6, 0, 1, 2, 3, 4, 5, 6]
.fin .no) .no))))))) (some [0, 7]))
(.seq (.ops [mvO 27 0,
mvO 28 0,
opO 29 (.lenV (.t 28)),
mvO 30 7,
opO 31 (.sliceV 1 (.t 27) (some (.t 29)) (some (.t 30)) none),
⟨none, none, .clr 1 [(.int .i64 0)] (.t 31)⟩] (some [0]))
(.seq (.ops [mvO 32 0,
mvO 6 32] (some [6]))
.ret)))))))⟩
/-- (guidevane/dispatch.work).potentials -/
def ir229 (r : Nat → Code × Code) : IFn := ⟨117, [.t 4],
(.seq (.ops [opO 2 (.box (.t 0)),
opO 3 (.box (.t 1)),
opO 4 (.mov (.c (.slice none 0 0)))] none)
(.seq (.draw (.rd 0 (opO 14 (.faddr 3 (.t 2)))
(.rd 1 (opO 15 (.faddr 3 (.t 14)))
(.rd 2 (opO 16 (.load 1 false (.t 15)))
(.rd 3 (opO 17 (.lenV (.t 16)))
(.rd 4 (opO 18 (.load 7 true (.t 2)))
(.rd 5 (opO 19 (.faddr 0 (.t 2)))
(.rd 6 (opO 20 (.faddr 1 (.t 19)))
(.rd 7 (opO 21 (.load 1 false (.t 20)))
(.rd 8 (opO 22 (.faddr 0 (.t 2)))
(.rd 9 (opO 23 (.faddr 2 (.t 22)))
(.rd 10 (opO 24 (.load 1 false (.t 23)))
(.rd 11 (opO 25 (.lenV (.t 24)))
(.rd 12 (opO 26 (.ibin .sub .i64 (.t 25) (.c (.int .i64 1))))
(.wr 13 (opO 27 (.call 234 [(.t 18), (.t 21), (.t 26)])) [4, 7, 12]
(.rd 14 (opO 28 (.ibin .add .i64 (.t 27) (.c (.int .i64 1))))
(.rd 15 (mvO 5 17)
(.rd 16 (mvO 6 28)
.fin))) .no)))))))))))))) none)
(.seq (.ops [mvO 29 5,
opO 30 (.ibin .add .i64 (.t 29) (.c (.int .i64 1))),
opO 31 (.mslice 1 24 [(.slice none 0 0)] (.t 30) (.t 30)),
opO 7 (.alloc [(.slice none 0 0)]),
⟨none, none, .store 1 (.t 7) (.t 31)⟩] none)
(.seq (.seq (.ops [mvO 32 5,
opO 8 (.alloc [(.int .i64 0)]),
⟨none, none, .store 1 (.t 8) (.t 32)⟩] none)
(.block 0 (.loop (.seq (.seq (.ops [opO 33 (.load 1 false (.t 8)),
opO 34 (.ibin .geq .i64 (.t 33) (.c (.int .i64 0)))] none)
(.cond (.t 34)
.skip
(.exit 0)))
(.seq (.block 1 (.seq (.draw (.rd 0 (opO 37 (.load 1 false (.t 7)))
(.rd 1 (opO 38 (.load 1 false (.t 8)))
(.rd 3 (mvO 40 6)
(.wr 2 (opO 39 (.bslice 1 1 [(.int .i64 0)] [(0, 1, (.c (.int .i64 (-100000000000))))])) []
(.wr 4 (opO 41 (.call 246 [(.t 39), (.t 40)])) [2, 3]
(.rd 5 (opO 42 (.iaddr 1 (.t 37) (.t 38)))
(.wr 6 ⟨none, none, .store 1 (.t 42) (.t 41)⟩ [5, 4, 4, 0, 1, 2, 3, 4]
.fin .no)) .no) .no)))) none)
(.seq (.ops [opO 43 (.faddr 0 (.t 2)),
opO 44 (.faddr 0 (.t 43)),
opO 45 (.load 1 false (.t 44)),
mvO 9 45] none)
(.block 2 (.loop (.seq (.seq (.ops [mvO 46 9,
opO 47 (.faddr 0 (.t 2)),
opO 48 (.faddr 1 (.t 47)),
opO 49 (.load 1 false (.t 48)),
opO 50 (.ibin .leq .i64 (.t 46) (.t 49))] none)
(.cond (.t 50)
.skip
(.exit 2)))
(.seq (.block 3 (.seq (.ops [opO 53 (.faddr 0 (.t 2)),
opO 54 (.faddr 2 (.t 53)),
opO 55 (.load 1 false (.t 54)),
opO 56 (.lenV (.t 55)),
opO 57 (.mov (.c (.int .i64 0)))] none)
(.block 4 (.loop (.seq (.ops [opO 58 (.ibin .lss .i64 (.t 57) (.t 56))] none)
(.seq (.cond (.t 58)
.skip
(.exit 4))
(.seq (.block 5 (.seq (.ops [mvO 59 57,
opO 10 (.alloc [(.int .i64 0)]),
⟨none, none, .store 1 (.t 10) (.t 59)⟩] none)
(.seq (.draw (.rd 0 (opO 60 (.load 1 false (.t 7)))
(.rd 1 (opO 61 (.load 1 false (.t 8)))
(.rd 2 (opO 62 (.iaddr 1 (.t 60) (.t 61)))
(.rd 3 (opO 63 (.load 1 false (.t 62)))
(.rd 4 (opO 64 (.load 7 true (.t 2)))
(.rd 5 (mvO 65 9)
(.rd 6 (opO 66 (.load 1 false (.t 10)))
(.wr 7 (opO 67 (.call 234 [(.t 64), (.t 65), (.t 66)])) [4, 5, 6]
(.rd 8 (opO 68 (.iaddr 1 (.t 63) (.t 67)))
(.wr 9 (opO 11 (.alloc [(.pointer none)])) []
(.wr 10 ⟨none, none, .store 1 (.t 11) (.t 68)⟩ [9, 8, 7, 0, 1, 2, 3, 4, 5, 6, 7, 8, 9]
.fin .no) .no))
(.wr 9 (opO 11 (.alloc [(.pointer none)])) []
(.wr 7 (opO 67 (.call 234 [(.t 64), (.t 65), (.t 66)])) [4, 5, 6]
(.rd 8 (opO 68 (.iaddr 1 (.t 63) (.t 67)))
(.wr 10 ⟨none, none, .store 1 (.t 11) (.t 68)⟩ [9, 8, 7, 0, 1, 2, 3, 4, 5, 6, 7, 8, 9]
.fin .no)) .no) .no))))))))) none)
(.seq (.seq (.ops [opO 69 (.load 1 false (.t 8)),
mvO 70 5,
opO 71 (.ibin .eql .i64 (.t 69) (.t 70))] none)
(.cond (.t 71)
(.seq (.ops [opO 72 (.load 1 false (.t 11)),
opO 73 (.faddr 3 (.t 2)),
opO 74 (.faddr 2 (.t 73)),
opO 75 (.load 1 false (.t 74)),
mvO 76 9,
opO 77 (.ibin .mul .i64 (.t 75) (.t 76)),
opO 78 (.nilchk (.t 72)),
⟨none, none, .store 1 (.t 78) (.t 77)⟩] (some [0, 1, 2, 3, 4, 5, 6, 7, 8, 9, 12, 13, 14, 15, 16, 17, 18, 19, 20, 21, 22, 23, 24, 25, 26, 27, 28, 29, 30, 31, 32, 33, 34, 35, 36, 37, 38, 39, 40, 41, 42, 43, 44, 45, 46, 47, 48, 49, 50, 51, 52, 53, 54, 55, 56, 57, 72, 73, 74, 75, 76, 77, 78, 89, 90, 91, 92, 93, 94, 95, 96, 97, 98, 99, 100, 101, 102, 103, 104, 105, 106, 107, 108, 109, 110, 111, 112, 113, 115, 116]))
(.exit 5))
.skip))
(.seq (.seq (.ops [opO 79 (.load 7 true (.t 2)),
mvO 80 9,
opO 81 (.load 1 false (.t 8)),
opO 82 (.load 2 true (.t 3)),
opO 83 (.call 247 [(.t 79), (.t 80), (.t 81), (.t 82)]),
opO 84 (.un .not (.t 83))] none)
(.cond (.t 84)
(.exit 5)
.skip))
(.seq (.ops [opO 85 (.load 7 true (.t 2)),
mvO 86 9,
opO 87 (.load 1 false (.t 8)),
opO 88 (.call 238 [(.t 85), (.t 86), (.t 87)])] none)
(.block 6 (.range 117 (.t 88) #[89, 90] (r 0).1 (r 0).2))))))))
(.ops [opO 114 (.ibin .add .i64 (.t 57) (.c (.int .i64 1))),
mvO 57 114] none))))))))
(.ops [mvO 51 9,
opO 52 (.ibin .add .i64 (.t 51) (.c (.int .i64 1))),
mvO 9 52] none))))))))
(.seq (.seq (.ops [opO 115 (.load 1 false (.t 8))] (some [0, 1, 2, 3, 4, 5, 6, 7, 12, 13, 14, 15, 16, 17, 18, 19, 20, 21, 22, 23, 24, 25, 26, 27, 28, 29, 30, 31, 32, 51, 52, 72, 73, 74, 75, 76, 77, 78, 89, 90, 91, 92, 93, 94, 95, 96, 97, 98, 99, 100, 101, 102, 103, 104, 105, 106, 107, 108, 109, 110, 111, 112, 113, 114, 115, 116]))
(.ops [opO 8 (.alloc [(.int .i64 0)]),
⟨none, none, .store 1 (.t 8) (.t 115)⟩] none))
(.ops [opO 35 (.load 1 false (.t 8)),
opO 36 (.ibin .sub .i64 (.t 35) (.c (.int .i64 1))),
⟨none, none, .store 1 (.t 8) (.t 36)⟩] none)))))))
(.seq (.ops [opO 116 (.load 1 false (.t 7)),
mvO 4 116] (some [4]))
.ret)))))⟩
def ir229a0 : ICode :=
(.seq (.ops [mvO 12 89] none)
(.ops [mvO 13 90] none))
def ir229b0 : ICode :=
(.block 7 (.draw (.rd 0 (opO 91 (.load 1 false (.t 11)))
(.rd 1 (opO 92 (.load 1 false (.t 11)))
(.rd 2 (opO 93 (.nilchk (.t 92)))
(.rd 3 (opO 94 (.load 1 false (.t 93)))
(.rd 4 (opO 95 (.load 7 true (.t 2)))
(.rd 5 (opO 96 (.load 1 false (.t 8)))
(.rd 6 (opO 97 (.load 1 false (.t 10)))
(.rd 7 (mvO 98 12)
(.rd 9 (opO 100 (.load 1 false (.t 7)))
(.rd 10 (opO 101 (.load 1 false (.t 8)))
(.rd 11 (opO 102 (.ibin .add .i64 (.t 101) (.c (.int .i64 1))))
(.rd 12 (opO 103 (.iaddr 1 (.t 100) (.t 102)))
(.rd 13 (opO 104 (.load 1 false (.t 103)))
(.rd 14 (opO 105 (.load 7 true (.t 2)))
(.rd 15 (mvO 106 13)
(.rd 16 (mvO 107 12)
(.wr 8 (opO 99 (.call 239 [(.t 95), (.t 96), (.t 97), (.t 98)])) [4, 5, 6, 7]
(.wr 17 (opO 108 (.call 234 [(.t 105), (.t 106), (.t 107)])) [14, 15, 16, 8]
(.rd 18 (opO 109 (.iaddr 1 (.t 104) (.t 108)))
(.rd 19 (opO 110 (.load 1 false (.t 109)))
(.rd 20 (opO 111 (.ibin .add .i64 (.t 99) (.t 110)))
(.rd 21 (opO 112 (.minmax true (.t 94) [(.t 111)]))
(.rd 22 (opO 113 (.nilchk (.t 91)))
(.wr 23 ⟨none, none, .store 1 (.t 113) (.t 112)⟩ [22, 21, 17, 0, 1, 2, 3, 4, 5, 6, 7, 8, 9, 10, 11, 12, 13, 14, 15, 16, 17, 18, 19, 20, 21]
.fin .no)))))) .no) .no))))))))))))))))) (some [])))
/-- slices.DeleteFunc[[]int,int] -/
def ir230 : IFn := ⟨42, [.t 4],
(.seq (.ops [opO 4 (.mov (.c (.slice none 0 0)))] (some [0, 1]))
(.seq (.ops [mvO 8 0,
mvO 9 1,
opO 10 (.call 70 [(.t 8), (.t 9)]),
mvO 5 10] (some [0, 1, 5]))
(.seq (.seq (.ops [mvO 11 5,
opO 12 (.ibin .eql .i64 (.t 11) (.c (.int .i64 (-1))))] (some [0, 1, 5, 12]))
(.cond (.t 12)
(.seq (.ops [mvO 13 0,
mvO 4 13] (some [4]))
.ret)
.skip))
(.seq (.seq (.ops [mvO 14 5,
opO 15 (.ibin .add .i64 (.t 14) (.c (.int .i64 1))),
mvO 6 15] (some [0, 1, 5, 6]))
(.block 0 (.loop (.seq (.seq (.ops [mvO 16 6,
mvO 17 0,
opO 18 (.lenV (.t 17)),
opO 19 (.ibin .lss .i64 (.t 16) (.t 18))] (some [0, 1, 5, 6, 19]))
(.cond (.t 19)
.skip
(.exit 0)))
(.seq (.block 1 (.seq (.ops [mvO 22 0,
mvO 23 6,
opO 24 (.iaddr 1 (.t 22) (.t 23)),
opO 25 (.load 1 false (.t 24)),
mvO 7 25] (some [0, 1, 5, 6, 7]))
(.seq (.ops [mvO 26 1,
mvO 27 7,
opO 28 (.callv (.t 26) [(.t 27)]),
opO 29 (.un .not (.t 28))] (some [0, 1, 5, 6, 7, 29]))
(.cond (.t 29)
(.seq (.ops [mvO 30 0,
mvO 31 5,
mvO 32 7,
opO 33 (.iaddr 1 (.t 30) (.t 31)),
⟨none, none, .store 1 (.t 33) (.t 32)⟩] (some [0, 1, 5, 6]))
(.ops [mvO 34 5,
opO 35 (.ibin .add .i64 (.t 34) (.c (.int .i64 1))),
mvO 5 35] (some [0, 1, 5, 6])))
.skip))))
(.ops [mvO 20 6,
opO 21 (.ibin .add .i64 (.t 20) (.c (.int .i64 1))),
mvO 6 21] (some [0, 1, 5, 6])))))))
(.seq (.ops [mvO 36 0,
mvO 37 5,
opO 38 (.sliceV 1 (.t 36) (some (.t 37)) none none),
⟨none, none, .clr 1 [(.int .i64 0)] (.t 38)⟩] (some [0, 5]))
(.seq (.ops [mvO 39 0,
mvO 40 5,
opO 41 (.sliceV 1 (.t 39) none (some (.t 40)) none),
mvO 4 41] (some [4]))
.ret))))))⟩
/-- (guidevane/dispatch.work).reached -/
def ir231 (r : Nat → Code × Code) : IFn := ⟨43, [.t 4],
(.seq (.ops [opO 2 (.box (.t 0)),
opO 4 (.mov (.c (.slice none 0 0)))] none)
(.seq (.ops [opO 12 (.faddr 3 (.t 2)),
opO 13 (.faddr 0 (.t 12)),
opO 14 (.load 1 false (.t 13)),
opO 15 (.bslice 1 1 [(.int .i64 0)] [(0, 1, (.t 14))]),
mvO 5 15] none)
(.seq (.seq (.ops [mvO 16 1,
opO 17 (.mov (.c (.int .i64 0)))] none)
(.block 0 (.loop (.seq (.ops [opO 18 (.ibin .lss .i64 (.t 17) (.t 16))] none)
(.seq (.cond (.t 18)
.skip
(.exit 0))
(.seq (.block 1 (.seq (.ops [mvO 19 17,
mvO 6 19] none)
(.seq (.ops [opO 7 (.alloc [(.slice none 0 0)])] none)
(.seq (.seq (.ops [mvO 20 5,
opO 21 (.lenV (.t 20)),
opO 22 (.mov (.c (.int .i64 0)))] none)
(.block 2 (.loop (.seq (.ops [opO 23 (.ibin .lss .i64 (.t 22) (.t 21))] none)
(.seq (.cond (.t 23)
.skip
(.exit 2))
(.seq (.block 3 (.seq (.ops [opO 24 (.iaddr 1 (.t 20) (.t 22)),
opO 25 (.load 1 false (.t 24)),
mvO 9 25] none)
(.seq (.ops [opO 26 (.load 7 true (.t 2)),
mvO 27 9,
mvO 28 6,
opO 29 (.call 238 [(.t 26), (.t 27), (.t 28)])] none)
(.block 4 (.range 43 (.t 29) #[30, 31] (r 0).1 (r 0).2)))))
(.ops [opO 36 (.ibin .add .i64 (.t 22) (.c (.int .i64 1))),
mvO 22 36] none)))))))
(.seq (.ops [opO 37 (.load 1 false (.t 7)),
opO 38 (.call 103 [(.t 37)])] none)
(.ops [opO 39 (.load 1 false (.t 7)),
opO 40 (.call 248 [(.t 39)]),
mvO 5 40] (some [0, 1, 2, 3, 4, 5, 8, 10, 11, 12, 13, 14, 15, 16, 17, 30, 31, 32, 33, 34, 35, 36, 37, 38, 39, 40, 42])))))))
(.ops [opO 41 (.ibin .add .i64 (.t 17) (.c (.int .i64 1))),
mvO 17 41] none)))))))
(.seq (.ops [mvO 42 5,
mvO 4 42] (some [4]))
.ret))))⟩
def ir231a0 : ICode :=
(.ops [mvO 11 31] none)
def ir231b0 : ICode :=
(.block 5 (.ops [opO 32 (.load 1 false (.t 7)),
mvO 33 11,
opO 34 (.bslice 1 1 [(.int .i64 0)] [(0, 1, (.t 33))]),
opO 35 (.append 1 8 (.t 32) (.t 34)),
⟨none, none, .store 1 (.t 7) (.t 35)⟩] (some [])))
/-- guidevane/dispatch.ReachableAt$1 -/
def ir232 : IFn := ⟨17, [.t 5],
(.seq (.ops [opO 5 (.mov (.c (.bool false)))] (some [0, 1, 2, 3]))
(.seq (.draw (.rd 0 (opO 6 (.load 1 false (.t 1)))
(.rd 1 (opO 7 (.load 1 false (.t 2)))
(.rd 2 (opO 8 (.iaddr 1 (.t 6) (.t 7)))
(.rd 3 (opO 9 (.load 1 false (.t 8)))
(.rd 4 (opO 10 (.load 7 true (.t 3)))
(.rd 5 (mvO 11 0)
(.wr 6 (opO 12 (.call 234 [(.t 10), (.t 11), (.c (.int .i64 0))])) [4, 5]
(.rd 7 (opO 13 (.iaddr 1 (.t 9) (.t 12)))
(.rd 8 (opO 14 (.load 1 false (.t 13)))
(.wr 9 (opO 15 (.call 233 [(.t 14)])) [8, 6]
(.rd 10 (opO 16 (.un .not (.t 15)))
(.rd 11 (mvO 5 16)
.fin)) .no))) .no))))))) (some [5]))
.ret))⟩
/-- guidevane/dispatch.isValue -/
def ir233 : IFn := ⟨5, [.t 2],
(.seq (.ops [opO 2 (.mov (.c (.bool false)))] (some [0]))
(.seq (.ops [mvO 3 0,
opO 4 (.ibin .gtr .i64 (.t 3) (.c (.int .i64 (-50000000000)))),
mvO 2 4] (some [2]))
.ret))⟩
/-- (guidevane/dispatch.work).cell -/
def ir234 : IFn := ⟨19, [.t 6],
(.seq (.ops [opO 3 (.box (.t 0)),
opO 6 (.mov (.c (.int .i64 0)))] (some [1, 2, 3]))
(.seq (.ops [mvO 7 1,
opO 8 (.faddr 0 (.t 3)),
opO 9 (.faddr 0 (.t 8)),
opO 10 (.load 1 false (.t 9)),
opO 11 (.ibin .sub .i64 (.t 7) (.t 10)),
opO 12 (.faddr 0 (.t 3)),
opO 13 (.faddr 2 (.t 12)),
opO 14 (.load 1 false (.t 13)),
opO 15 (.lenV (.t 14)),
opO 16 (.ibin .mul .i64 (.t 11) (.t 15)),
mvO 17 2,
opO 18 (.ibin .add .i64 (.t 16) (.t 17)),
mvO 6 18] (some [6]))
.ret))⟩
/-- guidevane/dispatch.isSized -/
def ir235 : IFn := ⟨10, [.t 4],
(.seq (.ops [opO 4 (.mov (.c (.bool false)))] (some [0, 1]))
(.seq (.ops [mvO 5 0,
mvO 6 1,
opO 7 (.un .neg (.t 6)),
mvO 8 1,
opO 9 (.call 216 [(.t 5), (.t 7), (.t 8)]),
mvO 4 9] (some [4]))
.ret))⟩
/-- guidevane/dispatch.powersErr$1 -/
def ir236 : IFn := ⟨6, [.t 2],
(.seq (.ops [opO 2 (.mov (.c (.bool false)))] (some [0]))
(.seq (.ops [mvO 3 0,
opO 4 (.call 215 [(.t 3)]),
opO 5 (.un .not (.t 4)),
mvO 2 5] (some [2]))
.ret))⟩
/-- guidevane/dispatch.CheckTask -/
def ir237 : IFn := ⟨87, [.t 4, .t 5],
(.seq (.ops [opO 2 (.box (.t 0)),
opO 3 (.box (.t 1)),
opO 4 (.mov (.c (.int .i64 0))),
opO 5 (.mov (.c (.int .i64 0)))] (some [2, 3]))
(.seq (.ops [opO 12 (.load 3 true (.t 2)),
opO 13 (.call 249 [(.t 12)]),
mvO 11 13,
opO 14 (.extract 0 (.t 11)),
opO 15 (.extract 1 (.t 11)),
mvO 6 14,
mvO 7 15] (some [2, 3, 7]))
(.seq (.draw (.rd 0 (mvO 16 7)
(.rd 1 (opO 17 (.faddr 0 (.t 3)))
(.rd 2 (opO 18 (.load 1 false (.t 17)))
(.rd 3 (opO 19 (.faddr 0 (.t 2)))
(.rd 4 (opO 20 (.load 1 false (.t 19)))
(.rd 5 (opO 21 (.faddr 1 (.t 2)))
(.rd 6 (opO 22 (.load 1 false (.t 21)))
(.rd 9 (opO 25 (.faddr 1 (.t 3)))
(.rd 10 (opO 26 (.load 1 false (.t 25)))
(.rd 11 (opO 27 (.faddr 2 (.t 2)))
(.rd 12 (opO 28 (.load 1 false (.t 27)))
(.rd 13 (opO 29 (.lenV (.t 28)))
(.rd 14 (opO 30 (.ibin .sub .i64 (.t 29) (.c (.int .i64 1))))
(.rd 17 (opO 33 (.faddr 2 (.t 3)))
(.rd 18 (opO 34 (.load 1 false (.t 33)))
(.rd 21 (opO 37 (.faddr 3 (.t 3)))
(.rd 22 (opO 38 (.load 1 false (.t 37)))
(.rd 23 (opO 39 (.lenV (.t 38)))
(.rd 24 (opO 40 (.ibin .gtr .i64 (.t 39) (.c (.int .i64 0))))
(.rd 26 (opO 42 (.faddr 3 (.t 3)))
(.rd 27 (opO 43 (.load 1 false (.t 42)))
(.rd 28 (opO 44 (.lenV (.t 43)))
(.rd 29 (opO 45 (.ibin .leq .i64 (.t 44) (.c (.int .i64 10))))
(.wr 7 (opO 23 (.call 216 [(.t 18), (.t 20), (.t 22)])) [2, 4, 6]
(.wr 8 (opO 24 (.call 214 [(.t 23), (.c (.int .i64 2))])) [7, 7]
(.wr 15 (opO 31 (.call 216 [(.t 26), (.c (.int .i64 0)), (.t 30)])) [10, 14, 8]
(.wr 16 (opO 32 (.call 214 [(.t 31), (.c (.int .i64 6))])) [15, 15]
(.wr 19 (opO 35 (.call 250 [(.t 34)])) [18, 16]
(.wr 20 (opO 36 (.call 214 [(.t 35), (.c (.int .i64 2))])) [19, 19]
(.wr 25 (opO 41 (.call 214 [(.t 40), (.c (.int .i64 10))])) [24, 20]
(.wr 30 (opO 46 (.call 214 [(.t 45), (.c (.int .i64 8))])) [29, 25]
(.wr 31 (opO 47 (.bslice 6 1 [(.int .i64 0)] [(0, 1, (.t 16)), (1, 1, (.t 24)), (2, 1, (.t 32)), (3, 1, (.t 36)), (4, 1, (.t 41)), (5, 1, (.t 46))])) [0, 8, 16, 20, 25, 30]
(.wr 32 (opO 48 (.call 213 [(.t 47)])) [31, 30]
(.wr 33 (mvO 7 48) [32, 32, 0, 1, 2, 3, 4, 5, 6, 7, 8, 9, 10, 11, 12, 13, 14, 15, 16, 17, 18, 19, 20, 21, 22, 23, 24, 25, 26, 27, 28, 29, 30, 31, 32]
.fin .no) .no) .no) .no) .no) .no) .no) .no) .no) .no) .no)))))))))))))))))))))))) (some [3, 7]))
(.seq (.seq (.ops [mvO 49 7,
opO 50 (.ibin .neq .i64 (.t 49) (.c (.int .i64 0)))] (some [3, 7, 50]))
(.cond (.t 50)
(.seq (.ops [mvO 51 7,
opO 4 (.mov (.c (.int .i64 0))),
mvO 5 51] (some [4, 5]))
.ret)
.skip))
(.seq (.seq (.ops [opO 52 (.faddr 3 (.t 3)),
opO 53 (.load 1 false (.t 52)),
opO 54 (.lenV (.t 53)),
opO 55 (.mov (.c (.int .i64 0)))] (some [53, 54, 55]))
(.block 0 (.loop (.seq (.ops [opO 56 (.ibin .lss .i64 (.t 55) (.t 54))] none)
(.seq (.cond (.t 56)
.skip
(.exit 0))
(.seq (.block 1 (.seq (.ops [mvO 57 55,
opO 58 (.iaddr 3 (.t 53) (.t 55)),
opO 59 (.load 3 true (.t 58)),
opO 9 (.alloc [(.int .i64 0), (.int .i64 0), (.int .i64 0)]),
mvO 8 57,
⟨none, none, .store 3 (.t 9) (.t 59)⟩] (some [8, 9, 53, 54, 55]))
(.seq (.draw (.rd 0 (opO 60 (.faddr 0 (.t 9)))
(.rd 1 (opO 61 (.load 1 false (.t 60)))
(.rd 14 (opO 74 (.faddr 1 (.t 9)))
(.rd 15 (opO 75 (.load 1 false (.t 74)))
(.rd 16 (opO 76 (.faddr 0 (.t 9)))
(.rd 17 (opO 77 (.load 1 false (.t 76)))
(.rd 18 (opO 78 (.ibin .leq .i64 (.t 75) (.t 77)))
(.wr 2 (opO 62 (.call 250 [(.t 61)])) [1]
(.rd 3 (mvO 63 62)
(.rd 4 ⟨(some 64), (some (63, true)), .faddr 1 (.t 9)⟩
(.rd 5 ⟨(some 65), (some (63, true)), .load 1 false (.t 64)⟩
(.wr 6 ⟨(some 66), (some (63, true)), .call 250 [(.t 65)]⟩ [5, 3, 3]
(.rd 7 (opO 67 (.pick (.t 63) (.t 66) (.c (.bool false))))
(.rd 8 (mvO 68 67)
(.rd 9 ⟨(some 69), (some (68, true)), .faddr 2 (.t 9)⟩
(.rd 10 ⟨(some 70), (some (68, true)), .load 1 false (.t 69)⟩
(.wr 11 ⟨(some 71), (some (68, true)), .call 250 [(.t 70)]⟩ [10, 8, 8]
(.rd 12 (opO 72 (.pick (.t 68) (.t 71) (.c (.bool false))))
(.wr 13 (opO 73 (.call 214 [(.t 72), (.c (.int .i64 2))])) [12, 11]
(.wr 19 (opO 79 (.call 214 [(.t 78), (.c (.int .i64 9))])) [18, 13]
(.wr 20 (opO 80 (.bslice 2 1 [(.int .i64 0)] [(0, 1, (.t 73)), (1, 1, (.t 79))])) [13, 19]
(.wr 21 (opO 81 (.call 213 [(.t 80)])) [20, 19]
(.rd 22 (mvO 10 81)
.fin) .no) .no) .no) .no)) .no))))) .no)))) .no)))))))) (some [8, 10, 53, 54, 55]))
(.seq (.ops [mvO 82 10,
opO 83 (.ibin .neq .i64 (.t 82) (.c (.int .i64 0)))] (some [8, 10, 53, 54, 55, 83]))
(.cond (.t 83)
(.seq (.ops [mvO 84 8,
mvO 85 10,
mvO 4 84,
mvO 5 85] (some [4, 5]))
.ret)
.skip)))))
(.ops [opO 86 (.ibin .add .i64 (.t 55) (.c (.int .i64 1))),
mvO 55 86] (some [53, 54, 55]))))))))
(.seq (.ops [opO 4 (.mov (.c (.int .i64 0))),
opO 5 (.mov (.c (.int .i64 0)))] none)
.ret))))))⟩
/-- (guidevane/dispatch.work).steps -/
def ir238 : IFn := ⟨8, [.t 6],
(.seq (.ops [opO 3 (.box (.t 0)),
opO 4 (.box (.t 1)),
opO 5 (.box (.t 2)),
opO 6 (.mov (.c .nilFunc))] (some [3, 4, 5]))
(.seq (.ops [opO 7 (.mkfunc 251 [] [(.t 3), (.t 4), (.t 5)]),
mvO 6 7] (some [6]))
.ret))⟩
/-- (guidevane/dispatch.work).revenue -/
def ir239 : IFn := ⟨44, [.t 8],
(.seq (.ops [opO 4 (.box (.t 0)),
opO 8 (.mov (.c (.int .i64 0)))] (some [1, 2, 3, 4]))
(.seq (.draw (.rd 0 (opO 13 (.faddr 0 (.t 4)))
(.rd 1 (opO 14 (.faddr 2 (.t 13)))
(.rd 2 (opO 15 (.load 1 false (.t 14)))
(.rd 3 (mvO 16 3)
(.rd 4 (opO 17 (.iaddr 4 (.t 15) (.t 16)))
(.rd 5 (opO 18 (.load 4 true (.t 17)))
(.rd 6 (opO 19 (.faddr 3 (.t 4)))
(.rd 7 (opO 20 (.faddr 3 (.t 19)))
(.rd 8 (opO 21 (.load 1 false (.t 20)))
(.rd 9 (mvO 22 1)
(.rd 10 (opO 23 (.iaddr 3 (.t 21) (.t 22)))
(.rd 11 (opO 24 (.load 3 true (.t 23)))
(.wr 12 (opO 9 (.alloc [(.string ⟨#[]⟩), (.int .i64 0), (.int .i64 0), (.int .i64 0)])) []
(.wr 13 (opO 10 (.alloc [(.int .i64 0), (.int .i64 0), (.int .i64 0)])) []
(.wr 14 ⟨none, none, .store 4 (.t 9) (.t 18)⟩ [12, 5, 0, 1, 2, 3, 4, 5, 12, 13]
(.wr 15 ⟨none, none, .store 3 (.t 10) (.t 24)⟩ [13, 11, 14, 0, 1, 2, 3, 4, 5, 6, 7, 8, 9, 10, 11, 12, 13, 14]
.fin .no) .no) .no)
(.wr 13 (opO 10 (.alloc [(.int .i64 0), (.int .i64 0), (.int .i64 0)])) []
(.wr 12 (opO 9 (.alloc [(.string ⟨#[]⟩), (.int .i64 0), (.int .i64 0), (.int .i64 0)])) []
(.wr 14 ⟨none, none, .store 4 (.t 9) (.t 18)⟩ [12, 5, 0, 1, 2, 3, 4, 5, 12, 13]
(.wr 15 ⟨none, none, .store 3 (.t 10) (.t 24)⟩ [13, 11, 14, 0, 1, 2, 3, 4, 5, 6, 7, 8, 9, 10, 11, 12, 13, 14]
.fin .no) .no) .no) .no)))))))))))))) (some [2, 3, 9, 10]))
(.seq (.ops [opO 25 (.faddr 0 (.t 10)),
opO 26 (.load 1 false (.t 25)),
mvO 11 26] (some [2, 3, 9, 10, 11]))
(.seq (.seq (.ops [opO 27 (.faddr 2 (.t 9)),
opO 28 (.load 1 false (.t 27)),
opO 29 (.ibin .gtr .i64 (.t 28) (.c (.int .i64 0)))] (some [2, 3, 9, 10, 11, 29]))
(.cond (.t 29)
(.ops [opO 30 (.faddr 1 (.t 10)),
opO 31 (.load 1 false (.t 30)),
mvO 11 31] (some [2, 3, 9, 11]))
.skip))
(.seq (.ops [opO 32 (.faddr 2 (.t 9)),
opO 33 (.load 1 false (.t 32)),
mvO 34 11,
opO 35 (.ibin .mul .i64 (.t 33) (.t 34)),
mvO 12 35] (some [2, 3, 9, 12]))
(.seq (.seq (.ops [mvO 36 2,
mvO 37 3,
opO 38 (.ibin .neq .i64 (.t 36) (.t 37))] (some [9, 12, 38]))
(.cond (.t 38)
(.ops [mvO 39 12,
opO 40 (.faddr 3 (.t 9)),
opO 41 (.load 1 false (.t 40)),
opO 42 (.ibin .sub .i64 (.t 39) (.t 41)),
mvO 12 42] (some [12]))
.skip))
(.seq (.ops [mvO 43 12,
mvO 8 43] (some [8]))
.ret)))))))⟩
/-- guidevane/dispatch.openPlan$1 -/
def ir240 : IFn := ⟨8, [.t 3],
(.seq (.ops [opO 3 (.mov (.c (.bool false)))] (some [0, 1]))
(.seq (.ops [opO 4 (.load 7 true (.t 1)),
mvO 5 0,
opO 6 (.call 222 [(.t 4), (.t 5)]),
opO 7 (.un .not (.t 6)),
mvO 3 7] (some [3]))
.ret))⟩
/-- (guidevane/dispatch.work).volumes -/
def ir241 : IFn := ⟨39, [.t 4, .t 5],
(.seq (.ops [opO 2 (.box (.t 0)),
opO 4 (.mov (.c (.slice none 0 0))),
opO 5 (.mov (.c (.bool false)))] (some [1, 2]))
(.seq (.ops [opO 10 (.faddr 3 (.t 2)),
opO 11 (.faddr 0 (.t 10)),
opO 12 (.load 1 false (.t 11)),
opO 13 (.bslice 1 1 [(.int .i64 0)] [(0, 1, (.t 12))]),
mvO 6 13] (some [1, 2, 6]))
(.seq (.seq (.ops [mvO 14 1,
opO 15 (.lenV (.t 14)),
opO 16 (.mov (.c (.int .i64 0)))] (some [2, 6, 14, 15, 16]))
(.block 0 (.loop (.seq (.ops [opO 17 (.ibin .lss .i64 (.t 16) (.t 15))] none)
(.seq (.cond (.t 17)
.skip
(.exit 0))
(.seq (.block 1 (.seq (.ops [mvO 18 16,
opO 19 (.iaddr 1 (.t 14) (.t 16)),
opO 20 (.load 1 false (.t 19)),
mvO 7 18,
mvO 8 20] (some [2, 6, 7, 8, 14, 15, 16]))
(.seq (.draw (.rd 0 (opO 21 (.load 7 true (.t 2)))
(.rd 1 (mvO 22 6)
(.rd 2 (mvO 23 7)
(.rd 3 (opO 24 (.iaddr 1 (.t 22) (.t 23)))
(.rd 4 (opO 25 (.load 1 false (.t 24)))
(.rd 5 (mvO 26 7)
(.rd 6 (mvO 27 8)
(.wr 7 (opO 28 (.call 242 [(.t 21), (.t 25), (.t 26), (.t 27)])) [0, 4, 5, 6]
(.rd 8 (mvO 9 28)
.fin) .no)))))))) (some [2, 6, 9, 14, 15, 16]))
(.seq (.seq (.ops [opO 29 (.load 7 true (.t 2)),
mvO 30 9,
opO 31 (.call 243 [(.t 29), (.t 30)]),
opO 32 (.un .not (.t 31))] (some [2, 6, 9, 14, 15, 16, 32]))
(.cond (.t 32)
(.seq (.ops [opO 4 (.mov (.c (.slice none 0 0))),
opO 5 (.mov (.c (.bool false)))] none)
.ret)
.skip))
(.ops [mvO 33 6,
mvO 34 9,
opO 35 (.bslice 1 1 [(.int .i64 0)] [(0, 1, (.t 34))]),
opO 36 (.append 1 8 (.t 33) (.t 35)),
mvO 6 36] (some [2, 6, 14, 15, 16]))))))
(.ops [opO 37 (.ibin .add .i64 (.t 16) (.c (.int .i64 1))),
mvO 16 37] (some [2, 6, 14, 15, 16]))))))))
(.seq (.ops [mvO 38 6,
mvO 4 38,
opO 5 (.mov (.c (.bool true)))] (some [4, 5]))
.ret))))⟩
/-- (guidevane/dispatch.work).after -/
def ir242 : IFn := ⟨26, [.t 8],
(.seq (.ops [opO 4 (.box (.t 0)),
opO 8 (.mov (.c (.int .i64 0)))] (some [1, 2, 3, 4]))
(.seq (.draw (.rd 0 (mvO 9 1)
(.rd 1 (opO 10 (.faddr 3 (.t 4)))
(.rd 2 (opO 11 (.faddr 3 (.t 10)))
(.rd 3 (opO 12 (.load 1 false (.t 11)))
(.rd 4 (mvO 13 2)
(.rd 5 (opO 14 (.iaddr 3 (.t 12) (.t 13)))
(.rd 6 (opO 15 (.faddr 2 (.t 14)))
(.rd 7 (opO 16 (.load 1 false (.t 15)))
(.rd 8 (opO 17 (.ibin .add .i64 (.t 9) (.t 16)))
(.rd 9 (opO 18 (.faddr 0 (.t 4)))
(.rd 10 (opO 19 (.faddr 2 (.t 18)))
(.rd 11 (opO 20 (.load 1 false (.t 19)))
(.rd 12 (mvO 21 3)
(.rd 13 (opO 22 (.iaddr 4 (.t 20) (.t 21)))
(.rd 14 (opO 23 (.faddr 1 (.t 22)))
(.rd 15 (opO 24 (.load 1 false (.t 23)))
(.rd 16 (opO 25 (.ibin .add .i64 (.t 17) (.t 24)))
(.rd 17 (mvO 8 25)
.fin)))))))))))))))))) (some [8]))
.ret))⟩
/-- (guidevane/dispatch.work).isVolume -/
def ir243 : IFn := ⟨13, [.t 4],
(.seq (.ops [opO 2 (.box (.t 0)),
opO 4 (.mov (.c (.bool false)))] (some [1, 2]))
(.seq (.ops [mvO 5 1,
opO 6 (.faddr 0 (.t 2)),
opO 7 (.faddr 0 (.t 6)),
opO 8 (.load 1 false (.t 7)),
opO 9 (.faddr 0 (.t 2)),
opO 10 (.faddr 1 (.t 9)),
opO 11 (.load 1 false (.t 10)),
opO 12 (.call 216 [(.t 5), (.t 8), (.t 11)]),
mvO 4 12] (some [4]))
.ret))⟩
/-- guidevane/dispatch.CheckRevisions -/
def ir244 : IFn := ⟨59, [.t 2, .t 3],
(.seq (.ops [opO 2 (.mov (.c (.int .i64 0))),
opO 3 (.mov (.c (.int .i64 0)))] (some [0]))
(.seq (.seq (.ops [mvO 10 0,
opO 11 (.lenV (.t 10)),
opO 12 (.ibin .gtr .i64 (.t 11) (.c (.int .i64 0))),
opO 13 (.call 214 [(.t 12), (.c (.int .i64 10))]),
mvO 14 0,
opO 15 (.lenV (.t 14)),
opO 16 (.ibin .leq .i64 (.t 15) (.c (.int .i64 8))),
opO 17 (.call 214 [(.t 16), (.c (.int .i64 8))]),
opO 18 (.bslice 2 1 [(.int .i64 0)] [(0, 1, (.t 13)), (1, 1, (.t 17))]),
opO 19 (.call 213 [(.t 18)]),
mvO 4 19] (some [0, 4]))
(.seq (.ops [mvO 20 4,
opO 21 (.ibin .neq .i64 (.t 20) (.c (.int .i64 0)))] (some [0, 4, 21]))
(.cond (.t 21)
(.seq (.ops [mvO 22 4,
opO 2 (.mov (.c (.int .i64 0))),
mvO 3 22] (some [2, 3]))
.ret)
.skip)))
(.seq (.seq (.ops [mvO 23 0,
opO 24 (.lenV (.t 23)),
opO 25 (.mov (.c (.int .i64 0)))] none)
(.block 0 (.loop (.seq (.ops [opO 26 (.ibin .lss .i64 (.t 25) (.t 24))] none)
(.seq (.cond (.t 26)
.skip
(.exit 0))
(.seq (.block 1 (.seq (.ops [mvO 27 25,
opO 28 (.iaddr 3 (.t 23) (.t 25)),
opO 29 (.load 3 true (.t 28)),
opO 6 (.alloc [(.string ⟨#[]⟩), (.int .i64 0), (.int .i64 0)]),
mvO 5 27,
⟨none, none, .store 3 (.t 6) (.t 29)⟩] (some [0, 5, 6, 23, 24, 25]))
(.seq (.ops [mvO 30 0,
mvO 31 5,
opO 32 (.sliceV 3 (.t 30) none (some (.t 31)) none),
opO 33 (.mkfunc 253 [] [(.t 6)]),
opO 34 (.call 252 [(.t 32), (.t 33)]),
mvO 7 34] (some [0, 5, 6, 7, 23, 24, 25]))
(.seq (.ops [opO 35 (.faddr 1 (.t 6)),
opO 36 (.load 1 false (.t 35)),
opO 37 (.call 216 [(.t 36), (.c (.int .i64 0)), (.c (.int .i64 100000))]),
mvO 38 37,
⟨(some 39), (some (38, true)), .faddr 2 (.t 6)⟩,
⟨(some 40), (some (38, true)), .load 1 false (.t 39)⟩,
⟨(some 41), (some (38, true)), .call 216 [(.t 40), (.c (.int .i64 1)), (.c (.int .i64 100000))]⟩,
opO 42 (.pick (.t 38) (.t 41) (.c (.bool false))),
mvO 8 42] (some [0, 5, 6, 7, 8, 23, 24, 25]))
(.seq (.ops [opO 43 (.faddr 0 (.t 6)),
opO 44 (.load 1 false (.t 43)),
opO 45 (.call 254 [(.t 44)]),
opO 46 (.call 214 [(.t 45), (.c (.int .i64 4))]),
mvO 47 7,
opO 48 (.un .not (.t 47)),
opO 49 (.call 214 [(.t 48), (.c (.int .i64 5))]),
mvO 50 8,
opO 51 (.call 214 [(.t 50), (.c (.int .i64 2))]),
opO 52 (.bslice 3 1 [(.int .i64 0)] [(0, 1, (.t 46)), (1, 1, (.t 49)), (2, 1, (.t 51))]),
opO 53 (.call 213 [(.t 52)]),
mvO 9 53] (some [0, 5, 9, 23, 24, 25]))
(.seq (.ops [mvO 54 9,
opO 55 (.ibin .neq .i64 (.t 54) (.c (.int .i64 0)))] (some [0, 5, 9, 23, 24, 25, 55]))
(.cond (.t 55)
(.seq (.ops [mvO 56 5,
mvO 57 9,
mvO 2 56,
mvO 3 57] (some [2, 3]))
.ret)
.skip)))))))
(.ops [opO 58 (.ibin .add .i64 (.t 25) (.c (.int .i64 1))),
mvO 25 58] (some [0, 23, 24, 25]))))))))
(.seq (.ops [opO 2 (.mov (.c (.int .i64 0))),
opO 3 (.mov (.c (.int .i64 0)))] none)
.ret))))⟩
/-- (guidevane/dispatch.revisions).byDue$1 -/
def ir245 : IFn := ⟨17, [.t 5],
(.seq (.ops [opO 5 (.mov (.c (.int .i64 0)))] (some [0, 1, 2]))
(.seq (.draw (.rd 0 (opO 6 (.load 1 false (.t 2)))
(.rd 1 (mvO 7 0)
(.rd 2 (opO 8 (.iaddr 3 (.t 6) (.t 7)))
(.rd 3 (opO 9 (.faddr 1 (.t 8)))
(.rd 4 (opO 10 (.load 1 false (.t 9)))
(.rd 5 (opO 11 (.load 1 false (.t 2)))
(.rd 6 (mvO 12 1)
(.rd 7 (opO 13 (.iaddr 3 (.t 11) (.t 12)))
(.rd 8 (opO 14 (.faddr 1 (.t 13)))
(.rd 9 (opO 15 (.load 1 false (.t 14)))
(.rd 10 (opO 16 (.ibin .sub .i64 (.t 10) (.t 15)))
(.rd 11 (mvO 5 16)
.fin)))))))))))) (some [5]))
.ret))⟩
/-- slices.Repeat[[]int,int] -/
def ir246 : IFn := ⟨48, [.t 4],
(.seq (.ops [opO 4 (.mov (.c (.slice none 0 0)))] (some [0, 1]))
(.seq (.seq (.ops [mvO 9 1,
opO 10 (.ibin .lss .i64 (.t 9) (.c (.int .i64 0)))] (some [0, 1, 10]))
(.cond (.t 10)
(.ops [opO 11 (.nope),
⟨none, none, .nope⟩] (some [0, 1]))
.skip))
(.seq (.ops [mvO 13 0,
opO 14 (.lenV (.t 13)),
opO 15 (.conv .u64 (.t 14)),
mvO 16 1,
opO 17 (.conv .u64 (.t 16)),
opO 18 (.call 255 [(.t 15), (.t 17)]),
mvO 12 18,
opO 19 (.extract 0 (.t 12)),
opO 20 (.extract 1 (.t 12)),
mvO 5 19,
mvO 6 20] (some [0, 5, 6]))
(.seq (.seq (.ops [mvO 21 5,
opO 22 (.ibin .gtr .u64 (.t 21) (.c (.int .u64 0))),
mvO 23 22,
⟨(some 24), (some (23, false)), .mov (.t 6)⟩,
⟨(some 25), (some (23, false)), .ibin .gtr .u64 (.t 24) (.c (.int .u64 9223372036854775807))⟩,
opO 26 (.pick (.t 23) (.c (.bool true)) (.t 25))] (some [0, 6, 26]))
(.cond (.t 26)
(.ops [opO 27 (.nope),
⟨none, none, .nope⟩] (some [0, 6]))
.skip))
(.seq (.ops [mvO 28 6,
opO 29 (.conv .i64 (.t 28)),
opO 30 (.mslice 1 8 [(.int .i64 0)] (.t 29) (.t 29)),
mvO 7 30] (some [0, 7]))
(.seq (.ops [mvO 31 7,
mvO 32 0,
opO 33 (.copy 1 (.t 31) (.t 32)),
mvO 8 33] (some [7, 8]))
(.seq (.block 0 (.loop (.seq (.seq (.ops [mvO 34 8,
mvO 35 7,
opO 36 (.lenV (.t 35)),
opO 37 (.ibin .lss .i64 (.t 34) (.t 36))] (some [7, 8, 37]))
(.cond (.t 37)
.skip
(.exit 0)))
(.block 1 (.draw (.rd 0 (mvO 38 8)
(.rd 1 (mvO 39 7)
(.rd 2 (mvO 40 8)
(.rd 3 (opO 41 (.sliceV 1 (.t 39) (some (.t 40)) none none))
(.rd 4 (mvO 42 7)
(.rd 5 (mvO 43 8)
(.rd 6 (opO 44 (.sliceV 1 (.t 42) none (some (.t 43)) none))
(.wr 7 (opO 45 (.copy 1 (.t 41) (.t 44))) [3, 6]
(.rd 8 (opO 46 (.ibin .add .i64 (.t 38) (.t 45)))
(.wr 9 (mvO 8 46) [8, 7, 0, 1, 2, 3, 4, 5, 6, 7, 8]
.fin .no)) .no)))))))) (some [7, 8]))))))
(.seq (.ops [mvO 47 7,
mvO 4 47] (some [4]))
.ret))))))))⟩
/-- (guidevane/dispatch.work).holds -/
def ir247 : IFn := ⟨30, [.t 8],
(.seq (.ops [opO 4 (.box (.t 0)),
opO 7 (.box (.t 3)),
opO 8 (.mov (.c (.bool false)))] (some [1, 2, 4, 7]))
(.seq (.draw (.rd 0 (opO 9 (.faddr 0 (.t 7)))
(.rd 1 (opO 10 (.load 1 false (.t 9)))
(.rd 2 (opO 11 (.ibin .lss .i64 (.t 10) (.c (.int .i64 0))))
(.rd 3 (mvO 12 11)
(.rd 4 ⟨(some 13), (some (12, false)), .load 7 true (.t 4)⟩
(.rd 5 ⟨(some 14), (some (12, false)), .mov (.t 1)⟩
(.rd 6 ⟨(some 15), (some (12, false)), .mov (.t 2)⟩
(.rd 7 ⟨(some 16), (some (12, false)), .faddr 0 (.t 7)⟩
(.rd 8 ⟨(some 17), (some (12, false)), .load 1 false (.t 16)⟩
(.rd 10 ⟨(some 19), (some (12, false)), .faddr 1 (.t 7)⟩
(.rd 11 ⟨(some 20), (some (12, false)), .load 1 false (.t 19)⟩
(.rd 12 ⟨(some 21), (some (12, false)), .faddr 3 (.t 4)⟩
(.rd 13 ⟨(some 22), (some (12, false)), .faddr 3 (.t 21)⟩
(.rd 14 ⟨(some 23), (some (12, false)), .load 1 false (.t 22)⟩
(.rd 15 ⟨(some 24), (some (12, false)), .lenV (.t 23)⟩
(.rd 16 ⟨(some 25), (some (12, false)), .mov (.t 2)⟩
(.rd 17 ⟨(some 26), (some (12, false)), .ibin .sub .i64 (.t 24) (.t 25)⟩
(.rd 18 ⟨(some 27), (some (12, false)), .minmax false (.t 20) [(.t 26)]⟩
(.wr 9 ⟨(some 18), (some (12, false)), .call 223 [(.t 13), (.t 14), (.t 15), (.t 17)]⟩ [4, 5, 6, 8, 3, 3]
(.rd 19 ⟨(some 28), (some (12, false)), .ibin .geq .i64 (.t 18) (.t 27)⟩
(.rd 20 (opO 29 (.pick (.t 12) (.c (.bool true)) (.t 28)))
(.rd 21 (mvO 8 29)
.fin))) .no))))))))))))))))))) (some [8]))
.ret))⟩
/-- slices.Compact[[]int,int] -/
def ir248 : IFn := ⟨61, [.t 2],
(.seq (.ops [opO 2 (.mov (.c (.slice none 0 0)))] (some [0]))
(.seq (.seq (.ops [mvO 6 0,
opO 7 (.lenV (.t 6)),
opO 8 (.ibin .lss .i64 (.t 7) (.c (.int .i64 2)))] (some [0, 8]))
(.cond (.t 8)
(.seq (.ops [mvO 9 0,
mvO 2 9] (some [2]))
.ret)
.skip))
(.seq (.seq (.ops [opO 3 (.mov (.c (.int .i64 1)))] none)
(.block 0 (.loop (.seq (.seq (.ops [mvO 10 3,
mvO 11 0,
opO 12 (.lenV (.t 11)),
opO 13 (.ibin .lss .i64 (.t 10) (.t 12))] (some [0, 3, 13]))
(.cond (.t 13)
.skip
(.exit 0)))
(.seq (.block 1 (.seq (.draw (.rd 0 (mvO 16 0)
(.rd 1 (mvO 17 3)
(.rd 2 (opO 18 (.iaddr 1 (.t 16) (.t 17)))
(.rd 3 (opO 19 (.load 1 false (.t 18)))
(.rd 4 (mvO 20 0)
(.rd 5 (mvO 21 3)
(.rd 6 (opO 22 (.ibin .sub .i64 (.t 21) (.c (.int .i64 1))))
(.rd 7 (opO 23 (.iaddr 1 (.t 20) (.t 22)))
(.rd 8 (opO 24 (.load 1 false (.t 23)))
(.rd 9 (opO 25 (.ibin .eql .i64 (.t 19) (.t 24)))
.fin)))))))))) (some [0, 3, 25]))
(.cond (.t 25)
(.seq (.ops [mvO 26 0,
mvO 27 3,
opO 28 (.sliceV 1 (.t 26) (some (.t 27)) none none),
mvO 4 28] (some [0, 3, 4]))
(.seq (.seq (.ops [opO 5 (.mov (.c (.int .i64 1)))] none)
(.block 2 (.loop (.seq (.seq (.ops [mvO 29 5,
mvO 30 4,
opO 31 (.lenV (.t 30)),
opO 32 (.ibin .lss .i64 (.t 29) (.t 31))] (some [0, 3, 4, 5, 32]))
(.cond (.t 32)
.skip
(.exit 2)))
(.seq (.block 3 (.seq (.draw (.rd 0 (mvO 35 4)
(.rd 1 (mvO 36 5)
(.rd 2 (opO 37 (.iaddr 1 (.t 35) (.t 36)))
(.rd 3 (opO 38 (.load 1 false (.t 37)))
(.rd 4 (mvO 39 4)
(.rd 5 (mvO 40 5)
(.rd 6 (opO 41 (.ibin .sub .i64 (.t 40) (.c (.int .i64 1))))
(.rd 7 (opO 42 (.iaddr 1 (.t 39) (.t 41)))
(.rd 8 (opO 43 (.load 1 false (.t 42)))
(.rd 9 (opO 44 (.ibin .neq .i64 (.t 38) (.t 43)))
.fin)))))))))) (some [0, 3, 4, 5, 44]))
(.cond (.t 44)
(.seq (.ops [mvO 45 0,
mvO 46 3,
mvO 47 4,
mvO 48 5,
opO 49 (.iaddr 1 (.t 47) (.t 48)),
opO 50 (.load 1 false (.t 49)),
opO 51 (.iaddr 1 (.t 45) (.t 46)),
⟨none, none, .store 1 (.t 51) (.t 50)⟩] (some [0, 3, 4, 5]))
(.ops [mvO 52 3,
opO 53 (.ibin .add .i64 (.t 52) (.c (.int .i64 1))),
mvO 3 53] (some [0, 3, 4, 5])))
.skip)))
(.ops [mvO 33 5,
opO 34 (.ibin .add .i64 (.t 33) (.c (.int .i64 1))),
mvO 5 34] (some [0, 3, 4, 5])))))))
(.seq (.ops [mvO 54 0,
mvO 55 3,
opO 56 (.sliceV 1 (.t 54) (some (.t 55)) none none),
⟨none, none, .clr 1 [(.int .i64 0)] (.t 56)⟩] (some [0, 3]))
(.seq (.ops [mvO 57 0,
mvO 58 3,
opO 59 (.sliceV 1 (.t 57) none (some (.t 58)) none),
mvO 2 59] (some [2]))
.ret))))
.skip)))
(.ops [mvO 14 3,
opO 15 (.ibin .add .i64 (.t 14) (.c (.int .i64 1))),
mvO 3 15] (some [0, 3])))))))
(.seq (.ops [mvO 60 0,
mvO 2 60] (some [2]))
.ret))))⟩
/-- guidevane/dispatch.CheckPlant -/
def ir249 : IFn := ⟨93, [.t 2, .t 3],
(.seq (.ops [opO 1 (.box (.t 0)),
opO 2 (.mov (.c (.int .i64 0))),
opO 3 (.mov (.c (.int .i64 0)))] (some [1]))
(.seq (.ops [opO 4 (.mov (.f 256))] none)
(.seq (.draw (.rd 0 (mvO 11 4)
(.rd 1 (opO 12 (.faddr 0 (.t 1)))
(.rd 2 (opO 13 (.load 1 false (.t 12)))
(.rd 11 (opO 22 (.faddr 0 (.t 1)))
(.rd 12 (opO 23 (.load 1 false (.t 22)))
(.rd 13 (opO 24 (.faddr 1 (.t 1)))
(.rd 14 (opO 25 (.load 1 false (.t 24)))
(.rd 15 (opO 26 (.ibin .leq .i64 (.t 23) (.t 25)))
(.rd 17 (opO 28 (.faddr 1 (.t 1)))
(.rd 18 (opO 29 (.load 1 false (.t 28)))
(.rd 19 (opO 30 (.faddr 0 (.t 1)))
(.rd 20 (opO 31 (.load 1 false (.t 30)))
(.rd 21 (opO 32 (.ibin .sub .i64 (.t 29) (.t 31)))
(.rd 22 (opO 33 (.ibin .lss .i64 (.t 32) (.c (.int .i64 40))))
(.rd 24 (opO 35 (.faddr 2 (.t 1)))
(.rd 25 (opO 36 (.load 1 false (.t 35)))
(.rd 26 (opO 37 (.lenV (.t 36)))
(.rd 27 (opO 38 (.ibin .gtr .i64 (.t 37) (.c (.int .i64 0))))
(.rd 29 (opO 40 (.faddr 2 (.t 1)))
(.rd 30 (opO 41 (.load 1 false (.t 40)))
(.rd 31 (opO 42 (.lenV (.t 41)))
(.rd 32 (opO 43 (.ibin .leq .i64 (.t 42) (.c (.int .i64 5))))
(.wr 3 (opO 14 (.callv (.t 11) [(.t 13)])) [0, 2]
(.rd 4 (mvO 15 14)
(.rd 5 ⟨(some 16), (some (15, true)), .mov (.t 4)⟩
(.rd 6 ⟨(some 17), (some (15, true)), .faddr 1 (.t 1)⟩
(.rd 7 ⟨(some 18), (some (15, true)), .load 1 false (.t 17)⟩
(.wr 8 ⟨(some 19), (some (15, true)), .callv (.t 16) [(.t 18)]⟩ [5, 7, 4, 4]
(.rd 9 (opO 20 (.pick (.t 15) (.t 19) (.c (.bool false))))
(.wr 10 (opO 21 (.call 214 [(.t 20), (.c (.int .i64 2))])) [9, 8]
(.wr 16 (opO 27 (.call 214 [(.t 26), (.c (.int .i64 9))])) [15, 10]
(.wr 23 (opO 34 (.call 214 [(.t 33), (.c (.int .i64 8))])) [22, 16]
(.wr 28 (opO 39 (.call 214 [(.t 38), (.c (.int .i64 10))])) [27, 23]
(.wr 33 (opO 44 (.call 214 [(.t 43), (.c (.int .i64 8))])) [32, 28]
(.wr 34 (opO 45 (.bslice 5 1 [(.int .i64 0)] [(0, 1, (.t 21)), (1, 1, (.t 27)), (2, 1, (.t 34)), (3, 1, (.t 39)), (4, 1, (.t 44))])) [10, 16, 23, 28, 33]
(.wr 35 (opO 46 (.call 213 [(.t 45)])) [34, 33]
(.rd 36 (mvO 5 46)
.fin) .no) .no) .no) .no) .no) .no) .no)) .no))))) .no))))))))))))))))))))))) (some [1, 5]))
(.seq (.seq (.ops [mvO 47 5,
opO 48 (.ibin .neq .i64 (.t 47) (.c (.int .i64 0)))] (some [1, 5, 48]))
(.cond (.t 48)
(.seq (.ops [mvO 49 5,
opO 2 (.mov (.c (.int .i64 0))),
mvO 3 49] (some [2, 3]))
.ret)
.skip))
(.seq (.seq (.ops [opO 50 (.faddr 2 (.t 1)),
opO 51 (.load 1 false (.t 50)),
opO 52 (.lenV (.t 51)),
opO 53 (.mov (.c (.int .i64 0)))] (some [1, 51, 52, 53]))
(.block 0 (.loop (.seq (.ops [opO 54 (.ibin .lss .i64 (.t 53) (.t 52))] none)
(.seq (.cond (.t 54)
.skip
(.exit 0))
(.seq (.block 1 (.seq (.ops [mvO 55 53,
opO 56 (.iaddr 4 (.t 51) (.t 53)),
opO 57 (.load 4 true (.t 56)),
opO 7 (.alloc [(.string ⟨#[]⟩), (.int .i64 0), (.int .i64 0), (.int .i64 0)]),
mvO 6 55,
⟨none, none, .store 4 (.t 7) (.t 57)⟩] (some [1, 6, 7, 51, 52, 53]))
(.seq (.ops [opO 58 (.faddr 2 (.t 1)),
opO 59 (.load 1 false (.t 58)),
mvO 60 6,
opO 61 (.sliceV 4 (.t 59) none (some (.t 60)) none),
opO 62 (.mkfunc 258 [] [(.t 7)]),
opO 63 (.call 257 [(.t 61), (.t 62)]),
mvO 8 63] (some [1, 6, 7, 8, 51, 52, 53]))
(.seq (.ops [opO 64 (.faddr 1 (.t 7)),
opO 65 (.load 1 false (.t 64)),
opO 66 (.call 235 [(.t 65), (.c (.int .i64 10000))]),
mvO 67 66,
⟨(some 68), (some (67, true)), .faddr 2 (.t 7)⟩,
⟨(some 69), (some (67, true)), .load 1 false (.t 68)⟩,
⟨(some 70), (some (67, true)), .call 235 [(.t 69), (.c (.int .i64 10000))]⟩,
opO 71 (.pick (.t 67) (.t 70) (.c (.bool false))),
mvO 72 71,
⟨(some 73), (some (72, true)), .faddr 3 (.t 7)⟩,
⟨(some 74), (some (72, true)), .load 1 false (.t 73)⟩,
⟨(some 75), (some (72, true)), .call 216 [(.t 74), (.c (.int .i64 0)), (.c (.int .i64 10000))]⟩,
opO 76 (.pick (.t 72) (.t 75) (.c (.bool false))),
mvO 9 76] (some [1, 6, 7, 8, 9, 51, 52, 53]))
(.seq (.ops [opO 77 (.faddr 0 (.t 7)),
opO 78 (.load 1 false (.t 77)),
opO 79 (.call 254 [(.t 78)]),
opO 80 (.call 214 [(.t 79), (.c (.int .i64 4))]),
mvO 81 8,
opO 82 (.un .not (.t 81)),
opO 83 (.call 214 [(.t 82), (.c (.int .i64 5))]),
mvO 84 9,
opO 85 (.call 214 [(.t 84), (.c (.int .i64 2))]),
opO 86 (.bslice 3 1 [(.int .i64 0)] [(0, 1, (.t 80)), (1, 1, (.t 83)), (2, 1, (.t 85))]),
opO 87 (.call 213 [(.t 86)]),
mvO 10 87] (some [1, 6, 10, 51, 52, 53]))
(.seq (.ops [mvO 88 10,
opO 89 (.ibin .neq .i64 (.t 88) (.c (.int .i64 0)))] (some [1, 6, 10, 51, 52, 53, 89]))
(.cond (.t 89)
(.seq (.ops [mvO 90 6,
mvO 91 10,
mvO 2 90,
mvO 3 91] (some [2, 3]))
.ret)
.skip)))))))
(.ops [opO 92 (.ibin .add .i64 (.t 53) (.c (.int .i64 1))),
mvO 53 92] (some [1, 51, 52, 53]))))))))
(.seq (.ops [opO 2 (.mov (.c (.int .i64 0))),
opO 3 (.mov (.c (.int .i64 0)))] none)
.ret))))))⟩
/-- guidevane/dispatch.isPrice -/
def ir250 : IFn := ⟨5, [.t 2],
(.seq (.ops [opO 2 (.mov (.c (.bool false)))] (some [0]))
(.seq (.ops [mvO 3 0,
opO 4 (.call 235 [(.t 3), (.c (.int .i64 10000))]),
mvO 2 4] (some [2]))
.ret))⟩
/-- (guidevane/dispatch.work).steps$1 -/
def ir251 : IFn := ⟨30, [],
(.seq (.ops [opO 7 (.faddr 0 (.t 1)),
opO 8 (.faddr 2 (.t 7)),
opO 9 (.load 1 false (.t 8)),
opO 10 (.lenV (.t 9)),
opO 11 (.mov (.c (.int .i64 0)))] (some [0, 1, 2, 3, 10, 11]))
(.block 0 (.loop (.seq (.ops [opO 12 (.ibin .lss .i64 (.t 11) (.t 10))] none)
(.seq (.cond (.t 12)
.skip
(.exit 0))
(.seq (.block 1 (.seq (.ops [mvO 13 11,
mvO 5 13] (some [0, 1, 2, 3, 5, 10, 11]))
(.seq (.ops [opO 14 (.load 7 true (.t 1)),
opO 15 (.load 1 false (.t 2)),
opO 16 (.load 1 false (.t 3)),
mvO 17 5,
opO 18 (.call 242 [(.t 14), (.t 15), (.t 16), (.t 17)]),
mvO 6 18] (some [0, 1, 2, 3, 5, 6, 10, 11]))
(.seq (.ops [opO 19 (.load 7 true (.t 1)),
mvO 20 6,
opO 21 (.call 243 [(.t 19), (.t 20)]),
mvO 22 21,
⟨(some 23), (some (22, true)), .mov (.t 0)⟩,
⟨(some 24), (some (22, true)), .mov (.t 5)⟩,
⟨(some 25), (some (22, true)), .mov (.t 6)⟩,
⟨(some 26), (some (22, true)), .callv (.t 23) [(.t 24), (.t 25)]⟩,
⟨(some 27), (some (22, true)), .un .not (.t 26)⟩,
opO 28 (.pick (.t 22) (.t 27) (.c (.bool false)))] (some [0, 1, 2, 3, 10, 11, 28]))
(.cond (.t 28)
.ret
.skip)))))
(.ops [opO 29 (.ibin .add .i64 (.t 11) (.c (.int .i64 1))),
mvO 11 29] (some [0, 1, 2, 3, 10, 11]))))))))⟩
/-- slices.ContainsFunc[[]guidevane/api.DispatchRevision,guidevane/api.DispatchRevision] -/
def ir252 : IFn := ⟨9, [.t 4],
(.seq (.ops [opO 4 (.mov (.c (.bool false)))] (some [0, 1]))
(.seq (.ops [mvO 5 0,
mvO 6 1,
opO 7 (.call 259 [(.t 5), (.t 6)]),
opO 8 (.ibin .geq .i64 (.t 7) (.c (.int .i64 0))),
mvO 4 8] (some [4]))
.ret))⟩
/-- guidevane/dispatch.CheckRevisions$1 -/
def ir253 : IFn := ⟨9, [.t 3],
(.seq (.ops [opO 2 (.box (.t 0)),
opO 3 (.mov (.c (.bool false)))] (some [1, 2]))
(.seq (.ops [opO 4 (.faddr 0 (.t 2)),
opO 5 (.load 1 false (.t 4)),
opO 6 (.faddr 0 (.t 1)),
opO 7 (.load 1 false (.t 6)),
opO 8 (.sbin .eql (.t 5) (.t 7)),
mvO 3 8] (some [3]))
.ret))⟩
/-- guidevane/dispatch.isName -/
def ir254 : IFn := ⟨38, [.t 2],
(.seq (.ops [opO 2 (.mov (.c (.bool false)))] (some [0]))
(.seq (.seq (.ops [mvO 6 0,
opO 7 (.s2b (.t 6)),
opO 8 (.lenV (.t 7)),
opO 9 (.mov (.c (.int .i64 0)))] (some [0, 7, 8, 9]))
(.block 0 (.loop (.seq (.ops [opO 10 (.ibin .lss .i64 (.t 9) (.t 8))] none)
(.seq (.cond (.t 10)
.skip
(.exit 0))
(.seq (.block 1 (.seq (.ops [mvO 11 9,
opO 12 (.iaddr 1 (.t 7) (.t 9)),
opO 13 (.load 1 false (.t 12)),
mvO 3 11,
mvO 4 13] (some [0, 3, 4, 7, 8, 9]))
(.seq (.ops [mvO 14 4,
opO 15 (.ibin .or .u8 (.t 14) (.c (.int .u8 32))),
opO 16 (.conv .i64 (.t 15)),
opO 17 (.call 216 [(.t 16), (.c (.int .i64 97)), (.c (.int .i64 122))]),
mvO 5 17] (some [0, 3, 4, 5, 7, 8, 9]))
(.seq (.ops [mvO 18 5,
opO 19 (.un .not (.t 18)),
mvO 20 19,
⟨(some 21), (some (20, true)), .mov (.t 3)⟩,
⟨(some 22), (some (20, true)), .ibin .eql .i64 (.t 21) (.c (.int .i64 0))⟩,
⟨(some 23), (some (20, true)), .mov (.t 22)⟩,
⟨(some 24), (some (23, false)), .mov (.t 4)⟩,
⟨(some 25), (some (23, false)), .ibin .neq .u8 (.t 24) (.c (.int .u8 45))⟩,
⟨(some 26), (some (23, false)), .mov (.t 25)⟩,
⟨(some 27), (some (26, true)), .mov (.t 4)⟩,
⟨(some 28), (some (26, true)), .conv .i64 (.t 27)⟩,
⟨(some 29), (some (26, true)), .call 216 [(.t 28), (.c (.int .i64 48)), (.c (.int .i64 57))]⟩,
⟨(some 30), (some (26, true)), .un .not (.t 29)⟩,
⟨(some 31), (some (23, false)), .pick (.t 26) (.t 30) (.c (.bool false))⟩,
⟨(some 32), (some (20, true)), .pick (.t 23) (.c (.bool true)) (.t 31)⟩,
opO 33 (.pick (.t 20) (.t 32) (.c (.bool false)))] (some [0, 7, 8, 9, 33]))
(.cond (.t 33)
(.seq (.ops [opO 2 (.mov (.c (.bool false)))] none)
.ret)
.skip)))))
(.ops [opO 34 (.ibin .add .i64 (.t 9) (.c (.int .i64 1))),
mvO 9 34] (some [0, 7, 8, 9]))))))))
(.seq (.ops [mvO 35 0,
opO 36 (.lenS (.t 35)),
opO 37 (.call 216 [(.t 36), (.c (.int .i64 1)), (.c (.int .i64 12))]),
mvO 2 37] (some [2]))
.ret)))⟩
/-- math/bits.Mul -/
def ir255 : IFn := ⟨30, [.t 4, .t 5],
(.seq (.ops [opO 4 (.mov (.c (.int .u64 0))),
opO 5 (.mov (.c (.int .u64 0)))] (some [0, 1]))
(.seq (.cond (.c (.bool false))
(.seq (.ops [mvO 11 0,
opO 12 (.conv .u32 (.t 11)),
mvO 13 1,
opO 14 (.conv .u32 (.t 13)),
opO 15 (.call 260 [(.t 12), (.t 14)]),
mvO 10 15,
opO 16 (.extract 0 (.t 10)),
opO 17 (.extract 1 (.t 10)),
mvO 6 16,
mvO 7 17] (some [6, 7]))
(.seq (.ops [mvO 18 6,
opO 19 (.conv .u64 (.t 18)),
mvO 20 7,
opO 21 (.conv .u64 (.t 20)),
mvO 4 19,
mvO 5 21] (some [4, 5]))
.ret))
.skip)
(.seq (.ops [mvO 23 0,
mvO 24 1,
opO 25 (.call 261 [(.t 23), (.t 24)]),
mvO 22 25,
opO 26 (.extract 0 (.t 22)),
opO 27 (.extract 1 (.t 22)),
mvO 8 26,
mvO 9 27] (some [8, 9]))
(.seq (.ops [mvO 28 8,
mvO 29 9,
mvO 4 28,
mvO 5 29] (some [4, 5]))
.ret))))⟩
/-- guidevane/dispatch.CheckPlant$1 -/
def ir256 : IFn := ⟨5, [.t 2],
(.seq (.ops [opO 2 (.mov (.c (.bool false)))] (some [0]))
(.seq (.ops [mvO 3 0,
opO 4 (.call 216 [(.t 3), (.c (.int .i64 0)), (.c (.int .i64 1000000))]),
mvO 2 4] (some [2]))
.ret))⟩
/-- slices.ContainsFunc[[]guidevane/api.DispatchMode,guidevane/api.DispatchMode] -/
def ir257 : IFn := ⟨9, [.t 4],
(.seq (.ops [opO 4 (.mov (.c (.bool false)))] (some [0, 1]))
(.seq (.ops [mvO 5 0,
mvO 6 1,
opO 7 (.call 262 [(.t 5), (.t 6)]),
opO 8 (.ibin .geq .i64 (.t 7) (.c (.int .i64 0))),
mvO 4 8] (some [4]))
.ret))⟩
/-- guidevane/dispatch.CheckPlant$2 -/
def ir258 : IFn := ⟨9, [.t 3],
(.seq (.ops [opO 2 (.box (.t 0)),
opO 3 (.mov (.c (.bool false)))] (some [1, 2]))
(.seq (.ops [opO 4 (.faddr 0 (.t 2)),
opO 5 (.load 1 false (.t 4)),
opO 6 (.faddr 0 (.t 1)),
opO 7 (.load 1 false (.t 6)),
opO 8 (.sbin .eql (.t 5) (.t 7)),
mvO 3 8] (some [3]))
.ret))⟩
/-- slices.IndexFunc[[]guidevane/api.DispatchRevision,guidevane/api.DispatchRevision] -/
def ir259 : IFn := ⟨19, [.t 4],
(.seq (.ops [opO 4 (.mov (.c (.int .i64 0)))] (some [0, 1]))
(.seq (.seq (.ops [mvO 6 0,
opO 7 (.lenV (.t 6)),
opO 8 (.mov (.c (.int .i64 0)))] (some [0, 1, 7, 8]))
(.block 0 (.loop (.seq (.ops [opO 9 (.ibin .lss .i64 (.t 8) (.t 7))] none)
(.seq (.cond (.t 9)
.skip
(.exit 0))
(.seq (.block 1 (.seq (.ops [mvO 10 8,
mvO 5 10] (some [0, 1, 5, 7, 8]))
(.seq (.ops [mvO 11 1,
mvO 12 0,
mvO 13 5,
opO 14 (.iaddr 3 (.t 12) (.t 13)),
opO 15 (.load 3 true (.t 14)),
opO 16 (.callv (.t 11) [(.t 15)])] (some [0, 1, 5, 7, 8, 16]))
(.cond (.t 16)
(.seq (.ops [mvO 17 5,
mvO 4 17] (some [4]))
.ret)
.skip))))
(.ops [opO 18 (.ibin .add .i64 (.t 8) (.c (.int .i64 1))),
mvO 8 18] (some [0, 1, 7, 8]))))))))
(.seq (.ops [opO 4 (.mov (.c (.int .i64 (-1))))] none)
.ret)))⟩
/-- math/bits.Mul32 -/
def ir260 : IFn := ⟨17, [.t 4, .t 5],
(.seq (.ops [opO 4 (.mov (.c (.int .u32 0))),
opO 5 (.mov (.c (.int .u32 0)))] (some [0, 1]))
(.seq (.ops [mvO 7 0,
opO 8 (.conv .u64 (.t 7)),
mvO 9 1,
opO 10 (.conv .u64 (.t 9)),
opO 11 (.ibin .mul .u64 (.t 8) (.t 10)),
mvO 6 11] (some [6]))
(.seq (.ops [mvO 12 6,
opO 13 (.shift .shr .u64 (.t 12) (.c (.int .u64 32))),
opO 14 (.conv .u32 (.t 13)),
mvO 15 6,
opO 16 (.conv .u32 (.t 15)),
mvO 4 14,
mvO 5 16] (some [4, 5]))
.ret)))⟩
/-- math/bits.Mul64 -/
def ir261 : IFn := ⟨51, [.t 4, .t 5],
(.seq (.ops [opO 4 (.mov (.c (.int .u64 0))),
opO 5 (.mov (.c (.int .u64 0)))] (some [0, 1]))
(.seq (.ops [mvO 14 0,
opO 15 (.ibin .and .u64 (.t 14) (.c (.int .u64 4294967295))),
mvO 6 15] (some [0, 1, 6]))
(.seq (.ops [mvO 16 0,
opO 17 (.shift .shr .u64 (.t 16) (.c (.int .u64 32))),
mvO 7 17] (some [0, 1, 6, 7]))
(.seq (.ops [mvO 18 1,
opO 19 (.ibin .and .u64 (.t 18) (.c (.int .u64 4294967295))),
mvO 8 19] (some [0, 1, 6, 7, 8]))
(.seq (.ops [mvO 20 1,
opO 21 (.shift .shr .u64 (.t 20) (.c (.int .u64 32))),
mvO 9 21] (some [0, 1, 6, 7, 8, 9]))
(.seq (.ops [mvO 22 6,
mvO 23 8,
opO 24 (.ibin .mul .u64 (.t 22) (.t 23)),
mvO 10 24] (some [0, 1, 6, 7, 8, 9, 10]))
(.seq (.ops [mvO 25 7,
mvO 26 8,
opO 27 (.ibin .mul .u64 (.t 25) (.t 26)),
mvO 28 10,
opO 29 (.shift .shr .u64 (.t 28) (.c (.int .u64 32))),
opO 30 (.ibin .add .u64 (.t 27) (.t 29)),
mvO 11 30] (some [0, 1, 6, 7, 9, 11]))
(.seq (.ops [mvO 31 11,
opO 32 (.ibin .and .u64 (.t 31) (.c (.int .u64 4294967295))),
mvO 12 32] (some [0, 1, 6, 7, 9, 11, 12]))
(.seq (.ops [mvO 33 11,
opO 34 (.shift .shr .u64 (.t 33) (.c (.int .u64 32))),
mvO 13 34] (some [0, 1, 6, 7, 9, 12, 13]))
(.seq (.ops [mvO 35 12,
mvO 36 6,
mvO 37 9,
opO 38 (.ibin .mul .u64 (.t 36) (.t 37)),
opO 39 (.ibin .add .u64 (.t 35) (.t 38)),
mvO 12 39] (some [0, 1, 7, 9, 12, 13]))
(.seq (.ops [mvO 40 7,
mvO 41 9,
opO 42 (.ibin .mul .u64 (.t 40) (.t 41)),
mvO 43 13,
opO 44 (.ibin .add .u64 (.t 42) (.t 43)),
mvO 45 12,
opO 46 (.shift .shr .u64 (.t 45) (.c (.int .u64 32))),
opO 47 (.ibin .add .u64 (.t 44) (.t 46)),
mvO 4 47] (some [0, 1, 4]))
(.seq (.ops [mvO 48 0,
mvO 49 1,
opO 50 (.ibin .mul .u64 (.t 48) (.t 49)),
mvO 5 50] (some [4, 5]))
.ret))))))))))))⟩
/-- slices.IndexFunc[[]guidevane/api.DispatchMode,guidevane/api.DispatchMode] -/
def ir262 : IFn := ⟨19, [.t 4],
(.seq (.ops [opO 4 (.mov (.c (.int .i64 0)))] (some [0, 1]))
(.seq (.seq (.ops [mvO 6 0,
opO 7 (.lenV (.t 6)),
opO 8 (.mov (.c (.int .i64 0)))] (some [0, 1, 7, 8]))
(.block 0 (.loop (.seq (.ops [opO 9 (.ibin .lss .i64 (.t 8) (.t 7))] none)
(.seq (.cond (.t 9)
.skip
(.exit 0))
(.seq (.block 1 (.seq (.ops [mvO 10 8,
mvO 5 10] (some [0, 1, 5, 7, 8]))
(.seq (.ops [mvO 11 1,
mvO 12 0,
mvO 13 5,
opO 14 (.iaddr 4 (.t 12) (.t 13)),
opO 15 (.load 4 true (.t 14)),
opO 16 (.callv (.t 11) [(.t 15)])] (some [0, 1, 5, 7, 8, 16]))
(.cond (.t 16)
(.seq (.ops [mvO 17 5,
mvO 4 17] (some [4]))
.ret)
.skip))))
(.ops [opO 18 (.ibin .add .i64 (.t 8) (.c (.int .i64 1))),
mvO 8 18] (some [0, 1, 7, 8]))))))))
(.seq (.ops [opO 4 (.mov (.c (.int .i64 (-1))))] none)
.ret)))⟩
/-- guidevane/guidevanelaw08.DispatchRevisions -/
def ir304 : IFn := ⟨169, [.t 4],
(.seq (.ops [opO 4 (.mov (.c (.bool false)))] (some [0, 1]))
(.seq (.seq (.ops [opO 19 (.call 198 []),
opO 20 (.un .not (.t 19))] (some [0, 1, 20]))
(.cond (.t 20)
(.seq (.ops [opO 4 (.mov (.c (.bool false)))] none)
.ret)
.skip))
(.seq (.seq (.ops [mvO 21 0,
opO 22 (.lenV (.t 21)),
opO 23 (.ibin .gtr .i64 (.t 22) (.c (.int .i64 10))),
mvO 24 23,
⟨(some 25), (some (24, false)), .mov (.t 1)⟩,
⟨(some 26), (some (24, false)), .lenV (.t 25)⟩,
⟨(some 27), (some (24, false)), .ibin .gtr .i64 (.t 26) (.c (.int .i64 10))⟩,
opO 28 (.pick (.t 24) (.c (.bool true)) (.t 27))] (some [0, 1, 28]))
(.cond (.t 28)
(.seq (.ops [opO 4 (.mov (.c (.bool true)))] none)
.ret)
.skip))
(.seq (.seq (.ops [opO 5 (.mov (.c (.int .i64 0)))] none)
(.block 0 (.loop (.seq (.seq (.ops [mvO 29 5,
mvO 30 0,
opO 31 (.lenV (.t 30)),
opO 32 (.ibin .lss .i64 (.t 29) (.t 31))] (some [0, 1, 5, 32]))
(.cond (.t 32)
.skip
(.exit 0)))
(.seq (.block 1 (.seq (.ops [mvO 35 0,
mvO 36 5,
opO 37 (.iaddr 3 (.t 35) (.t 36)),
opO 38 (.faddr 0 (.t 37)),
opO 39 (.load 1 false (.t 38)),
opO 40 (.lenS (.t 39)),
opO 41 (.ibin .gtr .i64 (.t 40) (.c (.int .i64 20)))] (some [0, 1, 5, 41]))
(.cond (.t 41)
(.seq (.ops [opO 4 (.mov (.c (.bool true)))] none)
.ret)
.skip)))
(.ops [mvO 33 5,
opO 34 (.ibin .add .i64 (.t 33) (.c (.int .i64 1))),
mvO 5 34] (some [0, 1, 5])))))))
(.seq (.ops [mvO 43 0,
opO 44 (.call 334 [(.t 43)]),
opO 45 (.call 244 [(.t 44)]),
mvO 42 45,
opO 46 (.extract 0 (.t 42)),
opO 47 (.extract 1 (.t 42)),
mvO 6 46,
mvO 7 47] (some [0, 1, 6, 7]))
(.seq (.ops [mvO 49 0,
opO 50 (.call 334 [(.t 49)]),
mvO 51 1,
opO 52 (.call 38 [(.t 51)]),
opO 53 (.call 335 [(.t 50), (.t 52)]),
mvO 48 53,
opO 54 (.extract 0 (.t 48)),
opO 55 (.extract 1 (.t 48)),
mvO 8 54,
mvO 9 55] (some [0, 1, 6, 7, 8, 9]))
(.seq (.ops [mvO 57 0,
opO 58 (.call 334 [(.t 57)]),
opO 59 (.call 210 [(.t 58)]),
mvO 56 59,
opO 60 (.extract 0 (.t 56)),
opO 61 (.extract 1 (.t 56)),
opO 62 (.extract 2 (.t 56)),
mvO 10 60,
mvO 11 61,
mvO 12 62] (some [0, 1, 6, 7, 8, 9, 10, 11, 12]))
(.seq (.ops [mvO 64 0,
opO 65 (.call 334 [(.t 64)]),
opO 66 (.call 336 [(.t 65)]),
mvO 63 66,
opO 67 (.extract 0 (.t 63)),
opO 68 (.extract 1 (.t 63)),
mvO 13 67,
mvO 14 68] (some [0, 1, 6, 7, 8, 9, 10, 11, 12, 13, 14]))
(.seq (.ops [mvO 70 0,
opO 71 (.call 337 [(.t 70)]),
mvO 69 71,
opO 72 (.extract 0 (.t 69)),
opO 73 (.extract 1 (.t 69)),
mvO 15 72,
mvO 16 73] (some [0, 1, 6, 7, 8, 9, 10, 11, 12, 13, 14, 15, 16]))
(.seq (.seq (.ops [mvO 74 7,
mvO 75 16,
opO 76 (.ibin .neq .i64 (.t 74) (.t 75)),
mvO 77 76,
⟨(some 78), (some (77, false)), .mov (.t 6)⟩,
⟨(some 79), (some (77, false)), .mov (.t 15)⟩,
⟨(some 80), (some (77, false)), .ibin .neq .i64 (.t 78) (.t 79)⟩,
opO 81 (.pick (.t 77) (.c (.bool true)) (.t 80))] (some [0, 1, 8, 9, 10, 11, 12, 13, 14, 16, 81]))
(.cond (.t 81)
(.seq (.ops [opO 4 (.mov (.c (.bool false)))] none)
.ret)
.skip))
(.seq (.seq (.ops [mvO 82 16,
opO 83 (.ibin .neq .i64 (.t 82) (.c (.int .i64 0)))] (some [0, 1, 8, 9, 10, 11, 12, 13, 14, 16, 83]))
(.cond (.t 83)
(.seq (.ops [mvO 84 9,
mvO 85 16,
opO 86 (.ibin .eql .i64 (.t 84) (.t 85)),
mvO 87 86,
⟨(some 88), (some (87, true)), .mov (.t 12)⟩,
⟨(some 89), (some (87, true)), .mov (.t 16)⟩,
⟨(some 90), (some (87, true)), .ibin .eql .i64 (.t 88) (.t 89)⟩,
opO 91 (.pick (.t 87) (.t 90) (.c (.bool false))),
mvO 92 91,
⟨(some 93), (some (92, true)), .mov (.t 14)⟩,
⟨(some 94), (some (92, true)), .mov (.t 16)⟩,
⟨(some 95), (some (92, true)), .ibin .eql .i64 (.t 93) (.t 94)⟩,
opO 96 (.pick (.t 92) (.t 95) (.c (.bool false))),
mvO 97 96,
⟨(some 98), (some (97, true)), .mov (.t 8)⟩,
⟨(some 99), (some (97, true)), .ibin .eql .i64 (.t 98) (.c (.int .i64 0))⟩,
opO 100 (.pick (.t 97) (.t 99) (.c (.bool false))),
mvO 101 100,
⟨(some 102), (some (101, true)), .mov (.t 10)⟩,
⟨(some 103), (some (101, true)), .lenV (.t 102)⟩,
⟨(some 104), (some (101, true)), .mov (.t 13)⟩,
⟨(some 105), (some (101, true)), .lenV (.t 104)⟩,
⟨(some 106), (some (101, true)), .ibin .add .i64 (.t 103) (.t 105)⟩,
⟨(some 107), (some (101, true)), .ibin .eql .i64 (.t 106) (.c (.int .i64 0))⟩,
opO 108 (.pick (.t 101) (.t 107) (.c (.bool false))),
mvO 109 108,
⟨(some 110), (some (109, true)), .mov (.t 11)⟩,
⟨(some 111), (some (109, true)), .ibin .eql .i64 (.t 110) (.c (.int .i64 0))⟩,
opO 112 (.pick (.t 109) (.t 111) (.c (.bool false))),
mvO 4 112] (some [4]))
.ret)
.skip))
(.seq (.seq (.ops [mvO 113 0,
mvO 114 1,
opO 115 (.call 338 [(.t 113), (.t 114)]),
mvO 16 115] (some [0, 1, 8, 9, 10, 11, 12, 13, 14, 16]))
(.seq (.ops [mvO 116 16,
opO 117 (.ibin .neq .i64 (.t 116) (.c (.int .i64 0))),
mvO 118 117,
⟨(some 119), (some (118, true)), .mov (.t 9)⟩,
⟨(some 120), (some (118, true)), .mov (.t 16)⟩,
⟨(some 121), (some (118, true)), .ibin .neq .i64 (.t 119) (.t 120)⟩,
⟨(some 122), (some (118, true)), .mov (.t 121)⟩,
⟨(some 123), (some (122, false)), .mov (.t 8)⟩,
⟨(some 124), (some (122, false)), .ibin .neq .i64 (.t 123) (.c (.int .i64 0))⟩,
⟨(some 125), (some (118, true)), .pick (.t 122) (.c (.bool true)) (.t 124)⟩,
opO 126 (.pick (.t 118) (.t 125) (.c (.bool false))),
mvO 127 126,
⟨(some 128), (some (127, false)), .mov (.t 16)⟩,
⟨(some 129), (some (127, false)), .ibin .eql .i64 (.t 128) (.c (.int .i64 0))⟩,
⟨(some 130), (some (127, false)), .mov (.t 129)⟩,
⟨(some 131), (some (130, true)), .mov (.t 9)⟩,
⟨(some 132), (some (130, true)), .ibin .neq .i64 (.t 131) (.c (.int .i64 0))⟩,
⟨(some 133), (some (130, true)), .mov (.t 132)⟩,
⟨(some 134), (some (133, false)), .mov (.t 8)⟩,
⟨(some 135), (some (133, false)), .mov (.t 0)⟩,
⟨(some 136), (some (133, false)), .mov (.t 1)⟩,
⟨(some 137), (some (133, false)), .call 339 [(.t 135), (.t 136)]⟩,
⟨(some 138), (some (133, false)), .ibin .neq .i64 (.t 134) (.t 137)⟩,
⟨(some 139), (some (130, true)), .pick (.t 133) (.c (.bool true)) (.t 138)⟩,
⟨(some 140), (some (127, false)), .pick (.t 130) (.t 139) (.c (.bool false))⟩,
opO 141 (.pick (.t 127) (.c (.bool true)) (.t 140))] (some [0, 10, 11, 12, 13, 14, 141]))
(.cond (.t 141)
(.seq (.ops [opO 4 (.mov (.c (.bool false)))] none)
.ret)
.skip)))
(.seq (.ops [mvO 143 0,
opO 144 (.call 340 [(.t 143)]),
mvO 142 144,
opO 145 (.extract 0 (.t 142)),
opO 146 (.extract 1 (.t 142)),
mvO 17 145,
mvO 18 146] (some [0, 10, 11, 12, 13, 14, 17, 18]))
(.seq (.ops [mvO 147 12,
opO 148 (.ibin .eql .i64 (.t 147) (.c (.int .i64 0))),
mvO 149 148,
⟨(some 150), (some (149, true)), .mov (.t 10)⟩,
⟨(some 151), (some (149, true)), .mov (.t 17)⟩,
⟨(some 152), (some (149, true)), .call 26 [(.t 150), (.t 151)]⟩,
opO 153 (.pick (.t 149) (.t 152) (.c (.bool false))),
mvO 154 153,
⟨(some 155), (some (154, true)), .mov (.t 11)⟩,
⟨(some 156), (some (154, true)), .mov (.t 18)⟩,
⟨(some 157), (some (154, true)), .ibin .eql .i64 (.t 155) (.t 156)⟩,
opO 158 (.pick (.t 154) (.t 157) (.c (.bool false))),
mvO 159 158,
⟨(some 160), (some (159, true)), .mov (.t 14)⟩,
⟨(some 161), (some (159, true)), .ibin .eql .i64 (.t 160) (.c (.int .i64 0))⟩,
opO 162 (.pick (.t 159) (.t 161) (.c (.bool false))),
mvO 163 162,
⟨(some 164), (some (163, true)), .mov (.t 13)⟩,
⟨(some 165), (some (163, true)), .mov (.t 0)⟩,
⟨(some 166), (some (163, true)), .call 341 [(.t 165)]⟩,
⟨(some 167), (some (163, true)), .call 26 [(.t 164), (.t 166)]⟩,
opO 168 (.pick (.t 163) (.t 167) (.c (.bool false))),
mvO 4 168] (some [4]))
.ret))))))))))))))⟩
/-- guidevane/guidevaneref08.CopyRevisions -/
def ir334 : IFn := ⟨6, [.t 2],
(.seq (.ops [opO 2 (.mov (.c (.slice none 0 0)))] (some [0]))
(.seq (.ops [opO 3 (.bslice 0 3 [(.string ⟨#[]⟩), (.int .i64 0), (.int .i64 0)] []),
mvO 4 0,
opO 5 (.append 3 32 (.t 3) (.t 4)),
mvO 2 5] (some [2]))
.ret))⟩
/-- guidevane/dispatch.LatenessOf -/
def ir335 : IFn := ⟨57, [.t 4, .t 5],
(.seq (.ops [opO 4 (.mov (.c (.int .i64 0))),
opO 5 (.mov (.c (.int .i64 0)))] (some [0, 1]))
(.seq (.ops [mvO 12 0,
opO 13 (.call 224 [(.t 12)]),
mvO 11 13,
opO 14 (.extract 0 (.t 11)),
opO 15 (.extract 1 (.t 11)),
mvO 6 14,
mvO 7 15] (some [0, 1, 6, 7]))
(.seq (.seq (.ops [mvO 16 7,
mvO 17 1,
opO 18 (.lenV (.t 17)),
mvO 19 0,
opO 20 (.lenV (.t 19)),
opO 21 (.ibin .eql .i64 (.t 18) (.t 20)),
opO 22 (.call 214 [(.t 21), (.c (.int .i64 10))]),
opO 23 (.bslice 2 1 [(.int .i64 0)] [(0, 1, (.t 16)), (1, 1, (.t 22))]),
opO 24 (.call 213 [(.t 23)]),
mvO 7 24] (some [0, 1, 6, 7]))
(.seq (.ops [mvO 25 7,
opO 26 (.ibin .neq .i64 (.t 25) (.c (.int .i64 0)))] (some [0, 1, 6, 7, 26]))
(.cond (.t 26)
(.seq (.ops [mvO 27 7,
opO 4 (.mov (.c (.int .i64 0))),
mvO 5 27] (some [4, 5]))
.ret)
.skip)))
(.seq (.seq (.ops [mvO 28 1,
opO 29 (.lenV (.t 28)),
opO 30 (.mov (.c (.int .i64 0)))] none)
(.block 0 (.loop (.seq (.ops [opO 31 (.ibin .lss .i64 (.t 30) (.t 29))] none)
(.seq (.cond (.t 31)
.skip
(.exit 0))
(.seq (.block 1 (.seq (.ops [mvO 32 30,
opO 33 (.iaddr 1 (.t 28) (.t 30)),
opO 34 (.load 1 false (.t 33)),
mvO 8 32,
mvO 9 34] (some [0, 1, 6, 8, 9, 28, 29, 30]))
(.seq (.draw (.rd 0 (mvO 35 9)
(.rd 1 (mvO 36 0)
(.rd 2 (opO 37 (.lenV (.t 36)))
(.rd 3 (opO 38 (.ibin .sub .i64 (.t 37) (.c (.int .i64 1))))
(.rd 6 (mvO 41 1)
(.rd 7 (mvO 42 8)
(.rd 8 (opO 43 (.sliceV 1 (.t 41) none (some (.t 42)) none))
(.rd 9 (mvO 44 9)
(.wr 4 (opO 39 (.call 216 [(.t 35), (.c (.int .i64 0)), (.t 38)])) [0, 3]
(.wr 5 (opO 40 (.call 214 [(.t 39), (.c (.int .i64 6))])) [4, 4]
(.wr 10 (opO 45 (.call 138 [(.t 43), (.t 44)])) [8, 9, 5]
(.rd 11 (opO 46 (.un .not (.t 45)))
(.wr 12 (opO 47 (.call 214 [(.t 46), (.c (.int .i64 23))])) [11, 10]
(.wr 13 (opO 48 (.bslice 2 1 [(.int .i64 0)] [(0, 1, (.t 40)), (1, 1, (.t 47))])) [5, 12]
(.wr 14 (opO 49 (.call 213 [(.t 48)])) [13, 12]
(.rd 15 (mvO 10 49)
.fin) .no) .no) .no)) .no) .no) .no))))))))) (some [0, 1, 6, 10, 28, 29, 30]))
(.seq (.ops [mvO 50 10,
opO 51 (.ibin .neq .i64 (.t 50) (.c (.int .i64 0)))] (some [0, 1, 6, 10, 28, 29, 30, 51]))
(.cond (.t 51)
(.seq (.ops [mvO 52 10,
opO 4 (.mov (.c (.int .i64 0))),
mvO 5 52] (some [4, 5]))
.ret)
.skip)))))
(.ops [opO 53 (.ibin .add .i64 (.t 30) (.c (.int .i64 1))),
mvO 30 53] (some [0, 1, 6, 28, 29, 30]))))))))
(.seq (.ops [mvO 54 6,
mvO 55 1,
opO 56 (.call 226 [(.t 54), (.t 55), (.c (.int .i64 0))]),
mvO 4 56,
opO 5 (.mov (.c (.int .i64 0)))] (some [4, 5]))
.ret)))))⟩
/-- guidevane/dispatch.GroupOf -/
def ir336 : IFn := ⟨76, [.t 2, .t 3],
(.seq (.ops [opO 2 (.mov (.c (.slice none 0 0))),
opO 3 (.mov (.c (.int .i64 0)))] (some [0]))
(.seq (.ops [mvO 12 0,
opO 13 (.call 224 [(.t 12)]),
mvO 11 13,
opO 14 (.extract 0 (.t 11)),
opO 15 (.extract 1 (.t 11)),
mvO 4 14,
mvO 5 15] (some [4, 5]))
(.seq (.seq (.ops [mvO 16 5,
opO 17 (.ibin .neq .i64 (.t 16) (.c (.int .i64 0)))] (some [4, 5, 17]))
(.cond (.t 17)
(.seq (.ops [mvO 18 5,
opO 2 (.mov (.c (.slice none 0 0))),
mvO 3 18] (some [2, 3]))
.ret)
.skip))
(.seq (.ops [mvO 19 4,
mvO 20 4,
mvO 21 4,
opO 22 (.call 225 [(.t 21)]),
opO 23 (.call 227 [(.t 20), (.t 22)]),
opO 24 (.call 226 [(.t 19), (.t 23), (.c (.int .i64 0))]),
mvO 6 24] (some [4, 6]))
(.seq (.ops [opO 7 (.mov (.c (.slice none 0 0)))] none)
(.seq (.seq (.ops [opO 8 (.mov (.c (.int .i64 1)))] none)
(.block 0 (.loop (.seq (.seq (.ops [mvO 25 8,
mvO 26 4,
opO 27 (.lenV (.t 26)),
opO 28 (.shift .shl .i64 (.c (.int .i64 1)) (.t 27)),
opO 29 (.ibin .lss .i64 (.t 25) (.t 28))] (some [4, 6, 7, 8, 29]))
(.cond (.t 29)
.skip
(.exit 0)))
(.seq (.block 1 (.seq (.ops [opO 9 (.mov (.c (.slice none 0 0)))] none)
(.seq (.seq (.ops [mvO 32 4,
opO 33 (.lenV (.t 32)),
opO 34 (.mov (.c (.int .i64 0)))] (some [4, 6, 7, 8, 9, 33, 34]))
(.block 2 (.loop (.seq (.ops [opO 35 (.ibin .lss .i64 (.t 34) (.t 33))] none)
(.seq (.cond (.t 35)
.skip
(.exit 2))
(.seq (.block 3 (.seq (.ops [mvO 36 34,
mvO 10 36] (some [4, 6, 7, 8, 9, 10, 33, 34]))
(.seq (.ops [mvO 37 8,
mvO 38 10,
opO 39 (.shift .shr .i64 (.t 37) (.t 38)),
opO 40 (.ibin .and .i64 (.t 39) (.c (.int .i64 1))),
opO 41 (.ibin .eql .i64 (.t 40) (.c (.int .i64 1)))] (some [4, 6, 7, 8, 9, 10, 33, 34, 41]))
(.cond (.t 41)
(.ops [mvO 42 9,
mvO 43 10,
opO 44 (.bslice 1 1 [(.int .i64 0)] [(0, 1, (.t 43))]),
opO 45 (.append 1 8 (.t 42) (.t 44)),
mvO 9 45] (some [4, 6, 7, 8, 9, 33, 34]))
.skip))))
(.ops [opO 46 (.ibin .add .i64 (.t 34) (.c (.int .i64 1))),
mvO 34 46] (some [4, 6, 7, 8, 9, 33, 34]))))))))
(.seq (.seq (.ops [mvO 47 4,
mvO 48 9,
opO 49 (.call 362 [(.t 47), (.t 48)]),
mvO 50 6,
opO 51 (.ibin .neq .i64 (.t 49) (.t 50))] (some [4, 6, 7, 8, 9, 51]))
(.cond (.t 51)
(.exit 1)
.skip))
(.seq (.ops [mvO 52 7,
opO 53 (.nileq .sl false (.t 52)),
mvO 54 53,
⟨(some 55), (some (54, false)), .mov (.t 9)⟩,
⟨(some 56), (some (54, false)), .lenV (.t 55)⟩,
⟨(some 57), (some (54, false)), .mov (.t 7)⟩,
⟨(some 58), (some (54, false)), .lenV (.t 57)⟩,
⟨(some 59), (some (54, false)), .ibin .lss .i64 (.t 56) (.t 58)⟩,
opO 60 (.pick (.t 54) (.c (.bool true)) (.t 59)),
mvO 61 60,
⟨(some 62), (some (61, false)), .mov (.t 9)⟩,
⟨(some 63), (some (61, false)), .lenV (.t 62)⟩,
⟨(some 64), (some (61, false)), .mov (.t 7)⟩,
⟨(some 65), (some (61, false)), .lenV (.t 64)⟩,
⟨(some 66), (some (61, false)), .ibin .eql .i64 (.t 63) (.t 65)⟩,
⟨(some 67), (some (61, false)), .mov (.t 66)⟩,
⟨(some 68), (some (67, true)), .mov (.t 9)⟩,
⟨(some 69), (some (67, true)), .mov (.t 7)⟩,
⟨(some 70), (some (67, true)), .call 363 [(.t 68), (.t 69)]⟩,
⟨(some 71), (some (67, true)), .ibin .lss .i64 (.t 70) (.c (.int .i64 0))⟩,
⟨(some 72), (some (61, false)), .pick (.t 67) (.t 71) (.c (.bool false))⟩,
opO 73 (.pick (.t 61) (.c (.bool true)) (.t 72))] (some [4, 6, 7, 8, 9, 73]))
(.cond (.t 73)
(.ops [mvO 74 9,
mvO 7 74] (some [4, 6, 7, 8]))
.skip))))))
(.ops [mvO 30 8,
opO 31 (.ibin .add .i64 (.t 30) (.c (.int .i64 1))),
mvO 8 31] (some [4, 6, 7, 8])))))))
(.seq (.ops [mvO 75 7,
mvO 2 75,
opO 3 (.mov (.c (.int .i64 0)))] (some [2, 3]))
.ret)))))))⟩
/-- guidevane/guidevaneref08.CheckRevisions -/
def ir337 : IFn := ⟨59, [.t 2, .t 3],
(.seq (.ops [opO 2 (.mov (.c (.int .i64 0))),
opO 3 (.mov (.c (.int .i64 0)))] (some [0]))
(.seq (.seq (.ops [mvO 6 0,
opO 7 (.lenV (.t 6)),
opO 8 (.ibin .eql .i64 (.t 7) (.c (.int .i64 0)))] (some [0, 8]))
(.cond (.t 8)
(.seq (.ops [opO 2 (.mov (.c (.int .i64 0))),
opO 3 (.mov (.c (.int .i64 10)))] none)
.ret)
.skip))
(.seq (.seq (.ops [mvO 9 0,
opO 10 (.lenV (.t 9)),
opO 11 (.ibin .gtr .i64 (.t 10) (.c (.int .i64 8)))] (some [0, 11]))
(.cond (.t 11)
(.seq (.ops [opO 2 (.mov (.c (.int .i64 0))),
opO 3 (.mov (.c (.int .i64 8)))] none)
.ret)
.skip))
(.seq (.ops [opO 4 (.mov (.c (.slice none 0 0)))] none)
(.seq (.seq (.ops [opO 5 (.mov (.c (.int .i64 0)))] none)
(.block 0 (.loop (.seq (.seq (.ops [mvO 12 5,
mvO 13 0,
opO 14 (.lenV (.t 13)),
opO 15 (.ibin .lss .i64 (.t 12) (.t 14))] (some [0, 4, 5, 15]))
(.cond (.t 15)
.skip
(.exit 0)))
(.seq (.block 1 (.seq (.seq (.ops [mvO 18 0,
mvO 19 5,
opO 20 (.iaddr 3 (.t 18) (.t 19)),
opO 21 (.faddr 0 (.t 20)),
opO 22 (.load 1 false (.t 21)),
opO 23 (.call 91 [(.t 22)]),
opO 24 (.un .not (.t 23))] (some [0, 4, 5, 24]))
(.cond (.t 24)
(.seq (.ops [mvO 25 5,
mvO 2 25,
opO 3 (.mov (.c (.int .i64 4)))] (some [2, 3]))
.ret)
.skip))
(.seq (.seq (.ops [mvO 26 4,
mvO 27 0,
mvO 28 5,
opO 29 (.iaddr 3 (.t 27) (.t 28)),
opO 30 (.faddr 0 (.t 29)),
opO 31 (.load 1 false (.t 30)),
opO 32 (.call 364 [(.t 26), (.t 31)])] (some [0, 4, 5, 32]))
(.cond (.t 32)
(.seq (.ops [mvO 33 5,
mvO 2 33,
opO 3 (.mov (.c (.int .i64 5)))] (some [2, 3]))
.ret)
.skip))
(.seq (.seq (.ops [mvO 34 0,
mvO 35 5,
opO 36 (.iaddr 3 (.t 34) (.t 35)),
opO 37 (.faddr 1 (.t 36)),
opO 38 (.load 1 false (.t 37)),
opO 39 (.call 15 [(.t 38), (.c (.int .i64 0)), (.c (.int .i64 100000))]),
opO 40 (.un .not (.t 39)),
mvO 41 40,
⟨(some 42), (some (41, false)), .mov (.t 0)⟩,
⟨(some 43), (some (41, false)), .mov (.t 5)⟩,
⟨(some 44), (some (41, false)), .iaddr 3 (.t 42) (.t 43)⟩,
⟨(some 45), (some (41, false)), .faddr 2 (.t 44)⟩,
⟨(some 46), (some (41, false)), .load 1 false (.t 45)⟩,
⟨(some 47), (some (41, false)), .call 15 [(.t 46), (.c (.int .i64 1)), (.c (.int .i64 100000))]⟩,
⟨(some 48), (some (41, false)), .un .not (.t 47)⟩,
opO 49 (.pick (.t 41) (.c (.bool true)) (.t 48))] (some [0, 4, 5, 49]))
(.cond (.t 49)
(.seq (.ops [mvO 50 5,
mvO 2 50,
opO 3 (.mov (.c (.int .i64 2)))] (some [2, 3]))
.ret)
.skip))
(.ops [mvO 51 4,
mvO 52 0,
mvO 53 5,
opO 54 (.iaddr 3 (.t 52) (.t 53)),
opO 55 (.faddr 0 (.t 54)),
opO 56 (.load 1 false (.t 55)),
opO 57 (.bslice 1 1 [(.string ⟨#[]⟩)] [(0, 1, (.t 56))]),
opO 58 (.append 1 16 (.t 51) (.t 57)),
mvO 4 58] (some [0, 4, 5]))))))
(.ops [mvO 16 5,
opO 17 (.ibin .add .i64 (.t 16) (.c (.int .i64 1))),
mvO 5 17] (some [0, 4, 5])))))))
(.seq (.ops [opO 2 (.mov (.c (.int .i64 0))),
opO 3 (.mov (.c (.int .i64 0)))] none)
.ret))))))⟩
/-- guidevane/guidevaneref08.OrderErr -/
def ir338 : IFn := ⟨34, [.t 4],
(.seq (.ops [opO 4 (.mov (.c (.int .i64 0)))] (some [0, 1]))
(.seq (.seq (.ops [mvO 6 1,
opO 7 (.lenV (.t 6)),
mvO 8 0,
opO 9 (.lenV (.t 8)),
opO 10 (.ibin .neq .i64 (.t 7) (.t 9))] (some [0, 1, 10]))
(.cond (.t 10)
(.seq (.ops [opO 4 (.mov (.c (.int .i64 10)))] none)
.ret)
.skip))
(.seq (.seq (.ops [opO 5 (.mov (.c (.int .i64 0)))] none)
(.block 0 (.loop (.seq (.seq (.ops [mvO 11 5,
mvO 12 1,
opO 13 (.lenV (.t 12)),
opO 14 (.ibin .lss .i64 (.t 11) (.t 13))] (some [0, 1, 5, 14]))
(.cond (.t 14)
.skip
(.exit 0)))
(.seq (.block 1 (.seq (.seq (.ops [mvO 17 1,
mvO 18 5,
opO 19 (.iaddr 1 (.t 17) (.t 18)),
opO 20 (.load 1 false (.t 19)),
mvO 21 0,
opO 22 (.lenV (.t 21)),
opO 23 (.ibin .sub .i64 (.t 22) (.c (.int .i64 1))),
opO 24 (.call 15 [(.t 20), (.c (.int .i64 0)), (.t 23)]),
opO 25 (.un .not (.t 24))] (some [0, 1, 5, 25]))
(.cond (.t 25)
(.seq (.ops [opO 4 (.mov (.c (.int .i64 6)))] none)
.ret)
.skip))
(.seq (.draw (.rd 0 (mvO 26 1)
(.rd 1 (mvO 27 5)
(.rd 2 (opO 28 (.sliceV 1 (.t 26) none (some (.t 27)) none))
(.rd 3 (mvO 29 1)
(.rd 4 (mvO 30 5)
(.rd 5 (opO 31 (.iaddr 1 (.t 29) (.t 30)))
(.rd 6 (opO 32 (.load 1 false (.t 31)))
(.wr 7 (opO 33 (.call 344 [(.t 28), (.t 32)])) [2, 6]
.fin .no)))))))) (some [0, 1, 5, 33]))
(.cond (.t 33)
(.seq (.ops [opO 4 (.mov (.c (.int .i64 23)))] none)
.ret)
.skip))))
(.ops [mvO 15 5,
opO 16 (.ibin .add .i64 (.t 15) (.c (.int .i64 1))),
mvO 5 16] (some [0, 1, 5])))))))
(.seq (.ops [opO 4 (.mov (.c (.int .i64 0)))] none)
.ret))))⟩
/-- guidevane/guidevaneref08.Lateness -/
def ir339 : IFn := ⟨41, [.t 4],
(.seq (.ops [opO 4 (.mov (.c (.int .i64 0)))] (some [0, 1]))
(.seq (.ops [opO 5 (.mov (.c (.int .i64 0))),
opO 6 (.mov (.c (.int .i64 0)))] none)
(.seq (.seq (.ops [opO 7 (.mov (.c (.int .i64 0)))] none)
(.block 0 (.loop (.seq (.seq (.ops [mvO 9 7,
mvO 10 1,
opO 11 (.lenV (.t 10)),
opO 12 (.ibin .lss .i64 (.t 9) (.t 11))] (some [0, 1, 5, 6, 7, 12]))
(.cond (.t 12)
.skip
(.exit 0)))
(.seq (.block 1 (.seq (.ops [mvO 15 0,
mvO 16 1,
mvO 17 7,
opO 18 (.iaddr 1 (.t 16) (.t 17)),
opO 19 (.load 1 false (.t 18)),
opO 20 (.iaddr 3 (.t 15) (.t 19)),
opO 21 (.load 3 true (.t 20)),
opO 8 (.alloc [(.string ⟨#[]⟩), (.int .i64 0), (.int .i64 0)]),
⟨none, none, .store 3 (.t 8) (.t 21)⟩] (some [0, 1, 5, 6, 7, 8]))
(.seq (.ops [mvO 22 5,
opO 23 (.faddr 2 (.t 8)),
opO 24 (.load 1 false (.t 23)),
opO 25 (.ibin .add .i64 (.t 22) (.t 24)),
mvO 5 25] (some [0, 1, 5, 6, 7, 8]))
(.seq (.ops [mvO 26 7,
opO 27 (.ibin .eql .i64 (.t 26) (.c (.int .i64 0))),
mvO 28 27,
⟨(some 29), (some (28, false)), .mov (.t 5)⟩,
⟨(some 30), (some (28, false)), .faddr 1 (.t 8)⟩,
⟨(some 31), (some (28, false)), .load 1 false (.t 30)⟩,
⟨(some 32), (some (28, false)), .ibin .sub .i64 (.t 29) (.t 31)⟩,
⟨(some 33), (some (28, false)), .mov (.t 6)⟩,
⟨(some 34), (some (28, false)), .ibin .gtr .i64 (.t 32) (.t 33)⟩,
opO 35 (.pick (.t 28) (.c (.bool true)) (.t 34))] (some [0, 1, 5, 6, 7, 8, 35]))
(.cond (.t 35)
(.ops [mvO 36 5,
opO 37 (.faddr 1 (.t 8)),
opO 38 (.load 1 false (.t 37)),
opO 39 (.ibin .sub .i64 (.t 36) (.t 38)),
mvO 6 39] (some [0, 1, 5, 6, 7]))
.skip)))))
(.ops [mvO 13 7,
opO 14 (.ibin .add .i64 (.t 13) (.c (.int .i64 1))),
mvO 7 14] (some [0, 1, 5, 6, 7])))))))
(.seq (.ops [mvO 40 6,
mvO 4 40] (some [4]))
.ret))))⟩
/-- guidevane/guidevaneref08.BestOrder -/
def ir340 : IFn := ⟨41, [.t 2, .t 3],
(.seq (.ops [opO 2 (.mov (.c (.slice none 0 0))),
opO 3 (.mov (.c (.int .i64 0)))] (some [0]))
(.seq (.ops [mvO 8 0,
mvO 9 0,
opO 10 (.call 365 [(.t 9), (.c (.slice none 0 0))]),
opO 11 (.call 339 [(.t 8), (.t 10)]),
mvO 4 11] (some [0, 4]))
(.seq (.ops [opO 5 (.mov (.c (.slice none 0 0)))] none)
(.seq (.block 0 (.loop (.seq (.seq (.ops [mvO 12 5,
opO 13 (.lenV (.t 12)),
mvO 14 0,
opO 15 (.lenV (.t 14)),
opO 16 (.ibin .lss .i64 (.t 13) (.t 15))] (some [0, 4, 5, 16]))
(.cond (.t 16)
.skip
(.exit 0)))
(.block 1 (.seq (.ops [opO 6 (.mov (.c (.int .i64 0)))] none)
(.block 2 (.loop (.seq (.seq (.ops [mvO 17 6,
mvO 18 0,
opO 19 (.lenV (.t 18)),
opO 20 (.ibin .lss .i64 (.t 17) (.t 19))] (some [0, 4, 5, 6, 20]))
(.cond (.t 20)
.skip
(.exit 2)))
(.seq (.block 3 (.seq (.seq (.ops [mvO 23 5,
mvO 24 6,
opO 25 (.call 344 [(.t 23), (.t 24)])] (some [0, 4, 5, 6, 25]))
(.cond (.t 25)
(.exit 3)
.skip))
(.seq (.ops [mvO 26 5,
opO 27 (.call 38 [(.t 26)]),
mvO 28 6,
opO 29 (.bslice 1 1 [(.int .i64 0)] [(0, 1, (.t 28))]),
opO 30 (.append 1 8 (.t 27) (.t 29)),
mvO 7 30] (some [0, 4, 5, 6, 7]))
(.seq (.ops [mvO 31 0,
mvO 32 0,
mvO 33 7,
opO 34 (.call 365 [(.t 32), (.t 33)]),
opO 35 (.call 339 [(.t 31), (.t 34)]),
mvO 36 4,
opO 37 (.ibin .eql .i64 (.t 35) (.t 36))] (some [0, 4, 5, 6, 7, 37]))
(.cond (.t 37)
(.seq (.ops [mvO 38 7,
mvO 5 38] (some [0, 4, 5]))
(.exit 2))
.skip)))))
(.ops [mvO 21 6,
opO 22 (.ibin .add .i64 (.t 21) (.c (.int .i64 1))),
mvO 6 22] (some [0, 4, 5, 6])))))))))))
(.seq (.ops [mvO 39 5,
mvO 40 4,
mvO 2 39,
mvO 3 40] (some [2, 3]))
.ret)))))⟩
/-- guidevane/guidevaneref08.Group -/
def ir341 : IFn := ⟨28, [.t 2],
(.seq (.ops [opO 2 (.mov (.c (.slice none 0 0)))] (some [0]))
(.seq (.ops [mvO 9 0,
opO 10 (.call 340 [(.t 9)]),
mvO 8 10,
opO 11 (.extract 0 (.t 8)),
opO 12 (.extract 1 (.t 8)),
mvO 3 11,
mvO 4 12] (some [0, 4]))
(.seq (.seq (.ops [opO 5 (.mov (.c (.int .i64 1)))] none)
(.block 0 (.loop (.seq (.seq (.ops [mvO 13 5,
mvO 14 0,
opO 15 (.lenV (.t 14)),
opO 16 (.ibin .leq .i64 (.t 13) (.t 15))] (some [0, 4, 5, 16]))
(.cond (.t 16)
.skip
(.exit 0)))
(.seq (.block 1 (.seq (.ops [mvO 20 0,
mvO 21 5,
mvO 22 4,
opO 23 (.call 366 [(.t 20), (.c (.slice none 0 0)), (.t 21), (.t 22)]),
mvO 19 23,
opO 24 (.extract 0 (.t 19)),
opO 25 (.extract 1 (.t 19)),
mvO 6 24,
mvO 7 25] (some [0, 4, 5, 6, 7]))
(.seq (.ops [mvO 26 7] (some [0, 4, 5, 6, 26]))
(.cond (.t 26)
(.seq (.ops [mvO 27 6,
mvO 2 27] (some [2]))
.ret)
.skip))))
(.ops [mvO 17 5,
opO 18 (.ibin .add .i64 (.t 17) (.c (.int .i64 1))),
mvO 5 18] (some [0, 4, 5])))))))
(.seq (.ops [opO 2 (.mov (.c (.slice none 0 0)))] none)
.ret))))⟩
/-- guidevane/guidevaneref08.Bound -/
def ir343 : IFn := ⟨37, [.t 4],
(.seq (.ops [opO 4 (.mov (.c (.int .i64 0)))] (some [0, 1]))
(.seq (.ops [opO 5 (.mov (.c (.int .i64 0))),
opO 6 (.mov (.c (.int .i64 0)))] none)
(.seq (.seq (.ops [opO 7 (.mov (.c (.int .i64 0)))] none)
(.block 0 (.loop (.seq (.seq (.ops [mvO 8 7,
mvO 9 1,
opO 10 (.lenV (.t 9)),
opO 11 (.ibin .lss .i64 (.t 8) (.t 10))] (some [0, 1, 5, 6, 7, 11]))
(.cond (.t 11)
.skip
(.exit 0)))
(.seq (.block 1 (.draw (.rd 0 (mvO 14 5)
(.rd 1 (mvO 15 0)
(.rd 2 (mvO 16 1)
(.rd 3 (mvO 17 7)
(.rd 4 (opO 18 (.iaddr 1 (.t 16) (.t 17)))
(.rd 5 (opO 19 (.load 1 false (.t 18)))
(.rd 6 (opO 20 (.iaddr 3 (.t 15) (.t 19)))
(.rd 7 (opO 21 (.faddr 2 (.t 20)))
(.rd 8 (opO 22 (.load 1 false (.t 21)))
(.rd 9 (opO 23 (.ibin .add .i64 (.t 14) (.t 22)))
(.rd 10 (mvO 24 6)
(.rd 11 (mvO 25 0)
(.rd 12 (mvO 26 1)
(.rd 13 (mvO 27 7)
(.rd 14 (opO 28 (.iaddr 1 (.t 26) (.t 27)))
(.rd 15 (opO 29 (.load 1 false (.t 28)))
(.rd 16 (opO 30 (.iaddr 3 (.t 25) (.t 29)))
(.rd 17 (opO 31 (.faddr 1 (.t 30)))
(.rd 18 (opO 32 (.load 1 false (.t 31)))
(.rd 19 (opO 33 (.minmax true (.t 24) [(.t 32)]))
(.wr 20 (mvO 5 23) [9, 0, 1, 2, 3, 4, 5, 6, 7, 8, 9]
(.wr 21 (mvO 6 33) [19, 20, 0, 1, 2, 3, 4, 5, 6, 7, 8, 9, 10, 11, 12, 13, 14, 15, 16, 17, 18, 19, 20]
.fin .no) .no))))))))))))))))))))) (some [0, 1, 5, 6, 7])))
(.ops [mvO 12 7,
opO 13 (.ibin .add .i64 (.t 12) (.c (.int .i64 1))),
mvO 7 13] (some [0, 1, 5, 6, 7])))))))
(.seq (.ops [mvO 34 5,
mvO 35 6,
opO 36 (.ibin .sub .i64 (.t 34) (.t 35)),
mvO 4 36] (some [4]))
.ret))))⟩
/-- guidevane/guidevanebase.Has -/
def ir344 : IFn := ⟨18, [.t 4],
(.seq (.ops [opO 4 (.mov (.c (.bool false)))] (some [0, 1]))
(.seq (.seq (.ops [opO 5 (.mov (.c (.int .i64 0)))] none)
(.block 0 (.loop (.seq (.seq (.ops [mvO 6 5,
mvO 7 0,
opO 8 (.lenV (.t 7)),
opO 9 (.ibin .lss .i64 (.t 6) (.t 8))] (some [0, 1, 5, 9]))
(.cond (.t 9)
.skip
(.exit 0)))
(.seq (.block 1 (.seq (.ops [mvO 12 0,
mvO 13 5,
opO 14 (.iaddr 1 (.t 12) (.t 13)),
opO 15 (.load 1 false (.t 14)),
mvO 16 1,
opO 17 (.ibin .eql .i64 (.t 15) (.t 16))] (some [0, 1, 5, 17]))
(.cond (.t 17)
(.seq (.ops [opO 4 (.mov (.c (.bool true)))] none)
.ret)
.skip)))
(.ops [mvO 10 5,
opO 11 (.ibin .add .i64 (.t 10) (.c (.int .i64 1))),
mvO 5 11] (some [0, 1, 5])))))))
(.seq (.ops [opO 4 (.mov (.c (.bool false)))] none)
.ret)))⟩
/-- (guidevane/dispatch.revisions).bound -/
def ir362 : IFn := ⟨33, [.t 4],
(.seq (.ops [opO 4 (.mov (.c (.int .i64 0)))] (some [0, 1]))
(.seq (.ops [opO 5 (.mov (.c (.int .i64 0))),
opO 6 (.mov (.c (.int .i64 0)))] none)
(.seq (.seq (.ops [mvO 9 1,
opO 10 (.lenV (.t 9)),
opO 11 (.mov (.c (.int .i64 0)))] (some [0, 5, 6, 9, 10, 11]))
(.block 0 (.loop (.seq (.ops [opO 12 (.ibin .lss .i64 (.t 11) (.t 10))] none)
(.seq (.cond (.t 12)
.skip
(.exit 0))
(.seq (.block 1 (.seq (.ops [opO 13 (.iaddr 1 (.t 9) (.t 11)),
opO 14 (.load 1 false (.t 13)),
mvO 8 14] (some [0, 5, 6, 8, 9, 10, 11]))
(.draw (.rd 0 (mvO 15 5)
(.rd 1 (mvO 16 0)
(.rd 2 (mvO 17 8)
(.rd 3 (opO 18 (.iaddr 3 (.t 16) (.t 17)))
(.rd 4 (opO 19 (.faddr 2 (.t 18)))
(.rd 5 (opO 20 (.load 1 false (.t 19)))
(.rd 6 (opO 21 (.ibin .add .i64 (.t 15) (.t 20)))
(.rd 7 (mvO 22 6)
(.rd 8 (mvO 23 0)
(.rd 9 (mvO 24 8)
(.rd 10 (opO 25 (.iaddr 3 (.t 23) (.t 24)))
(.rd 11 (opO 26 (.faddr 1 (.t 25)))
(.rd 12 (opO 27 (.load 1 false (.t 26)))
(.rd 13 (opO 28 (.minmax true (.t 22) [(.t 27)]))
(.wr 14 (mvO 5 21) [6, 0, 1, 2, 3, 4, 5, 6]
(.wr 15 (mvO 6 28) [13, 14, 0, 1, 2, 3, 4, 5, 6, 7, 8, 9, 10, 11, 12, 13, 14]
.fin .no) .no))))))))))))))) (some [0, 5, 6, 9, 10, 11]))))
(.ops [opO 29 (.ibin .add .i64 (.t 11) (.c (.int .i64 1))),
mvO 11 29] (some [0, 5, 6, 9, 10, 11]))))))))
(.seq (.ops [mvO 30 5,
mvO 31 6,
opO 32 (.ibin .sub .i64 (.t 30) (.t 31)),
mvO 4 32] (some [4]))
.ret))))⟩

end Go.Proofs.YtmbekcealcjabaaGreat.AM
