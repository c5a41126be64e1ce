/- The functions in the small language. Conditions: none. -/
import Derived.Test.YtolapannkcdeeaaGreatAmFn
namespace Go.Proofs.YtolapannkcdeeaaGreat.AM
set_option linter.unusedSimpArgs false
set_option linter.unusedVariables false
open Go Go.RowKit
abbrev mvO (d x : Nat) : IOpG := ⟨some d, none, .mov (.t x)⟩
abbrev opO (d : Nat) (x : IOp) : IOpG := ⟨some d, none, x⟩
abbrev ci (n : Int) : Opd := .c (.int .i64 n)
abbrev lO (d n x : Nat) : IOpG := opO d (.load n false (.t x))
abbrev lA (d n x : Nat) : IOpG := opO d (.load n true (.t x))
abbrev fO (d n x : Nat) : IOpG := opO d (.faddr n (.t x))
abbrev mO (d : Nat) (n : Int) : IOpG := opO d (.mov (ci n))
abbrev nO (d x : Nat) : IOpG := opO d (.lenV (.t x))
abbrev xO (d i x : Nat) : IOpG := opO d (.extract i (.t x))
abbrev iO (d z x i : Nat) : IOpG := opO d (.iaddr z (.t x) (.t i))
abbrev pO (d x : Nat) (n : Int) : IOpG := opO d (.ibin .add .i64 (.t x) (ci n))
abbrev sO (d x y : Nat) : IOpG := opO d (.ibin .lss .i64 (.t x) (.t y))
abbrev cO (d k x : Nat) : IOpG := opO d (.call k [.t x])
abbrev bO (d : Nat) (b : Bool) : IOpG := opO d (.mov (.c (.bool b)))
def ir15 : IFn := ⟨15, [.t 6],
(.seq (.ops [bO 6 false] (some [0, 1, 2]))
(.seq (.ops [mvO 7 1,
mvO 8 0,
opO 9 (.ibin .leq .i64 (.t 7) (.t 8)),
mvO 10 9,
⟨(some 11), (some (10, true)), .mov (.t 0)⟩,
⟨(some 12), (some (10, true)), .mov (.t 2)⟩,
⟨(some 13), (some (10, true)), .ibin .leq .i64 (.t 11) (.t 12)⟩,
opO 14 (.pick (.t 10) (.t 13) (.c (.bool false))),
mvO 6 14] (some [6]))
.ret))⟩
def ir26 : IFn := ⟨26, [.t 4],
(.seq (.ops [bO 4 false] (some [0, 1]))
(.seq (.seq (.ops [mvO 6 0,
nO 7 6,
mvO 8 1,
nO 9 8,
opO 10 (.ibin .neq .i64 (.t 7) (.t 9))] (some [0, 1, 10]))
(.cond (.t 10)
(.seq (.ops [bO 4 false] none)
.ret)
.skip))
(.seq (.seq (.ops [mO 5 0] none)
(.block 0 (.loop (.seq (.seq (.ops [mvO 11 5,
mvO 12 0,
nO 13 12,
sO 14 11 13] (some [0, 1, 5, 14]))
(.cond (.t 14)
.skip
(.exit 0)))
(.seq (.block 1 (.seq (.draw (.rd 0 (mvO 17 0)
(.rd 1 (mvO 18 5)
(.rd 2 (iO 19 1 17 18)
(.rd 3 (lO 20 1 19)
(.rd 4 (mvO 21 1)
(.rd 5 (mvO 22 5)
(.rd 6 (iO 23 1 21 22)
(.rd 7 (lO 24 1 23)
(.rd 8 (opO 25 (.ibin .neq .i64 (.t 20) (.t 24)))
.fin))))))))) (some [0, 1, 5, 25]))
(.cond (.t 25)
(.seq (.ops [bO 4 false] none)
.ret)
.skip)))
(.ops [mvO 15 5,
pO 16 15 1,
mvO 5 16] (some [0, 1, 5])))))))
(.seq (.ops [bO 4 true] none)
.ret))))⟩
def ir70 : IFn := ⟨19, [.t 4],
(.seq (.ops [mO 4 0] (some [0, 1]))
(.seq (.seq (.ops [mvO 6 0,
nO 7 6,
mO 8 0] (some [0, 1, 7, 8]))
(.block 0 (.loop (.seq (.ops [sO 9 8 7] none)
(.seq (.cond (.t 9)
.skip
(.exit 0))
(.seq (.block 1 (.seq (.ops [mvO 10 8,
mvO 5 10] (some [0, 1, 5, 7, 8]))
(.seq (.ops [mvO 11 1,
mvO 12 0,
mvO 13 5,
iO 14 1 12 13,
lO 15 1 14,
opO 16 (.callv (.t 11) [(.t 15)])] (some [0, 1, 5, 7, 8, 16]))
(.cond (.t 16)
(.seq (.ops [mvO 17 5,
mvO 4 17] (some [4]))
.ret)
.skip))))
(.ops [pO 18 8 1,
mvO 8 18] (some [0, 1, 7, 8]))))))))
(.seq (.ops [opO 4 (.mov (ci (-1)))] none)
.ret)))⟩
def ir73 : IFn := ⟨8, [.t 2],
(.seq (.ops [opO 2 (.mov (.c (.slice none 0 0)))] (some [0]))
(.seq (.seq (.ops [mvO 3 0,
opO 4 (.nileq .sl false (.t 3))] (some [0, 4]))
(.cond (.t 4)
(.seq (.ops [opO 2 (.mov (.c (.slice none 0 0)))] none)
.ret)
.skip))
(.seq (.ops [opO 5 (.bslice 0 1 [(.int .i64 0)] []),
mvO 6 0,
opO 7 (.append 1 8 (.t 5) (.t 6)),
mvO 2 7] (some [2]))
.ret)))⟩
def ir80 : IFn := ⟨9, [.t 4],
(.seq (.ops [bO 4 false] (some [0, 1]))
(.seq (.ops [mvO 5 0,
mvO 6 1,
opO 7 (.call 70 [(.t 5), (.t 6)]),
opO 8 (.ibin .geq .i64 (.t 7) (ci 0)),
mvO 4 8] (some [4]))
.ret))⟩
def ir91 : IFn := ⟨55, [.t 2],
(.seq (.ops [bO 2 false] (some [0]))
(.seq (.seq (.ops [mvO 6 0,
opO 7 (.lenS (.t 6)),
opO 8 (.ibin .lss .i64 (.t 7) (ci 1)),
mvO 9 8,
⟨(some 10), (some (9, false)), .mov (.t 0)⟩,
⟨(some 11), (some (9, false)), .lenS (.t 10)⟩,
⟨(some 12), (some (9, false)), .ibin .gtr .i64 (.t 11) (ci 12)⟩,
opO 13 (.pick (.t 9) (.c (.bool true)) (.t 12))] (some [0, 13]))
(.cond (.t 13)
(.seq (.ops [bO 2 false] none)
.ret)
.skip))
(.seq (.seq (.ops [mO 3 0] none)
(.block 0 (.loop (.seq (.seq (.ops [mvO 14 3,
mvO 15 0,
opO 16 (.lenS (.t 15)),
sO 17 14 16] (some [0, 3, 17]))
(.cond (.t 17)
.skip
(.exit 0)))
(.seq (.block 1 (.seq (.ops [mvO 20 0,
mvO 21 3,
opO 22 (.indexS (.t 20) (.t 21)),
mvO 4 22] (some [0, 3, 4]))
(.seq (.ops [mvO 23 4,
opO 24 (.ibin .geq .u8 (.t 23) (.c (.int .u8 97))),
mvO 25 24,
⟨(some 26), (some (25, true)), .mov (.t 4)⟩,
⟨(some 27), (some (25, true)), .ibin .leq .u8 (.t 26) (.c (.int .u8 122))⟩,
opO 28 (.pick (.t 25) (.t 27) (.c (.bool false))),
mvO 29 28,
⟨(some 30), (some (29, false)), .mov (.t 4)⟩,
⟨(some 31), (some (29, false)), .ibin .geq .u8 (.t 30) (.c (.int .u8 65))⟩,
⟨(some 32), (some (29, false)), .mov (.t 31)⟩,
⟨(some 33), (some (32, true)), .mov (.t 4)⟩,
⟨(some 34), (some (32, true)), .ibin .leq .u8 (.t 33) (.c (.int .u8 90))⟩,
⟨(some 35), (some (29, false)), .pick (.t 32) (.t 34) (.c (.bool false))⟩,
opO 36 (.pick (.t 29) (.c (.bool true)) (.t 35)),
mvO 5 36] (some [0, 3, 4, 5]))
(.seq (.ops [mvO 37 5,
opO 38 (.un .not (.t 37)),
mvO 39 38,
⟨(some 40), (some (39, true)), .mov (.t 3)⟩,
⟨(some 41), (some (39, true)), .ibin .eql .i64 (.t 40) (ci 0)⟩,
⟨(some 42), (some (39, true)), .mov (.t 41)⟩,
⟨(some 43), (some (42, false)), .mov (.t 4)⟩,
⟨(some 44), (some (42, false)), .ibin .neq .u8 (.t 43) (.c (.int .u8 45))⟩,
⟨(some 45), (some (42, false)), .mov (.t 44)⟩,
⟨(some 46), (some (45, true)), .mov (.t 4)⟩,
⟨(some 47), (some (45, true)), .ibin .lss .u8 (.t 46) (.c (.int .u8 48))⟩,
⟨(some 48), (some (45, true)), .mov (.t 47)⟩,
⟨(some 49), (some (48, false)), .mov (.t 4)⟩,
⟨(some 50), (some (48, false)), .ibin .gtr .u8 (.t 49) (.c (.int .u8 57))⟩,
⟨(some 51), (some (45, true)), .pick (.t 48) (.c (.bool true)) (.t 50)⟩,
⟨(some 52), (some (42, false)), .pick (.t 45) (.t 51) (.c (.bool false))⟩,
⟨(some 53), (some (39, true)), .pick (.t 42) (.c (.bool true)) (.t 52)⟩,
opO 54 (.pick (.t 39) (.t 53) (.c (.bool false)))] (some [0, 3, 54]))
(.cond (.t 54)
(.seq (.ops [bO 2 false] none)
.ret)
.skip)))))
(.ops [mvO 18 3,
pO 19 18 1,
mvO 3 19] (some [0, 3])))))))
(.seq (.ops [bO 2 true] none)
.ret))))⟩
def ir103 : IFn := ⟨11, [],
(.seq (.ops [mvO 3 0,
nO 4 3,
mvO 2 4] (some [0, 2]))
(.ops [mvO 5 0,
mvO 6 2,
mvO 7 2,
opO 8 (.conv .u64 (.t 7)),
cO 9 119 8,
opO 10 (.call 118 [(.t 5), (ci 0), (.t 6), (.t 9)])] (some [])))⟩
def ir106 : IFn := ⟨9, [],
(.ops [mvO 4 0,
mvO 5 0,
nO 6 5,
mvO 7 1,
opO 8 (.call 120 [(.t 4), (.t 6), (.t 7)])] (some []))⟩
def ir118 : IFn := ⟨134, [],
(.seq (.ops [bO 8 true] none)
(.seq (.ops [bO 9 true] none)
(.block 0 (.loop (.block 1 (.seq (.ops [mvO 19 2,
mvO 20 1,
opO 21 (.ibin .sub .i64 (.t 19) (.t 20)),
mvO 10 21] (some [0, 1, 2, 3, 8, 9, 10]))
(.seq (.seq (.ops [mvO 22 10,
opO 23 (.ibin .leq .i64 (.t 22) (ci 12))] (some [0, 1, 2, 3, 8, 9, 10, 23]))
(.cond (.t 23)
(.seq (.ops [mvO 24 0,
mvO 25 1,
mvO 26 2,
opO 27 (.call 126 [(.t 24), (.t 25), (.t 26)])] (some []))
.ret)
.skip))
(.seq (.seq (.ops [mvO 28 3,
opO 29 (.ibin .eql .i64 (.t 28) (ci 0))] (some [0, 1, 2, 3, 8, 9, 10, 29]))
(.cond (.t 29)
(.seq (.ops [mvO 30 0,
mvO 31 1,
mvO 32 2,
opO 33 (.call 127 [(.t 30), (.t 31), (.t 32)])] (some []))
.ret)
.skip))
(.seq (.seq (.ops [mvO 34 8,
opO 35 (.un .not (.t 34))] (some [0, 1, 2, 3, 8, 9, 10, 35]))
(.cond (.t 35)
(.seq (.ops [mvO 36 0,
mvO 37 1,
mvO 38 2,
opO 39 (.call 128 [(.t 36), (.t 37), (.t 38)])] (some [0, 1, 2, 3, 8, 9, 10]))
(.ops [mvO 40 3,
opO 41 (.ibin .sub .i64 (.t 40) (ci 1)),
mvO 3 41] (some [0, 1, 2, 3, 8, 9, 10])))
.skip))
(.seq (.ops [mvO 43 0,
mvO 44 1,
mvO 45 2,
opO 46 (.call 129 [(.t 43), (.t 44), (.t 45)]),
mvO 42 46,
xO 47 0 42,
xO 48 1 42,
mvO 11 47,
mvO 12 48] (some [0, 1, 2, 3, 8, 9, 10, 11, 12]))
(.seq (.seq (.ops [mvO 49 12,
opO 50 (.ibin .eql .i64 (.t 49) (ci 2))] (some [0, 1, 2, 3, 8, 9, 10, 11, 12, 50]))
(.cond (.t 50)
(.seq (.ops [mvO 51 0,
mvO 52 1,
mvO 53 2,
opO 54 (.call 130 [(.t 51), (.t 52), (.t 53)])] (some [0, 1, 2, 3, 8, 9, 10, 11]))
(.seq (.ops [mvO 55 2,
opO 56 (.ibin .sub .i64 (.t 55) (ci 1)),
mvO 57 11,
mvO 58 1,
opO 59 (.ibin .sub .i64 (.t 57) (.t 58)),
opO 60 (.ibin .sub .i64 (.t 56) (.t 59)),
mvO 11 60] (some [0, 1, 2, 3, 8, 9, 10, 11]))
(.ops [mO 12 1] none)))
.skip))
(.seq (.seq (.ops [mvO 61 8,
mvO 62 61,
⟨(some 63), (some (62, true)), .mov (.t 9)⟩,
opO 64 (.pick (.t 62) (.t 63) (.c (.bool false))),
mvO 65 64,
⟨(some 66), (some (65, true)), .mov (.t 12)⟩,
⟨(some 67), (some (65, true)), .ibin .eql .i64 (.t 66) (ci 1)⟩,
opO 68 (.pick (.t 65) (.t 67) (.c (.bool false)))] (some [0, 1, 2, 3, 8, 9, 10, 11, 68]))
(.cond (.t 68)
(.seq (.ops [mvO 69 0,
mvO 70 1,
mvO 71 2,
opO 72 (.call 131 [(.t 69), (.t 70), (.t 71)])] (some [0, 1, 2, 3, 8, 9, 10, 11, 72]))
(.cond (.t 72)
.ret
.skip))
.skip))
(.seq (.seq (.draw (.rd 0 (mvO 73 1)
(.rd 1 (opO 74 (.ibin .gtr .i64 (.t 73) (ci 0)))
(.rd 2 (mvO 75 74)
(.rd 3 ⟨(some 76), (some (75, true)), .mov (.t 0)⟩
(.rd 4 ⟨(some 77), (some (75, true)), .mov (.t 1)⟩
(.rd 5 ⟨(some 78), (some (75, true)), .ibin .sub .i64 (.t 77) (ci 1)⟩
(.rd 6 ⟨(some 79), (some (75, true)), .iaddr 1 (.t 76) (.t 78)⟩
(.rd 7 ⟨(some 80), (some (75, true)), .load 1 false (.t 79)⟩
(.rd 8 ⟨(some 81), (some (75, true)), .mov (.t 0)⟩
(.rd 9 ⟨(some 82), (some (75, true)), .mov (.t 11)⟩
(.rd 10 ⟨(some 83), (some (75, true)), .iaddr 1 (.t 81) (.t 82)⟩
(.rd 11 ⟨(some 84), (some (75, true)), .load 1 false (.t 83)⟩
(.wr 12 ⟨(some 85), (some (75, true)), .call 122 [(.t 80), (.t 84)]⟩ [7, 11, 2, 2]
(.rd 13 ⟨(some 86), (some (75, true)), .un .not (.t 85)⟩
(.rd 14 (opO 87 (.pick (.t 75) (.t 86) (.c (.bool false))))
.fin)) .no))))))))))))) (some [0, 1, 2, 3, 8, 9, 10, 11, 87]))
(.cond (.t 87)
(.seq (.ops [mvO 88 0,
mvO 89 1,
mvO 90 2,
mvO 91 11,
opO 92 (.call 132 [(.t 88), (.t 89), (.t 90), (.t 91)]),
mvO 13 92] (some [0, 2, 3, 8, 9, 13]))
(.seq (.ops [mvO 93 13,
mvO 1 93] (some [0, 1, 2, 3, 8, 9]))
(.exit 1)))
.skip))
(.seq (.ops [mvO 95 0,
mvO 96 1,
mvO 97 2,
mvO 98 11,
opO 99 (.call 133 [(.t 95), (.t 96), (.t 97), (.t 98)]),
mvO 94 99,
xO 100 0 94,
xO 101 1 94,
mvO 14 100,
mvO 15 101] (some [0, 1, 2, 3, 10, 14, 15]))
(.seq (.ops [mvO 102 15,
mvO 9 102] (some [0, 1, 2, 3, 9, 10, 14]))
(.seq (.ops [mvO 103 14,
mvO 104 1,
opO 105 (.ibin .sub .i64 (.t 103) (.t 104)),
mvO 106 2,
mvO 107 14,
opO 108 (.ibin .sub .i64 (.t 106) (.t 107)),
mvO 16 105,
mvO 17 108] (some [0, 1, 2, 3, 9, 10, 14, 16, 17]))
(.seq (.ops [mvO 109 10,
opO 110 (.ibin .quo .i64 (.t 109) (ci 8)),
mvO 18 110] (some [0, 1, 2, 3, 9, 14, 16, 17, 18]))
(.seq (.ops [mvO 111 16,
mvO 112 17,
sO 113 111 112] (some [0, 1, 2, 3, 9, 14, 16, 17, 18, 113]))
(.cond (.t 113)
(.seq (.ops [mvO 114 16,
mvO 115 18,
opO 116 (.ibin .geq .i64 (.t 114) (.t 115)),
mvO 8 116] (some [0, 1, 2, 3, 8, 9, 14]))
(.seq (.ops [mvO 117 0,
mvO 118 1,
mvO 119 14,
mvO 120 3,
opO 121 (.call 118 [(.t 117), (.t 118), (.t 119), (.t 120)])] (some [0, 2, 3, 8, 9, 14]))
(.ops [mvO 122 14,
pO 123 122 1,
mvO 1 123] (some [0, 1, 2, 3, 8, 9]))))
(.seq (.ops [mvO 124 17,
mvO 125 18,
opO 126 (.ibin .geq .i64 (.t 124) (.t 125)),
mvO 8 126] (some [0, 1, 2, 3, 8, 9, 14]))
(.seq (.ops [mvO 127 0,
mvO 128 14,
pO 129 128 1,
mvO 130 2,
mvO 131 3,
opO 132 (.call 118 [(.t 127), (.t 129), (.t 130), (.t 131)])] (some [0, 1, 3, 8, 9, 14]))
(.ops [mvO 133 14,
mvO 2 133] (some [0, 1, 2, 3, 8, 9])))))))))))))))))))))))⟩
def ir119 : IFn := ⟨8, [.t 2],
(.seq (.ops [mO 2 0] (some [0]))
(.seq (.cond (.c (.bool false))
(.seq (.ops [mvO 3 0,
opO 4 (.conv .u32 (.t 3)),
cO 5 134 4,
mvO 2 5] (some [2]))
.ret)
.skip)
(.seq (.ops [mvO 6 0,
cO 7 135 6,
mvO 2 7] (some [2]))
.ret)))⟩
def ir120 : IFn := ⟨63, [],
(.seq (.ops [mO 6 20] none)
(.seq (.ops [mvO 10 6,
mO 7 0,
mvO 8 10] (some [0, 1, 2, 6, 7, 8]))
(.seq (.block 0 (.loop (.seq (.seq (.ops [mvO 11 8,
mvO 12 1,
opO 13 (.ibin .leq .i64 (.t 11) (.t 12))] (some [0, 1, 2, 6, 7, 8, 13]))
(.cond (.t 13)
.skip
(.exit 0)))
(.block 1 (.seq (.ops [mvO 14 0,
mvO 15 7,
mvO 16 8,
mvO 17 2,
opO 18 (.call 136 [(.t 14), (.t 15), (.t 16), (.t 17)])] (some [0, 1, 2, 6, 8]))
(.seq (.ops [mvO 19 8,
mvO 7 19] (some [0, 1, 2, 6, 7, 8]))
(.ops [mvO 20 8,
mvO 21 6,
opO 22 (.ibin .add .i64 (.t 20) (.t 21)),
mvO 8 22] (some [0, 1, 2, 6, 7, 8]))))))))
(.seq (.ops [mvO 23 0,
mvO 24 7,
mvO 25 1,
mvO 26 2,
opO 27 (.call 136 [(.t 23), (.t 24), (.t 25), (.t 26)])] (some [0, 1, 2, 6]))
(.block 2 (.loop (.seq (.seq (.ops [mvO 28 6,
mvO 29 1,
sO 30 28 29] (some [0, 1, 2, 6, 30]))
(.cond (.t 30)
.skip
(.exit 2)))
(.block 3 (.seq (.ops [mvO 31 6,
opO 32 (.ibin .mul .i64 (ci 2) (.t 31)),
mO 7 0,
mvO 8 32] (some [0, 1, 2, 6, 7, 8]))
(.seq (.block 4 (.loop (.seq (.seq (.ops [mvO 33 8,
mvO 34 1,
opO 35 (.ibin .leq .i64 (.t 33) (.t 34))] (some [0, 1, 2, 6, 7, 8, 35]))
(.cond (.t 35)
.skip
(.exit 4)))
(.block 5 (.seq (.ops [mvO 36 0,
mvO 37 7,
mvO 38 7,
mvO 39 6,
opO 40 (.ibin .add .i64 (.t 38) (.t 39)),
mvO 41 8,
mvO 42 2,
opO 43 (.call 137 [(.t 36), (.t 37), (.t 40), (.t 41), (.t 42)])] (some [0, 1, 2, 6, 8]))
(.seq (.ops [mvO 44 8,
mvO 7 44] (some [0, 1, 2, 6, 7, 8]))
(.ops [mvO 45 8,
mvO 46 6,
opO 47 (.ibin .mul .i64 (ci 2) (.t 46)),
opO 48 (.ibin .add .i64 (.t 45) (.t 47)),
mvO 8 48] (some [0, 1, 2, 6, 7, 8]))))))))
(.seq (.seq (.ops [mvO 49 7,
mvO 50 6,
opO 51 (.ibin .add .i64 (.t 49) (.t 50)),
mvO 9 51] (some [0, 1, 2, 6, 7, 9]))
(.seq (.ops [mvO 52 9,
mvO 53 1,
sO 54 52 53] (some [0, 1, 2, 6, 7, 9, 54]))
(.cond (.t 54)
(.ops [mvO 55 0,
mvO 56 7,
mvO 57 9,
mvO 58 1,
mvO 59 2,
opO 60 (.call 137 [(.t 55), (.t 56), (.t 57), (.t 58), (.t 59)])] (some [0, 1, 2, 6]))
.skip)))
(.ops [mvO 61 6,
opO 62 (.ibin .mul .i64 (.t 61) (ci 2)),
mvO 6 62] (some [0, 1, 2, 6])))))))))))))⟩
def ir121 : IFn := ⟨6, [.t 2],
(.seq (.ops [bO 2 false] (some [0]))
(.seq (.ops [mvO 3 0,
mvO 4 0,
opO 5 (.ibin .neq .i64 (.t 3) (.t 4)),
mvO 2 5] (some [2]))
.ret))⟩
def ir122 : IFn := ⟨17, [.t 4],
(.seq (.ops [bO 4 false] (some [0, 1]))
(.seq (.ops [mvO 5 0,
cO 6 121 5,
mvO 7 6,
⟨(some 8), (some (7, true)), .mov (.t 1)⟩,
⟨(some 9), (some (7, true)), .call 121 [(.t 8)]⟩,
⟨(some 10), (some (7, true)), .un .not (.t 9)⟩,
opO 11 (.pick (.t 7) (.t 10) (.c (.bool false))),
mvO 12 11,
⟨(some 13), (some (12, false)), .mov (.t 0)⟩,
⟨(some 14), (some (12, false)), .mov (.t 1)⟩,
⟨(some 15), (some (12, false)), .ibin .lss .i64 (.t 13) (.t 14)⟩,
opO 16 (.pick (.t 12) (.c (.bool true)) (.t 15)),
mvO 4 16] (some [4]))
.ret))⟩
def ir126 : IFn := ⟨49, [],
(.seq (.ops [mvO 8 1,
pO 9 8 1,
mvO 6 9] (some [0, 1, 2, 6]))
(.block 0 (.loop (.seq (.seq (.ops [mvO 10 6,
mvO 11 2,
sO 12 10 11] (some [0, 1, 2, 6, 12]))
(.cond (.t 12)
.skip
(.exit 0)))
(.seq (.block 1 (.seq (.ops [mvO 15 6,
mvO 7 15] (some [0, 1, 2, 6, 7]))
(.block 2 (.loop (.seq (.seq (.draw (.rd 0 (mvO 16 7)
(.rd 1 (mvO 17 1)
(.rd 2 (opO 18 (.ibin .gtr .i64 (.t 16) (.t 17)))
(.rd 3 (mvO 19 18)
(.rd 4 ⟨(some 20), (some (19, true)), .mov (.t 0)⟩
(.rd 5 ⟨(some 21), (some (19, true)), .mov (.t 7)⟩
(.rd 6 ⟨(some 22), (some (19, true)), .iaddr 1 (.t 20) (.t 21)⟩
(.rd 7 ⟨(some 23), (some (19, true)), .load 1 false (.t 22)⟩
(.rd 8 ⟨(some 24), (some (19, true)), .mov (.t 0)⟩
(.rd 9 ⟨(some 25), (some (19, true)), .mov (.t 7)⟩
(.rd 10 ⟨(some 26), (some (19, true)), .ibin .sub .i64 (.t 25) (ci 1)⟩
(.rd 11 ⟨(some 27), (some (19, true)), .iaddr 1 (.t 24) (.t 26)⟩
(.rd 12 ⟨(some 28), (some (19, true)), .load 1 false (.t 27)⟩
(.wr 13 ⟨(some 29), (some (19, true)), .call 122 [(.t 23), (.t 28)]⟩ [7, 12, 3, 3]
(.rd 14 (opO 30 (.pick (.t 19) (.t 29) (.c (.bool false))))
.fin) .no)))))))))))))) (some [0, 1, 2, 6, 7, 30]))
(.cond (.t 30)
.skip
(.exit 2)))
(.seq (.block 3 (.draw (.rd 0 (mvO 33 0)
(.rd 1 (mvO 34 7)
(.rd 2 (mvO 35 0)
(.rd 3 (mvO 36 7)
(.rd 4 (opO 37 (.ibin .sub .i64 (.t 36) (ci 1)))
(.rd 5 (mvO 38 0)
(.rd 6 (mvO 39 7)
(.rd 7 (opO 40 (.ibin .sub .i64 (.t 39) (ci 1)))
(.rd 8 (iO 41 1 38 40)
(.rd 9 (lO 42 1 41)
(.rd 10 (mvO 43 0)
(.rd 11 (mvO 44 7)
(.rd 12 (iO 45 1 43 44)
(.rd 13 (lO 46 1 45)
(.rd 14 (iO 47 1 33 34)
(.wr 15 ⟨none, none, .store 1 (.t 47) (.t 42)⟩ [14, 9, 0, 1, 5, 6, 7, 8, 9, 13]
(.rd 16 (iO 48 1 35 37)
(.wr 17 ⟨none, none, .store 1 (.t 48) (.t 46)⟩ [16, 13, 15, 0, 1, 2, 3, 4, 5, 6, 7, 8, 9, 10, 11, 12, 13, 14, 15]
.fin .no)) .no)))))))))))))))) (some [0, 1, 2, 6, 7])))
(.ops [mvO 31 7,
opO 32 (.ibin .sub .i64 (.t 31) (ci 1)),
mvO 7 32] (some [0, 1, 2, 6, 7]))))))))
(.ops [mvO 13 6,
pO 14 13 1,
mvO 6 14] (some [0, 1, 2, 6])))))))⟩
def ir134 : IFn := ⟨19, [.t 2],
(.seq (.ops [mO 2 0] none)
(.seq (.seq (.ops [mvO 3 0,
opO 4 (.ibin .geq .u32 (.t 3) (.c (.int .u32 65536)))] (some [0, 2, 4]))
(.cond (.t 4)
(.seq (.ops [mvO 5 0,
opO 6 (.shift .shr .u32 (.t 5) (.c (.int .u64 16))),
mvO 0 6] (some [0]))
(.ops [mO 2 16] none))
.skip))
(.seq (.seq (.ops [mvO 7 0,
opO 8 (.ibin .geq .u32 (.t 7) (.c (.int .u32 256)))] (some [0, 2, 8]))
(.cond (.t 8)
(.seq (.ops [mvO 9 0,
opO 10 (.shift .shr .u32 (.t 9) (.c (.int .u64 8))),
mvO 0 10] (some [0, 2]))
(.ops [mvO 11 2,
pO 12 11 8,
mvO 2 12] (some [0, 2])))
.skip))
(.seq (.ops [mvO 13 2,
mvO 14 0,
opO 15 (.conv .u8 (.t 14)),
opO 16 (.indexS (.c (.string ⟨#[0, 1, 2, 2, 3, 3, 3, 3, 4, 4, 4, 4, 4, 4, 4, 4, 5, 5, 5, 5, 5, 5, 5, 5, 5, 5, 5, 5, 5, 5, 5, 5, 6, 6, 6, 6, 6, 6, 6, 6, 6, 6, 6, 6, 6, 6, 6, 6, 6, 6, 6, 6, 6, 6, 6, 6, 6, 6, 6, 6, 6, 6, 6, 6, 7, 7, 7, 7, 7, 7, 7, 7, 7, 7, 7, 7, 7, 7, 7, 7, 7, 7, 7, 7, 7, 7, 7, 7, 7, 7, 7, 7, 7, 7, 7, 7, 7, 7, 7, 7, 7, 7, 7, 7, 7, 7, 7, 7, 7, 7, 7, 7, 7, 7, 7, 7, 7, 7, 7, 7, 7, 7, 7, 7, 7, 7, 7, 7, 8, 8, 8, 8, 8, 8, 8, 8, 8, 8, 8, 8, 8, 8, 8, 8, 8, 8, 8, 8, 8, 8, 8, 8, 8, 8, 8, 8, 8, 8, 8, 8, 8, 8, 8, 8, 8, 8, 8, 8, 8, 8, 8, 8, 8, 8, 8, 8, 8, 8, 8, 8, 8, 8, 8, 8, 8, 8, 8, 8, 8, 8, 8, 8, 8, 8, 8, 8, 8, 8, 8, 8, 8, 8, 8, 8, 8, 8, 8, 8, 8, 8, 8, 8, 8, 8, 8, 8, 8, 8, 8, 8, 8, 8, 8, 8, 8, 8, 8, 8, 8, 8, 8, 8, 8, 8, 8, 8, 8, 8, 8, 8, 8, 8, 8, 8, 8, 8, 8, 8, 8, 8, 8, 8, 8, 8, 8, 8]⟩)) (.t 15)),
opO 17 (.conv .i64 (.t 16)),
opO 18 (.ibin .add .i64 (.t 13) (.t 17)),
mvO 2 18] (some [2]))
.ret))))⟩
def ir135 : IFn := ⟨25, [.t 2],
(.seq (.ops [mO 2 0] none)
(.seq (.seq (.ops [mvO 3 0,
opO 4 (.ibin .geq .u64 (.t 3) (.c (.int .u64 4294967296)))] (some [0, 2, 4]))
(.cond (.t 4)
(.seq (.ops [mvO 5 0,
opO 6 (.shift .shr .u64 (.t 5) (.c (.int .u64 32))),
mvO 0 6] (some [0]))
(.ops [mO 2 32] none))
.skip))
(.seq (.seq (.ops [mvO 7 0,
opO 8 (.ibin .geq .u64 (.t 7) (.c (.int .u64 65536)))] (some [0, 2, 8]))
(.cond (.t 8)
(.seq (.ops [mvO 9 0,
opO 10 (.shift .shr .u64 (.t 9) (.c (.int .u64 16))),
mvO 0 10] (some [0, 2]))
(.ops [mvO 11 2,
pO 12 11 16,
mvO 2 12] (some [0, 2])))
.skip))
(.seq (.seq (.ops [mvO 13 0,
opO 14 (.ibin .geq .u64 (.t 13) (.c (.int .u64 256)))] (some [0, 2, 14]))
(.cond (.t 14)
(.seq (.ops [mvO 15 0,
opO 16 (.shift .shr .u64 (.t 15) (.c (.int .u64 8))),
mvO 0 16] (some [0, 2]))
(.ops [mvO 17 2,
pO 18 17 8,
mvO 2 18] (some [0, 2])))
.skip))
(.seq (.ops [mvO 19 2,
mvO 20 0,
opO 21 (.conv .u8 (.t 20)),
opO 22 (.indexS (.c (.string ⟨#[0, 1, 2, 2, 3, 3, 3, 3, 4, 4, 4, 4, 4, 4, 4, 4, 5, 5, 5, 5, 5, 5, 5, 5, 5, 5, 5, 5, 5, 5, 5, 5, 6, 6, 6, 6, 6, 6, 6, 6, 6, 6, 6, 6, 6, 6, 6, 6, 6, 6, 6, 6, 6, 6, 6, 6, 6, 6, 6, 6, 6, 6, 6, 6, 7, 7, 7, 7, 7, 7, 7, 7, 7, 7, 7, 7, 7, 7, 7, 7, 7, 7, 7, 7, 7, 7, 7, 7, 7, 7, 7, 7, 7, 7, 7, 7, 7, 7, 7, 7, 7, 7, 7, 7, 7, 7, 7, 7, 7, 7, 7, 7, 7, 7, 7, 7, 7, 7, 7, 7, 7, 7, 7, 7, 7, 7, 7, 7, 8, 8, 8, 8, 8, 8, 8, 8, 8, 8, 8, 8, 8, 8, 8, 8, 8, 8, 8, 8, 8, 8, 8, 8, 8, 8, 8, 8, 8, 8, 8, 8, 8, 8, 8, 8, 8, 8, 8, 8, 8, 8, 8, 8, 8, 8, 8, 8, 8, 8, 8, 8, 8, 8, 8, 8, 8, 8, 8, 8, 8, 8, 8, 8, 8, 8, 8, 8, 8, 8, 8, 8, 8, 8, 8, 8, 8, 8, 8, 8, 8, 8, 8, 8, 8, 8, 8, 8, 8, 8, 8, 8, 8, 8, 8, 8, 8, 8, 8, 8, 8, 8, 8, 8, 8, 8, 8, 8, 8, 8, 8, 8, 8, 8, 8, 8, 8, 8, 8, 8, 8, 8, 8, 8, 8, 8, 8, 8]⟩)) (.t 21)),
opO 23 (.conv .i64 (.t 22)),
opO 24 (.ibin .add .i64 (.t 19) (.t 23)),
mvO 2 24] (some [2]))
.ret)))))⟩
def ir136 : IFn := ⟨53, [],
(.seq (.ops [mvO 10 1,
pO 11 10 1,
mvO 8 11] (some [0, 1, 2, 3, 8]))
(.block 0 (.loop (.seq (.seq (.ops [mvO 12 8,
mvO 13 2,
sO 14 12 13] (some [0, 1, 2, 3, 8, 14]))
(.cond (.t 14)
.skip
(.exit 0)))
(.seq (.block 1 (.seq (.ops [mvO 17 8,
mvO 9 17] (some [0, 1, 2, 3, 8, 9]))
(.block 2 (.loop (.seq (.seq (.draw (.rd 0 (mvO 18 9)
(.rd 1 (mvO 19 1)
(.rd 2 (opO 20 (.ibin .gtr .i64 (.t 18) (.t 19)))
(.rd 3 (mvO 21 20)
(.rd 4 ⟨(some 22), (some (21, true)), .mov (.t 3)⟩
(.rd 5 ⟨(some 23), (some (21, true)), .mov (.t 0)⟩
(.rd 6 ⟨(some 24), (some (21, true)), .mov (.t 9)⟩
(.rd 7 ⟨(some 25), (some (21, true)), .iaddr 1 (.t 23) (.t 24)⟩
(.rd 8 ⟨(some 26), (some (21, true)), .load 1 false (.t 25)⟩
(.rd 9 ⟨(some 27), (some (21, true)), .mov (.t 0)⟩
(.rd 10 ⟨(some 28), (some (21, true)), .mov (.t 9)⟩
(.rd 11 ⟨(some 29), (some (21, true)), .ibin .sub .i64 (.t 28) (ci 1)⟩
(.rd 12 ⟨(some 30), (some (21, true)), .iaddr 1 (.t 27) (.t 29)⟩
(.rd 13 ⟨(some 31), (some (21, true)), .load 1 false (.t 30)⟩
(.wr 14 ⟨(some 32), (some (21, true)), .callv (.t 22) [(.t 26), (.t 31)]⟩ [4, 8, 13, 3, 3]
(.rd 15 ⟨(some 33), (some (21, true)), .ibin .lss .i64 (.t 32) (ci 0)⟩
(.rd 16 (opO 34 (.pick (.t 21) (.t 33) (.c (.bool false))))
.fin)) .no))))))))))))))) (some [0, 1, 2, 3, 8, 9, 34]))
(.cond (.t 34)
.skip
(.exit 2)))
(.seq (.block 3 (.draw (.rd 0 (mvO 37 0)
(.rd 1 (mvO 38 9)
(.rd 2 (mvO 39 0)
(.rd 3 (mvO 40 9)
(.rd 4 (opO 41 (.ibin .sub .i64 (.t 40) (ci 1)))
(.rd 5 (mvO 42 0)
(.rd 6 (mvO 43 9)
(.rd 7 (opO 44 (.ibin .sub .i64 (.t 43) (ci 1)))
(.rd 8 (iO 45 1 42 44)
(.rd 9 (lO 46 1 45)
(.rd 10 (mvO 47 0)
(.rd 11 (mvO 48 9)
(.rd 12 (iO 49 1 47 48)
(.rd 13 (lO 50 1 49)
(.rd 14 (iO 51 1 37 38)
(.wr 15 ⟨none, none, .store 1 (.t 51) (.t 46)⟩ [14, 9, 0, 1, 5, 6, 7, 8, 9, 13]
(.rd 16 (iO 52 1 39 41)
(.wr 17 ⟨none, none, .store 1 (.t 52) (.t 50)⟩ [16, 13, 15, 0, 1, 2, 3, 4, 5, 6, 7, 8, 9, 10, 11, 12, 13, 14, 15]
.fin .no)) .no)))))))))))))))) (some [0, 1, 2, 3, 8, 9])))
(.ops [mvO 35 9,
opO 36 (.ibin .sub .i64 (.t 35) (ci 1)),
mvO 9 36] (some [0, 1, 2, 3, 8, 9]))))))))
(.ops [mvO 15 8,
pO 16 15 1,
mvO 8 16] (some [0, 1, 2, 3, 8])))))))⟩
def ir198 : IFn := ⟨97, [.t 0],
(.seq (.ops [bO 0 false] (some []))
(.seq (.ops [opO 14 (.call 207 []),
opO 15 (.call 208 []),
opO 16 (.call 206 [(.t 14), (.t 15)]),
mvO 13 16,
xO 17 0 13,
xO 18 1 13,
xO 19 2 13,
mvO 1 17,
mvO 2 18,
mvO 3 19] (some [1, 2, 3]))
(.seq (.ops [opO 21 (.call 207 []),
opO 22 (.call 208 []),
opO 23 (.bslice 2 1 [(.int .i64 0)] [(0, 1, (ci 0)), (1, 1, (ci 2))]),
opO 24 (.build [(.slice none 0 0), (.int .i64 0)] [(0, 1, (.t 23)), (1, 1, (ci 2))]),
opO 25 (.call 209 [(.t 21), (.t 22), (.t 24)]),
mvO 20 25,
xO 26 0 20,
xO 27 1 20,
mvO 4 26,
mvO 5 27] (some [1, 2, 3, 4, 5]))
(.seq (.ops [opO 29 (.bslice 3 1 [(.int .i64 0)] [(0, 1, (ci 12)), (1, 1, (ci 12)), (2, 1, (ci 3))]),
opO 30 (.bslice 3 1 [(.int .i64 0)] [(0, 1, (ci 5)), (1, 1, (ci 10)), (2, 1, (ci 5))]),
opO 31 (.call 201 [(.t 29), (.t 30)]),
mvO 28 31,
xO 32 0 28,
xO 33 1 28,
opO 6 (.alloc [(.int .i64 0), (.int .i64 0), (.int .i64 0)]),
⟨none, none, .store 3 (.t 6) (.t 32)⟩,
mvO 7 33] (some [1, 2, 3, 4, 5, 6, 7]))
(.seq (.ops [opO 35 (.call 211 []),
cO 36 210 35,
mvO 34 36,
xO 37 0 34,
xO 38 1 34,
xO 39 2 34,
mvO 8 37,
mvO 9 38,
mvO 10 39] (some [1, 2, 3, 4, 5, 6, 7, 8, 9, 10]))
(.seq (.ops [opO 41 (.call 207 []),
opO 42 (.call 208 []),
opO 43 (.call 212 [(.t 41), (.t 42), (ci 2)]),
mvO 40 43,
xO 44 0 40,
xO 45 1 40,
mvO 11 44,
mvO 12 45] (some [1, 2, 3, 4, 5, 6, 7, 8, 9, 10, 11, 12]))
(.seq (.ops [mvO 46 3,
opO 47 (.ibin .eql .i64 (.t 46) (ci 0)),
mvO 48 47,
⟨(some 49), (some (48, true)), .mov (.t 1)⟩,
⟨(some 50), (some (48, true)), .bslice 2 1 [(.int .i64 0)] [(0, 1, (ci 0)), (1, 1, (ci 2))]⟩,
⟨(some 51), (some (48, true)), .call 26 [(.t 49), (.t 50)]⟩,
opO 52 (.pick (.t 48) (.t 51) (.c (.bool false))),
mvO 53 52,
⟨(some 54), (some (53, true)), .mov (.t 2)⟩,
⟨(some 55), (some (53, true)), .ibin .eql .i64 (.t 54) (ci 30)⟩,
opO 56 (.pick (.t 53) (.t 55) (.c (.bool false))),
mvO 57 56,
⟨(some 58), (some (57, true)), .mov (.t 5)⟩,
⟨(some 59), (some (57, true)), .ibin .eql .i64 (.t 58) (ci 0)⟩,
opO 60 (.pick (.t 57) (.t 59) (.c (.bool false))),
mvO 61 60,
⟨(some 62), (some (61, true)), .mov (.t 4)⟩,
⟨(some 63), (some (61, true)), .bslice 2 1 [(.int .i64 0)] [(0, 1, (ci 1)), (1, 1, (ci 1))]⟩,
⟨(some 64), (some (61, true)), .call 26 [(.t 62), (.t 63)]⟩,
opO 65 (.pick (.t 61) (.t 64) (.c (.bool false))),
mvO 66 65,
⟨(some 67), (some (66, true)), .mov (.t 7)⟩,
⟨(some 68), (some (66, true)), .ibin .eql .i64 (.t 67) (ci 0)⟩,
opO 69 (.pick (.t 66) (.t 68) (.c (.bool false))),
mvO 70 69,
⟨(some 71), (some (70, true)), .load 3 true (.t 6)⟩,
⟨(some 72), (some (70, true)), .build [(.int .i64 0), (.int .i64 0), (.int .i64 0)] [(0, 1, (ci 18)), (1, 1, (ci 9)), (2, 1, (ci 2))]⟩,
⟨(some 73), (some (70, true)), .eqv (.fld 0 1 (.int .i64) (.fld 1 1 (.int .i64) (.fld 2 1 (.int .i64) .nil))) false (.t 71) (.t 72)⟩,
opO 74 (.pick (.t 70) (.t 73) (.c (.bool false))),
mvO 75 74,
⟨(some 76), (some (75, true)), .mov (.t 10)⟩,
⟨(some 77), (some (75, true)), .ibin .eql .i64 (.t 76) (ci 0)⟩,
opO 78 (.pick (.t 75) (.t 77) (.c (.bool false))),
mvO 79 78,
⟨(some 80), (some (79, true)), .mov (.t 8)⟩,
⟨(some 81), (some (79, true)), .bslice 3 1 [(.int .i64 0)] [(0, 1, (ci 0)), (1, 1, (ci 1)), (2, 1, (ci 2))]⟩,
⟨(some 82), (some (79, true)), .call 26 [(.t 80), (.t 81)]⟩,
opO 83 (.pick (.t 79) (.t 82) (.c (.bool false))),
mvO 84 83,
⟨(some 85), (some (84, true)), .mov (.t 9)⟩,
⟨(some 86), (some (84, true)), .ibin .eql .i64 (.t 85) (ci 1)⟩,
opO 87 (.pick (.t 84) (.t 86) (.c (.bool false))),
mvO 88 87,
⟨(some 89), (some (88, true)), .mov (.t 12)⟩,
⟨(some 90), (some (88, true)), .ibin .eql .i64 (.t 89) (ci 0)⟩,
opO 91 (.pick (.t 88) (.t 90) (.c (.bool false))),
mvO 92 91,
⟨(some 93), (some (92, true)), .mov (.t 11)⟩,
⟨(some 94), (some (92, true)), .bslice 3 1 [(.int .i64 0)] [(0, 1, (ci 2)), (1, 1, (ci 5)), (2, 1, (ci 8))]⟩,
⟨(some 95), (some (92, true)), .call 26 [(.t 93), (.t 94)]⟩,
opO 96 (.pick (.t 92) (.t 95) (.c (.bool false))),
mvO 0 96] (some [0]))
.ret)))))))⟩
def ir201 : IFn := ⟨81, [.cell 4 3 true, .t 5],
(.seq (.ops [opO 4 (.alloc [(.int .i64 0), (.int .i64 0), (.int .i64 0)]),
mO 5 0] (some [0, 1, 4]))
(.seq (.seq (.ops [mvO 12 0,
cO 13 217 12,
mvO 14 1,
cO 15 217 14,
mvO 16 0,
nO 17 16,
mvO 18 1,
nO 19 18,
opO 20 (.ibin .eql .i64 (.t 17) (.t 19)),
opO 21 (.call 214 [(.t 20), (ci 10)]),
opO 22 (.bslice 3 1 [(.int .i64 0)] [(0, 1, (.t 13)), (1, 1, (.t 15)), (2, 1, (.t 21))]),
cO 23 213 22,
mvO 6 23] (some [0, 1, 4, 6]))
(.seq (.ops [mvO 24 6,
opO 25 (.ibin .neq .i64 (.t 24) (ci 0))] (some [0, 1, 4, 6, 25]))
(.cond (.t 25)
(.seq (.ops [opO 26 (.build [(.int .i64 0), (.int .i64 0), (.int .i64 0)] []),
mvO 27 6,
⟨none, none, .store 3 (.t 4) (.t 26)⟩,
mvO 5 27] (some [4, 5]))
.ret)
.skip)))
(.seq (.ops [opO 7 (.alloc [(.int .i64 0), (.int .i64 0), (.int .i64 0)])] none)
(.seq (.seq (.ops [mvO 28 0,
nO 29 28,
mO 30 0] (some [1, 4, 7, 28, 29, 30]))
(.block 0 (.loop (.seq (.ops [sO 31 30 29] none)
(.seq (.cond (.t 31)
.skip
(.exit 0))
(.seq (.block 1 (.seq (.ops [mvO 32 30,
iO 33 1 28 30,
lO 34 1 33,
mvO 8 32,
mvO 9 34] (some [1, 4, 7, 8, 9, 28, 29, 30]))
(.seq (.ops [mvO 35 1,
mvO 36 8,
iO 37 1 35 36,
lO 38 1 37,
mvO 10 38] (some [1, 4, 7, 9, 10, 28, 29, 30]))
(.seq (.ops [mO 11 0] none)
(.seq (.seq (.ops [mvO 39 9,
opO 40 (.ibin .gtr .i64 (.t 39) (ci 0)),
mvO 41 40,
⟨(some 42), (some (41, true)), .mov (.t 10)⟩,
⟨(some 43), (some (41, true)), .ibin .gtr .i64 (.t 42) (ci 0)⟩,
opO 44 (.pick (.t 41) (.t 43) (.c (.bool false))),
mvO 45 44,
⟨(some 46), (some (45, false)), .mov (.t 9)⟩,
⟨(some 47), (some (45, false)), .ibin .lss .i64 (.t 46) (ci 0)⟩,
⟨(some 48), (some (45, false)), .mov (.t 47)⟩,
⟨(some 49), (some (48, true)), .mov (.t 10)⟩,
⟨(some 50), (some (48, true)), .ibin .lss .i64 (.t 49) (ci 0)⟩,
⟨(some 51), (some (45, false)), .pick (.t 48) (.t 50) (.c (.bool false))⟩,
opO 52 (.pick (.t 45) (.c (.bool true)) (.t 51))] (some [1, 4, 7, 9, 10, 11, 28, 29, 30, 52]))
(.cond (.t 52)
(.ops [mvO 53 9,
cO 54 218 53,
mvO 55 10,
cO 56 218 55,
opO 57 (.minmax false (.t 54) [(.t 56)]),
mvO 11 57] (some [1, 4, 7, 9, 10, 11, 28, 29, 30]))
.skip))
(.seq (.ops [fO 58 0 7,
lO 59 1 58,
mvO 60 11,
opO 61 (.ibin .add .i64 (.t 59) (.t 60)),
fO 62 0 7,
⟨none, none, .store 1 (.t 62) (.t 61)⟩] (some [1, 4, 7, 9, 10, 11, 28, 29, 30]))
(.seq (.draw (.rd 0 (fO 63 1 7)
(.rd 1 (lO 64 1 63)
(.rd 2 (mvO 65 9)
(.rd 4 (mvO 67 11)
(.wr 3 (cO 66 218 65) [2]
(.rd 5 (opO 68 (.ibin .sub .i64 (.t 66) (.t 67)))
(.rd 6 (opO 69 (.ibin .add .i64 (.t 64) (.t 68)))
(.rd 7 (fO 70 1 7)
(.wr 8 ⟨none, none, .store 1 (.t 70) (.t 69)⟩ [7, 6, 3, 0, 1, 2, 3, 4, 5, 6]
.fin .no)))) .no))))) (some [1, 4, 7, 10, 11, 28, 29, 30]))
(.draw (.rd 0 (fO 71 2 7)
(.rd 1 (lO 72 1 71)
(.rd 2 (mvO 73 10)
(.rd 4 (mvO 75 11)
(.wr 3 (cO 74 218 73) [2]
(.rd 5 (opO 76 (.ibin .sub .i64 (.t 74) (.t 75)))
(.rd 6 (opO 77 (.ibin .add .i64 (.t 72) (.t 76)))
(.rd 7 (fO 78 2 7)
(.wr 8 ⟨none, none, .store 1 (.t 78) (.t 77)⟩ [7, 6, 3, 0, 1, 2, 3, 4, 5, 6]
.fin .no)))) .no))))) (some [1, 4, 7, 28, 29, 30])))))))))
(.ops [pO 79 30 1,
mvO 30 79] (some [1, 4, 7, 28, 29, 30]))))))))
(.seq (.ops [lA 80 3 7,
⟨none, none, .store 3 (.t 4) (.t 80)⟩,
mO 5 0] (some [4, 5]))
.ret)))))⟩
def ir206 : IFn := ⟨32, [.t 4, .t 5, .t 6],
(.seq (.ops [opO 2 (.box (.t 0)),
opO 3 (.box (.t 1)),
opO 4 (.mov (.c (.slice none 0 0))),
mO 5 0,
mO 6 0] (some [2, 3]))
(.seq (.ops [lA 13 3 2,
lA 14 4 3,
opO 15 (.call 219 [(.t 13), (.t 14)]),
mvO 12 15,
xO 16 0 12,
xO 17 1 12,
opO 7 (.alloc [(.int .i64 0), (.int .i64 0), (.slice none 0 0), (.int .i64 0), (.int .i64 0), (.int .i64 0), (.slice none 0 0)]),
⟨none, none, .store 7 (.t 7) (.t 16)⟩,
mvO 8 17] (some [7, 8]))
(.seq (.seq (.ops [mvO 18 8,
opO 19 (.ibin .neq .i64 (.t 18) (ci 0))] (some [7, 8, 19]))
(.cond (.t 19)
(.seq (.ops [mvO 20 8,
opO 4 (.mov (.c (.slice none 0 0))),
mO 5 0,
mvO 6 20] (some [4, 5, 6]))
.ret)
.skip))
(.seq (.ops [lA 22 7 7,
opO 23 (.build [(.int .i64 0), (.int .i64 0)] [(0, 1, (ci (-1)))]),
opO 24 (.call 220 [(.t 22), (.t 23)]),
mvO 21 24,
xO 25 0 21,
xO 26 1 21,
xO 27 2 21,
mvO 9 25,
mvO 10 26,
mvO 11 27] (some [9, 10, 11]))
(.seq (.ops [mvO 28 9,
mvO 29 10,
mvO 30 11,
opO 31 (.call 214 [(.t 30), (ci 12)]),
mvO 4 28,
mvO 5 29,
mvO 6 31] (some [4, 5, 6]))
.ret)))))⟩
def ir207 : IFn := ⟨6, [.cell 0 3 true],
(.seq (.ops [opO 0 (.alloc [(.int .i64 0), (.int .i64 0), (.slice none 0 0)])] none)
(.seq (.ops [opO 1 (.build [(.string ⟨#[]⟩), (.int .i64 0), (.int .i64 0), (.int .i64 0)] [(0, 1, (.c (.string ⟨#[114, 101, 115, 116]⟩)))]),
opO 2 (.build [(.string ⟨#[]⟩), (.int .i64 0), (.int .i64 0), (.int .i64 0)] [(0, 1, (.c (.string ⟨#[112, 117, 109, 112]⟩))), (1, 1, (ci 3)), (2, 1, (ci (-4))), (3, 1, (ci 5))]),
opO 3 (.build [(.string ⟨#[]⟩), (.int .i64 0), (.int .i64 0), (.int .i64 0)] [(0, 1, (.c (.string ⟨#[116, 117, 114, 98, 105, 110, 101]⟩))), (1, 1, (ci (-3))), (2, 1, (ci 3)), (3, 1, (ci 2))]),
opO 4 (.bslice 3 4 [(.string ⟨#[]⟩), (.int .i64 0), (.int .i64 0), (.int .i64 0)] [(0, 4, (.t 1)), (4, 4, (.t 2)), (8, 4, (.t 3))]),
opO 5 (.build [(.int .i64 0), (.int .i64 0), (.slice none 0 0)] [(1, 1, (ci 10)), (2, 1, (.t 4))]),
⟨none, none, .store 3 (.t 0) (.t 5)⟩] (some [0]))
.ret))⟩
def ir208 : IFn := ⟨5, [.cell 0 4 true],
(.seq (.ops [opO 0 (.alloc [(.int .i64 0), (.int .i64 0), (.int .i64 0), (.slice none 0 0)])] none)
(.seq (.ops [opO 1 (.build [(.int .i64 0), (.int .i64 0), (.int .i64 0)] [(0, 1, (ci 2)), (1, 1, (ci 1))]),
opO 2 (.build [(.int .i64 0), (.int .i64 0), (.int .i64 0)] [(0, 1, (ci 12)), (1, 1, (ci 10)), (2, 1, (ci 1))]),
opO 3 (.bslice 2 3 [(.int .i64 0), (.int .i64 0), (.int .i64 0)] [(0, 3, (.t 1)), (3, 3, (.t 2))]),
opO 4 (.build [(.int .i64 0), (.int .i64 0), (.int .i64 0), (.slice none 0 0)] [(0, 1, (ci 4)), (2, 1, (ci 1)), (3, 1, (.t 3))]),
⟨none, none, .store 4 (.t 0) (.t 4)⟩] (some [0]))
.ret))⟩
def ir209 : IFn := ⟨53, [.t 6, .t 7],
(.seq (.ops [opO 3 (.box (.t 0)),
opO 4 (.box (.t 1)),
opO 5 (.box (.t 2)),
opO 6 (.mov (.c (.slice none 0 0))),
mO 7 0] (some [3, 4, 5]))
(.seq (.ops [lA 14 3 3,
lA 15 4 4,
fO 16 0 5,
lO 17 1 16,
opO 18 (.call 221 [(.t 14), (.t 15), (.t 17)]),
mvO 13 18,
xO 19 0 13,
xO 20 1 13,
xO 21 2 13,
opO 8 (.alloc [(.int .i64 0), (.int .i64 0), (.slice none 0 0), (.int .i64 0), (.int .i64 0), (.int .i64 0), (.slice none 0 0)]),
⟨none, none, .store 7 (.t 8) (.t 19)⟩,
mvO 9 20,
mvO 10 21] (some [4, 5, 8, 9, 10]))
(.seq (.seq (.ops [mvO 22 10,
lA 23 7 8,
fO 24 1 5,
lO 25 1 24,
opO 26 (.call 222 [(.t 23), (.t 25)]),
opO 27 (.call 214 [(.t 26), (ci 6)]),
opO 28 (.bslice 2 1 [(.int .i64 0)] [(0, 1, (.t 22)), (1, 1, (.t 27))]),
cO 29 213 28,
mvO 10 29] (some [4, 5, 8, 9, 10]))
(.seq (.ops [mvO 30 10,
opO 31 (.ibin .neq .i64 (.t 30) (ci 0))] (some [4, 5, 8, 9, 10, 31]))
(.cond (.t 31)
(.seq (.ops [mvO 32 10,
opO 6 (.mov (.c (.slice none 0 0))),
mvO 7 32] (some [6, 7]))
.ret)
.skip)))
(.seq (.ops [opO 11 (.mov (.c (.slice none 0 0)))] none)
(.seq (.seq (.ops [fO 33 3 4,
lO 34 1 33,
nO 35 34,
mO 36 0] (some [5, 8, 9, 11, 35, 36]))
(.block 0 (.loop (.seq (.ops [sO 37 36 35] none)
(.seq (.cond (.t 37)
.skip
(.exit 0))
(.seq (.block 1 (.seq (.ops [mvO 38 36,
mvO 12 38] (some [5, 8, 9, 11, 12, 35, 36]))
(.draw (.rd 0 (mvO 39 11)
(.rd 1 (lA 40 7 8)
(.rd 2 (mvO 41 9)
(.rd 3 (mvO 42 12)
(.rd 4 (iO 43 1 41 42)
(.rd 5 (lO 44 1 43)
(.rd 6 (mvO 45 12)
(.rd 7 (fO 46 1 5)
(.rd 8 (lO 47 1 46)
(.wr 9 (opO 48 (.call 223 [(.t 40), (.t 44), (.t 45), (.t 47)])) [1, 5, 6, 8]
(.wr 10 (opO 49 (.bslice 1 1 [(.int .i64 0)] [(0, 1, (.t 48))])) [9]
(.wr 11 (opO 50 (.append 1 8 (.t 39) (.t 49))) [0, 10, 9]
(.wr 12 (mvO 11 50) [11, 11, 0, 1, 2, 3, 4, 5, 6, 7, 8, 9, 10, 11]
.fin .no) .no) .no) .no)))))))))) (some [5, 8, 9, 11, 35, 36]))))
(.ops [pO 51 36 1,
mvO 36 51] (some [5, 8, 9, 11, 35, 36]))))))))
(.seq (.ops [mvO 52 11,
mvO 6 52,
mO 7 0] (some [6, 7]))
.ret))))))⟩
def ir210 : IFn := ⟨71, [.t 2, .t 3, .t 4],
(.seq (.ops [opO 2 (.mov (.c (.slice none 0 0))),
mO 3 0,
mO 4 0] (some [0]))
(.seq (.ops [mvO 15 0,
cO 16 224 15,
mvO 14 16,
xO 17 0 14,
xO 18 1 14,
mvO 5 17,
mvO 6 18] (some [5, 6]))
(.seq (.seq (.ops [mvO 19 6,
opO 20 (.ibin .neq .i64 (.t 19) (ci 0))] (some [5, 6, 20]))
(.cond (.t 20)
(.seq (.ops [mvO 21 6,
opO 2 (.mov (.c (.slice none 0 0))),
mO 3 0,
mvO 4 21] (some [2, 3, 4]))
.ret)
.skip))
(.seq (.ops [mvO 22 5,
cO 23 225 22,
mvO 7 23] (some [5, 7]))
(.seq (.ops [mvO 24 5,
mvO 25 5,
mvO 26 7,
opO 27 (.call 227 [(.t 25), (.t 26)]),
opO 28 (.call 226 [(.t 24), (.t 27), (ci 0)]),
mvO 8 28] (some [5, 7, 8]))
(.seq (.ops [opO 9 (.mov (.c (.slice none 0 0)))] none)
(.seq (.ops [mO 10 0] none)
(.seq (.block 0 (.loop (.seq (.seq (.ops [mvO 29 7,
nO 30 29,
opO 31 (.ibin .gtr .i64 (.t 30) (ci 0))] (some [5, 7, 8, 9, 10, 31]))
(.cond (.t 31)
.skip
(.exit 0)))
(.block 1 (.seq (.ops [mvO 32 7,
nO 33 32,
mO 34 0] none)
(.block 2 (.loop (.seq (.ops [sO 35 34 33] none)
(.seq (.cond (.t 35)
.skip
(.exit 2))
(.seq (.block 3 (.seq (.ops [mvO 36 34,
iO 37 1 32 34,
lO 38 1 37,
mvO 11 36,
mvO 12 38] (some [5, 7, 8, 9, 10, 11, 12, 32, 33, 34]))
(.seq (.ops [mvO 39 7,
cO 40 73 39,
mvO 41 11,
mvO 42 11,
pO 43 42 1,
opO 44 (.call 228 [(.t 40), (.t 41), (.t 43)]),
mvO 13 44] (some [5, 7, 8, 9, 10, 12, 13, 32, 33, 34]))
(.seq (.ops [mvO 45 5,
mvO 46 12,
opO 47 (.bslice 1 1 [(.int .i64 0)] [(0, 1, (.t 46))]),
mvO 48 5,
mvO 49 13,
opO 50 (.call 227 [(.t 48), (.t 49)]),
opO 51 (.append 1 8 (.t 47) (.t 50)),
mvO 52 10,
opO 53 (.call 226 [(.t 45), (.t 51), (.t 52)]),
mvO 54 8,
opO 55 (.ibin .leq .i64 (.t 53) (.t 54))] (some [5, 7, 8, 9, 10, 12, 13, 32, 33, 34, 55]))
(.cond (.t 55)
(.seq (.draw (.rd 0 (mvO 56 9)
(.rd 1 (mvO 57 12)
(.rd 4 (mvO 60 13)
(.rd 5 (mvO 61 10)
(.rd 6 (mvO 62 5)
(.rd 7 (mvO 63 12)
(.rd 8 (iO 64 3 62 63)
(.rd 9 (fO 65 2 64)
(.rd 10 (lO 66 1 65)
(.rd 11 (opO 67 (.ibin .add .i64 (.t 61) (.t 66)))
(.wr 2 (opO 58 (.bslice 1 1 [(.int .i64 0)] [(0, 1, (.t 57))])) [1]
(.wr 3 (opO 59 (.append 1 8 (.t 56) (.t 58))) [0, 2]
(.wr 12 (mvO 9 59) [3, 3, 0, 1, 2, 3]
(.rd 13 (mvO 7 60)
(.wr 14 (mvO 10 67) [11, 13, 0, 1, 2, 3, 4, 5, 6, 7, 8, 9, 10, 11, 12, 13]
.fin .no)) .no) .no) .no))))))))))) (some [5, 7, 8, 9, 10]))
(.exit 2))
.skip)))))
(.ops [pO 68 34 1,
mvO 34 68] (some [5, 7, 8, 9, 10, 32, 33, 34]))))))))))))
(.seq (.ops [mvO 69 9,
mvO 70 8,
mvO 2 69,
mvO 3 70,
mO 4 0] (some [2, 3, 4]))
.ret)))))))))⟩
def ir211 : IFn := ⟨5, [.t 0],
(.seq (.ops [opO 0 (.mov (.c (.slice none 0 0)))] (some []))
(.seq (.ops [opO 1 (.build [(.string ⟨#[]⟩), (.int .i64 0), (.int .i64 0)] [(0, 1, (.c (.string ⟨#[97]⟩))), (1, 1, (ci 5)), (2, 1, (ci 3))]),
opO 2 (.build [(.string ⟨#[]⟩), (.int .i64 0), (.int .i64 0)] [(0, 1, (.c (.string ⟨#[98]⟩))), (1, 1, (ci 4)), (2, 1, (ci 2))]),
opO 3 (.build [(.string ⟨#[]⟩), (.int .i64 0), (.int .i64 0)] [(0, 1, (.c (.string ⟨#[99]⟩))), (1, 1, (ci 9)), (2, 1, (ci 5))]),
opO 4 (.bslice 3 3 [(.string ⟨#[]⟩), (.int .i64 0), (.int .i64 0)] [(0, 3, (.t 1)), (3, 3, (.t 2)), (6, 3, (.t 3))]),
mvO 0 4] (some [0]))
.ret))⟩
def ir212 : IFn := ⟨37, [.t 6, .t 7],
(.seq (.ops [opO 3 (.box (.t 0)),
opO 4 (.box (.t 1)),
opO 5 (.box (.t 2)),
opO 6 (.mov (.c (.slice none 0 0))),
mO 7 0] (some [3, 4, 5]))
(.seq (.ops [lA 12 3 3,
lA 13 4 4,
opO 14 (.call 219 [(.t 12), (.t 13)]),
mvO 11 14,
xO 15 0 11,
xO 16 1 11,
opO 8 (.alloc [(.int .i64 0), (.int .i64 0), (.slice none 0 0), (.int .i64 0), (.int .i64 0), (.int .i64 0), (.slice none 0 0)]),
⟨none, none, .store 7 (.t 8) (.t 15)⟩,
mvO 9 16] (some [4, 5, 8, 9]))
(.seq (.seq (.ops [mvO 17 9,
lO 18 1 5,
fO 19 3 4,
lO 20 1 19,
nO 21 20,
opO 22 (.call 216 [(.t 18), (ci 0), (.t 21)]),
opO 23 (.call 214 [(.t 22), (ci 2)]),
opO 24 (.bslice 2 1 [(.int .i64 0)] [(0, 1, (.t 17)), (1, 1, (.t 23))]),
cO 25 213 24,
mvO 9 25] (some [5, 8, 9]))
(.seq (.ops [mvO 26 9,
opO 27 (.ibin .neq .i64 (.t 26) (ci 0))] (some [5, 8, 9, 27]))
(.cond (.t 27)
(.seq (.ops [mvO 28 9,
opO 6 (.mov (.c (.slice none 0 0))),
mvO 7 28] (some [6, 7]))
.ret)
.skip)))
(.seq (.ops [lA 29 7 8,
opO 30 (.build [(.int .i64 0), (.int .i64 0)] [(0, 1, (ci (-1)))]),
opO 31 (.call 229 [(.t 29), (.t 30)]),
opO 10 (.alloc [(.slice none 0 0)]),
⟨none, none, .store 1 (.t 10) (.t 31)⟩] (some [5, 8, 10]))
(.seq (.ops [lA 32 7 8,
lO 33 1 5,
opO 34 (.call 231 [(.t 32), (.t 33)]),
opO 35 (.mkfunc 232 [] [(.t 10), (.t 5), (.t 8)]),
opO 36 (.call 230 [(.t 34), (.t 35)]),
mvO 6 36,
mO 7 0] (some [6, 7]))
.ret)))))⟩
def ir213 : IFn := ⟨15, [.t 2],
(.seq (.ops [mO 2 0] (some [0]))
(.seq (.seq (.ops [mvO 5 0,
nO 6 5,
mO 7 0] (some [5, 6, 7]))
(.block 0 (.loop (.seq (.ops [sO 8 7 6] none)
(.seq (.cond (.t 8)
.skip
(.exit 0))
(.seq (.block 1 (.seq (.ops [iO 9 1 5 7,
lO 10 1 9,
mvO 4 10] (some [4, 5, 6, 7]))
(.seq (.ops [mvO 11 4,
opO 12 (.ibin .neq .i64 (.t 11) (ci 0))] (some [4, 5, 6, 7, 12]))
(.cond (.t 12)
(.seq (.ops [mvO 13 4,
mvO 2 13] (some [2]))
.ret)
.skip))))
(.ops [pO 14 7 1,
mvO 7 14] (some [5, 6, 7]))))))))
(.seq (.ops [mO 2 0] none)
.ret)))⟩
def ir214 : IFn := ⟨7, [.t 4],
(.seq (.ops [mO 4 0] (some [0, 1]))
(.seq (.seq (.ops [mvO 5 0] (some [1, 5]))
(.cond (.t 5)
(.seq (.ops [mO 4 0] none)
.ret)
.skip))
(.seq (.ops [mvO 6 1,
mvO 4 6] (some [4]))
.ret)))⟩
def ir215 : IFn := ⟨5, [.t 2],
(.seq (.ops [bO 2 false] (some [0]))
(.seq (.ops [mvO 3 0,
opO 4 (.call 235 [(.t 3), (ci 1000000)]),
mvO 2 4] (some [2]))
.ret))⟩
def ir216 : IFn := ⟨15, [.t 6],
(.seq (.ops [bO 6 false] (some [0, 1, 2]))
(.seq (.ops [mvO 7 1,
mvO 8 0,
opO 9 (.ibin .leq .i64 (.t 7) (.t 8)),
mvO 10 9,
⟨(some 11), (some (10, true)), .mov (.t 0)⟩,
⟨(some 12), (some (10, true)), .mov (.t 2)⟩,
⟨(some 13), (some (10, true)), .ibin .leq .i64 (.t 11) (.t 12)⟩,
opO 14 (.pick (.t 10) (.t 13) (.c (.bool false))),
mvO 6 14] (some [6]))
.ret))⟩
def ir217 : IFn := ⟨15, [.t 2],
(.seq (.ops [mO 2 0] (some [0]))
(.seq (.ops [mvO 4 0,
opO 5 (.call 80 [(.t 4), (.f 236)]),
mvO 3 5] (some [0, 3]))
(.seq (.ops [mvO 6 0,
nO 7 6,
opO 8 (.ibin .leq .i64 (.t 7) (ci 300)),
opO 9 (.call 214 [(.t 8), (ci 8)]),
mvO 10 3,
opO 11 (.un .not (.t 10)),
opO 12 (.call 214 [(.t 11), (ci 2)]),
opO 13 (.bslice 2 1 [(.int .i64 0)] [(0, 1, (.t 9)), (1, 1, (.t 12))]),
cO 14 213 13,
mvO 2 14] (some [2]))
.ret)))⟩
def ir218 : IFn := ⟨7, [.t 2],
(.seq (.ops [mO 2 0] (some [0]))
(.seq (.ops [mvO 3 0,
mvO 4 0,
opO 5 (.un .neg (.t 4)),
opO 6 (.minmax true (.t 3) [(.t 5)]),
mvO 2 6] (some [2]))
.ret))⟩
def ir219 : IFn := ⟨18, [.cell 4 7 true, .t 5],
(.seq (.ops [opO 2 (.box (.t 0)),
opO 3 (.box (.t 1)),
opO 4 (.alloc [(.int .i64 0), (.int .i64 0), (.slice none 0 0), (.int .i64 0), (.int .i64 0), (.int .i64 0), (.slice none 0 0)]),
mO 5 0] (some [2, 3, 4]))
(.seq (.ops [lA 9 3 2,
lA 10 4 3,
opO 11 (.call 237 [(.t 9), (.t 10)]),
mvO 8 11,
xO 12 0 8,
xO 13 1 8,
mvO 6 12,
mvO 7 13] (some [2, 3, 4, 7]))
(.seq (.ops [lA 14 3 2,
lA 15 4 3,
opO 16 (.build [(.int .i64 0), (.int .i64 0), (.slice none 0 0), (.int .i64 0), (.int .i64 0), (.int .i64 0), (.slice none 0 0)] [(0, 3, (.t 14)), (3, 4, (.t 15))]),
mvO 17 7,
⟨none, none, .store 7 (.t 4) (.t 16)⟩,
mvO 5 17] (some [4, 5]))
.ret)))⟩
def ir220 (r : Nat → Code × Code) : IFn := ⟨92, [.t 4, .t 5, .t 6],
(.seq (.ops [opO 2 (.box (.t 0)),
opO 3 (.box (.t 1)),
opO 4 (.mov (.c (.slice none 0 0))),
mO 5 0,
bO 6 false] none)
(.seq (.ops [lA 16 7 2,
lA 17 2 3,
opO 18 (.call 229 [(.t 16), (.t 17)]),
opO 7 (.alloc [(.slice none 0 0)]),
⟨none, none, .store 1 (.t 7) (.t 18)⟩] none)
(.seq (.draw (.rd 0 (lO 19 1 7)
(.rd 1 (opO 20 (.iaddr 1 (.t 19) (ci 0)))
(.rd 2 (lO 21 1 20)
(.rd 3 (lA 22 7 2)
(.rd 4 (fO 23 3 2)
(.rd 5 (fO 24 0 23)
(.rd 6 (lO 25 1 24)
(.rd 7 (fO 26 3 2)
(.rd 8 (fO 27 1 26)
(.rd 9 (lO 28 1 27)
(.wr 10 (opO 29 (.call 234 [(.t 22), (.t 25), (.t 28)])) [3, 6, 9]
(.rd 11 (iO 30 1 21 29)
(.rd 12 (lO 31 1 30)
(.rd 13 (mvO 8 31)
.fin))) .no))))))))))) none)
(.seq (.seq (.ops [mvO 32 8,
cO 33 233 32,
opO 34 (.un .not (.t 33))] none)
(.cond (.t 34)
(.seq (.ops [opO 4 (.mov (.c (.slice none 0 0))),
mO 5 0,
bO 6 false] none)
.ret)
.skip))
(.seq (.ops [opO 9 (.alloc [(.slice none 0 0)])] none)
(.seq (.draw (.rd 0 (fO 35 3 2)
(.rd 1 (fO 36 0 35)
(.rd 2 (lO 37 1 36)
(.rd 3 (fO 38 3 2)
(.rd 4 (fO 39 1 38)
(.rd 5 (lO 40 1 39)
(.wr 6 (opO 10 (.alloc [(.int .i64 0)])) []
(.wr 7 (opO 11 (.alloc [(.int .i64 0)])) []
(.wr 8 ⟨none, none, .store 1 (.t 10) (.t 37)⟩ [6, 2, 0, 1, 2, 6, 7]
(.wr 9 ⟨none, none, .store 1 (.t 11) (.t 40)⟩ [7, 5, 8, 0, 1, 2, 3, 4, 5, 6, 7, 8]
.fin .no) .no) .no)
(.wr 7 (opO 11 (.alloc [(.int .i64 0)])) []
(.wr 6 (opO 10 (.alloc [(.int .i64 0)])) []
(.wr 8 ⟨none, none, .store 1 (.t 10) (.t 37)⟩ [6, 2, 0, 1, 2, 6, 7]
(.wr 9 ⟨none, none, .store 1 (.t 11) (.t 40)⟩ [7, 5, 8, 0, 1, 2, 3, 4, 5, 6, 7, 8]
.fin .no) .no) .no) .no)))))))) none)
(.seq (.seq (.ops [fO 41 3 2,
fO 42 3 41,
lO 43 1 42,
nO 44 43,
mO 45 0] none)
(.block 0 (.loop (.seq (.ops [sO 46 45 44] none)
(.seq (.cond (.t 46)
.skip
(.exit 0))
(.seq (.block 1 (.seq (.ops [mvO 47 45,
opO 12 (.alloc [(.int .i64 0)]),
⟨none, none, .store 1 (.t 12) (.t 47)⟩] none)
(.seq (.draw (.rd 0 (lO 48 1 7)
(.rd 1 (lO 49 1 12)
(.rd 2 (iO 50 1 48 49)
(.rd 3 (lO 51 1 50)
(.rd 4 (lA 52 7 2)
(.rd 5 (lO 53 1 10)
(.rd 6 (lO 54 1 11)
(.wr 7 (opO 55 (.call 234 [(.t 52), (.t 53), (.t 54)])) [4, 5, 6]
(.rd 8 (iO 56 1 51 55)
(.rd 9 (lO 57 1 56)
(.wr 10 (opO 13 (.alloc [(.int .i64 0)])) []
(.wr 11 ⟨none, none, .store 1 (.t 13) (.t 57)⟩ [10, 9, 7, 0, 1, 2, 3, 4, 5, 6, 7, 8, 9, 10]
.fin .no) .no)))
(.wr 10 (opO 13 (.alloc [(.int .i64 0)])) []
(.wr 7 (opO 55 (.call 234 [(.t 52), (.t 53), (.t 54)])) [4, 5, 6]
(.rd 8 (iO 56 1 51 55)
(.rd 9 (lO 57 1 56)
(.wr 11 ⟨none, none, .store 1 (.t 13) (.t 57)⟩ [10, 9, 7, 0, 1, 2, 3, 4, 5, 6, 7, 8, 9, 10]
.fin .no))) .no) .no))))))))) none)
(.seq (.ops [lA 58 7 2,
lO 59 1 10,
lO 60 1 12,
opO 61 (.call 238 [(.t 58), (.t 59), (.t 60)])] none)
(.block 2 (.range 92 (.t 61) #[62, 63] (r 0).1 (r 0).2))))))
(.ops [pO 89 45 1,
mvO 45 89] none)))))))
(.seq (.ops [lO 90 1 9,
mvO 91 8,
mvO 4 90,
mvO 5 91,
bO 6 true] (some [4, 5, 6]))
.ret))))))))⟩
def ir220a0 : ICode :=
(.seq (.ops [mvO 14 62] none)
(.ops [mvO 15 63] none))
def ir220b0 : ICode :=
(.block 3 (.seq (.draw (.rd 0 (lA 64 7 2)
(.rd 1 (lO 65 1 12)
(.rd 2 (lO 66 1 11)
(.rd 3 (mvO 67 14)
(.rd 5 (lO 69 1 7)
(.rd 6 (lO 70 1 12)
(.rd 7 (pO 71 70 1)
(.rd 8 (iO 72 1 69 71)
(.rd 9 (lO 73 1 72)
(.rd 10 (lA 74 7 2)
(.rd 11 (mvO 75 15)
(.rd 12 (mvO 76 14)
(.rd 17 (lO 81 1 13)
(.wr 4 (opO 68 (.call 239 [(.t 64), (.t 65), (.t 66), (.t 67)])) [0, 1, 2, 3]
(.wr 13 (opO 77 (.call 234 [(.t 74), (.t 75), (.t 76)])) [10, 11, 12, 4]
(.rd 14 (iO 78 1 73 77)
(.rd 15 (lO 79 1 78)
(.rd 16 (opO 80 (.ibin .add .i64 (.t 68) (.t 79)))
(.rd 18 (opO 82 (.ibin .eql .i64 (.t 80) (.t 81)))
.fin)))) .no) .no)))))))))))))) (some [9, 10, 11, 14, 15, 82]))
(.cond (.t 82)
(.seq (.ops [lO 83 1 9,
mvO 84 14,
opO 85 (.bslice 1 1 [(.int .i64 0)] [(0, 1, (.t 84))]),
opO 86 (.append 1 8 (.t 83) (.t 85)),
mvO 87 15,
mvO 88 14,
⟨none, none, .store 1 (.t 9) (.t 86)⟩,
⟨none, none, .store 1 (.t 10) (.t 87)⟩,
⟨none, none, .store 1 (.t 11) (.t 88)⟩] (some []))
(.exit 2))
.skip)))
def ir221 : IFn := ⟨50, [.cell 6 7 true, .t 7, .t 8],
(.seq (.ops [opO 3 (.box (.t 0)),
opO 4 (.box (.t 1)),
opO 6 (.alloc [(.int .i64 0), (.int .i64 0), (.slice none 0 0), (.int .i64 0), (.int .i64 0), (.int .i64 0), (.slice none 0 0)]),
opO 7 (.mov (.c (.slice none 0 0))),
mO 8 0] (some [2, 3, 4, 6]))
(.seq (.ops [lA 15 3 3,
lA 16 4 4,
opO 17 (.call 219 [(.t 15), (.t 16)]),
mvO 14 17,
xO 18 0 14,
xO 19 1 14,
opO 9 (.alloc [(.int .i64 0), (.int .i64 0), (.slice none 0 0), (.int .i64 0), (.int .i64 0), (.int .i64 0), (.slice none 0 0)]),
⟨none, none, .store 7 (.t 9) (.t 18)⟩,
mvO 10 19] (some [2, 4, 6, 9, 10]))
(.seq (.ops [mvO 20 2,
opO 21 (.mkfunc 240 [] [(.t 9)]),
opO 22 (.call 80 [(.t 20), (.t 21)]),
mvO 11 22] (some [2, 4, 6, 9, 10, 11]))
(.seq (.seq (.ops [mvO 23 10,
mvO 24 2,
nO 25 24,
fO 26 3 4,
lO 27 1 26,
nO 28 27,
opO 29 (.ibin .eql .i64 (.t 25) (.t 28)),
opO 30 (.call 214 [(.t 29), (ci 10)]),
mvO 31 11,
opO 32 (.un .not (.t 31)),
opO 33 (.call 214 [(.t 32), (ci 6)]),
opO 34 (.bslice 3 1 [(.int .i64 0)] [(0, 1, (.t 23)), (1, 1, (.t 30)), (2, 1, (.t 33))]),
cO 35 213 34,
mvO 10 35] (some [2, 6, 9, 10]))
(.seq (.ops [mvO 36 10,
opO 37 (.ibin .neq .i64 (.t 36) (ci 0))] (some [2, 6, 9, 10, 37]))
(.cond (.t 37)
(.seq (.ops [lA 38 7 9,
mvO 39 10,
⟨none, none, .store 7 (.t 6) (.t 38)⟩,
opO 7 (.mov (.c (.slice none 0 0))),
mvO 8 39] (some [6, 7, 8]))
.ret)
.skip)))
(.seq (.ops [lA 41 7 9,
mvO 42 2,
opO 43 (.call 241 [(.t 41), (.t 42)]),
mvO 40 43,
xO 44 0 40,
xO 45 1 40,
mvO 12 44,
mvO 13 45] (some [6, 9, 12, 13]))
(.seq (.draw (.rd 0 (lA 46 7 9)
(.rd 1 (mvO 47 12)
(.rd 2 (mvO 48 13)
(.wr 3 (opO 49 (.call 214 [(.t 48), (ci 22)])) [2]
(.wr 4 ⟨none, none, .store 7 (.t 6) (.t 46)⟩ [0, 3, 0]
(.rd 5 (mvO 7 47)
(.rd 6 (mvO 8 49)
.fin)) .no) .no)))) (some [6, 7, 8]))
.ret))))))⟩
def ir222 : IFn := ⟨12, [.t 4],
(.seq (.ops [opO 2 (.box (.t 0)),
bO 4 false] (some [1, 2]))
(.seq (.ops [mvO 5 1,
fO 6 0 2,
fO 7 2 6,
lO 8 1 7,
nO 9 8,
opO 10 (.ibin .sub .i64 (.t 9) (ci 1)),
opO 11 (.call 216 [(.t 5), (ci 0), (.t 10)]),
mvO 4 11] (some [4]))
.ret))⟩
def ir223 : IFn := ⟨32, [.t 8],
(.seq (.ops [opO 4 (.box (.t 0)),
mO 8 0] (some [1, 2, 3, 4]))
(.seq (.ops [mO 9 0] none)
(.seq (.block 0 (.loop (.seq (.seq (.ops [mvO 10 2,
mvO 11 9,
opO 12 (.ibin .add .i64 (.t 10) (.t 11)),
fO 13 3 4,
fO 14 3 13,
lO 15 1 14,
nO 16 15,
sO 17 12 16] (some [1, 2, 3, 4, 9, 17]))
(.cond (.t 17)
.skip
(.exit 0)))
(.block 1 (.seq (.seq (.ops [lA 18 7 4,
mvO 19 1,
mvO 20 2,
mvO 21 9,
opO 22 (.ibin .add .i64 (.t 20) (.t 21)),
mvO 23 3,
opO 24 (.call 242 [(.t 18), (.t 19), (.t 22), (.t 23)]),
mvO 1 24] (some [1, 2, 3, 4, 9]))
(.seq (.ops [lA 25 7 4,
mvO 26 1,
opO 27 (.call 243 [(.t 25), (.t 26)]),
opO 28 (.un .not (.t 27))] (some [1, 2, 3, 4, 9, 28]))
(.cond (.t 28)
(.exit 0)
.skip)))
(.ops [mvO 29 9,
pO 30 29 1,
mvO 9 30] (some [1, 2, 3, 4, 9])))))))
(.seq (.ops [mvO 31 9,
mvO 8 31] (some [8]))
.ret))))⟩
def ir224 : IFn := ⟨13, [.t 2, .t 3],
(.seq (.ops [opO 2 (.mov (.c (.slice none 0 0))),
mO 3 0] (some [0]))
(.seq (.ops [mvO 7 0,
cO 8 244 7,
mvO 6 8,
xO 9 0 6,
xO 10 1 6,
mvO 4 9,
mvO 5 10] (some [0, 5]))
(.seq (.ops [mvO 11 0,
mvO 12 5,
mvO 2 11,
mvO 3 12] (some [2, 3]))
.ret)))⟩
def ir225 : IFn := ⟨16, [.t 2],
(.seq (.ops [opO 2 (.mov (.c (.slice none 0 0)))] (some [0]))
(.seq (.ops [opO 3 (.mov (.c (.slice none 0 0)))] none)
(.seq (.seq (.ops [mvO 5 0,
nO 6 5,
mO 7 0] (some [3, 6, 7]))
(.block 0 (.loop (.seq (.ops [sO 8 7 6] none)
(.seq (.cond (.t 8)
.skip
(.exit 0))
(.seq (.block 1 (.seq (.ops [mvO 9 7,
mvO 4 9] (some [3, 4, 6, 7]))
(.ops [mvO 10 3,
mvO 11 4,
opO 12 (.bslice 1 1 [(.int .i64 0)] [(0, 1, (.t 11))]),
opO 13 (.append 1 8 (.t 10) (.t 12)),
mvO 3 13] (some [3, 6, 7]))))
(.ops [pO 14 7 1,
mvO 7 14] (some [3, 6, 7]))))))))
(.seq (.ops [mvO 15 3,
mvO 2 15] (some [2]))
.ret))))⟩
def ir226 : IFn := ⟨34, [.t 6],
(.seq (.ops [mO 6 0] (some [0, 1, 2]))
(.seq (.ops [opO 7 (.mov (ci (-200000)))] none)
(.seq (.seq (.ops [mvO 10 1,
nO 11 10,
mO 12 0] (some [0, 2, 7, 10, 11, 12]))
(.block 0 (.loop (.seq (.ops [sO 13 12 11] none)
(.seq (.cond (.t 13)
.skip
(.exit 0))
(.seq (.block 1 (.seq (.ops [iO 14 1 10 12,
lO 15 1 14,
mvO 9 15] (some [0, 2, 7, 9, 10, 11, 12]))
(.seq (.ops [mvO 16 2,
mvO 17 0,
mvO 18 9,
iO 19 3 17 18,
fO 20 2 19,
lO 21 1 20,
opO 22 (.ibin .add .i64 (.t 16) (.t 21)),
mvO 2 22] (some [0, 2, 7, 9, 10, 11, 12]))
(.ops [mvO 23 7,
mvO 24 2,
mvO 25 0,
mvO 26 9,
iO 27 3 25 26,
fO 28 1 27,
lO 29 1 28,
opO 30 (.ibin .sub .i64 (.t 24) (.t 29)),
opO 31 (.minmax true (.t 23) [(.t 30)]),
mvO 7 31] (some [0, 2, 7, 10, 11, 12])))))
(.ops [pO 32 12 1,
mvO 12 32] (some [0, 2, 7, 10, 11, 12]))))))))
(.seq (.ops [mvO 33 7,
mvO 6 33] (some [6]))
.ret))))⟩
def ir227 : IFn := ⟨12, [.t 4],
(.seq (.ops [opO 2 (.box (.t 0)),
opO 4 (.mov (.c (.slice none 0 0)))] (some [1, 2]))
(.seq (.ops [mvO 6 1,
cO 7 73 6,
mvO 5 7] (some [2, 5]))
(.seq (.ops [mvO 8 5,
opO 9 (.mkfunc 245 [] [(.t 2)]),
opO 10 (.call 106 [(.t 8), (.t 9)])] (some [5]))
(.seq (.ops [mvO 11 5,
mvO 4 11] (some [4]))
.ret))))⟩
def ir228 : IFn := ⟨33, [.t 6],
(.seq (.ops [opO 6 (.mov (.c (.slice none 0 0)))] (some [0, 1, 2]))
(.seq (.ops [mvO 8 0,
mvO 9 1,
mvO 10 2,
mvO 11 0,
nO 12 11,
opO 13 (.sliceV 1 (.t 8) (some (.t 9)) (some (.t 10)) (some (.t 12)))] (some [0, 1, 2]))
(.seq (.seq (.ops [mvO 14 1,
mvO 15 2,
opO 16 (.ibin .eql .i64 (.t 14) (.t 15))] (some [0, 1, 2, 16]))
(.cond (.t 16)
(.seq (.ops [mvO 17 0,
mvO 6 17] (some [6]))
.ret)
.skip))
(.seq (.ops [mvO 18 0,
nO 19 18,
mvO 7 19] (some [0, 1, 2, 7]))
(.seq (.draw (.rd 0 (mvO 20 0)
(.rd 1 (mvO 21 1)
(.rd 2 (opO 22 (.sliceV 1 (.t 20) none (some (.t 21)) none))
(.rd 3 (mvO 23 0)
(.rd 4 (mvO 24 2)
(.rd 5 (opO 25 (.sliceV 1 (.t 23) (some (.t 24)) none none))
(.wr 6 (opO 26 (.append 1 8 (.t 22) (.t 25))) [2, 5]
(.wr 7 (mvO 0 26) [6, 6, 0, 1, 2, 3, 4, 5, 6]
.fin .no) .no))))))) (some [0, 7]))
(.seq (.ops [mvO 27 0,
mvO 28 0,
nO 29 28,
mvO 30 7,
opO 31 (.sliceV 1 (.t 27) (some (.t 29)) (some (.t 30)) none),
⟨none, none, .clr 1 [(.int .i64 0)] (.t 31)⟩] (some [0]))
(.seq (.ops [mvO 32 0,
mvO 6 32] (some [6]))
.ret)))))))⟩
def ir229 (r : Nat → Code × Code) : IFn := ⟨117, [.t 4],
(.seq (.ops [opO 2 (.box (.t 0)),
opO 3 (.box (.t 1)),
opO 4 (.mov (.c (.slice none 0 0)))] none)
(.seq (.draw (.rd 0 (fO 14 3 2)
(.rd 1 (fO 15 3 14)
(.rd 2 (lO 16 1 15)
(.rd 3 (nO 17 16)
(.rd 4 (lA 18 7 2)
(.rd 5 (fO 19 0 2)
(.rd 6 (fO 20 1 19)
(.rd 7 (lO 21 1 20)
(.rd 8 (fO 22 0 2)
(.rd 9 (fO 23 2 22)
(.rd 10 (lO 24 1 23)
(.rd 11 (nO 25 24)
(.rd 12 (opO 26 (.ibin .sub .i64 (.t 25) (ci 1)))
(.wr 13 (opO 27 (.call 234 [(.t 18), (.t 21), (.t 26)])) [4, 7, 12]
(.rd 14 (pO 28 27 1)
(.rd 15 (mvO 5 17)
(.rd 16 (mvO 6 28)
.fin))) .no)))))))))))))) none)
(.seq (.ops [mvO 29 5,
pO 30 29 1,
opO 31 (.mslice 1 24 [(.slice none 0 0)] (.t 30) (.t 30)),
opO 7 (.alloc [(.slice none 0 0)]),
⟨none, none, .store 1 (.t 7) (.t 31)⟩] none)
(.seq (.seq (.ops [mvO 32 5,
opO 8 (.alloc [(.int .i64 0)]),
⟨none, none, .store 1 (.t 8) (.t 32)⟩] none)
(.block 0 (.loop (.seq (.seq (.ops [lO 33 1 8,
opO 34 (.ibin .geq .i64 (.t 33) (ci 0))] none)
(.cond (.t 34)
.skip
(.exit 0)))
(.seq (.block 1 (.seq (.draw (.rd 0 (lO 37 1 7)
(.rd 1 (lO 38 1 8)
(.rd 3 (mvO 40 6)
(.wr 2 (opO 39 (.bslice 1 1 [(.int .i64 0)] [(0, 1, (ci (-100000000000)))])) []
(.wr 4 (opO 41 (.call 246 [(.t 39), (.t 40)])) [2, 3]
(.rd 5 (iO 42 1 37 38)
(.wr 6 ⟨none, none, .store 1 (.t 42) (.t 41)⟩ [5, 4, 4, 0, 1, 2, 3, 4]
.fin .no)) .no) .no)))) none)
(.seq (.ops [fO 43 0 2,
fO 44 0 43,
lO 45 1 44,
mvO 9 45] none)
(.block 2 (.loop (.seq (.seq (.ops [mvO 46 9,
fO 47 0 2,
fO 48 1 47,
lO 49 1 48,
opO 50 (.ibin .leq .i64 (.t 46) (.t 49))] none)
(.cond (.t 50)
.skip
(.exit 2)))
(.seq (.block 3 (.seq (.ops [fO 53 0 2,
fO 54 2 53,
lO 55 1 54,
nO 56 55,
mO 57 0] none)
(.block 4 (.loop (.seq (.ops [sO 58 57 56] none)
(.seq (.cond (.t 58)
.skip
(.exit 4))
(.seq (.block 5 (.seq (.ops [mvO 59 57,
opO 10 (.alloc [(.int .i64 0)]),
⟨none, none, .store 1 (.t 10) (.t 59)⟩] none)
(.seq (.draw (.rd 0 (lO 60 1 7)
(.rd 1 (lO 61 1 8)
(.rd 2 (iO 62 1 60 61)
(.rd 3 (lO 63 1 62)
(.rd 4 (lA 64 7 2)
(.rd 5 (mvO 65 9)
(.rd 6 (lO 66 1 10)
(.wr 7 (opO 67 (.call 234 [(.t 64), (.t 65), (.t 66)])) [4, 5, 6]
(.rd 8 (iO 68 1 63 67)
(.wr 9 (opO 11 (.alloc [(.pointer none)])) []
(.wr 10 ⟨none, none, .store 1 (.t 11) (.t 68)⟩ [9, 8, 7, 0, 1, 2, 3, 4, 5, 6, 7, 8, 9]
.fin .no) .no))
(.wr 9 (opO 11 (.alloc [(.pointer none)])) []
(.wr 7 (opO 67 (.call 234 [(.t 64), (.t 65), (.t 66)])) [4, 5, 6]
(.rd 8 (iO 68 1 63 67)
(.wr 10 ⟨none, none, .store 1 (.t 11) (.t 68)⟩ [9, 8, 7, 0, 1, 2, 3, 4, 5, 6, 7, 8, 9]
.fin .no)) .no) .no))))))))) none)
(.seq (.seq (.ops [lO 69 1 8,
mvO 70 5,
opO 71 (.ibin .eql .i64 (.t 69) (.t 70))] none)
(.cond (.t 71)
(.seq (.ops [lO 72 1 11,
fO 73 3 2,
fO 74 2 73,
lO 75 1 74,
mvO 76 9,
opO 77 (.ibin .mul .i64 (.t 75) (.t 76)),
opO 78 (.nilchk (.t 72)),
⟨none, none, .store 1 (.t 78) (.t 77)⟩] (some [0, 1, 2, 3, 4, 5, 6, 7, 8, 9, 12, 13, 14, 15, 16, 17, 18, 19, 20, 21, 22, 23, 24, 25, 26, 27, 28, 29, 30, 31, 32, 33, 34, 35, 36, 37, 38, 39, 40, 41, 42, 43, 44, 45, 46, 47, 48, 49, 50, 51, 52, 53, 54, 55, 56, 57, 72, 73, 74, 75, 76, 77, 78, 89, 90, 91, 92, 93, 94, 95, 96, 97, 98, 99, 100, 101, 102, 103, 104, 105, 106, 107, 108, 109, 110, 111, 112, 113, 115, 116]))
(.exit 5))
.skip))
(.seq (.seq (.ops [lA 79 7 2,
mvO 80 9,
lO 81 1 8,
lA 82 2 3,
opO 83 (.call 247 [(.t 79), (.t 80), (.t 81), (.t 82)]),
opO 84 (.un .not (.t 83))] none)
(.cond (.t 84)
(.exit 5)
.skip))
(.seq (.ops [lA 85 7 2,
mvO 86 9,
lO 87 1 8,
opO 88 (.call 238 [(.t 85), (.t 86), (.t 87)])] none)
(.block 6 (.range 117 (.t 88) #[89, 90] (r 0).1 (r 0).2))))))))
(.ops [pO 114 57 1,
mvO 57 114] none))))))))
(.ops [mvO 51 9,
pO 52 51 1,
mvO 9 52] none))))))))
(.seq (.seq (.ops [lO 115 1 8] (some [0, 1, 2, 3, 4, 5, 6, 7, 12, 13, 14, 15, 16, 17, 18, 19, 20, 21, 22, 23, 24, 25, 26, 27, 28, 29, 30, 31, 32, 51, 52, 72, 73, 74, 75, 76, 77, 78, 89, 90, 91, 92, 93, 94, 95, 96, 97, 98, 99, 100, 101, 102, 103, 104, 105, 106, 107, 108, 109, 110, 111, 112, 113, 114, 115, 116]))
(.ops [opO 8 (.alloc [(.int .i64 0)]),
⟨none, none, .store 1 (.t 8) (.t 115)⟩] none))
(.ops [lO 35 1 8,
opO 36 (.ibin .sub .i64 (.t 35) (ci 1)),
⟨none, none, .store 1 (.t 8) (.t 36)⟩] none)))))))
(.seq (.ops [lO 116 1 7,
mvO 4 116] (some [4]))
.ret)))))⟩
def ir229a0 : ICode :=
(.seq (.ops [mvO 12 89] none)
(.ops [mvO 13 90] none))
def ir229b0 : ICode :=
(.block 7 (.draw (.rd 0 (lO 91 1 11)
(.rd 1 (lO 92 1 11)
(.rd 2 (opO 93 (.nilchk (.t 92)))
(.rd 3 (lO 94 1 93)
(.rd 4 (lA 95 7 2)
(.rd 5 (lO 96 1 8)
(.rd 6 (lO 97 1 10)
(.rd 7 (mvO 98 12)
(.rd 9 (lO 100 1 7)
(.rd 10 (lO 101 1 8)
(.rd 11 (pO 102 101 1)
(.rd 12 (iO 103 1 100 102)
(.rd 13 (lO 104 1 103)
(.rd 14 (lA 105 7 2)
(.rd 15 (mvO 106 13)
(.rd 16 (mvO 107 12)
(.wr 8 (opO 99 (.call 239 [(.t 95), (.t 96), (.t 97), (.t 98)])) [4, 5, 6, 7]
(.wr 17 (opO 108 (.call 234 [(.t 105), (.t 106), (.t 107)])) [14, 15, 16, 8]
(.rd 18 (iO 109 1 104 108)
(.rd 19 (lO 110 1 109)
(.rd 20 (opO 111 (.ibin .add .i64 (.t 99) (.t 110)))
(.rd 21 (opO 112 (.minmax true (.t 94) [(.t 111)]))
(.rd 22 (opO 113 (.nilchk (.t 91)))
(.wr 23 ⟨none, none, .store 1 (.t 113) (.t 112)⟩ [22, 21, 17, 0, 1, 2, 3, 4, 5, 6, 7, 8, 9, 10, 11, 12, 13, 14, 15, 16, 17, 18, 19, 20, 21]
.fin .no)))))) .no) .no))))))))))))))))) (some [])))
def ir230 : IFn := ⟨42, [.t 4],
(.seq (.ops [opO 4 (.mov (.c (.slice none 0 0)))] (some [0, 1]))
(.seq (.ops [mvO 8 0,
mvO 9 1,
opO 10 (.call 70 [(.t 8), (.t 9)]),
mvO 5 10] (some [0, 1, 5]))
(.seq (.seq (.ops [mvO 11 5,
opO 12 (.ibin .eql .i64 (.t 11) (ci (-1)))] (some [0, 1, 5, 12]))
(.cond (.t 12)
(.seq (.ops [mvO 13 0,
mvO 4 13] (some [4]))
.ret)
.skip))
(.seq (.seq (.ops [mvO 14 5,
pO 15 14 1,
mvO 6 15] (some [0, 1, 5, 6]))
(.block 0 (.loop (.seq (.seq (.ops [mvO 16 6,
mvO 17 0,
nO 18 17,
sO 19 16 18] (some [0, 1, 5, 6, 19]))
(.cond (.t 19)
.skip
(.exit 0)))
(.seq (.block 1 (.seq (.ops [mvO 22 0,
mvO 23 6,
iO 24 1 22 23,
lO 25 1 24,
mvO 7 25] (some [0, 1, 5, 6, 7]))
(.seq (.ops [mvO 26 1,
mvO 27 7,
opO 28 (.callv (.t 26) [(.t 27)]),
opO 29 (.un .not (.t 28))] (some [0, 1, 5, 6, 7, 29]))
(.cond (.t 29)
(.seq (.ops [mvO 30 0,
mvO 31 5,
mvO 32 7,
iO 33 1 30 31,
⟨none, none, .store 1 (.t 33) (.t 32)⟩] (some [0, 1, 5, 6]))
(.ops [mvO 34 5,
pO 35 34 1,
mvO 5 35] (some [0, 1, 5, 6])))
.skip))))
(.ops [mvO 20 6,
pO 21 20 1,
mvO 6 21] (some [0, 1, 5, 6])))))))
(.seq (.ops [mvO 36 0,
mvO 37 5,
opO 38 (.sliceV 1 (.t 36) (some (.t 37)) none none),
⟨none, none, .clr 1 [(.int .i64 0)] (.t 38)⟩] (some [0, 5]))
(.seq (.ops [mvO 39 0,
mvO 40 5,
opO 41 (.sliceV 1 (.t 39) none (some (.t 40)) none),
mvO 4 41] (some [4]))
.ret))))))⟩
def ir231 (r : Nat → Code × Code) : IFn := ⟨43, [.t 4],
(.seq (.ops [opO 2 (.box (.t 0)),
opO 4 (.mov (.c (.slice none 0 0)))] none)
(.seq (.ops [fO 12 3 2,
fO 13 0 12,
lO 14 1 13,
opO 15 (.bslice 1 1 [(.int .i64 0)] [(0, 1, (.t 14))]),
mvO 5 15] none)
(.seq (.seq (.ops [mvO 16 1,
mO 17 0] none)
(.block 0 (.loop (.seq (.ops [sO 18 17 16] none)
(.seq (.cond (.t 18)
.skip
(.exit 0))
(.seq (.block 1 (.seq (.ops [mvO 19 17,
mvO 6 19] none)
(.seq (.ops [opO 7 (.alloc [(.slice none 0 0)])] none)
(.seq (.seq (.ops [mvO 20 5,
nO 21 20,
mO 22 0] none)
(.block 2 (.loop (.seq (.ops [sO 23 22 21] none)
(.seq (.cond (.t 23)
.skip
(.exit 2))
(.seq (.block 3 (.seq (.ops [iO 24 1 20 22,
lO 25 1 24,
mvO 9 25] none)
(.seq (.ops [lA 26 7 2,
mvO 27 9,
mvO 28 6,
opO 29 (.call 238 [(.t 26), (.t 27), (.t 28)])] none)
(.block 4 (.range 43 (.t 29) #[30, 31] (r 0).1 (r 0).2)))))
(.ops [pO 36 22 1,
mvO 22 36] none)))))))
(.seq (.ops [lO 37 1 7,
cO 38 103 37] none)
(.ops [lO 39 1 7,
cO 40 248 39,
mvO 5 40] (some [0, 1, 2, 3, 4, 5, 8, 10, 11, 12, 13, 14, 15, 16, 17, 30, 31, 32, 33, 34, 35, 36, 37, 38, 39, 40, 42])))))))
(.ops [pO 41 17 1,
mvO 17 41] none)))))))
(.seq (.ops [mvO 42 5,
mvO 4 42] (some [4]))
.ret))))⟩
def ir231a0 : ICode :=
(.ops [mvO 11 31] none)
def ir231b0 : ICode :=
(.block 5 (.ops [lO 32 1 7,
mvO 33 11,
opO 34 (.bslice 1 1 [(.int .i64 0)] [(0, 1, (.t 33))]),
opO 35 (.append 1 8 (.t 32) (.t 34)),
⟨none, none, .store 1 (.t 7) (.t 35)⟩] (some [])))
def ir232 : IFn := ⟨17, [.t 5],
(.seq (.ops [bO 5 false] (some [0, 1, 2, 3]))
(.seq (.draw (.rd 0 (lO 6 1 1)
(.rd 1 (lO 7 1 2)
(.rd 2 (iO 8 1 6 7)
(.rd 3 (lO 9 1 8)
(.rd 4 (lA 10 7 3)
(.rd 5 (mvO 11 0)
(.wr 6 (opO 12 (.call 234 [(.t 10), (.t 11), (ci 0)])) [4, 5]
(.rd 7 (iO 13 1 9 12)
(.rd 8 (lO 14 1 13)
(.wr 9 (cO 15 233 14) [8, 6]
(.rd 10 (opO 16 (.un .not (.t 15)))
(.rd 11 (mvO 5 16)
.fin)) .no))) .no))))))) (some [5]))
.ret))⟩
def ir233 : IFn := ⟨5, [.t 2],
(.seq (.ops [bO 2 false] (some [0]))
(.seq (.ops [mvO 3 0,
opO 4 (.ibin .gtr .i64 (.t 3) (ci (-50000000000))),
mvO 2 4] (some [2]))
.ret))⟩
def ir234 : IFn := ⟨19, [.t 6],
(.seq (.ops [opO 3 (.box (.t 0)),
mO 6 0] (some [1, 2, 3]))
(.seq (.ops [mvO 7 1,
fO 8 0 3,
fO 9 0 8,
lO 10 1 9,
opO 11 (.ibin .sub .i64 (.t 7) (.t 10)),
fO 12 0 3,
fO 13 2 12,
lO 14 1 13,
nO 15 14,
opO 16 (.ibin .mul .i64 (.t 11) (.t 15)),
mvO 17 2,
opO 18 (.ibin .add .i64 (.t 16) (.t 17)),
mvO 6 18] (some [6]))
.ret))⟩
def ir235 : IFn := ⟨10, [.t 4],
(.seq (.ops [bO 4 false] (some [0, 1]))
(.seq (.ops [mvO 5 0,
mvO 6 1,
opO 7 (.un .neg (.t 6)),
mvO 8 1,
opO 9 (.call 216 [(.t 5), (.t 7), (.t 8)]),
mvO 4 9] (some [4]))
.ret))⟩
def ir236 : IFn := ⟨6, [.t 2],
(.seq (.ops [bO 2 false] (some [0]))
(.seq (.ops [mvO 3 0,
cO 4 215 3,
opO 5 (.un .not (.t 4)),
mvO 2 5] (some [2]))
.ret))⟩
def ir237 : IFn := ⟨87, [.t 4, .t 5],
(.seq (.ops [opO 2 (.box (.t 0)),
opO 3 (.box (.t 1)),
mO 4 0,
mO 5 0] (some [2, 3]))
(.seq (.ops [lA 12 3 2,
cO 13 249 12,
mvO 11 13,
xO 14 0 11,
xO 15 1 11,
mvO 6 14,
mvO 7 15] (some [2, 3, 7]))
(.seq (.draw (.rd 0 (mvO 16 7)
(.rd 1 (fO 17 0 3)
(.rd 2 (lO 18 1 17)
(.rd 3 (fO 19 0 2)
(.rd 4 (lO 20 1 19)
(.rd 5 (fO 21 1 2)
(.rd 6 (lO 22 1 21)
(.rd 9 (fO 25 1 3)
(.rd 10 (lO 26 1 25)
(.rd 11 (fO 27 2 2)
(.rd 12 (lO 28 1 27)
(.rd 13 (nO 29 28)
(.rd 14 (opO 30 (.ibin .sub .i64 (.t 29) (ci 1)))
(.rd 17 (fO 33 2 3)
(.rd 18 (lO 34 1 33)
(.rd 21 (fO 37 3 3)
(.rd 22 (lO 38 1 37)
(.rd 23 (nO 39 38)
(.rd 24 (opO 40 (.ibin .gtr .i64 (.t 39) (ci 0)))
(.rd 26 (fO 42 3 3)
(.rd 27 (lO 43 1 42)
(.rd 28 (nO 44 43)
(.rd 29 (opO 45 (.ibin .leq .i64 (.t 44) (ci 10)))
(.wr 7 (opO 23 (.call 216 [(.t 18), (.t 20), (.t 22)])) [2, 4, 6]
(.wr 8 (opO 24 (.call 214 [(.t 23), (ci 2)])) [7, 7]
(.wr 15 (opO 31 (.call 216 [(.t 26), (ci 0), (.t 30)])) [10, 14, 8]
(.wr 16 (opO 32 (.call 214 [(.t 31), (ci 6)])) [15, 15]
(.wr 19 (cO 35 250 34) [18, 16]
(.wr 20 (opO 36 (.call 214 [(.t 35), (ci 2)])) [19, 19]
(.wr 25 (opO 41 (.call 214 [(.t 40), (ci 10)])) [24, 20]
(.wr 30 (opO 46 (.call 214 [(.t 45), (ci 8)])) [29, 25]
(.wr 31 (opO 47 (.bslice 6 1 [(.int .i64 0)] [(0, 1, (.t 16)), (1, 1, (.t 24)), (2, 1, (.t 32)), (3, 1, (.t 36)), (4, 1, (.t 41)), (5, 1, (.t 46))])) [0, 8, 16, 20, 25, 30]
(.wr 32 (cO 48 213 47) [31, 30]
(.wr 33 (mvO 7 48) [32, 32, 0, 1, 2, 3, 4, 5, 6, 7, 8, 9, 10, 11, 12, 13, 14, 15, 16, 17, 18, 19, 20, 21, 22, 23, 24, 25, 26, 27, 28, 29, 30, 31, 32]
.fin .no) .no) .no) .no) .no) .no) .no) .no) .no) .no) .no)))))))))))))))))))))))) (some [3, 7]))
(.seq (.seq (.ops [mvO 49 7,
opO 50 (.ibin .neq .i64 (.t 49) (ci 0))] (some [3, 7, 50]))
(.cond (.t 50)
(.seq (.ops [mvO 51 7,
mO 4 0,
mvO 5 51] (some [4, 5]))
.ret)
.skip))
(.seq (.seq (.ops [fO 52 3 3,
lO 53 1 52,
nO 54 53,
mO 55 0] (some [53, 54, 55]))
(.block 0 (.loop (.seq (.ops [sO 56 55 54] none)
(.seq (.cond (.t 56)
.skip
(.exit 0))
(.seq (.block 1 (.seq (.ops [mvO 57 55,
iO 58 3 53 55,
lA 59 3 58,
opO 9 (.alloc [(.int .i64 0), (.int .i64 0), (.int .i64 0)]),
mvO 8 57,
⟨none, none, .store 3 (.t 9) (.t 59)⟩] (some [8, 9, 53, 54, 55]))
(.seq (.draw (.rd 0 (fO 60 0 9)
(.rd 1 (lO 61 1 60)
(.rd 14 (fO 74 1 9)
(.rd 15 (lO 75 1 74)
(.rd 16 (fO 76 0 9)
(.rd 17 (lO 77 1 76)
(.rd 18 (opO 78 (.ibin .leq .i64 (.t 75) (.t 77)))
(.wr 2 (cO 62 250 61) [1]
(.rd 3 (mvO 63 62)
(.rd 4 ⟨(some 64), (some (63, true)), .faddr 1 (.t 9)⟩
(.rd 5 ⟨(some 65), (some (63, true)), .load 1 false (.t 64)⟩
(.wr 6 ⟨(some 66), (some (63, true)), .call 250 [(.t 65)]⟩ [5, 3, 3]
(.rd 7 (opO 67 (.pick (.t 63) (.t 66) (.c (.bool false))))
(.rd 8 (mvO 68 67)
(.rd 9 ⟨(some 69), (some (68, true)), .faddr 2 (.t 9)⟩
(.rd 10 ⟨(some 70), (some (68, true)), .load 1 false (.t 69)⟩
(.wr 11 ⟨(some 71), (some (68, true)), .call 250 [(.t 70)]⟩ [10, 8, 8]
(.rd 12 (opO 72 (.pick (.t 68) (.t 71) (.c (.bool false))))
(.wr 13 (opO 73 (.call 214 [(.t 72), (ci 2)])) [12, 11]
(.wr 19 (opO 79 (.call 214 [(.t 78), (ci 9)])) [18, 13]
(.wr 20 (opO 80 (.bslice 2 1 [(.int .i64 0)] [(0, 1, (.t 73)), (1, 1, (.t 79))])) [13, 19]
(.wr 21 (cO 81 213 80) [20, 19]
(.rd 22 (mvO 10 81)
.fin) .no) .no) .no) .no)) .no))))) .no)))) .no)))))))) (some [8, 10, 53, 54, 55]))
(.seq (.ops [mvO 82 10,
opO 83 (.ibin .neq .i64 (.t 82) (ci 0))] (some [8, 10, 53, 54, 55, 83]))
(.cond (.t 83)
(.seq (.ops [mvO 84 8,
mvO 85 10,
mvO 4 84,
mvO 5 85] (some [4, 5]))
.ret)
.skip)))))
(.ops [pO 86 55 1,
mvO 55 86] (some [53, 54, 55]))))))))
(.seq (.ops [mO 4 0,
mO 5 0] none)
.ret))))))⟩
def ir238 : IFn := ⟨8, [.t 6],
(.seq (.ops [opO 3 (.box (.t 0)),
opO 4 (.box (.t 1)),
opO 5 (.box (.t 2)),
opO 6 (.mov (.c .nilFunc))] (some [3, 4, 5]))
(.seq (.ops [opO 7 (.mkfunc 251 [] [(.t 3), (.t 4), (.t 5)]),
mvO 6 7] (some [6]))
.ret))⟩
def ir239 : IFn := ⟨44, [.t 8],
(.seq (.ops [opO 4 (.box (.t 0)),
mO 8 0] (some [1, 2, 3, 4]))
(.seq (.draw (.rd 0 (fO 13 0 4)
(.rd 1 (fO 14 2 13)
(.rd 2 (lO 15 1 14)
(.rd 3 (mvO 16 3)
(.rd 4 (iO 17 4 15 16)
(.rd 5 (lA 18 4 17)
(.rd 6 (fO 19 3 4)
(.rd 7 (fO 20 3 19)
(.rd 8 (lO 21 1 20)
(.rd 9 (mvO 22 1)
(.rd 10 (iO 23 3 21 22)
(.rd 11 (lA 24 3 23)
(.wr 12 (opO 9 (.alloc [(.string ⟨#[]⟩), (.int .i64 0), (.int .i64 0), (.int .i64 0)])) []
(.wr 13 (opO 10 (.alloc [(.int .i64 0), (.int .i64 0), (.int .i64 0)])) []
(.wr 14 ⟨none, none, .store 4 (.t 9) (.t 18)⟩ [12, 5, 0, 1, 2, 3, 4, 5, 12, 13]
(.wr 15 ⟨none, none, .store 3 (.t 10) (.t 24)⟩ [13, 11, 14, 0, 1, 2, 3, 4, 5, 6, 7, 8, 9, 10, 11, 12, 13, 14]
.fin .no) .no) .no)
(.wr 13 (opO 10 (.alloc [(.int .i64 0), (.int .i64 0), (.int .i64 0)])) []
(.wr 12 (opO 9 (.alloc [(.string ⟨#[]⟩), (.int .i64 0), (.int .i64 0), (.int .i64 0)])) []
(.wr 14 ⟨none, none, .store 4 (.t 9) (.t 18)⟩ [12, 5, 0, 1, 2, 3, 4, 5, 12, 13]
(.wr 15 ⟨none, none, .store 3 (.t 10) (.t 24)⟩ [13, 11, 14, 0, 1, 2, 3, 4, 5, 6, 7, 8, 9, 10, 11, 12, 13, 14]
.fin .no) .no) .no) .no)))))))))))))) (some [2, 3, 9, 10]))
(.seq (.ops [fO 25 0 10,
lO 26 1 25,
mvO 11 26] (some [2, 3, 9, 10, 11]))
(.seq (.seq (.ops [fO 27 2 9,
lO 28 1 27,
opO 29 (.ibin .gtr .i64 (.t 28) (ci 0))] (some [2, 3, 9, 10, 11, 29]))
(.cond (.t 29)
(.ops [fO 30 1 10,
lO 31 1 30,
mvO 11 31] (some [2, 3, 9, 11]))
.skip))
(.seq (.ops [fO 32 2 9,
lO 33 1 32,
mvO 34 11,
opO 35 (.ibin .mul .i64 (.t 33) (.t 34)),
mvO 12 35] (some [2, 3, 9, 12]))
(.seq (.seq (.ops [mvO 36 2,
mvO 37 3,
opO 38 (.ibin .neq .i64 (.t 36) (.t 37))] (some [9, 12, 38]))
(.cond (.t 38)
(.ops [mvO 39 12,
fO 40 3 9,
lO 41 1 40,
opO 42 (.ibin .sub .i64 (.t 39) (.t 41)),
mvO 12 42] (some [12]))
.skip))
(.seq (.ops [mvO 43 12,
mvO 8 43] (some [8]))
.ret)))))))⟩
def ir240 : IFn := ⟨8, [.t 3],
(.seq (.ops [bO 3 false] (some [0, 1]))
(.seq (.ops [lA 4 7 1,
mvO 5 0,
opO 6 (.call 222 [(.t 4), (.t 5)]),
opO 7 (.un .not (.t 6)),
mvO 3 7] (some [3]))
.ret))⟩
def ir241 : IFn := ⟨39, [.t 4, .t 5],
(.seq (.ops [opO 2 (.box (.t 0)),
opO 4 (.mov (.c (.slice none 0 0))),
bO 5 false] (some [1, 2]))
(.seq (.ops [fO 10 3 2,
fO 11 0 10,
lO 12 1 11,
opO 13 (.bslice 1 1 [(.int .i64 0)] [(0, 1, (.t 12))]),
mvO 6 13] (some [1, 2, 6]))
(.seq (.seq (.ops [mvO 14 1,
nO 15 14,
mO 16 0] (some [2, 6, 14, 15, 16]))
(.block 0 (.loop (.seq (.ops [sO 17 16 15] none)
(.seq (.cond (.t 17)
.skip
(.exit 0))
(.seq (.block 1 (.seq (.ops [mvO 18 16,
iO 19 1 14 16,
lO 20 1 19,
mvO 7 18,
mvO 8 20] (some [2, 6, 7, 8, 14, 15, 16]))
(.seq (.draw (.rd 0 (lA 21 7 2)
(.rd 1 (mvO 22 6)
(.rd 2 (mvO 23 7)
(.rd 3 (iO 24 1 22 23)
(.rd 4 (lO 25 1 24)
(.rd 5 (mvO 26 7)
(.rd 6 (mvO 27 8)
(.wr 7 (opO 28 (.call 242 [(.t 21), (.t 25), (.t 26), (.t 27)])) [0, 4, 5, 6]
(.rd 8 (mvO 9 28)
.fin) .no)))))))) (some [2, 6, 9, 14, 15, 16]))
(.seq (.seq (.ops [lA 29 7 2,
mvO 30 9,
opO 31 (.call 243 [(.t 29), (.t 30)]),
opO 32 (.un .not (.t 31))] (some [2, 6, 9, 14, 15, 16, 32]))
(.cond (.t 32)
(.seq (.ops [opO 4 (.mov (.c (.slice none 0 0))),
bO 5 false] none)
.ret)
.skip))
(.ops [mvO 33 6,
mvO 34 9,
opO 35 (.bslice 1 1 [(.int .i64 0)] [(0, 1, (.t 34))]),
opO 36 (.append 1 8 (.t 33) (.t 35)),
mvO 6 36] (some [2, 6, 14, 15, 16]))))))
(.ops [pO 37 16 1,
mvO 16 37] (some [2, 6, 14, 15, 16]))))))))
(.seq (.ops [mvO 38 6,
mvO 4 38,
bO 5 true] (some [4, 5]))
.ret))))⟩
def ir242 : IFn := ⟨26, [.t 8],
(.seq (.ops [opO 4 (.box (.t 0)),
mO 8 0] (some [1, 2, 3, 4]))
(.seq (.draw (.rd 0 (mvO 9 1)
(.rd 1 (fO 10 3 4)
(.rd 2 (fO 11 3 10)
(.rd 3 (lO 12 1 11)
(.rd 4 (mvO 13 2)
(.rd 5 (iO 14 3 12 13)
(.rd 6 (fO 15 2 14)
(.rd 7 (lO 16 1 15)
(.rd 8 (opO 17 (.ibin .add .i64 (.t 9) (.t 16)))
(.rd 9 (fO 18 0 4)
(.rd 10 (fO 19 2 18)
(.rd 11 (lO 20 1 19)
(.rd 12 (mvO 21 3)
(.rd 13 (iO 22 4 20 21)
(.rd 14 (fO 23 1 22)
(.rd 15 (lO 24 1 23)
(.rd 16 (opO 25 (.ibin .add .i64 (.t 17) (.t 24)))
(.rd 17 (mvO 8 25)
.fin)))))))))))))))))) (some [8]))
.ret))⟩
def ir243 : IFn := ⟨13, [.t 4],
(.seq (.ops [opO 2 (.box (.t 0)),
bO 4 false] (some [1, 2]))
(.seq (.ops [mvO 5 1,
fO 6 0 2,
fO 7 0 6,
lO 8 1 7,
fO 9 0 2,
fO 10 1 9,
lO 11 1 10,
opO 12 (.call 216 [(.t 5), (.t 8), (.t 11)]),
mvO 4 12] (some [4]))
.ret))⟩
def ir244 : IFn := ⟨59, [.t 2, .t 3],
(.seq (.ops [mO 2 0,
mO 3 0] (some [0]))
(.seq (.seq (.ops [mvO 10 0,
nO 11 10,
opO 12 (.ibin .gtr .i64 (.t 11) (ci 0)),
opO 13 (.call 214 [(.t 12), (ci 10)]),
mvO 14 0,
nO 15 14,
opO 16 (.ibin .leq .i64 (.t 15) (ci 8)),
opO 17 (.call 214 [(.t 16), (ci 8)]),
opO 18 (.bslice 2 1 [(.int .i64 0)] [(0, 1, (.t 13)), (1, 1, (.t 17))]),
cO 19 213 18,
mvO 4 19] (some [0, 4]))
(.seq (.ops [mvO 20 4,
opO 21 (.ibin .neq .i64 (.t 20) (ci 0))] (some [0, 4, 21]))
(.cond (.t 21)
(.seq (.ops [mvO 22 4,
mO 2 0,
mvO 3 22] (some [2, 3]))
.ret)
.skip)))
(.seq (.seq (.ops [mvO 23 0,
nO 24 23,
mO 25 0] none)
(.block 0 (.loop (.seq (.ops [sO 26 25 24] none)
(.seq (.cond (.t 26)
.skip
(.exit 0))
(.seq (.block 1 (.seq (.ops [mvO 27 25,
iO 28 3 23 25,
lA 29 3 28,
opO 6 (.alloc [(.string ⟨#[]⟩), (.int .i64 0), (.int .i64 0)]),
mvO 5 27,
⟨none, none, .store 3 (.t 6) (.t 29)⟩] (some [0, 5, 6, 23, 24, 25]))
(.seq (.ops [mvO 30 0,
mvO 31 5,
opO 32 (.sliceV 3 (.t 30) none (some (.t 31)) none),
opO 33 (.mkfunc 253 [] [(.t 6)]),
opO 34 (.call 252 [(.t 32), (.t 33)]),
mvO 7 34] (some [0, 5, 6, 7, 23, 24, 25]))
(.seq (.ops [fO 35 1 6,
lO 36 1 35,
opO 37 (.call 216 [(.t 36), (ci 0), (ci 100000)]),
mvO 38 37,
⟨(some 39), (some (38, true)), .faddr 2 (.t 6)⟩,
⟨(some 40), (some (38, true)), .load 1 false (.t 39)⟩,
⟨(some 41), (some (38, true)), .call 216 [(.t 40), (ci 1), (ci 100000)]⟩,
opO 42 (.pick (.t 38) (.t 41) (.c (.bool false))),
mvO 8 42] (some [0, 5, 6, 7, 8, 23, 24, 25]))
(.seq (.ops [fO 43 0 6,
lO 44 1 43,
cO 45 254 44,
opO 46 (.call 214 [(.t 45), (ci 4)]),
mvO 47 7,
opO 48 (.un .not (.t 47)),
opO 49 (.call 214 [(.t 48), (ci 5)]),
mvO 50 8,
opO 51 (.call 214 [(.t 50), (ci 2)]),
opO 52 (.bslice 3 1 [(.int .i64 0)] [(0, 1, (.t 46)), (1, 1, (.t 49)), (2, 1, (.t 51))]),
cO 53 213 52,
mvO 9 53] (some [0, 5, 9, 23, 24, 25]))
(.seq (.ops [mvO 54 9,
opO 55 (.ibin .neq .i64 (.t 54) (ci 0))] (some [0, 5, 9, 23, 24, 25, 55]))
(.cond (.t 55)
(.seq (.ops [mvO 56 5,
mvO 57 9,
mvO 2 56,
mvO 3 57] (some [2, 3]))
.ret)
.skip)))))))
(.ops [pO 58 25 1,
mvO 25 58] (some [0, 23, 24, 25]))))))))
(.seq (.ops [mO 2 0,
mO 3 0] none)
.ret))))⟩
def ir245 : IFn := ⟨17, [.t 5],
(.seq (.ops [mO 5 0] (some [0, 1, 2]))
(.seq (.draw (.rd 0 (lO 6 1 2)
(.rd 1 (mvO 7 0)
(.rd 2 (iO 8 3 6 7)
(.rd 3 (fO 9 1 8)
(.rd 4 (lO 10 1 9)
(.rd 5 (lO 11 1 2)
(.rd 6 (mvO 12 1)
(.rd 7 (iO 13 3 11 12)
(.rd 8 (fO 14 1 13)
(.rd 9 (lO 15 1 14)
(.rd 10 (opO 16 (.ibin .sub .i64 (.t 10) (.t 15)))
(.rd 11 (mvO 5 16)
.fin)))))))))))) (some [5]))
.ret))⟩
def ir246 : IFn := ⟨48, [.t 4],
(.seq (.ops [opO 4 (.mov (.c (.slice none 0 0)))] (some [0, 1]))
(.seq (.seq (.ops [mvO 9 1,
opO 10 (.ibin .lss .i64 (.t 9) (ci 0))] (some [0, 1, 10]))
(.cond (.t 10)
(.ops [opO 11 (.nope),
⟨none, none, .nope⟩] (some [0, 1]))
.skip))
(.seq (.ops [mvO 13 0,
nO 14 13,
opO 15 (.conv .u64 (.t 14)),
mvO 16 1,
opO 17 (.conv .u64 (.t 16)),
opO 18 (.call 255 [(.t 15), (.t 17)]),
mvO 12 18,
xO 19 0 12,
xO 20 1 12,
mvO 5 19,
mvO 6 20] (some [0, 5, 6]))
(.seq (.seq (.ops [mvO 21 5,
opO 22 (.ibin .gtr .u64 (.t 21) (.c (.int .u64 0))),
mvO 23 22,
⟨(some 24), (some (23, false)), .mov (.t 6)⟩,
⟨(some 25), (some (23, false)), .ibin .gtr .u64 (.t 24) (.c (.int .u64 9223372036854775807))⟩,
opO 26 (.pick (.t 23) (.c (.bool true)) (.t 25))] (some [0, 6, 26]))
(.cond (.t 26)
(.ops [opO 27 (.nope),
⟨none, none, .nope⟩] (some [0, 6]))
.skip))
(.seq (.ops [mvO 28 6,
opO 29 (.conv .i64 (.t 28)),
opO 30 (.mslice 1 8 [(.int .i64 0)] (.t 29) (.t 29)),
mvO 7 30] (some [0, 7]))
(.seq (.ops [mvO 31 7,
mvO 32 0,
opO 33 (.copy 1 (.t 31) (.t 32)),
mvO 8 33] (some [7, 8]))
(.seq (.block 0 (.loop (.seq (.seq (.ops [mvO 34 8,
mvO 35 7,
nO 36 35,
sO 37 34 36] (some [7, 8, 37]))
(.cond (.t 37)
.skip
(.exit 0)))
(.block 1 (.draw (.rd 0 (mvO 38 8)
(.rd 1 (mvO 39 7)
(.rd 2 (mvO 40 8)
(.rd 3 (opO 41 (.sliceV 1 (.t 39) (some (.t 40)) none none))
(.rd 4 (mvO 42 7)
(.rd 5 (mvO 43 8)
(.rd 6 (opO 44 (.sliceV 1 (.t 42) none (some (.t 43)) none))
(.wr 7 (opO 45 (.copy 1 (.t 41) (.t 44))) [3, 6]
(.rd 8 (opO 46 (.ibin .add .i64 (.t 38) (.t 45)))
(.wr 9 (mvO 8 46) [8, 7, 0, 1, 2, 3, 4, 5, 6, 7, 8]
.fin .no)) .no)))))))) (some [7, 8]))))))
(.seq (.ops [mvO 47 7,
mvO 4 47] (some [4]))
.ret))))))))⟩
def ir247 : IFn := ⟨30, [.t 8],
(.seq (.ops [opO 4 (.box (.t 0)),
opO 7 (.box (.t 3)),
bO 8 false] (some [1, 2, 4, 7]))
(.seq (.draw (.rd 0 (fO 9 0 7)
(.rd 1 (lO 10 1 9)
(.rd 2 (opO 11 (.ibin .lss .i64 (.t 10) (ci 0)))
(.rd 3 (mvO 12 11)
(.rd 4 ⟨(some 13), (some (12, false)), .load 7 true (.t 4)⟩
(.rd 5 ⟨(some 14), (some (12, false)), .mov (.t 1)⟩
(.rd 6 ⟨(some 15), (some (12, false)), .mov (.t 2)⟩
(.rd 7 ⟨(some 16), (some (12, false)), .faddr 0 (.t 7)⟩
(.rd 8 ⟨(some 17), (some (12, false)), .load 1 false (.t 16)⟩
(.rd 10 ⟨(some 19), (some (12, false)), .faddr 1 (.t 7)⟩
(.rd 11 ⟨(some 20), (some (12, false)), .load 1 false (.t 19)⟩
(.rd 12 ⟨(some 21), (some (12, false)), .faddr 3 (.t 4)⟩
(.rd 13 ⟨(some 22), (some (12, false)), .faddr 3 (.t 21)⟩
(.rd 14 ⟨(some 23), (some (12, false)), .load 1 false (.t 22)⟩
(.rd 15 ⟨(some 24), (some (12, false)), .lenV (.t 23)⟩
(.rd 16 ⟨(some 25), (some (12, false)), .mov (.t 2)⟩
(.rd 17 ⟨(some 26), (some (12, false)), .ibin .sub .i64 (.t 24) (.t 25)⟩
(.rd 18 ⟨(some 27), (some (12, false)), .minmax false (.t 20) [(.t 26)]⟩
(.wr 9 ⟨(some 18), (some (12, false)), .call 223 [(.t 13), (.t 14), (.t 15), (.t 17)]⟩ [4, 5, 6, 8, 3, 3]
(.rd 19 ⟨(some 28), (some (12, false)), .ibin .geq .i64 (.t 18) (.t 27)⟩
(.rd 20 (opO 29 (.pick (.t 12) (.c (.bool true)) (.t 28)))
(.rd 21 (mvO 8 29)
.fin))) .no))))))))))))))))))) (some [8]))
.ret))⟩
def ir248 : IFn := ⟨61, [.t 2],
(.seq (.ops [opO 2 (.mov (.c (.slice none 0 0)))] (some [0]))
(.seq (.seq (.ops [mvO 6 0,
nO 7 6,
opO 8 (.ibin .lss .i64 (.t 7) (ci 2))] (some [0, 8]))
(.cond (.t 8)
(.seq (.ops [mvO 9 0,
mvO 2 9] (some [2]))
.ret)
.skip))
(.seq (.seq (.ops [mO 3 1] none)
(.block 0 (.loop (.seq (.seq (.ops [mvO 10 3,
mvO 11 0,
nO 12 11,
sO 13 10 12] (some [0, 3, 13]))
(.cond (.t 13)
.skip
(.exit 0)))
(.seq (.block 1 (.seq (.draw (.rd 0 (mvO 16 0)
(.rd 1 (mvO 17 3)
(.rd 2 (iO 18 1 16 17)
(.rd 3 (lO 19 1 18)
(.rd 4 (mvO 20 0)
(.rd 5 (mvO 21 3)
(.rd 6 (opO 22 (.ibin .sub .i64 (.t 21) (ci 1)))
(.rd 7 (iO 23 1 20 22)
(.rd 8 (lO 24 1 23)
(.rd 9 (opO 25 (.ibin .eql .i64 (.t 19) (.t 24)))
.fin)))))))))) (some [0, 3, 25]))
(.cond (.t 25)
(.seq (.ops [mvO 26 0,
mvO 27 3,
opO 28 (.sliceV 1 (.t 26) (some (.t 27)) none none),
mvO 4 28] (some [0, 3, 4]))
(.seq (.seq (.ops [mO 5 1] none)
(.block 2 (.loop (.seq (.seq (.ops [mvO 29 5,
mvO 30 4,
nO 31 30,
sO 32 29 31] (some [0, 3, 4, 5, 32]))
(.cond (.t 32)
.skip
(.exit 2)))
(.seq (.block 3 (.seq (.draw (.rd 0 (mvO 35 4)
(.rd 1 (mvO 36 5)
(.rd 2 (iO 37 1 35 36)
(.rd 3 (lO 38 1 37)
(.rd 4 (mvO 39 4)
(.rd 5 (mvO 40 5)
(.rd 6 (opO 41 (.ibin .sub .i64 (.t 40) (ci 1)))
(.rd 7 (iO 42 1 39 41)
(.rd 8 (lO 43 1 42)
(.rd 9 (opO 44 (.ibin .neq .i64 (.t 38) (.t 43)))
.fin)))))))))) (some [0, 3, 4, 5, 44]))
(.cond (.t 44)
(.seq (.ops [mvO 45 0,
mvO 46 3,
mvO 47 4,
mvO 48 5,
iO 49 1 47 48,
lO 50 1 49,
iO 51 1 45 46,
⟨none, none, .store 1 (.t 51) (.t 50)⟩] (some [0, 3, 4, 5]))
(.ops [mvO 52 3,
pO 53 52 1,
mvO 3 53] (some [0, 3, 4, 5])))
.skip)))
(.ops [mvO 33 5,
pO 34 33 1,
mvO 5 34] (some [0, 3, 4, 5])))))))
(.seq (.ops [mvO 54 0,
mvO 55 3,
opO 56 (.sliceV 1 (.t 54) (some (.t 55)) none none),
⟨none, none, .clr 1 [(.int .i64 0)] (.t 56)⟩] (some [0, 3]))
(.seq (.ops [mvO 57 0,
mvO 58 3,
opO 59 (.sliceV 1 (.t 57) none (some (.t 58)) none),
mvO 2 59] (some [2]))
.ret))))
.skip)))
(.ops [mvO 14 3,
pO 15 14 1,
mvO 3 15] (some [0, 3])))))))
(.seq (.ops [mvO 60 0,
mvO 2 60] (some [2]))
.ret))))⟩
def ir249 : IFn := ⟨93, [.t 2, .t 3],
(.seq (.ops [opO 1 (.box (.t 0)),
mO 2 0,
mO 3 0] (some [1]))
(.seq (.ops [opO 4 (.mov (.f 256))] none)
(.seq (.draw (.rd 0 (mvO 11 4)
(.rd 1 (fO 12 0 1)
(.rd 2 (lO 13 1 12)
(.rd 11 (fO 22 0 1)
(.rd 12 (lO 23 1 22)
(.rd 13 (fO 24 1 1)
(.rd 14 (lO 25 1 24)
(.rd 15 (opO 26 (.ibin .leq .i64 (.t 23) (.t 25)))
(.rd 17 (fO 28 1 1)
(.rd 18 (lO 29 1 28)
(.rd 19 (fO 30 0 1)
(.rd 20 (lO 31 1 30)
(.rd 21 (opO 32 (.ibin .sub .i64 (.t 29) (.t 31)))
(.rd 22 (opO 33 (.ibin .lss .i64 (.t 32) (ci 40)))
(.rd 24 (fO 35 2 1)
(.rd 25 (lO 36 1 35)
(.rd 26 (nO 37 36)
(.rd 27 (opO 38 (.ibin .gtr .i64 (.t 37) (ci 0)))
(.rd 29 (fO 40 2 1)
(.rd 30 (lO 41 1 40)
(.rd 31 (nO 42 41)
(.rd 32 (opO 43 (.ibin .leq .i64 (.t 42) (ci 5)))
(.wr 3 (opO 14 (.callv (.t 11) [(.t 13)])) [0, 2]
(.rd 4 (mvO 15 14)
(.rd 5 ⟨(some 16), (some (15, true)), .mov (.t 4)⟩
(.rd 6 ⟨(some 17), (some (15, true)), .faddr 1 (.t 1)⟩
(.rd 7 ⟨(some 18), (some (15, true)), .load 1 false (.t 17)⟩
(.wr 8 ⟨(some 19), (some (15, true)), .callv (.t 16) [(.t 18)]⟩ [5, 7, 4, 4]
(.rd 9 (opO 20 (.pick (.t 15) (.t 19) (.c (.bool false))))
(.wr 10 (opO 21 (.call 214 [(.t 20), (ci 2)])) [9, 8]
(.wr 16 (opO 27 (.call 214 [(.t 26), (ci 9)])) [15, 10]
(.wr 23 (opO 34 (.call 214 [(.t 33), (ci 8)])) [22, 16]
(.wr 28 (opO 39 (.call 214 [(.t 38), (ci 10)])) [27, 23]
(.wr 33 (opO 44 (.call 214 [(.t 43), (ci 8)])) [32, 28]
(.wr 34 (opO 45 (.bslice 5 1 [(.int .i64 0)] [(0, 1, (.t 21)), (1, 1, (.t 27)), (2, 1, (.t 34)), (3, 1, (.t 39)), (4, 1, (.t 44))])) [10, 16, 23, 28, 33]
(.wr 35 (cO 46 213 45) [34, 33]
(.rd 36 (mvO 5 46)
.fin) .no) .no) .no) .no) .no) .no) .no)) .no))))) .no))))))))))))))))))))))) (some [1, 5]))
(.seq (.seq (.ops [mvO 47 5,
opO 48 (.ibin .neq .i64 (.t 47) (ci 0))] (some [1, 5, 48]))
(.cond (.t 48)
(.seq (.ops [mvO 49 5,
mO 2 0,
mvO 3 49] (some [2, 3]))
.ret)
.skip))
(.seq (.seq (.ops [fO 50 2 1,
lO 51 1 50,
nO 52 51,
mO 53 0] (some [1, 51, 52, 53]))
(.block 0 (.loop (.seq (.ops [sO 54 53 52] none)
(.seq (.cond (.t 54)
.skip
(.exit 0))
(.seq (.block 1 (.seq (.ops [mvO 55 53,
iO 56 4 51 53,
lA 57 4 56,
opO 7 (.alloc [(.string ⟨#[]⟩), (.int .i64 0), (.int .i64 0), (.int .i64 0)]),
mvO 6 55,
⟨none, none, .store 4 (.t 7) (.t 57)⟩] (some [1, 6, 7, 51, 52, 53]))
(.seq (.ops [fO 58 2 1,
lO 59 1 58,
mvO 60 6,
opO 61 (.sliceV 4 (.t 59) none (some (.t 60)) none),
opO 62 (.mkfunc 258 [] [(.t 7)]),
opO 63 (.call 257 [(.t 61), (.t 62)]),
mvO 8 63] (some [1, 6, 7, 8, 51, 52, 53]))
(.seq (.ops [fO 64 1 7,
lO 65 1 64,
opO 66 (.call 235 [(.t 65), (ci 10000)]),
mvO 67 66,
⟨(some 68), (some (67, true)), .faddr 2 (.t 7)⟩,
⟨(some 69), (some (67, true)), .load 1 false (.t 68)⟩,
⟨(some 70), (some (67, true)), .call 235 [(.t 69), (ci 10000)]⟩,
opO 71 (.pick (.t 67) (.t 70) (.c (.bool false))),
mvO 72 71,
⟨(some 73), (some (72, true)), .faddr 3 (.t 7)⟩,
⟨(some 74), (some (72, true)), .load 1 false (.t 73)⟩,
⟨(some 75), (some (72, true)), .call 216 [(.t 74), (ci 0), (ci 10000)]⟩,
opO 76 (.pick (.t 72) (.t 75) (.c (.bool false))),
mvO 9 76] (some [1, 6, 7, 8, 9, 51, 52, 53]))
(.seq (.ops [fO 77 0 7,
lO 78 1 77,
cO 79 254 78,
opO 80 (.call 214 [(.t 79), (ci 4)]),
mvO 81 8,
opO 82 (.un .not (.t 81)),
opO 83 (.call 214 [(.t 82), (ci 5)]),
mvO 84 9,
opO 85 (.call 214 [(.t 84), (ci 2)]),
opO 86 (.bslice 3 1 [(.int .i64 0)] [(0, 1, (.t 80)), (1, 1, (.t 83)), (2, 1, (.t 85))]),
cO 87 213 86,
mvO 10 87] (some [1, 6, 10, 51, 52, 53]))
(.seq (.ops [mvO 88 10,
opO 89 (.ibin .neq .i64 (.t 88) (ci 0))] (some [1, 6, 10, 51, 52, 53, 89]))
(.cond (.t 89)
(.seq (.ops [mvO 90 6,
mvO 91 10,
mvO 2 90,
mvO 3 91] (some [2, 3]))
.ret)
.skip)))))))
(.ops [pO 92 53 1,
mvO 53 92] (some [1, 51, 52, 53]))))))))
(.seq (.ops [mO 2 0,
mO 3 0] none)
.ret))))))⟩
def ir250 : IFn := ⟨5, [.t 2],
(.seq (.ops [bO 2 false] (some [0]))
(.seq (.ops [mvO 3 0,
opO 4 (.call 235 [(.t 3), (ci 10000)]),
mvO 2 4] (some [2]))
.ret))⟩
def ir251 : IFn := ⟨30, [],
(.seq (.ops [fO 7 0 1,
fO 8 2 7,
lO 9 1 8,
nO 10 9,
mO 11 0] (some [0, 1, 2, 3, 10, 11]))
(.block 0 (.loop (.seq (.ops [sO 12 11 10] none)
(.seq (.cond (.t 12)
.skip
(.exit 0))
(.seq (.block 1 (.seq (.ops [mvO 13 11,
mvO 5 13] (some [0, 1, 2, 3, 5, 10, 11]))
(.seq (.ops [lA 14 7 1,
lO 15 1 2,
lO 16 1 3,
mvO 17 5,
opO 18 (.call 242 [(.t 14), (.t 15), (.t 16), (.t 17)]),
mvO 6 18] (some [0, 1, 2, 3, 5, 6, 10, 11]))
(.seq (.ops [lA 19 7 1,
mvO 20 6,
opO 21 (.call 243 [(.t 19), (.t 20)]),
mvO 22 21,
⟨(some 23), (some (22, true)), .mov (.t 0)⟩,
⟨(some 24), (some (22, true)), .mov (.t 5)⟩,
⟨(some 25), (some (22, true)), .mov (.t 6)⟩,
⟨(some 26), (some (22, true)), .callv (.t 23) [(.t 24), (.t 25)]⟩,
⟨(some 27), (some (22, true)), .un .not (.t 26)⟩,
opO 28 (.pick (.t 22) (.t 27) (.c (.bool false)))] (some [0, 1, 2, 3, 10, 11, 28]))
(.cond (.t 28)
.ret
.skip)))))
(.ops [pO 29 11 1,
mvO 11 29] (some [0, 1, 2, 3, 10, 11]))))))))⟩
def ir252 : IFn := ⟨9, [.t 4],
(.seq (.ops [bO 4 false] (some [0, 1]))
(.seq (.ops [mvO 5 0,
mvO 6 1,
opO 7 (.call 259 [(.t 5), (.t 6)]),
opO 8 (.ibin .geq .i64 (.t 7) (ci 0)),
mvO 4 8] (some [4]))
.ret))⟩
def ir253 : IFn := ⟨9, [.t 3],
(.seq (.ops [opO 2 (.box (.t 0)),
bO 3 false] (some [1, 2]))
(.seq (.ops [fO 4 0 2,
lO 5 1 4,
fO 6 0 1,
lO 7 1 6,
opO 8 (.sbin .eql (.t 5) (.t 7)),
mvO 3 8] (some [3]))
.ret))⟩
def ir254 : IFn := ⟨38, [.t 2],
(.seq (.ops [bO 2 false] (some [0]))
(.seq (.seq (.ops [mvO 6 0,
opO 7 (.s2b (.t 6)),
nO 8 7,
mO 9 0] (some [0, 7, 8, 9]))
(.block 0 (.loop (.seq (.ops [sO 10 9 8] none)
(.seq (.cond (.t 10)
.skip
(.exit 0))
(.seq (.block 1 (.seq (.ops [mvO 11 9,
iO 12 1 7 9,
lO 13 1 12,
mvO 3 11,
mvO 4 13] (some [0, 3, 4, 7, 8, 9]))
(.seq (.ops [mvO 14 4,
opO 15 (.ibin .or .u8 (.t 14) (.c (.int .u8 32))),
opO 16 (.conv .i64 (.t 15)),
opO 17 (.call 216 [(.t 16), (ci 97), (ci 122)]),
mvO 5 17] (some [0, 3, 4, 5, 7, 8, 9]))
(.seq (.ops [mvO 18 5,
opO 19 (.un .not (.t 18)),
mvO 20 19,
⟨(some 21), (some (20, true)), .mov (.t 3)⟩,
⟨(some 22), (some (20, true)), .ibin .eql .i64 (.t 21) (ci 0)⟩,
⟨(some 23), (some (20, true)), .mov (.t 22)⟩,
⟨(some 24), (some (23, false)), .mov (.t 4)⟩,
⟨(some 25), (some (23, false)), .ibin .neq .u8 (.t 24) (.c (.int .u8 45))⟩,
⟨(some 26), (some (23, false)), .mov (.t 25)⟩,
⟨(some 27), (some (26, true)), .mov (.t 4)⟩,
⟨(some 28), (some (26, true)), .conv .i64 (.t 27)⟩,
⟨(some 29), (some (26, true)), .call 216 [(.t 28), (ci 48), (ci 57)]⟩,
⟨(some 30), (some (26, true)), .un .not (.t 29)⟩,
⟨(some 31), (some (23, false)), .pick (.t 26) (.t 30) (.c (.bool false))⟩,
⟨(some 32), (some (20, true)), .pick (.t 23) (.c (.bool true)) (.t 31)⟩,
opO 33 (.pick (.t 20) (.t 32) (.c (.bool false)))] (some [0, 7, 8, 9, 33]))
(.cond (.t 33)
(.seq (.ops [bO 2 false] none)
.ret)
.skip)))))
(.ops [pO 34 9 1,
mvO 9 34] (some [0, 7, 8, 9]))))))))
(.seq (.ops [mvO 35 0,
opO 36 (.lenS (.t 35)),
opO 37 (.call 216 [(.t 36), (ci 1), (ci 12)]),
mvO 2 37] (some [2]))
.ret)))⟩
def ir255 : IFn := ⟨30, [.t 4, .t 5],
(.seq (.ops [opO 4 (.mov (.c (.int .u64 0))),
opO 5 (.mov (.c (.int .u64 0)))] (some [0, 1]))
(.seq (.cond (.c (.bool false))
(.seq (.ops [mvO 11 0,
opO 12 (.conv .u32 (.t 11)),
mvO 13 1,
opO 14 (.conv .u32 (.t 13)),
opO 15 (.call 260 [(.t 12), (.t 14)]),
mvO 10 15,
xO 16 0 10,
xO 17 1 10,
mvO 6 16,
mvO 7 17] (some [6, 7]))
(.seq (.ops [mvO 18 6,
opO 19 (.conv .u64 (.t 18)),
mvO 20 7,
opO 21 (.conv .u64 (.t 20)),
mvO 4 19,
mvO 5 21] (some [4, 5]))
.ret))
.skip)
(.seq (.ops [mvO 23 0,
mvO 24 1,
opO 25 (.call 261 [(.t 23), (.t 24)]),
mvO 22 25,
xO 26 0 22,
xO 27 1 22,
mvO 8 26,
mvO 9 27] (some [8, 9]))
(.seq (.ops [mvO 28 8,
mvO 29 9,
mvO 4 28,
mvO 5 29] (some [4, 5]))
.ret))))⟩
def ir256 : IFn := ⟨5, [.t 2],
(.seq (.ops [bO 2 false] (some [0]))
(.seq (.ops [mvO 3 0,
opO 4 (.call 216 [(.t 3), (ci 0), (ci 1000000)]),
mvO 2 4] (some [2]))
.ret))⟩
def ir257 : IFn := ⟨9, [.t 4],
(.seq (.ops [bO 4 false] (some [0, 1]))
(.seq (.ops [mvO 5 0,
mvO 6 1,
opO 7 (.call 262 [(.t 5), (.t 6)]),
opO 8 (.ibin .geq .i64 (.t 7) (ci 0)),
mvO 4 8] (some [4]))
.ret))⟩
def ir258 : IFn := ⟨9, [.t 3],
(.seq (.ops [opO 2 (.box (.t 0)),
bO 3 false] (some [1, 2]))
(.seq (.ops [fO 4 0 2,
lO 5 1 4,
fO 6 0 1,
lO 7 1 6,
opO 8 (.sbin .eql (.t 5) (.t 7)),
mvO 3 8] (some [3]))
.ret))⟩
def ir259 : IFn := ⟨19, [.t 4],
(.seq (.ops [mO 4 0] (some [0, 1]))
(.seq (.seq (.ops [mvO 6 0,
nO 7 6,
mO 8 0] (some [0, 1, 7, 8]))
(.block 0 (.loop (.seq (.ops [sO 9 8 7] none)
(.seq (.cond (.t 9)
.skip
(.exit 0))
(.seq (.block 1 (.seq (.ops [mvO 10 8,
mvO 5 10] (some [0, 1, 5, 7, 8]))
(.seq (.ops [mvO 11 1,
mvO 12 0,
mvO 13 5,
iO 14 3 12 13,
lA 15 3 14,
opO 16 (.callv (.t 11) [(.t 15)])] (some [0, 1, 5, 7, 8, 16]))
(.cond (.t 16)
(.seq (.ops [mvO 17 5,
mvO 4 17] (some [4]))
.ret)
.skip))))
(.ops [pO 18 8 1,
mvO 8 18] (some [0, 1, 7, 8]))))))))
(.seq (.ops [opO 4 (.mov (ci (-1)))] none)
.ret)))⟩
def ir260 : IFn := ⟨17, [.t 4, .t 5],
(.seq (.ops [opO 4 (.mov (.c (.int .u32 0))),
opO 5 (.mov (.c (.int .u32 0)))] (some [0, 1]))
(.seq (.ops [mvO 7 0,
opO 8 (.conv .u64 (.t 7)),
mvO 9 1,
opO 10 (.conv .u64 (.t 9)),
opO 11 (.ibin .mul .u64 (.t 8) (.t 10)),
mvO 6 11] (some [6]))
(.seq (.ops [mvO 12 6,
opO 13 (.shift .shr .u64 (.t 12) (.c (.int .u64 32))),
opO 14 (.conv .u32 (.t 13)),
mvO 15 6,
opO 16 (.conv .u32 (.t 15)),
mvO 4 14,
mvO 5 16] (some [4, 5]))
.ret)))⟩
def ir261 : IFn := ⟨51, [.t 4, .t 5],
(.seq (.ops [opO 4 (.mov (.c (.int .u64 0))),
opO 5 (.mov (.c (.int .u64 0)))] (some [0, 1]))
(.seq (.ops [mvO 14 0,
opO 15 (.ibin .and .u64 (.t 14) (.c (.int .u64 4294967295))),
mvO 6 15] (some [0, 1, 6]))
(.seq (.ops [mvO 16 0,
opO 17 (.shift .shr .u64 (.t 16) (.c (.int .u64 32))),
mvO 7 17] (some [0, 1, 6, 7]))
(.seq (.ops [mvO 18 1,
opO 19 (.ibin .and .u64 (.t 18) (.c (.int .u64 4294967295))),
mvO 8 19] (some [0, 1, 6, 7, 8]))
(.seq (.ops [mvO 20 1,
opO 21 (.shift .shr .u64 (.t 20) (.c (.int .u64 32))),
mvO 9 21] (some [0, 1, 6, 7, 8, 9]))
(.seq (.ops [mvO 22 6,
mvO 23 8,
opO 24 (.ibin .mul .u64 (.t 22) (.t 23)),
mvO 10 24] (some [0, 1, 6, 7, 8, 9, 10]))
(.seq (.ops [mvO 25 7,
mvO 26 8,
opO 27 (.ibin .mul .u64 (.t 25) (.t 26)),
mvO 28 10,
opO 29 (.shift .shr .u64 (.t 28) (.c (.int .u64 32))),
opO 30 (.ibin .add .u64 (.t 27) (.t 29)),
mvO 11 30] (some [0, 1, 6, 7, 9, 11]))
(.seq (.ops [mvO 31 11,
opO 32 (.ibin .and .u64 (.t 31) (.c (.int .u64 4294967295))),
mvO 12 32] (some [0, 1, 6, 7, 9, 11, 12]))
(.seq (.ops [mvO 33 11,
opO 34 (.shift .shr .u64 (.t 33) (.c (.int .u64 32))),
mvO 13 34] (some [0, 1, 6, 7, 9, 12, 13]))
(.seq (.ops [mvO 35 12,
mvO 36 6,
mvO 37 9,
opO 38 (.ibin .mul .u64 (.t 36) (.t 37)),
opO 39 (.ibin .add .u64 (.t 35) (.t 38)),
mvO 12 39] (some [0, 1, 7, 9, 12, 13]))
(.seq (.ops [mvO 40 7,
mvO 41 9,
opO 42 (.ibin .mul .u64 (.t 40) (.t 41)),
mvO 43 13,
opO 44 (.ibin .add .u64 (.t 42) (.t 43)),
mvO 45 12,
opO 46 (.shift .shr .u64 (.t 45) (.c (.int .u64 32))),
opO 47 (.ibin .add .u64 (.t 44) (.t 46)),
mvO 4 47] (some [0, 1, 4]))
(.seq (.ops [mvO 48 0,
mvO 49 1,
opO 50 (.ibin .mul .u64 (.t 48) (.t 49)),
mvO 5 50] (some [4, 5]))
.ret))))))))))))⟩
def ir262 : IFn := ⟨19, [.t 4],
(.seq (.ops [mO 4 0] (some [0, 1]))
(.seq (.seq (.ops [mvO 6 0,
nO 7 6,
mO 8 0] (some [0, 1, 7, 8]))
(.block 0 (.loop (.seq (.ops [sO 9 8 7] none)
(.seq (.cond (.t 9)
.skip
(.exit 0))
(.seq (.block 1 (.seq (.ops [mvO 10 8,
mvO 5 10] (some [0, 1, 5, 7, 8]))
(.seq (.ops [mvO 11 1,
mvO 12 0,
mvO 13 5,
iO 14 4 12 13,
lA 15 4 14,
opO 16 (.callv (.t 11) [(.t 15)])] (some [0, 1, 5, 7, 8, 16]))
(.cond (.t 16)
(.seq (.ops [mvO 17 5,
mvO 4 17] (some [4]))
.ret)
.skip))))
(.ops [pO 18 8 1,
mvO 8 18] (some [0, 1, 7, 8]))))))))
(.seq (.ops [opO 4 (.mov (ci (-1)))] none)
.ret)))⟩
def ir298 : IFn := ⟨125, [.t 6],
(.seq (.ops [opO 3 (.box (.t 0)),
opO 4 (.box (.t 1)),
bO 6 false] (some [2, 3, 4]))
(.seq (.seq (.ops [opO 16 (.call 198 []),
opO 17 (.un .not (.t 16))] (some [2, 3, 4, 17]))
(.cond (.t 17)
(.seq (.ops [bO 6 false] none)
.ret)
.skip))
(.seq (.seq (.ops [lA 18 3 3,
cO 19 307 18,
opO 20 (.un .not (.t 19)),
mvO 21 20,
⟨(some 22), (some (21, false)), .load 4 true (.t 4)⟩,
⟨(some 23), (some (21, false)), .call 308 [(.t 22)]⟩,
⟨(some 24), (some (21, false)), .un .not (.t 23)⟩,
opO 25 (.pick (.t 21) (.c (.bool true)) (.t 24))] (some [2, 3, 4, 25]))
(.cond (.t 25)
(.seq (.ops [bO 6 true] none)
.ret)
.skip))
(.seq (.draw (.rd 0 (lA 27 3 3)
(.rd 2 (lA 29 4 4)
(.wr 1 (cO 28 309 27) [0]
(.wr 3 (cO 30 310 29) [2, 1]
(.wr 4 (opO 31 (.call 206 [(.t 28), (.t 30)])) [1, 3, 3]
(.rd 5 (mvO 26 31)
(.rd 6 (xO 32 0 26)
(.rd 7 (xO 33 1 26)
(.rd 8 (xO 34 2 26)
(.rd 9 (mvO 7 32)
(.rd 10 (mvO 8 33)
(.rd 11 (mvO 9 34)
.fin))))))) .no) .no) .no))) (some [2, 3, 4, 7, 8, 9]))
(.seq (.draw (.rd 0 (lA 36 3 3)
(.rd 2 (lA 38 4 4)
(.rd 4 (mvO 40 2)
(.wr 1 (cO 37 309 36) [0]
(.wr 3 (cO 39 310 38) [2, 1]
(.wr 5 (opO 41 (.call 212 [(.t 37), (.t 39), (.t 40)])) [1, 3, 4, 3]
(.rd 6 (mvO 35 41)
(.rd 7 (xO 42 0 35)
(.rd 8 (xO 43 1 35)
(.rd 9 (mvO 10 42)
(.rd 10 (mvO 11 43)
.fin))))) .no) .no) .no)))) (some [2, 3, 4, 7, 8, 9, 10, 11]))
(.seq (.seq (.ops [lA 44 3 3,
lA 45 4 4,
opO 46 (.call 311 [(.t 44), (.t 45)]),
mvO 12 46] (some [2, 3, 4, 7, 8, 9, 10, 11, 12]))
(.seq (.ops [mvO 47 12,
opO 48 (.ibin .neq .i64 (.t 47) (ci 0))] (some [2, 3, 4, 7, 8, 9, 10, 11, 12, 48]))
(.cond (.t 48)
(.seq (.ops [mvO 49 9,
mvO 50 12,
opO 51 (.ibin .eql .i64 (.t 49) (.t 50)),
mvO 52 51,
⟨(some 53), (some (52, true)), .mov (.t 11)⟩,
⟨(some 54), (some (52, true)), .mov (.t 12)⟩,
⟨(some 55), (some (52, true)), .ibin .eql .i64 (.t 53) (.t 54)⟩,
opO 56 (.pick (.t 52) (.t 55) (.c (.bool false))),
mvO 57 56,
⟨(some 58), (some (57, true)), .mov (.t 7)⟩,
⟨(some 59), (some (57, true)), .lenV (.t 58)⟩,
⟨(some 60), (some (57, true)), .mov (.t 10)⟩,
⟨(some 61), (some (57, true)), .lenV (.t 60)⟩,
⟨(some 62), (some (57, true)), .ibin .add .i64 (.t 59) (.t 61)⟩,
⟨(some 63), (some (57, true)), .ibin .eql .i64 (.t 62) (ci 0)⟩,
opO 64 (.pick (.t 57) (.t 63) (.c (.bool false))),
mvO 65 64,
⟨(some 66), (some (65, true)), .mov (.t 8)⟩,
⟨(some 67), (some (65, true)), .ibin .eql .i64 (.t 66) (ci 0)⟩,
opO 68 (.pick (.t 65) (.t 67) (.c (.bool false))),
mvO 6 68] (some [6]))
.ret)
.skip)))
(.seq (.seq (.ops [mvO 69 2,
fO 70 3 4,
lO 71 1 70,
nO 72 71,
opO 73 (.call 15 [(.t 69), (ci 0), (.t 72)]),
opO 74 (.un .not (.t 73))] (some [2, 3, 4, 7, 8, 9, 10, 11, 74]))
(.cond (.t 74)
(.seq (.ops [mvO 75 11,
opO 76 (.ibin .neq .i64 (.t 75) (ci 2)),
mvO 77 76,
⟨(some 78), (some (77, false)), .mov (.t 10)⟩,
⟨(some 79), (some (77, false)), .lenV (.t 78)⟩,
⟨(some 80), (some (77, false)), .ibin .neq .i64 (.t 79) (ci 0)⟩,
opO 81 (.pick (.t 77) (.c (.bool true)) (.t 80))] (some [3, 4, 7, 8, 9, 81]))
(.cond (.t 81)
(.seq (.ops [bO 6 false] none)
.ret)
.skip))
(.seq (.ops [mvO 82 11,
opO 83 (.ibin .neq .i64 (.t 82) (ci 0)),
mvO 84 83,
⟨(some 85), (some (84, false)), .mov (.t 10)⟩,
⟨(some 86), (some (84, false)), .load 3 true (.t 3)⟩,
⟨(some 87), (some (84, false)), .load 4 true (.t 4)⟩,
⟨(some 88), (some (84, false)), .mov (.t 2)⟩,
⟨(some 89), (some (84, false)), .call 312 [(.t 86), (.t 87), (.t 88)]⟩,
⟨(some 90), (some (84, false)), .call 26 [(.t 85), (.t 89)]⟩,
⟨(some 91), (some (84, false)), .un .not (.t 90)⟩,
opO 92 (.pick (.t 84) (.c (.bool true)) (.t 91))] (some [3, 4, 7, 8, 9, 92]))
(.cond (.t 92)
(.seq (.ops [bO 6 false] none)
.ret)
.skip))))
(.seq (.ops [lA 94 3 3,
lA 95 4 4,
opO 96 (.call 313 [(.t 94), (.t 95)]),
mvO 93 96,
xO 97 0 93,
xO 98 1 93,
xO 99 2 93,
mvO 13 97,
mvO 14 98,
mvO 15 99] (some [7, 8, 9, 13, 14, 15]))
(.seq (.seq (.ops [mvO 100 15,
opO 101 (.un .not (.t 100))] (some [7, 8, 9, 13, 14, 101]))
(.cond (.t 101)
(.seq (.ops [mvO 102 9,
opO 103 (.ibin .eql .i64 (.t 102) (ci 12)),
mvO 104 103,
⟨(some 105), (some (104, true)), .mov (.t 7)⟩,
⟨(some 106), (some (104, true)), .lenV (.t 105)⟩,
⟨(some 107), (some (104, true)), .ibin .eql .i64 (.t 106) (ci 0)⟩,
opO 108 (.pick (.t 104) (.t 107) (.c (.bool false))),
mvO 109 108,
⟨(some 110), (some (109, true)), .mov (.t 8)⟩,
⟨(some 111), (some (109, true)), .ibin .eql .i64 (.t 110) (ci 0)⟩,
opO 112 (.pick (.t 109) (.t 111) (.c (.bool false))),
mvO 6 112] (some [6]))
.ret)
.skip))
(.seq (.ops [mvO 113 9,
opO 114 (.ibin .eql .i64 (.t 113) (ci 0)),
mvO 115 114,
⟨(some 116), (some (115, true)), .mov (.t 7)⟩,
⟨(some 117), (some (115, true)), .mov (.t 13)⟩,
⟨(some 118), (some (115, true)), .call 26 [(.t 116), (.t 117)]⟩,
opO 119 (.pick (.t 115) (.t 118) (.c (.bool false))),
mvO 120 119,
⟨(some 121), (some (120, true)), .mov (.t 8)⟩,
⟨(some 122), (some (120, true)), .mov (.t 14)⟩,
⟨(some 123), (some (120, true)), .ibin .eql .i64 (.t 121) (.t 122)⟩,
opO 124 (.pick (.t 120) (.t 123) (.c (.bool false))),
mvO 6 124] (some [6]))
.ret))))))))))⟩
def ir307 : IFn := ⟨23, [.t 2],
(.seq (.ops [opO 1 (.box (.t 0)),
bO 2 false] (some [1]))
(.seq (.seq (.ops [fO 4 2 1,
lO 5 1 4,
nO 6 5,
opO 7 (.ibin .gtr .i64 (.t 6) (ci 7))] (some [1, 7]))
(.cond (.t 7)
(.seq (.ops [bO 2 false] none)
.ret)
.skip))
(.seq (.seq (.ops [mO 3 0] none)
(.block 0 (.loop (.seq (.seq (.ops [mvO 8 3,
fO 9 2 1,
lO 10 1 9,
nO 11 10,
sO 12 8 11] (some [1, 3, 12]))
(.cond (.t 12)
.skip
(.exit 0)))
(.seq (.block 1 (.seq (.ops [fO 15 2 1,
lO 16 1 15,
mvO 17 3,
iO 18 4 16 17,
fO 19 0 18,
lO 20 1 19,
opO 21 (.lenS (.t 20)),
opO 22 (.ibin .gtr .i64 (.t 21) (ci 20))] (some [1, 3, 22]))
(.cond (.t 22)
(.seq (.ops [bO 2 false] none)
.ret)
.skip)))
(.ops [mvO 13 3,
pO 14 13 1,
mvO 3 14] (some [1, 3])))))))
(.seq (.ops [bO 2 true] none)
.ret))))⟩
def ir308 : IFn := ⟨7, [.t 2],
(.seq (.ops [opO 1 (.box (.t 0)),
bO 2 false] (some [1]))
(.seq (.ops [fO 3 3 1,
lO 4 1 3,
nO 5 4,
opO 6 (.ibin .leq .i64 (.t 5) (ci 12)),
mvO 2 6] (some [2]))
.ret))⟩
def ir309 : IFn := ⟨9, [.cell 2 3 true],
(.seq (.ops [opO 1 (.box (.t 0)),
opO 2 (.alloc [(.int .i64 0), (.int .i64 0), (.slice none 0 0)])] (some [1, 2]))
(.seq (.ops [opO 3 (.bslice 0 4 [(.string ⟨#[]⟩), (.int .i64 0), (.int .i64 0), (.int .i64 0)] []),
fO 4 2 1,
lO 5 1 4,
opO 6 (.append 4 40 (.t 3) (.t 5)),
fO 7 2 1,
⟨none, none, .store 1 (.t 7) (.t 6)⟩] (some [1, 2]))
(.seq (.ops [lA 8 3 1,
⟨none, none, .store 3 (.t 2) (.t 8)⟩] (some [2]))
.ret)))⟩
def ir310 : IFn := ⟨9, [.cell 2 4 true],
(.seq (.ops [opO 1 (.box (.t 0)),
opO 2 (.alloc [(.int .i64 0), (.int .i64 0), (.int .i64 0), (.slice none 0 0)])] (some [1, 2]))
(.seq (.ops [opO 3 (.bslice 0 3 [(.int .i64 0), (.int .i64 0), (.int .i64 0)] []),
fO 4 3 1,
lO 5 1 4,
opO 6 (.append 3 24 (.t 3) (.t 5)),
fO 7 3 1,
⟨none, none, .store 1 (.t 7) (.t 6)⟩] (some [1, 2]))
(.seq (.ops [lA 8 4 1,
⟨none, none, .store 4 (.t 2) (.t 8)⟩] (some [2]))
.ret)))⟩
def ir311 : IFn := ⟨14, [.t 4],
(.seq (.ops [opO 2 (.box (.t 0)),
opO 3 (.box (.t 1)),
mO 4 0] (some [2, 3]))
(.seq (.ops [lA 8 3 2,
lA 9 4 3,
opO 10 (.call 326 [(.t 8), (.t 9)]),
mvO 7 10,
xO 11 0 7,
xO 12 1 7,
mvO 5 11,
mvO 6 12] (some [6]))
(.seq (.ops [mvO 13 6,
mvO 4 13] (some [4]))
.ret)))⟩
def ir312 : IFn := ⟨244, [.t 6],
(.seq (.ops [opO 3 (.box (.t 0)),
opO 4 (.box (.t 1)),
opO 6 (.mov (.c (.slice none 0 0)))] (some [2, 3, 4]))
(.seq (.ops [fO 22 3 4,
lO 23 1 22,
nO 24 23,
mvO 7 24] (some [2, 3, 4, 7]))
(.seq (.draw (.rd 0 (mvO 25 7)
(.rd 1 (pO 26 25 1)
(.rd 3 (mvO 28 7)
(.rd 4 (pO 29 28 1)
(.wr 2 (opO 27 (.mslice 1 24 [(.slice none 0 0)] (.t 26) (.t 26))) [1, 1]
(.rd 6 (mvO 8 27)
(.wr 5 (opO 30 (.mslice 1 24 [(.slice none 0 0)] (.t 29) (.t 29))) [4, 4]
(.rd 7 (mvO 9 30)
.fin) .no))
(.wr 5 (opO 30 (.mslice 1 24 [(.slice none 0 0)] (.t 29) (.t 29))) [4, 4]
(.wr 2 (opO 27 (.mslice 1 24 [(.slice none 0 0)] (.t 26) (.t 26))) [1, 1]
(.rd 6 (mvO 8 27)
(.rd 7 (mvO 9 30)
.fin)) .no) .no)))))) (some [2, 3, 4, 7, 8, 9]))
(.seq (.seq (.ops [mO 10 0] none)
(.block 0 (.loop (.seq (.seq (.ops [mvO 31 10,
mvO 32 7,
opO 33 (.ibin .leq .i64 (.t 31) (.t 32))] (some [2, 3, 4, 7, 8, 9, 10, 33]))
(.cond (.t 33)
.skip
(.exit 0)))
(.seq (.block 1 (.draw (.rd 0 (mvO 36 8)
(.rd 1 (mvO 37 10)
(.rd 2 (mvO 38 9)
(.rd 3 (mvO 39 10)
(.rd 4 (fO 40 1 3)
(.rd 5 (lO 41 1 40)
(.rd 6 (fO 42 0 3)
(.rd 7 (lO 43 1 42)
(.rd 8 (opO 44 (.ibin .sub .i64 (.t 41) (.t 43)))
(.rd 9 (pO 45 44 1)
(.rd 11 (fO 47 1 3)
(.rd 12 (lO 48 1 47)
(.rd 13 (fO 49 0 3)
(.rd 14 (lO 50 1 49)
(.rd 15 (opO 51 (.ibin .sub .i64 (.t 48) (.t 50)))
(.rd 16 (pO 52 51 1)
(.wr 10 (opO 46 (.mslice 1 1 [(.bool false)] (.t 45) (.t 45))) [9, 9]
(.rd 18 (iO 54 1 36 37)
(.wr 17 (opO 53 (.mslice 1 1 [(.bool false)] (.t 52) (.t 52))) [16, 16]
(.wr 19 ⟨none, none, .store 1 (.t 54) (.t 46)⟩ [18, 10, 0, 1, 4, 5, 6, 7, 8, 9, 10]
(.rd 20 (iO 55 1 38 39)
(.wr 21 ⟨none, none, .store 1 (.t 55) (.t 53)⟩ [20, 17, 19, 0, 1, 2, 3, 4, 5, 6, 7, 8, 9, 10, 11, 12, 13, 14, 15, 16, 17, 18, 19]
.fin .no)) .no)
(.wr 19 ⟨none, none, .store 1 (.t 54) (.t 46)⟩ [18, 10, 0, 1, 4, 5, 6, 7, 8, 9, 10]
(.wr 17 (opO 53 (.mslice 1 1 [(.bool false)] (.t 52) (.t 52))) [16, 16]
(.rd 20 (iO 55 1 38 39)
(.wr 21 ⟨none, none, .store 1 (.t 55) (.t 53)⟩ [20, 17, 19, 0, 1, 2, 3, 4, 5, 6, 7, 8, 9, 10, 11, 12, 13, 14, 15, 16, 17, 18, 19]
.fin .no)) .no) .no)))
(.wr 17 (opO 53 (.mslice 1 1 [(.bool false)] (.t 52) (.t 52))) [16, 16]
(.wr 10 (opO 46 (.mslice 1 1 [(.bool false)] (.t 45) (.t 45))) [9, 9]
(.rd 18 (iO 54 1 36 37)
(.wr 19 ⟨none, none, .store 1 (.t 54) (.t 46)⟩ [18, 10, 0, 1, 4, 5, 6, 7, 8, 9, 10]
(.rd 20 (iO 55 1 38 39)
(.wr 21 ⟨none, none, .store 1 (.t 55) (.t 53)⟩ [20, 17, 19, 0, 1, 2, 3, 4, 5, 6, 7, 8, 9, 10, 11, 12, 13, 14, 15, 16, 17, 18, 19]
.fin .no)) .no)) .no) .no)))))))))))))))))) (some [2, 3, 4, 7, 8, 9, 10])))
(.ops [mvO 34 10,
pO 35 34 1,
mvO 10 35] (some [2, 3, 4, 7, 8, 9, 10])))))))
(.seq (.draw (.rd 0 (mvO 56 8)
(.rd 1 (opO 57 (.iaddr 1 (.t 56) (ci 0)))
(.rd 2 (lO 58 1 57)
(.rd 3 (fO 59 0 4)
(.rd 4 (lO 60 1 59)
(.rd 5 (fO 61 0 3)
(.rd 6 (lO 62 1 61)
(.rd 7 (opO 63 (.ibin .sub .i64 (.t 60) (.t 62)))
(.rd 8 (iO 64 1 58 63)
(.wr 9 ⟨none, none, .store 1 (.t 64) (.c (.bool true))⟩ [8, 0, 1, 2, 3, 4, 5, 6, 7]
.fin .no)))))))))) (some [2, 3, 4, 7, 8, 9]))
(.seq (.seq (.ops [fO 65 0 3,
lO 66 1 65,
mvO 11 66] (some [2, 3, 4, 7, 8, 9, 11]))
(.block 2 (.loop (.seq (.seq (.ops [mvO 67 11,
fO 68 1 3,
lO 69 1 68,
opO 70 (.ibin .leq .i64 (.t 67) (.t 69))] (some [2, 3, 4, 7, 8, 9, 11, 70]))
(.cond (.t 70)
.skip
(.exit 2)))
(.seq (.block 3 (.draw (.rd 0 (mvO 73 9)
(.rd 1 (mvO 74 7)
(.rd 2 (iO 75 1 73 74)
(.rd 3 (lO 76 1 75)
(.rd 4 (mvO 77 11)
(.rd 5 (fO 78 0 3)
(.rd 6 (lO 79 1 78)
(.rd 7 (opO 80 (.ibin .sub .i64 (.t 77) (.t 79)))
(.rd 8 (iO 81 1 76 80)
(.wr 9 ⟨none, none, .store 1 (.t 81) (.c (.bool true))⟩ [8, 0, 1, 2, 3, 4, 5, 6, 7]
.fin .no)))))))))) (some [2, 3, 4, 7, 8, 9, 11])))
(.ops [mvO 71 11,
pO 72 71 1,
mvO 11 72] (some [2, 3, 4, 7, 8, 9, 11])))))))
(.seq (.seq (.ops [mO 12 0] none)
(.block 4 (.loop (.seq (.seq (.ops [mvO 82 12,
mvO 83 7,
sO 84 82 83] (some [2, 3, 4, 7, 8, 9, 12, 84]))
(.cond (.t 84)
.skip
(.exit 4)))
(.seq (.block 5 (.seq (.ops [fO 87 0 3,
lO 88 1 87,
mvO 13 88] (some [2, 3, 4, 7, 8, 9, 12, 13]))
(.block 6 (.loop (.seq (.seq (.ops [mvO 89 13,
fO 90 1 3,
lO 91 1 90,
opO 92 (.ibin .leq .i64 (.t 89) (.t 91))] (some [2, 3, 4, 7, 8, 9, 12, 13, 92]))
(.cond (.t 92)
.skip
(.exit 6)))
(.seq (.block 7 (.seq (.ops [mO 14 0] none)
(.block 8 (.loop (.seq (.seq (.ops [mvO 95 14,
fO 96 2 3,
lO 97 1 96,
nO 98 97,
sO 99 95 98] (some [2, 3, 4, 7, 8, 9, 12, 13, 14, 99]))
(.cond (.t 99)
.skip
(.exit 8)))
(.seq (.block 9 (.seq (.draw (.rd 0 (mvO 102 13)
(.rd 1 (fO 103 3 4)
(.rd 2 (lO 104 1 103)
(.rd 3 (mvO 105 12)
(.rd 4 (iO 106 3 104 105)
(.rd 5 (fO 107 2 106)
(.rd 6 (lO 108 1 107)
(.rd 7 (opO 109 (.ibin .add .i64 (.t 102) (.t 108)))
(.rd 8 (fO 110 2 3)
(.rd 9 (lO 111 1 110)
(.rd 10 (mvO 112 14)
(.rd 11 (iO 113 4 111 112)
(.rd 12 (fO 114 1 113)
(.rd 13 (lO 115 1 114)
(.rd 14 (opO 116 (.ibin .add .i64 (.t 109) (.t 115)))
(.rd 15 (mvO 15 116)
.fin)))))))))))))))) (some [2, 3, 4, 7, 8, 9, 12, 13, 14, 15]))
(.seq (.draw (.rd 0 (mvO 117 8)
(.rd 1 (mvO 118 12)
(.rd 2 (iO 119 1 117 118)
(.rd 3 (lO 120 1 119)
(.rd 4 (mvO 121 13)
(.rd 5 (fO 122 0 3)
(.rd 6 (lO 123 1 122)
(.rd 7 (opO 124 (.ibin .sub .i64 (.t 121) (.t 123)))
(.rd 8 (iO 125 1 120 124)
(.rd 9 (lO 126 1 125)
(.rd 10 (mvO 127 126)
(.rd 11 ⟨(some 128), (some (127, true)), .mov (.t 15)⟩
(.rd 12 ⟨(some 129), (some (127, true)), .faddr 0 (.t 3)⟩
(.rd 13 ⟨(some 130), (some (127, true)), .load 1 false (.t 129)⟩
(.rd 14 ⟨(some 131), (some (127, true)), .faddr 1 (.t 3)⟩
(.rd 15 ⟨(some 132), (some (127, true)), .load 1 false (.t 131)⟩
(.wr 16 ⟨(some 133), (some (127, true)), .call 15 [(.t 128), (.t 130), (.t 132)]⟩ [11, 13, 15, 10, 10]
(.rd 17 (opO 134 (.pick (.t 127) (.t 133) (.c (.bool false))))
.fin) .no))))))))))))))))) (some [2, 3, 4, 7, 8, 9, 12, 13, 14, 15, 134]))
(.cond (.t 134)
(.draw (.rd 0 (mvO 135 8)
(.rd 1 (mvO 136 12)
(.rd 2 (pO 137 136 1)
(.rd 3 (iO 138 1 135 137)
(.rd 4 (lO 139 1 138)
(.rd 5 (mvO 140 15)
(.rd 6 (fO 141 0 3)
(.rd 7 (lO 142 1 141)
(.rd 8 (opO 143 (.ibin .sub .i64 (.t 140) (.t 142)))
(.rd 9 (iO 144 1 139 143)
(.wr 10 ⟨none, none, .store 1 (.t 144) (.c (.bool true))⟩ [9, 0, 1, 2, 3, 4, 5, 6, 7, 8]
.fin .no))))))))))) (some [2, 3, 4, 7, 8, 9, 12, 13, 14]))
.skip))))
(.ops [mvO 100 14,
pO 101 100 1,
mvO 14 101] (some [2, 3, 4, 7, 8, 9, 12, 13, 14]))))))))
(.ops [mvO 93 13,
pO 94 93 1,
mvO 13 94] (some [2, 3, 4, 7, 8, 9, 12, 13]))))))))
(.ops [mvO 85 12,
pO 86 85 1,
mvO 12 86] (some [2, 3, 4, 7, 8, 9, 12])))))))
(.seq (.seq (.ops [mvO 145 7,
opO 146 (.ibin .sub .i64 (.t 145) (ci 1)),
mvO 16 146] (some [2, 3, 4, 8, 9, 16]))
(.block 10 (.loop (.seq (.seq (.ops [mvO 147 16,
opO 148 (.ibin .geq .i64 (.t 147) (ci 0))] (some [2, 3, 4, 8, 9, 16, 148]))
(.cond (.t 148)
.skip
(.exit 10)))
(.seq (.block 11 (.seq (.ops [fO 151 0 3,
lO 152 1 151,
mvO 17 152] (some [2, 3, 4, 8, 9, 16, 17]))
(.block 12 (.loop (.seq (.seq (.ops [mvO 153 17,
fO 154 1 3,
lO 155 1 154,
opO 156 (.ibin .leq .i64 (.t 153) (.t 155))] (some [2, 3, 4, 8, 9, 16, 17, 156]))
(.cond (.t 156)
.skip
(.exit 12)))
(.seq (.block 13 (.seq (.ops [mO 18 0] none)
(.block 14 (.loop (.seq (.seq (.ops [mvO 159 18,
fO 160 2 3,
lO 161 1 160,
nO 162 161,
sO 163 159 162] (some [2, 3, 4, 8, 9, 16, 17, 18, 163]))
(.cond (.t 163)
.skip
(.exit 14)))
(.seq (.block 15 (.seq (.draw (.rd 0 (mvO 166 17)
(.rd 1 (fO 167 3 4)
(.rd 2 (lO 168 1 167)
(.rd 3 (mvO 169 16)
(.rd 4 (iO 170 3 168 169)
(.rd 5 (fO 171 2 170)
(.rd 6 (lO 172 1 171)
(.rd 7 (opO 173 (.ibin .add .i64 (.t 166) (.t 172)))
(.rd 8 (fO 174 2 3)
(.rd 9 (lO 175 1 174)
(.rd 10 (mvO 176 18)
(.rd 11 (iO 177 4 175 176)
(.rd 12 (fO 178 1 177)
(.rd 13 (lO 179 1 178)
(.rd 14 (opO 180 (.ibin .add .i64 (.t 173) (.t 179)))
(.rd 15 (mvO 19 180)
.fin)))))))))))))))) (some [2, 3, 4, 8, 9, 16, 17, 18, 19]))
(.seq (.draw (.rd 0 (mvO 181 19)
(.rd 1 (fO 182 0 3)
(.rd 2 (lO 183 1 182)
(.rd 3 (fO 184 1 3)
(.rd 4 (lO 185 1 184)
(.wr 5 (opO 186 (.call 15 [(.t 181), (.t 183), (.t 185)])) [0, 2, 4]
(.rd 6 (mvO 187 186)
(.rd 7 ⟨(some 188), (some (187, true)), .mov (.t 9)⟩
(.rd 8 ⟨(some 189), (some (187, true)), .mov (.t 16)⟩
(.rd 9 ⟨(some 190), (some (187, true)), .ibin .add .i64 (.t 189) (ci 1)⟩
(.rd 10 ⟨(some 191), (some (187, true)), .iaddr 1 (.t 188) (.t 190)⟩
(.rd 11 ⟨(some 192), (some (187, true)), .load 1 false (.t 191)⟩
(.rd 12 ⟨(some 193), (some (187, true)), .mov (.t 19)⟩
(.rd 13 ⟨(some 194), (some (187, true)), .faddr 0 (.t 3)⟩
(.rd 14 ⟨(some 195), (some (187, true)), .load 1 false (.t 194)⟩
(.rd 15 ⟨(some 196), (some (187, true)), .ibin .sub .i64 (.t 193) (.t 195)⟩
(.rd 16 ⟨(some 197), (some (187, true)), .iaddr 1 (.t 192) (.t 196)⟩
(.rd 17 ⟨(some 198), (some (187, true)), .load 1 false (.t 197)⟩
(.rd 18 (opO 199 (.pick (.t 187) (.t 198) (.c (.bool false))))
.fin))))))))))))) .no)))))) (some [2, 3, 4, 8, 9, 16, 17, 18, 199]))
(.cond (.t 199)
(.draw (.rd 0 (mvO 200 9)
(.rd 1 (mvO 201 16)
(.rd 2 (iO 202 1 200 201)
(.rd 3 (lO 203 1 202)
(.rd 4 (mvO 204 17)
(.rd 5 (fO 205 0 3)
(.rd 6 (lO 206 1 205)
(.rd 7 (opO 207 (.ibin .sub .i64 (.t 204) (.t 206)))
(.rd 8 (iO 208 1 203 207)
(.wr 9 ⟨none, none, .store 1 (.t 208) (.c (.bool true))⟩ [8, 0, 1, 2, 3, 4, 5, 6, 7]
.fin .no)))))))))) (some [2, 3, 4, 8, 9, 16, 17, 18]))
.skip))))
(.ops [mvO 164 18,
pO 165 164 1,
mvO 18 165] (some [2, 3, 4, 8, 9, 16, 17, 18]))))))))
(.ops [mvO 157 17,
pO 158 157 1,
mvO 17 158] (some [2, 3, 4, 8, 9, 16, 17]))))))))
(.ops [mvO 149 16,
opO 150 (.ibin .sub .i64 (.t 149) (ci 1)),
mvO 16 150] (some [2, 3, 4, 8, 9, 16])))))))
(.seq (.ops [opO 20 (.mov (.c (.slice none 0 0)))] none)
(.seq (.seq (.ops [fO 209 0 3,
lO 210 1 209,
mvO 21 210] (some [2, 3, 8, 9, 20, 21]))
(.block 16 (.loop (.seq (.seq (.ops [mvO 211 21,
fO 212 1 3,
lO 213 1 212,
opO 214 (.ibin .leq .i64 (.t 211) (.t 213))] (some [2, 3, 8, 9, 20, 21, 214]))
(.cond (.t 214)
.skip
(.exit 16)))
(.seq (.block 17 (.seq (.draw (.rd 0 (mvO 217 8)
(.rd 1 (mvO 218 2)
(.rd 2 (iO 219 1 217 218)
(.rd 3 (lO 220 1 219)
(.rd 4 (mvO 221 21)
(.rd 5 (fO 222 0 3)
(.rd 6 (lO 223 1 222)
(.rd 7 (opO 224 (.ibin .sub .i64 (.t 221) (.t 223)))
(.rd 8 (iO 225 1 220 224)
(.rd 9 (lO 226 1 225)
(.rd 10 (mvO 227 226)
(.rd 11 ⟨(some 228), (some (227, true)), .mov (.t 9)⟩
(.rd 12 ⟨(some 229), (some (227, true)), .mov (.t 2)⟩
(.rd 13 ⟨(some 230), (some (227, true)), .iaddr 1 (.t 228) (.t 229)⟩
(.rd 14 ⟨(some 231), (some (227, true)), .load 1 false (.t 230)⟩
(.rd 15 ⟨(some 232), (some (227, true)), .mov (.t 21)⟩
(.rd 16 ⟨(some 233), (some (227, true)), .faddr 0 (.t 3)⟩
(.rd 17 ⟨(some 234), (some (227, true)), .load 1 false (.t 233)⟩
(.rd 18 ⟨(some 235), (some (227, true)), .ibin .sub .i64 (.t 232) (.t 234)⟩
(.rd 19 ⟨(some 236), (some (227, true)), .iaddr 1 (.t 231) (.t 235)⟩
(.rd 20 ⟨(some 237), (some (227, true)), .load 1 false (.t 236)⟩
(.rd 21 (opO 238 (.pick (.t 227) (.t 237) (.c (.bool false))))
.fin)))))))))))))))))))))) (some [2, 3, 8, 9, 20, 21, 238]))
(.cond (.t 238)
(.ops [mvO 239 20,
mvO 240 21,
opO 241 (.bslice 1 1 [(.int .i64 0)] [(0, 1, (.t 240))]),
opO 242 (.append 1 8 (.t 239) (.t 241)),
mvO 20 242] (some [2, 3, 8, 9, 20, 21]))
.skip)))
(.ops [mvO 215 21,
pO 216 215 1,
mvO 21 216] (some [2, 3, 8, 9, 20, 21])))))))
(.seq (.ops [mvO 243 20,
mvO 6 243] (some [6]))
.ret)))))))))))⟩
def ir313 : IFn := ⟨133, [.t 4, .t 5, .t 6],
(.seq (.ops [opO 2 (.box (.t 0)),
opO 3 (.box (.t 1)),
opO 4 (.mov (.c (.slice none 0 0))),
mO 5 0,
bO 6 false] (some [2, 3]))
(.seq (.ops [lA 17 3 2,
lA 18 4 3,
opO 19 (.call 348 [(.t 17), (.t 18)]),
mvO 16 19,
xO 20 0 16,
xO 21 1 16,
mvO 7 20,
mvO 8 21] (some [2, 3, 7, 8]))
(.seq (.draw (.rd 0 (fO 22 0 3)
(.rd 1 (lO 23 1 22)
(.rd 2 (fO 24 1 3)
(.rd 3 (lO 25 1 24)
(.rd 4 (mvO 9 23)
(.rd 5 (mvO 10 25)
.fin)))))) (some [2, 3, 7, 8, 9, 10]))
(.seq (.seq (.draw (.rd 0 (mvO 26 8)
(.rd 1 (opO 27 (.iaddr 1 (.t 26) (ci 0)))
(.rd 2 (lO 28 1 27)
(.rd 3 (lA 29 3 2)
(.rd 4 (mvO 30 9)
(.rd 5 (mvO 31 10)
(.wr 6 (opO 32 (.call 349 [(.t 29), (.t 30), (.t 31)])) [3, 4, 5]
(.rd 7 (iO 33 1 28 32)
(.rd 8 (lO 34 1 33)
(.rd 9 (opO 35 (.un .not (.t 34)))
.fin))) .no))))))) (some [2, 3, 7, 8, 9, 10, 35]))
(.cond (.t 35)
(.seq (.ops [opO 4 (.mov (.c (.slice none 0 0))),
mO 5 0,
bO 6 false] none)
.ret)
.skip))
(.seq (.ops [opO 11 (.mov (.c (.slice none 0 0)))] none)
(.seq (.seq (.ops [mO 12 0] none)
(.block 0 (.loop (.seq (.seq (.ops [mvO 36 12,
fO 37 3 3,
lO 38 1 37,
nO 39 38,
sO 40 36 39] (some [2, 3, 7, 8, 9, 10, 11, 12, 40]))
(.cond (.t 40)
.skip
(.exit 0)))
(.seq (.block 1 (.seq (.ops [mO 13 0] none)
(.block 2 (.loop (.seq (.seq (.ops [mvO 43 13,
fO 44 2 2,
lO 45 1 44,
nO 46 45,
sO 47 43 46] (some [2, 3, 7, 8, 9, 10, 11, 12, 13, 47]))
(.cond (.t 47)
.skip
(.exit 2)))
(.seq (.block 3 (.seq (.draw (.rd 0 (mvO 50 9)
(.rd 1 (fO 51 3 3)
(.rd 2 (lO 52 1 51)
(.rd 3 (mvO 53 12)
(.rd 4 (iO 54 3 52 53)
(.rd 5 (fO 55 2 54)
(.rd 6 (lO 56 1 55)
(.rd 7 (opO 57 (.ibin .add .i64 (.t 50) (.t 56)))
(.rd 8 (fO 58 2 2)
(.rd 9 (lO 59 1 58)
(.rd 10 (mvO 60 13)
(.rd 11 (iO 61 4 59 60)
(.rd 12 (fO 62 1 61)
(.rd 13 (lO 63 1 62)
(.rd 14 (opO 64 (.ibin .add .i64 (.t 57) (.t 63)))
(.rd 15 (mvO 14 64)
.fin)))))))))))))))) (some [2, 3, 7, 8, 9, 10, 11, 12, 13, 14]))
(.seq (.seq (.ops [mvO 65 14,
fO 66 0 2,
lO 67 1 66,
fO 68 1 2,
lO 69 1 68,
opO 70 (.call 15 [(.t 65), (.t 67), (.t 69)]),
opO 71 (.un .not (.t 70))] (some [2, 3, 7, 8, 9, 10, 11, 12, 13, 14, 71]))
(.cond (.t 71)
(.exit 3)
.skip))
(.seq (.ops [lA 72 3 2,
mvO 73 14,
mvO 74 13,
opO 75 (.call 349 [(.t 72), (.t 73), (.t 74)]),
mvO 15 75] (some [2, 3, 7, 8, 9, 10, 11, 12, 13, 14, 15]))
(.seq (.draw (.rd 0 (mvO 76 8)
(.rd 1 (mvO 77 12)
(.rd 2 (pO 78 77 1)
(.rd 3 (iO 79 1 76 78)
(.rd 4 (lO 80 1 79)
(.rd 5 (mvO 81 15)
(.rd 6 (iO 82 1 80 81)
(.rd 7 (lO 83 1 82)
(.rd 8 (mvO 84 83)
(.rd 9 ⟨(some 85), (some (84, true)), .load 3 true (.t 2)⟩
(.rd 10 ⟨(some 86), (some (84, true)), .faddr 3 (.t 3)⟩
(.rd 11 ⟨(some 87), (some (84, true)), .load 1 false (.t 86)⟩
(.rd 12 ⟨(some 88), (some (84, true)), .mov (.t 12)⟩
(.rd 13 ⟨(some 89), (some (84, true)), .iaddr 3 (.t 87) (.t 88)⟩
(.rd 14 ⟨(some 90), (some (84, true)), .load 3 true (.t 89)⟩
(.rd 15 ⟨(some 91), (some (84, true)), .mov (.t 13)⟩
(.rd 16 ⟨(some 92), (some (84, true)), .mov (.t 10)⟩
(.rd 18 ⟨(some 94), (some (84, true)), .mov (.t 7)⟩
(.rd 19 ⟨(some 95), (some (84, true)), .mov (.t 12)⟩
(.rd 20 ⟨(some 96), (some (84, true)), .ibin .add .i64 (.t 95) (ci 1)⟩
(.rd 21 ⟨(some 97), (some (84, true)), .iaddr 1 (.t 94) (.t 96)⟩
(.rd 22 ⟨(some 98), (some (84, true)), .load 1 false (.t 97)⟩
(.rd 23 ⟨(some 99), (some (84, true)), .mov (.t 15)⟩
(.rd 24 ⟨(some 100), (some (84, true)), .iaddr 1 (.t 98) (.t 99)⟩
(.rd 25 ⟨(some 101), (some (84, true)), .load 1 false (.t 100)⟩
(.rd 27 ⟨(some 103), (some (84, true)), .mov (.t 7)⟩
(.rd 28 ⟨(some 104), (some (84, true)), .mov (.t 12)⟩
(.rd 29 ⟨(some 105), (some (84, true)), .iaddr 1 (.t 103) (.t 104)⟩
(.rd 30 ⟨(some 106), (some (84, true)), .load 1 false (.t 105)⟩
(.rd 31 ⟨(some 107), (some (84, true)), .load 3 true (.t 2)⟩
(.rd 32 ⟨(some 108), (some (84, true)), .mov (.t 9)⟩
(.rd 33 ⟨(some 109), (some (84, true)), .mov (.t 10)⟩
(.wr 17 ⟨(some 93), (some (84, true)), .call 350 [(.t 85), (.t 90), (.t 91), (.t 92)]⟩ [9, 14, 15, 16, 8, 8]
(.rd 26 ⟨(some 102), (some (84, true)), .ibin .add .i64 (.t 93) (.t 101)⟩
(.wr 34 ⟨(some 110), (some (84, true)), .call 349 [(.t 107), (.t 108), (.t 109)]⟩ [31, 32, 33, 17, 8]
(.rd 35 ⟨(some 111), (some (84, true)), .iaddr 1 (.t 106) (.t 110)⟩
(.rd 36 ⟨(some 112), (some (84, true)), .load 1 false (.t 111)⟩
(.rd 37 ⟨(some 113), (some (84, true)), .ibin .eql .i64 (.t 102) (.t 112)⟩
(.rd 38 (opO 114 (.pick (.t 84) (.t 113) (.c (.bool false))))
.fin)))) .no)) .no))))))))))))))))))))))))))))))))) (some [2, 3, 7, 8, 9, 10, 11, 12, 13, 14, 114]))
(.cond (.t 114)
(.seq (.ops [mvO 115 11,
mvO 116 13,
opO 117 (.bslice 1 1 [(.int .i64 0)] [(0, 1, (.t 116))]),
opO 118 (.append 1 8 (.t 115) (.t 117)),
mvO 119 14,
mvO 120 13,
mvO 11 118,
mvO 9 119,
mvO 10 120] (some [2, 3, 7, 8, 9, 10, 11, 12]))
(.exit 2))
.skip))))))
(.ops [mvO 48 13,
pO 49 48 1,
mvO 13 49] (some [2, 3, 7, 8, 9, 10, 11, 12, 13]))))))))
(.ops [mvO 41 12,
pO 42 41 1,
mvO 12 42] (some [2, 3, 7, 8, 9, 10, 11, 12])))))))
(.seq (.draw (.rd 0 (mvO 121 11)
(.rd 1 (mvO 122 7)
(.rd 2 (opO 123 (.iaddr 1 (.t 122) (ci 0)))
(.rd 3 (lO 124 1 123)
(.rd 4 (lA 125 3 2)
(.rd 5 (fO 126 0 3)
(.rd 6 (lO 127 1 126)
(.rd 7 (fO 128 1 3)
(.rd 8 (lO 129 1 128)
(.wr 9 (opO 130 (.call 349 [(.t 125), (.t 127), (.t 129)])) [4, 6, 8]
(.rd 10 (iO 131 1 124 130)
(.rd 11 (lO 132 1 131)
(.rd 12 (mvO 4 121)
(.rd 13 (mvO 5 132)
(.rd 14 (bO 6 true)
.fin))))) .no)))))))))) (some [4, 5, 6]))
.ret)))))))⟩
def ir325 : IFn := ⟨63, [.t 2, .t 3],
(.seq (.ops [opO 1 (.box (.t 0)),
mO 2 0,
mO 3 0] (some [1]))
(.seq (.seq (.ops [fO 7 0 1,
lO 8 1 7,
opO 9 (.call 15 [(.t 8), (ci 0), (ci 1000000)]),
opO 10 (.un .not (.t 9)),
mvO 11 10,
⟨(some 12), (some (11, false)), .faddr 1 (.t 1)⟩,
⟨(some 13), (some (11, false)), .load 1 false (.t 12)⟩,
⟨(some 14), (some (11, false)), .call 15 [(.t 13), (ci 0), (ci 1000000)]⟩,
⟨(some 15), (some (11, false)), .un .not (.t 14)⟩,
opO 16 (.pick (.t 11) (.c (.bool true)) (.t 15))] (some [1, 16]))
(.cond (.t 16)
(.seq (.ops [mO 2 0,
mO 3 2] none)
.ret)
.skip))
(.seq (.seq (.ops [fO 17 0 1,
lO 18 1 17,
fO 19 1 1,
lO 20 1 19,
opO 21 (.ibin .gtr .i64 (.t 18) (.t 20))] (some [1, 21]))
(.cond (.t 21)
(.seq (.ops [mO 2 0,
mO 3 9] none)
.ret)
.skip))
(.seq (.seq (.ops [fO 22 1 1,
lO 23 1 22,
fO 24 0 1,
lO 25 1 24,
opO 26 (.ibin .sub .i64 (.t 23) (.t 25)),
opO 27 (.ibin .geq .i64 (.t 26) (ci 40))] (some [1, 27]))
(.cond (.t 27)
(.seq (.ops [mO 2 0,
mO 3 8] none)
.ret)
.skip))
(.seq (.seq (.ops [fO 28 2 1,
lO 29 1 28,
nO 30 29,
opO 31 (.ibin .eql .i64 (.t 30) (ci 0))] (some [1, 31]))
(.cond (.t 31)
(.seq (.ops [mO 2 0,
mO 3 10] none)
.ret)
.skip))
(.seq (.seq (.ops [fO 32 2 1,
lO 33 1 32,
nO 34 33,
opO 35 (.ibin .gtr .i64 (.t 34) (ci 5))] (some [1, 35]))
(.cond (.t 35)
(.seq (.ops [mO 2 0,
mO 3 8] none)
.ret)
.skip))
(.seq (.ops [opO 4 (.mov (.c (.slice none 0 0)))] none)
(.seq (.seq (.ops [mO 5 0] none)
(.block 0 (.loop (.seq (.seq (.ops [mvO 36 5,
fO 37 2 1,
lO 38 1 37,
nO 39 38,
sO 40 36 39] (some [1, 4, 5, 40]))
(.cond (.t 40)
.skip
(.exit 0)))
(.seq (.block 1 (.seq (.seq (.ops [fO 43 2 1,
lO 44 1 43,
mvO 45 5,
iO 46 4 44 45,
lA 47 4 46,
mvO 48 4,
opO 49 (.call 354 [(.t 47), (.t 48)]),
mvO 6 49] (some [1, 4, 5, 6]))
(.seq (.ops [mvO 50 6,
opO 51 (.ibin .neq .i64 (.t 50) (ci 0))] (some [1, 4, 5, 6, 51]))
(.cond (.t 51)
(.seq (.ops [mvO 52 5,
mvO 53 6,
mvO 2 52,
mvO 3 53] (some [2, 3]))
.ret)
.skip)))
(.ops [mvO 54 4,
fO 55 2 1,
lO 56 1 55,
mvO 57 5,
iO 58 4 56 57,
fO 59 0 58,
lO 60 1 59,
opO 61 (.bslice 1 1 [(.string ⟨#[]⟩)] [(0, 1, (.t 60))]),
opO 62 (.append 1 16 (.t 54) (.t 61)),
mvO 4 62] (some [1, 4, 5]))))
(.ops [mvO 41 5,
pO 42 41 1,
mvO 5 42] (some [1, 4, 5])))))))
(.seq (.ops [mO 2 0,
mO 3 0] none)
.ret)))))))))⟩
def ir326 : IFn := ⟨77, [.t 4, .t 5],
(.seq (.ops [opO 2 (.box (.t 0)),
opO 3 (.box (.t 1)),
mO 4 0,
mO 5 0] (some [2, 3]))
(.seq (.seq (.ops [lA 9 3 2,
cO 10 347 9,
mvO 6 10] (some [2, 3, 6]))
(.seq (.ops [mvO 11 6,
opO 12 (.ibin .neq .i64 (.t 11) (ci 0))] (some [2, 3, 6, 12]))
(.cond (.t 12)
(.seq (.ops [mvO 13 6,
mO 4 0,
mvO 5 13] (some [4, 5]))
.ret)
.skip)))
(.seq (.seq (.ops [fO 14 0 3,
lO 15 1 14,
fO 16 0 2,
lO 17 1 16,
fO 18 1 2,
lO 19 1 18,
opO 20 (.call 15 [(.t 15), (.t 17), (.t 19)]),
opO 21 (.un .not (.t 20))] (some [2, 3, 21]))
(.cond (.t 21)
(.seq (.ops [mO 4 0,
mO 5 2] none)
.ret)
.skip))
(.seq (.seq (.ops [fO 22 1 3,
lO 23 1 22,
fO 24 2 2,
lO 25 1 24,
nO 26 25,
opO 27 (.ibin .sub .i64 (.t 26) (ci 1)),
opO 28 (.call 15 [(.t 23), (ci 0), (.t 27)]),
opO 29 (.un .not (.t 28))] (some [3, 29]))
(.cond (.t 29)
(.seq (.ops [mO 4 0,
mO 5 6] none)
.ret)
.skip))
(.seq (.seq (.ops [fO 30 2 3,
lO 31 1 30,
cO 32 355 31,
opO 33 (.un .not (.t 32))] (some [3, 33]))
(.cond (.t 33)
(.seq (.ops [mO 4 0,
mO 5 2] none)
.ret)
.skip))
(.seq (.seq (.ops [fO 34 3 3,
lO 35 1 34,
nO 36 35,
opO 37 (.ibin .eql .i64 (.t 36) (ci 0))] (some [3, 37]))
(.cond (.t 37)
(.seq (.ops [mO 4 0,
mO 5 10] none)
.ret)
.skip))
(.seq (.seq (.ops [fO 38 3 3,
lO 39 1 38,
nO 40 39,
opO 41 (.ibin .gtr .i64 (.t 40) (ci 10))] (some [3, 41]))
(.cond (.t 41)
(.seq (.ops [mO 4 0,
mO 5 8] none)
.ret)
.skip))
(.seq (.seq (.ops [mO 7 0] none)
(.block 0 (.loop (.seq (.seq (.ops [mvO 42 7,
fO 43 3 3,
lO 44 1 43,
nO 45 44,
sO 46 42 45] (some [3, 7, 46]))
(.cond (.t 46)
.skip
(.exit 0)))
(.seq (.block 1 (.seq (.ops [fO 49 3 3,
lO 50 1 49,
mvO 51 7,
iO 52 3 50 51,
lA 53 3 52,
opO 8 (.alloc [(.int .i64 0), (.int .i64 0), (.int .i64 0)]),
⟨none, none, .store 3 (.t 8) (.t 53)⟩] (some [3, 7, 8]))
(.seq (.seq (.ops [fO 54 0 8,
lO 55 1 54,
cO 56 355 55,
opO 57 (.un .not (.t 56)),
mvO 58 57,
⟨(some 59), (some (58, false)), .faddr 1 (.t 8)⟩,
⟨(some 60), (some (58, false)), .load 1 false (.t 59)⟩,
⟨(some 61), (some (58, false)), .call 355 [(.t 60)]⟩,
⟨(some 62), (some (58, false)), .un .not (.t 61)⟩,
opO 63 (.pick (.t 58) (.c (.bool true)) (.t 62)),
mvO 64 63,
⟨(some 65), (some (64, false)), .faddr 2 (.t 8)⟩,
⟨(some 66), (some (64, false)), .load 1 false (.t 65)⟩,
⟨(some 67), (some (64, false)), .call 355 [(.t 66)]⟩,
⟨(some 68), (some (64, false)), .un .not (.t 67)⟩,
opO 69 (.pick (.t 64) (.c (.bool true)) (.t 68))] (some [3, 7, 8, 69]))
(.cond (.t 69)
(.seq (.ops [mvO 70 7,
mvO 4 70,
mO 5 2] (some [4, 5]))
.ret)
.skip))
(.seq (.ops [fO 71 1 8,
lO 72 1 71,
fO 73 0 8,
lO 74 1 73,
opO 75 (.ibin .gtr .i64 (.t 72) (.t 74))] (some [3, 7, 75]))
(.cond (.t 75)
(.seq (.ops [mvO 76 7,
mvO 4 76,
mO 5 9] (some [4, 5]))
.ret)
.skip)))))
(.ops [mvO 47 7,
pO 48 47 1,
mvO 7 48] (some [3, 7])))))))
(.seq (.ops [mO 4 0,
mO 5 0] none)
.ret)))))))))⟩
def ir347 : IFn := ⟨11, [.t 2],
(.seq (.ops [opO 1 (.box (.t 0)),
mO 2 0] (some [1]))
(.seq (.ops [lA 6 3 1,
cO 7 325 6,
mvO 5 7,
xO 8 0 5,
xO 9 1 5,
mvO 3 8,
mvO 4 9] (some [4]))
(.seq (.ops [mvO 10 4,
mvO 2 10] (some [2]))
.ret)))⟩
end Go.Proofs.YtolapannkcdeeaaGreat.AM
