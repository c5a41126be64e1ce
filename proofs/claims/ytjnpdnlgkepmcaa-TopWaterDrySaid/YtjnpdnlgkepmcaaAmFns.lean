/- The functions in the small language. Conditions: none. -/
import Derived.Test.YtjnpdnlgkepmcaaAmFn
namespace Go.Proofs.Ytjnpdnlgkepmcaa.AM
set_option linter.unusedSimpArgs false
set_option linter.unusedVariables false
open Go Go.RowKit
abbrev mvO (d x : Nat) : IOpG := ⟨some d, none, .mov (.t x)⟩
abbrev opO (d : Nat) (x : IOp) : IOpG := ⟨some d, none, x⟩
abbrev ci (n : Int) : Opd := .c (.int .i64 n)
abbrev lO (d n x : Nat) : IOpG := opO d (.load n false (.t x))
abbrev lA (d n x : Nat) : IOpG := opO d (.load n true (.t x))
abbrev fO (d n x : Nat) : IOpG := opO d (.faddr n (.t x))
abbrev mO (d : Nat) (n : Int) : IOpG := opO d (.mov (ci n))
abbrev nO (d x : Nat) : IOpG := opO d (.lenV (.t x))
abbrev xO (d i x : Nat) : IOpG := opO d (.extract i (.t x))
abbrev iO (d z x i : Nat) : IOpG := opO d (.iaddr z (.t x) (.t i))
abbrev pO (d x : Nat) (n : Int) : IOpG := opO d (.ibin .add .i64 (.t x) (ci n))
abbrev sO (d x y : Nat) : IOpG := opO d (.ibin .lss .i64 (.t x) (.t y))
abbrev cO (d k x : Nat) : IOpG := opO d (.call k [.t x])
abbrev bO (d : Nat) (b : Bool) : IOpG := opO d (.mov (.c (.bool b)))
def ir2 : IFn := ⟨1, [],
(.ops [opO 0 (.call 1 [])] (some []))⟩
def ir15 : IFn := ⟨15, [.t 6],
(.seq (.ops [bO 6 false] (some [0, 1, 2]))
(.seq (.ops [mvO 7 1,
mvO 8 0,
opO 9 (.ibin .leq .i64 (.t 7) (.t 8)),
mvO 10 9,
⟨(some 11), (some (10, true)), .mov (.t 0)⟩,
⟨(some 12), (some (10, true)), .mov (.t 2)⟩,
⟨(some 13), (some (10, true)), .ibin .leq .i64 (.t 11) (.t 12)⟩,
opO 14 (.pick (.t 10) (.t 13) (.c (.bool false))),
mvO 6 14] (some [6]))
.ret))⟩
def ir26 : IFn := ⟨26, [.t 4],
(.seq (.ops [bO 4 false] (some [0, 1]))
(.seq (.seq (.ops [mvO 6 0,
nO 7 6,
mvO 8 1,
nO 9 8,
opO 10 (.ibin .neq .i64 (.t 7) (.t 9))] (some [0, 1, 10]))
(.cond (.t 10)
(.seq (.ops [bO 4 false] none)
.ret)
.skip))
(.seq (.seq (.ops [mO 5 0] none)
(.block 0 (.loop (.seq (.seq (.ops [mvO 11 5,
mvO 12 0,
nO 13 12,
sO 14 11 13] (some [0, 1, 5, 14]))
(.cond (.t 14)
.skip
(.exit 0)))
(.seq (.block 1 (.seq (.draw (.rd 0 (mvO 17 0)
(.rd 1 (mvO 18 5)
(.rd 2 (iO 19 1 17 18)
(.rd 3 (lO 20 1 19)
(.rd 4 (mvO 21 1)
(.rd 5 (mvO 22 5)
(.rd 6 (iO 23 1 21 22)
(.rd 7 (lO 24 1 23)
(.rd 8 (opO 25 (.ibin .neq .i64 (.t 20) (.t 24)))
.fin))))))))) (some [0, 1, 5, 25]))
(.cond (.t 25)
(.seq (.ops [bO 4 false] none)
.ret)
.skip)))
(.ops [mvO 15 5,
pO 16 15 1,
mvO 5 16] (some [0, 1, 5])))))))
(.seq (.ops [bO 4 true] none)
.ret))))⟩
def ir73 : IFn := ⟨8, [.t 2],
(.seq (.ops [opO 2 (.mov (.c (.slice none 0 0)))] (some [0]))
(.seq (.seq (.ops [mvO 3 0,
opO 4 (.nileq .sl false (.t 3))] (some [0, 4]))
(.cond (.t 4)
(.seq (.ops [opO 2 (.mov (.c (.slice none 0 0)))] none)
.ret)
.skip))
(.seq (.ops [opO 5 (.bslice 0 1 [(.int .i64 0)] []),
mvO 6 0,
opO 7 (.append 1 8 (.t 5) (.t 6)),
mvO 2 7] (some [2]))
.ret)))⟩
def ir91 : IFn := ⟨55, [.t 2],
(.seq (.ops [bO 2 false] (some [0]))
(.seq (.seq (.ops [mvO 6 0,
opO 7 (.lenS (.t 6)),
opO 8 (.ibin .lss .i64 (.t 7) (ci 1)),
mvO 9 8,
⟨(some 10), (some (9, false)), .mov (.t 0)⟩,
⟨(some 11), (some (9, false)), .lenS (.t 10)⟩,
⟨(some 12), (some (9, false)), .ibin .gtr .i64 (.t 11) (ci 12)⟩,
opO 13 (.pick (.t 9) (.c (.bool true)) (.t 12))] (some [0, 13]))
(.cond (.t 13)
(.seq (.ops [bO 2 false] none)
.ret)
.skip))
(.seq (.seq (.ops [mO 3 0] none)
(.block 0 (.loop (.seq (.seq (.ops [mvO 14 3,
mvO 15 0,
opO 16 (.lenS (.t 15)),
sO 17 14 16] (some [0, 3, 17]))
(.cond (.t 17)
.skip
(.exit 0)))
(.seq (.block 1 (.seq (.ops [mvO 20 0,
mvO 21 3,
opO 22 (.indexS (.t 20) (.t 21)),
mvO 4 22] (some [0, 3, 4]))
(.seq (.ops [mvO 23 4,
opO 24 (.ibin .geq .u8 (.t 23) (.c (.int .u8 97))),
mvO 25 24,
⟨(some 26), (some (25, true)), .mov (.t 4)⟩,
⟨(some 27), (some (25, true)), .ibin .leq .u8 (.t 26) (.c (.int .u8 122))⟩,
opO 28 (.pick (.t 25) (.t 27) (.c (.bool false))),
mvO 29 28,
⟨(some 30), (some (29, false)), .mov (.t 4)⟩,
⟨(some 31), (some (29, false)), .ibin .geq .u8 (.t 30) (.c (.int .u8 65))⟩,
⟨(some 32), (some (29, false)), .mov (.t 31)⟩,
⟨(some 33), (some (32, true)), .mov (.t 4)⟩,
⟨(some 34), (some (32, true)), .ibin .leq .u8 (.t 33) (.c (.int .u8 90))⟩,
⟨(some 35), (some (29, false)), .pick (.t 32) (.t 34) (.c (.bool false))⟩,
opO 36 (.pick (.t 29) (.c (.bool true)) (.t 35)),
mvO 5 36] (some [0, 3, 4, 5]))
(.seq (.ops [mvO 37 5,
opO 38 (.un .not (.t 37)),
mvO 39 38,
⟨(some 40), (some (39, true)), .mov (.t 3)⟩,
⟨(some 41), (some (39, true)), .ibin .eql .i64 (.t 40) (ci 0)⟩,
⟨(some 42), (some (39, true)), .mov (.t 41)⟩,
⟨(some 43), (some (42, false)), .mov (.t 4)⟩,
⟨(some 44), (some (42, false)), .ibin .neq .u8 (.t 43) (.c (.int .u8 45))⟩,
⟨(some 45), (some (42, false)), .mov (.t 44)⟩,
⟨(some 46), (some (45, true)), .mov (.t 4)⟩,
⟨(some 47), (some (45, true)), .ibin .lss .u8 (.t 46) (.c (.int .u8 48))⟩,
⟨(some 48), (some (45, true)), .mov (.t 47)⟩,
⟨(some 49), (some (48, false)), .mov (.t 4)⟩,
⟨(some 50), (some (48, false)), .ibin .gtr .u8 (.t 49) (.c (.int .u8 57))⟩,
⟨(some 51), (some (45, true)), .pick (.t 48) (.c (.bool true)) (.t 50)⟩,
⟨(some 52), (some (42, false)), .pick (.t 45) (.t 51) (.c (.bool false))⟩,
⟨(some 53), (some (39, true)), .pick (.t 42) (.c (.bool true)) (.t 52)⟩,
opO 54 (.pick (.t 39) (.t 53) (.c (.bool false)))] (some [0, 3, 54]))
(.cond (.t 54)
(.seq (.ops [bO 2 false] none)
.ret)
.skip)))))
(.ops [mvO 18 3,
pO 19 18 1,
mvO 3 19] (some [0, 3])))))))
(.seq (.ops [bO 2 true] none)
.ret))))⟩
def ir138 : IFn := ⟨9, [.t 4],
(.seq (.ops [bO 4 false] (some [0, 1]))
(.seq (.ops [mvO 5 0,
mvO 6 1,
opO 7 (.call 145 [(.t 5), (.t 6)]),
opO 8 (.ibin .geq .i64 (.t 7) (ci 0)),
mvO 4 8] (some [4]))
.ret))⟩
def ir145 : IFn := ⟨19, [.t 4],
(.seq (.ops [mO 4 0] (some [0, 1]))
(.seq (.seq (.ops [mvO 6 0,
nO 7 6,
mO 8 0] (some [0, 1, 7, 8]))
(.block 0 (.loop (.seq (.ops [sO 9 8 7] none)
(.seq (.cond (.t 9)
.skip
(.exit 0))
(.seq (.block 1 (.seq (.ops [mvO 10 8,
mvO 5 10] (some [0, 1, 5, 7, 8]))
(.seq (.ops [mvO 11 1,
mvO 12 0,
mvO 13 5,
iO 14 1 12 13,
lO 15 1 14,
opO 16 (.ibin .eql .i64 (.t 11) (.t 15))] (some [0, 1, 5, 7, 8, 16]))
(.cond (.t 16)
(.seq (.ops [mvO 17 5,
mvO 4 17] (some [4]))
.ret)
.skip))))
(.ops [pO 18 8 1,
mvO 8 18] (some [0, 1, 7, 8]))))))))
(.seq (.ops [opO 4 (.mov (ci (-1)))] none)
.ret)))⟩
def ir344 : IFn := ⟨18, [.t 4],
(.seq (.ops [bO 4 false] (some [0, 1]))
(.seq (.seq (.ops [mO 5 0] none)
(.block 0 (.loop (.seq (.seq (.ops [mvO 6 5,
mvO 7 0,
nO 8 7,
sO 9 6 8] (some [0, 1, 5, 9]))
(.cond (.t 9)
.skip
(.exit 0)))
(.seq (.block 1 (.seq (.ops [mvO 12 0,
mvO 13 5,
iO 14 1 12 13,
lO 15 1 14,
mvO 16 1,
opO 17 (.ibin .eql .i64 (.t 15) (.t 16))] (some [0, 1, 5, 17]))
(.cond (.t 17)
(.seq (.ops [bO 4 true] none)
.ret)
.skip)))
(.ops [mvO 10 5,
pO 11 10 1,
mvO 5 11] (some [0, 1, 5])))))))
(.seq (.ops [bO 4 false] none)
.ret)))⟩
def ir346 : IFn := ⟨14, [.t 4],
(.seq (.ops [mO 4 0] (some [0, 1]))
(.seq (.ops [mvO 5 0,
mvO 6 1,
opO 7 (.ibin .rem .i64 (.t 5) (.t 6)),
mvO 0 7] (some [0, 1]))
(.seq (.seq (.ops [mvO 8 0,
opO 9 (.ibin .lss .i64 (.t 8) (ci 0))] (some [0, 1, 9]))
(.cond (.t 9)
(.ops [mvO 10 0,
mvO 11 1,
opO 12 (.ibin .add .i64 (.t 10) (.t 11)),
mvO 0 12] (some [0]))
.skip))
(.seq (.ops [mvO 13 0,
mvO 4 13] (some [4]))
.ret))))⟩
def ir364 : IFn := ⟨18, [.t 4],
(.seq (.ops [bO 4 false] (some [0, 1]))
(.seq (.seq (.ops [mO 5 0] none)
(.block 0 (.loop (.seq (.seq (.ops [mvO 6 5,
mvO 7 0,
nO 8 7,
sO 9 6 8] (some [0, 1, 5, 9]))
(.cond (.t 9)
.skip
(.exit 0)))
(.seq (.block 1 (.seq (.ops [mvO 12 0,
mvO 13 5,
iO 14 1 12 13,
lO 15 1 14,
mvO 16 1,
opO 17 (.sbin .eql (.t 15) (.t 16))] (some [0, 1, 5, 17]))
(.cond (.t 17)
(.seq (.ops [bO 4 true] none)
.ret)
.skip)))
(.ops [mvO 10 5,
pO 11 10 1,
mvO 5 11] (some [0, 1, 5])))))))
(.seq (.ops [bO 4 false] none)
.ret)))⟩
def ir474 : IFn := ⟨225, [.t 6],
(.seq (.ops [opO 3 (.box (.t 0)),
bO 6 false] (some [1, 2, 3]))
(.seq (.seq (.ops [opO 21 (.call 475 []),
opO 22 (.un .not (.t 21))] (some [1, 2, 3, 22]))
(.cond (.t 22)
(.seq (.ops [bO 6 false] none)
.ret)
.skip))
(.seq (.seq (.ops [lA 23 2 3,
cO 24 476 23,
opO 25 (.un .not (.t 24)),
mvO 26 25,
⟨(some 27), (some (26, false)), .load 2 true (.t 3)⟩,
⟨(some 28), (some (26, false)), .call 477 [(.t 27)]⟩,
⟨(some 29), (some (26, false)), .ibin .neq .i64 (.t 28) (ci 0)⟩,
opO 30 (.pick (.t 26) (.c (.bool true)) (.t 29)),
mvO 31 30,
⟨(some 32), (some (31, false)), .mov (.t 1)⟩,
⟨(some 33), (some (31, false)), .faddr 1 (.t 3)⟩,
⟨(some 34), (some (31, false)), .load 1 false (.t 33)⟩,
⟨(some 35), (some (31, false)), .lenV (.t 34)⟩,
⟨(some 36), (some (31, false)), .ibin .sub .i64 (.t 35) (ci 1)⟩,
⟨(some 37), (some (31, false)), .call 15 [(.t 32), (ci 0), (.t 36)]⟩,
⟨(some 38), (some (31, false)), .un .not (.t 37)⟩,
opO 39 (.pick (.t 31) (.c (.bool true)) (.t 38)),
mvO 40 39,
⟨(some 41), (some (40, false)), .mov (.t 2)⟩,
⟨(some 42), (some (40, false)), .lenV (.t 41)⟩,
⟨(some 43), (some (40, false)), .ibin .gtr .i64 (.t 42) (ci 20)⟩,
opO 44 (.pick (.t 40) (.c (.bool true)) (.t 43))] (some [1, 2, 3, 44]))
(.cond (.t 44)
(.seq (.ops [bO 6 true] none)
.ret)
.skip))
(.seq (.ops [fO 45 1 3,
lO 46 1 45,
mvO 47 1,
iO 48 6 46 47,
lA 49 6 48,
opO 7 (.alloc [(.string ⟨#[]⟩), (.int .i64 0), (.int .i64 0), (.int .i64 0), (.bool false), (.bool false)]),
⟨none, none, .store 6 (.t 7) (.t 49)⟩] (some [1, 2, 3, 7]))
(.seq (.ops [lA 50 2 3,
cO 51 478 50,
opO 8 (.alloc [(.slice none 0 0), (.slice none 0 0)]),
⟨none, none, .store 2 (.t 8) (.t 51)⟩] (some [1, 2, 3, 7, 8]))
(.seq (.seq (.ops [mO 9 0] none)
(.block 0 (.loop (.seq (.seq (.ops [mvO 52 9,
fO 53 0 3,
lO 54 1 53,
nO 55 54,
sO 56 52 55] (some [1, 2, 3, 7, 8, 9, 56]))
(.cond (.t 56)
.skip
(.exit 0)))
(.seq (.block 1 (.seq (.seq (.ops [fO 59 0 3,
lO 60 1 59,
mvO 61 9,
iO 62 4 60 61,
fO 63 1 62,
lO 64 1 63,
opO 65 (.un .not (.t 64))] (some [1, 2, 3, 7, 8, 9, 65]))
(.cond (.t 65)
(.exit 1)
.skip))
(.seq (.seq (.ops [mvO 66 9,
fO 67 1 7,
lO 68 1 67,
opO 69 (.ibin .eql .i64 (.t 66) (.t 68)),
mvO 70 69,
⟨(some 71), (some (70, false)), .mov (.t 9)⟩,
⟨(some 72), (some (70, false)), .faddr 2 (.t 7)⟩,
⟨(some 73), (some (70, false)), .load 1 false (.t 72)⟩,
⟨(some 74), (some (70, false)), .ibin .eql .i64 (.t 71) (.t 73)⟩,
opO 75 (.pick (.t 70) (.c (.bool true)) (.t 74))] (some [1, 2, 3, 7, 8, 9, 75]))
(.cond (.t 75)
(.seq (.ops [bO 6 true] none)
.ret)
.skip))
(.seq (.ops [fO 76 1 7,
lO 77 1 76,
fO 78 2 7,
lO 79 1 78,
opO 80 (.bslice 2 1 [(.int .i64 0)] [(0, 1, (.t 77)), (1, 1, (.t 79))]),
mvO 10 80] (some [1, 2, 3, 7, 8, 9, 10]))
(.seq (.ops [mO 11 0] none)
(.block 2 (.loop (.seq (.seq (.ops [mvO 81 11,
opO 82 (.ibin .lss .i64 (.t 81) (ci 2))] (some [1, 2, 3, 7, 8, 9, 10, 11, 82]))
(.cond (.t 82)
.skip
(.exit 2)))
(.seq (.block 3 (.seq (.draw (.rd 0 (lA 86 2 3)
(.rd 2 (mvO 88 9)
(.rd 3 (mvO 89 10)
(.rd 4 (mvO 90 11)
(.rd 5 (iO 91 1 89 90)
(.rd 6 (lO 92 1 91)
(.rd 7 (opO 93 (.build [(.int .i64 0), (.int .i64 0)] [(0, 1, (.t 88)), (1, 1, (.t 92))]))
(.wr 1 (cO 87 478 86) [0]
(.wr 8 (opO 94 (.call 479 [(.t 87), (.t 93)])) [1, 7, 1]
(.rd 9 (mvO 85 94)
(.rd 10 (xO 95 0 85)
(.rd 11 (xO 96 1 85)
(.rd 12 (mvO 12 95)
(.rd 13 (mvO 13 96)
.fin))))) .no) .no)))))))) (some [1, 2, 3, 7, 8, 9, 10, 11, 12, 13]))
(.seq (.seq (.ops [mvO 97 13,
opO 98 (.ibin .neq .i64 (.t 97) (ci 0))] (some [1, 2, 3, 7, 8, 9, 10, 11, 12, 13, 98]))
(.cond (.t 98)
(.seq (.ops [mvO 99 13,
opO 100 (.ibin .eql .i64 (.t 99) (ci 12)),
mvO 6 100] (some [6]))
.ret)
.skip))
(.seq (.ops [mO 14 0] none)
(.block 4 (.loop (.seq (.seq (.ops [mvO 101 14,
mvO 102 12,
nO 103 102,
sO 104 101 103] (some [1, 2, 3, 7, 8, 9, 10, 11, 12, 14, 104]))
(.cond (.t 104)
.skip
(.exit 4)))
(.seq (.block 5 (.seq (.seq (.draw (.rd 0 (mvO 107 12)
(.rd 1 (mvO 108 14)
(.rd 2 (iO 109 1 107 108)
(.rd 3 (lO 110 1 109)
(.rd 4 (fO 111 1 3)
(.rd 5 (lO 112 1 111)
(.rd 6 (nO 113 112)
(.rd 7 (opO 114 (.ibin .sub .i64 (.t 113) (ci 1)))
(.wr 8 (opO 115 (.call 15 [(.t 110), (ci 0), (.t 114)])) [3, 7]
(.rd 9 (opO 116 (.un .not (.t 115)))
(.rd 10 (mvO 117 116)
(.rd 11 ⟨(some 118), (some (117, false)), .faddr 1 (.t 3)⟩
(.rd 12 ⟨(some 119), (some (117, false)), .load 1 false (.t 118)⟩
(.rd 13 ⟨(some 120), (some (117, false)), .mov (.t 12)⟩
(.rd 14 ⟨(some 121), (some (117, false)), .mov (.t 14)⟩
(.rd 15 ⟨(some 122), (some (117, false)), .iaddr 1 (.t 120) (.t 121)⟩
(.rd 16 ⟨(some 123), (some (117, false)), .load 1 false (.t 122)⟩
(.rd 17 ⟨(some 124), (some (117, false)), .iaddr 6 (.t 119) (.t 123)⟩
(.rd 18 ⟨(some 125), (some (117, false)), .faddr 4 (.t 124)⟩
(.rd 19 ⟨(some 126), (some (117, false)), .load 1 false (.t 125)⟩
(.rd 20 ⟨(some 127), (some (117, false)), .un .not (.t 126)⟩
(.rd 21 (opO 128 (.pick (.t 117) (.c (.bool true)) (.t 127)))
(.rd 22 (mvO 129 128)
(.rd 23 ⟨(some 130), (some (129, false)), .faddr 1 (.t 3)⟩
(.rd 24 ⟨(some 131), (some (129, false)), .load 1 false (.t 130)⟩
(.rd 25 ⟨(some 132), (some (129, false)), .mov (.t 12)⟩
(.rd 26 ⟨(some 133), (some (129, false)), .mov (.t 14)⟩
(.rd 27 ⟨(some 134), (some (129, false)), .iaddr 1 (.t 132) (.t 133)⟩
(.rd 28 ⟨(some 135), (some (129, false)), .load 1 false (.t 134)⟩
(.rd 29 ⟨(some 136), (some (129, false)), .iaddr 6 (.t 131) (.t 135)⟩
(.rd 30 ⟨(some 137), (some (129, false)), .faddr 5 (.t 136)⟩
(.rd 31 ⟨(some 138), (some (129, false)), .load 1 false (.t 137)⟩
(.rd 32 ⟨(some 139), (some (129, false)), .un .not (.t 138)⟩
(.rd 33 (opO 140 (.pick (.t 129) (.c (.bool true)) (.t 139)))
.fin))))))))))))))))))))))))) .no))))))))) (some [1, 2, 3, 7, 8, 9, 10, 11, 12, 14, 140]))
(.cond (.t 140)
(.seq (.ops [bO 6 false] none)
.ret)
.skip))
(.draw (.rd 0 (fO 141 1 8)
(.rd 1 (lO 142 1 141)
(.rd 2 (mvO 143 12)
(.rd 3 (mvO 144 14)
(.rd 4 (iO 145 1 143 144)
(.rd 5 (lO 146 1 145)
(.rd 6 (iO 147 6 142 146)
(.rd 7 (fO 148 5 147)
(.wr 8 ⟨none, none, .store 1 (.t 148) (.c (.bool false))⟩ [7, 0, 1, 2, 3, 4, 5]
.fin .no))))))))) (some [1, 2, 3, 7, 8, 9, 10, 11, 12, 14]))))
(.ops [mvO 105 14,
pO 106 105 1,
mvO 14 106] (some [1, 2, 3, 7, 8, 9, 10, 11, 12, 14]))))))))))
(.ops [mvO 83 11,
pO 84 83 1,
mvO 11 84] (some [1, 2, 3, 7, 8, 9, 10, 11])))))))))))
(.ops [mvO 57 9,
pO 58 57 1,
mvO 9 58] (some [1, 2, 3, 7, 8, 9])))))))
(.seq (.ops [lA 150 2 8,
cO 151 478 150,
cO 152 480 151,
mvO 149 152,
xO 153 0 149,
xO 154 1 149,
mvO 15 153,
mvO 16 154] (some [1, 2, 3, 8, 15, 16]))
(.seq (.seq (.ops [mvO 155 16,
opO 156 (.ibin .neq .i64 (.t 155) (ci 0)),
mvO 157 156,
⟨(some 158), (some (157, false)), .mov (.t 15)⟩,
⟨(some 159), (some (157, false)), .mov (.t 1)⟩,
⟨(some 160), (some (157, false)), .call 344 [(.t 158), (.t 159)]⟩,
opO 161 (.pick (.t 157) (.c (.bool true)) (.t 160))] (some [1, 2, 3, 8, 161]))
(.cond (.t 161)
(.seq (.ops [bO 6 false] none)
.ret)
.skip))
(.seq (.seq (.ops [mO 17 0] none)
(.block 6 (.loop (.seq (.seq (.ops [mvO 162 17,
mvO 163 2,
nO 164 163,
sO 165 162 164] (some [1, 2, 3, 8, 17, 165]))
(.cond (.t 165)
.skip
(.exit 6)))
(.seq (.block 7 (.seq (.draw (.rd 0 (mvO 168 2)
(.rd 1 (mvO 169 17)
(.rd 2 (iO 170 1 168 169)
(.rd 3 (lO 171 1 170)
(.rd 4 (fO 172 1 3)
(.rd 5 (lO 173 1 172)
(.rd 6 (nO 174 173)
(.wr 7 (opO 175 (.call 346 [(.t 171), (.t 174)])) [3, 6]
(.rd 8 (mvO 18 175)
.fin) .no)))))))) (some [1, 2, 3, 8, 17, 18]))
(.seq (.seq (.ops [fO 176 1 3,
lO 177 1 176,
mvO 178 18,
iO 179 6 177 178,
fO 180 4 179,
lO 181 1 180,
opO 182 (.un .not (.t 181))] (some [1, 2, 3, 8, 17, 18, 182]))
(.cond (.t 182)
(.exit 7)
.skip))
(.seq (.seq (.ops [fO 183 1 8,
lO 184 1 183,
mvO 185 18,
iO 186 6 184 185,
fO 187 5 186,
lO 188 1 187] (some [1, 2, 3, 8, 17, 18, 188]))
(.cond (.t 188)
(.ops [fO 189 1 8,
lO 190 1 189,
mvO 191 18,
iO 192 6 190 191,
fO 193 5 192,
⟨none, none, .store 1 (.t 193) (.c (.bool false))⟩] (some [1, 2, 3, 8, 17]))
(.seq (.ops [lA 195 2 8,
cO 196 478 195,
mvO 197 18,
opO 198 (.call 481 [(.t 196), (.t 197)]),
mvO 194 198,
xO 199 0 194,
xO 200 1 194,
mvO 19 199,
mvO 20 200] (some [1, 2, 3, 8, 17, 18, 19, 20]))
(.seq (.seq (.ops [mvO 201 20,
opO 202 (.ibin .neq .i64 (.t 201) (ci 0))] (some [1, 2, 3, 8, 17, 18, 19, 202]))
(.cond (.t 202)
(.seq (.ops [bO 6 false] none)
.ret)
.skip))
(.draw (.rd 0 (fO 203 1 8)
(.rd 1 (lO 204 1 203)
(.rd 2 (mvO 205 18)
(.rd 3 (mvO 206 19)
(.rd 4 (mvO 207 1)
(.wr 5 (opO 208 (.call 344 [(.t 206), (.t 207)])) [3, 4]
(.rd 6 (opO 209 (.un .not (.t 208)))
(.rd 7 (iO 210 6 204 205)
(.rd 8 (fO 211 5 210)
(.wr 9 ⟨none, none, .store 1 (.t 211) (.t 209)⟩ [8, 6, 5, 0, 1, 2, 3, 4, 5, 6]
.fin .no)))) .no)))))) (some [1, 2, 3, 8, 17]))))))
(.seq (.ops [lA 213 2 8,
cO 214 478 213,
cO 215 480 214,
mvO 212 215,
xO 216 0 212,
xO 217 1 212,
mvO 15 216,
mvO 16 217] (some [1, 2, 3, 8, 15, 16, 17]))
(.seq (.ops [mvO 218 16,
opO 219 (.ibin .neq .i64 (.t 218) (ci 0)),
mvO 220 219,
⟨(some 221), (some (220, false)), .mov (.t 15)⟩,
⟨(some 222), (some (220, false)), .mov (.t 1)⟩,
⟨(some 223), (some (220, false)), .call 344 [(.t 221), (.t 222)]⟩,
opO 224 (.pick (.t 220) (.c (.bool true)) (.t 223))] (some [1, 2, 3, 8, 17, 224]))
(.cond (.t 224)
(.seq (.ops [bO 6 false] none)
.ret)
.skip)))))))
(.ops [mvO 166 17,
pO 167 166 1,
mvO 17 167] (some [1, 2, 3, 8, 17])))))))
(.seq (.ops [bO 6 true] none)
.ret))))))))))⟩
def ir475 : IFn := ⟨31, [.t 0],
(.seq (.ops [bO 0 false] (some []))
(.seq (.ops [opO 6 (.call 483 []),
cO 7 482 6,
mvO 5 7,
xO 8 0 5,
xO 9 1 5,
opO 1 (.alloc [(.int .i64 0), (.int .i64 0)]),
⟨none, none, .store 2 (.t 1) (.t 8)⟩,
mvO 2 9] (some [1, 2]))
(.seq (.ops [opO 11 (.call 484 []),
opO 12 (.call 481 [(.t 11), (ci 0)]),
mvO 10 12,
xO 13 0 10,
xO 14 1 10,
mvO 3 13,
mvO 4 14] (some [1, 2, 3, 4]))
(.seq (.ops [mvO 15 2,
opO 16 (.ibin .eql .i64 (.t 15) (ci 0)),
mvO 17 16,
⟨(some 18), (some (17, true)), .load 2 true (.t 1)⟩,
⟨(some 19), (some (17, true)), .build [(.int .i64 0), (.int .i64 0)] [(0, 1, (ci 17)), (1, 1, (ci 18))]⟩,
⟨(some 20), (some (17, true)), .eqv (.fld 0 1 (.int .i64) (.fld 1 1 (.int .i64) .nil)) false (.t 18) (.t 19)⟩,
opO 21 (.pick (.t 17) (.t 20) (.c (.bool false))),
mvO 22 21,
⟨(some 23), (some (22, true)), .mov (.t 4)⟩,
⟨(some 24), (some (22, true)), .ibin .eql .i64 (.t 23) (ci 0)⟩,
opO 25 (.pick (.t 22) (.t 24) (.c (.bool false))),
mvO 26 25,
⟨(some 27), (some (26, true)), .mov (.t 3)⟩,
⟨(some 28), (some (26, true)), .bslice 2 1 [(.int .i64 0)] [(0, 1, (ci 0)), (1, 1, (ci 1))]⟩,
⟨(some 29), (some (26, true)), .call 26 [(.t 27), (.t 28)]⟩,
opO 30 (.pick (.t 26) (.t 29) (.c (.bool false))),
mvO 0 30] (some [0]))
.ret))))⟩
def ir476 : IFn := ⟨45, [.t 2],
(.seq (.ops [opO 1 (.box (.t 0)),
bO 2 false] (some [1]))
(.seq (.seq (.ops [fO 5 0 1,
lO 6 1 5,
nO 7 6,
opO 8 (.ibin .gtr .i64 (.t 7) (ci 12)),
mvO 9 8,
⟨(some 10), (some (9, false)), .faddr 1 (.t 1)⟩,
⟨(some 11), (some (9, false)), .load 1 false (.t 10)⟩,
⟨(some 12), (some (9, false)), .lenV (.t 11)⟩,
⟨(some 13), (some (9, false)), .ibin .gtr .i64 (.t 12) (ci 16)⟩,
opO 14 (.pick (.t 9) (.c (.bool true)) (.t 13))] (some [1, 14]))
(.cond (.t 14)
(.seq (.ops [bO 2 false] none)
.ret)
.skip))
(.seq (.seq (.ops [mO 3 0] none)
(.block 0 (.loop (.seq (.seq (.ops [mvO 15 3,
fO 16 0 1,
lO 17 1 16,
nO 18 17,
sO 19 15 18] (some [1, 3, 19]))
(.cond (.t 19)
.skip
(.exit 0)))
(.seq (.block 1 (.seq (.ops [fO 22 0 1,
lO 23 1 22,
mvO 24 3,
iO 25 4 23 24,
fO 26 0 25,
lO 27 1 26,
opO 28 (.lenS (.t 27)),
opO 29 (.ibin .gtr .i64 (.t 28) (ci 20))] (some [1, 3, 29]))
(.cond (.t 29)
(.seq (.ops [bO 2 false] none)
.ret)
.skip)))
(.ops [mvO 20 3,
pO 21 20 1,
mvO 3 21] (some [1, 3])))))))
(.seq (.seq (.ops [mO 4 0] none)
(.block 2 (.loop (.seq (.seq (.ops [mvO 30 4,
fO 31 1 1,
lO 32 1 31,
nO 33 32,
sO 34 30 33] (some [1, 4, 34]))
(.cond (.t 34)
.skip
(.exit 2)))
(.seq (.block 3 (.seq (.ops [fO 37 1 1,
lO 38 1 37,
mvO 39 4,
iO 40 6 38 39,
fO 41 0 40,
lO 42 1 41,
opO 43 (.lenS (.t 42)),
opO 44 (.ibin .gtr .i64 (.t 43) (ci 20))] (some [1, 4, 44]))
(.cond (.t 44)
(.seq (.ops [bO 2 false] none)
.ret)
.skip)))
(.ops [mvO 35 4,
pO 36 35 1,
mvO 4 36] (some [1, 4])))))))
(.seq (.ops [bO 2 true] none)
.ret)))))⟩
def ir477 : IFn := ⟨11, [.t 2],
(.seq (.ops [opO 1 (.box (.t 0)),
mO 2 0] (some [1]))
(.seq (.ops [lA 6 2 1,
cO 7 485 6,
mvO 5 7,
xO 8 0 5,
xO 9 1 5,
mvO 3 8,
mvO 4 9] (some [4]))
(.seq (.ops [mvO 10 4,
mvO 2 10] (some [2]))
.ret)))⟩
def ir478 : IFn := ⟨12, [.cell 2 2 true],
(.seq (.ops [opO 1 (.box (.t 0)),
opO 2 (.alloc [(.slice none 0 0), (.slice none 0 0)])] (some [1, 2]))
(.seq (.draw (.rd 1 (fO 4 0 1)
(.rd 2 (lO 5 1 4)
(.rd 5 (fO 8 1 1)
(.rd 6 (lO 9 1 8)
(.wr 0 (opO 3 (.bslice 0 4 [(.string ⟨#[]⟩), (.bool false), (.int .i64 0), (.int .i64 0)] [])) []
(.wr 3 (opO 6 (.append 4 40 (.t 3) (.t 5))) [0, 2]
(.wr 4 (opO 7 (.bslice 0 6 [(.string ⟨#[]⟩), (.int .i64 0), (.int .i64 0), (.int .i64 0), (.bool false), (.bool false)] [])) []
(.wr 7 (opO 10 (.append 6 48 (.t 7) (.t 9))) [4, 6, 3]
(.rd 8 (opO 11 (.build [(.slice none 0 0), (.slice none 0 0)] [(0, 1, (.t 6)), (1, 1, (.t 10))]))
(.wr 9 ⟨none, none, .store 2 (.t 2) (.t 11)⟩ [8, 7, 0, 1, 2, 3, 4, 5, 6, 7, 8]
.fin .no)) .no) .no)
(.wr 4 (opO 7 (.bslice 0 6 [(.string ⟨#[]⟩), (.int .i64 0), (.int .i64 0), (.int .i64 0), (.bool false), (.bool false)] [])) []
(.wr 3 (opO 6 (.append 4 40 (.t 3) (.t 5))) [0, 2]
(.wr 7 (opO 10 (.append 6 48 (.t 7) (.t 9))) [4, 6, 3]
(.rd 8 (opO 11 (.build [(.slice none 0 0), (.slice none 0 0)] [(0, 1, (.t 6)), (1, 1, (.t 10))]))
(.wr 9 ⟨none, none, .store 2 (.t 2) (.t 11)⟩ [8, 7, 0, 1, 2, 3, 4, 5, 6, 7, 8]
.fin .no)) .no) .no) .no))
(.wr 4 (opO 7 (.bslice 0 6 [(.string ⟨#[]⟩), (.int .i64 0), (.int .i64 0), (.int .i64 0), (.bool false), (.bool false)] [])) []
(.wr 0 (opO 3 (.bslice 0 4 [(.string ⟨#[]⟩), (.bool false), (.int .i64 0), (.int .i64 0)] [])) []
(.wr 3 (opO 6 (.append 4 40 (.t 3) (.t 5))) [0, 2]
(.wr 7 (opO 10 (.append 6 48 (.t 7) (.t 9))) [4, 6, 3]
(.rd 8 (opO 11 (.build [(.slice none 0 0), (.slice none 0 0)] [(0, 1, (.t 6)), (1, 1, (.t 10))]))
(.wr 9 ⟨none, none, .store 2 (.t 2) (.t 11)⟩ [8, 7, 0, 1, 2, 3, 4, 5, 6, 7, 8]
.fin .no)) .no) .no) .no) .no)))))) (some [2]))
.ret))⟩
def ir479 : IFn := ⟨29, [.t 4, .t 5],
(.seq (.ops [opO 2 (.box (.t 0)),
opO 3 (.box (.t 1)),
opO 4 (.mov (.c (.slice none 0 0))),
mO 5 0] (some [2, 3]))
(.seq (.ops [lA 11 2 2,
lA 12 2 3,
opO 13 (.call 486 [(.t 11), (.t 12)]),
mvO 10 13,
xO 14 0 10,
xO 15 1 10,
opO 6 (.alloc [(.slice none 0 0), (.slice none 0 0)]),
⟨none, none, .store 2 (.t 6) (.t 14)⟩,
mvO 7 15] (some [3, 6, 7]))
(.seq (.seq (.ops [mvO 16 7,
opO 17 (.ibin .neq .i64 (.t 16) (ci 0))] (some [3, 6, 7, 17]))
(.cond (.t 17)
(.seq (.ops [mvO 18 7,
opO 4 (.mov (.c (.slice none 0 0))),
mvO 5 18] (some [4, 5]))
.ret)
.skip))
(.seq (.ops [lA 20 2 6,
lA 21 2 3,
opO 22 (.call 487 [(.t 20), (.t 21)]),
mvO 19 22,
xO 23 0 19,
xO 24 1 19,
mvO 8 23,
mvO 9 24] (some [8, 9]))
(.seq (.seq (.ops [mvO 25 9,
opO 26 (.un .not (.t 25))] (some [8, 26]))
(.cond (.t 26)
(.seq (.ops [opO 4 (.mov (.c (.slice none 0 0))),
mO 5 12] none)
.ret)
.skip))
(.seq (.ops [mvO 27 8,
cO 28 73 27,
mvO 4 28,
mO 5 0] (some [4, 5]))
.ret))))))⟩
def ir480 : IFn := ⟨17, [.t 2, .t 3],
(.seq (.ops [opO 1 (.box (.t 0)),
opO 2 (.mov (.c (.slice none 0 0))),
mO 3 0] (some [1]))
(.seq (.ops [lA 7 2 1,
cO 8 488 7,
mvO 6 8,
xO 9 0 6,
xO 10 1 6,
opO 4 (.alloc [(.slice none 0 0), (.slice none 0 0)]),
⟨none, none, .store 2 (.t 4) (.t 9)⟩,
mvO 5 10] (some [4, 5]))
(.seq (.seq (.ops [mvO 11 5,
opO 12 (.ibin .neq .i64 (.t 11) (ci 0))] (some [4, 5, 12]))
(.cond (.t 12)
(.seq (.ops [mvO 13 5,
opO 2 (.mov (.c (.slice none 0 0))),
mvO 3 13] (some [2, 3]))
.ret)
.skip))
(.seq (.ops [lA 14 2 4,
cO 15 490 14,
cO 16 489 15,
mvO 2 16,
mO 3 0] (some [2, 3]))
.ret))))⟩
def ir481 : IFn := ⟨67, [.t 4, .t 5],
(.seq (.ops [opO 2 (.box (.t 0)),
opO 4 (.mov (.c (.slice none 0 0))),
mO 5 0] (some [1, 2]))
(.seq (.ops [lA 12 2 2,
cO 13 488 12,
mvO 11 13,
xO 14 0 11,
xO 15 1 11,
opO 6 (.alloc [(.slice none 0 0), (.slice none 0 0)]),
⟨none, none, .store 2 (.t 6) (.t 14)⟩,
mvO 7 15] (some [1, 2, 6, 7]))
(.seq (.seq (.ops [mvO 16 7,
mvO 17 1,
fO 18 1 2,
lO 19 1 18,
nO 20 19,
opO 21 (.ibin .sub .i64 (.t 20) (ci 1)),
opO 22 (.call 493 [(.t 17), (ci 0), (.t 21)]),
opO 23 (.call 492 [(.t 22), (ci 6)]),
opO 24 (.bslice 2 1 [(.int .i64 0)] [(0, 1, (.t 16)), (1, 1, (.t 23))]),
cO 25 491 24,
mvO 7 25] (some [1, 6, 7]))
(.seq (.ops [mvO 26 7,
opO 27 (.ibin .neq .i64 (.t 26) (ci 0))] (some [1, 6, 7, 27]))
(.cond (.t 27)
(.seq (.ops [mvO 28 7,
opO 4 (.mov (.c (.slice none 0 0))),
mvO 5 28] (some [4, 5]))
.ret)
.skip)))
(.seq (.seq (.ops [fO 29 0 6,
fO 30 1 29,
lO 31 1 30,
mvO 32 1,
iO 33 6 31 32,
fO 34 4 33,
lO 35 1 34,
opO 36 (.un .not (.t 35))] (some [1, 6, 36]))
(.cond (.t 36)
(.seq (.ops [opO 4 (.mov (.c (.slice none 0 0))),
mO 5 12] none)
.ret)
.skip))
(.seq (.ops [lA 37 2 6,
mvO 38 1,
opO 39 (.call 494 [(.t 37), (.t 38), (.c (.bool false))]),
cO 40 490 39,
mvO 8 40] (some [1, 6, 8]))
(.seq (.ops [lA 41 2 6,
mvO 42 1,
opO 43 (.call 494 [(.t 41), (.t 42), (.c (.bool true))]),
cO 44 490 43,
mvO 9 44] (some [8, 9]))
(.seq (.seq (.ops [mvO 45 9,
nO 46 45,
mO 47 0] (some [8, 9, 46, 47]))
(.block 0 (.loop (.seq (.ops [sO 48 47 46] none)
(.seq (.cond (.t 48)
.skip
(.exit 0))
(.seq (.block 1 (.seq (.ops [mvO 49 47,
mvO 10 49] (some [8, 9, 10, 46, 47]))
(.ops [mvO 50 9,
mvO 51 10,
mvO 52 9,
mvO 53 10,
iO 54 1 52 53,
lO 55 1 54,
mvO 56 55,
⟨(some 57), (some (56, true)), .mov (.t 8)⟩,
⟨(some 58), (some (56, true)), .mov (.t 10)⟩,
⟨(some 59), (some (56, true)), .iaddr 1 (.t 57) (.t 58)⟩,
⟨(some 60), (some (56, true)), .load 1 false (.t 59)⟩,
⟨(some 61), (some (56, true)), .un .not (.t 60)⟩,
opO 62 (.pick (.t 56) (.t 61) (.c (.bool false))),
iO 63 1 50 51,
⟨none, none, .store 1 (.t 63) (.t 62)⟩] (some [8, 9, 46, 47]))))
(.ops [pO 64 47 1,
mvO 47 64] (some [8, 9, 46, 47]))))))))
(.seq (.ops [mvO 65 9,
cO 66 489 65,
mvO 4 66,
mO 5 0] (some [4, 5]))
.ret))))))))⟩
def ir482 : IFn := ⟨17, [.cell 2 2 true, .t 3],
(.seq (.ops [opO 1 (.box (.t 0)),
opO 2 (.alloc [(.int .i64 0), (.int .i64 0)]),
mO 3 0] (some [1, 2]))
(.seq (.ops [lA 7 2 1,
cO 8 495 7,
mvO 6 8,
xO 9 0 6,
xO 10 1 6,
opO 4 (.alloc [(.slice none 0 0), (.slice none 0 0), (.slice none 0 0), (.int .i64 0)]),
⟨none, none, .store 4 (.t 4) (.t 9)⟩,
mvO 5 10] (some [2, 4, 5]))
(.seq (.seq (.ops [mvO 11 5,
opO 12 (.ibin .neq .i64 (.t 11) (ci 0))] (some [2, 4, 5, 12]))
(.cond (.t 12)
(.seq (.ops [opO 13 (.build [(.int .i64 0), (.int .i64 0)] []),
mvO 14 5,
⟨none, none, .store 2 (.t 2) (.t 13)⟩,
mvO 3 14] (some [2, 3]))
.ret)
.skip))
(.seq (.ops [lA 15 4 4,
cO 16 496 15,
⟨none, none, .store 2 (.t 2) (.t 16)⟩,
mO 3 0] (some [2, 3]))
.ret))))⟩
def ir483 : IFn := ⟨9, [.cell 0 2 true],
(.seq (.ops [opO 0 (.alloc [(.slice none 0 0), (.slice none 0 0)])] none)
(.seq (.ops [opO 1 (.build [(.string ⟨#[]⟩), (.bool false), (.int .i64 0), (.int .i64 0)] [(0, 1, (.c (.string ⟨#[117, 112]⟩))), (1, 1, (.c (.bool true))), (2, 1, (ci 100))]),
opO 2 (.build [(.string ⟨#[]⟩), (.bool false), (.int .i64 0), (.int .i64 0)] [(0, 1, (.c (.string ⟨#[106]⟩))), (3, 1, (ci 3))]),
opO 3 (.build [(.string ⟨#[]⟩), (.bool false), (.int .i64 0), (.int .i64 0)] [(0, 1, (.c (.string ⟨#[100, 111, 119, 110]⟩))), (1, 1, (.c (.bool true)))]),
opO 4 (.bslice 3 4 [(.string ⟨#[]⟩), (.bool false), (.int .i64 0), (.int .i64 0)] [(0, 4, (.t 1)), (4, 4, (.t 2)), (8, 4, (.t 3))]),
opO 5 (.build [(.string ⟨#[]⟩), (.int .i64 0), (.int .i64 0), (.int .i64 0), (.bool false), (.bool false)] [(0, 1, (.c (.string ⟨#[97]⟩))), (2, 1, (ci 1)), (3, 1, (ci 100)), (5, 1, (.c (.bool true)))]),
opO 6 (.build [(.string ⟨#[]⟩), (.int .i64 0), (.int .i64 0), (.int .i64 0), (.bool false), (.bool false)] [(0, 1, (.c (.string ⟨#[98]⟩))), (1, 1, (ci 1)), (2, 1, (ci 2)), (3, 1, (ci 200)), (4, 1, (.c (.bool true))), (5, 1, (.c (.bool true)))]),
opO 7 (.bslice 2 6 [(.string ⟨#[]⟩), (.int .i64 0), (.int .i64 0), (.int .i64 0), (.bool false), (.bool false)] [(0, 6, (.t 5)), (6, 6, (.t 6))]),
opO 8 (.build [(.slice none 0 0), (.slice none 0 0)] [(0, 1, (.t 4)), (1, 1, (.t 7))]),
⟨none, none, .store 2 (.t 0) (.t 8)⟩] (some [0]))
.ret))⟩
def ir484 : IFn := ⟨9, [.cell 0 2 true],
(.seq (.ops [opO 0 (.alloc [(.slice none 0 0), (.slice none 0 0)])] none)
(.seq (.ops [opO 1 (.build [(.string ⟨#[]⟩), (.bool false), (.int .i64 0), (.int .i64 0)] [(0, 1, (.c (.string ⟨#[115]⟩))), (1, 1, (.c (.bool true)))]),
opO 2 (.build [(.string ⟨#[]⟩), (.bool false), (.int .i64 0), (.int .i64 0)] [(0, 1, (.c (.string ⟨#[116]⟩)))]),
opO 3 (.build [(.string ⟨#[]⟩), (.bool false), (.int .i64 0), (.int .i64 0)] [(0, 1, (.c (.string ⟨#[117]⟩)))]),
opO 4 (.bslice 3 4 [(.string ⟨#[]⟩), (.bool false), (.int .i64 0), (.int .i64 0)] [(0, 4, (.t 1)), (4, 4, (.t 2)), (8, 4, (.t 3))]),
opO 5 (.build [(.string ⟨#[]⟩), (.int .i64 0), (.int .i64 0), (.int .i64 0), (.bool false), (.bool false)] [(0, 1, (.c (.string ⟨#[112]⟩))), (2, 1, (ci 1)), (4, 1, (.c (.bool true)))]),
opO 6 (.build [(.string ⟨#[]⟩), (.int .i64 0), (.int .i64 0), (.int .i64 0), (.bool false), (.bool false)] [(0, 1, (.c (.string ⟨#[113]⟩))), (1, 1, (ci 1)), (2, 1, (ci 2)), (5, 1, (.c (.bool true)))]),
opO 7 (.bslice 2 6 [(.string ⟨#[]⟩), (.int .i64 0), (.int .i64 0), (.int .i64 0), (.bool false), (.bool false)] [(0, 6, (.t 5)), (6, 6, (.t 6))]),
opO 8 (.build [(.slice none 0 0), (.slice none 0 0)] [(0, 1, (.t 4)), (1, 1, (.t 7))]),
⟨none, none, .store 2 (.t 0) (.t 8)⟩] (some [0]))
.ret))⟩
def ir485 : IFn := ⟨84, [.t 2, .t 3],
(.seq (.ops [opO 1 (.box (.t 0)),
mO 2 0,
mO 3 0] (some [1]))
(.seq (.seq (.ops [fO 9 0 1,
lO 10 1 9,
nO 11 10,
opO 12 (.ibin .eql .i64 (.t 11) (ci 0)),
mvO 13 12,
⟨(some 14), (some (13, false)), .faddr 1 (.t 1)⟩,
⟨(some 15), (some (13, false)), .load 1 false (.t 14)⟩,
⟨(some 16), (some (13, false)), .lenV (.t 15)⟩,
⟨(some 17), (some (13, false)), .ibin .eql .i64 (.t 16) (ci 0)⟩,
opO 18 (.pick (.t 13) (.c (.bool true)) (.t 17))] (some [1, 18]))
(.cond (.t 18)
(.seq (.ops [mO 2 0,
mO 3 10] none)
.ret)
.skip))
(.seq (.seq (.ops [fO 19 0 1,
lO 20 1 19,
nO 21 20,
opO 22 (.ibin .gtr .i64 (.t 21) (ci 10)),
mvO 23 22,
⟨(some 24), (some (23, false)), .faddr 1 (.t 1)⟩,
⟨(some 25), (some (23, false)), .load 1 false (.t 24)⟩,
⟨(some 26), (some (23, false)), .lenV (.t 25)⟩,
⟨(some 27), (some (23, false)), .ibin .gtr .i64 (.t 26) (ci 14)⟩,
opO 28 (.pick (.t 23) (.c (.bool true)) (.t 27))] (some [1, 28]))
(.cond (.t 28)
(.seq (.ops [mO 2 0,
mO 3 8] none)
.ret)
.skip))
(.seq (.ops [opO 4 (.mov (.c (.slice none 0 0)))] none)
(.seq (.seq (.ops [mO 5 0] none)
(.block 0 (.loop (.seq (.seq (.ops [mvO 29 5,
fO 30 0 1,
lO 31 1 30,
nO 32 31,
sO 33 29 32] (some [1, 4, 5, 33]))
(.cond (.t 33)
.skip
(.exit 0)))
(.seq (.block 1 (.seq (.seq (.ops [fO 36 0 1,
lO 37 1 36,
mvO 38 5,
iO 39 4 37 38,
lA 40 4 39,
mvO 41 4,
opO 42 (.call 497 [(.t 40), (.t 41)]),
mvO 6 42] (some [1, 4, 5, 6]))
(.seq (.ops [mvO 43 6,
opO 44 (.ibin .neq .i64 (.t 43) (ci 0))] (some [1, 4, 5, 6, 44]))
(.cond (.t 44)
(.seq (.ops [mvO 45 5,
mvO 46 6,
mvO 2 45,
mvO 3 46] (some [2, 3]))
.ret)
.skip)))
(.ops [mvO 47 4,
fO 48 0 1,
lO 49 1 48,
mvO 50 5,
iO 51 4 49 50,
fO 52 0 51,
lO 53 1 52,
opO 54 (.bslice 1 1 [(.string ⟨#[]⟩)] [(0, 1, (.t 53))]),
opO 55 (.append 1 16 (.t 47) (.t 54)),
mvO 4 55] (some [1, 4, 5]))))
(.ops [mvO 34 5,
pO 35 34 1,
mvO 5 35] (some [1, 4, 5])))))))
(.seq (.ops [opO 4 (.mov (.c (.slice none 0 0)))] none)
(.seq (.seq (.ops [mO 7 0] none)
(.block 2 (.loop (.seq (.seq (.ops [mvO 56 7,
fO 57 1 1,
lO 58 1 57,
nO 59 58,
sO 60 56 59] (some [1, 4, 7, 60]))
(.cond (.t 60)
.skip
(.exit 2)))
(.seq (.block 3 (.seq (.seq (.draw (.rd 0 (lA 63 2 1)
(.rd 1 (fO 64 1 1)
(.rd 2 (lO 65 1 64)
(.rd 3 (mvO 66 7)
(.rd 4 (iO 67 6 65 66)
(.rd 5 (lA 68 6 67)
(.rd 6 (mvO 69 4)
(.wr 7 (opO 70 (.call 498 [(.t 63), (.t 68), (.t 69)])) [0, 5, 6]
(.rd 8 (mvO 8 70)
.fin) .no)))))))) (some [1, 4, 7, 8]))
(.seq (.ops [mvO 71 8,
opO 72 (.ibin .neq .i64 (.t 71) (ci 0))] (some [1, 4, 7, 8, 72]))
(.cond (.t 72)
(.seq (.ops [mvO 73 7,
mvO 74 8,
mvO 2 73,
mvO 3 74] (some [2, 3]))
.ret)
.skip)))
(.ops [mvO 75 4,
fO 76 1 1,
lO 77 1 76,
mvO 78 7,
iO 79 6 77 78,
fO 80 0 79,
lO 81 1 80,
opO 82 (.bslice 1 1 [(.string ⟨#[]⟩)] [(0, 1, (.t 81))]),
opO 83 (.append 1 16 (.t 75) (.t 82)),
mvO 4 83] (some [1, 4, 7]))))
(.ops [mvO 61 7,
pO 62 61 1,
mvO 7 62] (some [1, 4, 7])))))))
(.seq (.ops [mO 2 0,
mO 3 0] none)
.ret))))))))⟩
def ir486 : IFn := ⟨31, [.cell 4 2 true, .t 5],
(.seq (.ops [opO 2 (.box (.t 0)),
opO 3 (.box (.t 1)),
opO 4 (.alloc [(.slice none 0 0), (.slice none 0 0)]),
mO 5 0] (some [2, 3, 4]))
(.seq (.ops [lA 9 2 2,
cO 10 488 9,
mvO 8 10,
xO 11 0 8,
xO 12 1 8,
opO 6 (.alloc [(.slice none 0 0), (.slice none 0 0)]),
⟨none, none, .store 2 (.t 6) (.t 11)⟩,
mvO 7 12] (some [3, 4, 6, 7]))
(.seq (.draw (.rd 0 (lA 13 2 6)
(.rd 1 (mvO 14 7)
(.rd 2 (lA 15 2 6)
(.rd 3 (fO 16 0 3)
(.rd 4 (lO 17 1 16)
(.rd 6 (lA 19 2 6)
(.rd 7 (fO 20 1 3)
(.rd 8 (lO 21 1 20)
(.rd 10 (fO 23 0 3)
(.rd 11 (lO 24 1 23)
(.rd 12 (fO 25 1 3)
(.rd 13 (lO 26 1 25)
(.rd 14 (opO 27 (.ibin .neq .i64 (.t 24) (.t 26)))
(.wr 5 (opO 18 (.call 499 [(.t 15), (.t 17)])) [2, 4]
(.wr 9 (opO 22 (.call 499 [(.t 19), (.t 21)])) [6, 8, 5]
(.wr 15 (opO 28 (.call 492 [(.t 27), (ci 13)])) [14, 9]
(.wr 16 (opO 29 (.bslice 4 1 [(.int .i64 0)] [(0, 1, (.t 14)), (1, 1, (.t 18)), (2, 1, (.t 22)), (3, 1, (.t 28))])) [1, 5, 9, 15]
(.wr 17 (cO 30 491 29) [16, 15]
(.wr 18 ⟨none, none, .store 2 (.t 4) (.t 13)⟩ [0, 17, 0]
(.rd 19 (mvO 5 30)
.fin) .no) .no) .no) .no) .no) .no)))))))))))))) (some [4, 5]))
.ret)))⟩
def ir487 : IFn := ⟨50, [.t 4, .t 5],
(.seq (.ops [opO 2 (.box (.t 0)),
opO 3 (.box (.t 1)),
opO 4 (.mov (.c (.slice none 0 0))),
bO 5 false] (some [2, 3]))
(.seq (.ops [opO 6 (.mov (.c (.slice none 0 0)))] none)
(.seq (.seq (.ops [fO 13 0 2,
fO 14 1 13,
lO 15 1 14,
nO 16 15,
mO 17 0] (some [2, 3, 6, 15, 16, 17]))
(.block 0 (.loop (.seq (.ops [sO 18 17 16] none)
(.seq (.cond (.t 18)
.skip
(.exit 0))
(.seq (.block 1 (.seq (.ops [mvO 19 17,
iO 20 6 15 17,
lA 21 6 20,
opO 8 (.alloc [(.string ⟨#[]⟩), (.int .i64 0), (.int .i64 0), (.int .i64 0), (.bool false), (.bool false)]),
mvO 7 19,
⟨none, none, .store 6 (.t 8) (.t 21)⟩] (some [2, 3, 6, 7, 8, 15, 16, 17]))
(.seq (.ops [fO 22 4 8,
lO 23 1 22,
mvO 24 23,
⟨(some 25), (some (24, true)), .faddr 5 (.t 8)⟩,
⟨(some 26), (some (24, true)), .load 1 false (.t 25)⟩,
opO 27 (.pick (.t 24) (.t 26) (.c (.bool false)))] (some [2, 3, 6, 7, 15, 16, 17, 27]))
(.cond (.t 27)
(.ops [mvO 28 6,
mvO 29 7,
opO 30 (.bslice 1 1 [(.int .i64 0)] [(0, 1, (.t 29))]),
opO 31 (.append 1 8 (.t 28) (.t 30)),
mvO 6 31] (some [2, 3, 6, 15, 16, 17]))
.skip))))
(.ops [pO 32 17 1,
mvO 17 32] (some [2, 3, 6, 15, 16, 17]))))))))
(.seq (.ops [opO 33 (.mkfunc 500 [] [(.t 2), (.t 3)]),
mvO 9 33] (some [6, 9]))
(.seq (.seq (.ops [mvO 34 6,
nO 35 34,
pO 36 35 1,
mO 37 0] (some [6, 9, 36, 37]))
(.block 2 (.loop (.seq (.ops [sO 38 37 36] none)
(.seq (.cond (.t 38)
.skip
(.exit 2))
(.seq (.block 3 (.seq (.ops [mvO 39 37,
mvO 10 39] (some [6, 9, 10, 36, 37]))
(.seq (.ops [mvO 41 6,
mvO 42 10,
mvO 43 9,
opO 44 (.call 504 [(.c (.slice none 0 0)), (.t 41), (.t 42), (.t 43)]),
mvO 40 44,
xO 45 0 40,
xO 46 1 40,
mvO 11 45,
mvO 12 46] (some [6, 9, 11, 12, 36, 37]))
(.seq (.ops [mvO 47 12] (some [6, 9, 11, 36, 37, 47]))
(.cond (.t 47)
(.seq (.ops [mvO 48 11,
mvO 4 48,
bO 5 true] (some [4, 5]))
.ret)
.skip)))))
(.ops [pO 49 37 1,
mvO 37 49] (some [6, 9, 36, 37]))))))))
(.seq (.ops [opO 4 (.mov (.c (.slice none 0 0))),
bO 5 false] none)
.ret))))))⟩
def ir488 : IFn := ⟨14, [.cell 2 2 true, .t 3],
(.seq (.ops [opO 1 (.box (.t 0)),
opO 2 (.alloc [(.slice none 0 0), (.slice none 0 0)]),
mO 3 0] (some [1, 2]))
(.seq (.ops [lA 7 2 1,
cO 8 505 7,
mvO 6 8,
xO 9 0 6,
xO 10 1 6,
mvO 4 9,
mvO 5 10] (some [1, 2, 5]))
(.seq (.ops [lA 11 2 1,
opO 12 (.build [(.slice none 0 0), (.slice none 0 0)] [(0, 2, (.t 11))]),
mvO 13 5,
⟨none, none, .store 2 (.t 2) (.t 12)⟩,
mvO 3 13] (some [2, 3]))
.ret)))⟩
def ir489 : IFn := ⟨20, [.t 2],
(.seq (.ops [opO 2 (.mov (.c (.slice none 0 0)))] (some [0]))
(.seq (.ops [opO 3 (.mov (.c (.slice none 0 0)))] none)
(.seq (.seq (.ops [mvO 6 0,
nO 7 6,
mO 8 0] (some [3, 6, 7, 8]))
(.block 0 (.loop (.seq (.ops [sO 9 8 7] none)
(.seq (.cond (.t 9)
.skip
(.exit 0))
(.seq (.block 1 (.seq (.ops [mvO 10 8,
iO 11 1 6 8,
lO 12 1 11,
mvO 4 10,
mvO 5 12] (some [3, 4, 5, 6, 7, 8]))
(.seq (.ops [mvO 13 5] (some [3, 4, 6, 7, 8, 13]))
(.cond (.t 13)
(.ops [mvO 14 3,
mvO 15 4,
opO 16 (.bslice 1 1 [(.int .i64 0)] [(0, 1, (.t 15))]),
opO 17 (.append 1 8 (.t 14) (.t 16)),
mvO 3 17] (some [3, 6, 7, 8]))
.skip))))
(.ops [pO 18 8 1,
mvO 8 18] (some [3, 6, 7, 8]))))))))
(.seq (.ops [mvO 19 3,
mvO 2 19] (some [2]))
.ret))))⟩
def ir490 : IFn := ⟨42, [.t 2],
(.seq (.ops [opO 1 (.box (.t 0)),
opO 2 (.mov (.c (.slice none 0 0)))] (some [1]))
(.seq (.draw (.rd 0 (lA 7 2 1)
(.rd 1 (lA 8 2 1)
(.rd 3 (lA 10 2 1)
(.rd 4 (opO 11 (.mkfunc 503 [(.t 10)] []))
(.wr 2 (cO 9 507 8) [1]
(.wr 5 (opO 12 (.call 506 [(.t 7), (.t 9), (.t 11)])) [0, 2, 4, 2]
(.rd 6 (mvO 3 12)
.fin) .no) .no))))) (some [1, 3]))
(.seq (.ops [opO 4 (.mov (.c (.slice none 0 0)))] none)
(.seq (.seq (.ops [fO 13 0 1,
fO 14 1 13,
lO 15 1 14,
nO 16 15,
mO 17 0] (some [3, 4, 15, 16, 17]))
(.block 0 (.loop (.seq (.ops [sO 18 17 16] none)
(.seq (.cond (.t 18)
.skip
(.exit 0))
(.seq (.block 1 (.seq (.ops [iO 19 6 15 17,
lA 20 6 19,
opO 6 (.alloc [(.string ⟨#[]⟩), (.int .i64 0), (.int .i64 0), (.int .i64 0), (.bool false), (.bool false)]),
⟨none, none, .store 6 (.t 6) (.t 20)⟩] (some [3, 4, 6, 15, 16, 17]))
(.ops [mvO 21 4,
mvO 22 3,
fO 23 2 6,
lO 24 1 23,
iO 25 1 22 24,
lO 26 1 25,
mvO 27 26,
⟨(some 28), (some (27, false)), .faddr 5 (.t 6)⟩,
⟨(some 29), (some (27, false)), .load 1 false (.t 28)⟩,
⟨(some 30), (some (27, false)), .mov (.t 29)⟩,
⟨(some 31), (some (30, true)), .mov (.t 3)⟩,
⟨(some 32), (some (30, true)), .faddr 1 (.t 6)⟩,
⟨(some 33), (some (30, true)), .load 1 false (.t 32)⟩,
⟨(some 34), (some (30, true)), .iaddr 1 (.t 31) (.t 33)⟩,
⟨(some 35), (some (30, true)), .load 1 false (.t 34)⟩,
⟨(some 36), (some (27, false)), .pick (.t 30) (.t 35) (.c (.bool false))⟩,
opO 37 (.pick (.t 27) (.c (.bool true)) (.t 36)),
opO 38 (.bslice 1 1 [(.bool false)] [(0, 1, (.t 37))]),
opO 39 (.append 1 1 (.t 21) (.t 38)),
mvO 4 39] (some [3, 4, 15, 16, 17]))))
(.ops [pO 40 17 1,
mvO 17 40] (some [3, 4, 15, 16, 17]))))))))
(.seq (.ops [mvO 41 4,
mvO 2 41] (some [2]))
.ret)))))⟩
def ir491 : IFn := ⟨15, [.t 2],
(.seq (.ops [mO 2 0] (some [0]))
(.seq (.seq (.ops [mvO 5 0,
nO 6 5,
mO 7 0] (some [5, 6, 7]))
(.block 0 (.loop (.seq (.ops [sO 8 7 6] none)
(.seq (.cond (.t 8)
.skip
(.exit 0))
(.seq (.block 1 (.seq (.ops [iO 9 1 5 7,
lO 10 1 9,
mvO 4 10] (some [4, 5, 6, 7]))
(.seq (.ops [mvO 11 4,
opO 12 (.ibin .neq .i64 (.t 11) (ci 0))] (some [4, 5, 6, 7, 12]))
(.cond (.t 12)
(.seq (.ops [mvO 13 4,
mvO 2 13] (some [2]))
.ret)
.skip))))
(.ops [pO 14 7 1,
mvO 7 14] (some [5, 6, 7]))))))))
(.seq (.ops [mO 2 0] none)
.ret)))⟩
def ir492 : IFn := ⟨7, [.t 4],
(.seq (.ops [mO 4 0] (some [0, 1]))
(.seq (.seq (.ops [mvO 5 0] (some [1, 5]))
(.cond (.t 5)
(.seq (.ops [mO 4 0] none)
.ret)
.skip))
(.seq (.ops [mvO 6 1,
mvO 4 6] (some [4]))
.ret)))⟩
def ir493 : IFn := ⟨15, [.t 6],
(.seq (.ops [bO 6 false] (some [0, 1, 2]))
(.seq (.ops [mvO 7 1,
mvO 8 0,
opO 9 (.ibin .leq .i64 (.t 7) (.t 8)),
mvO 10 9,
⟨(some 11), (some (10, true)), .mov (.t 0)⟩,
⟨(some 12), (some (10, true)), .mov (.t 2)⟩,
⟨(some 13), (some (10, true)), .ibin .leq .i64 (.t 11) (.t 12)⟩,
opO 14 (.pick (.t 10) (.t 13) (.c (.bool false))),
mvO 6 14] (some [6]))
.ret))⟩
def ir494 : IFn := ⟨25, [.cell 6 2 true],
(.seq (.ops [opO 3 (.box (.t 0)),
opO 6 (.alloc [(.slice none 0 0), (.slice none 0 0)])] (some [1, 2, 3, 6]))
(.seq (.draw (.rd 0 (fO 8 0 3)
(.rd 1 (fO 9 0 8)
(.rd 2 (lO 10 1 9)
(.rd 3 (fO 11 0 3)
(.rd 4 (fO 12 1 11)
(.rd 5 (lO 13 1 12)
(.wr 6 (cO 14 508 13) [5]
(.rd 7 (opO 15 (.build [(.slice none 0 0), (.slice none 0 0)] [(0, 1, (.t 10)), (1, 1, (.t 14))]))
(.rd 8 (opO 16 (.build [(.slice none 0 0), (.slice none 0 0)] [(0, 2, (.t 15))]))
(.wr 9 (opO 7 (.alloc [(.slice none 0 0), (.slice none 0 0)])) []
(.wr 10 ⟨none, none, .store 2 (.t 7) (.t 16)⟩ [9, 8, 6, 0, 1, 2, 3, 4, 5, 6, 7, 8, 9]
.fin .no) .no)))
(.wr 9 (opO 7 (.alloc [(.slice none 0 0), (.slice none 0 0)])) []
(.wr 6 (cO 14 508 13) [5]
(.rd 7 (opO 15 (.build [(.slice none 0 0), (.slice none 0 0)] [(0, 1, (.t 10)), (1, 1, (.t 14))]))
(.rd 8 (opO 16 (.build [(.slice none 0 0), (.slice none 0 0)] [(0, 2, (.t 15))]))
(.wr 10 ⟨none, none, .store 2 (.t 7) (.t 16)⟩ [9, 8, 6, 0, 1, 2, 3, 4, 5, 6, 7, 8, 9]
.fin .no))) .no) .no)))))))) (some [1, 2, 6, 7]))
(.seq (.ops [fO 17 0 7,
fO 18 1 17,
lO 19 1 18,
mvO 20 1,
mvO 21 2,
iO 22 6 19 20,
fO 23 5 22,
⟨none, none, .store 1 (.t 23) (.t 21)⟩] (some [6, 7]))
(.seq (.ops [lA 24 2 7,
⟨none, none, .store 2 (.t 6) (.t 24)⟩] (some [6]))
.ret))))⟩
def ir495 : IFn := ⟨20, [.cell 2 4 true, .t 3],
(.seq (.ops [opO 1 (.box (.t 0)),
opO 2 (.alloc [(.slice none 0 0), (.slice none 0 0), (.slice none 0 0), (.int .i64 0)]),
mO 3 0] (some [1, 2]))
(.seq (.ops [lA 7 2 1,
cO 8 509 7,
mvO 6 8,
xO 9 0 6,
xO 10 1 6,
opO 4 (.alloc [(.slice none 0 0), (.slice none 0 0), (.slice none 0 0), (.int .i64 0)]),
⟨none, none, .store 4 (.t 4) (.t 9)⟩,
mvO 5 10] (some [2, 4, 5]))
(.seq (.seq (.ops [mvO 11 5,
opO 12 (.ibin .neq .i64 (.t 11) (ci 0))] (some [2, 4, 5, 12]))
(.cond (.t 12)
(.seq (.ops [lA 13 4 4,
mvO 14 5,
⟨none, none, .store 4 (.t 2) (.t 13)⟩,
mvO 3 14] (some [2, 3]))
.ret)
.skip))
(.seq (.draw (.rd 0 (lA 15 4 4)
(.rd 1 (lA 16 4 4)
(.wr 2 (cO 17 510 16) [1]
(.rd 3 (opO 18 (.un .not (.t 17)))
(.wr 4 (opO 19 (.call 492 [(.t 18), (ci 11)])) [3, 2]
(.wr 5 ⟨none, none, .store 4 (.t 2) (.t 15)⟩ [0, 4, 0]
(.rd 6 (mvO 3 19)
.fin) .no) .no)) .no))) (some [2, 3]))
.ret))))⟩
def ir496 : IFn := ⟨21, [.cell 2 2 true],
(.seq (.ops [opO 1 (.box (.t 0)),
opO 2 (.alloc [(.int .i64 0), (.int .i64 0)])] (some [1, 2]))
(.seq (.seq (.ops [fO 4 3 1,
lO 5 1 4,
opO 6 (.ibin .lss .i64 (.t 5) (ci 0))] (some [1, 2, 6]))
(.cond (.t 6)
(.seq (.ops [opO 7 (.build [(.int .i64 0), (.int .i64 0)] []),
⟨none, none, .store 2 (.t 2) (.t 7)⟩] (some [2]))
.ret)
.skip))
(.seq (.ops [opO 8 (.mkfunc 512 [] [(.t 1)]),
opO 9 (.call 511 [(ci (-200000)), (ci 200000), (.t 8)]),
mvO 3 9] (some [1, 2, 3]))
(.seq (.seq (.ops [lA 10 4 1,
mvO 11 3,
opO 12 (.call 513 [(.t 10), (.t 11)]),
opO 13 (.ibin .eql .i64 (.t 12) (ci 0))] (some [2, 3, 13]))
(.cond (.t 13)
(.seq (.ops [mvO 14 3,
mvO 15 3,
opO 16 (.build [(.int .i64 0), (.int .i64 0)] [(0, 1, (.t 14)), (1, 1, (.t 15))]),
⟨none, none, .store 2 (.t 2) (.t 16)⟩] (some [2]))
.ret)
.skip))
(.seq (.ops [mvO 17 3,
opO 18 (.ibin .sub .i64 (.t 17) (ci 1)),
mvO 19 3,
opO 20 (.build [(.int .i64 0), (.int .i64 0)] [(0, 1, (.t 18)), (1, 1, (.t 19))]),
⟨none, none, .store 2 (.t 2) (.t 20)⟩] (some [2]))
.ret)))))⟩
def ir497 : IFn := ⟨29, [.t 4],
(.seq (.ops [opO 2 (.box (.t 0)),
mO 4 0] (some [1, 2]))
(.seq (.seq (.ops [fO 5 0 2,
lO 6 1 5,
cO 7 91 6,
opO 8 (.un .not (.t 7))] (some [1, 2, 8]))
(.cond (.t 8)
(.seq (.ops [mO 4 4] none)
.ret)
.skip))
(.seq (.seq (.ops [mvO 9 1,
fO 10 0 2,
lO 11 1 10,
opO 12 (.call 364 [(.t 9), (.t 11)])] (some [2, 12]))
(.cond (.t 12)
(.seq (.ops [mO 4 5] none)
.ret)
.skip))
(.seq (.seq (.ops [fO 13 1 2,
lO 14 1 13] (some [2, 14]))
(.cond (.t 14)
(.seq (.seq (.ops [fO 15 2 2,
lO 16 1 15,
opO 17 (.call 15 [(.t 16), (ci 0), (ci 1000000)]),
opO 18 (.un .not (.t 17))] (some [2, 18]))
(.cond (.t 18)
(.seq (.ops [mO 4 2] none)
.ret)
.skip))
(.seq (.seq (.ops [fO 19 3 2,
lO 20 1 19,
opO 21 (.ibin .neq .i64 (.t 20) (ci 0))] (some [21]))
(.cond (.t 21)
(.seq (.ops [mO 4 3] none)
.ret)
.skip))
(.seq (.ops [mO 4 0] none)
.ret)))
.skip))
(.seq (.seq (.ops [fO 22 3 2,
lO 23 1 22,
opO 24 (.call 15 [(.t 23), (ci (-10000)), (ci 10000)]),
opO 25 (.un .not (.t 24))] (some [2, 25]))
(.cond (.t 25)
(.seq (.ops [mO 4 2] none)
.ret)
.skip))
(.seq (.seq (.ops [fO 26 2 2,
lO 27 1 26,
opO 28 (.ibin .neq .i64 (.t 27) (ci 0))] (some [28]))
(.cond (.t 28)
(.seq (.ops [mO 4 3] none)
.ret)
.skip))
(.seq (.ops [mO 4 0] none)
.ret)))))))⟩
def ir498 : IFn := ⟨50, [.t 6],
(.seq (.ops [opO 3 (.box (.t 0)),
opO 4 (.box (.t 1)),
mO 6 0] (some [2, 3, 4]))
(.seq (.seq (.ops [fO 7 0 4,
lO 8 1 7,
cO 9 91 8,
opO 10 (.un .not (.t 9))] (some [2, 3, 4, 10]))
(.cond (.t 10)
(.seq (.ops [mO 6 4] none)
.ret)
.skip))
(.seq (.seq (.ops [mvO 11 2,
fO 12 0 4,
lO 13 1 12,
opO 14 (.call 364 [(.t 11), (.t 13)])] (some [3, 4, 14]))
(.cond (.t 14)
(.seq (.ops [mO 6 5] none)
.ret)
.skip))
(.seq (.seq (.ops [fO 15 1 4,
lO 16 1 15,
fO 17 0 3,
lO 18 1 17,
nO 19 18,
opO 20 (.ibin .sub .i64 (.t 19) (ci 1)),
opO 21 (.call 15 [(.t 16), (ci 0), (.t 20)]),
opO 22 (.un .not (.t 21)),
mvO 23 22,
⟨(some 24), (some (23, false)), .faddr 2 (.t 4)⟩,
⟨(some 25), (some (23, false)), .load 1 false (.t 24)⟩,
⟨(some 26), (some (23, false)), .faddr 0 (.t 3)⟩,
⟨(some 27), (some (23, false)), .load 1 false (.t 26)⟩,
⟨(some 28), (some (23, false)), .lenV (.t 27)⟩,
⟨(some 29), (some (23, false)), .ibin .sub .i64 (.t 28) (ci 1)⟩,
⟨(some 30), (some (23, false)), .call 15 [(.t 25), (ci 0), (.t 29)]⟩,
⟨(some 31), (some (23, false)), .un .not (.t 30)⟩,
opO 32 (.pick (.t 23) (.c (.bool true)) (.t 31))] (some [4, 32]))
(.cond (.t 32)
(.seq (.ops [mO 6 6] none)
.ret)
.skip))
(.seq (.seq (.ops [fO 33 1 4,
lO 34 1 33,
fO 35 2 4,
lO 36 1 35,
opO 37 (.ibin .eql .i64 (.t 34) (.t 36))] (some [4, 37]))
(.cond (.t 37)
(.seq (.ops [mO 6 13] none)
.ret)
.skip))
(.seq (.seq (.ops [fO 38 3 4,
lO 39 1 38,
opO 40 (.call 15 [(.t 39), (ci 0), (ci 1000)]),
opO 41 (.un .not (.t 40))] (some [4, 41]))
(.cond (.t 41)
(.seq (.ops [mO 6 2] none)
.ret)
.skip))
(.seq (.seq (.ops [fO 42 4 4,
lO 43 1 42,
opO 44 (.un .not (.t 43)),
mvO 45 44,
⟨(some 46), (some (45, true)), .faddr 5 (.t 4)⟩,
⟨(some 47), (some (45, true)), .load 1 false (.t 46)⟩,
⟨(some 48), (some (45, true)), .un .not (.t 47)⟩,
opO 49 (.pick (.t 45) (.t 48) (.c (.bool false)))] (some [49]))
(.cond (.t 49)
(.seq (.ops [mO 6 3] none)
.ret)
.skip))
(.seq (.ops [mO 6 0] none)
.ret))))))))⟩
def ir499 : IFn := ⟨13, [.t 4],
(.seq (.ops [opO 2 (.box (.t 0)),
mO 4 0] (some [1, 2]))
(.seq (.ops [mvO 5 1,
fO 6 0 2,
fO 7 0 6,
lO 8 1 7,
nO 9 8,
opO 10 (.ibin .sub .i64 (.t 9) (ci 1)),
opO 11 (.call 493 [(.t 5), (ci 0), (.t 10)]),
opO 12 (.call 492 [(.t 11), (ci 6)]),
mvO 4 12] (some [4]))
.ret))⟩
def ir500 : IFn := ⟨10, [.t 4],
(.seq (.ops [opO 3 (.box (.t 0)),
bO 4 false] (some [1, 2, 3]))
(.seq (.ops [lA 5 2 1,
lA 6 2 2,
opO 7 (.mkfunc 502 [] [(.t 1), (.t 3)]),
opO 8 (.call 501 [(.t 5), (.t 6), (.t 7)]),
opO 9 (.un .not (.t 8)),
mvO 4 9] (some [4]))
.ret))⟩
def ir501 : IFn := ⟨17, [.t 6],
(.seq (.ops [opO 3 (.box (.t 0)),
opO 4 (.box (.t 1)),
bO 6 false] (some [2, 3, 4]))
(.seq (.draw (.rd 0 (lA 7 2 3)
(.rd 1 (fO 8 0 4)
(.rd 2 (lO 9 1 8)
(.rd 4 (mvO 11 2)
(.rd 6 (fO 13 1 4)
(.rd 7 (lO 14 1 13)
(.wr 3 (opO 10 (.bslice 1 1 [(.int .i64 0)] [(0, 1, (.t 9))])) [2]
(.wr 5 (opO 12 (.call 506 [(.t 7), (.t 10), (.t 11)])) [0, 3, 4]
(.rd 8 (iO 15 1 12 14)
(.rd 9 (lO 16 1 15)
(.rd 10 (mvO 6 16)
.fin))) .no) .no))))))) (some [6]))
.ret))⟩
def ir502 : IFn := ⟨14, [.t 4],
(.seq (.ops [bO 4 false] (some [0, 1, 2]))
(.seq (.ops [lA 5 2 1,
mvO 6 0,
opO 7 (.call 503 [(.t 5), (.t 6)]),
mvO 8 7,
⟨(some 9), (some (8, true)), .load 1 false (.t 2)⟩,
⟨(some 10), (some (8, true)), .mov (.t 0)⟩,
⟨(some 11), (some (8, true)), .call 138 [(.t 9), (.t 10)]⟩,
⟨(some 12), (some (8, true)), .un .not (.t 11)⟩,
opO 13 (.pick (.t 8) (.t 12) (.c (.bool false))),
mvO 4 13] (some [4]))
.ret))⟩
def ir503 : IFn := ⟨12, [.t 4],
(.seq (.ops [opO 2 (.box (.t 0)),
bO 4 false] (some [1, 2]))
(.seq (.ops [fO 5 0 2,
fO 6 1 5,
lO 7 1 6,
mvO 8 1,
iO 9 6 7 8,
fO 10 5 9,
lO 11 1 10,
mvO 4 11] (some [4]))
.ret))⟩
def ir504 : IFn := ⟨46, [.t 8, .t 9],
(.seq (.ops [opO 8 (.mov (.c (.slice none 0 0))),
bO 9 false] (some [0, 1, 2, 3]))
(.seq (.seq (.ops [mvO 14 2,
opO 15 (.ibin .eql .i64 (.t 14) (ci 0))] (some [0, 1, 2, 3, 15]))
(.cond (.t 15)
(.seq (.ops [mvO 16 0,
mvO 17 3,
mvO 18 0,
opO 19 (.callv (.t 17) [(.t 18)]),
mvO 8 16,
mvO 9 19] (some [8, 9]))
.ret)
.skip))
(.seq (.seq (.ops [mvO 20 1,
nO 21 20,
mO 22 0] none)
(.block 0 (.loop (.seq (.ops [sO 23 22 21] none)
(.seq (.cond (.t 23)
.skip
(.exit 0))
(.seq (.block 1 (.seq (.ops [mvO 24 22,
iO 25 1 20 22,
lO 26 1 25,
mvO 10 24,
mvO 11 26] (some [0, 1, 2, 3, 10, 11, 20, 21, 22]))
(.seq (.draw (.rd 0 (mvO 28 0)
(.rd 2 (mvO 30 11)
(.rd 5 (mvO 33 1)
(.rd 6 (mvO 34 10)
(.rd 7 (pO 35 34 1)
(.rd 8 (opO 36 (.sliceV 1 (.t 33) (some (.t 35)) none none))
(.rd 9 (mvO 37 2)
(.rd 10 (opO 38 (.ibin .sub .i64 (.t 37) (ci 1)))
(.rd 11 (mvO 39 3)
(.wr 1 (cO 29 514 28) [0]
(.wr 3 (opO 31 (.bslice 1 1 [(.int .i64 0)] [(0, 1, (.t 30))])) [2]
(.wr 4 (opO 32 (.append 1 8 (.t 29) (.t 31))) [1, 3, 1]
(.wr 12 (opO 40 (.call 504 [(.t 32), (.t 36), (.t 38), (.t 39)])) [4, 8, 10, 11, 4]
(.rd 13 (mvO 27 40)
(.rd 14 (xO 41 0 27)
(.rd 15 (xO 42 1 27)
(.rd 16 (mvO 12 41)
(.rd 17 (mvO 13 42)
.fin))))) .no) .no) .no)
(.wr 3 (opO 31 (.bslice 1 1 [(.int .i64 0)] [(0, 1, (.t 30))])) [2]
(.wr 1 (cO 29 514 28) [0]
(.wr 4 (opO 32 (.append 1 8 (.t 29) (.t 31))) [1, 3, 1]
(.wr 12 (opO 40 (.call 504 [(.t 32), (.t 36), (.t 38), (.t 39)])) [4, 8, 10, 11, 4]
(.rd 13 (mvO 27 40)
(.rd 14 (xO 41 0 27)
(.rd 15 (xO 42 1 27)
(.rd 16 (mvO 12 41)
(.rd 17 (mvO 13 42)
.fin))))) .no) .no) .no) .no))))))))))) (some [0, 1, 2, 3, 12, 13, 20, 21, 22]))
(.seq (.ops [mvO 43 13] (some [0, 1, 2, 3, 12, 20, 21, 22, 43]))
(.cond (.t 43)
(.seq (.ops [mvO 44 12,
mvO 8 44,
bO 9 true] (some [8, 9]))
.ret)
.skip)))))
(.ops [pO 45 22 1,
mvO 22 45] (some [0, 1, 2, 3, 20, 21, 22]))))))))
(.seq (.ops [opO 8 (.mov (.c (.slice none 0 0))),
bO 9 false] none)
.ret))))⟩
def ir505 : IFn := ⟨151, [.t 2, .t 3],
(.seq (.ops [opO 1 (.box (.t 0)),
mO 2 0,
mO 3 0] (some [1]))
(.seq (.ops [fO 18 0 1,
lO 19 1 18,
nO 20 19,
opO 21 (.ibin .gtr .i64 (.t 20) (ci 0)),
mvO 22 21,
⟨(some 23), (some (22, true)), .faddr 1 (.t 1)⟩,
⟨(some 24), (some (22, true)), .load 1 false (.t 23)⟩,
⟨(some 25), (some (22, true)), .lenV (.t 24)⟩,
⟨(some 26), (some (22, true)), .ibin .gtr .i64 (.t 25) (ci 0)⟩,
opO 27 (.pick (.t 22) (.t 26) (.c (.bool false))),
mvO 4 27] (some [1, 4]))
(.seq (.ops [fO 28 0 1,
lO 29 1 28,
nO 30 29,
opO 31 (.ibin .leq .i64 (.t 30) (ci 10)),
mvO 32 31,
⟨(some 33), (some (32, true)), .faddr 1 (.t 1)⟩,
⟨(some 34), (some (32, true)), .load 1 false (.t 33)⟩,
⟨(some 35), (some (32, true)), .lenV (.t 34)⟩,
⟨(some 36), (some (32, true)), .ibin .leq .i64 (.t 35) (ci 14)⟩,
opO 37 (.pick (.t 32) (.t 36) (.c (.bool false))),
mvO 5 37] (some [1, 4, 5]))
(.seq (.seq (.ops [mvO 38 4,
opO 39 (.call 492 [(.t 38), (ci 10)]),
mvO 40 5,
opO 41 (.call 492 [(.t 40), (ci 8)]),
opO 42 (.bslice 2 1 [(.int .i64 0)] [(0, 1, (.t 39)), (1, 1, (.t 41))]),
cO 43 491 42,
mvO 6 43] (some [1, 6]))
(.seq (.ops [mvO 44 6,
opO 45 (.ibin .neq .i64 (.t 44) (ci 0))] (some [1, 6, 45]))
(.cond (.t 45)
(.seq (.ops [mvO 46 6,
mO 2 0,
mvO 3 46] (some [2, 3]))
.ret)
.skip)))
(.seq (.ops [opO 47 (.mp 0 (.c (.bool false)) (.c (.bool false))),
mvO 7 47] (some [1, 7]))
(.seq (.seq (.ops [fO 48 0 1,
lO 49 1 48,
nO 50 49,
mO 51 0] (some [1, 7, 49, 50, 51]))
(.block 0 (.loop (.seq (.ops [sO 52 51 50] none)
(.seq (.cond (.t 52)
.skip
(.exit 0))
(.seq (.block 1 (.seq (.ops [mvO 53 51,
iO 54 4 49 51,
lA 55 4 54,
opO 9 (.alloc [(.string ⟨#[]⟩), (.bool false), (.int .i64 0), (.int .i64 0)]),
mvO 8 53,
⟨none, none, .store 4 (.t 9) (.t 55)⟩] (some [1, 7, 8, 9, 49, 50, 51]))
(.seq (.draw (.rd 0 (fO 56 2 9)
(.rd 1 (lO 57 1 56)
(.rd 2 (fO 58 3 9)
(.rd 3 (lO 59 1 58)
(.wr 4 (opO 60 (.call 515 [(.t 59), (ci 10000)])) [3]
(.rd 5 (mvO 10 57)
(.rd 6 (mvO 11 60)
.fin)) .no))))) (some [1, 7, 8, 9, 10, 11, 49, 50, 51]))
(.seq (.seq (.ops [fO 61 1 9,
lO 62 1 61] (some [1, 7, 8, 9, 10, 11, 49, 50, 51, 62]))
(.cond (.t 62)
(.draw (.rd 0 (fO 63 3 9)
(.rd 1 (lO 64 1 63)
(.rd 2 (fO 65 2 9)
(.rd 3 (lO 66 1 65)
(.wr 4 (opO 67 (.call 493 [(.t 66), (ci 0), (ci 1000000)])) [3]
(.rd 5 (mvO 10 64)
(.rd 6 (mvO 11 67)
.fin)) .no))))) (some [1, 7, 8, 9, 10, 11, 49, 50, 51]))
.skip))
(.seq (.seq (.draw (.rd 0 (fO 68 0 9)
(.rd 1 (lO 69 1 68)
(.rd 4 (mvO 72 7)
(.rd 5 (fO 73 0 9)
(.rd 6 (lO 74 1 73)
(.rd 7 (opO 75 (.mp 1 (.t 72) (.t 74)))
(.rd 8 (opO 76 (.un .not (.t 75)))
(.rd 10 (mvO 78 11)
(.rd 12 (mvO 80 10)
(.rd 13 (opO 81 (.ibin .eql .i64 (.t 80) (ci 0)))
(.wr 2 (cO 70 516 69) [1]
(.wr 3 (opO 71 (.call 492 [(.t 70), (ci 4)])) [2, 2]
(.wr 9 (opO 77 (.call 492 [(.t 76), (ci 5)])) [8, 3]
(.wr 11 (opO 79 (.call 492 [(.t 78), (ci 2)])) [10, 9]
(.wr 14 (opO 82 (.call 492 [(.t 81), (ci 3)])) [13, 11]
(.wr 15 (opO 83 (.bslice 4 1 [(.int .i64 0)] [(0, 1, (.t 71)), (1, 1, (.t 77)), (2, 1, (.t 79)), (3, 1, (.t 82))])) [3, 9, 11, 14]
(.wr 16 (cO 84 491 83) [15, 14]
(.rd 17 (mvO 12 84)
.fin) .no) .no) .no) .no) .no) .no) .no))))))))))) (some [1, 7, 8, 9, 12, 49, 50, 51]))
(.seq (.ops [mvO 85 12,
opO 86 (.ibin .neq .i64 (.t 85) (ci 0))] (some [1, 7, 8, 9, 12, 49, 50, 51, 86]))
(.cond (.t 86)
(.seq (.ops [mvO 87 8,
mvO 88 12,
mvO 2 87,
mvO 3 88] (some [2, 3]))
.ret)
.skip)))
(.ops [mvO 89 7,
fO 90 0 9,
lO 91 1 90,
⟨none, none, .mp 2 (.t 89) (.t 91)⟩] (some [1, 7, 49, 50, 51])))))))
(.ops [pO 92 51 1,
mvO 51 92] (some [1, 7, 49, 50, 51]))))))))
(.seq (.ops [opO 93 (.mkfunc 517 [] [(.t 1)]),
mvO 13 93] (some [1, 13]))
(.seq (.ops [opO 94 (.mp 0 (.c (.bool false)) (.c (.bool false))),
mvO 14 94] (some [1, 13, 14]))
(.seq (.seq (.ops [fO 95 1 1,
lO 96 1 95,
nO 97 96,
mO 98 0] (some [13, 14, 96, 97, 98]))
(.block 2 (.loop (.seq (.ops [sO 99 98 97] none)
(.seq (.cond (.t 99)
.skip
(.exit 2))
(.seq (.block 3 (.seq (.ops [mvO 100 98,
iO 101 6 96 98,
lA 102 6 101,
opO 16 (.alloc [(.string ⟨#[]⟩), (.int .i64 0), (.int .i64 0), (.int .i64 0), (.bool false), (.bool false)]),
mvO 15 100,
⟨none, none, .store 6 (.t 16) (.t 102)⟩] (some [13, 14, 15, 16, 96, 97, 98]))
(.seq (.draw (.rd 0 (fO 103 0 16)
(.rd 1 (lO 104 1 103)
(.rd 4 (mvO 107 14)
(.rd 5 (fO 108 0 16)
(.rd 6 (lO 109 1 108)
(.rd 7 (opO 110 (.mp 1 (.t 107) (.t 109)))
(.rd 8 (opO 111 (.un .not (.t 110)))
(.rd 10 (mvO 113 13)
(.rd 11 (fO 114 1 16)
(.rd 12 (lO 115 1 114)
(.rd 21 (fO 124 1 16)
(.rd 22 (lO 125 1 124)
(.rd 23 (fO 126 2 16)
(.rd 24 (lO 127 1 126)
(.rd 25 (opO 128 (.ibin .neq .i64 (.t 125) (.t 127)))
(.rd 27 (fO 130 3 16)
(.rd 28 (lO 131 1 130)
(.rd 31 (fO 134 4 16)
(.rd 32 (lO 135 1 134)
(.wr 2 (cO 105 516 104) [1]
(.wr 3 (opO 106 (.call 492 [(.t 105), (ci 4)])) [2, 2]
(.wr 9 (opO 112 (.call 492 [(.t 111), (ci 5)])) [8, 3]
(.wr 13 (opO 116 (.callv (.t 113) [(.t 115)])) [10, 12, 9]
(.rd 14 (mvO 117 116)
(.rd 15 ⟨(some 118), (some (117, true)), .mov (.t 13)⟩
(.rd 16 ⟨(some 119), (some (117, true)), .faddr 2 (.t 16)⟩
(.rd 17 ⟨(some 120), (some (117, true)), .load 1 false (.t 119)⟩
(.wr 18 ⟨(some 121), (some (117, true)), .callv (.t 118) [(.t 120)]⟩ [15, 17, 14, 14]
(.rd 19 (opO 122 (.pick (.t 117) (.t 121) (.c (.bool false))))
(.wr 20 (opO 123 (.call 492 [(.t 122), (ci 6)])) [19, 18]
(.wr 26 (opO 129 (.call 492 [(.t 128), (ci 13)])) [25, 20]
(.wr 29 (opO 132 (.call 493 [(.t 131), (ci 0), (ci 1000)])) [28, 26]
(.wr 30 (opO 133 (.call 492 [(.t 132), (ci 2)])) [29, 29]
(.rd 33 (mvO 136 135)
(.rd 34 ⟨(some 137), (some (136, false)), .faddr 5 (.t 16)⟩
(.rd 35 ⟨(some 138), (some (136, false)), .load 1 false (.t 137)⟩
(.rd 36 (opO 139 (.pick (.t 136) (.c (.bool true)) (.t 138)))
(.wr 37 (opO 140 (.call 492 [(.t 139), (ci 3)])) [36, 33]
(.wr 38 (opO 141 (.bslice 6 1 [(.int .i64 0)] [(0, 1, (.t 106)), (1, 1, (.t 112)), (2, 1, (.t 123)), (3, 1, (.t 129)), (4, 1, (.t 133)), (5, 1, (.t 140))])) [3, 9, 20, 26, 30, 37]
(.wr 39 (cO 142 491 141) [38, 37]
(.rd 40 (mvO 17 142)
.fin) .no) .no) .no))))) .no) .no) .no) .no)) .no))))) .no) .no) .no) .no)))))))))))))))))))) (some [13, 14, 15, 16, 17, 96, 97, 98]))
(.seq (.seq (.ops [mvO 143 17,
opO 144 (.ibin .neq .i64 (.t 143) (ci 0))] (some [13, 14, 15, 16, 17, 96, 97, 98, 144]))
(.cond (.t 144)
(.seq (.ops [mvO 145 15,
mvO 146 17,
mvO 2 145,
mvO 3 146] (some [2, 3]))
.ret)
.skip))
(.ops [mvO 147 14,
fO 148 0 16,
lO 149 1 148,
⟨none, none, .mp 2 (.t 147) (.t 149)⟩] (some [13, 14, 96, 97, 98]))))))
(.ops [pO 150 98 1,
mvO 98 150] (some [13, 14, 96, 97, 98]))))))))
(.seq (.ops [mO 2 0,
mO 3 0] none)
.ret))))))))))⟩
def ir506 : IFn := ⟨64, [.t 6],
(.seq (.ops [opO 3 (.box (.t 0)),
opO 6 (.mov (.c (.slice none 0 0)))] (some [1, 2, 3]))
(.seq (.ops [fO 13 0 3,
fO 14 0 13,
lO 15 1 14,
nO 16 15,
opO 17 (.mslice 1 1 [(.bool false)] (.t 16) (.t 16)),
mvO 7 17] (some [1, 2, 3, 7]))
(.seq (.seq (.ops [mvO 18 1,
nO 19 18,
mO 20 0] (some [2, 3, 7, 18, 19, 20]))
(.block 0 (.loop (.seq (.ops [sO 21 20 19] none)
(.seq (.cond (.t 21)
.skip
(.exit 0))
(.seq (.block 1 (.seq (.ops [iO 22 1 18 20,
lO 23 1 22,
mvO 9 23] (some [2, 3, 7, 9, 18, 19, 20]))
(.ops [mvO 24 7,
mvO 25 9,
iO 26 1 24 25,
⟨none, none, .store 1 (.t 26) (.c (.bool true))⟩] (some [2, 3, 7, 18, 19, 20]))))
(.ops [pO 27 20 1,
mvO 20 27] (some [2, 3, 7, 18, 19, 20]))))))))
(.seq (.seq (.ops [bO 10 true] none)
(.block 2 (.loop (.seq (.seq (.ops [mvO 28 10] (some [2, 3, 7, 28]))
(.cond (.t 28)
.skip
(.exit 2)))
(.block 3 (.seq (.ops [bO 10 false] none)
(.seq (.ops [fO 29 0 3,
fO 30 1 29,
lO 31 1 30,
nO 32 31,
mO 33 0] (some [2, 3, 7, 10, 31, 32, 33]))
(.block 4 (.loop (.seq (.ops [sO 34 33 32] none)
(.seq (.cond (.t 34)
.skip
(.exit 4))
(.seq (.block 5 (.seq (.ops [mvO 35 33,
iO 36 6 31 33,
lA 37 6 36,
opO 12 (.alloc [(.string ⟨#[]⟩), (.int .i64 0), (.int .i64 0), (.int .i64 0), (.bool false), (.bool false)]),
mvO 11 35,
⟨none, none, .store 6 (.t 12) (.t 37)⟩] (some [2, 3, 7, 10, 11, 12, 31, 32, 33]))
(.seq (.draw (.rd 0 (mvO 38 2)
(.rd 1 (mvO 39 11)
(.wr 2 (opO 40 (.callv (.t 38) [(.t 39)])) [0, 1]
(.rd 3 (mvO 41 40)
(.rd 4 ⟨(some 42), (some (41, true)), .mov (.t 7)⟩
(.rd 5 ⟨(some 43), (some (41, true)), .faddr 1 (.t 12)⟩
(.rd 6 ⟨(some 44), (some (41, true)), .load 1 false (.t 43)⟩
(.rd 7 ⟨(some 45), (some (41, true)), .iaddr 1 (.t 42) (.t 44)⟩
(.rd 8 ⟨(some 46), (some (41, true)), .load 1 false (.t 45)⟩
(.rd 9 ⟨(some 47), (some (41, true)), .mov (.t 7)⟩
(.rd 10 ⟨(some 48), (some (41, true)), .faddr 2 (.t 12)⟩
(.rd 11 ⟨(some 49), (some (41, true)), .load 1 false (.t 48)⟩
(.rd 12 ⟨(some 50), (some (41, true)), .iaddr 1 (.t 47) (.t 49)⟩
(.rd 13 ⟨(some 51), (some (41, true)), .load 1 false (.t 50)⟩
(.rd 14 ⟨(some 52), (some (41, true)), .bbin true (.t 46) (.t 51)⟩
(.rd 15 (opO 53 (.pick (.t 41) (.t 52) (.c (.bool false))))
.fin))))))))))))) .no))) (some [2, 3, 7, 10, 12, 31, 32, 33, 53]))
(.cond (.t 53)
(.seq (.draw (.rd 0 (mvO 54 7)
(.rd 1 (fO 55 1 12)
(.rd 2 (lO 56 1 55)
(.rd 3 (mvO 57 7)
(.rd 4 (fO 58 2 12)
(.rd 5 (lO 59 1 58)
(.rd 6 (iO 60 1 54 56)
(.wr 7 ⟨none, none, .store 1 (.t 60) (.c (.bool true))⟩ [6, 0, 1, 2]
(.rd 8 (iO 61 1 57 59)
(.wr 9 ⟨none, none, .store 1 (.t 61) (.c (.bool true))⟩ [8, 7, 0, 1, 2, 3, 4, 5, 6, 7]
.fin .no)) .no)))))))) (some [2, 3, 7, 31, 32, 33]))
(.ops [bO 10 true] none))
.skip))))
(.ops [pO 62 33 1,
mvO 33 62] (some [2, 3, 7, 10, 31, 32, 33]))))))))))))))
(.seq (.ops [mvO 63 7,
mvO 6 63] (some [6]))
.ret)))))⟩
def ir507 : IFn := ⟨23, [.t 2],
(.seq (.ops [opO 1 (.box (.t 0)),
opO 2 (.mov (.c (.slice none 0 0)))] (some [1]))
(.seq (.ops [opO 3 (.mov (.c (.slice none 0 0)))] none)
(.seq (.seq (.ops [fO 6 0 1,
fO 7 0 6,
lO 8 1 7,
nO 9 8,
mO 10 0] (some [3, 8, 9, 10]))
(.block 0 (.loop (.seq (.ops [sO 11 10 9] none)
(.seq (.cond (.t 11)
.skip
(.exit 0))
(.seq (.block 1 (.seq (.ops [mvO 12 10,
iO 13 4 8 10,
lA 14 4 13,
opO 5 (.alloc [(.string ⟨#[]⟩), (.bool false), (.int .i64 0), (.int .i64 0)]),
mvO 4 12,
⟨none, none, .store 4 (.t 5) (.t 14)⟩] (some [3, 4, 5, 8, 9, 10]))
(.seq (.ops [fO 15 1 5,
lO 16 1 15] (some [3, 4, 8, 9, 10, 16]))
(.cond (.t 16)
(.ops [mvO 17 3,
mvO 18 4,
opO 19 (.bslice 1 1 [(.int .i64 0)] [(0, 1, (.t 18))]),
opO 20 (.append 1 8 (.t 17) (.t 19)),
mvO 3 20] (some [3, 8, 9, 10]))
.skip))))
(.ops [pO 21 10 1,
mvO 10 21] (some [3, 8, 9, 10]))))))))
(.seq (.ops [mvO 22 3,
mvO 2 22] (some [2]))
.ret))))⟩
def ir508 : IFn := ⟨8, [.t 2],
(.seq (.ops [opO 2 (.mov (.c (.slice none 0 0)))] (some [0]))
(.seq (.seq (.ops [mvO 3 0,
opO 4 (.nileq .sl false (.t 3))] (some [0, 4]))
(.cond (.t 4)
(.seq (.ops [opO 2 (.mov (.c (.slice none 0 0)))] none)
.ret)
.skip))
(.seq (.ops [opO 5 (.bslice 0 6 [(.string ⟨#[]⟩), (.int .i64 0), (.int .i64 0), (.int .i64 0), (.bool false), (.bool false)] []),
mvO 6 0,
opO 7 (.append 6 48 (.t 5) (.t 6)),
mvO 2 7] (some [2]))
.ret)))⟩
def ir509 : IFn := ⟨19, [.cell 2 4 true, .t 3],
(.seq (.ops [opO 1 (.box (.t 0)),
opO 2 (.alloc [(.slice none 0 0), (.slice none 0 0), (.slice none 0 0), (.int .i64 0)]),
mO 3 0] (some [1, 2]))
(.seq (.ops [lA 7 2 1,
cO 8 488 7,
mvO 6 8,
xO 9 0 6,
xO 10 1 6,
opO 4 (.alloc [(.slice none 0 0), (.slice none 0 0)]),
⟨none, none, .store 2 (.t 4) (.t 9)⟩,
mvO 5 10] (some [2, 4, 5]))
(.seq (.seq (.ops [mvO 11 5,
opO 12 (.ibin .neq .i64 (.t 11) (ci 0))] (some [2, 4, 5, 12]))
(.cond (.t 12)
(.seq (.ops [opO 13 (.build [(.slice none 0 0), (.slice none 0 0), (.slice none 0 0), (.int .i64 0)] []),
mvO 14 5,
⟨none, none, .store 4 (.t 2) (.t 13)⟩,
mvO 3 14] (some [2, 3]))
.ret)
.skip))
(.seq (.ops [lA 15 2 4,
cO 16 518 15,
xO 17 0 16,
xO 18 1 16,
⟨none, none, .store 4 (.t 2) (.t 17)⟩,
mvO 3 18] (some [2, 3]))
.ret))))⟩
def ir510 : IFn := ⟨13, [.t 2],
(.seq (.ops [opO 1 (.box (.t 0)),
bO 2 false] (some [1]))
(.seq (.draw (.rd 0 (fO 3 3 1)
(.rd 1 (lO 4 1 3)
(.rd 2 (opO 5 (.ibin .geq .i64 (.t 4) (ci 0)))
(.rd 3 (mvO 6 5)
(.rd 4 ⟨(some 7), (some (6, true)), .load 4 true (.t 1)⟩
(.rd 6 ⟨(some 9), (some (6, true)), .load 4 true (.t 1)⟩
(.wr 5 ⟨(some 8), (some (6, true)), .call 513 [(.t 7), (ci (-200000))]⟩ [4, 3, 3]
(.wr 7 ⟨(some 10), (some (6, true)), .call 513 [(.t 9), (ci 200000)]⟩ [6, 5, 3]
(.rd 8 ⟨(some 11), (some (6, true)), .ibin .eql .i64 (.t 8) (.t 10)⟩
(.rd 9 (opO 12 (.pick (.t 6) (.t 11) (.c (.bool false))))
(.rd 10 (mvO 2 12)
.fin))) .no) .no))))))) (some [2]))
.ret))⟩
def ir511 : IFn := ⟨24, [.t 6],
(.seq (.ops [mO 6 0] (some [0, 1, 2]))
(.seq (.block 0 (.loop (.seq (.seq (.ops [mvO 8 0,
mvO 9 1,
sO 10 8 9] (some [0, 1, 2, 10]))
(.cond (.t 10)
.skip
(.exit 0)))
(.block 1 (.seq (.ops [mvO 11 0,
mvO 12 1,
mvO 13 0,
opO 14 (.ibin .sub .i64 (.t 12) (.t 13)),
opO 15 (.ibin .quo .i64 (.t 14) (ci 2)),
opO 16 (.ibin .add .i64 (.t 11) (.t 15)),
mvO 7 16] (some [0, 1, 2, 7]))
(.seq (.ops [mvO 17 2,
mvO 18 7,
opO 19 (.callv (.t 17) [(.t 18)])] (some [0, 1, 2, 7, 19]))
(.cond (.t 19)
(.ops [mvO 20 7,
mvO 1 20] (some [0, 1, 2]))
(.ops [mvO 21 7,
pO 22 21 1,
mvO 0 22] (some [0, 1, 2])))))))))
(.seq (.ops [mvO 23 0,
mvO 6 23] (some [6]))
.ret)))⟩
def ir512 : IFn := ⟨8, [.t 3],
(.seq (.ops [bO 3 false] (some [0, 1]))
(.seq (.ops [lA 4 4 1,
mvO 5 0,
opO 6 (.call 513 [(.t 4), (.t 5)]),
opO 7 (.ibin .geq .i64 (.t 6) (ci 0)),
mvO 3 7] (some [3]))
.ret))⟩
def ir513 : IFn := ⟨36, [.t 4],
(.seq (.ops [opO 2 (.box (.t 0)),
mO 4 0] (some [1, 2]))
(.seq (.ops [fO 7 0 2,
fO 8 0 7,
fO 9 1 8,
lO 10 1 9,
fO 11 3 2,
lO 12 1 11,
iO 13 6 10 12,
lA 14 6 13,
opO 5 (.alloc [(.string ⟨#[]⟩), (.int .i64 0), (.int .i64 0), (.int .i64 0), (.bool false), (.bool false)]),
⟨none, none, .store 6 (.t 5) (.t 14)⟩] (some [1, 2, 5]))
(.seq (.ops [lA 15 4 2,
mvO 16 1,
opO 17 (.call 519 [(.t 15), (.t 16)]),
opO 6 (.alloc [(.slice none 0 0), (.slice none 0 0)]),
⟨none, none, .store 2 (.t 6) (.t 17)⟩] (some [1, 5, 6]))
(.seq (.draw (.rd 0 (fO 18 3 5)
(.rd 1 (lO 19 1 18)
(.rd 2 (mvO 20 1)
(.rd 4 (fO 22 1 6)
(.rd 5 (lO 23 1 22)
(.rd 6 (fO 24 1 5)
(.rd 7 (lO 25 1 24)
(.rd 8 (iO 26 1 23 25)
(.rd 9 (lO 27 1 26)
(.rd 10 (fO 28 1 6)
(.rd 11 (lO 29 1 28)
(.rd 12 (fO 30 2 5)
(.rd 13 (lO 31 1 30)
(.rd 14 (iO 32 1 29 31)
(.rd 15 (lO 33 1 32)
(.rd 16 (opO 34 (.ibin .sub .i64 (.t 27) (.t 33)))
(.wr 3 (opO 21 (.call 520 [(.t 19), (.t 20)])) [1, 2]
(.rd 17 (opO 35 (.ibin .sub .i64 (.t 21) (.t 34)))
(.rd 18 (mvO 4 35)
.fin)) .no))))))))))))))))) (some [4]))
.ret))))⟩
def ir514 : IFn := ⟨9, [.t 2],
(.seq (.ops [opO 2 (.mov (.c (.slice none 0 0)))] (some [0]))
(.seq (.ops [mvO 3 0,
mvO 4 0,
nO 5 4,
mvO 6 0,
nO 7 6,
opO 8 (.sliceV 1 (.t 3) none (some (.t 5)) (some (.t 7))),
mvO 2 8] (some [2]))
.ret))⟩
def ir515 : IFn := ⟨10, [.t 4],
(.seq (.ops [bO 4 false] (some [0, 1]))
(.seq (.ops [mvO 5 0,
mvO 6 1,
opO 7 (.un .neg (.t 6)),
mvO 8 1,
opO 9 (.call 493 [(.t 5), (.t 7), (.t 8)]),
mvO 4 9] (some [4]))
.ret))⟩
def ir516 : IFn := ⟨42, [.t 2],
(.seq (.ops [bO 2 false] (some [0]))
(.seq (.seq (.ops [mvO 6 0,
opO 7 (.s2b (.t 6)),
nO 8 7,
mO 9 0] (some [0, 7, 8, 9]))
(.block 0 (.loop (.seq (.ops [sO 10 9 8] none)
(.seq (.cond (.t 10)
.skip
(.exit 0))
(.seq (.block 1 (.seq (.ops [mvO 11 9,
iO 12 1 7 9,
lO 13 1 12,
mvO 3 11,
mvO 4 13] (some [0, 3, 4, 7, 8, 9]))
(.seq (.ops [mvO 14 4,
opO 15 (.conv .i64 (.t 14)),
opO 16 (.call 493 [(.t 15), (ci 97), (ci 122)]),
mvO 17 16,
⟨(some 18), (some (17, false)), .mov (.t 4)⟩,
⟨(some 19), (some (17, false)), .conv .i64 (.t 18)⟩,
⟨(some 20), (some (17, false)), .call 493 [(.t 19), (ci 65), (ci 90)]⟩,
opO 21 (.pick (.t 17) (.c (.bool true)) (.t 20)),
mvO 5 21] (some [0, 3, 4, 5, 7, 8, 9]))
(.seq (.ops [mvO 22 5,
opO 23 (.un .not (.t 22)),
mvO 24 23,
⟨(some 25), (some (24, true)), .mov (.t 3)⟩,
⟨(some 26), (some (24, true)), .ibin .eql .i64 (.t 25) (ci 0)⟩,
⟨(some 27), (some (24, true)), .mov (.t 26)⟩,
⟨(some 28), (some (27, false)), .mov (.t 4)⟩,
⟨(some 29), (some (27, false)), .ibin .neq .u8 (.t 28) (.c (.int .u8 45))⟩,
⟨(some 30), (some (27, false)), .mov (.t 29)⟩,
⟨(some 31), (some (30, true)), .mov (.t 4)⟩,
⟨(some 32), (some (30, true)), .conv .i64 (.t 31)⟩,
⟨(some 33), (some (30, true)), .call 493 [(.t 32), (ci 48), (ci 57)]⟩,
⟨(some 34), (some (30, true)), .un .not (.t 33)⟩,
⟨(some 35), (some (27, false)), .pick (.t 30) (.t 34) (.c (.bool false))⟩,
⟨(some 36), (some (24, true)), .pick (.t 27) (.c (.bool true)) (.t 35)⟩,
opO 37 (.pick (.t 24) (.t 36) (.c (.bool false)))] (some [0, 7, 8, 9, 37]))
(.cond (.t 37)
(.seq (.ops [bO 2 false] none)
.ret)
.skip)))))
(.ops [pO 38 9 1,
mvO 9 38] (some [0, 7, 8, 9]))))))))
(.seq (.ops [mvO 39 0,
opO 40 (.lenS (.t 39)),
opO 41 (.call 493 [(.t 40), (ci 1), (ci 12)]),
mvO 2 41] (some [2]))
.ret)))⟩
def ir517 : IFn := ⟨10, [.t 3],
(.seq (.ops [bO 3 false] (some [0, 1]))
(.seq (.ops [mvO 4 0,
fO 5 0 1,
lO 6 1 5,
nO 7 6,
opO 8 (.ibin .sub .i64 (.t 7) (ci 1)),
opO 9 (.call 493 [(.t 4), (ci 0), (.t 8)]),
mvO 3 9] (some [3]))
.ret))⟩
def ir518 : IFn := ⟨45, [.cell 2 4 true, .t 3],
(.seq (.ops [opO 1 (.box (.t 0)),
opO 2 (.alloc [(.slice none 0 0), (.slice none 0 0), (.slice none 0 0), (.int .i64 0)]),
mO 3 0] (some [1, 2]))
(.seq (.ops [lA 10 2 1,
cO 11 521 10,
mvO 9 11,
xO 12 0 9,
xO 13 1 9,
opO 4 (.alloc [(.slice none 0 0), (.slice none 0 0), (.slice none 0 0), (.int .i64 0)]),
⟨none, none, .store 4 (.t 4) (.t 12)⟩,
mvO 5 13] (some [1, 2, 4, 5]))
(.seq (.seq (.ops [mvO 14 5,
opO 15 (.ibin .neq .i64 (.t 14) (ci 0))] (some [1, 2, 4, 5, 15]))
(.cond (.t 15)
(.seq (.ops [lA 16 4 4,
mvO 17 5,
⟨none, none, .store 4 (.t 2) (.t 16)⟩,
mvO 3 17] (some [2, 3]))
.ret)
.skip))
(.seq (.seq (.ops [fO 18 0 1,
fO 19 1 18,
lO 20 1 19,
nO 21 20,
mO 22 0] (some [2, 4, 20, 21, 22]))
(.block 0 (.loop (.seq (.ops [sO 23 22 21] none)
(.seq (.cond (.t 23)
.skip
(.exit 0))
(.seq (.block 1 (.seq (.ops [mvO 24 22,
iO 25 6 20 22,
lA 26 6 25,
opO 6 (.alloc [(.int .i64 0)]),
opO 7 (.alloc [(.string ⟨#[]⟩), (.int .i64 0), (.int .i64 0), (.int .i64 0), (.bool false), (.bool false)]),
⟨none, none, .store 1 (.t 6) (.t 24)⟩,
⟨none, none, .store 6 (.t 7) (.t 26)⟩] (some [2, 4, 6, 7, 20, 21, 22]))
(.seq (.ops [fO 27 2 4,
lO 28 1 27,
opO 29 (.mkfunc 523 [] [(.t 6)]),
opO 30 (.call 522 [(.t 28), (.t 29)]),
mvO 8 30] (some [2, 4, 6, 7, 8, 20, 21, 22]))
(.seq (.seq (.ops [fO 31 5 7,
lO 32 1 31,
opO 33 (.un .not (.t 32)),
mvO 34 33,
⟨(some 35), (some (34, false)), .mov (.t 8)⟩,
opO 36 (.pick (.t 34) (.c (.bool true)) (.t 35))] (some [2, 4, 6, 20, 21, 22, 36]))
(.cond (.t 36)
(.exit 1)
.skip))
(.seq (.seq (.ops [fO 37 3 4,
lO 38 1 37,
opO 39 (.ibin .geq .i64 (.t 38) (ci 0))] (some [2, 4, 6, 20, 21, 22, 39]))
(.cond (.t 39)
(.seq (.ops [lA 40 4 4,
⟨none, none, .store 4 (.t 2) (.t 40)⟩,
mO 3 8] (some [2, 3]))
.ret)
.skip))
(.ops [lO 41 1 6,
fO 42 3 4,
⟨none, none, .store 1 (.t 42) (.t 41)⟩] (some [2, 4, 20, 21, 22])))))))
(.ops [pO 43 22 1,
mvO 22 43] (some [2, 4, 20, 21, 22]))))))))
(.seq (.ops [lA 44 4 4,
⟨none, none, .store 4 (.t 2) (.t 44)⟩,
mO 3 0] (some [2, 3]))
.ret)))))⟩
def ir519 (r : Nat → Code × Code) : IFn := ⟨171, [.cell 4 2 true],
(.seq (.ops [opO 2 (.box (.t 0)),
opO 4 (.alloc [(.slice none 0 0), (.slice none 0 0)])] none)
(.seq (.draw (.rd 0 (fO 18 0 2)
(.rd 1 (fO 19 0 18)
(.rd 2 (fO 20 1 19)
(.rd 3 (lO 21 1 20)
(.rd 4 (nO 22 21)
(.rd 6 (fO 24 0 2)
(.rd 7 (fO 25 0 24)
(.rd 8 (fO 26 0 25)
(.rd 9 (lO 27 1 26)
(.rd 10 (nO 28 27)
(.wr 5 (opO 23 (.mslice 1 8 [(.int .i64 0)] (.t 22) (.t 22))) [4, 4]
(.wr 11 (opO 29 (.mslice 1 8 [(.int .i64 0)] (.t 28) (.t 28))) [10, 10]
(.rd 12 (opO 30 (.build [(.slice none 0 0), (.slice none 0 0)] [(0, 1, (.t 23)), (1, 1, (.t 29))]))
(.wr 13 (opO 5 (.alloc [(.slice none 0 0), (.slice none 0 0)])) []
(.wr 14 ⟨none, none, .store 2 (.t 5) (.t 30)⟩ [13, 12, 0, 1, 2, 3, 4, 5, 6, 7, 8, 9, 10, 11, 12, 13]
.fin .no) .no))
(.wr 13 (opO 5 (.alloc [(.slice none 0 0), (.slice none 0 0)])) []
(.wr 11 (opO 29 (.mslice 1 8 [(.int .i64 0)] (.t 28) (.t 28))) [10, 10]
(.rd 12 (opO 30 (.build [(.slice none 0 0), (.slice none 0 0)] [(0, 1, (.t 23)), (1, 1, (.t 29))]))
(.wr 14 ⟨none, none, .store 2 (.t 5) (.t 30)⟩ [13, 12, 0, 1, 2, 3, 4, 5, 6, 7, 8, 9, 10, 11, 12, 13]
.fin .no)) .no) .no))
(.wr 11 (opO 29 (.mslice 1 8 [(.int .i64 0)] (.t 28) (.t 28))) [10, 10]
(.wr 5 (opO 23 (.mslice 1 8 [(.int .i64 0)] (.t 22) (.t 22))) [4, 4]
(.rd 12 (opO 30 (.build [(.slice none 0 0), (.slice none 0 0)] [(0, 1, (.t 23)), (1, 1, (.t 29))]))
(.wr 13 (opO 5 (.alloc [(.slice none 0 0), (.slice none 0 0)])) []
(.wr 14 ⟨none, none, .store 2 (.t 5) (.t 30)⟩ [13, 12, 0, 1, 2, 3, 4, 5, 6, 7, 8, 9, 10, 11, 12, 13]
.fin .no) .no))
(.wr 13 (opO 5 (.alloc [(.slice none 0 0), (.slice none 0 0)])) []
(.wr 5 (opO 23 (.mslice 1 8 [(.int .i64 0)] (.t 22) (.t 22))) [4, 4]
(.rd 12 (opO 30 (.build [(.slice none 0 0), (.slice none 0 0)] [(0, 1, (.t 23)), (1, 1, (.t 29))]))
(.wr 14 ⟨none, none, .store 2 (.t 5) (.t 30)⟩ [13, 12, 0, 1, 2, 3, 4, 5, 6, 7, 8, 9, 10, 11, 12, 13]
.fin .no)) .no) .no))
(.wr 13 (opO 5 (.alloc [(.slice none 0 0), (.slice none 0 0)])) []
(.wr 5 (opO 23 (.mslice 1 8 [(.int .i64 0)] (.t 22) (.t 22))) [4, 4]
(.wr 11 (opO 29 (.mslice 1 8 [(.int .i64 0)] (.t 28) (.t 28))) [10, 10]
(.rd 12 (opO 30 (.build [(.slice none 0 0), (.slice none 0 0)] [(0, 1, (.t 23)), (1, 1, (.t 29))]))
(.wr 14 ⟨none, none, .store 2 (.t 5) (.t 30)⟩ [13, 12, 0, 1, 2, 3, 4, 5, 6, 7, 8, 9, 10, 11, 12, 13]
.fin .no)) .no)
(.wr 11 (opO 29 (.mslice 1 8 [(.int .i64 0)] (.t 28) (.t 28))) [10, 10]
(.wr 5 (opO 23 (.mslice 1 8 [(.int .i64 0)] (.t 22) (.t 22))) [4, 4]
(.rd 12 (opO 30 (.build [(.slice none 0 0), (.slice none 0 0)] [(0, 1, (.t 23)), (1, 1, (.t 29))]))
(.wr 14 ⟨none, none, .store 2 (.t 5) (.t 30)⟩ [13, 12, 0, 1, 2, 3, 4, 5, 6, 7, 8, 9, 10, 11, 12, 13]
.fin .no)) .no) .no)) .no))))))))))))) none)
(.seq (.ops [fO 31 0 2,
fO 32 0 31,
fO 33 0 32,
lO 34 1 33,
nO 35 34,
opO 36 (.mslice 1 8 [(.int .i64 0)] (.t 35) (.t 35)),
opO 6 (.alloc [(.slice none 0 0)]),
⟨none, none, .store 1 (.t 6) (.t 36)⟩] none)
(.seq (.seq (.ops [fO 37 0 2,
fO 38 0 37,
fO 39 0 38,
lO 40 1 39,
nO 41 40,
mO 42 0] none)
(.block 0 (.loop (.seq (.ops [sO 43 42 41] none)
(.seq (.cond (.t 43)
.skip
(.exit 0))
(.seq (.block 1 (.seq (.ops [mvO 44 42,
iO 45 4 40 42,
lA 46 4 45,
opO 8 (.alloc [(.string ⟨#[]⟩), (.bool false), (.int .i64 0), (.int .i64 0)]),
mvO 7 44,
⟨none, none, .store 4 (.t 8) (.t 46)⟩] none)
(.seq (.ops [lO 47 1 6,
mvO 48 7,
fO 49 3 8,
lO 50 1 49,
iO 51 1 47 48,
⟨none, none, .store 1 (.t 51) (.t 50)⟩] none)
(.ops [fO 52 1 5,
lO 53 1 52,
mvO 54 7,
fO 55 2 8,
lO 56 1 55,
opO 57 (.ibin .mul .i64 (ci 1000) (.t 56)),
iO 58 1 53 54,
⟨none, none, .store 1 (.t 58) (.t 57)⟩] none))))
(.ops [pO 59 42 1,
mvO 42 59] none)))))))
(.seq (.seq (.ops [fO 60 3 2,
lO 61 1 60,
opO 62 (.ibin .geq .i64 (.t 61) (ci 0))] none)
(.cond (.t 62)
(.seq (.ops [fO 63 0 2,
fO 64 0 63,
fO 65 1 64,
lO 66 1 65,
fO 67 3 2,
lO 68 1 67,
iO 69 6 66 68,
lA 70 6 69,
opO 9 (.alloc [(.string ⟨#[]⟩), (.int .i64 0), (.int .i64 0), (.int .i64 0), (.bool false), (.bool false)]),
⟨none, none, .store 6 (.t 9) (.t 70)⟩] none)
(.seq (.ops [fO 71 0 5,
lO 72 1 71,
fO 73 3 2,
lO 74 1 73,
mvO 75 1,
iO 76 1 72 74,
⟨none, none, .store 1 (.t 76) (.t 75)⟩] none)
(.seq (.ops [lO 77 1 6,
fO 78 1 9,
lO 79 1 78,
iO 80 1 77 79,
lO 81 1 80,
mvO 82 1,
opO 83 (.ibin .add .i64 (.t 81) (.t 82)),
iO 84 1 77 79,
⟨none, none, .store 1 (.t 84) (.t 83)⟩] none)
(.ops [lO 85 1 6,
fO 86 2 9,
lO 87 1 86,
iO 88 1 85 87,
lO 89 1 88,
mvO 90 1,
opO 91 (.ibin .sub .i64 (.t 89) (.t 90)),
iO 92 1 85 87,
⟨none, none, .store 1 (.t 92) (.t 91)⟩] none))))
.skip))
(.seq (.seq (.ops [fO 93 2 2,
lO 94 1 93,
cO 95 524 94] none)
(.block 2 (.range 171 (.t 95) #[96, 97] (r 0).1 (r 0).2)))
(.seq (.seq (.ops [fO 127 2 2,
lO 128 1 127,
nO 129 128,
mO 130 0] (some [2, 4, 5, 128, 129, 130]))
(.block 4 (.loop (.seq (.ops [sO 131 130 129] none)
(.seq (.cond (.t 131)
.skip
(.exit 4))
(.seq (.block 5 (.seq (.ops [iO 132 2 128 130,
lA 133 2 132,
opO 15 (.alloc [(.int .i64 0), (.int .i64 0)]),
⟨none, none, .store 2 (.t 15) (.t 133)⟩] (some [2, 4, 5, 15, 128, 129, 130]))
(.seq (.ops [lA 135 4 2,
lA 136 2 15,
opO 137 (.call 525 [(.t 135), (.t 136)]),
mvO 134 137,
xO 138 0 134,
xO 139 1 134,
mvO 16 138,
mvO 17 139] (some [2, 4, 5, 15, 16, 17, 128, 129, 130]))
(.draw (.rd 0 (fO 140 1 5)
(.rd 1 (lO 141 1 140)
(.rd 2 (fO 142 1 15)
(.rd 3 (lO 143 1 142)
(.rd 4 (fO 144 1 5)
(.rd 5 (lO 145 1 144)
(.rd 6 (mvO 146 16)
(.rd 7 (iO 147 1 145 146)
(.rd 8 (lO 148 1 147)
(.rd 9 (fO 149 0 2)
(.rd 10 (fO 150 0 149)
(.rd 11 (fO 151 1 150)
(.rd 12 (lO 152 1 151)
(.rd 13 (fO 153 0 15)
(.rd 14 (lO 154 1 153)
(.rd 15 (iO 155 6 152 154)
(.rd 16 (fO 156 3 155)
(.rd 17 (lO 157 1 156)
(.rd 18 (mvO 158 17)
(.rd 19 (fO 159 0 5)
(.rd 20 (lO 160 1 159)
(.rd 21 (fO 161 0 15)
(.rd 22 (lO 162 1 161)
(.rd 23 (iO 163 1 160 162)
(.rd 24 (lO 164 1 163)
(.rd 25 (opO 165 (.ibin .mul .i64 (.t 158) (.t 164)))
(.wr 26 (opO 166 (.call 520 [(.t 157), (.t 165)])) [17, 25]
(.rd 27 (opO 167 (.ibin .sub .i64 (.t 148) (.t 166)))
(.rd 28 (iO 168 1 141 143)
(.wr 29 ⟨none, none, .store 1 (.t 168) (.t 167)⟩ [28, 27, 26, 0, 1, 2, 3, 4, 5, 6, 7, 8, 9, 10, 11, 12, 13, 14, 15, 16, 17, 18, 19, 20, 21, 22, 23, 24, 25, 26, 27]
.fin .no))) .no))))))))))))))))))))))))))) (some [2, 4, 5, 128, 129, 130])))))
(.ops [pO 169 130 1,
mvO 130 169] (some [2, 4, 5, 128, 129, 130]))))))))
(.seq (.ops [lA 170 2 5,
⟨none, none, .store 2 (.t 4) (.t 170)⟩] (some [4]))
.ret))))))))⟩
def ir519a0 : ICode :=
(.ops [opO 11 (.alloc [(.int .i64 0), (.int .i64 0)]),
⟨none, none, .store 2 (.t 11) (.t 97)⟩] none)
def ir519b0 : ICode :=
(.block 3 (.seq (.ops [lA 99 4 2,
lA 100 2 11,
opO 101 (.call 525 [(.t 99), (.t 100)]),
mvO 98 101,
xO 102 0 98,
xO 103 1 98,
mvO 12 102,
mvO 13 103] (some [5, 6, 11, 12, 13]))
(.seq (.draw (.rd 0 (fO 104 0 5)
(.rd 1 (lO 105 1 104)
(.rd 2 (fO 106 0 11)
(.rd 3 (lO 107 1 106)
(.rd 4 (mvO 108 13)
(.rd 5 (lO 109 1 6)
(.rd 6 (fO 110 1 11)
(.rd 7 (lO 111 1 110)
(.rd 8 (iO 112 1 109 111)
(.rd 9 (lO 113 1 112)
(.rd 10 (opO 114 (.ibin .mul .i64 (.t 108) (.t 113)))
(.rd 11 (iO 115 1 105 107)
(.wr 12 ⟨none, none, .store 1 (.t 115) (.t 114)⟩ [11, 10, 0, 1, 2, 3, 4, 5, 6, 7, 8, 9, 10]
.fin .no))))))))))))) (some [6, 11, 12]))
(.draw (.rd 0 (lO 116 1 6)
(.rd 1 (mvO 117 12)
(.rd 2 (iO 118 1 116 117)
(.rd 3 (lO 119 1 118)
(.rd 4 (lO 120 1 6)
(.rd 5 (fO 121 1 11)
(.rd 6 (lO 122 1 121)
(.rd 7 (iO 123 1 120 122)
(.rd 8 (lO 124 1 123)
(.rd 9 (opO 125 (.ibin .add .i64 (.t 119) (.t 124)))
(.rd 10 (iO 126 1 116 117)
(.wr 11 ⟨none, none, .store 1 (.t 126) (.t 125)⟩ [10, 9, 0, 1, 2, 3, 4, 5, 6, 7, 8, 9]
.fin .no)))))))))))) (some [])))))
def ir520 : IFn := ⟨13, [.t 4],
(.seq (.ops [mO 4 0] (some [0, 1]))
(.seq (.ops [mvO 5 0,
mvO 6 1,
opO 7 (.ibin .mul .i64 (.t 5) (.t 6)),
mvO 8 1,
mvO 9 1,
opO 10 (.un .neg (.t 9)),
opO 11 (.minmax true (.t 8) [(.t 10)]),
opO 12 (.ibin .mul .i64 (.t 7) (.t 11)),
mvO 4 12] (some [4]))
.ret))⟩
def ir521 : IFn := ⟨67, [.cell 2 4 true, .t 3],
(.seq (.ops [opO 1 (.box (.t 0)),
opO 2 (.alloc [(.slice none 0 0), (.slice none 0 0), (.slice none 0 0), (.int .i64 0)]),
mO 3 0] (some [1, 2]))
(.seq (.ops [lA 11 2 1,
opO 12 (.build [(.slice none 0 0), (.slice none 0 0), (.slice none 0 0), (.int .i64 0)] [(0, 2, (.t 11)), (3, 1, (ci (-1)))]),
opO 4 (.alloc [(.slice none 0 0), (.slice none 0 0), (.slice none 0 0), (.int .i64 0)]),
⟨none, none, .store 4 (.t 4) (.t 12)⟩] (some [1, 2, 4]))
(.seq (.ops [fO 13 0 1,
fO 14 0 13,
lO 15 1 14,
nO 16 15,
opO 17 (.mslice 1 1 [(.bool false)] (.t 16) (.t 16)),
opO 5 (.alloc [(.slice none 0 0)]),
⟨none, none, .store 1 (.t 5) (.t 17)⟩] (some [1, 2, 4, 5]))
(.seq (.seq (.ops [lA 18 2 1,
cO 19 507 18,
nO 20 19,
mO 21 0] (some [1, 2, 4, 5, 19, 20, 21]))
(.block 0 (.loop (.seq (.ops [sO 22 21 20] none)
(.seq (.cond (.t 22)
.skip
(.exit 0))
(.seq (.block 1 (.seq (.ops [iO 23 1 19 21,
lO 24 1 23,
mvO 7 24] (some [1, 2, 4, 5, 7, 19, 20, 21]))
(.ops [lO 25 1 5,
mvO 26 7,
iO 27 1 25 26,
⟨none, none, .store 1 (.t 27) (.c (.bool true))⟩] (some [1, 2, 4, 5, 19, 20, 21]))))
(.ops [pO 28 21 1,
mvO 21 28] (some [1, 2, 4, 5, 19, 20, 21]))))))))
(.block 2 (.loop (.block 3 (.seq (.ops [fO 29 0 1,
fO 30 1 29,
lO 31 1 30,
opO 32 (.mkfunc 527 [] [(.t 5)]),
opO 33 (.call 526 [(.t 31), (.t 32)]),
mvO 8 33] (some [1, 2, 4, 5, 8]))
(.seq (.seq (.ops [mvO 34 8,
opO 35 (.ibin .lss .i64 (.t 34) (ci 0))] (some [1, 2, 4, 5, 8, 35]))
(.cond (.t 35)
(.seq (.draw (.rd 0 (lA 36 4 4)
(.rd 1 (lO 37 1 5)
(.wr 2 (opO 38 (.call 528 [(.t 37), (.c (.bool false))])) [1]
(.rd 3 (opO 39 (.un .not (.t 38)))
(.wr 4 (opO 40 (.call 492 [(.t 39), (ci 14)])) [3, 2]
(.wr 5 ⟨none, none, .store 4 (.t 2) (.t 36)⟩ [0, 4, 0]
(.rd 6 (mvO 3 40)
.fin) .no) .no)) .no))) (some [2, 3]))
.ret)
.skip))
(.seq (.ops [fO 41 0 1,
fO 42 1 41,
lO 43 1 42,
mvO 44 8,
iO 45 6 43 44,
lA 46 6 45,
opO 9 (.alloc [(.string ⟨#[]⟩), (.int .i64 0), (.int .i64 0), (.int .i64 0), (.bool false), (.bool false)]),
⟨none, none, .store 6 (.t 9) (.t 46)⟩] (some [1, 2, 4, 5, 8, 9]))
(.seq (.ops [fO 47 2 9,
lO 48 1 47,
mvO 10 48] (some [1, 2, 4, 5, 8, 9, 10]))
(.seq (.seq (.ops [lO 49 1 5,
fO 50 2 9,
lO 51 1 50,
iO 52 1 49 51,
lO 53 1 52] (some [1, 2, 4, 5, 8, 9, 10, 53]))
(.cond (.t 53)
(.ops [fO 54 1 9,
lO 55 1 54,
mvO 10 55] (some [1, 2, 4, 5, 8, 10]))
.skip))
(.seq (.ops [lO 56 1 5,
mvO 57 10,
iO 58 1 56 57,
⟨none, none, .store 1 (.t 58) (.c (.bool true))⟩] (some [1, 2, 4, 5, 8, 10]))
(.ops [fO 59 2 4,
lO 60 1 59,
mvO 61 8,
mvO 62 10,
opO 63 (.build [(.int .i64 0), (.int .i64 0)] [(0, 1, (.t 61)), (1, 1, (.t 62))]),
opO 64 (.bslice 1 2 [(.int .i64 0), (.int .i64 0)] [(0, 2, (.t 63))]),
opO 65 (.append 2 16 (.t 60) (.t 64)),
fO 66 2 4,
⟨none, none, .store 1 (.t 66) (.t 65)⟩] (some [1, 2, 4, 5])))))))))))))))⟩
def ir522 : IFn := ⟨9, [.t 4],
(.seq (.ops [bO 4 false] (some [0, 1]))
(.seq (.ops [mvO 5 0,
mvO 6 1,
opO 7 (.call 529 [(.t 5), (.t 6)]),
opO 8 (.ibin .geq .i64 (.t 7) (ci 0)),
mvO 4 8] (some [4]))
.ret))⟩
def ir523 : IFn := ⟨8, [.t 3],
(.seq (.ops [opO 2 (.box (.t 0)),
bO 3 false] (some [1, 2]))
(.seq (.ops [fO 4 0 2,
lO 5 1 4,
lO 6 1 1,
opO 7 (.ibin .eql .i64 (.t 5) (.t 6)),
mvO 3 7] (some [3]))
.ret))⟩
def ir524 : IFn := ⟨4, [.t 2],
(.seq (.ops [opO 1 (.box (.t 0)),
opO 2 (.mov (.c .nilFunc))] (some [1]))
(.seq (.ops [opO 3 (.mkfunc 530 [] [(.t 1)]),
mvO 2 3] (some [2]))
.ret))⟩
def ir525 : IFn := ⟨24, [.t 4, .t 5],
(.seq (.ops [opO 2 (.box (.t 0)),
opO 3 (.box (.t 1)),
mO 4 0,
mO 5 0] (some [2, 3]))
(.seq (.ops [fO 7 0 2,
fO 8 0 7,
fO 9 1 8,
lO 10 1 9,
fO 11 0 3,
lO 12 1 11,
iO 13 6 10 12,
lA 14 6 13,
opO 6 (.alloc [(.string ⟨#[]⟩), (.int .i64 0), (.int .i64 0), (.int .i64 0), (.bool false), (.bool false)]),
⟨none, none, .store 6 (.t 6) (.t 14)⟩] (some [3, 6]))
(.seq (.ops [fO 15 2 6,
lO 16 1 15,
fO 17 1 3,
lO 18 1 17,
opO 19 (.ibin .neq .i64 (.t 16) (.t 18))] (some [6, 19]))
(.cond (.t 19)
(.seq (.ops [fO 20 2 6,
lO 21 1 20,
mvO 4 21,
opO 5 (.mov (ci (-1)))] (some [4, 5]))
.ret)
(.seq (.ops [fO 22 1 6,
lO 23 1 22,
mvO 4 23,
mO 5 1] (some [4, 5]))
.ret)))))⟩
def ir526 : IFn := ⟨19, [.t 4],
(.seq (.ops [mO 4 0] (some [0, 1]))
(.seq (.seq (.ops [mvO 6 0,
nO 7 6,
mO 8 0] (some [0, 1, 7, 8]))
(.block 0 (.loop (.seq (.ops [sO 9 8 7] none)
(.seq (.cond (.t 9)
.skip
(.exit 0))
(.seq (.block 1 (.seq (.ops [mvO 10 8,
mvO 5 10] (some [0, 1, 5, 7, 8]))
(.seq (.ops [mvO 11 1,
mvO 12 0,
mvO 13 5,
iO 14 6 12 13,
lA 15 6 14,
opO 16 (.callv (.t 11) [(.t 15)])] (some [0, 1, 5, 7, 8, 16]))
(.cond (.t 16)
(.seq (.ops [mvO 17 5,
mvO 4 17] (some [4]))
.ret)
.skip))))
(.ops [pO 18 8 1,
mvO 8 18] (some [0, 1, 7, 8]))))))))
(.seq (.ops [opO 4 (.mov (ci (-1)))] none)
.ret)))⟩
def ir527 : IFn := ⟨19, [.t 3],
(.seq (.ops [opO 2 (.box (.t 0)),
bO 3 false] (some [1, 2]))
(.seq (.draw (.rd 0 (fO 4 5 2)
(.rd 1 (lO 5 1 4)
(.rd 2 (mvO 6 5)
(.rd 3 ⟨(some 7), (some (6, true)), .load 1 false (.t 1)⟩
(.rd 4 ⟨(some 8), (some (6, true)), .faddr 1 (.t 2)⟩
(.rd 5 ⟨(some 9), (some (6, true)), .load 1 false (.t 8)⟩
(.rd 6 ⟨(some 10), (some (6, true)), .iaddr 1 (.t 7) (.t 9)⟩
(.rd 7 ⟨(some 11), (some (6, true)), .load 1 false (.t 10)⟩
(.rd 8 ⟨(some 12), (some (6, true)), .load 1 false (.t 1)⟩
(.rd 9 ⟨(some 13), (some (6, true)), .faddr 2 (.t 2)⟩
(.rd 10 ⟨(some 14), (some (6, true)), .load 1 false (.t 13)⟩
(.rd 11 ⟨(some 15), (some (6, true)), .iaddr 1 (.t 12) (.t 14)⟩
(.rd 12 ⟨(some 16), (some (6, true)), .load 1 false (.t 15)⟩
(.rd 13 ⟨(some 17), (some (6, true)), .bbin true (.t 11) (.t 16)⟩
(.rd 14 (opO 18 (.pick (.t 6) (.t 17) (.c (.bool false))))
(.rd 15 (mvO 3 18)
.fin)))))))))))))))) (some [3]))
.ret))⟩
def ir528 : IFn := ⟨9, [.t 4],
(.seq (.ops [bO 4 false] (some [0, 1]))
(.seq (.ops [mvO 5 0,
mvO 6 1,
opO 7 (.call 531 [(.t 5), (.t 6)]),
opO 8 (.ibin .geq .i64 (.t 7) (ci 0)),
mvO 4 8] (some [4]))
.ret))⟩
def ir529 : IFn := ⟨19, [.t 4],
(.seq (.ops [mO 4 0] (some [0, 1]))
(.seq (.seq (.ops [mvO 6 0,
nO 7 6,
mO 8 0] (some [0, 1, 7, 8]))
(.block 0 (.loop (.seq (.ops [sO 9 8 7] none)
(.seq (.cond (.t 9)
.skip
(.exit 0))
(.seq (.block 1 (.seq (.ops [mvO 10 8,
mvO 5 10] (some [0, 1, 5, 7, 8]))
(.seq (.ops [mvO 11 1,
mvO 12 0,
mvO 13 5,
iO 14 2 12 13,
lA 15 2 14,
opO 16 (.callv (.t 11) [(.t 15)])] (some [0, 1, 5, 7, 8, 16]))
(.cond (.t 16)
(.seq (.ops [mvO 17 5,
mvO 4 17] (some [4]))
.ret)
.skip))))
(.ops [pO 18 8 1,
mvO 8 18] (some [0, 1, 7, 8]))))))))
(.seq (.ops [opO 4 (.mov (ci (-1)))] none)
.ret)))⟩
def ir530 : IFn := ⟨19, [],
(.seq (.ops [lO 4 1 1,
nO 5 4,
opO 6 (.ibin .sub .i64 (.t 5) (ci 1)),
mvO 3 6] (some [0, 1, 3]))
(.block 0 (.loop (.seq (.seq (.ops [mvO 7 3,
opO 8 (.ibin .geq .i64 (.t 7) (ci 0))] (some [0, 1, 3, 8]))
(.cond (.t 8)
.skip
(.exit 0)))
(.seq (.block 1 (.seq (.ops [mvO 11 0,
mvO 12 3,
lO 13 1 1,
mvO 14 3,
iO 15 2 13 14,
lA 16 2 15,
opO 17 (.callv (.t 11) [(.t 12), (.t 16)]),
opO 18 (.un .not (.t 17))] (some [0, 1, 3, 18]))
(.cond (.t 18)
.ret
.skip)))
(.ops [mvO 9 3,
opO 10 (.ibin .sub .i64 (.t 9) (ci 1)),
mvO 3 10] (some [0, 1, 3])))))))⟩
def ir531 : IFn := ⟨19, [.t 4],
(.seq (.ops [mO 4 0] (some [0, 1]))
(.seq (.seq (.ops [mvO 6 0,
nO 7 6,
mO 8 0] (some [0, 1, 7, 8]))
(.block 0 (.loop (.seq (.ops [sO 9 8 7] none)
(.seq (.cond (.t 9)
.skip
(.exit 0))
(.seq (.block 1 (.seq (.ops [mvO 10 8,
mvO 5 10] (some [0, 1, 5, 7, 8]))
(.seq (.ops [mvO 11 1,
mvO 12 0,
mvO 13 5,
iO 14 1 12 13,
lO 15 1 14,
opO 16 (.bbin false (.t 11) (.t 15))] (some [0, 1, 5, 7, 8, 16]))
(.cond (.t 16)
(.seq (.ops [mvO 17 5,
mvO 4 17] (some [4]))
.ret)
.skip))))
(.ops [pO 18 8 1,
mvO 8 18] (some [0, 1, 7, 8]))))))))
(.seq (.ops [opO 4 (.mov (ci (-1)))] none)
.ret)))⟩
end Go.Proofs.Ytjnpdnlgkepmcaa.AM
