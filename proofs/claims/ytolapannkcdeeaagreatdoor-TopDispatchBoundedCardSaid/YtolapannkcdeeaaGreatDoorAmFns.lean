/- The functions in the small language. Conditions: none. -/
import Derived.Test.YtolapannkcdeeaaGreatDoorAmFn
namespace Go.Proofs.YtolapannkcdeeaaGreatDoor.AM
set_option linter.unusedSimpArgs false
set_option linter.unusedVariables false
open Go Go.RowKit
abbrev mvO (d x : Nat) : IOpG := ⟨some d, none, .mov (.t x)⟩
abbrev opO (d : Nat) (x : IOp) : IOpG := ⟨some d, none, x⟩
abbrev ci (n : Int) : Opd := .c (.int .i64 n)
abbrev lO (d n x : Nat) : IOpG := opO d (.load n false (.t x))
abbrev lA (d n x : Nat) : IOpG := opO d (.load n true (.t x))
abbrev fO (d n x : Nat) : IOpG := opO d (.faddr n (.t x))
abbrev mO (d : Nat) (n : Int) : IOpG := opO d (.mov (ci n))
abbrev nO (d x : Nat) : IOpG := opO d (.lenV (.t x))
abbrev xO (d i x : Nat) : IOpG := opO d (.extract i (.t x))
abbrev iO (d z x i : Nat) : IOpG := opO d (.iaddr z (.t x) (.t i))
abbrev pO (d x : Nat) (n : Int) : IOpG := opO d (.ibin .add .i64 (.t x) (ci n))
abbrev sO (d x y : Nat) : IOpG := opO d (.ibin .lss .i64 (.t x) (.t y))
abbrev cO (d k x : Nat) : IOpG := opO d (.call k [.t x])
abbrev bO (d : Nat) (b : Bool) : IOpG := opO d (.mov (.c (.bool b)))
def ir15 : IFn := ⟨15, [.t 6],
(.seq (.ops [bO 6 false] (some [0, 1, 2]))
(.seq (.ops [mvO 7 1,
mvO 8 0,
opO 9 (.ibin .leq .i64 (.t 7) (.t 8)),
mvO 10 9,
⟨(some 11), (some (10, true)), .mov (.t 0)⟩,
⟨(some 12), (some (10, true)), .mov (.t 2)⟩,
⟨(some 13), (some (10, true)), .ibin .leq .i64 (.t 11) (.t 12)⟩,
opO 14 (.pick (.t 10) (.t 13) (.c (.bool false))),
mvO 6 14] (some [6]))
.ret))⟩
def ir26 : IFn := ⟨26, [.t 4],
(.seq (.ops [bO 4 false] (some [0, 1]))
(.seq (.seq (.ops [mvO 6 0,
nO 7 6,
mvO 8 1,
nO 9 8,
opO 10 (.ibin .neq .i64 (.t 7) (.t 9))] (some [0, 1, 10]))
(.cond (.t 10)
(.seq (.ops [bO 4 false] none)
.ret)
.skip))
(.seq (.seq (.ops [mO 5 0] none)
(.block 0 (.loop (.seq (.seq (.ops [mvO 11 5,
mvO 12 0,
nO 13 12,
sO 14 11 13] (some [0, 1, 5, 14]))
(.cond (.t 14)
.skip
(.exit 0)))
(.seq (.block 1 (.seq (.draw (.rd 0 (mvO 17 0)
(.rd 1 (mvO 18 5)
(.rd 2 (iO 19 1 17 18)
(.rd 3 (lO 20 1 19)
(.rd 4 (mvO 21 1)
(.rd 5 (mvO 22 5)
(.rd 6 (iO 23 1 21 22)
(.rd 7 (lO 24 1 23)
(.rd 8 (opO 25 (.ibin .neq .i64 (.t 20) (.t 24)))
.fin))))))))) (some [0, 1, 5, 25]))
(.cond (.t 25)
(.seq (.ops [bO 4 false] none)
.ret)
.skip)))
(.ops [mvO 15 5,
pO 16 15 1,
mvO 5 16] (some [0, 1, 5])))))))
(.seq (.ops [bO 4 true] none)
.ret))))⟩
def ir38 : IFn := ⟨6, [.t 2],
(.seq (.ops [opO 2 (.mov (.c (.slice none 0 0)))] (some [0]))
(.seq (.ops [opO 3 (.bslice 0 1 [(.int .i64 0)] []),
mvO 4 0,
opO 5 (.append 1 8 (.t 3) (.t 4)),
mvO 2 5] (some [2]))
.ret))⟩
def ir70 : IFn := ⟨19, [.t 4],
(.seq (.ops [mO 4 0] (some [0, 1]))
(.seq (.seq (.ops [mvO 6 0,
nO 7 6,
mO 8 0] (some [0, 1, 7, 8]))
(.block 0 (.loop (.seq (.ops [sO 9 8 7] none)
(.seq (.cond (.t 9)
.skip
(.exit 0))
(.seq (.block 1 (.seq (.ops [mvO 10 8,
mvO 5 10] (some [0, 1, 5, 7, 8]))
(.seq (.ops [mvO 11 1,
mvO 12 0,
mvO 13 5,
iO 14 1 12 13,
lO 15 1 14,
opO 16 (.callv (.t 11) [(.t 15)])] (some [0, 1, 5, 7, 8, 16]))
(.cond (.t 16)
(.seq (.ops [mvO 17 5,
mvO 4 17] (some [4]))
.ret)
.skip))))
(.ops [pO 18 8 1,
mvO 8 18] (some [0, 1, 7, 8]))))))))
(.seq (.ops [opO 4 (.mov (ci (-1)))] none)
.ret)))⟩
def ir80 : IFn := ⟨9, [.t 4],
(.seq (.ops [bO 4 false] (some [0, 1]))
(.seq (.ops [mvO 5 0,
mvO 6 1,
opO 7 (.call 70 [(.t 5), (.t 6)]),
opO 8 (.ibin .geq .i64 (.t 7) (ci 0)),
mvO 4 8] (some [4]))
.ret))⟩
def ir91 : IFn := ⟨55, [.t 2],
(.seq (.ops [bO 2 false] (some [0]))
(.seq (.seq (.ops [mvO 6 0,
opO 7 (.lenS (.t 6)),
opO 8 (.ibin .lss .i64 (.t 7) (ci 1)),
mvO 9 8,
⟨(some 10), (some (9, false)), .mov (.t 0)⟩,
⟨(some 11), (some (9, false)), .lenS (.t 10)⟩,
⟨(some 12), (some (9, false)), .ibin .gtr .i64 (.t 11) (ci 12)⟩,
opO 13 (.pick (.t 9) (.c (.bool true)) (.t 12))] (some [0, 13]))
(.cond (.t 13)
(.seq (.ops [bO 2 false] none)
.ret)
.skip))
(.seq (.seq (.ops [mO 3 0] none)
(.block 0 (.loop (.seq (.seq (.ops [mvO 14 3,
mvO 15 0,
opO 16 (.lenS (.t 15)),
sO 17 14 16] (some [0, 3, 17]))
(.cond (.t 17)
.skip
(.exit 0)))
(.seq (.block 1 (.seq (.ops [mvO 20 0,
mvO 21 3,
opO 22 (.indexS (.t 20) (.t 21)),
mvO 4 22] (some [0, 3, 4]))
(.seq (.ops [mvO 23 4,
opO 24 (.ibin .geq .u8 (.t 23) (.c (.int .u8 97))),
mvO 25 24,
⟨(some 26), (some (25, true)), .mov (.t 4)⟩,
⟨(some 27), (some (25, true)), .ibin .leq .u8 (.t 26) (.c (.int .u8 122))⟩,
opO 28 (.pick (.t 25) (.t 27) (.c (.bool false))),
mvO 29 28,
⟨(some 30), (some (29, false)), .mov (.t 4)⟩,
⟨(some 31), (some (29, false)), .ibin .geq .u8 (.t 30) (.c (.int .u8 65))⟩,
⟨(some 32), (some (29, false)), .mov (.t 31)⟩,
⟨(some 33), (some (32, true)), .mov (.t 4)⟩,
⟨(some 34), (some (32, true)), .ibin .leq .u8 (.t 33) (.c (.int .u8 90))⟩,
⟨(some 35), (some (29, false)), .pick (.t 32) (.t 34) (.c (.bool false))⟩,
opO 36 (.pick (.t 29) (.c (.bool true)) (.t 35)),
mvO 5 36] (some [0, 3, 4, 5]))
(.seq (.ops [mvO 37 5,
opO 38 (.un .not (.t 37)),
mvO 39 38,
⟨(some 40), (some (39, true)), .mov (.t 3)⟩,
⟨(some 41), (some (39, true)), .ibin .eql .i64 (.t 40) (ci 0)⟩,
⟨(some 42), (some (39, true)), .mov (.t 41)⟩,
⟨(some 43), (some (42, false)), .mov (.t 4)⟩,
⟨(some 44), (some (42, false)), .ibin .neq .u8 (.t 43) (.c (.int .u8 45))⟩,
⟨(some 45), (some (42, false)), .mov (.t 44)⟩,
⟨(some 46), (some (45, true)), .mov (.t 4)⟩,
⟨(some 47), (some (45, true)), .ibin .lss .u8 (.t 46) (.c (.int .u8 48))⟩,
⟨(some 48), (some (45, true)), .mov (.t 47)⟩,
⟨(some 49), (some (48, false)), .mov (.t 4)⟩,
⟨(some 50), (some (48, false)), .ibin .gtr .u8 (.t 49) (.c (.int .u8 57))⟩,
⟨(some 51), (some (45, true)), .pick (.t 48) (.c (.bool true)) (.t 50)⟩,
⟨(some 52), (some (42, false)), .pick (.t 45) (.t 51) (.c (.bool false))⟩,
⟨(some 53), (some (39, true)), .pick (.t 42) (.c (.bool true)) (.t 52)⟩,
opO 54 (.pick (.t 39) (.t 53) (.c (.bool false)))] (some [0, 3, 54]))
(.cond (.t 54)
(.seq (.ops [bO 2 false] none)
.ret)
.skip)))))
(.ops [mvO 18 3,
pO 19 18 1,
mvO 3 19] (some [0, 3])))))))
(.seq (.ops [bO 2 true] none)
.ret))))⟩
def ir201 : IFn := ⟨81, [.cell 4 3 true, .t 5],
(.seq (.ops [opO 4 (.alloc [(.int .i64 0), (.int .i64 0), (.int .i64 0)]),
mO 5 0] (some [0, 1, 4]))
(.seq (.seq (.ops [mvO 12 0,
cO 13 217 12,
mvO 14 1,
cO 15 217 14,
mvO 16 0,
nO 17 16,
mvO 18 1,
nO 19 18,
opO 20 (.ibin .eql .i64 (.t 17) (.t 19)),
opO 21 (.call 214 [(.t 20), (ci 10)]),
opO 22 (.bslice 3 1 [(.int .i64 0)] [(0, 1, (.t 13)), (1, 1, (.t 15)), (2, 1, (.t 21))]),
cO 23 213 22,
mvO 6 23] (some [0, 1, 4, 6]))
(.seq (.ops [mvO 24 6,
opO 25 (.ibin .neq .i64 (.t 24) (ci 0))] (some [0, 1, 4, 6, 25]))
(.cond (.t 25)
(.seq (.ops [opO 26 (.build [(.int .i64 0), (.int .i64 0), (.int .i64 0)] []),
mvO 27 6,
⟨none, none, .store 3 (.t 4) (.t 26)⟩,
mvO 5 27] (some [4, 5]))
.ret)
.skip)))
(.seq (.ops [opO 7 (.alloc [(.int .i64 0), (.int .i64 0), (.int .i64 0)])] none)
(.seq (.seq (.ops [mvO 28 0,
nO 29 28,
mO 30 0] (some [1, 4, 7, 28, 29, 30]))
(.block 0 (.loop (.seq (.ops [sO 31 30 29] none)
(.seq (.cond (.t 31)
.skip
(.exit 0))
(.seq (.block 1 (.seq (.ops [mvO 32 30,
iO 33 1 28 30,
lO 34 1 33,
mvO 8 32,
mvO 9 34] (some [1, 4, 7, 8, 9, 28, 29, 30]))
(.seq (.ops [mvO 35 1,
mvO 36 8,
iO 37 1 35 36,
lO 38 1 37,
mvO 10 38] (some [1, 4, 7, 9, 10, 28, 29, 30]))
(.seq (.ops [mO 11 0] none)
(.seq (.seq (.ops [mvO 39 9,
opO 40 (.ibin .gtr .i64 (.t 39) (ci 0)),
mvO 41 40,
⟨(some 42), (some (41, true)), .mov (.t 10)⟩,
⟨(some 43), (some (41, true)), .ibin .gtr .i64 (.t 42) (ci 0)⟩,
opO 44 (.pick (.t 41) (.t 43) (.c (.bool false))),
mvO 45 44,
⟨(some 46), (some (45, false)), .mov (.t 9)⟩,
⟨(some 47), (some (45, false)), .ibin .lss .i64 (.t 46) (ci 0)⟩,
⟨(some 48), (some (45, false)), .mov (.t 47)⟩,
⟨(some 49), (some (48, true)), .mov (.t 10)⟩,
⟨(some 50), (some (48, true)), .ibin .lss .i64 (.t 49) (ci 0)⟩,
⟨(some 51), (some (45, false)), .pick (.t 48) (.t 50) (.c (.bool false))⟩,
opO 52 (.pick (.t 45) (.c (.bool true)) (.t 51))] (some [1, 4, 7, 9, 10, 11, 28, 29, 30, 52]))
(.cond (.t 52)
(.ops [mvO 53 9,
cO 54 218 53,
mvO 55 10,
cO 56 218 55,
opO 57 (.minmax false (.t 54) [(.t 56)]),
mvO 11 57] (some [1, 4, 7, 9, 10, 11, 28, 29, 30]))
.skip))
(.seq (.ops [fO 58 0 7,
lO 59 1 58,
mvO 60 11,
opO 61 (.ibin .add .i64 (.t 59) (.t 60)),
fO 62 0 7,
⟨none, none, .store 1 (.t 62) (.t 61)⟩] (some [1, 4, 7, 9, 10, 11, 28, 29, 30]))
(.seq (.draw (.rd 0 (fO 63 1 7)
(.rd 1 (lO 64 1 63)
(.rd 2 (mvO 65 9)
(.rd 4 (mvO 67 11)
(.wr 3 (cO 66 218 65) [2]
(.rd 5 (opO 68 (.ibin .sub .i64 (.t 66) (.t 67)))
(.rd 6 (opO 69 (.ibin .add .i64 (.t 64) (.t 68)))
(.rd 7 (fO 70 1 7)
(.wr 8 ⟨none, none, .store 1 (.t 70) (.t 69)⟩ [7, 6, 3, 0, 1, 2, 3, 4, 5, 6]
.fin .no)))) .no))))) (some [1, 4, 7, 10, 11, 28, 29, 30]))
(.draw (.rd 0 (fO 71 2 7)
(.rd 1 (lO 72 1 71)
(.rd 2 (mvO 73 10)
(.rd 4 (mvO 75 11)
(.wr 3 (cO 74 218 73) [2]
(.rd 5 (opO 76 (.ibin .sub .i64 (.t 74) (.t 75)))
(.rd 6 (opO 77 (.ibin .add .i64 (.t 72) (.t 76)))
(.rd 7 (fO 78 2 7)
(.wr 8 ⟨none, none, .store 1 (.t 78) (.t 77)⟩ [7, 6, 3, 0, 1, 2, 3, 4, 5, 6]
.fin .no)))) .no))))) (some [1, 4, 7, 28, 29, 30])))))))))
(.ops [pO 79 30 1,
mvO 30 79] (some [1, 4, 7, 28, 29, 30]))))))))
(.seq (.ops [lA 80 3 7,
⟨none, none, .store 3 (.t 4) (.t 80)⟩,
mO 5 0] (some [4, 5]))
.ret)))))⟩
def ir206 : IFn := ⟨32, [.t 4, .t 5, .t 6],
(.seq (.ops [opO 2 (.box (.t 0)),
opO 3 (.box (.t 1)),
opO 4 (.mov (.c (.slice none 0 0))),
mO 5 0,
mO 6 0] (some [2, 3]))
(.seq (.ops [lA 13 3 2,
lA 14 4 3,
opO 15 (.call 219 [(.t 13), (.t 14)]),
mvO 12 15,
xO 16 0 12,
xO 17 1 12,
opO 7 (.alloc [(.int .i64 0), (.int .i64 0), (.slice none 0 0), (.int .i64 0), (.int .i64 0), (.int .i64 0), (.slice none 0 0)]),
⟨none, none, .store 7 (.t 7) (.t 16)⟩,
mvO 8 17] (some [7, 8]))
(.seq (.seq (.ops [mvO 18 8,
opO 19 (.ibin .neq .i64 (.t 18) (ci 0))] (some [7, 8, 19]))
(.cond (.t 19)
(.seq (.ops [mvO 20 8,
opO 4 (.mov (.c (.slice none 0 0))),
mO 5 0,
mvO 6 20] (some [4, 5, 6]))
.ret)
.skip))
(.seq (.ops [lA 22 7 7,
opO 23 (.build [(.int .i64 0), (.int .i64 0)] [(0, 1, (ci (-1)))]),
opO 24 (.call 220 [(.t 22), (.t 23)]),
mvO 21 24,
xO 25 0 21,
xO 26 1 21,
xO 27 2 21,
mvO 9 25,
mvO 10 26,
mvO 11 27] (some [9, 10, 11]))
(.seq (.ops [mvO 28 9,
mvO 29 10,
mvO 30 11,
opO 31 (.call 214 [(.t 30), (ci 12)]),
mvO 4 28,
mvO 5 29,
mvO 6 31] (some [4, 5, 6]))
.ret)))))⟩
def ir207 : IFn := ⟨6, [.cell 0 3 true],
(.seq (.ops [opO 0 (.alloc [(.int .i64 0), (.int .i64 0), (.slice none 0 0)])] none)
(.seq (.ops [opO 1 (.build [(.string ⟨#[]⟩), (.int .i64 0), (.int .i64 0), (.int .i64 0)] [(0, 1, (.c (.string ⟨#[114, 101, 115, 116]⟩)))]),
opO 2 (.build [(.string ⟨#[]⟩), (.int .i64 0), (.int .i64 0), (.int .i64 0)] [(0, 1, (.c (.string ⟨#[112, 117, 109, 112]⟩))), (1, 1, (ci 3)), (2, 1, (ci (-4))), (3, 1, (ci 5))]),
opO 3 (.build [(.string ⟨#[]⟩), (.int .i64 0), (.int .i64 0), (.int .i64 0)] [(0, 1, (.c (.string ⟨#[116, 117, 114, 98, 105, 110, 101]⟩))), (1, 1, (ci (-3))), (2, 1, (ci 3)), (3, 1, (ci 2))]),
opO 4 (.bslice 3 4 [(.string ⟨#[]⟩), (.int .i64 0), (.int .i64 0), (.int .i64 0)] [(0, 4, (.t 1)), (4, 4, (.t 2)), (8, 4, (.t 3))]),
opO 5 (.build [(.int .i64 0), (.int .i64 0), (.slice none 0 0)] [(1, 1, (ci 10)), (2, 1, (.t 4))]),
⟨none, none, .store 3 (.t 0) (.t 5)⟩] (some [0]))
.ret))⟩
def ir208 : IFn := ⟨5, [.cell 0 4 true],
(.seq (.ops [opO 0 (.alloc [(.int .i64 0), (.int .i64 0), (.int .i64 0), (.slice none 0 0)])] none)
(.seq (.ops [opO 1 (.build [(.int .i64 0), (.int .i64 0), (.int .i64 0)] [(0, 1, (ci 2)), (1, 1, (ci 1))]),
opO 2 (.build [(.int .i64 0), (.int .i64 0), (.int .i64 0)] [(0, 1, (ci 12)), (1, 1, (ci 10)), (2, 1, (ci 1))]),
opO 3 (.bslice 2 3 [(.int .i64 0), (.int .i64 0), (.int .i64 0)] [(0, 3, (.t 1)), (3, 3, (.t 2))]),
opO 4 (.build [(.int .i64 0), (.int .i64 0), (.int .i64 0), (.slice none 0 0)] [(0, 1, (ci 4)), (2, 1, (ci 1)), (3, 1, (.t 3))]),
⟨none, none, .store 4 (.t 0) (.t 4)⟩] (some [0]))
.ret))⟩
def ir213 : IFn := ⟨15, [.t 2],
(.seq (.ops [mO 2 0] (some [0]))
(.seq (.seq (.ops [mvO 5 0,
nO 6 5,
mO 7 0] (some [5, 6, 7]))
(.block 0 (.loop (.seq (.ops [sO 8 7 6] none)
(.seq (.cond (.t 8)
.skip
(.exit 0))
(.seq (.block 1 (.seq (.ops [iO 9 1 5 7,
lO 10 1 9,
mvO 4 10] (some [4, 5, 6, 7]))
(.seq (.ops [mvO 11 4,
opO 12 (.ibin .neq .i64 (.t 11) (ci 0))] (some [4, 5, 6, 7, 12]))
(.cond (.t 12)
(.seq (.ops [mvO 13 4,
mvO 2 13] (some [2]))
.ret)
.skip))))
(.ops [pO 14 7 1,
mvO 7 14] (some [5, 6, 7]))))))))
(.seq (.ops [mO 2 0] none)
.ret)))⟩
def ir214 : IFn := ⟨7, [.t 4],
(.seq (.ops [mO 4 0] (some [0, 1]))
(.seq (.seq (.ops [mvO 5 0] (some [1, 5]))
(.cond (.t 5)
(.seq (.ops [mO 4 0] none)
.ret)
.skip))
(.seq (.ops [mvO 6 1,
mvO 4 6] (some [4]))
.ret)))⟩
def ir215 : IFn := ⟨5, [.t 2],
(.seq (.ops [bO 2 false] (some [0]))
(.seq (.ops [mvO 3 0,
opO 4 (.call 235 [(.t 3), (ci 1000000)]),
mvO 2 4] (some [2]))
.ret))⟩
def ir216 : IFn := ⟨15, [.t 6],
(.seq (.ops [bO 6 false] (some [0, 1, 2]))
(.seq (.ops [mvO 7 1,
mvO 8 0,
opO 9 (.ibin .leq .i64 (.t 7) (.t 8)),
mvO 10 9,
⟨(some 11), (some (10, true)), .mov (.t 0)⟩,
⟨(some 12), (some (10, true)), .mov (.t 2)⟩,
⟨(some 13), (some (10, true)), .ibin .leq .i64 (.t 11) (.t 12)⟩,
opO 14 (.pick (.t 10) (.t 13) (.c (.bool false))),
mvO 6 14] (some [6]))
.ret))⟩
def ir217 : IFn := ⟨15, [.t 2],
(.seq (.ops [mO 2 0] (some [0]))
(.seq (.ops [mvO 4 0,
opO 5 (.call 80 [(.t 4), (.f 236)]),
mvO 3 5] (some [0, 3]))
(.seq (.ops [mvO 6 0,
nO 7 6,
opO 8 (.ibin .leq .i64 (.t 7) (ci 300)),
opO 9 (.call 214 [(.t 8), (ci 8)]),
mvO 10 3,
opO 11 (.un .not (.t 10)),
opO 12 (.call 214 [(.t 11), (ci 2)]),
opO 13 (.bslice 2 1 [(.int .i64 0)] [(0, 1, (.t 9)), (1, 1, (.t 12))]),
cO 14 213 13,
mvO 2 14] (some [2]))
.ret)))⟩
def ir218 : IFn := ⟨7, [.t 2],
(.seq (.ops [mO 2 0] (some [0]))
(.seq (.ops [mvO 3 0,
mvO 4 0,
opO 5 (.un .neg (.t 4)),
opO 6 (.minmax true (.t 3) [(.t 5)]),
mvO 2 6] (some [2]))
.ret))⟩
def ir219 : IFn := ⟨18, [.cell 4 7 true, .t 5],
(.seq (.ops [opO 2 (.box (.t 0)),
opO 3 (.box (.t 1)),
opO 4 (.alloc [(.int .i64 0), (.int .i64 0), (.slice none 0 0), (.int .i64 0), (.int .i64 0), (.int .i64 0), (.slice none 0 0)]),
mO 5 0] (some [2, 3, 4]))
(.seq (.ops [lA 9 3 2,
lA 10 4 3,
opO 11 (.call 237 [(.t 9), (.t 10)]),
mvO 8 11,
xO 12 0 8,
xO 13 1 8,
mvO 6 12,
mvO 7 13] (some [2, 3, 4, 7]))
(.seq (.ops [lA 14 3 2,
lA 15 4 3,
opO 16 (.build [(.int .i64 0), (.int .i64 0), (.slice none 0 0), (.int .i64 0), (.int .i64 0), (.int .i64 0), (.slice none 0 0)] [(0, 3, (.t 14)), (3, 4, (.t 15))]),
mvO 17 7,
⟨none, none, .store 7 (.t 4) (.t 16)⟩,
mvO 5 17] (some [4, 5]))
.ret)))⟩
def ir220 (r : Nat → Code × Code) : IFn := ⟨92, [.t 4, .t 5, .t 6],
(.seq (.ops [opO 2 (.box (.t 0)),
opO 3 (.box (.t 1)),
opO 4 (.mov (.c (.slice none 0 0))),
mO 5 0,
bO 6 false] none)
(.seq (.ops [lA 16 7 2,
lA 17 2 3,
opO 18 (.call 229 [(.t 16), (.t 17)]),
opO 7 (.alloc [(.slice none 0 0)]),
⟨none, none, .store 1 (.t 7) (.t 18)⟩] none)
(.seq (.draw (.rd 0 (lO 19 1 7)
(.rd 1 (opO 20 (.iaddr 1 (.t 19) (ci 0)))
(.rd 2 (lO 21 1 20)
(.rd 3 (lA 22 7 2)
(.rd 4 (fO 23 3 2)
(.rd 5 (fO 24 0 23)
(.rd 6 (lO 25 1 24)
(.rd 7 (fO 26 3 2)
(.rd 8 (fO 27 1 26)
(.rd 9 (lO 28 1 27)
(.wr 10 (opO 29 (.call 234 [(.t 22), (.t 25), (.t 28)])) [3, 6, 9]
(.rd 11 (iO 30 1 21 29)
(.rd 12 (lO 31 1 30)
(.rd 13 (mvO 8 31)
.fin))) .no))))))))))) none)
(.seq (.seq (.ops [mvO 32 8,
cO 33 233 32,
opO 34 (.un .not (.t 33))] none)
(.cond (.t 34)
(.seq (.ops [opO 4 (.mov (.c (.slice none 0 0))),
mO 5 0,
bO 6 false] none)
.ret)
.skip))
(.seq (.ops [opO 9 (.alloc [(.slice none 0 0)])] none)
(.seq (.draw (.rd 0 (fO 35 3 2)
(.rd 1 (fO 36 0 35)
(.rd 2 (lO 37 1 36)
(.rd 3 (fO 38 3 2)
(.rd 4 (fO 39 1 38)
(.rd 5 (lO 40 1 39)
(.wr 6 (opO 10 (.alloc [(.int .i64 0)])) []
(.wr 7 (opO 11 (.alloc [(.int .i64 0)])) []
(.wr 8 ⟨none, none, .store 1 (.t 10) (.t 37)⟩ [6, 2, 0, 1, 2, 6, 7]
(.wr 9 ⟨none, none, .store 1 (.t 11) (.t 40)⟩ [7, 5, 8, 0, 1, 2, 3, 4, 5, 6, 7, 8]
.fin .no) .no) .no)
(.wr 7 (opO 11 (.alloc [(.int .i64 0)])) []
(.wr 6 (opO 10 (.alloc [(.int .i64 0)])) []
(.wr 8 ⟨none, none, .store 1 (.t 10) (.t 37)⟩ [6, 2, 0, 1, 2, 6, 7]
(.wr 9 ⟨none, none, .store 1 (.t 11) (.t 40)⟩ [7, 5, 8, 0, 1, 2, 3, 4, 5, 6, 7, 8]
.fin .no) .no) .no) .no)))))))) none)
(.seq (.seq (.ops [fO 41 3 2,
fO 42 3 41,
lO 43 1 42,
nO 44 43,
mO 45 0] none)
(.block 0 (.loop (.seq (.ops [sO 46 45 44] none)
(.seq (.cond (.t 46)
.skip
(.exit 0))
(.seq (.block 1 (.seq (.ops [mvO 47 45,
opO 12 (.alloc [(.int .i64 0)]),
⟨none, none, .store 1 (.t 12) (.t 47)⟩] none)
(.seq (.draw (.rd 0 (lO 48 1 7)
(.rd 1 (lO 49 1 12)
(.rd 2 (iO 50 1 48 49)
(.rd 3 (lO 51 1 50)
(.rd 4 (lA 52 7 2)
(.rd 5 (lO 53 1 10)
(.rd 6 (lO 54 1 11)
(.wr 7 (opO 55 (.call 234 [(.t 52), (.t 53), (.t 54)])) [4, 5, 6]
(.rd 8 (iO 56 1 51 55)
(.rd 9 (lO 57 1 56)
(.wr 10 (opO 13 (.alloc [(.int .i64 0)])) []
(.wr 11 ⟨none, none, .store 1 (.t 13) (.t 57)⟩ [10, 9, 7, 0, 1, 2, 3, 4, 5, 6, 7, 8, 9, 10]
.fin .no) .no)))
(.wr 10 (opO 13 (.alloc [(.int .i64 0)])) []
(.wr 7 (opO 55 (.call 234 [(.t 52), (.t 53), (.t 54)])) [4, 5, 6]
(.rd 8 (iO 56 1 51 55)
(.rd 9 (lO 57 1 56)
(.wr 11 ⟨none, none, .store 1 (.t 13) (.t 57)⟩ [10, 9, 7, 0, 1, 2, 3, 4, 5, 6, 7, 8, 9, 10]
.fin .no))) .no) .no))))))))) none)
(.seq (.ops [lA 58 7 2,
lO 59 1 10,
lO 60 1 12,
opO 61 (.call 238 [(.t 58), (.t 59), (.t 60)])] none)
(.block 2 (.range 92 (.t 61) #[62, 63] (r 0).1 (r 0).2))))))
(.ops [pO 89 45 1,
mvO 45 89] none)))))))
(.seq (.ops [lO 90 1 9,
mvO 91 8,
mvO 4 90,
mvO 5 91,
bO 6 true] (some [4, 5, 6]))
.ret))))))))⟩
def ir220a0 : ICode :=
(.seq (.ops [mvO 14 62] none)
(.ops [mvO 15 63] none))
def ir220b0 : ICode :=
(.block 3 (.seq (.draw (.rd 0 (lA 64 7 2)
(.rd 1 (lO 65 1 12)
(.rd 2 (lO 66 1 11)
(.rd 3 (mvO 67 14)
(.rd 5 (lO 69 1 7)
(.rd 6 (lO 70 1 12)
(.rd 7 (pO 71 70 1)
(.rd 8 (iO 72 1 69 71)
(.rd 9 (lO 73 1 72)
(.rd 10 (lA 74 7 2)
(.rd 11 (mvO 75 15)
(.rd 12 (mvO 76 14)
(.rd 17 (lO 81 1 13)
(.wr 4 (opO 68 (.call 239 [(.t 64), (.t 65), (.t 66), (.t 67)])) [0, 1, 2, 3]
(.wr 13 (opO 77 (.call 234 [(.t 74), (.t 75), (.t 76)])) [10, 11, 12, 4]
(.rd 14 (iO 78 1 73 77)
(.rd 15 (lO 79 1 78)
(.rd 16 (opO 80 (.ibin .add .i64 (.t 68) (.t 79)))
(.rd 18 (opO 82 (.ibin .eql .i64 (.t 80) (.t 81)))
.fin)))) .no) .no)))))))))))))) (some [9, 10, 11, 14, 15, 82]))
(.cond (.t 82)
(.seq (.ops [lO 83 1 9,
mvO 84 14,
opO 85 (.bslice 1 1 [(.int .i64 0)] [(0, 1, (.t 84))]),
opO 86 (.append 1 8 (.t 83) (.t 85)),
mvO 87 15,
mvO 88 14,
⟨none, none, .store 1 (.t 9) (.t 86)⟩,
⟨none, none, .store 1 (.t 10) (.t 87)⟩,
⟨none, none, .store 1 (.t 11) (.t 88)⟩] (some []))
(.exit 2))
.skip)))
def ir221 : IFn := ⟨50, [.cell 6 7 true, .t 7, .t 8],
(.seq (.ops [opO 3 (.box (.t 0)),
opO 4 (.box (.t 1)),
opO 6 (.alloc [(.int .i64 0), (.int .i64 0), (.slice none 0 0), (.int .i64 0), (.int .i64 0), (.int .i64 0), (.slice none 0 0)]),
opO 7 (.mov (.c (.slice none 0 0))),
mO 8 0] (some [2, 3, 4, 6]))
(.seq (.ops [lA 15 3 3,
lA 16 4 4,
opO 17 (.call 219 [(.t 15), (.t 16)]),
mvO 14 17,
xO 18 0 14,
xO 19 1 14,
opO 9 (.alloc [(.int .i64 0), (.int .i64 0), (.slice none 0 0), (.int .i64 0), (.int .i64 0), (.int .i64 0), (.slice none 0 0)]),
⟨none, none, .store 7 (.t 9) (.t 18)⟩,
mvO 10 19] (some [2, 4, 6, 9, 10]))
(.seq (.ops [mvO 20 2,
opO 21 (.mkfunc 240 [] [(.t 9)]),
opO 22 (.call 80 [(.t 20), (.t 21)]),
mvO 11 22] (some [2, 4, 6, 9, 10, 11]))
(.seq (.seq (.ops [mvO 23 10,
mvO 24 2,
nO 25 24,
fO 26 3 4,
lO 27 1 26,
nO 28 27,
opO 29 (.ibin .eql .i64 (.t 25) (.t 28)),
opO 30 (.call 214 [(.t 29), (ci 10)]),
mvO 31 11,
opO 32 (.un .not (.t 31)),
opO 33 (.call 214 [(.t 32), (ci 6)]),
opO 34 (.bslice 3 1 [(.int .i64 0)] [(0, 1, (.t 23)), (1, 1, (.t 30)), (2, 1, (.t 33))]),
cO 35 213 34,
mvO 10 35] (some [2, 6, 9, 10]))
(.seq (.ops [mvO 36 10,
opO 37 (.ibin .neq .i64 (.t 36) (ci 0))] (some [2, 6, 9, 10, 37]))
(.cond (.t 37)
(.seq (.ops [lA 38 7 9,
mvO 39 10,
⟨none, none, .store 7 (.t 6) (.t 38)⟩,
opO 7 (.mov (.c (.slice none 0 0))),
mvO 8 39] (some [6, 7, 8]))
.ret)
.skip)))
(.seq (.ops [lA 41 7 9,
mvO 42 2,
opO 43 (.call 241 [(.t 41), (.t 42)]),
mvO 40 43,
xO 44 0 40,
xO 45 1 40,
mvO 12 44,
mvO 13 45] (some [6, 9, 12, 13]))
(.seq (.draw (.rd 0 (lA 46 7 9)
(.rd 1 (mvO 47 12)
(.rd 2 (mvO 48 13)
(.wr 3 (opO 49 (.call 214 [(.t 48), (ci 22)])) [2]
(.wr 4 ⟨none, none, .store 7 (.t 6) (.t 46)⟩ [0, 3, 0]
(.rd 5 (mvO 7 47)
(.rd 6 (mvO 8 49)
.fin)) .no) .no)))) (some [6, 7, 8]))
.ret))))))⟩
def ir222 : IFn := ⟨12, [.t 4],
(.seq (.ops [opO 2 (.box (.t 0)),
bO 4 false] (some [1, 2]))
(.seq (.ops [mvO 5 1,
fO 6 0 2,
fO 7 2 6,
lO 8 1 7,
nO 9 8,
opO 10 (.ibin .sub .i64 (.t 9) (ci 1)),
opO 11 (.call 216 [(.t 5), (ci 0), (.t 10)]),
mvO 4 11] (some [4]))
.ret))⟩
def ir223 : IFn := ⟨32, [.t 8],
(.seq (.ops [opO 4 (.box (.t 0)),
mO 8 0] (some [1, 2, 3, 4]))
(.seq (.ops [mO 9 0] none)
(.seq (.block 0 (.loop (.seq (.seq (.ops [mvO 10 2,
mvO 11 9,
opO 12 (.ibin .add .i64 (.t 10) (.t 11)),
fO 13 3 4,
fO 14 3 13,
lO 15 1 14,
nO 16 15,
sO 17 12 16] (some [1, 2, 3, 4, 9, 17]))
(.cond (.t 17)
.skip
(.exit 0)))
(.block 1 (.seq (.seq (.ops [lA 18 7 4,
mvO 19 1,
mvO 20 2,
mvO 21 9,
opO 22 (.ibin .add .i64 (.t 20) (.t 21)),
mvO 23 3,
opO 24 (.call 242 [(.t 18), (.t 19), (.t 22), (.t 23)]),
mvO 1 24] (some [1, 2, 3, 4, 9]))
(.seq (.ops [lA 25 7 4,
mvO 26 1,
opO 27 (.call 243 [(.t 25), (.t 26)]),
opO 28 (.un .not (.t 27))] (some [1, 2, 3, 4, 9, 28]))
(.cond (.t 28)
(.exit 0)
.skip)))
(.ops [mvO 29 9,
pO 30 29 1,
mvO 9 30] (some [1, 2, 3, 4, 9])))))))
(.seq (.ops [mvO 31 9,
mvO 8 31] (some [8]))
.ret))))⟩
def ir229 (r : Nat → Code × Code) : IFn := ⟨117, [.t 4],
(.seq (.ops [opO 2 (.box (.t 0)),
opO 3 (.box (.t 1)),
opO 4 (.mov (.c (.slice none 0 0)))] none)
(.seq (.draw (.rd 0 (fO 14 3 2)
(.rd 1 (fO 15 3 14)
(.rd 2 (lO 16 1 15)
(.rd 3 (nO 17 16)
(.rd 4 (lA 18 7 2)
(.rd 5 (fO 19 0 2)
(.rd 6 (fO 20 1 19)
(.rd 7 (lO 21 1 20)
(.rd 8 (fO 22 0 2)
(.rd 9 (fO 23 2 22)
(.rd 10 (lO 24 1 23)
(.rd 11 (nO 25 24)
(.rd 12 (opO 26 (.ibin .sub .i64 (.t 25) (ci 1)))
(.wr 13 (opO 27 (.call 234 [(.t 18), (.t 21), (.t 26)])) [4, 7, 12]
(.rd 14 (pO 28 27 1)
(.rd 15 (mvO 5 17)
(.rd 16 (mvO 6 28)
.fin))) .no)))))))))))))) none)
(.seq (.ops [mvO 29 5,
pO 30 29 1,
opO 31 (.mslice 1 24 [(.slice none 0 0)] (.t 30) (.t 30)),
opO 7 (.alloc [(.slice none 0 0)]),
⟨none, none, .store 1 (.t 7) (.t 31)⟩] none)
(.seq (.seq (.ops [mvO 32 5,
opO 8 (.alloc [(.int .i64 0)]),
⟨none, none, .store 1 (.t 8) (.t 32)⟩] none)
(.block 0 (.loop (.seq (.seq (.ops [lO 33 1 8,
opO 34 (.ibin .geq .i64 (.t 33) (ci 0))] none)
(.cond (.t 34)
.skip
(.exit 0)))
(.seq (.block 1 (.seq (.draw (.rd 0 (lO 37 1 7)
(.rd 1 (lO 38 1 8)
(.rd 3 (mvO 40 6)
(.wr 2 (opO 39 (.bslice 1 1 [(.int .i64 0)] [(0, 1, (ci (-100000000000)))])) []
(.wr 4 (opO 41 (.call 246 [(.t 39), (.t 40)])) [2, 3]
(.rd 5 (iO 42 1 37 38)
(.wr 6 ⟨none, none, .store 1 (.t 42) (.t 41)⟩ [5, 4, 4, 0, 1, 2, 3, 4]
.fin .no)) .no) .no)))) none)
(.seq (.ops [fO 43 0 2,
fO 44 0 43,
lO 45 1 44,
mvO 9 45] none)
(.block 2 (.loop (.seq (.seq (.ops [mvO 46 9,
fO 47 0 2,
fO 48 1 47,
lO 49 1 48,
opO 50 (.ibin .leq .i64 (.t 46) (.t 49))] none)
(.cond (.t 50)
.skip
(.exit 2)))
(.seq (.block 3 (.seq (.ops [fO 53 0 2,
fO 54 2 53,
lO 55 1 54,
nO 56 55,
mO 57 0] none)
(.block 4 (.loop (.seq (.ops [sO 58 57 56] none)
(.seq (.cond (.t 58)
.skip
(.exit 4))
(.seq (.block 5 (.seq (.ops [mvO 59 57,
opO 10 (.alloc [(.int .i64 0)]),
⟨none, none, .store 1 (.t 10) (.t 59)⟩] none)
(.seq (.draw (.rd 0 (lO 60 1 7)
(.rd 1 (lO 61 1 8)
(.rd 2 (iO 62 1 60 61)
(.rd 3 (lO 63 1 62)
(.rd 4 (lA 64 7 2)
(.rd 5 (mvO 65 9)
(.rd 6 (lO 66 1 10)
(.wr 7 (opO 67 (.call 234 [(.t 64), (.t 65), (.t 66)])) [4, 5, 6]
(.rd 8 (iO 68 1 63 67)
(.wr 9 (opO 11 (.alloc [(.pointer none)])) []
(.wr 10 ⟨none, none, .store 1 (.t 11) (.t 68)⟩ [9, 8, 7, 0, 1, 2, 3, 4, 5, 6, 7, 8, 9]
.fin .no) .no))
(.wr 9 (opO 11 (.alloc [(.pointer none)])) []
(.wr 7 (opO 67 (.call 234 [(.t 64), (.t 65), (.t 66)])) [4, 5, 6]
(.rd 8 (iO 68 1 63 67)
(.wr 10 ⟨none, none, .store 1 (.t 11) (.t 68)⟩ [9, 8, 7, 0, 1, 2, 3, 4, 5, 6, 7, 8, 9]
.fin .no)) .no) .no))))))))) none)
(.seq (.seq (.ops [lO 69 1 8,
mvO 70 5,
opO 71 (.ibin .eql .i64 (.t 69) (.t 70))] none)
(.cond (.t 71)
(.seq (.ops [lO 72 1 11,
fO 73 3 2,
fO 74 2 73,
lO 75 1 74,
mvO 76 9,
opO 77 (.ibin .mul .i64 (.t 75) (.t 76)),
opO 78 (.nilchk (.t 72)),
⟨none, none, .store 1 (.t 78) (.t 77)⟩] (some [0, 1, 2, 3, 4, 5, 6, 7, 8, 9, 12, 13, 14, 15, 16, 17, 18, 19, 20, 21, 22, 23, 24, 25, 26, 27, 28, 29, 30, 31, 32, 33, 34, 35, 36, 37, 38, 39, 40, 41, 42, 43, 44, 45, 46, 47, 48, 49, 50, 51, 52, 53, 54, 55, 56, 57, 72, 73, 74, 75, 76, 77, 78, 89, 90, 91, 92, 93, 94, 95, 96, 97, 98, 99, 100, 101, 102, 103, 104, 105, 106, 107, 108, 109, 110, 111, 112, 113, 115, 116]))
(.exit 5))
.skip))
(.seq (.seq (.ops [lA 79 7 2,
mvO 80 9,
lO 81 1 8,
lA 82 2 3,
opO 83 (.call 247 [(.t 79), (.t 80), (.t 81), (.t 82)]),
opO 84 (.un .not (.t 83))] none)
(.cond (.t 84)
(.exit 5)
.skip))
(.seq (.ops [lA 85 7 2,
mvO 86 9,
lO 87 1 8,
opO 88 (.call 238 [(.t 85), (.t 86), (.t 87)])] none)
(.block 6 (.range 117 (.t 88) #[89, 90] (r 0).1 (r 0).2))))))))
(.ops [pO 114 57 1,
mvO 57 114] none))))))))
(.ops [mvO 51 9,
pO 52 51 1,
mvO 9 52] none))))))))
(.seq (.seq (.ops [lO 115 1 8] (some [0, 1, 2, 3, 4, 5, 6, 7, 12, 13, 14, 15, 16, 17, 18, 19, 20, 21, 22, 23, 24, 25, 26, 27, 28, 29, 30, 31, 32, 51, 52, 72, 73, 74, 75, 76, 77, 78, 89, 90, 91, 92, 93, 94, 95, 96, 97, 98, 99, 100, 101, 102, 103, 104, 105, 106, 107, 108, 109, 110, 111, 112, 113, 114, 115, 116]))
(.ops [opO 8 (.alloc [(.int .i64 0)]),
⟨none, none, .store 1 (.t 8) (.t 115)⟩] none))
(.ops [lO 35 1 8,
opO 36 (.ibin .sub .i64 (.t 35) (ci 1)),
⟨none, none, .store 1 (.t 8) (.t 36)⟩] none)))))))
(.seq (.ops [lO 116 1 7,
mvO 4 116] (some [4]))
.ret)))))⟩
def ir229a0 : ICode :=
(.seq (.ops [mvO 12 89] none)
(.ops [mvO 13 90] none))
def ir229b0 : ICode :=
(.block 7 (.draw (.rd 0 (lO 91 1 11)
(.rd 1 (lO 92 1 11)
(.rd 2 (opO 93 (.nilchk (.t 92)))
(.rd 3 (lO 94 1 93)
(.rd 4 (lA 95 7 2)
(.rd 5 (lO 96 1 8)
(.rd 6 (lO 97 1 10)
(.rd 7 (mvO 98 12)
(.rd 9 (lO 100 1 7)
(.rd 10 (lO 101 1 8)
(.rd 11 (pO 102 101 1)
(.rd 12 (iO 103 1 100 102)
(.rd 13 (lO 104 1 103)
(.rd 14 (lA 105 7 2)
(.rd 15 (mvO 106 13)
(.rd 16 (mvO 107 12)
(.wr 8 (opO 99 (.call 239 [(.t 95), (.t 96), (.t 97), (.t 98)])) [4, 5, 6, 7]
(.wr 17 (opO 108 (.call 234 [(.t 105), (.t 106), (.t 107)])) [14, 15, 16, 8]
(.rd 18 (iO 109 1 104 108)
(.rd 19 (lO 110 1 109)
(.rd 20 (opO 111 (.ibin .add .i64 (.t 99) (.t 110)))
(.rd 21 (opO 112 (.minmax true (.t 94) [(.t 111)]))
(.rd 22 (opO 113 (.nilchk (.t 91)))
(.wr 23 ⟨none, none, .store 1 (.t 113) (.t 112)⟩ [22, 21, 17, 0, 1, 2, 3, 4, 5, 6, 7, 8, 9, 10, 11, 12, 13, 14, 15, 16, 17, 18, 19, 20, 21]
.fin .no)))))) .no) .no))))))))))))))))) (some [])))
def ir233 : IFn := ⟨5, [.t 2],
(.seq (.ops [bO 2 false] (some [0]))
(.seq (.ops [mvO 3 0,
opO 4 (.ibin .gtr .i64 (.t 3) (ci (-50000000000))),
mvO 2 4] (some [2]))
.ret))⟩
def ir234 : IFn := ⟨19, [.t 6],
(.seq (.ops [opO 3 (.box (.t 0)),
mO 6 0] (some [1, 2, 3]))
(.seq (.ops [mvO 7 1,
fO 8 0 3,
fO 9 0 8,
lO 10 1 9,
opO 11 (.ibin .sub .i64 (.t 7) (.t 10)),
fO 12 0 3,
fO 13 2 12,
lO 14 1 13,
nO 15 14,
opO 16 (.ibin .mul .i64 (.t 11) (.t 15)),
mvO 17 2,
opO 18 (.ibin .add .i64 (.t 16) (.t 17)),
mvO 6 18] (some [6]))
.ret))⟩
def ir235 : IFn := ⟨10, [.t 4],
(.seq (.ops [bO 4 false] (some [0, 1]))
(.seq (.ops [mvO 5 0,
mvO 6 1,
opO 7 (.un .neg (.t 6)),
mvO 8 1,
opO 9 (.call 216 [(.t 5), (.t 7), (.t 8)]),
mvO 4 9] (some [4]))
.ret))⟩
def ir236 : IFn := ⟨6, [.t 2],
(.seq (.ops [bO 2 false] (some [0]))
(.seq (.ops [mvO 3 0,
cO 4 215 3,
opO 5 (.un .not (.t 4)),
mvO 2 5] (some [2]))
.ret))⟩
def ir237 : IFn := ⟨87, [.t 4, .t 5],
(.seq (.ops [opO 2 (.box (.t 0)),
opO 3 (.box (.t 1)),
mO 4 0,
mO 5 0] (some [2, 3]))
(.seq (.ops [lA 12 3 2,
cO 13 249 12,
mvO 11 13,
xO 14 0 11,
xO 15 1 11,
mvO 6 14,
mvO 7 15] (some [2, 3, 7]))
(.seq (.draw (.rd 0 (mvO 16 7)
(.rd 1 (fO 17 0 3)
(.rd 2 (lO 18 1 17)
(.rd 3 (fO 19 0 2)
(.rd 4 (lO 20 1 19)
(.rd 5 (fO 21 1 2)
(.rd 6 (lO 22 1 21)
(.rd 9 (fO 25 1 3)
(.rd 10 (lO 26 1 25)
(.rd 11 (fO 27 2 2)
(.rd 12 (lO 28 1 27)
(.rd 13 (nO 29 28)
(.rd 14 (opO 30 (.ibin .sub .i64 (.t 29) (ci 1)))
(.rd 17 (fO 33 2 3)
(.rd 18 (lO 34 1 33)
(.rd 21 (fO 37 3 3)
(.rd 22 (lO 38 1 37)
(.rd 23 (nO 39 38)
(.rd 24 (opO 40 (.ibin .gtr .i64 (.t 39) (ci 0)))
(.rd 26 (fO 42 3 3)
(.rd 27 (lO 43 1 42)
(.rd 28 (nO 44 43)
(.rd 29 (opO 45 (.ibin .leq .i64 (.t 44) (ci 10)))
(.wr 7 (opO 23 (.call 216 [(.t 18), (.t 20), (.t 22)])) [2, 4, 6]
(.wr 8 (opO 24 (.call 214 [(.t 23), (ci 2)])) [7, 7]
(.wr 15 (opO 31 (.call 216 [(.t 26), (ci 0), (.t 30)])) [10, 14, 8]
(.wr 16 (opO 32 (.call 214 [(.t 31), (ci 6)])) [15, 15]
(.wr 19 (cO 35 250 34) [18, 16]
(.wr 20 (opO 36 (.call 214 [(.t 35), (ci 2)])) [19, 19]
(.wr 25 (opO 41 (.call 214 [(.t 40), (ci 10)])) [24, 20]
(.wr 30 (opO 46 (.call 214 [(.t 45), (ci 8)])) [29, 25]
(.wr 31 (opO 47 (.bslice 6 1 [(.int .i64 0)] [(0, 1, (.t 16)), (1, 1, (.t 24)), (2, 1, (.t 32)), (3, 1, (.t 36)), (4, 1, (.t 41)), (5, 1, (.t 46))])) [0, 8, 16, 20, 25, 30]
(.wr 32 (cO 48 213 47) [31, 30]
(.wr 33 (mvO 7 48) [32, 32, 0, 1, 2, 3, 4, 5, 6, 7, 8, 9, 10, 11, 12, 13, 14, 15, 16, 17, 18, 19, 20, 21, 22, 23, 24, 25, 26, 27, 28, 29, 30, 31, 32]
.fin .no) .no) .no) .no) .no) .no) .no) .no) .no) .no) .no)))))))))))))))))))))))) (some [3, 7]))
(.seq (.seq (.ops [mvO 49 7,
opO 50 (.ibin .neq .i64 (.t 49) (ci 0))] (some [3, 7, 50]))
(.cond (.t 50)
(.seq (.ops [mvO 51 7,
mO 4 0,
mvO 5 51] (some [4, 5]))
.ret)
.skip))
(.seq (.seq (.ops [fO 52 3 3,
lO 53 1 52,
nO 54 53,
mO 55 0] (some [53, 54, 55]))
(.block 0 (.loop (.seq (.ops [sO 56 55 54] none)
(.seq (.cond (.t 56)
.skip
(.exit 0))
(.seq (.block 1 (.seq (.ops [mvO 57 55,
iO 58 3 53 55,
lA 59 3 58,
opO 9 (.alloc [(.int .i64 0), (.int .i64 0), (.int .i64 0)]),
mvO 8 57,
⟨none, none, .store 3 (.t 9) (.t 59)⟩] (some [8, 9, 53, 54, 55]))
(.seq (.draw (.rd 0 (fO 60 0 9)
(.rd 1 (lO 61 1 60)
(.rd 14 (fO 74 1 9)
(.rd 15 (lO 75 1 74)
(.rd 16 (fO 76 0 9)
(.rd 17 (lO 77 1 76)
(.rd 18 (opO 78 (.ibin .leq .i64 (.t 75) (.t 77)))
(.wr 2 (cO 62 250 61) [1]
(.rd 3 (mvO 63 62)
(.rd 4 ⟨(some 64), (some (63, true)), .faddr 1 (.t 9)⟩
(.rd 5 ⟨(some 65), (some (63, true)), .load 1 false (.t 64)⟩
(.wr 6 ⟨(some 66), (some (63, true)), .call 250 [(.t 65)]⟩ [5, 3, 3]
(.rd 7 (opO 67 (.pick (.t 63) (.t 66) (.c (.bool false))))
(.rd 8 (mvO 68 67)
(.rd 9 ⟨(some 69), (some (68, true)), .faddr 2 (.t 9)⟩
(.rd 10 ⟨(some 70), (some (68, true)), .load 1 false (.t 69)⟩
(.wr 11 ⟨(some 71), (some (68, true)), .call 250 [(.t 70)]⟩ [10, 8, 8]
(.rd 12 (opO 72 (.pick (.t 68) (.t 71) (.c (.bool false))))
(.wr 13 (opO 73 (.call 214 [(.t 72), (ci 2)])) [12, 11]
(.wr 19 (opO 79 (.call 214 [(.t 78), (ci 9)])) [18, 13]
(.wr 20 (opO 80 (.bslice 2 1 [(.int .i64 0)] [(0, 1, (.t 73)), (1, 1, (.t 79))])) [13, 19]
(.wr 21 (cO 81 213 80) [20, 19]
(.rd 22 (mvO 10 81)
.fin) .no) .no) .no) .no)) .no))))) .no)))) .no)))))))) (some [8, 10, 53, 54, 55]))
(.seq (.ops [mvO 82 10,
opO 83 (.ibin .neq .i64 (.t 82) (ci 0))] (some [8, 10, 53, 54, 55, 83]))
(.cond (.t 83)
(.seq (.ops [mvO 84 8,
mvO 85 10,
mvO 4 84,
mvO 5 85] (some [4, 5]))
.ret)
.skip)))))
(.ops [pO 86 55 1,
mvO 55 86] (some [53, 54, 55]))))))))
(.seq (.ops [mO 4 0,
mO 5 0] none)
.ret))))))⟩
def ir238 : IFn := ⟨8, [.t 6],
(.seq (.ops [opO 3 (.box (.t 0)),
opO 4 (.box (.t 1)),
opO 5 (.box (.t 2)),
opO 6 (.mov (.c .nilFunc))] (some [3, 4, 5]))
(.seq (.ops [opO 7 (.mkfunc 251 [] [(.t 3), (.t 4), (.t 5)]),
mvO 6 7] (some [6]))
.ret))⟩
def ir239 : IFn := ⟨44, [.t 8],
(.seq (.ops [opO 4 (.box (.t 0)),
mO 8 0] (some [1, 2, 3, 4]))
(.seq (.draw (.rd 0 (fO 13 0 4)
(.rd 1 (fO 14 2 13)
(.rd 2 (lO 15 1 14)
(.rd 3 (mvO 16 3)
(.rd 4 (iO 17 4 15 16)
(.rd 5 (lA 18 4 17)
(.rd 6 (fO 19 3 4)
(.rd 7 (fO 20 3 19)
(.rd 8 (lO 21 1 20)
(.rd 9 (mvO 22 1)
(.rd 10 (iO 23 3 21 22)
(.rd 11 (lA 24 3 23)
(.wr 12 (opO 9 (.alloc [(.string ⟨#[]⟩), (.int .i64 0), (.int .i64 0), (.int .i64 0)])) []
(.wr 13 (opO 10 (.alloc [(.int .i64 0), (.int .i64 0), (.int .i64 0)])) []
(.wr 14 ⟨none, none, .store 4 (.t 9) (.t 18)⟩ [12, 5, 0, 1, 2, 3, 4, 5, 12, 13]
(.wr 15 ⟨none, none, .store 3 (.t 10) (.t 24)⟩ [13, 11, 14, 0, 1, 2, 3, 4, 5, 6, 7, 8, 9, 10, 11, 12, 13, 14]
.fin .no) .no) .no)
(.wr 13 (opO 10 (.alloc [(.int .i64 0), (.int .i64 0), (.int .i64 0)])) []
(.wr 12 (opO 9 (.alloc [(.string ⟨#[]⟩), (.int .i64 0), (.int .i64 0), (.int .i64 0)])) []
(.wr 14 ⟨none, none, .store 4 (.t 9) (.t 18)⟩ [12, 5, 0, 1, 2, 3, 4, 5, 12, 13]
(.wr 15 ⟨none, none, .store 3 (.t 10) (.t 24)⟩ [13, 11, 14, 0, 1, 2, 3, 4, 5, 6, 7, 8, 9, 10, 11, 12, 13, 14]
.fin .no) .no) .no) .no)))))))))))))) (some [2, 3, 9, 10]))
(.seq (.ops [fO 25 0 10,
lO 26 1 25,
mvO 11 26] (some [2, 3, 9, 10, 11]))
(.seq (.seq (.ops [fO 27 2 9,
lO 28 1 27,
opO 29 (.ibin .gtr .i64 (.t 28) (ci 0))] (some [2, 3, 9, 10, 11, 29]))
(.cond (.t 29)
(.ops [fO 30 1 10,
lO 31 1 30,
mvO 11 31] (some [2, 3, 9, 11]))
.skip))
(.seq (.ops [fO 32 2 9,
lO 33 1 32,
mvO 34 11,
opO 35 (.ibin .mul .i64 (.t 33) (.t 34)),
mvO 12 35] (some [2, 3, 9, 12]))
(.seq (.seq (.ops [mvO 36 2,
mvO 37 3,
opO 38 (.ibin .neq .i64 (.t 36) (.t 37))] (some [9, 12, 38]))
(.cond (.t 38)
(.ops [mvO 39 12,
fO 40 3 9,
lO 41 1 40,
opO 42 (.ibin .sub .i64 (.t 39) (.t 41)),
mvO 12 42] (some [12]))
.skip))
(.seq (.ops [mvO 43 12,
mvO 8 43] (some [8]))
.ret)))))))⟩
def ir240 : IFn := ⟨8, [.t 3],
(.seq (.ops [bO 3 false] (some [0, 1]))
(.seq (.ops [lA 4 7 1,
mvO 5 0,
opO 6 (.call 222 [(.t 4), (.t 5)]),
opO 7 (.un .not (.t 6)),
mvO 3 7] (some [3]))
.ret))⟩
def ir241 : IFn := ⟨39, [.t 4, .t 5],
(.seq (.ops [opO 2 (.box (.t 0)),
opO 4 (.mov (.c (.slice none 0 0))),
bO 5 false] (some [1, 2]))
(.seq (.ops [fO 10 3 2,
fO 11 0 10,
lO 12 1 11,
opO 13 (.bslice 1 1 [(.int .i64 0)] [(0, 1, (.t 12))]),
mvO 6 13] (some [1, 2, 6]))
(.seq (.seq (.ops [mvO 14 1,
nO 15 14,
mO 16 0] (some [2, 6, 14, 15, 16]))
(.block 0 (.loop (.seq (.ops [sO 17 16 15] none)
(.seq (.cond (.t 17)
.skip
(.exit 0))
(.seq (.block 1 (.seq (.ops [mvO 18 16,
iO 19 1 14 16,
lO 20 1 19,
mvO 7 18,
mvO 8 20] (some [2, 6, 7, 8, 14, 15, 16]))
(.seq (.draw (.rd 0 (lA 21 7 2)
(.rd 1 (mvO 22 6)
(.rd 2 (mvO 23 7)
(.rd 3 (iO 24 1 22 23)
(.rd 4 (lO 25 1 24)
(.rd 5 (mvO 26 7)
(.rd 6 (mvO 27 8)
(.wr 7 (opO 28 (.call 242 [(.t 21), (.t 25), (.t 26), (.t 27)])) [0, 4, 5, 6]
(.rd 8 (mvO 9 28)
.fin) .no)))))))) (some [2, 6, 9, 14, 15, 16]))
(.seq (.seq (.ops [lA 29 7 2,
mvO 30 9,
opO 31 (.call 243 [(.t 29), (.t 30)]),
opO 32 (.un .not (.t 31))] (some [2, 6, 9, 14, 15, 16, 32]))
(.cond (.t 32)
(.seq (.ops [opO 4 (.mov (.c (.slice none 0 0))),
bO 5 false] none)
.ret)
.skip))
(.ops [mvO 33 6,
mvO 34 9,
opO 35 (.bslice 1 1 [(.int .i64 0)] [(0, 1, (.t 34))]),
opO 36 (.append 1 8 (.t 33) (.t 35)),
mvO 6 36] (some [2, 6, 14, 15, 16]))))))
(.ops [pO 37 16 1,
mvO 16 37] (some [2, 6, 14, 15, 16]))))))))
(.seq (.ops [mvO 38 6,
mvO 4 38,
bO 5 true] (some [4, 5]))
.ret))))⟩
def ir242 : IFn := ⟨26, [.t 8],
(.seq (.ops [opO 4 (.box (.t 0)),
mO 8 0] (some [1, 2, 3, 4]))
(.seq (.draw (.rd 0 (mvO 9 1)
(.rd 1 (fO 10 3 4)
(.rd 2 (fO 11 3 10)
(.rd 3 (lO 12 1 11)
(.rd 4 (mvO 13 2)
(.rd 5 (iO 14 3 12 13)
(.rd 6 (fO 15 2 14)
(.rd 7 (lO 16 1 15)
(.rd 8 (opO 17 (.ibin .add .i64 (.t 9) (.t 16)))
(.rd 9 (fO 18 0 4)
(.rd 10 (fO 19 2 18)
(.rd 11 (lO 20 1 19)
(.rd 12 (mvO 21 3)
(.rd 13 (iO 22 4 20 21)
(.rd 14 (fO 23 1 22)
(.rd 15 (lO 24 1 23)
(.rd 16 (opO 25 (.ibin .add .i64 (.t 17) (.t 24)))
(.rd 17 (mvO 8 25)
.fin)))))))))))))))))) (some [8]))
.ret))⟩
def ir243 : IFn := ⟨13, [.t 4],
(.seq (.ops [opO 2 (.box (.t 0)),
bO 4 false] (some [1, 2]))
(.seq (.ops [mvO 5 1,
fO 6 0 2,
fO 7 0 6,
lO 8 1 7,
fO 9 0 2,
fO 10 1 9,
lO 11 1 10,
opO 12 (.call 216 [(.t 5), (.t 8), (.t 11)]),
mvO 4 12] (some [4]))
.ret))⟩
def ir246 : IFn := ⟨48, [.t 4],
(.seq (.ops [opO 4 (.mov (.c (.slice none 0 0)))] (some [0, 1]))
(.seq (.seq (.ops [mvO 9 1,
opO 10 (.ibin .lss .i64 (.t 9) (ci 0))] (some [0, 1, 10]))
(.cond (.t 10)
(.ops [opO 11 (.nope),
⟨none, none, .nope⟩] (some [0, 1]))
.skip))
(.seq (.ops [mvO 13 0,
nO 14 13,
opO 15 (.conv .u64 (.t 14)),
mvO 16 1,
opO 17 (.conv .u64 (.t 16)),
opO 18 (.call 255 [(.t 15), (.t 17)]),
mvO 12 18,
xO 19 0 12,
xO 20 1 12,
mvO 5 19,
mvO 6 20] (some [0, 5, 6]))
(.seq (.seq (.ops [mvO 21 5,
opO 22 (.ibin .gtr .u64 (.t 21) (.c (.int .u64 0))),
mvO 23 22,
⟨(some 24), (some (23, false)), .mov (.t 6)⟩,
⟨(some 25), (some (23, false)), .ibin .gtr .u64 (.t 24) (.c (.int .u64 9223372036854775807))⟩,
opO 26 (.pick (.t 23) (.c (.bool true)) (.t 25))] (some [0, 6, 26]))
(.cond (.t 26)
(.ops [opO 27 (.nope),
⟨none, none, .nope⟩] (some [0, 6]))
.skip))
(.seq (.ops [mvO 28 6,
opO 29 (.conv .i64 (.t 28)),
opO 30 (.mslice 1 8 [(.int .i64 0)] (.t 29) (.t 29)),
mvO 7 30] (some [0, 7]))
(.seq (.ops [mvO 31 7,
mvO 32 0,
opO 33 (.copy 1 (.t 31) (.t 32)),
mvO 8 33] (some [7, 8]))
(.seq (.block 0 (.loop (.seq (.seq (.ops [mvO 34 8,
mvO 35 7,
nO 36 35,
sO 37 34 36] (some [7, 8, 37]))
(.cond (.t 37)
.skip
(.exit 0)))
(.block 1 (.draw (.rd 0 (mvO 38 8)
(.rd 1 (mvO 39 7)
(.rd 2 (mvO 40 8)
(.rd 3 (opO 41 (.sliceV 1 (.t 39) (some (.t 40)) none none))
(.rd 4 (mvO 42 7)
(.rd 5 (mvO 43 8)
(.rd 6 (opO 44 (.sliceV 1 (.t 42) none (some (.t 43)) none))
(.wr 7 (opO 45 (.copy 1 (.t 41) (.t 44))) [3, 6]
(.rd 8 (opO 46 (.ibin .add .i64 (.t 38) (.t 45)))
(.wr 9 (mvO 8 46) [8, 7, 0, 1, 2, 3, 4, 5, 6, 7, 8]
.fin .no)) .no)))))))) (some [7, 8]))))))
(.seq (.ops [mvO 47 7,
mvO 4 47] (some [4]))
.ret))))))))⟩
def ir247 : IFn := ⟨30, [.t 8],
(.seq (.ops [opO 4 (.box (.t 0)),
opO 7 (.box (.t 3)),
bO 8 false] (some [1, 2, 4, 7]))
(.seq (.draw (.rd 0 (fO 9 0 7)
(.rd 1 (lO 10 1 9)
(.rd 2 (opO 11 (.ibin .lss .i64 (.t 10) (ci 0)))
(.rd 3 (mvO 12 11)
(.rd 4 ⟨(some 13), (some (12, false)), .load 7 true (.t 4)⟩
(.rd 5 ⟨(some 14), (some (12, false)), .mov (.t 1)⟩
(.rd 6 ⟨(some 15), (some (12, false)), .mov (.t 2)⟩
(.rd 7 ⟨(some 16), (some (12, false)), .faddr 0 (.t 7)⟩
(.rd 8 ⟨(some 17), (some (12, false)), .load 1 false (.t 16)⟩
(.rd 10 ⟨(some 19), (some (12, false)), .faddr 1 (.t 7)⟩
(.rd 11 ⟨(some 20), (some (12, false)), .load 1 false (.t 19)⟩
(.rd 12 ⟨(some 21), (some (12, false)), .faddr 3 (.t 4)⟩
(.rd 13 ⟨(some 22), (some (12, false)), .faddr 3 (.t 21)⟩
(.rd 14 ⟨(some 23), (some (12, false)), .load 1 false (.t 22)⟩
(.rd 15 ⟨(some 24), (some (12, false)), .lenV (.t 23)⟩
(.rd 16 ⟨(some 25), (some (12, false)), .mov (.t 2)⟩
(.rd 17 ⟨(some 26), (some (12, false)), .ibin .sub .i64 (.t 24) (.t 25)⟩
(.rd 18 ⟨(some 27), (some (12, false)), .minmax false (.t 20) [(.t 26)]⟩
(.wr 9 ⟨(some 18), (some (12, false)), .call 223 [(.t 13), (.t 14), (.t 15), (.t 17)]⟩ [4, 5, 6, 8, 3, 3]
(.rd 19 ⟨(some 28), (some (12, false)), .ibin .geq .i64 (.t 18) (.t 27)⟩
(.rd 20 (opO 29 (.pick (.t 12) (.c (.bool true)) (.t 28)))
(.rd 21 (mvO 8 29)
.fin))) .no))))))))))))))))))) (some [8]))
.ret))⟩
def ir249 : IFn := ⟨93, [.t 2, .t 3],
(.seq (.ops [opO 1 (.box (.t 0)),
mO 2 0,
mO 3 0] (some [1]))
(.seq (.ops [opO 4 (.mov (.f 256))] none)
(.seq (.draw (.rd 0 (mvO 11 4)
(.rd 1 (fO 12 0 1)
(.rd 2 (lO 13 1 12)
(.rd 11 (fO 22 0 1)
(.rd 12 (lO 23 1 22)
(.rd 13 (fO 24 1 1)
(.rd 14 (lO 25 1 24)
(.rd 15 (opO 26 (.ibin .leq .i64 (.t 23) (.t 25)))
(.rd 17 (fO 28 1 1)
(.rd 18 (lO 29 1 28)
(.rd 19 (fO 30 0 1)
(.rd 20 (lO 31 1 30)
(.rd 21 (opO 32 (.ibin .sub .i64 (.t 29) (.t 31)))
(.rd 22 (opO 33 (.ibin .lss .i64 (.t 32) (ci 40)))
(.rd 24 (fO 35 2 1)
(.rd 25 (lO 36 1 35)
(.rd 26 (nO 37 36)
(.rd 27 (opO 38 (.ibin .gtr .i64 (.t 37) (ci 0)))
(.rd 29 (fO 40 2 1)
(.rd 30 (lO 41 1 40)
(.rd 31 (nO 42 41)
(.rd 32 (opO 43 (.ibin .leq .i64 (.t 42) (ci 5)))
(.wr 3 (opO 14 (.callv (.t 11) [(.t 13)])) [0, 2]
(.rd 4 (mvO 15 14)
(.rd 5 ⟨(some 16), (some (15, true)), .mov (.t 4)⟩
(.rd 6 ⟨(some 17), (some (15, true)), .faddr 1 (.t 1)⟩
(.rd 7 ⟨(some 18), (some (15, true)), .load 1 false (.t 17)⟩
(.wr 8 ⟨(some 19), (some (15, true)), .callv (.t 16) [(.t 18)]⟩ [5, 7, 4, 4]
(.rd 9 (opO 20 (.pick (.t 15) (.t 19) (.c (.bool false))))
(.wr 10 (opO 21 (.call 214 [(.t 20), (ci 2)])) [9, 8]
(.wr 16 (opO 27 (.call 214 [(.t 26), (ci 9)])) [15, 10]
(.wr 23 (opO 34 (.call 214 [(.t 33), (ci 8)])) [22, 16]
(.wr 28 (opO 39 (.call 214 [(.t 38), (ci 10)])) [27, 23]
(.wr 33 (opO 44 (.call 214 [(.t 43), (ci 8)])) [32, 28]
(.wr 34 (opO 45 (.bslice 5 1 [(.int .i64 0)] [(0, 1, (.t 21)), (1, 1, (.t 27)), (2, 1, (.t 34)), (3, 1, (.t 39)), (4, 1, (.t 44))])) [10, 16, 23, 28, 33]
(.wr 35 (cO 46 213 45) [34, 33]
(.rd 36 (mvO 5 46)
.fin) .no) .no) .no) .no) .no) .no) .no)) .no))))) .no))))))))))))))))))))))) (some [1, 5]))
(.seq (.seq (.ops [mvO 47 5,
opO 48 (.ibin .neq .i64 (.t 47) (ci 0))] (some [1, 5, 48]))
(.cond (.t 48)
(.seq (.ops [mvO 49 5,
mO 2 0,
mvO 3 49] (some [2, 3]))
.ret)
.skip))
(.seq (.seq (.ops [fO 50 2 1,
lO 51 1 50,
nO 52 51,
mO 53 0] (some [1, 51, 52, 53]))
(.block 0 (.loop (.seq (.ops [sO 54 53 52] none)
(.seq (.cond (.t 54)
.skip
(.exit 0))
(.seq (.block 1 (.seq (.ops [mvO 55 53,
iO 56 4 51 53,
lA 57 4 56,
opO 7 (.alloc [(.string ⟨#[]⟩), (.int .i64 0), (.int .i64 0), (.int .i64 0)]),
mvO 6 55,
⟨none, none, .store 4 (.t 7) (.t 57)⟩] (some [1, 6, 7, 51, 52, 53]))
(.seq (.ops [fO 58 2 1,
lO 59 1 58,
mvO 60 6,
opO 61 (.sliceV 4 (.t 59) none (some (.t 60)) none),
opO 62 (.mkfunc 258 [] [(.t 7)]),
opO 63 (.call 257 [(.t 61), (.t 62)]),
mvO 8 63] (some [1, 6, 7, 8, 51, 52, 53]))
(.seq (.ops [fO 64 1 7,
lO 65 1 64,
opO 66 (.call 235 [(.t 65), (ci 10000)]),
mvO 67 66,
⟨(some 68), (some (67, true)), .faddr 2 (.t 7)⟩,
⟨(some 69), (some (67, true)), .load 1 false (.t 68)⟩,
⟨(some 70), (some (67, true)), .call 235 [(.t 69), (ci 10000)]⟩,
opO 71 (.pick (.t 67) (.t 70) (.c (.bool false))),
mvO 72 71,
⟨(some 73), (some (72, true)), .faddr 3 (.t 7)⟩,
⟨(some 74), (some (72, true)), .load 1 false (.t 73)⟩,
⟨(some 75), (some (72, true)), .call 216 [(.t 74), (ci 0), (ci 10000)]⟩,
opO 76 (.pick (.t 72) (.t 75) (.c (.bool false))),
mvO 9 76] (some [1, 6, 7, 8, 9, 51, 52, 53]))
(.seq (.ops [fO 77 0 7,
lO 78 1 77,
cO 79 254 78,
opO 80 (.call 214 [(.t 79), (ci 4)]),
mvO 81 8,
opO 82 (.un .not (.t 81)),
opO 83 (.call 214 [(.t 82), (ci 5)]),
mvO 84 9,
opO 85 (.call 214 [(.t 84), (ci 2)]),
opO 86 (.bslice 3 1 [(.int .i64 0)] [(0, 1, (.t 80)), (1, 1, (.t 83)), (2, 1, (.t 85))]),
cO 87 213 86,
mvO 10 87] (some [1, 6, 10, 51, 52, 53]))
(.seq (.ops [mvO 88 10,
opO 89 (.ibin .neq .i64 (.t 88) (ci 0))] (some [1, 6, 10, 51, 52, 53, 89]))
(.cond (.t 89)
(.seq (.ops [mvO 90 6,
mvO 91 10,
mvO 2 90,
mvO 3 91] (some [2, 3]))
.ret)
.skip)))))))
(.ops [pO 92 53 1,
mvO 53 92] (some [1, 51, 52, 53]))))))))
(.seq (.ops [mO 2 0,
mO 3 0] none)
.ret))))))⟩
def ir250 : IFn := ⟨5, [.t 2],
(.seq (.ops [bO 2 false] (some [0]))
(.seq (.ops [mvO 3 0,
opO 4 (.call 235 [(.t 3), (ci 10000)]),
mvO 2 4] (some [2]))
.ret))⟩
def ir251 : IFn := ⟨30, [],
(.seq (.ops [fO 7 0 1,
fO 8 2 7,
lO 9 1 8,
nO 10 9,
mO 11 0] (some [0, 1, 2, 3, 10, 11]))
(.block 0 (.loop (.seq (.ops [sO 12 11 10] none)
(.seq (.cond (.t 12)
.skip
(.exit 0))
(.seq (.block 1 (.seq (.ops [mvO 13 11,
mvO 5 13] (some [0, 1, 2, 3, 5, 10, 11]))
(.seq (.ops [lA 14 7 1,
lO 15 1 2,
lO 16 1 3,
mvO 17 5,
opO 18 (.call 242 [(.t 14), (.t 15), (.t 16), (.t 17)]),
mvO 6 18] (some [0, 1, 2, 3, 5, 6, 10, 11]))
(.seq (.ops [lA 19 7 1,
mvO 20 6,
opO 21 (.call 243 [(.t 19), (.t 20)]),
mvO 22 21,
⟨(some 23), (some (22, true)), .mov (.t 0)⟩,
⟨(some 24), (some (22, true)), .mov (.t 5)⟩,
⟨(some 25), (some (22, true)), .mov (.t 6)⟩,
⟨(some 26), (some (22, true)), .callv (.t 23) [(.t 24), (.t 25)]⟩,
⟨(some 27), (some (22, true)), .un .not (.t 26)⟩,
opO 28 (.pick (.t 22) (.t 27) (.c (.bool false)))] (some [0, 1, 2, 3, 10, 11, 28]))
(.cond (.t 28)
.ret
.skip)))))
(.ops [pO 29 11 1,
mvO 11 29] (some [0, 1, 2, 3, 10, 11]))))))))⟩
def ir254 : IFn := ⟨38, [.t 2],
(.seq (.ops [bO 2 false] (some [0]))
(.seq (.seq (.ops [mvO 6 0,
opO 7 (.s2b (.t 6)),
nO 8 7,
mO 9 0] (some [0, 7, 8, 9]))
(.block 0 (.loop (.seq (.ops [sO 10 9 8] none)
(.seq (.cond (.t 10)
.skip
(.exit 0))
(.seq (.block 1 (.seq (.ops [mvO 11 9,
iO 12 1 7 9,
lO 13 1 12,
mvO 3 11,
mvO 4 13] (some [0, 3, 4, 7, 8, 9]))
(.seq (.ops [mvO 14 4,
opO 15 (.ibin .or .u8 (.t 14) (.c (.int .u8 32))),
opO 16 (.conv .i64 (.t 15)),
opO 17 (.call 216 [(.t 16), (ci 97), (ci 122)]),
mvO 5 17] (some [0, 3, 4, 5, 7, 8, 9]))
(.seq (.ops [mvO 18 5,
opO 19 (.un .not (.t 18)),
mvO 20 19,
⟨(some 21), (some (20, true)), .mov (.t 3)⟩,
⟨(some 22), (some (20, true)), .ibin .eql .i64 (.t 21) (ci 0)⟩,
⟨(some 23), (some (20, true)), .mov (.t 22)⟩,
⟨(some 24), (some (23, false)), .mov (.t 4)⟩,
⟨(some 25), (some (23, false)), .ibin .neq .u8 (.t 24) (.c (.int .u8 45))⟩,
⟨(some 26), (some (23, false)), .mov (.t 25)⟩,
⟨(some 27), (some (26, true)), .mov (.t 4)⟩,
⟨(some 28), (some (26, true)), .conv .i64 (.t 27)⟩,
⟨(some 29), (some (26, true)), .call 216 [(.t 28), (ci 48), (ci 57)]⟩,
⟨(some 30), (some (26, true)), .un .not (.t 29)⟩,
⟨(some 31), (some (23, false)), .pick (.t 26) (.t 30) (.c (.bool false))⟩,
⟨(some 32), (some (20, true)), .pick (.t 23) (.c (.bool true)) (.t 31)⟩,
opO 33 (.pick (.t 20) (.t 32) (.c (.bool false)))] (some [0, 7, 8, 9, 33]))
(.cond (.t 33)
(.seq (.ops [bO 2 false] none)
.ret)
.skip)))))
(.ops [pO 34 9 1,
mvO 9 34] (some [0, 7, 8, 9]))))))))
(.seq (.ops [mvO 35 0,
opO 36 (.lenS (.t 35)),
opO 37 (.call 216 [(.t 36), (ci 1), (ci 12)]),
mvO 2 37] (some [2]))
.ret)))⟩
def ir255 : IFn := ⟨30, [.t 4, .t 5],
(.seq (.ops [opO 4 (.mov (.c (.int .u64 0))),
opO 5 (.mov (.c (.int .u64 0)))] (some [0, 1]))
(.seq (.cond (.c (.bool false))
(.seq (.ops [mvO 11 0,
opO 12 (.conv .u32 (.t 11)),
mvO 13 1,
opO 14 (.conv .u32 (.t 13)),
opO 15 (.call 260 [(.t 12), (.t 14)]),
mvO 10 15,
xO 16 0 10,
xO 17 1 10,
mvO 6 16,
mvO 7 17] (some [6, 7]))
(.seq (.ops [mvO 18 6,
opO 19 (.conv .u64 (.t 18)),
mvO 20 7,
opO 21 (.conv .u64 (.t 20)),
mvO 4 19,
mvO 5 21] (some [4, 5]))
.ret))
.skip)
(.seq (.ops [mvO 23 0,
mvO 24 1,
opO 25 (.call 261 [(.t 23), (.t 24)]),
mvO 22 25,
xO 26 0 22,
xO 27 1 22,
mvO 8 26,
mvO 9 27] (some [8, 9]))
(.seq (.ops [mvO 28 8,
mvO 29 9,
mvO 4 28,
mvO 5 29] (some [4, 5]))
.ret))))⟩
def ir256 : IFn := ⟨5, [.t 2],
(.seq (.ops [bO 2 false] (some [0]))
(.seq (.ops [mvO 3 0,
opO 4 (.call 216 [(.t 3), (ci 0), (ci 1000000)]),
mvO 2 4] (some [2]))
.ret))⟩
def ir257 : IFn := ⟨9, [.t 4],
(.seq (.ops [bO 4 false] (some [0, 1]))
(.seq (.ops [mvO 5 0,
mvO 6 1,
opO 7 (.call 262 [(.t 5), (.t 6)]),
opO 8 (.ibin .geq .i64 (.t 7) (ci 0)),
mvO 4 8] (some [4]))
.ret))⟩
def ir258 : IFn := ⟨9, [.t 3],
(.seq (.ops [opO 2 (.box (.t 0)),
bO 3 false] (some [1, 2]))
(.seq (.ops [fO 4 0 2,
lO 5 1 4,
fO 6 0 1,
lO 7 1 6,
opO 8 (.sbin .eql (.t 5) (.t 7)),
mvO 3 8] (some [3]))
.ret))⟩
def ir260 : IFn := ⟨17, [.t 4, .t 5],
(.seq (.ops [opO 4 (.mov (.c (.int .u32 0))),
opO 5 (.mov (.c (.int .u32 0)))] (some [0, 1]))
(.seq (.ops [mvO 7 0,
opO 8 (.conv .u64 (.t 7)),
mvO 9 1,
opO 10 (.conv .u64 (.t 9)),
opO 11 (.ibin .mul .u64 (.t 8) (.t 10)),
mvO 6 11] (some [6]))
(.seq (.ops [mvO 12 6,
opO 13 (.shift .shr .u64 (.t 12) (.c (.int .u64 32))),
opO 14 (.conv .u32 (.t 13)),
mvO 15 6,
opO 16 (.conv .u32 (.t 15)),
mvO 4 14,
mvO 5 16] (some [4, 5]))
.ret)))⟩
def ir261 : IFn := ⟨51, [.t 4, .t 5],
(.seq (.ops [opO 4 (.mov (.c (.int .u64 0))),
opO 5 (.mov (.c (.int .u64 0)))] (some [0, 1]))
(.seq (.ops [mvO 14 0,
opO 15 (.ibin .and .u64 (.t 14) (.c (.int .u64 4294967295))),
mvO 6 15] (some [0, 1, 6]))
(.seq (.ops [mvO 16 0,
opO 17 (.shift .shr .u64 (.t 16) (.c (.int .u64 32))),
mvO 7 17] (some [0, 1, 6, 7]))
(.seq (.ops [mvO 18 1,
opO 19 (.ibin .and .u64 (.t 18) (.c (.int .u64 4294967295))),
mvO 8 19] (some [0, 1, 6, 7, 8]))
(.seq (.ops [mvO 20 1,
opO 21 (.shift .shr .u64 (.t 20) (.c (.int .u64 32))),
mvO 9 21] (some [0, 1, 6, 7, 8, 9]))
(.seq (.ops [mvO 22 6,
mvO 23 8,
opO 24 (.ibin .mul .u64 (.t 22) (.t 23)),
mvO 10 24] (some [0, 1, 6, 7, 8, 9, 10]))
(.seq (.ops [mvO 25 7,
mvO 26 8,
opO 27 (.ibin .mul .u64 (.t 25) (.t 26)),
mvO 28 10,
opO 29 (.shift .shr .u64 (.t 28) (.c (.int .u64 32))),
opO 30 (.ibin .add .u64 (.t 27) (.t 29)),
mvO 11 30] (some [0, 1, 6, 7, 9, 11]))
(.seq (.ops [mvO 31 11,
opO 32 (.ibin .and .u64 (.t 31) (.c (.int .u64 4294967295))),
mvO 12 32] (some [0, 1, 6, 7, 9, 11, 12]))
(.seq (.ops [mvO 33 11,
opO 34 (.shift .shr .u64 (.t 33) (.c (.int .u64 32))),
mvO 13 34] (some [0, 1, 6, 7, 9, 12, 13]))
(.seq (.ops [mvO 35 12,
mvO 36 6,
mvO 37 9,
opO 38 (.ibin .mul .u64 (.t 36) (.t 37)),
opO 39 (.ibin .add .u64 (.t 35) (.t 38)),
mvO 12 39] (some [0, 1, 7, 9, 12, 13]))
(.seq (.ops [mvO 40 7,
mvO 41 9,
opO 42 (.ibin .mul .u64 (.t 40) (.t 41)),
mvO 43 13,
opO 44 (.ibin .add .u64 (.t 42) (.t 43)),
mvO 45 12,
opO 46 (.shift .shr .u64 (.t 45) (.c (.int .u64 32))),
opO 47 (.ibin .add .u64 (.t 44) (.t 46)),
mvO 4 47] (some [0, 1, 4]))
(.seq (.ops [mvO 48 0,
mvO 49 1,
opO 50 (.ibin .mul .u64 (.t 48) (.t 49)),
mvO 5 50] (some [4, 5]))
.ret))))))))))))⟩
def ir262 : IFn := ⟨19, [.t 4],
(.seq (.ops [mO 4 0] (some [0, 1]))
(.seq (.seq (.ops [mvO 6 0,
nO 7 6,
mO 8 0] (some [0, 1, 7, 8]))
(.block 0 (.loop (.seq (.ops [sO 9 8 7] none)
(.seq (.cond (.t 9)
.skip
(.exit 0))
(.seq (.block 1 (.seq (.ops [mvO 10 8,
mvO 5 10] (some [0, 1, 5, 7, 8]))
(.seq (.ops [mvO 11 1,
mvO 12 0,
mvO 13 5,
iO 14 4 12 13,
lA 15 4 14,
opO 16 (.callv (.t 11) [(.t 15)])] (some [0, 1, 5, 7, 8, 16]))
(.cond (.t 16)
(.seq (.ops [mvO 17 5,
mvO 4 17] (some [4]))
.ret)
.skip))))
(.ops [pO 18 8 1,
mvO 8 18] (some [0, 1, 7, 8]))))))))
(.seq (.ops [opO 4 (.mov (ci (-1)))] none)
.ret)))⟩
def ir307 : IFn := ⟨23, [.t 2],
(.seq (.ops [opO 1 (.box (.t 0)),
bO 2 false] (some [1]))
(.seq (.seq (.ops [fO 4 2 1,
lO 5 1 4,
nO 6 5,
opO 7 (.ibin .gtr .i64 (.t 6) (ci 7))] (some [1, 7]))
(.cond (.t 7)
(.seq (.ops [bO 2 false] none)
.ret)
.skip))
(.seq (.seq (.ops [mO 3 0] none)
(.block 0 (.loop (.seq (.seq (.ops [mvO 8 3,
fO 9 2 1,
lO 10 1 9,
nO 11 10,
sO 12 8 11] (some [1, 3, 12]))
(.cond (.t 12)
.skip
(.exit 0)))
(.seq (.block 1 (.seq (.ops [fO 15 2 1,
lO 16 1 15,
mvO 17 3,
iO 18 4 16 17,
fO 19 0 18,
lO 20 1 19,
opO 21 (.lenS (.t 20)),
opO 22 (.ibin .gtr .i64 (.t 21) (ci 20))] (some [1, 3, 22]))
(.cond (.t 22)
(.seq (.ops [bO 2 false] none)
.ret)
.skip)))
(.ops [mvO 13 3,
pO 14 13 1,
mvO 3 14] (some [1, 3])))))))
(.seq (.ops [bO 2 true] none)
.ret))))⟩
def ir308 : IFn := ⟨7, [.t 2],
(.seq (.ops [opO 1 (.box (.t 0)),
bO 2 false] (some [1]))
(.seq (.ops [fO 3 3 1,
lO 4 1 3,
nO 5 4,
opO 6 (.ibin .leq .i64 (.t 5) (ci 12)),
mvO 2 6] (some [2]))
.ret))⟩
def ir309 : IFn := ⟨9, [.cell 2 3 true],
(.seq (.ops [opO 1 (.box (.t 0)),
opO 2 (.alloc [(.int .i64 0), (.int .i64 0), (.slice none 0 0)])] (some [1, 2]))
(.seq (.ops [opO 3 (.bslice 0 4 [(.string ⟨#[]⟩), (.int .i64 0), (.int .i64 0), (.int .i64 0)] []),
fO 4 2 1,
lO 5 1 4,
opO 6 (.append 4 40 (.t 3) (.t 5)),
fO 7 2 1,
⟨none, none, .store 1 (.t 7) (.t 6)⟩] (some [1, 2]))
(.seq (.ops [lA 8 3 1,
⟨none, none, .store 3 (.t 2) (.t 8)⟩] (some [2]))
.ret)))⟩
def ir310 : IFn := ⟨9, [.cell 2 4 true],
(.seq (.ops [opO 1 (.box (.t 0)),
opO 2 (.alloc [(.int .i64 0), (.int .i64 0), (.int .i64 0), (.slice none 0 0)])] (some [1, 2]))
(.seq (.ops [opO 3 (.bslice 0 3 [(.int .i64 0), (.int .i64 0), (.int .i64 0)] []),
fO 4 3 1,
lO 5 1 4,
opO 6 (.append 3 24 (.t 3) (.t 5)),
fO 7 3 1,
⟨none, none, .store 1 (.t 7) (.t 6)⟩] (some [1, 2]))
(.seq (.ops [lA 8 4 1,
⟨none, none, .store 4 (.t 2) (.t 8)⟩] (some [2]))
.ret)))⟩
def ir311 : IFn := ⟨14, [.t 4],
(.seq (.ops [opO 2 (.box (.t 0)),
opO 3 (.box (.t 1)),
mO 4 0] (some [2, 3]))
(.seq (.ops [lA 8 3 2,
lA 9 4 3,
opO 10 (.call 326 [(.t 8), (.t 9)]),
mvO 7 10,
xO 11 0 7,
xO 12 1 7,
mvO 5 11,
mvO 6 12] (some [6]))
(.seq (.ops [mvO 13 6,
mvO 4 13] (some [4]))
.ret)))⟩
def ir322 : IFn := ⟨21, [.t 6, .t 7],
(.seq (.ops [opO 3 (.box (.t 0)),
opO 4 (.box (.t 1)),
opO 6 (.mov (.c (.slice none 0 0))),
mO 7 0] (some [2, 3, 4]))
(.seq (.ops [lA 12 3 3,
lA 13 4 4,
mvO 14 2,
opO 15 (.call 221 [(.t 12), (.t 13), (.t 14)]),
mvO 11 15,
xO 16 0 11,
xO 17 1 11,
xO 18 2 11,
opO 8 (.alloc [(.int .i64 0), (.int .i64 0), (.slice none 0 0), (.int .i64 0), (.int .i64 0), (.int .i64 0), (.slice none 0 0)]),
⟨none, none, .store 7 (.t 8) (.t 16)⟩,
mvO 9 17,
mvO 10 18] (some [9, 10]))
(.seq (.ops [mvO 19 9,
mvO 20 10,
mvO 6 19,
mvO 7 20] (some [6, 7]))
.ret)))⟩
def ir323 : IFn := ⟨26, [.t 6, .t 7],
(.seq (.ops [opO 3 (.box (.t 0)),
opO 4 (.box (.t 1)),
mO 6 0,
mO 7 0] (some [2, 3, 4]))
(.seq (.ops [lA 12 3 3,
lA 13 4 4,
mvO 14 2,
opO 15 (.call 221 [(.t 12), (.t 13), (.t 14)]),
mvO 11 15,
xO 16 0 11,
xO 17 1 11,
xO 18 2 11,
opO 8 (.alloc [(.int .i64 0), (.int .i64 0), (.slice none 0 0), (.int .i64 0), (.int .i64 0), (.int .i64 0), (.slice none 0 0)]),
⟨none, none, .store 7 (.t 8) (.t 16)⟩,
mvO 9 17,
mvO 10 18] (some [2, 8, 9, 10]))
(.seq (.seq (.ops [mvO 19 10,
opO 20 (.ibin .neq .i64 (.t 19) (ci 0))] (some [2, 8, 9, 10, 20]))
(.cond (.t 20)
(.seq (.ops [mvO 21 10,
mO 6 0,
mvO 7 21] (some [6, 7]))
.ret)
.skip))
(.seq (.ops [lA 22 7 8,
mvO 23 2,
mvO 24 9,
opO 25 (.call 352 [(.t 22), (.t 23), (.t 24)]),
mvO 6 25,
mO 7 0] (some [6, 7]))
.ret))))⟩
def ir325 : IFn := ⟨63, [.t 2, .t 3],
(.seq (.ops [opO 1 (.box (.t 0)),
mO 2 0,
mO 3 0] (some [1]))
(.seq (.seq (.ops [fO 7 0 1,
lO 8 1 7,
opO 9 (.call 15 [(.t 8), (ci 0), (ci 1000000)]),
opO 10 (.un .not (.t 9)),
mvO 11 10,
⟨(some 12), (some (11, false)), .faddr 1 (.t 1)⟩,
⟨(some 13), (some (11, false)), .load 1 false (.t 12)⟩,
⟨(some 14), (some (11, false)), .call 15 [(.t 13), (ci 0), (ci 1000000)]⟩,
⟨(some 15), (some (11, false)), .un .not (.t 14)⟩,
opO 16 (.pick (.t 11) (.c (.bool true)) (.t 15))] (some [1, 16]))
(.cond (.t 16)
(.seq (.ops [mO 2 0,
mO 3 2] none)
.ret)
.skip))
(.seq (.seq (.ops [fO 17 0 1,
lO 18 1 17,
fO 19 1 1,
lO 20 1 19,
opO 21 (.ibin .gtr .i64 (.t 18) (.t 20))] (some [1, 21]))
(.cond (.t 21)
(.seq (.ops [mO 2 0,
mO 3 9] none)
.ret)
.skip))
(.seq (.seq (.ops [fO 22 1 1,
lO 23 1 22,
fO 24 0 1,
lO 25 1 24,
opO 26 (.ibin .sub .i64 (.t 23) (.t 25)),
opO 27 (.ibin .geq .i64 (.t 26) (ci 40))] (some [1, 27]))
(.cond (.t 27)
(.seq (.ops [mO 2 0,
mO 3 8] none)
.ret)
.skip))
(.seq (.seq (.ops [fO 28 2 1,
lO 29 1 28,
nO 30 29,
opO 31 (.ibin .eql .i64 (.t 30) (ci 0))] (some [1, 31]))
(.cond (.t 31)
(.seq (.ops [mO 2 0,
mO 3 10] none)
.ret)
.skip))
(.seq (.seq (.ops [fO 32 2 1,
lO 33 1 32,
nO 34 33,
opO 35 (.ibin .gtr .i64 (.t 34) (ci 5))] (some [1, 35]))
(.cond (.t 35)
(.seq (.ops [mO 2 0,
mO 3 8] none)
.ret)
.skip))
(.seq (.ops [opO 4 (.mov (.c (.slice none 0 0)))] none)
(.seq (.seq (.ops [mO 5 0] none)
(.block 0 (.loop (.seq (.seq (.ops [mvO 36 5,
fO 37 2 1,
lO 38 1 37,
nO 39 38,
sO 40 36 39] (some [1, 4, 5, 40]))
(.cond (.t 40)
.skip
(.exit 0)))
(.seq (.block 1 (.seq (.seq (.ops [fO 43 2 1,
lO 44 1 43,
mvO 45 5,
iO 46 4 44 45,
lA 47 4 46,
mvO 48 4,
opO 49 (.call 354 [(.t 47), (.t 48)]),
mvO 6 49] (some [1, 4, 5, 6]))
(.seq (.ops [mvO 50 6,
opO 51 (.ibin .neq .i64 (.t 50) (ci 0))] (some [1, 4, 5, 6, 51]))
(.cond (.t 51)
(.seq (.ops [mvO 52 5,
mvO 53 6,
mvO 2 52,
mvO 3 53] (some [2, 3]))
.ret)
.skip)))
(.ops [mvO 54 4,
fO 55 2 1,
lO 56 1 55,
mvO 57 5,
iO 58 4 56 57,
fO 59 0 58,
lO 60 1 59,
opO 61 (.bslice 1 1 [(.string ⟨#[]⟩)] [(0, 1, (.t 60))]),
opO 62 (.append 1 16 (.t 54) (.t 61)),
mvO 4 62] (some [1, 4, 5]))))
(.ops [mvO 41 5,
pO 42 41 1,
mvO 5 42] (some [1, 4, 5])))))))
(.seq (.ops [mO 2 0,
mO 3 0] none)
.ret)))))))))⟩
def ir326 : IFn := ⟨77, [.t 4, .t 5],
(.seq (.ops [opO 2 (.box (.t 0)),
opO 3 (.box (.t 1)),
mO 4 0,
mO 5 0] (some [2, 3]))
(.seq (.seq (.ops [lA 9 3 2,
cO 10 347 9,
mvO 6 10] (some [2, 3, 6]))
(.seq (.ops [mvO 11 6,
opO 12 (.ibin .neq .i64 (.t 11) (ci 0))] (some [2, 3, 6, 12]))
(.cond (.t 12)
(.seq (.ops [mvO 13 6,
mO 4 0,
mvO 5 13] (some [4, 5]))
.ret)
.skip)))
(.seq (.seq (.ops [fO 14 0 3,
lO 15 1 14,
fO 16 0 2,
lO 17 1 16,
fO 18 1 2,
lO 19 1 18,
opO 20 (.call 15 [(.t 15), (.t 17), (.t 19)]),
opO 21 (.un .not (.t 20))] (some [2, 3, 21]))
(.cond (.t 21)
(.seq (.ops [mO 4 0,
mO 5 2] none)
.ret)
.skip))
(.seq (.seq (.ops [fO 22 1 3,
lO 23 1 22,
fO 24 2 2,
lO 25 1 24,
nO 26 25,
opO 27 (.ibin .sub .i64 (.t 26) (ci 1)),
opO 28 (.call 15 [(.t 23), (ci 0), (.t 27)]),
opO 29 (.un .not (.t 28))] (some [3, 29]))
(.cond (.t 29)
(.seq (.ops [mO 4 0,
mO 5 6] none)
.ret)
.skip))
(.seq (.seq (.ops [fO 30 2 3,
lO 31 1 30,
cO 32 355 31,
opO 33 (.un .not (.t 32))] (some [3, 33]))
(.cond (.t 33)
(.seq (.ops [mO 4 0,
mO 5 2] none)
.ret)
.skip))
(.seq (.seq (.ops [fO 34 3 3,
lO 35 1 34,
nO 36 35,
opO 37 (.ibin .eql .i64 (.t 36) (ci 0))] (some [3, 37]))
(.cond (.t 37)
(.seq (.ops [mO 4 0,
mO 5 10] none)
.ret)
.skip))
(.seq (.seq (.ops [fO 38 3 3,
lO 39 1 38,
nO 40 39,
opO 41 (.ibin .gtr .i64 (.t 40) (ci 10))] (some [3, 41]))
(.cond (.t 41)
(.seq (.ops [mO 4 0,
mO 5 8] none)
.ret)
.skip))
(.seq (.seq (.ops [mO 7 0] none)
(.block 0 (.loop (.seq (.seq (.ops [mvO 42 7,
fO 43 3 3,
lO 44 1 43,
nO 45 44,
sO 46 42 45] (some [3, 7, 46]))
(.cond (.t 46)
.skip
(.exit 0)))
(.seq (.block 1 (.seq (.ops [fO 49 3 3,
lO 50 1 49,
mvO 51 7,
iO 52 3 50 51,
lA 53 3 52,
opO 8 (.alloc [(.int .i64 0), (.int .i64 0), (.int .i64 0)]),
⟨none, none, .store 3 (.t 8) (.t 53)⟩] (some [3, 7, 8]))
(.seq (.seq (.ops [fO 54 0 8,
lO 55 1 54,
cO 56 355 55,
opO 57 (.un .not (.t 56)),
mvO 58 57,
⟨(some 59), (some (58, false)), .faddr 1 (.t 8)⟩,
⟨(some 60), (some (58, false)), .load 1 false (.t 59)⟩,
⟨(some 61), (some (58, false)), .call 355 [(.t 60)]⟩,
⟨(some 62), (some (58, false)), .un .not (.t 61)⟩,
opO 63 (.pick (.t 58) (.c (.bool true)) (.t 62)),
mvO 64 63,
⟨(some 65), (some (64, false)), .faddr 2 (.t 8)⟩,
⟨(some 66), (some (64, false)), .load 1 false (.t 65)⟩,
⟨(some 67), (some (64, false)), .call 355 [(.t 66)]⟩,
⟨(some 68), (some (64, false)), .un .not (.t 67)⟩,
opO 69 (.pick (.t 64) (.c (.bool true)) (.t 68))] (some [3, 7, 8, 69]))
(.cond (.t 69)
(.seq (.ops [mvO 70 7,
mvO 4 70,
mO 5 2] (some [4, 5]))
.ret)
.skip))
(.seq (.ops [fO 71 1 8,
lO 72 1 71,
fO 73 0 8,
lO 74 1 73,
opO 75 (.ibin .gtr .i64 (.t 72) (.t 74))] (some [3, 7, 75]))
(.cond (.t 75)
(.seq (.ops [mvO 76 7,
mvO 4 76,
mO 5 9] (some [4, 5]))
.ret)
.skip)))))
(.ops [mvO 47 7,
pO 48 47 1,
mvO 7 48] (some [3, 7])))))))
(.seq (.ops [mO 4 0,
mO 5 0] none)
.ret)))))))))⟩
def ir327 : IFn := ⟨35, [.t 6],
(.seq (.ops [opO 3 (.box (.t 0)),
opO 4 (.box (.t 1)),
mO 6 0] (some [2, 3, 4]))
(.seq (.seq (.ops [mvO 8 2,
nO 9 8,
fO 10 3 4,
lO 11 1 10,
nO 12 11,
opO 13 (.ibin .neq .i64 (.t 9) (.t 12))] (some [2, 3, 4, 13]))
(.cond (.t 13)
(.seq (.ops [mO 6 10] none)
.ret)
.skip))
(.seq (.seq (.ops [mO 7 0] none)
(.block 0 (.loop (.seq (.seq (.ops [mvO 14 7,
mvO 15 2,
nO 16 15,
sO 17 14 16] (some [2, 3, 4, 7, 17]))
(.cond (.t 17)
.skip
(.exit 0)))
(.seq (.block 1 (.seq (.draw (.rd 0 (mvO 20 2)
(.rd 1 (mvO 21 7)
(.rd 2 (iO 22 1 20 21)
(.rd 3 (lO 23 1 22)
(.rd 4 (fO 24 2 3)
(.rd 5 (lO 25 1 24)
(.rd 6 (nO 26 25)
(.rd 7 (opO 27 (.ibin .sub .i64 (.t 26) (ci 1)))
(.wr 8 (opO 28 (.call 15 [(.t 23), (ci 0), (.t 27)])) [3, 7]
(.rd 9 (opO 29 (.un .not (.t 28)))
.fin) .no))))))))) (some [2, 3, 4, 7, 29]))
(.cond (.t 29)
(.seq (.ops [mO 6 6] none)
.ret)
.skip)))
(.ops [mvO 18 7,
pO 19 18 1,
mvO 7 19] (some [2, 3, 4, 7])))))))
(.seq (.seq (.ops [lA 30 3 3,
lA 31 4 4,
mvO 32 2,
opO 33 (.call 356 [(.t 30), (.t 31), (.t 32)]),
opO 34 (.un .not (.t 33))] (some [34]))
(.cond (.t 34)
(.seq (.ops [mO 6 22] none)
.ret)
.skip))
(.seq (.ops [mO 6 0] none)
.ret)))))⟩
def ir328 : IFn := ⟨43, [.t 6],
(.seq (.ops [opO 3 (.box (.t 0)),
opO 4 (.box (.t 1)),
opO 6 (.mov (.c (.slice none 0 0)))] (some [2, 3, 4]))
(.seq (.ops [fO 9 0 4,
lO 10 1 9,
opO 11 (.bslice 1 1 [(.int .i64 0)] [(0, 1, (.t 10))]),
mvO 7 11] (some [2, 3, 4, 7]))
(.seq (.seq (.ops [mO 8 0] none)
(.block 0 (.loop (.seq (.seq (.ops [mvO 12 8,
mvO 13 2,
nO 14 13,
sO 15 12 14] (some [2, 3, 4, 7, 8, 15]))
(.cond (.t 15)
.skip
(.exit 0)))
(.seq (.block 1 (.draw (.rd 0 (mvO 18 7)
(.rd 1 (mvO 19 7)
(.rd 2 (mvO 20 8)
(.rd 3 (iO 21 1 19 20)
(.rd 4 (lO 22 1 21)
(.rd 5 (fO 23 3 4)
(.rd 6 (lO 24 1 23)
(.rd 7 (mvO 25 8)
(.rd 8 (iO 26 3 24 25)
(.rd 9 (fO 27 2 26)
(.rd 10 (lO 28 1 27)
(.rd 11 (opO 29 (.ibin .add .i64 (.t 22) (.t 28)))
(.rd 12 (fO 30 2 3)
(.rd 13 (lO 31 1 30)
(.rd 14 (mvO 32 2)
(.rd 15 (mvO 33 8)
(.rd 16 (iO 34 1 32 33)
(.rd 17 (lO 35 1 34)
(.rd 18 (iO 36 4 31 35)
(.rd 19 (fO 37 1 36)
(.rd 20 (lO 38 1 37)
(.rd 21 (opO 39 (.ibin .add .i64 (.t 29) (.t 38)))
(.wr 22 (opO 40 (.bslice 1 1 [(.int .i64 0)] [(0, 1, (.t 39))])) [21]
(.wr 23 (opO 41 (.append 1 8 (.t 18) (.t 40))) [0, 22]
(.wr 24 (mvO 7 41) [23, 23, 0, 1, 2, 3, 4, 5, 6, 7, 8, 9, 10, 11, 12, 13, 14, 15, 16, 17, 18, 19, 20, 21, 22, 23]
.fin .no) .no) .no))))))))))))))))))))))) (some [2, 3, 4, 7, 8])))
(.ops [mvO 16 8,
pO 17 16 1,
mvO 8 17] (some [2, 3, 4, 7, 8])))))))
(.seq (.ops [mvO 42 7,
mvO 6 42] (some [6]))
.ret))))⟩
def ir331 : IFn := ⟨114, [.t 6, .t 7],
(.seq (.ops [opO 3 (.box (.t 0)),
opO 4 (.box (.t 1)),
mO 6 0,
mO 7 0] (some [2, 3, 4]))
(.seq (.ops [lA 18 3 3,
lA 19 4 4,
opO 20 (.call 219 [(.t 18), (.t 19)]),
mvO 17 20,
xO 21 0 17,
xO 22 1 17,
opO 8 (.alloc [(.int .i64 0), (.int .i64 0), (.slice none 0 0), (.int .i64 0), (.int .i64 0), (.int .i64 0), (.slice none 0 0)]),
⟨none, none, .store 7 (.t 8) (.t 21)⟩,
mvO 9 22] (some [2, 4, 8, 9]))
(.seq (.seq (.ops [mvO 23 9,
opO 24 (.ibin .neq .i64 (.t 23) (ci 0))] (some [2, 4, 8, 9, 24]))
(.cond (.t 24)
(.seq (.ops [mvO 25 9,
mO 6 0,
mvO 7 25] (some [6, 7]))
.ret)
.skip))
(.seq (.ops [lA 26 7 8,
fO 27 0 8,
fO 28 1 27,
lO 29 1 28,
fO 30 0 8,
fO 31 2 30,
lO 32 1 31,
nO 33 32,
opO 34 (.ibin .sub .i64 (.t 33) (ci 1)),
opO 35 (.call 234 [(.t 26), (.t 29), (.t 34)]),
pO 36 35 1,
opO 10 (.alloc [(.int .i64 0)]),
⟨none, none, .store 1 (.t 10) (.t 36)⟩] (some [2, 4, 8, 10]))
(.seq (.ops [mvO 37 2,
opO 38 (.mkfunc 358 [] [(.t 10)]),
opO 39 (.call 357 [(.t 37), (.t 38)]),
mvO 11 39] (some [2, 4, 8, 11]))
(.seq (.ops [mvO 40 2,
cO 41 359 40,
opO 42 (.call 80 [(.t 41), (.f 360)]),
mvO 12 42] (some [2, 4, 8, 11, 12]))
(.seq (.ops [mvO 43 2,
nO 44 43,
fO 45 3 4,
lO 46 1 45,
nO 47 46,
pO 48 47 1,
opO 49 (.ibin .eql .i64 (.t 44) (.t 48)),
mvO 50 49,
⟨(some 51), (some (50, true)), .mov (.t 11)⟩,
⟨(some 52), (some (50, true)), .un .not (.t 51)⟩,
opO 53 (.pick (.t 50) (.t 52) (.c (.bool false))),
opO 54 (.call 214 [(.t 53), (ci 10)]),
mvO 55 12,
opO 56 (.un .not (.t 55)),
opO 57 (.call 214 [(.t 56), (ci 2)]),
opO 58 (.bslice 2 1 [(.int .i64 0)] [(0, 1, (.t 54)), (1, 1, (.t 57))]),
cO 59 213 58,
mvO 9 59] (some [2, 4, 8, 9]))
(.seq (.seq (.ops [mvO 60 9,
opO 61 (.ibin .neq .i64 (.t 60) (ci 0))] (some [2, 4, 8, 9, 61]))
(.cond (.t 61)
(.seq (.ops [mvO 62 9,
mO 6 0,
mvO 7 62] (some [6, 7]))
.ret)
.skip))
(.seq (.seq (.ops [mvO 63 2,
nO 64 63,
mO 65 0] none)
(.block 0 (.loop (.seq (.ops [sO 66 65 64] none)
(.seq (.cond (.t 66)
.skip
(.exit 0))
(.seq (.block 1 (.seq (.ops [mvO 67 65,
iO 68 1 63 65,
lO 69 1 68,
mvO 13 67,
mvO 14 69] (some [2, 4, 8, 13, 14, 63, 64, 65]))
(.seq (.ops [fO 70 0 8,
fO 71 0 70,
lO 72 1 71,
mvO 15 72] (some [2, 4, 8, 13, 14, 15, 63, 64, 65]))
(.block 2 (.loop (.seq (.seq (.ops [mvO 73 15,
fO 74 0 8,
fO 75 1 74,
lO 76 1 75,
opO 77 (.ibin .leq .i64 (.t 73) (.t 76))] (some [2, 4, 8, 13, 14, 15, 63, 64, 65, 77]))
(.cond (.t 77)
.skip
(.exit 2)))
(.seq (.block 3 (.seq (.ops [fO 80 0 8,
fO 81 2 80,
lO 82 1 81,
nO 83 82,
mO 84 0] (some [2, 4, 8, 13, 14, 15, 63, 64, 65, 83, 84]))
(.block 4 (.loop (.seq (.ops [sO 85 84 83] none)
(.seq (.cond (.t 85)
.skip
(.exit 4))
(.seq (.block 5 (.seq (.ops [mvO 86 84,
mvO 16 86] (some [2, 4, 8, 13, 14, 15, 16, 63, 64, 65, 83, 84]))
(.seq (.draw (.rd 0 (lA 87 7 8)
(.rd 1 (mvO 88 2)
(.rd 2 (mvO 89 13)
(.rd 3 (mvO 90 15)
(.rd 4 (mvO 91 16)
(.rd 5 (mvO 92 14)
(.rd 6 (lA 93 7 8)
(.rd 7 (mvO 94 15)
(.rd 8 (mvO 95 16)
(.wr 9 (opO 96 (.call 234 [(.t 93), (.t 94), (.t 95)])) [6, 7, 8]
(.rd 10 (iO 97 1 92 96)
(.rd 11 (lO 98 1 97)
(.wr 12 (opO 99 (.call 361 [(.t 87), (.t 88), (.t 89), (.t 90), (.t 91), (.t 98)])) [0, 1, 2, 3, 4, 11, 9]
(.rd 13 (opO 100 (.un .not (.t 99)))
.fin) .no))) .no)))))))))) (some [2, 4, 8, 13, 14, 15, 63, 64, 65, 83, 84, 100]))
(.cond (.t 100)
(.seq (.ops [mO 6 0,
mO 7 19] none)
.ret)
.skip))))
(.ops [pO 101 84 1,
mvO 84 101] (some [2, 4, 8, 13, 14, 15, 63, 64, 65, 83, 84])))))))))
(.ops [mvO 78 15,
pO 79 78 1,
mvO 15 79] (some [2, 4, 8, 13, 14, 15, 63, 64, 65])))))))))
(.ops [pO 102 65 1,
mvO 65 102] (some [2, 4, 8, 63, 64, 65]))))))))
(.seq (.draw (.rd 0 (mvO 103 2)
(.rd 1 (opO 104 (.iaddr 1 (.t 103) (ci 0)))
(.rd 2 (lO 105 1 104)
(.rd 3 (lA 106 7 8)
(.rd 4 (fO 107 0 4)
(.rd 5 (lO 108 1 107)
(.rd 6 (fO 109 1 4)
(.rd 7 (lO 110 1 109)
(.wr 8 (opO 111 (.call 234 [(.t 106), (.t 108), (.t 110)])) [3, 5, 7]
(.rd 9 (iO 112 1 105 111)
(.rd 10 (lO 113 1 112)
(.rd 11 (mvO 6 113)
(.rd 12 (mO 7 0)
.fin)))) .no))))))))) (some [6, 7]))
.ret))))))))))⟩
def ir345 : IFn := ⟨24, [.t 4, .t 5],
(.seq (.ops [opO 2 (.box (.t 0)),
opO 3 (.box (.t 1)),
opO 4 (.mov (.c (.slice none 0 0))),
mO 5 0] (some [2, 3]))
(.seq (.seq (.ops [lA 10 3 2,
lA 11 4 3,
opO 12 (.call 206 [(.t 10), (.t 11)]),
mvO 9 12,
xO 13 0 9,
xO 14 1 9,
xO 15 2 9,
mvO 6 13,
mvO 7 14,
mvO 8 15] (some [2, 3, 8]))
(.seq (.ops [mvO 16 8,
opO 17 (.ibin .neq .i64 (.t 16) (ci 0))] (some [2, 3, 8, 17]))
(.cond (.t 17)
(.seq (.ops [mvO 18 8,
opO 4 (.mov (.c (.slice none 0 0))),
mvO 5 18] (some [4, 5]))
.ret)
.skip)))
(.seq (.ops [lA 19 3 2,
lA 20 4 3,
opO 21 (.build [(.int .i64 0), (.int .i64 0), (.slice none 0 0), (.int .i64 0), (.int .i64 0), (.int .i64 0), (.slice none 0 0)] [(0, 3, (.t 19)), (3, 4, (.t 20))]),
opO 22 (.build [(.int .i64 0), (.int .i64 0)] [(0, 1, (ci (-1)))]),
opO 23 (.call 229 [(.t 21), (.t 22)]),
mvO 4 23,
mO 5 0] (some [4, 5]))
.ret)))⟩
def ir346 : IFn := ⟨14, [.t 4],
(.seq (.ops [mO 4 0] (some [0, 1]))
(.seq (.ops [mvO 5 0,
mvO 6 1,
opO 7 (.ibin .rem .i64 (.t 5) (.t 6)),
mvO 0 7] (some [0, 1]))
(.seq (.seq (.ops [mvO 8 0,
opO 9 (.ibin .lss .i64 (.t 8) (ci 0))] (some [0, 1, 9]))
(.cond (.t 9)
(.ops [mvO 10 0,
mvO 11 1,
opO 12 (.ibin .add .i64 (.t 10) (.t 11)),
mvO 0 12] (some [0]))
.skip))
(.seq (.ops [mvO 13 0,
mvO 4 13] (some [4]))
.ret))))⟩
def ir347 : IFn := ⟨11, [.t 2],
(.seq (.ops [opO 1 (.box (.t 0)),
mO 2 0] (some [1]))
(.seq (.ops [lA 6 3 1,
cO 7 325 6,
mvO 5 7,
xO 8 0 5,
xO 9 1 5,
mvO 3 8,
mvO 4 9] (some [4]))
(.seq (.ops [mvO 10 4,
mvO 2 10] (some [2]))
.ret)))⟩
def ir352 (r : Nat → Code × Code) : IFn := ⟨35, [.t 6],
(.seq (.ops [opO 3 (.box (.t 0)),
mO 6 0] none)
(.seq (.draw (.rd 0 (fO 10 3 3)
(.rd 1 (fO 11 2 10)
(.rd 2 (lO 12 1 11)
(.rd 3 (mvO 13 2)
(.rd 4 (mvO 14 2)
(.rd 5 (nO 15 14)
(.rd 6 (opO 16 (.ibin .sub .i64 (.t 15) (ci 1)))
(.rd 7 (iO 17 1 13 16)
(.rd 8 (lO 18 1 17)
(.rd 9 (opO 19 (.ibin .mul .i64 (.t 12) (.t 18)))
(.wr 10 (opO 7 (.alloc [(.int .i64 0)])) []
(.wr 11 ⟨none, none, .store 1 (.t 7) (.t 19)⟩ [10, 9, 0, 1, 2, 3, 4, 5, 6, 7, 8, 9, 10]
.fin .no) .no))))))))))) none)
(.seq (.seq (.ops [lA 20 7 3,
mvO 21 1,
opO 22 (.call 353 [(.t 20), (.t 21)])] none)
(.block 0 (.range 35 (.t 22) #[23, 24] (r 0).1 (r 0).2)))
(.seq (.ops [lO 34 1 7,
mvO 6 34] (some [6]))
.ret))))⟩
def ir352a0 : ICode :=
(.seq (.ops [mvO 8 23] none)
(.ops [opO 9 (.alloc [(.int .i64 0), (.int .i64 0)]),
⟨none, none, .store 2 (.t 9) (.t 24)⟩] none))
def ir352b0 : ICode :=
(.block 1 (.draw (.rd 0 (lO 25 1 7)
(.rd 1 (lA 26 7 3)
(.rd 2 (mvO 27 8)
(.rd 3 (opO 28 (.iaddrA 2 1 (.t 9) (ci 0)))
(.rd 4 (lO 29 1 28)
(.rd 5 (opO 30 (.iaddrA 2 1 (.t 9) (ci 1)))
(.rd 6 (lO 31 1 30)
(.wr 7 (opO 32 (.call 239 [(.t 26), (.t 27), (.t 29), (.t 31)])) [1, 2, 4, 6]
(.rd 8 (opO 33 (.ibin .add .i64 (.t 25) (.t 32)))
(.wr 9 ⟨none, none, .store 1 (.t 7) (.t 33)⟩ [8, 7, 0, 1, 2, 3, 4, 5, 6, 7, 8]
.fin .no)) .no)))))))) (some [])))
def ir353 : IFn := ⟨6, [.t 4],
(.seq (.ops [opO 2 (.box (.t 0)),
opO 3 (.box (.t 1)),
opO 4 (.mov (.c .nilFunc))] (some [2, 3]))
(.seq (.ops [opO 5 (.mkfunc 367 [] [(.t 2), (.t 3)]),
mvO 4 5] (some [4]))
.ret))⟩
def ir354 : IFn := ⟨29, [.t 4],
(.seq (.ops [opO 2 (.box (.t 0)),
mO 4 0] (some [1, 2]))
(.seq (.seq (.ops [fO 5 0 2,
lO 6 1 5,
cO 7 91 6,
opO 8 (.un .not (.t 7))] (some [1, 2, 8]))
(.cond (.t 8)
(.seq (.ops [mO 4 4] none)
.ret)
.skip))
(.seq (.seq (.ops [mvO 9 1,
fO 10 0 2,
lO 11 1 10,
opO 12 (.call 364 [(.t 9), (.t 11)])] (some [2, 12]))
(.cond (.t 12)
(.seq (.ops [mO 4 5] none)
.ret)
.skip))
(.seq (.seq (.ops [fO 13 1 2,
lO 14 1 13,
opO 15 (.call 15 [(.t 14), (ci (-10000)), (ci 10000)]),
opO 16 (.un .not (.t 15)),
mvO 17 16,
⟨(some 18), (some (17, false)), .faddr 2 (.t 2)⟩,
⟨(some 19), (some (17, false)), .load 1 false (.t 18)⟩,
⟨(some 20), (some (17, false)), .call 15 [(.t 19), (ci (-10000)), (ci 10000)]⟩,
⟨(some 21), (some (17, false)), .un .not (.t 20)⟩,
opO 22 (.pick (.t 17) (.c (.bool true)) (.t 21)),
mvO 23 22,
⟨(some 24), (some (23, false)), .faddr 3 (.t 2)⟩,
⟨(some 25), (some (23, false)), .load 1 false (.t 24)⟩,
⟨(some 26), (some (23, false)), .call 15 [(.t 25), (ci 0), (ci 10000)]⟩,
⟨(some 27), (some (23, false)), .un .not (.t 26)⟩,
opO 28 (.pick (.t 23) (.c (.bool true)) (.t 27))] (some [28]))
(.cond (.t 28)
(.seq (.ops [mO 4 2] none)
.ret)
.skip))
(.seq (.ops [mO 4 0] none)
.ret)))))⟩
def ir355 : IFn := ⟨5, [.t 2],
(.seq (.ops [bO 2 false] (some [0]))
(.seq (.ops [mvO 3 0,
opO 4 (.call 15 [(.t 3), (ci (-10000)), (ci 10000)]),
mvO 2 4] (some [2]))
.ret))⟩
def ir356 : IFn := ⟨29, [.t 6],
(.seq (.ops [opO 3 (.box (.t 0)),
opO 4 (.box (.t 1)),
bO 6 false] (some [2, 3, 4]))
(.seq (.ops [lA 9 3 3,
lA 10 4 4,
mvO 11 2,
opO 12 (.call 328 [(.t 9), (.t 10), (.t 11)]),
mvO 7 12] (some [3, 7]))
(.seq (.seq (.ops [mO 8 0] none)
(.block 0 (.loop (.seq (.seq (.ops [mvO 13 8,
mvO 14 7,
nO 15 14,
sO 16 13 15] (some [3, 7, 8, 16]))
(.cond (.t 16)
.skip
(.exit 0)))
(.seq (.block 1 (.seq (.draw (.rd 0 (mvO 19 7)
(.rd 1 (mvO 20 8)
(.rd 2 (iO 21 1 19 20)
(.rd 3 (lO 22 1 21)
(.rd 4 (fO 23 0 3)
(.rd 5 (lO 24 1 23)
(.rd 6 (fO 25 1 3)
(.rd 7 (lO 26 1 25)
(.wr 8 (opO 27 (.call 15 [(.t 22), (.t 24), (.t 26)])) [3, 5, 7]
(.rd 9 (opO 28 (.un .not (.t 27)))
.fin) .no))))))))) (some [3, 7, 8, 28]))
(.cond (.t 28)
(.seq (.ops [bO 6 false] none)
.ret)
.skip)))
(.ops [mvO 17 8,
pO 18 17 1,
mvO 8 18] (some [3, 7, 8])))))))
(.seq (.ops [bO 6 true] none)
.ret))))⟩
def ir357 : IFn := ⟨9, [.t 4],
(.seq (.ops [bO 4 false] (some [0, 1]))
(.seq (.ops [mvO 5 0,
mvO 6 1,
opO 7 (.call 368 [(.t 5), (.t 6)]),
opO 8 (.ibin .geq .i64 (.t 7) (ci 0)),
mvO 4 8] (some [4]))
.ret))⟩
def ir358 : IFn := ⟨8, [.t 3],
(.seq (.ops [bO 3 false] (some [0, 1]))
(.seq (.ops [mvO 4 0,
nO 5 4,
lO 6 1 1,
opO 7 (.ibin .neq .i64 (.t 5) (.t 6)),
mvO 3 7] (some [3]))
.ret))⟩
def ir359 : IFn := ⟨36, [.t 2],
(.seq (.ops [opO 2 (.mov (.c (.slice none 0 0)))] (some [0]))
(.seq (.ops [mO 3 0] none)
(.seq (.seq (.ops [mvO 9 0,
nO 10 9,
mO 11 0] none)
(.block 0 (.loop (.seq (.ops [sO 12 11 10] none)
(.seq (.cond (.t 12)
.skip
(.exit 0))
(.seq (.block 1 (.seq (.ops [iO 13 1 9 11,
lO 14 1 13,
mvO 5 14] (some [0, 3, 5, 9, 10, 11]))
(.seq (.ops [mvO 15 3,
mvO 16 5,
nO 17 16,
opO 18 (.ibin .add .i64 (.t 15) (.t 17)),
mvO 3 18] (some [0, 3, 9, 10, 11]))
(.seq (.ops [mvO 19 3,
opO 20 (.ibin .lss .i64 (.t 19) (ci 0))] (some [0, 3, 9, 10, 11, 20]))
(.cond (.t 20)
(.ops [opO 21 (.nope),
⟨none, none, .nope⟩] (some [0, 3, 9, 10, 11]))
.skip)))))
(.ops [pO 22 11 1,
mvO 11 22] (some [0, 3, 9, 10, 11]))))))))
(.seq (.ops [mvO 23 3,
opO 24 (.call 369 [(.c (.slice none 0 0)), (.t 23)]),
mvO 6 24] (some [0, 6]))
(.seq (.seq (.ops [mvO 25 0,
nO 26 25,
mO 27 0] (some [6, 25, 26, 27]))
(.block 2 (.loop (.seq (.ops [sO 28 27 26] none)
(.seq (.cond (.t 28)
.skip
(.exit 2))
(.seq (.block 3 (.seq (.ops [iO 29 1 25 27,
lO 30 1 29,
mvO 8 30] (some [6, 8, 25, 26, 27]))
(.ops [mvO 31 6,
mvO 32 8,
opO 33 (.append 1 8 (.t 31) (.t 32)),
mvO 6 33] (some [6, 25, 26, 27]))))
(.ops [pO 34 27 1,
mvO 27 34] (some [6, 25, 26, 27]))))))))
(.seq (.ops [mvO 35 6,
mvO 2 35] (some [2]))
.ret))))))⟩
def ir360 : IFn := ⟨6, [.t 2],
(.seq (.ops [bO 2 false] (some [0]))
(.seq (.ops [mvO 3 0,
opO 4 (.call 235 [(.t 3), (ci 1000000000000)]),
opO 5 (.un .not (.t 4)),
mvO 2 5] (some [2]))
.ret))⟩
def ir361 (r : Nat → Code × Code) : IFn := ⟨53, [.cell 12 1 false],
(.seq (.ops [opO 6 (.box (.t 0)),
opO 7 (.box (.t 1)),
opO 8 (.box (.t 2)),
opO 10 (.box (.t 4)),
opO 11 (.box (.t 5)),
opO 12 (.alloc [(.bool false)])] none)
(.seq (.seq (.ops [lO 15 1 8,
fO 16 3 6,
fO 17 3 16,
lO 18 1 17,
nO 19 18,
opO 20 (.ibin .eql .i64 (.t 15) (.t 19))] none)
(.cond (.t 20)
(.seq (.ops [lO 21 1 11,
fO 22 3 6,
fO 23 2 22,
lO 24 1 23,
mvO 25 3,
opO 26 (.ibin .mul .i64 (.t 24) (.t 25)),
opO 27 (.ibin .geq .i64 (.t 21) (.t 26)),
⟨none, none, .store 1 (.t 12) (.t 27)⟩] (some [12]))
.ret)
.skip))
(.seq (.seq (.ops [lA 28 7 6,
mvO 29 3,
lO 30 1 8,
opO 31 (.call 238 [(.t 28), (.t 29), (.t 30)])] none)
(.block 0 (.range 53 (.t 31) #[32, 33] (r 0).1 (r 0).2)))
(.seq (.ops [⟨none, none, .store 1 (.t 12) (.c (.bool true))⟩] none)
.ret))))⟩
def ir361a0 : ICode :=
(.seq (.ops [mvO 13 32] none)
(.ops [mvO 14 33] none))
def ir361b0 : ICode :=
(.block 1 (.seq (.draw (.rd 0 (lO 34 1 11)
(.rd 1 (lA 35 7 6)
(.rd 2 (lO 36 1 8)
(.rd 3 (lO 37 1 10)
(.rd 4 (mvO 38 13)
(.rd 6 (lO 40 1 7)
(.rd 7 (lO 41 1 8)
(.rd 8 (pO 42 41 1)
(.rd 9 (iO 43 1 40 42)
(.rd 10 (lO 44 1 43)
(.rd 11 (lA 45 7 6)
(.rd 12 (mvO 46 14)
(.rd 13 (mvO 47 13)
(.wr 5 (opO 39 (.call 239 [(.t 35), (.t 36), (.t 37), (.t 38)])) [1, 2, 3, 4]
(.wr 14 (opO 48 (.call 234 [(.t 45), (.t 46), (.t 47)])) [11, 12, 13, 5]
(.rd 15 (iO 49 1 44 48)
(.rd 16 (lO 50 1 49)
(.rd 17 (opO 51 (.ibin .add .i64 (.t 39) (.t 50)))
(.rd 18 (sO 52 34 51)
.fin)))) .no) .no)))))))))))))) (some [12, 52]))
(.cond (.t 52)
(.seq (.ops [⟨none, none, .store 1 (.t 12) (.c (.bool false))⟩] (some []))
.ret)
.skip)))
def ir364 : IFn := ⟨18, [.t 4],
(.seq (.ops [bO 4 false] (some [0, 1]))
(.seq (.seq (.ops [mO 5 0] none)
(.block 0 (.loop (.seq (.seq (.ops [mvO 6 5,
mvO 7 0,
nO 8 7,
sO 9 6 8] (some [0, 1, 5, 9]))
(.cond (.t 9)
.skip
(.exit 0)))
(.seq (.block 1 (.seq (.ops [mvO 12 0,
mvO 13 5,
iO 14 1 12 13,
lO 15 1 14,
mvO 16 1,
opO 17 (.sbin .eql (.t 15) (.t 16))] (some [0, 1, 5, 17]))
(.cond (.t 17)
(.seq (.ops [bO 4 true] none)
.ret)
.skip)))
(.ops [mvO 10 5,
pO 11 10 1,
mvO 5 11] (some [0, 1, 5])))))))
(.seq (.ops [bO 4 false] none)
.ret)))⟩
def ir367 : IFn := ⟨26, [],
(.seq (.ops [fO 7 3 1,
fO 8 1 7,
lO 9 1 8,
mvO 4 9] (some [0, 2, 4]))
(.seq (.ops [lO 10 1 2,
nO 11 10,
mO 12 0] (some [0, 4, 10, 11, 12]))
(.block 0 (.loop (.seq (.ops [sO 13 12 11] none)
(.seq (.cond (.t 13)
.skip
(.exit 0))
(.seq (.block 1 (.seq (.ops [mvO 14 12,
iO 15 1 10 12,
lO 16 1 15,
mvO 5 14,
mvO 6 16] (some [0, 4, 5, 6, 10, 11, 12]))
(.seq (.seq (.ops [mvO 17 0,
mvO 18 5,
mvO 19 4,
mvO 20 6,
opO 21 (.build [(.int .i64 0), (.int .i64 0)] [(0, 1, (.t 19)), (1, 1, (.t 20))]),
opO 22 (.callv (.t 17) [(.t 18), (.t 21)]),
opO 23 (.un .not (.t 22))] (some [0, 6, 10, 11, 12, 23]))
(.cond (.t 23)
.ret
.skip))
(.ops [mvO 24 6,
mvO 4 24] (some [0, 4, 10, 11, 12])))))
(.ops [pO 25 12 1,
mvO 12 25] (some [0, 4, 10, 11, 12])))))))))⟩
def ir368 : IFn := ⟨19, [.t 4],
(.seq (.ops [mO 4 0] (some [0, 1]))
(.seq (.seq (.ops [mvO 6 0,
nO 7 6,
mO 8 0] (some [0, 1, 7, 8]))
(.block 0 (.loop (.seq (.ops [sO 9 8 7] none)
(.seq (.cond (.t 9)
.skip
(.exit 0))
(.seq (.block 1 (.seq (.ops [mvO 10 8,
mvO 5 10] (some [0, 1, 5, 7, 8]))
(.seq (.ops [mvO 11 1,
mvO 12 0,
mvO 13 5,
iO 14 1 12 13,
lO 15 1 14,
opO 16 (.callv (.t 11) [(.t 15)])] (some [0, 1, 5, 7, 8, 16]))
(.cond (.t 16)
(.seq (.ops [mvO 17 5,
mvO 4 17] (some [4]))
.ret)
.skip))))
(.ops [pO 18 8 1,
mvO 8 18] (some [0, 1, 7, 8]))))))))
(.seq (.ops [opO 4 (.mov (ci (-1)))] none)
.ret)))⟩
def ir369 : IFn := ⟨27, [.t 4],
(.seq (.ops [opO 4 (.mov (.c (.slice none 0 0)))] (some [0, 1]))
(.seq (.seq (.ops [mvO 5 1,
opO 6 (.ibin .lss .i64 (.t 5) (ci 0))] (some [0, 1, 6]))
(.cond (.t 6)
(.ops [opO 7 (.nope),
⟨none, none, .nope⟩] (some [0, 1]))
.skip))
(.seq (.seq (.ops [mvO 8 1,
mvO 9 0,
opO 10 (.capN (.t 9)),
mvO 11 0,
nO 12 11,
opO 13 (.ibin .sub .i64 (.t 10) (.t 12)),
opO 14 (.ibin .sub .i64 (.t 8) (.t 13)),
mvO 1 14] (some [0, 1]))
(.seq (.ops [mvO 15 1,
opO 16 (.ibin .gtr .i64 (.t 15) (ci 0))] (some [0, 1, 16]))
(.cond (.t 16)
(.ops [mvO 17 0,
mvO 18 0,
opO 19 (.capN (.t 18)),
opO 20 (.sliceV 1 (.t 17) none (some (.t 19)) none),
mvO 21 1,
opO 22 (.appz 1 8 [(.int .i64 0)] (.t 20) (.t 21)),
mvO 23 0,
nO 24 23,
opO 25 (.sliceV 1 (.t 22) none (some (.t 24)) none),
mvO 0 25] (some [0]))
.skip)))
(.seq (.ops [mvO 26 0,
mvO 4 26] (some [4]))
.ret))))⟩
def ir459 : IFn := ⟨315, [.t 6],
(.seq (.ops [opO 3 (.box (.t 0)),
opO 4 (.box (.t 1)),
opO 5 (.box (.t 2)),
bO 6 false] (some [3, 4, 5]))
(.seq (.seq (.ops [opO 29 (.call 470 []),
opO 30 (.un .not (.t 29))] (some [3, 4, 5, 30]))
(.cond (.t 30)
(.seq (.ops [bO 6 false] none)
.ret)
.skip))
(.seq (.seq (.ops [lA 31 3 3,
cO 32 307 31,
opO 33 (.un .not (.t 32)),
mvO 34 33,
⟨(some 35), (some (34, false)), .load 4 true (.t 4)⟩,
⟨(some 36), (some (34, false)), .call 308 [(.t 35)]⟩,
⟨(some 37), (some (34, false)), .un .not (.t 36)⟩,
opO 38 (.pick (.t 34) (.c (.bool true)) (.t 37)),
mvO 39 38,
⟨(some 40), (some (39, false)), .load 3 true (.t 3)⟩,
⟨(some 41), (some (39, false)), .load 4 true (.t 4)⟩,
⟨(some 42), (some (39, false)), .call 311 [(.t 40), (.t 41)]⟩,
⟨(some 43), (some (39, false)), .ibin .neq .i64 (.t 42) (ci 0)⟩,
opO 44 (.pick (.t 39) (.c (.bool true)) (.t 43)),
mvO 45 44,
⟨(some 46), (some (45, false)), .faddr 1 (.t 5)⟩,
⟨(some 47), (some (45, false)), .load 1 false (.t 46)⟩,
⟨(some 48), (some (45, false)), .lenV (.t 47)⟩,
⟨(some 49), (some (45, false)), .ibin .gtr .i64 (.t 48) (ci 10)⟩,
opO 50 (.pick (.t 45) (.c (.bool true)) (.t 49))] (some [3, 4, 5, 50]))
(.cond (.t 50)
(.seq (.ops [bO 6 true] none)
.ret)
.skip))
(.seq (.ops [lA 52 3 3,
cO 53 309 52,
cO 54 460 53,
cO 55 462 54,
mvO 51 55,
xO 56 0 51,
xO 57 1 51,
opO 7 (.alloc [(.int .i64 0), (.int .i64 0), (.slice none 0 0)]),
⟨none, none, .store 3 (.t 7) (.t 56)⟩,
mvO 8 57] (some [3, 4, 5, 7, 8]))
(.seq (.ops [lA 59 4 4,
cO 60 310 59,
cO 61 461 60,
cO 62 463 61,
mvO 58 62,
xO 63 0 58,
xO 64 1 58,
opO 9 (.alloc [(.int .i64 0), (.int .i64 0), (.int .i64 0), (.slice none 0 0)]),
⟨none, none, .store 4 (.t 9) (.t 63)⟩,
mvO 10 64] (some [3, 4, 5, 7, 8, 9, 10]))
(.seq (.seq (.ops [mvO 65 8,
opO 66 (.ibin .neq .i64 (.t 65) (ci 0)),
mvO 67 66,
⟨(some 68), (some (67, false)), .mov (.t 10)⟩,
⟨(some 69), (some (67, false)), .ibin .neq .i64 (.t 68) (ci 0)⟩,
opO 70 (.pick (.t 67) (.c (.bool true)) (.t 69)),
mvO 71 70,
⟨(some 72), (some (71, false)), .load 3 true (.t 7)⟩,
⟨(some 73), (some (71, false)), .load 3 true (.t 3)⟩,
⟨(some 74), (some (71, false)), .call 468 [(.t 72), (.t 73)]⟩,
⟨(some 75), (some (71, false)), .un .not (.t 74)⟩,
opO 76 (.pick (.t 71) (.c (.bool true)) (.t 75)),
mvO 77 76,
⟨(some 78), (some (77, false)), .load 4 true (.t 9)⟩,
⟨(some 79), (some (77, false)), .load 4 true (.t 4)⟩,
⟨(some 80), (some (77, false)), .call 469 [(.t 78), (.t 79)]⟩,
⟨(some 81), (some (77, false)), .un .not (.t 80)⟩,
opO 82 (.pick (.t 77) (.c (.bool true)) (.t 81))] (some [3, 4, 5, 7, 9, 82]))
(.cond (.t 82)
(.seq (.ops [bO 6 false] none)
.ret)
.skip))
(.seq (.ops [lA 84 3 7,
lA 85 4 9,
opO 86 (.call 206 [(.t 84), (.t 85)]),
mvO 83 86,
xO 87 0 83,
xO 88 1 83,
xO 89 2 83,
mvO 11 87,
mvO 12 88,
mvO 8 89] (some [3, 4, 5, 8, 11, 12]))
(.seq (.seq (.ops [mvO 90 8,
opO 91 (.ibin .neq .i64 (.t 90) (ci 0))] (some [3, 4, 5, 8, 11, 12, 91]))
(.cond (.t 91)
(.seq (.ops [mvO 92 8,
opO 93 (.ibin .eql .i64 (.t 92) (ci 12)),
mvO 6 93] (some [6]))
.ret)
.skip))
(.seq (.draw (.rd 0 (lA 95 3 3)
(.rd 2 (lA 97 4 4)
(.rd 4 (mvO 99 11)
(.wr 1 (cO 96 309 95) [0]
(.wr 3 (cO 98 310 97) [2, 1]
(.wr 5 (cO 100 38 99) [4, 3]
(.wr 6 (opO 101 (.call 322 [(.t 96), (.t 98), (.t 100)])) [1, 3, 5, 5]
(.rd 7 (mvO 94 101)
(.rd 8 (xO 102 0 94)
(.rd 9 (xO 103 1 94)
(.rd 10 (mvO 13 102)
(.rd 11 (mvO 10 103)
.fin))))) .no) .no) .no) .no)))) (some [3, 4, 5, 10, 11, 12, 13]))
(.seq (.seq (.ops [mvO 104 10,
opO 105 (.ibin .neq .i64 (.t 104) (ci 0)),
mvO 106 105,
⟨(some 107), (some (106, false)), .mov (.t 11)⟩,
⟨(some 108), (some (106, false)), .lenV (.t 107)⟩,
⟨(some 109), (some (106, false)), .faddr 3 (.t 4)⟩,
⟨(some 110), (some (106, false)), .load 1 false (.t 109)⟩,
⟨(some 111), (some (106, false)), .lenV (.t 110)⟩,
⟨(some 112), (some (106, false)), .ibin .neq .i64 (.t 108) (.t 111)⟩,
opO 113 (.pick (.t 106) (.c (.bool true)) (.t 112)),
mvO 114 113,
⟨(some 115), (some (114, false)), .mov (.t 13)⟩,
⟨(some 116), (some (114, false)), .lenV (.t 115)⟩,
⟨(some 117), (some (114, false)), .faddr 3 (.t 4)⟩,
⟨(some 118), (some (114, false)), .load 1 false (.t 117)⟩,
⟨(some 119), (some (114, false)), .lenV (.t 118)⟩,
⟨(some 120), (some (114, false)), .ibin .add .i64 (.t 119) (ci 1)⟩,
⟨(some 121), (some (114, false)), .ibin .neq .i64 (.t 116) (.t 120)⟩,
opO 122 (.pick (.t 114) (.c (.bool true)) (.t 121)),
mvO 123 122,
⟨(some 124), (some (123, false)), .mov (.t 12)⟩,
⟨(some 125), (some (123, false)), .call 15 [(.t 124), (ci (-1000000000000)), (ci 1000000000000)]⟩,
⟨(some 126), (some (123, false)), .un .not (.t 125)⟩,
opO 127 (.pick (.t 123) (.c (.bool true)) (.t 126))] (some [3, 4, 5, 11, 12, 13, 127]))
(.cond (.t 127)
(.seq (.ops [bO 6 false] none)
.ret)
.skip))
(.seq (.ops [fO 128 0 5,
lO 129 1 128,
fO 130 3 4,
lO 131 1 130,
nO 132 131,
opO 133 (.call 346 [(.t 129), (.t 132)]),
opO 134 (.ibin .add .i64 (ci 1) (.t 133)),
mvO 14 134] (some [3, 4, 5, 11, 12, 13, 14]))
(.seq (.draw (.rd 0 (fO 135 0 4)
(.rd 1 (lO 136 1 135)
(.rd 2 (fO 137 1 4)
(.rd 3 (lO 138 1 137)
(.rd 5 (fO 140 3 4)
(.rd 6 (lO 141 1 140)
(.rd 7 (mvO 142 14)
(.rd 8 (opO 143 (.sliceV 3 (.t 141) none (some (.t 142)) none))
(.wr 4 (opO 139 (.bslice 0 3 [(.int .i64 0), (.int .i64 0), (.int .i64 0)] [])) []
(.wr 9 (opO 144 (.append 3 24 (.t 139) (.t 143))) [4, 8]
(.rd 10 (opO 145 (.build [(.int .i64 0), (.int .i64 0), (.int .i64 0), (.slice none 0 0)] [(0, 1, (.t 136)), (1, 1, (.t 138)), (3, 1, (.t 144))]))
(.wr 11 (opO 15 (.alloc [(.int .i64 0), (.int .i64 0), (.int .i64 0), (.slice none 0 0)])) []
(.wr 12 ⟨none, none, .store 4 (.t 15) (.t 145)⟩ [11, 10, 9, 0, 1, 2, 3, 4, 5, 6, 7, 8, 9, 10, 11]
.fin .no) .no))
(.wr 11 (opO 15 (.alloc [(.int .i64 0), (.int .i64 0), (.int .i64 0), (.slice none 0 0)])) []
(.wr 9 (opO 144 (.append 3 24 (.t 139) (.t 143))) [4, 8]
(.rd 10 (opO 145 (.build [(.int .i64 0), (.int .i64 0), (.int .i64 0), (.slice none 0 0)] [(0, 1, (.t 136)), (1, 1, (.t 138)), (3, 1, (.t 144))]))
(.wr 12 ⟨none, none, .store 4 (.t 15) (.t 145)⟩ [11, 10, 9, 0, 1, 2, 3, 4, 5, 6, 7, 8, 9, 10, 11]
.fin .no)) .no) .no))
(.wr 11 (opO 15 (.alloc [(.int .i64 0), (.int .i64 0), (.int .i64 0), (.slice none 0 0)])) []
(.wr 4 (opO 139 (.bslice 0 3 [(.int .i64 0), (.int .i64 0), (.int .i64 0)] [])) []
(.wr 9 (opO 144 (.append 3 24 (.t 139) (.t 143))) [4, 8]
(.rd 10 (opO 145 (.build [(.int .i64 0), (.int .i64 0), (.int .i64 0), (.slice none 0 0)] [(0, 1, (.t 136)), (1, 1, (.t 138)), (3, 1, (.t 144))]))
(.wr 12 ⟨none, none, .store 4 (.t 15) (.t 145)⟩ [11, 10, 9, 0, 1, 2, 3, 4, 5, 6, 7, 8, 9, 10, 11]
.fin .no)) .no) .no) .no)))))))))) (some [3, 4, 5, 11, 12, 13, 14, 15]))
(.seq (.draw (.rd 0 (lA 147 3 3)
(.rd 2 (lA 149 4 15)
(.rd 4 (mvO 151 11)
(.rd 5 (mvO 152 14)
(.rd 6 (opO 153 (.sliceV 1 (.t 151) none (some (.t 152)) none))
(.wr 1 (cO 148 309 147) [0]
(.wr 3 (cO 150 310 149) [2, 1]
(.wr 7 (cO 154 38 153) [6, 3]
(.wr 8 (opO 155 (.call 323 [(.t 148), (.t 150), (.t 154)])) [1, 3, 7, 7]
(.rd 9 (mvO 146 155)
(.rd 10 (xO 156 0 146)
(.rd 11 (xO 157 1 146)
(.rd 12 (mvO 16 156)
(.rd 13 (mvO 17 157)
.fin))))) .no) .no) .no) .no)))))) (some [3, 4, 5, 11, 12, 13, 14, 15, 16, 17]))
(.seq (.seq (.ops [mvO 158 17,
opO 159 (.ibin .neq .i64 (.t 158) (ci 0)),
mvO 160 159,
⟨(some 161), (some (160, false)), .mov (.t 16)⟩,
⟨(some 162), (some (160, false)), .call 15 [(.t 161), (ci (-1000000000000)), (ci 1000000000000)]⟩,
⟨(some 163), (some (160, false)), .un .not (.t 162)⟩,
opO 164 (.pick (.t 160) (.c (.bool true)) (.t 163))] (some [3, 4, 5, 11, 12, 13, 14, 15, 16, 164]))
(.cond (.t 164)
(.seq (.ops [bO 6 false] none)
.ret)
.skip))
(.seq (.seq (.ops [mvO 165 14,
fO 166 3 4,
lO 167 1 166,
nO 168 167,
sO 169 165 168] (some [3, 4, 5, 11, 12, 13, 14, 15, 16, 169]))
(.cond (.t 169)
(.seq (.draw (.rd 0 (mvO 170 13)
(.rd 1 (mvO 171 14)
(.rd 2 (iO 172 1 170 171)
(.rd 3 (lO 173 1 172)
(.rd 4 (mvO 174 11)
(.rd 5 (mvO 175 14)
(.rd 6 (opO 176 (.ibin .sub .i64 (.t 175) (ci 1)))
(.rd 7 (iO 177 1 174 176)
(.rd 8 (lO 178 1 177)
(.rd 9 (fO 179 2 4)
(.rd 10 (lO 180 1 179)
(.rd 12 (fO 182 3 4)
(.rd 13 (lO 183 1 182)
(.rd 14 (mvO 184 14)
(.rd 15 (opO 185 (.sliceV 3 (.t 183) (some (.t 184)) none none))
(.wr 11 (opO 181 (.bslice 0 3 [(.int .i64 0), (.int .i64 0), (.int .i64 0)] [])) []
(.wr 16 (opO 186 (.append 3 24 (.t 181) (.t 185))) [11, 15]
(.rd 17 (opO 187 (.build [(.int .i64 0), (.int .i64 0), (.int .i64 0), (.slice none 0 0)] [(0, 1, (.t 173)), (1, 1, (.t 178)), (2, 1, (.t 180)), (3, 1, (.t 186))]))
(.wr 18 (opO 18 (.alloc [(.int .i64 0), (.int .i64 0), (.int .i64 0), (.slice none 0 0)])) []
(.wr 19 ⟨none, none, .store 4 (.t 18) (.t 187)⟩ [18, 17, 16, 0, 1, 2, 3, 4, 5, 6, 7, 8, 9, 10, 11, 12, 13, 14, 15, 16, 17, 18]
.fin .no) .no))
(.wr 18 (opO 18 (.alloc [(.int .i64 0), (.int .i64 0), (.int .i64 0), (.slice none 0 0)])) []
(.wr 16 (opO 186 (.append 3 24 (.t 181) (.t 185))) [11, 15]
(.rd 17 (opO 187 (.build [(.int .i64 0), (.int .i64 0), (.int .i64 0), (.slice none 0 0)] [(0, 1, (.t 173)), (1, 1, (.t 178)), (2, 1, (.t 180)), (3, 1, (.t 186))]))
(.wr 19 ⟨none, none, .store 4 (.t 18) (.t 187)⟩ [18, 17, 16, 0, 1, 2, 3, 4, 5, 6, 7, 8, 9, 10, 11, 12, 13, 14, 15, 16, 17, 18]
.fin .no)) .no) .no))
(.wr 18 (opO 18 (.alloc [(.int .i64 0), (.int .i64 0), (.int .i64 0), (.slice none 0 0)])) []
(.wr 11 (opO 181 (.bslice 0 3 [(.int .i64 0), (.int .i64 0), (.int .i64 0)] [])) []
(.wr 16 (opO 186 (.append 3 24 (.t 181) (.t 185))) [11, 15]
(.rd 17 (opO 187 (.build [(.int .i64 0), (.int .i64 0), (.int .i64 0), (.slice none 0 0)] [(0, 1, (.t 173)), (1, 1, (.t 178)), (2, 1, (.t 180)), (3, 1, (.t 186))]))
(.wr 19 ⟨none, none, .store 4 (.t 18) (.t 187)⟩ [18, 17, 16, 0, 1, 2, 3, 4, 5, 6, 7, 8, 9, 10, 11, 12, 13, 14, 15, 16, 17, 18]
.fin .no)) .no) .no) .no))))))))))))))))) (some [3, 5, 11, 12, 13, 14, 15, 16, 18]))
(.seq (.draw (.rd 0 (lA 189 3 3)
(.rd 2 (lA 191 4 18)
(.wr 1 (cO 190 309 189) [0]
(.wr 3 (cO 192 310 191) [2, 1]
(.wr 4 (opO 193 (.call 206 [(.t 190), (.t 192)])) [1, 3, 3]
(.rd 5 (mvO 188 193)
(.rd 6 (xO 194 0 188)
(.rd 7 (xO 195 1 188)
(.rd 8 (xO 196 2 188)
(.rd 9 (mvO 19 194)
(.rd 10 (mvO 20 195)
(.rd 11 (mvO 21 196)
.fin))))))) .no) .no) .no))) (some [3, 5, 11, 12, 13, 14, 15, 16, 18, 19, 20, 21]))
(.seq (.seq (.ops [mvO 197 21,
opO 198 (.ibin .neq .i64 (.t 197) (ci 0)),
mvO 199 198,
⟨(some 200), (some (199, false)), .mov (.t 19)⟩,
⟨(some 201), (some (199, false)), .mov (.t 11)⟩,
⟨(some 202), (some (199, false)), .mov (.t 14)⟩,
⟨(some 203), (some (199, false)), .sliceV 1 (.t 201) (some (.t 202)) none none⟩,
⟨(some 204), (some (199, false)), .call 26 [(.t 200), (.t 203)]⟩,
⟨(some 205), (some (199, false)), .un .not (.t 204)⟩,
opO 206 (.pick (.t 199) (.c (.bool true)) (.t 205)),
mvO 207 206,
⟨(some 208), (some (207, false)), .mov (.t 20)⟩,
⟨(some 209), (some (207, false)), .call 15 [(.t 208), (ci (-1000000000000)), (ci 1000000000000)]⟩,
⟨(some 210), (some (207, false)), .un .not (.t 209)⟩,
opO 211 (.pick (.t 207) (.c (.bool true)) (.t 210)),
mvO 212 211,
⟨(some 213), (some (212, false)), .mov (.t 16)⟩,
⟨(some 214), (some (212, false)), .mov (.t 20)⟩,
⟨(some 215), (some (212, false)), .ibin .add .i64 (.t 213) (.t 214)⟩,
⟨(some 216), (some (212, false)), .mov (.t 12)⟩,
⟨(some 217), (some (212, false)), .ibin .neq .i64 (.t 215) (.t 216)⟩,
opO 218 (.pick (.t 212) (.c (.bool true)) (.t 217))] (some [3, 5, 11, 13, 14, 15, 16, 18, 20, 218]))
(.cond (.t 218)
(.seq (.ops [bO 6 false] none)
.ret)
.skip))
(.seq (.draw (.rd 0 (lA 220 3 3)
(.rd 2 (lA 222 4 18)
(.wr 1 (cO 221 309 220) [0]
(.wr 3 (cO 223 310 222) [2, 1]
(.wr 4 (opO 224 (.call 345 [(.t 221), (.t 223)])) [1, 3, 3]
(.rd 5 (mvO 219 224)
(.rd 6 (xO 225 0 219)
(.rd 7 (xO 226 1 219)
(.rd 8 (mvO 22 225)
(.rd 9 (mvO 23 226)
.fin))))) .no) .no) .no))) (some [3, 5, 11, 13, 14, 15, 16, 18, 20, 22, 23]))
(.seq (.draw (.rd 0 (lA 228 3 3)
(.rd 2 (lA 230 4 18)
(.rd 4 (mvO 232 22)
(.wr 1 (cO 229 309 228) [0]
(.wr 3 (cO 231 310 230) [2, 1]
(.wr 5 (opO 233 (.call 331 [(.t 229), (.t 231), (.t 232)])) [1, 3, 4, 3]
(.rd 6 (mvO 227 233)
(.rd 7 (xO 234 0 227)
(.rd 8 (xO 235 1 227)
(.rd 9 (mvO 24 234)
(.rd 10 (mvO 25 235)
.fin))))) .no) .no) .no)))) (some [3, 5, 11, 13, 14, 15, 16, 20, 23, 24, 25]))
(.seq (.ops [mvO 236 23,
opO 237 (.ibin .neq .i64 (.t 236) (ci 0)),
mvO 238 237,
⟨(some 239), (some (238, false)), .mov (.t 25)⟩,
⟨(some 240), (some (238, false)), .ibin .neq .i64 (.t 239) (ci 0)⟩,
opO 241 (.pick (.t 238) (.c (.bool true)) (.t 240)),
mvO 242 241,
⟨(some 243), (some (242, false)), .mov (.t 24)⟩,
⟨(some 244), (some (242, false)), .mov (.t 20)⟩,
⟨(some 245), (some (242, false)), .ibin .neq .i64 (.t 243) (.t 244)⟩,
opO 246 (.pick (.t 242) (.c (.bool true)) (.t 245))] (some [3, 5, 11, 13, 14, 15, 16, 246]))
(.cond (.t 246)
(.seq (.ops [bO 6 false] none)
.ret)
.skip)))))))
.skip))
(.seq (.seq (.ops [lA 247 3 3,
lA 248 4 15,
fO 249 1 5,
lO 250 1 249,
opO 251 (.call 327 [(.t 247), (.t 248), (.t 250)]),
opO 252 (.ibin .neq .i64 (.t 251) (ci 0))] (some [3, 5, 11, 13, 14, 15, 16, 252]))
(.cond (.t 252)
(.seq (.ops [bO 6 true] none)
.ret)
.skip))
(.seq (.draw (.rd 0 (lA 254 3 3)
(.rd 2 (lA 256 4 15)
(.rd 4 (fO 258 1 5)
(.rd 5 (lO 259 1 258)
(.wr 1 (cO 255 309 254) [0]
(.wr 3 (cO 257 310 256) [2, 1]
(.wr 6 (cO 260 38 259) [5, 3]
(.wr 7 (opO 261 (.call 322 [(.t 255), (.t 257), (.t 260)])) [1, 3, 6, 6]
(.rd 8 (mvO 253 261)
(.rd 9 (xO 262 0 253)
(.rd 10 (xO 263 1 253)
(.rd 11 (mvO 26 262)
(.rd 12 (mvO 17 263)
.fin))))) .no) .no) .no) .no))))) (some [3, 5, 11, 13, 14, 15, 16, 17, 26]))
(.seq (.draw (.rd 0 (lA 265 3 3)
(.rd 2 (lA 267 4 15)
(.rd 3 (fO 268 1 5)
(.rd 4 (lO 269 1 268)
(.wr 1 (cO 266 309 265) [0]
(.wr 5 (cO 270 38 269) [4, 1]
(.wr 6 (opO 271 (.call 323 [(.t 266), (.t 267), (.t 270)])) [1, 2, 5, 5]
(.rd 7 (mvO 264 271)
(.rd 8 (xO 272 0 264)
(.rd 9 (xO 273 1 264)
(.rd 10 (mvO 27 272)
(.rd 11 (mvO 28 273)
.fin))))) .no) .no) .no))))) (some [5, 11, 13, 14, 16, 17, 26, 27, 28]))
(.seq (.seq (.ops [mvO 274 17,
opO 275 (.ibin .neq .i64 (.t 274) (ci 0)),
mvO 276 275,
⟨(some 277), (some (276, false)), .mov (.t 28)⟩,
⟨(some 278), (some (276, false)), .ibin .neq .i64 (.t 277) (ci 0)⟩,
opO 279 (.pick (.t 276) (.c (.bool true)) (.t 278)),
mvO 280 279,
⟨(some 281), (some (280, false)), .mov (.t 26)⟩,
⟨(some 282), (some (280, false)), .lenV (.t 281)⟩,
⟨(some 283), (some (280, false)), .mov (.t 14)⟩,
⟨(some 284), (some (280, false)), .ibin .add .i64 (.t 283) (ci 1)⟩,
⟨(some 285), (some (280, false)), .ibin .neq .i64 (.t 282) (.t 284)⟩,
opO 286 (.pick (.t 280) (.c (.bool true)) (.t 285))] (some [5, 11, 13, 14, 16, 26, 27, 286]))
(.cond (.t 286)
(.seq (.ops [bO 6 false] none)
.ret)
.skip))
(.seq (.draw (.rd 0 (mvO 287 26)
(.rd 1 (mvO 288 14)
(.rd 2 (iO 289 1 287 288)
(.rd 3 (lO 290 1 289)
(.rd 4 (mvO 291 13)
(.rd 5 (mvO 292 14)
(.rd 6 (iO 293 1 291 292)
(.rd 7 (lO 294 1 293)
(.rd 8 (opO 295 (.ibin .neq .i64 (.t 290) (.t 294)))
(.rd 9 (mvO 296 295)
(.rd 10 ⟨(some 297), (some (296, false)), .faddr 1 (.t 5)⟩
(.rd 11 ⟨(some 298), (some (296, false)), .load 1 false (.t 297)⟩
(.rd 12 ⟨(some 299), (some (296, false)), .mov (.t 14)⟩
(.rd 13 ⟨(some 300), (some (296, false)), .ibin .sub .i64 (.t 299) (ci 1)⟩
(.rd 14 ⟨(some 301), (some (296, false)), .iaddr 1 (.t 298) (.t 300)⟩
(.rd 15 ⟨(some 302), (some (296, false)), .load 1 false (.t 301)⟩
(.rd 16 ⟨(some 303), (some (296, false)), .mov (.t 11)⟩
(.rd 17 ⟨(some 304), (some (296, false)), .mov (.t 14)⟩
(.rd 18 ⟨(some 305), (some (296, false)), .ibin .sub .i64 (.t 304) (ci 1)⟩
(.rd 19 ⟨(some 306), (some (296, false)), .iaddr 1 (.t 303) (.t 305)⟩
(.rd 20 ⟨(some 307), (some (296, false)), .load 1 false (.t 306)⟩
(.rd 21 ⟨(some 308), (some (296, false)), .ibin .neq .i64 (.t 302) (.t 307)⟩
(.rd 22 (opO 309 (.pick (.t 296) (.c (.bool true)) (.t 308)))
(.rd 23 (mvO 310 309)
(.rd 24 ⟨(some 311), (some (310, false)), .mov (.t 27)⟩
(.rd 25 ⟨(some 312), (some (310, false)), .mov (.t 16)⟩
(.rd 26 ⟨(some 313), (some (310, false)), .ibin .leq .i64 (.t 311) (.t 312)⟩
(.rd 27 (opO 314 (.pick (.t 310) (.c (.bool true)) (.t 313)))
(.rd 28 (mvO 6 314)
.fin))))))))))))))))))))))))))))) (some [6]))
.ret))))))))))))))))))))⟩
def ir460 : IFn := ⟨38, [.t 2],
(.seq (.ops [opO 1 (.box (.t 0)),
opO 2 (.mov (.c (.string ⟨#[]⟩)))] (some [1]))
(.seq (.ops [fO 6 0 1,
lO 7 1 6,
fO 8 1 1,
lO 9 1 8,
opO 10 (.bslice 2 1 [(.int .i64 0)] [(0, 1, (.t 7)), (1, 1, (.t 9))]),
cO 11 471 10,
opO 12 (.bslice 1 1 [(.string ⟨#[]⟩)] [(0, 1, (.t 11))]),
mvO 3 12] (some [1, 3]))
(.seq (.seq (.ops [fO 13 2 1,
lO 14 1 13,
nO 15 14,
mO 16 0] (some [3, 14, 15, 16]))
(.block 0 (.loop (.seq (.ops [sO 17 16 15] none)
(.seq (.cond (.t 17)
.skip
(.exit 0))
(.seq (.block 1 (.seq (.ops [iO 18 4 14 16,
lA 19 4 18,
opO 5 (.alloc [(.string ⟨#[]⟩), (.int .i64 0), (.int .i64 0), (.int .i64 0)]),
⟨none, none, .store 4 (.t 5) (.t 19)⟩] (some [3, 5, 14, 15, 16]))
(.draw (.rd 0 (mvO 20 3)
(.rd 1 (fO 21 0 5)
(.rd 2 (lO 22 1 21)
(.rd 3 (opO 23 (.sbin .add (.t 22) (.c (.string ⟨#[32]⟩))))
(.rd 4 (fO 24 1 5)
(.rd 5 (lO 25 1 24)
(.rd 6 (fO 26 2 5)
(.rd 7 (lO 27 1 26)
(.rd 8 (fO 28 3 5)
(.rd 9 (lO 29 1 28)
(.wr 10 (opO 30 (.bslice 3 1 [(.int .i64 0)] [(0, 1, (.t 25)), (1, 1, (.t 27)), (2, 1, (.t 29))])) [5, 7, 9]
(.wr 11 (cO 31 471 30) [10]
(.rd 12 (opO 32 (.sbin .add (.t 23) (.t 31)))
(.wr 13 (opO 33 (.bslice 1 1 [(.string ⟨#[]⟩)] [(0, 1, (.t 32))])) [12]
(.wr 14 (opO 34 (.append 1 16 (.t 20) (.t 33))) [0, 13, 11]
(.wr 15 (mvO 3 34) [14, 14, 0, 1, 2, 3, 4, 5, 6, 7, 8, 9, 10, 11, 12, 13, 14]
.fin .no) .no) .no)) .no) .no))))))))))) (some [3, 14, 15, 16]))))
(.ops [pO 35 16 1,
mvO 16 35] (some [3, 14, 15, 16]))))))))
(.seq (.ops [mvO 36 3,
opO 37 (.call 384 [(.t 36), (.c (.string ⟨#[59]⟩))]),
mvO 2 37] (some [2]))
.ret))))⟩
def ir461 : IFn := ⟨36, [.t 2],
(.seq (.ops [opO 1 (.box (.t 0)),
opO 2 (.mov (.c (.string ⟨#[]⟩)))] (some [1]))
(.seq (.ops [fO 6 0 1,
lO 7 1 6,
fO 8 1 1,
lO 9 1 8,
fO 10 2 1,
lO 11 1 10,
opO 12 (.bslice 3 1 [(.int .i64 0)] [(0, 1, (.t 7)), (1, 1, (.t 9)), (2, 1, (.t 11))]),
cO 13 471 12,
opO 14 (.bslice 1 1 [(.string ⟨#[]⟩)] [(0, 1, (.t 13))]),
mvO 3 14] (some [1, 3]))
(.seq (.seq (.ops [fO 15 3 1,
lO 16 1 15,
nO 17 16,
mO 18 0] (some [3, 16, 17, 18]))
(.block 0 (.loop (.seq (.ops [sO 19 18 17] none)
(.seq (.cond (.t 19)
.skip
(.exit 0))
(.seq (.block 1 (.seq (.ops [iO 20 3 16 18,
lA 21 3 20,
opO 5 (.alloc [(.int .i64 0), (.int .i64 0), (.int .i64 0)]),
⟨none, none, .store 3 (.t 5) (.t 21)⟩] (some [3, 5, 16, 17, 18]))
(.ops [mvO 22 3,
fO 23 0 5,
lO 24 1 23,
fO 25 1 5,
lO 26 1 25,
fO 27 2 5,
lO 28 1 27,
opO 29 (.bslice 3 1 [(.int .i64 0)] [(0, 1, (.t 24)), (1, 1, (.t 26)), (2, 1, (.t 28))]),
cO 30 471 29,
opO 31 (.bslice 1 1 [(.string ⟨#[]⟩)] [(0, 1, (.t 30))]),
opO 32 (.append 1 16 (.t 22) (.t 31)),
mvO 3 32] (some [3, 16, 17, 18]))))
(.ops [pO 33 18 1,
mvO 18 33] (some [3, 16, 17, 18]))))))))
(.seq (.ops [mvO 34 3,
opO 35 (.call 384 [(.t 34), (.c (.string ⟨#[59]⟩))]),
mvO 2 35] (some [2]))
.ret))))⟩
def ir462 : IFn := ⟨81, [.cell 2 3 true, .t 3],
(.seq (.ops [opO 2 (.alloc [(.int .i64 0), (.int .i64 0), (.slice none 0 0)]),
mO 3 0] (some [0, 2]))
(.seq (.seq (.ops [mvO 13 0,
opO 14 (.lenS (.t 13)),
opO 15 (.ibin .gtr .i64 (.t 14) (ci 60000))] (some [0, 2, 15]))
(.cond (.t 15)
(.seq (.ops [opO 16 (.build [(.int .i64 0), (.int .i64 0), (.slice none 0 0)] []),
⟨none, none, .store 3 (.t 2) (.t 16)⟩,
mO 3 8] (some [2, 3]))
.ret)
.skip))
(.seq (.ops [opO 4 (.alloc [(.int .i64 0), (.int .i64 0), (.slice none 0 0)])] none)
(.seq (.ops [mvO 17 0,
opO 18 (.call 382 [(.t 17), (.c (.string ⟨#[59]⟩))]),
mvO 5 18] (some [2, 4, 5]))
(.seq (.ops [mvO 19 5,
opO 20 (.iaddr 1 (.t 19) (ci 0)),
lO 21 1 20,
opO 22 (.call 382 [(.t 21), (.c (.string ⟨#[32]⟩))]),
fO 23 0 4,
opO 24 (.build [(.pointer none), (.bool false)] [(0, 1, (.t 23)), (1, 1, (.c (.bool false)))]),
fO 25 1 4,
opO 26 (.build [(.pointer none), (.bool false)] [(0, 1, (.t 25)), (1, 1, (.c (.bool false)))]),
opO 27 (.bslice 2 2 [(.pointer none), (.bool false)] [(0, 2, (.t 24)), (2, 2, (.t 26))]),
opO 28 (.call 472 [(.t 22), (.t 27)]),
mvO 6 28] (some [2, 4, 5, 6]))
(.seq (.seq (.ops [mvO 29 5,
opO 30 (.sliceV 1 (.t 29) (some (ci 1)) none none),
nO 31 30,
mO 32 0] (some [2, 4, 6, 30, 31, 32]))
(.block 0 (.loop (.seq (.ops [sO 33 32 31] none)
(.seq (.cond (.t 33)
.skip
(.exit 0))
(.seq (.block 1 (.seq (.ops [iO 34 1 30 32,
lO 35 1 34,
mvO 8 35] (some [2, 4, 6, 8, 30, 31, 32]))
(.seq (.ops [mvO 36 8,
opO 37 (.call 382 [(.t 36), (.c (.string ⟨#[32]⟩))]),
mvO 9 37] (some [2, 4, 6, 9, 30, 31, 32]))
(.seq (.ops [mvO 38 9,
opO 39 (.iaddr 1 (.t 38) (ci 0)),
lO 40 1 39,
opO 41 (.build [(.string ⟨#[]⟩), (.int .i64 0), (.int .i64 0), (.int .i64 0)] [(0, 1, (.t 40))]),
opO 10 (.alloc [(.string ⟨#[]⟩), (.int .i64 0), (.int .i64 0), (.int .i64 0)]),
⟨none, none, .store 4 (.t 10) (.t 41)⟩] (some [2, 4, 6, 9, 10, 30, 31, 32]))
(.seq (.ops [mvO 42 9,
opO 43 (.iaddr 1 (.t 42) (ci 0)),
lO 44 1 43,
opO 45 (.sbin .neq (.t 44) (.c (.string ⟨#[]⟩))),
mvO 46 45,
⟨(some 47), (some (46, true)), .mov (.t 9)⟩,
⟨(some 48), (some (46, true)), .sliceV 1 (.t 47) (some (ci 1)) none none⟩,
⟨(some 49), (some (46, true)), .faddr 1 (.t 10)⟩,
⟨(some 50), (some (46, true)), .build [(.pointer none), (.bool false)] [(0, 1, (.t 49)), (1, 1, (.c (.bool true)))]⟩,
⟨(some 51), (some (46, true)), .faddr 2 (.t 10)⟩,
⟨(some 52), (some (46, true)), .build [(.pointer none), (.bool false)] [(0, 1, (.t 51)), (1, 1, (.c (.bool true)))]⟩,
⟨(some 53), (some (46, true)), .faddr 3 (.t 10)⟩,
⟨(some 54), (some (46, true)), .build [(.pointer none), (.bool false)] [(0, 1, (.t 53)), (1, 1, (.c (.bool true)))]⟩,
⟨(some 55), (some (46, true)), .bslice 3 2 [(.pointer none), (.bool false)] [(0, 2, (.t 50)), (2, 2, (.t 52)), (4, 2, (.t 54))]⟩,
⟨(some 56), (some (46, true)), .call 472 [(.t 48), (.t 55)]⟩,
opO 57 (.pick (.t 46) (.t 56) (.c (.bool false))),
mvO 58 57,
⟨(some 59), (some (58, true)), .mov (.t 6)⟩,
opO 60 (.pick (.t 58) (.t 59) (.c (.bool false))),
mvO 6 60] (some [2, 4, 6, 10, 30, 31, 32]))
(.ops [fO 61 2 4,
lO 62 1 61,
lA 63 4 10,
opO 64 (.bslice 1 4 [(.string ⟨#[]⟩), (.int .i64 0), (.int .i64 0), (.int .i64 0)] [(0, 4, (.t 63))]),
opO 65 (.append 4 40 (.t 62) (.t 64)),
fO 66 2 4,
⟨none, none, .store 1 (.t 66) (.t 65)⟩] (some [2, 4, 6, 30, 31, 32])))))))
(.ops [pO 67 32 1,
mvO 32 67] (some [2, 4, 6, 30, 31, 32]))))))))
(.seq (.seq (.ops [mvO 68 6,
opO 69 (.un .not (.t 68))] (some [2, 4, 69]))
(.cond (.t 69)
(.seq (.ops [opO 70 (.build [(.int .i64 0), (.int .i64 0), (.slice none 0 0)] []),
⟨none, none, .store 3 (.t 2) (.t 70)⟩,
mO 3 7] (some [2, 3]))
.ret)
.skip))
(.seq (.seq (.ops [lA 72 3 4,
cO 73 249 72,
mvO 71 73,
xO 74 0 71,
xO 75 1 71,
mvO 11 74,
mvO 12 75] (some [2, 4, 12]))
(.seq (.ops [mvO 76 12,
opO 77 (.ibin .neq .i64 (.t 76) (ci 0))] (some [2, 4, 12, 77]))
(.cond (.t 77)
(.seq (.ops [opO 78 (.build [(.int .i64 0), (.int .i64 0), (.slice none 0 0)] []),
mvO 79 12,
⟨none, none, .store 3 (.t 2) (.t 78)⟩,
mvO 3 79] (some [2, 3]))
.ret)
.skip)))
(.seq (.ops [lA 80 3 4,
⟨none, none, .store 3 (.t 2) (.t 80)⟩,
mO 3 0] (some [2, 3]))
.ret)))))))))⟩
def ir463 : IFn := ⟨59, [.cell 2 4 true, .t 3],
(.seq (.ops [opO 2 (.alloc [(.int .i64 0), (.int .i64 0), (.int .i64 0), (.slice none 0 0)]),
mO 3 0] (some [0, 2]))
(.seq (.seq (.ops [mvO 10 0,
opO 11 (.lenS (.t 10)),
opO 12 (.ibin .gtr .i64 (.t 11) (ci 60000))] (some [0, 2, 12]))
(.cond (.t 12)
(.seq (.ops [opO 13 (.build [(.int .i64 0), (.int .i64 0), (.int .i64 0), (.slice none 0 0)] []),
⟨none, none, .store 4 (.t 2) (.t 13)⟩,
mO 3 8] (some [2, 3]))
.ret)
.skip))
(.seq (.ops [opO 4 (.alloc [(.int .i64 0), (.int .i64 0), (.int .i64 0), (.slice none 0 0)])] none)
(.seq (.ops [mvO 14 0,
opO 15 (.call 382 [(.t 14), (.c (.string ⟨#[59]⟩))]),
mvO 5 15] (some [2, 4, 5]))
(.seq (.ops [mvO 16 5,
opO 17 (.iaddr 1 (.t 16) (ci 0)),
lO 18 1 17,
opO 19 (.call 382 [(.t 18), (.c (.string ⟨#[32]⟩))]),
fO 20 0 4,
opO 21 (.build [(.pointer none), (.bool false)] [(0, 1, (.t 20)), (1, 1, (.c (.bool false)))]),
fO 22 1 4,
opO 23 (.build [(.pointer none), (.bool false)] [(0, 1, (.t 22)), (1, 1, (.c (.bool false)))]),
fO 24 2 4,
opO 25 (.build [(.pointer none), (.bool false)] [(0, 1, (.t 24)), (1, 1, (.c (.bool true)))]),
opO 26 (.bslice 3 2 [(.pointer none), (.bool false)] [(0, 2, (.t 21)), (2, 2, (.t 23)), (4, 2, (.t 25))]),
opO 27 (.call 472 [(.t 19), (.t 26)]),
mvO 6 27] (some [2, 4, 5, 6]))
(.seq (.seq (.ops [mvO 28 5,
opO 29 (.sliceV 1 (.t 28) (some (ci 1)) none none),
nO 30 29,
mO 31 0] (some [2, 4, 6, 29, 30, 31]))
(.block 0 (.loop (.seq (.ops [sO 32 31 30] none)
(.seq (.cond (.t 32)
.skip
(.exit 0))
(.seq (.block 1 (.seq (.ops [iO 33 1 29 31,
lO 34 1 33,
mvO 8 34] (some [2, 4, 6, 8, 29, 30, 31]))
(.seq (.ops [opO 9 (.alloc [(.int .i64 0), (.int .i64 0), (.int .i64 0)])] none)
(.seq (.ops [mvO 35 8,
opO 36 (.call 382 [(.t 35), (.c (.string ⟨#[32]⟩))]),
fO 37 0 9,
opO 38 (.build [(.pointer none), (.bool false)] [(0, 1, (.t 37)), (1, 1, (.c (.bool true)))]),
fO 39 1 9,
opO 40 (.build [(.pointer none), (.bool false)] [(0, 1, (.t 39)), (1, 1, (.c (.bool true)))]),
fO 41 2 9,
opO 42 (.build [(.pointer none), (.bool false)] [(0, 1, (.t 41)), (1, 1, (.c (.bool true)))]),
opO 43 (.bslice 3 2 [(.pointer none), (.bool false)] [(0, 2, (.t 38)), (2, 2, (.t 40)), (4, 2, (.t 42))]),
opO 44 (.call 472 [(.t 36), (.t 43)]),
mvO 45 44,
⟨(some 46), (some (45, true)), .mov (.t 6)⟩,
opO 47 (.pick (.t 45) (.t 46) (.c (.bool false))),
mvO 6 47] (some [2, 4, 6, 9, 29, 30, 31]))
(.ops [fO 48 3 4,
lO 49 1 48,
lA 50 3 9,
opO 51 (.bslice 1 3 [(.int .i64 0), (.int .i64 0), (.int .i64 0)] [(0, 3, (.t 50))]),
opO 52 (.append 3 24 (.t 49) (.t 51)),
fO 53 3 4,
⟨none, none, .store 1 (.t 53) (.t 52)⟩] (some [2, 4, 6, 29, 30, 31]))))))
(.ops [pO 54 31 1,
mvO 31 54] (some [2, 4, 6, 29, 30, 31]))))))))
(.seq (.seq (.ops [mvO 55 6,
opO 56 (.un .not (.t 55))] (some [2, 4, 56]))
(.cond (.t 56)
(.seq (.ops [opO 57 (.build [(.int .i64 0), (.int .i64 0), (.int .i64 0), (.slice none 0 0)] []),
⟨none, none, .store 4 (.t 2) (.t 57)⟩,
mO 3 7] (some [2, 3]))
.ret)
.skip))
(.seq (.ops [lA 58 4 4,
⟨none, none, .store 4 (.t 2) (.t 58)⟩,
mO 3 0] (some [2, 3]))
.ret))))))))⟩
def ir468 : IFn := ⟨45, [.t 4],
(.seq (.ops [opO 2 (.box (.t 0)),
opO 3 (.box (.t 1)),
bO 4 false] (some [2, 3]))
(.seq (.seq (.ops [fO 6 0 2,
lO 7 1 6,
fO 8 0 3,
lO 9 1 8,
opO 10 (.ibin .neq .i64 (.t 7) (.t 9)),
mvO 11 10,
⟨(some 12), (some (11, false)), .faddr 1 (.t 2)⟩,
⟨(some 13), (some (11, false)), .load 1 false (.t 12)⟩,
⟨(some 14), (some (11, false)), .faddr 1 (.t 3)⟩,
⟨(some 15), (some (11, false)), .load 1 false (.t 14)⟩,
⟨(some 16), (some (11, false)), .ibin .neq .i64 (.t 13) (.t 15)⟩,
opO 17 (.pick (.t 11) (.c (.bool true)) (.t 16)),
mvO 18 17,
⟨(some 19), (some (18, false)), .faddr 2 (.t 2)⟩,
⟨(some 20), (some (18, false)), .load 1 false (.t 19)⟩,
⟨(some 21), (some (18, false)), .lenV (.t 20)⟩,
⟨(some 22), (some (18, false)), .faddr 2 (.t 3)⟩,
⟨(some 23), (some (18, false)), .load 1 false (.t 22)⟩,
⟨(some 24), (some (18, false)), .lenV (.t 23)⟩,
⟨(some 25), (some (18, false)), .ibin .neq .i64 (.t 21) (.t 24)⟩,
opO 26 (.pick (.t 18) (.c (.bool true)) (.t 25))] (some [2, 3, 26]))
(.cond (.t 26)
(.seq (.ops [bO 4 false] none)
.ret)
.skip))
(.seq (.seq (.ops [mO 5 0] none)
(.block 0 (.loop (.seq (.seq (.ops [mvO 27 5,
fO 28 2 2,
lO 29 1 28,
nO 30 29,
sO 31 27 30] (some [2, 3, 5, 31]))
(.cond (.t 31)
.skip
(.exit 0)))
(.seq (.block 1 (.seq (.draw (.rd 0 (fO 34 2 2)
(.rd 1 (lO 35 1 34)
(.rd 2 (mvO 36 5)
(.rd 3 (iO 37 4 35 36)
(.rd 4 (lA 38 4 37)
(.rd 5 (fO 39 2 3)
(.rd 6 (lO 40 1 39)
(.rd 7 (mvO 41 5)
(.rd 8 (iO 42 4 40 41)
(.rd 9 (lA 43 4 42)
(.rd 10 (opO 44 (.eqv (.fld 0 1 .str (.fld 1 1 (.int .i64) (.fld 2 1 (.int .i64) (.fld 3 1 (.int .i64) .nil)))) true (.t 38) (.t 43)))
.fin))))))))))) (some [2, 3, 5, 44]))
(.cond (.t 44)
(.seq (.ops [bO 4 false] none)
.ret)
.skip)))
(.ops [mvO 32 5,
pO 33 32 1,
mvO 5 33] (some [2, 3, 5])))))))
(.seq (.ops [bO 4 true] none)
.ret))))⟩
def ir469 : IFn := ⟨52, [.t 4],
(.seq (.ops [opO 2 (.box (.t 0)),
opO 3 (.box (.t 1)),
bO 4 false] (some [2, 3]))
(.seq (.seq (.ops [fO 6 0 2,
lO 7 1 6,
fO 8 0 3,
lO 9 1 8,
opO 10 (.ibin .neq .i64 (.t 7) (.t 9)),
mvO 11 10,
⟨(some 12), (some (11, false)), .faddr 1 (.t 2)⟩,
⟨(some 13), (some (11, false)), .load 1 false (.t 12)⟩,
⟨(some 14), (some (11, false)), .faddr 1 (.t 3)⟩,
⟨(some 15), (some (11, false)), .load 1 false (.t 14)⟩,
⟨(some 16), (some (11, false)), .ibin .neq .i64 (.t 13) (.t 15)⟩,
opO 17 (.pick (.t 11) (.c (.bool true)) (.t 16)),
mvO 18 17,
⟨(some 19), (some (18, false)), .faddr 2 (.t 2)⟩,
⟨(some 20), (some (18, false)), .load 1 false (.t 19)⟩,
⟨(some 21), (some (18, false)), .faddr 2 (.t 3)⟩,
⟨(some 22), (some (18, false)), .load 1 false (.t 21)⟩,
⟨(some 23), (some (18, false)), .ibin .neq .i64 (.t 20) (.t 22)⟩,
opO 24 (.pick (.t 18) (.c (.bool true)) (.t 23)),
mvO 25 24,
⟨(some 26), (some (25, false)), .faddr 3 (.t 2)⟩,
⟨(some 27), (some (25, false)), .load 1 false (.t 26)⟩,
⟨(some 28), (some (25, false)), .lenV (.t 27)⟩,
⟨(some 29), (some (25, false)), .faddr 3 (.t 3)⟩,
⟨(some 30), (some (25, false)), .load 1 false (.t 29)⟩,
⟨(some 31), (some (25, false)), .lenV (.t 30)⟩,
⟨(some 32), (some (25, false)), .ibin .neq .i64 (.t 28) (.t 31)⟩,
opO 33 (.pick (.t 25) (.c (.bool true)) (.t 32))] (some [2, 3, 33]))
(.cond (.t 33)
(.seq (.ops [bO 4 false] none)
.ret)
.skip))
(.seq (.seq (.ops [mO 5 0] none)
(.block 0 (.loop (.seq (.seq (.ops [mvO 34 5,
fO 35 3 2,
lO 36 1 35,
nO 37 36,
sO 38 34 37] (some [2, 3, 5, 38]))
(.cond (.t 38)
.skip
(.exit 0)))
(.seq (.block 1 (.seq (.draw (.rd 0 (fO 41 3 2)
(.rd 1 (lO 42 1 41)
(.rd 2 (mvO 43 5)
(.rd 3 (iO 44 3 42 43)
(.rd 4 (lA 45 3 44)
(.rd 5 (fO 46 3 3)
(.rd 6 (lO 47 1 46)
(.rd 7 (mvO 48 5)
(.rd 8 (iO 49 3 47 48)
(.rd 9 (lA 50 3 49)
(.rd 10 (opO 51 (.eqv (.fld 0 1 (.int .i64) (.fld 1 1 (.int .i64) (.fld 2 1 (.int .i64) .nil))) true (.t 45) (.t 50)))
.fin))))))))))) (some [2, 3, 5, 51]))
(.cond (.t 51)
(.seq (.ops [bO 4 false] none)
.ret)
.skip)))
(.ops [mvO 39 5,
pO 40 39 1,
mvO 5 40] (some [2, 3, 5])))))))
(.seq (.ops [bO 4 true] none)
.ret))))⟩
def ir470 : IFn := ⟨39, [.t 0],
(.seq (.ops [bO 0 false] (some []))
(.seq (.ops [opO 7 (.call 207 []),
opO 8 (.call 208 []),
opO 9 (.call 206 [(.t 7), (.t 8)]),
mvO 6 9,
xO 10 0 6,
xO 11 1 6,
xO 12 2 6,
mvO 1 10,
mvO 2 11,
mvO 3 12] (some [1, 2, 3]))
(.seq (.ops [opO 14 (.bslice 3 1 [(.int .i64 0)] [(0, 1, (ci 12)), (1, 1, (ci 12)), (2, 1, (ci 3))]),
opO 15 (.bslice 3 1 [(.int .i64 0)] [(0, 1, (ci 5)), (1, 1, (ci 10)), (2, 1, (ci 5))]),
opO 16 (.call 201 [(.t 14), (.t 15)]),
mvO 13 16,
xO 17 0 13,
xO 18 1 13,
opO 4 (.alloc [(.int .i64 0), (.int .i64 0), (.int .i64 0)]),
⟨none, none, .store 3 (.t 4) (.t 17)⟩,
mvO 5 18] (some [1, 2, 3, 4, 5]))
(.seq (.ops [mvO 19 3,
opO 20 (.ibin .eql .i64 (.t 19) (ci 0)),
mvO 21 20,
⟨(some 22), (some (21, true)), .mov (.t 2)⟩,
⟨(some 23), (some (21, true)), .ibin .eql .i64 (.t 22) (ci 30)⟩,
opO 24 (.pick (.t 21) (.t 23) (.c (.bool false))),
mvO 25 24,
⟨(some 26), (some (25, true)), .mov (.t 1)⟩,
⟨(some 27), (some (25, true)), .bslice 2 1 [(.int .i64 0)] [(0, 1, (ci 0)), (1, 1, (ci 2))]⟩,
⟨(some 28), (some (25, true)), .call 26 [(.t 26), (.t 27)]⟩,
opO 29 (.pick (.t 25) (.t 28) (.c (.bool false))),
mvO 30 29,
⟨(some 31), (some (30, true)), .mov (.t 5)⟩,
⟨(some 32), (some (30, true)), .ibin .eql .i64 (.t 31) (ci 0)⟩,
opO 33 (.pick (.t 30) (.t 32) (.c (.bool false))),
mvO 34 33,
⟨(some 35), (some (34, true)), .load 3 true (.t 4)⟩,
⟨(some 36), (some (34, true)), .build [(.int .i64 0), (.int .i64 0), (.int .i64 0)] [(0, 1, (ci 18)), (1, 1, (ci 9)), (2, 1, (ci 2))]⟩,
⟨(some 37), (some (34, true)), .eqv (.fld 0 1 (.int .i64) (.fld 1 1 (.int .i64) (.fld 2 1 (.int .i64) .nil))) false (.t 35) (.t 36)⟩,
opO 38 (.pick (.t 34) (.t 37) (.c (.bool false))),
mvO 0 38] (some [0]))
.ret))))⟩
def ir471 : IFn := ⟨20, [.t 2],
(.seq (.ops [opO 2 (.mov (.c (.string ⟨#[]⟩)))] (some [0]))
(.seq (.ops [opO 3 (.mov (.c (.slice none 0 0)))] none)
(.seq (.seq (.ops [mvO 6 0,
nO 7 6,
mO 8 0] (some [3, 6, 7, 8]))
(.block 0 (.loop (.seq (.ops [sO 9 8 7] none)
(.seq (.cond (.t 9)
.skip
(.exit 0))
(.seq (.block 1 (.seq (.ops [iO 10 1 6 8,
lO 11 1 10,
mvO 5 11] (some [3, 5, 6, 7, 8]))
(.ops [mvO 12 3,
mvO 13 5,
cO 14 385 13,
opO 15 (.bslice 1 1 [(.string ⟨#[]⟩)] [(0, 1, (.t 14))]),
opO 16 (.append 1 16 (.t 12) (.t 15)),
mvO 3 16] (some [3, 6, 7, 8]))))
(.ops [pO 17 8 1,
mvO 8 17] (some [3, 6, 7, 8]))))))))
(.seq (.ops [mvO 18 3,
opO 19 (.call 384 [(.t 18), (.c (.string ⟨#[32]⟩))]),
mvO 2 19] (some [2]))
.ret))))⟩
def ir472 : IFn := ⟨63, [.t 4],
(.seq (.ops [bO 4 false] (some [0, 1]))
(.seq (.seq (.ops [mvO 9 0,
nO 10 9,
mvO 11 1,
nO 12 11,
opO 13 (.ibin .neq .i64 (.t 10) (.t 12))] (some [0, 1, 13]))
(.cond (.t 13)
(.seq (.ops [bO 4 false] none)
.ret)
.skip))
(.seq (.seq (.ops [mvO 14 1,
nO 15 14,
mO 16 0] (some [0, 14, 15, 16]))
(.block 0 (.loop (.seq (.ops [sO 17 16 15] none)
(.seq (.cond (.t 17)
.skip
(.exit 0))
(.seq (.block 1 (.seq (.ops [mvO 18 16,
iO 19 2 14 16,
lA 20 2 19,
opO 6 (.alloc [(.pointer none), (.bool false)]),
mvO 5 18,
⟨none, none, .store 2 (.t 6) (.t 20)⟩] (some [0, 5, 6, 14, 15, 16]))
(.seq (.ops [mvO 22 0,
mvO 23 5,
iO 24 1 22 23,
lO 25 1 24,
cO 26 394 25,
mvO 21 26,
xO 27 0 21,
xO 28 1 21,
mvO 7 27,
mvO 8 28] (some [0, 5, 6, 7, 8, 14, 15, 16]))
(.seq (.seq (.draw (.rd 0 (mvO 29 8)
(.rd 1 (opO 30 (.nileq .ifc true (.t 29)))
(.rd 2 (mvO 31 30)
(.rd 3 ⟨(some 32), (some (31, false)), .mov (.t 7)⟩
(.rd 5 ⟨(some 34), (some (31, false)), .mov (.t 0)⟩
(.rd 6 ⟨(some 35), (some (31, false)), .mov (.t 5)⟩
(.rd 7 ⟨(some 36), (some (31, false)), .iaddr 1 (.t 34) (.t 35)⟩
(.rd 8 ⟨(some 37), (some (31, false)), .load 1 false (.t 36)⟩
(.wr 4 ⟨(some 33), (some (31, false)), .call 385 [(.t 32)]⟩ [3, 2, 2]
(.rd 9 ⟨(some 38), (some (31, false)), .sbin .neq (.t 33) (.t 37)⟩
(.rd 10 (opO 39 (.pick (.t 31) (.c (.bool true)) (.t 38)))
(.rd 11 (mvO 40 39)
(.rd 12 ⟨(some 41), (some (40, false)), .mov (.t 7)⟩
(.rd 13 ⟨(some 42), (some (40, false)), .ibin .lss .i64 (.t 41) (ci 0)⟩
(.rd 14 ⟨(some 43), (some (40, false)), .mov (.t 42)⟩
(.rd 15 ⟨(some 44), (some (43, true)), .faddr 1 (.t 6)⟩
(.rd 16 ⟨(some 45), (some (43, true)), .load 1 false (.t 44)⟩
(.rd 17 ⟨(some 46), (some (43, true)), .un .not (.t 45)⟩
(.rd 18 ⟨(some 47), (some (40, false)), .pick (.t 43) (.t 46) (.c (.bool false))⟩
(.rd 19 (opO 48 (.pick (.t 40) (.c (.bool true)) (.t 47)))
(.rd 20 (mvO 49 48)
(.rd 21 ⟨(some 50), (some (49, false)), .mov (.t 0)⟩
(.rd 22 ⟨(some 51), (some (49, false)), .mov (.t 5)⟩
(.rd 23 ⟨(some 52), (some (49, false)), .iaddr 1 (.t 50) (.t 51)⟩
(.rd 24 ⟨(some 53), (some (49, false)), .load 1 false (.t 52)⟩
(.wr 25 ⟨(some 54), (some (49, false)), .call 395 [(.t 53), (.c (.string ⟨#[45]⟩))]⟩ [24, 20, 20]
(.rd 26 ⟨(some 55), (some (49, false)), .lenS (.t 54)⟩
(.rd 27 ⟨(some 56), (some (49, false)), .ibin .gtr .i64 (.t 55) (ci 7)⟩
(.rd 28 (opO 57 (.pick (.t 49) (.c (.bool true)) (.t 56)))
.fin))) .no))))))))))))))))) .no))))))))) (some [0, 6, 7, 14, 15, 16, 57]))
(.cond (.t 57)
(.seq (.ops [bO 4 false] none)
.ret)
.skip))
(.ops [fO 58 0 6,
lO 59 1 58,
mvO 60 7,
opO 61 (.nilchk (.t 59)),
⟨none, none, .store 1 (.t 61) (.t 60)⟩] (some [0, 14, 15, 16]))))))
(.ops [pO 62 16 1,
mvO 16 62] (some [0, 14, 15, 16]))))))))
(.seq (.ops [bO 4 true] none)
.ret))))⟩
end Go.Proofs.YtolapannkcdeeaaGreatDoor.AM
