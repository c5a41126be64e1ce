/- The functions in the small language. Conditions: none. -/
import Derived.Test.YtgfglinlmnbjbaaGreatAmFn
namespace Go.Proofs.YtgfglinlmnbjbaaGreat.AM
set_option linter.unusedSimpArgs false
set_option linter.unusedVariables false
open Go Go.RowKit
abbrev mvO (d x : Nat) : IOpG := ⟨some d, none, .mov (.t x)⟩
abbrev opO (d : Nat) (x : IOp) : IOpG := ⟨some d, none, x⟩
abbrev ci (n : Int) : Opd := .c (.int .i64 n)
abbrev lO (d n x : Nat) : IOpG := opO d (.load n false (.t x))
abbrev lA (d n x : Nat) : IOpG := opO d (.load n true (.t x))
abbrev fO (d n x : Nat) : IOpG := opO d (.faddr n (.t x))
abbrev mO (d : Nat) (n : Int) : IOpG := opO d (.mov (ci n))
abbrev nO (d x : Nat) : IOpG := opO d (.lenV (.t x))
abbrev xO (d i x : Nat) : IOpG := opO d (.extract i (.t x))
abbrev iO (d z x i : Nat) : IOpG := opO d (.iaddr z (.t x) (.t i))
abbrev pO (d x : Nat) (n : Int) : IOpG := opO d (.ibin .add .i64 (.t x) (ci n))
abbrev sO (d x y : Nat) : IOpG := opO d (.ibin .lss .i64 (.t x) (.t y))
abbrev cO (d k x : Nat) : IOpG := opO d (.call k [.t x])
abbrev bO (d : Nat) (b : Bool) : IOpG := opO d (.mov (.c (.bool b)))
def ir10 : IFn := ⟨66, [.t 0],
(.seq (.ops [bO 0 false] (some []))
(.seq (.ops [opO 10 (.call 60 []),
opO 11 (.call 55 [(.t 10), (ci 3)]),
mvO 9 11,
xO 12 0 9,
xO 13 1 9,
opO 1 (.alloc (List.replicate 6 (.int .i64 0))),
⟨none, none, .store 6 (.t 1) (.t 12)⟩,
mvO 2 13] (some [1, 2]))
(.seq (.ops [opO 15 (.call 61 []),
opO 16 (.bslice 3 1 [(.int .i64 0)] [(0, 1, (ci 60)), (1, 1, (ci 20)), (2, 1, (ci 10))]),
opO 17 (.call 36 [(.t 15), (.t 16)]),
mvO 14 17,
xO 18 0 14,
xO 19 1 14,
opO 3 (.alloc [(.int .i64 0), (.int .i64 0), (.int .i64 0)]),
⟨none, none, .store 3 (.t 3) (.t 18)⟩,
mvO 4 19] (some [1, 2, 3, 4]))
(.seq (.ops [opO 21 (.call 62 []),
cO 22 22 21,
mvO 20 22,
xO 23 0 20,
xO 24 1 20,
mvO 5 23,
mvO 6 24] (some [1, 2, 3, 4, 5, 6]))
(.seq (.ops [opO 26 (.bslice 2 1 [(.int .i64 0)] [(0, 1, (ci 1000)), (1, 1, (ci 500))]),
opO 27 (.bslice 2 1 [(.int .i64 0)] [(0, 1, (ci 300)), (1, 1, (ci 100))]),
opO 28 (.build [(.slice none 0 0), (.slice none 0 0)] [(0, 1, (.t 26)), (1, 1, (.t 27))]),
opO 29 (.call 13 [(.t 28), (ci 2)]),
mvO 25 29,
xO 30 0 25,
xO 31 1 25,
mvO 7 30,
mvO 8 31] (some [1, 2, 3, 4, 5, 6, 7, 8]))
(.seq (.ops [mvO 32 2,
opO 33 (.ibin .eql .i64 (.t 32) (ci 0)),
mvO 34 33,
⟨(some 35), (some (34, true)), .load 6 true (.t 1)⟩,
⟨(some 36), (some (34, true)), .build (List.replicate 5 (.int .i64 0)) [(0, 1, (ci 3020)), (1, 1, (ci 87))]⟩,
⟨(some 37), (some (34, true)), .build (List.replicate 6 (.int .i64 0)) [(0, 1, (ci 30)), (1, 5, (.t 36))]⟩,
⟨(some 38), (some (34, true)), .eqv (.fld 0 1 (.int .i64) (.fld 1 5 (.fld 0 1 (.int .i64) (.fld 1 1 (.int .i64) (.fld 2 1 (.int .i64) (.fld 3 1 (.int .i64) (.fld 4 1 (.int .i64) .nil))))) .nil)) false (.t 35) (.t 37)⟩,
opO 39 (.pick (.t 34) (.t 38) (.c (.bool false))),
mvO 40 39,
⟨(some 41), (some (40, true)), .mov (.t 4)⟩,
⟨(some 42), (some (40, true)), .ibin .eql .i64 (.t 41) (ci 0)⟩,
opO 43 (.pick (.t 40) (.t 42) (.c (.bool false))),
mvO 44 43,
⟨(some 45), (some (44, true)), .load 3 true (.t 3)⟩,
⟨(some 46), (some (44, true)), .build [(.int .i64 0), (.int .i64 0), (.int .i64 0)] [(0, 1, (ci 1)), (1, 1, (ci 2)), (2, 1, (ci 10))]⟩,
⟨(some 47), (some (44, true)), .eqv (.fld 0 1 (.int .i64) (.fld 1 1 (.int .i64) (.fld 2 1 (.int .i64) .nil))) false (.t 45) (.t 46)⟩,
opO 48 (.pick (.t 44) (.t 47) (.c (.bool false))),
mvO 49 48,
⟨(some 50), (some (49, true)), .mov (.t 6)⟩,
⟨(some 51), (some (49, true)), .ibin .eql .i64 (.t 50) (ci 0)⟩,
opO 52 (.pick (.t 49) (.t 51) (.c (.bool false))),
mvO 53 52,
⟨(some 54), (some (53, true)), .mov (.t 5)⟩,
⟨(some 55), (some (53, true)), .bslice 2 1 [(.int .i64 0)] [(0, 1, (ci 0)), (1, 1, (ci 2))]⟩,
⟨(some 56), (some (53, true)), .call 26 [(.t 54), (.t 55)]⟩,
opO 57 (.pick (.t 53) (.t 56) (.c (.bool false))),
mvO 58 57,
⟨(some 59), (some (58, true)), .mov (.t 8)⟩,
⟨(some 60), (some (58, true)), .ibin .eql .i64 (.t 59) (ci 0)⟩,
opO 61 (.pick (.t 58) (.t 60) (.c (.bool false))),
mvO 62 61,
⟨(some 63), (some (62, true)), .mov (.t 7)⟩,
⟨(some 64), (some (62, true)), .ibin .eql .i64 (.t 63) (ci 9)⟩,
opO 65 (.pick (.t 62) (.t 64) (.c (.bool false))),
mvO 0 65] (some [0]))
.ret))))))⟩
def ir11 : IFn := ⟨51, [.t 2, .t 3],
(.seq (.ops [opO 1 (.box (.t 0)),
mO 2 0,
mO 3 0] (some [1]))
(.seq (.ops [fO 8 0 1,
lO 9 1 8,
nO 10 9,
mvO 4 10] (some [1, 4]))
(.seq (.seq (.ops [mvO 11 4,
opO 12 (.ibin .gtr .i64 (.t 11) (ci 0)),
mvO 13 12,
⟨(some 14), (some (13, true)), .faddr 1 (.t 1)⟩,
⟨(some 15), (some (13, true)), .load 1 false (.t 14)⟩,
⟨(some 16), (some (13, true)), .lenV (.t 15)⟩,
⟨(some 17), (some (13, true)), .mov (.t 4)⟩,
⟨(some 18), (some (13, true)), .ibin .eql .i64 (.t 16) (.t 17)⟩,
opO 19 (.pick (.t 13) (.t 18) (.c (.bool false))),
opO 20 (.call 64 [(.t 19), (ci 10)]),
mvO 21 4,
opO 22 (.ibin .leq .i64 (.t 21) (ci 20)),
opO 23 (.call 64 [(.t 22), (ci 8)]),
opO 24 (.bslice 2 1 [(.int .i64 0)] [(0, 1, (.t 20)), (1, 1, (.t 23))]),
cO 25 63 24,
mvO 5 25] (some [1, 5]))
(.seq (.ops [mvO 26 5,
opO 27 (.ibin .neq .i64 (.t 26) (ci 0))] (some [1, 5, 27]))
(.cond (.t 27)
(.seq (.ops [mvO 28 5,
mO 2 0,
mvO 3 28] (some [2, 3]))
.ret)
.skip)))
(.seq (.seq (.ops [fO 29 0 1,
lO 30 1 29,
nO 31 30,
mO 32 0] (some [1, 30, 31, 32]))
(.block 0 (.loop (.seq (.ops [sO 33 32 31] none)
(.seq (.cond (.t 33)
.skip
(.exit 0))
(.seq (.block 1 (.seq (.ops [mvO 34 32,
iO 35 1 30 32,
lO 36 1 35,
mvO 6 34,
mvO 7 36] (some [1, 6, 7, 30, 31, 32]))
(.seq (.ops [mvO 37 7,
opO 38 (.call 65 [(.t 37), (ci 0), (ci 1000000000)]),
opO 39 (.un .not (.t 38)),
mvO 40 39,
⟨(some 41), (some (40, false)), .faddr 1 (.t 1)⟩,
⟨(some 42), (some (40, false)), .load 1 false (.t 41)⟩,
⟨(some 43), (some (40, false)), .mov (.t 6)⟩,
⟨(some 44), (some (40, false)), .iaddr 1 (.t 42) (.t 43)⟩,
⟨(some 45), (some (40, false)), .load 1 false (.t 44)⟩,
⟨(some 46), (some (40, false)), .call 65 [(.t 45), (ci 1), (ci 1000000000)]⟩,
⟨(some 47), (some (40, false)), .un .not (.t 46)⟩,
opO 48 (.pick (.t 40) (.c (.bool true)) (.t 47))] (some [1, 6, 30, 31, 32, 48]))
(.cond (.t 48)
(.seq (.ops [mvO 49 6,
mvO 2 49,
mO 3 2] (some [2, 3]))
.ret)
.skip))))
(.ops [pO 50 32 1,
mvO 32 50] (some [1, 30, 31, 32]))))))))
(.seq (.ops [mO 2 0,
mO 3 0] none)
.ret)))))⟩
def ir13 : IFn := ⟨56, [.t 4, .t 5],
(.seq (.ops [opO 2 (.box (.t 0)),
mO 4 0,
mO 5 0] (some [1, 2]))
(.seq (.ops [lA 12 2 2,
cO 13 11 12,
mvO 11 13,
xO 14 0 11,
xO 15 1 11,
mvO 6 14,
mvO 7 15] (some [1, 2, 7]))
(.seq (.seq (.ops [mvO 16 7,
mvO 17 1,
fO 18 0 2,
lO 19 1 18,
nO 20 19,
opO 21 (.call 65 [(.t 17), (ci 0), (.t 20)]),
opO 22 (.call 64 [(.t 21), (ci 2)]),
opO 23 (.bslice 2 1 [(.int .i64 0)] [(0, 1, (.t 16)), (1, 1, (.t 22))]),
cO 24 63 23,
mvO 7 24] (some [1, 2, 7]))
(.seq (.ops [mvO 25 7,
opO 26 (.ibin .neq .i64 (.t 25) (ci 0))] (some [1, 2, 7, 26]))
(.cond (.t 26)
(.seq (.ops [mvO 27 7,
mO 4 0,
mvO 5 27] (some [4, 5]))
.ret)
.skip)))
(.seq (.ops [mO 8 0] none)
(.seq (.seq (.ops [fO 28 0 2,
lO 29 1 28,
mvO 30 1,
opO 31 (.sliceV 1 (.t 29) none (some (.t 30)) none),
nO 32 31,
mO 33 0] (some [2, 8, 31, 32, 33]))
(.block 0 (.loop (.seq (.ops [sO 34 33 32] none)
(.seq (.cond (.t 34)
.skip
(.exit 0))
(.seq (.block 1 (.seq (.ops [mvO 35 33,
iO 36 1 31 33,
lO 37 1 36,
mvO 9 35,
mvO 10 37] (some [2, 8, 9, 10, 31, 32, 33]))
(.draw (.rd 0 (mvO 38 8)
(.rd 1 (mvO 39 10)
(.rd 2 (fO 40 1 2)
(.rd 3 (lO 41 1 40)
(.rd 4 (mvO 42 9)
(.rd 5 (iO 43 1 41 42)
(.rd 6 (lO 44 1 43)
(.rd 7 (opO 45 (.ibin .add .i64 (.t 39) (.t 44)))
(.rd 8 (opO 46 (.ibin .sub .i64 (.t 45) (ci 1)))
(.rd 9 (fO 47 1 2)
(.rd 10 (lO 48 1 47)
(.rd 11 (mvO 49 9)
(.rd 12 (iO 50 1 48 49)
(.rd 13 (lO 51 1 50)
(.rd 14 (opO 52 (.ibin .quo .i64 (.t 46) (.t 51)))
(.rd 15 (opO 53 (.ibin .add .i64 (.t 38) (.t 52)))
(.wr 16 (mvO 8 53) [15, 0, 1, 2, 3, 4, 5, 6, 7, 8, 9, 10, 11, 12, 13, 14, 15]
.fin .no))))))))))))))))) (some [2, 8, 31, 32, 33]))))
(.ops [pO 54 33 1,
mvO 33 54] (some [2, 8, 31, 32, 33]))))))))
(.seq (.ops [mvO 55 8,
mvO 4 55,
mO 5 0] (some [4, 5]))
.ret))))))⟩
def ir15 : IFn := ⟨15, [.t 6],
(.seq (.ops [bO 6 false] (some [0, 1, 2]))
(.seq (.ops [mvO 7 1,
mvO 8 0,
opO 9 (.ibin .leq .i64 (.t 7) (.t 8)),
mvO 10 9,
⟨(some 11), (some (10, true)), .mov (.t 0)⟩,
⟨(some 12), (some (10, true)), .mov (.t 2)⟩,
⟨(some 13), (some (10, true)), .ibin .leq .i64 (.t 11) (.t 12)⟩,
opO 14 (.pick (.t 10) (.t 13) (.c (.bool false))),
mvO 6 14] (some [6]))
.ret))⟩
def ir20 : IFn := ⟨31, [.t 2, .t 3],
(.seq (.ops [opO 1 (.box (.t 0)),
mO 2 0,
mO 3 0] (some [1]))
(.seq (.seq (.ops [fO 7 0 1,
lO 8 1 7,
nO 9 8,
opO 10 (.ibin .gtr .i64 (.t 9) (ci 20)),
mvO 11 10,
⟨(some 12), (some (11, false)), .faddr 1 (.t 1)⟩,
⟨(some 13), (some (11, false)), .load 1 false (.t 12)⟩,
⟨(some 14), (some (11, false)), .lenV (.t 13)⟩,
⟨(some 15), (some (11, false)), .ibin .gtr .i64 (.t 14) (ci 40)⟩,
opO 16 (.pick (.t 11) (.c (.bool true)) (.t 15))] (some [1, 16]))
(.cond (.t 16)
(.seq (.ops [mO 2 0,
mO 3 8] none)
.ret)
.skip))
(.seq (.ops [opO 4 (.alloc [.nilFunc]),
⟨none, none, .store 1 (.t 4) (.f 67)⟩] none)
(.seq (.seq (.ops [fO 17 0 1,
lO 18 1 17,
opO 19 (.mkfunc 69 [] [(.t 4)]),
opO 20 (.call 68 [(.t 18), (.t 19)]),
mvO 5 20] (some [1, 4, 5]))
(.seq (.ops [mvO 21 5,
opO 22 (.ibin .geq .i64 (.t 21) (ci 0))] (some [1, 4, 5, 22]))
(.cond (.t 22)
(.seq (.ops [mvO 23 5,
mvO 2 23,
mO 3 2] (some [2, 3]))
.ret)
.skip)))
(.seq (.seq (.ops [fO 24 1 1,
lO 25 1 24,
opO 26 (.mkfunc 71 [] [(.t 4)]),
opO 27 (.call 70 [(.t 25), (.t 26)]),
mvO 6 27] (some [6]))
(.seq (.ops [mvO 28 6,
opO 29 (.ibin .geq .i64 (.t 28) (ci 0))] (some [6, 29]))
(.cond (.t 29)
(.seq (.ops [mvO 30 6,
mvO 2 30,
mO 3 2] (some [2, 3]))
.ret)
.skip)))
(.seq (.ops [mO 2 0,
mO 3 0] none)
.ret))))))⟩
def ir22 : IFn := ⟨54, [.t 2, .t 3],
(.seq (.ops [opO 1 (.box (.t 0)),
opO 2 (.mov (.c (.slice none 0 0))),
mO 3 0] (some [1]))
(.seq (.ops [lA 13 2 1,
cO 14 72 13,
mvO 12 14,
xO 15 0 12,
xO 16 1 12,
xO 17 2 12,
opO 4 (.alloc [(.slice none 0 0), (.slice none 0 0)]),
⟨none, none, .store 2 (.t 4) (.t 15)⟩,
mvO 5 16,
mvO 6 17] (some [4, 5, 6]))
(.seq (.seq (.ops [mvO 18 6,
opO 19 (.ibin .neq .i64 (.t 18) (ci 0))] (some [4, 5, 6, 19]))
(.cond (.t 19)
(.seq (.ops [mvO 20 6,
opO 2 (.mov (.c (.slice none 0 0))),
mvO 3 20] (some [2, 3]))
.ret)
.skip))
(.seq (.ops [opO 7 (.mov (.c (.slice none 0 0)))] none)
(.seq (.seq (.ops [mO 8 0] none)
(.block 0 (.loop (.seq (.seq (.ops [mvO 21 7,
nO 22 21,
mvO 23 5,
nO 24 23,
sO 25 22 24] (some [4, 5, 7, 8, 25]))
(.cond (.t 25)
.skip
(.exit 0)))
(.seq (.block 1 (.seq (.ops [mvO 28 7,
cO 29 73 28,
mvO 30 8,
opO 31 (.bslice 1 1 [(.int .i64 0)] [(0, 1, (.t 30))]),
opO 32 (.append 1 8 (.t 29) (.t 31)),
mvO 9 32] (some [4, 5, 7, 8, 9]))
(.seq (.ops [lA 34 2 4,
mvO 35 9,
mvO 36 8,
pO 37 36 1,
opO 38 (.call 74 [(.t 34), (.t 35), (.t 37)]),
mvO 33 38,
xO 39 0 33,
xO 40 1 33,
mvO 10 39,
mvO 11 40] (some [4, 5, 7, 8, 9, 10, 11]))
(.seq (.ops [mvO 41 11,
mvO 42 41,
⟨(some 43), (some (42, true)), .mov (.t 9)⟩,
⟨(some 44), (some (42, true)), .lenV (.t 43)⟩,
⟨(some 45), (some (42, true)), .mov (.t 10)⟩,
⟨(some 46), (some (42, true)), .lenV (.t 45)⟩,
⟨(some 47), (some (42, true)), .ibin .add .i64 (.t 44) (.t 46)⟩,
⟨(some 48), (some (42, true)), .mov (.t 5)⟩,
⟨(some 49), (some (42, true)), .lenV (.t 48)⟩,
⟨(some 50), (some (42, true)), .ibin .leq .i64 (.t 47) (.t 49)⟩,
opO 51 (.pick (.t 42) (.t 50) (.c (.bool false)))] (some [4, 5, 7, 8, 9, 51]))
(.cond (.t 51)
(.ops [mvO 52 9,
mvO 7 52] (some [4, 5, 7, 8]))
.skip)))))
(.ops [mvO 26 8,
pO 27 26 1,
mvO 8 27] (some [4, 5, 7, 8])))))))
(.seq (.ops [mvO 53 7,
mvO 2 53,
mO 3 0] (some [2, 3]))
.ret))))))⟩
def ir26 : IFn := ⟨26, [.t 4],
(.seq (.ops [bO 4 false] (some [0, 1]))
(.seq (.seq (.ops [mvO 6 0,
nO 7 6,
mvO 8 1,
nO 9 8,
opO 10 (.ibin .neq .i64 (.t 7) (.t 9))] (some [0, 1, 10]))
(.cond (.t 10)
(.seq (.ops [bO 4 false] none)
.ret)
.skip))
(.seq (.seq (.ops [mO 5 0] none)
(.block 0 (.loop (.seq (.seq (.ops [mvO 11 5,
mvO 12 0,
nO 13 12,
sO 14 11 13] (some [0, 1, 5, 14]))
(.cond (.t 14)
.skip
(.exit 0)))
(.seq (.block 1 (.seq (.draw (.rd 0 (mvO 17 0)
(.rd 1 (mvO 18 5)
(.rd 2 (iO 19 1 17 18)
(.rd 3 (lO 20 1 19)
(.rd 4 (mvO 21 1)
(.rd 5 (mvO 22 5)
(.rd 6 (iO 23 1 21 22)
(.rd 7 (lO 24 1 23)
(.rd 8 (opO 25 (.ibin .neq .i64 (.t 20) (.t 24)))
.fin))))))))) (some [0, 1, 5, 25]))
(.cond (.t 25)
(.seq (.ops [bO 4 false] none)
.ret)
.skip)))
(.ops [mvO 15 5,
pO 16 15 1,
mvO 5 16] (some [0, 1, 5])))))))
(.seq (.ops [bO 4 true] none)
.ret))))⟩
def ir32 : IFn := ⟨19, [.t 2],
(.seq (.ops [opO 1 (.box (.t 0)),
mO 2 0] (some [1]))
(.seq (.seq (.ops [fO 3 0 1,
lO 4 1 3,
opO 5 (.call 15 [(.t 4), (ci 0), (ci 36000)]),
opO 6 (.un .not (.t 5)),
mvO 7 6,
⟨(some 8), (some (7, false)), .faddr 1 (.t 1)⟩,
⟨(some 9), (some (7, false)), .load 1 false (.t 8)⟩,
⟨(some 10), (some (7, false)), .call 15 [(.t 9), (ci (-50)), (ci 50)]⟩,
⟨(some 11), (some (7, false)), .un .not (.t 10)⟩,
opO 12 (.pick (.t 7) (.c (.bool true)) (.t 11)),
mvO 13 12,
⟨(some 14), (some (13, false)), .faddr 2 (.t 1)⟩,
⟨(some 15), (some (13, false)), .load 1 false (.t 14)⟩,
⟨(some 16), (some (13, false)), .call 15 [(.t 15), (ci (-2000)), (ci 2000)]⟩,
⟨(some 17), (some (13, false)), .un .not (.t 16)⟩,
opO 18 (.pick (.t 13) (.c (.bool true)) (.t 17))] (some [18]))
(.cond (.t 18)
(.seq (.ops [mO 2 2] none)
.ret)
.skip))
(.seq (.ops [mO 2 0] none)
.ret)))⟩
def ir33 : IFn := ⟨17, [.t 2],
(.seq (.ops [opO 1 (.box (.t 0)),
mO 2 0] (some [1]))
(.seq (.ops [fO 3 0 1,
lO 4 1 3,
opO 5 (.call 65 [(.t 4), (ci 0), (ci 36000)]),
mvO 6 5,
⟨(some 7), (some (6, true)), .faddr 1 (.t 1)⟩,
⟨(some 8), (some (6, true)), .load 1 false (.t 7)⟩,
⟨(some 9), (some (6, true)), .call 78 [(.t 8), (ci 50)]⟩,
opO 10 (.pick (.t 6) (.t 9) (.c (.bool false))),
mvO 11 10,
⟨(some 12), (some (11, true)), .faddr 2 (.t 1)⟩,
⟨(some 13), (some (11, true)), .load 1 false (.t 12)⟩,
⟨(some 14), (some (11, true)), .call 78 [(.t 13), (ci 2000)]⟩,
opO 15 (.pick (.t 11) (.t 14) (.c (.bool false))),
opO 16 (.call 64 [(.t 15), (ci 2)]),
mvO 2 16] (some [2]))
.ret))⟩
def ir34 : IFn := ⟨22, [.cell 2 5 true],
(.seq (.ops [opO 1 (.box (.t 0)),
opO 2 (.alloc (List.replicate 5 (.int .i64 0)))] (some [1, 2]))
(.seq (.ops [fO 4 0 1,
lO 5 1 4,
opO 6 (.ibin .rem .i64 (.t 5) (ci 360)),
opO 7 (.ibin .quo .i64 (.t 6) (ci 90)),
mvO 3 7] (some [1, 2, 3]))
(.seq (.draw (.rd 0 (fO 8 1 1)
(.rd 1 (lO 9 1 8)
(.rd 3 (mvO 11 3)
(.rd 7 (mvO 15 3)
(.rd 10 (fO 18 0 1)
(.rd 11 (lO 19 1 18)
(.rd 12 (opO 20 (.ibin .quo .i64 (.t 19) (ci 360)))
(.wr 2 (opO 10 (.bslice 4 1 [(.int .i64 0)] [(0, 1, (ci 1)), (1, 1, (ci 0)), (2, 1, (ci (-1))), (3, 1, (ci 0))])) []
(.rd 4 (iO 12 1 10 11)
(.rd 5 (lO 13 1 12)
(.wr 6 (opO 14 (.bslice 4 1 [(.int .i64 0)] [(0, 1, (ci 0)), (1, 1, (ci 1)), (2, 1, (ci 0)), (3, 1, (ci (-1)))])) []
(.rd 8 (iO 16 1 14 15)
(.rd 9 (lO 17 1 16)
(.rd 13 (opO 21 (.build (List.replicate 5 (.int .i64 0)) [(0, 1, (ci 1)), (1, 1, (.t 9)), (2, 1, (.t 13)), (3, 1, (.t 17)), (4, 1, (.t 20))]))
(.wr 14 ⟨none, none, .store 5 (.t 2) (.t 21)⟩ [13, 0, 1, 2, 3, 4, 5, 6, 7, 8, 9, 10, 11, 12, 13]
.fin .no)))) .no)))
(.wr 6 (opO 14 (.bslice 4 1 [(.int .i64 0)] [(0, 1, (ci 0)), (1, 1, (ci 1)), (2, 1, (ci 0)), (3, 1, (ci (-1)))])) []
(.rd 8 (iO 16 1 14 15)
(.rd 9 (lO 17 1 16)
(.wr 2 (opO 10 (.bslice 4 1 [(.int .i64 0)] [(0, 1, (ci 1)), (1, 1, (ci 0)), (2, 1, (ci (-1))), (3, 1, (ci 0))])) []
(.rd 4 (iO 12 1 10 11)
(.rd 5 (lO 13 1 12)
(.rd 13 (opO 21 (.build (List.replicate 5 (.int .i64 0)) [(0, 1, (ci 1)), (1, 1, (.t 9)), (2, 1, (.t 13)), (3, 1, (.t 17)), (4, 1, (.t 20))]))
(.wr 14 ⟨none, none, .store 5 (.t 2) (.t 21)⟩ [13, 0, 1, 2, 3, 4, 5, 6, 7, 8, 9, 10, 11, 12, 13]
.fin .no)))) .no))) .no))))))))) (some [2]))
.ret)))⟩
def ir36 : IFn := ⟨45, [.cell 4 3 true, .t 5],
(.seq (.ops [opO 2 (.box (.t 0)),
opO 4 (.alloc [(.int .i64 0), (.int .i64 0), (.int .i64 0)]),
mO 5 0] (some [1, 2, 4]))
(.seq (.ops [lA 13 4 2,
cO 14 79 13,
mvO 12 14,
xO 15 0 12,
xO 16 1 12,
opO 6 (.alloc [(.slice none 0 0), (.slice none 0 0), (.int .i64 0), (.slice none 0 0)]),
⟨none, none, .store 4 (.t 6) (.t 15)⟩,
mvO 7 16] (some [1, 4, 6, 7]))
(.seq (.ops [mvO 17 1,
opO 18 (.call 80 [(.t 17), (.f 81)]),
mvO 8 18] (some [1, 4, 6, 7, 8]))
(.seq (.seq (.ops [mvO 19 7,
mvO 20 1,
nO 21 20,
opO 22 (.ibin .leq .i64 (.t 21) (ci 100)),
opO 23 (.call 64 [(.t 22), (ci 8)]),
mvO 24 8,
opO 25 (.un .not (.t 24)),
opO 26 (.call 64 [(.t 25), (ci 2)]),
opO 27 (.bslice 3 1 [(.int .i64 0)] [(0, 1, (.t 19)), (1, 1, (.t 23)), (2, 1, (.t 26))]),
cO 28 63 27,
mvO 7 28] (some [1, 4, 6, 7]))
(.seq (.ops [mvO 29 7,
opO 30 (.ibin .neq .i64 (.t 29) (ci 0))] (some [1, 4, 6, 7, 30]))
(.cond (.t 30)
(.seq (.ops [opO 31 (.build [(.int .i64 0), (.int .i64 0), (.int .i64 0)] []),
mvO 32 7,
⟨none, none, .store 3 (.t 4) (.t 31)⟩,
mvO 5 32] (some [4, 5]))
.ret)
.skip)))
(.seq (.ops [opO 9 (.alloc [(.int .i64 0), (.int .i64 0), (.int .i64 0)])] none)
(.seq (.seq (.ops [mvO 33 1,
nO 34 33,
mO 35 0] (some [4, 6, 9, 33, 34, 35]))
(.block 0 (.loop (.seq (.ops [sO 36 35 34] none)
(.seq (.cond (.t 36)
.skip
(.exit 0))
(.seq (.block 1 (.seq (.ops [iO 37 1 33 35,
lO 38 1 37,
mvO 11 38] (some [4, 6, 9, 11, 33, 34, 35]))
(.ops [lA 39 4 6,
lA 40 3 9,
mvO 41 11,
opO 42 (.call 83 [(.t 39), (.t 40), (.t 41)]),
⟨none, none, .store 3 (.t 9) (.t 42)⟩] (some [4, 6, 9, 33, 34, 35]))))
(.ops [pO 43 35 1,
mvO 35 43] (some [4, 6, 9, 33, 34, 35]))))))))
(.seq (.ops [lA 44 3 9,
⟨none, none, .store 3 (.t 4) (.t 44)⟩,
mO 5 0] (some [4, 5]))
.ret)))))))⟩
def ir43 : IFn := ⟨142, [.t 2, .t 3],
(.seq (.ops [opO 1 (.box (.t 0)),
mO 2 0,
mO 3 0] (some [1]))
(.seq (.ops [fO 17 0 1,
lO 18 1 17,
nO 19 18,
mvO 4 19] (some [1, 4]))
(.seq (.seq (.ops [mvO 20 4,
opO 21 (.ibin .gtr .i64 (.t 20) (ci 0)),
mvO 22 21,
⟨(some 23), (some (22, true)), .faddr 1 (.t 1)⟩,
⟨(some 24), (some (22, true)), .load 1 false (.t 23)⟩,
⟨(some 25), (some (22, true)), .lenV (.t 24)⟩,
⟨(some 26), (some (22, true)), .mov (.t 4)⟩,
⟨(some 27), (some (22, true)), .ibin .eql .i64 (.t 25) (.t 26)⟩,
opO 28 (.pick (.t 22) (.t 27) (.c (.bool false))),
opO 29 (.call 64 [(.t 28), (ci 10)]),
mvO 30 4,
opO 31 (.ibin .leq .i64 (.t 30) (ci 5)),
opO 32 (.call 64 [(.t 31), (ci 8)]),
opO 33 (.bslice 2 1 [(.int .i64 0)] [(0, 1, (.t 29)), (1, 1, (.t 32))]),
cO 34 63 33,
mvO 5 34] (some [1, 4, 5]))
(.seq (.ops [mvO 35 5,
opO 36 (.ibin .neq .i64 (.t 35) (ci 0))] (some [1, 4, 5, 36]))
(.cond (.t 36)
(.seq (.ops [mvO 37 5,
mO 2 0,
mvO 3 37] (some [2, 3]))
.ret)
.skip)))
(.seq (.ops [opO 6 (.mov (.f 85))] none)
(.seq (.seq (.ops [fO 38 0 1,
lO 39 1 38,
nO 40 39,
mO 41 0] (some [1, 4, 6, 39, 40, 41]))
(.block 0 (.loop (.seq (.ops [sO 42 41 40] none)
(.seq (.cond (.t 42)
.skip
(.exit 0))
(.seq (.block 1 (.seq (.ops [mvO 43 41,
iO 44 1 39 41,
lO 45 1 44,
mvO 7 43,
mvO 8 45] (some [1, 4, 6, 7, 8, 39, 40, 41]))
(.seq (.ops [fO 46 1 1,
lO 47 1 46,
mvO 48 7,
iO 49 1 47 48,
lO 50 1 49,
mvO 51 7,
opO 52 (.ibin .sub .i64 (.t 51) (ci 1)),
opO 53 (.minmax true (ci 0) [(.t 52)]),
mvO 9 50,
mvO 10 53] (some [1, 4, 6, 7, 8, 9, 10, 39, 40, 41]))
(.seq (.ops [mvO 54 6,
mvO 55 8,
opO 56 (.callv (.t 54) [(.t 55)]),
mvO 57 56,
⟨(some 58), (some (57, true)), .mov (.t 6)⟩,
⟨(some 59), (some (57, true)), .mov (.t 9)⟩,
⟨(some 60), (some (57, true)), .callv (.t 58) [(.t 59)]⟩,
opO 61 (.pick (.t 57) (.t 60) (.c (.bool false))),
opO 62 (.call 64 [(.t 61), (ci 2)]),
mvO 63 9,
mvO 64 8,
opO 65 (.ibin .leq .i64 (.t 63) (.t 64)),
opO 66 (.call 64 [(.t 65), (ci 3)]),
mvO 67 7,
opO 68 (.ibin .eql .i64 (.t 67) (ci 0)),
mvO 69 68,
⟨(some 70), (some (69, false)), .mov (.t 8)⟩,
⟨(some 71), (some (69, false)), .faddr 0 (.t 1)⟩,
⟨(some 72), (some (69, false)), .load 1 false (.t 71)⟩,
⟨(some 73), (some (69, false)), .mov (.t 10)⟩,
⟨(some 74), (some (69, false)), .iaddr 1 (.t 72) (.t 73)⟩,
⟨(some 75), (some (69, false)), .load 1 false (.t 74)⟩,
⟨(some 76), (some (69, false)), .ibin .gtr .i64 (.t 70) (.t 75)⟩,
⟨(some 77), (some (69, false)), .mov (.t 76)⟩,
⟨(some 78), (some (77, true)), .mov (.t 9)⟩,
⟨(some 79), (some (77, true)), .faddr 1 (.t 1)⟩,
⟨(some 80), (some (77, true)), .load 1 false (.t 79)⟩,
⟨(some 81), (some (77, true)), .mov (.t 10)⟩,
⟨(some 82), (some (77, true)), .iaddr 1 (.t 80) (.t 81)⟩,
⟨(some 83), (some (77, true)), .load 1 false (.t 82)⟩,
⟨(some 84), (some (77, true)), .ibin .geq .i64 (.t 78) (.t 83)⟩,
⟨(some 85), (some (69, false)), .pick (.t 77) (.t 84) (.c (.bool false))⟩,
opO 86 (.pick (.t 69) (.c (.bool true)) (.t 85)),
opO 87 (.call 64 [(.t 86), (ci 9)]),
opO 88 (.bslice 3 1 [(.int .i64 0)] [(0, 1, (.t 62)), (1, 1, (.t 66)), (2, 1, (.t 87))]),
cO 89 63 88,
mvO 11 89] (some [1, 4, 6, 7, 11, 39, 40, 41]))
(.seq (.ops [mvO 90 11,
opO 91 (.ibin .neq .i64 (.t 90) (ci 0))] (some [1, 4, 6, 7, 11, 39, 40, 41, 91]))
(.cond (.t 91)
(.seq (.ops [mvO 92 7,
mvO 93 11,
mvO 2 92,
mvO 3 93] (some [2, 3]))
.ret)
.skip))))))
(.ops [pO 94 41 1,
mvO 41 94] (some [1, 4, 6, 39, 40, 41]))))))))
(.seq (.seq (.draw (.rd 0 (fO 95 2 1)
(.rd 1 (lO 96 1 95)
(.rd 4 (fO 99 3 1)
(.rd 5 (lO 100 1 99)
(.rd 6 (nO 101 100)
(.rd 7 (opO 102 (.ibin .leq .i64 (.t 101) (ci 10)))
(.wr 2 (opO 97 (.call 65 [(.t 96), (ci 0), (ci 1000000)])) [1]
(.wr 3 (opO 98 (.call 64 [(.t 97), (ci 2)])) [2, 2]
(.wr 8 (opO 103 (.call 64 [(.t 102), (ci 8)])) [7, 3]
(.wr 9 (opO 104 (.bslice 2 1 [(.int .i64 0)] [(0, 1, (.t 98)), (1, 1, (.t 103))])) [3, 8]
(.wr 10 (cO 105 63 104) [9, 8]
(.rd 11 (mvO 12 105)
.fin) .no) .no) .no) .no) .no))))))) (some [1, 4, 12]))
(.seq (.ops [mvO 106 12,
opO 107 (.ibin .neq .i64 (.t 106) (ci 0))] (some [1, 4, 12, 107]))
(.cond (.t 107)
(.seq (.ops [mvO 108 12,
mO 2 0,
mvO 3 108] (some [2, 3]))
.ret)
.skip)))
(.seq (.seq (.ops [fO 109 3 1,
lO 110 1 109,
nO 111 110,
mO 112 0] (some [1, 4, 110, 111, 112]))
(.block 2 (.loop (.seq (.ops [sO 113 112 111] none)
(.seq (.cond (.t 113)
.skip
(.exit 2))
(.seq (.block 3 (.seq (.ops [mvO 114 112,
iO 115 2 110 112,
lA 116 2 115,
opO 14 (.alloc [(.string ⟨#[]⟩), (.int .i64 0)]),
mvO 13 114,
⟨none, none, .store 2 (.t 14) (.t 116)⟩] (some [1, 4, 13, 14, 110, 111, 112]))
(.seq (.ops [fO 117 3 1,
lO 118 1 117,
mvO 119 13,
opO 120 (.sliceV 2 (.t 118) none (some (.t 119)) none),
opO 121 (.mkfunc 87 [] [(.t 14)]),
opO 122 (.call 86 [(.t 120), (.t 121)]),
mvO 15 122] (some [1, 4, 13, 14, 15, 110, 111, 112]))
(.seq (.draw (.rd 0 (fO 123 0 14)
(.rd 1 (lO 124 1 123)
(.rd 4 (mvO 127 15)
(.rd 5 (opO 128 (.un .not (.t 127)))
(.rd 7 (fO 130 1 14)
(.rd 8 (lO 131 1 130)
(.rd 9 (mvO 132 4)
(.wr 2 (cO 125 88 124) [1]
(.wr 3 (opO 126 (.call 64 [(.t 125), (ci 4)])) [2, 2]
(.wr 6 (opO 129 (.call 64 [(.t 128), (ci 5)])) [5, 3]
(.wr 10 (opO 133 (.call 65 [(.t 131), (ci 1), (.t 132)])) [8, 9, 6]
(.wr 11 (opO 134 (.call 64 [(.t 133), (ci 2)])) [10, 10]
(.wr 12 (opO 135 (.bslice 3 1 [(.int .i64 0)] [(0, 1, (.t 126)), (1, 1, (.t 129)), (2, 1, (.t 134))])) [3, 6, 11]
(.wr 13 (cO 136 63 135) [12, 11]
(.rd 14 (mvO 16 136)
.fin) .no) .no) .no) .no) .no) .no) .no)))))))) (some [1, 4, 13, 16, 110, 111, 112]))
(.seq (.ops [mvO 137 16,
opO 138 (.ibin .neq .i64 (.t 137) (ci 0))] (some [1, 4, 13, 16, 110, 111, 112, 138]))
(.cond (.t 138)
(.seq (.ops [mvO 139 13,
mvO 140 16,
mvO 2 139,
mvO 3 140] (some [2, 3]))
.ret)
.skip))))))
(.ops [pO 141 112 1,
mvO 112 141] (some [1, 4, 110, 111, 112]))))))))
(.seq (.ops [mO 2 0,
mO 3 0] none)
.ret))))))))⟩
def ir51 : IFn := ⟨25, [.t 2],
(.seq (.ops [mO 2 0] (some [0]))
(.seq (.seq (.ops [mvO 5 0,
nO 6 5,
opO 7 (.ibin .eql .i64 (.t 6) (ci 0))] (some [0, 7]))
(.cond (.t 7)
(.seq (.ops [mO 2 10] none)
.ret)
.skip))
(.seq (.seq (.ops [mvO 8 0,
nO 9 8,
opO 10 (.ibin .gtr .i64 (.t 9) (ci 12))] (some [0, 10]))
(.cond (.t 10)
(.seq (.ops [mO 2 8] none)
.ret)
.skip))
(.seq (.seq (.ops [mO 3 0] none)
(.block 0 (.loop (.seq (.seq (.ops [mvO 11 3,
mvO 12 0,
nO 13 12,
sO 14 11 13] (some [0, 3, 14]))
(.cond (.t 14)
.skip
(.exit 0)))
(.seq (.block 1 (.seq (.ops [mvO 17 0,
mvO 18 3,
iO 19 3 17 18,
lA 20 3 19,
cO 21 32 20,
mvO 4 21] (some [0, 3, 4]))
(.seq (.ops [mvO 22 4,
opO 23 (.ibin .neq .i64 (.t 22) (ci 0))] (some [0, 3, 4, 23]))
(.cond (.t 23)
(.seq (.ops [mvO 24 4,
mvO 2 24] (some [2]))
.ret)
.skip))))
(.ops [mvO 15 3,
pO 16 15 1,
mvO 3 16] (some [0, 3])))))))
(.seq (.ops [mO 2 0] none)
.ret)))))⟩
def ir52 : IFn := ⟨6, [.t 2],
(.seq (.ops [mO 2 0] (some [0]))
(.seq (.seq (.ops [mvO 3 0,
opO 4 (.call 15 [(.t 3), (ci 1), (ci 31)]),
opO 5 (.un .not (.t 4))] (some [5]))
(.cond (.t 5)
(.seq (.ops [mO 2 2] none)
.ret)
.skip))
(.seq (.ops [mO 2 0] none)
.ret)))⟩
def ir53 : IFn := ⟨6, [.t 2],
(.seq (.ops [opO 2 (.mov (.c (.slice none 0 0)))] (some [0]))
(.seq (.ops [opO 3 (.bslice 0 3 [(.int .i64 0), (.int .i64 0), (.int .i64 0)] []),
mvO 4 0,
opO 5 (.append 3 24 (.t 3) (.t 4)),
mvO 2 5] (some [2]))
.ret))⟩
def ir55 : IFn := ⟨174, [.cell 4 6 true, .t 5],
(.seq (.ops [opO 4 (.alloc (List.replicate 6 (.int .i64 0))),
mO 5 0] (some [0, 1, 4]))
(.seq (.ops [mvO 26 1,
mvO 6 26] (some [0, 4, 6]))
(.seq (.seq (.ops [mvO 27 0,
cO 28 93 27,
mvO 29 6,
cO 30 94 29,
opO 31 (.bslice 2 1 [(.int .i64 0)] [(0, 1, (.t 28)), (1, 1, (.t 30))]),
cO 32 63 31,
mvO 7 32] (some [0, 4, 6, 7]))
(.seq (.ops [mvO 33 7,
opO 34 (.ibin .neq .i64 (.t 33) (ci 0))] (some [0, 4, 6, 7, 34]))
(.cond (.t 34)
(.seq (.ops [opO 35 (.build (List.replicate 6 (.int .i64 0)) []),
mvO 36 7,
⟨none, none, .store 6 (.t 4) (.t 35)⟩,
mvO 5 36] (some [4, 5]))
.ret)
.skip)))
(.seq (.ops [mvO 37 6,
cO 38 95 37,
mvO 8 38] (some [0, 4, 8]))
(.seq (.draw (.rd 0 (mvO 39 8)
(.rd 1 (nO 40 39)
(.rd 3 (mvO 42 8)
(.rd 4 (nO 43 42)
(.wr 2 (opO 41 (.mslice 1 24 [(.slice none 0 0)] (.t 40) (.t 40))) [1, 1]
(.rd 6 (mvO 9 41)
(.wr 5 (opO 44 (.mslice 1 8 [(.int .i64 0)] (.t 43) (.t 43))) [4, 4]
(.rd 7 (mvO 10 44)
.fin) .no))
(.wr 5 (opO 44 (.mslice 1 8 [(.int .i64 0)] (.t 43) (.t 43))) [4, 4]
(.wr 2 (opO 41 (.mslice 1 24 [(.slice none 0 0)] (.t 40) (.t 40))) [1, 1]
(.rd 6 (mvO 9 41)
(.rd 7 (mvO 10 44)
.fin)) .no) .no)))))) (some [0, 4, 8, 9, 10]))
(.seq (.seq (.ops [mvO 45 8,
nO 46 45,
mO 47 0] none)
(.block 0 (.loop (.seq (.ops [sO 48 47 46] none)
(.seq (.cond (.t 48)
.skip
(.exit 0))
(.seq (.block 1 (.seq (.ops [mvO 49 47,
iO 50 1 45 47,
lO 51 1 50,
mvO 11 49,
mvO 12 51] (some [0, 4, 8, 9, 10, 11, 12, 45, 46, 47]))
(.seq (.ops [mvO 52 9,
mvO 53 11,
mvO 54 8,
nO 55 54,
opO 56 (.mslice 1 8 [(.int .i64 0)] (.t 55) (.t 55)),
iO 57 1 52 53,
⟨none, none, .store 1 (.t 57) (.t 56)⟩] (some [0, 4, 8, 9, 10, 11, 12, 45, 46, 47]))
(.seq (.ops [mvO 58 0,
nO 59 58,
mO 60 0] none)
(.block 2 (.loop (.seq (.ops [sO 61 60 59] none)
(.seq (.cond (.t 61)
.skip
(.exit 2))
(.seq (.block 3 (.seq (.ops [iO 62 3 58 60,
lA 63 3 62,
opO 14 (.alloc [(.int .i64 0), (.int .i64 0), (.int .i64 0)]),
⟨none, none, .store 3 (.t 14) (.t 63)⟩] (some [0, 4, 8, 9, 10, 11, 12, 14, 45, 46, 47, 58, 59, 60]))
(.seq (.ops [lA 64 3 14,
cO 65 77 64,
opO 15 (.alloc (List.replicate 5 (.int .i64 0))),
⟨none, none, .store 5 (.t 15) (.t 65)⟩] (some [0, 4, 8, 9, 10, 11, 12, 14, 15, 45, 46, 47, 58, 59, 60]))
(.seq (.draw (.rd 0 (mvO 66 10)
(.rd 1 (mvO 67 11)
(.rd 2 (iO 68 1 66 67)
(.rd 3 (lO 69 1 68)
(.rd 4 (mvO 70 12)
(.rd 5 (opO 71 (.iaddrA 5 1 (.t 15) (.t 70)))
(.rd 6 (lO 72 1 71)
(.rd 7 (fO 73 2 14)
(.rd 8 (lO 74 1 73)
(.rd 9 (opO 75 (.ibin .mul .i64 (.t 72) (.t 74)))
(.rd 10 (opO 76 (.ibin .add .i64 (.t 69) (.t 75)))
(.rd 11 (iO 77 1 66 67)
(.wr 12 ⟨none, none, .store 1 (.t 77) (.t 76)⟩ [11, 10, 0, 1, 2, 3, 4, 5, 6, 7, 8, 9, 10]
.fin .no))))))))))))) (some [0, 4, 8, 9, 10, 11, 12, 15, 45, 46, 47, 58, 59, 60]))
(.seq (.ops [mvO 78 8,
nO 79 78,
mO 80 0] none)
(.block 4 (.loop (.seq (.ops [sO 81 80 79] none)
(.seq (.cond (.t 81)
.skip
(.exit 4))
(.seq (.block 5 (.seq (.ops [mvO 82 80,
iO 83 1 78 80,
lO 84 1 83,
mvO 16 82,
mvO 17 84] (some [0, 4, 8, 9, 10, 11, 12, 15, 16, 17, 45, 46, 47, 58, 59, 60, 78, 79, 80]))
(.draw (.rd 0 (mvO 85 9)
(.rd 1 (mvO 86 11)
(.rd 2 (iO 87 1 85 86)
(.rd 3 (lO 88 1 87)
(.rd 4 (mvO 89 16)
(.rd 5 (iO 90 1 88 89)
(.rd 6 (lO 91 1 90)
(.rd 7 (mvO 92 12)
(.rd 8 (opO 93 (.iaddrA 5 1 (.t 15) (.t 92)))
(.rd 9 (lO 94 1 93)
(.rd 10 (mvO 95 17)
(.rd 11 (opO 96 (.iaddrA 5 1 (.t 15) (.t 95)))
(.rd 12 (lO 97 1 96)
(.rd 13 (opO 98 (.ibin .mul .i64 (.t 94) (.t 97)))
(.rd 14 (opO 99 (.ibin .add .i64 (.t 91) (.t 98)))
(.rd 15 (iO 100 1 88 89)
(.wr 16 ⟨none, none, .store 1 (.t 100) (.t 99)⟩ [15, 14, 0, 1, 2, 3, 4, 5, 6, 7, 8, 9, 10, 11, 12, 13, 14]
.fin .no))))))))))))))))) (some [0, 4, 8, 9, 10, 11, 12, 15, 45, 46, 47, 58, 59, 60, 78, 79, 80]))))
(.ops [pO 101 80 1,
mvO 80 101] (some [0, 4, 8, 9, 10, 11, 12, 15, 45, 46, 47, 58, 59, 60, 78, 79, 80]))))))))))))
(.ops [pO 102 60 1,
mvO 60 102] (some [0, 4, 8, 9, 10, 11, 12, 45, 46, 47, 58, 59, 60])))))))))))
(.ops [pO 103 47 1,
mvO 47 103] (some [0, 4, 8, 9, 10, 45, 46, 47]))))))))
(.seq (.ops [mvO 104 9,
cO 105 96 104,
opO 106 (.build (List.replicate 6 (.int .i64 0)) [(0, 1, (.t 105))]),
opO 18 (.alloc (List.replicate 6 (.int .i64 0))),
⟨none, none, .store 6 (.t 18) (.t 106)⟩] (some [4, 8, 9, 10, 18]))
(.seq (.seq (.ops [fO 107 0 18,
lO 108 1 107,
opO 109 (.ibin .eql .i64 (.t 108) (ci 0))] (some [4, 8, 9, 10, 18, 109]))
(.cond (.t 109)
(.seq (.ops [opO 110 (.build (List.replicate 6 (.int .i64 0)) []),
⟨none, none, .store 6 (.t 4) (.t 110)⟩,
mO 5 12] (some [4, 5]))
.ret)
.skip))
(.seq (.seq (.ops [mvO 111 8,
nO 112 111,
mO 113 0] (some [4, 9, 10, 18, 111, 112, 113]))
(.block 6 (.loop (.seq (.ops [sO 114 113 112] none)
(.seq (.cond (.t 114)
.skip
(.exit 6))
(.seq (.block 7 (.seq (.ops [mvO 115 113,
iO 116 1 111 113,
lO 117 1 116,
mvO 19 115,
mvO 20 117] (some [4, 9, 10, 18, 19, 20, 111, 112, 113]))
(.seq (.ops [mvO 118 9,
nO 119 118,
opO 120 (.mslice 1 24 [(.slice none 0 0)] (.t 119) (.t 119)),
mvO 21 120] (some [4, 9, 10, 18, 19, 20, 21, 111, 112, 113]))
(.seq (.seq (.ops [mvO 121 9,
nO 122 121,
mO 123 0] none)
(.block 8 (.loop (.seq (.ops [sO 124 123 122] none)
(.seq (.cond (.t 124)
.skip
(.exit 8))
(.seq (.block 9 (.seq (.ops [mvO 125 123,
iO 126 1 121 123,
lO 127 1 126,
mvO 22 125,
mvO 23 127] (some [4, 9, 10, 18, 19, 20, 21, 22, 23, 111, 112, 113, 121, 122, 123]))
(.seq (.ops [mvO 128 21,
mvO 129 22,
mvO 130 23,
cO 131 73 130,
iO 132 1 128 129,
⟨none, none, .store 1 (.t 132) (.t 131)⟩] (some [4, 9, 10, 18, 19, 20, 21, 22, 111, 112, 113, 121, 122, 123]))
(.draw (.rd 0 (mvO 133 21)
(.rd 1 (mvO 134 22)
(.rd 2 (iO 135 1 133 134)
(.rd 3 (lO 136 1 135)
(.rd 4 (mvO 137 19)
(.rd 5 (mvO 138 10)
(.rd 6 (mvO 139 22)
(.rd 7 (iO 140 1 138 139)
(.rd 8 (lO 141 1 140)
(.rd 9 (iO 142 1 136 137)
(.wr 10 ⟨none, none, .store 1 (.t 142) (.t 141)⟩ [9, 8, 0, 1, 2, 3, 4, 5, 6, 7, 8]
.fin .no))))))))))) (some [4, 9, 10, 18, 19, 20, 21, 111, 112, 113, 121, 122, 123])))))
(.ops [pO 143 123 1,
mvO 123 143] (some [4, 9, 10, 18, 19, 20, 21, 111, 112, 113, 121, 122, 123]))))))))
(.ops [mvO 144 20,
mvO 145 21,
cO 146 96 145,
fO 147 1 18,
opO 148 (.iaddrA 5 1 (.t 147) (.t 144)),
⟨none, none, .store 1 (.t 148) (.t 146)⟩] (some [4, 9, 10, 18, 111, 112, 113]))))))
(.ops [pO 149 113 1,
mvO 113 149] (some [4, 9, 10, 18, 111, 112, 113]))))))))
(.seq (.ops [lA 150 6 18,
cO 151 97 150,
mvO 24 151] (some [4, 18, 24]))
(.seq (.ops [fO 152 0 18,
lO 153 1 152,
mvO 154 24,
opO 155 (.ibin .quo .i64 (.t 153) (.t 154)),
fO 156 0 18,
⟨none, none, .store 1 (.t 156) (.t 155)⟩] (some [4, 18, 24]))
(.seq (.seq (.ops [mO 157 0] none)
(.block 10 (.loop (.seq (.ops [opO 158 (.ibin .lss .i64 (.t 157) (ci 5))] none)
(.seq (.cond (.t 158)
.skip
(.exit 10))
(.seq (.block 11 (.seq (.ops [mvO 159 157,
mvO 25 159] (some [4, 18, 24, 25, 157]))
(.ops [mvO 160 25,
fO 161 1 18,
opO 162 (.iaddrA 5 1 (.t 161) (.t 160)),
lO 163 1 162,
mvO 164 24,
opO 165 (.ibin .quo .i64 (.t 163) (.t 164)),
fO 166 1 18,
opO 167 (.iaddrA 5 1 (.t 166) (.t 160)),
⟨none, none, .store 1 (.t 167) (.t 165)⟩] (some [4, 18, 24, 157]))))
(.ops [pO 168 157 1,
mvO 157 168] (some [4, 18, 24, 157]))))))))
(.seq (.seq (.ops [lA 169 6 18,
cO 170 98 169,
opO 171 (.ibin .neq .i64 (.t 170) (ci 0))] (some [4, 18, 171]))
(.cond (.t 171)
(.seq (.ops [opO 172 (.build (List.replicate 6 (.int .i64 0)) []),
⟨none, none, .store 6 (.t 4) (.t 172)⟩,
mO 5 8] (some [4, 5]))
.ret)
.skip))
(.seq (.ops [lA 173 6 18,
⟨none, none, .store 6 (.t 4) (.t 173)⟩,
mO 5 0] (some [4, 5]))
.ret))))))))))))))⟩
def ir60 : IFn := ⟨5, [.t 0],
(.seq (.ops [opO 0 (.mov (.c (.slice none 0 0)))] (some []))
(.seq (.ops [opO 1 (.build [(.int .i64 0), (.int .i64 0), (.int .i64 0)] [(2, 1, (ci 100))]),
opO 2 (.build [(.int .i64 0), (.int .i64 0), (.int .i64 0)] [(1, 1, (ci 10)), (2, 1, (ci 130))]),
opO 3 (.build [(.int .i64 0), (.int .i64 0), (.int .i64 0)] [(1, 1, (ci (-10))), (2, 1, (ci 72))]),
opO 4 (.bslice 3 3 [(.int .i64 0), (.int .i64 0), (.int .i64 0)] [(0, 3, (.t 1)), (3, 3, (.t 2)), (6, 3, (.t 3))]),
mvO 0 4] (some [0]))
.ret))⟩
def ir61 : IFn := ⟨7, [.cell 0 4 true],
(.seq (.ops [opO 0 (.alloc [(.slice none 0 0), (.slice none 0 0), (.int .i64 0), (.slice none 0 0)])] none)
(.seq (.ops [opO 1 (.bslice 2 1 [(.int .i64 0)] [(0, 1, (ci 50)), (1, 1, (ci 100))]),
opO 2 (.bslice 2 1 [(.int .i64 0)] [(0, 1, (ci 30)), (1, 1, (ci 80))]),
opO 3 (.build [(.string ⟨#[]⟩), (.int .i64 0)] [(0, 1, (.c (.string ⟨#[97, 110, 110]⟩))), (1, 1, (ci 2))]),
opO 4 (.build [(.string ⟨#[]⟩), (.int .i64 0)] [(0, 1, (.c (.string ⟨#[98, 111, 98]⟩))), (1, 1, (ci 1))]),
opO 5 (.bslice 2 2 [(.string ⟨#[]⟩), (.int .i64 0)] [(0, 2, (.t 3)), (2, 2, (.t 4))]),
opO 6 (.build [(.slice none 0 0), (.slice none 0 0), (.int .i64 0), (.slice none 0 0)] [(0, 1, (.t 1)), (1, 1, (.t 2)), (2, 1, (ci 2)), (3, 1, (.t 5))]),
⟨none, none, .store 4 (.t 0) (.t 6)⟩] (some [0]))
.ret))⟩
def ir62 : IFn := ⟨7, [.cell 0 2 true],
(.seq (.ops [opO 0 (.alloc [(.slice none 0 0), (.slice none 0 0)])] none)
(.seq (.ops [opO 1 (.build [(.int .i64 0), (.int .i64 0)] [(0, 1, (ci 10)), (1, 1, (ci 10))]),
opO 2 (.build [(.int .i64 0), (.int .i64 0)] [(0, 1, (ci 30)), (1, 1, (ci 10))]),
opO 3 (.build [(.int .i64 0), (.int .i64 0)] [(0, 1, (ci 55)), (1, 1, (ci 15))]),
opO 4 (.bslice 3 2 [(.int .i64 0), (.int .i64 0)] [(0, 2, (.t 1)), (2, 2, (.t 2)), (4, 2, (.t 3))]),
opO 5 (.bslice 4 1 [(.int .i64 0)] [(0, 1, (ci 5)), (1, 1, (ci 20)), (2, 1, (ci 40)), (3, 1, (ci 60))]),
opO 6 (.build [(.slice none 0 0), (.slice none 0 0)] [(0, 1, (.t 4)), (1, 1, (.t 5))]),
⟨none, none, .store 2 (.t 0) (.t 6)⟩] (some [0]))
.ret))⟩
def ir63 : IFn := ⟨15, [.t 2],
(.seq (.ops [mO 2 0] (some [0]))
(.seq (.seq (.ops [mvO 5 0,
nO 6 5,
mO 7 0] (some [5, 6, 7]))
(.block 0 (.loop (.seq (.ops [sO 8 7 6] none)
(.seq (.cond (.t 8)
.skip
(.exit 0))
(.seq (.block 1 (.seq (.ops [iO 9 1 5 7,
lO 10 1 9,
mvO 4 10] (some [4, 5, 6, 7]))
(.seq (.ops [mvO 11 4,
opO 12 (.ibin .neq .i64 (.t 11) (ci 0))] (some [4, 5, 6, 7, 12]))
(.cond (.t 12)
(.seq (.ops [mvO 13 4,
mvO 2 13] (some [2]))
.ret)
.skip))))
(.ops [pO 14 7 1,
mvO 7 14] (some [5, 6, 7]))))))))
(.seq (.ops [mO 2 0] none)
.ret)))⟩
def ir64 : IFn := ⟨7, [.t 4],
(.seq (.ops [mO 4 0] (some [0, 1]))
(.seq (.seq (.ops [mvO 5 0] (some [1, 5]))
(.cond (.t 5)
(.seq (.ops [mO 4 0] none)
.ret)
.skip))
(.seq (.ops [mvO 6 1,
mvO 4 6] (some [4]))
.ret)))⟩
def ir65 : IFn := ⟨15, [.t 6],
(.seq (.ops [bO 6 false] (some [0, 1, 2]))
(.seq (.ops [mvO 7 1,
mvO 8 0,
opO 9 (.ibin .leq .i64 (.t 7) (.t 8)),
mvO 10 9,
⟨(some 11), (some (10, true)), .mov (.t 0)⟩,
⟨(some 12), (some (10, true)), .mov (.t 2)⟩,
⟨(some 13), (some (10, true)), .ibin .leq .i64 (.t 11) (.t 12)⟩,
opO 14 (.pick (.t 10) (.t 13) (.c (.bool false))),
mvO 6 14] (some [6]))
.ret))⟩
def ir67 : IFn := ⟨5, [.t 2],
(.seq (.ops [bO 2 false] (some [0]))
(.seq (.ops [mvO 3 0,
opO 4 (.call 65 [(.t 3), (ci 0), (ci 1000000)]),
mvO 2 4] (some [2]))
.ret))⟩
def ir68 : IFn := ⟨19, [.t 4],
(.seq (.ops [mO 4 0] (some [0, 1]))
(.seq (.seq (.ops [mvO 6 0,
nO 7 6,
mO 8 0] (some [0, 1, 7, 8]))
(.block 0 (.loop (.seq (.ops [sO 9 8 7] none)
(.seq (.cond (.t 9)
.skip
(.exit 0))
(.seq (.block 1 (.seq (.ops [mvO 10 8,
mvO 5 10] (some [0, 1, 5, 7, 8]))
(.seq (.ops [mvO 11 1,
mvO 12 0,
mvO 13 5,
iO 14 2 12 13,
lA 15 2 14,
opO 16 (.callv (.t 11) [(.t 15)])] (some [0, 1, 5, 7, 8, 16]))
(.cond (.t 16)
(.seq (.ops [mvO 17 5,
mvO 4 17] (some [4]))
.ret)
.skip))))
(.ops [pO 18 8 1,
mvO 8 18] (some [0, 1, 7, 8]))))))))
(.seq (.ops [opO 4 (.mov (ci (-1)))] none)
.ret)))⟩
def ir69 : IFn := ⟨16, [.t 3],
(.seq (.ops [opO 2 (.box (.t 0)),
bO 3 false] (some [1, 2]))
(.seq (.ops [lO 4 1 1,
fO 5 0 2,
lO 6 1 5,
opO 7 (.callv (.t 4) [(.t 6)]),
opO 8 (.un .not (.t 7)),
mvO 9 8,
⟨(some 10), (some (9, false)), .load 1 false (.t 1)⟩,
⟨(some 11), (some (9, false)), .faddr 1 (.t 2)⟩,
⟨(some 12), (some (9, false)), .load 1 false (.t 11)⟩,
⟨(some 13), (some (9, false)), .callv (.t 10) [(.t 12)]⟩,
⟨(some 14), (some (9, false)), .un .not (.t 13)⟩,
opO 15 (.pick (.t 9) (.c (.bool true)) (.t 14)),
mvO 3 15] (some [3]))
.ret))⟩
def ir70 : IFn := ⟨19, [.t 4],
(.seq (.ops [mO 4 0] (some [0, 1]))
(.seq (.seq (.ops [mvO 6 0,
nO 7 6,
mO 8 0] (some [0, 1, 7, 8]))
(.block 0 (.loop (.seq (.ops [sO 9 8 7] none)
(.seq (.cond (.t 9)
.skip
(.exit 0))
(.seq (.block 1 (.seq (.ops [mvO 10 8,
mvO 5 10] (some [0, 1, 5, 7, 8]))
(.seq (.ops [mvO 11 1,
mvO 12 0,
mvO 13 5,
iO 14 1 12 13,
lO 15 1 14,
opO 16 (.callv (.t 11) [(.t 15)])] (some [0, 1, 5, 7, 8, 16]))
(.cond (.t 16)
(.seq (.ops [mvO 17 5,
mvO 4 17] (some [4]))
.ret)
.skip))))
(.ops [pO 18 8 1,
mvO 8 18] (some [0, 1, 7, 8]))))))))
(.seq (.ops [opO 4 (.mov (ci (-1)))] none)
.ret)))⟩
def ir71 : IFn := ⟨8, [.t 3],
(.seq (.ops [bO 3 false] (some [0, 1]))
(.seq (.ops [lO 4 1 1,
mvO 5 0,
opO 6 (.callv (.t 4) [(.t 5)]),
opO 7 (.un .not (.t 6)),
mvO 3 7] (some [3]))
.ret))⟩
def ir72 : IFn := ⟨32, [.cell 2 2 true, .t 3, .t 4],
(.seq (.ops [opO 1 (.box (.t 0)),
opO 2 (.alloc [(.slice none 0 0), (.slice none 0 0)]),
opO 3 (.mov (.c (.slice none 0 0))),
mO 4 0] (some [1, 2]))
(.seq (.ops [lA 10 2 1,
opO 11 (.build [(.slice none 0 0), (.slice none 0 0)] [(0, 2, (.t 10))]),
opO 5 (.alloc [(.slice none 0 0), (.slice none 0 0)]),
⟨none, none, .store 2 (.t 5) (.t 11)⟩] (some [1, 2, 5]))
(.seq (.seq (.ops [lA 13 2 1,
cO 14 20 13,
mvO 12 14,
xO 15 0 12,
xO 16 1 12,
mvO 6 15,
mvO 7 16] (some [2, 5, 7]))
(.seq (.ops [mvO 17 7,
opO 18 (.ibin .neq .i64 (.t 17) (ci 0))] (some [2, 5, 7, 18]))
(.cond (.t 18)
(.seq (.ops [lA 19 2 5,
mvO 20 7,
⟨none, none, .store 2 (.t 2) (.t 19)⟩,
opO 3 (.mov (.c (.slice none 0 0))),
mvO 4 20] (some [2, 3, 4]))
.ret)
.skip)))
(.seq (.ops [lA 22 2 5,
opO 23 (.call 74 [(.t 22), (.c (.slice none 0 0)), (ci 0)]),
mvO 21 23,
xO 24 0 21,
xO 25 1 21,
mvO 8 24,
mvO 9 25] (some [2, 5, 8, 9]))
(.seq (.ops [mvO 26 8,
cO 27 103 26] (some [2, 5, 8, 9]))
(.seq (.draw (.rd 0 (lA 28 2 5)
(.rd 1 (mvO 29 8)
(.rd 2 (mvO 30 9)
(.wr 3 (opO 31 (.call 64 [(.t 30), (ci 12)])) [2]
(.wr 4 ⟨none, none, .store 2 (.t 2) (.t 28)⟩ [0, 3, 0]
(.rd 5 (mvO 3 29)
(.rd 6 (mvO 4 31)
.fin)) .no) .no)))) (some [2, 3, 4]))
.ret))))))⟩
def ir73 : IFn := ⟨8, [.t 2],
(.seq (.ops [opO 2 (.mov (.c (.slice none 0 0)))] (some [0]))
(.seq (.seq (.ops [mvO 3 0,
opO 4 (.nileq .sl false (.t 3))] (some [0, 4]))
(.cond (.t 4)
(.seq (.ops [opO 2 (.mov (.c (.slice none 0 0)))] none)
.ret)
.skip))
(.seq (.ops [opO 5 (.bslice 0 1 [(.int .i64 0)] []),
mvO 6 0,
opO 7 (.append 1 8 (.t 5) (.t 6)),
mvO 2 7] (some [2]))
.ret)))⟩
def ir74 : IFn := ⟨79, [.t 6, .t 7],
(.seq (.ops [opO 3 (.box (.t 0)),
opO 6 (.mov (.c (.slice none 0 0))),
bO 7 false] (some [1, 2, 3]))
(.seq (.ops [opO 8 (.mov (.c (.slice none 0 0)))] none)
(.seq (.seq (.ops [fO 16 0 3,
fO 17 1 16,
lO 18 1 17,
nO 19 18,
mO 20 0] (some [1, 2, 3, 8, 19, 20]))
(.block 0 (.loop (.seq (.ops [sO 21 20 19] none)
(.seq (.cond (.t 21)
.skip
(.exit 0))
(.seq (.block 1 (.seq (.ops [mvO 22 20,
opO 9 (.alloc [(.int .i64 0)]),
⟨none, none, .store 1 (.t 9) (.t 22)⟩] (some [1, 2, 3, 8, 9, 19, 20]))
(.seq (.ops [mvO 23 1,
opO 24 (.mkfunc 104 [] [(.t 3), (.t 9)]),
opO 25 (.call 80 [(.t 23), (.t 24)]),
opO 26 (.un .not (.t 25))] (some [1, 2, 3, 8, 9, 19, 20, 26]))
(.cond (.t 26)
(.ops [mvO 27 8,
lO 28 1 9,
opO 29 (.bslice 1 1 [(.int .i64 0)] [(0, 1, (.t 28))]),
opO 30 (.append 1 8 (.t 27) (.t 29)),
mvO 8 30] (some [1, 2, 3, 8, 19, 20]))
.skip))))
(.ops [pO 31 20 1,
mvO 20 31] (some [1, 2, 3, 8, 19, 20]))))))))
(.seq (.ops [mvO 32 8,
opO 33 (.mkfunc 107 [] [(.t 3)]),
opO 34 (.call 106 [(.t 32), (.t 33)])] (some [2, 3, 8]))
(.seq (.ops [opO 10 (.mov (.c (.slice none 0 0)))] none)
(.seq (.ops [opO 11 (.mov (ci (-1)))] none)
(.seq (.seq (.ops [mvO 35 8,
nO 36 35,
mO 37 0] (some [2, 3, 10, 11, 35, 36, 37]))
(.block 2 (.loop (.seq (.ops [sO 38 37 36] none)
(.seq (.cond (.t 38)
.skip
(.exit 2))
(.seq (.block 3 (.seq (.ops [iO 39 1 35 37,
lO 40 1 39,
mvO 13 40] (some [2, 3, 10, 11, 13, 35, 36, 37]))
(.seq (.seq (.ops [fO 41 0 3,
fO 42 1 41,
lO 43 1 42,
mvO 44 13,
iO 45 1 43 44,
lO 46 1 45,
mvO 47 11,
opO 48 (.ibin .leq .i64 (.t 46) (.t 47))] (some [2, 3, 10, 11, 13, 35, 36, 37, 48]))
(.cond (.t 48)
(.exit 3)
.skip))
(.seq (.ops [opO 11 (.mov (ci (-1)))] none)
(.seq (.seq (.ops [fO 49 0 3,
fO 50 0 49,
lO 51 1 50,
mvO 52 2,
opO 53 (.sliceV 2 (.t 51) (some (.t 52)) none none),
nO 54 53,
mO 55 0] (some [2, 3, 10, 11, 13, 35, 36, 37, 53, 54, 55]))
(.block 4 (.loop (.seq (.ops [sO 56 55 54] none)
(.seq (.cond (.t 56)
.skip
(.exit 4))
(.seq (.block 5 (.seq (.ops [iO 57 2 53 55,
lA 58 2 57,
opO 15 (.alloc [(.int .i64 0), (.int .i64 0)]),
⟨none, none, .store 2 (.t 15) (.t 58)⟩] (some [2, 3, 10, 11, 13, 15, 35, 36, 37, 53, 54, 55]))
(.seq (.ops [lA 59 2 3,
mvO 60 13,
lA 61 2 15,
opO 62 (.call 105 [(.t 59), (.t 60), (.t 61)])] (some [2, 3, 10, 11, 13, 15, 35, 36, 37, 53, 54, 55, 62]))
(.cond (.t 62)
(.ops [mvO 63 11,
fO 64 0 15,
lO 65 1 64,
fO 66 1 15,
lO 67 1 66,
opO 68 (.ibin .add .i64 (.t 65) (.t 67)),
opO 69 (.minmax true (.t 63) [(.t 68)]),
mvO 11 69] (some [2, 3, 10, 11, 13, 35, 36, 37, 53, 54, 55]))
.skip))))
(.ops [pO 70 55 1,
mvO 55 70] (some [2, 3, 10, 11, 13, 35, 36, 37, 53, 54, 55]))))))))
(.seq (.seq (.ops [mvO 71 11,
opO 72 (.ibin .lss .i64 (.t 71) (ci 0))] (some [2, 3, 10, 11, 13, 35, 36, 37, 72]))
(.cond (.t 72)
(.seq (.ops [opO 6 (.mov (.c (.slice none 0 0))),
bO 7 false] none)
.ret)
.skip))
(.ops [mvO 73 10,
mvO 74 13,
opO 75 (.bslice 1 1 [(.int .i64 0)] [(0, 1, (.t 74))]),
opO 76 (.append 1 8 (.t 73) (.t 75)),
mvO 10 76] (some [2, 3, 10, 11, 35, 36, 37]))))))))
(.ops [pO 77 37 1,
mvO 37 77] (some [2, 3, 10, 11, 35, 36, 37]))))))))
(.seq (.ops [mvO 78 10,
mvO 6 78,
bO 7 true] (some [6, 7]))
.ret))))))))⟩
def ir77 : IFn := ⟨25, [.cell 2 5 true],
(.seq (.ops [opO 1 (.box (.t 0)),
opO 2 (.alloc (List.replicate 5 (.int .i64 0)))] (some [1, 2]))
(.seq (.ops [opO 4 (.build [(.int .i64 0), (.int .i64 0)] [(0, 1, (ci 1)), (1, 1, (ci 0))]),
opO 5 (.build [(.int .i64 0), (.int .i64 0)] [(0, 1, (ci 0)), (1, 1, (ci 1))]),
opO 6 (.build [(.int .i64 0), (.int .i64 0)] [(0, 1, (ci (-1))), (1, 1, (ci 0))]),
opO 7 (.build [(.int .i64 0), (.int .i64 0)] [(0, 1, (ci 0)), (1, 1, (ci (-1)))]),
opO 8 (.build (List.replicate 8 (.int .i64 0)) [(0, 2, (.t 4)), (2, 2, (.t 5)), (4, 2, (.t 6)), (6, 2, (.t 7))]),
fO 9 0 1,
lO 10 1 9,
opO 11 (.ibin .rem .i64 (.t 10) (ci 360)),
opO 12 (.ibin .mul .i64 (.t 11) (ci 4)),
opO 13 (.ibin .quo .i64 (.t 12) (ci 360)),
opO 14 (.indexA 4 2 true (.t 8) (.t 13)),
opO 3 (.alloc [(.int .i64 0), (.int .i64 0)]),
⟨none, none, .store 2 (.t 3) (.t 14)⟩] (some [1, 2, 3]))
(.seq (.ops [fO 15 1 1,
lO 16 1 15,
opO 17 (.iaddrA 2 1 (.t 3) (ci 0)),
lO 18 1 17,
opO 19 (.iaddrA 2 1 (.t 3) (ci 1)),
lO 20 1 19,
fO 21 0 1,
lO 22 1 21,
opO 23 (.ibin .quo .i64 (.t 22) (ci 360)),
opO 24 (.build (List.replicate 5 (.int .i64 0)) [(0, 1, (ci 1)), (1, 1, (.t 16)), (2, 1, (.t 18)), (3, 1, (.t 20)), (4, 1, (.t 23))]),
⟨none, none, .store 5 (.t 2) (.t 24)⟩] (some [2]))
.ret)))⟩
def ir78 : IFn := ⟨10, [.t 4],
(.seq (.ops [bO 4 false] (some [0, 1]))
(.seq (.ops [mvO 5 0,
mvO 6 1,
opO 7 (.un .neg (.t 6)),
mvO 8 1,
opO 9 (.call 65 [(.t 5), (.t 7), (.t 8)]),
mvO 4 9] (some [4]))
.ret))⟩
def ir79 : IFn := ⟨14, [.cell 2 4 true, .t 3],
(.seq (.ops [opO 1 (.box (.t 0)),
opO 2 (.alloc [(.slice none 0 0), (.slice none 0 0), (.int .i64 0), (.slice none 0 0)]),
mO 3 0] (some [1, 2]))
(.seq (.ops [lA 7 4 1,
cO 8 43 7,
mvO 6 8,
xO 9 0 6,
xO 10 1 6,
mvO 4 9,
mvO 5 10] (some [1, 2, 5]))
(.seq (.ops [lA 11 4 1,
opO 12 (.build [(.slice none 0 0), (.slice none 0 0), (.int .i64 0), (.slice none 0 0)] [(0, 4, (.t 11))]),
mvO 13 5,
⟨none, none, .store 4 (.t 2) (.t 12)⟩,
mvO 3 13] (some [2, 3]))
.ret)))⟩
def ir80 : IFn := ⟨9, [.t 4],
(.seq (.ops [bO 4 false] (some [0, 1]))
(.seq (.ops [mvO 5 0,
mvO 6 1,
opO 7 (.call 70 [(.t 5), (.t 6)]),
opO 8 (.ibin .geq .i64 (.t 7) (ci 0)),
mvO 4 8] (some [4]))
.ret))⟩
def ir81 : IFn := ⟨6, [.t 2],
(.seq (.ops [bO 2 false] (some [0]))
(.seq (.ops [mvO 3 0,
cO 4 82 3,
opO 5 (.un .not (.t 4)),
mvO 2 5] (some [2]))
.ret))⟩
def ir82 : IFn := ⟨5, [.t 2],
(.seq (.ops [bO 2 false] (some [0]))
(.seq (.ops [mvO 3 0,
opO 4 (.call 65 [(.t 3), (ci 0), (ci 1000000)]),
mvO 2 4] (some [2]))
.ret))⟩
def ir83 : IFn := ⟨44, [.cell 6 3 true],
(.seq (.ops [opO 3 (.box (.t 0)),
opO 4 (.box (.t 1)),
opO 6 (.alloc [(.int .i64 0), (.int .i64 0), (.int .i64 0)])] (some [2, 3, 4, 6]))
(.seq (.ops [mvO 8 2,
fO 9 2 4,
⟨none, none, .store 1 (.t 9) (.t 8)⟩] (some [2, 3, 4, 6]))
(.seq (.seq (.ops [lA 10 4 3,
mvO 11 2,
opO 12 (.call 89 [(.t 10), (.t 11)]),
mvO 7 12] (some [2, 3, 4, 6, 7]))
(.block 0 (.seq (.ops [mvO 15 7,
fO 16 0 4,
lO 17 1 16,
opO 18 (.ibin .gtr .i64 (.t 15) (.t 17)),
mvO 14 18] (some [2, 3, 4, 6, 7, 14]))
(.cond (.t 14)
(.ops [mvO 19 7,
fO 20 0 4,
⟨none, none, .store 1 (.t 20) (.t 19)⟩,
fO 21 1 4,
⟨none, none, .store 1 (.t 21) (ci 0)⟩] (some [4, 6]))
(.seq (.ops [fO 23 0 4,
lO 24 1 23,
opO 25 (.ibin .gtr .i64 (.t 24) (ci 0)),
mvO 26 25,
⟨(some 27), (some (26, true)), .mov (.t 2)⟩,
⟨(some 28), (some (26, true)), .faddr 0 (.t 3)⟩,
⟨(some 29), (some (26, true)), .faddr 1 (.t 28)⟩,
⟨(some 30), (some (26, true)), .load 1 false (.t 29)⟩,
⟨(some 31), (some (26, true)), .faddr 0 (.t 4)⟩,
⟨(some 32), (some (26, true)), .load 1 false (.t 31)⟩,
⟨(some 33), (some (26, true)), .ibin .sub .i64 (.t 32) (ci 1)⟩,
⟨(some 34), (some (26, true)), .iaddr 1 (.t 30) (.t 33)⟩,
⟨(some 35), (some (26, true)), .load 1 false (.t 34)⟩,
⟨(some 36), (some (26, true)), .ibin .lss .i64 (.t 27) (.t 35)⟩,
opO 37 (.pick (.t 26) (.t 36) (.c (.bool false))),
mvO 22 37] (some [4, 6, 22]))
(.cond (.t 22)
(.ops [fO 38 1 4,
lO 39 1 38,
pO 40 39 1,
opO 41 (.minmax false (.t 40) [(ci 1000000)]),
fO 42 1 4,
⟨none, none, .store 1 (.t 42) (.t 41)⟩] (some [4, 6]))
(.ops [fO 13 1 4,
⟨none, none, .store 1 (.t 13) (ci 0)⟩] (some [4, 6]))))))))
(.seq (.ops [lA 43 3 4,
⟨none, none, .store 3 (.t 6) (.t 43)⟩] (some [6]))
.ret))))⟩
def ir85 : IFn := ⟨5, [.t 2],
(.seq (.ops [bO 2 false] (some [0]))
(.seq (.ops [mvO 3 0,
opO 4 (.call 65 [(.t 3), (ci 1), (ci 1000000)]),
mvO 2 4] (some [2]))
.ret))⟩
def ir86 : IFn := ⟨9, [.t 4],
(.seq (.ops [bO 4 false] (some [0, 1]))
(.seq (.ops [mvO 5 0,
mvO 6 1,
opO 7 (.call 110 [(.t 5), (.t 6)]),
opO 8 (.ibin .geq .i64 (.t 7) (ci 0)),
mvO 4 8] (some [4]))
.ret))⟩
def ir87 : IFn := ⟨9, [.t 3],
(.seq (.ops [opO 2 (.box (.t 0)),
bO 3 false] (some [1, 2]))
(.seq (.ops [fO 4 0 2,
lO 5 1 4,
fO 6 0 1,
lO 7 1 6,
opO 8 (.sbin .eql (.t 5) (.t 7)),
mvO 3 8] (some [3]))
.ret))⟩
def ir88 : IFn := ⟨34, [.t 2],
(.seq (.ops [bO 2 false] (some [0]))
(.seq (.seq (.ops [mvO 5 0,
opO 6 (.s2b (.t 5)),
nO 7 6,
mO 8 0] (some [0, 6, 7, 8]))
(.block 0 (.loop (.seq (.ops [sO 9 8 7] none)
(.seq (.cond (.t 9)
.skip
(.exit 0))
(.seq (.block 1 (.seq (.ops [mvO 10 8,
iO 11 1 6 8,
lO 12 1 11,
mvO 3 10,
mvO 4 12] (some [0, 3, 4, 6, 7, 8]))
(.seq (.ops [mvO 13 4,
cO 14 111 13,
opO 15 (.un .not (.t 14)),
mvO 16 15,
⟨(some 17), (some (16, true)), .mov (.t 3)⟩,
⟨(some 18), (some (16, true)), .ibin .eql .i64 (.t 17) (ci 0)⟩,
⟨(some 19), (some (16, true)), .mov (.t 18)⟩,
⟨(some 20), (some (19, false)), .mov (.t 4)⟩,
⟨(some 21), (some (19, false)), .ibin .neq .u8 (.t 20) (.c (.int .u8 45))⟩,
⟨(some 22), (some (19, false)), .mov (.t 21)⟩,
⟨(some 23), (some (22, true)), .mov (.t 4)⟩,
⟨(some 24), (some (22, true)), .conv .i64 (.t 23)⟩,
⟨(some 25), (some (22, true)), .call 65 [(.t 24), (ci 48), (ci 57)]⟩,
⟨(some 26), (some (22, true)), .un .not (.t 25)⟩,
⟨(some 27), (some (19, false)), .pick (.t 22) (.t 26) (.c (.bool false))⟩,
⟨(some 28), (some (16, true)), .pick (.t 19) (.c (.bool true)) (.t 27)⟩,
opO 29 (.pick (.t 16) (.t 28) (.c (.bool false)))] (some [0, 6, 7, 8, 29]))
(.cond (.t 29)
(.seq (.ops [bO 2 false] none)
.ret)
.skip))))
(.ops [pO 30 8 1,
mvO 8 30] (some [0, 6, 7, 8]))))))))
(.seq (.ops [mvO 31 0,
opO 32 (.lenS (.t 31)),
opO 33 (.call 65 [(.t 32), (ci 1), (ci 12)]),
mvO 2 33] (some [2]))
.ret)))⟩
def ir89 : IFn := ⟨19, [.t 4],
(.seq (.ops [opO 2 (.box (.t 0)),
mO 4 0] (some [1, 2]))
(.seq (.ops [fO 8 0 2,
fO 9 0 8,
lO 10 1 9,
mvO 11 1,
opO 12 (.call 112 [(.t 10), (.t 11)]),
mvO 7 12,
xO 13 0 7,
xO 14 1 7,
mvO 5 13,
mvO 6 14] (some [5, 6]))
(.seq (.seq (.ops [mvO 15 6] (some [5, 15]))
(.cond (.t 15)
(.ops [mvO 16 5,
pO 17 16 1,
mvO 5 17] (some [5]))
.skip))
(.seq (.ops [mvO 18 5,
mvO 4 18] (some [4]))
.ret))))⟩
def ir93 : IFn := ⟨31, [.t 2],
(.seq (.ops [mO 2 0] (some [0]))
(.seq (.ops [mvO 5 0,
nO 6 5,
opO 7 (.ibin .gtr .i64 (.t 6) (ci 0)),
opO 8 (.call 64 [(.t 7), (ci 10)]),
mvO 9 0,
nO 10 9,
opO 11 (.ibin .leq .i64 (.t 10) (ci 12)),
opO 12 (.call 64 [(.t 11), (ci 8)]),
opO 13 (.bslice 2 1 [(.int .i64 0)] [(0, 1, (.t 8)), (1, 1, (.t 12))]),
cO 14 63 13,
mvO 3 14] (some [0, 3]))
(.seq (.seq (.ops [mO 4 0] none)
(.block 0 (.loop (.seq (.seq (.ops [mvO 15 4,
mvO 16 0,
nO 17 16,
sO 18 15 17,
mvO 19 18,
⟨(some 20), (some (19, true)), .mov (.t 3)⟩,
⟨(some 21), (some (19, true)), .ibin .eql .i64 (.t 20) (ci 0)⟩,
opO 22 (.pick (.t 19) (.t 21) (.c (.bool false)))] (some [0, 3, 4, 22]))
(.cond (.t 22)
.skip
(.exit 0)))
(.seq (.block 1 (.ops [mvO 25 0,
mvO 26 4,
iO 27 3 25 26,
lA 28 3 27,
cO 29 33 28,
mvO 3 29] (some [0, 3, 4])))
(.ops [mvO 23 4,
pO 24 23 1,
mvO 4 24] (some [0, 3, 4])))))))
(.seq (.ops [mvO 30 3,
mvO 2 30] (some [2]))
.ret))))⟩
def ir94 : IFn := ⟨6, [.t 2],
(.seq (.ops [mO 2 0] (some [0]))
(.seq (.ops [mvO 3 0,
opO 4 (.call 65 [(.t 3), (ci 1), (ci 31)]),
opO 5 (.call 64 [(.t 4), (ci 2)]),
mvO 2 5] (some [2]))
.ret))⟩
def ir95 : IFn := ⟨17, [.t 2],
(.seq (.ops [opO 2 (.mov (.c (.slice none 0 0)))] (some [0]))
(.seq (.ops [opO 3 (.mov (.c (.slice none 0 0)))] none)
(.seq (.seq (.ops [mO 5 0] none)
(.block 0 (.loop (.seq (.ops [opO 6 (.ibin .lss .i64 (.t 5) (ci 5))] none)
(.seq (.cond (.t 6)
.skip
(.exit 0))
(.seq (.block 1 (.seq (.ops [mvO 7 5,
mvO 4 7] (some [0, 3, 4, 5]))
(.seq (.ops [mvO 8 0,
mvO 9 4,
opO 10 (.call 114 [(.t 8), (.t 9)])] (some [0, 3, 4, 5, 10]))
(.cond (.t 10)
(.ops [mvO 11 3,
mvO 12 4,
opO 13 (.bslice 1 1 [(.int .i64 0)] [(0, 1, (.t 12))]),
opO 14 (.append 1 8 (.t 11) (.t 13)),
mvO 3 14] (some [0, 3, 5]))
.skip))))
(.ops [pO 15 5 1,
mvO 5 15] (some [0, 3, 5]))))))))
(.seq (.ops [mvO 16 3,
mvO 2 16] (some [2]))
.ret))))⟩
def ir96 (r : Nat → Code × Code) : IFn := ⟨36, [.t 2],
(.seq (.ops [opO 1 (.box (.t 0)),
mO 2 0] none)
(.seq (.ops [opO 3 (.alloc [(.int .i64 0)]),
⟨none, none, .store 1 (.t 3) (ci 0)⟩] none)
(.seq (.seq (.ops [lO 9 1 1,
nO 10 9,
cO 11 115 10] none)
(.block 0 (.range 36 (.t 11) #[12, 13] (r 0).1 (r 0).2)))
(.seq (.ops [lO 35 1 3,
mvO 2 35] (some [2]))
.ret))))⟩
def ir96a0 : ICode :=
(.seq (.ops [mvO 4 12] none)
(.ops [mvO 5 13] none))
def ir96b0 : ICode :=
(.block 1 (.seq (.ops [mvO 14 5,
mvO 6 14] (some [1, 3, 4, 6]))
(.seq (.seq (.ops [mvO 15 4,
nO 16 15,
mO 17 0] (some [1, 3, 6, 15, 16, 17]))
(.block 2 (.loop (.seq (.ops [sO 18 17 16] none)
(.seq (.cond (.t 18)
.skip
(.exit 2))
(.seq (.block 3 (.seq (.ops [mvO 19 17,
iO 20 1 15 17,
lO 21 1 20,
mvO 7 19,
mvO 8 21] (some [1, 3, 6, 7, 8, 15, 16, 17]))
(.ops [mvO 22 6,
lO 23 1 1,
mvO 24 7,
iO 25 1 23 24,
lO 26 1 25,
mvO 27 8,
iO 28 1 26 27,
lO 29 1 28,
opO 30 (.ibin .mul .i64 (.t 22) (.t 29)),
mvO 6 30] (some [1, 3, 6, 15, 16, 17]))))
(.ops [pO 31 17 1,
mvO 17 31] (some [1, 3, 6, 15, 16, 17]))))))))
(.ops [lO 32 1 3,
mvO 33 6,
opO 34 (.ibin .add .i64 (.t 32) (.t 33)),
⟨none, none, .store 1 (.t 3) (.t 34)⟩] (some [])))))
def ir97 : IFn := ⟨22, [.t 2],
(.seq (.ops [opO 1 (.box (.t 0)),
mO 2 0] (some [1]))
(.seq (.ops [fO 6 0 1,
lO 7 1 6,
mvO 3 7] (some [1, 3]))
(.seq (.seq (.ops [fO 8 1 1,
lA 9 5 8,
mO 10 0] (some [3, 9, 10]))
(.block 0 (.loop (.seq (.ops [opO 11 (.ibin .lss .i64 (.t 10) (ci 5))] none)
(.seq (.cond (.t 11)
.skip
(.exit 0))
(.seq (.block 1 (.seq (.ops [opO 12 (.indexA 5 1 false (.t 9) (.t 10)),
mvO 5 12] (some [3, 5, 9, 10]))
(.block 2 (.loop (.seq (.seq (.ops [mvO 13 5,
opO 14 (.ibin .neq .i64 (.t 13) (ci 0))] (some [3, 5, 9, 10, 14]))
(.cond (.t 14)
.skip
(.exit 2)))
(.block 3 (.draw (.rd 0 (mvO 15 5)
(.rd 1 (mvO 16 3)
(.rd 2 (mvO 17 5)
(.rd 3 (opO 18 (.ibin .rem .i64 (.t 16) (.t 17)))
(.wr 4 (mvO 3 15) [0, 0, 1]
(.wr 5 (mvO 5 18) [3, 4, 0, 1, 2, 3, 4]
.fin .no) .no))))) (some [3, 5, 9, 10]))))))))
(.ops [pO 19 10 1,
mvO 10 19] (some [3, 9, 10]))))))))
(.seq (.ops [mvO 20 3,
cO 21 100 20,
mvO 2 21] (some [2]))
.ret))))⟩
def ir98 : IFn := ⟨15, [.t 2],
(.seq (.ops [opO 1 (.box (.t 0)),
mO 2 0] (some [1]))
(.seq (.ops [fO 4 1 1,
opO 5 (.sliceA 5 1 (.t 4) none none none),
opO 6 (.call 80 [(.t 5), (.f 116)]),
mvO 3 6] (some [1, 3]))
(.seq (.ops [fO 7 0 1,
lO 8 1 7,
opO 9 (.call 65 [(.t 8), (ci 1), (ci 1000000000000)]),
mvO 10 9,
⟨(some 11), (some (10, true)), .mov (.t 3)⟩,
⟨(some 12), (some (10, true)), .un .not (.t 11)⟩,
opO 13 (.pick (.t 10) (.t 12) (.c (.bool false))),
opO 14 (.call 64 [(.t 13), (ci 2)]),
mvO 2 14] (some [2]))
.ret)))⟩
def ir100 : IFn := ⟨7, [.t 2],
(.seq (.ops [mO 2 0] (some [0]))
(.seq (.ops [mvO 3 0,
mvO 4 0,
opO 5 (.un .neg (.t 4)),
opO 6 (.minmax true (.t 3) [(.t 5)]),
mvO 2 6] (some [2]))
.ret))⟩
def ir102 : IFn := ⟨9, [.t 4],
(.seq (.ops [opO 2 (.box (.t 0)),
opO 3 (.box (.t 1)),
mO 4 0] (some [2, 3]))
(.seq (.draw (.rd 0 (lA 5 6 2)
(.rd 1 (lA 6 3 3)
(.wr 2 (opO 7 (.call 95 [(ci 31)])) []
(.wr 3 (opO 8 (.call 117 [(.t 5), (.t 6), (.t 7)])) [0, 1, 2, 2]
(.rd 4 (mvO 4 8)
.fin) .no) .no))) (some [4]))
.ret))⟩
def ir103 : IFn := ⟨11, [],
(.seq (.ops [mvO 3 0,
nO 4 3,
mvO 2 4] (some [0, 2]))
(.ops [mvO 5 0,
mvO 6 2,
mvO 7 2,
opO 8 (.conv .u64 (.t 7)),
cO 9 119 8,
opO 10 (.call 118 [(.t 5), (ci 0), (.t 6), (.t 9)])] (some [])))⟩
def ir104 : IFn := ⟨14, [.t 4],
(.seq (.ops [bO 4 false] (some [0, 1, 2]))
(.seq (.draw (.rd 0 (lA 5 2 1)
(.rd 1 (lO 6 1 2)
(.rd 2 (fO 7 0 1)
(.rd 3 (fO 8 0 7)
(.rd 4 (lO 9 1 8)
(.rd 5 (mvO 10 0)
(.rd 6 (iO 11 2 9 10)
(.rd 7 (lA 12 2 11)
(.wr 8 (opO 13 (.call 105 [(.t 5), (.t 6), (.t 12)])) [0, 1, 7]
(.rd 9 (mvO 4 13)
.fin) .no))))))))) (some [4]))
.ret))⟩
def ir105 : IFn := ⟨20, [.t 6],
(.seq (.ops [opO 3 (.box (.t 0)),
opO 5 (.box (.t 2)),
bO 6 false] (some [1, 3, 5]))
(.seq (.draw (.rd 0 (fO 7 0 3)
(.rd 1 (fO 8 1 7)
(.rd 2 (lO 9 1 8)
(.rd 3 (mvO 10 1)
(.rd 4 (iO 11 1 9 10)
(.rd 5 (lO 12 1 11)
(.rd 6 (fO 13 0 5)
(.rd 7 (lO 14 1 13)
(.rd 8 (opO 15 (.ibin .sub .i64 (.t 12) (.t 14)))
(.rd 10 (fO 17 1 5)
(.rd 11 (lO 18 1 17)
(.wr 9 (cO 16 100 15) [8]
(.rd 12 (opO 19 (.ibin .leq .i64 (.t 16) (.t 18)))
(.rd 13 (mvO 6 19)
.fin)) .no)))))))))))) (some [6]))
.ret))⟩
def ir106 : IFn := ⟨9, [],
(.ops [mvO 4 0,
mvO 5 0,
nO 6 5,
mvO 7 1,
opO 8 (.call 120 [(.t 4), (.t 6), (.t 7)])] (some []))⟩
def ir107 : IFn := ⟨19, [.t 5],
(.seq (.ops [mO 5 0] (some [0, 1, 2]))
(.seq (.draw (.rd 0 (fO 6 0 2)
(.rd 1 (fO 7 1 6)
(.rd 2 (lO 8 1 7)
(.rd 3 (mvO 9 0)
(.rd 4 (iO 10 1 8 9)
(.rd 5 (lO 11 1 10)
(.rd 6 (fO 12 0 2)
(.rd 7 (fO 13 1 12)
(.rd 8 (lO 14 1 13)
(.rd 9 (mvO 15 1)
(.rd 10 (iO 16 1 14 15)
(.rd 11 (lO 17 1 16)
(.wr 12 (opO 18 (.call 108 [(.t 11), (.t 17)])) [5, 11]
(.rd 13 (mvO 5 18)
.fin) .no))))))))))))) (some [5]))
.ret))⟩
def ir108 : IFn := ⟨20, [.t 4],
(.seq (.ops [mO 4 0] (some [0, 1]))
(.seq (.ops [mvO 7 0,
cO 8 121 7,
mvO 5 8] (some [0, 1, 5]))
(.seq (.ops [mvO 9 1,
cO 10 121 9,
mvO 6 10] (some [0, 1, 5, 6]))
(.seq (.seq (.ops [mvO 11 5] (some [0, 1, 6, 11]))
(.cond (.t 11)
(.seq (.seq (.ops [mvO 12 6] (some [12]))
(.cond (.t 12)
(.seq (.ops [mO 4 0] none)
.ret)
.skip))
(.seq (.ops [opO 4 (.mov (ci (-1)))] none)
.ret))
.skip))
(.seq (.seq (.ops [mvO 13 6] (some [0, 1, 13]))
(.cond (.t 13)
(.seq (.ops [mO 4 1] none)
.ret)
.skip))
(.seq (.seq (.ops [mvO 14 0,
mvO 15 1,
sO 16 14 15] (some [0, 1, 16]))
(.cond (.t 16)
(.seq (.ops [opO 4 (.mov (ci (-1)))] none)
.ret)
.skip))
(.seq (.seq (.ops [mvO 17 0,
mvO 18 1,
opO 19 (.ibin .gtr .i64 (.t 17) (.t 18))] (some [19]))
(.cond (.t 19)
(.seq (.ops [mO 4 1] none)
.ret)
.skip))
(.seq (.ops [mO 4 0] none)
.ret))))))))⟩
def ir109 : IFn := ⟨7, [.t 2],
(.seq (.ops [mO 2 0] (some [0]))
(.seq (.ops [mvO 3 0,
mvO 4 0,
opO 5 (.un .neg (.t 4)),
opO 6 (.minmax true (.t 3) [(.t 5)]),
mvO 2 6] (some [2]))
.ret))⟩
def ir110 : IFn := ⟨19, [.t 4],
(.seq (.ops [mO 4 0] (some [0, 1]))
(.seq (.seq (.ops [mvO 6 0,
nO 7 6,
mO 8 0] (some [0, 1, 7, 8]))
(.block 0 (.loop (.seq (.ops [sO 9 8 7] none)
(.seq (.cond (.t 9)
.skip
(.exit 0))
(.seq (.block 1 (.seq (.ops [mvO 10 8,
mvO 5 10] (some [0, 1, 5, 7, 8]))
(.seq (.ops [mvO 11 1,
mvO 12 0,
mvO 13 5,
iO 14 2 12 13,
lA 15 2 14,
opO 16 (.callv (.t 11) [(.t 15)])] (some [0, 1, 5, 7, 8, 16]))
(.cond (.t 16)
(.seq (.ops [mvO 17 5,
mvO 4 17] (some [4]))
.ret)
.skip))))
(.ops [pO 18 8 1,
mvO 8 18] (some [0, 1, 7, 8]))))))))
(.seq (.ops [opO 4 (.mov (ci (-1)))] none)
.ret)))⟩
def ir111 : IFn := ⟨11, [.t 2],
(.seq (.ops [bO 2 false] (some [0]))
(.seq (.ops [mvO 3 0,
opO 4 (.conv .i64 (.t 3)),
opO 5 (.call 65 [(.t 4), (ci 97), (ci 122)]),
mvO 6 5,
⟨(some 7), (some (6, false)), .mov (.t 0)⟩,
⟨(some 8), (some (6, false)), .conv .i64 (.t 7)⟩,
⟨(some 9), (some (6, false)), .call 65 [(.t 8), (ci 65), (ci 90)]⟩,
opO 10 (.pick (.t 6) (.c (.bool true)) (.t 9)),
mvO 2 10] (some [2]))
.ret))⟩
def ir112 : IFn := ⟨54, [.t 4, .t 5],
(.seq (.ops [mO 4 0,
bO 5 false] (some [0, 1]))
(.seq (.ops [mvO 10 0,
nO 11 10,
mvO 6 11] (some [0, 1, 6]))
(.seq (.ops [mvO 12 6,
mO 7 0,
mvO 8 12] (some [0, 1, 6, 7, 8]))
(.seq (.block 0 (.loop (.seq (.seq (.ops [mvO 13 7,
mvO 14 8,
sO 15 13 14] (some [0, 1, 6, 7, 8, 15]))
(.cond (.t 15)
.skip
(.exit 0)))
(.block 1 (.seq (.ops [mvO 16 7,
mvO 17 8,
opO 18 (.ibin .add .i64 (.t 16) (.t 17)),
opO 19 (.conv .u64 (.t 18)),
opO 20 (.shift .shr .u64 (.t 19) (.c (.int .u64 1))),
opO 21 (.conv .i64 (.t 20)),
mvO 9 21] (some [0, 1, 6, 7, 8, 9]))
(.seq (.ops [mvO 22 0,
mvO 23 9,
iO 24 1 22 23,
lO 25 1 24,
mvO 26 1,
opO 27 (.call 122 [(.t 25), (.t 26)])] (some [0, 1, 6, 7, 8, 9, 27]))
(.cond (.t 27)
(.ops [mvO 28 9,
pO 29 28 1,
mvO 7 29] (some [0, 1, 6, 7, 8]))
(.ops [mvO 30 9,
mvO 8 30] (some [0, 1, 6, 7, 8])))))))))
(.seq (.ops [mvO 31 7,
mvO 32 7,
mvO 33 6,
sO 34 32 33,
mvO 35 34,
⟨(some 36), (some (35, true)), .mov (.t 0)⟩,
⟨(some 37), (some (35, true)), .mov (.t 7)⟩,
⟨(some 38), (some (35, true)), .iaddr 1 (.t 36) (.t 37)⟩,
⟨(some 39), (some (35, true)), .load 1 false (.t 38)⟩,
⟨(some 40), (some (35, true)), .mov (.t 1)⟩,
⟨(some 41), (some (35, true)), .ibin .eql .i64 (.t 39) (.t 40)⟩,
⟨(some 42), (some (35, true)), .mov (.t 41)⟩,
⟨(some 43), (some (42, false)), .mov (.t 0)⟩,
⟨(some 44), (some (42, false)), .mov (.t 7)⟩,
⟨(some 45), (some (42, false)), .iaddr 1 (.t 43) (.t 44)⟩,
⟨(some 46), (some (42, false)), .load 1 false (.t 45)⟩,
⟨(some 47), (some (42, false)), .call 123 [(.t 46)]⟩,
⟨(some 48), (some (42, false)), .mov (.t 47)⟩,
⟨(some 49), (some (48, true)), .mov (.t 1)⟩,
⟨(some 50), (some (48, true)), .call 123 [(.t 49)]⟩,
⟨(some 51), (some (42, false)), .pick (.t 48) (.t 50) (.c (.bool false))⟩,
⟨(some 52), (some (35, true)), .pick (.t 42) (.c (.bool true)) (.t 51)⟩,
opO 53 (.pick (.t 35) (.t 52) (.c (.bool false))),
mvO 4 31,
mvO 5 53] (some [4, 5]))
.ret)))))⟩
def ir114 : IFn := ⟨10, [.t 4],
(.seq (.ops [bO 4 false] (some [0, 1]))
(.seq (.ops [mvO 5 0,
mvO 6 1,
opO 7 (.shift .shr .i64 (.t 5) (.t 6)),
opO 8 (.ibin .and .i64 (.t 7) (ci 1)),
opO 9 (.ibin .eql .i64 (.t 8) (ci 1)),
mvO 4 9] (some [4]))
.ret))⟩
def ir115 : IFn := ⟨4, [.t 2],
(.seq (.ops [opO 1 (.box (.t 0)),
opO 2 (.mov (.c .nilFunc))] (some [1]))
(.seq (.ops [opO 3 (.mkfunc 124 [] [(.t 1)]),
mvO 2 3] (some [2]))
.ret))⟩
def ir116 : IFn := ⟨6, [.t 2],
(.seq (.ops [bO 2 false] (some [0]))
(.seq (.ops [mvO 3 0,
opO 4 (.call 78 [(.t 3), (ci 1000000000000)]),
opO 5 (.un .not (.t 4)),
mvO 2 5] (some [2]))
.ret))⟩
def ir117 : IFn := ⟨31, [.t 6],
(.seq (.ops [opO 3 (.box (.t 0)),
opO 4 (.box (.t 1)),
mO 6 0] (some [2, 3, 4]))
(.seq (.ops [mO 7 0] none)
(.seq (.ops [lA 11 3 4,
cO 12 77 11,
opO 8 (.alloc (List.replicate 5 (.int .i64 0))),
⟨none, none, .store 5 (.t 8) (.t 12)⟩] (some [2, 3, 7, 8]))
(.seq (.seq (.ops [mvO 13 2,
nO 14 13,
mO 15 0] (some [3, 7, 8, 13, 14, 15]))
(.block 0 (.loop (.seq (.ops [sO 16 15 14] none)
(.seq (.cond (.t 16)
.skip
(.exit 0))
(.seq (.block 1 (.seq (.ops [iO 17 1 13 15,
lO 18 1 17,
mvO 10 18] (some [3, 7, 8, 10, 13, 14, 15]))
(.draw (.rd 0 (mvO 19 7)
(.rd 1 (mvO 20 10)
(.rd 2 (fO 21 1 3)
(.rd 3 (opO 22 (.iaddrA 5 1 (.t 21) (.t 20)))
(.rd 4 (lO 23 1 22)
(.rd 5 (mvO 24 10)
(.rd 6 (opO 25 (.iaddrA 5 1 (.t 8) (.t 24)))
(.rd 7 (lO 26 1 25)
(.rd 8 (opO 27 (.ibin .mul .i64 (.t 23) (.t 26)))
(.rd 9 (opO 28 (.ibin .add .i64 (.t 19) (.t 27)))
(.wr 10 (mvO 7 28) [9, 0, 1, 2, 3, 4, 5, 6, 7, 8, 9]
.fin .no))))))))))) (some [3, 7, 8, 13, 14, 15]))))
(.ops [pO 29 15 1,
mvO 15 29] (some [3, 7, 8, 13, 14, 15]))))))))
(.seq (.ops [mvO 30 7,
mvO 6 30] (some [6]))
.ret)))))⟩
def ir118 : IFn := ⟨134, [],
(.seq (.ops [bO 8 true] none)
(.seq (.ops [bO 9 true] none)
(.block 0 (.loop (.block 1 (.seq (.ops [mvO 19 2,
mvO 20 1,
opO 21 (.ibin .sub .i64 (.t 19) (.t 20)),
mvO 10 21] (some [0, 1, 2, 3, 8, 9, 10]))
(.seq (.seq (.ops [mvO 22 10,
opO 23 (.ibin .leq .i64 (.t 22) (ci 12))] (some [0, 1, 2, 3, 8, 9, 10, 23]))
(.cond (.t 23)
(.seq (.ops [mvO 24 0,
mvO 25 1,
mvO 26 2,
opO 27 (.call 126 [(.t 24), (.t 25), (.t 26)])] (some []))
.ret)
.skip))
(.seq (.seq (.ops [mvO 28 3,
opO 29 (.ibin .eql .i64 (.t 28) (ci 0))] (some [0, 1, 2, 3, 8, 9, 10, 29]))
(.cond (.t 29)
(.seq (.ops [mvO 30 0,
mvO 31 1,
mvO 32 2,
opO 33 (.call 127 [(.t 30), (.t 31), (.t 32)])] (some []))
.ret)
.skip))
(.seq (.seq (.ops [mvO 34 8,
opO 35 (.un .not (.t 34))] (some [0, 1, 2, 3, 8, 9, 10, 35]))
(.cond (.t 35)
(.seq (.ops [mvO 36 0,
mvO 37 1,
mvO 38 2,
opO 39 (.call 128 [(.t 36), (.t 37), (.t 38)])] (some [0, 1, 2, 3, 8, 9, 10]))
(.ops [mvO 40 3,
opO 41 (.ibin .sub .i64 (.t 40) (ci 1)),
mvO 3 41] (some [0, 1, 2, 3, 8, 9, 10])))
.skip))
(.seq (.ops [mvO 43 0,
mvO 44 1,
mvO 45 2,
opO 46 (.call 129 [(.t 43), (.t 44), (.t 45)]),
mvO 42 46,
xO 47 0 42,
xO 48 1 42,
mvO 11 47,
mvO 12 48] (some [0, 1, 2, 3, 8, 9, 10, 11, 12]))
(.seq (.seq (.ops [mvO 49 12,
opO 50 (.ibin .eql .i64 (.t 49) (ci 2))] (some [0, 1, 2, 3, 8, 9, 10, 11, 12, 50]))
(.cond (.t 50)
(.seq (.ops [mvO 51 0,
mvO 52 1,
mvO 53 2,
opO 54 (.call 130 [(.t 51), (.t 52), (.t 53)])] (some [0, 1, 2, 3, 8, 9, 10, 11]))
(.seq (.ops [mvO 55 2,
opO 56 (.ibin .sub .i64 (.t 55) (ci 1)),
mvO 57 11,
mvO 58 1,
opO 59 (.ibin .sub .i64 (.t 57) (.t 58)),
opO 60 (.ibin .sub .i64 (.t 56) (.t 59)),
mvO 11 60] (some [0, 1, 2, 3, 8, 9, 10, 11]))
(.ops [mO 12 1] none)))
.skip))
(.seq (.seq (.ops [mvO 61 8,
mvO 62 61,
⟨(some 63), (some (62, true)), .mov (.t 9)⟩,
opO 64 (.pick (.t 62) (.t 63) (.c (.bool false))),
mvO 65 64,
⟨(some 66), (some (65, true)), .mov (.t 12)⟩,
⟨(some 67), (some (65, true)), .ibin .eql .i64 (.t 66) (ci 1)⟩,
opO 68 (.pick (.t 65) (.t 67) (.c (.bool false)))] (some [0, 1, 2, 3, 8, 9, 10, 11, 68]))
(.cond (.t 68)
(.seq (.ops [mvO 69 0,
mvO 70 1,
mvO 71 2,
opO 72 (.call 131 [(.t 69), (.t 70), (.t 71)])] (some [0, 1, 2, 3, 8, 9, 10, 11, 72]))
(.cond (.t 72)
.ret
.skip))
.skip))
(.seq (.seq (.draw (.rd 0 (mvO 73 1)
(.rd 1 (opO 74 (.ibin .gtr .i64 (.t 73) (ci 0)))
(.rd 2 (mvO 75 74)
(.rd 3 ⟨(some 76), (some (75, true)), .mov (.t 0)⟩
(.rd 4 ⟨(some 77), (some (75, true)), .mov (.t 1)⟩
(.rd 5 ⟨(some 78), (some (75, true)), .ibin .sub .i64 (.t 77) (ci 1)⟩
(.rd 6 ⟨(some 79), (some (75, true)), .iaddr 1 (.t 76) (.t 78)⟩
(.rd 7 ⟨(some 80), (some (75, true)), .load 1 false (.t 79)⟩
(.rd 8 ⟨(some 81), (some (75, true)), .mov (.t 0)⟩
(.rd 9 ⟨(some 82), (some (75, true)), .mov (.t 11)⟩
(.rd 10 ⟨(some 83), (some (75, true)), .iaddr 1 (.t 81) (.t 82)⟩
(.rd 11 ⟨(some 84), (some (75, true)), .load 1 false (.t 83)⟩
(.wr 12 ⟨(some 85), (some (75, true)), .call 122 [(.t 80), (.t 84)]⟩ [7, 11, 2, 2]
(.rd 13 ⟨(some 86), (some (75, true)), .un .not (.t 85)⟩
(.rd 14 (opO 87 (.pick (.t 75) (.t 86) (.c (.bool false))))
.fin)) .no))))))))))))) (some [0, 1, 2, 3, 8, 9, 10, 11, 87]))
(.cond (.t 87)
(.seq (.ops [mvO 88 0,
mvO 89 1,
mvO 90 2,
mvO 91 11,
opO 92 (.call 132 [(.t 88), (.t 89), (.t 90), (.t 91)]),
mvO 13 92] (some [0, 2, 3, 8, 9, 13]))
(.seq (.ops [mvO 93 13,
mvO 1 93] (some [0, 1, 2, 3, 8, 9]))
(.exit 1)))
.skip))
(.seq (.ops [mvO 95 0,
mvO 96 1,
mvO 97 2,
mvO 98 11,
opO 99 (.call 133 [(.t 95), (.t 96), (.t 97), (.t 98)]),
mvO 94 99,
xO 100 0 94,
xO 101 1 94,
mvO 14 100,
mvO 15 101] (some [0, 1, 2, 3, 10, 14, 15]))
(.seq (.ops [mvO 102 15,
mvO 9 102] (some [0, 1, 2, 3, 9, 10, 14]))
(.seq (.ops [mvO 103 14,
mvO 104 1,
opO 105 (.ibin .sub .i64 (.t 103) (.t 104)),
mvO 106 2,
mvO 107 14,
opO 108 (.ibin .sub .i64 (.t 106) (.t 107)),
mvO 16 105,
mvO 17 108] (some [0, 1, 2, 3, 9, 10, 14, 16, 17]))
(.seq (.ops [mvO 109 10,
opO 110 (.ibin .quo .i64 (.t 109) (ci 8)),
mvO 18 110] (some [0, 1, 2, 3, 9, 14, 16, 17, 18]))
(.seq (.ops [mvO 111 16,
mvO 112 17,
sO 113 111 112] (some [0, 1, 2, 3, 9, 14, 16, 17, 18, 113]))
(.cond (.t 113)
(.seq (.ops [mvO 114 16,
mvO 115 18,
opO 116 (.ibin .geq .i64 (.t 114) (.t 115)),
mvO 8 116] (some [0, 1, 2, 3, 8, 9, 14]))
(.seq (.ops [mvO 117 0,
mvO 118 1,
mvO 119 14,
mvO 120 3,
opO 121 (.call 118 [(.t 117), (.t 118), (.t 119), (.t 120)])] (some [0, 2, 3, 8, 9, 14]))
(.ops [mvO 122 14,
pO 123 122 1,
mvO 1 123] (some [0, 1, 2, 3, 8, 9]))))
(.seq (.ops [mvO 124 17,
mvO 125 18,
opO 126 (.ibin .geq .i64 (.t 124) (.t 125)),
mvO 8 126] (some [0, 1, 2, 3, 8, 9, 14]))
(.seq (.ops [mvO 127 0,
mvO 128 14,
pO 129 128 1,
mvO 130 2,
mvO 131 3,
opO 132 (.call 118 [(.t 127), (.t 129), (.t 130), (.t 131)])] (some [0, 1, 3, 8, 9, 14]))
(.ops [mvO 133 14,
mvO 2 133] (some [0, 1, 2, 3, 8, 9])))))))))))))))))))))))⟩
def ir119 : IFn := ⟨8, [.t 2],
(.seq (.ops [mO 2 0] (some [0]))
(.seq (.cond (.c (.bool false))
(.seq (.ops [mvO 3 0,
opO 4 (.conv .u32 (.t 3)),
cO 5 134 4,
mvO 2 5] (some [2]))
.ret)
.skip)
(.seq (.ops [mvO 6 0,
cO 7 135 6,
mvO 2 7] (some [2]))
.ret)))⟩
def ir120 : IFn := ⟨63, [],
(.seq (.ops [mO 6 20] none)
(.seq (.ops [mvO 10 6,
mO 7 0,
mvO 8 10] (some [0, 1, 2, 6, 7, 8]))
(.seq (.block 0 (.loop (.seq (.seq (.ops [mvO 11 8,
mvO 12 1,
opO 13 (.ibin .leq .i64 (.t 11) (.t 12))] (some [0, 1, 2, 6, 7, 8, 13]))
(.cond (.t 13)
.skip
(.exit 0)))
(.block 1 (.seq (.ops [mvO 14 0,
mvO 15 7,
mvO 16 8,
mvO 17 2,
opO 18 (.call 136 [(.t 14), (.t 15), (.t 16), (.t 17)])] (some [0, 1, 2, 6, 8]))
(.seq (.ops [mvO 19 8,
mvO 7 19] (some [0, 1, 2, 6, 7, 8]))
(.ops [mvO 20 8,
mvO 21 6,
opO 22 (.ibin .add .i64 (.t 20) (.t 21)),
mvO 8 22] (some [0, 1, 2, 6, 7, 8]))))))))
(.seq (.ops [mvO 23 0,
mvO 24 7,
mvO 25 1,
mvO 26 2,
opO 27 (.call 136 [(.t 23), (.t 24), (.t 25), (.t 26)])] (some [0, 1, 2, 6]))
(.block 2 (.loop (.seq (.seq (.ops [mvO 28 6,
mvO 29 1,
sO 30 28 29] (some [0, 1, 2, 6, 30]))
(.cond (.t 30)
.skip
(.exit 2)))
(.block 3 (.seq (.ops [mvO 31 6,
opO 32 (.ibin .mul .i64 (ci 2) (.t 31)),
mO 7 0,
mvO 8 32] (some [0, 1, 2, 6, 7, 8]))
(.seq (.block 4 (.loop (.seq (.seq (.ops [mvO 33 8,
mvO 34 1,
opO 35 (.ibin .leq .i64 (.t 33) (.t 34))] (some [0, 1, 2, 6, 7, 8, 35]))
(.cond (.t 35)
.skip
(.exit 4)))
(.block 5 (.seq (.ops [mvO 36 0,
mvO 37 7,
mvO 38 7,
mvO 39 6,
opO 40 (.ibin .add .i64 (.t 38) (.t 39)),
mvO 41 8,
mvO 42 2,
opO 43 (.call 137 [(.t 36), (.t 37), (.t 40), (.t 41), (.t 42)])] (some [0, 1, 2, 6, 8]))
(.seq (.ops [mvO 44 8,
mvO 7 44] (some [0, 1, 2, 6, 7, 8]))
(.ops [mvO 45 8,
mvO 46 6,
opO 47 (.ibin .mul .i64 (ci 2) (.t 46)),
opO 48 (.ibin .add .i64 (.t 45) (.t 47)),
mvO 8 48] (some [0, 1, 2, 6, 7, 8]))))))))
(.seq (.seq (.ops [mvO 49 7,
mvO 50 6,
opO 51 (.ibin .add .i64 (.t 49) (.t 50)),
mvO 9 51] (some [0, 1, 2, 6, 7, 9]))
(.seq (.ops [mvO 52 9,
mvO 53 1,
sO 54 52 53] (some [0, 1, 2, 6, 7, 9, 54]))
(.cond (.t 54)
(.ops [mvO 55 0,
mvO 56 7,
mvO 57 9,
mvO 58 1,
mvO 59 2,
opO 60 (.call 137 [(.t 55), (.t 56), (.t 57), (.t 58), (.t 59)])] (some [0, 1, 2, 6]))
.skip)))
(.ops [mvO 61 6,
opO 62 (.ibin .mul .i64 (.t 61) (ci 2)),
mvO 6 62] (some [0, 1, 2, 6])))))))))))))⟩
def ir121 : IFn := ⟨6, [.t 2],
(.seq (.ops [bO 2 false] (some [0]))
(.seq (.ops [mvO 3 0,
mvO 4 0,
opO 5 (.ibin .neq .i64 (.t 3) (.t 4)),
mvO 2 5] (some [2]))
.ret))⟩
def ir122 : IFn := ⟨17, [.t 4],
(.seq (.ops [bO 4 false] (some [0, 1]))
(.seq (.ops [mvO 5 0,
cO 6 121 5,
mvO 7 6,
⟨(some 8), (some (7, true)), .mov (.t 1)⟩,
⟨(some 9), (some (7, true)), .call 121 [(.t 8)]⟩,
⟨(some 10), (some (7, true)), .un .not (.t 9)⟩,
opO 11 (.pick (.t 7) (.t 10) (.c (.bool false))),
mvO 12 11,
⟨(some 13), (some (12, false)), .mov (.t 0)⟩,
⟨(some 14), (some (12, false)), .mov (.t 1)⟩,
⟨(some 15), (some (12, false)), .ibin .lss .i64 (.t 13) (.t 14)⟩,
opO 16 (.pick (.t 12) (.c (.bool true)) (.t 15)),
mvO 4 16] (some [4]))
.ret))⟩
def ir123 : IFn := ⟨6, [.t 2],
(.seq (.ops [bO 2 false] (some [0]))
(.seq (.ops [mvO 3 0,
mvO 4 0,
opO 5 (.ibin .neq .i64 (.t 3) (.t 4)),
mvO 2 5] (some [2]))
.ret))⟩
def ir124 : IFn := ⟨6, [],
(.ops [lO 3 1 1,
mvO 4 0,
opO 5 (.call 125 [(.c (.slice none 0 0)), (.t 3), (ci 1), (.t 4)])] (some []))⟩
def ir125 : IFn := ⟨38, [.t 8],
(.seq (.ops [bO 8 false] (some [0, 1, 2, 3]))
(.seq (.seq (.ops [mvO 10 0,
nO 11 10,
mvO 12 1,
opO 13 (.ibin .eql .i64 (.t 11) (.t 12))] (some [0, 1, 2, 3, 13]))
(.cond (.t 13)
(.seq (.ops [mvO 14 3,
mvO 15 0,
mvO 16 2,
opO 17 (.callv (.t 14) [(.t 15), (.t 16)]),
mvO 8 17] (some [8]))
.ret)
.skip))
(.seq (.seq (.ops [mvO 18 1,
mO 19 0] none)
(.block 0 (.loop (.seq (.ops [sO 20 19 18] none)
(.seq (.cond (.t 20)
.skip
(.exit 0))
(.seq (.block 1 (.seq (.ops [mvO 21 19,
mvO 9 21] (some [0, 1, 2, 3, 9, 18, 19]))
(.seq (.seq (.ops [mvO 22 0,
mvO 23 9,
opO 24 (.call 138 [(.t 22), (.t 23)])] (some [0, 1, 2, 3, 9, 18, 19, 24]))
(.cond (.t 24)
(.exit 1)
.skip))
(.seq (.seq (.ops [mvO 25 0,
cO 26 73 25,
mvO 27 9,
opO 28 (.bslice 1 1 [(.int .i64 0)] [(0, 1, (.t 27))]),
opO 29 (.append 1 8 (.t 26) (.t 28)),
mvO 30 1,
mvO 31 2,
mvO 32 3,
opO 33 (.call 125 [(.t 29), (.t 30), (.t 31), (.t 32)]),
opO 34 (.un .not (.t 33))] (some [0, 1, 2, 3, 18, 19, 34]))
(.cond (.t 34)
(.seq (.ops [bO 8 false] none)
.ret)
.skip))
(.ops [mvO 35 2,
opO 36 (.un .neg (.t 35)),
mvO 2 36] (some [0, 1, 2, 3, 18, 19]))))))
(.ops [pO 37 19 1,
mvO 19 37] (some [0, 1, 2, 3, 18, 19]))))))))
(.seq (.ops [bO 8 true] none)
.ret))))⟩
def ir126 : IFn := ⟨49, [],
(.seq (.ops [mvO 8 1,
pO 9 8 1,
mvO 6 9] (some [0, 1, 2, 6]))
(.block 0 (.loop (.seq (.seq (.ops [mvO 10 6,
mvO 11 2,
sO 12 10 11] (some [0, 1, 2, 6, 12]))
(.cond (.t 12)
.skip
(.exit 0)))
(.seq (.block 1 (.seq (.ops [mvO 15 6,
mvO 7 15] (some [0, 1, 2, 6, 7]))
(.block 2 (.loop (.seq (.seq (.draw (.rd 0 (mvO 16 7)
(.rd 1 (mvO 17 1)
(.rd 2 (opO 18 (.ibin .gtr .i64 (.t 16) (.t 17)))
(.rd 3 (mvO 19 18)
(.rd 4 ⟨(some 20), (some (19, true)), .mov (.t 0)⟩
(.rd 5 ⟨(some 21), (some (19, true)), .mov (.t 7)⟩
(.rd 6 ⟨(some 22), (some (19, true)), .iaddr 1 (.t 20) (.t 21)⟩
(.rd 7 ⟨(some 23), (some (19, true)), .load 1 false (.t 22)⟩
(.rd 8 ⟨(some 24), (some (19, true)), .mov (.t 0)⟩
(.rd 9 ⟨(some 25), (some (19, true)), .mov (.t 7)⟩
(.rd 10 ⟨(some 26), (some (19, true)), .ibin .sub .i64 (.t 25) (ci 1)⟩
(.rd 11 ⟨(some 27), (some (19, true)), .iaddr 1 (.t 24) (.t 26)⟩
(.rd 12 ⟨(some 28), (some (19, true)), .load 1 false (.t 27)⟩
(.wr 13 ⟨(some 29), (some (19, true)), .call 122 [(.t 23), (.t 28)]⟩ [7, 12, 3, 3]
(.rd 14 (opO 30 (.pick (.t 19) (.t 29) (.c (.bool false))))
.fin) .no)))))))))))))) (some [0, 1, 2, 6, 7, 30]))
(.cond (.t 30)
.skip
(.exit 2)))
(.seq (.block 3 (.draw (.rd 0 (mvO 33 0)
(.rd 1 (mvO 34 7)
(.rd 2 (mvO 35 0)
(.rd 3 (mvO 36 7)
(.rd 4 (opO 37 (.ibin .sub .i64 (.t 36) (ci 1)))
(.rd 5 (mvO 38 0)
(.rd 6 (mvO 39 7)
(.rd 7 (opO 40 (.ibin .sub .i64 (.t 39) (ci 1)))
(.rd 8 (iO 41 1 38 40)
(.rd 9 (lO 42 1 41)
(.rd 10 (mvO 43 0)
(.rd 11 (mvO 44 7)
(.rd 12 (iO 45 1 43 44)
(.rd 13 (lO 46 1 45)
(.rd 14 (iO 47 1 33 34)
(.wr 15 ⟨none, none, .store 1 (.t 47) (.t 42)⟩ [14, 9, 0, 1, 5, 6, 7, 8, 9, 13]
(.rd 16 (iO 48 1 35 37)
(.wr 17 ⟨none, none, .store 1 (.t 48) (.t 46)⟩ [16, 13, 15, 0, 1, 2, 3, 4, 5, 6, 7, 8, 9, 10, 11, 12, 13, 14, 15]
.fin .no)) .no)))))))))))))))) (some [0, 1, 2, 6, 7])))
(.ops [mvO 31 7,
opO 32 (.ibin .sub .i64 (.t 31) (ci 1)),
mvO 7 32] (some [0, 1, 2, 6, 7]))))))))
(.ops [mvO 13 6,
pO 14 13 1,
mvO 6 14] (some [0, 1, 2, 6])))))))⟩
def ir127 : IFn := ⟨56, [],
(.seq (.ops [mvO 11 1,
mvO 6 11] (some [0, 1, 2, 6]))
(.seq (.ops [mO 7 0] none)
(.seq (.ops [mvO 12 2,
mvO 13 1,
opO 14 (.ibin .sub .i64 (.t 12) (.t 13)),
mvO 8 14] (some [0, 6, 7, 8]))
(.seq (.seq (.ops [mvO 15 8,
opO 16 (.ibin .sub .i64 (.t 15) (ci 1)),
opO 17 (.ibin .quo .i64 (.t 16) (ci 2)),
mvO 9 17] (some [0, 6, 7, 8, 9]))
(.block 0 (.loop (.seq (.seq (.ops [mvO 18 9,
opO 19 (.ibin .geq .i64 (.t 18) (ci 0))] (some [0, 6, 7, 8, 9, 19]))
(.cond (.t 19)
.skip
(.exit 0)))
(.seq (.block 1 (.ops [mvO 22 0,
mvO 23 9,
mvO 24 8,
mvO 25 6,
opO 26 (.call 139 [(.t 22), (.t 23), (.t 24), (.t 25)])] (some [0, 6, 7, 8, 9])))
(.ops [mvO 20 9,
opO 21 (.ibin .sub .i64 (.t 20) (ci 1)),
mvO 9 21] (some [0, 6, 7, 8, 9])))))))
(.seq (.ops [mvO 27 8,
opO 28 (.ibin .sub .i64 (.t 27) (ci 1)),
mvO 10 28] (some [0, 6, 7, 10]))
(.block 2 (.loop (.seq (.seq (.ops [mvO 29 10,
opO 30 (.ibin .geq .i64 (.t 29) (ci 0))] (some [0, 6, 7, 10, 30]))
(.cond (.t 30)
.skip
(.exit 2)))
(.seq (.block 3 (.seq (.draw (.rd 0 (mvO 33 0)
(.rd 1 (mvO 34 6)
(.rd 2 (mvO 35 0)
(.rd 3 (mvO 36 6)
(.rd 4 (mvO 37 10)
(.rd 5 (opO 38 (.ibin .add .i64 (.t 36) (.t 37)))
(.rd 6 (mvO 39 0)
(.rd 7 (mvO 40 6)
(.rd 8 (mvO 41 10)
(.rd 9 (opO 42 (.ibin .add .i64 (.t 40) (.t 41)))
(.rd 10 (iO 43 1 39 42)
(.rd 11 (lO 44 1 43)
(.rd 12 (mvO 45 0)
(.rd 13 (mvO 46 6)
(.rd 14 (iO 47 1 45 46)
(.rd 15 (lO 48 1 47)
(.rd 16 (iO 49 1 33 34)
(.wr 17 ⟨none, none, .store 1 (.t 49) (.t 44)⟩ [16, 11, 0, 1, 6, 7, 8, 9, 10, 11, 15]
(.rd 18 (iO 50 1 35 38)
(.wr 19 ⟨none, none, .store 1 (.t 50) (.t 48)⟩ [18, 15, 17, 0, 1, 2, 3, 4, 5, 6, 7, 8, 9, 10, 11, 12, 13, 14, 15, 16, 17]
.fin .no)) .no)))))))))))))))))) (some [0, 6, 7, 10]))
(.ops [mvO 51 0,
mvO 52 7,
mvO 53 10,
mvO 54 6,
opO 55 (.call 139 [(.t 51), (.t 52), (.t 53), (.t 54)])] (some [0, 6, 7, 10]))))
(.ops [mvO 31 10,
opO 32 (.ibin .sub .i64 (.t 31) (ci 1)),
mvO 10 32] (some [0, 6, 7, 10])))))))))))⟩
def ir128 : IFn := ⟨65, [],
(.seq (.ops [mvO 11 2,
mvO 12 1,
opO 13 (.ibin .sub .i64 (.t 11) (.t 12)),
mvO 6 13] (some [0, 1, 6]))
(.seq (.ops [mvO 14 6,
opO 15 (.ibin .geq .i64 (.t 14) (ci 8))] (some [0, 1, 6, 15]))
(.cond (.t 15)
(.seq (.ops [mvO 16 6,
opO 17 (.conv .u64 (.t 16)),
opO 7 (.alloc [(.int .u64 0)]),
⟨none, none, .store 1 (.t 7) (.t 17)⟩] (some [0, 1, 6, 7]))
(.seq (.ops [mvO 18 6,
cO 19 140 18,
mvO 8 19] (some [0, 1, 6, 7, 8]))
(.seq (.ops [mvO 20 1,
mvO 21 6,
opO 22 (.ibin .quo .i64 (.t 21) (ci 4)),
opO 23 (.ibin .mul .i64 (.t 22) (ci 2)),
opO 24 (.ibin .add .i64 (.t 20) (.t 23)),
opO 25 (.ibin .sub .i64 (.t 24) (ci 1)),
mvO 9 25] (some [0, 1, 6, 7, 8, 9]))
(.block 0 (.loop (.seq (.seq (.ops [mvO 26 9,
mvO 27 1,
mvO 28 6,
opO 29 (.ibin .quo .i64 (.t 28) (ci 4)),
opO 30 (.ibin .mul .i64 (.t 29) (ci 2)),
opO 31 (.ibin .add .i64 (.t 27) (.t 30)),
pO 32 31 1,
opO 33 (.ibin .leq .i64 (.t 26) (.t 32))] (some [0, 1, 6, 7, 8, 9, 33]))
(.cond (.t 33)
.skip
(.exit 0)))
(.seq (.block 1 (.seq (.ops [cO 36 141 7,
mvO 37 8,
opO 38 (.ibin .sub .u64 (.t 37) (.c (.int .u64 1))),
opO 39 (.ibin .and .u64 (.t 36) (.t 38)),
opO 40 (.conv .i64 (.t 39)),
mvO 10 40] (some [0, 1, 6, 7, 8, 9, 10]))
(.seq (.seq (.ops [mvO 41 10,
mvO 42 6,
opO 43 (.ibin .geq .i64 (.t 41) (.t 42))] (some [0, 1, 6, 7, 8, 9, 10, 43]))
(.cond (.t 43)
(.ops [mvO 44 10,
mvO 45 6,
opO 46 (.ibin .sub .i64 (.t 44) (.t 45)),
mvO 10 46] (some [0, 1, 6, 7, 8, 9, 10]))
.skip))
(.draw (.rd 0 (mvO 47 0)
(.rd 1 (mvO 48 9)
(.rd 2 (mvO 49 0)
(.rd 3 (mvO 50 1)
(.rd 4 (mvO 51 10)
(.rd 5 (opO 52 (.ibin .add .i64 (.t 50) (.t 51)))
(.rd 6 (mvO 53 0)
(.rd 7 (mvO 54 1)
(.rd 8 (mvO 55 10)
(.rd 9 (opO 56 (.ibin .add .i64 (.t 54) (.t 55)))
(.rd 10 (iO 57 1 53 56)
(.rd 11 (lO 58 1 57)
(.rd 12 (mvO 59 0)
(.rd 13 (mvO 60 9)
(.rd 14 (iO 61 1 59 60)
(.rd 15 (lO 62 1 61)
(.rd 16 (iO 63 1 47 48)
(.wr 17 ⟨none, none, .store 1 (.t 63) (.t 58)⟩ [16, 11, 0, 1, 6, 7, 8, 9, 10, 11, 15]
(.rd 18 (iO 64 1 49 52)
(.wr 19 ⟨none, none, .store 1 (.t 64) (.t 62)⟩ [18, 15, 17, 0, 1, 2, 3, 4, 5, 6, 7, 8, 9, 10, 11, 12, 13, 14, 15, 16, 17]
.fin .no)) .no)))))))))))))))))) (some [0, 1, 6, 7, 8, 9])))))
(.ops [mvO 34 9,
pO 35 34 1,
mvO 9 35] (some [0, 1, 6, 7, 8, 9])))))))))
.skip)))⟩
def ir129 : IFn := ⟨57, [.t 6, .t 7],
(.seq (.ops [mO 6 0,
mO 7 0] (some [0, 1, 2]))
(.seq (.ops [mvO 13 2,
mvO 14 1,
opO 15 (.ibin .sub .i64 (.t 13) (.t 14)),
mvO 8 15] (some [0, 1, 8]))
(.seq (.ops [opO 9 (.alloc [(.int .i64 0)])] none)
(.seq (.ops [mvO 16 1,
mvO 17 8,
opO 18 (.ibin .quo .i64 (.t 17) (ci 4)),
opO 19 (.ibin .mul .i64 (.t 18) (ci 1)),
opO 20 (.ibin .add .i64 (.t 16) (.t 19)),
mvO 10 20] (some [0, 1, 8, 9, 10]))
(.seq (.ops [mvO 21 1,
mvO 22 8,
opO 23 (.ibin .quo .i64 (.t 22) (ci 4)),
opO 24 (.ibin .mul .i64 (.t 23) (ci 2)),
opO 25 (.ibin .add .i64 (.t 21) (.t 24)),
mvO 11 25] (some [0, 1, 8, 9, 10, 11]))
(.seq (.ops [mvO 26 1,
mvO 27 8,
opO 28 (.ibin .quo .i64 (.t 27) (ci 4)),
opO 29 (.ibin .mul .i64 (.t 28) (ci 3)),
opO 30 (.ibin .add .i64 (.t 26) (.t 29)),
mvO 12 30] (some [0, 8, 9, 10, 11, 12]))
(.seq (.seq (.ops [mvO 31 8,
opO 32 (.ibin .geq .i64 (.t 31) (ci 8))] (some [0, 8, 9, 10, 11, 12, 32]))
(.cond (.t 32)
(.seq (.seq (.ops [mvO 33 8,
opO 34 (.ibin .geq .i64 (.t 33) (ci 50))] (some [0, 9, 10, 11, 12, 34]))
(.cond (.t 34)
(.seq (.ops [mvO 35 0,
mvO 36 10,
opO 37 (.call 142 [(.t 35), (.t 36), (.t 9)]),
mvO 10 37] (some [0, 9, 10, 11, 12]))
(.seq (.ops [mvO 38 0,
mvO 39 11,
opO 40 (.call 142 [(.t 38), (.t 39), (.t 9)]),
mvO 11 40] (some [0, 9, 10, 11, 12]))
(.ops [mvO 41 0,
mvO 42 12,
opO 43 (.call 142 [(.t 41), (.t 42), (.t 9)]),
mvO 12 43] (some [0, 9, 10, 11, 12]))))
.skip))
(.ops [mvO 44 0,
mvO 45 10,
mvO 46 11,
mvO 47 12,
opO 48 (.call 143 [(.t 44), (.t 45), (.t 46), (.t 47), (.t 9)]),
mvO 11 48] (some [9, 11])))
.skip))
(.seq (.ops [lO 49 1 9] (some [11, 49]))
(.block 0 (.seq (.ops [opO 52 (.ibin .eql .i64 (.t 49) (ci 0)),
mvO 51 52] (some [11, 49, 51]))
(.cond (.t 51)
(.seq (.ops [mvO 53 11,
mvO 6 53,
mO 7 1] (some [6, 7]))
.ret)
(.seq (.ops [opO 55 (.ibin .eql .i64 (.t 49) (ci 12)),
mvO 54 55] (some [11, 54]))
(.cond (.t 54)
(.seq (.ops [mvO 56 11,
mvO 6 56,
mO 7 2] (some [6, 7]))
.ret)
(.seq (.ops [mvO 50 11,
mvO 6 50,
mO 7 0] (some [6, 7]))
.ret))))))))))))))⟩
def ir130 : IFn := ⟨32, [],
(.seq (.ops [mvO 8 1,
mvO 6 8] (some [0, 2, 6]))
(.seq (.ops [mvO 9 2,
opO 10 (.ibin .sub .i64 (.t 9) (ci 1)),
mvO 7 10] (some [0, 6, 7]))
(.block 0 (.loop (.seq (.seq (.ops [mvO 11 6,
mvO 12 7,
sO 13 11 12] (some [0, 6, 7, 13]))
(.cond (.t 13)
.skip
(.exit 0)))
(.block 1 (.seq (.draw (.rd 0 (mvO 14 0)
(.rd 1 (mvO 15 6)
(.rd 2 (mvO 16 0)
(.rd 3 (mvO 17 7)
(.rd 4 (mvO 18 0)
(.rd 5 (mvO 19 7)
(.rd 6 (iO 20 1 18 19)
(.rd 7 (lO 21 1 20)
(.rd 8 (mvO 22 0)
(.rd 9 (mvO 23 6)
(.rd 10 (iO 24 1 22 23)
(.rd 11 (lO 25 1 24)
(.rd 12 (iO 26 1 14 15)
(.wr 13 ⟨none, none, .store 1 (.t 26) (.t 21)⟩ [12, 7, 0, 1, 4, 5, 6, 7, 11]
(.rd 14 (iO 27 1 16 17)
(.wr 15 ⟨none, none, .store 1 (.t 27) (.t 25)⟩ [14, 11, 13, 0, 1, 2, 3, 4, 5, 6, 7, 8, 9, 10, 11, 12, 13]
.fin .no)) .no)))))))))))))) (some [0, 6, 7]))
(.seq (.ops [mvO 28 6,
pO 29 28 1,
mvO 6 29] (some [0, 6, 7]))
(.ops [mvO 30 7,
opO 31 (.ibin .sub .i64 (.t 30) (ci 1)),
mvO 7 31] (some [0, 6, 7]))))))))))⟩
def ir131 : IFn := ⟨133, [.t 6],
(.seq (.ops [bO 6 false] (some [0, 1, 2]))
(.seq (.ops [mvO 11 1,
pO 12 11 1,
mvO 7 12] (some [0, 1, 2, 7]))
(.seq (.seq (.ops [mO 8 0] none)
(.block 0 (.loop (.seq (.seq (.ops [mvO 13 8,
opO 14 (.ibin .lss .i64 (.t 13) (ci 5))] (some [0, 1, 2, 7, 8, 14]))
(.cond (.t 14)
.skip
(.exit 0)))
(.seq (.block 1 (.seq (.block 2 (.loop (.seq (.seq (.draw (.rd 0 (mvO 17 7)
(.rd 1 (mvO 18 2)
(.rd 2 (sO 19 17 18)
(.rd 3 (mvO 20 19)
(.rd 4 ⟨(some 21), (some (20, true)), .mov (.t 0)⟩
(.rd 5 ⟨(some 22), (some (20, true)), .mov (.t 7)⟩
(.rd 6 ⟨(some 23), (some (20, true)), .iaddr 1 (.t 21) (.t 22)⟩
(.rd 7 ⟨(some 24), (some (20, true)), .load 1 false (.t 23)⟩
(.rd 8 ⟨(some 25), (some (20, true)), .mov (.t 0)⟩
(.rd 9 ⟨(some 26), (some (20, true)), .mov (.t 7)⟩
(.rd 10 ⟨(some 27), (some (20, true)), .ibin .sub .i64 (.t 26) (ci 1)⟩
(.rd 11 ⟨(some 28), (some (20, true)), .iaddr 1 (.t 25) (.t 27)⟩
(.rd 12 ⟨(some 29), (some (20, true)), .load 1 false (.t 28)⟩
(.wr 13 ⟨(some 30), (some (20, true)), .call 122 [(.t 24), (.t 29)]⟩ [7, 12, 3, 3]
(.rd 14 ⟨(some 31), (some (20, true)), .un .not (.t 30)⟩
(.rd 15 (opO 32 (.pick (.t 20) (.t 31) (.c (.bool false))))
.fin)) .no)))))))))))))) (some [0, 1, 2, 7, 8, 32]))
(.cond (.t 32)
.skip
(.exit 2)))
(.block 3 (.ops [mvO 33 7,
pO 34 33 1,
mvO 7 34] (some [0, 1, 2, 7, 8]))))))
(.seq (.seq (.ops [mvO 35 7,
mvO 36 2,
opO 37 (.ibin .eql .i64 (.t 35) (.t 36))] (some [0, 1, 2, 7, 8, 37]))
(.cond (.t 37)
(.seq (.ops [bO 6 true] none)
.ret)
.skip))
(.seq (.seq (.ops [mvO 38 2,
mvO 39 1,
opO 40 (.ibin .sub .i64 (.t 38) (.t 39)),
opO 41 (.ibin .lss .i64 (.t 40) (ci 50))] (some [0, 1, 2, 7, 8, 41]))
(.cond (.t 41)
(.seq (.ops [bO 6 false] none)
.ret)
.skip))
(.seq (.draw (.rd 0 (mvO 42 0)
(.rd 1 (mvO 43 7)
(.rd 2 (mvO 44 0)
(.rd 3 (mvO 45 7)
(.rd 4 (opO 46 (.ibin .sub .i64 (.t 45) (ci 1)))
(.rd 5 (mvO 47 0)
(.rd 6 (mvO 48 7)
(.rd 7 (opO 49 (.ibin .sub .i64 (.t 48) (ci 1)))
(.rd 8 (iO 50 1 47 49)
(.rd 9 (lO 51 1 50)
(.rd 10 (mvO 52 0)
(.rd 11 (mvO 53 7)
(.rd 12 (iO 54 1 52 53)
(.rd 13 (lO 55 1 54)
(.rd 14 (iO 56 1 42 43)
(.wr 15 ⟨none, none, .store 1 (.t 56) (.t 51)⟩ [14, 9, 0, 1, 5, 6, 7, 8, 9, 13]
(.rd 16 (iO 57 1 44 46)
(.wr 17 ⟨none, none, .store 1 (.t 57) (.t 55)⟩ [16, 13, 15, 0, 1, 2, 3, 4, 5, 6, 7, 8, 9, 10, 11, 12, 13, 14, 15]
.fin .no)) .no)))))))))))))))) (some [0, 1, 2, 7, 8]))
(.seq (.seq (.ops [mvO 58 7,
mvO 59 1,
opO 60 (.ibin .sub .i64 (.t 58) (.t 59)),
opO 61 (.ibin .geq .i64 (.t 60) (ci 2))] (some [0, 1, 2, 7, 8, 61]))
(.cond (.t 61)
(.seq (.ops [mvO 62 7,
opO 63 (.ibin .sub .i64 (.t 62) (ci 1)),
mvO 9 63] (some [0, 1, 2, 7, 8, 9]))
(.block 4 (.loop (.seq (.seq (.ops [mvO 64 9,
opO 65 (.ibin .geq .i64 (.t 64) (ci 1))] (some [0, 1, 2, 7, 8, 9, 65]))
(.cond (.t 65)
.skip
(.exit 4)))
(.seq (.block 5 (.seq (.seq (.draw (.rd 0 (mvO 68 0)
(.rd 1 (mvO 69 9)
(.rd 2 (iO 70 1 68 69)
(.rd 3 (lO 71 1 70)
(.rd 4 (mvO 72 0)
(.rd 5 (mvO 73 9)
(.rd 6 (opO 74 (.ibin .sub .i64 (.t 73) (ci 1)))
(.rd 7 (iO 75 1 72 74)
(.rd 8 (lO 76 1 75)
(.wr 9 (opO 77 (.call 122 [(.t 71), (.t 76)])) [3, 8]
(.rd 10 (opO 78 (.un .not (.t 77)))
.fin) .no)))))))))) (some [0, 1, 2, 7, 8, 9, 78]))
(.cond (.t 78)
(.exit 4)
.skip))
(.draw (.rd 0 (mvO 79 0)
(.rd 1 (mvO 80 9)
(.rd 2 (mvO 81 0)
(.rd 3 (mvO 82 9)
(.rd 4 (opO 83 (.ibin .sub .i64 (.t 82) (ci 1)))
(.rd 5 (mvO 84 0)
(.rd 6 (mvO 85 9)
(.rd 7 (opO 86 (.ibin .sub .i64 (.t 85) (ci 1)))
(.rd 8 (iO 87 1 84 86)
(.rd 9 (lO 88 1 87)
(.rd 10 (mvO 89 0)
(.rd 11 (mvO 90 9)
(.rd 12 (iO 91 1 89 90)
(.rd 13 (lO 92 1 91)
(.rd 14 (iO 93 1 79 80)
(.wr 15 ⟨none, none, .store 1 (.t 93) (.t 88)⟩ [14, 9, 0, 1, 5, 6, 7, 8, 9, 13]
(.rd 16 (iO 94 1 81 83)
(.wr 17 ⟨none, none, .store 1 (.t 94) (.t 92)⟩ [16, 13, 15, 0, 1, 2, 3, 4, 5, 6, 7, 8, 9, 10, 11, 12, 13, 14, 15]
.fin .no)) .no)))))))))))))))) (some [0, 1, 2, 7, 8, 9]))))
(.ops [mvO 66 9,
opO 67 (.ibin .sub .i64 (.t 66) (ci 1)),
mvO 9 67] (some [0, 1, 2, 7, 8, 9])))))))
.skip))
(.seq (.ops [mvO 95 2,
mvO 96 7,
opO 97 (.ibin .sub .i64 (.t 95) (.t 96)),
opO 98 (.ibin .geq .i64 (.t 97) (ci 2))] (some [0, 1, 2, 7, 8, 98]))
(.cond (.t 98)
(.seq (.ops [mvO 99 7,
pO 100 99 1,
mvO 10 100] (some [0, 1, 2, 7, 8, 10]))
(.block 6 (.loop (.seq (.seq (.ops [mvO 101 10,
mvO 102 2,
sO 103 101 102] (some [0, 1, 2, 7, 8, 10, 103]))
(.cond (.t 103)
.skip
(.exit 6)))
(.seq (.block 7 (.seq (.seq (.draw (.rd 0 (mvO 106 0)
(.rd 1 (mvO 107 10)
(.rd 2 (iO 108 1 106 107)
(.rd 3 (lO 109 1 108)
(.rd 4 (mvO 110 0)
(.rd 5 (mvO 111 10)
(.rd 6 (opO 112 (.ibin .sub .i64 (.t 111) (ci 1)))
(.rd 7 (iO 113 1 110 112)
(.rd 8 (lO 114 1 113)
(.wr 9 (opO 115 (.call 122 [(.t 109), (.t 114)])) [3, 8]
(.rd 10 (opO 116 (.un .not (.t 115)))
.fin) .no)))))))))) (some [0, 1, 2, 7, 8, 10, 116]))
(.cond (.t 116)
(.exit 6)
.skip))
(.draw (.rd 0 (mvO 117 0)
(.rd 1 (mvO 118 10)
(.rd 2 (mvO 119 0)
(.rd 3 (mvO 120 10)
(.rd 4 (opO 121 (.ibin .sub .i64 (.t 120) (ci 1)))
(.rd 5 (mvO 122 0)
(.rd 6 (mvO 123 10)
(.rd 7 (opO 124 (.ibin .sub .i64 (.t 123) (ci 1)))
(.rd 8 (iO 125 1 122 124)
(.rd 9 (lO 126 1 125)
(.rd 10 (mvO 127 0)
(.rd 11 (mvO 128 10)
(.rd 12 (iO 129 1 127 128)
(.rd 13 (lO 130 1 129)
(.rd 14 (iO 131 1 117 118)
(.wr 15 ⟨none, none, .store 1 (.t 131) (.t 126)⟩ [14, 9, 0, 1, 5, 6, 7, 8, 9, 13]
(.rd 16 (iO 132 1 119 121)
(.wr 17 ⟨none, none, .store 1 (.t 132) (.t 130)⟩ [16, 13, 15, 0, 1, 2, 3, 4, 5, 6, 7, 8, 9, 10, 11, 12, 13, 14, 15]
.fin .no)) .no)))))))))))))))) (some [0, 1, 2, 7, 8, 10]))))
(.ops [mvO 104 10,
pO 105 104 1,
mvO 10 105] (some [0, 1, 2, 7, 8, 10])))))))
.skip))))))))
(.ops [mvO 15 8,
pO 16 15 1,
mvO 8 16] (some [0, 1, 2, 7, 8])))))))
(.seq (.ops [bO 6 false] none)
.ret))))⟩
def ir132 : IFn := ⟨84, [.t 8],
(.seq (.ops [mO 8 0] (some [0, 1, 2, 3]))
(.seq (.draw (.rd 0 (mvO 11 0)
(.rd 1 (mvO 12 1)
(.rd 2 (mvO 13 0)
(.rd 3 (mvO 14 3)
(.rd 4 (mvO 15 0)
(.rd 5 (mvO 16 3)
(.rd 6 (iO 17 1 15 16)
(.rd 7 (lO 18 1 17)
(.rd 8 (mvO 19 0)
(.rd 9 (mvO 20 1)
(.rd 10 (iO 21 1 19 20)
(.rd 11 (lO 22 1 21)
(.rd 12 (iO 23 1 11 12)
(.wr 13 ⟨none, none, .store 1 (.t 23) (.t 18)⟩ [12, 7, 0, 1, 4, 5, 6, 7, 11]
(.rd 14 (iO 24 1 13 14)
(.wr 15 ⟨none, none, .store 1 (.t 24) (.t 22)⟩ [14, 11, 13, 0, 1, 2, 3, 4, 5, 6, 7, 8, 9, 10, 11, 12, 13]
.fin .no)) .no)))))))))))))) (some [0, 1, 2]))
(.seq (.ops [mvO 25 1,
pO 26 25 1,
mvO 27 2,
opO 28 (.ibin .sub .i64 (.t 27) (ci 1)),
mvO 9 26,
mvO 10 28] (some [0, 1, 9, 10]))
(.seq (.block 0 (.loop (.block 1 (.seq (.block 2 (.loop (.seq (.seq (.draw (.rd 0 (mvO 29 9)
(.rd 1 (mvO 30 10)
(.rd 2 (opO 31 (.ibin .leq .i64 (.t 29) (.t 30)))
(.rd 3 (mvO 32 31)
(.rd 4 ⟨(some 33), (some (32, true)), .mov (.t 0)⟩
(.rd 5 ⟨(some 34), (some (32, true)), .mov (.t 1)⟩
(.rd 6 ⟨(some 35), (some (32, true)), .iaddr 1 (.t 33) (.t 34)⟩
(.rd 7 ⟨(some 36), (some (32, true)), .load 1 false (.t 35)⟩
(.rd 8 ⟨(some 37), (some (32, true)), .mov (.t 0)⟩
(.rd 9 ⟨(some 38), (some (32, true)), .mov (.t 9)⟩
(.rd 10 ⟨(some 39), (some (32, true)), .iaddr 1 (.t 37) (.t 38)⟩
(.rd 11 ⟨(some 40), (some (32, true)), .load 1 false (.t 39)⟩
(.wr 12 ⟨(some 41), (some (32, true)), .call 122 [(.t 36), (.t 40)]⟩ [7, 11, 3, 3]
(.rd 13 ⟨(some 42), (some (32, true)), .un .not (.t 41)⟩
(.rd 14 (opO 43 (.pick (.t 32) (.t 42) (.c (.bool false))))
.fin)) .no))))))))))))) (some [0, 1, 9, 10, 43]))
(.cond (.t 43)
.skip
(.exit 2)))
(.block 3 (.ops [mvO 44 9,
pO 45 44 1,
mvO 9 45] (some [0, 1, 9, 10]))))))
(.seq (.block 4 (.loop (.seq (.seq (.draw (.rd 0 (mvO 46 9)
(.rd 1 (mvO 47 10)
(.rd 2 (opO 48 (.ibin .leq .i64 (.t 46) (.t 47)))
(.rd 3 (mvO 49 48)
(.rd 4 ⟨(some 50), (some (49, true)), .mov (.t 0)⟩
(.rd 5 ⟨(some 51), (some (49, true)), .mov (.t 1)⟩
(.rd 6 ⟨(some 52), (some (49, true)), .iaddr 1 (.t 50) (.t 51)⟩
(.rd 7 ⟨(some 53), (some (49, true)), .load 1 false (.t 52)⟩
(.rd 8 ⟨(some 54), (some (49, true)), .mov (.t 0)⟩
(.rd 9 ⟨(some 55), (some (49, true)), .mov (.t 10)⟩
(.rd 10 ⟨(some 56), (some (49, true)), .iaddr 1 (.t 54) (.t 55)⟩
(.rd 11 ⟨(some 57), (some (49, true)), .load 1 false (.t 56)⟩
(.wr 12 ⟨(some 58), (some (49, true)), .call 122 [(.t 53), (.t 57)]⟩ [7, 11, 3, 3]
(.rd 13 (opO 59 (.pick (.t 49) (.t 58) (.c (.bool false))))
.fin) .no))))))))))))) (some [0, 1, 9, 10, 59]))
(.cond (.t 59)
.skip
(.exit 4)))
(.block 5 (.ops [mvO 60 10,
opO 61 (.ibin .sub .i64 (.t 60) (ci 1)),
mvO 10 61] (some [0, 1, 9, 10]))))))
(.seq (.seq (.ops [mvO 62 9,
mvO 63 10,
opO 64 (.ibin .gtr .i64 (.t 62) (.t 63))] (some [0, 1, 9, 10, 64]))
(.cond (.t 64)
(.exit 0)
.skip))
(.seq (.draw (.rd 0 (mvO 65 0)
(.rd 1 (mvO 66 9)
(.rd 2 (mvO 67 0)
(.rd 3 (mvO 68 10)
(.rd 4 (mvO 69 0)
(.rd 5 (mvO 70 10)
(.rd 6 (iO 71 1 69 70)
(.rd 7 (lO 72 1 71)
(.rd 8 (mvO 73 0)
(.rd 9 (mvO 74 9)
(.rd 10 (iO 75 1 73 74)
(.rd 11 (lO 76 1 75)
(.rd 12 (iO 77 1 65 66)
(.wr 13 ⟨none, none, .store 1 (.t 77) (.t 72)⟩ [12, 7, 0, 1, 4, 5, 6, 7, 11]
(.rd 14 (iO 78 1 67 68)
(.wr 15 ⟨none, none, .store 1 (.t 78) (.t 76)⟩ [14, 11, 13, 0, 1, 2, 3, 4, 5, 6, 7, 8, 9, 10, 11, 12, 13]
.fin .no)) .no)))))))))))))) (some [0, 1, 9, 10]))
(.seq (.ops [mvO 79 9,
pO 80 79 1,
mvO 9 80] (some [0, 1, 9, 10]))
(.ops [mvO 81 10,
opO 82 (.ibin .sub .i64 (.t 81) (ci 1)),
mvO 10 82] (some [0, 1, 9, 10]))))))))))
(.seq (.ops [mvO 83 9,
mvO 8 83] (some [8]))
.ret)))))⟩
def ir133 : IFn := ⟨168, [.t 8, .t 9],
(.seq (.ops [mO 8 0,
bO 9 false] (some [0, 1, 2, 3]))
(.seq (.draw (.rd 0 (mvO 12 0)
(.rd 1 (mvO 13 1)
(.rd 2 (mvO 14 0)
(.rd 3 (mvO 15 3)
(.rd 4 (mvO 16 0)
(.rd 5 (mvO 17 3)
(.rd 6 (iO 18 1 16 17)
(.rd 7 (lO 19 1 18)
(.rd 8 (mvO 20 0)
(.rd 9 (mvO 21 1)
(.rd 10 (iO 22 1 20 21)
(.rd 11 (lO 23 1 22)
(.rd 12 (iO 24 1 12 13)
(.wr 13 ⟨none, none, .store 1 (.t 24) (.t 19)⟩ [12, 7, 0, 1, 4, 5, 6, 7, 11]
(.rd 14 (iO 25 1 14 15)
(.wr 15 ⟨none, none, .store 1 (.t 25) (.t 23)⟩ [14, 11, 13, 0, 1, 2, 3, 4, 5, 6, 7, 8, 9, 10, 11, 12, 13]
.fin .no)) .no)))))))))))))) (some [0, 1, 2]))
(.seq (.ops [mvO 26 1,
pO 27 26 1,
mvO 28 2,
opO 29 (.ibin .sub .i64 (.t 28) (ci 1)),
mvO 10 27,
mvO 11 29] (some [0, 1, 10, 11]))
(.seq (.block 0 (.loop (.seq (.seq (.draw (.rd 0 (mvO 30 10)
(.rd 1 (mvO 31 11)
(.rd 2 (opO 32 (.ibin .leq .i64 (.t 30) (.t 31)))
(.rd 3 (mvO 33 32)
(.rd 4 ⟨(some 34), (some (33, true)), .mov (.t 0)⟩
(.rd 5 ⟨(some 35), (some (33, true)), .mov (.t 10)⟩
(.rd 6 ⟨(some 36), (some (33, true)), .iaddr 1 (.t 34) (.t 35)⟩
(.rd 7 ⟨(some 37), (some (33, true)), .load 1 false (.t 36)⟩
(.rd 8 ⟨(some 38), (some (33, true)), .mov (.t 0)⟩
(.rd 9 ⟨(some 39), (some (33, true)), .mov (.t 1)⟩
(.rd 10 ⟨(some 40), (some (33, true)), .iaddr 1 (.t 38) (.t 39)⟩
(.rd 11 ⟨(some 41), (some (33, true)), .load 1 false (.t 40)⟩
(.wr 12 ⟨(some 42), (some (33, true)), .call 122 [(.t 37), (.t 41)]⟩ [7, 11, 3, 3]
(.rd 13 (opO 43 (.pick (.t 33) (.t 42) (.c (.bool false))))
.fin) .no))))))))))))) (some [0, 1, 10, 11, 43]))
(.cond (.t 43)
.skip
(.exit 0)))
(.block 1 (.ops [mvO 44 10,
pO 45 44 1,
mvO 10 45] (some [0, 1, 10, 11]))))))
(.seq (.block 2 (.loop (.seq (.seq (.draw (.rd 0 (mvO 46 10)
(.rd 1 (mvO 47 11)
(.rd 2 (opO 48 (.ibin .leq .i64 (.t 46) (.t 47)))
(.rd 3 (mvO 49 48)
(.rd 4 ⟨(some 50), (some (49, true)), .mov (.t 0)⟩
(.rd 5 ⟨(some 51), (some (49, true)), .mov (.t 11)⟩
(.rd 6 ⟨(some 52), (some (49, true)), .iaddr 1 (.t 50) (.t 51)⟩
(.rd 7 ⟨(some 53), (some (49, true)), .load 1 false (.t 52)⟩
(.rd 8 ⟨(some 54), (some (49, true)), .mov (.t 0)⟩
(.rd 9 ⟨(some 55), (some (49, true)), .mov (.t 1)⟩
(.rd 10 ⟨(some 56), (some (49, true)), .iaddr 1 (.t 54) (.t 55)⟩
(.rd 11 ⟨(some 57), (some (49, true)), .load 1 false (.t 56)⟩
(.wr 12 ⟨(some 58), (some (49, true)), .call 122 [(.t 53), (.t 57)]⟩ [7, 11, 3, 3]
(.rd 13 ⟨(some 59), (some (49, true)), .un .not (.t 58)⟩
(.rd 14 (opO 60 (.pick (.t 49) (.t 59) (.c (.bool false))))
.fin)) .no))))))))))))) (some [0, 1, 10, 11, 60]))
(.cond (.t 60)
.skip
(.exit 2)))
(.block 3 (.ops [mvO 61 11,
opO 62 (.ibin .sub .i64 (.t 61) (ci 1)),
mvO 11 62] (some [0, 1, 10, 11]))))))
(.seq (.seq (.ops [mvO 63 10,
mvO 64 11,
opO 65 (.ibin .gtr .i64 (.t 63) (.t 64))] (some [0, 1, 10, 11, 65]))
(.cond (.t 65)
(.seq (.draw (.rd 0 (mvO 66 0)
(.rd 1 (mvO 67 11)
(.rd 2 (mvO 68 0)
(.rd 3 (mvO 69 1)
(.rd 4 (mvO 70 0)
(.rd 5 (mvO 71 1)
(.rd 6 (iO 72 1 70 71)
(.rd 7 (lO 73 1 72)
(.rd 8 (mvO 74 0)
(.rd 9 (mvO 75 11)
(.rd 10 (iO 76 1 74 75)
(.rd 11 (lO 77 1 76)
(.rd 12 (iO 78 1 66 67)
(.wr 13 ⟨none, none, .store 1 (.t 78) (.t 73)⟩ [12, 7, 0, 1, 4, 5, 6, 7, 11]
(.rd 14 (iO 79 1 68 69)
(.wr 15 ⟨none, none, .store 1 (.t 79) (.t 77)⟩ [14, 11, 13, 0, 1, 2, 3, 4, 5, 6, 7, 8, 9, 10, 11, 12, 13]
.fin .no)) .no)))))))))))))) (some [11]))
(.seq (.ops [mvO 80 11,
mvO 8 80,
bO 9 true] (some [8, 9]))
.ret))
.skip))
(.seq (.draw (.rd 0 (mvO 81 0)
(.rd 1 (mvO 82 10)
(.rd 2 (mvO 83 0)
(.rd 3 (mvO 84 11)
(.rd 4 (mvO 85 0)
(.rd 5 (mvO 86 11)
(.rd 6 (iO 87 1 85 86)
(.rd 7 (lO 88 1 87)
(.rd 8 (mvO 89 0)
(.rd 9 (mvO 90 10)
(.rd 10 (iO 91 1 89 90)
(.rd 11 (lO 92 1 91)
(.rd 12 (iO 93 1 81 82)
(.wr 13 ⟨none, none, .store 1 (.t 93) (.t 88)⟩ [12, 7, 0, 1, 4, 5, 6, 7, 11]
(.rd 14 (iO 94 1 83 84)
(.wr 15 ⟨none, none, .store 1 (.t 94) (.t 92)⟩ [14, 11, 13, 0, 1, 2, 3, 4, 5, 6, 7, 8, 9, 10, 11, 12, 13]
.fin .no)) .no)))))))))))))) (some [0, 1, 10, 11]))
(.seq (.ops [mvO 95 10,
pO 96 95 1,
mvO 10 96] (some [0, 1, 10, 11]))
(.seq (.ops [mvO 97 11,
opO 98 (.ibin .sub .i64 (.t 97) (ci 1)),
mvO 11 98] (some [0, 1, 10, 11]))
(.seq (.block 4 (.loop (.block 5 (.seq (.block 6 (.loop (.seq (.seq (.draw (.rd 0 (mvO 99 10)
(.rd 1 (mvO 100 11)
(.rd 2 (opO 101 (.ibin .leq .i64 (.t 99) (.t 100)))
(.rd 3 (mvO 102 101)
(.rd 4 ⟨(some 103), (some (102, true)), .mov (.t 0)⟩
(.rd 5 ⟨(some 104), (some (102, true)), .mov (.t 10)⟩
(.rd 6 ⟨(some 105), (some (102, true)), .iaddr 1 (.t 103) (.t 104)⟩
(.rd 7 ⟨(some 106), (some (102, true)), .load 1 false (.t 105)⟩
(.rd 8 ⟨(some 107), (some (102, true)), .mov (.t 0)⟩
(.rd 9 ⟨(some 108), (some (102, true)), .mov (.t 1)⟩
(.rd 10 ⟨(some 109), (some (102, true)), .iaddr 1 (.t 107) (.t 108)⟩
(.rd 11 ⟨(some 110), (some (102, true)), .load 1 false (.t 109)⟩
(.wr 12 ⟨(some 111), (some (102, true)), .call 122 [(.t 106), (.t 110)]⟩ [7, 11, 3, 3]
(.rd 13 (opO 112 (.pick (.t 102) (.t 111) (.c (.bool false))))
.fin) .no))))))))))))) (some [0, 1, 10, 11, 112]))
(.cond (.t 112)
.skip
(.exit 6)))
(.block 7 (.ops [mvO 113 10,
pO 114 113 1,
mvO 10 114] (some [0, 1, 10, 11]))))))
(.seq (.block 8 (.loop (.seq (.seq (.draw (.rd 0 (mvO 115 10)
(.rd 1 (mvO 116 11)
(.rd 2 (opO 117 (.ibin .leq .i64 (.t 115) (.t 116)))
(.rd 3 (mvO 118 117)
(.rd 4 ⟨(some 119), (some (118, true)), .mov (.t 0)⟩
(.rd 5 ⟨(some 120), (some (118, true)), .mov (.t 11)⟩
(.rd 6 ⟨(some 121), (some (118, true)), .iaddr 1 (.t 119) (.t 120)⟩
(.rd 7 ⟨(some 122), (some (118, true)), .load 1 false (.t 121)⟩
(.rd 8 ⟨(some 123), (some (118, true)), .mov (.t 0)⟩
(.rd 9 ⟨(some 124), (some (118, true)), .mov (.t 1)⟩
(.rd 10 ⟨(some 125), (some (118, true)), .iaddr 1 (.t 123) (.t 124)⟩
(.rd 11 ⟨(some 126), (some (118, true)), .load 1 false (.t 125)⟩
(.wr 12 ⟨(some 127), (some (118, true)), .call 122 [(.t 122), (.t 126)]⟩ [7, 11, 3, 3]
(.rd 13 ⟨(some 128), (some (118, true)), .un .not (.t 127)⟩
(.rd 14 (opO 129 (.pick (.t 118) (.t 128) (.c (.bool false))))
.fin)) .no))))))))))))) (some [0, 1, 10, 11, 129]))
(.cond (.t 129)
.skip
(.exit 8)))
(.block 9 (.ops [mvO 130 11,
opO 131 (.ibin .sub .i64 (.t 130) (ci 1)),
mvO 11 131] (some [0, 1, 10, 11]))))))
(.seq (.seq (.ops [mvO 132 10,
mvO 133 11,
opO 134 (.ibin .gtr .i64 (.t 132) (.t 133))] (some [0, 1, 10, 11, 134]))
(.cond (.t 134)
(.exit 4)
.skip))
(.seq (.draw (.rd 0 (mvO 135 0)
(.rd 1 (mvO 136 10)
(.rd 2 (mvO 137 0)
(.rd 3 (mvO 138 11)
(.rd 4 (mvO 139 0)
(.rd 5 (mvO 140 11)
(.rd 6 (iO 141 1 139 140)
(.rd 7 (lO 142 1 141)
(.rd 8 (mvO 143 0)
(.rd 9 (mvO 144 10)
(.rd 10 (iO 145 1 143 144)
(.rd 11 (lO 146 1 145)
(.rd 12 (iO 147 1 135 136)
(.wr 13 ⟨none, none, .store 1 (.t 147) (.t 142)⟩ [12, 7, 0, 1, 4, 5, 6, 7, 11]
(.rd 14 (iO 148 1 137 138)
(.wr 15 ⟨none, none, .store 1 (.t 148) (.t 146)⟩ [14, 11, 13, 0, 1, 2, 3, 4, 5, 6, 7, 8, 9, 10, 11, 12, 13]
.fin .no)) .no)))))))))))))) (some [0, 1, 10, 11]))
(.seq (.ops [mvO 149 10,
pO 150 149 1,
mvO 10 150] (some [0, 1, 10, 11]))
(.ops [mvO 151 11,
opO 152 (.ibin .sub .i64 (.t 151) (ci 1)),
mvO 11 152] (some [0, 1, 10, 11]))))))))))
(.seq (.draw (.rd 0 (mvO 153 0)
(.rd 1 (mvO 154 11)
(.rd 2 (mvO 155 0)
(.rd 3 (mvO 156 1)
(.rd 4 (mvO 157 0)
(.rd 5 (mvO 158 1)
(.rd 6 (iO 159 1 157 158)
(.rd 7 (lO 160 1 159)
(.rd 8 (mvO 161 0)
(.rd 9 (mvO 162 11)
(.rd 10 (iO 163 1 161 162)
(.rd 11 (lO 164 1 163)
(.rd 12 (iO 165 1 153 154)
(.wr 13 ⟨none, none, .store 1 (.t 165) (.t 160)⟩ [12, 7, 0, 1, 4, 5, 6, 7, 11]
(.rd 14 (iO 166 1 155 156)
(.wr 15 ⟨none, none, .store 1 (.t 166) (.t 164)⟩ [14, 11, 13, 0, 1, 2, 3, 4, 5, 6, 7, 8, 9, 10, 11, 12, 13]
.fin .no)) .no)))))))))))))) (some [11]))
(.seq (.ops [mvO 167 11,
mvO 8 167,
bO 9 false] (some [8, 9]))
.ret))))))))))))⟩
def ir134 : IFn := ⟨19, [.t 2],
(.seq (.ops [mO 2 0] none)
(.seq (.seq (.ops [mvO 3 0,
opO 4 (.ibin .geq .u32 (.t 3) (.c (.int .u32 65536)))] (some [0, 2, 4]))
(.cond (.t 4)
(.seq (.ops [mvO 5 0,
opO 6 (.shift .shr .u32 (.t 5) (.c (.int .u64 16))),
mvO 0 6] (some [0]))
(.ops [mO 2 16] none))
.skip))
(.seq (.seq (.ops [mvO 7 0,
opO 8 (.ibin .geq .u32 (.t 7) (.c (.int .u32 256)))] (some [0, 2, 8]))
(.cond (.t 8)
(.seq (.ops [mvO 9 0,
opO 10 (.shift .shr .u32 (.t 9) (.c (.int .u64 8))),
mvO 0 10] (some [0, 2]))
(.ops [mvO 11 2,
pO 12 11 8,
mvO 2 12] (some [0, 2])))
.skip))
(.seq (.ops [mvO 13 2,
mvO 14 0,
opO 15 (.conv .u8 (.t 14)),
opO 16 (.indexS (.c (.string ⟨#[0, 1, 2, 2, 3, 3, 3, 3, 4, 4, 4, 4, 4, 4, 4, 4, 5, 5, 5, 5, 5, 5, 5, 5, 5, 5, 5, 5, 5, 5, 5, 5, 6, 6, 6, 6, 6, 6, 6, 6, 6, 6, 6, 6, 6, 6, 6, 6, 6, 6, 6, 6, 6, 6, 6, 6, 6, 6, 6, 6, 6, 6, 6, 6, 7, 7, 7, 7, 7, 7, 7, 7, 7, 7, 7, 7, 7, 7, 7, 7, 7, 7, 7, 7, 7, 7, 7, 7, 7, 7, 7, 7, 7, 7, 7, 7, 7, 7, 7, 7, 7, 7, 7, 7, 7, 7, 7, 7, 7, 7, 7, 7, 7, 7, 7, 7, 7, 7, 7, 7, 7, 7, 7, 7, 7, 7, 7, 7, 8, 8, 8, 8, 8, 8, 8, 8, 8, 8, 8, 8, 8, 8, 8, 8, 8, 8, 8, 8, 8, 8, 8, 8, 8, 8, 8, 8, 8, 8, 8, 8, 8, 8, 8, 8, 8, 8, 8, 8, 8, 8, 8, 8, 8, 8, 8, 8, 8, 8, 8, 8, 8, 8, 8, 8, 8, 8, 8, 8, 8, 8, 8, 8, 8, 8, 8, 8, 8, 8, 8, 8, 8, 8, 8, 8, 8, 8, 8, 8, 8, 8, 8, 8, 8, 8, 8, 8, 8, 8, 8, 8, 8, 8, 8, 8, 8, 8, 8, 8, 8, 8, 8, 8, 8, 8, 8, 8, 8, 8, 8, 8, 8, 8, 8, 8, 8, 8, 8, 8, 8, 8, 8, 8, 8, 8, 8, 8]⟩)) (.t 15)),
opO 17 (.conv .i64 (.t 16)),
opO 18 (.ibin .add .i64 (.t 13) (.t 17)),
mvO 2 18] (some [2]))
.ret))))⟩
def ir135 : IFn := ⟨25, [.t 2],
(.seq (.ops [mO 2 0] none)
(.seq (.seq (.ops [mvO 3 0,
opO 4 (.ibin .geq .u64 (.t 3) (.c (.int .u64 4294967296)))] (some [0, 2, 4]))
(.cond (.t 4)
(.seq (.ops [mvO 5 0,
opO 6 (.shift .shr .u64 (.t 5) (.c (.int .u64 32))),
mvO 0 6] (some [0]))
(.ops [mO 2 32] none))
.skip))
(.seq (.seq (.ops [mvO 7 0,
opO 8 (.ibin .geq .u64 (.t 7) (.c (.int .u64 65536)))] (some [0, 2, 8]))
(.cond (.t 8)
(.seq (.ops [mvO 9 0,
opO 10 (.shift .shr .u64 (.t 9) (.c (.int .u64 16))),
mvO 0 10] (some [0, 2]))
(.ops [mvO 11 2,
pO 12 11 16,
mvO 2 12] (some [0, 2])))
.skip))
(.seq (.seq (.ops [mvO 13 0,
opO 14 (.ibin .geq .u64 (.t 13) (.c (.int .u64 256)))] (some [0, 2, 14]))
(.cond (.t 14)
(.seq (.ops [mvO 15 0,
opO 16 (.shift .shr .u64 (.t 15) (.c (.int .u64 8))),
mvO 0 16] (some [0, 2]))
(.ops [mvO 17 2,
pO 18 17 8,
mvO 2 18] (some [0, 2])))
.skip))
(.seq (.ops [mvO 19 2,
mvO 20 0,
opO 21 (.conv .u8 (.t 20)),
opO 22 (.indexS (.c (.string ⟨#[0, 1, 2, 2, 3, 3, 3, 3, 4, 4, 4, 4, 4, 4, 4, 4, 5, 5, 5, 5, 5, 5, 5, 5, 5, 5, 5, 5, 5, 5, 5, 5, 6, 6, 6, 6, 6, 6, 6, 6, 6, 6, 6, 6, 6, 6, 6, 6, 6, 6, 6, 6, 6, 6, 6, 6, 6, 6, 6, 6, 6, 6, 6, 6, 7, 7, 7, 7, 7, 7, 7, 7, 7, 7, 7, 7, 7, 7, 7, 7, 7, 7, 7, 7, 7, 7, 7, 7, 7, 7, 7, 7, 7, 7, 7, 7, 7, 7, 7, 7, 7, 7, 7, 7, 7, 7, 7, 7, 7, 7, 7, 7, 7, 7, 7, 7, 7, 7, 7, 7, 7, 7, 7, 7, 7, 7, 7, 7, 8, 8, 8, 8, 8, 8, 8, 8, 8, 8, 8, 8, 8, 8, 8, 8, 8, 8, 8, 8, 8, 8, 8, 8, 8, 8, 8, 8, 8, 8, 8, 8, 8, 8, 8, 8, 8, 8, 8, 8, 8, 8, 8, 8, 8, 8, 8, 8, 8, 8, 8, 8, 8, 8, 8, 8, 8, 8, 8, 8, 8, 8, 8, 8, 8, 8, 8, 8, 8, 8, 8, 8, 8, 8, 8, 8, 8, 8, 8, 8, 8, 8, 8, 8, 8, 8, 8, 8, 8, 8, 8, 8, 8, 8, 8, 8, 8, 8, 8, 8, 8, 8, 8, 8, 8, 8, 8, 8, 8, 8, 8, 8, 8, 8, 8, 8, 8, 8, 8, 8, 8, 8, 8, 8, 8, 8, 8, 8]⟩)) (.t 21)),
opO 23 (.conv .i64 (.t 22)),
opO 24 (.ibin .add .i64 (.t 19) (.t 23)),
mvO 2 24] (some [2]))
.ret)))))⟩
def ir136 : IFn := ⟨53, [],
(.seq (.ops [mvO 10 1,
pO 11 10 1,
mvO 8 11] (some [0, 1, 2, 3, 8]))
(.block 0 (.loop (.seq (.seq (.ops [mvO 12 8,
mvO 13 2,
sO 14 12 13] (some [0, 1, 2, 3, 8, 14]))
(.cond (.t 14)
.skip
(.exit 0)))
(.seq (.block 1 (.seq (.ops [mvO 17 8,
mvO 9 17] (some [0, 1, 2, 3, 8, 9]))
(.block 2 (.loop (.seq (.seq (.draw (.rd 0 (mvO 18 9)
(.rd 1 (mvO 19 1)
(.rd 2 (opO 20 (.ibin .gtr .i64 (.t 18) (.t 19)))
(.rd 3 (mvO 21 20)
(.rd 4 ⟨(some 22), (some (21, true)), .mov (.t 3)⟩
(.rd 5 ⟨(some 23), (some (21, true)), .mov (.t 0)⟩
(.rd 6 ⟨(some 24), (some (21, true)), .mov (.t 9)⟩
(.rd 7 ⟨(some 25), (some (21, true)), .iaddr 1 (.t 23) (.t 24)⟩
(.rd 8 ⟨(some 26), (some (21, true)), .load 1 false (.t 25)⟩
(.rd 9 ⟨(some 27), (some (21, true)), .mov (.t 0)⟩
(.rd 10 ⟨(some 28), (some (21, true)), .mov (.t 9)⟩
(.rd 11 ⟨(some 29), (some (21, true)), .ibin .sub .i64 (.t 28) (ci 1)⟩
(.rd 12 ⟨(some 30), (some (21, true)), .iaddr 1 (.t 27) (.t 29)⟩
(.rd 13 ⟨(some 31), (some (21, true)), .load 1 false (.t 30)⟩
(.wr 14 ⟨(some 32), (some (21, true)), .callv (.t 22) [(.t 26), (.t 31)]⟩ [4, 8, 13, 3, 3]
(.rd 15 ⟨(some 33), (some (21, true)), .ibin .lss .i64 (.t 32) (ci 0)⟩
(.rd 16 (opO 34 (.pick (.t 21) (.t 33) (.c (.bool false))))
.fin)) .no))))))))))))))) (some [0, 1, 2, 3, 8, 9, 34]))
(.cond (.t 34)
.skip
(.exit 2)))
(.seq (.block 3 (.draw (.rd 0 (mvO 37 0)
(.rd 1 (mvO 38 9)
(.rd 2 (mvO 39 0)
(.rd 3 (mvO 40 9)
(.rd 4 (opO 41 (.ibin .sub .i64 (.t 40) (ci 1)))
(.rd 5 (mvO 42 0)
(.rd 6 (mvO 43 9)
(.rd 7 (opO 44 (.ibin .sub .i64 (.t 43) (ci 1)))
(.rd 8 (iO 45 1 42 44)
(.rd 9 (lO 46 1 45)
(.rd 10 (mvO 47 0)
(.rd 11 (mvO 48 9)
(.rd 12 (iO 49 1 47 48)
(.rd 13 (lO 50 1 49)
(.rd 14 (iO 51 1 37 38)
(.wr 15 ⟨none, none, .store 1 (.t 51) (.t 46)⟩ [14, 9, 0, 1, 5, 6, 7, 8, 9, 13]
(.rd 16 (iO 52 1 39 41)
(.wr 17 ⟨none, none, .store 1 (.t 52) (.t 50)⟩ [16, 13, 15, 0, 1, 2, 3, 4, 5, 6, 7, 8, 9, 10, 11, 12, 13, 14, 15]
.fin .no)) .no)))))))))))))))) (some [0, 1, 2, 3, 8, 9])))
(.ops [mvO 35 9,
opO 36 (.ibin .sub .i64 (.t 35) (ci 1)),
mvO 9 36] (some [0, 1, 2, 3, 8, 9]))))))))
(.ops [mvO 15 8,
pO 16 15 1,
mvO 8 16] (some [0, 1, 2, 3, 8])))))))⟩
def ir137 : IFn := ⟨220, [],
(.seq (.seq (.ops [mvO 25 2,
mvO 26 1,
opO 27 (.ibin .sub .i64 (.t 25) (.t 26)),
opO 28 (.ibin .eql .i64 (.t 27) (ci 1))] (some [0, 1, 2, 3, 4, 28]))
(.cond (.t 28)
(.seq (.ops [mvO 29 2,
mvO 10 29] (some [0, 1, 3, 4, 10]))
(.seq (.ops [mvO 30 3,
mvO 11 30] (some [0, 1, 4, 10, 11]))
(.seq (.block 0 (.loop (.seq (.seq (.ops [mvO 31 10,
mvO 32 11,
sO 33 31 32] (some [0, 1, 4, 10, 11, 33]))
(.cond (.t 33)
.skip
(.exit 0)))
(.block 1 (.seq (.ops [mvO 34 10,
mvO 35 11,
opO 36 (.ibin .add .i64 (.t 34) (.t 35)),
opO 37 (.conv .u64 (.t 36)),
opO 38 (.shift .shr .u64 (.t 37) (.c (.int .u64 1))),
opO 39 (.conv .i64 (.t 38)),
mvO 12 39] (some [0, 1, 4, 10, 11, 12]))
(.seq (.draw (.rd 0 (mvO 40 4)
(.rd 1 (mvO 41 0)
(.rd 2 (mvO 42 12)
(.rd 3 (iO 43 1 41 42)
(.rd 4 (lO 44 1 43)
(.rd 5 (mvO 45 0)
(.rd 6 (mvO 46 1)
(.rd 7 (iO 47 1 45 46)
(.rd 8 (lO 48 1 47)
(.wr 9 (opO 49 (.callv (.t 40) [(.t 44), (.t 48)])) [0, 4, 8]
(.rd 10 (opO 50 (.ibin .lss .i64 (.t 49) (ci 0)))
.fin) .no)))))))))) (some [0, 1, 4, 10, 11, 12, 50]))
(.cond (.t 50)
(.ops [mvO 51 12,
pO 52 51 1,
mvO 10 52] (some [0, 1, 4, 10, 11]))
(.ops [mvO 53 12,
mvO 11 53] (some [0, 1, 4, 10, 11])))))))))
(.seq (.seq (.ops [mvO 54 1,
mvO 13 54] (some [0, 10, 13]))
(.block 2 (.loop (.seq (.seq (.ops [mvO 55 13,
mvO 56 10,
opO 57 (.ibin .sub .i64 (.t 56) (ci 1)),
sO 58 55 57] (some [0, 10, 13, 58]))
(.cond (.t 58)
.skip
(.exit 2)))
(.seq (.block 3 (.draw (.rd 0 (mvO 61 0)
(.rd 1 (mvO 62 13)
(.rd 2 (mvO 63 0)
(.rd 3 (mvO 64 13)
(.rd 4 (pO 65 64 1)
(.rd 5 (mvO 66 0)
(.rd 6 (mvO 67 13)
(.rd 7 (pO 68 67 1)
(.rd 8 (iO 69 1 66 68)
(.rd 9 (lO 70 1 69)
(.rd 10 (mvO 71 0)
(.rd 11 (mvO 72 13)
(.rd 12 (iO 73 1 71 72)
(.rd 13 (lO 74 1 73)
(.rd 14 (iO 75 1 61 62)
(.wr 15 ⟨none, none, .store 1 (.t 75) (.t 70)⟩ [14, 9, 0, 1, 5, 6, 7, 8, 9, 13]
(.rd 16 (iO 76 1 63 65)
(.wr 17 ⟨none, none, .store 1 (.t 76) (.t 74)⟩ [16, 13, 15, 0, 1, 2, 3, 4, 5, 6, 7, 8, 9, 10, 11, 12, 13, 14, 15]
.fin .no)) .no)))))))))))))))) (some [0, 10, 13])))
(.ops [mvO 59 13,
pO 60 59 1,
mvO 13 60] (some [0, 10, 13])))))))
.ret))))
.skip))
(.seq (.seq (.ops [mvO 77 3,
mvO 78 2,
opO 79 (.ibin .sub .i64 (.t 77) (.t 78)),
opO 80 (.ibin .eql .i64 (.t 79) (ci 1))] (some [0, 1, 2, 3, 4, 80]))
(.cond (.t 80)
(.seq (.ops [mvO 81 1,
mvO 14 81] (some [0, 2, 4, 14]))
(.seq (.ops [mvO 82 2,
mvO 15 82] (some [0, 2, 4, 14, 15]))
(.seq (.block 4 (.loop (.seq (.seq (.ops [mvO 83 14,
mvO 84 15,
sO 85 83 84] (some [0, 2, 4, 14, 15, 85]))
(.cond (.t 85)
.skip
(.exit 4)))
(.block 5 (.seq (.ops [mvO 86 14,
mvO 87 15,
opO 88 (.ibin .add .i64 (.t 86) (.t 87)),
opO 89 (.conv .u64 (.t 88)),
opO 90 (.shift .shr .u64 (.t 89) (.c (.int .u64 1))),
opO 91 (.conv .i64 (.t 90)),
mvO 16 91] (some [0, 2, 4, 14, 15, 16]))
(.seq (.draw (.rd 0 (mvO 92 4)
(.rd 1 (mvO 93 0)
(.rd 2 (mvO 94 2)
(.rd 3 (iO 95 1 93 94)
(.rd 4 (lO 96 1 95)
(.rd 5 (mvO 97 0)
(.rd 6 (mvO 98 16)
(.rd 7 (iO 99 1 97 98)
(.rd 8 (lO 100 1 99)
(.wr 9 (opO 101 (.callv (.t 92) [(.t 96), (.t 100)])) [0, 4, 8]
(.rd 10 (opO 102 (.ibin .lss .i64 (.t 101) (ci 0)))
(.rd 11 (opO 103 (.un .not (.t 102)))
.fin)) .no)))))))))) (some [0, 2, 4, 14, 15, 16, 103]))
(.cond (.t 103)
(.ops [mvO 104 16,
pO 105 104 1,
mvO 14 105] (some [0, 2, 4, 14, 15]))
(.ops [mvO 106 16,
mvO 15 106] (some [0, 2, 4, 14, 15])))))))))
(.seq (.seq (.ops [mvO 107 2,
mvO 17 107] (some [0, 14, 17]))
(.block 6 (.loop (.seq (.seq (.ops [mvO 108 17,
mvO 109 14,
opO 110 (.ibin .gtr .i64 (.t 108) (.t 109))] (some [0, 14, 17, 110]))
(.cond (.t 110)
.skip
(.exit 6)))
(.seq (.block 7 (.draw (.rd 0 (mvO 113 0)
(.rd 1 (mvO 114 17)
(.rd 2 (mvO 115 0)
(.rd 3 (mvO 116 17)
(.rd 4 (opO 117 (.ibin .sub .i64 (.t 116) (ci 1)))
(.rd 5 (mvO 118 0)
(.rd 6 (mvO 119 17)
(.rd 7 (opO 120 (.ibin .sub .i64 (.t 119) (ci 1)))
(.rd 8 (iO 121 1 118 120)
(.rd 9 (lO 122 1 121)
(.rd 10 (mvO 123 0)
(.rd 11 (mvO 124 17)
(.rd 12 (iO 125 1 123 124)
(.rd 13 (lO 126 1 125)
(.rd 14 (iO 127 1 113 114)
(.wr 15 ⟨none, none, .store 1 (.t 127) (.t 122)⟩ [14, 9, 0, 1, 5, 6, 7, 8, 9, 13]
(.rd 16 (iO 128 1 115 117)
(.wr 17 ⟨none, none, .store 1 (.t 128) (.t 126)⟩ [16, 13, 15, 0, 1, 2, 3, 4, 5, 6, 7, 8, 9, 10, 11, 12, 13, 14, 15]
.fin .no)) .no)))))))))))))))) (some [0, 14, 17])))
(.ops [mvO 111 17,
opO 112 (.ibin .sub .i64 (.t 111) (ci 1)),
mvO 17 112] (some [0, 14, 17])))))))
.ret))))
.skip))
(.seq (.ops [mvO 129 1,
mvO 130 3,
opO 131 (.ibin .add .i64 (.t 129) (.t 130)),
opO 132 (.conv .u64 (.t 131)),
opO 133 (.shift .shr .u64 (.t 132) (.c (.int .u64 1))),
opO 134 (.conv .i64 (.t 133)),
mvO 18 134] (some [0, 1, 2, 3, 4, 18]))
(.seq (.ops [mvO 135 18,
mvO 136 2,
opO 137 (.ibin .add .i64 (.t 135) (.t 136)),
mvO 19 137] (some [0, 1, 2, 3, 4, 18, 19]))
(.seq (.ops [mO 20 0,
mO 21 0] (some [0, 1, 2, 3, 4, 18, 19]))
(.seq (.seq (.ops [mvO 138 2,
mvO 139 18,
opO 140 (.ibin .gtr .i64 (.t 138) (.t 139))] (some [0, 1, 2, 3, 4, 18, 19, 140]))
(.cond (.t 140)
(.seq (.ops [mvO 141 19,
mvO 142 3,
opO 143 (.ibin .sub .i64 (.t 141) (.t 142)),
mvO 20 143] (some [0, 1, 2, 3, 4, 18, 19, 20]))
(.ops [mvO 144 18,
mvO 21 144] (some [0, 1, 2, 3, 4, 18, 19, 20, 21])))
(.seq (.ops [mvO 145 1,
mvO 20 145] (some [0, 1, 2, 3, 4, 18, 19, 20]))
(.ops [mvO 146 2,
mvO 21 146] (some [0, 1, 2, 3, 4, 18, 19, 20, 21])))))
(.seq (.ops [mvO 147 19,
opO 148 (.ibin .sub .i64 (.t 147) (ci 1)),
mvO 22 148] (some [0, 1, 2, 3, 4, 18, 19, 20, 21, 22]))
(.seq (.block 8 (.loop (.seq (.seq (.ops [mvO 149 20,
mvO 150 21,
sO 151 149 150] (some [0, 1, 2, 3, 4, 18, 19, 20, 21, 22, 151]))
(.cond (.t 151)
.skip
(.exit 8)))
(.block 9 (.seq (.ops [mvO 152 20,
mvO 153 21,
opO 154 (.ibin .add .i64 (.t 152) (.t 153)),
opO 155 (.conv .u64 (.t 154)),
opO 156 (.shift .shr .u64 (.t 155) (.c (.int .u64 1))),
opO 157 (.conv .i64 (.t 156)),
mvO 23 157] (some [0, 1, 2, 3, 4, 18, 19, 20, 21, 22, 23]))
(.seq (.draw (.rd 0 (mvO 158 4)
(.rd 1 (mvO 159 0)
(.rd 2 (mvO 160 22)
(.rd 3 (mvO 161 23)
(.rd 4 (opO 162 (.ibin .sub .i64 (.t 160) (.t 161)))
(.rd 5 (iO 163 1 159 162)
(.rd 6 (lO 164 1 163)
(.rd 7 (mvO 165 0)
(.rd 8 (mvO 166 23)
(.rd 9 (iO 167 1 165 166)
(.rd 10 (lO 168 1 167)
(.wr 11 (opO 169 (.callv (.t 158) [(.t 164), (.t 168)])) [0, 6, 10]
(.rd 12 (opO 170 (.ibin .lss .i64 (.t 169) (ci 0)))
(.rd 13 (opO 171 (.un .not (.t 170)))
.fin)) .no)))))))))))) (some [0, 1, 2, 3, 4, 18, 19, 20, 21, 22, 23, 171]))
(.cond (.t 171)
(.ops [mvO 172 23,
pO 173 172 1,
mvO 20 173] (some [0, 1, 2, 3, 4, 18, 19, 20, 21, 22]))
(.ops [mvO 174 23,
mvO 21 174] (some [0, 1, 2, 3, 4, 18, 19, 20, 21, 22])))))))))
(.seq (.ops [mvO 175 19,
mvO 176 20,
opO 177 (.ibin .sub .i64 (.t 175) (.t 176)),
mvO 24 177] (some [0, 1, 2, 3, 4, 18, 20, 24]))
(.seq (.seq (.ops [mvO 178 20,
mvO 179 2,
sO 180 178 179,
mvO 181 180,
⟨(some 182), (some (181, true)), .mov (.t 2)⟩,
⟨(some 183), (some (181, true)), .mov (.t 24)⟩,
⟨(some 184), (some (181, true)), .ibin .lss .i64 (.t 182) (.t 183)⟩,
opO 185 (.pick (.t 181) (.t 184) (.c (.bool false)))] (some [0, 1, 2, 3, 4, 18, 20, 24, 185]))
(.cond (.t 185)
(.ops [mvO 186 0,
mvO 187 20,
mvO 188 2,
mvO 189 24,
mvO 190 4,
opO 191 (.call 144 [(.t 186), (.t 187), (.t 188), (.t 189), (.t 190)])] (some [0, 1, 3, 4, 18, 20, 24]))
.skip))
(.seq (.seq (.ops [mvO 192 1,
mvO 193 20,
sO 194 192 193,
mvO 195 194,
⟨(some 196), (some (195, true)), .mov (.t 20)⟩,
⟨(some 197), (some (195, true)), .mov (.t 18)⟩,
⟨(some 198), (some (195, true)), .ibin .lss .i64 (.t 196) (.t 197)⟩,
opO 199 (.pick (.t 195) (.t 198) (.c (.bool false)))] (some [0, 1, 3, 4, 18, 20, 24, 199]))
(.cond (.t 199)
(.ops [mvO 200 0,
mvO 201 1,
mvO 202 20,
mvO 203 18,
mvO 204 4,
opO 205 (.call 137 [(.t 200), (.t 201), (.t 202), (.t 203), (.t 204)])] (some [0, 3, 4, 18, 24]))
.skip))
(.seq (.ops [mvO 206 18,
mvO 207 24,
sO 208 206 207,
mvO 209 208,
⟨(some 210), (some (209, true)), .mov (.t 24)⟩,
⟨(some 211), (some (209, true)), .mov (.t 3)⟩,
⟨(some 212), (some (209, true)), .ibin .lss .i64 (.t 210) (.t 211)⟩,
opO 213 (.pick (.t 209) (.t 212) (.c (.bool false)))] (some [0, 3, 4, 18, 24, 213]))
(.cond (.t 213)
(.ops [mvO 214 0,
mvO 215 18,
mvO 216 24,
mvO 217 3,
mvO 218 4,
opO 219 (.call 137 [(.t 214), (.t 215), (.t 216), (.t 217), (.t 218)])] (some []))
.skip)))))))))))))⟩
def ir138 : IFn := ⟨9, [.t 4],
(.seq (.ops [bO 4 false] (some [0, 1]))
(.seq (.ops [mvO 5 0,
mvO 6 1,
opO 7 (.call 145 [(.t 5), (.t 6)]),
opO 8 (.ibin .geq .i64 (.t 7) (ci 0)),
mvO 4 8] (some [4]))
.ret))⟩
def ir139 : IFn := ⟨76, [],
(.seq (.ops [mvO 10 1,
mvO 8 10] (some [0, 2, 3, 8]))
(.block 0 (.loop (.block 1 (.seq (.ops [mvO 11 8,
opO 12 (.ibin .mul .i64 (ci 2) (.t 11)),
pO 13 12 1,
mvO 9 13] (some [0, 2, 3, 8, 9]))
(.seq (.seq (.ops [mvO 14 9,
mvO 15 2,
opO 16 (.ibin .geq .i64 (.t 14) (.t 15))] (some [0, 2, 3, 8, 9, 16]))
(.cond (.t 16)
(.exit 0)
.skip))
(.seq (.seq (.draw (.rd 0 (mvO 17 9)
(.rd 1 (pO 18 17 1)
(.rd 2 (mvO 19 2)
(.rd 3 (sO 20 18 19)
(.rd 4 (mvO 21 20)
(.rd 5 ⟨(some 22), (some (21, true)), .mov (.t 0)⟩
(.rd 6 ⟨(some 23), (some (21, true)), .mov (.t 3)⟩
(.rd 7 ⟨(some 24), (some (21, true)), .mov (.t 9)⟩
(.rd 8 ⟨(some 25), (some (21, true)), .ibin .add .i64 (.t 23) (.t 24)⟩
(.rd 9 ⟨(some 26), (some (21, true)), .iaddr 1 (.t 22) (.t 25)⟩
(.rd 10 ⟨(some 27), (some (21, true)), .load 1 false (.t 26)⟩
(.rd 11 ⟨(some 28), (some (21, true)), .mov (.t 0)⟩
(.rd 12 ⟨(some 29), (some (21, true)), .mov (.t 3)⟩
(.rd 13 ⟨(some 30), (some (21, true)), .mov (.t 9)⟩
(.rd 14 ⟨(some 31), (some (21, true)), .ibin .add .i64 (.t 29) (.t 30)⟩
(.rd 15 ⟨(some 32), (some (21, true)), .ibin .add .i64 (.t 31) (ci 1)⟩
(.rd 16 ⟨(some 33), (some (21, true)), .iaddr 1 (.t 28) (.t 32)⟩
(.rd 17 ⟨(some 34), (some (21, true)), .load 1 false (.t 33)⟩
(.wr 18 ⟨(some 35), (some (21, true)), .call 122 [(.t 27), (.t 34)]⟩ [10, 17, 4, 4]
(.rd 19 (opO 36 (.pick (.t 21) (.t 35) (.c (.bool false))))
.fin) .no))))))))))))))))))) (some [0, 2, 3, 8, 9, 36]))
(.cond (.t 36)
(.ops [mvO 37 9,
pO 38 37 1,
mvO 9 38] (some [0, 2, 3, 8, 9]))
.skip))
(.seq (.seq (.draw (.rd 0 (mvO 39 0)
(.rd 1 (mvO 40 3)
(.rd 2 (mvO 41 8)
(.rd 3 (opO 42 (.ibin .add .i64 (.t 40) (.t 41)))
(.rd 4 (iO 43 1 39 42)
(.rd 5 (lO 44 1 43)
(.rd 6 (mvO 45 0)
(.rd 7 (mvO 46 3)
(.rd 8 (mvO 47 9)
(.rd 9 (opO 48 (.ibin .add .i64 (.t 46) (.t 47)))
(.rd 10 (iO 49 1 45 48)
(.rd 11 (lO 50 1 49)
(.wr 12 (opO 51 (.call 122 [(.t 44), (.t 50)])) [5, 11]
(.rd 13 (opO 52 (.un .not (.t 51)))
.fin) .no))))))))))))) (some [0, 2, 3, 8, 9, 52]))
(.cond (.t 52)
.ret
.skip))
(.seq (.draw (.rd 0 (mvO 53 0)
(.rd 1 (mvO 54 3)
(.rd 2 (mvO 55 8)
(.rd 3 (opO 56 (.ibin .add .i64 (.t 54) (.t 55)))
(.rd 4 (mvO 57 0)
(.rd 5 (mvO 58 3)
(.rd 6 (mvO 59 9)
(.rd 7 (opO 60 (.ibin .add .i64 (.t 58) (.t 59)))
(.rd 8 (mvO 61 0)
(.rd 9 (mvO 62 3)
(.rd 10 (mvO 63 9)
(.rd 11 (opO 64 (.ibin .add .i64 (.t 62) (.t 63)))
(.rd 12 (iO 65 1 61 64)
(.rd 13 (lO 66 1 65)
(.rd 14 (mvO 67 0)
(.rd 15 (mvO 68 3)
(.rd 16 (mvO 69 8)
(.rd 17 (opO 70 (.ibin .add .i64 (.t 68) (.t 69)))
(.rd 18 (iO 71 1 67 70)
(.rd 19 (lO 72 1 71)
(.rd 20 (iO 73 1 53 56)
(.wr 21 ⟨none, none, .store 1 (.t 73) (.t 66)⟩ [20, 13, 0, 1, 2, 3, 8, 9, 10, 11, 12, 13, 19]
(.rd 22 (iO 74 1 57 60)
(.wr 23 ⟨none, none, .store 1 (.t 74) (.t 72)⟩ [22, 19, 21, 0, 1, 2, 3, 4, 5, 6, 7, 8, 9, 10, 11, 12, 13, 14, 15, 16, 17, 18, 19, 20, 21]
.fin .no)) .no)))))))))))))))))))))) (some [0, 2, 3, 9]))
(.ops [mvO 75 9,
mvO 8 75] (some [0, 2, 3, 8])))))))))))⟩
def ir140 : IFn := ⟨7, [.t 2],
(.seq (.ops [opO 2 (.mov (.c (.int .u64 0)))] (some [0]))
(.seq (.ops [mvO 3 0,
opO 4 (.conv .u64 (.t 3)),
cO 5 119 4,
opO 6 (.shift .shl .u64 (.c (.int .u64 1)) (.t 5)),
mvO 2 6] (some [2]))
.ret))⟩
def ir141 : IFn := ⟨33, [.t 2],
(.seq (.ops [opO 2 (.mov (.c (.int .u64 0)))] (some [0]))
(.seq (.draw (.rd 0 (mvO 3 0)
(.rd 1 (opO 4 (.nilchk (.t 3)))
(.rd 2 (lO 5 1 4)
(.rd 3 (mvO 6 0)
(.rd 4 (opO 7 (.nilchk (.t 6)))
(.rd 5 (lO 8 1 7)
(.rd 6 (opO 9 (.shift .shl .u64 (.t 8) (.c (.int .u64 13))))
(.rd 7 (opO 10 (.ibin .xor .u64 (.t 5) (.t 9)))
(.rd 8 (opO 11 (.nilchk (.t 3)))
(.wr 9 ⟨none, none, .store 1 (.t 11) (.t 10)⟩ [8, 7, 0, 1, 2, 3, 4, 5, 6, 7]
.fin .no)))))))))) (some [0]))
(.seq (.draw (.rd 0 (mvO 12 0)
(.rd 1 (opO 13 (.nilchk (.t 12)))
(.rd 2 (lO 14 1 13)
(.rd 3 (mvO 15 0)
(.rd 4 (opO 16 (.nilchk (.t 15)))
(.rd 5 (lO 17 1 16)
(.rd 6 (opO 18 (.shift .shr .u64 (.t 17) (.c (.int .u64 7))))
(.rd 7 (opO 19 (.ibin .xor .u64 (.t 14) (.t 18)))
(.rd 8 (opO 20 (.nilchk (.t 12)))
(.wr 9 ⟨none, none, .store 1 (.t 20) (.t 19)⟩ [8, 7, 0, 1, 2, 3, 4, 5, 6, 7]
.fin .no)))))))))) (some [0]))
(.seq (.draw (.rd 0 (mvO 21 0)
(.rd 1 (opO 22 (.nilchk (.t 21)))
(.rd 2 (lO 23 1 22)
(.rd 3 (mvO 24 0)
(.rd 4 (opO 25 (.nilchk (.t 24)))
(.rd 5 (lO 26 1 25)
(.rd 6 (opO 27 (.shift .shl .u64 (.t 26) (.c (.int .u64 17))))
(.rd 7 (opO 28 (.ibin .xor .u64 (.t 23) (.t 27)))
(.rd 8 (opO 29 (.nilchk (.t 21)))
(.wr 9 ⟨none, none, .store 1 (.t 29) (.t 28)⟩ [8, 7, 0, 1, 2, 3, 4, 5, 6, 7]
.fin .no)))))))))) (some [0]))
(.seq (.ops [mvO 30 0,
opO 31 (.nilchk (.t 30)),
lO 32 1 31,
mvO 2 32] (some [2]))
.ret)))))⟩
def ir142 : IFn := ⟨15, [.t 6],
(.seq (.ops [mO 6 0] (some [0, 1, 2]))
(.seq (.ops [mvO 7 0,
mvO 8 1,
opO 9 (.ibin .sub .i64 (.t 8) (ci 1)),
mvO 10 1,
mvO 11 1,
pO 12 11 1,
mvO 13 2,
opO 14 (.call 143 [(.t 7), (.t 9), (.t 10), (.t 12), (.t 13)]),
mvO 6 14] (some [6]))
.ret))⟩
def ir143 : IFn := ⟨36, [.t 10],
(.seq (.ops [mO 10 0] (some [0, 1, 2, 3, 4]))
(.seq (.ops [mvO 12 0,
mvO 13 1,
mvO 14 2,
mvO 15 4,
opO 16 (.call 146 [(.t 12), (.t 13), (.t 14), (.t 15)]),
mvO 11 16,
xO 17 0 11,
xO 18 1 11,
mvO 1 17,
mvO 2 18] (some [0, 1, 2, 3, 4]))
(.seq (.ops [mvO 20 0,
mvO 21 2,
mvO 22 3,
mvO 23 4,
opO 24 (.call 146 [(.t 20), (.t 21), (.t 22), (.t 23)]),
mvO 19 24,
xO 25 0 19,
xO 26 1 19,
mvO 2 25,
mvO 3 26] (some [0, 1, 2, 4]))
(.seq (.ops [mvO 28 0,
mvO 29 1,
mvO 30 2,
mvO 31 4,
opO 32 (.call 146 [(.t 28), (.t 29), (.t 30), (.t 31)]),
mvO 27 32,
xO 33 0 27,
xO 34 1 27,
mvO 1 33,
mvO 2 34] (some [2]))
(.seq (.ops [mvO 35 2,
mvO 10 35] (some [10]))
.ret)))))⟩
def ir144 : IFn := ⟨58, [],
(.seq (.ops [mvO 12 2,
mvO 13 1,
opO 14 (.ibin .sub .i64 (.t 12) (.t 13)),
mvO 10 14] (some [0, 2, 3, 4, 10]))
(.seq (.ops [mvO 15 3,
mvO 16 2,
opO 17 (.ibin .sub .i64 (.t 15) (.t 16)),
mvO 11 17] (some [0, 2, 4, 10, 11]))
(.seq (.block 0 (.loop (.seq (.seq (.ops [mvO 18 10,
mvO 19 11,
opO 20 (.ibin .neq .i64 (.t 18) (.t 19))] (some [0, 2, 4, 10, 11, 20]))
(.cond (.t 20)
.skip
(.exit 0)))
(.block 1 (.seq (.ops [mvO 21 10,
mvO 22 11,
opO 23 (.ibin .gtr .i64 (.t 21) (.t 22))] (some [0, 2, 4, 10, 11, 23]))
(.cond (.t 23)
(.seq (.ops [mvO 24 0,
mvO 25 2,
mvO 26 10,
opO 27 (.ibin .sub .i64 (.t 25) (.t 26)),
mvO 28 2,
mvO 29 11,
mvO 30 4,
opO 31 (.call 147 [(.t 24), (.t 27), (.t 28), (.t 29), (.t 30)])] (some [0, 2, 4, 10, 11]))
(.ops [mvO 32 10,
mvO 33 11,
opO 34 (.ibin .sub .i64 (.t 32) (.t 33)),
mvO 10 34] (some [0, 2, 4, 10, 11])))
(.seq (.ops [mvO 35 0,
mvO 36 2,
mvO 37 10,
opO 38 (.ibin .sub .i64 (.t 36) (.t 37)),
mvO 39 2,
mvO 40 11,
opO 41 (.ibin .add .i64 (.t 39) (.t 40)),
mvO 42 10,
opO 43 (.ibin .sub .i64 (.t 41) (.t 42)),
mvO 44 10,
mvO 45 4,
opO 46 (.call 147 [(.t 35), (.t 38), (.t 43), (.t 44), (.t 45)])] (some [0, 2, 4, 10, 11]))
(.ops [mvO 47 11,
mvO 48 10,
opO 49 (.ibin .sub .i64 (.t 47) (.t 48)),
mvO 11 49] (some [0, 2, 4, 10, 11])))))))))
(.ops [mvO 50 0,
mvO 51 2,
mvO 52 10,
opO 53 (.ibin .sub .i64 (.t 51) (.t 52)),
mvO 54 2,
mvO 55 10,
mvO 56 4,
opO 57 (.call 147 [(.t 50), (.t 53), (.t 54), (.t 55), (.t 56)])] (some [])))))⟩
def ir145 : IFn := ⟨19, [.t 4],
(.seq (.ops [mO 4 0] (some [0, 1]))
(.seq (.seq (.ops [mvO 6 0,
nO 7 6,
mO 8 0] (some [0, 1, 7, 8]))
(.block 0 (.loop (.seq (.ops [sO 9 8 7] none)
(.seq (.cond (.t 9)
.skip
(.exit 0))
(.seq (.block 1 (.seq (.ops [mvO 10 8,
mvO 5 10] (some [0, 1, 5, 7, 8]))
(.seq (.ops [mvO 11 1,
mvO 12 0,
mvO 13 5,
iO 14 1 12 13,
lO 15 1 14,
opO 16 (.ibin .eql .i64 (.t 11) (.t 15))] (some [0, 1, 5, 7, 8, 16]))
(.cond (.t 16)
(.seq (.ops [mvO 17 5,
mvO 4 17] (some [4]))
.ret)
.skip))))
(.ops [pO 18 8 1,
mvO 8 18] (some [0, 1, 7, 8]))))))))
(.seq (.ops [opO 4 (.mov (ci (-1)))] none)
.ret)))⟩
def ir146 : IFn := ⟨28, [.t 8, .t 9],
(.seq (.ops [mO 8 0,
mO 9 0] (some [0, 1, 2, 3]))
(.seq (.seq (.draw (.rd 0 (mvO 10 0)
(.rd 1 (mvO 11 2)
(.rd 2 (iO 12 1 10 11)
(.rd 3 (lO 13 1 12)
(.rd 4 (mvO 14 0)
(.rd 5 (mvO 15 1)
(.rd 6 (iO 16 1 14 15)
(.rd 7 (lO 17 1 16)
(.wr 8 (opO 18 (.call 122 [(.t 13), (.t 17)])) [3, 7]
.fin .no))))))))) (some [1, 2, 3, 18]))
(.cond (.t 18)
(.seq (.ops [mvO 19 3,
opO 20 (.nilchk (.t 19)),
lO 21 1 20,
pO 22 21 1,
opO 23 (.nilchk (.t 19)),
⟨none, none, .store 1 (.t 23) (.t 22)⟩] (some [1, 2]))
(.seq (.ops [mvO 24 2,
mvO 25 1,
mvO 8 24,
mvO 9 25] (some [8, 9]))
.ret))
.skip))
(.seq (.ops [mvO 26 1,
mvO 27 2,
mvO 8 26,
mvO 9 27] (some [8, 9]))
.ret)))⟩
def ir147 : IFn := ⟨38, [],
(.seq (.ops [mO 10 0] none)
(.block 0 (.loop (.seq (.seq (.ops [mvO 11 10,
mvO 12 3,
sO 13 11 12] (some [0, 1, 2, 3, 10, 13]))
(.cond (.t 13)
.skip
(.exit 0)))
(.seq (.block 1 (.draw (.rd 0 (mvO 16 0)
(.rd 1 (mvO 17 1)
(.rd 2 (mvO 18 10)
(.rd 3 (opO 19 (.ibin .add .i64 (.t 17) (.t 18)))
(.rd 4 (mvO 20 0)
(.rd 5 (mvO 21 2)
(.rd 6 (mvO 22 10)
(.rd 7 (opO 23 (.ibin .add .i64 (.t 21) (.t 22)))
(.rd 8 (mvO 24 0)
(.rd 9 (mvO 25 2)
(.rd 10 (mvO 26 10)
(.rd 11 (opO 27 (.ibin .add .i64 (.t 25) (.t 26)))
(.rd 12 (iO 28 1 24 27)
(.rd 13 (lO 29 1 28)
(.rd 14 (mvO 30 0)
(.rd 15 (mvO 31 1)
(.rd 16 (mvO 32 10)
(.rd 17 (opO 33 (.ibin .add .i64 (.t 31) (.t 32)))
(.rd 18 (iO 34 1 30 33)
(.rd 19 (lO 35 1 34)
(.rd 20 (iO 36 1 16 19)
(.wr 21 ⟨none, none, .store 1 (.t 36) (.t 29)⟩ [20, 13, 0, 1, 2, 3, 8, 9, 10, 11, 12, 13, 19]
(.rd 22 (iO 37 1 20 23)
(.wr 23 ⟨none, none, .store 1 (.t 37) (.t 35)⟩ [22, 19, 21, 0, 1, 2, 3, 4, 5, 6, 7, 8, 9, 10, 11, 12, 13, 14, 15, 16, 17, 18, 19, 20, 21]
.fin .no)) .no)))))))))))))))))))))) (some [0, 1, 2, 3, 10])))
(.ops [mvO 14 10,
pO 15 14 1,
mvO 10 15] (some [0, 1, 2, 3, 10])))))))⟩
def ir178 : IFn := ⟨6, [.t 2],
(.seq (.ops [bO 2 false] (some [0]))
(.seq (.ops [mvO 3 0,
nO 4 3,
opO 5 (.ibin .leq .i64 (.t 4) (ci 14)),
mvO 2 5] (some [2]))
.ret))⟩
end Go.Proofs.YtgfglinlmnbjbaaGreat.AM
