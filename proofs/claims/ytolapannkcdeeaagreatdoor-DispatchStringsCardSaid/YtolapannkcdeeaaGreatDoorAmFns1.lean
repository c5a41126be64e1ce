/- The functions in the small language. Conditions: none. -/
import Derived.Test.YtolapannkcdeeaaGreatDoorAmFns
namespace Go.Proofs.YtolapannkcdeeaaGreatDoor.AM
set_option linter.unusedSimpArgs false
set_option linter.unusedVariables false
open Go Go.RowKit
def ir465 : IFn := ⟨74, [.cell 2 4 true, .t 3],
(.seq (.ops [opO 2 (.alloc [(.int .i64 0), (.int .i64 0), (.int .i64 0), (.slice none 0 0)]),
mO 3 0] (some [0, 2]))
(.seq (.ops [opO 12 (.build [(.int .i64 0), (.int .i64 0), (.int .i64 0), (.slice none 0 0)] []),
opO 4 (.alloc [(.int .i64 0), (.int .i64 0), (.int .i64 0), (.slice none 0 0)]),
⟨none, none, .store 4 (.t 4) (.t 12)⟩] (some [0, 2, 4]))
(.seq (.seq (.ops [mvO 13 0,
opO 14 (.lenS (.t 13)),
opO 15 (.ibin .gtr .i64 (.t 14) (ci 60000))] (some [0, 2, 4, 15]))
(.cond (.t 15)
(.seq (.ops [lA 16 4 4,
⟨none, none, .store 4 (.t 2) (.t 16)⟩,
mO 3 8] (some [2, 3]))
.ret)
.skip))
(.seq (.ops [mvO 17 0,
opO 18 (.call 386 [(.t 17), (.c (.int .u8 59))]),
mvO 5 18] (some [2, 4, 5]))
(.seq (.ops [mvO 20 5,
opO 21 (.iaddr 1 (.t 20) (ci 0)),
lO 22 1 21,
opO 23 (.call 386 [(.t 22), (.c (.int .u8 32))]),
opO 24 (.call 473 [(.t 23), (ci 3), (ci 2)]),
mvO 19 24,
xO 25 0 19,
xO 26 1 19,
mvO 6 25,
mvO 7 26] (some [2, 4, 5, 6, 7]))
(.seq (.seq (.ops [mvO 27 7,
opO 28 (.un .not (.t 27))] (some [2, 4, 5, 6, 28]))
(.cond (.t 28)
(.seq (.ops [lA 29 4 4,
⟨none, none, .store 4 (.t 2) (.t 29)⟩,
mO 3 7] (some [2, 3]))
.ret)
.skip))
(.seq (.draw (.rd 0 (mvO 30 6)
(.rd 1 (opO 31 (.iaddr 1 (.t 30) (ci 0)))
(.rd 2 (lO 32 1 31)
(.rd 3 (mvO 33 6)
(.rd 4 (opO 34 (.iaddr 1 (.t 33) (ci 1)))
(.rd 5 (lO 35 1 34)
(.rd 6 (mvO 36 6)
(.rd 7 (opO 37 (.iaddr 1 (.t 36) (ci 2)))
(.rd 8 (lO 38 1 37)
(.rd 9 (opO 39 (.build [(.int .i64 0), (.int .i64 0), (.int .i64 0), (.slice none 0 0)] [(0, 1, (.t 32)), (1, 1, (.t 35)), (2, 1, (.t 38))]))
(.wr 10 (opO 8 (.alloc [(.int .i64 0), (.int .i64 0), (.int .i64 0), (.slice none 0 0)])) []
(.wr 11 ⟨none, none, .store 4 (.t 8) (.t 39)⟩ [10, 9, 0, 1, 2, 3, 4, 5, 6, 7, 8, 9, 10]
.fin .no) .no))))))))))) (some [2, 4, 5, 8]))
(.seq (.seq (.ops [mO 9 1] none)
(.block 0 (.loop (.seq (.seq (.ops [mvO 40 9,
mvO 41 5,
nO 42 41,
sO 43 40 42] (some [2, 4, 5, 8, 9, 43]))
(.cond (.t 43)
.skip
(.exit 0)))
(.seq (.block 1 (.seq (.ops [mvO 47 5,
mvO 48 9,
iO 49 1 47 48,
lO 50 1 49,
opO 51 (.call 386 [(.t 50), (.c (.int .u8 32))]),
opO 52 (.call 473 [(.t 51), (ci 3), (ci 0)]),
mvO 46 52,
xO 53 0 46,
xO 54 1 46,
mvO 10 53,
mvO 11 54] (some [2, 4, 5, 8, 9, 10, 11]))
(.seq (.seq (.ops [mvO 55 11,
opO 56 (.un .not (.t 55))] (some [2, 4, 5, 8, 9, 10, 56]))
(.cond (.t 56)
(.seq (.ops [lA 57 4 4,
⟨none, none, .store 4 (.t 2) (.t 57)⟩,
mO 3 7] (some [2, 3]))
.ret)
.skip))
(.draw (.rd 0 (fO 58 3 8)
(.rd 1 (lO 59 1 58)
(.rd 2 (mvO 60 10)
(.rd 3 (opO 61 (.iaddr 1 (.t 60) (ci 0)))
(.rd 4 (lO 62 1 61)
(.rd 5 (mvO 63 10)
(.rd 6 (opO 64 (.iaddr 1 (.t 63) (ci 1)))
(.rd 7 (lO 65 1 64)
(.rd 8 (mvO 66 10)
(.rd 9 (opO 67 (.iaddr 1 (.t 66) (ci 2)))
(.rd 10 (lO 68 1 67)
(.rd 11 (opO 69 (.build [(.int .i64 0), (.int .i64 0), (.int .i64 0)] [(0, 1, (.t 62)), (1, 1, (.t 65)), (2, 1, (.t 68))]))
(.wr 12 (opO 70 (.bslice 1 3 [(.int .i64 0), (.int .i64 0), (.int .i64 0)] [(0, 3, (.t 69))])) [11]
(.wr 13 (opO 71 (.append 3 24 (.t 59) (.t 70))) [1, 12]
(.rd 14 (fO 72 3 8)
(.wr 15 ⟨none, none, .store 1 (.t 72) (.t 71)⟩ [14, 13, 13, 0, 1, 2, 3, 4, 5, 6, 7, 8, 9, 10, 11, 12, 13]
.fin .no)) .no) .no))))))))))))) (some [2, 4, 5, 8, 9])))))
(.ops [mvO 44 9,
pO 45 44 1,
mvO 9 45] (some [2, 4, 5, 8, 9])))))))
(.seq (.ops [lA 73 4 8,
⟨none, none, .store 4 (.t 2) (.t 73)⟩,
mO 3 0] (some [2, 3]))
.ret)))))))))⟩
def ir466 : IFn := ⟨47, [.t 2],
(.seq (.ops [opO 1 (.box (.t 0)),
opO 2 (.mov (.c (.string ⟨#[]⟩)))] (some [1]))
(.seq (.draw (.rd 0 (fO 6 0 1)
(.rd 1 (lO 7 1 6)
(.rd 4 (fO 10 1 1)
(.rd 5 (lO 11 1 10)
(.wr 2 (cO 8 388 7) [1]
(.rd 3 (opO 9 (.sbin .add (.t 8) (.c (.string ⟨#[32]⟩))))
(.wr 6 (cO 12 388 11) [5, 2]
(.rd 7 (opO 13 (.sbin .add (.t 9) (.t 12)))
(.rd 8 (mvO 3 13)
.fin)) .no)) .no))))) (some [1, 3]))
(.seq (.seq (.ops [mO 4 0] none)
(.block 0 (.loop (.seq (.seq (.ops [mvO 14 4,
fO 15 2 1,
lO 16 1 15,
nO 17 16,
sO 18 14 17] (some [1, 3, 4, 18]))
(.cond (.t 18)
.skip
(.exit 0)))
(.seq (.block 1 (.seq (.ops [fO 21 2 1,
lO 22 1 21,
mvO 23 4,
iO 24 4 22 23,
lA 25 4 24,
opO 5 (.alloc [(.string ⟨#[]⟩), (.int .i64 0), (.int .i64 0), (.int .i64 0)]),
⟨none, none, .store 4 (.t 5) (.t 25)⟩] (some [1, 3, 4, 5]))
(.draw (.rd 0 (mvO 26 3)
(.rd 1 (opO 27 (.sbin .add (.t 26) (.c (.string ⟨#[59]⟩))))
(.rd 2 (fO 28 0 5)
(.rd 3 (lO 29 1 28)
(.rd 4 (opO 30 (.sbin .add (.t 27) (.t 29)))
(.rd 5 (opO 31 (.sbin .add (.t 30) (.c (.string ⟨#[32]⟩))))
(.rd 6 (fO 32 1 5)
(.rd 7 (lO 33 1 32)
(.rd 11 (fO 37 2 5)
(.rd 12 (lO 38 1 37)
(.rd 16 (fO 42 3 5)
(.rd 17 (lO 43 1 42)
(.wr 8 (cO 34 388 33) [7]
(.rd 9 (opO 35 (.sbin .add (.t 31) (.t 34)))
(.rd 10 (opO 36 (.sbin .add (.t 35) (.c (.string ⟨#[32]⟩))))
(.wr 13 (cO 39 388 38) [12, 8]
(.rd 14 (opO 40 (.sbin .add (.t 36) (.t 39)))
(.rd 15 (opO 41 (.sbin .add (.t 40) (.c (.string ⟨#[32]⟩))))
(.wr 18 (cO 44 388 43) [17, 13]
(.rd 19 (opO 45 (.sbin .add (.t 41) (.t 44)))
(.wr 20 (mvO 3 45) [19, 18, 0, 1, 2, 3, 4, 5, 6, 7, 8, 9, 10, 11, 12, 13, 14, 15, 16, 17, 18, 19]
.fin .no)) .no))) .no))) .no))))))))))))) (some [1, 3, 4]))))
(.ops [mvO 19 4,
pO 20 19 1,
mvO 4 20] (some [1, 3, 4])))))))
(.seq (.ops [mvO 46 3,
mvO 2 46] (some [2]))
.ret))))⟩
def ir467 : IFn := ⟨48, [.t 2],
(.seq (.ops [opO 1 (.box (.t 0)),
opO 2 (.mov (.c (.string ⟨#[]⟩)))] (some [1]))
(.seq (.draw (.rd 0 (fO 6 0 1)
(.rd 1 (lO 7 1 6)
(.rd 4 (fO 10 1 1)
(.rd 5 (lO 11 1 10)
(.rd 9 (fO 15 2 1)
(.rd 10 (lO 16 1 15)
(.wr 2 (cO 8 388 7) [1]
(.rd 3 (opO 9 (.sbin .add (.t 8) (.c (.string ⟨#[32]⟩))))
(.wr 6 (cO 12 388 11) [5, 2]
(.rd 7 (opO 13 (.sbin .add (.t 9) (.t 12)))
(.rd 8 (opO 14 (.sbin .add (.t 13) (.c (.string ⟨#[32]⟩))))
(.wr 11 (cO 17 388 16) [10, 6]
(.rd 12 (opO 18 (.sbin .add (.t 14) (.t 17)))
(.rd 13 (mvO 3 18)
.fin)) .no))) .no)) .no))))))) (some [1, 3]))
(.seq (.seq (.ops [mO 4 0] none)
(.block 0 (.loop (.seq (.seq (.ops [mvO 19 4,
fO 20 3 1,
lO 21 1 20,
nO 22 21,
sO 23 19 22] (some [1, 3, 4, 23]))
(.cond (.t 23)
.skip
(.exit 0)))
(.seq (.block 1 (.seq (.ops [fO 26 3 1,
lO 27 1 26,
mvO 28 4,
iO 29 3 27 28,
lA 30 3 29,
opO 5 (.alloc [(.int .i64 0), (.int .i64 0), (.int .i64 0)]),
⟨none, none, .store 3 (.t 5) (.t 30)⟩] (some [1, 3, 4, 5]))
(.draw (.rd 0 (mvO 31 3)
(.rd 1 (opO 32 (.sbin .add (.t 31) (.c (.string ⟨#[59]⟩))))
(.rd 2 (fO 33 0 5)
(.rd 3 (lO 34 1 33)
(.rd 7 (fO 38 1 5)
(.rd 8 (lO 39 1 38)
(.rd 12 (fO 43 2 5)
(.rd 13 (lO 44 1 43)
(.wr 4 (cO 35 388 34) [3]
(.rd 5 (opO 36 (.sbin .add (.t 32) (.t 35)))
(.rd 6 (opO 37 (.sbin .add (.t 36) (.c (.string ⟨#[32]⟩))))
(.wr 9 (cO 40 388 39) [8, 4]
(.rd 10 (opO 41 (.sbin .add (.t 37) (.t 40)))
(.rd 11 (opO 42 (.sbin .add (.t 41) (.c (.string ⟨#[32]⟩))))
(.wr 14 (cO 45 388 44) [13, 9]
(.rd 15 (opO 46 (.sbin .add (.t 42) (.t 45)))
(.wr 16 (mvO 3 46) [15, 14, 0, 1, 2, 3, 4, 5, 6, 7, 8, 9, 10, 11, 12, 13, 14, 15]
.fin .no)) .no))) .no))) .no))))))))) (some [1, 3, 4]))))
(.ops [mvO 24 4,
pO 25 24 1,
mvO 4 25] (some [1, 3, 4])))))))
(.seq (.ops [mvO 47 3,
mvO 2 47] (some [2]))
.ret))))⟩
def ir468 : IFn := ⟨45, [.t 4],
(.seq (.ops [opO 2 (.box (.t 0)),
opO 3 (.box (.t 1)),
bO 4 false] (some [2, 3]))
(.seq (.seq (.ops [fO 6 0 2,
lO 7 1 6,
fO 8 0 3,
lO 9 1 8,
opO 10 (.ibin .neq .i64 (.t 7) (.t 9)),
mvO 11 10,
⟨(some 12), (some (11, false)), .faddr 1 (.t 2)⟩,
⟨(some 13), (some (11, false)), .load 1 false (.t 12)⟩,
⟨(some 14), (some (11, false)), .faddr 1 (.t 3)⟩,
⟨(some 15), (some (11, false)), .load 1 false (.t 14)⟩,
⟨(some 16), (some (11, false)), .ibin .neq .i64 (.t 13) (.t 15)⟩,
opO 17 (.pick (.t 11) (.c (.bool true)) (.t 16)),
mvO 18 17,
⟨(some 19), (some (18, false)), .faddr 2 (.t 2)⟩,
⟨(some 20), (some (18, false)), .load 1 false (.t 19)⟩,
⟨(some 21), (some (18, false)), .lenV (.t 20)⟩,
⟨(some 22), (some (18, false)), .faddr 2 (.t 3)⟩,
⟨(some 23), (some (18, false)), .load 1 false (.t 22)⟩,
⟨(some 24), (some (18, false)), .lenV (.t 23)⟩,
⟨(some 25), (some (18, false)), .ibin .neq .i64 (.t 21) (.t 24)⟩,
opO 26 (.pick (.t 18) (.c (.bool true)) (.t 25))] (some [2, 3, 26]))
(.cond (.t 26)
(.seq (.ops [bO 4 false] none)
.ret)
.skip))
(.seq (.seq (.ops [mO 5 0] none)
(.block 0 (.loop (.seq (.seq (.ops [mvO 27 5,
fO 28 2 2,
lO 29 1 28,
nO 30 29,
sO 31 27 30] (some [2, 3, 5, 31]))
(.cond (.t 31)
.skip
(.exit 0)))
(.seq (.block 1 (.seq (.draw (.rd 0 (fO 34 2 2)
(.rd 1 (lO 35 1 34)
(.rd 2 (mvO 36 5)
(.rd 3 (iO 37 4 35 36)
(.rd 4 (lA 38 4 37)
(.rd 5 (fO 39 2 3)
(.rd 6 (lO 40 1 39)
(.rd 7 (mvO 41 5)
(.rd 8 (iO 42 4 40 41)
(.rd 9 (lA 43 4 42)
(.rd 10 (opO 44 (.eqv (.fld 0 1 .str (.fld 1 1 (.int .i64) (.fld 2 1 (.int .i64) (.fld 3 1 (.int .i64) .nil)))) true (.t 38) (.t 43)))
.fin))))))))))) (some [2, 3, 5, 44]))
(.cond (.t 44)
(.seq (.ops [bO 4 false] none)
.ret)
.skip)))
(.ops [mvO 32 5,
pO 33 32 1,
mvO 5 33] (some [2, 3, 5])))))))
(.seq (.ops [bO 4 true] none)
.ret))))⟩
def ir469 : IFn := ⟨52, [.t 4],
(.seq (.ops [opO 2 (.box (.t 0)),
opO 3 (.box (.t 1)),
bO 4 false] (some [2, 3]))
(.seq (.seq (.ops [fO 6 0 2,
lO 7 1 6,
fO 8 0 3,
lO 9 1 8,
opO 10 (.ibin .neq .i64 (.t 7) (.t 9)),
mvO 11 10,
⟨(some 12), (some (11, false)), .faddr 1 (.t 2)⟩,
⟨(some 13), (some (11, false)), .load 1 false (.t 12)⟩,
⟨(some 14), (some (11, false)), .faddr 1 (.t 3)⟩,
⟨(some 15), (some (11, false)), .load 1 false (.t 14)⟩,
⟨(some 16), (some (11, false)), .ibin .neq .i64 (.t 13) (.t 15)⟩,
opO 17 (.pick (.t 11) (.c (.bool true)) (.t 16)),
mvO 18 17,
⟨(some 19), (some (18, false)), .faddr 2 (.t 2)⟩,
⟨(some 20), (some (18, false)), .load 1 false (.t 19)⟩,
⟨(some 21), (some (18, false)), .faddr 2 (.t 3)⟩,
⟨(some 22), (some (18, false)), .load 1 false (.t 21)⟩,
⟨(some 23), (some (18, false)), .ibin .neq .i64 (.t 20) (.t 22)⟩,
opO 24 (.pick (.t 18) (.c (.bool true)) (.t 23)),
mvO 25 24,
⟨(some 26), (some (25, false)), .faddr 3 (.t 2)⟩,
⟨(some 27), (some (25, false)), .load 1 false (.t 26)⟩,
⟨(some 28), (some (25, false)), .lenV (.t 27)⟩,
⟨(some 29), (some (25, false)), .faddr 3 (.t 3)⟩,
⟨(some 30), (some (25, false)), .load 1 false (.t 29)⟩,
⟨(some 31), (some (25, false)), .lenV (.t 30)⟩,
⟨(some 32), (some (25, false)), .ibin .neq .i64 (.t 28) (.t 31)⟩,
opO 33 (.pick (.t 25) (.c (.bool true)) (.t 32))] (some [2, 3, 33]))
(.cond (.t 33)
(.seq (.ops [bO 4 false] none)
.ret)
.skip))
(.seq (.seq (.ops [mO 5 0] none)
(.block 0 (.loop (.seq (.seq (.ops [mvO 34 5,
fO 35 3 2,
lO 36 1 35,
nO 37 36,
sO 38 34 37] (some [2, 3, 5, 38]))
(.cond (.t 38)
.skip
(.exit 0)))
(.seq (.block 1 (.seq (.draw (.rd 0 (fO 41 3 2)
(.rd 1 (lO 42 1 41)
(.rd 2 (mvO 43 5)
(.rd 3 (iO 44 3 42 43)
(.rd 4 (lA 45 3 44)
(.rd 5 (fO 46 3 3)
(.rd 6 (lO 47 1 46)
(.rd 7 (mvO 48 5)
(.rd 8 (iO 49 3 47 48)
(.rd 9 (lA 50 3 49)
(.rd 10 (opO 51 (.eqv (.fld 0 1 (.int .i64) (.fld 1 1 (.int .i64) (.fld 2 1 (.int .i64) .nil))) true (.t 45) (.t 50)))
.fin))))))))))) (some [2, 3, 5, 51]))
(.cond (.t 51)
(.seq (.ops [bO 4 false] none)
.ret)
.skip)))
(.ops [mvO 39 5,
pO 40 39 1,
mvO 5 40] (some [2, 3, 5])))))))
(.seq (.ops [bO 4 true] none)
.ret))))⟩
def ir471 : IFn := ⟨20, [.t 2],
(.seq (.ops [opO 2 (.mov (.c (.string ⟨#[]⟩)))] (some [0]))
(.seq (.ops [opO 3 (.mov (.c (.slice none 0 0)))] none)
(.seq (.seq (.ops [mvO 6 0,
nO 7 6,
mO 8 0] (some [3, 6, 7, 8]))
(.block 0 (.loop (.seq (.ops [sO 9 8 7] none)
(.seq (.cond (.t 9)
.skip
(.exit 0))
(.seq (.block 1 (.seq (.ops [iO 10 1 6 8,
lO 11 1 10,
mvO 5 11] (some [3, 5, 6, 7, 8]))
(.ops [mvO 12 3,
mvO 13 5,
cO 14 385 13,
opO 15 (.bslice 1 1 [(.string ⟨#[]⟩)] [(0, 1, (.t 14))]),
opO 16 (.append 1 16 (.t 12) (.t 15)),
mvO 3 16] (some [3, 6, 7, 8]))))
(.ops [pO 17 8 1,
mvO 8 17] (some [3, 6, 7, 8]))))))))
(.seq (.ops [mvO 18 3,
opO 19 (.call 384 [(.t 18), (.c (.string ⟨#[32]⟩))]),
mvO 2 19] (some [2]))
.ret))))⟩
def ir472 : IFn := ⟨63, [.t 4],
(.seq (.ops [bO 4 false] (some [0, 1]))
(.seq (.seq (.ops [mvO 9 0,
nO 10 9,
mvO 11 1,
nO 12 11,
opO 13 (.ibin .neq .i64 (.t 10) (.t 12))] (some [0, 1, 13]))
(.cond (.t 13)
(.seq (.ops [bO 4 false] none)
.ret)
.skip))
(.seq (.seq (.ops [mvO 14 1,
nO 15 14,
mO 16 0] (some [0, 14, 15, 16]))
(.block 0 (.loop (.seq (.ops [sO 17 16 15] none)
(.seq (.cond (.t 17)
.skip
(.exit 0))
(.seq (.block 1 (.seq (.ops [mvO 18 16,
iO 19 2 14 16,
lA 20 2 19,
opO 6 (.alloc [(.pointer none), (.bool false)]),
mvO 5 18,
⟨none, none, .store 2 (.t 6) (.t 20)⟩] (some [0, 5, 6, 14, 15, 16]))
(.seq (.ops [mvO 22 0,
mvO 23 5,
iO 24 1 22 23,
lO 25 1 24,
cO 26 394 25,
mvO 21 26,
xO 27 0 21,
xO 28 1 21,
mvO 7 27,
mvO 8 28] (some [0, 5, 6, 7, 8, 14, 15, 16]))
(.seq (.seq (.draw (.rd 0 (mvO 29 8)
(.rd 1 (opO 30 (.nileq .ifc true (.t 29)))
(.rd 2 (mvO 31 30)
(.rd 3 ⟨(some 32), (some (31, false)), .mov (.t 7)⟩
(.rd 5 ⟨(some 34), (some (31, false)), .mov (.t 0)⟩
(.rd 6 ⟨(some 35), (some (31, false)), .mov (.t 5)⟩
(.rd 7 ⟨(some 36), (some (31, false)), .iaddr 1 (.t 34) (.t 35)⟩
(.rd 8 ⟨(some 37), (some (31, false)), .load 1 false (.t 36)⟩
(.wr 4 ⟨(some 33), (some (31, false)), .call 385 [(.t 32)]⟩ [3, 2, 2]
(.rd 9 ⟨(some 38), (some (31, false)), .sbin .neq (.t 33) (.t 37)⟩
(.rd 10 (opO 39 (.pick (.t 31) (.c (.bool true)) (.t 38)))
(.rd 11 (mvO 40 39)
(.rd 12 ⟨(some 41), (some (40, false)), .mov (.t 7)⟩
(.rd 13 ⟨(some 42), (some (40, false)), .ibin .lss .i64 (.t 41) (ci 0)⟩
(.rd 14 ⟨(some 43), (some (40, false)), .mov (.t 42)⟩
(.rd 15 ⟨(some 44), (some (43, true)), .faddr 1 (.t 6)⟩
(.rd 16 ⟨(some 45), (some (43, true)), .load 1 false (.t 44)⟩
(.rd 17 ⟨(some 46), (some (43, true)), .un .not (.t 45)⟩
(.rd 18 ⟨(some 47), (some (40, false)), .pick (.t 43) (.t 46) (.c (.bool false))⟩
(.rd 19 (opO 48 (.pick (.t 40) (.c (.bool true)) (.t 47)))
(.rd 20 (mvO 49 48)
(.rd 21 ⟨(some 50), (some (49, false)), .mov (.t 0)⟩
(.rd 22 ⟨(some 51), (some (49, false)), .mov (.t 5)⟩
(.rd 23 ⟨(some 52), (some (49, false)), .iaddr 1 (.t 50) (.t 51)⟩
(.rd 24 ⟨(some 53), (some (49, false)), .load 1 false (.t 52)⟩
(.wr 25 ⟨(some 54), (some (49, false)), .call 395 [(.t 53), (.c (.string ⟨#[45]⟩))]⟩ [24, 20, 20]
(.rd 26 ⟨(some 55), (some (49, false)), .lenS (.t 54)⟩
(.rd 27 ⟨(some 56), (some (49, false)), .ibin .gtr .i64 (.t 55) (ci 7)⟩
(.rd 28 (opO 57 (.pick (.t 49) (.c (.bool true)) (.t 56)))
.fin))) .no))))))))))))))))) .no))))))))) (some [0, 6, 7, 14, 15, 16, 57]))
(.cond (.t 57)
(.seq (.ops [bO 4 false] none)
.ret)
.skip))
(.ops [fO 58 0 6,
lO 59 1 58,
mvO 60 7,
opO 61 (.nilchk (.t 59)),
⟨none, none, .store 1 (.t 61) (.t 60)⟩] (some [0, 14, 15, 16]))))))
(.ops [pO 62 16 1,
mvO 16 62] (some [0, 14, 15, 16]))))))))
(.seq (.ops [bO 4 true] none)
.ret))))⟩
def ir473 : IFn := ⟨46, [.t 6, .t 7],
(.seq (.ops [opO 6 (.mov (.c (.slice none 0 0))),
bO 7 false] (some [0, 1, 2]))
(.seq (.seq (.ops [mvO 12 0,
nO 13 12,
mvO 14 1,
opO 15 (.ibin .neq .i64 (.t 13) (.t 14))] (some [0, 2, 15]))
(.cond (.t 15)
(.seq (.ops [opO 6 (.mov (.c (.slice none 0 0))),
bO 7 false] none)
.ret)
.skip))
(.seq (.ops [opO 8 (.mov (.c (.slice none 0 0)))] none)
(.seq (.seq (.ops [mO 9 0] none)
(.block 0 (.loop (.seq (.seq (.ops [mvO 16 9,
mvO 17 0,
nO 18 17,
sO 19 16 18] (some [0, 2, 8, 9, 19]))
(.cond (.t 19)
.skip
(.exit 0)))
(.seq (.block 1 (.seq (.ops [mvO 23 0,
mvO 24 9,
iO 25 1 23 24,
lO 26 1 25,
opO 27 (.call 387 [(.t 26), (ci 7)]),
mvO 22 27,
xO 28 0 22,
xO 29 1 22,
mvO 10 28,
mvO 11 29] (some [0, 2, 8, 9, 10, 11]))
(.seq (.seq (.ops [mvO 30 11,
opO 31 (.un .not (.t 30)),
mvO 32 31,
⟨(some 33), (some (32, false)), .mov (.t 10)⟩,
⟨(some 34), (some (32, false)), .ibin .lss .i64 (.t 33) (ci 0)⟩,
⟨(some 35), (some (32, false)), .mov (.t 34)⟩,
⟨(some 36), (some (35, true)), .mov (.t 9)⟩,
⟨(some 37), (some (35, true)), .mov (.t 2)⟩,
⟨(some 38), (some (35, true)), .ibin .lss .i64 (.t 36) (.t 37)⟩,
⟨(some 39), (some (32, false)), .pick (.t 35) (.t 38) (.c (.bool false))⟩,
opO 40 (.pick (.t 32) (.c (.bool true)) (.t 39))] (some [0, 2, 8, 9, 10, 40]))
(.cond (.t 40)
(.seq (.ops [opO 6 (.mov (.c (.slice none 0 0))),
bO 7 false] none)
.ret)
.skip))
(.ops [mvO 41 8,
mvO 42 10,
opO 43 (.bslice 1 1 [(.int .i64 0)] [(0, 1, (.t 42))]),
opO 44 (.append 1 8 (.t 41) (.t 43)),
mvO 8 44] (some [0, 2, 8, 9])))))
(.ops [mvO 20 9,
pO 21 20 1,
mvO 9 21] (some [0, 2, 8, 9])))))))
(.seq (.ops [mvO 45 8,
mvO 6 45,
bO 7 true] (some [6, 7]))
.ret)))))⟩
end Go.Proofs.YtolapannkcdeeaaGreatDoor.AM
