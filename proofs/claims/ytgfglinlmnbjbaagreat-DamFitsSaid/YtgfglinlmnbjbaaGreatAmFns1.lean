/- The functions in the small language. Conditions: none. -/
import Derived.Test.YtgfglinlmnbjbaaGreatAmFns
namespace Go.Proofs.YtgfglinlmnbjbaaGreat.AM
set_option linter.unusedSimpArgs false
set_option linter.unusedVariables false
open Go Go.RowKit
def ir180 : IFn := ⟨18, [.t 2],
(.seq (.ops [opO 1 (.box (.t 0)),
mO 2 0] (some [1]))
(.seq (.seq (.ops [fO 4 0 1,
lO 5 1 4,
opO 6 (.call 15 [(.t 5), (ci 1), (ci 1000000000000)]),
opO 7 (.un .not (.t 6))] (some [1, 7]))
(.cond (.t 7)
(.seq (.ops [mO 2 2] none)
.ret)
.skip))
(.seq (.seq (.ops [mO 3 0] none)
(.block 0 (.loop (.seq (.seq (.ops [mvO 8 3,
opO 9 (.ibin .lss .i64 (.t 8) (ci 5))] (some [1, 3, 9]))
(.cond (.t 9)
.skip
(.exit 0)))
(.seq (.block 1 (.seq (.ops [mvO 12 3,
fO 13 1 1,
opO 14 (.iaddrA 5 1 (.t 13) (.t 12)),
lO 15 1 14,
opO 16 (.call 15 [(.t 15), (ci (-1000000000000)), (ci 1000000000000)]),
opO 17 (.un .not (.t 16))] (some [1, 3, 17]))
(.cond (.t 17)
(.seq (.ops [mO 2 2] none)
.ret)
.skip)))
(.ops [mvO 10 3,
pO 11 10 1,
mvO 3 11] (some [1, 3])))))))
(.seq (.ops [mO 2 0] none)
.ret))))⟩
def ir192 : IFn := ⟨30, [.t 4],
(.seq (.ops [opO 2 (.box (.t 0)),
opO 3 (.box (.t 1)),
mO 4 0] (some [2, 3]))
(.seq (.ops [lA 8 3 3,
cO 9 34 8,
opO 5 (.alloc (List.replicate 5 (.int .i64 0))),
⟨none, none, .store 5 (.t 5) (.t 9)⟩] (some [2, 3, 5]))
(.seq (.ops [fO 10 0 2,
lO 11 1 10,
fO 12 2 3,
lO 13 1 12,
opO 14 (.ibin .mul .i64 (.t 11) (.t 13)),
mvO 6 14] (some [2, 5, 6]))
(.seq (.seq (.ops [mO 7 0] none)
(.block 0 (.loop (.seq (.seq (.ops [mvO 15 7,
opO 16 (.ibin .lss .i64 (.t 15) (ci 5))] (some [2, 5, 6, 7, 16]))
(.cond (.t 16)
.skip
(.exit 0)))
(.seq (.block 1 (.draw (.rd 0 (mvO 19 6)
(.rd 1 (mvO 20 7)
(.rd 2 (fO 21 1 2)
(.rd 3 (opO 22 (.iaddrA 5 1 (.t 21) (.t 20)))
(.rd 4 (lO 23 1 22)
(.rd 5 (mvO 24 7)
(.rd 6 (opO 25 (.iaddrA 5 1 (.t 5) (.t 24)))
(.rd 7 (lO 26 1 25)
(.rd 8 (opO 27 (.ibin .mul .i64 (.t 23) (.t 26)))
(.rd 9 (opO 28 (.ibin .sub .i64 (.t 19) (.t 27)))
(.wr 10 (mvO 6 28) [9, 0, 1, 2, 3, 4, 5, 6, 7, 8, 9]
.fin .no))))))))))) (some [2, 5, 6, 7])))
(.ops [mvO 17 7,
pO 18 17 1,
mvO 7 18] (some [2, 5, 6, 7])))))))
(.seq (.ops [mvO 29 6,
mvO 4 29] (some [4]))
.ret)))))⟩
def ir263 : IFn := ⟨91, [.t 6],
(.seq (.ops [opO 5 (.box (.t 2)),
bO 6 false] (some [0, 1, 5]))
(.seq (.seq (.ops [opO 15 (.call 10 []),
opO 16 (.un .not (.t 15))] (some [0, 1, 5, 16]))
(.cond (.t 16)
(.seq (.ops [bO 6 false] none)
.ret)
.skip))
(.seq (.seq (.ops [mvO 17 0,
cO 18 178 17,
opO 19 (.un .not (.t 18))] (some [0, 1, 5, 19]))
(.cond (.t 19)
(.seq (.ops [bO 6 true] none)
.ret)
.skip))
(.seq (.ops [mvO 21 0,
cO 22 53 21,
mvO 23 1,
opO 24 (.call 55 [(.t 22), (.t 23)]),
mvO 20 24,
xO 25 0 20,
xO 26 1 20,
opO 7 (.alloc (List.replicate 6 (.int .i64 0))),
⟨none, none, .store 6 (.t 7) (.t 25)⟩,
mvO 8 26] (some [0, 1, 5, 7, 8]))
(.seq (.draw (.rd 0 (mvO 28 0)
(.rd 2 (mvO 30 1)
(.rd 3 (lA 31 6 5)
(.wr 1 (cO 29 53 28) [0]
(.wr 4 (opO 32 (.call 265 [(.t 29), (.t 30), (.t 31)])) [1, 2, 3, 1]
(.rd 5 (mvO 27 32)
(.rd 6 (xO 33 0 27)
(.rd 7 (xO 34 1 27)
(.rd 8 (mvO 9 33)
(.rd 9 (mvO 10 34)
.fin))))) .no) .no)))) (some [0, 1, 5, 7, 8, 9, 10]))
(.seq (.ops [mvO 35 0,
cO 36 51 35,
mvO 11 36] (some [0, 1, 5, 7, 8, 9, 10, 11]))
(.seq (.seq (.ops [mvO 37 11,
opO 38 (.ibin .eql .i64 (.t 37) (ci 0))] (some [0, 1, 5, 7, 8, 9, 10, 11, 38]))
(.cond (.t 38)
(.ops [mvO 39 1,
cO 40 52 39,
mvO 11 40] (some [0, 1, 5, 7, 8, 9, 10, 11]))
.skip))
(.seq (.seq (.ops [mvO 41 11,
opO 42 (.ibin .neq .i64 (.t 41) (ci 0))] (some [0, 1, 5, 7, 8, 9, 10, 11, 42]))
(.cond (.t 42)
(.seq (.ops [mvO 43 8,
mvO 44 11,
opO 45 (.ibin .eql .i64 (.t 43) (.t 44)),
mvO 46 45,
⟨(some 47), (some (46, true)), .load 6 true (.t 7)⟩,
⟨(some 48), (some (46, true)), .build (List.replicate 6 (.int .i64 0)) []⟩,
⟨(some 49), (some (46, true)), .eqv (.fld 0 1 (.int .i64) (.fld 1 5 (.fld 0 1 (.int .i64) (.fld 1 1 (.int .i64) (.fld 2 1 (.int .i64) (.fld 3 1 (.int .i64) (.fld 4 1 (.int .i64) .nil))))) .nil)) false (.t 47) (.t 48)⟩,
opO 50 (.pick (.t 46) (.t 49) (.c (.bool false))),
mvO 51 50,
⟨(some 52), (some (51, true)), .mov (.t 10)⟩,
⟨(some 53), (some (51, true)), .mov (.t 11)⟩,
⟨(some 54), (some (51, true)), .ibin .eql .i64 (.t 52) (.t 53)⟩,
opO 55 (.pick (.t 51) (.t 54) (.c (.bool false))),
mvO 56 55,
⟨(some 57), (some (56, true)), .mov (.t 9)⟩,
⟨(some 58), (some (56, true)), .ibin .eql .i64 (.t 57) (ci 0)⟩,
opO 59 (.pick (.t 56) (.t 58) (.c (.bool false))),
mvO 6 59] (some [6]))
.ret)
.skip))
(.seq (.ops [mvO 61 0,
mvO 62 1,
opO 63 (.call 266 [(.t 61), (.t 62)]),
mvO 60 63,
xO 64 0 60,
xO 65 1 60,
opO 12 (.alloc (List.replicate 6 (.int .i64 0))),
⟨none, none, .store 6 (.t 12) (.t 64)⟩,
mvO 13 65] (some [0, 1, 5, 7, 8, 9, 10, 12, 13]))
(.seq (.ops [mvO 67 0,
mvO 68 1,
lA 69 6 5,
opO 70 (.call 267 [(.t 67), (.t 68), (.t 69)]),
mvO 66 70,
xO 71 0 66,
xO 72 1 66,
mvO 14 71,
mvO 11 72] (some [7, 8, 9, 10, 11, 12, 13, 14]))
(.seq (.ops [mvO 73 8,
mvO 74 13,
opO 75 (.ibin .eql .i64 (.t 73) (.t 74)),
mvO 76 75,
⟨(some 77), (some (76, true)), .load 6 true (.t 7)⟩,
⟨(some 78), (some (76, true)), .load 6 true (.t 12)⟩,
⟨(some 79), (some (76, true)), .eqv (.fld 0 1 (.int .i64) (.fld 1 5 (.fld 0 1 (.int .i64) (.fld 1 1 (.int .i64) (.fld 2 1 (.int .i64) (.fld 3 1 (.int .i64) (.fld 4 1 (.int .i64) .nil))))) .nil)) false (.t 77) (.t 78)⟩,
opO 80 (.pick (.t 76) (.t 79) (.c (.bool false))),
mvO 81 80,
⟨(some 82), (some (81, true)), .mov (.t 10)⟩,
⟨(some 83), (some (81, true)), .mov (.t 11)⟩,
⟨(some 84), (some (81, true)), .ibin .eql .i64 (.t 82) (.t 83)⟩,
opO 85 (.pick (.t 81) (.t 84) (.c (.bool false))),
mvO 86 85,
⟨(some 87), (some (86, true)), .mov (.t 9)⟩,
⟨(some 88), (some (86, true)), .mov (.t 14)⟩,
⟨(some 89), (some (86, true)), .ibin .eql .i64 (.t 87) (.t 88)⟩,
opO 90 (.pick (.t 86) (.t 89) (.c (.bool false))),
mvO 6 90] (some [6]))
.ret)))))))))))⟩
def ir265 : IFn := ⟨82, [.t 6, .t 7],
(.seq (.ops [opO 5 (.box (.t 2)),
mO 6 0,
mO 7 0] (some [0, 1, 5]))
(.seq (.ops [mvO 17 1,
mvO 8 17] (some [0, 5, 8]))
(.seq (.seq (.draw (.rd 0 (mvO 18 0)
(.rd 2 (mvO 20 8)
(.rd 4 (lA 22 6 5)
(.wr 1 (cO 19 93 18) [0]
(.wr 3 (cO 21 94 20) [2, 1]
(.wr 5 (cO 23 98 22) [4, 3]
(.wr 6 (opO 24 (.bslice 3 1 [(.int .i64 0)] [(0, 1, (.t 19)), (1, 1, (.t 21)), (2, 1, (.t 23))])) [1, 3, 5]
(.wr 7 (cO 25 63 24) [6, 5]
(.rd 8 (mvO 9 25)
.fin) .no) .no) .no) .no) .no)))) (some [0, 5, 8, 9]))
(.seq (.ops [mvO 26 9,
opO 27 (.ibin .neq .i64 (.t 26) (ci 0))] (some [0, 5, 8, 9, 27]))
(.cond (.t 27)
(.seq (.ops [mvO 28 9,
mO 6 0,
mvO 7 28] (some [6, 7]))
.ret)
.skip)))
(.seq (.seq (.ops [fO 29 1 5,
lA 30 5 29,
mO 31 0] (some [0, 5, 8, 30, 31]))
(.block 0 (.loop (.seq (.ops [opO 32 (.ibin .lss .i64 (.t 31) (ci 5))] none)
(.seq (.cond (.t 32)
.skip
(.exit 0))
(.seq (.block 1 (.seq (.ops [mvO 33 31,
opO 34 (.indexA 5 1 false (.t 30) (.t 31)),
mvO 10 33,
mvO 11 34] (some [0, 5, 8, 10, 11, 30, 31]))
(.seq (.ops [mvO 35 11,
opO 36 (.ibin .neq .i64 (.t 35) (ci 0)),
mvO 37 36,
⟨(some 38), (some (37, true)), .mov (.t 8)⟩,
⟨(some 39), (some (37, true)), .mov (.t 10)⟩,
⟨(some 40), (some (37, true)), .call 114 [(.t 38), (.t 39)]⟩,
⟨(some 41), (some (37, true)), .un .not (.t 40)⟩,
opO 42 (.pick (.t 37) (.t 41) (.c (.bool false)))] (some [0, 5, 8, 10, 30, 31, 42]))
(.cond (.t 42)
(.seq (.ops [mvO 43 10,
mvO 6 43,
mO 7 3] (some [6, 7]))
.ret)
.skip))))
(.ops [pO 44 31 1,
mvO 31 44] (some [0, 5, 8, 30, 31]))))))))
(.seq (.seq (.ops [lA 45 6 5,
cO 46 97 45,
opO 47 (.ibin .neq .i64 (.t 46) (ci 1))] (some [0, 5, 8, 47]))
(.cond (.t 47)
(.seq (.ops [mO 6 0,
mO 7 3] none)
.ret)
.skip))
(.seq (.seq (.ops [mvO 48 8,
cO 49 95 48,
nO 50 49,
mO 51 0] (some [0, 5, 49, 50, 51]))
(.block 2 (.loop (.seq (.ops [sO 52 51 50] none)
(.seq (.cond (.t 52)
.skip
(.exit 2))
(.seq (.block 3 (.seq (.ops [iO 53 1 49 51,
lO 54 1 53,
mvO 13 54] (some [0, 5, 13, 49, 50, 51]))
(.seq (.ops [mO 14 0] none)
(.seq (.seq (.ops [mvO 55 0,
nO 56 55,
mO 57 0] none)
(.block 4 (.loop (.seq (.ops [sO 58 57 56] none)
(.seq (.cond (.t 58)
.skip
(.exit 4))
(.seq (.block 5 (.seq (.ops [iO 59 3 55 57,
lA 60 3 59,
opO 16 (.alloc [(.int .i64 0), (.int .i64 0), (.int .i64 0)]),
⟨none, none, .store 3 (.t 16) (.t 60)⟩] (some [0, 5, 13, 14, 16, 49, 50, 51, 55, 56, 57]))
(.draw (.rd 0 (mvO 61 14)
(.rd 1 (lA 62 3 16)
(.rd 3 (mvO 64 13)
(.rd 5 (fO 66 0 5)
(.rd 6 (lO 67 1 66)
(.rd 7 (fO 68 2 16)
(.rd 8 (lO 69 1 68)
(.rd 9 (opO 70 (.ibin .mul .i64 (.t 67) (.t 69)))
(.rd 10 (lA 71 6 5)
(.rd 11 (lA 72 3 16)
(.wr 2 (cO 63 77 62) [1]
(.rd 4 (opO 65 (.indexA 5 1 false (.t 63) (.t 64)))
(.wr 12 (opO 73 (.call 102 [(.t 71), (.t 72)])) [10, 11, 2]
(.rd 13 (opO 74 (.ibin .sub .i64 (.t 70) (.t 73)))
(.rd 14 (opO 75 (.ibin .mul .i64 (.t 65) (.t 74)))
(.rd 15 (opO 76 (.ibin .add .i64 (.t 61) (.t 75)))
(.wr 16 (mvO 14 76) [15, 12, 0, 1, 2, 3, 4, 5, 6, 7, 8, 9, 10, 11, 12, 13, 14, 15]
.fin .no)))) .no)) .no))))))))))) (some [0, 5, 13, 14, 49, 50, 51, 55, 56, 57]))))
(.ops [pO 77 57 1,
mvO 57 77] (some [0, 5, 13, 14, 49, 50, 51, 55, 56, 57]))))))))
(.seq (.ops [mvO 78 14,
opO 79 (.ibin .neq .i64 (.t 78) (ci 0))] (some [0, 5, 13, 49, 50, 51, 79]))
(.cond (.t 79)
(.seq (.ops [mvO 80 13,
mvO 6 80,
mO 7 19] (some [6, 7]))
.ret)
.skip))))))
(.ops [pO 81 51 1,
mvO 51 81] (some [0, 5, 49, 50, 51]))))))))
(.seq (.ops [mO 6 0,
mO 7 0] none)
.ret)))))))⟩
def ir266 : IFn := ⟨171, [.cell 4 6 true, .t 5],
(.seq (.ops [opO 4 (.alloc (List.replicate 6 (.int .i64 0))),
mO 5 0] (some [0, 1, 4]))
(.seq (.ops [mvO 25 1,
cO 26 270 25,
mvO 6 26] (some [0, 4, 6]))
(.seq (.ops [opO 7 (.mov (.c (.slice none 0 0)))] none)
(.seq (.seq (.ops [mO 8 0] none)
(.block 0 (.loop (.seq (.seq (.ops [mvO 27 8,
mvO 28 6,
nO 29 28,
sO 30 27 29] (some [0, 4, 6, 7, 8, 30]))
(.cond (.t 30)
.skip
(.exit 0)))
(.seq (.block 1 (.seq (.ops [opO 9 (.mov (.c (.slice none 0 0)))] none)
(.seq (.seq (.ops [mO 10 0] none)
(.block 2 (.loop (.seq (.seq (.ops [mvO 33 10,
mvO 34 6,
nO 35 34,
opO 36 (.ibin .leq .i64 (.t 33) (.t 35))] (some [0, 4, 6, 7, 8, 9, 10, 36]))
(.cond (.t 36)
.skip
(.exit 2)))
(.seq (.block 3 (.seq (.ops [mO 11 0] none)
(.seq (.seq (.ops [mO 12 0] none)
(.block 4 (.loop (.seq (.seq (.ops [mvO 39 12,
mvO 40 0,
nO 41 40,
sO 42 39 41] (some [0, 4, 6, 7, 8, 9, 10, 11, 12, 42]))
(.cond (.t 42)
.skip
(.exit 4)))
(.seq (.block 5 (.seq (.ops [mvO 45 0,
mvO 46 12,
iO 47 3 45 46,
lA 48 3 47,
cO 49 34 48,
opO 13 (.alloc (List.replicate 5 (.int .i64 0))),
⟨none, none, .store 5 (.t 13) (.t 49)⟩] (some [0, 4, 6, 7, 8, 9, 10, 11, 12, 13]))
(.seq (.ops [mvO 50 10,
mvO 51 6,
nO 52 51,
sO 53 50 52] (some [0, 4, 6, 7, 8, 9, 10, 11, 12, 13, 53]))
(.cond (.t 53)
(.draw (.rd 0 (mvO 54 11)
(.rd 1 (mvO 55 6)
(.rd 2 (mvO 56 8)
(.rd 3 (iO 57 1 55 56)
(.rd 4 (lO 58 1 57)
(.rd 5 (opO 59 (.iaddrA 5 1 (.t 13) (.t 58)))
(.rd 6 (lO 60 1 59)
(.rd 7 (mvO 61 6)
(.rd 8 (mvO 62 10)
(.rd 9 (iO 63 1 61 62)
(.rd 10 (lO 64 1 63)
(.rd 11 (opO 65 (.iaddrA 5 1 (.t 13) (.t 64)))
(.rd 12 (lO 66 1 65)
(.rd 13 (opO 67 (.ibin .mul .i64 (.t 60) (.t 66)))
(.rd 14 (opO 68 (.ibin .add .i64 (.t 54) (.t 67)))
(.wr 15 (mvO 11 68) [14, 0, 1, 2, 3, 4, 5, 6, 7, 8, 9, 10, 11, 12, 13, 14]
.fin .no)))))))))))))))) (some [0, 4, 6, 7, 8, 9, 10, 11, 12]))
(.draw (.rd 0 (mvO 69 11)
(.rd 1 (mvO 70 6)
(.rd 2 (mvO 71 8)
(.rd 3 (iO 72 1 70 71)
(.rd 4 (lO 73 1 72)
(.rd 5 (opO 74 (.iaddrA 5 1 (.t 13) (.t 73)))
(.rd 6 (lO 75 1 74)
(.rd 7 (mvO 76 0)
(.rd 8 (mvO 77 12)
(.rd 9 (iO 78 3 76 77)
(.rd 10 (fO 79 2 78)
(.rd 11 (lO 80 1 79)
(.rd 12 (opO 81 (.ibin .mul .i64 (.t 75) (.t 80)))
(.rd 13 (opO 82 (.ibin .add .i64 (.t 69) (.t 81)))
(.wr 14 (mvO 11 82) [13, 0, 1, 2, 3, 4, 5, 6, 7, 8, 9, 10, 11, 12, 13]
.fin .no))))))))))))))) (some [0, 4, 6, 7, 8, 9, 10, 11, 12]))))))
(.ops [mvO 43 12,
pO 44 43 1,
mvO 12 44] (some [0, 4, 6, 7, 8, 9, 10, 11, 12])))))))
(.ops [mvO 83 9,
mvO 84 11,
cO 85 271 84,
opO 86 (.bslice 1 4 [(.int .i64 0), (.slice none 0 0), (.int .i64 0), (.slice none 0 0)] [(0, 4, (.t 85))]),
opO 87 (.append 4 64 (.t 83) (.t 86)),
mvO 9 87] (some [0, 4, 6, 7, 8, 9, 10])))))
(.ops [mvO 37 10,
pO 38 37 1,
mvO 10 38] (some [0, 4, 6, 7, 8, 9, 10])))))))
(.ops [mvO 88 7,
mvO 89 9,
opO 90 (.bslice 1 1 [(.slice none 0 0)] [(0, 1, (.t 89))]),
opO 91 (.append 1 24 (.t 88) (.t 90)),
mvO 7 91] (some [0, 4, 6, 7, 8])))))
(.ops [mvO 31 8,
pO 32 31 1,
mvO 8 32] (some [0, 4, 6, 7, 8])))))))
(.seq (.ops [mvO 93 7,
cO 94 272 93,
mvO 92 94,
xO 95 0 92,
xO 96 1 92,
mvO 14 95,
mvO 15 96] (some [4, 6, 14, 15]))
(.seq (.seq (.ops [mvO 97 15,
opO 98 (.un .not (.t 97))] (some [4, 6, 14, 98]))
(.cond (.t 98)
(.seq (.ops [opO 99 (.build (List.replicate 6 (.int .i64 0)) []),
⟨none, none, .store 6 (.t 4) (.t 99)⟩,
mO 5 12] (some [4, 5]))
.ret)
.skip))
(.seq (.ops [opO 100 (.call 273 [(ci 1)]),
opO 16 (.alloc [(.int .i64 0), (.slice none 0 0)]),
⟨none, none, .store 2 (.t 16) (.t 100)⟩] (some [4, 6, 14, 16]))
(.seq (.seq (.ops [mO 17 0] none)
(.block 6 (.loop (.seq (.seq (.ops [mvO 101 17,
mvO 102 14,
nO 103 102,
sO 104 101 103] (some [4, 6, 14, 16, 17, 104]))
(.cond (.t 104)
.skip
(.exit 6)))
(.seq (.block 7 (.draw (.rd 0 (lA 107 2 16)
(.rd 1 (mvO 108 14)
(.rd 2 (mvO 109 17)
(.rd 3 (iO 110 4 108 109)
(.rd 4 (fO 111 2 110)
(.rd 5 (lA 112 2 111)
(.rd 8 (mvO 115 14)
(.rd 9 (mvO 116 17)
(.rd 10 (iO 117 4 115 116)
(.rd 11 (fO 118 2 117)
(.rd 12 (lA 119 2 118)
(.wr 6 (opO 113 (.call 275 [(.t 107), (.t 112)])) [0, 5]
(.rd 7 (opO 114 (.field 0 2 true (.t 113)))
(.wr 13 (opO 120 (.call 274 [(.t 114), (.t 119)])) [7, 12, 6]
(.wr 14 ⟨none, none, .store 2 (.t 16) (.t 120)⟩ [13, 13, 0, 1, 2, 3, 4, 5, 6, 7, 8, 9, 10, 11, 12, 13]
.fin .no) .no)) .no)))))))))))) (some [4, 6, 14, 16, 17])))
(.ops [mvO 105 17,
pO 106 105 1,
mvO 17 106] (some [4, 6, 14, 16, 17])))))))
(.seq (.ops [opO 121 (.build (List.replicate 6 (.int .i64 0)) []),
opO 18 (.alloc (List.replicate 6 (.int .i64 0))),
⟨none, none, .store 6 (.t 18) (.t 121)⟩] (some [4, 6, 14, 16, 18]))
(.seq (.ops [lA 123 2 16,
cO 124 276 123,
mvO 122 124,
xO 125 0 122,
xO 126 1 122,
mvO 19 125,
mvO 20 126] (some [4, 6, 14, 18, 19, 20]))
(.seq (.seq (.ops [mvO 127 20,
opO 128 (.un .not (.t 127)),
mvO 129 128,
⟨(some 130), (some (129, false)), .mov (.t 19)⟩,
⟨(some 131), (some (129, false)), .ibin .gtr .i64 (.t 130) (ci 1000000000000)⟩,
opO 132 (.pick (.t 129) (.c (.bool true)) (.t 131))] (some [4, 6, 14, 18, 19, 132]))
(.cond (.t 132)
(.seq (.ops [opO 133 (.build (List.replicate 6 (.int .i64 0)) []),
⟨none, none, .store 6 (.t 4) (.t 133)⟩,
mO 5 8] (some [4, 5]))
.ret)
.skip))
(.seq (.ops [mvO 134 19,
fO 135 0 18,
⟨none, none, .store 1 (.t 135) (.t 134)⟩] (some [4, 6, 14, 18, 19]))
(.seq (.seq (.ops [mO 21 0] none)
(.block 8 (.loop (.seq (.seq (.ops [mvO 136 21,
mvO 137 14,
nO 138 137,
sO 139 136 138] (some [4, 6, 14, 18, 19, 21, 139]))
(.cond (.t 139)
.skip
(.exit 8)))
(.seq (.block 9 (.seq (.draw (.rd 0 (mvO 142 14)
(.rd 1 (mvO 143 21)
(.rd 2 (iO 144 4 142 143)
(.rd 3 (lA 145 4 144)
(.rd 4 (mvO 146 19)
(.wr 5 (cO 147 271 146) [4]
(.wr 6 (opO 148 (.call 277 [(.t 145), (.t 147)])) [3, 5, 5]
(.wr 7 (opO 22 (.alloc [(.int .i64 0), (.slice none 0 0), (.int .i64 0), (.slice none 0 0)])) []
(.wr 8 ⟨none, none, .store 4 (.t 22) (.t 148)⟩ [7, 6, 6, 0, 1, 2, 3, 4, 5, 6, 7]
.fin .no) .no)
(.wr 7 (opO 22 (.alloc [(.int .i64 0), (.slice none 0 0), (.int .i64 0), (.slice none 0 0)])) []
(.wr 6 (opO 148 (.call 277 [(.t 145), (.t 147)])) [3, 5, 5]
(.wr 8 ⟨none, none, .store 4 (.t 22) (.t 148)⟩ [7, 6, 6, 0, 1, 2, 3, 4, 5, 6, 7]
.fin .no) .no) .no))
(.wr 7 (opO 22 (.alloc [(.int .i64 0), (.slice none 0 0), (.int .i64 0), (.slice none 0 0)])) []
(.wr 5 (cO 147 271 146) [4]
(.wr 6 (opO 148 (.call 277 [(.t 145), (.t 147)])) [3, 5, 5]
(.wr 8 ⟨none, none, .store 4 (.t 22) (.t 148)⟩ [7, 6, 6, 0, 1, 2, 3, 4, 5, 6, 7]
.fin .no) .no) .no) .no))))))) (some [4, 6, 14, 18, 19, 21, 22]))
(.seq (.ops [lA 150 4 22,
cO 151 278 150,
cO 152 276 151,
mvO 149 152,
xO 153 0 149,
xO 154 1 149,
mvO 23 153,
mvO 24 154] (some [4, 6, 14, 18, 19, 21, 23, 24]))
(.seq (.seq (.ops [mvO 155 24,
opO 156 (.un .not (.t 155)),
mvO 157 156,
⟨(some 158), (some (157, false)), .mov (.t 23)⟩,
⟨(some 159), (some (157, false)), .call 15 [(.t 158), (ci (-1000000000000)), (ci 1000000000000)]⟩,
⟨(some 160), (some (157, false)), .un .not (.t 159)⟩,
opO 161 (.pick (.t 157) (.c (.bool true)) (.t 160))] (some [4, 6, 14, 18, 19, 21, 23, 161]))
(.cond (.t 161)
(.seq (.ops [opO 162 (.build (List.replicate 6 (.int .i64 0)) []),
⟨none, none, .store 6 (.t 4) (.t 162)⟩,
mO 5 8] (some [4, 5]))
.ret)
.skip))
(.ops [mvO 163 6,
mvO 164 21,
iO 165 1 163 164,
lO 166 1 165,
mvO 167 23,
fO 168 1 18,
opO 169 (.iaddrA 5 1 (.t 168) (.t 166)),
⟨none, none, .store 1 (.t 169) (.t 167)⟩] (some [4, 6, 14, 18, 19, 21]))))))
(.ops [mvO 140 21,
pO 141 140 1,
mvO 21 141] (some [4, 6, 14, 18, 19, 21])))))))
(.seq (.ops [lA 170 6 18,
⟨none, none, .store 6 (.t 4) (.t 170)⟩,
mO 5 0] (some [4, 5]))
.ret))))))))))))))⟩
def ir267 : IFn := ⟨82, [.t 6, .t 7],
(.seq (.ops [opO 5 (.box (.t 2)),
mO 6 0,
mO 7 0] (some [0, 1, 5]))
(.seq (.seq (.ops [lA 14 6 5,
cO 15 180 14,
mvO 8 15] (some [0, 1, 5, 8]))
(.seq (.ops [mvO 16 8,
opO 17 (.ibin .neq .i64 (.t 16) (ci 0))] (some [0, 1, 5, 8, 17]))
(.cond (.t 17)
(.seq (.ops [mvO 18 8,
mO 6 0,
mvO 7 18] (some [6, 7]))
.ret)
.skip)))
(.seq (.ops [fO 19 0 5,
lO 20 1 19,
mvO 9 20] (some [0, 1, 5, 9]))
(.seq (.seq (.ops [mO 10 0] none)
(.block 0 (.loop (.seq (.seq (.ops [mvO 21 10,
opO 22 (.ibin .lss .i64 (.t 21) (ci 5))] (some [0, 1, 5, 9, 10, 22]))
(.cond (.t 22)
.skip
(.exit 0)))
(.seq (.block 1 (.seq (.seq (.ops [mvO 25 1,
mvO 26 10,
opO 27 (.shift .shr .i64 (.t 25) (.t 26)),
opO 28 (.ibin .and .i64 (.t 27) (ci 1)),
opO 29 (.ibin .eql .i64 (.t 28) (ci 0)),
mvO 30 29,
⟨(some 31), (some (30, true)), .mov (.t 10)⟩,
⟨(some 32), (some (30, true)), .faddr 1 (.t 5)⟩,
⟨(some 33), (some (30, true)), .iaddrA 5 1 (.t 32) (.t 31)⟩,
⟨(some 34), (some (30, true)), .load 1 false (.t 33)⟩,
⟨(some 35), (some (30, true)), .ibin .neq .i64 (.t 34) (ci 0)⟩,
opO 36 (.pick (.t 30) (.t 35) (.c (.bool false)))] (some [0, 1, 5, 9, 10, 36]))
(.cond (.t 36)
(.seq (.ops [mvO 37 10,
mvO 6 37,
mO 7 3] (some [6, 7]))
.ret)
.skip))
(.ops [mvO 38 9,
mvO 39 10,
fO 40 1 5,
opO 41 (.iaddrA 5 1 (.t 40) (.t 39)),
lO 42 1 41,
opO 43 (.call 279 [(.t 38), (.t 42)]),
mvO 9 43] (some [0, 1, 5, 9, 10]))))
(.ops [mvO 23 10,
pO 24 23 1,
mvO 10 24] (some [0, 1, 5, 9, 10])))))))
(.seq (.seq (.ops [mvO 44 9,
opO 45 (.ibin .neq .i64 (.t 44) (ci 1))] (some [0, 1, 5, 45]))
(.cond (.t 45)
(.seq (.ops [mO 6 0,
mO 7 3] none)
.ret)
.skip))
(.seq (.seq (.ops [mO 11 0] none)
(.block 2 (.loop (.seq (.seq (.ops [mvO 46 11,
opO 47 (.ibin .lss .i64 (.t 46) (ci 5))] (some [0, 1, 5, 11, 47]))
(.cond (.t 47)
.skip
(.exit 2)))
(.seq (.block 3 (.seq (.ops [mO 12 0] none)
(.seq (.seq (.ops [mO 13 0] none)
(.block 4 (.loop (.seq (.seq (.ops [mvO 50 13,
mvO 51 0,
nO 52 51,
sO 53 50 52] (some [0, 1, 5, 11, 12, 13, 53]))
(.cond (.t 53)
.skip
(.exit 4)))
(.seq (.block 5 (.draw (.rd 0 (mvO 56 12)
(.rd 1 (mvO 57 0)
(.rd 2 (mvO 58 13)
(.rd 3 (iO 59 3 57 58)
(.rd 4 (lA 60 3 59)
(.rd 6 (mvO 62 11)
(.rd 8 (lA 64 6 5)
(.rd 9 (mvO 65 0)
(.rd 10 (mvO 66 13)
(.rd 11 (iO 67 3 65 66)
(.rd 12 (lA 68 3 67)
(.wr 5 (cO 61 34 60) [4]
(.rd 7 (opO 63 (.indexA 5 1 false (.t 61) (.t 62)))
(.wr 13 (opO 69 (.call 192 [(.t 64), (.t 68)])) [8, 12, 5]
(.rd 14 (opO 70 (.ibin .mul .i64 (.t 63) (.t 69)))
(.rd 15 (opO 71 (.ibin .add .i64 (.t 56) (.t 70)))
(.wr 16 (mvO 12 71) [15, 13, 0, 1, 2, 3, 4, 5, 6, 7, 8, 9, 10, 11, 12, 13, 14, 15]
.fin .no))) .no)) .no)))))))))))) (some [0, 1, 5, 11, 12, 13])))
(.ops [mvO 54 13,
pO 55 54 1,
mvO 13 55] (some [0, 1, 5, 11, 12, 13])))))))
(.seq (.ops [mvO 72 1,
mvO 73 11,
opO 74 (.shift .shr .i64 (.t 72) (.t 73)),
opO 75 (.ibin .and .i64 (.t 74) (ci 1)),
opO 76 (.ibin .eql .i64 (.t 75) (ci 1)),
mvO 77 76,
⟨(some 78), (some (77, true)), .mov (.t 12)⟩,
⟨(some 79), (some (77, true)), .ibin .neq .i64 (.t 78) (ci 0)⟩,
opO 80 (.pick (.t 77) (.t 79) (.c (.bool false)))] (some [0, 1, 5, 11, 80]))
(.cond (.t 80)
(.seq (.ops [mvO 81 11,
mvO 6 81,
mO 7 19] (some [6, 7]))
.ret)
.skip)))))
(.ops [mvO 48 11,
pO 49 48 1,
mvO 11 49] (some [0, 1, 5, 11])))))))
(.seq (.ops [mO 6 0,
mO 7 0] none)
.ret)))))))⟩
def ir268 : IFn := ⟨9, [.t 4],
(.seq (.ops [opO 2 (.box (.t 0)),
opO 3 (.box (.t 1)),
mO 4 0] (some [2, 3]))
(.seq (.ops [lA 5 2 2,
lA 6 2 3,
opO 7 (.call 280 [(.t 5), (.t 6)]),
opO 8 (.field 0 1 false (.t 7)),
mvO 4 8] (some [4]))
.ret))⟩
def ir270 : IFn := ⟨19, [.t 2],
(.seq (.ops [opO 2 (.mov (.c (.slice none 0 0)))] (some [0]))
(.seq (.ops [opO 3 (.mov (.c (.slice none 0 0)))] none)
(.seq (.seq (.ops [mO 4 0] none)
(.block 0 (.loop (.seq (.seq (.ops [mvO 5 4,
opO 6 (.ibin .lss .i64 (.t 5) (ci 5))] (some [0, 3, 4, 6]))
(.cond (.t 6)
.skip
(.exit 0)))
(.seq (.block 1 (.seq (.ops [mvO 9 0,
mvO 10 4,
opO 11 (.shift .shr .i64 (.t 9) (.t 10)),
opO 12 (.ibin .and .i64 (.t 11) (ci 1)),
opO 13 (.ibin .eql .i64 (.t 12) (ci 1))] (some [0, 3, 4, 13]))
(.cond (.t 13)
(.ops [mvO 14 3,
mvO 15 4,
opO 16 (.bslice 1 1 [(.int .i64 0)] [(0, 1, (.t 15))]),
opO 17 (.append 1 8 (.t 14) (.t 16)),
mvO 3 17] (some [0, 3, 4]))
.skip)))
(.ops [mvO 7 4,
pO 8 7 1,
mvO 4 8] (some [0, 3, 4])))))))
(.seq (.ops [mvO 18 3,
mvO 2 18] (some [2]))
.ret))))⟩
def ir271 : IFn := ⟨7, [.cell 2 4 true],
(.seq (.ops [opO 2 (.alloc [(.int .i64 0), (.slice none 0 0), (.int .i64 0), (.slice none 0 0)])] none)
(.seq (.ops [mvO 3 0,
cO 4 273 3,
opO 5 (.call 273 [(ci 1)]),
opO 6 (.build [(.int .i64 0), (.slice none 0 0), (.int .i64 0), (.slice none 0 0)] [(0, 2, (.t 4)), (2, 2, (.t 5))]),
⟨none, none, .store 4 (.t 2) (.t 6)⟩] (some [2]))
.ret))⟩
def ir272 : IFn := ⟨156, [.t 2, .t 3],
(.seq (.ops [opO 2 (.mov (.c (.slice none 0 0))),
bO 3 false] (some [0]))
(.seq (.ops [mvO 14 0,
nO 15 14,
mvO 4 15] (some [0, 4]))
(.seq (.ops [opO 5 (.mov (.c (.slice none 0 0)))] none)
(.seq (.seq (.ops [mO 6 0] none)
(.block 0 (.loop (.seq (.seq (.ops [mvO 16 6,
mvO 17 4,
sO 18 16 17] (some [0, 4, 5, 6, 18]))
(.cond (.t 18)
.skip
(.exit 0)))
(.seq (.block 1 (.ops [mvO 21 5,
opO 22 (.bslice 0 4 [(.int .i64 0), (.slice none 0 0), (.int .i64 0), (.slice none 0 0)] []),
mvO 23 0,
mvO 24 6,
iO 25 1 23 24,
lO 26 1 25,
opO 27 (.append 4 64 (.t 22) (.t 26)),
opO 28 (.bslice 1 1 [(.slice none 0 0)] [(0, 1, (.t 27))]),
opO 29 (.append 1 24 (.t 21) (.t 28)),
mvO 5 29] (some [0, 4, 5, 6])))
(.ops [mvO 19 6,
pO 20 19 1,
mvO 6 20] (some [0, 4, 5, 6])))))))
(.seq (.seq (.ops [mO 7 0] none)
(.block 2 (.loop (.seq (.seq (.ops [mvO 30 7,
mvO 31 4,
sO 32 30 31] (some [4, 5, 7, 32]))
(.cond (.t 32)
.skip
(.exit 2)))
(.seq (.block 3 (.seq (.ops [mvO 35 7,
mvO 8 35] (some [4, 5, 7, 8]))
(.seq (.block 4 (.loop (.seq (.seq (.ops [mvO 36 8,
mvO 37 4,
sO 38 36 37,
mvO 39 38,
⟨(some 40), (some (39, true)), .mov (.t 5)⟩,
⟨(some 41), (some (39, true)), .mov (.t 8)⟩,
⟨(some 42), (some (39, true)), .iaddr 1 (.t 40) (.t 41)⟩,
⟨(some 43), (some (39, true)), .load 1 false (.t 42)⟩,
⟨(some 44), (some (39, true)), .mov (.t 7)⟩,
⟨(some 45), (some (39, true)), .iaddr 4 (.t 43) (.t 44)⟩,
⟨(some 46), (some (39, true)), .load 4 true (.t 45)⟩,
⟨(some 47), (some (39, true)), .call 282 [(.t 46)]⟩,
⟨(some 48), (some (39, true)), .ibin .eql .i64 (.t 47) (ci 0)⟩,
opO 49 (.pick (.t 39) (.t 48) (.c (.bool false)))] (some [4, 5, 7, 8, 49]))
(.cond (.t 49)
.skip
(.exit 4)))
(.block 5 (.ops [mvO 50 8,
pO 51 50 1,
mvO 8 51] (some [4, 5, 7, 8]))))))
(.seq (.seq (.ops [mvO 52 8,
mvO 53 4,
opO 54 (.ibin .eql .i64 (.t 52) (.t 53))] (some [4, 5, 7, 8, 54]))
(.cond (.t 54)
(.seq (.ops [opO 2 (.mov (.c (.slice none 0 0))),
bO 3 false] none)
.ret)
.skip))
(.seq (.draw (.rd 0 (mvO 55 5)
(.rd 1 (mvO 56 7)
(.rd 2 (mvO 57 5)
(.rd 3 (mvO 58 8)
(.rd 4 (mvO 59 5)
(.rd 5 (mvO 60 8)
(.rd 6 (iO 61 1 59 60)
(.rd 7 (lO 62 1 61)
(.rd 8 (mvO 63 5)
(.rd 9 (mvO 64 7)
(.rd 10 (iO 65 1 63 64)
(.rd 11 (lO 66 1 65)
(.rd 12 (iO 67 1 55 56)
(.wr 13 ⟨none, none, .store 1 (.t 67) (.t 62)⟩ [12, 7, 0, 1, 4, 5, 6, 7, 11]
(.rd 14 (iO 68 1 57 58)
(.wr 15 ⟨none, none, .store 1 (.t 68) (.t 66)⟩ [14, 11, 13, 0, 1, 2, 3, 4, 5, 6, 7, 8, 9, 10, 11, 12, 13]
.fin .no)) .no)))))))))))))) (some [4, 5, 7]))
(.seq (.ops [mO 9 0] none)
(.block 6 (.loop (.seq (.seq (.ops [mvO 69 9,
mvO 70 4,
sO 71 69 70] (some [4, 5, 7, 9, 71]))
(.cond (.t 71)
.skip
(.exit 6)))
(.seq (.block 7 (.seq (.seq (.ops [mvO 74 9,
mvO 75 7,
opO 76 (.ibin .eql .i64 (.t 74) (.t 75)),
mvO 77 76,
⟨(some 78), (some (77, false)), .mov (.t 5)⟩,
⟨(some 79), (some (77, false)), .mov (.t 9)⟩,
⟨(some 80), (some (77, false)), .iaddr 1 (.t 78) (.t 79)⟩,
⟨(some 81), (some (77, false)), .load 1 false (.t 80)⟩,
⟨(some 82), (some (77, false)), .mov (.t 7)⟩,
⟨(some 83), (some (77, false)), .iaddr 4 (.t 81) (.t 82)⟩,
⟨(some 84), (some (77, false)), .load 4 true (.t 83)⟩,
⟨(some 85), (some (77, false)), .call 282 [(.t 84)]⟩,
⟨(some 86), (some (77, false)), .ibin .eql .i64 (.t 85) (ci 0)⟩,
opO 87 (.pick (.t 77) (.c (.bool true)) (.t 86))] (some [4, 5, 7, 9, 87]))
(.cond (.t 87)
(.exit 7)
.skip))
(.seq (.draw (.rd 0 (mvO 88 5)
(.rd 1 (mvO 89 9)
(.rd 2 (iO 90 1 88 89)
(.rd 3 (lO 91 1 90)
(.rd 4 (mvO 92 7)
(.rd 5 (iO 93 4 91 92)
(.rd 6 (lA 94 4 93)
(.rd 7 (mvO 95 5)
(.rd 8 (mvO 96 7)
(.rd 9 (iO 97 1 95 96)
(.rd 10 (lO 98 1 97)
(.rd 11 (mvO 99 7)
(.rd 12 (iO 100 4 98 99)
(.rd 13 (lA 101 4 100)
(.wr 14 (opO 102 (.call 283 [(.t 94), (.t 101)])) [6, 13]
(.wr 15 (opO 10 (.alloc [(.int .i64 0), (.slice none 0 0), (.int .i64 0), (.slice none 0 0)])) []
(.wr 16 ⟨none, none, .store 4 (.t 10) (.t 102)⟩ [15, 14, 14, 0, 1, 2, 3, 4, 5, 6, 7, 8, 9, 10, 11, 12, 13, 14, 15]
.fin .no) .no)
(.wr 15 (opO 10 (.alloc [(.int .i64 0), (.slice none 0 0), (.int .i64 0), (.slice none 0 0)])) []
(.wr 14 (opO 102 (.call 283 [(.t 94), (.t 101)])) [6, 13]
(.wr 16 ⟨none, none, .store 4 (.t 10) (.t 102)⟩ [15, 14, 14, 0, 1, 2, 3, 4, 5, 6, 7, 8, 9, 10, 11, 12, 13, 14, 15]
.fin .no) .no) .no)))))))))))))))) (some [4, 5, 7, 9, 10]))
(.seq (.ops [mvO 103 7,
mvO 11 103] (some [4, 5, 7, 9, 10, 11]))
(.block 8 (.loop (.seq (.seq (.ops [mvO 104 11,
mvO 105 4,
opO 106 (.ibin .leq .i64 (.t 104) (.t 105))] (some [4, 5, 7, 9, 10, 11, 106]))
(.cond (.t 106)
.skip
(.exit 8)))
(.seq (.block 9 (.draw (.rd 0 (mvO 109 5)
(.rd 1 (mvO 110 9)
(.rd 2 (iO 111 1 109 110)
(.rd 3 (lO 112 1 111)
(.rd 4 (mvO 113 11)
(.rd 5 (mvO 114 5)
(.rd 6 (mvO 115 9)
(.rd 7 (iO 116 1 114 115)
(.rd 8 (lO 117 1 116)
(.rd 9 (mvO 118 11)
(.rd 10 (iO 119 4 117 118)
(.rd 11 (lA 120 4 119)
(.rd 12 (lA 121 4 10)
(.rd 13 (mvO 122 5)
(.rd 14 (mvO 123 7)
(.rd 15 (iO 124 1 122 123)
(.rd 16 (lO 125 1 124)
(.rd 17 (mvO 126 11)
(.rd 18 (iO 127 4 125 126)
(.rd 19 (lA 128 4 127)
(.wr 20 (opO 129 (.call 277 [(.t 121), (.t 128)])) [12, 19]
(.wr 21 (opO 130 (.call 284 [(.t 120), (.t 129)])) [11, 20, 20]
(.rd 22 (iO 131 4 112 113)
(.wr 23 ⟨none, none, .store 4 (.t 131) (.t 130)⟩ [22, 21, 21, 0, 1, 2, 3, 4, 5, 6, 7, 8, 9, 10, 11, 12, 13, 14, 15, 16, 17, 18, 19, 20, 21]
.fin .no)) .no) .no))))))))))))))))))))) (some [4, 5, 7, 9, 10, 11])))
(.ops [mvO 107 11,
pO 108 107 1,
mvO 11 108] (some [4, 5, 7, 9, 10, 11]))))))))))
(.ops [mvO 72 9,
pO 73 72 1,
mvO 9 73] (some [4, 5, 7, 9]))))))))))))
(.ops [mvO 33 7,
pO 34 33 1,
mvO 7 34] (some [4, 5, 7])))))))
(.seq (.ops [opO 12 (.mov (.c (.slice none 0 0)))] none)
(.seq (.seq (.ops [mO 13 0] none)
(.block 10 (.loop (.seq (.seq (.ops [mvO 132 13,
mvO 133 4,
sO 134 132 133] (some [4, 5, 12, 13, 134]))
(.cond (.t 134)
.skip
(.exit 10)))
(.seq (.block 11 (.draw (.rd 0 (mvO 137 12)
(.rd 1 (mvO 138 5)
(.rd 2 (mvO 139 13)
(.rd 3 (iO 140 1 138 139)
(.rd 4 (lO 141 1 140)
(.rd 5 (mvO 142 4)
(.rd 6 (iO 143 4 141 142)
(.rd 7 (lA 144 4 143)
(.rd 8 (mvO 145 5)
(.rd 9 (mvO 146 13)
(.rd 10 (iO 147 1 145 146)
(.rd 11 (lO 148 1 147)
(.rd 12 (mvO 149 13)
(.rd 13 (iO 150 4 148 149)
(.rd 14 (lA 151 4 150)
(.wr 15 (opO 152 (.call 283 [(.t 144), (.t 151)])) [7, 14]
(.wr 16 (opO 153 (.bslice 1 4 [(.int .i64 0), (.slice none 0 0), (.int .i64 0), (.slice none 0 0)] [(0, 4, (.t 152))])) [15]
(.wr 17 (opO 154 (.append 4 64 (.t 137) (.t 153))) [0, 16, 15]
(.wr 18 (mvO 12 154) [17, 17, 0, 1, 2, 3, 4, 5, 6, 7, 8, 9, 10, 11, 12, 13, 14, 15, 16, 17]
.fin .no) .no) .no) .no)))))))))))))))) (some [4, 5, 12, 13])))
(.ops [mvO 135 13,
pO 136 135 1,
mvO 13 136] (some [4, 5, 12, 13])))))))
(.seq (.ops [mvO 155 12,
mvO 2 155,
bO 3 true] (some [2, 3]))
.ret))))))))⟩
def ir273 : IFn := ⟨20, [.cell 2 2 true],
(.seq (.ops [opO 2 (.alloc [(.int .i64 0), (.slice none 0 0)])] none)
(.seq (.ops [mO 3 1] none)
(.seq (.seq (.ops [mvO 5 0,
opO 6 (.ibin .lss .i64 (.t 5) (ci 0))] (some [0, 2, 3, 6]))
(.cond (.t 6)
(.ops [opO 3 (.mov (ci (-1)))] none)
.skip))
(.seq (.ops [opO 4 (.mov (.c (.slice none 0 0)))] none)
(.seq (.block 0 (.loop (.seq (.seq (.ops [mvO 7 0,
opO 8 (.ibin .neq .i64 (.t 7) (ci 0))] (some [0, 2, 3, 4, 8]))
(.cond (.t 8)
.skip
(.exit 0)))
(.block 1 (.seq (.ops [mvO 9 4,
mvO 10 0,
opO 11 (.ibin .rem .i64 (.t 10) (ci 1000000000)),
cO 12 109 11,
opO 13 (.bslice 1 1 [(.int .i64 0)] [(0, 1, (.t 12))]),
opO 14 (.append 1 8 (.t 9) (.t 13)),
mvO 4 14] (some [0, 2, 3, 4]))
(.ops [mvO 15 0,
opO 16 (.ibin .quo .i64 (.t 15) (ci 1000000000)),
mvO 0 16] (some [0, 2, 3, 4])))))))
(.seq (.ops [mvO 17 3,
mvO 18 4,
opO 19 (.call 285 [(.t 17), (.t 18)]),
⟨none, none, .store 2 (.t 2) (.t 19)⟩] (some [2]))
.ret))))))⟩
def ir274 : IFn := ⟨86, [.cell 4 2 true],
(.seq (.ops [opO 2 (.box (.t 0)),
opO 3 (.box (.t 1)),
opO 4 (.alloc [(.int .i64 0), (.slice none 0 0)])] (some [2, 3, 4]))
(.seq (.ops [fO 10 1 2,
lO 11 1 10,
nO 12 11,
fO 13 1 3,
lO 14 1 13,
nO 15 14,
opO 16 (.ibin .add .i64 (.t 12) (.t 15)),
pO 17 16 1,
opO 18 (.mslice 1 8 [(.int .i64 0)] (.t 17) (.t 17)),
mvO 5 18] (some [2, 3, 4, 5]))
(.seq (.seq (.ops [mO 6 0] none)
(.block 0 (.loop (.seq (.seq (.ops [mvO 19 6,
fO 20 1 2,
lO 21 1 20,
nO 22 21,
sO 23 19 22] (some [2, 3, 4, 5, 6, 23]))
(.cond (.t 23)
.skip
(.exit 0)))
(.seq (.block 1 (.seq (.ops [mO 7 0] none)
(.seq (.seq (.ops [mO 8 0] none)
(.block 2 (.loop (.seq (.seq (.ops [mvO 26 8,
fO 27 1 3,
lO 28 1 27,
nO 29 28,
sO 30 26 29] (some [2, 3, 4, 5, 6, 7, 8, 30]))
(.cond (.t 30)
.skip
(.exit 2)))
(.seq (.block 3 (.seq (.draw (.rd 0 (mvO 33 5)
(.rd 1 (mvO 34 6)
(.rd 2 (mvO 35 8)
(.rd 3 (opO 36 (.ibin .add .i64 (.t 34) (.t 35)))
(.rd 4 (iO 37 1 33 36)
(.rd 5 (lO 38 1 37)
(.rd 6 (fO 39 1 2)
(.rd 7 (lO 40 1 39)
(.rd 8 (mvO 41 6)
(.rd 9 (iO 42 1 40 41)
(.rd 10 (lO 43 1 42)
(.rd 11 (fO 44 1 3)
(.rd 12 (lO 45 1 44)
(.rd 13 (mvO 46 8)
(.rd 14 (iO 47 1 45 46)
(.rd 15 (lO 48 1 47)
(.rd 16 (opO 49 (.ibin .mul .i64 (.t 43) (.t 48)))
(.rd 17 (opO 50 (.ibin .add .i64 (.t 38) (.t 49)))
(.rd 18 (mvO 51 7)
(.rd 19 (opO 52 (.ibin .add .i64 (.t 50) (.t 51)))
(.rd 20 (mvO 9 52)
.fin))))))))))))))))))))) (some [2, 3, 4, 5, 6, 8, 9]))
(.ops [mvO 53 5,
mvO 54 6,
mvO 55 8,
opO 56 (.ibin .add .i64 (.t 54) (.t 55)),
mvO 57 9,
opO 58 (.ibin .rem .i64 (.t 57) (ci 1000000000)),
mvO 59 9,
opO 60 (.ibin .quo .i64 (.t 59) (ci 1000000000)),
iO 61 1 53 56,
⟨none, none, .store 1 (.t 61) (.t 58)⟩,
mvO 7 60] (some [2, 3, 4, 5, 6, 7, 8]))))
(.ops [mvO 31 8,
pO 32 31 1,
mvO 8 32] (some [2, 3, 4, 5, 6, 7, 8])))))))
(.draw (.rd 0 (mvO 62 5)
(.rd 1 (mvO 63 6)
(.rd 2 (fO 64 1 3)
(.rd 3 (lO 65 1 64)
(.rd 4 (nO 66 65)
(.rd 5 (opO 67 (.ibin .add .i64 (.t 63) (.t 66)))
(.rd 6 (mvO 68 5)
(.rd 7 (mvO 69 6)
(.rd 8 (fO 70 1 3)
(.rd 9 (lO 71 1 70)
(.rd 10 (nO 72 71)
(.rd 11 (opO 73 (.ibin .add .i64 (.t 69) (.t 72)))
(.rd 12 (iO 74 1 68 73)
(.rd 13 (lO 75 1 74)
(.rd 14 (mvO 76 7)
(.rd 15 (opO 77 (.ibin .add .i64 (.t 75) (.t 76)))
(.rd 16 (iO 78 1 62 67)
(.wr 17 ⟨none, none, .store 1 (.t 78) (.t 77)⟩ [16, 15, 0, 1, 2, 3, 4, 5, 6, 7, 8, 9, 10, 11, 12, 13, 14, 15]
.fin .no)))))))))))))))))) (some [2, 3, 4, 5, 6])))))
(.ops [mvO 24 6,
pO 25 24 1,
mvO 6 25] (some [2, 3, 4, 5, 6])))))))
(.seq (.ops [fO 79 0 2,
lO 80 1 79,
fO 81 0 3,
lO 82 1 81,
opO 83 (.ibin .mul .i64 (.t 80) (.t 82)),
mvO 84 5,
opO 85 (.call 285 [(.t 83), (.t 84)]),
⟨none, none, .store 2 (.t 4) (.t 85)⟩] (some [4]))
.ret))))⟩
def ir275 : IFn := ⟨30, [.cell 4 4 true],
(.seq (.ops [opO 2 (.box (.t 0)),
opO 3 (.box (.t 1)),
opO 4 (.alloc [(.int .i64 0), (.slice none 0 0), (.int .i64 0), (.slice none 0 0)])] (some [2, 3, 4]))
(.seq (.seq (.ops [lA 6 2 3,
cO 7 286 6,
opO 8 (.ibin .lss .i64 (.t 7) (ci 0))] (some [2, 3, 4, 8]))
(.cond (.t 8)
(.draw (.rd 0 (lA 9 2 2)
(.rd 2 (lA 11 2 3)
(.wr 1 (cO 10 287 9) [0]
(.wr 3 (cO 12 287 11) [2, 1]
(.wr 4 ⟨none, none, .store 2 (.t 2) (.t 10)⟩ [1, 3, 0, 1]
(.wr 5 ⟨none, none, .store 2 (.t 3) (.t 12)⟩ [3, 4, 0, 1, 2, 3, 4]
.fin .no) .no) .no) .no))) (some [2, 3, 4]))
.skip))
(.seq (.ops [lA 13 2 2,
lA 14 2 3,
opO 15 (.call 288 [(.t 13), (.t 14)]),
opO 5 (.alloc [(.int .i64 0), (.slice none 0 0)]),
⟨none, none, .store 2 (.t 5) (.t 15)⟩] (some [2, 3, 4, 5]))
(.seq (.seq (.draw (.rd 0 (lA 16 2 5)
(.wr 1 (opO 17 (.call 273 [(ci 1)])) []
(.wr 2 (opO 18 (.call 268 [(.t 16), (.t 17)])) [0, 1, 1]
(.rd 3 (opO 19 (.ibin .eql .i64 (.t 18) (ci 0)))
.fin) .no) .no)) (some [2, 3, 4, 5, 19]))
(.cond (.t 19)
(.seq (.ops [lA 20 2 2,
lA 21 2 3,
opO 22 (.build [(.int .i64 0), (.slice none 0 0), (.int .i64 0), (.slice none 0 0)] [(0, 2, (.t 20)), (2, 2, (.t 21))]),
⟨none, none, .store 4 (.t 4) (.t 22)⟩] (some [4]))
.ret)
.skip))
(.seq (.draw (.rd 0 (lA 23 2 2)
(.rd 1 (lA 24 2 5)
(.rd 3 (lA 26 2 3)
(.rd 4 (lA 27 2 5)
(.wr 2 (opO 25 (.call 289 [(.t 23), (.t 24)])) [0, 1]
(.wr 5 (opO 28 (.call 289 [(.t 26), (.t 27)])) [3, 4, 2]
(.rd 6 (opO 29 (.build [(.int .i64 0), (.slice none 0 0), (.int .i64 0), (.slice none 0 0)] [(0, 2, (.t 25)), (2, 2, (.t 28))]))
(.wr 7 ⟨none, none, .store 4 (.t 4) (.t 29)⟩ [6, 5, 0, 1, 2, 3, 4, 5, 6]
.fin .no)) .no) .no))))) (some [4]))
.ret)))))⟩
def ir276 : IFn := ⟨30, [.t 2, .t 3],
(.seq (.ops [opO 1 (.box (.t 0)),
mO 2 0,
bO 3 false] (some [1]))
(.seq (.seq (.ops [fO 6 1 1,
lO 7 1 6,
nO 8 7,
opO 9 (.ibin .gtr .i64 (.t 8) (ci 2))] (some [1, 9]))
(.cond (.t 9)
(.seq (.ops [mO 2 0,
bO 3 false] none)
.ret)
.skip))
(.seq (.ops [mO 4 0] none)
(.seq (.seq (.ops [fO 10 1 1,
lO 11 1 10,
nO 12 11,
opO 13 (.ibin .sub .i64 (.t 12) (ci 1)),
mvO 5 13] (some [1, 4, 5]))
(.block 0 (.loop (.seq (.seq (.ops [mvO 14 5,
opO 15 (.ibin .geq .i64 (.t 14) (ci 0))] (some [1, 4, 5, 15]))
(.cond (.t 15)
.skip
(.exit 0)))
(.seq (.block 1 (.ops [mvO 18 4,
opO 19 (.ibin .mul .i64 (.t 18) (ci 1000000000)),
fO 20 1 1,
lO 21 1 20,
mvO 22 5,
iO 23 1 21 22,
lO 24 1 23,
opO 25 (.ibin .add .i64 (.t 19) (.t 24)),
mvO 4 25] (some [1, 4, 5])))
(.ops [mvO 16 5,
opO 17 (.ibin .sub .i64 (.t 16) (ci 1)),
mvO 5 17] (some [1, 4, 5])))))))
(.seq (.ops [fO 26 0 1,
lO 27 1 26,
mvO 28 4,
opO 29 (.ibin .mul .i64 (.t 27) (.t 28)),
mvO 2 29,
bO 3 true] (some [2, 3]))
.ret)))))⟩
def ir277 : IFn := ⟨16, [.cell 4 4 true],
(.seq (.ops [opO 2 (.box (.t 0)),
opO 3 (.box (.t 1)),
opO 4 (.alloc [(.int .i64 0), (.slice none 0 0), (.int .i64 0), (.slice none 0 0)])] (some [2, 3, 4]))
(.seq (.draw (.rd 0 (fO 5 0 2)
(.rd 1 (lA 6 2 5)
(.rd 2 (fO 7 0 3)
(.rd 3 (lA 8 2 7)
(.rd 5 (fO 10 2 2)
(.rd 6 (lA 11 2 10)
(.rd 7 (fO 12 2 3)
(.rd 8 (lA 13 2 12)
(.wr 4 (opO 9 (.call 274 [(.t 6), (.t 8)])) [1, 3]
(.wr 9 (opO 14 (.call 274 [(.t 11), (.t 13)])) [6, 8, 4]
(.wr 10 (opO 15 (.call 275 [(.t 9), (.t 14)])) [4, 9, 9]
(.wr 11 ⟨none, none, .store 4 (.t 4) (.t 15)⟩ [10, 10, 0, 1, 2, 3, 4, 5, 6, 7, 8, 9, 10]
.fin .no) .no) .no) .no))))))))) (some [4]))
.ret))⟩
def ir278 : IFn := ⟨8, [.cell 2 2 true],
(.seq (.ops [opO 1 (.box (.t 0)),
opO 2 (.alloc [(.int .i64 0), (.slice none 0 0)])] (some [1, 2]))
(.seq (.ops [fO 3 0 1,
lA 4 2 3,
fO 5 2 1,
lA 6 2 5,
opO 7 (.call 289 [(.t 4), (.t 6)]),
⟨none, none, .store 2 (.t 2) (.t 7)⟩] (some [2]))
.ret))⟩
def ir279 : IFn := ⟨13, [.t 4],
(.seq (.ops [mO 4 0] (some [0, 1]))
(.seq (.block 0 (.loop (.seq (.seq (.ops [mvO 5 1,
opO 6 (.ibin .neq .i64 (.t 5) (ci 0))] (some [0, 1, 6]))
(.cond (.t 6)
.skip
(.exit 0)))
(.block 1 (.draw (.rd 0 (mvO 7 1)
(.rd 1 (mvO 8 0)
(.rd 2 (mvO 9 1)
(.rd 3 (opO 10 (.ibin .rem .i64 (.t 8) (.t 9)))
(.wr 4 (mvO 0 7) [0, 0, 1]
(.wr 5 (mvO 1 10) [3, 4, 0, 1, 2, 3, 4]
.fin .no) .no))))) (some [0, 1]))))))
(.seq (.ops [mvO 11 0,
cO 12 109 11,
mvO 4 12] (some [4]))
.ret)))⟩
def ir280 : IFn := ⟨9, [.cell 4 2 true],
(.seq (.ops [opO 2 (.box (.t 0)),
opO 3 (.box (.t 1)),
opO 4 (.alloc [(.int .i64 0), (.slice none 0 0)])] (some [2, 3, 4]))
(.seq (.draw (.rd 0 (lA 5 2 2)
(.rd 1 (lA 6 2 3)
(.wr 2 (cO 7 287 6) [1]
(.wr 3 (opO 8 (.call 281 [(.t 5), (.t 7)])) [0, 2, 2]
(.wr 4 ⟨none, none, .store 2 (.t 4) (.t 8)⟩ [3, 3, 0, 1, 2, 3]
.fin .no) .no) .no))) (some [4]))
.ret))⟩
def ir281 : IFn := ⟨53, [.cell 4 2 true],
(.seq (.ops [opO 2 (.box (.t 0)),
opO 3 (.box (.t 1)),
opO 4 (.alloc [(.int .i64 0), (.slice none 0 0)])] (some [2, 3, 4]))
(.seq (.seq (.ops [fO 6 0 2,
lO 7 1 6,
opO 8 (.ibin .eql .i64 (.t 7) (ci 0))] (some [2, 3, 4, 8]))
(.cond (.t 8)
(.seq (.ops [lA 9 2 3,
⟨none, none, .store 2 (.t 4) (.t 9)⟩] (some [4]))
.ret)
.skip))
(.seq (.seq (.ops [fO 10 0 3,
lO 11 1 10,
opO 12 (.ibin .eql .i64 (.t 11) (ci 0))] (some [2, 3, 4, 12]))
(.cond (.t 12)
(.seq (.ops [lA 13 2 2,
⟨none, none, .store 2 (.t 4) (.t 13)⟩] (some [4]))
.ret)
.skip))
(.seq (.seq (.ops [fO 14 0 2,
lO 15 1 14,
fO 16 0 3,
lO 17 1 16,
opO 18 (.ibin .eql .i64 (.t 15) (.t 17))] (some [2, 3, 4, 18]))
(.cond (.t 18)
(.seq (.draw (.rd 0 (fO 19 0 2)
(.rd 1 (lO 20 1 19)
(.rd 2 (fO 21 1 2)
(.rd 3 (lO 22 1 21)
(.rd 4 (fO 23 1 3)
(.rd 5 (lO 24 1 23)
(.wr 6 (opO 25 (.call 290 [(.t 22), (.t 24)])) [3, 5]
(.wr 7 (opO 26 (.call 285 [(.t 20), (.t 25)])) [1, 6, 6]
(.wr 8 ⟨none, none, .store 2 (.t 4) (.t 26)⟩ [7, 7, 0, 1, 2, 3, 4, 5, 6, 7]
.fin .no) .no) .no))))))) (some [4]))
.ret)
.skip))
(.seq (.ops [fO 27 1 2,
lO 28 1 27,
fO 29 1 3,
lO 30 1 29,
opO 31 (.call 291 [(.t 28), (.t 30)]),
mvO 5 31] (some [2, 3, 4, 5]))
(.seq (.seq (.ops [mvO 32 5,
opO 33 (.ibin .eql .i64 (.t 32) (ci 0))] (some [2, 3, 4, 5, 33]))
(.cond (.t 33)
(.seq (.ops [opO 34 (.build [(.int .i64 0), (.slice none 0 0)] []),
⟨none, none, .store 2 (.t 4) (.t 34)⟩] (some [4]))
.ret)
.skip))
(.seq (.seq (.ops [mvO 35 5,
opO 36 (.ibin .gtr .i64 (.t 35) (ci 0))] (some [2, 3, 4, 36]))
(.cond (.t 36)
(.seq (.draw (.rd 0 (fO 37 0 2)
(.rd 1 (lO 38 1 37)
(.rd 2 (fO 39 1 2)
(.rd 3 (lO 40 1 39)
(.rd 4 (fO 41 1 3)
(.rd 5 (lO 42 1 41)
(.wr 6 (opO 43 (.call 292 [(.t 40), (.t 42)])) [3, 5]
(.wr 7 (opO 44 (.call 285 [(.t 38), (.t 43)])) [1, 6, 6]
(.wr 8 ⟨none, none, .store 2 (.t 4) (.t 44)⟩ [7, 7, 0, 1, 2, 3, 4, 5, 6, 7]
.fin .no) .no) .no))))))) (some [4]))
.ret)
.skip))
(.seq (.draw (.rd 0 (fO 45 0 3)
(.rd 1 (lO 46 1 45)
(.rd 2 (fO 47 1 3)
(.rd 3 (lO 48 1 47)
(.rd 4 (fO 49 1 2)
(.rd 5 (lO 50 1 49)
(.wr 6 (opO 51 (.call 292 [(.t 48), (.t 50)])) [3, 5]
(.wr 7 (opO 52 (.call 285 [(.t 46), (.t 51)])) [1, 6, 6]
(.wr 8 ⟨none, none, .store 2 (.t 4) (.t 52)⟩ [7, 7, 0, 1, 2, 3, 4, 5, 6, 7]
.fin .no) .no) .no))))))) (some [4]))
.ret))))))))⟩
def ir282 : IFn := ⟨6, [.t 2],
(.seq (.ops [opO 1 (.box (.t 0)),
mO 2 0] (some [1]))
(.seq (.ops [fO 3 0 1,
lA 4 2 3,
cO 5 286 4,
mvO 2 5] (some [2]))
.ret))⟩
def ir283 : IFn := ⟨16, [.cell 4 4 true],
(.seq (.ops [opO 2 (.box (.t 0)),
opO 3 (.box (.t 1)),
opO 4 (.alloc [(.int .i64 0), (.slice none 0 0), (.int .i64 0), (.slice none 0 0)])] (some [2, 3, 4]))
(.seq (.draw (.rd 0 (fO 5 0 2)
(.rd 1 (lA 6 2 5)
(.rd 2 (fO 7 2 3)
(.rd 3 (lA 8 2 7)
(.rd 5 (fO 10 2 2)
(.rd 6 (lA 11 2 10)
(.rd 7 (fO 12 0 3)
(.rd 8 (lA 13 2 12)
(.wr 4 (opO 9 (.call 274 [(.t 6), (.t 8)])) [1, 3]
(.wr 9 (opO 14 (.call 274 [(.t 11), (.t 13)])) [6, 8, 4]
(.wr 10 (opO 15 (.call 275 [(.t 9), (.t 14)])) [4, 9, 9]
(.wr 11 ⟨none, none, .store 4 (.t 4) (.t 15)⟩ [10, 10, 0, 1, 2, 3, 4, 5, 6, 7, 8, 9, 10]
.fin .no) .no) .no) .no))))))))) (some [4]))
.ret))⟩
def ir284 : IFn := ⟨9, [.cell 4 4 true],
(.seq (.ops [opO 2 (.box (.t 0)),
opO 3 (.box (.t 1)),
opO 4 (.alloc [(.int .i64 0), (.slice none 0 0), (.int .i64 0), (.slice none 0 0)])] (some [2, 3, 4]))
(.seq (.draw (.rd 0 (lA 5 4 2)
(.rd 1 (lA 6 4 3)
(.wr 2 (cO 7 294 6) [1]
(.wr 3 (opO 8 (.call 293 [(.t 5), (.t 7)])) [0, 2, 2]
(.wr 4 ⟨none, none, .store 4 (.t 4) (.t 8)⟩ [3, 3, 0, 1, 2, 3]
.fin .no) .no) .no))) (some [4]))
.ret))⟩
def ir285 : IFn := ⟨13, [.cell 4 2 true],
(.seq (.ops [opO 4 (.alloc [(.int .i64 0), (.slice none 0 0)])] none)
(.seq (.ops [mvO 5 1,
cO 6 295 5,
mvO 1 6] (some [0, 1, 4]))
(.seq (.seq (.ops [mvO 7 1,
nO 8 7,
opO 9 (.ibin .eql .i64 (.t 8) (ci 0))] (some [0, 1, 4, 9]))
(.cond (.t 9)
(.ops [mO 0 0] none)
.skip))
(.seq (.ops [mvO 10 0,
mvO 11 1,
opO 12 (.build [(.int .i64 0), (.slice none 0 0)] [(0, 1, (.t 10)), (1, 1, (.t 11))]),
⟨none, none, .store 2 (.t 4) (.t 12)⟩] (some [4]))
.ret))))⟩
def ir286 : IFn := ⟨5, [.t 2],
(.seq (.ops [opO 1 (.box (.t 0)),
mO 2 0] (some [1]))
(.seq (.ops [fO 3 0 1,
lO 4 1 3,
mvO 2 4] (some [2]))
.ret))⟩
def ir287 : IFn := ⟨9, [.cell 2 2 true],
(.seq (.ops [opO 1 (.box (.t 0)),
opO 2 (.alloc [(.int .i64 0), (.slice none 0 0)])] (some [1, 2]))
(.seq (.ops [fO 3 0 1,
lO 4 1 3,
opO 5 (.un .neg (.t 4)),
fO 6 1 1,
lO 7 1 6,
opO 8 (.build [(.int .i64 0), (.slice none 0 0)] [(0, 1, (.t 5)), (1, 1, (.t 7))]),
⟨none, none, .store 2 (.t 2) (.t 8)⟩] (some [2]))
.ret))⟩
def ir288 : IFn := ⟨23, [.cell 4 2 true],
(.seq (.ops [opO 2 (.box (.t 0)),
opO 3 (.box (.t 1)),
opO 4 (.alloc [(.int .i64 0), (.slice none 0 0)])] (some [2, 3, 4]))
(.seq (.draw (.rd 0 (lA 6 2 2)
(.rd 2 (lA 8 2 3)
(.wr 1 (cO 7 296 6) [0]
(.wr 3 (cO 9 296 8) [2, 1]
(.wr 4 ⟨none, none, .store 2 (.t 2) (.t 7)⟩ [1, 3, 0, 1]
(.wr 5 ⟨none, none, .store 2 (.t 3) (.t 9)⟩ [3, 4, 0, 1, 2, 3, 4]
.fin .no) .no) .no) .no))) (some [2, 3, 4]))
(.seq (.block 0 (.loop (.seq (.seq (.ops [lA 10 2 3,
cO 11 286 10,
opO 12 (.ibin .neq .i64 (.t 11) (ci 0))] (some [2, 3, 4, 12]))
(.cond (.t 12)
.skip
(.exit 0)))
(.block 1 (.seq (.draw (.rd 0 (lA 13 2 2)
(.rd 1 (lA 14 2 2)
(.rd 2 (lA 15 2 3)
(.rd 4 (lA 17 2 3)
(.wr 3 (opO 16 (.call 289 [(.t 14), (.t 15)])) [1, 2]
(.wr 5 (opO 18 (.call 274 [(.t 16), (.t 17)])) [3, 4, 3]
(.wr 6 (opO 19 (.call 280 [(.t 13), (.t 18)])) [0, 5, 5]
(.wr 7 (opO 5 (.alloc [(.int .i64 0), (.slice none 0 0)])) []
(.wr 8 ⟨none, none, .store 2 (.t 5) (.t 19)⟩ [7, 6, 6, 0, 1, 2, 3, 4, 5, 6, 7]
.fin .no) .no)
(.wr 7 (opO 5 (.alloc [(.int .i64 0), (.slice none 0 0)])) []
(.wr 6 (opO 19 (.call 280 [(.t 13), (.t 18)])) [0, 5, 5]
(.wr 8 ⟨none, none, .store 2 (.t 5) (.t 19)⟩ [7, 6, 6, 0, 1, 2, 3, 4, 5, 6, 7]
.fin .no) .no) .no))
(.wr 7 (opO 5 (.alloc [(.int .i64 0), (.slice none 0 0)])) []
(.wr 5 (opO 18 (.call 274 [(.t 16), (.t 17)])) [3, 4, 3]
(.wr 6 (opO 19 (.call 280 [(.t 13), (.t 18)])) [0, 5, 5]
(.wr 8 ⟨none, none, .store 2 (.t 5) (.t 19)⟩ [7, 6, 6, 0, 1, 2, 3, 4, 5, 6, 7]
.fin .no) .no) .no) .no))
(.wr 7 (opO 5 (.alloc [(.int .i64 0), (.slice none 0 0)])) []
(.wr 3 (opO 16 (.call 289 [(.t 14), (.t 15)])) [1, 2]
(.wr 5 (opO 18 (.call 274 [(.t 16), (.t 17)])) [3, 4, 3]
(.wr 6 (opO 19 (.call 280 [(.t 13), (.t 18)])) [0, 5, 5]
(.wr 8 ⟨none, none, .store 2 (.t 5) (.t 19)⟩ [7, 6, 6, 0, 1, 2, 3, 4, 5, 6, 7]
.fin .no) .no) .no) .no) .no)))))) (some [2, 3, 4, 5]))
(.draw (.rd 0 (lA 20 2 3)
(.rd 1 (lA 21 2 5)
(.wr 2 ⟨none, none, .store 2 (.t 2) (.t 20)⟩ [0, 0]
(.wr 3 ⟨none, none, .store 2 (.t 3) (.t 21)⟩ [1, 2, 0, 1, 2]
.fin .no) .no))) (some [2, 3, 4])))))))
(.seq (.ops [lA 22 2 2,
⟨none, none, .store 2 (.t 4) (.t 22)⟩] (some [4]))
.ret))))⟩
def ir289 : IFn := ⟨88, [.cell 4 2 true],
(.seq (.ops [opO 2 (.box (.t 0)),
opO 3 (.box (.t 1)),
opO 4 (.alloc [(.int .i64 0), (.slice none 0 0)])] (some [2, 3, 4]))
(.seq (.seq (.ops [fO 12 0 2,
lO 13 1 12,
opO 14 (.ibin .eql .i64 (.t 13) (ci 0))] (some [2, 3, 4, 14]))
(.cond (.t 14)
(.seq (.ops [opO 15 (.build [(.int .i64 0), (.slice none 0 0)] []),
⟨none, none, .store 2 (.t 4) (.t 15)⟩] (some [4]))
.ret)
.skip))
(.seq (.ops [fO 16 1 2,
lO 17 1 16,
nO 18 17,
opO 19 (.mslice 1 8 [(.int .i64 0)] (.t 18) (.t 18)),
opO 20 (.bslice 0 1 [(.int .i64 0)] []),
mvO 5 19,
mvO 6 20] (some [2, 3, 4, 5, 6]))
(.seq (.seq (.ops [fO 21 1 2,
lO 22 1 21,
nO 23 22,
opO 24 (.ibin .sub .i64 (.t 23) (ci 1)),
mvO 7 24] (some [2, 3, 4, 5, 6, 7]))
(.block 0 (.loop (.seq (.seq (.ops [mvO 25 7,
opO 26 (.ibin .geq .i64 (.t 25) (ci 0))] (some [2, 3, 4, 5, 6, 7, 26]))
(.cond (.t 26)
.skip
(.exit 0)))
(.seq (.block 1 (.seq (.ops [fO 29 1 2,
lO 30 1 29,
mvO 31 7,
iO 32 1 30 31,
lO 33 1 32,
opO 34 (.bslice 1 1 [(.int .i64 0)] [(0, 1, (.t 33))]),
mvO 35 6,
opO 36 (.append 1 8 (.t 34) (.t 35)),
cO 37 295 36,
mvO 6 37] (some [2, 3, 4, 5, 6, 7]))
(.seq (.ops [mO 8 0,
mO 9 999999999] none)
(.seq (.block 2 (.loop (.seq (.seq (.ops [mvO 38 8,
mvO 39 9,
sO 40 38 39] (some [2, 3, 4, 5, 6, 7, 8, 9, 40]))
(.cond (.t 40)
.skip
(.exit 2)))
(.block 3 (.seq (.ops [mvO 41 8,
mvO 42 9,
opO 43 (.ibin .add .i64 (.t 41) (.t 42)),
pO 44 43 1,
opO 45 (.ibin .quo .i64 (.t 44) (ci 2)),
mvO 10 45] (some [2, 3, 4, 5, 6, 7, 8, 9, 10]))
(.seq (.ops [fO 46 1 3,
lO 47 1 46,
opO 48 (.call 285 [(ci 1), (.t 47)]),
mvO 49 10,
cO 50 273 49,
opO 51 (.call 274 [(.t 48), (.t 50)]),
opO 52 (.field 1 1 false (.t 51)),
mvO 53 6,
opO 54 (.call 291 [(.t 52), (.t 53)]),
opO 55 (.ibin .leq .i64 (.t 54) (ci 0))] (some [2, 3, 4, 5, 6, 7, 8, 9, 10, 55]))
(.cond (.t 55)
(.ops [mvO 56 10,
mvO 8 56] (some [2, 3, 4, 5, 6, 7, 8, 9]))
(.ops [mvO 57 10,
opO 58 (.ibin .sub .i64 (.t 57) (ci 1)),
mvO 9 58] (some [2, 3, 4, 5, 6, 7, 8, 9])))))))))
(.seq (.ops [mvO 59 5,
mvO 60 7,
mvO 61 8,
iO 62 1 59 60,
⟨none, none, .store 1 (.t 62) (.t 61)⟩] (some [2, 3, 4, 5, 6, 7, 8]))
(.ops [mvO 63 6,
fO 64 1 3,
lO 65 1 64,
opO 66 (.call 285 [(ci 1), (.t 65)]),
mvO 67 8,
cO 68 273 67,
opO 69 (.call 274 [(.t 66), (.t 68)]),
opO 70 (.field 1 1 false (.t 69)),
opO 71 (.call 292 [(.t 63), (.t 70)]),
mvO 6 71] (some [2, 3, 4, 5, 6, 7])))))))
(.ops [mvO 27 7,
opO 28 (.ibin .sub .i64 (.t 27) (ci 1)),
mvO 7 28] (some [2, 3, 4, 5, 6, 7])))))))
(.seq (.ops [fO 72 0 2,
lO 73 1 72,
mvO 74 5,
opO 75 (.call 285 [(.t 73), (.t 74)]),
opO 11 (.alloc [(.int .i64 0), (.slice none 0 0)]),
⟨none, none, .store 2 (.t 11) (.t 75)⟩] (some [2, 4, 6, 11]))
(.seq (.seq (.ops [fO 76 0 2,
lO 77 1 76,
opO 78 (.ibin .lss .i64 (.t 77) (ci 0)),
mvO 79 78,
⟨(some 80), (some (79, true)), .mov (.t 6)⟩,
⟨(some 81), (some (79, true)), .lenV (.t 80)⟩,
⟨(some 82), (some (79, true)), .ibin .gtr .i64 (.t 81) (ci 0)⟩,
opO 83 (.pick (.t 79) (.t 82) (.c (.bool false)))] (some [4, 11, 83]))
(.cond (.t 83)
(.draw (.rd 0 (lA 84 2 11)
(.wr 1 (opO 85 (.call 273 [(ci 1)])) []
(.wr 2 (opO 86 (.call 280 [(.t 84), (.t 85)])) [0, 1, 1]
(.wr 3 ⟨none, none, .store 2 (.t 11) (.t 86)⟩ [2, 2, 0, 1, 2]
.fin .no) .no) .no)) (some [4, 11]))
.skip))
(.seq (.ops [lA 87 2 11,
⟨none, none, .store 2 (.t 4) (.t 87)⟩] (some [4]))
.ret)))))))⟩
def ir290 : IFn := ⟨42, [.t 4],
(.seq (.ops [opO 4 (.mov (.c (.slice none 0 0)))] (some [0, 1]))
(.seq (.ops [opO 5 (.mov (.c (.slice none 0 0)))] none)
(.seq (.ops [mO 6 0] none)
(.seq (.seq (.ops [mO 7 0] none)
(.block 0 (.loop (.seq (.seq (.ops [mvO 9 7,
mvO 10 0,
nO 11 10,
sO 12 9 11,
mvO 13 12,
⟨(some 14), (some (13, false)), .mov (.t 7)⟩,
⟨(some 15), (some (13, false)), .mov (.t 1)⟩,
⟨(some 16), (some (13, false)), .lenV (.t 15)⟩,
⟨(some 17), (some (13, false)), .ibin .lss .i64 (.t 14) (.t 16)⟩,
opO 18 (.pick (.t 13) (.c (.bool true)) (.t 17)),
mvO 19 18,
⟨(some 20), (some (19, false)), .mov (.t 6)⟩,
⟨(some 21), (some (19, false)), .ibin .gtr .i64 (.t 20) (ci 0)⟩,
opO 22 (.pick (.t 19) (.c (.bool true)) (.t 21))] (some [0, 1, 5, 6, 7, 22]))
(.cond (.t 22)
.skip
(.exit 0)))
(.seq (.block 1 (.seq (.ops [mvO 25 0,
mvO 26 7,
opO 27 (.call 297 [(.t 25), (.t 26)]),
mvO 28 1,
mvO 29 7,
opO 30 (.call 297 [(.t 28), (.t 29)]),
opO 31 (.ibin .add .i64 (.t 27) (.t 30)),
mvO 32 6,
opO 33 (.ibin .add .i64 (.t 31) (.t 32)),
mvO 8 33] (some [0, 1, 5, 7, 8]))
(.ops [mvO 34 5,
mvO 35 8,
opO 36 (.ibin .rem .i64 (.t 35) (ci 1000000000)),
opO 37 (.bslice 1 1 [(.int .i64 0)] [(0, 1, (.t 36))]),
opO 38 (.append 1 8 (.t 34) (.t 37)),
mvO 39 8,
opO 40 (.ibin .quo .i64 (.t 39) (ci 1000000000)),
mvO 5 38,
mvO 6 40] (some [0, 1, 5, 6, 7]))))
(.ops [mvO 23 7,
pO 24 23 1,
mvO 7 24] (some [0, 1, 5, 6, 7])))))))
(.seq (.ops [mvO 41 5,
mvO 4 41] (some [4]))
.ret)))))⟩
def ir291 : IFn := ⟨41, [.t 4],
(.seq (.ops [mO 4 0] (some [0, 1]))
(.seq (.seq (.ops [mvO 6 0,
nO 7 6,
mvO 8 1,
nO 9 8,
opO 10 (.ibin .neq .i64 (.t 7) (.t 9))] (some [0, 1, 10]))
(.cond (.t 10)
(.seq (.seq (.ops [mvO 11 0,
nO 12 11,
mvO 13 1,
nO 14 13,
sO 15 12 14] (some [15]))
(.cond (.t 15)
(.seq (.ops [opO 4 (.mov (ci (-1)))] none)
.ret)
.skip))
(.seq (.ops [mO 4 1] none)
.ret))
.skip))
(.seq (.seq (.ops [mvO 16 0,
nO 17 16,
opO 18 (.ibin .sub .i64 (.t 17) (ci 1)),
mvO 5 18] (some [0, 1, 5]))
(.block 0 (.loop (.seq (.seq (.ops [mvO 19 5,
opO 20 (.ibin .geq .i64 (.t 19) (ci 0))] (some [0, 1, 5, 20]))
(.cond (.t 20)
.skip
(.exit 0)))
(.seq (.block 1 (.seq (.seq (.draw (.rd 0 (mvO 23 0)
(.rd 1 (mvO 24 5)
(.rd 2 (iO 25 1 23 24)
(.rd 3 (lO 26 1 25)
(.rd 4 (mvO 27 1)
(.rd 5 (mvO 28 5)
(.rd 6 (iO 29 1 27 28)
(.rd 7 (lO 30 1 29)
(.rd 8 (sO 31 26 30)
.fin))))))))) (some [0, 1, 5, 31]))
(.cond (.t 31)
(.seq (.ops [opO 4 (.mov (ci (-1)))] none)
.ret)
.skip))
(.seq (.draw (.rd 0 (mvO 32 0)
(.rd 1 (mvO 33 5)
(.rd 2 (iO 34 1 32 33)
(.rd 3 (lO 35 1 34)
(.rd 4 (mvO 36 1)
(.rd 5 (mvO 37 5)
(.rd 6 (iO 38 1 36 37)
(.rd 7 (lO 39 1 38)
(.rd 8 (opO 40 (.ibin .gtr .i64 (.t 35) (.t 39)))
.fin))))))))) (some [0, 1, 5, 40]))
(.cond (.t 40)
(.seq (.ops [mO 4 1] none)
.ret)
.skip))))
(.ops [mvO 21 5,
opO 22 (.ibin .sub .i64 (.t 21) (ci 1)),
mvO 5 22] (some [0, 1, 5])))))))
(.seq (.ops [mO 4 0] none)
.ret))))⟩
def ir292 : IFn := ⟨35, [.t 4],
(.seq (.ops [opO 4 (.mov (.c (.slice none 0 0)))] (some [0, 1]))
(.seq (.ops [opO 5 (.mov (.c (.slice none 0 0)))] none)
(.seq (.ops [mO 6 0] none)
(.seq (.seq (.ops [mO 7 0] none)
(.block 0 (.loop (.seq (.seq (.ops [mvO 9 7,
mvO 10 0,
nO 11 10,
sO 12 9 11] (some [0, 1, 5, 6, 7, 12]))
(.cond (.t 12)
.skip
(.exit 0)))
(.seq (.block 1 (.seq (.draw (.rd 0 (mvO 15 0)
(.rd 1 (mvO 16 7)
(.rd 2 (iO 17 1 15 16)
(.rd 3 (lO 18 1 17)
(.rd 4 (mvO 19 1)
(.rd 5 (mvO 20 7)
(.rd 8 (mvO 23 6)
(.wr 6 (opO 21 (.call 297 [(.t 19), (.t 20)])) [4, 5]
(.rd 7 (opO 22 (.ibin .sub .i64 (.t 18) (.t 21)))
(.rd 9 (opO 24 (.ibin .sub .i64 (.t 22) (.t 23)))
(.rd 10 (mvO 8 24)
.fin))) .no)))))))) (some [0, 1, 5, 7, 8]))
(.seq (.ops [mO 6 0] none)
(.seq (.seq (.ops [mvO 25 8,
opO 26 (.ibin .lss .i64 (.t 25) (ci 0))] (some [0, 1, 5, 6, 7, 8, 26]))
(.cond (.t 26)
(.ops [mvO 27 8,
pO 28 27 1000000000,
mvO 8 28,
mO 6 1] (some [0, 1, 5, 6, 7, 8]))
.skip))
(.ops [mvO 29 5,
mvO 30 8,
opO 31 (.bslice 1 1 [(.int .i64 0)] [(0, 1, (.t 30))]),
opO 32 (.append 1 8 (.t 29) (.t 31)),
mvO 5 32] (some [0, 1, 5, 6, 7]))))))
(.ops [mvO 13 7,
pO 14 13 1,
mvO 7 14] (some [0, 1, 5, 6, 7])))))))
(.seq (.ops [mvO 33 5,
cO 34 295 33,
mvO 4 34] (some [4]))
.ret)))))⟩
def ir293 : IFn := ⟨22, [.cell 4 4 true],
(.seq (.ops [opO 2 (.box (.t 0)),
opO 3 (.box (.t 1)),
opO 4 (.alloc [(.int .i64 0), (.slice none 0 0), (.int .i64 0), (.slice none 0 0)])] (some [2, 3, 4]))
(.seq (.draw (.rd 0 (fO 5 0 2)
(.rd 1 (lA 6 2 5)
(.rd 2 (fO 7 2 3)
(.rd 3 (lA 8 2 7)
(.rd 5 (fO 10 0 3)
(.rd 6 (lA 11 2 10)
(.rd 7 (fO 12 2 2)
(.rd 8 (lA 13 2 12)
(.rd 11 (fO 16 2 2)
(.rd 12 (lA 17 2 16)
(.rd 13 (fO 18 2 3)
(.rd 14 (lA 19 2 18)
(.wr 4 (opO 9 (.call 274 [(.t 6), (.t 8)])) [1, 3]
(.wr 9 (opO 14 (.call 274 [(.t 11), (.t 13)])) [6, 8, 4]
(.wr 10 (opO 15 (.call 281 [(.t 9), (.t 14)])) [4, 9, 9]
(.wr 15 (opO 20 (.call 274 [(.t 17), (.t 19)])) [12, 14, 10]
(.wr 16 (opO 21 (.call 275 [(.t 15), (.t 20)])) [10, 15, 15]
(.wr 17 ⟨none, none, .store 4 (.t 4) (.t 21)⟩ [16, 16, 0, 1, 2, 3, 4, 5, 6, 7, 8, 9, 10, 11, 12, 13, 14, 15, 16]
.fin .no) .no) .no) .no) .no) .no))))))))))))) (some [4]))
.ret))⟩
def ir294 : IFn := ⟨9, [.cell 2 4 true],
(.seq (.ops [opO 1 (.box (.t 0)),
opO 2 (.alloc [(.int .i64 0), (.slice none 0 0), (.int .i64 0), (.slice none 0 0)])] (some [1, 2]))
(.seq (.draw (.rd 0 (fO 3 0 1)
(.rd 1 (lA 4 2 3)
(.rd 3 (fO 6 2 1)
(.rd 4 (lA 7 2 6)
(.wr 2 (cO 5 287 4) [1]
(.rd 5 (opO 8 (.build [(.int .i64 0), (.slice none 0 0), (.int .i64 0), (.slice none 0 0)] [(0, 2, (.t 5)), (2, 2, (.t 7))]))
(.wr 6 ⟨none, none, .store 4 (.t 2) (.t 8)⟩ [5, 2, 0, 1, 2, 3, 4, 5]
.fin .no)) .no))))) (some [2]))
.ret))⟩
def ir295 : IFn := ⟨21, [.t 2],
(.seq (.ops [opO 2 (.mov (.c (.slice none 0 0)))] (some [0]))
(.seq (.ops [mvO 4 0,
nO 5 4,
mvO 3 5] (some [0, 3]))
(.seq (.block 0 (.loop (.seq (.seq (.ops [mvO 6 3,
opO 7 (.ibin .gtr .i64 (.t 6) (ci 0)),
mvO 8 7,
⟨(some 9), (some (8, true)), .mov (.t 0)⟩,
⟨(some 10), (some (8, true)), .mov (.t 3)⟩,
⟨(some 11), (some (8, true)), .ibin .sub .i64 (.t 10) (ci 1)⟩,
⟨(some 12), (some (8, true)), .iaddr 1 (.t 9) (.t 11)⟩,
⟨(some 13), (some (8, true)), .load 1 false (.t 12)⟩,
⟨(some 14), (some (8, true)), .ibin .eql .i64 (.t 13) (ci 0)⟩,
opO 15 (.pick (.t 8) (.t 14) (.c (.bool false)))] (some [0, 3, 15]))
(.cond (.t 15)
.skip
(.exit 0)))
(.block 1 (.ops [mvO 16 3,
opO 17 (.ibin .sub .i64 (.t 16) (ci 1)),
mvO 3 17] (some [0, 3]))))))
(.seq (.ops [mvO 18 0,
mvO 19 3,
opO 20 (.sliceV 1 (.t 18) none (some (.t 19)) none),
mvO 2 20] (some [2]))
.ret))))⟩
def ir296 : IFn := ⟨9, [.cell 2 2 true],
(.seq (.ops [opO 1 (.box (.t 0)),
opO 2 (.alloc [(.int .i64 0), (.slice none 0 0)])] (some [1, 2]))
(.seq (.seq (.ops [fO 3 0 1,
lO 4 1 3,
opO 5 (.ibin .lss .i64 (.t 4) (ci 0))] (some [1, 2, 5]))
(.cond (.t 5)
(.seq (.ops [lA 6 2 1,
cO 7 287 6,
⟨none, none, .store 2 (.t 2) (.t 7)⟩] (some [2]))
.ret)
.skip))
(.seq (.ops [lA 8 2 1,
⟨none, none, .store 2 (.t 2) (.t 8)⟩] (some [2]))
.ret)))⟩
def ir297 : IFn := ⟨13, [.t 4],
(.seq (.ops [mO 4 0] (some [0, 1]))
(.seq (.seq (.ops [mvO 5 1,
mvO 6 0,
nO 7 6,
sO 8 5 7] (some [0, 1, 8]))
(.cond (.t 8)
(.seq (.ops [mvO 9 0,
mvO 10 1,
iO 11 1 9 10,
lO 12 1 11,
mvO 4 12] (some [4]))
.ret)
.skip))
(.seq (.ops [mO 4 0] none)
.ret)))⟩
end Go.Proofs.YtgfglinlmnbjbaaGreat.AM
