/- The functions in the small language. Conditions: none. -/
import Derived.Test.YtacgibkgojnfeaaGreatDoorAmFn
namespace Go.Proofs.YtacgibkgojnfeaaGreatDoor.AM
set_option linter.unusedSimpArgs false
set_option linter.unusedVariables false
open Go Go.RowKit

/-- guidevane/guidevanelaw09.awake -/
def ir10 : IFn := ⟨66, [.t 0],
(.seq (.ops [⟨(some 0), none, .mov (.c (.bool false))⟩] (some []))
(.seq (.ops [⟨(some 10), none, .call 60 []⟩,
⟨(some 11), none, .call 55 [(.t 10), (.c (.int .i64 3))]⟩,
⟨(some 9), none, .mov (.t 11)⟩,
⟨(some 12), none, .extract 0 (.t 9)⟩,
⟨(some 13), none, .extract 1 (.t 9)⟩,
⟨(some 1), none, .alloc (List.replicate 6 (.int .i64 0))⟩,
⟨none, none, .store 6 (.t 1) (.t 12)⟩,
⟨(some 2), none, .mov (.t 13)⟩] (some [1, 2]))
(.seq (.ops [⟨(some 15), none, .call 61 []⟩,
⟨(some 16), none, .bslice 3 1 [(.int .i64 0)] [(0, 1, (.c (.int .i64 60))), (1, 1, (.c (.int .i64 20))), (2, 1, (.c (.int .i64 10)))]⟩,
⟨(some 17), none, .call 36 [(.t 15), (.t 16)]⟩,
⟨(some 14), none, .mov (.t 17)⟩,
⟨(some 18), none, .extract 0 (.t 14)⟩,
⟨(some 19), none, .extract 1 (.t 14)⟩,
⟨(some 3), none, .alloc [(.int .i64 0), (.int .i64 0), (.int .i64 0)]⟩,
⟨none, none, .store 3 (.t 3) (.t 18)⟩,
⟨(some 4), none, .mov (.t 19)⟩] (some [1, 2, 3, 4]))
(.seq (.ops [⟨(some 21), none, .call 62 []⟩,
⟨(some 22), none, .call 22 [(.t 21)]⟩,
⟨(some 20), none, .mov (.t 22)⟩,
⟨(some 23), none, .extract 0 (.t 20)⟩,
⟨(some 24), none, .extract 1 (.t 20)⟩,
⟨(some 5), none, .mov (.t 23)⟩,
⟨(some 6), none, .mov (.t 24)⟩] (some [1, 2, 3, 4, 5, 6]))
(.seq (.ops [⟨(some 26), none, .bslice 2 1 [(.int .i64 0)] [(0, 1, (.c (.int .i64 1000))), (1, 1, (.c (.int .i64 500)))]⟩,
⟨(some 27), none, .bslice 2 1 [(.int .i64 0)] [(0, 1, (.c (.int .i64 300))), (1, 1, (.c (.int .i64 100)))]⟩,
⟨(some 28), none, .build [(.slice none 0 0), (.slice none 0 0)] [(0, 1, (.t 26)), (1, 1, (.t 27))]⟩,
⟨(some 29), none, .call 13 [(.t 28), (.c (.int .i64 2))]⟩,
⟨(some 25), none, .mov (.t 29)⟩,
⟨(some 30), none, .extract 0 (.t 25)⟩,
⟨(some 31), none, .extract 1 (.t 25)⟩,
⟨(some 7), none, .mov (.t 30)⟩,
⟨(some 8), none, .mov (.t 31)⟩] (some [1, 2, 3, 4, 5, 6, 7, 8]))
(.seq (.ops [⟨(some 32), none, .mov (.t 2)⟩,
⟨(some 33), none, .ibin .eql .i64 (.t 32) (.c (.int .i64 0))⟩,
⟨(some 34), none, .mov (.t 33)⟩,
⟨(some 35), (some (34, true)), .load 6 true (.t 1)⟩,
⟨(some 36), (some (34, true)), .build (List.replicate 5 (.int .i64 0)) [(0, 1, (.c (.int .i64 3020))), (1, 1, (.c (.int .i64 87)))]⟩,
⟨(some 37), (some (34, true)), .build (List.replicate 6 (.int .i64 0)) [(0, 1, (.c (.int .i64 30))), (1, 5, (.t 36))]⟩,
⟨(some 38), (some (34, true)), .eqv (.fld 0 1 (.int .i64) (.fld 1 5 (.fld 0 1 (.int .i64) (.fld 1 1 (.int .i64) (.fld 2 1 (.int .i64) (.fld 3 1 (.int .i64) (.fld 4 1 (.int .i64) .nil))))) .nil)) false (.t 35) (.t 37)⟩,
⟨(some 39), none, .pick (.t 34) (.t 38) (.c (.bool false))⟩,
⟨(some 40), none, .mov (.t 39)⟩,
⟨(some 41), (some (40, true)), .mov (.t 4)⟩,
⟨(some 42), (some (40, true)), .ibin .eql .i64 (.t 41) (.c (.int .i64 0))⟩,
⟨(some 43), none, .pick (.t 40) (.t 42) (.c (.bool false))⟩,
⟨(some 44), none, .mov (.t 43)⟩,
⟨(some 45), (some (44, true)), .load 3 true (.t 3)⟩,
⟨(some 46), (some (44, true)), .build [(.int .i64 0), (.int .i64 0), (.int .i64 0)] [(0, 1, (.c (.int .i64 1))), (1, 1, (.c (.int .i64 2))), (2, 1, (.c (.int .i64 10)))]⟩,
⟨(some 47), (some (44, true)), .eqv (.fld 0 1 (.int .i64) (.fld 1 1 (.int .i64) (.fld 2 1 (.int .i64) .nil))) false (.t 45) (.t 46)⟩,
⟨(some 48), none, .pick (.t 44) (.t 47) (.c (.bool false))⟩,
⟨(some 49), none, .mov (.t 48)⟩,
⟨(some 50), (some (49, true)), .mov (.t 6)⟩,
⟨(some 51), (some (49, true)), .ibin .eql .i64 (.t 50) (.c (.int .i64 0))⟩,
⟨(some 52), none, .pick (.t 49) (.t 51) (.c (.bool false))⟩,
⟨(some 53), none, .mov (.t 52)⟩,
⟨(some 54), (some (53, true)), .mov (.t 5)⟩,
⟨(some 55), (some (53, true)), .bslice 2 1 [(.int .i64 0)] [(0, 1, (.c (.int .i64 0))), (1, 1, (.c (.int .i64 2)))]⟩,
⟨(some 56), (some (53, true)), .call 26 [(.t 54), (.t 55)]⟩,
⟨(some 57), none, .pick (.t 53) (.t 56) (.c (.bool false))⟩,
⟨(some 58), none, .mov (.t 57)⟩,
⟨(some 59), (some (58, true)), .mov (.t 8)⟩,
⟨(some 60), (some (58, true)), .ibin .eql .i64 (.t 59) (.c (.int .i64 0))⟩,
⟨(some 61), none, .pick (.t 58) (.t 60) (.c (.bool false))⟩,
⟨(some 62), none, .mov (.t 61)⟩,
⟨(some 63), (some (62, true)), .mov (.t 7)⟩,
⟨(some 64), (some (62, true)), .ibin .eql .i64 (.t 63) (.c (.int .i64 9))⟩,
⟨(some 65), none, .pick (.t 62) (.t 64) (.c (.bool false))⟩,
⟨(some 0), none, .mov (.t 65)⟩] (some [0]))
.ret))))))⟩
/-- guidevane/dam.CheckBasin -/
def ir11 : IFn := ⟨51, [.t 2, .t 3],
(.seq (.ops [⟨(some 1), none, .box (.t 0)⟩,
⟨(some 2), none, .mov (.c (.int .i64 0))⟩,
⟨(some 3), none, .mov (.c (.int .i64 0))⟩] (some [1]))
(.seq (.ops [⟨(some 8), none, .faddr 0 (.t 1)⟩,
⟨(some 9), none, .load 1 false (.t 8)⟩,
⟨(some 10), none, .lenV (.t 9)⟩,
⟨(some 4), none, .mov (.t 10)⟩] (some [1, 4]))
(.seq (.seq (.ops [⟨(some 11), none, .mov (.t 4)⟩,
⟨(some 12), none, .ibin .gtr .i64 (.t 11) (.c (.int .i64 0))⟩,
⟨(some 13), none, .mov (.t 12)⟩,
⟨(some 14), (some (13, true)), .faddr 1 (.t 1)⟩,
⟨(some 15), (some (13, true)), .load 1 false (.t 14)⟩,
⟨(some 16), (some (13, true)), .lenV (.t 15)⟩,
⟨(some 17), (some (13, true)), .mov (.t 4)⟩,
⟨(some 18), (some (13, true)), .ibin .eql .i64 (.t 16) (.t 17)⟩,
⟨(some 19), none, .pick (.t 13) (.t 18) (.c (.bool false))⟩,
⟨(some 20), none, .call 64 [(.t 19), (.c (.int .i64 10))]⟩,
⟨(some 21), none, .mov (.t 4)⟩,
⟨(some 22), none, .ibin .leq .i64 (.t 21) (.c (.int .i64 20))⟩,
⟨(some 23), none, .call 64 [(.t 22), (.c (.int .i64 8))]⟩,
⟨(some 24), none, .bslice 2 1 [(.int .i64 0)] [(0, 1, (.t 20)), (1, 1, (.t 23))]⟩,
⟨(some 25), none, .call 63 [(.t 24)]⟩,
⟨(some 5), none, .mov (.t 25)⟩] (some [1, 5]))
(.seq (.ops [⟨(some 26), none, .mov (.t 5)⟩,
⟨(some 27), none, .ibin .neq .i64 (.t 26) (.c (.int .i64 0))⟩] (some [1, 5, 27]))
(.cond (.t 27)
(.seq (.ops [⟨(some 28), none, .mov (.t 5)⟩,
⟨(some 2), none, .mov (.c (.int .i64 0))⟩,
⟨(some 3), none, .mov (.t 28)⟩] (some [2, 3]))
.ret)
.skip)))
(.seq (.seq (.ops [⟨(some 29), none, .faddr 0 (.t 1)⟩,
⟨(some 30), none, .load 1 false (.t 29)⟩,
⟨(some 31), none, .lenV (.t 30)⟩,
⟨(some 32), none, .mov (.c (.int .i64 0))⟩] (some [1, 30, 31, 32]))
(.block 0 (.loop (.seq (.ops [⟨(some 33), none, .ibin .lss .i64 (.t 32) (.t 31)⟩] none)
(.seq (.cond (.t 33)
.skip
(.exit 0))
(.seq (.block 1 (.seq (.ops [⟨(some 34), none, .mov (.t 32)⟩,
⟨(some 35), none, .iaddr 1 (.t 30) (.t 32)⟩,
⟨(some 36), none, .load 1 false (.t 35)⟩,
⟨(some 6), none, .mov (.t 34)⟩,
⟨(some 7), none, .mov (.t 36)⟩] (some [1, 6, 7, 30, 31, 32]))
(.seq (.ops [⟨(some 37), none, .mov (.t 7)⟩,
⟨(some 38), none, .call 65 [(.t 37), (.c (.int .i64 0)), (.c (.int .i64 1000000000))]⟩,
⟨(some 39), none, .un .not (.t 38)⟩,
⟨(some 40), none, .mov (.t 39)⟩,
⟨(some 41), (some (40, false)), .faddr 1 (.t 1)⟩,
⟨(some 42), (some (40, false)), .load 1 false (.t 41)⟩,
⟨(some 43), (some (40, false)), .mov (.t 6)⟩,
⟨(some 44), (some (40, false)), .iaddr 1 (.t 42) (.t 43)⟩,
⟨(some 45), (some (40, false)), .load 1 false (.t 44)⟩,
⟨(some 46), (some (40, false)), .call 65 [(.t 45), (.c (.int .i64 1)), (.c (.int .i64 1000000000))]⟩,
⟨(some 47), (some (40, false)), .un .not (.t 46)⟩,
⟨(some 48), none, .pick (.t 40) (.c (.bool true)) (.t 47)⟩] (some [1, 6, 30, 31, 32, 48]))
(.cond (.t 48)
(.seq (.ops [⟨(some 49), none, .mov (.t 6)⟩,
⟨(some 2), none, .mov (.t 49)⟩,
⟨(some 3), none, .mov (.c (.int .i64 2))⟩] (some [2, 3]))
.ret)
.skip))))
(.ops [⟨(some 50), none, .ibin .add .i64 (.t 32) (.c (.int .i64 1))⟩,
⟨(some 32), none, .mov (.t 50)⟩] (some [1, 30, 31, 32]))))))))
(.seq (.ops [⟨(some 2), none, .mov (.c (.int .i64 0))⟩,
⟨(some 3), none, .mov (.c (.int .i64 0))⟩] none)
.ret)))))⟩
/-- guidevane/dam.EmptyingOf -/
def ir13 : IFn := ⟨56, [.t 4, .t 5],
(.seq (.ops [⟨(some 2), none, .box (.t 0)⟩,
⟨(some 4), none, .mov (.c (.int .i64 0))⟩,
⟨(some 5), none, .mov (.c (.int .i64 0))⟩] (some [1, 2]))
(.seq (.ops [⟨(some 12), none, .load 2 true (.t 2)⟩,
⟨(some 13), none, .call 11 [(.t 12)]⟩,
⟨(some 11), none, .mov (.t 13)⟩,
⟨(some 14), none, .extract 0 (.t 11)⟩,
⟨(some 15), none, .extract 1 (.t 11)⟩,
⟨(some 6), none, .mov (.t 14)⟩,
⟨(some 7), none, .mov (.t 15)⟩] (some [1, 2, 7]))
(.seq (.seq (.ops [⟨(some 16), none, .mov (.t 7)⟩,
⟨(some 17), none, .mov (.t 1)⟩,
⟨(some 18), none, .faddr 0 (.t 2)⟩,
⟨(some 19), none, .load 1 false (.t 18)⟩,
⟨(some 20), none, .lenV (.t 19)⟩,
⟨(some 21), none, .call 65 [(.t 17), (.c (.int .i64 0)), (.t 20)]⟩,
⟨(some 22), none, .call 64 [(.t 21), (.c (.int .i64 2))]⟩,
⟨(some 23), none, .bslice 2 1 [(.int .i64 0)] [(0, 1, (.t 16)), (1, 1, (.t 22))]⟩,
⟨(some 24), none, .call 63 [(.t 23)]⟩,
⟨(some 7), none, .mov (.t 24)⟩] (some [1, 2, 7]))
(.seq (.ops [⟨(some 25), none, .mov (.t 7)⟩,
⟨(some 26), none, .ibin .neq .i64 (.t 25) (.c (.int .i64 0))⟩] (some [1, 2, 7, 26]))
(.cond (.t 26)
(.seq (.ops [⟨(some 27), none, .mov (.t 7)⟩,
⟨(some 4), none, .mov (.c (.int .i64 0))⟩,
⟨(some 5), none, .mov (.t 27)⟩] (some [4, 5]))
.ret)
.skip)))
(.seq (.ops [⟨(some 8), none, .mov (.c (.int .i64 0))⟩] none)
(.seq (.seq (.ops [⟨(some 28), none, .faddr 0 (.t 2)⟩,
⟨(some 29), none, .load 1 false (.t 28)⟩,
⟨(some 30), none, .mov (.t 1)⟩,
⟨(some 31), none, .sliceV 1 (.t 29) none (some (.t 30)) none⟩,
⟨(some 32), none, .lenV (.t 31)⟩,
⟨(some 33), none, .mov (.c (.int .i64 0))⟩] (some [2, 8, 31, 32, 33]))
(.block 0 (.loop (.seq (.ops [⟨(some 34), none, .ibin .lss .i64 (.t 33) (.t 32)⟩] none)
(.seq (.cond (.t 34)
.skip
(.exit 0))
(.seq (.block 1 (.seq (.ops [⟨(some 35), none, .mov (.t 33)⟩,
⟨(some 36), none, .iaddr 1 (.t 31) (.t 33)⟩,
⟨(some 37), none, .load 1 false (.t 36)⟩,
⟨(some 9), none, .mov (.t 35)⟩,
⟨(some 10), none, .mov (.t 37)⟩] (some [2, 8, 9, 10, 31, 32, 33]))
(.draw (.rd 0 ⟨(some 38), none, .mov (.t 8)⟩
(.rd 1 ⟨(some 39), none, .mov (.t 10)⟩
(.rd 2 ⟨(some 40), none, .faddr 1 (.t 2)⟩
(.rd 3 ⟨(some 41), none, .load 1 false (.t 40)⟩
(.rd 4 ⟨(some 42), none, .mov (.t 9)⟩
(.rd 5 ⟨(some 43), none, .iaddr 1 (.t 41) (.t 42)⟩
(.rd 6 ⟨(some 44), none, .load 1 false (.t 43)⟩
(.rd 7 ⟨(some 45), none, .ibin .add .i64 (.t 39) (.t 44)⟩
(.rd 8 ⟨(some 46), none, .ibin .sub .i64 (.t 45) (.c (.int .i64 1))⟩
(.rd 9 ⟨(some 47), none, .faddr 1 (.t 2)⟩
(.rd 10 ⟨(some 48), none, .load 1 false (.t 47)⟩
(.rd 11 ⟨(some 49), none, .mov (.t 9)⟩
(.rd 12 ⟨(some 50), none, .iaddr 1 (.t 48) (.t 49)⟩
(.rd 13 ⟨(some 51), none, .load 1 false (.t 50)⟩
(.rd 14 ⟨(some 52), none, .ibin .quo .i64 (.t 46) (.t 51)⟩
(.rd 15 ⟨(some 53), none, .ibin .add .i64 (.t 38) (.t 52)⟩
(.wr 16 ⟨(some 8), none, .mov (.t 53)⟩ [15, 0, 1, 2, 3, 4, 5, 6, 7, 8, 9, 10, 11, 12, 13, 14, 15]
.fin .no))))))))))))))))) (some [2, 8, 31, 32, 33]))))
(.ops [⟨(some 54), none, .ibin .add .i64 (.t 33) (.c (.int .i64 1))⟩,
⟨(some 33), none, .mov (.t 54)⟩] (some [2, 8, 31, 32, 33]))))))))
(.seq (.ops [⟨(some 55), none, .mov (.t 8)⟩,
⟨(some 4), none, .mov (.t 55)⟩,
⟨(some 5), none, .mov (.c (.int .i64 0))⟩] (some [4, 5]))
.ret))))))⟩
/-- guidevane/guidevanebase.Within -/
def ir15 : IFn := ⟨15, [.t 6],
(.seq (.ops [⟨(some 6), none, .mov (.c (.bool false))⟩] (some [0, 1, 2]))
(.seq (.ops [⟨(some 7), none, .mov (.t 1)⟩,
⟨(some 8), none, .mov (.t 0)⟩,
⟨(some 9), none, .ibin .leq .i64 (.t 7) (.t 8)⟩,
⟨(some 10), none, .mov (.t 9)⟩,
⟨(some 11), (some (10, true)), .mov (.t 0)⟩,
⟨(some 12), (some (10, true)), .mov (.t 2)⟩,
⟨(some 13), (some (10, true)), .ibin .leq .i64 (.t 11) (.t 12)⟩,
⟨(some 14), none, .pick (.t 10) (.t 13) (.c (.bool false))⟩,
⟨(some 6), none, .mov (.t 14)⟩] (some [6]))
.ret))⟩
/-- guidevane/dam.CheckValley -/
def ir20 : IFn := ⟨31, [.t 2, .t 3],
(.seq (.ops [⟨(some 1), none, .box (.t 0)⟩,
⟨(some 2), none, .mov (.c (.int .i64 0))⟩,
⟨(some 3), none, .mov (.c (.int .i64 0))⟩] (some [1]))
(.seq (.seq (.ops [⟨(some 7), none, .faddr 0 (.t 1)⟩,
⟨(some 8), none, .load 1 false (.t 7)⟩,
⟨(some 9), none, .lenV (.t 8)⟩,
⟨(some 10), none, .ibin .gtr .i64 (.t 9) (.c (.int .i64 20))⟩,
⟨(some 11), none, .mov (.t 10)⟩,
⟨(some 12), (some (11, false)), .faddr 1 (.t 1)⟩,
⟨(some 13), (some (11, false)), .load 1 false (.t 12)⟩,
⟨(some 14), (some (11, false)), .lenV (.t 13)⟩,
⟨(some 15), (some (11, false)), .ibin .gtr .i64 (.t 14) (.c (.int .i64 40))⟩,
⟨(some 16), none, .pick (.t 11) (.c (.bool true)) (.t 15)⟩] (some [1, 16]))
(.cond (.t 16)
(.seq (.ops [⟨(some 2), none, .mov (.c (.int .i64 0))⟩,
⟨(some 3), none, .mov (.c (.int .i64 8))⟩] none)
.ret)
.skip))
(.seq (.ops [⟨(some 4), none, .alloc [.nilFunc]⟩,
⟨none, none, .store 1 (.t 4) (.f 67)⟩] none)
(.seq (.seq (.ops [⟨(some 17), none, .faddr 0 (.t 1)⟩,
⟨(some 18), none, .load 1 false (.t 17)⟩,
⟨(some 19), none, .mkfunc 69 [] [(.t 4)]⟩,
⟨(some 20), none, .call 68 [(.t 18), (.t 19)]⟩,
⟨(some 5), none, .mov (.t 20)⟩] (some [1, 4, 5]))
(.seq (.ops [⟨(some 21), none, .mov (.t 5)⟩,
⟨(some 22), none, .ibin .geq .i64 (.t 21) (.c (.int .i64 0))⟩] (some [1, 4, 5, 22]))
(.cond (.t 22)
(.seq (.ops [⟨(some 23), none, .mov (.t 5)⟩,
⟨(some 2), none, .mov (.t 23)⟩,
⟨(some 3), none, .mov (.c (.int .i64 2))⟩] (some [2, 3]))
.ret)
.skip)))
(.seq (.seq (.ops [⟨(some 24), none, .faddr 1 (.t 1)⟩,
⟨(some 25), none, .load 1 false (.t 24)⟩,
⟨(some 26), none, .mkfunc 71 [] [(.t 4)]⟩,
⟨(some 27), none, .call 70 [(.t 25), (.t 26)]⟩,
⟨(some 6), none, .mov (.t 27)⟩] (some [6]))
(.seq (.ops [⟨(some 28), none, .mov (.t 6)⟩,
⟨(some 29), none, .ibin .geq .i64 (.t 28) (.c (.int .i64 0))⟩] (some [6, 29]))
(.cond (.t 29)
(.seq (.ops [⟨(some 30), none, .mov (.t 6)⟩,
⟨(some 2), none, .mov (.t 30)⟩,
⟨(some 3), none, .mov (.c (.int .i64 2))⟩] (some [2, 3]))
.ret)
.skip)))
(.seq (.ops [⟨(some 2), none, .mov (.c (.int .i64 0))⟩,
⟨(some 3), none, .mov (.c (.int .i64 0))⟩] none)
.ret))))))⟩
/-- guidevane/dam.CoverOf -/
def ir22 : IFn := ⟨54, [.t 2, .t 3],
(.seq (.ops [⟨(some 1), none, .box (.t 0)⟩,
⟨(some 2), none, .mov (.c (.slice none 0 0))⟩,
⟨(some 3), none, .mov (.c (.int .i64 0))⟩] (some [1]))
(.seq (.ops [⟨(some 13), none, .load 2 true (.t 1)⟩,
⟨(some 14), none, .call 72 [(.t 13)]⟩,
⟨(some 12), none, .mov (.t 14)⟩,
⟨(some 15), none, .extract 0 (.t 12)⟩,
⟨(some 16), none, .extract 1 (.t 12)⟩,
⟨(some 17), none, .extract 2 (.t 12)⟩,
⟨(some 4), none, .alloc [(.slice none 0 0), (.slice none 0 0)]⟩,
⟨none, none, .store 2 (.t 4) (.t 15)⟩,
⟨(some 5), none, .mov (.t 16)⟩,
⟨(some 6), none, .mov (.t 17)⟩] (some [4, 5, 6]))
(.seq (.seq (.ops [⟨(some 18), none, .mov (.t 6)⟩,
⟨(some 19), none, .ibin .neq .i64 (.t 18) (.c (.int .i64 0))⟩] (some [4, 5, 6, 19]))
(.cond (.t 19)
(.seq (.ops [⟨(some 20), none, .mov (.t 6)⟩,
⟨(some 2), none, .mov (.c (.slice none 0 0))⟩,
⟨(some 3), none, .mov (.t 20)⟩] (some [2, 3]))
.ret)
.skip))
(.seq (.ops [⟨(some 7), none, .mov (.c (.slice none 0 0))⟩] none)
(.seq (.seq (.ops [⟨(some 8), none, .mov (.c (.int .i64 0))⟩] none)
(.block 0 (.loop (.seq (.seq (.ops [⟨(some 21), none, .mov (.t 7)⟩,
⟨(some 22), none, .lenV (.t 21)⟩,
⟨(some 23), none, .mov (.t 5)⟩,
⟨(some 24), none, .lenV (.t 23)⟩,
⟨(some 25), none, .ibin .lss .i64 (.t 22) (.t 24)⟩] (some [4, 5, 7, 8, 25]))
(.cond (.t 25)
.skip
(.exit 0)))
(.seq (.block 1 (.seq (.ops [⟨(some 28), none, .mov (.t 7)⟩,
⟨(some 29), none, .call 73 [(.t 28)]⟩,
⟨(some 30), none, .mov (.t 8)⟩,
⟨(some 31), none, .bslice 1 1 [(.int .i64 0)] [(0, 1, (.t 30))]⟩,
⟨(some 32), none, .append 1 8 (.t 29) (.t 31)⟩,
⟨(some 9), none, .mov (.t 32)⟩] (some [4, 5, 7, 8, 9]))
(.seq (.ops [⟨(some 34), none, .load 2 true (.t 4)⟩,
⟨(some 35), none, .mov (.t 9)⟩,
⟨(some 36), none, .mov (.t 8)⟩,
⟨(some 37), none, .ibin .add .i64 (.t 36) (.c (.int .i64 1))⟩,
⟨(some 38), none, .call 74 [(.t 34), (.t 35), (.t 37)]⟩,
⟨(some 33), none, .mov (.t 38)⟩,
⟨(some 39), none, .extract 0 (.t 33)⟩,
⟨(some 40), none, .extract 1 (.t 33)⟩,
⟨(some 10), none, .mov (.t 39)⟩,
⟨(some 11), none, .mov (.t 40)⟩] (some [4, 5, 7, 8, 9, 10, 11]))
(.seq (.ops [⟨(some 41), none, .mov (.t 11)⟩,
⟨(some 42), none, .mov (.t 41)⟩,
⟨(some 43), (some (42, true)), .mov (.t 9)⟩,
⟨(some 44), (some (42, true)), .lenV (.t 43)⟩,
⟨(some 45), (some (42, true)), .mov (.t 10)⟩,
⟨(some 46), (some (42, true)), .lenV (.t 45)⟩,
⟨(some 47), (some (42, true)), .ibin .add .i64 (.t 44) (.t 46)⟩,
⟨(some 48), (some (42, true)), .mov (.t 5)⟩,
⟨(some 49), (some (42, true)), .lenV (.t 48)⟩,
⟨(some 50), (some (42, true)), .ibin .leq .i64 (.t 47) (.t 49)⟩,
⟨(some 51), none, .pick (.t 42) (.t 50) (.c (.bool false))⟩] (some [4, 5, 7, 8, 9, 51]))
(.cond (.t 51)
(.ops [⟨(some 52), none, .mov (.t 9)⟩,
⟨(some 7), none, .mov (.t 52)⟩] (some [4, 5, 7, 8]))
.skip)))))
(.ops [⟨(some 26), none, .mov (.t 8)⟩,
⟨(some 27), none, .ibin .add .i64 (.t 26) (.c (.int .i64 1))⟩,
⟨(some 8), none, .mov (.t 27)⟩] (some [4, 5, 7, 8])))))))
(.seq (.ops [⟨(some 53), none, .mov (.t 7)⟩,
⟨(some 2), none, .mov (.t 53)⟩,
⟨(some 3), none, .mov (.c (.int .i64 0))⟩] (some [2, 3]))
.ret))))))⟩
/-- guidevane/guidevanebase.Ints -/
def ir26 : IFn := ⟨26, [.t 4],
(.seq (.ops [⟨(some 4), none, .mov (.c (.bool false))⟩] (some [0, 1]))
(.seq (.seq (.ops [⟨(some 6), none, .mov (.t 0)⟩,
⟨(some 7), none, .lenV (.t 6)⟩,
⟨(some 8), none, .mov (.t 1)⟩,
⟨(some 9), none, .lenV (.t 8)⟩,
⟨(some 10), none, .ibin .neq .i64 (.t 7) (.t 9)⟩] (some [0, 1, 10]))
(.cond (.t 10)
(.seq (.ops [⟨(some 4), none, .mov (.c (.bool false))⟩] none)
.ret)
.skip))
(.seq (.seq (.ops [⟨(some 5), none, .mov (.c (.int .i64 0))⟩] none)
(.block 0 (.loop (.seq (.seq (.ops [⟨(some 11), none, .mov (.t 5)⟩,
⟨(some 12), none, .mov (.t 0)⟩,
⟨(some 13), none, .lenV (.t 12)⟩,
⟨(some 14), none, .ibin .lss .i64 (.t 11) (.t 13)⟩] (some [0, 1, 5, 14]))
(.cond (.t 14)
.skip
(.exit 0)))
(.seq (.block 1 (.seq (.draw (.rd 0 ⟨(some 17), none, .mov (.t 0)⟩
(.rd 1 ⟨(some 18), none, .mov (.t 5)⟩
(.rd 2 ⟨(some 19), none, .iaddr 1 (.t 17) (.t 18)⟩
(.rd 3 ⟨(some 20), none, .load 1 false (.t 19)⟩
(.rd 4 ⟨(some 21), none, .mov (.t 1)⟩
(.rd 5 ⟨(some 22), none, .mov (.t 5)⟩
(.rd 6 ⟨(some 23), none, .iaddr 1 (.t 21) (.t 22)⟩
(.rd 7 ⟨(some 24), none, .load 1 false (.t 23)⟩
(.rd 8 ⟨(some 25), none, .ibin .neq .i64 (.t 20) (.t 24)⟩
.fin))))))))) (some [0, 1, 5, 25]))
(.cond (.t 25)
(.seq (.ops [⟨(some 4), none, .mov (.c (.bool false))⟩] none)
.ret)
.skip)))
(.ops [⟨(some 15), none, .mov (.t 5)⟩,
⟨(some 16), none, .ibin .add .i64 (.t 15) (.c (.int .i64 1))⟩,
⟨(some 5), none, .mov (.t 16)⟩] (some [0, 1, 5])))))))
(.seq (.ops [⟨(some 4), none, .mov (.c (.bool true))⟩] none)
.ret))))⟩
/-- guidevane/guidevaneref09.ReadingErr -/
def ir32 : IFn := ⟨19, [.t 2],
(.seq (.ops [⟨(some 1), none, .box (.t 0)⟩,
⟨(some 2), none, .mov (.c (.int .i64 0))⟩] (some [1]))
(.seq (.seq (.ops [⟨(some 3), none, .faddr 0 (.t 1)⟩,
⟨(some 4), none, .load 1 false (.t 3)⟩,
⟨(some 5), none, .call 15 [(.t 4), (.c (.int .i64 0)), (.c (.int .i64 36000))]⟩,
⟨(some 6), none, .un .not (.t 5)⟩,
⟨(some 7), none, .mov (.t 6)⟩,
⟨(some 8), (some (7, false)), .faddr 1 (.t 1)⟩,
⟨(some 9), (some (7, false)), .load 1 false (.t 8)⟩,
⟨(some 10), (some (7, false)), .call 15 [(.t 9), (.c (.int .i64 (-50))), (.c (.int .i64 50))]⟩,
⟨(some 11), (some (7, false)), .un .not (.t 10)⟩,
⟨(some 12), none, .pick (.t 7) (.c (.bool true)) (.t 11)⟩,
⟨(some 13), none, .mov (.t 12)⟩,
⟨(some 14), (some (13, false)), .faddr 2 (.t 1)⟩,
⟨(some 15), (some (13, false)), .load 1 false (.t 14)⟩,
⟨(some 16), (some (13, false)), .call 15 [(.t 15), (.c (.int .i64 (-2000))), (.c (.int .i64 2000))]⟩,
⟨(some 17), (some (13, false)), .un .not (.t 16)⟩,
⟨(some 18), none, .pick (.t 13) (.c (.bool true)) (.t 17)⟩] (some [18]))
(.cond (.t 18)
(.seq (.ops [⟨(some 2), none, .mov (.c (.int .i64 2))⟩] none)
.ret)
.skip))
(.seq (.ops [⟨(some 2), none, .mov (.c (.int .i64 0))⟩] none)
.ret)))⟩
/-- guidevane/dam.CheckReading -/
def ir33 : IFn := ⟨17, [.t 2],
(.seq (.ops [⟨(some 1), none, .box (.t 0)⟩,
⟨(some 2), none, .mov (.c (.int .i64 0))⟩] (some [1]))
(.seq (.ops [⟨(some 3), none, .faddr 0 (.t 1)⟩,
⟨(some 4), none, .load 1 false (.t 3)⟩,
⟨(some 5), none, .call 65 [(.t 4), (.c (.int .i64 0)), (.c (.int .i64 36000))]⟩,
⟨(some 6), none, .mov (.t 5)⟩,
⟨(some 7), (some (6, true)), .faddr 1 (.t 1)⟩,
⟨(some 8), (some (6, true)), .load 1 false (.t 7)⟩,
⟨(some 9), (some (6, true)), .call 78 [(.t 8), (.c (.int .i64 50))]⟩,
⟨(some 10), none, .pick (.t 6) (.t 9) (.c (.bool false))⟩,
⟨(some 11), none, .mov (.t 10)⟩,
⟨(some 12), (some (11, true)), .faddr 2 (.t 1)⟩,
⟨(some 13), (some (11, true)), .load 1 false (.t 12)⟩,
⟨(some 14), (some (11, true)), .call 78 [(.t 13), (.c (.int .i64 2000))]⟩,
⟨(some 15), none, .pick (.t 11) (.t 14) (.c (.bool false))⟩,
⟨(some 16), none, .call 64 [(.t 15), (.c (.int .i64 2))]⟩,
⟨(some 2), none, .mov (.t 16)⟩] (some [2]))
.ret))⟩
/-- guidevane/guidevanelaw09.fewRules -/
def ir35 : IFn := ⟨35, [.t 2],
(.seq (.ops [⟨(some 1), none, .box (.t 0)⟩,
⟨(some 2), none, .mov (.c (.bool false))⟩] (some [1]))
(.seq (.seq (.ops [⟨(some 4), none, .faddr 0 (.t 1)⟩,
⟨(some 5), none, .load 1 false (.t 4)⟩,
⟨(some 6), none, .lenV (.t 5)⟩,
⟨(some 7), none, .ibin .gtr .i64 (.t 6) (.c (.int .i64 7))⟩,
⟨(some 8), none, .mov (.t 7)⟩,
⟨(some 9), (some (8, false)), .faddr 1 (.t 1)⟩,
⟨(some 10), (some (8, false)), .load 1 false (.t 9)⟩,
⟨(some 11), (some (8, false)), .lenV (.t 10)⟩,
⟨(some 12), (some (8, false)), .ibin .gtr .i64 (.t 11) (.c (.int .i64 7))⟩,
⟨(some 13), none, .pick (.t 8) (.c (.bool true)) (.t 12)⟩,
⟨(some 14), none, .mov (.t 13)⟩,
⟨(some 15), (some (14, false)), .faddr 3 (.t 1)⟩,
⟨(some 16), (some (14, false)), .load 1 false (.t 15)⟩,
⟨(some 17), (some (14, false)), .lenV (.t 16)⟩,
⟨(some 18), (some (14, false)), .ibin .gtr .i64 (.t 17) (.c (.int .i64 12))⟩,
⟨(some 19), none, .pick (.t 14) (.c (.bool true)) (.t 18)⟩] (some [1, 19]))
(.cond (.t 19)
(.seq (.ops [⟨(some 2), none, .mov (.c (.bool false))⟩] none)
.ret)
.skip))
(.seq (.seq (.ops [⟨(some 3), none, .mov (.c (.int .i64 0))⟩] none)
(.block 0 (.loop (.seq (.seq (.ops [⟨(some 20), none, .mov (.t 3)⟩,
⟨(some 21), none, .faddr 3 (.t 1)⟩,
⟨(some 22), none, .load 1 false (.t 21)⟩,
⟨(some 23), none, .lenV (.t 22)⟩,
⟨(some 24), none, .ibin .lss .i64 (.t 20) (.t 23)⟩] (some [1, 3, 24]))
(.cond (.t 24)
.skip
(.exit 0)))
(.seq (.block 1 (.seq (.ops [⟨(some 27), none, .faddr 3 (.t 1)⟩,
⟨(some 28), none, .load 1 false (.t 27)⟩,
⟨(some 29), none, .mov (.t 3)⟩,
⟨(some 30), none, .iaddr 2 (.t 28) (.t 29)⟩,
⟨(some 31), none, .faddr 0 (.t 30)⟩,
⟨(some 32), none, .load 1 false (.t 31)⟩,
⟨(some 33), none, .lenS (.t 32)⟩,
⟨(some 34), none, .ibin .gtr .i64 (.t 33) (.c (.int .i64 30))⟩] (some [1, 3, 34]))
(.cond (.t 34)
(.seq (.ops [⟨(some 2), none, .mov (.c (.bool false))⟩] none)
.ret)
.skip)))
(.ops [⟨(some 25), none, .mov (.t 3)⟩,
⟨(some 26), none, .ibin .add .i64 (.t 25) (.c (.int .i64 1))⟩,
⟨(some 3), none, .mov (.t 26)⟩] (some [1, 3])))))))
(.seq (.ops [⟨(some 2), none, .mov (.c (.bool true))⟩] none)
.ret))))⟩
/-- guidevane/dam.WatchOf -/
def ir36 : IFn := ⟨45, [.cell 4 3 true, .t 5],
(.seq (.ops [⟨(some 2), none, .box (.t 0)⟩,
⟨(some 4), none, .alloc [(.int .i64 0), (.int .i64 0), (.int .i64 0)]⟩,
⟨(some 5), none, .mov (.c (.int .i64 0))⟩] (some [1, 2, 4]))
(.seq (.ops [⟨(some 13), none, .load 4 true (.t 2)⟩,
⟨(some 14), none, .call 79 [(.t 13)]⟩,
⟨(some 12), none, .mov (.t 14)⟩,
⟨(some 15), none, .extract 0 (.t 12)⟩,
⟨(some 16), none, .extract 1 (.t 12)⟩,
⟨(some 6), none, .alloc [(.slice none 0 0), (.slice none 0 0), (.int .i64 0), (.slice none 0 0)]⟩,
⟨none, none, .store 4 (.t 6) (.t 15)⟩,
⟨(some 7), none, .mov (.t 16)⟩] (some [1, 4, 6, 7]))
(.seq (.ops [⟨(some 17), none, .mov (.t 1)⟩,
⟨(some 18), none, .call 80 [(.t 17), (.f 81)]⟩,
⟨(some 8), none, .mov (.t 18)⟩] (some [1, 4, 6, 7, 8]))
(.seq (.seq (.ops [⟨(some 19), none, .mov (.t 7)⟩,
⟨(some 20), none, .mov (.t 1)⟩,
⟨(some 21), none, .lenV (.t 20)⟩,
⟨(some 22), none, .ibin .leq .i64 (.t 21) (.c (.int .i64 100))⟩,
⟨(some 23), none, .call 64 [(.t 22), (.c (.int .i64 8))]⟩,
⟨(some 24), none, .mov (.t 8)⟩,
⟨(some 25), none, .un .not (.t 24)⟩,
⟨(some 26), none, .call 64 [(.t 25), (.c (.int .i64 2))]⟩,
⟨(some 27), none, .bslice 3 1 [(.int .i64 0)] [(0, 1, (.t 19)), (1, 1, (.t 23)), (2, 1, (.t 26))]⟩,
⟨(some 28), none, .call 63 [(.t 27)]⟩,
⟨(some 7), none, .mov (.t 28)⟩] (some [1, 4, 6, 7]))
(.seq (.ops [⟨(some 29), none, .mov (.t 7)⟩,
⟨(some 30), none, .ibin .neq .i64 (.t 29) (.c (.int .i64 0))⟩] (some [1, 4, 6, 7, 30]))
(.cond (.t 30)
(.seq (.ops [⟨(some 31), none, .build [(.int .i64 0), (.int .i64 0), (.int .i64 0)] []⟩,
⟨(some 32), none, .mov (.t 7)⟩,
⟨none, none, .store 3 (.t 4) (.t 31)⟩,
⟨(some 5), none, .mov (.t 32)⟩] (some [4, 5]))
.ret)
.skip)))
(.seq (.ops [⟨(some 9), none, .alloc [(.int .i64 0), (.int .i64 0), (.int .i64 0)]⟩] none)
(.seq (.seq (.ops [⟨(some 33), none, .mov (.t 1)⟩,
⟨(some 34), none, .lenV (.t 33)⟩,
⟨(some 35), none, .mov (.c (.int .i64 0))⟩] (some [4, 6, 9, 33, 34, 35]))
(.block 0 (.loop (.seq (.ops [⟨(some 36), none, .ibin .lss .i64 (.t 35) (.t 34)⟩] none)
(.seq (.cond (.t 36)
.skip
(.exit 0))
(.seq (.block 1 (.seq (.ops [⟨(some 37), none, .iaddr 1 (.t 33) (.t 35)⟩,
⟨(some 38), none, .load 1 false (.t 37)⟩,
⟨(some 11), none, .mov (.t 38)⟩] (some [4, 6, 9, 11, 33, 34, 35]))
(.ops [⟨(some 39), none, .load 4 true (.t 6)⟩,
⟨(some 40), none, .load 3 true (.t 9)⟩,
⟨(some 41), none, .mov (.t 11)⟩,
⟨(some 42), none, .call 83 [(.t 39), (.t 40), (.t 41)]⟩,
⟨none, none, .store 3 (.t 9) (.t 42)⟩] (some [4, 6, 9, 33, 34, 35]))))
(.ops [⟨(some 43), none, .ibin .add .i64 (.t 35) (.c (.int .i64 1))⟩,
⟨(some 35), none, .mov (.t 43)⟩] (some [4, 6, 9, 33, 34, 35]))))))))
(.seq (.ops [⟨(some 44), none, .load 3 true (.t 9)⟩,
⟨none, none, .store 3 (.t 4) (.t 44)⟩,
⟨(some 5), none, .mov (.c (.int .i64 0))⟩] (some [4, 5]))
.ret)))))))⟩
/-- guidevane/guidevaneref09.CopyRules -/
def ir37 : IFn := ⟨16, [.cell 2 4 true],
(.seq (.ops [⟨(some 1), none, .box (.t 0)⟩,
⟨(some 2), none, .alloc [(.slice none 0 0), (.slice none 0 0), (.int .i64 0), (.slice none 0 0)]⟩] (some [1, 2]))
(.seq (.draw (.rd 0 ⟨(some 3), none, .faddr 0 (.t 1)⟩
(.rd 1 ⟨(some 4), none, .load 1 false (.t 3)⟩
(.rd 3 ⟨(some 6), none, .faddr 1 (.t 1)⟩
(.rd 4 ⟨(some 7), none, .load 1 false (.t 6)⟩
(.rd 6 ⟨(some 9), none, .faddr 2 (.t 1)⟩
(.rd 7 ⟨(some 10), none, .load 1 false (.t 9)⟩
(.rd 9 ⟨(some 12), none, .faddr 3 (.t 1)⟩
(.rd 10 ⟨(some 13), none, .load 1 false (.t 12)⟩
(.wr 2 ⟨(some 5), none, .call 38 [(.t 4)]⟩ [1]
(.wr 5 ⟨(some 8), none, .call 38 [(.t 7)]⟩ [4, 2]
(.wr 8 ⟨(some 11), none, .bslice 0 2 [(.string ⟨#[]⟩), (.int .i64 0)] []⟩ []
(.wr 11 ⟨(some 14), none, .append 2 24 (.t 11) (.t 13)⟩ [8, 10, 5]
(.rd 12 ⟨(some 15), none, .build [(.slice none 0 0), (.slice none 0 0), (.int .i64 0), (.slice none 0 0)] [(0, 1, (.t 5)), (1, 1, (.t 8)), (2, 1, (.t 10)), (3, 1, (.t 14))]⟩
(.wr 13 ⟨none, none, .store 4 (.t 2) (.t 15)⟩ [12, 11, 0, 1, 2, 3, 4, 5, 6, 7, 8, 9, 10, 11, 12]
.fin .no)) .no) .no)
(.wr 8 ⟨(some 11), none, .bslice 0 2 [(.string ⟨#[]⟩), (.int .i64 0)] []⟩ []
(.wr 5 ⟨(some 8), none, .call 38 [(.t 7)]⟩ [4, 2]
(.wr 11 ⟨(some 14), none, .append 2 24 (.t 11) (.t 13)⟩ [8, 10, 5]
(.rd 12 ⟨(some 15), none, .build [(.slice none 0 0), (.slice none 0 0), (.int .i64 0), (.slice none 0 0)] [(0, 1, (.t 5)), (1, 1, (.t 8)), (2, 1, (.t 10)), (3, 1, (.t 14))]⟩
(.wr 13 ⟨none, none, .store 4 (.t 2) (.t 15)⟩ [12, 11, 0, 1, 2, 3, 4, 5, 6, 7, 8, 9, 10, 11, 12]
.fin .no)) .no) .no) .no))
(.wr 8 ⟨(some 11), none, .bslice 0 2 [(.string ⟨#[]⟩), (.int .i64 0)] []⟩ []
(.wr 2 ⟨(some 5), none, .call 38 [(.t 4)]⟩ [1]
(.wr 5 ⟨(some 8), none, .call 38 [(.t 7)]⟩ [4, 2]
(.wr 11 ⟨(some 14), none, .append 2 24 (.t 11) (.t 13)⟩ [8, 10, 5]
(.rd 12 ⟨(some 15), none, .build [(.slice none 0 0), (.slice none 0 0), (.int .i64 0), (.slice none 0 0)] [(0, 1, (.t 5)), (1, 1, (.t 8)), (2, 1, (.t 10)), (3, 1, (.t 14))]⟩
(.wr 13 ⟨none, none, .store 4 (.t 2) (.t 15)⟩ [12, 11, 0, 1, 2, 3, 4, 5, 6, 7, 8, 9, 10, 11, 12]
.fin .no)) .no) .no) .no) .no)))))))))) (some [2]))
.ret))⟩
/-- guidevane/guidevanebase.CopyInts -/
def ir38 : IFn := ⟨6, [.t 2],
(.seq (.ops [⟨(some 2), none, .mov (.c (.slice none 0 0))⟩] (some [0]))
(.seq (.ops [⟨(some 3), none, .bslice 0 1 [(.int .i64 0)] []⟩,
⟨(some 4), none, .mov (.t 0)⟩,
⟨(some 5), none, .append 1 8 (.t 3) (.t 4)⟩,
⟨(some 2), none, .mov (.t 5)⟩] (some [2]))
.ret))⟩
/-- guidevane/guidevaneref09.RulesErr -/
def ir39 : IFn := ⟨11, [.t 2],
(.seq (.ops [⟨(some 1), none, .box (.t 0)⟩,
⟨(some 2), none, .mov (.c (.int .i64 0))⟩] (some [1]))
(.seq (.ops [⟨(some 6), none, .load 4 true (.t 1)⟩,
⟨(some 7), none, .call 46 [(.t 6)]⟩,
⟨(some 5), none, .mov (.t 7)⟩,
⟨(some 8), none, .extract 0 (.t 5)⟩,
⟨(some 9), none, .extract 1 (.t 5)⟩,
⟨(some 3), none, .mov (.t 8)⟩,
⟨(some 4), none, .mov (.t 9)⟩] (some [4]))
(.seq (.ops [⟨(some 10), none, .mov (.t 4)⟩,
⟨(some 2), none, .mov (.t 10)⟩] (some [2]))
.ret)))⟩
/-- guidevane/dam.CheckRules -/
def ir43 : IFn := ⟨142, [.t 2, .t 3],
(.seq (.ops [⟨(some 1), none, .box (.t 0)⟩,
⟨(some 2), none, .mov (.c (.int .i64 0))⟩,
⟨(some 3), none, .mov (.c (.int .i64 0))⟩] (some [1]))
(.seq (.ops [⟨(some 17), none, .faddr 0 (.t 1)⟩,
⟨(some 18), none, .load 1 false (.t 17)⟩,
⟨(some 19), none, .lenV (.t 18)⟩,
⟨(some 4), none, .mov (.t 19)⟩] (some [1, 4]))
(.seq (.seq (.ops [⟨(some 20), none, .mov (.t 4)⟩,
⟨(some 21), none, .ibin .gtr .i64 (.t 20) (.c (.int .i64 0))⟩,
⟨(some 22), none, .mov (.t 21)⟩,
⟨(some 23), (some (22, true)), .faddr 1 (.t 1)⟩,
⟨(some 24), (some (22, true)), .load 1 false (.t 23)⟩,
⟨(some 25), (some (22, true)), .lenV (.t 24)⟩,
⟨(some 26), (some (22, true)), .mov (.t 4)⟩,
⟨(some 27), (some (22, true)), .ibin .eql .i64 (.t 25) (.t 26)⟩,
⟨(some 28), none, .pick (.t 22) (.t 27) (.c (.bool false))⟩,
⟨(some 29), none, .call 64 [(.t 28), (.c (.int .i64 10))]⟩,
⟨(some 30), none, .mov (.t 4)⟩,
⟨(some 31), none, .ibin .leq .i64 (.t 30) (.c (.int .i64 5))⟩,
⟨(some 32), none, .call 64 [(.t 31), (.c (.int .i64 8))]⟩,
⟨(some 33), none, .bslice 2 1 [(.int .i64 0)] [(0, 1, (.t 29)), (1, 1, (.t 32))]⟩,
⟨(some 34), none, .call 63 [(.t 33)]⟩,
⟨(some 5), none, .mov (.t 34)⟩] (some [1, 4, 5]))
(.seq (.ops [⟨(some 35), none, .mov (.t 5)⟩,
⟨(some 36), none, .ibin .neq .i64 (.t 35) (.c (.int .i64 0))⟩] (some [1, 4, 5, 36]))
(.cond (.t 36)
(.seq (.ops [⟨(some 37), none, .mov (.t 5)⟩,
⟨(some 2), none, .mov (.c (.int .i64 0))⟩,
⟨(some 3), none, .mov (.t 37)⟩] (some [2, 3]))
.ret)
.skip)))
(.seq (.ops [⟨(some 6), none, .mov (.f 85)⟩] none)
(.seq (.seq (.ops [⟨(some 38), none, .faddr 0 (.t 1)⟩,
⟨(some 39), none, .load 1 false (.t 38)⟩,
⟨(some 40), none, .lenV (.t 39)⟩,
⟨(some 41), none, .mov (.c (.int .i64 0))⟩] (some [1, 4, 6, 39, 40, 41]))
(.block 0 (.loop (.seq (.ops [⟨(some 42), none, .ibin .lss .i64 (.t 41) (.t 40)⟩] none)
(.seq (.cond (.t 42)
.skip
(.exit 0))
(.seq (.block 1 (.seq (.ops [⟨(some 43), none, .mov (.t 41)⟩,
⟨(some 44), none, .iaddr 1 (.t 39) (.t 41)⟩,
⟨(some 45), none, .load 1 false (.t 44)⟩,
⟨(some 7), none, .mov (.t 43)⟩,
⟨(some 8), none, .mov (.t 45)⟩] (some [1, 4, 6, 7, 8, 39, 40, 41]))
(.seq (.ops [⟨(some 46), none, .faddr 1 (.t 1)⟩,
⟨(some 47), none, .load 1 false (.t 46)⟩,
⟨(some 48), none, .mov (.t 7)⟩,
⟨(some 49), none, .iaddr 1 (.t 47) (.t 48)⟩,
⟨(some 50), none, .load 1 false (.t 49)⟩,
⟨(some 51), none, .mov (.t 7)⟩,
⟨(some 52), none, .ibin .sub .i64 (.t 51) (.c (.int .i64 1))⟩,
⟨(some 53), none, .minmax true (.c (.int .i64 0)) [(.t 52)]⟩,
⟨(some 9), none, .mov (.t 50)⟩,
⟨(some 10), none, .mov (.t 53)⟩] (some [1, 4, 6, 7, 8, 9, 10, 39, 40, 41]))
(.seq (.ops [⟨(some 54), none, .mov (.t 6)⟩,
⟨(some 55), none, .mov (.t 8)⟩,
⟨(some 56), none, .callv (.t 54) [(.t 55)]⟩,
⟨(some 57), none, .mov (.t 56)⟩,
⟨(some 58), (some (57, true)), .mov (.t 6)⟩,
⟨(some 59), (some (57, true)), .mov (.t 9)⟩,
⟨(some 60), (some (57, true)), .callv (.t 58) [(.t 59)]⟩,
⟨(some 61), none, .pick (.t 57) (.t 60) (.c (.bool false))⟩,
⟨(some 62), none, .call 64 [(.t 61), (.c (.int .i64 2))]⟩,
⟨(some 63), none, .mov (.t 9)⟩,
⟨(some 64), none, .mov (.t 8)⟩,
⟨(some 65), none, .ibin .leq .i64 (.t 63) (.t 64)⟩,
⟨(some 66), none, .call 64 [(.t 65), (.c (.int .i64 3))]⟩,
⟨(some 67), none, .mov (.t 7)⟩,
⟨(some 68), none, .ibin .eql .i64 (.t 67) (.c (.int .i64 0))⟩,
⟨(some 69), none, .mov (.t 68)⟩,
⟨(some 70), (some (69, false)), .mov (.t 8)⟩,
⟨(some 71), (some (69, false)), .faddr 0 (.t 1)⟩,
⟨(some 72), (some (69, false)), .load 1 false (.t 71)⟩,
⟨(some 73), (some (69, false)), .mov (.t 10)⟩,
⟨(some 74), (some (69, false)), .iaddr 1 (.t 72) (.t 73)⟩,
⟨(some 75), (some (69, false)), .load 1 false (.t 74)⟩,
⟨(some 76), (some (69, false)), .ibin .gtr .i64 (.t 70) (.t 75)⟩,
⟨(some 77), (some (69, false)), .mov (.t 76)⟩,
⟨(some 78), (some (77, true)), .mov (.t 9)⟩,
⟨(some 79), (some (77, true)), .faddr 1 (.t 1)⟩,
⟨(some 80), (some (77, true)), .load 1 false (.t 79)⟩,
⟨(some 81), (some (77, true)), .mov (.t 10)⟩,
⟨(some 82), (some (77, true)), .iaddr 1 (.t 80) (.t 81)⟩,
⟨(some 83), (some (77, true)), .load 1 false (.t 82)⟩,
⟨(some 84), (some (77, true)), .ibin .geq .i64 (.t 78) (.t 83)⟩,
⟨(some 85), (some (69, false)), .pick (.t 77) (.t 84) (.c (.bool false))⟩,
⟨(some 86), none, .pick (.t 69) (.c (.bool true)) (.t 85)⟩,
⟨(some 87), none, .call 64 [(.t 86), (.c (.int .i64 9))]⟩,
⟨(some 88), none, .bslice 3 1 [(.int .i64 0)] [(0, 1, (.t 62)), (1, 1, (.t 66)), (2, 1, (.t 87))]⟩,
⟨(some 89), none, .call 63 [(.t 88)]⟩,
⟨(some 11), none, .mov (.t 89)⟩] (some [1, 4, 6, 7, 11, 39, 40, 41]))
(.seq (.ops [⟨(some 90), none, .mov (.t 11)⟩,
⟨(some 91), none, .ibin .neq .i64 (.t 90) (.c (.int .i64 0))⟩] (some [1, 4, 6, 7, 11, 39, 40, 41, 91]))
(.cond (.t 91)
(.seq (.ops [⟨(some 92), none, .mov (.t 7)⟩,
⟨(some 93), none, .mov (.t 11)⟩,
⟨(some 2), none, .mov (.t 92)⟩,
⟨(some 3), none, .mov (.t 93)⟩] (some [2, 3]))
.ret)
.skip))))))
(.ops [⟨(some 94), none, .ibin .add .i64 (.t 41) (.c (.int .i64 1))⟩,
⟨(some 41), none, .mov (.t 94)⟩] (some [1, 4, 6, 39, 40, 41]))))))))
(.seq (.seq (.draw (.rd 0 ⟨(some 95), none, .faddr 2 (.t 1)⟩
(.rd 1 ⟨(some 96), none, .load 1 false (.t 95)⟩
(.rd 4 ⟨(some 99), none, .faddr 3 (.t 1)⟩
(.rd 5 ⟨(some 100), none, .load 1 false (.t 99)⟩
(.rd 6 ⟨(some 101), none, .lenV (.t 100)⟩
(.rd 7 ⟨(some 102), none, .ibin .leq .i64 (.t 101) (.c (.int .i64 10))⟩
(.wr 2 ⟨(some 97), none, .call 65 [(.t 96), (.c (.int .i64 0)), (.c (.int .i64 1000000))]⟩ [1]
(.wr 3 ⟨(some 98), none, .call 64 [(.t 97), (.c (.int .i64 2))]⟩ [2, 2]
(.wr 8 ⟨(some 103), none, .call 64 [(.t 102), (.c (.int .i64 8))]⟩ [7, 3]
(.wr 9 ⟨(some 104), none, .bslice 2 1 [(.int .i64 0)] [(0, 1, (.t 98)), (1, 1, (.t 103))]⟩ [3, 8]
(.wr 10 ⟨(some 105), none, .call 63 [(.t 104)]⟩ [9, 8]
(.rd 11 ⟨(some 12), none, .mov (.t 105)⟩
.fin) .no) .no) .no) .no) .no))))))) (some [1, 4, 12]))
(.seq (.ops [⟨(some 106), none, .mov (.t 12)⟩,
⟨(some 107), none, .ibin .neq .i64 (.t 106) (.c (.int .i64 0))⟩] (some [1, 4, 12, 107]))
(.cond (.t 107)
(.seq (.ops [⟨(some 108), none, .mov (.t 12)⟩,
⟨(some 2), none, .mov (.c (.int .i64 0))⟩,
⟨(some 3), none, .mov (.t 108)⟩] (some [2, 3]))
.ret)
.skip)))
(.seq (.seq (.ops [⟨(some 109), none, .faddr 3 (.t 1)⟩,
⟨(some 110), none, .load 1 false (.t 109)⟩,
⟨(some 111), none, .lenV (.t 110)⟩,
⟨(some 112), none, .mov (.c (.int .i64 0))⟩] (some [1, 4, 110, 111, 112]))
(.block 2 (.loop (.seq (.ops [⟨(some 113), none, .ibin .lss .i64 (.t 112) (.t 111)⟩] none)
(.seq (.cond (.t 113)
.skip
(.exit 2))
(.seq (.block 3 (.seq (.ops [⟨(some 114), none, .mov (.t 112)⟩,
⟨(some 115), none, .iaddr 2 (.t 110) (.t 112)⟩,
⟨(some 116), none, .load 2 true (.t 115)⟩,
⟨(some 14), none, .alloc [(.string ⟨#[]⟩), (.int .i64 0)]⟩,
⟨(some 13), none, .mov (.t 114)⟩,
⟨none, none, .store 2 (.t 14) (.t 116)⟩] (some [1, 4, 13, 14, 110, 111, 112]))
(.seq (.ops [⟨(some 117), none, .faddr 3 (.t 1)⟩,
⟨(some 118), none, .load 1 false (.t 117)⟩,
⟨(some 119), none, .mov (.t 13)⟩,
⟨(some 120), none, .sliceV 2 (.t 118) none (some (.t 119)) none⟩,
⟨(some 121), none, .mkfunc 87 [] [(.t 14)]⟩,
⟨(some 122), none, .call 86 [(.t 120), (.t 121)]⟩,
⟨(some 15), none, .mov (.t 122)⟩] (some [1, 4, 13, 14, 15, 110, 111, 112]))
(.seq (.draw (.rd 0 ⟨(some 123), none, .faddr 0 (.t 14)⟩
(.rd 1 ⟨(some 124), none, .load 1 false (.t 123)⟩
(.rd 4 ⟨(some 127), none, .mov (.t 15)⟩
(.rd 5 ⟨(some 128), none, .un .not (.t 127)⟩
(.rd 7 ⟨(some 130), none, .faddr 1 (.t 14)⟩
(.rd 8 ⟨(some 131), none, .load 1 false (.t 130)⟩
(.rd 9 ⟨(some 132), none, .mov (.t 4)⟩
(.wr 2 ⟨(some 125), none, .call 88 [(.t 124)]⟩ [1]
(.wr 3 ⟨(some 126), none, .call 64 [(.t 125), (.c (.int .i64 4))]⟩ [2, 2]
(.wr 6 ⟨(some 129), none, .call 64 [(.t 128), (.c (.int .i64 5))]⟩ [5, 3]
(.wr 10 ⟨(some 133), none, .call 65 [(.t 131), (.c (.int .i64 1)), (.t 132)]⟩ [8, 9, 6]
(.wr 11 ⟨(some 134), none, .call 64 [(.t 133), (.c (.int .i64 2))]⟩ [10, 10]
(.wr 12 ⟨(some 135), none, .bslice 3 1 [(.int .i64 0)] [(0, 1, (.t 126)), (1, 1, (.t 129)), (2, 1, (.t 134))]⟩ [3, 6, 11]
(.wr 13 ⟨(some 136), none, .call 63 [(.t 135)]⟩ [12, 11]
(.rd 14 ⟨(some 16), none, .mov (.t 136)⟩
.fin) .no) .no) .no) .no) .no) .no) .no)))))))) (some [1, 4, 13, 16, 110, 111, 112]))
(.seq (.ops [⟨(some 137), none, .mov (.t 16)⟩,
⟨(some 138), none, .ibin .neq .i64 (.t 137) (.c (.int .i64 0))⟩] (some [1, 4, 13, 16, 110, 111, 112, 138]))
(.cond (.t 138)
(.seq (.ops [⟨(some 139), none, .mov (.t 13)⟩,
⟨(some 140), none, .mov (.t 16)⟩,
⟨(some 2), none, .mov (.t 139)⟩,
⟨(some 3), none, .mov (.t 140)⟩] (some [2, 3]))
.ret)
.skip))))))
(.ops [⟨(some 141), none, .ibin .add .i64 (.t 112) (.c (.int .i64 1))⟩,
⟨(some 112), none, .mov (.t 141)⟩] (some [1, 4, 110, 111, 112]))))))))
(.seq (.ops [⟨(some 2), none, .mov (.c (.int .i64 0))⟩,
⟨(some 3), none, .mov (.c (.int .i64 0))⟩] none)
.ret))))))))⟩
/-- guidevane/guidevaneref09.CheckRules -/
def ir46 : IFn := ⟨139, [.t 2, .t 3],
(.seq (.ops [⟨(some 1), none, .box (.t 0)⟩,
⟨(some 2), none, .mov (.c (.int .i64 0))⟩,
⟨(some 3), none, .mov (.c (.int .i64 0))⟩] (some [1]))
(.seq (.seq (.ops [⟨(some 6), none, .faddr 0 (.t 1)⟩,
⟨(some 7), none, .load 1 false (.t 6)⟩,
⟨(some 8), none, .lenV (.t 7)⟩,
⟨(some 9), none, .ibin .eql .i64 (.t 8) (.c (.int .i64 0))⟩,
⟨(some 10), none, .mov (.t 9)⟩,
⟨(some 11), (some (10, false)), .faddr 1 (.t 1)⟩,
⟨(some 12), (some (10, false)), .load 1 false (.t 11)⟩,
⟨(some 13), (some (10, false)), .lenV (.t 12)⟩,
⟨(some 14), (some (10, false)), .faddr 0 (.t 1)⟩,
⟨(some 15), (some (10, false)), .load 1 false (.t 14)⟩,
⟨(some 16), (some (10, false)), .lenV (.t 15)⟩,
⟨(some 17), (some (10, false)), .ibin .neq .i64 (.t 13) (.t 16)⟩,
⟨(some 18), none, .pick (.t 10) (.c (.bool true)) (.t 17)⟩] (some [1, 18]))
(.cond (.t 18)
(.seq (.ops [⟨(some 2), none, .mov (.c (.int .i64 0))⟩,
⟨(some 3), none, .mov (.c (.int .i64 10))⟩] none)
.ret)
.skip))
(.seq (.seq (.ops [⟨(some 19), none, .faddr 0 (.t 1)⟩,
⟨(some 20), none, .load 1 false (.t 19)⟩,
⟨(some 21), none, .lenV (.t 20)⟩,
⟨(some 22), none, .ibin .gtr .i64 (.t 21) (.c (.int .i64 5))⟩] (some [1, 22]))
(.cond (.t 22)
(.seq (.ops [⟨(some 2), none, .mov (.c (.int .i64 0))⟩,
⟨(some 3), none, .mov (.c (.int .i64 8))⟩] none)
.ret)
.skip))
(.seq (.seq (.ops [⟨(some 4), none, .mov (.c (.int .i64 0))⟩] none)
(.block 0 (.loop (.seq (.seq (.ops [⟨(some 23), none, .mov (.t 4)⟩,
⟨(some 24), none, .faddr 0 (.t 1)⟩,
⟨(some 25), none, .load 1 false (.t 24)⟩,
⟨(some 26), none, .lenV (.t 25)⟩,
⟨(some 27), none, .ibin .lss .i64 (.t 23) (.t 26)⟩] (some [1, 4, 27]))
(.cond (.t 27)
.skip
(.exit 0)))
(.seq (.block 1 (.seq (.seq (.ops [⟨(some 30), none, .faddr 0 (.t 1)⟩,
⟨(some 31), none, .load 1 false (.t 30)⟩,
⟨(some 32), none, .mov (.t 4)⟩,
⟨(some 33), none, .iaddr 1 (.t 31) (.t 32)⟩,
⟨(some 34), none, .load 1 false (.t 33)⟩,
⟨(some 35), none, .call 15 [(.t 34), (.c (.int .i64 1)), (.c (.int .i64 1000000))]⟩,
⟨(some 36), none, .un .not (.t 35)⟩,
⟨(some 37), none, .mov (.t 36)⟩,
⟨(some 38), (some (37, false)), .faddr 1 (.t 1)⟩,
⟨(some 39), (some (37, false)), .load 1 false (.t 38)⟩,
⟨(some 40), (some (37, false)), .mov (.t 4)⟩,
⟨(some 41), (some (37, false)), .iaddr 1 (.t 39) (.t 40)⟩,
⟨(some 42), (some (37, false)), .load 1 false (.t 41)⟩,
⟨(some 43), (some (37, false)), .call 15 [(.t 42), (.c (.int .i64 1)), (.c (.int .i64 1000000))]⟩,
⟨(some 44), (some (37, false)), .un .not (.t 43)⟩,
⟨(some 45), none, .pick (.t 37) (.c (.bool true)) (.t 44)⟩] (some [1, 4, 45]))
(.cond (.t 45)
(.seq (.ops [⟨(some 46), none, .mov (.t 4)⟩,
⟨(some 2), none, .mov (.t 46)⟩,
⟨(some 3), none, .mov (.c (.int .i64 2))⟩] (some [2, 3]))
.ret)
.skip))
(.seq (.seq (.draw (.rd 0 ⟨(some 47), none, .faddr 1 (.t 1)⟩
(.rd 1 ⟨(some 48), none, .load 1 false (.t 47)⟩
(.rd 2 ⟨(some 49), none, .mov (.t 4)⟩
(.rd 3 ⟨(some 50), none, .iaddr 1 (.t 48) (.t 49)⟩
(.rd 4 ⟨(some 51), none, .load 1 false (.t 50)⟩
(.rd 5 ⟨(some 52), none, .faddr 0 (.t 1)⟩
(.rd 6 ⟨(some 53), none, .load 1 false (.t 52)⟩
(.rd 7 ⟨(some 54), none, .mov (.t 4)⟩
(.rd 8 ⟨(some 55), none, .iaddr 1 (.t 53) (.t 54)⟩
(.rd 9 ⟨(some 56), none, .load 1 false (.t 55)⟩
(.rd 10 ⟨(some 57), none, .ibin .gtr .i64 (.t 51) (.t 56)⟩
.fin))))))))))) (some [1, 4, 57]))
(.cond (.t 57)
(.seq (.ops [⟨(some 58), none, .mov (.t 4)⟩,
⟨(some 2), none, .mov (.t 58)⟩,
⟨(some 3), none, .mov (.c (.int .i64 3))⟩] (some [2, 3]))
.ret)
.skip))
(.seq (.draw (.rd 0 ⟨(some 59), none, .mov (.t 4)⟩
(.rd 1 ⟨(some 60), none, .ibin .gtr .i64 (.t 59) (.c (.int .i64 0))⟩
(.rd 2 ⟨(some 61), none, .mov (.t 60)⟩
(.rd 3 ⟨(some 62), (some (61, true)), .faddr 0 (.t 1)⟩
(.rd 4 ⟨(some 63), (some (61, true)), .load 1 false (.t 62)⟩
(.rd 5 ⟨(some 64), (some (61, true)), .mov (.t 4)⟩
(.rd 6 ⟨(some 65), (some (61, true)), .iaddr 1 (.t 63) (.t 64)⟩
(.rd 7 ⟨(some 66), (some (61, true)), .load 1 false (.t 65)⟩
(.rd 8 ⟨(some 67), (some (61, true)), .faddr 0 (.t 1)⟩
(.rd 9 ⟨(some 68), (some (61, true)), .load 1 false (.t 67)⟩
(.rd 10 ⟨(some 69), (some (61, true)), .mov (.t 4)⟩
(.rd 11 ⟨(some 70), (some (61, true)), .ibin .sub .i64 (.t 69) (.c (.int .i64 1))⟩
(.rd 12 ⟨(some 71), (some (61, true)), .iaddr 1 (.t 68) (.t 70)⟩
(.rd 13 ⟨(some 72), (some (61, true)), .load 1 false (.t 71)⟩
(.rd 14 ⟨(some 73), (some (61, true)), .ibin .leq .i64 (.t 66) (.t 72)⟩
(.rd 15 ⟨(some 74), (some (61, true)), .mov (.t 73)⟩
(.rd 16 ⟨(some 75), (some (74, false)), .faddr 1 (.t 1)⟩
(.rd 17 ⟨(some 76), (some (74, false)), .load 1 false (.t 75)⟩
(.rd 18 ⟨(some 77), (some (74, false)), .mov (.t 4)⟩
(.rd 19 ⟨(some 78), (some (74, false)), .iaddr 1 (.t 76) (.t 77)⟩
(.rd 20 ⟨(some 79), (some (74, false)), .load 1 false (.t 78)⟩
(.rd 21 ⟨(some 80), (some (74, false)), .faddr 1 (.t 1)⟩
(.rd 22 ⟨(some 81), (some (74, false)), .load 1 false (.t 80)⟩
(.rd 23 ⟨(some 82), (some (74, false)), .mov (.t 4)⟩
(.rd 24 ⟨(some 83), (some (74, false)), .ibin .sub .i64 (.t 82) (.c (.int .i64 1))⟩
(.rd 25 ⟨(some 84), (some (74, false)), .iaddr 1 (.t 81) (.t 83)⟩
(.rd 26 ⟨(some 85), (some (74, false)), .load 1 false (.t 84)⟩
(.rd 27 ⟨(some 86), (some (74, false)), .ibin .lss .i64 (.t 79) (.t 85)⟩
(.rd 28 ⟨(some 87), (some (61, true)), .pick (.t 74) (.c (.bool true)) (.t 86)⟩
(.rd 29 ⟨(some 88), none, .pick (.t 61) (.t 87) (.c (.bool false))⟩
.fin)))))))))))))))))))))))))))))) (some [1, 4, 88]))
(.cond (.t 88)
(.seq (.ops [⟨(some 89), none, .mov (.t 4)⟩,
⟨(some 2), none, .mov (.t 89)⟩,
⟨(some 3), none, .mov (.c (.int .i64 9))⟩] (some [2, 3]))
.ret)
.skip)))))
(.ops [⟨(some 28), none, .mov (.t 4)⟩,
⟨(some 29), none, .ibin .add .i64 (.t 28) (.c (.int .i64 1))⟩,
⟨(some 4), none, .mov (.t 29)⟩] (some [1, 4])))))))
(.seq (.seq (.ops [⟨(some 90), none, .faddr 2 (.t 1)⟩,
⟨(some 91), none, .load 1 false (.t 90)⟩,
⟨(some 92), none, .call 15 [(.t 91), (.c (.int .i64 0)), (.c (.int .i64 1000000))]⟩,
⟨(some 93), none, .un .not (.t 92)⟩] (some [1, 93]))
(.cond (.t 93)
(.seq (.ops [⟨(some 2), none, .mov (.c (.int .i64 0))⟩,
⟨(some 3), none, .mov (.c (.int .i64 2))⟩] none)
.ret)
.skip))
(.seq (.seq (.ops [⟨(some 94), none, .faddr 3 (.t 1)⟩,
⟨(some 95), none, .load 1 false (.t 94)⟩,
⟨(some 96), none, .lenV (.t 95)⟩,
⟨(some 97), none, .ibin .gtr .i64 (.t 96) (.c (.int .i64 10))⟩] (some [1, 97]))
(.cond (.t 97)
(.seq (.ops [⟨(some 2), none, .mov (.c (.int .i64 0))⟩,
⟨(some 3), none, .mov (.c (.int .i64 8))⟩] none)
.ret)
.skip))
(.seq (.seq (.ops [⟨(some 5), none, .mov (.c (.int .i64 0))⟩] none)
(.block 2 (.loop (.seq (.seq (.ops [⟨(some 98), none, .mov (.t 5)⟩,
⟨(some 99), none, .faddr 3 (.t 1)⟩,
⟨(some 100), none, .load 1 false (.t 99)⟩,
⟨(some 101), none, .lenV (.t 100)⟩,
⟨(some 102), none, .ibin .lss .i64 (.t 98) (.t 101)⟩] (some [1, 5, 102]))
(.cond (.t 102)
.skip
(.exit 2)))
(.seq (.block 3 (.seq (.seq (.ops [⟨(some 105), none, .faddr 3 (.t 1)⟩,
⟨(some 106), none, .load 1 false (.t 105)⟩,
⟨(some 107), none, .mov (.t 5)⟩,
⟨(some 108), none, .iaddr 2 (.t 106) (.t 107)⟩,
⟨(some 109), none, .faddr 0 (.t 108)⟩,
⟨(some 110), none, .load 1 false (.t 109)⟩,
⟨(some 111), none, .call 91 [(.t 110)]⟩,
⟨(some 112), none, .un .not (.t 111)⟩] (some [1, 5, 112]))
(.cond (.t 112)
(.seq (.ops [⟨(some 113), none, .mov (.t 5)⟩,
⟨(some 2), none, .mov (.t 113)⟩,
⟨(some 3), none, .mov (.c (.int .i64 4))⟩] (some [2, 3]))
.ret)
.skip))
(.seq (.seq (.draw (.rd 0 ⟨(some 114), none, .faddr 3 (.t 1)⟩
(.rd 1 ⟨(some 115), none, .load 1 false (.t 114)⟩
(.rd 2 ⟨(some 116), none, .mov (.t 5)⟩
(.rd 3 ⟨(some 117), none, .sliceV 2 (.t 115) none (some (.t 116)) none⟩
(.rd 4 ⟨(some 118), none, .faddr 3 (.t 1)⟩
(.rd 5 ⟨(some 119), none, .load 1 false (.t 118)⟩
(.rd 6 ⟨(some 120), none, .mov (.t 5)⟩
(.rd 7 ⟨(some 121), none, .iaddr 2 (.t 119) (.t 120)⟩
(.rd 8 ⟨(some 122), none, .faddr 0 (.t 121)⟩
(.rd 9 ⟨(some 123), none, .load 1 false (.t 122)⟩
(.wr 10 ⟨(some 124), none, .call 92 [(.t 117), (.t 123)]⟩ [3, 9]
(.rd 11 ⟨(some 125), none, .ibin .geq .i64 (.t 124) (.c (.int .i64 0))⟩
.fin) .no))))))))))) (some [1, 5, 125]))
(.cond (.t 125)
(.seq (.ops [⟨(some 126), none, .mov (.t 5)⟩,
⟨(some 2), none, .mov (.t 126)⟩,
⟨(some 3), none, .mov (.c (.int .i64 5))⟩] (some [2, 3]))
.ret)
.skip))
(.seq (.draw (.rd 0 ⟨(some 127), none, .faddr 3 (.t 1)⟩
(.rd 1 ⟨(some 128), none, .load 1 false (.t 127)⟩
(.rd 2 ⟨(some 129), none, .mov (.t 5)⟩
(.rd 3 ⟨(some 130), none, .iaddr 2 (.t 128) (.t 129)⟩
(.rd 4 ⟨(some 131), none, .faddr 1 (.t 130)⟩
(.rd 5 ⟨(some 132), none, .load 1 false (.t 131)⟩
(.rd 6 ⟨(some 133), none, .faddr 0 (.t 1)⟩
(.rd 7 ⟨(some 134), none, .load 1 false (.t 133)⟩
(.rd 8 ⟨(some 135), none, .lenV (.t 134)⟩
(.wr 9 ⟨(some 136), none, .call 15 [(.t 132), (.c (.int .i64 1)), (.t 135)]⟩ [5, 8]
(.rd 10 ⟨(some 137), none, .un .not (.t 136)⟩
.fin) .no)))))))))) (some [1, 5, 137]))
(.cond (.t 137)
(.seq (.ops [⟨(some 138), none, .mov (.t 5)⟩,
⟨(some 2), none, .mov (.t 138)⟩,
⟨(some 3), none, .mov (.c (.int .i64 2))⟩] (some [2, 3]))
.ret)
.skip)))))
(.ops [⟨(some 103), none, .mov (.t 5)⟩,
⟨(some 104), none, .ibin .add .i64 (.t 103) (.c (.int .i64 1))⟩,
⟨(some 5), none, .mov (.t 104)⟩] (some [1, 5])))))))
(.seq (.ops [⟨(some 2), none, .mov (.c (.int .i64 0))⟩,
⟨(some 3), none, .mov (.c (.int .i64 0))⟩] none)
.ret))))))))⟩
/-- guidevane/dam.FitOf -/
def ir55 : IFn := ⟨174, [.cell 4 6 true, .t 5],
(.seq (.ops [⟨(some 4), none, .alloc (List.replicate 6 (.int .i64 0))⟩,
⟨(some 5), none, .mov (.c (.int .i64 0))⟩] (some [0, 1, 4]))
(.seq (.ops [⟨(some 26), none, .mov (.t 1)⟩,
⟨(some 6), none, .mov (.t 26)⟩] (some [0, 4, 6]))
(.seq (.seq (.ops [⟨(some 27), none, .mov (.t 0)⟩,
⟨(some 28), none, .call 93 [(.t 27)]⟩,
⟨(some 29), none, .mov (.t 6)⟩,
⟨(some 30), none, .call 94 [(.t 29)]⟩,
⟨(some 31), none, .bslice 2 1 [(.int .i64 0)] [(0, 1, (.t 28)), (1, 1, (.t 30))]⟩,
⟨(some 32), none, .call 63 [(.t 31)]⟩,
⟨(some 7), none, .mov (.t 32)⟩] (some [0, 4, 6, 7]))
(.seq (.ops [⟨(some 33), none, .mov (.t 7)⟩,
⟨(some 34), none, .ibin .neq .i64 (.t 33) (.c (.int .i64 0))⟩] (some [0, 4, 6, 7, 34]))
(.cond (.t 34)
(.seq (.ops [⟨(some 35), none, .build (List.replicate 6 (.int .i64 0)) []⟩,
⟨(some 36), none, .mov (.t 7)⟩,
⟨none, none, .store 6 (.t 4) (.t 35)⟩,
⟨(some 5), none, .mov (.t 36)⟩] (some [4, 5]))
.ret)
.skip)))
(.seq (.ops [⟨(some 37), none, .mov (.t 6)⟩,
⟨(some 38), none, .call 95 [(.t 37)]⟩,
⟨(some 8), none, .mov (.t 38)⟩] (some [0, 4, 8]))
(.seq (.draw (.rd 0 ⟨(some 39), none, .mov (.t 8)⟩
(.rd 1 ⟨(some 40), none, .lenV (.t 39)⟩
(.rd 3 ⟨(some 42), none, .mov (.t 8)⟩
(.rd 4 ⟨(some 43), none, .lenV (.t 42)⟩
(.wr 2 ⟨(some 41), none, .mslice 1 24 [(.slice none 0 0)] (.t 40) (.t 40)⟩ [1, 1]
(.rd 6 ⟨(some 9), none, .mov (.t 41)⟩
(.wr 5 ⟨(some 44), none, .mslice 1 8 [(.int .i64 0)] (.t 43) (.t 43)⟩ [4, 4]
(.rd 7 ⟨(some 10), none, .mov (.t 44)⟩
.fin) .no))
(.wr 5 ⟨(some 44), none, .mslice 1 8 [(.int .i64 0)] (.t 43) (.t 43)⟩ [4, 4]
(.wr 2 ⟨(some 41), none, .mslice 1 24 [(.slice none 0 0)] (.t 40) (.t 40)⟩ [1, 1]
(.rd 6 ⟨(some 9), none, .mov (.t 41)⟩
(.rd 7 ⟨(some 10), none, .mov (.t 44)⟩
.fin)) .no) .no)))))) (some [0, 4, 8, 9, 10]))
(.seq (.seq (.ops [⟨(some 45), none, .mov (.t 8)⟩,
⟨(some 46), none, .lenV (.t 45)⟩,
⟨(some 47), none, .mov (.c (.int .i64 0))⟩] none)
(.block 0 (.loop (.seq (.ops [⟨(some 48), none, .ibin .lss .i64 (.t 47) (.t 46)⟩] none)
(.seq (.cond (.t 48)
.skip
(.exit 0))
(.seq (.block 1 (.seq (.ops [⟨(some 49), none, .mov (.t 47)⟩,
⟨(some 50), none, .iaddr 1 (.t 45) (.t 47)⟩,
⟨(some 51), none, .load 1 false (.t 50)⟩,
⟨(some 11), none, .mov (.t 49)⟩,
⟨(some 12), none, .mov (.t 51)⟩] (some [0, 4, 8, 9, 10, 11, 12, 45, 46, 47]))
(.seq (.ops [⟨(some 52), none, .mov (.t 9)⟩,
⟨(some 53), none, .mov (.t 11)⟩,
⟨(some 54), none, .mov (.t 8)⟩,
⟨(some 55), none, .lenV (.t 54)⟩,
⟨(some 56), none, .mslice 1 8 [(.int .i64 0)] (.t 55) (.t 55)⟩,
⟨(some 57), none, .iaddr 1 (.t 52) (.t 53)⟩,
⟨none, none, .store 1 (.t 57) (.t 56)⟩] (some [0, 4, 8, 9, 10, 11, 12, 45, 46, 47]))
(.seq (.ops [⟨(some 58), none, .mov (.t 0)⟩,
⟨(some 59), none, .lenV (.t 58)⟩,
⟨(some 60), none, .mov (.c (.int .i64 0))⟩] none)
(.block 2 (.loop (.seq (.ops [⟨(some 61), none, .ibin .lss .i64 (.t 60) (.t 59)⟩] none)
(.seq (.cond (.t 61)
.skip
(.exit 2))
(.seq (.block 3 (.seq (.ops [⟨(some 62), none, .iaddr 3 (.t 58) (.t 60)⟩,
⟨(some 63), none, .load 3 true (.t 62)⟩,
⟨(some 14), none, .alloc [(.int .i64 0), (.int .i64 0), (.int .i64 0)]⟩,
⟨none, none, .store 3 (.t 14) (.t 63)⟩] (some [0, 4, 8, 9, 10, 11, 12, 14, 45, 46, 47, 58, 59, 60]))
(.seq (.ops [⟨(some 64), none, .load 3 true (.t 14)⟩,
⟨(some 65), none, .call 77 [(.t 64)]⟩,
⟨(some 15), none, .alloc (List.replicate 5 (.int .i64 0))⟩,
⟨none, none, .store 5 (.t 15) (.t 65)⟩] (some [0, 4, 8, 9, 10, 11, 12, 14, 15, 45, 46, 47, 58, 59, 60]))
(.seq (.draw (.rd 0 ⟨(some 66), none, .mov (.t 10)⟩
(.rd 1 ⟨(some 67), none, .mov (.t 11)⟩
(.rd 2 ⟨(some 68), none, .iaddr 1 (.t 66) (.t 67)⟩
(.rd 3 ⟨(some 69), none, .load 1 false (.t 68)⟩
(.rd 4 ⟨(some 70), none, .mov (.t 12)⟩
(.rd 5 ⟨(some 71), none, .iaddrA 5 1 (.t 15) (.t 70)⟩
(.rd 6 ⟨(some 72), none, .load 1 false (.t 71)⟩
(.rd 7 ⟨(some 73), none, .faddr 2 (.t 14)⟩
(.rd 8 ⟨(some 74), none, .load 1 false (.t 73)⟩
(.rd 9 ⟨(some 75), none, .ibin .mul .i64 (.t 72) (.t 74)⟩
(.rd 10 ⟨(some 76), none, .ibin .add .i64 (.t 69) (.t 75)⟩
(.rd 11 ⟨(some 77), none, .iaddr 1 (.t 66) (.t 67)⟩
(.wr 12 ⟨none, none, .store 1 (.t 77) (.t 76)⟩ [11, 10, 0, 1, 2, 3, 4, 5, 6, 7, 8, 9, 10]
.fin .no))))))))))))) (some [0, 4, 8, 9, 10, 11, 12, 15, 45, 46, 47, 58, 59, 60]))
(.seq (.ops [⟨(some 78), none, .mov (.t 8)⟩,
⟨(some 79), none, .lenV (.t 78)⟩,
⟨(some 80), none, .mov (.c (.int .i64 0))⟩] none)
(.block 4 (.loop (.seq (.ops [⟨(some 81), none, .ibin .lss .i64 (.t 80) (.t 79)⟩] none)
(.seq (.cond (.t 81)
.skip
(.exit 4))
(.seq (.block 5 (.seq (.ops [⟨(some 82), none, .mov (.t 80)⟩,
⟨(some 83), none, .iaddr 1 (.t 78) (.t 80)⟩,
⟨(some 84), none, .load 1 false (.t 83)⟩,
⟨(some 16), none, .mov (.t 82)⟩,
⟨(some 17), none, .mov (.t 84)⟩] (some [0, 4, 8, 9, 10, 11, 12, 15, 16, 17, 45, 46, 47, 58, 59, 60, 78, 79, 80]))
(.draw (.rd 0 ⟨(some 85), none, .mov (.t 9)⟩
(.rd 1 ⟨(some 86), none, .mov (.t 11)⟩
(.rd 2 ⟨(some 87), none, .iaddr 1 (.t 85) (.t 86)⟩
(.rd 3 ⟨(some 88), none, .load 1 false (.t 87)⟩
(.rd 4 ⟨(some 89), none, .mov (.t 16)⟩
(.rd 5 ⟨(some 90), none, .iaddr 1 (.t 88) (.t 89)⟩
(.rd 6 ⟨(some 91), none, .load 1 false (.t 90)⟩
(.rd 7 ⟨(some 92), none, .mov (.t 12)⟩
(.rd 8 ⟨(some 93), none, .iaddrA 5 1 (.t 15) (.t 92)⟩
(.rd 9 ⟨(some 94), none, .load 1 false (.t 93)⟩
(.rd 10 ⟨(some 95), none, .mov (.t 17)⟩
(.rd 11 ⟨(some 96), none, .iaddrA 5 1 (.t 15) (.t 95)⟩
(.rd 12 ⟨(some 97), none, .load 1 false (.t 96)⟩
(.rd 13 ⟨(some 98), none, .ibin .mul .i64 (.t 94) (.t 97)⟩
(.rd 14 ⟨(some 99), none, .ibin .add .i64 (.t 91) (.t 98)⟩
(.rd 15 ⟨(some 100), none, .iaddr 1 (.t 88) (.t 89)⟩
(.wr 16 ⟨none, none, .store 1 (.t 100) (.t 99)⟩ [15, 14, 0, 1, 2, 3, 4, 5, 6, 7, 8, 9, 10, 11, 12, 13, 14]
.fin .no))))))))))))))))) (some [0, 4, 8, 9, 10, 11, 12, 15, 45, 46, 47, 58, 59, 60, 78, 79, 80]))))
(.ops [⟨(some 101), none, .ibin .add .i64 (.t 80) (.c (.int .i64 1))⟩,
⟨(some 80), none, .mov (.t 101)⟩] (some [0, 4, 8, 9, 10, 11, 12, 15, 45, 46, 47, 58, 59, 60, 78, 79, 80]))))))))))))
(.ops [⟨(some 102), none, .ibin .add .i64 (.t 60) (.c (.int .i64 1))⟩,
⟨(some 60), none, .mov (.t 102)⟩] (some [0, 4, 8, 9, 10, 11, 12, 45, 46, 47, 58, 59, 60])))))))))))
(.ops [⟨(some 103), none, .ibin .add .i64 (.t 47) (.c (.int .i64 1))⟩,
⟨(some 47), none, .mov (.t 103)⟩] (some [0, 4, 8, 9, 10, 45, 46, 47]))))))))
(.seq (.ops [⟨(some 104), none, .mov (.t 9)⟩,
⟨(some 105), none, .call 96 [(.t 104)]⟩,
⟨(some 106), none, .build (List.replicate 6 (.int .i64 0)) [(0, 1, (.t 105))]⟩,
⟨(some 18), none, .alloc (List.replicate 6 (.int .i64 0))⟩,
⟨none, none, .store 6 (.t 18) (.t 106)⟩] (some [4, 8, 9, 10, 18]))
(.seq (.seq (.ops [⟨(some 107), none, .faddr 0 (.t 18)⟩,
⟨(some 108), none, .load 1 false (.t 107)⟩,
⟨(some 109), none, .ibin .eql .i64 (.t 108) (.c (.int .i64 0))⟩] (some [4, 8, 9, 10, 18, 109]))
(.cond (.t 109)
(.seq (.ops [⟨(some 110), none, .build (List.replicate 6 (.int .i64 0)) []⟩,
⟨none, none, .store 6 (.t 4) (.t 110)⟩,
⟨(some 5), none, .mov (.c (.int .i64 12))⟩] (some [4, 5]))
.ret)
.skip))
(.seq (.seq (.ops [⟨(some 111), none, .mov (.t 8)⟩,
⟨(some 112), none, .lenV (.t 111)⟩,
⟨(some 113), none, .mov (.c (.int .i64 0))⟩] (some [4, 9, 10, 18, 111, 112, 113]))
(.block 6 (.loop (.seq (.ops [⟨(some 114), none, .ibin .lss .i64 (.t 113) (.t 112)⟩] none)
(.seq (.cond (.t 114)
.skip
(.exit 6))
(.seq (.block 7 (.seq (.ops [⟨(some 115), none, .mov (.t 113)⟩,
⟨(some 116), none, .iaddr 1 (.t 111) (.t 113)⟩,
⟨(some 117), none, .load 1 false (.t 116)⟩,
⟨(some 19), none, .mov (.t 115)⟩,
⟨(some 20), none, .mov (.t 117)⟩] (some [4, 9, 10, 18, 19, 20, 111, 112, 113]))
(.seq (.ops [⟨(some 118), none, .mov (.t 9)⟩,
⟨(some 119), none, .lenV (.t 118)⟩,
⟨(some 120), none, .mslice 1 24 [(.slice none 0 0)] (.t 119) (.t 119)⟩,
⟨(some 21), none, .mov (.t 120)⟩] (some [4, 9, 10, 18, 19, 20, 21, 111, 112, 113]))
(.seq (.seq (.ops [⟨(some 121), none, .mov (.t 9)⟩,
⟨(some 122), none, .lenV (.t 121)⟩,
⟨(some 123), none, .mov (.c (.int .i64 0))⟩] none)
(.block 8 (.loop (.seq (.ops [⟨(some 124), none, .ibin .lss .i64 (.t 123) (.t 122)⟩] none)
(.seq (.cond (.t 124)
.skip
(.exit 8))
(.seq (.block 9 (.seq (.ops [⟨(some 125), none, .mov (.t 123)⟩,
⟨(some 126), none, .iaddr 1 (.t 121) (.t 123)⟩,
⟨(some 127), none, .load 1 false (.t 126)⟩,
⟨(some 22), none, .mov (.t 125)⟩,
⟨(some 23), none, .mov (.t 127)⟩] (some [4, 9, 10, 18, 19, 20, 21, 22, 23, 111, 112, 113, 121, 122, 123]))
(.seq (.ops [⟨(some 128), none, .mov (.t 21)⟩,
⟨(some 129), none, .mov (.t 22)⟩,
⟨(some 130), none, .mov (.t 23)⟩,
⟨(some 131), none, .call 73 [(.t 130)]⟩,
⟨(some 132), none, .iaddr 1 (.t 128) (.t 129)⟩,
⟨none, none, .store 1 (.t 132) (.t 131)⟩] (some [4, 9, 10, 18, 19, 20, 21, 22, 111, 112, 113, 121, 122, 123]))
(.draw (.rd 0 ⟨(some 133), none, .mov (.t 21)⟩
(.rd 1 ⟨(some 134), none, .mov (.t 22)⟩
(.rd 2 ⟨(some 135), none, .iaddr 1 (.t 133) (.t 134)⟩
(.rd 3 ⟨(some 136), none, .load 1 false (.t 135)⟩
(.rd 4 ⟨(some 137), none, .mov (.t 19)⟩
(.rd 5 ⟨(some 138), none, .mov (.t 10)⟩
(.rd 6 ⟨(some 139), none, .mov (.t 22)⟩
(.rd 7 ⟨(some 140), none, .iaddr 1 (.t 138) (.t 139)⟩
(.rd 8 ⟨(some 141), none, .load 1 false (.t 140)⟩
(.rd 9 ⟨(some 142), none, .iaddr 1 (.t 136) (.t 137)⟩
(.wr 10 ⟨none, none, .store 1 (.t 142) (.t 141)⟩ [9, 8, 0, 1, 2, 3, 4, 5, 6, 7, 8]
.fin .no))))))))))) (some [4, 9, 10, 18, 19, 20, 21, 111, 112, 113, 121, 122, 123])))))
(.ops [⟨(some 143), none, .ibin .add .i64 (.t 123) (.c (.int .i64 1))⟩,
⟨(some 123), none, .mov (.t 143)⟩] (some [4, 9, 10, 18, 19, 20, 21, 111, 112, 113, 121, 122, 123]))))))))
(.ops [⟨(some 144), none, .mov (.t 20)⟩,
⟨(some 145), none, .mov (.t 21)⟩,
⟨(some 146), none, .call 96 [(.t 145)]⟩,
⟨(some 147), none, .faddr 1 (.t 18)⟩,
⟨(some 148), none, .iaddrA 5 1 (.t 147) (.t 144)⟩,
⟨none, none, .store 1 (.t 148) (.t 146)⟩] (some [4, 9, 10, 18, 111, 112, 113]))))))
(.ops [⟨(some 149), none, .ibin .add .i64 (.t 113) (.c (.int .i64 1))⟩,
⟨(some 113), none, .mov (.t 149)⟩] (some [4, 9, 10, 18, 111, 112, 113]))))))))
(.seq (.ops [⟨(some 150), none, .load 6 true (.t 18)⟩,
⟨(some 151), none, .call 97 [(.t 150)]⟩,
⟨(some 24), none, .mov (.t 151)⟩] (some [4, 18, 24]))
(.seq (.ops [⟨(some 152), none, .faddr 0 (.t 18)⟩,
⟨(some 153), none, .load 1 false (.t 152)⟩,
⟨(some 154), none, .mov (.t 24)⟩,
⟨(some 155), none, .ibin .quo .i64 (.t 153) (.t 154)⟩,
⟨(some 156), none, .faddr 0 (.t 18)⟩,
⟨none, none, .store 1 (.t 156) (.t 155)⟩] (some [4, 18, 24]))
(.seq (.seq (.ops [⟨(some 157), none, .mov (.c (.int .i64 0))⟩] none)
(.block 10 (.loop (.seq (.ops [⟨(some 158), none, .ibin .lss .i64 (.t 157) (.c (.int .i64 5))⟩] none)
(.seq (.cond (.t 158)
.skip
(.exit 10))
(.seq (.block 11 (.seq (.ops [⟨(some 159), none, .mov (.t 157)⟩,
⟨(some 25), none, .mov (.t 159)⟩] (some [4, 18, 24, 25, 157]))
(.ops [⟨(some 160), none, .mov (.t 25)⟩,
⟨(some 161), none, .faddr 1 (.t 18)⟩,
⟨(some 162), none, .iaddrA 5 1 (.t 161) (.t 160)⟩,
⟨(some 163), none, .load 1 false (.t 162)⟩,
⟨(some 164), none, .mov (.t 24)⟩,
⟨(some 165), none, .ibin .quo .i64 (.t 163) (.t 164)⟩,
⟨(some 166), none, .faddr 1 (.t 18)⟩,
⟨(some 167), none, .iaddrA 5 1 (.t 166) (.t 160)⟩,
⟨none, none, .store 1 (.t 167) (.t 165)⟩] (some [4, 18, 24, 157]))))
(.ops [⟨(some 168), none, .ibin .add .i64 (.t 157) (.c (.int .i64 1))⟩,
⟨(some 157), none, .mov (.t 168)⟩] (some [4, 18, 24, 157]))))))))
(.seq (.seq (.ops [⟨(some 169), none, .load 6 true (.t 18)⟩,
⟨(some 170), none, .call 98 [(.t 169)]⟩,
⟨(some 171), none, .ibin .neq .i64 (.t 170) (.c (.int .i64 0))⟩] (some [4, 18, 171]))
(.cond (.t 171)
(.seq (.ops [⟨(some 172), none, .build (List.replicate 6 (.int .i64 0)) []⟩,
⟨none, none, .store 6 (.t 4) (.t 172)⟩,
⟨(some 5), none, .mov (.c (.int .i64 8))⟩] (some [4, 5]))
.ret)
.skip))
(.seq (.ops [⟨(some 173), none, .load 6 true (.t 18)⟩,
⟨none, none, .store 6 (.t 4) (.t 173)⟩,
⟨(some 5), none, .mov (.c (.int .i64 0))⟩] (some [4, 5]))
.ret))))))))))))))⟩
/-- guidevane/guidevanelaw09.Readings -/
def ir60 : IFn := ⟨5, [.t 0],
(.seq (.ops [⟨(some 0), none, .mov (.c (.slice none 0 0))⟩] (some []))
(.seq (.ops [⟨(some 1), none, .build [(.int .i64 0), (.int .i64 0), (.int .i64 0)] [(2, 1, (.c (.int .i64 100)))]⟩,
⟨(some 2), none, .build [(.int .i64 0), (.int .i64 0), (.int .i64 0)] [(1, 1, (.c (.int .i64 10))), (2, 1, (.c (.int .i64 130)))]⟩,
⟨(some 3), none, .build [(.int .i64 0), (.int .i64 0), (.int .i64 0)] [(1, 1, (.c (.int .i64 (-10)))), (2, 1, (.c (.int .i64 72)))]⟩,
⟨(some 4), none, .bslice 3 3 [(.int .i64 0), (.int .i64 0), (.int .i64 0)] [(0, 3, (.t 1)), (3, 3, (.t 2)), (6, 3, (.t 3))]⟩,
⟨(some 0), none, .mov (.t 4)⟩] (some [0]))
.ret))⟩
/-- guidevane/guidevanelaw09.Rules -/
def ir61 : IFn := ⟨7, [.cell 0 4 true],
(.seq (.ops [⟨(some 0), none, .alloc [(.slice none 0 0), (.slice none 0 0), (.int .i64 0), (.slice none 0 0)]⟩] none)
(.seq (.ops [⟨(some 1), none, .bslice 2 1 [(.int .i64 0)] [(0, 1, (.c (.int .i64 50))), (1, 1, (.c (.int .i64 100)))]⟩,
⟨(some 2), none, .bslice 2 1 [(.int .i64 0)] [(0, 1, (.c (.int .i64 30))), (1, 1, (.c (.int .i64 80)))]⟩,
⟨(some 3), none, .build [(.string ⟨#[]⟩), (.int .i64 0)] [(0, 1, (.c (.string ⟨#[97, 110, 110]⟩))), (1, 1, (.c (.int .i64 2)))]⟩,
⟨(some 4), none, .build [(.string ⟨#[]⟩), (.int .i64 0)] [(0, 1, (.c (.string ⟨#[98, 111, 98]⟩))), (1, 1, (.c (.int .i64 1)))]⟩,
⟨(some 5), none, .bslice 2 2 [(.string ⟨#[]⟩), (.int .i64 0)] [(0, 2, (.t 3)), (2, 2, (.t 4))]⟩,
⟨(some 6), none, .build [(.slice none 0 0), (.slice none 0 0), (.int .i64 0), (.slice none 0 0)] [(0, 1, (.t 1)), (1, 1, (.t 2)), (2, 1, (.c (.int .i64 2))), (3, 1, (.t 5))]⟩,
⟨none, none, .store 4 (.t 0) (.t 6)⟩] (some [0]))
.ret))⟩
/-- guidevane/guidevanelaw09.Valley -/
def ir62 : IFn := ⟨7, [.cell 0 2 true],
(.seq (.ops [⟨(some 0), none, .alloc [(.slice none 0 0), (.slice none 0 0)]⟩] none)
(.seq (.ops [⟨(some 1), none, .build [(.int .i64 0), (.int .i64 0)] [(0, 1, (.c (.int .i64 10))), (1, 1, (.c (.int .i64 10)))]⟩,
⟨(some 2), none, .build [(.int .i64 0), (.int .i64 0)] [(0, 1, (.c (.int .i64 30))), (1, 1, (.c (.int .i64 10)))]⟩,
⟨(some 3), none, .build [(.int .i64 0), (.int .i64 0)] [(0, 1, (.c (.int .i64 55))), (1, 1, (.c (.int .i64 15)))]⟩,
⟨(some 4), none, .bslice 3 2 [(.int .i64 0), (.int .i64 0)] [(0, 2, (.t 1)), (2, 2, (.t 2)), (4, 2, (.t 3))]⟩,
⟨(some 5), none, .bslice 4 1 [(.int .i64 0)] [(0, 1, (.c (.int .i64 5))), (1, 1, (.c (.int .i64 20))), (2, 1, (.c (.int .i64 40))), (3, 1, (.c (.int .i64 60)))]⟩,
⟨(some 6), none, .build [(.slice none 0 0), (.slice none 0 0)] [(0, 1, (.t 4)), (1, 1, (.t 5))]⟩,
⟨none, none, .store 2 (.t 0) (.t 6)⟩] (some [0]))
.ret))⟩
/-- guidevane/dam.first -/
def ir63 : IFn := ⟨15, [.t 2],
(.seq (.ops [⟨(some 2), none, .mov (.c (.int .i64 0))⟩] (some [0]))
(.seq (.seq (.ops [⟨(some 5), none, .mov (.t 0)⟩,
⟨(some 6), none, .lenV (.t 5)⟩,
⟨(some 7), none, .mov (.c (.int .i64 0))⟩] (some [5, 6, 7]))
(.block 0 (.loop (.seq (.ops [⟨(some 8), none, .ibin .lss .i64 (.t 7) (.t 6)⟩] none)
(.seq (.cond (.t 8)
.skip
(.exit 0))
(.seq (.block 1 (.seq (.ops [⟨(some 9), none, .iaddr 1 (.t 5) (.t 7)⟩,
⟨(some 10), none, .load 1 false (.t 9)⟩,
⟨(some 4), none, .mov (.t 10)⟩] (some [4, 5, 6, 7]))
(.seq (.ops [⟨(some 11), none, .mov (.t 4)⟩,
⟨(some 12), none, .ibin .neq .i64 (.t 11) (.c (.int .i64 0))⟩] (some [4, 5, 6, 7, 12]))
(.cond (.t 12)
(.seq (.ops [⟨(some 13), none, .mov (.t 4)⟩,
⟨(some 2), none, .mov (.t 13)⟩] (some [2]))
.ret)
.skip))))
(.ops [⟨(some 14), none, .ibin .add .i64 (.t 7) (.c (.int .i64 1))⟩,
⟨(some 7), none, .mov (.t 14)⟩] (some [5, 6, 7]))))))))
(.seq (.ops [⟨(some 2), none, .mov (.c (.int .i64 0))⟩] none)
.ret)))⟩
/-- guidevane/dam.unless -/
def ir64 : IFn := ⟨7, [.t 4],
(.seq (.ops [⟨(some 4), none, .mov (.c (.int .i64 0))⟩] (some [0, 1]))
(.seq (.seq (.ops [⟨(some 5), none, .mov (.t 0)⟩] (some [1, 5]))
(.cond (.t 5)
(.seq (.ops [⟨(some 4), none, .mov (.c (.int .i64 0))⟩] none)
.ret)
.skip))
(.seq (.ops [⟨(some 6), none, .mov (.t 1)⟩,
⟨(some 4), none, .mov (.t 6)⟩] (some [4]))
.ret)))⟩
/-- guidevane/dam.within -/
def ir65 : IFn := ⟨15, [.t 6],
(.seq (.ops [⟨(some 6), none, .mov (.c (.bool false))⟩] (some [0, 1, 2]))
(.seq (.ops [⟨(some 7), none, .mov (.t 1)⟩,
⟨(some 8), none, .mov (.t 0)⟩,
⟨(some 9), none, .ibin .leq .i64 (.t 7) (.t 8)⟩,
⟨(some 10), none, .mov (.t 9)⟩,
⟨(some 11), (some (10, true)), .mov (.t 0)⟩,
⟨(some 12), (some (10, true)), .mov (.t 2)⟩,
⟨(some 13), (some (10, true)), .ibin .leq .i64 (.t 11) (.t 12)⟩,
⟨(some 14), none, .pick (.t 10) (.t 13) (.c (.bool false))⟩,
⟨(some 6), none, .mov (.t 14)⟩] (some [6]))
.ret))⟩
/-- guidevane/dam.CheckValley$1 -/
def ir67 : IFn := ⟨5, [.t 2],
(.seq (.ops [⟨(some 2), none, .mov (.c (.bool false))⟩] (some [0]))
(.seq (.ops [⟨(some 3), none, .mov (.t 0)⟩,
⟨(some 4), none, .call 65 [(.t 3), (.c (.int .i64 0)), (.c (.int .i64 1000000))]⟩,
⟨(some 2), none, .mov (.t 4)⟩] (some [2]))
.ret))⟩
/-- slices.IndexFunc[[]guidevane/api.DamSiren,guidevane/api.DamSiren] -/
def ir68 : IFn := ⟨19, [.t 4],
(.seq (.ops [⟨(some 4), none, .mov (.c (.int .i64 0))⟩] (some [0, 1]))
(.seq (.seq (.ops [⟨(some 6), none, .mov (.t 0)⟩,
⟨(some 7), none, .lenV (.t 6)⟩,
⟨(some 8), none, .mov (.c (.int .i64 0))⟩] (some [0, 1, 7, 8]))
(.block 0 (.loop (.seq (.ops [⟨(some 9), none, .ibin .lss .i64 (.t 8) (.t 7)⟩] none)
(.seq (.cond (.t 9)
.skip
(.exit 0))
(.seq (.block 1 (.seq (.ops [⟨(some 10), none, .mov (.t 8)⟩,
⟨(some 5), none, .mov (.t 10)⟩] (some [0, 1, 5, 7, 8]))
(.seq (.ops [⟨(some 11), none, .mov (.t 1)⟩,
⟨(some 12), none, .mov (.t 0)⟩,
⟨(some 13), none, .mov (.t 5)⟩,
⟨(some 14), none, .iaddr 2 (.t 12) (.t 13)⟩,
⟨(some 15), none, .load 2 true (.t 14)⟩,
⟨(some 16), none, .callv (.t 11) [(.t 15)]⟩] (some [0, 1, 5, 7, 8, 16]))
(.cond (.t 16)
(.seq (.ops [⟨(some 17), none, .mov (.t 5)⟩,
⟨(some 4), none, .mov (.t 17)⟩] (some [4]))
.ret)
.skip))))
(.ops [⟨(some 18), none, .ibin .add .i64 (.t 8) (.c (.int .i64 1))⟩,
⟨(some 8), none, .mov (.t 18)⟩] (some [0, 1, 7, 8]))))))))
(.seq (.ops [⟨(some 4), none, .mov (.c (.int .i64 (-1)))⟩] none)
.ret)))⟩
/-- guidevane/dam.CheckValley$2 -/
def ir69 : IFn := ⟨16, [.t 3],
(.seq (.ops [⟨(some 2), none, .box (.t 0)⟩,
⟨(some 3), none, .mov (.c (.bool false))⟩] (some [1, 2]))
(.seq (.ops [⟨(some 4), none, .load 1 false (.t 1)⟩,
⟨(some 5), none, .faddr 0 (.t 2)⟩,
⟨(some 6), none, .load 1 false (.t 5)⟩,
⟨(some 7), none, .callv (.t 4) [(.t 6)]⟩,
⟨(some 8), none, .un .not (.t 7)⟩,
⟨(some 9), none, .mov (.t 8)⟩,
⟨(some 10), (some (9, false)), .load 1 false (.t 1)⟩,
⟨(some 11), (some (9, false)), .faddr 1 (.t 2)⟩,
⟨(some 12), (some (9, false)), .load 1 false (.t 11)⟩,
⟨(some 13), (some (9, false)), .callv (.t 10) [(.t 12)]⟩,
⟨(some 14), (some (9, false)), .un .not (.t 13)⟩,
⟨(some 15), none, .pick (.t 9) (.c (.bool true)) (.t 14)⟩,
⟨(some 3), none, .mov (.t 15)⟩] (some [3]))
.ret))⟩
/-- slices.IndexFunc[[]int,int] -/
def ir70 : IFn := ⟨19, [.t 4],
(.seq (.ops [⟨(some 4), none, .mov (.c (.int .i64 0))⟩] (some [0, 1]))
(.seq (.seq (.ops [⟨(some 6), none, .mov (.t 0)⟩,
⟨(some 7), none, .lenV (.t 6)⟩,
⟨(some 8), none, .mov (.c (.int .i64 0))⟩] (some [0, 1, 7, 8]))
(.block 0 (.loop (.seq (.ops [⟨(some 9), none, .ibin .lss .i64 (.t 8) (.t 7)⟩] none)
(.seq (.cond (.t 9)
.skip
(.exit 0))
(.seq (.block 1 (.seq (.ops [⟨(some 10), none, .mov (.t 8)⟩,
⟨(some 5), none, .mov (.t 10)⟩] (some [0, 1, 5, 7, 8]))
(.seq (.ops [⟨(some 11), none, .mov (.t 1)⟩,
⟨(some 12), none, .mov (.t 0)⟩,
⟨(some 13), none, .mov (.t 5)⟩,
⟨(some 14), none, .iaddr 1 (.t 12) (.t 13)⟩,
⟨(some 15), none, .load 1 false (.t 14)⟩,
⟨(some 16), none, .callv (.t 11) [(.t 15)]⟩] (some [0, 1, 5, 7, 8, 16]))
(.cond (.t 16)
(.seq (.ops [⟨(some 17), none, .mov (.t 5)⟩,
⟨(some 4), none, .mov (.t 17)⟩] (some [4]))
.ret)
.skip))))
(.ops [⟨(some 18), none, .ibin .add .i64 (.t 8) (.c (.int .i64 1))⟩,
⟨(some 8), none, .mov (.t 18)⟩] (some [0, 1, 7, 8]))))))))
(.seq (.ops [⟨(some 4), none, .mov (.c (.int .i64 (-1)))⟩] none)
.ret)))⟩
/-- guidevane/dam.CheckValley$3 -/
def ir71 : IFn := ⟨8, [.t 3],
(.seq (.ops [⟨(some 3), none, .mov (.c (.bool false))⟩] (some [0, 1]))
(.seq (.ops [⟨(some 4), none, .load 1 false (.t 1)⟩,
⟨(some 5), none, .mov (.t 0)⟩,
⟨(some 6), none, .callv (.t 4) [(.t 5)]⟩,
⟨(some 7), none, .un .not (.t 6)⟩,
⟨(some 3), none, .mov (.t 7)⟩] (some [3]))
.ret))⟩
/-- guidevane/dam.openValley -/
def ir72 : IFn := ⟨32, [.cell 2 2 true, .t 3, .t 4],
(.seq (.ops [⟨(some 1), none, .box (.t 0)⟩,
⟨(some 2), none, .alloc [(.slice none 0 0), (.slice none 0 0)]⟩,
⟨(some 3), none, .mov (.c (.slice none 0 0))⟩,
⟨(some 4), none, .mov (.c (.int .i64 0))⟩] (some [1, 2]))
(.seq (.ops [⟨(some 10), none, .load 2 true (.t 1)⟩,
⟨(some 11), none, .build [(.slice none 0 0), (.slice none 0 0)] [(0, 2, (.t 10))]⟩,
⟨(some 5), none, .alloc [(.slice none 0 0), (.slice none 0 0)]⟩,
⟨none, none, .store 2 (.t 5) (.t 11)⟩] (some [1, 2, 5]))
(.seq (.seq (.ops [⟨(some 13), none, .load 2 true (.t 1)⟩,
⟨(some 14), none, .call 20 [(.t 13)]⟩,
⟨(some 12), none, .mov (.t 14)⟩,
⟨(some 15), none, .extract 0 (.t 12)⟩,
⟨(some 16), none, .extract 1 (.t 12)⟩,
⟨(some 6), none, .mov (.t 15)⟩,
⟨(some 7), none, .mov (.t 16)⟩] (some [2, 5, 7]))
(.seq (.ops [⟨(some 17), none, .mov (.t 7)⟩,
⟨(some 18), none, .ibin .neq .i64 (.t 17) (.c (.int .i64 0))⟩] (some [2, 5, 7, 18]))
(.cond (.t 18)
(.seq (.ops [⟨(some 19), none, .load 2 true (.t 5)⟩,
⟨(some 20), none, .mov (.t 7)⟩,
⟨none, none, .store 2 (.t 2) (.t 19)⟩,
⟨(some 3), none, .mov (.c (.slice none 0 0))⟩,
⟨(some 4), none, .mov (.t 20)⟩] (some [2, 3, 4]))
.ret)
.skip)))
(.seq (.ops [⟨(some 22), none, .load 2 true (.t 5)⟩,
⟨(some 23), none, .call 74 [(.t 22), (.c (.slice none 0 0)), (.c (.int .i64 0))]⟩,
⟨(some 21), none, .mov (.t 23)⟩,
⟨(some 24), none, .extract 0 (.t 21)⟩,
⟨(some 25), none, .extract 1 (.t 21)⟩,
⟨(some 8), none, .mov (.t 24)⟩,
⟨(some 9), none, .mov (.t 25)⟩] (some [2, 5, 8, 9]))
(.seq (.ops [⟨(some 26), none, .mov (.t 8)⟩,
⟨(some 27), none, .call 103 [(.t 26)]⟩] (some [2, 5, 8, 9]))
(.seq (.draw (.rd 0 ⟨(some 28), none, .load 2 true (.t 5)⟩
(.rd 1 ⟨(some 29), none, .mov (.t 8)⟩
(.rd 2 ⟨(some 30), none, .mov (.t 9)⟩
(.wr 3 ⟨(some 31), none, .call 64 [(.t 30), (.c (.int .i64 12))]⟩ [2]
(.wr 4 ⟨none, none, .store 2 (.t 2) (.t 28)⟩ [0, 3, 0]
(.rd 5 ⟨(some 3), none, .mov (.t 29)⟩
(.rd 6 ⟨(some 4), none, .mov (.t 31)⟩
.fin)) .no) .no)))) (some [2, 3, 4]))
.ret))))))⟩
/-- slices.Clone[[]int,int] -/
def ir73 : IFn := ⟨8, [.t 2],
(.seq (.ops [⟨(some 2), none, .mov (.c (.slice none 0 0))⟩] (some [0]))
(.seq (.seq (.ops [⟨(some 3), none, .mov (.t 0)⟩,
⟨(some 4), none, .nileq .sl false (.t 3)⟩] (some [0, 4]))
(.cond (.t 4)
(.seq (.ops [⟨(some 2), none, .mov (.c (.slice none 0 0))⟩] none)
.ret)
.skip))
(.seq (.ops [⟨(some 5), none, .bslice 0 1 [(.int .i64 0)] []⟩,
⟨(some 6), none, .mov (.t 0)⟩,
⟨(some 7), none, .append 1 8 (.t 5) (.t 6)⟩,
⟨(some 2), none, .mov (.t 7)⟩] (some [2]))
.ret)))⟩
/-- (guidevane/dam.valley).sweep -/
def ir74 : IFn := ⟨79, [.t 6, .t 7],
(.seq (.ops [⟨(some 3), none, .box (.t 0)⟩,
⟨(some 6), none, .mov (.c (.slice none 0 0))⟩,
⟨(some 7), none, .mov (.c (.bool false))⟩] (some [1, 2, 3]))
(.seq (.ops [⟨(some 8), none, .mov (.c (.slice none 0 0))⟩] none)
(.seq (.seq (.ops [⟨(some 16), none, .faddr 0 (.t 3)⟩,
⟨(some 17), none, .faddr 1 (.t 16)⟩,
⟨(some 18), none, .load 1 false (.t 17)⟩,
⟨(some 19), none, .lenV (.t 18)⟩,
⟨(some 20), none, .mov (.c (.int .i64 0))⟩] (some [1, 2, 3, 8, 19, 20]))
(.block 0 (.loop (.seq (.ops [⟨(some 21), none, .ibin .lss .i64 (.t 20) (.t 19)⟩] none)
(.seq (.cond (.t 21)
.skip
(.exit 0))
(.seq (.block 1 (.seq (.ops [⟨(some 22), none, .mov (.t 20)⟩,
⟨(some 9), none, .alloc [(.int .i64 0)]⟩,
⟨none, none, .store 1 (.t 9) (.t 22)⟩] (some [1, 2, 3, 8, 9, 19, 20]))
(.seq (.ops [⟨(some 23), none, .mov (.t 1)⟩,
⟨(some 24), none, .mkfunc 104 [] [(.t 3), (.t 9)]⟩,
⟨(some 25), none, .call 80 [(.t 23), (.t 24)]⟩,
⟨(some 26), none, .un .not (.t 25)⟩] (some [1, 2, 3, 8, 9, 19, 20, 26]))
(.cond (.t 26)
(.ops [⟨(some 27), none, .mov (.t 8)⟩,
⟨(some 28), none, .load 1 false (.t 9)⟩,
⟨(some 29), none, .bslice 1 1 [(.int .i64 0)] [(0, 1, (.t 28))]⟩,
⟨(some 30), none, .append 1 8 (.t 27) (.t 29)⟩,
⟨(some 8), none, .mov (.t 30)⟩] (some [1, 2, 3, 8, 19, 20]))
.skip))))
(.ops [⟨(some 31), none, .ibin .add .i64 (.t 20) (.c (.int .i64 1))⟩,
⟨(some 20), none, .mov (.t 31)⟩] (some [1, 2, 3, 8, 19, 20]))))))))
(.seq (.ops [⟨(some 32), none, .mov (.t 8)⟩,
⟨(some 33), none, .mkfunc 107 [] [(.t 3)]⟩,
⟨(some 34), none, .call 106 [(.t 32), (.t 33)]⟩] (some [2, 3, 8]))
(.seq (.ops [⟨(some 10), none, .mov (.c (.slice none 0 0))⟩] none)
(.seq (.ops [⟨(some 11), none, .mov (.c (.int .i64 (-1)))⟩] none)
(.seq (.seq (.ops [⟨(some 35), none, .mov (.t 8)⟩,
⟨(some 36), none, .lenV (.t 35)⟩,
⟨(some 37), none, .mov (.c (.int .i64 0))⟩] (some [2, 3, 10, 11, 35, 36, 37]))
(.block 2 (.loop (.seq (.ops [⟨(some 38), none, .ibin .lss .i64 (.t 37) (.t 36)⟩] none)
(.seq (.cond (.t 38)
.skip
(.exit 2))
(.seq (.block 3 (.seq (.ops [⟨(some 39), none, .iaddr 1 (.t 35) (.t 37)⟩,
⟨(some 40), none, .load 1 false (.t 39)⟩,
⟨(some 13), none, .mov (.t 40)⟩] (some [2, 3, 10, 11, 13, 35, 36, 37]))
(.seq (.seq (.ops [⟨(some 41), none, .faddr 0 (.t 3)⟩,
⟨(some 42), none, .faddr 1 (.t 41)⟩,
⟨(some 43), none, .load 1 false (.t 42)⟩,
⟨(some 44), none, .mov (.t 13)⟩,
⟨(some 45), none, .iaddr 1 (.t 43) (.t 44)⟩,
⟨(some 46), none, .load 1 false (.t 45)⟩,
⟨(some 47), none, .mov (.t 11)⟩,
⟨(some 48), none, .ibin .leq .i64 (.t 46) (.t 47)⟩] (some [2, 3, 10, 11, 13, 35, 36, 37, 48]))
(.cond (.t 48)
(.exit 3)
.skip))
(.seq (.ops [⟨(some 11), none, .mov (.c (.int .i64 (-1)))⟩] none)
(.seq (.seq (.ops [⟨(some 49), none, .faddr 0 (.t 3)⟩,
⟨(some 50), none, .faddr 0 (.t 49)⟩,
⟨(some 51), none, .load 1 false (.t 50)⟩,
⟨(some 52), none, .mov (.t 2)⟩,
⟨(some 53), none, .sliceV 2 (.t 51) (some (.t 52)) none none⟩,
⟨(some 54), none, .lenV (.t 53)⟩,
⟨(some 55), none, .mov (.c (.int .i64 0))⟩] (some [2, 3, 10, 11, 13, 35, 36, 37, 53, 54, 55]))
(.block 4 (.loop (.seq (.ops [⟨(some 56), none, .ibin .lss .i64 (.t 55) (.t 54)⟩] none)
(.seq (.cond (.t 56)
.skip
(.exit 4))
(.seq (.block 5 (.seq (.ops [⟨(some 57), none, .iaddr 2 (.t 53) (.t 55)⟩,
⟨(some 58), none, .load 2 true (.t 57)⟩,
⟨(some 15), none, .alloc [(.int .i64 0), (.int .i64 0)]⟩,
⟨none, none, .store 2 (.t 15) (.t 58)⟩] (some [2, 3, 10, 11, 13, 15, 35, 36, 37, 53, 54, 55]))
(.seq (.ops [⟨(some 59), none, .load 2 true (.t 3)⟩,
⟨(some 60), none, .mov (.t 13)⟩,
⟨(some 61), none, .load 2 true (.t 15)⟩,
⟨(some 62), none, .call 105 [(.t 59), (.t 60), (.t 61)]⟩] (some [2, 3, 10, 11, 13, 15, 35, 36, 37, 53, 54, 55, 62]))
(.cond (.t 62)
(.ops [⟨(some 63), none, .mov (.t 11)⟩,
⟨(some 64), none, .faddr 0 (.t 15)⟩,
⟨(some 65), none, .load 1 false (.t 64)⟩,
⟨(some 66), none, .faddr 1 (.t 15)⟩,
⟨(some 67), none, .load 1 false (.t 66)⟩,
⟨(some 68), none, .ibin .add .i64 (.t 65) (.t 67)⟩,
⟨(some 69), none, .minmax true (.t 63) [(.t 68)]⟩,
⟨(some 11), none, .mov (.t 69)⟩] (some [2, 3, 10, 11, 13, 35, 36, 37, 53, 54, 55]))
.skip))))
(.ops [⟨(some 70), none, .ibin .add .i64 (.t 55) (.c (.int .i64 1))⟩,
⟨(some 55), none, .mov (.t 70)⟩] (some [2, 3, 10, 11, 13, 35, 36, 37, 53, 54, 55]))))))))
(.seq (.seq (.ops [⟨(some 71), none, .mov (.t 11)⟩,
⟨(some 72), none, .ibin .lss .i64 (.t 71) (.c (.int .i64 0))⟩] (some [2, 3, 10, 11, 13, 35, 36, 37, 72]))
(.cond (.t 72)
(.seq (.ops [⟨(some 6), none, .mov (.c (.slice none 0 0))⟩,
⟨(some 7), none, .mov (.c (.bool false))⟩] none)
.ret)
.skip))
(.ops [⟨(some 73), none, .mov (.t 10)⟩,
⟨(some 74), none, .mov (.t 13)⟩,
⟨(some 75), none, .bslice 1 1 [(.int .i64 0)] [(0, 1, (.t 74))]⟩,
⟨(some 76), none, .append 1 8 (.t 73) (.t 75)⟩,
⟨(some 10), none, .mov (.t 76)⟩] (some [2, 3, 10, 11, 35, 36, 37]))))))))
(.ops [⟨(some 77), none, .ibin .add .i64 (.t 37) (.c (.int .i64 1))⟩,
⟨(some 37), none, .mov (.t 77)⟩] (some [2, 3, 10, 11, 35, 36, 37]))))))))
(.seq (.ops [⟨(some 78), none, .mov (.t 10)⟩,
⟨(some 6), none, .mov (.t 78)⟩,
⟨(some 7), none, .mov (.c (.bool true))⟩] (some [6, 7]))
.ret))))))))⟩
/-- guidevane/dam.terms -/
def ir77 : IFn := ⟨25, [.cell 2 5 true],
(.seq (.ops [⟨(some 1), none, .box (.t 0)⟩,
⟨(some 2), none, .alloc (List.replicate 5 (.int .i64 0))⟩] (some [1, 2]))
(.seq (.ops [⟨(some 4), none, .build [(.int .i64 0), (.int .i64 0)] [(0, 1, (.c (.int .i64 1))), (1, 1, (.c (.int .i64 0)))]⟩,
⟨(some 5), none, .build [(.int .i64 0), (.int .i64 0)] [(0, 1, (.c (.int .i64 0))), (1, 1, (.c (.int .i64 1)))]⟩,
⟨(some 6), none, .build [(.int .i64 0), (.int .i64 0)] [(0, 1, (.c (.int .i64 (-1)))), (1, 1, (.c (.int .i64 0)))]⟩,
⟨(some 7), none, .build [(.int .i64 0), (.int .i64 0)] [(0, 1, (.c (.int .i64 0))), (1, 1, (.c (.int .i64 (-1))))]⟩,
⟨(some 8), none, .build (List.replicate 8 (.int .i64 0)) [(0, 2, (.t 4)), (2, 2, (.t 5)), (4, 2, (.t 6)), (6, 2, (.t 7))]⟩,
⟨(some 9), none, .faddr 0 (.t 1)⟩,
⟨(some 10), none, .load 1 false (.t 9)⟩,
⟨(some 11), none, .ibin .rem .i64 (.t 10) (.c (.int .i64 360))⟩,
⟨(some 12), none, .ibin .mul .i64 (.t 11) (.c (.int .i64 4))⟩,
⟨(some 13), none, .ibin .quo .i64 (.t 12) (.c (.int .i64 360))⟩,
⟨(some 14), none, .indexA 4 2 true (.t 8) (.t 13)⟩,
⟨(some 3), none, .alloc [(.int .i64 0), (.int .i64 0)]⟩,
⟨none, none, .store 2 (.t 3) (.t 14)⟩] (some [1, 2, 3]))
(.seq (.ops [⟨(some 15), none, .faddr 1 (.t 1)⟩,
⟨(some 16), none, .load 1 false (.t 15)⟩,
⟨(some 17), none, .iaddrA 2 1 (.t 3) (.c (.int .i64 0))⟩,
⟨(some 18), none, .load 1 false (.t 17)⟩,
⟨(some 19), none, .iaddrA 2 1 (.t 3) (.c (.int .i64 1))⟩,
⟨(some 20), none, .load 1 false (.t 19)⟩,
⟨(some 21), none, .faddr 0 (.t 1)⟩,
⟨(some 22), none, .load 1 false (.t 21)⟩,
⟨(some 23), none, .ibin .quo .i64 (.t 22) (.c (.int .i64 360))⟩,
⟨(some 24), none, .build (List.replicate 5 (.int .i64 0)) [(0, 1, (.c (.int .i64 1))), (1, 1, (.t 16)), (2, 1, (.t 18)), (3, 1, (.t 20)), (4, 1, (.t 23))]⟩,
⟨none, none, .store 5 (.t 2) (.t 24)⟩] (some [2]))
.ret)))⟩
/-- guidevane/dam.isSized -/
def ir78 : IFn := ⟨10, [.t 4],
(.seq (.ops [⟨(some 4), none, .mov (.c (.bool false))⟩] (some [0, 1]))
(.seq (.ops [⟨(some 5), none, .mov (.t 0)⟩,
⟨(some 6), none, .mov (.t 1)⟩,
⟨(some 7), none, .un .neg (.t 6)⟩,
⟨(some 8), none, .mov (.t 1)⟩,
⟨(some 9), none, .call 65 [(.t 5), (.t 7), (.t 8)]⟩,
⟨(some 4), none, .mov (.t 9)⟩] (some [4]))
.ret))⟩
/-- guidevane/dam.open -/
def ir79 : IFn := ⟨14, [.cell 2 4 true, .t 3],
(.seq (.ops [⟨(some 1), none, .box (.t 0)⟩,
⟨(some 2), none, .alloc [(.slice none 0 0), (.slice none 0 0), (.int .i64 0), (.slice none 0 0)]⟩,
⟨(some 3), none, .mov (.c (.int .i64 0))⟩] (some [1, 2]))
(.seq (.ops [⟨(some 7), none, .load 4 true (.t 1)⟩,
⟨(some 8), none, .call 43 [(.t 7)]⟩,
⟨(some 6), none, .mov (.t 8)⟩,
⟨(some 9), none, .extract 0 (.t 6)⟩,
⟨(some 10), none, .extract 1 (.t 6)⟩,
⟨(some 4), none, .mov (.t 9)⟩,
⟨(some 5), none, .mov (.t 10)⟩] (some [1, 2, 5]))
(.seq (.ops [⟨(some 11), none, .load 4 true (.t 1)⟩,
⟨(some 12), none, .build [(.slice none 0 0), (.slice none 0 0), (.int .i64 0), (.slice none 0 0)] [(0, 4, (.t 11))]⟩,
⟨(some 13), none, .mov (.t 5)⟩,
⟨none, none, .store 4 (.t 2) (.t 12)⟩,
⟨(some 3), none, .mov (.t 13)⟩] (some [2, 3]))
.ret)))⟩
/-- slices.ContainsFunc[[]int,int] -/
def ir80 : IFn := ⟨9, [.t 4],
(.seq (.ops [⟨(some 4), none, .mov (.c (.bool false))⟩] (some [0, 1]))
(.seq (.ops [⟨(some 5), none, .mov (.t 0)⟩,
⟨(some 6), none, .mov (.t 1)⟩,
⟨(some 7), none, .call 70 [(.t 5), (.t 6)]⟩,
⟨(some 8), none, .ibin .geq .i64 (.t 7) (.c (.int .i64 0))⟩,
⟨(some 4), none, .mov (.t 8)⟩] (some [4]))
.ret))⟩
/-- guidevane/dam.WatchOf$1 -/
def ir81 : IFn := ⟨6, [.t 2],
(.seq (.ops [⟨(some 2), none, .mov (.c (.bool false))⟩] (some [0]))
(.seq (.ops [⟨(some 3), none, .mov (.t 0)⟩,
⟨(some 4), none, .call 82 [(.t 3)]⟩,
⟨(some 5), none, .un .not (.t 4)⟩,
⟨(some 2), none, .mov (.t 5)⟩] (some [2]))
.ret))⟩
/-- guidevane/dam.isDeviation -/
def ir82 : IFn := ⟨5, [.t 2],
(.seq (.ops [⟨(some 2), none, .mov (.c (.bool false))⟩] (some [0]))
(.seq (.ops [⟨(some 3), none, .mov (.t 0)⟩,
⟨(some 4), none, .call 65 [(.t 3), (.c (.int .i64 0)), (.c (.int .i64 1000000))]⟩,
⟨(some 2), none, .mov (.t 4)⟩] (some [2]))
.ret))⟩
/-- (guidevane/dam.rules).watched -/
def ir83 : IFn := ⟨44, [.cell 6 3 true],
(.seq (.ops [⟨(some 3), none, .box (.t 0)⟩,
⟨(some 4), none, .box (.t 1)⟩,
⟨(some 6), none, .alloc [(.int .i64 0), (.int .i64 0), (.int .i64 0)]⟩] (some [2, 3, 4, 6]))
(.seq (.ops [⟨(some 8), none, .mov (.t 2)⟩,
⟨(some 9), none, .faddr 2 (.t 4)⟩,
⟨none, none, .store 1 (.t 9) (.t 8)⟩] (some [2, 3, 4, 6]))
(.seq (.seq (.ops [⟨(some 10), none, .load 4 true (.t 3)⟩,
⟨(some 11), none, .mov (.t 2)⟩,
⟨(some 12), none, .call 89 [(.t 10), (.t 11)]⟩,
⟨(some 7), none, .mov (.t 12)⟩] (some [2, 3, 4, 6, 7]))
(.block 0 (.seq (.ops [⟨(some 15), none, .mov (.t 7)⟩,
⟨(some 16), none, .faddr 0 (.t 4)⟩,
⟨(some 17), none, .load 1 false (.t 16)⟩,
⟨(some 18), none, .ibin .gtr .i64 (.t 15) (.t 17)⟩,
⟨(some 14), none, .mov (.t 18)⟩] (some [2, 3, 4, 6, 7, 14]))
(.cond (.t 14)
(.ops [⟨(some 19), none, .mov (.t 7)⟩,
⟨(some 20), none, .faddr 0 (.t 4)⟩,
⟨none, none, .store 1 (.t 20) (.t 19)⟩,
⟨(some 21), none, .faddr 1 (.t 4)⟩,
⟨none, none, .store 1 (.t 21) (.c (.int .i64 0))⟩] (some [4, 6]))
(.seq (.ops [⟨(some 23), none, .faddr 0 (.t 4)⟩,
⟨(some 24), none, .load 1 false (.t 23)⟩,
⟨(some 25), none, .ibin .gtr .i64 (.t 24) (.c (.int .i64 0))⟩,
⟨(some 26), none, .mov (.t 25)⟩,
⟨(some 27), (some (26, true)), .mov (.t 2)⟩,
⟨(some 28), (some (26, true)), .faddr 0 (.t 3)⟩,
⟨(some 29), (some (26, true)), .faddr 1 (.t 28)⟩,
⟨(some 30), (some (26, true)), .load 1 false (.t 29)⟩,
⟨(some 31), (some (26, true)), .faddr 0 (.t 4)⟩,
⟨(some 32), (some (26, true)), .load 1 false (.t 31)⟩,
⟨(some 33), (some (26, true)), .ibin .sub .i64 (.t 32) (.c (.int .i64 1))⟩,
⟨(some 34), (some (26, true)), .iaddr 1 (.t 30) (.t 33)⟩,
⟨(some 35), (some (26, true)), .load 1 false (.t 34)⟩,
⟨(some 36), (some (26, true)), .ibin .lss .i64 (.t 27) (.t 35)⟩,
⟨(some 37), none, .pick (.t 26) (.t 36) (.c (.bool false))⟩,
⟨(some 22), none, .mov (.t 37)⟩] (some [4, 6, 22]))
(.cond (.t 22)
(.ops [⟨(some 38), none, .faddr 1 (.t 4)⟩,
⟨(some 39), none, .load 1 false (.t 38)⟩,
⟨(some 40), none, .ibin .add .i64 (.t 39) (.c (.int .i64 1))⟩,
⟨(some 41), none, .minmax false (.t 40) [(.c (.int .i64 1000000))]⟩,
⟨(some 42), none, .faddr 1 (.t 4)⟩,
⟨none, none, .store 1 (.t 42) (.t 41)⟩] (some [4, 6]))
(.ops [⟨(some 13), none, .faddr 1 (.t 4)⟩,
⟨none, none, .store 1 (.t 13) (.c (.int .i64 0))⟩] (some [4, 6]))))))))
(.seq (.ops [⟨(some 43), none, .load 3 true (.t 4)⟩,
⟨none, none, .store 3 (.t 6) (.t 43)⟩] (some [6]))
.ret))))⟩
/-- guidevane/dam.CheckRules$1 -/
def ir85 : IFn := ⟨5, [.t 2],
(.seq (.ops [⟨(some 2), none, .mov (.c (.bool false))⟩] (some [0]))
(.seq (.ops [⟨(some 3), none, .mov (.t 0)⟩,
⟨(some 4), none, .call 65 [(.t 3), (.c (.int .i64 1)), (.c (.int .i64 1000000))]⟩,
⟨(some 2), none, .mov (.t 4)⟩] (some [2]))
.ret))⟩
/-- slices.ContainsFunc[[]guidevane/api.DamPerson,guidevane/api.DamPerson] -/
def ir86 : IFn := ⟨9, [.t 4],
(.seq (.ops [⟨(some 4), none, .mov (.c (.bool false))⟩] (some [0, 1]))
(.seq (.ops [⟨(some 5), none, .mov (.t 0)⟩,
⟨(some 6), none, .mov (.t 1)⟩,
⟨(some 7), none, .call 110 [(.t 5), (.t 6)]⟩,
⟨(some 8), none, .ibin .geq .i64 (.t 7) (.c (.int .i64 0))⟩,
⟨(some 4), none, .mov (.t 8)⟩] (some [4]))
.ret))⟩
/-- guidevane/dam.CheckRules$2 -/
def ir87 : IFn := ⟨9, [.t 3],
(.seq (.ops [⟨(some 2), none, .box (.t 0)⟩,
⟨(some 3), none, .mov (.c (.bool false))⟩] (some [1, 2]))
(.seq (.ops [⟨(some 4), none, .faddr 0 (.t 2)⟩,
⟨(some 5), none, .load 1 false (.t 4)⟩,
⟨(some 6), none, .faddr 0 (.t 1)⟩,
⟨(some 7), none, .load 1 false (.t 6)⟩,
⟨(some 8), none, .sbin .eql (.t 5) (.t 7)⟩,
⟨(some 3), none, .mov (.t 8)⟩] (some [3]))
.ret))⟩
/-- guidevane/dam.isName -/
def ir88 : IFn := ⟨34, [.t 2],
(.seq (.ops [⟨(some 2), none, .mov (.c (.bool false))⟩] (some [0]))
(.seq (.seq (.ops [⟨(some 5), none, .mov (.t 0)⟩,
⟨(some 6), none, .s2b (.t 5)⟩,
⟨(some 7), none, .lenV (.t 6)⟩,
⟨(some 8), none, .mov (.c (.int .i64 0))⟩] (some [0, 6, 7, 8]))
(.block 0 (.loop (.seq (.ops [⟨(some 9), none, .ibin .lss .i64 (.t 8) (.t 7)⟩] none)
(.seq (.cond (.t 9)
.skip
(.exit 0))
(.seq (.block 1 (.seq (.ops [⟨(some 10), none, .mov (.t 8)⟩,
⟨(some 11), none, .iaddr 1 (.t 6) (.t 8)⟩,
⟨(some 12), none, .load 1 false (.t 11)⟩,
⟨(some 3), none, .mov (.t 10)⟩,
⟨(some 4), none, .mov (.t 12)⟩] (some [0, 3, 4, 6, 7, 8]))
(.seq (.ops [⟨(some 13), none, .mov (.t 4)⟩,
⟨(some 14), none, .call 111 [(.t 13)]⟩,
⟨(some 15), none, .un .not (.t 14)⟩,
⟨(some 16), none, .mov (.t 15)⟩,
⟨(some 17), (some (16, true)), .mov (.t 3)⟩,
⟨(some 18), (some (16, true)), .ibin .eql .i64 (.t 17) (.c (.int .i64 0))⟩,
⟨(some 19), (some (16, true)), .mov (.t 18)⟩,
⟨(some 20), (some (19, false)), .mov (.t 4)⟩,
⟨(some 21), (some (19, false)), .ibin .neq .u8 (.t 20) (.c (.int .u8 45))⟩,
⟨(some 22), (some (19, false)), .mov (.t 21)⟩,
⟨(some 23), (some (22, true)), .mov (.t 4)⟩,
⟨(some 24), (some (22, true)), .conv .i64 (.t 23)⟩,
⟨(some 25), (some (22, true)), .call 65 [(.t 24), (.c (.int .i64 48)), (.c (.int .i64 57))]⟩,
⟨(some 26), (some (22, true)), .un .not (.t 25)⟩,
⟨(some 27), (some (19, false)), .pick (.t 22) (.t 26) (.c (.bool false))⟩,
⟨(some 28), (some (16, true)), .pick (.t 19) (.c (.bool true)) (.t 27)⟩,
⟨(some 29), none, .pick (.t 16) (.t 28) (.c (.bool false))⟩] (some [0, 6, 7, 8, 29]))
(.cond (.t 29)
(.seq (.ops [⟨(some 2), none, .mov (.c (.bool false))⟩] none)
.ret)
.skip))))
(.ops [⟨(some 30), none, .ibin .add .i64 (.t 8) (.c (.int .i64 1))⟩,
⟨(some 8), none, .mov (.t 30)⟩] (some [0, 6, 7, 8]))))))))
(.seq (.ops [⟨(some 31), none, .mov (.t 0)⟩,
⟨(some 32), none, .lenS (.t 31)⟩,
⟨(some 33), none, .call 65 [(.t 32), (.c (.int .i64 1)), (.c (.int .i64 12))]⟩,
⟨(some 2), none, .mov (.t 33)⟩] (some [2]))
.ret)))⟩
/-- (guidevane/dam.rules).asked -/
def ir89 : IFn := ⟨19, [.t 4],
(.seq (.ops [⟨(some 2), none, .box (.t 0)⟩,
⟨(some 4), none, .mov (.c (.int .i64 0))⟩] (some [1, 2]))
(.seq (.ops [⟨(some 8), none, .faddr 0 (.t 2)⟩,
⟨(some 9), none, .faddr 0 (.t 8)⟩,
⟨(some 10), none, .load 1 false (.t 9)⟩,
⟨(some 11), none, .mov (.t 1)⟩,
⟨(some 12), none, .call 112 [(.t 10), (.t 11)]⟩,
⟨(some 7), none, .mov (.t 12)⟩,
⟨(some 13), none, .extract 0 (.t 7)⟩,
⟨(some 14), none, .extract 1 (.t 7)⟩,
⟨(some 5), none, .mov (.t 13)⟩,
⟨(some 6), none, .mov (.t 14)⟩] (some [5, 6]))
(.seq (.seq (.ops [⟨(some 15), none, .mov (.t 6)⟩] (some [5, 15]))
(.cond (.t 15)
(.ops [⟨(some 16), none, .mov (.t 5)⟩,
⟨(some 17), none, .ibin .add .i64 (.t 16) (.c (.int .i64 1))⟩,
⟨(some 5), none, .mov (.t 17)⟩] (some [5]))
.skip))
(.seq (.ops [⟨(some 18), none, .mov (.t 5)⟩,
⟨(some 4), none, .mov (.t 18)⟩] (some [4]))
.ret))))⟩
/-- guidevane/guidevanebase.IsName -/
def ir91 : IFn := ⟨55, [.t 2],
(.seq (.ops [⟨(some 2), none, .mov (.c (.bool false))⟩] (some [0]))
(.seq (.seq (.ops [⟨(some 6), none, .mov (.t 0)⟩,
⟨(some 7), none, .lenS (.t 6)⟩,
⟨(some 8), none, .ibin .lss .i64 (.t 7) (.c (.int .i64 1))⟩,
⟨(some 9), none, .mov (.t 8)⟩,
⟨(some 10), (some (9, false)), .mov (.t 0)⟩,
⟨(some 11), (some (9, false)), .lenS (.t 10)⟩,
⟨(some 12), (some (9, false)), .ibin .gtr .i64 (.t 11) (.c (.int .i64 12))⟩,
⟨(some 13), none, .pick (.t 9) (.c (.bool true)) (.t 12)⟩] (some [0, 13]))
(.cond (.t 13)
(.seq (.ops [⟨(some 2), none, .mov (.c (.bool false))⟩] none)
.ret)
.skip))
(.seq (.seq (.ops [⟨(some 3), none, .mov (.c (.int .i64 0))⟩] none)
(.block 0 (.loop (.seq (.seq (.ops [⟨(some 14), none, .mov (.t 3)⟩,
⟨(some 15), none, .mov (.t 0)⟩,
⟨(some 16), none, .lenS (.t 15)⟩,
⟨(some 17), none, .ibin .lss .i64 (.t 14) (.t 16)⟩] (some [0, 3, 17]))
(.cond (.t 17)
.skip
(.exit 0)))
(.seq (.block 1 (.seq (.ops [⟨(some 20), none, .mov (.t 0)⟩,
⟨(some 21), none, .mov (.t 3)⟩,
⟨(some 22), none, .indexS (.t 20) (.t 21)⟩,
⟨(some 4), none, .mov (.t 22)⟩] (some [0, 3, 4]))
(.seq (.ops [⟨(some 23), none, .mov (.t 4)⟩,
⟨(some 24), none, .ibin .geq .u8 (.t 23) (.c (.int .u8 97))⟩,
⟨(some 25), none, .mov (.t 24)⟩,
⟨(some 26), (some (25, true)), .mov (.t 4)⟩,
⟨(some 27), (some (25, true)), .ibin .leq .u8 (.t 26) (.c (.int .u8 122))⟩,
⟨(some 28), none, .pick (.t 25) (.t 27) (.c (.bool false))⟩,
⟨(some 29), none, .mov (.t 28)⟩,
⟨(some 30), (some (29, false)), .mov (.t 4)⟩,
⟨(some 31), (some (29, false)), .ibin .geq .u8 (.t 30) (.c (.int .u8 65))⟩,
⟨(some 32), (some (29, false)), .mov (.t 31)⟩,
⟨(some 33), (some (32, true)), .mov (.t 4)⟩,
⟨(some 34), (some (32, true)), .ibin .leq .u8 (.t 33) (.c (.int .u8 90))⟩,
⟨(some 35), (some (29, false)), .pick (.t 32) (.t 34) (.c (.bool false))⟩,
⟨(some 36), none, .pick (.t 29) (.c (.bool true)) (.t 35)⟩,
⟨(some 5), none, .mov (.t 36)⟩] (some [0, 3, 4, 5]))
(.seq (.ops [⟨(some 37), none, .mov (.t 5)⟩,
⟨(some 38), none, .un .not (.t 37)⟩,
⟨(some 39), none, .mov (.t 38)⟩,
⟨(some 40), (some (39, true)), .mov (.t 3)⟩,
⟨(some 41), (some (39, true)), .ibin .eql .i64 (.t 40) (.c (.int .i64 0))⟩,
⟨(some 42), (some (39, true)), .mov (.t 41)⟩,
⟨(some 43), (some (42, false)), .mov (.t 4)⟩,
⟨(some 44), (some (42, false)), .ibin .neq .u8 (.t 43) (.c (.int .u8 45))⟩,
⟨(some 45), (some (42, false)), .mov (.t 44)⟩,
⟨(some 46), (some (45, true)), .mov (.t 4)⟩,
⟨(some 47), (some (45, true)), .ibin .lss .u8 (.t 46) (.c (.int .u8 48))⟩,
⟨(some 48), (some (45, true)), .mov (.t 47)⟩,
⟨(some 49), (some (48, false)), .mov (.t 4)⟩,
⟨(some 50), (some (48, false)), .ibin .gtr .u8 (.t 49) (.c (.int .u8 57))⟩,
⟨(some 51), (some (45, true)), .pick (.t 48) (.c (.bool true)) (.t 50)⟩,
⟨(some 52), (some (42, false)), .pick (.t 45) (.t 51) (.c (.bool false))⟩,
⟨(some 53), (some (39, true)), .pick (.t 42) (.c (.bool true)) (.t 52)⟩,
⟨(some 54), none, .pick (.t 39) (.t 53) (.c (.bool false))⟩] (some [0, 3, 54]))
(.cond (.t 54)
(.seq (.ops [⟨(some 2), none, .mov (.c (.bool false))⟩] none)
.ret)
.skip)))))
(.ops [⟨(some 18), none, .mov (.t 3)⟩,
⟨(some 19), none, .ibin .add .i64 (.t 18) (.c (.int .i64 1))⟩,
⟨(some 3), none, .mov (.t 19)⟩] (some [0, 3])))))))
(.seq (.ops [⟨(some 2), none, .mov (.c (.bool true))⟩] none)
.ret))))⟩
/-- guidevane/guidevaneref09.find -/
def ir92 : IFn := ⟨20, [.t 4],
(.seq (.ops [⟨(some 4), none, .mov (.c (.int .i64 0))⟩] (some [0, 1]))
(.seq (.seq (.ops [⟨(some 5), none, .mov (.c (.int .i64 0))⟩] none)
(.block 0 (.loop (.seq (.seq (.ops [⟨(some 6), none, .mov (.t 5)⟩,
⟨(some 7), none, .mov (.t 0)⟩,
⟨(some 8), none, .lenV (.t 7)⟩,
⟨(some 9), none, .ibin .lss .i64 (.t 6) (.t 8)⟩] (some [0, 1, 5, 9]))
(.cond (.t 9)
.skip
(.exit 0)))
(.seq (.block 1 (.seq (.ops [⟨(some 12), none, .mov (.t 0)⟩,
⟨(some 13), none, .mov (.t 5)⟩,
⟨(some 14), none, .iaddr 2 (.t 12) (.t 13)⟩,
⟨(some 15), none, .faddr 0 (.t 14)⟩,
⟨(some 16), none, .load 1 false (.t 15)⟩,
⟨(some 17), none, .mov (.t 1)⟩,
⟨(some 18), none, .sbin .eql (.t 16) (.t 17)⟩] (some [0, 1, 5, 18]))
(.cond (.t 18)
(.seq (.ops [⟨(some 19), none, .mov (.t 5)⟩,
⟨(some 4), none, .mov (.t 19)⟩] (some [4]))
.ret)
.skip)))
(.ops [⟨(some 10), none, .mov (.t 5)⟩,
⟨(some 11), none, .ibin .add .i64 (.t 10) (.c (.int .i64 1))⟩,
⟨(some 5), none, .mov (.t 11)⟩] (some [0, 1, 5])))))))
(.seq (.ops [⟨(some 4), none, .mov (.c (.int .i64 (-1)))⟩] none)
.ret)))⟩
/-- guidevane/dam.readingsErr -/
def ir93 : IFn := ⟨31, [.t 2],
(.seq (.ops [⟨(some 2), none, .mov (.c (.int .i64 0))⟩] (some [0]))
(.seq (.ops [⟨(some 5), none, .mov (.t 0)⟩,
⟨(some 6), none, .lenV (.t 5)⟩,
⟨(some 7), none, .ibin .gtr .i64 (.t 6) (.c (.int .i64 0))⟩,
⟨(some 8), none, .call 64 [(.t 7), (.c (.int .i64 10))]⟩,
⟨(some 9), none, .mov (.t 0)⟩,
⟨(some 10), none, .lenV (.t 9)⟩,
⟨(some 11), none, .ibin .leq .i64 (.t 10) (.c (.int .i64 12))⟩,
⟨(some 12), none, .call 64 [(.t 11), (.c (.int .i64 8))]⟩,
⟨(some 13), none, .bslice 2 1 [(.int .i64 0)] [(0, 1, (.t 8)), (1, 1, (.t 12))]⟩,
⟨(some 14), none, .call 63 [(.t 13)]⟩,
⟨(some 3), none, .mov (.t 14)⟩] (some [0, 3]))
(.seq (.seq (.ops [⟨(some 4), none, .mov (.c (.int .i64 0))⟩] none)
(.block 0 (.loop (.seq (.seq (.ops [⟨(some 15), none, .mov (.t 4)⟩,
⟨(some 16), none, .mov (.t 0)⟩,
⟨(some 17), none, .lenV (.t 16)⟩,
⟨(some 18), none, .ibin .lss .i64 (.t 15) (.t 17)⟩,
⟨(some 19), none, .mov (.t 18)⟩,
⟨(some 20), (some (19, true)), .mov (.t 3)⟩,
⟨(some 21), (some (19, true)), .ibin .eql .i64 (.t 20) (.c (.int .i64 0))⟩,
⟨(some 22), none, .pick (.t 19) (.t 21) (.c (.bool false))⟩] (some [0, 3, 4, 22]))
(.cond (.t 22)
.skip
(.exit 0)))
(.seq (.block 1 (.ops [⟨(some 25), none, .mov (.t 0)⟩,
⟨(some 26), none, .mov (.t 4)⟩,
⟨(some 27), none, .iaddr 3 (.t 25) (.t 26)⟩,
⟨(some 28), none, .load 3 true (.t 27)⟩,
⟨(some 29), none, .call 33 [(.t 28)]⟩,
⟨(some 3), none, .mov (.t 29)⟩] (some [0, 3, 4])))
(.ops [⟨(some 23), none, .mov (.t 4)⟩,
⟨(some 24), none, .ibin .add .i64 (.t 23) (.c (.int .i64 1))⟩,
⟨(some 4), none, .mov (.t 24)⟩] (some [0, 3, 4])))))))
(.seq (.ops [⟨(some 30), none, .mov (.t 3)⟩,
⟨(some 2), none, .mov (.t 30)⟩] (some [2]))
.ret))))⟩
/-- (guidevane/dam.model).err -/
def ir94 : IFn := ⟨6, [.t 2],
(.seq (.ops [⟨(some 2), none, .mov (.c (.int .i64 0))⟩] (some [0]))
(.seq (.ops [⟨(some 3), none, .mov (.t 0)⟩,
⟨(some 4), none, .call 65 [(.t 3), (.c (.int .i64 1)), (.c (.int .i64 31))]⟩,
⟨(some 5), none, .call 64 [(.t 4), (.c (.int .i64 2))]⟩,
⟨(some 2), none, .mov (.t 5)⟩] (some [2]))
.ret))⟩
/-- (guidevane/dam.model).chosen -/
def ir95 : IFn := ⟨17, [.t 2],
(.seq (.ops [⟨(some 2), none, .mov (.c (.slice none 0 0))⟩] (some [0]))
(.seq (.ops [⟨(some 3), none, .mov (.c (.slice none 0 0))⟩] none)
(.seq (.seq (.ops [⟨(some 5), none, .mov (.c (.int .i64 0))⟩] none)
(.block 0 (.loop (.seq (.ops [⟨(some 6), none, .ibin .lss .i64 (.t 5) (.c (.int .i64 5))⟩] none)
(.seq (.cond (.t 6)
.skip
(.exit 0))
(.seq (.block 1 (.seq (.ops [⟨(some 7), none, .mov (.t 5)⟩,
⟨(some 4), none, .mov (.t 7)⟩] (some [0, 3, 4, 5]))
(.seq (.ops [⟨(some 8), none, .mov (.t 0)⟩,
⟨(some 9), none, .mov (.t 4)⟩,
⟨(some 10), none, .call 114 [(.t 8), (.t 9)]⟩] (some [0, 3, 4, 5, 10]))
(.cond (.t 10)
(.ops [⟨(some 11), none, .mov (.t 3)⟩,
⟨(some 12), none, .mov (.t 4)⟩,
⟨(some 13), none, .bslice 1 1 [(.int .i64 0)] [(0, 1, (.t 12))]⟩,
⟨(some 14), none, .append 1 8 (.t 11) (.t 13)⟩,
⟨(some 3), none, .mov (.t 14)⟩] (some [0, 3, 5]))
.skip))))
(.ops [⟨(some 15), none, .ibin .add .i64 (.t 5) (.c (.int .i64 1))⟩,
⟨(some 5), none, .mov (.t 15)⟩] (some [0, 3, 5]))))))))
(.seq (.ops [⟨(some 16), none, .mov (.t 3)⟩,
⟨(some 2), none, .mov (.t 16)⟩] (some [2]))
.ret))))⟩
/-- guidevane/dam.determinant -/
def ir96 (r : Nat → Code × Code) : IFn := ⟨36, [.t 2],
(.seq (.ops [⟨(some 1), none, .box (.t 0)⟩,
⟨(some 2), none, .mov (.c (.int .i64 0))⟩] none)
(.seq (.ops [⟨(some 3), none, .alloc [(.int .i64 0)]⟩,
⟨none, none, .store 1 (.t 3) (.c (.int .i64 0))⟩] none)
(.seq (.seq (.ops [⟨(some 9), none, .load 1 false (.t 1)⟩,
⟨(some 10), none, .lenV (.t 9)⟩,
⟨(some 11), none, .call 115 [(.t 10)]⟩] none)
(.block 0 (.range 36 (.t 11) #[12, 13] (r 0).1 (r 0).2)))
(.seq (.ops [⟨(some 35), none, .load 1 false (.t 3)⟩,
⟨(some 2), none, .mov (.t 35)⟩] (some [2]))
.ret))))⟩
def ir96a0 : ICode :=
(.seq (.ops [⟨(some 4), none, .mov (.t 12)⟩] none)
(.ops [⟨(some 5), none, .mov (.t 13)⟩] none))
def ir96b0 : ICode :=
(.block 1 (.seq (.ops [⟨(some 14), none, .mov (.t 5)⟩,
⟨(some 6), none, .mov (.t 14)⟩] (some [1, 3, 4, 6]))
(.seq (.seq (.ops [⟨(some 15), none, .mov (.t 4)⟩,
⟨(some 16), none, .lenV (.t 15)⟩,
⟨(some 17), none, .mov (.c (.int .i64 0))⟩] (some [1, 3, 6, 15, 16, 17]))
(.block 2 (.loop (.seq (.ops [⟨(some 18), none, .ibin .lss .i64 (.t 17) (.t 16)⟩] none)
(.seq (.cond (.t 18)
.skip
(.exit 2))
(.seq (.block 3 (.seq (.ops [⟨(some 19), none, .mov (.t 17)⟩,
⟨(some 20), none, .iaddr 1 (.t 15) (.t 17)⟩,
⟨(some 21), none, .load 1 false (.t 20)⟩,
⟨(some 7), none, .mov (.t 19)⟩,
⟨(some 8), none, .mov (.t 21)⟩] (some [1, 3, 6, 7, 8, 15, 16, 17]))
(.ops [⟨(some 22), none, .mov (.t 6)⟩,
⟨(some 23), none, .load 1 false (.t 1)⟩,
⟨(some 24), none, .mov (.t 7)⟩,
⟨(some 25), none, .iaddr 1 (.t 23) (.t 24)⟩,
⟨(some 26), none, .load 1 false (.t 25)⟩,
⟨(some 27), none, .mov (.t 8)⟩,
⟨(some 28), none, .iaddr 1 (.t 26) (.t 27)⟩,
⟨(some 29), none, .load 1 false (.t 28)⟩,
⟨(some 30), none, .ibin .mul .i64 (.t 22) (.t 29)⟩,
⟨(some 6), none, .mov (.t 30)⟩] (some [1, 3, 6, 15, 16, 17]))))
(.ops [⟨(some 31), none, .ibin .add .i64 (.t 17) (.c (.int .i64 1))⟩,
⟨(some 17), none, .mov (.t 31)⟩] (some [1, 3, 6, 15, 16, 17]))))))))
(.ops [⟨(some 32), none, .load 1 false (.t 3)⟩,
⟨(some 33), none, .mov (.t 6)⟩,
⟨(some 34), none, .ibin .add .i64 (.t 32) (.t 33)⟩,
⟨none, none, .store 1 (.t 3) (.t 34)⟩] (some [])))))
/-- guidevane/dam.divisor -/
def ir97 : IFn := ⟨22, [.t 2],
(.seq (.ops [⟨(some 1), none, .box (.t 0)⟩,
⟨(some 2), none, .mov (.c (.int .i64 0))⟩] (some [1]))
(.seq (.ops [⟨(some 6), none, .faddr 0 (.t 1)⟩,
⟨(some 7), none, .load 1 false (.t 6)⟩,
⟨(some 3), none, .mov (.t 7)⟩] (some [1, 3]))
(.seq (.seq (.ops [⟨(some 8), none, .faddr 1 (.t 1)⟩,
⟨(some 9), none, .load 5 true (.t 8)⟩,
⟨(some 10), none, .mov (.c (.int .i64 0))⟩] (some [3, 9, 10]))
(.block 0 (.loop (.seq (.ops [⟨(some 11), none, .ibin .lss .i64 (.t 10) (.c (.int .i64 5))⟩] none)
(.seq (.cond (.t 11)
.skip
(.exit 0))
(.seq (.block 1 (.seq (.ops [⟨(some 12), none, .indexA 5 1 false (.t 9) (.t 10)⟩,
⟨(some 5), none, .mov (.t 12)⟩] (some [3, 5, 9, 10]))
(.block 2 (.loop (.seq (.seq (.ops [⟨(some 13), none, .mov (.t 5)⟩,
⟨(some 14), none, .ibin .neq .i64 (.t 13) (.c (.int .i64 0))⟩] (some [3, 5, 9, 10, 14]))
(.cond (.t 14)
.skip
(.exit 2)))
(.block 3 (.draw (.rd 0 ⟨(some 15), none, .mov (.t 5)⟩
(.rd 1 ⟨(some 16), none, .mov (.t 3)⟩
(.rd 2 ⟨(some 17), none, .mov (.t 5)⟩
(.rd 3 ⟨(some 18), none, .ibin .rem .i64 (.t 16) (.t 17)⟩
(.wr 4 ⟨(some 3), none, .mov (.t 15)⟩ [0, 0, 1]
(.wr 5 ⟨(some 5), none, .mov (.t 18)⟩ [3, 4, 0, 1, 2, 3, 4]
.fin .no) .no))))) (some [3, 5, 9, 10]))))))))
(.ops [⟨(some 19), none, .ibin .add .i64 (.t 10) (.c (.int .i64 1))⟩,
⟨(some 10), none, .mov (.t 19)⟩] (some [3, 9, 10]))))))))
(.seq (.ops [⟨(some 20), none, .mov (.t 3)⟩,
⟨(some 21), none, .call 100 [(.t 20)]⟩,
⟨(some 2), none, .mov (.t 21)⟩] (some [2]))
.ret))))⟩
/-- guidevane/dam.fitErr -/
def ir98 : IFn := ⟨15, [.t 2],
(.seq (.ops [⟨(some 1), none, .box (.t 0)⟩,
⟨(some 2), none, .mov (.c (.int .i64 0))⟩] (some [1]))
(.seq (.ops [⟨(some 4), none, .faddr 1 (.t 1)⟩,
⟨(some 5), none, .sliceA 5 1 (.t 4) none none none⟩,
⟨(some 6), none, .call 80 [(.t 5), (.f 116)]⟩,
⟨(some 3), none, .mov (.t 6)⟩] (some [1, 3]))
(.seq (.ops [⟨(some 7), none, .faddr 0 (.t 1)⟩,
⟨(some 8), none, .load 1 false (.t 7)⟩,
⟨(some 9), none, .call 65 [(.t 8), (.c (.int .i64 1)), (.c (.int .i64 1000000000000))]⟩,
⟨(some 10), none, .mov (.t 9)⟩,
⟨(some 11), (some (10, true)), .mov (.t 3)⟩,
⟨(some 12), (some (10, true)), .un .not (.t 11)⟩,
⟨(some 13), none, .pick (.t 10) (.t 12) (.c (.bool false))⟩,
⟨(some 14), none, .call 64 [(.t 13), (.c (.int .i64 2))]⟩,
⟨(some 2), none, .mov (.t 14)⟩] (some [2]))
.ret)))⟩
/-- guidevane/dam.size -/
def ir100 : IFn := ⟨7, [.t 2],
(.seq (.ops [⟨(some 2), none, .mov (.c (.int .i64 0))⟩] (some [0]))
(.seq (.ops [⟨(some 3), none, .mov (.t 0)⟩,
⟨(some 4), none, .mov (.t 0)⟩,
⟨(some 5), none, .un .neg (.t 4)⟩,
⟨(some 6), none, .minmax true (.t 3) [(.t 5)]⟩,
⟨(some 2), none, .mov (.t 6)⟩] (some [2]))
.ret))⟩
/-- slices.Sort[[]int,int] -/
def ir103 : IFn := ⟨11, [],
(.seq (.ops [⟨(some 3), none, .mov (.t 0)⟩,
⟨(some 4), none, .lenV (.t 3)⟩,
⟨(some 2), none, .mov (.t 4)⟩] (some [0, 2]))
(.ops [⟨(some 5), none, .mov (.t 0)⟩,
⟨(some 6), none, .mov (.t 2)⟩,
⟨(some 7), none, .mov (.t 2)⟩,
⟨(some 8), none, .conv .u64 (.t 7)⟩,
⟨(some 9), none, .call 119 [(.t 8)]⟩,
⟨(some 10), none, .call 118 [(.t 5), (.c (.int .i64 0)), (.t 6), (.t 9)]⟩] (some [])))⟩
/-- (guidevane/dam.valley).sweep$1 -/
def ir104 : IFn := ⟨14, [.t 4],
(.seq (.ops [⟨(some 4), none, .mov (.c (.bool false))⟩] (some [0, 1, 2]))
(.seq (.draw (.rd 0 ⟨(some 5), none, .load 2 true (.t 1)⟩
(.rd 1 ⟨(some 6), none, .load 1 false (.t 2)⟩
(.rd 2 ⟨(some 7), none, .faddr 0 (.t 1)⟩
(.rd 3 ⟨(some 8), none, .faddr 0 (.t 7)⟩
(.rd 4 ⟨(some 9), none, .load 1 false (.t 8)⟩
(.rd 5 ⟨(some 10), none, .mov (.t 0)⟩
(.rd 6 ⟨(some 11), none, .iaddr 2 (.t 9) (.t 10)⟩
(.rd 7 ⟨(some 12), none, .load 2 true (.t 11)⟩
(.wr 8 ⟨(some 13), none, .call 105 [(.t 5), (.t 6), (.t 12)]⟩ [0, 1, 7]
(.rd 9 ⟨(some 4), none, .mov (.t 13)⟩
.fin) .no))))))))) (some [4]))
.ret))⟩
/-- (guidevane/dam.valley).hears -/
def ir105 : IFn := ⟨20, [.t 6],
(.seq (.ops [⟨(some 3), none, .box (.t 0)⟩,
⟨(some 5), none, .box (.t 2)⟩,
⟨(some 6), none, .mov (.c (.bool false))⟩] (some [1, 3, 5]))
(.seq (.draw (.rd 0 ⟨(some 7), none, .faddr 0 (.t 3)⟩
(.rd 1 ⟨(some 8), none, .faddr 1 (.t 7)⟩
(.rd 2 ⟨(some 9), none, .load 1 false (.t 8)⟩
(.rd 3 ⟨(some 10), none, .mov (.t 1)⟩
(.rd 4 ⟨(some 11), none, .iaddr 1 (.t 9) (.t 10)⟩
(.rd 5 ⟨(some 12), none, .load 1 false (.t 11)⟩
(.rd 6 ⟨(some 13), none, .faddr 0 (.t 5)⟩
(.rd 7 ⟨(some 14), none, .load 1 false (.t 13)⟩
(.rd 8 ⟨(some 15), none, .ibin .sub .i64 (.t 12) (.t 14)⟩
(.rd 10 ⟨(some 17), none, .faddr 1 (.t 5)⟩
(.rd 11 ⟨(some 18), none, .load 1 false (.t 17)⟩
(.wr 9 ⟨(some 16), none, .call 100 [(.t 15)]⟩ [8]
(.rd 12 ⟨(some 19), none, .ibin .leq .i64 (.t 16) (.t 18)⟩
(.rd 13 ⟨(some 6), none, .mov (.t 19)⟩
.fin)) .no)))))))))))) (some [6]))
.ret))⟩
/-- slices.SortStableFunc[[]int,int] -/
def ir106 : IFn := ⟨9, [],
(.ops [⟨(some 4), none, .mov (.t 0)⟩,
⟨(some 5), none, .mov (.t 0)⟩,
⟨(some 6), none, .lenV (.t 5)⟩,
⟨(some 7), none, .mov (.t 1)⟩,
⟨(some 8), none, .call 120 [(.t 4), (.t 6), (.t 7)]⟩] (some []))⟩
/-- (guidevane/dam.valley).sweep$2 -/
def ir107 : IFn := ⟨19, [.t 5],
(.seq (.ops [⟨(some 5), none, .mov (.c (.int .i64 0))⟩] (some [0, 1, 2]))
(.seq (.draw (.rd 0 ⟨(some 6), none, .faddr 0 (.t 2)⟩
(.rd 1 ⟨(some 7), none, .faddr 1 (.t 6)⟩
(.rd 2 ⟨(some 8), none, .load 1 false (.t 7)⟩
(.rd 3 ⟨(some 9), none, .mov (.t 0)⟩
(.rd 4 ⟨(some 10), none, .iaddr 1 (.t 8) (.t 9)⟩
(.rd 5 ⟨(some 11), none, .load 1 false (.t 10)⟩
(.rd 6 ⟨(some 12), none, .faddr 0 (.t 2)⟩
(.rd 7 ⟨(some 13), none, .faddr 1 (.t 12)⟩
(.rd 8 ⟨(some 14), none, .load 1 false (.t 13)⟩
(.rd 9 ⟨(some 15), none, .mov (.t 1)⟩
(.rd 10 ⟨(some 16), none, .iaddr 1 (.t 14) (.t 15)⟩
(.rd 11 ⟨(some 17), none, .load 1 false (.t 16)⟩
(.wr 12 ⟨(some 18), none, .call 108 [(.t 11), (.t 17)]⟩ [5, 11]
(.rd 13 ⟨(some 5), none, .mov (.t 18)⟩
.fin) .no))))))))))))) (some [5]))
.ret))⟩
/-- cmp.Compare[int] -/
def ir108 : IFn := ⟨20, [.t 4],
(.seq (.ops [⟨(some 4), none, .mov (.c (.int .i64 0))⟩] (some [0, 1]))
(.seq (.ops [⟨(some 7), none, .mov (.t 0)⟩,
⟨(some 8), none, .call 121 [(.t 7)]⟩,
⟨(some 5), none, .mov (.t 8)⟩] (some [0, 1, 5]))
(.seq (.ops [⟨(some 9), none, .mov (.t 1)⟩,
⟨(some 10), none, .call 121 [(.t 9)]⟩,
⟨(some 6), none, .mov (.t 10)⟩] (some [0, 1, 5, 6]))
(.seq (.seq (.ops [⟨(some 11), none, .mov (.t 5)⟩] (some [0, 1, 6, 11]))
(.cond (.t 11)
(.seq (.seq (.ops [⟨(some 12), none, .mov (.t 6)⟩] (some [12]))
(.cond (.t 12)
(.seq (.ops [⟨(some 4), none, .mov (.c (.int .i64 0))⟩] none)
.ret)
.skip))
(.seq (.ops [⟨(some 4), none, .mov (.c (.int .i64 (-1)))⟩] none)
.ret))
.skip))
(.seq (.seq (.ops [⟨(some 13), none, .mov (.t 6)⟩] (some [0, 1, 13]))
(.cond (.t 13)
(.seq (.ops [⟨(some 4), none, .mov (.c (.int .i64 1))⟩] none)
.ret)
.skip))
(.seq (.seq (.ops [⟨(some 14), none, .mov (.t 0)⟩,
⟨(some 15), none, .mov (.t 1)⟩,
⟨(some 16), none, .ibin .lss .i64 (.t 14) (.t 15)⟩] (some [0, 1, 16]))
(.cond (.t 16)
(.seq (.ops [⟨(some 4), none, .mov (.c (.int .i64 (-1)))⟩] none)
.ret)
.skip))
(.seq (.seq (.ops [⟨(some 17), none, .mov (.t 0)⟩,
⟨(some 18), none, .mov (.t 1)⟩,
⟨(some 19), none, .ibin .gtr .i64 (.t 17) (.t 18)⟩] (some [19]))
(.cond (.t 19)
(.seq (.ops [⟨(some 4), none, .mov (.c (.int .i64 1))⟩] none)
.ret)
.skip))
(.seq (.ops [⟨(some 4), none, .mov (.c (.int .i64 0))⟩] none)
.ret))))))))⟩
/-- slices.IndexFunc[[]guidevane/api.DamPerson,guidevane/api.DamPerson] -/
def ir110 : IFn := ⟨19, [.t 4],
(.seq (.ops [⟨(some 4), none, .mov (.c (.int .i64 0))⟩] (some [0, 1]))
(.seq (.seq (.ops [⟨(some 6), none, .mov (.t 0)⟩,
⟨(some 7), none, .lenV (.t 6)⟩,
⟨(some 8), none, .mov (.c (.int .i64 0))⟩] (some [0, 1, 7, 8]))
(.block 0 (.loop (.seq (.ops [⟨(some 9), none, .ibin .lss .i64 (.t 8) (.t 7)⟩] none)
(.seq (.cond (.t 9)
.skip
(.exit 0))
(.seq (.block 1 (.seq (.ops [⟨(some 10), none, .mov (.t 8)⟩,
⟨(some 5), none, .mov (.t 10)⟩] (some [0, 1, 5, 7, 8]))
(.seq (.ops [⟨(some 11), none, .mov (.t 1)⟩,
⟨(some 12), none, .mov (.t 0)⟩,
⟨(some 13), none, .mov (.t 5)⟩,
⟨(some 14), none, .iaddr 2 (.t 12) (.t 13)⟩,
⟨(some 15), none, .load 2 true (.t 14)⟩,
⟨(some 16), none, .callv (.t 11) [(.t 15)]⟩] (some [0, 1, 5, 7, 8, 16]))
(.cond (.t 16)
(.seq (.ops [⟨(some 17), none, .mov (.t 5)⟩,
⟨(some 4), none, .mov (.t 17)⟩] (some [4]))
.ret)
.skip))))
(.ops [⟨(some 18), none, .ibin .add .i64 (.t 8) (.c (.int .i64 1))⟩,
⟨(some 8), none, .mov (.t 18)⟩] (some [0, 1, 7, 8]))))))))
(.seq (.ops [⟨(some 4), none, .mov (.c (.int .i64 (-1)))⟩] none)
.ret)))⟩
/-- guidevane/dam.isLetter -/
def ir111 : IFn := ⟨11, [.t 2],
(.seq (.ops [⟨(some 2), none, .mov (.c (.bool false))⟩] (some [0]))
(.seq (.ops [⟨(some 3), none, .mov (.t 0)⟩,
⟨(some 4), none, .conv .i64 (.t 3)⟩,
⟨(some 5), none, .call 65 [(.t 4), (.c (.int .i64 97)), (.c (.int .i64 122))]⟩,
⟨(some 6), none, .mov (.t 5)⟩,
⟨(some 7), (some (6, false)), .mov (.t 0)⟩,
⟨(some 8), (some (6, false)), .conv .i64 (.t 7)⟩,
⟨(some 9), (some (6, false)), .call 65 [(.t 8), (.c (.int .i64 65)), (.c (.int .i64 90))]⟩,
⟨(some 10), none, .pick (.t 6) (.c (.bool true)) (.t 9)⟩,
⟨(some 2), none, .mov (.t 10)⟩] (some [2]))
.ret))⟩
/-- slices.BinarySearch[[]int,int] -/
def ir112 : IFn := ⟨54, [.t 4, .t 5],
(.seq (.ops [⟨(some 4), none, .mov (.c (.int .i64 0))⟩,
⟨(some 5), none, .mov (.c (.bool false))⟩] (some [0, 1]))
(.seq (.ops [⟨(some 10), none, .mov (.t 0)⟩,
⟨(some 11), none, .lenV (.t 10)⟩,
⟨(some 6), none, .mov (.t 11)⟩] (some [0, 1, 6]))
(.seq (.ops [⟨(some 12), none, .mov (.t 6)⟩,
⟨(some 7), none, .mov (.c (.int .i64 0))⟩,
⟨(some 8), none, .mov (.t 12)⟩] (some [0, 1, 6, 7, 8]))
(.seq (.block 0 (.loop (.seq (.seq (.ops [⟨(some 13), none, .mov (.t 7)⟩,
⟨(some 14), none, .mov (.t 8)⟩,
⟨(some 15), none, .ibin .lss .i64 (.t 13) (.t 14)⟩] (some [0, 1, 6, 7, 8, 15]))
(.cond (.t 15)
.skip
(.exit 0)))
(.block 1 (.seq (.ops [⟨(some 16), none, .mov (.t 7)⟩,
⟨(some 17), none, .mov (.t 8)⟩,
⟨(some 18), none, .ibin .add .i64 (.t 16) (.t 17)⟩,
⟨(some 19), none, .conv .u64 (.t 18)⟩,
⟨(some 20), none, .shift .shr .u64 (.t 19) (.c (.int .u64 1))⟩,
⟨(some 21), none, .conv .i64 (.t 20)⟩,
⟨(some 9), none, .mov (.t 21)⟩] (some [0, 1, 6, 7, 8, 9]))
(.seq (.ops [⟨(some 22), none, .mov (.t 0)⟩,
⟨(some 23), none, .mov (.t 9)⟩,
⟨(some 24), none, .iaddr 1 (.t 22) (.t 23)⟩,
⟨(some 25), none, .load 1 false (.t 24)⟩,
⟨(some 26), none, .mov (.t 1)⟩,
⟨(some 27), none, .call 122 [(.t 25), (.t 26)]⟩] (some [0, 1, 6, 7, 8, 9, 27]))
(.cond (.t 27)
(.ops [⟨(some 28), none, .mov (.t 9)⟩,
⟨(some 29), none, .ibin .add .i64 (.t 28) (.c (.int .i64 1))⟩,
⟨(some 7), none, .mov (.t 29)⟩] (some [0, 1, 6, 7, 8]))
(.ops [⟨(some 30), none, .mov (.t 9)⟩,
⟨(some 8), none, .mov (.t 30)⟩] (some [0, 1, 6, 7, 8])))))))))
(.seq (.ops [⟨(some 31), none, .mov (.t 7)⟩,
⟨(some 32), none, .mov (.t 7)⟩,
⟨(some 33), none, .mov (.t 6)⟩,
⟨(some 34), none, .ibin .lss .i64 (.t 32) (.t 33)⟩,
⟨(some 35), none, .mov (.t 34)⟩,
⟨(some 36), (some (35, true)), .mov (.t 0)⟩,
⟨(some 37), (some (35, true)), .mov (.t 7)⟩,
⟨(some 38), (some (35, true)), .iaddr 1 (.t 36) (.t 37)⟩,
⟨(some 39), (some (35, true)), .load 1 false (.t 38)⟩,
⟨(some 40), (some (35, true)), .mov (.t 1)⟩,
⟨(some 41), (some (35, true)), .ibin .eql .i64 (.t 39) (.t 40)⟩,
⟨(some 42), (some (35, true)), .mov (.t 41)⟩,
⟨(some 43), (some (42, false)), .mov (.t 0)⟩,
⟨(some 44), (some (42, false)), .mov (.t 7)⟩,
⟨(some 45), (some (42, false)), .iaddr 1 (.t 43) (.t 44)⟩,
⟨(some 46), (some (42, false)), .load 1 false (.t 45)⟩,
⟨(some 47), (some (42, false)), .call 123 [(.t 46)]⟩,
⟨(some 48), (some (42, false)), .mov (.t 47)⟩,
⟨(some 49), (some (48, true)), .mov (.t 1)⟩,
⟨(some 50), (some (48, true)), .call 123 [(.t 49)]⟩,
⟨(some 51), (some (42, false)), .pick (.t 48) (.t 50) (.c (.bool false))⟩,
⟨(some 52), (some (35, true)), .pick (.t 42) (.c (.bool true)) (.t 51)⟩,
⟨(some 53), none, .pick (.t 35) (.t 52) (.c (.bool false))⟩,
⟨(some 4), none, .mov (.t 31)⟩,
⟨(some 5), none, .mov (.t 53)⟩] (some [4, 5]))
.ret)))))⟩
/-- (guidevane/dam.model).has -/
def ir114 : IFn := ⟨10, [.t 4],
(.seq (.ops [⟨(some 4), none, .mov (.c (.bool false))⟩] (some [0, 1]))
(.seq (.ops [⟨(some 5), none, .mov (.t 0)⟩,
⟨(some 6), none, .mov (.t 1)⟩,
⟨(some 7), none, .shift .shr .i64 (.t 5) (.t 6)⟩,
⟨(some 8), none, .ibin .and .i64 (.t 7) (.c (.int .i64 1))⟩,
⟨(some 9), none, .ibin .eql .i64 (.t 8) (.c (.int .i64 1))⟩,
⟨(some 4), none, .mov (.t 9)⟩] (some [4]))
.ret))⟩
/-- guidevane/dam.orders -/
def ir115 : IFn := ⟨4, [.t 2],
(.seq (.ops [⟨(some 1), none, .box (.t 0)⟩,
⟨(some 2), none, .mov (.c .nilFunc)⟩] (some [1]))
(.seq (.ops [⟨(some 3), none, .mkfunc 124 [] [(.t 1)]⟩,
⟨(some 2), none, .mov (.t 3)⟩] (some [2]))
.ret))⟩
/-- guidevane/dam.fitErr$1 -/
def ir116 : IFn := ⟨6, [.t 2],
(.seq (.ops [⟨(some 2), none, .mov (.c (.bool false))⟩] (some [0]))
(.seq (.ops [⟨(some 3), none, .mov (.t 0)⟩,
⟨(some 4), none, .call 78 [(.t 3), (.c (.int .i64 1000000000000))]⟩,
⟨(some 5), none, .un .not (.t 4)⟩,
⟨(some 2), none, .mov (.t 5)⟩] (some [2]))
.ret))⟩
/-- slices.pdqsortOrdered[int] -/
def ir118 : IFn := ⟨134, [],
(.seq (.ops [⟨(some 8), none, .mov (.c (.bool true))⟩] none)
(.seq (.ops [⟨(some 9), none, .mov (.c (.bool true))⟩] none)
(.block 0 (.loop (.block 1 (.seq (.ops [⟨(some 19), none, .mov (.t 2)⟩,
⟨(some 20), none, .mov (.t 1)⟩,
⟨(some 21), none, .ibin .sub .i64 (.t 19) (.t 20)⟩,
⟨(some 10), none, .mov (.t 21)⟩] (some [0, 1, 2, 3, 8, 9, 10]))
(.seq (.seq (.ops [⟨(some 22), none, .mov (.t 10)⟩,
⟨(some 23), none, .ibin .leq .i64 (.t 22) (.c (.int .i64 12))⟩] (some [0, 1, 2, 3, 8, 9, 10, 23]))
(.cond (.t 23)
(.seq (.ops [⟨(some 24), none, .mov (.t 0)⟩,
⟨(some 25), none, .mov (.t 1)⟩,
⟨(some 26), none, .mov (.t 2)⟩,
⟨(some 27), none, .call 126 [(.t 24), (.t 25), (.t 26)]⟩] (some []))
.ret)
.skip))
(.seq (.seq (.ops [⟨(some 28), none, .mov (.t 3)⟩,
⟨(some 29), none, .ibin .eql .i64 (.t 28) (.c (.int .i64 0))⟩] (some [0, 1, 2, 3, 8, 9, 10, 29]))
(.cond (.t 29)
(.seq (.ops [⟨(some 30), none, .mov (.t 0)⟩,
⟨(some 31), none, .mov (.t 1)⟩,
⟨(some 32), none, .mov (.t 2)⟩,
⟨(some 33), none, .call 127 [(.t 30), (.t 31), (.t 32)]⟩] (some []))
.ret)
.skip))
(.seq (.seq (.ops [⟨(some 34), none, .mov (.t 8)⟩,
⟨(some 35), none, .un .not (.t 34)⟩] (some [0, 1, 2, 3, 8, 9, 10, 35]))
(.cond (.t 35)
(.seq (.ops [⟨(some 36), none, .mov (.t 0)⟩,
⟨(some 37), none, .mov (.t 1)⟩,
⟨(some 38), none, .mov (.t 2)⟩,
⟨(some 39), none, .call 128 [(.t 36), (.t 37), (.t 38)]⟩] (some [0, 1, 2, 3, 8, 9, 10]))
(.ops [⟨(some 40), none, .mov (.t 3)⟩,
⟨(some 41), none, .ibin .sub .i64 (.t 40) (.c (.int .i64 1))⟩,
⟨(some 3), none, .mov (.t 41)⟩] (some [0, 1, 2, 3, 8, 9, 10])))
.skip))
(.seq (.ops [⟨(some 43), none, .mov (.t 0)⟩,
⟨(some 44), none, .mov (.t 1)⟩,
⟨(some 45), none, .mov (.t 2)⟩,
⟨(some 46), none, .call 129 [(.t 43), (.t 44), (.t 45)]⟩,
⟨(some 42), none, .mov (.t 46)⟩,
⟨(some 47), none, .extract 0 (.t 42)⟩,
⟨(some 48), none, .extract 1 (.t 42)⟩,
⟨(some 11), none, .mov (.t 47)⟩,
⟨(some 12), none, .mov (.t 48)⟩] (some [0, 1, 2, 3, 8, 9, 10, 11, 12]))
(.seq (.seq (.ops [⟨(some 49), none, .mov (.t 12)⟩,
⟨(some 50), none, .ibin .eql .i64 (.t 49) (.c (.int .i64 2))⟩] (some [0, 1, 2, 3, 8, 9, 10, 11, 12, 50]))
(.cond (.t 50)
(.seq (.ops [⟨(some 51), none, .mov (.t 0)⟩,
⟨(some 52), none, .mov (.t 1)⟩,
⟨(some 53), none, .mov (.t 2)⟩,
⟨(some 54), none, .call 130 [(.t 51), (.t 52), (.t 53)]⟩] (some [0, 1, 2, 3, 8, 9, 10, 11]))
(.seq (.ops [⟨(some 55), none, .mov (.t 2)⟩,
⟨(some 56), none, .ibin .sub .i64 (.t 55) (.c (.int .i64 1))⟩,
⟨(some 57), none, .mov (.t 11)⟩,
⟨(some 58), none, .mov (.t 1)⟩,
⟨(some 59), none, .ibin .sub .i64 (.t 57) (.t 58)⟩,
⟨(some 60), none, .ibin .sub .i64 (.t 56) (.t 59)⟩,
⟨(some 11), none, .mov (.t 60)⟩] (some [0, 1, 2, 3, 8, 9, 10, 11]))
(.ops [⟨(some 12), none, .mov (.c (.int .i64 1))⟩] none)))
.skip))
(.seq (.seq (.ops [⟨(some 61), none, .mov (.t 8)⟩,
⟨(some 62), none, .mov (.t 61)⟩,
⟨(some 63), (some (62, true)), .mov (.t 9)⟩,
⟨(some 64), none, .pick (.t 62) (.t 63) (.c (.bool false))⟩,
⟨(some 65), none, .mov (.t 64)⟩,
⟨(some 66), (some (65, true)), .mov (.t 12)⟩,
⟨(some 67), (some (65, true)), .ibin .eql .i64 (.t 66) (.c (.int .i64 1))⟩,
⟨(some 68), none, .pick (.t 65) (.t 67) (.c (.bool false))⟩] (some [0, 1, 2, 3, 8, 9, 10, 11, 68]))
(.cond (.t 68)
(.seq (.ops [⟨(some 69), none, .mov (.t 0)⟩,
⟨(some 70), none, .mov (.t 1)⟩,
⟨(some 71), none, .mov (.t 2)⟩,
⟨(some 72), none, .call 131 [(.t 69), (.t 70), (.t 71)]⟩] (some [0, 1, 2, 3, 8, 9, 10, 11, 72]))
(.cond (.t 72)
.ret
.skip))
.skip))
(.seq (.seq (.draw (.rd 0 ⟨(some 73), none, .mov (.t 1)⟩
(.rd 1 ⟨(some 74), none, .ibin .gtr .i64 (.t 73) (.c (.int .i64 0))⟩
(.rd 2 ⟨(some 75), none, .mov (.t 74)⟩
(.rd 3 ⟨(some 76), (some (75, true)), .mov (.t 0)⟩
(.rd 4 ⟨(some 77), (some (75, true)), .mov (.t 1)⟩
(.rd 5 ⟨(some 78), (some (75, true)), .ibin .sub .i64 (.t 77) (.c (.int .i64 1))⟩
(.rd 6 ⟨(some 79), (some (75, true)), .iaddr 1 (.t 76) (.t 78)⟩
(.rd 7 ⟨(some 80), (some (75, true)), .load 1 false (.t 79)⟩
(.rd 8 ⟨(some 81), (some (75, true)), .mov (.t 0)⟩
(.rd 9 ⟨(some 82), (some (75, true)), .mov (.t 11)⟩
(.rd 10 ⟨(some 83), (some (75, true)), .iaddr 1 (.t 81) (.t 82)⟩
(.rd 11 ⟨(some 84), (some (75, true)), .load 1 false (.t 83)⟩
(.wr 12 ⟨(some 85), (some (75, true)), .call 122 [(.t 80), (.t 84)]⟩ [7, 11, 2, 2]
(.rd 13 ⟨(some 86), (some (75, true)), .un .not (.t 85)⟩
(.rd 14 ⟨(some 87), none, .pick (.t 75) (.t 86) (.c (.bool false))⟩
.fin)) .no))))))))))))) (some [0, 1, 2, 3, 8, 9, 10, 11, 87]))
(.cond (.t 87)
(.seq (.ops [⟨(some 88), none, .mov (.t 0)⟩,
⟨(some 89), none, .mov (.t 1)⟩,
⟨(some 90), none, .mov (.t 2)⟩,
⟨(some 91), none, .mov (.t 11)⟩,
⟨(some 92), none, .call 132 [(.t 88), (.t 89), (.t 90), (.t 91)]⟩,
⟨(some 13), none, .mov (.t 92)⟩] (some [0, 2, 3, 8, 9, 13]))
(.seq (.ops [⟨(some 93), none, .mov (.t 13)⟩,
⟨(some 1), none, .mov (.t 93)⟩] (some [0, 1, 2, 3, 8, 9]))
(.exit 1)))
.skip))
(.seq (.ops [⟨(some 95), none, .mov (.t 0)⟩,
⟨(some 96), none, .mov (.t 1)⟩,
⟨(some 97), none, .mov (.t 2)⟩,
⟨(some 98), none, .mov (.t 11)⟩,
⟨(some 99), none, .call 133 [(.t 95), (.t 96), (.t 97), (.t 98)]⟩,
⟨(some 94), none, .mov (.t 99)⟩,
⟨(some 100), none, .extract 0 (.t 94)⟩,
⟨(some 101), none, .extract 1 (.t 94)⟩,
⟨(some 14), none, .mov (.t 100)⟩,
⟨(some 15), none, .mov (.t 101)⟩] (some [0, 1, 2, 3, 10, 14, 15]))
(.seq (.ops [⟨(some 102), none, .mov (.t 15)⟩,
⟨(some 9), none, .mov (.t 102)⟩] (some [0, 1, 2, 3, 9, 10, 14]))
(.seq (.ops [⟨(some 103), none, .mov (.t 14)⟩,
⟨(some 104), none, .mov (.t 1)⟩,
⟨(some 105), none, .ibin .sub .i64 (.t 103) (.t 104)⟩,
⟨(some 106), none, .mov (.t 2)⟩,
⟨(some 107), none, .mov (.t 14)⟩,
⟨(some 108), none, .ibin .sub .i64 (.t 106) (.t 107)⟩,
⟨(some 16), none, .mov (.t 105)⟩,
⟨(some 17), none, .mov (.t 108)⟩] (some [0, 1, 2, 3, 9, 10, 14, 16, 17]))
(.seq (.ops [⟨(some 109), none, .mov (.t 10)⟩,
⟨(some 110), none, .ibin .quo .i64 (.t 109) (.c (.int .i64 8))⟩,
⟨(some 18), none, .mov (.t 110)⟩] (some [0, 1, 2, 3, 9, 14, 16, 17, 18]))
(.seq (.ops [⟨(some 111), none, .mov (.t 16)⟩,
⟨(some 112), none, .mov (.t 17)⟩,
⟨(some 113), none, .ibin .lss .i64 (.t 111) (.t 112)⟩] (some [0, 1, 2, 3, 9, 14, 16, 17, 18, 113]))
(.cond (.t 113)
(.seq (.ops [⟨(some 114), none, .mov (.t 16)⟩,
⟨(some 115), none, .mov (.t 18)⟩,
⟨(some 116), none, .ibin .geq .i64 (.t 114) (.t 115)⟩,
⟨(some 8), none, .mov (.t 116)⟩] (some [0, 1, 2, 3, 8, 9, 14]))
(.seq (.ops [⟨(some 117), none, .mov (.t 0)⟩,
⟨(some 118), none, .mov (.t 1)⟩,
⟨(some 119), none, .mov (.t 14)⟩,
⟨(some 120), none, .mov (.t 3)⟩,
⟨(some 121), none, .call 118 [(.t 117), (.t 118), (.t 119), (.t 120)]⟩] (some [0, 2, 3, 8, 9, 14]))
(.ops [⟨(some 122), none, .mov (.t 14)⟩,
⟨(some 123), none, .ibin .add .i64 (.t 122) (.c (.int .i64 1))⟩,
⟨(some 1), none, .mov (.t 123)⟩] (some [0, 1, 2, 3, 8, 9]))))
(.seq (.ops [⟨(some 124), none, .mov (.t 17)⟩,
⟨(some 125), none, .mov (.t 18)⟩,
⟨(some 126), none, .ibin .geq .i64 (.t 124) (.t 125)⟩,
⟨(some 8), none, .mov (.t 126)⟩] (some [0, 1, 2, 3, 8, 9, 14]))
(.seq (.ops [⟨(some 127), none, .mov (.t 0)⟩,
⟨(some 128), none, .mov (.t 14)⟩,
⟨(some 129), none, .ibin .add .i64 (.t 128) (.c (.int .i64 1))⟩,
⟨(some 130), none, .mov (.t 2)⟩,
⟨(some 131), none, .mov (.t 3)⟩,
⟨(some 132), none, .call 118 [(.t 127), (.t 129), (.t 130), (.t 131)]⟩] (some [0, 1, 3, 8, 9, 14]))
(.ops [⟨(some 133), none, .mov (.t 14)⟩,
⟨(some 2), none, .mov (.t 133)⟩] (some [0, 1, 2, 3, 8, 9])))))))))))))))))))))))⟩
/-- math/bits.Len -/
def ir119 : IFn := ⟨8, [.t 2],
(.seq (.ops [⟨(some 2), none, .mov (.c (.int .i64 0))⟩] (some [0]))
(.seq (.cond (.c (.bool false))
(.seq (.ops [⟨(some 3), none, .mov (.t 0)⟩,
⟨(some 4), none, .conv .u32 (.t 3)⟩,
⟨(some 5), none, .call 134 [(.t 4)]⟩,
⟨(some 2), none, .mov (.t 5)⟩] (some [2]))
.ret)
.skip)
(.seq (.ops [⟨(some 6), none, .mov (.t 0)⟩,
⟨(some 7), none, .call 135 [(.t 6)]⟩,
⟨(some 2), none, .mov (.t 7)⟩] (some [2]))
.ret)))⟩
/-- slices.stableCmpFunc[int] -/
def ir120 : IFn := ⟨63, [],
(.seq (.ops [⟨(some 6), none, .mov (.c (.int .i64 20))⟩] none)
(.seq (.ops [⟨(some 10), none, .mov (.t 6)⟩,
⟨(some 7), none, .mov (.c (.int .i64 0))⟩,
⟨(some 8), none, .mov (.t 10)⟩] (some [0, 1, 2, 6, 7, 8]))
(.seq (.block 0 (.loop (.seq (.seq (.ops [⟨(some 11), none, .mov (.t 8)⟩,
⟨(some 12), none, .mov (.t 1)⟩,
⟨(some 13), none, .ibin .leq .i64 (.t 11) (.t 12)⟩] (some [0, 1, 2, 6, 7, 8, 13]))
(.cond (.t 13)
.skip
(.exit 0)))
(.block 1 (.seq (.ops [⟨(some 14), none, .mov (.t 0)⟩,
⟨(some 15), none, .mov (.t 7)⟩,
⟨(some 16), none, .mov (.t 8)⟩,
⟨(some 17), none, .mov (.t 2)⟩,
⟨(some 18), none, .call 136 [(.t 14), (.t 15), (.t 16), (.t 17)]⟩] (some [0, 1, 2, 6, 8]))
(.seq (.ops [⟨(some 19), none, .mov (.t 8)⟩,
⟨(some 7), none, .mov (.t 19)⟩] (some [0, 1, 2, 6, 7, 8]))
(.ops [⟨(some 20), none, .mov (.t 8)⟩,
⟨(some 21), none, .mov (.t 6)⟩,
⟨(some 22), none, .ibin .add .i64 (.t 20) (.t 21)⟩,
⟨(some 8), none, .mov (.t 22)⟩] (some [0, 1, 2, 6, 7, 8]))))))))
(.seq (.ops [⟨(some 23), none, .mov (.t 0)⟩,
⟨(some 24), none, .mov (.t 7)⟩,
⟨(some 25), none, .mov (.t 1)⟩,
⟨(some 26), none, .mov (.t 2)⟩,
⟨(some 27), none, .call 136 [(.t 23), (.t 24), (.t 25), (.t 26)]⟩] (some [0, 1, 2, 6]))
(.block 2 (.loop (.seq (.seq (.ops [⟨(some 28), none, .mov (.t 6)⟩,
⟨(some 29), none, .mov (.t 1)⟩,
⟨(some 30), none, .ibin .lss .i64 (.t 28) (.t 29)⟩] (some [0, 1, 2, 6, 30]))
(.cond (.t 30)
.skip
(.exit 2)))
(.block 3 (.seq (.ops [⟨(some 31), none, .mov (.t 6)⟩,
⟨(some 32), none, .ibin .mul .i64 (.c (.int .i64 2)) (.t 31)⟩,
⟨(some 7), none, .mov (.c (.int .i64 0))⟩,
⟨(some 8), none, .mov (.t 32)⟩] (some [0, 1, 2, 6, 7, 8]))
(.seq (.block 4 (.loop (.seq (.seq (.ops [⟨(some 33), none, .mov (.t 8)⟩,
⟨(some 34), none, .mov (.t 1)⟩,
⟨(some 35), none, .ibin .leq .i64 (.t 33) (.t 34)⟩] (some [0, 1, 2, 6, 7, 8, 35]))
(.cond (.t 35)
.skip
(.exit 4)))
(.block 5 (.seq (.ops [⟨(some 36), none, .mov (.t 0)⟩,
⟨(some 37), none, .mov (.t 7)⟩,
⟨(some 38), none, .mov (.t 7)⟩,
⟨(some 39), none, .mov (.t 6)⟩,
⟨(some 40), none, .ibin .add .i64 (.t 38) (.t 39)⟩,
⟨(some 41), none, .mov (.t 8)⟩,
⟨(some 42), none, .mov (.t 2)⟩,
⟨(some 43), none, .call 137 [(.t 36), (.t 37), (.t 40), (.t 41), (.t 42)]⟩] (some [0, 1, 2, 6, 8]))
(.seq (.ops [⟨(some 44), none, .mov (.t 8)⟩,
⟨(some 7), none, .mov (.t 44)⟩] (some [0, 1, 2, 6, 7, 8]))
(.ops [⟨(some 45), none, .mov (.t 8)⟩,
⟨(some 46), none, .mov (.t 6)⟩,
⟨(some 47), none, .ibin .mul .i64 (.c (.int .i64 2)) (.t 46)⟩,
⟨(some 48), none, .ibin .add .i64 (.t 45) (.t 47)⟩,
⟨(some 8), none, .mov (.t 48)⟩] (some [0, 1, 2, 6, 7, 8]))))))))
(.seq (.seq (.ops [⟨(some 49), none, .mov (.t 7)⟩,
⟨(some 50), none, .mov (.t 6)⟩,
⟨(some 51), none, .ibin .add .i64 (.t 49) (.t 50)⟩,
⟨(some 9), none, .mov (.t 51)⟩] (some [0, 1, 2, 6, 7, 9]))
(.seq (.ops [⟨(some 52), none, .mov (.t 9)⟩,
⟨(some 53), none, .mov (.t 1)⟩,
⟨(some 54), none, .ibin .lss .i64 (.t 52) (.t 53)⟩] (some [0, 1, 2, 6, 7, 9, 54]))
(.cond (.t 54)
(.ops [⟨(some 55), none, .mov (.t 0)⟩,
⟨(some 56), none, .mov (.t 7)⟩,
⟨(some 57), none, .mov (.t 9)⟩,
⟨(some 58), none, .mov (.t 1)⟩,
⟨(some 59), none, .mov (.t 2)⟩,
⟨(some 60), none, .call 137 [(.t 55), (.t 56), (.t 57), (.t 58), (.t 59)]⟩] (some [0, 1, 2, 6]))
.skip)))
(.ops [⟨(some 61), none, .mov (.t 6)⟩,
⟨(some 62), none, .ibin .mul .i64 (.t 61) (.c (.int .i64 2))⟩,
⟨(some 6), none, .mov (.t 62)⟩] (some [0, 1, 2, 6])))))))))))))⟩
/-- cmp.isNaN[int] -/
def ir121 : IFn := ⟨6, [.t 2],
(.seq (.ops [⟨(some 2), none, .mov (.c (.bool false))⟩] (some [0]))
(.seq (.ops [⟨(some 3), none, .mov (.t 0)⟩,
⟨(some 4), none, .mov (.t 0)⟩,
⟨(some 5), none, .ibin .neq .i64 (.t 3) (.t 4)⟩,
⟨(some 2), none, .mov (.t 5)⟩] (some [2]))
.ret))⟩
/-- cmp.Less[int] -/
def ir122 : IFn := ⟨17, [.t 4],
(.seq (.ops [⟨(some 4), none, .mov (.c (.bool false))⟩] (some [0, 1]))
(.seq (.ops [⟨(some 5), none, .mov (.t 0)⟩,
⟨(some 6), none, .call 121 [(.t 5)]⟩,
⟨(some 7), none, .mov (.t 6)⟩,
⟨(some 8), (some (7, true)), .mov (.t 1)⟩,
⟨(some 9), (some (7, true)), .call 121 [(.t 8)]⟩,
⟨(some 10), (some (7, true)), .un .not (.t 9)⟩,
⟨(some 11), none, .pick (.t 7) (.t 10) (.c (.bool false))⟩,
⟨(some 12), none, .mov (.t 11)⟩,
⟨(some 13), (some (12, false)), .mov (.t 0)⟩,
⟨(some 14), (some (12, false)), .mov (.t 1)⟩,
⟨(some 15), (some (12, false)), .ibin .lss .i64 (.t 13) (.t 14)⟩,
⟨(some 16), none, .pick (.t 12) (.c (.bool true)) (.t 15)⟩,
⟨(some 4), none, .mov (.t 16)⟩] (some [4]))
.ret))⟩
/-- slices.isNaN[int] -/
def ir123 : IFn := ⟨6, [.t 2],
(.seq (.ops [⟨(some 2), none, .mov (.c (.bool false))⟩] (some [0]))
(.seq (.ops [⟨(some 3), none, .mov (.t 0)⟩,
⟨(some 4), none, .mov (.t 0)⟩,
⟨(some 5), none, .ibin .neq .i64 (.t 3) (.t 4)⟩,
⟨(some 2), none, .mov (.t 5)⟩] (some [2]))
.ret))⟩
/-- guidevane/dam.orders$1 -/
def ir124 : IFn := ⟨6, [],
(.ops [⟨(some 3), none, .load 1 false (.t 1)⟩,
⟨(some 4), none, .mov (.t 0)⟩,
⟨(some 5), none, .call 125 [(.c (.slice none 0 0)), (.t 3), (.c (.int .i64 1)), (.t 4)]⟩] (some []))⟩
/-- guidevane/dam.ordered -/
def ir125 : IFn := ⟨38, [.t 8],
(.seq (.ops [⟨(some 8), none, .mov (.c (.bool false))⟩] (some [0, 1, 2, 3]))
(.seq (.seq (.ops [⟨(some 10), none, .mov (.t 0)⟩,
⟨(some 11), none, .lenV (.t 10)⟩,
⟨(some 12), none, .mov (.t 1)⟩,
⟨(some 13), none, .ibin .eql .i64 (.t 11) (.t 12)⟩] (some [0, 1, 2, 3, 13]))
(.cond (.t 13)
(.seq (.ops [⟨(some 14), none, .mov (.t 3)⟩,
⟨(some 15), none, .mov (.t 0)⟩,
⟨(some 16), none, .mov (.t 2)⟩,
⟨(some 17), none, .callv (.t 14) [(.t 15), (.t 16)]⟩,
⟨(some 8), none, .mov (.t 17)⟩] (some [8]))
.ret)
.skip))
(.seq (.seq (.ops [⟨(some 18), none, .mov (.t 1)⟩,
⟨(some 19), none, .mov (.c (.int .i64 0))⟩] none)
(.block 0 (.loop (.seq (.ops [⟨(some 20), none, .ibin .lss .i64 (.t 19) (.t 18)⟩] none)
(.seq (.cond (.t 20)
.skip
(.exit 0))
(.seq (.block 1 (.seq (.ops [⟨(some 21), none, .mov (.t 19)⟩,
⟨(some 9), none, .mov (.t 21)⟩] (some [0, 1, 2, 3, 9, 18, 19]))
(.seq (.seq (.ops [⟨(some 22), none, .mov (.t 0)⟩,
⟨(some 23), none, .mov (.t 9)⟩,
⟨(some 24), none, .call 138 [(.t 22), (.t 23)]⟩] (some [0, 1, 2, 3, 9, 18, 19, 24]))
(.cond (.t 24)
(.exit 1)
.skip))
(.seq (.seq (.ops [⟨(some 25), none, .mov (.t 0)⟩,
⟨(some 26), none, .call 73 [(.t 25)]⟩,
⟨(some 27), none, .mov (.t 9)⟩,
⟨(some 28), none, .bslice 1 1 [(.int .i64 0)] [(0, 1, (.t 27))]⟩,
⟨(some 29), none, .append 1 8 (.t 26) (.t 28)⟩,
⟨(some 30), none, .mov (.t 1)⟩,
⟨(some 31), none, .mov (.t 2)⟩,
⟨(some 32), none, .mov (.t 3)⟩,
⟨(some 33), none, .call 125 [(.t 29), (.t 30), (.t 31), (.t 32)]⟩,
⟨(some 34), none, .un .not (.t 33)⟩] (some [0, 1, 2, 3, 18, 19, 34]))
(.cond (.t 34)
(.seq (.ops [⟨(some 8), none, .mov (.c (.bool false))⟩] none)
.ret)
.skip))
(.ops [⟨(some 35), none, .mov (.t 2)⟩,
⟨(some 36), none, .un .neg (.t 35)⟩,
⟨(some 2), none, .mov (.t 36)⟩] (some [0, 1, 2, 3, 18, 19]))))))
(.ops [⟨(some 37), none, .ibin .add .i64 (.t 19) (.c (.int .i64 1))⟩,
⟨(some 19), none, .mov (.t 37)⟩] (some [0, 1, 2, 3, 18, 19]))))))))
(.seq (.ops [⟨(some 8), none, .mov (.c (.bool true))⟩] none)
.ret))))⟩
/-- slices.insertionSortOrdered[int] -/
def ir126 : IFn := ⟨49, [],
(.seq (.ops [⟨(some 8), none, .mov (.t 1)⟩,
⟨(some 9), none, .ibin .add .i64 (.t 8) (.c (.int .i64 1))⟩,
⟨(some 6), none, .mov (.t 9)⟩] (some [0, 1, 2, 6]))
(.block 0 (.loop (.seq (.seq (.ops [⟨(some 10), none, .mov (.t 6)⟩,
⟨(some 11), none, .mov (.t 2)⟩,
⟨(some 12), none, .ibin .lss .i64 (.t 10) (.t 11)⟩] (some [0, 1, 2, 6, 12]))
(.cond (.t 12)
.skip
(.exit 0)))
(.seq (.block 1 (.seq (.ops [⟨(some 15), none, .mov (.t 6)⟩,
⟨(some 7), none, .mov (.t 15)⟩] (some [0, 1, 2, 6, 7]))
(.block 2 (.loop (.seq (.seq (.draw (.rd 0 ⟨(some 16), none, .mov (.t 7)⟩
(.rd 1 ⟨(some 17), none, .mov (.t 1)⟩
(.rd 2 ⟨(some 18), none, .ibin .gtr .i64 (.t 16) (.t 17)⟩
(.rd 3 ⟨(some 19), none, .mov (.t 18)⟩
(.rd 4 ⟨(some 20), (some (19, true)), .mov (.t 0)⟩
(.rd 5 ⟨(some 21), (some (19, true)), .mov (.t 7)⟩
(.rd 6 ⟨(some 22), (some (19, true)), .iaddr 1 (.t 20) (.t 21)⟩
(.rd 7 ⟨(some 23), (some (19, true)), .load 1 false (.t 22)⟩
(.rd 8 ⟨(some 24), (some (19, true)), .mov (.t 0)⟩
(.rd 9 ⟨(some 25), (some (19, true)), .mov (.t 7)⟩
(.rd 10 ⟨(some 26), (some (19, true)), .ibin .sub .i64 (.t 25) (.c (.int .i64 1))⟩
(.rd 11 ⟨(some 27), (some (19, true)), .iaddr 1 (.t 24) (.t 26)⟩
(.rd 12 ⟨(some 28), (some (19, true)), .load 1 false (.t 27)⟩
(.wr 13 ⟨(some 29), (some (19, true)), .call 122 [(.t 23), (.t 28)]⟩ [7, 12, 3, 3]
(.rd 14 ⟨(some 30), none, .pick (.t 19) (.t 29) (.c (.bool false))⟩
.fin) .no)))))))))))))) (some [0, 1, 2, 6, 7, 30]))
(.cond (.t 30)
.skip
(.exit 2)))
(.seq (.block 3 (.draw (.rd 0 ⟨(some 33), none, .mov (.t 0)⟩
(.rd 1 ⟨(some 34), none, .mov (.t 7)⟩
(.rd 2 ⟨(some 35), none, .mov (.t 0)⟩
(.rd 3 ⟨(some 36), none, .mov (.t 7)⟩
(.rd 4 ⟨(some 37), none, .ibin .sub .i64 (.t 36) (.c (.int .i64 1))⟩
(.rd 5 ⟨(some 38), none, .mov (.t 0)⟩
(.rd 6 ⟨(some 39), none, .mov (.t 7)⟩
(.rd 7 ⟨(some 40), none, .ibin .sub .i64 (.t 39) (.c (.int .i64 1))⟩
(.rd 8 ⟨(some 41), none, .iaddr 1 (.t 38) (.t 40)⟩
(.rd 9 ⟨(some 42), none, .load 1 false (.t 41)⟩
(.rd 10 ⟨(some 43), none, .mov (.t 0)⟩
(.rd 11 ⟨(some 44), none, .mov (.t 7)⟩
(.rd 12 ⟨(some 45), none, .iaddr 1 (.t 43) (.t 44)⟩
(.rd 13 ⟨(some 46), none, .load 1 false (.t 45)⟩
(.rd 14 ⟨(some 47), none, .iaddr 1 (.t 33) (.t 34)⟩
(.wr 15 ⟨none, none, .store 1 (.t 47) (.t 42)⟩ [14, 9, 0, 1, 5, 6, 7, 8, 9, 13]
(.rd 16 ⟨(some 48), none, .iaddr 1 (.t 35) (.t 37)⟩
(.wr 17 ⟨none, none, .store 1 (.t 48) (.t 46)⟩ [16, 13, 15, 0, 1, 2, 3, 4, 5, 6, 7, 8, 9, 10, 11, 12, 13, 14, 15]
.fin .no)) .no)))))))))))))))) (some [0, 1, 2, 6, 7])))
(.ops [⟨(some 31), none, .mov (.t 7)⟩,
⟨(some 32), none, .ibin .sub .i64 (.t 31) (.c (.int .i64 1))⟩,
⟨(some 7), none, .mov (.t 32)⟩] (some [0, 1, 2, 6, 7]))))))))
(.ops [⟨(some 13), none, .mov (.t 6)⟩,
⟨(some 14), none, .ibin .add .i64 (.t 13) (.c (.int .i64 1))⟩,
⟨(some 6), none, .mov (.t 14)⟩] (some [0, 1, 2, 6])))))))⟩
/-- slices.heapSortOrdered[int] -/
def ir127 : IFn := ⟨56, [],
(.seq (.ops [⟨(some 11), none, .mov (.t 1)⟩,
⟨(some 6), none, .mov (.t 11)⟩] (some [0, 1, 2, 6]))
(.seq (.ops [⟨(some 7), none, .mov (.c (.int .i64 0))⟩] none)
(.seq (.ops [⟨(some 12), none, .mov (.t 2)⟩,
⟨(some 13), none, .mov (.t 1)⟩,
⟨(some 14), none, .ibin .sub .i64 (.t 12) (.t 13)⟩,
⟨(some 8), none, .mov (.t 14)⟩] (some [0, 6, 7, 8]))
(.seq (.seq (.ops [⟨(some 15), none, .mov (.t 8)⟩,
⟨(some 16), none, .ibin .sub .i64 (.t 15) (.c (.int .i64 1))⟩,
⟨(some 17), none, .ibin .quo .i64 (.t 16) (.c (.int .i64 2))⟩,
⟨(some 9), none, .mov (.t 17)⟩] (some [0, 6, 7, 8, 9]))
(.block 0 (.loop (.seq (.seq (.ops [⟨(some 18), none, .mov (.t 9)⟩,
⟨(some 19), none, .ibin .geq .i64 (.t 18) (.c (.int .i64 0))⟩] (some [0, 6, 7, 8, 9, 19]))
(.cond (.t 19)
.skip
(.exit 0)))
(.seq (.block 1 (.ops [⟨(some 22), none, .mov (.t 0)⟩,
⟨(some 23), none, .mov (.t 9)⟩,
⟨(some 24), none, .mov (.t 8)⟩,
⟨(some 25), none, .mov (.t 6)⟩,
⟨(some 26), none, .call 139 [(.t 22), (.t 23), (.t 24), (.t 25)]⟩] (some [0, 6, 7, 8, 9])))
(.ops [⟨(some 20), none, .mov (.t 9)⟩,
⟨(some 21), none, .ibin .sub .i64 (.t 20) (.c (.int .i64 1))⟩,
⟨(some 9), none, .mov (.t 21)⟩] (some [0, 6, 7, 8, 9])))))))
(.seq (.ops [⟨(some 27), none, .mov (.t 8)⟩,
⟨(some 28), none, .ibin .sub .i64 (.t 27) (.c (.int .i64 1))⟩,
⟨(some 10), none, .mov (.t 28)⟩] (some [0, 6, 7, 10]))
(.block 2 (.loop (.seq (.seq (.ops [⟨(some 29), none, .mov (.t 10)⟩,
⟨(some 30), none, .ibin .geq .i64 (.t 29) (.c (.int .i64 0))⟩] (some [0, 6, 7, 10, 30]))
(.cond (.t 30)
.skip
(.exit 2)))
(.seq (.block 3 (.seq (.draw (.rd 0 ⟨(some 33), none, .mov (.t 0)⟩
(.rd 1 ⟨(some 34), none, .mov (.t 6)⟩
(.rd 2 ⟨(some 35), none, .mov (.t 0)⟩
(.rd 3 ⟨(some 36), none, .mov (.t 6)⟩
(.rd 4 ⟨(some 37), none, .mov (.t 10)⟩
(.rd 5 ⟨(some 38), none, .ibin .add .i64 (.t 36) (.t 37)⟩
(.rd 6 ⟨(some 39), none, .mov (.t 0)⟩
(.rd 7 ⟨(some 40), none, .mov (.t 6)⟩
(.rd 8 ⟨(some 41), none, .mov (.t 10)⟩
(.rd 9 ⟨(some 42), none, .ibin .add .i64 (.t 40) (.t 41)⟩
(.rd 10 ⟨(some 43), none, .iaddr 1 (.t 39) (.t 42)⟩
(.rd 11 ⟨(some 44), none, .load 1 false (.t 43)⟩
(.rd 12 ⟨(some 45), none, .mov (.t 0)⟩
(.rd 13 ⟨(some 46), none, .mov (.t 6)⟩
(.rd 14 ⟨(some 47), none, .iaddr 1 (.t 45) (.t 46)⟩
(.rd 15 ⟨(some 48), none, .load 1 false (.t 47)⟩
(.rd 16 ⟨(some 49), none, .iaddr 1 (.t 33) (.t 34)⟩
(.wr 17 ⟨none, none, .store 1 (.t 49) (.t 44)⟩ [16, 11, 0, 1, 6, 7, 8, 9, 10, 11, 15]
(.rd 18 ⟨(some 50), none, .iaddr 1 (.t 35) (.t 38)⟩
(.wr 19 ⟨none, none, .store 1 (.t 50) (.t 48)⟩ [18, 15, 17, 0, 1, 2, 3, 4, 5, 6, 7, 8, 9, 10, 11, 12, 13, 14, 15, 16, 17]
.fin .no)) .no)))))))))))))))))) (some [0, 6, 7, 10]))
(.ops [⟨(some 51), none, .mov (.t 0)⟩,
⟨(some 52), none, .mov (.t 7)⟩,
⟨(some 53), none, .mov (.t 10)⟩,
⟨(some 54), none, .mov (.t 6)⟩,
⟨(some 55), none, .call 139 [(.t 51), (.t 52), (.t 53), (.t 54)]⟩] (some [0, 6, 7, 10]))))
(.ops [⟨(some 31), none, .mov (.t 10)⟩,
⟨(some 32), none, .ibin .sub .i64 (.t 31) (.c (.int .i64 1))⟩,
⟨(some 10), none, .mov (.t 32)⟩] (some [0, 6, 7, 10])))))))))))⟩
/-- slices.breakPatternsOrdered[int] -/
def ir128 : IFn := ⟨65, [],
(.seq (.ops [⟨(some 11), none, .mov (.t 2)⟩,
⟨(some 12), none, .mov (.t 1)⟩,
⟨(some 13), none, .ibin .sub .i64 (.t 11) (.t 12)⟩,
⟨(some 6), none, .mov (.t 13)⟩] (some [0, 1, 6]))
(.seq (.ops [⟨(some 14), none, .mov (.t 6)⟩,
⟨(some 15), none, .ibin .geq .i64 (.t 14) (.c (.int .i64 8))⟩] (some [0, 1, 6, 15]))
(.cond (.t 15)
(.seq (.ops [⟨(some 16), none, .mov (.t 6)⟩,
⟨(some 17), none, .conv .u64 (.t 16)⟩,
⟨(some 7), none, .alloc [(.int .u64 0)]⟩,
⟨none, none, .store 1 (.t 7) (.t 17)⟩] (some [0, 1, 6, 7]))
(.seq (.ops [⟨(some 18), none, .mov (.t 6)⟩,
⟨(some 19), none, .call 140 [(.t 18)]⟩,
⟨(some 8), none, .mov (.t 19)⟩] (some [0, 1, 6, 7, 8]))
(.seq (.ops [⟨(some 20), none, .mov (.t 1)⟩,
⟨(some 21), none, .mov (.t 6)⟩,
⟨(some 22), none, .ibin .quo .i64 (.t 21) (.c (.int .i64 4))⟩,
⟨(some 23), none, .ibin .mul .i64 (.t 22) (.c (.int .i64 2))⟩,
⟨(some 24), none, .ibin .add .i64 (.t 20) (.t 23)⟩,
⟨(some 25), none, .ibin .sub .i64 (.t 24) (.c (.int .i64 1))⟩,
⟨(some 9), none, .mov (.t 25)⟩] (some [0, 1, 6, 7, 8, 9]))
(.block 0 (.loop (.seq (.seq (.ops [⟨(some 26), none, .mov (.t 9)⟩,
⟨(some 27), none, .mov (.t 1)⟩,
⟨(some 28), none, .mov (.t 6)⟩,
⟨(some 29), none, .ibin .quo .i64 (.t 28) (.c (.int .i64 4))⟩,
⟨(some 30), none, .ibin .mul .i64 (.t 29) (.c (.int .i64 2))⟩,
⟨(some 31), none, .ibin .add .i64 (.t 27) (.t 30)⟩,
⟨(some 32), none, .ibin .add .i64 (.t 31) (.c (.int .i64 1))⟩,
⟨(some 33), none, .ibin .leq .i64 (.t 26) (.t 32)⟩] (some [0, 1, 6, 7, 8, 9, 33]))
(.cond (.t 33)
.skip
(.exit 0)))
(.seq (.block 1 (.seq (.ops [⟨(some 36), none, .call 141 [(.t 7)]⟩,
⟨(some 37), none, .mov (.t 8)⟩,
⟨(some 38), none, .ibin .sub .u64 (.t 37) (.c (.int .u64 1))⟩,
⟨(some 39), none, .ibin .and .u64 (.t 36) (.t 38)⟩,
⟨(some 40), none, .conv .i64 (.t 39)⟩,
⟨(some 10), none, .mov (.t 40)⟩] (some [0, 1, 6, 7, 8, 9, 10]))
(.seq (.seq (.ops [⟨(some 41), none, .mov (.t 10)⟩,
⟨(some 42), none, .mov (.t 6)⟩,
⟨(some 43), none, .ibin .geq .i64 (.t 41) (.t 42)⟩] (some [0, 1, 6, 7, 8, 9, 10, 43]))
(.cond (.t 43)
(.ops [⟨(some 44), none, .mov (.t 10)⟩,
⟨(some 45), none, .mov (.t 6)⟩,
⟨(some 46), none, .ibin .sub .i64 (.t 44) (.t 45)⟩,
⟨(some 10), none, .mov (.t 46)⟩] (some [0, 1, 6, 7, 8, 9, 10]))
.skip))
(.draw (.rd 0 ⟨(some 47), none, .mov (.t 0)⟩
(.rd 1 ⟨(some 48), none, .mov (.t 9)⟩
(.rd 2 ⟨(some 49), none, .mov (.t 0)⟩
(.rd 3 ⟨(some 50), none, .mov (.t 1)⟩
(.rd 4 ⟨(some 51), none, .mov (.t 10)⟩
(.rd 5 ⟨(some 52), none, .ibin .add .i64 (.t 50) (.t 51)⟩
(.rd 6 ⟨(some 53), none, .mov (.t 0)⟩
(.rd 7 ⟨(some 54), none, .mov (.t 1)⟩
(.rd 8 ⟨(some 55), none, .mov (.t 10)⟩
(.rd 9 ⟨(some 56), none, .ibin .add .i64 (.t 54) (.t 55)⟩
(.rd 10 ⟨(some 57), none, .iaddr 1 (.t 53) (.t 56)⟩
(.rd 11 ⟨(some 58), none, .load 1 false (.t 57)⟩
(.rd 12 ⟨(some 59), none, .mov (.t 0)⟩
(.rd 13 ⟨(some 60), none, .mov (.t 9)⟩
(.rd 14 ⟨(some 61), none, .iaddr 1 (.t 59) (.t 60)⟩
(.rd 15 ⟨(some 62), none, .load 1 false (.t 61)⟩
(.rd 16 ⟨(some 63), none, .iaddr 1 (.t 47) (.t 48)⟩
(.wr 17 ⟨none, none, .store 1 (.t 63) (.t 58)⟩ [16, 11, 0, 1, 6, 7, 8, 9, 10, 11, 15]
(.rd 18 ⟨(some 64), none, .iaddr 1 (.t 49) (.t 52)⟩
(.wr 19 ⟨none, none, .store 1 (.t 64) (.t 62)⟩ [18, 15, 17, 0, 1, 2, 3, 4, 5, 6, 7, 8, 9, 10, 11, 12, 13, 14, 15, 16, 17]
.fin .no)) .no)))))))))))))))))) (some [0, 1, 6, 7, 8, 9])))))
(.ops [⟨(some 34), none, .mov (.t 9)⟩,
⟨(some 35), none, .ibin .add .i64 (.t 34) (.c (.int .i64 1))⟩,
⟨(some 9), none, .mov (.t 35)⟩] (some [0, 1, 6, 7, 8, 9])))))))))
.skip)))⟩
/-- slices.choosePivotOrdered[int] -/
def ir129 : IFn := ⟨57, [.t 6, .t 7],
(.seq (.ops [⟨(some 6), none, .mov (.c (.int .i64 0))⟩,
⟨(some 7), none, .mov (.c (.int .i64 0))⟩] (some [0, 1, 2]))
(.seq (.ops [⟨(some 13), none, .mov (.t 2)⟩,
⟨(some 14), none, .mov (.t 1)⟩,
⟨(some 15), none, .ibin .sub .i64 (.t 13) (.t 14)⟩,
⟨(some 8), none, .mov (.t 15)⟩] (some [0, 1, 8]))
(.seq (.ops [⟨(some 9), none, .alloc [(.int .i64 0)]⟩] none)
(.seq (.ops [⟨(some 16), none, .mov (.t 1)⟩,
⟨(some 17), none, .mov (.t 8)⟩,
⟨(some 18), none, .ibin .quo .i64 (.t 17) (.c (.int .i64 4))⟩,
⟨(some 19), none, .ibin .mul .i64 (.t 18) (.c (.int .i64 1))⟩,
⟨(some 20), none, .ibin .add .i64 (.t 16) (.t 19)⟩,
⟨(some 10), none, .mov (.t 20)⟩] (some [0, 1, 8, 9, 10]))
(.seq (.ops [⟨(some 21), none, .mov (.t 1)⟩,
⟨(some 22), none, .mov (.t 8)⟩,
⟨(some 23), none, .ibin .quo .i64 (.t 22) (.c (.int .i64 4))⟩,
⟨(some 24), none, .ibin .mul .i64 (.t 23) (.c (.int .i64 2))⟩,
⟨(some 25), none, .ibin .add .i64 (.t 21) (.t 24)⟩,
⟨(some 11), none, .mov (.t 25)⟩] (some [0, 1, 8, 9, 10, 11]))
(.seq (.ops [⟨(some 26), none, .mov (.t 1)⟩,
⟨(some 27), none, .mov (.t 8)⟩,
⟨(some 28), none, .ibin .quo .i64 (.t 27) (.c (.int .i64 4))⟩,
⟨(some 29), none, .ibin .mul .i64 (.t 28) (.c (.int .i64 3))⟩,
⟨(some 30), none, .ibin .add .i64 (.t 26) (.t 29)⟩,
⟨(some 12), none, .mov (.t 30)⟩] (some [0, 8, 9, 10, 11, 12]))
(.seq (.seq (.ops [⟨(some 31), none, .mov (.t 8)⟩,
⟨(some 32), none, .ibin .geq .i64 (.t 31) (.c (.int .i64 8))⟩] (some [0, 8, 9, 10, 11, 12, 32]))
(.cond (.t 32)
(.seq (.seq (.ops [⟨(some 33), none, .mov (.t 8)⟩,
⟨(some 34), none, .ibin .geq .i64 (.t 33) (.c (.int .i64 50))⟩] (some [0, 9, 10, 11, 12, 34]))
(.cond (.t 34)
(.seq (.ops [⟨(some 35), none, .mov (.t 0)⟩,
⟨(some 36), none, .mov (.t 10)⟩,
⟨(some 37), none, .call 142 [(.t 35), (.t 36), (.t 9)]⟩,
⟨(some 10), none, .mov (.t 37)⟩] (some [0, 9, 10, 11, 12]))
(.seq (.ops [⟨(some 38), none, .mov (.t 0)⟩,
⟨(some 39), none, .mov (.t 11)⟩,
⟨(some 40), none, .call 142 [(.t 38), (.t 39), (.t 9)]⟩,
⟨(some 11), none, .mov (.t 40)⟩] (some [0, 9, 10, 11, 12]))
(.ops [⟨(some 41), none, .mov (.t 0)⟩,
⟨(some 42), none, .mov (.t 12)⟩,
⟨(some 43), none, .call 142 [(.t 41), (.t 42), (.t 9)]⟩,
⟨(some 12), none, .mov (.t 43)⟩] (some [0, 9, 10, 11, 12]))))
.skip))
(.ops [⟨(some 44), none, .mov (.t 0)⟩,
⟨(some 45), none, .mov (.t 10)⟩,
⟨(some 46), none, .mov (.t 11)⟩,
⟨(some 47), none, .mov (.t 12)⟩,
⟨(some 48), none, .call 143 [(.t 44), (.t 45), (.t 46), (.t 47), (.t 9)]⟩,
⟨(some 11), none, .mov (.t 48)⟩] (some [9, 11])))
.skip))
(.seq (.ops [⟨(some 49), none, .load 1 false (.t 9)⟩] (some [11, 49]))
(.block 0 (.seq (.ops [⟨(some 52), none, .ibin .eql .i64 (.t 49) (.c (.int .i64 0))⟩,
⟨(some 51), none, .mov (.t 52)⟩] (some [11, 49, 51]))
(.cond (.t 51)
(.seq (.ops [⟨(some 53), none, .mov (.t 11)⟩,
⟨(some 6), none, .mov (.t 53)⟩,
⟨(some 7), none, .mov (.c (.int .i64 1))⟩] (some [6, 7]))
.ret)
(.seq (.ops [⟨(some 55), none, .ibin .eql .i64 (.t 49) (.c (.int .i64 12))⟩,
⟨(some 54), none, .mov (.t 55)⟩] (some [11, 54]))
(.cond (.t 54)
(.seq (.ops [⟨(some 56), none, .mov (.t 11)⟩,
⟨(some 6), none, .mov (.t 56)⟩,
⟨(some 7), none, .mov (.c (.int .i64 2))⟩] (some [6, 7]))
.ret)
(.seq (.ops [⟨(some 50), none, .mov (.t 11)⟩,
⟨(some 6), none, .mov (.t 50)⟩,
⟨(some 7), none, .mov (.c (.int .i64 0))⟩] (some [6, 7]))
.ret))))))))))))))⟩
/-- slices.reverseRangeOrdered[int] -/
def ir130 : IFn := ⟨32, [],
(.seq (.ops [⟨(some 8), none, .mov (.t 1)⟩,
⟨(some 6), none, .mov (.t 8)⟩] (some [0, 2, 6]))
(.seq (.ops [⟨(some 9), none, .mov (.t 2)⟩,
⟨(some 10), none, .ibin .sub .i64 (.t 9) (.c (.int .i64 1))⟩,
⟨(some 7), none, .mov (.t 10)⟩] (some [0, 6, 7]))
(.block 0 (.loop (.seq (.seq (.ops [⟨(some 11), none, .mov (.t 6)⟩,
⟨(some 12), none, .mov (.t 7)⟩,
⟨(some 13), none, .ibin .lss .i64 (.t 11) (.t 12)⟩] (some [0, 6, 7, 13]))
(.cond (.t 13)
.skip
(.exit 0)))
(.block 1 (.seq (.draw (.rd 0 ⟨(some 14), none, .mov (.t 0)⟩
(.rd 1 ⟨(some 15), none, .mov (.t 6)⟩
(.rd 2 ⟨(some 16), none, .mov (.t 0)⟩
(.rd 3 ⟨(some 17), none, .mov (.t 7)⟩
(.rd 4 ⟨(some 18), none, .mov (.t 0)⟩
(.rd 5 ⟨(some 19), none, .mov (.t 7)⟩
(.rd 6 ⟨(some 20), none, .iaddr 1 (.t 18) (.t 19)⟩
(.rd 7 ⟨(some 21), none, .load 1 false (.t 20)⟩
(.rd 8 ⟨(some 22), none, .mov (.t 0)⟩
(.rd 9 ⟨(some 23), none, .mov (.t 6)⟩
(.rd 10 ⟨(some 24), none, .iaddr 1 (.t 22) (.t 23)⟩
(.rd 11 ⟨(some 25), none, .load 1 false (.t 24)⟩
(.rd 12 ⟨(some 26), none, .iaddr 1 (.t 14) (.t 15)⟩
(.wr 13 ⟨none, none, .store 1 (.t 26) (.t 21)⟩ [12, 7, 0, 1, 4, 5, 6, 7, 11]
(.rd 14 ⟨(some 27), none, .iaddr 1 (.t 16) (.t 17)⟩
(.wr 15 ⟨none, none, .store 1 (.t 27) (.t 25)⟩ [14, 11, 13, 0, 1, 2, 3, 4, 5, 6, 7, 8, 9, 10, 11, 12, 13]
.fin .no)) .no)))))))))))))) (some [0, 6, 7]))
(.seq (.ops [⟨(some 28), none, .mov (.t 6)⟩,
⟨(some 29), none, .ibin .add .i64 (.t 28) (.c (.int .i64 1))⟩,
⟨(some 6), none, .mov (.t 29)⟩] (some [0, 6, 7]))
(.ops [⟨(some 30), none, .mov (.t 7)⟩,
⟨(some 31), none, .ibin .sub .i64 (.t 30) (.c (.int .i64 1))⟩,
⟨(some 7), none, .mov (.t 31)⟩] (some [0, 6, 7]))))))))))⟩
/-- slices.partialInsertionSortOrdered[int] -/
def ir131 : IFn := ⟨133, [.t 6],
(.seq (.ops [⟨(some 6), none, .mov (.c (.bool false))⟩] (some [0, 1, 2]))
(.seq (.ops [⟨(some 11), none, .mov (.t 1)⟩,
⟨(some 12), none, .ibin .add .i64 (.t 11) (.c (.int .i64 1))⟩,
⟨(some 7), none, .mov (.t 12)⟩] (some [0, 1, 2, 7]))
(.seq (.seq (.ops [⟨(some 8), none, .mov (.c (.int .i64 0))⟩] none)
(.block 0 (.loop (.seq (.seq (.ops [⟨(some 13), none, .mov (.t 8)⟩,
⟨(some 14), none, .ibin .lss .i64 (.t 13) (.c (.int .i64 5))⟩] (some [0, 1, 2, 7, 8, 14]))
(.cond (.t 14)
.skip
(.exit 0)))
(.seq (.block 1 (.seq (.block 2 (.loop (.seq (.seq (.draw (.rd 0 ⟨(some 17), none, .mov (.t 7)⟩
(.rd 1 ⟨(some 18), none, .mov (.t 2)⟩
(.rd 2 ⟨(some 19), none, .ibin .lss .i64 (.t 17) (.t 18)⟩
(.rd 3 ⟨(some 20), none, .mov (.t 19)⟩
(.rd 4 ⟨(some 21), (some (20, true)), .mov (.t 0)⟩
(.rd 5 ⟨(some 22), (some (20, true)), .mov (.t 7)⟩
(.rd 6 ⟨(some 23), (some (20, true)), .iaddr 1 (.t 21) (.t 22)⟩
(.rd 7 ⟨(some 24), (some (20, true)), .load 1 false (.t 23)⟩
(.rd 8 ⟨(some 25), (some (20, true)), .mov (.t 0)⟩
(.rd 9 ⟨(some 26), (some (20, true)), .mov (.t 7)⟩
(.rd 10 ⟨(some 27), (some (20, true)), .ibin .sub .i64 (.t 26) (.c (.int .i64 1))⟩
(.rd 11 ⟨(some 28), (some (20, true)), .iaddr 1 (.t 25) (.t 27)⟩
(.rd 12 ⟨(some 29), (some (20, true)), .load 1 false (.t 28)⟩
(.wr 13 ⟨(some 30), (some (20, true)), .call 122 [(.t 24), (.t 29)]⟩ [7, 12, 3, 3]
(.rd 14 ⟨(some 31), (some (20, true)), .un .not (.t 30)⟩
(.rd 15 ⟨(some 32), none, .pick (.t 20) (.t 31) (.c (.bool false))⟩
.fin)) .no)))))))))))))) (some [0, 1, 2, 7, 8, 32]))
(.cond (.t 32)
.skip
(.exit 2)))
(.block 3 (.ops [⟨(some 33), none, .mov (.t 7)⟩,
⟨(some 34), none, .ibin .add .i64 (.t 33) (.c (.int .i64 1))⟩,
⟨(some 7), none, .mov (.t 34)⟩] (some [0, 1, 2, 7, 8]))))))
(.seq (.seq (.ops [⟨(some 35), none, .mov (.t 7)⟩,
⟨(some 36), none, .mov (.t 2)⟩,
⟨(some 37), none, .ibin .eql .i64 (.t 35) (.t 36)⟩] (some [0, 1, 2, 7, 8, 37]))
(.cond (.t 37)
(.seq (.ops [⟨(some 6), none, .mov (.c (.bool true))⟩] none)
.ret)
.skip))
(.seq (.seq (.ops [⟨(some 38), none, .mov (.t 2)⟩,
⟨(some 39), none, .mov (.t 1)⟩,
⟨(some 40), none, .ibin .sub .i64 (.t 38) (.t 39)⟩,
⟨(some 41), none, .ibin .lss .i64 (.t 40) (.c (.int .i64 50))⟩] (some [0, 1, 2, 7, 8, 41]))
(.cond (.t 41)
(.seq (.ops [⟨(some 6), none, .mov (.c (.bool false))⟩] none)
.ret)
.skip))
(.seq (.draw (.rd 0 ⟨(some 42), none, .mov (.t 0)⟩
(.rd 1 ⟨(some 43), none, .mov (.t 7)⟩
(.rd 2 ⟨(some 44), none, .mov (.t 0)⟩
(.rd 3 ⟨(some 45), none, .mov (.t 7)⟩
(.rd 4 ⟨(some 46), none, .ibin .sub .i64 (.t 45) (.c (.int .i64 1))⟩
(.rd 5 ⟨(some 47), none, .mov (.t 0)⟩
(.rd 6 ⟨(some 48), none, .mov (.t 7)⟩
(.rd 7 ⟨(some 49), none, .ibin .sub .i64 (.t 48) (.c (.int .i64 1))⟩
(.rd 8 ⟨(some 50), none, .iaddr 1 (.t 47) (.t 49)⟩
(.rd 9 ⟨(some 51), none, .load 1 false (.t 50)⟩
(.rd 10 ⟨(some 52), none, .mov (.t 0)⟩
(.rd 11 ⟨(some 53), none, .mov (.t 7)⟩
(.rd 12 ⟨(some 54), none, .iaddr 1 (.t 52) (.t 53)⟩
(.rd 13 ⟨(some 55), none, .load 1 false (.t 54)⟩
(.rd 14 ⟨(some 56), none, .iaddr 1 (.t 42) (.t 43)⟩
(.wr 15 ⟨none, none, .store 1 (.t 56) (.t 51)⟩ [14, 9, 0, 1, 5, 6, 7, 8, 9, 13]
(.rd 16 ⟨(some 57), none, .iaddr 1 (.t 44) (.t 46)⟩
(.wr 17 ⟨none, none, .store 1 (.t 57) (.t 55)⟩ [16, 13, 15, 0, 1, 2, 3, 4, 5, 6, 7, 8, 9, 10, 11, 12, 13, 14, 15]
.fin .no)) .no)))))))))))))))) (some [0, 1, 2, 7, 8]))
(.seq (.seq (.ops [⟨(some 58), none, .mov (.t 7)⟩,
⟨(some 59), none, .mov (.t 1)⟩,
⟨(some 60), none, .ibin .sub .i64 (.t 58) (.t 59)⟩,
⟨(some 61), none, .ibin .geq .i64 (.t 60) (.c (.int .i64 2))⟩] (some [0, 1, 2, 7, 8, 61]))
(.cond (.t 61)
(.seq (.ops [⟨(some 62), none, .mov (.t 7)⟩,
⟨(some 63), none, .ibin .sub .i64 (.t 62) (.c (.int .i64 1))⟩,
⟨(some 9), none, .mov (.t 63)⟩] (some [0, 1, 2, 7, 8, 9]))
(.block 4 (.loop (.seq (.seq (.ops [⟨(some 64), none, .mov (.t 9)⟩,
⟨(some 65), none, .ibin .geq .i64 (.t 64) (.c (.int .i64 1))⟩] (some [0, 1, 2, 7, 8, 9, 65]))
(.cond (.t 65)
.skip
(.exit 4)))
(.seq (.block 5 (.seq (.seq (.draw (.rd 0 ⟨(some 68), none, .mov (.t 0)⟩
(.rd 1 ⟨(some 69), none, .mov (.t 9)⟩
(.rd 2 ⟨(some 70), none, .iaddr 1 (.t 68) (.t 69)⟩
(.rd 3 ⟨(some 71), none, .load 1 false (.t 70)⟩
(.rd 4 ⟨(some 72), none, .mov (.t 0)⟩
(.rd 5 ⟨(some 73), none, .mov (.t 9)⟩
(.rd 6 ⟨(some 74), none, .ibin .sub .i64 (.t 73) (.c (.int .i64 1))⟩
(.rd 7 ⟨(some 75), none, .iaddr 1 (.t 72) (.t 74)⟩
(.rd 8 ⟨(some 76), none, .load 1 false (.t 75)⟩
(.wr 9 ⟨(some 77), none, .call 122 [(.t 71), (.t 76)]⟩ [3, 8]
(.rd 10 ⟨(some 78), none, .un .not (.t 77)⟩
.fin) .no)))))))))) (some [0, 1, 2, 7, 8, 9, 78]))
(.cond (.t 78)
(.exit 4)
.skip))
(.draw (.rd 0 ⟨(some 79), none, .mov (.t 0)⟩
(.rd 1 ⟨(some 80), none, .mov (.t 9)⟩
(.rd 2 ⟨(some 81), none, .mov (.t 0)⟩
(.rd 3 ⟨(some 82), none, .mov (.t 9)⟩
(.rd 4 ⟨(some 83), none, .ibin .sub .i64 (.t 82) (.c (.int .i64 1))⟩
(.rd 5 ⟨(some 84), none, .mov (.t 0)⟩
(.rd 6 ⟨(some 85), none, .mov (.t 9)⟩
(.rd 7 ⟨(some 86), none, .ibin .sub .i64 (.t 85) (.c (.int .i64 1))⟩
(.rd 8 ⟨(some 87), none, .iaddr 1 (.t 84) (.t 86)⟩
(.rd 9 ⟨(some 88), none, .load 1 false (.t 87)⟩
(.rd 10 ⟨(some 89), none, .mov (.t 0)⟩
(.rd 11 ⟨(some 90), none, .mov (.t 9)⟩
(.rd 12 ⟨(some 91), none, .iaddr 1 (.t 89) (.t 90)⟩
(.rd 13 ⟨(some 92), none, .load 1 false (.t 91)⟩
(.rd 14 ⟨(some 93), none, .iaddr 1 (.t 79) (.t 80)⟩
(.wr 15 ⟨none, none, .store 1 (.t 93) (.t 88)⟩ [14, 9, 0, 1, 5, 6, 7, 8, 9, 13]
(.rd 16 ⟨(some 94), none, .iaddr 1 (.t 81) (.t 83)⟩
(.wr 17 ⟨none, none, .store 1 (.t 94) (.t 92)⟩ [16, 13, 15, 0, 1, 2, 3, 4, 5, 6, 7, 8, 9, 10, 11, 12, 13, 14, 15]
.fin .no)) .no)))))))))))))))) (some [0, 1, 2, 7, 8, 9]))))
(.ops [⟨(some 66), none, .mov (.t 9)⟩,
⟨(some 67), none, .ibin .sub .i64 (.t 66) (.c (.int .i64 1))⟩,
⟨(some 9), none, .mov (.t 67)⟩] (some [0, 1, 2, 7, 8, 9])))))))
.skip))
(.seq (.ops [⟨(some 95), none, .mov (.t 2)⟩,
⟨(some 96), none, .mov (.t 7)⟩,
⟨(some 97), none, .ibin .sub .i64 (.t 95) (.t 96)⟩,
⟨(some 98), none, .ibin .geq .i64 (.t 97) (.c (.int .i64 2))⟩] (some [0, 1, 2, 7, 8, 98]))
(.cond (.t 98)
(.seq (.ops [⟨(some 99), none, .mov (.t 7)⟩,
⟨(some 100), none, .ibin .add .i64 (.t 99) (.c (.int .i64 1))⟩,
⟨(some 10), none, .mov (.t 100)⟩] (some [0, 1, 2, 7, 8, 10]))
(.block 6 (.loop (.seq (.seq (.ops [⟨(some 101), none, .mov (.t 10)⟩,
⟨(some 102), none, .mov (.t 2)⟩,
⟨(some 103), none, .ibin .lss .i64 (.t 101) (.t 102)⟩] (some [0, 1, 2, 7, 8, 10, 103]))
(.cond (.t 103)
.skip
(.exit 6)))
(.seq (.block 7 (.seq (.seq (.draw (.rd 0 ⟨(some 106), none, .mov (.t 0)⟩
(.rd 1 ⟨(some 107), none, .mov (.t 10)⟩
(.rd 2 ⟨(some 108), none, .iaddr 1 (.t 106) (.t 107)⟩
(.rd 3 ⟨(some 109), none, .load 1 false (.t 108)⟩
(.rd 4 ⟨(some 110), none, .mov (.t 0)⟩
(.rd 5 ⟨(some 111), none, .mov (.t 10)⟩
(.rd 6 ⟨(some 112), none, .ibin .sub .i64 (.t 111) (.c (.int .i64 1))⟩
(.rd 7 ⟨(some 113), none, .iaddr 1 (.t 110) (.t 112)⟩
(.rd 8 ⟨(some 114), none, .load 1 false (.t 113)⟩
(.wr 9 ⟨(some 115), none, .call 122 [(.t 109), (.t 114)]⟩ [3, 8]
(.rd 10 ⟨(some 116), none, .un .not (.t 115)⟩
.fin) .no)))))))))) (some [0, 1, 2, 7, 8, 10, 116]))
(.cond (.t 116)
(.exit 6)
.skip))
(.draw (.rd 0 ⟨(some 117), none, .mov (.t 0)⟩
(.rd 1 ⟨(some 118), none, .mov (.t 10)⟩
(.rd 2 ⟨(some 119), none, .mov (.t 0)⟩
(.rd 3 ⟨(some 120), none, .mov (.t 10)⟩
(.rd 4 ⟨(some 121), none, .ibin .sub .i64 (.t 120) (.c (.int .i64 1))⟩
(.rd 5 ⟨(some 122), none, .mov (.t 0)⟩
(.rd 6 ⟨(some 123), none, .mov (.t 10)⟩
(.rd 7 ⟨(some 124), none, .ibin .sub .i64 (.t 123) (.c (.int .i64 1))⟩
(.rd 8 ⟨(some 125), none, .iaddr 1 (.t 122) (.t 124)⟩
(.rd 9 ⟨(some 126), none, .load 1 false (.t 125)⟩
(.rd 10 ⟨(some 127), none, .mov (.t 0)⟩
(.rd 11 ⟨(some 128), none, .mov (.t 10)⟩
(.rd 12 ⟨(some 129), none, .iaddr 1 (.t 127) (.t 128)⟩
(.rd 13 ⟨(some 130), none, .load 1 false (.t 129)⟩
(.rd 14 ⟨(some 131), none, .iaddr 1 (.t 117) (.t 118)⟩
(.wr 15 ⟨none, none, .store 1 (.t 131) (.t 126)⟩ [14, 9, 0, 1, 5, 6, 7, 8, 9, 13]
(.rd 16 ⟨(some 132), none, .iaddr 1 (.t 119) (.t 121)⟩
(.wr 17 ⟨none, none, .store 1 (.t 132) (.t 130)⟩ [16, 13, 15, 0, 1, 2, 3, 4, 5, 6, 7, 8, 9, 10, 11, 12, 13, 14, 15]
.fin .no)) .no)))))))))))))))) (some [0, 1, 2, 7, 8, 10]))))
(.ops [⟨(some 104), none, .mov (.t 10)⟩,
⟨(some 105), none, .ibin .add .i64 (.t 104) (.c (.int .i64 1))⟩,
⟨(some 10), none, .mov (.t 105)⟩] (some [0, 1, 2, 7, 8, 10])))))))
.skip))))))))
(.ops [⟨(some 15), none, .mov (.t 8)⟩,
⟨(some 16), none, .ibin .add .i64 (.t 15) (.c (.int .i64 1))⟩,
⟨(some 8), none, .mov (.t 16)⟩] (some [0, 1, 2, 7, 8])))))))
(.seq (.ops [⟨(some 6), none, .mov (.c (.bool false))⟩] none)
.ret))))⟩
/-- slices.partitionEqualOrdered[int] -/
def ir132 : IFn := ⟨84, [.t 8],
(.seq (.ops [⟨(some 8), none, .mov (.c (.int .i64 0))⟩] (some [0, 1, 2, 3]))
(.seq (.draw (.rd 0 ⟨(some 11), none, .mov (.t 0)⟩
(.rd 1 ⟨(some 12), none, .mov (.t 1)⟩
(.rd 2 ⟨(some 13), none, .mov (.t 0)⟩
(.rd 3 ⟨(some 14), none, .mov (.t 3)⟩
(.rd 4 ⟨(some 15), none, .mov (.t 0)⟩
(.rd 5 ⟨(some 16), none, .mov (.t 3)⟩
(.rd 6 ⟨(some 17), none, .iaddr 1 (.t 15) (.t 16)⟩
(.rd 7 ⟨(some 18), none, .load 1 false (.t 17)⟩
(.rd 8 ⟨(some 19), none, .mov (.t 0)⟩
(.rd 9 ⟨(some 20), none, .mov (.t 1)⟩
(.rd 10 ⟨(some 21), none, .iaddr 1 (.t 19) (.t 20)⟩
(.rd 11 ⟨(some 22), none, .load 1 false (.t 21)⟩
(.rd 12 ⟨(some 23), none, .iaddr 1 (.t 11) (.t 12)⟩
(.wr 13 ⟨none, none, .store 1 (.t 23) (.t 18)⟩ [12, 7, 0, 1, 4, 5, 6, 7, 11]
(.rd 14 ⟨(some 24), none, .iaddr 1 (.t 13) (.t 14)⟩
(.wr 15 ⟨none, none, .store 1 (.t 24) (.t 22)⟩ [14, 11, 13, 0, 1, 2, 3, 4, 5, 6, 7, 8, 9, 10, 11, 12, 13]
.fin .no)) .no)))))))))))))) (some [0, 1, 2]))
(.seq (.ops [⟨(some 25), none, .mov (.t 1)⟩,
⟨(some 26), none, .ibin .add .i64 (.t 25) (.c (.int .i64 1))⟩,
⟨(some 27), none, .mov (.t 2)⟩,
⟨(some 28), none, .ibin .sub .i64 (.t 27) (.c (.int .i64 1))⟩,
⟨(some 9), none, .mov (.t 26)⟩,
⟨(some 10), none, .mov (.t 28)⟩] (some [0, 1, 9, 10]))
(.seq (.block 0 (.loop (.block 1 (.seq (.block 2 (.loop (.seq (.seq (.draw (.rd 0 ⟨(some 29), none, .mov (.t 9)⟩
(.rd 1 ⟨(some 30), none, .mov (.t 10)⟩
(.rd 2 ⟨(some 31), none, .ibin .leq .i64 (.t 29) (.t 30)⟩
(.rd 3 ⟨(some 32), none, .mov (.t 31)⟩
(.rd 4 ⟨(some 33), (some (32, true)), .mov (.t 0)⟩
(.rd 5 ⟨(some 34), (some (32, true)), .mov (.t 1)⟩
(.rd 6 ⟨(some 35), (some (32, true)), .iaddr 1 (.t 33) (.t 34)⟩
(.rd 7 ⟨(some 36), (some (32, true)), .load 1 false (.t 35)⟩
(.rd 8 ⟨(some 37), (some (32, true)), .mov (.t 0)⟩
(.rd 9 ⟨(some 38), (some (32, true)), .mov (.t 9)⟩
(.rd 10 ⟨(some 39), (some (32, true)), .iaddr 1 (.t 37) (.t 38)⟩
(.rd 11 ⟨(some 40), (some (32, true)), .load 1 false (.t 39)⟩
(.wr 12 ⟨(some 41), (some (32, true)), .call 122 [(.t 36), (.t 40)]⟩ [7, 11, 3, 3]
(.rd 13 ⟨(some 42), (some (32, true)), .un .not (.t 41)⟩
(.rd 14 ⟨(some 43), none, .pick (.t 32) (.t 42) (.c (.bool false))⟩
.fin)) .no))))))))))))) (some [0, 1, 9, 10, 43]))
(.cond (.t 43)
.skip
(.exit 2)))
(.block 3 (.ops [⟨(some 44), none, .mov (.t 9)⟩,
⟨(some 45), none, .ibin .add .i64 (.t 44) (.c (.int .i64 1))⟩,
⟨(some 9), none, .mov (.t 45)⟩] (some [0, 1, 9, 10]))))))
(.seq (.block 4 (.loop (.seq (.seq (.draw (.rd 0 ⟨(some 46), none, .mov (.t 9)⟩
(.rd 1 ⟨(some 47), none, .mov (.t 10)⟩
(.rd 2 ⟨(some 48), none, .ibin .leq .i64 (.t 46) (.t 47)⟩
(.rd 3 ⟨(some 49), none, .mov (.t 48)⟩
(.rd 4 ⟨(some 50), (some (49, true)), .mov (.t 0)⟩
(.rd 5 ⟨(some 51), (some (49, true)), .mov (.t 1)⟩
(.rd 6 ⟨(some 52), (some (49, true)), .iaddr 1 (.t 50) (.t 51)⟩
(.rd 7 ⟨(some 53), (some (49, true)), .load 1 false (.t 52)⟩
(.rd 8 ⟨(some 54), (some (49, true)), .mov (.t 0)⟩
(.rd 9 ⟨(some 55), (some (49, true)), .mov (.t 10)⟩
(.rd 10 ⟨(some 56), (some (49, true)), .iaddr 1 (.t 54) (.t 55)⟩
(.rd 11 ⟨(some 57), (some (49, true)), .load 1 false (.t 56)⟩
(.wr 12 ⟨(some 58), (some (49, true)), .call 122 [(.t 53), (.t 57)]⟩ [7, 11, 3, 3]
(.rd 13 ⟨(some 59), none, .pick (.t 49) (.t 58) (.c (.bool false))⟩
.fin) .no))))))))))))) (some [0, 1, 9, 10, 59]))
(.cond (.t 59)
.skip
(.exit 4)))
(.block 5 (.ops [⟨(some 60), none, .mov (.t 10)⟩,
⟨(some 61), none, .ibin .sub .i64 (.t 60) (.c (.int .i64 1))⟩,
⟨(some 10), none, .mov (.t 61)⟩] (some [0, 1, 9, 10]))))))
(.seq (.seq (.ops [⟨(some 62), none, .mov (.t 9)⟩,
⟨(some 63), none, .mov (.t 10)⟩,
⟨(some 64), none, .ibin .gtr .i64 (.t 62) (.t 63)⟩] (some [0, 1, 9, 10, 64]))
(.cond (.t 64)
(.exit 0)
.skip))
(.seq (.draw (.rd 0 ⟨(some 65), none, .mov (.t 0)⟩
(.rd 1 ⟨(some 66), none, .mov (.t 9)⟩
(.rd 2 ⟨(some 67), none, .mov (.t 0)⟩
(.rd 3 ⟨(some 68), none, .mov (.t 10)⟩
(.rd 4 ⟨(some 69), none, .mov (.t 0)⟩
(.rd 5 ⟨(some 70), none, .mov (.t 10)⟩
(.rd 6 ⟨(some 71), none, .iaddr 1 (.t 69) (.t 70)⟩
(.rd 7 ⟨(some 72), none, .load 1 false (.t 71)⟩
(.rd 8 ⟨(some 73), none, .mov (.t 0)⟩
(.rd 9 ⟨(some 74), none, .mov (.t 9)⟩
(.rd 10 ⟨(some 75), none, .iaddr 1 (.t 73) (.t 74)⟩
(.rd 11 ⟨(some 76), none, .load 1 false (.t 75)⟩
(.rd 12 ⟨(some 77), none, .iaddr 1 (.t 65) (.t 66)⟩
(.wr 13 ⟨none, none, .store 1 (.t 77) (.t 72)⟩ [12, 7, 0, 1, 4, 5, 6, 7, 11]
(.rd 14 ⟨(some 78), none, .iaddr 1 (.t 67) (.t 68)⟩
(.wr 15 ⟨none, none, .store 1 (.t 78) (.t 76)⟩ [14, 11, 13, 0, 1, 2, 3, 4, 5, 6, 7, 8, 9, 10, 11, 12, 13]
.fin .no)) .no)))))))))))))) (some [0, 1, 9, 10]))
(.seq (.ops [⟨(some 79), none, .mov (.t 9)⟩,
⟨(some 80), none, .ibin .add .i64 (.t 79) (.c (.int .i64 1))⟩,
⟨(some 9), none, .mov (.t 80)⟩] (some [0, 1, 9, 10]))
(.ops [⟨(some 81), none, .mov (.t 10)⟩,
⟨(some 82), none, .ibin .sub .i64 (.t 81) (.c (.int .i64 1))⟩,
⟨(some 10), none, .mov (.t 82)⟩] (some [0, 1, 9, 10]))))))))))
(.seq (.ops [⟨(some 83), none, .mov (.t 9)⟩,
⟨(some 8), none, .mov (.t 83)⟩] (some [8]))
.ret)))))⟩
/-- slices.partitionOrdered[int] -/
def ir133 : IFn := ⟨168, [.t 8, .t 9],
(.seq (.ops [⟨(some 8), none, .mov (.c (.int .i64 0))⟩,
⟨(some 9), none, .mov (.c (.bool false))⟩] (some [0, 1, 2, 3]))
(.seq (.draw (.rd 0 ⟨(some 12), none, .mov (.t 0)⟩
(.rd 1 ⟨(some 13), none, .mov (.t 1)⟩
(.rd 2 ⟨(some 14), none, .mov (.t 0)⟩
(.rd 3 ⟨(some 15), none, .mov (.t 3)⟩
(.rd 4 ⟨(some 16), none, .mov (.t 0)⟩
(.rd 5 ⟨(some 17), none, .mov (.t 3)⟩
(.rd 6 ⟨(some 18), none, .iaddr 1 (.t 16) (.t 17)⟩
(.rd 7 ⟨(some 19), none, .load 1 false (.t 18)⟩
(.rd 8 ⟨(some 20), none, .mov (.t 0)⟩
(.rd 9 ⟨(some 21), none, .mov (.t 1)⟩
(.rd 10 ⟨(some 22), none, .iaddr 1 (.t 20) (.t 21)⟩
(.rd 11 ⟨(some 23), none, .load 1 false (.t 22)⟩
(.rd 12 ⟨(some 24), none, .iaddr 1 (.t 12) (.t 13)⟩
(.wr 13 ⟨none, none, .store 1 (.t 24) (.t 19)⟩ [12, 7, 0, 1, 4, 5, 6, 7, 11]
(.rd 14 ⟨(some 25), none, .iaddr 1 (.t 14) (.t 15)⟩
(.wr 15 ⟨none, none, .store 1 (.t 25) (.t 23)⟩ [14, 11, 13, 0, 1, 2, 3, 4, 5, 6, 7, 8, 9, 10, 11, 12, 13]
.fin .no)) .no)))))))))))))) (some [0, 1, 2]))
(.seq (.ops [⟨(some 26), none, .mov (.t 1)⟩,
⟨(some 27), none, .ibin .add .i64 (.t 26) (.c (.int .i64 1))⟩,
⟨(some 28), none, .mov (.t 2)⟩,
⟨(some 29), none, .ibin .sub .i64 (.t 28) (.c (.int .i64 1))⟩,
⟨(some 10), none, .mov (.t 27)⟩,
⟨(some 11), none, .mov (.t 29)⟩] (some [0, 1, 10, 11]))
(.seq (.block 0 (.loop (.seq (.seq (.draw (.rd 0 ⟨(some 30), none, .mov (.t 10)⟩
(.rd 1 ⟨(some 31), none, .mov (.t 11)⟩
(.rd 2 ⟨(some 32), none, .ibin .leq .i64 (.t 30) (.t 31)⟩
(.rd 3 ⟨(some 33), none, .mov (.t 32)⟩
(.rd 4 ⟨(some 34), (some (33, true)), .mov (.t 0)⟩
(.rd 5 ⟨(some 35), (some (33, true)), .mov (.t 10)⟩
(.rd 6 ⟨(some 36), (some (33, true)), .iaddr 1 (.t 34) (.t 35)⟩
(.rd 7 ⟨(some 37), (some (33, true)), .load 1 false (.t 36)⟩
(.rd 8 ⟨(some 38), (some (33, true)), .mov (.t 0)⟩
(.rd 9 ⟨(some 39), (some (33, true)), .mov (.t 1)⟩
(.rd 10 ⟨(some 40), (some (33, true)), .iaddr 1 (.t 38) (.t 39)⟩
(.rd 11 ⟨(some 41), (some (33, true)), .load 1 false (.t 40)⟩
(.wr 12 ⟨(some 42), (some (33, true)), .call 122 [(.t 37), (.t 41)]⟩ [7, 11, 3, 3]
(.rd 13 ⟨(some 43), none, .pick (.t 33) (.t 42) (.c (.bool false))⟩
.fin) .no))))))))))))) (some [0, 1, 10, 11, 43]))
(.cond (.t 43)
.skip
(.exit 0)))
(.block 1 (.ops [⟨(some 44), none, .mov (.t 10)⟩,
⟨(some 45), none, .ibin .add .i64 (.t 44) (.c (.int .i64 1))⟩,
⟨(some 10), none, .mov (.t 45)⟩] (some [0, 1, 10, 11]))))))
(.seq (.block 2 (.loop (.seq (.seq (.draw (.rd 0 ⟨(some 46), none, .mov (.t 10)⟩
(.rd 1 ⟨(some 47), none, .mov (.t 11)⟩
(.rd 2 ⟨(some 48), none, .ibin .leq .i64 (.t 46) (.t 47)⟩
(.rd 3 ⟨(some 49), none, .mov (.t 48)⟩
(.rd 4 ⟨(some 50), (some (49, true)), .mov (.t 0)⟩
(.rd 5 ⟨(some 51), (some (49, true)), .mov (.t 11)⟩
(.rd 6 ⟨(some 52), (some (49, true)), .iaddr 1 (.t 50) (.t 51)⟩
(.rd 7 ⟨(some 53), (some (49, true)), .load 1 false (.t 52)⟩
(.rd 8 ⟨(some 54), (some (49, true)), .mov (.t 0)⟩
(.rd 9 ⟨(some 55), (some (49, true)), .mov (.t 1)⟩
(.rd 10 ⟨(some 56), (some (49, true)), .iaddr 1 (.t 54) (.t 55)⟩
(.rd 11 ⟨(some 57), (some (49, true)), .load 1 false (.t 56)⟩
(.wr 12 ⟨(some 58), (some (49, true)), .call 122 [(.t 53), (.t 57)]⟩ [7, 11, 3, 3]
(.rd 13 ⟨(some 59), (some (49, true)), .un .not (.t 58)⟩
(.rd 14 ⟨(some 60), none, .pick (.t 49) (.t 59) (.c (.bool false))⟩
.fin)) .no))))))))))))) (some [0, 1, 10, 11, 60]))
(.cond (.t 60)
.skip
(.exit 2)))
(.block 3 (.ops [⟨(some 61), none, .mov (.t 11)⟩,
⟨(some 62), none, .ibin .sub .i64 (.t 61) (.c (.int .i64 1))⟩,
⟨(some 11), none, .mov (.t 62)⟩] (some [0, 1, 10, 11]))))))
(.seq (.seq (.ops [⟨(some 63), none, .mov (.t 10)⟩,
⟨(some 64), none, .mov (.t 11)⟩,
⟨(some 65), none, .ibin .gtr .i64 (.t 63) (.t 64)⟩] (some [0, 1, 10, 11, 65]))
(.cond (.t 65)
(.seq (.draw (.rd 0 ⟨(some 66), none, .mov (.t 0)⟩
(.rd 1 ⟨(some 67), none, .mov (.t 11)⟩
(.rd 2 ⟨(some 68), none, .mov (.t 0)⟩
(.rd 3 ⟨(some 69), none, .mov (.t 1)⟩
(.rd 4 ⟨(some 70), none, .mov (.t 0)⟩
(.rd 5 ⟨(some 71), none, .mov (.t 1)⟩
(.rd 6 ⟨(some 72), none, .iaddr 1 (.t 70) (.t 71)⟩
(.rd 7 ⟨(some 73), none, .load 1 false (.t 72)⟩
(.rd 8 ⟨(some 74), none, .mov (.t 0)⟩
(.rd 9 ⟨(some 75), none, .mov (.t 11)⟩
(.rd 10 ⟨(some 76), none, .iaddr 1 (.t 74) (.t 75)⟩
(.rd 11 ⟨(some 77), none, .load 1 false (.t 76)⟩
(.rd 12 ⟨(some 78), none, .iaddr 1 (.t 66) (.t 67)⟩
(.wr 13 ⟨none, none, .store 1 (.t 78) (.t 73)⟩ [12, 7, 0, 1, 4, 5, 6, 7, 11]
(.rd 14 ⟨(some 79), none, .iaddr 1 (.t 68) (.t 69)⟩
(.wr 15 ⟨none, none, .store 1 (.t 79) (.t 77)⟩ [14, 11, 13, 0, 1, 2, 3, 4, 5, 6, 7, 8, 9, 10, 11, 12, 13]
.fin .no)) .no)))))))))))))) (some [11]))
(.seq (.ops [⟨(some 80), none, .mov (.t 11)⟩,
⟨(some 8), none, .mov (.t 80)⟩,
⟨(some 9), none, .mov (.c (.bool true))⟩] (some [8, 9]))
.ret))
.skip))
(.seq (.draw (.rd 0 ⟨(some 81), none, .mov (.t 0)⟩
(.rd 1 ⟨(some 82), none, .mov (.t 10)⟩
(.rd 2 ⟨(some 83), none, .mov (.t 0)⟩
(.rd 3 ⟨(some 84), none, .mov (.t 11)⟩
(.rd 4 ⟨(some 85), none, .mov (.t 0)⟩
(.rd 5 ⟨(some 86), none, .mov (.t 11)⟩
(.rd 6 ⟨(some 87), none, .iaddr 1 (.t 85) (.t 86)⟩
(.rd 7 ⟨(some 88), none, .load 1 false (.t 87)⟩
(.rd 8 ⟨(some 89), none, .mov (.t 0)⟩
(.rd 9 ⟨(some 90), none, .mov (.t 10)⟩
(.rd 10 ⟨(some 91), none, .iaddr 1 (.t 89) (.t 90)⟩
(.rd 11 ⟨(some 92), none, .load 1 false (.t 91)⟩
(.rd 12 ⟨(some 93), none, .iaddr 1 (.t 81) (.t 82)⟩
(.wr 13 ⟨none, none, .store 1 (.t 93) (.t 88)⟩ [12, 7, 0, 1, 4, 5, 6, 7, 11]
(.rd 14 ⟨(some 94), none, .iaddr 1 (.t 83) (.t 84)⟩
(.wr 15 ⟨none, none, .store 1 (.t 94) (.t 92)⟩ [14, 11, 13, 0, 1, 2, 3, 4, 5, 6, 7, 8, 9, 10, 11, 12, 13]
.fin .no)) .no)))))))))))))) (some [0, 1, 10, 11]))
(.seq (.ops [⟨(some 95), none, .mov (.t 10)⟩,
⟨(some 96), none, .ibin .add .i64 (.t 95) (.c (.int .i64 1))⟩,
⟨(some 10), none, .mov (.t 96)⟩] (some [0, 1, 10, 11]))
(.seq (.ops [⟨(some 97), none, .mov (.t 11)⟩,
⟨(some 98), none, .ibin .sub .i64 (.t 97) (.c (.int .i64 1))⟩,
⟨(some 11), none, .mov (.t 98)⟩] (some [0, 1, 10, 11]))
(.seq (.block 4 (.loop (.block 5 (.seq (.block 6 (.loop (.seq (.seq (.draw (.rd 0 ⟨(some 99), none, .mov (.t 10)⟩
(.rd 1 ⟨(some 100), none, .mov (.t 11)⟩
(.rd 2 ⟨(some 101), none, .ibin .leq .i64 (.t 99) (.t 100)⟩
(.rd 3 ⟨(some 102), none, .mov (.t 101)⟩
(.rd 4 ⟨(some 103), (some (102, true)), .mov (.t 0)⟩
(.rd 5 ⟨(some 104), (some (102, true)), .mov (.t 10)⟩
(.rd 6 ⟨(some 105), (some (102, true)), .iaddr 1 (.t 103) (.t 104)⟩
(.rd 7 ⟨(some 106), (some (102, true)), .load 1 false (.t 105)⟩
(.rd 8 ⟨(some 107), (some (102, true)), .mov (.t 0)⟩
(.rd 9 ⟨(some 108), (some (102, true)), .mov (.t 1)⟩
(.rd 10 ⟨(some 109), (some (102, true)), .iaddr 1 (.t 107) (.t 108)⟩
(.rd 11 ⟨(some 110), (some (102, true)), .load 1 false (.t 109)⟩
(.wr 12 ⟨(some 111), (some (102, true)), .call 122 [(.t 106), (.t 110)]⟩ [7, 11, 3, 3]
(.rd 13 ⟨(some 112), none, .pick (.t 102) (.t 111) (.c (.bool false))⟩
.fin) .no))))))))))))) (some [0, 1, 10, 11, 112]))
(.cond (.t 112)
.skip
(.exit 6)))
(.block 7 (.ops [⟨(some 113), none, .mov (.t 10)⟩,
⟨(some 114), none, .ibin .add .i64 (.t 113) (.c (.int .i64 1))⟩,
⟨(some 10), none, .mov (.t 114)⟩] (some [0, 1, 10, 11]))))))
(.seq (.block 8 (.loop (.seq (.seq (.draw (.rd 0 ⟨(some 115), none, .mov (.t 10)⟩
(.rd 1 ⟨(some 116), none, .mov (.t 11)⟩
(.rd 2 ⟨(some 117), none, .ibin .leq .i64 (.t 115) (.t 116)⟩
(.rd 3 ⟨(some 118), none, .mov (.t 117)⟩
(.rd 4 ⟨(some 119), (some (118, true)), .mov (.t 0)⟩
(.rd 5 ⟨(some 120), (some (118, true)), .mov (.t 11)⟩
(.rd 6 ⟨(some 121), (some (118, true)), .iaddr 1 (.t 119) (.t 120)⟩
(.rd 7 ⟨(some 122), (some (118, true)), .load 1 false (.t 121)⟩
(.rd 8 ⟨(some 123), (some (118, true)), .mov (.t 0)⟩
(.rd 9 ⟨(some 124), (some (118, true)), .mov (.t 1)⟩
(.rd 10 ⟨(some 125), (some (118, true)), .iaddr 1 (.t 123) (.t 124)⟩
(.rd 11 ⟨(some 126), (some (118, true)), .load 1 false (.t 125)⟩
(.wr 12 ⟨(some 127), (some (118, true)), .call 122 [(.t 122), (.t 126)]⟩ [7, 11, 3, 3]
(.rd 13 ⟨(some 128), (some (118, true)), .un .not (.t 127)⟩
(.rd 14 ⟨(some 129), none, .pick (.t 118) (.t 128) (.c (.bool false))⟩
.fin)) .no))))))))))))) (some [0, 1, 10, 11, 129]))
(.cond (.t 129)
.skip
(.exit 8)))
(.block 9 (.ops [⟨(some 130), none, .mov (.t 11)⟩,
⟨(some 131), none, .ibin .sub .i64 (.t 130) (.c (.int .i64 1))⟩,
⟨(some 11), none, .mov (.t 131)⟩] (some [0, 1, 10, 11]))))))
(.seq (.seq (.ops [⟨(some 132), none, .mov (.t 10)⟩,
⟨(some 133), none, .mov (.t 11)⟩,
⟨(some 134), none, .ibin .gtr .i64 (.t 132) (.t 133)⟩] (some [0, 1, 10, 11, 134]))
(.cond (.t 134)
(.exit 4)
.skip))
(.seq (.draw (.rd 0 ⟨(some 135), none, .mov (.t 0)⟩
(.rd 1 ⟨(some 136), none, .mov (.t 10)⟩
(.rd 2 ⟨(some 137), none, .mov (.t 0)⟩
(.rd 3 ⟨(some 138), none, .mov (.t 11)⟩
(.rd 4 ⟨(some 139), none, .mov (.t 0)⟩
(.rd 5 ⟨(some 140), none, .mov (.t 11)⟩
(.rd 6 ⟨(some 141), none, .iaddr 1 (.t 139) (.t 140)⟩
(.rd 7 ⟨(some 142), none, .load 1 false (.t 141)⟩
(.rd 8 ⟨(some 143), none, .mov (.t 0)⟩
(.rd 9 ⟨(some 144), none, .mov (.t 10)⟩
(.rd 10 ⟨(some 145), none, .iaddr 1 (.t 143) (.t 144)⟩
(.rd 11 ⟨(some 146), none, .load 1 false (.t 145)⟩
(.rd 12 ⟨(some 147), none, .iaddr 1 (.t 135) (.t 136)⟩
(.wr 13 ⟨none, none, .store 1 (.t 147) (.t 142)⟩ [12, 7, 0, 1, 4, 5, 6, 7, 11]
(.rd 14 ⟨(some 148), none, .iaddr 1 (.t 137) (.t 138)⟩
(.wr 15 ⟨none, none, .store 1 (.t 148) (.t 146)⟩ [14, 11, 13, 0, 1, 2, 3, 4, 5, 6, 7, 8, 9, 10, 11, 12, 13]
.fin .no)) .no)))))))))))))) (some [0, 1, 10, 11]))
(.seq (.ops [⟨(some 149), none, .mov (.t 10)⟩,
⟨(some 150), none, .ibin .add .i64 (.t 149) (.c (.int .i64 1))⟩,
⟨(some 10), none, .mov (.t 150)⟩] (some [0, 1, 10, 11]))
(.ops [⟨(some 151), none, .mov (.t 11)⟩,
⟨(some 152), none, .ibin .sub .i64 (.t 151) (.c (.int .i64 1))⟩,
⟨(some 11), none, .mov (.t 152)⟩] (some [0, 1, 10, 11]))))))))))
(.seq (.draw (.rd 0 ⟨(some 153), none, .mov (.t 0)⟩
(.rd 1 ⟨(some 154), none, .mov (.t 11)⟩
(.rd 2 ⟨(some 155), none, .mov (.t 0)⟩
(.rd 3 ⟨(some 156), none, .mov (.t 1)⟩
(.rd 4 ⟨(some 157), none, .mov (.t 0)⟩
(.rd 5 ⟨(some 158), none, .mov (.t 1)⟩
(.rd 6 ⟨(some 159), none, .iaddr 1 (.t 157) (.t 158)⟩
(.rd 7 ⟨(some 160), none, .load 1 false (.t 159)⟩
(.rd 8 ⟨(some 161), none, .mov (.t 0)⟩
(.rd 9 ⟨(some 162), none, .mov (.t 11)⟩
(.rd 10 ⟨(some 163), none, .iaddr 1 (.t 161) (.t 162)⟩
(.rd 11 ⟨(some 164), none, .load 1 false (.t 163)⟩
(.rd 12 ⟨(some 165), none, .iaddr 1 (.t 153) (.t 154)⟩
(.wr 13 ⟨none, none, .store 1 (.t 165) (.t 160)⟩ [12, 7, 0, 1, 4, 5, 6, 7, 11]
(.rd 14 ⟨(some 166), none, .iaddr 1 (.t 155) (.t 156)⟩
(.wr 15 ⟨none, none, .store 1 (.t 166) (.t 164)⟩ [14, 11, 13, 0, 1, 2, 3, 4, 5, 6, 7, 8, 9, 10, 11, 12, 13]
.fin .no)) .no)))))))))))))) (some [11]))
(.seq (.ops [⟨(some 167), none, .mov (.t 11)⟩,
⟨(some 8), none, .mov (.t 167)⟩,
⟨(some 9), none, .mov (.c (.bool false))⟩] (some [8, 9]))
.ret))))))))))))⟩
/-- math/bits.Len32 -/
def ir134 : IFn := ⟨19, [.t 2],
(.seq (.ops [⟨(some 2), none, .mov (.c (.int .i64 0))⟩] none)
(.seq (.seq (.ops [⟨(some 3), none, .mov (.t 0)⟩,
⟨(some 4), none, .ibin .geq .u32 (.t 3) (.c (.int .u32 65536))⟩] (some [0, 2, 4]))
(.cond (.t 4)
(.seq (.ops [⟨(some 5), none, .mov (.t 0)⟩,
⟨(some 6), none, .shift .shr .u32 (.t 5) (.c (.int .u64 16))⟩,
⟨(some 0), none, .mov (.t 6)⟩] (some [0]))
(.ops [⟨(some 2), none, .mov (.c (.int .i64 16))⟩] none))
.skip))
(.seq (.seq (.ops [⟨(some 7), none, .mov (.t 0)⟩,
⟨(some 8), none, .ibin .geq .u32 (.t 7) (.c (.int .u32 256))⟩] (some [0, 2, 8]))
(.cond (.t 8)
(.seq (.ops [⟨(some 9), none, .mov (.t 0)⟩,
⟨(some 10), none, .shift .shr .u32 (.t 9) (.c (.int .u64 8))⟩,
⟨(some 0), none, .mov (.t 10)⟩] (some [0, 2]))
(.ops [⟨(some 11), none, .mov (.t 2)⟩,
⟨(some 12), none, .ibin .add .i64 (.t 11) (.c (.int .i64 8))⟩,
⟨(some 2), none, .mov (.t 12)⟩] (some [0, 2])))
.skip))
(.seq (.ops [⟨(some 13), none, .mov (.t 2)⟩,
⟨(some 14), none, .mov (.t 0)⟩,
⟨(some 15), none, .conv .u8 (.t 14)⟩,
⟨(some 16), none, .indexS (.c (.string ⟨#[0, 1, 2, 2, 3, 3, 3, 3, 4, 4, 4, 4, 4, 4, 4, 4, 5, 5, 5, 5, 5, 5, 5, 5, 5, 5, 5, 5, 5, 5, 5, 5, 6, 6, 6, 6, 6, 6, 6, 6, 6, 6, 6, 6, 6, 6, 6, 6, 6, 6, 6, 6, 6, 6, 6, 6, 6, 6, 6, 6, 6, 6, 6, 6, 7, 7, 7, 7, 7, 7, 7, 7, 7, 7, 7, 7, 7, 7, 7, 7, 7, 7, 7, 7, 7, 7, 7, 7, 7, 7, 7, 7, 7, 7, 7, 7, 7, 7, 7, 7, 7, 7, 7, 7, 7, 7, 7, 7, 7, 7, 7, 7, 7, 7, 7, 7, 7, 7, 7, 7, 7, 7, 7, 7, 7, 7, 7, 7, 8, 8, 8, 8, 8, 8, 8, 8, 8, 8, 8, 8, 8, 8, 8, 8, 8, 8, 8, 8, 8, 8, 8, 8, 8, 8, 8, 8, 8, 8, 8, 8, 8, 8, 8, 8, 8, 8, 8, 8, 8, 8, 8, 8, 8, 8, 8, 8, 8, 8, 8, 8, 8, 8, 8, 8, 8, 8, 8, 8, 8, 8, 8, 8, 8, 8, 8, 8, 8, 8, 8, 8, 8, 8, 8, 8, 8, 8, 8, 8, 8, 8, 8, 8, 8, 8, 8, 8, 8, 8, 8, 8, 8, 8, 8, 8, 8, 8, 8, 8, 8, 8, 8, 8, 8, 8, 8, 8, 8, 8, 8, 8, 8, 8, 8, 8, 8, 8, 8, 8, 8, 8, 8, 8, 8, 8, 8, 8]⟩)) (.t 15)⟩,
⟨(some 17), none, .conv .i64 (.t 16)⟩,
⟨(some 18), none, .ibin .add .i64 (.t 13) (.t 17)⟩,
⟨(some 2), none, .mov (.t 18)⟩] (some [2]))
.ret))))⟩
/-- math/bits.Len64 -/
def ir135 : IFn := ⟨25, [.t 2],
(.seq (.ops [⟨(some 2), none, .mov (.c (.int .i64 0))⟩] none)
(.seq (.seq (.ops [⟨(some 3), none, .mov (.t 0)⟩,
⟨(some 4), none, .ibin .geq .u64 (.t 3) (.c (.int .u64 4294967296))⟩] (some [0, 2, 4]))
(.cond (.t 4)
(.seq (.ops [⟨(some 5), none, .mov (.t 0)⟩,
⟨(some 6), none, .shift .shr .u64 (.t 5) (.c (.int .u64 32))⟩,
⟨(some 0), none, .mov (.t 6)⟩] (some [0]))
(.ops [⟨(some 2), none, .mov (.c (.int .i64 32))⟩] none))
.skip))
(.seq (.seq (.ops [⟨(some 7), none, .mov (.t 0)⟩,
⟨(some 8), none, .ibin .geq .u64 (.t 7) (.c (.int .u64 65536))⟩] (some [0, 2, 8]))
(.cond (.t 8)
(.seq (.ops [⟨(some 9), none, .mov (.t 0)⟩,
⟨(some 10), none, .shift .shr .u64 (.t 9) (.c (.int .u64 16))⟩,
⟨(some 0), none, .mov (.t 10)⟩] (some [0, 2]))
(.ops [⟨(some 11), none, .mov (.t 2)⟩,
⟨(some 12), none, .ibin .add .i64 (.t 11) (.c (.int .i64 16))⟩,
⟨(some 2), none, .mov (.t 12)⟩] (some [0, 2])))
.skip))
(.seq (.seq (.ops [⟨(some 13), none, .mov (.t 0)⟩,
⟨(some 14), none, .ibin .geq .u64 (.t 13) (.c (.int .u64 256))⟩] (some [0, 2, 14]))
(.cond (.t 14)
(.seq (.ops [⟨(some 15), none, .mov (.t 0)⟩,
⟨(some 16), none, .shift .shr .u64 (.t 15) (.c (.int .u64 8))⟩,
⟨(some 0), none, .mov (.t 16)⟩] (some [0, 2]))
(.ops [⟨(some 17), none, .mov (.t 2)⟩,
⟨(some 18), none, .ibin .add .i64 (.t 17) (.c (.int .i64 8))⟩,
⟨(some 2), none, .mov (.t 18)⟩] (some [0, 2])))
.skip))
(.seq (.ops [⟨(some 19), none, .mov (.t 2)⟩,
⟨(some 20), none, .mov (.t 0)⟩,
⟨(some 21), none, .conv .u8 (.t 20)⟩,
⟨(some 22), none, .indexS (.c (.string ⟨#[0, 1, 2, 2, 3, 3, 3, 3, 4, 4, 4, 4, 4, 4, 4, 4, 5, 5, 5, 5, 5, 5, 5, 5, 5, 5, 5, 5, 5, 5, 5, 5, 6, 6, 6, 6, 6, 6, 6, 6, 6, 6, 6, 6, 6, 6, 6, 6, 6, 6, 6, 6, 6, 6, 6, 6, 6, 6, 6, 6, 6, 6, 6, 6, 7, 7, 7, 7, 7, 7, 7, 7, 7, 7, 7, 7, 7, 7, 7, 7, 7, 7, 7, 7, 7, 7, 7, 7, 7, 7, 7, 7, 7, 7, 7, 7, 7, 7, 7, 7, 7, 7, 7, 7, 7, 7, 7, 7, 7, 7, 7, 7, 7, 7, 7, 7, 7, 7, 7, 7, 7, 7, 7, 7, 7, 7, 7, 7, 8, 8, 8, 8, 8, 8, 8, 8, 8, 8, 8, 8, 8, 8, 8, 8, 8, 8, 8, 8, 8, 8, 8, 8, 8, 8, 8, 8, 8, 8, 8, 8, 8, 8, 8, 8, 8, 8, 8, 8, 8, 8, 8, 8, 8, 8, 8, 8, 8, 8, 8, 8, 8, 8, 8, 8, 8, 8, 8, 8, 8, 8, 8, 8, 8, 8, 8, 8, 8, 8, 8, 8, 8, 8, 8, 8, 8, 8, 8, 8, 8, 8, 8, 8, 8, 8, 8, 8, 8, 8, 8, 8, 8, 8, 8, 8, 8, 8, 8, 8, 8, 8, 8, 8, 8, 8, 8, 8, 8, 8, 8, 8, 8, 8, 8, 8, 8, 8, 8, 8, 8, 8, 8, 8, 8, 8, 8, 8]⟩)) (.t 21)⟩,
⟨(some 23), none, .conv .i64 (.t 22)⟩,
⟨(some 24), none, .ibin .add .i64 (.t 19) (.t 23)⟩,
⟨(some 2), none, .mov (.t 24)⟩] (some [2]))
.ret)))))⟩
/-- slices.insertionSortCmpFunc[int] -/
def ir136 : IFn := ⟨53, [],
(.seq (.ops [⟨(some 10), none, .mov (.t 1)⟩,
⟨(some 11), none, .ibin .add .i64 (.t 10) (.c (.int .i64 1))⟩,
⟨(some 8), none, .mov (.t 11)⟩] (some [0, 1, 2, 3, 8]))
(.block 0 (.loop (.seq (.seq (.ops [⟨(some 12), none, .mov (.t 8)⟩,
⟨(some 13), none, .mov (.t 2)⟩,
⟨(some 14), none, .ibin .lss .i64 (.t 12) (.t 13)⟩] (some [0, 1, 2, 3, 8, 14]))
(.cond (.t 14)
.skip
(.exit 0)))
(.seq (.block 1 (.seq (.ops [⟨(some 17), none, .mov (.t 8)⟩,
⟨(some 9), none, .mov (.t 17)⟩] (some [0, 1, 2, 3, 8, 9]))
(.block 2 (.loop (.seq (.seq (.draw (.rd 0 ⟨(some 18), none, .mov (.t 9)⟩
(.rd 1 ⟨(some 19), none, .mov (.t 1)⟩
(.rd 2 ⟨(some 20), none, .ibin .gtr .i64 (.t 18) (.t 19)⟩
(.rd 3 ⟨(some 21), none, .mov (.t 20)⟩
(.rd 4 ⟨(some 22), (some (21, true)), .mov (.t 3)⟩
(.rd 5 ⟨(some 23), (some (21, true)), .mov (.t 0)⟩
(.rd 6 ⟨(some 24), (some (21, true)), .mov (.t 9)⟩
(.rd 7 ⟨(some 25), (some (21, true)), .iaddr 1 (.t 23) (.t 24)⟩
(.rd 8 ⟨(some 26), (some (21, true)), .load 1 false (.t 25)⟩
(.rd 9 ⟨(some 27), (some (21, true)), .mov (.t 0)⟩
(.rd 10 ⟨(some 28), (some (21, true)), .mov (.t 9)⟩
(.rd 11 ⟨(some 29), (some (21, true)), .ibin .sub .i64 (.t 28) (.c (.int .i64 1))⟩
(.rd 12 ⟨(some 30), (some (21, true)), .iaddr 1 (.t 27) (.t 29)⟩
(.rd 13 ⟨(some 31), (some (21, true)), .load 1 false (.t 30)⟩
(.wr 14 ⟨(some 32), (some (21, true)), .callv (.t 22) [(.t 26), (.t 31)]⟩ [4, 8, 13, 3, 3]
(.rd 15 ⟨(some 33), (some (21, true)), .ibin .lss .i64 (.t 32) (.c (.int .i64 0))⟩
(.rd 16 ⟨(some 34), none, .pick (.t 21) (.t 33) (.c (.bool false))⟩
.fin)) .no))))))))))))))) (some [0, 1, 2, 3, 8, 9, 34]))
(.cond (.t 34)
.skip
(.exit 2)))
(.seq (.block 3 (.draw (.rd 0 ⟨(some 37), none, .mov (.t 0)⟩
(.rd 1 ⟨(some 38), none, .mov (.t 9)⟩
(.rd 2 ⟨(some 39), none, .mov (.t 0)⟩
(.rd 3 ⟨(some 40), none, .mov (.t 9)⟩
(.rd 4 ⟨(some 41), none, .ibin .sub .i64 (.t 40) (.c (.int .i64 1))⟩
(.rd 5 ⟨(some 42), none, .mov (.t 0)⟩
(.rd 6 ⟨(some 43), none, .mov (.t 9)⟩
(.rd 7 ⟨(some 44), none, .ibin .sub .i64 (.t 43) (.c (.int .i64 1))⟩
(.rd 8 ⟨(some 45), none, .iaddr 1 (.t 42) (.t 44)⟩
(.rd 9 ⟨(some 46), none, .load 1 false (.t 45)⟩
(.rd 10 ⟨(some 47), none, .mov (.t 0)⟩
(.rd 11 ⟨(some 48), none, .mov (.t 9)⟩
(.rd 12 ⟨(some 49), none, .iaddr 1 (.t 47) (.t 48)⟩
(.rd 13 ⟨(some 50), none, .load 1 false (.t 49)⟩
(.rd 14 ⟨(some 51), none, .iaddr 1 (.t 37) (.t 38)⟩
(.wr 15 ⟨none, none, .store 1 (.t 51) (.t 46)⟩ [14, 9, 0, 1, 5, 6, 7, 8, 9, 13]
(.rd 16 ⟨(some 52), none, .iaddr 1 (.t 39) (.t 41)⟩
(.wr 17 ⟨none, none, .store 1 (.t 52) (.t 50)⟩ [16, 13, 15, 0, 1, 2, 3, 4, 5, 6, 7, 8, 9, 10, 11, 12, 13, 14, 15]
.fin .no)) .no)))))))))))))))) (some [0, 1, 2, 3, 8, 9])))
(.ops [⟨(some 35), none, .mov (.t 9)⟩,
⟨(some 36), none, .ibin .sub .i64 (.t 35) (.c (.int .i64 1))⟩,
⟨(some 9), none, .mov (.t 36)⟩] (some [0, 1, 2, 3, 8, 9]))))))))
(.ops [⟨(some 15), none, .mov (.t 8)⟩,
⟨(some 16), none, .ibin .add .i64 (.t 15) (.c (.int .i64 1))⟩,
⟨(some 8), none, .mov (.t 16)⟩] (some [0, 1, 2, 3, 8])))))))⟩
/-- slices.symMergeCmpFunc[int] -/
def ir137 : IFn := ⟨220, [],
(.seq (.seq (.ops [⟨(some 25), none, .mov (.t 2)⟩,
⟨(some 26), none, .mov (.t 1)⟩,
⟨(some 27), none, .ibin .sub .i64 (.t 25) (.t 26)⟩,
⟨(some 28), none, .ibin .eql .i64 (.t 27) (.c (.int .i64 1))⟩] (some [0, 1, 2, 3, 4, 28]))
(.cond (.t 28)
(.seq (.ops [⟨(some 29), none, .mov (.t 2)⟩,
⟨(some 10), none, .mov (.t 29)⟩] (some [0, 1, 3, 4, 10]))
(.seq (.ops [⟨(some 30), none, .mov (.t 3)⟩,
⟨(some 11), none, .mov (.t 30)⟩] (some [0, 1, 4, 10, 11]))
(.seq (.block 0 (.loop (.seq (.seq (.ops [⟨(some 31), none, .mov (.t 10)⟩,
⟨(some 32), none, .mov (.t 11)⟩,
⟨(some 33), none, .ibin .lss .i64 (.t 31) (.t 32)⟩] (some [0, 1, 4, 10, 11, 33]))
(.cond (.t 33)
.skip
(.exit 0)))
(.block 1 (.seq (.ops [⟨(some 34), none, .mov (.t 10)⟩,
⟨(some 35), none, .mov (.t 11)⟩,
⟨(some 36), none, .ibin .add .i64 (.t 34) (.t 35)⟩,
⟨(some 37), none, .conv .u64 (.t 36)⟩,
⟨(some 38), none, .shift .shr .u64 (.t 37) (.c (.int .u64 1))⟩,
⟨(some 39), none, .conv .i64 (.t 38)⟩,
⟨(some 12), none, .mov (.t 39)⟩] (some [0, 1, 4, 10, 11, 12]))
(.seq (.draw (.rd 0 ⟨(some 40), none, .mov (.t 4)⟩
(.rd 1 ⟨(some 41), none, .mov (.t 0)⟩
(.rd 2 ⟨(some 42), none, .mov (.t 12)⟩
(.rd 3 ⟨(some 43), none, .iaddr 1 (.t 41) (.t 42)⟩
(.rd 4 ⟨(some 44), none, .load 1 false (.t 43)⟩
(.rd 5 ⟨(some 45), none, .mov (.t 0)⟩
(.rd 6 ⟨(some 46), none, .mov (.t 1)⟩
(.rd 7 ⟨(some 47), none, .iaddr 1 (.t 45) (.t 46)⟩
(.rd 8 ⟨(some 48), none, .load 1 false (.t 47)⟩
(.wr 9 ⟨(some 49), none, .callv (.t 40) [(.t 44), (.t 48)]⟩ [0, 4, 8]
(.rd 10 ⟨(some 50), none, .ibin .lss .i64 (.t 49) (.c (.int .i64 0))⟩
.fin) .no)))))))))) (some [0, 1, 4, 10, 11, 12, 50]))
(.cond (.t 50)
(.ops [⟨(some 51), none, .mov (.t 12)⟩,
⟨(some 52), none, .ibin .add .i64 (.t 51) (.c (.int .i64 1))⟩,
⟨(some 10), none, .mov (.t 52)⟩] (some [0, 1, 4, 10, 11]))
(.ops [⟨(some 53), none, .mov (.t 12)⟩,
⟨(some 11), none, .mov (.t 53)⟩] (some [0, 1, 4, 10, 11])))))))))
(.seq (.seq (.ops [⟨(some 54), none, .mov (.t 1)⟩,
⟨(some 13), none, .mov (.t 54)⟩] (some [0, 10, 13]))
(.block 2 (.loop (.seq (.seq (.ops [⟨(some 55), none, .mov (.t 13)⟩,
⟨(some 56), none, .mov (.t 10)⟩,
⟨(some 57), none, .ibin .sub .i64 (.t 56) (.c (.int .i64 1))⟩,
⟨(some 58), none, .ibin .lss .i64 (.t 55) (.t 57)⟩] (some [0, 10, 13, 58]))
(.cond (.t 58)
.skip
(.exit 2)))
(.seq (.block 3 (.draw (.rd 0 ⟨(some 61), none, .mov (.t 0)⟩
(.rd 1 ⟨(some 62), none, .mov (.t 13)⟩
(.rd 2 ⟨(some 63), none, .mov (.t 0)⟩
(.rd 3 ⟨(some 64), none, .mov (.t 13)⟩
(.rd 4 ⟨(some 65), none, .ibin .add .i64 (.t 64) (.c (.int .i64 1))⟩
(.rd 5 ⟨(some 66), none, .mov (.t 0)⟩
(.rd 6 ⟨(some 67), none, .mov (.t 13)⟩
(.rd 7 ⟨(some 68), none, .ibin .add .i64 (.t 67) (.c (.int .i64 1))⟩
(.rd 8 ⟨(some 69), none, .iaddr 1 (.t 66) (.t 68)⟩
(.rd 9 ⟨(some 70), none, .load 1 false (.t 69)⟩
(.rd 10 ⟨(some 71), none, .mov (.t 0)⟩
(.rd 11 ⟨(some 72), none, .mov (.t 13)⟩
(.rd 12 ⟨(some 73), none, .iaddr 1 (.t 71) (.t 72)⟩
(.rd 13 ⟨(some 74), none, .load 1 false (.t 73)⟩
(.rd 14 ⟨(some 75), none, .iaddr 1 (.t 61) (.t 62)⟩
(.wr 15 ⟨none, none, .store 1 (.t 75) (.t 70)⟩ [14, 9, 0, 1, 5, 6, 7, 8, 9, 13]
(.rd 16 ⟨(some 76), none, .iaddr 1 (.t 63) (.t 65)⟩
(.wr 17 ⟨none, none, .store 1 (.t 76) (.t 74)⟩ [16, 13, 15, 0, 1, 2, 3, 4, 5, 6, 7, 8, 9, 10, 11, 12, 13, 14, 15]
.fin .no)) .no)))))))))))))))) (some [0, 10, 13])))
(.ops [⟨(some 59), none, .mov (.t 13)⟩,
⟨(some 60), none, .ibin .add .i64 (.t 59) (.c (.int .i64 1))⟩,
⟨(some 13), none, .mov (.t 60)⟩] (some [0, 10, 13])))))))
.ret))))
.skip))
(.seq (.seq (.ops [⟨(some 77), none, .mov (.t 3)⟩,
⟨(some 78), none, .mov (.t 2)⟩,
⟨(some 79), none, .ibin .sub .i64 (.t 77) (.t 78)⟩,
⟨(some 80), none, .ibin .eql .i64 (.t 79) (.c (.int .i64 1))⟩] (some [0, 1, 2, 3, 4, 80]))
(.cond (.t 80)
(.seq (.ops [⟨(some 81), none, .mov (.t 1)⟩,
⟨(some 14), none, .mov (.t 81)⟩] (some [0, 2, 4, 14]))
(.seq (.ops [⟨(some 82), none, .mov (.t 2)⟩,
⟨(some 15), none, .mov (.t 82)⟩] (some [0, 2, 4, 14, 15]))
(.seq (.block 4 (.loop (.seq (.seq (.ops [⟨(some 83), none, .mov (.t 14)⟩,
⟨(some 84), none, .mov (.t 15)⟩,
⟨(some 85), none, .ibin .lss .i64 (.t 83) (.t 84)⟩] (some [0, 2, 4, 14, 15, 85]))
(.cond (.t 85)
.skip
(.exit 4)))
(.block 5 (.seq (.ops [⟨(some 86), none, .mov (.t 14)⟩,
⟨(some 87), none, .mov (.t 15)⟩,
⟨(some 88), none, .ibin .add .i64 (.t 86) (.t 87)⟩,
⟨(some 89), none, .conv .u64 (.t 88)⟩,
⟨(some 90), none, .shift .shr .u64 (.t 89) (.c (.int .u64 1))⟩,
⟨(some 91), none, .conv .i64 (.t 90)⟩,
⟨(some 16), none, .mov (.t 91)⟩] (some [0, 2, 4, 14, 15, 16]))
(.seq (.draw (.rd 0 ⟨(some 92), none, .mov (.t 4)⟩
(.rd 1 ⟨(some 93), none, .mov (.t 0)⟩
(.rd 2 ⟨(some 94), none, .mov (.t 2)⟩
(.rd 3 ⟨(some 95), none, .iaddr 1 (.t 93) (.t 94)⟩
(.rd 4 ⟨(some 96), none, .load 1 false (.t 95)⟩
(.rd 5 ⟨(some 97), none, .mov (.t 0)⟩
(.rd 6 ⟨(some 98), none, .mov (.t 16)⟩
(.rd 7 ⟨(some 99), none, .iaddr 1 (.t 97) (.t 98)⟩
(.rd 8 ⟨(some 100), none, .load 1 false (.t 99)⟩
(.wr 9 ⟨(some 101), none, .callv (.t 92) [(.t 96), (.t 100)]⟩ [0, 4, 8]
(.rd 10 ⟨(some 102), none, .ibin .lss .i64 (.t 101) (.c (.int .i64 0))⟩
(.rd 11 ⟨(some 103), none, .un .not (.t 102)⟩
.fin)) .no)))))))))) (some [0, 2, 4, 14, 15, 16, 103]))
(.cond (.t 103)
(.ops [⟨(some 104), none, .mov (.t 16)⟩,
⟨(some 105), none, .ibin .add .i64 (.t 104) (.c (.int .i64 1))⟩,
⟨(some 14), none, .mov (.t 105)⟩] (some [0, 2, 4, 14, 15]))
(.ops [⟨(some 106), none, .mov (.t 16)⟩,
⟨(some 15), none, .mov (.t 106)⟩] (some [0, 2, 4, 14, 15])))))))))
(.seq (.seq (.ops [⟨(some 107), none, .mov (.t 2)⟩,
⟨(some 17), none, .mov (.t 107)⟩] (some [0, 14, 17]))
(.block 6 (.loop (.seq (.seq (.ops [⟨(some 108), none, .mov (.t 17)⟩,
⟨(some 109), none, .mov (.t 14)⟩,
⟨(some 110), none, .ibin .gtr .i64 (.t 108) (.t 109)⟩] (some [0, 14, 17, 110]))
(.cond (.t 110)
.skip
(.exit 6)))
(.seq (.block 7 (.draw (.rd 0 ⟨(some 113), none, .mov (.t 0)⟩
(.rd 1 ⟨(some 114), none, .mov (.t 17)⟩
(.rd 2 ⟨(some 115), none, .mov (.t 0)⟩
(.rd 3 ⟨(some 116), none, .mov (.t 17)⟩
(.rd 4 ⟨(some 117), none, .ibin .sub .i64 (.t 116) (.c (.int .i64 1))⟩
(.rd 5 ⟨(some 118), none, .mov (.t 0)⟩
(.rd 6 ⟨(some 119), none, .mov (.t 17)⟩
(.rd 7 ⟨(some 120), none, .ibin .sub .i64 (.t 119) (.c (.int .i64 1))⟩
(.rd 8 ⟨(some 121), none, .iaddr 1 (.t 118) (.t 120)⟩
(.rd 9 ⟨(some 122), none, .load 1 false (.t 121)⟩
(.rd 10 ⟨(some 123), none, .mov (.t 0)⟩
(.rd 11 ⟨(some 124), none, .mov (.t 17)⟩
(.rd 12 ⟨(some 125), none, .iaddr 1 (.t 123) (.t 124)⟩
(.rd 13 ⟨(some 126), none, .load 1 false (.t 125)⟩
(.rd 14 ⟨(some 127), none, .iaddr 1 (.t 113) (.t 114)⟩
(.wr 15 ⟨none, none, .store 1 (.t 127) (.t 122)⟩ [14, 9, 0, 1, 5, 6, 7, 8, 9, 13]
(.rd 16 ⟨(some 128), none, .iaddr 1 (.t 115) (.t 117)⟩
(.wr 17 ⟨none, none, .store 1 (.t 128) (.t 126)⟩ [16, 13, 15, 0, 1, 2, 3, 4, 5, 6, 7, 8, 9, 10, 11, 12, 13, 14, 15]
.fin .no)) .no)))))))))))))))) (some [0, 14, 17])))
(.ops [⟨(some 111), none, .mov (.t 17)⟩,
⟨(some 112), none, .ibin .sub .i64 (.t 111) (.c (.int .i64 1))⟩,
⟨(some 17), none, .mov (.t 112)⟩] (some [0, 14, 17])))))))
.ret))))
.skip))
(.seq (.ops [⟨(some 129), none, .mov (.t 1)⟩,
⟨(some 130), none, .mov (.t 3)⟩,
⟨(some 131), none, .ibin .add .i64 (.t 129) (.t 130)⟩,
⟨(some 132), none, .conv .u64 (.t 131)⟩,
⟨(some 133), none, .shift .shr .u64 (.t 132) (.c (.int .u64 1))⟩,
⟨(some 134), none, .conv .i64 (.t 133)⟩,
⟨(some 18), none, .mov (.t 134)⟩] (some [0, 1, 2, 3, 4, 18]))
(.seq (.ops [⟨(some 135), none, .mov (.t 18)⟩,
⟨(some 136), none, .mov (.t 2)⟩,
⟨(some 137), none, .ibin .add .i64 (.t 135) (.t 136)⟩,
⟨(some 19), none, .mov (.t 137)⟩] (some [0, 1, 2, 3, 4, 18, 19]))
(.seq (.ops [⟨(some 20), none, .mov (.c (.int .i64 0))⟩,
⟨(some 21), none, .mov (.c (.int .i64 0))⟩] (some [0, 1, 2, 3, 4, 18, 19]))
(.seq (.seq (.ops [⟨(some 138), none, .mov (.t 2)⟩,
⟨(some 139), none, .mov (.t 18)⟩,
⟨(some 140), none, .ibin .gtr .i64 (.t 138) (.t 139)⟩] (some [0, 1, 2, 3, 4, 18, 19, 140]))
(.cond (.t 140)
(.seq (.ops [⟨(some 141), none, .mov (.t 19)⟩,
⟨(some 142), none, .mov (.t 3)⟩,
⟨(some 143), none, .ibin .sub .i64 (.t 141) (.t 142)⟩,
⟨(some 20), none, .mov (.t 143)⟩] (some [0, 1, 2, 3, 4, 18, 19, 20]))
(.ops [⟨(some 144), none, .mov (.t 18)⟩,
⟨(some 21), none, .mov (.t 144)⟩] (some [0, 1, 2, 3, 4, 18, 19, 20, 21])))
(.seq (.ops [⟨(some 145), none, .mov (.t 1)⟩,
⟨(some 20), none, .mov (.t 145)⟩] (some [0, 1, 2, 3, 4, 18, 19, 20]))
(.ops [⟨(some 146), none, .mov (.t 2)⟩,
⟨(some 21), none, .mov (.t 146)⟩] (some [0, 1, 2, 3, 4, 18, 19, 20, 21])))))
(.seq (.ops [⟨(some 147), none, .mov (.t 19)⟩,
⟨(some 148), none, .ibin .sub .i64 (.t 147) (.c (.int .i64 1))⟩,
⟨(some 22), none, .mov (.t 148)⟩] (some [0, 1, 2, 3, 4, 18, 19, 20, 21, 22]))
(.seq (.block 8 (.loop (.seq (.seq (.ops [⟨(some 149), none, .mov (.t 20)⟩,
⟨(some 150), none, .mov (.t 21)⟩,
⟨(some 151), none, .ibin .lss .i64 (.t 149) (.t 150)⟩] (some [0, 1, 2, 3, 4, 18, 19, 20, 21, 22, 151]))
(.cond (.t 151)
.skip
(.exit 8)))
(.block 9 (.seq (.ops [⟨(some 152), none, .mov (.t 20)⟩,
⟨(some 153), none, .mov (.t 21)⟩,
⟨(some 154), none, .ibin .add .i64 (.t 152) (.t 153)⟩,
⟨(some 155), none, .conv .u64 (.t 154)⟩,
⟨(some 156), none, .shift .shr .u64 (.t 155) (.c (.int .u64 1))⟩,
⟨(some 157), none, .conv .i64 (.t 156)⟩,
⟨(some 23), none, .mov (.t 157)⟩] (some [0, 1, 2, 3, 4, 18, 19, 20, 21, 22, 23]))
(.seq (.draw (.rd 0 ⟨(some 158), none, .mov (.t 4)⟩
(.rd 1 ⟨(some 159), none, .mov (.t 0)⟩
(.rd 2 ⟨(some 160), none, .mov (.t 22)⟩
(.rd 3 ⟨(some 161), none, .mov (.t 23)⟩
(.rd 4 ⟨(some 162), none, .ibin .sub .i64 (.t 160) (.t 161)⟩
(.rd 5 ⟨(some 163), none, .iaddr 1 (.t 159) (.t 162)⟩
(.rd 6 ⟨(some 164), none, .load 1 false (.t 163)⟩
(.rd 7 ⟨(some 165), none, .mov (.t 0)⟩
(.rd 8 ⟨(some 166), none, .mov (.t 23)⟩
(.rd 9 ⟨(some 167), none, .iaddr 1 (.t 165) (.t 166)⟩
(.rd 10 ⟨(some 168), none, .load 1 false (.t 167)⟩
(.wr 11 ⟨(some 169), none, .callv (.t 158) [(.t 164), (.t 168)]⟩ [0, 6, 10]
(.rd 12 ⟨(some 170), none, .ibin .lss .i64 (.t 169) (.c (.int .i64 0))⟩
(.rd 13 ⟨(some 171), none, .un .not (.t 170)⟩
.fin)) .no)))))))))))) (some [0, 1, 2, 3, 4, 18, 19, 20, 21, 22, 23, 171]))
(.cond (.t 171)
(.ops [⟨(some 172), none, .mov (.t 23)⟩,
⟨(some 173), none, .ibin .add .i64 (.t 172) (.c (.int .i64 1))⟩,
⟨(some 20), none, .mov (.t 173)⟩] (some [0, 1, 2, 3, 4, 18, 19, 20, 21, 22]))
(.ops [⟨(some 174), none, .mov (.t 23)⟩,
⟨(some 21), none, .mov (.t 174)⟩] (some [0, 1, 2, 3, 4, 18, 19, 20, 21, 22])))))))))
(.seq (.ops [⟨(some 175), none, .mov (.t 19)⟩,
⟨(some 176), none, .mov (.t 20)⟩,
⟨(some 177), none, .ibin .sub .i64 (.t 175) (.t 176)⟩,
⟨(some 24), none, .mov (.t 177)⟩] (some [0, 1, 2, 3, 4, 18, 20, 24]))
(.seq (.seq (.ops [⟨(some 178), none, .mov (.t 20)⟩,
⟨(some 179), none, .mov (.t 2)⟩,
⟨(some 180), none, .ibin .lss .i64 (.t 178) (.t 179)⟩,
⟨(some 181), none, .mov (.t 180)⟩,
⟨(some 182), (some (181, true)), .mov (.t 2)⟩,
⟨(some 183), (some (181, true)), .mov (.t 24)⟩,
⟨(some 184), (some (181, true)), .ibin .lss .i64 (.t 182) (.t 183)⟩,
⟨(some 185), none, .pick (.t 181) (.t 184) (.c (.bool false))⟩] (some [0, 1, 2, 3, 4, 18, 20, 24, 185]))
(.cond (.t 185)
(.ops [⟨(some 186), none, .mov (.t 0)⟩,
⟨(some 187), none, .mov (.t 20)⟩,
⟨(some 188), none, .mov (.t 2)⟩,
⟨(some 189), none, .mov (.t 24)⟩,
⟨(some 190), none, .mov (.t 4)⟩,
⟨(some 191), none, .call 144 [(.t 186), (.t 187), (.t 188), (.t 189), (.t 190)]⟩] (some [0, 1, 3, 4, 18, 20, 24]))
.skip))
(.seq (.seq (.ops [⟨(some 192), none, .mov (.t 1)⟩,
⟨(some 193), none, .mov (.t 20)⟩,
⟨(some 194), none, .ibin .lss .i64 (.t 192) (.t 193)⟩,
⟨(some 195), none, .mov (.t 194)⟩,
⟨(some 196), (some (195, true)), .mov (.t 20)⟩,
⟨(some 197), (some (195, true)), .mov (.t 18)⟩,
⟨(some 198), (some (195, true)), .ibin .lss .i64 (.t 196) (.t 197)⟩,
⟨(some 199), none, .pick (.t 195) (.t 198) (.c (.bool false))⟩] (some [0, 1, 3, 4, 18, 20, 24, 199]))
(.cond (.t 199)
(.ops [⟨(some 200), none, .mov (.t 0)⟩,
⟨(some 201), none, .mov (.t 1)⟩,
⟨(some 202), none, .mov (.t 20)⟩,
⟨(some 203), none, .mov (.t 18)⟩,
⟨(some 204), none, .mov (.t 4)⟩,
⟨(some 205), none, .call 137 [(.t 200), (.t 201), (.t 202), (.t 203), (.t 204)]⟩] (some [0, 3, 4, 18, 24]))
.skip))
(.seq (.ops [⟨(some 206), none, .mov (.t 18)⟩,
⟨(some 207), none, .mov (.t 24)⟩,
⟨(some 208), none, .ibin .lss .i64 (.t 206) (.t 207)⟩,
⟨(some 209), none, .mov (.t 208)⟩,
⟨(some 210), (some (209, true)), .mov (.t 24)⟩,
⟨(some 211), (some (209, true)), .mov (.t 3)⟩,
⟨(some 212), (some (209, true)), .ibin .lss .i64 (.t 210) (.t 211)⟩,
⟨(some 213), none, .pick (.t 209) (.t 212) (.c (.bool false))⟩] (some [0, 3, 4, 18, 24, 213]))
(.cond (.t 213)
(.ops [⟨(some 214), none, .mov (.t 0)⟩,
⟨(some 215), none, .mov (.t 18)⟩,
⟨(some 216), none, .mov (.t 24)⟩,
⟨(some 217), none, .mov (.t 3)⟩,
⟨(some 218), none, .mov (.t 4)⟩,
⟨(some 219), none, .call 137 [(.t 214), (.t 215), (.t 216), (.t 217), (.t 218)]⟩] (some []))
.skip)))))))))))))⟩
/-- slices.Contains[[]int,int] -/
def ir138 : IFn := ⟨9, [.t 4],
(.seq (.ops [⟨(some 4), none, .mov (.c (.bool false))⟩] (some [0, 1]))
(.seq (.ops [⟨(some 5), none, .mov (.t 0)⟩,
⟨(some 6), none, .mov (.t 1)⟩,
⟨(some 7), none, .call 145 [(.t 5), (.t 6)]⟩,
⟨(some 8), none, .ibin .geq .i64 (.t 7) (.c (.int .i64 0))⟩,
⟨(some 4), none, .mov (.t 8)⟩] (some [4]))
.ret))⟩
/-- slices.siftDownOrdered[int] -/
def ir139 : IFn := ⟨76, [],
(.seq (.ops [⟨(some 10), none, .mov (.t 1)⟩,
⟨(some 8), none, .mov (.t 10)⟩] (some [0, 2, 3, 8]))
(.block 0 (.loop (.block 1 (.seq (.ops [⟨(some 11), none, .mov (.t 8)⟩,
⟨(some 12), none, .ibin .mul .i64 (.c (.int .i64 2)) (.t 11)⟩,
⟨(some 13), none, .ibin .add .i64 (.t 12) (.c (.int .i64 1))⟩,
⟨(some 9), none, .mov (.t 13)⟩] (some [0, 2, 3, 8, 9]))
(.seq (.seq (.ops [⟨(some 14), none, .mov (.t 9)⟩,
⟨(some 15), none, .mov (.t 2)⟩,
⟨(some 16), none, .ibin .geq .i64 (.t 14) (.t 15)⟩] (some [0, 2, 3, 8, 9, 16]))
(.cond (.t 16)
(.exit 0)
.skip))
(.seq (.seq (.draw (.rd 0 ⟨(some 17), none, .mov (.t 9)⟩
(.rd 1 ⟨(some 18), none, .ibin .add .i64 (.t 17) (.c (.int .i64 1))⟩
(.rd 2 ⟨(some 19), none, .mov (.t 2)⟩
(.rd 3 ⟨(some 20), none, .ibin .lss .i64 (.t 18) (.t 19)⟩
(.rd 4 ⟨(some 21), none, .mov (.t 20)⟩
(.rd 5 ⟨(some 22), (some (21, true)), .mov (.t 0)⟩
(.rd 6 ⟨(some 23), (some (21, true)), .mov (.t 3)⟩
(.rd 7 ⟨(some 24), (some (21, true)), .mov (.t 9)⟩
(.rd 8 ⟨(some 25), (some (21, true)), .ibin .add .i64 (.t 23) (.t 24)⟩
(.rd 9 ⟨(some 26), (some (21, true)), .iaddr 1 (.t 22) (.t 25)⟩
(.rd 10 ⟨(some 27), (some (21, true)), .load 1 false (.t 26)⟩
(.rd 11 ⟨(some 28), (some (21, true)), .mov (.t 0)⟩
(.rd 12 ⟨(some 29), (some (21, true)), .mov (.t 3)⟩
(.rd 13 ⟨(some 30), (some (21, true)), .mov (.t 9)⟩
(.rd 14 ⟨(some 31), (some (21, true)), .ibin .add .i64 (.t 29) (.t 30)⟩
(.rd 15 ⟨(some 32), (some (21, true)), .ibin .add .i64 (.t 31) (.c (.int .i64 1))⟩
(.rd 16 ⟨(some 33), (some (21, true)), .iaddr 1 (.t 28) (.t 32)⟩
(.rd 17 ⟨(some 34), (some (21, true)), .load 1 false (.t 33)⟩
(.wr 18 ⟨(some 35), (some (21, true)), .call 122 [(.t 27), (.t 34)]⟩ [10, 17, 4, 4]
(.rd 19 ⟨(some 36), none, .pick (.t 21) (.t 35) (.c (.bool false))⟩
.fin) .no))))))))))))))))))) (some [0, 2, 3, 8, 9, 36]))
(.cond (.t 36)
(.ops [⟨(some 37), none, .mov (.t 9)⟩,
⟨(some 38), none, .ibin .add .i64 (.t 37) (.c (.int .i64 1))⟩,
⟨(some 9), none, .mov (.t 38)⟩] (some [0, 2, 3, 8, 9]))
.skip))
(.seq (.seq (.draw (.rd 0 ⟨(some 39), none, .mov (.t 0)⟩
(.rd 1 ⟨(some 40), none, .mov (.t 3)⟩
(.rd 2 ⟨(some 41), none, .mov (.t 8)⟩
(.rd 3 ⟨(some 42), none, .ibin .add .i64 (.t 40) (.t 41)⟩
(.rd 4 ⟨(some 43), none, .iaddr 1 (.t 39) (.t 42)⟩
(.rd 5 ⟨(some 44), none, .load 1 false (.t 43)⟩
(.rd 6 ⟨(some 45), none, .mov (.t 0)⟩
(.rd 7 ⟨(some 46), none, .mov (.t 3)⟩
(.rd 8 ⟨(some 47), none, .mov (.t 9)⟩
(.rd 9 ⟨(some 48), none, .ibin .add .i64 (.t 46) (.t 47)⟩
(.rd 10 ⟨(some 49), none, .iaddr 1 (.t 45) (.t 48)⟩
(.rd 11 ⟨(some 50), none, .load 1 false (.t 49)⟩
(.wr 12 ⟨(some 51), none, .call 122 [(.t 44), (.t 50)]⟩ [5, 11]
(.rd 13 ⟨(some 52), none, .un .not (.t 51)⟩
.fin) .no))))))))))))) (some [0, 2, 3, 8, 9, 52]))
(.cond (.t 52)
.ret
.skip))
(.seq (.draw (.rd 0 ⟨(some 53), none, .mov (.t 0)⟩
(.rd 1 ⟨(some 54), none, .mov (.t 3)⟩
(.rd 2 ⟨(some 55), none, .mov (.t 8)⟩
(.rd 3 ⟨(some 56), none, .ibin .add .i64 (.t 54) (.t 55)⟩
(.rd 4 ⟨(some 57), none, .mov (.t 0)⟩
(.rd 5 ⟨(some 58), none, .mov (.t 3)⟩
(.rd 6 ⟨(some 59), none, .mov (.t 9)⟩
(.rd 7 ⟨(some 60), none, .ibin .add .i64 (.t 58) (.t 59)⟩
(.rd 8 ⟨(some 61), none, .mov (.t 0)⟩
(.rd 9 ⟨(some 62), none, .mov (.t 3)⟩
(.rd 10 ⟨(some 63), none, .mov (.t 9)⟩
(.rd 11 ⟨(some 64), none, .ibin .add .i64 (.t 62) (.t 63)⟩
(.rd 12 ⟨(some 65), none, .iaddr 1 (.t 61) (.t 64)⟩
(.rd 13 ⟨(some 66), none, .load 1 false (.t 65)⟩
(.rd 14 ⟨(some 67), none, .mov (.t 0)⟩
(.rd 15 ⟨(some 68), none, .mov (.t 3)⟩
(.rd 16 ⟨(some 69), none, .mov (.t 8)⟩
(.rd 17 ⟨(some 70), none, .ibin .add .i64 (.t 68) (.t 69)⟩
(.rd 18 ⟨(some 71), none, .iaddr 1 (.t 67) (.t 70)⟩
(.rd 19 ⟨(some 72), none, .load 1 false (.t 71)⟩
(.rd 20 ⟨(some 73), none, .iaddr 1 (.t 53) (.t 56)⟩
(.wr 21 ⟨none, none, .store 1 (.t 73) (.t 66)⟩ [20, 13, 0, 1, 2, 3, 8, 9, 10, 11, 12, 13, 19]
(.rd 22 ⟨(some 74), none, .iaddr 1 (.t 57) (.t 60)⟩
(.wr 23 ⟨none, none, .store 1 (.t 74) (.t 72)⟩ [22, 19, 21, 0, 1, 2, 3, 4, 5, 6, 7, 8, 9, 10, 11, 12, 13, 14, 15, 16, 17, 18, 19, 20, 21]
.fin .no)) .no)))))))))))))))))))))) (some [0, 2, 3, 9]))
(.ops [⟨(some 75), none, .mov (.t 9)⟩,
⟨(some 8), none, .mov (.t 75)⟩] (some [0, 2, 3, 8])))))))))))⟩
/-- slices.nextPowerOfTwo -/
def ir140 : IFn := ⟨7, [.t 2],
(.seq (.ops [⟨(some 2), none, .mov (.c (.int .u64 0))⟩] (some [0]))
(.seq (.ops [⟨(some 3), none, .mov (.t 0)⟩,
⟨(some 4), none, .conv .u64 (.t 3)⟩,
⟨(some 5), none, .call 119 [(.t 4)]⟩,
⟨(some 6), none, .shift .shl .u64 (.c (.int .u64 1)) (.t 5)⟩,
⟨(some 2), none, .mov (.t 6)⟩] (some [2]))
.ret))⟩

end Go.Proofs.YtacgibkgojnfeaaGreatDoor.AM
