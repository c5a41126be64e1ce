/- The functions in the small language. Conditions: none. -/
import Derived.Test.YtmbekcealcjabaaAmFn
namespace Go.Proofs.Ytmbekcealcjabaa.AM
set_option linter.unusedSimpArgs false
set_option linter.unusedVariables false
open Go Go.RowKit

/-- slices.DeleteFunc[[]int,int] -/
def ir230 : IFn := ⟨42, [.t 4],
(.seq (.ops [⟨(some 4), none, .mov (.c (.slice none 0 0))⟩] (some [0, 1]))
(.seq (.ops [⟨(some 8), none, .mov (.t 0)⟩,
⟨(some 9), none, .mov (.t 1)⟩,
⟨(some 10), none, .call 70 [(.t 8), (.t 9)]⟩,
⟨(some 5), none, .mov (.t 10)⟩] (some [0, 1, 5]))
(.seq (.seq (.ops [⟨(some 11), none, .mov (.t 5)⟩,
⟨(some 12), none, .ibin .eql .i64 (.t 11) (.c (.int .i64 (-1)))⟩] (some [0, 1, 5, 12]))
(.cond (.t 12)
(.seq (.ops [⟨(some 13), none, .mov (.t 0)⟩,
⟨(some 4), none, .mov (.t 13)⟩] (some [4]))
.ret)
.skip))
(.seq (.seq (.ops [⟨(some 14), none, .mov (.t 5)⟩,
⟨(some 15), none, .ibin .add .i64 (.t 14) (.c (.int .i64 1))⟩,
⟨(some 6), none, .mov (.t 15)⟩] (some [0, 1, 5, 6]))
(.block 0 (.loop (.seq (.seq (.ops [⟨(some 16), none, .mov (.t 6)⟩,
⟨(some 17), none, .mov (.t 0)⟩,
⟨(some 18), none, .lenV (.t 17)⟩,
⟨(some 19), none, .ibin .lss .i64 (.t 16) (.t 18)⟩] (some [0, 1, 5, 6, 19]))
(.cond (.t 19)
.skip
(.exit 0)))
(.seq (.block 1 (.seq (.ops [⟨(some 22), none, .mov (.t 0)⟩,
⟨(some 23), none, .mov (.t 6)⟩,
⟨(some 24), none, .iaddr 1 (.t 22) (.t 23)⟩,
⟨(some 25), none, .load 1 false (.t 24)⟩,
⟨(some 7), none, .mov (.t 25)⟩] (some [0, 1, 5, 6, 7]))
(.seq (.ops [⟨(some 26), none, .mov (.t 1)⟩,
⟨(some 27), none, .mov (.t 7)⟩,
⟨(some 28), none, .callv (.t 26) [(.t 27)]⟩,
⟨(some 29), none, .un .not (.t 28)⟩] (some [0, 1, 5, 6, 7, 29]))
(.cond (.t 29)
(.seq (.ops [⟨(some 30), none, .mov (.t 0)⟩,
⟨(some 31), none, .mov (.t 5)⟩,
⟨(some 32), none, .mov (.t 7)⟩,
⟨(some 33), none, .iaddr 1 (.t 30) (.t 31)⟩,
⟨none, none, .store 1 (.t 33) (.t 32)⟩] (some [0, 1, 5, 6]))
(.ops [⟨(some 34), none, .mov (.t 5)⟩,
⟨(some 35), none, .ibin .add .i64 (.t 34) (.c (.int .i64 1))⟩,
⟨(some 5), none, .mov (.t 35)⟩] (some [0, 1, 5, 6])))
.skip))))
(.ops [⟨(some 20), none, .mov (.t 6)⟩,
⟨(some 21), none, .ibin .add .i64 (.t 20) (.c (.int .i64 1))⟩,
⟨(some 6), none, .mov (.t 21)⟩] (some [0, 1, 5, 6])))))))
(.seq (.ops [⟨(some 36), none, .mov (.t 0)⟩,
⟨(some 37), none, .mov (.t 5)⟩,
⟨(some 38), none, .sliceV 1 (.t 36) (some (.t 37)) none none⟩,
⟨none, none, .clr 1 [(.int .i64 0)] (.t 38)⟩] (some [0, 5]))
(.seq (.ops [⟨(some 39), none, .mov (.t 0)⟩,
⟨(some 40), none, .mov (.t 5)⟩,
⟨(some 41), none, .sliceV 1 (.t 39) none (some (.t 40)) none⟩,
⟨(some 4), none, .mov (.t 41)⟩] (some [4]))
.ret))))))⟩
/-- (guidevane/dispatch.work).reached -/
def ir231 (r : Nat → Code × Code) : IFn := ⟨43, [.t 4],
(.seq (.ops [⟨(some 2), none, .box (.t 0)⟩,
⟨(some 4), none, .mov (.c (.slice none 0 0))⟩] none)
(.seq (.ops [⟨(some 12), none, .faddr 3 (.t 2)⟩,
⟨(some 13), none, .faddr 0 (.t 12)⟩,
⟨(some 14), none, .load 1 false (.t 13)⟩,
⟨(some 15), none, .bslice 1 1 [(.int .i64 0)] [(0, 1, (.t 14))]⟩,
⟨(some 5), none, .mov (.t 15)⟩] none)
(.seq (.seq (.ops [⟨(some 16), none, .mov (.t 1)⟩,
⟨(some 17), none, .mov (.c (.int .i64 0))⟩] none)
(.block 0 (.loop (.seq (.ops [⟨(some 18), none, .ibin .lss .i64 (.t 17) (.t 16)⟩] none)
(.seq (.cond (.t 18)
.skip
(.exit 0))
(.seq (.block 1 (.seq (.ops [⟨(some 19), none, .mov (.t 17)⟩,
⟨(some 6), none, .mov (.t 19)⟩] none)
(.seq (.ops [⟨(some 7), none, .alloc [(.slice none 0 0)]⟩] none)
(.seq (.seq (.ops [⟨(some 20), none, .mov (.t 5)⟩,
⟨(some 21), none, .lenV (.t 20)⟩,
⟨(some 22), none, .mov (.c (.int .i64 0))⟩] none)
(.block 2 (.loop (.seq (.ops [⟨(some 23), none, .ibin .lss .i64 (.t 22) (.t 21)⟩] none)
(.seq (.cond (.t 23)
.skip
(.exit 2))
(.seq (.block 3 (.seq (.ops [⟨(some 24), none, .iaddr 1 (.t 20) (.t 22)⟩,
⟨(some 25), none, .load 1 false (.t 24)⟩,
⟨(some 9), none, .mov (.t 25)⟩] none)
(.seq (.ops [⟨(some 26), none, .load 7 true (.t 2)⟩,
⟨(some 27), none, .mov (.t 9)⟩,
⟨(some 28), none, .mov (.t 6)⟩,
⟨(some 29), none, .call 238 [(.t 26), (.t 27), (.t 28)]⟩] none)
(.block 4 (.range 43 (.t 29) #[30, 31] (r 0).1 (r 0).2)))))
(.ops [⟨(some 36), none, .ibin .add .i64 (.t 22) (.c (.int .i64 1))⟩,
⟨(some 22), none, .mov (.t 36)⟩] none)))))))
(.seq (.ops [⟨(some 37), none, .load 1 false (.t 7)⟩,
⟨(some 38), none, .call 103 [(.t 37)]⟩] none)
(.ops [⟨(some 39), none, .load 1 false (.t 7)⟩,
⟨(some 40), none, .call 248 [(.t 39)]⟩,
⟨(some 5), none, .mov (.t 40)⟩] (some [0, 1, 2, 3, 4, 5, 8, 10, 11, 12, 13, 14, 15, 16, 17, 30, 31, 32, 33, 34, 35, 36, 37, 38, 39, 40, 42])))))))
(.ops [⟨(some 41), none, .ibin .add .i64 (.t 17) (.c (.int .i64 1))⟩,
⟨(some 17), none, .mov (.t 41)⟩] none)))))))
(.seq (.ops [⟨(some 42), none, .mov (.t 5)⟩,
⟨(some 4), none, .mov (.t 42)⟩] (some [4]))
.ret))))⟩
def ir231a0 : ICode :=
(.ops [⟨(some 11), none, .mov (.t 31)⟩] none)
def ir231b0 : ICode :=
(.block 5 (.ops [⟨(some 32), none, .load 1 false (.t 7)⟩,
⟨(some 33), none, .mov (.t 11)⟩,
⟨(some 34), none, .bslice 1 1 [(.int .i64 0)] [(0, 1, (.t 33))]⟩,
⟨(some 35), none, .append 1 8 (.t 32) (.t 34)⟩,
⟨none, none, .store 1 (.t 7) (.t 35)⟩] (some [])))
/-- guidevane/dispatch.ReachableAt$1 -/
def ir232 : IFn := ⟨17, [.t 5],
(.seq (.ops [⟨(some 5), none, .mov (.c (.bool false))⟩] (some [0, 1, 2, 3]))
(.seq (.draw (.rd 0 ⟨(some 6), none, .load 1 false (.t 1)⟩
(.rd 1 ⟨(some 7), none, .load 1 false (.t 2)⟩
(.rd 2 ⟨(some 8), none, .iaddr 1 (.t 6) (.t 7)⟩
(.rd 3 ⟨(some 9), none, .load 1 false (.t 8)⟩
(.rd 4 ⟨(some 10), none, .load 7 true (.t 3)⟩
(.rd 5 ⟨(some 11), none, .mov (.t 0)⟩
(.wr 6 ⟨(some 12), none, .call 234 [(.t 10), (.t 11), (.c (.int .i64 0))]⟩ [4, 5]
(.rd 7 ⟨(some 13), none, .iaddr 1 (.t 9) (.t 12)⟩
(.rd 8 ⟨(some 14), none, .load 1 false (.t 13)⟩
(.wr 9 ⟨(some 15), none, .call 233 [(.t 14)]⟩ [8, 6]
(.rd 10 ⟨(some 16), none, .un .not (.t 15)⟩
(.rd 11 ⟨(some 5), none, .mov (.t 16)⟩
.fin)) .no))) .no))))))) (some [5]))
.ret))⟩
/-- guidevane/dispatch.isValue -/
def ir233 : IFn := ⟨5, [.t 2],
(.seq (.ops [⟨(some 2), none, .mov (.c (.bool false))⟩] (some [0]))
(.seq (.ops [⟨(some 3), none, .mov (.t 0)⟩,
⟨(some 4), none, .ibin .gtr .i64 (.t 3) (.c (.int .i64 (-50000000000)))⟩,
⟨(some 2), none, .mov (.t 4)⟩] (some [2]))
.ret))⟩
/-- (guidevane/dispatch.work).cell -/
def ir234 : IFn := ⟨19, [.t 6],
(.seq (.ops [⟨(some 3), none, .box (.t 0)⟩,
⟨(some 6), none, .mov (.c (.int .i64 0))⟩] (some [1, 2, 3]))
(.seq (.ops [⟨(some 7), none, .mov (.t 1)⟩,
⟨(some 8), none, .faddr 0 (.t 3)⟩,
⟨(some 9), none, .faddr 0 (.t 8)⟩,
⟨(some 10), none, .load 1 false (.t 9)⟩,
⟨(some 11), none, .ibin .sub .i64 (.t 7) (.t 10)⟩,
⟨(some 12), none, .faddr 0 (.t 3)⟩,
⟨(some 13), none, .faddr 2 (.t 12)⟩,
⟨(some 14), none, .load 1 false (.t 13)⟩,
⟨(some 15), none, .lenV (.t 14)⟩,
⟨(some 16), none, .ibin .mul .i64 (.t 11) (.t 15)⟩,
⟨(some 17), none, .mov (.t 2)⟩,
⟨(some 18), none, .ibin .add .i64 (.t 16) (.t 17)⟩,
⟨(some 6), none, .mov (.t 18)⟩] (some [6]))
.ret))⟩
/-- guidevane/dispatch.isSized -/
def ir235 : IFn := ⟨10, [.t 4],
(.seq (.ops [⟨(some 4), none, .mov (.c (.bool false))⟩] (some [0, 1]))
(.seq (.ops [⟨(some 5), none, .mov (.t 0)⟩,
⟨(some 6), none, .mov (.t 1)⟩,
⟨(some 7), none, .un .neg (.t 6)⟩,
⟨(some 8), none, .mov (.t 1)⟩,
⟨(some 9), none, .call 216 [(.t 5), (.t 7), (.t 8)]⟩,
⟨(some 4), none, .mov (.t 9)⟩] (some [4]))
.ret))⟩
/-- guidevane/dispatch.powersErr$1 -/
def ir236 : IFn := ⟨6, [.t 2],
(.seq (.ops [⟨(some 2), none, .mov (.c (.bool false))⟩] (some [0]))
(.seq (.ops [⟨(some 3), none, .mov (.t 0)⟩,
⟨(some 4), none, .call 215 [(.t 3)]⟩,
⟨(some 5), none, .un .not (.t 4)⟩,
⟨(some 2), none, .mov (.t 5)⟩] (some [2]))
.ret))⟩
/-- guidevane/dispatch.CheckTask -/
def ir237 : IFn := ⟨87, [.t 4, .t 5],
(.seq (.ops [⟨(some 2), none, .box (.t 0)⟩,
⟨(some 3), none, .box (.t 1)⟩,
⟨(some 4), none, .mov (.c (.int .i64 0))⟩,
⟨(some 5), none, .mov (.c (.int .i64 0))⟩] (some [2, 3]))
(.seq (.ops [⟨(some 12), none, .load 3 true (.t 2)⟩,
⟨(some 13), none, .call 249 [(.t 12)]⟩,
⟨(some 11), none, .mov (.t 13)⟩,
⟨(some 14), none, .extract 0 (.t 11)⟩,
⟨(some 15), none, .extract 1 (.t 11)⟩,
⟨(some 6), none, .mov (.t 14)⟩,
⟨(some 7), none, .mov (.t 15)⟩] (some [2, 3, 7]))
(.seq (.draw (.rd 0 ⟨(some 16), none, .mov (.t 7)⟩
(.rd 1 ⟨(some 17), none, .faddr 0 (.t 3)⟩
(.rd 2 ⟨(some 18), none, .load 1 false (.t 17)⟩
(.rd 3 ⟨(some 19), none, .faddr 0 (.t 2)⟩
(.rd 4 ⟨(some 20), none, .load 1 false (.t 19)⟩
(.rd 5 ⟨(some 21), none, .faddr 1 (.t 2)⟩
(.rd 6 ⟨(some 22), none, .load 1 false (.t 21)⟩
(.rd 9 ⟨(some 25), none, .faddr 1 (.t 3)⟩
(.rd 10 ⟨(some 26), none, .load 1 false (.t 25)⟩
(.rd 11 ⟨(some 27), none, .faddr 2 (.t 2)⟩
(.rd 12 ⟨(some 28), none, .load 1 false (.t 27)⟩
(.rd 13 ⟨(some 29), none, .lenV (.t 28)⟩
(.rd 14 ⟨(some 30), none, .ibin .sub .i64 (.t 29) (.c (.int .i64 1))⟩
(.rd 17 ⟨(some 33), none, .faddr 2 (.t 3)⟩
(.rd 18 ⟨(some 34), none, .load 1 false (.t 33)⟩
(.rd 21 ⟨(some 37), none, .faddr 3 (.t 3)⟩
(.rd 22 ⟨(some 38), none, .load 1 false (.t 37)⟩
(.rd 23 ⟨(some 39), none, .lenV (.t 38)⟩
(.rd 24 ⟨(some 40), none, .ibin .gtr .i64 (.t 39) (.c (.int .i64 0))⟩
(.rd 26 ⟨(some 42), none, .faddr 3 (.t 3)⟩
(.rd 27 ⟨(some 43), none, .load 1 false (.t 42)⟩
(.rd 28 ⟨(some 44), none, .lenV (.t 43)⟩
(.rd 29 ⟨(some 45), none, .ibin .leq .i64 (.t 44) (.c (.int .i64 10))⟩
(.wr 7 ⟨(some 23), none, .call 216 [(.t 18), (.t 20), (.t 22)]⟩ [2, 4, 6]
(.wr 8 ⟨(some 24), none, .call 214 [(.t 23), (.c (.int .i64 2))]⟩ [7, 7]
(.wr 15 ⟨(some 31), none, .call 216 [(.t 26), (.c (.int .i64 0)), (.t 30)]⟩ [10, 14, 8]
(.wr 16 ⟨(some 32), none, .call 214 [(.t 31), (.c (.int .i64 6))]⟩ [15, 15]
(.wr 19 ⟨(some 35), none, .call 250 [(.t 34)]⟩ [18, 16]
(.wr 20 ⟨(some 36), none, .call 214 [(.t 35), (.c (.int .i64 2))]⟩ [19, 19]
(.wr 25 ⟨(some 41), none, .call 214 [(.t 40), (.c (.int .i64 10))]⟩ [24, 20]
(.wr 30 ⟨(some 46), none, .call 214 [(.t 45), (.c (.int .i64 8))]⟩ [29, 25]
(.wr 31 ⟨(some 47), none, .bslice 6 1 [(.int .i64 0)] [(0, 1, (.t 16)), (1, 1, (.t 24)), (2, 1, (.t 32)), (3, 1, (.t 36)), (4, 1, (.t 41)), (5, 1, (.t 46))]⟩ [0, 8, 16, 20, 25, 30]
(.wr 32 ⟨(some 48), none, .call 213 [(.t 47)]⟩ [31, 30]
(.wr 33 ⟨(some 7), none, .mov (.t 48)⟩ [32, 32, 0, 1, 2, 3, 4, 5, 6, 7, 8, 9, 10, 11, 12, 13, 14, 15, 16, 17, 18, 19, 20, 21, 22, 23, 24, 25, 26, 27, 28, 29, 30, 31, 32]
.fin .no) .no) .no) .no) .no) .no) .no) .no) .no) .no) .no)))))))))))))))))))))))) (some [3, 7]))
(.seq (.seq (.ops [⟨(some 49), none, .mov (.t 7)⟩,
⟨(some 50), none, .ibin .neq .i64 (.t 49) (.c (.int .i64 0))⟩] (some [3, 7, 50]))
(.cond (.t 50)
(.seq (.ops [⟨(some 51), none, .mov (.t 7)⟩,
⟨(some 4), none, .mov (.c (.int .i64 0))⟩,
⟨(some 5), none, .mov (.t 51)⟩] (some [4, 5]))
.ret)
.skip))
(.seq (.seq (.ops [⟨(some 52), none, .faddr 3 (.t 3)⟩,
⟨(some 53), none, .load 1 false (.t 52)⟩,
⟨(some 54), none, .lenV (.t 53)⟩,
⟨(some 55), none, .mov (.c (.int .i64 0))⟩] (some [53, 54, 55]))
(.block 0 (.loop (.seq (.ops [⟨(some 56), none, .ibin .lss .i64 (.t 55) (.t 54)⟩] none)
(.seq (.cond (.t 56)
.skip
(.exit 0))
(.seq (.block 1 (.seq (.ops [⟨(some 57), none, .mov (.t 55)⟩,
⟨(some 58), none, .iaddr 3 (.t 53) (.t 55)⟩,
⟨(some 59), none, .load 3 true (.t 58)⟩,
⟨(some 9), none, .alloc [(.int .i64 0), (.int .i64 0), (.int .i64 0)]⟩,
⟨(some 8), none, .mov (.t 57)⟩,
⟨none, none, .store 3 (.t 9) (.t 59)⟩] (some [8, 9, 53, 54, 55]))
(.seq (.draw (.rd 0 ⟨(some 60), none, .faddr 0 (.t 9)⟩
(.rd 1 ⟨(some 61), none, .load 1 false (.t 60)⟩
(.rd 14 ⟨(some 74), none, .faddr 1 (.t 9)⟩
(.rd 15 ⟨(some 75), none, .load 1 false (.t 74)⟩
(.rd 16 ⟨(some 76), none, .faddr 0 (.t 9)⟩
(.rd 17 ⟨(some 77), none, .load 1 false (.t 76)⟩
(.rd 18 ⟨(some 78), none, .ibin .leq .i64 (.t 75) (.t 77)⟩
(.wr 2 ⟨(some 62), none, .call 250 [(.t 61)]⟩ [1]
(.rd 3 ⟨(some 63), none, .mov (.t 62)⟩
(.rd 4 ⟨(some 64), (some (63, true)), .faddr 1 (.t 9)⟩
(.rd 5 ⟨(some 65), (some (63, true)), .load 1 false (.t 64)⟩
(.wr 6 ⟨(some 66), (some (63, true)), .call 250 [(.t 65)]⟩ [5, 3, 3]
(.rd 7 ⟨(some 67), none, .pick (.t 63) (.t 66) (.c (.bool false))⟩
(.rd 8 ⟨(some 68), none, .mov (.t 67)⟩
(.rd 9 ⟨(some 69), (some (68, true)), .faddr 2 (.t 9)⟩
(.rd 10 ⟨(some 70), (some (68, true)), .load 1 false (.t 69)⟩
(.wr 11 ⟨(some 71), (some (68, true)), .call 250 [(.t 70)]⟩ [10, 8, 8]
(.rd 12 ⟨(some 72), none, .pick (.t 68) (.t 71) (.c (.bool false))⟩
(.wr 13 ⟨(some 73), none, .call 214 [(.t 72), (.c (.int .i64 2))]⟩ [12, 11]
(.wr 19 ⟨(some 79), none, .call 214 [(.t 78), (.c (.int .i64 9))]⟩ [18, 13]
(.wr 20 ⟨(some 80), none, .bslice 2 1 [(.int .i64 0)] [(0, 1, (.t 73)), (1, 1, (.t 79))]⟩ [13, 19]
(.wr 21 ⟨(some 81), none, .call 213 [(.t 80)]⟩ [20, 19]
(.rd 22 ⟨(some 10), none, .mov (.t 81)⟩
.fin) .no) .no) .no) .no)) .no))))) .no)))) .no)))))))) (some [8, 10, 53, 54, 55]))
(.seq (.ops [⟨(some 82), none, .mov (.t 10)⟩,
⟨(some 83), none, .ibin .neq .i64 (.t 82) (.c (.int .i64 0))⟩] (some [8, 10, 53, 54, 55, 83]))
(.cond (.t 83)
(.seq (.ops [⟨(some 84), none, .mov (.t 8)⟩,
⟨(some 85), none, .mov (.t 10)⟩,
⟨(some 4), none, .mov (.t 84)⟩,
⟨(some 5), none, .mov (.t 85)⟩] (some [4, 5]))
.ret)
.skip)))))
(.ops [⟨(some 86), none, .ibin .add .i64 (.t 55) (.c (.int .i64 1))⟩,
⟨(some 55), none, .mov (.t 86)⟩] (some [53, 54, 55]))))))))
(.seq (.ops [⟨(some 4), none, .mov (.c (.int .i64 0))⟩,
⟨(some 5), none, .mov (.c (.int .i64 0))⟩] none)
.ret))))))⟩
/-- (guidevane/dispatch.work).steps -/
def ir238 : IFn := ⟨8, [.t 6],
(.seq (.ops [⟨(some 3), none, .box (.t 0)⟩,
⟨(some 4), none, .box (.t 1)⟩,
⟨(some 5), none, .box (.t 2)⟩,
⟨(some 6), none, .mov (.c .nilFunc)⟩] (some [3, 4, 5]))
(.seq (.ops [⟨(some 7), none, .mkfunc 251 [] [(.t 3), (.t 4), (.t 5)]⟩,
⟨(some 6), none, .mov (.t 7)⟩] (some [6]))
.ret))⟩
/-- (guidevane/dispatch.work).revenue -/
def ir239 : IFn := ⟨44, [.t 8],
(.seq (.ops [⟨(some 4), none, .box (.t 0)⟩,
⟨(some 8), none, .mov (.c (.int .i64 0))⟩] (some [1, 2, 3, 4]))
(.seq (.draw (.rd 0 ⟨(some 13), none, .faddr 0 (.t 4)⟩
(.rd 1 ⟨(some 14), none, .faddr 2 (.t 13)⟩
(.rd 2 ⟨(some 15), none, .load 1 false (.t 14)⟩
(.rd 3 ⟨(some 16), none, .mov (.t 3)⟩
(.rd 4 ⟨(some 17), none, .iaddr 4 (.t 15) (.t 16)⟩
(.rd 5 ⟨(some 18), none, .load 4 true (.t 17)⟩
(.rd 6 ⟨(some 19), none, .faddr 3 (.t 4)⟩
(.rd 7 ⟨(some 20), none, .faddr 3 (.t 19)⟩
(.rd 8 ⟨(some 21), none, .load 1 false (.t 20)⟩
(.rd 9 ⟨(some 22), none, .mov (.t 1)⟩
(.rd 10 ⟨(some 23), none, .iaddr 3 (.t 21) (.t 22)⟩
(.rd 11 ⟨(some 24), none, .load 3 true (.t 23)⟩
(.wr 12 ⟨(some 9), none, .alloc [(.string ⟨#[]⟩), (.int .i64 0), (.int .i64 0), (.int .i64 0)]⟩ []
(.wr 13 ⟨(some 10), none, .alloc [(.int .i64 0), (.int .i64 0), (.int .i64 0)]⟩ []
(.wr 14 ⟨none, none, .store 4 (.t 9) (.t 18)⟩ [12, 5, 0, 1, 2, 3, 4, 5, 12, 13]
(.wr 15 ⟨none, none, .store 3 (.t 10) (.t 24)⟩ [13, 11, 14, 0, 1, 2, 3, 4, 5, 6, 7, 8, 9, 10, 11, 12, 13, 14]
.fin .no) .no) .no)
(.wr 13 ⟨(some 10), none, .alloc [(.int .i64 0), (.int .i64 0), (.int .i64 0)]⟩ []
(.wr 12 ⟨(some 9), none, .alloc [(.string ⟨#[]⟩), (.int .i64 0), (.int .i64 0), (.int .i64 0)]⟩ []
(.wr 14 ⟨none, none, .store 4 (.t 9) (.t 18)⟩ [12, 5, 0, 1, 2, 3, 4, 5, 12, 13]
(.wr 15 ⟨none, none, .store 3 (.t 10) (.t 24)⟩ [13, 11, 14, 0, 1, 2, 3, 4, 5, 6, 7, 8, 9, 10, 11, 12, 13, 14]
.fin .no) .no) .no) .no)))))))))))))) (some [2, 3, 9, 10]))
(.seq (.ops [⟨(some 25), none, .faddr 0 (.t 10)⟩,
⟨(some 26), none, .load 1 false (.t 25)⟩,
⟨(some 11), none, .mov (.t 26)⟩] (some [2, 3, 9, 10, 11]))
(.seq (.seq (.ops [⟨(some 27), none, .faddr 2 (.t 9)⟩,
⟨(some 28), none, .load 1 false (.t 27)⟩,
⟨(some 29), none, .ibin .gtr .i64 (.t 28) (.c (.int .i64 0))⟩] (some [2, 3, 9, 10, 11, 29]))
(.cond (.t 29)
(.ops [⟨(some 30), none, .faddr 1 (.t 10)⟩,
⟨(some 31), none, .load 1 false (.t 30)⟩,
⟨(some 11), none, .mov (.t 31)⟩] (some [2, 3, 9, 11]))
.skip))
(.seq (.ops [⟨(some 32), none, .faddr 2 (.t 9)⟩,
⟨(some 33), none, .load 1 false (.t 32)⟩,
⟨(some 34), none, .mov (.t 11)⟩,
⟨(some 35), none, .ibin .mul .i64 (.t 33) (.t 34)⟩,
⟨(some 12), none, .mov (.t 35)⟩] (some [2, 3, 9, 12]))
(.seq (.seq (.ops [⟨(some 36), none, .mov (.t 2)⟩,
⟨(some 37), none, .mov (.t 3)⟩,
⟨(some 38), none, .ibin .neq .i64 (.t 36) (.t 37)⟩] (some [9, 12, 38]))
(.cond (.t 38)
(.ops [⟨(some 39), none, .mov (.t 12)⟩,
⟨(some 40), none, .faddr 3 (.t 9)⟩,
⟨(some 41), none, .load 1 false (.t 40)⟩,
⟨(some 42), none, .ibin .sub .i64 (.t 39) (.t 41)⟩,
⟨(some 12), none, .mov (.t 42)⟩] (some [12]))
.skip))
(.seq (.ops [⟨(some 43), none, .mov (.t 12)⟩,
⟨(some 8), none, .mov (.t 43)⟩] (some [8]))
.ret)))))))⟩
/-- guidevane/dispatch.openPlan$1 -/
def ir240 : IFn := ⟨8, [.t 3],
(.seq (.ops [⟨(some 3), none, .mov (.c (.bool false))⟩] (some [0, 1]))
(.seq (.ops [⟨(some 4), none, .load 7 true (.t 1)⟩,
⟨(some 5), none, .mov (.t 0)⟩,
⟨(some 6), none, .call 222 [(.t 4), (.t 5)]⟩,
⟨(some 7), none, .un .not (.t 6)⟩,
⟨(some 3), none, .mov (.t 7)⟩] (some [3]))
.ret))⟩
/-- (guidevane/dispatch.work).volumes -/
def ir241 : IFn := ⟨39, [.t 4, .t 5],
(.seq (.ops [⟨(some 2), none, .box (.t 0)⟩,
⟨(some 4), none, .mov (.c (.slice none 0 0))⟩,
⟨(some 5), none, .mov (.c (.bool false))⟩] (some [1, 2]))
(.seq (.ops [⟨(some 10), none, .faddr 3 (.t 2)⟩,
⟨(some 11), none, .faddr 0 (.t 10)⟩,
⟨(some 12), none, .load 1 false (.t 11)⟩,
⟨(some 13), none, .bslice 1 1 [(.int .i64 0)] [(0, 1, (.t 12))]⟩,
⟨(some 6), none, .mov (.t 13)⟩] (some [1, 2, 6]))
(.seq (.seq (.ops [⟨(some 14), none, .mov (.t 1)⟩,
⟨(some 15), none, .lenV (.t 14)⟩,
⟨(some 16), none, .mov (.c (.int .i64 0))⟩] (some [2, 6, 14, 15, 16]))
(.block 0 (.loop (.seq (.ops [⟨(some 17), none, .ibin .lss .i64 (.t 16) (.t 15)⟩] none)
(.seq (.cond (.t 17)
.skip
(.exit 0))
(.seq (.block 1 (.seq (.ops [⟨(some 18), none, .mov (.t 16)⟩,
⟨(some 19), none, .iaddr 1 (.t 14) (.t 16)⟩,
⟨(some 20), none, .load 1 false (.t 19)⟩,
⟨(some 7), none, .mov (.t 18)⟩,
⟨(some 8), none, .mov (.t 20)⟩] (some [2, 6, 7, 8, 14, 15, 16]))
(.seq (.draw (.rd 0 ⟨(some 21), none, .load 7 true (.t 2)⟩
(.rd 1 ⟨(some 22), none, .mov (.t 6)⟩
(.rd 2 ⟨(some 23), none, .mov (.t 7)⟩
(.rd 3 ⟨(some 24), none, .iaddr 1 (.t 22) (.t 23)⟩
(.rd 4 ⟨(some 25), none, .load 1 false (.t 24)⟩
(.rd 5 ⟨(some 26), none, .mov (.t 7)⟩
(.rd 6 ⟨(some 27), none, .mov (.t 8)⟩
(.wr 7 ⟨(some 28), none, .call 242 [(.t 21), (.t 25), (.t 26), (.t 27)]⟩ [0, 4, 5, 6]
(.rd 8 ⟨(some 9), none, .mov (.t 28)⟩
.fin) .no)))))))) (some [2, 6, 9, 14, 15, 16]))
(.seq (.seq (.ops [⟨(some 29), none, .load 7 true (.t 2)⟩,
⟨(some 30), none, .mov (.t 9)⟩,
⟨(some 31), none, .call 243 [(.t 29), (.t 30)]⟩,
⟨(some 32), none, .un .not (.t 31)⟩] (some [2, 6, 9, 14, 15, 16, 32]))
(.cond (.t 32)
(.seq (.ops [⟨(some 4), none, .mov (.c (.slice none 0 0))⟩,
⟨(some 5), none, .mov (.c (.bool false))⟩] none)
.ret)
.skip))
(.ops [⟨(some 33), none, .mov (.t 6)⟩,
⟨(some 34), none, .mov (.t 9)⟩,
⟨(some 35), none, .bslice 1 1 [(.int .i64 0)] [(0, 1, (.t 34))]⟩,
⟨(some 36), none, .append 1 8 (.t 33) (.t 35)⟩,
⟨(some 6), none, .mov (.t 36)⟩] (some [2, 6, 14, 15, 16]))))))
(.ops [⟨(some 37), none, .ibin .add .i64 (.t 16) (.c (.int .i64 1))⟩,
⟨(some 16), none, .mov (.t 37)⟩] (some [2, 6, 14, 15, 16]))))))))
(.seq (.ops [⟨(some 38), none, .mov (.t 6)⟩,
⟨(some 4), none, .mov (.t 38)⟩,
⟨(some 5), none, .mov (.c (.bool true))⟩] (some [4, 5]))
.ret))))⟩
/-- (guidevane/dispatch.work).after -/
def ir242 : IFn := ⟨26, [.t 8],
(.seq (.ops [⟨(some 4), none, .box (.t 0)⟩,
⟨(some 8), none, .mov (.c (.int .i64 0))⟩] (some [1, 2, 3, 4]))
(.seq (.draw (.rd 0 ⟨(some 9), none, .mov (.t 1)⟩
(.rd 1 ⟨(some 10), none, .faddr 3 (.t 4)⟩
(.rd 2 ⟨(some 11), none, .faddr 3 (.t 10)⟩
(.rd 3 ⟨(some 12), none, .load 1 false (.t 11)⟩
(.rd 4 ⟨(some 13), none, .mov (.t 2)⟩
(.rd 5 ⟨(some 14), none, .iaddr 3 (.t 12) (.t 13)⟩
(.rd 6 ⟨(some 15), none, .faddr 2 (.t 14)⟩
(.rd 7 ⟨(some 16), none, .load 1 false (.t 15)⟩
(.rd 8 ⟨(some 17), none, .ibin .add .i64 (.t 9) (.t 16)⟩
(.rd 9 ⟨(some 18), none, .faddr 0 (.t 4)⟩
(.rd 10 ⟨(some 19), none, .faddr 2 (.t 18)⟩
(.rd 11 ⟨(some 20), none, .load 1 false (.t 19)⟩
(.rd 12 ⟨(some 21), none, .mov (.t 3)⟩
(.rd 13 ⟨(some 22), none, .iaddr 4 (.t 20) (.t 21)⟩
(.rd 14 ⟨(some 23), none, .faddr 1 (.t 22)⟩
(.rd 15 ⟨(some 24), none, .load 1 false (.t 23)⟩
(.rd 16 ⟨(some 25), none, .ibin .add .i64 (.t 17) (.t 24)⟩
(.rd 17 ⟨(some 8), none, .mov (.t 25)⟩
.fin)))))))))))))))))) (some [8]))
.ret))⟩
/-- (guidevane/dispatch.work).isVolume -/
def ir243 : IFn := ⟨13, [.t 4],
(.seq (.ops [⟨(some 2), none, .box (.t 0)⟩,
⟨(some 4), none, .mov (.c (.bool false))⟩] (some [1, 2]))
(.seq (.ops [⟨(some 5), none, .mov (.t 1)⟩,
⟨(some 6), none, .faddr 0 (.t 2)⟩,
⟨(some 7), none, .faddr 0 (.t 6)⟩,
⟨(some 8), none, .load 1 false (.t 7)⟩,
⟨(some 9), none, .faddr 0 (.t 2)⟩,
⟨(some 10), none, .faddr 1 (.t 9)⟩,
⟨(some 11), none, .load 1 false (.t 10)⟩,
⟨(some 12), none, .call 216 [(.t 5), (.t 8), (.t 11)]⟩,
⟨(some 4), none, .mov (.t 12)⟩] (some [4]))
.ret))⟩
/-- guidevane/dispatch.CheckRevisions -/
def ir244 : IFn := ⟨59, [.t 2, .t 3],
(.seq (.ops [⟨(some 2), none, .mov (.c (.int .i64 0))⟩,
⟨(some 3), none, .mov (.c (.int .i64 0))⟩] (some [0]))
(.seq (.seq (.ops [⟨(some 10), none, .mov (.t 0)⟩,
⟨(some 11), none, .lenV (.t 10)⟩,
⟨(some 12), none, .ibin .gtr .i64 (.t 11) (.c (.int .i64 0))⟩,
⟨(some 13), none, .call 214 [(.t 12), (.c (.int .i64 10))]⟩,
⟨(some 14), none, .mov (.t 0)⟩,
⟨(some 15), none, .lenV (.t 14)⟩,
⟨(some 16), none, .ibin .leq .i64 (.t 15) (.c (.int .i64 8))⟩,
⟨(some 17), none, .call 214 [(.t 16), (.c (.int .i64 8))]⟩,
⟨(some 18), none, .bslice 2 1 [(.int .i64 0)] [(0, 1, (.t 13)), (1, 1, (.t 17))]⟩,
⟨(some 19), none, .call 213 [(.t 18)]⟩,
⟨(some 4), none, .mov (.t 19)⟩] (some [0, 4]))
(.seq (.ops [⟨(some 20), none, .mov (.t 4)⟩,
⟨(some 21), none, .ibin .neq .i64 (.t 20) (.c (.int .i64 0))⟩] (some [0, 4, 21]))
(.cond (.t 21)
(.seq (.ops [⟨(some 22), none, .mov (.t 4)⟩,
⟨(some 2), none, .mov (.c (.int .i64 0))⟩,
⟨(some 3), none, .mov (.t 22)⟩] (some [2, 3]))
.ret)
.skip)))
(.seq (.seq (.ops [⟨(some 23), none, .mov (.t 0)⟩,
⟨(some 24), none, .lenV (.t 23)⟩,
⟨(some 25), none, .mov (.c (.int .i64 0))⟩] none)
(.block 0 (.loop (.seq (.ops [⟨(some 26), none, .ibin .lss .i64 (.t 25) (.t 24)⟩] none)
(.seq (.cond (.t 26)
.skip
(.exit 0))
(.seq (.block 1 (.seq (.ops [⟨(some 27), none, .mov (.t 25)⟩,
⟨(some 28), none, .iaddr 3 (.t 23) (.t 25)⟩,
⟨(some 29), none, .load 3 true (.t 28)⟩,
⟨(some 6), none, .alloc [(.string ⟨#[]⟩), (.int .i64 0), (.int .i64 0)]⟩,
⟨(some 5), none, .mov (.t 27)⟩,
⟨none, none, .store 3 (.t 6) (.t 29)⟩] (some [0, 5, 6, 23, 24, 25]))
(.seq (.ops [⟨(some 30), none, .mov (.t 0)⟩,
⟨(some 31), none, .mov (.t 5)⟩,
⟨(some 32), none, .sliceV 3 (.t 30) none (some (.t 31)) none⟩,
⟨(some 33), none, .mkfunc 253 [] [(.t 6)]⟩,
⟨(some 34), none, .call 252 [(.t 32), (.t 33)]⟩,
⟨(some 7), none, .mov (.t 34)⟩] (some [0, 5, 6, 7, 23, 24, 25]))
(.seq (.ops [⟨(some 35), none, .faddr 1 (.t 6)⟩,
⟨(some 36), none, .load 1 false (.t 35)⟩,
⟨(some 37), none, .call 216 [(.t 36), (.c (.int .i64 0)), (.c (.int .i64 100000))]⟩,
⟨(some 38), none, .mov (.t 37)⟩,
⟨(some 39), (some (38, true)), .faddr 2 (.t 6)⟩,
⟨(some 40), (some (38, true)), .load 1 false (.t 39)⟩,
⟨(some 41), (some (38, true)), .call 216 [(.t 40), (.c (.int .i64 1)), (.c (.int .i64 100000))]⟩,
⟨(some 42), none, .pick (.t 38) (.t 41) (.c (.bool false))⟩,
⟨(some 8), none, .mov (.t 42)⟩] (some [0, 5, 6, 7, 8, 23, 24, 25]))
(.seq (.ops [⟨(some 43), none, .faddr 0 (.t 6)⟩,
⟨(some 44), none, .load 1 false (.t 43)⟩,
⟨(some 45), none, .call 254 [(.t 44)]⟩,
⟨(some 46), none, .call 214 [(.t 45), (.c (.int .i64 4))]⟩,
⟨(some 47), none, .mov (.t 7)⟩,
⟨(some 48), none, .un .not (.t 47)⟩,
⟨(some 49), none, .call 214 [(.t 48), (.c (.int .i64 5))]⟩,
⟨(some 50), none, .mov (.t 8)⟩,
⟨(some 51), none, .call 214 [(.t 50), (.c (.int .i64 2))]⟩,
⟨(some 52), none, .bslice 3 1 [(.int .i64 0)] [(0, 1, (.t 46)), (1, 1, (.t 49)), (2, 1, (.t 51))]⟩,
⟨(some 53), none, .call 213 [(.t 52)]⟩,
⟨(some 9), none, .mov (.t 53)⟩] (some [0, 5, 9, 23, 24, 25]))
(.seq (.ops [⟨(some 54), none, .mov (.t 9)⟩,
⟨(some 55), none, .ibin .neq .i64 (.t 54) (.c (.int .i64 0))⟩] (some [0, 5, 9, 23, 24, 25, 55]))
(.cond (.t 55)
(.seq (.ops [⟨(some 56), none, .mov (.t 5)⟩,
⟨(some 57), none, .mov (.t 9)⟩,
⟨(some 2), none, .mov (.t 56)⟩,
⟨(some 3), none, .mov (.t 57)⟩] (some [2, 3]))
.ret)
.skip)))))))
(.ops [⟨(some 58), none, .ibin .add .i64 (.t 25) (.c (.int .i64 1))⟩,
⟨(some 25), none, .mov (.t 58)⟩] (some [0, 23, 24, 25]))))))))
(.seq (.ops [⟨(some 2), none, .mov (.c (.int .i64 0))⟩,
⟨(some 3), none, .mov (.c (.int .i64 0))⟩] none)
.ret))))⟩
/-- (guidevane/dispatch.revisions).byDue$1 -/
def ir245 : IFn := ⟨17, [.t 5],
(.seq (.ops [⟨(some 5), none, .mov (.c (.int .i64 0))⟩] (some [0, 1, 2]))
(.seq (.draw (.rd 0 ⟨(some 6), none, .load 1 false (.t 2)⟩
(.rd 1 ⟨(some 7), none, .mov (.t 0)⟩
(.rd 2 ⟨(some 8), none, .iaddr 3 (.t 6) (.t 7)⟩
(.rd 3 ⟨(some 9), none, .faddr 1 (.t 8)⟩
(.rd 4 ⟨(some 10), none, .load 1 false (.t 9)⟩
(.rd 5 ⟨(some 11), none, .load 1 false (.t 2)⟩
(.rd 6 ⟨(some 12), none, .mov (.t 1)⟩
(.rd 7 ⟨(some 13), none, .iaddr 3 (.t 11) (.t 12)⟩
(.rd 8 ⟨(some 14), none, .faddr 1 (.t 13)⟩
(.rd 9 ⟨(some 15), none, .load 1 false (.t 14)⟩
(.rd 10 ⟨(some 16), none, .ibin .sub .i64 (.t 10) (.t 15)⟩
(.rd 11 ⟨(some 5), none, .mov (.t 16)⟩
.fin)))))))))))) (some [5]))
.ret))⟩
/-- slices.Repeat[[]int,int] -/
def ir246 : IFn := ⟨48, [.t 4],
(.seq (.ops [⟨(some 4), none, .mov (.c (.slice none 0 0))⟩] (some [0, 1]))
(.seq (.seq (.ops [⟨(some 9), none, .mov (.t 1)⟩,
⟨(some 10), none, .ibin .lss .i64 (.t 9) (.c (.int .i64 0))⟩] (some [0, 1, 10]))
(.cond (.t 10)
(.ops [⟨(some 11), none, .nope⟩,
⟨none, none, .nope⟩] (some [0, 1]))
.skip))
(.seq (.ops [⟨(some 13), none, .mov (.t 0)⟩,
⟨(some 14), none, .lenV (.t 13)⟩,
⟨(some 15), none, .conv .u64 (.t 14)⟩,
⟨(some 16), none, .mov (.t 1)⟩,
⟨(some 17), none, .conv .u64 (.t 16)⟩,
⟨(some 18), none, .call 255 [(.t 15), (.t 17)]⟩,
⟨(some 12), none, .mov (.t 18)⟩,
⟨(some 19), none, .extract 0 (.t 12)⟩,
⟨(some 20), none, .extract 1 (.t 12)⟩,
⟨(some 5), none, .mov (.t 19)⟩,
⟨(some 6), none, .mov (.t 20)⟩] (some [0, 5, 6]))
(.seq (.seq (.ops [⟨(some 21), none, .mov (.t 5)⟩,
⟨(some 22), none, .ibin .gtr .u64 (.t 21) (.c (.int .u64 0))⟩,
⟨(some 23), none, .mov (.t 22)⟩,
⟨(some 24), (some (23, false)), .mov (.t 6)⟩,
⟨(some 25), (some (23, false)), .ibin .gtr .u64 (.t 24) (.c (.int .u64 9223372036854775807))⟩,
⟨(some 26), none, .pick (.t 23) (.c (.bool true)) (.t 25)⟩] (some [0, 6, 26]))
(.cond (.t 26)
(.ops [⟨(some 27), none, .nope⟩,
⟨none, none, .nope⟩] (some [0, 6]))
.skip))
(.seq (.ops [⟨(some 28), none, .mov (.t 6)⟩,
⟨(some 29), none, .conv .i64 (.t 28)⟩,
⟨(some 30), none, .mslice 1 8 [(.int .i64 0)] (.t 29) (.t 29)⟩,
⟨(some 7), none, .mov (.t 30)⟩] (some [0, 7]))
(.seq (.ops [⟨(some 31), none, .mov (.t 7)⟩,
⟨(some 32), none, .mov (.t 0)⟩,
⟨(some 33), none, .copy 1 (.t 31) (.t 32)⟩,
⟨(some 8), none, .mov (.t 33)⟩] (some [7, 8]))
(.seq (.block 0 (.loop (.seq (.seq (.ops [⟨(some 34), none, .mov (.t 8)⟩,
⟨(some 35), none, .mov (.t 7)⟩,
⟨(some 36), none, .lenV (.t 35)⟩,
⟨(some 37), none, .ibin .lss .i64 (.t 34) (.t 36)⟩] (some [7, 8, 37]))
(.cond (.t 37)
.skip
(.exit 0)))
(.block 1 (.draw (.rd 0 ⟨(some 38), none, .mov (.t 8)⟩
(.rd 1 ⟨(some 39), none, .mov (.t 7)⟩
(.rd 2 ⟨(some 40), none, .mov (.t 8)⟩
(.rd 3 ⟨(some 41), none, .sliceV 1 (.t 39) (some (.t 40)) none none⟩
(.rd 4 ⟨(some 42), none, .mov (.t 7)⟩
(.rd 5 ⟨(some 43), none, .mov (.t 8)⟩
(.rd 6 ⟨(some 44), none, .sliceV 1 (.t 42) none (some (.t 43)) none⟩
(.wr 7 ⟨(some 45), none, .copy 1 (.t 41) (.t 44)⟩ [3, 6]
(.rd 8 ⟨(some 46), none, .ibin .add .i64 (.t 38) (.t 45)⟩
(.wr 9 ⟨(some 8), none, .mov (.t 46)⟩ [8, 7, 0, 1, 2, 3, 4, 5, 6, 7, 8]
.fin .no)) .no)))))))) (some [7, 8]))))))
(.seq (.ops [⟨(some 47), none, .mov (.t 7)⟩,
⟨(some 4), none, .mov (.t 47)⟩] (some [4]))
.ret))))))))⟩
/-- (guidevane/dispatch.work).holds -/
def ir247 : IFn := ⟨30, [.t 8],
(.seq (.ops [⟨(some 4), none, .box (.t 0)⟩,
⟨(some 7), none, .box (.t 3)⟩,
⟨(some 8), none, .mov (.c (.bool false))⟩] (some [1, 2, 4, 7]))
(.seq (.draw (.rd 0 ⟨(some 9), none, .faddr 0 (.t 7)⟩
(.rd 1 ⟨(some 10), none, .load 1 false (.t 9)⟩
(.rd 2 ⟨(some 11), none, .ibin .lss .i64 (.t 10) (.c (.int .i64 0))⟩
(.rd 3 ⟨(some 12), none, .mov (.t 11)⟩
(.rd 4 ⟨(some 13), (some (12, false)), .load 7 true (.t 4)⟩
(.rd 5 ⟨(some 14), (some (12, false)), .mov (.t 1)⟩
(.rd 6 ⟨(some 15), (some (12, false)), .mov (.t 2)⟩
(.rd 7 ⟨(some 16), (some (12, false)), .faddr 0 (.t 7)⟩
(.rd 8 ⟨(some 17), (some (12, false)), .load 1 false (.t 16)⟩
(.rd 10 ⟨(some 19), (some (12, false)), .faddr 1 (.t 7)⟩
(.rd 11 ⟨(some 20), (some (12, false)), .load 1 false (.t 19)⟩
(.rd 12 ⟨(some 21), (some (12, false)), .faddr 3 (.t 4)⟩
(.rd 13 ⟨(some 22), (some (12, false)), .faddr 3 (.t 21)⟩
(.rd 14 ⟨(some 23), (some (12, false)), .load 1 false (.t 22)⟩
(.rd 15 ⟨(some 24), (some (12, false)), .lenV (.t 23)⟩
(.rd 16 ⟨(some 25), (some (12, false)), .mov (.t 2)⟩
(.rd 17 ⟨(some 26), (some (12, false)), .ibin .sub .i64 (.t 24) (.t 25)⟩
(.rd 18 ⟨(some 27), (some (12, false)), .minmax false (.t 20) [(.t 26)]⟩
(.wr 9 ⟨(some 18), (some (12, false)), .call 223 [(.t 13), (.t 14), (.t 15), (.t 17)]⟩ [4, 5, 6, 8, 3, 3]
(.rd 19 ⟨(some 28), (some (12, false)), .ibin .geq .i64 (.t 18) (.t 27)⟩
(.rd 20 ⟨(some 29), none, .pick (.t 12) (.c (.bool true)) (.t 28)⟩
(.rd 21 ⟨(some 8), none, .mov (.t 29)⟩
.fin))) .no))))))))))))))))))) (some [8]))
.ret))⟩
/-- slices.Compact[[]int,int] -/
def ir248 : IFn := ⟨61, [.t 2],
(.seq (.ops [⟨(some 2), none, .mov (.c (.slice none 0 0))⟩] (some [0]))
(.seq (.seq (.ops [⟨(some 6), none, .mov (.t 0)⟩,
⟨(some 7), none, .lenV (.t 6)⟩,
⟨(some 8), none, .ibin .lss .i64 (.t 7) (.c (.int .i64 2))⟩] (some [0, 8]))
(.cond (.t 8)
(.seq (.ops [⟨(some 9), none, .mov (.t 0)⟩,
⟨(some 2), none, .mov (.t 9)⟩] (some [2]))
.ret)
.skip))
(.seq (.seq (.ops [⟨(some 3), none, .mov (.c (.int .i64 1))⟩] none)
(.block 0 (.loop (.seq (.seq (.ops [⟨(some 10), none, .mov (.t 3)⟩,
⟨(some 11), none, .mov (.t 0)⟩,
⟨(some 12), none, .lenV (.t 11)⟩,
⟨(some 13), none, .ibin .lss .i64 (.t 10) (.t 12)⟩] (some [0, 3, 13]))
(.cond (.t 13)
.skip
(.exit 0)))
(.seq (.block 1 (.seq (.draw (.rd 0 ⟨(some 16), none, .mov (.t 0)⟩
(.rd 1 ⟨(some 17), none, .mov (.t 3)⟩
(.rd 2 ⟨(some 18), none, .iaddr 1 (.t 16) (.t 17)⟩
(.rd 3 ⟨(some 19), none, .load 1 false (.t 18)⟩
(.rd 4 ⟨(some 20), none, .mov (.t 0)⟩
(.rd 5 ⟨(some 21), none, .mov (.t 3)⟩
(.rd 6 ⟨(some 22), none, .ibin .sub .i64 (.t 21) (.c (.int .i64 1))⟩
(.rd 7 ⟨(some 23), none, .iaddr 1 (.t 20) (.t 22)⟩
(.rd 8 ⟨(some 24), none, .load 1 false (.t 23)⟩
(.rd 9 ⟨(some 25), none, .ibin .eql .i64 (.t 19) (.t 24)⟩
.fin)))))))))) (some [0, 3, 25]))
(.cond (.t 25)
(.seq (.ops [⟨(some 26), none, .mov (.t 0)⟩,
⟨(some 27), none, .mov (.t 3)⟩,
⟨(some 28), none, .sliceV 1 (.t 26) (some (.t 27)) none none⟩,
⟨(some 4), none, .mov (.t 28)⟩] (some [0, 3, 4]))
(.seq (.seq (.ops [⟨(some 5), none, .mov (.c (.int .i64 1))⟩] none)
(.block 2 (.loop (.seq (.seq (.ops [⟨(some 29), none, .mov (.t 5)⟩,
⟨(some 30), none, .mov (.t 4)⟩,
⟨(some 31), none, .lenV (.t 30)⟩,
⟨(some 32), none, .ibin .lss .i64 (.t 29) (.t 31)⟩] (some [0, 3, 4, 5, 32]))
(.cond (.t 32)
.skip
(.exit 2)))
(.seq (.block 3 (.seq (.draw (.rd 0 ⟨(some 35), none, .mov (.t 4)⟩
(.rd 1 ⟨(some 36), none, .mov (.t 5)⟩
(.rd 2 ⟨(some 37), none, .iaddr 1 (.t 35) (.t 36)⟩
(.rd 3 ⟨(some 38), none, .load 1 false (.t 37)⟩
(.rd 4 ⟨(some 39), none, .mov (.t 4)⟩
(.rd 5 ⟨(some 40), none, .mov (.t 5)⟩
(.rd 6 ⟨(some 41), none, .ibin .sub .i64 (.t 40) (.c (.int .i64 1))⟩
(.rd 7 ⟨(some 42), none, .iaddr 1 (.t 39) (.t 41)⟩
(.rd 8 ⟨(some 43), none, .load 1 false (.t 42)⟩
(.rd 9 ⟨(some 44), none, .ibin .neq .i64 (.t 38) (.t 43)⟩
.fin)))))))))) (some [0, 3, 4, 5, 44]))
(.cond (.t 44)
(.seq (.ops [⟨(some 45), none, .mov (.t 0)⟩,
⟨(some 46), none, .mov (.t 3)⟩,
⟨(some 47), none, .mov (.t 4)⟩,
⟨(some 48), none, .mov (.t 5)⟩,
⟨(some 49), none, .iaddr 1 (.t 47) (.t 48)⟩,
⟨(some 50), none, .load 1 false (.t 49)⟩,
⟨(some 51), none, .iaddr 1 (.t 45) (.t 46)⟩,
⟨none, none, .store 1 (.t 51) (.t 50)⟩] (some [0, 3, 4, 5]))
(.ops [⟨(some 52), none, .mov (.t 3)⟩,
⟨(some 53), none, .ibin .add .i64 (.t 52) (.c (.int .i64 1))⟩,
⟨(some 3), none, .mov (.t 53)⟩] (some [0, 3, 4, 5])))
.skip)))
(.ops [⟨(some 33), none, .mov (.t 5)⟩,
⟨(some 34), none, .ibin .add .i64 (.t 33) (.c (.int .i64 1))⟩,
⟨(some 5), none, .mov (.t 34)⟩] (some [0, 3, 4, 5])))))))
(.seq (.ops [⟨(some 54), none, .mov (.t 0)⟩,
⟨(some 55), none, .mov (.t 3)⟩,
⟨(some 56), none, .sliceV 1 (.t 54) (some (.t 55)) none none⟩,
⟨none, none, .clr 1 [(.int .i64 0)] (.t 56)⟩] (some [0, 3]))
(.seq (.ops [⟨(some 57), none, .mov (.t 0)⟩,
⟨(some 58), none, .mov (.t 3)⟩,
⟨(some 59), none, .sliceV 1 (.t 57) none (some (.t 58)) none⟩,
⟨(some 2), none, .mov (.t 59)⟩] (some [2]))
.ret))))
.skip)))
(.ops [⟨(some 14), none, .mov (.t 3)⟩,
⟨(some 15), none, .ibin .add .i64 (.t 14) (.c (.int .i64 1))⟩,
⟨(some 3), none, .mov (.t 15)⟩] (some [0, 3])))))))
(.seq (.ops [⟨(some 60), none, .mov (.t 0)⟩,
⟨(some 2), none, .mov (.t 60)⟩] (some [2]))
.ret))))⟩
/-- guidevane/dispatch.CheckPlant -/
def ir249 : IFn := ⟨93, [.t 2, .t 3],
(.seq (.ops [⟨(some 1), none, .box (.t 0)⟩,
⟨(some 2), none, .mov (.c (.int .i64 0))⟩,
⟨(some 3), none, .mov (.c (.int .i64 0))⟩] (some [1]))
(.seq (.ops [⟨(some 4), none, .mov (.f 256)⟩] none)
(.seq (.draw (.rd 0 ⟨(some 11), none, .mov (.t 4)⟩
(.rd 1 ⟨(some 12), none, .faddr 0 (.t 1)⟩
(.rd 2 ⟨(some 13), none, .load 1 false (.t 12)⟩
(.rd 11 ⟨(some 22), none, .faddr 0 (.t 1)⟩
(.rd 12 ⟨(some 23), none, .load 1 false (.t 22)⟩
(.rd 13 ⟨(some 24), none, .faddr 1 (.t 1)⟩
(.rd 14 ⟨(some 25), none, .load 1 false (.t 24)⟩
(.rd 15 ⟨(some 26), none, .ibin .leq .i64 (.t 23) (.t 25)⟩
(.rd 17 ⟨(some 28), none, .faddr 1 (.t 1)⟩
(.rd 18 ⟨(some 29), none, .load 1 false (.t 28)⟩
(.rd 19 ⟨(some 30), none, .faddr 0 (.t 1)⟩
(.rd 20 ⟨(some 31), none, .load 1 false (.t 30)⟩
(.rd 21 ⟨(some 32), none, .ibin .sub .i64 (.t 29) (.t 31)⟩
(.rd 22 ⟨(some 33), none, .ibin .lss .i64 (.t 32) (.c (.int .i64 40))⟩
(.rd 24 ⟨(some 35), none, .faddr 2 (.t 1)⟩
(.rd 25 ⟨(some 36), none, .load 1 false (.t 35)⟩
(.rd 26 ⟨(some 37), none, .lenV (.t 36)⟩
(.rd 27 ⟨(some 38), none, .ibin .gtr .i64 (.t 37) (.c (.int .i64 0))⟩
(.rd 29 ⟨(some 40), none, .faddr 2 (.t 1)⟩
(.rd 30 ⟨(some 41), none, .load 1 false (.t 40)⟩
(.rd 31 ⟨(some 42), none, .lenV (.t 41)⟩
(.rd 32 ⟨(some 43), none, .ibin .leq .i64 (.t 42) (.c (.int .i64 5))⟩
(.wr 3 ⟨(some 14), none, .callv (.t 11) [(.t 13)]⟩ [0, 2]
(.rd 4 ⟨(some 15), none, .mov (.t 14)⟩
(.rd 5 ⟨(some 16), (some (15, true)), .mov (.t 4)⟩
(.rd 6 ⟨(some 17), (some (15, true)), .faddr 1 (.t 1)⟩
(.rd 7 ⟨(some 18), (some (15, true)), .load 1 false (.t 17)⟩
(.wr 8 ⟨(some 19), (some (15, true)), .callv (.t 16) [(.t 18)]⟩ [5, 7, 4, 4]
(.rd 9 ⟨(some 20), none, .pick (.t 15) (.t 19) (.c (.bool false))⟩
(.wr 10 ⟨(some 21), none, .call 214 [(.t 20), (.c (.int .i64 2))]⟩ [9, 8]
(.wr 16 ⟨(some 27), none, .call 214 [(.t 26), (.c (.int .i64 9))]⟩ [15, 10]
(.wr 23 ⟨(some 34), none, .call 214 [(.t 33), (.c (.int .i64 8))]⟩ [22, 16]
(.wr 28 ⟨(some 39), none, .call 214 [(.t 38), (.c (.int .i64 10))]⟩ [27, 23]
(.wr 33 ⟨(some 44), none, .call 214 [(.t 43), (.c (.int .i64 8))]⟩ [32, 28]
(.wr 34 ⟨(some 45), none, .bslice 5 1 [(.int .i64 0)] [(0, 1, (.t 21)), (1, 1, (.t 27)), (2, 1, (.t 34)), (3, 1, (.t 39)), (4, 1, (.t 44))]⟩ [10, 16, 23, 28, 33]
(.wr 35 ⟨(some 46), none, .call 213 [(.t 45)]⟩ [34, 33]
(.rd 36 ⟨(some 5), none, .mov (.t 46)⟩
.fin) .no) .no) .no) .no) .no) .no) .no)) .no))))) .no))))))))))))))))))))))) (some [1, 5]))
(.seq (.seq (.ops [⟨(some 47), none, .mov (.t 5)⟩,
⟨(some 48), none, .ibin .neq .i64 (.t 47) (.c (.int .i64 0))⟩] (some [1, 5, 48]))
(.cond (.t 48)
(.seq (.ops [⟨(some 49), none, .mov (.t 5)⟩,
⟨(some 2), none, .mov (.c (.int .i64 0))⟩,
⟨(some 3), none, .mov (.t 49)⟩] (some [2, 3]))
.ret)
.skip))
(.seq (.seq (.ops [⟨(some 50), none, .faddr 2 (.t 1)⟩,
⟨(some 51), none, .load 1 false (.t 50)⟩,
⟨(some 52), none, .lenV (.t 51)⟩,
⟨(some 53), none, .mov (.c (.int .i64 0))⟩] (some [1, 51, 52, 53]))
(.block 0 (.loop (.seq (.ops [⟨(some 54), none, .ibin .lss .i64 (.t 53) (.t 52)⟩] none)
(.seq (.cond (.t 54)
.skip
(.exit 0))
(.seq (.block 1 (.seq (.ops [⟨(some 55), none, .mov (.t 53)⟩,
⟨(some 56), none, .iaddr 4 (.t 51) (.t 53)⟩,
⟨(some 57), none, .load 4 true (.t 56)⟩,
⟨(some 7), none, .alloc [(.string ⟨#[]⟩), (.int .i64 0), (.int .i64 0), (.int .i64 0)]⟩,
⟨(some 6), none, .mov (.t 55)⟩,
⟨none, none, .store 4 (.t 7) (.t 57)⟩] (some [1, 6, 7, 51, 52, 53]))
(.seq (.ops [⟨(some 58), none, .faddr 2 (.t 1)⟩,
⟨(some 59), none, .load 1 false (.t 58)⟩,
⟨(some 60), none, .mov (.t 6)⟩,
⟨(some 61), none, .sliceV 4 (.t 59) none (some (.t 60)) none⟩,
⟨(some 62), none, .mkfunc 258 [] [(.t 7)]⟩,
⟨(some 63), none, .call 257 [(.t 61), (.t 62)]⟩,
⟨(some 8), none, .mov (.t 63)⟩] (some [1, 6, 7, 8, 51, 52, 53]))
(.seq (.ops [⟨(some 64), none, .faddr 1 (.t 7)⟩,
⟨(some 65), none, .load 1 false (.t 64)⟩,
⟨(some 66), none, .call 235 [(.t 65), (.c (.int .i64 10000))]⟩,
⟨(some 67), none, .mov (.t 66)⟩,
⟨(some 68), (some (67, true)), .faddr 2 (.t 7)⟩,
⟨(some 69), (some (67, true)), .load 1 false (.t 68)⟩,
⟨(some 70), (some (67, true)), .call 235 [(.t 69), (.c (.int .i64 10000))]⟩,
⟨(some 71), none, .pick (.t 67) (.t 70) (.c (.bool false))⟩,
⟨(some 72), none, .mov (.t 71)⟩,
⟨(some 73), (some (72, true)), .faddr 3 (.t 7)⟩,
⟨(some 74), (some (72, true)), .load 1 false (.t 73)⟩,
⟨(some 75), (some (72, true)), .call 216 [(.t 74), (.c (.int .i64 0)), (.c (.int .i64 10000))]⟩,
⟨(some 76), none, .pick (.t 72) (.t 75) (.c (.bool false))⟩,
⟨(some 9), none, .mov (.t 76)⟩] (some [1, 6, 7, 8, 9, 51, 52, 53]))
(.seq (.ops [⟨(some 77), none, .faddr 0 (.t 7)⟩,
⟨(some 78), none, .load 1 false (.t 77)⟩,
⟨(some 79), none, .call 254 [(.t 78)]⟩,
⟨(some 80), none, .call 214 [(.t 79), (.c (.int .i64 4))]⟩,
⟨(some 81), none, .mov (.t 8)⟩,
⟨(some 82), none, .un .not (.t 81)⟩,
⟨(some 83), none, .call 214 [(.t 82), (.c (.int .i64 5))]⟩,
⟨(some 84), none, .mov (.t 9)⟩,
⟨(some 85), none, .call 214 [(.t 84), (.c (.int .i64 2))]⟩,
⟨(some 86), none, .bslice 3 1 [(.int .i64 0)] [(0, 1, (.t 80)), (1, 1, (.t 83)), (2, 1, (.t 85))]⟩,
⟨(some 87), none, .call 213 [(.t 86)]⟩,
⟨(some 10), none, .mov (.t 87)⟩] (some [1, 6, 10, 51, 52, 53]))
(.seq (.ops [⟨(some 88), none, .mov (.t 10)⟩,
⟨(some 89), none, .ibin .neq .i64 (.t 88) (.c (.int .i64 0))⟩] (some [1, 6, 10, 51, 52, 53, 89]))
(.cond (.t 89)
(.seq (.ops [⟨(some 90), none, .mov (.t 6)⟩,
⟨(some 91), none, .mov (.t 10)⟩,
⟨(some 2), none, .mov (.t 90)⟩,
⟨(some 3), none, .mov (.t 91)⟩] (some [2, 3]))
.ret)
.skip)))))))
(.ops [⟨(some 92), none, .ibin .add .i64 (.t 53) (.c (.int .i64 1))⟩,
⟨(some 53), none, .mov (.t 92)⟩] (some [1, 51, 52, 53]))))))))
(.seq (.ops [⟨(some 2), none, .mov (.c (.int .i64 0))⟩,
⟨(some 3), none, .mov (.c (.int .i64 0))⟩] none)
.ret))))))⟩
/-- guidevane/dispatch.isPrice -/
def ir250 : IFn := ⟨5, [.t 2],
(.seq (.ops [⟨(some 2), none, .mov (.c (.bool false))⟩] (some [0]))
(.seq (.ops [⟨(some 3), none, .mov (.t 0)⟩,
⟨(some 4), none, .call 235 [(.t 3), (.c (.int .i64 10000))]⟩,
⟨(some 2), none, .mov (.t 4)⟩] (some [2]))
.ret))⟩
/-- (guidevane/dispatch.work).steps$1 -/
def ir251 : IFn := ⟨30, [],
(.seq (.ops [⟨(some 7), none, .faddr 0 (.t 1)⟩,
⟨(some 8), none, .faddr 2 (.t 7)⟩,
⟨(some 9), none, .load 1 false (.t 8)⟩,
⟨(some 10), none, .lenV (.t 9)⟩,
⟨(some 11), none, .mov (.c (.int .i64 0))⟩] (some [0, 1, 2, 3, 10, 11]))
(.block 0 (.loop (.seq (.ops [⟨(some 12), none, .ibin .lss .i64 (.t 11) (.t 10)⟩] none)
(.seq (.cond (.t 12)
.skip
(.exit 0))
(.seq (.block 1 (.seq (.ops [⟨(some 13), none, .mov (.t 11)⟩,
⟨(some 5), none, .mov (.t 13)⟩] (some [0, 1, 2, 3, 5, 10, 11]))
(.seq (.ops [⟨(some 14), none, .load 7 true (.t 1)⟩,
⟨(some 15), none, .load 1 false (.t 2)⟩,
⟨(some 16), none, .load 1 false (.t 3)⟩,
⟨(some 17), none, .mov (.t 5)⟩,
⟨(some 18), none, .call 242 [(.t 14), (.t 15), (.t 16), (.t 17)]⟩,
⟨(some 6), none, .mov (.t 18)⟩] (some [0, 1, 2, 3, 5, 6, 10, 11]))
(.seq (.ops [⟨(some 19), none, .load 7 true (.t 1)⟩,
⟨(some 20), none, .mov (.t 6)⟩,
⟨(some 21), none, .call 243 [(.t 19), (.t 20)]⟩,
⟨(some 22), none, .mov (.t 21)⟩,
⟨(some 23), (some (22, true)), .mov (.t 0)⟩,
⟨(some 24), (some (22, true)), .mov (.t 5)⟩,
⟨(some 25), (some (22, true)), .mov (.t 6)⟩,
⟨(some 26), (some (22, true)), .callv (.t 23) [(.t 24), (.t 25)]⟩,
⟨(some 27), (some (22, true)), .un .not (.t 26)⟩,
⟨(some 28), none, .pick (.t 22) (.t 27) (.c (.bool false))⟩] (some [0, 1, 2, 3, 10, 11, 28]))
(.cond (.t 28)
.ret
.skip)))))
(.ops [⟨(some 29), none, .ibin .add .i64 (.t 11) (.c (.int .i64 1))⟩,
⟨(some 11), none, .mov (.t 29)⟩] (some [0, 1, 2, 3, 10, 11]))))))))⟩
/-- slices.ContainsFunc[[]guidevane/api.DispatchRevision,guidevane/api.DispatchRevision] -/
def ir252 : IFn := ⟨9, [.t 4],
(.seq (.ops [⟨(some 4), none, .mov (.c (.bool false))⟩] (some [0, 1]))
(.seq (.ops [⟨(some 5), none, .mov (.t 0)⟩,
⟨(some 6), none, .mov (.t 1)⟩,
⟨(some 7), none, .call 259 [(.t 5), (.t 6)]⟩,
⟨(some 8), none, .ibin .geq .i64 (.t 7) (.c (.int .i64 0))⟩,
⟨(some 4), none, .mov (.t 8)⟩] (some [4]))
.ret))⟩
/-- guidevane/dispatch.CheckRevisions$1 -/
def ir253 : IFn := ⟨9, [.t 3],
(.seq (.ops [⟨(some 2), none, .box (.t 0)⟩,
⟨(some 3), none, .mov (.c (.bool false))⟩] (some [1, 2]))
(.seq (.ops [⟨(some 4), none, .faddr 0 (.t 2)⟩,
⟨(some 5), none, .load 1 false (.t 4)⟩,
⟨(some 6), none, .faddr 0 (.t 1)⟩,
⟨(some 7), none, .load 1 false (.t 6)⟩,
⟨(some 8), none, .sbin .eql (.t 5) (.t 7)⟩,
⟨(some 3), none, .mov (.t 8)⟩] (some [3]))
.ret))⟩
/-- guidevane/dispatch.isName -/
def ir254 : IFn := ⟨38, [.t 2],
(.seq (.ops [⟨(some 2), none, .mov (.c (.bool false))⟩] (some [0]))
(.seq (.seq (.ops [⟨(some 6), none, .mov (.t 0)⟩,
⟨(some 7), none, .s2b (.t 6)⟩,
⟨(some 8), none, .lenV (.t 7)⟩,
⟨(some 9), none, .mov (.c (.int .i64 0))⟩] (some [0, 7, 8, 9]))
(.block 0 (.loop (.seq (.ops [⟨(some 10), none, .ibin .lss .i64 (.t 9) (.t 8)⟩] none)
(.seq (.cond (.t 10)
.skip
(.exit 0))
(.seq (.block 1 (.seq (.ops [⟨(some 11), none, .mov (.t 9)⟩,
⟨(some 12), none, .iaddr 1 (.t 7) (.t 9)⟩,
⟨(some 13), none, .load 1 false (.t 12)⟩,
⟨(some 3), none, .mov (.t 11)⟩,
⟨(some 4), none, .mov (.t 13)⟩] (some [0, 3, 4, 7, 8, 9]))
(.seq (.ops [⟨(some 14), none, .mov (.t 4)⟩,
⟨(some 15), none, .ibin .or .u8 (.t 14) (.c (.int .u8 32))⟩,
⟨(some 16), none, .conv .i64 (.t 15)⟩,
⟨(some 17), none, .call 216 [(.t 16), (.c (.int .i64 97)), (.c (.int .i64 122))]⟩,
⟨(some 5), none, .mov (.t 17)⟩] (some [0, 3, 4, 5, 7, 8, 9]))
(.seq (.ops [⟨(some 18), none, .mov (.t 5)⟩,
⟨(some 19), none, .un .not (.t 18)⟩,
⟨(some 20), none, .mov (.t 19)⟩,
⟨(some 21), (some (20, true)), .mov (.t 3)⟩,
⟨(some 22), (some (20, true)), .ibin .eql .i64 (.t 21) (.c (.int .i64 0))⟩,
⟨(some 23), (some (20, true)), .mov (.t 22)⟩,
⟨(some 24), (some (23, false)), .mov (.t 4)⟩,
⟨(some 25), (some (23, false)), .ibin .neq .u8 (.t 24) (.c (.int .u8 45))⟩,
⟨(some 26), (some (23, false)), .mov (.t 25)⟩,
⟨(some 27), (some (26, true)), .mov (.t 4)⟩,
⟨(some 28), (some (26, true)), .conv .i64 (.t 27)⟩,
⟨(some 29), (some (26, true)), .call 216 [(.t 28), (.c (.int .i64 48)), (.c (.int .i64 57))]⟩,
⟨(some 30), (some (26, true)), .un .not (.t 29)⟩,
⟨(some 31), (some (23, false)), .pick (.t 26) (.t 30) (.c (.bool false))⟩,
⟨(some 32), (some (20, true)), .pick (.t 23) (.c (.bool true)) (.t 31)⟩,
⟨(some 33), none, .pick (.t 20) (.t 32) (.c (.bool false))⟩] (some [0, 7, 8, 9, 33]))
(.cond (.t 33)
(.seq (.ops [⟨(some 2), none, .mov (.c (.bool false))⟩] none)
.ret)
.skip)))))
(.ops [⟨(some 34), none, .ibin .add .i64 (.t 9) (.c (.int .i64 1))⟩,
⟨(some 9), none, .mov (.t 34)⟩] (some [0, 7, 8, 9]))))))))
(.seq (.ops [⟨(some 35), none, .mov (.t 0)⟩,
⟨(some 36), none, .lenS (.t 35)⟩,
⟨(some 37), none, .call 216 [(.t 36), (.c (.int .i64 1)), (.c (.int .i64 12))]⟩,
⟨(some 2), none, .mov (.t 37)⟩] (some [2]))
.ret)))⟩
/-- math/bits.Mul -/
def ir255 : IFn := ⟨30, [.t 4, .t 5],
(.seq (.ops [⟨(some 4), none, .mov (.c (.int .u64 0))⟩,
⟨(some 5), none, .mov (.c (.int .u64 0))⟩] (some [0, 1]))
(.seq (.cond (.c (.bool false))
(.seq (.ops [⟨(some 11), none, .mov (.t 0)⟩,
⟨(some 12), none, .conv .u32 (.t 11)⟩,
⟨(some 13), none, .mov (.t 1)⟩,
⟨(some 14), none, .conv .u32 (.t 13)⟩,
⟨(some 15), none, .call 260 [(.t 12), (.t 14)]⟩,
⟨(some 10), none, .mov (.t 15)⟩,
⟨(some 16), none, .extract 0 (.t 10)⟩,
⟨(some 17), none, .extract 1 (.t 10)⟩,
⟨(some 6), none, .mov (.t 16)⟩,
⟨(some 7), none, .mov (.t 17)⟩] (some [6, 7]))
(.seq (.ops [⟨(some 18), none, .mov (.t 6)⟩,
⟨(some 19), none, .conv .u64 (.t 18)⟩,
⟨(some 20), none, .mov (.t 7)⟩,
⟨(some 21), none, .conv .u64 (.t 20)⟩,
⟨(some 4), none, .mov (.t 19)⟩,
⟨(some 5), none, .mov (.t 21)⟩] (some [4, 5]))
.ret))
.skip)
(.seq (.ops [⟨(some 23), none, .mov (.t 0)⟩,
⟨(some 24), none, .mov (.t 1)⟩,
⟨(some 25), none, .call 261 [(.t 23), (.t 24)]⟩,
⟨(some 22), none, .mov (.t 25)⟩,
⟨(some 26), none, .extract 0 (.t 22)⟩,
⟨(some 27), none, .extract 1 (.t 22)⟩,
⟨(some 8), none, .mov (.t 26)⟩,
⟨(some 9), none, .mov (.t 27)⟩] (some [8, 9]))
(.seq (.ops [⟨(some 28), none, .mov (.t 8)⟩,
⟨(some 29), none, .mov (.t 9)⟩,
⟨(some 4), none, .mov (.t 28)⟩,
⟨(some 5), none, .mov (.t 29)⟩] (some [4, 5]))
.ret))))⟩
/-- guidevane/dispatch.CheckPlant$1 -/
def ir256 : IFn := ⟨5, [.t 2],
(.seq (.ops [⟨(some 2), none, .mov (.c (.bool false))⟩] (some [0]))
(.seq (.ops [⟨(some 3), none, .mov (.t 0)⟩,
⟨(some 4), none, .call 216 [(.t 3), (.c (.int .i64 0)), (.c (.int .i64 1000000))]⟩,
⟨(some 2), none, .mov (.t 4)⟩] (some [2]))
.ret))⟩
/-- slices.ContainsFunc[[]guidevane/api.DispatchMode,guidevane/api.DispatchMode] -/
def ir257 : IFn := ⟨9, [.t 4],
(.seq (.ops [⟨(some 4), none, .mov (.c (.bool false))⟩] (some [0, 1]))
(.seq (.ops [⟨(some 5), none, .mov (.t 0)⟩,
⟨(some 6), none, .mov (.t 1)⟩,
⟨(some 7), none, .call 262 [(.t 5), (.t 6)]⟩,
⟨(some 8), none, .ibin .geq .i64 (.t 7) (.c (.int .i64 0))⟩,
⟨(some 4), none, .mov (.t 8)⟩] (some [4]))
.ret))⟩
/-- guidevane/dispatch.CheckPlant$2 -/
def ir258 : IFn := ⟨9, [.t 3],
(.seq (.ops [⟨(some 2), none, .box (.t 0)⟩,
⟨(some 3), none, .mov (.c (.bool false))⟩] (some [1, 2]))
(.seq (.ops [⟨(some 4), none, .faddr 0 (.t 2)⟩,
⟨(some 5), none, .load 1 false (.t 4)⟩,
⟨(some 6), none, .faddr 0 (.t 1)⟩,
⟨(some 7), none, .load 1 false (.t 6)⟩,
⟨(some 8), none, .sbin .eql (.t 5) (.t 7)⟩,
⟨(some 3), none, .mov (.t 8)⟩] (some [3]))
.ret))⟩
/-- slices.IndexFunc[[]guidevane/api.DispatchRevision,guidevane/api.DispatchRevision] -/
def ir259 : IFn := ⟨19, [.t 4],
(.seq (.ops [⟨(some 4), none, .mov (.c (.int .i64 0))⟩] (some [0, 1]))
(.seq (.seq (.ops [⟨(some 6), none, .mov (.t 0)⟩,
⟨(some 7), none, .lenV (.t 6)⟩,
⟨(some 8), none, .mov (.c (.int .i64 0))⟩] (some [0, 1, 7, 8]))
(.block 0 (.loop (.seq (.ops [⟨(some 9), none, .ibin .lss .i64 (.t 8) (.t 7)⟩] none)
(.seq (.cond (.t 9)
.skip
(.exit 0))
(.seq (.block 1 (.seq (.ops [⟨(some 10), none, .mov (.t 8)⟩,
⟨(some 5), none, .mov (.t 10)⟩] (some [0, 1, 5, 7, 8]))
(.seq (.ops [⟨(some 11), none, .mov (.t 1)⟩,
⟨(some 12), none, .mov (.t 0)⟩,
⟨(some 13), none, .mov (.t 5)⟩,
⟨(some 14), none, .iaddr 3 (.t 12) (.t 13)⟩,
⟨(some 15), none, .load 3 true (.t 14)⟩,
⟨(some 16), none, .callv (.t 11) [(.t 15)]⟩] (some [0, 1, 5, 7, 8, 16]))
(.cond (.t 16)
(.seq (.ops [⟨(some 17), none, .mov (.t 5)⟩,
⟨(some 4), none, .mov (.t 17)⟩] (some [4]))
.ret)
.skip))))
(.ops [⟨(some 18), none, .ibin .add .i64 (.t 8) (.c (.int .i64 1))⟩,
⟨(some 8), none, .mov (.t 18)⟩] (some [0, 1, 7, 8]))))))))
(.seq (.ops [⟨(some 4), none, .mov (.c (.int .i64 (-1)))⟩] none)
.ret)))⟩
/-- math/bits.Mul32 -/
def ir260 : IFn := ⟨17, [.t 4, .t 5],
(.seq (.ops [⟨(some 4), none, .mov (.c (.int .u32 0))⟩,
⟨(some 5), none, .mov (.c (.int .u32 0))⟩] (some [0, 1]))
(.seq (.ops [⟨(some 7), none, .mov (.t 0)⟩,
⟨(some 8), none, .conv .u64 (.t 7)⟩,
⟨(some 9), none, .mov (.t 1)⟩,
⟨(some 10), none, .conv .u64 (.t 9)⟩,
⟨(some 11), none, .ibin .mul .u64 (.t 8) (.t 10)⟩,
⟨(some 6), none, .mov (.t 11)⟩] (some [6]))
(.seq (.ops [⟨(some 12), none, .mov (.t 6)⟩,
⟨(some 13), none, .shift .shr .u64 (.t 12) (.c (.int .u64 32))⟩,
⟨(some 14), none, .conv .u32 (.t 13)⟩,
⟨(some 15), none, .mov (.t 6)⟩,
⟨(some 16), none, .conv .u32 (.t 15)⟩,
⟨(some 4), none, .mov (.t 14)⟩,
⟨(some 5), none, .mov (.t 16)⟩] (some [4, 5]))
.ret)))⟩
/-- math/bits.Mul64 -/
def ir261 : IFn := ⟨51, [.t 4, .t 5],
(.seq (.ops [⟨(some 4), none, .mov (.c (.int .u64 0))⟩,
⟨(some 5), none, .mov (.c (.int .u64 0))⟩] (some [0, 1]))
(.seq (.ops [⟨(some 14), none, .mov (.t 0)⟩,
⟨(some 15), none, .ibin .and .u64 (.t 14) (.c (.int .u64 4294967295))⟩,
⟨(some 6), none, .mov (.t 15)⟩] (some [0, 1, 6]))
(.seq (.ops [⟨(some 16), none, .mov (.t 0)⟩,
⟨(some 17), none, .shift .shr .u64 (.t 16) (.c (.int .u64 32))⟩,
⟨(some 7), none, .mov (.t 17)⟩] (some [0, 1, 6, 7]))
(.seq (.ops [⟨(some 18), none, .mov (.t 1)⟩,
⟨(some 19), none, .ibin .and .u64 (.t 18) (.c (.int .u64 4294967295))⟩,
⟨(some 8), none, .mov (.t 19)⟩] (some [0, 1, 6, 7, 8]))
(.seq (.ops [⟨(some 20), none, .mov (.t 1)⟩,
⟨(some 21), none, .shift .shr .u64 (.t 20) (.c (.int .u64 32))⟩,
⟨(some 9), none, .mov (.t 21)⟩] (some [0, 1, 6, 7, 8, 9]))
(.seq (.ops [⟨(some 22), none, .mov (.t 6)⟩,
⟨(some 23), none, .mov (.t 8)⟩,
⟨(some 24), none, .ibin .mul .u64 (.t 22) (.t 23)⟩,
⟨(some 10), none, .mov (.t 24)⟩] (some [0, 1, 6, 7, 8, 9, 10]))
(.seq (.ops [⟨(some 25), none, .mov (.t 7)⟩,
⟨(some 26), none, .mov (.t 8)⟩,
⟨(some 27), none, .ibin .mul .u64 (.t 25) (.t 26)⟩,
⟨(some 28), none, .mov (.t 10)⟩,
⟨(some 29), none, .shift .shr .u64 (.t 28) (.c (.int .u64 32))⟩,
⟨(some 30), none, .ibin .add .u64 (.t 27) (.t 29)⟩,
⟨(some 11), none, .mov (.t 30)⟩] (some [0, 1, 6, 7, 9, 11]))
(.seq (.ops [⟨(some 31), none, .mov (.t 11)⟩,
⟨(some 32), none, .ibin .and .u64 (.t 31) (.c (.int .u64 4294967295))⟩,
⟨(some 12), none, .mov (.t 32)⟩] (some [0, 1, 6, 7, 9, 11, 12]))
(.seq (.ops [⟨(some 33), none, .mov (.t 11)⟩,
⟨(some 34), none, .shift .shr .u64 (.t 33) (.c (.int .u64 32))⟩,
⟨(some 13), none, .mov (.t 34)⟩] (some [0, 1, 6, 7, 9, 12, 13]))
(.seq (.ops [⟨(some 35), none, .mov (.t 12)⟩,
⟨(some 36), none, .mov (.t 6)⟩,
⟨(some 37), none, .mov (.t 9)⟩,
⟨(some 38), none, .ibin .mul .u64 (.t 36) (.t 37)⟩,
⟨(some 39), none, .ibin .add .u64 (.t 35) (.t 38)⟩,
⟨(some 12), none, .mov (.t 39)⟩] (some [0, 1, 7, 9, 12, 13]))
(.seq (.ops [⟨(some 40), none, .mov (.t 7)⟩,
⟨(some 41), none, .mov (.t 9)⟩,
⟨(some 42), none, .ibin .mul .u64 (.t 40) (.t 41)⟩,
⟨(some 43), none, .mov (.t 13)⟩,
⟨(some 44), none, .ibin .add .u64 (.t 42) (.t 43)⟩,
⟨(some 45), none, .mov (.t 12)⟩,
⟨(some 46), none, .shift .shr .u64 (.t 45) (.c (.int .u64 32))⟩,
⟨(some 47), none, .ibin .add .u64 (.t 44) (.t 46)⟩,
⟨(some 4), none, .mov (.t 47)⟩] (some [0, 1, 4]))
(.seq (.ops [⟨(some 48), none, .mov (.t 0)⟩,
⟨(some 49), none, .mov (.t 1)⟩,
⟨(some 50), none, .ibin .mul .u64 (.t 48) (.t 49)⟩,
⟨(some 5), none, .mov (.t 50)⟩] (some [4, 5]))
.ret))))))))))))⟩
/-- slices.IndexFunc[[]guidevane/api.DispatchMode,guidevane/api.DispatchMode] -/
def ir262 : IFn := ⟨19, [.t 4],
(.seq (.ops [⟨(some 4), none, .mov (.c (.int .i64 0))⟩] (some [0, 1]))
(.seq (.seq (.ops [⟨(some 6), none, .mov (.t 0)⟩,
⟨(some 7), none, .lenV (.t 6)⟩,
⟨(some 8), none, .mov (.c (.int .i64 0))⟩] (some [0, 1, 7, 8]))
(.block 0 (.loop (.seq (.ops [⟨(some 9), none, .ibin .lss .i64 (.t 8) (.t 7)⟩] none)
(.seq (.cond (.t 9)
.skip
(.exit 0))
(.seq (.block 1 (.seq (.ops [⟨(some 10), none, .mov (.t 8)⟩,
⟨(some 5), none, .mov (.t 10)⟩] (some [0, 1, 5, 7, 8]))
(.seq (.ops [⟨(some 11), none, .mov (.t 1)⟩,
⟨(some 12), none, .mov (.t 0)⟩,
⟨(some 13), none, .mov (.t 5)⟩,
⟨(some 14), none, .iaddr 4 (.t 12) (.t 13)⟩,
⟨(some 15), none, .load 4 true (.t 14)⟩,
⟨(some 16), none, .callv (.t 11) [(.t 15)]⟩] (some [0, 1, 5, 7, 8, 16]))
(.cond (.t 16)
(.seq (.ops [⟨(some 17), none, .mov (.t 5)⟩,
⟨(some 4), none, .mov (.t 17)⟩] (some [4]))
.ret)
.skip))))
(.ops [⟨(some 18), none, .ibin .add .i64 (.t 8) (.c (.int .i64 1))⟩,
⟨(some 8), none, .mov (.t 18)⟩] (some [0, 1, 7, 8]))))))))
(.seq (.ops [⟨(some 4), none, .mov (.c (.int .i64 (-1)))⟩] none)
.ret)))⟩

end Go.Proofs.Ytmbekcealcjabaa.AM
