/- The functions in the small language. Conditions: none. -/
import Derived.Test.YtmbekcealcjabaaGreatAmFn
namespace Go.Proofs.YtmbekcealcjabaaGreat.AM
set_option linter.unusedSimpArgs false
set_option linter.unusedVariables false
open Go Go.RowKit

/-- slices.Grow[[]int,int] -/
def ir369 : IFn := ⟨27, [.t 4],
(.seq (.ops [⟨(some 4), none, .mov (.c (.slice none 0 0))⟩] (some [0, 1]))
(.seq (.seq (.ops [⟨(some 5), none, .mov (.t 1)⟩,
⟨(some 6), none, .ibin .lss .i64 (.t 5) (.c (.int .i64 0))⟩] (some [0, 1, 6]))
(.cond (.t 6)
(.ops [⟨(some 7), none, .nope⟩,
⟨none, none, .nope⟩] (some [0, 1]))
.skip))
(.seq (.seq (.ops [⟨(some 8), none, .mov (.t 1)⟩,
⟨(some 9), none, .mov (.t 0)⟩,
⟨(some 10), none, .capN (.t 9)⟩,
⟨(some 11), none, .mov (.t 0)⟩,
⟨(some 12), none, .lenV (.t 11)⟩,
⟨(some 13), none, .ibin .sub .i64 (.t 10) (.t 12)⟩,
⟨(some 14), none, .ibin .sub .i64 (.t 8) (.t 13)⟩,
⟨(some 1), none, .mov (.t 14)⟩] (some [0, 1]))
(.seq (.ops [⟨(some 15), none, .mov (.t 1)⟩,
⟨(some 16), none, .ibin .gtr .i64 (.t 15) (.c (.int .i64 0))⟩] (some [0, 1, 16]))
(.cond (.t 16)
(.ops [⟨(some 17), none, .mov (.t 0)⟩,
⟨(some 18), none, .mov (.t 0)⟩,
⟨(some 19), none, .capN (.t 18)⟩,
⟨(some 20), none, .sliceV 1 (.t 17) none (some (.t 19)) none⟩,
⟨(some 21), none, .mov (.t 1)⟩,
⟨(some 22), none, .appz 1 8 [(.int .i64 0)] (.t 20) (.t 21)⟩,
⟨(some 23), none, .mov (.t 0)⟩,
⟨(some 24), none, .lenV (.t 23)⟩,
⟨(some 25), none, .sliceV 1 (.t 22) none (some (.t 24)) none⟩,
⟨(some 0), none, .mov (.t 25)⟩] (some [0]))
.skip)))
(.seq (.ops [⟨(some 26), none, .mov (.t 0)⟩,
⟨(some 4), none, .mov (.t 26)⟩] (some [4]))
.ret))))⟩

end Go.Proofs.YtmbekcealcjabaaGreat.AM
