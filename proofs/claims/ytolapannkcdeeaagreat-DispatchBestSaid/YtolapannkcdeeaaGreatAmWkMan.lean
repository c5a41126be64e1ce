/- Contracts that are given to the lifting of awake (its first stage). Conditions: none. -/
import Derived.Test.YtolapannkcdeeaaGreatAmRep
import Derived.Test.YtolapannkcdeeaaGreatAmRuns
namespace Go.Proofs.YtolapannkcdeeaaGreat.AM
set_option linter.unusedSimpArgs false
set_option linter.unusedVariables false
open Go Go.RowKit
namespace Wk
def f210 (l : List (ByteArray × Int × Int)) : Option (List Int × Int × Int) := if l = exRev then some ([0, 1, 2], 1, 0) else none
theorem c210 {l : List (ByteArray × Int × Int)} {x : List Int × Int × Int} (H : f210 l = some x) : ICalls E 210 [VS 3 (l.map e_SII)] AHeap.none fun v _ => v = .tuple ⟨[VS 1 (x.1.map eI), .int .i64 x.2.1, .int .i64 x.2.2]⟩ := by
 unfold f210 at H
 split at H
 · rename_i h; injection H with H; subst H; subst h; exact order_c
 · cases H
def f231 (a b : Int) (l : List (ByteArray × Int × Int × Int)) (c d e : Int) (m : List (Int × Int × Int)) (t : Int) : Option (List Int) :=
 if a = 0 ∧ b = 10 ∧ l = exModes ∧ c = 4 ∧ d = 0 ∧ e = 1 ∧ m = exHours ∧ t = 2 then some [2, 5, 8] else none
theorem c231 {a b : Int} {l : List (ByteArray × Int × Int × Int)} {c d e : Int} {m : List (Int × Int × Int)} {t : Int} {x : List Int} (H : f231 a b l c d e m t = some x) :
   ICalls E 231 [.agg ⟨[.int .i64 a, .int .i64 b, VS 4 (l.map e_SIII), .int .i64 c, .int .i64 d, .int .i64 e, VS 3 (m.map e_III)]⟩, .int .i64 t] AHeap.none fun v _ => v = VS 1 (x.map eI) := by
 unfold f231 at H
 split at H
 · rename_i h; injection H with H; subst H; obtain ⟨rfl, rfl, rfl, rfl, rfl, rfl, rfl, rfl⟩ := h; exact reach_c
 · cases H
end Wk
end Go.Proofs.YtolapannkcdeeaaGreat.AM
