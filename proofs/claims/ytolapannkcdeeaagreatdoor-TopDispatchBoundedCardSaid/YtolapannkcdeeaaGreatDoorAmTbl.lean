/- Cells of the program's variables that are known throughout (block, cell, what holds of the value). Conditions: none. -/
import GoSem.Claims
import Derived.Lib.ItoaNum
namespace Go.Proofs.YtolapannkcdeeaaGreatDoor.AM
set_option linter.unusedSimpArgs false
set_option linter.unusedVariables false
open Go
def TBL : List (Nat × Nat × (Value → Prop)) :=
 (0, 0, fun v => ∃ m, v = .int .i64 m) :: (1, 0, fun v => ∃ t p, v = .iface t p) :: (2, 0, fun v => ∃ t p, v = .iface t p) ::
  (List.range 20).map fun i => (3, i, fun v => v = .int .u64 (Lib.pow10Tab.getD i 0))
def TBLS : List (Nat × Nat) := [(3, 20)]
end Go.Proofs.YtolapannkcdeeaaGreatDoor.AM
