/- Cells of the program's variables that are known throughout (block, cell, what holds of the value): none. Conditions: none. -/
import GoSem.Claims
namespace Go.Proofs.Ytjnpdnlgkepmcaa.AM
set_option linter.unusedSimpArgs false
set_option linter.unusedVariables false
open Go
def TBL : List (Nat × Nat × (Value → Prop)) := []
def TBLS : List (Nat × Nat) := []
end Go.Proofs.Ytjnpdnlgkepmcaa.AM
