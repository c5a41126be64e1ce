/- Cells of the program's variables that are known throughout (block, cell, what holds of the value): none. Conditions: none. -/
import GoSem.Claims
namespace Go.Proofs.Ytgfglinlmnbjbaa.AM
set_option linter.unusedSimpArgs false
set_option linter.unusedVariables false
open Go
def TBL : List (Nat × Nat × (Value → Prop)) := []
/-- Blocks of variables, and how many cells each of them has. -/
def TBLS : List (Nat × Nat) := []
end Go.Proofs.Ytgfglinlmnbjbaa.AM
