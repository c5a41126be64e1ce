/- Contracts that are given to the lifting of others. Conditions: none. -/
import Derived.Test.YtgfglinlmnbjbaaGreatAmDet
import Derived.Test.YtgfglinlmnbjbaaGreatAmAwake
import Derived.Test.YtgfglinlmnbjbaaGreatAmSol
namespace Go.Proofs.YtgfglinlmnbjbaaGreat.AM
set_option linter.unusedSimpArgs false
set_option linter.unusedVariables false
open Go Go.RowKit
attribute [local irreducible] ICallV ICalls Recast rng
noncomputable def f10 : Option Bool := some true
theorem c10 {x : Bool} (H : f10 = some x) : ICalls E 10 [] AHeap.none fun v _ => v = .bool x := by
 cases H; exact awake
end Go.Proofs.YtgfglinlmnbjbaaGreat.AM
