/- Contracts that are given to the lifting: the examples of chapter 8 (awake). Conditions: none. -/
import Derived.Test.YtolapannkcdeeaaGreatAmRep
import Derived.Test.YtolapannkcdeeaaGreatAmWk
import Derived.Test.YtolapannkcdeeaaGreatAmSrt
import Derived.Test.YtolapannkcdeeaaGreatAmMat
import Derived.KernelRfl
namespace Go.Proofs.YtolapannkcdeeaaGreat.AM
set_option linter.unusedSimpArgs false
set_option linter.unusedVariables false
open Go Go.RowKit
theorem awake_run : @Wk.f198 fuelLO = some true := by kernel_rfl
noncomputable def f198 : Option Bool := some true
theorem c198 {x : Bool} (H : f198 = some x) : ICalls E 198 [] AHeap.none fun v _ => v = .bool x := by
 unfold f198 at H; injection H with H; subst H; exact @Wk.c198 fuelLO _ awake_run
end Go.Proofs.YtolapannkcdeeaaGreat.AM
