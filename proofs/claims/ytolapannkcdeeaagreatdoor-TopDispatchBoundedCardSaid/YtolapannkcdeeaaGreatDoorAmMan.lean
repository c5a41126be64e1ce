/- Contracts that are given to the lifting: the examples of chapter 8 (dispatchShown). Conditions: none. -/
import Derived.Test.YtolapannkcdeeaaGreatDoorAmRep
import Derived.Test.YtolapannkcdeeaaGreatDoorAmWk
import Derived.Test.YtolapannkcdeeaaGreatDoorAmExt
import Derived.Test.YtolapannkcdeeaaGreatDoorAmLift5
import Derived.KernelRfl
namespace Go.Proofs.YtolapannkcdeeaaGreatDoor.AM
set_option linter.unusedSimpArgs false
set_option linter.unusedVariables false
open Go Go.RowKit
theorem shown_run : @Wk.f470 fuelLO = some true := by kernel_rfl
noncomputable def f470 : Option Bool := some true
theorem c470 {x : Bool} (H : f470 = some x) : ICalls E 470 [] AHeap.none fun v _ => v = .bool x := by
 unfold f470 at H; injection H with H; subst H; exact @Wk.c470 fuelLO _ shown_run
end Go.Proofs.YtolapannkcdeeaaGreatDoor.AM
