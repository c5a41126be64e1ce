/- Contracts that are given to the lifting of others. Conditions: none. -/
import Derived.Test.YtacgibkgojnfeaaGreatDoorAmExt
import Derived.Test.YtacgibkgojnfeaaGreatDoorAmDet
import Derived.Test.YtacgibkgojnfeaaGreatDoorAmAwake
import Derived.Test.YtacgibkgojnfeaaGreatDoorAmLift5
namespace Go.Proofs.YtacgibkgojnfeaaGreatDoor.AM
set_option linter.unusedSimpArgs false
set_option linter.unusedVariables false
open Go Go.RowKit
noncomputable def f50 : Option Bool := some true
theorem c50 {x : Bool} (H : f50 = some x) : ICalls E 50 [] AHeap.none fun v _ => v = .bool x := by
  cases H; exact awake
end Go.Proofs.YtacgibkgojnfeaaGreatDoor.AM
