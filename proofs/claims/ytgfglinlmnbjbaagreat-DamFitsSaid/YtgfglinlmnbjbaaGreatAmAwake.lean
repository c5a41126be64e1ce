/- The examples that each law checks first: run. Conditions: none. -/
import Derived.Test.YtgfglinlmnbjbaaGreatAmTab
namespace Go.Proofs.YtgfglinlmnbjbaaGreat.AM
set_option linter.unusedSimpArgs false
set_option linter.unusedVariables false
open Go Go.RowKit
theorem awake_run : xcall XA (xcode XA 400) (.func (.func (XA.E.id 10)) #[] #[]) [] ⟨0, [], true⟩ (fun v _ => veq v (.bool true)) = true := by kernel_rfl
theorem awake : ICalls E 10 [] AHeap.none fun v _ => v = .bool true := ICalls.run (X := XA) XA_ok awake_run
end Go.Proofs.YtgfglinlmnbjbaaGreat.AM
