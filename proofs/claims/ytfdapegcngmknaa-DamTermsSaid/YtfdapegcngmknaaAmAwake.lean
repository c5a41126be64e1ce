/- The examples that each law checks first: run. Conditions: none. -/
import Derived.Test.YtfdapegcngmknaaAmTab
namespace Go.Proofs.Ytfdapegcngmknaa.AM
open Go Go.RowKit
theorem awake_run : xcall XA (xcode XA 400) (.func (.func (XA.E.id 10)) #[] #[]) [] AHeap.none (fun v _ => veq v (.bool true)) = true := by kernel_rfl
theorem awake (h : AHeap) : ICalls E 10 [] h fun v h' => v = .bool true ∧ h' = h := ICalls.run (X := XA) XA_ok rfl rfl awake_run h
end Go.Proofs.Ytfdapegcngmknaa.AM
