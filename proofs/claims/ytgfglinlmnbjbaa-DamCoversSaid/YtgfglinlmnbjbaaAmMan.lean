/- Contracts that are given to the lifting of others. Conditions: none. -/
import Derived.Test.YtgfglinlmnbjbaaAmWp
import Derived.Test.YtgfglinlmnbjbaaAmVni
import Derived.Test.YtgfglinlmnbjbaaAmAwake
import Derived.Test.YtgfglinlmnbjbaaAmSrt
namespace Go.Proofs.Ytgfglinlmnbjbaa.AM
set_option linter.unusedSimpArgs false
set_option linter.unusedVariables false
open Go Go.RowKit
attribute [local irreducible] ICallV ICalls Recast rng
noncomputable def f10 : Option Bool := some true
theorem c10 {x : Bool} (H : f10 = some x) : ICalls E 10 [] AHeap.none fun v _ => v = .bool x := by
  cases H; exact awake
/-- CopyInts: a fresh slice. -/
noncomputable def f38 (l : List Int) : Option (List Int) := ogrd (fits 8 (([] : List Int).length + l.length)) (some (([] : List Int) ++ l))
theorem c38 {l x : List Int} (H : f38 l = some x) : ICalls E 38 [VS 1 (l.map eI)] AHeap.none fun v h' => ∃ b n, v = VT 1 (x.map eI) b ∧ n = (x.map eI).length ∧ h'.get b = some (.tail n 1) := by
  refine icalls_fn (pfnw ?_)
  unfold f38 at H
  (conv => whnf)
  refine pw_so ?_
  refine po_all ?_
  (conv => whnf)
  refine pw_so ?_
  refine po_all ?_
  (conv => whnf)
  refine app_o (l := ([] : List Int)) (m := l) (f := eI) H (by rfl) (by rfl) (by rfl) (fun H => ?_)
  (conv => whnf)
  refine pw_ret ?_
  (conv => whnf)
  cases H
  exact ⟨0, _, rfl, rfl, rfl⟩
end Go.Proofs.Ytgfglinlmnbjbaa.AM
