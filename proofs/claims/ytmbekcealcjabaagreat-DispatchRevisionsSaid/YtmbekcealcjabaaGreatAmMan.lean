/- Contracts that are given to the lifting: the examples of chapter 8 (awake); byDue. Conditions: none. -/
import Derived.Test.YtmbekcealcjabaaGreatAmRep
import Derived.Test.YtmbekcealcjabaaGreatAmWk
import Derived.Test.YtmbekcealcjabaaGreatAmSo
import Derived.KernelRfl
namespace Go.Proofs.YtmbekcealcjabaaGreat.AM
set_option linter.unusedSimpArgs false
set_option linter.unusedVariables false
open Go Go.RowKit
theorem awake_run : @Wk.f198 fuelLO = some true := by kernel_rfl
noncomputable def f198 : Option Bool := some true
theorem c198 {x : Bool} (H : f198 = some x) : ICalls E 198 [] AHeap.none fun v _ => v = .bool x := by
  unfold f198 at H; injection H with H; subst H; exact @Wk.c198 fuelLO _ awake_run
/-- byDue: of nothing, or of some. -/
noncomputable def f227 [LO] (a0 : List (ByteArray × Int × Int)) (a1 : List Int) : Option (List Int) := match a1 with
  | [] => some []
  | _ => So.f227 a0 a1
theorem c227 [LO] {a0 : List (ByteArray × Int × Int)} {a1 : List Int} {x : List Int} (H : f227 a0 a1 = some x) : ICalls E 227 [(VS 3 (a0.map e_SII)), (VS 1 (a1.map eI))] AHeap.none fun v _ => v = (VS 1 (x.map eI)) := by
  unfold f227 at H
  split at H
  · injection H with H; subst H; exact @Em.c227 fuelLO _ _ _ (Em.nil a0)
  · exact So.c227 H
end Go.Proofs.YtmbekcealcjabaaGreat.AM
