/- Contracts that are given to the lifting of others. Conditions: none. -/
import Derived.Test.YtacgibkgojnfeaaGreatDoorAmExt
import Derived.Test.YtacgibkgojnfeaaGreatDoorAmDec
import Derived.Test.YtacgibkgojnfeaaGreatDoorAmAwake
import Derived.Test.YtacgibkgojnfeaaGreatDoorAmLift5
namespace Go.Proofs.YtacgibkgojnfeaaGreatDoor.AM
set_option linter.unusedSimpArgs false
set_option linter.unusedVariables false
open Go Go.RowKit
noncomputable def f10 : Option Bool := some true
theorem c10 {x : Bool} (H : f10 = some x) : ICalls E 10 [] AHeap.none fun v _ => v = .bool x := by
  cases H; exact awake
/-- base.Decimal -/
def f388 (n : Int) : Option ByteArray := ogrd (in64 n) (some ⟨(Lib.itoa n).toArray⟩)
theorem c388 {n : Int} {x : ByteArray} (H : f388 n = some x) : ICalls E 388 [.int .i64 n] AHeap.none fun v _ => v = .string x := by
  obtain ⟨hn, H⟩ := ogrd_some H
  injection H with H; subst H
  have hn := of_decide_eq_true hn
  refine ICalls.ext (f := 70) (by kernel_rfl) ent70 fun ι w vs R hl => ?_
  obtain ⟨v, rfl, h1⟩ := vrl1 hl
  obtain ⟨_, rfl⟩ := h1.int_of (k := .i64) (n := n) rfl
  refine (decimal_all n hn.1 hn.2 w).mono ?_
  rintro e w' ⟨rfl, hB⟩
  exact lift_plain rfl R hB
end Go.Proofs.YtacgibkgojnfeaaGreatDoor.AM
