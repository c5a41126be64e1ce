/- TopWaterDry: the statement. Conditions: none beside the statement's own. -/
import Derived.Test.YtjnpdnlgkepmcaaAmTopWaterDryAll
import Derived.Test.YtjnpdnlgkepmcaaAmData
import Derived.Test.YtjnpdnlgkepmcaaRows
import Derived.ProofKit
import Derived.OpenShut
import Derived.Carry
import Derived.Lib.SmallJoins
namespace Go.Proofs.Ytjnpdnlgkepmcaa.topWaterDry
set_option linter.unusedSimpArgs false
set_option linter.unusedVariables false
open Go.ChangeShapes Go.WideShapes Go.ChangeAt Go.RowKit Go.Joins
open Go.Proofs.Ytjnpdnlgkepmcaa.AM (calls_of dat_arg baseI gw0 gb0)
theorem laidOut : laidOutB Try.prog = true := by kernel_rfl
theorem own : ownKnob Try.prog.godebug = none := by kernel_rfl
set_option maxRecDepth 100000 in
theorem lifted (os : Os) (started : os.Started) (H : Type) (enc : TypeId × Value → H) :
  ReturnsInHanded {} Try.checked os 3 .any (Rows.topWaterDrySpec.pre6 enc Try.prog Try.f3 Rows.topWaterDryRow.domain false) (Rows.topWaterDrySpec.post enc Try.prog Try.f3 false true false false) := by
 refine returnsInHanded_of_change (C := Try.checked) own started (by kernel_rfl) Try.func3
  (ChangeSpec.witness6 (enc := enc) (C := Try.checked) false ⟨#[], #[.agg #[.slice none 0 0, .slice none 0 0], .int .i64 0, .slice none 0 0], []⟩ 8 (by kernel_rfl) (by kernel_rfl) (by kernel_rfl) (by kernel_rfl)) ?_
 intro W base args ds gs before hval0 hW hcnd _
 have hval : ∀ (j : Nat) t v, Try.f3.params[j]? = some t → args[j]? = some v → Value.okWide Try.prog W .any base t v := hval0
 have hW' := hW
 obtain ⟨p, q, hA0, hV, rfl, hfz, hnd⟩ := hW
 have hA : DataW.TrodAll enc Try.prog W 0 (fun _ => true) true Try.f3.params.toList args.toList ds p := hA0
 rw [Try.params3] at hA hval
 obtain ⟨v0, vs0, d0, ds0, p0, q0, hargs, rfl, rfl, h0, r0⟩ := trodAll_cons hA
 obtain ⟨v1, vs1, d1, ds1, p1, q1, e1, rfl, rfl, h1, r1⟩ := trodAll_cons r0
 obtain ⟨v2, vs2, d2, ds2, p2, q2, e2, rfl, rfl, h2, r2⟩ := trodAll_cons r1
 obtain ⟨e3, rfl, rfl⟩ := trodAll_nil r2
 obtain rfl : args = #[v0, v1, v2] := by cases args; simp_all
 obtain ⟨rfl, rfl⟩ := trodVars_none hV
 have hlt0 : ∀ x ∈ p0, x.block < W.heap.size := fun x hx => by simpa using hW'.lt x (by simp [hx])
 have hlt1 : ∀ x ∈ p1, x.block < W.heap.size := fun x hx => by simpa using hW'.lt x (by simp [hx])
 have hlt2 : ∀ x ∈ p2, x.block < W.heap.size := fun x hx => by simpa using hW'.lt x (by simp [hx])
 obtain ⟨u0, x0, y0⟩ := dat_arg (ι := baseI W (gw0 rfl W)) (hg := gw0 rfl W) (d := 12) (by kernel_rfl) (hval 0 25 v0 rfl rfl) h0
 obtain ⟨u1, x1, y1⟩ := dat_arg (ι := baseI W (gw0 rfl W)) (hg := gw0 rfl W) (d := 12) (by kernel_rfl) (hval 1 3 v1 rfl rfl) h1
 obtain ⟨u2, x2, y2⟩ := dat_arg (ι := baseI W (gw0 rfl W)) (hg := gw0 rfl W) (d := 12) (by kernel_rfl) (hval 2 26 v2 rfl rfl) h2
 have hid : AM.E.id 474 = 3 := by kernel_rfl
 have hc := calls_of (E := AM.E) (w := W) (AM.topWaterDry_all u0 y0 u1 y1 u2 y2) rfl (gw0 rfl W) (gb0 rfl W) (.cons x0 (.cons x1 (.cons x2 .nil)))
 rw [hid] at hc
 clear hA0 hval0
 simp only [List.append_nil] at hW'
 refine hc.mono fun e W' ⟨he, hB⟩ => ?_
 subst he
 exact ⟨_, rfl, _, _, _, [], _, [], hW', (trodAll_cons_mk (shut_bool Try.underlying4 _) trodAll_mk0), (trodAll_cons_mk (Below.trod laidOut (by kernel_rfl) (of_decide_eq_true (by kernel_rfl)) h0 hB hlt0) (trodAll_cons_mk (Below.trod laidOut (by kernel_rfl) (of_decide_eq_true (by kernel_rfl)) h1 hB hlt1) (trodAll_cons_mk (Below.trod laidOut (by kernel_rfl) (of_decide_eq_true (by kernel_rfl)) h2 hB hlt2) trodAll_mk0))), rfl, hB.frame _, fun h => by cases h⟩
theorem over : Rows.topWaterDryRow.holds Try.pinned (OpenSpec.ofChange Rows.topWaterDrySpec) :=
 OpenClaim.holds_of_wide 3 Try.f3 rfl rfl rfl rfl rfl rfl rfl ⟨rfl, rfl, rfl, rfl, rfl⟩ rfl rfl rfl rfl rfl (by kernel_rfl) Try.func3 (by kernel_rfl)
  (of_decide_eq_true (by kernel_rfl)) (by unfold Func.isWrapper; first | (rw [if_pos (by decide +kernel)]; kernel_rfl) | (rw [if_neg (by decide +kernel)]; exact ⟨rfl, rfl⟩))
  (fun os started H enc _ => lifted os started H enc)
theorem holds : Rows.TopWaterDrySaid := over
#print axioms holds
end Go.Proofs.Ytjnpdnlgkepmcaa.topWaterDry
