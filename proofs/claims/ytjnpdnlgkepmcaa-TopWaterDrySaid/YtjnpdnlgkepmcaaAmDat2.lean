/- Given data as lists and numbers. Conditions: none. -/
import Derived.Test.YtjnpdnlgkepmcaaAmData
import Derived.Test.YtjnpdnlgkepmcaaAmHas
namespace Go.Proofs.Ytjnpdnlgkepmcaa.AM
set_option linter.unusedSimpArgs false
set_option linter.unusedVariables false
open Go Go.RowKit
theorem list_mapP {α : Type} {f : α → List Value} {p : α → Prop} : ∀ (L : List (List Value)), (∀ x, x ∈ L → ∃ a, x = f a ∧ p a) → ∃ M : List α, L = M.map f ∧ ∀ a, a ∈ M → p a
  | [], _ => ⟨[], rfl, fun _ h => by cases h⟩
  | x :: L, h => by
    obtain ⟨a, rfl, ha⟩ := h x (by simp)
    obtain ⟨M, rfl, hM⟩ := list_mapP L (fun y hy => h y (List.mem_cons_of_mem _ hy))
    refine ⟨a :: M, rfl, fun b hb => ?_⟩
    rcases List.mem_cons.1 hb with rfl | hb
    · exact ha
    · exact hM b hb
theorem wfi64 {n : Int} (h : (Lit.int .i64 n).wf = true) : -9223372036854775808 ≤ n ∧ n < 9223372036854775808 := by
 have := Go.bounds_i64 h
 omega
end Go.Proofs.Ytjnpdnlgkepmcaa.AM
