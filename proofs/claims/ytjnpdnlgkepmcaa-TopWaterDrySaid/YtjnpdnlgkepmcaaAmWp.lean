/- Functions that turn the slice that they are given; pointers into memory that is known for good. Conditions: none. -/
import Derived.Test.YtjnpdnlgkepmcaaAmRen
namespace Go.Proofs.Ytjnpdnlgkepmcaa.AM
set_option linter.unusedSimpArgs false
set_option linter.unusedVariables false
open Go Go.RowKit
variable {E : Env}
theorem ogrd_i {b : Bool} (h : b = true) : ogrd b (some ()) = some () := by subst h; rfl
theorem Fz.ptrc {h : AHeap} {D : Nat → Bool} {n b o : Nat} {c : List Value} [hc : ClL c] (hD : D b = true) (hg : h.get b = some (.rw c)) (h1 : oneL c = true) : Fz h D n (.pointer (some ⟨b, o, none⟩)) (VP (.agg ⟨c⟩) o) :=
 .ptr b o c _ hD hg (fun j u hu => by
  have hu' : c[j]? = some u := by simpa [Value.cells] using hu
  exact ⟨oneL_at h1 hu', u, hu'⟩) fun j u u' hu hu' => by
  have hu2 : c[j]? = some u' := by simpa [Value.cells] using hu
  rw [hu2] at hu'; injection hu' with hu'; subst hu'
  exact .same _ ((hc.out _ (mem_of_at hu2)).bnd)
end Go.Proofs.Ytjnpdnlgkepmcaa.AM
