/- Rules for loops and tests; lists of numbers. Conditions: none. -/
import Derived.Test.YtjnpdnlgkepmcaaAmCast
import Derived.Lib.QuoteBits
namespace Go.Proofs.Ytjnpdnlgkepmcaa.AM
set_option linter.unusedSimpArgs false
set_option linter.unusedVariables false
open Go Go.RowKit
theorem pbr_t {b : Bool} {p q : Prop} (h : b = true) (hp : p) : pbr b p q := by rw [h]; exact hp
theorem pbr_f {b : Bool} {p q : Prop} (h : b = false) (hq : q) : pbr b p q := by rw [h]; exact hq
def putsl : List (Nat × Value) → List (Nat × Value) → List (Nat × Value)
  | [], _ => []
  | (k, v) :: r, l => match look l k with
    | some v' => (k, v') :: putsl r l
    | none => (k, v) :: putsl r l
theorem Recast.keep {K : Nat} {t : List (Nat × Value)} {h : AHeap} (l : List Nat) (hK : K ≤ h.next) : Recast K ⟨t, h⟩ ⟨akeep t l, h⟩ := .inr ⟨hK, fun ι w rt R T => ⟨ι, R, fun k v hv => T k v (look_akeep _ _ _ _ hv), .refl, fun _ h => h, fun _ _ _ => rfl⟩⟩
theorem wrap_in {n : Int} (h1 : -9223372036854775808 ≤ n) (h2 : n < 9223372036854775808) : IntKind.i64.wrap n = n := IntWalk.i64_in n ⟨h1, by omega⟩
theorem ilt_t {a b : Int} (h : a < b) : ilt a b = true := by rw [ilt_eq]; simpa using h
theorem ilt_f {a b : Int} (h : b ≤ a) : ilt a b = false := by rw [ilt_eq]; simpa using h
theorem ile_t {a b : Int} (h : a ≤ b) : ile a b = true := by rw [ile_eq]; simpa using h
theorem ile_f {a b : Int} (h : b < a) : ile a b = false := by rw [ile_eq]; simpa using h
theorem ieq_t {a b : Int} (h : a = b) : ieq a b = true := by rw [ieq_eq]; simpa using h
theorem ieq_f {a b : Int} (h : a ≠ b) : ieq a b = false := by rw [ieq_eq]; simpa using h
def ints (L : List Int) : List Value := L.map fun x => .int .i64 x
instance {L : List Int} : ClL (ints L) := inferInstanceAs (ClL (L.map _))
theorem nthv_map {α : Type} {f : α → Value} {L : List α} {i : Nat} {x : α} (h : L[i]? = some x) : nthv (L.map f) i = some (f x) := by rw [nthv_eq]; simp [h]
abbrev vints (L : List Int) : Value := VS 1 (ints L)
end Go.Proofs.Ytjnpdnlgkepmcaa.AM
