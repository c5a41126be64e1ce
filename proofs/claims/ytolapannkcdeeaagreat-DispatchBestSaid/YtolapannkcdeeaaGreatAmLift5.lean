/- Slices of structures in a block of their own: loads, stores, the block becomes known for good. Conditions: none. -/
import Derived.Test.YtolapannkcdeeaaGreatAmLift4
namespace Go.Proofs.YtolapannkcdeeaaGreat.AM
set_option linter.unusedSimpArgs false
set_option linter.unusedVariables false
open Go Go.RowKit
section
variable {α β : Type} {v : β} {f : α → Value} {z : Nat}
class Sz (f : α → Value) (z : outParam Nat) : Prop where
 sz : ∀ x, (f x).cells.toList.length = z
 one : ∀ x u, u ∈ (f x).cells.toList → u.oneCell' = true
 agg : ∀ x, f x = .agg ⟨(f x).cells.toList⟩
 cl : ∀ x u, u ∈ (f x).cells.toList → Clo u
theorem flatS_in [h : Sz f z] {l : List α} {u : Value} (hu : u ∈ flat (l.map f)) : ∃ x, u ∈ (f x).cells.toList := by
  induction l with
  | nil => cases hu
  | cons x r ih =>
    rw [List.map_cons, flat, List.mem_append] at hu
    rcases hu with hu | hu
    · exact ⟨x, hu⟩
    · exact ih hu
instance [h : Sz f z] {l : List α} : ClL (flat (l.map f)) := ⟨fun u hu => by
 obtain ⟨x, hx⟩ := flatS_in hu; exact h.cl x u hx⟩
theorem oneL_of : ∀ {l : List Value}, (∀ v, v ∈ l → v.oneCell' = true) → oneL l = true
  | [], _ => rfl
  | v :: r, h => by
    simp only [oneL, Bool.and_eq_true]
    exact ⟨h v List.mem_cons_self, oneL_of fun u hu => h u (List.mem_cons_of_mem _ hu)⟩
theorem oneL_flat [h : Sz f z] {l : List α} : oneL (flat (l.map f)) = true := oneL_of fun u hu => by
 obtain ⟨x, hx⟩ := flatS_in hu; exact h.one x u hx
end
end Go.Proofs.YtolapannkcdeeaaGreat.AM
