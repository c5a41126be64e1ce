/- Slices of structures in a block of their own: loads, stores, the block becomes known for good. Conditions: none. -/
import Derived.Test.YtolapannkcdeeaaGreatDoorAmLift4
namespace Go.Proofs.YtolapannkcdeeaaGreatDoor.AM
set_option linter.unusedSimpArgs false
set_option linter.unusedVariables false
open Go Go.RowKit
section
variable {α β : Type} {v : β} {f : α → Value} {z : Nat}
class Sz (f : α → Value) (z : outParam Nat) : Prop where
 sz : ∀ x, (f x).cells.toList.length = z
 one : ∀ x u, u ∈ (f x).cells.toList → u.oneCell' = true
 agg : ∀ x, f x = .agg ⟨(f x).cells.toList⟩
 cl : ∀ x u, u ∈ (f x).cells.toList → Clo u
theorem flatS_in [h : Sz f z] {l : List α} {u : Value} (hu : u ∈ flat (l.map f)) : ∃ x, u ∈ (f x).cells.toList := by
  induction l with
  | nil => cases hu
  | cons x r ih =>
    rw [List.map_cons, flat, List.mem_append] at hu
    rcases hu with hu | hu
    · exact ⟨x, hu⟩
    · exact ih hu
instance [h : Sz f z] {l : List α} : ClL (flat (l.map f)) := ⟨fun u hu => by
 obtain ⟨x, hx⟩ := flatS_in hu; exact h.cl x u hx⟩
end
end Go.Proofs.YtolapannkcdeeaaGreatDoor.AM
