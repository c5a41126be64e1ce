/- Slices of structures in a block of their own: loads, stores, the block becomes known for good. Conditions: none. -/
import Derived.Test.YtolapannkcdeeaaGreatDoorAmLift4
namespace Go.Proofs.YtolapannkcdeeaaGreatDoor.AM
set_option linter.unusedSimpArgs false
set_option linter.unusedVariables false
open Go Go.RowKit
section
variable {α β : Type} {v : β} {f : α → Value} {z : Nat}
class Sz (f : α → Value) (z : outParam Nat) : Prop where
 sz : ∀ x, (f x).cells.toList.length = z
 one : ∀ x u, u ∈ (f x).cells.toList → u.oneCell' = true
 agg : ∀ x, f x = .agg ⟨(f x).cells.toList⟩
 cl : ∀ x u, u ∈ (f x).cells.toList → Clo u
theorem flatS_in [h : Sz f z] {l : List α} {u : Value} (hu : u ∈ flat (l.map f)) : ∃ x, u ∈ (f x).cells.toList := by
  induction l with
  | nil => cases hu
  | cons x r ih =>
    rw [List.map_cons, flat, List.mem_append] at hu
    rcases hu with hu | hu
    · exact ⟨x, hu⟩
    · exact ih hu
instance [h : Sz f z] {l : List α} : ClL (flat (l.map f)) := ⟨fun u hu => by
 obtain ⟨x, hx⟩ := flatS_in hu; exact h.cl x u hx⟩
theorem oneL_of : ∀ {l : List Value}, (∀ v, v ∈ l → v.oneCell' = true) → oneL l = true
  | [], _ => rfl
  | v :: r, h => by
    simp only [oneL, Bool.and_eq_true]
    exact ⟨h v List.mem_cons_self, oneL_of fun u hu => h u (List.mem_cons_of_mem _ hu)⟩
theorem oneL_flat [h : Sz f z] {l : List α} : oneL (flat (l.map f)) = true := oneL_of fun u hu => by
 obtain ⟨x, hx⟩ := flatS_in hu; exact h.one x u hx
end
theorem Recast.wkrowl {K n b : Nat} {m : Bool} {t : List (Nat × Value)} {l l2 : List (Nat × AObj)} {c c2 : List Value} (hK : K ≤ n) (hb : AHeap.get ⟨n, l, m⟩ b = some (.rw c)) (he : (⟨n, l2, m⟩ : AHeap) = (AHeap.mk n l m).put b (.rw c2)) (h1 : oneL c2 = true) (hw : WkL c c2) : Recast K ⟨t, ⟨n, l, m⟩⟩ ⟨t, ⟨n, l2, m⟩⟩ :=
 Recast.wkrow hK hb he (by rw [hw.len]; exact Nat.le_refl _) fun i u' hu => ⟨oneL_at h1 hu, by
  have hi : i < c2.length := (List.getElem?_eq_some_iff.1 hu).1
  rw [← hw.len] at hi
  exact ⟨c[i], List.getElem?_eq_getElem hi, hw.at i _ _ (List.getElem?_eq_getElem hi) hu⟩⟩
end Go.Proofs.YtolapannkcdeeaaGreatDoor.AM
