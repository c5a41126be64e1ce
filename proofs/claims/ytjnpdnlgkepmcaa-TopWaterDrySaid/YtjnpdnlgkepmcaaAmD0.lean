/- Loops that come to an end with a property; numbers alike but for whole turns of the word; tables. Conditions: none. -/
import Derived.Test.YtjnpdnlgkepmcaaAmP0
namespace Go.Proofs.Ytjnpdnlgkepmcaa.AM
set_option linter.unusedSimpArgs false
set_option linter.unusedVariables false
open Go Go.RowKit
theorem oloop_ex {τ ρ : Type} {g : τ → Option (τ ⊕ ρ)} {R : ρ → Prop} (P : Nat → τ → Prop) (n : Nat) {e0 : τ} (h0 : P 0 e0)
    (hs : ∀ i e, i < n → P i e → (∃ e', g e = some (.inl e') ∧ P (i + 1) e') ∨ (∃ r, g e = some (.inr r) ∧ R r)) (hend : ∀ e, P n e → ∃ r, g e = some (.inr r) ∧ R r) : ∃ r, oloop g e0 = some r ∧ R r := by
  have key : ∀ k i e, i + k = n → P i e → ∃ r, oloop g e = some r ∧ R r := by
    intro k
    induction k with
    | zero =>
      intro i e hi hp
      obtain ⟨r, h1, h2⟩ := hend e (by rw [show n = i by omega]; exact hp)
      exact ⟨r, oloop_done h1, h2⟩
    | succ k ih =>
      intro i e hi hp
      rcases hs i e (by omega) hp with ⟨e', h1, h2⟩ | ⟨r, h1, h2⟩
      · obtain ⟨r, h3, h4⟩ := ih (i + 1) e' (by omega) h2
        exact ⟨r, (oloop_step h1).trans h3, h4⟩
      · exact ⟨r, oloop_done h1, h2⟩
  exact key n 0 e0 (by omega) h0
theorem obnd_ex {α β : Type} {x : Option α} {f : α → Option β} {R : α → Prop} {Q : β → Prop} (h : ∃ r, x = some r ∧ R r) (hf : ∀ r, R r → ∃ y, f r = some y ∧ Q y) : ∃ y, obnd x f = some y ∧ Q y := by
 obtain ⟨r, rfl, hr⟩ := h; exact hf r hr
theorem obndS_ex {α γ : Type} {x : Option (α ⊕ γ)} {f : α → Option γ} {R : α ⊕ γ → Prop} {Q : γ → Prop} (h : ∃ r, x = some r ∧ R r) (hf : ∀ r, R (.inl r) → ∃ y, f r = some y ∧ Q y) (hg : ∀ r, R (.inr r) → Q r) : ∃ y, obndS x f = some y ∧ Q y := by
 obtain ⟨r, rfl, hr⟩ := h
 cases r with
 | inl a => exact hf a hr
 | inr c => exact ⟨c, rfl, hg c hr⟩
theorem inl_ex {α β : Type} {x : Option (α ⊕ β)} {P : α → Prop} (h : ∃ y, x = some y ∧ ∃ e, y = .inl e ∧ P e) : ∃ e, x = some (.inl e) ∧ P e := by obtain ⟨_, h1, e, rfl, h2⟩ := h; exact ⟨e, h1, h2⟩
theorem ex_eq {α : Type} {x : Option α} {y : α} (h : ∃ r, x = some r ∧ r = y) : x = some y := by obtain ⟨r, h, rfl⟩ := h; exact h
def i64 (x : Int) : Prop := -9223372036854775808 ≤ x ∧ x < 9223372036854775808
theorem w_succ {i : Nat} (h : i < 1000000) : IntKind.i64.wrap ((i : Int) + 1) = ((i + 1 : Nat) : Int) := by rw [wr (by omega) (by omega)]; omega
def Cg (a b : Int) : Prop := ∃ t : Int, a = b + 18446744073709551616 * t
theorem Cg.rfl {a : Int} : Cg a a := ⟨0, by omega⟩
theorem Cg.symm {a b : Int} : Cg a b → Cg b a := fun ⟨t, h⟩ => ⟨-t, by omega⟩
theorem Cg.trans {a b c : Int} : Cg a b → Cg b c → Cg a c := fun ⟨t, h⟩ ⟨s, k⟩ => ⟨t + s, by omega⟩
theorem Cg.add {a b c d : Int} : Cg a b → Cg c d → Cg (a + c) (b + d) := fun ⟨t, h⟩ ⟨s, k⟩ => ⟨t + s, by omega⟩
theorem Cg.sub {a b c d : Int} : Cg a b → Cg c d → Cg (a - c) (b - d) := fun ⟨t, h⟩ ⟨s, k⟩ => ⟨t - s, by omega⟩
theorem Cg.mul {a b : Int} (c : Int) : Cg a b → Cg (a * c) (b * c) := fun ⟨t, h⟩ => ⟨t * c, by subst h; rw [Int.add_mul, Int.mul_assoc]⟩
theorem Cg.wrap (a : Int) : Cg (IntKind.i64.wrap a) a := by
 rw [IntKind.wrap_i64]
 exact ⟨-((a + 9223372036854775808) / 18446744073709551616), by omega⟩
theorem Cg.of {a b : Int} (h : a = b) : Cg a b := h ▸ Cg.rfl
def tab {α : Type} (n : Nat) (F : Nat → α) : List α := (List.range n).map F
theorem tab_len {α : Type} {n : Nat} {F : Nat → α} : (tab n F).length = n := by simp [tab]
theorem tab_get {α : Type} {n i : Nat} {F : Nat → α} (h : i < n) : (tab n F)[i]? = some (F i) := by simp [tab, h]
theorem tab_congr {α : Type} {n : Nat} {F G : Nat → α} (h : ∀ i, i < n → F i = G i) : tab n F = tab n G := List.map_congr_left fun i hi => h i (List.mem_range.1 hi)
theorem tab_set {α : Type} {n i : Nat} {F : Nat → α} {x : α} : (tab n F).set i x = tab n (fun q => if q = i then x else F q) := by
 refine List.ext_getElem (by simp [tab]) fun j h1 h2 => ?_
 simp only [tab, List.getElem_set, List.getElem_map, List.getElem_range]
 by_cases h : i = j
 · subst h; simp
 · rw [if_neg h, if_neg (fun e => h e.symm)]
theorem tab_of {α : Type} {l : List α} {d : α} : l = tab l.length (fun i => l.getD i d) := by
 refine List.ext_getElem (by simp [tab]) fun j h1 h2 => ?_
 simp [tab, h1]
end Go.Proofs.Ytjnpdnlgkepmcaa.AM
