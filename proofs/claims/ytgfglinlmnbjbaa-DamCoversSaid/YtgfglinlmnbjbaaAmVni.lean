/- Slices of numbers that are nil exactly where they are empty. Conditions: none. -/
import Derived.Test.YtgfglinlmnbjbaaAmLift5
namespace Go.Proofs.Ytgfglinlmnbjbaa.AM
set_option linter.unusedSimpArgs false
set_option linter.unusedVariables false
open Go Go.RowKit
variable {E : Env}

/-- A slice of numbers that is nil exactly where it is empty. -/
def vni (l : List Int) : Value := match l with
  | [] => .slice none 0 0
  | a :: r => VS 1 ((a :: r).map eI)
theorem vni_e {l : List Int} (h : l.isEmpty = true) : vni l = .slice none 0 0 := by cases l with
  | nil => rfl
  | cons a r => cases h
theorem vni_ne {l : List Int} (h : (!l.isEmpty) = true) : vni l = VS 1 (l.map eI) := by cases l with
  | nil => cases h
  | cons a r => rfl
instance {l : List Int} : Cl (vni l) := by
  cases l with
  | nil => exact inferInstanceAs (Cl (.slice none 0 0))
  | cons a r => exact inferInstanceAs (Cl (VS 1 ((a :: r).map eI)))
theorem Fz.vni {h : AHeap} {D : Nat → Bool} {n : Nat} {l : List Int} : Fz h D n (vni l) (VS 1 (l.map eI)) := by
  cases l with
  | nil => exact .nil 1
  | cons a r => exact .cl
theorem vni_o {β : Type} {v : β} {l : List Int} {x y : Option β} {P : Prop} (H : oite l.isEmpty x y = some v) (h1 : l.isEmpty = true → x = some v → P) (h2 : (!l.isEmpty) = true → y = some v → P) : P := by
  cases hb : l.isEmpty with
  | true => rw [hb] at H; exact h1 hb H
  | false => rw [hb] at H; exact h2 (by simp [hb]) H
theorem xnil_o {α : Type} {f : α → Value} {l : List α} {z : Nat} {neq : Bool} {t : List (Nat × Value)} {h : AHeap} {x : Opd} {K : Option Value × AHeap → Prop} (hv : (St.mk t h).ev E x = some (VS z (l.map f))) (hne : (!l.isEmpty) = true) (hk : K (some (.bool neq), h)) : obind (xev E ⟨t, h⟩ (.nileq .sl neq x)) K := by
  refine obind_iff.2 ⟨_, ?_, hk⟩
  cases l with
  | nil => cases hne
  | cons a r =>
    simp only [xev, pev, hv, Option.bind_some]
    cases neq <;> rfl
theorem vsl_vni (l : List Int) : ∃ b c, vsl (vni l) = some ⟨b, (l.map eI).length, c⟩ := by
  cases l with
  | nil => exact ⟨_, _, rfl⟩
  | cons a r => exact ⟨_, _, rfl⟩
theorem wk_vni (l : List Int) : Wk (vni l) (VS 1 (l.map eI)) := by
  cases l with
  | nil => exact .nil 1
  | cons a r => exact .refl _
theorem Recast.eq {K : Nat} {s s' : St} (h : s = s') : Recast K s s' := h ▸ .refl
end Go.Proofs.Ytgfglinlmnbjbaa.AM
