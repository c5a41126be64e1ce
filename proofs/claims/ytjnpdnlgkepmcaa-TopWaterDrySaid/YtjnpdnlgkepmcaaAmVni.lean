/- Slices of numbers that are nil exactly where they are empty. Conditions: none. -/
import Derived.Test.YtjnpdnlgkepmcaaAmLift5
namespace Go.Proofs.Ytjnpdnlgkepmcaa.AM
set_option linter.unusedSimpArgs false
set_option linter.unusedVariables false
open Go Go.RowKit
variable {E : Env}
def vni (l : List Int) : Value := match l with
 | [] => .slice none 0 0
 | a :: r => VS 1 ((a :: r).map eI)
instance {l : List Int} : Cl (vni l) := by
 cases l with
 | nil => exact inferInstanceAs (Cl (.slice none 0 0))
 | cons a r => exact inferInstanceAs (Cl (VS 1 ((a :: r).map eI)))
theorem Fz.vni {h : AHeap} {D : Nat → Bool} {n : Nat} {l : List Int} : Fz h D n (vni l) (VS 1 (l.map eI)) := by
 cases l with
 | nil => exact .nil 1
 | cons a r => exact .cl
theorem xnil_o {α : Type} {f : α → Value} {l : List α} {z : Nat} {neq : Bool} {t : List (Nat × Value)} {h : AHeap} {x : Opd} {K : Option Value × AHeap → Prop} (hv : (St.mk t h).ev E x = some (VS z (l.map f))) (hne : (!l.isEmpty) = true) (hk : K (some (.bool neq), h)) : obind (xev E ⟨t, h⟩ (.nileq .sl neq x)) K := by
  refine obind_iff.2 ⟨_, ?_, hk⟩
  cases l with
  | nil => cases hne
  | cons a r =>
    simp only [xev, pev, hv, Option.bind_some]
    cases neq <;> rfl
end Go.Proofs.Ytjnpdnlgkepmcaa.AM
