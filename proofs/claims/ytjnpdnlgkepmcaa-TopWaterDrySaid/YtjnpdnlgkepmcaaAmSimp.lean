/- How contracts are used. Conditions: none. -/
import Derived.Test.YtjnpdnlgkepmcaaAmRule
namespace Go.Proofs.Ytjnpdnlgkepmcaa.AM
set_option linter.unusedSimpArgs false
set_option linter.unusedVariables false
open Go Go.RowKit
@[simp] theorem obind_some {α : Type} (a : α) (f : α → Prop) : obind (some a) f = f a := rfl
@[simp] theorem obind_none {α : Type} (f : α → Prop) : obind none f = False := rfl
variable {E : Env}
theorem ICallV.use {fv : Value} {us : List Value} {h : AHeap} {u : Value} {Q : Value → AHeap → Prop} (H : ICallV E fv us h fun v h' => v = u ∧ h' = h) (hq : Q u h) : ICallV E fv us h Q :=
 H.mono fun v h' ⟨h1, h2⟩ => by rw [h1, h2]; exact hq
theorem ICalls.use {k : Nat} {us : List Value} {h : AHeap} {u : Value} {Q : Value → AHeap → Prop} (H : ICalls E k us h fun v h' => v = u ∧ h' = h) (hq : Q u h) : ICalls E k us h Q :=
 H.mono fun v h' ⟨h1, h2⟩ => by rw [h1, h2]; exact hq
theorem ICalls.use2 {k : Nat} {us : List Value} {h h2 : AHeap} {u : Value} {Q : Value → AHeap → Prop} (H : ICalls E k us h fun v h' => v = u ∧ h' = h2) (hq : Q u h2) : ICalls E k us h Q :=
 H.mono fun v h' ⟨h1, h2⟩ => by rw [h1, h2]; exact hq
structure PCallV (E : Env) (fv : Value) (us : List Value) (h : AHeap) (Q : Value → AHeap → Prop) : Prop where
 out : ICallV E fv us h Q
structure PCalls (E : Env) (k : Nat) (us : List Value) (h : AHeap) (Q : Value → AHeap → Prop) : Prop where
 out : ICalls E k us h Q
theorem ICalls.go {k : Nat} {us : List Value} {u : Value} (H : ICalls E k us AHeap.none fun v _ => v = u) [hus : ClL us] [hu : Cl u] {h : AHeap} {Q : Value → AHeap → Prop} (hq : Q u h) : PCalls E k us h Q :=
 ⟨(ICalls.closed hus.out hu.out H h).use hq⟩
end Go.Proofs.Ytjnpdnlgkepmcaa.AM
