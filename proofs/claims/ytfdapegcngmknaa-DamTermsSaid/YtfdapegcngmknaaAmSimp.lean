/- What a walk through the small language unfolds; how contracts are used. Conditions: none. -/
import Derived.Test.YtfdapegcngmknaaAmRule
namespace Go.Proofs.Ytfdapegcngmknaa.AM
open Go Go.RowKit

attribute [simp] iwp iops iop1 igrd istep xev pev wev lev ithen iblk ikeep akeep nmem aput aputO adel St.ev evs evp look gwant skipV vint vany vstr vbool vptr vagg ibinv res1 resL resV params unwatch WOK levh idraw rstep fillL bnd minmax2 minmaxL vnil

@[simp] theorem obind_some {α : Type} (a : α) (f : α → Prop) : obind (some a) f = f a := rfl
@[simp] theorem obind_none {α : Type} (f : α → Prop) : obind none f = False := rfl

variable {E : Env}
theorem ICalls.use {k : Nat} {us : List Value} {h : AHeap} {u : Value} {Q : Value → AHeap → Prop} (H : ICalls E k us h fun v h' => v = u ∧ h' = h) (hq : Q u h) : ICalls E k us h Q :=
  H.mono fun v h' ⟨h1, h2⟩ => by rw [h1, h2]; exact hq
def AHeap.WF (h : AHeap) : Prop := ∀ b o, h.get b = some o → b < h.next
theorem ICallV.wf {fv : Value} {us : List Value} {h : AHeap} {Q : Value → AHeap → Prop} (H : h.WF → ICallV E fv us h Q) : ICallV E fv us h Q := fun ι w fv' vs R => H R.lt ι w fv' vs R
/-- A function that leaves what it found, and yields a value without an address. -/
theorem ICalls.pure {k : Nat} {F : IFn} [Has E k F] [Mixed E] {us : List Value} {h : AHeap} {u : Value} (hu : vrcD u = true) (H : h.WF → ifn E F us h fun v h' => v = u ∧ ∀ b, b < h.next → h'.get b = h.get b) :
    ICalls E k us h fun v h' => v = u ∧ h' = h :=
  ICallV.mono (ICallV.clean (Q := fun v _ => v = u) (ICallV.wf fun wf => ICalls.mono (icalls_fn (H wf)) fun v h' ⟨h1, h2⟩ => ⟨by rw [h1]; exact hu, fun b o hb => by rw [h2 b (wf b o hb)]; exact hb, h1⟩)) fun v h' ⟨h1, h2⟩ => ⟨h2, h1⟩
end Go.Proofs.Ytfdapegcngmknaa.AM
