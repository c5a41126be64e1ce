/- From a contract to a call from the outside. Conditions: none. -/
import Derived.Test.YtjnpdnlgkepmcaaAmStep
import Derived.Below
namespace Go.Proofs.Ytjnpdnlgkepmcaa.AM
set_option linter.unusedSimpArgs false
set_option linter.unusedVariables false
open Go Go.RowKit
theorem run_call {E : Env} {k : Nat} {F : IFn} [H : Has E k F] (vs : List Value) (w : World) :
   ((do let d ← Deferred.ofValue (.func (.func (E.id k)) #[] #[]) vs.toArray; invoke d.target d.args) : Sem Next).run E.P w = .ok (.enter (E.id k) vs.toArray) w := by
 have hfn := H.is
 unfold cfn at hfn
 split at hfn
 · rename_i fn hfu
   split at hfn
   · rename_i code hbd
     split at hfn
     · simp at hfn
     · rename_i hname
       have hname' : (fn.name == "runtime.NumGoroutine") = false := by simpa using hname
       simp only [Deferred.ofValue, Sem.run_bind, Sem.run_pure, Result.andThen, invoke, callFunc, run_program, hfu, hname', hbd, Bool.false_eq_true, if_false, Option.isNone_some]
       simp
   · simp at hfn
 · simp at hfn
def baseI (w : World) (hg : GW w) : Iota := ⟨fun _ => ⟨0, 0, 0⟩, fun _ => ⟨0, 0, 0, 0, true⟩, fun r i => w.cell? ⟨r, i, Option.none⟩, hg⟩
theorem gb0 (h : TBLS = []) (w : World) : GB w := fun x hx => by rw [h] at hx; cases hx
theorem gw0 (h : TBL = []) (w : World) : GW w := fun x hx => by rw [h] at hx; cases hx
theorem calls_of {E : Env} {k : Nat} {F : IFn} [H : Has E k F] {us vs : List Value} {u : Value} {w : World} (hc : ICalls E k us AHeap.none fun v _ => v = u) (hu : vrcD u = true) (hg : GW w) (hb : GB w)
  (hv : VRL (baseI w hg) 0 us vs) : Calls E.P (E.id k) vs.toArray w fun e w' => e = .returned u ∧ Below w.heap.size w w' := by
 obtain ⟨nx, w1, h1, h2, h3, h4⟩ := hc _ w _ vs (.bare (fun _ _ _ h => h) hb) (.func (E.id k) #[] #[] #[] #[] rfl (by simp) rfl (by simp)) hv
 rw [run_call vs w] at h1
 injection h1 with h5 h6
 subst h5
 subst h6
 refine callsIn_wide.1 (CallsIn.mono h4 ?_)
 rintro e w' ⟨ι', x, v, h', rfl, rfl, hvr, R', X'⟩
 have := vrcD_id hu hvr
 subst this
 exact ⟨rfl, X'.os, X'.tape, X'.output, X'.size, fun r hr => (X'.frame r hr none_mut).1⟩
end Go.Proofs.Ytjnpdnlgkepmcaa.AM
