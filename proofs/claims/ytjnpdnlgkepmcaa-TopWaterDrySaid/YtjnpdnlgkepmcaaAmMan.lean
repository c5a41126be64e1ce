/- Contracts that are given to the lifting of others. Conditions: none. -/
import Derived.Test.YtjnpdnlgkepmcaaAmWk
import Derived.Test.YtjnpdnlgkepmcaaAmWp
namespace Go.Proofs.Ytjnpdnlgkepmcaa.AM
set_option linter.unusedSimpArgs false
set_option linter.unusedVariables false
open Go Go.RowKit
theorem awake_run : @Wk.f475 fuelLO = some true := by kernel_rfl
noncomputable def f475 : Option Bool := some true
theorem c475 {x : Bool} (H : f475 = some x) : ICalls E 475 [] AHeap.none fun v _ => v = .bool x := by
 cases H; exact @Wk.c475 fuelLO _ awake_run
theorem clip_sev {t : List (Nat × Value)} {h : AHeap} {x hi mx : Opd} {es : List Value} (hx : (St.mk t h).ev E x = some (VS 1 es)) (h1 : (St.mk t h).ev E hi = some (.int .i64 es.length)) (h2 : (St.mk t h).ev E mx = some (.int .i64 es.length)) :
  sev E ⟨t, h⟩ 1 x none (some hi) (some mx) = some (VT 1 es h.next, h.alloc (.tail es.length 0)) := by
 unfold sev
 simp [hx, vsl, VS, bnd, h1, h2]
def f514 (l : List Int) : Option (List Int) := some l
theorem c514 {l x : List Int} (H : f514 l = some x) : ICalls E 514 [VS 1 (l.map eI)] AHeap.none fun v h' => ∃ b n, v = VT 1 (x.map eI) b ∧ n = (x.map eI).length ∧ h'.get b = some (.tail n 0) := by
 injection H with H; subst H
 refine icalls_fn ⟨by simp [ir514], ?_⟩
 (conv => whnf)
 refine ⟨_, .refl, ?_⟩
 (conv => whnf)
 refine .inr (obind_iff.2 ⟨(VT 1 (l.map eI) AHeap.none.next, AHeap.none.alloc (.tail (l.map eI).length 0)), ?_, ?_⟩)
 · exact clip_sev rfl rfl rfl
 · (conv => whnf)
   refine ⟨_, .refl, ?_⟩
   (conv => whnf)
   exact ⟨0, _, rfl, rfl, rfl⟩
def f73 (l : List Int) : Option (List Int) := ogrd (fits 8 (([] : List Int).length + l.length)) (some (([] : List Int) ++ l))
theorem c73 {l : List Int} {x : List Int} (H : f73 l = some x) : ICalls E 73 [VS 1 (l.map eI)] AHeap.none fun v _ => v = VS 1 (x.map eI) := by
  unfold f73 at H
  cases l with
  | nil =>
    have hx : x = [] := by
      obtain ⟨_, H⟩ := ogrd_some H
      simpa using H.symm
    subst hx
    refine ICalls.empty ?_ ?_
    · refine ICalls.frz ?_; refine icalls_fn (pfnw ?_);(conv=>whnf);refine pw_so ?_;refine po_all ?_;(conv=>whnf);refine pw_seq ?_;refine pw_so ?_;refine po_all ?_;(conv=>whnf);refine pw_cond ?_;(conv=>whnf);refine pw_so ?_;refine po_all ?_;(conv=>whnf);refine pw_ret ?_;(conv=>whnf)
      exact ⟨fun _ => false, .nil _⟩
    · refine ICalls.frz ?_; refine icalls_fn (pfnw ?_);(conv=>whnf);refine pw_so ?_;refine po_all ?_;(conv=>whnf);refine pw_seq ?_;refine pw_so ?_;refine po_all ?_;(conv=>whnf);refine pw_cond ?_;(conv=>whnf);refine pw_skip ?_;(conv=>whnf);refine pw_so ?_;refine po_all ?_;(conv=>whnf)
      refine app_o (l := ([] : List Int)) (m := []) (f := eI) H (by rfl) (by rfl) (by rfl) (fun H => ?_);(conv=>whnf);refine pw_ret ?_;(conv=>whnf)
      exact ⟨fun _ => false, .vtc⟩
  | cons a r =>
    refine ICalls.frz ?_; refine icalls_fn (pfnw ?_);(conv=>whnf);refine pw_so ?_;refine po_all ?_;(conv=>whnf);refine pw_seq ?_;refine pw_so ?_;refine po_all ?_;(conv=>whnf);refine pw_cond ?_;(conv=>whnf);refine pw_skip ?_;(conv=>whnf);refine pw_so ?_;refine po_all ?_;(conv=>whnf)
    refine app_o (l := ([] : List Int)) (m := a :: r) (f := eI) H (by rfl) (by rfl) (by rfl) (fun H => ?_);(conv=>whnf);refine pw_ret ?_;(conv=>whnf)
    cases H
    exact ⟨fun _ => false, .vtc⟩
end Go.Proofs.Ytjnpdnlgkepmcaa.AM
