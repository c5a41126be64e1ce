/- Contracts that are given to the lifting of others. Conditions: none. -/
import Derived.Test.YtacgibkgojnfeaaAmDet
import Derived.Test.YtacgibkgojnfeaaAmAwake
import Derived.Test.YtacgibkgojnfeaaAmLift5
namespace Go.Proofs.Ytacgibkgojnfeaa.AM
set_option linter.unusedSimpArgs false
set_option linter.unusedVariables false
open Go Go.RowKit
attribute [local irreducible] ICallV ICalls Recast rng
noncomputable def f50 : Option Bool := some true
theorem c50 {x : Bool} (H : f50 = some x) : ICalls E 50 [] AHeap.none fun v _ => v = .bool x := by
  cases H; exact awake
abbrev e_III (x : Int × Int × Int) : Value := .agg ⟨[(.int .i64 x.1), (.int .i64 x.2.1), (.int .i64 x.2.2)]⟩
instance {x : Int × Int × Int} : Cl (e_III x) := inferInstanceAs (Cl (.agg ⟨[(.int .i64 x.1), (.int .i64 x.2.1), (.int .i64 x.2.2)]⟩))
instance : Sz e_III 3 where
  sz _ := rfl
  one x u hu := by
    replace hu : u ∈ [Value.int .i64 x.1, .int .i64 x.2.1, .int .i64 x.2.2] := hu
    simp only [List.mem_cons, List.not_mem_nil, or_false] at hu
    rcases hu with rfl | rfl | rfl <;> rfl
  agg _ := rfl
  cl x u hu := by
    replace hu : u ∈ [Value.int .i64 x.1, .int .i64 x.2.1, .int .i64 x.2.2] := hu
    exact ClL.out (l := [Value.int .i64 x.1, .int .i64 x.2.1, .int .i64 x.2.2]) u hu
/-- CopyReadings, as a block of its own. -/
def f53s (l : List (Int × Int × Int)) : Option (List (Int × Int × Int)) := ogrd (fits 24 l.length) (some l)
theorem c53s {l x : List (Int × Int × Int)} (H : f53s l = some x) : ICalls E 53 [VS 3 (l.map e_III)] AHeap.none fun v h' => ∃ b, v = .slice (some ⟨b, 0, none⟩) x.length 4 ∧ h'.get b = some (.rw (flat (x.map e_III))) := by
  unfold f53s at H
  obtain ⟨hf, H⟩ := ogrd_some H
  injection H with H; subst H
  refine ICalls.modeH (m := true) ?_
  obtain ⟨h1, h2, _⟩ := fits_o (P := True) (v := ()) (x := some ()) (b := 24) (m := 0 + (l.map e_III).length) (n := l.length) (by rw [hf]; rfl) (by simp) (fun _ => trivial)
  refine icalls_fn (pfnw ?_); (conv=>whnf); refine pw_so ?_; refine po_all ?_; (conv=>whnf)
  refine pw_so ?_; refine po_all ?_; (conv=>whnf)
  refine ⟨h1, h2, ?_⟩
  cases l with
  | nil =>
    refine .inr ⟨rfl, by omega, by simp, ⟨fun _ => ?_, fun he => by cases he⟩⟩
    (conv=>whnf); refine pw_ret ?_; (conv=>whnf)
    exact ⟨0, rfl, rfl⟩
  | cons a r =>
    refine .inl ⟨rfl, rfl, by simp, ?_⟩
    rw [pput_eq, fS_eq]
    (conv=>whnf); refine pw_ret ?_; (conv=>whnf)
    exact ⟨1, by simp [mkSl], rfl⟩
end Go.Proofs.Ytacgibkgojnfeaa.AM
