/- slices.Sort of numbers, in place. Conditions: none. -/
import Derived.Test.YtgfglinlmnbjbaaAmWp
import Derived.Test.YtgfglinlmnbjbaaAmHas
import Derived.Test.YtgfglinlmnbjbaaAmShf
namespace Go.Proofs.Ytgfglinlmnbjbaa.AM
set_option linter.unusedSimpArgs false
set_option linter.unusedVariables false
open Go Go.RowKit Go.Sort
theorem entSrt : Go.Proofs.Enters E.P 53 := by
  show Go.Proofs.Enters Try.prog 53
  exact Go.Proofs.enters_of Try.func53 (by kernel_rfl) rfl
theorem sort_nil {h : AHeap} {k : Value → AHeap → Prop} (K : k (.tuple #[]) h) : PCalls E 103 [.slice none 0 0] h k := by
  refine ⟨ICalls.extH (f := 53) (by kernel_rfl) entSrt fun ι w vs R hl => ?_⟩
  obtain ⟨v, rfl, h1⟩ := vrl_one hl
  cases h1
  refine (Try.slices_Sort_int_none none 0 w).mono ?_
  rintro e w' ⟨rfl, rfl⟩
  exact ⟨ι, _, _, h, rfl, K, vr_tup0, R, Ext.refl _ _ _⟩
theorem sort_o {l : List Int} {n b c : Nat} {h : AHeap} {k : Value → AHeap → Prop} (hg : h.get b = some (.rw (l.map eI))) (hn : Nat.beq n l.length = true) (hs : Nat.blt l.length 4611686018427387904 = true)
    (K : k (.tuple #[]) (h.put b (.rw ((srt l).map eI)))) : PCalls E 103 [.slice (some ⟨b, 0, none⟩) n c] h k := by
  obtain rfl := Nat.eq_of_beq_eq_true hn
  rw [Nat.blt_eq] at hs
  refine ⟨ICalls.extH (f := 53) (by kernel_rfl) entSrt fun ι w vs R hl => ?_⟩
  obtain ⟨v, rfl, h1⟩ := vrl_one hl
  have hblt := R.real b _ _ hg rfl
  cases h1 with
  | slice _ _ _ _ a' c' hb ha hn hc hr =>
    by_cases h0 : c' = 0
    · obtain rfl : l = [] := List.eq_nil_of_length_eq_zero (by omega)
      refine (Try.slices_Sort_int_none (some a') c' w).mono ?_
      rintro e w' ⟨rfl, rfl⟩
      rw [show srt [] = [] from List.eq_nil_of_length_eq_zero srt_length, put_same hg] at K
      exact ⟨ι, _, _, h, rfl, K, vr_tup0, R, Ext.refl _ _ _⟩
    · obtain rfl := ha.resolve_left h0
      refine (Try.slices_Sort_int (ι b).r ((ι b).f + 0) c' l w (holds_row R hg) hblt hs).mono ?_
      rintro e w' ⟨rfl, m, os, rfl⟩
      obtain ⟨R1, X1⟩ := R.putRow (l2 := srt l) (l3 := srt l) hg srt_length (List.prefix_refl _)
      obtain ⟨R2, X2⟩ := R1.ahead_grow m os
      exact ⟨ι, _, _, _, rfl, K, vr_tup0, R2, X1.trans X2⟩
end Go.Proofs.Ytgfglinlmnbjbaa.AM
