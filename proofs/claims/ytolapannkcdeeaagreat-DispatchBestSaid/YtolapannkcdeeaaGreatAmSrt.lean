/- slices.Sort and slices.Compact of numbers, in place. Conditions: none. -/
import Derived.Test.YtolapannkcdeeaaGreatAmPut
import Derived.Test.YtolapannkcdeeaaGreatAmHas
import Derived.Test.YtolapannkcdeeaaGreatAmShf
namespace Go.Proofs.YtolapannkcdeeaaGreat.AM
set_option linter.unusedSimpArgs false
set_option linter.unusedVariables false
open Go Go.RowKit Go.Sort
theorem entSrt : Go.Proofs.Enters E.P 54 := by
 show Go.Proofs.Enters Tryz.prog 54
 exact Go.Proofs.enters_of Tryz.func54 (by kernel_rfl) rfl
theorem entCmp : Go.Proofs.Enters E.P 55 := by
 show Go.Proofs.Enters Tryz.prog 55
 exact Go.Proofs.enters_of Tryz.func55 (by kernel_rfl) rfl
theorem sort_nil {h : AHeap} {k : Value → AHeap → Prop} (K : k (.tuple #[]) h) : PCalls E 103 [.slice none 0 0] h k := by
 refine ⟨ICalls.extH (f := 54) (by kernel_rfl) entSrt fun ι w vs R hl => ?_⟩
 obtain ⟨v, rfl, h1⟩ := vrl_one hl
 cases h1
 refine (Tryz.slices_Sort_int_none none 0 w).mono ?_
 rintro e w' ⟨rfl, rfl⟩
 exact ⟨ι, _, _, h, rfl, K, vr_tup0, R, Ext.refl _ _ _⟩
theorem sort_o {l : List Int} {n b c : Nat} {h : AHeap} {k : Value → AHeap → Prop} (hg : h.get b = some (.rw (l.map eI))) (hn : Nat.beq n l.length = true) (hs : Nat.blt l.length 4611686018427387904 = true)
    (K : k (.tuple #[]) (h.put b (.rw ((srt l).map eI)))) : PCalls E 103 [.slice (some ⟨b, 0, none⟩) n c] h k := by
  obtain rfl := Nat.eq_of_beq_eq_true hn
  rw [Nat.blt_eq] at hs
  refine ⟨ICalls.extH (f := 54) (by kernel_rfl) entSrt fun ι w vs R hl => ?_⟩
  obtain ⟨v, rfl, h1⟩ := vrl_one hl
  have hblt := R.real b _ _ hg rfl
  cases h1 with
  | slice _ _ _ _ a' c' hb ha hn hc hr =>
    by_cases h0 : c' = 0
    · obtain rfl : l = [] := List.eq_nil_of_length_eq_zero (by omega)
      refine (Tryz.slices_Sort_int_none (some a') c' w).mono ?_
      rintro e w' ⟨rfl, rfl⟩
      rw [show srt [] = [] from List.eq_nil_of_length_eq_zero srt_length, put_same hg] at K
      exact ⟨ι, _, _, h, rfl, K, vr_tup0, R, Ext.refl _ _ _⟩
    · obtain rfl := ha.resolve_left h0
      refine (Tryz.slices_Sort_int (ι b).r ((ι b).f + 0) c' l w (holds_row R hg) hblt hs).mono ?_
      rintro e w' ⟨rfl, m, os, rfl⟩
      obtain ⟨R1, X1⟩ := R.putRow (l2 := srt l) (l3 := srt l) hg srt_length (List.prefix_refl _)
      obtain ⟨R2, X2⟩ := R1.ahead_grow m os
      exact ⟨ι, _, _, _, rfl, K, vr_tup0, R2, X1.trans X2⟩
theorem compact_nil {h : AHeap} {k : Value → AHeap → Prop} (K : k (.slice none 0 0) h) : PCalls E 248 [.slice none 0 0] h k := by
 refine ⟨ICalls.extH (f := 55) (by kernel_rfl) entCmp fun ι w vs R hl => ?_⟩
 obtain ⟨v, rfl, h1⟩ := vrl_one hl
 cases h1
 refine (Tryz.slices_Compact_int_empty none 0 w).mono ?_
 rintro e w' ⟨rfl, rfl⟩
 exact ⟨ι, _, _, h, rfl, K, .nilslice, R, Ext.refl _ _ _⟩
theorem compact_le {l : List Int} : (Lib.compact l).length ≤ l.length := by
 unfold Lib.compact Lib.compactUpTo
 rw [List.length_map]
 exact Nat.le_trans (List.length_filter_le ..) (by simp)
theorem compact_o {l : List Int} {n b c : Nat} {h : AHeap} {k : Value → AHeap → Prop} (hg : h.get b = some (.rw (l.map eI))) (hn : Nat.beq n l.length = true) (hs : Nat.blt l.length 4611686018427387904 = true)
    (K : k (.slice (some ⟨b, 0, none⟩) (Lib.compact l).length 1) (h.put b (.rw ((Lib.compact l).map eI)))) : PCalls E 248 [.slice (some ⟨b, 0, none⟩) n c] h k := by
  obtain rfl := Nat.eq_of_beq_eq_true hn
  rw [Nat.blt_eq] at hs
  refine ⟨ICalls.extH (f := 55) (by kernel_rfl) entCmp fun ι w vs R hl => ?_⟩
  obtain ⟨v, rfl, h1⟩ := vrl_one hl
  have hblt := R.real b _ _ hg rfl
  cases h1 with
  | slice _ _ _ _ a' c' hb ha hn hc hr =>
    by_cases h0 : c' = 0
    · obtain rfl : l = [] := List.eq_nil_of_length_eq_zero (by omega)
      refine (Tryz.slices_Compact_int_empty (some a') c' w).mono ?_
      rintro e w' ⟨rfl, rfl⟩
      rw [show Lib.compact [] = [] from List.eq_nil_of_length_eq_zero (by have := compact_le (l := []); simpa using this), put_same hg] at K
      exact ⟨ι, _, _, h, rfl, K, .slice _ _ _ _ a' c' hb ha (by simp) (fun h => by cases h) (fun z h => by omega), R, Ext.refl _ _ _⟩
    · obtain rfl := ha.resolve_left h0
      refine (Tryz.slices_Compact_int (ι b).r ((ι b).f + 0) c' l w (holds_row R hg) (by omega) hn).mono ?_
      rintro e w' ⟨rfl, m, rfl⟩
      have hle := compact_le (l := l)
      obtain ⟨R1, X1⟩ := R.putRow (l2 := Lib.compact l ++ List.replicate (l.length - (Lib.compact l).length) 0) (l3 := Lib.compact l) hg (by simp; omega) (List.prefix_append _ _)
      obtain ⟨R2, X2⟩ := R1.ahead_grow m #[]
      have e2 : ∀ w : World, grow w #[] = w := fun w => by cases w; simp [grow]
      rw [e2] at R2 X2
      exact ⟨ι, _, _, _, rfl, K, .slice _ _ _ _ _ c' (by simpa using hb) (.inr rfl) (by omega) (fun h => by cases h) (fun z h => by omega), R2, X1.trans X2⟩
end Go.Proofs.YtolapannkcdeeaaGreat.AM
