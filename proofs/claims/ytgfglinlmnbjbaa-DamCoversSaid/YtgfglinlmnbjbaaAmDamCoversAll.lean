/- damCovers: for all plain data. Conditions: none. -/
import Derived.Test.YtgfglinlmnbjbaaAmW4
import Derived.Test.YtgfglinlmnbjbaaAmDat2
namespace Go.Proofs.Ytgfglinlmnbjbaa.AM
set_option linter.unusedSimpArgs false
set_option linter.unusedVariables false
open Go Go.RowKit

set_option maxRecDepth 100000 in
theorem dt3 {d : Nat} {us : List Value} (h : Dat Try.prog (d + 0) 3 us) : ∃ x : Int, us = [(.int .i64 x)] ∧ ((-9223372036854775808 ≤ x ∧ x < 9223372036854775808)) := by
  obtain ⟨n, hn, hw⟩ := dat_int Try.underlying3 h
  exact ⟨n, hn, wfi64 hw⟩
set_option maxRecDepth 100000 in
theorem dt65 {d : Nat} {us : List Value} (h : Dat Try.prog (d + 1) 65 us) : ∃ x : Int × Int, us = [(.int .i64 x.1), (.int .i64 x.2)] ∧ ((-9223372036854775808 ≤ x.1 ∧ x.1 < 9223372036854775808) ∧ (-9223372036854775808 ≤ x.2 ∧ x.2 < 9223372036854775808)) := by
  obtain ⟨hl, hp⟩ := dat_struct Try.underlying65 h
  rw [show Try.prog.cellsOf 65 = 2 by kernel_rfl] at hl
  obtain ⟨a0, a1, rfl⟩ : ∃ a0 a1, us = [a0, a1] := by
    match us, hl with
    | [a0, a1], _ => exact ⟨a0, a1, rfl⟩
  have p0 := hp (0, 3) (by simp [fparts])
  rw [show Try.prog.cellsOf (0, 3).2 = 1 by kernel_rfl] at p0
  obtain ⟨x0, e0, w0⟩ := dt3 (d := d + 0) (us := [a0]) p0
  cases e0
  have p1 := hp (1, 3) (by simp [fparts])
  rw [show Try.prog.cellsOf (1, 3).2 = 1 by kernel_rfl] at p1
  obtain ⟨x1, e1, w1⟩ := dt3 (d := d + 0) (us := [a1]) p1
  cases e1
  exact ⟨(x0, x1), rfl, ⟨w0, w1⟩⟩
set_option maxRecDepth 100000 in
theorem dt22 {d : Nat} {us : List Value} (h : Dat Try.prog (d + 2) 22 us) : ∃ x : (List (Int × Int)), us = [(VS 2 (x.map e_II))] ∧ ((x.length ≤ 9223372036854775807 ∧ ∀ y, y ∈ x → (-9223372036854775808 ≤ y.1 ∧ y.1 < 9223372036854775808) ∧ (-9223372036854775808 ≤ y.2 ∧ y.2 < 9223372036854775808))) := by
  obtain ⟨L, rfl, hl, hx⟩ := dat_slice Try.underlying22 h
  have hz : Try.prog.cellsOf 65 = 2 := by kernel_rfl
  have hg : isAggT Try.prog 65 = true := by kernel_rfl
  obtain ⟨M, rfl, hM⟩ := list_mapP (f := fun x : Int × Int => ([(.int .i64 x.1), (.int .i64 x.2)] : List Value)) (p := fun x => (-9223372036854775808 ≤ x.1 ∧ x.1 < 9223372036854775808) ∧ (-9223372036854775808 ≤ x.2 ∧ x.2 < 9223372036854775808)) L (fun x h => dt65 (hx x h))
  refine ⟨M, ?_, by rw [List.length_map] at hl; exact hl, hM⟩
  rw [hz, hg, List.map_map]; rfl
set_option maxRecDepth 100000 in
theorem dt23 {d : Nat} {us : List Value} (h : Dat Try.prog (d + 1) 23 us) : ∃ x : (List Int), us = [(VS 1 (x.map eI))] ∧ ((x.length ≤ 9223372036854775807 ∧ ∀ y, y ∈ x → (-9223372036854775808 ≤ y ∧ y < 9223372036854775808))) := by
  obtain ⟨L, rfl, hl, hx⟩ := dat_slice Try.underlying23 h
  have hz : Try.prog.cellsOf 3 = 1 := by kernel_rfl
  have hg : isAggT Try.prog 3 = false := by kernel_rfl
  obtain ⟨M, rfl, hM⟩ := list_mapP (f := fun x : Int => ([(.int .i64 x)] : List Value)) (p := fun x => (-9223372036854775808 ≤ x ∧ x < 9223372036854775808)) L (fun x h => dt3 (hx x h))
  refine ⟨M, ?_, by rw [List.length_map] at hl; exact hl, hM⟩
  rw [hz, hg, List.map_map]; rfl
set_option maxRecDepth 100000 in
theorem dt25 {d : Nat} {us : List Value} (h : Dat Try.prog (d + 3) 25 us) : ∃ x : (List (Int × Int)) × (List Int), us = [(VS 2 (x.1.map e_II)), (VS 1 (x.2.map eI))] ∧ ((x.1.length ≤ 9223372036854775807 ∧ ∀ y, y ∈ x.1 → (-9223372036854775808 ≤ y.1 ∧ y.1 < 9223372036854775808) ∧ (-9223372036854775808 ≤ y.2 ∧ y.2 < 9223372036854775808)) ∧ (x.2.length ≤ 9223372036854775807 ∧ ∀ y, y ∈ x.2 → (-9223372036854775808 ≤ y ∧ y < 9223372036854775808))) := by
  obtain ⟨hl, hp⟩ := dat_struct Try.underlying25 h
  rw [show Try.prog.cellsOf 25 = 2 by kernel_rfl] at hl
  obtain ⟨a0, a1, rfl⟩ : ∃ a0 a1, us = [a0, a1] := by
    match us, hl with
    | [a0, a1], _ => exact ⟨a0, a1, rfl⟩
  have p0 := hp (0, 22) (by simp [fparts])
  rw [show Try.prog.cellsOf (0, 22).2 = 1 by kernel_rfl] at p0
  obtain ⟨x0, e0, w0⟩ := dt22 (d := d + 0) (us := [a0]) p0
  cases e0
  have p1 := hp (1, 23) (by simp [fparts])
  rw [show Try.prog.cellsOf (1, 23).2 = 1 by kernel_rfl] at p1
  obtain ⟨x1, e1, w1⟩ := dt23 (d := d + 1) (us := [a1]) p1
  cases e1
  exact ⟨(x0, x1), rfl, ⟨w0, w1⟩⟩
set_option maxRecDepth 100000 in
theorem damCovers_all (u0 : Value) (h0 : DatV Try.prog 12 25 u0) : ICalls E 4 [u0] AHeap.none fun v _ => v = .bool true := by
  obtain ⟨us0, hu0, hd0⟩ := h0
  rw [show isAggT Try.prog 25 = true by kernel_rfl] at hu0
  obtain ⟨x0, e0, w0⟩ := dt25 (d := 9) hd0
  subst e0; subst hu0
  exact c4 ((fun _ => law4) w0)
end Go.Proofs.Ytgfglinlmnbjbaa.AM
