/- damFits: for all plain data. Conditions: none. -/
import Derived.Test.YtgfglinlmnbjbaaGreatAmGF
import Derived.Test.YtgfglinlmnbjbaaGreatAmDat2
namespace Go.Proofs.YtgfglinlmnbjbaaGreat.AM
set_option linter.unusedSimpArgs false
set_option linter.unusedVariables false
open Go Go.RowKit
set_option maxRecDepth 100000 in
theorem dt3 {d : Nat} {us : List Value} (h : Dat Tryz.prog (d + 0) 3 us) : ∃ x : Int, us = [(.int .i64 x)] ∧ ((-9223372036854775808 ≤ x ∧ x < 9223372036854775808)) := by
 obtain ⟨n, hn, hw⟩ := dat_int Tryz.underlying3 h
 exact ⟨n, hn, wfi64 hw⟩
set_option maxRecDepth 100000 in
theorem dt68 {d : Nat} {us : List Value} (h : Dat Tryz.prog (d + 1) 68 us) : ∃ x : Int × Int × Int, us = [(.int .i64 x.1), (.int .i64 x.2.1), (.int .i64 x.2.2)] ∧ ((-9223372036854775808 ≤ x.1 ∧ x.1 < 9223372036854775808) ∧ (-9223372036854775808 ≤ x.2.1 ∧ x.2.1 < 9223372036854775808) ∧ (-9223372036854775808 ≤ x.2.2 ∧ x.2.2 < 9223372036854775808)) := by
 obtain ⟨hl, hp⟩ := dat_struct Tryz.underlying68 h
 rw [show Tryz.prog.cellsOf 68 = 3 by kernel_rfl] at hl
 obtain ⟨a0, a1, a2, rfl⟩ : ∃ a0 a1 a2, us = [a0, a1, a2] := by
  match us, hl with
  | [a0, a1, a2], _ => exact ⟨a0, a1, a2, rfl⟩
 have p0 := hp (0, 3) (by simp [fparts])
 rw [show Tryz.prog.cellsOf (0, 3).2 = 1 by kernel_rfl] at p0
 obtain ⟨x0, e0, w0⟩ := dt3 (d := d + 0) (us := [a0]) p0
 cases e0
 have p1 := hp (1, 3) (by simp [fparts])
 rw [show Tryz.prog.cellsOf (1, 3).2 = 1 by kernel_rfl] at p1
 obtain ⟨x1, e1, w1⟩ := dt3 (d := d + 0) (us := [a1]) p1
 cases e1
 have p2 := hp (2, 3) (by simp [fparts])
 rw [show Tryz.prog.cellsOf (2, 3).2 = 1 by kernel_rfl] at p2
 obtain ⟨x2, e2, w2⟩ := dt3 (d := d + 0) (us := [a2]) p2
 cases e2
 exact ⟨(x0, x1, x2), rfl, ⟨w0, w1, w2⟩⟩
set_option maxRecDepth 100000 in
theorem dt22 {d : Nat} {us : List Value} (h : Dat Tryz.prog (d + 2) 22 us) : ∃ x : (List (Int × Int × Int)), us = [(VS 3 (x.map e_III))] ∧ ((x.length ≤ 9223372036854775807 ∧ ∀ y, y ∈ x → (-9223372036854775808 ≤ y.1 ∧ y.1 < 9223372036854775808) ∧ (-9223372036854775808 ≤ y.2.1 ∧ y.2.1 < 9223372036854775808) ∧ (-9223372036854775808 ≤ y.2.2 ∧ y.2.2 < 9223372036854775808))) := by
 obtain ⟨L, rfl, hl, hx⟩ := dat_slice Tryz.underlying22 h
 have hz : Tryz.prog.cellsOf 68 = 3 := by kernel_rfl
 have hg : isAggT Tryz.prog 68 = true := by kernel_rfl
 obtain ⟨M, rfl, hM⟩ := list_mapP (f := fun x : Int × Int × Int => ([(.int .i64 x.1), (.int .i64 x.2.1), (.int .i64 x.2.2)] : List Value)) (p := fun x => (-9223372036854775808 ≤ x.1 ∧ x.1 < 9223372036854775808) ∧ (-9223372036854775808 ≤ x.2.1 ∧ x.2.1 < 9223372036854775808) ∧ (-9223372036854775808 ≤ x.2.2 ∧ x.2.2 < 9223372036854775808)) L (fun x h => dt68 (hx x h))
 refine ⟨M, ?_, by rw [List.length_map] at hl; exact hl, hM⟩
 rw [hz, hg, List.map_map]; rfl
set_option maxRecDepth 100000 in
theorem dt23 {d : Nat} {us : List Value} (h : Dat Tryz.prog (d + 1) 23 us) : ∃ x : Int × Int × Int × Int × Int, us = [(.int .i64 x.1), (.int .i64 x.2.1), (.int .i64 x.2.2.1), (.int .i64 x.2.2.2.1), (.int .i64 x.2.2.2.2)] ∧ ((-9223372036854775808 ≤ x.1 ∧ x.1 < 9223372036854775808) ∧ (-9223372036854775808 ≤ x.2.1 ∧ x.2.1 < 9223372036854775808) ∧ (-9223372036854775808 ≤ x.2.2.1 ∧ x.2.2.1 < 9223372036854775808) ∧ (-9223372036854775808 ≤ x.2.2.2.1 ∧ x.2.2.2.1 < 9223372036854775808) ∧ (-9223372036854775808 ≤ x.2.2.2.2 ∧ x.2.2.2.2 < 9223372036854775808)) := by
 obtain ⟨hl, hp⟩ := dat_array Tryz.underlying23 h
 rw [show Tryz.prog.cellsOf 23 = 5 by kernel_rfl] at hl
 have hz : Tryz.prog.cellsOf 3 = 1 := by kernel_rfl
 obtain ⟨a0, a1, a2, a3, a4, rfl⟩ : ∃ a0 a1 a2 a3 a4, us = [a0, a1, a2, a3, a4] := by
  match us, hl with
  | [a0, a1, a2, a3, a4], _ => exact ⟨a0, a1, a2, a3, a4, rfl⟩
 have p0 := hp (0 * Tryz.prog.cellsOf 3, 3) (by unfold aparts; exact List.mem_map.2 ⟨0, List.mem_range.2 (by omega), rfl⟩)
 simp only [hz] at p0
 obtain ⟨x0, e0, w0⟩ := dt3 (d := d + 0) (us := [a0]) p0
 cases e0
 have p1 := hp (1 * Tryz.prog.cellsOf 3, 3) (by unfold aparts; exact List.mem_map.2 ⟨1, List.mem_range.2 (by omega), rfl⟩)
 simp only [hz] at p1
 obtain ⟨x1, e1, w1⟩ := dt3 (d := d + 0) (us := [a1]) p1
 cases e1
 have p2 := hp (2 * Tryz.prog.cellsOf 3, 3) (by unfold aparts; exact List.mem_map.2 ⟨2, List.mem_range.2 (by omega), rfl⟩)
 simp only [hz] at p2
 obtain ⟨x2, e2, w2⟩ := dt3 (d := d + 0) (us := [a2]) p2
 cases e2
 have p3 := hp (3 * Tryz.prog.cellsOf 3, 3) (by unfold aparts; exact List.mem_map.2 ⟨3, List.mem_range.2 (by omega), rfl⟩)
 simp only [hz] at p3
 obtain ⟨x3, e3, w3⟩ := dt3 (d := d + 0) (us := [a3]) p3
 cases e3
 have p4 := hp (4 * Tryz.prog.cellsOf 3, 3) (by unfold aparts; exact List.mem_map.2 ⟨4, List.mem_range.2 (by omega), rfl⟩)
 simp only [hz] at p4
 obtain ⟨x4, e4, w4⟩ := dt3 (d := d + 0) (us := [a4]) p4
 cases e4
 exact ⟨(x0, x1, x2, x3, x4), rfl, ⟨w0, w1, w2, w3, w4⟩⟩
set_option maxRecDepth 100000 in
theorem dt25 {d : Nat} {us : List Value} (h : Dat Tryz.prog (d + 2) 25 us) : ∃ x : Int × Int × Int × Int × Int × Int, us = [(.int .i64 x.1), (.int .i64 x.2.1), (.int .i64 x.2.2.1), (.int .i64 x.2.2.2.1), (.int .i64 x.2.2.2.2.1), (.int .i64 x.2.2.2.2.2)] ∧ ((-9223372036854775808 ≤ x.1 ∧ x.1 < 9223372036854775808) ∧ (-9223372036854775808 ≤ x.2.1 ∧ x.2.1 < 9223372036854775808) ∧ (-9223372036854775808 ≤ x.2.2.1 ∧ x.2.2.1 < 9223372036854775808) ∧ (-9223372036854775808 ≤ x.2.2.2.1 ∧ x.2.2.2.1 < 9223372036854775808) ∧ (-9223372036854775808 ≤ x.2.2.2.2.1 ∧ x.2.2.2.2.1 < 9223372036854775808) ∧ (-9223372036854775808 ≤ x.2.2.2.2.2 ∧ x.2.2.2.2.2 < 9223372036854775808)) := by
 obtain ⟨hl, hp⟩ := dat_struct Tryz.underlying25 h
 rw [show Tryz.prog.cellsOf 25 = 6 by kernel_rfl] at hl
 obtain ⟨a0, a1, a2, a3, a4, a5, rfl⟩ : ∃ a0 a1 a2 a3 a4 a5, us = [a0, a1, a2, a3, a4, a5] := by
  match us, hl with
  | [a0, a1, a2, a3, a4, a5], _ => exact ⟨a0, a1, a2, a3, a4, a5, rfl⟩
 have p0 := hp (0, 3) (by simp [fparts])
 rw [show Tryz.prog.cellsOf (0, 3).2 = 1 by kernel_rfl] at p0
 obtain ⟨x0, e0, w0⟩ := dt3 (d := d + 1) (us := [a0]) p0
 cases e0
 have p1 := hp (1, 23) (by simp [fparts])
 rw [show Tryz.prog.cellsOf (1, 23).2 = 5 by kernel_rfl] at p1
 obtain ⟨x1, e1, w1⟩ := dt23 (d := d + 0) (us := [a1, a2, a3, a4, a5]) p1
 cases e1
 exact ⟨(x0, x1.1, x1.2.1, x1.2.2.1, x1.2.2.2.1, x1.2.2.2.2), rfl, ⟨w0, w1.1, w1.2.1, w1.2.2.1, w1.2.2.2.1, w1.2.2.2.2⟩⟩
set_option maxRecDepth 100000 in
theorem damFits_all (u0 : Value) (h0 : DatV Tryz.prog 12 22 u0) (u1 : Value) (h1 : DatV Tryz.prog 12 3 u1) (u2 : Value) (h2 : DatV Tryz.prog 12 25 u2) : ICalls E 263 [u0, u1, u2] AHeap.none fun v _ => v = .bool true := by
 obtain ⟨us0, hu0, hd0⟩ := h0
 rw [show isAggT Tryz.prog 22 = false by kernel_rfl] at hu0
 obtain ⟨x0, e0, w0⟩ := dt22 (d := 10) hd0
 subst e0; subst hu0
 obtain ⟨us1, hu1, hd1⟩ := h1
 rw [show isAggT Tryz.prog 3 = false by kernel_rfl] at hu1
 obtain ⟨x1, e1, w1⟩ := dt3 (d := 12) hd1
 subst e1; subst hu1
 obtain ⟨us2, hu2, hd2⟩ := h2
 rw [show isAggT Tryz.prog 25 = true by kernel_rfl] at hu2
 obtain ⟨x2, e2, w2⟩ := dt25 (d := 10) hd2
 subst e2; subst hu2
 exact c263 ((fun _ _ _ => law263) w0 w1 w2)
end Go.Proofs.YtgfglinlmnbjbaaGreat.AM
