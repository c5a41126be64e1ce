/- dispatchBest: for all plain data. Conditions: none. -/
import Derived.Test.YtolapannkcdeeaaGreatAmBV
import Derived.Test.YtolapannkcdeeaaGreatAmDat2
namespace Go.Proofs.YtolapannkcdeeaaGreat.AM
set_option linter.unusedSimpArgs false
set_option linter.unusedVariables false
open Go Go.RowKit
set_option maxRecDepth 100000 in
theorem dt3 {d : Nat} {us : List Value} (h : Dat Tryz.prog (d + 0) 3 us) : ∃ x : Int, us = [(.int .i64 x)] ∧ ((-9223372036854775808 ≤ x ∧ x < 9223372036854775808)) := by
 obtain ⟨n, hn, hw⟩ := dat_int Tryz.underlying3 h
 exact ⟨n, hn, wfi64 hw⟩
set_option maxRecDepth 100000 in
theorem dt9 {d : Nat} {us : List Value} (h : Dat Tryz.prog (d + 0) 9 us) : ∃ x : ByteArray, us = [(.string x)] ∧ ((x.size ≤ 9223372036854775807)) := by
 obtain ⟨s, hs, hl⟩ := dat_string Tryz.underlying9 h
 exact ⟨s, hs, hl⟩
set_option maxRecDepth 100000 in
theorem dt59 {d : Nat} {us : List Value} (h : Dat Tryz.prog (d + 1) 59 us) : ∃ x : ByteArray × Int × Int × Int, us = [(.string x.1), (.int .i64 x.2.1), (.int .i64 x.2.2.1), (.int .i64 x.2.2.2)] ∧ ((x.1.size ≤ 9223372036854775807) ∧ (-9223372036854775808 ≤ x.2.1 ∧ x.2.1 < 9223372036854775808) ∧ (-9223372036854775808 ≤ x.2.2.1 ∧ x.2.2.1 < 9223372036854775808) ∧ (-9223372036854775808 ≤ x.2.2.2 ∧ x.2.2.2 < 9223372036854775808)) := by
 obtain ⟨hl, hp⟩ := dat_struct Tryz.underlying59 h
 rw [show Tryz.prog.cellsOf 59 = 4 by kernel_rfl] at hl
 obtain ⟨a0, a1, a2, a3, rfl⟩ : ∃ a0 a1 a2 a3, us = [a0, a1, a2, a3] := by
  match us, hl with
  | [a0, a1, a2, a3], _ => exact ⟨a0, a1, a2, a3, rfl⟩
 have p0 := hp (0, 9) (by simp [fparts])
 rw [show Tryz.prog.cellsOf (0, 9).2 = 1 by kernel_rfl] at p0
 obtain ⟨x0, e0, w0⟩ := dt9 (d := d + 0) (us := [a0]) p0
 cases e0
 have p1 := hp (1, 3) (by simp [fparts])
 rw [show Tryz.prog.cellsOf (1, 3).2 = 1 by kernel_rfl] at p1
 obtain ⟨x1, e1, w1⟩ := dt3 (d := d + 0) (us := [a1]) p1
 cases e1
 have p2 := hp (2, 3) (by simp [fparts])
 rw [show Tryz.prog.cellsOf (2, 3).2 = 1 by kernel_rfl] at p2
 obtain ⟨x2, e2, w2⟩ := dt3 (d := d + 0) (us := [a2]) p2
 cases e2
 have p3 := hp (3, 3) (by simp [fparts])
 rw [show Tryz.prog.cellsOf (3, 3).2 = 1 by kernel_rfl] at p3
 obtain ⟨x3, e3, w3⟩ := dt3 (d := d + 0) (us := [a3]) p3
 cases e3
 exact ⟨(x0, x1, x2, x3), rfl, ⟨w0, w1, w2, w3⟩⟩
set_option maxRecDepth 100000 in
theorem dt22 {d : Nat} {us : List Value} (h : Dat Tryz.prog (d + 2) 22 us) : ∃ x : (List (ByteArray × Int × Int × Int)), us = [(VS 4 (x.map e_SIII))] ∧ ((x.length ≤ 9223372036854775807 ∧ ∀ y, y ∈ x → (y.1.size ≤ 9223372036854775807) ∧ (-9223372036854775808 ≤ y.2.1 ∧ y.2.1 < 9223372036854775808) ∧ (-9223372036854775808 ≤ y.2.2.1 ∧ y.2.2.1 < 9223372036854775808) ∧ (-9223372036854775808 ≤ y.2.2.2 ∧ y.2.2.2 < 9223372036854775808))) := by
 obtain ⟨L, rfl, hl, hx⟩ := dat_slice Tryz.underlying22 h
 have hz : Tryz.prog.cellsOf 59 = 4 := by kernel_rfl
 have hg : isAggT Tryz.prog 59 = true := by kernel_rfl
 obtain ⟨M, rfl, hM⟩ := list_mapP (f := fun x : ByteArray × Int × Int × Int => ([(.string x.1), (.int .i64 x.2.1), (.int .i64 x.2.2.1), (.int .i64 x.2.2.2)] : List Value)) (p := fun x => (x.1.size ≤ 9223372036854775807) ∧ (-9223372036854775808 ≤ x.2.1 ∧ x.2.1 < 9223372036854775808) ∧ (-9223372036854775808 ≤ x.2.2.1 ∧ x.2.2.1 < 9223372036854775808) ∧ (-9223372036854775808 ≤ x.2.2.2 ∧ x.2.2.2 < 9223372036854775808)) L (fun x h => dt59 (hx x h))
 refine ⟨M, ?_, by rw [List.length_map] at hl; exact hl, hM⟩
 rw [hz, hg, List.map_map]; rfl
set_option maxRecDepth 100000 in
theorem dt24 {d : Nat} {us : List Value} (h : Dat Tryz.prog (d + 3) 24 us) : ∃ x : Int × Int × (List (ByteArray × Int × Int × Int)), us = [(.int .i64 x.1), (.int .i64 x.2.1), (VS 4 (x.2.2.map e_SIII))] ∧ ((-9223372036854775808 ≤ x.1 ∧ x.1 < 9223372036854775808) ∧ (-9223372036854775808 ≤ x.2.1 ∧ x.2.1 < 9223372036854775808) ∧ (x.2.2.length ≤ 9223372036854775807 ∧ ∀ y, y ∈ x.2.2 → (y.1.size ≤ 9223372036854775807) ∧ (-9223372036854775808 ≤ y.2.1 ∧ y.2.1 < 9223372036854775808) ∧ (-9223372036854775808 ≤ y.2.2.1 ∧ y.2.2.1 < 9223372036854775808) ∧ (-9223372036854775808 ≤ y.2.2.2 ∧ y.2.2.2 < 9223372036854775808))) := by
 obtain ⟨hl, hp⟩ := dat_struct Tryz.underlying24 h
 rw [show Tryz.prog.cellsOf 24 = 3 by kernel_rfl] at hl
 obtain ⟨a0, a1, a2, rfl⟩ : ∃ a0 a1 a2, us = [a0, a1, a2] := by
  match us, hl with
  | [a0, a1, a2], _ => exact ⟨a0, a1, a2, rfl⟩
 have p0 := hp (0, 3) (by simp [fparts])
 rw [show Tryz.prog.cellsOf (0, 3).2 = 1 by kernel_rfl] at p0
 obtain ⟨x0, e0, w0⟩ := dt3 (d := d + 2) (us := [a0]) p0
 cases e0
 have p1 := hp (1, 3) (by simp [fparts])
 rw [show Tryz.prog.cellsOf (1, 3).2 = 1 by kernel_rfl] at p1
 obtain ⟨x1, e1, w1⟩ := dt3 (d := d + 2) (us := [a1]) p1
 cases e1
 have p2 := hp (2, 22) (by simp [fparts])
 rw [show Tryz.prog.cellsOf (2, 22).2 = 1 by kernel_rfl] at p2
 obtain ⟨x2, e2, w2⟩ := dt22 (d := d + 0) (us := [a2]) p2
 cases e2
 exact ⟨(x0, x1, x2), rfl, ⟨w0, w1, w2⟩⟩
set_option maxRecDepth 100000 in
theorem dt80 {d : Nat} {us : List Value} (h : Dat Tryz.prog (d + 1) 80 us) : ∃ x : Int × Int × Int, us = [(.int .i64 x.1), (.int .i64 x.2.1), (.int .i64 x.2.2)] ∧ ((-9223372036854775808 ≤ x.1 ∧ x.1 < 9223372036854775808) ∧ (-9223372036854775808 ≤ x.2.1 ∧ x.2.1 < 9223372036854775808) ∧ (-9223372036854775808 ≤ x.2.2 ∧ x.2.2 < 9223372036854775808)) := by
 obtain ⟨hl, hp⟩ := dat_struct Tryz.underlying80 h
 rw [show Tryz.prog.cellsOf 80 = 3 by kernel_rfl] at hl
 obtain ⟨a0, a1, a2, rfl⟩ : ∃ a0 a1 a2, us = [a0, a1, a2] := by
  match us, hl with
  | [a0, a1, a2], _ => exact ⟨a0, a1, a2, rfl⟩
 have p0 := hp (0, 3) (by simp [fparts])
 rw [show Tryz.prog.cellsOf (0, 3).2 = 1 by kernel_rfl] at p0
 obtain ⟨x0, e0, w0⟩ := dt3 (d := d + 0) (us := [a0]) p0
 cases e0
 have p1 := hp (1, 3) (by simp [fparts])
 rw [show Tryz.prog.cellsOf (1, 3).2 = 1 by kernel_rfl] at p1
 obtain ⟨x1, e1, w1⟩ := dt3 (d := d + 0) (us := [a1]) p1
 cases e1
 have p2 := hp (2, 3) (by simp [fparts])
 rw [show Tryz.prog.cellsOf (2, 3).2 = 1 by kernel_rfl] at p2
 obtain ⟨x2, e2, w2⟩ := dt3 (d := d + 0) (us := [a2]) p2
 cases e2
 exact ⟨(x0, x1, x2), rfl, ⟨w0, w1, w2⟩⟩
set_option maxRecDepth 100000 in
theorem dt25 {d : Nat} {us : List Value} (h : Dat Tryz.prog (d + 2) 25 us) : ∃ x : (List (Int × Int × Int)), us = [(VS 3 (x.map e_III))] ∧ ((x.length ≤ 9223372036854775807 ∧ ∀ y, y ∈ x → (-9223372036854775808 ≤ y.1 ∧ y.1 < 9223372036854775808) ∧ (-9223372036854775808 ≤ y.2.1 ∧ y.2.1 < 9223372036854775808) ∧ (-9223372036854775808 ≤ y.2.2 ∧ y.2.2 < 9223372036854775808))) := by
 obtain ⟨L, rfl, hl, hx⟩ := dat_slice Tryz.underlying25 h
 have hz : Tryz.prog.cellsOf 80 = 3 := by kernel_rfl
 have hg : isAggT Tryz.prog 80 = true := by kernel_rfl
 obtain ⟨M, rfl, hM⟩ := list_mapP (f := fun x : Int × Int × Int => ([(.int .i64 x.1), (.int .i64 x.2.1), (.int .i64 x.2.2)] : List Value)) (p := fun x => (-9223372036854775808 ≤ x.1 ∧ x.1 < 9223372036854775808) ∧ (-9223372036854775808 ≤ x.2.1 ∧ x.2.1 < 9223372036854775808) ∧ (-9223372036854775808 ≤ x.2.2 ∧ x.2.2 < 9223372036854775808)) L (fun x h => dt80 (hx x h))
 refine ⟨M, ?_, by rw [List.length_map] at hl; exact hl, hM⟩
 rw [hz, hg, List.map_map]; rfl
set_option maxRecDepth 100000 in
theorem dt27 {d : Nat} {us : List Value} (h : Dat Tryz.prog (d + 3) 27 us) : ∃ x : Int × Int × Int × (List (Int × Int × Int)), us = [(.int .i64 x.1), (.int .i64 x.2.1), (.int .i64 x.2.2.1), (VS 3 (x.2.2.2.map e_III))] ∧ ((-9223372036854775808 ≤ x.1 ∧ x.1 < 9223372036854775808) ∧ (-9223372036854775808 ≤ x.2.1 ∧ x.2.1 < 9223372036854775808) ∧ (-9223372036854775808 ≤ x.2.2.1 ∧ x.2.2.1 < 9223372036854775808) ∧ (x.2.2.2.length ≤ 9223372036854775807 ∧ ∀ y, y ∈ x.2.2.2 → (-9223372036854775808 ≤ y.1 ∧ y.1 < 9223372036854775808) ∧ (-9223372036854775808 ≤ y.2.1 ∧ y.2.1 < 9223372036854775808) ∧ (-9223372036854775808 ≤ y.2.2 ∧ y.2.2 < 9223372036854775808))) := by
 obtain ⟨hl, hp⟩ := dat_struct Tryz.underlying27 h
 rw [show Tryz.prog.cellsOf 27 = 4 by kernel_rfl] at hl
 obtain ⟨a0, a1, a2, a3, rfl⟩ : ∃ a0 a1 a2 a3, us = [a0, a1, a2, a3] := by
  match us, hl with
  | [a0, a1, a2, a3], _ => exact ⟨a0, a1, a2, a3, rfl⟩
 have p0 := hp (0, 3) (by simp [fparts])
 rw [show Tryz.prog.cellsOf (0, 3).2 = 1 by kernel_rfl] at p0
 obtain ⟨x0, e0, w0⟩ := dt3 (d := d + 2) (us := [a0]) p0
 cases e0
 have p1 := hp (1, 3) (by simp [fparts])
 rw [show Tryz.prog.cellsOf (1, 3).2 = 1 by kernel_rfl] at p1
 obtain ⟨x1, e1, w1⟩ := dt3 (d := d + 2) (us := [a1]) p1
 cases e1
 have p2 := hp (2, 3) (by simp [fparts])
 rw [show Tryz.prog.cellsOf (2, 3).2 = 1 by kernel_rfl] at p2
 obtain ⟨x2, e2, w2⟩ := dt3 (d := d + 2) (us := [a2]) p2
 cases e2
 have p3 := hp (3, 25) (by simp [fparts])
 rw [show Tryz.prog.cellsOf (3, 25).2 = 1 by kernel_rfl] at p3
 obtain ⟨x3, e3, w3⟩ := dt25 (d := d + 0) (us := [a3]) p3
 cases e3
 exact ⟨(x0, x1, x2, x3), rfl, ⟨w0, w1, w2, w3⟩⟩
set_option maxRecDepth 100000 in
theorem dispatchBest_all (u0 : Value) (h0 : DatV Tryz.prog 12 24 u0) (u1 : Value) (h1 : DatV Tryz.prog 12 27 u1) (u2 : Value) (h2 : DatV Tryz.prog 12 3 u2) : ICalls E 298 [u0, u1, u2] AHeap.none fun v _ => v = .bool true := by
 obtain ⟨us0, hu0, hd0⟩ := h0
 rw [show isAggT Tryz.prog 24 = true by kernel_rfl] at hu0
 obtain ⟨x0, e0, w0⟩ := dt24 (d := 9) hd0
 subst e0; subst hu0
 obtain ⟨us1, hu1, hd1⟩ := h1
 rw [show isAggT Tryz.prog 27 = true by kernel_rfl] at hu1
 obtain ⟨x1, e1, w1⟩ := dt27 (d := 9) hd1
 subst e1; subst hu1
 obtain ⟨us2, hu2, hd2⟩ := h2
 rw [show isAggT Tryz.prog 3 = false by kernel_rfl] at hu2
 obtain ⟨x2, e2, w2⟩ := dt3 (d := 12) hd2
 subst e2; subst hu2
 exact c298 ((fun w0 w1 w2 => f298_true rfl _) w0 w1 w2)
end Go.Proofs.YtolapannkcdeeaaGreat.AM
