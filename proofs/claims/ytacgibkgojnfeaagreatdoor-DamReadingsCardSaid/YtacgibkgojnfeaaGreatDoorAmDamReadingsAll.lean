/- damReadings: for all plain data. Conditions: none. -/
import Derived.Test.YtacgibkgojnfeaaGreatDoorAmW371
import Derived.Test.YtacgibkgojnfeaaGreatDoorAmDat2
namespace Go.Proofs.YtacgibkgojnfeaaGreatDoor.AM
set_option linter.unusedSimpArgs false
set_option linter.unusedVariables false
open Go Go.RowKit

set_option maxRecDepth 100000 in
theorem dt3 {d : Nat} {us : List Value} (h : Dat Tryz.prog (d + 0) 3 us) : ∃ x : Int, us = [(.int .i64 x)] ∧ ((-9223372036854775808 ≤ x ∧ x < 9223372036854775808)) := by
  obtain ⟨n, hn, hw⟩ := dat_int Tryz.underlying3 h
  exact ⟨n, hn, wfi64 hw⟩
set_option maxRecDepth 100000 in
theorem dt34 {d : Nat} {us : List Value} (h : Dat Tryz.prog (d + 1) 34 us) : ∃ x : Int × Int × Int, us = [(.int .i64 x.1), (.int .i64 x.2.1), (.int .i64 x.2.2)] ∧ ((-9223372036854775808 ≤ x.1 ∧ x.1 < 9223372036854775808) ∧ (-9223372036854775808 ≤ x.2.1 ∧ x.2.1 < 9223372036854775808) ∧ (-9223372036854775808 ≤ x.2.2 ∧ x.2.2 < 9223372036854775808)) := by
  obtain ⟨hl, hp⟩ := dat_struct Tryz.underlying34 h
  rw [show Tryz.prog.cellsOf 34 = 3 by kernel_rfl] at hl
  obtain ⟨a0, a1, a2, rfl⟩ : ∃ a0 a1 a2, us = [a0, a1, a2] := by
    match us, hl with
    | [a0, a1, a2], _ => exact ⟨a0, a1, a2, rfl⟩
  have p0 := hp (0, 3) (by simp [fparts])
  rw [show Tryz.prog.cellsOf (0, 3).2 = 1 by kernel_rfl] at p0
  obtain ⟨x0, e0, w0⟩ := dt3 (d := d + 0) (us := [a0]) p0
  cases e0
  have p1 := hp (1, 3) (by simp [fparts])
  rw [show Tryz.prog.cellsOf (1, 3).2 = 1 by kernel_rfl] at p1
  obtain ⟨x1, e1, w1⟩ := dt3 (d := d + 0) (us := [a1]) p1
  cases e1
  have p2 := hp (2, 3) (by simp [fparts])
  rw [show Tryz.prog.cellsOf (2, 3).2 = 1 by kernel_rfl] at p2
  obtain ⟨x2, e2, w2⟩ := dt3 (d := d + 0) (us := [a2]) p2
  cases e2
  exact ⟨(x0, x1, x2), rfl, ⟨w0, w1, w2⟩⟩
set_option maxRecDepth 100000 in
theorem dt9 {d : Nat} {us : List Value} (h : Dat Tryz.prog (d + 0) 9 us) : ∃ x : ByteArray, us = [(.string x)] ∧ ((x.size ≤ 9223372036854775807)) := by
  obtain ⟨s, hs, hl⟩ := dat_string Tryz.underlying9 h
  exact ⟨s, hs, hl⟩
set_option maxRecDepth 100000 in
theorem damReadings_all (u0 : Value) (h0 : DatV Tryz.prog 12 34 u0) (u1 : Value) (h1 : DatV Tryz.prog 12 9 u1) : ICalls E 371 [u0, u1] AHeap.none fun v _ => v = .bool true := by
  obtain ⟨us0, hu0, hd0⟩ := h0
  rw [show isAggT Tryz.prog 34 = true by kernel_rfl] at hu0
  obtain ⟨x0, e0, w0⟩ := dt34 (d := 11) hd0
  subst e0; subst hu0
  obtain ⟨us1, hu1, hd1⟩ := h1
  rw [show isAggT Tryz.prog 9 = false by kernel_rfl] at hu1
  obtain ⟨x1, e1, w1⟩ := dt9 (d := 12) hd1
  subst e1; subst hu1
  exact c371 ((fun ⟨a, b, c⟩ _ => law371 (by omega) (by omega) (by omega)) w0 w1)
end Go.Proofs.YtacgibkgojnfeaaGreatDoor.AM
