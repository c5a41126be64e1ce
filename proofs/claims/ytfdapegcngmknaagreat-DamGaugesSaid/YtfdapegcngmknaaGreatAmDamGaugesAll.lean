/- damGauges: for all plain data. Conditions: none. -/
import Derived.Test.YtfdapegcngmknaaGreatAmW166
import Derived.Test.YtfdapegcngmknaaGreatAmDat2
import Derived.Test.YtfdapegcngmknaaGreatAmDat2
namespace Go.Proofs.YtfdapegcngmknaaGreat.AM
set_option linter.unusedSimpArgs false
set_option linter.unusedVariables false
open Go Go.RowKit

set_option maxRecDepth 100000 in
theorem dt9 {d : Nat} {us : List Value} (h : Dat Tryz.prog (d + 0) 9 us) : ∃ x : ByteArray, us = [(.string x)] ∧ ((x.size ≤ 9223372036854775807)) := by
  obtain ⟨s, hs, hl⟩ := dat_string Tryz.underlying9 h
  exact ⟨s, hs, hl⟩
set_option maxRecDepth 100000 in
theorem dt3 {d : Nat} {us : List Value} (h : Dat Tryz.prog (d + 0) 3 us) : ∃ x : Int, us = [(.int .i64 x)] ∧ ((-9223372036854775808 ≤ x ∧ x < 9223372036854775808)) := by
  obtain ⟨n, hn, hw⟩ := dat_int Tryz.underlying3 h
  exact ⟨n, hn, wfi64 hw⟩
set_option maxRecDepth 100000 in
theorem dt54 {d : Nat} {us : List Value} (h : Dat Tryz.prog (d + 1) 54 us) : ∃ x : Int × Int, us = [(.int .i64 x.1), (.int .i64 x.2)] ∧ ((-9223372036854775808 ≤ x.1 ∧ x.1 < 9223372036854775808) ∧ (-9223372036854775808 ≤ x.2 ∧ x.2 < 9223372036854775808)) := by
  obtain ⟨hl, hp⟩ := dat_struct Tryz.underlying54 h
  rw [show Tryz.prog.cellsOf 54 = 2 by kernel_rfl] at hl
  obtain ⟨a0, a1, rfl⟩ : ∃ a0 a1, us = [a0, a1] := by
    match us, hl with
    | [a0, a1], _ => exact ⟨a0, a1, rfl⟩
  have p0 := hp (0, 3) (by simp [fparts])
  rw [show Tryz.prog.cellsOf (0, 3).2 = 1 by kernel_rfl] at p0
  obtain ⟨x0, e0, w0⟩ := dt3 (d := d + 0) (us := [a0]) p0
  cases e0
  have p1 := hp (1, 3) (by simp [fparts])
  rw [show Tryz.prog.cellsOf (1, 3).2 = 1 by kernel_rfl] at p1
  obtain ⟨x1, e1, w1⟩ := dt3 (d := d + 0) (us := [a1]) p1
  cases e1
  exact ⟨(x0, x1), rfl, ⟨w0, w1⟩⟩
set_option maxRecDepth 100000 in
theorem dt56 {d : Nat} {us : List Value} (h : Dat Tryz.prog (d + 2) 56 us) : ∃ x : ByteArray × Int × Int × Int × Int, us = [(.string x.1), (.int .i64 x.2.1), (.int .i64 x.2.2.1), (.int .i64 x.2.2.2.1), (.int .i64 x.2.2.2.2)] ∧ ((x.1.size ≤ 9223372036854775807) ∧ (-9223372036854775808 ≤ x.2.1 ∧ x.2.1 < 9223372036854775808) ∧ (-9223372036854775808 ≤ x.2.2.1 ∧ x.2.2.1 < 9223372036854775808) ∧ (-9223372036854775808 ≤ x.2.2.2.1 ∧ x.2.2.2.1 < 9223372036854775808) ∧ (-9223372036854775808 ≤ x.2.2.2.2 ∧ x.2.2.2.2 < 9223372036854775808)) := by
  obtain ⟨hl, hp⟩ := dat_struct Tryz.underlying56 h
  rw [show Tryz.prog.cellsOf 56 = 5 by kernel_rfl] at hl
  obtain ⟨a0, a1, a2, a3, a4, rfl⟩ : ∃ a0 a1 a2 a3 a4, us = [a0, a1, a2, a3, a4] := by
    match us, hl with
    | [a0, a1, a2, a3, a4], _ => exact ⟨a0, a1, a2, a3, a4, rfl⟩
  have p0 := hp (0, 9) (by simp [fparts])
  rw [show Tryz.prog.cellsOf (0, 9).2 = 1 by kernel_rfl] at p0
  obtain ⟨x0, e0, w0⟩ := dt9 (d := d + 1) (us := [a0]) p0
  cases e0
  have p1 := hp (1, 54) (by simp [fparts])
  rw [show Tryz.prog.cellsOf (1, 54).2 = 2 by kernel_rfl] at p1
  obtain ⟨x1, e1, w1⟩ := dt54 (d := d + 0) (us := [a1, a2]) p1
  cases e1
  have p2 := hp (3, 54) (by simp [fparts])
  rw [show Tryz.prog.cellsOf (3, 54).2 = 2 by kernel_rfl] at p2
  obtain ⟨x2, e2, w2⟩ := dt54 (d := d + 0) (us := [a3, a4]) p2
  cases e2
  exact ⟨(x0, x1.1, x1.2, x2.1, x2.2), rfl, ⟨w0, w1.1, w1.2, w2.1, w2.2⟩⟩
set_option maxRecDepth 100000 in
theorem dt52 {d : Nat} {us : List Value} (h : Dat Tryz.prog (d + 3) 52 us) : ∃ x : (List (ByteArray × Int × Int × Int × Int)), us = [(VS 5 (x.map e_SIIII))] ∧ ((x.length ≤ 9223372036854775807 ∧ ∀ y, y ∈ x → (y.1.size ≤ 9223372036854775807) ∧ (-9223372036854775808 ≤ y.2.1 ∧ y.2.1 < 9223372036854775808) ∧ (-9223372036854775808 ≤ y.2.2.1 ∧ y.2.2.1 < 9223372036854775808) ∧ (-9223372036854775808 ≤ y.2.2.2.1 ∧ y.2.2.2.1 < 9223372036854775808) ∧ (-9223372036854775808 ≤ y.2.2.2.2 ∧ y.2.2.2.2 < 9223372036854775808))) := by
  obtain ⟨L, rfl, hl, hx⟩ := dat_slice Tryz.underlying52 h
  have hz : Tryz.prog.cellsOf 56 = 5 := by kernel_rfl
  have hg : isAggT Tryz.prog 56 = true := by kernel_rfl
  obtain ⟨M, rfl, hM⟩ := list_mapP (f := fun x : ByteArray × Int × Int × Int × Int => ([(.string x.1), (.int .i64 x.2.1), (.int .i64 x.2.2.1), (.int .i64 x.2.2.2.1), (.int .i64 x.2.2.2.2)] : List Value)) (p := fun x => (x.1.size ≤ 9223372036854775807) ∧ (-9223372036854775808 ≤ x.2.1 ∧ x.2.1 < 9223372036854775808) ∧ (-9223372036854775808 ≤ x.2.2.1 ∧ x.2.2.1 < 9223372036854775808) ∧ (-9223372036854775808 ≤ x.2.2.2.1 ∧ x.2.2.2.1 < 9223372036854775808) ∧ (-9223372036854775808 ≤ x.2.2.2.2 ∧ x.2.2.2.2 < 9223372036854775808)) L (fun x h => dt56 (hx x h))
  refine ⟨M, ?_, by rw [List.length_map] at hl; exact hl, hM⟩
  rw [hz, hg, List.map_map]; rfl
set_option maxRecDepth 100000 in
theorem damGauges_all (u0 : Value) (h0 : DatV Tryz.prog 12 52 u0) : ICalls E 166 [u0] AHeap.none fun v _ => v = .bool true := by
  obtain ⟨us0, hu0, hd0⟩ := h0
  rw [show isAggT Tryz.prog 52 = false by kernel_rfl] at hu0
  obtain ⟨x0, e0, w0⟩ := dt52 (d := 9) hd0
  subst e0; subst hu0
  exact c166 ((fun _ => f166_true) w0)
end Go.Proofs.YtfdapegcngmknaaGreat.AM
