/- topWaterDry: for all plain data. Conditions: none. -/
import Derived.Test.YtjnpdnlgkepmcaaAmW474
import Derived.Test.YtjnpdnlgkepmcaaAmDat2
namespace Go.Proofs.Ytjnpdnlgkepmcaa.AM
set_option linter.unusedSimpArgs false
set_option linter.unusedVariables false
open Go Go.RowKit
set_option maxRecDepth 100000 in
theorem dt9 {d : Nat} {us : List Value} (h : Dat Try.prog (d + 0) 9 us) : ∃ x : ByteArray, us = [(.string x)] ∧ ((x.size ≤ 9223372036854775807)) := by
 obtain ⟨s, hs, hl⟩ := dat_string Try.underlying9 h
 exact ⟨s, hs, hl⟩
set_option maxRecDepth 100000 in
theorem dt4 {d : Nat} {us : List Value} (h : Dat Try.prog (d + 0) 4 us) : ∃ x : Bool, us = [(.bool x)] ∧ (True) := by
 obtain ⟨b, hb⟩ := dat_bool Try.underlying4 h
 exact ⟨b, hb, trivial⟩
set_option maxRecDepth 100000 in
theorem dt3 {d : Nat} {us : List Value} (h : Dat Try.prog (d + 0) 3 us) : ∃ x : Int, us = [(.int .i64 x)] ∧ ((-9223372036854775808 ≤ x ∧ x < 9223372036854775808)) := by
 obtain ⟨n, hn, hw⟩ := dat_int Try.underlying3 h
 exact ⟨n, hn, wfi64 hw⟩
set_option maxRecDepth 100000 in
theorem dt35 {d : Nat} {us : List Value} (h : Dat Try.prog (d + 1) 35 us) : ∃ x : ByteArray × Bool × Int × Int, us = [(.string x.1), (.bool x.2.1), (.int .i64 x.2.2.1), (.int .i64 x.2.2.2)] ∧ ((x.1.size ≤ 9223372036854775807) ∧ True ∧ (-9223372036854775808 ≤ x.2.2.1 ∧ x.2.2.1 < 9223372036854775808) ∧ (-9223372036854775808 ≤ x.2.2.2 ∧ x.2.2.2 < 9223372036854775808)) := by
 obtain ⟨hl, hp⟩ := dat_struct Try.underlying35 h
 rw [show Try.prog.cellsOf 35 = 4 by kernel_rfl] at hl
 obtain ⟨a0, a1, a2, a3, rfl⟩ : ∃ a0 a1 a2 a3, us = [a0, a1, a2, a3] := by
  match us, hl with
  | [a0, a1, a2, a3], _ => exact ⟨a0, a1, a2, a3, rfl⟩
 have p0 := hp (0, 9) (by simp [fparts])
 rw [show Try.prog.cellsOf (0, 9).2 = 1 by kernel_rfl] at p0
 obtain ⟨x0, e0, w0⟩ := dt9 (d := d + 0) (us := [a0]) p0
 cases e0
 have p1 := hp (1, 4) (by simp [fparts])
 rw [show Try.prog.cellsOf (1, 4).2 = 1 by kernel_rfl] at p1
 obtain ⟨x1, e1, w1⟩ := dt4 (d := d + 0) (us := [a1]) p1
 cases e1
 have p2 := hp (2, 3) (by simp [fparts])
 rw [show Try.prog.cellsOf (2, 3).2 = 1 by kernel_rfl] at p2
 obtain ⟨x2, e2, w2⟩ := dt3 (d := d + 0) (us := [a2]) p2
 cases e2
 have p3 := hp (3, 3) (by simp [fparts])
 rw [show Try.prog.cellsOf (3, 3).2 = 1 by kernel_rfl] at p3
 obtain ⟨x3, e3, w3⟩ := dt3 (d := d + 0) (us := [a3]) p3
 cases e3
 exact ⟨(x0, x1, x2, x3), rfl, ⟨w0, w1, w2, w3⟩⟩
set_option maxRecDepth 100000 in
theorem dt22 {d : Nat} {us : List Value} (h : Dat Try.prog (d + 2) 22 us) : ∃ x : (List (ByteArray × Bool × Int × Int)), us = [(VS 4 (x.map e_SBII))] ∧ ((x.length ≤ 9223372036854775807 ∧ ∀ y, y ∈ x → (y.1.size ≤ 9223372036854775807) ∧ True ∧ (-9223372036854775808 ≤ y.2.2.1 ∧ y.2.2.1 < 9223372036854775808) ∧ (-9223372036854775808 ≤ y.2.2.2 ∧ y.2.2.2 < 9223372036854775808))) := by
 obtain ⟨L, rfl, hl, hx⟩ := dat_slice Try.underlying22 h
 have hz : Try.prog.cellsOf 35 = 4 := by kernel_rfl
 have hg : isAggT Try.prog 35 = true := by kernel_rfl
 obtain ⟨M, rfl, hM⟩ := list_mapP (f := fun x : ByteArray × Bool × Int × Int => ([(.string x.1), (.bool x.2.1), (.int .i64 x.2.2.1), (.int .i64 x.2.2.2)] : List Value)) (p := fun x => (x.1.size ≤ 9223372036854775807) ∧ True ∧ (-9223372036854775808 ≤ x.2.2.1 ∧ x.2.2.1 < 9223372036854775808) ∧ (-9223372036854775808 ≤ x.2.2.2 ∧ x.2.2.2 < 9223372036854775808)) L (fun x h => dt35 (hx x h))
 refine ⟨M, ?_, by rw [List.length_map] at hl; exact hl, hM⟩
 rw [hz, hg, List.map_map]; rfl
set_option maxRecDepth 100000 in
theorem dt32 {d : Nat} {us : List Value} (h : Dat Try.prog (d + 1) 32 us) : ∃ x : ByteArray × Int × Int × Int × Bool × Bool, us = [(.string x.1), (.int .i64 x.2.1), (.int .i64 x.2.2.1), (.int .i64 x.2.2.2.1), (.bool x.2.2.2.2.1), (.bool x.2.2.2.2.2)] ∧ ((x.1.size ≤ 9223372036854775807) ∧ (-9223372036854775808 ≤ x.2.1 ∧ x.2.1 < 9223372036854775808) ∧ (-9223372036854775808 ≤ x.2.2.1 ∧ x.2.2.1 < 9223372036854775808) ∧ (-9223372036854775808 ≤ x.2.2.2.1 ∧ x.2.2.2.1 < 9223372036854775808) ∧ True ∧ True) := by
 obtain ⟨hl, hp⟩ := dat_struct Try.underlying32 h
 rw [show Try.prog.cellsOf 32 = 6 by kernel_rfl] at hl
 obtain ⟨a0, a1, a2, a3, a4, a5, rfl⟩ : ∃ a0 a1 a2 a3 a4 a5, us = [a0, a1, a2, a3, a4, a5] := by
  match us, hl with
  | [a0, a1, a2, a3, a4, a5], _ => exact ⟨a0, a1, a2, a3, a4, a5, rfl⟩
 have p0 := hp (0, 9) (by simp [fparts])
 rw [show Try.prog.cellsOf (0, 9).2 = 1 by kernel_rfl] at p0
 obtain ⟨x0, e0, w0⟩ := dt9 (d := d + 0) (us := [a0]) p0
 cases e0
 have p1 := hp (1, 3) (by simp [fparts])
 rw [show Try.prog.cellsOf (1, 3).2 = 1 by kernel_rfl] at p1
 obtain ⟨x1, e1, w1⟩ := dt3 (d := d + 0) (us := [a1]) p1
 cases e1
 have p2 := hp (2, 3) (by simp [fparts])
 rw [show Try.prog.cellsOf (2, 3).2 = 1 by kernel_rfl] at p2
 obtain ⟨x2, e2, w2⟩ := dt3 (d := d + 0) (us := [a2]) p2
 cases e2
 have p3 := hp (3, 3) (by simp [fparts])
 rw [show Try.prog.cellsOf (3, 3).2 = 1 by kernel_rfl] at p3
 obtain ⟨x3, e3, w3⟩ := dt3 (d := d + 0) (us := [a3]) p3
 cases e3
 have p4 := hp (4, 4) (by simp [fparts])
 rw [show Try.prog.cellsOf (4, 4).2 = 1 by kernel_rfl] at p4
 obtain ⟨x4, e4, w4⟩ := dt4 (d := d + 0) (us := [a4]) p4
 cases e4
 have p5 := hp (5, 4) (by simp [fparts])
 rw [show Try.prog.cellsOf (5, 4).2 = 1 by kernel_rfl] at p5
 obtain ⟨x5, e5, w5⟩ := dt4 (d := d + 0) (us := [a5]) p5
 cases e5
 exact ⟨(x0, x1, x2, x3, x4, x5), rfl, ⟨w0, w1, w2, w3, w4, w5⟩⟩
set_option maxRecDepth 100000 in
theorem dt23 {d : Nat} {us : List Value} (h : Dat Try.prog (d + 2) 23 us) : ∃ x : (List (ByteArray × Int × Int × Int × Bool × Bool)), us = [(VS 6 (x.map e_SIIIBB))] ∧ ((x.length ≤ 9223372036854775807 ∧ ∀ y, y ∈ x → (y.1.size ≤ 9223372036854775807) ∧ (-9223372036854775808 ≤ y.2.1 ∧ y.2.1 < 9223372036854775808) ∧ (-9223372036854775808 ≤ y.2.2.1 ∧ y.2.2.1 < 9223372036854775808) ∧ (-9223372036854775808 ≤ y.2.2.2.1 ∧ y.2.2.2.1 < 9223372036854775808) ∧ True ∧ True)) := by
 obtain ⟨L, rfl, hl, hx⟩ := dat_slice Try.underlying23 h
 have hz : Try.prog.cellsOf 32 = 6 := by kernel_rfl
 have hg : isAggT Try.prog 32 = true := by kernel_rfl
 obtain ⟨M, rfl, hM⟩ := list_mapP (f := fun x : ByteArray × Int × Int × Int × Bool × Bool => ([(.string x.1), (.int .i64 x.2.1), (.int .i64 x.2.2.1), (.int .i64 x.2.2.2.1), (.bool x.2.2.2.2.1), (.bool x.2.2.2.2.2)] : List Value)) (p := fun x => (x.1.size ≤ 9223372036854775807) ∧ (-9223372036854775808 ≤ x.2.1 ∧ x.2.1 < 9223372036854775808) ∧ (-9223372036854775808 ≤ x.2.2.1 ∧ x.2.2.1 < 9223372036854775808) ∧ (-9223372036854775808 ≤ x.2.2.2.1 ∧ x.2.2.2.1 < 9223372036854775808) ∧ True ∧ True) L (fun x h => dt32 (hx x h))
 refine ⟨M, ?_, by rw [List.length_map] at hl; exact hl, hM⟩
 rw [hz, hg, List.map_map]; rfl
set_option maxRecDepth 100000 in
theorem dt25 {d : Nat} {us : List Value} (h : Dat Try.prog (d + 3) 25 us) : ∃ x : (List (ByteArray × Bool × Int × Int)) × (List (ByteArray × Int × Int × Int × Bool × Bool)), us = [(VS 4 (x.1.map e_SBII)), (VS 6 (x.2.map e_SIIIBB))] ∧ ((x.1.length ≤ 9223372036854775807 ∧ ∀ y, y ∈ x.1 → (y.1.size ≤ 9223372036854775807) ∧ True ∧ (-9223372036854775808 ≤ y.2.2.1 ∧ y.2.2.1 < 9223372036854775808) ∧ (-9223372036854775808 ≤ y.2.2.2 ∧ y.2.2.2 < 9223372036854775808)) ∧ (x.2.length ≤ 9223372036854775807 ∧ ∀ y, y ∈ x.2 → (y.1.size ≤ 9223372036854775807) ∧ (-9223372036854775808 ≤ y.2.1 ∧ y.2.1 < 9223372036854775808) ∧ (-9223372036854775808 ≤ y.2.2.1 ∧ y.2.2.1 < 9223372036854775808) ∧ (-9223372036854775808 ≤ y.2.2.2.1 ∧ y.2.2.2.1 < 9223372036854775808) ∧ True ∧ True)) := by
 obtain ⟨hl, hp⟩ := dat_struct Try.underlying25 h
 rw [show Try.prog.cellsOf 25 = 2 by kernel_rfl] at hl
 obtain ⟨a0, a1, rfl⟩ : ∃ a0 a1, us = [a0, a1] := by
  match us, hl with
  | [a0, a1], _ => exact ⟨a0, a1, rfl⟩
 have p0 := hp (0, 22) (by simp [fparts])
 rw [show Try.prog.cellsOf (0, 22).2 = 1 by kernel_rfl] at p0
 obtain ⟨x0, e0, w0⟩ := dt22 (d := d + 0) (us := [a0]) p0
 cases e0
 have p1 := hp (1, 23) (by simp [fparts])
 rw [show Try.prog.cellsOf (1, 23).2 = 1 by kernel_rfl] at p1
 obtain ⟨x1, e1, w1⟩ := dt23 (d := d + 0) (us := [a1]) p1
 cases e1
 exact ⟨(x0, x1), rfl, ⟨w0, w1⟩⟩
set_option maxRecDepth 100000 in
theorem dt26 {d : Nat} {us : List Value} (h : Dat Try.prog (d + 1) 26 us) : ∃ x : (List Int), us = [(VS 1 (x.map eI))] ∧ ((x.length ≤ 9223372036854775807 ∧ ∀ y, y ∈ x → (-9223372036854775808 ≤ y ∧ y < 9223372036854775808))) := by
 obtain ⟨L, rfl, hl, hx⟩ := dat_slice Try.underlying26 h
 have hz : Try.prog.cellsOf 3 = 1 := by kernel_rfl
 have hg : isAggT Try.prog 3 = false := by kernel_rfl
 obtain ⟨M, rfl, hM⟩ := list_mapP (f := fun x : Int => ([(.int .i64 x)] : List Value)) (p := fun x => (-9223372036854775808 ≤ x ∧ x < 9223372036854775808)) L (fun x h => dt3 (hx x h))
 refine ⟨M, ?_, by rw [List.length_map] at hl; exact hl, hM⟩
 rw [hz, hg, List.map_map]; rfl
set_option maxRecDepth 100000 in
theorem topWaterDry_all (u0 : Value) (h0 : DatV Try.prog 12 25 u0) (u1 : Value) (h1 : DatV Try.prog 12 3 u1) (u2 : Value) (h2 : DatV Try.prog 12 26 u2) : ICalls E 474 [u0, u1, u2] AHeap.none fun v _ => v = .bool true := by
 obtain ⟨us0, hu0, hd0⟩ := h0
 rw [show isAggT Try.prog 25 = true by kernel_rfl] at hu0
 obtain ⟨x0, e0, w0⟩ := dt25 (d := 9) hd0
 subst e0; subst hu0
 obtain ⟨us1, hu1, hd1⟩ := h1
 rw [show isAggT Try.prog 3 = false by kernel_rfl] at hu1
 obtain ⟨x1, e1, w1⟩ := dt3 (d := 12) hd1
 subst e1; subst hu1
 obtain ⟨us2, hu2, hd2⟩ := h2
 rw [show isAggT Try.prog 26 = false by kernel_rfl] at hu2
 obtain ⟨x2, e2, w2⟩ := dt26 (d := 11) hd2
 subst e2; subst hu2
 exact c474 ((fun _ _ _ => f474_true) w0 w1 w2)
end Go.Proofs.Ytjnpdnlgkepmcaa.AM
