/- The law of basins, for all plain data. Conditions: none. -/
import Derived.Test.YtfdapegcngmknaaAmBas2
import Derived.Test.YtfdapegcngmknaaAmData
namespace Go.Proofs.Ytfdapegcngmknaa.AM
open Go Go.RowKit

theorem wf_i64 {n : Int} (h : (Lit.int .i64 n).wf = true) : -9223372036854775808 ≤ n ∧ n < 9223372036854775808 := by
  have := Go.bounds_i64 h
  omega
set_option maxRecDepth 100000 in
theorem damBasins_all (u0 : Value) (h0 : DatV Try.prog 12 24 u0) (u1 : Value) (h1 : DatV Try.prog 12 3 u1) : ICalls E 3 [u0, u1] AHeap.none fun v _ => v = .bool true := by
  obtain ⟨us, hu0, hd⟩ := h0
  obtain ⟨vs, hu1, he⟩ := h1
  have e1 : isAggT Try.prog 24 = true := by kernel_rfl
  have e2 : isAggT Try.prog 3 = false := by kernel_rfl
  rw [e1] at hu0
  rw [e2] at hu1
  subst hu0; subst hu1
  obtain ⟨hl, hp⟩ := dat_struct Try.underlying24 hd
  obtain ⟨n, hvs, hn⟩ := dat_int Try.underlying3 he
  subst hvs
  have c22 : Try.prog.cellsOf 22 = 1 := by kernel_rfl
  have c3 : Try.prog.cellsOf 3 = 1 := by kernel_rfl
  have c24 : Try.prog.cellsOf 24 = 2 := by kernel_rfl
  have p0 := hp (0, 22) (by simp [fparts])
  have p1 := hp (1, 22) (by simp [fparts])
  simp only [c22] at p0 p1
  rw [c24] at hl
  obtain ⟨V, hV, _, _⟩ := dat_ints Try.underlying22 Try.underlying3 c3 p0
  obtain ⟨O, hO, _, _⟩ := dat_ints Try.underlying22 Try.underlying3 c3 p1
  obtain ⟨a, b, rfl⟩ : ∃ a b, us = [a, b] := by
    match us, hl with
    | [a, b], _ => exact ⟨a, b, rfl⟩
  simp at hV hO
  subst hV; subst hO
  exact damBasins_c V O n (wf_i64 hn)
end Go.Proofs.Ytfdapegcngmknaa.AM
