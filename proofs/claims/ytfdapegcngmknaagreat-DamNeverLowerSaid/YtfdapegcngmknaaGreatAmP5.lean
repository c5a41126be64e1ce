/- Plain laws: states of the watch, the program's. Conditions: none. -/
import Derived.Test.YtfdapegcngmknaaGreatAmP4
namespace Go.Proofs.YtfdapegcngmknaaGreat.AM
set_option linter.unusedSimpArgs false
set_option linter.unusedVariables false
open Go Go.RowKit

def stE (n : Nat) (s c d : Int) : Int := bif !(decide (0 ≤ s) && decide (s ≤ n) && (decide (0 ≤ c) && decide (c ≤ 1000000)) && thr0 d) then 2 else bif decide (s = 0) && !decide (c = 0) then 13 else 0
theorem f113_e {U D : List Int} {H : Int} {P : List (ByteArray × Int)} {s c d : Int} : f113 U D H P s c d = some (stE U.length s c d) := by
  unfold f113 stE
  simp (disch := omega) only [obnd_s, obnd_n, oite_ss, oite_t, oite_f, ogrd_t, ogrd_f, obndS_l, obndS_r, ilt_eq, ile_eq, ieq_eq, imax_e, imin_e, List.length_map, Int.toNat_natCast, decide_true, decide_false, Bool.not_true, Bool.not_false, Bool.not_eq_true, Bool.false_eq_true, if_true, if_false, reduceIte, not_false_eq_true, not_true_eq_false, Int.natCast_nonneg, Int.ofNat_lt, Int.ofNat_le, Bool.cond_true, Bool.cond_false, cond_true, cond_false, Bool.true_and, Bool.and_true, Bool.false_and, Bool.and_false, Bool.true_or, Bool.or_true, Bool.false_or, Bool.or_false, Bool.cond_true_left, Bool.cond_false_right, Bool.cond_true_right, Bool.cond_false_left, f65_e, f82_e, f64_e, f63_2, fst2]
  cases h1 : (decide (0 ≤ s) && decide (s ≤ (U.length : Int))) with
  | false => simp
  | true =>
    simp only [Bool.and_eq_true, decide_eq_true_eq] at h1
    cases (decide (0 ≤ c) && decide (c ≤ 1000000)) <;> cases thr0 d <;> by_cases h2 : 0 < s <;> by_cases h3 : s = 0 <;> by_cases h4 : c = 0 <;> simp [h2, h3, h4] <;> omega
theorem f48_e {U D : List Int} {H : Int} {P : List (ByteArray × Int)} {s c d : Int} : f48 U D H P s c d = some (stE U.length s c d) := by
  unfold f48 stE
  simp (disch := omega) only [obnd_s, obnd_n, oite_ss, oite_t, oite_f, ogrd_t, ogrd_f, obndS_l, obndS_r, ilt_eq, ile_eq, ieq_eq, imax_e, imin_e, List.length_map, Int.toNat_natCast, decide_true, decide_false, Bool.not_true, Bool.not_false, Bool.not_eq_true, Bool.false_eq_true, if_true, if_false, reduceIte, not_false_eq_true, not_true_eq_false, Int.natCast_nonneg, Int.ofNat_lt, Int.ofNat_le, Bool.cond_true, Bool.cond_false, cond_true, cond_false, Bool.true_and, Bool.and_true, Bool.false_and, Bool.and_false, Bool.true_or, Bool.or_true, Bool.false_or, Bool.or_false, Bool.cond_true_left, Bool.cond_false_right, Bool.cond_true_right, Bool.cond_false_left, f15_e, f40_e]
  cases h1 : (decide (0 ≤ s) && decide (s ≤ (U.length : Int))) with
  | false => rfl
  | true =>
    cases (decide (0 ≤ c) && decide (c ≤ 1000000)) <;> cases thr0 d <;> cases decide (s = 0) <;> cases decide (c = 0) <;> rfl
theorem f90_e {U D : List Int} {H : Int} {P : List (ByteArray × Int)} {s c d : Int} (h : small U D P) : f90 U D H P s c d = some (U, D, H, P, bif decide ((ckR U D H P).2 = 0) then stE U.length s c d else (ckR U D H P).2) := by
  unfold f90
  rw [f79_e h]
  simp (disch := omega) only [obnd_s, obnd_n, oite_ss, oite_t, oite_f, ogrd_t, ogrd_f, obndS_l, obndS_r, ilt_eq, ile_eq, ieq_eq, imax_e, imin_e, List.length_map, Int.toNat_natCast, decide_true, decide_false, Bool.not_true, Bool.not_false, Bool.not_eq_true, Bool.false_eq_true, if_true, if_false, reduceIte, not_false_eq_true, not_true_eq_false, Int.natCast_nonneg, Int.ofNat_lt, Int.ofNat_le, Bool.cond_true, Bool.cond_false, cond_true, cond_false, Bool.true_and, Bool.and_true, Bool.false_and, Bool.and_false, Bool.true_or, Bool.or_true, Bool.false_or, Bool.or_false, Bool.cond_true_left, Bool.cond_false_right, Bool.cond_true_right, Bool.cond_false_left, f113_e]
/-- The state after a deviation. -/
def wat (U D : List Int) (s c d : Int) : Int × Int × Int := bif decide (s < (askN U d U.length : Int)) then ((askN U d U.length : Int), 0, d) else bif decide (0 < s) && decide (d < gi D (s - 1).toNat) then (s, min (c + 1) 1000000, d) else (s, 0, d)
theorem askU {U D : List Int} {H : Int} {P : List (ByteArray × Int)} {d : Int} (h : okR U D H P) : f89 U D H P d = some (askN U d U.length : Int) := f89_e (sorted_U h.step) (by have := h.le; omega)
theorem f83_w {U D : List Int} {H : Int} {P : List (ByteArray × Int)} {s c e d : Int} (h : okR U D H P) (hs : 0 ≤ s ∧ s ≤ U.length) (hc : 0 ≤ c ∧ c ≤ 1000000) : f83 U D H P s c e d = some (wat U D s c d) := by
  unfold f83 wat
  rw [askU h]
  by_cases h1 : s < (askN U d U.length : Int)
  · simp (disch := omega) only [obnd_s, obnd_n, oite_ss, oite_t, oite_f, ogrd_t, ogrd_f, obndS_l, obndS_r, ilt_eq, ile_eq, ieq_eq, imax_e, imin_e, List.length_map, Int.toNat_natCast, decide_true, decide_false, Bool.not_true, Bool.not_false, Bool.not_eq_true, Bool.false_eq_true, if_true, if_false, reduceIte, not_false_eq_true, not_true_eq_false, Int.natCast_nonneg, Int.ofNat_lt, Int.ofNat_le, Bool.cond_true, Bool.cond_false, cond_true, cond_false, Bool.true_and, Bool.and_true, Bool.false_and, Bool.and_false, Bool.true_or, Bool.or_true, Bool.false_or, Bool.or_false, Bool.cond_true_left, Bool.cond_false_right, Bool.cond_true_right, Bool.cond_false_left, h1]
  · by_cases h2 : 0 < s
    · obtain ⟨j, rfl⟩ : ∃ j : Nat, s = ((j + 1 : Nat) : Int) := ⟨(s - 1).toNat, by omega⟩
      have hj : (((j + 1 : Nat) : Int) - 1) = (j : Int) := by omega
      have hl := h.le
      have hD : j < D.length := by have := h.len; omega
      simp (disch := omega) only [obnd_s, obnd_n, oite_ss, oite_t, oite_f, ogrd_t, ogrd_f, obndS_l, obndS_r, ilt_eq, ile_eq, ieq_eq, imax_e, imin_e, List.length_map, Int.toNat_natCast, decide_true, decide_false, Bool.not_true, Bool.not_false, Bool.not_eq_true, Bool.false_eq_true, if_true, if_false, reduceIte, not_false_eq_true, not_true_eq_false, Int.natCast_nonneg, Int.ofNat_lt, Int.ofNat_le, Bool.cond_true, Bool.cond_false, cond_true, cond_false, Bool.true_and, Bool.and_true, Bool.false_and, Bool.and_false, Bool.true_or, Bool.or_true, Bool.false_or, Bool.or_false, Bool.cond_true_left, Bool.cond_false_right, Bool.cond_true_right, Bool.cond_false_left, h1, h2, hj, get_gi hD, wr]
    · simp (disch := omega) only [obnd_s, obnd_n, oite_ss, oite_t, oite_f, ogrd_t, ogrd_f, obndS_l, obndS_r, ilt_eq, ile_eq, ieq_eq, imax_e, imin_e, List.length_map, Int.toNat_natCast, decide_true, decide_false, Bool.not_true, Bool.not_false, Bool.not_eq_true, Bool.false_eq_true, if_true, if_false, reduceIte, not_false_eq_true, not_true_eq_false, Int.natCast_nonneg, Int.ofNat_lt, Int.ofNat_le, Bool.cond_true, Bool.cond_false, cond_true, cond_false, Bool.true_and, Bool.and_true, Bool.false_and, Bool.and_false, Bool.true_or, Bool.or_true, Bool.false_or, Bool.or_false, Bool.cond_true_left, Bool.cond_false_right, Bool.cond_true_right, Bool.cond_false_left, h1, h2]
theorem f44_e {U D : List Int} {H : Int} {P : List (ByteArray × Int)} {d : Int} (h : small U D P) : f44 U D H P d = some (bif !decide ((ckR U D H P).2 = 0) then (0, (ckR U D H P).2) else bif !thr0 d then (0, 2) else ((askN U d U.length : Int), 0)) := by
  unfold f44
  rw [f79_e h]
  simp (disch := omega) only [obnd_s, obnd_n, oite_ss, oite_t, oite_f, ogrd_t, ogrd_f, obndS_l, obndS_r, ilt_eq, ile_eq, ieq_eq, imax_e, imin_e, List.length_map, Int.toNat_natCast, decide_true, decide_false, Bool.not_true, Bool.not_false, Bool.not_eq_true, Bool.false_eq_true, if_true, if_false, reduceIte, not_false_eq_true, not_true_eq_false, Int.natCast_nonneg, Int.ofNat_lt, Int.ofNat_le, Bool.cond_true, Bool.cond_false, cond_true, cond_false, Bool.true_and, Bool.and_true, Bool.false_and, Bool.and_false, Bool.true_or, Bool.or_true, Bool.false_or, Bool.or_false, Bool.cond_true_left, Bool.cond_false_right, Bool.cond_true_right, Bool.cond_false_left, f82_e, f64_e, f63_2, fst2]
  cases h1 : decide ((ckR U D H P).2 = 0) with
  | false =>
    have h2 := of_decide_eq_false h1
    simp only [if_neg h2, h1, Bool.not_false, oite_t, cond_true]
  | true =>
    have h2 := of_decide_eq_true h1
    obtain ⟨h3, _⟩ := ckR_ok h2
    simp only [if_pos h2, Bool.not_true, cond_false]
    cases thr0 d with
    | false => rfl
    | true => simp (disch := omega) only [obnd_s, obnd_n, oite_ss, oite_t, oite_f, ogrd_t, ogrd_f, obndS_l, obndS_r, ilt_eq, ile_eq, ieq_eq, imax_e, imin_e, List.length_map, Int.toNat_natCast, decide_true, decide_false, Bool.not_true, Bool.not_false, Bool.not_eq_true, Bool.false_eq_true, if_true, if_false, reduceIte, not_false_eq_true, not_true_eq_false, Int.natCast_nonneg, Int.ofNat_lt, Int.ofNat_le, Bool.cond_true, Bool.cond_false, cond_true, cond_false, Bool.true_and, Bool.and_true, Bool.false_and, Bool.and_false, Bool.true_or, Bool.or_true, Bool.false_or, Bool.or_false, Bool.cond_true_left, Bool.cond_false_right, Bool.cond_true_right, Bool.cond_false_left, askU h3]
theorem f45_e {U D : List Int} {H : Int} {P : List (ByteArray × Int)} {s c e d : Int} (h : small U D P) : f45 U D H P s c e d = some (bif !decide ((ckR U D H P).2 = 0) then (0, 0, 0, (ckR U D H P).2) else bif !decide (stE U.length s c e = 0) then (0, 0, 0, stE U.length s c e) else bif !thr0 d then (0, 0, 0, 2) else ((wat U D s c d).1, (wat U D s c d).2.1, (wat U D s c d).2.2, 0)) := by
  unfold f45
  rw [f90_e h]
  simp (disch := omega) only [obnd_s, obnd_n, oite_ss, oite_t, oite_f, ogrd_t, ogrd_f, obndS_l, obndS_r, ilt_eq, ile_eq, ieq_eq, imax_e, imin_e, List.length_map, Int.toNat_natCast, decide_true, decide_false, Bool.not_true, Bool.not_false, Bool.not_eq_true, Bool.false_eq_true, if_true, if_false, reduceIte, not_false_eq_true, not_true_eq_false, Int.natCast_nonneg, Int.ofNat_lt, Int.ofNat_le, Bool.cond_true, Bool.cond_false, cond_true, cond_false, Bool.true_and, Bool.and_true, Bool.false_and, Bool.and_false, Bool.true_or, Bool.or_true, Bool.false_or, Bool.or_false, Bool.cond_true_left, Bool.cond_false_right, Bool.cond_true_right, Bool.cond_false_left, f82_e, f64_e, f63_2, fst2]
  cases h1 : decide ((ckR U D H P).2 = 0) with
  | false =>
    have h2 := of_decide_eq_false h1
    simp only [if_neg h2, cond_false, h1, Bool.not_false, oite_t, cond_true]
  | true =>
    have h2 := of_decide_eq_true h1
    obtain ⟨h3, _⟩ := ckR_ok h2
    simp only [cond_true, Bool.not_true, cond_false]
    cases h4 : decide (stE U.length s c e = 0) with
    | false =>
      have h5 := of_decide_eq_false h4
      simp only [if_neg h5, h4, Bool.not_false, oite_t, cond_true]
    | true =>
      have h5 := of_decide_eq_true h4
      have h6 : (0 ≤ s ∧ s ≤ U.length) ∧ (0 ≤ c ∧ c ≤ 1000000) := by
        unfold stE at h5
        cases h7 : (decide (0 ≤ s) && decide (s ≤ (U.length : Int)) && (decide (0 ≤ c) && decide (c ≤ 1000000)) && thr0 e) with
        | false => rw [h7] at h5; cases h5
        | true => simp only [Bool.and_eq_true, decide_eq_true_eq] at h7; exact h7.1
      simp only [if_pos h5, Bool.not_true, cond_false]
      cases thr0 d with
      | false => rfl
      | true => simp (disch := omega) only [obnd_s, obnd_n, oite_ss, oite_t, oite_f, ogrd_t, ogrd_f, obndS_l, obndS_r, ilt_eq, ile_eq, ieq_eq, imax_e, imin_e, List.length_map, Int.toNat_natCast, decide_true, decide_false, Bool.not_true, Bool.not_false, Bool.not_eq_true, Bool.false_eq_true, if_true, if_false, reduceIte, not_false_eq_true, not_true_eq_false, Int.natCast_nonneg, Int.ofNat_lt, Int.ofNat_le, Bool.cond_true, Bool.cond_false, cond_true, cond_false, Bool.true_and, Bool.and_true, Bool.false_and, Bool.and_false, Bool.true_or, Bool.or_true, Bool.false_or, Bool.or_false, Bool.cond_true_left, Bool.cond_false_right, Bool.cond_true_right, Bool.cond_false_left, f83_w h3 h6.1 h6.2]
theorem f35_e {U D : List Int} {H : Int} {P : List (ByteArray × Int)} : ∃ b, f35 U D H P = some b ∧ (b = true → small U D P) := by
  unfold f35
  have e1 : decide ((7 : Int) < ((U.length : Nat) : Int)) = decide (7 < U.length) := by rw [Bool.eq_iff_iff, decide_eq_true_eq, decide_eq_true_eq]; omega
  have e2 : decide ((7 : Int) < ((D.length : Nat) : Int)) = decide (7 < D.length) := by rw [Bool.eq_iff_iff, decide_eq_true_eq, decide_eq_true_eq]; omega
  have e3 : decide ((12 : Int) < ((P.length : Nat) : Int)) = decide (12 < P.length) := by rw [Bool.eq_iff_iff, decide_eq_true_eq, decide_eq_true_eq]; omega
  simp (disch := omega) only [obnd_s, obnd_n, oite_ss, oite_t, oite_f, ogrd_t, ogrd_f, obndS_l, obndS_r, ilt_eq, ile_eq, ieq_eq, imax_e, imin_e, List.length_map, Int.toNat_natCast, decide_true, decide_false, Bool.not_true, Bool.not_false, Bool.not_eq_true, Bool.false_eq_true, if_true, if_false, reduceIte, not_false_eq_true, not_true_eq_false, Int.natCast_nonneg, Int.ofNat_lt, Int.ofNat_le, Bool.cond_true, Bool.cond_false, cond_true, cond_false, Bool.true_and, Bool.and_true, Bool.false_and, Bool.and_false, Bool.true_or, Bool.or_true, Bool.false_or, Bool.or_false, Bool.cond_true_left, Bool.cond_false_right, Bool.cond_true_right, Bool.cond_false_left, e1, e2, e3]
  cases h1 : decide (7 < U.length) || decide (7 < D.length) || decide (12 < P.length) with
  | true => exact ⟨false, rfl, fun h => by cases h⟩
  | false =>
    simp only [Bool.or_eq_false_iff, decide_eq_false_iff_not] at h1
    simp (disch := omega) only [obnd_s, obnd_n, oite_ss, oite_t, oite_f, ogrd_t, ogrd_f, obndS_l, obndS_r, ilt_eq, ile_eq, ieq_eq, imax_e, imin_e, List.length_map, Int.toNat_natCast, decide_true, decide_false, Bool.not_true, Bool.not_false, Bool.not_eq_true, Bool.false_eq_true, if_true, if_false, reduceIte, not_false_eq_true, not_true_eq_false, Int.natCast_nonneg, Int.ofNat_lt, Int.ofNat_le, Bool.cond_true, Bool.cond_false, cond_true, cond_false, Bool.true_and, Bool.and_true, Bool.false_and, Bool.and_false, Bool.true_or, Bool.or_true, Bool.false_or, Bool.or_false, Bool.cond_true_left, Bool.cond_false_right, Bool.cond_true_right, Bool.cond_false_left]
    rw [oloop_scanB (fun i => (i : Int)) P.length (fun i => decide (30 < ((gp P i).1.size : Int))) (fun i => .inr false) (d := .inl ()) (e0 := 0) rfl ?_ ?_]
    · cases hsc : scanF (fun i => bif decide (30 < ((gp P i).1.size : Int)) then some (Sum.inr false : Unit ⊕ Bool) else none) P.length 0 with
      | none =>
        refine ⟨true, rfl, fun _ => ⟨by omega, by omega, by omega, fun p hp => ?_⟩⟩
        obtain ⟨i, hi, rfl⟩ := List.getElem_of_mem hp
        have := scanF_none hsc i (Nat.zero_le _) (by omega)
        have hg : gp P i = P[i] := by unfold gp; exact getD_i hi
        rw [← hg]
        cases hd : decide (30 < ((gp P i).1.size : Int)) with
        | true => rw [hd] at this; cases this
        | false => have := of_decide_eq_false hd; omega
      | some r =>
        refine ⟨false, ?_, fun h => by cases h⟩
        have hr : r = .inr false := by
          have key : ∀ (k i : Nat), scanF (fun i => bif decide (30 < ((gp P i).1.size : Int)) then some (Sum.inr false : Unit ⊕ Bool) else none) k i = some r → r = .inr false := by
            intro k
            induction k with
            | zero => intro i h; cases h
            | succ k ih =>
              intro i h
              simp only [scanF] at h
              cases hd : decide (30 < ((gp P i).1.size : Int)) with
              | true => rw [hd] at h; injection h with h; exact h.symm
              | false => rw [hd] at h; exact ih (i + 1) h
          exact key _ _ hsc
        rw [hr]; rfl
    · intro i hi
      simp (disch := omega) only [obnd_s, obnd_n, oite_ss, oite_t, oite_f, ogrd_t, ogrd_f, obndS_l, obndS_r, ilt_eq, ile_eq, ieq_eq, imax_e, imin_e, List.length_map, Int.toNat_natCast, decide_true, decide_false, Bool.not_true, Bool.not_false, Bool.not_eq_true, Bool.false_eq_true, if_true, if_false, reduceIte, not_false_eq_true, not_true_eq_false, Int.natCast_nonneg, Int.ofNat_lt, Int.ofNat_le, Bool.cond_true, Bool.cond_false, cond_true, cond_false, Bool.true_and, Bool.and_true, Bool.false_and, Bool.and_false, Bool.true_or, Bool.or_true, Bool.false_or, Bool.or_false, Bool.cond_true_left, Bool.cond_false_right, Bool.cond_true_right, Bool.cond_false_left, hi, get_gp hi, wr]; rfl
    · simp (disch := omega) only [obnd_s, obnd_n, oite_ss, oite_t, oite_f, ogrd_t, ogrd_f, obndS_l, obndS_r, ilt_eq, ile_eq, ieq_eq, imax_e, imin_e, List.length_map, Int.toNat_natCast, decide_true, decide_false, Bool.not_true, Bool.not_false, Bool.not_eq_true, Bool.false_eq_true, if_true, if_false, reduceIte, not_false_eq_true, not_true_eq_false, Int.natCast_nonneg, Int.ofNat_lt, Int.ofNat_le, Bool.cond_true, Bool.cond_false, cond_true, cond_false, Bool.true_and, Bool.and_true, Bool.false_and, Bool.and_false, Bool.true_or, Bool.or_true, Bool.false_or, Bool.or_false, Bool.cond_true_left, Bool.cond_false_right, Bool.cond_true_right, Bool.cond_false_left, Int.lt_irrefl]
theorem stE_0 {n : Nat} {s c d : Int} (h5 : stE n s c d = 0) : (0 ≤ s ∧ s ≤ n) ∧ (0 ≤ c ∧ c ≤ 1000000) ∧ thr0 d = true := by
  unfold stE at h5
  cases h7 : (decide (0 ≤ s) && decide (s ≤ (n : Int)) && (decide (0 ≤ c) && decide (c ≤ 1000000)) && thr0 d) with
  | false => rw [h7] at h5; cases h5
  | true => simp only [Bool.and_eq_true, decide_eq_true_eq] at h7; exact ⟨h7.1.1, h7.1.2, h7.2⟩
end Go.Proofs.YtfdapegcngmknaaGreat.AM
