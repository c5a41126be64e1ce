/- Plain laws: the program's check of rules. Conditions: none. -/
import Derived.Test.YtfdapegcngmknaaGreatAmP2
namespace Go.Proofs.YtfdapegcngmknaaGreat.AM
set_option linter.unusedSimpArgs false
set_option linter.unusedVariables false
open Go Go.RowKit

theorem f87_e (a : ByteArray) (b : Int) (c : ByteArray) (d : Int) : f87 a b c d = some (a.toList == c.toList) := rfl
theorem f63_3 (a b c : Int) : f63 [a, b, c] = some (fstN [a, b, c]) := f63_e (by simp)
theorem f63_2 (a b : Int) : f63 [a, b] = some (fstN [a, b]) := f63_e (by simp)
theorem f43_e {U D : List Int} {H : Int} {P : List (ByteArray × Int)} (hU : U.length < 4611686018427387904) (hD : D.length < 4611686018427387904) (hP : P.length < 4611686018427387904) (hs : ∀ p, p ∈ P → p.1.size < 4611686018427387904) : f43 U D H P = some (ckR U D H P) := by
  unfold f43 ckR
  have e1 : decide ((0 : Int) < ((U.length : Nat) : Int)) = !decide (U.length = 0) := by rw [← decide_not]; congr 1; exact propext (by omega)
  have e2 : decide (((D.length : Nat) : Int) = ((U.length : Nat) : Int)) = decide (D.length = U.length) := ceq _ _
  have e3 : decide (((U.length : Nat) : Int) ≤ 5) = !decide (5 < U.length) := by rw [← decide_not]; congr 1; exact propext (by omega)
  have e4 : decide (((P.length : Nat) : Int) ≤ 10) = !decide (10 < P.length) := by rw [← decide_not]; congr 1; exact propext (by omega)
  simp (disch := omega) only [obnd_s, obnd_n, oite_ss, oite_t, oite_f, ogrd_t, ogrd_f, obndS_l, obndS_r, ilt_eq, ile_eq, ieq_eq, imax_e, imin_e, List.length_map, Int.toNat_natCast, decide_true, decide_false, Bool.not_true, Bool.not_false, Bool.not_eq_true, Bool.false_eq_true, if_true, if_false, reduceIte, not_false_eq_true, not_true_eq_false, Int.natCast_nonneg, Int.ofNat_lt, Int.ofNat_le, Bool.cond_true, Bool.cond_false, cond_true, cond_false, Bool.true_and, Bool.and_true, Bool.false_and, Bool.and_false, Bool.true_or, Bool.or_true, Bool.false_or, Bool.or_false, Bool.cond_true_left, Bool.cond_false_right, Bool.cond_true_right, Bool.cond_false_left, e1, e2, e3, e4, f64_e, f63_2, fst2]
  cases h1 : (decide (U.length = 0) || !decide (D.length = U.length)) with
  | true =>
    simp only [Bool.or_eq_true] at h1
    rcases h1 with h1 | h1
    · rw [h1]; rfl
    · have : decide (D.length = U.length) = false := by simpa using h1
      rw [this]; cases decide (U.length = 0) <;> rfl
  | false =>
    simp only [Bool.or_eq_false_iff, Bool.not_eq_false', decide_eq_true_eq, decide_eq_false_iff_not] at h1
    rw [show decide (U.length = 0) = false by simpa using h1.1, show decide (D.length = U.length) = true by simpa using h1.2]
    cases h2 : decide (5 < U.length) with
    | true => rfl
    | false =>
      simp (disch := omega) only [obnd_s, obnd_n, oite_ss, oite_t, oite_f, ogrd_t, ogrd_f, obndS_l, obndS_r, ilt_eq, ile_eq, ieq_eq, imax_e, imin_e, List.length_map, Int.toNat_natCast, decide_true, decide_false, Bool.not_true, Bool.not_false, Bool.not_eq_true, Bool.false_eq_true, if_true, if_false, reduceIte, not_false_eq_true, not_true_eq_false, Int.natCast_nonneg, Int.ofNat_lt, Int.ofNat_le, Bool.cond_true, Bool.cond_false, cond_true, cond_false, Bool.true_and, Bool.and_true, Bool.false_and, Bool.and_false, Bool.true_or, Bool.or_true, Bool.false_or, Bool.or_false, Bool.cond_true_left, Bool.cond_false_right, Bool.cond_true_right, Bool.cond_false_left]
      rw [oloop_scanB (fun i => (i : Int)) U.length (fun i => !decide (stepE U D i = 0)) (fun i => .inr ((i : Int), stepE U D i)) (d := .inl ()) (e0 := 0) rfl ?_ ?_, errs_scan (stepE U D) U.length (Sum.inr : Int × Int → Unit ⊕ (Int × Int))]
      · cases errs (stepE U D) U.length with
        | some r => rfl
        | none =>
          simp (disch := omega) only [obnd_s, obnd_n, oite_ss, oite_t, oite_f, ogrd_t, ogrd_f, obndS_l, obndS_r, ilt_eq, ile_eq, ieq_eq, imax_e, imin_e, List.length_map, Int.toNat_natCast, decide_true, decide_false, Bool.not_true, Bool.not_false, Bool.not_eq_true, Bool.false_eq_true, if_true, if_false, reduceIte, not_false_eq_true, not_true_eq_false, Int.natCast_nonneg, Int.ofNat_lt, Int.ofNat_le, Bool.cond_true, Bool.cond_false, cond_true, cond_false, Bool.true_and, Bool.and_true, Bool.false_and, Bool.and_false, Bool.true_or, Bool.or_true, Bool.false_or, Bool.or_false, Bool.cond_true_left, Bool.cond_false_right, Bool.cond_true_right, Bool.cond_false_left, Option.map_none, Option.getD_none, f65_e]
          cases (decide (0 ≤ H) && decide (H ≤ 1000000)) with
          | false => rfl
          | true =>
            simp (disch := omega) only [obnd_s, obnd_n, oite_ss, oite_t, oite_f, ogrd_t, ogrd_f, obndS_l, obndS_r, ilt_eq, ile_eq, ieq_eq, imax_e, imin_e, List.length_map, Int.toNat_natCast, decide_true, decide_false, Bool.not_true, Bool.not_false, Bool.not_eq_true, Bool.false_eq_true, if_true, if_false, reduceIte, not_false_eq_true, not_true_eq_false, Int.natCast_nonneg, Int.ofNat_lt, Int.ofNat_le, Bool.cond_true, Bool.cond_false, cond_true, cond_false, Bool.true_and, Bool.and_true, Bool.false_and, Bool.and_false, Bool.true_or, Bool.or_true, Bool.false_or, Bool.or_false, Bool.cond_true_left, Bool.cond_false_right, Bool.cond_true_right, Bool.cond_false_left]
            cases decide (10 < P.length) with
            | true => rfl
            | false =>
              simp (disch := omega) only [obnd_s, obnd_n, oite_ss, oite_t, oite_f, ogrd_t, ogrd_f, obndS_l, obndS_r, ilt_eq, ile_eq, ieq_eq, imax_e, imin_e, List.length_map, Int.toNat_natCast, decide_true, decide_false, Bool.not_true, Bool.not_false, Bool.not_eq_true, Bool.false_eq_true, if_true, if_false, reduceIte, not_false_eq_true, not_true_eq_false, Int.natCast_nonneg, Int.ofNat_lt, Int.ofNat_le, Bool.cond_true, Bool.cond_false, cond_true, cond_false, Bool.true_and, Bool.and_true, Bool.false_and, Bool.and_false, Bool.true_or, Bool.or_true, Bool.false_or, Bool.or_false, Bool.cond_true_left, Bool.cond_false_right, Bool.cond_true_right, Bool.cond_false_left]
              rw [oloop_scanB (fun i => (i : Int)) P.length (fun i => !decide (persE U.length P i = 0)) (fun i => .inr ((i : Int), persE U.length P i)) (d := .inl ()) (e0 := 0) rfl ?_ ?_, errs_scan (persE U.length P) P.length (Sum.inr : Int × Int → Unit ⊕ (Int × Int))]
              · cases errs (persE U.length P) P.length <;> rfl
              · intro i hi
                have hn := hs (gp P i) (by unfold gp; rw [getD_i hi]; exact List.getElem_mem hi)
                simp (disch := omega) only [obnd_s, obnd_n, oite_ss, oite_t, oite_f, ogrd_t, ogrd_f, obndS_l, obndS_r, ilt_eq, ile_eq, ieq_eq, imax_e, imin_e, List.length_map, Int.toNat_natCast, decide_true, decide_false, Bool.not_true, Bool.not_false, Bool.not_eq_true, Bool.false_eq_true, if_true, if_false, reduceIte, not_false_eq_true, not_true_eq_false, Int.natCast_nonneg, Int.ofNat_lt, Int.ofNat_le, Bool.cond_true, Bool.cond_false, cond_true, cond_false, Bool.true_and, Bool.and_true, Bool.false_and, Bool.and_false, Bool.true_or, Bool.or_true, Bool.false_or, Bool.or_false, Bool.cond_true_left, Bool.cond_false_right, Bool.cond_true_right, Bool.cond_false_left, hi, get_gp hi, f88_e hn, oslH_n (Nat.le_of_lt hi), f86_e (p := fun z0 z1 => f87 z0 z1 (gp P i).1 (gp P i).2) (l := P.take i) (fun x => x.1.toList == (gp P i).1.toList) (fun _ _ => f87_e _ _ _ _) (by rw [List.length_take]; omega), f65_e, f63_3, fst3, wr]
                unfold persE
                rw [show (List.any (P.take i) fun x => x.1.toList == (gp P i).1.toList) = knownP P i from rfl]
                cases nameB (gp P i).1 <;> cases knownP P i <;> cases (decide (1 ≤ (gp P i).2) && decide ((gp P i).2 ≤ (U.length : Int))) <;> rfl
              · simp (disch := omega) only [obnd_s, obnd_n, oite_ss, oite_t, oite_f, ogrd_t, ogrd_f, obndS_l, obndS_r, ilt_eq, ile_eq, ieq_eq, imax_e, imin_e, List.length_map, Int.toNat_natCast, decide_true, decide_false, Bool.not_true, Bool.not_false, Bool.not_eq_true, Bool.false_eq_true, if_true, if_false, reduceIte, not_false_eq_true, not_true_eq_false, Int.natCast_nonneg, Int.ofNat_lt, Int.ofNat_le, Bool.cond_true, Bool.cond_false, cond_true, cond_false, Bool.true_and, Bool.and_true, Bool.false_and, Bool.and_false, Bool.true_or, Bool.or_true, Bool.false_or, Bool.or_false, Bool.cond_true_left, Bool.cond_false_right, Bool.cond_true_right, Bool.cond_false_left, Int.lt_irrefl]
      · intro i hi
        have hD' : i < D.length := by omega
        rcases i with _ | j
        · simp (disch := omega) only [obnd_s, obnd_n, oite_ss, oite_t, oite_f, ogrd_t, ogrd_f, obndS_l, obndS_r, ilt_eq, ile_eq, ieq_eq, imax_e, imin_e, List.length_map, Int.toNat_natCast, decide_true, decide_false, Bool.not_true, Bool.not_false, Bool.not_eq_true, Bool.false_eq_true, if_true, if_false, reduceIte, not_false_eq_true, not_true_eq_false, Int.natCast_nonneg, Int.ofNat_lt, Int.ofNat_le, Bool.cond_true, Bool.cond_false, cond_true, cond_false, Bool.true_and, Bool.and_true, Bool.false_and, Bool.and_false, Bool.true_or, Bool.or_true, Bool.false_or, Bool.or_false, Bool.cond_true_left, Bool.cond_false_right, Bool.cond_true_right, Bool.cond_false_left, hi, get_gi hi, get_gi hD', f85_e, f63_3, fst3, wr, show decide (((0 : Nat) : Int) = 0) = true from rfl]
          unfold stepE
          have e5 : decide (gi D 0 ≤ gi U 0) = !decide (gi U 0 < gi D 0) := by rw [← decide_not]; congr 1; exact propext (by omega)
          rw [e5]
          cases thr (gi U 0) <;> cases thr (gi D 0) <;> cases decide (gi U 0 < gi D 0) <;> rfl
        · have hw : (((j + 1 : Nat) : Int) - 1) = (j : Int) := by omega
          have hm : max 0 (j : Int) = (j : Int) := by omega
          have e6 : decide (((j + 1 : Nat) : Int) = 0) = false := by simp; omega
          simp (disch := omega) only [obnd_s, obnd_n, oite_ss, oite_t, oite_f, ogrd_t, ogrd_f, obndS_l, obndS_r, ilt_eq, ile_eq, ieq_eq, imax_e, imin_e, List.length_map, Int.toNat_natCast, decide_true, decide_false, Bool.not_true, Bool.not_false, Bool.not_eq_true, Bool.false_eq_true, if_true, if_false, reduceIte, not_false_eq_true, not_true_eq_false, Int.natCast_nonneg, Int.ofNat_lt, Int.ofNat_le, Bool.cond_true, Bool.cond_false, cond_true, cond_false, Bool.true_and, Bool.and_true, Bool.false_and, Bool.and_false, Bool.true_or, Bool.or_true, Bool.false_or, Bool.or_false, Bool.cond_true_left, Bool.cond_false_right, Bool.cond_true_right, Bool.cond_false_left, hi, get_gi hi, get_gi hD', f85_e, f63_3, fst3, wr, e6, hw, hm, get_gi (show j < U.length by omega), get_gi (show j < D.length by omega)]
          unfold stepE
          have e5 : decide (gi D (j + 1) ≤ gi U (j + 1)) = !decide (gi U (j + 1) < gi D (j + 1)) := by rw [← decide_not]; congr 1; exact propext (by omega)
          have e7 : decide (gi U j < gi U (j + 1)) = !decide (gi U (j + 1) ≤ gi U j) := by rw [← decide_not]; congr 1; exact propext (by omega)
          have e8 : decide (gi D j ≤ gi D (j + 1)) = !decide (gi D (j + 1) < gi D j) := by rw [← decide_not]; congr 1; exact propext (by omega)
          rw [e5, e7, e8]
          simp (disch := omega) only [obnd_s, obnd_n, oite_ss, oite_t, oite_f, ogrd_t, ogrd_f, obndS_l, obndS_r, ilt_eq, ile_eq, ieq_eq, imax_e, imin_e, List.length_map, Int.toNat_natCast, decide_true, decide_false, Bool.not_true, Bool.not_false, Bool.not_eq_true, Bool.false_eq_true, if_true, if_false, reduceIte, not_false_eq_true, not_true_eq_false, Int.natCast_nonneg, Int.ofNat_lt, Int.ofNat_le, Bool.cond_true, Bool.cond_false, cond_true, cond_false, Bool.true_and, Bool.and_true, Bool.false_and, Bool.and_false, Bool.true_or, Bool.or_true, Bool.false_or, Bool.or_false, Bool.cond_true_left, Bool.cond_false_right, Bool.cond_true_right, Bool.cond_false_left, Nat.zero_lt_succ, Nat.add_sub_cancel]
          cases thr (gi U (j + 1)) <;> cases thr (gi D (j + 1)) <;> cases decide (gi U (j + 1) < gi D (j + 1)) <;> cases decide (gi U (j + 1) ≤ gi U j) <;> cases decide (gi D (j + 1) < gi D j) <;> rfl
      · simp (disch := omega) only [obnd_s, obnd_n, oite_ss, oite_t, oite_f, ogrd_t, ogrd_f, obndS_l, obndS_r, ilt_eq, ile_eq, ieq_eq, imax_e, imin_e, List.length_map, Int.toNat_natCast, decide_true, decide_false, Bool.not_true, Bool.not_false, Bool.not_eq_true, Bool.false_eq_true, if_true, if_false, reduceIte, not_false_eq_true, not_true_eq_false, Int.natCast_nonneg, Int.ofNat_lt, Int.ofNat_le, Bool.cond_true, Bool.cond_false, cond_true, cond_false, Bool.true_and, Bool.and_true, Bool.false_and, Bool.and_false, Bool.true_or, Bool.or_true, Bool.false_or, Bool.or_false, Bool.cond_true_left, Bool.cond_false_right, Bool.cond_true_right, Bool.cond_false_left, Int.lt_irrefl]
end Go.Proofs.YtfdapegcngmknaaGreat.AM
