/- Plain law: DispatchActivations, from chapter 8's examples (f198). Conditions: none. -/
import Derived.Test.YtmbekcealcjabaaAmQ1
namespace Go.Proofs.Ytmbekcealcjabaa.AM
set_option linter.unusedSimpArgs false
set_option linter.unusedVariables false
open Go Go.RowKit

theorem f196_true (hA : f198 = some true) (a r : Int) (W M : List Int) : f196 a r W M = some true := by
  unfold f196
  rw [hA, f199_e, f199_e]
  cases hW : (decide (W.length ≤ 80) || (decide (300 < W.length) && decide (W.length ≤ 302))) with
  | false => rfl
  | true =>
    cases hM : (decide (M.length ≤ 80) || (decide (300 < M.length) && decide (M.length ≤ 302))) with
    | false => rfl
    | true =>
      have hW' : W.length ≤ 1000 := by simp only [Bool.or_eq_true, Bool.and_eq_true, decide_eq_true_eq] at hW; omega
      have hM' : M.length ≤ 1000 := by simp only [Bool.or_eq_true, Bool.and_eq_true, decide_eq_true_eq] at hM; omega
      rw [f38_e (by omega), f38_e (by omega), f202_e, f203_e hW', f203_e hM']
      simp only [obnd_s, Bool.not_true, oite_f]
      by_cases h1 : folE a r W = 0
      · obtain ⟨h2, h3⟩ := fol_0 h1
        rw [f200_ok hW' h1, f204_ok hW' h1]
        by_cases h4 : setE W M = 0
        · obtain ⟨_, h5, h6⟩ := set_0 h4
          rw [f201_ok h4, f205_ok h4]
          simp (disch := omega) only [obnd_s, obnd_n, oite_ss, oite_t, oite_f, ogrd_t, ogrd_f, obndS_l, obndS_r, ilt_eq, ile_eq, ieq_eq, imax_e, imin_e, List.length_map, Int.toNat_natCast, decide_true, decide_false, Bool.not_true, Bool.not_false, Bool.not_eq_true, Bool.false_eq_true, if_true, if_false, reduceIte, not_false_eq_true, not_true_eq_false, Int.natCast_nonneg, Int.ofNat_lt, Int.ofNat_le, Bool.cond_true, Bool.cond_false, cond_true, cond_false, Bool.true_and, Bool.and_true, Bool.false_and, Bool.and_false, Bool.true_or, Bool.or_true, Bool.false_or, Bool.or_false, Bool.cond_true_left, Bool.cond_false_right, Bool.cond_true_right, Bool.cond_false_left, h2, h3, h5, decide_eq_true h6, ceqN, f26_refl (l := fwL a r W W.length) (by rw [fwL_len]; omega)]
        · rw [f201_bad hW' hM' h4]
          unfold setE at h4 ⊢
          rw [if_pos h3] at h4 ⊢
          by_cases h5 : pwsE M = 0
          · rw [if_pos h5] at h4 ⊢
            cases h6 : decide (W.length = M.length) with
            | true => rw [h6] at h4; exact absurd rfl h4
            | false => simp (disch := omega) only [obnd_s, obnd_n, oite_ss, oite_t, oite_f, ogrd_t, ogrd_f, obndS_l, obndS_r, ilt_eq, ile_eq, ieq_eq, imax_e, imin_e, List.length_map, Int.toNat_natCast, decide_true, decide_false, Bool.not_true, Bool.not_false, Bool.not_eq_true, Bool.false_eq_true, if_true, if_false, reduceIte, not_false_eq_true, not_true_eq_false, Int.natCast_nonneg, Int.ofNat_lt, Int.ofNat_le, Bool.cond_true, Bool.cond_false, cond_true, cond_false, Bool.true_and, Bool.and_true, Bool.false_and, Bool.and_false, Bool.true_or, Bool.or_true, Bool.false_or, Bool.or_false, Bool.cond_true_left, Bool.cond_false_right, Bool.cond_true_right, Bool.cond_false_left, h2, h3, h5, h6, ceqN, f26_refl (l := fwL a r W W.length) (by rw [fwL_len]; omega)]; rfl
          · rw [if_neg h5] at h4 ⊢
            simp (disch := omega) only [obnd_s, obnd_n, oite_ss, oite_t, oite_f, ogrd_t, ogrd_f, obndS_l, obndS_r, ilt_eq, ile_eq, ieq_eq, imax_e, imin_e, List.length_map, Int.toNat_natCast, decide_true, decide_false, Bool.not_true, Bool.not_false, Bool.not_eq_true, Bool.false_eq_true, if_true, if_false, reduceIte, not_false_eq_true, not_true_eq_false, Int.natCast_nonneg, Int.ofNat_lt, Int.ofNat_le, Bool.cond_true, Bool.cond_false, cond_true, cond_false, Bool.true_and, Bool.and_true, Bool.false_and, Bool.and_false, Bool.true_or, Bool.or_true, Bool.false_or, Bool.or_false, Bool.cond_true_left, Bool.cond_false_right, Bool.cond_true_right, Bool.cond_false_left, h2, h3, h5, f26_refl (l := fwL a r W W.length) (by rw [fwL_len]; omega)]
      · rw [f200_bad hW' h1]
        by_cases hr : rampE a r = 0
        · have h3 : pwsE W ≠ 0 := by unfold folE at h1; rw [if_pos hr] at h1; exact h1
          have h4 : setE W M = pwsE W := by unfold setE; rw [if_neg h3]
          have h5 : folE a r W = pwsE W := by unfold folE; rw [if_pos hr]
          rw [f201_bad hW' hM' (by rw [h4]; exact h3), h4, h5]
          simp (disch := omega) only [obnd_s, obnd_n, oite_ss, oite_t, oite_f, ogrd_t, ogrd_f, obndS_l, obndS_r, ilt_eq, ile_eq, ieq_eq, imax_e, imin_e, List.length_map, Int.toNat_natCast, decide_true, decide_false, Bool.not_true, Bool.not_false, Bool.not_eq_true, Bool.false_eq_true, if_true, if_false, reduceIte, not_false_eq_true, not_true_eq_false, Int.natCast_nonneg, Int.ofNat_lt, Int.ofNat_le, Bool.cond_true, Bool.cond_false, cond_true, cond_false, Bool.true_and, Bool.and_true, Bool.false_and, Bool.and_false, Bool.true_or, Bool.or_true, Bool.false_or, Bool.or_false, Bool.cond_true_left, Bool.cond_false_right, Bool.cond_true_right, Bool.cond_false_left, hr, h3, List.length_nil]
          try rfl
        · have h5 : folE a r W = rampE a r := by unfold folE; rw [if_neg hr]
          rw [h5]
          by_cases h4 : setE W M = 0
          · obtain ⟨h3, h5, h6⟩ := set_0 h4
            rw [f201_ok h4, f205_ok h4]
            simp (disch := omega) only [obnd_s, obnd_n, oite_ss, oite_t, oite_f, ogrd_t, ogrd_f, obndS_l, obndS_r, ilt_eq, ile_eq, ieq_eq, imax_e, imin_e, List.length_map, Int.toNat_natCast, decide_true, decide_false, Bool.not_true, Bool.not_false, Bool.not_eq_true, Bool.false_eq_true, if_true, if_false, reduceIte, not_false_eq_true, not_true_eq_false, Int.natCast_nonneg, Int.ofNat_lt, Int.ofNat_le, Bool.cond_true, Bool.cond_false, cond_true, cond_false, Bool.true_and, Bool.and_true, Bool.false_and, Bool.and_false, Bool.true_or, Bool.or_true, Bool.false_or, Bool.or_false, Bool.cond_true_left, Bool.cond_false_right, Bool.cond_true_right, Bool.cond_false_left, hr, h3, h5, decide_eq_true h6, ceqN, List.length_nil]
            try rfl
          · rw [f201_bad hW' hM' h4]
            by_cases h3 : pwsE W = 0
            · unfold setE at h4 ⊢
              rw [if_pos h3] at h4 ⊢
              by_cases h5 : pwsE M = 0
              · rw [if_pos h5] at h4 ⊢
                cases h6 : decide (W.length = M.length) with
                | true => rw [h6] at h4; exact absurd rfl h4
                | false =>
                  simp (disch := omega) only [obnd_s, obnd_n, oite_ss, oite_t, oite_f, ogrd_t, ogrd_f, obndS_l, obndS_r, ilt_eq, ile_eq, ieq_eq, imax_e, imin_e, List.length_map, Int.toNat_natCast, decide_true, decide_false, Bool.not_true, Bool.not_false, Bool.not_eq_true, Bool.false_eq_true, if_true, if_false, reduceIte, not_false_eq_true, not_true_eq_false, Int.natCast_nonneg, Int.ofNat_lt, Int.ofNat_le, Bool.cond_true, Bool.cond_false, cond_true, cond_false, Bool.true_and, Bool.and_true, Bool.false_and, Bool.and_false, Bool.true_or, Bool.or_true, Bool.false_or, Bool.or_false, Bool.cond_true_left, Bool.cond_false_right, Bool.cond_true_right, Bool.cond_false_left, hr, h3, h5, h6, ceqN, List.length_nil]
                  try rfl
              · rw [if_neg h5] at h4 ⊢
                simp (disch := omega) only [obnd_s, obnd_n, oite_ss, oite_t, oite_f, ogrd_t, ogrd_f, obndS_l, obndS_r, ilt_eq, ile_eq, ieq_eq, imax_e, imin_e, List.length_map, Int.toNat_natCast, decide_true, decide_false, Bool.not_true, Bool.not_false, Bool.not_eq_true, Bool.false_eq_true, if_true, if_false, reduceIte, not_false_eq_true, not_true_eq_false, Int.natCast_nonneg, Int.ofNat_lt, Int.ofNat_le, Bool.cond_true, Bool.cond_false, cond_true, cond_false, Bool.true_and, Bool.and_true, Bool.false_and, Bool.and_false, Bool.true_or, Bool.or_true, Bool.false_or, Bool.or_false, Bool.cond_true_left, Bool.cond_false_right, Bool.cond_true_right, Bool.cond_false_left, hr, h3, h5, List.length_nil]
                try rfl
            · unfold setE at h4 ⊢
              rw [if_neg h3] at h4 ⊢
              simp (disch := omega) only [obnd_s, obnd_n, oite_ss, oite_t, oite_f, ogrd_t, ogrd_f, obndS_l, obndS_r, ilt_eq, ile_eq, ieq_eq, imax_e, imin_e, List.length_map, Int.toNat_natCast, decide_true, decide_false, Bool.not_true, Bool.not_false, Bool.not_eq_true, Bool.false_eq_true, if_true, if_false, reduceIte, not_false_eq_true, not_true_eq_false, Int.natCast_nonneg, Int.ofNat_lt, Int.ofNat_le, Bool.cond_true, Bool.cond_false, cond_true, cond_false, Bool.true_and, Bool.and_true, Bool.false_and, Bool.and_false, Bool.true_or, Bool.or_true, Bool.false_or, Bool.or_false, Bool.cond_true_left, Bool.cond_false_right, Bool.cond_true_right, Bool.cond_false_left, hr, h3, List.length_nil]
              try rfl
end Go.Proofs.Ytmbekcealcjabaa.AM
