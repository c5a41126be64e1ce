/- Plain laws: searches in lists. Conditions: none. -/
import Derived.Test.YtfdapegcngmknaaGreatAmP3
namespace Go.Proofs.YtfdapegcngmknaaGreat.AM
set_option linter.unusedSimpArgs false
set_option linter.unusedVariables false
open Go Go.RowKit

theorem f10_e : f10 = some true := rfl
theorem f70_e {p : Int → Option Bool} {l : List Int} (q : Int → Bool) (hp : ∀ x, x ∈ l → p x = some (q x)) (hl : l.length < 4611686018427387904) : f70 p l = some (findI q l) := by
  unfold f70
  rw [oloop_scanB (fun i => (i : Int)) l.length (fun i => q (l.getD i 0)) (fun i => .inr (i : Int)) (d := .inl ()) (e0 := 0) rfl ?_ ?_, scan_find q _ _ l.length l 0 (by omega)]
  · rw [List.drop_zero]; unfold findI
    cases l.findIdx? q with
    | none => rfl
    | some i => simp [obndS_r]
  · intro i hi
    rw [getD_i hi]
    have := hp l[i] (List.getElem_mem hi)
    simp (disch := omega) only [obnd_s, obnd_n, oite_ss, oite_t, oite_f, ogrd_t, ogrd_f, obndS_l, obndS_r, ilt_eq, ile_eq, ieq_eq, imax_e, imin_e, List.length_map, Int.toNat_natCast, decide_true, decide_false, Bool.not_true, Bool.not_false, Bool.not_eq_true, Bool.false_eq_true, if_true, if_false, reduceIte, not_false_eq_true, not_true_eq_false, Int.natCast_nonneg, Int.ofNat_lt, Int.ofNat_le, Bool.cond_true, Bool.cond_false, cond_true, cond_false, Bool.true_and, Bool.and_true, Bool.false_and, Bool.and_false, Bool.true_or, Bool.or_true, Bool.false_or, Bool.or_false, Bool.cond_true_left, Bool.cond_false_right, Bool.cond_true_right, Bool.cond_false_left, hi, get_i hi, wr, this]; rfl
  · simp (disch := omega) only [obnd_s, obnd_n, oite_ss, oite_t, oite_f, ogrd_t, ogrd_f, obndS_l, obndS_r, ilt_eq, ile_eq, ieq_eq, imax_e, imin_e, List.length_map, Int.toNat_natCast, decide_true, decide_false, Bool.not_true, Bool.not_false, Bool.not_eq_true, Bool.false_eq_true, if_true, if_false, reduceIte, not_false_eq_true, not_true_eq_false, Int.natCast_nonneg, Int.ofNat_lt, Int.ofNat_le, Bool.cond_true, Bool.cond_false, cond_true, cond_false, Bool.true_and, Bool.and_true, Bool.false_and, Bool.and_false, Bool.true_or, Bool.or_true, Bool.false_or, Bool.or_false, Bool.cond_true_left, Bool.cond_false_right, Bool.cond_true_right, Bool.cond_false_left, Int.lt_irrefl]
theorem f80_e {p : Int → Option Bool} {l : List Int} (q : Int → Bool) (hp : ∀ x, x ∈ l → p x = some (q x)) (hl : l.length < 4611686018427387904) : f80 p l = some (l.any q) := by
  unfold f80
  rw [f70_e q hp hl]
  simp (disch := omega) only [obnd_s, obnd_n, oite_ss, oite_t, oite_f, ogrd_t, ogrd_f, obndS_l, obndS_r, ilt_eq, ile_eq, ieq_eq, imax_e, imin_e, List.length_map, Int.toNat_natCast, decide_true, decide_false, Bool.not_true, Bool.not_false, Bool.not_eq_true, Bool.false_eq_true, if_true, if_false, reduceIte, not_false_eq_true, not_true_eq_false, Int.natCast_nonneg, Int.ofNat_lt, Int.ofNat_le, Bool.cond_true, Bool.cond_false, cond_true, cond_false, Bool.true_and, Bool.and_true, Bool.false_and, Bool.and_false, Bool.true_or, Bool.or_true, Bool.false_or, Bool.or_false, Bool.cond_true_left, Bool.cond_false_right, Bool.cond_true_right, Bool.cond_false_left, findI_any]
end Go.Proofs.YtfdapegcngmknaaGreat.AM
