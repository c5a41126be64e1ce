/- Plain laws: the state after deviations, the program's. Conditions: none. -/
import Derived.Test.YtfdapegcngmknaaGreatAmP5
namespace Go.Proofs.YtfdapegcngmknaaGreat.AM
set_option linter.unusedSimpArgs false
set_option linter.unusedVariables false
open Go Go.RowKit

theorem f81_e (n : Int) : f81 n = some (!thr0 n) := by unfold f81; simp (disch := omega) only [obnd_s, obnd_n, oite_ss, oite_t, oite_f, ogrd_t, ogrd_f, obndS_l, obndS_r, ilt_eq, ile_eq, ieq_eq, imax_e, imin_e, List.length_map, Int.toNat_natCast, decide_true, decide_false, Bool.not_true, Bool.not_false, Bool.not_eq_true, Bool.false_eq_true, if_true, if_false, reduceIte, not_false_eq_true, not_true_eq_false, Int.natCast_nonneg, Int.ofNat_lt, Int.ofNat_le, Bool.cond_true, Bool.cond_false, cond_true, cond_false, Bool.true_and, Bool.and_true, Bool.false_and, Bool.and_false, Bool.true_or, Bool.or_true, Bool.false_or, Bool.or_false, Bool.cond_true_left, Bool.cond_false_right, Bool.cond_true_right, Bool.cond_false_left, f82_e]
theorem f39_e {U D : List Int} {H : Int} {P : List (ByteArray × Int)} (h : small U D P) : f39 U D H P = some (ckR U D H P).2 := by unfold f39; rw [ck46 h]; rfl
theorem wat_ok {U D : List Int} {s c d : Int} (hs : 0 ≤ s ∧ s ≤ U.length) (hc : 0 ≤ c ∧ c ≤ 1000000) : (0 ≤ (wat U D s c d).1 ∧ (wat U D s c d).1 ≤ U.length) ∧ (0 ≤ (wat U D s c d).2.1 ∧ (wat U D s c d).2.1 ≤ 1000000) := by
  have := askN_le U d U.length
  unfold wat
  cases decide (s < (askN U d U.length : Int)) with
  | true => simp only [cond_true]; omega
  | false =>
    simp only [cond_false]
    cases decide (0 < s) && decide (d < gi D (s - 1).toNat) with
    | true => simp only [cond_true]; omega
    | false => simp only [cond_false]; omega
def watL (U D : List Int) (L : List Int) : Nat → Int × Int × Int
  | 0 => (0, 0, 0)
  | i + 1 => wat U D (watL U D L i).1 (watL U D L i).2.1 (gi L i)
theorem watL_ok (U D L : List Int) : ∀ i, (0 ≤ (watL U D L i).1 ∧ (watL U D L i).1 ≤ U.length) ∧ (0 ≤ (watL U D L i).2.1 ∧ (watL U D L i).2.1 ≤ 1000000)
  | 0 => by simp [watL]
  | i + 1 => wat_ok (watL_ok U D L i).1 (watL_ok U D L i).2
theorem f36_e {U D : List Int} {H : Int} {P : List (ByteArray × Int)} {L : List Int} (h : small U D P) (hL : L.length ≤ 1000) : f36 U D H P L = some (bif !decide ((ckR U D H P).2 = 0) then (0, 0, 0, (ckR U D H P).2) else bif decide (100 < L.length) then (0, 0, 0, 8) else bif L.any (fun n => !thr0 n) then (0, 0, 0, 2) else ((watL U D L L.length).1, (watL U D L L.length).2.1, (watL U D L L.length).2.2, 0)) := by
  unfold f36
  have e1 : decide (((L.length : Nat) : Int) ≤ 100) = !decide (100 < L.length) := by rw [← decide_not]; congr 1; exact propext (by omega)
  rw [f79_e h]
  simp (disch := omega) only [obnd_s, obnd_n, oite_ss, oite_t, oite_f, ogrd_t, ogrd_f, obndS_l, obndS_r, ilt_eq, ile_eq, ieq_eq, imax_e, imin_e, List.length_map, Int.toNat_natCast, decide_true, decide_false, Bool.not_true, Bool.not_false, Bool.not_eq_true, Bool.false_eq_true, if_true, if_false, reduceIte, not_false_eq_true, not_true_eq_false, Int.natCast_nonneg, Int.ofNat_lt, Int.ofNat_le, Bool.cond_true, Bool.cond_false, cond_true, cond_false, Bool.true_and, Bool.and_true, Bool.false_and, Bool.and_false, Bool.true_or, Bool.or_true, Bool.false_or, Bool.or_false, Bool.cond_true_left, Bool.cond_false_right, Bool.cond_true_right, Bool.cond_false_left, f80_e (p := fun z0 => f81 z0) (l := L) (fun n => !thr0 n) (fun x _ => f81_e x) (by omega), f64_e, f63_3, fst3, e1]
  cases h1 : decide ((ckR U D H P).2 = 0) with
  | false =>
    have h2 := of_decide_eq_false h1
    simp only [if_neg h2, h1, Bool.not_false, oite_t, cond_true]
  | true =>
    have h2 := of_decide_eq_true h1
    obtain ⟨h3, _⟩ := ckR_ok h2
    simp only [if_pos h2, Bool.not_true, cond_false]
    cases decide (100 < L.length) with
    | true => rfl
    | false =>
      cases L.any (fun n => !thr0 n) with
      | true => rfl
      | false =>
        simp (disch := omega) only [obnd_s, obnd_n, oite_ss, oite_t, oite_f, ogrd_t, ogrd_f, obndS_l, obndS_r, ilt_eq, ile_eq, ieq_eq, imax_e, imin_e, List.length_map, Int.toNat_natCast, decide_true, decide_false, Bool.not_true, Bool.not_false, Bool.not_eq_true, Bool.false_eq_true, if_true, if_false, reduceIte, not_false_eq_true, not_true_eq_false, Int.natCast_nonneg, Int.ofNat_lt, Int.ofNat_le, Bool.cond_true, Bool.cond_false, cond_true, cond_false, Bool.true_and, Bool.and_true, Bool.false_and, Bool.and_false, Bool.true_or, Bool.or_true, Bool.false_or, Bool.or_false, Bool.cond_true_left, Bool.cond_false_right, Bool.cond_true_right, Bool.cond_false_left]
        rw [oloop_all (fun i => ((watL U D L i).1, (watL U D L i).2.1, (watL U D L i).2.2, (i : Int))) L.length (r := ((watL U D L L.length).1, (watL U D L L.length).2.1, (watL U D L L.length).2.2)) (e0 := (((0 : Int), (0 : Int), (0 : Int), (0 : Int)))) rfl ?_ ?_]; rfl
        · intro i hi
          have hw := watL_ok U D L i
          simp (disch := omega) only [obnd_s, obnd_n, oite_ss, oite_t, oite_f, ogrd_t, ogrd_f, obndS_l, obndS_r, ilt_eq, ile_eq, ieq_eq, imax_e, imin_e, List.length_map, Int.toNat_natCast, decide_true, decide_false, Bool.not_true, Bool.not_false, Bool.not_eq_true, Bool.false_eq_true, if_true, if_false, reduceIte, not_false_eq_true, not_true_eq_false, Int.natCast_nonneg, Int.ofNat_lt, Int.ofNat_le, Bool.cond_true, Bool.cond_false, cond_true, cond_false, Bool.true_and, Bool.and_true, Bool.false_and, Bool.and_false, Bool.true_or, Bool.or_true, Bool.false_or, Bool.or_false, Bool.cond_true_left, Bool.cond_false_right, Bool.cond_true_right, Bool.cond_false_left, hi, get_gi hi, f83_w h3 hw.1 hw.2, wr]; rfl
        · simp (disch := omega) only [obnd_s, obnd_n, oite_ss, oite_t, oite_f, ogrd_t, ogrd_f, obndS_l, obndS_r, ilt_eq, ile_eq, ieq_eq, imax_e, imin_e, List.length_map, Int.toNat_natCast, decide_true, decide_false, Bool.not_true, Bool.not_false, Bool.not_eq_true, Bool.false_eq_true, if_true, if_false, reduceIte, not_false_eq_true, not_true_eq_false, Int.natCast_nonneg, Int.ofNat_lt, Int.ofNat_le, Bool.cond_true, Bool.cond_false, cond_true, cond_false, Bool.true_and, Bool.and_true, Bool.false_and, Bool.and_false, Bool.true_or, Bool.or_true, Bool.false_or, Bool.or_false, Bool.cond_true_left, Bool.cond_false_right, Bool.cond_true_right, Bool.cond_false_left, Int.lt_irrefl]
end Go.Proofs.YtfdapegcngmknaaGreat.AM
