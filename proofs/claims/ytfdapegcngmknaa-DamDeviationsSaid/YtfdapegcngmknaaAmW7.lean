/- Plain law: DamDeviations. Conditions: none. -/
import Derived.Test.YtfdapegcngmknaaAmW8
namespace Go.Proofs.Ytfdapegcngmknaa.AM
set_option linter.unusedSimpArgs false
set_option linter.unusedVariables false
open Go Go.RowKit

theorem f70_e {p : Int → Option Bool} {l : List Int} (q : Int → Bool) (hp : ∀ x, x ∈ l → p x = some (q x)) (hl : l.length < 4611686018427387904) : f70 p l = some (findI q l) := by
  unfold f70
  rw [oloop_scanB (fun i => (i : Int)) l.length (fun i => q (l.getD i 0)) (fun i => .inr (i : Int)) (d := .inl ()) (e0 := 0) rfl ?_ ?_, scan_find q _ _ l.length l 0 (by omega)]
  · rw [List.drop_zero]; unfold findI
    cases l.findIdx? q with
    | none => rfl
    | some i => simp [obndS_r]
  · intro i hi
    rw [getD_i hi]
    have := hp l[i] (List.getElem_mem hi)
    simp (disch := omega) only [obnd_s, obnd_n, oite_ss, oite_t, oite_f, ogrd_t, ogrd_f, obndS_l, obndS_r, ilt_eq, ile_eq, ieq_eq, imax_e, imin_e, List.length_map, Int.toNat_natCast, decide_true, decide_false, Bool.not_true, Bool.not_false, Bool.not_eq_true, Bool.false_eq_true, if_true, if_false, reduceIte, not_false_eq_true, not_true_eq_false, Int.natCast_nonneg, Int.ofNat_lt, Int.ofNat_le, Bool.cond_true, Bool.cond_false, cond_true, cond_false, Bool.true_and, Bool.and_true, Bool.false_and, Bool.and_false, Bool.true_or, Bool.or_true, Bool.false_or, Bool.or_false, Bool.cond_true_left, Bool.cond_false_right, Bool.cond_true_right, Bool.cond_false_left, hi, get_i hi, wr, this]; rfl
  · simp (disch := omega) only [obnd_s, obnd_n, oite_ss, oite_t, oite_f, ogrd_t, ogrd_f, obndS_l, obndS_r, ilt_eq, ile_eq, ieq_eq, imax_e, imin_e, List.length_map, Int.toNat_natCast, decide_true, decide_false, Bool.not_true, Bool.not_false, Bool.not_eq_true, Bool.false_eq_true, if_true, if_false, reduceIte, not_false_eq_true, not_true_eq_false, Int.natCast_nonneg, Int.ofNat_lt, Int.ofNat_le, Bool.cond_true, Bool.cond_false, cond_true, cond_false, Bool.true_and, Bool.and_true, Bool.false_and, Bool.and_false, Bool.true_or, Bool.or_true, Bool.false_or, Bool.or_false, Bool.cond_true_left, Bool.cond_false_right, Bool.cond_true_right, Bool.cond_false_left, Int.lt_irrefl]
theorem f80_e {p : Int → Option Bool} {l : List Int} (q : Int → Bool) (hp : ∀ x, x ∈ l → p x = some (q x)) (hl : l.length < 4611686018427387904) : f80 p l = some (l.any q) := by
  unfold f80
  rw [f70_e q hp hl]
  simp (disch := omega) only [obnd_s, obnd_n, oite_ss, oite_t, oite_f, ogrd_t, ogrd_f, obndS_l, obndS_r, ilt_eq, ile_eq, ieq_eq, imax_e, imin_e, List.length_map, Int.toNat_natCast, decide_true, decide_false, Bool.not_true, Bool.not_false, Bool.not_eq_true, Bool.false_eq_true, if_true, if_false, reduceIte, not_false_eq_true, not_true_eq_false, Int.natCast_nonneg, Int.ofNat_lt, Int.ofNat_le, Bool.cond_true, Bool.cond_false, cond_true, cond_false, Bool.true_and, Bool.and_true, Bool.false_and, Bool.and_false, Bool.true_or, Bool.or_true, Bool.false_or, Bool.or_false, Bool.cond_true_left, Bool.cond_false_right, Bool.cond_true_right, Bool.cond_false_left, findI_any]
theorem f81_e (n : Int) : f81 n = some (!thr0 n) := by unfold f81; simp (disch := omega) only [obnd_s, obnd_n, oite_ss, oite_t, oite_f, ogrd_t, ogrd_f, obndS_l, obndS_r, ilt_eq, ile_eq, ieq_eq, imax_e, imin_e, List.length_map, Int.toNat_natCast, decide_true, decide_false, Bool.not_true, Bool.not_false, Bool.not_eq_true, Bool.false_eq_true, if_true, if_false, reduceIte, not_false_eq_true, not_true_eq_false, Int.natCast_nonneg, Int.ofNat_lt, Int.ofNat_le, Bool.cond_true, Bool.cond_false, cond_true, cond_false, Bool.true_and, Bool.and_true, Bool.false_and, Bool.and_false, Bool.true_or, Bool.or_true, Bool.false_or, Bool.or_false, Bool.cond_true_left, Bool.cond_false_right, Bool.cond_true_right, Bool.cond_false_left, f82_e]
theorem f39_e {U D : List Int} {H : Int} {P : List (ByteArray × Int)} (h : small U D P) : f39 U D H P = some (ckR U D H P).2 := by unfold f39; rw [ck46 h]; rfl
theorem wat_ok {U D : List Int} {s c d : Int} (hs : 0 ≤ s ∧ s ≤ U.length) (hc : 0 ≤ c ∧ c ≤ 1000000) : (0 ≤ (wat U D s c d).1 ∧ (wat U D s c d).1 ≤ U.length) ∧ (0 ≤ (wat U D s c d).2.1 ∧ (wat U D s c d).2.1 ≤ 1000000) := by
  have := askN_le U d U.length
  unfold wat
  cases decide (s < (askN U d U.length : Int)) with
  | true => simp only [cond_true]; omega
  | false =>
    simp only [cond_false]
    cases decide (0 < s) && decide (d < gi D (s - 1).toNat) with
    | true => simp only [cond_true]; omega
    | false => simp only [cond_false]; omega
def watL (U D : List Int) (L : List Int) : Nat → Int × Int × Int
  | 0 => (0, 0, 0)
  | i + 1 => wat U D (watL U D L i).1 (watL U D L i).2.1 (gi L i)
theorem watL_ok (U D L : List Int) : ∀ i, (0 ≤ (watL U D L i).1 ∧ (watL U D L i).1 ≤ U.length) ∧ (0 ≤ (watL U D L i).2.1 ∧ (watL U D L i).2.1 ≤ 1000000)
  | 0 => by simp [watL]
  | i + 1 => wat_ok (watL_ok U D L i).1 (watL_ok U D L i).2
theorem f36_e {U D : List Int} {H : Int} {P : List (ByteArray × Int)} {L : List Int} (h : small U D P) (hL : L.length ≤ 1000) : f36 U D H P L = some (bif !decide ((ckR U D H P).2 = 0) then (0, 0, 0, (ckR U D H P).2) else bif decide (100 < L.length) then (0, 0, 0, 8) else bif L.any (fun n => !thr0 n) then (0, 0, 0, 2) else ((watL U D L L.length).1, (watL U D L L.length).2.1, (watL U D L L.length).2.2, 0)) := by
  unfold f36
  have e1 : decide (((L.length : Nat) : Int) ≤ 100) = !decide (100 < L.length) := by rw [← decide_not]; congr 1; exact propext (by omega)
  rw [f79_e h]
  simp (disch := omega) only [obnd_s, obnd_n, oite_ss, oite_t, oite_f, ogrd_t, ogrd_f, obndS_l, obndS_r, ilt_eq, ile_eq, ieq_eq, imax_e, imin_e, List.length_map, Int.toNat_natCast, decide_true, decide_false, Bool.not_true, Bool.not_false, Bool.not_eq_true, Bool.false_eq_true, if_true, if_false, reduceIte, not_false_eq_true, not_true_eq_false, Int.natCast_nonneg, Int.ofNat_lt, Int.ofNat_le, Bool.cond_true, Bool.cond_false, cond_true, cond_false, Bool.true_and, Bool.and_true, Bool.false_and, Bool.and_false, Bool.true_or, Bool.or_true, Bool.false_or, Bool.or_false, Bool.cond_true_left, Bool.cond_false_right, Bool.cond_true_right, Bool.cond_false_left, f80_e (p := fun z0 => f81 z0) (l := L) (fun n => !thr0 n) (fun x _ => f81_e x) (by omega), f64_e, f63_3, fst3, e1]
  cases h1 : decide ((ckR U D H P).2 = 0) with
  | false =>
    have h2 := of_decide_eq_false h1
    simp only [if_neg h2, h1, Bool.not_false, oite_t, cond_true]
  | true =>
    have h2 := of_decide_eq_true h1
    obtain ⟨h3, _⟩ := ckR_ok h2
    simp only [if_pos h2, Bool.not_true, cond_false]
    cases decide (100 < L.length) with
    | true => rfl
    | false =>
      cases L.any (fun n => !thr0 n) with
      | true => rfl
      | false =>
        simp (disch := omega) only [obnd_s, obnd_n, oite_ss, oite_t, oite_f, ogrd_t, ogrd_f, obndS_l, obndS_r, ilt_eq, ile_eq, ieq_eq, imax_e, imin_e, List.length_map, Int.toNat_natCast, decide_true, decide_false, Bool.not_true, Bool.not_false, Bool.not_eq_true, Bool.false_eq_true, if_true, if_false, reduceIte, not_false_eq_true, not_true_eq_false, Int.natCast_nonneg, Int.ofNat_lt, Int.ofNat_le, Bool.cond_true, Bool.cond_false, cond_true, cond_false, Bool.true_and, Bool.and_true, Bool.false_and, Bool.and_false, Bool.true_or, Bool.or_true, Bool.false_or, Bool.or_false, Bool.cond_true_left, Bool.cond_false_right, Bool.cond_true_right, Bool.cond_false_left]
        rw [oloop_all (fun i => ((watL U D L i).1, (watL U D L i).2.1, (watL U D L i).2.2, (i : Int))) L.length (r := ((watL U D L L.length).1, (watL U D L L.length).2.1, (watL U D L L.length).2.2)) (e0 := (((0 : Int), (0 : Int), (0 : Int), (0 : Int)))) rfl ?_ ?_]; rfl
        · intro i hi
          have hw := watL_ok U D L i
          simp (disch := omega) only [obnd_s, obnd_n, oite_ss, oite_t, oite_f, ogrd_t, ogrd_f, obndS_l, obndS_r, ilt_eq, ile_eq, ieq_eq, imax_e, imin_e, List.length_map, Int.toNat_natCast, decide_true, decide_false, Bool.not_true, Bool.not_false, Bool.not_eq_true, Bool.false_eq_true, if_true, if_false, reduceIte, not_false_eq_true, not_true_eq_false, Int.natCast_nonneg, Int.ofNat_lt, Int.ofNat_le, Bool.cond_true, Bool.cond_false, cond_true, cond_false, Bool.true_and, Bool.and_true, Bool.false_and, Bool.and_false, Bool.true_or, Bool.or_true, Bool.false_or, Bool.or_false, Bool.cond_true_left, Bool.cond_false_right, Bool.cond_true_right, Bool.cond_false_left, hi, get_gi hi, f83_w h3 hw.1 hw.2, wr]; rfl
        · simp (disch := omega) only [obnd_s, obnd_n, oite_ss, oite_t, oite_f, ogrd_t, ogrd_f, obndS_l, obndS_r, ilt_eq, ile_eq, ieq_eq, imax_e, imin_e, List.length_map, Int.toNat_natCast, decide_true, decide_false, Bool.not_true, Bool.not_false, Bool.not_eq_true, Bool.false_eq_true, if_true, if_false, reduceIte, not_false_eq_true, not_true_eq_false, Int.natCast_nonneg, Int.ofNat_lt, Int.ofNat_le, Bool.cond_true, Bool.cond_false, cond_true, cond_false, Bool.true_and, Bool.and_true, Bool.false_and, Bool.and_false, Bool.true_or, Bool.or_true, Bool.false_or, Bool.or_false, Bool.cond_true_left, Bool.cond_false_right, Bool.cond_true_right, Bool.cond_false_left, Int.lt_irrefl]
theorem f41_e {U D : List Int} {H : Int} {P : List (ByteArray × Int)} {L : List Int} (h3 : okR U D H P) (hL : L.length ≤ 1000) : f41 U D H P L = some (watL U D L L.length) := by
  unfold f41
  rw [oloop_all (fun i => ((watL U D L i).1, (watL U D L i).2.1, (watL U D L i).2.2, (i : Int))) L.length (r := ((watL U D L L.length).1, (watL U D L L.length).2.1, (watL U D L L.length).2.2)) (e0 := (((0 : Int), (0 : Int), (0 : Int), (0 : Int)))) rfl ?_ ?_]; rfl
  · intro i hi
    have hw := watL_ok U D L i
    simp (disch := omega) only [obnd_s, obnd_n, oite_ss, oite_t, oite_f, ogrd_t, ogrd_f, obndS_l, obndS_r, ilt_eq, ile_eq, ieq_eq, imax_e, imin_e, List.length_map, Int.toNat_natCast, decide_true, decide_false, Bool.not_true, Bool.not_false, Bool.not_eq_true, Bool.false_eq_true, if_true, if_false, reduceIte, not_false_eq_true, not_true_eq_false, Int.natCast_nonneg, Int.ofNat_lt, Int.ofNat_le, Bool.cond_true, Bool.cond_false, cond_true, cond_false, Bool.true_and, Bool.and_true, Bool.false_and, Bool.and_false, Bool.true_or, Bool.or_true, Bool.false_or, Bool.or_false, Bool.cond_true_left, Bool.cond_false_right, Bool.cond_true_right, Bool.cond_false_left, hi, get_gi hi, f49_w h3 hw.1 hw.2, wr]; rfl
  · simp (disch := omega) only [obnd_s, obnd_n, oite_ss, oite_t, oite_f, ogrd_t, ogrd_f, obndS_l, obndS_r, ilt_eq, ile_eq, ieq_eq, imax_e, imin_e, List.length_map, Int.toNat_natCast, decide_true, decide_false, Bool.not_true, Bool.not_false, Bool.not_eq_true, Bool.false_eq_true, if_true, if_false, reduceIte, not_false_eq_true, not_true_eq_false, Int.natCast_nonneg, Int.ofNat_lt, Int.ofNat_le, Bool.cond_true, Bool.cond_false, cond_true, cond_false, Bool.true_and, Bool.and_true, Bool.false_and, Bool.and_false, Bool.true_or, Bool.or_true, Bool.false_or, Bool.or_false, Bool.cond_true_left, Bool.cond_false_right, Bool.cond_true_right, Bool.cond_false_left, Int.lt_irrefl]
def val (n : Int) : Bool := decide (-1000000 ≤ n) && decide (n ≤ 1000000)
theorem f84_e (n : Int) : f84 n = some (val n) := by
  unfold f84 f78
  have : IntKind.i64.wrap (0 - 1000000) = -1000000 := by rw [wr (by omega) (by omega)]; rfl
  simp (disch := omega) only [obnd_s, obnd_n, oite_ss, oite_t, oite_f, ogrd_t, ogrd_f, obndS_l, obndS_r, ilt_eq, ile_eq, ieq_eq, imax_e, imin_e, List.length_map, Int.toNat_natCast, decide_true, decide_false, Bool.not_true, Bool.not_false, Bool.not_eq_true, Bool.false_eq_true, if_true, if_false, reduceIte, not_false_eq_true, not_true_eq_false, Int.natCast_nonneg, Int.ofNat_lt, Int.ofNat_le, Bool.cond_true, Bool.cond_false, cond_true, cond_false, Bool.true_and, Bool.and_true, Bool.false_and, Bool.and_false, Bool.true_or, Bool.or_true, Bool.false_or, Bool.or_false, Bool.cond_true_left, Bool.cond_false_right, Bool.cond_true_right, Bool.cond_false_left, f65_e, this]; rfl
theorem f42_e (lo hi m : Int) : f42 lo hi m = some (bif !(val lo && val hi && val m) then (0, 2) else bif decide (hi < lo) then (0, 9) else (max (max 0 (IntKind.i64.wrap (lo - m))) (IntKind.i64.wrap (m - hi)), 0)) := by
  unfold f42
  have e1 : decide (lo ≤ hi) = !decide (hi < lo) := by rw [← decide_not]; congr 1; exact propext (by omega)
  simp (disch := omega) only [obnd_s, obnd_n, oite_ss, oite_t, oite_f, ogrd_t, ogrd_f, obndS_l, obndS_r, ilt_eq, ile_eq, ieq_eq, imax_e, imin_e, List.length_map, Int.toNat_natCast, decide_true, decide_false, Bool.not_true, Bool.not_false, Bool.not_eq_true, Bool.false_eq_true, if_true, if_false, reduceIte, not_false_eq_true, not_true_eq_false, Int.natCast_nonneg, Int.ofNat_lt, Int.ofNat_le, Bool.cond_true, Bool.cond_false, cond_true, cond_false, Bool.true_and, Bool.and_true, Bool.false_and, Bool.and_false, Bool.true_or, Bool.or_true, Bool.false_or, Bool.or_false, Bool.cond_true_left, Bool.cond_false_right, Bool.cond_true_right, Bool.cond_false_left, f84_e, f64_e, f63_2, fst2, e1]
  cases (val lo && val hi && val m) <;> cases decide (hi < lo) <;> rfl
def dE (d0 : Int) (L : List Int) : Nat → Int
  | 0 => d0
  | i + 1 => bif decide (dE d0 L i = 0) then (bif thr0 (gi L i) then 0 else 2) else dE d0 L i
theorem dE_ne {d0 : Int} {L : List Int} (h : d0 ≠ 0) : ∀ i, dE d0 L i = d0
  | 0 => rfl
  | i + 1 => by simp only [dE, dE_ne h i, decide_eq_false h, cond_false]
theorem dE_0 {L : List Int} : ∀ i, i ≤ L.length → dE 0 L i = bif (L.take i).any (fun n => !thr0 n) then 2 else 0
  | 0, _ => rfl
  | i + 1, h => by
    simp only [dE]
    rw [dE_0 i (by omega)]
    have hi : i < L.length := h
    rw [List.take_add_one, get_gi hi]
    simp only [Option.toList_some, List.any_append, List.any_cons, List.any_nil, Bool.or_false]
    cases (L.take i).any (fun n => !thr0 n) <;> cases thr0 (gi L i) <;> rfl
def mv (L : List Int) (i : Nat) : Int := if i = 0 then 0 else gi L (i - 1)
theorem f7_true {U D : List Int} {H : Int} {P : List (ByteArray × Int)} {L : List Int} {lo hi : Int} : f7 U D H P L lo hi = some true := by
  unfold f7
  obtain ⟨b, hb, hsm⟩ := @f35_e U D H P
  rw [hb, f10_e]
  cases b with
  | false => rfl
  | true =>
    have h := hsm rfl
    have e0 : decide ((102 : Int) < ((L.length : Nat) : Int)) = decide (102 < L.length) := by rw [Bool.eq_iff_iff, decide_eq_true_eq, decide_eq_true_eq]; omega
    have e1 : decide ((100 : Int) < ((L.length : Nat) : Int)) = decide (100 < L.length) := by rw [Bool.eq_iff_iff, decide_eq_true_eq, decide_eq_true_eq]; omega
    simp (disch := omega) only [obnd_s, obnd_n, oite_ss, oite_t, oite_f, ogrd_t, ogrd_f, obndS_l, obndS_r, ilt_eq, ile_eq, ieq_eq, imax_e, imin_e, List.length_map, Int.toNat_natCast, decide_true, decide_false, Bool.not_true, Bool.not_false, Bool.not_eq_true, Bool.false_eq_true, if_true, if_false, reduceIte, not_false_eq_true, not_true_eq_false, Int.natCast_nonneg, Int.ofNat_lt, Int.ofNat_le, Bool.cond_true, Bool.cond_false, cond_true, cond_false, Bool.true_and, Bool.and_true, Bool.false_and, Bool.and_false, Bool.true_or, Bool.or_true, Bool.false_or, Bool.or_false, Bool.cond_true_left, Bool.cond_false_right, Bool.cond_true_right, Bool.cond_false_left, e0, e1]
    cases h0 : decide (102 < L.length) with
    | true => rfl
    | false =>
      have hL := of_decide_eq_false h0
      simp (disch := omega) only [obnd_s, obnd_n, oite_ss, oite_t, oite_f, ogrd_t, ogrd_f, obndS_l, obndS_r, ilt_eq, ile_eq, ieq_eq, imax_e, imin_e, List.length_map, Int.toNat_natCast, decide_true, decide_false, Bool.not_true, Bool.not_false, Bool.not_eq_true, Bool.false_eq_true, if_true, if_false, reduceIte, not_false_eq_true, not_true_eq_false, Int.natCast_nonneg, Int.ofNat_lt, Int.ofNat_le, Bool.cond_true, Bool.cond_false, cond_true, cond_false, Bool.true_and, Bool.and_true, Bool.false_and, Bool.and_false, Bool.true_or, Bool.or_true, Bool.false_or, Bool.or_false, Bool.cond_true_left, Bool.cond_false_right, Bool.cond_true_right, Bool.cond_false_left, f37_e h, f38_e (show L.length ≤ 1000000000 by omega), f36_e h (show L.length ≤ 1000 by omega), f39_e h]
      have hloop : ∀ d0 : Int, oloop (τ := Int × Int × Int) (ρ := Int × Int) (fun e29 =>
          oite (ilt e29.2.2 ((L.map eI).length : Int)) (
           obnd (
            oite (ieq e29.1 (0 : Int)) (
             ogrd (ile 0 e29.2.2) (
             obnd (L[e29.2.2.toNat]?) fun (x36 : Int) =>
             obnd (f40 x36) fun (y37 : Int) =>
             some y37
             )
              ) (
             some e29.1
              )
             ) fun (r32 : Int) =>
           ogrd (ile 0 e29.2.2) (
           obnd (L[e29.2.2.toNat]?) fun (x39 : Int) =>
           some (.inl (r32, x39, (IntKind.i64.wrap (e29.2.2 + (1 : Int)))))
           )
            ) (
           some (.inr ((e29.1, e29.2.1)))
            )
           ) ((d0, (0 : Int), (0 : Int))) = some (dE d0 L L.length, mv L L.length) := by
        intro d0
        refine oloop_all (fun i => (dE d0 L i, mv L i, (i : Int))) L.length rfl ?_ ?_
        · intro i hi
          simp (disch := omega) only [obnd_s, obnd_n, oite_ss, oite_t, oite_f, ogrd_t, ogrd_f, obndS_l, obndS_r, ilt_eq, ile_eq, ieq_eq, imax_e, imin_e, List.length_map, Int.toNat_natCast, decide_true, decide_false, Bool.not_true, Bool.not_false, Bool.not_eq_true, Bool.false_eq_true, if_true, if_false, reduceIte, not_false_eq_true, not_true_eq_false, Int.natCast_nonneg, Int.ofNat_lt, Int.ofNat_le, Bool.cond_true, Bool.cond_false, cond_true, cond_false, Bool.true_and, Bool.and_true, Bool.false_and, Bool.and_false, Bool.true_or, Bool.or_true, Bool.false_or, Bool.or_false, Bool.cond_true_left, Bool.cond_false_right, Bool.cond_true_right, Bool.cond_false_left, hi, get_gi hi, f40_e, wr]
          simp only [dE]
          cases decide (dE d0 L i = 0) <;> simp (disch := omega) only [obnd_s, obnd_n, oite_ss, oite_t, oite_f, ogrd_t, ogrd_f, obndS_l, obndS_r, ilt_eq, ile_eq, ieq_eq, imax_e, imin_e, List.length_map, Int.toNat_natCast, decide_true, decide_false, Bool.not_true, Bool.not_false, Bool.not_eq_true, Bool.false_eq_true, if_true, if_false, reduceIte, not_false_eq_true, not_true_eq_false, Int.natCast_nonneg, Int.ofNat_lt, Int.ofNat_le, Bool.cond_true, Bool.cond_false, cond_true, cond_false, Bool.true_and, Bool.and_true, Bool.false_and, Bool.and_false, Bool.true_or, Bool.or_true, Bool.false_or, Bool.or_false, Bool.cond_true_left, Bool.cond_false_right, Bool.cond_true_right, Bool.cond_false_left, hi, get_gi hi, f40_e, wr] <;> rfl
        · simp (disch := omega) only [obnd_s, obnd_n, oite_ss, oite_t, oite_f, ogrd_t, ogrd_f, obndS_l, obndS_r, ilt_eq, ile_eq, ieq_eq, imax_e, imin_e, List.length_map, Int.toNat_natCast, decide_true, decide_false, Bool.not_true, Bool.not_false, Bool.not_eq_true, Bool.false_eq_true, if_true, if_false, reduceIte, not_false_eq_true, not_true_eq_false, Int.natCast_nonneg, Int.ofNat_lt, Int.ofNat_le, Bool.cond_true, Bool.cond_false, cond_true, cond_false, Bool.true_and, Bool.and_true, Bool.false_and, Bool.and_false, Bool.true_or, Bool.or_true, Bool.false_or, Bool.or_false, Bool.cond_true_left, Bool.cond_false_right, Bool.cond_true_right, Bool.cond_false_left, Int.lt_irrefl]
      simp (disch := omega) only [obnd_s, obnd_n, oite_ss, oite_t, oite_f, ogrd_t, ogrd_f, obndS_l, obndS_r, ilt_eq, ile_eq, ieq_eq, imax_e, imin_e, List.length_map, Int.toNat_natCast, decide_true, decide_false, Bool.not_true, Bool.not_false, Bool.not_eq_true, Bool.false_eq_true, if_true, if_false, reduceIte, not_false_eq_true, not_true_eq_false, Int.natCast_nonneg, Int.ofNat_lt, Int.ofNat_le, Bool.cond_true, Bool.cond_false, cond_true, cond_false, Bool.true_and, Bool.and_true, Bool.false_and, Bool.and_false, Bool.true_or, Bool.or_true, Bool.false_or, Bool.or_false, Bool.cond_true_left, Bool.cond_false_right, Bool.cond_true_right, Bool.cond_false_left, List.length_map] at hloop
      rw [hloop]
      generalize mv L L.length = m
      have fin : ∀ r : Int × Int × Int × Int, ∀ d : Int, (!decide (d = 0) && (!decide (r.2.2.2 = d) || !(decide (r.1 = 0) && (decide (r.2.1 = 0) && decide (r.2.2.1 = 0))))) = false → True := fun _ _ _ => trivial
      have e2 : (decide (-1000000 ≤ lo) && decide (lo ≤ 1000000)) = val lo := rfl
      have e3 : (decide (-1000000 ≤ hi) && decide (hi ≤ 1000000)) = val hi := rfl
      have e4 : (decide (-1000000 ≤ m) && decide (m ≤ 1000000)) = val m := rfl
      have last : (obnd (f42 lo hi m) fun (y49 : Int × Int) =>
         obnd (some (bif (bif !val lo then true else !val hi) then true else !val m)) fun (r51 : Bool) =>
         oite r51 (some (bif decide (y49.2 = 2) then decide (y49.1 = 0) else false)) (
          oite (decide (hi < lo)) (some (bif decide (y49.2 = 9) then decide (y49.1 = 0) else false))
          (some (bif decide (y49.2 = 0) then decide (y49.1 = max (max 0 (IntKind.i64.wrap (lo - m))) (IntKind.i64.wrap (m - hi))) else false)))) = some true := by
        rw [f42_e]
        simp (disch := omega) only [obnd_s, obnd_n, oite_ss, oite_t, oite_f, ogrd_t, ogrd_f, obndS_l, obndS_r, ilt_eq, ile_eq, ieq_eq, imax_e, imin_e, List.length_map, Int.toNat_natCast, decide_true, decide_false, Bool.not_true, Bool.not_false, Bool.not_eq_true, Bool.false_eq_true, if_true, if_false, reduceIte, not_false_eq_true, not_true_eq_false, Int.natCast_nonneg, Int.ofNat_lt, Int.ofNat_le, Bool.cond_true, Bool.cond_false, cond_true, cond_false, Bool.true_and, Bool.and_true, Bool.false_and, Bool.and_false, Bool.true_or, Bool.or_true, Bool.false_or, Bool.or_false, Bool.cond_true_left, Bool.cond_false_right, Bool.cond_true_right, Bool.cond_false_left]
        cases val lo <;> cases val hi <;> cases val m <;> cases decide (hi < lo) <;> simp (disch := omega) only [obnd_s, obnd_n, oite_ss, oite_t, oite_f, ogrd_t, ogrd_f, obndS_l, obndS_r, ilt_eq, ile_eq, ieq_eq, imax_e, imin_e, List.length_map, Int.toNat_natCast, decide_true, decide_false, Bool.not_true, Bool.not_false, Bool.not_eq_true, Bool.false_eq_true, if_true, if_false, reduceIte, not_false_eq_true, not_true_eq_false, Int.natCast_nonneg, Int.ofNat_lt, Int.ofNat_le, Bool.cond_true, Bool.cond_false, cond_true, cond_false, Bool.true_and, Bool.and_true, Bool.false_and, Bool.and_false, Bool.true_or, Bool.or_true, Bool.false_or, Bool.or_false, Bool.cond_true_left, Bool.cond_false_right, Bool.cond_true_right, Bool.cond_false_left]
      cases h1 : decide ((ckR U D H P).2 = 0) with
      | false =>
        have h2 := of_decide_eq_false h1
        simp (disch := omega) only [obnd_s, obnd_n, oite_ss, oite_t, oite_f, ogrd_t, ogrd_f, obndS_l, obndS_r, ilt_eq, ile_eq, ieq_eq, imax_e, imin_e, List.length_map, Int.toNat_natCast, decide_true, decide_false, Bool.not_true, Bool.not_false, Bool.not_eq_true, Bool.false_eq_true, if_true, if_false, reduceIte, not_false_eq_true, not_true_eq_false, Int.natCast_nonneg, Int.ofNat_lt, Int.ofNat_le, Bool.cond_true, Bool.cond_false, cond_true, cond_false, Bool.true_and, Bool.and_true, Bool.false_and, Bool.and_false, Bool.true_or, Bool.or_true, Bool.false_or, Bool.or_false, Bool.cond_true_left, Bool.cond_false_right, Bool.cond_true_right, Bool.cond_false_left, dE_ne h2, h1, f15_e, e2, e3, e4]
        first | exact last | (simp (disch := omega) only [obnd_s, obnd_n, oite_ss, oite_t, oite_f, ogrd_t, ogrd_f, obndS_l, obndS_r, ilt_eq, ile_eq, ieq_eq, imax_e, imin_e, List.length_map, Int.toNat_natCast, decide_true, decide_false, Bool.not_true, Bool.not_false, Bool.not_eq_true, Bool.false_eq_true, if_true, if_false, reduceIte, not_false_eq_true, not_true_eq_false, Int.natCast_nonneg, Int.ofNat_lt, Int.ofNat_le, Bool.cond_true, Bool.cond_false, cond_true, cond_false, Bool.true_and, Bool.and_true, Bool.false_and, Bool.and_false, Bool.true_or, Bool.or_true, Bool.false_or, Bool.or_false, Bool.cond_true_left, Bool.cond_false_right, Bool.cond_true_right, Bool.cond_false_left] at last; exact last)
      | true =>
        have h2 := of_decide_eq_true h1
        obtain ⟨h3, _⟩ := ckR_ok h2
        cases h4 : decide (100 < L.length) with
        | true =>
          simp (disch := omega) only [obnd_s, obnd_n, oite_ss, oite_t, oite_f, ogrd_t, ogrd_f, obndS_l, obndS_r, ilt_eq, ile_eq, ieq_eq, imax_e, imin_e, List.length_map, Int.toNat_natCast, decide_true, decide_false, Bool.not_true, Bool.not_false, Bool.not_eq_true, Bool.false_eq_true, if_true, if_false, reduceIte, not_false_eq_true, not_true_eq_false, Int.natCast_nonneg, Int.ofNat_lt, Int.ofNat_le, Bool.cond_true, Bool.cond_false, cond_true, cond_false, Bool.true_and, Bool.and_true, Bool.false_and, Bool.and_false, Bool.true_or, Bool.or_true, Bool.false_or, Bool.or_false, Bool.cond_true_left, Bool.cond_false_right, Bool.cond_true_right, Bool.cond_false_left, dE_ne (show (8 : Int) ≠ 0 by omega), f15_e, e2, e3, e4, show decide ((8 : Int) = 0) = false from rfl]
          first | exact last | (simp (disch := omega) only [obnd_s, obnd_n, oite_ss, oite_t, oite_f, ogrd_t, ogrd_f, obndS_l, obndS_r, ilt_eq, ile_eq, ieq_eq, imax_e, imin_e, List.length_map, Int.toNat_natCast, decide_true, decide_false, Bool.not_true, Bool.not_false, Bool.not_eq_true, Bool.false_eq_true, if_true, if_false, reduceIte, not_false_eq_true, not_true_eq_false, Int.natCast_nonneg, Int.ofNat_lt, Int.ofNat_le, Bool.cond_true, Bool.cond_false, cond_true, cond_false, Bool.true_and, Bool.and_true, Bool.false_and, Bool.and_false, Bool.true_or, Bool.or_true, Bool.false_or, Bool.or_false, Bool.cond_true_left, Bool.cond_false_right, Bool.cond_true_right, Bool.cond_false_left] at last; exact last)
        | false =>
          simp (disch := omega) only [obnd_s, obnd_n, oite_ss, oite_t, oite_f, ogrd_t, ogrd_f, obndS_l, obndS_r, ilt_eq, ile_eq, ieq_eq, imax_e, imin_e, List.length_map, Int.toNat_natCast, decide_true, decide_false, Bool.not_true, Bool.not_false, Bool.not_eq_true, Bool.false_eq_true, if_true, if_false, reduceIte, not_false_eq_true, not_true_eq_false, Int.natCast_nonneg, Int.ofNat_lt, Int.ofNat_le, Bool.cond_true, Bool.cond_false, cond_true, cond_false, Bool.true_and, Bool.and_true, Bool.false_and, Bool.and_false, Bool.true_or, Bool.or_true, Bool.false_or, Bool.or_false, Bool.cond_true_left, Bool.cond_false_right, Bool.cond_true_right, Bool.cond_false_left, h2, dE_0 L.length (Nat.le_refl _), List.take_length, f41_e h3 (show L.length ≤ 1000 by omega)]
          cases L.any (fun n => !thr0 n) with
          | true =>
            simp (disch := omega) only [obnd_s, obnd_n, oite_ss, oite_t, oite_f, ogrd_t, ogrd_f, obndS_l, obndS_r, ilt_eq, ile_eq, ieq_eq, imax_e, imin_e, List.length_map, Int.toNat_natCast, decide_true, decide_false, Bool.not_true, Bool.not_false, Bool.not_eq_true, Bool.false_eq_true, if_true, if_false, reduceIte, not_false_eq_true, not_true_eq_false, Int.natCast_nonneg, Int.ofNat_lt, Int.ofNat_le, Bool.cond_true, Bool.cond_false, cond_true, cond_false, Bool.true_and, Bool.and_true, Bool.false_and, Bool.and_false, Bool.true_or, Bool.or_true, Bool.false_or, Bool.or_false, Bool.cond_true_left, Bool.cond_false_right, Bool.cond_true_right, Bool.cond_false_left, f15_e, e2, e3, e4, show decide ((2 : Int) = 0) = false from rfl]
            first | exact last | (simp (disch := omega) only [obnd_s, obnd_n, oite_ss, oite_t, oite_f, ogrd_t, ogrd_f, obndS_l, obndS_r, ilt_eq, ile_eq, ieq_eq, imax_e, imin_e, List.length_map, Int.toNat_natCast, decide_true, decide_false, Bool.not_true, Bool.not_false, Bool.not_eq_true, Bool.false_eq_true, if_true, if_false, reduceIte, not_false_eq_true, not_true_eq_false, Int.natCast_nonneg, Int.ofNat_lt, Int.ofNat_le, Bool.cond_true, Bool.cond_false, cond_true, cond_false, Bool.true_and, Bool.and_true, Bool.false_and, Bool.and_false, Bool.true_or, Bool.or_true, Bool.false_or, Bool.or_false, Bool.cond_true_left, Bool.cond_false_right, Bool.cond_true_right, Bool.cond_false_left] at last; exact last)
          | false =>
            simp (disch := omega) only [obnd_s, obnd_n, oite_ss, oite_t, oite_f, ogrd_t, ogrd_f, obndS_l, obndS_r, ilt_eq, ile_eq, ieq_eq, imax_e, imin_e, List.length_map, Int.toNat_natCast, decide_true, decide_false, Bool.not_true, Bool.not_false, Bool.not_eq_true, Bool.false_eq_true, if_true, if_false, reduceIte, not_false_eq_true, not_true_eq_false, Int.natCast_nonneg, Int.ofNat_lt, Int.ofNat_le, Bool.cond_true, Bool.cond_false, cond_true, cond_false, Bool.true_and, Bool.and_true, Bool.false_and, Bool.and_false, Bool.true_or, Bool.or_true, Bool.false_or, Bool.or_false, Bool.cond_true_left, Bool.cond_false_right, Bool.cond_true_right, Bool.cond_false_left, f15_e, e2, e3, e4]
            first | exact last | (simp (disch := omega) only [obnd_s, obnd_n, oite_ss, oite_t, oite_f, ogrd_t, ogrd_f, obndS_l, obndS_r, ilt_eq, ile_eq, ieq_eq, imax_e, imin_e, List.length_map, Int.toNat_natCast, decide_true, decide_false, Bool.not_true, Bool.not_false, Bool.not_eq_true, Bool.false_eq_true, if_true, if_false, reduceIte, not_false_eq_true, not_true_eq_false, Int.natCast_nonneg, Int.ofNat_lt, Int.ofNat_le, Bool.cond_true, Bool.cond_false, cond_true, cond_false, Bool.true_and, Bool.and_true, Bool.false_and, Bool.and_false, Bool.true_or, Bool.or_true, Bool.false_or, Bool.or_false, Bool.cond_true_left, Bool.cond_false_right, Bool.cond_true_right, Bool.cond_false_left] at last; exact last)
end Go.Proofs.Ytfdapegcngmknaa.AM
