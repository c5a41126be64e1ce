/- Plain laws of chapter 8: the reference's checks, volumes, values. Conditions: none. -/
import Derived.Test.YtmbekcealcjabaaGreatAmQ3
namespace Go.Proofs.YtmbekcealcjabaaGreat.AM
set_option linter.unusedSimpArgs false
set_option linter.unusedVariables false
open Go Go.RowKit

theorem f307_e {lo up : Int} {M : List (ByteArray × Int × Int × Int)} : ∃ b, f307 lo up M = some b ∧ (b = true → M.length ≤ 7 ∧ ∀ p, p ∈ M → p.1.size ≤ 20) := by
  unfold f307
  simp only [List.length_map, ilt_eq]
  cases h1 : decide ((7 : Int) < ((M.length : Nat) : Int)) with
  | true => exact ⟨false, rfl, fun h => by cases h⟩
  | false =>
    have h1 := of_decide_eq_false h1
    rw [oite_f, oloop_scanB (fun i => (i : Int)) M.length (fun i => decide (20 < (gm M i).1.size)) (fun _ => .inr false) (d := .inl ()) (e0 := 0) rfl ?_ ?_]
    · cases h2 : scanF (fun i => bif decide (20 < (gm M i).1.size) then some (Sum.inr false : Unit ⊕ Bool) else none) M.length 0 with
      | none =>
        refine ⟨true, rfl, fun _ => ⟨by omega, fun p hp => ?_⟩⟩
        obtain ⟨i, hi, rfl⟩ := List.getElem_of_mem hp
        have := scanF_none h2 i (Nat.zero_le _) (by omega)
        unfold gm at this
        rw [getD_i hi] at this
        by_cases h3 : 20 < M[i].1.size
        · rw [decide_eq_true h3] at this; cases this
        · omega
      | some r =>
        have : r = .inr false := by
          rw [scan_c] at h2
          cases h4 : anyN (fun i => decide (20 < (gm M i).1.size)) M.length 0 with
          | true => rw [h4] at h2; injection h2 with h2; exact h2.symm
          | false => rw [h4] at h2; cases h2
        subst this
        exact ⟨false, rfl, fun h => by cases h⟩
    · intro i hi
      have e : decide ((20 : Int) < (((gm M i).1.size : Nat) : Int)) = decide (20 < (gm M i).1.size) := by rw [Bool.eq_iff_iff, decide_eq_true_eq, decide_eq_true_eq]; omega
      simp (disch := omega) only [obnd_s, obnd_n, oite_ss, oite_t, oite_f, ogrd_t, ogrd_f, obndS_l, obndS_r, ilt_eq, ile_eq, ieq_eq, imax_e, imin_e, List.length_map, Int.toNat_natCast, decide_true, decide_false, Bool.not_true, Bool.not_false, Bool.not_eq_true, Bool.false_eq_true, if_true, if_false, reduceIte, not_false_eq_true, not_true_eq_false, Int.natCast_nonneg, Int.ofNat_lt, Int.ofNat_le, Bool.cond_true, Bool.cond_false, cond_true, cond_false, Bool.true_and, Bool.and_true, Bool.false_and, Bool.and_false, Bool.true_or, Bool.or_true, Bool.false_or, Bool.or_false, Bool.cond_true_left, Bool.cond_false_right, Bool.cond_true_right, Bool.cond_false_left, hi, get_gm hi, wr, e]; rfl
    · simp (disch := omega) only [obnd_s, obnd_n, oite_ss, oite_t, oite_f, ogrd_t, ogrd_f, obndS_l, obndS_r, ilt_eq, ile_eq, ieq_eq, imax_e, imin_e, List.length_map, Int.toNat_natCast, decide_true, decide_false, Bool.not_true, Bool.not_false, Bool.not_eq_true, Bool.false_eq_true, if_true, if_false, reduceIte, not_false_eq_true, not_true_eq_false, Int.natCast_nonneg, Int.ofNat_lt, Int.ofNat_le, Bool.cond_true, Bool.cond_false, cond_true, cond_false, Bool.true_and, Bool.and_true, Bool.false_and, Bool.and_false, Bool.true_or, Bool.or_true, Bool.false_or, Bool.or_false, Bool.cond_true_left, Bool.cond_false_right, Bool.cond_true_right, Bool.cond_false_left, Int.lt_irrefl]
theorem f308_e {v m w : Int} {H : List (Int × Int × Int)} : f308 v m w H = some (decide (H.length ≤ 12)) := by
  unfold f308
  rw [List.length_map, ile_eq]
  congr 1; rw [Bool.eq_iff_iff, decide_eq_true_eq, decide_eq_true_eq]; omega
theorem f309_e {lo up : Int} {M : List (ByteArray × Int × Int × Int)} (h : M.length ≤ 1000000000) : f309 lo up M = some (lo, up, M) := by
  unfold f309; rw [ogrd_fits (by simp; omega) (by simp; omega)]; rfl
theorem f310_e {v m w : Int} {H : List (Int × Int × Int)} (h : H.length ≤ 1000000000) : f310 v m w H = some (v, m, w, H) := by
  unfold f310; rw [ogrd_fits (by simp; omega) (by simp; omega)]; rfl
theorem f355_e (n : Int) : f355 n = some (s4 n) := by unfold f355; rw [f15_e]; rfl
theorem f364_e {l : List ByteArray} (s : ByteArray) (hl : l.length < 4611686018427387904) : f364 l s = some (l.any fun x => x.toList == s.toList) := by
  unfold f364
  rw [oloop_scanB (fun i => (i : Int)) l.length (fun i => (l.getD i ⟨#[]⟩).toList == s.toList) (fun _ => .inr true) (d := .inl ()) (e0 := 0) rfl ?_ ?_, scan_anyB (fun x => x.toList == s.toList) ⟨#[]⟩ (Sum.inr true : Unit ⊕ Bool) l]
  · cases l.any (fun x => x.toList == s.toList) <;> rfl
  · intro i hi
    rw [getD_i hi]
    simp (disch := omega) only [obnd_s, obnd_n, oite_ss, oite_t, oite_f, ogrd_t, ogrd_f, obndS_l, obndS_r, ilt_eq, ile_eq, ieq_eq, imax_e, imin_e, List.length_map, Int.toNat_natCast, decide_true, decide_false, Bool.not_true, Bool.not_false, Bool.not_eq_true, Bool.false_eq_true, if_true, if_false, reduceIte, not_false_eq_true, not_true_eq_false, Int.natCast_nonneg, Int.ofNat_lt, Int.ofNat_le, Bool.cond_true, Bool.cond_false, cond_true, cond_false, Bool.true_and, Bool.and_true, Bool.false_and, Bool.and_false, Bool.true_or, Bool.or_true, Bool.false_or, Bool.or_false, Bool.cond_true_left, Bool.cond_false_right, Bool.cond_true_right, Bool.cond_false_left, hi, get_i hi, wr]; rfl
  · simp (disch := omega) only [obnd_s, obnd_n, oite_ss, oite_t, oite_f, ogrd_t, ogrd_f, obndS_l, obndS_r, ilt_eq, ile_eq, ieq_eq, imax_e, imin_e, List.length_map, Int.toNat_natCast, decide_true, decide_false, Bool.not_true, Bool.not_false, Bool.not_eq_true, Bool.false_eq_true, if_true, if_false, reduceIte, not_false_eq_true, not_true_eq_false, Int.natCast_nonneg, Int.ofNat_lt, Int.ofNat_le, Bool.cond_true, Bool.cond_false, cond_true, cond_false, Bool.true_and, Bool.and_true, Bool.false_and, Bool.and_false, Bool.true_or, Bool.or_true, Bool.false_or, Bool.or_false, Bool.cond_true_left, Bool.cond_false_right, Bool.cond_true_right, Bool.cond_false_left, Int.lt_irrefl]
theorem f354_e {s : ByteArray} {c e z : Int} {l : List ByteArray} (hs : s.size < 4611686018427387904) (hl : l.length < 4611686018427387904) :
    f354 s c e z l = some (bif !nameB s then 4 else bif l.any (fun x => x.toList == s.toList) then 5 else bif !(s4 c && s4 e && z4 z) then 2 else 0) := by
  unfold f354
  rw [f91_e hs, f364_e s hl]
  simp only [obnd_s, f15_e]
  rw [show (decide (-10000 ≤ c) && decide (c ≤ 10000)) = s4 c from rfl, show (decide (-10000 ≤ e) && decide (e ≤ 10000)) = s4 e from rfl, show (decide (0 ≤ z) && decide (z ≤ 10000)) = z4 z from rfl]
  cases nameB s <;> cases l.any (fun x => x.toList == s.toList) <;> cases s4 c <;> cases s4 e <;> cases z4 z <;> rfl
def nms (M : List (ByteArray × Int × Int × Int)) (i : Nat) : List ByteArray := (M.take i).map (·.1)
theorem nms_len {M : List (ByteArray × Int × Int × Int)} {i : Nat} : (nms M i).length ≤ i := by simp [nms]; omega
theorem nms_s {M : List (ByteArray × Int × Int × Int)} {i : Nat} (h : i < M.length) : nms M i ++ [(gm M i).1] = nms M (i + 1) := by
  unfold nms
  rw [List.take_add_one, get_gm h, List.map_append]; rfl
theorem nms_any {M : List (ByteArray × Int × Int × Int)} {i : Nat} : (nms M i).any (fun x => x.toList == (gm M i).1.toList) = knownM M i := by
  unfold nms knownM; rw [List.any_map]; rfl
theorem f325_e {lo up : Int} {M : List (ByteArray × Int × Int × Int)} (hM : M.length < 4611686018427387904) (hs : ∀ p, p ∈ M → p.1.size < 4611686018427387904) : f325 lo up M = some (ckP lo up M) := by
  unfold f325 ckP
  simp only [obnd_s, f15_e, List.length_map, ilt_eq, ile_eq, ieq_eq]
  rw [show (decide (0 ≤ lo) && decide (lo ≤ 1000000)) = vol lo from rfl, show (decide (0 ≤ up) && decide (up ≤ 1000000)) = vol up from rfl]
  cases h1 : vol lo with
  | false => unfold pltE; rw [h1]; rfl
  | true =>
    cases h2 : vol up with
    | false => unfold pltE; rw [h1, h2]; rfl
    | true =>
      have h3 := vol_p h1; have h4 := vol_p h2
      simp only [Bool.not_true, oite_f, obnd_s]
      have e1 : decide (up < lo) = !decide (lo ≤ up) := by rw [← decide_not]; congr 1; exact propext (by omega)
      have e2 : decide ((40 : Int) ≤ up - lo) = !decide (up - lo < 40) := by rw [← decide_not]; congr 1; exact propext (by omega)
      have e3 : decide (((M.length : Nat) : Int) = 0) = !decide ((0 : Int) < ((M.length : Nat) : Int)) := by rw [← decide_not]; congr 1; exact propext (by omega)
      have e4 : decide ((5 : Int) < ((M.length : Nat) : Int)) = !decide (((M.length : Nat) : Int) ≤ 5) := by rw [← decide_not]; congr 1; exact propext (by omega)
      rw [wr (n := up - lo) (by omega) (by omega), e1, e2, e3, e4]
      unfold pltE
      rw [h1, h2]
      cases decide (lo ≤ up) with
      | false => rfl
      | true =>
        cases decide (up - lo < 40) with
        | false => rfl
        | true =>
          cases decide ((0 : Int) < ((M.length : Nat) : Int)) with
          | false => rfl
          | true =>
            cases h5 : decide (((M.length : Nat) : Int) ≤ 5) with
            | false => rfl
            | true =>
              have h5 := of_decide_eq_true h5
              simp only [Bool.not_true, oite_f, Bool.and_self, cond_false, decide_true]
              rw [oloop_scanB (fun i => (nms M i, (i : Int))) M.length (fun i => !decide (modE M i = 0)) (fun i => .inr ((i : Int), modE M i)) (d := .inl ()) (e0 := (([] : List ByteArray), (0 : Int))) rfl ?_ ?_, errs_scan (modE M) M.length (Sum.inr : Int × Int → Unit ⊕ (Int × Int))]
              · cases errs (modE M) M.length <;> rfl
              · intro i hi
                have hn := hs (gm M i) (by unfold gm; rw [getD_i hi]; exact List.getElem_mem hi)
                have hl := nms_len (M := M) (i := i)
                simp (disch := omega) only [obnd_s, obnd_n, oite_ss, oite_t, oite_f, ogrd_t, ogrd_f, obndS_l, obndS_r, ilt_eq, ile_eq, ieq_eq, imax_e, imin_e, List.length_map, Int.toNat_natCast, decide_true, decide_false, Bool.not_true, Bool.not_false, Bool.not_eq_true, Bool.false_eq_true, if_true, if_false, reduceIte, not_false_eq_true, not_true_eq_false, Int.natCast_nonneg, Int.ofNat_lt, Int.ofNat_le, Bool.cond_true, Bool.cond_false, cond_true, cond_false, Bool.true_and, Bool.and_true, Bool.false_and, Bool.and_false, Bool.true_or, Bool.or_true, Bool.false_or, Bool.or_false, Bool.cond_true_left, Bool.cond_false_right, Bool.cond_true_right, Bool.cond_false_left, hi, get_gm hi, wr]
                rw [f354_e hn (by omega), nms_any, show (bif !nameB (gm M i).1 then (4 : Int) else bif knownM M i then 5 else bif !(s4 (gm M i).2.1 && s4 (gm M i).2.2.1 && z4 (gm M i).2.2.2) then 2 else 0) = modE M i from rfl]
                simp only [obnd_s]
                rw [ogrd_fits (by simp; omega) (by simp; omega), nms_s hi]
                cases decide (modE M i = 0) <;> rfl
              · simp (disch := omega) only [obnd_s, obnd_n, oite_ss, oite_t, oite_f, ogrd_t, ogrd_f, obndS_l, obndS_r, ilt_eq, ile_eq, ieq_eq, imax_e, imin_e, List.length_map, Int.toNat_natCast, decide_true, decide_false, Bool.not_true, Bool.not_false, Bool.not_eq_true, Bool.false_eq_true, if_true, if_false, reduceIte, not_false_eq_true, not_true_eq_false, Int.natCast_nonneg, Int.ofNat_lt, Int.ofNat_le, Bool.cond_true, Bool.cond_false, cond_true, cond_false, Bool.true_and, Bool.and_true, Bool.false_and, Bool.and_false, Bool.true_or, Bool.or_true, Bool.false_or, Bool.or_false, Bool.cond_true_left, Bool.cond_false_right, Bool.cond_true_right, Bool.cond_false_left, Int.lt_irrefl]
theorem f326_e {lo up v m w : Int} {M : List (ByteArray × Int × Int × Int)} {H : List (Int × Int × Int)} (hM : M.length < 4611686018427387904) (hs : ∀ p, p ∈ M → p.1.size < 4611686018427387904) (hH : H.length < 4611686018427387904) : f326 lo up M v m w H = some (ckT lo up M v m w H) := by
  unfold f326 ckT f347
  have hw : IntKind.i64.wrap ((M.length : Int) - 1) = (M.length : Int) - 1 := wr (by omega) (by omega)
  simp only [f325_e hM hs, obnd_s, f15_e, f355_e, List.length_map, ile_eq, ilt_eq, ieq_eq, hw]
  cases h1 : decide ((ckP lo up M).2 = 0) with
  | false => rfl
  | true =>
    have e3 : decide (((H.length : Nat) : Int) = 0) = !decide ((0 : Int) < ((H.length : Nat) : Int)) := by rw [← decide_not]; congr 1; exact propext (by omega)
    have e4 : decide ((10 : Int) < ((H.length : Nat) : Int)) = !decide (((H.length : Nat) : Int) ≤ 10) := by rw [← decide_not]; congr 1; exact propext (by omega)
    rw [e3, e4]
    unfold tskE
    cases (decide (lo ≤ v) && decide (v ≤ up)) with
    | false => rfl
    | true =>
      cases (decide (0 ≤ m) && decide (m ≤ (M.length : Int) - 1)) with
      | false => rfl
      | true =>
        cases s4 w with
        | false => rfl
        | true =>
          cases decide ((0 : Int) < ((H.length : Nat) : Int)) with
          | false => rfl
          | true =>
            cases decide (((H.length : Nat) : Int) ≤ 10) with
            | false => rfl
            | true =>
              simp only [Bool.not_true, oite_f, cond_false, decide_true]
              rw [oloop_scanB (fun i => (i : Int)) H.length (fun i => !decide (hourE H i = 0)) (fun i => .inr ((i : Int), hourE H i)) (d := .inl ()) (e0 := 0) rfl ?_ ?_, errs_scan (hourE H) H.length (Sum.inr : Int × Int → Unit ⊕ (Int × Int))]
              · cases errs (hourE H) H.length <;> rfl
              · intro i hi
                have e5 : decide ((gh H i).1 < (gh H i).2.1) = !decide ((gh H i).2.1 ≤ (gh H i).1) := by rw [← decide_not]; congr 1; exact propext (by omega)
                simp (disch := omega) only [obnd_s, obnd_n, oite_ss, oite_t, oite_f, ogrd_t, ogrd_f, obndS_l, obndS_r, ilt_eq, ile_eq, ieq_eq, imax_e, imin_e, List.length_map, Int.toNat_natCast, decide_true, decide_false, Bool.not_true, Bool.not_false, Bool.not_eq_true, Bool.false_eq_true, if_true, if_false, reduceIte, not_false_eq_true, not_true_eq_false, Int.natCast_nonneg, Int.ofNat_lt, Int.ofNat_le, Bool.cond_true, Bool.cond_false, cond_true, cond_false, Bool.true_and, Bool.and_true, Bool.false_and, Bool.and_false, Bool.true_or, Bool.or_true, Bool.false_or, Bool.or_false, Bool.cond_true_left, Bool.cond_false_right, Bool.cond_true_right, Bool.cond_false_left, hi, get_gh hi, wr, e5]
                unfold hourE
                cases s4 (gh H i).1 <;> cases s4 (gh H i).2.1 <;> cases s4 (gh H i).2.2 <;> cases decide ((gh H i).2.1 ≤ (gh H i).1) <;> rfl
              · simp (disch := omega) only [obnd_s, obnd_n, oite_ss, oite_t, oite_f, ogrd_t, ogrd_f, obndS_l, obndS_r, ilt_eq, ile_eq, ieq_eq, imax_e, imin_e, List.length_map, Int.toNat_natCast, decide_true, decide_false, Bool.not_true, Bool.not_false, Bool.not_eq_true, Bool.false_eq_true, if_true, if_false, reduceIte, not_false_eq_true, not_true_eq_false, Int.natCast_nonneg, Int.ofNat_lt, Int.ofNat_le, Bool.cond_true, Bool.cond_false, cond_true, cond_false, Bool.true_and, Bool.and_true, Bool.false_and, Bool.and_false, Bool.true_or, Bool.or_true, Bool.false_or, Bool.or_false, Bool.cond_true_left, Bool.cond_false_right, Bool.cond_true_right, Bool.cond_false_left, Int.lt_irrefl]
theorem f311_e {lo up v m w : Int} {M : List (ByteArray × Int × Int × Int)} {H : List (Int × Int × Int)} (hM : M.length < 4611686018427387904) (hs : ∀ p, p ∈ M → p.1.size < 4611686018427387904) (hH : H.length < 4611686018427387904) : f311 lo up M v m w H = some (ckT lo up M v m w H).2 := by
  unfold f311; rw [f326_e hM hs hH]; rfl

section
variable {lo up v m w : Int} {M : List (ByteArray × Int × Int × Int)} {H : List (Int × Int × Int)} {P : List Int}
theorem f328_e (k : okT lo up M v m w H) (hl : P.length = H.length) (hp : plM M P) : f328 lo up M v m w H P = some (vL M H v P H.length) := by
  unfold f328
  refine (obnd_of (a := vL M H v P H.length) ?_).trans rfl
  refine oloop_all (fun i => (vL M H v P i, (i : Int))) H.length rfl ?_ ?_
  · intro i hi
    have hb := vv_b k hl hp i (by omega)
    obtain ⟨j, hj, he⟩ := hp i (by omega)
    have hf := k.hfew
    have h1 := k.hour i hi
    have h2 := k.mode j hj
    have e1 : vv M H v P i + (gh H i).2.2 + (gm M j).2.1 = vv M H v P (i + 1) := by simp only [vv, he, Int.toNat_natCast]
    simp (disch := omega) only [obnd_s, obnd_n, oite_ss, oite_t, oite_f, ogrd_t, ogrd_f, obndS_l, obndS_r, ilt_eq, ile_eq, ieq_eq, imax_e, imin_e, List.length_map, Int.toNat_natCast, decide_true, decide_false, Bool.not_true, Bool.not_false, Bool.not_eq_true, Bool.false_eq_true, if_true, if_false, reduceIte, not_false_eq_true, not_true_eq_false, Int.natCast_nonneg, Int.ofNat_lt, Int.ofNat_le, Bool.cond_true, Bool.cond_false, cond_true, cond_false, Bool.true_and, Bool.and_true, Bool.false_and, Bool.and_false, Bool.true_or, Bool.or_true, Bool.false_or, Bool.or_false, Bool.cond_true_left, Bool.cond_false_right, Bool.cond_true_right, Bool.cond_false_left, hl, hi, get_gi (show i < P.length by omega), he, vL_get (Nat.le_refl i), get_gh hi, get_gm hj, wr]
    rw [e1, ogrd_fits (by rw [vL_len]; simp; omega) (by rw [vL_len]; simp; omega), vL_s]; rfl
  · simp (disch := omega) only [obnd_s, obnd_n, oite_ss, oite_t, oite_f, ogrd_t, ogrd_f, obndS_l, obndS_r, ilt_eq, ile_eq, ieq_eq, imax_e, imin_e, List.length_map, Int.toNat_natCast, decide_true, decide_false, Bool.not_true, Bool.not_false, Bool.not_eq_true, Bool.false_eq_true, if_true, if_false, reduceIte, not_false_eq_true, not_true_eq_false, Int.natCast_nonneg, Int.ofNat_lt, Int.ofNat_le, Bool.cond_true, Bool.cond_false, cond_true, cond_false, Bool.true_and, Bool.and_true, Bool.false_and, Bool.and_false, Bool.true_or, Bool.or_true, Bool.false_or, Bool.or_false, Bool.cond_true_left, Bool.cond_false_right, Bool.cond_true_right, Bool.cond_false_left, Int.lt_irrefl, hl]
theorem f356_e (k : okT lo up M v m w H) (hl : P.length = H.length) (hp : plM M P) : f356 lo up M v m w H P = some (!badV lo up M H v P) := by
  unfold f356
  rw [f328_e k hl hp]
  simp only [obnd_s]
  have hf := k.hfew
  rw [oloop_scanB (fun i => (i : Int)) (H.length + 1) (fun i => !inR lo up (vv M H v P i)) (fun _ => .inr false) (d := .inl ()) (e0 := 0) rfl ?_ ?_, scan_c]
  · have h0 : inR lo up (vv M H v P 0) = true := by
      show (decide (lo ≤ v) && decide (v ≤ up)) = true
      rw [decide_eq_true k.vlo, decide_eq_true k.vhi]; rfl
    simp only [anyN, h0, Bool.not_true, Bool.false_or]
    unfold badV
    cases anyN (fun i => !inR lo up (vv M H v P i)) H.length 1 <;> rfl
  · intro i hi
    simp (disch := omega) only [obnd_s, obnd_n, oite_ss, oite_t, oite_f, ogrd_t, ogrd_f, obndS_l, obndS_r, ilt_eq, ile_eq, ieq_eq, imax_e, imin_e, List.length_map, Int.toNat_natCast, decide_true, decide_false, Bool.not_true, Bool.not_false, Bool.not_eq_true, Bool.false_eq_true, if_true, if_false, reduceIte, not_false_eq_true, not_true_eq_false, Int.natCast_nonneg, Int.ofNat_lt, Int.ofNat_le, Bool.cond_true, Bool.cond_false, cond_true, cond_false, Bool.true_and, Bool.and_true, Bool.false_and, Bool.and_false, Bool.true_or, Bool.or_true, Bool.false_or, Bool.or_false, Bool.cond_true_left, Bool.cond_false_right, Bool.cond_true_right, Bool.cond_false_left, vL_len, vL_get (show i ≤ H.length by omega), f15_e, wr, show ((i : Nat) : Int) < ((H.length + 1 : Nat) : Int) by omega]
    unfold inR
    cases (decide (lo ≤ vv M H v P i) && decide (vv M H v P i ≤ up)) <;> rfl
  · simp (disch := omega) only [obnd_s, obnd_n, oite_ss, oite_t, oite_f, ogrd_t, ogrd_f, obndS_l, obndS_r, ilt_eq, ile_eq, ieq_eq, imax_e, imin_e, List.length_map, Int.toNat_natCast, decide_true, decide_false, Bool.not_true, Bool.not_false, Bool.not_eq_true, Bool.false_eq_true, if_true, if_false, reduceIte, not_false_eq_true, not_true_eq_false, Int.natCast_nonneg, Int.ofNat_lt, Int.ofNat_le, Bool.cond_true, Bool.cond_false, cond_true, cond_false, Bool.true_and, Bool.and_true, Bool.false_and, Bool.and_false, Bool.true_or, Bool.or_true, Bool.false_or, Bool.or_false, Bool.cond_true_left, Bool.cond_false_right, Bool.cond_true_right, Bool.cond_false_left, Int.lt_irrefl, vL_len]
theorem f327_e (k : okT lo up M v m w H) (hP : P.length < 4611686018427387904) : f327 lo up M v m w H P = some (pE lo up M H v P) := by
  unfold f327 pE
  have hf := k.mfew
  have hw : IntKind.i64.wrap ((M.length : Int) - 1) = (M.length : Int) - 1 := wr (by omega) (by omega)
  simp only [List.length_map, ieq_eq, ceqN, hw]
  cases h1 : decide (P.length = H.length) with
  | false => rfl
  | true =>
    rw [Bool.not_true, oite_f, oloop_scanB (fun i => (i : Int)) P.length (fun i => !isM M (P.getD i 0)) (fun _ => .inr 6) (d := .inl ()) (e0 := 0) rfl ?_ ?_, scan_anyB (fun n => !isM M n) 0 (Sum.inr 6 : Unit ⊕ Int) P]
    · cases h2 : P.any (fun n => !isM M n) with
      | true => rfl
      | false =>
        simp only [cond_false, Option.getD_none, obndS_l]
        rw [f356_e k (of_decide_eq_true h1) (plM_any h2)]
        cases badV lo up M H v P <;> rfl
    · intro i hi
      rw [getD_i hi]
      simp (disch := omega) only [obnd_s, obnd_n, oite_ss, oite_t, oite_f, ogrd_t, ogrd_f, obndS_l, obndS_r, ilt_eq, ile_eq, ieq_eq, imax_e, imin_e, List.length_map, Int.toNat_natCast, decide_true, decide_false, Bool.not_true, Bool.not_false, Bool.not_eq_true, Bool.false_eq_true, if_true, if_false, reduceIte, not_false_eq_true, not_true_eq_false, Int.natCast_nonneg, Int.ofNat_lt, Int.ofNat_le, Bool.cond_true, Bool.cond_false, cond_true, cond_false, Bool.true_and, Bool.and_true, Bool.false_and, Bool.and_false, Bool.true_or, Bool.or_true, Bool.false_or, Bool.or_false, Bool.cond_true_left, Bool.cond_false_right, Bool.cond_true_right, Bool.cond_false_left, hi, get_i hi, f15_e, wr]
      unfold isM
      cases (decide (0 ≤ P[i]) && decide (P[i] ≤ (M.length : Int) - 1)) <;> rfl
    · simp (disch := omega) only [obnd_s, obnd_n, oite_ss, oite_t, oite_f, ogrd_t, ogrd_f, obndS_l, obndS_r, ilt_eq, ile_eq, ieq_eq, imax_e, imin_e, List.length_map, Int.toNat_natCast, decide_true, decide_false, Bool.not_true, Bool.not_false, Bool.not_eq_true, Bool.false_eq_true, if_true, if_false, reduceIte, not_false_eq_true, not_true_eq_false, Int.natCast_nonneg, Int.ofNat_lt, Int.ofNat_le, Bool.cond_true, Bool.cond_false, cond_true, cond_false, Bool.true_and, Bool.and_true, Bool.false_and, Bool.and_false, Bool.true_or, Bool.or_true, Bool.false_or, Bool.or_false, Bool.cond_true_left, Bool.cond_false_right, Bool.cond_true_right, Bool.cond_false_left, Int.lt_irrefl]

/-! ### Values -/
/-- The mode before an hour. -/
def bef (m : Int) (P : List Int) : Nat → Int
  | 0 => m
  | i + 1 => gi P i
def vsum (M : List (ByteArray × Int × Int × Int)) (H : List (Int × Int × Int)) (m : Int) (P : List Int) : Nat → Int
  | 0 => 0
  | i + 1 => vsum M H m P i + rev M H i (bef m P i).toNat (gi P i).toNat
def nst (m : Int) (P : List Int) : Nat → Int
  | 0 => 0
  | i + 1 => nst m P i + bif decide (bef m P i = gi P i) then 0 else 1
theorem bef_n (k : okT lo up M v m w H) (hp : plM M P) : ∀ i : Nat, i ≤ P.length → ∃ b : Nat, bef m P i = (b : Int)
  | 0, _ => ⟨m.toNat, by have := k.m0; simp only [bef]; omega⟩
  | i + 1, h => by
    obtain ⟨j, _, he⟩ := hp i (by omega)
    exact ⟨j, he⟩
theorem vsum_b (k : okT lo up M v m w H) (hl : P.length = H.length) (hp : plM M P) : ∀ i : Nat, i ≤ H.length → -100010000 * (i : Int) ≤ vsum M H m P i ∧ vsum M H m P i ≤ 100010000 * (i : Int)
  | 0, _ => by simp [vsum]
  | i + 1, h => by
    have h1 := vsum_b k hl hp i (by omega)
    obtain ⟨j, hj, he⟩ := hp i (by omega)
    have h2 := rev_b k (b := (bef m P i).toNat) (show i < H.length by omega) hj
    simp only [vsum, he, Int.toNat_natCast]; omega
theorem nst_b : ∀ i : Nat, 0 ≤ nst m P i ∧ nst m P i ≤ (i : Int)
  | 0 => by simp [nst]
  | i + 1 => by
    have := nst_b i
    simp only [nst]
    cases decide (bef m P i = gi P i) <;> simp only [cond_true, cond_false] <;> omega
/-- The value of a plan. -/
def valP (M : List (ByteArray × Int × Int × Int)) (H : List (Int × Int × Int)) (v m w : Int) (P : List Int) : Int := w * vv M H v P H.length + vsum M H m P H.length
theorem f352_e (k : okT lo up M v m w H) (hl : P.length = H.length) (hp : plM M P) (hb : badV lo up M H v P = false) : f352 lo up M v m w H P (vL M H v P H.length) = some (valP M H v m w P) := by
  unfold f352
  have hf := k.hfew
  have hlast := badV_f k hb H.length (Nat.le_refl _)
  have hw := wv_b k hlast.1 hlast.2
  have e : (((H.length + 1 : Nat) : Int) - 1) = ((H.length : Nat) : Int) := by omega
  simp only [List.length_map, vL_len, e]
  rw [wr (n := ((H.length : Nat) : Int)) (by omega) (by omega), ile_eq, decide_eq_true (Int.natCast_nonneg _), ogrd_t, Int.toNat_natCast, vL_get (Nat.le_refl _)]
  simp only [obnd_s]
  rw [wr (n := w * vv M H v P H.length) (by omega) (by omega)]
  refine (obnd_of (a := valP M H v m w P) ?_).trans rfl
  refine oloop_all (fun i => (bef m P i, (i : Int), w * vv M H v P H.length + vsum M H m P i)) H.length ?_ ?_ ?_
  · simp only [bef, vsum, Int.add_zero]; rfl
  · intro i hi
    obtain ⟨j, hj, he⟩ := hp i (by omega)
    obtain ⟨b, hb'⟩ := bef_n k hp i (by omega)
    have hs1 := vsum_b k hl hp i (by omega)
    have hs2 := rev_b k (b := b) hi hj
    have e2 : vsum M H m P (i + 1) = vsum M H m P i + rev M H i b j := by simp only [vsum, hb', he, Int.toNat_natCast]
    rw [e2]
    simp (disch := omega) only [obnd_s, obnd_n, oite_ss, oite_t, oite_f, ogrd_t, ogrd_f, obndS_l, obndS_r, ilt_eq, ile_eq, ieq_eq, imax_e, imin_e, List.length_map, Int.toNat_natCast, decide_true, decide_false, Bool.not_true, Bool.not_false, Bool.not_eq_true, Bool.false_eq_true, if_true, if_false, reduceIte, not_false_eq_true, not_true_eq_false, Int.natCast_nonneg, Int.ofNat_lt, Int.ofNat_le, Bool.cond_true, Bool.cond_false, cond_true, cond_false, Bool.true_and, Bool.and_true, Bool.false_and, Bool.and_false, Bool.true_or, Bool.or_true, Bool.false_or, Bool.or_false, Bool.cond_true_left, Bool.cond_false_right, Bool.cond_true_right, Bool.cond_false_left, hl, hi, get_gi (show i < P.length by omega), hb', he]
    rw [f239_e k hi hj]
    simp (disch := omega) only [obnd_s, obnd_n, oite_ss, oite_t, oite_f, ogrd_t, ogrd_f, obndS_l, obndS_r, ilt_eq, ile_eq, ieq_eq, imax_e, imin_e, List.length_map, Int.toNat_natCast, decide_true, decide_false, Bool.not_true, Bool.not_false, Bool.not_eq_true, Bool.false_eq_true, if_true, if_false, reduceIte, not_false_eq_true, not_true_eq_false, Int.natCast_nonneg, Int.ofNat_lt, Int.ofNat_le, Bool.cond_true, Bool.cond_false, cond_true, cond_false, Bool.true_and, Bool.and_true, Bool.false_and, Bool.and_false, Bool.true_or, Bool.or_true, Bool.false_or, Bool.or_false, Bool.cond_true_left, Bool.cond_false_right, Bool.cond_true_right, Bool.cond_false_left, wr, bef, he]
    congr 4; omega
  · unfold valP
    simp (disch := omega) only [obnd_s, obnd_n, oite_ss, oite_t, oite_f, ogrd_t, ogrd_f, obndS_l, obndS_r, ilt_eq, ile_eq, ieq_eq, imax_e, imin_e, List.length_map, Int.toNat_natCast, decide_true, decide_false, Bool.not_true, Bool.not_false, Bool.not_eq_true, Bool.false_eq_true, if_true, if_false, reduceIte, not_false_eq_true, not_true_eq_false, Int.natCast_nonneg, Int.ofNat_lt, Int.ofNat_le, Bool.cond_true, Bool.cond_false, cond_true, cond_false, Bool.true_and, Bool.and_true, Bool.false_and, Bool.and_false, Bool.true_or, Bool.or_true, Bool.false_or, Bool.or_false, Bool.cond_true_left, Bool.cond_false_right, Bool.cond_true_right, Bool.cond_false_left, Int.lt_irrefl, hl]
theorem f350_e (k : okT lo up M v m w H) {t b j : Nat} (ht : t < H.length) (hj : j < M.length) : f350 lo up M (gh H t).1 (gh H t).2.1 (gh H t).2.2 (j : Int) (b : Int) = some (rev M H t b j) := by
  have a := k.hour t ht
  have c := k.mode j hj
  unfold f350
  have h1 := mul_b c.2.1 a.1
  have h2 := mul_b c.2.1 a.2.1
  simp only [ile_eq, ilt_eq, ieq_eq, Int.toNat_natCast, get_gm hj, obnd_s, oite_ss, decide_eq_true (Int.natCast_nonneg j), ogrd_t, ceqN]
  rw [wr (n := (gm M j).2.2.1 * (gh H t).2.1) (by omega) (by omega), wr (n := (gm M j).2.2.1 * (gh H t).1) (by omega) (by omega)]
  have e : decide (j = b) = decide (b = j) := by rw [Bool.eq_iff_iff, decide_eq_true_eq, decide_eq_true_eq]; exact eq_comm
  unfold rev
  rw [e]
  cases decide (0 < (gm M j).2.2.1) with
  | true =>
    simp only [cond_true]
    rw [wr (by omega) (by omega)]
    cases decide (b = j) <;> simp
  | false =>
    simp only [cond_false]
    rw [wr (by omega) (by omega)]
    cases decide (b = j) <;> simp
theorem f329_e (k : okT lo up M v m w H) (hl : P.length = H.length) (hp : plM M P) (hb : badV lo up M H v P = false) : f329 lo up M v m w H P = some (valP M H v m w P) := by
  unfold f329
  have hf := k.hfew
  have hlast := badV_f k hb H.length (Nat.le_refl _)
  have hw := wv_b k hlast.1 hlast.2
  have hsn := vsum_b k hl hp H.length (Nat.le_refl _)
  have e : (((H.length + 1 : Nat) : Int) - 1) = ((H.length : Nat) : Int) := by omega
  refine (obnd_of (a := vsum M H m P H.length) ?_).trans ?_
  · refine oloop_all (fun i => (vsum M H m P i, bef m P i, (i : Int))) H.length rfl ?_ ?_
    · intro i hi
      obtain ⟨j, hj, he⟩ := hp i (by omega)
      obtain ⟨b, hb'⟩ := bef_n k hp i (by omega)
      have hs1 := vsum_b k hl hp i (by omega)
      have hs2 := rev_b k (b := b) hi hj
      have e2 : vsum M H m P (i + 1) = vsum M H m P i + rev M H i b j := by simp only [vsum, hb', he, Int.toNat_natCast]
      rw [e2]
      simp (disch := omega) only [obnd_s, obnd_n, oite_ss, oite_t, oite_f, ogrd_t, ogrd_f, obndS_l, obndS_r, ilt_eq, ile_eq, ieq_eq, imax_e, imin_e, List.length_map, Int.toNat_natCast, decide_true, decide_false, Bool.not_true, Bool.not_false, Bool.not_eq_true, Bool.false_eq_true, if_true, if_false, reduceIte, not_false_eq_true, not_true_eq_false, Int.natCast_nonneg, Int.ofNat_lt, Int.ofNat_le, Bool.cond_true, Bool.cond_false, cond_true, cond_false, Bool.true_and, Bool.and_true, Bool.false_and, Bool.and_false, Bool.true_or, Bool.or_true, Bool.false_or, Bool.or_false, Bool.cond_true_left, Bool.cond_false_right, Bool.cond_true_right, Bool.cond_false_left, hl, hi, get_gi (show i < P.length by omega), get_gh hi, hb', he]
      rw [f350_e k hi hj]
      simp (disch := omega) only [obnd_s, obnd_n, oite_ss, oite_t, oite_f, ogrd_t, ogrd_f, obndS_l, obndS_r, ilt_eq, ile_eq, ieq_eq, imax_e, imin_e, List.length_map, Int.toNat_natCast, decide_true, decide_false, Bool.not_true, Bool.not_false, Bool.not_eq_true, Bool.false_eq_true, if_true, if_false, reduceIte, not_false_eq_true, not_true_eq_false, Int.natCast_nonneg, Int.ofNat_lt, Int.ofNat_le, Bool.cond_true, Bool.cond_false, cond_true, cond_false, Bool.true_and, Bool.and_true, Bool.false_and, Bool.and_false, Bool.true_or, Bool.or_true, Bool.false_or, Bool.or_false, Bool.cond_true_left, Bool.cond_false_right, Bool.cond_true_right, Bool.cond_false_left, wr, bef, he]; rfl
    · simp (disch := omega) only [obnd_s, obnd_n, oite_ss, oite_t, oite_f, ogrd_t, ogrd_f, obndS_l, obndS_r, ilt_eq, ile_eq, ieq_eq, imax_e, imin_e, List.length_map, Int.toNat_natCast, decide_true, decide_false, Bool.not_true, Bool.not_false, Bool.not_eq_true, Bool.false_eq_true, if_true, if_false, reduceIte, not_false_eq_true, not_true_eq_false, Int.natCast_nonneg, Int.ofNat_lt, Int.ofNat_le, Bool.cond_true, Bool.cond_false, cond_true, cond_false, Bool.true_and, Bool.and_true, Bool.false_and, Bool.and_false, Bool.true_or, Bool.or_true, Bool.false_or, Bool.or_false, Bool.cond_true_left, Bool.cond_false_right, Bool.cond_true_right, Bool.cond_false_left, Int.lt_irrefl, hl]
  · rw [f328_e k hl hp]
    simp only [obnd_s, List.length_map, vL_len, e]
    rw [wr (n := ((H.length : Nat) : Int)) (by omega) (by omega), ile_eq, decide_eq_true (Int.natCast_nonneg _), ogrd_t, Int.toNat_natCast, vL_get (Nat.le_refl _)]
    simp only [obnd_s]
    rw [wr (n := w * vv M H v P H.length) (by omega) (by omega), wr (by omega) (by omega)]
    unfold valP
    congr 1; omega
theorem f330_e (k : okT lo up M v m w H) (hl : P.length = H.length) : f330 v m w H P = some (nst m P H.length) := by
  unfold f330
  have hf := k.hfew
  refine (obnd_of (a := nst m P H.length) ?_).trans rfl
  refine oloop_all (fun i => (nst m P i, bef m P i, (i : Int))) H.length rfl ?_ ?_
  · intro i hi
    have hb := nst_b (m := m) (P := P) i
    have e : decide (gi P i = bef m P i) = decide (bef m P i = gi P i) := by rw [Bool.eq_iff_iff, decide_eq_true_eq, decide_eq_true_eq]; exact eq_comm
    simp only [nst]
    simp (disch := omega) only [obnd_s, obnd_n, oite_ss, oite_t, oite_f, ogrd_t, ogrd_f, obndS_l, obndS_r, ilt_eq, ile_eq, ieq_eq, imax_e, imin_e, List.length_map, Int.toNat_natCast, decide_true, decide_false, Bool.not_true, Bool.not_false, Bool.not_eq_true, Bool.false_eq_true, if_true, if_false, reduceIte, not_false_eq_true, not_true_eq_false, Int.natCast_nonneg, Int.ofNat_lt, Int.ofNat_le, Bool.cond_true, Bool.cond_false, cond_true, cond_false, Bool.true_and, Bool.and_true, Bool.false_and, Bool.and_false, Bool.true_or, Bool.or_true, Bool.false_or, Bool.or_false, Bool.cond_true_left, Bool.cond_false_right, Bool.cond_true_right, Bool.cond_false_left, hl, hi, get_gi (show i < P.length by omega), wr, e]
    cases decide (bef m P i = gi P i) <;> simp [bef]
  · simp (disch := omega) only [obnd_s, obnd_n, oite_ss, oite_t, oite_f, ogrd_t, ogrd_f, obndS_l, obndS_r, ilt_eq, ile_eq, ieq_eq, imax_e, imin_e, List.length_map, Int.toNat_natCast, decide_true, decide_false, Bool.not_true, Bool.not_false, Bool.not_eq_true, Bool.false_eq_true, if_true, if_false, reduceIte, not_false_eq_true, not_true_eq_false, Int.natCast_nonneg, Int.ofNat_lt, Int.ofNat_le, Bool.cond_true, Bool.cond_false, cond_true, cond_false, Bool.true_and, Bool.and_true, Bool.false_and, Bool.and_false, Bool.true_or, Bool.or_true, Bool.false_or, Bool.or_false, Bool.cond_true_left, Bool.cond_false_right, Bool.cond_true_right, Bool.cond_false_left, Int.lt_irrefl, hl]
theorem f322_e (hM : M.length < 4611686018427387904) (hs : ∀ p, p ∈ M → p.1.size < 4611686018427387904) (hH : H.length < 4611686018427387904) (hP : P.length < 4611686018427387904) :
    f322 lo up M v m w H P = some ((bif decide (plE lo up M v m w H P = 0) then vL M H v P H.length else []), plE lo up M v m w H P) := by
  unfold f322; rw [f221_e hM hs hH hP]; rfl
theorem f323_e (hM : M.length < 4611686018427387904) (hs : ∀ p, p ∈ M → p.1.size < 4611686018427387904) (hH : H.length < 4611686018427387904) (hP : P.length < 4611686018427387904) :
    f323 lo up M v m w H P = some (bif decide (plE lo up M v m w H P = 0) then (valP M H v m w P, 0) else (0, plE lo up M v m w H P)) := by
  unfold f323; rw [f221_e hM hs hH hP]
  simp only [obnd_s, ieq_eq]
  cases h : decide (plE lo up M v m w H P = 0) with
  | false => rfl
  | true =>
    obtain ⟨k, h5⟩ := plE_0 (of_decide_eq_true h)
    obtain ⟨hl, hp, hb⟩ := pE_0 h5
    simp only [Bool.not_true, oite_f, cond_true]
    rw [f352_e k hl hp hb]; rfl
theorem f324_e (hM : M.length < 4611686018427387904) (hs : ∀ p, p ∈ M → p.1.size < 4611686018427387904) (hH : H.length < 4611686018427387904) (hP : P.length < 4611686018427387904) :
    f324 lo up M v m w H P = some (bif decide (plE lo up M v m w H P = 0) then (nst m P H.length, 0) else (0, plE lo up M v m w H P)) := by
  unfold f324; rw [f221_e hM hs hH hP]
  simp only [obnd_s, ieq_eq]
  cases h : decide (plE lo up M v m w H P = 0) with
  | false => rfl
  | true =>
    obtain ⟨k, h5⟩ := plE_0 (of_decide_eq_true h)
    obtain ⟨hl, hp, hb⟩ := pE_0 h5
    have hf := k.hfew
    simp only [Bool.not_true, oite_f, cond_true]
    refine (obnd_of (a := nst m P H.length) ?_).trans rfl
    refine oloop_all (fun i => (bef m P i, (i : Int), nst m P i)) H.length rfl ?_ ?_
    · intro i hi
      have hb := nst_b (m := m) (P := P) i
      simp only [nst]
      simp (disch := omega) only [obnd_s, obnd_n, oite_ss, oite_t, oite_f, ogrd_t, ogrd_f, obndS_l, obndS_r, ilt_eq, ile_eq, ieq_eq, imax_e, imin_e, List.length_map, Int.toNat_natCast, decide_true, decide_false, Bool.not_true, Bool.not_false, Bool.not_eq_true, Bool.false_eq_true, if_true, if_false, reduceIte, not_false_eq_true, not_true_eq_false, Int.natCast_nonneg, Int.ofNat_lt, Int.ofNat_le, Bool.cond_true, Bool.cond_false, cond_true, cond_false, Bool.true_and, Bool.and_true, Bool.false_and, Bool.and_false, Bool.true_or, Bool.or_true, Bool.false_or, Bool.or_false, Bool.cond_true_left, Bool.cond_false_right, Bool.cond_true_right, Bool.cond_false_left, hl, hi, get_gi (show i < P.length by omega), wr]
      cases decide (bef m P i = gi P i) <;> simp [bef]
    · simp (disch := omega) only [obnd_s, obnd_n, oite_ss, oite_t, oite_f, ogrd_t, ogrd_f, obndS_l, obndS_r, ilt_eq, ile_eq, ieq_eq, imax_e, imin_e, List.length_map, Int.toNat_natCast, decide_true, decide_false, Bool.not_true, Bool.not_false, Bool.not_eq_true, Bool.false_eq_true, if_true, if_false, reduceIte, not_false_eq_true, not_true_eq_false, Int.natCast_nonneg, Int.ofNat_lt, Int.ofNat_le, Bool.cond_true, Bool.cond_false, cond_true, cond_false, Bool.true_and, Bool.and_true, Bool.false_and, Bool.and_false, Bool.true_or, Bool.or_true, Bool.false_or, Bool.or_false, Bool.cond_true_left, Bool.cond_false_right, Bool.cond_true_right, Bool.cond_false_left, Int.lt_irrefl, hl]
end
section
variable {lo up v m w : Int} {M : List (ByteArray × Int × Int × Int)} {H : List (Int × Int × Int)} {P : List Int}
theorem f351_e (k : okT lo up M v m w H) {v' m' w' : Int} {x : Int} {h j : Nat} (hh : h ≤ H.length) (hj : j < M.length) (hx : -1000000000 ≤ x ∧ x ≤ 1000000000) :
    f351 lo up M v' m' w' H (h : Int) x (j : Int) = some (gvn lo up M H j (H.length - h) h x : Int) := by
  unfold f351
  have hf := k.hfew
  generalize hg : (fun e5 : Int × Int × Int => oite (ilt e5.2.2 ((H.map e_III).length : Int)) _ _) = g
  have key : ∀ (q n : Nat) (y : Int), h + n + q = H.length → (-1000000000 ≤ y ∧ y ≤ 1000000000) → ∃ r, oloop (τ := Int × Int × Int) (ρ := Int ⊕ Int) g (y, (n : Int), ((h + n : Nat) : Int)) = some r ∧ (r = .inl ((n + gvn lo up M H j q (h + n) y : Nat) : Int) ∨ r = .inr ((n + gvn lo up M H j q (h + n) y : Nat) : Int)) := by
    intro q
    induction q with
    | zero =>
      intro n y hn hy
      refine ⟨_, oloop_done (r := .inl (n : Int)) ?_, .inl rfl⟩
      rw [← hg]
      simp (disch := omega) only [obnd_s, obnd_n, oite_ss, oite_t, oite_f, ogrd_t, ogrd_f, obndS_l, obndS_r, ilt_eq, ile_eq, ieq_eq, imax_e, imin_e, List.length_map, Int.toNat_natCast, decide_true, decide_false, Bool.not_true, Bool.not_false, Bool.not_eq_true, Bool.false_eq_true, if_true, if_false, reduceIte, not_false_eq_true, not_true_eq_false, Int.natCast_nonneg, Int.ofNat_lt, Int.ofNat_le, Bool.cond_true, Bool.cond_false, cond_true, cond_false, Bool.true_and, Bool.and_true, Bool.false_and, Bool.and_false, Bool.true_or, Bool.or_true, Bool.false_or, Bool.or_false, Bool.cond_true_left, Bool.cond_false_right, Bool.cond_true_right, Bool.cond_false_left, wr]
      rw [decide_eq_false (by omega)]; rfl
    | succ q ih =>
      intro n y hn hy
      have hl : h + n < H.length := by omega
      have a := k.hour (h + n) hl
      have b := k.mode j hj
      have step : g (y, (n : Int), ((h + n : Nat) : Int)) = some (bif inR lo up (y + (gh H (h + n)).2.2 + (gm M j).2.1) then .inl (y + (gh H (h + n)).2.2 + (gm M j).2.1, ((n + 1 : Nat) : Int), ((h + (n + 1) : Nat) : Int)) else .inr (.inr (n : Int))) := by
        rw [← hg]
        simp only [List.length_map, ilt_eq, ile_eq, decide_eq_true (show ((h + n : Nat) : Int) < ((H.length : Nat) : Int) by omega), oite_t, decide_eq_true (Int.natCast_nonneg _), ogrd_t, Int.toNat_natCast, get_gh hl, get_gm hj, obnd_s, f15_e]
        rw [wr (n := y + (gh H (h + n)).2.2) (by omega) (by omega), wr (n := y + (gh H (h + n)).2.2 + (gm M j).2.1) (by omega) (by omega), wr (n := (n : Int) + 1) (by omega) (by omega), wr (n := ((h + n : Nat) : Int) + 1) (by omega) (by omega)]
        unfold inR
        cases (decide (lo ≤ y + (gh H (h + n)).2.2 + (gm M j).2.1) && decide (y + (gh H (h + n)).2.2 + (gm M j).2.1 ≤ up)) <;> rfl
      simp only [gvn]
      cases hr : inR lo up (y + (gh H (h + n)).2.2 + (gm M j).2.1) with
      | false => rw [hr] at step; exact ⟨_, oloop_done step, .inr rfl⟩
      | true =>
        rw [hr] at step
        have hp := inR_p hr
        have := k.lo0; have := k.hi1
        obtain ⟨r, h1, h2⟩ := ih (n + 1) (y + (gh H (h + n)).2.2 + (gm M j).2.1) (by omega) (by omega)
        refine ⟨r, by rw [oloop_step step]; exact h1, ?_⟩
        simp only [cond_true]
        rw [show n + (gvn lo up M H j q (h + n + 1) (y + (gh H (h + n)).2.2 + (gm M j).2.1) + 1) = n + 1 + gvn lo up M H j q (h + (n + 1)) (y + (gh H (h + n)).2.2 + (gm M j).2.1) by rw [show h + n + 1 = h + (n + 1) by omega]; omega]
        exact h2
  obtain ⟨r, h1, h2⟩ := key (H.length - h) 0 x (by omega) hx
  rw [Nat.add_zero] at h1
  rw [Nat.zero_add, Nat.add_zero] at h2
  rw [show ((x, (0 : Int), (h : Int))) = (x, ((0 : Nat) : Int), ((h : Nat) : Int)) from rfl, h1]
  rcases h2 with rfl | rfl <;> rfl
/-- What is promised. -/
def prm (n : Nat) (L : List Int) : Nat → Int
  | 0 => 10
  | i + 1 => bif decide (gi L i < (n : Int) - i) then min (prm n L i) (gi L i) else prm n L i
theorem gi_rs {j n i : Nat} (h : i < n) : gi (rsL lo up M H v P j n) i = (gvn lo up M H j (H.length - i) i (vv M H v P i) : Int) := by
  unfold gi rsL; rw [List.getD_eq_getElem?_getD]; simp [h]
theorem f318_e (hM : M.length < 4611686018427387904) (hs : ∀ p, p ∈ M → p.1.size < 4611686018427387904) (hH : H.length < 4611686018427387904) (hP : P.length < 4611686018427387904) (r : Int) :
    f318 lo up M v m w H P r = some (bif decide (rsE lo up M v m w H P r = 0) then (prm H.length (rsL lo up M H v P r.toNat H.length) H.length, 0) else (0, rsE lo up M v m w H P r)) := by
  unfold f318
  rw [f209_e hM hs hH hP]
  simp only [obnd_s, ieq_eq]
  cases h1 : decide (rsE lo up M v m w H P r = 0) with
  | false => simp only [cond_false, h1, Bool.not_false, oite_t]
  | true =>
    simp only [cond_true, decide_true, Bool.not_true, oite_f]
    refine (obnd_of (a := prm H.length (rsL lo up M H v P r.toNat H.length) H.length) ?_).trans rfl
    refine oloop_all (fun i => (prm H.length (rsL lo up M H v P r.toNat H.length) i, (i : Int))) H.length rfl ?_ ?_
    · intro i hi
      simp only [prm]
      simp (disch := omega) only [obnd_s, obnd_n, oite_ss, oite_t, oite_f, ogrd_t, ogrd_f, obndS_l, obndS_r, ilt_eq, ile_eq, ieq_eq, imax_e, imin_e, List.length_map, Int.toNat_natCast, decide_true, decide_false, Bool.not_true, Bool.not_false, Bool.not_eq_true, Bool.false_eq_true, if_true, if_false, reduceIte, not_false_eq_true, not_true_eq_false, Int.natCast_nonneg, Int.ofNat_lt, Int.ofNat_le, Bool.cond_true, Bool.cond_false, cond_true, cond_false, Bool.true_and, Bool.and_true, Bool.false_and, Bool.and_false, Bool.true_or, Bool.or_true, Bool.false_or, Bool.or_false, Bool.cond_true_left, Bool.cond_false_right, Bool.cond_true_right, Bool.cond_false_left, rsL_len, hi, get_gi (l := rsL lo up M H v P r.toNat H.length) (show i < (rsL lo up M H v P r.toNat H.length).length by rw [rsL_len]; exact hi), wr]
      cases decide (gi (rsL lo up M H v P r.toNat H.length) i < (H.length : Int) - (i : Int)) <;> rfl
    · simp (disch := omega) only [obnd_s, obnd_n, oite_ss, oite_t, oite_f, ogrd_t, ogrd_f, obndS_l, obndS_r, ilt_eq, ile_eq, ieq_eq, imax_e, imin_e, List.length_map, Int.toNat_natCast, decide_true, decide_false, Bool.not_true, Bool.not_false, Bool.not_eq_true, Bool.false_eq_true, if_true, if_false, reduceIte, not_false_eq_true, not_true_eq_false, Int.natCast_nonneg, Int.ofNat_lt, Int.ofNat_le, Bool.cond_true, Bool.cond_false, cond_true, cond_false, Bool.true_and, Bool.and_true, Bool.false_and, Bool.and_false, Bool.true_or, Bool.or_true, Bool.false_or, Bool.or_false, Bool.cond_true_left, Bool.cond_false_right, Bool.cond_true_right, Bool.cond_false_left, Int.lt_irrefl, rsL_len]
theorem rsE_0 {r : Int} (h : rsE lo up M v m w H P r = 0) : okT lo up M v m w H ∧ P.length = H.length ∧ plM M P ∧ badV lo up M H v P = false ∧ ∃ j : Nat, j < M.length ∧ r = (j : Int) := by
  unfold rsE at h
  by_cases h3 : plE lo up M v m w H P = 0
  · rw [if_pos h3] at h
    cases h4 : isM M r with
    | false => rw [h4] at h; cases h
    | true =>
      obtain ⟨k, h5⟩ := plE_0 h3
      obtain ⟨hl, hp, hb⟩ := pE_0 h5
      exact ⟨k, hl, hp, hb, isM_n h4⟩
  · rw [if_neg h3] at h; exact absurd h h3
theorem f320_e (k : okT lo up M v m w H) (hl : P.length = H.length) (hp : plM M P) (hb : badV lo up M H v P = false) {j : Nat} (hj : j < M.length) : f320 lo up M v m w H P (j : Int) = some (rsL lo up M H v P j H.length) := by
  unfold f320
  rw [f328_e k hl hp]
  simp only [obnd_s]
  refine (obnd_of (a := rsL lo up M H v P j H.length) ?_).trans rfl
  have hb := badV_f k hb
  have hf := k.hfew
  refine oloop_all (fun i => (rsL lo up M H v P j i, (i : Int))) H.length rfl ?_ ?_
  · intro i hi
    have hv := hb i (by omega)
    have := k.lo0; have := k.hi1
    simp (disch := omega) only [obnd_s, obnd_n, oite_ss, oite_t, oite_f, ogrd_t, ogrd_f, obndS_l, obndS_r, ilt_eq, ile_eq, ieq_eq, imax_e, imin_e, List.length_map, Int.toNat_natCast, decide_true, decide_false, Bool.not_true, Bool.not_false, Bool.not_eq_true, Bool.false_eq_true, if_true, if_false, reduceIte, not_false_eq_true, not_true_eq_false, Int.natCast_nonneg, Int.ofNat_lt, Int.ofNat_le, Bool.cond_true, Bool.cond_false, cond_true, cond_false, Bool.true_and, Bool.and_true, Bool.false_and, Bool.and_false, Bool.true_or, Bool.or_true, Bool.false_or, Bool.or_false, Bool.cond_true_left, Bool.cond_false_right, Bool.cond_true_right, Bool.cond_false_left, hi, vL_get (show i ≤ H.length by omega), wr]
    rw [f351_e k (by omega) hj (by omega)]
    simp only [obnd_s]
    rw [ogrd_fits (by rw [rsL_len]; simp; omega) (by rw [rsL_len]; simp; omega), rsL_s]; rfl
  · simp (disch := omega) only [obnd_s, obnd_n, oite_ss, oite_t, oite_f, ogrd_t, ogrd_f, obndS_l, obndS_r, ilt_eq, ile_eq, ieq_eq, imax_e, imin_e, List.length_map, Int.toNat_natCast, decide_true, decide_false, Bool.not_true, Bool.not_false, Bool.not_eq_true, Bool.false_eq_true, if_true, if_false, reduceIte, not_false_eq_true, not_true_eq_false, Int.natCast_nonneg, Int.ofNat_lt, Int.ofNat_le, Bool.cond_true, Bool.cond_false, cond_true, cond_false, Bool.true_and, Bool.and_true, Bool.false_and, Bool.and_false, Bool.true_or, Bool.or_true, Bool.false_or, Bool.or_false, Bool.cond_true_left, Bool.cond_false_right, Bool.cond_true_right, Bool.cond_false_left, Int.lt_irrefl]
theorem f321_e (k : okT lo up M v m w H) (hl : P.length = H.length) (hp : plM M P) (hb : badV lo up M H v P = false) {j : Nat} (hj : j < M.length) : f321 lo up M v m w H P (j : Int) = some (prm H.length (rsL lo up M H v P j H.length) H.length) := by
  unfold f321
  rw [f320_e k hl hp hb hj]
  have hf := k.hfew
  simp only [obnd_s]
  refine (obnd_of (a := prm H.length (rsL lo up M H v P j H.length) H.length) ?_).trans rfl
  refine oloop_all (fun i => (prm H.length (rsL lo up M H v P j H.length) i, (i : Int))) H.length rfl ?_ ?_
  · intro i hi
    simp only [prm]
    simp (disch := omega) only [obnd_s, obnd_n, oite_ss, oite_t, oite_f, ogrd_t, ogrd_f, obndS_l, obndS_r, ilt_eq, ile_eq, ieq_eq, imax_e, imin_e, List.length_map, Int.toNat_natCast, decide_true, decide_false, Bool.not_true, Bool.not_false, Bool.not_eq_true, Bool.false_eq_true, if_true, if_false, reduceIte, not_false_eq_true, not_true_eq_false, Int.natCast_nonneg, Int.ofNat_lt, Int.ofNat_le, Bool.cond_true, Bool.cond_false, cond_true, cond_false, Bool.true_and, Bool.and_true, Bool.false_and, Bool.and_false, Bool.true_or, Bool.or_true, Bool.false_or, Bool.or_false, Bool.cond_true_left, Bool.cond_false_right, Bool.cond_true_right, Bool.cond_false_left, rsL_len, hi, get_gi (l := rsL lo up M H v P j H.length) (show i < (rsL lo up M H v P j H.length).length by rw [rsL_len]; exact hi), wr]
    cases decide (gi (rsL lo up M H v P j H.length) i < (H.length : Int) - (i : Int)) <;> rfl
  · simp (disch := omega) only [obnd_s, obnd_n, oite_ss, oite_t, oite_f, ogrd_t, ogrd_f, obndS_l, obndS_r, ilt_eq, ile_eq, ieq_eq, imax_e, imin_e, List.length_map, Int.toNat_natCast, decide_true, decide_false, Bool.not_true, Bool.not_false, Bool.not_eq_true, Bool.false_eq_true, if_true, if_false, reduceIte, not_false_eq_true, not_true_eq_false, Int.natCast_nonneg, Int.ofNat_lt, Int.ofNat_le, Bool.cond_true, Bool.cond_false, cond_true, cond_false, Bool.true_and, Bool.and_true, Bool.false_and, Bool.and_false, Bool.true_or, Bool.or_true, Bool.false_or, Bool.or_false, Bool.cond_true_left, Bool.cond_false_right, Bool.cond_true_right, Bool.cond_false_left, Int.lt_irrefl, rsL_len]
theorem f317_e {r : Int} (h : P.length ≤ 1000000000) : f317 P r = some (P, r) := by unfold f317; rw [f38_e h]; rfl
theorem f319_e (k : okT lo up M v m w H) (hP : P.length < 4611686018427387904) (r : Int) : f319 lo up M v m w H P r = some (if pE lo up M H v P = 0 then (bif isM M r then 0 else 6) else pE lo up M H v P) := by
  unfold f319
  have hf := k.mfew
  have hw : IntKind.i64.wrap ((M.length : Int) - 1) = (M.length : Int) - 1 := wr (by omega) (by omega)
  rw [f327_e k hP]
  simp only [obnd_s, ieq_eq, f15_e, List.length_map, hw]
  by_cases h : pE lo up M H v P = 0
  · rw [if_pos h, decide_eq_true h]
    unfold isM
    cases (decide (0 ≤ r) && decide (r ≤ (M.length : Int) - 1)) <;> rfl
  · rw [if_neg h, decide_eq_false h]; rfl
theorem f300_true (hA : f198 = some true) (r : Int) : f300 lo up M v m w H P r = some true := by
  unfold f300
  rw [hA]
  simp only [obnd_s, Bool.not_true, oite_f, List.length_map, ilt_eq, ieq_eq]
  obtain ⟨b, hb, hb'⟩ := f307_e (lo := lo) (up := up) (M := M)
  rw [hb, f308_e]
  cases b with
  | false => rfl
  | true =>
    obtain ⟨hM7, hs20⟩ := hb' rfl
    cases h1 : decide (H.length ≤ 12) with
    | false => rfl
    | true =>
      have h1 := of_decide_eq_true h1
      cases h2 : decide ((12 : Int) < ((P.length : Nat) : Int)) with
      | true => rfl
      | false =>
        have h2 := of_decide_eq_false h2
        have hM1 : M.length < 4611686018427387904 := by omega
        have hs : ∀ p, p ∈ M → p.1.size < 4611686018427387904 := fun p hp => by have := hs20 p hp; omega
        have hH : H.length < 4611686018427387904 := by omega
        have hP : P.length < 4611686018427387904 := by omega
        simp only [obnd_s, Bool.not_true, oite_f]
        rw [f309_e (show M.length ≤ 1000000000 by omega), f310_e (show H.length ≤ 1000000000 by omega), f317_e (show P.length ≤ 1000000000 by omega)]
        simp only [obnd_s]
        rw [f209_e hM1 hs hH hP, f318_e hM1 hs hH hP, f311_e hM1 hs hH]
        simp only [obnd_s]
        have hE : (oite (decide ((ckT lo up M v m w H).2 = 0)) (obnd (f319 lo up M v m w H P r) fun y40 => some y40) (some (ckT lo up M v m w H).2)) = some (rsE lo up M v m w H P r) := by
          unfold rsE plE
          cases h3 : decide ((ckT lo up M v m w H).2 = 0) with
          | false => rw [oite_f, Bool.not_false, cond_true, if_neg (of_decide_eq_false h3)]
          | true =>
            have k := (ckT_0 (of_decide_eq_true h3)).2
            rw [oite_t, f319_e k hP, Bool.not_true, cond_false]; rfl
        rw [hE]
        simp only [obnd_s]
        cases h5 : decide (rsE lo up M v m w H P r = 0) with
        | false =>
          simp only [Bool.not_false, oite_t, cond_false, decide_true, obnd_s, List.length_nil]
          rfl
        | true =>
          obtain ⟨k, hl, hp, hbv, j, hj, rfl⟩ := rsE_0 (of_decide_eq_true h5)
          simp only [Bool.not_true, oite_f, cond_true]
          rw [f320_e k hl hp hbv hj, f321_e k hl hp hbv hj]
          simp only [obnd_s, decide_true, oite_t, Int.toNat_natCast]
          rw [f26_refl (by rw [rsL_len]; omega)]
          simp only [obnd_s, oite_t, decide_true]
end
theorem f302_true (hA : f198 = some true) (lo up : Int) (M : List (ByteArray × Int × Int × Int)) (v m w : Int) (H : List (Int × Int × Int)) (P : List Int) : f302 lo up M v m w H P = some true := by
  unfold f302
  rw [hA]
  simp only [obnd_s, Bool.not_true, oite_f, List.length_map, ilt_eq, ieq_eq]
  obtain ⟨b, hb, hb'⟩ := f307_e (lo := lo) (up := up) (M := M)
  rw [hb, f308_e]
  cases b with
  | false => rfl
  | true =>
    obtain ⟨hM7, hs20⟩ := hb' rfl
    cases h1 : decide (H.length ≤ 12) with
    | false => rfl
    | true =>
      have h1 := of_decide_eq_true h1
      cases h2 : decide ((12 : Int) < ((P.length : Nat) : Int)) with
      | true => rfl
      | false =>
        have h2 := of_decide_eq_false h2
        have hM1 : M.length < 4611686018427387904 := by omega
        have hs : ∀ p, p ∈ M → p.1.size < 4611686018427387904 := fun p hp => by have := hs20 p hp; omega
        have hH : H.length < 4611686018427387904 := by omega
        have hP : P.length < 4611686018427387904 := by omega
        simp only [obnd_s, Bool.not_true, oite_f]
        rw [f309_e (show M.length ≤ 1000000000 by omega), f310_e (show H.length ≤ 1000000000 by omega), f38_e (show P.length ≤ 1000000000 by omega)]
        simp only [obnd_s]
        rw [f249_e hM1 hs, f237_e hM1 hs hH, f322_e hM1 hs hH hP, f323_e hM1 hs hH hP, f324_e hM1 hs hH hP, f325_e hM1 hs, f326_e hM1 hs hH]
        simp only [obnd_s, decide_true, Bool.not_true, oite_f]
        cases h3 : decide ((ckT lo up M v m w H).2 = 0) with
        | false =>
          have h4 := of_decide_eq_false h3
          have e : plE lo up M v m w H P = (ckT lo up M v m w H).2 := by unfold plE; rw [h3]; rfl
          simp only [oite_f, obnd_s, e, h3, Bool.not_false, oite_t, cond_false, decide_true, List.length_nil]
          rfl
        | true =>
          have h4 := of_decide_eq_true h3
          have k := (ckT_0 h4).2
          have e : plE lo up M v m w H P = pE lo up M H v P := by unfold plE; rw [h3]; rfl
          rw [oite_t, f327_e k hP]
          simp only [obnd_s, e]
          cases h5 : decide (pE lo up M H v P = 0) with
          | false =>
            simp only [Bool.not_false, oite_t, cond_false, decide_true, obnd_s, List.length_nil]
            rfl
          | true =>
            obtain ⟨hl, hp, hbv⟩ := pE_0 (of_decide_eq_true h5)
            simp only [Bool.not_true, oite_f, cond_true]
            rw [oite_t, f328_e k hl hp]
            simp only [obnd_s]
            rw [f26_refl (by rw [vL_len]; omega), f329_e k hl hp hbv, f330_e k hl]
            simp only [obnd_s, oite_t, decide_true]
end Go.Proofs.YtmbekcealcjabaaGreat.AM
