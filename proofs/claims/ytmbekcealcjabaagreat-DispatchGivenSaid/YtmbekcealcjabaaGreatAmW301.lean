/- Plain law: DispatchGiven, from chapter 8's examples (f198). Conditions: none. -/
import Derived.Test.YtmbekcealcjabaaGreatAmQ3
import Derived.Test.YtmbekcealcjabaaGreatAmQ8b
namespace Go.Proofs.YtmbekcealcjabaaGreat.AM
section
set_option linter.unusedSimpArgs false
set_option linter.unusedVariables false
open Go Go.RowKit

theorem f307_e {lo up : Int} {M : List (ByteArray × Int × Int × Int)} : ∃ b, f307 lo up M = some b ∧ (b = true → M.length ≤ 7 ∧ ∀ p, p ∈ M → p.1.size ≤ 20) := by
  unfold f307
  simp only [List.length_map, ilt_eq]
  cases h1 : decide ((7 : Int) < ((M.length : Nat) : Int)) with
  | true => exact ⟨false, rfl, fun h => by cases h⟩
  | false =>
    have h1 := of_decide_eq_false h1
    rw [oite_f, oloop_scanB (fun i => (i : Int)) M.length (fun i => decide (20 < (gm M i).1.size)) (fun _ => .inr false) (d := .inl ()) (e0 := 0) rfl ?_ ?_]
    · cases h2 : scanF (fun i => bif decide (20 < (gm M i).1.size) then some (Sum.inr false : Unit ⊕ Bool) else none) M.length 0 with
      | none =>
        refine ⟨true, rfl, fun _ => ⟨by omega, fun p hp => ?_⟩⟩
        obtain ⟨i, hi, rfl⟩ := List.getElem_of_mem hp
        have := scanF_none h2 i (Nat.zero_le _) (by omega)
        unfold gm at this
        rw [getD_i hi] at this
        by_cases h3 : 20 < M[i].1.size
        · rw [decide_eq_true h3] at this; cases this
        · omega
      | some r =>
        have : r = .inr false := by
          rw [scan_c] at h2
          cases h4 : anyN (fun i => decide (20 < (gm M i).1.size)) M.length 0 with
          | true => rw [h4] at h2; injection h2 with h2; exact h2.symm
          | false => rw [h4] at h2; cases h2
        subst this
        exact ⟨false, rfl, fun h => by cases h⟩
    · intro i hi
      have e : decide ((20 : Int) < (((gm M i).1.size : Nat) : Int)) = decide (20 < (gm M i).1.size) := by rw [Bool.eq_iff_iff, decide_eq_true_eq, decide_eq_true_eq]; omega
      simp (disch := omega) only [obnd_s, obnd_n, oite_ss, oite_t, oite_f, ogrd_t, ogrd_f, obndS_l, obndS_r, ilt_eq, ile_eq, ieq_eq, imax_e, imin_e, k0, k1, k2, k3, k4, k5, k6, k7, k8, k9, reduceIte, k10, k11, k12, k13, k14, k15, k16, k17, k18, k19, k20, k21, k22, k23, k24, k25, k26, k27, k28, hi, get_gm hi, wr, e]; rfl
    · simp (disch := omega) only [obnd_s, obnd_n, oite_ss, oite_t, oite_f, ogrd_t, ogrd_f, obndS_l, obndS_r, ilt_eq, ile_eq, ieq_eq, imax_e, imin_e, k0, k1, k2, k3, k4, k5, k6, k7, k8, k9, reduceIte, k10, k11, k12, k13, k14, k15, k16, k17, k18, k19, k20, k21, k22, k23, k24, k25, k26, k27, k28, Int.lt_irrefl]
theorem f308_e {v m w : Int} {H : List (Int × Int × Int)} : f308 v m w H = some (decide (H.length ≤ 12)) := by
  unfold f308
  rw [List.length_map, ile_eq]
  congr 1; rw [Bool.eq_iff_iff, decide_eq_true_eq, decide_eq_true_eq]; omega
theorem f309_e {lo up : Int} {M : List (ByteArray × Int × Int × Int)} (h : M.length ≤ 1000000000) : f309 lo up M = some (lo, up, M) := by
  unfold f309; rw [ogrd_fits (by simp; omega) (by simp; omega)]; rfl
theorem f310_e {v m w : Int} {H : List (Int × Int × Int)} (h : H.length ≤ 1000000000) : f310 v m w H = some (v, m, w, H) := by
  unfold f310; rw [ogrd_fits (by simp; omega) (by simp; omega)]; rfl
theorem f355_e (n : Int) : f355 n = some (s4 n) := by unfold f355; rw [f15_e]; rfl
theorem f364_e {l : List ByteArray} (s : ByteArray) (hl : l.length < 4611686018427387904) : f364 l s = some (l.any fun x => x.toList == s.toList) := by
  unfold f364
  rw [oloop_scanB (fun i => (i : Int)) l.length (fun i => (l.getD i ⟨#[]⟩).toList == s.toList) (fun _ => .inr true) (d := .inl ()) (e0 := 0) rfl ?_ ?_, scan_anyB (fun x => x.toList == s.toList) ⟨#[]⟩ (Sum.inr true : Unit ⊕ Bool) l]
  · cases l.any (fun x => x.toList == s.toList) <;> rfl
  · intro i hi
    rw [getD_i hi]
    simp (disch := omega) only [obnd_s, obnd_n, oite_ss, oite_t, oite_f, ogrd_t, ogrd_f, obndS_l, obndS_r, ilt_eq, ile_eq, ieq_eq, imax_e, imin_e, k0, k1, k2, k3, k4, k5, k6, k7, k8, k9, reduceIte, k10, k11, k12, k13, k14, k15, k16, k17, k18, k19, k20, k21, k22, k23, k24, k25, k26, k27, k28, hi, get_i hi, wr]; rfl
  · simp (disch := omega) only [obnd_s, obnd_n, oite_ss, oite_t, oite_f, ogrd_t, ogrd_f, obndS_l, obndS_r, ilt_eq, ile_eq, ieq_eq, imax_e, imin_e, k0, k1, k2, k3, k4, k5, k6, k7, k8, k9, reduceIte, k10, k11, k12, k13, k14, k15, k16, k17, k18, k19, k20, k21, k22, k23, k24, k25, k26, k27, k28, Int.lt_irrefl]
theorem f354_e {s : ByteArray} {c e z : Int} {l : List ByteArray} (hs : s.size < 4611686018427387904) (hl : l.length < 4611686018427387904) :
    f354 s c e z l = some (bif !nameB s then 4 else bif l.any (fun x => x.toList == s.toList) then 5 else bif !(s4 c && s4 e && z4 z) then 2 else 0) := by
  unfold f354
  rw [f91_e hs, f364_e s hl]
  simp only [obnd_s, f15_e]
  rw [show (decide (-10000 ≤ c) && decide (c ≤ 10000)) = s4 c from rfl, show (decide (-10000 ≤ e) && decide (e ≤ 10000)) = s4 e from rfl, show (decide (0 ≤ z) && decide (z ≤ 10000)) = z4 z from rfl]
  cases nameB s <;> cases l.any (fun x => x.toList == s.toList) <;> cases s4 c <;> cases s4 e <;> cases z4 z <;> rfl
def nms (M : List (ByteArray × Int × Int × Int)) (i : Nat) : List ByteArray := (M.take i).map (·.1)
theorem nms_len {M : List (ByteArray × Int × Int × Int)} {i : Nat} : (nms M i).length ≤ i := by simp [nms]; omega
theorem nms_s {M : List (ByteArray × Int × Int × Int)} {i : Nat} (h : i < M.length) : nms M i ++ [(gm M i).1] = nms M (i + 1) := by
  unfold nms
  rw [List.take_add_one, get_gm h, List.map_append]; rfl
theorem nms_any {M : List (ByteArray × Int × Int × Int)} {i : Nat} : (nms M i).any (fun x => x.toList == (gm M i).1.toList) = knownM M i := by
  unfold nms knownM; rw [List.any_map]; rfl
theorem f325_e {lo up : Int} {M : List (ByteArray × Int × Int × Int)} (hM : M.length < 4611686018427387904) (hs : ∀ p, p ∈ M → p.1.size < 4611686018427387904) : f325 lo up M = some (ckP lo up M) := by
  unfold f325 ckP
  simp only [obnd_s, f15_e, List.length_map, ilt_eq, ile_eq, ieq_eq]
  rw [show (decide (0 ≤ lo) && decide (lo ≤ 1000000)) = vol lo from rfl, show (decide (0 ≤ up) && decide (up ≤ 1000000)) = vol up from rfl]
  cases h1 : vol lo with
  | false => unfold pltE; rw [h1]; rfl
  | true =>
    cases h2 : vol up with
    | false => unfold pltE; rw [h1, h2]; rfl
    | true =>
      have h3 := vol_p h1; have h4 := vol_p h2
      simp only [Bool.not_true, oite_f, obnd_s]
      have e1 : decide (up < lo) = !decide (lo ≤ up) := by rw [← decide_not]; congr 1; exact propext (by omega)
      have e2 : decide ((40 : Int) ≤ up - lo) = !decide (up - lo < 40) := by rw [← decide_not]; congr 1; exact propext (by omega)
      have e3 : decide (((M.length : Nat) : Int) = 0) = !decide ((0 : Int) < ((M.length : Nat) : Int)) := by rw [← decide_not]; congr 1; exact propext (by omega)
      have e4 : decide ((5 : Int) < ((M.length : Nat) : Int)) = !decide (((M.length : Nat) : Int) ≤ 5) := by rw [← decide_not]; congr 1; exact propext (by omega)
      rw [wr (n := up - lo) (by omega) (by omega), e1, e2, e3, e4]
      unfold pltE
      rw [h1, h2]
      cases decide (lo ≤ up) with
      | false => rfl
      | true =>
        cases decide (up - lo < 40) with
        | false => rfl
        | true =>
          cases decide ((0 : Int) < ((M.length : Nat) : Int)) with
          | false => rfl
          | true =>
            cases h5 : decide (((M.length : Nat) : Int) ≤ 5) with
            | false => rfl
            | true =>
              have h5 := of_decide_eq_true h5
              simp only [Bool.not_true, oite_f, Bool.and_self, cond_false, decide_true]
              rw [oloop_scanB (fun i => (nms M i, (i : Int))) M.length (fun i => !decide (modE M i = 0)) (fun i => .inr ((i : Int), modE M i)) (d := .inl ()) (e0 := (([] : List ByteArray), (0 : Int))) rfl ?_ ?_, errs_scan (modE M) M.length (Sum.inr : Int × Int → Unit ⊕ (Int × Int))]
              · cases errs (modE M) M.length <;> rfl
              · intro i hi
                have hn := hs (gm M i) (by unfold gm; rw [getD_i hi]; exact List.getElem_mem hi)
                have hl := nms_len (M := M) (i := i)
                simp (disch := omega) only [obnd_s, obnd_n, oite_ss, oite_t, oite_f, ogrd_t, ogrd_f, obndS_l, obndS_r, ilt_eq, ile_eq, ieq_eq, imax_e, imin_e, k0, k1, k2, k3, k4, k5, k6, k7, k8, k9, reduceIte, k10, k11, k12, k13, k14, k15, k16, k17, k18, k19, k20, k21, k22, k23, k24, k25, k26, k27, k28, hi, get_gm hi, wr]
                rw [f354_e hn (by omega), nms_any, show (bif !nameB (gm M i).1 then (4 : Int) else bif knownM M i then 5 else bif !(s4 (gm M i).2.1 && s4 (gm M i).2.2.1 && z4 (gm M i).2.2.2) then 2 else 0) = modE M i from rfl]
                simp only [obnd_s]
                rw [ogrd_fits (by simp; omega) (by simp; omega), nms_s hi]
                cases decide (modE M i = 0) <;> rfl
              · simp (disch := omega) only [obnd_s, obnd_n, oite_ss, oite_t, oite_f, ogrd_t, ogrd_f, obndS_l, obndS_r, ilt_eq, ile_eq, ieq_eq, imax_e, imin_e, k0, k1, k2, k3, k4, k5, k6, k7, k8, k9, reduceIte, k10, k11, k12, k13, k14, k15, k16, k17, k18, k19, k20, k21, k22, k23, k24, k25, k26, k27, k28, Int.lt_irrefl]
theorem f326_e {lo up v m w : Int} {M : List (ByteArray × Int × Int × Int)} {H : List (Int × Int × Int)} (hM : M.length < 4611686018427387904) (hs : ∀ p, p ∈ M → p.1.size < 4611686018427387904) (hH : H.length < 4611686018427387904) : f326 lo up M v m w H = some (ckT lo up M v m w H) := by
  unfold f326 ckT f347
  have hw : IntKind.i64.wrap ((M.length : Int) - 1) = (M.length : Int) - 1 := wr (by omega) (by omega)
  simp only [f325_e hM hs, obnd_s, f15_e, f355_e, List.length_map, ile_eq, ilt_eq, ieq_eq, hw]
  cases h1 : decide ((ckP lo up M).2 = 0) with
  | false => rfl
  | true =>
    have e3 : decide (((H.length : Nat) : Int) = 0) = !decide ((0 : Int) < ((H.length : Nat) : Int)) := by rw [← decide_not]; congr 1; exact propext (by omega)
    have e4 : decide ((10 : Int) < ((H.length : Nat) : Int)) = !decide (((H.length : Nat) : Int) ≤ 10) := by rw [← decide_not]; congr 1; exact propext (by omega)
    rw [e3, e4]
    unfold tskE
    cases (decide (lo ≤ v) && decide (v ≤ up)) with
    | false => rfl
    | true =>
      cases (decide (0 ≤ m) && decide (m ≤ (M.length : Int) - 1)) with
      | false => rfl
      | true =>
        cases s4 w with
        | false => rfl
        | true =>
          cases decide ((0 : Int) < ((H.length : Nat) : Int)) with
          | false => rfl
          | true =>
            cases decide (((H.length : Nat) : Int) ≤ 10) with
            | false => rfl
            | true =>
              simp only [Bool.not_true, oite_f, cond_false, decide_true]
              rw [oloop_scanB (fun i => (i : Int)) H.length (fun i => !decide (hourE H i = 0)) (fun i => .inr ((i : Int), hourE H i)) (d := .inl ()) (e0 := 0) rfl ?_ ?_, errs_scan (hourE H) H.length (Sum.inr : Int × Int → Unit ⊕ (Int × Int))]
              · cases errs (hourE H) H.length <;> rfl
              · intro i hi
                have e5 : decide ((gh H i).1 < (gh H i).2.1) = !decide ((gh H i).2.1 ≤ (gh H i).1) := by rw [← decide_not]; congr 1; exact propext (by omega)
                simp (disch := omega) only [obnd_s, obnd_n, oite_ss, oite_t, oite_f, ogrd_t, ogrd_f, obndS_l, obndS_r, ilt_eq, ile_eq, ieq_eq, imax_e, imin_e, k0, k1, k2, k3, k4, k5, k6, k7, k8, k9, reduceIte, k10, k11, k12, k13, k14, k15, k16, k17, k18, k19, k20, k21, k22, k23, k24, k25, k26, k27, k28, hi, get_gh hi, wr, e5]
                unfold hourE
                cases s4 (gh H i).1 <;> cases s4 (gh H i).2.1 <;> cases s4 (gh H i).2.2 <;> cases decide ((gh H i).2.1 ≤ (gh H i).1) <;> rfl
              · simp (disch := omega) only [obnd_s, obnd_n, oite_ss, oite_t, oite_f, ogrd_t, ogrd_f, obndS_l, obndS_r, ilt_eq, ile_eq, ieq_eq, imax_e, imin_e, k0, k1, k2, k3, k4, k5, k6, k7, k8, k9, reduceIte, k10, k11, k12, k13, k14, k15, k16, k17, k18, k19, k20, k21, k22, k23, k24, k25, k26, k27, k28, Int.lt_irrefl]
theorem f311_e {lo up v m w : Int} {M : List (ByteArray × Int × Int × Int)} {H : List (Int × Int × Int)} (hM : M.length < 4611686018427387904) (hs : ∀ p, p ∈ M → p.1.size < 4611686018427387904) (hH : H.length < 4611686018427387904) : f311 lo up M v m w H = some (ckT lo up M v m w H).2 := by
  unfold f311; rw [f326_e hM hs hH]; rfl
end
section
set_option linter.unusedSimpArgs false
set_option linter.unusedVariables false
open Go Go.RowKit

theorem f38_e {L : List Int} (h : L.length ≤ 1000000000) : f38 L = some L := by
  unfold f38; rw [ogrd_fits (by simp; omega) (by simp; omega)]; rfl
section
variable {lo up v m w : Int} {M : List (ByteArray × Int × Int × Int)} {H : List (Int × Int × Int)} {P : List Int}
theorem f328_e (k : okT lo up M v m w H) (hl : P.length = H.length) (hp : plM M P) : f328 lo up M v m w H P = some (vL M H v P H.length) := by
  unfold f328
  refine (obnd_of (a := vL M H v P H.length) ?_).trans rfl
  refine oloop_all (fun i => (vL M H v P i, (i : Int))) H.length rfl ?_ ?_
  · intro i hi
    have hb := vv_b k hl hp i (by omega)
    obtain ⟨j, hj, he⟩ := hp i (by omega)
    have hf := k.hfew
    have h1 := k.hour i hi
    have h2 := k.mode j hj
    have e1 : vv M H v P i + (gh H i).2.2 + (gm M j).2.1 = vv M H v P (i + 1) := by simp only [vv, he, Int.toNat_natCast]
    simp (disch := omega) only [obnd_s, obnd_n, oite_ss, oite_t, oite_f, ogrd_t, ogrd_f, obndS_l, obndS_r, ilt_eq, ile_eq, ieq_eq, imax_e, imin_e, k0, k1, k2, k3, k4, k5, k6, k7, k8, k9, reduceIte, k10, k11, k12, k13, k14, k15, k16, k17, k18, k19, k20, k21, k22, k23, k24, k25, k26, k27, k28, hl, hi, get_gi (show i < P.length by omega), he, vL_get (Nat.le_refl i), get_gh hi, get_gm hj, wr]
    rw [e1, ogrd_fits (by rw [vL_len]; simp; omega) (by rw [vL_len]; simp; omega), vL_s]; rfl
  · simp (disch := omega) only [obnd_s, obnd_n, oite_ss, oite_t, oite_f, ogrd_t, ogrd_f, obndS_l, obndS_r, ilt_eq, ile_eq, ieq_eq, imax_e, imin_e, k0, k1, k2, k3, k4, k5, k6, k7, k8, k9, reduceIte, k10, k11, k12, k13, k14, k15, k16, k17, k18, k19, k20, k21, k22, k23, k24, k25, k26, k27, k28, Int.lt_irrefl, hl]
theorem f356_e (k : okT lo up M v m w H) (hl : P.length = H.length) (hp : plM M P) : f356 lo up M v m w H P = some (!badV lo up M H v P) := by
  unfold f356
  rw [f328_e k hl hp]
  simp only [obnd_s]
  have hf := k.hfew
  rw [oloop_scanB (fun i => (i : Int)) (H.length + 1) (fun i => !inR lo up (vv M H v P i)) (fun _ => .inr false) (d := .inl ()) (e0 := 0) rfl ?_ ?_, scan_c]
  · have h0 : inR lo up (vv M H v P 0) = true := by
      show (decide (lo ≤ v) && decide (v ≤ up)) = true
      rw [decide_eq_true k.vlo, decide_eq_true k.vhi]; rfl
    simp only [anyN, h0, Bool.not_true, Bool.false_or]
    unfold badV
    cases anyN (fun i => !inR lo up (vv M H v P i)) H.length 1 <;> rfl
  · intro i hi
    simp (disch := omega) only [obnd_s, obnd_n, oite_ss, oite_t, oite_f, ogrd_t, ogrd_f, obndS_l, obndS_r, ilt_eq, ile_eq, ieq_eq, imax_e, imin_e, k0, k1, k2, k3, k4, k5, k6, k7, k8, k9, reduceIte, k10, k11, k12, k13, k14, k15, k16, k17, k18, k19, k20, k21, k22, k23, k24, k25, k26, k27, k28, vL_len, vL_get (show i ≤ H.length by omega), f15_e, wr, show ((i : Nat) : Int) < ((H.length + 1 : Nat) : Int) by omega]
    unfold inR
    cases (decide (lo ≤ vv M H v P i) && decide (vv M H v P i ≤ up)) <;> rfl
  · simp (disch := omega) only [obnd_s, obnd_n, oite_ss, oite_t, oite_f, ogrd_t, ogrd_f, obndS_l, obndS_r, ilt_eq, ile_eq, ieq_eq, imax_e, imin_e, k0, k1, k2, k3, k4, k5, k6, k7, k8, k9, reduceIte, k10, k11, k12, k13, k14, k15, k16, k17, k18, k19, k20, k21, k22, k23, k24, k25, k26, k27, k28, Int.lt_irrefl, vL_len]
theorem f327_e (k : okT lo up M v m w H) (hP : P.length < 4611686018427387904) : f327 lo up M v m w H P = some (pE lo up M H v P) := by
  unfold f327 pE
  have hf := k.mfew
  have hw : IntKind.i64.wrap ((M.length : Int) - 1) = (M.length : Int) - 1 := wr (by omega) (by omega)
  simp only [List.length_map, ieq_eq, ceqN, hw]
  cases h1 : decide (P.length = H.length) with
  | false => rfl
  | true =>
    rw [Bool.not_true, oite_f, oloop_scanB (fun i => (i : Int)) P.length (fun i => !isM M (P.getD i 0)) (fun _ => .inr 6) (d := .inl ()) (e0 := 0) rfl ?_ ?_, scan_anyB (fun n => !isM M n) 0 (Sum.inr 6 : Unit ⊕ Int) P]
    · cases h2 : P.any (fun n => !isM M n) with
      | true => rfl
      | false =>
        simp only [cond_false, Option.getD_none, obndS_l]
        rw [f356_e k (of_decide_eq_true h1) (plM_any h2)]
        cases badV lo up M H v P <;> rfl
    · intro i hi
      rw [getD_i hi]
      simp (disch := omega) only [obnd_s, obnd_n, oite_ss, oite_t, oite_f, ogrd_t, ogrd_f, obndS_l, obndS_r, ilt_eq, ile_eq, ieq_eq, imax_e, imin_e, k0, k1, k2, k3, k4, k5, k6, k7, k8, k9, reduceIte, k10, k11, k12, k13, k14, k15, k16, k17, k18, k19, k20, k21, k22, k23, k24, k25, k26, k27, k28, hi, get_i hi, f15_e, wr]
      unfold isM
      cases (decide (0 ≤ P[i]) && decide (P[i] ≤ (M.length : Int) - 1)) <;> rfl
    · simp (disch := omega) only [obnd_s, obnd_n, oite_ss, oite_t, oite_f, ogrd_t, ogrd_f, obndS_l, obndS_r, ilt_eq, ile_eq, ieq_eq, imax_e, imin_e, k0, k1, k2, k3, k4, k5, k6, k7, k8, k9, reduceIte, k10, k11, k12, k13, k14, k15, k16, k17, k18, k19, k20, k21, k22, k23, k24, k25, k26, k27, k28, Int.lt_irrefl]

theorem f322_e (hM : M.length < 4611686018427387904) (hs : ∀ p, p ∈ M → p.1.size < 4611686018427387904) (hH : H.length < 4611686018427387904) (hP : P.length < 4611686018427387904) :
    f322 lo up M v m w H P = some ((bif decide (plE lo up M v m w H P = 0) then vL M H v P H.length else []), plE lo up M v m w H P) := by
  unfold f322; rw [f221_e hM hs hH hP]; rfl
/-- What is promised. -/
def prm (n : Nat) (L : List Int) : Nat → Int
  | 0 => 10
  | i + 1 => bif decide (gi L i < (n : Int) - i) then min (prm n L i) (gi L i) else prm n L i
theorem gi_rs {j n i : Nat} (h : i < n) : gi (rsL lo up M H v P j n) i = (gvn lo up M H j (H.length - i) i (vv M H v P i) : Int) := by
  unfold gi rsL; rw [List.getD_eq_getElem?_getD]; simp [h]
theorem f318_e (hM : M.length < 4611686018427387904) (hs : ∀ p, p ∈ M → p.1.size < 4611686018427387904) (hH : H.length < 4611686018427387904) (hP : P.length < 4611686018427387904) (r : Int) :
    f318 lo up M v m w H P r = some (bif decide (rsE lo up M v m w H P r = 0) then (prm H.length (rsL lo up M H v P r.toNat H.length) H.length, 0) else (0, rsE lo up M v m w H P r)) := by
  unfold f318
  rw [f209_e hM hs hH hP]
  simp only [obnd_s, ieq_eq]
  cases h1 : decide (rsE lo up M v m w H P r = 0) with
  | false => simp only [cond_false, h1, Bool.not_false, oite_t]
  | true =>
    simp only [cond_true, decide_true, Bool.not_true, oite_f]
    refine (obnd_of (a := prm H.length (rsL lo up M H v P r.toNat H.length) H.length) ?_).trans rfl
    refine oloop_all (fun i => (prm H.length (rsL lo up M H v P r.toNat H.length) i, (i : Int))) H.length rfl ?_ ?_
    · intro i hi
      simp only [prm]
      simp (disch := omega) only [obnd_s, obnd_n, oite_ss, oite_t, oite_f, ogrd_t, ogrd_f, obndS_l, obndS_r, ilt_eq, ile_eq, ieq_eq, imax_e, imin_e, k0, k1, k2, k3, k4, k5, k6, k7, k8, k9, reduceIte, k10, k11, k12, k13, k14, k15, k16, k17, k18, k19, k20, k21, k22, k23, k24, k25, k26, k27, k28, rsL_len, hi, get_gi (l := rsL lo up M H v P r.toNat H.length) (show i < (rsL lo up M H v P r.toNat H.length).length by rw [rsL_len]; exact hi), wr]
      cases decide (gi (rsL lo up M H v P r.toNat H.length) i < (H.length : Int) - (i : Int)) <;> rfl
    · simp (disch := omega) only [obnd_s, obnd_n, oite_ss, oite_t, oite_f, ogrd_t, ogrd_f, obndS_l, obndS_r, ilt_eq, ile_eq, ieq_eq, imax_e, imin_e, k0, k1, k2, k3, k4, k5, k6, k7, k8, k9, reduceIte, k10, k11, k12, k13, k14, k15, k16, k17, k18, k19, k20, k21, k22, k23, k24, k25, k26, k27, k28, Int.lt_irrefl, rsL_len]
theorem rsE_0 {r : Int} (h : rsE lo up M v m w H P r = 0) : okT lo up M v m w H ∧ P.length = H.length ∧ plM M P ∧ badV lo up M H v P = false ∧ ∃ j : Nat, j < M.length ∧ r = (j : Int) := by
  unfold rsE at h
  by_cases h3 : plE lo up M v m w H P = 0
  · rw [if_pos h3] at h
    cases h4 : isM M r with
    | false => rw [h4] at h; cases h
    | true =>
      obtain ⟨k, h5⟩ := plE_0 h3
      obtain ⟨hl, hp, hb⟩ := pE_0 h5
      exact ⟨k, hl, hp, hb, isM_n h4⟩
  · rw [if_neg h3] at h; exact absurd h h3
theorem f317_e {r : Int} (h : P.length ≤ 1000000000) : f317 P r = some (P, r) := by unfold f317; rw [f38_e h]; rfl
theorem f319_e (k : okT lo up M v m w H) (hP : P.length < 4611686018427387904) (r : Int) : f319 lo up M v m w H P r = some (if pE lo up M H v P = 0 then (bif isM M r then 0 else 6) else pE lo up M H v P) := by
  unfold f319
  have hf := k.mfew
  have hw : IntKind.i64.wrap ((M.length : Int) - 1) = (M.length : Int) - 1 := wr (by omega) (by omega)
  rw [f327_e k hP]
  simp only [obnd_s, ieq_eq, f15_e, List.length_map, hw]
  by_cases h : pE lo up M H v P = 0
  · rw [if_pos h, decide_eq_true h]
    unfold isM
    cases (decide (0 ≤ r) && decide (r ≤ (M.length : Int) - 1)) <;> rfl
  · rw [if_neg h, decide_eq_false h]; rfl
end
end
section
set_option linter.unusedSimpArgs false
set_option linter.unusedVariables false
open Go Go.RowKit

section
variable {lo up v m w : Int} {M : List (ByteArray × Int × Int × Int)} {H : List (Int × Int × Int)} {P : List Int} {hd hd' : Nat → Int → Bool}
theorem gi_app {L L' : List Int} {i : Nat} (h : i < L.length) : gi (L ++ L') i = gi L i := by
  unfold gi; rw [List.getD_eq_getElem?_getD, List.getD_eq_getElem?_getD, List.getElem?_append_left h]
theorem gi_end {L : List Int} {x : Int} {i : Nat} (h : L.length = i) : gi (L ++ [x]) i = x := by
  subst h; unfold gi; rw [List.getD_eq_getElem?_getD]; simp
theorem gi_tk {L : List Int} {n i : Nat} (h : i < n) : gi (L.take n) i = gi L i := by
  unfold gi; rw [List.getD_eq_getElem?_getD, List.getD_eq_getElem?_getD, List.getElem?_take, if_pos h]
/-- One hour of the walk. -/
theorem walk_s (k : okT lo up M v m w H) (h : (opt lo up M H w hd H.length v m.toNat).isSome = true) {i : Nat} (hi : i < H.length) :
    ∃ j : Nat, j < M.length ∧ walkP M H v m (tstO lo up M H (opt lo up M H w hd)) (i + 1) = ((walkP M H v m (tstO lo up M H (opt lo up M H w hd)) i).1 ++ [(j : Int)], aft M H (walkP M H v m (tstO lo up M H (opt lo up M H w hd)) i).2.1 i j, j) ∧
      inR lo up (aft M H (walkP M H v m (tstO lo up M H (opt lo up M H w hd)) i).2.1 i j) = true ∧ hd i (walkP M H v m (tstO lo up M H (opt lo up M H w hd)) i).2.1 = true := by
  obtain ⟨_, h2, h3⟩ := walk_eq k h i (by omega)
  obtain ⟨_, _, h5⟩ := walk_eq k h (i + 1) (by omega)
  have hs : walkP M H v m (tstO lo up M H (opt lo up M H w hd)) (i + 1) = match pickN (tstO lo up M H (opt lo up M H w hd) i (walkP M H v m (tstO lo up M H (opt lo up M H w hd)) i).2.1 (walkP M H v m (tstO lo up M H (opt lo up M H w hd)) i).2.2) M.length with
    | some j => ((walkP M H v m (tstO lo up M H (opt lo up M H w hd)) i).1 ++ [(j : Int)], aft M H (walkP M H v m (tstO lo up M H (opt lo up M H w hd)) i).2.1 i j, j)
    | none => walkP M H v m (tstO lo up M H (opt lo up M H w hd)) i := rfl
  have hhd : hd i (walkP M H v m (tstO lo up M H (opt lo up M H w hd)) i).2.1 = true := by
    rw [show H.length - i = (H.length - (i + 1)) + 1 by omega] at h2
    simp only [opt] at h2
    rw [show H.length - (H.length - (i + 1) + 1) = i by omega] at h2
    cases hh : hd i (walkP M H v m (tstO lo up M H (opt lo up M H w hd)) i).2.1 with
    | true => rfl
    | false => rw [hh] at h2; cases h2
  cases hp : pickN (tstO lo up M H (opt lo up M H w hd) i (walkP M H v m (tstO lo up M H (opt lo up M H w hd)) i).2.1 (walkP M H v m (tstO lo up M H (opt lo up M H w hd)) i).2.2) M.length with
  | none =>
    rw [hp] at hs
    simp only at hs
    rw [hs, h3] at h5; omega
  | some j =>
    rw [hp] at hs
    obtain ⟨hj, ht, _⟩ := pick_some hp
    exact ⟨j, hj, hs, tstO_in _ _ _ _ ht, hhd⟩
theorem walk_tk (k : okT lo up M v m w H) (h : (opt lo up M H w hd H.length v m.toNat).isSome = true) : ∀ d i : Nat, i + d ≤ H.length →
    (walkP M H v m (tstO lo up M H (opt lo up M H w hd)) (i + d)).1.take i = (walkP M H v m (tstO lo up M H (opt lo up M H w hd)) i).1
  | 0, i, hi => by
    obtain ⟨_, _, h3⟩ := walk_eq k h i (by omega)
    rw [Nat.add_zero, List.take_of_length_le (by omega)]
  | d + 1, i, hi => by
    obtain ⟨j, _, hs, _⟩ := walk_s k h (i := i + d) (by omega)
    obtain ⟨_, _, h3⟩ := walk_eq k h (i + d) (by omega)
    rw [show i + (d + 1) = (i + d) + 1 by omega, hs]
    simp only
    rw [List.take_append_of_le_length (by omega), walk_tk k h d i (by omega)]
/-- The plan that is found. -/
def bestP (lo up : Int) (M : List (ByteArray × Int × Int × Int)) (H : List (Int × Int × Int)) (v m w : Int) (hd : Nat → Int → Bool) : List Int := (walkP M H v m (tstO lo up M H (opt lo up M H w hd)) H.length).1
theorem best_len (k : okT lo up M v m w H) (h : (opt lo up M H w hd H.length v m.toNat).isSome = true) : (bestP lo up M H v m w hd).length = H.length := (walk_eq k h H.length (Nat.le_refl _)).2.2
theorem best_at (k : okT lo up M v m w H) (h : (opt lo up M H w hd H.length v m.toNat).isSome = true) {i : Nat} (hi : i < H.length) {j : Nat}
    (hs : walkP M H v m (tstO lo up M H (opt lo up M H w hd)) (i + 1) = ((walkP M H v m (tstO lo up M H (opt lo up M H w hd)) i).1 ++ [(j : Int)], aft M H (walkP M H v m (tstO lo up M H (opt lo up M H w hd)) i).2.1 i j, j)) : gi (bestP lo up M H v m w hd) i = (j : Int) := by
  obtain ⟨_, _, h3⟩ := walk_eq k h i (by omega)
  have h4 := walk_tk k h (H.length - (i + 1)) (i + 1) (by omega)
  rw [show i + 1 + (H.length - (i + 1)) = H.length by omega] at h4
  rw [← gi_tk (L := bestP lo up M H v m w hd) (n := i + 1) (Nat.lt_succ_self i)]
  unfold bestP
  rw [h4, hs]
  exact gi_end h3
theorem best_vv (k : okT lo up M v m w H) (h : (opt lo up M H w hd H.length v m.toNat).isSome = true) : ∀ i : Nat, i ≤ H.length → vv M H v (bestP lo up M H v m w hd) i = (walkP M H v m (tstO lo up M H (opt lo up M H w hd)) i).2.1 ∧ bef m (bestP lo up M H v m w hd) i = ((walkP M H v m (tstO lo up M H (opt lo up M H w hd)) i).2.2 : Int)
  | 0, _ => ⟨rfl, by have := k.m0; simp only [bef, walkP]; omega⟩
  | i + 1, hi => by
    obtain ⟨h1, _⟩ := best_vv k h i (by omega)
    obtain ⟨j, _, hs, _⟩ := walk_s k h (i := i) (by omega)
    have h2 := best_at k h (by omega) hs
    rw [hs]
    simp only [vv, bef, h1, h2, Int.toNat_natCast]
    exact ⟨rfl, trivial⟩
theorem best_plM (k : okT lo up M v m w H) (h : (opt lo up M H w hd H.length v m.toNat).isSome = true) : plM M (bestP lo up M H v m w hd) := by
  intro i hi
  rw [best_len k h] at hi
  obtain ⟨j, hj, hs, _⟩ := walk_s k h hi
  exact ⟨j, hj, best_at k h hi hs⟩
theorem best_hd (k : okT lo up M v m w H) (h : (opt lo up M H w hd H.length v m.toNat).isSome = true) {i : Nat} (hi : i < H.length) : hd i (vv M H v (bestP lo up M H v m w hd) i) = true := by
  obtain ⟨j, hj, _, _, h1⟩ := walk_s k h hi
  rw [(best_vv k h i (by omega)).1]; exact h1
theorem best_in (k : okT lo up M v m w H) (h : (opt lo up M H w hd H.length v m.toNat).isSome = true) {i : Nat} (hi : i < H.length) : inR lo up (vv M H v (bestP lo up M H v m w hd) (i + 1)) = true := by
  obtain ⟨j, hj, hs, h1, _⟩ := walk_s k h hi
  rw [(best_vv k h (i + 1) (by omega)).1, hs]; exact h1
theorem any_plM (h : plM M P) : P.any (fun n => !isM M n) = false := by
  rw [List.any_eq_false]
  intro x hx
  obtain ⟨i, hi, rfl⟩ := List.getElem_of_mem hx
  obtain ⟨j, hj, he⟩ := h i hi
  unfold gi at he; rw [getD_i hi] at he
  rw [he]
  simp only [isM, Bool.not_eq_true, Bool.not_eq_false', Bool.and_eq_true, decide_eq_true_eq]; omega
theorem best_pE (k : okT lo up M v m w H) (h : (opt lo up M H w hd H.length v m.toNat).isSome = true) : pE lo up M H v (bestP lo up M H v m w hd) = 0 := by
  unfold pE
  rw [best_len k h, decide_eq_true rfl, any_plM (best_plM k h)]
  have : badV lo up M H v (bestP lo up M H v m w hd) = false := by
    refine anyN_of_f fun i h1 h2 => ?_
    obtain ⟨q, rfl⟩ := Nat.exists_eq_succ_of_ne_zero (show i ≠ 0 by omega)
    have := best_in k h (i := q) (by omega)
    simp only [Nat.succ_eq_add_one, this, Bool.not_true]
  rw [this]; rfl

/-! ### No possible plan is worth more -/
theorem opt_ge (k : okT lo up M v m w H) (hl : P.length = H.length) (hp : plM M P) (hb : badV lo up M H v P = false) (hh : ∀ i, i < H.length → hd i (vv M H v P i) = true) : ∀ q : Nat, q ≤ H.length →
    ∃ y, opt lo up M H w hd q (vv M H v P (H.length - q)) (bef m P (H.length - q)).toNat = some y ∧ w * vv M H v P H.length + (vsum M H m P H.length - vsum M H m P (H.length - q)) ≤ y
  | 0, _ => ⟨_, rfl, by rw [Nat.sub_zero]; omega⟩
  | q + 1, hq => by
    obtain ⟨z, hz, hle⟩ := opt_ge k hl hp hb hh q (by omega)
    have e : H.length - q = (H.length - (q + 1)) + 1 := by omega
    generalize ht : H.length - (q + 1) = t at *
    have hlt : t < H.length := by omega
    obtain ⟨j, hj, he⟩ := hp t (by omega)
    rw [e] at hz hle
    have hv : vv M H v P (t + 1) = aft M H (vv M H v P t) t j := by simp only [vv, he, Int.toNat_natCast]; rfl
    have hbf : (bef m P (t + 1)).toNat = j := by simp only [bef, he, Int.toNat_natCast]
    rw [hv, hbf] at hz
    have hin := badV_f k hb (t + 1) (by omega)
    rw [hv] at hin
    have hin' : inR lo up (aft M H (vv M H v P t) t j) = true := by unfold inR; rw [decide_eq_true hin.1, decide_eq_true hin.2]; rfl
    obtain ⟨y, hy, hle2⟩ := optJ_ge (lo := lo) (up := up) (M := M) (H := H) (ok := opt lo up M H w hd q) (t := t) (b := (bef m P t).toNat) M.length hj hin' hz
    refine ⟨y, ?_, ?_⟩
    · simp only [opt]
      rw [ht, hh t hlt]
      exact hy
    · simp only [vsum, he, Int.toNat_natCast] at hle
      omega
theorem opt_plan (k : okT lo up M v m w H) (hl : P.length = H.length) (hp : plM M P) (hb : badV lo up M H v P = false) (hh : ∀ i, i < H.length → hd i (vv M H v P i) = true) : ∃ y, opt lo up M H w hd H.length v m.toNat = some y ∧ valP M H v m w P ≤ y := by
  obtain ⟨y, hy, hle⟩ := opt_ge (hd := hd) k hl hp hb hh H.length (Nat.le_refl _)
  rw [Nat.sub_self] at hy hle
  refine ⟨y, hy, ?_⟩
  unfold valP
  simp only [vsum] at hle
  omega
/-! ### What holds more is worth no more -/
theorem opt_mono (hm : ∀ t x, t < H.length → hd' t x = true → hd t x = true) : ∀ (q : Nat) (x : Int) (b : Nat) (y : Int), q ≤ H.length → opt lo up M H w hd' q x b = some y → ∃ z, opt lo up M H w hd q x b = some z ∧ y ≤ z
  | 0, x, b, y, _, h => ⟨y, h, Int.le_refl _⟩
  | q + 1, x, b, y, hq, h => by
    simp only [opt] at h ⊢
    cases h1 : hd' (H.length - (q + 1)) x with
    | false => rw [h1] at h; cases h
    | true =>
      rw [h1] at h
      rw [hm _ _ (by omega) h1]
      simp only [cond_true] at h ⊢
      obtain ⟨j, z, hj, h2, h3, rfl⟩ := optJ_at M.length h
      obtain ⟨z', h4, h5⟩ := opt_mono hm q _ _ _ (by omega) h3
      obtain ⟨y', h6, h7⟩ := optJ_ge (b := b) M.length hj h2 h4
      exact ⟨y', h6, by omega⟩
/-- The plan that is found is worth its value. -/
theorem best_val (k : okT lo up M v m w H) (h : (opt lo up M H w hd H.length v m.toNat).isSome = true) : ∀ i : Nat, i ≤ H.length →
    ∃ y0 y, opt lo up M H w hd H.length v m.toNat = some y0 ∧ opt lo up M H w hd (H.length - i) (vv M H v (bestP lo up M H v m w hd) i) (bef m (bestP lo up M H v m w hd) i).toNat = some y ∧ y0 = vsum M H m (bestP lo up M H v m w hd) i + y
  | 0, _ => by
    obtain ⟨y, hy⟩ := Option.isSome_iff_exists.1 h
    exact ⟨y, y, hy, hy, by simp [vsum]⟩
  | i + 1, hi => by
    obtain ⟨y0, y, h1, h2, h3⟩ := best_val k h i (by omega)
    obtain ⟨e1, e2⟩ := best_vv k h i (by omega)
    obtain ⟨e3, e4⟩ := best_vv k h (i + 1) (by omega)
    have hs : walkP M H v m (tstO lo up M H (opt lo up M H w hd)) (i + 1) = match pickN (tstO lo up M H (opt lo up M H w hd) i (walkP M H v m (tstO lo up M H (opt lo up M H w hd)) i).2.1 (walkP M H v m (tstO lo up M H (opt lo up M H w hd)) i).2.2) M.length with
      | some j => ((walkP M H v m (tstO lo up M H (opt lo up M H w hd)) i).1 ++ [(j : Int)], aft M H (walkP M H v m (tstO lo up M H (opt lo up M H w hd)) i).2.1 i j, j)
      | none => walkP M H v m (tstO lo up M H (opt lo up M H w hd)) i := rfl
    obtain ⟨j', hj', hs', _⟩ := walk_s k h (i := i) (by omega)
    have h5 := best_at k h (by omega) hs'
    cases hp : pickN (tstO lo up M H (opt lo up M H w hd) i (walkP M H v m (tstO lo up M H (opt lo up M H w hd)) i).2.1 (walkP M H v m (tstO lo up M H (opt lo up M H w hd)) i).2.2) M.length with
    | none =>
      rw [hp] at hs
      simp only at hs
      obtain ⟨_, _, h6⟩ := walk_eq k h i (by omega)
      obtain ⟨_, _, h7⟩ := walk_eq k h (i + 1) (by omega)
      rw [hs, h6] at h7; omega
    | some j =>
      rw [hp] at hs
      have hjj : j = j' := by
        have := hs.symm.trans hs'
        injection this with _ this
        injection this
      subst hjj
      obtain ⟨_, ht, _⟩ := pick_some hp
      rw [e1, e2, Int.toNat_natCast] at h2
      simp only [tstO, Bool.and_eq_true] at ht
      obtain ⟨_, ht⟩ := ht
      rw [e3, e4, hs', Int.toNat_natCast]
      simp only
      cases h8 : opt lo up M H w hd (H.length - (i + 1)) (aft M H (walkP M H v m (tstO lo up M H (opt lo up M H w hd)) i).2.1 i j) j with
      | none => rw [h8] at ht; cases ht
      | some z =>
        rw [h8] at ht
        simp only [decide_eq_true_eq] at ht
        rw [ht] at h2
        injection h2 with h2
        refine ⟨y0, z, h1, rfl, ?_⟩
        simp only [vsum, h5, e2, Int.toNat_natCast]
        omega
theorem best_worth (k : okT lo up M v m w H) {y : Int} (h : opt lo up M H w hd H.length v m.toNat = some y) : valP M H v m w (bestP lo up M H v m w hd) = y := by
  obtain ⟨y0, z, h1, h2, h3⟩ := best_val (hd := hd) k (by rw [h]; rfl) H.length (Nat.le_refl _)
  rw [h] at h1; injection h1 with h1
  rw [Nat.sub_self] at h2
  simp only [opt] at h2
  injection h2 with h2
  unfold valP; omega
end
end
section
set_option linter.unusedSimpArgs false
set_option linter.unusedVariables false
open Go Go.RowKit

section
variable {lo up v m w : Int} {M : List (ByteArray × Int × Int × Int)} {H : List (Int × Int × Int)} {P : List Int}
/-! ### A task of some hours alone -/
theorem gh_part {h s i : Nat} (hi : i < s) : gh ((H.drop h).take s) i = gh H (h + i) := by
  unfold gh; rw [List.getD_eq_getElem?_getD, List.getD_eq_getElem?_getD, List.getElem?_take, if_pos hi, List.getElem?_drop]
theorem part_l {h s : Nat} (hs : h + s ≤ H.length) : ((H.drop h).take s).length = s := by rw [List.length_take, List.length_drop]; omega
theorem gi_repl {x : Int} {n i : Nat} (h : i < n) : gi (List.replicate n x) i = x := by
  unfold gi; rw [List.getD_eq_getElem?_getD, List.getElem?_replicate, if_pos h]; rfl
/-- The volume after some hours of one mode. -/
def wsm (M : List (ByteArray × Int × Int × Int)) (H : List (Int × Int × Int)) (j h : Nat) (x : Int) : Nat → Int
  | 0 => x
  | i + 1 => wsm M H j h x i + (gh H (h + i)).2.2 + (gm M j).2.1
theorem wsm_s {j : Nat} : ∀ (i h : Nat) (x : Int), wsm M H j h x (i + 1) = wsm M H j (h + 1) (x + (gh H h).2.2 + (gm M j).2.1) i
  | 0, h, x => rfl
  | i + 1, h, x => by
    have := wsm_s (j := j) i h x
    simp only [wsm] at this ⊢
    rw [this, show h + 1 + i = h + (i + 1) by omega]
theorem vv_part {j h s : Nat} {x : Int} : ∀ i : Nat, i ≤ s → vv M ((H.drop h).take s) x (List.replicate s (j : Int)) i = wsm M H j h x i
  | 0, _ => rfl
  | i + 1, hi => by simp only [vv, wsm, vv_part (h := h) (s := s) (x := x) i (by omega), gh_part (show i < s by omega), gi_repl (show i < s by omega), Int.toNat_natCast]
theorem gvn_iff {j : Nat} : ∀ (q h : Nat) (x : Int) (s : Nat), s ≤ q → (s ≤ gvn lo up M H j q h x ↔ ∀ i, 1 ≤ i → i ≤ s → inR lo up (wsm M H j h x i) = true)
  | 0, h, x, s, hs => by
    have : s = 0 := by omega
    subst this
    exact ⟨fun _ i h1 h2 => by omega, fun _ => Nat.zero_le _⟩
  | q + 1, h, x, 0, _ => ⟨fun _ i h1 h2 => by omega, fun _ => Nat.zero_le _⟩
  | q + 1, h, x, s + 1, hs => by
    have ih := gvn_iff (j := j) q (h + 1) (x + (gh H h).2.2 + (gm M j).2.1) s (by omega)
    simp only [gvn]
    cases hr : inR lo up (x + (gh H h).2.2 + (gm M j).2.1) with
    | false =>
      simp only [cond_false]
      refine ⟨fun h1 => by omega, fun h1 => ?_⟩
      have := h1 1 (Nat.le_refl _) (by omega)
      simp only [wsm, Nat.add_zero] at this
      rw [hr] at this; cases this
    | true =>
      simp only [cond_true]
      refine ⟨fun h1 i h2 h3 => ?_, fun h1 => ?_⟩
      · obtain ⟨i, rfl⟩ := Nat.exists_eq_succ_of_ne_zero (show i ≠ 0 by omega)
        rw [Nat.succ_eq_add_one, wsm_s]
        rcases Nat.eq_zero_or_pos i with rfl | h4
        · exact hr
        · exact ih.1 (by omega) i h4 (by omega)
      · have := ih.2 fun i h2 h3 => by
          have := h1 (i + 1) (by omega) (by omega)
          rwa [wsm_s] at this
        omega
theorem ckT_parts (h : (ckT lo up M v m w H).2 = 0) : (ckP lo up M).2 = 0 ∧ tskE lo up M.length v m w H.length = 0 ∧ ∀ i, i < H.length → hourE H i = 0 := by
  unfold ckT at h
  cases h1 : decide ((ckP lo up M).2 = 0) with
  | false => rw [h1] at h; exact absurd h (of_decide_eq_false h1)
  | true =>
    cases h2 : decide (tskE lo up M.length v m w H.length = 0) with
    | false => rw [h1, h2] at h; exact absurd h (of_decide_eq_false h2)
    | true =>
      rw [h1, h2] at h
      exact ⟨of_decide_eq_true h1, of_decide_eq_true h2, (errs_get h).2⟩
theorem ckT_part (h0 : (ckT lo up M v m w H).2 = 0) {x : Int} {h s : Nat} (hx : lo ≤ x ∧ x ≤ up) (h1 : 1 ≤ s) (h2 : h + s ≤ H.length) : (ckT lo up M x m 0 ((H.drop h).take s)).2 = 0 := by
  obtain ⟨h3, h4, h5⟩ := ckT_parts h0
  have k := (ckT_0 h0).2
  have hm0 := k.m0; have hm1 := k.m1; have hf := k.hfew
  unfold ckT
  rw [decide_eq_true h3, part_l h2]
  have ht : tskE lo up M.length x m 0 s = 0 := by
    unfold tskE
    rw [decide_eq_true hx.1, decide_eq_true hx.2, decide_eq_true hm0, decide_eq_true (show m ≤ (M.length : Int) - 1 by omega), decide_eq_true (show (0 : Int) < (s : Int) by omega), decide_eq_true (show (s : Int) ≤ 10 by omega)]
    rfl
  rw [decide_eq_true ht]
  have he : errs (hourE ((H.drop h).take s)) s = none := by
    unfold errs
    refine scanF_of_none fun i _ hi => ?_
    have : hourE ((H.drop h).take s) i = 0 := by
      have := h5 (h + i) (by omega)
      unfold hourE at this ⊢
      rw [gh_part (by omega)]; exact this
    rw [decide_eq_true this]; rfl
  rw [he]; rfl
/-- The error of a part: that the volumes leave the limits, or none. -/
theorem plE_part (h0 : (ckT lo up M v m w H).2 = 0) {x : Int} {h s j : Nat} (hj : j < M.length) (hx : lo ≤ x ∧ x ≤ up) (h1 : 1 ≤ s) (h2 : h + s ≤ H.length) :
    plE lo up M x m 0 ((H.drop h).take s) (List.replicate s (j : Int)) = if s ≤ gvn lo up M H j (H.length - h) h x then 0 else 22 := by
  have hl := part_l (H := H) h2
  unfold plE
  rw [decide_eq_true (ckT_part h0 hx h1 h2)]
  simp only [Bool.not_true, cond_false]
  unfold pE
  rw [List.length_replicate, hl, decide_eq_true rfl]
  have ha : (List.replicate s (j : Int)).any (fun n => !isM M n) = false := any_plM fun i hi => ⟨j, hj, gi_repl (by rw [List.length_replicate] at hi; exact hi)⟩
  rw [ha]
  simp only [Bool.not_true, cond_false]
  have hiff := gvn_iff (lo := lo) (up := up) (M := M) (H := H) (j := j) (H.length - h) h x s (by omega)
  have hbv : badV lo up M ((H.drop h).take s) x (List.replicate s (j : Int)) = anyN (fun i => !inR lo up (vv M ((H.drop h).take s) x (List.replicate s (j : Int)) i)) s 1 := by
    unfold badV; rw [hl]
  by_cases hle : s ≤ gvn lo up M H j (H.length - h) h x
  · rw [if_pos hle, hbv, anyN_of_f fun i h3 h4 => ?_]; rfl
    rw [vv_part i (by omega), hiff.1 hle i h3 (by omega)]; rfl
  · rw [if_neg hle, hbv]
    cases hb : anyN (fun i => !inR lo up (vv M ((H.drop h).take s) x (List.replicate s (j : Int)) i)) s 1 with
    | true => rfl
    | false =>
      exfalso
      refine hle (hiff.2 fun i h3 h4 => ?_)
      have := anyN_f hb i h3 (by omega)
      rw [vv_part i h4] at this
      simpa using this

/-! ### What is promised of a plan that holds -/
theorem prm_ge {n : Nat} {L : List Int} {d : Int} (hd : d ≤ 10) (h : ∀ i, i < n → min d ((n : Int) - i) ≤ gi L i) : ∀ i : Nat, i ≤ n → d ≤ prm n L i
  | 0, _ => by simp only [prm]; exact hd
  | i + 1, hi => by
    have ih := prm_ge hd h i (by omega)
    have h1 := h i (by omega)
    simp only [prm]
    cases h2 : decide (gi L i < (n : Int) - i) with
    | true =>
      have h2 := of_decide_eq_true h2
      simp only [cond_true]; omega
    | false => exact ih
/-- What the program answers for a hold. -/
theorem with_e (h0 : (ckT lo up M v m w H).2 = 0) (hM : M.length < 4611686018427387904) (hs : ∀ p, p ∈ M → p.1.size < 4611686018427387904) (hH : H.length < 4611686018427387904) {j : Nat} (hj : j < M.length) {d : Int} (hd : 0 ≤ d ∧ d ≤ 10) :
    f314 lo up M v m w H (j : Int) d = some (match opt lo up M H w (hdB lo up M H j d) H.length v m.toNat with
      | some y => (bestP lo up M H v m w (hdB lo up M H j d), y, 0)
      | none => ([], 0, 12)) := by
  have k := (ckT_0 h0).2
  have h1 : hldE M (j : Int) d = 0 := by
    unfold hldE isM
    rw [decide_eq_true (show (0 : Int) ≤ (j : Int) by omega), decide_eq_true (show (j : Int) ≤ (M.length : Int) - 1 by omega), decide_eq_true hd.1, decide_eq_true hd.2]; rfl
  rw [f314_e hM hs hH, h0, h1]
  simp only [decide_true, Bool.not_true, cond_false]
  cases h2 : opt lo up M H w (hdB lo up M H j d) H.length v m.toNat with
  | none => rfl
  | some y =>
    have h3 := walk_eq (hd := hdB lo up M H j d) k (by rw [h2]; rfl) H.length (Nat.le_refl _)
    have h4 := pot_some k (Nat.le_refl _) k.vlo k.vhi h2
    simp only [Option.isSome_some, cond_true, pp]
    rw [h4.1, h3.1]; rfl
theorem best_e (h0 : (ckT lo up M v m w H).2 = 0) (hM : M.length < 4611686018427387904) (hs : ∀ p, p ∈ M → p.1.size < 4611686018427387904) (hH : H.length < 4611686018427387904) :
    f206 lo up M v m w H = some (match opt lo up M H w (hdB lo up M H (-1) 0) H.length v m.toNat with
      | some y => (bestP lo up M H v m w (hdB lo up M H (-1) 0), y, 0)
      | none => ([], 0, 12)) := by
  have k := (ckT_0 h0).2
  rw [f206_e hM hs hH, h0]
  simp only [decide_true, Bool.not_true, cond_false]
  cases h2 : opt lo up M H w (hdB lo up M H (-1) 0) H.length v m.toNat with
  | none => rfl
  | some y =>
    have h3 := walk_eq (hd := hdB lo up M H (-1) 0) k (by rw [h2]; rfl) H.length (Nat.le_refl _)
    have h4 := pot_some k (Nat.le_refl _) k.vlo k.vhi h2
    simp only [Option.isSome_some, cond_true, pp]
    rw [h4.1, h3.1]; rfl
theorem prom_e (h0 : (ckT lo up M v m w H).2 = 0) (hM : M.length < 4611686018427387904) (hs : ∀ p, p ∈ M → p.1.size < 4611686018427387904) (hH : H.length < 4611686018427387904) {j : Nat} (hj : j < M.length) {d : Int} (hd : 0 ≤ d ∧ d ≤ 10)
    (h : (opt lo up M H w (hdB lo up M H j d) H.length v m.toNat).isSome = true) : ∃ p, f318 lo up M v m w H (bestP lo up M H v m w (hdB lo up M H j d)) (j : Int) = some (p, 0) ∧ d ≤ p := by
  have k := (ckT_0 h0).2
  have hf := k.hfew
  have hl := best_len k h
  have he : rsE lo up M v m w H (bestP lo up M H v m w (hdB lo up M H j d)) (j : Int) = 0 := by
    unfold rsE plE
    rw [decide_eq_true h0]
    simp only [Bool.not_true, cond_false]
    rw [if_pos (best_pE k h)]
    unfold isM
    rw [decide_eq_true (show (0 : Int) ≤ (j : Int) by omega), decide_eq_true (show (j : Int) ≤ (M.length : Int) - 1 by omega)]; rfl
  rw [f318_e hM hs hH (by rw [hl]; omega), he]
  refine ⟨_, rfl, ?_⟩
  refine prm_ge hd.2 (fun i hi => ?_) H.length (Nat.le_refl _)
  rw [Int.toNat_natCast, gi_rs hi]
  have h1 := best_hd k h hi
  unfold hdB at h1
  simp only [Bool.or_eq_true, decide_eq_true_eq, Int.toNat_natCast] at h1
  rcases h1 with h1 | h1
  · omega
  · exact h1
theorem hdB_0 {j : Nat} : ∀ t x, t < H.length → hdB lo up M H (j : Int) 0 t x = true := by
  intro t x ht
  unfold hdB
  rw [Bool.or_eq_true]
  right
  rw [decide_eq_true_eq]; omega
theorem hdB_n : ∀ t x, hdB lo up M H (-1) 0 t x = true := by
  intro t x
  unfold hdB; rfl
theorem hdB_m {j : Nat} {d d' : Int} (h : d ≤ d') : ∀ t x, t < H.length → hdB lo up M H (j : Int) d' t x = true → hdB lo up M H (j : Int) d t x = true := by
  intro t x ht h1
  unfold hdB at h1 ⊢
  simp only [Bool.or_eq_true, decide_eq_true_eq] at h1 ⊢
  rcases h1 with h1 | h1
  · exact .inl h1
  · right; omega
theorem opt_same {hd hd' : Nat → Int → Bool} (h : ∀ t x, t < H.length → hd t x = hd' t x) : ∀ (q : Nat) (x : Int) (b : Nat), q ≤ H.length → opt lo up M H w hd q x b = opt lo up M H w hd' q x b
  | 0, _, _, _ => rfl
  | q + 1, x, b, hq => by
    simp only [opt]
    rw [h _ _ (by omega)]
    have hj : ∀ n : Nat, optJ lo up M H (opt lo up M H w hd q) (H.length - (q + 1)) x b n = optJ lo up M H (opt lo up M H w hd' q) (H.length - (q + 1)) x b n := by
      intro n
      induction n with
      | zero => rfl
      | succ n ih => simp only [optJ]; rw [ih, opt_same h q _ _ (by omega)]
    rw [hj]
theorem best_same {hd hd' : Nat → Int → Bool} (h : ∀ t x, t < H.length → hd t x = hd' t x) : bestP lo up M H v m w hd = bestP lo up M H v m w hd' := by
  unfold bestP
  have key : ∀ i : Nat, i ≤ H.length → walkP M H v m (tstO lo up M H (opt lo up M H w hd)) i = walkP M H v m (tstO lo up M H (opt lo up M H w hd')) i := by
    intro i
    induction i with
    | zero => intro _; rfl
    | succ i ih =>
      intro hi
      simp only [walkP]
      rw [ih (by omega)]
      have : ∀ x b j, tstO lo up M H (opt lo up M H w hd) i x b j = tstO lo up M H (opt lo up M H w hd') i x b j := by
        intro x b j
        unfold tstO
        rw [opt_same h _ _ _ (by omega), opt_same h _ _ _ (by omega)]
      have e : ∀ x b, tstO lo up M H (opt lo up M H w hd) i x b = tstO lo up M H (opt lo up M H w hd') i x b := fun x b => funext fun j => this x b j
      rw [e]
  rw [key H.length (Nat.le_refl _)]

/-! ### The loops of the law -/
theorem repl_loop {g : List Int × Int → Option ((List Int × Int) ⊕ (List Int))} {n : Nat} {r : Int} (h : ∀ i : Nat, i < n → g (List.replicate i r, (i : Int)) = some (.inl (List.replicate i r ++ [r], (i : Int) + 1))) (he : g (List.replicate n r, (n : Int)) = some (.inr (List.replicate n r))) : oloop (τ := List Int × Int) (ρ := List Int) g ([], 0) = some (List.replicate n r) := by
  refine oloop_all (fun i => (List.replicate i r, (i : Int))) n rfl (fun i hi => ?_) he
  rw [h i hi, List.replicate_succ']; rfl
theorem osl_n {α : Type} {l : List α} {a b : Nat} (h1 : a ≤ b) (h2 : b ≤ l.length) : osl l (a : Int) (b : Int) = some ((l.drop a).take (b - a)) := by
  unfold osl
  rw [if_pos (by omega)]; rfl
theorem l4_e (h0 : (ckT lo up M v m w H).2 = 0) (hl : P.length = H.length) (hp : plM M P) (hb : badV lo up M H v P = false) (hM : M.length < 4611686018427387904) (hs : ∀ p, p ∈ M → p.1.size < 4611686018427387904) {h j e : Nat} (hh : h < H.length) (hj : j < M.length) (he : e < 2)
    (he0 : gvn lo up M H j (H.length - h) h (vv M H v P h) + e ≠ 0) :
    l301_4 (h : Int) (rsL lo up M H v P j H.length, 0) H (vL M H v P H.length, 0) (j : Int) lo up M m (e : Int) =
      some (bif decide (h + gvn lo up M H j (H.length - h) h (vv M H v P h) + e ≤ H.length) then .inl ((e + 1 : Nat) : Int) else .inr (.inl ())) := by
  have k := (ckT_0 h0).2
  have hf := k.hfew
  have hmf := k.mfew
  have hv := badV_f k hb h (by omega)
  have hr : (rsL lo up M H v P j H.length)[h]? = some (gvn lo up M H j (H.length - h) h (vv M H v P h) : Int) := by
    rw [get_gi (by rw [rsL_len]; exact hh), gi_rs hh]
  have hpart := fun (s : Nat) (h1 : 1 ≤ s) (h2 : h + s ≤ H.length) => plE_part (lo := lo) (up := up) (M := M) (v := v) (m := m) (w := w) (H := H) h0 (x := vv M H v P h) (h := h) (s := s) (j := j) hj hv h1 h2
  have hgle := gvn_le (lo := lo) (up := up) (M := M) (H := H) (j := j) (H.length - h) h (vv M H v P h)
  generalize gvn lo up M H j (H.length - h) h (vv M H v P h) = n at *
  unfold l301_4
  simp only [List.length_map, ilt_eq, ile_eq, decide_eq_true (show (e : Int) < 2 by omega), oite_t, decide_eq_true (Int.natCast_nonneg _), ogrd_t, Int.toNat_natCast, hr, obnd_s]
  rw [wr (n := (h : Int) + (n : Int)) (by omega) (by omega), wr (n := (h : Int) + (n : Int) + (e : Int)) (by omega) (by omega)]
  by_cases hle : h + n + e ≤ H.length
  · rw [decide_eq_true (show (h : Int) + (n : Int) + (e : Int) ≤ (H.length : Int) by omega), decide_eq_true hle]
    simp only [oite_t, cond_true, vL_get (show h ≤ H.length by omega), obnd_s]
    rw [show (h : Int) + (n : Int) + (e : Int) = ((h + n + e : Nat) : Int) by omega, osl_n (by omega) hle]
    have el : h + n + e - h = n + e := by omega
    rw [el]
    simp only [obnd_s]
    rw [ogrd_fits (by simp; omega) (by simp; omega)]
    rw [show oloop (τ := List Int × Int) (ρ := List Int) (l301_1 (rsL lo up M H v P j H.length, 0) (h : Int) (e : Int) (j : Int)) (([] : List Int), (0 : Int)) = some (List.replicate (n + e) (j : Int)) from repl_loop (n := n + e) (fun i hi => by
        unfold l301_1
        simp only [Int.toNat_natCast, hr, obnd_s]
        rw [wr (n := (n : Int) + (e : Int)) (by omega) (by omega), ilt_eq, decide_eq_true (show (i : Int) < (n : Int) + (e : Int) by omega), oite_t, ogrd_fits (by simp; omega) (by simp; omega), wr (by omega) (by omega)]) (by
        unfold l301_1
        simp only [Int.toNat_natCast, hr, obnd_s]
        rw [wr (n := (n : Int) + (e : Int)) (by omega) (by omega), ilt_eq, decide_eq_false (show ¬ ((n + e : Nat) : Int) < (n : Int) + (e : Int) by omega), oite_f])]
    simp only [obnd_s]
    rw [f309_e (by omega)]
    simp only [obnd_s, List.nil_append]
    rw [f322_e hM hs (by rw [part_l (by omega)]; omega) (by rw [List.length_replicate]; omega), hpart (n + e) (by omega) (by omega)]
    simp only [obnd_s, ieq_eq]
    have h01 : e = 0 ∨ e = 1 := by omega
    rcases h01 with rfl | rfl
    · rw [if_pos (by omega)]
      rw [wr (by omega) (by omega)]
      rfl
    · rw [if_neg (by omega)]
      rw [wr (by omega) (by omega)]
      rfl
  · rw [decide_eq_false (show ¬ (h : Int) + (n : Int) + (e : Int) ≤ (H.length : Int) by omega), decide_eq_false hle]; rfl
theorem l4_2 {y33 y41 : List Int × Int} {h j : Int} : l301_4 h y33 H y41 j lo up M m 2 = some (.inr (.inl ())) := rfl
theorem l5_e (h0 : (ckT lo up M v m w H).2 = 0) (hl : P.length = H.length) (hp : plM M P) (hb : badV lo up M H v P = false) (hM : M.length < 4611686018427387904) (hs : ∀ p, p ∈ M → p.1.size < 4611686018427387904) {h j : Nat} (hh : h < H.length) (hj : j < M.length) :
    l301_5 (rsL lo up M H v P j H.length, 0) H (vL M H v P H.length, 0) lo up (j : Int) M m (h : Int) = some (.inl ((h + 1 : Nat) : Int)) := by
  have k := (ckT_0 h0).2
  have hf := k.hfew
  have hv := badV_f k hb h (by omega)
  have hr : (rsL lo up M H v P j H.length)[h]? = some (gvn lo up M H j (H.length - h) h (vv M H v P h) : Int) := by
    rw [get_gi (by rw [rsL_len]; exact hh), gi_rs hh]
  have hgle := gvn_le (lo := lo) (up := up) (M := M) (H := H) (j := j) (H.length - h) h (vv M H v P h)
  have l4 := fun e : Nat => l4_e (h := h) (j := j) (e := e) h0 hl hp hb hM hs hh hj
  generalize hg : gvn lo up M H j (H.length - h) h (vv M H v P h) = n at *
  unfold l301_5
  simp only [List.length_map, rsL_len, ilt_eq, ile_eq, ieq_eq, decide_eq_true (show (h : Int) < (H.length : Int) by omega), oite_t, decide_eq_true (Int.natCast_nonneg _), ogrd_t, Int.toNat_natCast, hr, obnd_s, vL_get (show h ≤ H.length by omega), f15_e]
  rw [wr (n := (H.length : Int) - (h : Int)) (by omega) (by omega), decide_eq_true (show (n : Int) ≤ (H.length : Int) - (h : Int) by omega), decide_eq_true hv.1, decide_eq_true hv.2]
  simp only [Bool.and_self, Bool.not_true, oite_f, obnd_s]
  have two : ∀ e : Nat, e < 2 → n + e ≠ 0 → oloop (τ := Int) (ρ := Unit ⊕ (Int ⊕ (Unit ⊕ Bool))) (l301_4 (h : Int) (rsL lo up M H v P j H.length, 0) H (vL M H v P H.length, 0) (j : Int) lo up M m) (e : Int) = some (.inl ()) := by
    have one : oloop (τ := Int) (ρ := Unit ⊕ (Int ⊕ (Unit ⊕ Bool))) (l301_4 (h : Int) (rsL lo up M H v P j H.length, 0) H (vL M H v P H.length, 0) (j : Int) lo up M m) ((1 : Nat) : Int) = some (.inl ()) := by
      have h1 := l4 1 (by omega) (by omega)
      cases hd : decide (h + n + 1 ≤ H.length) with
      | false => rw [hd] at h1; exact oloop_done h1
      | true =>
        rw [hd] at h1
        rw [oloop_step h1]
        exact oloop_done l4_2
    intro e he hne
    have h01 : e = 0 ∨ e = 1 := by omega
    rcases h01 with rfl | rfl
    · have h1 := l4 0 (by omega) hne
      cases hd : decide (h + n + 0 ≤ H.length) with
      | false => rw [hd] at h1; exact oloop_done h1
      | true =>
        rw [hd] at h1
        rw [oloop_step h1]; exact one
    · exact one
  by_cases hn : n = 0
  · rw [decide_eq_true (show (n : Int) = 0 by omega)]
    simp only [oite_t, obnd_s]
    rw [show (1 : Int) = ((1 : Nat) : Int) from rfl, two 1 (by omega) (by omega)]
    simp only [obndS_l]
    rw [wr (by omega) (by omega)]; rfl
  · rw [decide_eq_false (show ¬ (n : Int) = 0 by omega)]
    simp only [oite_f, obnd_s]
    rw [show oloop (τ := Int) (ρ := Unit ⊕ (Int ⊕ (Unit ⊕ Bool))) (l301_4 (h : Int) (rsL lo up M H v P j H.length, 0) H (vL M H v P H.length, 0) (j : Int) lo up M m) (0 : Int) = some (.inl ()) from two 0 (by omega) (by omega)]
    simp only [obndS_l]
    rw [wr (by omega) (by omega)]; rfl
theorem f301_true (hA : f198 = some true) (r : Int) : f301 lo up M v m w H P r = some true := by
  unfold f301
  rw [hA]
  simp only [obnd_s, Bool.not_true, oite_f, List.length_map, ilt_eq, ieq_eq]
  obtain ⟨b, hb, hb'⟩ := f307_e (lo := lo) (up := up) (M := M)
  rw [hb, f308_e]
  cases b with
  | false => rfl
  | true =>
    obtain ⟨hM7, hs20⟩ := hb' rfl
    cases h1 : decide (H.length ≤ 12) with
    | false => rfl
    | true =>
      have h1 := of_decide_eq_true h1
      cases h2 : decide ((12 : Int) < ((P.length : Nat) : Int)) with
      | true => rfl
      | false =>
        have h2 := of_decide_eq_false h2
        have hM1 : M.length < 4611686018427387904 := by omega
        have hs : ∀ p, p ∈ M → p.1.size < 4611686018427387904 := fun p hp => by have := hs20 p hp; omega
        have hH : H.length < 4611686018427387904 := by omega
        have hP : P.length < 4611686018427387904 := by omega
        simp only [obnd_s, Bool.not_true, oite_f]
        rw [f311_e hM1 hs hH]
        simp only [obnd_s]
        cases h3 : decide ((ckT lo up M v m w H).2 = 0) with
        | false => rfl
        | true =>
          have h0 := of_decide_eq_true h3
          have k := (ckT_0 h0).2
          have hf := k.hfew
          simp only [Bool.not_true, oite_f]
          rw [f319_e k hP]
          simp only [obnd_s]
          by_cases h4 : pE lo up M H v P = 0
          · rw [if_pos h4]
            cases h5 : isM M r with
            | false => rfl
            | true =>
              obtain ⟨j, hj, rfl⟩ := isM_n h5
              obtain ⟨hl, hp, hbv⟩ := pE_0 h4
              have hpl : plE lo up M v m w H P = 0 := by unfold plE; rw [h3]; exact h4
              have hrs : rsE lo up M v m w H P (j : Int) = 0 := by unfold rsE; rw [if_pos hpl, h5]; rfl
              simp only [cond_true, decide_true, Bool.not_true, oite_f]
              rw [f309_e (show M.length ≤ 1000000000 by omega), f310_e (show H.length ≤ 1000000000 by omega), f317_e (show P.length ≤ 1000000000 by omega), f38_e (show P.length ≤ 1000000000 by omega)]
              simp only [obnd_s]
              rw [f209_e hM1 hs hH hP, f322_e hM1 hs hH hP, hrs, hpl]
              simp only [obnd_s, decide_true, cond_true, Bool.not_true, oite_f, rsL_len, vL_len, Int.toNat_natCast]
              rw [wr (n := (H.length : Int) + 1) (by omega) (by omega), decide_eq_true (show ((H.length + 1 : Nat) : Int) = (H.length : Int) + 1 by omega)]
              simp only [Bool.not_true, oite_f, obnd_s]
              rw [oloop_all (fun i => (i : Int)) H.length (r := (.inl () : Unit ⊕ Bool)) (e0 := (0 : Int)) rfl (fun i hi => l5_e h0 hl hp hbv hM1 hs hi hj) (by unfold l301_5; simp only [List.length_map, rsL_len, ilt_eq, Int.lt_irrefl, decide_false, oite_f])]
              simp only [obndS_l]
              have hpo := opt_plan (hd := hdB lo up M H (-1) 0) k hl hp hbv (fun i hi => hdB_n _ _)
              obtain ⟨y0, hy0, _⟩ := hpo
              have hsame : ∀ t x, t < H.length → hdB lo up M H (j : Int) 0 t x = hdB lo up M H (-1) 0 t x := fun t x ht => by rw [hdB_0 t x ht, hdB_n]
              have hy1 : opt lo up M H w (hdB lo up M H j 0) H.length v m.toNat = some y0 := by rw [opt_same hsame _ _ _ (Nat.le_refl _)]; exact hy0
              rw [with_e h0 hM1 hs hH hj (d := 0) (by omega), best_e h0 hM1 hs hH, hy0, hy1]
              simp only [obnd_s, decide_true, Bool.not_true, oite_f]
              rw [best_same hsame, f26_refl (by rw [best_len k (by rw [hy0]; rfl)]; omega)]
              simp only [obnd_s, Bool.not_true, oite_f]
              -- one hour
              rw [with_e h0 hM1 hs hH hj (d := 1) (by omega)]
              cases ho1 : opt lo up M H w (hdB lo up M H j 1) H.length v m.toNat with
              | none => rfl
              | some y1 =>
                have hi1 : (opt lo up M H w (hdB lo up M H j 1) H.length v m.toNat).isSome = true := by rw [ho1]; rfl
                obtain ⟨p1, hp1, hq1⟩ := prom_e h0 hM1 hs hH hj (d := 1) (by omega) hi1
                obtain ⟨z1, hz1, hle1⟩ := opt_mono (hdB_m (lo := lo) (up := up) (M := M) (H := H) (j := j) (show (0 : Int) ≤ 1 by omega)) H.length v m.toNat y1 (Nat.le_refl _) ho1
                rw [hy1] at hz1; injection hz1 with hz1; subst hz1
                simp only [obnd_s, decide_true, Bool.not_true, oite_f]
                rw [f38_e (by rw [best_len k hi1]; omega)]
                simp only [obnd_s]
                rw [hp1]
                simp only [obnd_s, decide_true, Bool.not_true]
                rw [decide_eq_false (show ¬ y0 < y1 by omega), decide_eq_false (show ¬ p1 < 1 by omega)]
                simp only [oite_f, obnd_s]
                -- three hours
                rw [with_e h0 hM1 hs hH hj (d := 3) (by omega)]
                cases ho3 : opt lo up M H w (hdB lo up M H j 3) H.length v m.toNat with
                | none => rfl
                | some y3 =>
                  have hi3 : (opt lo up M H w (hdB lo up M H j 3) H.length v m.toNat).isSome = true := by rw [ho3]; rfl
                  obtain ⟨p3, hp3, hq3⟩ := prom_e h0 hM1 hs hH hj (d := 3) (by omega) hi3
                  obtain ⟨z3, hz3, hle3⟩ := opt_mono (hdB_m (lo := lo) (up := up) (M := M) (H := H) (j := j) (show (1 : Int) ≤ 3 by omega)) H.length v m.toNat y3 (Nat.le_refl _) ho3
                  rw [ho1] at hz3; injection hz3 with hz3; subst hz3
                  simp only [obnd_s, decide_true, Bool.not_true, oite_f]
                  rw [f38_e (by rw [best_len k hi3]; omega)]
                  simp only [obnd_s]
                  rw [hp3]
                  simp only [obnd_s, decide_true, Bool.not_true]
                  rw [decide_eq_false (show ¬ y1 < y3 by omega), decide_eq_false (show ¬ p3 < 3 by omega)]
                  simp only [oite_f, obnd_s]
                  -- seven hours
                  rw [with_e h0 hM1 hs hH hj (d := 7) (by omega)]
                  cases ho7 : opt lo up M H w (hdB lo up M H j 7) H.length v m.toNat with
                  | none => rfl
                  | some y7 =>
                    have hi7 : (opt lo up M H w (hdB lo up M H j 7) H.length v m.toNat).isSome = true := by rw [ho7]; rfl
                    obtain ⟨p7, hp7, hq7⟩ := prom_e h0 hM1 hs hH hj (d := 7) (by omega) hi7
                    obtain ⟨z7, hz7, hle7⟩ := opt_mono (hdB_m (lo := lo) (up := up) (M := M) (H := H) (j := j) (show (3 : Int) ≤ 7 by omega)) H.length v m.toNat y7 (Nat.le_refl _) ho7
                    rw [ho3] at hz7; injection hz7 with hz7; subst hz7
                    simp only [obnd_s, decide_true, Bool.not_true, oite_f]
                    rw [f38_e (by rw [best_len k hi7]; omega)]
                    simp only [obnd_s]
                    rw [hp7]
                    simp only [obnd_s, decide_true, Bool.not_true]
                    rw [decide_eq_false (show ¬ y3 < y7 by omega), decide_eq_false (show ¬ p7 < 7 by omega)]
                    simp only [oite_f, obnd_s, obndS_l]
          · rw [if_neg h4, decide_eq_false h4]; rfl
end
end
end Go.Proofs.YtmbekcealcjabaaGreat.AM
