/- Plain law: DispatchNoMore, from chapter 8's examples (f198). Conditions: none. -/
import Derived.Test.YtmbekcealcjabaaGreatAmQ3
import Derived.Test.YtmbekcealcjabaaGreatAmQD
namespace Go.Proofs.YtmbekcealcjabaaGreat.AM
section
set_option linter.unusedSimpArgs false
set_option linter.unusedVariables false
open Go Go.RowKit

theorem f307_e {lo up : Int} {M : List (ByteArray × Int × Int × Int)} : ∃ b, f307 lo up M = some b ∧ (b = true → M.length ≤ 7 ∧ ∀ p, p ∈ M → p.1.size ≤ 20) := by
  unfold f307
  simp only [List.length_map, ilt_eq]
  cases h1 : decide ((7 : Int) < ((M.length : Nat) : Int)) with
  | true => exact ⟨false, rfl, fun h => by cases h⟩
  | false =>
    have h1 := of_decide_eq_false h1
    rw [oite_f, oloop_scanB (fun i => (i : Int)) M.length (fun i => decide (20 < (gm M i).1.size)) (fun _ => .inr false) (d := .inl ()) (e0 := 0) rfl ?_ ?_]
    · cases h2 : scanF (fun i => bif decide (20 < (gm M i).1.size) then some (Sum.inr false : Unit ⊕ Bool) else none) M.length 0 with
      | none =>
        refine ⟨true, rfl, fun _ => ⟨by omega, fun p hp => ?_⟩⟩
        obtain ⟨i, hi, rfl⟩ := List.getElem_of_mem hp
        have := scanF_none h2 i (Nat.zero_le _) (by omega)
        unfold gm at this
        rw [getD_i hi] at this
        by_cases h3 : 20 < M[i].1.size
        · rw [decide_eq_true h3] at this; cases this
        · omega
      | some r =>
        have : r = .inr false := by
          rw [scan_c] at h2
          cases h4 : anyN (fun i => decide (20 < (gm M i).1.size)) M.length 0 with
          | true => rw [h4] at h2; injection h2 with h2; exact h2.symm
          | false => rw [h4] at h2; cases h2
        subst this
        exact ⟨false, rfl, fun h => by cases h⟩
    · intro i hi
      have e : decide ((20 : Int) < (((gm M i).1.size : Nat) : Int)) = decide (20 < (gm M i).1.size) := by rw [Bool.eq_iff_iff, decide_eq_true_eq, decide_eq_true_eq]; omega
      simp (disch := omega) only [obnd_s, obnd_n, oite_ss, oite_t, oite_f, ogrd_t, ogrd_f, obndS_l, obndS_r, ilt_eq, ile_eq, ieq_eq, imax_e, imin_e, k0, k1, k2, k3, k4, k5, k6, k7, k8, k9, reduceIte, k10, k11, k12, k13, k14, k15, k16, k17, k18, k19, k20, k21, k22, k23, k24, k25, k26, k27, k28, hi, get_gm hi, wr, e]; rfl
    · simp (disch := omega) only [obnd_s, obnd_n, oite_ss, oite_t, oite_f, ogrd_t, ogrd_f, obndS_l, obndS_r, ilt_eq, ile_eq, ieq_eq, imax_e, imin_e, k0, k1, k2, k3, k4, k5, k6, k7, k8, k9, reduceIte, k10, k11, k12, k13, k14, k15, k16, k17, k18, k19, k20, k21, k22, k23, k24, k25, k26, k27, k28, Int.lt_irrefl]
theorem f308_e {v m w : Int} {H : List (Int × Int × Int)} : f308 v m w H = some (decide (H.length ≤ 12)) := by
  unfold f308
  rw [List.length_map, ile_eq]
  congr 1; rw [Bool.eq_iff_iff, decide_eq_true_eq, decide_eq_true_eq]; omega
theorem f309_e {lo up : Int} {M : List (ByteArray × Int × Int × Int)} (h : M.length ≤ 1000000000) : f309 lo up M = some (lo, up, M) := by
  unfold f309; rw [ogrd_fits (by simp; omega) (by simp; omega)]; rfl
theorem f310_e {v m w : Int} {H : List (Int × Int × Int)} (h : H.length ≤ 1000000000) : f310 v m w H = some (v, m, w, H) := by
  unfold f310; rw [ogrd_fits (by simp; omega) (by simp; omega)]; rfl
theorem f355_e (n : Int) : f355 n = some (s4 n) := by unfold f355; rw [f15_e]; rfl
theorem f364_e {l : List ByteArray} (s : ByteArray) (hl : l.length < 4611686018427387904) : f364 l s = some (l.any fun x => x.toList == s.toList) := by
  unfold f364
  rw [oloop_scanB (fun i => (i : Int)) l.length (fun i => (l.getD i ⟨#[]⟩).toList == s.toList) (fun _ => .inr true) (d := .inl ()) (e0 := 0) rfl ?_ ?_, scan_anyB (fun x => x.toList == s.toList) ⟨#[]⟩ (Sum.inr true : Unit ⊕ Bool) l]
  · cases l.any (fun x => x.toList == s.toList) <;> rfl
  · intro i hi
    rw [getD_i hi]
    simp (disch := omega) only [obnd_s, obnd_n, oite_ss, oite_t, oite_f, ogrd_t, ogrd_f, obndS_l, obndS_r, ilt_eq, ile_eq, ieq_eq, imax_e, imin_e, k0, k1, k2, k3, k4, k5, k6, k7, k8, k9, reduceIte, k10, k11, k12, k13, k14, k15, k16, k17, k18, k19, k20, k21, k22, k23, k24, k25, k26, k27, k28, hi, get_i hi, wr]; rfl
  · simp (disch := omega) only [obnd_s, obnd_n, oite_ss, oite_t, oite_f, ogrd_t, ogrd_f, obndS_l, obndS_r, ilt_eq, ile_eq, ieq_eq, imax_e, imin_e, k0, k1, k2, k3, k4, k5, k6, k7, k8, k9, reduceIte, k10, k11, k12, k13, k14, k15, k16, k17, k18, k19, k20, k21, k22, k23, k24, k25, k26, k27, k28, Int.lt_irrefl]
theorem f354_e {s : ByteArray} {c e z : Int} {l : List ByteArray} (hs : s.size < 4611686018427387904) (hl : l.length < 4611686018427387904) :
    f354 s c e z l = some (bif !nameB s then 4 else bif l.any (fun x => x.toList == s.toList) then 5 else bif !(s4 c && s4 e && z4 z) then 2 else 0) := by
  unfold f354
  rw [f91_e hs, f364_e s hl]
  simp only [obnd_s, f15_e]
  rw [show (decide (-10000 ≤ c) && decide (c ≤ 10000)) = s4 c from rfl, show (decide (-10000 ≤ e) && decide (e ≤ 10000)) = s4 e from rfl, show (decide (0 ≤ z) && decide (z ≤ 10000)) = z4 z from rfl]
  cases nameB s <;> cases l.any (fun x => x.toList == s.toList) <;> cases s4 c <;> cases s4 e <;> cases z4 z <;> rfl
def nms (M : List (ByteArray × Int × Int × Int)) (i : Nat) : List ByteArray := (M.take i).map (·.1)
theorem nms_len {M : List (ByteArray × Int × Int × Int)} {i : Nat} : (nms M i).length ≤ i := by simp [nms]; omega
theorem nms_s {M : List (ByteArray × Int × Int × Int)} {i : Nat} (h : i < M.length) : nms M i ++ [(gm M i).1] = nms M (i + 1) := by
  unfold nms
  rw [List.take_add_one, get_gm h, List.map_append]; rfl
theorem nms_any {M : List (ByteArray × Int × Int × Int)} {i : Nat} : (nms M i).any (fun x => x.toList == (gm M i).1.toList) = knownM M i := by
  unfold nms knownM; rw [List.any_map]; rfl
theorem f325_e {lo up : Int} {M : List (ByteArray × Int × Int × Int)} (hM : M.length < 4611686018427387904) (hs : ∀ p, p ∈ M → p.1.size < 4611686018427387904) : f325 lo up M = some (ckP lo up M) := by
  unfold f325 ckP
  simp only [obnd_s, f15_e, List.length_map, ilt_eq, ile_eq, ieq_eq]
  rw [show (decide (0 ≤ lo) && decide (lo ≤ 1000000)) = vol lo from rfl, show (decide (0 ≤ up) && decide (up ≤ 1000000)) = vol up from rfl]
  cases h1 : vol lo with
  | false => unfold pltE; rw [h1]; rfl
  | true =>
    cases h2 : vol up with
    | false => unfold pltE; rw [h1, h2]; rfl
    | true =>
      have h3 := vol_p h1; have h4 := vol_p h2
      simp only [Bool.not_true, oite_f, obnd_s]
      have e1 : decide (up < lo) = !decide (lo ≤ up) := by rw [← decide_not]; congr 1; exact propext (by omega)
      have e2 : decide ((40 : Int) ≤ up - lo) = !decide (up - lo < 40) := by rw [← decide_not]; congr 1; exact propext (by omega)
      have e3 : decide (((M.length : Nat) : Int) = 0) = !decide ((0 : Int) < ((M.length : Nat) : Int)) := by rw [← decide_not]; congr 1; exact propext (by omega)
      have e4 : decide ((5 : Int) < ((M.length : Nat) : Int)) = !decide (((M.length : Nat) : Int) ≤ 5) := by rw [← decide_not]; congr 1; exact propext (by omega)
      rw [wr (n := up - lo) (by omega) (by omega), e1, e2, e3, e4]
      unfold pltE
      rw [h1, h2]
      cases decide (lo ≤ up) with
      | false => rfl
      | true =>
        cases decide (up - lo < 40) with
        | false => rfl
        | true =>
          cases decide ((0 : Int) < ((M.length : Nat) : Int)) with
          | false => rfl
          | true =>
            cases h5 : decide (((M.length : Nat) : Int) ≤ 5) with
            | false => rfl
            | true =>
              have h5 := of_decide_eq_true h5
              simp only [Bool.not_true, oite_f, Bool.and_self, cond_false, decide_true]
              rw [oloop_scanB (fun i => (nms M i, (i : Int))) M.length (fun i => !decide (modE M i = 0)) (fun i => .inr ((i : Int), modE M i)) (d := .inl ()) (e0 := (([] : List ByteArray), (0 : Int))) rfl ?_ ?_, errs_scan (modE M) M.length (Sum.inr : Int × Int → Unit ⊕ (Int × Int))]
              · cases errs (modE M) M.length <;> rfl
              · intro i hi
                have hn := hs (gm M i) (by unfold gm; rw [getD_i hi]; exact List.getElem_mem hi)
                have hl := nms_len (M := M) (i := i)
                simp (disch := omega) only [obnd_s, obnd_n, oite_ss, oite_t, oite_f, ogrd_t, ogrd_f, obndS_l, obndS_r, ilt_eq, ile_eq, ieq_eq, imax_e, imin_e, k0, k1, k2, k3, k4, k5, k6, k7, k8, k9, reduceIte, k10, k11, k12, k13, k14, k15, k16, k17, k18, k19, k20, k21, k22, k23, k24, k25, k26, k27, k28, hi, get_gm hi, wr]
                rw [f354_e hn (by omega), nms_any, show (bif !nameB (gm M i).1 then (4 : Int) else bif knownM M i then 5 else bif !(s4 (gm M i).2.1 && s4 (gm M i).2.2.1 && z4 (gm M i).2.2.2) then 2 else 0) = modE M i from rfl]
                simp only [obnd_s]
                rw [ogrd_fits (by simp; omega) (by simp; omega), nms_s hi]
                cases decide (modE M i = 0) <;> rfl
              · simp (disch := omega) only [obnd_s, obnd_n, oite_ss, oite_t, oite_f, ogrd_t, ogrd_f, obndS_l, obndS_r, ilt_eq, ile_eq, ieq_eq, imax_e, imin_e, k0, k1, k2, k3, k4, k5, k6, k7, k8, k9, reduceIte, k10, k11, k12, k13, k14, k15, k16, k17, k18, k19, k20, k21, k22, k23, k24, k25, k26, k27, k28, Int.lt_irrefl]
theorem f326_e {lo up v m w : Int} {M : List (ByteArray × Int × Int × Int)} {H : List (Int × Int × Int)} (hM : M.length < 4611686018427387904) (hs : ∀ p, p ∈ M → p.1.size < 4611686018427387904) (hH : H.length < 4611686018427387904) : f326 lo up M v m w H = some (ckT lo up M v m w H) := by
  unfold f326 ckT f347
  have hw : IntKind.i64.wrap ((M.length : Int) - 1) = (M.length : Int) - 1 := wr (by omega) (by omega)
  simp only [f325_e hM hs, obnd_s, f15_e, f355_e, List.length_map, ile_eq, ilt_eq, ieq_eq, hw]
  cases h1 : decide ((ckP lo up M).2 = 0) with
  | false => rfl
  | true =>
    have e3 : decide (((H.length : Nat) : Int) = 0) = !decide ((0 : Int) < ((H.length : Nat) : Int)) := by rw [← decide_not]; congr 1; exact propext (by omega)
    have e4 : decide ((10 : Int) < ((H.length : Nat) : Int)) = !decide (((H.length : Nat) : Int) ≤ 10) := by rw [← decide_not]; congr 1; exact propext (by omega)
    rw [e3, e4]
    unfold tskE
    cases (decide (lo ≤ v) && decide (v ≤ up)) with
    | false => rfl
    | true =>
      cases (decide (0 ≤ m) && decide (m ≤ (M.length : Int) - 1)) with
      | false => rfl
      | true =>
        cases s4 w with
        | false => rfl
        | true =>
          cases decide ((0 : Int) < ((H.length : Nat) : Int)) with
          | false => rfl
          | true =>
            cases decide (((H.length : Nat) : Int) ≤ 10) with
            | false => rfl
            | true =>
              simp only [Bool.not_true, oite_f, cond_false, decide_true]
              rw [oloop_scanB (fun i => (i : Int)) H.length (fun i => !decide (hourE H i = 0)) (fun i => .inr ((i : Int), hourE H i)) (d := .inl ()) (e0 := 0) rfl ?_ ?_, errs_scan (hourE H) H.length (Sum.inr : Int × Int → Unit ⊕ (Int × Int))]
              · cases errs (hourE H) H.length <;> rfl
              · intro i hi
                have e5 : decide ((gh H i).1 < (gh H i).2.1) = !decide ((gh H i).2.1 ≤ (gh H i).1) := by rw [← decide_not]; congr 1; exact propext (by omega)
                simp (disch := omega) only [obnd_s, obnd_n, oite_ss, oite_t, oite_f, ogrd_t, ogrd_f, obndS_l, obndS_r, ilt_eq, ile_eq, ieq_eq, imax_e, imin_e, k0, k1, k2, k3, k4, k5, k6, k7, k8, k9, reduceIte, k10, k11, k12, k13, k14, k15, k16, k17, k18, k19, k20, k21, k22, k23, k24, k25, k26, k27, k28, hi, get_gh hi, wr, e5]
                unfold hourE
                cases s4 (gh H i).1 <;> cases s4 (gh H i).2.1 <;> cases s4 (gh H i).2.2 <;> cases decide ((gh H i).2.1 ≤ (gh H i).1) <;> rfl
              · simp (disch := omega) only [obnd_s, obnd_n, oite_ss, oite_t, oite_f, ogrd_t, ogrd_f, obndS_l, obndS_r, ilt_eq, ile_eq, ieq_eq, imax_e, imin_e, k0, k1, k2, k3, k4, k5, k6, k7, k8, k9, reduceIte, k10, k11, k12, k13, k14, k15, k16, k17, k18, k19, k20, k21, k22, k23, k24, k25, k26, k27, k28, Int.lt_irrefl]
theorem f311_e {lo up v m w : Int} {M : List (ByteArray × Int × Int × Int)} {H : List (Int × Int × Int)} (hM : M.length < 4611686018427387904) (hs : ∀ p, p ∈ M → p.1.size < 4611686018427387904) (hH : H.length < 4611686018427387904) : f311 lo up M v m w H = some (ckT lo up M v m w H).2 := by
  unfold f311; rw [f326_e hM hs hH]; rfl
end
section
set_option linter.unusedSimpArgs false
set_option linter.unusedVariables false
open Go Go.RowKit

section
variable {lo up v m w : Int} {M : List (ByteArray × Int × Int × Int)} {H : List (Int × Int × Int)} {P : List Int}
theorem f352_e (k : okT lo up M v m w H) (hl : P.length = H.length) (hp : plM M P) (hb : badV lo up M H v P = false) : f352 lo up M v m w H P (vL M H v P H.length) = some (valP M H v m w P) := by
  unfold f352
  have hf := k.hfew
  have hlast := badV_f k hb H.length (Nat.le_refl _)
  have hw := wv_b k hlast.1 hlast.2
  have e : (((H.length + 1 : Nat) : Int) - 1) = ((H.length : Nat) : Int) := by omega
  simp only [List.length_map, vL_len, e]
  rw [wr (n := ((H.length : Nat) : Int)) (by omega) (by omega), ile_eq, decide_eq_true (Int.natCast_nonneg _), ogrd_t, Int.toNat_natCast, vL_get (Nat.le_refl _)]
  simp only [obnd_s]
  rw [wr (n := w * vv M H v P H.length) (by omega) (by omega)]
  refine (obnd_of (a := valP M H v m w P) ?_).trans rfl
  refine oloop_all (fun i => (bef m P i, (i : Int), w * vv M H v P H.length + vsum M H m P i)) H.length ?_ ?_ ?_
  · simp only [bef, vsum, Int.add_zero]; rfl
  · intro i hi
    obtain ⟨j, hj, he⟩ := hp i (by omega)
    obtain ⟨b, hb'⟩ := bef_n k hp i (by omega)
    have hs1 := vsum_b k hl hp i (by omega)
    have hs2 := rev_b k (b := b) hi hj
    have e2 : vsum M H m P (i + 1) = vsum M H m P i + rev M H i b j := by simp only [vsum, hb', he, Int.toNat_natCast]
    rw [e2]
    simp (disch := omega) only [obnd_s, obnd_n, oite_ss, oite_t, oite_f, ogrd_t, ogrd_f, obndS_l, obndS_r, ilt_eq, ile_eq, ieq_eq, imax_e, imin_e, k0, k1, k2, k3, k4, k5, k6, k7, k8, k9, reduceIte, k10, k11, k12, k13, k14, k15, k16, k17, k18, k19, k20, k21, k22, k23, k24, k25, k26, k27, k28, hl, hi, get_gi (show i < P.length by omega), hb', he]
    rw [f239_e k hi hj]
    simp (disch := omega) only [obnd_s, obnd_n, oite_ss, oite_t, oite_f, ogrd_t, ogrd_f, obndS_l, obndS_r, ilt_eq, ile_eq, ieq_eq, imax_e, imin_e, k0, k1, k2, k3, k4, k5, k6, k7, k8, k9, reduceIte, k10, k11, k12, k13, k14, k15, k16, k17, k18, k19, k20, k21, k22, k23, k24, k25, k26, k27, k28, wr, bef, he]
    congr 4; omega
  · unfold valP
    simp (disch := omega) only [obnd_s, obnd_n, oite_ss, oite_t, oite_f, ogrd_t, ogrd_f, obndS_l, obndS_r, ilt_eq, ile_eq, ieq_eq, imax_e, imin_e, k0, k1, k2, k3, k4, k5, k6, k7, k8, k9, reduceIte, k10, k11, k12, k13, k14, k15, k16, k17, k18, k19, k20, k21, k22, k23, k24, k25, k26, k27, k28, Int.lt_irrefl, hl]
theorem f323_e (hM : M.length < 4611686018427387904) (hs : ∀ p, p ∈ M → p.1.size < 4611686018427387904) (hH : H.length < 4611686018427387904) (hP : P.length < 4611686018427387904) :
    f323 lo up M v m w H P = some (bif decide (plE lo up M v m w H P = 0) then (valP M H v m w P, 0) else (0, plE lo up M v m w H P)) := by
  unfold f323; rw [f221_e hM hs hH hP]
  simp only [obnd_s, ieq_eq]
  cases h : decide (plE lo up M v m w H P = 0) with
  | false => rfl
  | true =>
    obtain ⟨k, h5⟩ := plE_0 (of_decide_eq_true h)
    obtain ⟨hl, hp, hb⟩ := pE_0 h5
    simp only [Bool.not_true, oite_f, cond_true]
    rw [f352_e k hl hp hb]; rfl
end
end
section
set_option linter.unusedSimpArgs false
set_option linter.unusedVariables false
open Go Go.RowKit

section
variable {lo up v m w : Int} {M : List (ByteArray × Int × Int × Int)} {H : List (Int × Int × Int)} {P : List Int} {L : List (List Int)}
theorem f346_e (a : Int) : ∃ u, f346 a 1000 = some u ∧ 0 ≤ u ∧ u < 1000 := by
  unfold f346
  have h1 := Int.tmod_lt_of_pos a (show (0 : Int) < 1000 by omega)
  have h2 : -1000 < a.tmod 1000 := by
    have h := Int.natAbs_tmod a 1000
    have h3 := Nat.mod_lt a.natAbs (show 1000 > 0 by omega)
    have h4 : (a.tmod 1000).natAbs < 1000 := by rw [h]; exact h3
    omega
  generalize a.tmod 1000 = r at *
  simp only [ieq_eq, ilt_eq, decide_eq_false (show ¬ (1000 : Int) = 0 by omega), Bool.not_false, ogrd_t]
  by_cases h : r < 0
  · rw [decide_eq_true h, oite_t, wr (by omega) (by omega)]
    exact ⟨_, rfl, by omega, by omega⟩
  · rw [decide_eq_false h]
    exact ⟨_, rfl, by omega, by omega⟩
theorem f345_e (h0 : (ckT lo up M v m w H).2 = 0) (hM : M.length < 4611686018427387904) (hs : ∀ p, p ∈ M → p.1.size < 4611686018427387904) (hH : H.length < 4611686018427387904) :
    f345 lo up M v m w H = some (match opt lo up M H w (hdB lo up M H (-1) 0) H.length v m.toNat with
      | some _ => (ownL lo up M H w, 0)
      | none => ([], 12)) := by
  have k := (ckT_0 h0).2
  unfold f345
  rw [best_e h0 hM hs hH]
  cases opt lo up M H w (hdB lo up M H (-1) 0) H.length v m.toNat with
  | none => rfl
  | some y =>
    simp only [obnd_s, ieq_eq, decide_true, Bool.not_true, oite_f]
    rw [f229_e k (by have := k.mpos; omega)]; rfl
theorem ckT_of (h1 : (ckP lo up M).2 = 0) (h2 : tskE lo up M.length v m w H.length = 0) (h3 : ∀ i, i < H.length → hourE H i = 0) : (ckT lo up M v m w H).2 = 0 := by
  unfold ckT
  rw [decide_eq_true h1, decide_eq_true h2]
  have he : errs (hourE H) H.length = none := by
    unfold errs
    refine scanF_of_none fun i _ hi => ?_
    rw [decide_eq_true (h3 i (by omega))]; rfl
  rw [he]; rfl
theorem f306_true (hA : f198 = some true) (a9 : Int) : f306 lo up M v m w H P L a9 = some true := by
  unfold f306
  rw [hA]
  simp only [obnd_s, Bool.not_true, oite_f, List.length_map, ilt_eq, ieq_eq]
  obtain ⟨b, hb, hb'⟩ := f307_e (lo := lo) (up := up) (M := M)
  rw [hb, f308_e]
  cases b with
  | false => rfl
  | true =>
    obtain ⟨hM7, hs20⟩ := hb' rfl
    cases h1 : decide (H.length ≤ 12) with
    | false => rfl
    | true =>
      have h1 := of_decide_eq_true h1
      have hM1 : M.length < 4611686018427387904 := by omega
      have hs : ∀ p, p ∈ M → p.1.size < 4611686018427387904 := fun p hp => by have := hs20 p hp; omega
      have hH : H.length < 4611686018427387904 := by omega
      simp only [obnd_s, Bool.not_true, oite_f]
      rw [f311_e hM1 hs hH]
      simp only [obnd_s]
      cases h3 : decide ((ckT lo up M v m w H).2 = 0) with
      | false => rfl
      | true =>
        have h0 := of_decide_eq_true h3
        have k := (ckT_0 h0).2
        have hf := k.hfew
        simp only [Bool.not_true, oite_f, obnd_s]
        cases h4 : decide ((12 : Int) < ((P.length : Nat) : Int)) with
        | true => rfl
        | false =>
          have h4 := of_decide_eq_false h4
          have hP : P.length < 4611686018427387904 := by omega
          cases h5 : decide ((13 : Int) < ((L.length : Nat) : Int)) with
          | true => rfl
          | false =>
            have h5 := of_decide_eq_false h5
            simp only [oite_f, obnd_s]
            rw [oloop_any (fun t => (t : Int)) L.length (fun t => decide (210 < (gl L t).length)) (r := .inr true) (d := .inl ()) (e0 := (0 : Int)) rfl ?_ ?_]
            · cases h6 : anyN (fun t => decide (210 < (gl L t).length)) L.length 0 with
              | true => rfl
              | false =>
                have hL : few L := ⟨by omega, fun i hi => by
                  have := anyN_f h6 i (Nat.zero_le _) (by omega)
                  have := of_decide_eq_false this
                  omega⟩
                simp only [cond_false, obndS_l]
                rw [f309_e (show M.length ≤ 1000000000 by omega), f310_e (show H.length ≤ 1000000000 by omega), f38_e (show P.length ≤ 1000000000 by omega)]
                simp only [obnd_s]
                rw [best_e h0 hM1 hs hH, f345_e h0 hM1 hs hH, f323_e hM1 hs hH hP]
                have hplan : plE lo up M v m w H P = 0 → ∃ y, opt lo up M H w (hdB lo up M H (-1) 0) H.length v m.toNat = some y ∧ valP M H v m w P ≤ y := fun he => by
                  obtain ⟨_, h7⟩ := plE_0 he
                  obtain ⟨hl, hp, hbv⟩ := pE_0 h7
                  exact opt_plan (hd := hdB lo up M H (-1) 0) k hl hp hbv (fun i hi => hdB_n _ _)
                cases hy : opt lo up M H w (hdB lo up M H (-1) 0) H.length v m.toNat with
                | none =>
                  have hne : plE lo up M v m w H P ≠ 0 := fun he => by
                    obtain ⟨y, h8, _⟩ := hplan he
                    rw [hy] at h8; cases h8
                  rw [decide_eq_false hne]
                  simp only [obnd_s, cond_false, decide_true, Bool.not_true, oite_f, decide_eq_false (show ¬ (12 : Int) = 0 by omega), Bool.not_false, oite_t, decide_eq_false hne]
                  rfl
                | some y =>
                  have hsome : (opt lo up M H w (hdB lo up M H (-1) 0) H.length v m.toNat).isSome = true := by rw [hy]; rfl
                  have hyb := pot_some k (Nat.le_refl _) k.vlo k.vhi hy
                  have hbl := best_len k hsome
                  have hbe : plE lo up M v m w H (bestP lo up M H v m w (hdB lo up M H (-1) 0)) = 0 := by
                    unfold plE; rw [h3]; exact best_pE k hsome
                  have hval := best_worth k hy
                  have hm0 := k.m0; have hm1 := k.m1
                  have hmn : m.toNat < M.length := by omega
                  have hown : gi (gl (ownL lo up M H w) 0) ((v - lo).toNat * M.length + m.toNat) = y := by
                    have := own_at (lo := lo) (up := up) (M := M) (H := H) (w := w) (t := 0) (b := m.toNat) (x := v) (Nat.zero_le _) k.vlo k.vhi hmn
                    unfold plc at this
                    rw [this, Nat.sub_zero]
                    exact hyb.1
                  have hvp : ¬ (plE lo up M v m w H P = 0 ∧ y < valP M H v m w P) := fun ⟨he, hlt⟩ => by
                    obtain ⟨y', h8, h9⟩ := hplan he
                    rw [hy] at h8; injection h8 with h8; omega
                  simp only [obnd_s, decide_true, Bool.not_true, oite_f, decide_eq_false (show ¬ (0 : Int) = 12 by omega)]
                  rw [f38_e (by rw [hbl]; omega)]
                  simp only [obnd_s]
                  rw [f323_e hM1 hs hH (by rw [hbl]; omega), f332_e (own_few k), hbe]
                  simp only [obnd_s]
                  rw [f331_e hM1 hs hH (own_few k), h3, ckB_ok (own_okL k) (own_ok k), hown]
                  simp only [obnd_s, decide_true, cond_true, Bool.not_true, oite_f, cond_false, hval]
                  have e1 : (oite (decide ((bif decide (plE lo up M v m w H P = 0) then (valP M H v m w P, (0 : Int)) else (0, plE lo up M v m w H P)).2 = 0)) (some (decide (y < (bif decide (plE lo up M v m w H P = 0) then (valP M H v m w P, (0 : Int)) else (0, plE lo up M v m w H P)).1))) (some false)) = some false := by
                    cases h8 : decide (plE lo up M v m w H P = 0) with
                    | true =>
                      simp only [cond_true, decide_true, oite_t]
                      rw [decide_eq_false (fun h => hvp ⟨of_decide_eq_true h8, h⟩)]
                    | false => simp only [cond_false, h8, oite_f]
                  rw [e1]
                  simp only [obnd_s, oite_f]
                  rw [f332_e hL]
                  simp only [obnd_s]
                  rw [f331_e hM1 hs hH hL, h3]
                  simp only [obnd_s, Bool.not_true, cond_false]
                  have e2 : (oite (decide ((ckB lo up M v m w H L).2 = 0)) (obnd (oite (decide ((ckB lo up M v m w H L).1 < y)) (some true) (oite (decide ((bif decide (plE lo up M v m w H P = 0) then (valP M H v m w P, (0 : Int)) else (0, plE lo up M v m w H P)).2 = 0)) (some (decide ((ckB lo up M v m w H L).1 < (bif decide (plE lo up M v m w H P = 0) then (valP M H v m w P, (0 : Int)) else (0, plE lo up M v m w H P)).1))) (some false))) fun r122 => some r122) (some false)) = some false := by
                    cases h9 : decide ((ckB lo up M v m w H L).2 = 0) with
                    | false => rfl
                    | true =>
                      obtain ⟨o, hbad, hc⟩ := ckB_0 (of_decide_eq_true h9)
                      have hge := bound_ge (hd := hdB lo up M H (-1) 0) k o hbad H.length v m.toNat y (Nat.le_refl _) k.vlo k.vhi hmn hy
                      rw [Nat.sub_self] at hge
                      unfold plc at hge
                      rw [← hc] at hge
                      rw [oite_t, decide_eq_false (show ¬ (ckB lo up M v m w H L).1 < y by omega), oite_f]
                      cases h8 : decide (plE lo up M v m w H P = 0) with
                      | true =>
                        simp only [cond_true, decide_true, oite_t, obnd_s]
                        rw [decide_eq_false (fun h => hvp ⟨of_decide_eq_true h8, by omega⟩)]
                      | false => simp only [cond_false, h8, oite_f, obnd_s]
                  rw [e2]
                  simp only [obnd_s, oite_f]
                  obtain ⟨u, hu, hu0, hu1⟩ := f346_e a9
                  have hlo := k.lo0; have hhi := k.hi1; have hlh := k.lohi; have hv1 := k.vlo; have hv2 := k.vhi; have hw4 := k.w4; have hsp := k.span
                  rw [hu]
                  simp only [obnd_s]
                  rw [wr (n := lo + u) (by omega) (by omega), wr (n := up + u) (by omega) (by omega), wr (n := v + u) (by omega) (by omega)]
                  have hpe : f347 (lo + u) (up + u) M = some (ckP (lo + u) (up + u) M).2 := by unfold f347; rw [f325_e hM1 hs]; rfl
                  rw [hpe]
                  simp only [obnd_s]
                  cases h10 : decide ((ckP (lo + u) (up + u) M).2 = 0) with
                  | false => rfl
                  | true =>
                    have h10 := of_decide_eq_true h10
                    obtain ⟨_, h12, h13⟩ := ckT_parts h0
                    have h0' : (ckT (lo + u) (up + u) M (v + u) m w H).2 = 0 := by
                      refine ckT_of h10 ?_ h13
                      obtain ⟨_, q2, _, q4, q5⟩ := tskE_0 h12
                      unfold tskE
                      rw [decide_eq_true (show lo + u ≤ v + u by omega), decide_eq_true (show v + u ≤ up + u by omega), decide_eq_true q2.1, decide_eq_true (show m ≤ (M.length : Int) - 1 by omega), decide_eq_true (show (0 : Int) < (H.length : Int) by omega), decide_eq_true (show (H.length : Int) ≤ 10 by omega)]
                      have : s4 w = true := by unfold s4; rw [decide_eq_true hw4.1, decide_eq_true hw4.2]; rfl
                      rw [this]; rfl
                    simp only [Bool.not_true, oite_f]
                    have hy' : opt (lo + u) (up + u) M H w (hdB (lo + u) (up + u) M H (-1) 0) H.length (v + u) m.toNat = some (y + w * u) := by
                      rw [opt_up (hd := hdB lo up M H (-1) 0) hdB_n hdB_n, hy]; rfl
                    rw [best_e h0' hM1 hs hH, hy']
                    simp only [obnd_s]
                    rw [best_up (hd := hdB lo up M H (-1) 0) hdB_n hdB_n, f26_refl (by rw [hbl]; omega), f15_e]
                    have hwu : -10000000 ≤ w * u ∧ w * u ≤ 10000000 := by
                      have h := Int.natAbs_mul w u
                      have h3 : (w * u).natAbs ≤ 10000 * 1000 := by rw [h]; exact Nat.mul_le_mul (by omega) (by omega)
                      omega
                    rw [wr (n := w * u) (by omega) (by omega), wr (n := y + w * u) (by omega) (by omega), decide_eq_true (show (-1000000000000 : Int) ≤ y by omega), decide_eq_true (show y ≤ (1000000000000 : Int) by omega)]
                    simp only [obnd_s, decide_true, oite_t, Bool.and_self]
            · intro t ht
              unfold l306_1
              have e : decide ((210 : Int) < (((gl L t).length : Nat) : Int)) = decide (210 < (gl L t).length) := by rw [Bool.eq_iff_iff, decide_eq_true_eq, decide_eq_true_eq]; omega
              simp (disch := omega) only [obnd_s, obnd_n, oite_ss, oite_t, oite_f, ogrd_t, ogrd_f, obndS_l, obndS_r, ilt_eq, ile_eq, ieq_eq, imax_e, imin_e, k0, k1, k2, k3, k4, k5, k6, k7, k8, k9, reduceIte, k10, k11, k12, k13, k14, k15, k16, k17, k18, k19, k20, k21, k22, k23, k24, k25, k26, k27, k28, get_gl ht, show ((t : Nat) : Int) < ((L.length : Nat) : Int) by omega, wr, e]
              cases decide (210 < (gl L t).length) <;> rfl
            · unfold l306_1
              simp (disch := omega) only [obnd_s, obnd_n, oite_ss, oite_t, oite_f, ogrd_t, ogrd_f, obndS_l, obndS_r, ilt_eq, ile_eq, ieq_eq, imax_e, imin_e, k0, k1, k2, k3, k4, k5, k6, k7, k8, k9, reduceIte, k10, k11, k12, k13, k14, k15, k16, k17, k18, k19, k20, k21, k22, k23, k24, k25, k26, k27, k28, Int.lt_irrefl]
end
end
end Go.Proofs.YtmbekcealcjabaaGreat.AM
