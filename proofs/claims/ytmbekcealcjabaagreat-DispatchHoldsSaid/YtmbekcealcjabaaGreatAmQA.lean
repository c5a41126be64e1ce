/- Plain law: DispatchHolds, from chapter 8's examples (f198). Conditions: none. -/
import Derived.Test.YtmbekcealcjabaaGreatAmQ3
import Derived.Test.YtmbekcealcjabaaGreatAmQ8b
namespace Go.Proofs.YtmbekcealcjabaaGreat.AM
section
set_option linter.unusedSimpArgs false
set_option linter.unusedVariables false
open Go Go.RowKit

theorem f307_e {lo up : Int} {M : List (ByteArray × Int × Int × Int)} : ∃ b, f307 lo up M = some b ∧ (b = true → M.length ≤ 7 ∧ ∀ p, p ∈ M → p.1.size ≤ 20) := by
  unfold f307
  simp only [List.length_map, ilt_eq]
  cases h1 : decide ((7 : Int) < ((M.length : Nat) : Int)) with
  | true => exact ⟨false, rfl, fun h => by cases h⟩
  | false =>
    have h1 := of_decide_eq_false h1
    rw [oite_f, oloop_scanB (fun i => (i : Int)) M.length (fun i => decide (20 < (gm M i).1.size)) (fun _ => .inr false) (d := .inl ()) (e0 := 0) rfl ?_ ?_]
    · cases h2 : scanF (fun i => bif decide (20 < (gm M i).1.size) then some (Sum.inr false : Unit ⊕ Bool) else none) M.length 0 with
      | none =>
        refine ⟨true, rfl, fun _ => ⟨by omega, fun p hp => ?_⟩⟩
        obtain ⟨i, hi, rfl⟩ := List.getElem_of_mem hp
        have := scanF_none h2 i (Nat.zero_le _) (by omega)
        unfold gm at this
        rw [getD_i hi] at this
        by_cases h3 : 20 < M[i].1.size
        · rw [decide_eq_true h3] at this; cases this
        · omega
      | some r =>
        have : r = .inr false := by
          rw [scan_c] at h2
          cases h4 : anyN (fun i => decide (20 < (gm M i).1.size)) M.length 0 with
          | true => rw [h4] at h2; injection h2 with h2; exact h2.symm
          | false => rw [h4] at h2; cases h2
        subst this
        exact ⟨false, rfl, fun h => by cases h⟩
    · intro i hi
      have e : decide ((20 : Int) < (((gm M i).1.size : Nat) : Int)) = decide (20 < (gm M i).1.size) := by rw [Bool.eq_iff_iff, decide_eq_true_eq, decide_eq_true_eq]; omega
      simp (disch := omega) only [obnd_s, obnd_n, oite_ss, oite_t, oite_f, ogrd_t, ogrd_f, obndS_l, obndS_r, ilt_eq, ile_eq, ieq_eq, imax_e, imin_e, k0, k1, k2, k3, k4, k5, k6, k7, k8, k9, reduceIte, k10, k11, k12, k13, k14, k15, k16, k17, k18, k19, k20, k21, k22, k23, k24, k25, k26, k27, k28, hi, get_gm hi, wr, e]; rfl
    · simp (disch := omega) only [obnd_s, obnd_n, oite_ss, oite_t, oite_f, ogrd_t, ogrd_f, obndS_l, obndS_r, ilt_eq, ile_eq, ieq_eq, imax_e, imin_e, k0, k1, k2, k3, k4, k5, k6, k7, k8, k9, reduceIte, k10, k11, k12, k13, k14, k15, k16, k17, k18, k19, k20, k21, k22, k23, k24, k25, k26, k27, k28, Int.lt_irrefl]
theorem f308_e {v m w : Int} {H : List (Int × Int × Int)} : f308 v m w H = some (decide (H.length ≤ 12)) := by
  unfold f308
  rw [List.length_map, ile_eq]
  congr 1; rw [Bool.eq_iff_iff, decide_eq_true_eq, decide_eq_true_eq]; omega
theorem f309_e {lo up : Int} {M : List (ByteArray × Int × Int × Int)} (h : M.length ≤ 1000000000) : f309 lo up M = some (lo, up, M) := by
  unfold f309; rw [ogrd_fits (by simp; omega) (by simp; omega)]; rfl
theorem f310_e {v m w : Int} {H : List (Int × Int × Int)} (h : H.length ≤ 1000000000) : f310 v m w H = some (v, m, w, H) := by
  unfold f310; rw [ogrd_fits (by simp; omega) (by simp; omega)]; rfl
theorem f355_e (n : Int) : f355 n = some (s4 n) := by unfold f355; rw [f15_e]; rfl
theorem f364_e {l : List ByteArray} (s : ByteArray) (hl : l.length < 4611686018427387904) : f364 l s = some (l.any fun x => x.toList == s.toList) := by
  unfold f364
  rw [oloop_scanB (fun i => (i : Int)) l.length (fun i => (l.getD i ⟨#[]⟩).toList == s.toList) (fun _ => .inr true) (d := .inl ()) (e0 := 0) rfl ?_ ?_, scan_anyB (fun x => x.toList == s.toList) ⟨#[]⟩ (Sum.inr true : Unit ⊕ Bool) l]
  · cases l.any (fun x => x.toList == s.toList) <;> rfl
  · intro i hi
    rw [getD_i hi]
    simp (disch := omega) only [obnd_s, obnd_n, oite_ss, oite_t, oite_f, ogrd_t, ogrd_f, obndS_l, obndS_r, ilt_eq, ile_eq, ieq_eq, imax_e, imin_e, k0, k1, k2, k3, k4, k5, k6, k7, k8, k9, reduceIte, k10, k11, k12, k13, k14, k15, k16, k17, k18, k19, k20, k21, k22, k23, k24, k25, k26, k27, k28, hi, get_i hi, wr]; rfl
  · simp (disch := omega) only [obnd_s, obnd_n, oite_ss, oite_t, oite_f, ogrd_t, ogrd_f, obndS_l, obndS_r, ilt_eq, ile_eq, ieq_eq, imax_e, imin_e, k0, k1, k2, k3, k4, k5, k6, k7, k8, k9, reduceIte, k10, k11, k12, k13, k14, k15, k16, k17, k18, k19, k20, k21, k22, k23, k24, k25, k26, k27, k28, Int.lt_irrefl]
theorem f354_e {s : ByteArray} {c e z : Int} {l : List ByteArray} (hs : s.size < 4611686018427387904) (hl : l.length < 4611686018427387904) :
    f354 s c e z l = some (bif !nameB s then 4 else bif l.any (fun x => x.toList == s.toList) then 5 else bif !(s4 c && s4 e && z4 z) then 2 else 0) := by
  unfold f354
  rw [f91_e hs, f364_e s hl]
  simp only [obnd_s, f15_e]
  rw [show (decide (-10000 ≤ c) && decide (c ≤ 10000)) = s4 c from rfl, show (decide (-10000 ≤ e) && decide (e ≤ 10000)) = s4 e from rfl, show (decide (0 ≤ z) && decide (z ≤ 10000)) = z4 z from rfl]
  cases nameB s <;> cases l.any (fun x => x.toList == s.toList) <;> cases s4 c <;> cases s4 e <;> cases z4 z <;> rfl
def nms (M : List (ByteArray × Int × Int × Int)) (i : Nat) : List ByteArray := (M.take i).map (·.1)
theorem nms_len {M : List (ByteArray × Int × Int × Int)} {i : Nat} : (nms M i).length ≤ i := by simp [nms]; omega
theorem nms_s {M : List (ByteArray × Int × Int × Int)} {i : Nat} (h : i < M.length) : nms M i ++ [(gm M i).1] = nms M (i + 1) := by
  unfold nms
  rw [List.take_add_one, get_gm h, List.map_append]; rfl
theorem nms_any {M : List (ByteArray × Int × Int × Int)} {i : Nat} : (nms M i).any (fun x => x.toList == (gm M i).1.toList) = knownM M i := by
  unfold nms knownM; rw [List.any_map]; rfl
theorem f325_e {lo up : Int} {M : List (ByteArray × Int × Int × Int)} (hM : M.length < 4611686018427387904) (hs : ∀ p, p ∈ M → p.1.size < 4611686018427387904) : f325 lo up M = some (ckP lo up M) := by
  unfold f325 ckP
  simp only [obnd_s, f15_e, List.length_map, ilt_eq, ile_eq, ieq_eq]
  rw [show (decide (0 ≤ lo) && decide (lo ≤ 1000000)) = vol lo from rfl, show (decide (0 ≤ up) && decide (up ≤ 1000000)) = vol up from rfl]
  cases h1 : vol lo with
  | false => unfold pltE; rw [h1]; rfl
  | true =>
    cases h2 : vol up with
    | false => unfold pltE; rw [h1, h2]; rfl
    | true =>
      have h3 := vol_p h1; have h4 := vol_p h2
      simp only [Bool.not_true, oite_f, obnd_s]
      have e1 : decide (up < lo) = !decide (lo ≤ up) := by rw [← decide_not]; congr 1; exact propext (by omega)
      have e2 : decide ((40 : Int) ≤ up - lo) = !decide (up - lo < 40) := by rw [← decide_not]; congr 1; exact propext (by omega)
      have e3 : decide (((M.length : Nat) : Int) = 0) = !decide ((0 : Int) < ((M.length : Nat) : Int)) := by rw [← decide_not]; congr 1; exact propext (by omega)
      have e4 : decide ((5 : Int) < ((M.length : Nat) : Int)) = !decide (((M.length : Nat) : Int) ≤ 5) := by rw [← decide_not]; congr 1; exact propext (by omega)
      rw [wr (n := up - lo) (by omega) (by omega), e1, e2, e3, e4]
      unfold pltE
      rw [h1, h2]
      cases decide (lo ≤ up) with
      | false => rfl
      | true =>
        cases decide (up - lo < 40) with
        | false => rfl
        | true =>
          cases decide ((0 : Int) < ((M.length : Nat) : Int)) with
          | false => rfl
          | true =>
            cases h5 : decide (((M.length : Nat) : Int) ≤ 5) with
            | false => rfl
            | true =>
              have h5 := of_decide_eq_true h5
              simp only [Bool.not_true, oite_f, Bool.and_self, cond_false, decide_true]
              rw [oloop_scanB (fun i => (nms M i, (i : Int))) M.length (fun i => !decide (modE M i = 0)) (fun i => .inr ((i : Int), modE M i)) (d := .inl ()) (e0 := (([] : List ByteArray), (0 : Int))) rfl ?_ ?_, errs_scan (modE M) M.length (Sum.inr : Int × Int → Unit ⊕ (Int × Int))]
              · cases errs (modE M) M.length <;> rfl
              · intro i hi
                have hn := hs (gm M i) (by unfold gm; rw [getD_i hi]; exact List.getElem_mem hi)
                have hl := nms_len (M := M) (i := i)
                simp (disch := omega) only [obnd_s, obnd_n, oite_ss, oite_t, oite_f, ogrd_t, ogrd_f, obndS_l, obndS_r, ilt_eq, ile_eq, ieq_eq, imax_e, imin_e, k0, k1, k2, k3, k4, k5, k6, k7, k8, k9, reduceIte, k10, k11, k12, k13, k14, k15, k16, k17, k18, k19, k20, k21, k22, k23, k24, k25, k26, k27, k28, hi, get_gm hi, wr]
                rw [f354_e hn (by omega), nms_any, show (bif !nameB (gm M i).1 then (4 : Int) else bif knownM M i then 5 else bif !(s4 (gm M i).2.1 && s4 (gm M i).2.2.1 && z4 (gm M i).2.2.2) then 2 else 0) = modE M i from rfl]
                simp only [obnd_s]
                rw [ogrd_fits (by simp; omega) (by simp; omega), nms_s hi]
                cases decide (modE M i = 0) <;> rfl
              · simp (disch := omega) only [obnd_s, obnd_n, oite_ss, oite_t, oite_f, ogrd_t, ogrd_f, obndS_l, obndS_r, ilt_eq, ile_eq, ieq_eq, imax_e, imin_e, k0, k1, k2, k3, k4, k5, k6, k7, k8, k9, reduceIte, k10, k11, k12, k13, k14, k15, k16, k17, k18, k19, k20, k21, k22, k23, k24, k25, k26, k27, k28, Int.lt_irrefl]
theorem f326_e {lo up v m w : Int} {M : List (ByteArray × Int × Int × Int)} {H : List (Int × Int × Int)} (hM : M.length < 4611686018427387904) (hs : ∀ p, p ∈ M → p.1.size < 4611686018427387904) (hH : H.length < 4611686018427387904) : f326 lo up M v m w H = some (ckT lo up M v m w H) := by
  unfold f326 ckT f347
  have hw : IntKind.i64.wrap ((M.length : Int) - 1) = (M.length : Int) - 1 := wr (by omega) (by omega)
  simp only [f325_e hM hs, obnd_s, f15_e, f355_e, List.length_map, ile_eq, ilt_eq, ieq_eq, hw]
  cases h1 : decide ((ckP lo up M).2 = 0) with
  | false => rfl
  | true =>
    have e3 : decide (((H.length : Nat) : Int) = 0) = !decide ((0 : Int) < ((H.length : Nat) : Int)) := by rw [← decide_not]; congr 1; exact propext (by omega)
    have e4 : decide ((10 : Int) < ((H.length : Nat) : Int)) = !decide (((H.length : Nat) : Int) ≤ 10) := by rw [← decide_not]; congr 1; exact propext (by omega)
    rw [e3, e4]
    unfold tskE
    cases (decide (lo ≤ v) && decide (v ≤ up)) with
    | false => rfl
    | true =>
      cases (decide (0 ≤ m) && decide (m ≤ (M.length : Int) - 1)) with
      | false => rfl
      | true =>
        cases s4 w with
        | false => rfl
        | true =>
          cases decide ((0 : Int) < ((H.length : Nat) : Int)) with
          | false => rfl
          | true =>
            cases decide (((H.length : Nat) : Int) ≤ 10) with
            | false => rfl
            | true =>
              simp only [Bool.not_true, oite_f, cond_false, decide_true]
              rw [oloop_scanB (fun i => (i : Int)) H.length (fun i => !decide (hourE H i = 0)) (fun i => .inr ((i : Int), hourE H i)) (d := .inl ()) (e0 := 0) rfl ?_ ?_, errs_scan (hourE H) H.length (Sum.inr : Int × Int → Unit ⊕ (Int × Int))]
              · cases errs (hourE H) H.length <;> rfl
              · intro i hi
                have e5 : decide ((gh H i).1 < (gh H i).2.1) = !decide ((gh H i).2.1 ≤ (gh H i).1) := by rw [← decide_not]; congr 1; exact propext (by omega)
                simp (disch := omega) only [obnd_s, obnd_n, oite_ss, oite_t, oite_f, ogrd_t, ogrd_f, obndS_l, obndS_r, ilt_eq, ile_eq, ieq_eq, imax_e, imin_e, k0, k1, k2, k3, k4, k5, k6, k7, k8, k9, reduceIte, k10, k11, k12, k13, k14, k15, k16, k17, k18, k19, k20, k21, k22, k23, k24, k25, k26, k27, k28, hi, get_gh hi, wr, e5]
                unfold hourE
                cases s4 (gh H i).1 <;> cases s4 (gh H i).2.1 <;> cases s4 (gh H i).2.2 <;> cases decide ((gh H i).2.1 ≤ (gh H i).1) <;> rfl
              · simp (disch := omega) only [obnd_s, obnd_n, oite_ss, oite_t, oite_f, ogrd_t, ogrd_f, obndS_l, obndS_r, ilt_eq, ile_eq, ieq_eq, imax_e, imin_e, k0, k1, k2, k3, k4, k5, k6, k7, k8, k9, reduceIte, k10, k11, k12, k13, k14, k15, k16, k17, k18, k19, k20, k21, k22, k23, k24, k25, k26, k27, k28, Int.lt_irrefl]
theorem f311_e {lo up v m w : Int} {M : List (ByteArray × Int × Int × Int)} {H : List (Int × Int × Int)} (hM : M.length < 4611686018427387904) (hs : ∀ p, p ∈ M → p.1.size < 4611686018427387904) (hH : H.length < 4611686018427387904) : f311 lo up M v m w H = some (ckT lo up M v m w H).2 := by
  unfold f311; rw [f326_e hM hs hH]; rfl
end
section
set_option linter.unusedSimpArgs false
set_option linter.unusedVariables false
open Go Go.RowKit

section
variable {lo up v m w : Int} {M : List (ByteArray × Int × Int × Int)} {H : List (Int × Int × Int)} {P : List Int}
theorem f350_e (k : okT lo up M v m w H) {t b j : Nat} (ht : t < H.length) (hj : j < M.length) : f350 lo up M (gh H t).1 (gh H t).2.1 (gh H t).2.2 (j : Int) (b : Int) = some (rev M H t b j) := by
  have a := k.hour t ht
  have c := k.mode j hj
  unfold f350
  have h1 := mul_b c.2.1 a.1
  have h2 := mul_b c.2.1 a.2.1
  simp only [ile_eq, ilt_eq, ieq_eq, Int.toNat_natCast, get_gm hj, obnd_s, oite_ss, decide_eq_true (Int.natCast_nonneg j), ogrd_t, ceqN]
  rw [wr (n := (gm M j).2.2.1 * (gh H t).2.1) (by omega) (by omega), wr (n := (gm M j).2.2.1 * (gh H t).1) (by omega) (by omega)]
  have e : decide (j = b) = decide (b = j) := by rw [Bool.eq_iff_iff, decide_eq_true_eq, decide_eq_true_eq]; exact eq_comm
  unfold rev
  rw [e]
  cases decide (0 < (gm M j).2.2.1) with
  | true =>
    simp only [cond_true]
    rw [wr (by omega) (by omega)]
    cases decide (b = j) <;> simp
  | false =>
    simp only [cond_false]
    rw [wr (by omega) (by omega)]
    cases decide (b = j) <;> simp
theorem f351_e (k : okT lo up M v m w H) {v' m' w' : Int} {x : Int} {h j : Nat} (hh : h ≤ H.length) (hj : j < M.length) (hx : -1000000000 ≤ x ∧ x ≤ 1000000000) :
    f351 lo up M v' m' w' H (h : Int) x (j : Int) = some (gvn lo up M H j (H.length - h) h x : Int) := by
  unfold f351
  have hf := k.hfew
  generalize hg : (fun e5 : Int × Int × Int => oite (ilt e5.2.2 ((H.map e_III).length : Int)) _ _) = g
  have key : ∀ (q n : Nat) (y : Int), h + n + q = H.length → (-1000000000 ≤ y ∧ y ≤ 1000000000) → ∃ r, oloop (τ := Int × Int × Int) (ρ := Int ⊕ Int) g (y, (n : Int), ((h + n : Nat) : Int)) = some r ∧ (r = .inl ((n + gvn lo up M H j q (h + n) y : Nat) : Int) ∨ r = .inr ((n + gvn lo up M H j q (h + n) y : Nat) : Int)) := by
    intro q
    induction q with
    | zero =>
      intro n y hn hy
      refine ⟨_, oloop_done (r := .inl (n : Int)) ?_, .inl rfl⟩
      rw [← hg]
      simp (disch := omega) only [obnd_s, obnd_n, oite_ss, oite_t, oite_f, ogrd_t, ogrd_f, obndS_l, obndS_r, ilt_eq, ile_eq, ieq_eq, imax_e, imin_e, k0, k1, k2, k3, k4, k5, k6, k7, k8, k9, reduceIte, k10, k11, k12, k13, k14, k15, k16, k17, k18, k19, k20, k21, k22, k23, k24, k25, k26, k27, k28, wr]
      rw [decide_eq_false (by omega)]; rfl
    | succ q ih =>
      intro n y hn hy
      have hl : h + n < H.length := by omega
      have a := k.hour (h + n) hl
      have b := k.mode j hj
      have step : g (y, (n : Int), ((h + n : Nat) : Int)) = some (bif inR lo up (y + (gh H (h + n)).2.2 + (gm M j).2.1) then .inl (y + (gh H (h + n)).2.2 + (gm M j).2.1, ((n + 1 : Nat) : Int), ((h + (n + 1) : Nat) : Int)) else .inr (.inr (n : Int))) := by
        rw [← hg]
        simp only [List.length_map, ilt_eq, ile_eq, decide_eq_true (show ((h + n : Nat) : Int) < ((H.length : Nat) : Int) by omega), oite_t, decide_eq_true (Int.natCast_nonneg _), ogrd_t, Int.toNat_natCast, get_gh hl, get_gm hj, obnd_s, f15_e]
        rw [wr (n := y + (gh H (h + n)).2.2) (by omega) (by omega), wr (n := y + (gh H (h + n)).2.2 + (gm M j).2.1) (by omega) (by omega), wr (n := (n : Int) + 1) (by omega) (by omega), wr (n := ((h + n : Nat) : Int) + 1) (by omega) (by omega)]
        unfold inR
        cases (decide (lo ≤ y + (gh H (h + n)).2.2 + (gm M j).2.1) && decide (y + (gh H (h + n)).2.2 + (gm M j).2.1 ≤ up)) <;> rfl
      simp only [gvn]
      cases hr : inR lo up (y + (gh H (h + n)).2.2 + (gm M j).2.1) with
      | false => rw [hr] at step; exact ⟨_, oloop_done step, .inr rfl⟩
      | true =>
        rw [hr] at step
        have hp := inR_p hr
        have := k.lo0; have := k.hi1
        obtain ⟨r, h1, h2⟩ := ih (n + 1) (y + (gh H (h + n)).2.2 + (gm M j).2.1) (by omega) (by omega)
        refine ⟨r, by rw [oloop_step step]; exact h1, ?_⟩
        simp only [cond_true]
        rw [show n + (gvn lo up M H j q (h + n + 1) (y + (gh H (h + n)).2.2 + (gm M j).2.1) + 1) = n + 1 + gvn lo up M H j q (h + (n + 1)) (y + (gh H (h + n)).2.2 + (gm M j).2.1) by rw [show h + n + 1 = h + (n + 1) by omega]; omega]
        exact h2
  obtain ⟨r, h1, h2⟩ := key (H.length - h) 0 x (by omega) hx
  rw [Nat.add_zero] at h1
  rw [Nat.zero_add, Nat.add_zero] at h2
  rw [show ((x, (0 : Int), (h : Int))) = (x, ((0 : Nat) : Int), ((h : Nat) : Int)) from rfl, h1]
  rcases h2 with rfl | rfl <;> rfl
end
end
section
set_option linter.unusedSimpArgs false
set_option linter.unusedVariables false
open Go Go.RowKit

/-! ### The reference's table: a number, and whether there is one -/
def wko (o : Nat → Int → Nat → Option Int) (q : Nat) (x : Int) (b : Nat) : Int := (o q x b).getD 0
def sko (o : Nat → Int → Nat → Option Int) (q : Nat) (x : Int) (b : Nat) : Bool := (o q x b).isSome
section
variable {lo up v m w : Int} {M : List (ByteArray × Int × Int × Int)} {H : List (Int × Int × Int)} {hd : Nat → Int → Bool}
theorem f349_e (k : okT lo up M v m w H) {x : Int} {b : Nat} (h1 : lo ≤ x) (h2 : x ≤ up) (hb : b < M.length) : f349 lo up M x (b : Int) = some (((x - lo).toNat * M.length + b : Nat) : Int) := by
  have a := k.lo0; have a1 := k.hi1
  have h := cell_lt (lo := lo) (up := up) (M := M) (a := (x - lo).toNat) (b := b) (by omega) hb
  have hn := (nc_b k).2
  unfold f349
  rw [List.length_map, wr (n := x - lo) (by omega) (by omega)]
  have e : (x - lo) * (M.length : Int) = (((x - lo).toNat * M.length : Nat) : Int) := by
    rw [Int.natCast_mul, Int.toNat_of_nonneg (by omega)]
  rw [e, wr (n := (((x - lo).toNat * M.length : Nat) : Int)) (by omega) (by omega), wr (by omega) (by omega)]
  rfl
theorem opt_b (k : okT lo up M v m w H) {q : Nat} {x y : Int} {b : Nat} (hq : q ≤ H.length) (h1 : lo ≤ x) (h2 : x ≤ up) (h : opt lo up M H w hd q x b = some y) : -20000000000 ≤ y ∧ y ≤ 20000000000 := by
  have h3 := pot_some k hq h1 h2 h
  have hf := k.hfew
  omega
theorem cnt_e (k : okT lo up M v m w H) : IntKind.i64.wrap ((IntKind.i64.wrap ((IntKind.i64.wrap (up - lo)) + (1 : Int))) * ((M.length : Nat) : Int)) = ((nc lo up M : Nat) : Int) := by
  have a := k.lo0; have a1 := k.hi1; have a2 := k.lohi
  have hn := (nc_b k).2
  rw [wr (n := up - lo) (by omega) (by omega), wr (n := up - lo + 1) (by omega) (by omega)]
  have e : (up - lo + 1) * (M.length : Int) = ((nc lo up M : Nat) : Int) := by
    unfold nc
    rw [Int.natCast_mul, Int.natCast_add, Int.toNat_of_nonneg (by omega)]; rfl
  rw [e, wr (by omega) (by omega)]
theorem tdiv_n {a b : Nat} : ((a : Int)).tdiv (b : Int) = ((a / b : Nat) : Int) := by
  rw [Int.tdiv_eq_ediv_of_nonneg (by omega)]; rfl
theorem tmod_n {a b : Nat} : ((a : Int)).tmod (b : Int) = ((a % b : Nat) : Int) := by
  rw [Int.tmod_eq_emod_of_nonneg (by omega)]; rfl
/-- One mode more in the reference's table. -/
theorem optJ_s {ok : Int → Nat → Option Int} {t b j : Nat} {x : Int} : optJ lo up M H ok t x b (j + 1) =
    bif inR lo up (aft M H x t j) && ((ok (aft M H x t j) j).isSome && (!(optJ lo up M H ok t x b j).isSome || decide ((optJ lo up M H ok t x b j).getD 0 < rev M H t b j + (ok (aft M H x t j) j).getD 0)))
    then some (rev M H t b j + (ok (aft M H x t j) j).getD 0) else optJ lo up M H ok t x b j := by
  simp only [optJ]
  cases inR lo up (aft M H x t j) with
  | false => rfl
  | true =>
    cases ok (aft M H x t j) j with
    | none => rfl
    | some y =>
      cases optJ lo up M H ok t x b j with
      | none => rfl
      | some z =>
        simp only [cond_true, Option.isSome_some, Option.getD_some, Bool.true_and, Bool.not_true, Bool.false_or]
        cases decide (z < rev M H t b j + y) <;> rfl
theorem hd_ilt (k : okT lo up M v m w H) {j : Nat} {d : Int} {t : Nat} {x : Int} : decide ((gvn lo up M H j (H.length - t) t x : Int) < min d ((H.length : Int) - t)) = !hdB lo up M H (j : Int) d t x := by
  unfold hdB
  rw [decide_eq_false (show ¬ (j : Int) < 0 by omega), Bool.false_or, ← decide_not, Int.toNat_natCast]
  congr 1; exact propext (by omega)
theorem f316_e (k : okT lo up M v m w H) {r : Nat} {d : Int} (hr : r < M.length) (hd1 : 0 ≤ d ∧ d ≤ 10) :
    f316 lo up M v m w H (r : Int) d = some (bif (opt lo up M H w (hdB lo up M H r d) H.length v m.toNat).isSome then ((walkP M H v m (tstO lo up M H (opt lo up M H w (hdB lo up M H r d))) H.length).1, (opt lo up M H w (hdB lo up M H r d) H.length v m.toNat).getD 0, true) else ([], 0, false)) := by
  have hlo := k.lo0; have hhi := k.hi1; have hf := k.hfew; have hmp := k.mpos; have hmf := k.mfew; have hlh := k.lohi; have hsp := k.span
  have hm0 := k.m0; have hm1 := k.m1
  have em : m = ((m.toNat : Nat) : Int) := by omega
  have hmn : m.toNat < M.length := by omega
  obtain ⟨hc0, hc1⟩ := nc_b k
  have e3 : ((H.length : Nat) : Int) + 1 = ((H.length + 1 : Nat) : Int) := by omega
  have hob : ∀ (q : Nat) (x y : Int) (b : Nat), q ≤ H.length → lo ≤ x → x ≤ up → opt lo up M H w (hdB lo up M H r d) q x b = some y → -20000000000 ≤ y ∧ y ≤ 20000000000 := fun q x y b h1 h2 h3 h4 => opt_b k h1 h2 h3 h4
  have hos : ∀ (q : Nat) (x : Int) (b : Nat), opt lo up M H w (hdB lo up M H r d) (q + 1) x b = bif hdB lo up M H r d (H.length - (q + 1)) x then optJ lo up M H (opt lo up M H w (hdB lo up M H r d) q) (H.length - (q + 1)) x b M.length else none := fun _ _ _ => rfl
  have ho0 : ∀ (x : Int) (b : Nat), opt lo up M H w (hdB lo up M H r d) 0 x b = some (w * x) := fun _ _ => rfl
  have hwk := walk_eq (hd := hdB lo up M H r d) k
  generalize hO : opt lo up M H w (hdB lo up M H r d) = O at *
  unfold f316
  simp only [List.length_map]
  rw [wr (n := ((H.length : Nat) : Int) + 1) (by omega) (by omega), e3, cnt_e k, mfits_t (by omega) (Int.le_refl _) (by omega) (by omega), ogrd_t]
  simp only [obnd_s]
  refine (obnd_of (a := (outS lo up M H.length (wko O) (H.length + 1), outS lo up M H.length (sko O) (H.length + 1))) ?_).trans ?_
  · refine oloop_all (fun i => ((H.length : Int) - (i : Int), outS lo up M H.length (wko O) i, outS lo up M H.length (sko O) i)) (H.length + 1) ?_ ?_ ?_
    · rw [outS_0, outS_0]; simp
    · intro i hi
      have e4 : ((H.length : Nat) : Int) - (i : Int) = ((H.length - i : Nat) : Int) := by omega
      simp only [e4, ile_eq, ilt_eq, ieq_eq, decide_eq_true (Int.natCast_nonneg _), oite_t, ogrd_t, Int.toNat_natCast, outS_len, decide_eq_true (show ((H.length - i : Nat) : Int) < ((H.length + 1 : Nat) : Int) by omega), blt_t (show H.length - i < H.length + 1 by omega), List.length_replicate, mfits_t (b := 8) (l := ((nc lo up M : Nat) : Int)) (c := ((nc lo up M : Nat) : Int)) (by omega) (Int.le_refl _) (by omega) (by omega), mfits_t (b := 1) (l := ((nc lo up M : Nat) : Int)) (c := ((nc lo up M : Nat) : Int)) (by omega) (Int.le_refl _) (by omega) (by omega), obnd_s]
      refine (obnd_of (a := (row lo up M (wko O i), row lo up M (sko O i))) ?_).trans ?_
      · rw [← range_rep (x := (0 : Int)), ← range_rep (x := false)]
        refine oloop_all (fun c => ((c : Int), part (cel lo M (wko O i)) (fun _ => (0 : Int)) c (nc lo up M), part (cel lo M (sko O i)) (fun _ => false) c (nc lo up M))) (nc lo up M) ?_ ?_ ?_
        · rw [part_0, part_0]; rfl
        · intro c hc
          have ha : c / M.length ≤ (up - lo).toNat := by
            have h1 : c / M.length < (up - lo).toNat + 1 := (Nat.div_lt_iff_lt_mul hmp).2 hc
            omega
          have hb : c % M.length < M.length := Nat.mod_lt _ hmp
          have hcw : cel lo M (wko O i) c = wko O i (lo + ((c / M.length : Nat) : Int)) (c % M.length) := rfl
          have hcs : cel lo M (sko O i) c = sko O i (lo + ((c / M.length : Nat) : Int)) (c % M.length) := rfl
          simp only [decide_eq_true (show ((c : Nat) : Int) < ((nc lo up M : Nat) : Int) by omega), oite_t, tdiv_n, tmod_n]
          generalize c / M.length = a at *
          generalize c % M.length = b at *
          have hx1 : lo ≤ lo + (a : Int) := by omega
          have hx2 : lo + (a : Int) ≤ up := by omega
          rw [wr (n := ((a : Nat) : Int)) (by omega) (by omega), wr (n := lo + ((a : Nat) : Int)) (by omega) (by omega), decide_eq_false (show ¬ ((M.length : Nat) : Int) = 0 by omega)]
          simp only [Bool.not_false, ogrd_t, part_len, blt_t hc, ceqN, decide_eq_true (Int.natCast_nonneg _), Int.toNat_natCast]
          refine (obnd_of (a := (part (cel lo M (wko O i)) (fun _ => (0 : Int)) (c + 1) (nc lo up M), part (cel lo M (sko O i)) (fun _ => false) (c + 1) (nc lo up M))) ?_).trans ?_
          · by_cases hi0 : i = 0
            · subst hi0
              have hw := wv_b k hx1 hx2
              rw [decide_eq_true (show H.length - 0 = H.length from rfl), oite_t, wr (by omega) (by omega), part_set (by rw [hcw]; unfold wko; rw [ho0]; rfl), part_set (by rw [hcs]; unfold sko; rw [ho0]; rfl)]
            · obtain ⟨q, rfl⟩ := Nat.exists_eq_succ_of_ne_zero hi0
              have e6 : ((H.length : Nat) : Int) - ((H.length - (q + 1) : Nat) : Int) = ((q + 1 : Nat) : Int) := by omega
              rw [decide_eq_false (show ¬ H.length - (q + 1) = H.length by omega), oite_f, f351_e k (by omega) hr (by omega)]
              simp only [obnd_s, imin_e]
              rw [wr (n := ((H.length : Nat) : Int) - ((H.length - (q + 1) : Nat) : Int)) (by omega) (by omega), hd_ilt k]
              have hpp := hos q (lo + (a : Int)) b
              cases hh : hdB lo up M H r d (H.length - (q + 1)) (lo + (a : Int)) with
              | false =>
                rw [hh] at hpp
                rw [part_skip (c := c) (p := cel lo M (wko O (q + 1))) (by rw [hcw]; unfold wko; rw [hpp]; rfl), part_skip (c := c) (p := cel lo M (sko O (q + 1))) (by rw [hcs]; unfold sko; rw [hpp]; rfl)]; rfl
              | true =>
                rw [hh] at hpp
                simp only [Bool.not_true, oite_f]
                have hoj := fun j : Nat => optJ_s (lo := lo) (up := up) (M := M) (H := H) (ok := O q) (t := H.length - (q + 1)) (b := b) (j := j) (x := lo + (a : Int))
                have hoJb : ∀ j z, j ≤ M.length → optJ lo up M H (O q) (H.length - (q + 1)) (lo + (a : Int)) b j = some z → -30000000000 ≤ z ∧ z ≤ 30000000000 := by
                  intro j z hj hz
                  obtain ⟨j', z', h1, h2, h3, rfl⟩ := optJ_at j hz
                  have h4 := inR_p h2
                  have h5 := hob q _ _ _ (by omega) h4.1 h4.2 h3
                  have h6 := rev_b k (b := b) (show H.length - (q + 1) < H.length by omega) (show j' < M.length by omega)
                  omega
                refine oloop_all (fun j => ((j : Int), (part (cel lo M (wko O (q + 1))) (fun _ => (0 : Int)) c (nc lo up M)).set c ((optJ lo up M H (O q) (H.length - (q + 1)) (lo + (a : Int)) b j).getD 0), (part (cel lo M (sko O (q + 1))) (fun _ => false) c (nc lo up M)).set c (optJ lo up M H (O q) (H.length - (q + 1)) (lo + (a : Int)) b j).isSome)) M.length ?_ ?_ ?_
                · rw [part_same (by rfl), part_same (by rfl)]; rfl
                · intro j hj
                  have hh1 := k.hour (H.length - (q + 1)) (by omega)
                  have hm1 := k.mode j hj
                  have e5 : ((H.length - (q + 1) : Nat) : Int) + 1 = ((H.length - q : Nat) : Int) := by omega
                  simp only [decide_eq_true (show ((j : Nat) : Int) < ((M.length : Nat) : Int) by omega), oite_t, decide_eq_true (Int.natCast_nonneg _), ogrd_t, Int.toNat_natCast, get_gh (show H.length - (q + 1) < H.length by omega), get_gm hj, obnd_s]
                  rw [wr (n := lo + (a : Int) + (gh H (H.length - (q + 1))).2.2) (by omega) (by omega), wr (n := lo + (a : Int) + (gh H (H.length - (q + 1))).2.2 + (gm M j).2.1) (by omega) (by omega), aft_n, f15_e]
                  simp only [obnd_s]
                  rw [show (decide (lo ≤ aft M H (lo + (a : Int)) (H.length - (q + 1)) j) && decide (aft M H (lo + (a : Int)) (H.length - (q + 1)) j ≤ up)) = inR lo up (aft M H (lo + (a : Int)) (H.length - (q + 1)) j) from rfl, hoj j]
                  cases hin : inR lo up (aft M H (lo + (a : Int)) (H.length - (q + 1)) j) with
                  | false =>
                    simp only [Bool.not_false, oite_t, Bool.false_and, cond_false]
                    rw [wr (n := (j : Int) + 1) (by omega) (by omega)]; rfl
                  | true =>
                    have hp := inR_p hin
                    have hrv := rev_b k (b := b) (show H.length - (q + 1) < H.length by omega) hj
                    simp only [Bool.not_true, oite_f, Bool.true_and]
                    rw [f349_e k hp.1 hp.2 hj]
                    simp only [obnd_s]
                    rw [wr (n := ((H.length - (q + 1) : Nat) : Int) + 1) (by omega) (by omega), e5, decide_eq_true (Int.natCast_nonneg _), ogrd_t, decide_eq_true (show ((H.length - q : Nat) : Int) < ((H.length + 1 : Nat) : Int) by omega), ogrd_t, Int.toNat_natCast]
                    rw [show Nat.beq (H.length - (q + 1)) (H.length - q) = false by rw [Bool.eq_false_iff]; intro h; have := Nat.eq_of_beq_eq_true h; omega]
                    simp only [Bool.not_false, ogrd_t]
                    rw [outS_get (p := wko O) (by omega) (by omega), outS_get (p := sko O) (by omega) (by omega), show H.length - (H.length - q) = q by omega]
                    simp only [obnd_s]
                    rw [decide_eq_true (Int.natCast_nonneg _), ogrd_t, Int.toNat_natCast, row_get hp.1 hp.2 hj, row_get hp.1 hp.2 hj]
                    simp only [obnd_s]
                    rw [f350_e k (by omega) hj]
                    simp only [obnd_s, List.length_set, part_len, blt_t hc, ogrd_t]
                    rw [List.getElem?_set_self (by rw [part_len]; exact hc), List.getElem?_set_self (by rw [part_len]; exact hc)]
                    simp only [obnd_s, List.set_set]
                    rw [wr (n := (j : Int) + 1) (by omega) (by omega)]
                    unfold sko wko
                    cases hO1 : O q (aft M H (lo + (a : Int)) (H.length - (q + 1)) j) j with
                    | none => rfl
                    | some y =>
                      have hy := hob q _ _ _ (by omega) hp.1 hp.2 hO1
                      simp only [Option.isSome_some, Option.getD_some, oite_t, Bool.true_and]
                      have e7 := wr (n := rev M H (H.length - (q + 1)) b j + y) (by omega) (by omega)
                      simp only [e7]
                      cases hO2 : optJ lo up M H (O q) (H.length - (q + 1)) (lo + (a : Int)) b j with
                      | none => rfl
                      | some z =>
                        simp only [Option.isSome_some, Option.getD_some, Bool.not_true, oite_f, obnd_s, Bool.false_or]
                        cases decide (z < rev M H (H.length - (q + 1)) b j + y) <;> rfl
                · simp only [Int.lt_irrefl, decide_false, oite_f]
                  rw [part_set (by rw [hcw]; unfold wko; rw [hpp]; rfl), part_set (by rw [hcs]; unfold sko; rw [hpp]; rfl)]
          · try simp only
            rw [wr (n := (c : Int) + 1) (by omega) (by omega)]; rfl
        · simp only [Int.lt_irrefl, decide_false, oite_f]
          unfold row
          rw [part_n, part_n]
      · try simp only
        rw [row_len, row_len, show Nat.beq (nc lo up M) (nc lo up M) = true from Nat.beq_refl _, ogrd_t, ogrd_t, outS_set (by omega), outS_set (by omega), wr (n := ((H.length - i : Nat) : Int) - 1) (by omega) (by omega), show ((H.length - i : Nat) : Int) - 1 = (H.length : Int) - ((i + 1 : Nat) : Int) by omega]
    · have : ¬ (0 : Int) ≤ (H.length : Int) - ((H.length + 1 : Nat) : Int) := by omega
      rw [ile_eq, decide_eq_false this, oite_f]
  · simp only [Int.toNat_natCast, ilt_eq, ile_eq, ieq_eq]
    rw [decide_eq_true (show (0 : Int) < ((H.length + 1 : Nat) : Int) by omega), ogrd_t, show ((0 : Int)).toNat = 0 from rfl, outS_get (Nat.zero_le _) (by omega), outS_get (Nat.zero_le _) (by omega)]
    simp only [obnd_s]
    rw [em, f349_e k k.vlo k.vhi hmn]
    simp only [obnd_s, decide_eq_true (Int.natCast_nonneg _), ogrd_t, Int.toNat_natCast, Nat.sub_zero]
    rw [row_get k.vlo k.vhi hmn, row_get k.vlo k.vhi hmn]
    simp only [obnd_s]
    unfold sko wko
    cases hO1 : O H.length v m.toNat with
    | none =>
      simp only [Option.isSome_none, oite_f, obnd_s, cond_false]
      rw [oloop_done (r := ([] : List Int))]
      · rfl
      · have h0 := k.hpos
        simp only
        rw [decide_eq_true (show (0 : Int) < ((H.length : Nat) : Int) by omega)]; rfl
    | some y0 =>
      simp only [Option.isSome_some, oite_t, obnd_s, cond_true, Option.getD_some]
      rw [← em]
      have hw := walkIn k (t := tstO lo up M H O) tstO_in
      have hwk := hwk (by rw [hO1]; rfl)
      refine (obnd_of (a := (walkP M H v m (tstO lo up M H O) H.length).1) ?_).trans rfl
      refine oloop_all (fun i => ((walkP M H v m (tstO lo up M H O) i).1, (walkP M H v m (tstO lo up M H O) i).2.1, ((walkP M H v m (tstO lo up M H O) i).2.2 : Int), (i : Int))) H.length ?_ ?_ ?_
      · simp only [walkP, ← em]; rfl
      · intro i hi'
        obtain ⟨⟨hx1, hx2⟩, hb, hpl⟩ := hw i
        obtain ⟨_, hsm, _⟩ := hwk i (by omega)
        simp only [walkP]
        generalize hS : walkP M H v m (tstO lo up M H O) i = S at *
        obtain ⟨pl, x, b⟩ := S
        simp only at hx1 hx2 hb hpl hsm ⊢
        obtain ⟨z0, hz0⟩ := Option.isSome_iff_exists.1 hsm
        simp only [decide_eq_true (show ((i : Nat) : Int) < ((H.length : Nat) : Int) by omega), oite_t, decide_eq_true (Int.natCast_nonneg _), ogrd_t, get_gh hi', obnd_s]
        refine (obnd_of (a := match pickN (tstO lo up M H O i x b) M.length with
          | some j => (pl ++ [(j : Int)], aft M H x i j, (j : Int))
          | none => (pl, x, (b : Int))) ?_).trans ?_
        · rw [oloop_scanB (fun j => (j : Int)) M.length (tstO lo up M H O i x b) (fun j => (pl ++ [(j : Int)], aft M H x i j, (j : Int))) (d := (pl, x, (b : Int))) (e0 := (0 : Int)) rfl ?_ ?_, pick_map]
          · cases pickN (tstO lo up M H O i x b) M.length <;> rfl
          · intro j hj
            have hh1 := k.hour i hi'
            have hm1 := k.mode j hj
            simp only [decide_eq_true (show ((j : Nat) : Int) < ((M.length : Nat) : Int) by omega), oite_t, decide_eq_true (Int.natCast_nonneg _), ogrd_t, Int.toNat_natCast, get_gh hi', get_gm hj, obnd_s]
            rw [wr (n := x + (gh H i).2.2) (by omega) (by omega), wr (n := x + (gh H i).2.2 + (gm M j).2.1) (by omega) (by omega), aft_n, f15_e]
            simp only [obnd_s]
            rw [show (decide (lo ≤ aft M H x i j) && decide (aft M H x i j ≤ up)) = inR lo up (aft M H x i j) from rfl]
            unfold tstO
            cases hin : inR lo up (aft M H x i j) with
            | false => simp (disch := omega) only [obnd_s, obnd_n, oite_ss, oite_t, oite_f, ogrd_t, ogrd_f, obndS_l, obndS_r, ilt_eq, ile_eq, ieq_eq, imax_e, imin_e, k0, k1, k2, k3, k4, k5, k6, k7, k8, k9, reduceIte, k10, k11, k12, k13, k14, k15, k16, k17, k18, k19, k20, k21, k22, k23, k24, k25, k26, k27, k28, wr]; rfl
            | true =>
              have hp := inR_p hin
              have hrv := rev_b k (b := b) hi' hj
              simp only [Bool.not_true, oite_f, Bool.true_and]
              rw [f349_e k hp.1 hp.2 hj]
              simp only [obnd_s]
              rw [wr (n := (i : Int) + 1) (by omega) (by omega), show (i : Int) + 1 = ((i + 1 : Nat) : Int) by omega, decide_eq_true (Int.natCast_nonneg _), ogrd_t, decide_eq_true (show ((i + 1 : Nat) : Int) < ((H.length + 1 : Nat) : Int) by omega), ogrd_t, Int.toNat_natCast, outS_get (by omega) (by omega), outS_get (by omega) (by omega)]
              simp only [obnd_s]
              rw [decide_eq_true (Int.natCast_nonneg _), ogrd_t, Int.toNat_natCast, row_get hp.1 hp.2 hj, row_get hp.1 hp.2 hj]
              simp only [obnd_s]
              rw [decide_eq_true (show ((i : Nat) : Int) < ((H.length + 1 : Nat) : Int) by omega), ogrd_t, outS_get (by omega) (by omega)]
              simp only [obnd_s]
              rw [f350_e k hi' hj]
              simp only [obnd_s]
              rw [f349_e k hx1 hx2 hb]
              simp only [obnd_s, decide_eq_true (Int.natCast_nonneg _), ogrd_t, Int.toNat_natCast]
              rw [row_get hx1 hx2 hb]
              simp only [obnd_s]
              rw [hz0]
              cases hO3 : O (H.length - (i + 1)) (aft M H x i j) j with
              | none =>
                simp only [Option.isSome_none, oite_f, obnd_s, cond_false]
                rw [wr (n := (j : Int) + 1) (by omega) (by omega)]; rfl
              | some y =>
                have hy := hob _ _ _ _ (by omega) hp.1 hp.2 hO3
                simp only [Option.isSome_some, oite_t, obnd_s, Option.getD_some]
                have e7 := wr (n := rev M H i b j + y) (by omega) (by omega)
                simp only [e7]
                rw [wr (n := (j : Int) + 1) (by omega) (by omega), ogrd_fits (by simp; omega) (by simp; omega)]
                have e9 : decide (some z0 = some (rev M H i b j + y)) = decide (rev M H i b j + y = z0) := by
                  rw [Bool.eq_iff_iff, decide_eq_true_eq, decide_eq_true_eq, Option.some.injEq]; exact eq_comm
                rw [e9]
                cases decide (rev M H i b j + y = z0) <;> rfl
          · simp (disch := omega) only [obnd_s, obnd_n, oite_ss, oite_t, oite_f, ogrd_t, ogrd_f, obndS_l, obndS_r, ilt_eq, ile_eq, ieq_eq, imax_e, imin_e, k0, k1, k2, k3, k4, k5, k6, k7, k8, k9, reduceIte, k10, k11, k12, k13, k14, k15, k16, k17, k18, k19, k20, k21, k22, k23, k24, k25, k26, k27, k28, Int.lt_irrefl]
        · rw [wr (n := (i : Int) + 1) (by omega) (by omega)]
          cases pickN (tstO lo up M H O i x b) M.length <;> rfl
      · simp (disch := omega) only [obnd_s, obnd_n, oite_ss, oite_t, oite_f, ogrd_t, ogrd_f, obndS_l, obndS_r, ilt_eq, ile_eq, ieq_eq, imax_e, imin_e, k0, k1, k2, k3, k4, k5, k6, k7, k8, k9, reduceIte, k10, k11, k12, k13, k14, k15, k16, k17, k18, k19, k20, k21, k22, k23, k24, k25, k26, k27, k28, Int.lt_irrefl]
theorem f315_e (hM : M.length < 4611686018427387904) (r d : Int) : f315 lo up M r d = some (hldE M r d) := by
  unfold f315 hldE isM
  rw [List.length_map, wr (by omega) (by omega), f15_e, f15_e]
  cases (decide (0 ≤ r) && decide (r ≤ (M.length : Int) - 1)) <;> cases (decide (0 ≤ d) && decide (d ≤ 10)) <;> rfl
theorem f299_true (hA : f198 = some true) (r d : Int) : f299 lo up M v m w H r d = some true := by
  unfold f299
  rw [hA]
  simp only [obnd_s, Bool.not_true, oite_f, List.length_map, ilt_eq, ieq_eq]
  obtain ⟨b, hb, hb'⟩ := f307_e (lo := lo) (up := up) (M := M)
  rw [hb, f308_e]
  cases b with
  | false => rfl
  | true =>
    obtain ⟨hM7, hs20⟩ := hb' rfl
    cases h1 : decide (H.length ≤ 12) with
    | false => rfl
    | true =>
      have h1 := of_decide_eq_true h1
      have hM1 : M.length < 4611686018427387904 := by omega
      have hs : ∀ p, p ∈ M → p.1.size < 4611686018427387904 := fun p hp => by have := hs20 p hp; omega
      have hH : H.length < 4611686018427387904 := by omega
      simp only [obnd_s, Bool.not_true, oite_f]
      rw [f309_e (show M.length ≤ 1000000000 by omega), f310_e (show H.length ≤ 1000000000 by omega)]
      simp only [obnd_s]
      rw [f314_e hM1 hs hH, f311_e hM1 hs hH, f315_e hM1]
      simp only [obnd_s]
      cases h3 : decide ((ckT lo up M v m w H).2 = 0) with
      | false =>
        simp only [oite_f, obnd_s, h3, Bool.not_false, oite_t, cond_true, decide_true, List.length_nil]
        rfl
      | true =>
        have k := (ckT_0 (of_decide_eq_true h3)).2
        simp only [oite_t, obnd_s, Bool.not_true, cond_false]
        cases h4 : decide (hldE M r d = 0) with
        | false =>
          simp only [Bool.not_false, oite_t, cond_true, decide_true, obnd_s, List.length_nil]
          rfl
        | true =>
          obtain ⟨⟨j, hj, rfl⟩, hd1⟩ := hldE_0 (of_decide_eq_true h4)
          simp only [Bool.not_true, oite_f, cond_false]
          rw [f316_e k hj hd1]
          simp only [obnd_s]
          cases h5 : opt lo up M H w (hdB lo up M H j d) H.length v m.toNat with
          | none =>
            simp only [Option.isSome_none, cond_false]
            rfl
          | some y =>
            have hw := walk_eq (hd := hdB lo up M H j d) k (by rw [h5]; rfl) H.length (Nat.le_refl _)
            have hp := pot_some k (Nat.le_refl _) k.vlo k.vhi h5
            simp only [pp, Option.isSome_some, cond_true, Option.getD_some]
            simp only [hw.1, hp.1]
            simp only [decide_true, oite_t, obnd_s]
            rw [f26_refl (by rw [hw.2.2]; omega)]
            rfl
end
end
end Go.Proofs.YtmbekcealcjabaaGreat.AM
