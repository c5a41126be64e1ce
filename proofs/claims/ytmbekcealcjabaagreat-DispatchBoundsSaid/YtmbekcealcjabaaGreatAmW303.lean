/- Plain law: DispatchBounds, from chapter 8's examples (f198). Conditions: none. -/
import Derived.Test.YtmbekcealcjabaaGreatAmQ3
import Derived.Test.YtmbekcealcjabaaGreatAmQC
namespace Go.Proofs.YtmbekcealcjabaaGreat.AM
section
set_option linter.unusedSimpArgs false
set_option linter.unusedVariables false
open Go Go.RowKit

theorem f307_e {lo up : Int} {M : List (ByteArray × Int × Int × Int)} : ∃ b, f307 lo up M = some b ∧ (b = true → M.length ≤ 7 ∧ ∀ p, p ∈ M → p.1.size ≤ 20) := by
  unfold f307
  simp only [List.length_map, ilt_eq]
  cases h1 : decide ((7 : Int) < ((M.length : Nat) : Int)) with
  | true => exact ⟨false, rfl, fun h => by cases h⟩
  | false =>
    have h1 := of_decide_eq_false h1
    rw [oite_f, oloop_scanB (fun i => (i : Int)) M.length (fun i => decide (20 < (gm M i).1.size)) (fun _ => .inr false) (d := .inl ()) (e0 := 0) rfl ?_ ?_]
    · cases h2 : scanF (fun i => bif decide (20 < (gm M i).1.size) then some (Sum.inr false : Unit ⊕ Bool) else none) M.length 0 with
      | none =>
        refine ⟨true, rfl, fun _ => ⟨by omega, fun p hp => ?_⟩⟩
        obtain ⟨i, hi, rfl⟩ := List.getElem_of_mem hp
        have := scanF_none h2 i (Nat.zero_le _) (by omega)
        unfold gm at this
        rw [getD_i hi] at this
        by_cases h3 : 20 < M[i].1.size
        · rw [decide_eq_true h3] at this; cases this
        · omega
      | some r =>
        have : r = .inr false := by
          rw [scan_c] at h2
          cases h4 : anyN (fun i => decide (20 < (gm M i).1.size)) M.length 0 with
          | true => rw [h4] at h2; injection h2 with h2; exact h2.symm
          | false => rw [h4] at h2; cases h2
        subst this
        exact ⟨false, rfl, fun h => by cases h⟩
    · intro i hi
      have e : decide ((20 : Int) < (((gm M i).1.size : Nat) : Int)) = decide (20 < (gm M i).1.size) := by rw [Bool.eq_iff_iff, decide_eq_true_eq, decide_eq_true_eq]; omega
      simp (disch := omega) only [obnd_s, obnd_n, oite_ss, oite_t, oite_f, ogrd_t, ogrd_f, obndS_l, obndS_r, ilt_eq, ile_eq, ieq_eq, imax_e, imin_e, k0, k1, k2, k3, k4, k5, k6, k7, k8, k9, reduceIte, k10, k11, k12, k13, k14, k15, k16, k17, k18, k19, k20, k21, k22, k23, k24, k25, k26, k27, k28, hi, get_gm hi, wr, e]; rfl
    · simp (disch := omega) only [obnd_s, obnd_n, oite_ss, oite_t, oite_f, ogrd_t, ogrd_f, obndS_l, obndS_r, ilt_eq, ile_eq, ieq_eq, imax_e, imin_e, k0, k1, k2, k3, k4, k5, k6, k7, k8, k9, reduceIte, k10, k11, k12, k13, k14, k15, k16, k17, k18, k19, k20, k21, k22, k23, k24, k25, k26, k27, k28, Int.lt_irrefl]
theorem f308_e {v m w : Int} {H : List (Int × Int × Int)} : f308 v m w H = some (decide (H.length ≤ 12)) := by
  unfold f308
  rw [List.length_map, ile_eq]
  congr 1; rw [Bool.eq_iff_iff, decide_eq_true_eq, decide_eq_true_eq]; omega
theorem f309_e {lo up : Int} {M : List (ByteArray × Int × Int × Int)} (h : M.length ≤ 1000000000) : f309 lo up M = some (lo, up, M) := by
  unfold f309; rw [ogrd_fits (by simp; omega) (by simp; omega)]; rfl
theorem f310_e {v m w : Int} {H : List (Int × Int × Int)} (h : H.length ≤ 1000000000) : f310 v m w H = some (v, m, w, H) := by
  unfold f310; rw [ogrd_fits (by simp; omega) (by simp; omega)]; rfl
theorem f355_e (n : Int) : f355 n = some (s4 n) := by unfold f355; rw [f15_e]; rfl
theorem f364_e {l : List ByteArray} (s : ByteArray) (hl : l.length < 4611686018427387904) : f364 l s = some (l.any fun x => x.toList == s.toList) := by
  unfold f364
  rw [oloop_scanB (fun i => (i : Int)) l.length (fun i => (l.getD i ⟨#[]⟩).toList == s.toList) (fun _ => .inr true) (d := .inl ()) (e0 := 0) rfl ?_ ?_, scan_anyB (fun x => x.toList == s.toList) ⟨#[]⟩ (Sum.inr true : Unit ⊕ Bool) l]
  · cases l.any (fun x => x.toList == s.toList) <;> rfl
  · intro i hi
    rw [getD_i hi]
    simp (disch := omega) only [obnd_s, obnd_n, oite_ss, oite_t, oite_f, ogrd_t, ogrd_f, obndS_l, obndS_r, ilt_eq, ile_eq, ieq_eq, imax_e, imin_e, k0, k1, k2, k3, k4, k5, k6, k7, k8, k9, reduceIte, k10, k11, k12, k13, k14, k15, k16, k17, k18, k19, k20, k21, k22, k23, k24, k25, k26, k27, k28, hi, get_i hi, wr]; rfl
  · simp (disch := omega) only [obnd_s, obnd_n, oite_ss, oite_t, oite_f, ogrd_t, ogrd_f, obndS_l, obndS_r, ilt_eq, ile_eq, ieq_eq, imax_e, imin_e, k0, k1, k2, k3, k4, k5, k6, k7, k8, k9, reduceIte, k10, k11, k12, k13, k14, k15, k16, k17, k18, k19, k20, k21, k22, k23, k24, k25, k26, k27, k28, Int.lt_irrefl]
theorem f354_e {s : ByteArray} {c e z : Int} {l : List ByteArray} (hs : s.size < 4611686018427387904) (hl : l.length < 4611686018427387904) :
    f354 s c e z l = some (bif !nameB s then 4 else bif l.any (fun x => x.toList == s.toList) then 5 else bif !(s4 c && s4 e && z4 z) then 2 else 0) := by
  unfold f354
  rw [f91_e hs, f364_e s hl]
  simp only [obnd_s, f15_e]
  rw [show (decide (-10000 ≤ c) && decide (c ≤ 10000)) = s4 c from rfl, show (decide (-10000 ≤ e) && decide (e ≤ 10000)) = s4 e from rfl, show (decide (0 ≤ z) && decide (z ≤ 10000)) = z4 z from rfl]
  cases nameB s <;> cases l.any (fun x => x.toList == s.toList) <;> cases s4 c <;> cases s4 e <;> cases z4 z <;> rfl
def nms (M : List (ByteArray × Int × Int × Int)) (i : Nat) : List ByteArray := (M.take i).map (·.1)
theorem nms_len {M : List (ByteArray × Int × Int × Int)} {i : Nat} : (nms M i).length ≤ i := by simp [nms]; omega
theorem nms_s {M : List (ByteArray × Int × Int × Int)} {i : Nat} (h : i < M.length) : nms M i ++ [(gm M i).1] = nms M (i + 1) := by
  unfold nms
  rw [List.take_add_one, get_gm h, List.map_append]; rfl
theorem nms_any {M : List (ByteArray × Int × Int × Int)} {i : Nat} : (nms M i).any (fun x => x.toList == (gm M i).1.toList) = knownM M i := by
  unfold nms knownM; rw [List.any_map]; rfl
theorem f325_e {lo up : Int} {M : List (ByteArray × Int × Int × Int)} (hM : M.length < 4611686018427387904) (hs : ∀ p, p ∈ M → p.1.size < 4611686018427387904) : f325 lo up M = some (ckP lo up M) := by
  unfold f325 ckP
  simp only [obnd_s, f15_e, List.length_map, ilt_eq, ile_eq, ieq_eq]
  rw [show (decide (0 ≤ lo) && decide (lo ≤ 1000000)) = vol lo from rfl, show (decide (0 ≤ up) && decide (up ≤ 1000000)) = vol up from rfl]
  cases h1 : vol lo with
  | false => unfold pltE; rw [h1]; rfl
  | true =>
    cases h2 : vol up with
    | false => unfold pltE; rw [h1, h2]; rfl
    | true =>
      have h3 := vol_p h1; have h4 := vol_p h2
      simp only [Bool.not_true, oite_f, obnd_s]
      have e1 : decide (up < lo) = !decide (lo ≤ up) := by rw [← decide_not]; congr 1; exact propext (by omega)
      have e2 : decide ((40 : Int) ≤ up - lo) = !decide (up - lo < 40) := by rw [← decide_not]; congr 1; exact propext (by omega)
      have e3 : decide (((M.length : Nat) : Int) = 0) = !decide ((0 : Int) < ((M.length : Nat) : Int)) := by rw [← decide_not]; congr 1; exact propext (by omega)
      have e4 : decide ((5 : Int) < ((M.length : Nat) : Int)) = !decide (((M.length : Nat) : Int) ≤ 5) := by rw [← decide_not]; congr 1; exact propext (by omega)
      rw [wr (n := up - lo) (by omega) (by omega), e1, e2, e3, e4]
      unfold pltE
      rw [h1, h2]
      cases decide (lo ≤ up) with
      | false => rfl
      | true =>
        cases decide (up - lo < 40) with
        | false => rfl
        | true =>
          cases decide ((0 : Int) < ((M.length : Nat) : Int)) with
          | false => rfl
          | true =>
            cases h5 : decide (((M.length : Nat) : Int) ≤ 5) with
            | false => rfl
            | true =>
              have h5 := of_decide_eq_true h5
              simp only [Bool.not_true, oite_f, Bool.and_self, cond_false, decide_true]
              rw [oloop_scanB (fun i => (nms M i, (i : Int))) M.length (fun i => !decide (modE M i = 0)) (fun i => .inr ((i : Int), modE M i)) (d := .inl ()) (e0 := (([] : List ByteArray), (0 : Int))) rfl ?_ ?_, errs_scan (modE M) M.length (Sum.inr : Int × Int → Unit ⊕ (Int × Int))]
              · cases errs (modE M) M.length <;> rfl
              · intro i hi
                have hn := hs (gm M i) (by unfold gm; rw [getD_i hi]; exact List.getElem_mem hi)
                have hl := nms_len (M := M) (i := i)
                simp (disch := omega) only [obnd_s, obnd_n, oite_ss, oite_t, oite_f, ogrd_t, ogrd_f, obndS_l, obndS_r, ilt_eq, ile_eq, ieq_eq, imax_e, imin_e, k0, k1, k2, k3, k4, k5, k6, k7, k8, k9, reduceIte, k10, k11, k12, k13, k14, k15, k16, k17, k18, k19, k20, k21, k22, k23, k24, k25, k26, k27, k28, hi, get_gm hi, wr]
                rw [f354_e hn (by omega), nms_any, show (bif !nameB (gm M i).1 then (4 : Int) else bif knownM M i then 5 else bif !(s4 (gm M i).2.1 && s4 (gm M i).2.2.1 && z4 (gm M i).2.2.2) then 2 else 0) = modE M i from rfl]
                simp only [obnd_s]
                rw [ogrd_fits (by simp; omega) (by simp; omega), nms_s hi]
                cases decide (modE M i = 0) <;> rfl
              · simp (disch := omega) only [obnd_s, obnd_n, oite_ss, oite_t, oite_f, ogrd_t, ogrd_f, obndS_l, obndS_r, ilt_eq, ile_eq, ieq_eq, imax_e, imin_e, k0, k1, k2, k3, k4, k5, k6, k7, k8, k9, reduceIte, k10, k11, k12, k13, k14, k15, k16, k17, k18, k19, k20, k21, k22, k23, k24, k25, k26, k27, k28, Int.lt_irrefl]
theorem f326_e {lo up v m w : Int} {M : List (ByteArray × Int × Int × Int)} {H : List (Int × Int × Int)} (hM : M.length < 4611686018427387904) (hs : ∀ p, p ∈ M → p.1.size < 4611686018427387904) (hH : H.length < 4611686018427387904) : f326 lo up M v m w H = some (ckT lo up M v m w H) := by
  unfold f326 ckT f347
  have hw : IntKind.i64.wrap ((M.length : Int) - 1) = (M.length : Int) - 1 := wr (by omega) (by omega)
  simp only [f325_e hM hs, obnd_s, f15_e, f355_e, List.length_map, ile_eq, ilt_eq, ieq_eq, hw]
  cases h1 : decide ((ckP lo up M).2 = 0) with
  | false => rfl
  | true =>
    have e3 : decide (((H.length : Nat) : Int) = 0) = !decide ((0 : Int) < ((H.length : Nat) : Int)) := by rw [← decide_not]; congr 1; exact propext (by omega)
    have e4 : decide ((10 : Int) < ((H.length : Nat) : Int)) = !decide (((H.length : Nat) : Int) ≤ 10) := by rw [← decide_not]; congr 1; exact propext (by omega)
    rw [e3, e4]
    unfold tskE
    cases (decide (lo ≤ v) && decide (v ≤ up)) with
    | false => rfl
    | true =>
      cases (decide (0 ≤ m) && decide (m ≤ (M.length : Int) - 1)) with
      | false => rfl
      | true =>
        cases s4 w with
        | false => rfl
        | true =>
          cases decide ((0 : Int) < ((H.length : Nat) : Int)) with
          | false => rfl
          | true =>
            cases decide (((H.length : Nat) : Int) ≤ 10) with
            | false => rfl
            | true =>
              simp only [Bool.not_true, oite_f, cond_false, decide_true]
              rw [oloop_scanB (fun i => (i : Int)) H.length (fun i => !decide (hourE H i = 0)) (fun i => .inr ((i : Int), hourE H i)) (d := .inl ()) (e0 := 0) rfl ?_ ?_, errs_scan (hourE H) H.length (Sum.inr : Int × Int → Unit ⊕ (Int × Int))]
              · cases errs (hourE H) H.length <;> rfl
              · intro i hi
                have e5 : decide ((gh H i).1 < (gh H i).2.1) = !decide ((gh H i).2.1 ≤ (gh H i).1) := by rw [← decide_not]; congr 1; exact propext (by omega)
                simp (disch := omega) only [obnd_s, obnd_n, oite_ss, oite_t, oite_f, ogrd_t, ogrd_f, obndS_l, obndS_r, ilt_eq, ile_eq, ieq_eq, imax_e, imin_e, k0, k1, k2, k3, k4, k5, k6, k7, k8, k9, reduceIte, k10, k11, k12, k13, k14, k15, k16, k17, k18, k19, k20, k21, k22, k23, k24, k25, k26, k27, k28, hi, get_gh hi, wr, e5]
                unfold hourE
                cases s4 (gh H i).1 <;> cases s4 (gh H i).2.1 <;> cases s4 (gh H i).2.2 <;> cases decide ((gh H i).2.1 ≤ (gh H i).1) <;> rfl
              · simp (disch := omega) only [obnd_s, obnd_n, oite_ss, oite_t, oite_f, ogrd_t, ogrd_f, obndS_l, obndS_r, ilt_eq, ile_eq, ieq_eq, imax_e, imin_e, k0, k1, k2, k3, k4, k5, k6, k7, k8, k9, reduceIte, k10, k11, k12, k13, k14, k15, k16, k17, k18, k19, k20, k21, k22, k23, k24, k25, k26, k27, k28, Int.lt_irrefl]
theorem f311_e {lo up v m w : Int} {M : List (ByteArray × Int × Int × Int)} {H : List (Int × Int × Int)} (hM : M.length < 4611686018427387904) (hs : ∀ p, p ∈ M → p.1.size < 4611686018427387904) (hH : H.length < 4611686018427387904) : f311 lo up M v m w H = some (ckT lo up M v m w H).2 := by
  unfold f311; rw [f326_e hM hs hH]; rfl
end
section
set_option linter.unusedSimpArgs false
set_option linter.unusedVariables false
open Go Go.RowKit

section
variable {lo up v m w : Int} {M : List (ByteArray × Int × Int × Int)} {H : List (Int × Int × Int)} {P : List Int}
theorem f350_e (k : okT lo up M v m w H) {t b j : Nat} (ht : t < H.length) (hj : j < M.length) : f350 lo up M (gh H t).1 (gh H t).2.1 (gh H t).2.2 (j : Int) (b : Int) = some (rev M H t b j) := by
  have a := k.hour t ht
  have c := k.mode j hj
  unfold f350
  have h1 := mul_b c.2.1 a.1
  have h2 := mul_b c.2.1 a.2.1
  simp only [ile_eq, ilt_eq, ieq_eq, Int.toNat_natCast, get_gm hj, obnd_s, oite_ss, decide_eq_true (Int.natCast_nonneg j), ogrd_t, ceqN]
  rw [wr (n := (gm M j).2.2.1 * (gh H t).2.1) (by omega) (by omega), wr (n := (gm M j).2.2.1 * (gh H t).1) (by omega) (by omega)]
  have e : decide (j = b) = decide (b = j) := by rw [Bool.eq_iff_iff, decide_eq_true_eq, decide_eq_true_eq]; exact eq_comm
  unfold rev
  rw [e]
  cases decide (0 < (gm M j).2.2.1) with
  | true =>
    simp only [cond_true]
    rw [wr (by omega) (by omega)]
    cases decide (b = j) <;> simp
  | false =>
    simp only [cond_false]
    rw [wr (by omega) (by omega)]
    cases decide (b = j) <;> simp
end
end
section
set_option linter.unusedSimpArgs false
set_option linter.unusedVariables false
open Go Go.RowKit

section
variable {lo up v m w : Int} {M : List (ByteArray × Int × Int × Int)} {H : List (Int × Int × Int)} {L : List (List Int)}
theorem f349_e (k : okT lo up M v m w H) {x : Int} {b : Nat} (h1 : lo ≤ x) (h2 : x ≤ up) (hb : b < M.length) : f349 lo up M x (b : Int) = some (((x - lo).toNat * M.length + b : Nat) : Int) := by
  have a := k.lo0; have a1 := k.hi1
  have h := cell_lt (lo := lo) (up := up) (M := M) (a := (x - lo).toNat) (b := b) (by omega) hb
  have hn := (nc_b k).2
  unfold f349
  rw [List.length_map, wr (n := x - lo) (by omega) (by omega)]
  have e : (x - lo) * (M.length : Int) = (((x - lo).toNat * M.length : Nat) : Int) := by
    rw [Int.natCast_mul, Int.toNat_of_nonneg (by omega)]
  rw [e, wr (n := (((x - lo).toNat * M.length : Nat) : Int)) (by omega) (by omega), wr (by omega) (by omega)]
  rfl
theorem cnt_e (k : okT lo up M v m w H) : IntKind.i64.wrap ((IntKind.i64.wrap ((IntKind.i64.wrap (up - lo)) + (1 : Int))) * ((M.length : Nat) : Int)) = ((nc lo up M : Nat) : Int) := by
  have a := k.lo0; have a1 := k.hi1; have a2 := k.lohi
  have hn := (nc_b k).2
  rw [wr (n := up - lo) (by omega) (by omega), wr (n := up - lo + 1) (by omega) (by omega)]
  have e : (up - lo + 1) * (M.length : Int) = ((nc lo up M : Nat) : Int) := by
    unfold nc
    rw [Int.natCast_mul, Int.natCast_add, Int.toNat_of_nonneg (by omega)]; rfl
  rw [e, wr (by omega) (by omega)]
theorem tdiv_n {a b : Nat} : ((a : Int)).tdiv (b : Int) = ((a / b : Nat) : Int) := by
  rw [Int.tdiv_eq_ediv_of_nonneg (by omega)]; rfl
theorem tmod_n {a b : Nat} : ((a : Int)).tmod (b : Int) = ((a % b : Nat) : Int) := by
  rw [Int.tmod_eq_emod_of_nonneg (by omega)]; rfl
theorem f333_e (k : okT lo up M v m w H) (hL : few L) : f333 lo up M v m w H L = some (ckB lo up M v m w H L) := by
  have hlo := k.lo0; have hhi := k.hi1; have hf := k.hfew; have hmp := k.mpos; have hmf := k.mfew; have hlh := k.lohi; have hsp := k.span
  have hm0 := k.m0; have hm1 := k.m1
  obtain ⟨hc0, hc1⟩ := nc_b k
  have hl13 := hL.1
  have e3 : ((H.length : Nat) : Int) + 1 = ((H.length + 1 : Nat) : Int) := by omega
  unfold f333
  simp only [List.length_map]
  rw [wr (n := ((H.length : Nat) : Int) + 1) (by omega) (by omega), e3, cnt_e k]
  simp only [ieq_eq, ceqN, ilt_eq, ile_eq]
  unfold ckB
  cases h1 : decide (L.length = H.length + 1) with
  | false => rfl
  | true =>
    have h1 := of_decide_eq_true h1
    simp only [Bool.not_true, oite_f, Bool.false_or]
    rw [oloop_any (fun t => (t : Int)) L.length (fun t => !decide ((gl L t).length = nc lo up M)) (r := .inr ((0 : Int), (10 : Int))) (d := .inl ()) (e0 := (0 : Int)) rfl ?_ ?_]
    · have hsh : anyN (fun t => !decide ((gl L t).length = nc lo up M)) L.length 0 = shpB lo up M L := by
        unfold shpB; rw [any_anyN (l := L) []]; rfl
      rw [hsh]
      cases h2 : shpB lo up M L with
      | true => rfl
      | false =>
        have hrow : ∀ i, i < L.length → (gl L i).length = nc lo up M := fun i hi => by
          unfold shpB at h2
          rw [List.any_eq_false] at h2
          simpa using h2 _ (gl_mem hi)
        simp only [cond_false, obndS_l]
        rw [oloop_any (fun t => (t : Int)) L.length (fun t => anyN (fun c => !s12 (gi (gl L t) c)) (nc lo up M) 0) (r := .inr ((0 : Int), (2 : Int))) (d := .inl ()) (e0 := (0 : Int)) rfl ?_ ?_]
        · rw [show anyN (fun t => anyN (fun c => !s12 (gi (gl L t) c)) (nc lo up M) 0) L.length 0 = strB lo up M L from rfl]
          cases h3 : strB lo up M L with
          | true => rfl
          | false =>
            have o := okL_of (lo := lo) (up := up) (M := M) (H := H) h1 h2 h3
            simp only [cond_false, obndS_l]
            rw [oloop_any (fun t => (t : Int)) L.length (fun t => anyN (badL lo up M H w L t) (nc lo up M) 0) (r := .inr ((0 : Int), (19 : Int))) (d := .inl ()) (e0 := (0 : Int)) rfl ?_ ?_]
            · cases anyN (fun t => anyN (badL lo up M H w L t) (nc lo up M) 0) L.length 0 with
              | true => rfl
              | false =>
                have em : m = ((m.toNat : Nat) : Int) := by omega
                have hmn : m.toNat < M.length := by omega
                have hv1 := k.vlo; have hv2 := k.vhi
                simp only [cond_false, obndS_l]
                rw [show ((0 : Int)).toNat = 0 from rfl, get_gl (by omega)]
                simp only [obnd_s]
                rw [em, f349_e k k.vlo k.vhi hmn]
                simp only [obnd_s, decide_eq_true (Int.natCast_nonneg _), ogrd_t, Int.toNat_natCast]
                rw [get_row o (by omega) (cell_lt (by omega) hmn)]; rfl
            · intro t ht
              simp only [decide_eq_true (show ((t : Nat) : Int) < ((L.length : Nat) : Int) by omega), oite_t]
              rw [oloop_any (fun c => (c : Int)) (nc lo up M) (badL lo up M H w L t) (r := .inr (.inr (.inr ((0 : Int), (19 : Int))))) (d := .inl ()) (e0 := (0 : Int)) rfl ?_ ?_]
              · cases anyN (badL lo up M H w L t) (nc lo up M) 0 with
                | true => rfl
                | false =>
                  simp only [cond_false, obndS_l]
                  rw [wr (by omega) (by omega)]; rfl
              · intro c hc
                have ha : c / M.length ≤ (up - lo).toNat := by
                  have h1 : c / M.length < (up - lo).toNat + 1 := (Nat.div_lt_iff_lt_mul hmp).2 hc
                  omega
                have hb : c % M.length < M.length := Nat.mod_lt _ hmp
                have hbad : badL lo up M H w L t c = !vldB lo up M H w L t (lo + ((c / M.length : Nat) : Int)) (c % M.length) (gi (gl L t) c) := rfl
                rw [hbad]
                simp only [decide_eq_true (show ((c : Nat) : Int) < ((nc lo up M : Nat) : Int) by omega), oite_t, tdiv_n, tmod_n]
                generalize c / M.length = a at *
                generalize c % M.length = b at *
                have hx1 : lo ≤ lo + (a : Int) := by omega
                have hx2 : lo + (a : Int) ≤ up := by omega
                rw [wr (n := ((a : Nat) : Int)) (by omega) (by omega), wr (n := lo + ((a : Nat) : Int)) (by omega) (by omega), decide_eq_false (show ¬ ((M.length : Nat) : Int) = 0 by omega)]
                simp only [Bool.not_false, ogrd_t, decide_eq_true (Int.natCast_nonneg _), Int.toNat_natCast, get_gl ht, obnd_s, get_row o ht hc, ceqN]
                unfold vldB
                by_cases hte : t = H.length
                · have hw := wv_b k hx1 hx2
                  have e8 := wr (n := w * (lo + (a : Int))) (by omega) (by omega)
                  simp only [e8]
                  rw [decide_eq_true hte, oite_t]
                  have e9 : decide (gi (gl L t) c < w * (lo + (a : Int))) = !decide (w * (lo + (a : Int)) ≤ gi (gl L t) c) := by rw [← decide_not]; congr 1; exact propext (by omega)
                  rw [e9]
                  simp only [cond_true]
                  cases decide (w * (lo + (a : Int)) ≤ gi (gl L t) c) with
                  | true =>
                    simp only [Bool.not_true, oite_f, obndS_l, cond_false]
                    rw [wr (by omega) (by omega)]; rfl
                  | false => rfl
                · have htl : t < H.length := by omega
                  rw [decide_eq_false hte, oite_f, oloop_any (fun j => (j : Int)) M.length (fun j => inR lo up (aft M H (lo + (a : Int)) t j) && decide (gi (gl L t) c < rev M H t b j + gi (gl L (t + 1)) ((aft M H (lo + (a : Int)) t j - lo).toNat * M.length + j))) (r := .inr (.inr (.inr (.inr (.inr ((0 : Int), (19 : Int))))))) (d := .inl ()) (e0 := (0 : Int)) rfl ?_ ?_]
                  · simp only [cond_false, Bool.not_not]
                    cases anyN (fun j => inR lo up (aft M H (lo + (a : Int)) t j) && decide (gi (gl L t) c < rev M H t b j + gi (gl L (t + 1)) ((aft M H (lo + (a : Int)) t j - lo).toNat * M.length + j))) M.length 0 with
                    | true => rfl
                    | false =>
                      simp only [cond_false, obndS_l]
                      rw [wr (by omega) (by omega)]; rfl
                  · intro j hj
                    have hh1 := k.hour t htl
                    have hm1 := k.mode j hj
                    simp only [decide_eq_true (show ((j : Nat) : Int) < ((M.length : Nat) : Int) by omega), oite_t, decide_eq_true (Int.natCast_nonneg _), ogrd_t, Int.toNat_natCast, get_gh htl, get_gm hj, obnd_s]
                    rw [wr (n := lo + (a : Int) + (gh H t).2.2) (by omega) (by omega), wr (n := lo + (a : Int) + (gh H t).2.2 + (gm M j).2.1) (by omega) (by omega), aft_n, f15_e]
                    simp only [obnd_s]
                    rw [show (decide (lo ≤ aft M H (lo + (a : Int)) t j) && decide (aft M H (lo + (a : Int)) t j ≤ up)) = inR lo up (aft M H (lo + (a : Int)) t j) from rfl]
                    cases hin : inR lo up (aft M H (lo + (a : Int)) t j) with
                    | false =>
                      simp only [oite_f, obnd_s, Bool.false_and, cond_false]
                      rw [wr (by omega) (by omega)]; rfl
                    | true =>
                      have hp := inR_p hin
                      have hcl := cell_lt (lo := lo) (up := up) (M := M) (a := (aft M H (lo + (a : Int)) t j - lo).toNat) (b := j) (by omega) hj
                      have hnum := o.num (t + 1) _ (by omega) hcl
                      have hrv := rev_b k (b := b) htl hj
                      simp only [oite_t, get_gl ht, get_row o ht hc, obnd_s]
                      rw [wr (n := (t : Int) + 1) (by omega) (by omega), show (t : Int) + 1 = ((t + 1 : Nat) : Int) by omega, decide_eq_true (Int.natCast_nonneg _), ogrd_t, Int.toNat_natCast, get_gl (by omega)]
                      simp only [obnd_s]
                      rw [f350_e k htl hj]
                      simp only [obnd_s]
                      rw [f349_e k hp.1 hp.2 hj]
                      simp only [obnd_s, decide_eq_true (Int.natCast_nonneg _), ogrd_t, Int.toNat_natCast]
                      rw [get_row o (by omega) hcl]
                      simp only [obnd_s, Bool.true_and]
                      have e7 := wr (n := rev M H t b j + gi (gl L (t + 1)) ((aft M H (lo + (a : Int)) t j - lo).toNat * M.length + j)) (by omega) (by omega)
                      simp only [e7]
                      rw [wr (n := (j : Int) + 1) (by omega) (by omega)]
                      by_cases hq : gi (gl L t) c < rev M H t b j + gi (gl L (t + 1)) ((aft M H (lo + (a : Int)) t j - lo).toNat * M.length + j)
                      · simp [hq, oite_t]
                      · simp [hq, oite_f]
                  · simp (disch := omega) only [obnd_s, obnd_n, oite_ss, oite_t, oite_f, ogrd_t, ogrd_f, obndS_l, obndS_r, ilt_eq, ile_eq, ieq_eq, imax_e, imin_e, k0, k1, k2, k3, k4, k5, k6, k7, k8, k9, reduceIte, k10, k11, k12, k13, k14, k15, k16, k17, k18, k19, k20, k21, k22, k23, k24, k25, k26, k27, k28, Int.lt_irrefl]
              · simp (disch := omega) only [obnd_s, obnd_n, oite_ss, oite_t, oite_f, ogrd_t, ogrd_f, obndS_l, obndS_r, ilt_eq, ile_eq, ieq_eq, imax_e, imin_e, k0, k1, k2, k3, k4, k5, k6, k7, k8, k9, reduceIte, k10, k11, k12, k13, k14, k15, k16, k17, k18, k19, k20, k21, k22, k23, k24, k25, k26, k27, k28, Int.lt_irrefl]
            · simp (disch := omega) only [obnd_s, obnd_n, oite_ss, oite_t, oite_f, ogrd_t, ogrd_f, obndS_l, obndS_r, ilt_eq, ile_eq, ieq_eq, imax_e, imin_e, k0, k1, k2, k3, k4, k5, k6, k7, k8, k9, reduceIte, k10, k11, k12, k13, k14, k15, k16, k17, k18, k19, k20, k21, k22, k23, k24, k25, k26, k27, k28, Int.lt_irrefl]
        · intro t ht
          simp only [decide_eq_true (show ((t : Nat) : Int) < ((L.length : Nat) : Int) by omega), oite_t]
          rw [oloop_any (fun c => (c : Int)) (nc lo up M) (fun c => !s12 (gi (gl L t) c)) (r := .inr (.inr (.inr ((0 : Int), (2 : Int))))) (d := .inl ()) (e0 := (0 : Int)) rfl ?_ ?_]
          · cases anyN (fun c => !s12 (gi (gl L t) c)) (nc lo up M) 0 with
            | true => rfl
            | false =>
              simp only [cond_false, obndS_l]
              rw [wr (by omega) (by omega)]; rfl
          · intro c hc
            have hget : (gl L t)[c]? = some (gi (gl L t) c) := get_gi (by rw [hrow t ht]; exact hc)
            simp only [decide_eq_true (show ((c : Nat) : Int) < ((nc lo up M : Nat) : Int) by omega), oite_t, decide_eq_true (Int.natCast_nonneg _), ogrd_t, Int.toNat_natCast, get_gl ht, obnd_s, hget, f15_e]
            rw [show (decide (-1000000000000 ≤ gi (gl L t) c) && decide (gi (gl L t) c ≤ 1000000000000)) = s12 (gi (gl L t) c) from rfl, wr (by omega) (by omega)]
            cases s12 (gi (gl L t) c) <;> rfl
          · simp (disch := omega) only [obnd_s, obnd_n, oite_ss, oite_t, oite_f, ogrd_t, ogrd_f, obndS_l, obndS_r, ilt_eq, ile_eq, ieq_eq, imax_e, imin_e, k0, k1, k2, k3, k4, k5, k6, k7, k8, k9, reduceIte, k10, k11, k12, k13, k14, k15, k16, k17, k18, k19, k20, k21, k22, k23, k24, k25, k26, k27, k28, Int.lt_irrefl]
        · simp (disch := omega) only [obnd_s, obnd_n, oite_ss, oite_t, oite_f, ogrd_t, ogrd_f, obndS_l, obndS_r, ilt_eq, ile_eq, ieq_eq, imax_e, imin_e, k0, k1, k2, k3, k4, k5, k6, k7, k8, k9, reduceIte, k10, k11, k12, k13, k14, k15, k16, k17, k18, k19, k20, k21, k22, k23, k24, k25, k26, k27, k28, Int.lt_irrefl]
    · intro t ht
      simp (disch := omega) only [obnd_s, obnd_n, oite_ss, oite_t, oite_f, ogrd_t, ogrd_f, obndS_l, obndS_r, ilt_eq, ile_eq, ieq_eq, imax_e, imin_e, k0, k1, k2, k3, k4, k5, k6, k7, k8, k9, reduceIte, k10, k11, k12, k13, k14, k15, k16, k17, k18, k19, k20, k21, k22, k23, k24, k25, k26, k27, k28, get_gl ht, show ((t : Nat) : Int) < ((L.length : Nat) : Int) by omega, wr, ceqN]
      cases decide ((gl L t).length = nc lo up M) <;> rfl
    · simp (disch := omega) only [obnd_s, obnd_n, oite_ss, oite_t, oite_f, ogrd_t, ogrd_f, obndS_l, obndS_r, ilt_eq, ile_eq, ieq_eq, imax_e, imin_e, k0, k1, k2, k3, k4, k5, k6, k7, k8, k9, reduceIte, k10, k11, k12, k13, k14, k15, k16, k17, k18, k19, k20, k21, k22, k23, k24, k25, k26, k27, k28, Int.lt_irrefl]
theorem f303_true (hA : f198 = some true) : f303 lo up M v m w H L = some true := by
  unfold f303
  rw [hA]
  simp only [obnd_s, Bool.not_true, oite_f, List.length_map, ilt_eq, ieq_eq]
  obtain ⟨b, hb, hb'⟩ := f307_e (lo := lo) (up := up) (M := M)
  rw [hb, f308_e]
  cases b with
  | false => rfl
  | true =>
    obtain ⟨hM7, hs20⟩ := hb' rfl
    cases h1 : decide (H.length ≤ 12) with
    | false => rfl
    | true =>
      have h1 := of_decide_eq_true h1
      cases h2 : decide ((13 : Int) < ((L.length : Nat) : Int)) with
      | true => rfl
      | false =>
        have h2 := of_decide_eq_false h2
        have hM1 : M.length < 4611686018427387904 := by omega
        have hs : ∀ p, p ∈ M → p.1.size < 4611686018427387904 := fun p hp => by have := hs20 p hp; omega
        have hH : H.length < 4611686018427387904 := by omega
        simp only [obnd_s, Bool.not_true, oite_f]
        rw [oloop_any (fun t => (t : Int)) L.length (fun t => decide (210 < (gl L t).length)) (r := .inr true) (d := .inl ()) (e0 := (0 : Int)) rfl ?_ ?_]
        · cases h3 : anyN (fun t => decide (210 < (gl L t).length)) L.length 0 with
          | true => rfl
          | false =>
            have hL : few L := ⟨by omega, fun i hi => by
              have := anyN_f h3 i (Nat.zero_le _) (by omega)
              have := of_decide_eq_false this
              omega⟩
            simp only [cond_false, obndS_l]
            rw [f309_e (show M.length ≤ 1000000000 by omega), f310_e (show H.length ≤ 1000000000 by omega), f332_e hL]
            simp only [obnd_s]
            rw [f331_e hM1 hs hH hL, f311_e hM1 hs hH]
            simp only [obnd_s]
            cases h4 : decide ((ckT lo up M v m w H).2 = 0) with
            | false => simp only [Bool.not_false, cond_true, oite_t, decide_true, obnd_s]
            | true =>
              have k := (ckT_0 (of_decide_eq_true h4)).2
              simp only [Bool.not_true, cond_false, oite_f]
              rw [f333_e k hL]
              simp only [obnd_s, decide_true, oite_t]
        · intro t ht
          unfold l303_1
          have e : decide ((210 : Int) < (((gl L t).length : Nat) : Int)) = decide (210 < (gl L t).length) := by rw [Bool.eq_iff_iff, decide_eq_true_eq, decide_eq_true_eq]; omega
          simp (disch := omega) only [obnd_s, obnd_n, oite_ss, oite_t, oite_f, ogrd_t, ogrd_f, obndS_l, obndS_r, ilt_eq, ile_eq, ieq_eq, imax_e, imin_e, k0, k1, k2, k3, k4, k5, k6, k7, k8, k9, reduceIte, k10, k11, k12, k13, k14, k15, k16, k17, k18, k19, k20, k21, k22, k23, k24, k25, k26, k27, k28, get_gl ht, show ((t : Nat) : Int) < ((L.length : Nat) : Int) by omega, wr, e]
          cases decide (210 < (gl L t).length) <;> rfl
        · unfold l303_1
          simp (disch := omega) only [obnd_s, obnd_n, oite_ss, oite_t, oite_f, ogrd_t, ogrd_f, obndS_l, obndS_r, ilt_eq, ile_eq, ieq_eq, imax_e, imin_e, k0, k1, k2, k3, k4, k5, k6, k7, k8, k9, reduceIte, k10, k11, k12, k13, k14, k15, k16, k17, k18, k19, k20, k21, k22, k23, k24, k25, k26, k27, k28, Int.lt_irrefl]
end
end
end Go.Proofs.YtmbekcealcjabaaGreat.AM
