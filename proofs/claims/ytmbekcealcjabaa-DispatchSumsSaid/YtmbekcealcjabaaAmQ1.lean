/- Plain laws: powers, what follows, settlements. Conditions: none. -/
import Derived.Test.YtmbekcealcjabaaAmQ0
namespace Go.Proofs.Ytmbekcealcjabaa.AM
set_option linter.unusedSimpArgs false
set_option linter.unusedVariables false
open Go Go.RowKit

/-! ### Powers -/
def pw (n : Int) : Bool := decide (-1000000 ≤ n) && decide (n ≤ 1000000)
theorem f215_e (n : Int) : f215 n = some (pw n) := by
  unfold f215 f235
  rw [show IntKind.i64.wrap (0 - 1000000) = -1000000 by rw [wr (by omega) (by omega)]; rfl, f216_e]; rfl
theorem f236_e (n : Int) : f236 n = some (!pw n) := by unfold f236; rw [f215_e]; rfl
def pwsE (l : List Int) : Int := bif decide (300 < l.length) then 8 else bif l.any (fun n => !pw n) then 2 else 0
theorem f217_e {l : List Int} (hl : l.length ≤ 1000) : f217 l = some (pwsE l) := by
  unfold f217 pwsE
  have e1 : decide (((l.length : Nat) : Int) ≤ 300) = !decide (300 < l.length) := by rw [← decide_not]; congr 1; exact propext (by omega)
  rw [f80_e (p := fun z0 => f236 z0) (l := l) (fun n => !pw n) (fun x _ => f236_e x) (by omega)]
  simp only [obnd_s, List.length_map, ile_eq, e1, f214_e, f213_2]
  cases decide (300 < l.length) <;> cases l.any (fun n => !pw n) <;> rfl
theorem f203_e {l : List Int} (hl : l.length ≤ 1000) : f203 l = some (pwsE l) := by
  unfold f203 pwsE
  have e1 : decide ((300 : Int) < ((l.length : Nat) : Int)) = decide (300 < l.length) := by rw [Bool.eq_iff_iff, decide_eq_true_eq, decide_eq_true_eq]; omega
  simp only [List.length_map, ilt_eq, e1]
  cases decide (300 < l.length) with
  | true => rfl
  | false =>
    simp (disch := omega) only [obnd_s, obnd_n, oite_ss, oite_t, oite_f, ogrd_t, ogrd_f, obndS_l, obndS_r, ilt_eq, ile_eq, ieq_eq, imax_e, imin_e, List.length_map, Int.toNat_natCast, decide_true, decide_false, Bool.not_true, Bool.not_false, Bool.not_eq_true, Bool.false_eq_true, if_true, if_false, reduceIte, not_false_eq_true, not_true_eq_false, Int.natCast_nonneg, Int.ofNat_lt, Int.ofNat_le, Bool.cond_true, Bool.cond_false, cond_true, cond_false, Bool.true_and, Bool.and_true, Bool.false_and, Bool.and_false, Bool.true_or, Bool.or_true, Bool.false_or, Bool.or_false, Bool.cond_true_left, Bool.cond_false_right, Bool.cond_true_right, Bool.cond_false_left]
    rw [oloop_scanB (fun i => (i : Int)) l.length (fun i => !pw (l.getD i 0)) (fun _ => .inr 2) (d := .inl ()) (e0 := 0) rfl ?_ ?_, scan_anyB (fun n => !pw n) 0 (Sum.inr 2 : Unit ⊕ Int) l]
    · cases l.any (fun n => !pw n) <;> rfl
    · intro i hi
      rw [getD_i hi]
      simp (disch := omega) only [obnd_s, obnd_n, oite_ss, oite_t, oite_f, ogrd_t, ogrd_f, obndS_l, obndS_r, ilt_eq, ile_eq, ieq_eq, imax_e, imin_e, List.length_map, Int.toNat_natCast, decide_true, decide_false, Bool.not_true, Bool.not_false, Bool.not_eq_true, Bool.false_eq_true, if_true, if_false, reduceIte, not_false_eq_true, not_true_eq_false, Int.natCast_nonneg, Int.ofNat_lt, Int.ofNat_le, Bool.cond_true, Bool.cond_false, cond_true, cond_false, Bool.true_and, Bool.and_true, Bool.false_and, Bool.and_false, Bool.true_or, Bool.or_true, Bool.false_or, Bool.or_false, Bool.cond_true_left, Bool.cond_false_right, Bool.cond_true_right, Bool.cond_false_left, hi, get_i hi, f15_e, wr, pw]; rfl
    · simp (disch := omega) only [obnd_s, obnd_n, oite_ss, oite_t, oite_f, ogrd_t, ogrd_f, obndS_l, obndS_r, ilt_eq, ile_eq, ieq_eq, imax_e, imin_e, List.length_map, Int.toNat_natCast, decide_true, decide_false, Bool.not_true, Bool.not_false, Bool.not_eq_true, Bool.false_eq_true, if_true, if_false, reduceIte, not_false_eq_true, not_true_eq_false, Int.natCast_nonneg, Int.ofNat_lt, Int.ofNat_le, Bool.cond_true, Bool.cond_false, cond_true, cond_false, Bool.true_and, Bool.and_true, Bool.false_and, Bool.and_false, Bool.true_or, Bool.or_true, Bool.false_or, Bool.or_false, Bool.cond_true_left, Bool.cond_false_right, Bool.cond_true_right, Bool.cond_false_left, Int.lt_irrefl]
theorem pws_0 {l : List Int} (h : pwsE l = 0) : l.length ≤ 300 ∧ ∀ i, i < l.length → -1000000 ≤ gi l i ∧ gi l i ≤ 1000000 := by
  unfold pwsE at h
  cases h1 : decide (300 < l.length) with
  | true => rw [h1] at h; cases h
  | false =>
    cases h2 : l.any (fun n => !pw n) with
    | true => rw [h1, h2] at h; cases h
    | false =>
      have h1 := of_decide_eq_false h1
      refine ⟨by omega, fun i hi => ?_⟩
      rw [List.any_eq_false] at h2
      have := h2 l[i] (List.getElem_mem hi)
      unfold gi; rw [getD_i hi]
      simpa [pw] using this
def rampE (a r : Int) : Int := bif pw a && (decide (0 ≤ r) && decide (r ≤ 1000000)) then 0 else 2
theorem f202_e (a r : Int) : f202 a r = some (rampE a r) := by
  unfold f202 rampE pw
  simp (disch := omega) only [obnd_s, obnd_n, oite_ss, oite_t, oite_f, ogrd_t, ogrd_f, obndS_l, obndS_r, ilt_eq, ile_eq, ieq_eq, imax_e, imin_e, List.length_map, Int.toNat_natCast, decide_true, decide_false, Bool.not_true, Bool.not_false, Bool.not_eq_true, Bool.false_eq_true, if_true, if_false, reduceIte, not_false_eq_true, not_true_eq_false, Int.natCast_nonneg, Int.ofNat_lt, Int.ofNat_le, Bool.cond_true, Bool.cond_false, cond_true, cond_false, Bool.true_and, Bool.and_true, Bool.false_and, Bool.and_false, Bool.true_or, Bool.or_true, Bool.false_or, Bool.or_false, Bool.cond_true_left, Bool.cond_false_right, Bool.cond_true_right, Bool.cond_false_left, f15_e]
  cases (decide (-1000000 ≤ a) && decide (a ≤ 1000000)) <;> cases (decide (0 ≤ r) && decide (r ≤ 1000000)) <;> rfl
theorem ramp_0 {a r : Int} (h : rampE a r = 0) : (-1000000 ≤ a ∧ a ≤ 1000000) ∧ (0 ≤ r ∧ r ≤ 1000000) := by
  unfold rampE at h
  cases h1 : pw a && (decide (0 ≤ r) && decide (r ≤ 1000000)) with
  | false => rw [h1] at h; cases h
  | true => simpa [pw] using h1

/-! ### What follows -/
def fw (a r : Int) (l : List Int) : Nat → Int
  | 0 => a
  | i + 1 => min (max (gi l i) (fw a r l i - r)) (fw a r l i + r)
def fwL (a r : Int) (l : List Int) (i : Nat) : List Int := (List.range i).map fun j => fw a r l (j + 1)
theorem fwL_len {a r : Int} {l : List Int} {i : Nat} : (fwL a r l i).length = i := by simp [fwL]
theorem fwL_s {a r : Int} {l : List Int} {i : Nat} : fwL a r l i ++ [fw a r l (i + 1)] = fwL a r l (i + 1) := by simp [fwL, List.range_succ]
theorem fwL_get {a r : Int} {l : List Int} {i j : Nat} (h : j < i) : (fwL a r l i)[j]? = some (fw a r l (j + 1)) := by simp [fwL, h]
theorem fw_b {a r : Int} {l : List Int} (ha : -1000000 ≤ a ∧ a ≤ 1000000) (hr : 0 ≤ r ∧ r ≤ 1000000) (hl : ∀ i, i < l.length → -1000000 ≤ gi l i ∧ gi l i ≤ 1000000) : ∀ i, i ≤ l.length → -1000000 ≤ fw a r l i ∧ fw a r l i ≤ 1000000
  | 0, _ => ha
  | i + 1, h => by
    have h1 := fw_b ha hr hl i (by omega)
    have h2 := hl i (by omega)
    simp only [fw]; omega
def folE (a r : Int) (l : List Int) : Int := if rampE a r = 0 then pwsE l else rampE a r
theorem fol_0 {a r : Int} {l : List Int} (h : folE a r l = 0) : rampE a r = 0 ∧ pwsE l = 0 := by
  unfold folE at h; split at h
  · exact ⟨by assumption, h⟩
  · contradiction
theorem f200_bad {a r : Int} {l : List Int} (hl : l.length ≤ 1000) (h : folE a r l ≠ 0) : f200 a r l = some ([], folE a r l) := by
  unfold f200
  have e : (if (pw a && (decide (0 ≤ r) && decide (r ≤ 1000000))) = true then (0 : Int) else 2) = rampE a r := by
    unfold rampE; cases (pw a && (decide (0 ≤ r) && decide (r ≤ 1000000))) <;> rfl
  simp (disch := omega) only [obnd_s, obnd_n, oite_ss, oite_t, oite_f, ogrd_t, ogrd_f, obndS_l, obndS_r, ilt_eq, ile_eq, ieq_eq, imax_e, imin_e, List.length_map, Int.toNat_natCast, decide_true, decide_false, Bool.not_true, Bool.not_false, Bool.not_eq_true, Bool.false_eq_true, if_true, if_false, reduceIte, not_false_eq_true, not_true_eq_false, Int.natCast_nonneg, Int.ofNat_lt, Int.ofNat_le, Bool.cond_true, Bool.cond_false, cond_true, cond_false, Bool.true_and, Bool.and_true, Bool.false_and, Bool.and_false, Bool.true_or, Bool.or_true, Bool.false_or, Bool.or_false, Bool.cond_true_left, Bool.cond_false_right, Bool.cond_true_right, Bool.cond_false_left, f215_e, f216_e, f214_e, f217_e hl, f213_2, e]
  unfold folE at h ⊢
  simp only [h, decide_false, Bool.not_false, oite_t]
theorem f200_ok {a r : Int} {l : List Int} (hl : l.length ≤ 1000) (h : folE a r l = 0) : f200 a r l = some (fwL a r l l.length, 0) := by
  obtain ⟨h1, h2⟩ := fol_0 h
  obtain ⟨ha, hr⟩ := ramp_0 h1
  obtain ⟨_, hx⟩ := pws_0 h2
  unfold f200
  have e : (if (pw a && (decide (0 ≤ r) && decide (r ≤ 1000000))) = true then (0 : Int) else 2) = rampE a r := by
    unfold rampE; cases (pw a && (decide (0 ≤ r) && decide (r ≤ 1000000))) <;> rfl
  simp (disch := omega) only [obnd_s, obnd_n, oite_ss, oite_t, oite_f, ogrd_t, ogrd_f, obndS_l, obndS_r, ilt_eq, ile_eq, ieq_eq, imax_e, imin_e, List.length_map, Int.toNat_natCast, decide_true, decide_false, Bool.not_true, Bool.not_false, Bool.not_eq_true, Bool.false_eq_true, if_true, if_false, reduceIte, not_false_eq_true, not_true_eq_false, Int.natCast_nonneg, Int.ofNat_lt, Int.ofNat_le, Bool.cond_true, Bool.cond_false, cond_true, cond_false, Bool.true_and, Bool.and_true, Bool.false_and, Bool.and_false, Bool.true_or, Bool.or_true, Bool.false_or, Bool.or_false, Bool.cond_true_left, Bool.cond_false_right, Bool.cond_true_right, Bool.cond_false_left, f215_e, f216_e, f214_e, f217_e hl, f213_2, e]
  rw [h1, h2]
  simp only [if_true, decide_true, Bool.not_true, oite_f]
  rw [oloop_all (fun i => (fw a r l i, fwL a r l i, (i : Int))) l.length (r := fwL a r l l.length) (e0 := (a, ([] : List Int), (0 : Int))) rfl ?_ ?_]; rfl
  · intro i hi
    have hb := fw_b ha hr hx i (by omega)
    simp (disch := omega) only [obnd_s, obnd_n, oite_ss, oite_t, oite_f, ogrd_t, ogrd_f, obndS_l, obndS_r, ilt_eq, ile_eq, ieq_eq, imax_e, imin_e, List.length_map, Int.toNat_natCast, decide_true, decide_false, Bool.not_true, Bool.not_false, Bool.not_eq_true, Bool.false_eq_true, if_true, if_false, reduceIte, not_false_eq_true, not_true_eq_false, Int.natCast_nonneg, Int.ofNat_lt, Int.ofNat_le, Bool.cond_true, Bool.cond_false, cond_true, cond_false, Bool.true_and, Bool.and_true, Bool.false_and, Bool.and_false, Bool.true_or, Bool.or_true, Bool.false_or, Bool.or_false, Bool.cond_true_left, Bool.cond_false_right, Bool.cond_true_right, Bool.cond_false_left, hi, get_gi hi, wr]
    rw [ogrd_fits (by simp [fwL_len]; omega) (by simp [fwL_len]; omega), show min (max (gi l i) (fw a r l i - r)) (fw a r l i + r) = fw a r l (i + 1) from rfl, fwL_s]; rfl
  · simp (disch := omega) only [obnd_s, obnd_n, oite_ss, oite_t, oite_f, ogrd_t, ogrd_f, obndS_l, obndS_r, ilt_eq, ile_eq, ieq_eq, imax_e, imin_e, List.length_map, Int.toNat_natCast, decide_true, decide_false, Bool.not_true, Bool.not_false, Bool.not_eq_true, Bool.false_eq_true, if_true, if_false, reduceIte, not_false_eq_true, not_true_eq_false, Int.natCast_nonneg, Int.ofNat_lt, Int.ofNat_le, Bool.cond_true, Bool.cond_false, cond_true, cond_false, Bool.true_and, Bool.and_true, Bool.false_and, Bool.and_false, Bool.true_or, Bool.or_true, Bool.false_or, Bool.or_false, Bool.cond_true_left, Bool.cond_false_right, Bool.cond_true_right, Bool.cond_false_left, Int.lt_irrefl]
theorem f204_ok {a r : Int} {l : List Int} (hl : l.length ≤ 1000) (h : folE a r l = 0) : f204 a r l = some (fwL a r l l.length) := by
  obtain ⟨h1, h2⟩ := fol_0 h
  obtain ⟨ha, hr⟩ := ramp_0 h1
  obtain ⟨_, hx⟩ := pws_0 h2
  unfold f204
  rw [oloop_all (fun i => (fwL a r l i, fw a r l i, (i : Int))) l.length (r := fwL a r l l.length) (e0 := (([] : List Int), a, (0 : Int))) rfl ?_ ?_]; rfl
  · intro i hi
    have hb := fw_b ha hr hx i (by omega)
    have h5 : max (fw a r l i - r) (min (fw a r l i + r) (gi l i)) = fw a r l (i + 1) := by simp only [fw]; omega
    simp (disch := omega) only [obnd_s, obnd_n, oite_ss, oite_t, oite_f, ogrd_t, ogrd_f, obndS_l, obndS_r, ilt_eq, ile_eq, ieq_eq, imax_e, imin_e, List.length_map, Int.toNat_natCast, decide_true, decide_false, Bool.not_true, Bool.not_false, Bool.not_eq_true, Bool.false_eq_true, if_true, if_false, reduceIte, not_false_eq_true, not_true_eq_false, Int.natCast_nonneg, Int.ofNat_lt, Int.ofNat_le, Bool.cond_true, Bool.cond_false, cond_true, cond_false, Bool.true_and, Bool.and_true, Bool.false_and, Bool.and_false, Bool.true_or, Bool.or_true, Bool.false_or, Bool.or_false, Bool.cond_true_left, Bool.cond_false_right, Bool.cond_true_right, Bool.cond_false_left, hi, get_gi hi, wr]
    rw [ogrd_fits (by simp [fwL_len]; omega) (by simp [fwL_len]; omega), h5, fwL_s]; rfl
  · simp (disch := omega) only [obnd_s, obnd_n, oite_ss, oite_t, oite_f, ogrd_t, ogrd_f, obndS_l, obndS_r, ilt_eq, ile_eq, ieq_eq, imax_e, imin_e, List.length_map, Int.toNat_natCast, decide_true, decide_false, Bool.not_true, Bool.not_false, Bool.not_eq_true, Bool.false_eq_true, if_true, if_false, reduceIte, not_false_eq_true, not_true_eq_false, Int.natCast_nonneg, Int.ofNat_lt, Int.ofNat_le, Bool.cond_true, Bool.cond_false, cond_true, cond_false, Bool.true_and, Bool.and_true, Bool.false_and, Bool.and_false, Bool.true_or, Bool.or_true, Bool.false_or, Bool.or_false, Bool.cond_true_left, Bool.cond_false_right, Bool.cond_true_right, Bool.cond_false_left, Int.lt_irrefl]

/-! ### Settlements -/
def sz (n : Int) : Int := max n (-n)
def both (w m : Int) : Bool := (decide (0 < w) && decide (0 < m)) || (decide (w < 0) && decide (m < 0))
def gv (w m : Int) : Int := bif both w m then min (sz w) (sz m) else 0
theorem gv_b (w m : Int) : 0 ≤ gv w m ∧ gv w m ≤ sz w ∧ gv w m ≤ sz m := by
  unfold gv sz; cases both w m <;> simp only [cond_true, cond_false] <;> omega
def stl (W M : List Int) : Nat → Int × Int × Int
  | 0 => (0, 0, 0)
  | i + 1 => ((stl W M i).1 + gv (gi W i) (gi M i), (stl W M i).2.1 + (sz (gi W i) - gv (gi W i) (gi M i)), (stl W M i).2.2 + (sz (gi M i) - gv (gi W i) (gi M i)))
theorem sz_b {n : Int} (h : -1000000 ≤ n ∧ n ≤ 1000000) : 0 ≤ sz n ∧ sz n ≤ 1000000 := by unfold sz; omega
def okP (l : List Int) (n : Nat) : Prop := ∀ i, i < n → -1000000 ≤ gi l i ∧ gi l i ≤ 1000000
theorem stl_b {W M : List Int} {n : Nat} (hW : okP W n) (hM : okP M n) : ∀ i : Nat, i ≤ n → (0 ≤ (stl W M i).1 ∧ (stl W M i).1 ≤ 1000000 * (i : Int)) ∧ (0 ≤ (stl W M i).2.1 ∧ (stl W M i).2.1 ≤ 1000000 * (i : Int)) ∧ (0 ≤ (stl W M i).2.2 ∧ (stl W M i).2.2 ≤ 1000000 * (i : Int))
  | 0, _ => by simp [stl]
  | i + 1, h => by
    have h1 := stl_b hW hM i (by omega)
    have h2 := sz_b (hW i (by omega))
    have h3 := sz_b (hM i (by omega))
    have h4 := gv_b (gi W i) (gi M i)
    simp only [stl]; omega
theorem f218_e {n : Int} (h : -1000000 ≤ n ∧ n ≤ 1000000) : f218 n = some (sz n) := by unfold f218 sz; simp (disch := omega) only [obnd_s, obnd_n, oite_ss, oite_t, oite_f, ogrd_t, ogrd_f, obndS_l, obndS_r, ilt_eq, ile_eq, ieq_eq, imax_e, imin_e, List.length_map, Int.toNat_natCast, decide_true, decide_false, Bool.not_true, Bool.not_false, Bool.not_eq_true, Bool.false_eq_true, if_true, if_false, reduceIte, not_false_eq_true, not_true_eq_false, Int.natCast_nonneg, Int.ofNat_lt, Int.ofNat_le, Bool.cond_true, Bool.cond_false, cond_true, cond_false, Bool.true_and, Bool.and_true, Bool.false_and, Bool.and_false, Bool.true_or, Bool.or_true, Bool.false_or, Bool.or_false, Bool.cond_true_left, Bool.cond_false_right, Bool.cond_true_right, Bool.cond_false_left, wr]; congr 2; omega
theorem f109_e {n : Int} (h : -1000000 ≤ n ∧ n ≤ 1000000) : f109 n = some (sz n) := by unfold f109 sz; simp (disch := omega) only [obnd_s, obnd_n, oite_ss, oite_t, oite_f, ogrd_t, ogrd_f, obndS_l, obndS_r, ilt_eq, ile_eq, ieq_eq, imax_e, imin_e, List.length_map, Int.toNat_natCast, decide_true, decide_false, Bool.not_true, Bool.not_false, Bool.not_eq_true, Bool.false_eq_true, if_true, if_false, reduceIte, not_false_eq_true, not_true_eq_false, Int.natCast_nonneg, Int.ofNat_lt, Int.ofNat_le, Bool.cond_true, Bool.cond_false, cond_true, cond_false, Bool.true_and, Bool.and_true, Bool.false_and, Bool.and_false, Bool.true_or, Bool.or_true, Bool.false_or, Bool.or_false, Bool.cond_true_left, Bool.cond_false_right, Bool.cond_true_right, Bool.cond_false_left, wr]; congr 2; omega
def setE (W M : List Int) : Int := if pwsE W = 0 then (if pwsE M = 0 then (bif decide (W.length = M.length) then 0 else 10) else pwsE M) else pwsE W
theorem set_0 {W M : List Int} (h : setE W M = 0) : pwsE W = 0 ∧ pwsE M = 0 ∧ W.length = M.length := by
  unfold setE at h
  split at h
  · split at h
    · cases h1 : decide (W.length = M.length) with
      | false => rw [h1] at h; cases h
      | true => exact ⟨by assumption, by assumption, of_decide_eq_true h1⟩
    · contradiction
  · contradiction
theorem f201_bad {W M : List Int} (hW : W.length ≤ 1000) (hM : M.length ≤ 1000) (h : setE W M ≠ 0) : f201 W M = some (0, 0, 0, setE W M) := by
  unfold f201
  have e : (if decide (W.length = M.length) = true then (0 : Int) else 10) = bif decide (W.length = M.length) then 0 else 10 := by cases decide (W.length = M.length) <;> rfl
  rw [f217_e hW, f217_e hM]
  simp only [obnd_s, List.length_map, ieq_eq, ceqN, f214_e, f213_3, e]
  unfold setE at h ⊢
  simp only [h, decide_false, Bool.not_false, oite_t]
theorem f201_ok {W M : List Int} (h : setE W M = 0) : f201 W M = some ((stl W M W.length).1, (stl W M W.length).2.1, (stl W M W.length).2.2, 0) := by
  obtain ⟨h1, h2, h3⟩ := set_0 h
  obtain ⟨hW, hw⟩ := pws_0 h1
  obtain ⟨hM, hm⟩ := pws_0 h2
  rw [← h3] at hm
  unfold f201
  have e : (if decide (W.length = M.length) = true then (0 : Int) else 10) = bif decide (W.length = M.length) then 0 else 10 := by cases decide (W.length = M.length) <;> rfl
  rw [f217_e (by omega), f217_e (by omega)]
  simp only [obnd_s, List.length_map, ieq_eq, ceqN, f214_e, f213_3, e]
  rw [h1, h2, decide_eq_true h3]
  simp only [if_true, cond_true, decide_true, Bool.not_true, oite_f]
  rw [oloop_all (fun i => ((i : Int), (stl W M i).1, (stl W M i).2.1, (stl W M i).2.2)) W.length (r := ((stl W M W.length).1, (stl W M W.length).2.1, (stl W M W.length).2.2)) (e0 := (((0 : Int), (0 : Int), (0 : Int), (0 : Int)))) rfl ?_ ?_]; rfl
  · intro i hi
    have hb := stl_b hw hm i (by omega)
    have hs1 := sz_b (hw i hi)
    have hs2 := sz_b (hm i hi)
    have hg := gv_b (gi W i) (gi M i)
    simp (disch := omega) only [obnd_s, obnd_n, oite_ss, oite_t, oite_f, ogrd_t, ogrd_f, obndS_l, obndS_r, ilt_eq, ile_eq, ieq_eq, imax_e, imin_e, List.length_map, Int.toNat_natCast, decide_true, decide_false, Bool.not_true, Bool.not_false, Bool.not_eq_true, Bool.false_eq_true, if_true, if_false, reduceIte, not_false_eq_true, not_true_eq_false, Int.natCast_nonneg, Int.ofNat_lt, Int.ofNat_le, Bool.cond_true, Bool.cond_false, cond_true, cond_false, Bool.true_and, Bool.and_true, Bool.false_and, Bool.and_false, Bool.true_or, Bool.or_true, Bool.false_or, Bool.or_false, Bool.cond_true_left, Bool.cond_false_right, Bool.cond_true_right, Bool.cond_false_left, hi, get_gi hi, get_gi (show i < M.length by omega), f218_e (hw i hi), f218_e (hm i hi)]
    rw [show (bif decide (0 < gi W i) && decide (0 < gi M i) || decide (gi W i < 0) && decide (gi M i < 0) then min (sz (gi W i)) (sz (gi M i)) else 0) = gv (gi W i) (gi M i) from rfl]
    simp (disch := omega) only [obnd_s, obnd_n, oite_ss, oite_t, oite_f, ogrd_t, ogrd_f, obndS_l, obndS_r, ilt_eq, ile_eq, ieq_eq, imax_e, imin_e, List.length_map, Int.toNat_natCast, decide_true, decide_false, Bool.not_true, Bool.not_false, Bool.not_eq_true, Bool.false_eq_true, if_true, if_false, reduceIte, not_false_eq_true, not_true_eq_false, Int.natCast_nonneg, Int.ofNat_lt, Int.ofNat_le, Bool.cond_true, Bool.cond_false, cond_true, cond_false, Bool.true_and, Bool.and_true, Bool.false_and, Bool.and_false, Bool.true_or, Bool.or_true, Bool.false_or, Bool.or_false, Bool.cond_true_left, Bool.cond_false_right, Bool.cond_true_right, Bool.cond_false_left, wr]; rfl
  · simp (disch := omega) only [obnd_s, obnd_n, oite_ss, oite_t, oite_f, ogrd_t, ogrd_f, obndS_l, obndS_r, ilt_eq, ile_eq, ieq_eq, imax_e, imin_e, List.length_map, Int.toNat_natCast, decide_true, decide_false, Bool.not_true, Bool.not_false, Bool.not_eq_true, Bool.false_eq_true, if_true, if_false, reduceIte, not_false_eq_true, not_true_eq_false, Int.natCast_nonneg, Int.ofNat_lt, Int.ofNat_le, Bool.cond_true, Bool.cond_false, cond_true, cond_false, Bool.true_and, Bool.and_true, Bool.false_and, Bool.and_false, Bool.true_or, Bool.or_true, Bool.false_or, Bool.or_false, Bool.cond_true_left, Bool.cond_false_right, Bool.cond_true_right, Bool.cond_false_left, Int.lt_irrefl]
theorem f205_ok {W M : List Int} (h : setE W M = 0) : f205 W M = some ((stl W M W.length).1, (stl W M W.length).2.1, (stl W M W.length).2.2) := by
  obtain ⟨h1, h2, h3⟩ := set_0 h
  obtain ⟨hW, hw⟩ := pws_0 h1
  obtain ⟨hM, hm⟩ := pws_0 h2
  rw [← h3] at hm
  unfold f205
  rw [oloop_all (fun i => ((i : Int), (stl W M i).1, (stl W M i).2.1, (stl W M i).2.2)) W.length (r := ((stl W M W.length).1, (stl W M W.length).2.1, (stl W M W.length).2.2)) (e0 := (((0 : Int), (0 : Int), (0 : Int), (0 : Int)))) rfl ?_ ?_]; rfl
  · intro i hi
    have hb := stl_b hw hm i (by omega)
    have hs1 := sz_b (hw i hi)
    have hs2 := sz_b (hm i hi)
    have hg := gv_b (gi W i) (gi M i)
    simp (disch := omega) only [obnd_s, obnd_n, oite_ss, oite_t, oite_f, ogrd_t, ogrd_f, obndS_l, obndS_r, ilt_eq, ile_eq, ieq_eq, imax_e, imin_e, List.length_map, Int.toNat_natCast, decide_true, decide_false, Bool.not_true, Bool.not_false, Bool.not_eq_true, Bool.false_eq_true, if_true, if_false, reduceIte, not_false_eq_true, not_true_eq_false, Int.natCast_nonneg, Int.ofNat_lt, Int.ofNat_le, Bool.cond_true, Bool.cond_false, cond_true, cond_false, Bool.true_and, Bool.and_true, Bool.false_and, Bool.and_false, Bool.true_or, Bool.or_true, Bool.false_or, Bool.or_false, Bool.cond_true_left, Bool.cond_false_right, Bool.cond_true_right, Bool.cond_false_left, hi, get_gi hi, get_gi (show i < M.length by omega), f109_e (hw i hi), f109_e (hm i hi)]
    rw [show (bif decide (0 < gi W i) && decide (0 < gi M i) || decide (gi W i < 0) && decide (gi M i < 0) then min (sz (gi W i)) (sz (gi M i)) else 0) = gv (gi W i) (gi M i) from rfl]
    have h6 : (stl W M i).2.1 + sz (gi W i) - gv (gi W i) (gi M i) = (stl W M (i + 1)).2.1 := by simp only [stl]; omega
    have h7 : (stl W M i).2.2 + sz (gi M i) - gv (gi W i) (gi M i) = (stl W M (i + 1)).2.2 := by simp only [stl]; omega
    simp (disch := omega) only [obnd_s, obnd_n, oite_ss, oite_t, oite_f, ogrd_t, ogrd_f, obndS_l, obndS_r, ilt_eq, ile_eq, ieq_eq, imax_e, imin_e, List.length_map, Int.toNat_natCast, decide_true, decide_false, Bool.not_true, Bool.not_false, Bool.not_eq_true, Bool.false_eq_true, if_true, if_false, reduceIte, not_false_eq_true, not_true_eq_false, Int.natCast_nonneg, Int.ofNat_lt, Int.ofNat_le, Bool.cond_true, Bool.cond_false, cond_true, cond_false, Bool.true_and, Bool.and_true, Bool.false_and, Bool.and_false, Bool.true_or, Bool.or_true, Bool.false_or, Bool.or_false, Bool.cond_true_left, Bool.cond_false_right, Bool.cond_true_right, Bool.cond_false_left, wr]
    rw [h6, h7]; rfl
  · simp (disch := omega) only [obnd_s, obnd_n, oite_ss, oite_t, oite_f, ogrd_t, ogrd_f, obndS_l, obndS_r, ilt_eq, ile_eq, ieq_eq, imax_e, imin_e, List.length_map, Int.toNat_natCast, decide_true, decide_false, Bool.not_true, Bool.not_false, Bool.not_eq_true, Bool.false_eq_true, if_true, if_false, reduceIte, not_false_eq_true, not_true_eq_false, Int.natCast_nonneg, Int.ofNat_lt, Int.ofNat_le, Bool.cond_true, Bool.cond_false, cond_true, cond_false, Bool.true_and, Bool.and_true, Bool.false_and, Bool.and_false, Bool.true_or, Bool.or_true, Bool.false_or, Bool.or_false, Bool.cond_true_left, Bool.cond_false_right, Bool.cond_true_right, Bool.cond_false_left, Int.lt_irrefl]
theorem f199_e (l : List Int) : f199 l = some (decide (l.length ≤ 80) || (decide (300 < l.length) && decide (l.length ≤ 302))) := by
  unfold f199
  have e1 : decide (((l.length : Nat) : Int) ≤ 80) = decide (l.length ≤ 80) := by rw [Bool.eq_iff_iff, decide_eq_true_eq, decide_eq_true_eq]; omega
  have e2 : decide ((300 : Int) < ((l.length : Nat) : Int)) = decide (300 < l.length) := by rw [Bool.eq_iff_iff, decide_eq_true_eq, decide_eq_true_eq]; omega
  have e3 : decide (((l.length : Nat) : Int) ≤ 302) = decide (l.length ≤ 302) := by rw [Bool.eq_iff_iff, decide_eq_true_eq, decide_eq_true_eq]; omega
  simp (disch := omega) only [obnd_s, obnd_n, oite_ss, oite_t, oite_f, ogrd_t, ogrd_f, obndS_l, obndS_r, ilt_eq, ile_eq, ieq_eq, imax_e, imin_e, List.length_map, Int.toNat_natCast, decide_true, decide_false, Bool.not_true, Bool.not_false, Bool.not_eq_true, Bool.false_eq_true, if_true, if_false, reduceIte, not_false_eq_true, not_true_eq_false, Int.natCast_nonneg, Int.ofNat_lt, Int.ofNat_le, Bool.cond_true, Bool.cond_false, cond_true, cond_false, Bool.true_and, Bool.and_true, Bool.false_and, Bool.and_false, Bool.true_or, Bool.or_true, Bool.false_or, Bool.or_false, Bool.cond_true_left, Bool.cond_false_right, Bool.cond_true_right, Bool.cond_false_left, e1, e2, e3]
end Go.Proofs.Ytmbekcealcjabaa.AM
