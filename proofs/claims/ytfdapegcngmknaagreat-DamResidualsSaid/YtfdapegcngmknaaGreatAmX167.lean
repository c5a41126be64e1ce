/- Plain law: DamResiduals (second part). Conditions: none. -/
import Derived.Test.YtfdapegcngmknaaGreatAmW167
namespace Go.Proofs.YtfdapegcngmknaaGreat.AM
set_option linter.unusedSimpArgs false
set_option linter.unusedVariables false
open Go Go.RowKit

def rr (f : Fit) (x : Rd) : Int × Int := (resid f x / f.d, -(-(resid f x) / f.d))
def rsL (f : Fit) (l : List Rd) (i : Nat) : List (Int × Int) := (List.range i).map fun j => rr f (gR l j)
theorem rsL_len {f : Fit} {l : List Rd} {i : Nat} : (rsL f l i).length = i := by simp [rsL]
theorem rsL_s {f : Fit} {l : List Rd} {i : Nat} : rsL f l i ++ [rr f (gR l i)] = rsL f l (i + 1) := by simp [rsL, List.range_succ]
theorem rsL_get {f : Fit} {l : List Rd} {i j : Nat} (h : j < i) : (rsL f l i)[j]? = some (rr f (gR l j)) := by simp [rsL, h]
theorem resid_w {f : Fit} {x : Rd} (hf : f.ok) (hx : rdP x) : IntKind.i64.wrap (IntKind.i64.wrap (f.d * x.2.2) - sm f x [0, 1, 2, 3, 4] 5) = resid f x := by
  have b1 := whole_b hf hx
  have b2 := @mul16 f.d x.2.2 (by have := hf.1; omega) hx.2.2
  rw [wr (n := f.d * x.2.2) (by omega) (by omega), wr (by omega) (by omega)]; rfl
theorem f99_e {f : Fit} {l : List Rd} (hf : f.ok) (hl : l.length ≤ 1000) (hx : ∀ j, j < l.length → rdP (gR l j)) : f99 l f.d f.p0 f.p1 f.p2 f.p3 f.p4 = some (rsL f l l.length) := by
  unfold f99
  rw [oloop_all (fun i => (rsL f l i, (i : Int))) l.length (r := rsL f l l.length) (e0 := (([] : List (Int × Int)), (0 : Int))) rfl ?_ ?_]; rfl
  · intro i hi
    have hp := hx i hi
    simp (disch := omega) only [obnd_s, obnd_n, oite_ss, oite_t, oite_f, ogrd_t, ogrd_f, obndS_l, obndS_r, ilt_eq, ile_eq, ieq_eq, imax_e, imin_e, List.length_map, Int.toNat_natCast, decide_true, decide_false, Bool.not_true, Bool.not_false, Bool.not_eq_true, Bool.false_eq_true, if_true, if_false, reduceIte, not_false_eq_true, not_true_eq_false, Int.natCast_nonneg, Int.ofNat_lt, Int.ofNat_le, Bool.cond_true, Bool.cond_false, cond_true, cond_false, Bool.true_and, Bool.and_true, Bool.false_and, Bool.and_false, Bool.true_or, Bool.or_true, Bool.false_or, Bool.or_false, Bool.cond_true_left, Bool.cond_false_right, Bool.cond_true_right, Bool.cond_false_left, hi, get_gR hi, f102_e hf hp, resid_w hf hp, f101_e hf.1 (resid_b hf hp), wr]
    rw [ogrd_fits (by simp [rsL_len]; omega) (by simp [rsL_len]; omega), show (resid f (gR l i) / f.d, -(-(resid f (gR l i)) / f.d)) = rr f (gR l i) from rfl, rsL_s]; rfl
  · simp (disch := omega) only [obnd_s, obnd_n, oite_ss, oite_t, oite_f, ogrd_t, ogrd_f, obndS_l, obndS_r, ilt_eq, ile_eq, ieq_eq, imax_e, imin_e, List.length_map, Int.toNat_natCast, decide_true, decide_false, Bool.not_true, Bool.not_false, Bool.not_eq_true, Bool.false_eq_true, if_true, if_false, reduceIte, not_false_eq_true, not_true_eq_false, Int.natCast_nonneg, Int.ofNat_lt, Int.ofNat_le, Bool.cond_true, Bool.cond_false, cond_true, cond_false, Bool.true_and, Bool.and_true, Bool.false_and, Bool.and_false, Bool.true_or, Bool.or_true, Bool.false_or, Bool.or_false, Bool.cond_true_left, Bool.cond_false_right, Bool.cond_true_right, Bool.cond_false_left, Int.lt_irrefl]
theorem f182_e {f : Fit} {l : List Rd} (hf : f.ok) (hl : l.length ≤ 1000) (hx : ∀ j, j < l.length → rdP (gR l j)) : f182 l f.d f.p0 f.p1 f.p2 f.p3 f.p4 = some (rsL f l l.length) := by
  unfold f182
  rw [oloop_all (fun i => (rsL f l i, (i : Int))) l.length (r := rsL f l l.length) (e0 := (([] : List (Int × Int)), (0 : Int))) rfl ?_ ?_]; rfl
  · intro i hi
    have hp := hx i hi
    simp (disch := omega) only [obnd_s, obnd_n, oite_ss, oite_t, oite_f, ogrd_t, ogrd_f, obndS_l, obndS_r, ilt_eq, ile_eq, ieq_eq, imax_e, imin_e, List.length_map, Int.toNat_natCast, decide_true, decide_false, Bool.not_true, Bool.not_false, Bool.not_eq_true, Bool.false_eq_true, if_true, if_false, reduceIte, not_false_eq_true, not_true_eq_false, Int.natCast_nonneg, Int.ofNat_lt, Int.ofNat_le, Bool.cond_true, Bool.cond_false, cond_true, cond_false, Bool.true_and, Bool.and_true, Bool.false_and, Bool.and_false, Bool.true_or, Bool.or_true, Bool.false_or, Bool.or_false, Bool.cond_true_left, Bool.cond_false_right, Bool.cond_true_right, Bool.cond_false_left, hi, get_gR hi, f192_e hf hp, f190_e hf.1.1 (resid_b hf hp), wr]
    rw [ogrd_fits (by simp [rsL_len]; omega) (by simp [rsL_len]; omega), show (resid f (gR l i) / f.d, -(-(resid f (gR l i)) / f.d)) = rr f (gR l i) from rfl, rsL_s]; rfl
  · simp (disch := omega) only [obnd_s, obnd_n, oite_ss, oite_t, oite_f, ogrd_t, ogrd_f, obndS_l, obndS_r, ilt_eq, ile_eq, ieq_eq, imax_e, imin_e, List.length_map, Int.toNat_natCast, decide_true, decide_false, Bool.not_true, Bool.not_false, Bool.not_eq_true, Bool.false_eq_true, if_true, if_false, reduceIte, not_false_eq_true, not_true_eq_false, Int.natCast_nonneg, Int.ofNat_lt, Int.ofNat_le, Bool.cond_true, Bool.cond_false, cond_true, cond_false, Bool.true_and, Bool.and_true, Bool.false_and, Bool.and_false, Bool.true_or, Bool.or_true, Bool.false_or, Bool.or_false, Bool.cond_true_left, Bool.cond_false_right, Bool.cond_true_right, Bool.cond_false_left, Int.lt_irrefl]
theorem f58_refl {l : List (Int × Int)} (hl : l.length ≤ 1000) : f58 l l = some true := by
  unfold f58
  rw [oloop_all (fun i => (i : Int)) l.length (r := (.inl () : Unit ⊕ Bool)) (e0 := (0 : Int)) rfl ?_ ?_]
  · simp (disch := omega) only [obnd_s, obnd_n, oite_ss, oite_t, oite_f, ogrd_t, ogrd_f, obndS_l, obndS_r, ilt_eq, ile_eq, ieq_eq, imax_e, imin_e, List.length_map, Int.toNat_natCast, decide_true, decide_false, Bool.not_true, Bool.not_false, Bool.not_eq_true, Bool.false_eq_true, if_true, if_false, reduceIte, not_false_eq_true, not_true_eq_false, Int.natCast_nonneg, Int.ofNat_lt, Int.ofNat_le, Bool.cond_true, Bool.cond_false, cond_true, cond_false, Bool.true_and, Bool.and_true, Bool.false_and, Bool.and_false, Bool.true_or, Bool.or_true, Bool.false_or, Bool.or_false, Bool.cond_true_left, Bool.cond_false_right, Bool.cond_true_right, Bool.cond_false_left]
  · intro i hi
    simp (disch := omega) only [obnd_s, obnd_n, oite_ss, oite_t, oite_f, ogrd_t, ogrd_f, obndS_l, obndS_r, ilt_eq, ile_eq, ieq_eq, imax_e, imin_e, List.length_map, Int.toNat_natCast, decide_true, decide_false, Bool.not_true, Bool.not_false, Bool.not_eq_true, Bool.false_eq_true, if_true, if_false, reduceIte, not_false_eq_true, not_true_eq_false, Int.natCast_nonneg, Int.ofNat_lt, Int.ofNat_le, Bool.cond_true, Bool.cond_false, cond_true, cond_false, Bool.true_and, Bool.and_true, Bool.false_and, Bool.and_false, Bool.true_or, Bool.or_true, Bool.false_or, Bool.or_false, Bool.cond_true_left, Bool.cond_false_right, Bool.cond_true_right, Bool.cond_false_left, hi, get_i hi, wr]; rfl
  · simp (disch := omega) only [obnd_s, obnd_n, oite_ss, oite_t, oite_f, ogrd_t, ogrd_f, obndS_l, obndS_r, ilt_eq, ile_eq, ieq_eq, imax_e, imin_e, List.length_map, Int.toNat_natCast, decide_true, decide_false, Bool.not_true, Bool.not_false, Bool.not_eq_true, Bool.false_eq_true, if_true, if_false, reduceIte, not_false_eq_true, not_true_eq_false, Int.natCast_nonneg, Int.ofNat_lt, Int.ofNat_le, Bool.cond_true, Bool.cond_false, cond_true, cond_false, Bool.true_and, Bool.and_true, Bool.false_and, Bool.and_false, Bool.true_or, Bool.or_true, Bool.false_or, Bool.or_false, Bool.cond_true_left, Bool.cond_false_right, Bool.cond_true_right, Bool.cond_false_left, Int.lt_irrefl]

/-! ### The spread -/
def ab (n : Int) : Int := max n (IntKind.i64.wrap (0 - n))
theorem f100_e (n : Int) : f100 n = some (ab n) := by unfold f100 ab; rw [imax_e]
theorem f109_e (n : Int) : f109 n = some (ab n) := by unfold f109 ab; rw [imax_e]
def spr (f : Fit) (l : List Rd) : Nat → Int
  | 0 => 0
  | i + 1 => max (max (spr f l i) (ab (rr f (gR l i)).1)) (ab (rr f (gR l i)).2)
theorem f183_e {f : Fit} {l : List Rd} (hf : f.ok) (hl : l.length ≤ 1000) (hx : ∀ j, j < l.length → rdP (gR l j)) : f183 l f.d f.p0 f.p1 f.p2 f.p3 f.p4 = some (spr f l l.length) := by
  unfold f183
  rw [f182_e hf hl hx]
  simp only [obnd_s, List.length_map, rsL_len]
  rw [oloop_all (fun i => (spr f l i, (i : Int))) l.length (r := spr f l l.length) (e0 := ((0 : Int), (0 : Int))) rfl ?_ ?_]; rfl
  · intro i hi
    simp (disch := omega) only [obnd_s, obnd_n, oite_ss, oite_t, oite_f, ogrd_t, ogrd_f, obndS_l, obndS_r, ilt_eq, ile_eq, ieq_eq, imax_e, imin_e, List.length_map, Int.toNat_natCast, decide_true, decide_false, Bool.not_true, Bool.not_false, Bool.not_eq_true, Bool.false_eq_true, if_true, if_false, reduceIte, not_false_eq_true, not_true_eq_false, Int.natCast_nonneg, Int.ofNat_lt, Int.ofNat_le, Bool.cond_true, Bool.cond_false, cond_true, cond_false, Bool.true_and, Bool.and_true, Bool.false_and, Bool.and_false, Bool.true_or, Bool.or_true, Bool.false_or, Bool.or_false, Bool.cond_true_left, Bool.cond_false_right, Bool.cond_true_right, Bool.cond_false_left, hi, rsL_get hi, f109_e, wr]; rfl
  · simp (disch := omega) only [obnd_s, obnd_n, oite_ss, oite_t, oite_f, ogrd_t, ogrd_f, obndS_l, obndS_r, ilt_eq, ile_eq, ieq_eq, imax_e, imin_e, List.length_map, Int.toNat_natCast, decide_true, decide_false, Bool.not_true, Bool.not_false, Bool.not_eq_true, Bool.false_eq_true, if_true, if_false, reduceIte, not_false_eq_true, not_true_eq_false, Int.natCast_nonneg, Int.ofNat_lt, Int.ofNat_le, Bool.cond_true, Bool.cond_false, cond_true, cond_false, Bool.true_and, Bool.and_true, Bool.false_and, Bool.and_false, Bool.true_or, Bool.or_true, Bool.false_or, Bool.or_false, Bool.cond_true_left, Bool.cond_false_right, Bool.cond_true_right, Bool.cond_false_left, Int.lt_irrefl]
def e2 (a b : Int) : Int := if a = 0 then b else a
theorem f56_e {f : Fit} {l : List Rd} (hl : l.length ≤ 1000) : f56 l f.d f.p0 f.p1 f.p2 f.p3 f.p4 = bif !decide (e2 (rdsE l) (fitE f.d f.p0 f.p1 f.p2 f.p3 f.p4) = 0) then some ([], e2 (rdsE l) (fitE f.d f.p0 f.p1 f.p2 f.p3 f.p4)) else obnd (f99 l f.d f.p0 f.p1 f.p2 f.p3 f.p4) fun y => some (y, 0) := by
  unfold f56
  rw [f93_e hl, f98_e]
  simp only [obnd_s, f63_2, fst2, ieq_eq]
  unfold e2
  cases (!decide ((if rdsE l = 0 then fitE f.d f.p0 f.p1 f.p2 f.p3 f.p4 else rdsE l) = 0)) <;> rfl
theorem rds_0 {l : List Rd} (h : rdsE l = 0) : l.length ≤ 12 ∧ ∀ j, j < l.length → rdP (gR l j) := by
  unfold rdsE at h
  cases h1 : decide (l.length = 0) with
  | true => rw [h1] at h; cases h
  | false =>
    cases h2 : decide (12 < l.length) with
    | true => rw [h1, h2] at h; cases h
    | false =>
      have h2 := of_decide_eq_false h2
      rw [h1, show decide (12 < l.length) = false from decide_eq_false h2] at h
      simp only [cond_false] at h
      refine ⟨by omega, fun j hj => rdE_0 ?_⟩
      cases hs : errR l l.length 0 with
      | some e =>
        exfalso
        rw [hs, Option.getD_some] at h
        have : ∀ (k i : Nat), errR l k i = some e → e ≠ 0 := by
          intro k
          induction k with
          | zero => intro i hk; cases hk
          | succ k ih =>
            intro i hk
            unfold errR at hk
            simp only [scanF] at hk
            by_cases h3 : rdE (gR l i) = 0
            · simp only [h3, decide_true, Bool.not_true, cond_false] at hk; exact ih (i + 1) hk
            · simp only [h3, decide_false, Bool.not_false, cond_true] at hk; injection hk with hk; rw [← hk]; exact h3
        exact this _ _ hs h
      | none =>
        have := scanF_none hs j (Nat.zero_le _) (by omega)
        by_cases h3 : rdE (gR l j) = 0
        · exact h3
        · simp only [h3, decide_false, Bool.not_false, cond_true] at this; cases this
theorem f57_bad {f : Fit} {l : List Rd} (hl : l.length ≤ 1000) (h : e2 (rdsE l) (fitE f.d f.p0 f.p1 f.p2 f.p3 f.p4) ≠ 0) : f57 l f.d f.p0 f.p1 f.p2 f.p3 f.p4 = some (0, e2 (rdsE l) (fitE f.d f.p0 f.p1 f.p2 f.p3 f.p4)) := by
  unfold f57
  rw [f56_e hl, decide_eq_false h]
  simp only [Bool.not_false, cond_true, obnd_s]
  rw [oloop_done (r := (0 : Int)) (by rfl)]; rfl
theorem f57_ok {f : Fit} {l : List Rd} (hl : l.length ≤ 1000) (h : e2 (rdsE l) (fitE f.d f.p0 f.p1 f.p2 f.p3 f.p4) = 0) (hf : f.ok) (hx : ∀ j, j < l.length → rdP (gR l j)) : f57 l f.d f.p0 f.p1 f.p2 f.p3 f.p4 = some (spr f l l.length, 0) := by
  unfold f57
  rw [f56_e hl, decide_eq_true h, f99_e hf hl hx]
  simp only [Bool.not_true, cond_false, obnd_s, List.length_map, rsL_len]
  rw [oloop_all (fun i => (spr f l i, (i : Int))) l.length (r := spr f l l.length) (e0 := ((0 : Int), (0 : Int))) rfl ?_ ?_]; rfl
  · intro i hi
    simp (disch := omega) only [obnd_s, obnd_n, oite_ss, oite_t, oite_f, ogrd_t, ogrd_f, obndS_l, obndS_r, ilt_eq, ile_eq, ieq_eq, imax_e, imin_e, List.length_map, Int.toNat_natCast, decide_true, decide_false, Bool.not_true, Bool.not_false, Bool.not_eq_true, Bool.false_eq_true, if_true, if_false, reduceIte, not_false_eq_true, not_true_eq_false, Int.natCast_nonneg, Int.ofNat_lt, Int.ofNat_le, Bool.cond_true, Bool.cond_false, cond_true, cond_false, Bool.true_and, Bool.and_true, Bool.false_and, Bool.and_false, Bool.true_or, Bool.or_true, Bool.false_or, Bool.or_false, Bool.cond_true_left, Bool.cond_false_right, Bool.cond_true_right, Bool.cond_false_left, hi, rsL_get hi, f100_e, wr]; rfl
  · simp (disch := omega) only [obnd_s, obnd_n, oite_ss, oite_t, oite_f, ogrd_t, ogrd_f, obndS_l, obndS_r, ilt_eq, ile_eq, ieq_eq, imax_e, imin_e, List.length_map, Int.toNat_natCast, decide_true, decide_false, Bool.not_true, Bool.not_false, Bool.not_eq_true, Bool.false_eq_true, if_true, if_false, reduceIte, not_false_eq_true, not_true_eq_false, Int.natCast_nonneg, Int.ofNat_lt, Int.ofNat_le, Bool.cond_true, Bool.cond_false, cond_true, cond_false, Bool.true_and, Bool.and_true, Bool.false_and, Bool.and_false, Bool.true_or, Bool.or_true, Bool.false_or, Bool.or_false, Bool.cond_true_left, Bool.cond_false_right, Bool.cond_true_right, Bool.cond_false_left, Int.lt_irrefl]

/-! ### Forecast and shares -/
theorem f184_e {f : Fit} {x : Rd} {l : List Rd} (hf : f.ok) (hp : rdP x) (hl : l.length ≤ 1000) (hx : ∀ j, j < l.length → rdP (gR l j)) : f184 l f.d f.p0 f.p1 f.p2 f.p3 f.p4 x.1 x.2.1 x.2.2 = some (IntKind.i64.wrap (sm f x [0, 1, 2, 3, 4] 5 / f.d - spr f l l.length), IntKind.i64.wrap (-(-(sm f x [0, 1, 2, 3, 4] 5) / f.d) + spr f l l.length)) := by
  have b1 := whole_b hf hp
  unfold f184
  rw [f191_31 hf hp]
  simp (disch := omega) only [obnd_s, obnd_n, oite_ss, oite_t, oite_f, ogrd_t, ogrd_f, obndS_l, obndS_r, ilt_eq, ile_eq, ieq_eq, imax_e, imin_e, List.length_map, Int.toNat_natCast, decide_true, decide_false, Bool.not_true, Bool.not_false, Bool.not_eq_true, Bool.false_eq_true, if_true, if_false, reduceIte, not_false_eq_true, not_true_eq_false, Int.natCast_nonneg, Int.ofNat_lt, Int.ofNat_le, Bool.cond_true, Bool.cond_false, cond_true, cond_false, Bool.true_and, Bool.and_true, Bool.false_and, Bool.and_false, Bool.true_or, Bool.or_true, Bool.false_or, Bool.or_false, Bool.cond_true_left, Bool.cond_false_right, Bool.cond_true_right, Bool.cond_false_left, f190_e hf.1.1 (show -100000000000000000 ≤ sm f x [0, 1, 2, 3, 4] 5 ∧ sm f x [0, 1, 2, 3, 4] 5 ≤ 100000000000000000 by omega), f183_e hf hl hx]
theorem f59_bad {f : Fit} {x : Rd} {l : List Rd} (hl : l.length ≤ 1000) (h : e2 (rdsE l) (fitE f.d f.p0 f.p1 f.p2 f.p3 f.p4) ≠ 0) : f59 l f.d f.p0 f.p1 f.p2 f.p3 f.p4 x.1 x.2.1 x.2.2 = some (0, 0, e2 (rdsE l) (fitE f.d f.p0 f.p1 f.p2 f.p3 f.p4)) := by
  unfold f59
  rw [f57_bad hl h, f33_e]
  simp only [obnd_s, f63_2, fst2, if_neg h, ieq_eq, decide_eq_false h, Bool.not_false, oite_t]
theorem f59_rd {f : Fit} {x : Rd} {l : List Rd} (hl : l.length ≤ 1000) (h : e2 (rdsE l) (fitE f.d f.p0 f.p1 f.p2 f.p3 f.p4) = 0) (hf : f.ok) (hx : ∀ j, j < l.length → rdP (gR l j)) (hr : rdE x ≠ 0) : f59 l f.d f.p0 f.p1 f.p2 f.p3 f.p4 x.1 x.2.1 x.2.2 = some (0, 0, rdE x) := by
  unfold f59
  rw [f57_ok hl h hf hx, f33_e]
  simp only [obnd_s, f63_2, fst2, ieq_eq, decide_eq_false hr, Bool.not_false, oite_t, if_true, reduceIte]
theorem f59_ok {f : Fit} {x : Rd} {l : List Rd} (hl : l.length ≤ 1000) (h : e2 (rdsE l) (fitE f.d f.p0 f.p1 f.p2 f.p3 f.p4) = 0) (hf : f.ok) (hx : ∀ j, j < l.length → rdP (gR l j)) (hr : rdE x = 0) : f59 l f.d f.p0 f.p1 f.p2 f.p3 f.p4 x.1 x.2.1 x.2.2 = some (IntKind.i64.wrap (sm f x [0, 1, 2, 3, 4] 5 / f.d - spr f l l.length), IntKind.i64.wrap (-(-(sm f x [0, 1, 2, 3, 4] 5) / f.d) + spr f l l.length), 0) := by
  have b1 := whole_b hf (rdE_0 hr)
  unfold f59
  rw [f57_ok hl h hf hx, f33_e, f102_e hf (rdE_0 hr)]
  simp only [obnd_s, f63_2, fst2, hr, ieq_eq, decide_true, Bool.not_true, oite_f, if_true, reduceIte]
  simp (disch := omega) only [obnd_s, obnd_n, oite_ss, oite_t, oite_f, ogrd_t, ogrd_f, obndS_l, obndS_r, ilt_eq, ile_eq, ieq_eq, imax_e, imin_e, List.length_map, Int.toNat_natCast, decide_true, decide_false, Bool.not_true, Bool.not_false, Bool.not_eq_true, Bool.false_eq_true, if_true, if_false, reduceIte, not_false_eq_true, not_true_eq_false, Int.natCast_nonneg, Int.ofNat_lt, Int.ofNat_le, Bool.cond_true, Bool.cond_false, cond_true, cond_false, Bool.true_and, Bool.and_true, Bool.false_and, Bool.and_false, Bool.true_or, Bool.or_true, Bool.false_or, Bool.or_false, Bool.cond_true_left, Bool.cond_false_right, Bool.cond_true_right, Bool.cond_false_left, f101_e hf.1 (show -100000000000000000 ≤ sm f x [0, 1, 2, 3, 4] 5 ∧ sm f x [0, 1, 2, 3, 4] 5 ≤ 100000000000000000 by omega)]
def shr (f : Fit) (x : Rd) : Int × Int × Int × Int × Int × Int := (sm f x [1] 1 / f.d, -(-(sm f x [1] 1) / f.d), sm f x [2, 3] 2 / f.d, -(-(sm f x [2, 3] 2) / f.d), sm f x [0, 4] 2 / f.d, -(-(sm f x [0, 4] 2) / f.d))
theorem part_b {f : Fit} {x : Rd} (hf : f.ok) (hx : rdP x) : (-100000000000000000 ≤ sm f x [1] 1 ∧ sm f x [1] 1 ≤ 100000000000000000) ∧ (-100000000000000000 ≤ sm f x [2, 3] 2 ∧ sm f x [2, 3] 2 ≤ 100000000000000000) ∧ (-100000000000000000 ≤ sm f x [0, 4] 2 ∧ sm f x [0, 4] 2 ≤ 100000000000000000) := by
  have h1 := smb hf hx [1] 1
  have h2 := smb hf hx [2, 3] 2
  have h3 := smb hf hx [0, 4] 2
  omega
theorem f181_e {f : Fit} {x : Rd} (hf : f.ok) (hx : rdP x) : f181 f.d f.p0 f.p1 f.p2 f.p3 f.p4 x.1 x.2.1 x.2.2 = some (shr f x) := by
  obtain ⟨b1, b2, b3⟩ := part_b hf hx
  unfold f181
  rw [f191_2 hf hx, f191_12 hf hx, f191_17 hf hx]
  simp only [obnd_s, f190_e hf.1.1 b1, f190_e hf.1.1 b2, f190_e hf.1.1 b3]
  rfl
theorem f179_ok {f : Fit} {x : Rd} (hf : f.ok) (hfe : fitE f.d f.p0 f.p1 f.p2 f.p3 f.p4 = 0) (hr : rdE x = 0) : f179 f.d f.p0 f.p1 f.p2 f.p3 f.p4 x.1 x.2.1 x.2.2 = some ((shr f x).1, (shr f x).2.1, (shr f x).2.2.1, (shr f x).2.2.2.1, (shr f x).2.2.2.2.1, (shr f x).2.2.2.2.2, 0) := by
  have hx := rdE_0 hr
  obtain ⟨b1, b2, b3⟩ := part_b hf hx
  have h1 : f117 f.d f.p0 f.p1 f.p2 f.p3 f.p4 x.1 x.2.1 x.2.2 [1] = some (sm f x [1] 1) := f117_e hf hx [1] (by decide) (by decide)
  have h2 : f117 f.d f.p0 f.p1 f.p2 f.p3 f.p4 x.1 x.2.1 x.2.2 [2, 3] = some (sm f x [2, 3] 2) := f117_e hf hx [2, 3] (by decide) (by decide)
  have h3 : f117 f.d f.p0 f.p1 f.p2 f.p3 f.p4 x.1 x.2.1 x.2.2 [0, 4] = some (sm f x [0, 4] 2) := f117_e hf hx [0, 4] (by decide) (by decide)
  unfold f179
  rw [f98_e, f33_e, h1, h2, h3, hfe, hr]
  simp only [obnd_s, f63_2, fst2, ieq_eq, decide_true, Bool.not_true, oite_f, if_true, reduceIte, f101_e hf.1 b1, f101_e hf.1 b2, f101_e hf.1 b3]
  rfl
theorem f179_bad {f : Fit} {x : Rd} (h : e2 (fitE f.d f.p0 f.p1 f.p2 f.p3 f.p4) (rdE x) ≠ 0) : f179 f.d f.p0 f.p1 f.p2 f.p3 f.p4 x.1 x.2.1 x.2.2 = some (0, 0, 0, 0, 0, 0, e2 (fitE f.d f.p0 f.p1 f.p2 f.p3 f.p4) (rdE x)) := by
  unfold f179
  rw [f98_e, f33_e]
  simp only [obnd_s, f63_2, fst2, ieq_eq]
  unfold e2 at h ⊢
  simp only [decide_eq_false h, Bool.not_false, oite_t]
theorem f53_e {l : List Rd} (hl : l.length ≤ 1000) : f53 l = some l := by
  unfold f53
  rw [ogrd_fits (by simp; omega) (by simp; omega), List.nil_append]
theorem f178_e (l : List Rd) : f178 l = some (decide ((l.length : Int) ≤ 14)) := by unfold f178; simp (disch := omega) only [obnd_s, obnd_n, oite_ss, oite_t, oite_f, ogrd_t, ogrd_f, obndS_l, obndS_r, ilt_eq, ile_eq, ieq_eq, imax_e, imin_e, List.length_map, Int.toNat_natCast, decide_true, decide_false, Bool.not_true, Bool.not_false, Bool.not_eq_true, Bool.false_eq_true, if_true, if_false, reduceIte, not_false_eq_true, not_true_eq_false, Int.natCast_nonneg, Int.ofNat_lt, Int.ofNat_le, Bool.cond_true, Bool.cond_false, cond_true, cond_false, Bool.true_and, Bool.and_true, Bool.false_and, Bool.and_false, Bool.true_or, Bool.or_true, Bool.false_or, Bool.or_false, Bool.cond_true_left, Bool.cond_false_right, Bool.cond_true_right, Bool.cond_false_left]

theorem f167_true (l : List Rd) (d p0 p1 p2 p3 p4 : Int) (x : Rd) : f167 l d p0 p1 p2 p3 p4 x.1 x.2.1 x.2.2 = some true := by
  let f : Fit := ⟨d, p0, p1, p2, p3, p4⟩
  show f167 l f.d f.p0 f.p1 f.p2 f.p3 f.p4 x.1 x.2.1 x.2.2 = some true
  generalize f = f
  unfold f167
  rw [f178_e]
  by_cases h0 : (l.length : Int) ≤ 14
  case neg => simp (disch := omega) only [obnd_s, obnd_n, oite_ss, oite_t, oite_f, ogrd_t, ogrd_f, obndS_l, obndS_r, ilt_eq, ile_eq, ieq_eq, imax_e, imin_e, List.length_map, Int.toNat_natCast, decide_true, decide_false, Bool.not_true, Bool.not_false, Bool.not_eq_true, Bool.false_eq_true, if_true, if_false, reduceIte, not_false_eq_true, not_true_eq_false, Int.natCast_nonneg, Int.ofNat_lt, Int.ofNat_le, Bool.cond_true, Bool.cond_false, cond_true, cond_false, Bool.true_and, Bool.and_true, Bool.false_and, Bool.and_false, Bool.true_or, Bool.or_true, Bool.false_or, Bool.or_false, Bool.cond_true_left, Bool.cond_false_right, Bool.cond_true_right, Bool.cond_false_left, h0, f10]
  have hl : l.length ≤ 1000 := by omega
  rw [f53_e hl]
  simp only [f10, obnd_s, Bool.not_true, oite_f, decide_eq_true h0]
  rw [f180_e, f32_e, f51_e hl]
  simp only [obnd_s]
  by_cases hfe : fitE f.d f.p0 f.p1 f.p2 f.p3 f.p4 = 0
  · have hf := fit_ok hfe
    rw [show (Fit.mk f.d f.p0 f.p1 f.p2 f.p3 f.p4) = f from rfl] at hf
    by_cases hr : rdE x = 0
    · rw [f179_ok hf hfe hr]
      by_cases hd : rdsE l = 0
      · obtain ⟨_, hx⟩ := rds_0 hd
        have he : e2 (rdsE l) (fitE f.d f.p0 f.p1 f.p2 f.p3 f.p4) = 0 := by unfold e2; rw [if_pos hd, hfe]
        rw [f57_ok hl he hf hx, f56_e hl, f59_ok hl he hf hx hr, f99_e hf hl hx, f182_e hf hl hx, f183_e hf hl hx, f184_e hf (rdE_0 hr) hl hx, f181_e hf (rdE_0 hr), he, hfe, hr, hd]
        simp (disch := omega) only [obnd_s, obnd_n, oite_ss, oite_t, oite_f, ogrd_t, ogrd_f, obndS_l, obndS_r, ilt_eq, ile_eq, ieq_eq, imax_e, imin_e, List.length_map, Int.toNat_natCast, decide_true, decide_false, Bool.not_true, Bool.not_false, Bool.not_eq_true, Bool.false_eq_true, if_true, if_false, reduceIte, not_false_eq_true, not_true_eq_false, Int.natCast_nonneg, Int.ofNat_lt, Int.ofNat_le, Bool.cond_true, Bool.cond_false, cond_true, cond_false, Bool.true_and, Bool.and_true, Bool.false_and, Bool.and_false, Bool.true_or, Bool.or_true, Bool.false_or, Bool.or_false, Bool.cond_true_left, Bool.cond_false_right, Bool.cond_true_right, Bool.cond_false_left, f58_refl (l := rsL f l l.length) (by rw [rsL_len]; omega)]
      · have he : e2 (rdsE l) (fitE f.d f.p0 f.p1 f.p2 f.p3 f.p4) = rdsE l := by unfold e2; rw [if_neg hd]
        have he' : e2 (rdsE l) (fitE f.d f.p0 f.p1 f.p2 f.p3 f.p4) ≠ 0 := by rw [he]; exact hd
        rw [f57_bad hl he', f56_e hl, f59_bad hl he', he, hfe, hr, f181_e hf (rdE_0 hr)]
        simp (disch := omega) only [obnd_s, obnd_n, oite_ss, oite_t, oite_f, ogrd_t, ogrd_f, obndS_l, obndS_r, ilt_eq, ile_eq, ieq_eq, imax_e, imin_e, List.length_map, Int.toNat_natCast, decide_true, decide_false, Bool.not_true, Bool.not_false, Bool.not_eq_true, Bool.false_eq_true, if_true, if_false, reduceIte, not_false_eq_true, not_true_eq_false, Int.natCast_nonneg, Int.ofNat_lt, Int.ofNat_le, Bool.cond_true, Bool.cond_false, cond_true, cond_false, Bool.true_and, Bool.and_true, Bool.false_and, Bool.and_false, Bool.true_or, Bool.or_true, Bool.false_or, Bool.or_false, Bool.cond_true_left, Bool.cond_false_right, Bool.cond_true_right, Bool.cond_false_left, hd, List.length_nil]
        rfl
    · have h3 : e2 (fitE f.d f.p0 f.p1 f.p2 f.p3 f.p4) (rdE x) = rdE x := by unfold e2; rw [if_pos hfe]
      rw [f179_bad (by rw [h3]; exact hr), h3]
      by_cases hd : rdsE l = 0
      · obtain ⟨_, hx⟩ := rds_0 hd
        have he : e2 (rdsE l) (fitE f.d f.p0 f.p1 f.p2 f.p3 f.p4) = 0 := by unfold e2; rw [if_pos hd, hfe]
        rw [f57_ok hl he hf hx, f56_e hl, f59_rd hl he hf hx hr, f99_e hf hl hx, f182_e hf hl hx, f183_e hf hl hx, he, hfe, hd]
        simp (disch := omega) only [obnd_s, obnd_n, oite_ss, oite_t, oite_f, ogrd_t, ogrd_f, obndS_l, obndS_r, ilt_eq, ile_eq, ieq_eq, imax_e, imin_e, List.length_map, Int.toNat_natCast, decide_true, decide_false, Bool.not_true, Bool.not_false, Bool.not_eq_true, Bool.false_eq_true, if_true, if_false, reduceIte, not_false_eq_true, not_true_eq_false, Int.natCast_nonneg, Int.ofNat_lt, Int.ofNat_le, Bool.cond_true, Bool.cond_false, cond_true, cond_false, Bool.true_and, Bool.and_true, Bool.false_and, Bool.and_false, Bool.true_or, Bool.or_true, Bool.false_or, Bool.or_false, Bool.cond_true_left, Bool.cond_false_right, Bool.cond_true_right, Bool.cond_false_left, hr, f58_refl (l := rsL f l l.length) (by rw [rsL_len]; omega)]
      · have he : e2 (rdsE l) (fitE f.d f.p0 f.p1 f.p2 f.p3 f.p4) = rdsE l := by unfold e2; rw [if_neg hd]
        have he' : e2 (rdsE l) (fitE f.d f.p0 f.p1 f.p2 f.p3 f.p4) ≠ 0 := by rw [he]; exact hd
        rw [f57_bad hl he', f56_e hl, f59_bad hl he', he, hfe]
        simp (disch := omega) only [obnd_s, obnd_n, oite_ss, oite_t, oite_f, ogrd_t, ogrd_f, obndS_l, obndS_r, ilt_eq, ile_eq, ieq_eq, imax_e, imin_e, List.length_map, Int.toNat_natCast, decide_true, decide_false, Bool.not_true, Bool.not_false, Bool.not_eq_true, Bool.false_eq_true, if_true, if_false, reduceIte, not_false_eq_true, not_true_eq_false, Int.natCast_nonneg, Int.ofNat_lt, Int.ofNat_le, Bool.cond_true, Bool.cond_false, cond_true, cond_false, Bool.true_and, Bool.and_true, Bool.false_and, Bool.and_false, Bool.true_or, Bool.or_true, Bool.false_or, Bool.or_false, Bool.cond_true_left, Bool.cond_false_right, Bool.cond_true_right, Bool.cond_false_left, hd, hr, List.length_nil]
        rfl
  · have h3 : e2 (fitE f.d f.p0 f.p1 f.p2 f.p3 f.p4) (rdE x) = fitE f.d f.p0 f.p1 f.p2 f.p3 f.p4 := by unfold e2; rw [if_neg hfe]
    rw [f179_bad (by rw [h3]; exact hfe), h3]
    have he' : e2 (rdsE l) (fitE f.d f.p0 f.p1 f.p2 f.p3 f.p4) ≠ 0 := by unfold e2; split <;> assumption
    rw [f57_bad hl he', f56_e hl, f59_bad hl he']
    by_cases hd : rdsE l = 0
    · have he : e2 (rdsE l) (fitE f.d f.p0 f.p1 f.p2 f.p3 f.p4) = fitE f.d f.p0 f.p1 f.p2 f.p3 f.p4 := by unfold e2; rw [if_pos hd]
      rw [he]
      simp (disch := omega) only [obnd_s, obnd_n, oite_ss, oite_t, oite_f, ogrd_t, ogrd_f, obndS_l, obndS_r, ilt_eq, ile_eq, ieq_eq, imax_e, imin_e, List.length_map, Int.toNat_natCast, decide_true, decide_false, Bool.not_true, Bool.not_false, Bool.not_eq_true, Bool.false_eq_true, if_true, if_false, reduceIte, not_false_eq_true, not_true_eq_false, Int.natCast_nonneg, Int.ofNat_lt, Int.ofNat_le, Bool.cond_true, Bool.cond_false, cond_true, cond_false, Bool.true_and, Bool.and_true, Bool.false_and, Bool.and_false, Bool.true_or, Bool.or_true, Bool.false_or, Bool.or_false, Bool.cond_true_left, Bool.cond_false_right, Bool.cond_true_right, Bool.cond_false_left, hd, hfe, List.length_nil]
      rfl
    · have he : e2 (rdsE l) (fitE f.d f.p0 f.p1 f.p2 f.p3 f.p4) = rdsE l := by unfold e2; rw [if_neg hd]
      rw [he]
      simp (disch := omega) only [obnd_s, obnd_n, oite_ss, oite_t, oite_f, ogrd_t, ogrd_f, obndS_l, obndS_r, ilt_eq, ile_eq, ieq_eq, imax_e, imin_e, List.length_map, Int.toNat_natCast, decide_true, decide_false, Bool.not_true, Bool.not_false, Bool.not_eq_true, Bool.false_eq_true, if_true, if_false, reduceIte, not_false_eq_true, not_true_eq_false, Int.natCast_nonneg, Int.ofNat_lt, Int.ofNat_le, Bool.cond_true, Bool.cond_false, cond_true, cond_false, Bool.true_and, Bool.and_true, Bool.false_and, Bool.and_false, Bool.true_or, Bool.or_true, Bool.false_or, Bool.or_false, Bool.cond_true_left, Bool.cond_false_right, Bool.cond_true_right, Bool.cond_false_left, hd, hfe, List.length_nil]
      rfl
end Go.Proofs.YtfdapegcngmknaaGreat.AM
