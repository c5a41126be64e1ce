/- Plain law: DamContained. Conditions: none. -/
import Derived.Test.YtacgibkgojnfeaaGreatAmD7
namespace Go.Proofs.YtacgibkgojnfeaaGreat.AM
section
set_option linter.unusedSimpArgs false
set_option linter.unusedVariables false
open Go Go.RowKit

theorem dmul_b {d m : Int} (hd : 1 ≤ d) (hm : -2000 ≤ m ∧ m ≤ 2000) : -(2000 * d) ≤ d * m ∧ d * m ≤ 2000 * d := by
  have h1 := Int.mul_nonneg (show 0 ≤ d by omega) (show 0 ≤ m + 2000 by omega)
  have h2 := Int.mul_nonneg (show 0 ≤ d by omega) (show 0 ≤ 2000 - m by omega)
  rw [Int.mul_add] at h1
  rw [Int.mul_sub] at h2
  omega
theorem div_b {n d K : Int} (hd : 1 ≤ d) (h : -(K * d) ≤ n ∧ n ≤ K * d) : -K ≤ n / d ∧ n / d ≤ K := by
  constructor
  · rw [Int.le_ediv_iff_mul_le (by omega), Int.neg_mul]; exact h.1
  · have : n / d < K + 1 := by
      rw [Int.ediv_lt_iff_lt_mul (by omega), Int.add_mul, Int.one_mul]
      omega
    omega
theorem rr_b {f : Fit} {x : Rd} (hf : f.ok) (hx : rdP x) : (-500000000002000 ≤ (rr f x).1 ∧ (rr f x).1 ≤ 500000000002000) ∧ (-500000000002000 ≤ (rr f x).2 ∧ (rr f x).2 ≤ 500000000002000) := by
  have h1 := whole_b hf hx
  have h2 := dmul_b hf.1.1 hx.2.2
  have hd := hf.1.1
  have h3 : -(500000000002000 * f.d) ≤ resid f x ∧ resid f x ≤ 500000000002000 * f.d := by unfold resid; omega
  have h4 := div_b hd h3
  have h5 := div_b (n := -(resid f x)) hd (K := 500000000002000) (by omega)
  simp only [rr]
  omega
theorem ab_b {n : Int} (h : -500000000002000 ≤ n ∧ n ≤ 500000000002000) : 0 ≤ ab n ∧ n ≤ ab n ∧ -n ≤ ab n ∧ ab n ≤ 500000000002000 := by
  unfold ab
  rw [wr (by omega) (by omega)]
  omega
theorem spr_b {f : Fit} {l : List Rd} (hf : f.ok) (hx : ∀ j, j < l.length → rdP (gR l j)) : ∀ n, n ≤ l.length → 0 ≤ spr f l n ∧ spr f l n ≤ 500000000002000
  | 0, _ => by simp [spr]
  | n + 1, h => by
    have h1 := spr_b hf hx n (by omega)
    obtain ⟨h2, h3⟩ := rr_b hf (hx n (by omega))
    have h4 := ab_b h2
    have h5 := ab_b h3
    simp only [spr]; omega
theorem spr_ge {f : Fit} {l : List Rd} (hf : f.ok) (hx : ∀ j, j < l.length → rdP (gR l j)) : ∀ n, n ≤ l.length → ∀ j, j < n → -(spr f l n) ≤ (rr f (gR l j)).1 ∧ (rr f (gR l j)).2 ≤ spr f l n
  | 0, _, j, h => by omega
  | n + 1, h, j, hj => by
    obtain ⟨h2, h3⟩ := rr_b hf (hx n (by omega))
    have h4 := ab_b h2
    have h5 := ab_b h3
    simp only [spr]
    by_cases hjn : j = n
    · subst hjn; omega
    · have := spr_ge hf hx n (by omega) j (by omega); omega
/-- A reading by which a fit was made lies in its own forecast. -/
theorem mov_in {f : Fit} {x : Rd} {n : Int} (hf : f.ok) (h1 : -n ≤ (rr f x).1) (h2 : (rr f x).2 ≤ n) : sm f x [0, 1, 2, 3, 4] 5 / f.d - n ≤ x.2.2 ∧ x.2.2 ≤ sm f x [0, 1, 2, 3, 4] 5 / f.d + n := by
  have hd := hf.1.1
  simp only [rr] at h1 h2
  have h3 : -n * f.d ≤ resid f x := by rw [← Int.le_ediv_iff_mul_le (by omega)]; exact h1
  have h4 : -n * f.d ≤ -(resid f x) := by rw [← Int.le_ediv_iff_mul_le (by omega)]; omega
  rw [Int.neg_mul] at h3 h4
  unfold resid at h3 h4
  rw [Int.mul_comm f.d x.2.2] at h3 h4
  constructor
  · have : sm f x [0, 1, 2, 3, 4] 5 / f.d < x.2.2 + n + 1 := by
      rw [Int.ediv_lt_iff_lt_mul (by omega), Int.add_mul, Int.add_mul, Int.one_mul]; omega
    omega
  · have : x.2.2 - n ≤ sm f x [0, 1, 2, 3, 4] 5 / f.d := by
      rw [Int.le_ediv_iff_mul_le (by omega), Int.sub_mul]; omega
    omega
theorem parts_sum {f : Fit} {x : Rd} : sm f x [1] 1 + sm f x [2, 3] 2 + sm f x [0, 4] 2 = sm f x [0, 1, 2, 3, 4] 5 := by
  simp only [sm, List.getD_cons_zero, List.getD_cons_succ, Int.zero_add]
  omega
theorem fl_sum {a b c d : Int} (hd : 1 ≤ d) : a / d + b / d + c / d ≤ (a + b + c) / d := by
  rw [Int.le_ediv_iff_mul_le (by omega), Int.add_mul, Int.add_mul]
  have h1 := Int.ediv_mul_le a (show d ≠ 0 by omega)
  have h2 := Int.ediv_mul_le b (show d ≠ 0 by omega)
  have h3 := Int.ediv_mul_le c (show d ≠ 0 by omega)
  omega
theorem fl_ceil {a d : Int} (hd : 1 ≤ d) : a / d ≤ -(-a / d) := by
  have h := @ceil_if a d hd
  rw [h]; split <;> omega
theorem part_q {f : Fit} {x : Rd} (hf : f.ok) (hx : rdP x) : ∀ {N : List Nat} {i : Nat}, i ≤ 2 → (-200000000000000 ≤ sm f x N i / f.d ∧ sm f x N i / f.d ≤ 200000000000000) ∧ (-200000000000000 ≤ -(-(sm f x N i) / f.d) ∧ -(-(sm f x N i) / f.d) ≤ 200000000000000) := by
  intro N i hi
  have h1 := smb hf hx N i
  have hd := hf.1.1
  have h2 := div_b (n := sm f x N i) hd (K := 200000000000000) (by omega)
  have h3 := div_b (n := -(sm f x N i)) hd (K := 200000000000000) (by omega)
  omega
theorem whole_q {f : Fit} {x : Rd} (hf : f.ok) (hx : rdP x) : (-500000000000000 ≤ sm f x [0, 1, 2, 3, 4] 5 / f.d ∧ sm f x [0, 1, 2, 3, 4] 5 / f.d ≤ 500000000000000) ∧ (-500000000000000 ≤ -(-(sm f x [0, 1, 2, 3, 4] 5) / f.d) ∧ -(-(sm f x [0, 1, 2, 3, 4] 5) / f.d) ≤ 500000000000000) := by
  have h1 := whole_b hf hx
  have hd := hf.1.1
  have h2 := div_b (n := sm f x [0, 1, 2, 3, 4] 5) hd (K := 500000000000000) (by omega)
  have h3 := div_b (n := -(sm f x [0, 1, 2, 3, 4] 5)) hd (K := 500000000000000) (by omega)
  omega
/-- All of the forecast lies within the sum of its shares. -/
theorem shr_sum {f : Fit} {x : Rd} (hf : f.ok) : (shr f x).1 + (shr f x).2.2.1 + (shr f x).2.2.2.2.1 ≤ sm f x [0, 1, 2, 3, 4] 5 / f.d ∧ -(-(sm f x [0, 1, 2, 3, 4] 5) / f.d) ≤ (shr f x).2.1 + (shr f x).2.2.2.1 + (shr f x).2.2.2.2.2 := by
  have hd := hf.1.1
  have h1 := @fl_sum (sm f x [1] 1) (sm f x [2, 3] 2) (sm f x [0, 4] 2) f.d hd
  have h2 := @fl_sum (-(sm f x [1] 1)) (-(sm f x [2, 3] 2)) (-(sm f x [0, 4] 2)) f.d hd
  rw [parts_sum] at h1
  rw [show -(sm f x [1] 1) + -(sm f x [2, 3] 2) + -(sm f x [0, 4] 2) = -(sm f x [0, 1, 2, 3, 4] 5) by rw [← parts_sum]; omega] at h2
  simp only [shr]
  omega
end
section
set_option linter.unusedSimpArgs false
set_option linter.unusedVariables false
open Go Go.RowKit

theorem f52_e (s : Int) : f52 s = some (bif decide (1 ≤ s) && decide (s ≤ 31) then 0 else 2) := by
  unfold f52; rw [f15_e]
  cases (decide (1 ≤ s) && decide (s ≤ 31)) <;> rfl
theorem f94_0 {s : Int} (h : 1 ≤ s ∧ s ≤ 31) : f94 s = some 0 := by
  unfold f94; rw [f65_e, decide_eq_true h.1, decide_eq_true h.2]; rfl
theorem rdE_of {x : Rd} (h : rdP x) : rdE x = 0 := by
  obtain ⟨⟨h1, h2⟩, ⟨h3, h4⟩, h5, h6⟩ := h
  unfold rdE rdB
  rw [decide_eq_true h1, decide_eq_true h2, decide_eq_true h3, decide_eq_true h4, decide_eq_true h5, decide_eq_true h6]; rfl
/-- A fit that is returned. -/
theorem fitR_c (d p0 p1 p2 p3 p4 : Int) : fitR d p0 p1 p2 p3 p4 = (0, 0, 0, 0, 0, 0, 12) ∨ fitR d p0 p1 p2 p3 p4 = (0, 0, 0, 0, 0, 0, 8) ∨ ∃ f : Fit, fitE f.d f.p0 f.p1 f.p2 f.p3 f.p4 = 0 ∧ fitR d p0 p1 p2 p3 p4 = (f.d, f.p0, f.p1, f.p2, f.p3, f.p4, 0) := by
  unfold fitR
  split
  · exact .inl rfl
  · split
    · exact .inr (.inl rfl)
    · rename_i _ h
      exact .inr (.inr ⟨⟨_, _, _, _, _, _⟩, Decidable.of_not_not h, rfl⟩)
theorem smallD {l : List Rd} {s : Int} (hl : l.length ≤ 12) (hx : ∀ j, j < l.length → rdP (gR l j)) : small (dD l s) := by
  rw [dD_e hl hx]
  have := DD_b (s := s) hl hx
  unfold small; omega
theorem smallO {l : List Rd} {s : Int} (hl : l.length ≤ 12) (hx : ∀ j, j < l.length → rdP (gR l j)) (k : Nat) : small (dO l s k) := by
  rw [dO_e hl hx]
  have := DK_b (s := s) hl hx k
  unfold small; omega
theorem dev_0 {lo hi m : Int} (h1 : lo ≤ m) (h2 : m ≤ hi) (h3 : -1000000 ≤ lo) (h4 : hi ≤ 1000000) : f42 lo hi m = some (0, 0) := by
  rw [f42_e]
  have v1 : val lo = true := by unfold val; rw [decide_eq_true (by omega), decide_eq_true (by omega)]; rfl
  have v2 : val hi = true := by unfold val; rw [decide_eq_true (by omega), decide_eq_true (by omega)]; rfl
  have v3 : val m = true := by unfold val; rw [decide_eq_true (by omega), decide_eq_true (by omega)]; rfl
  rw [v1, v2, v3, decide_eq_false (show ¬ hi < lo by omega), wr (by omega) (by omega), wr (by omega) (by omega)]
  show some (max (max 0 (lo - m)) (m - hi), (0 : Int)) = _
  rw [show max (max 0 (lo - m)) (m - hi) = 0 by omega]
theorem f42_any (lo hi m : Int) : ∃ y, f42 lo hi m = some y := ⟨_, f42_e lo hi m⟩
set_option maxHeartbeats 1000000 in
theorem f168_true (l : List Rd) (s : Int) : f168 l s = some true := by
  unfold f168
  rw [show f10 = some true from rfl]
  simp only [obnd_s, Bool.not_true, oite_f]
  rw [f178_e]
  by_cases h14 : l.length ≤ 14
  case neg => rw [decide_eq_false (by omega)]; rfl
  rw [decide_eq_true (by omega), f51_e (by omega), f52_e]
  by_cases hE : rdsE l = 0
  case neg => simp only [obnd_s, Bool.not_true, oite_f, ieq_eq, decide_eq_false hE, Bool.not_false, oite_t]
  by_cases hs : 1 ≤ s ∧ s ≤ 31
  case neg =>
    have : (decide (1 ≤ s) && decide (s ≤ 31)) = false := by
      rw [Bool.and_eq_false_iff, decide_eq_false_iff_not, decide_eq_false_iff_not]; omega
    rw [this]
    simp only [obnd_s, Bool.not_true, oite_f, ieq_eq, decide_eq_true hE, cond_false]; rfl
  rw [decide_eq_true hs.1, decide_eq_true hs.2]
  obtain ⟨hl, hx⟩ := rds_0 hE
  simp only [obnd_s, Bool.not_true, oite_f, ieq_eq, decide_eq_true hE, Bool.and_true, cond_true, decide_true, f53_e (show l.length ≤ 1000 by omega)]
  rw [f55_e hl hx hE (f94_0 hs) (smallD hl hx) (fun k _ => smallO hl hx k)]
  simp only [obnd_s]
  rcases fitR_c (dD l s) (pS l s (gN s) 0) (pS l s (gN s) 1) (pS l s (gN s) 2) (pS l s (gN s) 3) (pS l s (gN s) 4) with h | h | ⟨f, hfe, h⟩
  · rw [h]; rfl
  · rw [h]; rfl
  rw [h]
  have hf : f.ok := fit_ok hfe
  have he2 : e2 (rdsE l) (fitE f.d f.p0 f.p1 f.p2 f.p3 f.p4) = 0 := by unfold e2; rw [if_pos hE]; exact hfe
  have hsp := spr_b hf hx l.length (Nat.le_refl _)
  simp only [decide_true, Bool.not_true, oite_f, f57_ok (show l.length ≤ 1000 by omega) he2 hf hx, obnd_s, f15_e]
  rw [decide_eq_true hsp.1, decide_eq_true (show spr f l l.length ≤ 1125899906842624 by omega)]
  simp only [Bool.and_true, Bool.not_true, oite_f]
  rw [oloop_all (fun i => (i : Int)) l.length (r := (.inl () : Unit ⊕ Bool)) (e0 := (0 : Int)) rfl ?_ ?_]
  · rfl
  · intro i hi
    have hp := hx i hi
    have hr := rdE_of hp
    have hq := whole_q hf hp
    obtain ⟨g1, g2⟩ := spr_ge hf hx l.length (Nat.le_refl _) i hi
    have hm := mov_in hf g1 g2
    have hc : sm f (gR l i) [0, 1, 2, 3, 4] 5 / f.d ≤ -(-(sm f (gR l i) [0, 1, 2, 3, 4] 5) / f.d) := fl_ceil hf.1.1
    have s1 := part_q hf hp (N := [1]) (i := 1) (by omega)
    have s2 := part_q hf hp (N := [2, 3]) (i := 2) (by omega)
    have s3 := part_q hf hp (N := [0, 4]) (i := 2) (by omega)
    have c1 : sm f (gR l i) [1] 1 / f.d ≤ -(-(sm f (gR l i) [1] 1) / f.d) := fl_ceil hf.1.1
    have c2 : sm f (gR l i) [2, 3] 2 / f.d ≤ -(-(sm f (gR l i) [2, 3] 2) / f.d) := fl_ceil hf.1.1
    have c3 : sm f (gR l i) [0, 4] 2 / f.d ≤ -(-(sm f (gR l i) [0, 4] 2) / f.d) := fl_ceil hf.1.1
    have sh := shr_sum (f := f) (x := gR l i) hf
    simp only [shr] at sh
    simp only [List.length_map, ilt_t (show (i : Int) < ((l.length : Nat) : Int) by omega), ile_t (show 0 ≤ (i : Int) by omega), oite_t, ogrd_t, Int.toNat_natCast, get_gR hi, obnd_s, f53_e (show l.length ≤ 1000 by omega), f59_ok (show l.length ≤ 1000 by omega) he2 hf hx hr, f179_ok hf hfe hr, w_succ (show i < 1000000 by omega), shr]
    rw [wr (n := sm f (gR l i) [0, 1, 2, 3, 4] 5 / f.d - spr f l l.length) (by omega) (by omega), wr (n := -(-(sm f (gR l i) [0, 1, 2, 3, 4] 5) / f.d) + spr f l l.length) (by omega) (by omega)]
    generalize hA : sm f (gR l i) [0, 1, 2, 3, 4] 5 / f.d = A at *
    generalize hB : -(-(sm f (gR l i) [0, 1, 2, 3, 4] 5) / f.d) = B at *
    generalize hS : spr f l l.length = S at *
    generalize sm f (gR l i) [1] 1 / f.d = a1 at *
    generalize -(-(sm f (gR l i) [1] 1) / f.d) = b1 at *
    generalize sm f (gR l i) [2, 3] 2 / f.d = a2 at *
    generalize -(-(sm f (gR l i) [2, 3] 2) / f.d) = b2 at *
    generalize sm f (gR l i) [0, 4] 2 / f.d = a3 at *
    generalize -(-(sm f (gR l i) [0, 4] 2) / f.d) = b3 at *
    generalize hM : (gR l i).2.2 = M at *
    have hM2 := hp.2.2
    rw [hM] at hM2
    simp only [ieq_eq, decide_true, Bool.not_true, oite_f, f15_e]
    rw [decide_eq_true (show A - S ≤ M by omega), decide_eq_true (show M ≤ B + S by omega)]
    simp only [Bool.and_true, Bool.not_true, oite_f]
    rw [decide_eq_true (show -1125899906842624 ≤ a1 by omega), decide_eq_true (show a1 ≤ 1125899906842624 by omega), decide_eq_true (show -1125899906842624 ≤ a2 by omega), decide_eq_true (show a2 ≤ 1125899906842624 by omega), decide_eq_true (show -1125899906842624 ≤ a3 by omega), decide_eq_true (show a3 ≤ 1125899906842624 by omega),
      decide_eq_true (show a1 ≤ b1 by omega), decide_eq_true (show b1 ≤ 1125899906842624 by omega), decide_eq_true (show a2 ≤ b2 by omega), decide_eq_true (show b2 ≤ 1125899906842624 by omega), decide_eq_true (show a3 ≤ b3 by omega), decide_eq_true (show b3 ≤ 1125899906842624 by omega)]
    rw [wr (n := 0 - S) (by omega) (by omega), wr (n := 0 - S + a1) (by omega) (by omega), wr (n := 0 - S + a1 + a2) (by omega) (by omega), wr (n := 0 - S + a1 + a2 + a3) (by omega) (by omega), wr (n := S + b1) (by omega) (by omega), wr (n := S + b1 + b2) (by omega) (by omega), wr (n := S + b1 + b2 + b3) (by omega) (by omega)]
    rw [ilt_f (show 0 - S + a1 + a2 + a3 ≤ A - S by omega), ilt_f (show B + S ≤ S + b1 + b2 + b3 by omega)]
    by_cases hv : -1000000 ≤ A - S ∧ B + S ≤ 1000000
    · rw [dev_0 (show A - S ≤ M by omega) (show M ≤ B + S by omega) hv.1 hv.2]
      rw [decide_eq_true (show -1000000 ≤ A - S by omega), decide_eq_true (show A - S ≤ 1000000 by omega), decide_eq_true (show -1000000 ≤ B + S by omega), decide_eq_true (show B + S ≤ 1000000 by omega)]
      rfl
    · obtain ⟨y, hy⟩ := f42_any (A - S) (B + S) M
      rw [hy]
      by_cases hv1 : -1000000 ≤ A - S
      · rw [decide_eq_true hv1, decide_eq_false (show ¬ B + S ≤ 1000000 by omega)]
        cases decide (A - S ≤ 1000000) <;> cases decide (-1000000 ≤ B + S) <;> rfl
      · rw [decide_eq_false hv1]; rfl
  · simp only [List.length_map, ilt_f (Int.le_refl ((l.length : Nat) : Int)), oite_f]
end
end Go.Proofs.YtacgibkgojnfeaaGreat.AM
