/- Plain laws: readings, fits, residuals, forecasts (out of the texts of other laws). Conditions: none. -/
import Derived.Test.YtacgibkgojnfeaaAmP0
import Derived.Test.YtacgibkgojnfeaaAmLf
namespace Go.Proofs.Ytacgibkgojnfeaa.AM
set_option linter.unusedSimpArgs false
set_option linter.unusedVariables false
open Go Go.RowKit

theorem f64_e (b : Bool) (e : Int) : f64 b e = some (if b = true then 0 else e) := by unfold f64; cases b <;> rfl
theorem f65_e (n lo hi : Int) : f65 n lo hi = some (decide (lo ≤ n) && decide (n ≤ hi)) := by unfold f65; simp (disch := omega) only [obnd_s, obnd_n, oite_ss, oite_t, oite_f, ogrd_t, ogrd_f, obndS_l, obndS_r, ilt_eq, ile_eq, ieq_eq, imax_e, imin_e, k0, k1, k2, k3, k4, k5, k6, k7, k8, k9, reduceIte, k10, k11, k12, k13, k14, k15, k16, k17, k18, k19, k20, k21, k22, k23, k24, k25, k26, k27, k28]
theorem f15_e (n lo hi : Int) : f15 n lo hi = some (decide (lo ≤ n) && decide (n ≤ hi)) := by unfold f15; simp (disch := omega) only [obnd_s, obnd_n, oite_ss, oite_t, oite_f, ogrd_t, ogrd_f, obndS_l, obndS_r, ilt_eq, ile_eq, ieq_eq, imax_e, imin_e, k0, k1, k2, k3, k4, k5, k6, k7, k8, k9, reduceIte, k10, k11, k12, k13, k14, k15, k16, k17, k18, k19, k20, k21, k22, k23, k24, k25, k26, k27, k28]
/-- The first that is not 0. -/
def fstN : List Int → Int
  | [] => 0
  | x :: r => if x = 0 then fstN r else x
theorem getD_i {α : Type} {l : List α} {i : Nat} {d : α} (h : i < l.length) : l.getD i d = l[i] := by rw [List.getD_eq_getElem?_getD, List.getElem?_eq_getElem h]; rfl
theorem scan_fst : ∀ (k : Nat) (l : List Int) (i : Nat), i + k = l.length → (scanF (fun i => bif !decide (l.getD i 0 = 0) then some (.inr (l.getD i 0) : Unit ⊕ Int) else none) k i).getD (.inl ()) = if fstN (l.drop i) = 0 then .inl () else .inr (fstN (l.drop i))
  | 0, l, i, h => by rw [List.drop_eq_nil_of_le (by omega)]; simp [scanF, fstN]
  | k + 1, l, i, h => by
    have hi : i < l.length := by omega
    rw [List.drop_eq_getElem_cons hi]
    simp only [scanF, fstN, getD_i hi]
    by_cases h0 : l[i] = 0
    · simp only [h0, decide_true, Bool.not_true, cond_false, if_true]; exact scan_fst k l (i + 1) (by omega)
    · simp [h0]
theorem f63_e {l : List Int} (hl : l.length < 4611686018427387904) : f63 l = some (fstN l) := by
  unfold f63
  rw [oloop_scanB (fun i => (i : Int)) l.length (fun i => !decide (l.getD i 0 = 0)) (fun i => .inr (l.getD i 0)) (d := .inl ()) (e0 := 0) rfl ?_ ?_, scan_fst l.length l 0 (by omega)]
  · rw [List.drop_zero]
    by_cases h : fstN l = 0
    · rw [if_pos h, h]; rfl
    · rw [if_neg h]; rfl
  · intro i hi
    rw [getD_i hi]
    simp (disch := omega) only [obnd_s, obnd_n, oite_ss, oite_t, oite_f, ogrd_t, ogrd_f, obndS_l, obndS_r, ilt_eq, ile_eq, ieq_eq, imax_e, imin_e, k0, k1, k2, k3, k4, k5, k6, k7, k8, k9, reduceIte, k10, k11, k12, k13, k14, k15, k16, k17, k18, k19, k20, k21, k22, k23, k24, k25, k26, k27, k28, hi, get_i hi, wr]; rfl
  · simp (disch := omega) only [obnd_s, obnd_n, oite_ss, oite_t, oite_f, ogrd_t, ogrd_f, obndS_l, obndS_r, ilt_eq, ile_eq, ieq_eq, imax_e, imin_e, k0, k1, k2, k3, k4, k5, k6, k7, k8, k9, reduceIte, k10, k11, k12, k13, k14, k15, k16, k17, k18, k19, k20, k21, k22, k23, k24, k25, k26, k27, k28, Int.lt_irrefl]
theorem ceq (k c : Nat) : decide ((c : Int) = (k : Int)) = decide (c = k) := by rw [Bool.eq_iff_iff, decide_eq_true_eq, decide_eq_true_eq]; exact Int.ofNat_inj
def findI {α : Type} (q : α → Bool) (l : List α) : Int := match l.findIdx? q with
  | some i => (i : Int)
  | none => -1
theorem scan_find {α ρ : Type} (q : α → Bool) (d : α) (k : Nat → ρ) : ∀ (n : Nat) (l : List α) (i : Nat), i + n = l.length → scanF (fun i => bif q (l.getD i d) then some (k i) else none) n i = ((l.drop i).findIdx? q).map fun j => k (i + j)
  | 0, l, i, h => by rw [List.drop_eq_nil_of_le (by omega)]; rfl
  | n + 1, l, i, h => by
    have hi : i < l.length := by omega
    rw [List.drop_eq_getElem_cons hi, List.findIdx?_cons]
    simp only [scanF, getD_i hi]
    cases hq : q l[i] with
    | true => simp
    | false =>
      simp only [cond_false, Bool.false_eq_true, if_false]
      rw [scan_find q d k n l (i + 1) (by omega)]
      cases (l.drop (i + 1)).findIdx? q with
      | none => rfl
      | some j => simp; congr 1; omega
theorem findI_any {α : Type} (q : α → Bool) (l : List α) : decide (0 ≤ findI q l) = l.any q := by
  unfold findI
  rw [← List.findIdx?_isSome]
  cases l.findIdx? q with
  | none => rfl
  | some i => simp
theorem fst2 (a b : Int) : fstN [a, b] = if a = 0 then b else a := by
  simp only [fstN]; repeat' split
  all_goals first | rfl | (symm; assumption) | (exfalso; omega) | omega
theorem f63_2 (a b : Int) : f63 [a, b] = some (fstN [a, b]) := f63_e (by simp)
theorem f70_e {p : Int → Option Bool} {l : List Int} (q : Int → Bool) (hp : ∀ x, x ∈ l → p x = some (q x)) (hl : l.length < 4611686018427387904) : f70 p l = some (findI q l) := by
  unfold f70
  rw [oloop_scanB (fun i => (i : Int)) l.length (fun i => q (l.getD i 0)) (fun i => .inr (i : Int)) (d := .inl ()) (e0 := 0) rfl ?_ ?_, scan_find q _ _ l.length l 0 (by omega)]
  · rw [List.drop_zero]; unfold findI
    cases l.findIdx? q with
    | none => rfl
    | some i => simp [obndS_r]
  · intro i hi
    rw [getD_i hi]
    have := hp l[i] (List.getElem_mem hi)
    simp (disch := omega) only [obnd_s, obnd_n, oite_ss, oite_t, oite_f, ogrd_t, ogrd_f, obndS_l, obndS_r, ilt_eq, ile_eq, ieq_eq, imax_e, imin_e, k0, k1, k2, k3, k4, k5, k6, k7, k8, k9, reduceIte, k10, k11, k12, k13, k14, k15, k16, k17, k18, k19, k20, k21, k22, k23, k24, k25, k26, k27, k28, hi, get_i hi, wr, this]; rfl
  · simp (disch := omega) only [obnd_s, obnd_n, oite_ss, oite_t, oite_f, ogrd_t, ogrd_f, obndS_l, obndS_r, ilt_eq, ile_eq, ieq_eq, imax_e, imin_e, k0, k1, k2, k3, k4, k5, k6, k7, k8, k9, reduceIte, k10, k11, k12, k13, k14, k15, k16, k17, k18, k19, k20, k21, k22, k23, k24, k25, k26, k27, k28, Int.lt_irrefl]
theorem f80_e {p : Int → Option Bool} {l : List Int} (q : Int → Bool) (hp : ∀ x, x ∈ l → p x = some (q x)) (hl : l.length < 4611686018427387904) : f80 p l = some (l.any q) := by
  unfold f80
  rw [f70_e q hp hl]
  simp (disch := omega) only [obnd_s, obnd_n, oite_ss, oite_t, oite_f, ogrd_t, ogrd_f, obndS_l, obndS_r, ilt_eq, ile_eq, ieq_eq, imax_e, imin_e, k0, k1, k2, k3, k4, k5, k6, k7, k8, k9, reduceIte, k10, k11, k12, k13, k14, k15, k16, k17, k18, k19, k20, k21, k22, k23, k24, k25, k26, k27, k28, findI_any]
def val (n : Int) : Bool := decide (-1000000 ≤ n) && decide (n ≤ 1000000)
theorem f84_e (n : Int) : f84 n = some (val n) := by
  unfold f84 f78
  have : IntKind.i64.wrap (0 - 1000000) = -1000000 := by rw [wr (by omega) (by omega)]; rfl
  simp (disch := omega) only [obnd_s, obnd_n, oite_ss, oite_t, oite_f, ogrd_t, ogrd_f, obndS_l, obndS_r, ilt_eq, ile_eq, ieq_eq, imax_e, imin_e, k0, k1, k2, k3, k4, k5, k6, k7, k8, k9, reduceIte, k10, k11, k12, k13, k14, k15, k16, k17, k18, k19, k20, k21, k22, k23, k24, k25, k26, k27, k28, f65_e, this]; rfl
theorem f42_e (lo hi m : Int) : f42 lo hi m = some (bif !(val lo && val hi && val m) then (0, 2) else bif decide (hi < lo) then (0, 9) else (max (max 0 (IntKind.i64.wrap (lo - m))) (IntKind.i64.wrap (m - hi)), 0)) := by
  unfold f42
  have e1 : decide (lo ≤ hi) = !decide (hi < lo) := by rw [← decide_not]; congr 1; exact propext (by omega)
  simp (disch := omega) only [obnd_s, obnd_n, oite_ss, oite_t, oite_f, ogrd_t, ogrd_f, obndS_l, obndS_r, ilt_eq, ile_eq, ieq_eq, imax_e, imin_e, k0, k1, k2, k3, k4, k5, k6, k7, k8, k9, reduceIte, k10, k11, k12, k13, k14, k15, k16, k17, k18, k19, k20, k21, k22, k23, k24, k25, k26, k27, k28, f84_e, f64_e, f63_2, fst2, e1]
  cases (val lo && val hi && val m) <;> cases decide (hi < lo) <;> rfl
theorem mulb {a t A T : Int} (ha : -A ≤ a ∧ a ≤ A) (ht : -T ≤ t ∧ t ≤ T) : -(A * T) ≤ a * t ∧ a * t ≤ A * T := by
  have h1 := Int.mul_nonneg (show 0 ≤ A - a by omega) (show 0 ≤ T + t by omega)
  have h2 := Int.mul_nonneg (show 0 ≤ A + a by omega) (show 0 ≤ T - t by omega)
  have h3 := Int.mul_nonneg (show 0 ≤ A - a by omega) (show 0 ≤ T - t by omega)
  have h4 := Int.mul_nonneg (show 0 ≤ A + a by omega) (show 0 ≤ T + t by omega)
  simp only [Int.sub_mul, Int.add_mul, Int.mul_sub, Int.mul_add] at h1 h2 h3 h4
  omega
theorem mul14 {a t : Int} (ha : -1000000000000 ≤ a ∧ a ≤ 1000000000000) (ht : -100 ≤ t ∧ t ≤ 100) : -100000000000000 ≤ a * t ∧ a * t ≤ 100000000000000 := by
  have := @mulb a t 1000000000000 100 ha ht; omega
theorem mul16 {a t : Int} (ha : -1000000000000 ≤ a ∧ a ≤ 1000000000000) (ht : -2000 ≤ t ∧ t ≤ 2000) : -2000000000000000 ≤ a * t ∧ a * t ≤ 2000000000000000 := by
  have := @mulb a t 1000000000000 2000 ha ht; omega
abbrev Rd := Int × Int × Int
def rdB (x : Rd) : Bool := decide (0 ≤ x.1) && decide (x.1 ≤ 36000) && (decide (-50 ≤ x.2.1) && decide (x.2.1 ≤ 50)) && (decide (-2000 ≤ x.2.2) && decide (x.2.2 ≤ 2000))
def rdE (x : Rd) : Int := bif rdB x then 0 else 2
theorem f78_e {n m : Int} (hm : 0 ≤ m ∧ m ≤ 1000000000000000) : f78 n m = some (decide (-m ≤ n) && decide (n ≤ m)) := by
  unfold f78
  rw [show IntKind.i64.wrap (0 - m) = -m by rw [wr (by omega) (by omega)]; omega]
  simp (disch := omega) only [obnd_s, obnd_n, oite_ss, oite_t, oite_f, ogrd_t, ogrd_f, obndS_l, obndS_r, ilt_eq, ile_eq, ieq_eq, imax_e, imin_e, k0, k1, k2, k3, k4, k5, k6, k7, k8, k9, reduceIte, k10, k11, k12, k13, k14, k15, k16, k17, k18, k19, k20, k21, k22, k23, k24, k25, k26, k27, k28, f65_e]
theorem f33_e (x : Rd) : f33 x.1 x.2.1 x.2.2 = some (rdE x) := by
  unfold f33 rdE rdB
  simp (disch := omega) only [obnd_s, obnd_n, oite_ss, oite_t, oite_f, ogrd_t, ogrd_f, obndS_l, obndS_r, ilt_eq, ile_eq, ieq_eq, imax_e, imin_e, k0, k1, k2, k3, k4, k5, k6, k7, k8, k9, reduceIte, k10, k11, k12, k13, k14, k15, k16, k17, k18, k19, k20, k21, k22, k23, k24, k25, k26, k27, k28, f65_e, f78_e (n := x.2.1) (m := 50) (by omega), f78_e (n := x.2.2) (m := 2000) (by omega), f64_e]
  cases (decide (0 ≤ x.1) && decide (x.1 ≤ 36000) && (decide (-50 ≤ x.2.1) && decide (x.2.1 ≤ 50)) && (decide (-2000 ≤ x.2.2) && decide (x.2.2 ≤ 2000))) <;> rfl
theorem f32_e (x : Rd) : f32 x.1 x.2.1 x.2.2 = some (rdE x) := by
  unfold f32 rdE rdB
  simp (disch := omega) only [obnd_s, obnd_n, oite_ss, oite_t, oite_f, ogrd_t, ogrd_f, obndS_l, obndS_r, ilt_eq, ile_eq, ieq_eq, imax_e, imin_e, k0, k1, k2, k3, k4, k5, k6, k7, k8, k9, reduceIte, k10, k11, k12, k13, k14, k15, k16, k17, k18, k19, k20, k21, k22, k23, k24, k25, k26, k27, k28, f15_e]
  cases (decide (0 ≤ x.1) && decide (x.1 ≤ 36000)) <;> cases (decide (-50 ≤ x.2.1) && decide (x.2.1 ≤ 50)) <;> cases (decide (-2000 ≤ x.2.2) && decide (x.2.2 ≤ 2000)) <;> rfl
def gR (l : List Rd) (i : Nat) : Rd := l.getD i (0, 0, 0)
theorem get_gR {l : List Rd} {i : Nat} (h : i < l.length) : l[i]? = some (gR l i) := by unfold gR; rw [getD_i h, List.getElem?_eq_getElem h]
def errR (l : List Rd) (k i : Nat) : Option Int := scanF (fun j => bif !decide (rdE (gR l j) = 0) then some (rdE (gR l j)) else none) k i
def rdsE (l : List Rd) : Int := bif decide (l.length = 0) then 10 else bif decide (12 < l.length) then 8 else (errR l l.length 0).getD 0
theorem f51_e {l : List Rd} (hl : l.length ≤ 1000) : f51 l = some (rdsE l) := by
  unfold f51 rdsE
  have e1 : decide (((l.length : Nat) : Int) = 0) = decide (l.length = 0) := ceq 0 _
  have e2 : decide ((12 : Int) < ((l.length : Nat) : Int)) = decide (12 < l.length) := by rw [Bool.eq_iff_iff, decide_eq_true_eq, decide_eq_true_eq]; omega
  simp (disch := omega) only [obnd_s, obnd_n, oite_ss, oite_t, oite_f, ogrd_t, ogrd_f, obndS_l, obndS_r, ilt_eq, ile_eq, ieq_eq, imax_e, imin_e, k0, k1, k2, k3, k4, k5, k6, k7, k8, k9, reduceIte, k10, k11, k12, k13, k14, k15, k16, k17, k18, k19, k20, k21, k22, k23, k24, k25, k26, k27, k28, e1, e2]
  cases decide (l.length = 0) with
  | true => rfl
  | false =>
    cases decide (12 < l.length) with
    | true => rfl
    | false =>
      simp (disch := omega) only [obnd_s, obnd_n, oite_ss, oite_t, oite_f, ogrd_t, ogrd_f, obndS_l, obndS_r, ilt_eq, ile_eq, ieq_eq, imax_e, imin_e, k0, k1, k2, k3, k4, k5, k6, k7, k8, k9, reduceIte, k10, k11, k12, k13, k14, k15, k16, k17, k18, k19, k20, k21, k22, k23, k24, k25, k26, k27, k28]
      rw [oloop_scanB (fun i => (i : Int)) l.length (fun i => !decide (rdE (gR l i) = 0)) (fun i => .inr (rdE (gR l i))) (d := .inl ()) (e0 := 0) rfl ?_ ?_]
      · have : scanF (fun i => bif !decide (rdE (gR l i) = 0) then some (Sum.inr (rdE (gR l i)) : Unit ⊕ Int) else none) l.length 0 = (errR l l.length 0).map Sum.inr := by
          unfold errR; rw [← scanF_map]
          refine scanF_congr fun i _ _ => ?_
          cases (!decide (rdE (gR l i) = 0)) <;> rfl
        rw [this]
        cases errR l l.length 0 <;> rfl
      · intro i hi
        simp (disch := omega) only [obnd_s, obnd_n, oite_ss, oite_t, oite_f, ogrd_t, ogrd_f, obndS_l, obndS_r, ilt_eq, ile_eq, ieq_eq, imax_e, imin_e, k0, k1, k2, k3, k4, k5, k6, k7, k8, k9, reduceIte, k10, k11, k12, k13, k14, k15, k16, k17, k18, k19, k20, k21, k22, k23, k24, k25, k26, k27, k28, hi, get_gR hi, f32_e, wr]; rfl
      · simp (disch := omega) only [obnd_s, obnd_n, oite_ss, oite_t, oite_f, ogrd_t, ogrd_f, obndS_l, obndS_r, ilt_eq, ile_eq, ieq_eq, imax_e, imin_e, k0, k1, k2, k3, k4, k5, k6, k7, k8, k9, reduceIte, k10, k11, k12, k13, k14, k15, k16, k17, k18, k19, k20, k21, k22, k23, k24, k25, k26, k27, k28, Int.lt_irrefl]
theorem f93_e {l : List Rd} (hl : l.length ≤ 1000) : f93 l = some (rdsE l) := by
  unfold f93 rdsE
  have e1 : decide ((0 : Int) < ((l.length : Nat) : Int)) = !decide (l.length = 0) := by rw [← decide_not]; congr 1; exact propext (by omega)
  have e2 : decide (((l.length : Nat) : Int) ≤ 12) = !decide (12 < l.length) := by rw [← decide_not]; congr 1; exact propext (by omega)
  simp (disch := omega) only [obnd_s, obnd_n, oite_ss, oite_t, oite_f, ogrd_t, ogrd_f, obndS_l, obndS_r, ilt_eq, ile_eq, ieq_eq, imax_e, imin_e, k0, k1, k2, k3, k4, k5, k6, k7, k8, k9, reduceIte, k10, k11, k12, k13, k14, k15, k16, k17, k18, k19, k20, k21, k22, k23, k24, k25, k26, k27, k28, e1, e2, f64_e, f63_2, fst2]
  have hz : ∀ (e : Int), e ≠ 0 → ∀ i : Nat, i ≤ l.length → oloop (τ := Int × Int) (ρ := Int) (fun e11 =>
      oite (decide (e11.2 < (l.length : Int))) (oite (decide (e11.1 = 0)) (ogrd (decide (0 ≤ e11.2)) (obnd (l[e11.2.toNat]?) fun (x14 : Int × Int × Int) => obnd (f33 x14.1 x14.2.1 x14.2.2) fun (y15 : Int) => some (.inl (y15, (IntKind.i64.wrap (e11.2 + (1 : Int))))))) (some (.inr (e11.1)))) (some (.inr (e11.1)))) (e, (i : Int)) = some e := by
    intro e he i hi
    refine oloop_done ?_
    have h1 := decide_eq_false he
    simp only [h1, oite_f]
    cases decide ((i : Int) < (l.length : Int)) <;> rfl
  cases h1 : decide (l.length = 0) with
  | true =>
    have := hz 10 (by omega) 0 (Nat.zero_le _)
    simp (disch := omega) only [obnd_s, obnd_n, oite_ss, oite_t, oite_f, ogrd_t, ogrd_f, obndS_l, obndS_r, ilt_eq, ile_eq, ieq_eq, imax_e, imin_e, k0, k1, k2, k3, k4, k5, k6, k7, k8, k9, reduceIte, k10, k11, k12, k13, k14, k15, k16, k17, k18, k19, k20, k21, k22, k23, k24, k25, k26, k27, k28, show ¬ ((10 : Int) = 0) by omega]
    rw [show ((0 : Nat) : Int) = 0 from rfl] at this
    rw [this]; rfl
  | false =>
    cases h2 : decide (12 < l.length) with
    | true =>
      have := hz 8 (by omega) 0 (Nat.zero_le _)
      simp (disch := omega) only [obnd_s, obnd_n, oite_ss, oite_t, oite_f, ogrd_t, ogrd_f, obndS_l, obndS_r, ilt_eq, ile_eq, ieq_eq, imax_e, imin_e, k0, k1, k2, k3, k4, k5, k6, k7, k8, k9, reduceIte, k10, k11, k12, k13, k14, k15, k16, k17, k18, k19, k20, k21, k22, k23, k24, k25, k26, k27, k28, show ¬ ((8 : Int) = 0) by omega]
      rw [show ((0 : Nat) : Int) = 0 from rfl] at this
      rw [this]; rfl
    | false =>
      simp (disch := omega) only [obnd_s, obnd_n, oite_ss, oite_t, oite_f, ogrd_t, ogrd_f, obndS_l, obndS_r, ilt_eq, ile_eq, ieq_eq, imax_e, imin_e, k0, k1, k2, k3, k4, k5, k6, k7, k8, k9, reduceIte, k10, k11, k12, k13, k14, k15, k16, k17, k18, k19, k20, k21, k22, k23, k24, k25, k26, k27, k28]
      have key : ∀ k i : Nat, i + k = l.length → oloop (τ := Int × Int) (ρ := Int) (fun e11 =>
          oite (decide (e11.2 < (l.length : Int))) (oite (decide (e11.1 = 0)) (ogrd (decide (0 ≤ e11.2)) (obnd (l[e11.2.toNat]?) fun (x14 : Int × Int × Int) => obnd (f33 x14.1 x14.2.1 x14.2.2) fun (y15 : Int) => some (.inl (y15, (IntKind.i64.wrap (e11.2 + (1 : Int))))))) (some (.inr (e11.1)))) (some (.inr (e11.1)))) ((0 : Int), (i : Int)) = some ((errR l k i).getD 0) := by
        intro k
        induction k with
        | zero =>
          intro i hi
          refine oloop_done ?_
          simp (disch := omega) only [obnd_s, obnd_n, oite_ss, oite_t, oite_f, ogrd_t, ogrd_f, obndS_l, obndS_r, ilt_eq, ile_eq, ieq_eq, imax_e, imin_e, k0, k1, k2, k3, k4, k5, k6, k7, k8, k9, reduceIte, k10, k11, k12, k13, k14, k15, k16, k17, k18, k19, k20, k21, k22, k23, k24, k25, k26, k27, k28, show ¬ ((i : Int) < (l.length : Int)) by omega]; rfl
        | succ k ih =>
          intro i hi
          have hil : i < l.length := by omega
          rw [oloop_step (e' := (rdE (gR l i), ((i + 1 : Nat) : Int))) (by simp (disch := omega) only [obnd_s, obnd_n, oite_ss, oite_t, oite_f, ogrd_t, ogrd_f, obndS_l, obndS_r, ilt_eq, ile_eq, ieq_eq, imax_e, imin_e, k0, k1, k2, k3, k4, k5, k6, k7, k8, k9, reduceIte, k10, k11, k12, k13, k14, k15, k16, k17, k18, k19, k20, k21, k22, k23, k24, k25, k26, k27, k28, hil, get_gR hil, f33_e, wr]; rfl)]
          unfold errR
          simp only [scanF]
          by_cases h3 : rdE (gR l i) = 0
          · rw [h3]; simp only [decide_true, Bool.not_true, cond_false]; exact ih (i + 1) (by omega)
          · rw [hz _ h3 (i + 1) (by omega)]; simp [h3]
      rw [show ((0 : Int), (0 : Int)) = ((0 : Int), ((0 : Nat) : Int)) from rfl, key l.length 0 (by omega)]; rfl
def p12 (n : Int) : Bool := decide (-1000000000000 ≤ n) && decide (n ≤ 1000000000000)
def fitB (d p0 p1 p2 p3 p4 : Int) : Bool := (decide (1 ≤ d) && decide (d ≤ 1000000000000)) && (p12 p0 && (p12 p1 && (p12 p2 && (p12 p3 && p12 p4))))
def fitE (d p0 p1 p2 p3 p4 : Int) : Int := bif fitB d p0 p1 p2 p3 p4 then 0 else 2
theorem f116_e (n : Int) : f116 n = some (!p12 n) := by
  unfold f116 p12
  simp (disch := omega) only [obnd_s, obnd_n, oite_ss, oite_t, oite_f, ogrd_t, ogrd_f, obndS_l, obndS_r, ilt_eq, ile_eq, ieq_eq, imax_e, imin_e, k0, k1, k2, k3, k4, k5, k6, k7, k8, k9, reduceIte, k10, k11, k12, k13, k14, k15, k16, k17, k18, k19, k20, k21, k22, k23, k24, k25, k26, k27, k28, f78_e (n := n) (m := 1000000000000) (by omega)]
theorem f98_e (d p0 p1 p2 p3 p4 : Int) : f98 d p0 p1 p2 p3 p4 = some (fitE d p0 p1 p2 p3 p4) := by
  unfold f98 fitE fitB
  rw [f80_e (p := fun z0 => f116 z0) (l := [p0, p1, p2, p3, p4]) (fun n => !p12 n) (fun x _ => f116_e x) (by simp)]
  simp (disch := omega) only [obnd_s, obnd_n, oite_ss, oite_t, oite_f, ogrd_t, ogrd_f, obndS_l, obndS_r, ilt_eq, ile_eq, ieq_eq, imax_e, imin_e, k0, k1, k2, k3, k4, k5, k6, k7, k8, k9, reduceIte, k10, k11, k12, k13, k14, k15, k16, k17, k18, k19, k20, k21, k22, k23, k24, k25, k26, k27, k28, f65_e, f64_e, List.any_cons, List.any_nil]
  cases (decide (1 ≤ d) && decide (d ≤ 1000000000000)) <;> cases p12 p0 <;> cases p12 p1 <;> cases p12 p2 <;> cases p12 p3 <;> cases p12 p4 <;> rfl
def sea (d : Int) : Int × Int := if d % 360 < 90 then (1, 0) else if d % 360 < 180 then (0, 1) else if d % 360 < 270 then (-1, 0) else (0, -1)
theorem sea_b (d : Int) : (-1 ≤ (sea d).1 ∧ (sea d).1 ≤ 1) ∧ (-1 ≤ (sea d).2 ∧ (sea d).2 ≤ 1) := by
  unfold sea; repeat' split
  all_goals simp
def rdP (x : Rd) : Prop := (0 ≤ x.1 ∧ x.1 ≤ 36000) ∧ (-50 ≤ x.2.1 ∧ x.2.1 ≤ 50) ∧ (-2000 ≤ x.2.2 ∧ x.2.2 ≤ 2000)
theorem rdE_0 {x : Rd} (h : rdE x = 0) : rdP x := by
  unfold rdE at h
  cases hb : rdB x with
  | false => rw [hb] at h; cases h
  | true =>
    unfold rdB at hb
    simp only [Bool.and_eq_true, decide_eq_true_eq] at hb
    exact ⟨hb.1.1, hb.1.2, hb.2⟩
theorem f77_e {x : Rd} (h : rdP x) : f77 x.1 x.2.1 x.2.2 = some (1, x.2.1, (sea x.1).1, (sea x.1).2, x.1 / 360) := by
  obtain ⟨⟨h1, h2⟩, _⟩ := h
  unfold f77
  have e1 : x.1.tmod 360 = x.1 % 360 := Int.tmod_eq_emod_of_nonneg h1
  have e2 : IntKind.i64.wrap (x.1.tmod 360 * 4) = x.1 % 360 * 4 := by rw [e1, wr (by omega) (by omega)]
  have e3 : (x.1 % 360 * 4).tdiv 360 = x.1 % 360 * 4 / 360 := Int.tdiv_eq_ediv_of_nonneg (by omega)
  have e4 : IntKind.i64.wrap ((x.1 % 360 * 4).tdiv 360) = x.1 % 360 * 4 / 360 := by rw [e3, wr (by omega) (by omega)]
  have e5 : IntKind.i64.wrap (x.1.tdiv 360) = x.1 / 360 := by rw [Int.tdiv_eq_ediv_of_nonneg h1, wr (by omega) (by omega)]
  rw [e2, e4, e5]
  unfold sea
  have hq : x.1 % 360 * 4 / 360 = 0 ∨ x.1 % 360 * 4 / 360 = 1 ∨ x.1 % 360 * 4 / 360 = 2 ∨ x.1 % 360 * 4 / 360 = 3 := by omega
  rcases hq with hq | hq | hq | hq
  · rw [hq, if_pos (by omega)]; rfl
  · rw [hq, if_neg (by omega), if_pos (by omega)]; rfl
  · rw [hq, if_neg (by omega), if_neg (by omega), if_pos (by omega)]; rfl
  · rw [hq, if_neg (by omega), if_neg (by omega), if_neg (by omega)]; rfl
theorem f34_e {x : Rd} (h : rdP x) : f34 x.1 x.2.1 x.2.2 = some (1, x.2.1, (sea x.1).1, (sea x.1).2, x.1 / 360) := by
  obtain ⟨⟨h1, h2⟩, _⟩ := h
  unfold f34
  have e1 : x.1.tmod 360 = x.1 % 360 := Int.tmod_eq_emod_of_nonneg h1
  have e3 : (x.1 % 360).tdiv 90 = x.1 % 360 / 90 := Int.tdiv_eq_ediv_of_nonneg (by omega)
  have e4 : IntKind.i64.wrap ((x.1.tmod 360).tdiv 90) = x.1 % 360 / 90 := by rw [e1, e3, wr (by omega) (by omega)]
  have e5 : IntKind.i64.wrap (x.1.tdiv 360) = x.1 / 360 := by rw [Int.tdiv_eq_ediv_of_nonneg h1, wr (by omega) (by omega)]
  rw [e4, e5]
  unfold sea
  have hq : x.1 % 360 / 90 = 0 ∨ x.1 % 360 / 90 = 1 ∨ x.1 % 360 / 90 = 2 ∨ x.1 % 360 / 90 = 3 := by omega
  rcases hq with hq | hq | hq | hq
  · rw [hq, if_pos (by omega)]; rfl
  · rw [hq, if_neg (by omega), if_pos (by omega)]; rfl
  · rw [hq, if_neg (by omega), if_neg (by omega), if_pos (by omega)]; rfl
  · rw [hq, if_neg (by omega), if_neg (by omega), if_neg (by omega)]; rfl
structure Fit where
  d : Int
  p0 : Int
  p1 : Int
  p2 : Int
  p3 : Int
  p4 : Int
def Fit.ok (f : Fit) : Prop := (1 ≤ f.d ∧ f.d ≤ 1000000000000) ∧ (-1000000000000 ≤ f.p0 ∧ f.p0 ≤ 1000000000000) ∧ (-1000000000000 ≤ f.p1 ∧ f.p1 ≤ 1000000000000) ∧ (-1000000000000 ≤ f.p2 ∧ f.p2 ≤ 1000000000000) ∧ (-1000000000000 ≤ f.p3 ∧ f.p3 ≤ 1000000000000) ∧ (-1000000000000 ≤ f.p4 ∧ f.p4 ≤ 1000000000000)
theorem fit_ok {d p0 p1 p2 p3 p4 : Int} (h : fitE d p0 p1 p2 p3 p4 = 0) : (Fit.mk d p0 p1 p2 p3 p4).ok := by
  unfold fitE at h
  cases hb : fitB d p0 p1 p2 p3 p4 with
  | false => rw [hb] at h; cases h
  | true =>
    unfold fitB p12 at hb
    simp only [Bool.and_eq_true, decide_eq_true_eq] at hb
    exact ⟨hb.1, hb.2.1, hb.2.2.1, hb.2.2.2.1, hb.2.2.2.2.1, hb.2.2.2.2.2⟩
def Fit.p (f : Fit) : Nat → Int
  | 0 => f.p0 | 1 => f.p1 | 2 => f.p2 | 3 => f.p3 | _ => f.p4
def tm (x : Rd) : Nat → Int
  | 0 => 1 | 1 => x.2.1 | 2 => (sea x.1).1 | 3 => (sea x.1).2 | _ => x.1 / 360
theorem Fit.pb {f : Fit} (h : f.ok) (k : Nat) : -1000000000000 ≤ f.p k ∧ f.p k ≤ 1000000000000 := by
  obtain ⟨_, h0, h1, h2, h3, h4⟩ := h
  unfold Fit.p; split <;> assumption
theorem tmb {x : Rd} (h : rdP x) (k : Nat) : -100 ≤ tm x k ∧ tm x k ≤ 100 := by
  obtain ⟨h1, h2, _⟩ := h
  have := sea_b x.1
  unfold tm; split <;> omega
def sm (f : Fit) (x : Rd) (N : List Nat) : Nat → Int
  | 0 => 0
  | i + 1 => sm f x N i + f.p (N.getD i 0) * tm x (N.getD i 0)
theorem smb {f : Fit} {x : Rd} (hf : f.ok) (hx : rdP x) (N : List Nat) : ∀ i : Nat, -(100000000000000 * (i : Int)) ≤ sm f x N i ∧ sm f x N i ≤ 100000000000000 * (i : Int)
  | 0 => by simp [sm]
  | i + 1 => by
    have h1 := smb hf hx N i
    have h2 := mul14 (Fit.pb hf (N.getD i 0)) (tmb hx (N.getD i 0))
    simp only [sm]
    omega
theorem f117_e {f : Fit} {x : Rd} (hf : f.ok) (hx : rdP x) (N : List Nat) (hN : ∀ n, n ∈ N → n < 5) (hl : N.length ≤ 5) : f117 f.d f.p0 f.p1 f.p2 f.p3 f.p4 x.1 x.2.1 x.2.2 (N.map fun n : Nat => (n : Int)) = some (sm f x N N.length) := by
  unfold f117
  rw [f77_e hx]
  simp only [obnd_s]
  rw [oloop_all (fun i => (sm f x N i, (i : Int))) N.length (r := sm f x N N.length) (e0 := ((0 : Int), (0 : Int))) rfl ?_ ?_]; rfl
  · intro i hi
    have hk : N.getD i 0 < 5 := by rw [getD_i hi]; exact hN _ (List.getElem_mem hi)
    have hg : (N.map fun n : Nat => (n : Int))[i]? = some ((N.getD i 0 : Nat) : Int) := by rw [List.getElem?_map, get_i hi, getD_i hi]; rfl
    have h1 : ([f.d, f.p0, f.p1, f.p2, f.p3, f.p4] : List Int)[(1 + (((N.getD i 0 : Nat) : Int)).toNat * 1)]? = some (f.p (N.getD i 0)) := by
      generalize N.getD i 0 = k at hk
      match k, hk with
      | 0, _ => rfl
      | 1, _ => rfl
      | 2, _ => rfl
      | 3, _ => rfl
      | 4, _ => rfl
    have h2 : ([1, x.2.1, (sea x.1).1, (sea x.1).2, x.1 / 360] : List Int)[(0 + (((N.getD i 0 : Nat) : Int)).toNat * 1)]? = some (tm x (N.getD i 0)) := by
      generalize N.getD i 0 = k at hk
      match k, hk with
      | 0, _ => rfl
      | 1, _ => rfl
      | 2, _ => rfl
      | 3, _ => rfl
      | 4, _ => rfl
    have h3 := mul14 (Fit.pb hf (N.getD i 0)) (tmb hx (N.getD i 0))
    have h4 := smb hf hx N i
    have hk' : ((N.getD i 0 : Nat) : Int) < 5 := by omega
    simp (disch := omega) only [obnd_s, obnd_n, oite_ss, oite_t, oite_f, ogrd_t, ogrd_f, obndS_l, obndS_r, ilt_eq, ile_eq, ieq_eq, imax_e, imin_e, k0, k1, k2, k3, k4, k5, k6, k7, k8, k9, reduceIte, k10, k11, k12, k13, k14, k15, k16, k17, k18, k19, k20, k21, k22, k23, k24, k25, k26, k27, k28, hi, hg, hk']
    rw [← toNat_i (N.getD i 0), h1, h2]
    simp (disch := omega) only [obnd_s, obnd_n, oite_ss, oite_t, oite_f, ogrd_t, ogrd_f, obndS_l, obndS_r, ilt_eq, ile_eq, ieq_eq, imax_e, imin_e, k0, k1, k2, k3, k4, k5, k6, k7, k8, k9, reduceIte, k10, k11, k12, k13, k14, k15, k16, k17, k18, k19, k20, k21, k22, k23, k24, k25, k26, k27, k28, wr]; rfl
  · simp (disch := omega) only [obnd_s, obnd_n, oite_ss, oite_t, oite_f, ogrd_t, ogrd_f, obndS_l, obndS_r, ilt_eq, ile_eq, ieq_eq, imax_e, imin_e, k0, k1, k2, k3, k4, k5, k6, k7, k8, k9, reduceIte, k10, k11, k12, k13, k14, k15, k16, k17, k18, k19, k20, k21, k22, k23, k24, k25, k26, k27, k28, Int.lt_irrefl]
theorem f114_31 : ∀ i : Nat, i < 5 → f114 31 (i : Int) = some true
  | 0, _ => rfl
  | 1, _ => rfl
  | 2, _ => rfl
  | 3, _ => rfl
  | 4, _ => rfl
theorem f95_31 : f95 31 = some [0, 1, 2, 3, 4] := by
  unfold f95
  rw [oloop_all (fun i => ((List.range i).map (fun n : Nat => (n : Int)), (i : Int))) 5 (r := ([0, 1, 2, 3, 4] : List Int)) (e0 := (([] : List Int), (0 : Int))) rfl ?_ ?_]; rfl
  · intro i hi
    have h1 : (i : Int) < 5 := by omega
    simp (disch := omega) only [obnd_s, obnd_n, oite_ss, oite_t, oite_f, ogrd_t, ogrd_f, obndS_l, obndS_r, ilt_eq, ile_eq, ieq_eq, imax_e, imin_e, k0, k1, k2, k3, k4, k5, k6, k7, k8, k9, reduceIte, k10, k11, k12, k13, k14, k15, k16, k17, k18, k19, k20, k21, k22, k23, k24, k25, k26, k27, k28, h1, f114_31 i hi, wr]
    rw [ogrd_fits (by simp; omega) (by simp; omega), List.range_succ, List.map_append]; rfl
  · rfl
theorem f102_e {f : Fit} {x : Rd} (hf : f.ok) (hx : rdP x) : f102 f.d f.p0 f.p1 f.p2 f.p3 f.p4 x.1 x.2.1 x.2.2 = some (sm f x [0, 1, 2, 3, 4] 5) := by
  unfold f102
  rw [f95_31]
  have := f117_e hf hx [0, 1, 2, 3, 4] (by decide) (by decide)
  simp (disch := omega) only [obnd_s, obnd_n, oite_ss, oite_t, oite_f, ogrd_t, ogrd_f, obndS_l, obndS_r, ilt_eq, ile_eq, ieq_eq, imax_e, imin_e, k0, k1, k2, k3, k4, k5, k6, k7, k8, k9, reduceIte, k10, k11, k12, k13, k14, k15, k16, k17, k18, k19, k20, k21, k22, k23, k24, k25, k26, k27, k28, show f117 f.d f.p0 f.p1 f.p2 f.p3 f.p4 x.1 x.2.1 x.2.2 [0, 1, 2, 3, 4] = some (sm f x [0, 1, 2, 3, 4] 5) from this]
theorem prods {f : Fit} {x : Rd} (hf : f.ok) (hx : rdP x) : (-100000000000000 ≤ f.p0 * 1 ∧ f.p0 * 1 ≤ 100000000000000) ∧ (-100000000000000 ≤ f.p1 * x.2.1 ∧ f.p1 * x.2.1 ≤ 100000000000000) ∧ (-100000000000000 ≤ f.p2 * (sea x.1).1 ∧ f.p2 * (sea x.1).1 ≤ 100000000000000) ∧ (-100000000000000 ≤ f.p3 * (sea x.1).2 ∧ f.p3 * (sea x.1).2 ≤ 100000000000000) ∧ (-100000000000000 ≤ f.p4 * (x.1 / 360) ∧ f.p4 * (x.1 / 360) ≤ 100000000000000) :=
  ⟨mul14 (Fit.pb hf 0) (tmb hx 0), mul14 (Fit.pb hf 1) (tmb hx 1), mul14 (Fit.pb hf 2) (tmb hx 2), mul14 (Fit.pb hf 3) (tmb hx 3), mul14 (Fit.pb hf 4) (tmb hx 4)⟩
def resid (f : Fit) (x : Rd) : Int := f.d * x.2.2 - sm f x [0, 1, 2, 3, 4] 5
theorem whole_b {f : Fit} {x : Rd} (hf : f.ok) (hx : rdP x) : -500000000000000 ≤ sm f x [0, 1, 2, 3, 4] 5 ∧ sm f x [0, 1, 2, 3, 4] 5 ≤ 500000000000000 := by
  have := smb hf hx [0, 1, 2, 3, 4] 5; omega
theorem resid_b {f : Fit} {x : Rd} (hf : f.ok) (hx : rdP x) : -100000000000000000 ≤ resid f x ∧ resid f x ≤ 100000000000000000 := by
  have h1 := whole_b hf hx
  have h2 := @mul16 f.d x.2.2 (by have := hf.1; omega) hx.2.2
  unfold resid; omega
theorem floor_eq {n b : Int} (hb : 0 < b) : n / b = if n.tmod b < 0 then n.tdiv b - 1 else n.tdiv b := by
  rw [Int.tdiv_eq_ediv, Int.tmod_eq_emod]
  have h1 := Int.emod_nonneg n (show b ≠ 0 by omega)
  have h2 := Int.emod_lt_of_pos n hb
  have h3 : Int.sign b = 1 := Int.sign_eq_one_of_pos hb
  split
  · rw [if_neg (by omega)]; omega
  · rw [if_pos (by omega), h3]; omega
theorem tdiv_bd {n b k : Int} (h : -k ≤ n ∧ n ≤ k) : -k ≤ n.tdiv b ∧ n.tdiv b ≤ k := by
  have h1 : n.tdiv b ≤ n.natAbs := by
    have := Int.natAbs_tdiv_le_natAbs n b; omega
  have h2 : -(n.natAbs : Int) ≤ n.tdiv b := by
    have := Int.natAbs_tdiv_le_natAbs n b; omega
  omega
theorem ediv_bd {n b : Int} (hb : 1 ≤ b) (hn : -100000000000000000 ≤ n ∧ n ≤ 100000000000000000) : -100000000000000001 ≤ n / b ∧ n / b ≤ 100000000000000001 := by
  have h1 := tdiv_bd (b := b) hn
  rw [floor_eq (show 0 < b by omega)]
  split <;> omega
theorem ceil_if {n b : Int} (hb : 1 ≤ b) : -(-n / b) = if n / b * b = n then n / b else n / b + 1 := by
  have h1 := Int.emod_nonneg n (show b ≠ 0 by omega)
  have h2 := Int.emod_lt_of_pos n (show 0 < b by omega)
  have h3 := Int.mul_ediv_add_emod n b
  have h4 : -n / b = if n / b * b = n then -(n / b) else -(n / b) - 1 := by
    rw [Int.ediv_eq_iff_of_pos (show 0 < b by omega)]
    rw [Int.mul_comm] at h3
    split
    · rename_i h; rw [Int.neg_mul]; constructor <;> omega
    · rename_i h; rw [Int.sub_mul, Int.neg_mul, Int.one_mul]; constructor <;> omega
  rw [h4]; split <;> omega
theorem f101_e {n b : Int} (hb : 1 ≤ b ∧ b ≤ 1000000000000) (hn : -100000000000000000 ≤ n ∧ n ≤ 100000000000000000) : f101 n b = some (n / b, -(-n / b)) := by
  have h0 := ediv_bd hb.1 hn
  have h1 := Int.emod_nonneg n (show b ≠ 0 by omega)
  have h2 := Int.emod_lt_of_pos n (show 0 < b by omega)
  have h3 := Int.mul_ediv_add_emod n b
  rw [Int.mul_comm] at h3
  have hfl := @floor_eq n b (by omega)
  have h5 := tdiv_bd (b := b) hn
  unfold f101
  rw [ceil_if hb.1]
  simp (disch := omega) only [obnd_s, obnd_n, oite_ss, oite_t, oite_f, ogrd_t, ogrd_f, obndS_l, obndS_r, ilt_eq, ile_eq, ieq_eq, imax_e, imin_e, k0, k1, k2, k3, k4, k5, k6, k7, k8, k9, reduceIte, k10, k11, k12, k13, k14, k15, k16, k17, k18, k19, k20, k21, k22, k23, k24, k25, k26, k27, k28, show ¬ (b = 0) by omega]
  have hr : (bif decide (n.tmod b < 0) then IntKind.i64.wrap (IntKind.i64.wrap (n.tdiv b) - 1) else IntKind.i64.wrap (n.tdiv b)) = n / b := by
    rw [hfl]
    by_cases h : n.tmod b < 0
    · rw [if_pos h]; simp only [h, decide_true, cond_true]; rw [wr (n := n.tdiv b) (by omega) (by omega), wr (by omega) (by omega)]
    · rw [if_neg h]; simp only [h, decide_false, cond_false]; rw [wr (by omega) (by omega)]
  rw [hr, wr (n := n / b * b) (by omega) (by omega)]
  by_cases h : n / b * b = n
  · rw [if_pos h]; simp only [h, decide_true, Bool.not_true, cond_false]
  · rw [if_neg h]; simp only [h, decide_false, Bool.not_false, cond_true]; rw [wr (by omega) (by omega)]
def rr (f : Fit) (x : Rd) : Int × Int := (resid f x / f.d, -(-(resid f x) / f.d))
def rsL (f : Fit) (l : List Rd) (i : Nat) : List (Int × Int) := (List.range i).map fun j => rr f (gR l j)
theorem rsL_len {f : Fit} {l : List Rd} {i : Nat} : (rsL f l i).length = i := by simp [rsL]
theorem rsL_s {f : Fit} {l : List Rd} {i : Nat} : rsL f l i ++ [rr f (gR l i)] = rsL f l (i + 1) := by simp [rsL, List.range_succ]
theorem rsL_get {f : Fit} {l : List Rd} {i j : Nat} (h : j < i) : (rsL f l i)[j]? = some (rr f (gR l j)) := by simp [rsL, h]
theorem resid_w {f : Fit} {x : Rd} (hf : f.ok) (hx : rdP x) : IntKind.i64.wrap (IntKind.i64.wrap (f.d * x.2.2) - sm f x [0, 1, 2, 3, 4] 5) = resid f x := by
  have b1 := whole_b hf hx
  have b2 := @mul16 f.d x.2.2 (by have := hf.1; omega) hx.2.2
  rw [wr (n := f.d * x.2.2) (by omega) (by omega), wr (by omega) (by omega)]; rfl
theorem f99_e {f : Fit} {l : List Rd} (hf : f.ok) (hl : l.length ≤ 1000) (hx : ∀ j, j < l.length → rdP (gR l j)) : f99 l f.d f.p0 f.p1 f.p2 f.p3 f.p4 = some (rsL f l l.length) := by
  unfold f99
  rw [oloop_all (fun i => (rsL f l i, (i : Int))) l.length (r := rsL f l l.length) (e0 := (([] : List (Int × Int)), (0 : Int))) rfl ?_ ?_]; rfl
  · intro i hi
    have hp := hx i hi
    simp (disch := omega) only [obnd_s, obnd_n, oite_ss, oite_t, oite_f, ogrd_t, ogrd_f, obndS_l, obndS_r, ilt_eq, ile_eq, ieq_eq, imax_e, imin_e, k0, k1, k2, k3, k4, k5, k6, k7, k8, k9, reduceIte, k10, k11, k12, k13, k14, k15, k16, k17, k18, k19, k20, k21, k22, k23, k24, k25, k26, k27, k28, hi, get_gR hi, f102_e hf hp, resid_w hf hp, f101_e hf.1 (resid_b hf hp), wr]
    rw [ogrd_fits (by simp [rsL_len]; omega) (by simp [rsL_len]; omega), show (resid f (gR l i) / f.d, -(-(resid f (gR l i)) / f.d)) = rr f (gR l i) from rfl, rsL_s]; rfl
  · simp (disch := omega) only [obnd_s, obnd_n, oite_ss, oite_t, oite_f, ogrd_t, ogrd_f, obndS_l, obndS_r, ilt_eq, ile_eq, ieq_eq, imax_e, imin_e, k0, k1, k2, k3, k4, k5, k6, k7, k8, k9, reduceIte, k10, k11, k12, k13, k14, k15, k16, k17, k18, k19, k20, k21, k22, k23, k24, k25, k26, k27, k28, Int.lt_irrefl]
theorem f58_refl {l : List (Int × Int)} (hl : l.length ≤ 1000) : f58 l l = some true := by
  unfold f58
  rw [oloop_all (fun i => (i : Int)) l.length (r := (.inl () : Unit ⊕ Bool)) (e0 := (0 : Int)) rfl ?_ ?_]
  · simp (disch := omega) only [obnd_s, obnd_n, oite_ss, oite_t, oite_f, ogrd_t, ogrd_f, obndS_l, obndS_r, ilt_eq, ile_eq, ieq_eq, imax_e, imin_e, k0, k1, k2, k3, k4, k5, k6, k7, k8, k9, reduceIte, k10, k11, k12, k13, k14, k15, k16, k17, k18, k19, k20, k21, k22, k23, k24, k25, k26, k27, k28]
  · intro i hi
    simp (disch := omega) only [obnd_s, obnd_n, oite_ss, oite_t, oite_f, ogrd_t, ogrd_f, obndS_l, obndS_r, ilt_eq, ile_eq, ieq_eq, imax_e, imin_e, k0, k1, k2, k3, k4, k5, k6, k7, k8, k9, reduceIte, k10, k11, k12, k13, k14, k15, k16, k17, k18, k19, k20, k21, k22, k23, k24, k25, k26, k27, k28, hi, get_i hi, wr]; rfl
  · simp (disch := omega) only [obnd_s, obnd_n, oite_ss, oite_t, oite_f, ogrd_t, ogrd_f, obndS_l, obndS_r, ilt_eq, ile_eq, ieq_eq, imax_e, imin_e, k0, k1, k2, k3, k4, k5, k6, k7, k8, k9, reduceIte, k10, k11, k12, k13, k14, k15, k16, k17, k18, k19, k20, k21, k22, k23, k24, k25, k26, k27, k28, Int.lt_irrefl]
def ab (n : Int) : Int := max n (IntKind.i64.wrap (0 - n))
theorem f100_e (n : Int) : f100 n = some (ab n) := by unfold f100 ab; rw [imax_e]
def spr (f : Fit) (l : List Rd) : Nat → Int
  | 0 => 0
  | i + 1 => max (max (spr f l i) (ab (rr f (gR l i)).1)) (ab (rr f (gR l i)).2)
def e2 (a b : Int) : Int := if a = 0 then b else a
theorem f56_e {f : Fit} {l : List Rd} (hl : l.length ≤ 1000) : f56 l f.d f.p0 f.p1 f.p2 f.p3 f.p4 = bif !decide (e2 (rdsE l) (fitE f.d f.p0 f.p1 f.p2 f.p3 f.p4) = 0) then some ([], e2 (rdsE l) (fitE f.d f.p0 f.p1 f.p2 f.p3 f.p4)) else obnd (f99 l f.d f.p0 f.p1 f.p2 f.p3 f.p4) fun y => some (y, 0) := by
  unfold f56
  rw [f93_e hl, f98_e]
  simp only [obnd_s, f63_2, fst2, ieq_eq]
  unfold e2
  cases (!decide ((if rdsE l = 0 then fitE f.d f.p0 f.p1 f.p2 f.p3 f.p4 else rdsE l) = 0)) <;> rfl
theorem rds_0 {l : List Rd} (h : rdsE l = 0) : l.length ≤ 12 ∧ ∀ j, j < l.length → rdP (gR l j) := by
  unfold rdsE at h
  cases h1 : decide (l.length = 0) with
  | true => rw [h1] at h; cases h
  | false =>
    cases h2 : decide (12 < l.length) with
    | true => rw [h1, h2] at h; cases h
    | false =>
      have h2 := of_decide_eq_false h2
      rw [h1, show decide (12 < l.length) = false from decide_eq_false h2] at h
      simp only [cond_false] at h
      refine ⟨by omega, fun j hj => rdE_0 ?_⟩
      cases hs : errR l l.length 0 with
      | some e =>
        exfalso
        rw [hs, Option.getD_some] at h
        have : ∀ (k i : Nat), errR l k i = some e → e ≠ 0 := by
          intro k
          induction k with
          | zero => intro i hk; cases hk
          | succ k ih =>
            intro i hk
            unfold errR at hk
            simp only [scanF] at hk
            by_cases h3 : rdE (gR l i) = 0
            · simp only [h3, decide_true, Bool.not_true, cond_false] at hk; exact ih (i + 1) hk
            · simp only [h3, decide_false, Bool.not_false, cond_true] at hk; injection hk with hk; rw [← hk]; exact h3
        exact this _ _ hs h
      | none =>
        have := scanF_none hs j (Nat.zero_le _) (by omega)
        by_cases h3 : rdE (gR l j) = 0
        · exact h3
        · simp only [h3, decide_false, Bool.not_false, cond_true] at this; cases this
theorem f57_ok {f : Fit} {l : List Rd} (hl : l.length ≤ 1000) (h : e2 (rdsE l) (fitE f.d f.p0 f.p1 f.p2 f.p3 f.p4) = 0) (hf : f.ok) (hx : ∀ j, j < l.length → rdP (gR l j)) : f57 l f.d f.p0 f.p1 f.p2 f.p3 f.p4 = some (spr f l l.length, 0) := by
  unfold f57
  rw [f56_e hl, decide_eq_true h, f99_e hf hl hx]
  simp only [Bool.not_true, cond_false, obnd_s, List.length_map, rsL_len]
  rw [oloop_all (fun i => (spr f l i, (i : Int))) l.length (r := spr f l l.length) (e0 := ((0 : Int), (0 : Int))) rfl ?_ ?_]; rfl
  · intro i hi
    simp (disch := omega) only [obnd_s, obnd_n, oite_ss, oite_t, oite_f, ogrd_t, ogrd_f, obndS_l, obndS_r, ilt_eq, ile_eq, ieq_eq, imax_e, imin_e, k0, k1, k2, k3, k4, k5, k6, k7, k8, k9, reduceIte, k10, k11, k12, k13, k14, k15, k16, k17, k18, k19, k20, k21, k22, k23, k24, k25, k26, k27, k28, hi, rsL_get hi, f100_e, wr]; rfl
  · simp (disch := omega) only [obnd_s, obnd_n, oite_ss, oite_t, oite_f, ogrd_t, ogrd_f, obndS_l, obndS_r, ilt_eq, ile_eq, ieq_eq, imax_e, imin_e, k0, k1, k2, k3, k4, k5, k6, k7, k8, k9, reduceIte, k10, k11, k12, k13, k14, k15, k16, k17, k18, k19, k20, k21, k22, k23, k24, k25, k26, k27, k28, Int.lt_irrefl]
theorem f59_ok {f : Fit} {x : Rd} {l : List Rd} (hl : l.length ≤ 1000) (h : e2 (rdsE l) (fitE f.d f.p0 f.p1 f.p2 f.p3 f.p4) = 0) (hf : f.ok) (hx : ∀ j, j < l.length → rdP (gR l j)) (hr : rdE x = 0) : f59 l f.d f.p0 f.p1 f.p2 f.p3 f.p4 x.1 x.2.1 x.2.2 = some (IntKind.i64.wrap (sm f x [0, 1, 2, 3, 4] 5 / f.d - spr f l l.length), IntKind.i64.wrap (-(-(sm f x [0, 1, 2, 3, 4] 5) / f.d) + spr f l l.length), 0) := by
  have b1 := whole_b hf (rdE_0 hr)
  unfold f59
  rw [f57_ok hl h hf hx, f33_e, f102_e hf (rdE_0 hr)]
  simp only [obnd_s, f63_2, fst2, hr, ieq_eq, decide_true, Bool.not_true, oite_f, if_true, reduceIte]
  simp (disch := omega) only [obnd_s, obnd_n, oite_ss, oite_t, oite_f, ogrd_t, ogrd_f, obndS_l, obndS_r, ilt_eq, ile_eq, ieq_eq, imax_e, imin_e, k0, k1, k2, k3, k4, k5, k6, k7, k8, k9, reduceIte, k10, k11, k12, k13, k14, k15, k16, k17, k18, k19, k20, k21, k22, k23, k24, k25, k26, k27, k28, f101_e hf.1 (show -100000000000000000 ≤ sm f x [0, 1, 2, 3, 4] 5 ∧ sm f x [0, 1, 2, 3, 4] 5 ≤ 100000000000000000 by omega)]
theorem f53_e {l : List Rd} (hl : l.length ≤ 1000) : f53 l = some l := by
  unfold f53
  rw [ogrd_fits (by simp; omega) (by simp; omega), List.nil_append]
end Go.Proofs.Ytacgibkgojnfeaa.AM
