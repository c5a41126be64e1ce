/- Plain laws of chapter 8: plans, volumes, how long a reserve can be given. Conditions: none. -/
import Derived.Test.YtmbekcealcjabaaGreatAmQ2
namespace Go.Proofs.YtmbekcealcjabaaGreat.AM
set_option linter.unusedSimpArgs false
set_option linter.unusedVariables false
open Go Go.RowKit

/-! ### The first hit of a test -/
def anyN (b : Nat → Bool) : Nat → Nat → Bool
  | 0, _ => false
  | n + 1, i => b i || anyN b n (i + 1)
theorem scan_c {ρ : Type} (b : Nat → Bool) (r : ρ) : ∀ n i : Nat, scanF (fun i => bif b i then some r else none) n i = bif anyN b n i then some r else none
  | 0, i => rfl
  | n + 1, i => by
    simp only [scanF, anyN]
    cases h : b i with
    | true => rfl
    | false => simp only [cond_false, Bool.false_or]; exact scan_c b r n (i + 1)
theorem anyN_shift (b : Nat → Bool) : ∀ n i : Nat, anyN (fun i => b (i + 1)) n i = anyN b n (i + 1)
  | 0, _ => rfl
  | n + 1, i => by simp only [anyN]; rw [anyN_shift b n (i + 1)]
theorem anyN_f {b : Nat → Bool} : ∀ {n i : Nat}, anyN b n i = false → ∀ k, i ≤ k → k < i + n → b k = false
  | 0, i, _, k, h1, h2 => by omega
  | n + 1, i, h, k, h1, h2 => by
    simp only [anyN, Bool.or_eq_false_iff] at h
    rcases Nat.eq_or_lt_of_le h1 with rfl | h3
    · exact h.1
    · exact anyN_f h.2 k (by omega) (by omega)
theorem anyN_of_f {b : Nat → Bool} : ∀ {n i : Nat}, (∀ k, i ≤ k → k < i + n → b k = false) → anyN b n i = false
  | 0, i, _ => rfl
  | n + 1, i, h => by
    simp only [anyN, Bool.or_eq_false_iff]
    exact ⟨h i (Nat.le_refl _) (by omega), anyN_of_f fun k h1 h2 => h k (by omega) (by omega)⟩

/-! ### Volumes -/
def vv (M : List (ByteArray × Int × Int × Int)) (H : List (Int × Int × Int)) (V : Int) (P : List Int) : Nat → Int
  | 0 => V
  | i + 1 => vv M H V P i + (gh H i).2.2 + (gm M (gi P i).toNat).2.1
def vL (M : List (ByteArray × Int × Int × Int)) (H : List (Int × Int × Int)) (V : Int) (P : List Int) (n : Nat) : List Int := (List.range (n + 1)).map (vv M H V P)
theorem vL_len {M : List (ByteArray × Int × Int × Int)} {H : List (Int × Int × Int)} {V : Int} {P : List Int} {n : Nat} : (vL M H V P n).length = n + 1 := by simp [vL]
theorem vL_get {M : List (ByteArray × Int × Int × Int)} {H : List (Int × Int × Int)} {V : Int} {P : List Int} {n i : Nat} (h : i ≤ n) : (vL M H V P n)[i]? = some (vv M H V P i) := by simp [vL, show i < n + 1 by omega]
theorem vL_s {M : List (ByteArray × Int × Int × Int)} {H : List (Int × Int × Int)} {V : Int} {P : List Int} {n : Nat} : vL M H V P n ++ [vv M H V P (n + 1)] = vL M H V P (n + 1) := by simp [vL, List.range_succ]
def inR (lo up x : Int) : Bool := decide (lo ≤ x) && decide (x ≤ up)
theorem inR_p {lo up x : Int} (h : inR lo up x = true) : lo ≤ x ∧ x ≤ up := by simpa [inR] using h
section
variable {lo up v m w : Int} {M : List (ByteArray × Int × Int × Int)} {H : List (Int × Int × Int)} {P : List Int}
theorem f243_e (x : Int) : f243 lo up M v m w H x = some (inR lo up x) := by unfold f243; rw [f216_e]; rfl
theorem f242_e (k : okT lo up M v m w H) {v' m' w' : Int} {x : Int} {i j : Nat} (h1 : i < H.length) (h2 : j < M.length) (hx : -1000000000 ≤ x ∧ x ≤ 1000000000) : f242 lo up M v' m' w' H x (i : Int) (j : Int) = some (x + (gh H i).2.2 + (gm M j).2.1) := by
  unfold f242
  have a := k.hour i h1
  have b := k.mode j h2
  have c := k.hfew
  have d := k.mfew
  simp (disch := omega) only [obnd_s, obnd_n, oite_ss, oite_t, oite_f, ogrd_t, ogrd_f, obndS_l, obndS_r, ilt_eq, ile_eq, ieq_eq, imax_e, imin_e, List.length_map, Int.toNat_natCast, decide_true, decide_false, Bool.not_true, Bool.not_false, Bool.not_eq_true, Bool.false_eq_true, if_true, if_false, reduceIte, not_false_eq_true, not_true_eq_false, Int.natCast_nonneg, Int.ofNat_lt, Int.ofNat_le, Bool.cond_true, Bool.cond_false, cond_true, cond_false, Bool.true_and, Bool.and_true, Bool.false_and, Bool.and_false, Bool.true_or, Bool.or_true, Bool.false_or, Bool.or_false, Bool.cond_true_left, Bool.cond_false_right, Bool.cond_true_right, Bool.cond_false_left, get_gh h1, get_gm h2, wr]
def isM (M : List (ByteArray × Int × Int × Int)) (n : Int) : Bool := decide (0 ≤ n) && decide (n ≤ (M.length : Int) - 1)
theorem f222_e (k : M.length < 4611686018427387904) (n : Int) : f222 lo up M v m w H n = some (isM M n) := by
  unfold f222; rw [List.length_map, wr (by omega) (by omega), f216_e]; rfl
theorem isM_n {n : Int} (h : isM M n = true) : ∃ j : Nat, j < M.length ∧ n = (j : Int) := by
  simp only [isM, Bool.and_eq_true, decide_eq_true_eq] at h
  exact ⟨n.toNat, by omega, by omega⟩
/-- All entries of a plan are modes. -/
def plM (M : List (ByteArray × Int × Int × Int)) (P : List Int) : Prop := ∀ i, i < P.length → ∃ j : Nat, j < M.length ∧ gi P i = (j : Int)
theorem vv_b (k : okT lo up M v m w H) (hl : P.length = H.length) (hp : plM M P) : ∀ i : Nat, i ≤ H.length → -1000000 - 20000 * (i : Int) ≤ vv M H v P i ∧ vv M H v P i ≤ 1000000 + 20000 * (i : Int)
  | 0, _ => by have := k.lo0; have := k.hi1; have := k.vlo; have := k.vhi; simp only [vv]; omega
  | i + 1, h => by
    have h1 := vv_b k hl hp i (by omega)
    obtain ⟨j, hj, he⟩ := hp i (by omega)
    have a := k.hour i (by omega)
    have b := k.mode j hj
    simp only [vv, he, Int.toNat_natCast]; omega
/-- A volume of a plan leaves the limits. -/
def badV (lo up : Int) (M : List (ByteArray × Int × Int × Int)) (H : List (Int × Int × Int)) (V : Int) (P : List Int) : Bool := anyN (fun i => !inR lo up (vv M H V P i)) H.length 1
theorem f241_e (k : okT lo up M v m w H) (hl : P.length = H.length) (hp : plM M P) : f241 lo up M v m w H P = some (bif badV lo up M H v P then ([], false) else (vL M H v P H.length, true)) := by
  unfold f241
  rw [oloop_scanB (fun i => (vL M H v P i, (i : Int))) H.length (fun i => !inR lo up (vv M H v P (i + 1))) (fun _ => .inr ([], false)) (d := .inl (vL M H v P H.length)) (e0 := ([v], 0)) rfl ?_ ?_, scan_c, anyN_shift (fun i => !inR lo up (vv M H v P i))]
  · unfold badV
    cases anyN (fun i => !inR lo up (vv M H v P i)) H.length 1 <;> rfl
  · intro i hi
    have hb := vv_b k hl hp i (by omega)
    obtain ⟨j, hj, he⟩ := hp i (by omega)
    have hf := k.hfew
    have e1 : vv M H v P i + (gh H i).2.2 + (gm M j).2.1 = vv M H v P (i + 1) := by simp only [vv, he, Int.toNat_natCast]
    simp (disch := omega) only [obnd_s, obnd_n, oite_ss, oite_t, oite_f, ogrd_t, ogrd_f, obndS_l, obndS_r, ilt_eq, ile_eq, ieq_eq, imax_e, imin_e, List.length_map, Int.toNat_natCast, decide_true, decide_false, Bool.not_true, Bool.not_false, Bool.not_eq_true, Bool.false_eq_true, if_true, if_false, reduceIte, not_false_eq_true, not_true_eq_false, Int.natCast_nonneg, Int.ofNat_lt, Int.ofNat_le, Bool.cond_true, Bool.cond_false, cond_true, cond_false, Bool.true_and, Bool.and_true, Bool.false_and, Bool.and_false, Bool.true_or, Bool.or_true, Bool.false_or, Bool.or_false, Bool.cond_true_left, Bool.cond_false_right, Bool.cond_true_right, Bool.cond_false_left, hl, hi, get_gi (show i < P.length by omega), he, vL_get (Nat.le_refl i), wr]
    rw [f242_e k hi hj (by omega), e1]
    simp (disch := omega) only [obnd_s, obnd_n, oite_ss, oite_t, oite_f, ogrd_t, ogrd_f, obndS_l, obndS_r, ilt_eq, ile_eq, ieq_eq, imax_e, imin_e, List.length_map, Int.toNat_natCast, decide_true, decide_false, Bool.not_true, Bool.not_false, Bool.not_eq_true, Bool.false_eq_true, if_true, if_false, reduceIte, not_false_eq_true, not_true_eq_false, Int.natCast_nonneg, Int.ofNat_lt, Int.ofNat_le, Bool.cond_true, Bool.cond_false, cond_true, cond_false, Bool.true_and, Bool.and_true, Bool.false_and, Bool.and_false, Bool.true_or, Bool.or_true, Bool.false_or, Bool.or_false, Bool.cond_true_left, Bool.cond_false_right, Bool.cond_true_right, Bool.cond_false_left, f243_e]
    rw [ogrd_fits (by rw [vL_len]; simp; omega) (by rw [vL_len]; simp; omega), vL_s]
    cases inR lo up (vv M H v P (i + 1)) <;> rfl
  · simp (disch := omega) only [obnd_s, obnd_n, oite_ss, oite_t, oite_f, ogrd_t, ogrd_f, obndS_l, obndS_r, ilt_eq, ile_eq, ieq_eq, imax_e, imin_e, List.length_map, Int.toNat_natCast, decide_true, decide_false, Bool.not_true, Bool.not_false, Bool.not_eq_true, Bool.false_eq_true, if_true, if_false, reduceIte, not_false_eq_true, not_true_eq_false, Int.natCast_nonneg, Int.ofNat_lt, Int.ofNat_le, Bool.cond_true, Bool.cond_false, cond_true, cond_false, Bool.true_and, Bool.and_true, Bool.false_and, Bool.and_false, Bool.true_or, Bool.or_true, Bool.false_or, Bool.or_false, Bool.cond_true_left, Bool.cond_false_right, Bool.cond_true_right, Bool.cond_false_left, Int.lt_irrefl, hl]
/-- The error of a plan for a valid task. -/
def pE (lo up : Int) (M : List (ByteArray × Int × Int × Int)) (H : List (Int × Int × Int)) (V : Int) (P : List Int) : Int :=
  bif !decide (P.length = H.length) then 10 else bif P.any (fun n => !isM M n) then 6 else bif badV lo up M H V P then 22 else 0
def plE (lo up : Int) (M : List (ByteArray × Int × Int × Int)) (v m w : Int) (H : List (Int × Int × Int)) (P : List Int) : Int :=
  bif !decide ((ckT lo up M v m w H).2 = 0) then (ckT lo up M v m w H).2 else pE lo up M H v P
theorem plM_any (h : P.any (fun n => !isM M n) = false) : plM M P := by
  intro i hi
  rw [List.any_eq_false] at h
  have := h P[i] (List.getElem_mem hi)
  unfold gi; rw [getD_i hi]
  exact isM_n (by simpa using this)
theorem pE_0 (h : pE lo up M H v P = 0) : P.length = H.length ∧ plM M P ∧ badV lo up M H v P = false := by
  unfold pE at h
  cases h1 : decide (P.length = H.length) with
  | false => rw [h1] at h; cases h
  | true =>
    cases h2 : P.any (fun n => !isM M n) with
    | true => rw [h1, h2] at h; cases h
    | false =>
      cases h3 : badV lo up M H v P with
      | true => rw [h1, h2, h3] at h; cases h
      | false => exact ⟨of_decide_eq_true h1, plM_any h2, rfl⟩
theorem plE_0 (h : plE lo up M v m w H P = 0) : okT lo up M v m w H ∧ pE lo up M H v P = 0 := by
  unfold plE at h
  cases h1 : decide ((ckT lo up M v m w H).2 = 0) with
  | false => rw [h1] at h; exact absurd h (of_decide_eq_false h1)
  | true => rw [h1] at h; exact ⟨(ckT_0 (of_decide_eq_true h1)).2, h⟩
theorem badV_f (k : okT lo up M v m w H) (h : badV lo up M H v P = false) : ∀ i, i ≤ H.length → lo ≤ vv M H v P i ∧ vv M H v P i ≤ up := by
  intro i hi
  rcases Nat.eq_zero_or_pos i with rfl | h0
  · exact ⟨k.vlo, k.vhi⟩
  · have := anyN_f h i h0 (by omega)
    exact inR_p (by simpa using this)
theorem f240_e (k : M.length < 4611686018427387904) (n : Int) : f240 n lo up M v m w H = some (!isM M n) := by unfold f240; rw [f222_e k]; rfl
theorem f221_e (hM : M.length < 4611686018427387904) (hs : ∀ p, p ∈ M → p.1.size < 4611686018427387904) (hH : H.length < 4611686018427387904) (hP : P.length < 4611686018427387904) :
    f221 lo up M v m w H P = some (lo, up, M, v, m, w, H, (bif decide (plE lo up M v m w H P = 0) then vL M H v P H.length else []), plE lo up M v m w H P) := by
  unfold f221
  rw [f219_e hM hs hH]
  simp only [obnd_s]
  rw [f80_e (p := fun z0 => f240 z0 lo up M v m w H) (l := P) (fun n => !isM M n) (fun x _ => f240_e hM x) hP]
  simp only [obnd_s, f214_e, f213_3, List.length_map, ieq_eq, ceqN]
  cases h1 : decide ((ckT lo up M v m w H).2 = 0) with
  | false =>
    have e : plE lo up M v m w H P = (ckT lo up M v m w H).2 := by unfold plE; rw [h1]; rfl
    rw [e, if_neg (of_decide_eq_false h1), h1]; rfl
  | true =>
    have e : plE lo up M v m w H P = pE lo up M H v P := by unfold plE; rw [h1]; rfl
    rw [e, if_pos (of_decide_eq_true h1)]
    unfold pE
    cases h2 : decide (P.length = H.length) with
    | false => rfl
    | true =>
      cases h3 : P.any (fun n => !isM M n) with
      | true => rfl
      | false =>
        have k := (ckT_0 (of_decide_eq_true h1)).2
        simp only [if_true, Bool.not_false, Bool.not_true, cond_false, decide_true, oite_f]
        rw [f241_e k (of_decide_eq_true h2) (plM_any h3)]
        cases badV lo up M H v P <;> rfl

/-! ### How long a reserve can be given -/
def gvn (lo up : Int) (M : List (ByteArray × Int × Int × Int)) (H : List (Int × Int × Int)) (j : Nat) : Nat → Nat → Int → Nat
  | 0, _, _ => 0
  | k + 1, h, x => bif inR lo up (x + (gh H h).2.2 + (gm M j).2.1) then gvn lo up M H j k (h + 1) (x + (gh H h).2.2 + (gm M j).2.1) + 1 else 0
theorem gvn_le {j : Nat} : ∀ (k h : Nat) (x : Int), gvn lo up M H j k h x ≤ k
  | 0, _, _ => Nat.le_refl _
  | k + 1, h, x => by
    simp only [gvn]
    cases inR lo up (x + (gh H h).2.2 + (gm M j).2.1) with
    | true => simp only [cond_true]; have := gvn_le (j := j) k (h + 1) (x + (gh H h).2.2 + (gm M j).2.1); omega
    | false => simp only [cond_false]; omega
theorem f223_e (k : okT lo up M v m w H) {v' m' w' : Int} {x : Int} {h j : Nat} (hh : h ≤ H.length) (hj : j < M.length) (hx : -1000000000 ≤ x ∧ x ≤ 1000000000) :
    f223 lo up M v' m' w' H x (h : Int) (j : Int) = some (gvn lo up M H j (H.length - h) h x : Int) := by
  unfold f223
  have hf := k.hfew
  have key : ∀ (q n : Nat) (y : Int), h + n + q = H.length → (-1000000000 ≤ y ∧ y ≤ 1000000000) → ∀ g, g = (fun e5 : Int × Int =>
    oite ((ilt (IntKind.i64.wrap ((h : Int) + e5.2)) ((H.map e_III).length : Int))) (
     obnd (f242 lo up M v' m' w' H e5.1 (IntKind.i64.wrap ((h : Int) + e5.2)) (j : Int)) fun (y9 : Int) =>
     obnd (f243 lo up M v' m' w' H y9) fun (y11 : Bool) =>
     oite (!y11) (
      some (.inr (e5.2))
       ) (
      some (.inl (y9, (IntKind.i64.wrap (e5.2 + (1 : Int)))))
       )
      ) (
     some (.inr (e5.2))
      )) → oloop (τ := Int × Int) (ρ := Int) g (y, (n : Int)) = some ((n + gvn lo up M H j q (h + n) y : Nat) : Int) := by
    intro q
    induction q with
    | zero =>
      intro n y hn hy g hg
      rw [oloop_done (r := (n : Int))]
      · rfl
      · rw [hg]
        have e : ((h : Int) + (n : Int)) = ((h + n : Nat) : Int) := by omega
        simp (disch := omega) only [obnd_s, obnd_n, oite_ss, oite_t, oite_f, ogrd_t, ogrd_f, obndS_l, obndS_r, ilt_eq, ile_eq, ieq_eq, imax_e, imin_e, List.length_map, Int.toNat_natCast, decide_true, decide_false, Bool.not_true, Bool.not_false, Bool.not_eq_true, Bool.false_eq_true, if_true, if_false, reduceIte, not_false_eq_true, not_true_eq_false, Int.natCast_nonneg, Int.ofNat_lt, Int.ofNat_le, Bool.cond_true, Bool.cond_false, cond_true, cond_false, Bool.true_and, Bool.and_true, Bool.false_and, Bool.and_false, Bool.true_or, Bool.or_true, Bool.false_or, Bool.or_false, Bool.cond_true_left, Bool.cond_false_right, Bool.cond_true_right, Bool.cond_false_left, e, wr]
        rw [decide_eq_false (by omega)]; rfl
    | succ q ih =>
      intro n y hn hy g hg
      have e : ((h : Int) + (n : Int)) = ((h + n : Nat) : Int) := by omega
      have hl : h + n < H.length := by omega
      have a := k.hour (h + n) hl
      have b := k.mode j hj
      have step : g (y, (n : Int)) = some (bif inR lo up (y + (gh H (h + n)).2.2 + (gm M j).2.1) then .inl (y + (gh H (h + n)).2.2 + (gm M j).2.1, ((n + 1 : Nat) : Int)) else .inr (n : Int)) := by
        rw [hg]
        simp (disch := omega) only [obnd_s, obnd_n, oite_ss, oite_t, oite_f, ogrd_t, ogrd_f, obndS_l, obndS_r, ilt_eq, ile_eq, ieq_eq, imax_e, imin_e, List.length_map, Int.toNat_natCast, decide_true, decide_false, Bool.not_true, Bool.not_false, Bool.not_eq_true, Bool.false_eq_true, if_true, if_false, reduceIte, not_false_eq_true, not_true_eq_false, Int.natCast_nonneg, Int.ofNat_lt, Int.ofNat_le, Bool.cond_true, Bool.cond_false, cond_true, cond_false, Bool.true_and, Bool.and_true, Bool.false_and, Bool.and_false, Bool.true_or, Bool.or_true, Bool.false_or, Bool.or_false, Bool.cond_true_left, Bool.cond_false_right, Bool.cond_true_right, Bool.cond_false_left, e, wr]
        rw [decide_eq_true (by omega), f242_e k hl hj hy]
        simp (disch := omega) only [obnd_s, obnd_n, oite_ss, oite_t, oite_f, ogrd_t, ogrd_f, obndS_l, obndS_r, ilt_eq, ile_eq, ieq_eq, imax_e, imin_e, List.length_map, Int.toNat_natCast, decide_true, decide_false, Bool.not_true, Bool.not_false, Bool.not_eq_true, Bool.false_eq_true, if_true, if_false, reduceIte, not_false_eq_true, not_true_eq_false, Int.natCast_nonneg, Int.ofNat_lt, Int.ofNat_le, Bool.cond_true, Bool.cond_false, cond_true, cond_false, Bool.true_and, Bool.and_true, Bool.false_and, Bool.and_false, Bool.true_or, Bool.or_true, Bool.false_or, Bool.or_false, Bool.cond_true_left, Bool.cond_false_right, Bool.cond_true_right, Bool.cond_false_left, f243_e]
        cases inR lo up (y + (gh H (h + n)).2.2 + (gm M j).2.1) <;> rfl
      simp only [gvn]
      cases hr : inR lo up (y + (gh H (h + n)).2.2 + (gm M j).2.1) with
      | false => rw [hr] at step; rw [oloop_done step]; rfl
      | true =>
        rw [hr] at step
        have hp := inR_p hr
        have := k.lo0; have := k.hi1
        rw [oloop_step step, ih (n + 1) _ (by omega) (by omega) g hg]
        simp only [cond_true]
        rw [show h + n + 1 = h + (n + 1) by omega]
        congr 2; omega
  refine (obnd_of (a := (gvn lo up M H j (H.length - h) h x : Int)) ?_).trans rfl
  have := key (H.length - h) 0 x (by omega) hx _ rfl
  rw [Nat.zero_add, Nat.add_zero] at this
  exact this
/-- Hour by hour, for how long. -/
def rsL (lo up : Int) (M : List (ByteArray × Int × Int × Int)) (H : List (Int × Int × Int)) (V : Int) (P : List Int) (j : Nat) (n : Nat) : List Int := (List.range n).map fun i => (gvn lo up M H j (H.length - i) i (vv M H V P i) : Int)
theorem rsL_len {V : Int} {j n : Nat} : (rsL lo up M H V P j n).length = n := by simp [rsL]
theorem rsL_s {V : Int} {j n : Nat} : rsL lo up M H V P j n ++ [(gvn lo up M H j (H.length - n) n (vv M H V P n) : Int)] = rsL lo up M H V P j (n + 1) := by simp [rsL, List.range_succ]
def rsE (lo up : Int) (M : List (ByteArray × Int × Int × Int)) (v m w : Int) (H : List (Int × Int × Int)) (P : List Int) (r : Int) : Int :=
  if plE lo up M v m w H P = 0 then (bif isM M r then 0 else 6) else plE lo up M v m w H P
theorem f209_e (hM : M.length < 4611686018427387904) (hs : ∀ p, p ∈ M → p.1.size < 4611686018427387904) (hH : H.length < 4611686018427387904) (hP : P.length < 4611686018427387904) (r : Int) :
    f209 lo up M v m w H P r = some (bif decide (rsE lo up M v m w H P r = 0) then (rsL lo up M H v P r.toNat H.length, 0) else ([], rsE lo up M v m w H P r)) := by
  unfold f209
  rw [f221_e hM hs hH hP]
  simp only [obnd_s, f222_e hM, f214_e, f213_2, ieq_eq]
  have e : (if plE lo up M v m w H P = 0 then if isM M r = true then (0 : Int) else 6 else plE lo up M v m w H P) = rsE lo up M v m w H P r := by
    unfold rsE; cases isM M r <;> rfl
  rw [e]
  cases h1 : decide (rsE lo up M v m w H P r = 0) with
  | false => rfl
  | true =>
    have h2 := of_decide_eq_true h1
    unfold rsE at h2
    by_cases h3 : plE lo up M v m w H P = 0
    · rw [if_pos h3] at h2
      cases h4 : isM M r with
      | false => rw [h4] at h2; cases h2
      | true =>
        obtain ⟨j, hj, rfl⟩ := isM_n h4
        obtain ⟨k, h5⟩ := plE_0 h3
        obtain ⟨hl, hp, hb⟩ := pE_0 h5
        have hb := badV_f k hb
        have hf := k.hfew
        rw [decide_eq_true h3]
        simp (disch := omega) only [obnd_s, obnd_n, oite_ss, oite_t, oite_f, ogrd_t, ogrd_f, obndS_l, obndS_r, ilt_eq, ile_eq, ieq_eq, imax_e, imin_e, List.length_map, Int.toNat_natCast, decide_true, decide_false, Bool.not_true, Bool.not_false, Bool.not_eq_true, Bool.false_eq_true, if_true, if_false, reduceIte, not_false_eq_true, not_true_eq_false, Int.natCast_nonneg, Int.ofNat_lt, Int.ofNat_le, Bool.cond_true, Bool.cond_false, cond_true, cond_false, Bool.true_and, Bool.and_true, Bool.false_and, Bool.and_false, Bool.true_or, Bool.or_true, Bool.false_or, Bool.or_false, Bool.cond_true_left, Bool.cond_false_right, Bool.cond_true_right, Bool.cond_false_left]
        rw [oloop_all (fun i => (rsL lo up M H v P j i, (i : Int))) H.length (r := rsL lo up M H v P j H.length) (e0 := (([] : List Int), (0 : Int))) rfl ?_ ?_]; rfl
        · intro i hi
          have hv := hb i (by omega)
          have := k.lo0; have := k.hi1
          simp (disch := omega) only [obnd_s, obnd_n, oite_ss, oite_t, oite_f, ogrd_t, ogrd_f, obndS_l, obndS_r, ilt_eq, ile_eq, ieq_eq, imax_e, imin_e, List.length_map, Int.toNat_natCast, decide_true, decide_false, Bool.not_true, Bool.not_false, Bool.not_eq_true, Bool.false_eq_true, if_true, if_false, reduceIte, not_false_eq_true, not_true_eq_false, Int.natCast_nonneg, Int.ofNat_lt, Int.ofNat_le, Bool.cond_true, Bool.cond_false, cond_true, cond_false, Bool.true_and, Bool.and_true, Bool.false_and, Bool.and_false, Bool.true_or, Bool.or_true, Bool.false_or, Bool.or_false, Bool.cond_true_left, Bool.cond_false_right, Bool.cond_true_right, Bool.cond_false_left, hi, vL_get (show i ≤ H.length by omega), wr]
          rw [f223_e k (by omega) hj (by omega)]
          simp only [obnd_s]
          rw [ogrd_fits (by rw [rsL_len]; simp; omega) (by rw [rsL_len]; simp; omega), rsL_s]; rfl
        · simp (disch := omega) only [obnd_s, obnd_n, oite_ss, oite_t, oite_f, ogrd_t, ogrd_f, obndS_l, obndS_r, ilt_eq, ile_eq, ieq_eq, imax_e, imin_e, List.length_map, Int.toNat_natCast, decide_true, decide_false, Bool.not_true, Bool.not_false, Bool.not_eq_true, Bool.false_eq_true, if_true, if_false, reduceIte, not_false_eq_true, not_true_eq_false, Int.natCast_nonneg, Int.ofNat_lt, Int.ofNat_le, Bool.cond_true, Bool.cond_false, cond_true, cond_false, Bool.true_and, Bool.and_true, Bool.false_and, Bool.and_false, Bool.true_or, Bool.or_true, Bool.false_or, Bool.or_false, Bool.cond_true_left, Bool.cond_false_right, Bool.cond_true_right, Bool.cond_false_left, Int.lt_irrefl]
    · rw [if_neg h3] at h2; exact absurd h2 h3
end
/-- What an hour in a mode, after a mode, brings. -/
def rev (M : List (ByteArray × Int × Int × Int)) (H : List (Int × Int × Int)) (t b j : Nat) : Int :=
  (gm M j).2.2.1 * (bif decide (0 < (gm M j).2.2.1) then (gh H t).2.1 else (gh H t).1) - (bif decide (b = j) then 0 else (gm M j).2.2.2)
def aft (M : List (ByteArray × Int × Int × Int)) (H : List (Int × Int × Int)) (v : Int) (t j : Nat) : Int := v + (gh H t).2.2 + (gm M j).2.1
theorem mul_b {a b : Int} (ha : -10000 ≤ a ∧ a ≤ 10000) (hb : -10000 ≤ b ∧ b ≤ 10000) : -100000000 ≤ a * b ∧ a * b ≤ 100000000 := by
  have h := Int.natAbs_mul a b
  have h1 : (a * b).natAbs ≤ 10000 * 10000 := by rw [h]; exact Nat.mul_le_mul (by omega) (by omega)
  omega
section
variable {lo up v m w : Int} {M : List (ByteArray × Int × Int × Int)} {H : List (Int × Int × Int)} {P : List Int}
theorem rev_b (k : okT lo up M v m w H) {t b j : Nat} (ht : t < H.length) (hj : j < M.length) : -100010000 ≤ rev M H t b j ∧ rev M H t b j ≤ 100010000 := by
  have a := k.hour t ht
  have c := k.mode j hj
  unfold rev
  have hp : -10000 ≤ (bif decide (0 < (gm M j).2.2.1) then (gh H t).2.1 else (gh H t).1) ∧ (bif decide (0 < (gm M j).2.2.1) then (gh H t).2.1 else (gh H t).1) ≤ 10000 := by
    cases decide (0 < (gm M j).2.2.1) <;> simp only [cond_true, cond_false] <;> omega
  have := mul_b c.2.1 hp
  cases decide (b = j) <;> simp only [cond_true, cond_false] <;> omega
theorem f239_e (k : okT lo up M v m w H) {v' m' w' : Int} {t b j : Nat} (ht : t < H.length) (hj : j < M.length) : f239 lo up M v' m' w' H (t : Int) (b : Int) (j : Int) = some (rev M H t b j) := by
  have a := k.hour t ht
  have c := k.mode j hj
  unfold f239
  simp only [ile_eq, ilt_eq, ieq_eq, Int.toNat_natCast, get_gh ht, get_gm hj, obnd_s, oite_ss, decide_eq_true (Int.natCast_nonneg j), decide_eq_true (Int.natCast_nonneg t), ogrd_t, ceqN]
  have hp : -10000 ≤ (bif decide (0 < (gm M j).2.2.1) then (gh H t).2.1 else (gh H t).1) ∧ (bif decide (0 < (gm M j).2.2.1) then (gh H t).2.1 else (gh H t).1) ≤ 10000 := by
    cases decide (0 < (gm M j).2.2.1) <;> simp only [cond_true, cond_false] <;> omega
  have h1 := mul_b c.2.1 hp
  unfold rev
  generalize (gm M j).2.2.1 * (bif decide (0 < (gm M j).2.2.1) then (gh H t).2.1 else (gh H t).1) = z at *
  rw [wr (n := z) (by omega) (by omega), wr (by omega) (by omega)]
  cases decide (b = j) with
  | true => simp only [Bool.not_true, cond_false, cond_true]; congr 1; omega
  | false => rfl
theorem wv_b (k : okT lo up M v m w H) {x : Int} (h1 : lo ≤ x) (h2 : x ≤ up) : -10000000000 ≤ w * x ∧ w * x ≤ 10000000000 := by
  have h := Int.natAbs_mul w x
  have a := k.lo0; have b := k.hi1; have c := k.w4
  have h3 : (w * x).natAbs ≤ 10000 * 1000000 := by rw [h]; exact Nat.mul_le_mul (by omega) (by omega)
  omega
end
end Go.Proofs.YtmbekcealcjabaaGreat.AM
