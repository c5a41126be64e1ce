/- Plain law: TopDamNeverLower. Conditions: none. -/
import Derived.Test.YtacgibkgojnfeaaGreatDoorAmS4
namespace Go.Proofs.YtacgibkgojnfeaaGreatDoor.AM
section
set_option linter.unusedSimpArgs false
set_option linter.unusedVariables false
open Go Go.RowKit

theorem dmul_b {d m : Int} (hd : 1 ≤ d) (hm : -2000 ≤ m ∧ m ≤ 2000) : -(2000 * d) ≤ d * m ∧ d * m ≤ 2000 * d := by
  have h1 := Int.mul_nonneg (show 0 ≤ d by omega) (show 0 ≤ m + 2000 by omega)
  have h2 := Int.mul_nonneg (show 0 ≤ d by omega) (show 0 ≤ 2000 - m by omega)
  rw [Int.mul_add] at h1
  rw [Int.mul_sub] at h2
  omega
theorem div_b {n d K : Int} (hd : 1 ≤ d) (h : -(K * d) ≤ n ∧ n ≤ K * d) : -K ≤ n / d ∧ n / d ≤ K := by
  constructor
  · rw [Int.le_ediv_iff_mul_le (by omega), Int.neg_mul]; exact h.1
  · have : n / d < K + 1 := by
      rw [Int.ediv_lt_iff_lt_mul (by omega), Int.add_mul, Int.one_mul]
      omega
    omega
theorem rr_b {f : Fit} {x : Rd} (hf : f.ok) (hx : rdP x) : (-500000000002000 ≤ (rr f x).1 ∧ (rr f x).1 ≤ 500000000002000) ∧ (-500000000002000 ≤ (rr f x).2 ∧ (rr f x).2 ≤ 500000000002000) := by
  have h1 := whole_b hf hx
  have h2 := dmul_b hf.1.1 hx.2.2
  have hd := hf.1.1
  have h3 : -(500000000002000 * f.d) ≤ resid f x ∧ resid f x ≤ 500000000002000 * f.d := by unfold resid; omega
  have h4 := div_b hd h3
  have h5 := div_b (n := -(resid f x)) hd (K := 500000000002000) (by omega)
  simp only [rr]
  omega
theorem ab_b {n : Int} (h : -500000000002000 ≤ n ∧ n ≤ 500000000002000) : 0 ≤ ab n ∧ n ≤ ab n ∧ -n ≤ ab n ∧ ab n ≤ 500000000002000 := by
  unfold ab
  rw [wr (by omega) (by omega)]
  omega
theorem spr_b {f : Fit} {l : List Rd} (hf : f.ok) (hx : ∀ j, j < l.length → rdP (gR l j)) : ∀ n, n ≤ l.length → 0 ≤ spr f l n ∧ spr f l n ≤ 500000000002000
  | 0, _ => by simp [spr]
  | n + 1, h => by
    have h1 := spr_b hf hx n (by omega)
    obtain ⟨h2, h3⟩ := rr_b hf (hx n (by omega))
    have h4 := ab_b h2
    have h5 := ab_b h3
    simp only [spr]; omega
theorem spr_ge {f : Fit} {l : List Rd} (hf : f.ok) (hx : ∀ j, j < l.length → rdP (gR l j)) : ∀ n, n ≤ l.length → ∀ j, j < n → -(spr f l n) ≤ (rr f (gR l j)).1 ∧ (rr f (gR l j)).2 ≤ spr f l n
  | 0, _, j, h => by omega
  | n + 1, h, j, hj => by
    obtain ⟨h2, h3⟩ := rr_b hf (hx n (by omega))
    have h4 := ab_b h2
    have h5 := ab_b h3
    simp only [spr]
    by_cases hjn : j = n
    · subst hjn; omega
    · have := spr_ge hf hx n (by omega) j (by omega); omega
/-- A reading by which a fit was made lies in its own forecast. -/
theorem mov_in {f : Fit} {x : Rd} {n : Int} (hf : f.ok) (h1 : -n ≤ (rr f x).1) (h2 : (rr f x).2 ≤ n) : sm f x [0, 1, 2, 3, 4] 5 / f.d - n ≤ x.2.2 ∧ x.2.2 ≤ sm f x [0, 1, 2, 3, 4] 5 / f.d + n := by
  have hd := hf.1.1
  simp only [rr] at h1 h2
  have h3 : -n * f.d ≤ resid f x := by rw [← Int.le_ediv_iff_mul_le (by omega)]; exact h1
  have h4 : -n * f.d ≤ -(resid f x) := by rw [← Int.le_ediv_iff_mul_le (by omega)]; omega
  rw [Int.neg_mul] at h3 h4
  unfold resid at h3 h4
  rw [Int.mul_comm f.d x.2.2] at h3 h4
  constructor
  · have : sm f x [0, 1, 2, 3, 4] 5 / f.d < x.2.2 + n + 1 := by
      rw [Int.ediv_lt_iff_lt_mul (by omega), Int.add_mul, Int.add_mul, Int.one_mul]; omega
    omega
  · have : x.2.2 - n ≤ sm f x [0, 1, 2, 3, 4] 5 / f.d := by
      rw [Int.le_ediv_iff_mul_le (by omega), Int.sub_mul]; omega
    omega
theorem parts_sum {f : Fit} {x : Rd} : sm f x [1] 1 + sm f x [2, 3] 2 + sm f x [0, 4] 2 = sm f x [0, 1, 2, 3, 4] 5 := by
  simp only [sm, List.getD_cons_zero, List.getD_cons_succ, Int.zero_add]
  omega
theorem fl_sum {a b c d : Int} (hd : 1 ≤ d) : a / d + b / d + c / d ≤ (a + b + c) / d := by
  rw [Int.le_ediv_iff_mul_le (by omega), Int.add_mul, Int.add_mul]
  have h1 := Int.ediv_mul_le a (show d ≠ 0 by omega)
  have h2 := Int.ediv_mul_le b (show d ≠ 0 by omega)
  have h3 := Int.ediv_mul_le c (show d ≠ 0 by omega)
  omega
theorem fl_ceil {a d : Int} (hd : 1 ≤ d) : a / d ≤ -(-a / d) := by
  have h := @ceil_if a d hd
  rw [h]; split <;> omega
theorem part_q {f : Fit} {x : Rd} (hf : f.ok) (hx : rdP x) : ∀ {N : List Nat} {i : Nat}, i ≤ 2 → (-200000000000000 ≤ sm f x N i / f.d ∧ sm f x N i / f.d ≤ 200000000000000) ∧ (-200000000000000 ≤ -(-(sm f x N i) / f.d) ∧ -(-(sm f x N i) / f.d) ≤ 200000000000000) := by
  intro N i hi
  have h1 := smb hf hx N i
  have hd := hf.1.1
  have h2 := div_b (n := sm f x N i) hd (K := 200000000000000) (by omega)
  have h3 := div_b (n := -(sm f x N i)) hd (K := 200000000000000) (by omega)
  omega
theorem whole_q {f : Fit} {x : Rd} (hf : f.ok) (hx : rdP x) : (-500000000000000 ≤ sm f x [0, 1, 2, 3, 4] 5 / f.d ∧ sm f x [0, 1, 2, 3, 4] 5 / f.d ≤ 500000000000000) ∧ (-500000000000000 ≤ -(-(sm f x [0, 1, 2, 3, 4] 5) / f.d) ∧ -(-(sm f x [0, 1, 2, 3, 4] 5) / f.d) ≤ 500000000000000) := by
  have h1 := whole_b hf hx
  have hd := hf.1.1
  have h2 := div_b (n := sm f x [0, 1, 2, 3, 4] 5) hd (K := 500000000000000) (by omega)
  have h3 := div_b (n := -(sm f x [0, 1, 2, 3, 4] 5)) hd (K := 500000000000000) (by omega)
  omega
/-- All of the forecast lies within the sum of its shares. -/
theorem shr_sum {f : Fit} {x : Rd} (hf : f.ok) : (shr f x).1 + (shr f x).2.2.1 + (shr f x).2.2.2.2.1 ≤ sm f x [0, 1, 2, 3, 4] 5 / f.d ∧ -(-(sm f x [0, 1, 2, 3, 4] 5) / f.d) ≤ (shr f x).2.1 + (shr f x).2.2.2.1 + (shr f x).2.2.2.2.2 := by
  have hd := hf.1.1
  have h1 := @fl_sum (sm f x [1] 1) (sm f x [2, 3] 2) (sm f x [0, 4] 2) f.d hd
  have h2 := @fl_sum (-(sm f x [1] 1)) (-(sm f x [2, 3] 2)) (-(sm f x [0, 4] 2)) f.d hd
  rw [parts_sum] at h1
  rw [show -(sm f x [1] 1) + -(sm f x [2, 3] 2) + -(sm f x [0, 4] 2) = -(sm f x [0, 1, 2, 3, 4] 5) by rw [← parts_sum]; omega] at h2
  simp only [shr]
  omega
end
section
set_option linter.unusedSimpArgs false
set_option linter.unusedVariables false
open Go Go.RowKit

theorem ndig_le : ∀ (k u : Nat), u < 10 ^ (k + 1) → Lib.nDigits u ≤ k + 1
  | 0, u, h => by rw [Lib.nDigits_small (by simpa using h)]; omega
  | k + 1, u, h => by
    by_cases h1 : u < 10
    · rw [Lib.nDigits_small h1]; omega
    · rw [Lib.nDigits_big h1]
      have := ndig_le k (u / 10) (by rw [Nat.pow_succ] at h; omega)
      omega
theorem digs_le {m : Nat} (h : m ≤ 9223372036854775808) : (Lib.decDigits m).length ≤ 20 := by
  rw [Lib.decDigits_length]
  exact ndig_le 19 m (by omega)
/-- What a parsed reading is. -/
def outR (x : Rd) : Int × Int × Int × Int := bif rdB x then (x.1, x.2.1, x.2.2, 0) else (0, 0, 0, 2)
theorem out_e (x : Rd) : (obnd (some (rdE x)) fun (y21 : Int) => some (bif decide (y21 = 0) then (x.1, x.2.1, x.2.2, (0 : Int)) else ((0 : Int), (0 : Int), (0 : Int), y21))) = some (outR x) := by
  unfold rdE outR
  cases rdB x <;> rfl
/-! ### The string of a reading -/
def fmtL (a b c : Int) : List UInt8 := Lib.itoa a ++ 32 :: (Lib.itoa b ++ 32 :: Lib.itoa c)
theorem itoa_len {n : Int} (h : -9223372036854775808 ≤ n ∧ n ≤ 9223372036854775807) : (Lib.itoa n).length ≤ 21 := by
  by_cases h0 : n < 0
  · rw [itoa_neg h0, List.length_cons]; have := digs_le (m := n.natAbs) (by omega); omega
  · rw [itoa_nn h0]; have := digs_le (m := n.natAbs) (by omega); omega
theorem in64_t {n : Int} (h : -9223372036854775808 ≤ n ∧ n ≤ 9223372036854775807) : in64 n = true := decide_eq_true h
theorem f384_e {l : List ByteArray} {sep : ByteArray} {r : List UInt8} (h : Lib.join (l.map (·.data.toList)) sep.data.toList = r) (hl : l.length ≤ 1000) (hr : r.length ≤ 100000) : f384 l sep = some ⟨r.toArray⟩ := by
  subst h
  unfold f384
  rw [decide_eq_true ⟨by omega, by omega⟩]; rfl
theorem f374_e {a b c : Int} (ha : -9223372036854775808 ≤ a ∧ a ≤ 9223372036854775807) (hb : -9223372036854775808 ≤ b ∧ b ≤ 9223372036854775807) (hc : -9223372036854775808 ≤ c ∧ c ≤ 9223372036854775807) : f374 a b c = some (mkB (fmtL a b c)) := by
  have h1 := itoa_len ha
  have h2 := itoa_len hb
  have h3 := itoa_len hc
  have hj : Lib.join [Lib.itoa a, Lib.itoa b, Lib.itoa c] [32] = fmtL a b c := by
    unfold fmtL
    rw [Lib.join_cons]; simp [Lib.joinTail]
  have hlen : (fmtL a b c).length ≤ 100 := by unfold fmtL; simp; omega
  unfold f374 f385
  rw [in64_t ha, in64_t hb, in64_t hc]
  simp only [ogrd_t, obnd_s]
  rw [f384_e (l := [⟨(Lib.itoa a).toArray⟩, ⟨(Lib.itoa b).toArray⟩, ⟨(Lib.itoa c).toArray⟩]) (sep := ⟨#[32]⟩) (r := fmtL a b c) hj (by simp) (by omega)]
  rfl
theorem mk_app (a b : List UInt8) : (⟨a.toArray⟩ : ByteArray) ++ ⟨b.toArray⟩ = ⟨(a ++ b).toArray⟩ := by rw [ByteArray.mk_append_mk]
theorem bnd_digs {v : Int} (h : v.natAbs < 100000) : ((Lib.decDigits v.natAbs).length : Int) ≤ 5 := by
  rw [Lib.decDigits_length]
  have := ndig_le 4 v.natAbs (by omega)
  omega
theorem f373_back {a b c : Int} (h : rdB (a, b, c) = true) : f373 (mkB (fmtL a b c)) = some (a, b, c, 0) := by
  have hb := h
  unfold rdB at hb
  simp only [Bool.and_eq_true, decide_eq_true_eq] at hb
  obtain ⟨⟨⟨a0, a1⟩, b0, b1⟩, c0, c1⟩ := hb
  have h1 := itoa_len (n := a) (by omega)
  have h2 := itoa_len (n := b) (by omega)
  have h3 := itoa_len (n := c) (by omega)
  have no : ∀ v, (32 : UInt8) ∉ Lib.itoa v := fun v => itoa_no v 32 (by decide) (by decide)
  have hsp : spl 32 (fmtL a b c) = [Lib.itoa a, Lib.itoa b, Lib.itoa c] := by
    unfold fmtL
    rw [spl_app (no a), spl_app (no b), spl_no (no c)]
  have hs : ∀ l : List UInt8, (mkB l).size = l.length := fun l => by show l.toArray.size = _; simp
  unfold f373
  rw [f382_e (c := 32) (by rw [hs]; unfold fmtL; simp; omega)]
  rw [show (mkB (fmtL a b c)).data.toList = fmtL a b c from rfl, hsp]
  have e3 : (([mkB (Lib.itoa a), mkB (Lib.itoa b), mkB (Lib.itoa c)] : List ByteArray).length : Int) = 3 := rfl
  have n1 : numOf (mkB (Lib.itoa a)) 5 a := ⟨rfl, bnd_digs (by omega)⟩
  have n2 : numOf (mkB (Lib.itoa b)) 5 b := ⟨rfl, bnd_digs (by omega)⟩
  have n3 : numOf (mkB (Lib.itoa c)) 5 c := ⟨rfl, bnd_digs (by omega)⟩
  have c1 := f383_t (b := false) n1 (by omega) (.inr a0) (by rw [hs]; omega)
  have c2 := f383_t (b := true) n2 (by omega) (.inl rfl) (by rw [hs]; omega)
  have c3 := f383_t (b := true) n3 (by omega) (.inl rfl) (by rw [hs]; omega)
  have g0 : [mkB (Lib.itoa a), mkB (Lib.itoa b), mkB (Lib.itoa c)][0]? = some (mkB (Lib.itoa a)) := rfl
  have g1 : [mkB (Lib.itoa a), mkB (Lib.itoa b), mkB (Lib.itoa c)][1]? = some (mkB (Lib.itoa b)) := rfl
  have g2 : [mkB (Lib.itoa a), mkB (Lib.itoa b), mkB (Lib.itoa c)][2]? = some (mkB (Lib.itoa c)) := rfl
  have z0 : (0 : Int).toNat = 0 := rfl
  have z1 : (1 : Int).toNat = 1 := rfl
  have z2 : (2 : Int).toNat = 2 := rfl
  simp only [List.map_cons, List.map_nil]
  simp (disch := omega) only [obnd_s, obnd_n, oite_ss, oite_t, oite_f, ogrd_t, ogrd_f, obndS_l, obndS_r, ilt_eq, ile_eq, ieq_eq, imax_e, imin_e, k0, k1, k2, k3, k4, k5, k6, k7, k8, k9, reduceIte, k10, k11, k12, k13, k14, k15, k16, k17, k18, k19, k20, k21, k22, k23, k24, k25, k26, k27, k28, e3, z0, z1, z2, g0, g1, g2, c1, c2, c3]
  have := out_e (a, b, c)
  rw [f33_e (a, b, c)]
  unfold outR at this
  rw [h] at this
  simpa using this
end
section
set_option linter.unusedSimpArgs false
set_option linter.unusedVariables false
open Go Go.RowKit

theorem rds_of {l : List Rd} (h0 : 0 < l.length) (h1 : l.length ≤ 12) (h : ∀ j, j < l.length → rdE (gR l j) = 0) : rdsE l = 0 := by
  unfold rdsE errR
  rw [decide_eq_false (by omega), decide_eq_false (by omega)]
  simp only [cond_false]
  rw [scanF_of_none]
  · rfl
  · intro k _ hk
    rw [h k (by omega)]; rfl
theorem rds_take {l : List Rd} {i : Nat} (h : rdsE l = 0) (h0 : 0 < i) (hi : i ≤ l.length) : rdsE (l.take i) = 0 := by
  obtain ⟨hl, hx⟩ := rds_0 h
  refine rds_of (by simp; omega) (by simp; omega) fun j hj => ?_
  have hj2 : j < i := by simp at hj; omega
  have : gR (l.take i) j = gR l j := by
    unfold gR
    rw [List.getD_eq_getElem?_getD, List.getD_eq_getElem?_getD, List.getElem?_take_of_lt hj2]
  rw [this]
  exact rdE_of (hx j (by omega))
theorem f55_0 {s : Int} (hs : 1 ≤ s ∧ s ≤ 31) : f55 [] s = some (0, 0, 0, 0, 0, 0, 10) := by
  unfold f55
  rw [f93_e (by simp), f94_0 hs]
  simp only [obnd_s, f63_2, fst2]
  rfl
end
section
set_option linter.unusedSimpArgs false
set_option linter.unusedVariables false
open Go Go.RowKit

theorem floor_ceil {a d : Int} (hd : 0 < d) : a / d ≤ -(-a / d) := by
  have h1 := Int.mul_ediv_add_emod a d
  have h2 := Int.mul_ediv_add_emod (-a) d
  have h3 := Int.emod_nonneg a (show d ≠ 0 by omega)
  have h4 := Int.emod_nonneg (-a) (show d ≠ 0 by omega)
  have h5 : d * (a / d + -a / d) ≤ 0 := by rw [Int.mul_add]; omega
  by_cases h : 0 < a / d + -a / d
  · have := Int.mul_pos hd h; omega
  · omega
theorem ediv_b {a d B : Int} (hd : 0 < d) (h : -B ≤ a ∧ a ≤ B) (hB : 0 ≤ B) : -B ≤ a / d ∧ a / d ≤ B := by
  constructor
  · rw [Int.le_ediv_iff_mul_le hd]
    have : -B * d ≤ -B * 1 := Int.mul_le_mul_of_nonpos_left (by omega) (by omega)
    omega
  · have h1 : a / d ≤ B / d := Int.ediv_le_ediv hd h.2
    have h2 : B / d ≤ B := Int.ediv_le_self d hB
    omega
theorem fore {f : Fit} {x : Rd} {l : List Rd} (hr : rdsE l = 0) (hf : f.ok) (hfe : fitE f.d f.p0 f.p1 f.p2 f.p3 f.p4 = 0) (hx : rdE x = 0) :
    ∃ lo hi, f59 l f.d f.p0 f.p1 f.p2 f.p3 f.p4 x.1 x.2.1 x.2.2 = some (lo, hi, 0) ∧ lo ≤ hi := by
  obtain ⟨hl, hp⟩ := rds_0 hr
  have he : e2 (rdsE l) (fitE f.d f.p0 f.p1 f.p2 f.p3 f.p4) = 0 := by unfold e2; rw [if_pos hr]; exact hfe
  refine ⟨_, _, f59_ok (by omega) he hf hp hx, ?_⟩
  have b1 := whole_b hf (rdE_0 hx)
  have b2 := spr_b hf hp l.length (Nat.le_refl _)
  have hd : 0 < f.d := by have := hf.1.1; omega
  have b3 := floor_ceil (a := sm f x [0, 1, 2, 3, 4] 5) hd
  have b4 := ediv_b (a := sm f x [0, 1, 2, 3, 4] 5) (B := 100000000000000000) hd (by omega) (by omega)
  have b5 := ediv_b (a := -(sm f x [0, 1, 2, 3, 4] 5)) (B := 100000000000000000) hd (by omega) (by omega)
  rw [wr (by omega) (by omega), wr (by omega) (by omega)]
  omega
end
section
set_option linter.unusedSimpArgs false
set_option linter.unusedVariables false
open Go Go.RowKit

theorem f39_e {U D : List Int} {H : Int} {P : List (ByteArray × Int)} (h : smallR U D P) : f39 U D H P = some (ckR U D H P).2 := by unfold f39; rw [ck46 h]; rfl
theorem wat_ok {U D : List Int} {s c d : Int} (hs : 0 ≤ s ∧ s ≤ U.length) (hc : 0 ≤ c ∧ c ≤ 1000000) : (0 ≤ (wat U D s c d).1 ∧ (wat U D s c d).1 ≤ U.length) ∧ (0 ≤ (wat U D s c d).2.1 ∧ (wat U D s c d).2.1 ≤ 1000000) := by
  have := askN_le U d U.length
  unfold wat
  cases decide (s < (askN U d U.length : Int)) with
  | true => simp only [cond_true]; omega
  | false =>
    simp only [cond_false]
    cases decide (0 < s) && decide (d < gi D (s - 1).toNat) with
    | true => simp only [cond_true]; omega
    | false => simp only [cond_false]; omega
def watL (U D : List Int) (L : List Int) : Nat → Int × Int × Int
  | 0 => (0, 0, 0)
  | i + 1 => wat U D (watL U D L i).1 (watL U D L i).2.1 (gi L i)
theorem watL_ok (U D L : List Int) : ∀ i, (0 ≤ (watL U D L i).1 ∧ (watL U D L i).1 ≤ U.length) ∧ (0 ≤ (watL U D L i).2.1 ∧ (watL U D L i).2.1 ≤ 1000000)
  | 0 => by simp [watL]
  | i + 1 => wat_ok (watL_ok U D L i).1 (watL_ok U D L i).2
end
section
set_option linter.unusedSimpArgs false
set_option linter.unusedVariables false
open Go Go.RowKit

theorem findI_lt {α : Type} {q : α → Bool} {l : List α} : findI q l < 0 ∨ ∃ i : Nat, findI q l = (i : Int) ∧ i < l.length := by
  unfold findI
  cases h : l.findIdx? q with
  | none => exact .inl (by simp)
  | some i => exact .inr ⟨i, rfl, (List.findIdx?_eq_some_iff_findIdx_eq.1 h).1⟩
/-- The error of an order. -/
def lowE (D : List Int) (H : Int) (P : List (ByteArray × Int)) (s c e : Int) (by_ : ByteArray) (k : Int) : Int :=
  bif !nameB by_ then 4 else bif decide (findI (fun x => x.1.toList == by_.toList) P < 0) then 6 else bif !(decide (0 ≤ k) && decide (k ≤ s - 1)) then 2 else
  bif decide ((gp P (findI (fun x => x.1.toList == by_.toList) P).toNat).2 < s) then 18 else bif decide (c < H) || decide (gi D k.toNat ≤ e) then 24 else 0
theorem f185_e (a : ByteArray) (x : Int) (b : ByteArray) (y : Int) : f185 a x b y = some (a.toList == b.toList) := rfl
theorem f169_e {U D : List Int} {H : Int} {P : List (ByteArray × Int)} {s c e k : Int} {b : ByteArray} (h : smallR U D P) (hb : b.size ≤ 30) : f169 U D H P s c e b k =
    some (bif !decide ((ckR U D H P).2 = 0) then (0, 0, 0, (ckR U D H P).2) else bif !decide (stE U.length s c e = 0) then (0, 0, 0, stE U.length s c e) else
      bif !decide (lowE D H P s c e b k = 0) then (0, 0, 0, lowE D H P s c e b k) else (k, 0, e, 0)) := by
  unfold f169
  rw [f90_e h, f88_e (by omega)]
  simp (disch := omega) only [obnd_s, obnd_n, oite_ss, oite_t, oite_f, ogrd_t, ogrd_f, obndS_l, obndS_r, ilt_eq, ile_eq, ieq_eq, imax_e, imin_e, k0, k1, k2, k3, k4, k5, k6, k7, k8, k9, reduceIte, k10, k11, k12, k13, k14, k15, k16, k17, k18, k19, k20, k21, k22, k23, k24, k25, k26, k27, k28, f64_e, f63_2, fst2]
  cases h1 : decide ((ckR U D H P).2 = 0) with
  | false =>
    have h2 := of_decide_eq_false h1
    simp only [if_neg h2, cond_false, h1, Bool.not_false, oite_t, cond_true]
  | true =>
    have h2 := of_decide_eq_true h1
    obtain ⟨h3, _⟩ := ckR_ok h2
    have hP := h3.few
    have hU := h3.le
    simp only [cond_true, Bool.not_true, cond_false]
    cases h4 : decide (stE U.length s c e = 0) with
    | false =>
      have h5 := of_decide_eq_false h4
      simp only [if_neg h5, h4, Bool.not_false, oite_t, cond_true]
    | true =>
      have h5 := of_decide_eq_true h4
      obtain ⟨a1, a2, _⟩ := stE_0 h5
      simp only [if_pos h5, Bool.not_true, cond_false]
      unfold lowE
      rw [f110_e (p := fun z0 z1 => f185 z0 z1 b k) (l := P) (fun x => x.1.toList == b.toList) (fun _ _ => f185_e _ _ _ _) (by omega)]
      cases nameB b with
      | false => rfl
      | true =>
        rcases @findI_lt _ (fun x : ByteArray × Int => x.1.toList == b.toList) P with hf | ⟨i, hf, hi⟩
        · simp (disch := omega) only [obnd_s, obnd_n, oite_ss, oite_t, oite_f, ogrd_t, ogrd_f, obndS_l, obndS_r, ilt_eq, ile_eq, ieq_eq, imax_e, imin_e, k0, k1, k2, k3, k4, k5, k6, k7, k8, k9, reduceIte, k10, k11, k12, k13, k14, k15, k16, k17, k18, k19, k20, k21, k22, k23, k24, k25, k26, k27, k28, hf]; rfl
        · have hn : ¬ ((i : Int) < 0) := by omega
          simp (disch := omega) only [obnd_s, obnd_n, oite_ss, oite_t, oite_f, ogrd_t, ogrd_f, obndS_l, obndS_r, ilt_eq, ile_eq, ieq_eq, imax_e, imin_e, k0, k1, k2, k3, k4, k5, k6, k7, k8, k9, reduceIte, k10, k11, k12, k13, k14, k15, k16, k17, k18, k19, k20, k21, k22, k23, k24, k25, k26, k27, k28, hf, hn, f65_e, wr, get_gp hi]
          cases hk : (decide (0 ≤ k) && decide (k ≤ s - 1)) with
          | false => rfl
          | true =>
            simp only [Bool.and_eq_true, decide_eq_true_eq] at hk
            obtain ⟨j, rfl⟩ : ∃ j : Nat, k = (j : Int) := ⟨k.toNat, by omega⟩
            have hl := h3.len
            have hj : j < D.length := by omega
            have e1 : decide (H ≤ c) = !decide (c < H) := by rw [← decide_not]; congr 1; exact propext (by omega)
            have e2 : decide (e < gi D j) = !decide (gi D j ≤ e) := by rw [← decide_not]; congr 1; exact propext (by omega)
            have e3 : decide (s ≤ (gp P i).2) = !decide ((gp P i).2 < s) := by rw [← decide_not]; congr 1; exact propext (by omega)
            simp (disch := omega) only [obnd_s, obnd_n, oite_ss, oite_t, oite_f, ogrd_t, ogrd_f, obndS_l, obndS_r, ilt_eq, ile_eq, ieq_eq, imax_e, imin_e, k0, k1, k2, k3, k4, k5, k6, k7, k8, k9, reduceIte, k10, k11, k12, k13, k14, k15, k16, k17, k18, k19, k20, k21, k22, k23, k24, k25, k26, k27, k28, get_gi hj, e1, e2, e3, f64_e, f63_2, fst2]
            cases decide ((gp P i).2 < s) <;> cases decide (c < H) <;> cases decide (gi D j ≤ e) <;> rfl
end
section
set_option linter.unusedSimpArgs false
set_option linter.unusedVariables false
open Go Go.RowKit

theorem stE_of {n : Nat} {s c d : Int} (hs : 0 ≤ s ∧ s ≤ n) (hc : 0 ≤ c ∧ c ≤ 1000000) (hd : thr0 d = true) (h0 : s = 0 → c = 0) : stE n s c d = 0 := by
  unfold stE
  have h1 : (decide (0 ≤ s) && decide (s ≤ (n : Int)) && (decide (0 ≤ c) && decide (c ≤ 1000000)) && thr0 d) = true := by simp [hs.1, hs.2, hc.1, hc.2, hd]
  rw [h1]
  by_cases h2 : s = 0
  · simp [h2, h0 h2]
  · simp [h2]
theorem wat_1 (U D : List Int) (s c d : Int) : (wat U D s c d).1 = max s (askN U d U.length : Int) := by
  unfold wat
  by_cases h : s < (askN U d U.length : Int)
  · simp only [h, decide_true, cond_true]; omega
  · simp only [h, decide_false, cond_false]
    cases (decide (0 < s) && decide (d < gi D (s - 1).toNat)) <;> simp <;> omega
theorem wat_3 (U D : List Int) (s c d : Int) : (wat U D s c d).2.2 = d := by
  unfold wat
  cases decide (s < (askN U d U.length : Int)) with
  | true => rfl
  | false => cases (decide (0 < s) && decide (d < gi D (s - 1).toNat)) <;> rfl
theorem wat_0 {U D : List Int} {s c d : Int} (hs : 0 ≤ s) (h : (wat U D s c d).1 = 0) : (wat U D s c d).2.1 = 0 := by
  have h1 := wat_1 U D s c d
  rw [h1] at h
  unfold wat
  by_cases h2 : s < (askN U d U.length : Int)
  · simp only [h2, decide_true, cond_true]
  · have h3 : ¬ (0 < s) := by omega
    simp only [h2, h3, decide_false, cond_false, Bool.false_and]
theorem wat_st {U D : List Int} {s c e d : Int} (h : stE U.length s c e = 0) (hd : thr0 d = true) : stE U.length (wat U D s c d).1 (wat U D s c d).2.1 (wat U D s c d).2.2 = 0 := by
  obtain ⟨h1, h2, _⟩ := stE_0 h
  obtain ⟨h3, h4⟩ := @wat_ok U D s c d h1 h2
  exact stE_of h3 h4 (by rw [wat_3]; exact hd) (wat_0 h1.1)
end
section
set_option linter.unusedSimpArgs false
set_option linter.unusedVariables false
open Go Go.RowKit

noncomputable def in370 (a0 : List Int) (a1 : List Int) (a2 : Int) (a3 : List (ByteArray × Int)) (mx ak s c d : Int) (e153 : Int) : Option (Int ⊕ ((Int × Int × Int × Int) ⊕ ((Int × Int × Int × Int × Int) ⊕ ((Int × Int × Int) ⊕ Bool)))) :=

 obnd (
 oite ((ilt e153 ((a3.map e_SI).length : Int))) (
 some (ilt (0 : Int) ak)
 ) (
 some false)
 ) fun (r156 : Bool) =>
 oite r156 (
 oite ((ieq ak s)) (
 obnd (
 ogrd ((ile 0 e153)) (
 obnd (a3[e153.toNat]?) fun (x166 : ByteArray × Int) =>
 obnd (f37 a0 a1 a2 a3) fun (y167 : (List Int) × (List Int) × Int × (List (ByteArray × Int))) =>
 obnd (f169 y167.1 y167.2.1 y167.2.2.1 y167.2.2.2 s c d x166.1 (IntKind.i64.wrap (s - (1 : Int)))) fun (y169 : Int × Int × Int × Int) =>
 some (y169.2.2.2, y169.1, y169.2.1, y169.2.2.1))
 ) fun (r161 : Int × Int × Int × Int) =>
 obnd (
 oite ((!(ieq r161.1 (24 : Int)))) (
 some (!(ieq r161.1 (18 : Int)))
 ) (
 some false)
 ) fun (r171 : Bool) =>
 oite r171 (
 some (.inr (.inr (.inr (.inr (false)))))
 ) (
 some (.inl (IntKind.i64.wrap (e153 + (1 : Int)))))
 ) (
 some (.inr (.inl (mx, s, c, d))))
 ) (
 some (.inr (.inl (mx, s, c, d))))
noncomputable def t370 (a0 : List Int) (a1 : List Int) (a2 : Int) (a3 : List (ByteArray × Int)) (m s c d lo hi mv : Int) : Option ((Int × Int × Int × Int) ⊕ ((Int × Int × Int × Int × Int) ⊕ ((Int × Int × Int) ⊕ Bool))) :=

 obnd (f42 lo hi mv) fun (y89 : Int × Int) =>
 oite ((!(ieq y89.2 (0 : Int)))) (
 obnd (
 oite ((!(ieq y89.2 (2 : Int)))) (
 some true
 ) (
 obnd (f15 lo (-1000000 : Int) (1000000 : Int)) fun (y97 : Bool) =>
 obnd (
 oite y97 (
 obnd (f15 hi (-1000000 : Int) (1000000 : Int)) fun (y102 : Bool) =>
 some y102
 ) (
 some false)
 ) fun (r99 : Bool) =>
 some r99)
 ) fun (r92 : Bool) =>
 oite r92 (
 some (.inr (.inr (.inr (false))))
 ) (
 some (.inl (m, s, c, d)))
 ) (
 obnd (f15 mv lo hi) fun (y106 : Bool) =>
 obnd (
 oite ((!(y106 == (ieq y89.1 (0 : Int))))) (
 some true
 ) (
 obnd (f15 y89.1 (0 : Int) (2000000 : Int)) fun (y113 : Bool) =>
 some (!y113))
 ) fun (r108 : Bool) =>
 oite r108 (
 some (.inr (.inr (.inr (false))))
 ) (
 oite ((ilt (1000000 : Int) y89.1)) (
 some (.inl (m, s, c, d))
 ) (
 obnd (f37 a0 a1 a2 a3) fun (y118 : (List Int) × (List Int) × Int × (List (ByteArray × Int))) =>
 obnd (f44 y118.1 y118.2.1 y118.2.2.1 y118.2.2.2 y89.1) fun (y120 : Int × Int) =>
 obnd (
 obnd (f37 a0 a1 a2 a3) fun (y126 : (List Int) × (List Int) × Int × (List (ByteArray × Int))) =>
 obnd (f45 y126.1 y126.2.1 y126.2.2.1 y126.2.2.2 s c d y89.1) fun (y128 : Int × Int × Int × Int) =>
 some (y128.2.2.2, y128.1, y128.2.1, y128.2.2.1)
 ) fun (r122 : Int × Int × Int × Int) =>
 obnd (
 obnd (
 oite ((!(ieq y120.2 (0 : Int)))) (
 some true
 ) (
 some (!(ieq r122.1 (0 : Int))))
 ) fun (r134 : Bool) =>
 oite r134 (
 some true
 ) (
 obnd (f15 y120.1 (0 : Int) ((a0.map eI).length : Int)) fun (y138 : Bool) =>
 some (!y138))
 ) fun (r130 : Bool) =>
 oite r130 (
 some (.inr (.inr (.inr (false))))
 ) (
 obnd (
 obnd (
 oite ((!(ieq r122.2.1 (imax m y120.1)))) (
 some true
 ) (
 oite y106 (
 some (!(ieq r122.2.1 s))
 ) (
 some false))
 ) fun (r146 : Bool) =>
 oite r146 (
 some true
 ) (
 some (!(ieq r122.2.2.2 y89.1)))
 ) fun (r142 : Bool) =>
 oite r142 (
 some (.inr (.inr (.inr (false))))
 ) (
 oloop (τ := Int) (ρ := (Int × Int × Int × Int) ⊕ ((Int × Int × Int × Int × Int) ⊕ ((Int × Int × Int) ⊕ Bool))) (in370 a0 a1 a2 a3 (imax m y120.1) y120.1 r122.2.1 r122.2.2.1 r122.2.2.2) (0 : Int))))))
noncomputable def l370 (a0 : List Int) (a1 : List Int) (a2 : Int) (a3 : List (ByteArray × Int)) (a4 : List (Int × Int × Int)) (a5 : Int) (e33 : Int × Int × Int × Int × Int) : Option ((Int × Int × Int × Int × Int) ⊕ ((Int × Int × Int) ⊕ Bool)) :=

 oite ((ilt e33.2.1 ((a4.map e_III).length : Int))) (
 obndS (
 ogrd ((ile 0 e33.2.1)) (
 obnd (a4[e33.2.1.toNat]?) fun (x42 : Int × Int × Int) =>
 obnd (f374 x42.1 x42.2.1 x42.2.2) fun (y43 : ByteArray) =>
 obnd (f373 y43) fun (y45 : Int × Int × Int × Int) =>
 obnd (
 oite ((!(ieq y45.2.2.2 (0 : Int)))) (
 some true
 ) (
 obnd (a4[e33.2.1.toNat]?) fun (x52 : Int × Int × Int) =>
 some (!((ieq y45.1 x52.1) && ((ieq y45.2.1 x52.2.1) && ((ieq y45.2.2.1 x52.2.2) && true)))))
 ) fun (r47 : Bool) =>
 oite r47 (
 some (.inr (.inr (.inr (false))))
 ) (
 obnd (oslH a4 e33.2.1) fun (m55 : List (Int × Int × Int)) =>
 obnd (f53 m55) fun (y58 : (List (Int × Int × Int))) =>
 obnd (f55 y58 a5) fun (y60 : Int × Int × Int × Int × Int × Int × Int) =>
 oite ((!(ieq y60.2.2.2.2.2.2 (0 : Int)))) (
 obnd (
 obnd (
 oite ((!(ieq y60.2.2.2.2.2.2 (10 : Int)))) (
 some (!(ieq y60.2.2.2.2.2.2 (12 : Int)))
 ) (
 some false)
 ) fun (r67 : Bool) =>
 obnd (
 oite r67 (
 some (!(ieq y60.2.2.2.2.2.2 (8 : Int)))
 ) (
 some false)
 ) fun (r70 : Bool) =>
 oite r70 (
 some true
 ) (
 some (!((ieq y60.2.2.2.2.2.2 (10 : Int)) == (ieq e33.2.1 (0 : Int)))))
 ) fun (r63 : Bool) =>
 oite r63 (
 some (.inr (.inr (.inr (false))))
 ) (
 some (.inl (e33.1, e33.2.2.1, e33.2.2.2.1, e33.2.2.2.2)))
 ) (
 obnd (
 obnd (oslH a4 e33.2.1) fun (m80 : List (Int × Int × Int)) =>
 obnd (f53 m80) fun (y83 : (List (Int × Int × Int))) =>
 obnd (f59 y83 y60.1 y60.2.1 y60.2.2.1 y60.2.2.2.1 y60.2.2.2.2.1 y60.2.2.2.2.2.1 y45.1 y45.2.1 y45.2.2.1) fun (y85 : Int × Int × Int) =>
 some (y85.2.2, y85.1, y85.2.1)
 ) fun (r76 : Int × Int × Int) =>
 oite ((!(ieq r76.1 (0 : Int)))) (
 some (.inr (.inr (.inr (false))))
 ) (t370 a0 a1 a2 a3 e33.1 e33.2.2.1 e33.2.2.2.1 e33.2.2.2.2 r76.2.1 r76.2.2 y45.2.2.1))))
 ) fun (r181 : Int × Int × Int × Int) =>
 some (.inl (r181.1, (IntKind.i64.wrap (e33.2.1 + (1 : Int))), r181.2.1, r181.2.2.1, r181.2.2.2))
 ) (
 some (.inr (.inl (e33.2.2.1, e33.2.2.2.1, e33.2.2.2.2))))

/-- An order by a person of the rules, while the last deviation asks for the step. -/
theorem lowE_no {U D : List Int} {H : Int} {P : List (ByteArray × Int)} {c e : Int} {i : Nat} (h : okR U D H P) (hi : i < P.length) (ha : 0 < askN U e U.length) :
    lowE D H P (askN U e U.length : Int) c e (gp P i).1 ((askN U e U.length : Int) - 1) = 24 ∨ lowE D H P (askN U e U.length : Int) c e (gp P i).1 ((askN U e U.length : Int) - 1) = 18 := by
  have hp := h.pers i hi
  have hn : nameB (gp P i).1 = true := by
    unfold persE at hp
    cases h1 : nameB (gp P i).1 with
    | true => rfl
    | false => rw [h1] at hp; cases hp
  have hle := askN_le U e U.length
  obtain ⟨m, hm⟩ : ∃ m : Nat, askN U e U.length = m + 1 := ⟨askN U e U.length - 1, by omega⟩
  have h3 := askN_lo (sorted_U h.step) (Nat.le_refl _) m (by omega : m < askN U e U.length)
  have h4 := (stepE_ok (h.step m (by omega))).2.2.1
  unfold lowE
  rw [hn]
  rcases @findI_lt _ (fun x : ByteArray × Int => x.1.toList == (gp P i).1.toList) P with hf | ⟨j, hf, hj⟩
  · exfalso
    have h5 := findI_any (fun x : ByteArray × Int => x.1.toList == (gp P i).1.toList) P
    rw [decide_eq_false (by omega)] at h5
    have h6 : (P.any fun x => x.1.toList == (gp P i).1.toList) = true := by
      rw [List.any_eq_true]
      exact ⟨gp P i, List.mem_of_getElem? (get_gp hi), beq_self_eq_true _⟩
    rw [h6] at h5; cases h5
  · rw [decide_eq_false (show ¬ (findI (fun x : ByteArray × Int => x.1.toList == (gp P i).1.toList) P < 0) by omega), hm]
    have e1 : (((m + 1 : Nat) : Int) - 1).toNat = m := by omega
    rw [e1, decide_eq_true (show (0 : Int) ≤ ((m + 1 : Nat) : Int) - 1 by omega), decide_eq_true (show ((m + 1 : Nat) : Int) - 1 ≤ ((m + 1 : Nat) : Int) - 1 by omega), decide_eq_true (show gi D m ≤ e by omega)]
    simp only [Bool.not_true, cond_false, Bool.and_self, Bool.or_true, cond_true]
    cases decide ((gp P (findI (fun x => x.1.toList == (gp P i).1.toList) P).toNat).2 < ((m + 1 : Nat) : Int)) with
    | true => exact .inr rfl
    | false => exact .inl rfl
theorem in370_e {U D : List Int} {H : Int} {P : List (ByteArray × Int)} {mx s c d : Int} (hsm : smallR U D P) (h : okR U D H P) (hck : (ckR U D H P).2 = 0) (hst : stE U.length s c d = 0) :
    oloop (in370 U D H P mx (askN U d U.length : Int) s c d) 0 = some (.inl (mx, s, c, d)) := by
  by_cases ha : 0 < askN U d U.length
  · by_cases hs : (askN U d U.length : Int) = s
    · subst hs
      refine oloop_all (fun k => (k : Int)) P.length rfl ?_ ?_
      · intro i hi
        have hp := h.pers i hi
        have hn : (gp P i).1.size ≤ 30 := by
          unfold persE at hp
          cases h1 : nameB (gp P i).1 with
          | true => unfold nameB at h1; simp only [Bool.and_eq_true, decide_eq_true_eq] at h1; omega
          | false => rw [h1] at hp; cases hp
        have hle := askN_le U d U.length
        have hl := h.le
        have hf := f169_e (H := H) (s := (askN U d U.length : Int)) (c := c) (e := d) (k := (askN U d U.length : Int) - 1) hsm hn
        unfold in370
        have ha' : (0 : Int) < (askN U d U.length : Int) := by omega
        rw [hck, hst] at hf
        simp (disch := omega) only [obnd_s, obnd_n, oite_ss, oite_t, oite_f, ogrd_t, ogrd_f, obndS_l, obndS_r, ilt_eq, ile_eq, ieq_eq, imax_e, imin_e, k0, k1, k2, k3, k4, k5, k6, k7, k8, k9, reduceIte, k10, k11, k12, k13, k14, k15, k16, k17, k18, k19, k20, k21, k22, k23, k24, k25, k26, k27, k28, hi, ha, ha', get_gp hi, f37_e hsm, wr]
        rw [hf]
        rcases lowE_no (H := H) (c := c) h hi ha with h0 | h0
        · rw [h0]; simp (disch := omega) only [obnd_s, obnd_n, oite_ss, oite_t, oite_f, ogrd_t, ogrd_f, obndS_l, obndS_r, ilt_eq, ile_eq, ieq_eq, imax_e, imin_e, k0, k1, k2, k3, k4, k5, k6, k7, k8, k9, reduceIte, k10, k11, k12, k13, k14, k15, k16, k17, k18, k19, k20, k21, k22, k23, k24, k25, k26, k27, k28]; rw [wr (n := (i : Int) + 1) (by have := hsm.2.2.1; omega) (by have := hsm.2.2.1; omega)]; rfl
        · rw [h0]; simp (disch := omega) only [obnd_s, obnd_n, oite_ss, oite_t, oite_f, ogrd_t, ogrd_f, obndS_l, obndS_r, ilt_eq, ile_eq, ieq_eq, imax_e, imin_e, k0, k1, k2, k3, k4, k5, k6, k7, k8, k9, reduceIte, k10, k11, k12, k13, k14, k15, k16, k17, k18, k19, k20, k21, k22, k23, k24, k25, k26, k27, k28]; rw [wr (n := (i : Int) + 1) (by have := hsm.2.2.1; omega) (by have := hsm.2.2.1; omega)]; rfl
      · unfold in370; simp (disch := omega) only [obnd_s, obnd_n, oite_ss, oite_t, oite_f, ogrd_t, ogrd_f, obndS_l, obndS_r, ilt_eq, ile_eq, ieq_eq, imax_e, imin_e, k0, k1, k2, k3, k4, k5, k6, k7, k8, k9, reduceIte, k10, k11, k12, k13, k14, k15, k16, k17, k18, k19, k20, k21, k22, k23, k24, k25, k26, k27, k28, Int.lt_irrefl]
    · refine oloop_done ?_
      unfold in370
      have ha' : (0 : Int) < (askN U d U.length : Int) := by omega
      by_cases hP : 0 < (P.length : Int)
      · simp (disch := omega) only [obnd_s, obnd_n, oite_ss, oite_t, oite_f, ogrd_t, ogrd_f, obndS_l, obndS_r, ilt_eq, ile_eq, ieq_eq, imax_e, imin_e, k0, k1, k2, k3, k4, k5, k6, k7, k8, k9, reduceIte, k10, k11, k12, k13, k14, k15, k16, k17, k18, k19, k20, k21, k22, k23, k24, k25, k26, k27, k28, hP, ha, ha', hs]
      · simp (disch := omega) only [obnd_s, obnd_n, oite_ss, oite_t, oite_f, ogrd_t, ogrd_f, obndS_l, obndS_r, ilt_eq, ile_eq, ieq_eq, imax_e, imin_e, k0, k1, k2, k3, k4, k5, k6, k7, k8, k9, reduceIte, k10, k11, k12, k13, k14, k15, k16, k17, k18, k19, k20, k21, k22, k23, k24, k25, k26, k27, k28, hP, ha, ha', hs]
  · refine oloop_done ?_
    unfold in370
    have ha' : ¬ (0 : Int) < (askN U d U.length : Int) := by omega
    by_cases hP : 0 < (P.length : Int)
    · simp (disch := omega) only [obnd_s, obnd_n, oite_ss, oite_t, oite_f, ogrd_t, ogrd_f, obndS_l, obndS_r, ilt_eq, ile_eq, ieq_eq, imax_e, imin_e, k0, k1, k2, k3, k4, k5, k6, k7, k8, k9, reduceIte, k10, k11, k12, k13, k14, k15, k16, k17, k18, k19, k20, k21, k22, k23, k24, k25, k26, k27, k28, hP, ha, ha']
    · simp (disch := omega) only [obnd_s, obnd_n, oite_ss, oite_t, oite_f, ogrd_t, ogrd_f, obndS_l, obndS_r, ilt_eq, ile_eq, ieq_eq, imax_e, imin_e, k0, k1, k2, k3, k4, k5, k6, k7, k8, k9, reduceIte, k10, k11, k12, k13, k14, k15, k16, k17, k18, k19, k20, k21, k22, k23, k24, k25, k26, k27, k28, hP, ha, ha']
theorem t370_e {U D : List Int} {H : Int} {P : List (ByteArray × Int)} {s c d lo hi mv : Int} (hsm : smallR U D P) (h : okR U D H P) (hck : (ckR U D H P).2 = 0) (hst : stE U.length s c d = 0) (hlo : lo ≤ hi) (hm : -2000 ≤ mv ∧ mv ≤ 2000) :
    ∃ v1 v2 v3, t370 U D H P s s c d lo hi mv = some (.inl (v1, v1, v2, v3)) ∧ stE U.length v1 v2 v3 = 0 := by
  unfold t370
  rw [f42_e]
  have hvm : val mv = true := by unfold val; rw [decide_eq_true (by omega), decide_eq_true (by omega)]; rfl
  rw [hvm, decide_eq_false (show ¬ hi < lo by omega)]
  cases hv : (val lo && val hi) with
  | false =>
    refine ⟨s, c, d, ?_, hst⟩
    have hv' : (decide ((-1000000 : Int) ≤ lo) && decide (lo ≤ 1000000) && (decide ((-1000000 : Int) ≤ hi) && decide (hi ≤ 1000000))) = false := hv
    simp (disch := omega) only [obnd_s, obnd_n, oite_ss, oite_t, oite_f, ogrd_t, ogrd_f, obndS_l, obndS_r, ilt_eq, ile_eq, ieq_eq, imax_e, imin_e, k0, k1, k2, k3, k4, k5, k6, k7, k8, k9, reduceIte, k10, k11, k12, k13, k14, k15, k16, k17, k18, k19, k20, k21, k22, k23, k24, k25, k26, k27, k28, f15_e, hv']
    first | done | rfl
  | true =>
    have hv' := hv
    unfold val at hv'
    simp only [Bool.and_eq_true, decide_eq_true_eq] at hv'
    rw [wr (by omega) (by omega), wr (by omega) (by omega)]
    obtain ⟨n, hn⟩ : ∃ n, max (max 0 (lo - mv)) (mv - hi) = n := ⟨_, rfl⟩
    rw [hn]
    have hn0 : 0 ≤ n ∧ n ≤ 2000000 := by omega
    have hin : (decide (lo ≤ mv) && decide (mv ≤ hi)) = decide (n = 0) := by
      rw [Bool.eq_iff_iff]; simp only [Bool.and_eq_true, decide_eq_true_eq]; omega
    by_cases hbig : 1000000 < n
    · refine ⟨s, c, d, ?_, hst⟩
      simp (disch := omega) only [obnd_s, obnd_n, oite_ss, oite_t, oite_f, ogrd_t, ogrd_f, obndS_l, obndS_r, ilt_eq, ile_eq, ieq_eq, imax_e, imin_e, k0, k1, k2, k3, k4, k5, k6, k7, k8, k9, reduceIte, k10, k11, k12, k13, k14, k15, k16, k17, k18, k19, k20, k21, k22, k23, k24, k25, k26, k27, k28, f15_e, hin, beq_self_eq_true, hn0.1, hn0.2, hbig]
    · have hth : thr0 n = true := by unfold thr0; rw [decide_eq_true (by omega), decide_eq_true (by omega)]; rfl
      obtain ⟨k, hk⟩ := ckR_ok hck
      refine ⟨(wat U D s c n).1, (wat U D s c n).2.1, (wat U D s c n).2.2, ?_, wat_st hst hth⟩
      have h44 := f44_e (H := H) (d := n) hsm
      have h45 := f45_e (H := H) (s := s) (c := c) (e := d) (d := n) hsm
      rw [hck, hth] at h44
      rw [hck, hst, hth] at h45
      have hle := askN_le U n U.length
      have h1 := wat_1 U D s c n
      have h3 := wat_3 U D s c n
      have hin2 := in370_e (mx := max s (askN U n U.length : Int)) hsm h hck (wat_st (c := c) (D := D) (s := s) (e := d) hst hth)
      rw [h3] at hin2
      have hask : n = 0 → (askN U n U.length : Int) = 0 := by
        intro h0
        rcases Nat.eq_zero_or_pos (askN U n U.length) with h5 | h5
        · rw [h5]; rfl
        · have h6 := askN_lo (sorted_U h.step) (Nat.le_refl _) 0 h5
          have h7 := (stepE_ok (h.step 0 (by omega))).1
          omega
      have hs0 := (stE_0 hst).1
      have e1 : n = 0 → max s (askN U n U.length : Int) = s := fun h0 => by rw [hask h0]; omega
      simp (disch := omega) only [obnd_s, obnd_n, oite_ss, oite_t, oite_f, ogrd_t, ogrd_f, obndS_l, obndS_r, ilt_eq, ile_eq, ieq_eq, imax_e, imin_e, k0, k1, k2, k3, k4, k5, k6, k7, k8, k9, reduceIte, k10, k11, k12, k13, k14, k15, k16, k17, k18, k19, k20, k21, k22, k23, k24, k25, k26, k27, k28, f15_e, hin, beq_self_eq_true, hn0.1, hn0.2, hbig, f37_e hsm, h44, h45, decide_true]
      have q : (decide (n = 0) && !decide ((wat U D s c n).1 = s)) = false := by
        by_cases h0 : n = 0
        · rw [h1, e1 h0]; simp
        · simp [h0]
      rw [q, decide_eq_true hle, decide_eq_true h1, decide_eq_true h3, h3]
      simp only [Bool.not_true, Bool.or_false, oite_f]
      rw [hin2, h1]
theorem loop370 {U D : List Int} {H : Int} {P : List (ByteArray × Int)} {l : List Rd} {s : Int} (hsm : smallR U D P) (hck : (ckR U D H P).2 = 0) (hl : l = [] ∨ rdsE l = 0) (hl2 : l.length ≤ 12) (hs : 1 ≤ s ∧ s ≤ 31) :
    ∀ (k i : Nat) (w1 w2 w3 : Int), i + k = l.length → stE U.length w1 w2 w3 = 0 → ∃ z, oloop (l370 U D H P l s) (w1, (i : Int), w1, w2, w3) = some (.inl z)
  | 0, i, w1, w2, w3, hi, hst => by
    refine ⟨(w1, w2, w3), oloop_done ?_⟩
    have hlt : ¬ (i : Int) < (l.length : Int) := by omega
    unfold l370; simp (disch := omega) only [obnd_s, obnd_n, oite_ss, oite_t, oite_f, ogrd_t, ogrd_f, obndS_l, obndS_r, ilt_eq, ile_eq, ieq_eq, imax_e, imin_e, k0, k1, k2, k3, k4, k5, k6, k7, k8, k9, reduceIte, k10, k11, k12, k13, k14, k15, k16, k17, k18, k19, k20, k21, k22, k23, k24, k25, k26, k27, k28, hlt]
  | k + 1, i, w1, w2, w3, hi, hst => by
    have hlt : i < l.length := by omega
    have hE : rdsE l = 0 := by
      rcases hl with h | h
      · rw [h] at hlt; simp at hlt
      · exact h
    obtain ⟨_, hx⟩ := rds_0 hE
    have hxi := hx i hlt
    have hB : rdB (gR l i) = true := by
      have := rdE_of hxi
      unfold rdE at this
      cases hb : rdB (gR l i) with
      | true => rfl
      | false => rw [hb] at this; cases this
    have hb := hxi
    unfold rdP at hb
    have h374 := f374_e (a := (gR l i).1) (b := (gR l i).2.1) (c := (gR l i).2.2) (by omega) (by omega) (by omega)
    have h373 := f373_back (a := (gR l i).1) (b := (gR l i).2.1) (c := (gR l i).2.2) hB
    have h53 := f53_e (l := l.take i) (by simp; omega)
    have next : ∀ v1 v2 v3, stE U.length v1 v2 v3 = 0 → ∃ z, oloop (l370 U D H P l s) (v1, ((i + 1 : Nat) : Int), v1, v2, v3) = some (.inl z) := fun v1 v2 v3 hv => loop370 hsm hck hl hl2 hs k (i + 1) v1 v2 v3 (by omega) hv
    by_cases hi0 : i = 0
    · subst hi0
      have h55 := f55_0 (s := s) hs
      obtain ⟨z, hz⟩ := next w1 w2 w3 hst
      refine ⟨z, ?_⟩
      rw [oloop_step (e' := (w1, ((0 + 1 : Nat) : Int), w1, w2, w3)) ?_]
      · exact hz
      · unfold l370
        have h530 := f53_e (l := ([] : List Rd)) (by simp)
        simp (disch := omega) only [obnd_s, obnd_n, oite_ss, oite_t, oite_f, ogrd_t, ogrd_f, obndS_l, obndS_r, ilt_eq, ile_eq, ieq_eq, imax_e, imin_e, k0, k1, k2, k3, k4, k5, k6, k7, k8, k9, reduceIte, k10, k11, k12, k13, k14, k15, k16, k17, k18, k19, k20, k21, k22, k23, k24, k25, k26, k27, k28, hlt, get_gR hlt, h374, h373, oslH_n (Nat.le_of_lt hlt), List.take_zero, wr]
        rw [h530]
        simp (disch := omega) only [obnd_s, obnd_n, oite_ss, oite_t, oite_f, ogrd_t, ogrd_f, obndS_l, obndS_r, ilt_eq, ile_eq, ieq_eq, imax_e, imin_e, k0, k1, k2, k3, k4, k5, k6, k7, k8, k9, reduceIte, k10, k11, k12, k13, k14, k15, k16, k17, k18, k19, k20, k21, k22, k23, k24, k25, k26, k27, k28, h55, wr]
        rfl
    · have hE2 := rds_take (i := i) hE (by omega) (by omega)
      obtain ⟨z, hz⟩ := next w1 w2 w3 hst
      rcases f55_is (l := l.take i) hE2 hs with ⟨h55, _⟩ | ⟨h55, _⟩ | ⟨f, G, hf, h55⟩
      · refine ⟨z, ?_⟩
        rw [oloop_step (e' := (w1, ((i + 1 : Nat) : Int), w1, w2, w3)) ?_]
        · exact hz
        · unfold l370
          simp (disch := omega) only [obnd_s, obnd_n, oite_ss, oite_t, oite_f, ogrd_t, ogrd_f, obndS_l, obndS_r, ilt_eq, ile_eq, ieq_eq, imax_e, imin_e, k0, k1, k2, k3, k4, k5, k6, k7, k8, k9, reduceIte, k10, k11, k12, k13, k14, k15, k16, k17, k18, k19, k20, k21, k22, k23, k24, k25, k26, k27, k28, hlt, get_gR hlt, h374, h373, oslH_n (Nat.le_of_lt hlt), h53, h55, wr]
          simp only [Int.natCast_eq_zero, hi0, decide_false, Bool.not_false, Bool.true_and, Bool.and_true, Bool.false_or, Bool.or_false, beq_self_eq_true, Bool.not_true, cond_false, cond_true]
          simp [hi0]
          simp (disch := omega) only [obnd_s, obnd_n, oite_ss, oite_t, oite_f, ogrd_t, ogrd_f, obndS_l, obndS_r, ilt_eq, ile_eq, ieq_eq, imax_e, imin_e, k0, k1, k2, k3, k4, k5, k6, k7, k8, k9, reduceIte, k10, k11, k12, k13, k14, k15, k16, k17, k18, k19, k20, k21, k22, k23, k24, k25, k26, k27, k28]
      · refine ⟨z, ?_⟩
        rw [oloop_step (e' := (w1, ((i + 1 : Nat) : Int), w1, w2, w3)) ?_]
        · exact hz
        · unfold l370
          simp (disch := omega) only [obnd_s, obnd_n, oite_ss, oite_t, oite_f, ogrd_t, ogrd_f, obndS_l, obndS_r, ilt_eq, ile_eq, ieq_eq, imax_e, imin_e, k0, k1, k2, k3, k4, k5, k6, k7, k8, k9, reduceIte, k10, k11, k12, k13, k14, k15, k16, k17, k18, k19, k20, k21, k22, k23, k24, k25, k26, k27, k28, hlt, get_gR hlt, h374, h373, oslH_n (Nat.le_of_lt hlt), h53, h55, wr]
          simp only [Int.natCast_eq_zero, hi0, decide_false, Bool.not_false, Bool.true_and, Bool.and_true, Bool.false_or, Bool.or_false, beq_self_eq_true, Bool.not_true, cond_false, cond_true]
          simp [hi0]
          simp (disch := omega) only [obnd_s, obnd_n, oite_ss, oite_t, oite_f, ogrd_t, ogrd_f, obndS_l, obndS_r, ilt_eq, ile_eq, ieq_eq, imax_e, imin_e, k0, k1, k2, k3, k4, k5, k6, k7, k8, k9, reduceIte, k10, k11, k12, k13, k14, k15, k16, k17, k18, k19, k20, k21, k22, k23, k24, k25, k26, k27, k28]
      · obtain ⟨hok, _⟩ := ckR_ok hck
        obtain ⟨lo, hi2, h59, hlo⟩ := fore hE2 (fit_ok hf.err) hf.err (rdE_of hxi)
        obtain ⟨v1, v2, v3, ht, hst2⟩ := t370_e (mv := (gR l i).2.2) hsm hok hck hst hlo (by omega)
        obtain ⟨z, hz⟩ := next v1 v2 v3 hst2
        refine ⟨z, ?_⟩
        rw [oloop_step (e' := (v1, ((i + 1 : Nat) : Int), v1, v2, v3)) ?_]
        · exact hz
        · unfold l370
          simp (disch := omega) only [obnd_s, obnd_n, oite_ss, oite_t, oite_f, ogrd_t, ogrd_f, obndS_l, obndS_r, ilt_eq, ile_eq, ieq_eq, imax_e, imin_e, k0, k1, k2, k3, k4, k5, k6, k7, k8, k9, reduceIte, k10, k11, k12, k13, k14, k15, k16, k17, k18, k19, k20, k21, k22, k23, k24, k25, k26, k27, k28, hlt, get_gR hlt, h374, h373, oslH_n (Nat.le_of_lt hlt), h53, h55, h59, ht, wr]
          rfl
theorem f50_e : f50 = some true := rfl
theorem law370 {U D : List Int} {H : Int} {P : List (ByteArray × Int)} {l : List Rd} {s : Int} : f370 U D H P l s = some true := by
  unfold f370
  obtain ⟨X, hX⟩ : ∃ X, X = oloop (l370 U D H P l s) ((0 : Int), (0 : Int), (0 : Int), (0 : Int), (0 : Int)) := ⟨_, rfl⟩
  have fin : smallR U D P → (ckR U D H P).2 = 0 → l.length ≤ 12 → (l = [] ∨ rdsE l = 0) → (1 ≤ s ∧ s ≤ 31) → ∃ z, X = some (.inl z) := fun h1 h2 h3 h4 h5 => by
    rw [hX]
    exact loop370 h1 h2 h4 h3 h5 l.length 0 0 0 0 (by omega) (stE_of (by omega) (by omega) rfl (fun _ => rfl))
  unfold l370 t370 in370 at hX
  rw [← hX, f50_e]
  clear hX
  by_cases hU : (5 : Int) < (U.length : Int)
  · simp (disch := omega) only [obnd_s, obnd_n, oite_ss, oite_t, oite_f, ogrd_t, ogrd_f, obndS_l, obndS_r, ilt_eq, ile_eq, ieq_eq, imax_e, imin_e, k0, k1, k2, k3, k4, k5, k6, k7, k8, k9, reduceIte, k10, k11, k12, k13, k14, k15, k16, k17, k18, k19, k20, k21, k22, k23, k24, k25, k26, k27, k28, hU]
  by_cases hP : (10 : Int) < (P.length : Int)
  · simp (disch := omega) only [obnd_s, obnd_n, oite_ss, oite_t, oite_f, ogrd_t, ogrd_f, obndS_l, obndS_r, ilt_eq, ile_eq, ieq_eq, imax_e, imin_e, k0, k1, k2, k3, k4, k5, k6, k7, k8, k9, reduceIte, k10, k11, k12, k13, k14, k15, k16, k17, k18, k19, k20, k21, k22, k23, k24, k25, k26, k27, k28, hU, hP]
  have h39 : f39 U D H P = some (ckR U D H P).2 := by unfold f39; rw [f46_a (by omega) (by omega)]; rfl
  by_cases hck : ¬ (ckR U D H P).2 = 0
  · simp (disch := omega) only [obnd_s, obnd_n, oite_ss, oite_t, oite_f, ogrd_t, ogrd_f, obndS_l, obndS_r, ilt_eq, ile_eq, ieq_eq, imax_e, imin_e, k0, k1, k2, k3, k4, k5, k6, k7, k8, k9, reduceIte, k10, k11, k12, k13, k14, k15, k16, k17, k18, k19, k20, k21, k22, k23, k24, k25, k26, k27, k28, hU, hP, h39, hck]
  have hck := Decidable.of_not_not hck
  by_cases hl : (12 : Int) < (l.length : Int)
  · simp (disch := omega) only [obnd_s, obnd_n, oite_ss, oite_t, oite_f, ogrd_t, ogrd_f, obndS_l, obndS_r, ilt_eq, ile_eq, ieq_eq, imax_e, imin_e, k0, k1, k2, k3, k4, k5, k6, k7, k8, k9, reduceIte, k10, k11, k12, k13, k14, k15, k16, k17, k18, k19, k20, k21, k22, k23, k24, k25, k26, k27, k28, hU, hP, h39, hck, hl]
  obtain ⟨hok, _⟩ := ckR_ok hck
  have hsm : smallR U D P := by
    have h1 := hok.len
    refine ⟨by omega, by omega, by omega, fun p hp => ?_⟩
    obtain ⟨i, hi, rfl⟩ := List.getElem_of_mem hp
    have h2 := hok.pers i hi
    have h3 : gp P i = P[i] := getD_i hi
    unfold persE at h2
    rw [h3] at h2
    cases h4 : nameB (P[i]).1 with
    | true => unfold nameB at h4; simp only [Bool.and_eq_true, decide_eq_true_eq] at h4; omega
    | false => rw [h4] at h2; cases h2
  have fin := fin hsm hck (by omega)
  have h51 : f51 l = some (rdsE l) := f51_e (by omega)
  by_cases h0 : (0 : Int) < (l.length : Int)
  · by_cases hr : rdsE l = 0
    · cases h2 : (decide (1 ≤ s) && decide (s ≤ 31)) with
      | false => simp (disch := omega) only [obnd_s, obnd_n, oite_ss, oite_t, oite_f, ogrd_t, ogrd_f, obndS_l, obndS_r, ilt_eq, ile_eq, ieq_eq, imax_e, imin_e, k0, k1, k2, k3, k4, k5, k6, k7, k8, k9, reduceIte, k10, k11, k12, k13, k14, k15, k16, k17, k18, k19, k20, k21, k22, k23, k24, k25, k26, k27, k28, hU, hP, h39, hck, hl, h0, h51, hr, f52_e, h2]; rfl
      | true =>
        simp only [Bool.and_eq_true, decide_eq_true_eq] at h2
        obtain ⟨z, hz⟩ := fin (.inr hr) h2
        simp (disch := omega) only [obnd_s, obnd_n, oite_ss, oite_t, oite_f, ogrd_t, ogrd_f, obndS_l, obndS_r, ilt_eq, ile_eq, ieq_eq, imax_e, imin_e, k0, k1, k2, k3, k4, k5, k6, k7, k8, k9, reduceIte, k10, k11, k12, k13, k14, k15, k16, k17, k18, k19, k20, k21, k22, k23, k24, k25, k26, k27, k28, hU, hP, h39, hck, hl, h0, h51, hr, f52_e, h2.1, h2.2, hz]
    · simp (disch := omega) only [obnd_s, obnd_n, oite_ss, oite_t, oite_f, ogrd_t, ogrd_f, obndS_l, obndS_r, ilt_eq, ile_eq, ieq_eq, imax_e, imin_e, k0, k1, k2, k3, k4, k5, k6, k7, k8, k9, reduceIte, k10, k11, k12, k13, k14, k15, k16, k17, k18, k19, k20, k21, k22, k23, k24, k25, k26, k27, k28, hU, hP, h39, hck, hl, h0, h51, hr]
  · have hne : l = [] := by cases l with | nil => rfl | cons x r => simp at h0
    cases h2 : (decide (1 ≤ s) && decide (s ≤ 31)) with
    | false => simp (disch := omega) only [obnd_s, obnd_n, oite_ss, oite_t, oite_f, ogrd_t, ogrd_f, obndS_l, obndS_r, ilt_eq, ile_eq, ieq_eq, imax_e, imin_e, k0, k1, k2, k3, k4, k5, k6, k7, k8, k9, reduceIte, k10, k11, k12, k13, k14, k15, k16, k17, k18, k19, k20, k21, k22, k23, k24, k25, k26, k27, k28, hU, hP, h39, hck, hl, h0, f52_e, h2]; rfl
    | true =>
      simp only [Bool.and_eq_true, decide_eq_true_eq] at h2
      obtain ⟨z, hz⟩ := fin (.inl hne) h2
      simp (disch := omega) only [obnd_s, obnd_n, oite_ss, oite_t, oite_f, ogrd_t, ogrd_f, obndS_l, obndS_r, ilt_eq, ile_eq, ieq_eq, imax_e, imin_e, k0, k1, k2, k3, k4, k5, k6, k7, k8, k9, reduceIte, k10, k11, k12, k13, k14, k15, k16, k17, k18, k19, k20, k21, k22, k23, k24, k25, k26, k27, k28, hU, hP, h39, hck, hl, h0, f52_e, h2.1, h2.2, hz]
end
end Go.Proofs.YtacgibkgojnfeaaGreatDoor.AM
