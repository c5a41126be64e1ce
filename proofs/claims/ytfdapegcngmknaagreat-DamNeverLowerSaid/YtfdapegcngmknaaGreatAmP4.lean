/- Plain laws: states of the watch. Conditions: none. -/
import Derived.Test.YtfdapegcngmknaaGreatAmP7
namespace Go.Proofs.YtfdapegcngmknaaGreat.AM
set_option linter.unusedSimpArgs false
set_option linter.unusedVariables false
open Go Go.RowKit

def thr0 (n : Int) : Bool := decide (0 ≤ n) && decide (n ≤ 1000000)
theorem f82_e (n : Int) : f82 n = some (thr0 n) := by unfold f82; simp (disch := omega) only [obnd_s, obnd_n, oite_ss, oite_t, oite_f, ogrd_t, ogrd_f, obndS_l, obndS_r, ilt_eq, ile_eq, ieq_eq, imax_e, imin_e, List.length_map, Int.toNat_natCast, decide_true, decide_false, Bool.not_true, Bool.not_false, Bool.not_eq_true, Bool.false_eq_true, if_true, if_false, reduceIte, not_false_eq_true, not_true_eq_false, Int.natCast_nonneg, Int.ofNat_lt, Int.ofNat_le, Bool.cond_true, Bool.cond_false, cond_true, cond_false, Bool.true_and, Bool.and_true, Bool.false_and, Bool.and_false, Bool.true_or, Bool.or_true, Bool.false_or, Bool.or_false, Bool.cond_true_left, Bool.cond_false_right, Bool.cond_true_right, Bool.cond_false_left, f65_e]; rfl
theorem f40_e (n : Int) : f40 n = some (bif thr0 n then 0 else 2) := by unfold f40 thr0; simp (disch := omega) only [obnd_s, obnd_n, oite_ss, oite_t, oite_f, ogrd_t, ogrd_f, obndS_l, obndS_r, ilt_eq, ile_eq, ieq_eq, imax_e, imin_e, List.length_map, Int.toNat_natCast, decide_true, decide_false, Bool.not_true, Bool.not_false, Bool.not_eq_true, Bool.false_eq_true, if_true, if_false, reduceIte, not_false_eq_true, not_true_eq_false, Int.natCast_nonneg, Int.ofNat_lt, Int.ofNat_le, Bool.cond_true, Bool.cond_false, cond_true, cond_false, Bool.true_and, Bool.and_true, Bool.false_and, Bool.and_false, Bool.true_or, Bool.or_true, Bool.false_or, Bool.or_false, Bool.cond_true_left, Bool.cond_false_right, Bool.cond_true_right, Bool.cond_false_left, f15_e]; cases (decide (0 ≤ n) && decide (n ≤ 1000000)) <;> rfl
def small (U D : List Int) (P : List (ByteArray × Int)) : Prop := U.length ≤ 1000 ∧ D.length ≤ 1000 ∧ P.length ≤ 1000 ∧ ∀ p, p ∈ P → p.1.size ≤ 1000
theorem ck43 {U D : List Int} {H : Int} {P : List (ByteArray × Int)} (h : small U D P) : f43 U D H P = some (ckR U D H P) := f43_e (by have := h.1; omega) (by have := h.2.1; omega) (by have := h.2.2.1; omega) (fun p hp => by have := h.2.2.2 p hp; omega)
theorem ck46 {U D : List Int} {H : Int} {P : List (ByteArray × Int)} (h : small U D P) : f46 U D H P = some (ckR U D H P) := f46_e (by have := h.1; omega) (by have := h.2.1; omega) (by have := h.2.2.1; omega) (fun p hp => by have := h.2.2.2 p hp; omega)
theorem f79_e {U D : List Int} {H : Int} {P : List (ByteArray × Int)} (h : small U D P) : f79 U D H P = some (U, D, H, P, (ckR U D H P).2) := by unfold f79; rw [ck43 h]; rfl
theorem f38_e {L : List Int} (h : L.length ≤ 1000000000) : f38 L = some L := by
  unfold f38; rw [ogrd_fits (by simp; omega) (by simp; omega)]; rfl
theorem f37_e {U D : List Int} {H : Int} {P : List (ByteArray × Int)} (h : small U D P) : f37 U D H P = some (U, D, H, P) := by
  unfold f37
  obtain ⟨h1, h2, h3, _⟩ := h
  rw [f38_e (by omega), f38_e (by omega)]
  simp only [obnd_s]
  rw [ogrd_fits (by simp; omega) (by simp; omega)]; rfl

/-! ### What rules that are valid are -/
theorem errs_none {f : Nat → Int} {n : Nat} (h : errs f n = none) : ∀ i, i < n → f i = 0 := by
  intro i hi
  have := scanF_none h i (Nat.zero_le _) (by omega)
  cases hd : decide (f i = 0) with
  | true => exact of_decide_eq_true hd
  | false => rw [hd] at this; cases this
theorem errs_some {f : Nat → Int} {n : Nat} {r : Int × Int} (h : errs f n = some r) : r.2 ≠ 0 := by
  unfold errs at h
  have key : ∀ (k i : Nat), scanF (fun i => bif !decide (f i = 0) then some ((i : Int), f i) else none) k i = some r → r.2 ≠ 0 := by
    intro k
    induction k with
    | zero => intro i h; cases h
    | succ k ih =>
      intro i h
      simp only [scanF] at h
      cases hd : decide (f i = 0) with
      | true => rw [hd] at h; exact ih (i + 1) h
      | false => rw [hd] at h; injection h with h; rw [← h]; exact of_decide_eq_false hd
  exact key n 0 h
structure okR (U D : List Int) (H : Int) (P : List (ByteArray × Int)) : Prop where
  pos : 0 < U.length
  le : U.length ≤ 5
  len : D.length = U.length
  step : ∀ i, i < U.length → stepE U D i = 0
  hold : 0 ≤ H ∧ H ≤ 1000000
  few : P.length ≤ 10
  pers : ∀ i, i < P.length → persE U.length P i = 0
theorem ckR_ok {U D : List Int} {H : Int} {P : List (ByteArray × Int)} (h : (ckR U D H P).2 = 0) : okR U D H P ∧ ckR U D H P = (0, 0) := by
  unfold ckR at h ⊢
  cases h1 : (decide (U.length = 0) || !decide (D.length = U.length)) with
  | true => rw [h1] at h; cases h
  | false =>
    rw [h1] at h
    simp only [cond_false] at h ⊢
    simp only [Bool.or_eq_false_iff, Bool.not_eq_false', decide_eq_true_eq, decide_eq_false_iff_not] at h1
    cases h2 : decide (5 < U.length) with
    | true => rw [h2] at h; cases h
    | false =>
      rw [h2] at h
      simp only [cond_false] at h ⊢
      cases h3 : errs (stepE U D) U.length with
      | some r => rw [h3] at h; exact absurd h (errs_some h3)
      | none =>
        rw [h3] at h
        simp only at h ⊢
        cases h4 : (decide (0 ≤ H) && decide (H ≤ 1000000)) with
        | false => rw [h4] at h; cases h
        | true =>
          rw [h4] at h
          simp only [Bool.not_true, cond_false] at h ⊢
          simp only [Bool.and_eq_true, decide_eq_true_eq] at h4
          cases h5 : decide (10 < P.length) with
          | true => rw [h5] at h; cases h
          | false =>
            rw [h5] at h
            simp only [cond_false] at h ⊢
            cases h6 : errs (persE U.length P) P.length with
            | some r => rw [h6] at h; exact absurd h (errs_some h6)
            | none =>
              simp only [decide_eq_false_iff_not] at h2 h5
              exact ⟨⟨by omega, by omega, h1.2, errs_none h3, h4, by omega, errs_none h6⟩, rfl⟩
theorem stepE_ok {U D : List Int} {i : Nat} (h : stepE U D i = 0) : (1 ≤ gi U i ∧ gi U i ≤ 1000000) ∧ (1 ≤ gi D i ∧ gi D i ≤ 1000000) ∧ gi D i ≤ gi U i ∧ (0 < i → gi U (i - 1) < gi U i ∧ gi D (i - 1) ≤ gi D i) := by
  unfold stepE at h
  cases a : (thr (gi U i) && thr (gi D i)) with
  | false => rw [a] at h; cases h
  | true =>
    rw [a] at h
    simp only [Bool.and_eq_true, thr, decide_eq_true_eq] at a
    cases c : decide (gi U i < gi D i) with
    | true => rw [c] at h; cases h
    | false =>
      rw [c] at h
      cases d : (decide (0 < i) && (decide (gi U i ≤ gi U (i - 1)) || decide (gi D i < gi D (i - 1)))) with
      | true => rw [d] at h; cases h
      | false =>
        simp only [Bool.and_eq_false_iff, Bool.or_eq_false_iff, decide_eq_false_iff_not] at c d
        refine ⟨a.1, a.2, by omega, fun h0 => ?_⟩
        rcases d with d | d
        · omega
        · omega
theorem sorted_U {U D : List Int} (h : ∀ i, i < U.length → stepE U D i = 0) : ∀ (j i : Nat), i < j → j < U.length → gi U i < gi U j
  | 0, i, h1, _ => by omega
  | j + 1, i, h1, h2 => by
    have h3 := ((stepE_ok (h (j + 1) h2)).2.2.2 (by omega)).1
    rw [Nat.add_sub_cancel] at h3
    rcases Nat.lt_or_ge i j with h4 | h4
    · have := sorted_U h j i h4 (by omega); omega
    · rw [show i = j by omega]; exact h3
theorem sorted_D {U D : List Int} (h : ∀ i, i < U.length → stepE U D i = 0) : ∀ (j i : Nat), i ≤ j → j < U.length → gi D i ≤ gi D j
  | 0, i, h1, _ => by rw [show i = 0 by omega]; exact Int.le_refl _
  | j + 1, i, h1, h2 => by
    have h3 := ((stepE_ok (h (j + 1) h2)).2.2.2 (by omega)).2
    rw [Nat.add_sub_cancel] at h3
    rcases Nat.lt_or_ge j i with h4 | h4
    · rw [show i = j + 1 by omega]; exact Int.le_refl _
    · have := sorted_D h j i h4 (by omega); omega

/-! ### The step that a deviation asks for -/
def askN (U : List Int) (d : Int) : Nat → Nat
  | 0 => 0
  | i + 1 => bif decide (gi U i ≤ d) then i + 1 else askN U d i
theorem askN_le (U : List Int) (d : Int) : ∀ n : Nat, askN U d n ≤ n
  | 0 => Nat.le_refl _
  | n + 1 => by
    have := askN_le U d n
    simp only [askN]
    cases decide (gi U n ≤ d) <;> simp <;> omega
theorem askN_hi {U : List Int} {d : Int} : ∀ {n : Nat}, ∀ i, askN U d n ≤ i → i < n → d < gi U i
  | 0, i, _, h => by omega
  | n + 1, i, h1, h2 => by
    simp only [askN] at h1
    cases hd : decide (gi U n ≤ d) with
    | true => rw [hd] at h1; simp at h1; omega
    | false =>
      rw [hd] at h1
      simp only [cond_false, decide_eq_false_iff_not] at h1 hd
      rcases Nat.lt_or_ge i n with h3 | h3
      · exact askN_hi i h1 h3
      · rw [show i = n by omega]; omega
theorem askN_lo {U : List Int} {d : Int} (hs : ∀ (j i : Nat), i < j → j < U.length → gi U i < gi U j) : ∀ {n : Nat}, n ≤ U.length → ∀ i, i < askN U d n → gi U i ≤ d
  | 0, _, i, h => by simp [askN] at h
  | n + 1, hn, i, h1 => by
    simp only [askN] at h1
    cases hd : decide (gi U n ≤ d) with
    | true =>
      rw [hd] at h1
      simp only [cond_true, decide_eq_true_eq] at h1 hd
      rcases Nat.lt_or_ge i n with h3 | h3
      · have := hs n i h3 (by omega); omega
      · rw [show i = n by omega]; exact hd
    | false => rw [hd] at h1; exact askN_lo hs (by omega) i h1
theorem u64_in {n : Int} (h1 : 0 ≤ n) (h2 : n < 9223372036854775808) : IntKind.u64.wrap n = n := by
  unfold IntKind.wrap
  simp only [IntKind.bits, IntKind.signed, Bool.false_and, Bool.false_eq_true, if_false]
  exact Int.emod_eq_of_lt h1 (by omega)
theorem half {lo hi : Nat} (h : lo + hi < 4611686018427387904) : IntKind.i64.wrap ((IntKind.u64.wrap (IntKind.i64.wrap ((lo : Int) + (hi : Int)))).fdiv (2 ^ (min (1 : Int).toNat (IntKind.bits .u64)))) = (((lo + hi) / 2 : Nat) : Int) := by
  rw [wr (n := (lo : Int) + hi) (by omega) (by omega), u64_in (by omega) (by omega), show (2 : Int) ^ (min (1 : Int).toNat (IntKind.bits .u64)) = 2 from rfl, Int.fdiv_eq_ediv_of_nonneg _ (by omega), wr (by omega) (by omega)]
  omega
theorem f122_e (a b : Int) : f122 a b = some (decide (a < b)) := by unfold f122 f121; simp (disch := omega) only [obnd_s, obnd_n, oite_ss, oite_t, oite_f, ogrd_t, ogrd_f, obndS_l, obndS_r, ilt_eq, ile_eq, ieq_eq, imax_e, imin_e, List.length_map, Int.toNat_natCast, decide_true, decide_false, Bool.not_true, Bool.not_false, Bool.not_eq_true, Bool.false_eq_true, if_true, if_false, reduceIte, not_false_eq_true, not_true_eq_false, Int.natCast_nonneg, Int.ofNat_lt, Int.ofNat_le, Bool.cond_true, Bool.cond_false, cond_true, cond_false, Bool.true_and, Bool.and_true, Bool.false_and, Bool.and_false, Bool.true_or, Bool.or_true, Bool.false_or, Bool.or_false, Bool.cond_true_left, Bool.cond_false_right, Bool.cond_true_right, Bool.cond_false_left]
noncomputable def bsG (L : List Int) (d : Int) (e : Int × Int) : Option ((Int × Int) ⊕ Int) :=
          oite ((ilt e.1 e.2)) (
              ogrd ((ile 0 (IntKind.i64.wrap ((IntKind.u64.wrap (IntKind.i64.wrap (e.1 + e.2))).fdiv (2 ^ (min (1 : Int).toNat (IntKind.bits .u64))))))) (
              obnd (L[(IntKind.i64.wrap ((IntKind.u64.wrap (IntKind.i64.wrap (e.1 + e.2))).fdiv (2 ^ (min (1 : Int).toNat (IntKind.bits .u64))))).toNat]?) fun (x8 : Int) =>
              obnd (f122 x8 d) fun (y9 : Bool) =>
              oite y9 (
                  some (.inl (((IntKind.i64.wrap ((IntKind.i64.wrap ((IntKind.u64.wrap (IntKind.i64.wrap (e.1 + e.2))).fdiv (2 ^ (min (1 : Int).toNat (IntKind.bits .u64))))) + (1 : Int))), e.2)))
                ) (
                  some (.inl ((e.1, (IntKind.i64.wrap ((IntKind.u64.wrap (IntKind.i64.wrap (e.1 + e.2))).fdiv (2 ^ (min (1 : Int).toNat (IntKind.bits .u64))))))))
                )
              )
            ) (
              some (.inr (e.1))
            )
theorem bs_loop {L : List Int} {d : Int} (hs : ∀ (j i : Nat), i < j → j < L.length → gi L i < gi L j) (hl : L.length ≤ 1000) : ∀ (k lo hi : Nat), hi - lo ≤ k → lo ≤ hi → hi ≤ L.length → (∀ i, i < lo → gi L i < d) → (∀ i, hi ≤ i → i < L.length → d ≤ gi L i) →
    ∃ p : Nat, oloop (bsG L d) ((lo : Int), (hi : Int)) = some (p : Int) ∧ p ≤ L.length ∧ (∀ i, i < p → gi L i < d) ∧ (∀ i, p ≤ i → i < L.length → d ≤ gi L i)
  | 0, lo, hi, hk, h1, h2, h3, h4 => by
    obtain rfl : lo = hi := by omega
    refine ⟨lo, oloop_done ?_, h2, h3, h4⟩
    unfold bsG; simp (disch := omega) only [obnd_s, obnd_n, oite_ss, oite_t, oite_f, ogrd_t, ogrd_f, obndS_l, obndS_r, ilt_eq, ile_eq, ieq_eq, imax_e, imin_e, List.length_map, Int.toNat_natCast, decide_true, decide_false, Bool.not_true, Bool.not_false, Bool.not_eq_true, Bool.false_eq_true, if_true, if_false, reduceIte, not_false_eq_true, not_true_eq_false, Int.natCast_nonneg, Int.ofNat_lt, Int.ofNat_le, Bool.cond_true, Bool.cond_false, cond_true, cond_false, Bool.true_and, Bool.and_true, Bool.false_and, Bool.and_false, Bool.true_or, Bool.or_true, Bool.false_or, Bool.or_false, Bool.cond_true_left, Bool.cond_false_right, Bool.cond_true_right, Bool.cond_false_left, Int.lt_irrefl]
  | k + 1, lo, hi, hk, h1, h2, h3, h4 => by
    rcases Nat.eq_or_lt_of_le h1 with rfl | h5
    · refine ⟨lo, oloop_done ?_, h2, h3, h4⟩
      unfold bsG; simp (disch := omega) only [obnd_s, obnd_n, oite_ss, oite_t, oite_f, ogrd_t, ogrd_f, obndS_l, obndS_r, ilt_eq, ile_eq, ieq_eq, imax_e, imin_e, List.length_map, Int.toNat_natCast, decide_true, decide_false, Bool.not_true, Bool.not_false, Bool.not_eq_true, Bool.false_eq_true, if_true, if_false, reduceIte, not_false_eq_true, not_true_eq_false, Int.natCast_nonneg, Int.ofNat_lt, Int.ofNat_le, Bool.cond_true, Bool.cond_false, cond_true, cond_false, Bool.true_and, Bool.and_true, Bool.false_and, Bool.and_false, Bool.true_or, Bool.or_true, Bool.false_or, Bool.or_false, Bool.cond_true_left, Bool.cond_false_right, Bool.cond_true_right, Bool.cond_false_left, Int.lt_irrefl]
    · have hm : (lo + hi) / 2 < L.length := by omega
      have hg := get_gi hm
      by_cases hd : gi L ((lo + hi) / 2) < d
      · obtain ⟨p, hp, h6⟩ := bs_loop hs hl k ((lo + hi) / 2 + 1) hi (by omega) (by omega) h2 (fun i hi' => by
          rcases Nat.lt_or_ge i ((lo + hi) / 2) with h7 | h7
          · have := hs _ i h7 hm; omega
          · rw [show i = (lo + hi) / 2 by omega]; exact hd) h4
        refine ⟨p, ?_, h6⟩
        rw [← hp]
        refine oloop_step ?_
        unfold bsG
        simp only [half (show lo + hi < 4611686018427387904 by omega)]
        simp (disch := omega) only [obnd_s, obnd_n, oite_ss, oite_t, oite_f, ogrd_t, ogrd_f, obndS_l, obndS_r, ilt_eq, ile_eq, ieq_eq, imax_e, imin_e, List.length_map, Int.toNat_natCast, decide_true, decide_false, Bool.not_true, Bool.not_false, Bool.not_eq_true, Bool.false_eq_true, if_true, if_false, reduceIte, not_false_eq_true, not_true_eq_false, Int.natCast_nonneg, Int.ofNat_lt, Int.ofNat_le, Bool.cond_true, Bool.cond_false, cond_true, cond_false, Bool.true_and, Bool.and_true, Bool.false_and, Bool.and_false, Bool.true_or, Bool.or_true, Bool.false_or, Bool.or_false, Bool.cond_true_left, Bool.cond_false_right, Bool.cond_true_right, Bool.cond_false_left, h5, hg, f122_e, hd, wr]; rfl
      · obtain ⟨p, hp, h6⟩ := bs_loop hs hl k lo ((lo + hi) / 2) (by omega) (by omega) (by omega) h3 (fun i hi' hi2 => by
          rcases Nat.lt_or_ge ((lo + hi) / 2) i with h7 | h7
          · have := hs i _ h7 hi2; omega
          · rw [show i = (lo + hi) / 2 by omega]; omega)
        refine ⟨p, ?_, h6⟩
        rw [← hp]
        refine oloop_step ?_
        unfold bsG
        simp only [half (show lo + hi < 4611686018427387904 by omega)]
        simp (disch := omega) only [obnd_s, obnd_n, oite_ss, oite_t, oite_f, ogrd_t, ogrd_f, obndS_l, obndS_r, ilt_eq, ile_eq, ieq_eq, imax_e, imin_e, List.length_map, Int.toNat_natCast, decide_true, decide_false, Bool.not_true, Bool.not_false, Bool.not_eq_true, Bool.false_eq_true, if_true, if_false, reduceIte, not_false_eq_true, not_true_eq_false, Int.natCast_nonneg, Int.ofNat_lt, Int.ofNat_le, Bool.cond_true, Bool.cond_false, cond_true, cond_false, Bool.true_and, Bool.and_true, Bool.false_and, Bool.and_false, Bool.true_or, Bool.or_true, Bool.false_or, Bool.or_false, Bool.cond_true_left, Bool.cond_false_right, Bool.cond_true_right, Bool.cond_false_left, h5, hg, f122_e, hd]
theorem f89_e {U D : List Int} {H : Int} {P : List (ByteArray × Int)} {d : Int} (hs : ∀ (j i : Nat), i < j → j < U.length → gi U i < gi U j) (hl : U.length ≤ 1000) : f89 U D H P d = some (askN U d U.length : Int) := by
  unfold f89 f112
  obtain ⟨p, hp, h1, h2, h3⟩ := bs_loop (d := d) hs hl U.length 0 U.length (by omega) (by omega) (by omega) (fun i h => by omega) (fun i h h' => by omega)
  have hp' : oloop (bsG U d) ((0 : Int), ((U.map eI).length : Int)) = some (p : Int) := by rw [List.length_map]; exact hp
  unfold bsG at hp'
  rw [hp']
  have a1 := @askN_hi U d U.length
  have a2 := @askN_lo U d hs U.length (Nat.le_refl _)
  have a3 := askN_le U d U.length
  rcases Nat.eq_or_lt_of_le h1 with he | hlt
  · have : askN U d U.length = p := by
      rcases Nat.lt_or_ge (askN U d U.length) p with h4 | h4
      · have := a1 (askN U d U.length) (Nat.le_refl _) (by omega); have := h2 _ h4; omega
      · omega
    rw [this]
    simp (disch := omega) only [obnd_s, obnd_n, oite_ss, oite_t, oite_f, ogrd_t, ogrd_f, obndS_l, obndS_r, ilt_eq, ile_eq, ieq_eq, imax_e, imin_e, List.length_map, Int.toNat_natCast, decide_true, decide_false, Bool.not_true, Bool.not_false, Bool.not_eq_true, Bool.false_eq_true, if_true, if_false, reduceIte, not_false_eq_true, not_true_eq_false, Int.natCast_nonneg, Int.ofNat_lt, Int.ofNat_le, Bool.cond_true, Bool.cond_false, cond_true, cond_false, Bool.true_and, Bool.and_true, Bool.false_and, Bool.and_false, Bool.true_or, Bool.or_true, Bool.false_or, Bool.or_false, Bool.cond_true_left, Bool.cond_false_right, Bool.cond_true_right, Bool.cond_false_left, show ¬ ((p : Int) < (U.length : Int)) by omega]
  · have hg := get_gi hlt
    by_cases hd : gi U p = d
    · have : askN U d U.length = p + 1 := by
        rcases Nat.lt_or_ge (askN U d U.length) (p + 1) with h4 | h4
        · have := a1 p (by omega) hlt; omega
        · rcases Nat.eq_or_lt_of_le h4 with h5 | h5
          · exact h5.symm
          · have := a2 (p + 1) h5; have := hs (p + 1) p (by omega) (by omega); omega
      rw [this]
      simp (disch := omega) only [obnd_s, obnd_n, oite_ss, oite_t, oite_f, ogrd_t, ogrd_f, obndS_l, obndS_r, ilt_eq, ile_eq, ieq_eq, imax_e, imin_e, List.length_map, Int.toNat_natCast, decide_true, decide_false, Bool.not_true, Bool.not_false, Bool.not_eq_true, Bool.false_eq_true, if_true, if_false, reduceIte, not_false_eq_true, not_true_eq_false, Int.natCast_nonneg, Int.ofNat_lt, Int.ofNat_le, Bool.cond_true, Bool.cond_false, cond_true, cond_false, Bool.true_and, Bool.and_true, Bool.false_and, Bool.and_false, Bool.true_or, Bool.or_true, Bool.false_or, Bool.or_false, Bool.cond_true_left, Bool.cond_false_right, Bool.cond_true_right, Bool.cond_false_left, hlt, hg, hd, wr]; rfl
    · have : askN U d U.length = p := by
        have h6 := h3 p (Nat.le_refl _) hlt
        rcases Nat.lt_or_ge (askN U d U.length) p with h4 | h4
        · have := a1 (askN U d U.length) (Nat.le_refl _) (by omega); have := h2 _ h4; omega
        · rcases Nat.eq_or_lt_of_le h4 with h5 | h5
          · exact h5.symm
          · have := a2 p h5; omega
      rw [this]
      unfold f123
      simp (disch := omega) only [obnd_s, obnd_n, oite_ss, oite_t, oite_f, ogrd_t, ogrd_f, obndS_l, obndS_r, ilt_eq, ile_eq, ieq_eq, imax_e, imin_e, List.length_map, Int.toNat_natCast, decide_true, decide_false, Bool.not_true, Bool.not_false, Bool.not_eq_true, Bool.false_eq_true, if_true, if_false, reduceIte, not_false_eq_true, not_true_eq_false, Int.natCast_nonneg, Int.ofNat_lt, Int.ofNat_le, Bool.cond_true, Bool.cond_false, cond_true, cond_false, Bool.true_and, Bool.and_true, Bool.false_and, Bool.and_false, Bool.true_or, Bool.or_true, Bool.false_or, Bool.or_false, Bool.cond_true_left, Bool.cond_false_right, Bool.cond_true_right, Bool.cond_false_left, hlt, hg, hd]
end Go.Proofs.YtfdapegcngmknaaGreat.AM
