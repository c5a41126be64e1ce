/- Plain law: DamNeverLower. Conditions: none. -/
import Derived.Test.YtfdapegcngmknaaGreatAmW164
namespace Go.Proofs.YtfdapegcngmknaaGreat.AM
set_option linter.unusedSimpArgs false
set_option linter.unusedVariables false
open Go Go.RowKit

theorem stE_of {n : Nat} {s c d : Int} (hs : 0 ≤ s ∧ s ≤ n) (hc : 0 ≤ c ∧ c ≤ 1000000) (hd : thr0 d = true) (h0 : s = 0 → c = 0) : stE n s c d = 0 := by
  unfold stE
  have h1 : (decide (0 ≤ s) && decide (s ≤ (n : Int)) && (decide (0 ≤ c) && decide (c ≤ 1000000)) && thr0 d) = true := by simp [hs.1, hs.2, hc.1, hc.2, hd]
  rw [h1]
  by_cases h2 : s = 0
  · simp [h2, h0 h2]
  · simp [h2]
theorem wat_1 (U D : List Int) (s c d : Int) : (wat U D s c d).1 = max s (askN U d U.length : Int) := by
  unfold wat
  by_cases h : s < (askN U d U.length : Int)
  · simp only [h, decide_true, cond_true]; omega
  · simp only [h, decide_false, cond_false]
    cases (decide (0 < s) && decide (d < gi D (s - 1).toNat)) <;> simp <;> omega
theorem wat_3 (U D : List Int) (s c d : Int) : (wat U D s c d).2.2 = d := by
  unfold wat
  cases decide (s < (askN U d U.length : Int)) with
  | true => rfl
  | false => cases (decide (0 < s) && decide (d < gi D (s - 1).toNat)) <;> rfl
theorem wat_0 {U D : List Int} {s c d : Int} (hs : 0 ≤ s) (h : (wat U D s c d).1 = 0) : (wat U D s c d).2.1 = 0 := by
  have h1 := wat_1 U D s c d
  rw [h1] at h
  unfold wat
  by_cases h2 : s < (askN U d U.length : Int)
  · simp only [h2, decide_true, cond_true]
  · have h3 : ¬ (0 < s) := by omega
    simp only [h2, h3, decide_false, cond_false, Bool.false_and]
theorem wat_st {U D : List Int} {s c e d : Int} (h : stE U.length s c e = 0) (hd : thr0 d = true) : stE U.length (wat U D s c d).1 (wat U D s c d).2.1 (wat U D s c d).2.2 = 0 := by
  obtain ⟨h1, h2, _⟩ := stE_0 h
  obtain ⟨h3, h4⟩ := @wat_ok U D s c d h1 h2
  exact stE_of h3 h4 (by rw [wat_3]; exact hd) (wat_0 h1.1)
/-- The rank of the last person of a name. -/
def rankN (P : List (ByteArray × Int)) (b : ByteArray) : Nat → Int
  | 0 => 0
  | i + 1 => bif (gp P i).1.toList == b.toList then (gp P i).2 else rankN P b i
theorem rank_loop {P O : List (ByteArray × Int)} {e : Int × Int × Int × Int × Bool × Int} {i : Nat} (he : e.2.2.2.2.2 = (i : Int)) (hi : i < O.length) (hP : P.length ≤ 1000) : oloop (l165_1 P O e) ((0 : Int), (0 : Int)) = some (rankN P (gp O i).1 P.length) := by
  refine oloop_all (fun k => (rankN P (gp O i).1 k, (k : Int))) P.length rfl ?_ ?_
  · intro k hk
    unfold l165_1
    simp (disch := omega) only [obnd_s, obnd_n, oite_ss, oite_t, oite_f, ogrd_t, ogrd_f, obndS_l, obndS_r, ilt_eq, ile_eq, ieq_eq, imax_e, imin_e, List.length_map, Int.toNat_natCast, decide_true, decide_false, Bool.not_true, Bool.not_false, Bool.not_eq_true, Bool.false_eq_true, if_true, if_false, reduceIte, not_false_eq_true, not_true_eq_false, Int.natCast_nonneg, Int.ofNat_lt, Int.ofNat_le, Bool.cond_true, Bool.cond_false, cond_true, cond_false, Bool.true_and, Bool.and_true, Bool.false_and, Bool.and_false, Bool.true_or, Bool.or_true, Bool.false_or, Bool.or_false, Bool.cond_true_left, Bool.cond_false_right, Bool.cond_true_right, Bool.cond_false_left, hk, get_gp hk, he, get_gp hi, wr]
    simp only [rankN]
    cases (gp P k).1.toList == (gp O i).1.toList <;> rfl
  · unfold l165_1; simp (disch := omega) only [obnd_s, obnd_n, oite_ss, oite_t, oite_f, ogrd_t, ogrd_f, obndS_l, obndS_r, ilt_eq, ile_eq, ieq_eq, imax_e, imin_e, List.length_map, Int.toNat_natCast, decide_true, decide_false, Bool.not_true, Bool.not_false, Bool.not_eq_true, Bool.false_eq_true, if_true, if_false, reduceIte, not_false_eq_true, not_true_eq_false, Int.natCast_nonneg, Int.ofNat_lt, Int.ofNat_le, Bool.cond_true, Bool.cond_false, cond_true, cond_false, Bool.true_and, Bool.and_true, Bool.false_and, Bool.and_false, Bool.true_or, Bool.or_true, Bool.false_or, Bool.or_false, Bool.cond_true_left, Bool.cond_false_right, Bool.cond_true_right, Bool.cond_false_left, Int.lt_irrefl]
theorem known_2 {P : List (ByteArray × Int)} {b : ByteArray} {i j : Nat} (hij : i < j) (hj : j < P.length) (h1 : ((gp P i).1.toList == b.toList) = true) (h2 : ((gp P j).1.toList == b.toList) = true) : knownP P j = true := by
  unfold knownP
  rw [List.any_eq_true]
  refine ⟨gp P i, ?_, ?_⟩
  · have : (P.take j)[i]? = some (gp P i) := by rw [List.getElem?_take, if_pos hij]; exact get_gp (by omega)
    exact List.mem_of_getElem? this
  · have e1 := eq_of_beq h1
    have e2 := eq_of_beq h2
    rw [e1, e2]; exact beq_self_eq_true _
theorem rank_eq {P : List (ByteArray × Int)} {b : ByteArray} {i : Nat} (hk : ∀ j, j < P.length → knownP P j = false) (hi : i < P.length) (h1 : ((gp P i).1.toList == b.toList) = true) : ∀ n, i < n → n ≤ P.length → rankN P b n = (gp P i).2
  | 0, h, _ => by omega
  | n + 1, h, hn => by
    simp only [rankN]
    rcases Nat.eq_or_lt_of_le (Nat.le_of_lt_succ h) with rfl | h2
    · rw [h1]; rfl
    · cases h3 : (gp P n).1.toList == b.toList with
      | true => have := known_2 h2 (by omega) h1 h3; rw [hk n (by omega)] at this; cases this
      | false => exact rank_eq hk hi h1 n h2 (by omega)
theorem findI_at {q : ByteArray × Int → Bool} {l : List (ByteArray × Int)} {i : Nat} (h : findI q l = (i : Int)) : i < l.length ∧ q (gp l i) = true := by
  unfold findI at h
  cases hf : l.findIdx? q with
  | none => rw [hf] at h; first | (simp at h; done) | (simp at h; omega)
  | some j =>
    rw [hf] at h
    simp only at h
    obtain rfl : j = i := by omega
    obtain ⟨h1, h2, _⟩ := List.findIdx?_eq_some_iff_getElem.1 hf
    exact ⟨h1, by unfold gp; rw [getD_i h1]; exact h2⟩
theorem pers_known {n : Nat} {P : List (ByteArray × Int)} {j : Nat} (h : persE n P j = 0) : knownP P j = false := by
  unfold persE at h
  cases h1 : nameB (gp P j).1 with
  | false => rw [h1] at h; cases h
  | true =>
    rw [h1] at h
    cases h2 : knownP P j with
    | false => rfl
    | true => rw [h2] at h; cases h
/-- What an order that is accepted tells. -/
theorem lowE_0 {U D : List Int} {H : Int} {P : List (ByteArray × Int)} {s c e k : Int} {b : ByteArray} (h : okR U D H P) (hs : 0 ≤ s ∧ s ≤ U.length) (h0 : lowE D H P s c e b k = 0) :
    s ≤ rankN P b P.length ∧ (askN U e U.length : Int) < s ∧ 0 ≤ k ∧ k ≤ s - 1 := by
  unfold lowE at h0
  cases h1 : nameB b with
  | false => rw [h1] at h0; cases h0
  | true =>
    rw [h1] at h0
    rcases @findI_lt _ (fun x : ByteArray × Int => x.1.toList == b.toList) P with hf | ⟨i, hf, hi⟩
    · rw [decide_eq_true hf] at h0; cases h0
    · rw [decide_eq_false (show ¬ (findI (fun x : ByteArray × Int => x.1.toList == b.toList) P < 0) by omega), hf] at h0
      simp only [Bool.not_true, cond_false, Int.toNat_natCast] at h0
      cases hk : (decide (0 ≤ k) && decide (k ≤ s - 1)) with
      | false => rw [hk] at h0; cases h0
      | true =>
        rw [hk] at h0
        simp only [Bool.and_eq_true, decide_eq_true_eq] at hk
        simp only [Bool.not_true, cond_false] at h0
        cases hr : decide ((gp P i).2 < s) with
        | true => rw [hr] at h0; cases h0
        | false =>
          rw [hr] at h0
          simp only [cond_false] at h0
          have hr := of_decide_eq_false hr
          cases hc : (decide (c < H) || decide (gi D k.toNat ≤ e)) with
          | true => rw [hc] at h0; cases h0
          | false =>
            simp only [Bool.or_eq_false_iff, decide_eq_false_iff_not] at hc
            obtain ⟨_, hq⟩ := findI_at hf
            have hrank := rank_eq (fun j hj => pers_known (h.pers j hj)) hi hq P.length hi (Nat.le_refl _)
            refine ⟨by rw [hrank]; omega, ?_, hk.1, hk.2⟩
            -- the deviation does not ask for the step
            obtain ⟨j, rfl⟩ : ∃ j : Nat, k = (j : Int) := ⟨k.toNat, by omega⟩
            obtain ⟨m, rfl⟩ : ∃ m : Nat, s = ((m + 1 : Nat) : Int) := ⟨(s - 1).toNat, by omega⟩
            rcases Nat.lt_or_ge (askN U e U.length) (m + 1) with h2 | h2
            · omega
            · exfalso
              have h3 := askN_lo (sorted_U h.step) (Nat.le_refl _) m h2
              have h4 := (stepE_ok (h.step m (by omega))).2.2.1
              have h5 := sorted_D h.step m j (by omega) (by omega)
              simp only [Int.toNat_natCast] at hc
              omega
def good165 (U D L : List Int) (r : (Bool × Int × Int × Int) ⊕ Bool) : Prop := r = .inr true ∨ ∃ lw s c e, r = .inl (lw, s, c, e) ∧ (∀ j, j < L.length → thr0 (gi L j) = true) ∧ (lw = false → (s, c, e) = watL U D L L.length)
theorem loop165 {U D L : List Int} {H : Int} {P O : List (ByteArray × Int)} (hsm : small U D P) (h : okR U D H P) (hck : (ckR U D H P).2 = 0) (hL : L.length ≤ 40) (hO : O.length ≤ 40) : ∀ (k i : Nat) (s c e asked : Int) (lw : Bool), i + k = L.length → stE U.length s c e = 0 → (0 ≤ asked ∧ asked ≤ s) → (lw = false → s = asked ∧ (s, c, e) = watL U D L i) →
    (∀ j, j < i → thr0 (gi L j) = true) → ∃ r, oloop (l165_2 L U D H P O) (s, c, e, asked, lw, (i : Int)) = some r ∧ good165 U D L r
  | 0, i, s, c, e, asked, lw, hi, hst, ha, hlw, hth => by
    obtain rfl : i = L.length := by omega
    refine ⟨.inl (lw, s, c, e), oloop_done ?_, .inr ⟨lw, s, c, e, rfl, hth, fun h => (hlw h).2⟩⟩
    unfold l165_2; simp (disch := omega) only [obnd_s, obnd_n, oite_ss, oite_t, oite_f, ogrd_t, ogrd_f, obndS_l, obndS_r, ilt_eq, ile_eq, ieq_eq, imax_e, imin_e, List.length_map, Int.toNat_natCast, decide_true, decide_false, Bool.not_true, Bool.not_false, Bool.not_eq_true, Bool.false_eq_true, if_true, if_false, reduceIte, not_false_eq_true, not_true_eq_false, Int.natCast_nonneg, Int.ofNat_lt, Int.ofNat_le, Bool.cond_true, Bool.cond_false, cond_true, cond_false, Bool.true_and, Bool.and_true, Bool.false_and, Bool.and_false, Bool.true_or, Bool.or_true, Bool.false_or, Bool.or_false, Bool.cond_true_left, Bool.cond_false_right, Bool.cond_true_right, Bool.cond_false_left, Int.lt_irrefl]
  | k + 1, i, s, c, e, asked, lw, hi, hst, ha, hlw, hth => by
    have hiL : i < L.length := by omega
    have hg := get_gi hiL
    cases hd : thr0 (gi L i) with
    | false =>
      refine ⟨.inr true, oloop_done ?_, .inl rfl⟩
      unfold l165_2
      simp (disch := omega) only [obnd_s, obnd_n, oite_ss, oite_t, oite_f, ogrd_t, ogrd_f, obndS_l, obndS_r, ilt_eq, ile_eq, ieq_eq, imax_e, imin_e, List.length_map, Int.toNat_natCast, decide_true, decide_false, Bool.not_true, Bool.not_false, Bool.not_eq_true, Bool.false_eq_true, if_true, if_false, reduceIte, not_false_eq_true, not_true_eq_false, Int.natCast_nonneg, Int.ofNat_lt, Int.ofNat_le, Bool.cond_true, Bool.cond_false, cond_true, cond_false, Bool.true_and, Bool.and_true, Bool.false_and, Bool.and_false, Bool.true_or, Bool.or_true, Bool.false_or, Bool.or_false, Bool.cond_true_left, Bool.cond_false_right, Bool.cond_true_right, Bool.cond_false_left, hiL, hg, f37_e hsm, f45_e hsm, f40_e, hck, hst, hd]
      rfl
    | true =>
      have hw1 := wat_1 U D s c (gi L i)
      have hw3 := wat_3 U D s c (gi L i)
      have hws := wat_st (D := D) (d := gi L i) hst hd
      obtain ⟨a1, a2, _⟩ := stE_0 hst
      have hwL : (s, c, e) = watL U D L i → wat U D s c (gi L i) = watL U D L (i + 1) := fun h => by
        simp only [watL, ← h]
      have f45 := @f45_e U D H P s c e (gi L i) hsm
      have f44 := @f44_e U D H P (gi L i) hsm
      simp only [hck, hst, hd, decide_true, Bool.not_true, cond_false] at f45 f44
      generalize wat U D s c (gi L i) = w at *
      obtain ⟨w1, w2, w3⟩ := w
      simp only at hw1 hw3 hws hwL f45
      have hA := askN_le U (gi L i) U.length
      generalize hAg : (askN U (gi L i) U.length : Int) = A at *
      have n1 : ¬ (w1 < max asked A) := by omega
      have n2 : ¬ (w1 < s) := by omega
      have n3 : (!lw && !decide (w1 = max asked A)) = false := by
        cases hl : lw with
        | true => rfl
        | false => have := (hlw hl).1; simp; omega
      have hth' : ∀ j, j < i + 1 → thr0 (gi L j) = true := fun j hj => by
        rcases Nat.lt_or_ge j i with h2 | h2
        · exact hth j h2
        · rw [show j = i by omega]; exact hd
      have cont := loop165 hsm h hck hL hO k (i + 1) w1 w2 w3 (max asked A) lw (by omega) hws (by omega) (fun hl => ⟨by have := (hlw hl).1; omega, hwL (hlw hl).2⟩) hth'
      have go : ∀ st', l165_2 L U D H P O (s, c, e, asked, lw, (i : Int)) = some (.inl st') → (∃ r, oloop (l165_2 L U D H P O) st' = some r ∧ good165 U D L r) → ∃ r, oloop (l165_2 L U D H P O) (s, c, e, asked, lw, (i : Int)) = some r ∧ good165 U D L r := by
        rintro st' h1 ⟨r, h2, h3⟩
        exact ⟨r, by rw [oloop_step h1]; exact h2, h3⟩
      cases hO1 : decide (O.length ≤ i) with
      | true =>
        refine go _ ?_ cont
        unfold l165_2
        simp (disch := omega) only [obnd_s, obnd_n, oite_ss, oite_t, oite_f, ogrd_t, ogrd_f, obndS_l, obndS_r, ilt_eq, ile_eq, ieq_eq, imax_e, imin_e, List.length_map, Int.toNat_natCast, decide_true, decide_false, Bool.not_true, Bool.not_false, Bool.not_eq_true, Bool.false_eq_true, if_true, if_false, reduceIte, not_false_eq_true, not_true_eq_false, Int.natCast_nonneg, Int.ofNat_lt, Int.ofNat_le, Bool.cond_true, Bool.cond_false, cond_true, cond_false, Bool.true_and, Bool.and_true, Bool.false_and, Bool.and_false, Bool.true_or, Bool.or_true, Bool.false_or, Bool.or_false, Bool.cond_true_left, Bool.cond_false_right, Bool.cond_true_right, Bool.cond_false_left, hiL, hg, f37_e hsm, f45, f44, f40_e, hd, f48_e, hws, n1, n2, n3, wr, hO1]
        rfl
      | false =>
        have hiO : i < O.length := by have := of_decide_eq_false hO1; omega
        have hgO := get_gp hiO
        cases hO2 : decide ((30 : Int) < ((gp O i).1.size : Int)) with
        | true =>
          refine go _ ?_ cont
          unfold l165_2
          simp (disch := omega) only [obnd_s, obnd_n, oite_ss, oite_t, oite_f, ogrd_t, ogrd_f, obndS_l, obndS_r, ilt_eq, ile_eq, ieq_eq, imax_e, imin_e, List.length_map, Int.toNat_natCast, decide_true, decide_false, Bool.not_true, Bool.not_false, Bool.not_eq_true, Bool.false_eq_true, if_true, if_false, reduceIte, not_false_eq_true, not_true_eq_false, Int.natCast_nonneg, Int.ofNat_lt, Int.ofNat_le, Bool.cond_true, Bool.cond_false, cond_true, cond_false, Bool.true_and, Bool.and_true, Bool.false_and, Bool.and_false, Bool.true_or, Bool.or_true, Bool.false_or, Bool.or_false, Bool.cond_true_left, Bool.cond_false_right, Bool.cond_true_right, Bool.cond_false_left, hiL, hg, hgO, f37_e hsm, f45, f44, f40_e, hd, f48_e, hws, n1, n2, n3, wr, hO1, hO2]
          rfl
        | false =>
          have hb : (gp O i).1.size ≤ 30 := by have := of_decide_eq_false hO2; omega
          have f169 := @f169_e U D H P w1 w2 w3 (gp O i).2 (gp O i).1 hsm hb
          simp only [hck, hws, decide_true, Bool.not_true, cond_false] at f169
          cases hl : decide (lowE D H P w1 w2 w3 (gp O i).1 (gp O i).2 = 0) with
          | false =>
            rw [hl] at f169
            refine go _ ?_ cont
            unfold l165_2
            simp (disch := omega) only [obnd_s, obnd_n, oite_ss, oite_t, oite_f, ogrd_t, ogrd_f, obndS_l, obndS_r, ilt_eq, ile_eq, ieq_eq, imax_e, imin_e, List.length_map, Int.toNat_natCast, decide_true, decide_false, Bool.not_true, Bool.not_false, Bool.not_eq_true, Bool.false_eq_true, if_true, if_false, reduceIte, not_false_eq_true, not_true_eq_false, Int.natCast_nonneg, Int.ofNat_lt, Int.ofNat_le, Bool.cond_true, Bool.cond_false, cond_true, cond_false, Bool.true_and, Bool.and_true, Bool.false_and, Bool.and_false, Bool.true_or, Bool.or_true, Bool.false_or, Bool.or_false, Bool.cond_true_left, Bool.cond_false_right, Bool.cond_true_right, Bool.cond_false_left, hiL, hg, hgO, f37_e hsm, f45, f44, f40_e, hd, f48_e, hws, n1, n2, n3, wr, hO1, hO2, f169, hl]
            rfl
          | true =>
            rw [hl] at f169
            obtain ⟨b1, b2, b3⟩ := stE_0 hws
            obtain ⟨q1, q2, q3, q4⟩ := lowE_0 h b1 (of_decide_eq_true hl)
            subst hw3
            rw [hAg] at q2
            have m1 : ¬ (rankN P (gp O i).1 P.length < w1) := by omega
            have m2 : ¬ (w1 ≤ A) := by omega
            have m3 : (0 : Int) ≤ (gp O i).2 := q3
            have m4 : (gp O i).2 ≤ w1 - 1 := q4
            have hUl := h.le
            have hrk := @rank_loop P O (s, c, e, asked, lw, (i : Int)) i rfl hiO (by have := h.few; omega)
            have cont2 := loop165 hsm h hck hL hO k (i + 1) (gp O i).2 0 (gi L i) 0 true (by omega) (stE_of (by omega) (by omega) hd (fun _ => rfl)) (by omega) (fun hl => by cases hl) hth'
            refine go _ ?_ cont2
            unfold l165_2
            simp (disch := omega) only [obnd_s, obnd_n, oite_ss, oite_t, oite_f, ogrd_t, ogrd_f, obndS_l, obndS_r, ilt_eq, ile_eq, ieq_eq, imax_e, imin_e, List.length_map, Int.toNat_natCast, decide_true, decide_false, Bool.not_true, Bool.not_false, Bool.not_eq_true, Bool.false_eq_true, if_true, if_false, reduceIte, not_false_eq_true, not_true_eq_false, Int.natCast_nonneg, Int.ofNat_lt, Int.ofNat_le, Bool.cond_true, Bool.cond_false, cond_true, cond_false, Bool.true_and, Bool.and_true, Bool.false_and, Bool.and_false, Bool.true_or, Bool.or_true, Bool.false_or, Bool.or_false, Bool.cond_true_left, Bool.cond_false_right, Bool.cond_true_right, Bool.cond_false_left, hiL, hg, hgO, f37_e hsm, f45, f44, f40_e, hd, f48_e, hws, n1, n2, n3, wr, hO1, hO2, f169, hrk, m1, m2, m3, m4, f15_e, eq_self]
            rfl
theorem f165_true {U D L : List Int} {H : Int} {P O : List (ByteArray × Int)} : f165 U D H P L O = some true := by
  unfold f165
  obtain ⟨t, ht, hsm⟩ := @f35_e U D H P
  rw [ht, f10_e]
  cases t with
  | false => rfl
  | true =>
    have h := hsm rfl
    simp (disch := omega) only [obnd_s, obnd_n, oite_ss, oite_t, oite_f, ogrd_t, ogrd_f, obndS_l, obndS_r, ilt_eq, ile_eq, ieq_eq, imax_e, imin_e, List.length_map, Int.toNat_natCast, decide_true, decide_false, Bool.not_true, Bool.not_false, Bool.not_eq_true, Bool.false_eq_true, if_true, if_false, reduceIte, not_false_eq_true, not_true_eq_false, Int.natCast_nonneg, Int.ofNat_lt, Int.ofNat_le, Bool.cond_true, Bool.cond_false, cond_true, cond_false, Bool.true_and, Bool.and_true, Bool.false_and, Bool.and_false, Bool.true_or, Bool.or_true, Bool.false_or, Bool.or_false, Bool.cond_true_left, Bool.cond_false_right, Bool.cond_true_right, Bool.cond_false_left, f39_e h]
    cases h1 : decide ((ckR U D H P).2 = 0) with
    | false => rfl
    | true =>
      have h2 := of_decide_eq_true h1
      obtain ⟨h3, _⟩ := ckR_ok h2
      simp (disch := omega) only [obnd_s, obnd_n, oite_ss, oite_t, oite_f, ogrd_t, ogrd_f, obndS_l, obndS_r, ilt_eq, ile_eq, ieq_eq, imax_e, imin_e, List.length_map, Int.toNat_natCast, decide_true, decide_false, Bool.not_true, Bool.not_false, Bool.not_eq_true, Bool.false_eq_true, if_true, if_false, reduceIte, not_false_eq_true, not_true_eq_false, Int.natCast_nonneg, Int.ofNat_lt, Int.ofNat_le, Bool.cond_true, Bool.cond_false, cond_true, cond_false, Bool.true_and, Bool.and_true, Bool.false_and, Bool.and_false, Bool.true_or, Bool.or_true, Bool.false_or, Bool.or_false, Bool.cond_true_left, Bool.cond_false_right, Bool.cond_true_right, Bool.cond_false_left]
      cases hL : decide ((40 : Int) < (L.length : Int)) with
      | true => rfl
      | false =>
        simp (disch := omega) only [obnd_s, obnd_n, oite_ss, oite_t, oite_f, ogrd_t, ogrd_f, obndS_l, obndS_r, ilt_eq, ile_eq, ieq_eq, imax_e, imin_e, List.length_map, Int.toNat_natCast, decide_true, decide_false, Bool.not_true, Bool.not_false, Bool.not_eq_true, Bool.false_eq_true, if_true, if_false, reduceIte, not_false_eq_true, not_true_eq_false, Int.natCast_nonneg, Int.ofNat_lt, Int.ofNat_le, Bool.cond_true, Bool.cond_false, cond_true, cond_false, Bool.true_and, Bool.and_true, Bool.false_and, Bool.and_false, Bool.true_or, Bool.or_true, Bool.false_or, Bool.or_false, Bool.cond_true_left, Bool.cond_false_right, Bool.cond_true_right, Bool.cond_false_left]
        cases hO : decide ((40 : Int) < (O.length : Int)) with
        | true => rfl
        | false =>
          have hL := of_decide_eq_false hL
          have hO := of_decide_eq_false hO
          simp (disch := omega) only [obnd_s, obnd_n, oite_ss, oite_t, oite_f, ogrd_t, ogrd_f, obndS_l, obndS_r, ilt_eq, ile_eq, ieq_eq, imax_e, imin_e, List.length_map, Int.toNat_natCast, decide_true, decide_false, Bool.not_true, Bool.not_false, Bool.not_eq_true, Bool.false_eq_true, if_true, if_false, reduceIte, not_false_eq_true, not_true_eq_false, Int.natCast_nonneg, Int.ofNat_lt, Int.ofNat_le, Bool.cond_true, Bool.cond_false, cond_true, cond_false, Bool.true_and, Bool.and_true, Bool.false_and, Bool.and_false, Bool.true_or, Bool.or_true, Bool.false_or, Bool.or_false, Bool.cond_true_left, Bool.cond_false_right, Bool.cond_true_right, Bool.cond_false_left]
          obtain ⟨r, hr, hg⟩ := loop165 (L := L) (O := O) h h3 h2 (by omega) (by omega) L.length 0 0 0 0 0 false (by omega) (stE_of (by omega) (by omega) rfl (fun _ => rfl)) (by omega) (fun _ => ⟨rfl, rfl⟩) (fun j hj => by omega)
          rw [show oloop (l165_2 L U D H P O) ((0 : Int), (0 : Int), (0 : Int), (0 : Int), false, (0 : Int)) = some r from hr]
          rcases hg with rfl | ⟨lw, s, c, e, rfl, hth, hl⟩
          · rfl
          · have hany : L.any (fun n => !thr0 n) = false := by
              rw [List.any_eq_false]
              intro x hx
              obtain ⟨i, hi, rfl⟩ := List.getElem_of_mem hx
              have := hth i hi
              unfold gi at this
              rw [getD_i hi] at this
              simp [this]
            simp (disch := omega) only [obnd_s, obnd_n, oite_ss, oite_t, oite_f, ogrd_t, ogrd_f, obndS_l, obndS_r, ilt_eq, ile_eq, ieq_eq, imax_e, imin_e, List.length_map, Int.toNat_natCast, decide_true, decide_false, Bool.not_true, Bool.not_false, Bool.not_eq_true, Bool.false_eq_true, if_true, if_false, reduceIte, not_false_eq_true, not_true_eq_false, Int.natCast_nonneg, Int.ofNat_lt, Int.ofNat_le, Bool.cond_true, Bool.cond_false, cond_true, cond_false, Bool.true_and, Bool.and_true, Bool.false_and, Bool.and_false, Bool.true_or, Bool.or_true, Bool.false_or, Bool.or_false, Bool.cond_true_left, Bool.cond_false_right, Bool.cond_true_right, Bool.cond_false_left, f37_e h, f38_e (show L.length ≤ 1000000000 by omega), f36_e h (show L.length ≤ 1000 by omega), h2, hany, show decide (100 < L.length) = false by simp; omega]
            cases lw with
            | true => rfl
            | false =>
              have := hl rfl
              rw [← this]
              simp
end Go.Proofs.YtfdapegcngmknaaGreat.AM
