/- Plain law: DispatchSums, from chapter 8's examples (f198). Conditions: none. -/
import Derived.Test.YtmbekcealcjabaaAmQ1
namespace Go.Proofs.Ytmbekcealcjabaa.AM
set_option linter.unusedSimpArgs false
set_option linter.unusedVariables false
open Go Go.RowKit

theorem gi_take {L : List Int} {n i : Nat} (h : i < n) : gi (L.take n) i = gi L i := by
  unfold gi; rw [List.getD_eq_getElem?_getD, List.getD_eq_getElem?_getD, List.getElem?_take, if_pos h]
theorem gi_drop {L : List Int} {n i : Nat} : gi (L.drop n) i = gi L (n + i) := by
  unfold gi; rw [List.getD_eq_getElem?_getD, List.getD_eq_getElem?_getD, List.getElem?_drop]
theorem gi_rep {x : Int} {n i : Nat} (h : i < n) : gi (List.replicate n x) i = x := by
  unfold gi; rw [List.getD_eq_getElem?_getD, List.getElem?_replicate, if_pos h]; rfl
theorem stl_take {W M : List Int} {h : Nat} : ∀ i : Nat, i ≤ h → stl (W.take h) (M.take h) i = stl W M i
  | 0, _ => rfl
  | i + 1, hi => by
    have e := stl_take (W := W) (M := M) (h := h) i (by omega)
    simp only [stl, e, gi_take (L := W) (show i < h by omega), gi_take (L := M) (show i < h by omega)]
theorem stl_drop {W M : List Int} {h : Nat} : ∀ k : Nat, (stl W M (h + k)).1 = (stl W M h).1 + (stl (W.drop h) (M.drop h) k).1 ∧ (stl W M (h + k)).2.1 = (stl W M h).2.1 + (stl (W.drop h) (M.drop h) k).2.1 ∧ (stl W M (h + k)).2.2 = (stl W M h).2.2 + (stl (W.drop h) (M.drop h) k).2.2
  | 0 => by simp [stl]
  | k + 1 => by
    obtain ⟨e1, e2, e3⟩ := stl_drop (W := W) (M := M) (h := h) k
    rw [← Nat.add_assoc]
    simp only [stl, gi_drop, e1, e2, e3]; omega
/-- The sum of sizes. -/
def ssz (L : List Int) : Nat → Int
  | 0 => 0
  | i + 1 => ssz L i + sz (gi L i)
theorem ssz_b {L : List Int} {n : Nat} (h : okP L n) : ∀ i : Nat, i ≤ n → 0 ≤ ssz L i ∧ ssz L i ≤ 1000000 * (i : Int)
  | 0, _ => by simp [ssz]
  | i + 1, hi => by
    have h1 := ssz_b h i (by omega)
    have h2 := sz_b (h i (by omega))
    simp only [ssz]; omega
theorem stl_sum {W M : List Int} : ∀ n : Nat, (stl W M n).1 + (stl W M n).2.1 = ssz W n ∧ (stl W M n).1 + (stl W M n).2.2 = ssz M n
  | 0 => by simp [stl, ssz]
  | n + 1 => by
    obtain ⟨h1, h2⟩ := stl_sum (W := W) (M := M) n
    simp only [stl, ssz]; omega
theorem gv_self (w : Int) : gv w w = sz w := by
  unfold gv
  cases h : both w w with
  | true => simp only [cond_true]; omega
  | false =>
    simp only [both, Bool.and_self, Bool.or_eq_false_iff, decide_eq_false_iff_not] at h
    simp only [cond_false, sz]; omega
theorem stl_self {W : List Int} : ∀ n : Nat, stl W W n = (ssz W n, 0, 0)
  | 0 => rfl
  | n + 1 => by simp only [stl, stl_self n, gv_self, ssz, Int.sub_self, Int.add_zero]
theorem pws_of {l : List Int} (h1 : l.length ≤ 300) (h2 : ∀ i, i < l.length → -1000000 ≤ gi l i ∧ gi l i ≤ 1000000) : pwsE l = 0 := by
  unfold pwsE
  rw [decide_eq_false (by omega)]
  simp only [cond_false]
  have : (l.any fun n => !pw n) = false := by
    rw [List.any_eq_false]
    intro x hx
    obtain ⟨i, hi, rfl⟩ := List.getElem_of_mem hx
    have := h2 i hi
    unfold gi at this; rw [getD_i hi] at this
    simp [pw, this]
  rw [this]; rfl
theorem set_of {W M : List Int} (h1 : pwsE W = 0) (h2 : pwsE M = 0) (h3 : W.length = M.length) : setE W M = 0 := by
  unfold setE; rw [if_pos h1, if_pos h2, decide_eq_true h3]; rfl
theorem pws_take {l : List Int} {n : Nat} (h : pwsE l = 0) : pwsE (l.take n) = 0 := by
  obtain ⟨h1, h2⟩ := pws_0 h
  refine pws_of (by rw [List.length_take]; omega) fun i hi => ?_
  rw [List.length_take] at hi
  rw [gi_take (by omega)]; exact h2 i (by omega)
theorem pws_drop {l : List Int} {n : Nat} (h : pwsE l = 0) : pwsE (l.drop n) = 0 := by
  obtain ⟨h1, h2⟩ := pws_0 h
  refine pws_of (by rw [List.length_drop]; omega) fun i hi => ?_
  rw [List.length_drop] at hi
  rw [gi_drop]; exact h2 _ (by omega)
theorem pws_rep {x : Int} {n : Nat} (hn : n ≤ 300) (h : -1000000 ≤ x ∧ x ≤ 1000000) : pwsE (List.replicate n x) = 0 := by
  refine pws_of (by rw [List.length_replicate]; exact hn) fun i hi => ?_
  rw [List.length_replicate] at hi
  rw [gi_rep hi]; exact h
theorem fw_near {a r : Int} {l : List Int} (hr : 0 ≤ r) (i : Nat) : fw a r l i - r ≤ fw a r l (i + 1) ∧ fw a r l (i + 1) ≤ fw a r l i + r ∧ (fw a r l (i + 1) ≠ gi l i → sz (fw a r l (i + 1) - fw a r l i) = r) := by
  simp only [fw, sz]; omega
theorem fw_const {a r x : Int} {n : Nat} (hr : 0 ≤ r) : ∀ i : Nat, i ≤ n → sz (x - fw a r (List.replicate n x) i) ≤ max 0 (sz (x - a) - (i : Int) * r)
  | 0, _ => by simp only [fw, sz]; omega
  | i + 1, hi => by
    have h := fw_const (a := a) (x := x) (n := n) hr i (by omega)
    have e : ((i + 1 : Nat) : Int) * r = (i : Int) * r + r := by rw [Int.natCast_add, Int.add_mul]; simp
    rw [e]
    generalize (i : Int) * r = p at *
    simp only [fw, gi_rep (show i < n by omega), sz] at h ⊢
    omega
theorem fw_rest {a r x : Int} {n : Nat} (hr : 0 ≤ r) (h : sz (x - a) ≤ (n : Int) * r) : fw a r (List.replicate n x) n = x := by
  have h1 := fw_const (a := a) (x := x) (n := n) hr n (Nat.le_refl n)
  simp only [sz] at h h1
  omega

theorem oslL_n {α : Type} {l : List α} {i : Nat} (h : i ≤ l.length) : oslL l (i : Int) = some (l.drop i) := by
  unfold oslL; rw [if_pos (by omega)]; rfl
theorem half_e {n : Nat} (h : n ≤ 80) : IntKind.i64.wrap ((n : Int).tdiv 2) = ((n / 2 : Nat) : Int) := by
  have e : (n : Int).tdiv 2 = ((n / 2 : Nat) : Int) := by
    rw [Int.tdiv_eq_ediv_of_nonneg (by omega)]; rfl
  rw [e, wr (by omega) (by omega)]
theorem f197_true (hA : f198 = some true) (a r : Int) (W M : List Int) : f197 a r W M = some true := by
  unfold f197
  rw [hA]
  simp only [obnd_s, Bool.not_true, oite_f, List.length_map, ilt_eq, ieq_eq, ceqN]
  cases h1 : decide ((80 : Int) < ((W.length : Nat) : Int)) with
  | true => rfl
  | false =>
    cases h2 : decide (M.length = W.length) with
    | false => rfl
    | true =>
      have h1 := of_decide_eq_false h1
      have h2 := of_decide_eq_true h2
      have hW : W.length ≤ 80 := by omega
      have hM : M.length ≤ 80 := by omega
      rw [f203_e (by omega), f203_e (by omega), f202_e]
      simp only [obnd_s, Bool.not_true, oite_f]
      cases h3 : decide (pwsE W = 0) with
      | false => rfl
      | true =>
        cases h4 : decide (pwsE M = 0) with
        | false => rfl
        | true =>
          cases h5 : decide (rampE a r = 0) with
          | false => rfl
          | true =>
            have h3 := of_decide_eq_true h3
            have h4 := of_decide_eq_true h4
            have h5 := of_decide_eq_true h5
            obtain ⟨⟨a0, a1⟩, r0, r1⟩ := ramp_0 h5
            obtain ⟨_, hw⟩ := pws_0 h3
            obtain ⟨_, hm⟩ := pws_0 h4
            have hhW : W.length / 2 ≤ W.length := by omega
            have hfol : folE a r W = 0 := by unfold folE; rw [if_pos h5]; exact h3
            simp only [Bool.not_true, oite_f, obnd_s]
            rw [half_e hW, oslH_n hhW, oslH_n (show W.length / 2 ≤ M.length by omega), oslL_n hhW, oslL_n (show W.length / 2 ≤ M.length by omega)]
            simp only [obnd_s]
            rw [f38_e (show W.length ≤ 1000000000 by omega), f38_e (show M.length ≤ 1000000000 by omega)]
            simp only [obnd_s]
            rw [f38_e (L := W.take (W.length / 2)) (by rw [List.length_take]; omega), f38_e (L := M.take (W.length / 2)) (by rw [List.length_take]; omega), f38_e (L := W.drop (W.length / 2)) (by rw [List.length_drop]; omega), f38_e (L := M.drop (W.length / 2)) (by rw [List.length_drop]; omega)]
            simp only [obnd_s]
            rw [f201_ok (set_of h3 h4 h2.symm), f201_ok (set_of h3 h3 rfl), f200_ok (by omega) hfol,
              f201_ok (W := W.take (W.length / 2)) (M := M.take (W.length / 2)) (set_of (pws_take h3) (pws_take h4) (by rw [List.length_take, List.length_take, h2])),
              f201_ok (W := W.drop (W.length / 2)) (M := M.drop (W.length / 2)) (set_of (pws_drop h3) (pws_drop h4) (by rw [List.length_drop, List.length_drop, h2]))]
            have hlt : (W.take (W.length / 2)).length = W.length / 2 := by rw [List.length_take]; omega
            rw [hlt, stl_take (W := W) (M := M) (h := W.length / 2) (W.length / 2) (Nat.le_refl _)]
            obtain ⟨d1, d2, d3⟩ := stl_drop (W := W) (M := M) (h := W.length / 2) (W.drop (W.length / 2)).length
            rw [show W.length / 2 + (W.drop (W.length / 2)).length = W.length by rw [List.length_drop]; omega] at d1 d2 d3
            have hb := stl_b (W := W) (M := M) (n := W.length) hw (by rw [← h2]; exact hm) W.length (Nat.le_refl _)
            have hb1 := stl_b (W := W) (M := M) (n := W.length) hw (by rw [← h2]; exact hm) (W.length / 2) hhW
            obtain ⟨s1, s2⟩ := stl_sum (W := W) (M := M) W.length
            have s3 := stl_self (W := W) W.length
            have sb := ssz_b (L := W) hw W.length (Nat.le_refl _)
            have sbM := ssz_b (L := M) (n := W.length) (by rw [← h2]; exact hm) W.length (Nat.le_refl _)
            rw [s3]
            generalize stl (W.drop (W.length / 2)) (M.drop (W.length / 2)) (W.drop (W.length / 2)).length = sd at *
            generalize hsx : stl W M (W.length / 2) = sx at *
            generalize hsa : stl W M W.length = sa at *
            obtain ⟨sd1, sd2, sd3⟩ := sd
            obtain ⟨sx1, sx2, sx3⟩ := sx
            obtain ⟨sa1, sa2, sa3⟩ := sa
            simp only at d1 d2 d3 hb hb1 s1 s2
            simp only [obnd_s, fwL_len, decide_true, Bool.not_true, oite_f]
            rw [wr (n := sx1 + sd1) (by omega) (by omega), wr (n := sx2 + sd2) (by omega) (by omega), wr (n := sx3 + sd3) (by omega) (by omega), decide_eq_true d1, decide_eq_true d2, decide_eq_true d3, decide_eq_false (show ¬ sa1 < 0 by omega), decide_eq_false (show ¬ sa2 < 0 by omega), decide_eq_false (show ¬ sa3 < 0 by omega)]
            simp only [obnd_s, Bool.not_true, oite_f]
            rw [oloop_all (fun i => (ssz W i, ssz M i, fw a r W i, (i : Int))) W.length (r := (.inl (ssz W W.length, ssz M W.length) : (Int × Int) ⊕ Bool)) (e0 := ((0 : Int), (0 : Int), a, (0 : Int))) rfl ?_ ?_]
            · simp only [obndS_l]
              rw [wr (n := sa1 + sa2) (by omega) (by omega), wr (n := sa1 + sa3) (by omega) (by omega), decide_eq_true s1, decide_eq_true s2]
              simp only [obnd_s, Bool.not_true, oite_f, decide_true, Bool.and_self]
              cases h6 : decide (r = 0) with
              | true => rfl
              | false =>
                cases h7 : decide (((W.length : Nat) : Int) = 0) with
                | true => rfl
                | false =>
                  have h6 := of_decide_eq_false h6
                  have h7 := of_decide_eq_false h7
                  have hp : 0 < W.length := by omega
                  have hw0 := hw 0 hp
                  simp only [oite_f, obnd_s]
                  rw [oloop_all (fun i => (List.replicate i (gi W 0), (i : Int))) 80 (r := List.replicate 80 (gi W 0)) (e0 := (([] : List Int), (0 : Int))) rfl ?_ ?_]
                  · simp only [obnd_s]
                    have hfol' : folE a r (List.replicate 80 (gi W 0)) = 0 := by unfold folE; rw [if_pos h5]; exact pws_rep (by omega) hw0
                    rw [f200_ok (by simp) hfol']
                    simp only [obnd_s, fwL_len, List.length_replicate, decide_true, oite_t]
                    rw [show ((0 : Int)).toNat = 0 from rfl, show ((79 : Int)).toNat = 79 from rfl, get_gi hp, fwL_get (by omega)]
                    simp only [obnd_s, oite_t, decide_true]
                    rw [wr (n := gi W 0 - a) (by omega) (by omega)]
                    unfold f109
                    have hsz : IntKind.i64.wrap (0 - (gi W 0 - a)) = 0 - (gi W 0 - a) := wr (by omega) (by omega)
                    simp (disch := omega) only [obnd_s, obnd_n, oite_ss, oite_t, oite_f, ogrd_t, ogrd_f, obndS_l, obndS_r, ilt_eq, ile_eq, ieq_eq, imax_e, imin_e, List.length_map, Int.toNat_natCast, decide_true, decide_false, Bool.not_true, Bool.not_false, Bool.not_eq_true, Bool.false_eq_true, if_true, if_false, reduceIte, not_false_eq_true, not_true_eq_false, Int.natCast_nonneg, Int.ofNat_lt, Int.ofNat_le, Bool.cond_true, Bool.cond_false, cond_true, cond_false, Bool.true_and, Bool.and_true, Bool.false_and, Bool.and_false, Bool.true_or, Bool.or_true, Bool.false_or, Bool.or_false, Bool.cond_true_left, Bool.cond_false_right, Bool.cond_true_right, Bool.cond_false_left, hsz, wr]
                    by_cases h8 : 80 * r < max (gi W 0 - a) (0 - (gi W 0 - a))
                    · rw [decide_eq_true h8]; rfl
                    · rw [decide_eq_false h8]
                      have := fw_rest (a := a) (r := r) (x := gi W 0) (n := 80) r0 (by unfold sz; omega)
                      rw [this]; simp
                  · intro i hi
                    unfold l197_2
                    have e : List.replicate i (gi W 0) ++ [gi W 0] = List.replicate (i + 1) (gi W 0) := by rw [List.replicate_succ']
                    simp (disch := omega) only [obnd_s, obnd_n, oite_ss, oite_t, oite_f, ogrd_t, ogrd_f, obndS_l, obndS_r, ilt_eq, ile_eq, ieq_eq, imax_e, imin_e, List.length_map, Int.toNat_natCast, decide_true, decide_false, Bool.not_true, Bool.not_false, Bool.not_eq_true, Bool.false_eq_true, if_true, if_false, reduceIte, not_false_eq_true, not_true_eq_false, Int.natCast_nonneg, Int.ofNat_lt, Int.ofNat_le, Bool.cond_true, Bool.cond_false, cond_true, cond_false, Bool.true_and, Bool.and_true, Bool.false_and, Bool.and_false, Bool.true_or, Bool.or_true, Bool.false_or, Bool.or_false, Bool.cond_true_left, Bool.cond_false_right, Bool.cond_true_right, Bool.cond_false_left, get_gi hp, show ((i : Nat) : Int) < 80 by omega, show ((0 : Int)).toNat = 0 from rfl, wr]
                    rw [ogrd_fits (by simp; omega) (by simp; omega), e]; rfl
                  · unfold l197_2
                    simp (disch := omega) only [obnd_s, obnd_n, oite_ss, oite_t, oite_f, ogrd_t, ogrd_f, obndS_l, obndS_r, ilt_eq, ile_eq, ieq_eq, imax_e, imin_e, List.length_map, Int.toNat_natCast, decide_true, decide_false, Bool.not_true, Bool.not_false, Bool.not_eq_true, Bool.false_eq_true, if_true, if_false, reduceIte, not_false_eq_true, not_true_eq_false, Int.natCast_nonneg, Int.ofNat_lt, Int.ofNat_le, Bool.cond_true, Bool.cond_false, cond_true, cond_false, Bool.true_and, Bool.and_true, Bool.false_and, Bool.and_false, Bool.true_or, Bool.or_true, Bool.false_or, Bool.or_false, Bool.cond_true_left, Bool.cond_false_right, Bool.cond_true_right, Bool.cond_false_left, Int.lt_irrefl, decide_eq_false (show ¬ (((80 : Nat) : Int) < 80) by omega)]
            · intro i hi
              unfold l197_1
              have hiM : i < M.length := by omega
              have hb2 := fw_b (a := a) (r := r) (l := W) ⟨a0, a1⟩ ⟨r0, r1⟩ hw i (by omega)
              have hb3 := fw_b (a := a) (r := r) (l := W) ⟨a0, a1⟩ ⟨r0, r1⟩ hw (i + 1) (by omega)
              have hn := fw_near (a := a) (r := r) (l := W) r0 i
              have hsw := ssz_b (L := W) hw i (by omega)
              have hsm := ssz_b (L := M) (n := M.length) hm i (by omega)
              have hwi := hw i hi
              have hmi := hm i hiM
              have hz1 := sz_b hwi
              have hz2 := sz_b hmi
              simp (disch := omega) only [obnd_s, obnd_n, oite_ss, oite_t, oite_f, ogrd_t, ogrd_f, obndS_l, obndS_r, ilt_eq, ile_eq, ieq_eq, imax_e, imin_e, List.length_map, Int.toNat_natCast, decide_true, decide_false, Bool.not_true, Bool.not_false, Bool.not_eq_true, Bool.false_eq_true, if_true, if_false, reduceIte, not_false_eq_true, not_true_eq_false, Int.natCast_nonneg, Int.ofNat_lt, Int.ofNat_le, Bool.cond_true, Bool.cond_false, cond_true, cond_false, Bool.true_and, Bool.and_true, Bool.false_and, Bool.and_false, Bool.true_or, Bool.or_true, Bool.false_or, Bool.or_false, Bool.cond_true_left, Bool.cond_false_right, Bool.cond_true_right, Bool.cond_false_left, hi, get_gi hi, get_gi hiM, fwL_get hi, f109_e hwi, f109_e hmi, f15_e, wr, hn.1, hn.2.1]
              by_cases h8 : fw a r W (i + 1) = gi W i
              · rw [decide_eq_true h8]
                simp (disch := omega) only [obnd_s, obnd_n, oite_ss, oite_t, oite_f, ogrd_t, ogrd_f, obndS_l, obndS_r, ilt_eq, ile_eq, ieq_eq, imax_e, imin_e, List.length_map, Int.toNat_natCast, decide_true, decide_false, Bool.not_true, Bool.not_false, Bool.not_eq_true, Bool.false_eq_true, if_true, if_false, reduceIte, not_false_eq_true, not_true_eq_false, Int.natCast_nonneg, Int.ofNat_lt, Int.ofNat_le, Bool.cond_true, Bool.cond_false, cond_true, cond_false, Bool.true_and, Bool.and_true, Bool.false_and, Bool.and_false, Bool.true_or, Bool.or_true, Bool.false_or, Bool.or_false, Bool.cond_true_left, Bool.cond_false_right, Bool.cond_true_right, Bool.cond_false_left]
                rfl
              · rw [decide_eq_false h8]
                have h9 := hn.2.2 h8
                rw [f109_e (by omega), h9]
                simp (disch := omega) only [obnd_s, obnd_n, oite_ss, oite_t, oite_f, ogrd_t, ogrd_f, obndS_l, obndS_r, ilt_eq, ile_eq, ieq_eq, imax_e, imin_e, List.length_map, Int.toNat_natCast, decide_true, decide_false, Bool.not_true, Bool.not_false, Bool.not_eq_true, Bool.false_eq_true, if_true, if_false, reduceIte, not_false_eq_true, not_true_eq_false, Int.natCast_nonneg, Int.ofNat_lt, Int.ofNat_le, Bool.cond_true, Bool.cond_false, cond_true, cond_false, Bool.true_and, Bool.and_true, Bool.false_and, Bool.and_false, Bool.true_or, Bool.or_true, Bool.false_or, Bool.or_false, Bool.cond_true_left, Bool.cond_false_right, Bool.cond_true_right, Bool.cond_false_left]
                rfl
            · unfold l197_1
              simp (disch := omega) only [obnd_s, obnd_n, oite_ss, oite_t, oite_f, ogrd_t, ogrd_f, obndS_l, obndS_r, ilt_eq, ile_eq, ieq_eq, imax_e, imin_e, List.length_map, Int.toNat_natCast, decide_true, decide_false, Bool.not_true, Bool.not_false, Bool.not_eq_true, Bool.false_eq_true, if_true, if_false, reduceIte, not_false_eq_true, not_true_eq_false, Int.natCast_nonneg, Int.ofNat_lt, Int.ofNat_le, Bool.cond_true, Bool.cond_false, cond_true, cond_false, Bool.true_and, Bool.and_true, Bool.false_and, Bool.and_false, Bool.true_or, Bool.or_true, Bool.false_or, Bool.or_false, Bool.cond_true_left, Bool.cond_false_right, Bool.cond_true_right, Bool.cond_false_left, Int.lt_irrefl]
end Go.Proofs.Ytmbekcealcjabaa.AM
