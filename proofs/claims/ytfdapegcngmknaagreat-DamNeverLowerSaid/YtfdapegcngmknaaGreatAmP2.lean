/- Plain laws: finding; rules. Conditions: none. -/
import Derived.Test.YtfdapegcngmknaaGreatAmP1
namespace Go.Proofs.YtfdapegcngmknaaGreat.AM
set_option linter.unusedSimpArgs false
set_option linter.unusedVariables false
open Go Go.RowKit

/-! ### Finding -/
def findI {α : Type} (q : α → Bool) (l : List α) : Int := match l.findIdx? q with
  | some i => (i : Int)
  | none => -1
theorem scan_find {α ρ : Type} (q : α → Bool) (d : α) (k : Nat → ρ) : ∀ (n : Nat) (l : List α) (i : Nat), i + n = l.length → scanF (fun i => bif q (l.getD i d) then some (k i) else none) n i = ((l.drop i).findIdx? q).map fun j => k (i + j)
  | 0, l, i, h => by rw [List.drop_eq_nil_of_le (by omega)]; rfl
  | n + 1, l, i, h => by
    have hi : i < l.length := by omega
    rw [List.drop_eq_getElem_cons hi, List.findIdx?_cons]
    simp only [scanF, getD_i hi]
    cases hq : q l[i] with
    | true => simp
    | false =>
      simp only [cond_false, Bool.false_eq_true, if_false]
      rw [scan_find q d k n l (i + 1) (by omega)]
      cases (l.drop (i + 1)).findIdx? q with
      | none => rfl
      | some j => simp; congr 1; omega
theorem findI_any {α : Type} (q : α → Bool) (l : List α) : decide (0 ≤ findI q l) = l.any q := by
  unfold findI
  rw [← List.findIdx?_isSome]
  cases l.findIdx? q with
  | none => rfl
  | some i => simp
theorem f110_e {p : ByteArray → Int → Option Bool} {l : List (ByteArray × Int)} (q : ByteArray × Int → Bool) (hp : ∀ x, x ∈ l → p x.1 x.2 = some (q x)) (hl : l.length < 4611686018427387904) : f110 p l = some (findI q l) := by
  unfold f110
  rw [oloop_scanB (fun i => (i : Int)) l.length (fun i => q (l.getD i (⟨#[]⟩, 0))) (fun i => .inr (i : Int)) (d := .inl ()) (e0 := 0) rfl ?_ ?_, scan_find q _ _ l.length l 0 (by omega)]
  · rw [List.drop_zero]; unfold findI
    cases l.findIdx? q with
    | none => rfl
    | some i => simp [obndS_r]
  · intro i hi
    rw [getD_i hi]
    have := hp l[i] (List.getElem_mem hi)
    simp (disch := omega) only [obnd_s, obnd_n, oite_ss, oite_t, oite_f, ogrd_t, ogrd_f, obndS_l, obndS_r, ilt_eq, ile_eq, ieq_eq, imax_e, imin_e, List.length_map, Int.toNat_natCast, decide_true, decide_false, Bool.not_true, Bool.not_false, Bool.not_eq_true, Bool.false_eq_true, if_true, if_false, reduceIte, not_false_eq_true, not_true_eq_false, Int.natCast_nonneg, Int.ofNat_lt, Int.ofNat_le, Bool.cond_true, Bool.cond_false, cond_true, cond_false, Bool.true_and, Bool.and_true, Bool.false_and, Bool.and_false, Bool.true_or, Bool.or_true, Bool.false_or, Bool.or_false, Bool.cond_true_left, Bool.cond_false_right, Bool.cond_true_right, Bool.cond_false_left, hi, get_i hi, wr, this]; rfl
  · simp (disch := omega) only [obnd_s, obnd_n, oite_ss, oite_t, oite_f, ogrd_t, ogrd_f, obndS_l, obndS_r, ilt_eq, ile_eq, ieq_eq, imax_e, imin_e, List.length_map, Int.toNat_natCast, decide_true, decide_false, Bool.not_true, Bool.not_false, Bool.not_eq_true, Bool.false_eq_true, if_true, if_false, reduceIte, not_false_eq_true, not_true_eq_false, Int.natCast_nonneg, Int.ofNat_lt, Int.ofNat_le, Bool.cond_true, Bool.cond_false, cond_true, cond_false, Bool.true_and, Bool.and_true, Bool.false_and, Bool.and_false, Bool.true_or, Bool.or_true, Bool.false_or, Bool.or_false, Bool.cond_true_left, Bool.cond_false_right, Bool.cond_true_right, Bool.cond_false_left, Int.lt_irrefl]
theorem f86_e {p : ByteArray → Int → Option Bool} {l : List (ByteArray × Int)} (q : ByteArray × Int → Bool) (hp : ∀ x, x ∈ l → p x.1 x.2 = some (q x)) (hl : l.length < 4611686018427387904) : f86 p l = some (l.any q) := by
  unfold f86
  rw [f110_e q hp hl]
  simp (disch := omega) only [obnd_s, obnd_n, oite_ss, oite_t, oite_f, ogrd_t, ogrd_f, obndS_l, obndS_r, ilt_eq, ile_eq, ieq_eq, imax_e, imin_e, List.length_map, Int.toNat_natCast, decide_true, decide_false, Bool.not_true, Bool.not_false, Bool.not_eq_true, Bool.false_eq_true, if_true, if_false, reduceIte, not_false_eq_true, not_true_eq_false, Int.natCast_nonneg, Int.ofNat_lt, Int.ofNat_le, Bool.cond_true, Bool.cond_false, cond_true, cond_false, Bool.true_and, Bool.and_true, Bool.false_and, Bool.and_false, Bool.true_or, Bool.or_true, Bool.false_or, Bool.or_false, Bool.cond_true_left, Bool.cond_false_right, Bool.cond_true_right, Bool.cond_false_left, findI_any]
theorem f92_e {l : List (ByteArray × Int)} (s : ByteArray) (hl : l.length < 4611686018427387904) : f92 l s = some (findI (fun x => x.1.toList == s.toList) l) := by
  unfold f92
  rw [oloop_scanB (fun i => (i : Int)) l.length (fun i => (l.getD i (⟨#[]⟩, 0)).1.toList == s.toList) (fun i => .inr (i : Int)) (d := .inl ()) (e0 := 0) rfl ?_ ?_, scan_find (fun x => x.1.toList == s.toList) _ _ l.length l 0 (by omega)]
  · rw [List.drop_zero]; unfold findI
    cases l.findIdx? _ with
    | none => rfl
    | some i => simp [obndS_r]
  · intro i hi
    rw [getD_i hi]
    simp (disch := omega) only [obnd_s, obnd_n, oite_ss, oite_t, oite_f, ogrd_t, ogrd_f, obndS_l, obndS_r, ilt_eq, ile_eq, ieq_eq, imax_e, imin_e, List.length_map, Int.toNat_natCast, decide_true, decide_false, Bool.not_true, Bool.not_false, Bool.not_eq_true, Bool.false_eq_true, if_true, if_false, reduceIte, not_false_eq_true, not_true_eq_false, Int.natCast_nonneg, Int.ofNat_lt, Int.ofNat_le, Bool.cond_true, Bool.cond_false, cond_true, cond_false, Bool.true_and, Bool.and_true, Bool.false_and, Bool.and_false, Bool.true_or, Bool.or_true, Bool.false_or, Bool.or_false, Bool.cond_true_left, Bool.cond_false_right, Bool.cond_true_right, Bool.cond_false_left, hi, get_i hi, wr]; rfl
  · simp (disch := omega) only [obnd_s, obnd_n, oite_ss, oite_t, oite_f, ogrd_t, ogrd_f, obndS_l, obndS_r, ilt_eq, ile_eq, ieq_eq, imax_e, imin_e, List.length_map, Int.toNat_natCast, decide_true, decide_false, Bool.not_true, Bool.not_false, Bool.not_eq_true, Bool.false_eq_true, if_true, if_false, reduceIte, not_false_eq_true, not_true_eq_false, Int.natCast_nonneg, Int.ofNat_lt, Int.ofNat_le, Bool.cond_true, Bool.cond_false, cond_true, cond_false, Bool.true_and, Bool.and_true, Bool.false_and, Bool.and_false, Bool.true_or, Bool.or_true, Bool.false_or, Bool.or_false, Bool.cond_true_left, Bool.cond_false_right, Bool.cond_true_right, Bool.cond_false_left, Int.lt_irrefl]
theorem oslH_n {α : Type} {l : List α} {i : Nat} (h : i ≤ l.length) : oslH l (i : Int) = some (l.take i) := by
  unfold oslH; rw [if_pos (by omega)]; rfl

/-! ### Rules -/
def gi (L : List Int) (i : Nat) : Int := L.getD i 0
theorem get_gi {l : List Int} {i : Nat} (h : i < l.length) : l[i]? = some (gi l i) := by unfold gi; rw [getD_i h, List.getElem?_eq_getElem h]
def thr (n : Int) : Bool := decide (1 ≤ n) && decide (n ≤ 1000000)
def stepE (U D : List Int) (i : Nat) : Int := bif !(thr (gi U i) && thr (gi D i)) then 2 else bif decide (gi U i < gi D i) then 3 else bif decide (0 < i) && (decide (gi U i ≤ gi U (i - 1)) || decide (gi D i < gi D (i - 1))) then 9 else 0
def gp (P : List (ByteArray × Int)) (i : Nat) : ByteArray × Int := P.getD i (⟨#[]⟩, 0)
theorem get_gp {P : List (ByteArray × Int)} {i : Nat} (h : i < P.length) : P[i]? = some (gp P i) := by unfold gp; rw [getD_i h, List.getElem?_eq_getElem h]
def knownP (P : List (ByteArray × Int)) (i : Nat) : Bool := (P.take i).any fun x => x.1.toList == (gp P i).1.toList
def persE (n : Nat) (P : List (ByteArray × Int)) (i : Nat) : Int := bif !nameB (gp P i).1 then 4 else bif knownP P i then 5 else bif !(decide (1 ≤ (gp P i).2) && decide ((gp P i).2 ≤ n)) then 2 else 0
/-- The first index with an error, and the error. -/
def errs (f : Nat → Int) (n : Nat) : Option (Int × Int) := scanF (fun i => bif !decide (f i = 0) then some ((i : Int), f i) else none) n 0
def ckR (U D : List Int) (H : Int) (P : List (ByteArray × Int)) : Int × Int :=
  bif decide (U.length = 0) || !decide (D.length = U.length) then (0, 10) else bif decide (5 < U.length) then (0, 8) else
  match errs (stepE U D) U.length with
  | some r => r
  | none => bif !(decide (0 ≤ H) && decide (H ≤ 1000000)) then (0, 2) else bif decide (10 < P.length) then (0, 8) else (errs (persE U.length P) P.length).getD (0, 0)
theorem errs_scan {σ : Type} (f : Nat → Int) (n : Nat) (k : Int × Int → σ) : scanF (fun i => bif !decide (f i = 0) then some (k ((i : Int), f i)) else none) n 0 = (errs f n).map k := by
  unfold errs; rw [← scanF_map]
  refine scanF_congr fun i _ _ => ?_
  cases (!decide (f i = 0)) <;> rfl
theorem fst3 (a b c : Int) : fstN [a, b, c] = if a = 0 then if b = 0 then c else b else a := by
  simp only [fstN]; repeat' split
  all_goals first | rfl | (symm; assumption) | (exfalso; omega) | omega
theorem fst2 (a b : Int) : fstN [a, b] = if a = 0 then b else a := by
  simp only [fstN]; repeat' split
  all_goals first | rfl | (symm; assumption) | (exfalso; omega) | omega
theorem f85_e (n : Int) : f85 n = some (thr n) := by unfold f85; simp (disch := omega) only [obnd_s, obnd_n, oite_ss, oite_t, oite_f, ogrd_t, ogrd_f, obndS_l, obndS_r, ilt_eq, ile_eq, ieq_eq, imax_e, imin_e, List.length_map, Int.toNat_natCast, decide_true, decide_false, Bool.not_true, Bool.not_false, Bool.not_eq_true, Bool.false_eq_true, if_true, if_false, reduceIte, not_false_eq_true, not_true_eq_false, Int.natCast_nonneg, Int.ofNat_lt, Int.ofNat_le, Bool.cond_true, Bool.cond_false, cond_true, cond_false, Bool.true_and, Bool.and_true, Bool.false_and, Bool.and_false, Bool.true_or, Bool.or_true, Bool.false_or, Bool.or_false, Bool.cond_true_left, Bool.cond_false_right, Bool.cond_true_right, Bool.cond_false_left, f65_e]; rfl
theorem f46_e {U D : List Int} {H : Int} {P : List (ByteArray × Int)} (hU : U.length < 4611686018427387904) (hD : D.length < 4611686018427387904) (hP : P.length < 4611686018427387904) (hs : ∀ p, p ∈ P → p.1.size < 4611686018427387904) : f46 U D H P = some (ckR U D H P) := by
  unfold f46 ckR
  have e1 : decide (((U.length : Nat) : Int) = 0) = decide (U.length = 0) := ceq 0 _
  have e2 : decide (((D.length : Nat) : Int) = ((U.length : Nat) : Int)) = decide (D.length = U.length) := ceq _ _
  have e3 : decide ((5 : Int) < ((U.length : Nat) : Int)) = decide (5 < U.length) := by rw [Bool.eq_iff_iff, decide_eq_true_eq, decide_eq_true_eq]; omega
  have e4 : decide ((10 : Int) < ((P.length : Nat) : Int)) = decide (10 < P.length) := by rw [Bool.eq_iff_iff, decide_eq_true_eq, decide_eq_true_eq]; omega
  simp (disch := omega) only [obnd_s, obnd_n, oite_ss, oite_t, oite_f, ogrd_t, ogrd_f, obndS_l, obndS_r, ilt_eq, ile_eq, ieq_eq, imax_e, imin_e, List.length_map, Int.toNat_natCast, decide_true, decide_false, Bool.not_true, Bool.not_false, Bool.not_eq_true, Bool.false_eq_true, if_true, if_false, reduceIte, not_false_eq_true, not_true_eq_false, Int.natCast_nonneg, Int.ofNat_lt, Int.ofNat_le, Bool.cond_true, Bool.cond_false, cond_true, cond_false, Bool.true_and, Bool.and_true, Bool.false_and, Bool.and_false, Bool.true_or, Bool.or_true, Bool.false_or, Bool.or_false, Bool.cond_true_left, Bool.cond_false_right, Bool.cond_true_right, Bool.cond_false_left, e1, e2, e3, e4]
  cases h1 : (decide (U.length = 0) || !decide (D.length = U.length)) with
  | true => rfl
  | false =>
    simp only [Bool.or_eq_false_iff, Bool.not_eq_false', decide_eq_true_eq, decide_eq_false_iff_not] at h1
    simp (disch := omega) only [obnd_s, obnd_n, oite_ss, oite_t, oite_f, ogrd_t, ogrd_f, obndS_l, obndS_r, ilt_eq, ile_eq, ieq_eq, imax_e, imin_e, List.length_map, Int.toNat_natCast, decide_true, decide_false, Bool.not_true, Bool.not_false, Bool.not_eq_true, Bool.false_eq_true, if_true, if_false, reduceIte, not_false_eq_true, not_true_eq_false, Int.natCast_nonneg, Int.ofNat_lt, Int.ofNat_le, Bool.cond_true, Bool.cond_false, cond_true, cond_false, Bool.true_and, Bool.and_true, Bool.false_and, Bool.and_false, Bool.true_or, Bool.or_true, Bool.false_or, Bool.or_false, Bool.cond_true_left, Bool.cond_false_right, Bool.cond_true_right, Bool.cond_false_left]
    cases h2 : decide (5 < U.length) with
    | true => rfl
    | false =>
      simp (disch := omega) only [obnd_s, obnd_n, oite_ss, oite_t, oite_f, ogrd_t, ogrd_f, obndS_l, obndS_r, ilt_eq, ile_eq, ieq_eq, imax_e, imin_e, List.length_map, Int.toNat_natCast, decide_true, decide_false, Bool.not_true, Bool.not_false, Bool.not_eq_true, Bool.false_eq_true, if_true, if_false, reduceIte, not_false_eq_true, not_true_eq_false, Int.natCast_nonneg, Int.ofNat_lt, Int.ofNat_le, Bool.cond_true, Bool.cond_false, cond_true, cond_false, Bool.true_and, Bool.and_true, Bool.false_and, Bool.and_false, Bool.true_or, Bool.or_true, Bool.false_or, Bool.or_false, Bool.cond_true_left, Bool.cond_false_right, Bool.cond_true_right, Bool.cond_false_left]
      rw [oloop_scanB (fun i => (i : Int)) U.length (fun i => !decide (stepE U D i = 0)) (fun i => .inr ((i : Int), stepE U D i)) (d := .inl ()) (e0 := 0) rfl ?_ ?_, errs_scan (stepE U D) U.length (Sum.inr : Int × Int → Unit ⊕ (Int × Int))]
      · cases errs (stepE U D) U.length with
        | some r => rfl
        | none =>
          simp (disch := omega) only [obnd_s, obnd_n, oite_ss, oite_t, oite_f, ogrd_t, ogrd_f, obndS_l, obndS_r, ilt_eq, ile_eq, ieq_eq, imax_e, imin_e, List.length_map, Int.toNat_natCast, decide_true, decide_false, Bool.not_true, Bool.not_false, Bool.not_eq_true, Bool.false_eq_true, if_true, if_false, reduceIte, not_false_eq_true, not_true_eq_false, Int.natCast_nonneg, Int.ofNat_lt, Int.ofNat_le, Bool.cond_true, Bool.cond_false, cond_true, cond_false, Bool.true_and, Bool.and_true, Bool.false_and, Bool.and_false, Bool.true_or, Bool.or_true, Bool.false_or, Bool.or_false, Bool.cond_true_left, Bool.cond_false_right, Bool.cond_true_right, Bool.cond_false_left, Option.map_none, Option.getD_none, f15_e]
          cases (decide (0 ≤ H) && decide (H ≤ 1000000)) with
          | false => rfl
          | true =>
            simp (disch := omega) only [obnd_s, obnd_n, oite_ss, oite_t, oite_f, ogrd_t, ogrd_f, obndS_l, obndS_r, ilt_eq, ile_eq, ieq_eq, imax_e, imin_e, List.length_map, Int.toNat_natCast, decide_true, decide_false, Bool.not_true, Bool.not_false, Bool.not_eq_true, Bool.false_eq_true, if_true, if_false, reduceIte, not_false_eq_true, not_true_eq_false, Int.natCast_nonneg, Int.ofNat_lt, Int.ofNat_le, Bool.cond_true, Bool.cond_false, cond_true, cond_false, Bool.true_and, Bool.and_true, Bool.false_and, Bool.and_false, Bool.true_or, Bool.or_true, Bool.false_or, Bool.or_false, Bool.cond_true_left, Bool.cond_false_right, Bool.cond_true_right, Bool.cond_false_left]
            cases decide (10 < P.length) with
            | true => rfl
            | false =>
              simp (disch := omega) only [obnd_s, obnd_n, oite_ss, oite_t, oite_f, ogrd_t, ogrd_f, obndS_l, obndS_r, ilt_eq, ile_eq, ieq_eq, imax_e, imin_e, List.length_map, Int.toNat_natCast, decide_true, decide_false, Bool.not_true, Bool.not_false, Bool.not_eq_true, Bool.false_eq_true, if_true, if_false, reduceIte, not_false_eq_true, not_true_eq_false, Int.natCast_nonneg, Int.ofNat_lt, Int.ofNat_le, Bool.cond_true, Bool.cond_false, cond_true, cond_false, Bool.true_and, Bool.and_true, Bool.false_and, Bool.and_false, Bool.true_or, Bool.or_true, Bool.false_or, Bool.or_false, Bool.cond_true_left, Bool.cond_false_right, Bool.cond_true_right, Bool.cond_false_left]
              rw [oloop_scanB (fun i => (i : Int)) P.length (fun i => !decide (persE U.length P i = 0)) (fun i => .inr ((i : Int), persE U.length P i)) (d := .inl ()) (e0 := 0) rfl ?_ ?_, errs_scan (persE U.length P) P.length (Sum.inr : Int × Int → Unit ⊕ (Int × Int))]
              · cases errs (persE U.length P) P.length <;> rfl
              · intro i hi
                have hn := hs (gp P i) (by unfold gp; rw [getD_i hi]; exact List.getElem_mem hi)
                simp (disch := omega) only [obnd_s, obnd_n, oite_ss, oite_t, oite_f, ogrd_t, ogrd_f, obndS_l, obndS_r, ilt_eq, ile_eq, ieq_eq, imax_e, imin_e, List.length_map, Int.toNat_natCast, decide_true, decide_false, Bool.not_true, Bool.not_false, Bool.not_eq_true, Bool.false_eq_true, if_true, if_false, reduceIte, not_false_eq_true, not_true_eq_false, Int.natCast_nonneg, Int.ofNat_lt, Int.ofNat_le, Bool.cond_true, Bool.cond_false, cond_true, cond_false, Bool.true_and, Bool.and_true, Bool.false_and, Bool.and_false, Bool.true_or, Bool.or_true, Bool.false_or, Bool.or_false, Bool.cond_true_left, Bool.cond_false_right, Bool.cond_true_right, Bool.cond_false_left, hi, get_gp hi, f91_e hn, oslH_n (Nat.le_of_lt hi), f92_e (l := P.take i) (gp P i).1 (by rw [List.length_take]; omega), findI_any, f15_e, wr]
                unfold persE
                rw [show (List.any (P.take i) fun x => x.1.toList == (gp P i).1.toList) = knownP P i from rfl]
                cases nameB (gp P i).1 <;> cases knownP P i <;> cases (decide (1 ≤ (gp P i).2) && decide ((gp P i).2 ≤ (U.length : Int))) <;> rfl
              · simp (disch := omega) only [obnd_s, obnd_n, oite_ss, oite_t, oite_f, ogrd_t, ogrd_f, obndS_l, obndS_r, ilt_eq, ile_eq, ieq_eq, imax_e, imin_e, List.length_map, Int.toNat_natCast, decide_true, decide_false, Bool.not_true, Bool.not_false, Bool.not_eq_true, Bool.false_eq_true, if_true, if_false, reduceIte, not_false_eq_true, not_true_eq_false, Int.natCast_nonneg, Int.ofNat_lt, Int.ofNat_le, Bool.cond_true, Bool.cond_false, cond_true, cond_false, Bool.true_and, Bool.and_true, Bool.false_and, Bool.and_false, Bool.true_or, Bool.or_true, Bool.false_or, Bool.or_false, Bool.cond_true_left, Bool.cond_false_right, Bool.cond_true_right, Bool.cond_false_left, Int.lt_irrefl]
      · intro i hi
        have hD' : i < D.length := by omega
        simp (disch := omega) only [obnd_s, obnd_n, oite_ss, oite_t, oite_f, ogrd_t, ogrd_f, obndS_l, obndS_r, ilt_eq, ile_eq, ieq_eq, imax_e, imin_e, List.length_map, Int.toNat_natCast, decide_true, decide_false, Bool.not_true, Bool.not_false, Bool.not_eq_true, Bool.false_eq_true, if_true, if_false, reduceIte, not_false_eq_true, not_true_eq_false, Int.natCast_nonneg, Int.ofNat_lt, Int.ofNat_le, Bool.cond_true, Bool.cond_false, cond_true, cond_false, Bool.true_and, Bool.and_true, Bool.false_and, Bool.and_false, Bool.true_or, Bool.or_true, Bool.false_or, Bool.or_false, Bool.cond_true_left, Bool.cond_false_right, Bool.cond_true_right, Bool.cond_false_left, hi, get_gi hi, get_gi hD', f15_e, wr]
        unfold stepE
        rw [show (decide (1 ≤ gi U i) && decide (gi U i ≤ 1000000)) = thr (gi U i) from rfl, show (decide (1 ≤ gi D i) && decide (gi D i ≤ 1000000)) = thr (gi D i) from rfl]
        rcases i with _ | j
        · cases thr (gi U 0) <;> cases thr (gi D 0) <;> cases decide (gi U 0 < gi D 0) <;> rfl
        · have hw : (((j + 1 : Nat) : Int) - 1) = (j : Int) := by omega
          simp (disch := omega) only [obnd_s, obnd_n, oite_ss, oite_t, oite_f, ogrd_t, ogrd_f, obndS_l, obndS_r, ilt_eq, ile_eq, ieq_eq, imax_e, imin_e, List.length_map, Int.toNat_natCast, decide_true, decide_false, Bool.not_true, Bool.not_false, Bool.not_eq_true, Bool.false_eq_true, if_true, if_false, reduceIte, not_false_eq_true, not_true_eq_false, Int.natCast_nonneg, Int.ofNat_lt, Int.ofNat_le, Bool.cond_true, Bool.cond_false, cond_true, cond_false, Bool.true_and, Bool.and_true, Bool.false_and, Bool.and_false, Bool.true_or, Bool.or_true, Bool.false_or, Bool.or_false, Bool.cond_true_left, Bool.cond_false_right, Bool.cond_true_right, Bool.cond_false_left, hw, get_gi (show j < U.length by omega), get_gi (show j < D.length by omega), show (0 : Int) < ((j + 1 : Nat) : Int) by omega, Nat.zero_lt_succ, Nat.add_sub_cancel]
          cases thr (gi U (j + 1)) <;> cases thr (gi D (j + 1)) <;> cases decide (gi U (j + 1) < gi D (j + 1)) <;> cases decide (gi U (j + 1) ≤ gi U j) <;> cases decide (gi D (j + 1) < gi D j) <;> rfl
      · simp (disch := omega) only [obnd_s, obnd_n, oite_ss, oite_t, oite_f, ogrd_t, ogrd_f, obndS_l, obndS_r, ilt_eq, ile_eq, ieq_eq, imax_e, imin_e, List.length_map, Int.toNat_natCast, decide_true, decide_false, Bool.not_true, Bool.not_false, Bool.not_eq_true, Bool.false_eq_true, if_true, if_false, reduceIte, not_false_eq_true, not_true_eq_false, Int.natCast_nonneg, Int.ofNat_lt, Int.ofNat_le, Bool.cond_true, Bool.cond_false, cond_true, cond_false, Bool.true_and, Bool.and_true, Bool.false_and, Bool.and_false, Bool.true_or, Bool.or_true, Bool.false_or, Bool.or_false, Bool.cond_true_left, Bool.cond_false_right, Bool.cond_true_right, Bool.cond_false_left, Int.lt_irrefl]
end Go.Proofs.YtfdapegcngmknaaGreat.AM
