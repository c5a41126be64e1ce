/- Plain laws of chapter 8: tests, first errors, finding. Conditions: none. -/
import Derived.Test.YtmbekcealcjabaaGreatAmP0
import Derived.Test.YtmbekcealcjabaaGreatAmLf
namespace Go.Proofs.YtmbekcealcjabaaGreat.AM
set_option linter.unusedSimpArgs false
set_option linter.unusedVariables false
open Go Go.RowKit

theorem f214_e (b : Bool) (e : Int) : f214 b e = some (if b = true then 0 else e) := by unfold f214; cases b <;> rfl
theorem f216_e (n lo hi : Int) : f216 n lo hi = some (decide (lo ≤ n) && decide (n ≤ hi)) := by unfold f216; simp (disch := omega) only [obnd_s, obnd_n, oite_ss, oite_t, oite_f, ogrd_t, ogrd_f, obndS_l, obndS_r, ilt_eq, ile_eq, ieq_eq, imax_e, imin_e, List.length_map, Int.toNat_natCast, decide_true, decide_false, Bool.not_true, Bool.not_false, Bool.not_eq_true, Bool.false_eq_true, if_true, if_false, reduceIte, not_false_eq_true, not_true_eq_false, Int.natCast_nonneg, Int.ofNat_lt, Int.ofNat_le, Bool.cond_true, Bool.cond_false, cond_true, cond_false, Bool.true_and, Bool.and_true, Bool.false_and, Bool.and_false, Bool.true_or, Bool.or_true, Bool.false_or, Bool.or_false, Bool.cond_true_left, Bool.cond_false_right, Bool.cond_true_right, Bool.cond_false_left]
theorem f15_e (n lo hi : Int) : f15 n lo hi = some (decide (lo ≤ n) && decide (n ≤ hi)) := by unfold f15; simp (disch := omega) only [obnd_s, obnd_n, oite_ss, oite_t, oite_f, ogrd_t, ogrd_f, obndS_l, obndS_r, ilt_eq, ile_eq, ieq_eq, imax_e, imin_e, List.length_map, Int.toNat_natCast, decide_true, decide_false, Bool.not_true, Bool.not_false, Bool.not_eq_true, Bool.false_eq_true, if_true, if_false, reduceIte, not_false_eq_true, not_true_eq_false, Int.natCast_nonneg, Int.ofNat_lt, Int.ofNat_le, Bool.cond_true, Bool.cond_false, cond_true, cond_false, Bool.true_and, Bool.and_true, Bool.false_and, Bool.and_false, Bool.true_or, Bool.or_true, Bool.false_or, Bool.or_false, Bool.cond_true_left, Bool.cond_false_right, Bool.cond_true_right, Bool.cond_false_left]
/-- The first that is not 0. -/
def fstN : List Int → Int
  | [] => 0
  | x :: r => if x = 0 then fstN r else x
theorem getD_i {α : Type} {l : List α} {i : Nat} {d : α} (h : i < l.length) : l.getD i d = l[i] := by rw [List.getD_eq_getElem?_getD, List.getElem?_eq_getElem h]; rfl
theorem scan_fst : ∀ (k : Nat) (l : List Int) (i : Nat), i + k = l.length → (scanF (fun i => bif !decide (l.getD i 0 = 0) then some (.inr (l.getD i 0) : Unit ⊕ Int) else none) k i).getD (.inl ()) = if fstN (l.drop i) = 0 then .inl () else .inr (fstN (l.drop i))
  | 0, l, i, h => by rw [List.drop_eq_nil_of_le (by omega)]; simp [scanF, fstN]
  | k + 1, l, i, h => by
    have hi : i < l.length := by omega
    rw [List.drop_eq_getElem_cons hi]
    simp only [scanF, fstN, getD_i hi]
    by_cases h0 : l[i] = 0
    · simp only [h0, decide_true, Bool.not_true, cond_false, if_true]; exact scan_fst k l (i + 1) (by omega)
    · simp [h0]
theorem f213_e {l : List Int} (hl : l.length < 4611686018427387904) : f213 l = some (fstN l) := by
  unfold f213
  rw [oloop_scanB (fun i => (i : Int)) l.length (fun i => !decide (l.getD i 0 = 0)) (fun i => .inr (l.getD i 0)) (d := .inl ()) (e0 := 0) rfl ?_ ?_, scan_fst l.length l 0 (by omega)]
  · rw [List.drop_zero]
    by_cases h : fstN l = 0
    · rw [if_pos h, h]; rfl
    · rw [if_neg h]; rfl
  · intro i hi
    rw [getD_i hi]
    simp (disch := omega) only [obnd_s, obnd_n, oite_ss, oite_t, oite_f, ogrd_t, ogrd_f, obndS_l, obndS_r, ilt_eq, ile_eq, ieq_eq, imax_e, imin_e, List.length_map, Int.toNat_natCast, decide_true, decide_false, Bool.not_true, Bool.not_false, Bool.not_eq_true, Bool.false_eq_true, if_true, if_false, reduceIte, not_false_eq_true, not_true_eq_false, Int.natCast_nonneg, Int.ofNat_lt, Int.ofNat_le, Bool.cond_true, Bool.cond_false, cond_true, cond_false, Bool.true_and, Bool.and_true, Bool.false_and, Bool.and_false, Bool.true_or, Bool.or_true, Bool.false_or, Bool.or_false, Bool.cond_true_left, Bool.cond_false_right, Bool.cond_true_right, Bool.cond_false_left, hi, get_i hi, wr]; rfl
  · simp (disch := omega) only [obnd_s, obnd_n, oite_ss, oite_t, oite_f, ogrd_t, ogrd_f, obndS_l, obndS_r, ilt_eq, ile_eq, ieq_eq, imax_e, imin_e, List.length_map, Int.toNat_natCast, decide_true, decide_false, Bool.not_true, Bool.not_false, Bool.not_eq_true, Bool.false_eq_true, if_true, if_false, reduceIte, not_false_eq_true, not_true_eq_false, Int.natCast_nonneg, Int.ofNat_lt, Int.ofNat_le, Bool.cond_true, Bool.cond_false, cond_true, cond_false, Bool.true_and, Bool.and_true, Bool.false_and, Bool.and_false, Bool.true_or, Bool.or_true, Bool.false_or, Bool.or_false, Bool.cond_true_left, Bool.cond_false_right, Bool.cond_true_right, Bool.cond_false_left, Int.lt_irrefl]
theorem f213_2 (a b : Int) : f213 [a, b] = some (if a = 0 then b else a) := by
  rw [f213_e (by simp)]
  congr 1
  simp only [fstN]; repeat' split
  all_goals first | rfl | (symm; assumption) | (exfalso; omega) | omega
theorem f213_3 (a b c : Int) : f213 [a, b, c] = some (if a = 0 then (if b = 0 then c else b) else a) := by
  rw [f213_e (by simp)]
  congr 1
  simp only [fstN]; repeat' split
  all_goals first | rfl | (symm; assumption) | (exfalso; omega) | omega
def findI {α : Type} (q : α → Bool) (l : List α) : Int := match l.findIdx? q with
  | some i => (i : Int)
  | none => -1
theorem scan_find {α ρ : Type} (q : α → Bool) (d : α) (k : Nat → ρ) : ∀ (n : Nat) (l : List α) (i : Nat), i + n = l.length → scanF (fun i => bif q (l.getD i d) then some (k i) else none) n i = ((l.drop i).findIdx? q).map fun j => k (i + j)
  | 0, l, i, h => by rw [List.drop_eq_nil_of_le (by omega)]; rfl
  | n + 1, l, i, h => by
    have hi : i < l.length := by omega
    rw [List.drop_eq_getElem_cons hi, List.findIdx?_cons]
    simp only [scanF, getD_i hi]
    cases hq : q l[i] with
    | true => simp
    | false =>
      simp only [cond_false, Bool.false_eq_true, if_false]
      rw [scan_find q d k n l (i + 1) (by omega)]
      cases (l.drop (i + 1)).findIdx? q with
      | none => rfl
      | some j => simp only [Option.map_some]; congr 2; omega
theorem findI_any {α : Type} (q : α → Bool) (l : List α) : decide (0 ≤ findI q l) = l.any q := by
  unfold findI
  rw [← List.findIdx?_isSome]
  cases l.findIdx? q with
  | none => rfl
  | some i => simp
theorem scan_anyB {α ρ : Type} (q : α → Bool) (d : α) (r : ρ) (l : List α) : scanF (fun i => bif q (l.getD i d) then some r else none) l.length 0 = bif l.any q then some r else none := by
  rw [scan_find q d (fun _ => r) l.length l 0 (by omega), List.drop_zero, ← List.findIdx?_isSome]
  cases l.findIdx? q <;> rfl
def gi (L : List Int) (i : Nat) : Int := L.getD i 0
theorem get_gi {l : List Int} {i : Nat} (h : i < l.length) : l[i]? = some (gi l i) := by unfold gi; rw [getD_i h, List.getElem?_eq_getElem h]
theorem f70_e {p : Int → Option Bool} {l : List Int} (q : Int → Bool) (hp : ∀ x, x ∈ l → p x = some (q x)) (hl : l.length < 4611686018427387904) : f70 p l = some (findI q l) := by
  unfold f70
  rw [oloop_scanB (fun i => (i : Int)) l.length (fun i => q (l.getD i 0)) (fun i => .inr (i : Int)) (d := .inl ()) (e0 := 0) rfl ?_ ?_, scan_find q _ _ l.length l 0 (by omega)]
  · rw [List.drop_zero]; unfold findI
    cases l.findIdx? q with
    | none => rfl
    | some i => simp [obndS_r]
  · intro i hi
    rw [getD_i hi]
    have := hp l[i] (List.getElem_mem hi)
    simp (disch := omega) only [obnd_s, obnd_n, oite_ss, oite_t, oite_f, ogrd_t, ogrd_f, obndS_l, obndS_r, ilt_eq, ile_eq, ieq_eq, imax_e, imin_e, List.length_map, Int.toNat_natCast, decide_true, decide_false, Bool.not_true, Bool.not_false, Bool.not_eq_true, Bool.false_eq_true, if_true, if_false, reduceIte, not_false_eq_true, not_true_eq_false, Int.natCast_nonneg, Int.ofNat_lt, Int.ofNat_le, Bool.cond_true, Bool.cond_false, cond_true, cond_false, Bool.true_and, Bool.and_true, Bool.false_and, Bool.and_false, Bool.true_or, Bool.or_true, Bool.false_or, Bool.or_false, Bool.cond_true_left, Bool.cond_false_right, Bool.cond_true_right, Bool.cond_false_left, hi, get_i hi, wr, this]; rfl
  · simp (disch := omega) only [obnd_s, obnd_n, oite_ss, oite_t, oite_f, ogrd_t, ogrd_f, obndS_l, obndS_r, ilt_eq, ile_eq, ieq_eq, imax_e, imin_e, List.length_map, Int.toNat_natCast, decide_true, decide_false, Bool.not_true, Bool.not_false, Bool.not_eq_true, Bool.false_eq_true, if_true, if_false, reduceIte, not_false_eq_true, not_true_eq_false, Int.natCast_nonneg, Int.ofNat_lt, Int.ofNat_le, Bool.cond_true, Bool.cond_false, cond_true, cond_false, Bool.true_and, Bool.and_true, Bool.false_and, Bool.and_false, Bool.true_or, Bool.or_true, Bool.false_or, Bool.or_false, Bool.cond_true_left, Bool.cond_false_right, Bool.cond_true_right, Bool.cond_false_left, Int.lt_irrefl]
theorem f80_e {p : Int → Option Bool} {l : List Int} (q : Int → Bool) (hp : ∀ x, x ∈ l → p x = some (q x)) (hl : l.length < 4611686018427387904) : f80 p l = some (l.any q) := by
  unfold f80
  rw [f70_e q hp hl]
  simp (disch := omega) only [obnd_s, obnd_n, oite_ss, oite_t, oite_f, ogrd_t, ogrd_f, obndS_l, obndS_r, ilt_eq, ile_eq, ieq_eq, imax_e, imin_e, List.length_map, Int.toNat_natCast, decide_true, decide_false, Bool.not_true, Bool.not_false, Bool.not_eq_true, Bool.false_eq_true, if_true, if_false, reduceIte, not_false_eq_true, not_true_eq_false, Int.natCast_nonneg, Int.ofNat_lt, Int.ofNat_le, Bool.cond_true, Bool.cond_false, cond_true, cond_false, Bool.true_and, Bool.and_true, Bool.false_and, Bool.and_false, Bool.true_or, Bool.or_true, Bool.false_or, Bool.or_false, Bool.cond_true_left, Bool.cond_false_right, Bool.cond_true_right, Bool.cond_false_left, findI_any]
theorem f38_e {L : List Int} (h : L.length ≤ 1000000000) : f38 L = some L := by
  unfold f38; rw [ogrd_fits (by simp; omega) (by simp; omega)]; rfl
theorem f26_refl {l : List Int} (hl : l.length ≤ 1000000000) : f26 l l = some true := by
  unfold f26
  rw [oloop_all (fun i => (i : Int)) l.length (r := (.inl () : Unit ⊕ Bool)) (e0 := (0 : Int)) rfl ?_ ?_]
  · simp (disch := omega) only [obnd_s, obnd_n, oite_ss, oite_t, oite_f, ogrd_t, ogrd_f, obndS_l, obndS_r, ilt_eq, ile_eq, ieq_eq, imax_e, imin_e, List.length_map, Int.toNat_natCast, decide_true, decide_false, Bool.not_true, Bool.not_false, Bool.not_eq_true, Bool.false_eq_true, if_true, if_false, reduceIte, not_false_eq_true, not_true_eq_false, Int.natCast_nonneg, Int.ofNat_lt, Int.ofNat_le, Bool.cond_true, Bool.cond_false, cond_true, cond_false, Bool.true_and, Bool.and_true, Bool.false_and, Bool.and_false, Bool.true_or, Bool.or_true, Bool.false_or, Bool.or_false, Bool.cond_true_left, Bool.cond_false_right, Bool.cond_true_right, Bool.cond_false_left]
  · intro i hi
    simp (disch := omega) only [obnd_s, obnd_n, oite_ss, oite_t, oite_f, ogrd_t, ogrd_f, obndS_l, obndS_r, ilt_eq, ile_eq, ieq_eq, imax_e, imin_e, List.length_map, Int.toNat_natCast, decide_true, decide_false, Bool.not_true, Bool.not_false, Bool.not_eq_true, Bool.false_eq_true, if_true, if_false, reduceIte, not_false_eq_true, not_true_eq_false, Int.natCast_nonneg, Int.ofNat_lt, Int.ofNat_le, Bool.cond_true, Bool.cond_false, cond_true, cond_false, Bool.true_and, Bool.and_true, Bool.false_and, Bool.and_false, Bool.true_or, Bool.or_true, Bool.false_or, Bool.or_false, Bool.cond_true_left, Bool.cond_false_right, Bool.cond_true_right, Bool.cond_false_left, hi, get_i hi, wr]; rfl
  · simp (disch := omega) only [obnd_s, obnd_n, oite_ss, oite_t, oite_f, ogrd_t, ogrd_f, obndS_l, obndS_r, ilt_eq, ile_eq, ieq_eq, imax_e, imin_e, List.length_map, Int.toNat_natCast, decide_true, decide_false, Bool.not_true, Bool.not_false, Bool.not_eq_true, Bool.false_eq_true, if_true, if_false, reduceIte, not_false_eq_true, not_true_eq_false, Int.natCast_nonneg, Int.ofNat_lt, Int.ofNat_le, Bool.cond_true, Bool.cond_false, cond_true, cond_false, Bool.true_and, Bool.and_true, Bool.false_and, Bool.and_false, Bool.true_or, Bool.or_true, Bool.false_or, Bool.or_false, Bool.cond_true_left, Bool.cond_false_right, Bool.cond_true_right, Bool.cond_false_left, Int.lt_irrefl]

theorem ceqN (a b : Nat) : decide ((a : Int) = (b : Int)) = decide (a = b) := by rw [Bool.eq_iff_iff, decide_eq_true_eq, decide_eq_true_eq]; omega
theorem oslH_n {α : Type} {l : List α} {i : Nat} (h : i ≤ l.length) : oslH l (i : Int) = some (l.take i) := by
  unfold oslH; rw [if_pos (by omega)]; rfl
end Go.Proofs.YtmbekcealcjabaaGreat.AM
