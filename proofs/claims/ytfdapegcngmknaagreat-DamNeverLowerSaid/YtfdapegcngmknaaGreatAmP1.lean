/- Plain laws: tests, names, rules. Conditions: none. -/
import Derived.Test.YtfdapegcngmknaaGreatAmP0
import Derived.Test.YtfdapegcngmknaaGreatAmLf
namespace Go.Proofs.YtfdapegcngmknaaGreat.AM
set_option linter.unusedSimpArgs false
set_option linter.unusedVariables false
open Go Go.RowKit

theorem f64_e (b : Bool) (e : Int) : f64 b e = some (if b = true then 0 else e) := by unfold f64; cases b <;> rfl
theorem f65_e (n lo hi : Int) : f65 n lo hi = some (decide (lo ≤ n) && decide (n ≤ hi)) := by unfold f65; simp (disch := omega) only [obnd_s, obnd_n, oite_ss, oite_t, oite_f, ogrd_t, ogrd_f, obndS_l, obndS_r, ilt_eq, ile_eq, ieq_eq, imax_e, imin_e, List.length_map, Int.toNat_natCast, decide_true, decide_false, Bool.not_true, Bool.not_false, Bool.not_eq_true, Bool.false_eq_true, if_true, if_false, reduceIte, not_false_eq_true, not_true_eq_false, Int.natCast_nonneg, Int.ofNat_lt, Int.ofNat_le, Bool.cond_true, Bool.cond_false, cond_true, cond_false, Bool.true_and, Bool.and_true, Bool.false_and, Bool.and_false, Bool.true_or, Bool.or_true, Bool.false_or, Bool.or_false, Bool.cond_true_left, Bool.cond_false_right, Bool.cond_true_right, Bool.cond_false_left]
theorem f15_e (n lo hi : Int) : f15 n lo hi = some (decide (lo ≤ n) && decide (n ≤ hi)) := by unfold f15; simp (disch := omega) only [obnd_s, obnd_n, oite_ss, oite_t, oite_f, ogrd_t, ogrd_f, obndS_l, obndS_r, ilt_eq, ile_eq, ieq_eq, imax_e, imin_e, List.length_map, Int.toNat_natCast, decide_true, decide_false, Bool.not_true, Bool.not_false, Bool.not_eq_true, Bool.false_eq_true, if_true, if_false, reduceIte, not_false_eq_true, not_true_eq_false, Int.natCast_nonneg, Int.ofNat_lt, Int.ofNat_le, Bool.cond_true, Bool.cond_false, cond_true, cond_false, Bool.true_and, Bool.and_true, Bool.false_and, Bool.and_false, Bool.true_or, Bool.or_true, Bool.false_or, Bool.or_false, Bool.cond_true_left, Bool.cond_false_right, Bool.cond_true_right, Bool.cond_false_left]

/-- The first that is not 0. -/
def fstN : List Int → Int
  | [] => 0
  | x :: r => if x = 0 then fstN r else x
theorem getD_i {α : Type} {l : List α} {i : Nat} {d : α} (h : i < l.length) : l.getD i d = l[i] := by rw [List.getD_eq_getElem?_getD, List.getElem?_eq_getElem h]; rfl
theorem scan_fst : ∀ (k : Nat) (l : List Int) (i : Nat), i + k = l.length → (scanF (fun i => bif !decide (l.getD i 0 = 0) then some (.inr (l.getD i 0) : Unit ⊕ Int) else none) k i).getD (.inl ()) = if fstN (l.drop i) = 0 then .inl () else .inr (fstN (l.drop i))
  | 0, l, i, h => by rw [List.drop_eq_nil_of_le (by omega)]; simp [scanF, fstN]
  | k + 1, l, i, h => by
    have hi : i < l.length := by omega
    rw [List.drop_eq_getElem_cons hi]
    simp only [scanF, fstN, getD_i hi]
    by_cases h0 : l[i] = 0
    · simp only [h0, decide_true, Bool.not_true, cond_false, if_true]; exact scan_fst k l (i + 1) (by omega)
    · simp [h0]
theorem f63_e {l : List Int} (hl : l.length < 4611686018427387904) : f63 l = some (fstN l) := by
  unfold f63
  rw [oloop_scanB (fun i => (i : Int)) l.length (fun i => !decide (l.getD i 0 = 0)) (fun i => .inr (l.getD i 0)) (d := .inl ()) (e0 := 0) rfl ?_ ?_, scan_fst l.length l 0 (by omega)]
  · rw [List.drop_zero]
    by_cases h : fstN l = 0
    · rw [if_pos h, h]; rfl
    · rw [if_neg h]; rfl
  · intro i hi
    rw [getD_i hi]
    simp (disch := omega) only [obnd_s, obnd_n, oite_ss, oite_t, oite_f, ogrd_t, ogrd_f, obndS_l, obndS_r, ilt_eq, ile_eq, ieq_eq, imax_e, imin_e, List.length_map, Int.toNat_natCast, decide_true, decide_false, Bool.not_true, Bool.not_false, Bool.not_eq_true, Bool.false_eq_true, if_true, if_false, reduceIte, not_false_eq_true, not_true_eq_false, Int.natCast_nonneg, Int.ofNat_lt, Int.ofNat_le, Bool.cond_true, Bool.cond_false, cond_true, cond_false, Bool.true_and, Bool.and_true, Bool.false_and, Bool.and_false, Bool.true_or, Bool.or_true, Bool.false_or, Bool.or_false, Bool.cond_true_left, Bool.cond_false_right, Bool.cond_true_right, Bool.cond_false_left, hi, get_i hi, wr]; rfl
  · simp (disch := omega) only [obnd_s, obnd_n, oite_ss, oite_t, oite_f, ogrd_t, ogrd_f, obndS_l, obndS_r, ilt_eq, ile_eq, ieq_eq, imax_e, imin_e, List.length_map, Int.toNat_natCast, decide_true, decide_false, Bool.not_true, Bool.not_false, Bool.not_eq_true, Bool.false_eq_true, if_true, if_false, reduceIte, not_false_eq_true, not_true_eq_false, Int.natCast_nonneg, Int.ofNat_lt, Int.ofNat_le, Bool.cond_true, Bool.cond_false, cond_true, cond_false, Bool.true_and, Bool.and_true, Bool.false_and, Bool.and_false, Bool.true_or, Bool.or_true, Bool.false_or, Bool.or_false, Bool.cond_true_left, Bool.cond_false_right, Bool.cond_true_right, Bool.cond_false_left, Int.lt_irrefl]

/-! ### Names -/
def letC (c : Nat) : Bool := (decide (97 ≤ c) && decide (c ≤ 122)) || (decide (65 ≤ c) && decide (c ≤ 90))
def badC (i c : Nat) : Bool := !letC c && (decide (i = 0) || (!decide (c = 45) && !(decide (48 ≤ c) && decide (c ≤ 57))))
def nameO (s : ByteArray) : Option Unit := scanF (fun i => bif badC i (s.data.toList.getD i 0).toNat then some () else none) s.size 0
def nameB (s : ByteArray) : Bool := decide (1 ≤ s.size) && decide (s.size ≤ 12) && (nameO s).isNone
theorem size_l (s : ByteArray) : s.data.toList.length = s.size := ba_size
theorem nat_le (a : Nat) [OfNat Int a] : True := trivial
theorem ceq (k c : Nat) : decide ((c : Int) = (k : Int)) = decide (c = k) := by rw [Bool.eq_iff_iff, decide_eq_true_eq, decide_eq_true_eq]; exact Int.ofNat_inj
theorem cle (k c : Nat) : decide ((k : Int) ≤ (c : Int)) = decide (k ≤ c) := by rw [Bool.eq_iff_iff]; simp
theorem f111_e {c : Nat} (h : c < 256) : f111 (c : Int) = some (letC c) := by
  unfold f111 letC
  have hw : IntKind.i64.wrap (c : Int) = (c : Int) := wr (by omega) (by omega)
  simp (disch := omega) only [obnd_s, obnd_n, oite_ss, oite_t, oite_f, ogrd_t, ogrd_f, obndS_l, obndS_r, ilt_eq, ile_eq, ieq_eq, imax_e, imin_e, List.length_map, Int.toNat_natCast, decide_true, decide_false, Bool.not_true, Bool.not_false, Bool.not_eq_true, Bool.false_eq_true, if_true, if_false, reduceIte, not_false_eq_true, not_true_eq_false, Int.natCast_nonneg, Int.ofNat_lt, Int.ofNat_le, Bool.cond_true, Bool.cond_false, cond_true, cond_false, Bool.true_and, Bool.and_true, Bool.false_and, Bool.and_false, Bool.true_or, Bool.or_true, Bool.false_or, Bool.or_false, Bool.cond_true_left, Bool.cond_false_right, Bool.cond_true_right, Bool.cond_false_left, f65_e, hw]
  rw [show decide ((97 : Int) ≤ c) = decide (97 ≤ c) from cle 97 c, show decide ((c : Int) ≤ 122) = decide (c ≤ 122) from cle c 122, show decide ((65 : Int) ≤ c) = decide (65 ≤ c) from cle 65 c, show decide ((c : Int) ≤ 90) = decide (c ≤ 90) from cle c 90]
theorem name_scan (s : ByteArray) : scanF (fun i => bif badC i (s.data.toList.getD i 0).toNat then some (.inr false : Unit ⊕ Bool) else none) s.size 0 = (nameO s).map fun _ => .inr false := by
  unfold nameO
  rw [← scanF_map]
  refine scanF_congr fun k _ _ => ?_
  cases badC k (s.data.toList.getD k 0).toNat <;> rfl
theorem f88_e {s : ByteArray} (hs : s.size < 4611686018427387904) : f88 s = some (nameB s) := by
  unfold f88
  rw [oloop_scanB (fun i => (i : Int)) s.size (fun i => badC i (s.data.toList.getD i 0).toNat) (fun _ => .inr false) (d := .inl ()) (e0 := 0) rfl ?_ ?_, name_scan]
  · unfold nameB
    cases nameO s with
    | none =>
      simp (disch := omega) only [obnd_s, obnd_n, oite_ss, oite_t, oite_f, ogrd_t, ogrd_f, obndS_l, obndS_r, ilt_eq, ile_eq, ieq_eq, imax_e, imin_e, List.length_map, Int.toNat_natCast, decide_true, decide_false, Bool.not_true, Bool.not_false, Bool.not_eq_true, Bool.false_eq_true, if_true, if_false, reduceIte, not_false_eq_true, not_true_eq_false, Int.natCast_nonneg, Int.ofNat_lt, Int.ofNat_le, Bool.cond_true, Bool.cond_false, cond_true, cond_false, Bool.true_and, Bool.and_true, Bool.false_and, Bool.and_false, Bool.true_or, Bool.or_true, Bool.false_or, Bool.or_false, Bool.cond_true_left, Bool.cond_false_right, Bool.cond_true_right, Bool.cond_false_left, f65_e, Option.map_none, Option.getD_none, Option.isNone_none]
      rw [show decide ((1 : Int) ≤ s.size) = decide (1 ≤ s.size) from cle 1 _, show decide ((s.size : Int) ≤ 12) = decide (s.size ≤ 12) from cle _ 12]
    | some _ => simp (disch := omega) only [obnd_s, obnd_n, oite_ss, oite_t, oite_f, ogrd_t, ogrd_f, obndS_l, obndS_r, ilt_eq, ile_eq, ieq_eq, imax_e, imin_e, List.length_map, Int.toNat_natCast, decide_true, decide_false, Bool.not_true, Bool.not_false, Bool.not_eq_true, Bool.false_eq_true, if_true, if_false, reduceIte, not_false_eq_true, not_true_eq_false, Int.natCast_nonneg, Int.ofNat_lt, Int.ofNat_le, Bool.cond_true, Bool.cond_false, cond_true, cond_false, Bool.true_and, Bool.and_true, Bool.false_and, Bool.and_false, Bool.true_or, Bool.or_true, Bool.false_or, Bool.or_false, Bool.cond_true_left, Bool.cond_false_right, Bool.cond_true_right, Bool.cond_false_left, Option.map_some, Option.getD_some, Option.isNone_some]
  · intro i hi
    have hi' : i < s.data.toList.length := by rw [size_l]; exact hi
    rw [getD_i hi']
    have hc := (s.data.toList[i]).toNat_lt
    simp (disch := omega) only [obnd_s, obnd_n, oite_ss, oite_t, oite_f, ogrd_t, ogrd_f, obndS_l, obndS_r, ilt_eq, ile_eq, ieq_eq, imax_e, imin_e, List.length_map, Int.toNat_natCast, decide_true, decide_false, Bool.not_true, Bool.not_false, Bool.not_eq_true, Bool.false_eq_true, if_true, if_false, reduceIte, not_false_eq_true, not_true_eq_false, Int.natCast_nonneg, Int.ofNat_lt, Int.ofNat_le, Bool.cond_true, Bool.cond_false, cond_true, cond_false, Bool.true_and, Bool.and_true, Bool.false_and, Bool.and_false, Bool.true_or, Bool.or_true, Bool.false_or, Bool.or_false, Bool.cond_true_left, Bool.cond_false_right, Bool.cond_true_right, Bool.cond_false_left, hi', get_i hi', f111_e, wr, f65_e]
    generalize (s.data.toList[i]).toNat = c at *
    unfold badC
    rw [show decide ((i : Int) = 0) = decide (i = 0) from ceq 0 i, show decide ((c : Int) = 45) = decide (c = 45) from ceq 45 c, show decide ((48 : Int) ≤ c) = decide (48 ≤ c) from cle 48 c, show decide ((c : Int) ≤ 57) = decide (c ≤ 57) from cle c 57]
    cases letC c <;> cases decide (i = 0) <;> cases decide (c = 45) <;> rfl
  · simp (disch := omega) only [obnd_s, obnd_n, oite_ss, oite_t, oite_f, ogrd_t, ogrd_f, obndS_l, obndS_r, ilt_eq, ile_eq, ieq_eq, imax_e, imin_e, List.length_map, Int.toNat_natCast, decide_true, decide_false, Bool.not_true, Bool.not_false, Bool.not_eq_true, Bool.false_eq_true, if_true, if_false, reduceIte, not_false_eq_true, not_true_eq_false, Int.natCast_nonneg, Int.ofNat_lt, Int.ofNat_le, Bool.cond_true, Bool.cond_false, cond_true, cond_false, Bool.true_and, Bool.and_true, Bool.false_and, Bool.and_false, Bool.true_or, Bool.or_true, Bool.false_or, Bool.or_false, Bool.cond_true_left, Bool.cond_false_right, Bool.cond_true_right, Bool.cond_false_left, Int.lt_irrefl, size_l]
theorem f91_e {s : ByteArray} (hs : s.size < 4611686018427387904) : f91 s = some (nameB s) := by
  unfold f91
  rw [oloop_scanB (fun i => (i : Int)) s.size (fun i => badC i (s.data.toList.getD i 0).toNat) (fun _ => .inr false) (d := .inl ()) (e0 := 0) rfl ?_ ?_, name_scan]
  · have hsz : (decide ((s.size : Int) < 1) || decide (12 < (s.size : Int))) = !(decide (1 ≤ s.size) && decide (s.size ≤ 12)) := by
      rw [show decide ((s.size : Int) < 1) = !decide (1 ≤ s.size) by rw [← decide_not]; congr 1; exact propext (by omega), show decide (12 < (s.size : Int)) = !decide (s.size ≤ 12) by rw [← decide_not]; congr 1; exact propext (by omega)]
      cases decide (1 ≤ s.size) <;> cases decide (s.size ≤ 12) <;> rfl
    unfold nameB
    cases nameO s with
    | none =>
      simp (disch := omega) only [obnd_s, obnd_n, oite_ss, oite_t, oite_f, ogrd_t, ogrd_f, obndS_l, obndS_r, ilt_eq, ile_eq, ieq_eq, imax_e, imin_e, List.length_map, Int.toNat_natCast, decide_true, decide_false, Bool.not_true, Bool.not_false, Bool.not_eq_true, Bool.false_eq_true, if_true, if_false, reduceIte, not_false_eq_true, not_true_eq_false, Int.natCast_nonneg, Int.ofNat_lt, Int.ofNat_le, Bool.cond_true, Bool.cond_false, cond_true, cond_false, Bool.true_and, Bool.and_true, Bool.false_and, Bool.and_false, Bool.true_or, Bool.or_true, Bool.false_or, Bool.or_false, Bool.cond_true_left, Bool.cond_false_right, Bool.cond_true_right, Bool.cond_false_left, Option.map_none, Option.getD_none, Option.isNone_none, hsz]
      first | done | (cases (decide (1 ≤ s.size) && decide (s.size ≤ 12)) <;> rfl)
    | some _ =>
      simp (disch := omega) only [obnd_s, obnd_n, oite_ss, oite_t, oite_f, ogrd_t, ogrd_f, obndS_l, obndS_r, ilt_eq, ile_eq, ieq_eq, imax_e, imin_e, List.length_map, Int.toNat_natCast, decide_true, decide_false, Bool.not_true, Bool.not_false, Bool.not_eq_true, Bool.false_eq_true, if_true, if_false, reduceIte, not_false_eq_true, not_true_eq_false, Int.natCast_nonneg, Int.ofNat_lt, Int.ofNat_le, Bool.cond_true, Bool.cond_false, cond_true, cond_false, Bool.true_and, Bool.and_true, Bool.false_and, Bool.and_false, Bool.true_or, Bool.or_true, Bool.false_or, Bool.or_false, Bool.cond_true_left, Bool.cond_false_right, Bool.cond_true_right, Bool.cond_false_left, Option.map_some, Option.getD_some, Option.isNone_some, hsz]
  · intro i hi
    have hi' : i < s.data.toList.length := by rw [size_l]; exact hi
    rw [getD_i hi']
    simp (disch := omega) only [obnd_s, obnd_n, oite_ss, oite_t, oite_f, ogrd_t, ogrd_f, obndS_l, obndS_r, ilt_eq, ile_eq, ieq_eq, imax_e, imin_e, List.length_map, Int.toNat_natCast, decide_true, decide_false, Bool.not_true, Bool.not_false, Bool.not_eq_true, Bool.false_eq_true, if_true, if_false, reduceIte, not_false_eq_true, not_true_eq_false, Int.natCast_nonneg, Int.ofNat_lt, Int.ofNat_le, Bool.cond_true, Bool.cond_false, cond_true, cond_false, Bool.true_and, Bool.and_true, Bool.false_and, Bool.and_false, Bool.true_or, Bool.or_true, Bool.false_or, Bool.or_false, Bool.cond_true_left, Bool.cond_false_right, Bool.cond_true_right, Bool.cond_false_left, hi', hi, get_i hi', wr]
    generalize (s.data.toList[i]).toNat = c at *
    have e : (!((decide ((97 : Int) ≤ c) && decide ((c : Int) ≤ 122)) || (decide ((65 : Int) ≤ c) && decide ((c : Int) ≤ 90))) && (decide ((i : Int) = 0) || (!decide ((c : Int) = 45) && (decide ((c : Int) < 48) || decide (57 < (c : Int)))))) = badC i c := by
      unfold badC letC; rw [Bool.eq_iff_iff]; simp; omega
    rw [e]; rfl
  · simp (disch := omega) only [obnd_s, obnd_n, oite_ss, oite_t, oite_f, ogrd_t, ogrd_f, obndS_l, obndS_r, ilt_eq, ile_eq, ieq_eq, imax_e, imin_e, List.length_map, Int.toNat_natCast, decide_true, decide_false, Bool.not_true, Bool.not_false, Bool.not_eq_true, Bool.false_eq_true, if_true, if_false, reduceIte, not_false_eq_true, not_true_eq_false, Int.natCast_nonneg, Int.ofNat_lt, Int.ofNat_le, Bool.cond_true, Bool.cond_false, cond_true, cond_false, Bool.true_and, Bool.and_true, Bool.false_and, Bool.and_false, Bool.true_or, Bool.or_true, Bool.false_or, Bool.or_false, Bool.cond_true_left, Bool.cond_false_right, Bool.cond_true_right, Bool.cond_false_left, Int.lt_irrefl]
end Go.Proofs.YtfdapegcngmknaaGreat.AM
