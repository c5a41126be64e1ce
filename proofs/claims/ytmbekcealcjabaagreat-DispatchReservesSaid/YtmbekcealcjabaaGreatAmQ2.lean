/- Plain laws of chapter 8: names, plants, tasks (the program's own checks). Conditions: none. -/
import Derived.Test.YtmbekcealcjabaaGreatAmQ0
namespace Go.Proofs.YtmbekcealcjabaaGreat.AM
set_option linter.unusedSimpArgs false
set_option linter.unusedVariables false
open Go Go.RowKit

/-! ### Names -/
def letC (c : Nat) : Bool := (decide (97 ≤ c) && decide (c ≤ 122)) || (decide (65 ≤ c) && decide (c ≤ 90))
def badC (i c : Nat) : Bool := !letC c && (decide (i = 0) || (!decide (c = 45) && !(decide (48 ≤ c) && decide (c ≤ 57))))
def nameO (s : ByteArray) : Option Unit := scanF (fun i => bif badC i (s.data.toList.getD i 0).toNat then some () else none) s.size 0
def nameB (s : ByteArray) : Bool := decide (1 ≤ s.size) && decide (s.size ≤ 12) && (nameO s).isNone
theorem size_l (s : ByteArray) : s.data.toList.length = s.size := ba_size
theorem ceq (k c : Nat) : decide ((c : Int) = (k : Int)) = decide (c = k) := by rw [Bool.eq_iff_iff, decide_eq_true_eq, decide_eq_true_eq]; exact Int.ofNat_inj
theorem cle (k c : Nat) : decide ((k : Int) ≤ (c : Int)) = decide (k ≤ c) := by rw [Bool.eq_iff_iff]; simp
theorem name_scan (s : ByteArray) : scanF (fun i => bif badC i (s.data.toList.getD i 0).toNat then some (.inr false : Unit ⊕ Bool) else none) s.size 0 = (nameO s).map fun _ => .inr false := by
  unfold nameO
  rw [← scanF_map]
  refine scanF_congr fun k _ _ => ?_
  cases badC k (s.data.toList.getD k 0).toNat <;> rfl
theorem orC : ∀ c : Fin 256, (decide ((97 : Int) ≤ IntKind.i64.wrap (IntKind.u8.wrap (BitVec.ofInt (IntKind.bits .u8) ((c.val : Nat) : Int) ||| BitVec.ofInt (IntKind.bits .u8) (32 : Int)).toNat)) && decide (IntKind.i64.wrap (IntKind.u8.wrap (BitVec.ofInt (IntKind.bits .u8) ((c.val : Nat) : Int) ||| BitVec.ofInt (IntKind.bits .u8) (32 : Int)).toNat) ≤ 122)) = letC c.val := by decide +kernel
theorem f254_e {s : ByteArray} (hs : s.size < 4611686018427387904) : f254 s = some (nameB s) := by
  unfold f254
  rw [oloop_scanB (fun i => (i : Int)) s.size (fun i => badC i (s.data.toList.getD i 0).toNat) (fun _ => .inr false) (d := .inl ()) (e0 := 0) rfl ?_ ?_, name_scan]
  · unfold nameB
    cases nameO s with
    | none =>
      simp (disch := omega) only [obnd_s, obnd_n, oite_ss, oite_t, oite_f, ogrd_t, ogrd_f, obndS_l, obndS_r, ilt_eq, ile_eq, ieq_eq, imax_e, imin_e, List.length_map, Int.toNat_natCast, decide_true, decide_false, Bool.not_true, Bool.not_false, Bool.not_eq_true, Bool.false_eq_true, if_true, if_false, reduceIte, not_false_eq_true, not_true_eq_false, Int.natCast_nonneg, Int.ofNat_lt, Int.ofNat_le, Bool.cond_true, Bool.cond_false, cond_true, cond_false, Bool.true_and, Bool.and_true, Bool.false_and, Bool.and_false, Bool.true_or, Bool.or_true, Bool.false_or, Bool.or_false, Bool.cond_true_left, Bool.cond_false_right, Bool.cond_true_right, Bool.cond_false_left, f216_e, Option.map_none, Option.getD_none, Option.isNone_none]
      rw [show decide ((1 : Int) ≤ s.size) = decide (1 ≤ s.size) from cle 1 _, show decide ((s.size : Int) ≤ 12) = decide (s.size ≤ 12) from cle _ 12]
    | some _ => simp (disch := omega) only [obnd_s, obnd_n, oite_ss, oite_t, oite_f, ogrd_t, ogrd_f, obndS_l, obndS_r, ilt_eq, ile_eq, ieq_eq, imax_e, imin_e, List.length_map, Int.toNat_natCast, decide_true, decide_false, Bool.not_true, Bool.not_false, Bool.not_eq_true, Bool.false_eq_true, if_true, if_false, reduceIte, not_false_eq_true, not_true_eq_false, Int.natCast_nonneg, Int.ofNat_lt, Int.ofNat_le, Bool.cond_true, Bool.cond_false, cond_true, cond_false, Bool.true_and, Bool.and_true, Bool.false_and, Bool.and_false, Bool.true_or, Bool.or_true, Bool.false_or, Bool.or_false, Bool.cond_true_left, Bool.cond_false_right, Bool.cond_true_right, Bool.cond_false_left, Option.map_some, Option.getD_some, Option.isNone_some]
  · intro i hi
    have hi' : i < s.data.toList.length := by rw [size_l]; exact hi
    rw [getD_i hi']
    have hc := (s.data.toList[i]).toNat_lt
    have ho := orC ⟨(s.data.toList[i]).toNat, by omega⟩
    simp only at ho
    simp (disch := omega) only [obnd_s, obnd_n, oite_ss, oite_t, oite_f, ogrd_t, ogrd_f, obndS_l, obndS_r, ilt_eq, ile_eq, ieq_eq, imax_e, imin_e, List.length_map, Int.toNat_natCast, decide_true, decide_false, Bool.not_true, Bool.not_false, Bool.not_eq_true, Bool.false_eq_true, if_true, if_false, reduceIte, not_false_eq_true, not_true_eq_false, Int.natCast_nonneg, Int.ofNat_lt, Int.ofNat_le, Bool.cond_true, Bool.cond_false, cond_true, cond_false, Bool.true_and, Bool.and_true, Bool.false_and, Bool.and_false, Bool.true_or, Bool.or_true, Bool.false_or, Bool.or_false, Bool.cond_true_left, Bool.cond_false_right, Bool.cond_true_right, Bool.cond_false_left, hi', get_i hi', f216_e, wr]
    rw [ho]
    generalize (s.data.toList[i]).toNat = c at *
    unfold badC
    rw [show decide ((i : Int) = 0) = decide (i = 0) from ceq 0 i, show decide ((c : Int) = 45) = decide (c = 45) from ceq 45 c, show decide ((48 : Int) ≤ c) = decide (48 ≤ c) from cle 48 c, show decide ((c : Int) ≤ 57) = decide (c ≤ 57) from cle c 57]
    cases letC c <;> cases decide (i = 0) <;> cases decide (c = 45) <;> rfl
  · simp (disch := omega) only [obnd_s, obnd_n, oite_ss, oite_t, oite_f, ogrd_t, ogrd_f, obndS_l, obndS_r, ilt_eq, ile_eq, ieq_eq, imax_e, imin_e, List.length_map, Int.toNat_natCast, decide_true, decide_false, Bool.not_true, Bool.not_false, Bool.not_eq_true, Bool.false_eq_true, if_true, if_false, reduceIte, not_false_eq_true, not_true_eq_false, Int.natCast_nonneg, Int.ofNat_lt, Int.ofNat_le, Bool.cond_true, Bool.cond_false, cond_true, cond_false, Bool.true_and, Bool.and_true, Bool.false_and, Bool.and_false, Bool.true_or, Bool.or_true, Bool.false_or, Bool.or_false, Bool.cond_true_left, Bool.cond_false_right, Bool.cond_true_right, Bool.cond_false_left, Int.lt_irrefl, size_l]
theorem f91_e {s : ByteArray} (hs : s.size < 4611686018427387904) : f91 s = some (nameB s) := by
  unfold f91
  rw [oloop_scanB (fun i => (i : Int)) s.size (fun i => badC i (s.data.toList.getD i 0).toNat) (fun _ => .inr false) (d := .inl ()) (e0 := 0) rfl ?_ ?_, name_scan]
  · have hsz : (decide ((s.size : Int) < 1) || decide (12 < (s.size : Int))) = !(decide (1 ≤ s.size) && decide (s.size ≤ 12)) := by
      rw [show decide ((s.size : Int) < 1) = !decide (1 ≤ s.size) by rw [← decide_not]; congr 1; exact propext (by omega), show decide (12 < (s.size : Int)) = !decide (s.size ≤ 12) by rw [← decide_not]; congr 1; exact propext (by omega)]
      cases decide (1 ≤ s.size) <;> cases decide (s.size ≤ 12) <;> rfl
    unfold nameB
    cases nameO s with
    | none =>
      simp (disch := omega) only [obnd_s, obnd_n, oite_ss, oite_t, oite_f, ogrd_t, ogrd_f, obndS_l, obndS_r, ilt_eq, ile_eq, ieq_eq, imax_e, imin_e, List.length_map, Int.toNat_natCast, decide_true, decide_false, Bool.not_true, Bool.not_false, Bool.not_eq_true, Bool.false_eq_true, if_true, if_false, reduceIte, not_false_eq_true, not_true_eq_false, Int.natCast_nonneg, Int.ofNat_lt, Int.ofNat_le, Bool.cond_true, Bool.cond_false, cond_true, cond_false, Bool.true_and, Bool.and_true, Bool.false_and, Bool.and_false, Bool.true_or, Bool.or_true, Bool.false_or, Bool.or_false, Bool.cond_true_left, Bool.cond_false_right, Bool.cond_true_right, Bool.cond_false_left, Option.map_none, Option.getD_none, Option.isNone_none, hsz]
      first | done | (cases (decide (1 ≤ s.size) && decide (s.size ≤ 12)) <;> rfl)
    | some _ =>
      simp (disch := omega) only [obnd_s, obnd_n, oite_ss, oite_t, oite_f, ogrd_t, ogrd_f, obndS_l, obndS_r, ilt_eq, ile_eq, ieq_eq, imax_e, imin_e, List.length_map, Int.toNat_natCast, decide_true, decide_false, Bool.not_true, Bool.not_false, Bool.not_eq_true, Bool.false_eq_true, if_true, if_false, reduceIte, not_false_eq_true, not_true_eq_false, Int.natCast_nonneg, Int.ofNat_lt, Int.ofNat_le, Bool.cond_true, Bool.cond_false, cond_true, cond_false, Bool.true_and, Bool.and_true, Bool.false_and, Bool.and_false, Bool.true_or, Bool.or_true, Bool.false_or, Bool.or_false, Bool.cond_true_left, Bool.cond_false_right, Bool.cond_true_right, Bool.cond_false_left, Option.map_some, Option.getD_some, Option.isNone_some, hsz]
  · intro i hi
    have hi' : i < s.data.toList.length := by rw [size_l]; exact hi
    rw [getD_i hi']
    simp (disch := omega) only [obnd_s, obnd_n, oite_ss, oite_t, oite_f, ogrd_t, ogrd_f, obndS_l, obndS_r, ilt_eq, ile_eq, ieq_eq, imax_e, imin_e, List.length_map, Int.toNat_natCast, decide_true, decide_false, Bool.not_true, Bool.not_false, Bool.not_eq_true, Bool.false_eq_true, if_true, if_false, reduceIte, not_false_eq_true, not_true_eq_false, Int.natCast_nonneg, Int.ofNat_lt, Int.ofNat_le, Bool.cond_true, Bool.cond_false, cond_true, cond_false, Bool.true_and, Bool.and_true, Bool.false_and, Bool.and_false, Bool.true_or, Bool.or_true, Bool.false_or, Bool.or_false, Bool.cond_true_left, Bool.cond_false_right, Bool.cond_true_right, Bool.cond_false_left, hi', hi, get_i hi', wr]
    generalize (s.data.toList[i]).toNat = c at *
    have e : (!((decide ((97 : Int) ≤ c) && decide ((c : Int) ≤ 122)) || (decide ((65 : Int) ≤ c) && decide ((c : Int) ≤ 90))) && (decide ((i : Int) = 0) || (!decide ((c : Int) = 45) && (decide ((c : Int) < 48) || decide (57 < (c : Int)))))) = badC i c := by
      unfold badC letC; rw [Bool.eq_iff_iff]; simp; omega
    rw [e]; rfl
  · simp (disch := omega) only [obnd_s, obnd_n, oite_ss, oite_t, oite_f, ogrd_t, ogrd_f, obndS_l, obndS_r, ilt_eq, ile_eq, ieq_eq, imax_e, imin_e, List.length_map, Int.toNat_natCast, decide_true, decide_false, Bool.not_true, Bool.not_false, Bool.not_eq_true, Bool.false_eq_true, if_true, if_false, reduceIte, not_false_eq_true, not_true_eq_false, Int.natCast_nonneg, Int.ofNat_lt, Int.ofNat_le, Bool.cond_true, Bool.cond_false, cond_true, cond_false, Bool.true_and, Bool.and_true, Bool.false_and, Bool.and_false, Bool.true_or, Bool.or_true, Bool.false_or, Bool.or_false, Bool.cond_true_left, Bool.cond_false_right, Bool.cond_true_right, Bool.cond_false_left, Int.lt_irrefl]

/-! ### Errors with an index -/
theorem obnd_of {α β : Type} {x : Option α} {a : α} {f : α → Option β} (h : x = some a) : obnd x f = f a := by rw [h]; rfl
/-- The first index with an error, and the error. -/
def errs (f : Nat → Int) (n : Nat) : Option (Int × Int) := scanF (fun i => bif !decide (f i = 0) then some ((i : Int), f i) else none) n 0
theorem errs_scan {σ : Type} (f : Nat → Int) (n : Nat) (k : Int × Int → σ) : scanF (fun i => bif !decide (f i = 0) then some (k ((i : Int), f i)) else none) n 0 = (errs f n).map k := by
  unfold errs; rw [← scanF_map]
  refine scanF_congr fun i _ _ => ?_
  cases (!decide (f i = 0)) <;> rfl
theorem errs_none {f : Nat → Int} {n : Nat} (h : errs f n = none) : ∀ i, i < n → f i = 0 := by
  intro i hi
  have := scanF_none h i (Nat.zero_le _) (by omega)
  cases hd : decide (f i = 0) with
  | true => exact of_decide_eq_true hd
  | false => rw [hd] at this; cases this
theorem errs_some {f : Nat → Int} {n : Nat} {r : Int × Int} (h : errs f n = some r) : r.2 ≠ 0 := by
  unfold errs at h
  have key : ∀ (k i : Nat), scanF (fun i => bif !decide (f i = 0) then some ((i : Int), f i) else none) k i = some r → r.2 ≠ 0 := by
    intro k
    induction k with
    | zero => intro i h; cases h
    | succ k ih =>
      intro i h
      simp only [scanF] at h
      cases hd : decide (f i = 0) with
      | true => rw [hd] at h; exact ih (i + 1) h
      | false => rw [hd] at h; injection h with h; rw [← h]; exact of_decide_eq_false hd
  exact key n 0 h
theorem errs_get {f : Nat → Int} {n : Nat} (h : ((errs f n).getD (0, 0)).2 = 0) : (errs f n).getD (0, 0) = (0, 0) ∧ ∀ i, i < n → f i = 0 := by
  cases he : errs f n with
  | none => exact ⟨rfl, errs_none he⟩
  | some r => rw [he] at h; exact absurd h (errs_some he)

/-! ### Plants -/
def gm (M : List (ByteArray × Int × Int × Int)) (i : Nat) : ByteArray × Int × Int × Int := M.getD i (⟨#[]⟩, 0, 0, 0)
theorem get_gm {M : List (ByteArray × Int × Int × Int)} {i : Nat} (h : i < M.length) : M[i]? = some (gm M i) := by unfold gm; rw [getD_i h, List.getElem?_eq_getElem h]
def gh (H : List (Int × Int × Int)) (i : Nat) : Int × Int × Int := H.getD i (0, 0, 0)
theorem get_gh {H : List (Int × Int × Int)} {i : Nat} (h : i < H.length) : H[i]? = some (gh H i) := by unfold gh; rw [getD_i h, List.getElem?_eq_getElem h]
def s4 (n : Int) : Bool := decide (-10000 ≤ n) && decide (n ≤ 10000)
def z4 (n : Int) : Bool := decide (0 ≤ n) && decide (n ≤ 10000)
def vol (n : Int) : Bool := decide (0 ≤ n) && decide (n ≤ 1000000)
def knownM (M : List (ByteArray × Int × Int × Int)) (i : Nat) : Bool := (M.take i).any fun x => x.1.toList == (gm M i).1.toList
def modE (M : List (ByteArray × Int × Int × Int)) (i : Nat) : Int := bif !nameB (gm M i).1 then 4 else bif knownM M i then 5 else bif !(s4 (gm M i).2.1 && s4 (gm M i).2.2.1 && z4 (gm M i).2.2.2) then 2 else 0
def pltE (lo up : Int) (n : Nat) : Int := bif !(vol lo && vol up) then 2 else bif !decide (lo ≤ up) then 9 else bif !decide (up - lo < 40) then 8 else bif !decide ((0 : Int) < n) then 10 else bif !decide ((n : Int) ≤ 5) then 8 else 0
def ckP (lo up : Int) (M : List (ByteArray × Int × Int × Int)) : Int × Int := bif !decide (pltE lo up M.length = 0) then (0, pltE lo up M.length) else (errs (modE M) M.length).getD (0, 0)
theorem f256_e (n : Int) : f256 n = some (vol n) := by unfold f256; rw [f216_e]; rfl
theorem f235_4 (n : Int) : f235 n 10000 = some (s4 n) := by
  unfold f235; rw [show IntKind.i64.wrap (0 - 10000) = -10000 by rw [wr (by omega) (by omega)]; rfl, f216_e]; rfl
theorem f250_e (n : Int) : f250 n = some (s4 n) := by unfold f250; rw [f235_4]; rfl
theorem f258_e (a : ByteArray) (b c d : Int) (e : ByteArray) (f g h : Int) : f258 a b c d e f g h = some (a.toList == e.toList) := rfl
theorem f262_e {p : ByteArray → Int → Int → Int → Option Bool} {l : List (ByteArray × Int × Int × Int)} (q : ByteArray × Int × Int × Int → Bool) (hp : ∀ x, x ∈ l → p x.1 x.2.1 x.2.2.1 x.2.2.2 = some (q x)) (hl : l.length < 4611686018427387904) : f262 p l = some (findI q l) := by
  unfold f262
  rw [oloop_scanB (fun i => (i : Int)) l.length (fun i => q (l.getD i (⟨#[]⟩, 0, 0, 0))) (fun i => .inr (i : Int)) (d := .inl ()) (e0 := 0) rfl ?_ ?_, scan_find q _ _ l.length l 0 (by omega)]
  · rw [List.drop_zero]; unfold findI
    cases l.findIdx? q with
    | none => rfl
    | some i => simp [obndS_r]
  · intro i hi
    rw [getD_i hi]
    have := hp l[i] (List.getElem_mem hi)
    simp (disch := omega) only [obnd_s, obnd_n, oite_ss, oite_t, oite_f, ogrd_t, ogrd_f, obndS_l, obndS_r, ilt_eq, ile_eq, ieq_eq, imax_e, imin_e, List.length_map, Int.toNat_natCast, decide_true, decide_false, Bool.not_true, Bool.not_false, Bool.not_eq_true, Bool.false_eq_true, if_true, if_false, reduceIte, not_false_eq_true, not_true_eq_false, Int.natCast_nonneg, Int.ofNat_lt, Int.ofNat_le, Bool.cond_true, Bool.cond_false, cond_true, cond_false, Bool.true_and, Bool.and_true, Bool.false_and, Bool.and_false, Bool.true_or, Bool.or_true, Bool.false_or, Bool.or_false, Bool.cond_true_left, Bool.cond_false_right, Bool.cond_true_right, Bool.cond_false_left, hi, get_i hi, wr, this]; rfl
  · simp (disch := omega) only [obnd_s, obnd_n, oite_ss, oite_t, oite_f, ogrd_t, ogrd_f, obndS_l, obndS_r, ilt_eq, ile_eq, ieq_eq, imax_e, imin_e, List.length_map, Int.toNat_natCast, decide_true, decide_false, Bool.not_true, Bool.not_false, Bool.not_eq_true, Bool.false_eq_true, if_true, if_false, reduceIte, not_false_eq_true, not_true_eq_false, Int.natCast_nonneg, Int.ofNat_lt, Int.ofNat_le, Bool.cond_true, Bool.cond_false, cond_true, cond_false, Bool.true_and, Bool.and_true, Bool.false_and, Bool.and_false, Bool.true_or, Bool.or_true, Bool.false_or, Bool.or_false, Bool.cond_true_left, Bool.cond_false_right, Bool.cond_true_right, Bool.cond_false_left, Int.lt_irrefl]
theorem f257_e {p : ByteArray → Int → Int → Int → Option Bool} {l : List (ByteArray × Int × Int × Int)} (q : ByteArray × Int × Int × Int → Bool) (hp : ∀ x, x ∈ l → p x.1 x.2.1 x.2.2.1 x.2.2.2 = some (q x)) (hl : l.length < 4611686018427387904) : f257 p l = some (l.any q) := by
  unfold f257
  rw [f262_e q hp hl]
  simp (disch := omega) only [obnd_s, obnd_n, oite_ss, oite_t, oite_f, ogrd_t, ogrd_f, obndS_l, obndS_r, ilt_eq, ile_eq, ieq_eq, imax_e, imin_e, List.length_map, Int.toNat_natCast, decide_true, decide_false, Bool.not_true, Bool.not_false, Bool.not_eq_true, Bool.false_eq_true, if_true, if_false, reduceIte, not_false_eq_true, not_true_eq_false, Int.natCast_nonneg, Int.ofNat_lt, Int.ofNat_le, Bool.cond_true, Bool.cond_false, cond_true, cond_false, Bool.true_and, Bool.and_true, Bool.false_and, Bool.and_false, Bool.true_or, Bool.or_true, Bool.false_or, Bool.or_false, Bool.cond_true_left, Bool.cond_false_right, Bool.cond_true_right, Bool.cond_false_left, findI_any]
theorem f249_e {lo up : Int} {M : List (ByteArray × Int × Int × Int)} (hM : M.length < 4611686018427387904) (hs : ∀ p, p ∈ M → p.1.size < 4611686018427387904) : f249 lo up M = some (ckP lo up M) := by
  unfold f249
  refine (obnd_of (a := pltE lo up M.length) ?_).trans ?_
  · rw [f256_e, f256_e]
    simp only [obnd_s, f214_e]
    cases h1 : vol lo with
    | false => rw [oite_f, f213_e (by simp)]; unfold pltE; rw [h1]; rfl
    | true =>
      cases h2 : vol up with
      | false => rw [oite_t, f213_e (by simp)]; unfold pltE; rw [h1, h2]; rfl
      | true =>
        have h3 := h1; have h4 := h2
        unfold vol at h3 h4
        simp only [Bool.and_eq_true, decide_eq_true_eq] at h3 h4
        rw [oite_t, f213_e (by simp)]; unfold pltE; rw [h1, h2, wr (by omega) (by omega), ile_eq, ilt_eq, ilt_eq, ile_eq, List.length_map]
        cases decide (lo ≤ up) <;> cases decide (up - lo < 40) <;> cases decide ((0 : Int) < (M.length : Int)) <;> cases decide ((M.length : Int) ≤ 5) <;> rfl
  · unfold ckP
    rw [ieq_eq]
    cases h1 : decide (pltE lo up M.length = 0) with
    | false => rfl
    | true =>
      simp (disch := omega) only [obnd_s, obnd_n, oite_ss, oite_t, oite_f, ogrd_t, ogrd_f, obndS_l, obndS_r, ilt_eq, ile_eq, ieq_eq, imax_e, imin_e, List.length_map, Int.toNat_natCast, decide_true, decide_false, Bool.not_true, Bool.not_false, Bool.not_eq_true, Bool.false_eq_true, if_true, if_false, reduceIte, not_false_eq_true, not_true_eq_false, Int.natCast_nonneg, Int.ofNat_lt, Int.ofNat_le, Bool.cond_true, Bool.cond_false, cond_true, cond_false, Bool.true_and, Bool.and_true, Bool.false_and, Bool.and_false, Bool.true_or, Bool.or_true, Bool.false_or, Bool.or_false, Bool.cond_true_left, Bool.cond_false_right, Bool.cond_true_right, Bool.cond_false_left]
      rw [oloop_scanB (fun i => (i : Int)) M.length (fun i => !decide (modE M i = 0)) (fun i => .inr ((i : Int), modE M i)) (d := .inl ()) (e0 := 0) rfl ?_ ?_, errs_scan (modE M) M.length (Sum.inr : Int × Int → Unit ⊕ (Int × Int))]
      · cases errs (modE M) M.length <;> rfl
      · intro i hi
        have hn := hs (gm M i) (by unfold gm; rw [getD_i hi]; exact List.getElem_mem hi)
        simp (disch := omega) only [obnd_s, obnd_n, oite_ss, oite_t, oite_f, ogrd_t, ogrd_f, obndS_l, obndS_r, ilt_eq, ile_eq, ieq_eq, imax_e, imin_e, List.length_map, Int.toNat_natCast, decide_true, decide_false, Bool.not_true, Bool.not_false, Bool.not_eq_true, Bool.false_eq_true, if_true, if_false, reduceIte, not_false_eq_true, not_true_eq_false, Int.natCast_nonneg, Int.ofNat_lt, Int.ofNat_le, Bool.cond_true, Bool.cond_false, cond_true, cond_false, Bool.true_and, Bool.and_true, Bool.false_and, Bool.and_false, Bool.true_or, Bool.or_true, Bool.false_or, Bool.or_false, Bool.cond_true_left, Bool.cond_false_right, Bool.cond_true_right, Bool.cond_false_left, hi, get_gm hi, f254_e hn, oslH_n (Nat.le_of_lt hi), f257_e (p := fun z0 z1 z2 z3 => f258 z0 z1 z2 z3 (gm M i).1 (gm M i).2.1 (gm M i).2.2.1 (gm M i).2.2.2) (l := M.take i) (fun x => x.1.toList == (gm M i).1.toList) (fun _ _ => f258_e _ _ _ _ _ _ _ _) (by rw [List.length_take]; omega), f216_e, f235_4, f214_e, f213_3, wr]
        unfold modE
        rw [show (List.any (M.take i) fun x => x.1.toList == (gm M i).1.toList) = knownM M i from rfl, show (decide (0 ≤ (gm M i).2.2.2) && decide ((gm M i).2.2.2 ≤ 10000)) = z4 (gm M i).2.2.2 from rfl]
        cases nameB (gm M i).1 <;> cases knownM M i <;> cases s4 (gm M i).2.1 <;> cases s4 (gm M i).2.2.1 <;> cases z4 (gm M i).2.2.2 <;> rfl
      · simp (disch := omega) only [obnd_s, obnd_n, oite_ss, oite_t, oite_f, ogrd_t, ogrd_f, obndS_l, obndS_r, ilt_eq, ile_eq, ieq_eq, imax_e, imin_e, List.length_map, Int.toNat_natCast, decide_true, decide_false, Bool.not_true, Bool.not_false, Bool.not_eq_true, Bool.false_eq_true, if_true, if_false, reduceIte, not_false_eq_true, not_true_eq_false, Int.natCast_nonneg, Int.ofNat_lt, Int.ofNat_le, Bool.cond_true, Bool.cond_false, cond_true, cond_false, Bool.true_and, Bool.and_true, Bool.false_and, Bool.and_false, Bool.true_or, Bool.or_true, Bool.false_or, Bool.or_false, Bool.cond_true_left, Bool.cond_false_right, Bool.cond_true_right, Bool.cond_false_left, Int.lt_irrefl]

/-! ### Tasks -/
def hourE (H : List (Int × Int × Int)) (i : Nat) : Int := bif !(s4 (gh H i).1 && s4 (gh H i).2.1 && s4 (gh H i).2.2) then 2 else bif !decide ((gh H i).2.1 ≤ (gh H i).1) then 9 else 0
def tskE (lo up : Int) (n : Nat) (v m w : Int) (k : Nat) : Int := bif !(decide (lo ≤ v) && decide (v ≤ up)) then 2 else bif !(decide (0 ≤ m) && decide (m ≤ (n : Int) - 1)) then 6 else bif !s4 w then 2 else bif !decide ((0 : Int) < k) then 10 else bif !decide ((k : Int) ≤ 10) then 8 else 0
def ckT (lo up : Int) (M : List (ByteArray × Int × Int × Int)) (v m w : Int) (H : List (Int × Int × Int)) : Int × Int :=
  bif !decide ((ckP lo up M).2 = 0) then (0, (ckP lo up M).2) else bif !decide (tskE lo up M.length v m w H.length = 0) then (0, tskE lo up M.length v m w H.length) else (errs (hourE H) H.length).getD (0, 0)
theorem f237_e {lo up v m w : Int} {M : List (ByteArray × Int × Int × Int)} {H : List (Int × Int × Int)} (hM : M.length < 4611686018427387904) (hs : ∀ p, p ∈ M → p.1.size < 4611686018427387904) (hH : H.length < 4611686018427387904) : f237 lo up M v m w H = some (ckT lo up M v m w H) := by
  unfold f237
  have hw : IntKind.i64.wrap ((M.length : Int) - 1) = (M.length : Int) - 1 := wr (by omega) (by omega)
  simp only [f249_e hM hs, obnd_s, f216_e, f214_e, f250_e, List.length_map, ile_eq, ilt_eq, ieq_eq, hw]
  refine (obnd_of (a := bif !decide ((ckP lo up M).2 = 0) then (ckP lo up M).2 else tskE lo up M.length v m w H.length) ?_).trans ?_
  · rw [f213_e (by simp)]
    simp only [fstN]
    cases h1 : decide ((ckP lo up M).2 = 0) with
    | false => rw [if_neg (of_decide_eq_false h1)]; rfl
    | true =>
      rw [if_pos (of_decide_eq_true h1)]
      unfold tskE
      cases (decide (lo ≤ v) && decide (v ≤ up)) <;> cases (decide (0 ≤ m) && decide (m ≤ (M.length : Int) - 1)) <;> cases s4 w <;> cases decide ((0 : Int) < (H.length : Int)) <;> cases decide ((H.length : Int) ≤ 10) <;> rfl
  · unfold ckT
    cases h1 : decide ((ckP lo up M).2 = 0) with
    | false =>
      simp only [Bool.not_false, cond_true, h1, oite_t]
    | true =>
      simp only [Bool.not_true, cond_false]
      cases h2 : decide (tskE lo up M.length v m w H.length = 0) with
      | false => rfl
      | true =>
        simp (disch := omega) only [obnd_s, obnd_n, oite_ss, oite_t, oite_f, ogrd_t, ogrd_f, obndS_l, obndS_r, ilt_eq, ile_eq, ieq_eq, imax_e, imin_e, List.length_map, Int.toNat_natCast, decide_true, decide_false, Bool.not_true, Bool.not_false, Bool.not_eq_true, Bool.false_eq_true, if_true, if_false, reduceIte, not_false_eq_true, not_true_eq_false, Int.natCast_nonneg, Int.ofNat_lt, Int.ofNat_le, Bool.cond_true, Bool.cond_false, cond_true, cond_false, Bool.true_and, Bool.and_true, Bool.false_and, Bool.and_false, Bool.true_or, Bool.or_true, Bool.false_or, Bool.or_false, Bool.cond_true_left, Bool.cond_false_right, Bool.cond_true_right, Bool.cond_false_left]
        rw [oloop_scanB (fun i => (i : Int)) H.length (fun i => !decide (hourE H i = 0)) (fun i => .inr ((i : Int), hourE H i)) (d := .inl ()) (e0 := 0) rfl ?_ ?_, errs_scan (hourE H) H.length (Sum.inr : Int × Int → Unit ⊕ (Int × Int))]
        · cases errs (hourE H) H.length <;> rfl
        · intro i hi
          simp (disch := omega) only [obnd_s, obnd_n, oite_ss, oite_t, oite_f, ogrd_t, ogrd_f, obndS_l, obndS_r, ilt_eq, ile_eq, ieq_eq, imax_e, imin_e, List.length_map, Int.toNat_natCast, decide_true, decide_false, Bool.not_true, Bool.not_false, Bool.not_eq_true, Bool.false_eq_true, if_true, if_false, reduceIte, not_false_eq_true, not_true_eq_false, Int.natCast_nonneg, Int.ofNat_lt, Int.ofNat_le, Bool.cond_true, Bool.cond_false, cond_true, cond_false, Bool.true_and, Bool.and_true, Bool.false_and, Bool.and_false, Bool.true_or, Bool.or_true, Bool.false_or, Bool.or_false, Bool.cond_true_left, Bool.cond_false_right, Bool.cond_true_right, Bool.cond_false_left, hi, get_gh hi, f213_2, wr]
          unfold hourE
          cases s4 (gh H i).1 <;> cases s4 (gh H i).2.1 <;> cases s4 (gh H i).2.2 <;> cases decide ((gh H i).2.1 ≤ (gh H i).1) <;> rfl
        · simp (disch := omega) only [obnd_s, obnd_n, oite_ss, oite_t, oite_f, ogrd_t, ogrd_f, obndS_l, obndS_r, ilt_eq, ile_eq, ieq_eq, imax_e, imin_e, List.length_map, Int.toNat_natCast, decide_true, decide_false, Bool.not_true, Bool.not_false, Bool.not_eq_true, Bool.false_eq_true, if_true, if_false, reduceIte, not_false_eq_true, not_true_eq_false, Int.natCast_nonneg, Int.ofNat_lt, Int.ofNat_le, Bool.cond_true, Bool.cond_false, cond_true, cond_false, Bool.true_and, Bool.and_true, Bool.false_and, Bool.and_false, Bool.true_or, Bool.or_true, Bool.false_or, Bool.or_false, Bool.cond_true_left, Bool.cond_false_right, Bool.cond_true_right, Bool.cond_false_left, Int.lt_irrefl]

/-- What a valid plant with a valid task is. -/
structure okT (lo up : Int) (M : List (ByteArray × Int × Int × Int)) (v m w : Int) (H : List (Int × Int × Int)) : Prop where
  lo0 : 0 ≤ lo
  hi1 : up ≤ 1000000
  lohi : lo ≤ up
  span : up - lo < 40
  mpos : 0 < M.length
  mfew : M.length ≤ 5
  mode : ∀ i, i < M.length → (-10000 ≤ (gm M i).2.1 ∧ (gm M i).2.1 ≤ 10000) ∧ (-10000 ≤ (gm M i).2.2.1 ∧ (gm M i).2.2.1 ≤ 10000) ∧ (0 ≤ (gm M i).2.2.2 ∧ (gm M i).2.2.2 ≤ 10000)
  vlo : lo ≤ v
  vhi : v ≤ up
  m0 : 0 ≤ m
  m1 : m < M.length
  w4 : -10000 ≤ w ∧ w ≤ 10000
  hpos : 0 < H.length
  hfew : H.length ≤ 10
  hour : ∀ i, i < H.length → (-10000 ≤ (gh H i).1 ∧ (gh H i).1 ≤ 10000) ∧ (-10000 ≤ (gh H i).2.1 ∧ (gh H i).2.1 ≤ 10000) ∧ (-10000 ≤ (gh H i).2.2 ∧ (gh H i).2.2 ≤ 10000)
theorem s4_p {n : Int} (h : s4 n = true) : -10000 ≤ n ∧ n ≤ 10000 := by simpa [s4] using h
theorem z4_p {n : Int} (h : z4 n = true) : 0 ≤ n ∧ n ≤ 10000 := by simpa [z4] using h
theorem vol_p {n : Int} (h : vol n = true) : 0 ≤ n ∧ n ≤ 1000000 := by simpa [vol] using h
theorem modE_0 {M : List (ByteArray × Int × Int × Int)} {i : Nat} (h : modE M i = 0) : (-10000 ≤ (gm M i).2.1 ∧ (gm M i).2.1 ≤ 10000) ∧ (-10000 ≤ (gm M i).2.2.1 ∧ (gm M i).2.2.1 ≤ 10000) ∧ (0 ≤ (gm M i).2.2.2 ∧ (gm M i).2.2.2 ≤ 10000) := by
  unfold modE at h
  cases h1 : nameB (gm M i).1 with
  | false => rw [h1] at h; cases h
  | true =>
    cases h2 : knownM M i with
    | true => rw [h1, h2] at h; cases h
    | false =>
      cases h3 : (s4 (gm M i).2.1 && s4 (gm M i).2.2.1 && z4 (gm M i).2.2.2) with
      | false => rw [h1, h2, h3] at h; cases h
      | true =>
        simp only [Bool.and_eq_true] at h3
        exact ⟨s4_p h3.1.1, s4_p h3.1.2, z4_p h3.2⟩
theorem hourE_0 {H : List (Int × Int × Int)} {i : Nat} (h : hourE H i = 0) : (-10000 ≤ (gh H i).1 ∧ (gh H i).1 ≤ 10000) ∧ (-10000 ≤ (gh H i).2.1 ∧ (gh H i).2.1 ≤ 10000) ∧ (-10000 ≤ (gh H i).2.2 ∧ (gh H i).2.2 ≤ 10000) := by
  unfold hourE at h
  cases h3 : (s4 (gh H i).1 && s4 (gh H i).2.1 && s4 (gh H i).2.2) with
  | false => rw [h3] at h; cases h
  | true =>
    simp only [Bool.and_eq_true] at h3
    exact ⟨s4_p h3.1.1, s4_p h3.1.2, s4_p h3.2⟩
theorem pltE_0 {lo up : Int} {n : Nat} (h : pltE lo up n = 0) : (0 ≤ lo ∧ up ≤ 1000000 ∧ lo ≤ up ∧ up - lo < 40) ∧ 0 < n ∧ n ≤ 5 := by
  unfold pltE at h
  cases h1 : (vol lo && vol up) with
  | false => rw [h1] at h; cases h
  | true =>
    cases h2 : decide (lo ≤ up) with
    | false => rw [h1, h2] at h; cases h
    | true =>
      cases h3 : decide (up - lo < 40) with
      | false => rw [h1, h2, h3] at h; cases h
      | true =>
        cases h4 : decide ((0 : Int) < n) with
        | false => rw [h1, h2, h3, h4] at h; cases h
        | true =>
          cases h5 : decide ((n : Int) ≤ 5) with
          | false => rw [h1, h2, h3, h4, h5] at h; cases h
          | true =>
            simp only [Bool.and_eq_true] at h1
            have a := vol_p h1.1; have b := vol_p h1.2
            simp only [decide_eq_true_eq] at h2 h3 h4 h5
            omega
theorem tskE_0 {lo up v m w : Int} {n k : Nat} (h : tskE lo up n v m w k = 0) : (lo ≤ v ∧ v ≤ up) ∧ (0 ≤ m ∧ m < n) ∧ (-10000 ≤ w ∧ w ≤ 10000) ∧ 0 < k ∧ k ≤ 10 := by
  unfold tskE at h
  cases h1 : (decide (lo ≤ v) && decide (v ≤ up)) with
  | false => rw [h1] at h; cases h
  | true =>
    cases h2 : (decide (0 ≤ m) && decide (m ≤ (n : Int) - 1)) with
    | false => rw [h1, h2] at h; cases h
    | true =>
      cases h3 : s4 w with
      | false => rw [h1, h2, h3] at h; cases h
      | true =>
        cases h4 : decide ((0 : Int) < k) with
        | false => rw [h1, h2, h3, h4] at h; cases h
        | true =>
          cases h5 : decide ((k : Int) ≤ 10) with
          | false => rw [h1, h2, h3, h4, h5] at h; cases h
          | true =>
            have a := s4_p h3
            simp only [Bool.and_eq_true, decide_eq_true_eq] at h1 h2 h4 h5
            omega
theorem ckP_0 {lo up : Int} {M : List (ByteArray × Int × Int × Int)} (h : (ckP lo up M).2 = 0) : ckP lo up M = (0, 0) ∧ pltE lo up M.length = 0 ∧ ∀ i, i < M.length → modE M i = 0 := by
  unfold ckP at h ⊢
  cases h1 : decide (pltE lo up M.length = 0) with
  | false => rw [h1] at h; exact absurd h (of_decide_eq_false h1)
  | true =>
    rw [h1] at h
    obtain ⟨h2, h3⟩ := errs_get h
    exact ⟨h2, of_decide_eq_true h1, h3⟩
theorem ckT_0 {lo up v m w : Int} {M : List (ByteArray × Int × Int × Int)} {H : List (Int × Int × Int)} (h : (ckT lo up M v m w H).2 = 0) : ckT lo up M v m w H = (0, 0) ∧ okT lo up M v m w H := by
  unfold ckT at h ⊢
  cases h1 : decide ((ckP lo up M).2 = 0) with
  | false => rw [h1] at h; exact absurd h (of_decide_eq_false h1)
  | true =>
    cases h2 : decide (tskE lo up M.length v m w H.length = 0) with
    | false => rw [h1, h2] at h; exact absurd h (of_decide_eq_false h2)
    | true =>
      rw [h1, h2] at h
      obtain ⟨h3, h4⟩ := errs_get h
      obtain ⟨_, h5, h6⟩ := ckP_0 (of_decide_eq_true h1)
      obtain ⟨⟨p1, p2, p3, p4⟩, p5, p6⟩ := pltE_0 h5
      obtain ⟨⟨q1, q2⟩, ⟨q3, q4⟩, q5, q6, q7⟩ := tskE_0 (of_decide_eq_true h2)
      exact ⟨h3, ⟨p1, p2, p3, p4, p5, p6, fun i hi => modE_0 (h6 i hi), q1, q2, q3, q4, q5, q6, q7, fun i hi => hourE_0 (h4 i hi)⟩⟩
theorem f219_e {lo up v m w : Int} {M : List (ByteArray × Int × Int × Int)} {H : List (Int × Int × Int)} (hM : M.length < 4611686018427387904) (hs : ∀ p, p ∈ M → p.1.size < 4611686018427387904) (hH : H.length < 4611686018427387904) : f219 lo up M v m w H = some (lo, up, M, v, m, w, H, (ckT lo up M v m w H).2) := by
  unfold f219; rw [f237_e hM hs hH]; rfl
end Go.Proofs.YtmbekcealcjabaaGreat.AM
