/- Plain law: DamStrings. Conditions: none. -/
import Derived.Test.YtacgibkgojnfeaaGreatDoorAmP0
import Derived.Test.YtacgibkgojnfeaaGreatDoorAmLf
import Derived.Lib.SplitLaws
import Derived.Lib.AtoiAllCases
namespace Go.Proofs.YtacgibkgojnfeaaGreatDoor.AM
section
set_option linter.unusedSimpArgs false
set_option linter.unusedVariables false
open Go Go.RowKit

theorem f64_e (b : Bool) (e : Int) : f64 b e = some (if b = true then 0 else e) := by unfold f64; cases b <;> rfl
theorem f65_e (n lo hi : Int) : f65 n lo hi = some (decide (lo ≤ n) && decide (n ≤ hi)) := by unfold f65; simp (disch := omega) only [obnd_s, obnd_n, oite_ss, oite_t, oite_f, ogrd_t, ogrd_f, obndS_l, obndS_r, ilt_eq, ile_eq, ieq_eq, imax_e, imin_e, k0, k1, k2, k3, k4, k5, k6, k7, k8, k9, reduceIte, k10, k11, k12, k13, k14, k15, k16, k17, k18, k19, k20, k21, k22, k23, k24, k25, k26, k27, k28]
theorem f15_e (n lo hi : Int) : f15 n lo hi = some (decide (lo ≤ n) && decide (n ≤ hi)) := by unfold f15; simp (disch := omega) only [obnd_s, obnd_n, oite_ss, oite_t, oite_f, ogrd_t, ogrd_f, obndS_l, obndS_r, ilt_eq, ile_eq, ieq_eq, imax_e, imin_e, k0, k1, k2, k3, k4, k5, k6, k7, k8, k9, reduceIte, k10, k11, k12, k13, k14, k15, k16, k17, k18, k19, k20, k21, k22, k23, k24, k25, k26, k27, k28]

/-- The first that is not 0. -/
def fstN : List Int → Int
  | [] => 0
  | x :: r => if x = 0 then fstN r else x
theorem getD_i {α : Type} {l : List α} {i : Nat} {d : α} (h : i < l.length) : l.getD i d = l[i] := by rw [List.getD_eq_getElem?_getD, List.getElem?_eq_getElem h]; rfl
theorem scan_fst : ∀ (k : Nat) (l : List Int) (i : Nat), i + k = l.length → (scanF (fun i => bif !decide (l.getD i 0 = 0) then some (.inr (l.getD i 0) : Unit ⊕ Int) else none) k i).getD (.inl ()) = if fstN (l.drop i) = 0 then .inl () else .inr (fstN (l.drop i))
  | 0, l, i, h => by rw [List.drop_eq_nil_of_le (by omega)]; simp [scanF, fstN]
  | k + 1, l, i, h => by
    have hi : i < l.length := by omega
    rw [List.drop_eq_getElem_cons hi]
    simp only [scanF, fstN, getD_i hi]
    by_cases h0 : l[i] = 0
    · simp only [h0, decide_true, Bool.not_true, cond_false, if_true]; exact scan_fst k l (i + 1) (by omega)
    · simp [h0]
theorem f63_e {l : List Int} (hl : l.length < 4611686018427387904) : f63 l = some (fstN l) := by
  unfold f63
  rw [oloop_scanB (fun i => (i : Int)) l.length (fun i => !decide (l.getD i 0 = 0)) (fun i => .inr (l.getD i 0)) (d := .inl ()) (e0 := 0) rfl ?_ ?_, scan_fst l.length l 0 (by omega)]
  · rw [List.drop_zero]
    by_cases h : fstN l = 0
    · rw [if_pos h, h]; rfl
    · rw [if_neg h]; rfl
  · intro i hi
    rw [getD_i hi]
    simp (disch := omega) only [obnd_s, obnd_n, oite_ss, oite_t, oite_f, ogrd_t, ogrd_f, obndS_l, obndS_r, ilt_eq, ile_eq, ieq_eq, imax_e, imin_e, k0, k1, k2, k3, k4, k5, k6, k7, k8, k9, reduceIte, k10, k11, k12, k13, k14, k15, k16, k17, k18, k19, k20, k21, k22, k23, k24, k25, k26, k27, k28, hi, get_i hi, wr]; rfl
  · simp (disch := omega) only [obnd_s, obnd_n, oite_ss, oite_t, oite_f, ogrd_t, ogrd_f, obndS_l, obndS_r, ilt_eq, ile_eq, ieq_eq, imax_e, imin_e, k0, k1, k2, k3, k4, k5, k6, k7, k8, k9, reduceIte, k10, k11, k12, k13, k14, k15, k16, k17, k18, k19, k20, k21, k22, k23, k24, k25, k26, k27, k28, Int.lt_irrefl]

/-! ### Names -/
def letC (c : Nat) : Bool := (decide (97 ≤ c) && decide (c ≤ 122)) || (decide (65 ≤ c) && decide (c ≤ 90))
def badC (i c : Nat) : Bool := !letC c && (decide (i = 0) || (!decide (c = 45) && !(decide (48 ≤ c) && decide (c ≤ 57))))
def nameO (s : ByteArray) : Option Unit := scanF (fun i => bif badC i (s.data.toList.getD i 0).toNat then some () else none) s.size 0
def nameB (s : ByteArray) : Bool := decide (1 ≤ s.size) && decide (s.size ≤ 12) && (nameO s).isNone
theorem size_l (s : ByteArray) : s.data.toList.length = s.size := ba_size
theorem nat_le (a : Nat) [OfNat Int a] : True := trivial
theorem ceq (k c : Nat) : decide ((c : Int) = (k : Int)) = decide (c = k) := by rw [Bool.eq_iff_iff, decide_eq_true_eq, decide_eq_true_eq]; exact Int.ofNat_inj
theorem cle (k c : Nat) : decide ((k : Int) ≤ (c : Int)) = decide (k ≤ c) := by rw [Bool.eq_iff_iff]; simp
theorem f111_e {c : Nat} (h : c < 256) : f111 (c : Int) = some (letC c) := by
  unfold f111 letC
  have hw : IntKind.i64.wrap (c : Int) = (c : Int) := wr (by omega) (by omega)
  simp (disch := omega) only [obnd_s, obnd_n, oite_ss, oite_t, oite_f, ogrd_t, ogrd_f, obndS_l, obndS_r, ilt_eq, ile_eq, ieq_eq, imax_e, imin_e, k0, k1, k2, k3, k4, k5, k6, k7, k8, k9, reduceIte, k10, k11, k12, k13, k14, k15, k16, k17, k18, k19, k20, k21, k22, k23, k24, k25, k26, k27, k28, f65_e, hw]
  rw [show decide ((97 : Int) ≤ c) = decide (97 ≤ c) from cle 97 c, show decide ((c : Int) ≤ 122) = decide (c ≤ 122) from cle c 122, show decide ((65 : Int) ≤ c) = decide (65 ≤ c) from cle 65 c, show decide ((c : Int) ≤ 90) = decide (c ≤ 90) from cle c 90]
theorem name_scan (s : ByteArray) : scanF (fun i => bif badC i (s.data.toList.getD i 0).toNat then some (.inr false : Unit ⊕ Bool) else none) s.size 0 = (nameO s).map fun _ => .inr false := by
  unfold nameO
  rw [← scanF_map]
  refine scanF_congr fun k _ _ => ?_
  cases badC k (s.data.toList.getD k 0).toNat <;> rfl
theorem f88_e {s : ByteArray} (hs : s.size < 4611686018427387904) : f88 s = some (nameB s) := by
  unfold f88
  rw [oloop_scanB (fun i => (i : Int)) s.size (fun i => badC i (s.data.toList.getD i 0).toNat) (fun _ => .inr false) (d := .inl ()) (e0 := 0) rfl ?_ ?_, name_scan]
  · unfold nameB
    cases nameO s with
    | none =>
      simp (disch := omega) only [obnd_s, obnd_n, oite_ss, oite_t, oite_f, ogrd_t, ogrd_f, obndS_l, obndS_r, ilt_eq, ile_eq, ieq_eq, imax_e, imin_e, k0, k1, k2, k3, k4, k5, k6, k7, k8, k9, reduceIte, k10, k11, k12, k13, k14, k15, k16, k17, k18, k19, k20, k21, k22, k23, k24, k25, k26, k27, k28, f65_e, Option.map_none, Option.getD_none, Option.isNone_none]
      rw [show decide ((1 : Int) ≤ s.size) = decide (1 ≤ s.size) from cle 1 _, show decide ((s.size : Int) ≤ 12) = decide (s.size ≤ 12) from cle _ 12]
    | some _ => simp (disch := omega) only [obnd_s, obnd_n, oite_ss, oite_t, oite_f, ogrd_t, ogrd_f, obndS_l, obndS_r, ilt_eq, ile_eq, ieq_eq, imax_e, imin_e, k0, k1, k2, k3, k4, k5, k6, k7, k8, k9, reduceIte, k10, k11, k12, k13, k14, k15, k16, k17, k18, k19, k20, k21, k22, k23, k24, k25, k26, k27, k28, Option.map_some, Option.getD_some, Option.isNone_some]
  · intro i hi
    have hi' : i < s.data.toList.length := by rw [size_l]; exact hi
    rw [getD_i hi']
    have hc := (s.data.toList[i]).toNat_lt
    simp (disch := omega) only [obnd_s, obnd_n, oite_ss, oite_t, oite_f, ogrd_t, ogrd_f, obndS_l, obndS_r, ilt_eq, ile_eq, ieq_eq, imax_e, imin_e, k0, k1, k2, k3, k4, k5, k6, k7, k8, k9, reduceIte, k10, k11, k12, k13, k14, k15, k16, k17, k18, k19, k20, k21, k22, k23, k24, k25, k26, k27, k28, hi', get_i hi', f111_e, wr, f65_e]
    generalize (s.data.toList[i]).toNat = c at *
    unfold badC
    rw [show decide ((i : Int) = 0) = decide (i = 0) from ceq 0 i, show decide ((c : Int) = 45) = decide (c = 45) from ceq 45 c, show decide ((48 : Int) ≤ c) = decide (48 ≤ c) from cle 48 c, show decide ((c : Int) ≤ 57) = decide (c ≤ 57) from cle c 57]
    cases letC c <;> cases decide (i = 0) <;> cases decide (c = 45) <;> rfl
  · simp (disch := omega) only [obnd_s, obnd_n, oite_ss, oite_t, oite_f, ogrd_t, ogrd_f, obndS_l, obndS_r, ilt_eq, ile_eq, ieq_eq, imax_e, imin_e, k0, k1, k2, k3, k4, k5, k6, k7, k8, k9, reduceIte, k10, k11, k12, k13, k14, k15, k16, k17, k18, k19, k20, k21, k22, k23, k24, k25, k26, k27, k28, Int.lt_irrefl, size_l]
theorem f91_e {s : ByteArray} (hs : s.size < 4611686018427387904) : f91 s = some (nameB s) := by
  unfold f91
  rw [oloop_scanB (fun i => (i : Int)) s.size (fun i => badC i (s.data.toList.getD i 0).toNat) (fun _ => .inr false) (d := .inl ()) (e0 := 0) rfl ?_ ?_, name_scan]
  · have hsz : (decide ((s.size : Int) < 1) || decide (12 < (s.size : Int))) = !(decide (1 ≤ s.size) && decide (s.size ≤ 12)) := by
      rw [show decide ((s.size : Int) < 1) = !decide (1 ≤ s.size) by rw [← decide_not]; congr 1; exact propext (by omega), show decide (12 < (s.size : Int)) = !decide (s.size ≤ 12) by rw [← decide_not]; congr 1; exact propext (by omega)]
      cases decide (1 ≤ s.size) <;> cases decide (s.size ≤ 12) <;> rfl
    unfold nameB
    cases nameO s with
    | none =>
      simp (disch := omega) only [obnd_s, obnd_n, oite_ss, oite_t, oite_f, ogrd_t, ogrd_f, obndS_l, obndS_r, ilt_eq, ile_eq, ieq_eq, imax_e, imin_e, k0, k1, k2, k3, k4, k5, k6, k7, k8, k9, reduceIte, k10, k11, k12, k13, k14, k15, k16, k17, k18, k19, k20, k21, k22, k23, k24, k25, k26, k27, k28, Option.map_none, Option.getD_none, Option.isNone_none, hsz]
      first | done | (cases (decide (1 ≤ s.size) && decide (s.size ≤ 12)) <;> rfl)
    | some _ =>
      simp (disch := omega) only [obnd_s, obnd_n, oite_ss, oite_t, oite_f, ogrd_t, ogrd_f, obndS_l, obndS_r, ilt_eq, ile_eq, ieq_eq, imax_e, imin_e, k0, k1, k2, k3, k4, k5, k6, k7, k8, k9, reduceIte, k10, k11, k12, k13, k14, k15, k16, k17, k18, k19, k20, k21, k22, k23, k24, k25, k26, k27, k28, Option.map_some, Option.getD_some, Option.isNone_some, hsz]
  · intro i hi
    have hi' : i < s.data.toList.length := by rw [size_l]; exact hi
    rw [getD_i hi']
    simp (disch := omega) only [obnd_s, obnd_n, oite_ss, oite_t, oite_f, ogrd_t, ogrd_f, obndS_l, obndS_r, ilt_eq, ile_eq, ieq_eq, imax_e, imin_e, k0, k1, k2, k3, k4, k5, k6, k7, k8, k9, reduceIte, k10, k11, k12, k13, k14, k15, k16, k17, k18, k19, k20, k21, k22, k23, k24, k25, k26, k27, k28, hi', hi, get_i hi', wr]
    generalize (s.data.toList[i]).toNat = c at *
    have e : (!((decide ((97 : Int) ≤ c) && decide ((c : Int) ≤ 122)) || (decide ((65 : Int) ≤ c) && decide ((c : Int) ≤ 90))) && (decide ((i : Int) = 0) || (!decide ((c : Int) = 45) && (decide ((c : Int) < 48) || decide (57 < (c : Int)))))) = badC i c := by
      unfold badC letC; rw [Bool.eq_iff_iff]; simp; omega
    rw [e]; rfl
  · simp (disch := omega) only [obnd_s, obnd_n, oite_ss, oite_t, oite_f, ogrd_t, ogrd_f, obndS_l, obndS_r, ilt_eq, ile_eq, ieq_eq, imax_e, imin_e, k0, k1, k2, k3, k4, k5, k6, k7, k8, k9, reduceIte, k10, k11, k12, k13, k14, k15, k16, k17, k18, k19, k20, k21, k22, k23, k24, k25, k26, k27, k28, Int.lt_irrefl]
end
section
set_option linter.unusedSimpArgs false
set_option linter.unusedVariables false
open Go Go.RowKit

/-! ### Finding -/
def findI {α : Type} (q : α → Bool) (l : List α) : Int := match l.findIdx? q with
  | some i => (i : Int)
  | none => -1
theorem scan_find {α ρ : Type} (q : α → Bool) (d : α) (k : Nat → ρ) : ∀ (n : Nat) (l : List α) (i : Nat), i + n = l.length → scanF (fun i => bif q (l.getD i d) then some (k i) else none) n i = ((l.drop i).findIdx? q).map fun j => k (i + j)
  | 0, l, i, h => by rw [List.drop_eq_nil_of_le (by omega)]; rfl
  | n + 1, l, i, h => by
    have hi : i < l.length := by omega
    rw [List.drop_eq_getElem_cons hi, List.findIdx?_cons]
    simp only [scanF, getD_i hi]
    cases hq : q l[i] with
    | true => simp
    | false =>
      simp only [cond_false, Bool.false_eq_true, if_false]
      rw [scan_find q d k n l (i + 1) (by omega)]
      cases (l.drop (i + 1)).findIdx? q with
      | none => rfl
      | some j => simp; congr 1; omega
theorem findI_any {α : Type} (q : α → Bool) (l : List α) : decide (0 ≤ findI q l) = l.any q := by
  unfold findI
  rw [← List.findIdx?_isSome]
  cases l.findIdx? q with
  | none => rfl
  | some i => simp
theorem f110_e {p : ByteArray → Int → Option Bool} {l : List (ByteArray × Int)} (q : ByteArray × Int → Bool) (hp : ∀ x, x ∈ l → p x.1 x.2 = some (q x)) (hl : l.length < 4611686018427387904) : f110 p l = some (findI q l) := by
  unfold f110
  rw [oloop_scanB (fun i => (i : Int)) l.length (fun i => q (l.getD i (⟨#[]⟩, 0))) (fun i => .inr (i : Int)) (d := .inl ()) (e0 := 0) rfl ?_ ?_, scan_find q _ _ l.length l 0 (by omega)]
  · rw [List.drop_zero]; unfold findI
    cases l.findIdx? q with
    | none => rfl
    | some i => simp [obndS_r]
  · intro i hi
    rw [getD_i hi]
    have := hp l[i] (List.getElem_mem hi)
    simp (disch := omega) only [obnd_s, obnd_n, oite_ss, oite_t, oite_f, ogrd_t, ogrd_f, obndS_l, obndS_r, ilt_eq, ile_eq, ieq_eq, imax_e, imin_e, k0, k1, k2, k3, k4, k5, k6, k7, k8, k9, reduceIte, k10, k11, k12, k13, k14, k15, k16, k17, k18, k19, k20, k21, k22, k23, k24, k25, k26, k27, k28, hi, get_i hi, wr, this]; rfl
  · simp (disch := omega) only [obnd_s, obnd_n, oite_ss, oite_t, oite_f, ogrd_t, ogrd_f, obndS_l, obndS_r, ilt_eq, ile_eq, ieq_eq, imax_e, imin_e, k0, k1, k2, k3, k4, k5, k6, k7, k8, k9, reduceIte, k10, k11, k12, k13, k14, k15, k16, k17, k18, k19, k20, k21, k22, k23, k24, k25, k26, k27, k28, Int.lt_irrefl]
theorem f86_e {p : ByteArray → Int → Option Bool} {l : List (ByteArray × Int)} (q : ByteArray × Int → Bool) (hp : ∀ x, x ∈ l → p x.1 x.2 = some (q x)) (hl : l.length < 4611686018427387904) : f86 p l = some (l.any q) := by
  unfold f86
  rw [f110_e q hp hl]
  simp (disch := omega) only [obnd_s, obnd_n, oite_ss, oite_t, oite_f, ogrd_t, ogrd_f, obndS_l, obndS_r, ilt_eq, ile_eq, ieq_eq, imax_e, imin_e, k0, k1, k2, k3, k4, k5, k6, k7, k8, k9, reduceIte, k10, k11, k12, k13, k14, k15, k16, k17, k18, k19, k20, k21, k22, k23, k24, k25, k26, k27, k28, findI_any]
theorem f92_e {l : List (ByteArray × Int)} (s : ByteArray) (hl : l.length < 4611686018427387904) : f92 l s = some (findI (fun x => x.1.toList == s.toList) l) := by
  unfold f92
  rw [oloop_scanB (fun i => (i : Int)) l.length (fun i => (l.getD i (⟨#[]⟩, 0)).1.toList == s.toList) (fun i => .inr (i : Int)) (d := .inl ()) (e0 := 0) rfl ?_ ?_, scan_find (fun x => x.1.toList == s.toList) _ _ l.length l 0 (by omega)]
  · rw [List.drop_zero]; unfold findI
    cases l.findIdx? _ with
    | none => rfl
    | some i => simp [obndS_r]
  · intro i hi
    rw [getD_i hi]
    simp (disch := omega) only [obnd_s, obnd_n, oite_ss, oite_t, oite_f, ogrd_t, ogrd_f, obndS_l, obndS_r, ilt_eq, ile_eq, ieq_eq, imax_e, imin_e, k0, k1, k2, k3, k4, k5, k6, k7, k8, k9, reduceIte, k10, k11, k12, k13, k14, k15, k16, k17, k18, k19, k20, k21, k22, k23, k24, k25, k26, k27, k28, hi, get_i hi, wr]; rfl
  · simp (disch := omega) only [obnd_s, obnd_n, oite_ss, oite_t, oite_f, ogrd_t, ogrd_f, obndS_l, obndS_r, ilt_eq, ile_eq, ieq_eq, imax_e, imin_e, k0, k1, k2, k3, k4, k5, k6, k7, k8, k9, reduceIte, k10, k11, k12, k13, k14, k15, k16, k17, k18, k19, k20, k21, k22, k23, k24, k25, k26, k27, k28, Int.lt_irrefl]
theorem oslH_n {α : Type} {l : List α} {i : Nat} (h : i ≤ l.length) : oslH l (i : Int) = some (l.take i) := by
  unfold oslH; rw [if_pos (by omega)]; rfl

/-! ### Rules -/
def gi (L : List Int) (i : Nat) : Int := L.getD i 0
theorem get_gi {l : List Int} {i : Nat} (h : i < l.length) : l[i]? = some (gi l i) := by unfold gi; rw [getD_i h, List.getElem?_eq_getElem h]
def thr (n : Int) : Bool := decide (1 ≤ n) && decide (n ≤ 1000000)
def stepE (U D : List Int) (i : Nat) : Int := bif !(thr (gi U i) && thr (gi D i)) then 2 else bif decide (gi U i < gi D i) then 3 else bif decide (0 < i) && (decide (gi U i ≤ gi U (i - 1)) || decide (gi D i < gi D (i - 1))) then 9 else 0
def gp (P : List (ByteArray × Int)) (i : Nat) : ByteArray × Int := P.getD i (⟨#[]⟩, 0)
theorem get_gp {P : List (ByteArray × Int)} {i : Nat} (h : i < P.length) : P[i]? = some (gp P i) := by unfold gp; rw [getD_i h, List.getElem?_eq_getElem h]
def knownP (P : List (ByteArray × Int)) (i : Nat) : Bool := (P.take i).any fun x => x.1.toList == (gp P i).1.toList
def persE (n : Nat) (P : List (ByteArray × Int)) (i : Nat) : Int := bif !nameB (gp P i).1 then 4 else bif knownP P i then 5 else bif !(decide (1 ≤ (gp P i).2) && decide ((gp P i).2 ≤ n)) then 2 else 0
/-- The first index with an error, and the error. -/
def errs (f : Nat → Int) (n : Nat) : Option (Int × Int) := scanF (fun i => bif !decide (f i = 0) then some ((i : Int), f i) else none) n 0
def ckR (U D : List Int) (H : Int) (P : List (ByteArray × Int)) : Int × Int :=
  bif decide (U.length = 0) || !decide (D.length = U.length) then (0, 10) else bif decide (5 < U.length) then (0, 8) else
  match errs (stepE U D) U.length with
  | some r => r
  | none => bif !(decide (0 ≤ H) && decide (H ≤ 1000000)) then (0, 2) else bif decide (10 < P.length) then (0, 8) else (errs (persE U.length P) P.length).getD (0, 0)
theorem errs_scan {σ : Type} (f : Nat → Int) (n : Nat) (k : Int × Int → σ) : scanF (fun i => bif !decide (f i = 0) then some (k ((i : Int), f i)) else none) n 0 = (errs f n).map k := by
  unfold errs; rw [← scanF_map]
  refine scanF_congr fun i _ _ => ?_
  cases (!decide (f i = 0)) <;> rfl
theorem fst3 (a b c : Int) : fstN [a, b, c] = if a = 0 then if b = 0 then c else b else a := by
  simp only [fstN]; repeat' split
  all_goals first | rfl | (symm; assumption) | (exfalso; omega) | omega
theorem fst2 (a b : Int) : fstN [a, b] = if a = 0 then b else a := by
  simp only [fstN]; repeat' split
  all_goals first | rfl | (symm; assumption) | (exfalso; omega) | omega
theorem f85_e (n : Int) : f85 n = some (thr n) := by unfold f85; simp (disch := omega) only [obnd_s, obnd_n, oite_ss, oite_t, oite_f, ogrd_t, ogrd_f, obndS_l, obndS_r, ilt_eq, ile_eq, ieq_eq, imax_e, imin_e, k0, k1, k2, k3, k4, k5, k6, k7, k8, k9, reduceIte, k10, k11, k12, k13, k14, k15, k16, k17, k18, k19, k20, k21, k22, k23, k24, k25, k26, k27, k28, f65_e]; rfl
theorem f46_e {U D : List Int} {H : Int} {P : List (ByteArray × Int)} (hU : U.length < 4611686018427387904) (hD : D.length < 4611686018427387904) (hP : P.length < 4611686018427387904) (hs : ∀ p, p ∈ P → p.1.size < 4611686018427387904) : f46 U D H P = some (ckR U D H P) := by
  unfold f46 ckR
  have e1 : decide (((U.length : Nat) : Int) = 0) = decide (U.length = 0) := ceq 0 _
  have e2 : decide (((D.length : Nat) : Int) = ((U.length : Nat) : Int)) = decide (D.length = U.length) := ceq _ _
  have e3 : decide ((5 : Int) < ((U.length : Nat) : Int)) = decide (5 < U.length) := by rw [Bool.eq_iff_iff, decide_eq_true_eq, decide_eq_true_eq]; omega
  have e4 : decide ((10 : Int) < ((P.length : Nat) : Int)) = decide (10 < P.length) := by rw [Bool.eq_iff_iff, decide_eq_true_eq, decide_eq_true_eq]; omega
  simp (disch := omega) only [obnd_s, obnd_n, oite_ss, oite_t, oite_f, ogrd_t, ogrd_f, obndS_l, obndS_r, ilt_eq, ile_eq, ieq_eq, imax_e, imin_e, k0, k1, k2, k3, k4, k5, k6, k7, k8, k9, reduceIte, k10, k11, k12, k13, k14, k15, k16, k17, k18, k19, k20, k21, k22, k23, k24, k25, k26, k27, k28, e1, e2, e3, e4]
  cases h1 : (decide (U.length = 0) || !decide (D.length = U.length)) with
  | true => rfl
  | false =>
    simp only [Bool.or_eq_false_iff, Bool.not_eq_false', decide_eq_true_eq, decide_eq_false_iff_not] at h1
    simp (disch := omega) only [obnd_s, obnd_n, oite_ss, oite_t, oite_f, ogrd_t, ogrd_f, obndS_l, obndS_r, ilt_eq, ile_eq, ieq_eq, imax_e, imin_e, k0, k1, k2, k3, k4, k5, k6, k7, k8, k9, reduceIte, k10, k11, k12, k13, k14, k15, k16, k17, k18, k19, k20, k21, k22, k23, k24, k25, k26, k27, k28]
    cases h2 : decide (5 < U.length) with
    | true => rfl
    | false =>
      simp (disch := omega) only [obnd_s, obnd_n, oite_ss, oite_t, oite_f, ogrd_t, ogrd_f, obndS_l, obndS_r, ilt_eq, ile_eq, ieq_eq, imax_e, imin_e, k0, k1, k2, k3, k4, k5, k6, k7, k8, k9, reduceIte, k10, k11, k12, k13, k14, k15, k16, k17, k18, k19, k20, k21, k22, k23, k24, k25, k26, k27, k28]
      rw [oloop_scanB (fun i => (i : Int)) U.length (fun i => !decide (stepE U D i = 0)) (fun i => .inr ((i : Int), stepE U D i)) (d := .inl ()) (e0 := 0) rfl ?_ ?_, errs_scan (stepE U D) U.length (Sum.inr : Int × Int → Unit ⊕ (Int × Int))]
      · cases errs (stepE U D) U.length with
        | some r => rfl
        | none =>
          simp (disch := omega) only [obnd_s, obnd_n, oite_ss, oite_t, oite_f, ogrd_t, ogrd_f, obndS_l, obndS_r, ilt_eq, ile_eq, ieq_eq, imax_e, imin_e, k0, k1, k2, k3, k4, k5, k6, k7, k8, k9, reduceIte, k10, k11, k12, k13, k14, k15, k16, k17, k18, k19, k20, k21, k22, k23, k24, k25, k26, k27, k28, Option.map_none, Option.getD_none, f15_e]
          cases (decide (0 ≤ H) && decide (H ≤ 1000000)) with
          | false => rfl
          | true =>
            simp (disch := omega) only [obnd_s, obnd_n, oite_ss, oite_t, oite_f, ogrd_t, ogrd_f, obndS_l, obndS_r, ilt_eq, ile_eq, ieq_eq, imax_e, imin_e, k0, k1, k2, k3, k4, k5, k6, k7, k8, k9, reduceIte, k10, k11, k12, k13, k14, k15, k16, k17, k18, k19, k20, k21, k22, k23, k24, k25, k26, k27, k28]
            cases decide (10 < P.length) with
            | true => rfl
            | false =>
              simp (disch := omega) only [obnd_s, obnd_n, oite_ss, oite_t, oite_f, ogrd_t, ogrd_f, obndS_l, obndS_r, ilt_eq, ile_eq, ieq_eq, imax_e, imin_e, k0, k1, k2, k3, k4, k5, k6, k7, k8, k9, reduceIte, k10, k11, k12, k13, k14, k15, k16, k17, k18, k19, k20, k21, k22, k23, k24, k25, k26, k27, k28]
              rw [oloop_scanB (fun i => (i : Int)) P.length (fun i => !decide (persE U.length P i = 0)) (fun i => .inr ((i : Int), persE U.length P i)) (d := .inl ()) (e0 := 0) rfl ?_ ?_, errs_scan (persE U.length P) P.length (Sum.inr : Int × Int → Unit ⊕ (Int × Int))]
              · cases errs (persE U.length P) P.length <;> rfl
              · intro i hi
                have hn := hs (gp P i) (by unfold gp; rw [getD_i hi]; exact List.getElem_mem hi)
                simp (disch := omega) only [obnd_s, obnd_n, oite_ss, oite_t, oite_f, ogrd_t, ogrd_f, obndS_l, obndS_r, ilt_eq, ile_eq, ieq_eq, imax_e, imin_e, k0, k1, k2, k3, k4, k5, k6, k7, k8, k9, reduceIte, k10, k11, k12, k13, k14, k15, k16, k17, k18, k19, k20, k21, k22, k23, k24, k25, k26, k27, k28, hi, get_gp hi, f91_e hn, oslH_n (Nat.le_of_lt hi), f92_e (l := P.take i) (gp P i).1 (by rw [List.length_take]; omega), findI_any, f15_e, wr]
                unfold persE
                rw [show (List.any (P.take i) fun x => x.1.toList == (gp P i).1.toList) = knownP P i from rfl]
                cases nameB (gp P i).1 <;> cases knownP P i <;> cases (decide (1 ≤ (gp P i).2) && decide ((gp P i).2 ≤ (U.length : Int))) <;> rfl
              · simp (disch := omega) only [obnd_s, obnd_n, oite_ss, oite_t, oite_f, ogrd_t, ogrd_f, obndS_l, obndS_r, ilt_eq, ile_eq, ieq_eq, imax_e, imin_e, k0, k1, k2, k3, k4, k5, k6, k7, k8, k9, reduceIte, k10, k11, k12, k13, k14, k15, k16, k17, k18, k19, k20, k21, k22, k23, k24, k25, k26, k27, k28, Int.lt_irrefl]
      · intro i hi
        have hD' : i < D.length := by omega
        simp (disch := omega) only [obnd_s, obnd_n, oite_ss, oite_t, oite_f, ogrd_t, ogrd_f, obndS_l, obndS_r, ilt_eq, ile_eq, ieq_eq, imax_e, imin_e, k0, k1, k2, k3, k4, k5, k6, k7, k8, k9, reduceIte, k10, k11, k12, k13, k14, k15, k16, k17, k18, k19, k20, k21, k22, k23, k24, k25, k26, k27, k28, hi, get_gi hi, get_gi hD', f15_e, wr]
        unfold stepE
        rw [show (decide (1 ≤ gi U i) && decide (gi U i ≤ 1000000)) = thr (gi U i) from rfl, show (decide (1 ≤ gi D i) && decide (gi D i ≤ 1000000)) = thr (gi D i) from rfl]
        rcases i with _ | j
        · cases thr (gi U 0) <;> cases thr (gi D 0) <;> cases decide (gi U 0 < gi D 0) <;> rfl
        · have hw : (((j + 1 : Nat) : Int) - 1) = (j : Int) := by omega
          simp (disch := omega) only [obnd_s, obnd_n, oite_ss, oite_t, oite_f, ogrd_t, ogrd_f, obndS_l, obndS_r, ilt_eq, ile_eq, ieq_eq, imax_e, imin_e, k0, k1, k2, k3, k4, k5, k6, k7, k8, k9, reduceIte, k10, k11, k12, k13, k14, k15, k16, k17, k18, k19, k20, k21, k22, k23, k24, k25, k26, k27, k28, hw, get_gi (show j < U.length by omega), get_gi (show j < D.length by omega), show (0 : Int) < ((j + 1 : Nat) : Int) by omega, Nat.zero_lt_succ, Nat.add_sub_cancel]
          cases thr (gi U (j + 1)) <;> cases thr (gi D (j + 1)) <;> cases decide (gi U (j + 1) < gi D (j + 1)) <;> cases decide (gi U (j + 1) ≤ gi U j) <;> cases decide (gi D (j + 1) < gi D j) <;> rfl
      · simp (disch := omega) only [obnd_s, obnd_n, oite_ss, oite_t, oite_f, ogrd_t, ogrd_f, obndS_l, obndS_r, ilt_eq, ile_eq, ieq_eq, imax_e, imin_e, k0, k1, k2, k3, k4, k5, k6, k7, k8, k9, reduceIte, k10, k11, k12, k13, k14, k15, k16, k17, k18, k19, k20, k21, k22, k23, k24, k25, k26, k27, k28, Int.lt_irrefl]
end
section
set_option linter.unusedSimpArgs false
set_option linter.unusedVariables false
open Go Go.RowKit

theorem f87_e (a : ByteArray) (b : Int) (c : ByteArray) (d : Int) : f87 a b c d = some (a.toList == c.toList) := rfl
theorem f63_3 (a b c : Int) : f63 [a, b, c] = some (fstN [a, b, c]) := f63_e (by simp)
theorem f63_2 (a b : Int) : f63 [a, b] = some (fstN [a, b]) := f63_e (by simp)
theorem f43_e {U D : List Int} {H : Int} {P : List (ByteArray × Int)} (hU : U.length < 4611686018427387904) (hD : D.length < 4611686018427387904) (hP : P.length < 4611686018427387904) (hs : ∀ p, p ∈ P → p.1.size < 4611686018427387904) : f43 U D H P = some (ckR U D H P) := by
  unfold f43 ckR
  have e1 : decide ((0 : Int) < ((U.length : Nat) : Int)) = !decide (U.length = 0) := by rw [← decide_not]; congr 1; exact propext (by omega)
  have e2 : decide (((D.length : Nat) : Int) = ((U.length : Nat) : Int)) = decide (D.length = U.length) := ceq _ _
  have e3 : decide (((U.length : Nat) : Int) ≤ 5) = !decide (5 < U.length) := by rw [← decide_not]; congr 1; exact propext (by omega)
  have e4 : decide (((P.length : Nat) : Int) ≤ 10) = !decide (10 < P.length) := by rw [← decide_not]; congr 1; exact propext (by omega)
  simp (disch := omega) only [obnd_s, obnd_n, oite_ss, oite_t, oite_f, ogrd_t, ogrd_f, obndS_l, obndS_r, ilt_eq, ile_eq, ieq_eq, imax_e, imin_e, k0, k1, k2, k3, k4, k5, k6, k7, k8, k9, reduceIte, k10, k11, k12, k13, k14, k15, k16, k17, k18, k19, k20, k21, k22, k23, k24, k25, k26, k27, k28, e1, e2, e3, e4, f64_e, f63_2, fst2]
  cases h1 : (decide (U.length = 0) || !decide (D.length = U.length)) with
  | true =>
    simp only [Bool.or_eq_true] at h1
    rcases h1 with h1 | h1
    · rw [h1]; rfl
    · have : decide (D.length = U.length) = false := by simpa using h1
      rw [this]; cases decide (U.length = 0) <;> rfl
  | false =>
    simp only [Bool.or_eq_false_iff, Bool.not_eq_false', decide_eq_true_eq, decide_eq_false_iff_not] at h1
    rw [show decide (U.length = 0) = false by simpa using h1.1, show decide (D.length = U.length) = true by simpa using h1.2]
    cases h2 : decide (5 < U.length) with
    | true => rfl
    | false =>
      simp (disch := omega) only [obnd_s, obnd_n, oite_ss, oite_t, oite_f, ogrd_t, ogrd_f, obndS_l, obndS_r, ilt_eq, ile_eq, ieq_eq, imax_e, imin_e, k0, k1, k2, k3, k4, k5, k6, k7, k8, k9, reduceIte, k10, k11, k12, k13, k14, k15, k16, k17, k18, k19, k20, k21, k22, k23, k24, k25, k26, k27, k28]
      rw [oloop_scanB (fun i => (i : Int)) U.length (fun i => !decide (stepE U D i = 0)) (fun i => .inr ((i : Int), stepE U D i)) (d := .inl ()) (e0 := 0) rfl ?_ ?_, errs_scan (stepE U D) U.length (Sum.inr : Int × Int → Unit ⊕ (Int × Int))]
      · cases errs (stepE U D) U.length with
        | some r => rfl
        | none =>
          simp (disch := omega) only [obnd_s, obnd_n, oite_ss, oite_t, oite_f, ogrd_t, ogrd_f, obndS_l, obndS_r, ilt_eq, ile_eq, ieq_eq, imax_e, imin_e, k0, k1, k2, k3, k4, k5, k6, k7, k8, k9, reduceIte, k10, k11, k12, k13, k14, k15, k16, k17, k18, k19, k20, k21, k22, k23, k24, k25, k26, k27, k28, Option.map_none, Option.getD_none, f65_e]
          cases (decide (0 ≤ H) && decide (H ≤ 1000000)) with
          | false => rfl
          | true =>
            simp (disch := omega) only [obnd_s, obnd_n, oite_ss, oite_t, oite_f, ogrd_t, ogrd_f, obndS_l, obndS_r, ilt_eq, ile_eq, ieq_eq, imax_e, imin_e, k0, k1, k2, k3, k4, k5, k6, k7, k8, k9, reduceIte, k10, k11, k12, k13, k14, k15, k16, k17, k18, k19, k20, k21, k22, k23, k24, k25, k26, k27, k28]
            cases decide (10 < P.length) with
            | true => rfl
            | false =>
              simp (disch := omega) only [obnd_s, obnd_n, oite_ss, oite_t, oite_f, ogrd_t, ogrd_f, obndS_l, obndS_r, ilt_eq, ile_eq, ieq_eq, imax_e, imin_e, k0, k1, k2, k3, k4, k5, k6, k7, k8, k9, reduceIte, k10, k11, k12, k13, k14, k15, k16, k17, k18, k19, k20, k21, k22, k23, k24, k25, k26, k27, k28]
              rw [oloop_scanB (fun i => (i : Int)) P.length (fun i => !decide (persE U.length P i = 0)) (fun i => .inr ((i : Int), persE U.length P i)) (d := .inl ()) (e0 := 0) rfl ?_ ?_, errs_scan (persE U.length P) P.length (Sum.inr : Int × Int → Unit ⊕ (Int × Int))]
              · cases errs (persE U.length P) P.length <;> rfl
              · intro i hi
                have hn := hs (gp P i) (by unfold gp; rw [getD_i hi]; exact List.getElem_mem hi)
                simp (disch := omega) only [obnd_s, obnd_n, oite_ss, oite_t, oite_f, ogrd_t, ogrd_f, obndS_l, obndS_r, ilt_eq, ile_eq, ieq_eq, imax_e, imin_e, k0, k1, k2, k3, k4, k5, k6, k7, k8, k9, reduceIte, k10, k11, k12, k13, k14, k15, k16, k17, k18, k19, k20, k21, k22, k23, k24, k25, k26, k27, k28, hi, get_gp hi, f88_e hn, oslH_n (Nat.le_of_lt hi), f86_e (p := fun z0 z1 => f87 z0 z1 (gp P i).1 (gp P i).2) (l := P.take i) (fun x => x.1.toList == (gp P i).1.toList) (fun _ _ => f87_e _ _ _ _) (by rw [List.length_take]; omega), f65_e, f63_3, fst3, wr]
                unfold persE
                rw [show (List.any (P.take i) fun x => x.1.toList == (gp P i).1.toList) = knownP P i from rfl]
                cases nameB (gp P i).1 <;> cases knownP P i <;> cases (decide (1 ≤ (gp P i).2) && decide ((gp P i).2 ≤ (U.length : Int))) <;> rfl
              · simp (disch := omega) only [obnd_s, obnd_n, oite_ss, oite_t, oite_f, ogrd_t, ogrd_f, obndS_l, obndS_r, ilt_eq, ile_eq, ieq_eq, imax_e, imin_e, k0, k1, k2, k3, k4, k5, k6, k7, k8, k9, reduceIte, k10, k11, k12, k13, k14, k15, k16, k17, k18, k19, k20, k21, k22, k23, k24, k25, k26, k27, k28, Int.lt_irrefl]
      · intro i hi
        have hD' : i < D.length := by omega
        rcases i with _ | j
        · simp (disch := omega) only [obnd_s, obnd_n, oite_ss, oite_t, oite_f, ogrd_t, ogrd_f, obndS_l, obndS_r, ilt_eq, ile_eq, ieq_eq, imax_e, imin_e, k0, k1, k2, k3, k4, k5, k6, k7, k8, k9, reduceIte, k10, k11, k12, k13, k14, k15, k16, k17, k18, k19, k20, k21, k22, k23, k24, k25, k26, k27, k28, hi, get_gi hi, get_gi hD', f85_e, f63_3, fst3, wr, show decide (((0 : Nat) : Int) = 0) = true from rfl]
          unfold stepE
          have e5 : decide (gi D 0 ≤ gi U 0) = !decide (gi U 0 < gi D 0) := by rw [← decide_not]; congr 1; exact propext (by omega)
          rw [e5]
          cases thr (gi U 0) <;> cases thr (gi D 0) <;> cases decide (gi U 0 < gi D 0) <;> rfl
        · have hw : (((j + 1 : Nat) : Int) - 1) = (j : Int) := by omega
          have hm : max 0 (j : Int) = (j : Int) := by omega
          have e6 : decide (((j + 1 : Nat) : Int) = 0) = false := by simp; omega
          simp (disch := omega) only [obnd_s, obnd_n, oite_ss, oite_t, oite_f, ogrd_t, ogrd_f, obndS_l, obndS_r, ilt_eq, ile_eq, ieq_eq, imax_e, imin_e, k0, k1, k2, k3, k4, k5, k6, k7, k8, k9, reduceIte, k10, k11, k12, k13, k14, k15, k16, k17, k18, k19, k20, k21, k22, k23, k24, k25, k26, k27, k28, hi, get_gi hi, get_gi hD', f85_e, f63_3, fst3, wr, e6, hw, hm, get_gi (show j < U.length by omega), get_gi (show j < D.length by omega)]
          unfold stepE
          have e5 : decide (gi D (j + 1) ≤ gi U (j + 1)) = !decide (gi U (j + 1) < gi D (j + 1)) := by rw [← decide_not]; congr 1; exact propext (by omega)
          have e7 : decide (gi U j < gi U (j + 1)) = !decide (gi U (j + 1) ≤ gi U j) := by rw [← decide_not]; congr 1; exact propext (by omega)
          have e8 : decide (gi D j ≤ gi D (j + 1)) = !decide (gi D (j + 1) < gi D j) := by rw [← decide_not]; congr 1; exact propext (by omega)
          rw [e5, e7, e8]
          simp (disch := omega) only [obnd_s, obnd_n, oite_ss, oite_t, oite_f, ogrd_t, ogrd_f, obndS_l, obndS_r, ilt_eq, ile_eq, ieq_eq, imax_e, imin_e, k0, k1, k2, k3, k4, k5, k6, k7, k8, k9, reduceIte, k10, k11, k12, k13, k14, k15, k16, k17, k18, k19, k20, k21, k22, k23, k24, k25, k26, k27, k28, Nat.zero_lt_succ, Nat.add_sub_cancel]
          cases thr (gi U (j + 1)) <;> cases thr (gi D (j + 1)) <;> cases decide (gi U (j + 1) < gi D (j + 1)) <;> cases decide (gi U (j + 1) ≤ gi U j) <;> cases decide (gi D (j + 1) < gi D j) <;> rfl
      · simp (disch := omega) only [obnd_s, obnd_n, oite_ss, oite_t, oite_f, ogrd_t, ogrd_f, obndS_l, obndS_r, ilt_eq, ile_eq, ieq_eq, imax_e, imin_e, k0, k1, k2, k3, k4, k5, k6, k7, k8, k9, reduceIte, k10, k11, k12, k13, k14, k15, k16, k17, k18, k19, k20, k21, k22, k23, k24, k25, k26, k27, k28, Int.lt_irrefl]
end
section
set_option linter.unusedSimpArgs false
set_option linter.unusedVariables false
open Go Go.RowKit

def glue (p : List UInt8) : List (List UInt8) → List (List UInt8)
  | [] => [p]
  | h :: t => (p ++ h) :: t
/-- The parts between the bytes c. -/
def spl (c : UInt8) : List UInt8 → List (List UInt8)
  | [] => [[]]
  | x :: r => if x = c then [] :: spl c r else glue [x] (spl c r)
def mkB (l : List UInt8) : ByteArray := ⟨⟨l⟩⟩

theorem splitK_spl (c : UInt8) : ∀ (l : List UInt8), Lib.splitK [c] 0 (Lib.count l [c]) l = spl c l
  | [] => by rw [Lib.count_miss (by simp [Lib.index])]; rfl
  | x :: r => by
    have ih := splitK_spl c r
    by_cases h : x = c
    · subst h
      have hix : Lib.index (x :: r) [x] = ((0 : Nat) : Int) := by rw [Lib.index]; simp [List.isPrefixOf]
      rw [Lib.count_cons_eq, Nat.add_comm, Lib.splitK, hix]
      simp only [spl, if_true]
      rw [← ih]; simp
    · rw [Lib.count_cons_ne x c r h]
      simp only [spl, if_neg h]
      rw [← ih]
      have hp : ([c] : List UInt8).isPrefixOf (x :: r) = false := by simp [List.isPrefixOf, Ne.symm h]
      have hix : Lib.index (x :: r) [c] = if Lib.index r [c] == -1 then -1 else Lib.index r [c] + 1 := by rw [Lib.index, hp]; simp
      cases hk : Lib.count r [c] with
      | zero => rfl
      | succ k =>
        have hne : Lib.index r [c] ≠ -1 := fun e => by rw [Lib.count_miss e] at hk; cases hk
        have hge := Lib.index_ge r [c]
        obtain ⟨j, hj⟩ : ∃ j : Nat, Lib.index r [c] = j := ⟨(Lib.index r [c]).toNat, by omega⟩
        have hix' : Lib.index (x :: r) [c] = ((j + 1 : Nat) : Int) := by rw [hix, if_neg (fun e => hne (beq_iff_eq.1 e)), hj]; omega
        simp only [Lib.splitK, hix', hj]
        have e1 : ((((j + 1 : Nat) : Int)) == -1) = false := by simp; omega
        have e2 : (((j : Int)) == -1) = false := by simp
        simp only [e1, e2, Bool.false_eq_true, if_false, glue]
        simp
theorem splitB_spl (c : UInt8) (s : ByteArray) : Lib.splitB ⟨#[c]⟩ 0 (Lib.countB s ⟨#[c]⟩) s = (spl c s.data.toList).map mkB := by
  have h := Lib.splitB_data ⟨#[c]⟩ 0 (Lib.countB s ⟨#[c]⟩) s
  have h2 : Lib.countB s ⟨#[c]⟩ = Lib.count s.data.toList [c] := rfl
  rw [h2] at h ⊢
  rw [show (⟨#[c]⟩ : ByteArray).data.toList = [c] from rfl, splitK_spl] at h
  rw [← h, List.map_map]
  conv => lhs; rw [← List.map_id (Lib.splitB _ _ _ _)]
  apply List.map_congr_left
  intro x _
  rfl
theorem f382_e {s : ByteArray} {c : UInt8} (hs : s.size < 4294967281) : f382 s ⟨#[c]⟩ = some ((spl c s.data.toList).map mkB) := by
  unfold f382
  rw [decide_eq_true ⟨hs, Nat.le_refl _⟩, ogrd_t, splitB_spl]

theorem spl_ne (c : UInt8) : ∀ l, spl c l ≠ []
  | [] => by simp [spl]
  | x :: r => by
    simp only [spl]
    split
    · simp
    · cases spl c r <;> simp [glue]


/-- The parts so far, and where the present one begins. -/
def stC (c : UInt8) (l : List UInt8) : Nat → List (List UInt8) × Nat
  | 0 => ([], 0)
  | i + 1 => if l[i]? = some c then ((stC c l i).1 ++ [(l.drop (stC c l i).2).take (i - (stC c l i).2)], i + 1) else stC c l i
theorem stC_le (c : UInt8) (l : List UInt8) : ∀ i, (stC c l i).2 ≤ i ∧ (stC c l i).1.length ≤ i
  | 0 => ⟨Nat.le_refl _, Nat.le_refl _⟩
  | i + 1 => by
    have := stC_le c l i
    simp only [stC]
    split
    · exact ⟨Nat.le_refl _, by simp; omega⟩
    · omega
theorem glue_app (p q : List UInt8) (t : List (List UInt8)) : glue p (glue q t) = glue (p ++ q) t := by
  cases t <;> simp [glue]
theorem stC_spl (c : UInt8) (l : List UInt8) : ∀ i, i ≤ l.length → spl c l = (stC c l i).1 ++ glue ((l.take i).drop (stC c l i).2) (spl c (l.drop i))
  | 0, _ => by
    simp only [stC, List.take_zero, List.drop_nil, List.drop_zero, List.nil_append]
    cases l with
    | nil => rfl
    | cons x r =>
      simp only [spl]
      split
      · rfl
      · cases spl c r <;> rfl
  | i + 1, hi => by
    have ih := stC_spl c l i (by omega)
    have hle := (stC_le c l i).1
    have hd : l.drop i = l[i] :: l.drop (i + 1) := List.drop_eq_getElem_cons (by omega)
    have hx : l[i]? = some l[i] := List.getElem?_eq_getElem (by omega)
    rw [ih, hd]
    simp only [stC, hx, Option.some.injEq, spl]
    by_cases h : l[i] = c
    · rw [if_pos h, if_pos h]
      simp only [glue, List.append_nil]
      have e1 : (l.take (i + 1)).drop (i + 1) = [] := List.drop_eq_nil_of_le (by simp; omega)
      have e2 : (l.take i).drop (stC c l i).2 = (l.drop (stC c l i).2).take (i - (stC c l i).2) := by rw [List.drop_take]
      rw [e1, e2]
      cases he : spl c (l.drop (i + 1)) with
      | nil => exact absurd he (spl_ne _ _)
      | cons a b => simp
    · rw [if_neg h, if_neg h, glue_app]
      congr 2
      rw [List.take_succ_eq_append_getElem (by omega), List.drop_append_of_le_length (by simp; omega)]

theorem f386_e {s : ByteArray} {c : UInt8} {k : Int} (hk : k = (c.toNat : Int)) (hs : s.size ≤ 1000) : f386 s k = some ((spl c s.data.toList).map mkB) := by
  subst hk
  have hl : s.data.toList.length = s.size := by rw [Array.length_toList]; rfl
  generalize hL : s.data.toList = L at hl
  unfold f386
  rw [hL, ← hl]
  rw [oloop_all (fun i => ((stC c L i).1.map mkB, (((stC c L i).2 : Nat) : Int), (i : Int))) L.length (r := ((stC c L L.length).1.map mkB, (((stC c L L.length).2 : Nat) : Int))) (e0 := (([] : List ByteArray), (0 : Int), (0 : Int))) rfl ?_ ?_]
  · have h1 := stC_le c L L.length
    have h2 := stC_spl c L L.length (Nat.le_refl _)
    rw [List.take_length, List.drop_length, show spl c [] = [[]] from rfl] at h2
    simp (disch := omega) only [obnd_s, obnd_n, oite_ss, oite_t, oite_f, ogrd_t, ogrd_f, obndS_l, obndS_r, ilt_eq, ile_eq, ieq_eq, imax_e, imin_e, k0, k1, k2, k3, k4, k5, k6, k7, k8, k9, reduceIte, k10, k11, k12, k13, k14, k15, k16, k17, k18, k19, k20, k21, k22, k23, k24, k25, k26, k27, k28, h1.1]
    rw [ogrd_fits (by simp; omega) (by simp; omega), h2]
    simp [glue, mkB]
  · intro i hi
    have h1 := stC_le c L i
    have h3 : (stC c L i).1.length + 1 ≤ 1001 := by omega
    simp (disch := omega) only [obnd_s, obnd_n, oite_ss, oite_t, oite_f, ogrd_t, ogrd_f, obndS_l, obndS_r, ilt_eq, ile_eq, ieq_eq, imax_e, imin_e, k0, k1, k2, k3, k4, k5, k6, k7, k8, k9, reduceIte, k10, k11, k12, k13, k14, k15, k16, k17, k18, k19, k20, k21, k22, k23, k24, k25, k26, k27, k28, hi, get_i hi, wr, h1.1]
    by_cases h : L[i] = c
    · have h2 : ((L[i].toNat : Int) = (c.toNat : Int)) := by rw [h]
      simp only [stC, get_i hi, h, if_true]
      simp (disch := omega) only [obnd_s, obnd_n, oite_ss, oite_t, oite_f, ogrd_t, ogrd_f, obndS_l, obndS_r, ilt_eq, ile_eq, ieq_eq, imax_e, imin_e, k0, k1, k2, k3, k4, k5, k6, k7, k8, k9, reduceIte, k10, k11, k12, k13, k14, k15, k16, k17, k18, k19, k20, k21, k22, k23, k24, k25, k26, k27, k28, h1.1, Nat.le_of_lt hi]
      rw [ogrd_fits (by simp; omega) (by simp; omega)]
      simp [mkB]
    · have h2 : ¬ ((L[i].toNat : Int) = (c.toNat : Int)) := fun e => h (UInt8.toNat_inj.1 (by omega))
      simp only [stC, get_i hi, Option.some.injEq, if_neg h]
      simp (disch := omega) only [obnd_s, obnd_n, oite_ss, oite_t, oite_f, ogrd_t, ogrd_f, obndS_l, obndS_r, ilt_eq, ile_eq, ieq_eq, imax_e, imin_e, k0, k1, k2, k3, k4, k5, k6, k7, k8, k9, reduceIte, k10, k11, k12, k13, k14, k15, k16, k17, k18, k19, k20, k21, k22, k23, k24, k25, k26, k27, k28, h2]
      simp
  · simp (disch := omega) only [obnd_s, obnd_n, oite_ss, oite_t, oite_f, ogrd_t, ogrd_f, obndS_l, obndS_r, ilt_eq, ile_eq, ieq_eq, imax_e, imin_e, k0, k1, k2, k3, k4, k5, k6, k7, k8, k9, reduceIte, k10, k11, k12, k13, k14, k15, k16, k17, k18, k19, k20, k21, k22, k23, k24, k25, k26, k27, k28, Int.lt_irrefl]
end
section
set_option linter.unusedSimpArgs false
set_option linter.unusedVariables false
open Go Go.RowKit

def isDg (x : UInt8) : Bool := decide (48 ≤ x.toNat ∧ x.toNat ≤ 57)
def vstep (a : Nat) (x : UInt8) : Nat := 10 * a + (x.toNat - 48)
def val (l : List UInt8) : Nat := l.foldl vstep 0
/-- A numeral without a sign. -/
def canon (m : List UInt8) : Prop := m ≠ [] ∧ (∀ x, x ∈ m → isDg x = true) ∧ (m.head? = some 48 → m.length = 1)

theorem isDg_of {d : Nat} (h : d < 10) : isDg (UInt8.ofNat (48 + d)) = true ∧ (UInt8.ofNat (48 + d)).toNat = 48 + d := by
  have : (UInt8.ofNat (48 + d)).toNat = 48 + d := by rw [UInt8.toNat_ofNat']; omega
  exact ⟨by unfold isDg; rw [this]; simp; omega, this⟩
theorem dg_of {x : UInt8} (h : isDg x = true) : UInt8.ofNat (48 + (x.toNat - 48)) = x ∧ x.toNat - 48 < 10 := by
  have := of_decide_eq_true h
  refine ⟨?_, by omega⟩
  apply UInt8.toNat_inj.1
  rw [UInt8.toNat_ofNat']; omega
theorem val_snoc (p : List UInt8) (x : UInt8) : val (p ++ [x]) = vstep (val p) x := by simp [val]

theorem digs_head : ∀ (u : Nat), 0 < u → (Lib.decDigits u).head? ≠ some 48
  | u, h => by
    rw [Lib.decDigits]
    by_cases h1 : u < 10
    · rw [dif_pos h1]
      intro e
      simp only [List.head?_cons, Option.some.injEq] at e
      have := (isDg_of h1).2
      rw [e] at this
      have h2 : (48 : UInt8).toNat = 48 := rfl
      omega
    · rw [dif_neg h1]
      have ih := digs_head (u / 10) (by omega)
      intro e
      rw [List.head?_append] at e
      cases hh : (Lib.decDigits (u / 10)).head? with
      | none =>
        rw [List.head?_eq_none_iff] at hh
        have h3 := Lib.decDigits_length (u / 10)
        have h4 := Lib.nDigits_pos (u / 10)
        rw [hh] at h3
        simp at h3; omega
      | some y =>
        rw [hh] at e
        simp only [Option.some_or, Option.some.injEq] at e
        exact ih (by rw [hh, e])
theorem digs_ne (u : Nat) : Lib.decDigits u ≠ [] := fun e => by
  have h3 := Lib.decDigits_length u
  have h4 := Lib.nDigits_pos u
  rw [e] at h3
  simp at h3; omega
theorem digs_dg : ∀ (u : Nat) (x : UInt8), x ∈ Lib.decDigits u → isDg x = true
  | u, x, h => by
    rw [Lib.decDigits] at h
    by_cases h1 : u < 10
    · rw [dif_pos h1] at h
      simp only [List.mem_cons, List.not_mem_nil, or_false] at h
      subst h; exact (isDg_of h1).1
    · rw [dif_neg h1] at h
      rcases List.mem_append.1 h with h | h
      · exact digs_dg (u / 10) x h
      · simp only [List.mem_cons, List.not_mem_nil, or_false] at h
        subst h; exact (isDg_of (by omega)).1
theorem digs_val (u : Nat) : val (Lib.decDigits u) = u := by
  induction u using Nat.strongRecOn with
  | _ u ih =>
    rw [Lib.decDigits]
    by_cases h1 : u < 10
    · rw [dif_pos h1]
      have h := (isDg_of h1).2
      show vstep 0 (UInt8.ofNat (48 + u)) = u
      unfold vstep; omega
    · rw [dif_neg h1, val_snoc, ih (u / 10) (by omega)]
      have h := (isDg_of (show u % 10 < 10 by omega)).2
      unfold vstep; omega
theorem digs_canon (u : Nat) : canon (Lib.decDigits u) := ⟨digs_ne u, digs_dg u, fun h => by
  rcases Nat.eq_zero_or_pos u with rfl | h0
  · rw [Lib.decDigits, dif_pos (by omega)]; rfl
  · exact absurd h (digs_head u h0)⟩
theorem canon_digs (m : List UInt8) : canon m → Lib.decDigits (val m) = m := by
  induction h : m.length using Nat.strongRecOn generalizing m with
  | _ n ih =>
    intro hc
    obtain ⟨h1, h2, h3⟩ := hc
    rcases List.eq_nil_or_concat m with rfl | ⟨p, x, rfl⟩
    · exact absurd rfl h1
    · rw [List.concat_eq_append] at *
      have hx := h2 x (by simp)
      have ⟨hx1, hx2⟩ := dg_of hx
      by_cases hp : p = []
      · subst hp
        rw [List.nil_append]
        have : val [x] = x.toNat - 48 := by simp [val, vstep]
        rw [this, Lib.decDigits, dif_pos hx2, hx1]
      · have hhd : (p ++ [x]).head? = p.head? := by
          cases p with
          | nil => exact absurd rfl hp
          | cons a b => rfl
        have hnz : p.head? ≠ some 48 := fun e => by
          have := h3 (by rw [hhd]; exact e)
          simp at this; exact hp this
        have hcp : canon p := ⟨hp, fun y hy => h2 y (by simp [hy]), fun e => absurd e hnz⟩
        have hi := ih p.length (by rw [← h]; simp) p rfl hcp
        have hpos : 0 < val p := Nat.pos_of_ne_zero fun e => by
          rw [e, Lib.decDigits, dif_pos (by omega)] at hi
          rw [← hi] at hnz; exact hnz rfl
        rw [val_snoc]
        have hv : ¬ vstep (val p) x < 10 := by unfold vstep; omega
        rw [Lib.decDigits, dif_neg hv]
        have e1 : vstep (val p) x / 10 = val p := by unfold vstep; omega
        have e2 : vstep (val p) x % 10 = x.toNat - 48 := by unfold vstep; omega
        rw [e1, e2, hi, hx1]

/-- The number that a numeral spells. -/
def numeral (l : List UInt8) (v : Int) : Prop := l = Lib.itoa v
theorem itoa_pos (u : Nat) : Lib.itoa (u : Int) = Lib.decDigits u := by unfold Lib.itoa; rw [if_neg (by omega)]; simp
theorem itoa_neg {v : Int} (h : v < 0) : Lib.itoa v = 45 :: Lib.decDigits v.natAbs := by unfold Lib.itoa; rw [if_pos h]
theorem itoa_nn {v : Int} (h : ¬ v < 0) : Lib.itoa v = Lib.decDigits v.natAbs := by unfold Lib.itoa; rw [if_neg h]; congr 1; omega
theorem dg45 : isDg 45 = false := by decide
theorem digs_45 (u : Nat) : (Lib.decDigits u).head? ≠ some 45 := fun e => by
  have := digs_dg u 45 (List.mem_of_mem_head? e)
  rw [dg45] at this; cases this
theorem itoa_trim (v : Int) : Lib.trimPrefix (Lib.itoa v) [45] = Lib.decDigits v.natAbs := by
  unfold Lib.trimPrefix
  by_cases h : v < 0
  · rw [itoa_neg h]; rfl
  · rw [itoa_nn h]
    have : Lib.hasPrefix (Lib.decDigits v.natAbs) [45] = false := by
      have := digs_45 v.natAbs
      cases hd : Lib.decDigits v.natAbs with
      | nil => rfl
      | cons a b =>
        rw [hd] at this
        simp only [List.head?_cons, ne_eq, Option.some.injEq] at this
        simp [Lib.hasPrefix, List.isPrefixOf, this, Ne.symm this]
    rw [this]; rfl
theorem vstep_le (l : List UInt8) : ∀ a, a ≤ l.foldl vstep a := by
  induction l with
  | nil => intro a; exact Nat.le_refl _
  | cons x r ih => intro a; exact Nat.le_trans (by unfold vstep; omega) (ih _)
theorem parse_ok : ∀ (l : List UInt8) (a : Nat), (∀ x, x ∈ l → isDg x = true) → l.foldl vstep a < 1000000000000000000 → Lib.parseUint10 a l = .ok (l.foldl vstep a)
  | [], a, _, _ => rfl
  | x :: r, a, h, hv => by
    have hx := of_decide_eq_true (h x (by simp))
    have h1 := vstep_le r (vstep a x)
    simp only [List.foldl_cons] at hv ⊢
    have h2 : vstep a x = a * 10 + (x.toNat - 48) := by unfold vstep; omega
    unfold Lib.parseUint10
    rw [if_pos hx, if_neg (by omega), if_neg (by omega), ← h2]
    exact parse_ok r _ (fun y hy => h y (by simp [hy])) hv
theorem atoi_itoa {v : Int} (h : v.natAbs < 1000000000000000000) : Lib.atoiAll (Lib.itoa v) = .ok v := by
  have hp : Lib.parseMag (Lib.decDigits v.natAbs) = .ok v.natAbs := by
    unfold Lib.parseMag
    rw [if_neg (digs_ne _)]
    have h1 := digs_val v.natAbs
    unfold val at h1
    have := parse_ok (Lib.decDigits v.natAbs) 0 (digs_dg _) (by omega)
    rw [h1] at this; exact this
  by_cases h0 : v < 0
  · rw [itoa_neg h0, Lib.atoiAll_minus, hp]
    show (if 9223372036854775808 < v.natAbs then Lib.NumEnd.range else .ok (-(v.natAbs : Int))) = .ok v
    rw [if_neg (by omega)]; congr 1; omega
  · rw [itoa_nn h0]
    cases hd : Lib.decDigits v.natAbs with
    | nil => exact absurd hd (digs_ne _)
    | cons c r =>
      have hc := of_decide_eq_true (digs_dg v.natAbs c (by rw [hd]; simp))
      rw [Lib.atoiAll_plain c r (by omega) (by omega), ← hd, hp]
      show (if 9223372036854775808 ≤ v.natAbs then Lib.NumEnd.range else .ok (v.natAbs : Int)) = .ok v
      rw [if_neg (by omega)]; congr 1; omega
end
section
set_option linter.unusedSimpArgs false
set_option linter.unusedVariables false
open Go Go.RowKit

theorem val_le (l : List UInt8) : ∀ a, l.foldl vstep a + 23 ≤ (a + 23) * 10 ^ l.length := by
  induction l with
  | nil => intro a; simp
  | cons x r ih =>
    intro a
    have h1 := ih (vstep a x)
    have h2 : vstep a x + 23 ≤ (a + 23) * 10 := by have := UInt8.toNat_lt x; unfold vstep; omega
    have h3 := Nat.mul_le_mul_right (10 ^ r.length) h2
    simp only [List.foldl_cons, List.length_cons, Nat.pow_succ]
    rw [Nat.mul_assoc, Nat.mul_comm 10] at h3
    omega
theorem val_lt {l : List UInt8} (h : l.length ≤ 7) : val l < 1000000000 := by
  have := val_le l 0
  have h2 : 10 ^ l.length ≤ 10 ^ 7 := Nat.pow_le_pow_right (by omega) h
  unfold val; omega
theorem val_take {l : List UInt8} {i : Nat} (h : i < l.length) : val (l.take (i + 1)) = vstep (val (l.take i)) l[i] := by
  rw [List.take_succ_eq_append_getElem h, val_snoc]
theorem nd_dec (x : UInt8) : (decide ((x.toNat : Int) < 48) || decide (57 < (x.toNat : Int))) = !isDg x := by
  unfold isDg
  by_cases h1 : x.toNat < 48
  · have : ¬ (48 ≤ x.toNat ∧ x.toNat ≤ 57) := by omega
    have h2 : (x.toNat : Int) < 48 := by omega
    simp [this, h2]
  · by_cases h2 : 57 < x.toNat
    · have : ¬ (48 ≤ x.toNat ∧ x.toNat ≤ 57) := by omega
      have h3 : (57 : Int) < x.toNat := by omega
      simp [this, h3]
    · have : (48 ≤ x.toNat ∧ x.toNat ≤ 57) := by omega
      have h3 : ¬ (57 : Int) < x.toNat := by omega
      have h4 : ¬ (x.toNat : Int) < 48 := by omega
      simp [this, h3, h4]
theorem scanF_c {ρ : Type} {b : Nat → Bool} {r : ρ} : ∀ {n i : Nat}, (∃ k, i ≤ k ∧ k < i + n ∧ b k = true) → scanF (fun i => bif b i then some r else none) n i = some r
  | 0, i, ⟨k, h1, h2, _⟩ => by omega
  | n + 1, i, ⟨k, h1, h2, h3⟩ => by
    simp only [scanF]
    cases hb : b i with
    | true => rfl
    | false =>
      simp only [cond_false]
      rcases Nat.eq_or_lt_of_le h1 with rfl | h4
      · rw [hb] at h3; cases h3
      · exact scanF_c ⟨k, by omega, by omega, h3⟩

theorem num_loop {L : List UInt8} {k : Nat} (hk : k ≤ L.length) (hm : (L.drop k).length ≤ 7) (hL : L.length ≤ 1000) :
    oloop (τ := Int × Int) (ρ := (Int) ⊕ (Int × Bool)) (fun e30 =>
     oite ((ilt e30.2 (L.length : Int))) (
      obnd (
       ogrd ((ile 0 e30.2)) (
       obnd (L[e30.2.toNat]?) fun (x39 : UInt8) =>
       oite ((ilt (x39.toNat : Int) (48 : Int))) (
        some true
         ) (
        obnd (L[e30.2.toNat]?) fun (x41 : UInt8) =>
        some (ilt (57 : Int) (x41.toNat : Int))
         )
       )
        ) fun (r34 : Bool) =>
      oite r34 (
       some (.inr (.inr (((0 : Int), false))))
        ) (
       ogrd ((ile 0 e30.2)) (
       obnd (L[e30.2.toNat]?) fun (x45 : UInt8) =>
       some (.inl (((IntKind.i64.wrap ((IntKind.i64.wrap ((10 : Int) * e30.1)) + (IntKind.i64.wrap (IntKind.u8.wrap ((x45.toNat : Int) - (48 : Int)))))), (IntKind.i64.wrap (e30.2 + (1 : Int))))))
       )
        )
       ) (
      some (.inr (.inl e30.1))
       )
      ) ((0 : Int), (k : Int)) = some (if (L.drop k).all isDg = true then .inl ((val (L.drop k) : Nat) : Int) else .inr ((0 : Int), false)) := by
  generalize hM : L.drop k = m at hm
  have hml : m.length + k = L.length := by rw [← hM]; simp; omega
  have hget : ∀ i (h : i < m.length), L[k + i]? = some m[i] := fun i h => by
    have : m[i]? = some m[i] := List.getElem?_eq_getElem h
    rw [← this, ← hM, List.getElem?_drop]
  rw [oloop_scanB (fun i => (((val (m.take i) : Nat) : Int), ((k + i : Nat) : Int))) m.length (fun i => !isDg (m.getD i 0)) (fun _ => .inr ((0 : Int), false)) (d := .inl ((val m : Nat) : Int)) (e0 := ((0 : Int), (k : Int))) rfl ?_ ?_]
  · by_cases h : m.all isDg = true
    · rw [if_pos h, scanF_of_none]
      · rfl
      · intro i _ hi
        rw [List.all_eq_true] at h
        have hi : i < m.length := by omega
        have : m.getD i 0 = m[i] := by simp [List.getD, hi]
        rw [this, h _ (List.getElem_mem hi)]; rfl
    · rw [if_neg h, scanF_c]
      · rfl
      · have : ∃ x, x ∈ m ∧ isDg x = false := by simpa [List.all_eq_true] using h
        obtain ⟨x, hx, hx2⟩ := this
        obtain ⟨i, hi, rfl⟩ := List.getElem_of_mem hx
        refine ⟨i, by omega, by omega, ?_⟩
        have : m.getD i 0 = m[i] := by simp [List.getD, hi]
        rw [this, hx2]; rfl
  · intro i hi
    have hg : m.getD i 0 = m[i] := by simp [List.getD, hi]
    have hlt : ((k + i : Nat) : Int) < (L.length : Int) := by omega
    have hn0 : (0 : Int) ≤ ((k + i : Nat) : Int) := by omega
    rw [hg]
    simp (disch := omega) only [obnd_s, obnd_n, oite_ss, oite_t, oite_f, ogrd_t, ogrd_f, obndS_l, obndS_r, ilt_eq, ile_eq, ieq_eq, imax_e, imin_e, k0, k1, k2, k3, k4, k5, k6, k7, k8, k9, reduceIte, k10, k11, k12, k13, k14, k15, k16, k17, k18, k19, k20, k21, k22, k23, k24, k25, k26, k27, k28, hlt, hn0, hget i hi]
    have hx := nd_dec m[i]
    cases hd : isDg m[i] with
    | false =>
      rw [hd] at hx
      simp only [Bool.not_false, Bool.or_eq_true, decide_eq_true_eq] at hx
      by_cases h1 : (m[i].toNat : Int) < 48
      · simp (disch := omega) only [obnd_s, obnd_n, oite_ss, oite_t, oite_f, ogrd_t, ogrd_f, obndS_l, obndS_r, ilt_eq, ile_eq, ieq_eq, imax_e, imin_e, k0, k1, k2, k3, k4, k5, k6, k7, k8, k9, reduceIte, k10, k11, k12, k13, k14, k15, k16, k17, k18, k19, k20, k21, k22, k23, k24, k25, k26, k27, k28, h1]
      · have h2 : (57 : Int) < m[i].toNat := hx.resolve_left h1
        simp (disch := omega) only [obnd_s, obnd_n, oite_ss, oite_t, oite_f, ogrd_t, ogrd_f, obndS_l, obndS_r, ilt_eq, ile_eq, ieq_eq, imax_e, imin_e, k0, k1, k2, k3, k4, k5, k6, k7, k8, k9, reduceIte, k10, k11, k12, k13, k14, k15, k16, k17, k18, k19, k20, k21, k22, k23, k24, k25, k26, k27, k28, h1, h2]
    | true =>
      rw [hd] at hx
      simp only [Bool.not_true, Bool.or_eq_false_iff, decide_eq_false_iff_not] at hx
      have hv := val_lt (l := m.take i) (by simp; omega)
      have hdd := of_decide_eq_true hd
      simp (disch := omega) only [obnd_s, obnd_n, oite_ss, oite_t, oite_f, ogrd_t, ogrd_f, obndS_l, obndS_r, ilt_eq, ile_eq, ieq_eq, imax_e, imin_e, k0, k1, k2, k3, k4, k5, k6, k7, k8, k9, reduceIte, k10, k11, k12, k13, k14, k15, k16, k17, k18, k19, k20, k21, k22, k23, k24, k25, k26, k27, k28, hx.1, hx.2]
      rw [val_take hi]
      have e1 : IntKind.u8.wrap ((m[i].toNat : Int) - 48) = ((m[i].toNat - 48 : Nat) : Int) := by
        show ((m[i].toNat : Int) - 48) % 256 = _
        omega
      rw [e1]
      simp (disch := omega) only [wr]
      unfold vstep
      congr 3
  · have h1 : ((k + m.length : Nat) : Int) = L.length := by omega
    rw [h1, List.take_length]
    simp (disch := omega) only [obnd_s, obnd_n, oite_ss, oite_t, oite_f, ogrd_t, ogrd_f, obndS_l, obndS_r, ilt_eq, ile_eq, ieq_eq, imax_e, imin_e, k0, k1, k2, k3, k4, k5, k6, k7, k8, k9, reduceIte, k10, k11, k12, k13, k14, k15, k16, k17, k18, k19, k20, k21, k22, k23, k24, k25, k26, k27, k28, Int.lt_irrefl]

/-- What the reference's parsing yields, with a sign. -/
theorem f387_neg {s : ByteArray} {d : Int} {m : List UInt8} (hl : s.data.toList = 45 :: m) (hd : 0 ≤ d ∧ d ≤ 7) (hs : s.size ≤ 999) :
    f387 s d = some (if m ≠ [] ∧ (m.length : Int) ≤ d ∧ m.head? ≠ some 48 ∧ m.all isDg = true then (-((val m : Nat) : Int), true) else (0, false)) := by
  have hsz : (s.size : Int) = ((45 :: m : List UInt8).length : Int) := by rw [← hl, Array.length_toList]; rfl
  have hsn : (45 :: m : List UInt8).length ≤ 999 := by omega
  unfold f387
  rw [hsz, hl]
  have h45 : ((45 : UInt8).toNat : Int) = 45 := rfl
  have hpos : (0 : Int) < ((45 :: m : List UInt8).length : Int) := by rw [List.length_cons]; omega
  have h01 : (0 : Int) ≤ 1 := by omega
  simp (disch := omega) only [obnd_s, obnd_n, oite_ss, oite_t, oite_f, ogrd_t, ogrd_f, obndS_l, obndS_r, ilt_eq, ile_eq, ieq_eq, imax_e, imin_e, k0, k1, k2, k3, k4, k5, k6, k7, k8, k9, reduceIte, k10, k11, k12, k13, k14, k15, k16, k17, k18, k19, k20, k21, k22, k23, k24, k25, k26, k27, k28, hpos, List.getElem?_cons_zero, h45, Int.toNat_zero]
  simp only [List.length_cons] at hsn
  cases m with
  | nil => simp (disch := omega) only [obnd_s, obnd_n, oite_ss, oite_t, oite_f, ogrd_t, ogrd_f, obndS_l, obndS_r, ilt_eq, ile_eq, ieq_eq, imax_e, imin_e, k0, k1, k2, k3, k4, k5, k6, k7, k8, k9, reduceIte, k10, k11, k12, k13, k14, k15, k16, k17, k18, k19, k20, k21, k22, k23, k24, k25, k26, k27, k28, List.length_cons, List.length_nil]; rfl
  | cons x r =>
    simp only [List.length_cons] at hsn
    have h1 : ¬ ((45 :: x :: r : List UInt8).length : Int) = 1 := by simp; omega
    have h2 : IntKind.i64.wrap (((45 :: x :: r : List UInt8).length : Int) - 1) = (((x :: r).length : Nat) : Int) := by simp only [List.length_cons]; rw [wr (by omega) (by omega)]; omega
    have h3 : (1 : Int) < ((45 :: x :: r : List UInt8).length : Int) := by simp; omega
    simp (disch := omega) only [obnd_s, obnd_n, oite_ss, oite_t, oite_f, ogrd_t, ogrd_f, obndS_l, obndS_r, ilt_eq, ile_eq, ieq_eq, imax_e, imin_e, k0, k1, k2, k3, k4, k5, k6, k7, k8, k9, reduceIte, k10, k11, k12, k13, k14, k15, k16, k17, k18, k19, k20, k21, k22, k23, k24, k25, k26, k27, k28, h1, h2, h3]
    by_cases h4 : d < ((x :: r).length : Int)
    · rw [if_neg (fun h => by have := h.2.1; omega)]
      simp (disch := omega) only [obnd_s, obnd_n, oite_ss, oite_t, oite_f, ogrd_t, ogrd_f, obndS_l, obndS_r, ilt_eq, ile_eq, ieq_eq, imax_e, imin_e, k0, k1, k2, k3, k4, k5, k6, k7, k8, k9, reduceIte, k10, k11, k12, k13, k14, k15, k16, k17, k18, k19, k20, k21, k22, k23, k24, k25, k26, k27, k28, h4]
    · have h5 : (1 : Int).toNat = 1 := rfl
      simp (disch := omega) only [obnd_s, obnd_n, oite_ss, oite_t, oite_f, ogrd_t, ogrd_f, obndS_l, obndS_r, ilt_eq, ile_eq, ieq_eq, imax_e, imin_e, k0, k1, k2, k3, k4, k5, k6, k7, k8, k9, reduceIte, k10, k11, k12, k13, k14, k15, k16, k17, k18, k19, k20, k21, k22, k23, k24, k25, k26, k27, k28, h4, h5, List.getElem?_cons_succ, List.getElem?_cons_zero]
      by_cases h6 : (x.toNat : Int) = 48
      · have hx : x = 48 := UInt8.toNat_inj.1 (by have : (48 : UInt8).toNat = 48 := rfl; omega)
        subst hx
        rw [if_neg (fun h => h.2.2.1 rfl)]
        simp (disch := omega) only [obnd_s, obnd_n, oite_ss, oite_t, oite_f, ogrd_t, ogrd_f, obndS_l, obndS_r, ilt_eq, ile_eq, ieq_eq, imax_e, imin_e, k0, k1, k2, k3, k4, k5, k6, k7, k8, k9, reduceIte, k10, k11, k12, k13, k14, k15, k16, k17, k18, k19, k20, k21, k22, k23, k24, k25, k26, k27, k28, h6, h01]
      · have hx : x ≠ 48 := fun e => h6 (by rw [e]; rfl)
        simp (disch := omega) only [obnd_s, obnd_n, oite_ss, oite_t, oite_f, ogrd_t, ogrd_f, obndS_l, obndS_r, ilt_eq, ile_eq, ieq_eq, imax_e, imin_e, k0, k1, k2, k3, k4, k5, k6, k7, k8, k9, reduceIte, k10, k11, k12, k13, k14, k15, k16, k17, k18, k19, k20, k21, k22, k23, k24, k25, k26, k27, k28, h6, h01]
        have hloop := num_loop (L := 45 :: x :: r) (k := 1) (by simp) (by simp at h4 ⊢; omega) (by simp; omega)
        rw [show ((1 : Nat) : Int) = 1 from rfl] at hloop
        simp only [ilt_eq, ile_eq] at hloop
        rw [hloop]
        have hdr : (45 :: x :: r : List UInt8).drop 1 = x :: r := rfl
        rw [hdr]
        by_cases h7 : (x :: r).all isDg = true
        · have hv := val_lt (l := x :: r) (by omega)
          rw [if_pos h7, if_pos ⟨by simp, by omega, by simp [hx], h7⟩]
          simp (disch := omega) only [obnd_s, obnd_n, oite_ss, oite_t, oite_f, ogrd_t, ogrd_f, obndS_l, obndS_r, ilt_eq, ile_eq, ieq_eq, imax_e, imin_e, k0, k1, k2, k3, k4, k5, k6, k7, k8, k9, reduceIte, k10, k11, k12, k13, k14, k15, k16, k17, k18, k19, k20, k21, k22, k23, k24, k25, k26, k27, k28, wr]
          congr 2
          omega
        · rw [if_neg h7, if_neg (fun h => h7 h.2.2.2)]; rfl
/-- Without a sign. -/
theorem f387_pos {s : ByteArray} {d : Int} {m : List UInt8} (hl : s.data.toList = m) (hh : m.head? ≠ some 45) (hd : 0 ≤ d ∧ d ≤ 7) (hs : s.size ≤ 999) :
    f387 s d = some (if m ≠ [] ∧ (m.length : Int) ≤ d ∧ (m.head? = some 48 → m.length = 1) ∧ m.all isDg = true then (((val m : Nat) : Int), true) else (0, false)) := by
  have hsz : (s.size : Int) = (m.length : Int) := by rw [← hl, Array.length_toList]; rfl
  have hsn : m.length ≤ 999 := by omega
  unfold f387
  rw [hsz, hl]
  cases m with
  | nil => simp (disch := omega) only [obnd_s, obnd_n, oite_ss, oite_t, oite_f, ogrd_t, ogrd_f, obndS_l, obndS_r, ilt_eq, ile_eq, ieq_eq, imax_e, imin_e, k0, k1, k2, k3, k4, k5, k6, k7, k8, k9, reduceIte, k10, k11, k12, k13, k14, k15, k16, k17, k18, k19, k20, k21, k22, k23, k24, k25, k26, k27, k28, List.length_nil]; rfl
  | cons x r =>
    have hx : ¬ (x.toNat : Int) = 45 := fun e => hh (by
      have : x = 45 := UInt8.toNat_inj.1 (by have : (45 : UInt8).toNat = 45 := rfl; omega)
      rw [this]; rfl)
    have hpos : (0 : Int) < ((x :: r : List UInt8).length : Int) := by rw [List.length_cons]; omega
    have h00 : (0 : Int) ≤ 0 := by omega
    have n01 : ¬ (0 : Int) = 1 := by omega
    have h1 : ¬ ((x :: r : List UInt8).length : Int) = 0 := by omega
    have h2 : IntKind.i64.wrap (((x :: r : List UInt8).length : Int) - 0) = ((x :: r : List UInt8).length : Int) := by rw [Int.sub_zero]; exact wr (by omega) (by omega)
    simp (disch := omega) only [obnd_s, obnd_n, oite_ss, oite_t, oite_f, ogrd_t, ogrd_f, obndS_l, obndS_r, ilt_eq, ile_eq, ieq_eq, imax_e, imin_e, k0, k1, k2, k3, k4, k5, k6, k7, k8, k9, reduceIte, k10, k11, k12, k13, k14, k15, k16, k17, k18, k19, k20, k21, k22, k23, k24, k25, k26, k27, k28, hpos, List.getElem?_cons_zero, hx, Int.toNat_zero, h1, h2]
    by_cases h4 : d < ((x :: r).length : Int)
    · rw [if_neg (fun h => by have := h.2.1; omega)]
      simp (disch := omega) only [obnd_s, obnd_n, oite_ss, oite_t, oite_f, ogrd_t, ogrd_f, obndS_l, obndS_r, ilt_eq, ile_eq, ieq_eq, imax_e, imin_e, k0, k1, k2, k3, k4, k5, k6, k7, k8, k9, reduceIte, k10, k11, k12, k13, k14, k15, k16, k17, k18, k19, k20, k21, k22, k23, k24, k25, k26, k27, k28, h4]
    · simp (disch := omega) only [obnd_s, obnd_n, oite_ss, oite_t, oite_f, ogrd_t, ogrd_f, obndS_l, obndS_r, ilt_eq, ile_eq, ieq_eq, imax_e, imin_e, k0, k1, k2, k3, k4, k5, k6, k7, k8, k9, reduceIte, k10, k11, k12, k13, k14, k15, k16, k17, k18, k19, k20, k21, k22, k23, k24, k25, k26, k27, k28, h4]
      have key : ∀ b : Bool, b = true ∨ b = false := by intro b; cases b <;> simp
      by_cases h6 : (x.toNat : Int) = 48 ∧ (1 : Int) < ((x :: r).length : Int)
      · have hx : x = 48 := UInt8.toNat_inj.1 (by have : (48 : UInt8).toNat = 48 := rfl; omega)
        rw [if_neg (fun h => by have := h.2.2.1 (by rw [hx]; rfl); omega)]
        simp (disch := omega) only [obnd_s, obnd_n, oite_ss, oite_t, oite_f, ogrd_t, ogrd_f, obndS_l, obndS_r, ilt_eq, ile_eq, ieq_eq, imax_e, imin_e, k0, k1, k2, k3, k4, k5, k6, k7, k8, k9, reduceIte, k10, k11, k12, k13, k14, k15, k16, k17, k18, k19, k20, k21, k22, k23, k24, k25, k26, k27, k28, h6.1, h6.2, h00, n01]
      · have hz : (x :: r).head? = some 48 → (x :: r).length = 1 := fun e => by
          have : x = 48 := by simpa using e
          have : (x.toNat : Int) = 48 := by rw [this]; rfl
          rcases Nat.lt_or_ge 1 (x :: r).length with h | h
          · exact absurd ⟨this, by omega⟩ h6
          · simp only [List.length_cons] at h ⊢; omega
        have hb : (if (x.toNat : Int) = 48 then decide ((1 : Int) < ((x :: r).length : Int)) else false) = false := by
          by_cases h7 : (x.toNat : Int) = 48
          · rw [if_pos h7]; simp only [decide_eq_false_iff_not]; exact fun e => h6 ⟨h7, e⟩
          · rw [if_neg h7]
        have hloop := num_loop (L := x :: r) (k := 0) (by simp) (by simp at h4 ⊢; omega) (by omega)
        rw [show ((0 : Nat) : Int) = 0 from rfl] at hloop
        simp only [ilt_eq, ile_eq] at hloop
        have fin : ∀ q, (if (x :: r).all isDg = true then (Sum.inl ((val (x :: r) : Nat) : Int) : Int ⊕ (Int × Bool)) else .inr ((0 : Int), false)) = q →
            obndS (some q) (fun (r47 : Int) => some (r47, true)) = some (if (x :: r) ≠ [] ∧ ((x :: r).length : Int) ≤ d ∧ ((x :: r).head? = some 48 → (x :: r).length = 1) ∧ (x :: r).all isDg = true then (((val (x :: r) : Nat) : Int), true) else (0, false)) := by
          rintro q rfl
          by_cases h7 : (x :: r).all isDg = true
          · rw [if_pos h7, if_pos ⟨by simp, by omega, hz, h7⟩]; rfl
          · rw [if_neg h7, if_neg (fun h => h7 h.2.2.2)]; rfl
        by_cases h7 : (x.toNat : Int) = 48
        · have h8 : ¬ (1 : Int) < ((x :: r).length : Int) := fun e => h6 ⟨h7, e⟩
          simp (disch := omega) only [obnd_s, obnd_n, oite_ss, oite_t, oite_f, ogrd_t, ogrd_f, obndS_l, obndS_r, ilt_eq, ile_eq, ieq_eq, imax_e, imin_e, k0, k1, k2, k3, k4, k5, k6, k7, k8, k9, reduceIte, k10, k11, k12, k13, k14, k15, k16, k17, k18, k19, k20, k21, k22, k23, k24, k25, k26, k27, k28, h7, h8, h00, n01]
          rw [hloop]
          exact fin _ rfl
        · simp (disch := omega) only [obnd_s, obnd_n, oite_ss, oite_t, oite_f, ogrd_t, ogrd_f, obndS_l, obndS_r, ilt_eq, ile_eq, ieq_eq, imax_e, imin_e, k0, k1, k2, k3, k4, k5, k6, k7, k8, k9, reduceIte, k10, k11, k12, k13, k14, k15, k16, k17, k18, k19, k20, k21, k22, k23, k24, k25, k26, k27, k28, h7, h00, n01]
          rw [hloop]
          exact fin _ rfl
end
section
set_option linter.unusedSimpArgs false
set_option linter.unusedVariables false
open Go Go.RowKit

/-- The string is the numeral of v, with at most d digits. -/
def numOf (s : ByteArray) (d v : Int) : Prop := s.data.toList = Lib.itoa v ∧ ((Lib.decDigits v.natAbs).length : Int) ≤ d

theorem allDg (u : Nat) : (Lib.decDigits u).all isDg = true := List.all_eq_true.2 (digs_dg u)
theorem f387_t {s : ByteArray} {d v : Int} (h : numOf s d v) (hd : 0 ≤ d ∧ d ≤ 7) (hs : s.size ≤ 999) : f387 s d = some (v, true) := by
  obtain ⟨h1, h2⟩ := h
  by_cases h0 : v < 0
  · rw [itoa_neg h0] at h1
    rw [f387_neg h1 hd hs, if_pos ⟨digs_ne _, h2, digs_head _ (by omega), allDg _⟩, digs_val]
    congr 2; omega
  · rw [itoa_nn h0] at h1
    rw [f387_pos h1 (digs_45 _) hd hs, if_pos ⟨digs_ne _, h2, (digs_canon _).2.2, allDg _⟩, digs_val]
    congr 2; omega
theorem f387_f {s : ByteArray} {d : Int} (h : ¬ ∃ v, numOf s d v) (hd : 0 ≤ d ∧ d ≤ 7) (hs : s.size ≤ 999) : f387 s d = some (0, false) := by
  by_cases hh : s.data.toList.head? = some 45
  · obtain ⟨m, hm⟩ : ∃ m, s.data.toList = 45 :: m := by
      cases hl : s.data.toList with
      | nil => rw [hl] at hh; cases hh
      | cons a b => rw [hl] at hh; simp at hh; subst hh; exact ⟨b, rfl⟩
    rw [f387_neg hm hd hs, if_neg]
    rintro ⟨h1, h2, h3, h4⟩
    have hc : canon m := ⟨h1, List.all_eq_true.1 h4, fun e => absurd e h3⟩
    have hm2 := canon_digs m hc
    have hpos : 0 < val m := Nat.pos_of_ne_zero fun e => by
      rw [e, Lib.decDigits, dif_pos (by omega)] at hm2
      rw [← hm2] at h3; exact h3 rfl
    refine h ⟨-((val m : Nat) : Int), ?_, ?_⟩
    · rw [itoa_neg (by omega), hm, show (-((val m : Nat) : Int)).natAbs = val m by omega, hm2]
    · rw [show (-((val m : Nat) : Int)).natAbs = val m by omega, hm2]; exact h2
  · rw [f387_pos rfl hh hd hs, if_neg]
    rintro ⟨h1, h2, h3, h4⟩
    have hc : canon s.data.toList := ⟨h1, List.all_eq_true.1 h4, h3⟩
    have hm2 := canon_digs _ hc
    refine h ⟨((val s.data.toList : Nat) : Int), ?_, ?_⟩
    · rw [itoa_pos, hm2]
    · rw [show (((val s.data.toList : Nat) : Int)).natAbs = val s.data.toList by omega, hm2]; exact h2
theorem natAbs_lt {v : Int} (h : (Lib.decDigits v.natAbs).length ≤ 7) : v.natAbs < 10000000 := by
  rw [Lib.decDigits_length] at h
  have h1 := Lib.lt_pow_nDigits v.natAbs
  have h2 : 10 ^ Lib.nDigits v.natAbs ≤ 10 ^ 7 := Nat.pow_le_pow_right (by omega) h
  omega
theorem num_t {s : ByteArray} {d v : Int} {b : Bool} (h : numOf s d v) (hd : d ≤ 7) (hb : b = true ∨ 0 ≤ v) : numB s d b = true ∧ numV s = v := by
  obtain ⟨h1, h2⟩ := h
  have ha := atoi_itoa (v := v) (by have := natAbs_lt (v := v) (by omega); omega)
  unfold numB numV
  rw [Lib.toList_data, h1, ha, itoa_trim]
  refine ⟨?_, rfl⟩
  have h3 : (b || decide (0 ≤ v)) = true := by rcases hb with h | h <;> simp [h]
  simp [h3, h2]
theorem num_f {s : ByteArray} {d : Int} {b : Bool} (h : ¬ ∃ v, numOf s d v ∧ (b = true ∨ 0 ≤ v)) : numB s d b = false := by
  unfold numB
  cases ha : Lib.atoiAll s.data.toList
  · rename_i v
    simp only
    rw [Bool.eq_false_iff]
    intro e
    simp only [Bool.and_eq_true, Bool.or_eq_true, decide_eq_true_eq] at e
    obtain ⟨⟨e1, e2⟩, e3⟩ := e
    rw [Lib.toList_data] at e1
    rw [← e1, itoa_trim] at e3
    exact h ⟨v, ⟨e1.symm, e3⟩, e2⟩
  · rfl
  · rfl
theorem f383_t {s : ByteArray} {d v : Int} {b : Bool} (h : numOf s d v) (hd : d ≤ 7) (hb : b = true ∨ 0 ≤ v) (hs : s.size ≤ 999) : f383 s d b = some (v, true) := by
  unfold f383
  obtain ⟨h1, h2⟩ := num_t h hd hb
  rw [decide_eq_true (by omega), ogrd_t, h1, h2]
theorem f383_f {s : ByteArray} {d : Int} {b : Bool} (h : ¬ ∃ v, numOf s d v ∧ (b = true ∨ 0 ≤ v)) (hs : s.size ≤ 999) : f383 s d b = some (numV s, false) := by
  unfold f383
  rw [decide_eq_true (by omega), ogrd_t, num_f h]

/-! ### No blank in a numeral -/
theorem itoa_no (v : Int) (c : UInt8) (hc : isDg c = false) (h45 : c ≠ 45) : c ∉ Lib.itoa v := by
  intro h
  have hd : c ∉ Lib.decDigits v.natAbs := fun h => by rw [digs_dg _ _ h] at hc; cases hc
  by_cases h0 : v < 0
  · rw [itoa_neg h0] at h
    rcases List.mem_cons.1 h with h | h
    · exact h45 h
    · exact hd h
  · rw [itoa_nn h0] at h; exact hd h
theorem spl_no {c : UInt8} : ∀ {p : List UInt8}, c ∉ p → spl c p = [p]
  | [], _ => rfl
  | x :: r, h => by
    simp only [List.mem_cons, not_or] at h
    simp only [spl, if_neg (Ne.symm h.1), spl_no h.2, glue]
    rfl
theorem spl_app {c : UInt8} {r : List UInt8} : ∀ {p : List UInt8}, c ∉ p → spl c (p ++ c :: r) = p :: spl c r
  | [], _ => by simp [spl]
  | x :: p, h => by
    simp only [List.mem_cons, not_or] at h
    simp only [List.cons_append, spl, if_neg (Ne.symm h.1), spl_app h.2, glue]
    rfl
theorem spl_size {c : UInt8} {l : List UInt8} {n : Nat} (h : l.length ≤ n) : ∀ p, p ∈ (spl c l).map mkB → p.size ≤ n := by
  intro p hp
  obtain ⟨q, hq, rfl⟩ := List.mem_map.1 hp
  have key : ∀ (l : List UInt8) (q : List UInt8), q ∈ spl c l → q.length ≤ l.length := by
    intro l
    induction l with
    | nil => intro q hq; simp [spl] at hq; subst hq; simp
    | cons x r ih =>
      intro q hq
      simp only [spl] at hq
      split at hq
      · rcases List.mem_cons.1 hq with rfl | hq
        · simp
        · have := ih q hq; simp; omega
      · cases hs : spl c r with
        | nil => exact absurd hs (spl_ne _ _)
        | cons a b =>
          rw [hs] at hq ih
          simp only [glue, List.mem_cons] at hq
          rcases hq with rfl | hq
          · have := ih a (by simp); simp; omega
          · have := ih q (by simp [hq]); simp; omega
  have := key l q hq
  show q.toArray.size ≤ n
  simp; omega
end
section
set_option linter.unusedSimpArgs false
set_option linter.unusedVariables false
open Go Go.RowKit

/-- At the first byte c. -/
def cutS (c : UInt8) : List UInt8 → List UInt8 × List UInt8 × Bool
  | [] => ([], [], false)
  | x :: r => if x = c then ([], r, true) else (x :: (cutS c r).1, (cutS c r).2.1, (cutS c r).2.2)
theorem cutS_f (c : UInt8) : ∀ l, (cutS c l).2.2 = false → (cutS c l).1 = l ∧ (cutS c l).2.1 = []
  | [], _ => ⟨rfl, rfl⟩
  | x :: r, h => by
    simp only [cutS] at h ⊢
    by_cases hx : x = c
    · rw [if_pos hx] at h; cases h
    · rw [if_neg hx] at h ⊢
      obtain ⟨h1, h2⟩ := cutS_f c r h
      exact ⟨by simp [h1], h2⟩
theorem cut_eq (c : UInt8) : ∀ l, Lib.cut l [c] = cutS c l
  | [] => by simp [Lib.cut, Lib.index, cutS]
  | x :: r => by
    have ih := cut_eq c r
    unfold Lib.cut at ih ⊢
    by_cases h : x = c
    · subst h
      have hix : Lib.index (x :: r) [x] = ((0 : Nat) : Int) := by rw [Lib.index]; simp [List.isPrefixOf]
      simp [hix, cutS]
    · have hp : ([c] : List UInt8).isPrefixOf (x :: r) = false := by simp [List.isPrefixOf, Ne.symm h]
      have hix : Lib.index (x :: r) [c] = if Lib.index r [c] == -1 then -1 else Lib.index r [c] + 1 := by rw [Lib.index, hp]; simp
      have hge := Lib.index_ge r [c]
      simp only [cutS, if_neg h]
      by_cases hm : Lib.index r [c] = -1
      · rw [if_neg (by omega)] at ih
        rw [← ih, hix, if_pos (beq_iff_eq.2 hm), if_neg (by omega)]
      · obtain ⟨j, hj⟩ : ∃ j : Nat, Lib.index r [c] = j := ⟨(Lib.index r [c]).toNat, by omega⟩
        rw [if_pos (by omega)] at ih
        rw [← ih, hix, if_neg (fun e => hm (beq_iff_eq.1 e)), if_pos (by omega), hj]
        have e1 : ((j : Int) + 1).toNat = j + 1 := by omega
        have e2 : ((j : Nat) : Int).toNat = j := rfl
        simp [e1]
theorem spl_cut (c : UInt8) : ∀ l, spl c l = if (cutS c l).2.2 = true then (cutS c l).1 :: spl c (cutS c l).2.1 else [l]
  | [] => rfl
  | x :: r => by
    have hc : cutS c (x :: r) = if x = c then ([], r, true) else (x :: (cutS c r).1, (cutS c r).2.1, (cutS c r).2.2) := rfl
    by_cases h : x = c
    · rw [if_pos h] at hc
      rw [hc]; simp [spl, h]
    · rw [if_neg h] at hc
      rw [hc]
      simp only [spl, if_neg h]
      rw [spl_cut c r]
      cases (cutS c r).2.2 <;> simp [glue]
theorem spl_yes {c : UInt8} : ∀ {l : List UInt8}, c ∈ l → ∃ a b t, spl c l = a :: b :: t
  | x :: r, h => by
    simp only [spl]
    by_cases hx : x = c
    · rw [if_pos hx]
      cases hs : spl c r with
      | nil => exact absurd hs (spl_ne _ _)
      | cons b t => exact ⟨[], b, t, rfl⟩
    · rw [if_neg hx]
      have hr : c ∈ r := by
        rcases List.mem_cons.1 h with rfl | h
        · exact absurd rfl hx
        · exact h
      obtain ⟨a, b, t, hs⟩ := spl_yes hr
      rw [hs]
      exact ⟨_, _, _, rfl⟩

/-! ### Numbers without a sign, words -/
theorem nat_num {s : ByteArray} (hs : s.size ≤ 999) : ∃ v, f391 s = some (v, numB s 7 false) ∧ (numB s 7 false = true → v = numV s) := by
  unfold f391
  by_cases h : ∃ v, numOf s 7 v
  · obtain ⟨v, hv⟩ := h
    rw [f387_t hv (by omega) hs]
    by_cases h0 : v < 0
    · have hd : s.data.toList[0]? = some 45 := by rw [hv.1, itoa_neg h0]; rfl
      have h45 : ((45 : UInt8).toNat : Int) = 45 := rfl
      have hf := num_f (s := s) (d := 7) (b := false) (by
        rintro ⟨v', hv', h⟩
        have : v' = v := by
          have h1 := num_t hv' (b := true) (by omega) (.inl rfl)
          have h2 := num_t hv (b := true) (by omega) (.inl rfl)
          rw [← h1.2, h2.2]
        rcases h with h | h
        · cases h
        · omega)
      refine ⟨v, ?_, fun e => by rw [hf] at e; cases e⟩
      have z0 : (0 : Int).toNat = 0 := rfl
      simp (disch := omega) only [obnd_s, obnd_n, oite_ss, oite_t, oite_f, ogrd_t, ogrd_f, obndS_l, obndS_r, ilt_eq, ile_eq, ieq_eq, imax_e, imin_e, k0, k1, k2, k3, k4, k5, k6, k7, k8, k9, reduceIte, k10, k11, k12, k13, k14, k15, k16, k17, k18, k19, k20, k21, k22, k23, k24, k25, k26, k27, k28, z0, hd, h45, hf]
    · obtain ⟨h1, h2⟩ := num_t (b := false) hv (by omega) (.inr (by omega))
      obtain ⟨d0, hd, hd2⟩ : ∃ d0, s.data.toList[0]? = some d0 ∧ ¬ (d0.toNat : Int) = 45 := by
        rw [hv.1, itoa_nn h0]
        cases hdd : Lib.decDigits v.natAbs with
        | nil => exact absurd hdd (digs_ne _)
        | cons c t =>
          have := of_decide_eq_true (digs_dg v.natAbs c (by rw [hdd]; simp))
          exact ⟨c, rfl, by omega⟩
      refine ⟨v, ?_, fun _ => h2.symm⟩
      have z0 : (0 : Int).toNat = 0 := rfl
      simp (disch := omega) only [obnd_s, obnd_n, oite_ss, oite_t, oite_f, ogrd_t, ogrd_f, obndS_l, obndS_r, ilt_eq, ile_eq, ieq_eq, imax_e, imin_e, k0, k1, k2, k3, k4, k5, k6, k7, k8, k9, reduceIte, k10, k11, k12, k13, k14, k15, k16, k17, k18, k19, k20, k21, k22, k23, k24, k25, k26, k27, k28, z0, hd, hd2, h1]
  · have hf := num_f (s := s) (d := 7) (b := false) (fun ⟨v, hv, _⟩ => h ⟨v, hv⟩)
    rw [f387_f h (by omega) hs]
    refine ⟨0, ?_, fun e => by rw [hf] at e; cases e⟩
    simp (disch := omega) only [obnd_s, obnd_n, oite_ss, oite_t, oite_f, ogrd_t, ogrd_f, obndS_l, obndS_r, ilt_eq, ile_eq, ieq_eq, imax_e, imin_e, k0, k1, k2, k3, k4, k5, k6, k7, k8, k9, reduceIte, k10, k11, k12, k13, k14, k15, k16, k17, k18, k19, k20, k21, k22, k23, k24, k25, k26, k27, k28, hf]
theorem f383_e {s : ByteArray} {d : Int} {b : Bool} (hs : s.size ≤ 999) : f383 s d b = some (numV s, numB s d b) := by
  unfold f383
  rw [decide_eq_true (by omega), ogrd_t]
def letB (s : ByteArray) : Bool := match s.data.toList with
  | [] => false
  | x :: _ => letC x.toNat
theorem ne_list (s : ByteArray) : (s.toList == (⟨#[]⟩ : ByteArray).toList) = s.data.toList.isEmpty := by
  rw [Lib.toList_data, Lib.toList_data]
  cases s.data.toList <;> rfl
theorem word_d (s : ByteArray) : (oite ((!(s.toList == (⟨#[]⟩ : ByteArray).toList))) (obnd (s.data.toList[(0 : Int).toNat]?) fun (x38 : UInt8) => obnd (f111 (x38.toNat : Int)) fun (y39 : Bool) => some y39) (some false)) = some (letB s) := by
  rw [ne_list]
  unfold letB
  cases s.data.toList with
  | nil => rfl
  | cons x r =>
    have z0 : (0 : Int).toNat = 0 := rfl
    have := f111_e (UInt8.toNat_lt x)
    simp (disch := omega) only [obnd_s, obnd_n, oite_ss, oite_t, oite_f, ogrd_t, ogrd_f, obndS_l, obndS_r, ilt_eq, ile_eq, ieq_eq, imax_e, imin_e, k0, k1, k2, k3, k4, k5, k6, k7, k8, k9, reduceIte, k10, k11, k12, k13, k14, k15, k16, k17, k18, k19, k20, k21, k22, k23, k24, k25, k26, k27, k28, z0, List.isEmpty_cons, List.getElem?_cons_zero, this]
theorem word_r (s : ByteArray) : f392 s = some (letB s) := by
  unfold f392 letB
  rw [ne_list]
  cases s.data.toList with
  | nil => rfl
  | cons x r =>
    have z0 : (0 : Int).toNat = 0 := rfl
    simp (disch := omega) only [obnd_s, obnd_n, oite_ss, oite_t, oite_f, ogrd_t, ogrd_f, obndS_l, obndS_r, ilt_eq, ile_eq, ieq_eq, imax_e, imin_e, k0, k1, k2, k3, k4, k5, k6, k7, k8, k9, reduceIte, k10, k11, k12, k13, k14, k15, k16, k17, k18, k19, k20, k21, k22, k23, k24, k25, k26, k27, k28, z0, List.isEmpty_cons, List.getElem?_cons_zero]
    unfold letC
    rw [show decide ((97 : Int) ≤ x.toNat) = decide (97 ≤ x.toNat) from cle 97 _, show decide ((x.toNat : Int) ≤ 122) = decide (x.toNat ≤ 122) from cle _ 122, show decide ((65 : Int) ≤ x.toNat) = decide (65 ≤ x.toNat) from cle 65 _, show decide ((x.toNat : Int) ≤ 90) = decide (x.toNat ≤ 90) from cle _ 90]
    cases decide (97 ≤ x.toNat) <;> cases decide (x.toNat ≤ 122) <;> cases decide (65 ≤ x.toNat) <;> cases decide (x.toNat ≤ 90) <;> rfl
end
section
set_option linter.unusedSimpArgs false
set_option linter.unusedVariables false
open Go Go.RowKit

abbrev Ru := List Int × List Int × List (ByteArray × Int)
abbrev Pn := List (ByteArray × Int)
def cl (x : ByteArray) : ByteArray := mkB (cutS 32 x.data.toList).1
def cr (x : ByteArray) : ByteArray := mkB (cutS 32 x.data.toList).2.1
def cf (x : ByteArray) : Bool := (cutS 32 x.data.toList).2.2
def stepD (x : ByteArray) (st : Bool × Ru) : Bool × Ru :=
  bif letB (cl x) then ((st.1 && cf x) && numB (cr x) 7 false, st.2.1, st.2.2.1, st.2.2.2 ++ [(cl x, numV (cr x))])
  else ((((st.1 && cf x) && numB (cr x) 7 false) && numB (cl x) 7 false) && st.2.2.2.isEmpty, st.2.1 ++ [numV (cl x)], st.2.2.1 ++ [numV (cr x)], st.2.2.2)
def stepR (x : ByteArray) (st : Ru) : Option Ru := match (spl 32 x.data.toList).map mkB with
  | [l, r] => bif !numB r 7 false then none else bif letB l then some (st.1, st.2.1, st.2.2 ++ [(l, numV r)])
    else bif !numB l 7 false || !st.2.2.isEmpty then none else some (st.1 ++ [numV l], st.2.1 ++ [numV r], st.2.2)
  | _ => none
def runR : List ByteArray → Ru → Option Ru
  | [], st => some st
  | x :: t, st => match stepR x st with
    | some st' => runR t st'
    | none => none

theorem no32 {l : List UInt8} (h : (32 : UInt8) ∈ l) : numB (mkB l) 7 false = false := num_f (by
  rintro ⟨v, ⟨h1, _⟩, _⟩
  have h1 : l = Lib.itoa v := h1
  rw [h1] at h
  exact itoa_no v 32 (by decide) (by decide) h)
theorem num_nil : numB (mkB []) 7 false = false := num_f (by
  rintro ⟨v, ⟨h1, _⟩, _⟩
  have h1 : [] = Lib.itoa v := h1
  by_cases h0 : v < 0
  · rw [itoa_neg h0] at h1; cases h1
  · rw [itoa_nn h0] at h1; exact digs_ne _ h1.symm)
/-- One part. -/
theorem step_sim (x : ByteArray) (st : Ru) : match stepR x st with
    | some st' => stepD x (true, st) = (true, st')
    | none => (stepD x (true, st)).1 = false := by
  unfold stepR stepD
  rw [spl_cut]
  cases hf : (cutS 32 x.data.toList).2.2 with
  | false =>
    have h1 : cf x = false := hf
    simp only [Bool.false_eq_true, if_false, List.map_cons, List.map_nil, h1]
    cases letB (cl x) <;> simp
  | true =>
    have h1 : cf x = true := hf
    simp only [if_true, h1, Bool.and_true, Bool.true_and, List.map_cons]
    by_cases h32 : (32 : UInt8) ∈ (cutS 32 x.data.toList).2.1
    · obtain ⟨a, b, t, hs⟩ := spl_yes h32
      have h2 : numB (cr x) 7 false = false := no32 h32
      rw [hs]
      simp only [List.map_cons, h2]
      cases letB (cl x) <;> simp
    · rw [spl_no h32]
      simp only [List.map_cons, List.map_nil]
      show (match (bif !numB (cr x) 7 false then none else bif letB (cl x) then some (st.1, st.2.1, st.2.2 ++ [(cl x, numV (cr x))]) else bif !numB (cl x) 7 false || !st.2.2.isEmpty then none else some (st.1 ++ [numV (cl x)], st.2.1 ++ [numV (cr x)], st.2.2) : Option Ru) with
        | some st' => _ = (true, st')
        | none => _ = false)
      cases numB (cr x) 7 false <;> cases letB (cl x) <;> cases numB (cl x) 7 false <;> cases st.2.2.isEmpty <;> rfl
theorem stepD_false (x : ByteArray) (st : Ru) : (stepD x (false, st)).1 = false := by
  unfold stepD
  cases letB (cl x) <;> simp
theorem fold_false : ∀ (t : List ByteArray) (st : Bool × Ru), st.1 = false → (t.foldl (fun st x => stepD x st) st).1 = false
  | [], _, h => h
  | x :: t, (b, st), h => by
    have h : b = false := h
    subst h
    exact fold_false t _ (stepD_false x st)
/-- All parts. -/
theorem fold_sim : ∀ (t : List ByteArray) (st : Ru), match runR t st with
    | some st' => t.foldl (fun st x => stepD x st) (true, st) = (true, st')
    | none => (t.foldl (fun st x => stepD x st) (true, st)).1 = false
  | [], st => rfl
  | x :: t, st => by
    have h := step_sim x st
    simp only [runR, List.foldl_cons]
    cases hs : stepR x st with
    | none => rw [hs] at h; exact fold_false t _ h
    | some st' => rw [hs] at h; simp only at h ⊢; rw [h]; exact fold_sim t st'
theorem stepD_len (x : ByteArray) (st : Bool × Ru) {n : Nat} (h : st.2.1.length ≤ n ∧ st.2.2.1.length ≤ n ∧ st.2.2.2.length ≤ n) :
    (stepD x st).2.1.length ≤ n + 1 ∧ (stepD x st).2.2.1.length ≤ n + 1 ∧ (stepD x st).2.2.2.length ≤ n + 1 := by
  unfold stepD
  cases letB (cl x) <;> simp <;> omega

theorem cut_len (c : UInt8) : ∀ l, (cutS c l).1.length ≤ l.length ∧ (cutS c l).2.1.length ≤ l.length
  | [] => ⟨Nat.le_refl _, Nat.le_refl _⟩
  | x :: r => by
    have := cut_len c r
    simp only [cutS]
    split
    · simp
    · simp; omega
theorem size_mk (l : List UInt8) : (mkB l).size = l.length := by show l.toArray.size = _; simp
theorem size_data (s : ByteArray) : s.data.toList.length = s.size := by rw [Array.length_toList]; rfl
theorem cl_size (x : ByteArray) : (cl x).size ≤ x.size ∧ (cr x).size ≤ x.size := by
  unfold cl cr
  rw [size_mk, size_mk, ← size_data x]
  exact cut_len 32 _
theorem f390_e {x : ByteArray} (h : x.size ≤ 999) : f390 x ⟨#[32]⟩ = some (cl x, cr x, cf x) := by
  unfold f390
  rw [decide_eq_true (by omega), ogrd_t, show (⟨#[32]⟩ : ByteArray).data.toList = [32] from rfl, cut_eq]
  rfl
/-- What holds of a state behind k parts. -/
def invS (k : Nat) (st : Bool × Ru) : Prop := st.2.1.length ≤ k ∧ st.2.2.1.length ≤ k ∧ st.2.2.2.length ≤ k ∧ ∀ p, p ∈ st.2.2.2 → p.1.size ≤ 300
theorem inv_step {k : Nat} {st : Bool × Ru} {x : ByteArray} (h : invS k st) (hx : x.size ≤ 300) : invS (k + 1) (stepD x st) := by
  obtain ⟨h1, h2, h3, h4⟩ := h
  have hc := (cl_size x).1
  unfold stepD
  cases letB (cl x) with
  | true =>
    refine ⟨by simp; omega, by simp; omega, by simp; omega, fun p hp => ?_⟩
    simp only [cond_true, List.mem_append, List.mem_cons, List.not_mem_nil, or_false] at hp
    rcases hp with hp | rfl
    · exact h4 p hp
    · simp only; omega
  | false => exact ⟨by simp; omega, by simp; omega, by simp; omega, fun p hp => h4 p hp⟩
theorem inv_take {m : List ByteArray} (hm : ∀ x, x ∈ m → x.size ≤ 300) {st : Bool × Ru} (h : invS 0 st) : ∀ i, i ≤ m.length → invS i ((m.take i).foldl (fun st x => stepD x st) st)
  | 0, _ => by simpa using h
  | i + 1, hi => by
    rw [List.take_succ_eq_append_getElem (by omega), List.foldl_append]
    exact inv_step (inv_take hm h i (by omega)) (hm _ (List.getElem_mem _))

theorem oslL_n {α : Type} {l : List α} {i : Nat} (h : i ≤ l.length) : oslL l (i : Int) = some (l.drop i) := by
  unfold oslL; rw [if_pos (by omega)]; rfl
def e7 : List Int × List Int × Int × Pn × Int := ([], [], 0, [], 7)
def outS (H : Int) (st : Ru) : List Int × List Int × Int × Pn × Int := bif !decide ((ckR st.1 st.2.1 H st.2.2).2 = 0) then ([], [], 0, [], (ckR st.1 st.2.1 H st.2.2).2) else (st.1, st.2.1, H, st.2.2, 0)
theorem f378_e {s w : ByteArray} {m : List ByteArray} (hs : s.size ≤ 50000) (hW : (spl 59 s.data.toList).map mkB = w :: m) (hw : ∀ x, x ∈ w :: m → x.size ≤ 300) (hm : m.length ≤ 1000) :
    f378 s = some (bif !(m.foldl (fun st x => stepD x st) (numB w 7 false && decide (0 < m.length), ([], [], []))).1 then e7 else outS (numV w) (m.foldl (fun st x => stepD x st) (numB w 7 false && decide (0 < m.length), ([], [], []))).2) := by
  have hsz : ¬ (60000 : Int) < s.size := by omega
  have g0 : (w :: m)[0]? = some w := rfl
  have z0 : (0 : Int).toNat = 0 := rfl
  have h1 : oslL (w :: m) (1 : Int) = some m := oslL_n (l := w :: m) (i := 1) (by simp)
  have hlen : decide ((1 : Int) < ((w :: m).length : Int)) = decide (0 < m.length) := by rw [Bool.eq_iff_iff, decide_eq_true_eq, decide_eq_true_eq, List.length_cons]; omega
  have h5 := f383_e (s := w) (d := 7) (b := false) (by have := hw w (by simp); omega)
  unfold f378
  rw [f382_e (c := 59) (by omega), hW]
  simp (disch := omega) only [obnd_s, obnd_n, oite_ss, oite_t, oite_f, ogrd_t, ogrd_f, obndS_l, obndS_r, ilt_eq, ile_eq, ieq_eq, imax_e, imin_e, k0, k1, k2, k3, k4, k5, k6, k7, k8, k9, reduceIte, k10, k11, k12, k13, k14, k15, k16, k17, k18, k19, k20, k21, k22, k23, k24, k25, k26, k27, k28, hsz, z0, g0, h1, h5, hlen]
  generalize hst : ((numB w 7 false && decide (0 < m.length), ([], [], [])) : Bool × Ru) = st0
  have hb0 : (numB w 7 false && decide (0 < m.length)) = st0.1 := by rw [← hst]
  have hi0 : invS 0 st0 := by rw [← hst]; exact ⟨Nat.le_refl _, Nat.le_refl _, Nat.le_refl _, fun p hp => by cases hp⟩
  have hinv := inv_take (m := m) (fun x hx => hw x (by simp [hx])) hi0
  rw [oloop_all (fun i => (((m.take i).foldl (fun st x => stepD x st) st0).1, (i : Int), ((m.take i).foldl (fun st x => stepD x st) st0).2.1, ((m.take i).foldl (fun st x => stepD x st) st0).2.2.1, ((m.take i).foldl (fun st x => stepD x st) st0).2.2.2)) m.length
    (r := ((m.foldl (fun st x => stepD x st) st0).1, (m.foldl (fun st x => stepD x st) st0).2.1, (m.foldl (fun st x => stepD x st) st0).2.2.1, (m.foldl (fun st x => stepD x st) st0).2.2.2)) (e0 := (numB w 7 false && decide (0 < m.length), (0 : Int), ([] : List Int), ([] : List Int), ([] : Pn))) (by rw [← hst]; rfl) ?_ ?_]
  · have hl := hinv m.length (Nat.le_refl _)
    rw [List.take_length] at hl
    generalize m.foldl (fun st x => stepD x st) st0 = st at hl
    obtain ⟨l1, l2, l3, l4⟩ := hl
    have h43 := f43_e (U := st.2.1) (D := st.2.2.1) (H := numV w) (P := st.2.2.2) (by omega) (by omega) (by omega) (fun p hp => by have := l4 p hp; omega)
    simp (disch := omega) only [obnd_s, obnd_n, oite_ss, oite_t, oite_f, ogrd_t, ogrd_f, obndS_l, obndS_r, ilt_eq, ile_eq, ieq_eq, imax_e, imin_e, k0, k1, k2, k3, k4, k5, k6, k7, k8, k9, reduceIte, k10, k11, k12, k13, k14, k15, k16, k17, k18, k19, k20, k21, k22, k23, k24, k25, k26, k27, k28, h43]
    unfold outS e7
    cases st.1 <;> cases decide ((ckR st.2.1 st.2.2.1 (numV w) st.2.2.2).2 = 0) <;> rfl
  · intro i hi
    obtain ⟨l1, l2, l3, l4⟩ := hinv i (by omega)
    rw [List.take_succ_eq_append_getElem hi, List.foldl_append, List.foldl_cons, List.foldl_nil]
    generalize (m.take i).foldl (fun st x => stepD x st) st0 = st at l1 l2 l3 l4
    have hx := hw m[i] (by simp)
    have hc := cl_size m[i]
    have h9 := f390_e (x := m[i]) (by omega)
    have hr := f383_e (s := cr m[i]) (d := 7) (b := false) (by omega)
    have hl := f383_e (s := cl m[i]) (d := 7) (b := false) (by omega)
    have hwd := word_d (cl m[i])
    simp (disch := omega) only [obnd_s, obnd_n, oite_ss, oite_t, oite_f, ogrd_t, ogrd_f, obndS_l, obndS_r, ilt_eq, ile_eq, ieq_eq, imax_e, imin_e, k0, k1, k2, k3, k4, k5, k6, k7, k8, k9, reduceIte, k10, k11, k12, k13, k14, k15, k16, k17, k18, k19, k20, k21, k22, k23, k24, k25, k26, k27, k28, hi, get_i hi, wr, h9, hr]
    rw [z0] at hwd
    rw [hwd]
    have he : decide (((st.2.2.2.length : Nat) : Int) = 0) = st.2.2.2.isEmpty := by
      cases st.2.2.2 with
      | nil => rfl
      | cons a b => simp; omega
    have ht : ((i + 1 : Nat) : Int) = (i : Int) + 1 := by omega
    unfold stepD
    cases hb : letB (cl m[i]) with
    | true =>
      simp (disch := omega) only [obnd_s, obnd_n, oite_ss, oite_t, oite_f, ogrd_t, ogrd_f, obndS_l, obndS_r, ilt_eq, ile_eq, ieq_eq, imax_e, imin_e, k0, k1, k2, k3, k4, k5, k6, k7, k8, k9, reduceIte, k10, k11, k12, k13, k14, k15, k16, k17, k18, k19, k20, k21, k22, k23, k24, k25, k26, k27, k28, ht]
      rw [ogrd_fits (by simp; omega) (by simp; omega)]
    | false =>
      simp (disch := omega) only [obnd_s, obnd_n, oite_ss, oite_t, oite_f, ogrd_t, ogrd_f, obndS_l, obndS_r, ilt_eq, ile_eq, ieq_eq, imax_e, imin_e, k0, k1, k2, k3, k4, k5, k6, k7, k8, k9, reduceIte, k10, k11, k12, k13, k14, k15, k16, k17, k18, k19, k20, k21, k22, k23, k24, k25, k26, k27, k28, hl, he, ht]
      rw [ogrd_fits (by simp; omega) (by simp; omega), ogrd_fits (by simp; omega) (by simp; omega)]
      rfl
  · rw [List.take_length]
    simp (disch := omega) only [obnd_s, obnd_n, oite_ss, oite_t, oite_f, ogrd_t, ogrd_f, obndS_l, obndS_r, ilt_eq, ile_eq, ieq_eq, imax_e, imin_e, k0, k1, k2, k3, k4, k5, k6, k7, k8, k9, reduceIte, k10, k11, k12, k13, k14, k15, k16, k17, k18, k19, k20, k21, k22, k23, k24, k25, k26, k27, k28, Int.lt_irrefl]
end
section
set_option linter.unusedSimpArgs false
set_option linter.unusedVariables false
open Go Go.RowKit

abbrev R5 := List Int × List Int × Int × Pn × Int
theorem ref_loop {w : ByteArray} {m : List ByteArray} (hm : m.length ≤ 1000) (hw : ∀ x, x ∈ m → x.size ≤ 300) : ∀ (t : List ByteArray) (k : Nat) (st : Ru), m.drop k = t → k ≤ m.length → st.1.length ≤ k → st.2.1.length ≤ k → st.2.2.length ≤ k →
    oloop (τ := Int × (List Int) × (List Int) × (List (ByteArray × Int))) (ρ := ((List Int) × (List Int) × (List (ByteArray × Int))) ⊕ ((List Int) × (List Int) × Int × (List (ByteArray × Int)) × Int)) (fun e17 =>
      oite ((ilt e17.1 (((w :: m).map eS).length : Int))) (
       ogrd ((ile 0 e17.1)) (
       obnd ((w :: m)[e17.1.toNat]?) fun (x22 : ByteArray) =>
       obnd (f386 x22 (32 : Int)) fun (y23 : (List ByteArray)) =>
       oite ((!(ieq ((y23.map eS).length : Int) (2 : Int)))) (
        some (.inr (.inr ((([] : List Int), ([] : List Int), (0 : Int), ([] : List (ByteArray × Int)), (7 : Int)))))
         ) (
        obnd (y23[(1 : Int).toNat]?) fun (x27 : ByteArray) =>
        obnd (f391 x27) fun (y28 : Int × Bool) =>
        oite (!y28.2) (
         some (.inr (.inr ((([] : List Int), ([] : List Int), (0 : Int), ([] : List (ByteArray × Int)), (7 : Int)))))
          ) (
         obnd (y23[(0 : Int).toNat]?) fun (x32 : ByteArray) =>
         obnd (f392 x32) fun (y33 : Bool) =>
         oite y33 (
          obnd (y23[(0 : Int).toNat]?) fun (x36 : ByteArray) =>
          ogrd (fits 24 (e17.2.2.2.length + ([(x36, y28.1)] : List (ByteArray × Int)).length)) (
          some (.inl (((IntKind.i64.wrap (e17.1 + (1 : Int))), e17.2.1, e17.2.2.1, (e17.2.2.2 ++ ([(x36, y28.1)] : List (ByteArray × Int))))))
          )
           ) (
          obnd (y23[(0 : Int).toNat]?) fun (x37 : ByteArray) =>
          obnd (f391 x37) fun (y38 : Int × Bool) =>
          obnd (
           oite (!y38.2) (
            some true
             ) (
            some (ilt (0 : Int) ((e17.2.2.2.map e_SI).length : Int))
             )
            ) fun (r40 : Bool) =>
          oite r40 (
           some (.inr (.inr ((([] : List Int), ([] : List Int), (0 : Int), ([] : List (ByteArray × Int)), (7 : Int)))))
            ) (
           ogrd (fits 8 (e17.2.1.length + ([y38.1] : List Int).length)) (
           ogrd (fits 8 (e17.2.2.1.length + ([y28.1] : List Int).length)) (
           some (.inl (((IntKind.i64.wrap (e17.1 + (1 : Int))), (e17.2.1 ++ ([y38.1] : List Int)), (e17.2.2.1 ++ ([y28.1] : List Int)), e17.2.2.2)))
           )
           )
            )
           )
          )
         )
       )
        ) (
       some (.inr (.inl (e17.2.1, e17.2.2.1, e17.2.2.2)))
        )
       ) (((k : Nat) : Int) + 1, st.1, st.2.1, st.2.2) = some (match runR t st with | some st' => .inl st' | none => .inr e7)
  | [], k, st, hd, hk, h1, h2, h3 => by
    have hk2 : k = m.length := by
      have := List.drop_eq_nil_iff.1 hd; omega
    refine oloop_done ?_
    have hlt : ¬ ((k : Int) + 1 < ((w :: m).length : Int)) := by rw [List.length_cons]; omega
    simp (disch := omega) only [obnd_s, obnd_n, oite_ss, oite_t, oite_f, ogrd_t, ogrd_f, obndS_l, obndS_r, ilt_eq, ile_eq, ieq_eq, imax_e, imin_e, k0, k1, k2, k3, k4, k5, k6, k7, k8, k9, reduceIte, k10, k11, k12, k13, k14, k15, k16, k17, k18, k19, k20, k21, k22, k23, k24, k25, k26, k27, k28, hlt]
    rfl
  | x :: t, k, st, hd, hk, h1, h2, h3 => by
    have hk2 : k < m.length := by
      rcases Nat.lt_or_ge k m.length with h | h
      · exact h
      · rw [List.drop_eq_nil_of_le h] at hd; cases hd
    have hx : m[k] = x ∧ m.drop (k + 1) = t := by
      rw [List.drop_eq_getElem_cons hk2] at hd
      injection hd with a b; exact ⟨a, b⟩
    have hxs := hw x (by rw [← hx.1]; exact List.getElem_mem _)
    have hlt : ((k : Int) + 1 < ((w :: m).length : Int)) := by rw [List.length_cons]; omega
    have hn0 : (0 : Int) ≤ (k : Int) + 1 := by omega
    have hget : (w :: m)[((k : Int) + 1).toNat]? = some x := by
      rw [show ((k : Int) + 1).toNat = k + 1 by omega, List.getElem?_cons_succ, List.getElem?_eq_getElem hk2, hx.1]
    have h386 := f386_e (s := x) (c := 32) (k := 32) rfl (by omega)
    have hsz := spl_size (c := 32) (l := x.data.toList) (n := 300) (by rw [size_data]; omega)
    simp only [runR]
    unfold stepR
    generalize (spl 32 x.data.toList).map mkB = W at h386 hsz
    have z0 : (0 : Int).toNat = 0 := rfl
    have z1 : (1 : Int).toNat = 1 := rfl
    by_cases h2l : (W.length : Int) = 2
    · match W, h2l with
      | [l, r], _ =>
        have e2 : (([l, r] : List ByteArray).length : Int) = 2 := rfl
        have g0 : [l, r][0]? = some l := rfl
        have g1 : [l, r][1]? = some r := rfl
        obtain ⟨vr, hr, hrv⟩ := nat_num (s := r) (by have := hsz r (by simp); omega)
        obtain ⟨vl, hl, hlv⟩ := nat_num (s := l) (by have := hsz l (by simp); omega)
        have hwd := word_r l
        simp only
        cases hb : numB r 7 false with
        | false =>
          rw [hb] at hr
          refine oloop_done ?_
          simp (disch := omega) only [obnd_s, obnd_n, oite_ss, oite_t, oite_f, ogrd_t, ogrd_f, obndS_l, obndS_r, ilt_eq, ile_eq, ieq_eq, imax_e, imin_e, k0, k1, k2, k3, k4, k5, k6, k7, k8, k9, reduceIte, k10, k11, k12, k13, k14, k15, k16, k17, k18, k19, k20, k21, k22, k23, k24, k25, k26, k27, k28, hlt, hn0, hget, h386, e2, z0, z1, g0, g1, hr]
          rfl
        | true =>
          rw [hb] at hr
          have hvr := hrv hb
          subst hvr
          cases hc : letB l with
          | true =>
            rw [hc] at hwd
            have ih := ref_loop (w := w) hm hw t (k + 1) (st.1, st.2.1, st.2.2 ++ [(l, numV r)]) hx.2 (by omega) (by simp; omega) (by simp; omega) (by simp; omega)
            rw [oloop_step (e' := (((k + 1 : Nat) : Int) + 1, st.1, st.2.1, st.2.2 ++ [(l, numV r)])) ?_]
            · exact ih
            · simp (disch := omega) only [obnd_s, obnd_n, oite_ss, oite_t, oite_f, ogrd_t, ogrd_f, obndS_l, obndS_r, ilt_eq, ile_eq, ieq_eq, imax_e, imin_e, k0, k1, k2, k3, k4, k5, k6, k7, k8, k9, reduceIte, k10, k11, k12, k13, k14, k15, k16, k17, k18, k19, k20, k21, k22, k23, k24, k25, k26, k27, k28, hlt, hn0, hget, h386, e2, z0, z1, g0, g1, hr, hwd]
              rw [ogrd_fits (by simp; omega) (by simp; omega), wr (by omega) (by omega)]
              congr 3
          | false =>
            rw [hc] at hwd
            cases hd2 : numB l 7 false with
            | false =>
              rw [hd2] at hl
              refine oloop_done ?_
              simp (disch := omega) only [obnd_s, obnd_n, oite_ss, oite_t, oite_f, ogrd_t, ogrd_f, obndS_l, obndS_r, ilt_eq, ile_eq, ieq_eq, imax_e, imin_e, k0, k1, k2, k3, k4, k5, k6, k7, k8, k9, reduceIte, k10, k11, k12, k13, k14, k15, k16, k17, k18, k19, k20, k21, k22, k23, k24, k25, k26, k27, k28, hlt, hn0, hget, h386, e2, z0, z1, g0, g1, hr, hwd, hl]
              rfl
            | true =>
              rw [hd2] at hl
              have hvl := hlv hd2
              subst hvl
              cases he : st.2.2 with
              | cons a b =>
                refine oloop_done ?_
                have hpos : (0 : Int) < ((a :: b).length : Int) := by rw [List.length_cons]; omega
                simp (disch := omega) only [obnd_s, obnd_n, oite_ss, oite_t, oite_f, ogrd_t, ogrd_f, obndS_l, obndS_r, ilt_eq, ile_eq, ieq_eq, imax_e, imin_e, k0, k1, k2, k3, k4, k5, k6, k7, k8, k9, reduceIte, k10, k11, k12, k13, k14, k15, k16, k17, k18, k19, k20, k21, k22, k23, k24, k25, k26, k27, k28, hlt, hn0, hget, h386, e2, z0, z1, g0, g1, hr, hwd, hl, hpos]
                rfl
              | nil =>
                have ih := ref_loop (w := w) hm hw t (k + 1) (st.1 ++ [numV l], st.2.1 ++ [numV r], []) hx.2 (by omega) (by simp; omega) (by simp; omega) (by simp)
                rw [oloop_step (e' := (((k + 1 : Nat) : Int) + 1, st.1 ++ [numV l], st.2.1 ++ [numV r], [])) ?_]
                · exact ih
                · have hnp : ¬ (0 : Int) < (([] : Pn).length : Int) := by simp
                  simp (disch := omega) only [obnd_s, obnd_n, oite_ss, oite_t, oite_f, ogrd_t, ogrd_f, obndS_l, obndS_r, ilt_eq, ile_eq, ieq_eq, imax_e, imin_e, k0, k1, k2, k3, k4, k5, k6, k7, k8, k9, reduceIte, k10, k11, k12, k13, k14, k15, k16, k17, k18, k19, k20, k21, k22, k23, k24, k25, k26, k27, k28, hlt, hn0, hget, h386, e2, z0, z1, g0, g1, hr, hwd, hl, hnp]
                  rw [ogrd_fits (by simp; omega) (by simp; omega), ogrd_fits (by simp; omega) (by simp; omega), wr (by omega) (by omega)]
                  congr 3
    · refine oloop_done ?_
      simp (disch := omega) only [obnd_s, obnd_n, oite_ss, oite_t, oite_f, ogrd_t, ogrd_f, obndS_l, obndS_r, ilt_eq, ile_eq, ieq_eq, imax_e, imin_e, k0, k1, k2, k3, k4, k5, k6, k7, k8, k9, reduceIte, k10, k11, k12, k13, k14, k15, k16, k17, k18, k19, k20, k21, k22, k23, k24, k25, k26, k27, k28, hlt, hn0, hget, h386, h2l]
      match W, h2l with
      | [], _ => rfl
      | [_], _ => rfl
      | [_, _], h => exact absurd rfl h
      | _ :: _ :: _ :: _, _ => rfl
end
section
set_option linter.unusedSimpArgs false
set_option linter.unusedVariables false
open Go Go.RowKit

theorem run_inv {m : List ByteArray} (hm : ∀ x, x ∈ m → x.size ≤ 300) {st : Ru} (h : runR m ([], [], []) = some st) : invS m.length (true, st) := by
  have h1 := fold_sim m ([], [], [])
  rw [h] at h1
  have h2 := inv_take (m := m) hm (st := (true, ([], [], []))) ⟨Nat.le_refl _, Nat.le_refl _, Nat.le_refl _, fun p hp => by cases hp⟩ m.length (Nat.le_refl _)
  rw [List.take_length] at h2
  simp only at h1
  rw [h1] at h2; exact h2
theorem f379_e {s w : ByteArray} {m : List ByteArray} (hs : s.size ≤ 300) (hW : (spl 59 s.data.toList).map mkB = w :: m) (hw : ∀ x, x ∈ w :: m → x.size ≤ 300) (hm : m.length ≤ 1000) :
    f379 s = some (bif !(numB w 7 false && decide (0 < m.length)) then e7 else match runR m ([], [], []) with | some st => outS (numV w) st | none => e7) := by
  have hsz : ¬ (60000 : Int) < s.size := by omega
  have g0 : (w :: m)[0]? = some w := rfl
  have z0 : (0 : Int).toNat = 0 := rfl
  have hlen : decide (((w :: m).length : Int) < (2 : Int)) = !decide (0 < m.length) := by
    rw [List.length_cons]
    by_cases h : 0 < m.length
    · rw [decide_eq_true h, decide_eq_false (by omega)]; rfl
    · rw [decide_eq_false h, decide_eq_true (by omega)]; rfl
  obtain ⟨v, h5, h5v⟩ := nat_num (s := w) (by have := hw w (by simp); omega)
  have hloop := ref_loop (w := w) hm (fun x hx => hw x (by simp [hx])) m 0 ([], [], []) rfl (Nat.zero_le _) (Nat.le_refl _) (Nat.le_refl _) (Nat.le_refl _)
  rw [show (((0 : Nat) : Int) + 1) = 1 from rfl] at hloop
  simp (disch := omega) only [obnd_s, obnd_n, oite_ss, oite_t, oite_f, ogrd_t, ogrd_f, obndS_l, obndS_r, ilt_eq, ile_eq, ieq_eq, imax_e, imin_e, k0, k1, k2, k3, k4, k5, k6, k7, k8, k9, reduceIte, k10, k11, k12, k13, k14, k15, k16, k17, k18, k19, k20, k21, k22, k23, k24, k25, k26, k27, k28, z0] at hloop
  unfold f379
  rw [f386_e (c := 59) (k := 59) rfl (by omega), hW]
  simp (disch := omega) only [obnd_s, obnd_n, oite_ss, oite_t, oite_f, ogrd_t, ogrd_f, obndS_l, obndS_r, ilt_eq, ile_eq, ieq_eq, imax_e, imin_e, k0, k1, k2, k3, k4, k5, k6, k7, k8, k9, reduceIte, k10, k11, k12, k13, k14, k15, k16, k17, k18, k19, k20, k21, k22, k23, k24, k25, k26, k27, k28, hsz, z0, g0, h5, hlen]
  cases hb : numB w 7 false with
  | false => simp only [Bool.not_false, Bool.true_or, Bool.false_and]; rfl
  | true =>
    have hv := h5v hb
    subst hv
    cases hc : decide (0 < m.length) with
    | false => simp only [Bool.not_false, Bool.or_true, Bool.true_and]; rfl
    | true =>
      simp only [Bool.not_true, Bool.or_false, Bool.and_self]
      simp (disch := omega) only [obnd_s, obnd_n, oite_ss, oite_t, oite_f, ogrd_t, ogrd_f, obndS_l, obndS_r, ilt_eq, ile_eq, ieq_eq, imax_e, imin_e, k0, k1, k2, k3, k4, k5, k6, k7, k8, k9, reduceIte, k10, k11, k12, k13, k14, k15, k16, k17, k18, k19, k20, k21, k22, k23, k24, k25, k26, k27, k28]
      rw [hloop]
      cases hr : runR m ([], [], []) with
      | none => rfl
      | some st =>
        obtain ⟨l1, l2, l3, l4⟩ := run_inv (fun x hx => hw x (by simp [hx])) hr
        simp only at l1 l2 l3 l4
        have h39 : f39 st.1 st.2.1 (numV w) st.2.2 = some (ckR st.1 st.2.1 (numV w) st.2.2).2 := by
          unfold f39
          rw [f46_e (by omega) (by omega) (by omega) (fun p hp => by have := l4 p hp; omega)]; rfl
        simp (disch := omega) only [obnd_s, obnd_n, oite_ss, oite_t, oite_f, ogrd_t, ogrd_f, obndS_l, obndS_r, ilt_eq, ile_eq, ieq_eq, imax_e, imin_e, k0, k1, k2, k3, k4, k5, k6, k7, k8, k9, reduceIte, k10, k11, k12, k13, k14, k15, k16, k17, k18, k19, k20, k21, k22, k23, k24, k25, k26, k27, k28, h39]
        unfold outS
        rfl
theorem parse_rules {s : ByteArray} (hs : s.size ≤ 300) : ∃ x, f378 s = some x ∧ f379 s = some x ∧ x.1.length ≤ 1000 ∧ x.2.1.length ≤ 1000 ∧ x.2.2.2.1.length ≤ 1000 := by
  have hsz := spl_size (c := 59) (l := s.data.toList) (n := 300) (by rw [size_data]; omega)
  have hlen : ((spl 59 s.data.toList).map mkB).length ≤ 301 := by
    rw [List.length_map]
    have key : ∀ l : List UInt8, (spl 59 l).length ≤ l.length + 1 := by
      intro l
      induction l with
      | nil => simp [spl]
      | cons x r ih =>
        simp only [spl]
        split
        · simp; omega
        · cases hh : spl 59 r with
          | nil => exact absurd hh (spl_ne _ _)
          | cons a b => rw [hh] at ih; simp [glue] at ih ⊢; omega
    have := key s.data.toList
    rw [size_data] at this; omega
  obtain ⟨w, m, hW⟩ : ∃ w m, (spl 59 s.data.toList).map mkB = w :: m := by
    cases h : spl 59 s.data.toList with
    | nil => exact absurd h (spl_ne _ _)
    | cons a b => exact ⟨_, _, rfl⟩
  rw [hW] at hsz hlen
  simp only [List.length_cons] at hlen
  have h8 := f378_e (s := s) (by omega) hW hsz (by omega)
  have h9 := f379_e (s := s) hs hW hsz (by omega)
  cases hok : (numB w 7 false && decide (0 < m.length)) with
  | false =>
    rw [hok] at h8 h9
    rw [fold_false m (false, [], [], []) rfl] at h8
    exact ⟨e7, h8, h9, by simp [e7], by simp [e7], by simp [e7]⟩
  | true =>
    rw [hok] at h8 h9
    have hf := fold_sim m ([], [], [])
    cases hr : runR m ([], [], []) with
    | none =>
      rw [hr] at hf h9
      simp only at hf
      rw [hf] at h8
      exact ⟨e7, h8, h9, by simp [e7], by simp [e7], by simp [e7]⟩
    | some st =>
      obtain ⟨l1, l2, l3, _⟩ := run_inv (fun x hx => hsz x (by simp [hx])) hr
      rw [hr] at hf h9
      simp only at hf l1 l2 l3
      rw [hf] at h8
      refine ⟨outS (numV w) st, h8, h9, ?_, ?_, ?_⟩ <;> (unfold outS; cases decide ((ckR st.1 st.2.1 (numV w) st.2.2).2 = 0) <;> simp <;> omega)

/-! ### Rules compared with themselves -/
theorem f26_refl {l : List Int} (hl : l.length ≤ 1000) : f26 l l = some true := by
  unfold f26
  simp (disch := omega) only [obnd_s, obnd_n, oite_ss, oite_t, oite_f, ogrd_t, ogrd_f, obndS_l, obndS_r, ilt_eq, ile_eq, ieq_eq, imax_e, imin_e, k0, k1, k2, k3, k4, k5, k6, k7, k8, k9, reduceIte, k10, k11, k12, k13, k14, k15, k16, k17, k18, k19, k20, k21, k22, k23, k24, k25, k26, k27, k28]
  rw [oloop_all (fun i => (i : Int)) l.length (r := .inl ()) (e0 := (0 : Int)) rfl ?_ ?_]
  · rfl
  · intro i hi
    simp (disch := omega) only [obnd_s, obnd_n, oite_ss, oite_t, oite_f, ogrd_t, ogrd_f, obndS_l, obndS_r, ilt_eq, ile_eq, ieq_eq, imax_e, imin_e, k0, k1, k2, k3, k4, k5, k6, k7, k8, k9, reduceIte, k10, k11, k12, k13, k14, k15, k16, k17, k18, k19, k20, k21, k22, k23, k24, k25, k26, k27, k28, hi, get_i hi, wr]
    rfl
  · simp (disch := omega) only [obnd_s, obnd_n, oite_ss, oite_t, oite_f, ogrd_t, ogrd_f, obndS_l, obndS_r, ilt_eq, ile_eq, ieq_eq, imax_e, imin_e, k0, k1, k2, k3, k4, k5, k6, k7, k8, k9, reduceIte, k10, k11, k12, k13, k14, k15, k16, k17, k18, k19, k20, k21, k22, k23, k24, k25, k26, k27, k28, Int.lt_irrefl]
theorem ba_beq (b : ByteArray) : (b == b) = true := by
  first
    | exact beq_self_eq_true b
    | simp
    | exact decide_eq_true rfl
    | (obtain ⟨d⟩ := b; exact beq_self_eq_true d)
theorem f381_refl {U D : List Int} {H : Int} {P : Pn} (h1 : U.length ≤ 1000) (h2 : D.length ≤ 1000) (h3 : P.length ≤ 1000) : f381 U D H P U D H P = some true := by
  unfold f381
  simp (disch := omega) only [obnd_s, obnd_n, oite_ss, oite_t, oite_f, ogrd_t, ogrd_f, obndS_l, obndS_r, ilt_eq, ile_eq, ieq_eq, imax_e, imin_e, k0, k1, k2, k3, k4, k5, k6, k7, k8, k9, reduceIte, k10, k11, k12, k13, k14, k15, k16, k17, k18, k19, k20, k21, k22, k23, k24, k25, k26, k27, k28, f26_refl h1, f26_refl h2]
  rw [oloop_all (fun i => (i : Int)) P.length (r := .inl ()) (e0 := (0 : Int)) rfl ?_ ?_]
  · rfl
  · intro i hi
    simp (disch := omega) only [obnd_s, obnd_n, oite_ss, oite_t, oite_f, ogrd_t, ogrd_f, obndS_l, obndS_r, ilt_eq, ile_eq, ieq_eq, imax_e, imin_e, k0, k1, k2, k3, k4, k5, k6, k7, k8, k9, reduceIte, k10, k11, k12, k13, k14, k15, k16, k17, k18, k19, k20, k21, k22, k23, k24, k25, k26, k27, k28, hi, get_i hi, wr, ba_beq]
    rfl
  · simp (disch := omega) only [obnd_s, obnd_n, oite_ss, oite_t, oite_f, ogrd_t, ogrd_f, obndS_l, obndS_r, ilt_eq, ile_eq, ieq_eq, imax_e, imin_e, k0, k1, k2, k3, k4, k5, k6, k7, k8, k9, reduceIte, k10, k11, k12, k13, k14, k15, k16, k17, k18, k19, k20, k21, k22, k23, k24, k25, k26, k27, k28, Int.lt_irrefl]
end
section
set_option linter.unusedSimpArgs false
set_option linter.unusedVariables false
open Go Go.RowKit

def is64 (n : Int) : Prop := -9223372036854775808 ≤ n ∧ n ≤ 9223372036854775807
theorem itoa_len {n : Int} (h : is64 n) : (Lib.itoa n).length ≤ 21 := by
  unfold is64 at h
  by_cases h0 : n < 0
  · rw [itoa_neg h0, List.length_cons]; have := digs_le (m := n.natAbs) (by omega); omega
  · rw [itoa_nn h0]; have := digs_le (m := n.natAbs) (by omega); omega
theorem f385_e {n : Int} (h : is64 n) : f385 n = some (mkB (Lib.itoa n)) := by
  unfold f385
  rw [show in64 n = true from decide_eq_true h]; rfl
theorem f388_e {n : Int} (h : is64 n) : f388 n = some (mkB (Lib.itoa n)) := by
  unfold f388
  rw [show in64 n = true from decide_eq_true h]; rfl
theorem mkB_app (a b : List UInt8) : mkB a ++ mkB b = mkB (a ++ b) := by
  show (⟨a.toArray⟩ : ByteArray) ++ ⟨b.toArray⟩ = ⟨(a ++ b).toArray⟩
  rw [ByteArray.mk_append_mk]
theorem ba_eta (s : ByteArray) : mkB s.data.toList = s := rfl
def partU (U D : List Int) (i : Nat) : List UInt8 := Lib.itoa (U.getD i 0) ++ 32 :: Lib.itoa (D.getD i 0)
def partP (p : ByteArray × Int) : List UInt8 := p.1.data.toList ++ 32 :: Lib.itoa p.2
def tl (l : List (List UInt8)) : List UInt8 := Lib.joinTail [59] l
theorem tl_snoc (l : List (List UInt8)) (x : List UInt8) : tl (l ++ [x]) = tl l ++ 59 :: x := by simp [tl, Lib.joinTail]
theorem tl_len : ∀ (l : List (List UInt8)), (∀ x, x ∈ l → x.length ≤ 2000) → (tl l).length ≤ l.length * 2001
  | [], _ => by simp [tl, Lib.joinTail]
  | x :: r, h => by
    have h1 := tl_len r (fun y hy => h y (by simp [hy]))
    have h2 := h x (by simp)
    have : tl (x :: r) = 59 :: x ++ tl r := by simp [tl, Lib.joinTail]
    rw [this, List.length_append, List.length_cons, List.length_cons]
    omega
def partsR (U D : List Int) (P : Pn) : List (List UInt8) := (List.range (max U.length D.length)).map (partU U D) ++ P.map partP
def fmtR (U D : List Int) (H : Int) (P : Pn) : List UInt8 := Lib.itoa H ++ tl (partsR U D P)

structure fit (U D : List Int) (H : Int) (P : Pn) : Prop where
  u : U.length ≤ 1000
  d : D.length ≤ 1000
  p : P.length ≤ 1000
  n : ∀ x, x ∈ P → x.1.size ≤ 1000
  iu : ∀ x, x ∈ U → is64 x
  id : ∀ x, x ∈ D → is64 x
  ih : is64 H
  ip : ∀ x, x ∈ P → is64 x.2
section
variable {U D : List Int} {H : Int} {P : Pn} (F : fit U D H P)
include F
theorem fit.gu (i : Nat) : is64 (U.getD i 0) := by
  rw [List.getD_eq_getElem?_getD]
  cases h : U[i]? with
  | none => exact ⟨by simp, by simp⟩
  | some x => exact F.iu x (List.mem_of_getElem? h)
theorem fit.gd (i : Nat) : is64 (D.getD i 0) := by
  rw [List.getD_eq_getElem?_getD]
  cases h : D[i]? with
  | none => exact ⟨by simp, by simp⟩
  | some x => exact F.id x (List.mem_of_getElem? h)
theorem fit.lu (i : Nat) : (partU U D i).length ≤ 2000 := by
  have h1 := itoa_len (F.gu i)
  have h2 := itoa_len (F.gd i)
  unfold partU; simp only [List.length_append, List.length_cons]; omega
theorem fit.lp (x : ByteArray × Int) (h : x ∈ P) : (partP x).length ≤ 2000 := by
  have h1 := itoa_len (F.ip x h)
  have h2 := F.n x h
  have h3 := size_data x.1
  unfold partP; simp only [List.length_append, List.length_cons]; omega
end
theorem f389_e {L : List Int} {i : Nat} (h : ∀ x, x ∈ L → is64 x) : f389 L (i : Int) = some (mkB (Lib.itoa (L.getD i 0))) := by
  unfold f389
  by_cases hi : i < L.length
  · have hg : L.getD i 0 = L[i] := by simp [List.getD, hi]
    rw [hg]
    have h5 := f385_e (h L[i] (List.getElem_mem hi))
    simp (disch := omega) only [obnd_s, obnd_n, oite_ss, oite_t, oite_f, ogrd_t, ogrd_f, obndS_l, obndS_r, ilt_eq, ile_eq, ieq_eq, imax_e, imin_e, k0, k1, k2, k3, k4, k5, k6, k7, k8, k9, reduceIte, k10, k11, k12, k13, k14, k15, k16, k17, k18, k19, k20, k21, k22, k23, k24, k25, k26, k27, k28, hi, get_i hi, h5]
  · have hg : L.getD i 0 = 0 := by simp [List.getD, Nat.le_of_not_lt hi]
    rw [hg]
    have h5 := f385_e (n := 0) ⟨by omega, by omega⟩
    simp (disch := omega) only [obnd_s, obnd_n, oite_ss, oite_t, oite_f, ogrd_t, ogrd_f, obndS_l, obndS_r, ilt_eq, ile_eq, ieq_eq, imax_e, imin_e, k0, k1, k2, k3, k4, k5, k6, k7, k8, k9, reduceIte, k10, k11, k12, k13, k14, k15, k16, k17, k18, k19, k20, k21, k22, k23, k24, k25, k26, k27, k28, hi, h5]
theorem ble_t {n m : Nat} (h : n ≤ m) : Nat.ble n m = true := by rw [Nat.ble_eq]; exact h
theorem f377_e {U D : List Int} {H : Int} {P : Pn} (F : fit U D H P) : f377 U D H P = some (mkB (fmtR U D H P)) := by
  have e32 : (⟨#[32]⟩ : ByteArray) = mkB [32] := rfl
  have e59 : (⟨#[59]⟩ : ByteArray) = mkB [59] := rfl
  unfold f377
  have hmax : imax ((U.length : Nat) : Int) ((D.length : Nat) : Int) = ((max U.length D.length : Nat) : Int) := by rw [imax_e]; omega
  simp only [List.length_map, hmax, e32, e59]
  generalize hN : max U.length D.length = N
  have hN1 : N ≤ 1000 := by have := F.u; have := F.d; omega
  rw [f385_e F.ih]
  simp only [obnd_s]
  rw [oloop_all (fun i => (mkB (Lib.itoa H) :: (List.range i).map (fun i => mkB (partU U D i)), (i : Int))) N (r := mkB (Lib.itoa H) :: (List.range N).map (fun i => mkB (partU U D i))) (e0 := (([mkB (Lib.itoa H)] : List ByteArray), (0 : Int))) rfl ?_ ?_]
  · simp only [obnd_s]
    rw [oloop_all (fun i => (mkB (Lib.itoa H) :: (List.range N).map (fun i => mkB (partU U D i)) ++ (P.take i).map (fun p => mkB (partP p)), (i : Int))) P.length (r := mkB (Lib.itoa H) :: (List.range N).map (fun i => mkB (partU U D i)) ++ P.map (fun p => mkB (partP p))) (e0 := (mkB (Lib.itoa H) :: (List.range N).map (fun i => mkB (partU U D i)), (0 : Int))) (by simp) ?_ ?_]
    · simp only [obnd_s]
      have hl : (tl (partsR U D P)).length ≤ (partsR U D P).length * 2001 := tl_len _ (fun x hx => by
        unfold partsR at hx
        rcases List.mem_append.1 hx with hx | hx
        · obtain ⟨i, _, rfl⟩ := List.mem_map.1 hx; exact F.lu i
        · obtain ⟨p, hp, rfl⟩ := List.mem_map.1 hx; exact F.lp p hp)
      have hpl : (partsR U D P).length ≤ 2000 := by have := F.p; unfold partsR; simp; omega
      have hil := itoa_len F.ih
      unfold f384
      have e1 : ((mkB (Lib.itoa H) :: (List.range N).map (fun i => mkB (partU U D i)) ++ P.map (fun p => mkB (partP p))).map (·.data.toList)) = Lib.itoa H :: partsR U D P := by
        unfold partsR
        rw [hN]
        simp only [List.map_append, List.map_cons, List.map_map, List.cons_append]
        rfl
      have e2 : Lib.join (Lib.itoa H :: partsR U D P) (mkB [59]).data.toList = fmtR U D H P := Lib.join_cons _ _ _
      have e3 : (fmtR U D H P).length ≤ 140737488355328 := by
        unfold fmtR; rw [List.length_append]; omega
      simp only [e1, e2]
      rw [decide_eq_true ⟨by have := F.p; simp; omega, e3⟩]
      rfl
    · intro i hi
      have hx := F.n P[i] (List.getElem_mem hi)
      have h5 := f385_e (F.ip P[i] (List.getElem_mem hi))
      have hil := itoa_len (F.ip P[i] (List.getElem_mem hi))
      have hp1 := F.p
      simp (disch := omega) only [obnd_s, obnd_n, oite_ss, oite_t, oite_f, ogrd_t, ogrd_f, obndS_l, obndS_r, ilt_eq, ile_eq, ieq_eq, imax_e, imin_e, k0, k1, k2, k3, k4, k5, k6, k7, k8, k9, reduceIte, k10, k11, k12, k13, k14, k15, k16, k17, k18, k19, k20, k21, k22, k23, k24, k25, k26, k27, k28, hi, get_i hi, h5, wr]
      rw [ble_t (by simp only [size_mk, List.length_append, List.length_cons, List.length_nil, size_data]; omega)]
      rw [← ba_eta P[i].1, mkB_app, mkB_app, ble_t (by simp only [size_mk, List.length_append, List.length_cons, List.length_nil, size_data]; omega)]
      simp (disch := omega) only [obnd_s, obnd_n, oite_ss, oite_t, oite_f, ogrd_t, ogrd_f, obndS_l, obndS_r, ilt_eq, ile_eq, ieq_eq, imax_e, imin_e, k0, k1, k2, k3, k4, k5, k6, k7, k8, k9, reduceIte, k10, k11, k12, k13, k14, k15, k16, k17, k18, k19, k20, k21, k22, k23, k24, k25, k26, k27, k28]
      have hpp : mkB (P[i].1.data.toList ++ [32] ++ Lib.itoa P[i].2) = mkB (partP P[i]) := by unfold partP; simp
      rw [ogrd_fits (by simp; omega) (by simp; omega), List.take_succ_eq_append_getElem hi, hpp]
      simp only [List.map_append, List.map_cons, List.map_nil, List.append_assoc, List.cons_append]
      rfl
    · rw [List.take_length]
      simp (disch := omega) only [obnd_s, obnd_n, oite_ss, oite_t, oite_f, ogrd_t, ogrd_f, obndS_l, obndS_r, ilt_eq, ile_eq, ieq_eq, imax_e, imin_e, k0, k1, k2, k3, k4, k5, k6, k7, k8, k9, reduceIte, k10, k11, k12, k13, k14, k15, k16, k17, k18, k19, k20, k21, k22, k23, k24, k25, k26, k27, k28, Int.lt_irrefl]
  · intro i hi
    have h1 := f389_e (L := U) (i := i) F.iu
    have h2 := f389_e (L := D) (i := i) F.id
    have l1 := itoa_len (F.gu i)
    have l2 := itoa_len (F.gd i)
    simp (disch := omega) only [obnd_s, obnd_n, oite_ss, oite_t, oite_f, ogrd_t, ogrd_f, obndS_l, obndS_r, ilt_eq, ile_eq, ieq_eq, imax_e, imin_e, k0, k1, k2, k3, k4, k5, k6, k7, k8, k9, reduceIte, k10, k11, k12, k13, k14, k15, k16, k17, k18, k19, k20, k21, k22, k23, k24, k25, k26, k27, k28, hi, h1, h2, wr]
    rw [ble_t (by simp only [size_mk, List.length_append, List.length_cons, List.length_nil, size_data]; omega), mkB_app, mkB_app, ble_t (by simp only [size_mk, List.length_append, List.length_cons, List.length_nil, size_data]; omega)]
    simp (disch := omega) only [obnd_s, obnd_n, oite_ss, oite_t, oite_f, ogrd_t, ogrd_f, obndS_l, obndS_r, ilt_eq, ile_eq, ieq_eq, imax_e, imin_e, k0, k1, k2, k3, k4, k5, k6, k7, k8, k9, reduceIte, k10, k11, k12, k13, k14, k15, k16, k17, k18, k19, k20, k21, k22, k23, k24, k25, k26, k27, k28]
    have hpp : mkB (Lib.itoa (U.getD i 0) ++ [32] ++ Lib.itoa (D.getD i 0)) = mkB (partU U D i) := by unfold partU; simp
    rw [ogrd_fits (by simp; omega) (by simp; omega), List.range_succ, hpp]
    simp only [List.map_append, List.map_cons, List.map_nil, List.cons_append]
    rfl
  · simp (disch := omega) only [obnd_s, obnd_n, oite_ss, oite_t, oite_f, ogrd_t, ogrd_f, obndS_l, obndS_r, ilt_eq, ile_eq, ieq_eq, imax_e, imin_e, k0, k1, k2, k3, k4, k5, k6, k7, k8, k9, reduceIte, k10, k11, k12, k13, k14, k15, k16, k17, k18, k19, k20, k21, k22, k23, k24, k25, k26, k27, k28, Int.lt_irrefl]

theorem f380_e {U D : List Int} {H : Int} {P : Pn} (F : fit U D H P) : f380 U D H P = some (mkB (fmtR U D H P)) := by
  have e32 : (⟨#[32]⟩ : ByteArray) = mkB [32] := rfl
  have e59 : (⟨#[59]⟩ : ByteArray) = mkB [59] := rfl
  unfold f380
  simp only [List.length_map, e32, e59]
  have hN1 : max U.length D.length ≤ 1000 := by have := F.u; have := F.d; omega
  have hil := itoa_len F.ih
  have hR : ∀ k, (tl ((List.range k).map (partU U D))).length ≤ k * 2001 := fun k => by
    have := tl_len ((List.range k).map (partU U D)) (fun x hx => by obtain ⟨i, _, rfl⟩ := List.mem_map.1 hx; exact F.lu i)
    simpa using this
  rw [f388_e F.ih]
  simp only [obnd_s]
  rw [oloop_all (fun i => (mkB (Lib.itoa H ++ tl ((List.range i).map (partU U D))), (i : Int))) (max U.length D.length) (r := mkB (Lib.itoa H ++ tl ((List.range (max U.length D.length)).map (partU U D)))) (e0 := (mkB (Lib.itoa H), (0 : Int))) (by simp [tl, Lib.joinTail]) ?_ ?_]
  · simp only [obnd_s]
    rw [oloop_all (fun i => (mkB (Lib.itoa H ++ tl ((List.range (max U.length D.length)).map (partU U D) ++ (P.take i).map partP)), (i : Int))) P.length (r := mkB (fmtR U D H P)) (e0 := (mkB (Lib.itoa H ++ tl ((List.range (max U.length D.length)).map (partU U D))), (0 : Int))) (by simp) ?_ ?_]
    · rfl
    · intro i hi
      have hx := F.n P[i] (List.getElem_mem hi)
      have h5 := f388_e (F.ip P[i] (List.getElem_mem hi))
      have hil2 := itoa_len (F.ip P[i] (List.getElem_mem hi))
      have hp1 := F.p
      have hl : (tl ((List.range (max U.length D.length)).map (partU U D) ++ (P.take i).map partP)).length ≤ 4002000 := by
        have := tl_len ((List.range (max U.length D.length)).map (partU U D) ++ (P.take i).map partP) (fun x hx => by
          rcases List.mem_append.1 hx with hx | hx
          · obtain ⟨i, _, rfl⟩ := List.mem_map.1 hx; exact F.lu i
          · obtain ⟨p, hp, rfl⟩ := List.mem_map.1 hx; exact F.lp p (List.mem_of_mem_take hp))
        have h2 : ((List.range (max U.length D.length)).map (partU U D) ++ (P.take i).map partP).length ≤ 2000 := by simp; omega
        omega
      have hsucc : (List.range (max U.length D.length)).map (partU U D) ++ (P.take (i + 1)).map partP = ((List.range (max U.length D.length)).map (partU U D) ++ (P.take i).map partP) ++ [partP P[i]] := by
        rw [List.take_succ_eq_append_getElem hi, List.map_append, List.append_assoc]; rfl
      rw [hsucc, tl_snoc]
      generalize tl ((List.range (max U.length D.length)).map (partU U D) ++ (P.take i).map partP) = T at hl
      simp (disch := omega) only [obnd_s, obnd_n, oite_ss, oite_t, oite_f, ogrd_t, ogrd_f, obndS_l, obndS_r, ilt_eq, ile_eq, ieq_eq, imax_e, imin_e, k0, k1, k2, k3, k4, k5, k6, k7, k8, k9, reduceIte, k10, k11, k12, k13, k14, k15, k16, k17, k18, k19, k20, k21, k22, k23, k24, k25, k26, k27, k28, hi, get_i hi, h5, wr]
      rw [← ba_eta P[i].1, mkB_app, ble_t (by simp only [size_mk, List.length_append, List.length_cons, List.length_nil, size_data]; omega), ble_t (by simp only [size_mk, List.length_append, List.length_cons, List.length_nil, size_data]; omega)]
      simp (disch := omega) only [obnd_s, obnd_n, oite_ss, oite_t, oite_f, ogrd_t, ogrd_f, obndS_l, obndS_r, ilt_eq, ile_eq, ieq_eq, imax_e, imin_e, k0, k1, k2, k3, k4, k5, k6, k7, k8, k9, reduceIte, k10, k11, k12, k13, k14, k15, k16, k17, k18, k19, k20, k21, k22, k23, k24, k25, k26, k27, k28]
      rw [mkB_app, ble_t (by simp only [size_mk, List.length_append, List.length_cons, List.length_nil, size_data]; omega)]
      simp (disch := omega) only [obnd_s, obnd_n, oite_ss, oite_t, oite_f, ogrd_t, ogrd_f, obndS_l, obndS_r, ilt_eq, ile_eq, ieq_eq, imax_e, imin_e, k0, k1, k2, k3, k4, k5, k6, k7, k8, k9, reduceIte, k10, k11, k12, k13, k14, k15, k16, k17, k18, k19, k20, k21, k22, k23, k24, k25, k26, k27, k28]
      rw [mkB_app, ble_t (by simp only [size_mk, List.length_append, List.length_cons, List.length_nil, size_data]; omega)]
      simp (disch := omega) only [obnd_s, obnd_n, oite_ss, oite_t, oite_f, ogrd_t, ogrd_f, obndS_l, obndS_r, ilt_eq, ile_eq, ieq_eq, imax_e, imin_e, k0, k1, k2, k3, k4, k5, k6, k7, k8, k9, reduceIte, k10, k11, k12, k13, k14, k15, k16, k17, k18, k19, k20, k21, k22, k23, k24, k25, k26, k27, k28]
      rw [mkB_app]
      have hpp : Lib.itoa H ++ T ++ [59] ++ P[i].1.data.toList ++ [32] ++ Lib.itoa P[i].2 = Lib.itoa H ++ (T ++ 59 :: partP P[i]) := by unfold partP; simp
      rw [hpp]
      rfl
    · unfold fmtR partsR
      rw [List.take_length]
      simp (disch := omega) only [obnd_s, obnd_n, oite_ss, oite_t, oite_f, ogrd_t, ogrd_f, obndS_l, obndS_r, ilt_eq, ile_eq, ieq_eq, imax_e, imin_e, k0, k1, k2, k3, k4, k5, k6, k7, k8, k9, reduceIte, k10, k11, k12, k13, k14, k15, k16, k17, k18, k19, k20, k21, k22, k23, k24, k25, k26, k27, k28, Int.lt_irrefl]
  · intro i hi
    have h1 := f388_e (F.gu i)
    have h2 := f388_e (F.gd i)
    have l1 := itoa_len (F.gu i)
    have l2 := itoa_len (F.gd i)
    have hl := hR i
    rw [List.range_succ, List.map_append, List.map_cons, List.map_nil, tl_snoc]
    generalize tl ((List.range i).map (partU U D)) = T at hl
    have hg : ∀ L : List Int, (oite (ilt (i : Int) (L.length : Int)) (ogrd (ile 0 (i : Int)) (obnd (L[((i : Int)).toNat]?) fun (x24 : Int) => some x24)) (some (0 : Int))) = some (L.getD i 0) := fun L => by
      by_cases h : i < L.length
      · simp (disch := omega) only [obnd_s, obnd_n, oite_ss, oite_t, oite_f, ogrd_t, ogrd_f, obndS_l, obndS_r, ilt_eq, ile_eq, ieq_eq, imax_e, imin_e, k0, k1, k2, k3, k4, k5, k6, k7, k8, k9, reduceIte, k10, k11, k12, k13, k14, k15, k16, k17, k18, k19, k20, k21, k22, k23, k24, k25, k26, k27, k28, h, get_i h]
        simp [List.getD, h]
      · simp (disch := omega) only [obnd_s, obnd_n, oite_ss, oite_t, oite_f, ogrd_t, ogrd_f, obndS_l, obndS_r, ilt_eq, ile_eq, ieq_eq, imax_e, imin_e, k0, k1, k2, k3, k4, k5, k6, k7, k8, k9, reduceIte, k10, k11, k12, k13, k14, k15, k16, k17, k18, k19, k20, k21, k22, k23, k24, k25, k26, k27, k28, h]
        simp [List.getD, Nat.le_of_not_lt h]
    simp only [hg]
    have hor : (oite (ilt (i : Int) (U.length : Int)) (some (Sum.inl () : Unit ⊕ ((ByteArray × Int) ⊕ ByteArray))) (oite (ilt (i : Int) (D.length : Int)) (some (.inl ())) (some (.inr (.inr (mkB (Lib.itoa H ++ T))))))) = some (.inl ()) := by
      by_cases h : i < U.length
      · simp (disch := omega) only [obnd_s, obnd_n, oite_ss, oite_t, oite_f, ogrd_t, ogrd_f, obndS_l, obndS_r, ilt_eq, ile_eq, ieq_eq, imax_e, imin_e, k0, k1, k2, k3, k4, k5, k6, k7, k8, k9, reduceIte, k10, k11, k12, k13, k14, k15, k16, k17, k18, k19, k20, k21, k22, k23, k24, k25, k26, k27, k28, h]
      · have h' : i < D.length := by omega
        simp (disch := omega) only [obnd_s, obnd_n, oite_ss, oite_t, oite_f, ogrd_t, ogrd_f, obndS_l, obndS_r, ilt_eq, ile_eq, ieq_eq, imax_e, imin_e, k0, k1, k2, k3, k4, k5, k6, k7, k8, k9, reduceIte, k10, k11, k12, k13, k14, k15, k16, k17, k18, k19, k20, k21, k22, k23, k24, k25, k26, k27, k28, h, h']
    rw [hor]
    simp (disch := omega) only [obnd_s, obnd_n, oite_ss, oite_t, oite_f, ogrd_t, ogrd_f, obndS_l, obndS_r, ilt_eq, ile_eq, ieq_eq, imax_e, imin_e, k0, k1, k2, k3, k4, k5, k6, k7, k8, k9, reduceIte, k10, k11, k12, k13, k14, k15, k16, k17, k18, k19, k20, k21, k22, k23, k24, k25, k26, k27, k28, h1, h2, wr]
    rw [mkB_app, ble_t (by simp only [size_mk, List.length_append, List.length_cons, List.length_nil, size_data]; omega), ble_t (by simp only [size_mk, List.length_append, List.length_cons, List.length_nil, size_data]; omega)]
    simp (disch := omega) only [obnd_s, obnd_n, oite_ss, oite_t, oite_f, ogrd_t, ogrd_f, obndS_l, obndS_r, ilt_eq, ile_eq, ieq_eq, imax_e, imin_e, k0, k1, k2, k3, k4, k5, k6, k7, k8, k9, reduceIte, k10, k11, k12, k13, k14, k15, k16, k17, k18, k19, k20, k21, k22, k23, k24, k25, k26, k27, k28]
    rw [mkB_app, ble_t (by simp only [size_mk, List.length_append, List.length_cons, List.length_nil, size_data]; omega)]
    simp (disch := omega) only [obnd_s, obnd_n, oite_ss, oite_t, oite_f, ogrd_t, ogrd_f, obndS_l, obndS_r, ilt_eq, ile_eq, ieq_eq, imax_e, imin_e, k0, k1, k2, k3, k4, k5, k6, k7, k8, k9, reduceIte, k10, k11, k12, k13, k14, k15, k16, k17, k18, k19, k20, k21, k22, k23, k24, k25, k26, k27, k28]
    rw [mkB_app, ble_t (by simp only [size_mk, List.length_append, List.length_cons, List.length_nil, size_data]; omega)]
    simp (disch := omega) only [obnd_s, obnd_n, oite_ss, oite_t, oite_f, ogrd_t, ogrd_f, obndS_l, obndS_r, ilt_eq, ile_eq, ieq_eq, imax_e, imin_e, k0, k1, k2, k3, k4, k5, k6, k7, k8, k9, reduceIte, k10, k11, k12, k13, k14, k15, k16, k17, k18, k19, k20, k21, k22, k23, k24, k25, k26, k27, k28]
    rw [mkB_app]
    have hpp : Lib.itoa H ++ T ++ [59] ++ Lib.itoa (U.getD i 0) ++ [32] ++ Lib.itoa (D.getD i 0) = Lib.itoa H ++ (T ++ 59 :: partU U D i) := by unfold partU; simp
    rw [hpp]
    rfl
  · have h1 : ¬ max U.length D.length < U.length := by omega
    have h2 : ¬ max U.length D.length < D.length := by omega
    simp (disch := omega) only [obnd_s, obnd_n, oite_ss, oite_t, oite_f, ogrd_t, ogrd_f, obndS_l, obndS_r, ilt_eq, ile_eq, ieq_eq, imax_e, imin_e, k0, k1, k2, k3, k4, k5, k6, k7, k8, k9, reduceIte, k10, k11, k12, k13, k14, k15, k16, k17, k18, k19, k20, k21, k22, k23, k24, k25, k26, k27, k28, h1, h2]
end
section
set_option linter.unusedSimpArgs false
set_option linter.unusedVariables false
open Go Go.RowKit

def small (U D : List Int) (P : List (ByteArray × Int)) : Prop := U.length ≤ 1000 ∧ D.length ≤ 1000 ∧ P.length ≤ 1000 ∧ ∀ p, p ∈ P → p.1.size ≤ 1000
theorem f38_e {L : List Int} (h : L.length ≤ 1000000000) : f38 L = some L := by
  unfold f38; rw [ogrd_fits (by simp; omega) (by simp; omega)]; rfl
theorem f37_e {U D : List Int} {H : Int} {P : List (ByteArray × Int)} (h : small U D P) : f37 U D H P = some (U, D, H, P) := by
  unfold f37
  obtain ⟨h1, h2, h3, _⟩ := h
  rw [f38_e (by omega), f38_e (by omega)]
  simp only [obnd_s]
  rw [ogrd_fits (by simp; omega) (by simp; omega)]; rfl

/-! ### What rules that are valid are -/
theorem errs_none {f : Nat → Int} {n : Nat} (h : errs f n = none) : ∀ i, i < n → f i = 0 := by
  intro i hi
  have := scanF_none h i (Nat.zero_le _) (by omega)
  cases hd : decide (f i = 0) with
  | true => exact of_decide_eq_true hd
  | false => rw [hd] at this; cases this
theorem errs_some {f : Nat → Int} {n : Nat} {r : Int × Int} (h : errs f n = some r) : r.2 ≠ 0 := by
  unfold errs at h
  have key : ∀ (k i : Nat), scanF (fun i => bif !decide (f i = 0) then some ((i : Int), f i) else none) k i = some r → r.2 ≠ 0 := by
    intro k
    induction k with
    | zero => intro i h; cases h
    | succ k ih =>
      intro i h
      simp only [scanF] at h
      cases hd : decide (f i = 0) with
      | true => rw [hd] at h; exact ih (i + 1) h
      | false => rw [hd] at h; injection h with h; rw [← h]; exact of_decide_eq_false hd
  exact key n 0 h
structure okR (U D : List Int) (H : Int) (P : List (ByteArray × Int)) : Prop where
  pos : 0 < U.length
  le : U.length ≤ 5
  len : D.length = U.length
  step : ∀ i, i < U.length → stepE U D i = 0
  hold : 0 ≤ H ∧ H ≤ 1000000
  few : P.length ≤ 10
  pers : ∀ i, i < P.length → persE U.length P i = 0
theorem ckR_ok {U D : List Int} {H : Int} {P : List (ByteArray × Int)} (h : (ckR U D H P).2 = 0) : okR U D H P ∧ ckR U D H P = (0, 0) := by
  unfold ckR at h ⊢
  cases h1 : (decide (U.length = 0) || !decide (D.length = U.length)) with
  | true => rw [h1] at h; cases h
  | false =>
    rw [h1] at h
    simp only [cond_false] at h ⊢
    simp only [Bool.or_eq_false_iff, Bool.not_eq_false', decide_eq_true_eq, decide_eq_false_iff_not] at h1
    cases h2 : decide (5 < U.length) with
    | true => rw [h2] at h; cases h
    | false =>
      rw [h2] at h
      simp only [cond_false] at h ⊢
      cases h3 : errs (stepE U D) U.length with
      | some r => rw [h3] at h; exact absurd h (errs_some h3)
      | none =>
        rw [h3] at h
        simp only at h ⊢
        cases h4 : (decide (0 ≤ H) && decide (H ≤ 1000000)) with
        | false => rw [h4] at h; cases h
        | true =>
          rw [h4] at h
          simp only [Bool.not_true, cond_false] at h ⊢
          simp only [Bool.and_eq_true, decide_eq_true_eq] at h4
          cases h5 : decide (10 < P.length) with
          | true => rw [h5] at h; cases h
          | false =>
            rw [h5] at h
            simp only [cond_false] at h ⊢
            cases h6 : errs (persE U.length P) P.length with
            | some r => rw [h6] at h; exact absurd h (errs_some h6)
            | none =>
              simp only [decide_eq_false_iff_not] at h2 h5
              exact ⟨⟨by omega, by omega, h1.2, errs_none h3, h4, by omega, errs_none h6⟩, rfl⟩
theorem f35_e {U D : List Int} {H : Int} {P : List (ByteArray × Int)} : ∃ b, f35 U D H P = some b ∧ (b = true → small U D P) := by
  unfold f35
  have e1 : decide ((7 : Int) < ((U.length : Nat) : Int)) = decide (7 < U.length) := by rw [Bool.eq_iff_iff, decide_eq_true_eq, decide_eq_true_eq]; omega
  have e2 : decide ((7 : Int) < ((D.length : Nat) : Int)) = decide (7 < D.length) := by rw [Bool.eq_iff_iff, decide_eq_true_eq, decide_eq_true_eq]; omega
  have e3 : decide ((12 : Int) < ((P.length : Nat) : Int)) = decide (12 < P.length) := by rw [Bool.eq_iff_iff, decide_eq_true_eq, decide_eq_true_eq]; omega
  simp (disch := omega) only [obnd_s, obnd_n, oite_ss, oite_t, oite_f, ogrd_t, ogrd_f, obndS_l, obndS_r, ilt_eq, ile_eq, ieq_eq, imax_e, imin_e, k0, k1, k2, k3, k4, k5, k6, k7, k8, k9, reduceIte, k10, k11, k12, k13, k14, k15, k16, k17, k18, k19, k20, k21, k22, k23, k24, k25, k26, k27, k28, e1, e2, e3]
  cases h1 : decide (7 < U.length) || decide (7 < D.length) || decide (12 < P.length) with
  | true => exact ⟨false, rfl, fun h => by cases h⟩
  | false =>
    simp only [Bool.or_eq_false_iff, decide_eq_false_iff_not] at h1
    simp (disch := omega) only [obnd_s, obnd_n, oite_ss, oite_t, oite_f, ogrd_t, ogrd_f, obndS_l, obndS_r, ilt_eq, ile_eq, ieq_eq, imax_e, imin_e, k0, k1, k2, k3, k4, k5, k6, k7, k8, k9, reduceIte, k10, k11, k12, k13, k14, k15, k16, k17, k18, k19, k20, k21, k22, k23, k24, k25, k26, k27, k28]
    rw [oloop_scanB (fun i => (i : Int)) P.length (fun i => decide (30 < ((gp P i).1.size : Int))) (fun i => .inr false) (d := .inl ()) (e0 := 0) rfl ?_ ?_]
    · cases hsc : scanF (fun i => bif decide (30 < ((gp P i).1.size : Int)) then some (Sum.inr false : Unit ⊕ Bool) else none) P.length 0 with
      | none =>
        refine ⟨true, rfl, fun _ => ⟨by omega, by omega, by omega, fun p hp => ?_⟩⟩
        obtain ⟨i, hi, rfl⟩ := List.getElem_of_mem hp
        have := scanF_none hsc i (Nat.zero_le _) (by omega)
        have hg : gp P i = P[i] := by unfold gp; exact getD_i hi
        rw [← hg]
        cases hd : decide (30 < ((gp P i).1.size : Int)) with
        | true => rw [hd] at this; cases this
        | false => have := of_decide_eq_false hd; omega
      | some r =>
        refine ⟨false, ?_, fun h => by cases h⟩
        have hr : r = .inr false := by
          have key : ∀ (k i : Nat), scanF (fun i => bif decide (30 < ((gp P i).1.size : Int)) then some (Sum.inr false : Unit ⊕ Bool) else none) k i = some r → r = .inr false := by
            intro k
            induction k with
            | zero => intro i h; cases h
            | succ k ih =>
              intro i h
              simp only [scanF] at h
              cases hd : decide (30 < ((gp P i).1.size : Int)) with
              | true => rw [hd] at h; injection h with h; exact h.symm
              | false => rw [hd] at h; exact ih (i + 1) h
          exact key _ _ hsc
        rw [hr]; rfl
    · intro i hi
      simp (disch := omega) only [obnd_s, obnd_n, oite_ss, oite_t, oite_f, ogrd_t, ogrd_f, obndS_l, obndS_r, ilt_eq, ile_eq, ieq_eq, imax_e, imin_e, k0, k1, k2, k3, k4, k5, k6, k7, k8, k9, reduceIte, k10, k11, k12, k13, k14, k15, k16, k17, k18, k19, k20, k21, k22, k23, k24, k25, k26, k27, k28, hi, get_gp hi, wr]; rfl
    · simp (disch := omega) only [obnd_s, obnd_n, oite_ss, oite_t, oite_f, ogrd_t, ogrd_f, obndS_l, obndS_r, ilt_eq, ile_eq, ieq_eq, imax_e, imin_e, k0, k1, k2, k3, k4, k5, k6, k7, k8, k9, reduceIte, k10, k11, k12, k13, k14, k15, k16, k17, k18, k19, k20, k21, k22, k23, k24, k25, k26, k27, k28, Int.lt_irrefl]

theorem cutS_app {c : UInt8} {b : List UInt8} : ∀ {a : List UInt8}, c ∉ a → cutS c (a ++ c :: b) = (a, b, true)
  | [], _ => by simp [cutS]
  | x :: a, h => by
    simp only [List.mem_cons, not_or] at h
    simp only [List.cons_append, cutS, if_neg (Ne.symm h.1), cutS_app h.2]
theorem spl_join {c : UInt8} : ∀ (l : List (List UInt8)) (p : List UInt8), c ∉ p → (∀ x, x ∈ l → c ∉ x) → spl c (p ++ (l.map (c :: ·)).flatten) = p :: l
  | [], p, h, _ => by simp [spl_no h]
  | x :: l, p, h, hl => by
    have ih := spl_join l x (hl x (by simp)) (fun y hy => hl y (by simp [hy]))
    simp only [List.map_cons, List.flatten_cons, List.cons_append]
    rw [spl_app h, ih]
theorem tl_eq (l : List (List UInt8)) : tl l = (l.map ((59 : UInt8) :: ·)).flatten := by simp [tl, Lib.joinTail]
theorem name_ok {s : ByteArray} (h : nameB s = true) : letB s = true ∧ (∀ x, x ∈ s.data.toList → x ≠ 32 ∧ x ≠ 59) ∧ s.size ≤ 12 := by
  unfold nameB at h
  simp only [Bool.and_eq_true, decide_eq_true_eq, Option.isNone_iff_eq_none] at h
  obtain ⟨⟨h1, h2⟩, h3⟩ := h
  have hb : ∀ i, i < s.size → badC i (s.data.toList.getD i 0).toNat = false := fun i hi => by
    have := scanF_none h3 i (Nat.zero_le _) (by omega)
    cases hd : badC i (s.data.toList.getD i 0).toNat with
    | true => rw [hd] at this; cases this
    | false => rfl
  have hl := size_data s
  refine ⟨?_, fun x hx => ?_, h2⟩
  · have h0 := hb 0 (by omega)
    unfold letB
    cases hd : s.data.toList with
    | nil => rw [hd] at hl; simp at hl; omega
    | cons a r =>
      rw [hd] at h0
      simp only [badC, List.getD_cons_zero, decide_true, Bool.true_or, Bool.and_true, Bool.not_eq_false'] at h0
      exact h0
  · obtain ⟨i, hi, rfl⟩ := List.getElem_of_mem hx
    have h0 := hb i (by omega)
    rw [getD_i hi] at h0
    constructor
    · intro e
      rw [e] at h0
      cases i <;> (simp [badC, letC] at h0)
    · intro e
      rw [e] at h0
      cases i <;> (simp [badC, letC] at h0)
theorem num7 {v : Int} (h : 0 ≤ v ∧ v ≤ 1000000) : numB (mkB (Lib.itoa v)) 7 false = true ∧ numV (mkB (Lib.itoa v)) = v :=
  num_t ⟨rfl, by rw [Lib.decDigits_length]; have := ndig_le 6 v.natAbs (by omega); omega⟩ (by omega) (.inr h.1)
theorem let_itoa {v : Int} (h : 0 ≤ v) : letB (mkB (Lib.itoa v)) = false := by
  unfold letB
  rw [show (mkB (Lib.itoa v)).data.toList = Lib.itoa v from rfl, itoa_nn (by omega)]
  cases hd : Lib.decDigits v.natAbs with
  | nil => exact absurd hd (digs_ne _)
  | cons c t =>
    have := of_decide_eq_true (digs_dg v.natAbs c (by rw [hd]; simp))
    simp only [letC]
    rw [decide_eq_false (by omega : ¬ 97 ≤ c.toNat), decide_eq_false (by omega : ¬ 65 ≤ c.toNat)]; rfl
theorem no_i (v : Int) : (32 : UInt8) ∉ Lib.itoa v ∧ (59 : UInt8) ∉ Lib.itoa v := ⟨itoa_no v 32 (by decide) (by decide), itoa_no v 59 (by decide) (by decide)⟩
theorem step_u {u d : Int} (hu : 0 ≤ u ∧ u ≤ 1000000) (hd : 0 ≤ d ∧ d ≤ 1000000) (A B : List Int) : stepD (mkB (Lib.itoa u ++ 32 :: Lib.itoa d)) (true, (A, B, [])) = (true, (A ++ [u], B ++ [d], [])) := by
  have hc : cutS 32 (mkB (Lib.itoa u ++ 32 :: Lib.itoa d)).data.toList = (Lib.itoa u, Lib.itoa d, true) := cutS_app (no_i u).1
  unfold stepD cl cr cf
  rw [hc]
  simp only [let_itoa hu.1, (num7 hu).1, (num7 hu).2, (num7 hd).1, (num7 hd).2]
  rfl
theorem step_p {p : ByteArray × Int} (hn : nameB p.1 = true) (hr : 0 ≤ p.2 ∧ p.2 ≤ 1000000) (st : Ru) : stepD (mkB (partP p)) (true, st) = (true, (st.1, st.2.1, st.2.2 ++ [p])) := by
  obtain ⟨h1, h2, _⟩ := name_ok hn
  have hc : cutS 32 (mkB (partP p)).data.toList = (p.1.data.toList, Lib.itoa p.2, true) := cutS_app (fun h => (h2 32 h).1 rfl)
  unfold stepD cl cr cf
  rw [hc]
  simp only [ba_eta, h1, (num7 hr).1, (num7 hr).2]
  rfl
theorem back {U D : List Int} {H : Int} {P : Pn} (h : (ckR U D H P).2 = 0) : f378 (mkB (fmtR U D H P)) = some (U, D, H, P, 0) := by
  obtain ⟨R, hck⟩ := ckR_ok h
  have hn : max U.length D.length = U.length := by have := R.len; omega
  have hle := R.le
  have hfew := R.few
  have hlen := R.len
  have hpos := R.pos
  have hthr : ∀ i, i < U.length → (0 ≤ U.getD i 0 ∧ U.getD i 0 ≤ 1000000) ∧ (0 ≤ D.getD i 0 ∧ D.getD i 0 ≤ 1000000) := fun i hi => by
    have := R.step i hi
    unfold stepE at this
    cases ht : (thr (gi U i) && thr (gi D i)) with
    | false => rw [ht] at this; cases this
    | true =>
      unfold thr gi at ht
      simp only [Bool.and_eq_true, decide_eq_true_eq] at ht
      omega
  have hpers : ∀ p, p ∈ P → nameB p.1 = true ∧ (0 ≤ p.2 ∧ p.2 ≤ 1000000) := fun p hp => by
    obtain ⟨i, hi, rfl⟩ := List.getElem_of_mem hp
    have := R.pers i hi
    have hg : gp P i = P[i] := by unfold gp; exact getD_i hi
    unfold persE at this
    rw [hg] at this
    cases h1 : nameB P[i].1 with
    | false => rw [h1] at this; cases this
    | true =>
      rw [h1] at this
      refine ⟨rfl, ?_⟩
      cases h2 : knownP P i with
      | true => rw [h2] at this; cases this
      | false =>
        rw [h2] at this
        cases h3 : (decide (1 ≤ P[i].2) && decide (P[i].2 ≤ (U.length : Int))) with
        | false => rw [h3] at this; cases this
        | true =>
          simp only [Bool.and_eq_true, decide_eq_true_eq] at h3
          omega
  have l7 : ∀ v : Int, 0 ≤ v ∧ v ≤ 1000000 → (Lib.itoa v).length ≤ 7 := fun v hv => by
    rw [itoa_nn (by omega), Lib.decDigits_length]
    exact ndig_le 6 v.natAbs (by omega)
  have hpart : ∀ x, x ∈ partsR U D P → (59 : UInt8) ∉ x ∧ x.length ≤ 20 := fun x hx => by
    unfold partsR at hx
    rcases List.mem_append.1 hx with hx | hx
    · obtain ⟨i, hi, rfl⟩ := List.mem_map.1 hx
      rw [hn] at hi
      obtain ⟨hu, hd⟩ := hthr i (List.mem_range.1 hi)
      refine ⟨fun h => ?_, ?_⟩
      · unfold partU at h
        rcases List.mem_append.1 h with h | h
        · exact (no_i _).2 h
        · rcases List.mem_cons.1 h with h | h
          · cases h
          · exact (no_i _).2 h
      · have h1 := l7 _ hu
        have h2 := l7 _ hd
        unfold partU; simp only [List.length_append, List.length_cons]; omega
    · obtain ⟨p, hp, rfl⟩ := List.mem_map.1 hx
      obtain ⟨h1, h2⟩ := hpers p hp
      obtain ⟨_, h4, h5⟩ := name_ok h1
      have h6 := size_data p.1
      have hr7 : p.2 ≤ 1000000 := h2.2
      refine ⟨fun h => ?_, ?_⟩
      · unfold partP at h
        rcases List.mem_append.1 h with h | h
        · exact (h4 59 h).2 rfl
        · rcases List.mem_cons.1 h with h | h
          · cases h
          · exact (no_i _).2 h
      · have h7 := l7 _ h2
        unfold partP; simp only [List.length_append, List.length_cons]; omega
  have hsp : (spl 59 (mkB (fmtR U D H P)).data.toList).map mkB = mkB (Lib.itoa H) :: (partsR U D P).map mkB := by
    rw [show (mkB (fmtR U D H P)).data.toList = fmtR U D H P from rfl]
    unfold fmtR
    rw [tl_eq, spl_join _ _ (no_i H).2 (fun x hx => (hpart x hx).1)]
    rfl
  have hH := R.hold
  have hpl : (partsR U D P).length ≤ 15 := by unfold partsR; simp; omega
  have hsize : (mkB (fmtR U D H P)).size ≤ 50000 := by
    rw [size_mk]
    unfold fmtR
    have h1 := tl_len (partsR U D P) (fun x hx => by have := (hpart x hx).2; omega)
    have h2 := l7 H hH
    rw [List.length_append]; omega
  rw [f378_e hsize hsp (fun x hx => by
    rcases List.mem_cons.1 hx with rfl | hx
    · rw [size_mk]; have := l7 H hH; omega
    · obtain ⟨y, hy, rfl⟩ := List.mem_map.1 hx
      rw [size_mk]; have := (hpart y hy).2; omega) (by rw [List.length_map]; omega)]
  have hm0 : 0 < ((partsR U D P).map mkB).length := by rw [List.length_map]; unfold partsR; simp; omega
  rw [(num7 hH).1, (num7 hH).2, decide_eq_true hm0]
  have f1 : ∀ k, k ≤ U.length → ((List.range k).map fun i => mkB (partU U D i)).foldl (fun st x => stepD x st) (true, ([], [], [])) = (true, (U.take k, D.take k, [])) := by
    intro k
    induction k with
    | zero => intro _; simp
    | succ k ih =>
      intro hk
      rw [List.range_succ, List.map_append, List.foldl_append, ih (by omega)]
      obtain ⟨hu, hd⟩ := hthr k (by omega)
      simp only [List.map_cons, List.map_nil, List.foldl_cons, List.foldl_nil]
      rw [show mkB (partU U D k) = mkB (Lib.itoa (U.getD k 0) ++ 32 :: Lib.itoa (D.getD k 0)) from rfl, step_u hu hd]
      rw [List.take_succ_eq_append_getElem (by omega), List.take_succ_eq_append_getElem (by omega), getD_i (by omega), getD_i (by omega)]
  have f2 : ∀ k, k ≤ P.length → ((P.take k).map fun p => mkB (partP p)).foldl (fun st x => stepD x st) (true, (U, D, [])) = (true, (U, D, P.take k)) := by
    intro k
    induction k with
    | zero => intro _; simp
    | succ k ih =>
      intro hk
      rw [List.take_succ_eq_append_getElem (by omega), List.map_append, List.foldl_append, ih (by omega)]
      obtain ⟨h1, h2⟩ := hpers P[k] (List.getElem_mem _)
      simp only [List.map_cons, List.map_nil, List.foldl_cons, List.foldl_nil]
      rw [step_p h1 h2]
  have hfold : ((partsR U D P).map mkB).foldl (fun st x => stepD x st) (true, ([], [], [])) = (true, (U, D, P)) := by
    unfold partsR
    rw [List.map_append, List.map_map, List.map_map, List.foldl_append, hn]
    have a1 := f1 U.length (Nat.le_refl _)
    have a2 := f2 P.length (Nat.le_refl _)
    rw [List.take_length] at a1 a2
    rw [show D.take U.length = D by rw [← hlen, List.take_length]] at a1
    show List.foldl _ (List.foldl _ _ ((List.range U.length).map fun i => mkB (partU U D i))) (P.map fun p => mkB (partP p)) = _
    rw [a1, a2]
  simp only [Bool.and_self]
  rw [hfold]
  unfold outS
  simp only [hck]
  rfl

theorem law372 {U D : List Int} {H : Int} {P : Pn} {s : ByteArray} (iu : ∀ x, x ∈ U → is64 x) (id : ∀ x, x ∈ D → is64 x) (ih : is64 H) (ip : ∀ x, x ∈ P → is64 x.2) : f372 U D H P s = some true := by
  unfold f372 f10
  obtain ⟨b, hb, hsm⟩ := f35_e (U := U) (D := D) (H := H) (P := P)
  cases b with
  | false => simp (disch := omega) only [obnd_s, obnd_n, oite_ss, oite_t, oite_f, ogrd_t, ogrd_f, obndS_l, obndS_r, ilt_eq, ile_eq, ieq_eq, imax_e, imin_e, k0, k1, k2, k3, k4, k5, k6, k7, k8, k9, reduceIte, k10, k11, k12, k13, k14, k15, k16, k17, k18, k19, k20, k21, k22, k23, k24, k25, k26, k27, k28, hb]
  | true =>
    obtain hs := hsm rfl
    by_cases h0 : (300 : Int) < s.size
    · simp (disch := omega) only [obnd_s, obnd_n, oite_ss, oite_t, oite_f, ogrd_t, ogrd_f, obndS_l, obndS_r, ilt_eq, ile_eq, ieq_eq, imax_e, imin_e, k0, k1, k2, k3, k4, k5, k6, k7, k8, k9, reduceIte, k10, k11, k12, k13, k14, k15, k16, k17, k18, k19, k20, k21, k22, k23, k24, k25, k26, k27, k28, hb, h0]
    · have F : fit U D H P := ⟨hs.1, hs.2.1, hs.2.2.1, hs.2.2.2, iu, id, ih, ip⟩
      obtain ⟨x, hx1, hx2, l1, l2, l3⟩ := parse_rules (s := s) (by omega)
      have hr := f381_refl (U := x.1) (D := x.2.1) (H := x.2.2.1) (P := x.2.2.2.1) l1 l2 l3
      have h39 : f39 U D H P = some (ckR U D H P).2 := by
        unfold f39
        rw [f46_e (by have := hs.1; omega) (by have := hs.2.1; omega) (by have := hs.2.2.1; omega) (fun p hp => by have := hs.2.2.2 p hp; omega)]; rfl
      simp (disch := omega) only [obnd_s, obnd_n, oite_ss, oite_t, oite_f, ogrd_t, ogrd_f, obndS_l, obndS_r, ilt_eq, ile_eq, ieq_eq, imax_e, imin_e, k0, k1, k2, k3, k4, k5, k6, k7, k8, k9, reduceIte, k10, k11, k12, k13, k14, k15, k16, k17, k18, k19, k20, k21, k22, k23, k24, k25, k26, k27, k28, hb, h0, f37_e hs, f377_e F, f380_e F, hx1, hx2]
      simp only [beq_self_eq_true, Bool.not_true, decide_true, Bool.false_eq_true]
      simp (disch := omega) only [obnd_s, obnd_n, oite_ss, oite_t, oite_f, ogrd_t, ogrd_f, obndS_l, obndS_r, ilt_eq, ile_eq, ieq_eq, imax_e, imin_e, k0, k1, k2, k3, k4, k5, k6, k7, k8, k9, reduceIte, k10, k11, k12, k13, k14, k15, k16, k17, k18, k19, k20, k21, k22, k23, k24, k25, k26, k27, k28, hr, h39]
      by_cases hc : (ckR U D H P).2 = 0
      · have hr2 := f381_refl (U := U) (D := D) (H := H) (P := P) hs.1 hs.2.1 hs.2.2.1
        rw [back hc]
        simp (disch := omega) only [obnd_s, obnd_n, oite_ss, oite_t, oite_f, ogrd_t, ogrd_f, obndS_l, obndS_r, ilt_eq, ile_eq, ieq_eq, imax_e, imin_e, k0, k1, k2, k3, k4, k5, k6, k7, k8, k9, reduceIte, k10, k11, k12, k13, k14, k15, k16, k17, k18, k19, k20, k21, k22, k23, k24, k25, k26, k27, k28, hc, hr2]
      · simp (disch := omega) only [obnd_s, obnd_n, oite_ss, oite_t, oite_f, ogrd_t, ogrd_f, obndS_l, obndS_r, ilt_eq, ile_eq, ieq_eq, imax_e, imin_e, k0, k1, k2, k3, k4, k5, k6, k7, k8, k9, reduceIte, k10, k11, k12, k13, k14, k15, k16, k17, k18, k19, k20, k21, k22, k23, k24, k25, k26, k27, k28, hc]
end
end Go.Proofs.YtacgibkgojnfeaaGreatDoor.AM
