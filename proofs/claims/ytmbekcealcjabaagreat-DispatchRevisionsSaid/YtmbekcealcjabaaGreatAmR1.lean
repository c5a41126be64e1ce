/- Plain laws of chapter 8: revisions, orders (the checks of the program and of the reference). Conditions: none. -/
import Derived.Test.YtmbekcealcjabaaGreatAmLift2
import Derived.Test.YtmbekcealcjabaaGreatAmLf
namespace Go.Proofs.YtmbekcealcjabaaGreat.AM
section
set_option linter.unusedSimpArgs false
set_option linter.unusedVariables false
open Go Go.RowKit

/-! ### Short names of known laws (they stand in many lists) -/
theorem k0 {α β : Type} {f : α → β} {l : List α} : (l.map f).length = l.length := List.length_map ..
theorem k1 (n : Nat) : (n : Int).toNat = n := Int.toNat_natCast n
theorem k2 (h : Decidable True) : @decide True h = true := decide_true h
theorem k3 (h : Decidable False) : @decide False h = false := decide_false h
theorem k4 : (!true) = false := rfl
theorem k5 : (!false) = true := rfl
theorem k6 (b : Bool) : (¬(b = true)) = (b = false) := Bool.not_eq_true b
theorem k7 : (false = true) = False := Bool.false_eq_true
theorem k8 {α : Type} {h : Decidable True} (a b : α) : ite True a b = a := if_true a b
theorem k9 {α : Type} {h : Decidable False} (a b : α) : ite False a b = b := if_false a b
theorem k10 : (¬False) = True := not_false_eq_true
theorem k11 : (¬True) = False := not_true_eq_false
theorem k12 (n : Nat) : (0 : Int) ≤ n := Int.natCast_nonneg n
theorem k13 {m n : Nat} : (m : Int) < n ↔ m < n := Int.ofNat_lt
theorem k14 {m n : Nat} : (m : Int) ≤ n ↔ m ≤ n := Int.ofNat_le
theorem k15 {α : Type} {a b : α} : cond true a b = a := rfl
theorem k16 {α : Type} {a b : α} : cond false a b = b := rfl
theorem k17 (b : Bool) : (true && b) = b := Bool.true_and b
theorem k18 (b : Bool) : (b && true) = b := Bool.and_true b
theorem k19 (b : Bool) : (false && b) = false := Bool.false_and b
theorem k20 (b : Bool) : (b && false) = false := Bool.and_false b
theorem k21 (b : Bool) : (true || b) = true := Bool.true_or b
theorem k22 (b : Bool) : (b || true) = true := Bool.or_true b
theorem k23 (b : Bool) : (false || b) = b := Bool.false_or b
theorem k24 (b : Bool) : (b || false) = b := Bool.or_false b
theorem k25 (c f : Bool) : cond c true f = (c || f) := Bool.cond_true_left c f
theorem k26 (c t : Bool) : cond c t false = (c && t) := Bool.cond_false_right c t
theorem k27 (c t : Bool) : cond c t true = (!c || t) := Bool.cond_true_right c t
theorem k28 (c f : Bool) : cond c false f = (!c && f) := Bool.cond_false_left c f
section
variable {α β γ : Type}
theorem obnd_s (a : α) (f : α → Option β) : obnd (some a) f = f a := rfl
theorem obnd_n (f : α → Option β) : obnd none f = none := rfl
theorem obnd_if {c : Prop} [Decidable c] (x y : Option α) (f : α → Option β) : obnd (if c then x else y) f = if c then obnd x f else obnd y f := by split <;> rfl
theorem oite_e (b : Bool) (x y : Option α) : oite b x y = if b = true then x else y := by cases b <;> rfl
theorem ogrd_e (b : Bool) (x : Option α) : ogrd b x = if b = true then x else none := by cases b <;> rfl
theorem oite_t (x y : Option α) : oite true x y = x := rfl
theorem oite_f (x y : Option α) : oite false x y = y := rfl
theorem oite_ss (b : Bool) (x y : α) : oite b (some x) (some y) = some (bif b then x else y) := by cases b <;> rfl
theorem ogrd_t (x : Option α) : ogrd true x = x := rfl
theorem ogrd_f (x : Option α) : ogrd false x = none := rfl
theorem obndS_l (a : α) (f : α → Option γ) : obndS (some (.inl a)) f = f a := rfl
theorem obndS_r (x : γ) (f : α → Option γ) : obndS (some (.inr x)) f = some x := rfl
theorem imax_e (a b : Int) : imax a b = max a b := by
  unfold imax; rw [ilt_eq]; by_cases h : a < b
  · rw [decide_eq_true h]; simp only [cond_true]; omega
  · rw [decide_eq_false h]; simp only [cond_false]; omega
theorem imin_e (a b : Int) : imin a b = min a b := by
  unfold imin; rw [ilt_eq]; by_cases h : b < a
  · rw [decide_eq_true h]; simp only [cond_true]; omega
  · rw [decide_eq_false h]; simp only [cond_false]; omega
theorem fits_e (b n : Nat) : fits b n = decide (n * b ≤ 1099511627776 ∧ n ≤ 1099511627776) := by
  unfold fits; rw [Bool.eq_iff_iff]; simp
theorem fits_t {b n : Nat} (h1 : n * b ≤ 1099511627776) (h2 : n ≤ 1099511627776) : fits b n = true := by rw [fits_e]; simp [h1, h2]
theorem ogrd_fits {b n : Nat} {x : Option α} (h1 : n * b ≤ 1099511627776) (h2 : n ≤ 1099511627776) : ogrd (fits b n) x = x := by rw [fits_t h1 h2]; rfl
theorem wr {n : Int} (h1 : -9223372036854775808 ≤ n) (h2 : n < 9223372036854775808) : IntKind.i64.wrap n = n := wrap_in h1 h2
theorem get_i {l : List α} {i : Nat} (h : i < l.length) : l[i]? = some (l[i]'h) := List.getElem?_eq_getElem h
theorem toNat_i (i : Nat) : ((i : Int)).toNat = i := rfl

/-! ### Loops that count up -/
theorem oloop_up {τ ρ : Type} {g : τ → Option (τ ⊕ ρ)} (S : Nat → τ) : ∀ (n m : Nat), m ≤ n → (∀ i, i < n → g (S i) = some (.inl (S (i + 1)))) → oloop g (S m) = oloop g (S n)
  | 0, m, hm, _ => by rw [show m = 0 by omega]
  | n + 1, m, hm, h => by
    rcases Nat.lt_or_ge n m with h1 | h1
    · rw [show m = n + 1 by omega]
    · rw [oloop_up S n m h1 (fun i hi => h i (by omega)), oloop_step (h n (by omega))]
/-- A loop that goes through to its end. -/
theorem oloop_all {τ ρ : Type} {g : τ → Option (τ ⊕ ρ)} (S : Nat → τ) (n : Nat) {r : ρ} {e0 : τ} (h0 : e0 = S 0) (h : ∀ i, i < n → g (S i) = some (.inl (S (i + 1)))) (hend : g (S n) = some (.inr r)) : oloop g e0 = some r := by
  rw [h0, oloop_up S n 0 (Nat.zero_le _) h, oloop_done hend]
/-- The first hit. -/
def scanF {ρ : Type} (f : Nat → Option ρ) : Nat → Nat → Option ρ
  | 0, _ => none
  | n + 1, i => match f i with
    | some r => some r
    | none => scanF f n (i + 1)
theorem scanF_none {ρ : Type} {f : Nat → Option ρ} : ∀ {n i : Nat}, scanF f n i = none → ∀ k, i ≤ k → k < i + n → f k = none
  | 0, i, _, k, h1, h2 => by omega
  | n + 1, i, h, k, h1, h2 => by
    simp only [scanF] at h
    cases hf : f i with
    | some r => rw [hf] at h; cases h
    | none =>
      rw [hf] at h
      rcases Nat.eq_or_lt_of_le h1 with rfl | h3
      · exact hf
      · exact scanF_none h k (by omega) (by omega)
theorem scanF_of_none {ρ : Type} {f : Nat → Option ρ} : ∀ {n i : Nat}, (∀ k, i ≤ k → k < i + n → f k = none) → scanF f n i = none
  | 0, i, _ => rfl
  | n + 1, i, h => by
    simp only [scanF, h i (Nat.le_refl _) (by omega)]
    exact scanF_of_none fun k h1 h2 => h k (by omega) (by omega)
theorem scanF_congr {ρ : Type} {f f' : Nat → Option ρ} : ∀ {n i : Nat}, (∀ k, i ≤ k → k < i + n → f k = f' k) → scanF f n i = scanF f' n i
  | 0, i, _ => rfl
  | n + 1, i, h => by
    simp only [scanF]
    rw [h i (Nat.le_refl _) (by omega), scanF_congr (n := n) (i := i + 1) fun k h1 h2 => h k (by omega) (by omega)]
/-- A loop that looks for the first hit, and is left there. -/
theorem oloop_scan {τ ρ : Type} {g : τ → Option (τ ⊕ ρ)} (S : Nat → τ) (n : Nat) (f : Nat → Option ρ) {d : ρ} {e0 : τ} (h0 : e0 = S 0)
    (h : ∀ i, i < n → g (S i) = match f i with | some r => some (.inr r) | none => some (.inl (S (i + 1)))) (hend : g (S n) = some (.inr d)) :
    oloop g e0 = some ((scanF f n 0).getD d) := by
  have key : ∀ k i, i + k = n → oloop g (S i) = some ((scanF f k i).getD d) := by
    intro k
    induction k with
    | zero => intro i hi; rw [show i = n by omega, oloop_done hend]; rfl
    | succ k ih =>
      intro i hi
      have hs := h i (by omega)
      simp only [scanF]
      cases hf : f i with
      | some r => rw [hf] at hs; rw [oloop_done hs]; rfl
      | none => rw [hf] at hs; rw [oloop_step hs]; exact ih (i + 1) (by omega)
  rw [h0]; exact key n 0 (by omega)
/-- The same, by a test. -/
theorem oloop_scanB {τ ρ : Type} {g : τ → Option (τ ⊕ ρ)} (S : Nat → τ) (n : Nat) (b : Nat → Bool) (r : Nat → ρ) {d : ρ} {e0 : τ} (h0 : e0 = S 0)
    (h : ∀ i, i < n → g (S i) = some (bif b i then .inr (r i) else .inl (S (i + 1)))) (hend : g (S n) = some (.inr d)) :
    oloop g e0 = some ((scanF (fun i => bif b i then some (r i) else none) n 0).getD d) :=
  oloop_scan S n _ h0 (fun i hi => by rw [h i hi]; cases b i <;> rfl) hend
theorem scanF_map {ρ σ : Type} {f : Nat → Option ρ} {k : ρ → σ} : ∀ {n i : Nat}, scanF (fun i => (f i).map k) n i = (scanF f n i).map k
  | 0, _ => rfl
  | n + 1, i => by
    simp only [scanF]
    cases f i with
    | some r => rfl
    | none => exact scanF_map
end
end
section
set_option linter.unusedSimpArgs false
set_option linter.unusedVariables false
open Go Go.RowKit

theorem f214_e (b : Bool) (e : Int) : f214 b e = some (if b = true then 0 else e) := by unfold f214; cases b <;> rfl
theorem f216_e (n lo hi : Int) : f216 n lo hi = some (decide (lo ≤ n) && decide (n ≤ hi)) := by unfold f216; simp (disch := omega) only [obnd_s, obnd_n, oite_ss, oite_t, oite_f, ogrd_t, ogrd_f, obndS_l, obndS_r, ilt_eq, ile_eq, ieq_eq, imax_e, imin_e, k0, k1, k2, k3, k4, k5, k6, k7, k8, k9, reduceIte, k10, k11, k12, k13, k14, k15, k16, k17, k18, k19, k20, k21, k22, k23, k24, k25, k26, k27, k28]
theorem f15_e (n lo hi : Int) : f15 n lo hi = some (decide (lo ≤ n) && decide (n ≤ hi)) := by unfold f15; simp (disch := omega) only [obnd_s, obnd_n, oite_ss, oite_t, oite_f, ogrd_t, ogrd_f, obndS_l, obndS_r, ilt_eq, ile_eq, ieq_eq, imax_e, imin_e, k0, k1, k2, k3, k4, k5, k6, k7, k8, k9, reduceIte, k10, k11, k12, k13, k14, k15, k16, k17, k18, k19, k20, k21, k22, k23, k24, k25, k26, k27, k28]
/-- The first that is not 0. -/
def fstN : List Int → Int
  | [] => 0
  | x :: r => if x = 0 then fstN r else x
theorem getD_i {α : Type} {l : List α} {i : Nat} {d : α} (h : i < l.length) : l.getD i d = l[i] := by rw [List.getD_eq_getElem?_getD, List.getElem?_eq_getElem h]; rfl
theorem scan_fst : ∀ (k : Nat) (l : List Int) (i : Nat), i + k = l.length → (scanF (fun i => bif !decide (l.getD i 0 = 0) then some (.inr (l.getD i 0) : Unit ⊕ Int) else none) k i).getD (.inl ()) = if fstN (l.drop i) = 0 then .inl () else .inr (fstN (l.drop i))
  | 0, l, i, h => by rw [List.drop_eq_nil_of_le (by omega)]; simp [scanF, fstN]
  | k + 1, l, i, h => by
    have hi : i < l.length := by omega
    rw [List.drop_eq_getElem_cons hi]
    simp only [scanF, fstN, getD_i hi]
    by_cases h0 : l[i] = 0
    · simp only [h0, decide_true, Bool.not_true, cond_false, if_true]; exact scan_fst k l (i + 1) (by omega)
    · simp [h0]
theorem f213_e {l : List Int} (hl : l.length < 4611686018427387904) : f213 l = some (fstN l) := by
  unfold f213
  rw [oloop_scanB (fun i => (i : Int)) l.length (fun i => !decide (l.getD i 0 = 0)) (fun i => .inr (l.getD i 0)) (d := .inl ()) (e0 := 0) rfl ?_ ?_, scan_fst l.length l 0 (by omega)]
  · rw [List.drop_zero]
    by_cases h : fstN l = 0
    · rw [if_pos h, h]; rfl
    · rw [if_neg h]; rfl
  · intro i hi
    rw [getD_i hi]
    simp (disch := omega) only [obnd_s, obnd_n, oite_ss, oite_t, oite_f, ogrd_t, ogrd_f, obndS_l, obndS_r, ilt_eq, ile_eq, ieq_eq, imax_e, imin_e, k0, k1, k2, k3, k4, k5, k6, k7, k8, k9, reduceIte, k10, k11, k12, k13, k14, k15, k16, k17, k18, k19, k20, k21, k22, k23, k24, k25, k26, k27, k28, hi, get_i hi, wr]; rfl
  · simp (disch := omega) only [obnd_s, obnd_n, oite_ss, oite_t, oite_f, ogrd_t, ogrd_f, obndS_l, obndS_r, ilt_eq, ile_eq, ieq_eq, imax_e, imin_e, k0, k1, k2, k3, k4, k5, k6, k7, k8, k9, reduceIte, k10, k11, k12, k13, k14, k15, k16, k17, k18, k19, k20, k21, k22, k23, k24, k25, k26, k27, k28, Int.lt_irrefl]
theorem f213_2 (a b : Int) : f213 [a, b] = some (if a = 0 then b else a) := by
  rw [f213_e (by simp)]
  congr 1
  simp only [fstN]; repeat' split
  all_goals first | rfl | (symm; assumption) | (exfalso; omega) | omega
theorem f213_3 (a b c : Int) : f213 [a, b, c] = some (if a = 0 then (if b = 0 then c else b) else a) := by
  rw [f213_e (by simp)]
  congr 1
  simp only [fstN]; repeat' split
  all_goals first | rfl | (symm; assumption) | (exfalso; omega) | omega
def findI {α : Type} (q : α → Bool) (l : List α) : Int := match l.findIdx? q with
  | some i => (i : Int)
  | none => -1
theorem scan_find {α ρ : Type} (q : α → Bool) (d : α) (k : Nat → ρ) : ∀ (n : Nat) (l : List α) (i : Nat), i + n = l.length → scanF (fun i => bif q (l.getD i d) then some (k i) else none) n i = ((l.drop i).findIdx? q).map fun j => k (i + j)
  | 0, l, i, h => by rw [List.drop_eq_nil_of_le (by omega)]; rfl
  | n + 1, l, i, h => by
    have hi : i < l.length := by omega
    rw [List.drop_eq_getElem_cons hi, List.findIdx?_cons]
    simp only [scanF, getD_i hi]
    cases hq : q l[i] with
    | true => simp
    | false =>
      simp only [cond_false, Bool.false_eq_true, if_false]
      rw [scan_find q d k n l (i + 1) (by omega)]
      cases (l.drop (i + 1)).findIdx? q with
      | none => rfl
      | some j => simp only [Option.map_some]; congr 2; omega
theorem findI_any {α : Type} (q : α → Bool) (l : List α) : decide (0 ≤ findI q l) = l.any q := by
  unfold findI
  rw [← List.findIdx?_isSome]
  cases l.findIdx? q with
  | none => rfl
  | some i => simp
theorem scan_anyB {α ρ : Type} (q : α → Bool) (d : α) (r : ρ) (l : List α) : scanF (fun i => bif q (l.getD i d) then some r else none) l.length 0 = bif l.any q then some r else none := by
  rw [scan_find q d (fun _ => r) l.length l 0 (by omega), List.drop_zero, ← List.findIdx?_isSome]
  cases l.findIdx? q <;> rfl
def gi (L : List Int) (i : Nat) : Int := L.getD i 0
theorem get_gi {l : List Int} {i : Nat} (h : i < l.length) : l[i]? = some (gi l i) := by unfold gi; rw [getD_i h, List.getElem?_eq_getElem h]
theorem f70_e {p : Int → Option Bool} {l : List Int} (q : Int → Bool) (hp : ∀ x, x ∈ l → p x = some (q x)) (hl : l.length < 4611686018427387904) : f70 p l = some (findI q l) := by
  unfold f70
  rw [oloop_scanB (fun i => (i : Int)) l.length (fun i => q (l.getD i 0)) (fun i => .inr (i : Int)) (d := .inl ()) (e0 := 0) rfl ?_ ?_, scan_find q _ _ l.length l 0 (by omega)]
  · rw [List.drop_zero]; unfold findI
    cases l.findIdx? q with
    | none => rfl
    | some i => simp [obndS_r]
  · intro i hi
    rw [getD_i hi]
    have := hp l[i] (List.getElem_mem hi)
    simp (disch := omega) only [obnd_s, obnd_n, oite_ss, oite_t, oite_f, ogrd_t, ogrd_f, obndS_l, obndS_r, ilt_eq, ile_eq, ieq_eq, imax_e, imin_e, k0, k1, k2, k3, k4, k5, k6, k7, k8, k9, reduceIte, k10, k11, k12, k13, k14, k15, k16, k17, k18, k19, k20, k21, k22, k23, k24, k25, k26, k27, k28, hi, get_i hi, wr, this]; rfl
  · simp (disch := omega) only [obnd_s, obnd_n, oite_ss, oite_t, oite_f, ogrd_t, ogrd_f, obndS_l, obndS_r, ilt_eq, ile_eq, ieq_eq, imax_e, imin_e, k0, k1, k2, k3, k4, k5, k6, k7, k8, k9, reduceIte, k10, k11, k12, k13, k14, k15, k16, k17, k18, k19, k20, k21, k22, k23, k24, k25, k26, k27, k28, Int.lt_irrefl]
theorem f80_e {p : Int → Option Bool} {l : List Int} (q : Int → Bool) (hp : ∀ x, x ∈ l → p x = some (q x)) (hl : l.length < 4611686018427387904) : f80 p l = some (l.any q) := by
  unfold f80
  rw [f70_e q hp hl]
  simp (disch := omega) only [obnd_s, obnd_n, oite_ss, oite_t, oite_f, ogrd_t, ogrd_f, obndS_l, obndS_r, ilt_eq, ile_eq, ieq_eq, imax_e, imin_e, k0, k1, k2, k3, k4, k5, k6, k7, k8, k9, reduceIte, k10, k11, k12, k13, k14, k15, k16, k17, k18, k19, k20, k21, k22, k23, k24, k25, k26, k27, k28, findI_any]
theorem f26_refl {l : List Int} (hl : l.length ≤ 1000000000) : f26 l l = some true := by
  unfold f26
  rw [oloop_all (fun i => (i : Int)) l.length (r := (.inl () : Unit ⊕ Bool)) (e0 := (0 : Int)) rfl ?_ ?_]
  · simp (disch := omega) only [obnd_s, obnd_n, oite_ss, oite_t, oite_f, ogrd_t, ogrd_f, obndS_l, obndS_r, ilt_eq, ile_eq, ieq_eq, imax_e, imin_e, k0, k1, k2, k3, k4, k5, k6, k7, k8, k9, reduceIte, k10, k11, k12, k13, k14, k15, k16, k17, k18, k19, k20, k21, k22, k23, k24, k25, k26, k27, k28]
  · intro i hi
    simp (disch := omega) only [obnd_s, obnd_n, oite_ss, oite_t, oite_f, ogrd_t, ogrd_f, obndS_l, obndS_r, ilt_eq, ile_eq, ieq_eq, imax_e, imin_e, k0, k1, k2, k3, k4, k5, k6, k7, k8, k9, reduceIte, k10, k11, k12, k13, k14, k15, k16, k17, k18, k19, k20, k21, k22, k23, k24, k25, k26, k27, k28, hi, get_i hi, wr]; rfl
  · simp (disch := omega) only [obnd_s, obnd_n, oite_ss, oite_t, oite_f, ogrd_t, ogrd_f, obndS_l, obndS_r, ilt_eq, ile_eq, ieq_eq, imax_e, imin_e, k0, k1, k2, k3, k4, k5, k6, k7, k8, k9, reduceIte, k10, k11, k12, k13, k14, k15, k16, k17, k18, k19, k20, k21, k22, k23, k24, k25, k26, k27, k28, Int.lt_irrefl]

theorem ceqN (a b : Nat) : decide ((a : Int) = (b : Int)) = decide (a = b) := by rw [Bool.eq_iff_iff, decide_eq_true_eq, decide_eq_true_eq]; omega
theorem oslH_n {α : Type} {l : List α} {i : Nat} (h : i ≤ l.length) : oslH l (i : Int) = some (l.take i) := by
  unfold oslH; rw [if_pos (by omega)]; rfl
end
section
set_option linter.unusedSimpArgs false
set_option linter.unusedVariables false
open Go Go.RowKit

/-! ### Names -/
def letC (c : Nat) : Bool := (decide (97 ≤ c) && decide (c ≤ 122)) || (decide (65 ≤ c) && decide (c ≤ 90))
def badC (i c : Nat) : Bool := !letC c && (decide (i = 0) || (!decide (c = 45) && !(decide (48 ≤ c) && decide (c ≤ 57))))
def nameO (s : ByteArray) : Option Unit := scanF (fun i => bif badC i (s.data.toList.getD i 0).toNat then some () else none) s.size 0
def nameB (s : ByteArray) : Bool := decide (1 ≤ s.size) && decide (s.size ≤ 12) && (nameO s).isNone
theorem size_l (s : ByteArray) : s.data.toList.length = s.size := ba_size
theorem ceq (k c : Nat) : decide ((c : Int) = (k : Int)) = decide (c = k) := by rw [Bool.eq_iff_iff, decide_eq_true_eq, decide_eq_true_eq]; exact Int.ofNat_inj
theorem cle (k c : Nat) : decide ((k : Int) ≤ (c : Int)) = decide (k ≤ c) := by rw [Bool.eq_iff_iff]; simp
theorem name_scan (s : ByteArray) : scanF (fun i => bif badC i (s.data.toList.getD i 0).toNat then some (.inr false : Unit ⊕ Bool) else none) s.size 0 = (nameO s).map fun _ => .inr false := by
  unfold nameO
  rw [← scanF_map]
  refine scanF_congr fun k _ _ => ?_
  cases badC k (s.data.toList.getD k 0).toNat <;> rfl
theorem orC : ∀ c : Fin 256, (decide ((97 : Int) ≤ IntKind.i64.wrap (IntKind.u8.wrap (BitVec.ofInt (IntKind.bits .u8) ((c.val : Nat) : Int) ||| BitVec.ofInt (IntKind.bits .u8) (32 : Int)).toNat)) && decide (IntKind.i64.wrap (IntKind.u8.wrap (BitVec.ofInt (IntKind.bits .u8) ((c.val : Nat) : Int) ||| BitVec.ofInt (IntKind.bits .u8) (32 : Int)).toNat) ≤ 122)) = letC c.val := by decide +kernel
theorem f254_w {s : ByteArray} (hs : s.size ≤ 9223372036854775807) : f254 s = some (nameB s) := by
  unfold f254
  rw [oloop_scanB (fun i => (i : Int)) s.size (fun i => badC i (s.data.toList.getD i 0).toNat) (fun _ => .inr false) (d := .inl ()) (e0 := 0) rfl ?_ ?_, name_scan]
  · unfold nameB
    cases nameO s with
    | none =>
      simp (disch := omega) only [obnd_s, obnd_n, oite_ss, oite_t, oite_f, ogrd_t, ogrd_f, obndS_l, obndS_r, ilt_eq, ile_eq, ieq_eq, imax_e, imin_e, k0, k1, k2, k3, k4, k5, k6, k7, k8, k9, reduceIte, k10, k11, k12, k13, k14, k15, k16, k17, k18, k19, k20, k21, k22, k23, k24, k25, k26, k27, k28, f216_e, Option.map_none, Option.getD_none, Option.isNone_none]
      rw [show decide ((1 : Int) ≤ s.size) = decide (1 ≤ s.size) from cle 1 _, show decide ((s.size : Int) ≤ 12) = decide (s.size ≤ 12) from cle _ 12]
    | some _ => simp (disch := omega) only [obnd_s, obnd_n, oite_ss, oite_t, oite_f, ogrd_t, ogrd_f, obndS_l, obndS_r, ilt_eq, ile_eq, ieq_eq, imax_e, imin_e, k0, k1, k2, k3, k4, k5, k6, k7, k8, k9, reduceIte, k10, k11, k12, k13, k14, k15, k16, k17, k18, k19, k20, k21, k22, k23, k24, k25, k26, k27, k28, Option.map_some, Option.getD_some, Option.isNone_some]
  · intro i hi
    have hi' : i < s.data.toList.length := by rw [size_l]; exact hi
    rw [getD_i hi']
    have hc := (s.data.toList[i]).toNat_lt
    have ho := orC ⟨(s.data.toList[i]).toNat, by omega⟩
    simp only at ho
    simp (disch := omega) only [obnd_s, obnd_n, oite_ss, oite_t, oite_f, ogrd_t, ogrd_f, obndS_l, obndS_r, ilt_eq, ile_eq, ieq_eq, imax_e, imin_e, k0, k1, k2, k3, k4, k5, k6, k7, k8, k9, reduceIte, k10, k11, k12, k13, k14, k15, k16, k17, k18, k19, k20, k21, k22, k23, k24, k25, k26, k27, k28, hi', get_i hi', f216_e, wr]
    rw [ho]
    generalize (s.data.toList[i]).toNat = c at *
    unfold badC
    rw [show decide ((i : Int) = 0) = decide (i = 0) from ceq 0 i, show decide ((c : Int) = 45) = decide (c = 45) from ceq 45 c, show decide ((48 : Int) ≤ c) = decide (48 ≤ c) from cle 48 c, show decide ((c : Int) ≤ 57) = decide (c ≤ 57) from cle c 57]
    cases letC c <;> cases decide (i = 0) <;> cases decide (c = 45) <;> rfl
  · simp (disch := omega) only [obnd_s, obnd_n, oite_ss, oite_t, oite_f, ogrd_t, ogrd_f, obndS_l, obndS_r, ilt_eq, ile_eq, ieq_eq, imax_e, imin_e, k0, k1, k2, k3, k4, k5, k6, k7, k8, k9, reduceIte, k10, k11, k12, k13, k14, k15, k16, k17, k18, k19, k20, k21, k22, k23, k24, k25, k26, k27, k28, Int.lt_irrefl, size_l]
theorem f254_e {s : ByteArray} (hs : s.size < 4611686018427387904) : f254 s = some (nameB s) := f254_w (by omega)
theorem f91_w {s : ByteArray} (hs : s.size ≤ 9223372036854775807) : f91 s = some (nameB s) := by
  unfold f91
  rw [oloop_scanB (fun i => (i : Int)) s.size (fun i => badC i (s.data.toList.getD i 0).toNat) (fun _ => .inr false) (d := .inl ()) (e0 := 0) rfl ?_ ?_, name_scan]
  · have hsz : (decide ((s.size : Int) < 1) || decide (12 < (s.size : Int))) = !(decide (1 ≤ s.size) && decide (s.size ≤ 12)) := by
      rw [show decide ((s.size : Int) < 1) = !decide (1 ≤ s.size) by rw [← decide_not]; congr 1; exact propext (by omega), show decide (12 < (s.size : Int)) = !decide (s.size ≤ 12) by rw [← decide_not]; congr 1; exact propext (by omega)]
      cases decide (1 ≤ s.size) <;> cases decide (s.size ≤ 12) <;> rfl
    unfold nameB
    cases nameO s with
    | none =>
      simp (disch := omega) only [obnd_s, obnd_n, oite_ss, oite_t, oite_f, ogrd_t, ogrd_f, obndS_l, obndS_r, ilt_eq, ile_eq, ieq_eq, imax_e, imin_e, k0, k1, k2, k3, k4, k5, k6, k7, k8, k9, reduceIte, k10, k11, k12, k13, k14, k15, k16, k17, k18, k19, k20, k21, k22, k23, k24, k25, k26, k27, k28, Option.map_none, Option.getD_none, Option.isNone_none, hsz]
      first | done | (cases (decide (1 ≤ s.size) && decide (s.size ≤ 12)) <;> rfl)
    | some _ =>
      simp (disch := omega) only [obnd_s, obnd_n, oite_ss, oite_t, oite_f, ogrd_t, ogrd_f, obndS_l, obndS_r, ilt_eq, ile_eq, ieq_eq, imax_e, imin_e, k0, k1, k2, k3, k4, k5, k6, k7, k8, k9, reduceIte, k10, k11, k12, k13, k14, k15, k16, k17, k18, k19, k20, k21, k22, k23, k24, k25, k26, k27, k28, Option.map_some, Option.getD_some, Option.isNone_some, hsz]
  · intro i hi
    have hi' : i < s.data.toList.length := by rw [size_l]; exact hi
    rw [getD_i hi']
    simp (disch := omega) only [obnd_s, obnd_n, oite_ss, oite_t, oite_f, ogrd_t, ogrd_f, obndS_l, obndS_r, ilt_eq, ile_eq, ieq_eq, imax_e, imin_e, k0, k1, k2, k3, k4, k5, k6, k7, k8, k9, reduceIte, k10, k11, k12, k13, k14, k15, k16, k17, k18, k19, k20, k21, k22, k23, k24, k25, k26, k27, k28, hi', hi, get_i hi', wr]
    generalize (s.data.toList[i]).toNat = c at *
    have e : (!((decide ((97 : Int) ≤ c) && decide ((c : Int) ≤ 122)) || (decide ((65 : Int) ≤ c) && decide ((c : Int) ≤ 90))) && (decide ((i : Int) = 0) || (!decide ((c : Int) = 45) && (decide ((c : Int) < 48) || decide (57 < (c : Int)))))) = badC i c := by
      unfold badC letC; rw [Bool.eq_iff_iff]; simp; omega
    rw [e]; rfl
  · simp (disch := omega) only [obnd_s, obnd_n, oite_ss, oite_t, oite_f, ogrd_t, ogrd_f, obndS_l, obndS_r, ilt_eq, ile_eq, ieq_eq, imax_e, imin_e, k0, k1, k2, k3, k4, k5, k6, k7, k8, k9, reduceIte, k10, k11, k12, k13, k14, k15, k16, k17, k18, k19, k20, k21, k22, k23, k24, k25, k26, k27, k28, Int.lt_irrefl]

theorem f91_e {s : ByteArray} (hs : s.size < 4611686018427387904) : f91 s = some (nameB s) := f91_w (by omega)

/-! ### Errors with an index -/
theorem obnd_of {α β : Type} {x : Option α} {a : α} {f : α → Option β} (h : x = some a) : obnd x f = f a := by rw [h]; rfl
/-- The first index with an error, and the error. -/
def errs (f : Nat → Int) (n : Nat) : Option (Int × Int) := scanF (fun i => bif !decide (f i = 0) then some ((i : Int), f i) else none) n 0
theorem errs_scan {σ : Type} (f : Nat → Int) (n : Nat) (k : Int × Int → σ) : scanF (fun i => bif !decide (f i = 0) then some (k ((i : Int), f i)) else none) n 0 = (errs f n).map k := by
  unfold errs; rw [← scanF_map]
  refine scanF_congr fun i _ _ => ?_
  cases (!decide (f i = 0)) <;> rfl
theorem errs_none {f : Nat → Int} {n : Nat} (h : errs f n = none) : ∀ i, i < n → f i = 0 := by
  intro i hi
  have := scanF_none h i (Nat.zero_le _) (by omega)
  cases hd : decide (f i = 0) with
  | true => exact of_decide_eq_true hd
  | false => rw [hd] at this; cases this
theorem errs_some {f : Nat → Int} {n : Nat} {r : Int × Int} (h : errs f n = some r) : r.2 ≠ 0 := by
  unfold errs at h
  have key : ∀ (k i : Nat), scanF (fun i => bif !decide (f i = 0) then some ((i : Int), f i) else none) k i = some r → r.2 ≠ 0 := by
    intro k
    induction k with
    | zero => intro i h; cases h
    | succ k ih =>
      intro i h
      simp only [scanF] at h
      cases hd : decide (f i = 0) with
      | true => rw [hd] at h; exact ih (i + 1) h
      | false => rw [hd] at h; injection h with h; rw [← h]; exact of_decide_eq_false hd
  exact key n 0 h
theorem errs_get {f : Nat → Int} {n : Nat} (h : ((errs f n).getD (0, 0)).2 = 0) : (errs f n).getD (0, 0) = (0, 0) ∧ ∀ i, i < n → f i = 0 := by
  cases he : errs f n with
  | none => exact ⟨rfl, errs_none he⟩
  | some r => rw [he] at h; exact absurd h (errs_some he)

/-! ### Plants -/
def gm (M : List (ByteArray × Int × Int × Int)) (i : Nat) : ByteArray × Int × Int × Int := M.getD i (⟨#[]⟩, 0, 0, 0)
theorem get_gm {M : List (ByteArray × Int × Int × Int)} {i : Nat} (h : i < M.length) : M[i]? = some (gm M i) := by unfold gm; rw [getD_i h, List.getElem?_eq_getElem h]
def gh (H : List (Int × Int × Int)) (i : Nat) : Int × Int × Int := H.getD i (0, 0, 0)
theorem get_gh {H : List (Int × Int × Int)} {i : Nat} (h : i < H.length) : H[i]? = some (gh H i) := by unfold gh; rw [getD_i h, List.getElem?_eq_getElem h]
def s4 (n : Int) : Bool := decide (-10000 ≤ n) && decide (n ≤ 10000)
def z4 (n : Int) : Bool := decide (0 ≤ n) && decide (n ≤ 10000)
def vol (n : Int) : Bool := decide (0 ≤ n) && decide (n ≤ 1000000)
def knownM (M : List (ByteArray × Int × Int × Int)) (i : Nat) : Bool := (M.take i).any fun x => x.1.toList == (gm M i).1.toList
def modE (M : List (ByteArray × Int × Int × Int)) (i : Nat) : Int := bif !nameB (gm M i).1 then 4 else bif knownM M i then 5 else bif !(s4 (gm M i).2.1 && s4 (gm M i).2.2.1 && z4 (gm M i).2.2.2) then 2 else 0
def pltE (lo up : Int) (n : Nat) : Int := bif !(vol lo && vol up) then 2 else bif !decide (lo ≤ up) then 9 else bif !decide (up - lo < 40) then 8 else bif !decide ((0 : Int) < n) then 10 else bif !decide ((n : Int) ≤ 5) then 8 else 0
def ckP (lo up : Int) (M : List (ByteArray × Int × Int × Int)) : Int × Int := bif !decide (pltE lo up M.length = 0) then (0, pltE lo up M.length) else (errs (modE M) M.length).getD (0, 0)
theorem f256_e (n : Int) : f256 n = some (vol n) := by unfold f256; rw [f216_e]; rfl
theorem f235_4 (n : Int) : f235 n 10000 = some (s4 n) := by
  unfold f235; rw [show IntKind.i64.wrap (0 - 10000) = -10000 by rw [wr (by omega) (by omega)]; rfl, f216_e]; rfl
theorem f250_e (n : Int) : f250 n = some (s4 n) := by unfold f250; rw [f235_4]; rfl
theorem f258_e (a : ByteArray) (b c d : Int) (e : ByteArray) (f g h : Int) : f258 a b c d e f g h = some (a.toList == e.toList) := rfl
theorem f262_e {p : ByteArray → Int → Int → Int → Option Bool} {l : List (ByteArray × Int × Int × Int)} (q : ByteArray × Int × Int × Int → Bool) (hp : ∀ x, x ∈ l → p x.1 x.2.1 x.2.2.1 x.2.2.2 = some (q x)) (hl : l.length < 4611686018427387904) : f262 p l = some (findI q l) := by
  unfold f262
  rw [oloop_scanB (fun i => (i : Int)) l.length (fun i => q (l.getD i (⟨#[]⟩, 0, 0, 0))) (fun i => .inr (i : Int)) (d := .inl ()) (e0 := 0) rfl ?_ ?_, scan_find q _ _ l.length l 0 (by omega)]
  · rw [List.drop_zero]; unfold findI
    cases l.findIdx? q with
    | none => rfl
    | some i => simp [obndS_r]
  · intro i hi
    rw [getD_i hi]
    have := hp l[i] (List.getElem_mem hi)
    simp (disch := omega) only [obnd_s, obnd_n, oite_ss, oite_t, oite_f, ogrd_t, ogrd_f, obndS_l, obndS_r, ilt_eq, ile_eq, ieq_eq, imax_e, imin_e, k0, k1, k2, k3, k4, k5, k6, k7, k8, k9, reduceIte, k10, k11, k12, k13, k14, k15, k16, k17, k18, k19, k20, k21, k22, k23, k24, k25, k26, k27, k28, hi, get_i hi, wr, this]; rfl
  · simp (disch := omega) only [obnd_s, obnd_n, oite_ss, oite_t, oite_f, ogrd_t, ogrd_f, obndS_l, obndS_r, ilt_eq, ile_eq, ieq_eq, imax_e, imin_e, k0, k1, k2, k3, k4, k5, k6, k7, k8, k9, reduceIte, k10, k11, k12, k13, k14, k15, k16, k17, k18, k19, k20, k21, k22, k23, k24, k25, k26, k27, k28, Int.lt_irrefl]
theorem f257_e {p : ByteArray → Int → Int → Int → Option Bool} {l : List (ByteArray × Int × Int × Int)} (q : ByteArray × Int × Int × Int → Bool) (hp : ∀ x, x ∈ l → p x.1 x.2.1 x.2.2.1 x.2.2.2 = some (q x)) (hl : l.length < 4611686018427387904) : f257 p l = some (l.any q) := by
  unfold f257
  rw [f262_e q hp hl]
  simp (disch := omega) only [obnd_s, obnd_n, oite_ss, oite_t, oite_f, ogrd_t, ogrd_f, obndS_l, obndS_r, ilt_eq, ile_eq, ieq_eq, imax_e, imin_e, k0, k1, k2, k3, k4, k5, k6, k7, k8, k9, reduceIte, k10, k11, k12, k13, k14, k15, k16, k17, k18, k19, k20, k21, k22, k23, k24, k25, k26, k27, k28, findI_any]
theorem f249_e {lo up : Int} {M : List (ByteArray × Int × Int × Int)} (hM : M.length < 4611686018427387904) (hs : ∀ p, p ∈ M → p.1.size < 4611686018427387904) : f249 lo up M = some (ckP lo up M) := by
  unfold f249
  refine (obnd_of (a := pltE lo up M.length) ?_).trans ?_
  · rw [f256_e, f256_e]
    simp only [obnd_s, f214_e]
    cases h1 : vol lo with
    | false => rw [oite_f, f213_e (by simp)]; unfold pltE; rw [h1]; rfl
    | true =>
      cases h2 : vol up with
      | false => rw [oite_t, f213_e (by simp)]; unfold pltE; rw [h1, h2]; rfl
      | true =>
        have h3 := h1; have h4 := h2
        unfold vol at h3 h4
        simp only [Bool.and_eq_true, decide_eq_true_eq] at h3 h4
        rw [oite_t, f213_e (by simp)]; unfold pltE; rw [h1, h2, wr (by omega) (by omega), ile_eq, ilt_eq, ilt_eq, ile_eq, List.length_map]
        cases decide (lo ≤ up) <;> cases decide (up - lo < 40) <;> cases decide ((0 : Int) < (M.length : Int)) <;> cases decide ((M.length : Int) ≤ 5) <;> rfl
  · unfold ckP
    rw [ieq_eq]
    cases h1 : decide (pltE lo up M.length = 0) with
    | false => rfl
    | true =>
      simp (disch := omega) only [obnd_s, obnd_n, oite_ss, oite_t, oite_f, ogrd_t, ogrd_f, obndS_l, obndS_r, ilt_eq, ile_eq, ieq_eq, imax_e, imin_e, k0, k1, k2, k3, k4, k5, k6, k7, k8, k9, reduceIte, k10, k11, k12, k13, k14, k15, k16, k17, k18, k19, k20, k21, k22, k23, k24, k25, k26, k27, k28]
      rw [oloop_scanB (fun i => (i : Int)) M.length (fun i => !decide (modE M i = 0)) (fun i => .inr ((i : Int), modE M i)) (d := .inl ()) (e0 := 0) rfl ?_ ?_, errs_scan (modE M) M.length (Sum.inr : Int × Int → Unit ⊕ (Int × Int))]
      · cases errs (modE M) M.length <;> rfl
      · intro i hi
        have hn := hs (gm M i) (by unfold gm; rw [getD_i hi]; exact List.getElem_mem hi)
        simp (disch := omega) only [obnd_s, obnd_n, oite_ss, oite_t, oite_f, ogrd_t, ogrd_f, obndS_l, obndS_r, ilt_eq, ile_eq, ieq_eq, imax_e, imin_e, k0, k1, k2, k3, k4, k5, k6, k7, k8, k9, reduceIte, k10, k11, k12, k13, k14, k15, k16, k17, k18, k19, k20, k21, k22, k23, k24, k25, k26, k27, k28, hi, get_gm hi, f254_e hn, oslH_n (Nat.le_of_lt hi), f257_e (p := fun z0 z1 z2 z3 => f258 z0 z1 z2 z3 (gm M i).1 (gm M i).2.1 (gm M i).2.2.1 (gm M i).2.2.2) (l := M.take i) (fun x => x.1.toList == (gm M i).1.toList) (fun _ _ => f258_e _ _ _ _ _ _ _ _) (by rw [List.length_take]; omega), f216_e, f235_4, f214_e, f213_3, wr]
        unfold modE
        rw [show (List.any (M.take i) fun x => x.1.toList == (gm M i).1.toList) = knownM M i from rfl, show (decide (0 ≤ (gm M i).2.2.2) && decide ((gm M i).2.2.2 ≤ 10000)) = z4 (gm M i).2.2.2 from rfl]
        cases nameB (gm M i).1 <;> cases knownM M i <;> cases s4 (gm M i).2.1 <;> cases s4 (gm M i).2.2.1 <;> cases z4 (gm M i).2.2.2 <;> rfl
      · simp (disch := omega) only [obnd_s, obnd_n, oite_ss, oite_t, oite_f, ogrd_t, ogrd_f, obndS_l, obndS_r, ilt_eq, ile_eq, ieq_eq, imax_e, imin_e, k0, k1, k2, k3, k4, k5, k6, k7, k8, k9, reduceIte, k10, k11, k12, k13, k14, k15, k16, k17, k18, k19, k20, k21, k22, k23, k24, k25, k26, k27, k28, Int.lt_irrefl]

/-! ### Tasks -/
def hourE (H : List (Int × Int × Int)) (i : Nat) : Int := bif !(s4 (gh H i).1 && s4 (gh H i).2.1 && s4 (gh H i).2.2) then 2 else bif !decide ((gh H i).2.1 ≤ (gh H i).1) then 9 else 0
def tskE (lo up : Int) (n : Nat) (v m w : Int) (k : Nat) : Int := bif !(decide (lo ≤ v) && decide (v ≤ up)) then 2 else bif !(decide (0 ≤ m) && decide (m ≤ (n : Int) - 1)) then 6 else bif !s4 w then 2 else bif !decide ((0 : Int) < k) then 10 else bif !decide ((k : Int) ≤ 10) then 8 else 0
def ckT (lo up : Int) (M : List (ByteArray × Int × Int × Int)) (v m w : Int) (H : List (Int × Int × Int)) : Int × Int :=
  bif !decide ((ckP lo up M).2 = 0) then (0, (ckP lo up M).2) else bif !decide (tskE lo up M.length v m w H.length = 0) then (0, tskE lo up M.length v m w H.length) else (errs (hourE H) H.length).getD (0, 0)
theorem f237_e {lo up v m w : Int} {M : List (ByteArray × Int × Int × Int)} {H : List (Int × Int × Int)} (hM : M.length < 4611686018427387904) (hs : ∀ p, p ∈ M → p.1.size < 4611686018427387904) (hH : H.length < 4611686018427387904) : f237 lo up M v m w H = some (ckT lo up M v m w H) := by
  unfold f237
  have hw : IntKind.i64.wrap ((M.length : Int) - 1) = (M.length : Int) - 1 := wr (by omega) (by omega)
  simp only [f249_e hM hs, obnd_s, f216_e, f214_e, f250_e, List.length_map, ile_eq, ilt_eq, ieq_eq, hw]
  refine (obnd_of (a := bif !decide ((ckP lo up M).2 = 0) then (ckP lo up M).2 else tskE lo up M.length v m w H.length) ?_).trans ?_
  · rw [f213_e (by simp)]
    simp only [fstN]
    cases h1 : decide ((ckP lo up M).2 = 0) with
    | false => rw [if_neg (of_decide_eq_false h1)]; rfl
    | true =>
      rw [if_pos (of_decide_eq_true h1)]
      unfold tskE
      cases (decide (lo ≤ v) && decide (v ≤ up)) <;> cases (decide (0 ≤ m) && decide (m ≤ (M.length : Int) - 1)) <;> cases s4 w <;> cases decide ((0 : Int) < (H.length : Int)) <;> cases decide ((H.length : Int) ≤ 10) <;> rfl
  · unfold ckT
    cases h1 : decide ((ckP lo up M).2 = 0) with
    | false =>
      simp only [Bool.not_false, cond_true, h1, oite_t]
    | true =>
      simp only [Bool.not_true, cond_false]
      cases h2 : decide (tskE lo up M.length v m w H.length = 0) with
      | false => rfl
      | true =>
        simp (disch := omega) only [obnd_s, obnd_n, oite_ss, oite_t, oite_f, ogrd_t, ogrd_f, obndS_l, obndS_r, ilt_eq, ile_eq, ieq_eq, imax_e, imin_e, k0, k1, k2, k3, k4, k5, k6, k7, k8, k9, reduceIte, k10, k11, k12, k13, k14, k15, k16, k17, k18, k19, k20, k21, k22, k23, k24, k25, k26, k27, k28]
        rw [oloop_scanB (fun i => (i : Int)) H.length (fun i => !decide (hourE H i = 0)) (fun i => .inr ((i : Int), hourE H i)) (d := .inl ()) (e0 := 0) rfl ?_ ?_, errs_scan (hourE H) H.length (Sum.inr : Int × Int → Unit ⊕ (Int × Int))]
        · cases errs (hourE H) H.length <;> rfl
        · intro i hi
          simp (disch := omega) only [obnd_s, obnd_n, oite_ss, oite_t, oite_f, ogrd_t, ogrd_f, obndS_l, obndS_r, ilt_eq, ile_eq, ieq_eq, imax_e, imin_e, k0, k1, k2, k3, k4, k5, k6, k7, k8, k9, reduceIte, k10, k11, k12, k13, k14, k15, k16, k17, k18, k19, k20, k21, k22, k23, k24, k25, k26, k27, k28, hi, get_gh hi, f213_2, wr]
          unfold hourE
          cases s4 (gh H i).1 <;> cases s4 (gh H i).2.1 <;> cases s4 (gh H i).2.2 <;> cases decide ((gh H i).2.1 ≤ (gh H i).1) <;> rfl
        · simp (disch := omega) only [obnd_s, obnd_n, oite_ss, oite_t, oite_f, ogrd_t, ogrd_f, obndS_l, obndS_r, ilt_eq, ile_eq, ieq_eq, imax_e, imin_e, k0, k1, k2, k3, k4, k5, k6, k7, k8, k9, reduceIte, k10, k11, k12, k13, k14, k15, k16, k17, k18, k19, k20, k21, k22, k23, k24, k25, k26, k27, k28, Int.lt_irrefl]

/-- What a valid plant with a valid task is. -/
structure okT (lo up : Int) (M : List (ByteArray × Int × Int × Int)) (v m w : Int) (H : List (Int × Int × Int)) : Prop where
  lo0 : 0 ≤ lo
  hi1 : up ≤ 1000000
  lohi : lo ≤ up
  span : up - lo < 40
  mpos : 0 < M.length
  mfew : M.length ≤ 5
  mode : ∀ i, i < M.length → (-10000 ≤ (gm M i).2.1 ∧ (gm M i).2.1 ≤ 10000) ∧ (-10000 ≤ (gm M i).2.2.1 ∧ (gm M i).2.2.1 ≤ 10000) ∧ (0 ≤ (gm M i).2.2.2 ∧ (gm M i).2.2.2 ≤ 10000)
  vlo : lo ≤ v
  vhi : v ≤ up
  m0 : 0 ≤ m
  m1 : m < M.length
  w4 : -10000 ≤ w ∧ w ≤ 10000
  hpos : 0 < H.length
  hfew : H.length ≤ 10
  hour : ∀ i, i < H.length → (-10000 ≤ (gh H i).1 ∧ (gh H i).1 ≤ 10000) ∧ (-10000 ≤ (gh H i).2.1 ∧ (gh H i).2.1 ≤ 10000) ∧ (-10000 ≤ (gh H i).2.2 ∧ (gh H i).2.2 ≤ 10000)
theorem s4_p {n : Int} (h : s4 n = true) : -10000 ≤ n ∧ n ≤ 10000 := by simpa [s4] using h
theorem z4_p {n : Int} (h : z4 n = true) : 0 ≤ n ∧ n ≤ 10000 := by simpa [z4] using h
theorem vol_p {n : Int} (h : vol n = true) : 0 ≤ n ∧ n ≤ 1000000 := by simpa [vol] using h
theorem modE_0 {M : List (ByteArray × Int × Int × Int)} {i : Nat} (h : modE M i = 0) : (-10000 ≤ (gm M i).2.1 ∧ (gm M i).2.1 ≤ 10000) ∧ (-10000 ≤ (gm M i).2.2.1 ∧ (gm M i).2.2.1 ≤ 10000) ∧ (0 ≤ (gm M i).2.2.2 ∧ (gm M i).2.2.2 ≤ 10000) := by
  unfold modE at h
  cases h1 : nameB (gm M i).1 with
  | false => rw [h1] at h; cases h
  | true =>
    cases h2 : knownM M i with
    | true => rw [h1, h2] at h; cases h
    | false =>
      cases h3 : (s4 (gm M i).2.1 && s4 (gm M i).2.2.1 && z4 (gm M i).2.2.2) with
      | false => rw [h1, h2, h3] at h; cases h
      | true =>
        simp only [Bool.and_eq_true] at h3
        exact ⟨s4_p h3.1.1, s4_p h3.1.2, z4_p h3.2⟩
theorem hourE_0 {H : List (Int × Int × Int)} {i : Nat} (h : hourE H i = 0) : (-10000 ≤ (gh H i).1 ∧ (gh H i).1 ≤ 10000) ∧ (-10000 ≤ (gh H i).2.1 ∧ (gh H i).2.1 ≤ 10000) ∧ (-10000 ≤ (gh H i).2.2 ∧ (gh H i).2.2 ≤ 10000) := by
  unfold hourE at h
  cases h3 : (s4 (gh H i).1 && s4 (gh H i).2.1 && s4 (gh H i).2.2) with
  | false => rw [h3] at h; cases h
  | true =>
    simp only [Bool.and_eq_true] at h3
    exact ⟨s4_p h3.1.1, s4_p h3.1.2, s4_p h3.2⟩
theorem pltE_0 {lo up : Int} {n : Nat} (h : pltE lo up n = 0) : (0 ≤ lo ∧ up ≤ 1000000 ∧ lo ≤ up ∧ up - lo < 40) ∧ 0 < n ∧ n ≤ 5 := by
  unfold pltE at h
  cases h1 : (vol lo && vol up) with
  | false => rw [h1] at h; cases h
  | true =>
    cases h2 : decide (lo ≤ up) with
    | false => rw [h1, h2] at h; cases h
    | true =>
      cases h3 : decide (up - lo < 40) with
      | false => rw [h1, h2, h3] at h; cases h
      | true =>
        cases h4 : decide ((0 : Int) < n) with
        | false => rw [h1, h2, h3, h4] at h; cases h
        | true =>
          cases h5 : decide ((n : Int) ≤ 5) with
          | false => rw [h1, h2, h3, h4, h5] at h; cases h
          | true =>
            simp only [Bool.and_eq_true] at h1
            have a := vol_p h1.1; have b := vol_p h1.2
            simp only [decide_eq_true_eq] at h2 h3 h4 h5
            omega
theorem tskE_0 {lo up v m w : Int} {n k : Nat} (h : tskE lo up n v m w k = 0) : (lo ≤ v ∧ v ≤ up) ∧ (0 ≤ m ∧ m < n) ∧ (-10000 ≤ w ∧ w ≤ 10000) ∧ 0 < k ∧ k ≤ 10 := by
  unfold tskE at h
  cases h1 : (decide (lo ≤ v) && decide (v ≤ up)) with
  | false => rw [h1] at h; cases h
  | true =>
    cases h2 : (decide (0 ≤ m) && decide (m ≤ (n : Int) - 1)) with
    | false => rw [h1, h2] at h; cases h
    | true =>
      cases h3 : s4 w with
      | false => rw [h1, h2, h3] at h; cases h
      | true =>
        cases h4 : decide ((0 : Int) < k) with
        | false => rw [h1, h2, h3, h4] at h; cases h
        | true =>
          cases h5 : decide ((k : Int) ≤ 10) with
          | false => rw [h1, h2, h3, h4, h5] at h; cases h
          | true =>
            have a := s4_p h3
            simp only [Bool.and_eq_true, decide_eq_true_eq] at h1 h2 h4 h5
            omega
theorem ckP_0 {lo up : Int} {M : List (ByteArray × Int × Int × Int)} (h : (ckP lo up M).2 = 0) : ckP lo up M = (0, 0) ∧ pltE lo up M.length = 0 ∧ ∀ i, i < M.length → modE M i = 0 := by
  unfold ckP at h ⊢
  cases h1 : decide (pltE lo up M.length = 0) with
  | false => rw [h1] at h; exact absurd h (of_decide_eq_false h1)
  | true =>
    rw [h1] at h
    obtain ⟨h2, h3⟩ := errs_get h
    exact ⟨h2, of_decide_eq_true h1, h3⟩
theorem ckT_0 {lo up v m w : Int} {M : List (ByteArray × Int × Int × Int)} {H : List (Int × Int × Int)} (h : (ckT lo up M v m w H).2 = 0) : ckT lo up M v m w H = (0, 0) ∧ okT lo up M v m w H := by
  unfold ckT at h ⊢
  cases h1 : decide ((ckP lo up M).2 = 0) with
  | false => rw [h1] at h; exact absurd h (of_decide_eq_false h1)
  | true =>
    cases h2 : decide (tskE lo up M.length v m w H.length = 0) with
    | false => rw [h1, h2] at h; exact absurd h (of_decide_eq_false h2)
    | true =>
      rw [h1, h2] at h
      obtain ⟨h3, h4⟩ := errs_get h
      obtain ⟨_, h5, h6⟩ := ckP_0 (of_decide_eq_true h1)
      obtain ⟨⟨p1, p2, p3, p4⟩, p5, p6⟩ := pltE_0 h5
      obtain ⟨⟨q1, q2⟩, ⟨q3, q4⟩, q5, q6, q7⟩ := tskE_0 (of_decide_eq_true h2)
      exact ⟨h3, ⟨p1, p2, p3, p4, p5, p6, fun i hi => modE_0 (h6 i hi), q1, q2, q3, q4, q5, q6, q7, fun i hi => hourE_0 (h4 i hi)⟩⟩
theorem f219_e {lo up v m w : Int} {M : List (ByteArray × Int × Int × Int)} {H : List (Int × Int × Int)} (hM : M.length < 4611686018427387904) (hs : ∀ p, p ∈ M → p.1.size < 4611686018427387904) (hH : H.length < 4611686018427387904) : f219 lo up M v m w H = some (lo, up, M, v, m, w, H, (ckT lo up M v m w H).2) := by
  unfold f219; rw [f237_e hM hs hH]; rfl
end
section
set_option linter.unusedSimpArgs false
set_option linter.unusedVariables false
open Go Go.RowKit

abbrev Rv := List (ByteArray × Int × Int)
def gr (l : Rv) (i : Nat) : ByteArray × Int × Int := l.getD i (⟨#[]⟩, 0, 0)
theorem get_gr {l : Rv} {i : Nat} (h : i < l.length) : l[i]? = some (gr l i) := by unfold gr; rw [getD_i h, List.getElem?_eq_getElem h]
def day5 (n : Int) : Bool := decide (0 ≤ n) && decide (n ≤ 100000)
def pos5 (n : Int) : Bool := decide (1 ≤ n) && decide (n ≤ 100000)
def knownR (l : Rv) (i : Nat) : Bool := (l.take i).any fun x => x.1.toList == (gr l i).1.toList
def revE (l : Rv) (i : Nat) : Int := bif !nameB (gr l i).1 then 4 else bif knownR l i then 5 else bif !(day5 (gr l i).2.1 && pos5 (gr l i).2.2) then 2 else 0
def ckR (l : Rv) : Int × Int := bif !decide (0 < l.length) then (0, 10) else bif !decide (l.length ≤ 8) then (0, 8) else (errs (revE l) l.length).getD (0, 0)
theorem f253_e (a : ByteArray) (b c : Int) (e : ByteArray) (f g : Int) : f253 a b c e f g = some (a.toList == e.toList) := rfl
theorem f259_e {p : ByteArray → Int → Int → Option Bool} {l : Rv} (q : ByteArray × Int × Int → Bool) (hp : ∀ x, x ∈ l → p x.1 x.2.1 x.2.2 = some (q x)) (hl : l.length < 4611686018427387904) : f259 p l = some (findI q l) := by
  unfold f259
  rw [oloop_scanB (fun i => (i : Int)) l.length (fun i => q (l.getD i (⟨#[]⟩, 0, 0))) (fun i => .inr (i : Int)) (d := .inl ()) (e0 := 0) rfl ?_ ?_, scan_find q _ _ l.length l 0 (by omega)]
  · rw [List.drop_zero]; unfold findI
    cases l.findIdx? q with
    | none => rfl
    | some i => simp [obndS_r]
  · intro i hi
    rw [getD_i hi]
    have := hp l[i] (List.getElem_mem hi)
    simp (disch := omega) only [obnd_s, obnd_n, oite_ss, oite_t, oite_f, ogrd_t, ogrd_f, obndS_l, obndS_r, ilt_eq, ile_eq, ieq_eq, imax_e, imin_e, k0, k1, k2, k3, k4, k5, k6, k7, k8, k9, reduceIte, k10, k11, k12, k13, k14, k15, k16, k17, k18, k19, k20, k21, k22, k23, k24, k25, k26, k27, k28, hi, get_i hi, wr, this]; rfl
  · simp (disch := omega) only [obnd_s, obnd_n, oite_ss, oite_t, oite_f, ogrd_t, ogrd_f, obndS_l, obndS_r, ilt_eq, ile_eq, ieq_eq, imax_e, imin_e, k0, k1, k2, k3, k4, k5, k6, k7, k8, k9, reduceIte, k10, k11, k12, k13, k14, k15, k16, k17, k18, k19, k20, k21, k22, k23, k24, k25, k26, k27, k28, Int.lt_irrefl]
theorem f252_e {p : ByteArray → Int → Int → Option Bool} {l : Rv} (q : ByteArray × Int × Int → Bool) (hp : ∀ x, x ∈ l → p x.1 x.2.1 x.2.2 = some (q x)) (hl : l.length < 4611686018427387904) : f252 p l = some (l.any q) := by
  unfold f252
  rw [f259_e q hp hl]
  simp (disch := omega) only [obnd_s, obnd_n, oite_ss, oite_t, oite_f, ogrd_t, ogrd_f, obndS_l, obndS_r, ilt_eq, ile_eq, ieq_eq, imax_e, imin_e, k0, k1, k2, k3, k4, k5, k6, k7, k8, k9, reduceIte, k10, k11, k12, k13, k14, k15, k16, k17, k18, k19, k20, k21, k22, k23, k24, k25, k26, k27, k28, findI_any]
theorem clt (c : Nat) : decide ((0 : Int) < (c : Int)) = decide (0 < c) := by rw [Bool.eq_iff_iff, decide_eq_true_eq, decide_eq_true_eq]; omega
theorem f244_e {l : Rv} (hl : l.length < 4611686018427387904) (hs : ∀ p, p ∈ l → p.1.size ≤ 9223372036854775807) : f244 l = some (ckR l) := by
  unfold f244 ckR
  simp only [f214_e, obnd_s, List.length_map, ilt_eq, ile_eq, f213_2]
  rw [clt, show decide ((l.length : Int) ≤ 8) = decide (l.length ≤ 8) from cle _ 8]
  cases h1 : decide (0 < l.length) with
  | false => rfl
  | true =>
    cases h2 : decide (l.length ≤ 8) with
    | false => rfl
    | true =>
      simp (disch := omega) only [obnd_s, obnd_n, oite_ss, oite_t, oite_f, ogrd_t, ogrd_f, obndS_l, obndS_r, ilt_eq, ile_eq, ieq_eq, imax_e, imin_e, k0, k1, k2, k3, k4, k5, k6, k7, k8, k9, reduceIte, k10, k11, k12, k13, k14, k15, k16, k17, k18, k19, k20, k21, k22, k23, k24, k25, k26, k27, k28]
      rw [oloop_scanB (fun i => (i : Int)) l.length (fun i => !decide (revE l i = 0)) (fun i => .inr ((i : Int), revE l i)) (d := .inl ()) (e0 := 0) rfl ?_ ?_, errs_scan (revE l) l.length (Sum.inr : Int × Int → Unit ⊕ (Int × Int))]
      · cases errs (revE l) l.length <;> rfl
      · intro i hi
        have hn := hs (gr l i) (by unfold gr; rw [getD_i hi]; exact List.getElem_mem hi)
        simp (disch := omega) only [obnd_s, obnd_n, oite_ss, oite_t, oite_f, ogrd_t, ogrd_f, obndS_l, obndS_r, ilt_eq, ile_eq, ieq_eq, imax_e, imin_e, k0, k1, k2, k3, k4, k5, k6, k7, k8, k9, reduceIte, k10, k11, k12, k13, k14, k15, k16, k17, k18, k19, k20, k21, k22, k23, k24, k25, k26, k27, k28, hi, get_gr hi, f254_w hn, oslH_n (Nat.le_of_lt hi), f252_e (p := fun z0 z1 z2 => f253 z0 z1 z2 (gr l i).1 (gr l i).2.1 (gr l i).2.2) (l := l.take i) (fun x => x.1.toList == (gr l i).1.toList) (fun _ _ => f253_e _ _ _ _ _ _) (by rw [List.length_take]; omega), f216_e, f214_e, f213_3, wr]
        unfold revE
        rw [show (List.any (l.take i) fun x => x.1.toList == (gr l i).1.toList) = knownR l i from rfl, show (decide (0 ≤ (gr l i).2.1) && decide ((gr l i).2.1 ≤ 100000)) = day5 (gr l i).2.1 from rfl, show (decide (1 ≤ (gr l i).2.2) && decide ((gr l i).2.2 ≤ 100000)) = pos5 (gr l i).2.2 from rfl]
        cases nameB (gr l i).1 <;> cases knownR l i <;> cases day5 (gr l i).2.1 <;> cases pos5 (gr l i).2.2 <;> rfl
      · simp (disch := omega) only [obnd_s, obnd_n, oite_ss, oite_t, oite_f, ogrd_t, ogrd_f, obndS_l, obndS_r, ilt_eq, ile_eq, ieq_eq, imax_e, imin_e, k0, k1, k2, k3, k4, k5, k6, k7, k8, k9, reduceIte, k10, k11, k12, k13, k14, k15, k16, k17, k18, k19, k20, k21, k22, k23, k24, k25, k26, k27, k28, Int.lt_irrefl]
theorem f224_e {l : Rv} (hl : l.length < 4611686018427387904) (hs : ∀ p, p ∈ l → p.1.size ≤ 9223372036854775807) : f224 l = some (l, (ckR l).2) := by
  unfold f224; rw [f244_e hl hs]; rfl
theorem f364_e {l : List ByteArray} (s : ByteArray) (hl : l.length < 4611686018427387904) : f364 l s = some (l.any fun x => x.toList == s.toList) := by
  unfold f364
  rw [oloop_scanB (fun i => (i : Int)) l.length (fun i => (l.getD i ⟨#[]⟩).toList == s.toList) (fun _ => .inr true) (d := .inl ()) (e0 := 0) rfl ?_ ?_, scan_anyB (fun x => x.toList == s.toList) ⟨#[]⟩ (Sum.inr true : Unit ⊕ Bool) l]
  · cases l.any (fun x => x.toList == s.toList) <;> rfl
  · intro i hi
    rw [getD_i hi]
    simp (disch := omega) only [obnd_s, obnd_n, oite_ss, oite_t, oite_f, ogrd_t, ogrd_f, obndS_l, obndS_r, ilt_eq, ile_eq, ieq_eq, imax_e, imin_e, k0, k1, k2, k3, k4, k5, k6, k7, k8, k9, reduceIte, k10, k11, k12, k13, k14, k15, k16, k17, k18, k19, k20, k21, k22, k23, k24, k25, k26, k27, k28, hi, get_i hi, wr]; rfl
  · simp (disch := omega) only [obnd_s, obnd_n, oite_ss, oite_t, oite_f, ogrd_t, ogrd_f, obndS_l, obndS_r, ilt_eq, ile_eq, ieq_eq, imax_e, imin_e, k0, k1, k2, k3, k4, k5, k6, k7, k8, k9, reduceIte, k10, k11, k12, k13, k14, k15, k16, k17, k18, k19, k20, k21, k22, k23, k24, k25, k26, k27, k28, Int.lt_irrefl]
def nmR (M : Rv) (i : Nat) : List ByteArray := (M.take i).map (·.1)
theorem nmR_len {M : Rv} {i : Nat} : (nmR M i).length ≤ i := by simp [nmR]; omega
theorem nmR_s {M : Rv} {i : Nat} (h : i < M.length) : nmR M i ++ [(gr M i).1] = nmR M (i + 1) := by
  unfold nmR
  rw [List.take_add_one, get_gr h, List.map_append]; rfl
theorem nmR_any {M : Rv} {i : Nat} : (nmR M i).any (fun x => x.toList == (gr M i).1.toList) = knownR M i := by
  unfold nmR knownR; rw [List.any_map]; rfl
theorem f337_e {l : Rv} (hl : l.length < 4611686018427387904) (hs : ∀ p, p ∈ l → p.1.size ≤ 9223372036854775807) : f337 l = some (ckR l) := by
  unfold f337 ckR
  simp only [List.length_map, ilt_eq, ieq_eq]
  rw [show decide ((l.length : Int) = 0) = !decide (0 < l.length) by rw [← decide_not]; congr 1; exact propext (by omega), show decide ((8 : Int) < (l.length : Int)) = !decide (l.length ≤ 8) by rw [← decide_not]; congr 1; exact propext (by omega)]
  cases h1 : decide (0 < l.length) with
  | false => rfl
  | true =>
    cases h2 : decide (l.length ≤ 8) with
    | false => rfl
    | true =>
      have h2 := of_decide_eq_true h2
      simp only [Bool.not_true, oite_f, cond_false]
      rw [oloop_scanB (fun i => (nmR l i, (i : Int))) l.length (fun i => !decide (revE l i = 0)) (fun i => .inr ((i : Int), revE l i)) (d := .inl ()) (e0 := (([] : List ByteArray), (0 : Int))) rfl ?_ ?_, errs_scan (revE l) l.length (Sum.inr : Int × Int → Unit ⊕ (Int × Int))]
      · cases errs (revE l) l.length <;> rfl
      · intro i hi
        have hn := hs (gr l i) (by unfold gr; rw [getD_i hi]; exact List.getElem_mem hi)
        have hle := nmR_len (M := l) (i := i)
        simp (disch := omega) only [obnd_s, obnd_n, oite_ss, oite_t, oite_f, ogrd_t, ogrd_f, obndS_l, obndS_r, ilt_eq, ile_eq, ieq_eq, imax_e, imin_e, k0, k1, k2, k3, k4, k5, k6, k7, k8, k9, reduceIte, k10, k11, k12, k13, k14, k15, k16, k17, k18, k19, k20, k21, k22, k23, k24, k25, k26, k27, k28, hi, get_gr hi, wr, f91_w hn, f364_e (l := nmR l i) (gr l i).1 (by omega), nmR_any, f15_e]
        rw [ogrd_fits (by simp; omega) (by simp; omega), nmR_s hi]
        unfold revE
        rw [show (decide (0 ≤ (gr l i).2.1) && decide ((gr l i).2.1 ≤ 100000)) = day5 (gr l i).2.1 from rfl, show (decide (1 ≤ (gr l i).2.2) && decide ((gr l i).2.2 ≤ 100000)) = pos5 (gr l i).2.2 from rfl]
        cases nameB (gr l i).1 <;> cases knownR l i <;> cases day5 (gr l i).2.1 <;> cases pos5 (gr l i).2.2 <;> rfl
      · simp (disch := omega) only [obnd_s, obnd_n, oite_ss, oite_t, oite_f, ogrd_t, ogrd_f, obndS_l, obndS_r, ilt_eq, ile_eq, ieq_eq, imax_e, imin_e, k0, k1, k2, k3, k4, k5, k6, k7, k8, k9, reduceIte, k10, k11, k12, k13, k14, k15, k16, k17, k18, k19, k20, k21, k22, k23, k24, k25, k26, k27, k28, Int.lt_irrefl]

/-! ### What valid revisions are -/
structure okR (l : Rv) : Prop where
  pos : 0 < l.length
  few : l.length ≤ 8
  row : ∀ i, i < l.length → (0 ≤ (gr l i).2.1 ∧ (gr l i).2.1 ≤ 100000) ∧ (1 ≤ (gr l i).2.2 ∧ (gr l i).2.2 ≤ 100000)
theorem ckR_0 {l : Rv} (h : (ckR l).2 = 0) : ckR l = (0, 0) ∧ okR l := by
  unfold ckR at h ⊢
  cases h1 : decide (0 < l.length) with
  | false => rw [h1] at h; cases h
  | true =>
    cases h2 : decide (l.length ≤ 8) with
    | false => rw [h1, h2] at h; cases h
    | true =>
      rw [h1, h2] at h
      obtain ⟨h3, h4⟩ := errs_get h
      refine ⟨h3, of_decide_eq_true h1, of_decide_eq_true h2, fun i hi => ?_⟩
      have h5 := h4 i hi
      unfold revE at h5
      cases h6 : nameB (gr l i).1 with
      | false => rw [h6] at h5; cases h5
      | true =>
        cases h7 : knownR l i with
        | true => rw [h6, h7] at h5; cases h5
        | false =>
          cases h8 : (day5 (gr l i).2.1 && pos5 (gr l i).2.2) with
          | false => rw [h6, h7, h8] at h5; cases h5
          | true =>
            simpa [day5, pos5] using h8

/-! ### Orders -/
def hasI (l : List Int) (x : Int) : Bool := l.any fun y => decide (y = x)
theorem f344_e {l : List Int} (x : Int) (hl : l.length < 4611686018427387904) : f344 l x = some (hasI l x) := by
  unfold f344 hasI
  rw [oloop_scanB (fun i => (i : Int)) l.length (fun i => decide (l.getD i 0 = x)) (fun _ => .inr true) (d := .inl ()) (e0 := 0) rfl ?_ ?_, scan_anyB (fun y => decide (y = x)) 0 (Sum.inr true : Unit ⊕ Bool) l]
  · cases l.any (fun y => decide (y = x)) <;> rfl
  · intro i hi
    rw [getD_i hi]
    simp (disch := omega) only [obnd_s, obnd_n, oite_ss, oite_t, oite_f, ogrd_t, ogrd_f, obndS_l, obndS_r, ilt_eq, ile_eq, ieq_eq, imax_e, imin_e, k0, k1, k2, k3, k4, k5, k6, k7, k8, k9, reduceIte, k10, k11, k12, k13, k14, k15, k16, k17, k18, k19, k20, k21, k22, k23, k24, k25, k26, k27, k28, hi, get_i hi, wr]
    cases decide (l[i] = x) <;> rfl
  · simp (disch := omega) only [obnd_s, obnd_n, oite_ss, oite_t, oite_f, ogrd_t, ogrd_f, obndS_l, obndS_r, ilt_eq, ile_eq, ieq_eq, imax_e, imin_e, k0, k1, k2, k3, k4, k5, k6, k7, k8, k9, reduceIte, k10, k11, k12, k13, k14, k15, k16, k17, k18, k19, k20, k21, k22, k23, k24, k25, k26, k27, k28, Int.lt_irrefl]
theorem f145_e {l : List Int} (x : Int) (hl : l.length < 4611686018427387904) : f145 l x = some (findI (fun y => decide (y = x)) l) := by
  unfold f145
  rw [oloop_scanB (fun i => (i : Int)) l.length (fun i => (fun y => decide (y = x)) (l.getD i 0)) (fun i => .inr (i : Int)) (d := .inl ()) (e0 := 0) rfl ?_ ?_, scan_find (fun y => decide (y = x)) _ _ l.length l 0 (by omega)]
  · rw [List.drop_zero]; unfold findI
    cases l.findIdx? (fun y => decide (y = x)) with
    | none => rfl
    | some i => simp [obndS_r]
  · intro i hi
    rw [getD_i hi]
    have e : decide (x = l[i]) = decide (l[i] = x) := by rw [Bool.eq_iff_iff, decide_eq_true_eq, decide_eq_true_eq]; exact eq_comm
    simp (disch := omega) only [obnd_s, obnd_n, oite_ss, oite_t, oite_f, ogrd_t, ogrd_f, obndS_l, obndS_r, ilt_eq, ile_eq, ieq_eq, imax_e, imin_e, k0, k1, k2, k3, k4, k5, k6, k7, k8, k9, reduceIte, k10, k11, k12, k13, k14, k15, k16, k17, k18, k19, k20, k21, k22, k23, k24, k25, k26, k27, k28, hi, get_i hi, wr, e]
    cases decide (l[i] = x) <;> rfl
  · simp (disch := omega) only [obnd_s, obnd_n, oite_ss, oite_t, oite_f, ogrd_t, ogrd_f, obndS_l, obndS_r, ilt_eq, ile_eq, ieq_eq, imax_e, imin_e, k0, k1, k2, k3, k4, k5, k6, k7, k8, k9, reduceIte, k10, k11, k12, k13, k14, k15, k16, k17, k18, k19, k20, k21, k22, k23, k24, k25, k26, k27, k28, Int.lt_irrefl]
theorem f138_e {l : List Int} (x : Int) (hl : l.length < 4611686018427387904) : f138 l x = some (hasI l x) := by
  unfold f138
  rw [f145_e x hl]
  simp (disch := omega) only [obnd_s, obnd_n, oite_ss, oite_t, oite_f, ogrd_t, ogrd_f, obndS_l, obndS_r, ilt_eq, ile_eq, ieq_eq, imax_e, imin_e, k0, k1, k2, k3, k4, k5, k6, k7, k8, k9, reduceIte, k10, k11, k12, k13, k14, k15, k16, k17, k18, k19, k20, k21, k22, k23, k24, k25, k26, k27, k28, findI_any]
  rfl
def ordE (n : Nat) (o : List Int) (i : Nat) : Int := bif !(decide (0 ≤ gi o i) && decide (gi o i ≤ (n : Int) - 1)) then 6 else bif hasI (o.take i) (gi o i) then 23 else 0
def ckO (n : Nat) (o : List Int) : Int := bif !decide (o.length = n) then 10 else ((errs (ordE n o) o.length).getD (0, 0)).2
theorem f338_e {l : Rv} {o : List Int} (hl : l.length < 4611686018427387904) : f338 l o = some (ckO l.length o) := by
  unfold f338 ckO
  have hw : IntKind.i64.wrap ((l.length : Int) - 1) = (l.length : Int) - 1 := wr (by omega) (by omega)
  simp only [List.length_map, ieq_eq, hw]
  rw [show decide ((o.length : Int) = (l.length : Int)) = decide (o.length = l.length) from ceqN _ _]
  cases h1 : decide (o.length = l.length) with
  | false => rfl
  | true =>
    have ho := of_decide_eq_true h1
    simp only [Bool.not_true, oite_f, cond_false]
    rw [oloop_scanB (fun i => (i : Int)) o.length (fun i => !decide (ordE l.length o i = 0)) (fun i => .inr (ordE l.length o i)) (d := .inl ()) (e0 := (0 : Int)) rfl ?_ ?_, errs_scan (ordE l.length o) o.length (fun r : Int × Int => (Sum.inr r.2 : Unit ⊕ Int))]
    · cases errs (ordE l.length o) o.length <;> rfl
    · intro i hi
      simp (disch := omega) only [obnd_s, obnd_n, oite_ss, oite_t, oite_f, ogrd_t, ogrd_f, obndS_l, obndS_r, ilt_eq, ile_eq, ieq_eq, imax_e, imin_e, k0, k1, k2, k3, k4, k5, k6, k7, k8, k9, reduceIte, k10, k11, k12, k13, k14, k15, k16, k17, k18, k19, k20, k21, k22, k23, k24, k25, k26, k27, k28, hi, get_gi hi, wr, f15_e, oslH_n (Nat.le_of_lt hi), f344_e (l := o.take i) (gi o i) (by rw [List.length_take]; omega)]
      unfold ordE
      cases (decide (0 ≤ gi o i) && decide (gi o i ≤ (l.length : Int) - 1)) <;> cases hasI (o.take i) (gi o i) <;> rfl
    · simp (disch := omega) only [obnd_s, obnd_n, oite_ss, oite_t, oite_f, ogrd_t, ogrd_f, obndS_l, obndS_r, ilt_eq, ile_eq, ieq_eq, imax_e, imin_e, k0, k1, k2, k3, k4, k5, k6, k7, k8, k9, reduceIte, k10, k11, k12, k13, k14, k15, k16, k17, k18, k19, k20, k21, k22, k23, k24, k25, k26, k27, k28, Int.lt_irrefl]
end
end Go.Proofs.YtmbekcealcjabaaGreat.AM
