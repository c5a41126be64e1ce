/- Plain laws of computations: tests, loops. Conditions: none. -/
import Derived.Test.YtjnpdnlgkepmcaaAmLift2
namespace Go.Proofs.Ytjnpdnlgkepmcaa.AM
set_option linter.unusedSimpArgs false
set_option linter.unusedVariables false
open Go Go.RowKit
theorem k0 {α β : Type} {f : α → β} {l : List α} : (l.map f).length = l.length := List.length_map ..
theorem k1 (n : Nat) : (n : Int).toNat = n := Int.toNat_natCast n
theorem k2 (h : Decidable True) : @decide True h = true := decide_true h
theorem k3 (h : Decidable False) : @decide False h = false := decide_false h
theorem k4 : (!true) = false := rfl
theorem k5 : (!false) = true := rfl
theorem k6 (b : Bool) : (¬(b = true)) = (b = false) := Bool.not_eq_true b
theorem k7 : (false = true) = False := Bool.false_eq_true
theorem k8 {α : Type} {h : Decidable True} (a b : α) : ite True a b = a := if_true a b
theorem k9 {α : Type} {h : Decidable False} (a b : α) : ite False a b = b := if_false a b
theorem k10 : (¬False) = True := not_false_eq_true
theorem k11 : (¬True) = False := not_true_eq_false
theorem k12 (n : Nat) : (0 : Int) ≤ n := Int.natCast_nonneg n
theorem k13 {m n : Nat} : (m : Int) < n ↔ m < n := Int.ofNat_lt
theorem k14 {m n : Nat} : (m : Int) ≤ n ↔ m ≤ n := Int.ofNat_le
theorem k15 {α : Type} {a b : α} : cond true a b = a := rfl
theorem k16 {α : Type} {a b : α} : cond false a b = b := rfl
theorem k17 (b : Bool) : (true && b) = b := Bool.true_and b
theorem k18 (b : Bool) : (b && true) = b := Bool.and_true b
theorem k19 (b : Bool) : (false && b) = false := Bool.false_and b
theorem k20 (b : Bool) : (b && false) = false := Bool.and_false b
theorem k21 (b : Bool) : (true || b) = true := Bool.true_or b
theorem k22 (b : Bool) : (b || true) = true := Bool.or_true b
theorem k23 (b : Bool) : (false || b) = b := Bool.false_or b
theorem k24 (b : Bool) : (b || false) = b := Bool.or_false b
theorem k25 (c f : Bool) : cond c true f = (c || f) := Bool.cond_true_left c f
theorem k26 (c t : Bool) : cond c t false = (c && t) := Bool.cond_false_right c t
theorem k27 (c t : Bool) : cond c t true = (!c || t) := Bool.cond_true_right c t
theorem k28 (c f : Bool) : cond c false f = (!c && f) := Bool.cond_false_left c f
section
variable {α β γ : Type}
theorem obnd_s (a : α) (f : α → Option β) : obnd (some a) f = f a := rfl
theorem obnd_n (f : α → Option β) : obnd none f = none := rfl
theorem oite_t (x y : Option α) : oite true x y = x := rfl
theorem oite_f (x y : Option α) : oite false x y = y := rfl
theorem oite_ss (b : Bool) (x y : α) : oite b (some x) (some y) = some (bif b then x else y) := by cases b <;> rfl
theorem ogrd_t (x : Option α) : ogrd true x = x := rfl
theorem ogrd_f (x : Option α) : ogrd false x = none := rfl
theorem obndS_l (a : α) (f : α → Option γ) : obndS (some (.inl a)) f = f a := rfl
theorem obndS_r (x : γ) (f : α → Option γ) : obndS (some (.inr x)) f = some x := rfl
theorem imax_e (a b : Int) : imax a b = max a b := by
 unfold imax; rw [ilt_eq]; by_cases h : a < b
 · rw [decide_eq_true h]; simp only [cond_true]; omega
 · rw [decide_eq_false h]; simp only [cond_false]; omega
theorem imin_e (a b : Int) : imin a b = min a b := by
 unfold imin; rw [ilt_eq]; by_cases h : b < a
 · rw [decide_eq_true h]; simp only [cond_true]; omega
 · rw [decide_eq_false h]; simp only [cond_false]; omega
theorem fits_e (b n : Nat) : fits b n = decide (n * b ≤ 1099511627776 ∧ n ≤ 1099511627776) := by
 unfold fits; rw [Bool.eq_iff_iff]; simp
theorem fits_t {b n : Nat} (h1 : n * b ≤ 1099511627776) (h2 : n ≤ 1099511627776) : fits b n = true := by rw [fits_e]; simp [h1, h2]
theorem ogrd_fits {b n : Nat} {x : Option α} (h1 : n * b ≤ 1099511627776) (h2 : n ≤ 1099511627776) : ogrd (fits b n) x = x := by rw [fits_t h1 h2]; rfl
theorem wr {n : Int} (h1 : -9223372036854775808 ≤ n) (h2 : n < 9223372036854775808) : IntKind.i64.wrap n = n := wrap_in h1 h2
theorem get_i {l : List α} {i : Nat} (h : i < l.length) : l[i]? = some (l[i]'h) := List.getElem?_eq_getElem h
theorem oloop_up {τ ρ : Type} {g : τ → Option (τ ⊕ ρ)} (S : Nat → τ) : ∀ (n m : Nat), m ≤ n → (∀ i, i < n → g (S i) = some (.inl (S (i + 1)))) → oloop g (S m) = oloop g (S n)
  | 0, m, hm, _ => by rw [show m = 0 by omega]
  | n + 1, m, hm, h => by
    rcases Nat.lt_or_ge n m with h1 | h1
    · rw [show m = n + 1 by omega]
    · rw [oloop_up S n m h1 (fun i hi => h i (by omega)), oloop_step (h n (by omega))]
theorem oloop_all {τ ρ : Type} {g : τ → Option (τ ⊕ ρ)} (S : Nat → τ) (n : Nat) {r : ρ} {e0 : τ} (h0 : e0 = S 0) (h : ∀ i, i < n → g (S i) = some (.inl (S (i + 1)))) (hend : g (S n) = some (.inr r)) : oloop g e0 = some r := by
 rw [h0, oloop_up S n 0 (Nat.zero_le _) h, oloop_done hend]
def scanF {ρ : Type} (f : Nat → Option ρ) : Nat → Nat → Option ρ
  | 0, _ => none
  | n + 1, i => match f i with
    | some r => some r
    | none => scanF f n (i + 1)
theorem scanF_congr {ρ : Type} {f f' : Nat → Option ρ} : ∀ {n i : Nat}, (∀ k, i ≤ k → k < i + n → f k = f' k) → scanF f n i = scanF f' n i
  | 0, i, _ => rfl
  | n + 1, i, h => by
    simp only [scanF]
    rw [h i (Nat.le_refl _) (by omega), scanF_congr (n := n) (i := i + 1) fun k h1 h2 => h k (by omega) (by omega)]
theorem oloop_scan {τ ρ : Type} {g : τ → Option (τ ⊕ ρ)} (S : Nat → τ) (n : Nat) (f : Nat → Option ρ) {d : ρ} {e0 : τ} (h0 : e0 = S 0)
    (h : ∀ i, i < n → g (S i) = match f i with | some r => some (.inr r) | none => some (.inl (S (i + 1)))) (hend : g (S n) = some (.inr d)) :
    oloop g e0 = some ((scanF f n 0).getD d) := by
  have key : ∀ k i, i + k = n → oloop g (S i) = some ((scanF f k i).getD d) := by
    intro k
    induction k with
    | zero => intro i hi; rw [show i = n by omega, oloop_done hend]; rfl
    | succ k ih =>
      intro i hi
      have hs := h i (by omega)
      simp only [scanF]
      cases hf : f i with
      | some r => rw [hf] at hs; rw [oloop_done hs]; rfl
      | none => rw [hf] at hs; rw [oloop_step hs]; exact ih (i + 1) (by omega)
  rw [h0]; exact key n 0 (by omega)
theorem oloop_scanB {τ ρ : Type} {g : τ → Option (τ ⊕ ρ)} (S : Nat → τ) (n : Nat) (b : Nat → Bool) (r : Nat → ρ) {d : ρ} {e0 : τ} (h0 : e0 = S 0)
  (h : ∀ i, i < n → g (S i) = some (bif b i then .inr (r i) else .inl (S (i + 1)))) (hend : g (S n) = some (.inr d)) :
  oloop g e0 = some ((scanF (fun i => bif b i then some (r i) else none) n 0).getD d) :=
 oloop_scan S n _ h0 (fun i hi => by rw [h i hi]; cases b i <;> rfl) hend
theorem scanF_map {ρ σ : Type} {f : Nat → Option ρ} {k : ρ → σ} : ∀ {n i : Nat}, scanF (fun i => (f i).map k) n i = (scanF f n i).map k
  | 0, _ => rfl
  | n + 1, i => by
    simp only [scanF]
    cases f i with
    | some r => rfl
    | none => exact scanF_map
end
end Go.Proofs.Ytjnpdnlgkepmcaa.AM
