/- Contracts: small functions. Conditions: none. -/
import Derived.Test.YtfdapegcngmknaaAmAwake
import Derived.Test.YtfdapegcngmknaaAmLoopR
namespace Go.Proofs.Ytfdapegcngmknaa.AM
open Go Go.RowKit
attribute [local irreducible] ICallV ICalls ploop Recast

theorem within_c (n lo hi : Int) : ICalls E 65 [.int .i64 n, .int .i64 lo, .int .i64 hi] AHeap.none fun v _ => v = .bool (ile lo n && ile n hi) := by
  refine icalls_fn (pfn_sound ?_)
  conv => whnf
  cases h1 : ile lo n <;> (conv => whnf) <;> rfl
theorem refWithin_c (n lo hi : Int) : ICalls E 15 [.int .i64 n, .int .i64 lo, .int .i64 hi] AHeap.none fun v _ => v = .bool (ile lo n && ile n hi) := by
  refine icalls_fn (pfn_sound ?_)
  conv => whnf
  cases h1 : ile lo n <;> (conv => whnf) <;> rfl
theorem btw_t {n lo hi : Int} (h : lo ≤ n ∧ n ≤ hi) : (ile lo n && ile n hi) = true := by rw [ile_t h.1, ile_t h.2]; rfl
theorem btw_f {n lo hi : Int} (h : n < lo ∨ hi < n) : (ile lo n && ile n hi) = false := by
  rcases h with h | h
  · rw [ile_f h]; rfl
  · rw [ile_f h]; simp
theorem within_t {n lo hi : Int} (h : lo ≤ n ∧ n ≤ hi) : ICalls E 65 [.int .i64 n, .int .i64 lo, .int .i64 hi] AHeap.none fun v _ => v = .bool true := by rw [← btw_t h]; exact within_c n lo hi
theorem within_f {n lo hi : Int} (h : n < lo ∨ hi < n) : ICalls E 65 [.int .i64 n, .int .i64 lo, .int .i64 hi] AHeap.none fun v _ => v = .bool false := by rw [← btw_f h]; exact within_c n lo hi
theorem refWithin_t {n lo hi : Int} (h : lo ≤ n ∧ n ≤ hi) : ICalls E 15 [.int .i64 n, .int .i64 lo, .int .i64 hi] AHeap.none fun v _ => v = .bool true := by rw [← btw_t h]; exact refWithin_c n lo hi
theorem refWithin_f {n lo hi : Int} (h : n < lo ∨ hi < n) : ICalls E 15 [.int .i64 n, .int .i64 lo, .int .i64 hi] AHeap.none fun v _ => v = .bool false := by rw [← btw_f h]; exact refWithin_c n lo hi
theorem unless_c (b : Bool) (e : Int) : ICalls E 64 [.bool b, .int .i64 e] AHeap.none fun v _ => v = .int .i64 (bif b then 0 else e) := by
  refine icalls_fn (pfn_sound ?_)
  cases b <;> (conv => whnf) <;> rfl
theorem unless_t (e : Int) : ICalls E 64 [.bool true, .int .i64 e] AHeap.none fun v _ => v = .int .i64 0 := unless_c true e
theorem unlessT {b : Bool} {e : Int} (h : b = true) : ICalls E 64 [.bool b, .int .i64 e] AHeap.none fun v _ => v = .int .i64 0 := by rw [h]; exact unless_t e
theorem unlessF {b : Bool} {e : Int} (h : b = false) : ICalls E 64 [.bool b, .int .i64 e] AHeap.none fun v _ => v = .int .i64 e := by rw [h]; exact unless_c false e
theorem unless_f (e : Int) : ICalls E 64 [.bool false, .int .i64 e] AHeap.none fun v _ => v = .int .i64 e := unless_c false e

def firstNZ : List Int → Int
  | [] => 0
  | x :: r => bif ieq x 0 then firstNZ r else x

theorem first_c (L : List Int) (hL : L.length ≤ 1000) : ICalls E 63 [vints L] AHeap.none fun v _ => v = .int .i64 (firstNZ L) := by
  refine icalls_fn (pfn_sound ?_)
  conv => whnf
  refine ploop_up (fun i => ⟨[(5, vints L), (6, .int .i64 ((ints L).length : Int)), (7, .int .i64 (i : Int))], AHeap.none⟩) L.length (fun i => firstNZ (L.drop i) = firstNZ L) .refl rfl ?_ ?_
  · intro i hi hI
    conv => whnf
    refine pbr_t (ilt_n (by rw [len_ints]; exact hi)) ?_
    conv => whnf
    have hx := List.getElem?_eq_getElem hi
    refine obind_intro (nth_ints hx) ?_
    conv => whnf
    rw [List.drop_eq_getElem_cons hi, show firstNZ (L[i] :: L.drop (i + 1)) = bif ieq L[i] 0 then firstNZ (L.drop (i + 1)) else L[i] from rfl] at hI
    refine pbr_i (fun h => ?_) (fun h => ?_)
    · conv => whnf
      have h : ieq L[i] 0 = false := by simpa using h
      rw [h] at hI
      rw [← hI]; rfl
    · conv => whnf
      have h : ieq L[i] 0 = true := by simpa using h
      rw [h] at hI
      refine ⟨hI, ?_⟩
      rw [wrap_succ (by omega)]
      exact .refl
  · intro hI
    conv => whnf
    refine pbr_f (ilt_nf (by rw [len_ints]; exact Nat.le_refl _)) ?_
    conv => whnf
    rw [← hI]; simp [firstNZ, resV]
/-- The first error: of literals. -/
theorem first2 (x y : Int) {e : Int} (he : e = if x = 0 then y else x) : ICalls E 63 [VS 1 [.int .i64 x, .int .i64 y]] AHeap.none fun v _ => v = .int .i64 e := by
  have h := first_c [x, y] (by simp)
  have : firstNZ [x, y] = e := by
    subst he; simp only [firstNZ, ieq_eq]
    by_cases h1 : x = 0 <;> by_cases h2 : y = 0 <;> simp [h1, h2]
  rw [this] at h; exact h
theorem first3 (x y z : Int) {e : Int} (he : e = if x = 0 then if y = 0 then z else y else x) : ICalls E 63 [VS 1 [.int .i64 x, .int .i64 y, .int .i64 z]] AHeap.none fun v _ => v = .int .i64 e := by
  have h := first_c [x, y, z] (by simp)
  have : firstNZ [x, y, z] = e := by
    subst he; simp only [firstNZ, ieq_eq]
    by_cases h1 : x = 0 <;> by_cases h2 : y = 0 <;> by_cases h3 : z = 0 <;> simp [h1, h2, h3]
  rw [this] at h; exact h
theorem first4 (x y z t : Int) {e : Int} (he : e = if x = 0 then if y = 0 then if z = 0 then t else z else y else x) : ICalls E 63 [VS 1 [.int .i64 x, .int .i64 y, .int .i64 z, .int .i64 t]] AHeap.none fun v _ => v = .int .i64 e := by
  have h := first_c [x, y, z, t] (by simp)
  have : firstNZ [x, y, z, t] = e := by
    subst he; simp only [firstNZ, ieq_eq]
    by_cases h1 : x = 0 <;> by_cases h2 : y = 0 <;> by_cases h3 : z = 0 <;> by_cases h4 : t = 0 <;> simp [h1, h2, h3, h4]
  rw [this] at h; exact h

theorem copyInts_f (L : List Int) (hL : L.length ≤ 1000) : ICalls E 38 [vints L] AHeap.none fun v h' => ∃ b n, v = VT 1 (ints L) b ∧ n = (ints L).length ∧ h'.get b = some (.tail n 1) := by
  refine icalls_fn (pfn_sound ?_)
  have := @len_ints L
  conv => whnf
  repeat ((first | (refine ⟨rfl, rfl, rfl, by simp only [List.length_nil]; omega, by simp only [List.length_nil]; omega, ?_⟩) | (refine pbr_t (ilt_t (by omega)) ?_) | (refine pbr_f (ilt_f (by omega)) ?_) | (refine pbr_t (ile_t (by omega)) ?_) | (refine pbr_f (ile_f (by omega)) ?_) | (refine pbr_t (ieq_t (by omega)) ?_) | (refine pbr_f (ieq_f (by omega)) ?_) | (refine pbr_f (not_t (ilt_t (by omega))) ?_) | (refine pbr_t (not_f (ilt_f (by omega))) ?_) | (refine pbr_f (not_t (ieq_t (by omega))) ?_) | (refine pbr_t (not_f (ieq_f (by omega))) ?_)); conv => whnf)
  exact ⟨0, _, rfl, rfl, rfl⟩
end Go.Proofs.Ytfdapegcngmknaa.AM
