/- Plain law: TopDamInvariant (last part). Conditions: none. -/
import Derived.Test.YtacgibkgojnfeaaAmD7
namespace Go.Proofs.Ytacgibkgojnfeaa.AM
section
set_option linter.unusedSimpArgs false
set_option linter.unusedVariables false
open Go Go.RowKit

/-! ### Sums over the chosen terms -/
def lsum : List Int → Int
  | [] => 0
  | x :: r => x + lsum r
theorem lsum_app : ∀ {a b : List Int}, lsum (a ++ b) = lsum a + lsum b
  | [], b => by simp [lsum]
  | x :: r, b => by
    simp only [List.cons_append, lsum]
    rw [lsum_app]; omega
theorem sumN_tab : ∀ {n : Nat} {F : Nat → Int}, sumN n F = lsum (tab n F)
  | 0, _ => rfl
  | n + 1, F => by
    simp only [sumN]
    rw [← tab_s, lsum_app, sumN_tab]
    simp [lsum]
theorem lsum_filter {p : Nat → Bool} {F : Nat → Int} : ∀ {L : List Nat}, lsum ((L.filter p).map F) = lsum (L.map fun t => if p t then F t else 0)
  | [] => rfl
  | t :: L => by
    rw [List.filter_cons]
    cases h : p t with
    | true =>
      simp only [if_true, List.map_cons, lsum, h]
      rw [lsum_filter]
    | false =>
      simp only [Bool.false_eq_true, if_false, List.map_cons, lsum, h]
      rw [lsum_filter]; omega
theorem sum_ch {s : Int} {F : Nat → Int} : sumN (gN s) (fun k => F (chI s k)) = sumN 5 fun t => if hasB s t then F t else 0 := by
  rw [sumN_tab, tab_chN (F := F), sumN_tab]
  exact lsum_filter
theorem gram_sum {l : List Rd} {a b : Nat} : ∀ {j : Nat}, gram l a b j = sumN j fun i => tm (gR l i) a * tm (gR l i) b
  | 0 => rfl
  | j + 1 => by simp only [gram, sumN]; rw [gram_sum]
theorem rgt_sum {l : List Rd} {a : Nat} : ∀ {j : Nat}, rgt l a j = sumN j fun i => tm (gR l i) a * (gR l i).2.2
  | 0 => rfl
  | j + 1 => by simp only [rgt, sumN]; rw [rgt_sum]
theorem gram_comm {l : List Rd} {a b j : Nat} : gram l a b j = gram l b a j := by
  rw [gram_sum, gram_sum]
  exact sumN_congr fun k _ => Int.mul_comm _ _
theorem sm5 {f : Fit} {x : Rd} : sm f x [0, 1, 2, 3, 4] 5 = sumN 5 fun t => f.p t * tm x t := by
  simp only [sm, sumN, List.getD_cons_zero, List.getD_cons_succ]
/-- What CheckFit adds up for a term. -/
def ckS (l : List Rd) (f : Fit) (a : Nat) : Int := sumN l.length fun j => tm (gR l j) a * resid f (gR l j)
theorem ckS_e {l : List Rd} {f : Fit} {a : Nat} : ckS l f a = f.d * rgt l a l.length - sumN 5 fun t => gram l a t l.length * f.p t := by
  unfold ckS
  have h1 : ∀ j, tm (gR l j) a * resid f (gR l j) = f.d * (tm (gR l j) a * (gR l j).2.2) + -1 * sumN 5 fun t => tm (gR l j) a * tm (gR l j) t * f.p t := by
    intro j
    unfold resid
    rw [sm5, Int.mul_sub]
    have : (sumN 5 fun t => tm (gR l j) a * tm (gR l j) t * f.p t) = tm (gR l j) a * sumN 5 fun t => f.p t * tm (gR l j) t := by
      rw [← sumN_mul]
      exact sumN_congr fun k _ => by grind
    rw [this]; grind
  rw [sumN_congr fun j _ => h1 j, sumN_add, sumN_mul, sumN_mul, ← rgt_sum, sumN_swap]
  have h2 : (sumN 5 fun t => sumN l.length fun j => tm (gR l j) a * tm (gR l j) t * f.p t) = sumN 5 fun t => gram l a t l.length * f.p t := by
    refine sumN_congr fun t _ => ?_
    rw [gram_sum, Int.mul_comm, ← sumN_mul]
    exact sumN_congr fun j _ => by grind
  rw [h2]; omega

/-! ### The fit that is returned -/
/-- A fit that FitOf returns: the determinants, reduced. -/
structure isFit (l : List Rd) (s : Int) (f : Fit) (G : Nat) : Prop where
  g0 : 0 < G
  d : dD l s = G * f.d
  p : ∀ t, t < 5 → PT l s t = G * f.p t
  one : gc f.d f.p0 f.p1 f.p2 f.p3 f.p4 = 1
  err : fitE f.d f.p0 f.p1 f.p2 f.p3 f.p4 = 0
  out : ∀ t, t < 5 → hasB s t = false → f.p t = 0
theorem normal5 {l : List Rd} {s : Int} (hl : l.length ≤ 12) (hx : ∀ j, j < l.length → rdP (gR l j)) {a : Nat} (ha : a < 5) (hb : hasB s a = true) : (sumN 5 fun t => gram l a t l.length * PT l s t) = rgt l a l.length * dD l s := by
  obtain ⟨i, hi, rfl⟩ : ∃ i, i < gN s ∧ chI s i = a := by
    have := chN_has.2 ⟨ha, hb⟩
    obtain ⟨i, hi, e⟩ := List.getElem_of_mem this
    exact ⟨i, hi, by simp [chI, hi, e]⟩
  rw [← normal hl hx hi]
  have := sum_ch (s := s) (F := fun t => gram l (chI s i) t l.length * PT l s t)
  rw [this]
  refine sumN_congr fun t ht => ?_
  cases h : hasB s t with
  | true => simp
  | false =>
    rw [PT_out (t := t) fun hm => by have := (chN_has.1 hm).2; rw [h] at this; cases this]
    simp
theorem isFit.zero {l : List Rd} {s : Int} {f : Fit} {G : Nat} (h : isFit l s f G) (hl : l.length ≤ 12) (hx : ∀ j, j < l.length → rdP (gR l j)) {a : Nat} (ha : a < 5) (hb : hasB s a = true) : ckS l f a = 0 := by
  have h1 := normal5 hl hx ha hb
  have h2 : (sumN 5 fun t => gram l a t l.length * PT l s t) = (G : Int) * sumN 5 fun t => gram l a t l.length * f.p t := by
    rw [← sumN_mul]
    exact sumN_congr fun t ht => by rw [h.p t ht]; grind
  rw [h2, h.d] at h1
  have h3 : (G : Int) * ckS l f a = 0 := by
    rw [ckS_e, Int.mul_sub, h1]; grind
  rcases Int.mul_eq_zero.1 h3 with h4 | h4
  · have := h.g0; omega
  · exact h4
/-- A column that is a sum of the columns, in place of one. -/
theorem set_comb {l : List Rd} {s : Int} {o : Nat → Int} {z : Col} (hz : ∀ i, i < gN s → z i = sumN 5 fun t => gram l (chI s i) t l.length * (if hasB s t then o t else 0)) {k : Nat} (hk : k < gN s) : det (gN s) 0 ((GC l s).set k z) = o (chI s k) * DD l s := by
  have hk' : k < (GC l s).length := by rw [GC_len]; exact hk
  have hset : ∀ v : Col, (GC l s).take k ++ v :: (GC l s).drop (k + 1) = (GC l s).set k v := by
    intro v
    have e2 := List.set_eq_take_append_cons_drop (l := GC l s) (i := k) (a := v)
    rw [if_pos hk'] at e2
    exact e2.symm
  have e : (GC l s)[k] = gcol l s (chI s k) := by
    have := GC_get (l := l) (s := s) hk (d := fun _ => 0)
    rw [List.getD_eq_getElem?_getD, get_i hk'] at this; exact this
  have hsplit : (GC l s).take k ++ gcol l s (chI s k) :: (GC l s).drop (k + 1) = GC l s := by
    rw [← e, List.getElem_cons_drop, List.take_append_drop]
  have hlen1 : ((GC l s).take k).length = k := by rw [List.length_take, GC_len]; omega
  have hlen2 : ((GC l s).drop (k + 1)).length = gN s - (k + 1) := by rw [List.length_drop, GC_len]
  have hk2 : k < (tab (gN s) fun q => o (chI s q)).length := by rw [tab_len]; exact hk
  have xs : (tab (gN s) fun q => o (chI s q)).take k ++ o (chI s k) :: (tab (gN s) fun q => o (chI s q)).drop (k + 1) = tab (gN s) fun q => o (chI s q) := by
    have e : (tab (gN s) fun q => o (chI s q))[k] = o (chI s k) := by
      have := tab_get (F := fun q => o (chI s q)) hk
      rw [get_i hk2] at this; injection this
    rw [← e, List.getElem_cons_drop, List.take_append_drop]
  have hlx : ((tab (gN s) fun q => o (chI s q)).take k).length = k := by rw [List.length_take, tab_len]; omega
  have hc : ∀ i, i < gN s → comb (GC l s) (tab (gN s) fun q => o (chI s q)) i = z i := by
    intro i hi
    rw [comb_sum (z := fun _ => 0) (by rw [GC_len, tab_len]), GC_len, hz i hi]
    have h1 : (sumN (gN s) fun q => (tab (gN s) fun q => o (chI s q)).getD q 0 * (GC l s).getD q (fun _ => 0) i) = sumN (gN s) fun q => gram l (chI s i) (chI s q) l.length * o (chI s q) := by
      refine sumN_congr fun q hq => ?_
      rw [GC_get hq, List.getD_eq_getElem?_getD, tab_get hq]
      show o (chI s q) * gram l (chI s i) (chI s q) l.length = _
      exact Int.mul_comm _ _
    rw [h1]
    have h2 := sum_ch (s := s) (F := fun t => gram l (chI s i) t l.length * o t)
    rw [h2]
    refine sumN_congr fun t _ => ?_
    cases hasB s t <;> simp
  have h1 := det_cramer (n := gN s) (r := 0) (p := (GC l s).take k) (q := (GC l s).drop (k + 1)) (c := gcol l s (chI s k)) (xs := (tab (gN s) fun q => o (chI s q)).take k) (ys := (tab (gN s) fun q => o (chI s q)).drop (k + 1)) (x := o (chI s k)) (by omega) (by omega) (z := comb (GC l s) (tab (gN s) fun q => o (chI s q))) (fun i => by rw [hsplit, xs])
  rw [hsplit, hset] at h1
  refine Eq.trans ?_ h1
  unfold GC; rw [tab_set, tab_set]
  refine det_tab fun j hj i _ hi => ?_
  by_cases h : j = k
  · rw [if_pos h, if_pos h]
    exact (hc i (by omega)).symm
  · rw [if_neg h, if_neg h]
/-- Numbers that make the matrix nothing are nothing. -/
theorem unique0 {l : List Rd} {s : Int} (hl : l.length ≤ 12) (hx : ∀ j, j < l.length → rdP (gR l j)) (hD : dD l s ≠ 0) {o : Nat → Int} (ho : ∀ a, a < 5 → hasB s a = true → (sumN 5 fun t => gram l a t l.length * (if hasB s t then o t else 0)) = 0) {k : Nat} (hk : k < gN s) : o (chI s k) = 0 := by
  have h1 := set_comb (l := l) (s := s) (o := o) (z := fun _ => 0) (fun i hi => by
    have hm : chI s i ∈ chN s := by unfold gN at hi; simp [chI, hi]
    exact (ho (chI s i) (chN_has.1 hm).1 (chN_has.1 hm).2).symm) hk
  have hk' : k < (GC l s).length := by rw [GC_len]; exact hk
  have h2 : det (gN s) 0 ((GC l s).set k fun _ => 0) = 0 := by
    have e2 := List.set_eq_take_append_cons_drop (l := GC l s) (i := k) (a := fun _ => 0)
    rw [if_pos hk'] at e2
    rw [e2]
    exact det_zero (by rw [List.length_take, List.length_drop, GC_len]; omega) fun _ => rfl
  rw [h2] at h1
  have h3 : DD l s ≠ 0 := by rw [← dD_e hl hx]; exact hD
  rcases Int.mul_eq_zero.1 h1.symm with h4 | h4
  · exact h4
  · exact absurd h4 h3
end
section
set_option linter.unusedSimpArgs false
set_option linter.unusedVariables false
open Go Go.RowKit

theorem f52_e (s : Int) : f52 s = some (bif decide (1 ≤ s) && decide (s ≤ 31) then 0 else 2) := by
  unfold f52; rw [f15_e]
  cases (decide (1 ≤ s) && decide (s ≤ 31)) <;> rfl
theorem f94_0 {s : Int} (h : 1 ≤ s ∧ s ≤ 31) : f94 s = some 0 := by
  unfold f94; rw [f65_e, decide_eq_true h.1, decide_eq_true h.2]; rfl
theorem rdE_of {x : Rd} (h : rdP x) : rdE x = 0 := by
  obtain ⟨⟨h1, h2⟩, ⟨h3, h4⟩, h5, h6⟩ := h
  unfold rdE rdB
  rw [decide_eq_true h1, decide_eq_true h2, decide_eq_true h3, decide_eq_true h4, decide_eq_true h5, decide_eq_true h6]; rfl
theorem smallD {l : List Rd} {s : Int} (hl : l.length ≤ 12) (hx : ∀ j, j < l.length → rdP (gR l j)) : small (dD l s) := by
  rw [dD_e hl hx]
  have := DD_b (s := s) hl hx
  unfold small; omega
theorem smallO {l : List Rd} {s : Int} (hl : l.length ≤ 12) (hx : ∀ j, j < l.length → rdP (gR l j)) (k : Nat) : small (dO l s k) := by
  rw [dO_e hl hx]
  have := DK_b (s := s) hl hx k
  unfold small; omega
theorem gc_mul {g : Nat} {d p0 p1 p2 p3 p4 : Int} : gc (g * d) (g * p0) (g * p1) (g * p2) (g * p3) (g * p4) = g * gc d p0 p1 p2 p3 p4 := by
  unfold gc
  simp only [Int.natAbs_mul, Int.natAbs_natCast, Nat.gcd_mul_left]
theorem mul_div {g : Nat} {a : Int} (h : (g : Int) ∣ a) : a = g * (a / g) := (Int.mul_ediv_cancel' h).symm
/-- FitOf: no fit, one that is too large, or a fit. -/
theorem f55_is {l : List Rd} {s : Int} (hE : rdsE l = 0) (hs : 1 ≤ s ∧ s ≤ 31) :
    f55 l s = some (0, 0, 0, 0, 0, 0, 12) ∧ dD l s = 0 ∨ f55 l s = some (0, 0, 0, 0, 0, 0, 8) ∧ dD l s ≠ 0 ∨ ∃ f G, isFit l s f G ∧ f55 l s = some (f.d, f.p0, f.p1, f.p2, f.p3, f.p4, 0) := by
  obtain ⟨hl, hx⟩ := rds_0 hE
  rw [f55_e hl hx hE (f94_0 hs) (smallD hl hx) fun k _ => smallO hl hx k]
  unfold fitR
  by_cases h0 : dD l s = 0
  · rw [if_pos h0]; exact .inl ⟨rfl, h0⟩
  rw [if_neg h0]
  have g0 := gc_pos (p0 := pS l s (gN s) 0) (p1 := pS l s (gN s) 1) (p2 := pS l s (gN s) 2) (p3 := pS l s (gN s) 3) (p4 := pS l s (gN s) 4) h0
  obtain ⟨v0, v1, v2, v3, v4, v5⟩ := @dvd_gc (dD l s) (pS l s (gN s) 0) (pS l s (gN s) 1) (pS l s (gN s) 2) (pS l s (gN s) 3) (pS l s (gN s) 4)
  obtain ⟨G, hG⟩ : ∃ G, gc (dD l s) (pS l s (gN s) 0) (pS l s (gN s) 1) (pS l s (gN s) 2) (pS l s (gN s) 3) (pS l s (gN s) 4) = G := ⟨_, rfl⟩
  rw [hG] at g0 v0 v1 v2 v3 v4 v5 ⊢
  have u0 := mul_div v0
  have u1 := mul_div v1
  have u2 := mul_div v2
  have u3 := mul_div v3
  have u4 := mul_div v4
  have u5 := mul_div v5
  have key := gc_mul (g := G) (d := dD l s / G) (p0 := pS l s (gN s) 0 / G) (p1 := pS l s (gN s) 1 / G) (p2 := pS l s (gN s) 2 / G) (p3 := pS l s (gN s) 3 / G) (p4 := pS l s (gN s) 4 / G)
  rw [← u0, ← u1, ← u2, ← u3, ← u4, ← u5, hG] at key
  split
  · exact .inr (.inl ⟨rfl, h0⟩)
  · rename_i he
    refine .inr (.inr ⟨⟨dD l s / G, pS l s (gN s) 0 / G, pS l s (gN s) 1 / G, pS l s (gN s) 2 / G, pS l s (gN s) 3 / G, pS l s (gN s) 4 / G⟩, G, ⟨g0, u0, fun t ht => ?_, ?_, Decidable.of_not_not he, fun t ht hb => ?_⟩, rfl⟩)
    · match t, ht with
      | 0, _ => exact u1
      | 1, _ => exact u2
      | 2, _ => exact u3
      | 3, _ => exact u4
      | 4, _ => exact u5
    · have : G * 1 = G * gc (dD l s / G) (pS l s (gN s) 0 / G) (pS l s (gN s) 1 / G) (pS l s (gN s) 2 / G) (pS l s (gN s) 3 / G) (pS l s (gN s) 4 / G) := by rw [Nat.mul_one]; exact key
      exact (Nat.eq_of_mul_eq_mul_left g0 this).symm
    · have hz : pS l s (gN s) t = 0 := PT_out (l := l) fun hm => by have := (chN_has.1 hm).2; rw [hb] at this; cases this
      match t, ht with
      | 0, _ => show pS l s (gN s) 0 / G = 0; rw [hz]; simp
      | 1, _ => show pS l s (gN s) 1 / G = 0; rw [hz]; simp
      | 2, _ => show pS l s (gN s) 2 / G = 0; rw [hz]; simp
      | 3, _ => show pS l s (gN s) 3 / G = 0; rw [hz]; simp
      | 4, _ => show pS l s (gN s) 4 / G = 0; rw [hz]; simp
end
section
set_option linter.unusedSimpArgs false
set_option linter.unusedVariables false
open Go Go.RowKit

section
variable {l l' : List Rd} {s : Int} (hlen : l'.length = l.length) (ht : ∀ j a, j < l.length → tm (gR l' j) a = tm (gR l j) a)
include hlen ht
theorem gram_same (a b : Nat) : gram l' a b l'.length = gram l a b l.length := by
  rw [hlen, gram_sum, gram_sum]
  exact sumN_congr fun j hj => by rw [ht j a hj, ht j b hj]
theorem GC_same : GC l' s = GC l s := by
  unfold GC
  refine tab_congr fun j _ => ?_
  funext i
  exact gram_same hlen ht _ _
theorem DD_same : DD l' s = DD l s := by unfold DD; rw [GC_same hlen ht]
theorem dD_same : dD l' s = dD l s := by rw [dD_w, dD_w, DD_same hlen ht]
/-- What is added to the movements is a sum of terms: what is added to the right side. -/
theorem rgt_same {o : Nat → Int} (hm : ∀ j, j < l.length → (gR l' j).2.2 = (gR l j).2.2 + sumN 5 fun t => o t * tm (gR l j) t) (a : Nat) : rgt l' a l'.length = rgt l a l.length + sumN 5 fun t => gram l a t l.length * o t := by
  have h1 : ∀ j, j < l.length → tm (gR l' j) a * (gR l' j).2.2 = tm (gR l j) a * (gR l j).2.2 + sumN 5 fun t => tm (gR l j) a * tm (gR l j) t * o t := by
    intro j hj
    rw [ht j a hj, hm j hj, Int.mul_add]
    congr 1
    rw [← sumN_mul]
    exact sumN_congr fun t _ => by grind
  rw [hlen, rgt_sum, rgt_sum, sumN_congr h1, sumN_add, sumN_swap]
  congr 1
  refine sumN_congr fun t _ => ?_
  rw [gram_sum, Int.mul_comm, ← sumN_mul]
  exact sumN_congr fun j _ => by grind
/-- The determinants of the parts. -/
theorem DK_same {o : Nat → Int} (ho : ∀ t, t < 5 → hasB s t = false → o t = 0) (hm : ∀ j, j < l.length → (gR l' j).2.2 = (gR l j).2.2 + sumN 5 fun t => o t * tm (gR l j) t) {k : Nat} (hk : k < gN s) : DK l' s k = DK l s k + o (chI s k) * DD l s := by
  unfold DK
  rw [GC_same hlen ht]
  have hk' : k < (GC l s).length := by rw [GC_len]; exact hk
  have hset : ∀ v : Col, (GC l s).set k v = (GC l s).take k ++ v :: (GC l s).drop (k + 1) := by
    intro v
    have e2 := List.set_eq_take_append_cons_drop (l := GC l s) (i := k) (a := v)
    rw [if_pos hk'] at e2
    exact e2
  have hc := set_comb (l := l) (s := s) (o := o) (z := fun i => sumN 5 fun t => gram l (chI s i) t l.length * (if hasB s t then o t else 0)) (fun i _ => rfl) hk
  have h1 := lin_det (n := gN s) (r := 0) ((GC l s).take k) ((GC l s).drop (k + 1)) (rcol l s) (fun i => sumN 5 fun t => gram l (chI s i) t l.length * (if hasB s t then o t else 0)) (rcol l' s) 1 1 (by rw [List.length_take, List.length_drop, GC_len]; omega) (fun i => by
    show rgt l' (chI s i) l'.length = 1 * rgt l (chI s i) l.length + 1 * _
    rw [rgt_same hlen ht hm, Int.one_mul, Int.one_mul]
    congr 1
    refine sumN_congr fun t ht' => ?_
    cases h : hasB s t with
    | true => simp
    | false => rw [ho t ht' h]; simp)
  rw [← hset, ← hset, ← hset, hc] at h1
  rw [h1]; omega
end
/-- The parts, all of them. -/
theorem PT_same {l l' : List Rd} {s : Int} (hl : l.length ≤ 12) (hx : ∀ j, j < l.length → rdP (gR l j)) (hx' : ∀ j, j < l'.length → rdP (gR l' j)) (hlen : l'.length = l.length) (ht : ∀ j a, j < l.length → tm (gR l' j) a = tm (gR l j) a) {o : Nat → Int} (ho : ∀ t, t < 5 → hasB s t = false → o t = 0) (hm : ∀ j, j < l.length → (gR l' j).2.2 = (gR l j).2.2 + sumN 5 fun t => o t * tm (gR l j) t) {t : Nat} (h5 : t < 5) : PT l' s t = PT l s t + o t * dD l s := by
  cases hb : hasB s t with
  | false =>
    have hn : t ∉ chN s := fun hm => by have := (chN_has.1 hm).2; rw [hb] at this; cases this
    rw [PT_out hn, PT_out hn, ho t h5 hb]; omega
  | true =>
    obtain ⟨i, hi, rfl⟩ : ∃ i, i < gN s ∧ chI s i = t := by
      have := chN_has.2 ⟨h5, hb⟩
      obtain ⟨i, hi, e⟩ := List.getElem_of_mem this
      exact ⟨i, hi, by simp [chI, hi, e]⟩
    rw [PT_at hi, PT_at hi, dO_e (by omega) hx', dO_e hl hx, dD_e hl hx, DK_same hlen ht ho hm hi]
end
section
set_option linter.unusedSimpArgs false
set_option linter.unusedVariables false
open Go Go.RowKit

def n5 (a0 a1 a2 a3 a4 : Int) : Nat → Int
  | 0 => a0 | 1 => a1 | 2 => a2 | 3 => a3 | _ => a4
/-- What is added of a term. -/
def oT (s a0 a1 a2 a3 a4 : Int) (t : Nat) : Int := if hasB s t = true then n5 a0 a1 a2 a3 a4 t else 0
theorem oT_out {s a0 a1 a2 a3 a4 : Int} (t : Nat) (h : hasB s t = false) : oT s a0 a1 a2 a3 a4 t = 0 := by
  unfold oT; rw [h]; rfl
def In100 (a : Int) : Prop := -100 ≤ a ∧ a ≤ 100
theorem oT_b {s a0 a1 a2 a3 a4 : Int} (h0 : In100 a0) (h1 : In100 a1) (h2 : In100 a2) (h3 : In100 a3) (h4 : In100 a4) (t : Nat) : -100 ≤ oT s a0 a1 a2 a3 a4 t ∧ oT s a0 a1 a2 a3 a4 t ≤ 100 := by
  unfold oT n5; unfold In100 at *
  split
  · split <;> assumption
  · omega
/-- What is added to a movement. -/
def addd (o : Nat → Int) (x : Rd) : Int := sumN 5 fun t => o t * tm x t
theorem addd_b {o : Nat → Int} {x : Rd} (ho : ∀ t, -100 ≤ o t ∧ o t ≤ 100) (hx : rdP x) : -50000 ≤ addd o x ∧ addd o x ≤ 50000 := by
  have m0 := mulb (ho 0) (tmb hx 0)
  have m1 := mulb (ho 1) (tmb hx 1)
  have m2 := mulb (ho 2) (tmb hx 2)
  have m3 := mulb (ho 3) (tmb hx 3)
  have m4 := mulb (ho 4) (tmb hx 4)
  unfold addd
  simp only [sumN]; omega
theorem hasB_0 (s : Int) : ieq (IntKind.i64.wrap (BitVec.ofInt (IntKind.bits .i64) (s.fdiv (2 ^ (min (0 : Int).toNat (IntKind.bits .i64)))) &&& BitVec.ofInt (IntKind.bits .i64) (1 : Int)).toNat) (1 : Int) = hasB s 0 := rfl
theorem hasB_1 (s : Int) : ieq (IntKind.i64.wrap (BitVec.ofInt (IntKind.bits .i64) (s.fdiv (2 ^ (min (1 : Int).toNat (IntKind.bits .i64)))) &&& BitVec.ofInt (IntKind.bits .i64) (1 : Int)).toNat) (1 : Int) = hasB s 1 := rfl
theorem hasB_2 (s : Int) : ieq (IntKind.i64.wrap (BitVec.ofInt (IntKind.bits .i64) (s.fdiv (2 ^ (min (2 : Int).toNat (IntKind.bits .i64)))) &&& BitVec.ofInt (IntKind.bits .i64) (1 : Int)).toNat) (1 : Int) = hasB s 2 := rfl
theorem hasB_3 (s : Int) : ieq (IntKind.i64.wrap (BitVec.ofInt (IntKind.bits .i64) (s.fdiv (2 ^ (min (3 : Int).toNat (IntKind.bits .i64)))) &&& BitVec.ofInt (IntKind.bits .i64) (1 : Int)).toNat) (1 : Int) = hasB s 3 := rfl
theorem hasB_4 (s : Int) : ieq (IntKind.i64.wrap (BitVec.ofInt (IntKind.bits .i64) (s.fdiv (2 ^ (min (4 : Int).toNat (IntKind.bits .i64)))) &&& BitVec.ofInt (IntKind.bits .i64) (1 : Int)).toNat) (1 : Int) = hasB s 4 := rfl
theorem ch3 {α : Type} {b : Bool} {a S x : Int} {k : Int → Option α} (ha : In100 a) (hx : -100 ≤ x ∧ x ≤ 100) (hS : -1000000000000 ≤ S ∧ S ≤ 1000000000000) :
    obnd (oite b (some (IntKind.i64.wrap (S + IntKind.i64.wrap (a * x)))) (some S)) k = k (S + (if b = true then a else 0) * x) := by
  cases b with
  | true =>
    have hb := mulb (A := 100) (T := 100) ha hx
    rw [oite_t, if_pos rfl, wr (n := a * x) (by omega) (by omega), wr (by omega) (by omega)]; rfl
  | false => rw [oite_f, if_neg (by simp), Int.zero_mul, Int.add_zero]; rfl
theorem f54_e {s a0 a1 a2 a3 a4 : Int} (h0 : In100 a0) (h1 : In100 a1) (h2 : In100 a2) (h3 : In100 a3) (h4 : In100 a4) {x : Rd} (hx : rdP x) : f54 s a0 a1 a2 a3 a4 x.1 x.2.1 x.2.2 = some (addd (oT s a0 a1 a2 a3 a4) x) := by
  have ho := oT_b (s := s) h0 h1 h2 h3 h4
  have t1 := tmb hx 1
  have t2 := tmb hx 2
  have t3 := tmb hx 3
  have t4 := tmb hx 4
  have c0 := ho 0
  have m1 := mulb (ho 1) t1
  have m2 := mulb (ho 2) t2
  have m3 := mulb (ho 3) t3
  unfold f54
  rw [f34_e hx]
  simp only [obnd_s, hasB_0, hasB_1, hasB_2, hasB_3, hasB_4]
  rw [ch3 h0 (by omega) (by omega)]
  rw [ch3 h1 (x := x.2.1) t1 (by show _ ≤ 0 + oT s a0 a1 a2 a3 a4 0 * 1 ∧ 0 + oT s a0 a1 a2 a3 a4 0 * 1 ≤ _; omega)]
  rw [ch3 h2 (x := (sea x.1).1) t2 (by show _ ≤ 0 + oT s a0 a1 a2 a3 a4 0 * 1 + oT s a0 a1 a2 a3 a4 1 * tm x 1 ∧ 0 + oT s a0 a1 a2 a3 a4 0 * 1 + oT s a0 a1 a2 a3 a4 1 * tm x 1 ≤ _; omega)]
  rw [ch3 h3 (x := (sea x.1).2) t3 (by show _ ≤ 0 + oT s a0 a1 a2 a3 a4 0 * 1 + oT s a0 a1 a2 a3 a4 1 * tm x 1 + oT s a0 a1 a2 a3 a4 2 * tm x 2 ∧ 0 + oT s a0 a1 a2 a3 a4 0 * 1 + oT s a0 a1 a2 a3 a4 1 * tm x 1 + oT s a0 a1 a2 a3 a4 2 * tm x 2 ≤ _; omega)]
  rw [ch3 h4 (x := x.1 / 360) t4 (by show _ ≤ 0 + oT s a0 a1 a2 a3 a4 0 * 1 + oT s a0 a1 a2 a3 a4 1 * tm x 1 + oT s a0 a1 a2 a3 a4 2 * tm x 2 + oT s a0 a1 a2 a3 a4 3 * tm x 3 ∧ 0 + oT s a0 a1 a2 a3 a4 0 * 1 + oT s a0 a1 a2 a3 a4 1 * tm x 1 + oT s a0 a1 a2 a3 a4 2 * tm x 2 + oT s a0 a1 a2 a3 a4 3 * tm x 3 ≤ _; omega)]
  rfl

/-! ### The readings with other movements -/
def mvR (l : List Rd) (o : Nat → Int) (j : Nat) : Rd := ((gR l j).1, (gR l j).2.1, (gR l j).2.2 + addd o (gR l j))
def mvS (l : List Rd) (o : Nat → Int) (i : Nat) : List Rd := tab l.length fun q => if q < i then mvR l o q else gR l q
theorem mvS_get {l : List Rd} {o : Nat → Int} {i : Nat} (h : i < l.length) : (mvS l o i)[i]? = some (gR l i) := by
  unfold mvS; rw [tab_get h, if_neg (by omega)]
theorem mvS_len {l : List Rd} {o : Nat → Int} {i : Nat} : (mvS l o i).length = l.length := tab_len
theorem mvS_s {l : List Rd} {o : Nat → Int} {i : Nat} : (mvS l o i).set i (mvR l o i) = mvS l o (i + 1) := by
  unfold mvS
  rw [tab_set]
  refine tab_congr fun q _ => ?_
  by_cases h : q = i
  · subst h; rw [if_pos rfl, if_pos (by omega)]
  · rw [if_neg h]
    by_cases h2 : q < i
    · rw [if_pos h2, if_pos (by omega)]
    · rw [if_neg h2, if_neg (by omega)]
theorem mvS_0 {l : List Rd} {o : Nat → Int} : mvS l o 0 = l := by
  unfold mvS
  have := tab_of (l := l) (d := ((0 : Int), (0 : Int), (0 : Int)))
  exact (tab_congr fun i _ => by rw [if_neg (by omega)]; rfl).trans this.symm
theorem mvS_gR {l : List Rd} {o : Nat → Int} {j : Nat} (h : j < l.length) : gR (mvS l o l.length) j = mvR l o j := by
  unfold gR
  rw [List.getD_eq_getElem?_getD]
  unfold mvS; rw [tab_get h, if_pos h]; rfl
theorem tm_mv {x : Rd} {m : Int} {a : Nat} : tm (x.1, x.2.1, m) a = tm x a := by
  unfold tm; split <;> rfl

/-! ### The other fit -/
theorem gc_iff {d p0 p1 p2 p3 p4 q0 q1 q2 q3 q4 : Int} (h : gc d p0 p1 p2 p3 p4 = 1) (h0 : ∃ k, p0 = q0 + k * d) (h1 : ∃ k, p1 = q1 + k * d) (h2 : ∃ k, p2 = q2 + k * d) (h3 : ∃ k, p3 = q3 + k * d) (h4 : ∃ k, p4 = q4 + k * d) : gc d q0 q1 q2 q3 q4 = 1 := by
  obtain ⟨v, v0, v1, v2, v3, v4⟩ := @dvd_gc d q0 q1 q2 q3 q4
  generalize gc d q0 q1 q2 q3 q4 = g at *
  have mk : ∀ {p q : Int}, ((g : Nat) : Int) ∣ q → (∃ k, p = q + k * d) → g ∣ p.natAbs := by
    rintro p q hq ⟨k, rfl⟩
    rw [← Int.ofNat_dvd_left]
    exact Int.dvd_add hq (Int.dvd_trans v (Int.dvd_mul_left _ _))
  have : g ∣ gc d p0 p1 p2 p3 p4 := by
    unfold gc
    exact Nat.dvd_gcd (Nat.dvd_gcd (Nat.dvd_gcd (Nat.dvd_gcd (Nat.dvd_gcd (Int.ofNat_dvd_left.1 v) (mk v0 h0)) (mk v1 h1)) (mk v2 h2)) (mk v3 h3)) (mk v4 h4)
  rw [h] at this
  exact Nat.dvd_one.1 this
theorem mul_cancel {G : Nat} (h : 0 < G) {a b : Int} (e : (G : Int) * a = G * b) : a = b := Int.eq_of_mul_eq_mul_left (by omega) e
/-- The fit of the other movements: the same denominator, the parts greater by what is added. -/
theorem fit_mv {l l' : List Rd} {s : Int} {f g : Fit} {G G' : Nat} (hi : isFit l s f G) (hi' : isFit l' s g G') {o : Nat → Int} (hD : dD l' s = dD l s) (hP : ∀ t, t < 5 → PT l' s t = PT l s t + o t * dD l s) : g.d = f.d ∧ ∀ t, t < 5 → g.p t = f.p t + o t * f.d := by
  have e0 : (G' : Int) * g.d = G * f.d := by rw [← hi'.d, ← hi.d, hD]
  have ep : ∀ t, t < 5 → (G' : Int) * g.p t = G * (f.p t + o t * f.d) := by
    intro t ht
    rw [← hi'.p t ht, hP t ht, hi.p t ht, hi.d]; grind
  have k0 := ep 0 (by omega)
  have k1 := ep 1 (by omega)
  have k2 := ep 2 (by omega)
  have k3 := ep 3 (by omega)
  have k4 := ep 4 (by omega)
  have one : gc f.d (f.p 0 + o 0 * f.d) (f.p 1 + o 1 * f.d) (f.p 2 + o 2 * f.d) (f.p 3 + o 3 * f.d) (f.p 4 + o 4 * f.d) = 1 :=
    gc_iff hi.one ⟨-o 0, by show f.p0 = f.p0 + _ + _; grind⟩ ⟨-o 1, by show f.p1 = f.p1 + _ + _; grind⟩ ⟨-o 2, by show f.p2 = f.p2 + _ + _; grind⟩ ⟨-o 3, by show f.p3 = f.p3 + _ + _; grind⟩ ⟨-o 4, by show f.p4 = f.p4 + _ + _; grind⟩
  have hG : G' = G := by
    have h1 := gc_mul (g := G') (d := g.d) (p0 := g.p 0) (p1 := g.p 1) (p2 := g.p 2) (p3 := g.p 3) (p4 := g.p 4)
    have h2 := gc_mul (g := G) (d := f.d) (p0 := f.p 0 + o 0 * f.d) (p1 := f.p 1 + o 1 * f.d) (p2 := f.p 2 + o 2 * f.d) (p3 := f.p 3 + o 3 * f.d) (p4 := f.p 4 + o 4 * f.d)
    rw [e0, k0, k1, k2, k3, k4, h2, one] at h1
    have h3 : gc g.d (g.p 0) (g.p 1) (g.p 2) (g.p 3) (g.p 4) = 1 := hi'.one
    rw [h3] at h1
    omega
  subst hG
  exact ⟨mul_cancel hi'.g0 e0, fun t ht => mul_cancel hi'.g0 (ep t ht)⟩
theorem whole_mv {f g : Fit} {o : Nat → Int} {x : Rd} {m : Int} (hp : ∀ t, t < 5 → g.p t = f.p t + o t * f.d) : sm g (x.1, x.2.1, m) [0, 1, 2, 3, 4] 5 = sm f x [0, 1, 2, 3, 4] 5 + addd o x * f.d := by
  rw [sm5, sm5]
  have h1 : ∀ t, t < 5 → g.p t * tm (x.1, x.2.1, m) t = f.p t * tm x t + f.d * (o t * tm x t) := by
    intro t ht
    rw [hp t ht, tm_mv]; grind
  rw [sumN_congr h1, sumN_add, sumN_mul]
  unfold addd
  rw [Int.mul_comm f.d]
theorem resid_mv {f g : Fit} {o : Nat → Int} {x : Rd} (hd : g.d = f.d) (hp : ∀ t, t < 5 → g.p t = f.p t + o t * f.d) : resid g (x.1, x.2.1, x.2.2 + addd o x) = resid f x := by
  unfold resid
  rw [whole_mv hp, hd]
  show f.d * (x.2.2 + addd o x) - _ = _
  grind
theorem spr_mv {f g : Fit} {o : Nat → Int} {l : List Rd} (hd : g.d = f.d) (hp : ∀ t, t < 5 → g.p t = f.p t + o t * f.d) : ∀ n, n ≤ l.length → spr g (mvS l o l.length) n = spr f l n
  | 0, _ => rfl
  | n + 1, h => by
    simp only [spr]
    have : rr g (gR (mvS l o l.length) n) = rr f (gR l n) := by
      unfold rr
      rw [mvS_gR (by omega), show resid g (mvR l o n) = resid f (gR l n) from resid_mv hd hp, hd]
    rw [spr_mv hd hp n (by omega), this]
theorem rsL_mv {f g : Fit} {o : Nat → Int} {l : List Rd} (hd : g.d = f.d) (hp : ∀ t, t < 5 → g.p t = f.p t + o t * f.d) : rsL g (mvS l o l.length) l.length = rsL f l l.length := by
  unfold rsL
  refine List.map_congr_left fun j hj => ?_
  have hj := List.mem_range.1 hj
  unfold rr
  rw [mvS_gR hj, show resid g (mvR l o j) = resid f (gR l j) from resid_mv hd hp, hd]
theorem fl_mv {a d A : Int} (hd : 1 ≤ d) : (a + A * d) / d = a / d + A := by
  rw [Int.add_mul_ediv_right _ _ (by omega)]
theorem ceil_mv {a d A : Int} (hd : 1 ≤ d) : -(-(a + A * d) / d) = -(-a / d) + A := by
  rw [show -(a + A * d) = -a + -A * d by grind, Int.add_mul_ediv_right _ _ (by omega)]; omega
end
section
set_option linter.unusedSimpArgs false
set_option linter.unusedVariables false
open Go Go.RowKit

theorem f53s_e {l : List Rd} (hl : l.length ≤ 1000) : f53s l = some l := by
  unfold f53s; rw [fits_t (by omega) (by omega)]; rfl
theorem dmul_b {d m : Int} (hd : 1 ≤ d) (hm : -2000 ≤ m ∧ m ≤ 2000) : -(2000 * d) ≤ d * m ∧ d * m ≤ 2000 * d := by
  have h1 := Int.mul_nonneg (show 0 ≤ d by omega) (show 0 ≤ m + 2000 by omega)
  have h2 := Int.mul_nonneg (show 0 ≤ d by omega) (show 0 ≤ 2000 - m by omega)
  rw [Int.mul_add] at h1
  rw [Int.mul_sub] at h2
  omega
theorem div_b {n d K : Int} (hd : 1 ≤ d) (h : -(K * d) ≤ n ∧ n ≤ K * d) : -K ≤ n / d ∧ n / d ≤ K := by
  constructor
  · rw [Int.le_ediv_iff_mul_le (by omega), Int.neg_mul]; exact h.1
  · have : n / d < K + 1 := by
      rw [Int.ediv_lt_iff_lt_mul (by omega), Int.add_mul, Int.one_mul]
      omega
    omega
theorem rr_b {f : Fit} {x : Rd} (hf : f.ok) (hx : rdP x) : (-500000000002000 ≤ (rr f x).1 ∧ (rr f x).1 ≤ 500000000002000) ∧ (-500000000002000 ≤ (rr f x).2 ∧ (rr f x).2 ≤ 500000000002000) := by
  have h1 := whole_b hf hx
  have h2 := dmul_b hf.1.1 hx.2.2
  have hd := hf.1.1
  have h3 : -(500000000002000 * f.d) ≤ resid f x ∧ resid f x ≤ 500000000002000 * f.d := by unfold resid; omega
  have h4 := div_b (n := resid f x) hd (K := 500000000002000) (by omega)
  have h5 := div_b (n := -(resid f x)) hd (K := 500000000002000) (by omega)
  simp only [rr]
  omega
theorem ab_b {n : Int} (h : -500000000002000 ≤ n ∧ n ≤ 500000000002000) : 0 ≤ ab n ∧ n ≤ ab n ∧ -n ≤ ab n ∧ ab n ≤ 500000000002000 := by
  unfold ab
  rw [wr (by omega) (by omega)]
  omega
theorem spr_b {f : Fit} {l : List Rd} (hf : f.ok) (hx : ∀ j, j < l.length → rdP (gR l j)) : ∀ n, n ≤ l.length → 0 ≤ spr f l n ∧ spr f l n ≤ 500000000002000
  | 0, _ => by simp [spr]
  | n + 1, h => by
    have h1 := spr_b hf hx n (by omega)
    obtain ⟨h2, h3⟩ := rr_b hf (hx n (by omega))
    have h4 := ab_b h2
    have h5 := ab_b h3
    simp only [spr]; omega
theorem whole_q {f : Fit} {x : Rd} (hf : f.ok) (hx : rdP x) : (-500000000000000 ≤ sm f x [0, 1, 2, 3, 4] 5 / f.d ∧ sm f x [0, 1, 2, 3, 4] 5 / f.d ≤ 500000000000000) ∧ (-500000000000000 ≤ -(-(sm f x [0, 1, 2, 3, 4] 5) / f.d) ∧ -(-(sm f x [0, 1, 2, 3, 4] 5) / f.d) ≤ 500000000000000) := by
  have h1 := whole_b hf hx
  have hd := hf.1.1
  have h2 := div_b (n := sm f x [0, 1, 2, 3, 4] 5) hd (K := 500000000000000) (by omega)
  have h3 := div_b (n := -(sm f x [0, 1, 2, 3, 4] 5)) hd (K := 500000000000000) (by omega)
  omega
theorem fl_ceil {a d : Int} (hd : 1 ≤ d) : a / d ≤ -(-a / d) := by
  have h := @ceil_if a d hd
  rw [h]; split <;> omega
theorem f56_ok {f : Fit} {l : List Rd} (hl : l.length ≤ 1000) (h : e2 (rdsE l) (fitE f.d f.p0 f.p1 f.p2 f.p3 f.p4) = 0) (hf : f.ok) (hx : ∀ j, j < l.length → rdP (gR l j)) : f56 l f.d f.p0 f.p1 f.p2 f.p3 f.p4 = some (rsL f l l.length, 0) := by
  rw [f56_e hl, decide_eq_true h, f99_e hf hl hx]; rfl
instance (a : Int) : Decidable (In100 a) := inferInstanceAs (Decidable (-100 ≤ a ∧ a ≤ 100))
theorem rng100 (a : Int) : (decide (-100 ≤ a) && decide (a ≤ 100)) = decide (In100 a) := by
  rw [Bool.eq_iff_iff, Bool.and_eq_true, decide_eq_true_eq, decide_eq_true_eq, decide_eq_true_eq]; rfl
/-- The deviations are the same. -/
theorem dev_mv (lo hi m A : Int) : ∃ y z, f42 lo hi m = some y ∧ f42 (lo + A) (hi + A) (m + A) = some z ∧ (y.2 = 0 → z.2 = 0 → y.1 = z.1) := by
  refine ⟨_, _, f42_e lo hi m, f42_e (lo + A) (hi + A) (m + A), ?_⟩
  cases (!(val lo && val hi && val m)) with
  | true => intro h _; cases h
  | false =>
    cases decide (hi < lo) with
    | true => intro h _; cases h
    | false =>
      cases (!(val (lo + A) && val (hi + A) && val (m + A))) with
      | true => intro _ h; cases h
      | false =>
        cases decide (hi + A < lo + A) with
        | true => intro _ h; cases h
        | false =>
          intro _ _
          show max (max 0 (IntKind.i64.wrap (lo - m))) (IntKind.i64.wrap (m - hi)) = max (max 0 (IntKind.i64.wrap (lo + A - (m + A)))) (IntKind.i64.wrap (m + A - (hi + A)))
          rw [show lo + A - (m + A) = lo - m by omega, show m + A - (hi + A) = m - hi by omega]
set_option maxHeartbeats 1000000 in
theorem f9_true (l : List Rd) (x : Rd) (s a0 a1 a2 a3 a4 : Int) : f9 l x.1 x.2.1 x.2.2 s a0 a1 a2 a3 a4 = some true := by
  unfold f9
  rw [show f50 = some true from rfl]
  simp only [obnd_s, Bool.not_true, oite_f, List.length_map]
  by_cases h12 : l.length ≤ 12
  case neg => rw [ilt_t (by omega)]; rfl
  rw [ilt_f (by omega), oite_f, f51_e (by omega), f32_e, f52_e]
  by_cases hE : rdsE l = 0
  case neg => simp only [obnd_s, ieq_eq, decide_eq_false hE, Bool.not_false, oite_t]
  by_cases hr : rdE x = 0
  case neg => simp only [obnd_s, ieq_eq, decide_eq_true hE, decide_eq_false hr, Bool.not_true, Bool.not_false, oite_t, oite_f]
  by_cases hs : 1 ≤ s ∧ s ≤ 31
  case neg =>
    have : (decide (1 ≤ s) && decide (s ≤ 31)) = false := by
      rw [Bool.and_eq_false_iff, decide_eq_false_iff_not, decide_eq_false_iff_not]; omega
    rw [this]
    simp only [obnd_s, Bool.not_true, oite_f, ieq_eq, decide_eq_true hE, decide_eq_true hr, cond_false]; rfl
  rw [decide_eq_true hs.1, decide_eq_true hs.2]
  obtain ⟨hl, hx⟩ := rds_0 hE
  have hxx := rdE_0 hr
  simp only [obnd_s, Bool.not_true, oite_f, ieq_eq, decide_eq_true hE, decide_eq_true hr, Bool.and_true, cond_true, decide_true, f15_e, rng100]
  by_cases i0 : In100 a0
  case neg => rw [decide_eq_false i0]; rfl
  by_cases i1 : In100 a1
  case neg => rw [decide_eq_true i0, decide_eq_false i1]; rfl
  by_cases i2 : In100 a2
  case neg => rw [decide_eq_true i0, decide_eq_true i1, decide_eq_false i2]; rfl
  by_cases i3 : In100 a3
  case neg => rw [decide_eq_true i0, decide_eq_true i1, decide_eq_true i2, decide_eq_false i3]; rfl
  by_cases i4 : In100 a4
  case neg => rw [decide_eq_true i0, decide_eq_true i1, decide_eq_true i2, decide_eq_true i3, decide_eq_false i4]; rfl
  rw [decide_eq_true i0, decide_eq_true i1, decide_eq_true i2, decide_eq_true i3, decide_eq_true i4]
  simp only [Bool.not_true, oite_f, obndS_l, f53s_e (show l.length ≤ 1000 by omega), obnd_s]
  have ho := oT_b (s := s) i0 i1 i2 i3 i4
  have hout := fun t (_ : t < 5) hb => @oT_out s a0 a1 a2 a3 a4 t hb
  rw [oloop_all (fun i => ((i : Int), mvS l (oT s a0 a1 a2 a3 a4) i)) l.length (r := mvS l (oT s a0 a1 a2 a3 a4) l.length) (by rw [mvS_0]; rfl) ?_ ?_]
  · rw [f54_e i0 i1 i2 i3 i4 hxx]
    simp only [obnd_s]
    generalize oT s a0 a1 a2 a3 a4 = o at *
    have hA := addd_b ho hxx
    have hm := hxx.2.2
    rw [wr (n := x.2.2 + addd o x) (by omega) (by omega), f51_e (by rw [mvS_len]; omega), show f32 x.1 x.2.1 (x.2.2 + addd o x) = some (rdE (x.1, x.2.1, x.2.2 + addd o x)) from f32_e (x.1, x.2.1, x.2.2 + addd o x)]
    by_cases hE' : rdsE (mvS l o l.length) = 0
    case neg => simp only [obnd_s, decide_eq_false hE', Bool.not_false, oite_t]
    by_cases hr' : rdE (x.1, x.2.1, x.2.2 + addd o x) = 0
    case neg => simp only [obnd_s, decide_eq_true hE', decide_eq_false hr', Bool.not_true, Bool.not_false, oite_t, oite_f]
    obtain ⟨hl', hx'⟩ := rds_0 hE'
    have hxx' := rdE_0 hr'
    have hlen := mvS_len (l := l) (o := o) (i := l.length)
    have ht : ∀ j a, j < l.length → tm (gR (mvS l o l.length) j) a = tm (gR l j) a := fun j a hj => by rw [mvS_gR hj]; exact tm_mv
    have hmv : ∀ j, j < l.length → (gR (mvS l o l.length) j).2.2 = (gR l j).2.2 + sumN 5 fun t => o t * tm (gR l j) t := fun j hj => by rw [mvS_gR hj]; rfl
    have hD : dD (mvS l o l.length) s = dD l s := dD_same hlen ht
    have hP : ∀ t, t < 5 → PT (mvS l o l.length) s t = PT l s t + o t * dD l s := fun t h5 => PT_same hl hx hx' hlen ht hout hmv h5
    have n1 : l.length ≤ 1000 := by omega
    have n2 : (mvS l o l.length).length ≤ 1000 := by omega
    simp only [obnd_s, decide_eq_true hE', decide_eq_true hr', Bool.not_true, oite_f, f53_e n1, f53_e n2]
    rcases f55_is hE hs with ⟨h, d0⟩ | ⟨h, d0⟩ | ⟨f, G, hi, h⟩
    · rcases f55_is hE' hs with ⟨h', d1⟩ | ⟨h', d1⟩ | ⟨g, G', hi', h'⟩
      · rw [h, h']; rfl
      · exact absurd (hD.trans d0) d1
      · have d2 : dD (mvS l o l.length) s = 0 := hD.trans d0
        rw [hi'.d] at d2
        have h1 := hi'.g0
        have h2 : 1 ≤ g.d := (fit_ok hi'.err).1.1
        rcases Int.mul_eq_zero.1 d2 with h3 | h3 <;> omega
    · rcases f55_is hE' hs with ⟨h', d1⟩ | ⟨h', d1⟩ | ⟨g, G', hi', h'⟩
      · exact absurd (hD.symm.trans d1) d0
      · rw [h, h']; rfl
      · rw [h, h']; rfl
    · have hf : f.ok := fit_ok hi.err
      rcases f55_is hE' hs with ⟨h', d1⟩ | ⟨h', d1⟩ | ⟨g, G', hi', h'⟩
      · have d2 : dD l s = 0 := hD.symm.trans d1
        rw [hi.d] at d2
        have h1 := hi.g0
        have h2 := hf.1.1
        rcases Int.mul_eq_zero.1 d2 with h3 | h3 <;> omega
      · rw [h, h']; rfl
      · have hg : g.ok := fit_ok hi'.err
        obtain ⟨ed, ep⟩ := fit_mv hi hi' hD hP
        have x1 : e2 (rdsE l) (fitE f.d f.p0 f.p1 f.p2 f.p3 f.p4) = 0 := by unfold e2; rw [if_pos hE]; exact hi.err
        have x2 : e2 (rdsE (mvS l o l.length)) (fitE g.d g.p0 g.p1 g.p2 g.p3 g.p4) = 0 := by unfold e2; rw [if_pos hE']; exact hi'.err
        have hsp := spr_b hf hx l.length (Nat.le_refl _)
        have hq := whole_q hf hxx
        have hc : sm f x [0, 1, 2, 3, 4] 5 / f.d ≤ -(-(sm f x [0, 1, 2, 3, 4] 5) / f.d) := fl_ceil hf.1.1
        have e59 := f59_ok (f := g) (x := (x.1, x.2.1, x.2.2 + addd o x)) n2 x2 hg hx' hr'
        rw [whole_mv ep, ed, fl_mv hf.1.1, ceil_mv hf.1.1, hlen, spr_mv ed ep l.length (Nat.le_refl _)] at e59
        have e56 := f56_ok (f := g) n2 x2 hg hx'
        rw [hlen, rsL_mv ed ep] at e56
        have e57 := f57_ok (f := g) n2 x2 hg hx'
        rw [hlen, spr_mv ed ep l.length (Nat.le_refl _)] at e57
        rw [ed] at e56 e57
        rw [h, h']
        simp only [obnd_s, decide_true, Bool.not_true, oite_f, ed, f56_ok n1 x1 hf hx, f57_ok n1 x1 hf hx, f59_ok n1 x1 hf hx hr, e56, e57, show f59 (mvS l o l.length) f.d g.p0 g.p1 g.p2 g.p3 g.p4 x.1 x.2.1 (x.2.2 + addd o x) = _ from e59, f58_refl (l := rsL f l l.length) (by simp [rsL_len]; omega)]
        rw [show decide ((0 : Int) = 12) = false from rfl]
        simp only [oite_f, obnd_s]
        rw [wr (n := sm f x [0, 1, 2, 3, 4] 5 / f.d - spr f l l.length) (by omega) (by omega), wr (n := -(-(sm f x [0, 1, 2, 3, 4] 5) / f.d) + spr f l l.length) (by omega) (by omega), wr (n := sm f x [0, 1, 2, 3, 4] 5 / f.d + addd o x - spr f l l.length) (by omega) (by omega), wr (n := -(-(sm f x [0, 1, 2, 3, 4] 5) / f.d) + addd o x + spr f l l.length) (by omega) (by omega)]
        generalize sm f x [0, 1, 2, 3, 4] 5 / f.d = lo at *
        generalize -(-(sm f x [0, 1, 2, 3, 4] 5) / f.d) = hi at *
        generalize spr f l l.length = S at *
        generalize addd o x = A at *
        rw [wr (n := lo - S + A) (by omega) (by omega), wr (n := hi + S + A) (by omega) (by omega), decide_eq_true (show -1125899906842624 ≤ lo - S by omega), decide_eq_true (show lo - S ≤ 1125899906842624 by omega), decide_eq_true (show lo - S ≤ hi + S by omega), decide_eq_true (show hi + S ≤ 1125899906842624 by omega), decide_eq_true (show lo + A - S = lo - S + A by omega), decide_eq_true (show hi + A + S = hi + S + A by omega)]
        simp only [Bool.and_true, Bool.not_true, oite_f, obnd_s]
        obtain ⟨y, z, g1, g2, g3⟩ := dev_mv (lo - S) (hi + S) x.2.2 A
        rw [show lo + A - S = lo - S + A by omega, show hi + A + S = hi + S + A by omega, g1, g2]
        simp only [obnd_s]
        by_cases y0 : y.2 = 0
        · by_cases z0 : z.2 = 0
          · rw [decide_eq_true y0, decide_eq_true z0, decide_eq_true (g3 y0 z0)]; rfl
          · rw [decide_eq_true y0, decide_eq_false z0]; rfl
        · rw [decide_eq_false y0]; rfl
  · intro i hil
    have hp := hx i hil
    have hA := addd_b ho hp
    have hm := hp.2.2
    simp only [ilt_t (show (i : Int) < ((l.length : Nat) : Int) by omega), ile_t (show 0 ≤ (i : Int) by omega), oite_t, ogrd_t, Int.toNat_natCast, mvS_get hil, get_gR hil, obnd_s, f54_e i0 i1 i2 i3 i4 hp, w_succ (show i < 1000000 by omega)]
    rw [wr (n := (gR l i).2.2 + addd (oT s a0 a1 a2 a3 a4) (gR l i)) (by omega) (by omega)]
    show some (Sum.inl (((i + 1 : Nat) : Int), (mvS l (oT s a0 a1 a2 a3 a4) i).set i (mvR l (oT s a0 a1 a2 a3 a4) i))) = _
    rw [mvS_s]
  · simp only [ilt_f (Int.le_refl ((l.length : Nat) : Int)), oite_f, mvS_len, beq_t rfl, ogrd_t]; rfl
end
end Go.Proofs.Ytacgibkgojnfeaa.AM
